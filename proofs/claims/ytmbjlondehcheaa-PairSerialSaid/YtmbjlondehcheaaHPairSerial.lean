/- PairSerial, walked: whatever two units, two codes and number, it answers true. -/
import Derived.Test.YtmbjlondehcheaaProg
import Derived.Below
import Derived.OneCell
import Derived.WalkKit
import Derived.KernelRfl
import Derived.RowKit3
import Derived.Deep.LoopGhost
import Derived.Deep.QuietTactic
import Derived.BigQuiet
import Derived.Deep.DeepCutAuto
import Derived.Deep.CutBlock
import Derived.Deep.RegionWith
import Derived.OwnWalk
import Derived.Laws.Tables
import Derived.Laws.AppendOwn
import Derived.Shelf.SlSortCmp.KitK
import Derived.Shelf.RegionOpenPlain
import Derived.Sort.WalkB2
import Derived.Deep.MidRow
import Derived.Great.Walk
import Derived.Test.YtmbjlondehcheaaWWords
import Derived.Test.YtmbjlondehcheaaWLast
import Derived.Laws.StructEq
import Derived.Maps.Own
import Derived.Maps.RangeRun
import Derived.Test.YtmbjlondehcheaaHPairAwake
set_option linter.unusedSimpArgs false
set_option linter.unusedVariables false
namespace Go.Proofs.Ytmbjlondehcheaa
open Go.Shelf Go.RowKit Go.Lib Go.Sort Go.Proofs.YtmbjlondehcheaaW.PrintWords Go.Proofs.YtmbjlondehcheaaW.PrintLast

theorem head_u (u : Int) : Try.prog.built 35 [(0, .int .u8 u)] = some #[.int .u8 u, .int .u16 0] := by kernel_rfl
theorem fr_built1 (c x v : Int) (hc : 0 ≤ c ∧ c < 256) : Try.prog.built 44 [(1, .agg (msg c x v).toArray)] = some (mkF 0 0 c x v (by decide) (by decide) hc).cs.toArray := by kernel_rfl

theorem se_all (L : List Ent) (all : Nat) (x : Fr) (h : x.u = 0) : step false L all 0 x = ([⟨1, x, fr0⟩], L, all) := by simp [step, ask, h]
theorem se_ask (all : Nat) (x : Fr) (h : ¬ x.u = 0) : step false [] all 0 x = ([⟨0, x, fr0⟩], [⟨all, x⟩], all + 1) := by simp [step, ask, h]
theorem se_drop (all : Nat) (y : Ent) (x : Fr) (h : ¬ x.u = 0) : step false [y] all 0 x = ([⟨2, y.f, fr0⟩, ⟨0, x, fr0⟩], [⟨all, x⟩], all + 1) := by simp [step, ask, h]
theorem se_ans (all : Nat) (y : Ent) (x : Fr) (h : y.f.u = x.u) (hc : y.f.c = x.c) : step false [y] all 1 x = ([⟨4, y.f, x⟩], [], all) := by
  simp [step, ans, hdOf, hd, h, hc]
theorem se_no (all : Nat) (y : Ent) (x : Fr) (h : ¬ y.f.u = x.u) : step false [y] all 1 x = ([⟨6, fr0, x⟩], [y], all) := by
  simp [step, ans, hdOf, hd, h]
theorem se_nil (all : Nat) (x : Fr) : step false [] all 1 x = ([⟨6, fr0, x⟩], [], all) := rfl

theorem Res.shape {w : World} {F : Nat → Prop} {v : Value} {ns : List Nt} (h : Res w F v ns) : ∃ a cap, v = .slice a ns.length cap := owns_len h.row

set_option maxHeartbeats 8000000 in
set_option maxRecDepth 1000000 in
theorem serial_calls (a b c d tid : Int) (ha : 0 ≤ a ∧ a < 256) (hb : 0 ≤ b ∧ b < 256) (hc : 0 ≤ c ∧ c < 256) (hd : 0 ≤ d ∧ d < 256) (ht : 0 ≤ tid ∧ tid < 65536) (w : World) :
    Calls Try.prog 6 #[.int .u8 a, .int .u8 b, .int .u8 c, .int .u8 d, .int .u16 tid] w fun r w' => r = .returned (.bool true) ∧ Kept w w' (fun _ => False) := by
  have haw := awake_calls w
  have hnew := new_calls 1 (.inr (.inl rfl))
  have t0 : (0 : Int) ≤ 0 ∧ (0 : Int) < 65536 := by decide
  have e25 := fr_built a 0 c 0 0 ha t0 hc
  have e33 := fr_built b tid d 0 0 hb ht hd
  have e37 := fr_built1 5 0 0 (by decide)
  have e44 := fr_built b 0 d 2 0 hb t0 hd
  generalize hA : mkF a 0 c 0 0 ha t0 hc = A at e25
  generalize hB : mkF b tid d 0 0 hb ht hd = B at e33
  generalize hC : mkF 0 0 5 0 0 (by decide) (by decide) (by decide) = C at e37
  generalize hD : mkF b 0 d 2 0 hb t0 hd = D at e44
  have cA : Aside0 (A.c = c) := ⟨by rw [← hA]; rfl⟩
  have cB0 : Aside0 (B.u = b) := ⟨by rw [← hB]; rfl⟩
  have cB1 : Aside0 (B.t = tid) := ⟨by rw [← hB]; rfl⟩
  have uA : A.u = a := by rw [← hA]; rfl
  have uB : B.u = b := by rw [← hB]; rfl
  have uC : C.u = 0 := by rw [← hC]; rfl
  have uD : D.u = b := by rw [← hD]; rfl
  have xBD : B.c = D.c := by rw [← hB, ← hD]; rfl
  clear hA hB hC hD
  by_cases ha0 : a = 0
  · by_cases hb0 : b = 0
    · subst ha0
      subst hb0
      have S1 : Aside0 _ := ⟨se_all [] 0 A uA⟩
      have S2 : Aside0 _ := ⟨se_all [] 0 B uB⟩
      have S3 : Aside0 _ := ⟨se_all [] 0 C uC⟩
      have S4 : Aside0 _ := ⟨se_nil 0 D⟩
      clear uA uB uC uD xBD
      go_enter Try.func6, Try.ntmps6
      go_wp2_with (first
        | (go_at_call 9; with_reducible refine haw.mono ?_; rintro e w0 ⟨rfl, kk⟩; clear haw)
        | (go_at_call 11; with_reducible refine (hnew _).mono ?_; rintro e w1 ⟨pb, F, rfl, O1', hF, k1⟩; clear hnew; have O1 : Own w1 pb false [] 0 F := (by simpa using O1'); clear O1'; have hF0 : ∀ b, F b → w.heap.size ≤ b := (fun b hb => Nat.le_trans kk.size (hF b hb)); have KK := kk.trans k1 (fun _ _ h => h) (fun _ _ h => h); clear kk k1 hF; have T1 := O1.take_ (by omega) 0 A S1.out)
        | (refine wpList_buildTo rfl 35 _ rfl (some 22) rfl #[.int .u8 0, .int .u16 0] ?_ ?_; (simp only [List.map_toArray, List.map_cons, List.map_nil]; exact head_u 0))
        | (refine wpList_buildTo rfl 42 _ rfl (some 24) rfl (msg c 0 0).toArray ?_ ?_; (simp only [List.map_toArray, List.map_cons, List.map_nil]; exact msg_c c))
        | (refine wpList_buildTo rfl 44 _ rfl (some 25) rfl A.cs.toArray ?_ ?_; (simp only [List.map_toArray, List.map_cons, List.map_nil]; exact e25))
        | (refine wpList_buildTo rfl 35 _ rfl (some 30) rfl #[.int .u8 0, .int .u16 tid] ?_ ?_; (simp only [List.map_toArray, List.map_cons, List.map_nil]; exact head_ut 0 tid))
        | (refine wpList_buildTo rfl 42 _ rfl (some 32) rfl (msg d 0 0).toArray ?_ ?_; (simp only [List.map_toArray, List.map_cons, List.map_nil]; exact msg_c d))
        | (refine wpList_buildTo rfl 44 _ rfl (some 33) rfl B.cs.toArray ?_ ?_; (simp only [List.map_toArray, List.map_cons, List.map_nil]; exact e33))
        | (refine wpList_buildTo rfl 42 _ rfl (some 36) rfl (msg 5 0 0).toArray ?_ ?_; (simp only [List.map_toArray, List.map_cons, List.map_nil]; exact msg_c 5))
        | (refine wpList_buildTo rfl 44 _ rfl (some 37) rfl C.cs.toArray ?_ ?_; (simp only [List.map_toArray, List.map_cons, List.map_nil]; exact e37))
        | (refine wpList_buildTo rfl 35 _ rfl (some 41) rfl #[.int .u8 0, .int .u16 0] ?_ ?_; (simp only [List.map_toArray, List.map_cons, List.map_nil]; exact head_u 0))
        | (refine wpList_buildTo rfl 42 _ rfl (some 43) rfl (msg d 2 0).toArray ?_ ?_; (simp only [List.map_toArray, List.map_cons, List.map_nil]; exact msg_cx d 2))
        | (refine wpList_buildTo rfl 44 _ rfl (some 44) rfl D.cs.toArray ?_ ?_; (simp only [List.map_toArray, List.map_cons, List.map_nil]; exact e44))
        | (have q6 := T1; go_at_call 12; with_reducible refine T1.mono ?_; rintro e w2 ⟨v1, F1, rfl, O2, R1, ft, k1⟩; clear T1 q6; have hF' := foot_new hF0 ft KK.size; have KK' := kept_foot KK k1 hF0; clear hF0 KK; have hF0 := hF'; have KK := KK'; clear hF' KK'; clear k1 ft; have T2 := O2.take_ (by omega) 0 B S2.out)
        | (have q6 := T2; go_at_call 12; with_reducible refine T2.mono ?_; rintro e w3 ⟨v2, F2, rfl, O3, R2, ft, k1⟩; clear T2 q6; have hF' := foot_new hF0 ft KK.size; have KK' := kept_foot KK k1 hF0; clear hF0 KK; have hF0 := hF'; have KK := KK'; clear hF' KK'; clear k1 ft; have T3 := O3.take_ (by omega) 0 C S3.out)
        | (have q6 := T3; go_at_call 12; with_reducible refine T3.mono ?_; rintro e w4 ⟨v3, F3, rfl, O4, R3, ft, k1⟩; clear T3 q6; have hF' := foot_new hF0 ft KK.size; have KK' := kept_foot KK k1 hF0; clear hF0 KK; have hF0 := hF'; have KK := KK'; clear hF' KK'; have R2' := R2.next k1 ft; clear R2; have R2 := R2'; clear R2'; clear k1 ft; have T4 := O4.take_ (by omega) 1 D S4.out)
        | (have q6 := T4; go_at_call 12; with_reducible refine T4.mono ?_; rintro e w5 ⟨v4, F4, rfl, O5, R4, ft, k1⟩; clear T4 q6; have hF' := foot_new hF0 ft KK.size; have KK' := kept_foot KK k1 hF0; clear hF0 KK; have hF0 := hF'; have KK := KK'; clear hF' KK'; have R2' := R2.next k1 ft; clear R2; have R2 := R2'; clear R2'; have R3' := R3.next k1 ft; clear R3; have R3 := R3'; clear R3'; clear k1 ft; obtain ⟨s2, p2, rfl⟩ := R2.shape; obtain ⟨s3, p3, rfl⟩ := R3.shape; obtain ⟨s4, p4, rfl⟩ := R4.shape; simp only [List.length_cons, List.length_nil, Nat.zero_add] at *; clear R1 R2 R3 R4))
      all_goals go_ret
      all_goals first | exact ⟨rfl, KK⟩ | exact ⟨rfl, KK⟩
    · subst ha0
      have S1 : Aside0 _ := ⟨se_all [] 0 A uA⟩
      have S2 : Aside0 _ := ⟨se_ask 0 B (fun h => hb0 (uB.symm.trans h))⟩
      have S3 : Aside0 _ := ⟨se_all [⟨(0 : Nat), B⟩] 1 C uC⟩
      have S4 : Aside0 _ := ⟨se_ans 1 ⟨(0 : Nat), B⟩ D (uB.trans uD.symm) xBD⟩
      clear uA uB uC uD xBD
      go_enter Try.func6, Try.ntmps6
      go_wp2_with (first
        | (go_at_call 9; with_reducible refine haw.mono ?_; rintro e w0 ⟨rfl, kk⟩; clear haw)
        | (go_at_call 11; with_reducible refine (hnew _).mono ?_; rintro e w1 ⟨pb, F, rfl, O1', hF, k1⟩; clear hnew; have O1 : Own w1 pb false [] 0 F := (by simpa using O1'); clear O1'; have hF0 : ∀ b, F b → w.heap.size ≤ b := (fun b hb => Nat.le_trans kk.size (hF b hb)); have KK := kk.trans k1 (fun _ _ h => h) (fun _ _ h => h); clear kk k1 hF; have T1 := O1.take_ (by omega) 0 A S1.out)
        | (refine wpList_buildTo rfl 35 _ rfl (some 22) rfl #[.int .u8 0, .int .u16 0] ?_ ?_; (simp only [List.map_toArray, List.map_cons, List.map_nil]; exact head_u 0))
        | (refine wpList_buildTo rfl 42 _ rfl (some 24) rfl (msg c 0 0).toArray ?_ ?_; (simp only [List.map_toArray, List.map_cons, List.map_nil]; exact msg_c c))
        | (refine wpList_buildTo rfl 44 _ rfl (some 25) rfl A.cs.toArray ?_ ?_; (simp only [List.map_toArray, List.map_cons, List.map_nil]; exact e25))
        | (refine wpList_buildTo rfl 35 _ rfl (some 30) rfl #[.int .u8 b, .int .u16 tid] ?_ ?_; (simp only [List.map_toArray, List.map_cons, List.map_nil]; exact head_ut b tid))
        | (refine wpList_buildTo rfl 42 _ rfl (some 32) rfl (msg d 0 0).toArray ?_ ?_; (simp only [List.map_toArray, List.map_cons, List.map_nil]; exact msg_c d))
        | (refine wpList_buildTo rfl 44 _ rfl (some 33) rfl B.cs.toArray ?_ ?_; (simp only [List.map_toArray, List.map_cons, List.map_nil]; exact e33))
        | (refine wpList_buildTo rfl 42 _ rfl (some 36) rfl (msg 5 0 0).toArray ?_ ?_; (simp only [List.map_toArray, List.map_cons, List.map_nil]; exact msg_c 5))
        | (refine wpList_buildTo rfl 44 _ rfl (some 37) rfl C.cs.toArray ?_ ?_; (simp only [List.map_toArray, List.map_cons, List.map_nil]; exact e37))
        | (refine wpList_buildTo rfl 35 _ rfl (some 41) rfl #[.int .u8 b, .int .u16 0] ?_ ?_; (simp only [List.map_toArray, List.map_cons, List.map_nil]; exact head_u b))
        | (refine wpList_buildTo rfl 42 _ rfl (some 43) rfl (msg d 2 0).toArray ?_ ?_; (simp only [List.map_toArray, List.map_cons, List.map_nil]; exact msg_cx d 2))
        | (refine wpList_buildTo rfl 44 _ rfl (some 44) rfl D.cs.toArray ?_ ?_; (simp only [List.map_toArray, List.map_cons, List.map_nil]; exact e44))
        | (have q6 := T1; go_at_call 12; with_reducible refine T1.mono ?_; rintro e w2 ⟨v1, F1, rfl, O2, R1, ft, k1⟩; clear T1 q6; have hF' := foot_new hF0 ft KK.size; have KK' := kept_foot KK k1 hF0; clear hF0 KK; have hF0 := hF'; have KK := KK'; clear hF' KK'; clear k1 ft; have T2 := O2.take_ (by omega) 0 B S2.out)
        | (have q6 := T2; go_at_call 12; with_reducible refine T2.mono ?_; rintro e w3 ⟨v2, F2, rfl, O3, R2, ft, k1⟩; clear T2 q6; have hF' := foot_new hF0 ft KK.size; have KK' := kept_foot KK k1 hF0; clear hF0 KK; have hF0 := hF'; have KK := KK'; clear hF' KK'; clear k1 ft; have T3 := O3.take_ (by omega) 0 C S3.out)
        | (have q6 := T3; go_at_call 12; with_reducible refine T3.mono ?_; rintro e w4 ⟨v3, F3, rfl, O4, R3, ft, k1⟩; clear T3 q6; have hF' := foot_new hF0 ft KK.size; have KK' := kept_foot KK k1 hF0; clear hF0 KK; have hF0 := hF'; have KK := KK'; clear hF' KK'; have R2' := R2.next k1 ft; clear R2; have R2 := R2'; clear R2'; clear k1 ft; have T4 := O4.take_ (by omega) 1 D S4.out)
        | (have q6 := T4; go_at_call 12; with_reducible refine T4.mono ?_; rintro e w5 ⟨v4, F4, rfl, O5, R4, ft, k1⟩; clear T4 q6; have hF' := foot_new hF0 ft KK.size; have KK' := kept_foot KK k1 hF0; clear hF0 KK; have hF0 := hF'; have KK := KK'; clear hF' KK'; have R2' := R2.next k1 ft; clear R2; have R2 := R2'; clear R2'; have R3' := R3.next k1 ft; clear R3; have R3 := R3'; clear R3'; clear k1 ft; obtain ⟨s2, p2, rfl⟩ := R2.shape; obtain ⟨s3, p3, rfl⟩ := R3.shape; obtain ⟨s4, p4, rfl⟩ := R4.shape; simp only [List.length_cons, List.length_nil, Nat.zero_add] at *; clear R1 R2 R3 R4))
      all_goals go_ret
      all_goals first | exact ⟨rfl, KK⟩ | exact ⟨rfl, KK⟩
  · by_cases hb0 : b = 0
    · subst hb0
      have S1 : Aside0 _ := ⟨se_ask 0 A (fun h => ha0 (uA.symm.trans h))⟩
      have S2 : Aside0 _ := ⟨se_all [⟨(0 : Nat), A⟩] 1 B uB⟩
      have S3 : Aside0 _ := ⟨se_all [⟨(0 : Nat), A⟩] 1 C uC⟩
      have S4 : Aside0 _ := ⟨se_no 1 ⟨(0 : Nat), A⟩ D (fun h => ha0 (uA.symm.trans (h.trans uD)))⟩
      clear uA uB uC uD xBD
      go_enter Try.func6, Try.ntmps6
      go_wp2_with (first
        | (go_at_call 9; with_reducible refine haw.mono ?_; rintro e w0 ⟨rfl, kk⟩; clear haw)
        | (go_at_call 11; with_reducible refine (hnew _).mono ?_; rintro e w1 ⟨pb, F, rfl, O1', hF, k1⟩; clear hnew; have O1 : Own w1 pb false [] 0 F := (by simpa using O1'); clear O1'; have hF0 : ∀ b, F b → w.heap.size ≤ b := (fun b hb => Nat.le_trans kk.size (hF b hb)); have KK := kk.trans k1 (fun _ _ h => h) (fun _ _ h => h); clear kk k1 hF; have T1 := O1.take_ (by omega) 0 A S1.out)
        | (refine wpList_buildTo rfl 35 _ rfl (some 22) rfl #[.int .u8 a, .int .u16 0] ?_ ?_; (simp only [List.map_toArray, List.map_cons, List.map_nil]; exact head_u a))
        | (refine wpList_buildTo rfl 42 _ rfl (some 24) rfl (msg c 0 0).toArray ?_ ?_; (simp only [List.map_toArray, List.map_cons, List.map_nil]; exact msg_c c))
        | (refine wpList_buildTo rfl 44 _ rfl (some 25) rfl A.cs.toArray ?_ ?_; (simp only [List.map_toArray, List.map_cons, List.map_nil]; exact e25))
        | (refine wpList_buildTo rfl 35 _ rfl (some 30) rfl #[.int .u8 0, .int .u16 tid] ?_ ?_; (simp only [List.map_toArray, List.map_cons, List.map_nil]; exact head_ut 0 tid))
        | (refine wpList_buildTo rfl 42 _ rfl (some 32) rfl (msg d 0 0).toArray ?_ ?_; (simp only [List.map_toArray, List.map_cons, List.map_nil]; exact msg_c d))
        | (refine wpList_buildTo rfl 44 _ rfl (some 33) rfl B.cs.toArray ?_ ?_; (simp only [List.map_toArray, List.map_cons, List.map_nil]; exact e33))
        | (refine wpList_buildTo rfl 42 _ rfl (some 36) rfl (msg 5 0 0).toArray ?_ ?_; (simp only [List.map_toArray, List.map_cons, List.map_nil]; exact msg_c 5))
        | (refine wpList_buildTo rfl 44 _ rfl (some 37) rfl C.cs.toArray ?_ ?_; (simp only [List.map_toArray, List.map_cons, List.map_nil]; exact e37))
        | (refine wpList_buildTo rfl 35 _ rfl (some 41) rfl #[.int .u8 0, .int .u16 0] ?_ ?_; (simp only [List.map_toArray, List.map_cons, List.map_nil]; exact head_u 0))
        | (refine wpList_buildTo rfl 42 _ rfl (some 43) rfl (msg d 2 0).toArray ?_ ?_; (simp only [List.map_toArray, List.map_cons, List.map_nil]; exact msg_cx d 2))
        | (refine wpList_buildTo rfl 44 _ rfl (some 44) rfl D.cs.toArray ?_ ?_; (simp only [List.map_toArray, List.map_cons, List.map_nil]; exact e44))
        | (have q6 := T1; go_at_call 12; with_reducible refine T1.mono ?_; rintro e w2 ⟨v1, F1, rfl, O2, R1, ft, k1⟩; clear T1 q6; have hF' := foot_new hF0 ft KK.size; have KK' := kept_foot KK k1 hF0; clear hF0 KK; have hF0 := hF'; have KK := KK'; clear hF' KK'; clear k1 ft; have T2 := O2.take_ (by omega) 0 B S2.out)
        | (have q6 := T2; go_at_call 12; with_reducible refine T2.mono ?_; rintro e w3 ⟨v2, F2, rfl, O3, R2, ft, k1⟩; clear T2 q6; have hF' := foot_new hF0 ft KK.size; have KK' := kept_foot KK k1 hF0; clear hF0 KK; have hF0 := hF'; have KK := KK'; clear hF' KK'; clear k1 ft; have T3 := O3.take_ (by omega) 0 C S3.out)
        | (have q6 := T3; go_at_call 12; with_reducible refine T3.mono ?_; rintro e w4 ⟨v3, F3, rfl, O4, R3, ft, k1⟩; clear T3 q6; have hF' := foot_new hF0 ft KK.size; have KK' := kept_foot KK k1 hF0; clear hF0 KK; have hF0 := hF'; have KK := KK'; clear hF' KK'; have R2' := R2.next k1 ft; clear R2; have R2 := R2'; clear R2'; clear k1 ft; have T4 := O4.take_ (by omega) 1 D S4.out)
        | (have q6 := T4; go_at_call 12; with_reducible refine T4.mono ?_; rintro e w5 ⟨v4, F4, rfl, O5, R4, ft, k1⟩; clear T4 q6; have hF' := foot_new hF0 ft KK.size; have KK' := kept_foot KK k1 hF0; clear hF0 KK; have hF0 := hF'; have KK := KK'; clear hF' KK'; have R2' := R2.next k1 ft; clear R2; have R2 := R2'; clear R2'; have R3' := R3.next k1 ft; clear R3; have R3 := R3'; clear R3'; clear k1 ft; obtain ⟨s2, p2, rfl⟩ := R2.shape; obtain ⟨s3, p3, rfl⟩ := R3.shape; obtain ⟨s4, p4, rfl⟩ := R4.shape; simp only [List.length_cons, List.length_nil, Nat.zero_add] at *; clear R1 R2 R3 R4))
      all_goals go_ret
      all_goals first | exact ⟨rfl, KK⟩ | exact ⟨rfl, KK⟩
    · have qa : (a == 0) = false := by simpa using ha0
      have qb : (b == 0) = false := by simpa using hb0
      have S1 : Aside0 _ := ⟨se_ask 0 A (fun h => ha0 (uA.symm.trans h))⟩
      have S2 : Aside0 _ := ⟨se_drop 1 ⟨(0 : Nat), A⟩ B (fun h => hb0 (uB.symm.trans h))⟩
      have S3 : Aside0 _ := ⟨se_all [⟨(1 : Nat), B⟩] 2 C uC⟩
      have S4 : Aside0 _ := ⟨se_ans 2 ⟨(1 : Nat), B⟩ D (uB.trans uD.symm) xBD⟩
      clear uA uB uC uD xBD
      go_enter Try.func6, Try.ntmps6
      go_wp2_with (first
        | (go_at_call 9; with_reducible refine haw.mono ?_; rintro e w0 ⟨rfl, kk⟩; clear haw)
        | (go_at_call 11; with_reducible refine (hnew _).mono ?_; rintro e w1 ⟨pb, F, rfl, O1', hF, k1⟩; clear hnew; have O1 : Own w1 pb false [] 0 F := (by simpa using O1'); clear O1'; have hF0 : ∀ b, F b → w.heap.size ≤ b := (fun b hb => Nat.le_trans kk.size (hF b hb)); have KK := kk.trans k1 (fun _ _ h => h) (fun _ _ h => h); clear kk k1 hF; have T1 := O1.take_ (by omega) 0 A S1.out)
        | (refine wpList_buildTo rfl 35 _ rfl (some 22) rfl #[.int .u8 a, .int .u16 0] ?_ ?_; (simp only [List.map_toArray, List.map_cons, List.map_nil]; exact head_u a))
        | (refine wpList_buildTo rfl 42 _ rfl (some 24) rfl (msg c 0 0).toArray ?_ ?_; (simp only [List.map_toArray, List.map_cons, List.map_nil]; exact msg_c c))
        | (refine wpList_buildTo rfl 44 _ rfl (some 25) rfl A.cs.toArray ?_ ?_; (simp only [List.map_toArray, List.map_cons, List.map_nil]; exact e25))
        | (refine wpList_buildTo rfl 35 _ rfl (some 30) rfl #[.int .u8 b, .int .u16 tid] ?_ ?_; (simp only [List.map_toArray, List.map_cons, List.map_nil]; exact head_ut b tid))
        | (refine wpList_buildTo rfl 42 _ rfl (some 32) rfl (msg d 0 0).toArray ?_ ?_; (simp only [List.map_toArray, List.map_cons, List.map_nil]; exact msg_c d))
        | (refine wpList_buildTo rfl 44 _ rfl (some 33) rfl B.cs.toArray ?_ ?_; (simp only [List.map_toArray, List.map_cons, List.map_nil]; exact e33))
        | (refine wpList_buildTo rfl 42 _ rfl (some 36) rfl (msg 5 0 0).toArray ?_ ?_; (simp only [List.map_toArray, List.map_cons, List.map_nil]; exact msg_c 5))
        | (refine wpList_buildTo rfl 44 _ rfl (some 37) rfl C.cs.toArray ?_ ?_; (simp only [List.map_toArray, List.map_cons, List.map_nil]; exact e37))
        | (refine wpList_buildTo rfl 35 _ rfl (some 41) rfl #[.int .u8 b, .int .u16 0] ?_ ?_; (simp only [List.map_toArray, List.map_cons, List.map_nil]; exact head_u b))
        | (refine wpList_buildTo rfl 42 _ rfl (some 43) rfl (msg d 2 0).toArray ?_ ?_; (simp only [List.map_toArray, List.map_cons, List.map_nil]; exact msg_cx d 2))
        | (refine wpList_buildTo rfl 44 _ rfl (some 44) rfl D.cs.toArray ?_ ?_; (simp only [List.map_toArray, List.map_cons, List.map_nil]; exact e44))
        | (have q6 := T1; go_at_call 12; with_reducible refine T1.mono ?_; rintro e w2 ⟨v1, F1, rfl, O2, R1, ft, k1⟩; clear T1 q6; have hF' := foot_new hF0 ft KK.size; have KK' := kept_foot KK k1 hF0; clear hF0 KK; have hF0 := hF'; have KK := KK'; clear hF' KK'; clear k1 ft; have T2 := O2.take_ (by omega) 0 B S2.out)
        | (have q6 := T2; go_at_call 12; with_reducible refine T2.mono ?_; rintro e w3 ⟨v2, F2, rfl, O3, R2, ft, k1⟩; clear T2 q6; have hF' := foot_new hF0 ft KK.size; have KK' := kept_foot KK k1 hF0; clear hF0 KK; have hF0 := hF'; have KK := KK'; clear hF' KK'; clear k1 ft; have T3 := O3.take_ (by omega) 0 C S3.out)
        | (have q6 := T3; go_at_call 12; with_reducible refine T3.mono ?_; rintro e w4 ⟨v3, F3, rfl, O4, R3, ft, k1⟩; clear T3 q6; have hF' := foot_new hF0 ft KK.size; have KK' := kept_foot KK k1 hF0; clear hF0 KK; have hF0 := hF'; have KK := KK'; clear hF' KK'; have R2' := R2.next k1 ft; clear R2; have R2 := R2'; clear R2'; clear k1 ft; have T4 := O4.take_ (by omega) 1 D S4.out)
        | (have q6 := T4; go_at_call 12; with_reducible refine T4.mono ?_; rintro e w5 ⟨v4, F4, rfl, O5, R4, ft, k1⟩; clear T4 q6; have hF' := foot_new hF0 ft KK.size; have KK' := kept_foot KK k1 hF0; clear hF0 KK; have hF0 := hF'; have KK := KK'; clear hF' KK'; have R2' := R2.next k1 ft; clear R2; have R2 := R2'; clear R2'; have R3' := R3.next k1 ft; clear R3; have R3 := R3'; clear R3'; clear k1 ft; obtain ⟨g2, cap2, rfl, -, d2⟩ := R2.cells (by simp); obtain ⟨g3, cap3, rfl, -, d3⟩ := R3.one; obtain ⟨g4, cap4, rfl, -, d4⟩ := R4.one; have x0 := d2 0 _ 0 _ rfl rfl; (have x3 : w5.cell? ⟨g2, 3, none⟩ = some (.int .u8 c) := by (rw [← cA.out]; exact d2 0 _ 3 _ rfl rfl)); (have x49 : w5.cell? ⟨g2, 49, none⟩ = some (.int .i64 0) := d2 1 _ 0 _ rfl rfl); have y0 := d3 0 _ rfl; have z0 := d4 0 _ rfl; (have z1 : w5.cell? ⟨g4, 1, none⟩ = some (.int .u8 b) := by (rw [← cB0.out]; exact d4 1 _ rfl)); (have z2 : w5.cell? ⟨g4, 2, none⟩ = some (.int .u16 tid) := by (rw [← cB1.out]; exact d4 2 _ rfl)); have hop := O5.open_; simp only [List.length_cons, List.length_nil, Nat.zero_add, Nat.zero_mul] at *; clear d2 d3 d4 R1 R2 R3 R4)
        | (go_at_call 16; with_reducible refine hop.mono ?_; rintro e w7 ⟨oa, ocap, rfl, ho, hn, k7⟩))
      all_goals go_ret
      all_goals first | exact ⟨rfl, KK.trans k7 (fun _ _ h => h) (fun _ _ h => h)⟩ | exact ⟨rfl, KK⟩

end Go.Proofs.Ytmbjlondehcheaa
