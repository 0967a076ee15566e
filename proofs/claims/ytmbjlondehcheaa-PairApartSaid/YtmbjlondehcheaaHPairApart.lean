/- PairApart, walked: whatever two heads and code, it answers true. -/
import Derived.Test.YtmbjlondehcheaaProg
import Derived.Below
import Derived.OneCell
import Derived.WalkKit
import Derived.KernelRfl
import Derived.RowKit3
import Derived.Deep.LoopGhost
import Derived.Deep.QuietTactic
import Derived.BigQuiet
import Derived.Deep.DeepCutAuto
import Derived.Deep.CutBlock
import Derived.Deep.RegionWith
import Derived.OwnWalk
import Derived.Laws.Tables
import Derived.Laws.AppendOwn
import Derived.Shelf.SlSortCmp.KitK
import Derived.Shelf.RegionOpenPlain
import Derived.Sort.WalkB2
import Derived.Deep.MidRow
import Derived.Great.Walk
import Derived.Test.YtmbjlondehcheaaWWords
import Derived.Test.YtmbjlondehcheaaWLast
import Derived.Laws.StructEq
import Derived.Maps.Own
import Derived.Maps.RangeRun
import Derived.Test.YtmbjlondehcheaaHPairAwake
set_option linter.unusedSimpArgs false
set_option linter.unusedVariables false
namespace Go.Proofs.Ytmbjlondehcheaa
open Go.Shelf Go.RowKit Go.Lib Go.Sort Go.Proofs.YtmbjlondehcheaaW.PrintWords Go.Proofs.YtmbjlondehcheaaW.PrintLast

section
variable {ua ta ub tb c : Int} (hua : 0 ≤ ua ∧ ua < 256) (hta : 0 ≤ ta ∧ ta < 65536) (hub : 0 ≤ ub ∧ ub < 256) (htb : 0 ≤ tb ∧ tb < 65536) (hc : 0 ≤ c ∧ c < 256)
theorem ap1 (x : Fr) : step true [] 0 0 x = ([⟨0, x, fr0⟩], [⟨0, x⟩], 1) := rfl
theorem ap2 (x y : Fr) : step true [⟨0, x⟩] 1 0 y = ([⟨0, y, fr0⟩], [⟨0, x⟩, ⟨1, y⟩], 2) := rfl
theorem ap3 (x y z : Fr) (h : ¬ (x.u = z.u ∧ x.t = z.t)) (hy : y.u = z.u ∧ y.t = z.t) (hc : y.c = z.c) : step true [⟨0, x⟩, ⟨1, y⟩] 2 1 z = ([⟨4, y, z⟩], [⟨0, x⟩], 2) := by
  simp [step, ans, hdOf, hd, h, hy, hc]
theorem ap4 (x z : Fr) (h : ¬ (x.u = z.u ∧ x.t = z.t)) : step true [⟨0, x⟩] 2 1 z = ([⟨6, fr0, z⟩], [⟨0, x⟩], 2) := by
  simp [step, ans, hdOf, hd, h]
theorem ap5 (x z : Fr) (h : x.u = z.u ∧ x.t = z.t) (hc : ¬ x.c = z.c) : step true [⟨0, x⟩] 2 1 z = ([⟨5, x, z⟩], [], 2) := by
  simp [step, ans, hdOf, hd, h, hc]
end

theorem Vc.two {w : World} {F : Nat → Prop} {g : Nat} {x y : Value} {t : TypeId} (h : Vc w F g #[x, y] t) : w.cell? ⟨g, 0, none⟩ = some x ∧ w.cell? ⟨g, 1, none⟩ = some y :=
  ⟨by rw [cell_of_row w g 0 _ t (0, 0) h.row]; rfl, by rw [cell_of_row w g 1 _ t (0, 0) h.row]; rfl⟩

theorem wrap_u8 (c : Int) (hc : 0 ≤ c ∧ c < 256) : (0 ≤ (c + 1) % 256 ∧ (c + 1) % 256 < 256) ∧ ¬ c = (c + 1) % 256 := by omega

set_option maxHeartbeats 1000000 in
set_option maxRecDepth 1000000 in
theorem apart_calls (ua ta ub tb c : Int) (hua : 0 ≤ ua ∧ ua < 256) (hta : 0 ≤ ta ∧ ta < 65536) (hub : 0 ≤ ub ∧ ub < 256) (htb : 0 ≤ tb ∧ tb < 65536) (hc : 0 ≤ c ∧ c < 256) (w : World) :
    Calls Try.prog 7 #[.agg #[.int .u8 ua, .int .u16 ta], .agg #[.int .u8 ub, .int .u16 tb], .int .u8 c] w fun r w' => r = .returned (.bool true) ∧ Kept w w' (fun _ => False) := by
  have k0 : Kept w ((w.alloc (.cells #[.int .u8 ua, .int .u16 ta] 35)).alloc (.cells #[.int .u8 ub, .int .u16 tb] 35)) (fun _ => False) := (Kept.alloc w _ _).trans (Kept.alloc _ _ (fun _ => False)) (fun _ _ h => h) (fun _ _ h => h)
  have A0 : ((w.alloc (.cells #[.int .u8 ua, .int .u16 ta] 35)).alloc (.cells #[.int .u8 ub, .int .u16 tb] 35)).heap[w.heap.size]? = some (.cells #[.int .u8 ua, .int .u16 ta] 35 (0, 0)) := by rw [heap_alloc_old _ _ (by simp)]; exact heap_alloc_new _ _
  have B0 : ((w.alloc (.cells #[.int .u8 ua, .int .u16 ta] 35)).alloc (.cells #[.int .u8 ub, .int .u16 tb] 35)).heap[w.heap.size + 1]? = some (.cells #[.int .u8 ub, .int .u16 tb] 35 (0, 0)) := by
    have := heap_alloc_new (w.alloc (.cells #[.int .u8 ua, .int .u16 ta] 35)) (.cells #[.int .u8 ub, .int .u16 tb] 35)
    simpa using this
  have haw := awake_calls ((w.alloc (.cells #[.int .u8 ua, .int .u16 ta] 35)).alloc (.cells #[.int .u8 ub, .int .u16 tb] 35))
  have hnew := new_calls 2 (.inr (.inr rfl))
  have sza := size35 ua ta
  have szb := size35 ub tb
  have heq := fun w => eq35 ua ta ub tb w
  simp only [headV] at heq
  by_cases hu : ua = ub
  · subst hu
    by_cases ht : ta = tb
    · subst ht
      go_enter Try.func7, Try.ntmps7
      go_wp2_with (first
        | (go_at_call 9; with_reducible refine haw.mono ?_; rintro e w0 ⟨rfl, k1⟩; have A1 := k1.heap A0 (fun h => h); have B1 := k1.heap B0 (fun h => h); have kk := k0.trans k1 (fun _ _ h => h) (fun _ _ h => h); clear haw A0 B0 k0 k1)
        | (go_at_call 11; with_reducible refine (hnew _).mono ?_; rintro e w1 ⟨pb, F, rfl, O1', hF, k1⟩; clear hnew; have VA : Vc w1 F w.heap.size #[.int .u8 ua, .int .u16 ta] 35 := ⟨k1.heap A1 (fun h => h), fun h => by have := hF _ h; have := heap_lt A1; omega⟩; have VB : Vc w1 F (w.heap.size + 1) #[.int .u8 ua, .int .u16 ta] 35 := ⟨k1.heap B1 (fun h => h), fun h => by have := hF _ h; have := heap_lt B1; omega⟩; have KK := kk.trans k1 (fun _ _ h => h) (fun _ _ h => h); obtain ⟨ca0, ca1⟩ := VA.two; obtain ⟨cb0, cb1⟩ := VB.two))
      go_ret
      exact ⟨rfl, KK⟩
    · have hab : ¬ (ua = ua ∧ ta = tb) := fun h => ht h.2
      obtain ⟨⟨hw8, hne8⟩⟩ : Aside0 _ := ⟨wrap_u8 c hc⟩
      have T1f := fun (w1 : World) pb F (O : Own w1 pb true [] 0 F) => O.take_ (by omega) 0 (mkF ua ta c 0 1 hua hta hc) (ap1 _)
      have T2f := fun (w1 : World) pb F (O : Own w1 pb true [⟨0, mkF ua ta c 0 1 hua hta hc⟩] 1 F) => O.take_ (by omega) 0 (mkF ua tb c 0 2 hua htb hc) (ap2 _ _)
      have T3f := fun (w1 : World) pb F (O : Own w1 pb true [⟨0, mkF ua ta c 0 1 hua hta hc⟩, ⟨1, mkF ua tb c 0 2 hua htb hc⟩] 2 F) => O.take_ (by omega) 1 (mkF ua tb c 0 0 hua htb hc) (ap3 _ _ _ hab ⟨rfl, rfl⟩ rfl)
      have T4f := fun (w1 : World) pb F (O : Own w1 pb true [⟨0, mkF ua ta c 0 1 hua hta hc⟩] 2 F) => O.take_ (by omega) 1 (mkF ua tb c 0 0 hua htb hc) (ap4 _ _ hab)
      have T5f := fun (w1 : World) pb F (O : Own w1 pb true [⟨0, mkF ua ta c 0 1 hua hta hc⟩] 2 F) => O.take_ (by omega) 1 (mkF ua ta ((c + 1) % 256) 0 0 hua hta hw8) (ap5 _ _ ⟨rfl, rfl⟩ hne8)
      have a1 := fr_built ua ta c 0 1 hua hta hc
      have a2 := fr_built ua tb c 0 2 hua htb hc
      have a3 := fr_built ua tb c 0 0 hua htb hc
      have a5 := fr_built ua ta ((c + 1) % 256) 0 0 hua hta hw8
      have H1 : Aside0 _ := ⟨T1f⟩
      have H2 : Aside0 _ := ⟨T2f⟩
      have H3 : Aside0 _ := ⟨T3f⟩
      have H4 : Aside0 _ := ⟨T4f⟩
      have H5 : Aside0 _ := ⟨T5f⟩
      have HW : Aside0 (∀ x : Int, (mkF ua ta c 0 x hua hta hc).r 3 = .int .u16 x ∧ (mkF ua tb c 0 x hua htb hc).r 3 = .int .u16 x) := ⟨fun x => ⟨rfl, rfl⟩⟩
      clear T1f T2f T3f T4f T5f
      go_enter Try.func7, Try.ntmps7
      go_wp2_with (first
        | (go_at_call 9; with_reducible refine haw.mono ?_; rintro e w0 ⟨rfl, k1⟩; have A1 := k1.heap A0 (fun h => h); have B1 := k1.heap B0 (fun h => h); have kk := k0.trans k1 (fun _ _ h => h) (fun _ _ h => h); clear haw A0 B0 k0 k1)
        | (go_at_call 11; with_reducible refine (hnew _).mono ?_; rintro e w1 ⟨pb, F, rfl, O1', hF, k1⟩; clear hnew; have O1 : Own w1 pb true [] 0 F := (by simpa using O1'); clear O1';
           have VA : Vc w1 F w.heap.size #[.int .u8 ua, .int .u16 ta] 35 := ⟨k1.heap A1 (fun h => h), fun h => by have := hF _ h; have := heap_lt A1; omega⟩; have VB : Vc w1 F (w.heap.size + 1) #[.int .u8 ua, .int .u16 tb] 35 := ⟨k1.heap B1 (fun h => h), fun h => by have := hF _ h; have := heap_lt B1; omega⟩;
           have hF0 : ∀ b, F b → w.heap.size ≤ b := fun b hb => Nat.le_trans kk.size (hF b hb); have KK := kk.trans k1 (fun _ _ h => h) (fun _ _ h => h); clear kk k1 hF A1 B1; obtain ⟨ca0, ca1⟩ := VA.two; obtain ⟨cb0, cb1⟩ := VB.two; have T1 := H1.out w1 pb F O1)
        | (refine wpList_buildTo rfl 42 _ rfl (some 29) rfl (msg c 0 1).toArray ?_ ?_; (simp only [List.map_toArray, List.map_cons, List.map_nil]; exact msg_cv c 1))
        | (refine wpList_buildTo rfl 44 _ rfl (some 30) rfl (mkF ua ta c 0 1 hua hta hc).cs.toArray ?_ ?_; (simp only [List.map_toArray, List.map_cons, List.map_nil]; exact a1))
        | (refine wpList_buildTo rfl 42 _ rfl (some 35) rfl (msg c 0 2).toArray ?_ ?_; (simp only [List.map_toArray, List.map_cons, List.map_nil]; exact msg_cv c 2))
        | (refine wpList_buildTo rfl 44 _ rfl (some 36) rfl (mkF ua tb c 0 2 hua htb hc).cs.toArray ?_ ?_; (simp only [List.map_toArray, List.map_cons, List.map_nil]; exact a2))
        | (refine wpList_buildTo rfl 42 _ rfl (some 41) rfl (msg c 0 0).toArray ?_ ?_; (simp only [List.map_toArray, List.map_cons, List.map_nil]; exact msg_c c))
        | (refine wpList_buildTo rfl 44 _ rfl (some 42) rfl (mkF ua tb c 0 0 hua htb hc).cs.toArray ?_ ?_; (simp only [List.map_toArray, List.map_cons, List.map_nil]; exact a3))
        | (refine wpList_buildTo rfl 42 _ rfl (some 47) rfl (msg c 0 0).toArray ?_ ?_; (simp only [List.map_toArray, List.map_cons, List.map_nil]; exact msg_c c))
        | (refine wpList_buildTo rfl 44 _ rfl (some 48) rfl (mkF ua tb c 0 0 hua htb hc).cs.toArray ?_ ?_; (simp only [List.map_toArray, List.map_cons, List.map_nil]; exact a3))
        | (refine wpList_buildTo rfl 42 _ rfl (some 54) rfl (msg ((c + 1) % 256) 0 0).toArray ?_ ?_; (simp only [List.map_toArray, List.map_cons, List.map_nil]; exact msg_c ((c + 1) % 256)))
        | (refine wpList_buildTo rfl 44 _ rfl (some 55) rfl (mkF ua ta ((c + 1) % 256) 0 0 hua hta hw8).cs.toArray ?_ ?_; (simp only [List.map_toArray, List.map_cons, List.map_nil]; exact a5))
        | (have q6 := T1; go_at_call 12; with_reducible refine T1.mono ?_; rintro e w2 ⟨v1, F1, rfl, O2, R1, ft, k1⟩; clear T1 q6 ca0 ca1 cb0 cb1; have VA' := VA.next k1 ft; have VB' := VB.next k1 ft; clear VA VB; have VA := VA'; have VB := VB'; clear VA' VB'; have hF' := foot_new hF0 ft KK.size; have KK' := kept_foot KK k1 hF0; clear hF0 KK; have hF0 := hF'; have KK := KK'; clear hF' KK'; obtain ⟨ca0, ca1⟩ := VA.two; obtain ⟨cb0, cb1⟩ := VB.two; clear k1 ft; have T2 := H2.out w2 pb F1 O2)
        | (have q6 := T2; go_at_call 12; with_reducible refine T2.mono ?_; rintro e w3 ⟨v2, F2, rfl, O3, R2, ft, k1⟩; clear T2 q6 ca0 ca1 cb0 cb1; have VA' := VA.next k1 ft; have VB' := VB.next k1 ft; clear VA VB; have VA := VA'; have VB := VB'; clear VA' VB'; have hF' := foot_new hF0 ft KK.size; have KK' := kept_foot KK k1 hF0; clear hF0 KK; have hF0 := hF'; have KK := KK'; clear hF' KK'; obtain ⟨ca0, ca1⟩ := VA.two; obtain ⟨cb0, cb1⟩ := VB.two; clear k1 ft; have T3 := H3.out w3 pb F2 O3)
        | (have q6 := T3; go_at_call 12; with_reducible refine T3.mono ?_; rintro e w4 ⟨v3, F3, rfl, O4, R3, ft, k1⟩; clear T3 q6 ca0 ca1 cb0 cb1; have VA' := VA.next k1 ft; have VB' := VB.next k1 ft; clear VA VB; have VA := VA'; have VB := VB'; clear VA' VB'; have hF' := foot_new hF0 ft KK.size; have KK' := kept_foot KK k1 hF0; clear hF0 KK; have hF0 := hF'; have KK := KK'; clear hF' KK'; obtain ⟨ca0, ca1⟩ := VA.two; obtain ⟨cb0, cb1⟩ := VB.two; clear k1 ft; have T4 := H4.out w4 pb F3 O4)
        | (have q6 := T4; go_at_call 12; with_reducible refine T4.mono ?_; rintro e w5 ⟨v4, F4, rfl, O5, R4, ft, k1⟩; clear T4 q6 ca0 ca1 cb0 cb1; have VA' := VA.next k1 ft; have VB' := VB.next k1 ft; clear VA VB; have VA := VA'; have VB := VB'; clear VA' VB'; have hF' := foot_new hF0 ft KK.size; have KK' := kept_foot KK k1 hF0; clear hF0 KK; have hF0 := hF'; have KK := KK'; clear hF' KK'; obtain ⟨ca0, ca1⟩ := VA.two; obtain ⟨cb0, cb1⟩ := VB.two; have R3' := R3.next k1 ft; clear R3; have R3 := R3'; clear R3'; clear k1 ft; have T5 := H5.out w5 pb F4 O5)
        | (have q6 := T5; go_at_call 12; with_reducible refine T5.mono ?_; rintro e w6 ⟨v5, F5, rfl, O6, R5, ft, k1⟩; clear T5 q6 ca0 ca1 cb0 cb1; have VA' := VA.next k1 ft; have VB' := VB.next k1 ft; clear VA VB; have VA := VA'; have VB := VB'; clear VA' VB'; have hF' := foot_new hF0 ft KK.size; have KK' := kept_foot KK k1 hF0; clear hF0 KK; have hF0 := hF'; have KK := KK'; clear hF' KK'; obtain ⟨ca0, ca1⟩ := VA.two; obtain ⟨cb0, cb1⟩ := VB.two; have R3' := R3.next k1 ft; clear R3; have R3 := R3'; clear R3'; have R4' := R4.next k1 ft; clear R4; have R4 := R4'; clear R4'; clear k1 ft; obtain ⟨g3, cap3, rfl, -, d3⟩ := R3.one; obtain ⟨g4, cap4, rfl, -, d4⟩ := R4.one; obtain ⟨g5, cap5, rfl, -, d5⟩ := R5.one; have e30 := d3 0 _ rfl; (have e37 : w6.cell? ⟨g3, 7, none⟩ = some (.int .u16 2) := d3 7 _ rfl); have e40 := d4 0 _ rfl; have e50 := d5 0 _ rfl; (have e57 : w6.cell? ⟨g5, 7, none⟩ = some (.int .u16 1) := d5 7 _ rfl); have hop := O6.open_; clear d3 d4 d5 R3 R4 R5 R1 R2)
        | (go_at_call 16; with_reducible refine hop.mono ?_; rintro e w7 ⟨a, cap, rfl, ho, hn, k7⟩))
      go_ret
      exact ⟨rfl, KK.trans k7 (fun _ _ h => h) (fun _ _ h => h)⟩
  · have hab : ¬ (ua = ub ∧ ta = tb) := fun h => hu h.1
    obtain ⟨⟨hw8, hne8⟩⟩ : Aside0 _ := ⟨wrap_u8 c hc⟩
    have T1f := fun (w1 : World) pb F (O : Own w1 pb true [] 0 F) => O.take_ (by omega) 0 (mkF ua ta c 0 1 hua hta hc) (ap1 _)
    have T2f := fun (w1 : World) pb F (O : Own w1 pb true [⟨0, mkF ua ta c 0 1 hua hta hc⟩] 1 F) => O.take_ (by omega) 0 (mkF ub tb c 0 2 hub htb hc) (ap2 _ _)
    have T3f := fun (w1 : World) pb F (O : Own w1 pb true [⟨0, mkF ua ta c 0 1 hua hta hc⟩, ⟨1, mkF ub tb c 0 2 hub htb hc⟩] 2 F) => O.take_ (by omega) 1 (mkF ub tb c 0 0 hub htb hc) (ap3 _ _ _ hab ⟨rfl, rfl⟩ rfl)
    have T4f := fun (w1 : World) pb F (O : Own w1 pb true [⟨0, mkF ua ta c 0 1 hua hta hc⟩] 2 F) => O.take_ (by omega) 1 (mkF ub tb c 0 0 hub htb hc) (ap4 _ _ hab)
    have T5f := fun (w1 : World) pb F (O : Own w1 pb true [⟨0, mkF ua ta c 0 1 hua hta hc⟩] 2 F) => O.take_ (by omega) 1 (mkF ua ta ((c + 1) % 256) 0 0 hua hta hw8) (ap5 _ _ ⟨rfl, rfl⟩ hne8)
    have a1 := fr_built ua ta c 0 1 hua hta hc
    have a2 := fr_built ub tb c 0 2 hub htb hc
    have a3 := fr_built ub tb c 0 0 hub htb hc
    have a5 := fr_built ua ta ((c + 1) % 256) 0 0 hua hta hw8
    have H1 : Aside0 _ := ⟨T1f⟩
    have H2 : Aside0 _ := ⟨T2f⟩
    have H3 : Aside0 _ := ⟨T3f⟩
    have H4 : Aside0 _ := ⟨T4f⟩
    have H5 : Aside0 _ := ⟨T5f⟩
    have HW : Aside0 (∀ x : Int, (mkF ua ta c 0 x hua hta hc).r 3 = .int .u16 x ∧ (mkF ub tb c 0 x hub htb hc).r 3 = .int .u16 x) := ⟨fun x => ⟨rfl, rfl⟩⟩
    clear T1f T2f T3f T4f T5f
    go_enter Try.func7, Try.ntmps7
    go_wp2_with (first
      | (go_at_call 9; with_reducible refine haw.mono ?_; rintro e w0 ⟨rfl, k1⟩; have A1 := k1.heap A0 (fun h => h); have B1 := k1.heap B0 (fun h => h); have kk := k0.trans k1 (fun _ _ h => h) (fun _ _ h => h); clear haw A0 B0 k0 k1)
      | (go_at_call 11; with_reducible refine (hnew _).mono ?_; rintro e w1 ⟨pb, F, rfl, O1', hF, k1⟩; clear hnew; have O1 : Own w1 pb true [] 0 F := (by simpa using O1'); clear O1';
         have VA : Vc w1 F w.heap.size #[.int .u8 ua, .int .u16 ta] 35 := ⟨k1.heap A1 (fun h => h), fun h => by have := hF _ h; have := heap_lt A1; omega⟩; have VB : Vc w1 F (w.heap.size + 1) #[.int .u8 ub, .int .u16 tb] 35 := ⟨k1.heap B1 (fun h => h), fun h => by have := hF _ h; have := heap_lt B1; omega⟩;
         have hF0 : ∀ b, F b → w.heap.size ≤ b := fun b hb => Nat.le_trans kk.size (hF b hb); have KK := kk.trans k1 (fun _ _ h => h) (fun _ _ h => h); clear kk k1 hF A1 B1; obtain ⟨ca0, ca1⟩ := VA.two; obtain ⟨cb0, cb1⟩ := VB.two; have T1 := H1.out w1 pb F O1)
      | (refine wpList_buildTo rfl 42 _ rfl (some 29) rfl (msg c 0 1).toArray ?_ ?_; (simp only [List.map_toArray, List.map_cons, List.map_nil]; exact msg_cv c 1))
      | (refine wpList_buildTo rfl 44 _ rfl (some 30) rfl (mkF ua ta c 0 1 hua hta hc).cs.toArray ?_ ?_; (simp only [List.map_toArray, List.map_cons, List.map_nil]; exact a1))
      | (refine wpList_buildTo rfl 42 _ rfl (some 35) rfl (msg c 0 2).toArray ?_ ?_; (simp only [List.map_toArray, List.map_cons, List.map_nil]; exact msg_cv c 2))
      | (refine wpList_buildTo rfl 44 _ rfl (some 36) rfl (mkF ub tb c 0 2 hub htb hc).cs.toArray ?_ ?_; (simp only [List.map_toArray, List.map_cons, List.map_nil]; exact a2))
      | (refine wpList_buildTo rfl 42 _ rfl (some 41) rfl (msg c 0 0).toArray ?_ ?_; (simp only [List.map_toArray, List.map_cons, List.map_nil]; exact msg_c c))
      | (refine wpList_buildTo rfl 44 _ rfl (some 42) rfl (mkF ub tb c 0 0 hub htb hc).cs.toArray ?_ ?_; (simp only [List.map_toArray, List.map_cons, List.map_nil]; exact a3))
      | (refine wpList_buildTo rfl 42 _ rfl (some 47) rfl (msg c 0 0).toArray ?_ ?_; (simp only [List.map_toArray, List.map_cons, List.map_nil]; exact msg_c c))
      | (refine wpList_buildTo rfl 44 _ rfl (some 48) rfl (mkF ub tb c 0 0 hub htb hc).cs.toArray ?_ ?_; (simp only [List.map_toArray, List.map_cons, List.map_nil]; exact a3))
      | (refine wpList_buildTo rfl 42 _ rfl (some 54) rfl (msg ((c + 1) % 256) 0 0).toArray ?_ ?_; (simp only [List.map_toArray, List.map_cons, List.map_nil]; exact msg_c ((c + 1) % 256)))
      | (refine wpList_buildTo rfl 44 _ rfl (some 55) rfl (mkF ua ta ((c + 1) % 256) 0 0 hua hta hw8).cs.toArray ?_ ?_; (simp only [List.map_toArray, List.map_cons, List.map_nil]; exact a5))
      | (have q6 := T1; go_at_call 12; with_reducible refine T1.mono ?_; rintro e w2 ⟨v1, F1, rfl, O2, R1, ft, k1⟩; clear T1 q6 ca0 ca1 cb0 cb1; have VA' := VA.next k1 ft; have VB' := VB.next k1 ft; clear VA VB; have VA := VA'; have VB := VB'; clear VA' VB'; have hF' := foot_new hF0 ft KK.size; have KK' := kept_foot KK k1 hF0; clear hF0 KK; have hF0 := hF'; have KK := KK'; clear hF' KK'; obtain ⟨ca0, ca1⟩ := VA.two; obtain ⟨cb0, cb1⟩ := VB.two; clear k1 ft; have T2 := H2.out w2 pb F1 O2)
      | (have q6 := T2; go_at_call 12; with_reducible refine T2.mono ?_; rintro e w3 ⟨v2, F2, rfl, O3, R2, ft, k1⟩; clear T2 q6 ca0 ca1 cb0 cb1; have VA' := VA.next k1 ft; have VB' := VB.next k1 ft; clear VA VB; have VA := VA'; have VB := VB'; clear VA' VB'; have hF' := foot_new hF0 ft KK.size; have KK' := kept_foot KK k1 hF0; clear hF0 KK; have hF0 := hF'; have KK := KK'; clear hF' KK'; obtain ⟨ca0, ca1⟩ := VA.two; obtain ⟨cb0, cb1⟩ := VB.two; clear k1 ft; have T3 := H3.out w3 pb F2 O3)
      | (have q6 := T3; go_at_call 12; with_reducible refine T3.mono ?_; rintro e w4 ⟨v3, F3, rfl, O4, R3, ft, k1⟩; clear T3 q6 ca0 ca1 cb0 cb1; have VA' := VA.next k1 ft; have VB' := VB.next k1 ft; clear VA VB; have VA := VA'; have VB := VB'; clear VA' VB'; have hF' := foot_new hF0 ft KK.size; have KK' := kept_foot KK k1 hF0; clear hF0 KK; have hF0 := hF'; have KK := KK'; clear hF' KK'; obtain ⟨ca0, ca1⟩ := VA.two; obtain ⟨cb0, cb1⟩ := VB.two; clear k1 ft; have T4 := H4.out w4 pb F3 O4)
      | (have q6 := T4; go_at_call 12; with_reducible refine T4.mono ?_; rintro e w5 ⟨v4, F4, rfl, O5, R4, ft, k1⟩; clear T4 q6 ca0 ca1 cb0 cb1; have VA' := VA.next k1 ft; have VB' := VB.next k1 ft; clear VA VB; have VA := VA'; have VB := VB'; clear VA' VB'; have hF' := foot_new hF0 ft KK.size; have KK' := kept_foot KK k1 hF0; clear hF0 KK; have hF0 := hF'; have KK := KK'; clear hF' KK'; obtain ⟨ca0, ca1⟩ := VA.two; obtain ⟨cb0, cb1⟩ := VB.two; have R3' := R3.next k1 ft; clear R3; have R3 := R3'; clear R3'; clear k1 ft; have T5 := H5.out w5 pb F4 O5)
      | (have q6 := T5; go_at_call 12; with_reducible refine T5.mono ?_; rintro e w6 ⟨v5, F5, rfl, O6, R5, ft, k1⟩; clear T5 q6 ca0 ca1 cb0 cb1; have VA' := VA.next k1 ft; have VB' := VB.next k1 ft; clear VA VB; have VA := VA'; have VB := VB'; clear VA' VB'; have hF' := foot_new hF0 ft KK.size; have KK' := kept_foot KK k1 hF0; clear hF0 KK; have hF0 := hF'; have KK := KK'; clear hF' KK'; obtain ⟨ca0, ca1⟩ := VA.two; obtain ⟨cb0, cb1⟩ := VB.two; have R3' := R3.next k1 ft; clear R3; have R3 := R3'; clear R3'; have R4' := R4.next k1 ft; clear R4; have R4 := R4'; clear R4'; clear k1 ft; obtain ⟨g3, cap3, rfl, -, d3⟩ := R3.one; obtain ⟨g4, cap4, rfl, -, d4⟩ := R4.one; obtain ⟨g5, cap5, rfl, -, d5⟩ := R5.one; have e30 := d3 0 _ rfl; (have e37 : w6.cell? ⟨g3, 7, none⟩ = some (.int .u16 2) := d3 7 _ rfl); have e40 := d4 0 _ rfl; have e50 := d5 0 _ rfl; (have e57 : w6.cell? ⟨g5, 7, none⟩ = some (.int .u16 1) := d5 7 _ rfl); have hop := O6.open_; clear d3 d4 d5 R3 R4 R5 R1 R2)
      | (go_at_call 16; with_reducible refine hop.mono ?_; rintro e w7 ⟨a, cap, rfl, ho, hn, k7⟩))
    go_ret
    exact ⟨rfl, KK.trans k7 (fun _ _ h => h) (fun _ _ h => h)⟩

end Go.Proofs.Ytmbjlondehcheaa
