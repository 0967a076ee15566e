/- PairStrays, walked: whatever framing, acts and number, it answers true: with no request open each answer is a stray one. -/
import Derived.Test.YtmbjlondehcheaaProg
import Derived.Below
import Derived.OneCell
import Derived.WalkKit
import Derived.KernelRfl
import Derived.RowKit3
import Derived.Deep.LoopGhost
import Derived.Deep.QuietTactic
import Derived.BigQuiet
import Derived.Deep.DeepCutAuto
import Derived.Deep.CutBlock
import Derived.Deep.RegionWith
import Derived.OwnWalk
import Derived.Laws.Tables
import Derived.Laws.AppendOwn
import Derived.Shelf.SlSortCmp.KitK
import Derived.Shelf.RegionOpenPlain
import Derived.Sort.WalkB2
import Derived.Deep.MidRow
import Derived.Great.Walk
import Derived.Test.YtmbjlondehcheaaWWords
import Derived.Test.YtmbjlondehcheaaWLast
import Derived.Laws.StructEq
import Derived.Maps.Own
import Derived.Maps.RangeRun
import Derived.Test.YtmbjlondehcheaaHPairAwake
import Derived.Test.YtmbjlondehcheaaHPairFew
import Derived.Test.YtmbjlondehcheaaHPairSame
set_option linter.unusedSimpArgs false
set_option linter.unusedVariables false
namespace Go.Proofs.Ytmbjlondehcheaa
open Go.Shelf Go.RowKit Go.Lib Go.Sort Go.Proofs.YtmbjlondehcheaaW.PrintWords Go.Proofs.YtmbjlondehcheaaW.PrintLast Go.Proofs.Ytmbjlondehcheaa.PFW

theorem Kept.cell {w w' : World} (k : Kept w w' (fun _ => False)) {a : Addr} {v : Value} (h : w.cell? a = some v) : w'.cell? a = some v := (k.toBelow.cell (World.block_lt_of_cell? _ _ h)).trans h
theorem Kept.range {w w' : World} (k : Kept w w' (fun _ => False)) {b o : Nat} {cs : List Value} (h : w.rangeAt b o cs) : w'.rangeAt b o cs := fun j u hu => k.cell (h j u hu)
theorem fr0_built : Try.prog.built 44 [] = some fr0.cs.toArray := by kernel_rfl
theorem fr0_K (w : World) : k44.K w z44 fr0.cs := k44_mk w z44 (A14 := none) (c14 := 0) (Nat.zero_le _) (Kd.C_nil _ w) (A15 := none) (c15 := 0) (Nat.zero_le _) (Kd.C_nil _ w) (A16 := none) (c16 := 0) (Nat.zero_le _) (Kd.C_nil _ w) (A17 := none) (c17 := 0) (Nat.zero_le _) (Kd.C_nil _ w) (A23 := none) (c23 := 0) (Nat.zero_le _) (Kd.C_nil _ w)

/-- What stands between two rounds: no request is open. -/
structure StAt (w wr : World) (pb : Nat) (net : Bool) : Prop where
  own : ∃ F, Own wr pb net [] 0 F ∧ (∀ b, F b → w.heap.size ≤ b)
  kept : Kept w wr (fun _ => False)
theorem StAt.keep {w wr w' : World} {pb : Nat} {net : Bool} (h : StAt w wr pb net) (k : Kept wr w' (fun _ => False)) : StAt w w' pb net := by
  obtain ⟨F, O, hF⟩ := h.own
  exact ⟨⟨F, O.kept k (fun _ _ h => h), hF⟩, h.kept.trans k (fun _ _ h => h) (fun _ _ h => h)⟩
theorem StAt.open_ {w wr : World} {pb : Nat} {net : Bool} (h : StAt w wr pb net) : Calls Try.prog 16 #[.pointer (some ⟨pb, 0, none⟩)] wr fun r w' => ∃ a cap, r = .returned (.slice a 0 cap) ∧ Kept wr w' (fun _ => False) := by
  obtain ⟨F, O, hF⟩ := h.own
  exact O.open_.mono fun r w' ⟨a, cap, he, _, _, k⟩ => ⟨a, cap, he, k⟩
theorem StAt.turn {w wr w' : World} {pb : Nat} {net : Bool} {F F' : Nat → Prop} (h : StAt w wr pb net) (hF : ∀ b, F b → w.heap.size ≤ b) (O' : Own w' pb net [] 0 F') (ft : ∀ b, F' b → F b ∨ wr.heap.size ≤ b) (k : Kept wr w' F) : StAt w w' pb net :=
  ⟨⟨F', O', fun b hb => by
    rcases ft b hb with h' | h'
    · exact hF b h'
    · have := h.kept.size; omega⟩, h.kept.trans k (fun _ _ h => h) (fun b hb h' => by have := hF b h'; omega)⟩
theorem st_stray (net : Bool) (f : Fr) : step net [] 0 1 f = ([⟨6, fr0, f⟩], [], 0) := by simp [step, ans]
theorem st_none (net : Bool) (dir : Int) (f : Fr) (h0 : ¬ dir = 0) (h1 : ¬ dir = 1) : step net [] 0 dir f = ([], [], 0) := by simp [step, h0, h1]
theorem StAt.stray {w wr : World} {pb : Nat} {net : Bool} (h : StAt w wr pb net) (f : Fr) : Calls Try.prog 12 #[.pointer (some ⟨pb, 0, none⟩), .int .i64 1, .agg f.cs.toArray] wr fun r w' => ∃ g cap, r = .returned (.slice (some ⟨g, 0, none⟩) 1 cap) ∧ (w'.cell? ⟨g, 0, none⟩ = some (.int .i64 6) ∧ w'.rangeAt g 25 f.cs ∧ w'.rangeAt g 1 fr0.cs) ∧ StAt w w' pb net := by
  obtain ⟨F, O, hF⟩ := h.own
  refine (O.take_ (by omega) 1 f (st_stray net f)).mono fun r w' ⟨v, F', he, O', R, ft, k⟩ => ?_
  obtain ⟨g, cap, rfl, -, hc⟩ := R.one
  refine ⟨g, cap, he, ⟨hc 0 _ rfl, fun j u hu => hc (25 + j) u ?_, fun j u hu => hc (1 + j) u ?_⟩, h.turn hF O' ft k⟩
  · show (Value.int .i64 6 :: (fr0.cs ++ f.cs))[25 + j]? = some u
    rw [show 25 + j = (24 + j) + 1 by omega, List.getElem?_cons_succ, List.getElem?_append_right (by rw [Fr.len]; omega), Fr.len, Nat.add_sub_cancel_left]
    exact hu
  · show (Value.int .i64 6 :: (fr0.cs ++ f.cs))[1 + j]? = some u
    have hj : j < 24 := by have := (List.getElem?_eq_some_iff.1 hu).1; rwa [Fr.len] at this
    rw [Nat.add_comm, List.getElem?_cons_succ, List.getElem?_append_left (by rw [Fr.len]; exact hj)]
    exact hu
theorem StAt.none_ {w wr : World} {pb : Nat} {net : Bool} (h : StAt w wr pb net) (dir : Int) (f : Fr) (h0 : ¬ dir = 0) (h1 : ¬ dir = 1) : Calls Try.prog 12 #[.pointer (some ⟨pb, 0, none⟩), .int .i64 dir, .agg f.cs.toArray] wr fun r w' => ∃ a cap, r = .returned (.slice a 0 cap) ∧ StAt w w' pb net := by
  obtain ⟨F, O, hF⟩ := h.own
  refine (O.take_ (by omega) dir f (st_none net dir f h0 h1)).mono fun r w' ⟨v, F', he, O', R, ft, k⟩ => ?_
  obtain ⟨a, cap, rfl⟩ := owns_len R.row
  exact ⟨a, cap, he, h.turn hF O' ft k⟩

/-- The frame that lies in an act. -/
theorem frame_of {w : World} {x : S44} {cs : List Value} (h : k44.K w x cs) (h1 : 0 ≤ x.f0.f0 ∧ x.f0.f0 < 256) (h2 : 0 ≤ x.f0.f1 ∧ x.f0.f1 < 65536) (h3 : 0 ≤ x.f1.f0 ∧ x.f1.f0 < 256) : ∃ f : Fr, f.cs = cs := by
  have hone := k44.K_one h
  obtain ⟨A14, c14, A15, c15, A16, c16, A17, c17, A23, c23, rfl, -⟩ := k44_open h
  exact ⟨⟨x.f0.f0, x.f0.f1, x.f1.f0, fun i => (([.int .u8 x.f1.f1, .int .u16 x.f1.f2, .int .u16 x.f1.f3, .int .u16 x.f1.f4, .int .u16 x.f1.f5, .int .u16 x.f1.f6, .int .u16 x.f1.f7, .int .u16 x.f1.f8, .int .u16 x.f1.f9, .int .u16 x.f1.f10, .int .u16 x.f1.f11, .slice A14 x.f1.f12.length c14, .slice A15 x.f1.f13.length c15, .slice A16 x.f1.f14.length c16, .slice A17 x.f1.f15.length c17, .int .u8 x.f1.f16, .int .u8 x.f1.f17, .int .u8 x.f1.f18, .int .u8 x.f1.f19, .int .u8 x.f1.f20, .slice A23 x.f1.f21.length c23] : List Value)[i]?).getD (.int .u8 0), h1, h2, h3, fun i => by
    rcases Nat.lt_or_ge i 21 with hi | hi
    · rcases (by omega : i = 0 ∨ i = 1 ∨ i = 2 ∨ i = 3 ∨ i = 4 ∨ i = 5 ∨ i = 6 ∨ i = 7 ∨ i = 8 ∨ i = 9 ∨ i = 10 ∨ i = 11 ∨ i = 12 ∨ i = 13 ∨ i = 14 ∨ i = 15 ∨ i = 16 ∨ i = 17 ∨ i = 18 ∨ i = 19 ∨ i = 20) with rfl | rfl | rfl | rfl | rfl | rfl | rfl | rfl | rfl | rfl | rfl | rfl | rfl | rfl | rfl | rfl | rfl | rfl | rfl | rfl | rfl <;> rfl
    · rw [List.getElem?_eq_none (by simpa using hi)]; rfl⟩, rfl⟩

set_option maxHeartbeats 8000000 in
set_option maxRecDepth 1000000 in
theorem strays_calls (fr : Int) (hfr : 0 ≤ fr ∧ fr < 256) (A : Option Addr) (c : Nat) (l : List S46) (dir : Int) (hdir : (Lit.int .i64 dir).wf = true) (w : World) (hC : Kd.C k46 w A l.length l) (hc : l.length ≤ c)
    (hB : ∀ x ∈ l, (Lit.int .i64 x.f0).wf = true ∧ (0 ≤ x.f1.f0.f0 ∧ x.f1.f0.f0 < 256) ∧ (0 ≤ x.f1.f0.f1 ∧ x.f1.f0.f1 < 65536) ∧ (0 ≤ x.f1.f1.f0 ∧ x.f1.f1.f0 < 256)) :
    Calls Try.prog 8 #[.int .u8 fr, .slice A l.length c, .int .i64 dir] w fun r w' => r = .returned (.bool true) ∧ Kept w w' (fun _ => False) := by
  have haw := awake_calls w
  obtain ⟨m, hm, hm3⟩ : ∃ m : Int, fr.tmod 3 = m ∧ (m = 0 ∨ m = 1 ∨ m = 2) := ⟨_, rfl, by
    have := Int.tmod_nonneg 3 hfr.1; have := Int.tmod_lt_of_pos fr (show (0 : Int) < 3 by decide); omega⟩
  have hmb : 0 ≤ m ∧ m < 3 := by omega
  have hnew := new_calls m hm3
  have HC : Aside0 (Kd.C k46 w A l.length l) := ⟨hC⟩
  have HB : Aside0 _ := ⟨hB⟩
  clear hC hB hm3 hdir
  go_enter Try.func8, Try.ntmps8
  go_wp2_with (first
    | (go_at_call 9; with_reducible refine haw.mono ?_; rintro e w0 ⟨rfl, k0⟩; have hfew := few_calls A c l w0 (Kd.C_below HC.out k0.toBelow) hc; clear haw)
    | (go_at_call 10; with_reducible refine hfew.mono ?_; rintro e w1 hcase; clear hfew; rcases hcase with ⟨rfl, k1⟩ | ⟨rfl, h60, k1⟩)
    | (go_at_call 11; with_reducible refine (hnew _).mono ?_; rintro e w2 ⟨pb, F, rfl, O1, hF, k2⟩; clear hnew; obtain ⟨net, hnet⟩ : ∃ net : Bool, decide (m = 2) = net := ⟨_, rfl⟩; rw [hnet] at O1; have k02 := (k0.trans k1 (fun _ _ h => h) (fun _ _ h => h)).trans k2 (fun _ _ h => h) (fun _ _ h => h); have ST : Aside0 (StAt w w2 pb net) := ⟨⟨F, O1, fun b hb => by have := hF b hb; have := (k0.trans k1 (fun _ _ h => h) (fun _ _ h => h)).size; omega⟩, k02⟩; clear O1 hF k0 k1 k2))
  case' _ => go_ret; exact ⟨rfl, ST.out.kept⟩
  clear k02
  have HH : Aside0 _ := ⟨h60⟩
  clear h60
  go_loopg [10] l.length (fun kx s10 wr => ∃ i : Nat, s10 = .int .i64 i ∧ i ≤ l.length ∧ l.length - i ≤ kx ∧ Aside0 (StAt w wr pb net))
  case atStart => exact ⟨0, rfl, Nat.zero_le _, Nat.le_refl _, ST⟩
  case round =>
    clear ST
    obtain ⟨i, rfl, hi, hkx, ST⟩ := hrel
    have h60 := HH.out
    by_cases hlt : i < l.length
    · obtain ⟨ad, cs, rfl, hK, -, hr⟩ := acts_at HC.out hlt
      obtain ⟨-, b1, b2, b3⟩ := HB.out l[i] (List.getElem_mem hlt)
      obtain ⟨f, rfl⟩ := frame_of hK b1 b2 b3
      have szl44 : (Try.prog.info? 44).map (·.size) = some f.cs.length := by rw [Fr.len]; kernel_rfl
      have hiz : (i : Int) < (l.length : Int) := by omega
      have hi60 : (i : Int) ≤ 60 := by omega
      have HK : Aside0 _ := ⟨hK⟩
      have HR : Aside0 _ := ⟨hr⟩
      have T := ST.out.stray f
      have hr1 := ST.out.kept.range hr
      clear hK hr b1 b2 b3 ST h60
      by_cases hd0 : dir = 0
      · subst hd0
        go_upto_region 10 with (first
          | (refine wpList_load_mid rfl 44 (.tmp 40) rfl _ _ rfl f.cs _ hr1 Try.underlying44 rfl szl44 ?_)
          | (go_at_call 12; with_reducible refine T.mono ?_; rintro e w2 ⟨g, cap, rfl, hSH, hS2⟩; have SH1 : Aside0 _ := ⟨hSH⟩; have ST2 : Aside0 _ := ⟨hS2⟩; have hop := hS2.open_; clear T hSH hS2 hr1))
        go_upto_region 12 with (go_at_call 16; with_reducible refine hop.mono ?_; rintro e w3 ⟨oa, ocap, rfl, k3⟩; have ST3 : Aside0 _ := ⟨ST2.out.keep k3⟩; have SH3 : Aside0 _ := ⟨(⟨k3.cell SH1.out.1, k3.range SH1.out.2.1, k3.range SH1.out.2.2⟩ : w3.cell? ⟨g, 0, none⟩ = some (.int .i64 6) ∧ w3.rangeAt g 25 f.cs ∧ w3.rangeAt g 1 fr0.cs)⟩; clear hop k3 ST2 SH1)
        have kq : Kept w3 w3.drew (fun _ => False) := Kept.drew w3 _
        have SH : w3.drew.cell? ⟨g, 0, none⟩ = some (.int .i64 6) ∧ w3.drew.rangeAt g 25 f.cs ∧ w3.drew.rangeAt (ad.add (i * 25)).block ((ad.add (i * 25)).off + 1) f.cs ∧ w3.drew.rangeAt g 1 fr0.cs := ⟨SH3.out.1, kq.range SH3.out.2.1, (ST3.out.kept.trans kq (fun _ _ h => h) (fun _ _ h => h)).range HR.out, kq.range SH3.out.2.2⟩
        have KF : k44.K w3.drew l[i].f1 f.cs := k44.K_below (ST3.out.kept.trans kq (fun _ _ h => h) (fun _ _ h => h)).toBelow HK.out
        have ST4 : Aside0 _ := ⟨ST3.out.keep kq⟩
        clear kq SH3 ST3
        refine start_ (n := 27) (S := fun w' => w'.cell? ⟨g, 0, none⟩ = some (.int .i64 6) ∧ w'.rangeAt g 25 f.cs ∧ w'.rangeAt (ad.add (i * 25)).block ((ad.add (i * 25)).off + 1) f.cs ∧ w'.rangeAt g 1 fr0.cs) (ds := []) #[false, false, false, false, false, false, false, false, false, false, false, false, false, false, false, false, false, false, false, false, false, false, false, false, false, false, false] (by kernel_rfl) rfl rfl SH (fun hHeld => ?_)
        clear hHeld
        refine pure_ (i := 0) (N := (some 52)) (v := ?_) (a' := ?_) #[true, false, false, false, false, false, false, false, false, false, false, false, false, false, false, false, false, false, false, false, false, false, false, false, false, false, false] rfl rfl (by kernel_rfl) (fun _ _ _ h => h) (Or.inl ⟨by rfl, ?_⟩) ?_ ?_
        rotate_left
        · intro w'
          go_simp
          with_reducible rfl
        rotate_left
        · (try simp only [Act.put, List.setIfInBounds_toArray, List.set_cons_zero, List.set_cons_succ]); rfl
        refine pure_ (i := 1) (N := (some 53)) (v := ?_) (a' := ?_) #[true, true, false, false, false, false, false, false, false, false, false, false, false, false, false, false, false, false, false, false, false, false, false, false, false, false, false] rfl rfl (by kernel_rfl) (fun _ _ _ h => h) (Or.inl ⟨by rfl, ?_⟩) ?_ ?_
        rotate_left
        · intro w'
          go_simp
          with_reducible rfl
        rotate_left
        · (try simp only [Act.put, List.setIfInBounds_toArray, List.set_cons_zero, List.set_cons_succ]); rfl
        refine pure_ (i := 2) (N := (some 54)) (v := ?_) (a' := ?_) #[true, true, true, false, false, false, false, false, false, false, false, false, false, false, false, false, false, false, false, false, false, false, false, false, false, false, false] rfl rfl (by kernel_rfl) (fun _ _ _ h => h) (Or.inl ⟨by rfl, ?_⟩) ?_ ?_
        rotate_left
        · intro w'
          go_simp
          with_reducible rfl
        rotate_left
        · (try simp only [Act.put, List.setIfInBounds_toArray, List.set_cons_zero, List.set_cons_succ]); rfl
        refine take_ (i := 3) (N := (some 55)) (v := ?_) (a' := ?_) #[true, true, true, true, false, false, false, false, false, false, false, false, false, false, false, false, false, false, false, false, false, false, false, false, false, false, false] rfl rfl (by kernel_rfl) (fun _ _ _ h => h) (Or.inl ⟨by rfl, ?_⟩) SH ?_ ?_
        rotate_left
        · intro w' hS
          have q0 := hS.1
          go_simp
          with_reducible rfl
        rotate_left
        · (try simp only [Act.put, List.setIfInBounds_toArray, List.set_cons_zero, List.set_cons_succ]); rfl
        refine pure_ (i := 4) (N := (some 56)) (v := ?_) (a' := ?_) #[true, true, true, true, true, false, false, false, false, false, false, false, false, false, false, false, false, false, false, false, false, false, false, false, false, false, false] rfl rfl (by kernel_rfl) (fun _ _ _ h => h) (Or.inl ⟨by rfl, ?_⟩) ?_ ?_
        rotate_left
        · intro w'
          go_simp
          with_reducible rfl
        rotate_left
        · (try simp only [Act.put, List.setIfInBounds_toArray, List.set_cons_zero, List.set_cons_succ]); rfl
        refine pure_ (i := 5) (N := (some 57)) (v := ?_) (a' := ?_) #[true, true, true, true, true, true, false, false, false, false, false, false, false, false, false, false, false, false, false, false, false, false, false, false, false, false, false] rfl rfl (by kernel_rfl) (fun _ _ _ h => h) (Or.inl ⟨by rfl, ?_⟩) ?_ ?_
        rotate_left
        · intro w'
          go_simp
          with_reducible rfl
        rotate_left
        · (try simp only [Act.put, List.setIfInBounds_toArray, List.set_cons_zero, List.set_cons_succ]); rfl
        refine pure_ (i := 6) (N := (some 58)) (v := ?_) (a' := ?_) #[true, true, true, true, true, true, true, false, false, false, false, false, false, false, false, false, false, false, false, false, false, false, false, false, false, false, false] rfl rfl (by kernel_rfl) (fun _ _ _ h => h) (Or.inl ⟨by rfl, ?_⟩) ?_ ?_
        rotate_left
        · intro w'
          go_simp
          with_reducible rfl
        rotate_left
        · (try simp only [Act.put, List.setIfInBounds_toArray, List.set_cons_zero, List.set_cons_succ]); rfl
        refine pure_ (i := 7) (N := (some 59)) (v := ?_) (a' := ?_) #[true, true, true, true, true, true, true, true, false, false, false, false, false, false, false, false, false, false, false, false, false, false, false, false, false, false, false] rfl rfl (by kernel_rfl) (fun _ _ _ h => h) (Or.inl ⟨by rfl, ?_⟩) ?_ ?_
        rotate_left
        · intro w'
          go_simp
          with_reducible rfl
        rotate_left
        · (try simp only [Act.put, List.setIfInBounds_toArray, List.set_cons_zero, List.set_cons_succ]); rfl
        refine pure_ (i := 8) (N := (some 60)) (v := ?_) (a' := ?_) #[true, true, true, true, true, true, true, true, true, false, false, false, false, false, false, false, false, false, false, false, false, false, false, false, false, false, false] rfl rfl (by kernel_rfl) (fun _ _ _ h => h) (Or.inl ⟨by rfl, ?_⟩) ?_ ?_
        rotate_left
        · intro w'
          go_simp
          with_reducible rfl
        rotate_left
        · (try simp only [Act.put, List.setIfInBounds_toArray, List.set_cons_zero, List.set_cons_succ]); rfl
        refine take_ (i := 9) (N := (some 61)) (v := .agg f.cs.toArray) (a' := ?_) #[true, true, true, true, true, true, true, true, true, true, false, false, false, false, false, false, false, false, false, false, false, false, false, false, false, false, false] rfl rfl (by kernel_rfl) (fun _ _ _ h => h) (yieldsIf_load_mid (by kernel_rfl) 44 (.tmp 60) rfl g 25 rfl f.cs _ (fun w' hS => hS.2.1) Try.underlying44 rfl (by kernel_rfl)) SH ?_ ?_
        rotate_left
        · (try simp only [Act.put, List.setIfInBounds_toArray, List.set_cons_zero, List.set_cons_succ]); rfl
        refine pure_ (i := 10) (N := (some 62)) (v := ?_) (a' := ?_) #[true, true, true, true, true, true, true, true, true, true, true, false, false, false, false, false, false, false, false, false, false, false, false, false, false, false, false] rfl rfl (by kernel_rfl) (fun _ _ _ h => h) (Or.inl ⟨by rfl, ?_⟩) ?_ ?_
        rotate_left
        · intro w'
          go_simp
          with_reducible rfl
        rotate_left
        · (try simp only [Act.put, List.setIfInBounds_toArray, List.set_cons_zero, List.set_cons_succ]); rfl
        refine pure_ (i := 11) (N := (some 63)) (v := ?_) (a' := ?_) #[true, true, true, true, true, true, true, true, true, true, true, true, false, false, false, false, false, false, false, false, false, false, false, false, false, false, false] rfl rfl (by kernel_rfl) (fun _ _ _ h => h) (Or.inl ⟨by rfl, ?_⟩) ?_ ?_
        rotate_left
        · intro w'
          go_simp
          with_reducible rfl
        rotate_left
        · (try simp only [Act.put, List.setIfInBounds_toArray, List.set_cons_zero, List.set_cons_succ]); rfl
        refine pure_ (i := 12) (N := (some 64)) (v := ?_) (a' := ?_) #[true, true, true, true, true, true, true, true, true, true, true, true, true, false, false, false, false, false, false, false, false, false, false, false, false, false, false] rfl rfl (by kernel_rfl) (fun _ _ _ h => h) (Or.inl ⟨by rfl, ?_⟩) ?_ ?_
        rotate_left
        · intro w'
          go_simp
          with_reducible rfl
        rotate_left
        · (try simp only [Act.put, List.setIfInBounds_toArray, List.set_cons_zero, List.set_cons_succ]); rfl
        refine pure_ (i := 13) (N := (some 65)) (v := ?_) (a' := ?_) #[true, true, true, true, true, true, true, true, true, true, true, true, true, true, false, false, false, false, false, false, false, false, false, false, false, false, false] rfl rfl (by kernel_rfl) (fun _ _ _ h => h) (Or.inl ⟨by rfl, ?_⟩) ?_ ?_
        rotate_left
        · intro w'
          go_simp
          with_reducible rfl
        rotate_left
        · (try simp only [Act.put, List.setIfInBounds_toArray, List.set_cons_zero, List.set_cons_succ]); rfl
        refine take_ (i := 14) (N := (some 66)) (v := .agg f.cs.toArray) (a' := ?_) #[true, true, true, true, true, true, true, true, true, true, true, true, true, true, true, false, false, false, false, false, false, false, false, false, false, false, false] rfl rfl (by kernel_rfl) (fun _ _ _ h => h) (yieldsIf_load_mid (by kernel_rfl) 44 (.tmp 65) rfl (ad.add (i * 25)).block ((ad.add (i * 25)).off + 1) rfl f.cs _ (fun w' hS => hS.2.2.1) Try.underlying44 rfl (by kernel_rfl)) SH ?_ ?_
        rotate_left
        · (try simp only [Act.put, List.setIfInBounds_toArray, List.set_cons_zero, List.set_cons_succ]); rfl
        refine one_ (i := 15) (N := some 67) #[true, true, true, true, true, true, true, true, true, true, true, true, true, true, true, true, false, false, false, false, false, false, false, false, false, false, false] rfl rfl (by kernel_rfl) (by decide) (fun K hK => ?_)
        refine goes_ (f := 17) (fn := Try.f17) Try.func17 rfl rfl #[.agg f.cs.toArray, .agg f.cs.toArray] (by kernel_rfl) rfl rfl (by simp only [List.map_toArray, List.map_cons, List.map_nil]; rfl) ?_
        refine (same_fr f l[i].f1 _ KF).mono ?_
        rintro e w5 ⟨rfl, k5⟩
        have SH5 : w5.cell? ⟨g, 0, none⟩ = some (.int .i64 6) ∧ w5.rangeAt g 25 f.cs ∧ w5.rangeAt (ad.add (i * 25)).block ((ad.add (i * 25)).off + 1) f.cs ∧ w5.rangeAt g 1 fr0.cs := ⟨k5.cell SH.1, k5.range SH.2.1, k5.range SH.2.2.1, k5.range SH.2.2.2⟩
        refine ⟨_, rfl, hK.out _ _ SH5 (fun hHeld => ?_)⟩
        clear hHeld hK K
        refine norm_ (a' := ?_) ?_ ?_
        rotate_left
        · (try simp only [Act.put, List.setIfInBounds_toArray, List.set_cons_zero, List.set_cons_succ]); rfl
        refine pure_ (i := 16) (N := (some 68)) (v := ?_) (a' := ?_) #[true, true, true, true, true, true, true, true, true, true, true, true, true, true, true, true, true, false, false, false, false, false, false, false, false, false, false] rfl rfl (by kernel_rfl) (fun _ _ _ h => h) (Or.inl ⟨by rfl, ?_⟩) ?_ ?_
        rotate_left
        · intro w'
          go_simp
          with_reducible rfl
        rotate_left
        · (try simp only [Act.put, List.setIfInBounds_toArray, List.set_cons_zero, List.set_cons_succ]); rfl
        refine pure_ (i := 17) (N := (some 69)) (v := ?_) (a' := ?_) #[true, true, true, true, true, true, true, true, true, true, true, true, true, true, true, true, true, true, false, false, false, false, false, false, false, false, false] rfl rfl (by kernel_rfl) (fun _ _ _ h => h) (Or.inl ⟨by rfl, ?_⟩) ?_ ?_
        rotate_left
        · intro w'
          go_simp
          with_reducible rfl
        rotate_left
        · (try simp only [Act.put, List.setIfInBounds_toArray, List.set_cons_zero, List.set_cons_succ]); rfl
        refine pure_ (i := 18) (N := (some 70)) (v := ?_) (a' := ?_) #[true, true, true, true, true, true, true, true, true, true, true, true, true, true, true, true, true, true, true, false, false, false, false, false, false, false, false] rfl rfl (by kernel_rfl) (fun _ _ _ h => h) (Or.inl ⟨by rfl, ?_⟩) ?_ ?_
        rotate_left
        · intro w'
          go_simp
          with_reducible rfl
        rotate_left
        · (try simp only [Act.put, List.setIfInBounds_toArray, List.set_cons_zero, List.set_cons_succ]); rfl
        refine pure_ (i := 19) (N := (some 71)) (v := ?_) (a' := ?_) #[true, true, true, true, true, true, true, true, true, true, true, true, true, true, true, true, true, true, true, true, false, false, false, false, false, false, false] rfl rfl (by kernel_rfl) (fun _ _ _ h => h) (Or.inl ⟨by rfl, ?_⟩) ?_ ?_
        rotate_left
        · intro w'
          go_simp
          with_reducible rfl
        rotate_left
        · (try simp only [Act.put, List.setIfInBounds_toArray, List.set_cons_zero, List.set_cons_succ]); rfl
        refine pure_ (i := 20) (N := (some 72)) (v := ?_) (a' := ?_) #[true, true, true, true, true, true, true, true, true, true, true, true, true, true, true, true, true, true, true, true, true, false, false, false, false, false, false] rfl rfl (by kernel_rfl) (fun _ _ _ h => h) (Or.inl ⟨by rfl, ?_⟩) ?_ ?_
        rotate_left
        · intro w'
          go_simp
          with_reducible rfl
        rotate_left
        · (try simp only [Act.put, List.setIfInBounds_toArray, List.set_cons_zero, List.set_cons_succ]); rfl
        refine pure_ (i := 21) (N := (some 73)) (v := ?_) (a' := ?_) #[true, true, true, true, true, true, true, true, true, true, true, true, true, true, true, true, true, true, true, true, true, true, false, false, false, false, false] rfl rfl (by kernel_rfl) (fun _ _ _ h => h) (Or.inl ⟨by rfl, ?_⟩) ?_ ?_
        rotate_left
        · intro w'
          go_simp
          with_reducible rfl
        rotate_left
        · (try simp only [Act.put, List.setIfInBounds_toArray, List.set_cons_zero, List.set_cons_succ]); rfl
        refine take_ (i := 22) (N := (some 74)) (v := .agg fr0.cs.toArray) (a' := ?_) #[true, true, true, true, true, true, true, true, true, true, true, true, true, true, true, true, true, true, true, true, true, true, true, false, false, false, false] rfl rfl (by kernel_rfl) (fun _ _ _ h => h) (yieldsIf_load_mid (by kernel_rfl) 44 (.tmp 73) rfl g 1 rfl fr0.cs _ (fun w' hS => hS.2.2.2) Try.underlying44 rfl (by kernel_rfl)) SH5 ?_ ?_
        rotate_left
        · (try simp only [Act.put, List.setIfInBounds_toArray, List.set_cons_zero, List.set_cons_succ]); rfl
        refine pure_ (i := 23) (N := some 75) (v := .agg fr0.cs.toArray) (a' := ?_) #[true, true, true, true, true, true, true, true, true, true, true, true, true, true, true, true, true, true, true, true, true, true, true, true, false, false, false] rfl rfl (by kernel_rfl) (fun _ _ _ h => h) (yields_build (by kernel_rfl) 44 _ rfl [] (by simp only [List.map_toArray, List.map_cons, List.map_nil]) _ fr0_built) ?_ ?_
        rotate_left
        · (try simp only [Act.put, List.setIfInBounds_toArray, List.set_cons_zero, List.set_cons_succ]); rfl
        refine one_ (i := 24) (N := some 76) #[true, true, true, true, true, true, true, true, true, true, true, true, true, true, true, true, true, true, true, true, true, true, true, true, true, false, false] rfl rfl (by kernel_rfl) (by decide) (fun K hK => ?_)
        refine goes_ (f := 17) (fn := Try.f17) Try.func17 rfl rfl #[.agg fr0.cs.toArray, .agg fr0.cs.toArray] (by kernel_rfl) rfl rfl (by simp only [List.map_toArray, List.map_cons, List.map_nil]; rfl) ?_
        refine (same_fr fr0 z44 _ (fr0_K _)).mono ?_
        rintro e w6 ⟨rfl, k6⟩
        have SH6 : w6.cell? ⟨g, 0, none⟩ = some (.int .i64 6) ∧ w6.rangeAt g 25 f.cs ∧ w6.rangeAt (ad.add (i * 25)).block ((ad.add (i * 25)).off + 1) f.cs ∧ w6.rangeAt g 1 fr0.cs := ⟨k6.cell SH5.1, k6.range SH5.2.1, k6.range SH5.2.2.1, k6.range SH5.2.2.2⟩
        refine ⟨_, rfl, hK.out _ _ SH6 (fun hHeld => ?_)⟩
        clear hHeld hK K
        refine norm_ (a' := ?_) ?_ ?_
        rotate_left
        · (try simp only [Act.put, List.setIfInBounds_toArray, List.set_cons_zero, List.set_cons_succ]); rfl
        refine pure_ (i := 25) (N := (some 77)) (v := ?_) (a' := ?_) #[true, true, true, true, true, true, true, true, true, true, true, true, true, true, true, true, true, true, true, true, true, true, true, true, true, true, false] rfl rfl (by kernel_rfl) (fun _ _ _ h => h) (Or.inl ⟨by rfl, ?_⟩) ?_ ?_
        rotate_left
        · intro w'
          go_simp
          with_reducible rfl
        rotate_left
        · (try simp only [Act.put, List.setIfInBounds_toArray, List.set_cons_zero, List.set_cons_succ]); rfl
        refine pure_ (i := 26) (N := (some 78)) (v := ?_) (a' := ?_) #[true, true, true, true, true, true, true, true, true, true, true, true, true, true, true, true, true, true, true, true, true, true, true, true, true, true, true] rfl rfl (by kernel_rfl) (fun _ _ _ h => h) (Or.inl ⟨by rfl, ?_⟩) ?_ ?_
        rotate_left
        · intro w'
          go_simp
          with_reducible rfl
        rotate_left
        · (try simp only [Act.put, List.setIfInBounds_toArray, List.set_cons_zero, List.set_cons_succ]); rfl
        refine done_ (by kernel_rfl) ?_
        have ST6 : Aside0 (StAt w w6 pb net) := ⟨(ST4.out.keep k5).keep k6⟩
        clear KF SH SH5 SH6 k5 k6 ST4
        go_wp2
        go_roundg (l.length - (i + 1))
        case measure => omega
        case rel => exact ⟨i + 1, by go_num, by omega, Nat.le_refl _, ST6⟩
      · by_cases hd1 : dir = 1
        · subst hd1
          go_upto_region 10 with (first
            | (refine wpList_load_mid rfl 44 (.tmp 40) rfl _ _ rfl f.cs _ hr1 Try.underlying44 rfl szl44 ?_)
            | (go_at_call 12; with_reducible refine T.mono ?_; rintro e w2 ⟨g, cap, rfl, hSH, hS2⟩; have SH1 : Aside0 _ := ⟨hSH⟩; have ST2 : Aside0 _ := ⟨hS2⟩; have hop := hS2.open_; clear T hSH hS2 hr1))
          go_upto_region 12 with (go_at_call 16; with_reducible refine hop.mono ?_; rintro e w3 ⟨oa, ocap, rfl, k3⟩; have ST3 : Aside0 _ := ⟨ST2.out.keep k3⟩; have SH3 : Aside0 _ := ⟨(⟨k3.cell SH1.out.1, k3.range SH1.out.2.1, k3.range SH1.out.2.2⟩ : w3.cell? ⟨g, 0, none⟩ = some (.int .i64 6) ∧ w3.rangeAt g 25 f.cs ∧ w3.rangeAt g 1 fr0.cs)⟩; clear hop k3 ST2 SH1)
          have kq : Kept w3 w3.drew (fun _ => False) := Kept.drew w3 _
          have SH : w3.drew.cell? ⟨g, 0, none⟩ = some (.int .i64 6) ∧ w3.drew.rangeAt g 25 f.cs ∧ w3.drew.rangeAt (ad.add (i * 25)).block ((ad.add (i * 25)).off + 1) f.cs ∧ w3.drew.rangeAt g 1 fr0.cs := ⟨SH3.out.1, kq.range SH3.out.2.1, (ST3.out.kept.trans kq (fun _ _ h => h) (fun _ _ h => h)).range HR.out, kq.range SH3.out.2.2⟩
          have KF : k44.K w3.drew l[i].f1 f.cs := k44.K_below (ST3.out.kept.trans kq (fun _ _ h => h) (fun _ _ h => h)).toBelow HK.out
          have ST4 : Aside0 _ := ⟨ST3.out.keep kq⟩
          clear kq SH3 ST3
          refine start_ (n := 27) (S := fun w' => w'.cell? ⟨g, 0, none⟩ = some (.int .i64 6) ∧ w'.rangeAt g 25 f.cs ∧ w'.rangeAt (ad.add (i * 25)).block ((ad.add (i * 25)).off + 1) f.cs ∧ w'.rangeAt g 1 fr0.cs) (ds := []) #[false, false, false, false, false, false, false, false, false, false, false, false, false, false, false, false, false, false, false, false, false, false, false, false, false, false, false] (by kernel_rfl) rfl rfl SH (fun hHeld => ?_)
          clear hHeld
          refine pure_ (i := 0) (N := (some 52)) (v := ?_) (a' := ?_) #[true, false, false, false, false, false, false, false, false, false, false, false, false, false, false, false, false, false, false, false, false, false, false, false, false, false, false] rfl rfl (by kernel_rfl) (fun _ _ _ h => h) (Or.inl ⟨by rfl, ?_⟩) ?_ ?_
          rotate_left
          · intro w'
            go_simp
            with_reducible rfl
          rotate_left
          · (try simp only [Act.put, List.setIfInBounds_toArray, List.set_cons_zero, List.set_cons_succ]); rfl
          refine pure_ (i := 1) (N := (some 53)) (v := ?_) (a' := ?_) #[true, true, false, false, false, false, false, false, false, false, false, false, false, false, false, false, false, false, false, false, false, false, false, false, false, false, false] rfl rfl (by kernel_rfl) (fun _ _ _ h => h) (Or.inl ⟨by rfl, ?_⟩) ?_ ?_
          rotate_left
          · intro w'
            go_simp
            with_reducible rfl
          rotate_left
          · (try simp only [Act.put, List.setIfInBounds_toArray, List.set_cons_zero, List.set_cons_succ]); rfl
          refine pure_ (i := 2) (N := (some 54)) (v := ?_) (a' := ?_) #[true, true, true, false, false, false, false, false, false, false, false, false, false, false, false, false, false, false, false, false, false, false, false, false, false, false, false] rfl rfl (by kernel_rfl) (fun _ _ _ h => h) (Or.inl ⟨by rfl, ?_⟩) ?_ ?_
          rotate_left
          · intro w'
            go_simp
            with_reducible rfl
          rotate_left
          · (try simp only [Act.put, List.setIfInBounds_toArray, List.set_cons_zero, List.set_cons_succ]); rfl
          refine take_ (i := 3) (N := (some 55)) (v := ?_) (a' := ?_) #[true, true, true, true, false, false, false, false, false, false, false, false, false, false, false, false, false, false, false, false, false, false, false, false, false, false, false] rfl rfl (by kernel_rfl) (fun _ _ _ h => h) (Or.inl ⟨by rfl, ?_⟩) SH ?_ ?_
          rotate_left
          · intro w' hS
            have q0 := hS.1
            go_simp
            with_reducible rfl
          rotate_left
          · (try simp only [Act.put, List.setIfInBounds_toArray, List.set_cons_zero, List.set_cons_succ]); rfl
          refine pure_ (i := 4) (N := (some 56)) (v := ?_) (a' := ?_) #[true, true, true, true, true, false, false, false, false, false, false, false, false, false, false, false, false, false, false, false, false, false, false, false, false, false, false] rfl rfl (by kernel_rfl) (fun _ _ _ h => h) (Or.inl ⟨by rfl, ?_⟩) ?_ ?_
          rotate_left
          · intro w'
            go_simp
            with_reducible rfl
          rotate_left
          · (try simp only [Act.put, List.setIfInBounds_toArray, List.set_cons_zero, List.set_cons_succ]); rfl
          refine pure_ (i := 5) (N := (some 57)) (v := ?_) (a' := ?_) #[true, true, true, true, true, true, false, false, false, false, false, false, false, false, false, false, false, false, false, false, false, false, false, false, false, false, false] rfl rfl (by kernel_rfl) (fun _ _ _ h => h) (Or.inl ⟨by rfl, ?_⟩) ?_ ?_
          rotate_left
          · intro w'
            go_simp
            with_reducible rfl
          rotate_left
          · (try simp only [Act.put, List.setIfInBounds_toArray, List.set_cons_zero, List.set_cons_succ]); rfl
          refine pure_ (i := 6) (N := (some 58)) (v := ?_) (a' := ?_) #[true, true, true, true, true, true, true, false, false, false, false, false, false, false, false, false, false, false, false, false, false, false, false, false, false, false, false] rfl rfl (by kernel_rfl) (fun _ _ _ h => h) (Or.inl ⟨by rfl, ?_⟩) ?_ ?_
          rotate_left
          · intro w'
            go_simp
            with_reducible rfl
          rotate_left
          · (try simp only [Act.put, List.setIfInBounds_toArray, List.set_cons_zero, List.set_cons_succ]); rfl
          refine pure_ (i := 7) (N := (some 59)) (v := ?_) (a' := ?_) #[true, true, true, true, true, true, true, true, false, false, false, false, false, false, false, false, false, false, false, false, false, false, false, false, false, false, false] rfl rfl (by kernel_rfl) (fun _ _ _ h => h) (Or.inl ⟨by rfl, ?_⟩) ?_ ?_
          rotate_left
          · intro w'
            go_simp
            with_reducible rfl
          rotate_left
          · (try simp only [Act.put, List.setIfInBounds_toArray, List.set_cons_zero, List.set_cons_succ]); rfl
          refine pure_ (i := 8) (N := (some 60)) (v := ?_) (a' := ?_) #[true, true, true, true, true, true, true, true, true, false, false, false, false, false, false, false, false, false, false, false, false, false, false, false, false, false, false] rfl rfl (by kernel_rfl) (fun _ _ _ h => h) (Or.inl ⟨by rfl, ?_⟩) ?_ ?_
          rotate_left
          · intro w'
            go_simp
            with_reducible rfl
          rotate_left
          · (try simp only [Act.put, List.setIfInBounds_toArray, List.set_cons_zero, List.set_cons_succ]); rfl
          refine take_ (i := 9) (N := (some 61)) (v := .agg f.cs.toArray) (a' := ?_) #[true, true, true, true, true, true, true, true, true, true, false, false, false, false, false, false, false, false, false, false, false, false, false, false, false, false, false] rfl rfl (by kernel_rfl) (fun _ _ _ h => h) (yieldsIf_load_mid (by kernel_rfl) 44 (.tmp 60) rfl g 25 rfl f.cs _ (fun w' hS => hS.2.1) Try.underlying44 rfl (by kernel_rfl)) SH ?_ ?_
          rotate_left
          · (try simp only [Act.put, List.setIfInBounds_toArray, List.set_cons_zero, List.set_cons_succ]); rfl
          refine pure_ (i := 10) (N := (some 62)) (v := ?_) (a' := ?_) #[true, true, true, true, true, true, true, true, true, true, true, false, false, false, false, false, false, false, false, false, false, false, false, false, false, false, false] rfl rfl (by kernel_rfl) (fun _ _ _ h => h) (Or.inl ⟨by rfl, ?_⟩) ?_ ?_
          rotate_left
          · intro w'
            go_simp
            with_reducible rfl
          rotate_left
          · (try simp only [Act.put, List.setIfInBounds_toArray, List.set_cons_zero, List.set_cons_succ]); rfl
          refine pure_ (i := 11) (N := (some 63)) (v := ?_) (a' := ?_) #[true, true, true, true, true, true, true, true, true, true, true, true, false, false, false, false, false, false, false, false, false, false, false, false, false, false, false] rfl rfl (by kernel_rfl) (fun _ _ _ h => h) (Or.inl ⟨by rfl, ?_⟩) ?_ ?_
          rotate_left
          · intro w'
            go_simp
            with_reducible rfl
          rotate_left
          · (try simp only [Act.put, List.setIfInBounds_toArray, List.set_cons_zero, List.set_cons_succ]); rfl
          refine pure_ (i := 12) (N := (some 64)) (v := ?_) (a' := ?_) #[true, true, true, true, true, true, true, true, true, true, true, true, true, false, false, false, false, false, false, false, false, false, false, false, false, false, false] rfl rfl (by kernel_rfl) (fun _ _ _ h => h) (Or.inl ⟨by rfl, ?_⟩) ?_ ?_
          rotate_left
          · intro w'
            go_simp
            with_reducible rfl
          rotate_left
          · (try simp only [Act.put, List.setIfInBounds_toArray, List.set_cons_zero, List.set_cons_succ]); rfl
          refine pure_ (i := 13) (N := (some 65)) (v := ?_) (a' := ?_) #[true, true, true, true, true, true, true, true, true, true, true, true, true, true, false, false, false, false, false, false, false, false, false, false, false, false, false] rfl rfl (by kernel_rfl) (fun _ _ _ h => h) (Or.inl ⟨by rfl, ?_⟩) ?_ ?_
          rotate_left
          · intro w'
            go_simp
            with_reducible rfl
          rotate_left
          · (try simp only [Act.put, List.setIfInBounds_toArray, List.set_cons_zero, List.set_cons_succ]); rfl
          refine take_ (i := 14) (N := (some 66)) (v := .agg f.cs.toArray) (a' := ?_) #[true, true, true, true, true, true, true, true, true, true, true, true, true, true, true, false, false, false, false, false, false, false, false, false, false, false, false] rfl rfl (by kernel_rfl) (fun _ _ _ h => h) (yieldsIf_load_mid (by kernel_rfl) 44 (.tmp 65) rfl (ad.add (i * 25)).block ((ad.add (i * 25)).off + 1) rfl f.cs _ (fun w' hS => hS.2.2.1) Try.underlying44 rfl (by kernel_rfl)) SH ?_ ?_
          rotate_left
          · (try simp only [Act.put, List.setIfInBounds_toArray, List.set_cons_zero, List.set_cons_succ]); rfl
          refine one_ (i := 15) (N := some 67) #[true, true, true, true, true, true, true, true, true, true, true, true, true, true, true, true, false, false, false, false, false, false, false, false, false, false, false] rfl rfl (by kernel_rfl) (by decide) (fun K hK => ?_)
          refine goes_ (f := 17) (fn := Try.f17) Try.func17 rfl rfl #[.agg f.cs.toArray, .agg f.cs.toArray] (by kernel_rfl) rfl rfl (by simp only [List.map_toArray, List.map_cons, List.map_nil]; rfl) ?_
          refine (same_fr f l[i].f1 _ KF).mono ?_
          rintro e w5 ⟨rfl, k5⟩
          have SH5 : w5.cell? ⟨g, 0, none⟩ = some (.int .i64 6) ∧ w5.rangeAt g 25 f.cs ∧ w5.rangeAt (ad.add (i * 25)).block ((ad.add (i * 25)).off + 1) f.cs ∧ w5.rangeAt g 1 fr0.cs := ⟨k5.cell SH.1, k5.range SH.2.1, k5.range SH.2.2.1, k5.range SH.2.2.2⟩
          refine ⟨_, rfl, hK.out _ _ SH5 (fun hHeld => ?_)⟩
          clear hHeld hK K
          refine norm_ (a' := ?_) ?_ ?_
          rotate_left
          · (try simp only [Act.put, List.setIfInBounds_toArray, List.set_cons_zero, List.set_cons_succ]); rfl
          refine pure_ (i := 16) (N := (some 68)) (v := ?_) (a' := ?_) #[true, true, true, true, true, true, true, true, true, true, true, true, true, true, true, true, true, false, false, false, false, false, false, false, false, false, false] rfl rfl (by kernel_rfl) (fun _ _ _ h => h) (Or.inl ⟨by rfl, ?_⟩) ?_ ?_
          rotate_left
          · intro w'
            go_simp
            with_reducible rfl
          rotate_left
          · (try simp only [Act.put, List.setIfInBounds_toArray, List.set_cons_zero, List.set_cons_succ]); rfl
          refine pure_ (i := 17) (N := (some 69)) (v := ?_) (a' := ?_) #[true, true, true, true, true, true, true, true, true, true, true, true, true, true, true, true, true, true, false, false, false, false, false, false, false, false, false] rfl rfl (by kernel_rfl) (fun _ _ _ h => h) (Or.inl ⟨by rfl, ?_⟩) ?_ ?_
          rotate_left
          · intro w'
            go_simp
            with_reducible rfl
          rotate_left
          · (try simp only [Act.put, List.setIfInBounds_toArray, List.set_cons_zero, List.set_cons_succ]); rfl
          refine pure_ (i := 18) (N := (some 70)) (v := ?_) (a' := ?_) #[true, true, true, true, true, true, true, true, true, true, true, true, true, true, true, true, true, true, true, false, false, false, false, false, false, false, false] rfl rfl (by kernel_rfl) (fun _ _ _ h => h) (Or.inl ⟨by rfl, ?_⟩) ?_ ?_
          rotate_left
          · intro w'
            go_simp
            with_reducible rfl
          rotate_left
          · (try simp only [Act.put, List.setIfInBounds_toArray, List.set_cons_zero, List.set_cons_succ]); rfl
          refine pure_ (i := 19) (N := (some 71)) (v := ?_) (a' := ?_) #[true, true, true, true, true, true, true, true, true, true, true, true, true, true, true, true, true, true, true, true, false, false, false, false, false, false, false] rfl rfl (by kernel_rfl) (fun _ _ _ h => h) (Or.inl ⟨by rfl, ?_⟩) ?_ ?_
          rotate_left
          · intro w'
            go_simp
            with_reducible rfl
          rotate_left
          · (try simp only [Act.put, List.setIfInBounds_toArray, List.set_cons_zero, List.set_cons_succ]); rfl
          refine pure_ (i := 20) (N := (some 72)) (v := ?_) (a' := ?_) #[true, true, true, true, true, true, true, true, true, true, true, true, true, true, true, true, true, true, true, true, true, false, false, false, false, false, false] rfl rfl (by kernel_rfl) (fun _ _ _ h => h) (Or.inl ⟨by rfl, ?_⟩) ?_ ?_
          rotate_left
          · intro w'
            go_simp
            with_reducible rfl
          rotate_left
          · (try simp only [Act.put, List.setIfInBounds_toArray, List.set_cons_zero, List.set_cons_succ]); rfl
          refine pure_ (i := 21) (N := (some 73)) (v := ?_) (a' := ?_) #[true, true, true, true, true, true, true, true, true, true, true, true, true, true, true, true, true, true, true, true, true, true, false, false, false, false, false] rfl rfl (by kernel_rfl) (fun _ _ _ h => h) (Or.inl ⟨by rfl, ?_⟩) ?_ ?_
          rotate_left
          · intro w'
            go_simp
            with_reducible rfl
          rotate_left
          · (try simp only [Act.put, List.setIfInBounds_toArray, List.set_cons_zero, List.set_cons_succ]); rfl
          refine take_ (i := 22) (N := (some 74)) (v := .agg fr0.cs.toArray) (a' := ?_) #[true, true, true, true, true, true, true, true, true, true, true, true, true, true, true, true, true, true, true, true, true, true, true, false, false, false, false] rfl rfl (by kernel_rfl) (fun _ _ _ h => h) (yieldsIf_load_mid (by kernel_rfl) 44 (.tmp 73) rfl g 1 rfl fr0.cs _ (fun w' hS => hS.2.2.2) Try.underlying44 rfl (by kernel_rfl)) SH5 ?_ ?_
          rotate_left
          · (try simp only [Act.put, List.setIfInBounds_toArray, List.set_cons_zero, List.set_cons_succ]); rfl
          refine pure_ (i := 23) (N := some 75) (v := .agg fr0.cs.toArray) (a' := ?_) #[true, true, true, true, true, true, true, true, true, true, true, true, true, true, true, true, true, true, true, true, true, true, true, true, false, false, false] rfl rfl (by kernel_rfl) (fun _ _ _ h => h) (yields_build (by kernel_rfl) 44 _ rfl [] (by simp only [List.map_toArray, List.map_cons, List.map_nil]) _ fr0_built) ?_ ?_
          rotate_left
          · (try simp only [Act.put, List.setIfInBounds_toArray, List.set_cons_zero, List.set_cons_succ]); rfl
          refine one_ (i := 24) (N := some 76) #[true, true, true, true, true, true, true, true, true, true, true, true, true, true, true, true, true, true, true, true, true, true, true, true, true, false, false] rfl rfl (by kernel_rfl) (by decide) (fun K hK => ?_)
          refine goes_ (f := 17) (fn := Try.f17) Try.func17 rfl rfl #[.agg fr0.cs.toArray, .agg fr0.cs.toArray] (by kernel_rfl) rfl rfl (by simp only [List.map_toArray, List.map_cons, List.map_nil]; rfl) ?_
          refine (same_fr fr0 z44 _ (fr0_K _)).mono ?_
          rintro e w6 ⟨rfl, k6⟩
          have SH6 : w6.cell? ⟨g, 0, none⟩ = some (.int .i64 6) ∧ w6.rangeAt g 25 f.cs ∧ w6.rangeAt (ad.add (i * 25)).block ((ad.add (i * 25)).off + 1) f.cs ∧ w6.rangeAt g 1 fr0.cs := ⟨k6.cell SH5.1, k6.range SH5.2.1, k6.range SH5.2.2.1, k6.range SH5.2.2.2⟩
          refine ⟨_, rfl, hK.out _ _ SH6 (fun hHeld => ?_)⟩
          clear hHeld hK K
          refine norm_ (a' := ?_) ?_ ?_
          rotate_left
          · (try simp only [Act.put, List.setIfInBounds_toArray, List.set_cons_zero, List.set_cons_succ]); rfl
          refine pure_ (i := 25) (N := (some 77)) (v := ?_) (a' := ?_) #[true, true, true, true, true, true, true, true, true, true, true, true, true, true, true, true, true, true, true, true, true, true, true, true, true, true, false] rfl rfl (by kernel_rfl) (fun _ _ _ h => h) (Or.inl ⟨by rfl, ?_⟩) ?_ ?_
          rotate_left
          · intro w'
            go_simp
            with_reducible rfl
          rotate_left
          · (try simp only [Act.put, List.setIfInBounds_toArray, List.set_cons_zero, List.set_cons_succ]); rfl
          refine pure_ (i := 26) (N := (some 78)) (v := ?_) (a' := ?_) #[true, true, true, true, true, true, true, true, true, true, true, true, true, true, true, true, true, true, true, true, true, true, true, true, true, true, true] rfl rfl (by kernel_rfl) (fun _ _ _ h => h) (Or.inl ⟨by rfl, ?_⟩) ?_ ?_
          rotate_left
          · intro w'
            go_simp
            with_reducible rfl
          rotate_left
          · (try simp only [Act.put, List.setIfInBounds_toArray, List.set_cons_zero, List.set_cons_succ]); rfl
          refine done_ (by kernel_rfl) ?_
          have ST6 : Aside0 (StAt w w6 pb net) := ⟨(ST4.out.keep k5).keep k6⟩
          clear KF SH SH5 SH6 k5 k6 ST4
          go_wp2
          go_roundg (l.length - (i + 1))
          case measure => omega
          case rel => exact ⟨i + 1, by go_num, by omega, Nat.le_refl _, ST6⟩
        · have hq0 : (dir != 0) = true := by simpa using hd0
          have hq1 : (dir != 1) = true := by simpa using hd1
          go_upto_region 10 with (first
            | (refine wpList_load_mid rfl 44 (.tmp 40) rfl _ _ rfl f.cs _ hr1 Try.underlying44 rfl szl44 ?_)
            | (go_at_call 12; with_reducible refine T.mono ?_; rintro e w2 ⟨g, cap, rfl, hSH, hS2⟩; have SH1 : Aside0 _ := ⟨hSH⟩; have ST2 : Aside0 _ := ⟨hS2⟩; have hop := hS2.open_; clear T hSH hS2 hr1))
          go_upto_region 12 with (go_at_call 16; with_reducible refine hop.mono ?_; rintro e w3 ⟨oa, ocap, rfl, k3⟩; have ST3 : Aside0 _ := ⟨ST2.out.keep k3⟩; have SH3 : Aside0 _ := ⟨(⟨k3.cell SH1.out.1, k3.range SH1.out.2.1, k3.range SH1.out.2.2⟩ : w3.cell? ⟨g, 0, none⟩ = some (.int .i64 6) ∧ w3.rangeAt g 25 f.cs ∧ w3.rangeAt g 1 fr0.cs)⟩; clear hop k3 ST2 SH1)
          have kq : Kept w3 w3.drew (fun _ => False) := Kept.drew w3 _
          have SH : w3.drew.cell? ⟨g, 0, none⟩ = some (.int .i64 6) ∧ w3.drew.rangeAt g 25 f.cs ∧ w3.drew.rangeAt (ad.add (i * 25)).block ((ad.add (i * 25)).off + 1) f.cs ∧ w3.drew.rangeAt g 1 fr0.cs := ⟨SH3.out.1, kq.range SH3.out.2.1, (ST3.out.kept.trans kq (fun _ _ h => h) (fun _ _ h => h)).range HR.out, kq.range SH3.out.2.2⟩
          have KF : k44.K w3.drew l[i].f1 f.cs := k44.K_below (ST3.out.kept.trans kq (fun _ _ h => h) (fun _ _ h => h)).toBelow HK.out
          have ST4 : Aside0 _ := ⟨ST3.out.keep kq⟩
          clear kq SH3 ST3
          refine start_ (n := 27) (S := fun w' => w'.cell? ⟨g, 0, none⟩ = some (.int .i64 6) ∧ w'.rangeAt g 25 f.cs ∧ w'.rangeAt (ad.add (i * 25)).block ((ad.add (i * 25)).off + 1) f.cs ∧ w'.rangeAt g 1 fr0.cs) (ds := []) #[false, false, false, false, false, false, false, false, false, false, false, false, false, false, false, false, false, false, false, false, false, false, false, false, false, false, false] (by kernel_rfl) rfl rfl SH (fun hHeld => ?_)
          clear hHeld
          refine pure_ (i := 0) (N := (some 52)) (v := ?_) (a' := ?_) #[true, false, false, false, false, false, false, false, false, false, false, false, false, false, false, false, false, false, false, false, false, false, false, false, false, false, false] rfl rfl (by kernel_rfl) (fun _ _ _ h => h) (Or.inl ⟨by rfl, ?_⟩) ?_ ?_
          rotate_left
          · intro w'
            go_simp
            with_reducible rfl
          rotate_left
          · (try simp only [Act.put, List.setIfInBounds_toArray, List.set_cons_zero, List.set_cons_succ]); rfl
          refine pure_ (i := 1) (N := (some 53)) (v := ?_) (a' := ?_) #[true, true, false, false, false, false, false, false, false, false, false, false, false, false, false, false, false, false, false, false, false, false, false, false, false, false, false] rfl rfl (by kernel_rfl) (fun _ _ _ h => h) (Or.inl ⟨by rfl, ?_⟩) ?_ ?_
          rotate_left
          · intro w'
            go_simp
            with_reducible rfl
          rotate_left
          · (try simp only [Act.put, List.setIfInBounds_toArray, List.set_cons_zero, List.set_cons_succ]); rfl
          refine pure_ (i := 2) (N := (some 54)) (v := ?_) (a' := ?_) #[true, true, true, false, false, false, false, false, false, false, false, false, false, false, false, false, false, false, false, false, false, false, false, false, false, false, false] rfl rfl (by kernel_rfl) (fun _ _ _ h => h) (Or.inl ⟨by rfl, ?_⟩) ?_ ?_
          rotate_left
          · intro w'
            go_simp
            with_reducible rfl
          rotate_left
          · (try simp only [Act.put, List.setIfInBounds_toArray, List.set_cons_zero, List.set_cons_succ]); rfl
          refine take_ (i := 3) (N := (some 55)) (v := ?_) (a' := ?_) #[true, true, true, true, false, false, false, false, false, false, false, false, false, false, false, false, false, false, false, false, false, false, false, false, false, false, false] rfl rfl (by kernel_rfl) (fun _ _ _ h => h) (Or.inl ⟨by rfl, ?_⟩) SH ?_ ?_
          rotate_left
          · intro w' hS
            have q0 := hS.1
            go_simp
            with_reducible rfl
          rotate_left
          · (try simp only [Act.put, List.setIfInBounds_toArray, List.set_cons_zero, List.set_cons_succ]); rfl
          refine pure_ (i := 4) (N := (some 56)) (v := ?_) (a' := ?_) #[true, true, true, true, true, false, false, false, false, false, false, false, false, false, false, false, false, false, false, false, false, false, false, false, false, false, false] rfl rfl (by kernel_rfl) (fun _ _ _ h => h) (Or.inl ⟨by rfl, ?_⟩) ?_ ?_
          rotate_left
          · intro w'
            go_simp
            with_reducible rfl
          rotate_left
          · (try simp only [Act.put, List.setIfInBounds_toArray, List.set_cons_zero, List.set_cons_succ]); rfl
          refine pure_ (i := 5) (N := (some 57)) (v := ?_) (a' := ?_) #[true, true, true, true, true, true, false, false, false, false, false, false, false, false, false, false, false, false, false, false, false, false, false, false, false, false, false] rfl rfl (by kernel_rfl) (fun _ _ _ h => h) (Or.inl ⟨by rfl, ?_⟩) ?_ ?_
          rotate_left
          · intro w'
            go_simp
            with_reducible rfl
          rotate_left
          · (try simp only [Act.put, List.setIfInBounds_toArray, List.set_cons_zero, List.set_cons_succ]); rfl
          refine pure_ (i := 6) (N := (some 58)) (v := ?_) (a' := ?_) #[true, true, true, true, true, true, true, false, false, false, false, false, false, false, false, false, false, false, false, false, false, false, false, false, false, false, false] rfl rfl (by kernel_rfl) (fun _ _ _ h => h) (Or.inl ⟨by rfl, ?_⟩) ?_ ?_
          rotate_left
          · intro w'
            go_simp
            with_reducible rfl
          rotate_left
          · (try simp only [Act.put, List.setIfInBounds_toArray, List.set_cons_zero, List.set_cons_succ]); rfl
          refine pure_ (i := 7) (N := (some 59)) (v := ?_) (a' := ?_) #[true, true, true, true, true, true, true, true, false, false, false, false, false, false, false, false, false, false, false, false, false, false, false, false, false, false, false] rfl rfl (by kernel_rfl) (fun _ _ _ h => h) (Or.inl ⟨by rfl, ?_⟩) ?_ ?_
          rotate_left
          · intro w'
            go_simp
            with_reducible rfl
          rotate_left
          · (try simp only [Act.put, List.setIfInBounds_toArray, List.set_cons_zero, List.set_cons_succ]); rfl
          refine pure_ (i := 8) (N := (some 60)) (v := ?_) (a' := ?_) #[true, true, true, true, true, true, true, true, true, false, false, false, false, false, false, false, false, false, false, false, false, false, false, false, false, false, false] rfl rfl (by kernel_rfl) (fun _ _ _ h => h) (Or.inl ⟨by rfl, ?_⟩) ?_ ?_
          rotate_left
          · intro w'
            go_simp
            with_reducible rfl
          rotate_left
          · (try simp only [Act.put, List.setIfInBounds_toArray, List.set_cons_zero, List.set_cons_succ]); rfl
          refine take_ (i := 9) (N := (some 61)) (v := .agg f.cs.toArray) (a' := ?_) #[true, true, true, true, true, true, true, true, true, true, false, false, false, false, false, false, false, false, false, false, false, false, false, false, false, false, false] rfl rfl (by kernel_rfl) (fun _ _ _ h => h) (yieldsIf_load_mid (by kernel_rfl) 44 (.tmp 60) rfl g 25 rfl f.cs _ (fun w' hS => hS.2.1) Try.underlying44 rfl (by kernel_rfl)) SH ?_ ?_
          rotate_left
          · (try simp only [Act.put, List.setIfInBounds_toArray, List.set_cons_zero, List.set_cons_succ]); rfl
          refine pure_ (i := 10) (N := (some 62)) (v := ?_) (a' := ?_) #[true, true, true, true, true, true, true, true, true, true, true, false, false, false, false, false, false, false, false, false, false, false, false, false, false, false, false] rfl rfl (by kernel_rfl) (fun _ _ _ h => h) (Or.inl ⟨by rfl, ?_⟩) ?_ ?_
          rotate_left
          · intro w'
            go_simp
            with_reducible rfl
          rotate_left
          · (try simp only [Act.put, List.setIfInBounds_toArray, List.set_cons_zero, List.set_cons_succ]); rfl
          refine pure_ (i := 11) (N := (some 63)) (v := ?_) (a' := ?_) #[true, true, true, true, true, true, true, true, true, true, true, true, false, false, false, false, false, false, false, false, false, false, false, false, false, false, false] rfl rfl (by kernel_rfl) (fun _ _ _ h => h) (Or.inl ⟨by rfl, ?_⟩) ?_ ?_
          rotate_left
          · intro w'
            go_simp
            with_reducible rfl
          rotate_left
          · (try simp only [Act.put, List.setIfInBounds_toArray, List.set_cons_zero, List.set_cons_succ]); rfl
          refine pure_ (i := 12) (N := (some 64)) (v := ?_) (a' := ?_) #[true, true, true, true, true, true, true, true, true, true, true, true, true, false, false, false, false, false, false, false, false, false, false, false, false, false, false] rfl rfl (by kernel_rfl) (fun _ _ _ h => h) (Or.inl ⟨by rfl, ?_⟩) ?_ ?_
          rotate_left
          · intro w'
            go_simp
            with_reducible rfl
          rotate_left
          · (try simp only [Act.put, List.setIfInBounds_toArray, List.set_cons_zero, List.set_cons_succ]); rfl
          refine pure_ (i := 13) (N := (some 65)) (v := ?_) (a' := ?_) #[true, true, true, true, true, true, true, true, true, true, true, true, true, true, false, false, false, false, false, false, false, false, false, false, false, false, false] rfl rfl (by kernel_rfl) (fun _ _ _ h => h) (Or.inl ⟨by rfl, ?_⟩) ?_ ?_
          rotate_left
          · intro w'
            go_simp
            with_reducible rfl
          rotate_left
          · (try simp only [Act.put, List.setIfInBounds_toArray, List.set_cons_zero, List.set_cons_succ]); rfl
          refine take_ (i := 14) (N := (some 66)) (v := .agg f.cs.toArray) (a' := ?_) #[true, true, true, true, true, true, true, true, true, true, true, true, true, true, true, false, false, false, false, false, false, false, false, false, false, false, false] rfl rfl (by kernel_rfl) (fun _ _ _ h => h) (yieldsIf_load_mid (by kernel_rfl) 44 (.tmp 65) rfl (ad.add (i * 25)).block ((ad.add (i * 25)).off + 1) rfl f.cs _ (fun w' hS => hS.2.2.1) Try.underlying44 rfl (by kernel_rfl)) SH ?_ ?_
          rotate_left
          · (try simp only [Act.put, List.setIfInBounds_toArray, List.set_cons_zero, List.set_cons_succ]); rfl
          refine one_ (i := 15) (N := some 67) #[true, true, true, true, true, true, true, true, true, true, true, true, true, true, true, true, false, false, false, false, false, false, false, false, false, false, false] rfl rfl (by kernel_rfl) (by decide) (fun K hK => ?_)
          refine goes_ (f := 17) (fn := Try.f17) Try.func17 rfl rfl #[.agg f.cs.toArray, .agg f.cs.toArray] (by kernel_rfl) rfl rfl (by simp only [List.map_toArray, List.map_cons, List.map_nil]; rfl) ?_
          refine (same_fr f l[i].f1 _ KF).mono ?_
          rintro e w5 ⟨rfl, k5⟩
          have SH5 : w5.cell? ⟨g, 0, none⟩ = some (.int .i64 6) ∧ w5.rangeAt g 25 f.cs ∧ w5.rangeAt (ad.add (i * 25)).block ((ad.add (i * 25)).off + 1) f.cs ∧ w5.rangeAt g 1 fr0.cs := ⟨k5.cell SH.1, k5.range SH.2.1, k5.range SH.2.2.1, k5.range SH.2.2.2⟩
          refine ⟨_, rfl, hK.out _ _ SH5 (fun hHeld => ?_)⟩
          clear hHeld hK K
          refine norm_ (a' := ?_) ?_ ?_
          rotate_left
          · (try simp only [Act.put, List.setIfInBounds_toArray, List.set_cons_zero, List.set_cons_succ]); rfl
          refine pure_ (i := 16) (N := (some 68)) (v := ?_) (a' := ?_) #[true, true, true, true, true, true, true, true, true, true, true, true, true, true, true, true, true, false, false, false, false, false, false, false, false, false, false] rfl rfl (by kernel_rfl) (fun _ _ _ h => h) (Or.inl ⟨by rfl, ?_⟩) ?_ ?_
          rotate_left
          · intro w'
            go_simp
            with_reducible rfl
          rotate_left
          · (try simp only [Act.put, List.setIfInBounds_toArray, List.set_cons_zero, List.set_cons_succ]); rfl
          refine pure_ (i := 17) (N := (some 69)) (v := ?_) (a' := ?_) #[true, true, true, true, true, true, true, true, true, true, true, true, true, true, true, true, true, true, false, false, false, false, false, false, false, false, false] rfl rfl (by kernel_rfl) (fun _ _ _ h => h) (Or.inl ⟨by rfl, ?_⟩) ?_ ?_
          rotate_left
          · intro w'
            go_simp
            with_reducible rfl
          rotate_left
          · (try simp only [Act.put, List.setIfInBounds_toArray, List.set_cons_zero, List.set_cons_succ]); rfl
          refine pure_ (i := 18) (N := (some 70)) (v := ?_) (a' := ?_) #[true, true, true, true, true, true, true, true, true, true, true, true, true, true, true, true, true, true, true, false, false, false, false, false, false, false, false] rfl rfl (by kernel_rfl) (fun _ _ _ h => h) (Or.inl ⟨by rfl, ?_⟩) ?_ ?_
          rotate_left
          · intro w'
            go_simp
            with_reducible rfl
          rotate_left
          · (try simp only [Act.put, List.setIfInBounds_toArray, List.set_cons_zero, List.set_cons_succ]); rfl
          refine pure_ (i := 19) (N := (some 71)) (v := ?_) (a' := ?_) #[true, true, true, true, true, true, true, true, true, true, true, true, true, true, true, true, true, true, true, true, false, false, false, false, false, false, false] rfl rfl (by kernel_rfl) (fun _ _ _ h => h) (Or.inl ⟨by rfl, ?_⟩) ?_ ?_
          rotate_left
          · intro w'
            go_simp
            with_reducible rfl
          rotate_left
          · (try simp only [Act.put, List.setIfInBounds_toArray, List.set_cons_zero, List.set_cons_succ]); rfl
          refine pure_ (i := 20) (N := (some 72)) (v := ?_) (a' := ?_) #[true, true, true, true, true, true, true, true, true, true, true, true, true, true, true, true, true, true, true, true, true, false, false, false, false, false, false] rfl rfl (by kernel_rfl) (fun _ _ _ h => h) (Or.inl ⟨by rfl, ?_⟩) ?_ ?_
          rotate_left
          · intro w'
            go_simp
            with_reducible rfl
          rotate_left
          · (try simp only [Act.put, List.setIfInBounds_toArray, List.set_cons_zero, List.set_cons_succ]); rfl
          refine pure_ (i := 21) (N := (some 73)) (v := ?_) (a' := ?_) #[true, true, true, true, true, true, true, true, true, true, true, true, true, true, true, true, true, true, true, true, true, true, false, false, false, false, false] rfl rfl (by kernel_rfl) (fun _ _ _ h => h) (Or.inl ⟨by rfl, ?_⟩) ?_ ?_
          rotate_left
          · intro w'
            go_simp
            with_reducible rfl
          rotate_left
          · (try simp only [Act.put, List.setIfInBounds_toArray, List.set_cons_zero, List.set_cons_succ]); rfl
          refine take_ (i := 22) (N := (some 74)) (v := .agg fr0.cs.toArray) (a' := ?_) #[true, true, true, true, true, true, true, true, true, true, true, true, true, true, true, true, true, true, true, true, true, true, true, false, false, false, false] rfl rfl (by kernel_rfl) (fun _ _ _ h => h) (yieldsIf_load_mid (by kernel_rfl) 44 (.tmp 73) rfl g 1 rfl fr0.cs _ (fun w' hS => hS.2.2.2) Try.underlying44 rfl (by kernel_rfl)) SH5 ?_ ?_
          rotate_left
          · (try simp only [Act.put, List.setIfInBounds_toArray, List.set_cons_zero, List.set_cons_succ]); rfl
          refine pure_ (i := 23) (N := some 75) (v := .agg fr0.cs.toArray) (a' := ?_) #[true, true, true, true, true, true, true, true, true, true, true, true, true, true, true, true, true, true, true, true, true, true, true, true, false, false, false] rfl rfl (by kernel_rfl) (fun _ _ _ h => h) (yields_build (by kernel_rfl) 44 _ rfl [] (by simp only [List.map_toArray, List.map_cons, List.map_nil]) _ fr0_built) ?_ ?_
          rotate_left
          · (try simp only [Act.put, List.setIfInBounds_toArray, List.set_cons_zero, List.set_cons_succ]); rfl
          refine one_ (i := 24) (N := some 76) #[true, true, true, true, true, true, true, true, true, true, true, true, true, true, true, true, true, true, true, true, true, true, true, true, true, false, false] rfl rfl (by kernel_rfl) (by decide) (fun K hK => ?_)
          refine goes_ (f := 17) (fn := Try.f17) Try.func17 rfl rfl #[.agg fr0.cs.toArray, .agg fr0.cs.toArray] (by kernel_rfl) rfl rfl (by simp only [List.map_toArray, List.map_cons, List.map_nil]; rfl) ?_
          refine (same_fr fr0 z44 _ (fr0_K _)).mono ?_
          rintro e w6 ⟨rfl, k6⟩
          have SH6 : w6.cell? ⟨g, 0, none⟩ = some (.int .i64 6) ∧ w6.rangeAt g 25 f.cs ∧ w6.rangeAt (ad.add (i * 25)).block ((ad.add (i * 25)).off + 1) f.cs ∧ w6.rangeAt g 1 fr0.cs := ⟨k6.cell SH5.1, k6.range SH5.2.1, k6.range SH5.2.2.1, k6.range SH5.2.2.2⟩
          refine ⟨_, rfl, hK.out _ _ SH6 (fun hHeld => ?_)⟩
          clear hHeld hK K
          refine norm_ (a' := ?_) ?_ ?_
          rotate_left
          · (try simp only [Act.put, List.setIfInBounds_toArray, List.set_cons_zero, List.set_cons_succ]); rfl
          refine pure_ (i := 25) (N := (some 77)) (v := ?_) (a' := ?_) #[true, true, true, true, true, true, true, true, true, true, true, true, true, true, true, true, true, true, true, true, true, true, true, true, true, true, false] rfl rfl (by kernel_rfl) (fun _ _ _ h => h) (Or.inl ⟨by rfl, ?_⟩) ?_ ?_
          rotate_left
          · intro w'
            go_simp
            with_reducible rfl
          rotate_left
          · (try simp only [Act.put, List.setIfInBounds_toArray, List.set_cons_zero, List.set_cons_succ]); rfl
          refine pure_ (i := 26) (N := (some 78)) (v := ?_) (a' := ?_) #[true, true, true, true, true, true, true, true, true, true, true, true, true, true, true, true, true, true, true, true, true, true, true, true, true, true, true] rfl rfl (by kernel_rfl) (fun _ _ _ h => h) (Or.inl ⟨by rfl, ?_⟩) ?_ ?_
          rotate_left
          · intro w'
            go_simp
            with_reducible rfl
          rotate_left
          · (try simp only [Act.put, List.setIfInBounds_toArray, List.set_cons_zero, List.set_cons_succ]); rfl
          refine done_ (by kernel_rfl) ?_
          have ST6 : Aside0 (StAt w w6 pb net) := ⟨(ST4.out.keep k5).keep k6⟩
          clear KF SH SH5 SH6 k5 k6 ST4
          have T2 := ST6.out.none_ dir f hd0 hd1
          have hr6 := ST6.out.kept.range HR.out
          go_wp2_with (first
            | (refine gate_guard (by rfl) ?_; dsimp only; refine wpList_load_mid rfl 44 (.tmp 91) rfl _ _ rfl f.cs _ hr6 Try.underlying44 rfl szl44 ?_)
            | (go_at_call 12; with_reducible refine T2.mono ?_; rintro e w7 ⟨na, ncap, rfl, hS7⟩; have ST7 : Aside0 _ := ⟨hS7⟩; clear T2 hr6 hS7))
          go_roundg (l.length - (i + 1))
          case measure => omega
          case rel => exact ⟨i + 1, by go_num, by omega, Nat.le_refl _, ST7⟩
    · have hge : ¬ ((i : Int) < (l.length : Int)) := by omega
      have hop := ST.out.open_
      have ST2 := ST
      clear ST h60
      go_wp2_with (go_at_call 16; with_reducible refine hop.mono ?_; rintro e w7 ⟨oa, ocap, rfl, k7⟩)
      go_ret
      exact ⟨rfl, ST2.out.kept.trans k7 (fun _ _ h => h) (fun _ _ h => h)⟩

end Go.Proofs.Ytmbjlondehcheaa
