/- PairTells: the document's Take, second part: a request ahead is dropped; an answer. -/
import Derived.Test.YtmbjlondehcheaaProg
import Derived.Below
import Derived.OneCell
import Derived.WalkKit
import Derived.KernelRfl
import Derived.RowKit3
import Derived.Deep.LoopGhost
import Derived.Deep.QuietTactic
import Derived.BigQuiet
import Derived.Deep.DeepCutAuto
import Derived.Deep.CutBlock
import Derived.Deep.RegionWith
import Derived.OwnWalk
import Derived.Laws.Tables
import Derived.Laws.AppendOwn
import Derived.Shelf.SlSortCmp.KitK
import Derived.Shelf.RegionOpenPlain
import Derived.Sort.WalkB2
import Derived.Deep.MidRow
import Derived.Great.Walk
import Derived.Test.YtmbjlondehcheaaWWords
import Derived.Test.YtmbjlondehcheaaWLast
import Derived.Laws.StructEq
import Derived.Maps.Own
import Derived.Maps.RangeRun
import Derived.Test.YtmbjlondehcheaaHPairRTake
set_option linter.unusedSimpArgs false
set_option linter.unusedVariables false
namespace Go.Proofs.Ytmbjlondehcheaa
open Go.Shelf Go.RowKit Go.Lib Go.Sort Go.Proofs.YtmbjlondehcheaaW.PrintWords Go.Proofs.YtmbjlondehcheaaW.PrintLast Go.Proofs.Ytmbjlondehcheaa.PFW

theorem drop_end {w W : World} {rb : Nat} {v : Value} {x : Ent} {f : Fr} (k : Kept w W (fun _ => False)) (R : RefV W rb false [x] v) (F : W.heap[w.heap.size]? = some (.cells f.cs.toArray 44 (0, 0))) (hfb : ¬ w.heap.size = rb) (n : Nt) (ty : TypeId) :
    ∃ v7 W3, (Builtin.append_ #[47, 47] ty #[.slice none 0 0, .slice (some ⟨W.heap.size, 0, none⟩) 1 1]).run Try.prog (W.alloc (.cells n.cs.toArray 70)) = .ok v7 W3 ∧ W3.cell? ⟨rb, 1, none⟩ = some v ∧ RefV (W3.setCell ⟨rb, 1, none⟩ (.slice none 0 0)) rb false [] (.slice none 0 0) ∧
      (W3.setCell ⟨rb, 1, none⟩ (.slice none 0 0)).heap[w.heap.size]? = some (.cells f.cs.toArray 44 (0, 0)) ∧ Kept w (W3.setCell ⟨rb, 1, none⟩ (.slice none 0 0)) (fun b => b = rb) ∧ (W3.setCell ⟨rb, 1, none⟩ (.slice none 0 0)).ownsRow 0 70 49 v7 [n].length (nts [n]) ∧ (∀ b, some b = v7.ownBlock → w.heap.size ≤ b) ∧ W3.frozen? ⟨rb, 1, none⟩ = false := by
  have q := Kept.alloc W (.cells n.cs.toArray 70) (fun _ => False)
  obtain ⟨v7, W3, a1, a2, a3, a4⟩ := app_rt (W.alloc (.cells n.cs.toArray 70)) ty (.slice none 0 0) 0 [] n (World.ownsRow_nil _ _ _ _) W.heap.size (heap_alloc_new _ _) (by omega)
  have kg := Kept.grown a3 (F := fun _ => False) (fun b h => by simp [Value.ownBlock] at h)
  have k3 := q.trans kg (fun _ _ h => h) (fun _ _ h => h)
  have R3 := R.keep k3
  obtain ⟨p1, p2⟩ := R3.set (M := []) (World.ownsRow_nil _ _ _ _)
  refine ⟨v7, W3, a1, R3.c1, p1, p2.heap (k3.heap F (fun h => h)) hfb, (k.trans k3 (fun _ _ h => h) (fun _ _ h => h)).trans p2 (fun _ _ h => h.elim) (fun _ _ h => h), ?_, fun b hb => ?_, by simp [World.frozen?, R3.cell]⟩
  · have := p2.owns a2 (fun g hg e => row_ne a2 R3.cell (by decide) hg e)
    simpa [nts] using this
  · rcases a4 with h | h
    · rw [h] at hb; simp [Value.ownBlock] at hb
    · rw [h] at hb
      injection hb with hb
      have := k.size
      simp at hb
      omega

set_option maxHeartbeats 2000000 in
set_option maxRecDepth 1000000 in
theorem rtake_next (w : World) (rb : Nat) (x : Ent) (v : Value) (f : Fr) (all : Nat) (R : RefV w rb false [x] v) (hu : ¬ f.u = 0) :
    Calls Try.prog 13 #[.pointer (some ⟨rb, 0, none⟩), .int .i64 0, .agg f.cs.toArray] w fun r w' => ∃ v', r = .returned v' ∧ RRes w w' rb false v' ([⟨2, x.f, fr0⟩] ++ [⟨0, f, fr0⟩]) ([] ++ [⟨all, f⟩]) := by
  have k1 : Kept w (w.alloc (.cells f.cs.toArray 44)) (fun _ => False) := Kept.alloc w _ _
  have F1 : (w.alloc (.cells f.cs.toArray 44)).heap[w.heap.size]? = some (.cells f.cs.toArray 44 (0, 0)) := heap_alloc_new _ _
  obtain ⟨g, cap, rfl, hr0⟩ := fr_at R.row (i := 0) (by simp)
  have hfb : ¬ w.heap.size = rb := fun e => by have := heap_lt R.cell; omega
  have R1 := R.keep k1
  have c0 := R1.c0
  have c1 : (w.alloc (.cells f.cs.toArray 44)).cell? ⟨rb, 1, none⟩ = some (.slice (some ⟨g, 0, none⟩) 1 cap) := R1.c1
  have hr : (w.alloc (.cells f.cs.toArray 44)).rangeAt g 0 x.f.cs := k1.range (by simpa using hr0)
  have hM : ([] : List Ent).length ≤ 100 := by decide
  have SZ44 := size44 f.cs.toArray rfl
  have szl44 : (Try.prog.info? 44).map (·.size) = some x.f.cs.length := by rw [Fr.len]; kernel_rfl
  have cf : (w.alloc (.cells f.cs.toArray 44)).cell? ⟨w.heap.size, 0, none⟩ = some (.int .u8 f.u) := by rw [cell_of_row _ w.heap.size 0 _ 44 (0, 0) F1]; rfl
  have hub : (f.u == 0) = false := by simpa using hu
  have DR := drop_end k1 R1 F1 hfb ⟨2, x.f, fr0⟩ 47
  clear R R1 k1 F1 hr0
  go_enter Try.func13, Try.ntmps13
  go_upto_region 3 with fail
  generalize (w.alloc (.cells f.cs.toArray 44)) = w1 at *
  go_upto_region 8 with fail
  clear c0 cf
  go_upto_region 9 with (first
    | (refine wpList_load_mid rfl 44 (.tmp 63) rfl g 0 rfl x.f.cs _ hr Try.underlying44 rfl szl44 ?_; clear hr)
    | (refine wpList_buildTo rfl 70 _ rfl (some 65) rfl (Nt.mk 2 x.f fr0).cs.toArray ?_ ?_; (simp only [List.map_toArray, List.map_cons, List.map_nil]; exact rt_ask 2 x.f))
    | (refine wpList_lit1 rfl 47 (.tmp 65) rfl (some 66) rfl (.agg (Nt.mk 2 x.f fr0).cs.toArray) rfl _ _ (lit_rt _ _) ?_)
    | (obtain ⟨v7, W3, ha, c3, RW, VW, kW, oW, nW, z3⟩ := DR; refine wpList_app rfl (.tmp 58) (.tmp 66) 47 47 rfl (some 67) rfl (.slice none 0 0) (.slice (some ⟨w1.heap.size, 0, none⟩) 1 1) rfl rfl v7 W3 ?_ ?_; exact ha; clear ha c1))
  go_upto_region 10 with fail
  clear c3 z3
  generalize (W3.setCell ⟨rb, 1, none⟩ (.slice none 0 0)) = W at *
  have VR : W.rangeAt w.heap.size 0 f.cs := fun j u hu => by rw [cell_of_row _ w.heap.size (0 + j) _ 44 (0, 0) VW]; simpa using hu
  refine start_ (n := 13) (S := fun w' => Kept W w' (fun _ => False)) (ds := [12]) #[false, false, false, false, false, false, false, false, false, false, false, false, false] (by kernel_rfl) rfl rfl (Kept.drew W _) (fun hHeld => ?_)
  skip
  refine pure_ (i := 0) (N := (some 71)) (v := ?_) (a' := ?_) #[true, false, false, false, false, false, false, false, false, false, false, false, false] rfl rfl (by kernel_rfl) (fun _ _ _ h => h) (Or.inl ⟨by rfl, ?_⟩) ?_ ?_
  rotate_left
  · intro w'
    go_simp
    with_reducible rfl
  rotate_left
  · (try simp only [Act.put, List.setIfInBounds_toArray, List.set_cons_zero, List.set_cons_succ]); rfl
  refine pure_ (i := 2) (N := (some 73)) (v := ?_) (a' := ?_) #[true, false, true, false, false, false, false, false, false, false, false, false, false] rfl rfl (by kernel_rfl) (fun _ _ _ h => h) (Or.inl ⟨by rfl, ?_⟩) ?_ ?_
  rotate_left
  · intro w'
    go_simp
    with_reducible rfl
  rotate_left
  · (try simp only [Act.put, List.setIfInBounds_toArray, List.set_cons_zero, List.set_cons_succ]); rfl
  refine pure_ (i := 3) (N := (some 74)) (v := ?_) (a' := ?_) #[true, false, true, true, false, false, false, false, false, false, false, false, false] rfl rfl (by kernel_rfl) (fun _ _ _ h => h) (Or.inl ⟨by rfl, ?_⟩) ?_ ?_
  rotate_left
  · intro w'
    go_simp
    with_reducible rfl
  rotate_left
  · (try simp only [Act.put, List.setIfInBounds_toArray, List.set_cons_zero, List.set_cons_succ]); rfl
  refine pure_ (i := 4) (N := (some 75)) (v := ?_) (a' := ?_) #[true, false, true, true, true, false, false, false, false, false, false, false, false] rfl rfl (by kernel_rfl) (fun _ _ _ h => h) (Or.inl ⟨by rfl, ?_⟩) ?_ ?_
  rotate_left
  · intro w'
    go_simp
    with_reducible rfl
  rotate_left
  · (try simp only [Act.put, List.setIfInBounds_toArray, List.set_cons_zero, List.set_cons_succ]); rfl
  refine take_ (i := 5) (N := (some 76)) (v := ?_) (a' := ?_) #[true, false, true, true, true, true, false, false, false, false, false, false, false] rfl rfl (by kernel_rfl) (fun _ _ _ h => h) (Or.inl ⟨by rfl, ?_⟩) hHeld ?_ ?_
  rotate_left
  · intro w' hS
    have q5 := (RW.keep hS).c1
    go_simp
    with_reducible rfl
  rotate_left
  · (try simp only [Act.put, List.setIfInBounds_toArray, List.set_cons_zero, List.set_cons_succ]); rfl
  refine take_ (i := 7) (N := (some 78)) (v := .agg f.cs.toArray) (a' := ?_) #[true, false, true, true, true, true, false, true, false, false, false, false, false] rfl rfl (by kernel_rfl) (fun _ _ _ h => h) (yieldsIf_load_mid (by kernel_rfl) 44 (.tmp 5) rfl w.heap.size 0 rfl f.cs _ (fun w' hS => hS.range VR) Try.underlying44 rfl (by kernel_rfl)) hHeld ?_ ?_
  rotate_left
  · (try simp only [Act.put, List.setIfInBounds_toArray, List.set_cons_zero, List.set_cons_succ]); rfl
  clear hHeld
  refine join_ (σ := Value × Value × Nat) 4 #[true, true, true, true, true, true, true, true, true, false, false, false, false] (fun s => [(72, s.1), (77, s.2.1), (79, .slice (some ⟨s.2.2, 0, none⟩) 1 1)]) (fun s w' => Cp W w' [] f s.2.1 s.2.2) ?_ ?_
  rotate_left
  · intro hCont
    refine two_ (i := 1) (j := 8) (Ni := some 72) (Nj := some 79) #[true, true, true, true, true, true, false, true, false, false, false, false, false] #[true, false, true, true, true, true, false, true, true, false, false, false, false] rfl rfl rfl rfl (by kernel_rfl) (by decide) (by decide) (fun K hK => ?_) (fun K hK => ?_)
    · rw [if_pos (by kernel_rfl)]
      refine wp_lit0 28 rfl _ _ (lit0_28 _) ?_
      obtain ⟨kA, oA⟩ := cp_a (Kept.drew W _)
      refine hK.out _ _ kA (fun hHeld => ?_)
      clear hK K hHeld
      refine norm_ (a' := ?_) ?_ ?_
      rotate_left
      · show Act.put _ (some 72) _ = _
        (try simp only [Act.put, List.setIfInBounds_toArray, List.set_cons_zero, List.set_cons_succ])
        rfl
      refine two_ (i := 6) (j := 8) (Ni := some 77) (Nj := some 79) #[true, true, true, true, true, true, true, true, false, false, false, false, false] #[true, true, true, true, true, true, false, true, true, false, false, false, false] rfl rfl rfl rfl (by kernel_rfl) (by decide) (by decide) (fun K hK => ?_) (fun K hK => ?_)
      · rw [if_pos (by kernel_rfl)]
        obtain ⟨vB, wB, hB, kB, oB, nB, gB⟩ := cp_b kA RW hM (Nat.le_refl _) oA 28
        refine wp_append (.tmp 72) (.tmp 76) 28 28 rfl _ _ rfl rfl vB wB hB ?_
        refine hK.out _ _ kB (fun hHeld => ?_)
        clear hK K hHeld
        refine norm_ (a' := ?_) ?_ ?_
        rotate_left
        · show Act.put _ (some 77) _ = _
          (try simp only [Act.put, List.setIfInBounds_toArray, List.set_cons_zero, List.set_cons_succ])
          rfl
        refine one_ (i := 8) (N := some 79) #[true, true, true, true, true, true, true, true, true, false, false, false, false] rfl rfl (by kernel_rfl) (by decide) (fun K hK => ?_)
        rw [if_pos (by kernel_rfl)]
        refine wp_lit1 28 (.tmp 78) rfl (.agg f.cs.toArray) rfl _ _ (lit_fr _ f) ?_
        obtain ⟨kC, fC, zC⟩ := cp_c kB f
        refine hK.out _ _ kC (fun hHeld => ?_)
        clear hK K hHeld
        refine norm_ (a' := ?_) ?_ ?_
        rotate_left
        · show Act.put _ (some 79) _ = _
          (try simp only [Act.put, List.setIfInBounds_toArray, List.set_cons_zero, List.set_cons_succ])
          rfl
        exact norm_ (by first | (simp only [putAll, Act.put, List.setIfInBounds_toArray, List.set_cons_zero, List.set_cons_succ]; done) | (simp only [putAll, Act.put, List.setIfInBounds_toArray, List.set_cons_zero, List.set_cons_succ]; rfl)) (hCont (_, vB, _) _ ⟨kC, (Kept.alloc wB _ (fun _ => False)).owns oB (fun _ _ h => h), nB, fC⟩)
      · rw [if_pos (by kernel_rfl)]
        refine wp_lit1 28 (.tmp 78) rfl (.agg f.cs.toArray) rfl _ _ (lit_fr _ f) ?_
        obtain ⟨kC, fC, zC⟩ := cp_c kA f
        refine hK.out _ _ kC (fun hHeld => ?_)
        clear hK K hHeld
        refine norm_ (a' := ?_) ?_ ?_
        rotate_left
        · show Act.put _ (some 79) _ = _
          (try simp only [Act.put, List.setIfInBounds_toArray, List.set_cons_zero, List.set_cons_succ])
          rfl
        refine one_ (i := 6) (N := some 77) #[true, true, true, true, true, true, true, true, true, false, false, false, false] rfl rfl (by kernel_rfl) (by decide) (fun K hK => ?_)
        rw [if_pos (by kernel_rfl)]
        obtain ⟨vB, wB, hB, kB, oB, nB, gB⟩ := cp_b kC RW hM (Nat.le_refl _) ((Kept.alloc _ _ (fun _ => False)).owns oA (fun _ _ h => h)) 28
        refine wp_append (.tmp 72) (.tmp 76) 28 28 rfl _ _ rfl rfl vB wB hB ?_
        refine hK.out _ _ kB (fun hHeld => ?_)
        clear hK K hHeld
        refine norm_ (a' := ?_) ?_ ?_
        rotate_left
        · show Act.put _ (some 77) _ = _
          (try simp only [Act.put, List.setIfInBounds_toArray, List.set_cons_zero, List.set_cons_succ])
          rfl
        exact norm_ (by first | (simp only [putAll, Act.put, List.setIfInBounds_toArray, List.set_cons_zero, List.set_cons_succ]; done) | (simp only [putAll, Act.put, List.setIfInBounds_toArray, List.set_cons_zero, List.set_cons_succ]; rfl)) (hCont (_, vB, _) _ ⟨kB, oB, nB, gB.heap fC (by simp)⟩)
    · rw [if_pos (by kernel_rfl)]
      refine wp_lit1 28 (.tmp 78) rfl (.agg f.cs.toArray) rfl _ _ (lit_fr _ f) ?_
      obtain ⟨kC, fC, zC⟩ := cp_c (Kept.drew W _) f
      refine hK.out _ _ kC (fun hHeld => ?_)
      clear hK K hHeld
      refine norm_ (a' := ?_) ?_ ?_
      rotate_left
      · show Act.put _ (some 79) _ = _
        (try simp only [Act.put, List.setIfInBounds_toArray, List.set_cons_zero, List.set_cons_succ])
        rfl
      refine one_ (i := 1) (N := some 72) #[true, true, true, true, true, true, false, true, true, false, false, false, false] rfl rfl (by kernel_rfl) (by decide) (fun K hK => ?_)
      rw [if_pos (by kernel_rfl)]
      refine wp_lit0 28 rfl _ _ (lit0_28 _) ?_
      obtain ⟨kA, oA⟩ := cp_a kC
      refine hK.out _ _ kA (fun hHeld => ?_)
      clear hK K hHeld
      refine norm_ (a' := ?_) ?_ ?_
      rotate_left
      · show Act.put _ (some 72) _ = _
        (try simp only [Act.put, List.setIfInBounds_toArray, List.set_cons_zero, List.set_cons_succ])
        rfl
      refine one_ (i := 6) (N := some 77) #[true, true, true, true, true, true, true, true, true, false, false, false, false] rfl rfl (by kernel_rfl) (by decide) (fun K hK => ?_)
      rw [if_pos (by kernel_rfl)]
      obtain ⟨vB, wB, hB, kB, oB, nB, gB⟩ := cp_b kA RW hM (by simp) oA 28
      refine wp_append (.tmp 72) (.tmp 76) 28 28 rfl _ _ rfl rfl vB wB hB ?_
      refine hK.out _ _ kB (fun hHeld => ?_)
      clear hK K hHeld
      refine norm_ (a' := ?_) ?_ ?_
      rotate_left
      · show Act.put _ (some 77) _ = _
        (try simp only [Act.put, List.setIfInBounds_toArray, List.set_cons_zero, List.set_cons_succ])
        rfl
      exact norm_ (by first | (simp only [putAll, Act.put, List.setIfInBounds_toArray, List.set_cons_zero, List.set_cons_succ]; done) | (simp only [putAll, Act.put, List.setIfInBounds_toArray, List.set_cons_zero, List.set_cons_succ]; rfl)) (hCont (_, vB, _) _ ⟨kB, oB, nB, gB.heap ((Kept.alloc _ _ (fun _ => False)).heap fC (fun h => h)) (by simp)⟩)
  rintro ⟨vA, vB, gC⟩ wC hC
  dsimp only at hC
  refine norm_ (a' := ?_) ?_ ?_
  rotate_left
  · simp only [putAll, Act.put, List.setIfInBounds_toArray, List.set_cons_zero, List.set_cons_succ]
    rfl
  obtain ⟨vD, wD, hD, kD, onD, cD, RD, KD⟩ := hC.put RW hM all 28
  refine one_ (i := 9) (N := some 80) #[true, true, true, true, true, true, true, true, true, true, false, false, false] rfl rfl (by kernel_rfl) (by decide) (fun K hK => ?_)
  rw [if_pos (by kernel_rfl)]
  refine wp_append (.tmp 77) (.tmp 79) 28 28 rfl _ _ rfl rfl vD wD hD ?_
  refine hK.out _ _ kD (fun hHeld => ?_)
  clear hK K hHeld
  refine norm_ (a' := ?_) ?_ ?_
  rotate_left
  · show Act.put _ (some 80) _ = _
    (try simp only [Act.put, List.setIfInBounds_toArray, List.set_cons_zero, List.set_cons_succ])
    rfl
  refine pure_ (i := 10) (N := (some 81)) (v := ?_) (a' := ?_) #[true, true, true, true, true, true, true, true, true, true, true, false, false] rfl rfl (by kernel_rfl) (fun _ _ _ h => h) (Or.inl ⟨by rfl, ?_⟩) ?_ ?_
  rotate_left
  · intro w'
    go_simp
    with_reducible rfl
  rotate_left
  · (try simp only [Act.put, List.setIfInBounds_toArray, List.set_cons_zero, List.set_cons_succ]); rfl
  refine pure_ (i := 11) (N := (some 82)) (v := ?_) (a' := ?_) #[true, true, true, true, true, true, true, true, true, true, true, true, false] rfl rfl (by kernel_rfl) (fun _ _ _ h => h) (Or.inl ⟨by rfl, ?_⟩) ?_ ?_
  rotate_left
  · intro w'
    go_simp
    with_reducible rfl
  rotate_left
  · (try simp only [Act.put, List.setIfInBounds_toArray, List.set_cons_zero, List.set_cons_succ]); rfl
  refine last_ (i := 12) (N := none) #[true, true, true, true, true, true, true, true, true, true, true, true, true] rfl rfl (by kernel_rfl) (by decide) (fun K hK => ?_)
  rw [if_pos (by kernel_rfl)]
  refine wp_store_cell 28 (.tmp 82) (.tmp 80) rfl rb 1 vD rfl rfl onD 30 _ cD (by simp) (by kernel_rfl) ?_
  refine hK.out _ _ ?_
  clear hK K
  refine norm_ (a' := ?_) ?_ ?_
  rotate_left
  · show Act.put _ none _ = _; (try simp only [Act.put, List.setIfInBounds_toArray, List.set_cons_zero, List.set_cons_succ]); rfl
  refine done_ (by kernel_rfl) ?_
  have FIN := rt_end kW oW (by simp) nW RD KD RW.cell ⟨0, f, fr0⟩ 47
  have F5 := KD.heap VW (fun e => hfb e)
  clear hC hD kD cD KD RD RW VW VR
  generalize wD.setCell ⟨rb, 1, none⟩ vD = W2 at *
  obtain ⟨v8, w4, ha, hR⟩ := FIN
  have HR : Aside0 _ := ⟨hR⟩
  clear hR
  go_wp2_with (first
    | (refine wpList_load_row rfl 44 (.tmp 5) rfl w.heap.size rfl 44 f.cs.toArray (0, 0) _ F5 Try.underlying44 rfl SZ44 ?_)
    | (refine wpList_buildTo rfl 70 _ rfl (some 85) rfl (Nt.mk 0 f fr0).cs.toArray ?_ ?_; (simp only [List.map_toArray, List.map_cons, List.map_nil]; exact rt_ask 0 f))
    | (refine wpList_lit1 rfl 47 (.tmp 85) rfl (some 86) rfl (.agg (Nt.mk 0 f fr0).cs.toArray) rfl _ _ (lit_rt W2 _) ?_)
    | (refine wpList_app rfl (.tmp 83) (.tmp 86) 47 47 rfl (some 87) rfl _ (.slice (some ⟨W2.heap.size, 0, none⟩) 1 1) rfl rfl v8 w4 ha ?_; clear ha))
  go_ret
  exact ⟨_, rfl, HR.out⟩

/-- What stands between two rounds of the search. -/
structure Srch (w wr : World) (net : Bool) (L : List Ent) (f : Fr) (i : Nat) : Prop where
  kept : Kept w wr (fun _ => False)
  no : ∀ (j : Nat) (hj : j < L.length), j < i → ¬ may net f L[j]
theorem Srch.next {w wr w2 : World} {net : Bool} {L : List Ent} {f : Fr} {i : Nat} (h : Srch w wr net L f i) (k : Kept wr w2 (fun _ => False)) (hi : i < L.length) (hn : ¬ may net f L[i]!) : Srch w w2 net L f (i + 1) :=
  ⟨h.kept.trans k (fun _ _ h => h) (fun _ _ h => h), fun j hj hji => by
    rcases Nat.lt_or_ge j i with h' | h'
    · exact h.no j hj h'
    · obtain rfl : j = i := by omega
      rwa [getElem!_pos L j hj] at hn⟩

set_option maxHeartbeats 16000000 in
set_option maxRecDepth 1000000 in
theorem rtake_ans (w : World) (rb : Nat) (net : Bool) (L : List Ent) (v : Value) (f : Fr) (all : Nat) (R : RefV w rb net L v) (h1 : net = false → L.length ≤ 1) (hL : L.length ≤ 16) :
    Calls Try.prog 13 #[.pointer (some ⟨rb, 0, none⟩), .int .i64 1, .agg f.cs.toArray] w fun r w' => ∃ v', r = .returned v' ∧ RRes w w' rb net v' (ans net L all f).1 (ans net L all f).2.1 := by
  have k1 : Kept w (w.alloc (.cells f.cs.toArray 44)) (fun _ => False) := Kept.alloc w _ _
  have F1 : (w.alloc (.cells f.cs.toArray 44)).heap[w.heap.size]? = some (.cells f.cs.toArray 44 (0, 0)) := heap_alloc_new _ _
  obtain ⟨a, cap, rfl⟩ := owns_len R.row
  have hfb : ¬ w.heap.size = rb := fun e => by have := heap_lt R.cell; omega
  have R1 := R.keep k1
  have SZ44 := size44 f.cs.toArray rfl
  have hz := fr0_zero
  obtain ⟨fb, hfbe⟩ : ∃ fb, w.heap.size = fb := ⟨_, rfl⟩
  obtain ⟨r3, hr3⟩ : ∃ r3, ans net L all f = r3 := ⟨_, rfl⟩
  rw [hr3]
  have H3 : Aside0 _ := ⟨hr3⟩
  clear hr3
  rw [hfbe] at F1 hfb
  have HK1 : Aside0 _ := ⟨k1⟩
  have HE : Aside0 _ := ⟨hfbe⟩
  have HN : Aside0 _ := ⟨h1⟩
  clear R k1 h1
  go_enter Try.func13, Try.ntmps13
  go_wp2
  rw [hfbe] at *
  clear hfbe
  generalize (w.alloc (.cells f.cs.toArray 44)) = w1 at *
  have RR : Aside0 _ := ⟨R1⟩
  have FF : Aside0 _ := ⟨F1⟩
  clear R1 F1
  go_loopg [8] L.length (fun kx s8 wr => ∃ i : Nat, s8 = .int .i64 i ∧ i ≤ L.length ∧ L.length - i ≤ kx ∧ Aside0 (Srch w1 wr net L f i))
  case atStart => exact ⟨0, rfl, Nat.zero_le _, Nat.le_refl _, ⟨Kept.refl _ _, fun j hj h => by omega⟩⟩
  case round =>
    obtain ⟨i, rfl, hi, hkx, D⟩ := hrel
    have hR := RR.out.keep D.out.kept
    have c1 := hR.c1
    have F5 := D.out.kept.heap FF.out (fun h => h)
    by_cases hlt : i < L.length
    · obtain ⟨g, cap', hv, hr⟩ := fr_at hR.row hlt
      injection hv with ha hb hc
      subst ha hc
      obtain ⟨e, he⟩ : ∃ e, e = L[i]! := ⟨_, rfl⟩
      rw [← he] at hr
      have hLi : L[i] = e := by rw [he, getElem!_pos L i hlt]
      have hiz : (i : Int) < (L.length : Int) := by omega
      have hLz : (L.length : Int) ≤ 16 := by omega
      have sz44 := size44 e.f.cs.toArray rfl
      have szl44 : (Try.prog.info? 44).map (·.size) = some e.f.cs.length := by rw [Fr.len]; kernel_rfl
      have hone := all_oneCell_toArray e.f.one
      have hZc : fr0.cs.toArray.size = e.f.cs.toArray.size := rfl
      have q : Kept wr ((wr.alloc (.cells fr0.cs.toArray 44)).setRow wr.heap.size e.f.cs.toArray) (fun _ => False) := (Kept.alloc wr _ (fun _ => False)).trans (Kept.setRow _ wr.heap.size _ (F := fun b => b = wr.heap.size) rfl) (fun _ _ h => h) (fun k hk h => by omega)
      have f6 := setRow_heap (wr.alloc (.cells fr0.cs.toArray 44)) wr.heap.size fr0.cs.toArray e.f.cs.toArray 44 _ (heap_alloc_new _ _)
      obtain ⟨W2, hW2⟩ : ∃ W2, W2 = (wr.alloc (.cells fr0.cs.toArray 44)).setRow wr.heap.size e.f.cs.toArray := ⟨_, rfl⟩
      rw [← hW2] at q f6
      have W2e : Aside0 (W2 = (wr.alloc (.cells fr0.cs.toArray 44)).setRow wr.heap.size e.f.cs.toArray) := ⟨hW2⟩
      have R2 := hR.keep q
      have F2 := q.heap F5 (fun h => h)
      have hxb : ¬ wr.heap.size = rb := fun e => by have := heap_lt hR.cell; omega
      have d0 := R2.c0
      have cx0 : W2.cell? ⟨wr.heap.size, 0, none⟩ = some (.int .u8 e.f.u) := by rw [cell_of_row W2 wr.heap.size 0 _ 44 (0, 0) f6]; rfl
      have cx1 : W2.cell? ⟨wr.heap.size, 1, none⟩ = some (.int .u16 e.f.t) := by rw [cell_of_row W2 wr.heap.size 1 _ 44 (0, 0) f6]; rfl
      have cf0 : W2.cell? ⟨fb, 0, none⟩ = some (.int .u8 f.u) := by rw [cell_of_row W2 fb 0 _ 44 (0, 0) F2]; rfl
      have cf1 : W2.cell? ⟨fb, 1, none⟩ = some (.int .u16 f.t) := by rw [cell_of_row W2 fb 1 _ 44 (0, 0) F2]; rfl
      have NX : Aside0 (¬ may net f e → Srch w1 W2 net L f (i + 1)) := ⟨fun hn => D.out.next q hlt (by rw [← he]; exact hn)⟩
      have HIT : Aside0 (may net f e → ans net L all f = ([⟨if e.f.c = f.c then 4 else 5, e.f, f⟩], L.eraseIdx i, all)) := ⟨fun hm => by
        have := ans_some (all := all) hlt D.out.no (by rw [hLi]; exact hm) HN.out
        rwa [hLi] at this⟩
      have KD : Aside0 (Kept w1 W2 (fun _ => False)) := ⟨D.out.kept.trans q (fun _ _ h => h) (fun _ _ h => h)⟩
      clear hW2 q hLi he hR D F5
      have MISS : ∀ {P : Prop}, (¬ may net f e) → True := fun _ => trivial
      clear MISS
      by_cases hu : e.f.u = f.u
      · by_cases hm : may net f e
        · have hans := HIT.out hm
          rw [H3.out] at hans
          have R3E : Aside0 _ := ⟨hans⟩
          have hw := without_calls W2 rb net L _ i R2 hlt hL
          have hcase : net = false ∨ (net = true ∧ e.f.t = f.t) := by
            cases net with
            | false => exact .inl rfl
            | true => exact .inr ⟨rfl, hm.2 rfl⟩
          rw [hu] at cx0
          clear HIT NX hans hm hu R2
          have ENDH : ∀ (w3 : World) (hA : RefAt w3 rb net (L.eraseIdx i)) (k3 : Kept W2 w3 (fun b => b = rb)) (n : Nt), RRes w (w3.alloc (.cells n.cs.toArray 70)) rb net (.slice (some ⟨w3.heap.size, 0, none⟩) 1 1) [n] (L.eraseIdx i) := fun w3 hA k3 n => by
            obtain ⟨v3, R3⟩ := hA
            exact ⟨(rr_one R3 n).row, (rr_one R3 n).ref, ((HK1.out.trans KD.out (fun _ _ h => h) (fun _ _ h => h)).trans k3 (fun _ _ h => h.elim) (fun _ _ h => h)).trans (rr_one R3 n).kept (fun _ _ h => h) (fun _ _ h => h)⟩
          have EH : Aside0 _ := ⟨ENDH⟩
          clear ENDH
          rcases hcase with rfl | ⟨rfl, ht⟩
          · skip
            go_upto_region 18 with (first
              | (refine wpList_load_mid rfl 44 (.tmp 104) rfl g (i * 24) rfl e.f.cs _ hr Try.underlying44 rfl szl44 ?_)
              | (have q44 := sz44; refine wpList_store_row rfl 44 (.tmp 9) (.tmp 105) rfl wr.heap.size e.f.cs.toArray rfl rfl 44 fr0.cs.toArray (heap_alloc_new _ _) sz44 hZc hone ?_; rw [← W2e.out]; clear hr q44 c1))
            go_upto_region 19 with fail
            go_upto_region 21 with (go_at_call 22; with_reducible refine hw.mono ?_; rintro e' w3 ⟨rfl, hA, k3⟩; have HH := EH.out w3 hA k3; have f63 := k3.heap f6 (fun h => absurd h hxb); have F23 := k3.heap F2 (fun h => absurd h hfb); (have cx2 : w3.cell? ⟨wr.heap.size, 2, none⟩ = some (.int .u8 e.f.c) := by (rw [cell_of_row w3 wr.heap.size 2 _ 44 (0, 0) f63, code_at])); (have cf2 : w3.cell? ⟨fb, 2, none⟩ = some (.int .u8 f.c) := by (rw [cell_of_row w3 fb 2 _ 44 (0, 0) F23, code_at])); clear hw hA k3 EH f6 F2 d0 cx0 cx1 cf0 cf1)
            have HHA : Aside0 _ := ⟨HH⟩
            clear HH
            by_cases hc : e.f.c = f.c
            · have CE : Aside0 (e.f.c = f.c) := ⟨hc⟩
              rw [hc] at cx2
              clear hc
              go_upto_region 23 with fail
              clear cx2 cf2
              go_wp2_with (first
                | (refine wpList_load_row rfl 44 (.tmp 9) rfl wr.heap.size rfl 44 e.f.cs.toArray (0, 0) _ f63 Try.underlying44 rfl sz44 ?_)
                | (refine wpList_load_row rfl 44 (.tmp 5) rfl fb rfl 44 f.cs.toArray (0, 0) _ F23 Try.underlying44 rfl SZ44 ?_)
                | (refine wpList_buildTo rfl 70 _ rfl (some 141) rfl (Nt.mk 4 e.f f).cs.toArray ?_ ?_; (simp only [List.map_toArray, List.map_cons, List.map_nil]; exact rt_both 4 e.f f))
                | (refine wpList_lit1 rfl 47 (.tmp 141) rfl (some 142) rfl (.agg (Nt.mk 4 e.f f).cs.toArray) rfl _ _ (lit_rt w3 _) ?_))
              go_ret
              refine ⟨_, rfl, ?_⟩
              have h := R3E.out
              rw [if_pos CE.out] at h
              rw [h]
              exact HHA.out ⟨4, e.f, f⟩
            · have NE : Aside0 (¬ e.f.c = f.c) := ⟨hc⟩
              have hcb : (e.f.c != f.c) = true := by simpa using hc
              go_upto_region 23 with fail
              clear cx2 cf2
              go_wp2_with (first
                | (refine wpList_load_row rfl 44 (.tmp 9) rfl wr.heap.size rfl 44 e.f.cs.toArray (0, 0) _ f63 Try.underlying44 rfl sz44 ?_)
                | (refine wpList_load_row rfl 44 (.tmp 5) rfl fb rfl 44 f.cs.toArray (0, 0) _ F23 Try.underlying44 rfl SZ44 ?_)
                | (refine wpList_buildTo rfl 70 _ rfl (some 141) rfl (Nt.mk 5 e.f f).cs.toArray ?_ ?_; (simp only [List.map_toArray, List.map_cons, List.map_nil]; exact rt_both 5 e.f f))
                | (refine wpList_lit1 rfl 47 (.tmp 141) rfl (some 142) rfl (.agg (Nt.mk 5 e.f f).cs.toArray) rfl _ _ (lit_rt w3 _) ?_))
              go_ret
              refine ⟨_, rfl, ?_⟩
              have h := R3E.out
              rw [if_neg NE.out] at h
              rw [h]
              exact HHA.out ⟨5, e.f, f⟩
          · rw [ht] at cx1
            clear ht
            go_upto_region 18 with (first
              | (refine wpList_load_mid rfl 44 (.tmp 104) rfl g (i * 24) rfl e.f.cs _ hr Try.underlying44 rfl szl44 ?_)
              | (have q44 := sz44; refine wpList_store_row rfl 44 (.tmp 9) (.tmp 105) rfl wr.heap.size e.f.cs.toArray rfl rfl 44 fr0.cs.toArray (heap_alloc_new _ _) sz44 hZc hone ?_; rw [← W2e.out]; clear hr q44 c1))
            go_upto_region 19 with fail
            go_upto_region 21 with (go_at_call 22; with_reducible refine hw.mono ?_; rintro e' w3 ⟨rfl, hA, k3⟩; have HH := EH.out w3 hA k3; have f63 := k3.heap f6 (fun h => absurd h hxb); have F23 := k3.heap F2 (fun h => absurd h hfb); (have cx2 : w3.cell? ⟨wr.heap.size, 2, none⟩ = some (.int .u8 e.f.c) := by (rw [cell_of_row w3 wr.heap.size 2 _ 44 (0, 0) f63, code_at])); (have cf2 : w3.cell? ⟨fb, 2, none⟩ = some (.int .u8 f.c) := by (rw [cell_of_row w3 fb 2 _ 44 (0, 0) F23, code_at])); clear hw hA k3 EH f6 F2 d0 cx0 cx1 cf0 cf1)
            have HHA : Aside0 _ := ⟨HH⟩
            clear HH
            by_cases hc : e.f.c = f.c
            · have CE : Aside0 (e.f.c = f.c) := ⟨hc⟩
              rw [hc] at cx2
              clear hc
              go_upto_region 23 with fail
              clear cx2 cf2
              go_wp2_with (first
                | (refine wpList_load_row rfl 44 (.tmp 9) rfl wr.heap.size rfl 44 e.f.cs.toArray (0, 0) _ f63 Try.underlying44 rfl sz44 ?_)
                | (refine wpList_load_row rfl 44 (.tmp 5) rfl fb rfl 44 f.cs.toArray (0, 0) _ F23 Try.underlying44 rfl SZ44 ?_)
                | (refine wpList_buildTo rfl 70 _ rfl (some 141) rfl (Nt.mk 4 e.f f).cs.toArray ?_ ?_; (simp only [List.map_toArray, List.map_cons, List.map_nil]; exact rt_both 4 e.f f))
                | (refine wpList_lit1 rfl 47 (.tmp 141) rfl (some 142) rfl (.agg (Nt.mk 4 e.f f).cs.toArray) rfl _ _ (lit_rt w3 _) ?_))
              go_ret
              refine ⟨_, rfl, ?_⟩
              have h := R3E.out
              rw [if_pos CE.out] at h
              rw [h]
              exact HHA.out ⟨4, e.f, f⟩
            · have NE : Aside0 (¬ e.f.c = f.c) := ⟨hc⟩
              have hcb : (e.f.c != f.c) = true := by simpa using hc
              go_upto_region 23 with fail
              clear cx2 cf2
              go_wp2_with (first
                | (refine wpList_load_row rfl 44 (.tmp 9) rfl wr.heap.size rfl 44 e.f.cs.toArray (0, 0) _ f63 Try.underlying44 rfl sz44 ?_)
                | (refine wpList_load_row rfl 44 (.tmp 5) rfl fb rfl 44 f.cs.toArray (0, 0) _ F23 Try.underlying44 rfl SZ44 ?_)
                | (refine wpList_buildTo rfl 70 _ rfl (some 141) rfl (Nt.mk 5 e.f f).cs.toArray ?_ ?_; (simp only [List.map_toArray, List.map_cons, List.map_nil]; exact rt_both 5 e.f f))
                | (refine wpList_lit1 rfl 47 (.tmp 141) rfl (some 142) rfl (.agg (Nt.mk 5 e.f f).cs.toArray) rfl _ _ (lit_rt w3 _) ?_))
              go_ret
              refine ⟨_, rfl, ?_⟩
              have h := R3E.out
              rw [if_neg NE.out] at h
              rw [h]
              exact HHA.out ⟨5, e.f, f⟩
        · have HNX : Aside0 _ := ⟨NX.out hm⟩
          obtain ⟨rfl, ht⟩ : net = true ∧ ¬ e.f.t = f.t := by
            cases net with
            | false => exact absurd ⟨hu, by simp⟩ hm
            | true => exact ⟨rfl, fun h => hm ⟨hu, fun _ => h⟩⟩
          have htb : (e.f.t != f.t) = true := by simpa using ht
          rw [hu] at cx0
          clear HIT NX hm hu R2 KD
          go_upto_region 18 with (first
            | (refine wpList_load_mid rfl 44 (.tmp 104) rfl g (i * 24) rfl e.f.cs _ hr Try.underlying44 rfl szl44 ?_)
            | (have q44 := sz44; refine wpList_store_row rfl 44 (.tmp 9) (.tmp 105) rfl wr.heap.size e.f.cs.toArray rfl rfl 44 fr0.cs.toArray (heap_alloc_new _ _) sz44 hZc hone ?_; rw [← W2e.out]; clear hr sz44 q44 c1))
          go_wp2
          go_roundg (L.length - (i + 1))
          case measure => omega
          case rel => exact ⟨i + 1, by go_num, by omega, Nat.le_refl _, HNX⟩
      · have HNX : Aside0 _ := ⟨NX.out (fun hm => hu hm.1)⟩
        have hub : (e.f.u != f.u) = true := by simpa using hu
        clear HIT NX R2 KD
        go_upto_region 18 with (first
          | (refine wpList_load_mid rfl 44 (.tmp 104) rfl g (i * 24) rfl e.f.cs _ hr Try.underlying44 rfl szl44 ?_)
          | (have q44 := sz44; refine wpList_store_row rfl 44 (.tmp 9) (.tmp 105) rfl wr.heap.size e.f.cs.toArray rfl rfl 44 fr0.cs.toArray (heap_alloc_new _ _) sz44 hZc hone ?_; rw [← W2e.out]; clear hr sz44 q44 c1))
        go_wp2
        go_roundg (L.length - (i + 1))
        case measure => omega
        case rel => exact ⟨i + 1, by go_num, by omega, Nat.le_refl _, HNX⟩
    · have hge : ¬ ((i : Int) < (L.length : Int)) := by omega
      have hans : ans net L all f = ([⟨6, fr0, f⟩], L, all) := ans_none fun e he => by
        obtain ⟨j, hj, rfl⟩ := List.mem_iff_getElem.1 he
        exact D.out.no j hj (by omega)
      rw [H3.out] at hans
      have R3E : Aside0 _ := ⟨hans⟩
      have FIN : Aside0 (RRes w (wr.alloc (.cells (Nt.mk 6 fr0 f).cs.toArray 70)) rb net (.slice (some ⟨wr.heap.size, 0, none⟩) 1 1) [⟨6, fr0, f⟩] L) := ⟨(rr_one hR ⟨6, fr0, f⟩).base (HK1.out.trans D.out.kept (fun _ _ h => h) (fun _ _ h => h))⟩
      clear hans hR
      go_wp2_with (first
        | (refine wpList_load_row rfl 44 (.tmp 5) rfl fb rfl 44 f.cs.toArray (0, 0) _ F5 Try.underlying44 rfl SZ44 ?_)
        | (refine wpList_buildTo rfl 70 _ rfl (some 144) rfl (Nt.mk 6 fr0 f).cs.toArray ?_ ?_; (simp only [List.map_toArray, List.map_cons, List.map_nil]; exact rt_ans 6 f))
        | (refine wpList_lit1 rfl 47 (.tmp 144) rfl (some 145) rfl (.agg (Nt.mk 6 fr0 f).cs.toArray) rfl _ _ (lit_rt _ _) ?_))
      go_ret
      refine ⟨_, rfl, ?_⟩
      rw [R3E.out]
      exact FIN.out

end Go.Proofs.Ytmbjlondehcheaa
