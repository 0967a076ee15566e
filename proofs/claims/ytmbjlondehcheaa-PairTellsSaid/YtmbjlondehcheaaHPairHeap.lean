/- The heap of open requests: Push, Pop, Len, Less and Swap of the slice, and how each is reached through the interface; heap.up, where the last one is the youngest, changes nothing. -/
import Derived.Test.YtmbjlondehcheaaProg
import Derived.Below
import Derived.OneCell
import Derived.WalkKit
import Derived.KernelRfl
import Derived.RowKit3
import Derived.Deep.LoopGhost
import Derived.Deep.QuietTactic
import Derived.BigQuiet
import Derived.Deep.DeepCutAuto
import Derived.Deep.CutBlock
import Derived.Deep.RegionWith
import Derived.OwnWalk
import Derived.Laws.Tables
import Derived.Laws.AppendOwn
import Derived.Shelf.SlSortCmp.KitK
import Derived.Shelf.RegionOpenPlain
import Derived.Sort.WalkB2
import Derived.Deep.MidRow
import Derived.Great.Walk
import Derived.Test.YtmbjlondehcheaaWWords
import Derived.Test.YtmbjlondehcheaaWLast
import Derived.Test.YtmbjlondehcheaaHPairMem
set_option linter.unusedSimpArgs false
set_option linter.unusedVariables false
namespace Go.Proofs.Ytmbjlondehcheaa
open Go.Shelf Go.RowKit Go.Lib Go.Sort Go.Proofs.YtmbjlondehcheaaW.PrintWords Go.Proofs.YtmbjlondehcheaaW.PrintLast

theorem n_cell {w : World} {g : Nat} {d : Array Ent} (H : HoldsK Ent.cs 25 w g 0 d) {i : Nat} (hi : i < d.size) : w.cell? ⟨g, i * 25, none⟩ = some (.int .i64 (d[i]!).n) := by
  have := (H.cell hi (show 0 < 25 by omega)).1
  rw [Nat.zero_add, Nat.add_zero] at this
  exact this

theorem ent_range {w : World} {g : Nat} {d : Array Ent} (H : HoldsK Ent.cs 25 w g 0 d) {i : Nat} (hi : i < d.size) : w.rangeAt g (i * 25) (d[i]!).cs := by
  intro c v hv
  have := HoldsK.cells H Ent.len hi c v hv
  rw [Addr.add_mid, Nat.zero_add] at this
  exact this

theorem ent_there {w : World} {g : Nat} {d : Array Ent} (H : HoldsK Ent.cs 25 w g 0 d) {i : Nat} (hi : i < d.size) : w.there g (i * 25) 25 := by
  intro c hc
  have := H.cell hi hc
  rw [Nat.zero_add] at this
  rw [this.1, this.2]
  exact ⟨rfl, rfl⟩

theorem less_calls (w : World) (g : Nat) (d : Array Ent) (cap i j : Nat) (hi : i < d.size) (hj : j < d.size) (H : HoldsK Ent.cs 25 w g 0 d) :
    Calls Try.prog 72 #[.slice (some ⟨g, 0, none⟩) d.size cap, .int .i64 i, .int .i64 j] w fun e w' => e = .returned (.bool (yg d[j]! d[i]!)) ∧ ∃ q, w' = w.drewN q := by
  have ci := n_cell H hi
  have cj := n_cell H hj
  have hiz : (i : Int) < (d.size : Int) := by omega
  have hjz : (j : Int) < (d.size : Int) := by omega
  clear H
  obtain ⟨x, hx⟩ : ∃ x, x = (d[i]!).n := ⟨_, rfl⟩
  obtain ⟨y, hy⟩ : ∃ x, x = (d[j]!).n := ⟨_, rfl⟩
  show Calls _ _ _ _ fun e w' => e = .returned (.bool (decide ((d[i]!).n < (d[j]!).n))) ∧ _
  rw [← hx, ← hy]
  rw [← hx] at ci
  rw [← hy] at cj
  clear hx hy
  go_enter Try.func72, Try.ntmps72
  go_wp2_with fail
  go_quiet (fail)
  all_goals go_wp2
  all_goals go_ret
  all_goals exact ⟨rfl, _, rfl⟩

set_option maxRecDepth 100000 in
theorem swap_calls (w : World) (g : Nat) (d : Array Ent) (cap i j : Nat) (hi : i < d.size) (hj : j < d.size) (H : HoldsK Ent.cs 25 w g 0 d) (hg : g < w.heap.size) :
    Calls Try.prog 75 #[.slice (some ⟨g, 0, none⟩) d.size cap, .int .i64 i, .int .i64 j] w fun e w' => e = .returned (.tuple #[]) ∧ SWK Ent.cs 25 w g 0 (swp d i j) w' := by
  have S : SWK Ent.cs 25 w g 0 d w := SWK.start H
  have R : RowK Ent.cs 25 w g 0 d := ⟨Ent.len, Ent.one, H, hg⟩
  have hiz : (i : Int) < (d.size : Int) := by omega
  have hjz : (j : Int) < (d.size : Int) := by omega
  have e3 := S.swapped R i j hi hj
  simp only [Nat.zero_add] at e3
  have HD : HoldsK Ent.cs 25 w.drew g 0 d := H
  have rX := ent_range HD hi
  have rY := ent_range HD hj
  have tI := ent_there HD hi
  have tJ' := ent_there HD hj
  have cXl : (d[i]!).cs.length = 25 := rfl
  have cYl : (d[j]!).cs.length = 25 := rfl
  have cXo := (d[i]!).one
  have cYo := (d[j]!).one
  generalize (d[i]!).cs = cX at e3 rX cXl cXo
  generalize (d[j]!).cs = cY at e3 rY cYl cYo
  have tJ : ∀ n, n = 25 → (w.drew.setCells g (i * 25) cY).there g (j * 25) n := fun n hn => by subst hn; exact World.there_setCells tJ' _ _ _
  replace tI : w.drew.there g (i * 25) cY.toArray.size := by rw [List.size_toArray, cYl]; exact tI
  replace tJ : (w.drew.setCells g (i * 25) cY).there g (j * 25) cX.toArray.size := tJ _ (by rw [List.size_toArray, cXl])
  clear S R H HD tJ'
  have E3 : Aside0 (SWK Ent.cs 25 w g 0 (swp d i j) ((w.drew.setCells g (i * 25) cY).setCells g (j * 25) cX)) := ⟨e3⟩
  clear e3
  go_enter Try.func75, Try.ntmps75
  go_wp2_with fail
  refine start_ (n := 16) (S := fun w' => w' = w.drew) (ds := [13, 15]) #[false, false, false, false, false, false, false, false, false, false, false, false, false, false, false, false] (by kernel_rfl) rfl rfl rfl (fun hHeld => ?_)
  clear hHeld
  refine pure_ (i := 0) (N := some 6) (v := ?_) (a' := ?_) #[true, false, false, false, false, false, false, false, false, false, false, false, false, false, false, false] rfl rfl (by kernel_rfl) (fun _ _ _ h => h) (Or.inl ⟨by rfl, ?_⟩) ?_ ?_
  rotate_left
  · intro w'
    go_simp
    with_reducible rfl
  rotate_left
  · simp only [Act.put, List.setIfInBounds_toArray, List.set_cons_zero, List.set_cons_succ]; rfl
  refine pure_ (i := 1) (N := some 7) (v := ?_) (a' := ?_) #[true, true, false, false, false, false, false, false, false, false, false, false, false, false, false, false] rfl rfl (by kernel_rfl) (fun _ _ _ h => h) (Or.inl ⟨by rfl, ?_⟩) ?_ ?_
  rotate_left
  · intro w'
    go_simp
    with_reducible rfl
  rotate_left
  · simp only [Act.put, List.setIfInBounds_toArray, List.set_cons_zero, List.set_cons_succ]; rfl
  refine pure_ (i := 2) (N := some 8) (v := ?_) (a' := ?_) #[true, true, true, false, false, false, false, false, false, false, false, false, false, false, false, false] rfl rfl (by kernel_rfl) (fun _ _ _ h => h) (Or.inl ⟨by rfl, ?_⟩) ?_ ?_
  rotate_left
  · intro w'
    go_simp
    with_reducible rfl
  rotate_left
  · simp only [Act.put, List.setIfInBounds_toArray, List.set_cons_zero, List.set_cons_succ]; rfl
  refine pure_ (i := 3) (N := some 9) (v := ?_) (a' := ?_) #[true, true, true, true, false, false, false, false, false, false, false, false, false, false, false, false] rfl rfl (by kernel_rfl) (fun _ _ _ h => h) (Or.inl ⟨by rfl, ?_⟩) ?_ ?_
  rotate_left
  · intro w'
    go_simp
    with_reducible rfl
  rotate_left
  · simp only [Act.put, List.setIfInBounds_toArray, List.set_cons_zero, List.set_cons_succ]; rfl
  refine pure_ (i := 4) (N := some 10) (v := ?_) (a' := ?_) #[true, true, true, true, true, false, false, false, false, false, false, false, false, false, false, false] rfl rfl (by kernel_rfl) (fun _ _ _ h => h) (Or.inl ⟨by rfl, ?_⟩) ?_ ?_
  rotate_left
  · intro w'
    go_simp
    with_reducible rfl
  rotate_left
  · simp only [Act.put, List.setIfInBounds_toArray, List.set_cons_zero, List.set_cons_succ]; rfl
  refine pure_ (i := 5) (N := some 11) (v := ?_) (a' := ?_) #[true, true, true, true, true, true, false, false, false, false, false, false, false, false, false, false] rfl rfl (by kernel_rfl) (fun _ _ _ h => h) (Or.inl ⟨by rfl, ?_⟩) ?_ ?_
  rotate_left
  · intro w'
    go_simp
    with_reducible rfl
  rotate_left
  · simp only [Act.put, List.setIfInBounds_toArray, List.set_cons_zero, List.set_cons_succ]; rfl
  refine pure_ (i := 6) (N := some 12) (v := ?_) (a' := ?_) #[true, true, true, true, true, true, true, false, false, false, false, false, false, false, false, false] rfl rfl (by kernel_rfl) (fun _ _ _ h => h) (Or.inl ⟨by rfl, ?_⟩) ?_ ?_
  rotate_left
  · intro w'
    go_simp
    with_reducible rfl
  rotate_left
  · simp only [Act.put, List.setIfInBounds_toArray, List.set_cons_zero, List.set_cons_succ]; rfl
  refine take_ (i := 7) (N := some 13) (v := .agg cY.toArray) (a' := ?_) #[true, true, true, true, true, true, true, true, false, false, false, false, false, false, false, false] rfl rfl (by kernel_rfl) (fun _ _ _ h => h) (yieldsIf_load_mid (by kernel_rfl) 77 (.tmp 12) rfl g (j * 25) rfl cY _ (fun w' hS => by rw [hS]; exact rY) Try.underlying77 rfl (by rw [cYl]; kernel_rfl)) rfl ?_ ?_
  rotate_left
  · simp only [Act.put, List.setIfInBounds_toArray, List.set_cons_zero, List.set_cons_succ]; rfl
  refine pure_ (i := 8) (N := some 14) (v := ?_) (a' := ?_) #[true, true, true, true, true, true, true, true, true, false, false, false, false, false, false, false] rfl rfl (by kernel_rfl) (fun _ _ _ h => h) (Or.inl ⟨by rfl, ?_⟩) ?_ ?_
  rotate_left
  · intro w'
    go_simp
    with_reducible rfl
  rotate_left
  · simp only [Act.put, List.setIfInBounds_toArray, List.set_cons_zero, List.set_cons_succ]; rfl
  refine pure_ (i := 9) (N := some 15) (v := ?_) (a' := ?_) #[true, true, true, true, true, true, true, true, true, true, false, false, false, false, false, false] rfl rfl (by kernel_rfl) (fun _ _ _ h => h) (Or.inl ⟨by rfl, ?_⟩) ?_ ?_
  rotate_left
  · intro w'
    go_simp
    with_reducible rfl
  rotate_left
  · simp only [Act.put, List.setIfInBounds_toArray, List.set_cons_zero, List.set_cons_succ]; rfl
  refine pure_ (i := 10) (N := some 16) (v := ?_) (a' := ?_) #[true, true, true, true, true, true, true, true, true, true, true, false, false, false, false, false] rfl rfl (by kernel_rfl) (fun _ _ _ h => h) (Or.inl ⟨by rfl, ?_⟩) ?_ ?_
  rotate_left
  · intro w'
    go_simp
    with_reducible rfl
  rotate_left
  · simp only [Act.put, List.setIfInBounds_toArray, List.set_cons_zero, List.set_cons_succ]; rfl
  refine take_ (i := 11) (N := some 17) (v := .agg cX.toArray) (a' := ?_) #[true, true, true, true, true, true, true, true, true, true, true, true, false, false, false, false] rfl rfl (by kernel_rfl) (fun _ _ _ h => h) (yieldsIf_load_mid (by kernel_rfl) 77 (.tmp 16) rfl g (i * 25) rfl cX _ (fun w' hS => by rw [hS]; exact rX) Try.underlying77 rfl (by rw [cXl]; kernel_rfl)) rfl ?_ ?_
  rotate_left
  · simp only [Act.put, List.setIfInBounds_toArray, List.set_cons_zero, List.set_cons_succ]; rfl
  refine pure_ (i := 12) (N := some 18) (v := ?_) (a' := ?_) #[true, true, true, true, true, true, true, true, true, true, true, true, true, false, false, false] rfl rfl (by kernel_rfl) (fun _ _ _ h => h) (Or.inl ⟨by rfl, ?_⟩) ?_ ?_
  rotate_left
  · intro w'
    go_simp
    with_reducible rfl
  rotate_left
  · simp only [Act.put, List.setIfInBounds_toArray, List.set_cons_zero, List.set_cons_succ]; rfl
  refine last_ (i := 13) (N := none) #[true, true, true, true, true, true, true, true, true, true, true, true, true, true, false, false] rfl rfl (by kernel_rfl) (by decide) (fun K hK => ?_)
  rw [if_pos (by kernel_rfl)]
  refine wp_store_mid 77 (.tmp 18) (.tmp 13) rfl g (i * 25) cY.toArray rfl rfl tI (by rw [List.size_toArray, cYl]; kernel_rfl) (all_oneCell_toArray cYo) (hK.out _ _ ?_)
  clear hK K
  refine norm_ (a' := ?_) ?_ ?_
  rotate_left
  · simp only [Act.put]; rfl
  refine pure_ (i := 14) (N := some 19) (v := ?_) (a' := ?_) #[true, true, true, true, true, true, true, true, true, true, true, true, true, true, true, false] rfl rfl (by kernel_rfl) (fun _ _ _ h => h) (Or.inl ⟨by rfl, ?_⟩) ?_ ?_
  rotate_left
  · intro w'
    go_simp
    with_reducible rfl
  rotate_left
  · simp only [Act.put, List.setIfInBounds_toArray, List.set_cons_zero, List.set_cons_succ]; rfl
  refine last_ (i := 15) (N := none) #[true, true, true, true, true, true, true, true, true, true, true, true, true, true, true, true] rfl rfl (by kernel_rfl) (by decide) (fun K hK => ?_)
  rw [if_pos (by kernel_rfl)]
  refine wp_store_mid 77 (.tmp 19) (.tmp 17) rfl g (j * 25) cX.toArray rfl rfl tJ (by rw [List.size_toArray, cXl]; kernel_rfl) (all_oneCell_toArray cXo) (hK.out _ _ ?_)
  clear hK K
  refine norm_ (a' := ?_) ?_ ?_
  rotate_left
  · simp only [Act.put]; rfl
  refine done_ (by kernel_rfl) ?_
  go_end0
  exact ⟨rfl, E3.out⟩

theorem ta77 (x : Value) (w : World) : (Instr.typeAssert (.iface 77 x) 20 77 false).run Try.prog w = .ok x w := by kernel_rfl

set_option maxRecDepth 100000 in
/-- (*ages).Push: one more behind all. -/
theorem push_calls (w : World) (c : Nat) (v : Value) (n : Nat) (xs : List Value) (e : Ent) (hc : w.heap[c]? = some (.cells #[v] 74 (0, 0))) (ho : w.ownsRow 0 77 25 v n xs) (hvc : v.ownBlock ≠ some c) (hn : n < 1000000) :
    Calls Try.prog 74 #[.pointer (some ⟨c, 0, none⟩), .iface 77 (.agg e.cs.toArray)] w fun r w' => r = .returned (.tuple #[]) ∧ ∃ v', w'.heap[c]? = some (.cells #[v'] 74 (0, 0)) ∧
      w'.ownsRow 0 77 25 v' (n + 1) (xs ++ e.cs) ∧ v'.ownBlock ≠ some c ∧ (v'.ownBlock = v.ownBlock ∨ ∃ b, v'.ownBlock = some b ∧ w.heap.size ≤ b) ∧ Kept w w' (fun b => b = c ∨ some b = v.ownBlock) := by
  have hcell : w.cell? ⟨c, 0, none⟩ = some v := by rw [cell_of_row w c 0 _ 74 (0, 0) hc]; rfl
  have ho1 := World.ownsRow.alloc (w := w.drew) ho (.cells e.cs.toArray 77)
  have AP := fun ty => app_ent (w.drew.alloc (.cells e.cs.toArray 77)) ty v n xs e ho1 w.drew.heap.size (heap_alloc_new _ _) hn
  have hcl := heap_lt hc
  have POST : ∀ v' w1, w1.ownsRow 0 77 25 v' (n + 1) (xs ++ e.cs) → (w.drew.alloc (.cells e.cs.toArray 77)).grownBy w1 v.ownBlock → (v'.ownBlock = v.ownBlock ∨ v'.ownBlock = some (w.drew.alloc (.cells e.cs.toArray 77)).heap.size) →
      w1.heap[c]? = some (.cells #[v] 74 (0, 0)) ∧ v'.ownBlock ≠ some c ∧ (v'.ownBlock = v.ownBlock ∨ ∃ b, v'.ownBlock = some b ∧ w.heap.size ≤ b) ∧ Kept w (w1.setRow c #[v']) (fun b => b = c ∨ some b = v.ownBlock) := by
    intro v' w1 _ hg hat
    have k1 : Kept w w1 (fun b => b = c ∨ some b = v.ownBlock) :=
      ((Kept.drew w _).trans (Kept.alloc w.drew _ _) (fun _ _ h => h) (fun _ _ h => h)).trans (Kept.grown hg (F := fun b => some b = v.ownBlock) (fun k h => h)) (fun _ _ h => h) (fun _ _ h => .inr h)
    have hsz : (w.drew.alloc (.cells e.cs.toArray 77)).heap.size = w.heap.size + 1 := by simp
    refine ⟨?_, ?_, ?_, ?_⟩
    · rw [hg.block c (by rw [hsz]; omega) (fun h => hvc h.symm)]
      rw [heap_alloc_old w.drew _ hcl]; exact hc
    · rcases hat with h | h
      · rw [h]; exact hvc
      · rw [h, hsz]; intro h'; injection h'; omega
    · rcases hat with h | h
      · exact .inl h
      · exact .inr ⟨_, h, by rw [hsz]; omega⟩
    · exact k1.trans (Kept.setRow w1 c #[v'] (F := fun b => b = c ∨ some b = v.ownBlock) (.inl rfl)) (fun _ _ h => h) (fun _ _ h => h)
  have hcell1 : (w.drew.alloc (.cells e.cs.toArray 77)).cell? ⟨c, 0, none⟩ = some v := by rw [cell_of_row _ c 0 _ 74 (0, 0) (by rw [heap_alloc_old w.drew _ hcl]; exact hc)]; rfl
  have hta := fun w => ta77 (.agg e.cs.toArray) w
  go_enter Try.func74, Try.ntmps74
  go_wp2_with fail
  refine start_ (n := 10) (S := fun w' => w'.cell? ⟨c, 0, none⟩ = some v) (ds := [7, 9]) #[false, false, false, false, false, false, false, false, false, false] (by kernel_rfl) rfl rfl hcell (fun hHeld => ?_)
  clear hHeld
  refine pure_ (i := 0) (N := (some 4)) (v := ?_) (a' := ?_) #[true, false, false, false, false, false, false, false, false, false] rfl rfl (by kernel_rfl) (fun _ _ _ h => h) (Or.inl ⟨by rfl, ?_⟩) ?_ ?_
  rotate_left
  · intro w'
    go_simp
    with_reducible rfl
  rotate_left
  · (try simp only [Act.put, List.setIfInBounds_toArray, List.set_cons_zero, List.set_cons_succ]); rfl
  refine pure_ (i := 1) (N := (some 5)) (v := ?_) (a' := ?_) #[true, true, false, false, false, false, false, false, false, false] rfl rfl (by kernel_rfl) (fun _ _ _ h => h) (Or.inl ⟨by rfl, ?_⟩) ?_ ?_
  rotate_left
  · intro w'
    go_simp
    with_reducible rfl
  rotate_left
  · (try simp only [Act.put, List.setIfInBounds_toArray, List.set_cons_zero, List.set_cons_succ]); rfl
  refine pure_ (i := 2) (N := (some 6)) (v := ?_) (a' := ?_) #[true, true, true, false, false, false, false, false, false, false] rfl rfl (by kernel_rfl) (fun _ _ _ h => h) (Or.inl ⟨by rfl, ?_⟩) ?_ ?_
  rotate_left
  · intro w'
    go_simp
    with_reducible rfl
  rotate_left
  · (try simp only [Act.put, List.setIfInBounds_toArray, List.set_cons_zero, List.set_cons_succ]); rfl
  refine take_ (i := 3) (N := (some 7)) (v := ?_) (a' := ?_) #[true, true, true, true, false, false, false, false, false, false] rfl rfl (by kernel_rfl) (fun _ _ _ h => h) (Or.inl ⟨by rfl, ?_⟩) hcell ?_ ?_
  rotate_left
  · intro w' hS
    have hcS : w'.cell? ⟨c, 0, none⟩ = some v := hS
    go_simp
    with_reducible rfl
  rotate_left
  · (try simp only [Act.put, List.setIfInBounds_toArray, List.set_cons_zero, List.set_cons_succ]); rfl
  refine pure_ (i := 4) (N := (some 8)) (v := ?_) (a' := ?_) #[true, true, true, true, true, false, false, false, false, false] rfl rfl (by kernel_rfl) (fun _ _ _ h => h) (Or.inl ⟨by rfl, ?_⟩) ?_ ?_
  rotate_left
  · intro w'
    go_simp
    with_reducible rfl
  rotate_left
  · (try simp only [Act.put, List.setIfInBounds_toArray, List.set_cons_zero, List.set_cons_succ]); rfl
  refine pure_ (i := 5) (N := (some 9)) (v := ?_) (a' := ?_) #[true, true, true, true, true, true, false, false, false, false] rfl rfl (by kernel_rfl) (fun _ _ _ h => h) (Or.inl ⟨by rfl, ?_⟩) ?_ ?_
  rotate_left
  · intro w'
    go_simp
    with_reducible rfl
  rotate_left
  · (try simp only [Act.put, List.setIfInBounds_toArray, List.set_cons_zero, List.set_cons_succ]); rfl
  refine one_ (i := 6) (N := (some 10)) #[true, true, true, true, true, true, true, false, false, false] rfl rfl (by kernel_rfl) (by decide) (fun K hK => ?_)
  rw [if_pos (by kernel_rfl)]
  refine wp_lit1 74 (.tmp 9) rfl (.agg e.cs.toArray) rfl _ _ (lit_ent _ e) (hK.out _ _ hcell1 (fun hHeld => ?_))
  clear hHeld hK K
  refine norm_ (a' := ?_) ?_ ?_
  rotate_left
  · (try simp only [Act.put, List.setIfInBounds_toArray, List.set_cons_zero, List.set_cons_succ]); rfl
  refine last_ (i := 7) (N := (some 11)) #[true, true, true, true, true, true, true, true, false, false] rfl rfl (by kernel_rfl) (by decide) (fun K hK => ?_)
  rw [if_pos (by kernel_rfl)]
  obtain ⟨v', w1, hr, ho', hg', hat⟩ := AP 74
  refine wp_append (.tmp 7) (.tmp 10) 74 74 rfl v _ rfl rfl v' w1 hr (hK.out _ _ ?_)
  clear hK K
  refine norm_ (a' := ?_) ?_ ?_
  rotate_left
  · (try simp only [Act.put, List.setIfInBounds_toArray, List.set_cons_zero, List.set_cons_succ]); rfl
  refine pure_ (i := 8) (N := (some 12)) (v := ?_) (a' := ?_) #[true, true, true, true, true, true, true, true, true, false] rfl rfl (by kernel_rfl) (fun _ _ _ h => h) (Or.inl ⟨by rfl, ?_⟩) ?_ ?_
  rotate_left
  · intro w'
    go_simp
    with_reducible rfl
  rotate_left
  · (try simp only [Act.put, List.setIfInBounds_toArray, List.set_cons_zero, List.set_cons_succ]); rfl
  refine last_ (i := 9) (N := none) #[true, true, true, true, true, true, true, true, true, true] rfl rfl (by kernel_rfl) (by decide) (fun K hK => ?_)
  rw [if_pos (by kernel_rfl)]
  refine wp_store_one 74 (.tmp 12) (.tmp 11) rfl c v' rfl rfl (owns_one ho') 74 v (POST _ _ ho' hg' hat).1 (by kernel_rfl) (hK.out _ _ ?_)
  clear hK K
  refine norm_ (a' := ?_) ?_ ?_
  rotate_left
  · (try simp only [Act.put, List.setIfInBounds_toArray, List.set_cons_zero, List.set_cons_succ]); rfl
  refine done_ (by kernel_rfl) ?_
  go_end0
  obtain ⟨p1, p2, p3, p4⟩ := POST _ _ ho' hg' hat
  refine ⟨rfl, v', setRow_heap w1 c _ _ 74 _ p1, ?_, p2, p3, p4⟩
  exact (Kept.setRow w1 c #[v'] (F := fun b => b = c) rfl).owns ho' (fun g hg h => p2 (by rw [hg, h]))

theorem zero77 : ∃ Z : Array Value, Z.size = 25 ∧ ∀ w, (zeroValue 77).run Try.prog w = .ok (.agg Z) w := by
  have h : ((Try.prog.info? 77).bind fun ie => ie.zero.map fun z => (match z with | .agg c => c.size | _ => 0)) = some 25 := by kernel_rfl
  cases hi : Try.prog.info? 77 with
  | none => rw [hi] at h; cases h
  | some ie =>
    rw [hi] at h
    cases hz : ie.zero with
    | none => simp [hz] at h
    | some z =>
      simp [hz] at h
      cases z with
      | agg c => exact ⟨c, h, fun w => by simp [zeroValue, typeInfo, hi, hz]⟩
      | _ => simp at h

theorem size77 (cs : Array Value) (h : cs.size = 25) : (Try.prog.info? 77).map (·.size) = some cs.size := by rw [h]; kernel_rfl

set_option maxRecDepth 100000 in
/-- (*ages).Pop: the last one is taken off. -/
theorem pop_calls (w : World) (c g m cap : Nat) (cs : List Value) (hc : w.heap[c]? = some (.cells #[.slice (some ⟨g, 0, none⟩) (m + 1) cap] 74 (0, 0))) (hr : w.rangeAt g (m * 25) cs) (hl : cs.length = 25) (h1 : ∀ v ∈ cs, v.oneCell' = true)
    (hgc : g ≠ c) (hm : m + 1 ≤ cap) (hcap : cap ≤ maxLen) :
    Calls Try.prog 73 #[.pointer (some ⟨c, 0, none⟩)] w fun r w' => r = .returned (.iface 77 (.agg cs.toArray)) ∧ w'.heap[c]? = some (.cells #[.slice (some ⟨g, 0, none⟩) m cap] 74 (0, 0)) ∧ Kept w w' (fun b => b = c) := by
  have hcell : w.cell? ⟨c, 0, none⟩ = some (.slice (some ⟨g, 0, none⟩) (m + 1) cap) := by rw [cell_of_row w c 0 _ 74 (0, 0) hc]; rfl
  obtain ⟨Z, hZ, hz⟩ := zero77
  have hcl := heap_lt hc
  have hsz := size77 cs.toArray (by rw [List.size_toArray]; exact hl)
  have hszl : (Try.prog.info? 77).map (·.size) = some cs.length := by rw [hl]; kernel_rfl
  have hm0 : ((m : Int) + 1) ≤ 9223372036854775807 := by unfold maxLen at hcap; omega
  have hmc : (m : Int) ≤ (cap : Int) := by omega
  have hone := all_oneCell_toArray h1
  have AFT : ((w.alloc (.cells Z 77)).setRow w.heap.size cs.toArray).heap[w.heap.size]? = some (.cells cs.toArray 77 (0, 0)) ∧ ((w.alloc (.cells Z 77)).setRow w.heap.size cs.toArray).heap[c]? = some (.cells #[.slice (some ⟨g, 0, none⟩) (m + 1) cap] 74 (0, 0)) ∧ Kept w ((w.alloc (.cells Z 77)).setRow w.heap.size cs.toArray) (fun b => b = c) := by
    refine ⟨setRow_heap _ _ Z _ 77 _ (heap_alloc_new _ _), ?_, ?_⟩
    · rw [setRow_other _ _ _ _ (by omega), heap_alloc_old w _ hcl]; exact hc
    · exact (Kept.alloc w _ _).trans (Kept.setRow _ w.heap.size _ (F := fun b => b = w.heap.size) rfl) (fun _ _ h => h) (fun k hk h => by omega)
  go_enter Try.func73, Try.ntmps73
  go_wp2_with (first
    | (refine wpList_load_mid rfl 77 (.tmp 14) rfl g (m * 25) rfl cs _ hr Try.underlying77 rfl hszl ?_)
    | (refine wpList_store_row rfl 77 (.tmp 4) (.tmp 15) rfl w.heap.size cs.toArray rfl rfl 77 Z (heap_alloc_new _ _) hsz ?_ hone ?_; (rw [hZ, List.size_toArray]; exact hl.symm); generalize ((w.alloc (.cells Z 77)).setRow w.heap.size cs.toArray) = W2 at AFT ⊢; obtain ⟨f1, f2, f3⟩ := AFT; have hcell2 : W2.cell? ⟨c, 0, none⟩ = some (.slice (some ⟨g, 0, none⟩) (m + 1) cap) := by (rw [cell_of_row W2 c 0 _ 74 (0, 0) f2]; rfl))
    | (refine wpList_store_one rfl 74 (.tmp 22) (.tmp 21) rfl c rfl rfl 74 _ f2 ?_ ?_; (kernel_rfl))
    | (refine wpList_load_row rfl 77 (.tmp 4) rfl w.heap.size rfl 77 cs.toArray (0, 0) _ ?_ Try.underlying77 rfl hsz ?_; (rw [setRow_other _ _ _ _ (by omega)]; exact f1))
    )
  go_ret
  refine ⟨rfl, setRow_heap _ _ _ _ 74 _ f2, f3.trans (Kept.setRow _ c _ (F := fun b => b = c) rfl) (fun _ _ h => h) (fun _ _ h => h)⟩

theorem wrapnil (ts : Array TypeId) (ty : TypeId) (a : Addr) (s n : ByteArray) (w : World) : (Builtin.ssaWrapNilChk_ ts ty #[.pointer (some a), .string s, .string n]).run Try.prog w = .ok (.pointer (some a)) w := by
  unfold Builtin.ssaWrapNilChk_
  rfl

/-- How a method of the slice is reached through the pointer to it. -/
theorem meth_val (name : String) (f : Nat) (w : World) (c : Nat) (v : Value) (hc : w.cell? ⟨c, 0, none⟩ = some v) (hm : (((Try.prog.info? 73).bind fun i => i.methods.find? (·.name == name)).map fun m => (m.path.size, m.func)) = some (0, some (f, false))) :
    (method 241 73 (.pointer (some ⟨c, 0, none⟩)) name).run Try.prog w = .ok (f, v) w := by
  have hi : ∃ i m, Try.prog.info? 73 = some i ∧ i.methods.find? (·.name == name) = some m ∧ m.path = #[] ∧ m.func = some (f, false) := by
    cases h : Try.prog.info? 73 with
    | none => rw [h] at hm; cases hm
    | some i =>
      rw [h] at hm
      cases h' : i.methods.find? (·.name == name) with
      | none => simp [h'] at hm
      | some m => simp only [Option.bind_some, h', Option.map_some, Option.some.injEq, Prod.mk.injEq] at hm; exact ⟨i, m, rfl, h', Array.eq_empty_of_size_eq_zero hm.1, hm.2⟩
  obtain ⟨i, m, hi, hm', hp, hf⟩ := hi
  unfold method
  simp [typeInfo, hi, hm', hp, hf, follow, receiverAt, Place.get, run_underlying Try.underlying73, run_underlying Try.underlying74, strVal, wrapnil, asAddr, loadVar, isAgg, Result.andThen, hc]

theorem meth_less (w : World) (c : Nat) (v : Value) (hc : w.cell? ⟨c, 0, none⟩ = some v) : (method 241 73 (.pointer (some ⟨c, 0, none⟩)) "Less").run Try.prog w = .ok (72, v) w := meth_val _ _ w c v hc (by kernel_rfl)
theorem meth_len (w : World) (c : Nat) (v : Value) (hc : w.cell? ⟨c, 0, none⟩ = some v) : (method 241 73 (.pointer (some ⟨c, 0, none⟩)) "Len").run Try.prog w = .ok (29, v) w := meth_val _ _ w c v hc (by kernel_rfl)
theorem meth_swap (w : World) (c : Nat) (v : Value) (hc : w.cell? ⟨c, 0, none⟩ = some v) : (method 241 73 (.pointer (some ⟨c, 0, none⟩)) "Swap").run Try.prog w = .ok (75, v) w := meth_val _ _ w c v hc (by kernel_rfl)
theorem meth_push (w : World) (a : Addr) : (method 241 73 (.pointer (some a)) "Push").run Try.prog w = .ok (74, .pointer (some a)) w := by kernel_rfl
theorem meth_pop (w : World) (a : Addr) : (method 241 73 (.pointer (some a)) "Pop").run Try.prog w = .ok (73, .pointer (some a)) w := by kernel_rfl

theorem len_calls (w : World) (a : Option Addr) (n cap : Nat) : Calls Try.prog 29 #[.slice a n cap] w fun r w' => r = .returned (.int .i64 n) ∧ w' = w := by
  go_enter Try.func29, Try.ntmps29
  go_wp2
  go_ret
  exact ⟨rfl, rfl⟩

end Go.Proofs.Ytmbjlondehcheaa
