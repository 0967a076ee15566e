/- TopTalk: part 3 of the walks: of HPairHeap, HPairPush, HPairPop. -/
import Derived.Test.YtmbjlondehcheaaGreatDoorM02
section
set_option linter.unusedSimpArgs false
set_option linter.unusedVariables false
namespace Go.Proofs.YtmbjlondehcheaaGreatDoor
open Go.Shelf Go.RowKit Go.Lib Go.Sort Go.Proofs.YtmbjlondehcheaaGreatDoorW.PrintWords Go.Proofs.YtmbjlondehcheaaGreatDoorW.PrintLast
theorem n_cell {w : World} {g : Nat} {d : Array Ent} (H : HoldsK Ent.cs 25 w g 0 d) {i : Nat} (hi : i < d.size) : w.cell? ⟨g, i * 25, none⟩ = some (.int .i64 (d[i]!).n) := by
  have := (H.cell hi (show 0 < 25 by omega)).1
  rw [Nat.zero_add, Nat.add_zero] at this
  exact this
theorem ent_range {w : World} {g : Nat} {d : Array Ent} (H : HoldsK Ent.cs 25 w g 0 d) {i : Nat} (hi : i < d.size) : w.rangeAt g (i * 25) (d[i]!).cs := by
  intro c v hv
  have := HoldsK.cells H Ent.len hi c v hv
  rw [Addr.add_mid, Nat.zero_add] at this
  exact this
theorem ent_there {w : World} {g : Nat} {d : Array Ent} (H : HoldsK Ent.cs 25 w g 0 d) {i : Nat} (hi : i < d.size) : w.there g (i * 25) 25 := by
  intro c hc
  have := H.cell hi hc
  rw [Nat.zero_add] at this
  rw [this.1, this.2]
  exact ⟨rfl, rfl⟩
theorem less_calls (w : World) (g : Nat) (d : Array Ent) (cap i j : Nat) (hi : i < d.size) (hj : j < d.size) (H : HoldsK Ent.cs 25 w g 0 d) :
    Calls Tryz.prog 247 #[.slice (some ⟨g, 0, none⟩) d.size cap, .int .i64 i, .int .i64 j] w fun e w' => e = .returned (.bool (yg d[j]! d[i]!)) ∧ ∃ q, w' = w.drewN q := by
  have ci := n_cell H hi
  have cj := n_cell H hj
  have hiz : (i : Int) < (d.size : Int) := by omega
  have hjz : (j : Int) < (d.size : Int) := by omega
  clear H
  obtain ⟨x, hx⟩ : ∃ x, x = (d[i]!).n := ⟨_, rfl⟩
  obtain ⟨y, hy⟩ : ∃ x, x = (d[j]!).n := ⟨_, rfl⟩
  show Calls _ _ _ _ fun e w' => e = .returned (.bool (decide ((d[i]!).n < (d[j]!).n))) ∧ _
  rw [← hx, ← hy]
  rw [← hx] at ci
  rw [← hy] at cj
  clear hx hy
  go_enter Tryz.func247, Tryz.ntmps247
  go_wp2_with fail
  go_quiet (fail)
  all_goals go_wp2
  all_goals go_ret
  all_goals exact ⟨rfl, _, rfl⟩
set_option maxRecDepth 100000 in
theorem swap_calls (w : World) (g : Nat) (d : Array Ent) (cap i j : Nat) (hi : i < d.size) (hj : j < d.size) (H : HoldsK Ent.cs 25 w g 0 d) (hg : g < w.heap.size) :
    Calls Tryz.prog 250 #[.slice (some ⟨g, 0, none⟩) d.size cap, .int .i64 i, .int .i64 j] w fun e w' => e = .returned (.tuple #[]) ∧ SWK Ent.cs 25 w g 0 (swp d i j) w' := by
  have S : SWK Ent.cs 25 w g 0 d w := SWK.start H
  have R : RowK Ent.cs 25 w g 0 d := ⟨Ent.len, Ent.one, H, hg⟩
  have hiz : (i : Int) < (d.size : Int) := by omega
  have hjz : (j : Int) < (d.size : Int) := by omega
  have e3 := S.swapped R i j hi hj
  simp only [Nat.zero_add] at e3
  have HD : HoldsK Ent.cs 25 w.drew g 0 d := H
  have rX := ent_range HD hi
  have rY := ent_range HD hj
  have tI := ent_there HD hi
  have tJ' := ent_there HD hj
  have cXl : (d[i]!).cs.length = 25 := rfl
  have cYl : (d[j]!).cs.length = 25 := rfl
  have cXo := (d[i]!).one
  have cYo := (d[j]!).one
  generalize (d[i]!).cs = cX at e3 rX cXl cXo
  generalize (d[j]!).cs = cY at e3 rY cYl cYo
  have tJ : ∀ n, n = 25 → (w.drew.setCells g (i * 25) cY).there g (j * 25) n := fun n hn => by subst hn; exact World.there_setCells tJ' _ _ _
  replace tI : w.drew.there g (i * 25) cY.toArray.size := by rw [List.size_toArray, cYl]; exact tI
  replace tJ : (w.drew.setCells g (i * 25) cY).there g (j * 25) cX.toArray.size := tJ _ (by rw [List.size_toArray, cXl])
  clear S R H HD tJ'
  have E3 : Aside0 (SWK Ent.cs 25 w g 0 (swp d i j) ((w.drew.setCells g (i * 25) cY).setCells g (j * 25) cX)) := ⟨e3⟩
  clear e3
  go_enter Tryz.func250, Tryz.ntmps250
  go_wp2_with fail
  refine start_ (n := 16) (S := fun w' => w' = w.drew) (ds := [13, 15]) #[false, false, false, false, false, false, false, false, false, false, false, false, false, false, false, false] (by kernel_rfl) rfl rfl rfl (fun hHeld => ?_)
  clear hHeld
  refine pure_ (i := 0) (N := some 6) (v := ?_) (a' := ?_) #[true, false, false, false, false, false, false, false, false, false, false, false, false, false, false, false] rfl rfl (by kernel_rfl) (fun _ _ _ h => h) (Or.inl ⟨by rfl, ?_⟩) ?_ ?_
  rotate_left
  · intro w'
    go_simp
    with_reducible rfl
  rotate_left
  · simp only [Act.put, List.setIfInBounds_toArray, List.set_cons_zero, List.set_cons_succ]; rfl
  refine pure_ (i := 1) (N := some 7) (v := ?_) (a' := ?_) #[true, true, false, false, false, false, false, false, false, false, false, false, false, false, false, false] rfl rfl (by kernel_rfl) (fun _ _ _ h => h) (Or.inl ⟨by rfl, ?_⟩) ?_ ?_
  rotate_left
  · intro w'
    go_simp
    with_reducible rfl
  rotate_left
  · simp only [Act.put, List.setIfInBounds_toArray, List.set_cons_zero, List.set_cons_succ]; rfl
  refine pure_ (i := 2) (N := some 8) (v := ?_) (a' := ?_) #[true, true, true, false, false, false, false, false, false, false, false, false, false, false, false, false] rfl rfl (by kernel_rfl) (fun _ _ _ h => h) (Or.inl ⟨by rfl, ?_⟩) ?_ ?_
  rotate_left
  · intro w'
    go_simp
    with_reducible rfl
  rotate_left
  · simp only [Act.put, List.setIfInBounds_toArray, List.set_cons_zero, List.set_cons_succ]; rfl
  refine pure_ (i := 3) (N := some 9) (v := ?_) (a' := ?_) #[true, true, true, true, false, false, false, false, false, false, false, false, false, false, false, false] rfl rfl (by kernel_rfl) (fun _ _ _ h => h) (Or.inl ⟨by rfl, ?_⟩) ?_ ?_
  rotate_left
  · intro w'
    go_simp
    with_reducible rfl
  rotate_left
  · simp only [Act.put, List.setIfInBounds_toArray, List.set_cons_zero, List.set_cons_succ]; rfl
  refine pure_ (i := 4) (N := some 10) (v := ?_) (a' := ?_) #[true, true, true, true, true, false, false, false, false, false, false, false, false, false, false, false] rfl rfl (by kernel_rfl) (fun _ _ _ h => h) (Or.inl ⟨by rfl, ?_⟩) ?_ ?_
  rotate_left
  · intro w'
    go_simp
    with_reducible rfl
  rotate_left
  · simp only [Act.put, List.setIfInBounds_toArray, List.set_cons_zero, List.set_cons_succ]; rfl
  refine pure_ (i := 5) (N := some 11) (v := ?_) (a' := ?_) #[true, true, true, true, true, true, false, false, false, false, false, false, false, false, false, false] rfl rfl (by kernel_rfl) (fun _ _ _ h => h) (Or.inl ⟨by rfl, ?_⟩) ?_ ?_
  rotate_left
  · intro w'
    go_simp
    with_reducible rfl
  rotate_left
  · simp only [Act.put, List.setIfInBounds_toArray, List.set_cons_zero, List.set_cons_succ]; rfl
  refine pure_ (i := 6) (N := some 12) (v := ?_) (a' := ?_) #[true, true, true, true, true, true, true, false, false, false, false, false, false, false, false, false] rfl rfl (by kernel_rfl) (fun _ _ _ h => h) (Or.inl ⟨by rfl, ?_⟩) ?_ ?_
  rotate_left
  · intro w'
    go_simp
    with_reducible rfl
  rotate_left
  · simp only [Act.put, List.setIfInBounds_toArray, List.set_cons_zero, List.set_cons_succ]; rfl
  refine take_ (i := 7) (N := some 13) (v := .agg cY.toArray) (a' := ?_) #[true, true, true, true, true, true, true, true, false, false, false, false, false, false, false, false] rfl rfl (by kernel_rfl) (fun _ _ _ h => h) (yieldsIf_load_mid (by kernel_rfl) 131 (.tmp 12) rfl g (j * 25) rfl cY _ (fun w' hS => by rw [hS]; exact rY) Tryz.underlying131 rfl (by rw [cYl]; kernel_rfl)) rfl ?_ ?_
  rotate_left
  · simp only [Act.put, List.setIfInBounds_toArray, List.set_cons_zero, List.set_cons_succ]; rfl
  refine pure_ (i := 8) (N := some 14) (v := ?_) (a' := ?_) #[true, true, true, true, true, true, true, true, true, false, false, false, false, false, false, false] rfl rfl (by kernel_rfl) (fun _ _ _ h => h) (Or.inl ⟨by rfl, ?_⟩) ?_ ?_
  rotate_left
  · intro w'
    go_simp
    with_reducible rfl
  rotate_left
  · simp only [Act.put, List.setIfInBounds_toArray, List.set_cons_zero, List.set_cons_succ]; rfl
  refine pure_ (i := 9) (N := some 15) (v := ?_) (a' := ?_) #[true, true, true, true, true, true, true, true, true, true, false, false, false, false, false, false] rfl rfl (by kernel_rfl) (fun _ _ _ h => h) (Or.inl ⟨by rfl, ?_⟩) ?_ ?_
  rotate_left
  · intro w'
    go_simp
    with_reducible rfl
  rotate_left
  · simp only [Act.put, List.setIfInBounds_toArray, List.set_cons_zero, List.set_cons_succ]; rfl
  refine pure_ (i := 10) (N := some 16) (v := ?_) (a' := ?_) #[true, true, true, true, true, true, true, true, true, true, true, false, false, false, false, false] rfl rfl (by kernel_rfl) (fun _ _ _ h => h) (Or.inl ⟨by rfl, ?_⟩) ?_ ?_
  rotate_left
  · intro w'
    go_simp
    with_reducible rfl
  rotate_left
  · simp only [Act.put, List.setIfInBounds_toArray, List.set_cons_zero, List.set_cons_succ]; rfl
  refine take_ (i := 11) (N := some 17) (v := .agg cX.toArray) (a' := ?_) #[true, true, true, true, true, true, true, true, true, true, true, true, false, false, false, false] rfl rfl (by kernel_rfl) (fun _ _ _ h => h) (yieldsIf_load_mid (by kernel_rfl) 131 (.tmp 16) rfl g (i * 25) rfl cX _ (fun w' hS => by rw [hS]; exact rX) Tryz.underlying131 rfl (by rw [cXl]; kernel_rfl)) rfl ?_ ?_
  rotate_left
  · simp only [Act.put, List.setIfInBounds_toArray, List.set_cons_zero, List.set_cons_succ]; rfl
  refine pure_ (i := 12) (N := some 18) (v := ?_) (a' := ?_) #[true, true, true, true, true, true, true, true, true, true, true, true, true, false, false, false] rfl rfl (by kernel_rfl) (fun _ _ _ h => h) (Or.inl ⟨by rfl, ?_⟩) ?_ ?_
  rotate_left
  · intro w'
    go_simp
    with_reducible rfl
  rotate_left
  · simp only [Act.put, List.setIfInBounds_toArray, List.set_cons_zero, List.set_cons_succ]; rfl
  refine last_ (i := 13) (N := none) #[true, true, true, true, true, true, true, true, true, true, true, true, true, true, false, false] rfl rfl (by kernel_rfl) (by decide) (fun K hK => ?_)
  rw [if_pos (by kernel_rfl)]
  refine wp_store_mid 131 (.tmp 18) (.tmp 13) rfl g (i * 25) cY.toArray rfl rfl tI (by rw [List.size_toArray, cYl]; kernel_rfl) (all_oneCell_toArray cYo) (hK.out _ _ ?_)
  clear hK K
  refine norm_ (a' := ?_) ?_ ?_
  rotate_left
  · simp only [Act.put]; rfl
  refine pure_ (i := 14) (N := some 19) (v := ?_) (a' := ?_) #[true, true, true, true, true, true, true, true, true, true, true, true, true, true, true, false] rfl rfl (by kernel_rfl) (fun _ _ _ h => h) (Or.inl ⟨by rfl, ?_⟩) ?_ ?_
  rotate_left
  · intro w'
    go_simp
    with_reducible rfl
  rotate_left
  · simp only [Act.put, List.setIfInBounds_toArray, List.set_cons_zero, List.set_cons_succ]; rfl
  refine last_ (i := 15) (N := none) #[true, true, true, true, true, true, true, true, true, true, true, true, true, true, true, true] rfl rfl (by kernel_rfl) (by decide) (fun K hK => ?_)
  rw [if_pos (by kernel_rfl)]
  refine wp_store_mid 131 (.tmp 19) (.tmp 17) rfl g (j * 25) cX.toArray rfl rfl tJ (by rw [List.size_toArray, cXl]; kernel_rfl) (all_oneCell_toArray cXo) (hK.out _ _ ?_)
  clear hK K
  refine norm_ (a' := ?_) ?_ ?_
  rotate_left
  · simp only [Act.put]; rfl
  refine done_ (by kernel_rfl) ?_
  go_end0
  exact ⟨rfl, E3.out⟩
theorem ta77 (x : Value) (w : World) : (Instr.typeAssert (.iface 131 x) 20 131 false).run Tryz.prog w = .ok x w := by kernel_rfl
set_option maxRecDepth 100000 in
theorem push_calls (w : World) (c : Nat) (v : Value) (n : Nat) (xs : List Value) (e : Ent) (hc : w.heap[c]? = some (.cells #[v] 128 (0, 0))) (ho : w.ownsRow 0 131 25 v n xs) (hvc : v.ownBlock ≠ some c) (hn : n < 1000000) :
    Calls Tryz.prog 249 #[.pointer (some ⟨c, 0, none⟩), .iface 131 (.agg e.cs.toArray)] w fun r w' => r = .returned (.tuple #[]) ∧ ∃ v', w'.heap[c]? = some (.cells #[v'] 128 (0, 0)) ∧
      w'.ownsRow 0 131 25 v' (n + 1) (xs ++ e.cs) ∧ v'.ownBlock ≠ some c ∧ (v'.ownBlock = v.ownBlock ∨ ∃ b, v'.ownBlock = some b ∧ w.heap.size ≤ b) ∧ Kept w w' (fun b => b = c ∨ some b = v.ownBlock) := by
  have hcell : w.cell? ⟨c, 0, none⟩ = some v := by rw [cell_of_row w c 0 _ 128 (0, 0) hc]; rfl
  have ho1 := World.ownsRow.alloc (w := w.drew) ho (.cells e.cs.toArray 131)
  have AP := fun ty => app_ent (w.drew.alloc (.cells e.cs.toArray 131)) ty v n xs e ho1 w.drew.heap.size (heap_alloc_new _ _) hn
  have hcl := heap_lt hc
  have POST : ∀ v' w1, w1.ownsRow 0 131 25 v' (n + 1) (xs ++ e.cs) → (w.drew.alloc (.cells e.cs.toArray 131)).grownBy w1 v.ownBlock → (v'.ownBlock = v.ownBlock ∨ v'.ownBlock = some (w.drew.alloc (.cells e.cs.toArray 131)).heap.size) →
      w1.heap[c]? = some (.cells #[v] 128 (0, 0)) ∧ v'.ownBlock ≠ some c ∧ (v'.ownBlock = v.ownBlock ∨ ∃ b, v'.ownBlock = some b ∧ w.heap.size ≤ b) ∧ Kept w (w1.setRow c #[v']) (fun b => b = c ∨ some b = v.ownBlock) := by
    intro v' w1 _ hg hat
    have k1 : Kept w w1 (fun b => b = c ∨ some b = v.ownBlock) :=
      ((Kept.drew w _).trans (Kept.alloc w.drew _ _) (fun _ _ h => h) (fun _ _ h => h)).trans (Kept.grown hg (F := fun b => some b = v.ownBlock) (fun k h => h)) (fun _ _ h => h) (fun _ _ h => .inr h)
    have hsz : (w.drew.alloc (.cells e.cs.toArray 131)).heap.size = w.heap.size + 1 := by simp
    refine ⟨?_, ?_, ?_, ?_⟩
    · rw [hg.block c (by rw [hsz]; omega) (fun h => hvc h.symm)]
      rw [heap_alloc_old w.drew _ hcl]; exact hc
    · rcases hat with h | h
      · rw [h]; exact hvc
      · rw [h, hsz]; intro h'; injection h'; omega
    · rcases hat with h | h
      · exact .inl h
      · exact .inr ⟨_, h, by rw [hsz]; omega⟩
    · exact k1.trans (Kept.setRow w1 c #[v'] (F := fun b => b = c ∨ some b = v.ownBlock) (.inl rfl)) (fun _ _ h => h) (fun _ _ h => h)
  have hcell1 : (w.drew.alloc (.cells e.cs.toArray 131)).cell? ⟨c, 0, none⟩ = some v := by rw [cell_of_row _ c 0 _ 128 (0, 0) (by rw [heap_alloc_old w.drew _ hcl]; exact hc)]; rfl
  have hta := fun w => ta77 (.agg e.cs.toArray) w
  go_enter Tryz.func249, Tryz.ntmps249
  go_wp2_with fail
  refine start_ (n := 10) (S := fun w' => w'.cell? ⟨c, 0, none⟩ = some v) (ds := [7, 9]) #[false, false, false, false, false, false, false, false, false, false] (by kernel_rfl) rfl rfl hcell (fun hHeld => ?_)
  clear hHeld
  refine pure_ (i := 0) (N := (some 4)) (v := ?_) (a' := ?_) #[true, false, false, false, false, false, false, false, false, false] rfl rfl (by kernel_rfl) (fun _ _ _ h => h) (Or.inl ⟨by rfl, ?_⟩) ?_ ?_
  rotate_left
  · intro w'
    go_simp
    with_reducible rfl
  rotate_left
  · (try simp only [Act.put, List.setIfInBounds_toArray, List.set_cons_zero, List.set_cons_succ]); rfl
  refine pure_ (i := 1) (N := (some 5)) (v := ?_) (a' := ?_) #[true, true, false, false, false, false, false, false, false, false] rfl rfl (by kernel_rfl) (fun _ _ _ h => h) (Or.inl ⟨by rfl, ?_⟩) ?_ ?_
  rotate_left
  · intro w'
    go_simp
    with_reducible rfl
  rotate_left
  · (try simp only [Act.put, List.setIfInBounds_toArray, List.set_cons_zero, List.set_cons_succ]); rfl
  refine pure_ (i := 2) (N := (some 6)) (v := ?_) (a' := ?_) #[true, true, true, false, false, false, false, false, false, false] rfl rfl (by kernel_rfl) (fun _ _ _ h => h) (Or.inl ⟨by rfl, ?_⟩) ?_ ?_
  rotate_left
  · intro w'
    go_simp
    with_reducible rfl
  rotate_left
  · (try simp only [Act.put, List.setIfInBounds_toArray, List.set_cons_zero, List.set_cons_succ]); rfl
  refine take_ (i := 3) (N := (some 7)) (v := ?_) (a' := ?_) #[true, true, true, true, false, false, false, false, false, false] rfl rfl (by kernel_rfl) (fun _ _ _ h => h) (Or.inl ⟨by rfl, ?_⟩) hcell ?_ ?_
  rotate_left
  · intro w' hS
    have hcS : w'.cell? ⟨c, 0, none⟩ = some v := hS
    go_simp
    with_reducible rfl
  rotate_left
  · (try simp only [Act.put, List.setIfInBounds_toArray, List.set_cons_zero, List.set_cons_succ]); rfl
  refine pure_ (i := 4) (N := (some 8)) (v := ?_) (a' := ?_) #[true, true, true, true, true, false, false, false, false, false] rfl rfl (by kernel_rfl) (fun _ _ _ h => h) (Or.inl ⟨by rfl, ?_⟩) ?_ ?_
  rotate_left
  · intro w'
    go_simp
    with_reducible rfl
  rotate_left
  · (try simp only [Act.put, List.setIfInBounds_toArray, List.set_cons_zero, List.set_cons_succ]); rfl
  refine pure_ (i := 5) (N := (some 9)) (v := ?_) (a' := ?_) #[true, true, true, true, true, true, false, false, false, false] rfl rfl (by kernel_rfl) (fun _ _ _ h => h) (Or.inl ⟨by rfl, ?_⟩) ?_ ?_
  rotate_left
  · intro w'
    go_simp
    with_reducible rfl
  rotate_left
  · (try simp only [Act.put, List.setIfInBounds_toArray, List.set_cons_zero, List.set_cons_succ]); rfl
  refine one_ (i := 6) (N := (some 10)) #[true, true, true, true, true, true, true, false, false, false] rfl rfl (by kernel_rfl) (by decide) (fun K hK => ?_)
  rw [if_pos (by kernel_rfl)]
  refine wp_lit1 128 (.tmp 9) rfl (.agg e.cs.toArray) rfl _ _ (lit_ent _ e) (hK.out _ _ hcell1 (fun hHeld => ?_))
  clear hHeld hK K
  refine norm_ (a' := ?_) ?_ ?_
  rotate_left
  · (try simp only [Act.put, List.setIfInBounds_toArray, List.set_cons_zero, List.set_cons_succ]); rfl
  refine last_ (i := 7) (N := (some 11)) #[true, true, true, true, true, true, true, true, false, false] rfl rfl (by kernel_rfl) (by decide) (fun K hK => ?_)
  rw [if_pos (by kernel_rfl)]
  obtain ⟨v', w1, hr, ho', hg', hat⟩ := AP 128
  refine wp_append (.tmp 7) (.tmp 10) 128 128 rfl v _ rfl rfl v' w1 hr (hK.out _ _ ?_)
  clear hK K
  refine norm_ (a' := ?_) ?_ ?_
  rotate_left
  · (try simp only [Act.put, List.setIfInBounds_toArray, List.set_cons_zero, List.set_cons_succ]); rfl
  refine pure_ (i := 8) (N := (some 12)) (v := ?_) (a' := ?_) #[true, true, true, true, true, true, true, true, true, false] rfl rfl (by kernel_rfl) (fun _ _ _ h => h) (Or.inl ⟨by rfl, ?_⟩) ?_ ?_
  rotate_left
  · intro w'
    go_simp
    with_reducible rfl
  rotate_left
  · (try simp only [Act.put, List.setIfInBounds_toArray, List.set_cons_zero, List.set_cons_succ]); rfl
  refine last_ (i := 9) (N := none) #[true, true, true, true, true, true, true, true, true, true] rfl rfl (by kernel_rfl) (by decide) (fun K hK => ?_)
  rw [if_pos (by kernel_rfl)]
  refine wp_store_one 128 (.tmp 12) (.tmp 11) rfl c v' rfl rfl (owns_one ho') 128 v (POST _ _ ho' hg' hat).1 (by kernel_rfl) (hK.out _ _ ?_)
  clear hK K
  refine norm_ (a' := ?_) ?_ ?_
  rotate_left
  · (try simp only [Act.put, List.setIfInBounds_toArray, List.set_cons_zero, List.set_cons_succ]); rfl
  refine done_ (by kernel_rfl) ?_
  go_end0
  obtain ⟨p1, p2, p3, p4⟩ := POST _ _ ho' hg' hat
  refine ⟨rfl, v', setRow_heap w1 c _ _ 128 _ p1, ?_, p2, p3, p4⟩
  exact (Kept.setRow w1 c #[v'] (F := fun b => b = c) rfl).owns ho' (fun g hg h => p2 (by rw [hg, h]))
theorem zero77 : ∃ Z : Array Value, Z.size = 25 ∧ ∀ w, (zeroValue 131).run Tryz.prog w = .ok (.agg Z) w := by
  have h : ((Tryz.prog.info? 131).bind fun ie => ie.zero.map fun z => (match z with | .agg c => c.size | _ => 0)) = some 25 := by kernel_rfl
  cases hi : Tryz.prog.info? 131 with
  | none => rw [hi] at h; cases h
  | some ie =>
    rw [hi] at h
    cases hz : ie.zero with
    | none => simp [hz] at h
    | some z =>
      simp [hz] at h
      cases z with
      | agg c => exact ⟨c, h, fun w => by simp [zeroValue, typeInfo, hi, hz]⟩
      | _ => simp at h
theorem size77 (cs : Array Value) (h : cs.size = 25) : (Tryz.prog.info? 131).map (·.size) = some cs.size := by rw [h]; kernel_rfl
set_option maxRecDepth 100000 in
theorem pop_calls (w : World) (c g m cap : Nat) (cs : List Value) (hc : w.heap[c]? = some (.cells #[.slice (some ⟨g, 0, none⟩) (m + 1) cap] 128 (0, 0))) (hr : w.rangeAt g (m * 25) cs) (hl : cs.length = 25) (h1 : ∀ v ∈ cs, v.oneCell' = true)
    (hgc : g ≠ c) (hm : m + 1 ≤ cap) (hcap : cap ≤ maxLen) :
    Calls Tryz.prog 248 #[.pointer (some ⟨c, 0, none⟩)] w fun r w' => r = .returned (.iface 131 (.agg cs.toArray)) ∧ w'.heap[c]? = some (.cells #[.slice (some ⟨g, 0, none⟩) m cap] 128 (0, 0)) ∧ Kept w w' (fun b => b = c) := by
  have hcell : w.cell? ⟨c, 0, none⟩ = some (.slice (some ⟨g, 0, none⟩) (m + 1) cap) := by rw [cell_of_row w c 0 _ 128 (0, 0) hc]; rfl
  obtain ⟨Z, hZ, hz⟩ := zero77
  have hcl := heap_lt hc
  have hsz := size77 cs.toArray (by rw [List.size_toArray]; exact hl)
  have hszl : (Tryz.prog.info? 131).map (·.size) = some cs.length := by rw [hl]; kernel_rfl
  have hm0 : ((m : Int) + 1) ≤ 9223372036854775807 := by unfold maxLen at hcap; omega
  have hmc : (m : Int) ≤ (cap : Int) := by omega
  have hone := all_oneCell_toArray h1
  have AFT : ((w.alloc (.cells Z 131)).setRow w.heap.size cs.toArray).heap[w.heap.size]? = some (.cells cs.toArray 131 (0, 0)) ∧ ((w.alloc (.cells Z 131)).setRow w.heap.size cs.toArray).heap[c]? = some (.cells #[.slice (some ⟨g, 0, none⟩) (m + 1) cap] 128 (0, 0)) ∧ Kept w ((w.alloc (.cells Z 131)).setRow w.heap.size cs.toArray) (fun b => b = c) := by
    refine ⟨setRow_heap _ _ Z _ 131 _ (heap_alloc_new _ _), ?_, ?_⟩
    · rw [setRow_other _ _ _ _ (by omega), heap_alloc_old w _ hcl]; exact hc
    · exact (Kept.alloc w _ _).trans (Kept.setRow _ w.heap.size _ (F := fun b => b = w.heap.size) rfl) (fun _ _ h => h) (fun k hk h => by omega)
  go_enter Tryz.func248, Tryz.ntmps248
  go_wp2_with (first
    | (refine wpList_load_mid rfl 131 (.tmp 14) rfl g (m * 25) rfl cs _ hr Tryz.underlying131 rfl hszl ?_)
    | (refine wpList_store_row rfl 131 (.tmp 4) (.tmp 15) rfl w.heap.size cs.toArray rfl rfl 131 Z (heap_alloc_new _ _) hsz ?_ hone ?_; (rw [hZ, List.size_toArray]; exact hl.symm); generalize ((w.alloc (.cells Z 131)).setRow w.heap.size cs.toArray) = W2 at AFT ⊢; obtain ⟨f1, f2, f3⟩ := AFT; have hcell2 : W2.cell? ⟨c, 0, none⟩ = some (.slice (some ⟨g, 0, none⟩) (m + 1) cap) := by (rw [cell_of_row W2 c 0 _ 128 (0, 0) f2]; rfl))
    | (refine wpList_store_one rfl 128 (.tmp 22) (.tmp 21) rfl c rfl rfl 128 _ f2 ?_ ?_; (kernel_rfl))
    | (refine wpList_load_row rfl 131 (.tmp 4) rfl w.heap.size rfl 131 cs.toArray (0, 0) _ ?_ Tryz.underlying131 rfl hsz ?_; (rw [setRow_other _ _ _ _ (by omega)]; exact f1))
    )
  go_ret
  refine ⟨rfl, setRow_heap _ _ _ _ 128 _ f2, f3.trans (Kept.setRow _ c _ (F := fun b => b = c) rfl) (fun _ _ h => h) (fun _ _ h => h)⟩
theorem wrapnil (ts : Array TypeId) (ty : TypeId) (a : Addr) (s n : ByteArray) (w : World) : (Builtin.ssaWrapNilChk_ ts ty #[.pointer (some a), .string s, .string n]).run Tryz.prog w = .ok (.pointer (some a)) w := by
  unfold Builtin.ssaWrapNilChk_
  rfl
theorem meth_val (name : String) (f : Nat) (w : World) (c : Nat) (v : Value) (hc : w.cell? ⟨c, 0, none⟩ = some v) (hm : (((Tryz.prog.info? 127).bind fun i => i.methods.find? (·.name == name)).map fun m => (m.path.size, m.func)) = some (0, some (f, false))) :
    (method 402 127 (.pointer (some ⟨c, 0, none⟩)) name).run Tryz.prog w = .ok (f, v) w := by
  have hi : ∃ i m, Tryz.prog.info? 127 = some i ∧ i.methods.find? (·.name == name) = some m ∧ m.path = #[] ∧ m.func = some (f, false) := by
    cases h : Tryz.prog.info? 127 with
    | none => rw [h] at hm; cases hm
    | some i =>
      rw [h] at hm
      cases h' : i.methods.find? (·.name == name) with
      | none => simp [h'] at hm
      | some m => simp only [Option.bind_some, h', Option.map_some, Option.some.injEq, Prod.mk.injEq] at hm; exact ⟨i, m, rfl, h', Array.eq_empty_of_size_eq_zero hm.1, hm.2⟩
  obtain ⟨i, m, hi, hm', hp, hf⟩ := hi
  unfold method
  simp [typeInfo, hi, hm', hp, hf, follow, receiverAt, Place.get, run_underlying Tryz.underlying127, run_underlying Tryz.underlying128, strVal, wrapnil, asAddr, loadVar, isAgg, Result.andThen, hc]
theorem meth_less (w : World) (c : Nat) (v : Value) (hc : w.cell? ⟨c, 0, none⟩ = some v) : (method 402 127 (.pointer (some ⟨c, 0, none⟩)) "Less").run Tryz.prog w = .ok (247, v) w := meth_val _ _ w c v hc (by kernel_rfl)
theorem meth_len (w : World) (c : Nat) (v : Value) (hc : w.cell? ⟨c, 0, none⟩ = some v) : (method 402 127 (.pointer (some ⟨c, 0, none⟩)) "Len").run Tryz.prog w = .ok (49, v) w := meth_val _ _ w c v hc (by kernel_rfl)
theorem meth_swap (w : World) (c : Nat) (v : Value) (hc : w.cell? ⟨c, 0, none⟩ = some v) : (method 402 127 (.pointer (some ⟨c, 0, none⟩)) "Swap").run Tryz.prog w = .ok (250, v) w := meth_val _ _ w c v hc (by kernel_rfl)
theorem meth_push (w : World) (a : Addr) : (method 402 127 (.pointer (some a)) "Push").run Tryz.prog w = .ok (249, .pointer (some a)) w := by kernel_rfl
theorem meth_pop (w : World) (a : Addr) : (method 402 127 (.pointer (some a)) "Pop").run Tryz.prog w = .ok (248, .pointer (some a)) w := by kernel_rfl
theorem len_calls (w : World) (a : Option Addr) (n cap : Nat) : Calls Tryz.prog 49 #[.slice a n cap] w fun r w' => r = .returned (.int .i64 n) ∧ w' = w := by
  go_enter Tryz.func49, Tryz.ntmps49
  go_wp2
  go_ret
  exact ⟨rfl, rfl⟩
end Go.Proofs.YtmbjlondehcheaaGreatDoor
end
section
set_option linter.unusedSimpArgs false
set_option linter.unusedVariables false
namespace Go.Proofs.YtmbjlondehcheaaGreatDoor
open Go.Shelf Go.RowKit Go.Lib Go.Sort Go.Proofs.YtmbjlondehcheaaGreatDoorW.PrintWords Go.Proofs.YtmbjlondehcheaaGreatDoorW.PrintLast
theorem up_num (k : Nat) (hk : k + 1 < 1000000) : ∃ j : Nat, j = k / 2 ∧ ((k : Int)).tdiv 2 = (j : Int) ∧ ¬ ((j : Int) = (k : Int) + 1) ∧ (j : Int) ≤ 1000000 ∧ (k : Int) ≤ 1000000 ∧ j < k + 1 :=
  ⟨k / 2, rfl, by rw [Int.tdiv_eq_ediv_of_nonneg (by omega)]; omega, by omega, by omega, by omega, by omega⟩
theorem Int.natCast_add_one' (k : Nat) : ((k + 1 : Nat) : Int) = (k : Int) + 1 := by omega
theorem up_calls (w : World) (c g cap m : Nat) (d : Array Ent) (hc : w.heap[c]? = some (.cells #[.slice (some ⟨g, 0, none⟩) d.size cap] 128 (0, 0))) (H : HoldsK Ent.cs 25 w g 0 d) (hd : d.size = m + 1) (hm : m < 1000000)
    (hlast : ∀ i, i < m → (d[i]!).n < (d[m]!).n) :
    Calls Tryz.prog 73 #[.iface 127 (.pointer (some ⟨c, 0, none⟩)), .int .i64 m] w fun r w' => r = .returned (.tuple #[]) ∧ ∃ q, w' = w.drewN q := by
  have hcell : w.cell? ⟨c, 0, none⟩ = some (.slice (some ⟨g, 0, none⟩) d.size cap) := by rw [cell_of_row w c 0 _ 128 (0, 0) hc]; rfl
  have mL := meth_less w c _ hcell
  have eL : ∀ args w, (callFunc 247 args).run Tryz.prog w = .ok (.enter 247 args) w := enters_of Tryz.func247 (by kernel_rfl) rfl
  by_cases h0 : m = 0
  · subst h0
    clear hlast H
    go_enter Tryz.func73, Tryz.ntmps73
    go_wp2
    go_loopg [1] 0 (fun _ s1 wr => s1 = .int .i64 0 ∧ wr = w)
    case atStart => exact ⟨rfl, rfl⟩
    case round =>
      obtain ⟨rfl, rfl⟩ := hrel
      go_wp2
      go_end0
      exact ⟨rfl, 0, rfl⟩
  · obtain ⟨k, rfl⟩ : ∃ k, m = k + 1 := ⟨m - 1, by omega⟩
    obtain ⟨j, -, hk2, hne, hj2, hk3, hjk⟩ := up_num k hm
    have hl := less_calls w g d cap (k + 1) j (by rw [hd]; exact Nat.lt_succ_self _) (by rw [hd]; exact Nat.lt_succ_of_lt hjk) H
    have hq := hlast j hjk
    have hy : yg d[j]! d[k + 1]! = false := by simp only [yg, decide_eq_false_iff_not]; exact Int.not_lt.2 (Int.le_of_lt hq)
    rw [hy, Int.natCast_add_one' k] at hl
    rw [Int.natCast_add_one' k]
    clear hlast H hq hy hjk hd
    go_enter Tryz.func73, Tryz.ntmps73
    go_wp2
    go_loopg [1] 0 (fun _ s1 wr => s1 = .int .i64 ((k : Int) + 1) ∧ wr = w)
    case atStart => exact ⟨rfl, rfl⟩
    case round =>
      obtain ⟨rfl, rfl⟩ := hrel
      go_wp2_with (go_at_fn 247; refine hl.mono ?_; rintro e w' ⟨rfl, q, rfl⟩)
      go_end0
      exact ⟨rfl, q, rfl⟩
def flat (d : Array Ent) : List Value := d.toList.flatMap Ent.cs
theorem flat_len (l : List Ent) : (l.flatMap Ent.cs).length = l.length * 25 := by
  induction l with
  | nil => rfl
  | cons a l ih => rw [List.flatMap_cons, List.length_append, ih, Ent.len, List.length_cons]; omega
theorem flat_at : ∀ (l : List Ent) (t : Nat), t < l.length * 25 → (l.flatMap Ent.cs)[t]? = some ((l[t / 25]!).cs[t % 25]!)
  | [], t, h => by simp at h
  | a :: l, t, h => by
    rw [List.flatMap_cons]
    by_cases h1 : t < 25
    · rw [List.getElem?_append_left (by rw [Ent.len]; exact h1), Nat.div_eq_of_lt h1, Nat.mod_eq_of_lt h1, List.getElem!_cons_zero, List.getElem?_eq_getElem (by rw [Ent.len]; exact h1), getElem!_pos a.cs t (by rw [Ent.len]; exact h1)]
    · obtain ⟨u, rfl⟩ : ∃ u, t = u + 25 := ⟨t - 25, by omega⟩
      rw [List.getElem?_append_right (by rw [Ent.len]; omega), Ent.len, Nat.add_sub_cancel, flat_at l u (by simp at h; omega), Nat.add_div_right u (by omega), Nat.add_mod_right, List.getElem!_cons_succ]
theorem bang (d : Array Ent) (i : Nat) : d.toList[i]! = d[i]! := by
  rw [List.getElem!_eq_getElem?_getD, Array.getElem!_eq_getD]; simp [Array.getD_eq_getD_getElem?]
theorem holds_of_owns {w : World} {g n cap : Nat} {d : Array Ent} (h : w.ownsRow 0 131 25 (.slice (some ⟨g, 0, none⟩) n cap) d.size (flat d)) (h0 : 0 < d.size) : HoldsK Ent.cs 25 w g 0 d ∧ n = d.size ∧ d.size ≤ cap ∧ cap ≤ maxLen := by
  rcases h.2 with ⟨h1, _⟩ | ⟨g', cap', cur, h1, _, hg, hnc, hcm, hcs, htake⟩
  · cases h1
  · injection h1 with h1 h2 h3
    injection h1 with h1
    injection h1 with h1
    subst h1 h2 h3
    refine ⟨fun j hj => ?_, rfl, hnc, hcm⟩
    rw [size_flatK] at hj
    rw [get_flatK _ _ _ _ hj, Nat.zero_add]
    have hf := flat_at d.toList j (by simpa using hj)
    have e1 : (d.toList.flatMap Ent.cs)[j]? = cur[j]? := by
      rw [show d.toList.flatMap Ent.cs = cur.toList.take (d.size * 25) from htake.symm, List.getElem?_take, if_pos hj]
      simp
    rw [e1] at hf
    have hfr : w.frozen? ⟨g, j, none⟩ = false := by simp [World.frozen?, hg]
    refine ⟨?_, hfr⟩
    rw [cell_of_row w g j cur 131 (0, 0) hg, hf, bang]
    rfl
theorem owns_of_holds {w : World} {g n cap : Nat} {d : Array Ent} {cur : Array Value} (hg : w.heap[g]? = some (.cells cur 131 (0, 0))) (hs : cur.size = cap * 25) (hn : d.size ≤ cap) (hcm : cap ≤ maxLen) (H : HoldsK Ent.cs 25 w g 0 d) :
    w.ownsRow 0 131 25 (.slice (some ⟨g, 0, none⟩) d.size cap) d.size (flat d) := by
  have hle : d.size * 25 ≤ cur.size := by rw [hs]; exact Nat.mul_le_mul_right _ hn
  refine ⟨by rw [flat, flat_len]; simp, .inr ⟨g, cap, cur, rfl, Nat.zero_le _, hg, hn, hcm, hs, ?_⟩⟩
  apply List.ext_getElem?
  intro j
  rw [List.getElem?_take]
  split
  · rename_i hj
    have h1 := (H j (by rw [size_flatK]; exact hj)).1
    rw [get_flatK _ _ _ _ hj, Nat.zero_add, cell_of_row w g j cur 131 (0, 0) hg] at h1
    rw [flat, flat_at d.toList j (by simpa using hj), bang]
    rw [← Array.getElem?_toList] at h1
    exact h1
  · rename_i hj
    rw [flat, List.getElem?_eq_none]
    rw [flat_len]; simpa using hj
theorem swk_kept {w W : World} {g : Nat} {d : Array Ent} (h : SWK Ent.cs 25 w g 0 d W) (hg : g < w.heap.size) : Kept w W (fun b => b = g) := by
  obtain ⟨n, os, rfl⟩ := h
  refine ⟨rfl, rfl, rfl, ?_, fun k hk hn => ?_⟩
  · unfold sortWorldK; rw [size_grow]; show w.heap.size ≤ (putRowK Ent.cs 25 (Sort.ahead w n) g 0 d).heap.size + _; unfold putRowK; rw [size_putRow]; exact Nat.le_add_right _ _
  · unfold sortWorldK
    rw [heap_grow_old _ _ (by unfold putRowK; rw [size_putRow]; exact hk)]
    unfold putRowK putRow mapBlock
    simp only [Array.getElem?_modify]
    rw [if_neg (fun e => hn e.symm)]
    rfl
theorem swk_block {w W : World} {g : Nat} {d : Array Ent} (h : SWK Ent.cs 25 w g 0 d W) {cur : Array Value} {e : TypeId} {fr : Nat × Nat} (hg : w.heap[g]? = some (.cells cur e fr)) : ∃ cur', W.heap[g]? = some (.cells cur' e fr) ∧ cur'.size = cur.size := by
  have hgl := heap_lt hg
  obtain ⟨n, os, rfl⟩ := h
  unfold sortWorldK
  rw [heap_grow_old _ _ (by unfold putRowK; rw [size_putRow]; exact hgl)]
  unfold putRowK putRow mapBlock
  simp only [Array.getElem?_modify, if_true]
  have : (Sort.ahead w n).heap[g]? = some (.cells cur e fr) := hg
  rw [this]
  exact ⟨_, rfl, by simp [putCells]⟩
structure AgeOk (w : World) (c : Nat) (v : Value) (d : Array Ent) : Prop where
  at_ : w.heap[c]? = some (.cells #[v] 128 (0, 0))
  row : w.ownsRow 0 131 25 v d.size (flat d)
  apart : v.ownBlock ≠ some c
theorem AgeOk.cell {w : World} {c : Nat} {v : Value} {d : Array Ent} (A : AgeOk w c v d) : w.cell? ⟨c, 0, none⟩ = some v := by rw [cell_of_row w c 0 _ 128 (0, 0) A.at_]; rfl
theorem AgeOk.shape {w : World} {c : Nat} {v : Value} {d : Array Ent} (A : AgeOk w c v d) (h0 : 0 < d.size) :
    ∃ g cap, v = .slice (some ⟨g, 0, none⟩) d.size cap ∧ HoldsK Ent.cs 25 w g 0 d ∧ d.size ≤ cap ∧ cap ≤ maxLen ∧ g ≠ c ∧ v.ownBlock = some g ∧ ∃ cur, w.heap[g]? = some (.cells cur 131 (0, 0)) ∧ cur.size = cap * 25 := by
  rcases A.row.2 with ⟨_, h1⟩ | ⟨g, cap, cur, rfl, _, hg, _, _, hcs, _⟩
  · omega
  · obtain ⟨h1, h2, h3, h4⟩ := holds_of_owns A.row h0
    exact ⟨g, cap, rfl, h1, h3, h4, fun e => A.apart (by rw [e]; rfl), rfl, cur, hg, hcs⟩
theorem AgeOk.kept {w w' : World} {F : Nat → Prop} {c : Nat} {v : Value} {d : Array Ent} (A : AgeOk w c v d) (h : Kept w w' F) (hc : ¬ F c) (hv : ∀ g, v.ownBlock = some g → ¬ F g) : AgeOk w' c v d :=
  ⟨h.heap A.at_ hc, h.owns A.row hv, A.apart⟩
theorem flat_push (d : Array Ent) (x : Ent) : flat (d.push x) = flat d ++ x.cs := by simp [flat, List.flatMap_append]
set_option maxRecDepth 100000 in
theorem hpush_calls (w : World) (c : Nat) (v : Value) (d : Array Ent) (x : Ent) (A : AgeOk w c v d) (hx : ∀ e ∈ d.toList, e.n < x.n) (hn : d.size < 1000) :
    Calls Tryz.prog 57 #[.iface 127 (.pointer (some ⟨c, 0, none⟩)), .iface 131 (.agg x.cs.toArray)] w fun r w' => r = .returned (.tuple #[]) ∧ ∃ v', AgeOk w' c v' (d.push x) ∧
      (v'.ownBlock = v.ownBlock ∨ ∃ b, v'.ownBlock = some b ∧ w.heap.size ≤ b) ∧ Kept w w' (fun b => b = c ∨ some b = v.ownBlock) := by
  have mP := fun w => meth_push w ⟨c, 0, none⟩
  have hp := push_calls w c v d.size (flat d) x A.at_ A.row A.apart (by omega)
  have hps : (d.push x).size = d.size + 1 := by simp
  have AFT : ∀ w' v', w'.heap[c]? = some (.cells #[v'] 128 (0, 0)) → w'.ownsRow 0 131 25 v' (d.size + 1) (flat d ++ x.cs) → v'.ownBlock ≠ some c →
      AgeOk w' c v' (d.push x) ∧ ∃ g cap, v' = .slice (some ⟨g, 0, none⟩) (d.size + 1) cap ∧ (method 402 127 (.pointer (some ⟨c, 0, none⟩)) "Len").run Tryz.prog w' = .ok (49, .slice (some ⟨g, 0, none⟩) (d.size + 1) cap) w' ∧
        Calls Tryz.prog 73 #[.iface 127 (.pointer (some ⟨c, 0, none⟩)), .int .i64 (d.size : Nat)] w' fun r w'' => r = .returned (.tuple #[]) ∧ ∃ q, w'' = w'.drewN q := by
    intro w' v' h1 h2 h3
    have B : AgeOk w' c v' (d.push x) := ⟨h1, by rw [hps, flat_push]; exact h2, h3⟩
    obtain ⟨g, cap, rfl, hH, -, -, -, -, -⟩ := B.shape (by omega)
    refine ⟨B, g, cap, by rw [hps], ?_, ?_⟩
    · have := meth_len w' c _ B.cell
      rw [hps] at this
      exact this
    · refine up_calls w' c g cap d.size (d.push x) h1 hH hps (by omega) (fun i hi => ?_)
      have e1 : (d.push x)[i]! = d[i]! := by rw [getElem!_pos (d.push x) i (by omega), getElem!_pos d i hi, Array.getElem_push_lt hi]
      have e2 : (d.push x)[d.size]! = x := by rw [getElem!_pos (d.push x) d.size (by omega), Array.getElem_push_eq]
      rw [e1, e2]
      exact hx _ (by rw [getElem!_pos d i hi]; simp)
  have hn1 : (d.size : Int) ≤ 1000 := by omega
  clear hps hx A
  generalize d.size = n at hp AFT hn1 ⊢
  go_enter Tryz.func57, Tryz.ntmps57
  go_wp2_with (first
    | (go_at_call 249; refine hp.mono ?_; rintro e w' ⟨rfl, v', h1, h2, h3, h4, h5⟩; clear hp; obtain ⟨B, g, cap, rfl, mLn, hup⟩ := AFT w' v' h1 h2 h3; have hlen := len_calls w' (some ⟨g, 0, none⟩) (n + 1) cap)
    | (go_at_call 49; refine hlen.mono ?_; rintro e w'' ⟨rfl, rfl⟩)
    | (go_at_call 73; refine hup.mono ?_; rintro e w'' ⟨rfl, q, rfl⟩))
  go_end0
  have k := Kept.drewN w'' q (fun _ => False)
  exact ⟨rfl, _, B.kept k (fun h => h) (fun _ _ h => h), h4, h5.trans k (fun _ _ h => h) (fun _ _ h => h.elim)⟩
end Go.Proofs.YtmbjlondehcheaaGreatDoor
end
section
set_option linter.unusedSimpArgs false
set_option linter.unusedVariables false
namespace Go.Proofs.YtmbjlondehcheaaGreatDoor
open Go.Shelf Go.RowKit Go.Lib Go.Sort Go.Proofs.YtmbjlondehcheaaGreatDoorW.PrintWords Go.Proofs.YtmbjlondehcheaaGreatDoorW.PrintLast
theorem swk_next {w0 w W : World} {g : Nat} {d d1 : Array Ent} (h : SWK Ent.cs 25 w0 g 0 d w) (h1 : SWK Ent.cs 25 w g 0 d1 W) (hg : g < w0.heap.size) (hs : d1.size = d.size) : SWK Ent.cs 25 w0 g 0 d1 W := by
  obtain ⟨n, os, rfl⟩ := h1
  exact h.on hg n d1 os hs
structure RetB (r : Ending) : Prop where
  out : ∃ b, r = .returned (.bool b)
set_option maxHeartbeats 1000000 in
set_option maxRecDepth 1000000 in
theorem down_calls (w0 : World) (c g cap n N : Nat) (d : Array Ent) (w : World) (hc : w0.heap[c]? = some (.cells #[.slice (some ⟨g, 0, none⟩) N cap] 128 (0, 0))) (hgc : c ≠ g) (d0 : Array Ent) (H0 : HoldsK Ent.cs 25 w0 g 0 d0) (hd0 : d0.size = N) (hd : d.size = N) (hg : g < w0.heap.size)
    (S : SWK Ent.cs 25 w0 g 0 d w) (hn : n ≤ N) (hsz : N < 1000000) :
    Calls Tryz.prog 58 #[.iface 127 (.pointer (some ⟨c, 0, none⟩)), .int .i64 0, .int .i64 n] w fun r w' => RetB r ∧ Aside (SWK Ent.cs 25 w0 g 0 (siftDown yg n 0 0 d) w') := by
  have eL : ∀ args w, (callFunc 247 args).run Tryz.prog w = .ok (.enter 247 args) w := enters_of Tryz.func247 (by kernel_rfl) rfl
  have eS : ∀ args w, (callFunc 250 args).run Tryz.prog w = .ok (.enter 250 args) w := enters_of Tryz.func250 (by kernel_rfl) rfl
  have CW : Aside0 (∀ W dk, SWK Ent.cs 25 w0 g 0 dk W → W.cell? ⟨c, 0, none⟩ = some (.slice (some ⟨g, 0, none⟩) N cap)) := ⟨fun W dk h => by
    rw [cell_of_row W c 0 _ 128 (0, 0) ((swk_kept h hg).heap hc hgc)]; rfl⟩
  have hholds : ∀ W dk, SWK Ent.cs 25 w0 g 0 dk W → dk.size = N → HoldsK Ent.cs 25 W g 0 dk := fun W dk h hs => h.holds hg H0 (hs.trans hd0.symm)
  have hgW : ∀ W dk, SWK Ent.cs 25 w0 g 0 dk W → g < W.heap.size := fun W dk h => h.lt hg
  have LESS : Aside0 (∀ dk : Array Ent, dk.size = N → ∀ W, Aside (SWK Ent.cs 25 w0 g 0 dk W) → ∀ i j : Nat, i < N → j < N → Calls Tryz.prog 247 #[.slice (some ⟨g, 0, none⟩) N cap, .int .i64 i, .int .i64 j] W fun e W' => e = .returned (.bool (yg dk[j]! dk[i]!)) ∧ Aside (SWK Ent.cs 25 w0 g 0 dk W')) := by
    refine ⟨fun dk hs W h i j hi hj => ?_⟩
    have := less_calls W g dk cap i j (by omega) (by omega) (hholds W dk h.out hs)
    rw [hs] at this
    exact this.mono fun e W' ⟨he, q, hq⟩ => ⟨he, by rw [hq]; exact h.out.drewN q⟩
  have SWAP : Aside0 (∀ dk : Array Ent, dk.size = N → ∀ W, Aside (SWK Ent.cs 25 w0 g 0 dk W) → ∀ i j : Nat, i < N → j < N → Calls Tryz.prog 250 #[.slice (some ⟨g, 0, none⟩) N cap, .int .i64 i, .int .i64 j] W fun e W' => e = .returned (.tuple #[]) ∧ Aside (SWK Ent.cs 25 w0 g 0 (swp dk i j) W')) := by
    refine ⟨fun dk hs W h i j hi hj => ?_⟩
    have := swap_calls W g dk cap i j (by omega) (by omega) (hholds W dk h.out hs) (hgW W dk h.out)
    rw [hs] at this
    exact this.mono fun e W' ⟨he, h1⟩ => ⟨he, swk_next h.out h1 hg (by rw [size_swp])⟩
  have S00 : Aside _ := S
  have HN : Aside0 (d.size = N) := ⟨hd⟩
  clear hholds hgW S H0 hd0 hc hd
  go_enter Tryz.func58, Tryz.ntmps58
  go_wp2
  go_loopg [7] n (fun kx s7 wr => ∃ (root : Nat) (dk : Array Ent), s7 = .int .i64 root ∧ root ≤ n ∧ n - root ≤ kx ∧ dk.size = N ∧ Aside (SWK Ent.cs 25 w0 g 0 dk wr) ∧ Hid (siftDown yg n 0 root dk = siftDown yg n 0 0 d))
  case atStart => exact ⟨0, d, rfl, Nat.zero_le _, Nat.le_refl _, HN.out, S00, rfl⟩
  case round =>
    obtain ⟨root, dk, rfl, hr, hkx, hds, S0, HE⟩ := hrel
    have HL : Aside _ := LESS.out dk hds
    have HS : Aside _ := SWAP.out dk hds
    have mL : ∀ W, Aside (SWK Ent.cs 25 w0 g 0 dk W) → (method 402 127 (.pointer (some ⟨c, 0, none⟩)) "Less").run Tryz.prog W = .ok (247, .slice (some ⟨g, 0, none⟩) N cap) W := fun W h => meth_less W c _ (CW.out W dk h.out)
    have mS : ∀ W, Aside (SWK Ent.cs 25 w0 g 0 dk W) → (method 402 127 (.pointer (some ⟨c, 0, none⟩)) "Swap").run Tryz.prog W = .ok (250, .slice (some ⟨g, 0, none⟩) N cap) W := fun W h => meth_swap W c _ (CW.out W dk h.out)
    have mL0 := mL wr S0
    have mS0 := mS wr S0
    clear LESS SWAP CW S00 HN
    have hr0 : ¬ ((2 * (root : Int) + 1) < 0) := by omega
    have rch : IntKind.i64.wrap (2 * (root : Int)) = 2 * (root : Int) := by rw [IntKind.wrap_i64]; omega
    have rch1 : IntKind.i64.wrap (2 * (root : Int) + 1) = 2 * (root : Int) + 1 := by rw [IntKind.wrap_i64]; omega
    have rch2 : IntKind.i64.wrap (2 * (root : Int) + 1 + 1) = 2 * (root : Int) + 1 + 1 := by rw [IntKind.wrap_i64]; omega
    by_cases h0 : n ≤ 2 * root + 1
    · have h0z : (n : Int) ≤ 2 * (root : Int) + 1 := by omega
      go_wp2
      go_ret
      refine ⟨⟨⟨_, rfl⟩⟩, ?_⟩
      rw [← HE.out, sd_end yg dk h0]
      exact S0
    · have h0z : ¬ ((n : Int) ≤ 2 * (root : Int) + 1) := by omega
      by_cases h1 : 2 * root + 2 < n
      · have h1z : 2 * (root : Int) + 1 + 1 < (n : Int) := by omega
        have hl1 := HL.out wr S0 (2 * root + 2) (2 * root + 1) (by omega) (by omega)
        rw [show ((2 * root + 2 : Nat) : Int) = 2 * (root : Int) + 1 + 1 by omega, show ((2 * root + 1 : Nat) : Int) = 2 * (root : Int) + 1 by omega] at hl1
        cases hL : yg dk[2 * root + 1]! dk[2 * root + 2]! with
        | true =>
          rw [hL] at hl1
          cases hG : yg dk[root]! dk[2 * root + 2]! with
          | true =>
            have hl2 : ∀ W, Aside (SWK Ent.cs 25 w0 g 0 dk W) → Calls Tryz.prog 247 #[.slice (some ⟨g, 0, none⟩) N cap, .int .i64 (2 * (root : Int) + 1 + 1), .int .i64 (root : Int)] W fun e W' => e = .returned (.bool true) ∧ Aside (SWK Ent.cs 25 w0 g 0 dk W') := fun W S => by
              have := HL.out W S (2 * root + 2) root (by omega) (by omega)
              rw [hG, show ((2 * root + 2 : Nat) : Int) = 2 * (root : Int) + 1 + 1 by omega] at this
              exact this
            have hs : ∀ W, Aside (SWK Ent.cs 25 w0 g 0 dk W) → Calls Tryz.prog 250 #[.slice (some ⟨g, 0, none⟩) N cap, .int .i64 (root : Int), .int .i64 (2 * (root : Int) + 1 + 1)] W fun e W' => e = .returned (.tuple #[]) ∧ Aside (SWK Ent.cs 25 w0 g 0 (swp dk root (2 * root + 2)) W') := fun W S => by
              have := HS.out W S root (2 * root + 2) (by omega) (by omega)
              rw [show ((2 * root + 2 : Nat) : Int) = 2 * (root : Int) + 1 + 1 by omega] at this
              exact this
            clear HL HS
            go_wp2_with (first | (go_at_call 247; with_reducible refine hl1.mono ?_; rintro e W1 ⟨rfl, S1⟩; clear hl1; have mL1 := mL W1 S1; have mS1 := mS W1 S1; have hl3 := hl2 W1 S1) | (go_at_call 247; with_reducible refine (hl3).mono ?_; rintro e W2 ⟨rfl, S2⟩; have mS2 := mS W2 S2; have hs3 := hs W2 S2) | (go_at_call 250; with_reducible refine hs3.mono ?_; rintro e W3 ⟨rfl, S3⟩))
            go_roundg (n - (2 * root + 2))
            case measure => omega
            case rel => exact ⟨2 * root + 2, swp dk root (2 * root + 2), by go_num, by omega, Nat.le_refl _, by rw [size_swp]; exact hds, S3, (show Hid _ from by rw [← HE.out, sd_right_go yg dk (F := 0) h1 (by simpa using hL) (by simpa using hG)]; simp only [Nat.zero_add]; exact True.intro)⟩
          | false =>
            have hl2 : ∀ W, Aside (SWK Ent.cs 25 w0 g 0 dk W) → Calls Tryz.prog 247 #[.slice (some ⟨g, 0, none⟩) N cap, .int .i64 (2 * (root : Int) + 1 + 1), .int .i64 (root : Int)] W fun e W' => e = .returned (.bool false) ∧ Aside (SWK Ent.cs 25 w0 g 0 dk W') := fun W S => by
              have := HL.out W S (2 * root + 2) root (by omega) (by omega)
              rw [hG, show ((2 * root + 2 : Nat) : Int) = 2 * (root : Int) + 1 + 1 by omega] at this
              exact this
            have hs : ∀ W, Aside (SWK Ent.cs 25 w0 g 0 dk W) → Calls Tryz.prog 250 #[.slice (some ⟨g, 0, none⟩) N cap, .int .i64 (root : Int), .int .i64 (2 * (root : Int) + 1 + 1)] W fun e W' => e = .returned (.tuple #[]) ∧ Aside (SWK Ent.cs 25 w0 g 0 (swp dk root (2 * root + 2)) W') := fun W S => by
              have := HS.out W S root (2 * root + 2) (by omega) (by omega)
              rw [show ((2 * root + 2 : Nat) : Int) = 2 * (root : Int) + 1 + 1 by omega] at this
              exact this
            clear HL HS
            go_wp2_with (first | (go_at_call 247; with_reducible refine hl1.mono ?_; rintro e W1 ⟨rfl, S1⟩; clear hl1; have mL1 := mL W1 S1; have mS1 := mS W1 S1; have hl3 := hl2 W1 S1) | (go_at_call 247; with_reducible refine (hl3).mono ?_; rintro e W2 ⟨rfl, S2⟩; have mS2 := mS W2 S2; have hs3 := hs W2 S2))
            go_ret
            refine ⟨⟨⟨_, rfl⟩⟩, ?_⟩
            rw [← HE.out, sd_right_stop yg dk (F := 0) h1 (by simpa using hL) (by simpa using hG)]
            exact S2
        | false =>
          rw [hL] at hl1
          cases hG : yg dk[root]! dk[2 * root + 1]! with
          | true =>
            have hl2 : ∀ W, Aside (SWK Ent.cs 25 w0 g 0 dk W) → Calls Tryz.prog 247 #[.slice (some ⟨g, 0, none⟩) N cap, .int .i64 (2 * (root : Int) + 1), .int .i64 (root : Int)] W fun e W' => e = .returned (.bool true) ∧ Aside (SWK Ent.cs 25 w0 g 0 dk W') := fun W S => by
              have := HL.out W S (2 * root + 1) root (by omega) (by omega)
              rw [hG, show ((2 * root + 1 : Nat) : Int) = 2 * (root : Int) + 1 by omega] at this
              exact this
            have hs : ∀ W, Aside (SWK Ent.cs 25 w0 g 0 dk W) → Calls Tryz.prog 250 #[.slice (some ⟨g, 0, none⟩) N cap, .int .i64 (root : Int), .int .i64 (2 * (root : Int) + 1)] W fun e W' => e = .returned (.tuple #[]) ∧ Aside (SWK Ent.cs 25 w0 g 0 (swp dk root (2 * root + 1)) W') := fun W S => by
              have := HS.out W S root (2 * root + 1) (by omega) (by omega)
              rw [show ((2 * root + 1 : Nat) : Int) = 2 * (root : Int) + 1 by omega] at this
              exact this
            clear HL HS
            go_wp2_with (first | (go_at_call 247; with_reducible refine hl1.mono ?_; rintro e W1 ⟨rfl, S1⟩; clear hl1; have mL1 := mL W1 S1; have mS1 := mS W1 S1; have hl3 := hl2 W1 S1) | (go_at_call 247; with_reducible refine (hl3).mono ?_; rintro e W2 ⟨rfl, S2⟩; have mS2 := mS W2 S2; have hs3 := hs W2 S2) | (go_at_call 250; with_reducible refine hs3.mono ?_; rintro e W3 ⟨rfl, S3⟩))
            go_roundg (n - (2 * root + 1))
            case measure => omega
            case rel => exact ⟨2 * root + 1, swp dk root (2 * root + 1), by go_num, by omega, Nat.le_refl _, by rw [size_swp]; exact hds, S3, (show Hid _ from by rw [← HE.out, sd_left_go yg dk (F := 0) (by omega) (fun h => by simpa using hL) (by simpa using hG)]; simp only [Nat.zero_add]; exact True.intro)⟩
          | false =>
            have hl2 : ∀ W, Aside (SWK Ent.cs 25 w0 g 0 dk W) → Calls Tryz.prog 247 #[.slice (some ⟨g, 0, none⟩) N cap, .int .i64 (2 * (root : Int) + 1), .int .i64 (root : Int)] W fun e W' => e = .returned (.bool false) ∧ Aside (SWK Ent.cs 25 w0 g 0 dk W') := fun W S => by
              have := HL.out W S (2 * root + 1) root (by omega) (by omega)
              rw [hG, show ((2 * root + 1 : Nat) : Int) = 2 * (root : Int) + 1 by omega] at this
              exact this
            have hs : ∀ W, Aside (SWK Ent.cs 25 w0 g 0 dk W) → Calls Tryz.prog 250 #[.slice (some ⟨g, 0, none⟩) N cap, .int .i64 (root : Int), .int .i64 (2 * (root : Int) + 1)] W fun e W' => e = .returned (.tuple #[]) ∧ Aside (SWK Ent.cs 25 w0 g 0 (swp dk root (2 * root + 1)) W') := fun W S => by
              have := HS.out W S root (2 * root + 1) (by omega) (by omega)
              rw [show ((2 * root + 1 : Nat) : Int) = 2 * (root : Int) + 1 by omega] at this
              exact this
            clear HL HS
            go_wp2_with (first | (go_at_call 247; with_reducible refine hl1.mono ?_; rintro e W1 ⟨rfl, S1⟩; clear hl1; have mL1 := mL W1 S1; have mS1 := mS W1 S1; have hl3 := hl2 W1 S1) | (go_at_call 247; with_reducible refine (hl3).mono ?_; rintro e W2 ⟨rfl, S2⟩; have mS2 := mS W2 S2; have hs3 := hs W2 S2))
            go_ret
            refine ⟨⟨⟨_, rfl⟩⟩, ?_⟩
            rw [← HE.out, sd_left_stop yg dk (F := 0) (by omega) (fun h => by simpa using hL) (by simpa using hG)]
            exact S2
      · have h1z : ¬ (2 * (root : Int) + 1 + 1 < (n : Int)) := by omega
        cases hG : yg dk[root]! dk[2 * root + 1]! with
        | true =>
          have hl2 : ∀ W, Aside (SWK Ent.cs 25 w0 g 0 dk W) → Calls Tryz.prog 247 #[.slice (some ⟨g, 0, none⟩) N cap, .int .i64 (2 * (root : Int) + 1), .int .i64 (root : Int)] W fun e W' => e = .returned (.bool true) ∧ Aside (SWK Ent.cs 25 w0 g 0 dk W') := fun W S => by
            have := HL.out W S (2 * root + 1) root (by omega) (by omega)
            rw [hG, show ((2 * root + 1 : Nat) : Int) = 2 * (root : Int) + 1 by omega] at this
            exact this
          have hs : ∀ W, Aside (SWK Ent.cs 25 w0 g 0 dk W) → Calls Tryz.prog 250 #[.slice (some ⟨g, 0, none⟩) N cap, .int .i64 (root : Int), .int .i64 (2 * (root : Int) + 1)] W fun e W' => e = .returned (.tuple #[]) ∧ Aside (SWK Ent.cs 25 w0 g 0 (swp dk root (2 * root + 1)) W') := fun W S => by
            have := HS.out W S root (2 * root + 1) (by omega) (by omega)
            rw [show ((2 * root + 1 : Nat) : Int) = 2 * (root : Int) + 1 by omega] at this
            exact this
          clear HL HS
          go_wp2_with (first | (go_at_call 247; with_reducible refine (hl2 wr S0).mono ?_; rintro e W2 ⟨rfl, S2⟩; have mS2 := mS W2 S2; have hs3 := hs W2 S2) | (go_at_call 250; with_reducible refine hs3.mono ?_; rintro e W3 ⟨rfl, S3⟩))
          go_roundg (n - (2 * root + 1))
          case measure => omega
          case rel => exact ⟨2 * root + 1, swp dk root (2 * root + 1), by go_num, by omega, Nat.le_refl _, by rw [size_swp]; exact hds, S3, (show Hid _ from by rw [← HE.out, sd_left_go yg dk (F := 0) (by omega) (fun h => absurd h h1) (by simpa using hG)]; simp only [Nat.zero_add]; exact True.intro)⟩
        | false =>
          have hl2 : ∀ W, Aside (SWK Ent.cs 25 w0 g 0 dk W) → Calls Tryz.prog 247 #[.slice (some ⟨g, 0, none⟩) N cap, .int .i64 (2 * (root : Int) + 1), .int .i64 (root : Int)] W fun e W' => e = .returned (.bool false) ∧ Aside (SWK Ent.cs 25 w0 g 0 dk W') := fun W S => by
            have := HL.out W S (2 * root + 1) root (by omega) (by omega)
            rw [hG, show ((2 * root + 1 : Nat) : Int) = 2 * (root : Int) + 1 by omega] at this
            exact this
          have hs : ∀ W, Aside (SWK Ent.cs 25 w0 g 0 dk W) → Calls Tryz.prog 250 #[.slice (some ⟨g, 0, none⟩) N cap, .int .i64 (root : Int), .int .i64 (2 * (root : Int) + 1)] W fun e W' => e = .returned (.tuple #[]) ∧ Aside (SWK Ent.cs 25 w0 g 0 (swp dk root (2 * root + 1)) W') := fun W S => by
            have := HS.out W S root (2 * root + 1) (by omega) (by omega)
            rw [show ((2 * root + 1 : Nat) : Int) = 2 * (root : Int) + 1 by omega] at this
            exact this
          clear HL HS
          go_wp2_with (first | (go_at_call 247; with_reducible refine (hl2 wr S0).mono ?_; rintro e W2 ⟨rfl, S2⟩; have mS2 := mS W2 S2; have hs3 := hs W2 S2))
          go_ret
          refine ⟨⟨⟨_, rfl⟩⟩, ?_⟩
          rw [← HE.out, sd_left_stop yg dk (F := 0) (by omega) (fun h => absurd h h1) (by simpa using hG)]
          exact S2
theorem flat_take : ∀ (m : Nat) (l : List Ent), (l.flatMap Ent.cs).take (m * 25) = (l.take m).flatMap Ent.cs
  | 0, l => by simp
  | m + 1, [] => by simp
  | m + 1, a :: l => by
    rw [List.flatMap_cons, List.take_succ_cons, List.flatMap_cons, show (m + 1) * 25 = a.cs.length + m * 25 by rw [Ent.len]; omega, List.take_length_add_append, flat_take m l]
theorem owns_cut {w : World} {g m cap : Nat} {d : Array Ent} (h : w.ownsRow 0 131 25 (.slice (some ⟨g, 0, none⟩) (m + 1) cap) (m + 1) (flat d)) (hd : d.size = m + 1) :
    w.ownsRow 0 131 25 (.slice (some ⟨g, 0, none⟩) m cap) (d.extract 0 m).size (flat (d.extract 0 m)) := by
  have hs : (d.extract 0 m).size = m := by simp [hd]
  rw [hs]
  rcases h.2 with ⟨h1, _⟩ | ⟨g', cap', cur, h1, hb, hg, hnc, hcm, hcs, htake⟩
  · cases h1
  · injection h1 with h1 h2 h3
    injection h1 with h1
    injection h1 with h1
    subst h1 h3
    have hf : flat (d.extract 0 m) = (flat d).take (m * 25) := by unfold flat; rw [flat_take]; simp
    refine ⟨by rw [hf, List.length_take, flat, flat_len]; simp [hd], .inr ⟨g, cap, cur, rfl, hb, hg, by omega, hcm, hcs, ?_⟩⟩
    rw [hf, ← htake, List.take_take, Nat.min_eq_left (by omega)]
set_option maxRecDepth 1000000 in
theorem hpop_calls (w : World) (c : Nat) (v : Value) (d : Array Ent) (m : Nat) (A : AgeOk w c v d) (hp : Hp d) (hm : d.size = m + 1) (hn : m < 1000) :
    Calls Tryz.prog 50 #[.iface 127 (.pointer (some ⟨c, 0, none⟩))] w fun r w' => r = .returned (.iface 131 (.agg (d[0]!).cs.toArray)) ∧ ∃ v', AgeOk w' c v' ((siftDown yg m 0 0 (swp d 0 m)).extract 0 m) ∧ v'.ownBlock = v.ownBlock ∧
      Kept w w' (fun b => b = c ∨ some b = v.ownBlock) := by
  obtain ⟨g, cap, rfl, H, hdc, hcm, hgc, -, cur, hg, hcs⟩ := A.shape (by omega)
  have hgl := heap_lt hg
  have hac := A.at_
  rw [hm] at hac
  obtain ⟨q1, q2, -, -⟩ := hp.pop hm
  have mLn := meth_len w c _ A.cell
  have mSw := meth_swap w c _ A.cell
  have mPp := fun W => meth_pop W ⟨c, 0, none⟩
  rw [hm] at mLn mSw
  have hlen := len_calls w (some ⟨g, 0, none⟩) (m + 1) cap
  have hsw := swap_calls w g d cap 0 m (by omega) (by omega) H hgl
  rw [hm, show ((0 : Nat) : Int) = 0 from rfl] at hsw
  have hdown : ∀ W, SWK Ent.cs 25 w g 0 (swp d 0 m) W → Calls Tryz.prog 58 #[.iface 127 (.pointer (some ⟨c, 0, none⟩)), .int .i64 0, .int .i64 m] W fun r w' => RetB r ∧ Aside (SWK Ent.cs 25 w g 0 (siftDown yg m 0 0 (swp d 0 m)) w') :=
    fun W S => down_calls w c g cap m (m + 1) (swp d 0 m) W hac hgc.symm d H hm (by rw [size_swp]; exact hm) hgl S (by omega) (by omega)
  have hpop : ∀ W, Aside (SWK Ent.cs 25 w g 0 (siftDown yg m 0 0 (swp d 0 m)) W) → Calls Tryz.prog 248 #[.pointer (some ⟨c, 0, none⟩)] W fun r w' => r = .returned (.iface 131 (.agg (d[0]!).cs.toArray)) ∧ AgeOk w' c (.slice (some ⟨g, 0, none⟩) m cap) ((siftDown yg m 0 0 (swp d 0 m)).extract 0 m) ∧ Kept w w' (fun b => b = c ∨ some b = some g) := by
    intro W S
    have k1 := swk_kept S.out hgl
    obtain ⟨cur', hg', hcs'⟩ := swk_block S.out hg
    have HW := S.out.holds hgl H (q1.trans hm.symm)
    have hr := ent_range HW (i := m) (by omega)
    rw [q2] at hr
    refine (pop_calls W c g m cap (d[0]!).cs (k1.heap hac (fun e => hgc e.symm)) hr (Ent.len _) (Ent.one _) hgc (by omega) hcm).mono fun r w' ⟨he, h1, h2⟩ => ⟨he, ?_, (k1.trans h2 (fun _ _ h => .inr (by rw [h])) (fun _ _ h => .inl h))⟩
    refine ⟨h1, ?_, by simp [Value.ownBlock]; exact hgc⟩
    have ho := owns_of_holds (n := m + 1) hg' (by rw [hcs', hcs]) (by omega) hcm HW
    rw [q1] at ho
    exact owns_cut (h2.owns ho (fun g' e h => by simp [Value.ownBlock] at e; omega)) q1
  have hm1 : (m : Int) ≤ 1000 := by omega
  have hob : (Value.slice (some ⟨g, 0, none⟩) d.size cap).ownBlock = some g := rfl
  rw [hob]
  clear A H hp hac q1 q2 hob hm
  generalize ((siftDown yg m 0 0 (swp d 0 m)).extract 0 m) = dE at hpop ⊢
  generalize siftDown yg m 0 0 (swp d 0 m) = d2 at hdown hpop ⊢
  go_enter Tryz.func50, Tryz.ntmps50
  go_wp2_with (first
    | (go_at_call 49; with_reducible refine hlen.mono ?_; rintro e w'' ⟨rfl, rfl⟩)
    | (go_at_call 250; with_reducible refine hsw.mono ?_; rintro e W1 ⟨rfl, S1⟩; have hdn := hdown W1 S1)
    | (go_at_call 58; with_reducible refine hdn.mono ?_; rintro e W2 ⟨⟨b, rfl⟩, S2⟩; have hpp := hpop W2 S2)
    | (go_at_call 248; with_reducible refine hpp.mono ?_; rintro e W3 ⟨rfl, B, k3⟩))
  go_ret
  exact ⟨rfl, _, B, rfl, k3⟩
end Go.Proofs.YtmbjlondehcheaaGreatDoor
end
