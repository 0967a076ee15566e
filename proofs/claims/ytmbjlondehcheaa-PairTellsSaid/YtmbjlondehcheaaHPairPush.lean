/- The heap of open requests: container/heap Push and Pop over it: what lies in memory holds the heap with one more, or without its oldest. -/
import Derived.Test.YtmbjlondehcheaaProg
import Derived.Below
import Derived.OneCell
import Derived.WalkKit
import Derived.KernelRfl
import Derived.RowKit3
import Derived.Deep.LoopGhost
import Derived.Deep.QuietTactic
import Derived.BigQuiet
import Derived.Deep.DeepCutAuto
import Derived.Deep.CutBlock
import Derived.Deep.RegionWith
import Derived.OwnWalk
import Derived.Laws.Tables
import Derived.Laws.AppendOwn
import Derived.Shelf.SlSortCmp.KitK
import Derived.Shelf.RegionOpenPlain
import Derived.Sort.WalkB2
import Derived.Deep.MidRow
import Derived.Great.Walk
import Derived.Test.YtmbjlondehcheaaWWords
import Derived.Test.YtmbjlondehcheaaWLast
import Derived.Test.YtmbjlondehcheaaHPairHeap
set_option linter.unusedSimpArgs false
set_option linter.unusedVariables false
namespace Go.Proofs.Ytmbjlondehcheaa
open Go.Shelf Go.RowKit Go.Lib Go.Sort Go.Proofs.YtmbjlondehcheaaW.PrintWords Go.Proofs.YtmbjlondehcheaaW.PrintLast

theorem up_num (k : Nat) (hk : k + 1 < 1000000) : ∃ j : Nat, j = k / 2 ∧ ((k : Int)).tdiv 2 = (j : Int) ∧ ¬ ((j : Int) = (k : Int) + 1) ∧ (j : Int) ≤ 1000000 ∧ (k : Int) ≤ 1000000 ∧ j < k + 1 :=
  ⟨k / 2, rfl, by rw [Int.tdiv_eq_ediv_of_nonneg (by omega)]; omega, by omega, by omega, by omega, by omega⟩

theorem Int.natCast_add_one' (k : Nat) : ((k + 1 : Nat) : Int) = (k : Int) + 1 := by omega

theorem up_calls (w : World) (c g cap m : Nat) (d : Array Ent) (hc : w.heap[c]? = some (.cells #[.slice (some ⟨g, 0, none⟩) d.size cap] 74 (0, 0))) (H : HoldsK Ent.cs 25 w g 0 d) (hd : d.size = m + 1) (hm : m < 1000000)
    (hlast : ∀ i, i < m → (d[i]!).n < (d[m]!).n) :
    Calls Try.prog 49 #[.iface 73 (.pointer (some ⟨c, 0, none⟩)), .int .i64 m] w fun r w' => r = .returned (.tuple #[]) ∧ ∃ q, w' = w.drewN q := by
  have hcell : w.cell? ⟨c, 0, none⟩ = some (.slice (some ⟨g, 0, none⟩) d.size cap) := by rw [cell_of_row w c 0 _ 74 (0, 0) hc]; rfl
  have mL := meth_less w c _ hcell
  have eL : ∀ args w, (callFunc 72 args).run Try.prog w = .ok (.enter 72 args) w := enters_of Try.func72 (by kernel_rfl) rfl
  by_cases h0 : m = 0
  · subst h0
    clear hlast H
    go_enter Try.func49, Try.ntmps49
    go_wp2
    go_loopg [1] 0 (fun _ s1 wr => s1 = .int .i64 0 ∧ wr = w)
    case atStart => exact ⟨rfl, rfl⟩
    case round =>
      obtain ⟨rfl, rfl⟩ := hrel
      go_wp2
      go_end0
      exact ⟨rfl, 0, rfl⟩
  · obtain ⟨k, rfl⟩ : ∃ k, m = k + 1 := ⟨m - 1, by omega⟩
    obtain ⟨j, -, hk2, hne, hj2, hk3, hjk⟩ := up_num k hm
    have hl := less_calls w g d cap (k + 1) j (by rw [hd]; exact Nat.lt_succ_self _) (by rw [hd]; exact Nat.lt_succ_of_lt hjk) H
    have hq := hlast j hjk
    have hy : yg d[j]! d[k + 1]! = false := by simp only [yg, decide_eq_false_iff_not]; exact Int.not_lt.2 (Int.le_of_lt hq)
    rw [hy, Int.natCast_add_one' k] at hl
    rw [Int.natCast_add_one' k]
    clear hlast H hq hy hjk hd
    go_enter Try.func49, Try.ntmps49
    go_wp2
    go_loopg [1] 0 (fun _ s1 wr => s1 = .int .i64 ((k : Int) + 1) ∧ wr = w)
    case atStart => exact ⟨rfl, rfl⟩
    case round =>
      obtain ⟨rfl, rfl⟩ := hrel
      go_wp2_with (go_at_fn 72; refine hl.mono ?_; rintro e w' ⟨rfl, q, rfl⟩)

      go_end0
      exact ⟨rfl, q, rfl⟩

/-- The cells of requests, one behind another. -/
def flat (d : Array Ent) : List Value := d.toList.flatMap Ent.cs

theorem flat_len (l : List Ent) : (l.flatMap Ent.cs).length = l.length * 25 := by
  induction l with
  | nil => rfl
  | cons a l ih => rw [List.flatMap_cons, List.length_append, ih, Ent.len, List.length_cons]; omega

theorem flat_at : ∀ (l : List Ent) (t : Nat), t < l.length * 25 → (l.flatMap Ent.cs)[t]? = some ((l[t / 25]!).cs[t % 25]!)
  | [], t, h => by simp at h
  | a :: l, t, h => by
    rw [List.flatMap_cons]
    by_cases h1 : t < 25
    · rw [List.getElem?_append_left (by rw [Ent.len]; exact h1), Nat.div_eq_of_lt h1, Nat.mod_eq_of_lt h1, List.getElem!_cons_zero, List.getElem?_eq_getElem (by rw [Ent.len]; exact h1), getElem!_pos a.cs t (by rw [Ent.len]; exact h1)]
    · obtain ⟨u, rfl⟩ : ∃ u, t = u + 25 := ⟨t - 25, by omega⟩
      rw [List.getElem?_append_right (by rw [Ent.len]; omega), Ent.len, Nat.add_sub_cancel, flat_at l u (by simp at h; omega), Nat.add_div_right u (by omega), Nat.add_mod_right, List.getElem!_cons_succ]

theorem bang (d : Array Ent) (i : Nat) : d.toList[i]! = d[i]! := by
  rw [List.getElem!_eq_getElem?_getD, Array.getElem!_eq_getD]; simp [Array.getD_eq_getD_getElem?]

theorem holds_of_owns {w : World} {g n cap : Nat} {d : Array Ent} (h : w.ownsRow 0 77 25 (.slice (some ⟨g, 0, none⟩) n cap) d.size (flat d)) (h0 : 0 < d.size) : HoldsK Ent.cs 25 w g 0 d ∧ n = d.size ∧ d.size ≤ cap ∧ cap ≤ maxLen := by
  rcases h.2 with ⟨h1, _⟩ | ⟨g', cap', cur, h1, _, hg, hnc, hcm, hcs, htake⟩
  · cases h1
  · injection h1 with h1 h2 h3
    injection h1 with h1
    injection h1 with h1
    subst h1 h2 h3
    refine ⟨fun j hj => ?_, rfl, hnc, hcm⟩
    rw [size_flatK] at hj
    rw [get_flatK _ _ _ _ hj, Nat.zero_add]
    have hf := flat_at d.toList j (by simpa using hj)
    have e1 : (d.toList.flatMap Ent.cs)[j]? = cur[j]? := by
      rw [show d.toList.flatMap Ent.cs = cur.toList.take (d.size * 25) from htake.symm, List.getElem?_take, if_pos hj]
      simp
    rw [e1] at hf
    have hfr : w.frozen? ⟨g, j, none⟩ = false := by simp [World.frozen?, hg]
    refine ⟨?_, hfr⟩
    rw [cell_of_row w g j cur 77 (0, 0) hg, hf, bang]
    rfl

theorem owns_of_holds {w : World} {g n cap : Nat} {d : Array Ent} {cur : Array Value} (hg : w.heap[g]? = some (.cells cur 77 (0, 0))) (hs : cur.size = cap * 25) (hn : d.size ≤ cap) (hcm : cap ≤ maxLen) (H : HoldsK Ent.cs 25 w g 0 d) :
    w.ownsRow 0 77 25 (.slice (some ⟨g, 0, none⟩) d.size cap) d.size (flat d) := by
  have hle : d.size * 25 ≤ cur.size := by rw [hs]; exact Nat.mul_le_mul_right _ hn
  refine ⟨by rw [flat, flat_len]; simp, .inr ⟨g, cap, cur, rfl, Nat.zero_le _, hg, hn, hcm, hs, ?_⟩⟩
  apply List.ext_getElem?
  intro j
  rw [List.getElem?_take]
  split
  · rename_i hj
    have h1 := (H j (by rw [size_flatK]; exact hj)).1
    rw [get_flatK _ _ _ _ hj, Nat.zero_add, cell_of_row w g j cur 77 (0, 0) hg] at h1
    rw [flat, flat_at d.toList j (by simpa using hj), bang]
    rw [← Array.getElem?_toList] at h1
    exact h1
  · rename_i hj
    rw [flat, List.getElem?_eq_none]
    rw [flat_len]; simpa using hj

/-- A world of the heap's: nothing but the row has turned. -/
theorem swk_kept {w W : World} {g : Nat} {d : Array Ent} (h : SWK Ent.cs 25 w g 0 d W) (hg : g < w.heap.size) : Kept w W (fun b => b = g) := by
  obtain ⟨n, os, rfl⟩ := h
  refine ⟨rfl, rfl, rfl, ?_, fun k hk hn => ?_⟩
  · unfold sortWorldK; rw [size_grow]; show w.heap.size ≤ (putRowK Ent.cs 25 (Sort.ahead w n) g 0 d).heap.size + _; unfold putRowK; rw [size_putRow]; exact Nat.le_add_right _ _
  · unfold sortWorldK
    rw [heap_grow_old _ _ (by unfold putRowK; rw [size_putRow]; exact hk)]
    unfold putRowK putRow mapBlock
    simp only [Array.getElem?_modify]
    rw [if_neg (fun e => hn e.symm)]
    rfl

theorem swk_block {w W : World} {g : Nat} {d : Array Ent} (h : SWK Ent.cs 25 w g 0 d W) {cur : Array Value} {e : TypeId} {fr : Nat × Nat} (hg : w.heap[g]? = some (.cells cur e fr)) : ∃ cur', W.heap[g]? = some (.cells cur' e fr) ∧ cur'.size = cur.size := by
  have hgl := heap_lt hg
  obtain ⟨n, os, rfl⟩ := h
  unfold sortWorldK
  rw [heap_grow_old _ _ (by unfold putRowK; rw [size_putRow]; exact hgl)]
  unfold putRowK putRow mapBlock
  simp only [Array.getElem?_modify, if_true]
  have : (Sort.ahead w n).heap[g]? = some (.cells cur e fr) := hg
  rw [this]
  exact ⟨_, rfl, by simp [putCells]⟩

/-- A heap of requests in memory: block c holds the slice v, whose row holds d. -/
structure AgeOk (w : World) (c : Nat) (v : Value) (d : Array Ent) : Prop where
  at_ : w.heap[c]? = some (.cells #[v] 74 (0, 0))
  row : w.ownsRow 0 77 25 v d.size (flat d)
  apart : v.ownBlock ≠ some c

theorem AgeOk.cell {w : World} {c : Nat} {v : Value} {d : Array Ent} (A : AgeOk w c v d) : w.cell? ⟨c, 0, none⟩ = some v := by rw [cell_of_row w c 0 _ 74 (0, 0) A.at_]; rfl

theorem AgeOk.shape {w : World} {c : Nat} {v : Value} {d : Array Ent} (A : AgeOk w c v d) (h0 : 0 < d.size) :
    ∃ g cap, v = .slice (some ⟨g, 0, none⟩) d.size cap ∧ HoldsK Ent.cs 25 w g 0 d ∧ d.size ≤ cap ∧ cap ≤ maxLen ∧ g ≠ c ∧ v.ownBlock = some g ∧ ∃ cur, w.heap[g]? = some (.cells cur 77 (0, 0)) ∧ cur.size = cap * 25 := by
  rcases A.row.2 with ⟨_, h1⟩ | ⟨g, cap, cur, rfl, _, hg, _, _, hcs, _⟩
  · omega
  · obtain ⟨h1, h2, h3, h4⟩ := holds_of_owns A.row h0
    exact ⟨g, cap, rfl, h1, h3, h4, fun e => A.apart (by rw [e]; rfl), rfl, cur, hg, hcs⟩

theorem AgeOk.kept {w w' : World} {F : Nat → Prop} {c : Nat} {v : Value} {d : Array Ent} (A : AgeOk w c v d) (h : Kept w w' F) (hc : ¬ F c) (hv : ∀ g, v.ownBlock = some g → ¬ F g) : AgeOk w' c v d :=
  ⟨h.heap A.at_ hc, h.owns A.row hv, A.apart⟩

theorem flat_push (d : Array Ent) (x : Ent) : flat (d.push x) = flat d ++ x.cs := by simp [flat, List.flatMap_append]

set_option maxRecDepth 100000 in
theorem hpush_calls (w : World) (c : Nat) (v : Value) (d : Array Ent) (x : Ent) (A : AgeOk w c v d) (hx : ∀ e ∈ d.toList, e.n < x.n) (hn : d.size < 1000) :
    Calls Try.prog 37 #[.iface 73 (.pointer (some ⟨c, 0, none⟩)), .iface 77 (.agg x.cs.toArray)] w fun r w' => r = .returned (.tuple #[]) ∧ ∃ v', AgeOk w' c v' (d.push x) ∧
      (v'.ownBlock = v.ownBlock ∨ ∃ b, v'.ownBlock = some b ∧ w.heap.size ≤ b) ∧ Kept w w' (fun b => b = c ∨ some b = v.ownBlock) := by
  have mP := fun w => meth_push w ⟨c, 0, none⟩
  have hp := push_calls w c v d.size (flat d) x A.at_ A.row A.apart (by omega)
  have hps : (d.push x).size = d.size + 1 := by simp
  have AFT : ∀ w' v', w'.heap[c]? = some (.cells #[v'] 74 (0, 0)) → w'.ownsRow 0 77 25 v' (d.size + 1) (flat d ++ x.cs) → v'.ownBlock ≠ some c →
      AgeOk w' c v' (d.push x) ∧ ∃ g cap, v' = .slice (some ⟨g, 0, none⟩) (d.size + 1) cap ∧ (method 241 73 (.pointer (some ⟨c, 0, none⟩)) "Len").run Try.prog w' = .ok (29, .slice (some ⟨g, 0, none⟩) (d.size + 1) cap) w' ∧
        Calls Try.prog 49 #[.iface 73 (.pointer (some ⟨c, 0, none⟩)), .int .i64 (d.size : Nat)] w' fun r w'' => r = .returned (.tuple #[]) ∧ ∃ q, w'' = w'.drewN q := by
    intro w' v' h1 h2 h3
    have B : AgeOk w' c v' (d.push x) := ⟨h1, by rw [hps, flat_push]; exact h2, h3⟩
    obtain ⟨g, cap, rfl, hH, -, -, -, -, -⟩ := B.shape (by omega)
    refine ⟨B, g, cap, by rw [hps], ?_, ?_⟩
    · have := meth_len w' c _ B.cell
      rw [hps] at this
      exact this
    · refine up_calls w' c g cap d.size (d.push x) h1 hH hps (by omega) (fun i hi => ?_)
      have e1 : (d.push x)[i]! = d[i]! := by rw [getElem!_pos (d.push x) i (by omega), getElem!_pos d i hi, Array.getElem_push_lt hi]
      have e2 : (d.push x)[d.size]! = x := by rw [getElem!_pos (d.push x) d.size (by omega), Array.getElem_push_eq]
      rw [e1, e2]
      exact hx _ (by rw [getElem!_pos d i hi]; simp)
  have hn1 : (d.size : Int) ≤ 1000 := by omega
  clear hps hx A
  generalize d.size = n at hp AFT hn1 ⊢
  go_enter Try.func37, Try.ntmps37
  go_wp2_with (first
    | (go_at_call 74; refine hp.mono ?_; rintro e w' ⟨rfl, v', h1, h2, h3, h4, h5⟩; clear hp; obtain ⟨B, g, cap, rfl, mLn, hup⟩ := AFT w' v' h1 h2 h3; have hlen := len_calls w' (some ⟨g, 0, none⟩) (n + 1) cap)
    | (go_at_call 29; refine hlen.mono ?_; rintro e w'' ⟨rfl, rfl⟩)
    | (go_at_call 49; refine hup.mono ?_; rintro e w'' ⟨rfl, q, rfl⟩))
  go_end0
  have k := Kept.drewN w'' q (fun _ => False)
  exact ⟨rfl, _, B.kept k (fun h => h) (fun _ _ h => h), h4, h5.trans k (fun _ _ h => h) (fun _ _ h => h.elim)⟩

end Go.Proofs.Ytmbjlondehcheaa
