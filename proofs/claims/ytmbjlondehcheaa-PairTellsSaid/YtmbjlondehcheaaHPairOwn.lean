/- A Pairs as its callers see it: New, Take and Open over the list of open requests. -/
import Derived.Test.YtmbjlondehcheaaProg
import Derived.Below
import Derived.OneCell
import Derived.WalkKit
import Derived.KernelRfl
import Derived.RowKit3
import Derived.Deep.LoopGhost
import Derived.Deep.QuietTactic
import Derived.BigQuiet
import Derived.Deep.DeepCutAuto
import Derived.Deep.CutBlock
import Derived.Deep.RegionWith
import Derived.OwnWalk
import Derived.Laws.Tables
import Derived.Laws.AppendOwn
import Derived.Shelf.SlSortCmp.KitK
import Derived.Shelf.RegionOpenPlain
import Derived.Sort.WalkB2
import Derived.Deep.MidRow
import Derived.Great.Walk
import Derived.Test.YtmbjlondehcheaaWWords
import Derived.Test.YtmbjlondehcheaaWLast
import Derived.Laws.StructEq
import Derived.Maps.Own
import Derived.Maps.RangeRun
import Derived.Test.YtmbjlondehcheaaHPairStep
set_option linter.unusedSimpArgs false
set_option linter.unusedVariables false
namespace Go.Proofs.Ytmbjlondehcheaa
open Go.Shelf Go.RowKit Go.Lib Go.Sort Go.Proofs.YtmbjlondehcheaaW.PrintWords Go.Proofs.YtmbjlondehcheaaW.PrintLast

/-- A Pairs, and the blocks that it owns: what a caller need know. -/
structure Own (w : World) (pb : Nat) (net : Bool) (L : List Ent) (all : Nat) (F : Nat → Prop) : Prop where
  out : ∃ B S, PS w pb net B S L all ∧ (∀ b, F b ↔ foot pb B S b)
  one : net = false → L.length ≤ 1

/-- Notes that lie apart from a Pairs. -/
structure Res (w : World) (F : Nat → Prop) (v : Value) (ns : List Nt) : Prop where
  row : w.ownsRow 0 55 49 v ns.length (nts ns)
  apart : ∀ g, some g = v.ownBlock → ¬ F g

theorem Own.lt {w : World} {pb : Nat} {net : Bool} {L : List Ent} {all : Nat} {F : Nat → Prop} (h : Own w pb net L all F) {b : Nat} (hb : F b) : b < w.heap.size := by
  obtain ⟨B, S, hP, hF⟩ := h.out
  exact hP.foot_lt ((hF b).1 hb)

theorem Own.kept {w w' : World} {pb : Nat} {net : Bool} {L : List Ent} {all : Nat} {F G : Nat → Prop} (h : Own w pb net L all F) (k : Kept w w' G) (hG : ∀ b, F b → ¬ G b) : Own w' pb net L all F := by
  obtain ⟨B, S, hP, hF⟩ := h.out
  exact ⟨⟨B, S, hP.kept k (fun b hb => hG b ((hF b).2 hb)), hF⟩, h.one⟩

theorem Own.few {w : World} {pb : Nat} {net : Bool} {L : List Ent} {all : Nat} {F : Nat → Prop} (h : Own w pb net L all F) : L.length ≤ 16 := by
  obtain ⟨B, S, hP, hF⟩ := h.out
  exact hP.few

theorem Res.kept {w w' : World} {F G : Nat → Prop} {v : Value} {ns : List Nt} (h : Res w F v ns) (k : Kept w w' G) (hG : ∀ g, some g = v.ownBlock → ¬ G g) {F' : Nat → Prop} (hF : ∀ b, F' b → F b ∨ w.heap.size ≤ b) : Res w' F' v ns :=
  ⟨k.owns h.row (fun g hg => hG g hg.symm), fun g hg hb => by
    rcases hF g hb with h' | h'
    · exact h.apart g hg h'
    · have := row_lt h.row hg; omega⟩

/-- .. behind another call of Take. -/
theorem Res.next {w w' : World} {F : Nat → Prop} {v : Value} {ns : List Nt} (h : Res w F v ns) (k : Kept w w' F) {F' : Nat → Prop} (hF : ∀ b, F' b → F b ∨ w.heap.size ≤ b) : Res w' F' v ns := h.kept k h.apart hF

theorem step_one {net : Bool} {L : List Ent} {all : Nat} {dir : Int} {f : Fr} (h : net = false → L.length ≤ 1) : net = false → (step net L all dir f).2.1.length ≤ 1 := by
  intro hn
  subst hn
  have hl := h rfl
  unfold step
  split
  · unfold ask
    rw [if_neg (by simp)]
    split
    · exact hl
    · simp
  · split
    · unfold ans
      split
      · have := List.length_eraseP_le (p := hd (hdOf false L f).1 (hdOf false L f).2) (l := L)
        exact Nat.le_trans this hl
      · exact hl
    · exact hl

theorem Own.take {w : World} {pb : Nat} {net : Bool} {L : List Ent} {all : Nat} {F : Nat → Prop} (h : Own w pb net L all F) (hy : all < 1000000) (dir : Int) (f : Fr) :
    Calls Try.prog 12 #[.pointer (some ⟨pb, 0, none⟩), .int .i64 dir, .agg f.cs.toArray] w fun r w' => ∃ v F', r = .returned v ∧ Own w' pb net (step net L all dir f).2.1 (step net L all dir f).2.2 F' ∧ Res w' F' v (step net L all dir f).1 ∧
      (∀ b, F' b → F b ∨ w.heap.size ≤ b) ∧ Kept w w' F := by
  obtain ⟨B, S, hP, hF⟩ := h.out
  refine (Take_calls w pb net B S L all dir f hP h.one hy).mono fun r w' ⟨v, he, hf⟩ => ?_
  obtain ⟨S', P', ft⟩ := hf.ps
  refine ⟨v, foot pb B S', he, ⟨⟨B, S', P', fun b => Iff.rfl⟩, step_one h.one⟩, ⟨hf.row, fun g hg => P'.not_foot_row hf.row (by decide) g hg.symm⟩, fun b hb => ?_, hf.kept.mono fun b _ hb => (hF b).2 hb⟩
  rcases ft b hb with h' | h'
  · exact .inl ((hF b).2 h')
  · exact .inr h'

theorem Own.open_ {w : World} {pb : Nat} {net : Bool} {L : List Ent} {all : Nat} {F : Nat → Prop} (h : Own w pb net L all F) :
    Calls Try.prog 16 #[.pointer (some ⟨pb, 0, none⟩)] w fun r w' => ∃ a cap, r = .returned (.slice a L.length cap) ∧ w'.ownsRow 0 44 24 (.slice a L.length cap) L.length (frs L) ∧ (∀ g, some g = (Value.slice a L.length cap).ownBlock → w.heap.size ≤ g) ∧ Kept w w' (fun _ => False) := by
  obtain ⟨B, S, hP, hF⟩ := h.out
  refine (open_calls w pb net B S L all hP).mono fun r w' ⟨v, he, ho, hn, k⟩ => ?_
  obtain ⟨a, cap, rfl⟩ := owns_len ho
  exact ⟨a, cap, he, ho, hn, k⟩

set_option maxHeartbeats 400000 in
theorem new_calls (fr : Int) (hfr : fr = 0 ∨ fr = 1 ∨ fr = 2) (w : World) : Calls Try.prog 11 #[.int .i64 fr] w fun r w' => ∃ pb F, r = .returned (.pointer (some ⟨pb, 0, none⟩)) ∧ Own w' pb (decide (fr = 2)) [] 0 F ∧ (∀ b, F b → w.heap.size ≤ b) ∧ Kept w w' (fun _ => False) := by
  have hmm := @run_makeMap Try.prog
  have FIN : Aside0 (∀ b : Bool, b = decide (fr = 2) → ∃ pb F, (Ending.returned (.pointer (some ⟨w.heap.size + 1, 0, none⟩)) = Ending.returned (.pointer (some ⟨pb, 0, none⟩))) ∧ Own ((w.alloc (.map #[] 0)).alloc (.cells #[.bool b, .map (some w.heap.size), .int .i64 0, .int .i64 0] 65)) pb (decide (fr = 2)) [] 0 F ∧ (∀ b, F b → w.heap.size ≤ b) ∧ Kept w ((w.alloc (.map #[] 0)).alloc (.cells #[.bool b, .map (some w.heap.size), .int .i64 0, .int .i64 0] 65)) (fun _ => False)) := ⟨fun b hb => by
    subst hb
    refine ⟨w.heap.size + 1, foot (w.heap.size + 1) w.heap.size [], rfl, ⟨⟨w.heap.size, [], ⟨?_, ?_, by simp, by simp, Book.zero, by simp, by omega⟩, fun b => Iff.rfl⟩, by simp⟩, fun b hb => ?_, (Kept.alloc w _ _).trans (Kept.alloc _ _ (fun _ => False)) (fun _ _ h => h) (fun _ _ h => h)⟩
    · have := heap_alloc_new (w.alloc (.map #[] 0)) (.cells #[.bool (decide (fr = 2)), .map (some w.heap.size), .int .i64 0, .int .i64 0] 65)
      simpa using this
    · rw [heap_alloc_old _ _ (by simp)]; exact heap_alloc_new _ _
    · rcases hb with h | h | ⟨s, hs, _⟩
      · omega
      · omega
      · simp at hs⟩
  rcases hfr with rfl | rfl | rfl
  · go_enter Try.func11, Try.ntmps11
    go_wp2
    go_ret
    exact FIN.out false rfl
  · go_enter Try.func11, Try.ntmps11
    go_wp2
    go_ret
    exact FIN.out false rfl
  · go_enter Try.func11, Try.ntmps11
    go_wp2
    go_ret
    simpa using FIN.out true rfl

/-- A note, where it lies. -/
theorem Res.cells {w : World} {F : Nat → Prop} {v : Value} {ns : List Nt} (h : Res w F v ns) (h0 : 0 < ns.length) : ∃ g cap, v = .slice (some ⟨g, 0, none⟩) ns.length cap ∧ some g = v.ownBlock ∧ ∀ i n j u, ns[i]? = some n → n.cs[j]? = some u → w.cell? ⟨g, i * 49 + j, none⟩ = some u := by
  rcases h.row.2 with ⟨_, h1⟩ | ⟨g, cap, cur, hv, _, hg, hnc, hcm, hcs, htake⟩
  · omega
  · refine ⟨g, cap, hv, by rw [hv]; rfl, fun i n j u hn hu => ?_⟩
    have hi : i < ns.length := (List.getElem?_eq_some_iff.1 hn).1
    have hj : j < 49 := by have := (List.getElem?_eq_some_iff.1 hu).1; rwa [Nt.len] at this
    have hlen : ∀ l : List Nt, (nts l).length = l.length * 49 := fun l => by
      induction l with
      | nil => rfl
      | cons a l ih => simp only [nts, List.flatMap_cons, List.length_append, List.length_cons] at *; rw [ih, Nt.len]; omega
    have key : (nts ns)[i * 49 + j]? = some u := by
      have hsplit : ns = ns.take i ++ n :: ns.drop (i + 1) := by
        have e : n = ns[i] := by rw [List.getElem?_eq_getElem hi] at hn; simpa using hn.symm
        rw [e, ← List.drop_eq_getElem_cons hi, List.take_append_drop]
      have e : nts (ns.take i ++ n :: ns.drop (i + 1)) = nts (ns.take i) ++ (n.cs ++ nts (ns.drop (i + 1))) := by
        unfold nts; rw [List.flatMap_append, List.flatMap_cons]
      rw [← hsplit] at e
      have hl := hlen (ns.take i)
      rw [List.length_take, Nat.min_eq_left (Nat.le_of_lt hi)] at hl
      rw [e, List.getElem?_append_right (by omega), hl, Nat.add_sub_cancel_left, List.getElem?_append_left (by rw [Nt.len]; exact hj)]
      exact hu
    have hc := h.row.cells (g := g) (by rw [hv]; rfl) (i * 49 + j) u key
    rw [Addr.add_mid, Nat.zero_add] at hc
    exact hc

/-- A frame of a head, a code, a reason and a value. -/
def mkF (u t c x v : Int) (hu : 0 ≤ u ∧ u < 256) (ht : 0 ≤ t ∧ t < 65536) (hc : 0 ≤ c ∧ c < 256) : Fr :=
  ⟨u, t, c, fun i => if i = 0 then .int .u8 x else if i = 3 then .int .u16 v else fr0.r i, hu, ht, hc, fun i => by
    by_cases h : i = 0
    · simp [h, Value.oneCell']
    · by_cases h3 : i = 3
      · simp [h3, Value.oneCell']
      · simp only [h, h3, if_false]; exact fr0.h1 i⟩
/-- A message's cells. -/
def msg (c x v : Int) : List Value := (mkF 0 0 0 x v (by decide) (by decide) (by decide)).cs.drop 2 |>.set 0 (.int .u8 c)
theorem msg_cv (c v : Int) : Try.prog.built 42 [(0, .int .u8 c), (4, .int .u16 v)] = some (msg c 0 v).toArray := by kernel_rfl
theorem msg_c (c : Int) : Try.prog.built 42 [(0, .int .u8 c)] = some (msg c 0 0).toArray := by kernel_rfl
theorem msg_cx (c x : Int) : Try.prog.built 42 [(0, .int .u8 c), (1, .int .u8 x)] = some (msg c x 0).toArray := by kernel_rfl
theorem fr_built (u t c x v : Int) (hu : 0 ≤ u ∧ u < 256) (ht : 0 ≤ t ∧ t < 65536) (hc : 0 ≤ c ∧ c < 256) : Try.prog.built 44 [(0, .agg #[.int .u8 u, .int .u16 t]), (1, .agg (msg c x v).toArray)] = some (mkF u t c x v hu ht hc).cs.toArray := by kernel_rfl
theorem head_ut (u t : Int) : Try.prog.built 35 [(0, .int .u8 u), (1, .int .u16 t)] = some #[.int .u8 u, .int .u16 t] := by kernel_rfl

/-- A frame that lies in a variable of the caller's. -/
structure Var (w : World) (F : Nat → Prop) (g : Nat) (f : Fr) : Prop where
  row : w.heap[g]? = some (.cells f.cs.toArray 44 (0, 0))
  apart : ¬ F g

theorem Var.next {w w' : World} {F : Nat → Prop} {g : Nat} {f : Fr} (h : Var w F g f) (k : Kept w w' F) {F' : Nat → Prop} (hF : ∀ b, F' b → F b ∨ w.heap.size ≤ b) : Var w' F' g f :=
  ⟨k.heap h.row h.apart, fun hb => by
    rcases hF g hb with h' | h'
    · exact h.apart h'
    · have := heap_lt h.row; omega⟩

theorem Var.kept {w w' : World} {F : Nat → Prop} {g : Nat} {f : Fr} (h : Var w F g f) (k : Kept w w' (fun _ => False)) : Var w' F g f := ⟨k.heap h.row (fun h => h), h.apart⟩

/-- A variable is laid. -/
theorem Own.var {w : World} {pb : Nat} {net : Bool} {L : List Ent} {all : Nat} {F : Nat → Prop} (h : Own w pb net L all F) (f : Fr) :
    Own ((w.alloc (.cells fr0.cs.toArray 44)).setRow w.heap.size f.cs.toArray) pb net L all F ∧ Var ((w.alloc (.cells fr0.cs.toArray 44)).setRow w.heap.size f.cs.toArray) F w.heap.size f ∧ Kept w ((w.alloc (.cells fr0.cs.toArray 44)).setRow w.heap.size f.cs.toArray) (fun _ => False) ∧
      ((w.alloc (.cells fr0.cs.toArray 44)).setRow w.heap.size f.cs.toArray).heap.size = w.heap.size + 1 := by
  have q : Kept w ((w.alloc (.cells fr0.cs.toArray 44)).setRow w.heap.size f.cs.toArray) (fun _ => False) := (Kept.alloc w _ (fun _ => False)).trans (Kept.setRow _ w.heap.size _ (F := fun b => b = w.heap.size) rfl) (fun _ _ h => h) (fun k hk h => by omega)
  exact ⟨h.kept q (fun _ _ h => h), ⟨setRow_heap _ _ _ _ 44 _ (heap_alloc_new _ _), fun hb => by have := h.lt hb; omega⟩, q, by simp⟩

theorem Own.take_ {w : World} {pb : Nat} {net : Bool} {L : List Ent} {all : Nat} {F : Nat → Prop} (h : Own w pb net L all F) (hy : all < 1000000) (dir : Int) (f : Fr) {ns : List Nt} {L' : List Ent} {all' : Nat} (hst : step net L all dir f = (ns, L', all')) :
    Calls Try.prog 12 #[.pointer (some ⟨pb, 0, none⟩), .int .i64 dir, .agg f.cs.toArray] w fun r w' => ∃ v F', r = .returned v ∧ Own w' pb net L' all' F' ∧ Res w' F' v ns ∧ (∀ b, F' b → F b ∨ w.heap.size ≤ b) ∧ Kept w w' F := by
  have := h.take hy dir f
  rw [hst] at this
  exact this

/-- One note alone: its kind, its request's code, and so on. -/
theorem Res.one {w : World} {F : Nat → Prop} {v : Value} {n : Nt} (h : Res w F v [n]) : ∃ g cap, v = .slice (some ⟨g, 0, none⟩) 1 cap ∧ some g = v.ownBlock ∧ ∀ j u, n.cs[j]? = some u → w.cell? ⟨g, j, none⟩ = some u := by
  obtain ⟨g, cap, hv, ho, hc⟩ := h.cells (by simp)
  exact ⟨g, cap, hv, ho, fun j u hu => by have := hc 0 n j u rfl hu; rwa [Nat.zero_mul, Nat.zero_add] at this⟩

end Go.Proofs.Ytmbjlondehcheaa
