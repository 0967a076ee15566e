/- The state of a Pairs: what lies in memory, and the list of open requests that it stands for. -/
import Derived.Test.YtmbjlondehcheaaProg
import Derived.Below
import Derived.OneCell
import Derived.WalkKit
import Derived.KernelRfl
import Derived.RowKit3
import Derived.Deep.LoopGhost
import Derived.Deep.QuietTactic
import Derived.BigQuiet
import Derived.Deep.DeepCutAuto
import Derived.Deep.CutBlock
import Derived.Deep.RegionWith
import Derived.OwnWalk
import Derived.Laws.Tables
import Derived.Laws.AppendOwn
import Derived.Shelf.SlSortCmp.KitK
import Derived.Shelf.RegionOpenPlain
import Derived.Sort.WalkB2
import Derived.Deep.MidRow
import Derived.Great.Walk
import Derived.Test.YtmbjlondehcheaaWWords
import Derived.Test.YtmbjlondehcheaaWLast
import Derived.Laws.StructEq
import Derived.Maps.Own
import Derived.Maps.RangeRun
import Derived.Test.YtmbjlondehcheaaHPairMap
set_option linter.unusedSimpArgs false
set_option linter.unusedVariables false
namespace Go.Proofs.Ytmbjlondehcheaa
open Go.Shelf Go.RowKit Go.Lib Go.Sort Go.Proofs.YtmbjlondehcheaaW.PrintWords Go.Proofs.YtmbjlondehcheaaW.PrintLast

/-- The blocks that a Pairs owns. -/
def foot (pb B : Nat) (S : List Slot) (b : Nat) : Prop := b = pb ∨ b = B ∨ ∃ s ∈ S, b = s.c ∨ some b = s.v.ownBlock

/-- A Pairs in memory: block pb holds it, block B its map, S the slots of the map; L are the open requests, in the order of age. -/
structure PS (w : World) (pb : Nat) (net : Bool) (B : Nat) (S : List Slot) (L : List Ent) (all : Nat) : Prop where
  cell : w.heap[pb]? = some (.cells #[.bool net, .map (some B), .int .i64 (L.length : Nat), .int .i64 (all : Nat)] 65 (0, 0))
  mp : w.heap[B]? = some (.map (entries S) S.length)
  age : ∀ s ∈ S, AgeOk w s.c s.v s.d
  dist : S.Pairwise fun a b => a.c ≠ b.c ∧ (∀ g, some g = a.v.ownBlock → some g ≠ b.v.ownBlock)
  book : Book S L all
  few : L.length ≤ 16
  young : all ≤ 1000000

theorem AgeOk.own {w : World} {c : Nat} {v : Value} {d : Array Ent} (A : AgeOk w c v d) {g : Nat} (h : some g = v.ownBlock) : ∃ cur, w.heap[g]? = some (.cells cur 77 (0, 0)) := by
  rcases A.row.2 with ⟨rfl, _⟩ | ⟨g', cap, cur, rfl, _, hg, _⟩
  · simp [Value.ownBlock] at h
  · simp [Value.ownBlock] at h; subst h; exact ⟨cur, hg⟩

section
variable {w w' : World} {pb : Nat} {net : Bool} {B : Nat} {S : List Slot} {L : List Ent} {all : Nat}

theorem PS.kept (h : PS w pb net B S L all) {F : Nat → Prop} (k : Kept w w' F) (hF : ∀ b, foot pb B S b → ¬ F b) : PS w' pb net B S L all where
  cell := k.heap h.cell (hF _ (.inl rfl))
  mp := k.heap h.mp (hF _ (.inr (.inl rfl)))
  age s hs := (h.age s hs).kept k (hF _ (.inr (.inr ⟨s, hs, .inl rfl⟩))) (fun g hg => hF _ (.inr (.inr ⟨s, hs, .inr hg.symm⟩)))
  dist := h.dist
  book := h.book
  few := h.few
  young := h.young

theorem PS.foot_lt (h : PS w pb net B S L all) {b : Nat} (hb : foot pb B S b) : b < w.heap.size := by
  rcases hb with rfl | rfl | ⟨s, hs, rfl | hg⟩
  · exact heap_lt h.cell
  · exact heap_lt h.mp
  · exact heap_lt (h.age s hs).at_
  · obtain ⟨cur, hc⟩ := (h.age s hs).own hg; exact heap_lt hc

/-- The pieces of a Pairs lie apart. -/
theorem PS.pB (h : PS w pb net B S L all) : pb ≠ B := fun e => by have := h.cell; rw [e, h.mp] at this; cases this
theorem PS.pc (h : PS w pb net B S L all) {s : Slot} (hs : s ∈ S) : pb ≠ s.c := fun e => by have := h.cell; rw [e, (h.age s hs).at_] at this; simp at this
theorem PS.Bc (h : PS w pb net B S L all) {s : Slot} (hs : s ∈ S) : B ≠ s.c := fun e => by have := h.mp; rw [e, (h.age s hs).at_] at this; cases this
theorem PS.pg (h : PS w pb net B S L all) {s : Slot} (hs : s ∈ S) {g : Nat} (hg : some g = s.v.ownBlock) : pb ≠ g := fun e => by
  obtain ⟨cur, hc⟩ := (h.age s hs).own hg
  have := h.cell; rw [e, hc] at this; cases this
theorem PS.Bg (h : PS w pb net B S L all) {s : Slot} (hs : s ∈ S) {g : Nat} (hg : some g = s.v.ownBlock) : B ≠ g := fun e => by
  obtain ⟨cur, hc⟩ := (h.age s hs).own hg
  have := h.mp; rw [e, hc] at this; cases this
theorem PS.cg (h : PS w pb net B S L all) {s s' : Slot} (hs : s ∈ S) (hs' : s' ∈ S) {g : Nat} (hg : some g = s.v.ownBlock) : s'.c ≠ g := fun e => by
  obtain ⟨cur, hc⟩ := (h.age s hs).own hg
  have := (h.age s' hs').at_; rw [e, hc] at this; cases this

/-- The Pairs' four cells. -/
theorem PS.c0 (h : PS w pb net B S L all) : w.cell? ⟨pb, 0, none⟩ = some (.bool net) := by rw [cell_of_row w pb 0 _ 65 (0, 0) h.cell]; rfl
theorem PS.c1 (h : PS w pb net B S L all) : w.cell? ⟨pb, 1, none⟩ = some (.map (some B)) := by rw [cell_of_row w pb 1 _ 65 (0, 0) h.cell]; rfl
theorem PS.c2 (h : PS w pb net B S L all) : w.cell? ⟨pb, 2, none⟩ = some (.int .i64 (L.length : Nat)) := by rw [cell_of_row w pb 2 _ 65 (0, 0) h.cell]; rfl
theorem PS.c3 (h : PS w pb net B S L all) : w.cell? ⟨pb, 3, none⟩ = some (.int .i64 (all : Nat)) := by rw [cell_of_row w pb 3 _ 65 (0, 0) h.cell]; rfl
end

theorem dist_mid {A C : List Slot} {s s' : Slot} {w : World} (h : (A ++ s :: C).Pairwise fun a b => a.c ≠ b.c ∧ (∀ g, some g = a.v.ownBlock → some g ≠ b.v.ownBlock)) (hc : s'.c = s.c)
    (hv : s'.v.ownBlock = s.v.ownBlock ∨ ∃ b, s'.v.ownBlock = some b ∧ ∀ x ∈ A ++ C, some b ≠ x.v.ownBlock) : (A ++ s' :: C).Pairwise fun a b => a.c ≠ b.c ∧ (∀ g, some g = a.v.ownBlock → some g ≠ b.v.ownBlock) := by
  rw [List.pairwise_append, List.pairwise_cons] at *
  obtain ⟨h1, ⟨h2, h3⟩, h4⟩ := h
  refine ⟨h1, ⟨fun b hb => ⟨by rw [hc]; exact (h2 b hb).1, fun g hg => ?_⟩, h3⟩, fun a ha b hb => ?_⟩
  · rcases hv with e | ⟨b', e, hb'⟩
    · exact (h2 b hb).2 g (hg.trans e)
    · rw [hg, e]; exact hb' b (by simp [hb])
  · rcases List.mem_cons.1 hb with rfl | hb
    · refine ⟨by rw [hc]; exact (h4 a ha s (by simp)).1, fun g hg => ?_⟩
      rcases hv with e | ⟨b', e, hb'⟩
      · rw [e]; exact (h4 a ha s (by simp)).2 g hg
      · intro e'; exact hb' a (by simp [ha]) (by rw [← hg, e', e])
    · exact h4 a ha b (by simp [hb])

/-- One slot's heap has turned, and the Pairs' two counts with it: what was there elsewhere stays. -/
theorem PS.turn {w w' : World} {pb : Nat} {net : Bool} {B : Nat} {A C : List Slot} {s s' : Slot} {L L' : List Ent} {all all' : Nat} (h : PS w pb net B (A ++ s :: C) L all)
    {F : Nat → Prop} (k : Kept w w' F) (hF : ∀ b, foot pb B (A ++ s :: C) b → F b → b = pb ∨ b = s.c ∨ some b = s.v.ownBlock) (hu : s'.u = s.u) (ht : s'.t = s.t) (hc : s'.c = s.c) (hv : s'.v.ownBlock = s.v.ownBlock ∨ ∃ b, s'.v.ownBlock = some b ∧ w.heap.size ≤ b)
    (hcell : w'.heap[pb]? = some (.cells #[.bool net, .map (some B), .int .i64 (L'.length : Nat), .int .i64 (all' : Nat)] 65 (0, 0))) (A' : AgeOk w' s'.c s'.v s'.d) (hb : Book (A ++ s' :: C) L' all') (hf : L'.length ≤ 16) (hy : all' ≤ 1000000) :
    PS w' pb net B (A ++ s' :: C) L' all' where
  cell := hcell
  mp := by
    have hs : s ∈ A ++ s :: C := by simp
    have h1 := k.heap h.mp (fun e => by
      rcases hF _ (.inr (.inl rfl)) e with e | e | e
      · exact h.pB e.symm
      · exact h.Bc hs e
      · exact h.Bg hs e rfl)
    have he : entries (A ++ s' :: C) = entries (A ++ s :: C) := by
      unfold entries entriesL
      rw [List.mapIdx_append, List.mapIdx_append, List.mapIdx_cons, List.mapIdx_cons]
      simp [entry1, hu, ht, hc]
    rw [he]
    simpa using h1
  age x hx := by
    have hs : s ∈ A ++ s :: C := by simp
    have hd := h.dist
    rw [List.pairwise_append, List.pairwise_cons] at hd
    rcases List.mem_append.1 hx with hx | hx
    · have hx' : x ∈ A ++ s :: C := by simp [hx]
      refine (h.age x hx').kept k (fun e => ?_) (fun g hg e => ?_)
      · rcases hF _ (.inr (.inr ⟨x, hx', .inl rfl⟩)) e with e | e | e
        · exact h.pc hx' e.symm
        · exact (hd.2.2 x hx s (by simp)).1 e
        · exact h.cg hs hx' e rfl
      · rcases hF _ (.inr (.inr ⟨x, hx', .inr hg.symm⟩)) e with e | e | e
        · exact h.pg hx' hg.symm e.symm
        · exact h.cg hx' hs hg.symm e.symm
        · exact (hd.2.2 x hx s (by simp)).2 g hg.symm e
    · rcases List.mem_cons.1 hx with rfl | hx
      · exact A'
      · have hx' : x ∈ A ++ s :: C := by simp [hx]
        refine (h.age x hx').kept k (fun e => ?_) (fun g hg e => ?_)
        · rcases hF _ (.inr (.inr ⟨x, hx', .inl rfl⟩)) e with e | e | e
          · exact h.pc hx' e.symm
          · exact (hd.2.1.1 x hx).1 e.symm
          · exact h.cg hs hx' e rfl
        · rcases hF _ (.inr (.inr ⟨x, hx', .inr hg.symm⟩)) e with e | e | e
          · exact h.pg hx' hg.symm e.symm
          · exact h.cg hx' hs hg.symm e.symm
          · exact (hd.2.1.1 x hx).2 g e hg.symm
  dist := by
    refine dist_mid (w := w) h.dist hc ?_
    rcases hv with e | ⟨b, e, hb'⟩
    · exact .inl e
    · refine .inr ⟨b, e, fun x hx e' => ?_⟩
      have hx' : x ∈ A ++ s :: C := by simp at hx ⊢; rcases hx with h | h <;> simp [h]
      obtain ⟨cur, hcur⟩ := (h.age x hx').own e'
      have := heap_lt hcur
      omega
  book := hb
  few := hf
  young := hy

/-- .. the blocks that it owns then. -/
theorem foot_turn {pb B : Nat} {A C : List Slot} {s s' : Slot} {n : Nat} (hc : s'.c = s.c) (hv : s'.v.ownBlock = s.v.ownBlock ∨ ∃ b, s'.v.ownBlock = some b ∧ n ≤ b) {b : Nat} (hb : foot pb B (A ++ s' :: C) b) : foot pb B (A ++ s :: C) b ∨ n ≤ b := by
  rcases hb with h | h | ⟨x, hx, h⟩
  · exact .inl (.inl h)
  · exact .inl (.inr (.inl h))
  · rcases mem_mid (s := s) hx with rfl | hx
    · rcases h with h | h
      · exact .inl (.inr (.inr ⟨s, by simp, .inl (h.trans hc)⟩))
      · rcases hv with e | ⟨b', e, hb'⟩
        · exact .inl (.inr (.inr ⟨s, by simp, .inr (h.trans e)⟩))
        · rw [e] at h; injection h with h; exact .inr (by omega)
    · exact .inl (.inr (.inr ⟨x, hx, h⟩))


/-- A new head's slot. -/
theorem PS.add {w w' : World} {pb : Nat} {net : Bool} {B : Nat} {S : List Slot} {s : Slot} {L : List Ent} {all : Nat} (h : PS w pb net B S L all) (k : Kept w w' (fun b => b = B)) (hn : ∀ s' ∈ S, ¬ (s'.u = s.u ∧ s'.t = s.t))
    (hm : w'.heap[B]? = some (.map (entries (S ++ [s])) (S.length + 1))) (A : AgeOk w' s.c s.v s.d) (hz : s.d = #[]) (hc : w.heap.size ≤ s.c) (hv : ∀ g, some g = s.v.ownBlock → w.heap.size ≤ g) : PS w' pb net B (S ++ [s]) L all where
  cell := k.heap h.cell (fun e => h.pB e)
  mp := by rw [hm]; simp
  age x hx := by
    rcases List.mem_append.1 hx with hx | hx
    · exact (h.age x hx).kept k (fun e => h.Bc hx e.symm) (fun g hg e => h.Bg hx hg.symm e.symm)
    · simp at hx; subst hx; exact A
  dist := by
    rw [List.pairwise_append]
    refine ⟨h.dist, by simp, fun a ha b hb => ?_⟩
    simp at hb; subst hb
    refine ⟨fun e => ?_, fun g hg e => ?_⟩
    · have := heap_lt (h.age a ha).at_; omega
    · obtain ⟨cur, hcur⟩ := (h.age a ha).own hg
      have := heap_lt hcur
      have := hv g e
      omega
  book := h.book.slot s hn hz
  few := h.few
  young := h.young

theorem foot_add {pb B : Nat} {S : List Slot} {s : Slot} {n : Nat} (hc : n ≤ s.c) (hv : ∀ g, some g = s.v.ownBlock → n ≤ g) {b : Nat} (hb : foot pb B (S ++ [s]) b) : foot pb B S b ∨ n ≤ b := by
  rcases hb with h | h | ⟨x, hx, h⟩
  · exact .inl (.inl h)
  · exact .inl (.inr (.inl h))
  · rcases List.mem_append.1 hx with hx | hx
    · exact .inl (.inr (.inr ⟨x, hx, h⟩))
    · simp at hx; subst hx
      rcases h with h | h
      · exact .inr (by omega)
      · exact .inr (hv b h)

/-! ### Single operations -/
section
variable {P : Program} {a : Act} {w : World} {K : Act → World → Prop} {Q : Exit → Act → World → Prop} {op : Oper}
theorem wp_box (t : TypeId) (x : Operand) (ho : op.op = .box t x) (v : Value) (hx : a.eval x = v) (h : K (a.put op.dst (.pointer (some ⟨w.heap.size, 0, none⟩))) (w.alloc (.cells v.cells t))) : op.wp P a w K Q := by
  unfold Oper.wp execOp
  simp only [ho, hx, Sem.run_bind, Instr.box, newVar, newRow, run_newObj_alloc, Sem.run_pure, Result.andThen_ok]
  exact h
theorem wp_lit0 (t : TypeId) (ho : op.op = .buildSlice t 0 #[]) (v' : Value) (w' : World) (hr : (Instr.buildSlice t 0 #[]).run P w = .ok v' w') (h : K (a.put op.dst v') w') : op.wp P a w K Q := by
  unfold Oper.wp execOp
  simp only [ho, Sem.run_bind, Sem.run_pure, Result.andThen_ok, List.map_toArray, List.map_nil, hr]
  exact h
theorem wp_mapUpdate (t : TypeId) (m x y : Operand) (ho : op.op = .mapUpdate t m x y) (vm vx vy : Value) (hm : a.eval m = vm) (hx : a.eval x = vx) (hy : a.eval y = vy) (w' : World) (hr : (Instr.mapUpdate t vm vx vy).run P w = .ok () w') (h : K (a.put op.dst undef) w') : op.wp P a w K Q := by
  unfold Oper.wp execOp
  simp only [ho, hm, hx, hy, Sem.run_bind, Sem.run_pure, Result.andThen_ok, hr]
  exact h
theorem yields_build {ops : Array Oper} (hw : Region.wanted op (yielded ops a.tmps) = true) (t : TypeId) (parts : Array (Nat × Operand)) (ho : op.op = .build t parts) (l : List (Nat × Value)) (hl : (parts.map fun (i, x) => (i, a.eval x)).toList = l)
    (cells : Array Value) (hb : P.built t l = some cells) : Yields P ops op (.agg cells) a := .inl ⟨hw, fun w => by
  subst hl
  unfold execOp
  simp only [ho, Sem.run_bind, run_build w t _ _ hb, Sem.run_pure, Result.andThen_ok]⟩
end

theorem lit0_74 (w : World) : (Instr.buildSlice 74 0 #[]).run Try.prog w = .ok (.slice (some ⟨w.heap.size, 0, none⟩) 0 0) (w.alloc (.cells #[] 77)) := by
  obtain ⟨ie, z, h1, h2, h3, h4, h5⟩ := info77
  simp [Instr.buildSlice, run_underlying Try.underlying74, sizeOf, typeInfo, h1, Instr.fill, newRow]
  have h0 : Array.map (fun _ => (default : Value)) (Array.range 0) = #[] := Array.eq_empty_of_size_eq_zero (by simp)
  rw [h0]

/-! ### Notes -/
/-- A frame of zeros. -/
def fr0 : Fr := ⟨0, 0, 0, fun i => if i = 0 ∨ 15 ≤ i ∧ i < 20 then .int .u8 0 else if i < 11 then .int .u16 0 else .slice none 0 0, by decide, by decide, by decide, fun i => by split <;> (try split) <;> rfl⟩
theorem fr0_zero (w : World) : (zeroValue 44).run Try.prog w = .ok (.agg fr0.cs.toArray) w := by kernel_rfl

/-- What is noted: its kind, the request and the answer. -/
structure Nt where
  kind : Int
  ask : Fr
  ans : Fr
def Nt.cs (n : Nt) : List Value := .int .i64 n.kind :: (n.ask.cs ++ n.ans.cs)
theorem Nt.len (n : Nt) : n.cs.length = 49 := rfl
theorem Nt.one (n : Nt) : ∀ v ∈ n.cs, v.oneCell' = true := by
  intro v hv
  rcases List.mem_cons.1 hv with h | h
  · subst h; rfl
  · rcases List.mem_append.1 h with h | h
    · exact n.ask.one v h
    · exact n.ans.one v h
theorem nt_zero (w : World) : (zeroValue 55).run Try.prog w = .ok (.agg (Nt.mk 0 fr0 fr0).cs.toArray) w := by kernel_rfl
theorem nt_ask (k : Int) (f : Fr) : Try.prog.built 55 [(0, .int .i64 k), (1, .agg f.cs.toArray)] = some (Nt.mk k f fr0).cs.toArray := by kernel_rfl
theorem nt_ans (k : Int) (f : Fr) : Try.prog.built 55 [(0, .int .i64 k), (2, .agg f.cs.toArray)] = some (Nt.mk k fr0 f).cs.toArray := by kernel_rfl
theorem nt_both (k : Int) (f g : Fr) : Try.prog.built 55 [(0, .int .i64 k), (1, .agg f.cs.toArray), (2, .agg g.cs.toArray)] = some (Nt.mk k f g).cs.toArray := by kernel_rfl
theorem ent_built (n : Int) (f : Fr) : Try.prog.built 77 [(0, .int .i64 n), (1, .agg f.cs.toArray)] = some (Ent.mk n f).cs.toArray := by kernel_rfl

/-! ### Two counts stored -/
theorem setCell_heap {w : World} {pb i : Nat} {v : Value} {g : Nat} {o : Obj} (h : w.heap[g]? = some o) (hne : g ≠ pb) : (w.setCell ⟨pb, i, none⟩ v).heap[g]? = some o := by
  unfold World.setCell
  simp only [Array.getElem?_modify]
  rw [if_neg (fun e => hne e.symm)]
  exact h
theorem setCell_row {w : World} {pb i : Nat} {v : Value} {cs : Array Value} {t : TypeId} {fr : Nat × Nat} (h : w.heap[pb]? = some (.cells cs t fr)) : (w.setCell ⟨pb, i, none⟩ v).heap[pb]? = some (.cells (cs.setIfInBounds i v) t fr) := by
  unfold World.setCell
  simp [Array.getElem?_modify, h]
theorem Kept.setCell (w : World) (pb i : Nat) (v : Value) {F : Nat → Prop} (hF : F pb) : Kept w (w.setCell ⟨pb, i, none⟩ v) F :=
  ⟨rfl, rfl, rfl, by simp [World.setCell], fun k hk hn => by
    unfold World.setCell
    simp only [Array.getElem?_modify]
    rw [if_neg (fun e : pb = k => hn (by rw [← e]; exact hF))]⟩

/-- A new slot, laid and stored. -/
theorem add_slot {W : World} {pb : Nat} {net : Bool} {B : Nat} {S : List Slot} {L : List Ent} {all : Nat} (P : PS W pb net B S L all) (u t : Int) (hn : ∀ s ∈ S, ¬ (s.u = u ∧ s.t = t)) :
    ∃ s : Slot, ∃ w2, s.u = u ∧ s.t = t ∧ s.d = #[] ∧
      (Instr.mapUpdate 63 (.map (some B)) (.agg [.int .u8 u, .int .u16 t].toArray) (.pointer (some ⟨(W.alloc (.cells #[] 77)).heap.size, 0, none⟩))).run Try.prog ((W.alloc (.cells #[] 77)).alloc (.cells (Value.slice (some ⟨W.heap.size, 0, none⟩) 0 0).cells 74)) = .ok () w2 ∧
      PS w2 pb net B (S ++ [s]) L all ∧ Kept W w2 (fun b => b = B) ∧ (∀ b, foot pb B (S ++ [s]) b → foot pb B S b ∨ W.heap.size ≤ b) := by
  have hs0 : (W.alloc (.cells #[] 77)).heap.size = W.heap.size + 1 := by simp
  have k0 : Kept W ((W.alloc (.cells #[] 77)).alloc (.cells (Value.slice (some ⟨W.heap.size, 0, none⟩) 0 0).cells 74)) (fun _ => False) := (Kept.alloc W _ _).trans (Kept.alloc _ _ (fun _ => False)) (fun _ _ h => h) (fun _ _ h => h)
  have P0 := P.kept k0 (fun _ _ h => h)
  let s : Slot := ⟨u, t, (W.alloc (.cells #[] 77)).heap.size, .slice (some ⟨W.heap.size, 0, none⟩) 0 0, #[]⟩
  have hst := store_new (s := s) hn P0.mp
  have k1 := Kept.block' ((W.alloc (.cells #[] 77)).alloc (.cells (Value.slice (some ⟨W.heap.size, 0, none⟩) 0 0).cells 74)) B (.map (entries (S ++ [s])) (S.length + 1)) (F := fun b => b = B) rfl
  have k2 : Kept W _ (fun b => b = B) := k0.trans k1 (fun _ _ h => h.elim) (fun _ _ h => h)
  have hBl := heap_lt P.mp
  have hg : ∀ g, some g = s.v.ownBlock → W.heap.size ≤ g := fun g h => by simp [s, Value.ownBlock] at h; omega
  have hcl : W.heap.size ≤ s.c := by simp [s]
  refine ⟨s, _, rfl, rfl, rfl, hst, P.add k2 hn (ChangeMaps.heap_setBlock_same P0.mp _) ⟨?_, ?_, ?_⟩ rfl hcl hg, k2, fun b hb => foot_add hcl hg hb⟩
  · exact k1.heap (heap_alloc_new _ _) (fun e => by have : s.c = B := e; simp [s] at this; omega)
  · refine k1.owns ?_ (fun g h e => by have := hg g h.symm; omega)
    exact World.ownsRow.alloc (World.ownsRow_made W #[] 0 (Nat.zero_le _) (by unfold maxLen; omega) rfl) _
  · simp [s, Value.ownBlock]

end Go.Proofs.Ytmbjlondehcheaa
