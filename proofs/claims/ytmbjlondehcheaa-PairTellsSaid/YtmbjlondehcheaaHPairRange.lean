/- (*Pairs).Open, in part: the range over the map comes to every slot, once. -/
import Derived.Test.YtmbjlondehcheaaProg
import Derived.Below
import Derived.OneCell
import Derived.WalkKit
import Derived.KernelRfl
import Derived.RowKit3
import Derived.Deep.LoopGhost
import Derived.Deep.QuietTactic
import Derived.BigQuiet
import Derived.Deep.DeepCutAuto
import Derived.Deep.CutBlock
import Derived.Deep.RegionWith
import Derived.OwnWalk
import Derived.Laws.Tables
import Derived.Laws.AppendOwn
import Derived.Shelf.SlSortCmp.KitK
import Derived.Shelf.RegionOpenPlain
import Derived.Sort.WalkB2
import Derived.Deep.MidRow
import Derived.Great.Walk
import Derived.Test.YtmbjlondehcheaaWWords
import Derived.Test.YtmbjlondehcheaaWLast
import Derived.Laws.StructEq
import Derived.Maps.Own
import Derived.Maps.RangeRun
import Derived.Test.YtmbjlondehcheaaHPairSort
set_option linter.unusedSimpArgs false
set_option linter.unusedVariables false
namespace Go.Proofs.Ytmbjlondehcheaa
open Go.Shelf Go.RowKit Go.Lib Go.Sort Go.Proofs.YtmbjlondehcheaaW.PrintWords Go.Proofs.YtmbjlondehcheaaW.PrintLast

instance : Inhabited Slot := ⟨⟨0, 0, 0, .nilFunc, #[]⟩⟩

theorem sum_sub {f : Nat → Nat} : ∀ {σ ρ : List Nat}, σ.Nodup → (∀ i ∈ σ, i ∈ ρ) → (σ.map f).sum ≤ (ρ.map f).sum
  | [], _, _, _ => by simp
  | a :: σ, ρ, hn, hs => by
    obtain ⟨h1, h2⟩ := List.nodup_cons.1 hn
    have hp := List.perm_cons_erase (hs a (by simp))
    have ih := sum_sub (f := f) (σ := σ) (ρ := ρ.erase a) h2 (fun i hi => (List.mem_erase_of_ne (fun e : i = a => h1 (by rw [← e]; exact hi))).2 (hs i (by simp [hi])))
    have := (hp.map f).sum_nat
    simp only [List.map_cons, List.sum_cons] at this ⊢
    omega

/-- What the slots named hold. -/
def pick (S : List Slot) (σ : List Nat) : List Ent := σ.flatMap fun i => (S[i]!).d.toList

theorem pick_len (S : List Slot) (σ : List Nat) : (pick S σ).length = (σ.map fun i => (S[i]!).d.size).sum := by
  induction σ with
  | nil => rfl
  | cons a σ ih => simp only [pick, List.flatMap_cons, List.length_append, List.map_cons, List.sum_cons] at *; rw [ih]; simp

theorem pick_all (S : List Slot) : pick S (List.range S.length) = S.flatMap fun s => s.d.toList := by
  unfold pick
  have : S = (List.range S.length).map fun i => S[i]! := by
    apply List.ext_getElem
    · simp
    · intro i h1 h2; simp [h1]
  conv => rhs; rw [this]
  rw [List.flatMap_map]

theorem pick_le {S : List Slot} {L : List Ent} {all : Nat} (h : Book S L all) {σ : List Nat} (hn : σ.Nodup) (hs : ∀ i ∈ σ, i < S.length) : (pick S σ).length ≤ L.length := by
  rw [h.perm.length_eq, ← pick_all, pick_len, pick_len]
  exact sum_sub hn (fun i hi => List.mem_range.2 (hs i hi))

theorem pick_perm {S : List Slot} {L : List Ent} {all : Nat} (h : Book S L all) {σ : List Nat} (hn : σ.Nodup) (hs : ∀ i ∈ σ, i < S.length) (ha : ∀ i, i < S.length → i ∈ σ) : (pick S σ).Perm L := by
  refine List.Perm.trans ?_ h.perm.symm
  rw [← pick_all]
  unfold pick
  exact List.Perm.flatMap_right _ ((List.perm_ext_iff_of_nodup hn List.nodup_range).2 fun i => ⟨fun hi => List.mem_range.2 (hs i hi), fun hi => ha i (List.mem_range.1 hi)⟩)

theorem app72 (ty : TypeId) (b : Option Addr) (n c : Nat) (u : Value) (w : World) : (Builtin.append_ #[72, 74] ty #[.slice b n c, u]).run Try.prog w = (Builtin.append_ #[72, 72] ty #[.slice b n c, u]).run Try.prog w := by
  obtain ⟨ie, z, h1, h2, h3, h4, h5⟩ := info77
  simp [Builtin.append_, run_underlying Try.underlying72, run_underlying Try.underlying74, sizeOf, typeInfo, h1]

theorem app_slot (w : World) (ty : TypeId) (v : Value) (n : Nat) (xs : List Value) (ho : w.ownsRow 0 77 25 v n xs) (u : Value) (d : Array Ent) (hu : w.ownsRow 0 77 25 u d.size (flat d)) (hn : n + d.size ≤ 1000) :
    ∃ v' w', (Builtin.append_ #[72, 74] ty #[v, u]).run Try.prog w = .ok v' w' ∧ w'.ownsRow 0 77 25 v' (n + d.size) (xs ++ flat d) ∧ w.grownBy w' v.ownBlock ∧ (v'.ownBlock = v.ownBlock ∨ v'.ownBlock = some w.heap.size) := by
  obtain ⟨b, c, hv⟩ : ∃ b c, v = .slice b n c := by
    rcases ho.2 with ⟨h, h0⟩ | ⟨g, cap, cur, h, _⟩
    · exact ⟨none, 0, by rw [h, h0]⟩
    · exact ⟨_, _, h⟩
  rw [show (Builtin.append_ #[72, 74] ty #[v, u]).run Try.prog w = (Builtin.append_ #[72, 72] ty #[v, u]).run Try.prog w by rw [hv]; exact app72 ty b n c u w]
  clear hv
  obtain ⟨ie, z, h1, h2, h3, h4, h5⟩ := info77
  rcases hu.2 with ⟨rfl, h0⟩ | ⟨g, cap, cur, rfl, _, hg, _⟩
  · have hd : d = #[] := Array.eq_empty_of_size_eq_zero h0
    subst hd
    have hl : flat #[] = [] := rfl
    rw [hl, List.append_nil]
    refine ⟨v, w, ?_, ho, ⟨rfl, rfl, rfl, Nat.le_refl _, fun _ _ _ => rfl⟩, .inl rfl⟩
    rcases ho.2 with ⟨rfl, rfl⟩ | ⟨g, cap, cur, rfl, _, _, hnc, _⟩
    · simp [Builtin.append_, run_underlying Try.underlying72, sizeOf, typeInfo, h1, Builtin.lenOf, Builtin.firstCells, loadCells, loadCellsFrom]
    · simp [Builtin.append_, run_underlying Try.underlying72, sizeOf, typeInfo, h1, Builtin.lenOf, Builtin.firstCells, loadCells, loadCellsFrom, hnc, storeCells]
  · obtain ⟨v', w', q1, q2, q3, _, q5⟩ := run_append_own_at (P := Try.prog) w 0 72 ty 77 ie z 25 168 Try.underlying72 h1 h2 h3 h5 h4 (by omega) v n xs ho ⟨g, 0, none⟩ d.size cap (flat d) hu.1
      (hu.cells rfl) (fun u hu => by
        obtain ⟨e, _, he⟩ := List.mem_flatMap.1 hu
        exact e.one u he) (by unfold maxLen; omega) (by omega) (Nat.zero_le _)
    exact ⟨v', w', q1, q2, q3, q5⟩

/-- Frames' table row. -/
theorem info44 : ∃ ie z, Try.prog.info? 44 = some ie ∧ ie.zero = some z ∧ ie.size = 24 ∧ z.cells.size = 24 ∧ ie.bytes = 160 := by
  have h : ((Try.prog.info? 44).bind fun ie => ie.zero.map fun z => (ie.size, z.cells.size, ie.bytes)) = some (24, 24, 160) := by kernel_rfl
  cases hi : Try.prog.info? 44 with
  | none => rw [hi] at h; cases h
  | some ie =>
    rw [hi] at h
    cases hz : ie.zero with
    | none => simp [hz] at h
    | some z => simp [hz] at h; exact ⟨ie, z, rfl, hz, h.1, h.2.1, h.2.2⟩

theorem lit_fr (w : World) (f : Fr) : (Instr.buildSlice 28 1 #[(0, .agg f.cs.toArray)]).run Try.prog w = .ok (.slice (some ⟨w.heap.size, 0, none⟩) 1 1) (w.alloc (.cells f.cs.toArray 44)) := by
  obtain ⟨ie, z, h1, h2, h3, h4, _⟩ := info44
  exact run_lit1 w 28 44 f.cs ie z 24 Try.underlying28 h1 h2 h3 h4 rfl (by omega) (by omega)

theorem app_fr (w : World) (ty : TypeId) (v : Value) (n : Nat) (xs : List Value) (f : Fr) (ho : w.ownsRow 0 44 24 v n xs) (g : Nat) (hg : w.heap[g]? = some (.cells f.cs.toArray 44 (0, 0))) (hn : n < 1000000) :
    ∃ v' w', (Builtin.append_ #[28, 28] ty #[v, .slice (some ⟨g, 0, none⟩) 1 1]).run Try.prog w = .ok v' w' ∧ w'.ownsRow 0 44 24 v' (n + 1) (xs ++ f.cs) ∧ w.grownBy w' v.ownBlock ∧
      (v'.ownBlock = v.ownBlock ∨ v'.ownBlock = some w.heap.size) := by
  obtain ⟨ie, z, h1, h2, h3, h4, h5⟩ := info44
  obtain ⟨v', w', q1, q2, q3, _, q5⟩ := run_append_own_at (P := Try.prog) w 0 28 ty 44 ie z 24 160 Try.underlying28 h1 h2 h3 h5 h4 (by omega) v n xs ho ⟨g, 0, none⟩ 1 1 f.cs rfl
    (fun j u hu => by rw [Addr.add_mid, cell_of_row w g (0 + j) _ 44 (0, 0) hg]; simpa using hu) f.one (by unfold maxLen; omega) (by omega) (Nat.zero_le _)
  exact ⟨v', w', q1, q2, q3, q5⟩

section
variable {P : Program} {ops : Array Oper} {rest : List Oper} {o : Oper} {a : Act} {w : World} {Q : Exit → Act → World → Prop}
theorem wpList_lit1 (hg : o.guard = none) (t : TypeId) (x : Operand) (ho : o.op = .buildSlice t 1 #[(0, x)]) (d : Option Tmp) (hd : o.dst = d) (u : Value) (hx : a.eval x = u) (v' : Value) (w' : World)
    (hr : (Instr.buildSlice t 1 #[(0, u)]).run P w = .ok v' w') (h : wpList P ops Q rest (a.put d v') w') : wpList P ops Q (o :: rest) a w := by
  subst hd
  exact wpList_plain hg fun _ hK => wp_lit1 t x ho u hx v' w' hr (hK _ _ h)
theorem wpList_app (hg : o.guard = none) (s x : Operand) (t1 t2 : TypeId) (ho : o.op = .call { callee := .builtin .append, args := #[s, x], argTypes := #[t1, t2] }) (d : Option Tmp) (hd : o.dst = d) (v u : Value) (hs : a.eval s = v) (hx : a.eval x = u) (v' : Value) (w' : World)
    (hr : (Builtin.append_ #[t1, t2] o.type #[v, u]).run P w = .ok v' w') (h : wpList P ops Q rest (a.put d v') w') : wpList P ops Q (o :: rest) a w := by
  subst hd
  exact wpList_plain hg fun _ hK => wp_append s x t1 t2 ho v u hs hx v' w' hr (hK _ _ h)
end

theorem entries_born (S : List Slot) : ((entries S).toList.map (·.born)).Nodup := by
  have : (entries S).toList.map (·.born) = List.range S.length := by
    apply List.ext_getElem
    · simp [entries, entriesL]
    · intro i h1 h2; simp [entries, entriesL, entry1]
  rw [this]
  exact List.nodup_range

theorem entries_mem {S : List Slot} {e : MapEntry} (he : e ∈ (entries S).toList) : ∃ i, ∃ h : i < S.length, e = entry1 i S[i] := by
  obtain ⟨i, hi, h⟩ := List.mem_mapIdx.1 (show e ∈ S.mapIdx entry1 from he)
  exact ⟨i, hi, h.symm⟩

theorem fr_range {w : World} {b : Nat} {e : Ent} {t : TypeId} {fr : Nat × Nat} (h : w.heap[b]? = some (.cells e.cs.toArray t fr)) : w.rangeAt b 1 e.f.cs := by
  intro j v hv
  rw [cell_of_row w b (1 + j) _ t fr h, Nat.add_comm]
  simpa [Ent.cs] using hv

theorem flat_append (a b : Array Ent) : flat (a ++ b) = flat a ++ flat b := by simp [flat, List.flatMap_append]

/-- The slots that the range has come to. -/
def Seen (w wr : World) (B : Nat) (S : List Slot) (kx : Nat) (v : Value) : Prop :=
  ∃ (σ : List Nat) (c0 : Nat) (acc : Array Ent), wr.heap[w.heap.size]? = some (.mapIter (some B) S.length σ.toArray c0) ∧ S.length ≤ c0 ∧ σ.Nodup ∧ (∀ i ∈ σ, i < S.length) ∧ acc.toList = pick S σ ∧
    wr.ownsRow 0 77 25 v acc.size (flat acc) ∧ (∀ g, some g = v.ownBlock → w.heap.size < g) ∧ Kept w wr (fun _ => False) ∧ S.length - σ.length ≤ kx

theorem sum_ones : ∀ (l : List Nat), (l.map fun _ => 1).sum = l.length
  | [] => rfl
  | a :: l => by rw [List.map_cons, List.sum_cons, sum_ones l, List.length_cons]; omega

theorem nodup_lt {σ : List Nat} {n i : Nat} (hn : σ.Nodup) (hl : ∀ j ∈ σ, j < n) (hi : i < n) (hni : i ∉ σ) : σ.length < n := by
  have h := sum_sub (f := fun _ => 1) (σ := i :: σ) (ρ := List.range n) (List.nodup_cons.2 ⟨hni, hn⟩) (fun j hj => by
    rcases List.mem_cons.1 hj with e | h
    · rw [e]; exact List.mem_range.2 hi
    · exact List.mem_range.2 (hl j h))
  rw [sum_ones, sum_ones] at h
  simp at h
  omega

theorem pick_snoc (S : List Slot) (σ : List Nat) (i : Nat) : pick S (σ ++ [i]) = pick S σ ++ (S[i]!).d.toList := by simp [pick, List.flatMap_append]

theorem setBlock_heap_same {w : World} {r : Nat} {o o' : Obj} (h : w.heap[r]? = some o) : (ChangeMaps.setBlock w r o').heap[r]? = some o' := by
  have := heap_lt h
  simp [ChangeMaps.setBlock, this]

set_option maxHeartbeats 1000000 in
/-- One step of the range. -/
theorem seen_step {w wr : World} {pb : Nat} {net : Bool} {B : Nat} {S : List Slot} {L : List Ent} {all : Nat} (hP : PS w pb net B S L all) {kx : Nat} {v : Value} (h : Seen w wr B S kx v) (ty : TypeId) :
    ((Instr.next (.pointer (some ⟨w.heap.size, 0, none⟩)) false ty).run Try.prog wr = .ok (.tuple #[.bool false]) wr ∧ ∃ acc : Array Ent, acc.toList.Perm L ∧ wr.ownsRow 0 77 25 v acc.size (flat acc)) ∨
    ∃ (key : Value) (s : Slot) (W : World), s ∈ S ∧ (Instr.next (.pointer (some ⟨w.heap.size, 0, none⟩)) false ty).run Try.prog wr = .ok (.tuple #[.bool true, key, .pointer (some ⟨s.c, 0, none⟩)]) W ∧
      (Instr.entry (.pointer (some ⟨w.heap.size, 0, none⟩))).run Try.prog W = .ok (.tuple #[key, .pointer (some ⟨s.c, 0, none⟩)]) W ∧ W.cell? ⟨s.c, 0, none⟩ = some s.v ∧ 0 < kx ∧
      ∀ tz, ∃ v' w', (Builtin.append_ #[72, 74] tz #[v, s.v]).run Try.prog W = .ok v' w' ∧ Seen w w' B S (kx - 1) v' := by
  obtain ⟨σ, c0, acc, hr, hc0, hnd, hlt, hacc, how, hfr, hk, hkx⟩ := h
  have hb := (hP.kept hk (fun _ _ h => h)).mp
  have hold : ∀ x ∈ (entries S).toList, x.born < S.length := fun x hx => by obtain ⟨i, hi, rfl⟩ := entries_mem hx; exact hi
  rcases run_next_at (P := Try.prog) wr ty w.heap.size B S.length c0 σ.toArray (entries S) S.length hr hb hold hc0 with ⟨h0, hrun⟩ | ⟨e, he, w1, hal, hrun⟩
  · refine .inl ⟨hrun, acc, ?_, how⟩
    rw [hacc]
    refine pick_perm hP.book hnd hlt fun i hi => ?_
    have hm : entry1 i S[i] ∈ (entries S).toList := List.mem_mapIdx.2 ⟨i, hi, rfl⟩
    have := all_seen (entries S) σ.toArray h0 _ hm
    simpa [entry1] using this
  · obtain ⟨hem, hes⟩ := mem_left he
    obtain ⟨i, hi, rfl⟩ := entries_mem hem
    have hni : i ∉ σ := by simpa [entry1] using hes
    have hr1 : w1.heap[w.heap.size]? = some (.mapIter (some B) S.length σ.toArray c0) := by rcases hal with rfl | rfl <;> exact hr
    have hb1 : w1.heap[B]? = some (.map (entries S) S.length) := by rcases hal with rfl | rfl <;> exact hb
    have hk1 : Kept w w1 (fun _ => False) := by rcases hal with rfl | rfl <;> exact ⟨hk.os, hk.tape, hk.output, hk.size, hk.block⟩
    have how1 : w1.ownsRow 0 77 25 v acc.size (flat acc) := by rcases hal with rfl | rfl <;> exact how
    have hBl := hP.foot_lt (b := B) (.inr (.inl rfl))
    have hr2 := setBlock_heap_same (o' := .mapIter (some B) S.length (σ.toArray.push i) S.length) hr1
    have kS := Kept.block' w1 w.heap.size (.mapIter (some B) S.length (σ.toArray.push i) S.length) (F := fun b => b = w.heap.size) rfl
    have hb2 := kS.heap hb1 (fun e => by omega)
    have hk2 : Kept w (ChangeMaps.setBlock w1 w.heap.size (.mapIter (some B) S.length (σ.toArray.push i) S.length)) (fun _ => False) := hk1.trans kS (fun _ _ h => h) (fun k hk h => by omega)
    have hs : S[i] ∈ S := by simp
    have P2 := hP.kept hk2 (fun _ _ h => h)
    have A2 := P2.age _ hs
    have how2 := kS.owns how1 (fun g hg h => by have := hfr g hg.symm; omega)
    have hentry := run_entry_at (P := Try.prog) _ w.heap.size B S.length σ.toArray (entries S) S.length (entry1 i S[i]) hr2 hb2 hem (entries_born S)
    have hlen1 : (pick S (σ ++ [i])).length ≤ L.length := pick_le hP.book (by rw [List.nodup_append]; exact ⟨hnd, by simp, fun a ha b hb => by simp at hb; subst hb; exact fun e => hni (by rw [← e]; exact ha)⟩) (fun j hj => by
      rcases List.mem_append.1 hj with h | h
      · exact hlt j h
      · simp at h; omega)
    have hSi : S[i]! = S[i] := getElem!_pos S i hi
    have hlen2 : acc.size + (S[i]).d.size ≤ L.length := by
      rw [pick_snoc, List.length_append, ← hacc, hSi] at hlen1
      simpa using hlen1
    have hfew := hP.few
    have hσ : σ.length < S.length := nodup_lt hnd hlt hi hni
    refine .inr ⟨_, S[i], _, hs, hrun, hentry, A2.cell, by omega, fun tz => ?_⟩
    obtain ⟨v', w', q1, q2, q3, q4⟩ := app_slot _ tz v acc.size (flat acc) how2 S[i].v S[i].d A2.row (by omega)
    have kg := Kept.grown q3 (F := fun b => some b = v.ownBlock) (fun _ h => h)
    have hsz : (ChangeMaps.setBlock w1 w.heap.size (.mapIter (some B) S.length (σ.toArray.push i) S.length)).heap.size = w1.heap.size := by simp [ChangeMaps.setBlock]
    refine ⟨v', w', q1, σ ++ [i], S.length, acc ++ S[i].d, ?_, Nat.le_refl _, ?_, ?_, ?_, ?_, ?_, ?_, ?_⟩
    · have := kg.heap hr2 (fun e => by have := hfr _ e; omega)
      simpa using this
    · rw [List.nodup_append]; exact ⟨hnd, by simp, fun a ha b hb => by simp at hb; subst hb; exact fun e => hni (by rw [← e]; exact ha)⟩
    · intro j hj
      rcases List.mem_append.1 hj with h | h
      · exact hlt j h
      · simp at h; omega
    · rw [pick_snoc, ← hacc, hSi]; simp
    · rw [flat_append]; simpa using q2
    · intro g hg
      rcases q4 with h | h
      · exact hfr g (hg.trans h)
      · rw [h] at hg; injection hg with hg
        have := heap_lt hr1
        omega
    · exact hk2.trans kg (fun _ _ h => h) (fun k hk h => by have := hfr k h; omega)
    · simp; omega

end Go.Proofs.Ytmbjlondehcheaa
