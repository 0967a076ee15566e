/- (*Pairs).asks, in part: what is noted behind what is dropped. -/
import Derived.Test.YtmbjlondehcheaaProg
import Derived.Below
import Derived.OneCell
import Derived.WalkKit
import Derived.KernelRfl
import Derived.RowKit3
import Derived.Deep.LoopGhost
import Derived.Deep.QuietTactic
import Derived.BigQuiet
import Derived.Deep.DeepCutAuto
import Derived.Deep.CutBlock
import Derived.Deep.RegionWith
import Derived.OwnWalk
import Derived.Laws.Tables
import Derived.Laws.AppendOwn
import Derived.Shelf.SlSortCmp.KitK
import Derived.Shelf.RegionOpenPlain
import Derived.Sort.WalkB2
import Derived.Deep.MidRow
import Derived.Great.Walk
import Derived.Test.YtmbjlondehcheaaWWords
import Derived.Test.YtmbjlondehcheaaWLast
import Derived.Laws.StructEq
import Derived.Maps.Own
import Derived.Maps.RangeRun
import Derived.Test.YtmbjlondehcheaaHPairHead
set_option linter.unusedSimpArgs false
set_option linter.unusedVariables false
namespace Go.Proofs.Ytmbjlondehcheaa
open Go.Shelf Go.RowKit Go.Lib Go.Sort Go.Proofs.YtmbjlondehcheaaW.PrintWords Go.Proofs.YtmbjlondehcheaaW.PrintLast

/-- Notes, one behind another. -/
def nts (l : List Nt) : List Value := l.flatMap Nt.cs

/-- What asking comes to: what is noted, what is open then, and how many were asked. -/
def ask (net : Bool) (L : List Ent) (all : Nat) (f : Fr) : List Nt × List Ent × Nat :=
  if net then (if L.length = 16 then ([⟨3, f, fr0⟩], L, all) else ([⟨0, f, fr0⟩], L ++ [⟨all, f⟩], all + 1))
  else if f.u = 0 then ([⟨1, f, fr0⟩], L, all) else (L.map (fun x => ⟨2, x.f, fr0⟩) ++ [⟨0, f, fr0⟩], [⟨all, f⟩], all + 1)

theorem PS.not_foot {w : World} {pb : Nat} {net : Bool} {B : Nat} {S : List Slot} {L : List Ent} {all : Nat} (h : PS w pb net B S L all) {g : Nat} {cur : Array Value} {e : TypeId} {fr : Nat × Nat} (hg : w.heap[g]? = some (.cells cur e fr)) (he : e ≠ 65 ∧ e ≠ 74 ∧ e ≠ 77) : ¬ foot pb B S g := by
  intro hf
  rcases hf with rfl | rfl | ⟨s, hs, rfl | ho⟩
  · rw [h.cell] at hg; injection hg with hg; injection hg with _ h2; exact he.1 h2.symm
  · rw [h.mp] at hg; cases hg
  · rw [(h.age s hs).at_] at hg; injection hg with hg; injection hg with _ h2; exact he.2.1 h2.symm
  · obtain ⟨cur', hc⟩ := (h.age s hs).own ho
    rw [hc] at hg; injection hg with hg; injection hg with _ h2; exact he.2.2 h2.symm

theorem PS.not_foot_row {w : World} {pb : Nat} {net : Bool} {B : Nat} {S : List Slot} {L : List Ent} {all : Nat} (h : PS w pb net B S L all) {e : TypeId} {size : Nat} {v : Value} {n : Nat} {xs : List Value} (ho : w.ownsRow 0 e size v n xs) (he : e ≠ 65 ∧ e ≠ 74 ∧ e ≠ 77) : ∀ g, v.ownBlock = some g → ¬ foot pb B S g := by
  intro g hg
  rcases ho.2 with ⟨rfl, _⟩ | ⟨g', cap, cur, rfl, _, hc, _⟩
  · simp [Value.ownBlock] at hg
  · simp [Value.ownBlock] at hg; subst hg; exact h.not_foot hc he

/-- Notes' table row. -/
theorem info55 : ∃ ie z, Try.prog.info? 55 = some ie ∧ ie.zero = some z ∧ ie.size = 49 ∧ z.cells.size = 49 ∧ ie.bytes = 328 := by
  have h : ((Try.prog.info? 55).bind fun ie => ie.zero.map fun z => (ie.size, z.cells.size, ie.bytes)) = some (49, 49, 328) := by kernel_rfl
  cases hi : Try.prog.info? 55 with
  | none => rw [hi] at h; cases h
  | some ie =>
    rw [hi] at h
    cases hz : ie.zero with
    | none => simp [hz] at h
    | some z => simp [hz] at h; exact ⟨ie, z, rfl, hz, h.1, h.2.1, h.2.2⟩

theorem lit_nt (w : World) (n : Nt) : (Instr.buildSlice 31 1 #[(0, .agg n.cs.toArray)]).run Try.prog w = .ok (.slice (some ⟨w.heap.size, 0, none⟩) 1 1) (w.alloc (.cells n.cs.toArray 55)) := by
  obtain ⟨ie, z, h1, h2, h3, h4, _⟩ := info55
  exact run_lit1 w 31 55 n.cs ie z 49 Try.underlying31 h1 h2 h3 h4 rfl (by omega) (by omega)

theorem app_nt (w : World) (ty : TypeId) (v : Value) (n : Nat) (xs : List Value) (f : Nt) (ho : w.ownsRow 0 55 49 v n xs) (g : Nat) (hg : w.heap[g]? = some (.cells f.cs.toArray 55 (0, 0))) (hn : n < 1000000) :
    ∃ v' w', (Builtin.append_ #[31, 31] ty #[v, .slice (some ⟨g, 0, none⟩) 1 1]).run Try.prog w = .ok v' w' ∧ w'.ownsRow 0 55 49 v' (n + 1) (xs ++ f.cs) ∧ w.grownBy w' v.ownBlock ∧
      (v'.ownBlock = v.ownBlock ∨ v'.ownBlock = some w.heap.size) := by
  obtain ⟨ie, z, h1, h2, h3, h4, h5⟩ := info55
  obtain ⟨v', w', q1, q2, q3, _, q5⟩ := run_append_own_at (P := Try.prog) w 0 31 ty 55 ie z 49 328 Try.underlying31 h1 h2 h3 h5 h4 (by omega) v n xs ho ⟨g, 0, none⟩ 1 1 f.cs rfl
    (fun j u hu => by rw [Addr.add_mid, cell_of_row w g (0 + j) _ 55 (0, 0) hg]; simpa using hu) f.one (by unfold maxLen; omega) (by omega) (Nat.zero_le _)
  exact ⟨v', w', q1, q2, q3, q5⟩

/-- One note, alone in a new slice. -/
theorem one_nt (w : World) (n : Nt) : (w.alloc (.cells n.cs.toArray 55)).ownsRow 0 55 49 (.slice (some ⟨w.heap.size, 0, none⟩) 1 1) 1 (nts [n]) :=
  ⟨rfl, .inr ⟨w.heap.size, 1, n.cs.toArray, rfl, Nat.zero_le _, heap_alloc_new _ _, Nat.le_refl _, by unfold maxLen; omega, rfl, by simp only [nts, List.flatMap_cons, List.flatMap_nil, List.append_nil]; exact List.take_of_length_le (Nat.le_of_eq (Nt.len n))⟩⟩

/-- What a call that asks or takes leaves. -/
structure Fin (w w' : World) (pb : Nat) (net : Bool) (B : Nat) (S : List Slot) (v : Value) (ns : List Nt) (L : List Ent) (all : Nat) : Prop where
  row : w'.ownsRow 0 55 49 v ns.length (nts ns)
  new : ∀ g, some g = v.ownBlock → w.heap.size ≤ g
  ps : ∃ S', PS w' pb net B S' L all ∧ ∀ b, foot pb B S' b → foot pb B S b ∨ w.heap.size ≤ b
  kept : Kept w w' (foot pb B S)

/-- put, and its note behind others. -/
theorem put_end (w W : World) (pb : Nat) (net : Bool) (B : Nat) (S S1 : List Slot) (L : List Ent) (all : Nat) (f : Fr) (hP : PS W pb net B S1 L all) (hf : L.length < 16) (hy : all < 1000000) (hft : ∀ b, foot pb B S1 b → foot pb B S b ∨ w.heap.size ≤ b) (hk : Kept w W (foot pb B S))
    (v5 : Value) (ns : List Nt) (h5 : W.ownsRow 0 55 49 v5 ns.length (nts ns)) (hn5 : ∀ g, some g = v5.ownBlock → w.heap.size ≤ g) (hl : ns.length ≤ 16) :
    Calls Try.prog 28 #[.pointer (some ⟨pb, 0, none⟩), .agg f.cs.toArray] W fun r W3 => r = .returned (.agg (Nt.mk 0 f fr0).cs.toArray) ∧
      (Instr.buildSlice 31 1 #[(0, .agg (Nt.mk 0 f fr0).cs.toArray)]).run Try.prog W3 = .ok (.slice (some ⟨W3.heap.size, 0, none⟩) 1 1) (W3.alloc (.cells (Nt.mk 0 f fr0).cs.toArray 55)) ∧
      ∀ tz, ∃ v' w', (Builtin.append_ #[31, 31] tz #[v5, .slice (some ⟨W3.heap.size, 0, none⟩) 1 1]).run Try.prog (W3.alloc (.cells (Nt.mk 0 f fr0).cs.toArray 55)) = .ok v' w' ∧ Fin w w' pb net B S v' (ns ++ [⟨0, f, fr0⟩]) (L ++ [⟨all, f⟩]) (all + 1) := by
  have hnf := hP.not_foot_row h5 (by decide)
  refine (put_calls W pb net B S1 L all f hP hf hy).mono fun r W3 ⟨he, S', P3, ft3, k3⟩ => ⟨he, lit_nt W3 _, fun tz => ?_⟩
  have q := Kept.alloc W3 (.cells (Nt.mk 0 f fr0).cs.toArray 55) (fun _ => False)
  have P4 := P3.kept q (fun _ _ h => h)
  have r4 := q.owns (k3.owns h5 hnf) (fun _ _ h => h)
  obtain ⟨v', w', a1, a2, a3, a4⟩ := app_nt _ tz v5 ns.length (nts ns) ⟨0, f, fr0⟩ r4 W3.heap.size (heap_alloc_new _ _) (by omega)
  have kg := Kept.grown a3 (F := fun b => some b = v5.ownBlock) (fun _ h => h)
  have hnf4 := P4.not_foot_row r4 (by decide)
  have hsW : w.heap.size ≤ W.heap.size := hk.size
  refine ⟨v', w', a1, ?_, ?_, ⟨S', P4.kept kg (fun b hb h => hnf4 b h.symm hb), fun b hb => ?_⟩, ?_⟩
  · simpa [nts, List.flatMap_append] using a2
  · intro g hg
    rcases a4 with h | h
    · exact hn5 g (hg.trans h)
    · rw [h] at hg; injection hg with hg
      have := k3.size
      simp at hg
      omega
  · rcases ft3 b hb with h | h
    · exact hft b h
    · exact .inr (by omega)
  · have k4 : Kept W w' (fun b => foot pb B S1 b ∨ some b = v5.ownBlock) := (k3.trans q (fun _ _ h => h) (fun _ _ h => h.elim)).trans kg (fun _ _ h => .inl h) (fun _ _ h => .inr h)
    refine hk.trans k4 (fun _ _ h => h) (fun b hb h => ?_)
    rcases h with h | h
    · rcases hft b h with h | h
      · exact h
      · omega
    · have := hn5 b h; omega

/-- How far the dropping of what was open has come. -/
structure Drop (w wr : World) (pb B : Nat) (S : List Slot) (L : List Ent) (all : Nat) (f : Fr) (a : Option Addr) (cap i : Nat) (v : Value) : Prop where
  ps : ∃ S1, PS wr pb false B S1 (L.drop i) all ∧ ∀ b, foot pb B S1 b → foot pb B S b ∨ w.heap.size ≤ b
  kept : Kept w wr (foot pb B S)
  fr : wr.heap[w.heap.size]? = some (.cells f.cs.toArray 44 (0, 0))
  open_ : wr.ownsRow 0 44 24 (.slice a L.length cap) L.length (frs L)
  newo : ∀ g, some g = (Value.slice a L.length cap).ownBlock → w.heap.size < g
  row : wr.ownsRow 0 55 49 v i (nts ((L.take i).map fun x => ⟨2, x.f, fr0⟩))
  new : ∀ g, some g = v.ownBlock → w.heap.size < g ∧ some g ≠ (Value.slice a L.length cap).ownBlock

theorem row_lt {w : World} {base : Nat} {e : TypeId} {size : Nat} {v : Value} {n : Nat} {xs : List Value} (h : w.ownsRow base e size v n xs) {g : Nat} (hg : some g = v.ownBlock) : g < w.heap.size := (h.lt g hg.symm).2

/-- One of those that were open is dropped. -/
theorem Drop.step {w wr : World} {pb B : Nat} {S : List Slot} {L : List Ent} {all : Nat} {f : Fr} {a : Option Addr} {cap i : Nat} {v : Value} (h : Drop w wr pb B S L all f a cap i v) (h1 : L.length ≤ 1) (hi : i < L.length) :
    ∃ (g : Nat) (x : Ent) (W2 : World), a = some ⟨g, 0, none⟩ ∧ wr.rangeAt g (i * 24) x.f.cs ∧ W2 = (wr.alloc (.cells fr0.cs.toArray 44)).setRow wr.heap.size x.f.cs.toArray ∧ W2.rangeAt wr.heap.size 0 [.int .u8 x.f.u, .int .u16 x.f.t] ∧
      Calls Try.prog 20 #[.pointer (some ⟨pb, 0, none⟩), .agg #[.int .u8 x.f.u, .int .u16 x.f.t]] W2 fun r W3 => ∃ y z, r = .returned (.tuple #[y, z]) ∧ W3.heap[wr.heap.size]? = some (.cells x.f.cs.toArray 44 (0, 0)) ∧
        (Instr.buildSlice 31 1 #[(0, .agg (Nt.mk 2 x.f fr0).cs.toArray)]).run Try.prog W3 = .ok (.slice (some ⟨W3.heap.size, 0, none⟩) 1 1) (W3.alloc (.cells (Nt.mk 2 x.f fr0).cs.toArray 55)) ∧
        ∀ tz, ∃ v' w', (Builtin.append_ #[31, 31] tz #[v, .slice (some ⟨W3.heap.size, 0, none⟩) 1 1]).run Try.prog (W3.alloc (.cells (Nt.mk 2 x.f fr0).cs.toArray 55)) = .ok v' w' ∧ Drop w w' pb B S L all f a cap (i + 1) v' := by
  obtain ⟨x, rfl⟩ : ∃ x, L = [x] := by
    match L, h1, hi with
    | [x], _, _ => exact ⟨x, rfl⟩
    | [], _, hi => simp at hi
    | _ :: _ :: _, h1, _ => simp at h1
  obtain rfl : i = 0 := by simpa using hi
  obtain ⟨g, cap', hv, hr⟩ := fr_at h.open_ hi
  injection hv with ha hb hc
  subst ha hc
  obtain ⟨S1, P1, ft1⟩ := h.ps
  have q1 : Kept wr ((wr.alloc (.cells fr0.cs.toArray 44)).setRow wr.heap.size x.f.cs.toArray) (fun _ => False) := (Kept.alloc wr _ (fun _ => False)).trans (Kept.setRow _ wr.heap.size _ (F := fun b => b = wr.heap.size) rfl) (fun _ _ h => h) (fun k hk h => by omega)
  have e1 := setRow_heap (wr.alloc (.cells fr0.cs.toArray 44)) wr.heap.size fr0.cs.toArray x.f.cs.toArray 44 _ (heap_alloc_new _ _)
  have hsz2 : ((wr.alloc (.cells fr0.cs.toArray 44)).setRow wr.heap.size x.f.cs.toArray).heap.size = wr.heap.size + 1 := by simp
  refine ⟨g, x, _, rfl, by simpa using hr, rfl, head_range e1, ?_⟩
  generalize ((wr.alloc (.cells fr0.cs.toArray 44)).setRow wr.heap.size x.f.cs.toArray) = W2 at *
  have P2 := P1.kept q1 (fun _ _ h => h)
  have hsw := h.kept.size
  refine (take_calls W2 pb false B S1 [x] all x.f.u x.f.t P2).mono fun r W3 ⟨S2, he, P3, ft3, k3⟩ => ?_
  have herase : [x].eraseP (hd x.f.u x.f.t) = [] := by simp [hd]
  rw [herase] at P3
  have n44 := P2.not_foot e1 (by decide)
  refine ⟨_, _, he, k3.heap e1 n44, lit_nt W3 _, fun tz => ?_⟩
  have q3 := Kept.alloc W3 (.cells (Nt.mk 2 x.f fr0).cs.toArray 55) (fun _ => False)
  have P4 := P3.kept q3 (fun _ _ h => h)
  have r2 := q1.owns h.row (fun _ _ h => h)
  have o2 := q1.owns h.open_ (fun _ _ h => h)
  have f2 := q1.heap h.fr (fun h => h)
  have r4 := q3.owns (k3.owns r2 (P2.not_foot_row r2 (by decide))) (fun _ _ h => h)
  have o4 := q3.owns (k3.owns o2 (P2.not_foot_row o2 (by decide))) (fun _ _ h => h)
  have f4 := q3.heap (k3.heap f2 (P2.not_foot f2 (by decide))) (fun h => h)
  obtain ⟨v', w', a1, a2, a3, a4⟩ := app_nt _ tz v 0 _ ⟨2, x.f, fr0⟩ r4 W3.heap.size (heap_alloc_new _ _) (by omega)
  have kg := Kept.grown a3 (F := fun b => some b = v.ownBlock) (fun _ h => h)
  have hnf4 := P4.not_foot_row r4 (by decide)
  have hs3 := k3.size
  have hgl : some g = (Value.slice (some ⟨g, 0, none⟩) [x].length cap).ownBlock := rfl
  have hgw := row_lt h.open_ hgl
  refine ⟨v', w', a1, ⟨S2, ?_, ?_⟩, ?_, ?_, ?_, h.newo, ?_, ?_⟩
  · exact P4.kept kg (fun b hb h => hnf4 b h.symm hb)
  · intro b hb
    rcases ft3 b hb with h' | h'
    · exact ft1 b h'
    · exact .inr (by omega)
  · have k4 : Kept wr w' (fun b => foot pb B S1 b ∨ some b = v.ownBlock) := ((q1.trans k3 (fun _ _ h => h.elim) (fun _ _ h => h)).trans q3 (fun _ _ h => h) (fun _ _ h => h.elim)).trans kg (fun _ _ h => .inl h) (fun _ _ h => .inr h)
    refine h.kept.trans k4 (fun _ _ h => h) (fun b hb h' => ?_)
    rcases h' with h' | h'
    · rcases ft1 b h' with h' | h'
      · exact h'
      · omega
    · have := (h.new b h').1; omega
  · exact kg.heap f4 (fun h' => by have := (h.new _ h').1; omega)
  · exact kg.owns o4 (fun b hb h' => (h.new b h').2 hb.symm)
  · simpa [nts] using a2
  · intro b hb
    rcases a4 with h' | h'
    · exact h.new b (hb.trans h')
    · rw [h'] at hb; injection hb with hb
      simp at hb
      refine ⟨by omega, fun e => ?_⟩
      rw [← hgl] at e; injection e with e
      omega

end Go.Proofs.Ytmbjlondehcheaa
