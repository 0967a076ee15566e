/- What stays in memory while a function writes into some blocks, and how single operations over whole requests, frames and notes run (a slice literal of one, an append, a store of one cell). -/
import Derived.Test.YtmbjlondehcheaaProg
import Derived.Below
import Derived.OneCell
import Derived.WalkKit
import Derived.KernelRfl
import Derived.RowKit3
import Derived.Deep.LoopGhost
import Derived.Deep.QuietTactic
import Derived.BigQuiet
import Derived.Deep.DeepCutAuto
import Derived.Deep.CutBlock
import Derived.Deep.RegionWith
import Derived.OwnWalk
import Derived.Laws.Tables
import Derived.Laws.AppendOwn
import Derived.Shelf.SlSortCmp.KitK
import Derived.Shelf.RegionOpenPlain
import Derived.Sort.WalkB2
import Derived.Deep.MidRow
import Derived.Great.Walk
import Derived.Test.YtmbjlondehcheaaWWords
import Derived.Test.YtmbjlondehcheaaWLast
import Derived.Test.YtmbjlondehcheaaHPairMath
namespace Go.Proofs.Ytmbjlondehcheaa
open Go.Shelf Go.RowKit Go.Lib Go.Sort

/-- Nothing but the blocks in F has turned; blocks may have been laid. -/
structure Kept (w w' : World) (F : Nat → Prop) : Prop where
  os : w'.os = w.os
  tape : w'.tape = w.tape
  output : w'.output = w.output
  size : w.heap.size ≤ w'.heap.size
  block : ∀ k, k < w.heap.size → ¬ F k → w'.heap[k]? = w.heap[k]?

theorem Kept.refl (w : World) (F : Nat → Prop) : Kept w w F := ⟨rfl, rfl, rfl, Nat.le_refl _, fun _ _ _ => rfl⟩
theorem Kept.trans {w w1 w2 : World} {F G H : Nat → Prop} (h : Kept w w1 F) (h' : Kept w1 w2 G) (hF : ∀ k, k < w.heap.size → F k → H k) (hG : ∀ k, k < w.heap.size → G k → H k) : Kept w w2 H :=
  ⟨h'.os.trans h.os, h'.tape.trans h.tape, h'.output.trans h.output, Nat.le_trans h.size h'.size, fun k hk hn =>
    (h'.block k (Nat.lt_of_lt_of_le hk h.size) (fun hg => hn (hG k hk hg))).trans (h.block k hk (fun hf => hn (hF k hk hf)))⟩
theorem Kept.mono {w w' : World} {F G : Nat → Prop} (h : Kept w w' F) (hF : ∀ k, k < w.heap.size → F k → G k) : Kept w w' G :=
  ⟨h.os, h.tape, h.output, h.size, fun k hk hn => h.block k hk (fun hf => hn (hF k hk hf))⟩
theorem Kept.alloc (w : World) (o : Obj) (F : Nat → Prop) : Kept w (w.alloc o) F := ⟨rfl, rfl, rfl, by simp, fun k hk _ => heap_alloc_old w o hk⟩
theorem Kept.drewN (w : World) (q : Nat) (F : Nat → Prop) : Kept w (w.drewN q) F := ⟨rfl, rfl, rfl, Nat.le_refl _, fun _ _ _ => rfl⟩
theorem Kept.drew (w : World) (F : Nat → Prop) : Kept w w.drew F := ⟨rfl, rfl, rfl, Nat.le_refl _, fun _ _ _ => rfl⟩
theorem Kept.setRow (w : World) (g : Nat) (cs : Array Value) {F : Nat → Prop} (hF : F g) : Kept w (w.setRow g cs) F :=
  ⟨rfl, rfl, rfl, by simp, fun k _ hn => setRow_other w g k cs (fun e => hn (e ▸ hF))⟩
theorem Kept.grown {w w' : World} {row : Option Nat} (h : w.grownBy w' row) {F : Nat → Prop} (hF : ∀ k, some k = row → F k) : Kept w w' F :=
  ⟨h.os, h.tape, h.output, h.size, fun k hk hn => h.block k hk (fun e => hn (hF k e))⟩
theorem Kept.below {w w' : World} {F : Nat → Prop} (h : Kept w w' F) {B : Nat} (hB : B ≤ w.heap.size) (hF : ∀ k, k < B → ¬ F k) : Below B w w' :=
  ⟨h.os, h.tape, h.output, h.size, fun k hk => h.block k (by omega) (hF k hk)⟩

theorem heap_lt {w : World} {g : Nat} {o : Obj} (h : w.heap[g]? = some o) : g < w.heap.size := (Array.getElem?_eq_some_iff.1 h).1
theorem Kept.heap {w w' : World} {F : Nat → Prop} (h : Kept w w' F) {g : Nat} {o : Obj} (hg : w.heap[g]? = some o) (hn : ¬ F g) : w'.heap[g]? = some o := (h.block g (heap_lt hg) hn).trans hg
theorem Kept.owns {w w' : World} {F : Nat → Prop} (h : Kept w w' F) {base : Nat} {e : TypeId} {size : Nat} {v : Value} {n : Nat} {xs : List Value} (ho : w.ownsRow base e size v n xs) (hn : ∀ g, v.ownBlock = some g → ¬ F g) : w'.ownsRow base e size v n xs := by
  refine ⟨ho.1, ?_⟩
  rcases ho.2 with hn' | ⟨g, cap, cur, rfl, hb, hgg, rest⟩
  · exact .inl hn'
  · exact .inr ⟨g, cap, cur, rfl, hb, h.heap hgg (hn g rfl), rest⟩

section
variable {P : Program} {a : Act} {w : World} {K : Act → World → Prop} {Q : Exit → Act → World → Prop} {op : Oper}

/-- append, the run being known. -/
theorem wp_append (s x : Operand) (t1 t2 : TypeId) (ho : op.op = .call { callee := .builtin .append, args := #[s, x], argTypes := #[t1, t2] }) (v u : Value) (hs : a.eval s = v) (hx : a.eval x = u) (v' : Value) (w' : World)
    (hr : (Builtin.append_ #[t1, t2] op.type #[v, u]).run P w = .ok v' w') (h : K (a.put op.dst v') w') : op.wp P a w K Q := by
  unfold Oper.wp execOp
  simp only [ho, resolve, invoke, builtin, Sem.run_bind, Sem.run_pure, Result.andThen_ok, List.map_toArray, List.map_cons, List.map_nil, hs, hx, hr]
  exact h

/-- A slice literal of one value, the run being known. -/
theorem wp_lit1 (t : TypeId) (x : Operand) (ho : op.op = .buildSlice t 1 #[(0, x)]) (u : Value) (hx : a.eval x = u) (v' : Value) (w' : World)
    (hr : (Instr.buildSlice t 1 #[(0, u)]).run P w = .ok v' w') (h : K (a.put op.dst v') w') : op.wp P a w K Q := by
  unfold Oper.wp execOp
  simp only [ho, Sem.run_bind, Sem.run_pure, Result.andThen_ok, List.map_toArray, List.map_cons, List.map_nil, hx, hr]
  exact h

/-- A store of one cell into a variable that lies alone. -/
theorem wp_store_one (ty : TypeId) (x y : Operand) (ho : op.op = .store ty x y) (g : Nat) (v : Value) (hx : a.eval x = .pointer (some ⟨g, 0, none⟩)) (hy : a.eval y = v) (h1 : v.oneCell' = true)
    (t : TypeId) (old : Value) (hg : w.heap[g]? = some (.cells #[old] t (0, 0))) (hi : (P.info? ty).map (·.size) = some 1) (h : K (a.put op.dst undef) (w.setRow g #[v])) : op.wp P a w K Q := by
  unfold Oper.wp execOp
  simp only [ho, hx, hy, Instr.storeAt, Instr.sureAddr, Sem.run_bind, Sem.run_pure, Result.andThen_ok, run_storeVar_one w g t ty old _ hg hi h1]
  exact h
end

theorem owns_one {w : World} {base : Nat} {e : TypeId} {size : Nat} {v : Value} {n : Nat} {xs : List Value} (h : w.ownsRow base e size v n xs) : v.oneCell' = true := by
  rcases h.2 with ⟨rfl, _⟩ | ⟨g, cap, cur, rfl, _⟩ <;> rfl

/-- Requests' table row. -/
theorem info77 : ∃ ie z, Try.prog.info? 77 = some ie ∧ ie.zero = some z ∧ ie.size = 25 ∧ z.cells.size = 25 ∧ ie.bytes = 168 := by
  have h : ((Try.prog.info? 77).bind fun ie => ie.zero.map fun z => (ie.size, z.cells.size, ie.bytes)) = some (25, 25, 168) := by kernel_rfl
  cases hi : Try.prog.info? 77 with
  | none => rw [hi] at h; cases h
  | some ie =>
    rw [hi] at h
    cases hz : ie.zero with
    | none => simp [hz] at h
    | some z => simp [hz] at h; exact ⟨ie, z, rfl, hz, h.1, h.2.1, h.2.2⟩

/-- A slice literal of one value of many cells. -/
theorem run_lit1 {P : Program} (w : World) (t e : TypeId) (cs : List Value) (ie : TypeInfo) (z : Value) (k : Nat) (hu : P.underlying t = some (.slice e)) (hie : P.info? e = some ie) (hz : ie.zero = some z)
    (hk : ie.size = k) (hzk : z.cells.size = k) (hl : cs.length = k) (h0 : 0 < k) (hs : k ≤ 2 ^ 24) :
    (Instr.buildSlice t 1 #[(0, .agg cs.toArray)]).run P w = .ok (.slice (some ⟨w.heap.size, 0, none⟩) 1 1) (w.alloc (.cells cs.toArray e)) := by
  refine run_buildSlice w t e 1 _ cs.toArray ie z hu hie hz (by rw [hk]; omega) (by rw [hk]; omega) ?_
  have := Great.fill_whole (s := k) h0 [.agg cs.toArray] ((Array.range (1 * k)).map (z.cells[· % z.cells.size]!)) (fun v hv => by simp at hv; subst hv; simpa [Value.cells] using hl) (by simp)
  rw [hk, show (#[(0, Value.agg cs.toArray)] : Array (Nat × Value)).toList = ([Value.agg cs.toArray].zipIdx 0).map fun x => (x.2, x.1) from rfl, this]
  simp [Value.cells]

/-- A request, alone in a slice literal. -/
theorem lit_ent (w : World) (e : Ent) : (Instr.buildSlice 74 1 #[(0, .agg e.cs.toArray)]).run Try.prog w = .ok (.slice (some ⟨w.heap.size, 0, none⟩) 1 1) (w.alloc (.cells e.cs.toArray 77)) := by
  obtain ⟨ie, z, h1, h2, h3, h4, _⟩ := info77
  exact run_lit1 w 74 77 e.cs ie z 25 Try.underlying74 h1 h2 h3 h4 rfl (by omega) (by omega)

/-- A request, appended. -/
theorem app_ent (w : World) (ty : TypeId) (v : Value) (n : Nat) (xs : List Value) (e : Ent) (ho : w.ownsRow 0 77 25 v n xs) (g : Nat) (hg : w.heap[g]? = some (.cells e.cs.toArray 77 (0, 0))) (hn : n < 1000000) :
    ∃ v' w', (Builtin.append_ #[74, 74] ty #[v, .slice (some ⟨g, 0, none⟩) 1 1]).run Try.prog w = .ok v' w' ∧ w'.ownsRow 0 77 25 v' (n + 1) (xs ++ e.cs) ∧ w.grownBy w' v.ownBlock ∧
      (v'.ownBlock = v.ownBlock ∨ v'.ownBlock = some w.heap.size) := by
  obtain ⟨ie, z, h1, h2, h3, h4, h5⟩ := info77
  obtain ⟨v', w', q1, q2, q3, _, q5⟩ := run_append_own_at (P := Try.prog) w 0 74 ty 77 ie z 25 168 Try.underlying74 h1 h2 h3 h5 h4 (by omega) v n xs ho ⟨g, 0, none⟩ 1 1 e.cs rfl
    (fun j u hu => by rw [Addr.add_mid, cell_of_row w g (0 + j) _ 77 (0, 0) hg]; simpa using hu) e.one (by unfold maxLen; omega) (by omega) (Nat.zero_le _)
  exact ⟨v', w', q1, q2, q3, q5⟩

end Go.Proofs.Ytmbjlondehcheaa
