/- PairTells: the document's Take is the law 'step', and leaves its list as the law says. -/
import Derived.Test.YtmbjlondehcheaaProg
import Derived.Below
import Derived.OneCell
import Derived.WalkKit
import Derived.KernelRfl
import Derived.RowKit3
import Derived.Deep.LoopGhost
import Derived.Deep.QuietTactic
import Derived.BigQuiet
import Derived.Deep.DeepCutAuto
import Derived.Deep.CutBlock
import Derived.Deep.RegionWith
import Derived.OwnWalk
import Derived.Laws.Tables
import Derived.Laws.AppendOwn
import Derived.Shelf.SlSortCmp.KitK
import Derived.Shelf.RegionOpenPlain
import Derived.Sort.WalkB2
import Derived.Deep.MidRow
import Derived.Great.Walk
import Derived.Test.YtmbjlondehcheaaWWords
import Derived.Test.YtmbjlondehcheaaWLast
import Derived.Laws.StructEq
import Derived.Maps.Own
import Derived.Maps.RangeRun
import Derived.Test.YtmbjlondehcheaaHPairRef
set_option linter.unusedSimpArgs false
set_option linter.unusedVariables false
namespace Go.Proofs.Ytmbjlondehcheaa
open Go.Shelf Go.RowKit Go.Lib Go.Sort Go.Proofs.YtmbjlondehcheaaW.PrintWords Go.Proofs.YtmbjlondehcheaaW.PrintLast Go.Proofs.Ytmbjlondehcheaa.PFW

theorem info70 : ∃ ie z, Try.prog.info? 70 = some ie ∧ ie.zero = some z ∧ ie.size = 49 ∧ z.cells.size = 49 ∧ ie.bytes = 328 := by
  have h : ((Try.prog.info? 70).bind fun ie => ie.zero.map fun z => (ie.size, z.cells.size, ie.bytes)) = some (49, 49, 328) := by kernel_rfl
  cases hi : Try.prog.info? 70 with
  | none => rw [hi] at h; cases h
  | some ie =>
    rw [hi] at h
    cases hz : ie.zero with
    | none => simp [hz] at h
    | some z => simp [hz] at h; exact ⟨ie, z, rfl, hz, h.1, h.2.1, h.2.2⟩
theorem rt_ask (k : Int) (f : Fr) : Try.prog.built 70 [(0, .int .i64 k), (1, .agg f.cs.toArray)] = some (Nt.mk k f fr0).cs.toArray := by kernel_rfl
theorem rt_ans (k : Int) (f : Fr) : Try.prog.built 70 [(0, .int .i64 k), (2, .agg f.cs.toArray)] = some (Nt.mk k fr0 f).cs.toArray := by kernel_rfl
theorem rt_both (k : Int) (f g : Fr) : Try.prog.built 70 [(0, .int .i64 k), (1, .agg f.cs.toArray), (2, .agg g.cs.toArray)] = some (Nt.mk k f g).cs.toArray := by kernel_rfl
theorem lit_rt (w : World) (n : Nt) : (Instr.buildSlice 47 1 #[(0, .agg n.cs.toArray)]).run Try.prog w = .ok (.slice (some ⟨w.heap.size, 0, none⟩) 1 1) (w.alloc (.cells n.cs.toArray 70)) := by
  obtain ⟨ie, z, h1, h2, h3, h4, _⟩ := info70
  exact run_lit1 w 47 70 n.cs ie z 49 Try.underlying47 h1 h2 h3 h4 rfl (by omega) (by omega)
theorem app_rt (w : World) (ty : TypeId) (v : Value) (n : Nat) (xs : List Value) (f : Nt) (ho : w.ownsRow 0 70 49 v n xs) (g : Nat) (hg : w.heap[g]? = some (.cells f.cs.toArray 70 (0, 0))) (hn : n < 1000000) :
    ∃ v' w', (Builtin.append_ #[47, 47] ty #[v, .slice (some ⟨g, 0, none⟩) 1 1]).run Try.prog w = .ok v' w' ∧ w'.ownsRow 0 70 49 v' (n + 1) (xs ++ f.cs) ∧ w.grownBy w' v.ownBlock ∧
      (v'.ownBlock = v.ownBlock ∨ v'.ownBlock = some w.heap.size) := by
  obtain ⟨ie, z, h1, h2, h3, h4, h5⟩ := info70
  obtain ⟨v', w', q1, q2, q3, _, q5⟩ := run_append_own_at (P := Try.prog) w 0 47 ty 70 ie z 49 328 Try.underlying47 h1 h2 h3 h5 h4 (by omega) v n xs ho ⟨g, 0, none⟩ 1 1 f.cs rfl
    (fun j u hu => by rw [Addr.add_mid, cell_of_row w g (0 + j) _ 70 (0, 0) hg]; simpa using hu) f.one (by unfold maxLen; omega) (by omega) (Nat.zero_le _)
  exact ⟨v', w', q1, q2, q3, q5⟩
theorem one_rt (w : World) (n : Nt) : (w.alloc (.cells n.cs.toArray 70)).ownsRow 0 70 49 (.slice (some ⟨w.heap.size, 0, none⟩) 1 1) 1 (nts [n]) :=
  ⟨rfl, .inr ⟨w.heap.size, 1, n.cs.toArray, rfl, Nat.zero_le _, heap_alloc_new _ _, Nat.le_refl _, by unfold maxLen; omega, rfl, by simp only [nts, List.flatMap_cons, List.flatMap_nil, List.append_nil]; exact List.take_of_length_le (Nat.le_of_eq (Nt.len n))⟩⟩

theorem lit0_28 (w : World) : (Instr.buildSlice 28 0 #[]).run Try.prog w = .ok (.slice (some ⟨w.heap.size, 0, none⟩) 0 0) (w.alloc (.cells #[] 44)) := by
  obtain ⟨ie, z, h1, h2, h3, h4, h5⟩ := info44
  simp [Instr.buildSlice, run_underlying Try.underlying28, sizeOf, typeInfo, h1, Instr.fill, newRow]
  have h0 : Array.map (fun _ => (default : Value)) (Array.range 0) = #[] := Array.eq_empty_of_size_eq_zero (by simp)
  first
    | rfl
    | simp [h0]

theorem app_frs (w : World) (ty : TypeId) (v : Value) (n : Nat) (xs : List Value) (ho : w.ownsRow 0 44 24 v n xs) (u : Value) (M : List Ent) (hu : w.ownsRow 0 44 24 u M.length (frs M)) (hn : n + M.length ≤ 1000) :
    ∃ v' w', (Builtin.append_ #[28, 28] ty #[v, u]).run Try.prog w = .ok v' w' ∧ w'.ownsRow 0 44 24 v' (n + M.length) (xs ++ frs M) ∧ w.grownBy w' v.ownBlock ∧ (v'.ownBlock = v.ownBlock ∨ v'.ownBlock = some w.heap.size) := by
  obtain ⟨ie, z, h1, h2, h3, h4, h5⟩ := info44
  rcases hu.2 with ⟨rfl, h0⟩ | ⟨g, cap, cur, rfl, _, hg, _⟩
  · have hd : M = [] := List.eq_nil_of_length_eq_zero h0
    subst hd
    have hl : frs [] = [] := rfl
    rw [hl, List.append_nil]
    refine ⟨v, w, ?_, ho, ⟨rfl, rfl, rfl, Nat.le_refl _, fun _ _ _ => rfl⟩, .inl rfl⟩
    rcases ho.2 with ⟨rfl, rfl⟩ | ⟨g, cap, cur, rfl, _, _, hnc, _⟩
    · simp [Builtin.append_, run_underlying Try.underlying28, sizeOf, typeInfo, h1, Builtin.lenOf, Builtin.firstCells, loadCells, loadCellsFrom]
    · simp [Builtin.append_, run_underlying Try.underlying28, sizeOf, typeInfo, h1, Builtin.lenOf, Builtin.firstCells, loadCells, loadCellsFrom, hnc, storeCells]
  · obtain ⟨v', w', q1, q2, q3, _, q5⟩ := run_append_own_at (P := Try.prog) w 0 28 ty 44 ie z 24 160 Try.underlying28 h1 h2 h3 h5 h4 (by omega) v n xs ho ⟨g, 0, none⟩ M.length cap (frs M) hu.1
      (hu.cells rfl) (fun u hu => by
        obtain ⟨e, _, he⟩ := List.mem_flatMap.1 hu
        exact e.f.one u he) (by unfold maxLen; omega) (by omega) (Nat.zero_le _)
    exact ⟨v', w', q1, q2, q3, q5⟩

/-- A store of one cell within a row. -/
theorem wp_store_cell {P : Program} {a : Act} {w : World} {K : Act → World → Prop} {Q : Exit → Act → World → Prop} {op : Oper} (ty : TypeId) (x y : Operand) (ho : op.op = .store ty x y) (b o : Nat) (v : Value) (hx : a.eval x = .pointer (some ⟨b, o, none⟩)) (hy : a.eval y = v) (h1 : v.oneCell' = true)
    (t : TypeId) (cs : Array Value) (hb : w.heap[b]? = some (.cells cs t (0, 0))) (hlt : o < cs.size) (hi : (P.info? ty).map (·.size) = some 1) (h : K (a.put op.dst undef) (w.setCell ⟨b, o, none⟩ v)) : op.wp P a w K Q := by
  have hrun : (storeVar ty ⟨b, o, none⟩ v).run P w = .ok () (w.setCell ⟨b, o, none⟩ v) := by
    have := run_storeCells_cells (P := P) b o [v] 0 w (fun j hj => by
        obtain rfl : j = 0 := by simpa using hj
        simp only [Nat.add_zero]
        rw [cell_of_row w b o _ t (0, 0) hb]
        simp [hlt]) (fun j hj => by
        obtain rfl : j = 0 := by simpa using hj
        simp [World.frozen?, hb]) (fun x hx => by simp at hx; subst hx; exact h1)
    have hc : v.cells = #[v] := by cases v <;> first | rfl | cases h1
    cases hq : P.info? ty with
    | none => simp [hq] at hi
    | some i =>
      have hs : i.size = 1 := by simpa [hq] using hi
      simp [storeVar, sizeOf, typeInfo, hq, hc, hs, this]
      rfl
  unfold Oper.wp execOp
  simp only [ho, hx, hy, Instr.storeAt, Instr.sureAddr, Sem.run_bind, Sem.run_pure, Result.andThen_ok, hrun]
  exact h

/-- What the document's Take leaves. -/
structure RRes (w w' : World) (rb : Nat) (net : Bool) (v : Value) (ns : List Nt) (L : List Ent) : Prop where
  row : w'.ownsRow 0 70 49 v ns.length (nts ns)
  ref : RefAt w' rb net L
  kept : Kept w w' (fun b => b = rb)
theorem RRes.base {w w1 w' : World} {rb : Nat} {net : Bool} {v : Value} {ns : List Nt} {L : List Ent} (h : RRes w1 w' rb net v ns L) (k : Kept w w1 (fun _ => False)) : RRes w w' rb net v ns L := ⟨h.row, h.ref, k.trans h.kept (fun _ _ h => h.elim) (fun _ _ h => h)⟩
theorem rr_one {w : World} {rb : Nat} {net : Bool} {L : List Ent} {v : Value} (R : RefV w rb net L v) (n : Nt) : RRes w (w.alloc (.cells n.cs.toArray 70)) rb net (.slice (some ⟨w.heap.size, 0, none⟩) 1 1) [n] L :=
  ⟨one_rt w n, ⟨v, R.keep (Kept.alloc w _ _)⟩, Kept.alloc w _ _⟩

/-! ### The list, copied, with one behind it: the orders that are left free -/
section
variable {w : World} {rb : Nat} {net : Bool} {M : List Ent} {v : Value} {f : Fr} {fb : Nat}
theorem cp_a {w1 : World} (k : Kept w w1 (fun _ => False)) : Kept w (w1.alloc (.cells #[] 44)) (fun _ => False) ∧ (w1.alloc (.cells #[] 44)).ownsRow 0 44 24 (.slice (some ⟨w1.heap.size, 0, none⟩) 0 0) 0 [] :=
  ⟨k.trans (Kept.alloc w1 _ (fun _ => False)) (fun _ _ h => h) (fun _ _ h => h), World.ownsRow_made (base := 0) w1 #[] 0 (Nat.zero_le _) (by unfold maxLen; omega) rfl⟩
theorem cp_b {w1 : World} (k : Kept w w1 (fun _ => False)) (R : RefV w rb net M v) (hM : M.length ≤ 100) {g : Nat} (hg : w.heap.size ≤ g) (ho : w1.ownsRow 0 44 24 (.slice (some ⟨g, 0, none⟩) 0 0) 0 []) (ty : TypeId) :
    ∃ v' w', (Builtin.append_ #[28, 28] ty #[.slice (some ⟨g, 0, none⟩) 0 0, v]).run Try.prog w1 = .ok v' w' ∧ Kept w w' (fun _ => False) ∧ w'.ownsRow 0 44 24 v' M.length (frs M) ∧ (∀ b, some b = v'.ownBlock → w.heap.size ≤ b) ∧ Kept w1 w' (fun b => b = g) := by
  obtain ⟨v', w', q1, q2, q3, q4⟩ := app_frs w1 ty _ 0 [] ho v M (R.keep k).row (by omega)
  have kg := Kept.grown q3 (F := fun b => b = g) (fun b hb => by simpa [Value.ownBlock] using hb)
  refine ⟨v', w', q1, k.trans kg (fun _ _ h => h) (fun b hb h => by omega), by simpa using q2, fun b hb => ?_, kg⟩
  rcases q4 with h | h
  · rw [h] at hb; simp [Value.ownBlock] at hb; omega
  · rw [h] at hb
    injection hb with hb
    have := k.size
    omega
theorem cp_c {w1 : World} (k : Kept w w1 (fun _ => False)) (f : Fr) : Kept w (w1.alloc (.cells f.cs.toArray 44)) (fun _ => False) ∧ (w1.alloc (.cells f.cs.toArray 44)).heap[w1.heap.size]? = some (.cells f.cs.toArray 44 (0, 0)) ∧ w.heap.size ≤ w1.heap.size :=
  ⟨k.trans (Kept.alloc w1 _ (fun _ => False)) (fun _ _ h => h) (fun _ _ h => h), heap_alloc_new _ _, k.size⟩
/-- What all orders leave. -/
structure Cp (w w' : World) (M : List Ent) (f : Fr) (vB : Value) (g : Nat) : Prop where
  kept : Kept w w' (fun _ => False)
  row : w'.ownsRow 0 44 24 vB M.length (frs M)
  new : ∀ b, some b = vB.ownBlock → w.heap.size ≤ b
  var : w'.heap[g]? = some (.cells f.cs.toArray 44 (0, 0))
theorem Cp.put {w' : World} {vB : Value} {g : Nat} (h : Cp w w' M f vB g) (R : RefV w rb net M v) (hM : M.length ≤ 100) (all : Nat) (ty : TypeId) :
    ∃ v' w2, (Builtin.append_ #[28, 28] ty #[vB, .slice (some ⟨g, 0, none⟩) 1 1]).run Try.prog w' = .ok v' w2 ∧ Kept w w2 (fun _ => False) ∧ v'.oneCell' = true ∧ w2.heap[rb]? = some (.cells #[.bool net, v] 30 (0, 0)) ∧
      RefV (w2.setCell ⟨rb, 1, none⟩ v') rb net (M ++ [⟨all, f⟩]) v' ∧ Kept w (w2.setCell ⟨rb, 1, none⟩ v') (fun b => b = rb) := by
  obtain ⟨v', w2, q1, q2, q3, q4, q5⟩ := put_fr h.row hM h.new h.kept ⟨all, f⟩ h.var ty
  obtain ⟨p1, p2⟩ := (R.keep q4).set q2
  exact ⟨v', w2, q1, q4, owns_one q2, (R.keep q4).cell, p1, q4.trans p2 (fun _ _ h => h.elim) (fun _ _ h => h)⟩
end

theorem rt_end {w W W2 : World} {rb : Nat} {net : Bool} {L' : List Ent} {v' v7 : Value} {ns : List Nt} (k : Kept w W (fun b => b = rb)) (ho : W.ownsRow 0 70 49 v7 ns.length (nts ns)) (hn : ns.length ≤ 10) (hnew : ∀ b, some b = v7.ownBlock → w.heap.size ≤ b)
    (R2 : RefV W2 rb net L' v') (k2 : Kept W W2 (fun b => b = rb)) {cs : Array Value} (hW : W.heap[rb]? = some (.cells cs 30 (0, 0))) (n : Nt) (ty : TypeId) :
    ∃ v8 w4, (Builtin.append_ #[47, 47] ty #[v7, .slice (some ⟨W2.heap.size, 0, none⟩) 1 1]).run Try.prog (W2.alloc (.cells n.cs.toArray 70)) = .ok v8 w4 ∧ RRes w w4 rb net v8 (ns ++ [n]) L' := by
  have q := Kept.alloc W2 (.cells n.cs.toArray 70) (fun _ => False)
  have o2 := q.owns (k2.owns ho (fun g hg e => row_ne ho hW (by decide) hg e)) (fun _ _ h => h)
  obtain ⟨v8, w4, a1, a2, a3, a4⟩ := app_rt (W2.alloc (.cells n.cs.toArray 70)) ty v7 ns.length (nts ns) n o2 W2.heap.size (heap_alloc_new _ _) (by omega)
  have kg := Kept.grown a3 (F := fun b => some b = v7.ownBlock) (fun _ h => h)
  have R3 := (R2.keep q).kept kg (fun e => row_ne o2 (R2.keep q).cell (by decide) e.symm rfl) (fun g hg e => by
    obtain ⟨c1, h1⟩ := row_cell (R2.keep q).row hg
    obtain ⟨c2, h2⟩ := row_cell o2 e.symm
    rw [h1] at h2
    injection h2 with h2
    injection h2 with _ h3
    exact absurd h3 (by decide))
  refine ⟨v8, w4, a1, ⟨by simpa [nts, List.flatMap_append] using a2, ⟨v', R3⟩, ?_⟩⟩
  have k3 : Kept w (W2.alloc (.cells n.cs.toArray 70)) (fun b => b = rb) := (k.trans k2 (fun _ _ h => h) (fun _ _ h => h)).trans q (fun _ _ h => h) (fun _ _ h => h.elim)
  exact k3.trans kg (fun _ _ h => h) (fun b hb h => by have := hnew b h; omega)

set_option maxHeartbeats 800000 in
set_option maxRecDepth 1000000 in
theorem rtake_over (w : World) (rb : Nat) (L : List Ent) (v : Value) (f : Fr) (R : RefV w rb true L v) (h16 : L.length = 16) :
    Calls Try.prog 13 #[.pointer (some ⟨rb, 0, none⟩), .int .i64 0, .agg f.cs.toArray] w fun r w' => ∃ v', r = .returned v' ∧ RRes w w' rb true v' [⟨3, f, fr0⟩] L := by
  have k1 : Kept w (w.alloc (.cells f.cs.toArray 44)) (fun _ => False) := Kept.alloc w _ _
  have F1 : (w.alloc (.cells f.cs.toArray 44)).heap[w.heap.size]? = some (.cells f.cs.toArray 44 (0, 0)) := heap_alloc_new _ _
  obtain ⟨a, cap, rfl⟩ := owns_len R.row
  have R1 := R.keep k1
  have c0 := R1.c0
  have c1 := R1.c1
  rw [h16] at c1
  have FIN : Aside0 _ := ⟨(rr_one R1 ⟨3, f, fr0⟩).base k1⟩
  have SZ44 := size44 f.cs.toArray rfl
  clear R R1 k1 h16
  go_enter Try.func13, Try.ntmps13
  go_upto_region 3 with fail
  generalize (w.alloc (.cells f.cs.toArray 44)) = w1 at *
  go_wp2_with (first
    | (refine wpList_load_row rfl 44 (.tmp 5) rfl w.heap.size rfl 44 f.cs.toArray (0, 0) _ F1 Try.underlying44 rfl SZ44 ?_)
    | (refine wpList_buildTo rfl 70 _ rfl (some 27) rfl (Nt.mk 3 f fr0).cs.toArray ?_ ?_; (simp only [List.map_toArray, List.map_cons, List.map_nil]; exact rt_ask 3 f))
    | (refine wpList_lit1 rfl 47 (.tmp 27) rfl (some 28) rfl (.agg (Nt.mk 3 f fr0).cs.toArray) rfl _ _ (lit_rt _ _) ?_))
  go_ret
  exact ⟨_, rfl, FIN.out⟩

set_option maxHeartbeats 800000 in
set_option maxRecDepth 1000000 in
theorem rtake_all (w : World) (rb : Nat) (L : List Ent) (v : Value) (f : Fr) (R : RefV w rb false L v) (hu : f.u = 0) :
    Calls Try.prog 13 #[.pointer (some ⟨rb, 0, none⟩), .int .i64 0, .agg f.cs.toArray] w fun r w' => ∃ v', r = .returned v' ∧ RRes w w' rb false v' [⟨1, f, fr0⟩] L := by
  have k1 : Kept w (w.alloc (.cells f.cs.toArray 44)) (fun _ => False) := Kept.alloc w _ _
  have F1 : (w.alloc (.cells f.cs.toArray 44)).heap[w.heap.size]? = some (.cells f.cs.toArray 44 (0, 0)) := heap_alloc_new _ _
  have R1 := R.keep k1
  have c0 := R1.c0
  have cf : (w.alloc (.cells f.cs.toArray 44)).cell? ⟨w.heap.size, 0, none⟩ = some (.int .u8 0) := by rw [cell_of_row _ w.heap.size 0 _ 44 (0, 0) F1]; simp [Fr.cs, hu]
  have FIN : Aside0 _ := ⟨(rr_one R1 ⟨1, f, fr0⟩).base k1⟩
  have SZ44 := size44 f.cs.toArray rfl
  clear R R1 k1 hu
  go_enter Try.func13, Try.ntmps13
  go_upto_region 3 with fail
  generalize (w.alloc (.cells f.cs.toArray 44)) = w1 at *
  go_wp2_with (first
    | (refine wpList_load_row rfl 44 (.tmp 5) rfl w.heap.size rfl 44 f.cs.toArray (0, 0) _ F1 Try.underlying44 rfl SZ44 ?_)
    | (refine wpList_buildTo rfl 70 _ rfl (some 42) rfl (Nt.mk 1 f fr0).cs.toArray ?_ ?_; (simp only [List.map_toArray, List.map_cons, List.map_nil]; exact rt_ask 1 f))
    | (refine wpList_lit1 rfl 47 (.tmp 42) rfl (some 43) rfl (.agg (Nt.mk 1 f fr0).cs.toArray) rfl _ _ (lit_rt _ _) ?_))
  go_ret
  exact ⟨_, rfl, FIN.out⟩

set_option maxHeartbeats 800000 in
set_option maxRecDepth 1000000 in
theorem rtake_none (w : World) (rb : Nat) (net : Bool) (L : List Ent) (v : Value) (dir : Int) (f : Fr) (R : RefV w rb net L v) (h0 : ¬ dir = 0) (h1 : ¬ dir = 1) :
    Calls Try.prog 13 #[.pointer (some ⟨rb, 0, none⟩), .int .i64 dir, .agg f.cs.toArray] w fun r w' => ∃ v', r = .returned v' ∧ RRes w w' rb net v' [] L := by
  have k1 : Kept w (w.alloc (.cells f.cs.toArray 44)) (fun _ => False) := Kept.alloc w _ _
  have FIN : Aside0 (RRes w (w.alloc (.cells f.cs.toArray 44)) rb net (.slice none 0 0) [] L) := ⟨⟨World.ownsRow_nil _ _ _ _, ⟨v, R.keep k1⟩, k1.mono (fun _ _ h => h.elim)⟩⟩
  have q1 : (dir != 1) = true := by simpa using h1
  have q0 : (dir == 0) = false := by simpa using h0
  clear R k1
  go_enter Try.func13, Try.ntmps13
  go_wp2
  go_ret
  exact ⟨_, rfl, FIN.out⟩

set_option maxHeartbeats 2000000 in
set_option maxRecDepth 1000000 in
theorem rtake_net (w : World) (rb : Nat) (L : List Ent) (v : Value) (f : Fr) (all : Nat) (R : RefV w rb true L v) (h16 : ¬ L.length = 16) (hL : L.length ≤ 16) :
    Calls Try.prog 13 #[.pointer (some ⟨rb, 0, none⟩), .int .i64 0, .agg f.cs.toArray] w fun r w' => ∃ v', r = .returned v' ∧ RRes w w' rb true v' [⟨0, f, fr0⟩] (L ++ [⟨all, f⟩]) := by
  have k1 : Kept w (w.alloc (.cells f.cs.toArray 44)) (fun _ => False) := Kept.alloc w _ _
  have F1 : (w.alloc (.cells f.cs.toArray 44)).heap[w.heap.size]? = some (.cells f.cs.toArray 44 (0, 0)) := heap_alloc_new _ _
  obtain ⟨a, cap, rfl⟩ := owns_len R.row
  have hfb : ¬ w.heap.size = rb := fun e => by have := heap_lt R.cell; omega
  have RW := R.keep k1
  have c0 := RW.c0
  have c1 := RW.c1
  have hM : L.length ≤ 100 := by omega
  have kW : Kept w (w.alloc (.cells f.cs.toArray 44)) (fun b => b = rb) := k1.mono (fun _ _ h => h.elim)
  have oW : (w.alloc (.cells f.cs.toArray 44)).ownsRow 0 70 49 (.slice none 0 0) ([] : List Nt).length (nts []) := World.ownsRow_nil _ _ _ _
  have nW : ∀ b, some b = (Value.slice none 0 0).ownBlock → w.heap.size ≤ b := fun b hb => by simp [Value.ownBlock] at hb
  have SZ44 := size44 f.cs.toArray rfl
  have h16b : (((L.length : Nat) : Int) == 16) = false := by simp; omega
  have VR : (w.alloc (.cells f.cs.toArray 44)).rangeAt w.heap.size 0 f.cs := fun j u hu => by rw [cell_of_row _ w.heap.size (0 + j) _ 44 (0, 0) F1]; simpa using hu
  have VW := F1
  clear R k1 F1
  go_enter Try.func13, Try.ntmps13
  go_upto_region 10 with fail
  generalize (w.alloc (.cells f.cs.toArray 44)) = W at *
  refine start_ (n := 13) (S := fun w' => Kept W w' (fun _ => False)) (ds := [12]) #[false, false, false, false, false, false, false, false, false, false, false, false, false] (by kernel_rfl) rfl rfl (Kept.drew W _) (fun hHeld => ?_)
  skip
  refine pure_ (i := 0) (N := (some 71)) (v := ?_) (a' := ?_) #[true, false, false, false, false, false, false, false, false, false, false, false, false] rfl rfl (by kernel_rfl) (fun _ _ _ h => h) (Or.inl ⟨by rfl, ?_⟩) ?_ ?_
  rotate_left
  · intro w'
    go_simp
    with_reducible rfl
  rotate_left
  · (try simp only [Act.put, List.setIfInBounds_toArray, List.set_cons_zero, List.set_cons_succ]); rfl
  refine pure_ (i := 2) (N := (some 73)) (v := ?_) (a' := ?_) #[true, false, true, false, false, false, false, false, false, false, false, false, false] rfl rfl (by kernel_rfl) (fun _ _ _ h => h) (Or.inl ⟨by rfl, ?_⟩) ?_ ?_
  rotate_left
  · intro w'
    go_simp
    with_reducible rfl
  rotate_left
  · (try simp only [Act.put, List.setIfInBounds_toArray, List.set_cons_zero, List.set_cons_succ]); rfl
  refine pure_ (i := 3) (N := (some 74)) (v := ?_) (a' := ?_) #[true, false, true, true, false, false, false, false, false, false, false, false, false] rfl rfl (by kernel_rfl) (fun _ _ _ h => h) (Or.inl ⟨by rfl, ?_⟩) ?_ ?_
  rotate_left
  · intro w'
    go_simp
    with_reducible rfl
  rotate_left
  · (try simp only [Act.put, List.setIfInBounds_toArray, List.set_cons_zero, List.set_cons_succ]); rfl
  refine pure_ (i := 4) (N := (some 75)) (v := ?_) (a' := ?_) #[true, false, true, true, true, false, false, false, false, false, false, false, false] rfl rfl (by kernel_rfl) (fun _ _ _ h => h) (Or.inl ⟨by rfl, ?_⟩) ?_ ?_
  rotate_left
  · intro w'
    go_simp
    with_reducible rfl
  rotate_left
  · (try simp only [Act.put, List.setIfInBounds_toArray, List.set_cons_zero, List.set_cons_succ]); rfl
  refine take_ (i := 5) (N := (some 76)) (v := ?_) (a' := ?_) #[true, false, true, true, true, true, false, false, false, false, false, false, false] rfl rfl (by kernel_rfl) (fun _ _ _ h => h) (Or.inl ⟨by rfl, ?_⟩) hHeld ?_ ?_
  rotate_left
  · intro w' hS
    have q5 := (RW.keep hS).c1
    go_simp
    with_reducible rfl
  rotate_left
  · (try simp only [Act.put, List.setIfInBounds_toArray, List.set_cons_zero, List.set_cons_succ]); rfl
  refine take_ (i := 7) (N := (some 78)) (v := .agg f.cs.toArray) (a' := ?_) #[true, false, true, true, true, true, false, true, false, false, false, false, false] rfl rfl (by kernel_rfl) (fun _ _ _ h => h) (yieldsIf_load_mid (by kernel_rfl) 44 (.tmp 5) rfl w.heap.size 0 rfl f.cs _ (fun w' hS => hS.range VR) Try.underlying44 rfl (by kernel_rfl)) hHeld ?_ ?_
  rotate_left
  · (try simp only [Act.put, List.setIfInBounds_toArray, List.set_cons_zero, List.set_cons_succ]); rfl
  clear hHeld
  refine join_ (σ := Value × Value × Nat) 4 #[true, true, true, true, true, true, true, true, true, false, false, false, false] (fun s => [(72, s.1), (77, s.2.1), (79, .slice (some ⟨s.2.2, 0, none⟩) 1 1)]) (fun s w' => Cp W w' L f s.2.1 s.2.2) ?_ ?_
  rotate_left
  · intro hCont
    refine two_ (i := 1) (j := 8) (Ni := some 72) (Nj := some 79) #[true, true, true, true, true, true, false, true, false, false, false, false, false] #[true, false, true, true, true, true, false, true, true, false, false, false, false] rfl rfl rfl rfl (by kernel_rfl) (by decide) (by decide) (fun K hK => ?_) (fun K hK => ?_)
    · rw [if_pos (by kernel_rfl)]
      refine wp_lit0 28 rfl _ _ (lit0_28 _) ?_
      obtain ⟨kA, oA⟩ := cp_a (Kept.drew W _)
      refine hK.out _ _ kA (fun hHeld => ?_)
      clear hK K hHeld
      refine norm_ (a' := ?_) ?_ ?_
      rotate_left
      · show Act.put _ (some 72) _ = _
        (try simp only [Act.put, List.setIfInBounds_toArray, List.set_cons_zero, List.set_cons_succ])
        rfl
      refine two_ (i := 6) (j := 8) (Ni := some 77) (Nj := some 79) #[true, true, true, true, true, true, true, true, false, false, false, false, false] #[true, true, true, true, true, true, false, true, true, false, false, false, false] rfl rfl rfl rfl (by kernel_rfl) (by decide) (by decide) (fun K hK => ?_) (fun K hK => ?_)
      · rw [if_pos (by kernel_rfl)]
        obtain ⟨vB, wB, hB, kB, oB, nB, gB⟩ := cp_b kA RW hM (Nat.le_refl _) oA 28
        refine wp_append (.tmp 72) (.tmp 76) 28 28 rfl _ _ rfl rfl vB wB hB ?_
        refine hK.out _ _ kB (fun hHeld => ?_)
        clear hK K hHeld
        refine norm_ (a' := ?_) ?_ ?_
        rotate_left
        · show Act.put _ (some 77) _ = _
          (try simp only [Act.put, List.setIfInBounds_toArray, List.set_cons_zero, List.set_cons_succ])
          rfl
        refine one_ (i := 8) (N := some 79) #[true, true, true, true, true, true, true, true, true, false, false, false, false] rfl rfl (by kernel_rfl) (by decide) (fun K hK => ?_)
        rw [if_pos (by kernel_rfl)]
        refine wp_lit1 28 (.tmp 78) rfl (.agg f.cs.toArray) rfl _ _ (lit_fr _ f) ?_
        obtain ⟨kC, fC, zC⟩ := cp_c kB f
        refine hK.out _ _ kC (fun hHeld => ?_)
        clear hK K hHeld
        refine norm_ (a' := ?_) ?_ ?_
        rotate_left
        · show Act.put _ (some 79) _ = _
          (try simp only [Act.put, List.setIfInBounds_toArray, List.set_cons_zero, List.set_cons_succ])
          rfl
        exact norm_ (by first | (simp only [putAll, Act.put, List.setIfInBounds_toArray, List.set_cons_zero, List.set_cons_succ]; done) | (simp only [putAll, Act.put, List.setIfInBounds_toArray, List.set_cons_zero, List.set_cons_succ]; rfl)) (hCont (_, vB, _) _ ⟨kC, (Kept.alloc wB _ (fun _ => False)).owns oB (fun _ _ h => h), nB, fC⟩)
      · rw [if_pos (by kernel_rfl)]
        refine wp_lit1 28 (.tmp 78) rfl (.agg f.cs.toArray) rfl _ _ (lit_fr _ f) ?_
        obtain ⟨kC, fC, zC⟩ := cp_c kA f
        refine hK.out _ _ kC (fun hHeld => ?_)
        clear hK K hHeld
        refine norm_ (a' := ?_) ?_ ?_
        rotate_left
        · show Act.put _ (some 79) _ = _
          (try simp only [Act.put, List.setIfInBounds_toArray, List.set_cons_zero, List.set_cons_succ])
          rfl
        refine one_ (i := 6) (N := some 77) #[true, true, true, true, true, true, true, true, true, false, false, false, false] rfl rfl (by kernel_rfl) (by decide) (fun K hK => ?_)
        rw [if_pos (by kernel_rfl)]
        obtain ⟨vB, wB, hB, kB, oB, nB, gB⟩ := cp_b kC RW hM (Nat.le_refl _) ((Kept.alloc _ _ (fun _ => False)).owns oA (fun _ _ h => h)) 28
        refine wp_append (.tmp 72) (.tmp 76) 28 28 rfl _ _ rfl rfl vB wB hB ?_
        refine hK.out _ _ kB (fun hHeld => ?_)
        clear hK K hHeld
        refine norm_ (a' := ?_) ?_ ?_
        rotate_left
        · show Act.put _ (some 77) _ = _
          (try simp only [Act.put, List.setIfInBounds_toArray, List.set_cons_zero, List.set_cons_succ])
          rfl
        exact norm_ (by first | (simp only [putAll, Act.put, List.setIfInBounds_toArray, List.set_cons_zero, List.set_cons_succ]; done) | (simp only [putAll, Act.put, List.setIfInBounds_toArray, List.set_cons_zero, List.set_cons_succ]; rfl)) (hCont (_, vB, _) _ ⟨kB, oB, nB, gB.heap fC (by simp)⟩)
    · rw [if_pos (by kernel_rfl)]
      refine wp_lit1 28 (.tmp 78) rfl (.agg f.cs.toArray) rfl _ _ (lit_fr _ f) ?_
      obtain ⟨kC, fC, zC⟩ := cp_c (Kept.drew W _) f
      refine hK.out _ _ kC (fun hHeld => ?_)
      clear hK K hHeld
      refine norm_ (a' := ?_) ?_ ?_
      rotate_left
      · show Act.put _ (some 79) _ = _
        (try simp only [Act.put, List.setIfInBounds_toArray, List.set_cons_zero, List.set_cons_succ])
        rfl
      refine one_ (i := 1) (N := some 72) #[true, true, true, true, true, true, false, true, true, false, false, false, false] rfl rfl (by kernel_rfl) (by decide) (fun K hK => ?_)
      rw [if_pos (by kernel_rfl)]
      refine wp_lit0 28 rfl _ _ (lit0_28 _) ?_
      obtain ⟨kA, oA⟩ := cp_a kC
      refine hK.out _ _ kA (fun hHeld => ?_)
      clear hK K hHeld
      refine norm_ (a' := ?_) ?_ ?_
      rotate_left
      · show Act.put _ (some 72) _ = _
        (try simp only [Act.put, List.setIfInBounds_toArray, List.set_cons_zero, List.set_cons_succ])
        rfl
      refine one_ (i := 6) (N := some 77) #[true, true, true, true, true, true, true, true, true, false, false, false, false] rfl rfl (by kernel_rfl) (by decide) (fun K hK => ?_)
      rw [if_pos (by kernel_rfl)]
      obtain ⟨vB, wB, hB, kB, oB, nB, gB⟩ := cp_b kA RW hM (by simp) oA 28
      refine wp_append (.tmp 72) (.tmp 76) 28 28 rfl _ _ rfl rfl vB wB hB ?_
      refine hK.out _ _ kB (fun hHeld => ?_)
      clear hK K hHeld
      refine norm_ (a' := ?_) ?_ ?_
      rotate_left
      · show Act.put _ (some 77) _ = _
        (try simp only [Act.put, List.setIfInBounds_toArray, List.set_cons_zero, List.set_cons_succ])
        rfl
      exact norm_ (by first | (simp only [putAll, Act.put, List.setIfInBounds_toArray, List.set_cons_zero, List.set_cons_succ]; done) | (simp only [putAll, Act.put, List.setIfInBounds_toArray, List.set_cons_zero, List.set_cons_succ]; rfl)) (hCont (_, vB, _) _ ⟨kB, oB, nB, gB.heap ((Kept.alloc _ _ (fun _ => False)).heap fC (fun h => h)) (by simp)⟩)
  rintro ⟨vA, vB, gC⟩ wC hC
  dsimp only at hC
  refine norm_ (a' := ?_) ?_ ?_
  rotate_left
  · simp only [putAll, Act.put, List.setIfInBounds_toArray, List.set_cons_zero, List.set_cons_succ]
    rfl
  obtain ⟨vD, wD, hD, kD, onD, cD, RD, KD⟩ := hC.put RW hM all 28
  refine one_ (i := 9) (N := some 80) #[true, true, true, true, true, true, true, true, true, true, false, false, false] rfl rfl (by kernel_rfl) (by decide) (fun K hK => ?_)
  rw [if_pos (by kernel_rfl)]
  refine wp_append (.tmp 77) (.tmp 79) 28 28 rfl _ _ rfl rfl vD wD hD ?_
  refine hK.out _ _ kD (fun hHeld => ?_)
  clear hK K hHeld
  refine norm_ (a' := ?_) ?_ ?_
  rotate_left
  · show Act.put _ (some 80) _ = _
    (try simp only [Act.put, List.setIfInBounds_toArray, List.set_cons_zero, List.set_cons_succ])
    rfl
  refine pure_ (i := 10) (N := (some 81)) (v := ?_) (a' := ?_) #[true, true, true, true, true, true, true, true, true, true, true, false, false] rfl rfl (by kernel_rfl) (fun _ _ _ h => h) (Or.inl ⟨by rfl, ?_⟩) ?_ ?_
  rotate_left
  · intro w'
    go_simp
    with_reducible rfl
  rotate_left
  · (try simp only [Act.put, List.setIfInBounds_toArray, List.set_cons_zero, List.set_cons_succ]); rfl
  refine pure_ (i := 11) (N := (some 82)) (v := ?_) (a' := ?_) #[true, true, true, true, true, true, true, true, true, true, true, true, false] rfl rfl (by kernel_rfl) (fun _ _ _ h => h) (Or.inl ⟨by rfl, ?_⟩) ?_ ?_
  rotate_left
  · intro w'
    go_simp
    with_reducible rfl
  rotate_left
  · (try simp only [Act.put, List.setIfInBounds_toArray, List.set_cons_zero, List.set_cons_succ]); rfl
  refine last_ (i := 12) (N := none) #[true, true, true, true, true, true, true, true, true, true, true, true, true] rfl rfl (by kernel_rfl) (by decide) (fun K hK => ?_)
  rw [if_pos (by kernel_rfl)]
  refine wp_store_cell 28 (.tmp 82) (.tmp 80) rfl rb 1 vD rfl rfl onD 30 _ cD (by simp) (by kernel_rfl) ?_
  refine hK.out _ _ ?_
  clear hK K
  refine norm_ (a' := ?_) ?_ ?_
  rotate_left
  · show Act.put _ none _ = _; (try simp only [Act.put, List.setIfInBounds_toArray, List.set_cons_zero, List.set_cons_succ]); rfl
  refine done_ (by kernel_rfl) ?_
  have FIN := rt_end kW oW (by simp) nW RD KD RW.cell ⟨0, f, fr0⟩ 47
  have F5 := KD.heap VW (fun e => hfb e)
  clear hC hD kD cD KD RD RW VW VR
  generalize wD.setCell ⟨rb, 1, none⟩ vD = W2 at *
  obtain ⟨v8, w4, ha, hR⟩ := FIN
  have HR : Aside0 _ := ⟨hR⟩
  clear hR
  go_wp2_with (first
    | (refine wpList_load_row rfl 44 (.tmp 5) rfl w.heap.size rfl 44 f.cs.toArray (0, 0) _ F5 Try.underlying44 rfl SZ44 ?_)
    | (refine wpList_buildTo rfl 70 _ rfl (some 85) rfl (Nt.mk 0 f fr0).cs.toArray ?_ ?_; (simp only [List.map_toArray, List.map_cons, List.map_nil]; exact rt_ask 0 f))
    | (refine wpList_lit1 rfl 47 (.tmp 85) rfl (some 86) rfl (.agg (Nt.mk 0 f fr0).cs.toArray) rfl _ _ (lit_rt W2 _) ?_)
    | (refine wpList_app rfl (.tmp 83) (.tmp 86) 47 47 rfl (some 87) rfl _ (.slice (some ⟨W2.heap.size, 0, none⟩) 1 1) rfl rfl v8 w4 ha ?_; clear ha))
  go_ret
  exact ⟨_, rfl, HR.out⟩

set_option maxHeartbeats 2000000 in
set_option maxRecDepth 1000000 in
theorem rtake_first (w : World) (rb : Nat) (v : Value) (f : Fr) (all : Nat) (R : RefV w rb false [] v) (hu : ¬ f.u = 0) :
    Calls Try.prog 13 #[.pointer (some ⟨rb, 0, none⟩), .int .i64 0, .agg f.cs.toArray] w fun r w' => ∃ v', r = .returned v' ∧ RRes w w' rb false v' [⟨0, f, fr0⟩] ([] ++ [⟨all, f⟩]) := by
  have k1 : Kept w (w.alloc (.cells f.cs.toArray 44)) (fun _ => False) := Kept.alloc w _ _
  have F1 : (w.alloc (.cells f.cs.toArray 44)).heap[w.heap.size]? = some (.cells f.cs.toArray 44 (0, 0)) := heap_alloc_new _ _
  obtain ⟨a, cap, rfl⟩ := owns_len R.row
  have hfb : ¬ w.heap.size = rb := fun e => by have := heap_lt R.cell; omega
  have RW := R.keep k1
  have c0 := RW.c0
  have c1 : (w.alloc (.cells f.cs.toArray 44)).cell? ⟨rb, 1, none⟩ = some (.slice a 0 cap) := RW.c1
  have hM : ([] : List Ent).length ≤ 100 := by decide
  have kW : Kept w (w.alloc (.cells f.cs.toArray 44)) (fun b => b = rb) := k1.mono (fun _ _ h => h.elim)
  have oW : (w.alloc (.cells f.cs.toArray 44)).ownsRow 0 70 49 (.slice none 0 0) ([] : List Nt).length (nts []) := World.ownsRow_nil _ _ _ _
  have nW : ∀ b, some b = (Value.slice none 0 0).ownBlock → w.heap.size ≤ b := fun b hb => by simp [Value.ownBlock] at hb
  have SZ44 := size44 f.cs.toArray rfl
  have cf : (w.alloc (.cells f.cs.toArray 44)).cell? ⟨w.heap.size, 0, none⟩ = some (.int .u8 f.u) := by rw [cell_of_row _ w.heap.size 0 _ 44 (0, 0) F1]; rfl
  have hub : (f.u == 0) = false := by simpa using hu
  have VR : (w.alloc (.cells f.cs.toArray 44)).rangeAt w.heap.size 0 f.cs := fun j u hu => by rw [cell_of_row _ w.heap.size (0 + j) _ 44 (0, 0) F1]; simpa using hu
  have VW := F1
  clear R k1 F1
  go_enter Try.func13, Try.ntmps13
  go_upto_region 10 with fail
  generalize (w.alloc (.cells f.cs.toArray 44)) = W at *
  refine start_ (n := 13) (S := fun w' => Kept W w' (fun _ => False)) (ds := [12]) #[false, false, false, false, false, false, false, false, false, false, false, false, false] (by kernel_rfl) rfl rfl (Kept.drew W _) (fun hHeld => ?_)
  skip
  refine pure_ (i := 0) (N := (some 71)) (v := ?_) (a' := ?_) #[true, false, false, false, false, false, false, false, false, false, false, false, false] rfl rfl (by kernel_rfl) (fun _ _ _ h => h) (Or.inl ⟨by rfl, ?_⟩) ?_ ?_
  rotate_left
  · intro w'
    go_simp
    with_reducible rfl
  rotate_left
  · (try simp only [Act.put, List.setIfInBounds_toArray, List.set_cons_zero, List.set_cons_succ]); rfl
  refine pure_ (i := 2) (N := (some 73)) (v := ?_) (a' := ?_) #[true, false, true, false, false, false, false, false, false, false, false, false, false] rfl rfl (by kernel_rfl) (fun _ _ _ h => h) (Or.inl ⟨by rfl, ?_⟩) ?_ ?_
  rotate_left
  · intro w'
    go_simp
    with_reducible rfl
  rotate_left
  · (try simp only [Act.put, List.setIfInBounds_toArray, List.set_cons_zero, List.set_cons_succ]); rfl
  refine pure_ (i := 3) (N := (some 74)) (v := ?_) (a' := ?_) #[true, false, true, true, false, false, false, false, false, false, false, false, false] rfl rfl (by kernel_rfl) (fun _ _ _ h => h) (Or.inl ⟨by rfl, ?_⟩) ?_ ?_
  rotate_left
  · intro w'
    go_simp
    with_reducible rfl
  rotate_left
  · (try simp only [Act.put, List.setIfInBounds_toArray, List.set_cons_zero, List.set_cons_succ]); rfl
  refine pure_ (i := 4) (N := (some 75)) (v := ?_) (a' := ?_) #[true, false, true, true, true, false, false, false, false, false, false, false, false] rfl rfl (by kernel_rfl) (fun _ _ _ h => h) (Or.inl ⟨by rfl, ?_⟩) ?_ ?_
  rotate_left
  · intro w'
    go_simp
    with_reducible rfl
  rotate_left
  · (try simp only [Act.put, List.setIfInBounds_toArray, List.set_cons_zero, List.set_cons_succ]); rfl
  refine take_ (i := 5) (N := (some 76)) (v := ?_) (a' := ?_) #[true, false, true, true, true, true, false, false, false, false, false, false, false] rfl rfl (by kernel_rfl) (fun _ _ _ h => h) (Or.inl ⟨by rfl, ?_⟩) hHeld ?_ ?_
  rotate_left
  · intro w' hS
    have q5 := (RW.keep hS).c1
    go_simp
    with_reducible rfl
  rotate_left
  · (try simp only [Act.put, List.setIfInBounds_toArray, List.set_cons_zero, List.set_cons_succ]); rfl
  refine take_ (i := 7) (N := (some 78)) (v := .agg f.cs.toArray) (a' := ?_) #[true, false, true, true, true, true, false, true, false, false, false, false, false] rfl rfl (by kernel_rfl) (fun _ _ _ h => h) (yieldsIf_load_mid (by kernel_rfl) 44 (.tmp 5) rfl w.heap.size 0 rfl f.cs _ (fun w' hS => hS.range VR) Try.underlying44 rfl (by kernel_rfl)) hHeld ?_ ?_
  rotate_left
  · (try simp only [Act.put, List.setIfInBounds_toArray, List.set_cons_zero, List.set_cons_succ]); rfl
  clear hHeld
  refine join_ (σ := Value × Value × Nat) 4 #[true, true, true, true, true, true, true, true, true, false, false, false, false] (fun s => [(72, s.1), (77, s.2.1), (79, .slice (some ⟨s.2.2, 0, none⟩) 1 1)]) (fun s w' => Cp W w' [] f s.2.1 s.2.2) ?_ ?_
  rotate_left
  · intro hCont
    refine two_ (i := 1) (j := 8) (Ni := some 72) (Nj := some 79) #[true, true, true, true, true, true, false, true, false, false, false, false, false] #[true, false, true, true, true, true, false, true, true, false, false, false, false] rfl rfl rfl rfl (by kernel_rfl) (by decide) (by decide) (fun K hK => ?_) (fun K hK => ?_)
    · rw [if_pos (by kernel_rfl)]
      refine wp_lit0 28 rfl _ _ (lit0_28 _) ?_
      obtain ⟨kA, oA⟩ := cp_a (Kept.drew W _)
      refine hK.out _ _ kA (fun hHeld => ?_)
      clear hK K hHeld
      refine norm_ (a' := ?_) ?_ ?_
      rotate_left
      · show Act.put _ (some 72) _ = _
        (try simp only [Act.put, List.setIfInBounds_toArray, List.set_cons_zero, List.set_cons_succ])
        rfl
      refine two_ (i := 6) (j := 8) (Ni := some 77) (Nj := some 79) #[true, true, true, true, true, true, true, true, false, false, false, false, false] #[true, true, true, true, true, true, false, true, true, false, false, false, false] rfl rfl rfl rfl (by kernel_rfl) (by decide) (by decide) (fun K hK => ?_) (fun K hK => ?_)
      · rw [if_pos (by kernel_rfl)]
        obtain ⟨vB, wB, hB, kB, oB, nB, gB⟩ := cp_b kA RW hM (Nat.le_refl _) oA 28
        refine wp_append (.tmp 72) (.tmp 76) 28 28 rfl _ _ rfl rfl vB wB hB ?_
        refine hK.out _ _ kB (fun hHeld => ?_)
        clear hK K hHeld
        refine norm_ (a' := ?_) ?_ ?_
        rotate_left
        · show Act.put _ (some 77) _ = _
          (try simp only [Act.put, List.setIfInBounds_toArray, List.set_cons_zero, List.set_cons_succ])
          rfl
        refine one_ (i := 8) (N := some 79) #[true, true, true, true, true, true, true, true, true, false, false, false, false] rfl rfl (by kernel_rfl) (by decide) (fun K hK => ?_)
        rw [if_pos (by kernel_rfl)]
        refine wp_lit1 28 (.tmp 78) rfl (.agg f.cs.toArray) rfl _ _ (lit_fr _ f) ?_
        obtain ⟨kC, fC, zC⟩ := cp_c kB f
        refine hK.out _ _ kC (fun hHeld => ?_)
        clear hK K hHeld
        refine norm_ (a' := ?_) ?_ ?_
        rotate_left
        · show Act.put _ (some 79) _ = _
          (try simp only [Act.put, List.setIfInBounds_toArray, List.set_cons_zero, List.set_cons_succ])
          rfl
        exact norm_ (by first | (simp only [putAll, Act.put, List.setIfInBounds_toArray, List.set_cons_zero, List.set_cons_succ]; done) | (simp only [putAll, Act.put, List.setIfInBounds_toArray, List.set_cons_zero, List.set_cons_succ]; rfl)) (hCont (_, vB, _) _ ⟨kC, (Kept.alloc wB _ (fun _ => False)).owns oB (fun _ _ h => h), nB, fC⟩)
      · rw [if_pos (by kernel_rfl)]
        refine wp_lit1 28 (.tmp 78) rfl (.agg f.cs.toArray) rfl _ _ (lit_fr _ f) ?_
        obtain ⟨kC, fC, zC⟩ := cp_c kA f
        refine hK.out _ _ kC (fun hHeld => ?_)
        clear hK K hHeld
        refine norm_ (a' := ?_) ?_ ?_
        rotate_left
        · show Act.put _ (some 79) _ = _
          (try simp only [Act.put, List.setIfInBounds_toArray, List.set_cons_zero, List.set_cons_succ])
          rfl
        refine one_ (i := 6) (N := some 77) #[true, true, true, true, true, true, true, true, true, false, false, false, false] rfl rfl (by kernel_rfl) (by decide) (fun K hK => ?_)
        rw [if_pos (by kernel_rfl)]
        obtain ⟨vB, wB, hB, kB, oB, nB, gB⟩ := cp_b kC RW hM (Nat.le_refl _) ((Kept.alloc _ _ (fun _ => False)).owns oA (fun _ _ h => h)) 28
        refine wp_append (.tmp 72) (.tmp 76) 28 28 rfl _ _ rfl rfl vB wB hB ?_
        refine hK.out _ _ kB (fun hHeld => ?_)
        clear hK K hHeld
        refine norm_ (a' := ?_) ?_ ?_
        rotate_left
        · show Act.put _ (some 77) _ = _
          (try simp only [Act.put, List.setIfInBounds_toArray, List.set_cons_zero, List.set_cons_succ])
          rfl
        exact norm_ (by first | (simp only [putAll, Act.put, List.setIfInBounds_toArray, List.set_cons_zero, List.set_cons_succ]; done) | (simp only [putAll, Act.put, List.setIfInBounds_toArray, List.set_cons_zero, List.set_cons_succ]; rfl)) (hCont (_, vB, _) _ ⟨kB, oB, nB, gB.heap fC (by simp)⟩)
    · rw [if_pos (by kernel_rfl)]
      refine wp_lit1 28 (.tmp 78) rfl (.agg f.cs.toArray) rfl _ _ (lit_fr _ f) ?_
      obtain ⟨kC, fC, zC⟩ := cp_c (Kept.drew W _) f
      refine hK.out _ _ kC (fun hHeld => ?_)
      clear hK K hHeld
      refine norm_ (a' := ?_) ?_ ?_
      rotate_left
      · show Act.put _ (some 79) _ = _
        (try simp only [Act.put, List.setIfInBounds_toArray, List.set_cons_zero, List.set_cons_succ])
        rfl
      refine one_ (i := 1) (N := some 72) #[true, true, true, true, true, true, false, true, true, false, false, false, false] rfl rfl (by kernel_rfl) (by decide) (fun K hK => ?_)
      rw [if_pos (by kernel_rfl)]
      refine wp_lit0 28 rfl _ _ (lit0_28 _) ?_
      obtain ⟨kA, oA⟩ := cp_a kC
      refine hK.out _ _ kA (fun hHeld => ?_)
      clear hK K hHeld
      refine norm_ (a' := ?_) ?_ ?_
      rotate_left
      · show Act.put _ (some 72) _ = _
        (try simp only [Act.put, List.setIfInBounds_toArray, List.set_cons_zero, List.set_cons_succ])
        rfl
      refine one_ (i := 6) (N := some 77) #[true, true, true, true, true, true, true, true, true, false, false, false, false] rfl rfl (by kernel_rfl) (by decide) (fun K hK => ?_)
      rw [if_pos (by kernel_rfl)]
      obtain ⟨vB, wB, hB, kB, oB, nB, gB⟩ := cp_b kA RW hM (by simp) oA 28
      refine wp_append (.tmp 72) (.tmp 76) 28 28 rfl _ _ rfl rfl vB wB hB ?_
      refine hK.out _ _ kB (fun hHeld => ?_)
      clear hK K hHeld
      refine norm_ (a' := ?_) ?_ ?_
      rotate_left
      · show Act.put _ (some 77) _ = _
        (try simp only [Act.put, List.setIfInBounds_toArray, List.set_cons_zero, List.set_cons_succ])
        rfl
      exact norm_ (by first | (simp only [putAll, Act.put, List.setIfInBounds_toArray, List.set_cons_zero, List.set_cons_succ]; done) | (simp only [putAll, Act.put, List.setIfInBounds_toArray, List.set_cons_zero, List.set_cons_succ]; rfl)) (hCont (_, vB, _) _ ⟨kB, oB, nB, gB.heap ((Kept.alloc _ _ (fun _ => False)).heap fC (fun h => h)) (by simp)⟩)
  rintro ⟨vA, vB, gC⟩ wC hC
  dsimp only at hC
  refine norm_ (a' := ?_) ?_ ?_
  rotate_left
  · simp only [putAll, Act.put, List.setIfInBounds_toArray, List.set_cons_zero, List.set_cons_succ]
    rfl
  obtain ⟨vD, wD, hD, kD, onD, cD, RD, KD⟩ := hC.put RW hM all 28
  refine one_ (i := 9) (N := some 80) #[true, true, true, true, true, true, true, true, true, true, false, false, false] rfl rfl (by kernel_rfl) (by decide) (fun K hK => ?_)
  rw [if_pos (by kernel_rfl)]
  refine wp_append (.tmp 77) (.tmp 79) 28 28 rfl _ _ rfl rfl vD wD hD ?_
  refine hK.out _ _ kD (fun hHeld => ?_)
  clear hK K hHeld
  refine norm_ (a' := ?_) ?_ ?_
  rotate_left
  · show Act.put _ (some 80) _ = _
    (try simp only [Act.put, List.setIfInBounds_toArray, List.set_cons_zero, List.set_cons_succ])
    rfl
  refine pure_ (i := 10) (N := (some 81)) (v := ?_) (a' := ?_) #[true, true, true, true, true, true, true, true, true, true, true, false, false] rfl rfl (by kernel_rfl) (fun _ _ _ h => h) (Or.inl ⟨by rfl, ?_⟩) ?_ ?_
  rotate_left
  · intro w'
    go_simp
    with_reducible rfl
  rotate_left
  · (try simp only [Act.put, List.setIfInBounds_toArray, List.set_cons_zero, List.set_cons_succ]); rfl
  refine pure_ (i := 11) (N := (some 82)) (v := ?_) (a' := ?_) #[true, true, true, true, true, true, true, true, true, true, true, true, false] rfl rfl (by kernel_rfl) (fun _ _ _ h => h) (Or.inl ⟨by rfl, ?_⟩) ?_ ?_
  rotate_left
  · intro w'
    go_simp
    with_reducible rfl
  rotate_left
  · (try simp only [Act.put, List.setIfInBounds_toArray, List.set_cons_zero, List.set_cons_succ]); rfl
  refine last_ (i := 12) (N := none) #[true, true, true, true, true, true, true, true, true, true, true, true, true] rfl rfl (by kernel_rfl) (by decide) (fun K hK => ?_)
  rw [if_pos (by kernel_rfl)]
  refine wp_store_cell 28 (.tmp 82) (.tmp 80) rfl rb 1 vD rfl rfl onD 30 _ cD (by simp) (by kernel_rfl) ?_
  refine hK.out _ _ ?_
  clear hK K
  refine norm_ (a' := ?_) ?_ ?_
  rotate_left
  · show Act.put _ none _ = _; (try simp only [Act.put, List.setIfInBounds_toArray, List.set_cons_zero, List.set_cons_succ]); rfl
  refine done_ (by kernel_rfl) ?_
  have FIN := rt_end kW oW (by simp) nW RD KD RW.cell ⟨0, f, fr0⟩ 47
  have F5 := KD.heap VW (fun e => hfb e)
  clear hC hD kD cD KD RD RW VW VR
  generalize wD.setCell ⟨rb, 1, none⟩ vD = W2 at *
  obtain ⟨v8, w4, ha, hR⟩ := FIN
  have HR : Aside0 _ := ⟨hR⟩
  clear hR
  go_wp2_with (first
    | (refine wpList_load_row rfl 44 (.tmp 5) rfl w.heap.size rfl 44 f.cs.toArray (0, 0) _ F5 Try.underlying44 rfl SZ44 ?_)
    | (refine wpList_buildTo rfl 70 _ rfl (some 85) rfl (Nt.mk 0 f fr0).cs.toArray ?_ ?_; (simp only [List.map_toArray, List.map_cons, List.map_nil]; exact rt_ask 0 f))
    | (refine wpList_lit1 rfl 47 (.tmp 85) rfl (some 86) rfl (.agg (Nt.mk 0 f fr0).cs.toArray) rfl _ _ (lit_rt W2 _) ?_)
    | (refine wpList_app rfl (.tmp 83) (.tmp 86) 47 47 rfl (some 87) rfl _ (.slice (some ⟨W2.heap.size, 0, none⟩) 1 1) rfl rfl v8 w4 ha ?_; clear ha))
  go_ret
  exact ⟨_, rfl, HR.out⟩

end Go.Proofs.Ytmbjlondehcheaa
