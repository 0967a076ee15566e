/- TopTalk: part 7 of the walks: of HCur, WEqStruct, WGuard. -/
import Derived.Test.YtmbjlondehcheaaGreatDoorM04
section
set_option linter.unusedSimpArgs false
set_option linter.unusedVariables false
namespace Go.Proofs.YtmbjlondehcheaaGreatDoor
open Go.Shelf Go.RowKit Go.Lib Go.Sort Go.Proofs.YtmbjlondehcheaaGreatDoorW.PrintWords Go.Proofs.YtmbjlondehcheaaGreatDoorW.PrintLast
theorem pt (l : List Value) (d : List Deferred) (n : Nat) (v : Value) : Act.put ⟨l.toArray, d⟩ (some n) v = ⟨(l.set n v).toArray, d⟩ := by simp [Act.put]
theorem p0 (a : Value) (l : List Value) (v : Value) : (a :: l).set 0 v = v :: l := rfl
theorem p1 (a : Value) (l : List Value) (n : Nat) (v : Value) : (a :: l).set (n + 1) v = a :: l.set n v := rfl
theorem p2 (a : Act) (v : Value) : a.put none v = a := by cases a; rfl
def mk (n k : Nat) : Array Bool := (Array.range n).map fun i => k.testBit i
section
variable {P : Program} {ops : Array Oper} {Q : Exit → Act → World → Prop} {md : Region.Mode} {S : World → Prop} {ds : List Nat}
theorem st {id : Nat} {a : Act} {w : World} (n : Nat) (S : World → Prop) (ds : List Nat) (hS : S w.drew) (h : wpAnyLast P .any ops Q S ds n (mk n 0) a w.drew)
    (hm : P.follows .mixedOrders = true := by kernel_rfl) (hn : ops.size = n := by rfl) (hl : Array.replicate n false = mk n 0 := by kernel_rfl) : (Code.region id ops true).wp P Q a w :=
  start_ _ hm hn hl hS fun _ => h
theorem pu (i : Nat) (N : Option Tmp) (l' : Array Bool) {oi : Oper} {v : Value} {fuel : Nat} {l : Array Bool} {a a' : Act} {w : World} (h : wpAnyLast P md ops Q S ds fuel l' a' w)
    (hi : ops[i]? = some oi := by rfl) (hN : oi.dst = N := by rfl) (hc : anyB md ops l l' i = true := by kernel_rfl) (hQ : ∀ c a w, Q (.panic c) (a.put oi.dst v) w → Q (.panic c) a w := by exact fun _ _ _ h => h)
    (hy : Yields P ops oi v a := by exact .inl ⟨by rfl, by intro w'; go_simp; with_reducible rfl⟩) (ha : a.put N v = a' := by (try simp only [pt, p0, p1, p2]); rfl) : wpAnyLast P md ops Q S ds (fuel + 1) l a w :=
  pure_ l' hi hN hc hQ hy ha h
theorem ld (i : Nat) (N : Option Tmp) (l' : Array Bool) {w : World} (hS : S w) {oi : Oper} {v : Value} {fuel : Nat} {l : Array Bool} {a a' : Act} (h : wpAnyLast P md ops Q S ds fuel l' a' w)
    (hi : ops[i]? = some oi := by rfl) (hN : oi.dst = N := by rfl) (hc : takeB md ops ds l l' i = true := by kernel_rfl) (hQ : ∀ c a w, Q (.panic c) (a.put oi.dst v) w → Q (.panic c) a w := by exact fun _ _ _ h => h)
    (hy : YieldsIf P ops S oi v a := by exact .inl ⟨by rfl, by intro w' hS; (try have q1 := hS.1); (try have q2 := hS.2); (try have q3 := hS.1.1); (try have q4 := hS.1.2); (try have q5 := hS.2.1); (try have q6 := hS.2.2); (try have q7 := hS.2.2.1); (try have q8 := hS.2.2.2); (try have q9 := hS.2.2.2.1); (try have q10 := hS.2.2.2.2); go_simp; with_reducible rfl⟩)
    (ha : a.put N v = a' := by (try simp only [pt, p0, p1, p2]); rfl) : wpAnyLast P md ops Q S ds (fuel + 1) l a w :=
  take_ l' hi hN hc hQ hy hS ha h
theorem cl (i : Nat) (N : Option Tmp) (l' : Array Bool) {f : FuncId} {fn : Func} (hf : P.funcs[f]? = some fn) {args : Array Value} {T : Ending → World → Prop} {a : Act} {w : World} (hC : Calls P f args w T) {oi : Oper} {fuel : Nat} {l : Array Bool} {xs : Array Operand} {ts : Array TypeId}
    (h : ∀ e w', T e w' → ∃ v, e = .returned v ∧ S w' ∧ wpAnyLast P md ops Q S ds fuel l' (a.put N v) w')
    (hi : ops[i]? = some oi := by rfl) (hN : oi.dst = N := by rfl) (hop : oi.op = .call { callee := .value (.func f), args := xs, argTypes := ts } := by rfl) (hargs : xs.map a.eval = args := by (simp only [List.map_toArray, List.map_cons, List.map_nil]; rfl))
    (hc : readyB md ops l l' i = true := by kernel_rfl) (hd : i ∉ ds := by decide) (hname : (fn.name == "runtime.NumGoroutine") = false := by rfl) (hb : fn.body.isSome = true := by rfl) (hw : Region.wanted oi (yielded ops a.tmps) = true := by kernel_rfl) : wpAnyLast P md ops Q S ds (fuel + 1) l a w := by
  refine one_ l' hi hN hc hd fun K hK => ?_
  refine goes_ hf hname hb args hw hN hop hargs (hC.mono fun e w' ht => ?_)
  obtain ⟨v, he, hS, hh⟩ := h e w' ht
  exact ⟨v, he, hK.out _ _ hS fun _ => hh⟩
theorem cll (i : Nat) (N : Option Tmp) (l' : Array Bool) {f : FuncId} {fn : Func} (hf : P.funcs[f]? = some fn) {args : Array Value} {T : Ending → World → Prop} {a : Act} {w : World} (hC : Calls P f args w T) {oi : Oper} {fuel : Nat} {l : Array Bool} {xs : Array Operand} {ts : Array TypeId}
    (h : ∀ e w', T e w' → ∃ v, e = .returned v ∧ wpAnyLast P md ops Q S ds fuel l' (a.put N v) w')
    (hi : ops[i]? = some oi := by rfl) (hN : oi.dst = N := by rfl) (hop : oi.op = .call { callee := .value (.func f), args := xs, argTypes := ts } := by rfl) (hargs : xs.map a.eval = args := by (simp only [List.map_toArray, List.map_cons, List.map_nil]; rfl))
    (hc : readyB md ops l l' i = true := by kernel_rfl) (hd : i ∈ ds := by decide) (hname : (fn.name == "runtime.NumGoroutine") = false := by rfl) (hb : fn.body.isSome = true := by rfl) (hw : Region.wanted oi (yielded ops a.tmps) = true := by kernel_rfl) : wpAnyLast P md ops Q S ds (fuel + 1) l a w := by
  refine last_ l' hi hN hc hd fun K hK => ?_
  refine goes_ hf hname hb args hw hN hop hargs (hC.mono fun e w' ht => ?_)
  obtain ⟨v, he, hh⟩ := h e w' ht
  exact ⟨v, he, hK.out _ _ hh⟩
theorem on (i : Nat) (N : Option Tmp) (l' : Array Bool) {oi : Oper} {fuel : Nat} {l : Array Bool} {a : Act} {w : World} (h : ∀ K : Act → World → Prop, (∀ v w', S w' → wpAnyLast P md ops Q S ds fuel l' (a.put N v) w' → K (a.put oi.dst v) w') → Oper.wp P oi a w K Q)
    (hi : ops[i]? = some oi := by rfl) (hN : oi.dst = N := by rfl) (hc : readyB md ops l l' i = true := by kernel_rfl) (hd : i ∉ ds := by decide) (hw : Region.wanted oi (yielded ops a.tmps) = true := by kernel_rfl) : wpAnyLast P md ops Q S ds (fuel + 1) l a w :=
  one_ l' hi hN hc hd fun K hK => by rw [if_pos hw]; exact h K fun v w' hs hh => hK.out _ _ hs fun _ => by rw [hN]; exact hh
theorem la (i : Nat) (N : Option Tmp) (l' : Array Bool) {oi : Oper} {fuel : Nat} {l : Array Bool} {a : Act} {w : World} (h : ∀ K : Act → World → Prop, (∀ v w', wpAnyLast P md ops Q S ds fuel l' (a.put N v) w' → K (a.put oi.dst v) w') → Oper.wp P oi a w K Q)
    (hi : ops[i]? = some oi := by rfl) (hN : oi.dst = N := by rfl) (hc : readyB md ops l l' i = true := by kernel_rfl) (hd : i ∈ ds := by decide) (hw : Region.wanted oi (yielded ops a.tmps) = true := by kernel_rfl) : wpAnyLast P md ops Q S ds (fuel + 1) l a w :=
  last_ l' hi hN hc hd fun K hK => by rw [if_pos hw]; exact h K fun v w' hh => hK.out _ _ (by rw [hN]; exact hh)
theorem nm {fuel : Nat} {l : Array Bool} {a a' : Act} {w : World} (h : wpAnyLast P md ops Q S ds fuel l a' w) (ha : a = a' := by (try simp only [pt, p0, p1, p2]); rfl) : wpAnyLast P md ops Q S ds fuel l a w := norm_ ha h
end
theorem wrapi (n : Int) (h : 0 ≤ n ∧ n ≤ 9223372036854775807) : IntKind.i64.wrap n = n := by
  have hm : n % 18446744073709551616 = n := by omega
  unfold IntKind.wrap
  simp [IntKind.bits, IntKind.signed, hm]
  omega
def Rd (k : IntKind) (w : World) (v : Value) (l : List Int) : Prop := ∃ A c, v = .slice A l.length c ∧ l.length ≤ c ∧ (Kd.int k).C w A l.length l
abbrev By (w : World) (v : Value) (l : List Int) : Prop := Rd .u8 w v l
abbrev Wo (w : World) (v : Value) (l : List Int) : Prop := Rd .u16 w v l
theorem Kept.toBelow {w w' : World} (h : Kept w w' (fun _ => False)) : Below w.heap.size w w' := h.below (Nat.le_refl _) (fun _ _ h => h)
theorem Kept.cell {w w' : World} (k : Kept w w' (fun _ => False)) {a : Addr} {v : Value} (h : w.cell? a = some v) : w'.cell? a = some v := (k.toBelow.cell (World.block_lt_of_cell? _ _ h)).trans h
theorem Kept.range {w w' : World} (k : Kept w w' (fun _ => False)) {b o : Nat} {cs : List Value} (h : w.rangeAt b o cs) : w'.rangeAt b o cs := fun j u hu => k.cell (h j u hu)
theorem Rd.keep {k : IntKind} {w w' : World} {v : Value} {l : List Int} (h : Rd k w v l) (q : Kept w w' (fun _ => False)) : Rd k w' v l := by
  obtain ⟨A, c, e, hc, hC⟩ := h
  exact ⟨A, c, e, hc, Kd.C_below hC q.toBelow⟩
theorem Rd.nil (k : IntKind) (w : World) : Rd k w (.slice none 0 0) [] := ⟨none, 0, rfl, Nat.le_refl _, Kd.C_nil _ w⟩
theorem Rd.len {k : IntKind} {w : World} {v : Value} {l : List Int} (h : Rd k w v l) : ∃ A c, v = .slice A l.length c ∧ l.length ≤ c := by
  obtain ⟨A, c, e, hc, hC⟩ := h
  exact ⟨A, c, e, hc⟩
theorem Rd.at_ {k : IntKind} {w : World} {A : Option Addr} {n c : Nat} {l : List Int} (h : Rd k w (.slice A n c) l) {i : Nat} (hi : i < l.length) : ∃ ad, A = some ad ∧ n = l.length ∧ w.cell? (ad.add i) = some (.int k l[i]) := by
  obtain ⟨A', c', e, hc, hC⟩ := h
  injection e with e1 e2 e3
  subst e1 e2 e3
  obtain ⟨ad, hA, hg⟩ := hC.2.2 (by omega)
  obtain ⟨cs, hl, hR, hcell⟩ := hg i l[i] (List.getElem?_eq_getElem hi)
  have hR' : cs = [.int k l[i]] := hR
  subst hR'
  refine ⟨ad, hA, rfl, ?_⟩
  have := hcell 0 _ rfl
  simpa [Kd.int, Kd.scalar] using this
theorem Rd.stay {k : IntKind} {w w' : World} {A : Option Addr} {n c : Nat} {l : List Int} (h : Rd k w (.slice A n c) l) {G : Nat → Prop} (q : Kept w w' G) (hA : ∀ ad, A = some ad → 0 < l.length → ¬ G ad.block) : Rd k w' (.slice A n c) l := by
  obtain ⟨A', c', e, hc, hC⟩ := h
  injection e with e1 e2 e3
  subst e1 e2 e3
  refine ⟨A, c, rfl, hc, hC.1, hC.2.1, fun hn => ?_⟩
  obtain ⟨ad, hA', hg⟩ := hC.2.2 hn
  refine ⟨ad, hA', fun j p hp => ?_⟩
  obtain ⟨cs, hl, hR, hcell⟩ := hg j p hp
  refine ⟨cs, hl, hR, fun i u hu => ?_⟩
  have hc0 := hcell i u hu
  have hb := q.block _ (World.block_lt_of_cell? _ _ hc0) (by
    have : (ad.add (j * (Kd.int k).sz + i)).block = ad.block := by unfold Addr.add; split <;> rfl
    rw [this]
    exact hA ad hA' hn)
  exact (World.cell?_of_block hb).trans hc0
def Stay (k : IntKind) (w : World) (G : Nat → Prop) (v : Value) (l : List Int) : Prop := ∀ w', Kept w w' G → Rd k w' v l
theorem Stay.now {k : IntKind} {w : World} {G : Nat → Prop} {v : Value} {l : List Int} (h : Stay k w G v l) : Rd k w v l := h w (Kept.refl _ _)
theorem Stay.next {k : IntKind} {w w1 : World} {G F : Nat → Prop} {v : Value} {l : List Int} (h : Stay k w G v l) (q : Kept w w1 F) (hF : ∀ b, F b → G b) : Stay k w1 G v l := fun w' k' => h w' (q.trans k' (fun b _ h => hF b h) (fun _ _ h => h))
def New (w : World) (A : Option Addr) : Prop := ∀ ad, A = some ad → w.heap.size ≤ ad.block
theorem Rd.fresh {k : IntKind} {w w1 : World} {A : Option Addr} {n c : Nat} {l : List Int} (h : Rd k w1 (.slice A n c) l) (hA : New w A) {G : Nat → Prop} (hG : ∀ b, G b → b < w.heap.size) : Stay k w1 G (.slice A n c) l := fun w' q => h.stay q (fun ad e _ g => by have := hA ad e; have := hG _ g; omega)
theorem Rd.take {k : IntKind} {w : World} {A : Option Addr} {n c : Nat} {l : List Int} (h : Rd k w (.slice A n c) l) {m : Nat} (hm : m ≤ l.length) : Rd k w (.slice A m c) (l.take m) := by
  obtain ⟨A', c', e, hc, hC⟩ := h
  injection e with e1 e2 e3
  subst e1 e2 e3
  have hl : (l.take m).length = m := by rw [List.length_take]; omega
  exact ⟨A, c, by rw [hl], by omega, Kd.C_take hC hm⟩
theorem Rd.drop {k : IntKind} {w : World} {A : Option Addr} {n c : Nat} {l : List Int} (h : Rd k w (.slice A n c) l) {m : Nat} (hm : m ≤ l.length) : Rd k w (.slice (if c = m then A else A.map (·.add m)) (n - m) (c - m)) (l.drop m) := by
  obtain ⟨A', c', e, hc, hC⟩ := h
  injection e with e1 e2 e3
  subst e1 e2 e3
  have := Kd.C_drop hC hm hc
  simp only [Kd.int, Kd.scalar, Nat.mul_one] at this
  exact ⟨_, c - m, by rw [List.length_drop], by rw [List.length_drop]; omega, this⟩
theorem row_rd {k : IntKind} {w : World} {e : TypeId} {v : Value} {l : List Int} (h : w.ownsRow 0 e 1 v l.length (l.map (Value.int k))) (hl : l.length ≤ 1000000) : Rd k w v l := by
  rcases h.2 with ⟨rfl, h0⟩ | ⟨g, cap, cur, rfl, _, hg, hnc, hcm, hcs, htake⟩
  · obtain rfl : l = [] := List.eq_nil_of_length_eq_zero h0
    exact Rd.nil k w
  · refine ⟨_, cap, rfl, hnc, rfl, by omega, fun hn => ⟨_, rfl, fun j p hp => ⟨[.int k p], rfl, rfl, fun i u hu => ?_⟩⟩⟩
    have hi : i < 1 := (List.getElem?_eq_some_iff.1 hu).1
    obtain rfl : i = 0 := by omega
    have hu' : u = .int k p := by simpa using hu.symm
    subst hu'
    exact h.cells (g := g) rfl _ _ (by simp [Kd.int, Kd.scalar, hp])
theorem info5 : ∃ ie z, Tryz.prog.info? 5 = some ie ∧ ie.zero = some z ∧ ie.size = 1 ∧ z.cells.size = 1 ∧ ie.bytes = 1 := by
  have h : ((Tryz.prog.info? 5).bind fun ie => ie.zero.map fun z => (ie.size, z.cells.size, ie.bytes)) = some (1, 1, 1) := by kernel_rfl
  cases hi : Tryz.prog.info? 5 with
  | none => rw [hi] at h; cases h
  | some ie =>
    rw [hi] at h
    cases hz : ie.zero with
    | none => simp [hz] at h
    | some z => simp [hz] at h; exact ⟨ie, z, rfl, hz, h.1, h.2.1, h.2.2⟩
theorem lit0_23 (w : World) : (Instr.buildSlice 23 0 #[]).run Tryz.prog w = .ok (.slice (some ⟨w.heap.size, 0, none⟩) 0 0) (w.alloc (.cells #[] 5)) := by
  obtain ⟨ie, z, h1, h2, h3, h4, h5⟩ := info5
  simp [Instr.buildSlice, run_underlying Tryz.underlying23, sizeOf, typeInfo, h1, Instr.fill, newRow]
  have h0 : Array.map (fun _ => (default : Value)) (Array.range 0) = #[] := Array.eq_empty_of_size_eq_zero (by simp)
  first
    | rfl
    | simp [h0]
set_option maxRecDepth 100000 in
theorem app_rd {k : IntKind} {ts te : TypeId} {bytes : Nat} (ht : Tryz.prog.underlying ts = some (.slice te)) (hi : ∃ ie z, Tryz.prog.info? te = some ie ∧ ie.zero = some z ∧ ie.size = 1 ∧ z.cells.size = 1 ∧ ie.bytes = bytes) (hb8 : bytes ≤ 8) (w : World) (ty : TypeId) (v : Value) (n : Nat) (xs : List Value) (ho : w.ownsRow 0 te 1 v n xs) (u : Value) (l : List Int) (hu : Rd k w u l) (hn : n + l.length ≤ 1000000) :
    ∃ v' w', (Builtin.append_ #[ts, ts] ty #[v, u]).run Tryz.prog w = .ok v' w' ∧ w'.ownsRow 0 te 1 v' (n + l.length) (xs ++ l.map (Value.int k)) ∧ w.grownBy w' v.ownBlock ∧ (v'.ownBlock = v.ownBlock ∨ v'.ownBlock = some w.heap.size) := by
  obtain ⟨ie, z, h1, h2, h3, h4, h5⟩ := hi
  obtain ⟨A, c, rfl, hc, hC⟩ := hu
  cases A with
  | none =>
    have hl : l = [] := by
      cases l with
      | nil => rfl
      | cons x t => obtain ⟨ad, h, _⟩ := hC.2.2 (by simp); cases h
    subst hl
    refine ⟨v, w, ?_, by simpa using ho, ⟨rfl, rfl, rfl, Nat.le_refl _, fun _ _ _ => rfl⟩, .inl rfl⟩
    rcases ho.2 with ⟨rfl, rfl⟩ | ⟨g, cap, cur, rfl, _, _, hnc, _⟩
    · simp [Builtin.append_, run_underlying ht, sizeOf, typeInfo, h1, Builtin.lenOf, Builtin.firstCells, loadCells, loadCellsFrom]
    · simp [Builtin.append_, run_underlying ht, sizeOf, typeInfo, h1, Builtin.lenOf, Builtin.firstCells, loadCells, loadCellsFrom, hnc, storeCells]
  | some ad =>
    have hR : Rd k w (.slice (some ad) l.length c) l := ⟨_, _, rfl, hc, hC⟩
    obtain ⟨v', w', q1, q2, q3, _, q5⟩ := run_append_own_at (P := Tryz.prog) w 0 ts ty te ie z 1 bytes ht h1 h2 h3 h5 h4 (by omega) v n xs ho ad l.length c (l.map (Value.int k)) (by simp)
      (fun j u hu => by
        rw [List.getElem?_map] at hu
        have hj : j < l.length := by
          rcases Nat.lt_or_ge j l.length with h | h
          · exact h
          · rw [List.getElem?_eq_none h] at hu; simp at hu
        obtain ⟨ad', e, _, hc⟩ := hR.at_ hj
        injection e with e
        subst e
        rw [List.getElem?_eq_getElem hj] at hu
        simp at hu
        rw [hc, hu]) (fun u hu => by
        obtain ⟨x, _, rfl⟩ := List.mem_map.1 hu
        rfl) (by unfold maxLen; omega) (Nat.le_trans (Nat.mul_le_mul hn hb8) (by omega)) (Nat.zero_le _)
    exact ⟨v', w', q1, q2, q3, q5⟩
theorem app_by (w : World) (ty : TypeId) (v : Value) (n : Nat) (xs : List Value) (ho : w.ownsRow 0 5 1 v n xs) (u : Value) (l : List Int) (hu : By w u l) (hn : n + l.length ≤ 1000000) :
    ∃ v' w', (Builtin.append_ #[23, 23] ty #[v, u]).run Tryz.prog w = .ok v' w' ∧ w'.ownsRow 0 5 1 v' (n + l.length) (xs ++ l.map (Value.int .u8)) ∧ w.grownBy w' v.ownBlock ∧ (v'.ownBlock = v.ownBlock ∨ v'.ownBlock = some w.heap.size) :=
  app_rd Tryz.underlying23 info5 (by omega) w ty v n xs ho u l hu hn
theorem info27 : ∃ ie z, Tryz.prog.info? 27 = some ie ∧ ie.zero = some z ∧ ie.size = 1 ∧ z.cells.size = 1 ∧ ie.bytes = 2 := by
  have h : ((Tryz.prog.info? 27).bind fun ie => ie.zero.map fun z => (ie.size, z.cells.size, ie.bytes)) = some (1, 1, 2) := by kernel_rfl
  cases hi : Tryz.prog.info? 27 with
  | none => rw [hi] at h; cases h
  | some ie =>
    rw [hi] at h
    cases hz : ie.zero with
    | none => simp [hz] at h
    | some z => simp [hz] at h; exact ⟨ie, z, rfl, hz, h.1, h.2.1, h.2.2⟩
theorem one_rd (k : IntKind) (w : World) (x : Int) (e : TypeId) : Rd k (w.alloc (.cells #[.int k x] e)) (.slice (some ⟨w.heap.size, 0, none⟩) 1 1) [x] :=
  row_rd (e := e) ⟨rfl, .inr ⟨w.heap.size, 1, #[.int k x], rfl, Nat.zero_le _, heap_alloc_new _ _, Nat.le_refl _, by unfold maxLen; omega, rfl, rfl⟩⟩ (by simp)
theorem lit_w (w : World) (x : Int) : (Instr.buildSlice 30 1 #[(0, .int .u16 x)]).run Tryz.prog w = .ok (.slice (some ⟨w.heap.size, 0, none⟩) 1 1) (w.alloc (.cells #[.int .u16 x] 27)) := by
  kernel_rfl
structure St where
  b : List Int
  short : Bool
  e : Int
def St.need (s : St) (ok : Bool) (e : Int) : St := if s.e = 0 ∧ ok = false then { s with e := e } else s
def St.end_ (s : St) : St := s.need (decide (s.b.length = 0)) 3
def St.bytes (s : St) (n : Int) : List Int × St :=
  if s.short = true ∨ n < 0 ∨ (s.b.length : Int) < n then ([], { ({ s with b := [], short := true } : St) with e := if s.e = 0 then 2 else s.e }) else (s.b.take n.toNat, { s with b := s.b.drop n.toNat })
structure Cur (w : World) (G : Nat → Prop) (cb : Nat) (s : St) : Prop where
  hot : G cb
  low : ∀ b, G b → b < w.heap.size
  out : ∃ v, w.heap[cb]? = some (.cells #[v, .bool s.short, .int .i64 s.e] 259 (0, 0)) ∧ Stay .u8 w G v s.b
theorem Cur.keep {w w' : World} {G : Nat → Prop} {cb : Nat} {s : St} (h : Cur w G cb s) {F : Nat → Prop} (q : Kept w w' F) (hF : ∀ b, F b → G b ∧ b ≠ cb) : Cur w' G cb s := by
  obtain ⟨v, hc, hb⟩ := h.out
  exact ⟨h.hot, fun b hb => Nat.lt_of_lt_of_le (h.low b hb) q.size, v, q.heap hc (fun h => (hF _ h).2 rfl), hb.next q (fun b h => (hF b h).1)⟩
theorem Cur.keep0 {w w' : World} {G : Nat → Prop} {cb : Nat} {s : St} (h : Cur w G cb s) (q : Kept w w' (fun _ => False)) : Cur w' G cb s := h.keep q (fun _ h => h.elim)
theorem nil23 (n c : Nat) (w : World) : (binOp .eql 23 (.slice none n c) (.slice none 0 0)).run Tryz.prog w = .ok (.bool true) w := by kernel_rfl
theorem some23 (a : Addr) (n c : Nat) (w : World) : (binOp .eql 23 (.slice (some a) n c) (.slice none 0 0)).run Tryz.prog w = .ok (.bool false) w := by kernel_rfl
set_option maxHeartbeats 400000 in
set_option maxRecDepth 1000000 in
theorem clone_calls (w : World) (v : Value) (l : List Int) (h : By w v l) (hl : l.length ≤ 100000) : Calls Tryz.prog 158 #[v] w fun r w' => ∃ A' c', r = .returned (.slice A' l.length c') ∧ By w' (.slice A' l.length c') l ∧ New w A' ∧ Kept w w' (fun _ => False) := by
  obtain ⟨A, c, rfl, hc, hC⟩ := h
  have hB : By w (.slice A l.length c) l := ⟨_, _, rfl, hc, hC⟩
  cases A with
  | none =>
    have hn : l = [] := by
      cases l with
      | nil => rfl
      | cons x t => obtain ⟨ad, h, _⟩ := hC.2.2 (by simp); cases h
    have FIN : Aside0 (By w (.slice none 0 0) l) := ⟨by rw [hn]; exact Rd.nil _ _⟩
    have hl0 : l.length = 0 := by rw [hn]; rfl
    rw [hl0]
    clear hC hB hn
    have hnl := nil23 l.length c w
    rw [hl0] at hnl
    go_enter Tryz.func158, Tryz.ntmps158
    go_wp2
    go_ret
    exact ⟨_, _, rfl, FIN.out, (fun ad h => by cases h), Kept.refl _ _⟩
  | some ad =>
    have q := Kept.alloc w (.cells #[] 5) (fun _ => False)
    obtain ⟨v', w', ha, ho, hg, hown⟩ := app_by (w.alloc (.cells #[] 5)) 23 (.slice (some ⟨w.heap.size, 0, none⟩) 0 0) 0 [] (World.ownsRow_made (base := 0) w #[] 0 (Nat.zero_le _) (by unfold maxLen; omega) rfl) _ l (hB.keep q) (by omega)
    have hR : By w' v' l := row_rd (by simpa using ho) (by omega)
    obtain ⟨A', c', rfl, -⟩ := hR.len
    have FIN : Aside0 (By w' (.slice A' l.length c') l ∧ New w A' ∧ Kept w w' (fun _ => False)) := ⟨hR, fun ad e => by
      subst e
      rcases hown with h | h <;> simp [Value.ownBlock] at h <;> omega, q.trans (Kept.grown hg (F := fun b => b = w.heap.size) (fun b hb => by simpa [Value.ownBlock] using hb)) (fun _ _ h => h) (fun b hb h => by omega)⟩
    have hlit := lit0_23 w
    have hnl := some23 ad l.length c w
    clear hC hB ho hg q hown hR
    go_enter Tryz.func158, Tryz.ntmps158
    go_wp2_with (first
      | (refine wpList_plain rfl fun _ hK => wp_lit0 23 rfl _ _ hlit (hK _ _ ?_))
      | (refine wpList_plain rfl fun _ hK => wp_append (.tmp 5) (.tmp 6) 23 23 rfl _ _ rfl rfl _ w' ha (hK _ _ ?_)))
    go_ret
    exact ⟨_, _, rfl, FIN.out⟩
def w2 (a b : Int) : Int := bits BinOp.or IntKind.u16 (IntKind.u16.wrap (IntKind.u16.wrap a * 256)) (IntKind.u16.wrap b)
def wTake : List Int → List Int
  | a :: b :: t => w2 a b :: wTake t
  | _ => []
theorem wTake_snoc (x y : Int) : ∀ (n : Nat) (p : List Int), p.length = 2 * n → wTake (p ++ [x, y]) = wTake p ++ [w2 x y]
  | 0, p, h => by
    obtain rfl : p = [] := List.eq_nil_of_length_eq_zero (by simpa using h)
    rfl
  | n + 1, a :: b :: t, h => by
    simp only [List.cons_append, wTake]
    rw [wTake_snoc x y n t (by simp at h; omega)]
  | n + 1, [a], h => by simp at h; omega
  | n + 1, [], h => by simp at h
theorem Cur.set {w : World} {G : Nat → Prop} {cb : Nat} {v v' : Value} {sh : Bool} {e : Int} (hot : G cb) (low : ∀ b, G b → b < w.heap.size) (hc : w.heap[cb]? = some (.cells #[v, .bool sh, .int .i64 e] 259 (0, 0))) {i : Nat} {u : Value} {s' : St} (hs : (#[v, .bool sh, .int .i64 e] : Array Value).setIfInBounds i u = #[v', .bool s'.short, .int .i64 s'.e])
    (hb : Stay .u8 w G v' s'.b) : Cur (w.setCell ⟨cb, i, none⟩ u) G cb s' ∧ Kept w (w.setCell ⟨cb, i, none⟩ u) (fun b => b = cb) := by
  have q := Kept.setCell w cb i u (F := fun b => b = cb) rfl
  exact ⟨⟨hot, fun b hb => Nat.lt_of_lt_of_le (low b hb) q.size, v', by have := setCell_row (i := i) (v := u) hc; rw [hs] at this; exact this, hb.next q (fun b e => e ▸ hot)⟩, q⟩
set_option maxRecDepth 1000000 in
theorem new_cur (w : World) (v : Value) (l : List Int) (h : By w v l) (hl : l.length ≤ 100000) : Calls Tryz.prog 133 #[v] w fun r w' => ∃ cb, r = .returned (.pointer (some ⟨cb, 0, none⟩)) ∧ w.heap.size ≤ cb ∧ (∀ G : Nat → Prop, (∀ b, G b ↔ b = cb ∨ b < w.heap.size ∧ G b) → G cb → Cur w' G cb ⟨l, false, 0⟩) ∧ Kept w w' (fun _ => False) := by
  have hcl := clone_calls w v l h hl
  clear h
  go_enter Tryz.func133, Tryz.ntmps133
  go_wp2_with (go_at_call 158; with_reducible refine hcl.mono ?_; rintro e w1 ⟨A, c, rfl, hB, hN, k1⟩; clear hcl)
  go_ret
  have q := Kept.alloc w1 (.cells #[.slice A l.length c, .bool false, .int .i64 0] 259) (fun _ => False)
  refine ⟨_, rfl, k1.size, fun G hG hcb => ⟨hcb, fun b hb => ?_, _, heap_alloc_new _ _, fun w' qq => (hB.keep q).stay qq (fun ad e h0 g => ?_)⟩, k1.trans q (fun _ _ h => h) (fun _ _ h => h)⟩
  · rcases (hG b).1 hb with rfl | ⟨h, _⟩
    · simp
    · have := k1.size; simp; omega
  · have h1 := hN ad e
    rcases (hG _).1 g with h | ⟨h, _⟩
    · subst e
      obtain ⟨A', c', e', hc, hC⟩ := hB
      injection e' with e1 e2 e3
      subst e1
      · obtain ⟨x, t, rfl⟩ : ∃ x t, l = x :: t := by cases l with | nil => simp at h0 | cons x t => exact ⟨x, t, rfl⟩
        obtain ⟨ad', e4, _, hcell⟩ := Rd.at_ (k := .u8) (w := w1) (A := some ad) (n := (x :: t).length) (c := c) (l := x :: t) ⟨_, _, rfl, by omega, hC⟩ (i := 0) (by simp)
        injection e4 with e4
        subst e4
        have := World.block_lt_of_cell? _ _ hcell
        simp [Addr.add] at this
        omega
    · omega
theorem Cur.cells {w : World} {G : Nat → Prop} {cb : Nat} {s : St} (h : Cur w G cb s) : ∃ A c, w.cell? ⟨cb, 0, none⟩ = some (.slice A s.b.length c) ∧ w.cell? ⟨cb, 1, none⟩ = some (.bool s.short) ∧ w.cell? ⟨cb, 2, none⟩ = some (.int .i64 s.e) ∧ Stay .u8 w G (.slice A s.b.length c) s.b ∧ s.b.length ≤ c ∧
    w.heap[cb]? = some (.cells #[.slice A s.b.length c, .bool s.short, .int .i64 s.e] 259 (0, 0)) := by
  obtain ⟨v, hc, hb⟩ := h.out
  obtain ⟨A, c, rfl, hl⟩ := hb.now.len
  refine ⟨A, c, ?_, ?_, ?_, hb, hl, hc⟩
  · rw [cell_of_row w cb 0 _ 259 (0, 0) hc]; rfl
  · rw [cell_of_row w cb 1 _ 259 (0, 0) hc]; rfl
  · rw [cell_of_row w cb 2 _ 259 (0, 0) hc]; rfl
set_option maxRecDepth 1000000 in
theorem err_calls (w : World) (cb : Nat) (s : St) {G : Nat → Prop} (h : Cur w G cb s) : Calls Tryz.prog 140 #[.pointer (some ⟨cb, 0, none⟩)] w fun r w' => r = .returned (.int .i64 s.e) ∧ w' = w := by
  obtain ⟨A, c, c0, c1, c2, -, -, -⟩ := h.cells
  go_enter Tryz.func140, Tryz.ntmps140
  go_wp2
  go_ret
  exact ⟨rfl, rfl⟩
set_option maxRecDepth 1000000 in
theorem left_calls (w : World) (cb : Nat) (s : St) {G : Nat → Prop} (h : Cur w G cb s) : Calls Tryz.prog 155 #[.pointer (some ⟨cb, 0, none⟩)] w fun r w' => r = .returned (.int .i64 s.b.length) ∧ w' = w := by
  obtain ⟨A, c, c0, c1, c2, -, -, -⟩ := h.cells
  go_enter Tryz.func155, Tryz.ntmps155
  go_wp2
  go_ret
  exact ⟨rfl, rfl⟩
set_option maxRecDepth 1000000 in
theorem need_calls (w : World) (cb : Nat) (s : St) (ok : Bool) (e : Int) {G : Nat → Prop} (h : Cur w G cb s) : Calls Tryz.prog 150 #[.pointer (some ⟨cb, 0, none⟩), .bool ok, .int .i64 e] w fun r w' => r = .returned (.tuple #[]) ∧ Cur w' G cb (s.need ok e) ∧ Kept w w' (fun b => b = cb) := by
  obtain ⟨A, c, c0, c1, c2, hB, hl, hh⟩ := h.cells
  have fz : w.frozen? ⟨cb, 2, none⟩ = false := by simp [World.frozen?, hh]
  have HC : Aside0 _ := ⟨h⟩
  have HB : Aside0 _ := ⟨hB⟩
  have HH : Aside0 _ := ⟨hh⟩
  clear h hB hh
  by_cases h0 : s.e = 0
  · cases ok with
    | true =>
      have hs : s.need true e = s := by simp [St.need]
      rw [hs]
      go_enter Tryz.func150, Tryz.ntmps150
      go_wp2
      go_end0
      exact ⟨rfl, HC.out, Kept.refl _ _⟩
    | false =>
      have hs : s.need false e = { s with e := e } := by simp [St.need, h0]
      rw [hs]
      rw [h0] at c2
      have FIN : Aside0 _ := ⟨Cur.set (s' := { s with e := e }) HC.out.hot HC.out.low HH.out (i := 2) (u := .int .i64 e) rfl HB.out⟩
      go_enter Tryz.func150, Tryz.ntmps150
      go_wp2
      go_end0
      exact ⟨rfl, FIN.out⟩
  · have hs : s.need ok e = s := by simp [St.need, h0]
    have hb : (s.e == 0) = false := by simpa using h0
    rw [hs]
    go_enter Tryz.func150, Tryz.ntmps150
    go_wp2
    go_end0
    exact ⟨rfl, HC.out, Kept.refl _ _⟩
set_option maxRecDepth 1000000 in
theorem end_calls (w : World) (cb : Nat) (s : St) {G : Nat → Prop} (h : Cur w G cb s) : Calls Tryz.prog 139 #[.pointer (some ⟨cb, 0, none⟩)] w fun r w' => r = .returned (.tuple #[]) ∧ Cur w' G cb s.end_ ∧ Kept w w' (fun b => b = cb) := by
  obtain ⟨A, c, c0, c1, c2, -, -, -⟩ := h.cells
  have hn := need_calls w cb s (decide (s.b.length = 0)) 3 h
  obtain ⟨n, hne⟩ : ∃ n, s.b.length = n := ⟨_, rfl⟩
  rw [hne] at c0 hn
  have HN : Aside0 _ := ⟨hne⟩
  have hS : s.end_ = s.need (decide (n = 0)) 3 := by rw [St.end_, hne]
  rw [hS]
  obtain ⟨b, hb⟩ : ∃ b, decide (n = 0) = b := ⟨_, rfl⟩
  rw [hb] at hn ⊢
  have hz : (((n : Nat) : Int) == 0) = b := by rw [← hb]; by_cases h : n = 0 <;> simp [h]
  have hz2 : decide (((n : Nat) : Int) = 0) = b := by rw [← hb]; by_cases h : n = 0 <;> simp [h]
  clear hne hS
  go_enter Tryz.func139, Tryz.ntmps139
  go_wp2_with (go_at_call 150; with_reducible refine hn.mono ?_; rintro e w1 ⟨rfl, hC, k⟩)
  go_end0
  exact ⟨rfl, hC, k⟩
theorem cut_set {w w1 : World} {G : Nat → Prop} {cb : Nat} {s : St} {A : Option Addr} {c m : Nat} {sh : Bool} {e : Int} (hot : G cb) (low : ∀ b, G b → b < w.heap.size) (hB : Stay .u8 w G (.slice A s.b.length c) s.b) (hh : w.heap[cb]? = some (.cells #[.slice A s.b.length c, .bool sh, .int .i64 e] 259 (0, 0))) (hm : m ≤ s.b.length) (k1 : Kept w w1 (fun _ => False)) (u : Value)
    (hu : u = .slice (if c = m then A else A.map (·.add m)) (s.b.length - m) (c - m)) : Cur (w1.setCell ⟨cb, 0, none⟩ u) G cb ⟨s.b.drop m, sh, e⟩ ∧ Kept w (w1.setCell ⟨cb, 0, none⟩ u) (fun b => b = cb) ∧ (∀ v' l', Stay .u8 w1 G v' l' → Stay .u8 (w1.setCell ⟨cb, 0, none⟩ u) G v' l') := by
  have hb : Stay .u8 w1 G u (s.b.drop m) := fun w' k' => by rw [hu]; exact ((hB.next k1 (fun _ h => h.elim)) w' k').drop hm
  obtain ⟨p1, p2⟩ := Cur.set (s' := ⟨s.b.drop m, sh, e⟩) (i := 0) (u := u) hot (fun b h => Nat.lt_of_lt_of_le (low b h) k1.size) (k1.heap hh (fun h => h)) rfl hb
  exact ⟨p1, k1.trans p2 (fun _ _ h => h.elim) (fun _ _ h => h), fun v' l' h => h.next p2 (fun b e => e ▸ hot)⟩
set_option maxHeartbeats 1000000 in
set_option maxRecDepth 1000000 in
theorem bytes_calls (w : World) (cb : Nat) (s : St) (n : Int) {G : Nat → Prop} (h : Cur w G cb s) (hl : s.b.length ≤ 100000) : Calls Tryz.prog 151 #[.pointer (some ⟨cb, 0, none⟩), .int .i64 n] w fun r w' => ∃ A c, r = .returned (.slice A (s.bytes n).1.length c) ∧ Stay .u8 w' G (.slice A (s.bytes n).1.length c) (s.bytes n).1 ∧ Cur w' G cb (s.bytes n).2 ∧ Kept w w' (fun b => b = cb) := by
  obtain ⟨A, c, c0, c1, c2, hB, hc, hh⟩ := h.cells
  by_cases hbad : s.short = true ∨ n < 0 ∨ (s.b.length : Int) < n
  · have hs : s.bytes n = ([], { ({ s with b := [], short := true } : St) with e := if s.e = 0 then 2 else s.e }) := by rw [St.bytes, if_pos hbad]
    have F1 : Aside0 _ := ⟨Cur.set (s' := ⟨[], s.short, s.e⟩) h.hot h.low hh (i := 0) (u := .slice none 0 0) rfl (fun w' _ => Rd.nil _ w')⟩
    have fz : w.frozen? ⟨cb, 0, none⟩ = false := by simp [World.frozen?, hh]
    have fz1 : w.frozen? ⟨cb, 1, none⟩ = false := by simp [World.frozen?, hh]
    rw [hs]
    obtain ⟨k, hk⟩ : ∃ k, s.b.length = k := ⟨_, rfl⟩
    rw [hk] at c0 hbad
    have hE : ({ ({ s with b := [], short := true } : St) with e := if s.e = 0 then 2 else s.e } : St) = (⟨[], true, s.e⟩ : St).need false 2 := by
      unfold St.need
      by_cases h : s.e = 0 <;> simp [h]
    rw [hE]
    have N2 : Aside0 (∀ W, W = (w.setCell ⟨cb, 0, none⟩ (.slice none 0 0)).setCell ⟨cb, 1, none⟩ (.bool true) → Cur W G cb ⟨[], true, s.e⟩ ∧ Kept w W (fun b => b = cb)) := ⟨fun W hW => by
      obtain ⟨⟨hot, low, v1, h1, hb1⟩, q1⟩ := F1.out
      obtain ⟨p, q2⟩ := Cur.set (s' := ⟨[], true, s.e⟩) (i := 1) (u := .bool true) hot low h1 rfl hb1
      rw [hW]
      exact ⟨p, q1.trans q2 (fun _ _ h => h) (fun _ _ h => h)⟩⟩
    clear hB hh h hl hs hE F1
    by_cases hsh : s.short = true
    · rw [hsh] at c1
      clear hbad
      go_enter Tryz.func151, Tryz.ntmps151
      go_upto_region 3 with fail
      obtain ⟨p, q⟩ := N2.out _ rfl
      have hn := need_calls _ cb _ false 2 p
      go_wp2_with (go_at_call 150; with_reducible refine hn.mono ?_; rintro e w2 ⟨rfl, hC, k2⟩)
      go_ret
      exact ⟨_, _, rfl, fun w' _ => Rd.nil _ w', hC, q.trans k2 (fun _ _ h => h) (fun _ _ h => h)⟩
    · have hs0 : s.short = false := by simpa using hsh
      rw [hs0] at c1
      have hb2 : n < 0 ∨ (¬ n < 0 ∧ (k : Int) < n) := by
        rcases hbad with h | h | h
        · exact absurd h hsh
        · exact .inl h
        · by_cases hn : n < 0
          · exact .inl hn
          · exact .inr ⟨hn, h⟩
      clear hbad
      rcases hb2 with hb2 | ⟨hb2, hb3⟩
      · go_enter Tryz.func151, Tryz.ntmps151
        go_upto_region 3 with fail
        obtain ⟨p, q⟩ := N2.out _ rfl
        have hn := need_calls _ cb _ false 2 p
        go_wp2_with (go_at_call 150; with_reducible refine hn.mono ?_; rintro e w2 ⟨rfl, hC, k2⟩)
        go_ret
        exact ⟨_, _, rfl, fun w' _ => Rd.nil _ w', hC, q.trans k2 (fun _ _ h => h) (fun _ _ h => h)⟩
      · go_enter Tryz.func151, Tryz.ntmps151
        go_upto_region 3 with fail
        obtain ⟨p, q⟩ := N2.out _ rfl
        have hn := need_calls _ cb _ false 2 p
        go_wp2_with (go_at_call 150; with_reducible refine hn.mono ?_; rintro e w2 ⟨rfl, hC, k2⟩)
        go_ret
        exact ⟨_, _, rfl, fun w' _ => Rd.nil _ w', hC, q.trans k2 (fun _ _ h => h) (fun _ _ h => h)⟩
  · have hs : s.bytes n = (s.b.take n.toNat, { s with b := s.b.drop n.toNat }) := by rw [St.bytes, if_neg hbad]
    rw [hs]
    have h1 : s.short = false := by cases hh : s.short <;> simp_all
    have h2 : ¬ n < 0 := fun h => hbad (.inr (.inl h))
    have h3 : ¬ (s.b.length : Int) < n := fun h => hbad (.inr (.inr h))
    obtain ⟨m, rfl⟩ : ∃ m : Nat, n = (m : Int) := ⟨n.toNat, by omega⟩
    have hm : m ≤ s.b.length := by omega
    rw [h1] at c1 hh
    have hcl := clone_calls w (.slice A m c) (s.b.take m) (hB.now.take hm) (by rw [List.length_take]; omega)
    have hmc : m ≤ c := by omega
    have HB : Aside0 _ := ⟨hB⟩
    have HH : Aside0 _ := ⟨hh⟩
    have HL : Aside0 _ := ⟨And.intro h.hot h.low⟩
    obtain ⟨k, hk⟩ : ∃ k, s.b.length = k := ⟨_, rfl⟩
    rw [hk] at c0 h3 hm
    have HK : Aside0 _ := ⟨hk⟩
    clear hbad hs h hB hh hc hk hl
    go_enter Tryz.func151, Tryz.ntmps151
    go_upto_region 6 with (go_at_call 158; with_reducible refine hcl.mono ?_; rintro e w1 ⟨A', c', rfl, hB', hN, k1⟩; clear hcl)
    replace c0 := k1.cell c0
    have fz : w1.frozen? ⟨cb, 0, none⟩ = false := by simp [World.frozen?, k1.heap HH.out (fun h => h)]
    have FIN : Aside0 _ := ⟨cut_set (m := m) HL.out.1 HL.out.2 HB.out HH.out (by rw [HK.out]; exact hm) k1⟩
    have HB2 : Aside0 _ := ⟨hB'.fresh hN HL.out.2⟩
    clear hB' k1 hN
    go_wp2
    · have hcm : c = m := by omega
      obtain ⟨p1, p2, p3⟩ := FIN.out (.slice A (k - m) 0) (by rw [if_pos hcm, HK.out, hcm, Nat.sub_self])
      go_ret
      exact ⟨_, _, rfl, by simpa using p3 _ _ HB2.out, by simpa using p1, p2⟩
    · have hcm : ¬ c = m := by omega
      obtain ⟨p1, p2, p3⟩ := FIN.out (.slice (Option.map (fun x => x.add m) A) (k - m) (c - m)) (by rw [if_neg hcm, HK.out])
      go_ret
      exact ⟨_, _, rfl, by simpa using p3 _ _ HB2.out, by simpa using p1, p2⟩
def St.byte (s : St) : Int × St := ((s.bytes 1).1.headD 0, (s.bytes 1).2)
theorem St.bytes_le (s : St) (n : Int) : (s.bytes n).1.length ≤ s.b.length ∧ (s.bytes n).2.b.length ≤ s.b.length := by
  unfold St.bytes
  split
  · simp
  · simp [List.length_take, List.length_drop]; omega
set_option maxHeartbeats 1000000 in
set_option maxRecDepth 1000000 in
theorem byte_calls (w : World) (cb : Nat) (s : St) {G : Nat → Prop} (h : Cur w G cb s) (hl : s.b.length ≤ 100000) : Calls Tryz.prog 149 #[.pointer (some ⟨cb, 0, none⟩)] w fun r w' => r = .returned (.int .u8 s.byte.1) ∧ Cur w' G cb s.byte.2 ∧ Kept w w' (fun b => b = cb) := by
  have hb := bytes_calls w cb s 1 h hl
  have hle := (s.bytes_le 1).1
  unfold St.byte
  generalize s.bytes 1 = p at *
  obtain ⟨l, s'⟩ := p
  simp only at *
  clear h
  go_enter Tryz.func149, Tryz.ntmps149
  go_wp2_with (go_at_call 151; with_reducible refine hb.mono ?_; rintro e w1 ⟨A, c, rfl, hB, hC, k⟩)
  have FIN : Aside0 _ := ⟨And.intro hC k⟩
  clear hb hC k
  cases l with
  | nil =>
    simp only [List.length_nil] at *
    go_loopg [8] 1 (fun kx s8 wr => s8 = .int .i64 0 ∧ wr = w1)
    case atStart => exact ⟨rfl, rfl⟩
    case round =>
      obtain ⟨rfl, rfl⟩ := hrel
      go_wp2
      go_ret
      exact ⟨rfl, FIN.out⟩
  | cons x t =>
    obtain ⟨ad, rfl, -, hc⟩ := hB.now.at_ (i := 0) (by simp)
    have hc0 : w1.cell? ad = some (.int .u8 x) := by simpa [Addr.add] using hc
    have hp : (0 : Int) < (((x :: t).length : Nat) : Int) := by simp
    generalize (x :: t).length = n at *
    clear hB hc
    go_loopg [8] 1 (fun kx s8 wr => s8 = .int .i64 0 ∧ wr = w1)
    case atStart => exact ⟨rfl, rfl⟩
    case round =>
      obtain ⟨rfl, rfl⟩ := hrel
      go_wp2
      go_ret
      exact ⟨rfl, FIN.out⟩
set_option maxHeartbeats 1000000 in
set_option maxRecDepth 1000000 in
theorem wtake_calls (w : World) (v : Value) (l : List Int) (h : By w v l) (hl : l.length ≤ 100000) (he : l.length % 2 = 0) : Calls Tryz.prog 202 #[v] w fun r w' => ∃ A c, r = .returned (.slice A (wTake l).length c) ∧ Wo w' (.slice A (wTake l).length c) (wTake l) ∧ New w A ∧ Kept w w' (fun _ => False) := by
  obtain ⟨A, c, rfl, hc⟩ := h.len
  obtain ⟨n, hn⟩ : ∃ n, l.length = n := ⟨_, rfl⟩
  rw [hn] at h hc hl he ⊢
  have HN : Aside0 _ := ⟨hn⟩
  have HB : Aside0 _ := ⟨h⟩
  clear h hn
  have hodd := he
  clear he
  · have ho : ((n : Int).tmod 2) = 0 := by rw [Int.tmod_eq_emod_of_nonneg (by omega)]; omega
    have START : Aside0 (w.ownsRow 0 27 1 (.slice none 0 0) 0 [] ∧ Kept w w (fun _ => False)) := ⟨World.ownsRow_nil _ _ _ _, Kept.refl _ _⟩
    go_enter Tryz.func202, Tryz.ntmps202
    go_wp2
    go_loopg [3, 4] n (fun kx s3 s4 wr => ∃ i : Nat, s4 = .int .i64 i ∧ i % 2 = 0 ∧ i ≤ n ∧ n - i ≤ kx ∧ Aside0 (wr.ownsRow 0 27 1 s3 (i / 2) ((wTake (l.take i)).map (Value.int .u16)) ∧ (∀ b, some b = s3.ownBlock → w.heap.size ≤ b) ∧ Kept w wr (fun _ => False)))
    case atStart => exact ⟨0, rfl, rfl, Nat.zero_le _, Nat.le_refl _, ⟨World.ownsRow_nil _ _ _ _, fun b hb => by simp [Value.ownBlock] at hb, Kept.refl _ _⟩⟩
    case round =>
      clear START
      obtain ⟨i, rfl, hi2, hi, hkx, D⟩ := hrel
      by_cases hlt : i < n
      · have h2 : i + 1 < n := by omega
        obtain ⟨ad, rfl, -, ca⟩ := HB.out.at_ (i := i) (by rw [HN.out]; exact hlt)
        obtain ⟨ad', he, -, cb⟩ := HB.out.at_ (i := i + 1) (by rw [HN.out]; exact h2)
        injection he with he
        subst he
        have hiz : (i : Int) < (n : Int) := by omega
        obtain ⟨j, hwr, hj0, hj1, hjt⟩ : ∃ j : Int, IntKind.i64.wrap ((i : Int) + 1) = j ∧ 0 ≤ j ∧ j < (n : Int) ∧ j.toNat = i + 1 := ⟨_, wrapi _ (by omega), by omega, by omega, by omega⟩
        have hnz : (n : Int) ≤ 100000 := by omega
        obtain ⟨x, hx⟩ : ∃ x, l[i]'(by rw [HN.out]; exact hlt) = x := ⟨_, rfl⟩
        obtain ⟨y, hy⟩ : ∃ y, l[i + 1]'(by rw [HN.out]; exact h2) = y := ⟨_, rfl⟩
        rw [hx] at ca
        rw [hy] at cb
        replace ca := D.out.2.2.cell ca
        replace cb := D.out.2.2.cell cb
        obtain ⟨i1, hi1⟩ : ∃ i1, i + 1 = i1 := ⟨_, rfl⟩
        rw [hi1] at cb hjt
        have HI : Aside0 _ := ⟨hi1⟩
        clear hi1
        have k1 := Kept.drew wr (fun _ => False)
        have NX : ∀ tz, ∃ v' w', (Builtin.append_ #[30, 30] tz #[u3, .slice (some ⟨wr.drew.heap.size, 0, none⟩) 1 1]).run Tryz.prog (wr.drew.alloc (.cells #[.int .u16 (w2 x y)] 27)) = .ok v' w' ∧
            w'.ownsRow 0 27 1 v' ((i + 2) / 2) ((wTake (l.take (i + 2))).map (Value.int .u16)) ∧ (∀ b, some b = v'.ownBlock → w.heap.size ≤ b) ∧ Kept w w' (fun _ => False) := fun tz => by
          have q2 := k1.trans (Kept.alloc wr.drew (.cells #[.int .u16 (w2 x y)] 27) (fun _ => False)) (fun _ _ h => h) (fun _ _ h => h)
          obtain ⟨v', w', a1, a2, a3, a4⟩ := app_rd (k := .u16) (bytes := 2) Tryz.underlying30 info27 (by omega) _ tz u3 (i / 2) _ (q2.owns D.out.1 (fun _ _ h => h)) _ [w2 x y] (one_rd .u16 wr.drew (w2 x y) 27) (by simp; omega)
          have kg := Kept.grown a3 (F := fun b => some b = u3.ownBlock) (fun _ h => h)
          have hs := D.out.2.2.size
          refine ⟨v', w', a1, ?_, fun b hb => ?_, (D.out.2.2.trans q2 (fun _ _ h => h) (fun _ _ h => h)).trans kg (fun _ _ h => h) (fun b hb h => by have := D.out.2.1 b h; omega)⟩
          · have e : l.take (i + 2) = l.take i ++ [x, y] := by
              rw [← hx, ← hy, show i + 2 = i + 1 + 1 by omega, List.take_add_one, List.take_add_one, List.getElem?_eq_getElem (by rw [HN.out]; omega), List.getElem?_eq_getElem (by rw [HN.out]; omega)]
              simp only [Option.toList_some, List.append_assoc, List.cons_append, List.nil_append]
            rw [e, wTake_snoc x y (i / 2) _ (by rw [List.length_take, HN.out]; omega), List.map_append, show (i + 2) / 2 = i / 2 + 1 by omega]
            exact a2
          · rcases a4 with h | h
            · exact D.out.2.1 b (hb.trans h)
            · rw [h] at hb; injection hb with hb; simp at hb; omega
        go_upto_region 7 with fail
        generalize wr = W at *
        refine start_ (n := 17) (S := fun w' => Kept W w' (fun _ => False)) (ds := [15]) (mk 17 0) (by kernel_rfl) rfl (by kernel_rfl) (Kept.drew W _) (fun hHeld => ?_)
        skip
        refine pure_ (i := 0) (N := (some 15)) (v := ?_) (a' := ?_) (mk 17 1) rfl rfl (by kernel_rfl) (fun _ _ _ h => h) (.inl ⟨by rfl, ?_⟩) ?_ ?_
        rotate_left
        · intro w'; go_simp; with_reducible rfl
        rotate_left
        · (try simp only [pt, p0, p1, p2]); rfl
        refine pure_ (i := 1) (N := (some 16)) (v := ?_) (a' := ?_) (mk 17 3) rfl rfl (by kernel_rfl) (fun _ _ _ h => h) (.inl ⟨by rfl, ?_⟩) ?_ ?_
        rotate_left
        · intro w'; go_simp; with_reducible rfl
        rotate_left
        · (try simp only [pt, p0, p1, p2]); rfl
        refine pure_ (i := 2) (N := (some 17)) (v := ?_) (a' := ?_) (mk 17 7) rfl rfl (by kernel_rfl) (fun _ _ _ h => h) (.inl ⟨by rfl, ?_⟩) ?_ ?_
        rotate_left
        · intro w'; go_simp; with_reducible rfl
        rotate_left
        · (try simp only [pt, p0, p1, p2]); rfl
        refine pure_ (i := 3) (N := (some 18)) (v := ?_) (a' := ?_) (mk 17 15) rfl rfl (by kernel_rfl) (fun _ _ _ h => h) (.inl ⟨by rfl, ?_⟩) ?_ ?_
        rotate_left
        · intro w'; go_simp; with_reducible rfl
        rotate_left
        · (try simp only [pt, p0, p1, p2]); rfl
        refine take_ (i := 4) (N := (some 19)) (v := ?_) (a' := ?_) (mk 17 31) rfl rfl (by kernel_rfl) (fun _ _ _ h => h) (.inl ⟨by rfl, ?_⟩) hHeld ?_ ?_
        rotate_left
        · intro w' hS; have q5 := (hS.cell ca); go_simp; with_reducible rfl
        rotate_left
        · (try simp only [pt, p0, p1, p2]); rfl
        refine pure_ (i := 5) (N := (some 20)) (v := ?_) (a' := ?_) (mk 17 63) rfl rfl (by kernel_rfl) (fun _ _ _ h => h) (.inl ⟨by rfl, ?_⟩) ?_ ?_
        rotate_left
        · intro w'; go_simp; with_reducible rfl
        rotate_left
        · (try simp only [pt, p0, p1, p2]); rfl
        refine pure_ (i := 6) (N := (some 21)) (v := ?_) (a' := ?_) (mk 17 127) rfl rfl (by kernel_rfl) (fun _ _ _ h => h) (.inl ⟨by rfl, ?_⟩) ?_ ?_
        rotate_left
        · intro w'; go_simp; with_reducible rfl
        rotate_left
        · (try simp only [pt, p0, p1, p2]); rfl
        refine pure_ (i := 7) (N := (some 22)) (v := ?_) (a' := ?_) (mk 17 255) rfl rfl (by kernel_rfl) (fun _ _ _ h => h) (.inl ⟨by rfl, ?_⟩) ?_ ?_
        rotate_left
        · intro w'; go_simp; with_reducible rfl
        rotate_left
        · (try simp only [pt, p0, p1, p2]); rfl
        refine pure_ (i := 8) (N := (some 23)) (v := ?_) (a' := ?_) (mk 17 511) rfl rfl (by kernel_rfl) (fun _ _ _ h => h) (.inl ⟨by rfl, ?_⟩) ?_ ?_
        rotate_left
        · intro w'; go_simp; with_reducible rfl
        rotate_left
        · (try simp only [pt, p0, p1, p2]); rfl
        refine pure_ (i := 9) (N := (some 24)) (v := ?_) (a' := ?_) (mk 17 1023) rfl rfl (by kernel_rfl) (fun _ _ _ h => h) (.inl ⟨by rfl, ?_⟩) ?_ ?_
        rotate_left
        · intro w'; go_simp; with_reducible rfl
        rotate_left
        · (try simp only [pt, p0, p1, p2]); rfl
        refine pure_ (i := 10) (N := (some 25)) (v := ?_) (a' := ?_) (mk 17 2047) rfl rfl (by kernel_rfl) (fun _ _ _ h => h) (.inl ⟨by rfl, ?_⟩) ?_ ?_
        rotate_left
        · intro w'; go_simp; with_reducible rfl
        rotate_left
        · (try simp only [pt, p0, p1, p2]); rfl
        refine take_ (i := 11) (N := (some 26)) (v := ?_) (a' := ?_) (mk 17 4095) rfl rfl (by kernel_rfl) (fun _ _ _ h => h) (.inl ⟨by rfl, ?_⟩) hHeld ?_ ?_
        rotate_left
        · intro w' hS; have q5 := (hS.cell cb); go_simp; with_reducible rfl
        rotate_left
        · (try simp only [pt, p0, p1, p2]); rfl
        refine pure_ (i := 12) (N := (some 27)) (v := ?_) (a' := ?_) (mk 17 8191) rfl rfl (by kernel_rfl) (fun _ _ _ h => h) (.inl ⟨by rfl, ?_⟩) ?_ ?_
        rotate_left
        · intro w'; go_simp; with_reducible rfl
        rotate_left
        · (try simp only [pt, p0, p1, p2]); rfl
        refine pure_ (i := 13) (N := (some 28)) (v := ?_) (a' := ?_) (mk 17 16383) rfl rfl (by kernel_rfl) (fun _ _ _ h => h) (.inl ⟨by rfl, ?_⟩) ?_ ?_
        rotate_left
        · intro w'; go_simp; with_reducible rfl
        rotate_left
        · (try simp only [pt, p0, p1, p2]); rfl
        clear hHeld
        refine one_ (i := 14) (N := some 29) (mk 17 32767) rfl rfl (by kernel_rfl) (by decide) (fun K hK => ?_)
        rw [if_pos (by kernel_rfl)]
        refine wp_lit1 30 (.tmp 28) rfl _ rfl _ _ (lit_w _ _) ?_
        refine hK.out _ _ (k1.trans (Kept.alloc _ _ (fun _ => False)) (fun _ _ h => h) (fun _ _ h => h)) (fun hHeld => ?_)
        clear hK K hHeld
        refine norm_ (a' := ?_) ?_ ?_
        rotate_left
        · show Act.put _ (some 29) _ = _
          (try simp only [Act.put, List.setIfInBounds_toArray, List.set_cons_zero, List.set_cons_succ])
          rfl
        obtain ⟨v', w', ha, hR⟩ := NX 30
        refine last_ (i := 15) (N := some 30) (mk 17 65535) rfl rfl (by kernel_rfl) (by decide) (fun K hK => ?_)
        rw [if_pos (by kernel_rfl)]
        refine wp_append (.tmp 15) (.tmp 29) 30 30 rfl _ _ rfl rfl v' w' ha ?_
        refine hK.out _ _ ?_
        clear hK K
        refine norm_ (a' := ?_) ?_ ?_
        rotate_left
        · show Act.put _ (some 30) _ = _
          (try simp only [Act.put, List.setIfInBounds_toArray, List.set_cons_zero, List.set_cons_succ])
          rfl
        refine pure_ (i := 16) (N := (some 3)) (v := ?_) (a' := ?_) (mk 17 131071) rfl rfl (by kernel_rfl) (fun _ _ _ h => h) (.inl ⟨by rfl, ?_⟩) ?_ ?_
        rotate_left
        · intro w'; go_simp; with_reducible rfl
        rotate_left
        · (try simp only [pt, p0, p1, p2]); rfl
        refine done_ (by kernel_rfl) ?_
        have D2 : Aside0 _ := ⟨hR⟩
        clear hR
        go_wp2
        go_roundg (n - (i + 2))
        case measure => omega
        case rel => exact ⟨i + 2, by go_num, by omega, by omega, by omega, D2⟩
      · have hge : ¬ ((i : Int) < (n : Int)) := by omega
        have hin : i = n := by omega
        have hlen : (wTake l).length = n / 2 := by
          have := D.out.1.1
          rw [hin, List.take_of_length_le (Nat.le_of_eq HN.out)] at this
          simpa using this
        have h1 := D.out.1
        rw [hin, List.take_of_length_le (Nat.le_of_eq HN.out), ← hlen] at h1
        have h2 := row_rd h1 (by rw [hlen]; omega)
        obtain ⟨a, c', rfl, -⟩ := h2.len
        have hN : New w a := fun ad e => by subst e; exact D.out.2.1 _ rfl
        have FIN : Aside0 _ := ⟨And.intro h2 (And.intro hN D.out.2.2)⟩
        clear h1 h2 hlen D hN
        go_wp2
        go_ret
        exact ⟨a, c', rfl, FIN.out⟩
def St.words (s : St) (n : Int) : List Int × St := if n < 0 ∨ (s.b.length : Int) < n then ([], (s.bytes (-1)).2) else (wTake (s.bytes (2 * n)).1, (s.bytes (2 * n)).2)
def St.word (s : St) : Int × St := ((s.words 1).1.headD 0, (s.words 1).2)
theorem St.words_le (s : St) (n : Int) : (s.words n).2.b.length ≤ s.b.length := by
  unfold St.words
  split <;> exact (s.bytes_le _).2
theorem St.bytes_even (s : St) (n : Nat) : (s.bytes (2 * (n : Int))).1.length % 2 = 0 := by
  unfold St.bytes
  split
  · rfl
  · rw [List.length_take]; omega
set_option maxHeartbeats 1000000 in
set_option maxRecDepth 1000000 in
theorem numbers_calls (w : World) (cb : Nat) (s : St) (n : Int) (k : Nat) (hk : s.b.length = k) {G : Nat → Prop} (h : Cur w G cb s) (hl : s.b.length ≤ 100000) : Calls Tryz.prog 197 #[.func (.func 151) #[.pointer (some ⟨cb, 0, none⟩)] #[], .int .i64 n, .int .i64 k] w fun r w' => ∃ A c, r = .returned (.slice A (s.words n).1.length c) ∧ Stay .u16 w' G (.slice A (s.words n).1.length c) (s.words n).1 ∧ Cur w' G cb (s.words n).2 ∧ Kept w w' (fun b => b = cb) := by
  have eg : ∀ args w, (callFunc 151 args).run Tryz.prog w = .ok (.enter 151 args) w := enters_of Tryz.func151 (by kernel_rfl) rfl
  by_cases hb : n < 0 ∨ (s.b.length : Int) < n
  · have hs : s.words n = ([], (s.bytes (-1)).2) := by rw [St.words, if_pos hb]
    rw [hs]
    have hr := bytes_calls w cb s (-1) h hl
    have hb2 : n < 0 ∨ (¬ n < 0 ∧ (k : Int) < n) := by omega
    clear hb hs h
    rcases hb2 with hb2 | ⟨hb2, hb3⟩
    · go_enter Tryz.func197, Tryz.ntmps197
      go_wp2_with (go_at_fn 151; with_reducible refine hr.mono ?_; rintro e w1 ⟨A, c, rfl, -, hC, k⟩; clear hr)
      go_ret
      exact ⟨_, _, rfl, fun w' _ => Rd.nil _ w', hC, k⟩
    · go_enter Tryz.func197, Tryz.ntmps197
      go_wp2_with (go_at_fn 151; with_reducible refine hr.mono ?_; rintro e w1 ⟨A, c, rfl, -, hC, k⟩; clear hr)
      go_ret
      exact ⟨_, _, rfl, fun w' _ => Rd.nil _ w', hC, k⟩
  · have hs : s.words n = (wTake (s.bytes (2 * n)).1, (s.bytes (2 * n)).2) := by rw [St.words, if_neg hb]
    rw [hs]
    have hr := bytes_calls w cb s (2 * n) h hl
    obtain ⟨m, rfl⟩ : ∃ m : Nat, n = (m : Int) := ⟨n.toNat, by omega⟩
    have hev := s.bytes_even m
    have hle := (s.bytes_le (2 * (m : Int))).1
    generalize s.bytes (2 * (m : Int)) = p at *
    obtain ⟨l, s'⟩ := p
    simp only at *
    have h1 : ¬ (m : Int) < 0 := by omega
    have h2 : ¬ (k : Int) < (m : Int) := by omega
    have h3 : (m : Int) ≤ 100000 := by omega
    clear hb hs h
    go_enter Tryz.func197, Tryz.ntmps197
    go_wp2_with (first
      | (go_at_fn 151; with_reducible refine hr.mono ?_; rintro e w1 ⟨A, c, rfl, hB, hC, k1⟩; have ht := wtake_calls w1 _ l hB.now (by omega) hev; clear hr)
      | (go_at_call 202; with_reducible refine ht.mono ?_; rintro e w2 ⟨A2, c2, rfl, hW, hN, k2⟩; clear ht))
    go_ret
    exact ⟨_, _, rfl, hW.fresh hN hC.low, hC.keep0 k2, k1.trans k2 (fun _ _ h => h) (fun _ _ h => h.elim)⟩
set_option maxHeartbeats 1000000 in
set_option maxRecDepth 1000000 in
theorem words_calls (w : World) (cb : Nat) (s : St) (n : Int) {G : Nat → Prop} (h : Cur w G cb s) (hl : s.b.length ≤ 100000) : Calls Tryz.prog 176 #[.pointer (some ⟨cb, 0, none⟩), .int .i64 n] w fun r w' => ∃ A c, r = .returned (.slice A (s.words n).1.length c) ∧ Stay .u16 w' G (.slice A (s.words n).1.length c) (s.words n).1 ∧ Cur w' G cb (s.words n).2 ∧ Kept w w' (fun b => b = cb) := by
  obtain ⟨A, c, c0, c1, c2, hB, hc, hh⟩ := h.cells
  have hn := numbers_calls w cb s n _ rfl h hl
  generalize s.b.length = k at *
  clear hB hh hc h hl
  go_enter Tryz.func176, Tryz.ntmps176
  go_wp2_with (go_at_call 197; with_reducible refine hn.mono ?_; rintro e w1 ⟨A1, c1', rfl, hW, hC, k1⟩; clear hn)
  go_ret
  exact ⟨_, _, rfl, hW, hC, k1⟩
set_option maxHeartbeats 1000000 in
set_option maxRecDepth 1000000 in
theorem word_calls (w : World) (cb : Nat) (s : St) {G : Nat → Prop} (h : Cur w G cb s) (hl : s.b.length ≤ 100000) : Calls Tryz.prog 160 #[.pointer (some ⟨cb, 0, none⟩)] w fun r w' => r = .returned (.int .u16 s.word.1) ∧ Cur w' G cb s.word.2 ∧ Kept w w' (fun b => b = cb) := by
  have hb := words_calls w cb s 1 h hl
  unfold St.word
  generalize s.words 1 = p at *
  obtain ⟨l, s'⟩ := p
  simp only at *
  clear h
  go_enter Tryz.func160, Tryz.ntmps160
  go_wp2_with (go_at_call 176; with_reducible refine hb.mono ?_; rintro e w1 ⟨A, c, rfl, hB, hC, k⟩)
  have FIN : Aside0 _ := ⟨And.intro hC k⟩
  clear hb hC k
  cases l with
  | nil =>
    simp only [List.length_nil] at *
    go_loopg [8] 1 (fun kx s8 wr => s8 = .int .i64 0 ∧ wr = w1)
    case atStart => exact ⟨rfl, rfl⟩
    case round =>
      obtain ⟨rfl, rfl⟩ := hrel
      go_wp2
      go_ret
      exact ⟨rfl, FIN.out⟩
  | cons x t =>
    obtain ⟨ad, rfl, -, hc⟩ := hB.now.at_ (i := 0) (by simp)
    have hc0 : w1.cell? ad = some (.int .u16 x) := by simpa [Addr.add] using hc
    have hp : (0 : Int) < (((x :: t).length : Nat) : Int) := by simp
    generalize (x :: t).length = n at *
    clear hB hc
    go_loopg [8] 1 (fun kx s8 wr => s8 = .int .i64 0 ∧ wr = w1)
    case atStart => exact ⟨rfl, rfl⟩
    case round =>
      obtain ⟨rfl, rfl⟩ := hrel
      go_wp2
      go_ret
      exact ⟨rfl, FIN.out⟩
end Go.Proofs.YtmbjlondehcheaaGreatDoor
end
section
namespace Go.Proofs.YtmbjlondehcheaaGreatDoorW.PrintWords
open Go.RowKit
section
variable {P : Program} {d : Nat} {xs ys : Array Value} {f : Field} {fs : List Field} {a b : Value} {r s : Bool} {w : World}
theorem eqf_last (hn : (f.name == "_") = false) (ha : (part f.type xs f.offset).run P w = .ok a w) (hb : (part f.type ys f.offset).run P w = .ok b w) (he : (Op.equalIn d f.type a b).run P w = .ok r w) : (Op.eqFields d xs ys [f]).run P w = .ok r w := by
  have hn' : f.name ≠ "_" := by simpa using hn
  simp only [Op.eqFields, if_pos hn', Sem.run_bind, ha, hb, he, Result.andThen_ok]
  cases r <;> simp
theorem eqf_cons (hn : (f.name == "_") = false) (ha : (part f.type xs f.offset).run P w = .ok a w) (hb : (part f.type ys f.offset).run P w = .ok b w) (he : (Op.equalIn d f.type a b).run P w = .ok r w) (hr : (Op.eqFields d xs ys fs).run P w = .ok s w) : (Op.eqFields d xs ys (f :: fs)).run P w = .ok (r && s) w := by
  have hn' : f.name ≠ "_" := by simpa using hn
  rw [Op.eqFields]
  simp only [if_pos hn', Sem.run_bind, ha, hb, he, Result.andThen_ok]
  cases r
  · simp
  · simpa using hr
theorem eqA_of {t : TypeId} {fs : Array Field} (hu : P.underlying t = some (.struct fs)) (hp : P.stoodInHeld t = false) (h : (Op.eqFields d xs ys fs.toList).run P w = .ok r w) : (Op.equalIn (d + 1) t (.agg xs) (.agg ys)).run P w = .ok r w := by
  have hf : P.fieldsOf t = fs := by simp [Program.fieldsOf, hu]
  rw [run_equalIn_struct (P := P) w d t xs ys (by rw [hf]; exact hu) hp, hf]
  exact h
end
end Go.Proofs.YtmbjlondehcheaaGreatDoorW.PrintWords
end
section
namespace Go.Proofs.YtmbjlondehcheaaGreatDoorW.PrintWords
open Go.RowKit
section
variable {P : Program} {ops : Array Oper} {rest : List Oper} {o : Oper} {a : Act} {Q : Exit → Act → World → Prop} {W : World}
theorem gate_guard (hw : Region.wanted o (yielded ops a.tmps) = true) (h : wpList P ops Q ({ o with guard := none } :: rest) a W) : wpList P ops Q (o :: rest) a W := by
  have h1 : Region.wanted { o with guard := none } (yielded ops a.tmps) = true := rfl
  unfold wpList at h ⊢
  rw [if_pos h1] at h
  rw [if_pos hw]
  exact h
end
end Go.Proofs.YtmbjlondehcheaaGreatDoorW.PrintWords
end
