/- TopTalk: part 10 of the walks: of HCop, HLay, HForm. -/
import Derived.Test.YtmbjlondehcheaaGreatDoorM09
section
set_option linter.unusedSimpArgs false
set_option linter.unusedVariables false
namespace Go.Proofs.YtmbjlondehcheaaGreatDoor
open Go.Shelf Go.RowKit Go.Lib Go.Sort Go.Proofs.YtmbjlondehcheaaGreatDoorW.PrintWords Go.Proofs.YtmbjlondehcheaaGreatDoorW.PrintLast Go.Proofs.YtmbjlondehcheaaGreatDoor.PTopTalk
def fin (s : St) (x : S35) : S35 × Int := if s.end_.e = 0 then (x, 0) else (z35, s.end_.e)
def coilsP (c : Int) (l : List Int) : S35 × Int :=
  let s : St := ⟨l, false, 0⟩
  let x : S35 := { z35 with f0 := c }
  if c = 1 ∨ c = 2 then fin (spanSt s 2000) (spanMsg s x) else if c = 5 then fin (setsSt s) (setsMsg s x) else if c = 15 then fin (manySt s) (manyMsg s x) else (z35, 4)
theorem coilsP_1 (l : List Int) : coilsP 1 l = fin (spanSt ⟨l, false, 0⟩ 2000) (spanMsg ⟨l, false, 0⟩ { z35 with f0 := 1 }) := by unfold coilsP; rw [if_pos (by decide)]
theorem coilsP_2 (l : List Int) : coilsP 2 l = fin (spanSt ⟨l, false, 0⟩ 2000) (spanMsg ⟨l, false, 0⟩ { z35 with f0 := 2 }) := by unfold coilsP; rw [if_pos (by decide)]
theorem coilsP_5 (l : List Int) : coilsP 5 l = fin (setsSt ⟨l, false, 0⟩) (setsMsg ⟨l, false, 0⟩ { z35 with f0 := 5 }) := by unfold coilsP; rw [if_neg (by decide), if_pos (by decide)]
theorem coilsP_15 (l : List Int) : coilsP 15 l = fin (manySt ⟨l, false, 0⟩) (manyMsg ⟨l, false, 0⟩ { z35 with f0 := 15 }) := by unfold coilsP; rw [if_neg (by decide), if_neg (by decide), if_pos (by decide)]
def cs35 (c : Int) : List Value := [.int .u8 c, .int .u8 0, .int .u16 0, .int .u16 0, .int .u16 0, .int .u16 0, .int .u16 0, .int .u16 0, .int .u16 0, .int .u16 0, .int .u16 0, .int .u16 0, .slice none 0 0, .slice none 0 0, .slice none 0 0, .slice none 0 0, .int .u8 0, .int .u8 0, .int .u8 0, .int .u8 0, .int .u8 0, .slice none 0 0]
theorem cs35_K (c : Int) (w : World) : k35.K w { z35 with f0 := c } (cs35 c) :=
  k35_mk w { z35 with f0 := c } (A12 := none) (c12 := 0) (Nat.le_refl _) (Kd.C_nil _ w) (A13 := none) (c13 := 0) (Nat.le_refl _) (Kd.C_nil _ w) (A14 := none) (c14 := 0) (Nat.le_refl _) (Kd.C_nil _ w) (A15 := none) (c15 := 0) (Nat.le_refl _) (Kd.C_nil _ w) (A21 := none) (c21 := 0) (Nat.le_refl _) (Kd.C_nil _ w)
theorem sz35 : k35.sz = 22 := by kernel_rfl
theorem built35 (c : Int) : Tryz.prog.built 35 [(0, .int .u8 c)] = some (cs35 c).toArray := by kernel_rfl
theorem built35z : Tryz.prog.built 35 [] = some (cs35 0).toArray := by kernel_rfl
theorem zero35 (w : World) : (zeroValue 35).run Tryz.prog w = .ok (.agg (cs35 0).toArray) w := by kernel_rfl
theorem sizeM (cs : Array Value) (h : cs.size = 22) : (Tryz.prog.info? 35).map (·.size) = some cs.size := by rw [h]; kernel_rfl
theorem wp_insert {P : Program} {a : Act} {w : World} {K : Act → World → Prop} {Q : Exit → Act → World → Prop} {op : Oper} (t : TypeId) (m x y : Operand) (ho : op.op = .insert t m x y) (vm vx vy : Value) (hm : a.eval m = vm) (hx : a.eval x = vx) (hy : a.eval y = vy) (w' : World) (hr : (Instr.mapUpdate t vm vx vy).run P w = .ok () w') (h : K (a.put op.dst undef) w') : op.wp P a w K Q := by
  unfold Oper.wp execOp
  simp only [ho, hm, hx, hy, Sem.run_bind, Sem.run_pure, Result.andThen_ok, hr]
  exact h
def two (FV : Value) (n m : FuncId) : Value := .agg #[.func (.func n) #[FV] #[], .func (.func m) #[FV] #[]]
theorem put_ex {k : IntKind} {mt kt et : TypeId} (hmt : Tryz.prog.underlying mt = some (.map kt et)) (hkt : Tryz.prog.underlying kt = some (.int k)) {w : World} {B x : Nat} {es : List (Int × Value)} {o : Obj} (hb : w.heap[B]? = some (.map (ments k es).toArray es.length)) (hx : w.heap[x]? = some o) (hne : ¬ x = B) (a : Int) (v : Value) (hn : ∀ e ∈ es, ¬ e.1 = a) :
    ∃ w', (Instr.mapUpdate mt (.map (some B)) (.int k a) v).run Tryz.prog w = .ok () w' ∧ w'.heap[B]? = some (.map (ments k (es ++ [(a, v)])).toArray (es ++ [(a, v)]).length) ∧ w'.heap[x]? = some o ∧ Kept w w' (fun b => b = B) := by
  have q := Kept.block' w B (.map (ments k (es ++ [(a, v)])).toArray (es ++ [(a, v)]).length) (F := fun b => b = B) rfl
  exact ⟨_, map_put hmt hkt hb a v hn, ChangeMaps.heap_setBlock_same hb _, q.heap hx hne, q⟩
theorem start_pc {w2 w3 : World} {mb cb rb : Nat} {c : Int} {l : List Int} (hmb : mb < w2.heap.size) (hrb : rb < w2.heap.size) (hcb : w2.heap.size ≤ cb) (hl : l.length ≤ 100000) (f8 : w2.heap[mb]? = some (.cells (cs35 c).toArray 35 (0, 0)))
    (hC : ∀ G : Nat → Prop, (∀ b, G b ↔ b = cb ∨ b < w2.heap.size ∧ G b) → G cb → Cur w3 G cb ⟨l, false, 0⟩) (k : Kept w2 w3 (fun _ => False)) : PC w3 (fun b => b = cb ∨ b = mb ∨ b ≤ rb) cb mb ⟨l, false, 0⟩ { z35 with f0 := c } := by
  have h1 := hC (fun b => b = cb ∨ b = mb ∨ b ≤ rb) (fun b => ⟨fun h => h.elim .inl fun h => .inr ⟨by omega, .inr h⟩, fun h => h.elim .inl fun h => h.2⟩) (.inl rfl)
  exact ⟨h1, ⟨.inr (.inl rfl), _, k.heap f8 (fun h => h), fun w' _ => cs35_K c w'⟩, by omega, hl⟩
theorem PC.end_ {w : World} {G : Nat → Prop} {cb mb : Nat} {s : St} {x : S35} (h : PC w G cb mb s x) : Calls Tryz.prog 139 #[.pointer (some ⟨cb, 0, none⟩)] w fun r w' => r = .returned (.tuple #[]) ∧ PC w' G cb mb s.end_ x ∧ Kept w w' (fun b => b = cb) :=
  (end_calls w cb s h.c).mono fun r w' ⟨he, hC, k⟩ => ⟨he, h.step hC k (by unfold St.end_; rw [St.need_b]; exact Nat.le_refl _), k⟩
theorem PC.err {w : World} {G : Nat → Prop} {cb mb : Nat} {s : St} {x : S35} (h : PC w G cb mb s x) : Calls Tryz.prog 140 #[.pointer (some ⟨cb, 0, none⟩)] w fun r w' => r = .returned (.int .i64 s.e) ∧ w' = w := err_calls w cb s h.c
theorem zero237 (w : World) : (zeroValue 237).run Tryz.prog w = .ok (.agg #[.nilFunc, .nilFunc]) w := by kernel_rfl
theorem all_cs35 (c : Int) : (cs35 c).toArray.all (·.oneCell') = true := by kernel_rfl
set_option maxHeartbeats 4000000 in
set_option maxRecDepth 1000000 in
theorem coilsP_calls (w : World) (c : Int) (v : Value) (l : List Int) (h : By w v l) (hl : l.length ≤ 100000) (hc : c = 1 ∨ c = 2 ∨ c = 5 ∨ c = 15) :
    Calls Tryz.prog 121 #[.int .i64 0, .int .u8 c, v] w fun r w' => ∃ cs, r = .returned (.tuple #[.agg cs.toArray, .int .i64 (coilsP c l).2]) ∧ (∀ W, Kept w' W (fun b => b < w.heap.size) → k35.K W (coilsP c l).1 cs) ∧ Kept w w' (fun _ => False) := by
  have hz := zero35
  have f6 := heap_alloc_new w (.cells (cs35 0).toArray 35)
  have q6 := Kept.alloc w (.cells (cs35 0).toArray 35) (fun _ => False)
  have hB1 := h.keep q6
  clear h
  go_enter Tryz.func121, Tryz.ntmps121
  go_upto_region 3 with fail
  have HR : Aside0 (∀ b, b = w.heap.size → b < (w.alloc (.cells (cs35 0).toArray 35)).heap.size) := ⟨fun b h => by simp [h]⟩
  generalize (w.alloc (.cells (cs35 0).toArray 35)) = w1 at *
  generalize hrb : w.heap.size = rb at *
  have HRB : Aside0 _ := ⟨hrb⟩
  clear hrb
  have f8 := setRow_heap (w1.alloc (.cells (cs35 0).toArray 35)) w1.heap.size (cs35 0).toArray (cs35 c).toArray 35 _ (heap_alloc_new _ _)
  have q8 : Kept w1 ((w1.alloc (.cells (cs35 0).toArray 35)).setRow w1.heap.size (cs35 c).toArray) (fun _ => False) := (Kept.alloc w1 _ (fun _ => False)).trans (Kept.setRow _ w1.heap.size _ (F := fun b => b = w1.heap.size) rfl) (fun _ _ h => h) (fun k hk h => by omega)
  go_upto_region 4 with (first
    | (refine wpList_buildTo rfl 35 _ rfl (some 22) rfl (cs35 c).toArray ?_ ?_; (simp only [List.map_toArray, List.map_cons, List.map_nil]; exact built35 c))
    | (refine wpList_store_row rfl 35 (.tmp 8) (.tmp 22) rfl w1.heap.size (cs35 c).toArray rfl rfl 35 (cs35 0).toArray (heap_alloc_new _ _) (sizeM _ rfl) rfl (by kernel_rfl) ?_))
  have HM : Aside0 (∀ b, b = w1.heap.size → b < ((w1.alloc (.cells (cs35 0).toArray 35)).setRow w1.heap.size (cs35 c).toArray).heap.size) := ⟨fun b h => by simp [h]⟩
  have hB2 := hB1.keep q8
  have g1 := f6
  have g6 := q8.heap f6 (fun h => h)
  have K2 := q6.trans q8 (fun _ _ h => h) (fun _ _ h => h)
  generalize ((w1.alloc (.cells (cs35 0).toArray 35)).setRow w1.heap.size (cs35 c).toArray) = w2 at *
  generalize hmb : w1.heap.size = mb at *
  have HMB : Aside0 _ := ⟨hmb⟩
  clear hmb
  clear hB1 q6 q8 f6
  have hnc := new_cur w2 v l hB2 hl
  go_upto_region 5 with (go_at_call 133; with_reducible refine hnc.mono ?_; rintro e w3 ⟨cb, rfl, hcb, hC, k3⟩)
  have hrm : rb < mb := by have := heap_lt g1; have := HMB.out; omega
  have hwm : w.heap.size ≤ mb := by have := HRB.out; omega
  have hwc : w.heap.size ≤ cb := by have := HM.out mb rfl; omega
  have PM := start_pc (rb := rb) (HM.out mb rfl) (Nat.lt_trans hrm (HM.out mb rfl)) hcb hl f8 hC k3
  have hfc : ¬ w3.heap.size = cb := fun e => by have := PM.c.low cb PM.c.hot; omega
  have hfm : ¬ w3.heap.size = mb := fun e => by have := PM.c.low mb PM.m.hot; omega
  have hrc : ¬ rb = cb := by have := HM.out mb rfl; omega
  have f9 := heap_alloc_new w3 (.cells #[.pointer (some ⟨cb, 0, none⟩), .pointer (some ⟨mb, 0, none⟩)] 236)
  have q9 := Kept.alloc w3 (.cells #[.pointer (some ⟨cb, 0, none⟩), .pointer (some ⟨mb, 0, none⟩)] 236) (fun _ => False)
  have sz : (Tryz.prog.info? 236).map (·.size) = some (#[Value.pointer (some ⟨cb, 0, none⟩), Value.pointer (some ⟨mb, 0, none⟩)] : Array Value).size := by kernel_rfl
  have P4 := PM.keep0 q9
  have K4 := (K2.trans k3 (fun _ _ h => h) (fun _ _ h => h)).trans q9 (fun _ _ h => h) (fun _ _ h => h)
  have g64 := q9.heap (k3.heap g6 (fun h => h)) (fun h => h)
  clear PM q9 K2 k3 g6 hC hnc f8
  generalize w3.alloc (.cells #[.pointer (some ⟨cb, 0, none⟩), .pointer (some ⟨mb, 0, none⟩)] 236) = w4 at *
  generalize w3.heap.size = fx at *
  have hmm := @run_makeMap Tryz.prog
  have hb0 : (w4.alloc (.map #[] 0)).heap[w4.heap.size]? = some (.map (ments .u8 []).toArray ([] : List (Int × Value)).length) := heap_alloc_new _ _
  have q5 := Kept.alloc w4 (.map #[] 0) (fun _ => False)
  have f90 := q5.heap f9 (fun h => h)
  have hne : ¬ fx = w4.heap.size := fun e => by have := heap_lt f9; omega
  clear f9
  go_upto_region 6 with (first
    | (refine wpList_load_row rfl 236 (.tmp 9) rfl fx rfl 236 #[.pointer (some ⟨cb, 0, none⟩), .pointer (some ⟨mb, 0, none⟩)] (0, 0) _ f90 Tryz.underlying236 rfl sz ?_)
    | (refine wpList_load_row rfl 236 (.tmp 9) rfl fx rfl 236 #[.pointer (some ⟨cb, 0, none⟩), .pointer (some ⟨mb, 0, none⟩)] (0, 0) _ f91 Tryz.underlying236 rfl sz ?_)
    | (refine wpList_load_row rfl 236 (.tmp 9) rfl fx rfl 236 #[.pointer (some ⟨cb, 0, none⟩), .pointer (some ⟨mb, 0, none⟩)] (0, 0) _ f92 Tryz.underlying236 rfl sz ?_)
    | (refine wpList_load_row rfl 236 (.tmp 9) rfl fx rfl 236 #[.pointer (some ⟨cb, 0, none⟩), .pointer (some ⟨mb, 0, none⟩)] (0, 0) _ f93 Tryz.underlying236 rfl sz ?_)
    | (obtain ⟨v1, hr, hb1, f91, m1⟩ := put_ex (mt := 238) Tryz.underlying238 Tryz.underlying5 hb0 f90 hne 1 (two (.agg #[.pointer (some ⟨cb, 0, none⟩), .pointer (some ⟨mb, 0, none⟩)]) 134 135) (by simp); refine wpList_plain rfl fun _ hK => wp_insert 238 (.tmp 26) (.const (.int .u8 1)) (.tmp 31) rfl (.map (some w4.heap.size)) (.int .u8 1) (two (.agg #[.pointer (some ⟨cb, 0, none⟩), .pointer (some ⟨mb, 0, none⟩)]) 134 135) rfl rfl rfl _ hr (hK _ _ ?_); clear hb0 f90 hr)
    | (obtain ⟨v2, hr, hb2, f92, m2⟩ := put_ex (mt := 238) Tryz.underlying238 Tryz.underlying5 hb1 f91 hne 2 (two (.agg #[.pointer (some ⟨cb, 0, none⟩), .pointer (some ⟨mb, 0, none⟩)]) 134 135) (by simp); refine wpList_plain rfl fun _ hK => wp_insert 238 (.tmp 26) (.const (.int .u8 2)) (.tmp 36) rfl (.map (some w4.heap.size)) (.int .u8 2) (two (.agg #[.pointer (some ⟨cb, 0, none⟩), .pointer (some ⟨mb, 0, none⟩)]) 134 135) rfl rfl rfl _ hr (hK _ _ ?_); clear hb1 f91 hr)
    | (obtain ⟨v3, hr, hb3, f93, m3⟩ := put_ex (mt := 238) Tryz.underlying238 Tryz.underlying5 hb2 f92 hne 5 (two (.agg #[.pointer (some ⟨cb, 0, none⟩), .pointer (some ⟨mb, 0, none⟩)]) 136 136) (by simp); refine wpList_plain rfl fun _ hK => wp_insert 238 (.tmp 26) (.const (.int .u8 5)) (.tmp 41) rfl (.map (some w4.heap.size)) (.int .u8 5) (two (.agg #[.pointer (some ⟨cb, 0, none⟩), .pointer (some ⟨mb, 0, none⟩)]) 136 136) rfl rfl rfl _ hr (hK _ _ ?_); clear hb2 f92 hr)
    | (obtain ⟨v4, hr, hb4, f94, m4⟩ := put_ex (mt := 238) Tryz.underlying238 Tryz.underlying5 hb3 f93 hne 15 (two (.agg #[.pointer (some ⟨cb, 0, none⟩), .pointer (some ⟨mb, 0, none⟩)]) 137 138) (by simp); refine wpList_plain rfl fun _ hK => wp_insert 238 (.tmp 26) (.const (.int .u8 15)) (.tmp 46) rfl (.map (some w4.heap.size)) (.int .u8 15) (two (.agg #[.pointer (some ⟨cb, 0, none⟩), .pointer (some ⟨mb, 0, none⟩)]) 137 138) rfl rfl rfl _ hr (hK _ _ ?_); clear hb3 f93 hr))
  have mk := ((m1.trans m2 (H := fun b => b = w4.heap.size) (fun _ _ h => h) (fun _ _ h => h)).trans m3 (H := fun b => b = w4.heap.size) (fun _ _ h => h) (fun _ _ h => h)).trans m4 (H := fun b => b = w4.heap.size) (fun _ _ h => h) (fun _ _ h => h)
  have qz : Kept w4 v4 (fun _ => False) := q5.trans mk (fun _ _ h => h) (fun b hb e => by omega)
  have P5 := P4.keep0 qz
  have K5 := K4.trans qz (fun _ _ h => h) (fun _ _ h => h)
  have g65 := qz.heap g64 (fun h => h)
  have HRB2 := HRB.out
  clear m1 m2 m3 m4 mk qz q5 P4 K4 g64
  obtain ⟨n, m, s, x, A, C, hes, hA, eg, hf, hP0⟩ : ∃ (n m : FuncId) (s : St) (x : S35) (A C : List (Int × Value)), [(1, two (.agg #[.pointer (some ⟨cb, 0, none⟩), .pointer (some ⟨mb, 0, none⟩)]) 134 135), (2, two (.agg #[.pointer (some ⟨cb, 0, none⟩), .pointer (some ⟨mb, 0, none⟩)]) 134 135), (5, two (.agg #[.pointer (some ⟨cb, 0, none⟩), .pointer (some ⟨mb, 0, none⟩)]) 136 136), (15, two (.agg #[.pointer (some ⟨cb, 0, none⟩), .pointer (some ⟨mb, 0, none⟩)]) 137 138)] = A ++ (c, two (.agg #[.pointer (some ⟨cb, 0, none⟩), .pointer (some ⟨mb, 0, none⟩)]) n m) :: C ∧ (∀ e ∈ A, ¬ e.1 = c) ∧
      (∀ args w, (callFunc n args).run Tryz.prog w = .ok (.enter n args) w) ∧ (∀ W, PC W (fun b => b = cb ∨ b = mb ∨ b ≤ rb) cb mb ⟨l, false, 0⟩ { z35 with f0 := c } → Calls Tryz.prog n #[.agg #[.pointer (some ⟨cb, 0, none⟩), .pointer (some ⟨mb, 0, none⟩)]] W fun r w' => r = .returned (.tuple #[]) ∧ PC w' (fun b => b = cb ∨ b = mb ∨ b ≤ rb) cb mb s x ∧ Kept W w' (fun b => b = cb ∨ b = mb)) ∧ coilsP c l = fin s x := by
    rcases hc with rfl | rfl | rfl | rfl
    · exact ⟨134, 135, _, _, [], _, rfl, by simp, enters_of Tryz.func134 (by kernel_rfl) rfl, fun W h => asks_form W _ cb mb _ _ h, coilsP_1 l⟩
    · exact ⟨134, 135, _, _, [(1, two (.agg #[.pointer (some ⟨cb, 0, none⟩), .pointer (some ⟨mb, 0, none⟩)]) 134 135)], _, rfl, by simp, enters_of Tryz.func134 (by kernel_rfl) rfl, fun W h => asks_form W _ cb mb _ _ h, coilsP_2 l⟩
    · exact ⟨136, 136, _, _, [(1, two (.agg #[.pointer (some ⟨cb, 0, none⟩), .pointer (some ⟨mb, 0, none⟩)]) 134 135), (2, two (.agg #[.pointer (some ⟨cb, 0, none⟩), .pointer (some ⟨mb, 0, none⟩)]) 134 135)], _, rfl, by simp, enters_of Tryz.func136 (by kernel_rfl) rfl, fun W h => sets_calls W _ cb mb _ _ h, coilsP_5 l⟩
    · exact ⟨137, 138, _, _, [(1, two (.agg #[.pointer (some ⟨cb, 0, none⟩), .pointer (some ⟨mb, 0, none⟩)]) 134 135), (2, two (.agg #[.pointer (some ⟨cb, 0, none⟩), .pointer (some ⟨mb, 0, none⟩)]) 134 135), (5, two (.agg #[.pointer (some ⟨cb, 0, none⟩), .pointer (some ⟨mb, 0, none⟩)]) 136 136)], _, rfl, by simp, enters_of Tryz.func137 (by kernel_rfl) rfl, fun W h => many_form W _ cb mb _ _ h, coilsP_15 l⟩
  have hlk : (Instr.lookup 238 (.map (some w4.heap.size)) (.int .u8 c) true).run Tryz.prog v4 = .ok (.tuple #[two (.agg #[.pointer (some ⟨cb, 0, none⟩), .pointer (some ⟨mb, 0, none⟩)]) n m, .bool true]) v4 := look_hit (et := 237) Tryz.underlying238 Tryz.underlying5 hb4 hes hA
  have f11 := setRow_heap (v4.alloc (.cells #[.nilFunc, .nilFunc] 237)) v4.heap.size #[.nilFunc, .nilFunc] #[.func (.func n) #[.agg #[.pointer (some ⟨cb, 0, none⟩), .pointer (some ⟨mb, 0, none⟩)]] #[], .func (.func m) #[.agg #[.pointer (some ⟨cb, 0, none⟩), .pointer (some ⟨mb, 0, none⟩)]] #[]] 237 _ (heap_alloc_new _ _)
  have q11 : Kept v4 ((v4.alloc (.cells #[.nilFunc, .nilFunc] 237)).setRow v4.heap.size #[.func (.func n) #[.agg #[.pointer (some ⟨cb, 0, none⟩), .pointer (some ⟨mb, 0, none⟩)]] #[], .func (.func m) #[.agg #[.pointer (some ⟨cb, 0, none⟩), .pointer (some ⟨mb, 0, none⟩)]] #[]]) (fun _ => False) := (Kept.alloc v4 _ (fun _ => False)).trans (Kept.setRow _ v4.heap.size _ (F := fun b => b = v4.heap.size) rfl) (fun _ _ h => h) (fun k hk h => by omega)
  have hz2 := zero237
  have hPC : Aside0 _ := ⟨hP0⟩
  clear hP0 hes hA
  go_upto_region 7 with (refine wpList_store_row rfl 237 (.tmp 11) (.tmp 52) rfl v4.heap.size #[.func (.func n) #[.agg #[.pointer (some ⟨cb, 0, none⟩), .pointer (some ⟨mb, 0, none⟩)]] #[], .func (.func m) #[.agg #[.pointer (some ⟨cb, 0, none⟩), .pointer (some ⟨mb, 0, none⟩)]] #[]] rfl rfl 237 #[.nilFunc, .nilFunc] (heap_alloc_new _ _) (by kernel_rfl) rfl (by kernel_rfl) ?_)
  have P6 := P5.keep0 q11
  have g66 := q11.heap g65 (fun h => h)
  have f96 := q11.heap f94 (fun h => h)
  have K6 := K5.trans q11 (fun _ _ h => h) (fun _ _ h => h)
  clear P5 g65 f94 K5 q11 hlk hb4
  generalize (v4.alloc (.cells #[.nilFunc, .nilFunc] 237)).setRow v4.heap.size #[.func (.func n) #[.agg #[.pointer (some ⟨cb, 0, none⟩), .pointer (some ⟨mb, 0, none⟩)]] #[], .func (.func m) #[.agg #[.pointer (some ⟨cb, 0, none⟩), .pointer (some ⟨mb, 0, none⟩)]] #[]] = v5 at *
  have c11 : v5.cell? ⟨v4.heap.size, 0, none⟩ = some (.func (.func n) #[.agg #[.pointer (some ⟨cb, 0, none⟩), .pointer (some ⟨mb, 0, none⟩)]] #[]) := by rw [cell_of_row v5 v4.heap.size 0 _ 237 (0, 0) f11]; rfl
  have hf := hf v5 P6
  go_upto_region 10 with (go_at_fn n; with_reducible refine hf.mono ?_; rintro e v6 ⟨rfl, P7, k6⟩)
  have fx6 := k6.heap f96 (fun h => by rcases h with h | h; exact hfc h; exact hfm h)
  have g67 := k6.heap g66 (fun h => by rcases h with h | h; exact hrc h; omega)
  have K7 := K6.trans k6 (H := fun _ => False) (fun _ _ h => h) (fun b hb h => by rcases h with h | h <;> omega)
  clear hf P6 c11 f11 f96 g66 K6 k6
  have c9 : v6.cell? ⟨fx, 0, none⟩ = some (.pointer (some ⟨cb, 0, none⟩)) := by rw [cell_of_row v6 fx 0 _ 236 (0, 0) fx6]; rfl
  have hend := P7.end_
  go_upto_region 11 with (go_at_call 139; with_reducible refine hend.mono ?_; rintro e v7 ⟨rfl, P8, k8⟩)
  have c8 := k8.cellN (a := ⟨fx, 0, none⟩) hfc c9
  have g68 := k8.heap g67 hrc
  have K8 := K7.trans k8 (H := fun _ => False) (fun _ _ h => h) (fun b hb h => by omega)
  clear hend P7 c9 fx6 g67 K7 k8
  have herr := P8.err
  go_upto_region 12 with (go_at_call 140; with_reducible refine herr.mono ?_; rintro e v8 ⟨rfl, rfl⟩)
  clear herr c8
  obtain ⟨cs, hcs, hK⟩ := P8.m.out
  have hlen : cs.toArray.size = 22 := by rw [List.size_toArray, k35.K_len (hK v8 (Kept.refl _ _))]; exact sz35
  have hone := all_oneCell_toArray (k35.K_one (hK v8 (Kept.refl _ _)))
  have R1 : Kept v8 (v8.setRow rb cs.toArray) (fun b => b = rb) := Kept.setRow v8 rb _ rfl
  have R2 : Kept v8 (v8.setRow rb (cs35 0).toArray) (fun b => b = rb) := Kept.setRow v8 rb _ rfl
  have KF : ∀ W, Kept v8 W (fun b => b = rb) → Kept w W (fun _ => False) := fun W q => K8.trans q (H := fun _ => False) (fun _ _ h => h) (fun b hb h => by omega)
  have hs0 : (cs35 0).toArray.size = cs.toArray.size := by rw [hlen]; rfl
  by_cases he : s.end_.e = 0
  · have hP : fin s x = (x, 0) := by rw [fin, if_pos he]
    have FIN : Aside0 _ := ⟨And.intro hP (And.intro (fun W (q : Kept _ W (fun b => b < w.heap.size)) => hK W (R1.trans q (fun b _ e => .inr (.inr (Nat.le_of_eq e))) (fun b _ h => .inr (.inr (by omega))))) (KF _ R1))⟩
    clear P8 hK R1 R2 KF K8 hP
    go_wp2_with (first
      | (refine wpList_load_row rfl 35 (.tmp 8) rfl mb rfl 35 cs.toArray (0, 0) _ hcs Tryz.underlying35 rfl (sizeM _ hlen) ?_)
      | (refine wpList_store_row rfl 35 (.tmp 6) (.tmp 71) rfl rb cs.toArray rfl rfl 35 (cs35 0).toArray g68 (sizeM _ hlen) hs0 hone ?_))
    refine bodyPost_ret (results_ct (p := 6) (u := 7) (ty := 35) Tryz.results121 _ _ rb 35 cs.toArray (0, 0) _ rfl (setRow_heap _ _ _ _ 35 _ g68) Tryz.underlying35 rfl (sizeM _ hlen)) rfl ?_
    rw [hPC.out, FIN.out.1]
    exact ⟨cs, rfl, FIN.out.2⟩
  · have hP : fin s x = (z35, s.end_.e) := by rw [fin, if_neg he]
    have heb : (s.end_.e != 0) = true := by simpa using he
    have FIN : Aside0 _ := ⟨And.intro hP (KF _ R2)⟩
    clear P8 hK R1 R2 KF K8 hP
    go_wp2_with (first
      | (refine wpList_buildTo rfl 35 _ rfl (some 69) rfl (cs35 0).toArray ?_ ?_; (simp only [List.map_toArray, List.map_nil]; exact built35z))
      | (refine wpList_store_row rfl 35 (.tmp 6) (.tmp 69) rfl rb (cs35 0).toArray rfl rfl 35 (cs35 0).toArray g68 (sizeM _ rfl) rfl (all_cs35 0) ?_))
    refine bodyPost_ret (results_ct (p := 6) (u := 7) (ty := 35) Tryz.results121 _ _ rb 35 (cs35 0).toArray (0, 0) _ rfl (setRow_heap _ _ _ _ 35 _ g68) Tryz.underlying35 rfl (sizeM _ rfl)) rfl ?_
    rw [hPC.out, FIN.out.1]
    exact ⟨cs35 0, rfl, fun W _ => cs35_K 0 W, FIN.out.2⟩
end Go.Proofs.YtmbjlondehcheaaGreatDoor
end
section
set_option linter.unusedSimpArgs false
set_option linter.unusedVariables false
namespace Go.Proofs.YtmbjlondehcheaaGreatDoor
open Go.Shelf Go.RowKit Go.Lib Go.Sort Go.Proofs.YtmbjlondehcheaaGreatDoorW.PrintWords Go.Proofs.YtmbjlondehcheaaGreatDoorW.PrintLast Go.Proofs.YtmbjlondehcheaaGreatDoor.PTopTalk
theorem MsgAt.box {w : World} {x : S35} {cs : List Value} (h : k35.K w x cs) : MsgAt (w.alloc (.cells cs.toArray 35)) (fun b => b = w.heap.size) w.heap.size x :=
  ⟨rfl, cs, heap_alloc_new _ _, fun w' k => k35.K_below (((Kept.alloc w _ (fun _ => False)).trans k (H := fun _ => False) (fun _ _ h => h) (fun b hb e => by omega)).toBelow) h⟩
theorem MsgAt.l12 {w : World} {G : Nat → Prop} {mb : Nat} {x : S35} (h : MsgAt w G mb x) : ∃ A c, w.cell? ⟨mb, 12, none⟩ = some (.slice A x.f12.length c) ∧ ∀ w', Kept w w' G → x.f12.length ≤ c ∧ (Kd.int .u16).C w' A x.f12.length x.f12 := by
  obtain ⟨cs, hc, hK⟩ := h.out
  obtain ⟨A12, Ac12, A13, Ac13, A14, Ac14, A15, Ac15, A21, Ac21, rfl, Al12, Ag12, Al13, Ag13, Al14, Ag14, Al15, Ag15, Al21, Ag21⟩ := k35_open (hK w (Kept.refl _ _))
  refine ⟨A12, Ac12, by rw [cell_of_row w mb 12 _ 35 (0, 0) hc]; rfl, fun w' k => ?_⟩
  obtain ⟨B12, Bc12, B13, Bc13, B14, Bc14, B15, Bc15, B21, Bc21, e, Bl12, Bg12, Bl13, Bg13, Bl14, Bg14, Bl15, Bg15, Bl21, Bg21⟩ := k35_open (hK w' k)
  have e' := congrArg (fun l => l[12]?) e
  injection e' with e'
  injection e' with e1 _ e2
  subst e1 e2
  exact ⟨Bl12, Bg12⟩
theorem MsgAt.l13 {w : World} {G : Nat → Prop} {mb : Nat} {x : S35} (h : MsgAt w G mb x) : ∃ A c, w.cell? ⟨mb, 13, none⟩ = some (.slice A x.f13.length c) ∧ ∀ w', Kept w w' G → x.f13.length ≤ c ∧ Kd.bool.C w' A x.f13.length x.f13 := by
  obtain ⟨cs, hc, hK⟩ := h.out
  obtain ⟨A12, Ac12, A13, Ac13, A14, Ac14, A15, Ac15, A21, Ac21, rfl, Al12, Ag12, Al13, Ag13, Al14, Ag14, Al15, Ag15, Al21, Ag21⟩ := k35_open (hK w (Kept.refl _ _))
  refine ⟨A13, Ac13, by rw [cell_of_row w mb 13 _ 35 (0, 0) hc]; rfl, fun w' k => ?_⟩
  obtain ⟨B12, Bc12, B13, Bc13, B14, Bc14, B15, Bc15, B21, Bc21, e, Bl12, Bg12, Bl13, Bg13, Bl14, Bg14, Bl15, Bg15, Bl21, Bg21⟩ := k35_open (hK w' k)
  have e' := congrArg (fun l => l[13]?) e
  injection e' with e'
  injection e' with e1 _ e2
  subst e1 e2
  exact ⟨Bl13, Bg13⟩
theorem MsgAt.l14 {w : World} {G : Nat → Prop} {mb : Nat} {x : S35} (h : MsgAt w G mb x) : ∃ A c, w.cell? ⟨mb, 14, none⟩ = some (.slice A x.f14.length c) ∧ ∀ w', Kept w w' G → x.f14.length ≤ c ∧ (Kd.int .u8).C w' A x.f14.length x.f14 := by
  obtain ⟨cs, hc, hK⟩ := h.out
  obtain ⟨A12, Ac12, A13, Ac13, A14, Ac14, A15, Ac15, A21, Ac21, rfl, Al12, Ag12, Al13, Ag13, Al14, Ag14, Al15, Ag15, Al21, Ag21⟩ := k35_open (hK w (Kept.refl _ _))
  refine ⟨A14, Ac14, by rw [cell_of_row w mb 14 _ 35 (0, 0) hc]; rfl, fun w' k => ?_⟩
  obtain ⟨B12, Bc12, B13, Bc13, B14, Bc14, B15, Bc15, B21, Bc21, e, Bl12, Bg12, Bl13, Bg13, Bl14, Bg14, Bl15, Bg15, Bl21, Bg21⟩ := k35_open (hK w' k)
  have e' := congrArg (fun l => l[14]?) e
  injection e' with e'
  injection e' with e1 _ e2
  subst e1 e2
  exact ⟨Bl14, Bg14⟩
theorem MsgAt.l15 {w : World} {G : Nat → Prop} {mb : Nat} {x : S35} (h : MsgAt w G mb x) : ∃ A c, w.cell? ⟨mb, 15, none⟩ = some (.slice A x.f15.length c) ∧ ∀ w', Kept w w' G → x.f15.length ≤ c ∧ k67.C w' A x.f15.length x.f15 := by
  obtain ⟨cs, hc, hK⟩ := h.out
  obtain ⟨A12, Ac12, A13, Ac13, A14, Ac14, A15, Ac15, A21, Ac21, rfl, Al12, Ag12, Al13, Ag13, Al14, Ag14, Al15, Ag15, Al21, Ag21⟩ := k35_open (hK w (Kept.refl _ _))
  refine ⟨A15, Ac15, by rw [cell_of_row w mb 15 _ 35 (0, 0) hc]; rfl, fun w' k => ?_⟩
  obtain ⟨B12, Bc12, B13, Bc13, B14, Bc14, B15, Bc15, B21, Bc21, e, Bl12, Bg12, Bl13, Bg13, Bl14, Bg14, Bl15, Bg15, Bl21, Bg21⟩ := k35_open (hK w' k)
  have e' := congrArg (fun l => l[15]?) e
  injection e' with e'
  injection e' with e1 _ e2
  subst e1 e2
  exact ⟨Bl15, Bg15⟩
abbrev Laid (f : FuncId) (x : S35) (L : List Int → Prop) : Prop := ∀ (w : World) (cs : List Value), k35.K w x cs → Calls Tryz.prog f #[.int .i64 0, .agg cs.toArray] w fun r w' => ∃ v b, r = .returned v ∧ OB w w' v b ∧ L b ∧ b.length ≤ 90000
theorem two_rd (w : World) (a b : Int) : Wo (w.alloc (.cells #[.int .u16 a, .int .u16 b] 27)) (.slice (some ⟨w.heap.size, 0, none⟩) 2 2) [a, b] := (Ow.lit (k := .u16) (te := 27) (Kept.refl w _) [a, b] (by simp) (by simp)).rd (by simp)
theorem cons35 {w : World} {x : S35} {cs : List Value} (h : k35.K w x cs) : cs.toArray.size = 22 := by rw [List.size_toArray, k35.K_len h]; exact sz35
set_option maxHeartbeats 1000000 in
set_option maxRecDepth 1000000 in
theorem coilsLay_calls (x : S35) (hc : x.f0 = 1 ∨ x.f0 = 2 ∨ x.f0 = 5 ∨ x.f0 = 15) (h13 : x.f13.length ≤ 100000) : Laid 141 x Oct := by
  intro w cs hK
  have M := MsgAt.box hK
  have K1 := Kept.alloc w (.cells cs.toArray 35) (fun _ => False)
  have hs := cons35 hK
  go_enter Tryz.func141, Tryz.ntmps141
  go_upto_region 1 with fail
  generalize hw1 : w.alloc (.cells cs.toArray 35) = w1 at *
  generalize w.heap.size = mb at *
  clear hK hw1
  have c0 := M.g0
  have c2 := M.g2
  have c3 := M.g3
  have c4 := M.g4
  have P24 := wput_calls _ _ _ (two_rd w1 x.f2 x.f4) (by simp)
  have P23 := wput_calls _ _ _ (two_rd w1 x.f2 x.f3) (by simp)
  have A24 : ∀ W u, OB (w1.alloc (.cells #[.int .u16 x.f2, .int .u16 x.f4] 27)) W u (wPut [x.f2, x.f4]) → OB w W u (wPut [x.f2, x.f4]) := fun W u h => Ow.base (K1.trans (Kept.alloc w1 _ (fun _ => False)) (fun _ _ h => h) (fun _ _ h => h)) h
  have A23 : ∀ W u, OB (w1.alloc (.cells #[.int .u16 x.f2, .int .u16 x.f3] 27)) W u (wPut [x.f2, x.f3]) → OB w W u (wPut [x.f2, x.f3]) := fun W u h => Ow.base (K1.trans (Kept.alloc w1 _ (fun _ => False)) (fun _ _ h => h) (fun _ _ h => h)) h
  by_cases h5 : x.f0 = 5
  · rw [h5] at c0
    have AS : Aside0 _ := ⟨And.intro A24 K1⟩
    clear P23 A24 A23 K1 M c3
    go_wp2_with (go_at_call 163; with_reducible refine P24.mono ?_; rintro e w2 ⟨u, rfl, hO⟩)
    go_ret
    exact ⟨_, _, rfl, AS.out.1 _ _ hO, wPut_oct _, by simp [wPut_len]⟩
  by_cases h15 : x.f0 = 15
  · rw [h15] at c0
    obtain ⟨A, c, c13, hL⟩ := M.l13
    have B := pack_calls w1 (.slice A x.f13.length c) x.f13 ⟨A, c, rfl, hL w1 (Kept.refl _ _)⟩ h13
    have AS : Aside0 _ := ⟨K1⟩
    clear P24 A24 P23 A23 K1
    go_upto_region 5 with (go_at_call 164; with_reducible refine B.mono ?_; rintro e w2 ⟨A2, cp, b, rfl, hB, ⟨hbl, hob⟩, hN, k2⟩; have hb8 : b.length ≤ 80000 := (by omega); clear hbl; generalize hk : b.length = k at *)
    replace c2 := k2.cell c2
    replace c3 := k2.cell c3
    have K2 := AS.out.trans k2 (fun _ _ h => h) (fun _ _ h => h)
    clear B AS hN k2 c13 M hL c0 c4
    have P := wput_calls _ _ _ (two_rd w2 x.f2 x.f3) (by simp)
    have K3 := K2.trans (Kept.alloc w2 (.cells #[.int .u16 x.f2, .int .u16 x.f3] 27) (fun _ => False)) (fun _ _ h => h) (fun _ _ h => h)
    have B3 := hB.keep (Kept.alloc w2 (.cells #[.int .u16 x.f2, .int .u16 x.f3] 27) (fun _ => False))
    have AS : Aside0 _ := ⟨And.intro K3 B3⟩
    have HK : Aside0 _ := ⟨And.intro hk hb8⟩
    have HOB : Aside0 _ := ⟨hob⟩
    clear K2 K3 B3 hB hk hb8 hob
    have hap := @OB.app
    go_wp2_with (first
      | (go_at_call 163; with_reducible refine P.mono ?_; rintro e w3 ⟨u, rfl, hO⟩; obtain ⟨v4, w4, ha, hO4, -⟩ := OB.app (hO.keep (Kept.alloc w3 (.cells #[.int .u8 ((k : Int) % 256)] 5) (fun _ => False))) 23 (one_rd .u8 w3 ((k : Int) % 256) 5) (by simp [wPut_len]); obtain ⟨v5, w5, ha5, hO5, -⟩ := OB.app hO4 23 (AS.out.2.keep hO4.kept) (by have := HK.out; simp [wPut_len]; omega); have FIN : Aside0 _ := ⟨hO5⟩; clear P hO hO4 hO5)
      | (refine wpList_app rfl (.tmp 32) (.tmp 36) 23 23 rfl (some 37) rfl u (.slice (some ⟨w3.heap.size, 0, none⟩) 1 1) rfl rfl v4 w4 ha ?_)
      | (refine wpList_app rfl (.tmp 37) (.tmp 38) 23 23 rfl (some 39) rfl v4 (.slice A2 k cp) rfl rfl v5 w5 ha5 ?_))
    go_ret
    exact ⟨_, _, rfl, Ow.base AS.out.1 FIN.out, ((wPut_oct _).app (Oct.one _)).app HOB.out, by have := HK.out; simp [wPut_len]; omega⟩
  · have h0 : (x.f0 == 5) = false := by simpa using h5
    have h1 : (x.f0 == 15) = false := by simpa using h15
    have AS : Aside0 _ := ⟨And.intro A23 K1⟩
    clear P24 A24 A23 K1 M c4
    go_wp2_with (go_at_call 163; with_reducible refine P23.mono ?_; rintro e w2 ⟨u, rfl, hO⟩)
    go_ret
    exact ⟨_, _, rfl, AS.out.1 _ _ hO, wPut_oct _, by simp [wPut_len]⟩
end Go.Proofs.YtmbjlondehcheaaGreatDoor
end
section
set_option linter.unusedSimpArgs false
set_option linter.unusedVariables false
namespace Go.Proofs.YtmbjlondehcheaaGreatDoor
open Go.Shelf Go.RowKit Go.Lib Go.Sort Go.Proofs.YtmbjlondehcheaaGreatDoorW.PrintWords Go.Proofs.YtmbjlondehcheaaGreatDoorW.PrintLast Go.Proofs.YtmbjlondehcheaaGreatDoor.PTopTalk
theorem sk {P : Program} {ops : Array Oper} {Q : Exit → Act → World → Prop} {md : Region.Mode} {S : World → Prop} {ds : List Nat} (i : Nat) (N : Option Tmp) (l' : Array Bool) {w : World} (hS : S w) {oi : Oper} {fuel : Nat} {l : Array Bool} {a a' : Act} (h : wpAnyLast P md ops Q S ds fuel l' a' w)
    (hi : ops[i]? = some oi := by rfl) (hN : oi.dst = N := by rfl) (hc : readyB md ops l l' i = true := by kernel_rfl) (hd : i ∉ ds := by decide) (hw : Region.wanted oi (yielded ops a.tmps) = false := by kernel_rfl) (ha : a.put N undef = a' := by (try simp only [pt, p0, p1, p2]); rfl) : wpAnyLast P md ops Q S ds (fuel + 1) l a w :=
  one_ l' hi hN hc hd fun K hK => by
    rw [if_neg (by rw [hw]; decide)]
    exact hK.out _ _ hS fun _ => by rw [ha]; exact h
abbrev Two (cb mb : Nat) : Nat → Prop := fun b => b = cb ∨ b = mb
structure Q (W w : World) (G : Nat → Prop) (cb mb : Nat) (E : World → Prop) (s : St) (x : S35) : Prop where
  pc : PC w G cb mb s x
  e : E w
  st : ∀ w1 w2, E w1 → Kept w1 w2 (Two cb mb) → E w2
  k : Kept W w (Two cb mb)
section
variable {W w w' : World} {G : Nat → Prop} {cb mb : Nat} {E : World → Prop} {s s' : St} {x x' : S35} (h : Q W w G cb mb E s x)
theorem Q.m (h : Q W w G cb mb E s x) : MsgAt w G mb x := h.pc.m
theorem Q.to (h : Q W w G cb mb E s x) (p : PC w' G cb mb s' x') (k : Kept w w' (Two cb mb)) : Q W w' G cb mb E s' x' := ⟨p, h.st _ _ h.e k, h.st, h.k.trans k (fun _ _ h => h) (fun _ _ h => h)⟩
theorem Q.toc (h : Q W w G cb mb E s x) (p : Cur w' G cb s') (k : Kept w w' (fun b => b = cb)) (hl : s'.b.length ≤ s.b.length) : Q W w' G cb mb E s' x := h.to (h.pc.step p k hl) (k.mono (fun _ _ h => .inl h))
theorem Q.keep0 (h : Q W w G cb mb E s x) (k : Kept w w' (fun _ => False)) : Q W w' G cb mb E s x := h.to (h.pc.keep0 k) (k.mono (fun _ _ h => h.elim))
theorem Q.drew (h : Q W w G cb mb E s x) : Q W w.drew G cb mb E s x := h.keep0 (Kept.drew w _)
theorem Q.put (h : Q W w G cb mb E s x) (hM : MsgAt w' G mb x' ∧ Kept w w' (fun b => b = mb)) : Q W w' G cb mb E s x' := h.to (h.pc.put hM) (hM.2.mono (fun _ _ h => .inr h))
theorem Q.word (h : Q W w G cb mb E s x) : Calls Tryz.prog 160 #[(.pointer (some ⟨cb, 0, none⟩))] w fun r w' => r = .returned (.int .u16 s.word.1) ∧ Q W w' G cb mb E s.word.2 x := h.pc.word.mono fun _ _ ⟨e, p, k⟩ => ⟨e, h.to p (k.mono (fun _ _ h => .inl h))⟩
theorem Q.byte (h : Q W w G cb mb E s x) : Calls Tryz.prog 149 #[(.pointer (some ⟨cb, 0, none⟩))] w fun r w' => r = .returned (.int .u8 s.byte.1) ∧ Q W w' G cb mb E s.byte.2 x := h.pc.byte.mono fun _ _ ⟨e, p, k⟩ => ⟨e, h.to p (k.mono (fun _ _ h => .inl h))⟩
theorem Q.need (h : Q W w G cb mb E s x) (ok : Bool) (n : Int) : Calls Tryz.prog 150 #[(.pointer (some ⟨cb, 0, none⟩)), .bool ok, .int .i64 n] w fun r w' => r = .returned (.tuple #[]) ∧ Q W w' G cb mb E (s.need ok n) x := (h.pc.need ok n).mono fun _ _ ⟨e, p, k⟩ => ⟨e, h.to p (k.mono (fun _ _ h => .inl h))⟩
theorem Q.end_ (h : Q W w G cb mb E s x) : Calls Tryz.prog 139 #[(.pointer (some ⟨cb, 0, none⟩))] w fun r w' => r = .returned (.tuple #[]) ∧ Q W w' G cb mb E s.end_ x := h.pc.end_.mono fun _ _ ⟨e, p, k⟩ => ⟨e, h.to p (k.mono (fun _ _ h => .inl h))⟩
theorem Q.left (h : Q W w G cb mb E s x) : Calls Tryz.prog 155 #[(.pointer (some ⟨cb, 0, none⟩))] w fun r w' => r = .returned (.int .i64 s.b.length) ∧ w' = w := left_calls w cb s h.pc.c
theorem Q.bytes (h : Q W w G cb mb E s x) (n : Int) : Calls Tryz.prog 151 #[(.pointer (some ⟨cb, 0, none⟩)), .int .i64 n] w fun r w' => ∃ A c, r = .returned (.slice A (s.bytes n).1.length c) ∧ Stay .u8 w' G (.slice A (s.bytes n).1.length c) (s.bytes n).1 ∧ Q W w' G cb mb E (s.bytes n).2 x :=
  (h.pc.bytes n).mono fun _ _ ⟨A, c, e, b, p, k⟩ => ⟨A, c, e, b, h.to p (k.mono (fun _ _ h => .inl h))⟩
theorem Q.words (h : Q W w G cb mb E s x) (n : Int) : Calls Tryz.prog 176 #[(.pointer (some ⟨cb, 0, none⟩)), .int .i64 n] w fun r w' => ∃ A c, r = .returned (.slice A (s.words n).1.length c) ∧ Stay .u16 w' G (.slice A (s.words n).1.length c) (s.words n).1 ∧ Q W w' G cb mb E (s.words n).2 x :=
  (words_calls w cb s n h.pc.c h.pc.few).mono fun _ _ ⟨A, c, e, b, p, k⟩ => ⟨A, c, e, b, h.toc p k (s.words_le n)⟩
theorem Q.out (h : Q W w G cb mb E s x) {p : St} {y : S35} (hs : s = p) (hx : x = y) : PC w G cb mb p y ∧ Kept W w (Two cb mb) := ⟨hs ▸ hx ▸ h.pc, h.k⟩
end
theorem Q.start {w : World} {G : Nat → Prop} {cb mb : Nat} {E : World → Prop} {s : St} {x : S35} (p : PC w G cb mb s x) (e : E w) (st : ∀ w1 w2, E w1 → Kept w1 w2 (Two cb mb) → E w2) : Q w w G cb mb E s x := ⟨p, e, st, Kept.refl _ _⟩
abbrev EV (cb mb a b : Nat) : World → Prop := fun w => w.cell? ⟨a, 0, none⟩ = some (.pointer (some ⟨cb, 0, none⟩)) ∧ w.cell? ⟨b, 0, none⟩ = some (.pointer (some ⟨mb, 0, none⟩))
theorem ev_st {cb mb a b : Nat} (ha : ¬ Two cb mb a) (hb : ¬ Two cb mb b) : ∀ w1 w2, EV cb mb a b w1 → Kept w1 w2 (Two cb mb) → EV cb mb a b w2 := fun _ _ h k => ⟨k.cellN ha h.1, k.cellN hb h.2⟩
abbrev Form (f : FuncId) (args : Array Value) (G : Nat → Prop) (cb mb : Nat) (E : World → Prop) (F : St → S35 → St × S35) : Prop :=
  ∀ (w : World) (s : St) (x : S35), PC w G cb mb s x → E w → Calls Tryz.prog f args w fun r w' => r = .returned (.tuple #[]) ∧ PC w' G cb mb (F s x).1 (F s x).2 ∧ Kept w w' (Two cb mb)
theorem asz (w : World) (o : Obj) : (w.alloc o).heap.size = w.heap.size + 1 := by simp
theorem new_cell (w : World) (v0 v : Value) (t : TypeId) : ((w.alloc (.cells #[v0] t)).setCell ⟨w.heap.size, 0, none⟩ v).heap[w.heap.size]? = some (.cells #[v] t (0, 0)) ∧ Kept w ((w.alloc (.cells #[v0] t)).setCell ⟨w.heap.size, 0, none⟩ v) (fun _ => False) :=
  ⟨by have := setCell_row (i := 0) (v := v) (heap_alloc_new w (.cells #[v0] t)); rw [this]; rfl, (Kept.alloc w _ (fun _ => False)).trans (Kept.setCell _ w.heap.size 0 v (F := fun b => b = w.heap.size) rfl) (fun _ _ h => h) (fun k hk h => by omega)⟩
end Go.Proofs.YtmbjlondehcheaaGreatDoor
end
