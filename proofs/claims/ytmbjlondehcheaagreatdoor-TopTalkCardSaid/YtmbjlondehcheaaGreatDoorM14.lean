/- TopTalk: part 14 of the walks: of HRef, HPdw, HDiag. -/
import Derived.Test.YtmbjlondehcheaaGreatDoorM13
section
set_option linter.unusedSimpArgs false
set_option linter.unusedVariables false
namespace Go.Proofs.YtmbjlondehcheaaGreatDoor
open Go.Shelf Go.RowKit Go.Lib Go.Sort Go.Proofs.YtmbjlondehcheaaGreatDoorW.PrintWords Go.Proofs.YtmbjlondehcheaaGreatDoorW.PrintLast Go.Proofs.YtmbjlondehcheaaGreatDoor.PTopTalk
def cs35f (c f : Int) : List Value := [.int .u8 c, .int .u8 f, .int .u16 0, .int .u16 0, .int .u16 0, .int .u16 0, .int .u16 0, .int .u16 0, .int .u16 0, .int .u16 0, .int .u16 0, .int .u16 0, .slice none 0 0, .slice none 0 0, .slice none 0 0, .slice none 0 0, .int .u8 0, .int .u8 0, .int .u8 0, .int .u8 0, .int .u8 0, .slice none 0 0]
abbrev ref35 (c f : Int) : S35 := { z35 with f0 := c, f1 := f }
theorem cs35f_K (c f : Int) (w : World) : k35.K w (ref35 c f) (cs35f c f) :=
  k35_mk w (ref35 c f) (A12 := none) (c12 := 0) (Nat.le_refl _) (Kd.C_nil _ w) (A13 := none) (c13 := 0) (Nat.le_refl _) (Kd.C_nil _ w) (A14 := none) (c14 := 0) (Nat.le_refl _) (Kd.C_nil _ w) (A15 := none) (c15 := 0) (Nat.le_refl _) (Kd.C_nil _ w) (A21 := none) (c21 := 0) (Nat.le_refl _) (Kd.C_nil _ w)
theorem built35f (c f : Int) : Tryz.prog.built 35 [(0, .int .u8 c), (1, .int .u8 f)] = some (cs35f c f).toArray := by kernel_rfl
theorem public_le {c : Int} (h : c ∈ publicL) : 1 ≤ c ∧ c ≤ 43 := by
  revert h; simp [publicL]; omega
theorem failure_le {c : Int} (h : c ∈ failureL) : 1 ≤ c ∧ c ≤ 11 := by
  revert h; simp [failureL]; omega
theorem ref_fit {c f : Int} (hc : c ∈ publicL) (hf : f ∈ failureL) : Fit (ref35 c f) := by
  have := public_le hc
  have := failure_le hf
  exact ⟨by show 0 ≤ c ∧ c < 256; omega, by show 0 ≤ f ∧ f < 256; omega, by simp [z35], by simp [z35], by simp [z35], by simp [z35], by simp [z35], fun x hx => by simp [z35] at hx, by simp [z35], by simp [z35], by simp [z35]⟩
set_option maxHeartbeats 1000000 in
set_option maxRecDepth 1000000 in
theorem of_calls (w : World) (c f : Int) : Calls Tryz.prog 120 #[.agg #[.int .u8 c, .int .u8 f]] w fun r w' => r = .returned (.agg (cs35f c f).toArray) ∧ Kept w w' (fun _ => False) := by
  have hz := zero35
  have f1 := heap_alloc_new w (.cells #[.int .u8 c, .int .u8 f] 225)
  have q1 := Kept.alloc w (.cells #[.int .u8 c, .int .u8 f] 225) (fun _ => False)
  have hsz := asz w (.cells #[.int .u8 c, .int .u8 f] 225)
  have c0 : (w.alloc (.cells #[.int .u8 c, .int .u8 f] 225)).cell? ⟨w.heap.size, 0, none⟩ = some (.int .u8 c) := by rw [cell_of_row _ w.heap.size 0 _ 225 (0, 0) f1]; rfl
  have c1 : (w.alloc (.cells #[.int .u8 c, .int .u8 f] 225)).cell? ⟨w.heap.size, 1, none⟩ = some (.int .u8 f) := by rw [cell_of_row _ w.heap.size 1 _ 225 (0, 0) f1]; rfl
  go_enter Tryz.func120, Tryz.ntmps120
  go_upto_region 1 with fail
  generalize w.alloc (.cells #[.int .u8 c, .int .u8 f] 225) = w1 at *
  generalize hmb : w.heap.size = mb at *
  have q2 := Kept.alloc w1 (.cells (cs35 0).toArray 35) (fun _ => False)
  replace c0 := q2.cell c0
  replace c1 := q2.cell c1
  have f2 := heap_alloc_new w1 (.cells (cs35 0).toArray 35)
  rw [hsz] at f2
  have hlow : w.heap.size ≤ mb := by omega
  generalize w1.alloc (.cells (cs35 0).toArray 35) = w2 at *
  have R : Aside0 (Kept w (w2.setRow (mb + 1) (cs35f c f).toArray) (fun _ => False)) := ⟨(q1.trans q2 (H := fun _ => False) (fun _ _ h => h) (fun _ _ h => h)).trans (Kept.setRow w2 (mb + 1) _ (F := fun b => b = mb + 1) rfl) (H := fun _ => False) (fun _ _ h => h) (fun b hb e => by omega)⟩
  clear q1 q2 f1 hsz hmb hlow
  go_wp2_with (first
    | (refine wpList_buildTo rfl 35 _ rfl (some 7) rfl (cs35f c f).toArray ?_ ?_; (simp only [List.map_toArray, List.map_cons, List.map_nil]; exact built35f c f))
    | (refine wpList_store_rowTo rfl 35 (.tmp 2) (.tmp 7) rfl rfl (mb + 1) (cs35f c f).toArray rfl rfl 35 (cs35 0).toArray f2 (sizeM _ rfl) rfl (by kernel_rfl) ?_))
  exact bodyPost_ret (results_cell_row (p := 2) (ty := 35) Tryz.results120 _ _ (mb + 1) 35 _ (0, 0) _ rfl (setRow_heap _ _ _ _ 35 _ f2) Tryz.underlying35 rfl (sizeM _ rfl)) rfl ⟨rfl, R.out⟩
theorem ne225 (w : World) (c f : Int) (h : ¬ c = 0) : (binOp .neq 225 (.agg #[.int .u8 c, .int .u8 f]) (.agg #[.int .u8 0, .int .u8 0])).run Tryz.prog w = .ok (.bool true) w := by
  have hb : (c == 0) = false := by simpa using h
  have e : (Op.equalIn (9998 + 2) 225 (.agg #[.int .u8 c, .int .u8 f]) (.agg #[.int .u8 0, .int .u8 0])).run Tryz.prog w = .ok (c == 0 && (f == 0)) w := by
    refine eqA_of Tryz.underlying225 (by kernel_rfl) ?_
    refine eqf_cons (by rfl) (by go_simp; rfl) (by go_simp; rfl) (by go_simp) ?_
    exact eqf_last (by rfl) (by go_simp; rfl) (by go_simp; rfl) (by go_simp)
  rw [run_neq_struct, show 10000 = 9998 + 2 from rfl, e, hb]
  rfl
set_option maxHeartbeats 1000000 in
set_option maxRecDepth 1000000 in
theorem right_calls (w : World) (c f : Int) (hc : c ∈ publicL) (hf : f ∈ failureL) : Calls Tryz.prog 234 #[.agg #[.int .u8 c, .int .u8 f]] w fun r w' => r = .returned (.bool true) ∧ Kept w w' (fun _ => False) := by
  have f1 := heap_alloc_new w (.cells #[.int .u8 c, .int .u8 f] 225)
  have q1 := Kept.alloc w (.cells #[.int .u8 c, .int .u8 f] 225) (fun _ => False)
  have c0 : (w.alloc (.cells #[.int .u8 c, .int .u8 f] 225)).cell? ⟨w.heap.size, 0, none⟩ = some (.int .u8 c) := by rw [cell_of_row _ w.heap.size 0 _ 225 (0, 0) f1]; rfl
  have c1 : (w.alloc (.cells #[.int .u8 c, .int .u8 f] 225)).cell? ⟨w.heap.size, 1, none⟩ = some (.int .u8 f) := by rw [cell_of_row _ w.heap.size 1 _ 225 (0, 0) f1]; rfl
  have hne := fun w => ne225 w c f (by have := public_le hc; omega)
  have hp := fun W => public_calls W c
  have hfl := fun W => failure_calls W f
  rw [decide_eq_true hc] at hp
  rw [decide_eq_true hf] at hfl
  have sz : (Tryz.prog.info? 225).map (·.size) = some (#[Value.int .u8 c, Value.int .u8 f] : Array Value).size := by kernel_rfl
  clear hc hf
  go_enter Tryz.func234, Tryz.ntmps234
  go_upto_region 1 with fail
  generalize w.alloc (.cells #[.int .u8 c, .int .u8 f] 225) = w1 at *
  generalize w.heap.size = mb at *
  go_wp2_with (first
    | (refine wpList_load_row rfl 225 (.tmp 1) rfl mb rfl 225 #[.int .u8 c, .int .u8 f] (0, 0) _ f1 Tryz.underlying225 rfl sz ?_)
    | (refine wpList_buildTo rfl 225 _ rfl (some 4) rfl #[.int .u8 0, .int .u8 0] ?_ ?_; (simp only [List.map_toArray, List.map_cons, List.map_nil]; kernel_rfl))
    | (go_at_call 118; with_reducible refine (hp _).mono ?_; rintro e w2 ⟨rfl, k2⟩; replace c1 := k2.cell c1)
    | (go_at_call 119; with_reducible refine (hfl _).mono ?_; rintro e w3 ⟨rfl, k3⟩))
  go_ret
  exact ⟨rfl, (q1.trans k2 (fun _ _ h => h) (fun _ _ h => h)).trans k3 (fun _ _ h => h) (fun _ _ h => h)⟩
set_option maxHeartbeats 1000000 in
set_option maxRecDepth 1000000 in
theorem refWrite_calls (w : World) (c f : Int) (cs : List Value) (hK0 : k35.K w (ref35 c f) cs) (hc : c ∈ publicL) (hf : f ∈ failureL) : Calls Tryz.prog 233 #[.agg cs.toArray] w fun r w' => ∃ v, r = .returned (.tuple #[v, .int .i64 0]) ∧ OB w w' v [c + 128, f] := by
  have M := MsgAt.box hK0
  have q1 := Kept.alloc w (.cells cs.toArray 35) (fun _ => False)
  have f1 := heap_alloc_new w (.cells cs.toArray 35)
  have hs := cons35 hK0
  have c0 : (w.alloc (.cells cs.toArray 35)).cell? ⟨w.heap.size, 0, none⟩ = some (.int .u8 c) := M.g0
  have c1 : (w.alloc (.cells cs.toArray 35)).cell? ⟨w.heap.size, 1, none⟩ = some (.int .u8 f) := M.g1
  have sz : (Tryz.prog.info? 225).map (·.size) = some (#[Value.int .u8 c, Value.int .u8 f] : Array Value).size := by kernel_rfl
  have szm : (Tryz.prog.info? 35).map (·.size) = some cs.length := by rw [k35.K_len hK0]; kernel_rfl
  have hw := public_le hc
  have hcl : c ≤ 43 := hw.2
  have hcp : 1 ≤ c := hw.1
  go_enter Tryz.func233, Tryz.ntmps233
  go_upto_region 1 with fail
  have hK1 := k35.K_below q1.toBelow hK0
  generalize w.alloc (.cells cs.toArray 35) = w1 at *
  generalize w.heap.size = mb at *
  clear M hK0 hw
  have N := new_row w1 #[.int .u8 0, .int .u8 0] #[.int .u8 c, .int .u8 f] 225
  go_upto_region 2 with (first
    | (refine wpList_buildTo rfl 225 _ rfl (some 9) rfl #[.int .u8 c, .int .u8 f] ?_ ?_; (simp only [List.map_toArray, List.map_cons, List.map_nil]; kernel_rfl))
    | (refine wpList_store_rowTo rfl 225 (.tmp 4) (.tmp 9) rfl rfl w1.heap.size #[.int .u8 c, .int .u8 f] rfl rfl 225 #[.int .u8 0, .int .u8 0] (heap_alloc_new _ _) sz rfl (by kernel_rfl) ?_))
  obtain ⟨f2, k2⟩ := N
  generalize (w1.alloc (.cells #[.int .u8 0, .int .u8 0] 225)).setRow w1.heap.size #[.int .u8 c, .int .u8 f] = w2 at *
  generalize w1.heap.size = tb at *
  have hK := k35.K_below k2.toBelow hK1
  replace f1 := k2.heap f1 (fun h => h)
  replace c0 := k2.cell c0
  replace c1 := k2.cell c1
  have rt : w2.rangeAt tb 0 [.int .u8 c, .int .u8 f] := fun j u hu => by rw [cell_of_row w2 tb (0 + j) _ 225 (0, 0) f2]; simpa using hu
  have rm : w2.rangeAt mb 0 cs := fun j u hu => by rw [cell_of_row w2 mb (0 + j) _ 35 (0, 0) f1]; simpa using hu
  have Q2 := q1.trans k2 (H := fun _ => False) (fun _ _ h => h) (fun _ _ h => h)
  clear q1 k2 hK1 f1 f2
  have S0 := Kept.drew w2 (fun _ => False)
  refine st 10 (fun w' => Kept w2 w' (fun _ => False)) [] S0 ?_
  refine ld 0 (some 10) (mk 10 1) S0 (v := .agg #[.int .u8 c, .int .u8 f]) ?_ (hy := (yieldsIf_load_mid (by kernel_rfl) 225 (.tmp 4) rfl tb 0 rfl [.int .u8 c, .int .u8 f] _ (fun w' hS => hS.range rt) Tryz.underlying225 rfl (by kernel_rfl)))
  refine cl 1 (some 11) (mk 10 3) Tryz.func234 (args := #[.agg #[.int .u8 c, .int .u8 f]]) (right_calls _ c f hc hf) ?_
  rintro e w3 ⟨rfl, k3⟩
  have S1 := S0.trans k3 (H := fun _ => False) (fun _ _ h => h) (fun _ _ h => h)
  refine ⟨_, rfl, S1, nm ?_⟩
  refine pu 2 (some 12) (mk 10 7) ?_
  refine pu 3 (some 13) (mk 10 15) ?_
  refine ld 4 (some 14) (mk 10 31) S1 (v := .agg cs.toArray) ?_ (hy := (yieldsIf_load_mid (by kernel_rfl) 35 (.tmp 1) rfl mb 0 rfl cs _ (fun w' hS => hS.range rm) Tryz.underlying35 rfl szm))
  refine ld 5 (some 15) (mk 10 63) S1 (v := .agg #[.int .u8 c, .int .u8 f]) ?_ (hy := (yieldsIf_load_mid (by kernel_rfl) 225 (.tmp 4) rfl tb 0 rfl [.int .u8 c, .int .u8 f] _ (fun w' hS => hS.range rt) Tryz.underlying225 rfl (by kernel_rfl)))
  refine cl 6 (some 16) (mk 10 127) Tryz.func120 (args := #[.agg #[.int .u8 c, .int .u8 f]]) (of_calls _ c f) ?_
  rintro e w4 ⟨rfl, k4⟩
  have S2 := S1.trans k4 (H := fun _ => False) (fun _ _ h => h) (fun _ _ h => h)
  refine ⟨_, rfl, S2, nm ?_⟩
  refine cl 7 (some 17) (mk 10 255) Tryz.func142 (args := #[.agg cs.toArray, .agg (cs35f c f).toArray]) (code_same _ (ref35 c f) (ref35 c f) cs (cs35f c f) (k35.K_below S2.toBelow hK) (cs35f_K c f _) (ref_fit hc hf) (ref_fit hc hf) rfl) ?_
  rintro e w5 ⟨rfl, k5⟩
  have S3 := S2.trans k5 (H := fun _ => False) (fun _ _ h => h) (fun _ _ h => h)
  rw [decide_eq_true rfl]
  refine ⟨_, rfl, S3, nm ?_⟩
  refine pu 8 (some 18) (mk 10 511) ?_
  refine pu 9 (some 19) (mk 10 1023) ?_
  refine done_ (by kernel_rfl) ?_
  replace c0 := S3.cell c0
  replace c1 := S3.cell c1
  have QF := Q2.trans S3 (H := fun _ => False) (fun _ _ h => h) (fun _ _ h => h)
  clear S0 S1 S2 S3 k3 k4 k5 Q2 rt rm hK hc hf
  have FIN : Aside0 _ := ⟨Ow.base QF (Ow.lit (k := .u8) (te := 5) (Kept.refl w5 _) [c + 128, f] (by simp) (by simp))⟩
  clear QF
  go_wp2
  go_ret2
  exact ⟨_, rfl, FIN.out⟩
set_option maxHeartbeats 1000000 in
set_option maxRecDepth 1000000 in
theorem refParse_calls (w : World) (a f : Int) (v : Value) (h : By w v [a, f]) (ha : 128 ≤ a) (ha2 : a ≤ 255) (hc : a - 128 ∈ publicL) (hf : f ∈ failureL) : Calls Tryz.prog 115 #[v] w fun r w' => ∃ cs, r = .returned (.tuple #[.agg cs.toArray, .int .i64 0]) ∧ k35.K w' (ref35 (a - 128) f) cs ∧ Kept w w' (fun _ => False) := by
  obtain ⟨A, c, rfl, hcc⟩ := h.len
  obtain ⟨ad, rfl, -, ca⟩ := h.at_ (i := 0) (by simp)
  obtain ⟨ad', e, -, cf⟩ := h.at_ (i := 1) (by simp)
  injection e with e
  subst e
  replace ca : w.cell? ad = some (.int .u8 a) := by simpa [Addr.add] using ca
  replace cf : w.cell? ⟨ad.block, ad.off + 1, none⟩ = some (.int .u8 f) := by simpa [Addr.add] using cf
  clear h
  have hz := zero35
  have g0 := heap_alloc_new w (.cells (cs35 0).toArray 35)
  have q0 := Kept.alloc w (.cells (cs35 0).toArray 35) (fun _ => False)
  have hp := fun W => public_calls W (a - 128)
  have hfl := fun W => failure_calls W f
  rw [decide_eq_true hc] at hp
  rw [decide_eq_true hf] at hfl
  replace ca := q0.cell ca
  replace cf := q0.cell cf
  have hcap : (2 : Int) ≤ (c : Int) := by simp at hcc; omega
  clear hc hf hcc
  go_enter Tryz.func115, Tryz.ntmps115
  go_upto_region 1 with fail
  generalize w.alloc (.cells (cs35 0).toArray 35) = w1 at *
  have hrb : w.heap.size ≤ w.heap.size := Nat.le_refl _
  generalize hrb2 : w.heap.size = rb at *
  have HRB : Aside0 _ := ⟨hrb2⟩
  clear hrb hrb2
  go_upto_region 11 with (first
    | (go_at_call 118; with_reducible refine (hp _).mono ?_; rintro e w2 ⟨rfl, k2⟩; replace ca := k2.cell ca; replace cf := k2.cell cf; replace g0 := k2.heap g0 (fun h => h); replace q0 := q0.trans k2 (H := fun _ => False) (fun _ _ h => h) (fun _ _ h => h); clear k2)
    | (go_at_call 119; with_reducible refine (hfl _).mono ?_; rintro e w3 ⟨rfl, k3⟩; replace ca := k3.cell ca; replace cf := k3.cell cf; replace g0 := k3.heap g0 (fun h => h); replace q0 := q0.trans k3 (H := fun _ => False) (fun _ _ h => h) (fun _ _ h => h); clear k3))
  have S0 := Kept.drew w3 (fun _ => False)
  have hwr : IntKind.u8.wrap (a - 128) = a - 128 := by
    unfold IntKind.wrap
    simp [IntKind.bits, IntKind.signed]
    omega
  refine st 11 (fun w' => Kept w3 w' (fun _ => False)) [9] S0 ?_
  refine pu 0 (some 40) (mk 11 1) ?_
  refine pu 1 (some 41) (mk 11 3) ?_
  refine ld 2 (some 42) (mk 11 7) S0 ?_ (hy := .inl ⟨by rfl, by intro w' hS; have q1 := hS.cell ca; have q2 := hS.cell cf; go_simp; with_reducible rfl⟩)
  refine pu 3 (some 43) (mk 11 15) ?_
  refine pu 4 (some 44) (mk 11 31) ?_
  refine pu 5 (some 45) (mk 11 63) ?_
  refine ld 6 (some 46) (mk 11 127) S0 ?_ (hy := .inl ⟨by rfl, by intro w' hS; have q1 := hS.cell ca; have q2 := hS.cell cf; go_simp; with_reducible rfl⟩)
  refine pu 7 (some 47) (mk 11 255) ?_
  refine cl 8 (some 48) (mk 11 511) Tryz.func120 (args := #[.agg #[.int .u8 (a - 128), .int .u8 f]]) (of_calls _ (a - 128) f) ?_
  rintro e w4 ⟨rfl, k4⟩
  have S1 := S0.trans k4 (H := fun _ => False) (fun _ _ h => h) (fun _ _ h => h)
  refine ⟨_, rfl, S1, nm ?_⟩
  refine la 9 none (mk 11 1023) fun K hK => ?_
  refine wp_store_row 35 (.tmp 2) (.tmp 48) rfl rb (cs35f (a - 128) f).toArray rfl rfl 35 (cs35 0).toArray (S1.heap g0 (fun h => h)) (sizeM _ rfl) rfl (by kernel_rfl) ?_
  refine hK _ _ (nm ?_)
  clear hK K
  refine pu 10 (some 3) (mk 11 2047) ?_
  refine done_ (by kernel_rfl) ?_
  clear hwr
  have g1 := S1.heap g0 (fun h => h)
  have FIN : Aside0 (Kept w (w4.setRow rb (cs35f (a - 128) f).toArray) (fun _ => False)) := ⟨(q0.trans S1 (H := fun _ => False) (fun _ _ h => h) (fun _ _ h => h)).trans (Kept.setRow w4 rb _ (F := fun b => b = rb) rfl) (fun _ _ h => h) (fun b hb e => by have := HRB.out; omega)⟩
  clear S0 S1 k4 q0 g0 ca cf
  go_wp2
  refine bodyPost_ret (results_ct (p := 2) (u := 3) (ty := 35) Tryz.results115 _ _ rb 35 (cs35f (a - 128) f).toArray (0, 0) _ rfl (setRow_heap _ _ _ _ 35 _ g1) Tryz.underlying35 rfl (sizeM _ rfl)) rfl ?_
  exact ⟨cs35f (a - 128) f, rfl, cs35f_K _ _ _, FIN.out⟩
end Go.Proofs.YtmbjlondehcheaaGreatDoor
end
section
set_option linter.unusedSimpArgs false
set_option linter.unusedVariables false
namespace Go.Proofs.YtmbjlondehcheaaGreatDoor
open Go.Shelf Go.RowKit Go.Lib Go.Sort Go.Proofs.YtmbjlondehcheaaGreatDoorW.PrintWords Go.Proofs.YtmbjlondehcheaaGreatDoorW.PrintLast Go.Proofs.YtmbjlondehcheaaGreatDoor.PTopTalk
theorem Wrote.one {x : S35} {L : List Int → Prop} {P : List Int → S35 × Int} {w w' : World} {r : Ending} (h : Wrote x L P w r w') : ∃ A k c e0, r = .returned (.tuple #[.slice A k c, .int .i64 e0]) ∧ Kept w w' (fun _ => False) ∧ ((∃ b, L b ∧ ¬ P b = (x, 0)) ∧ e0 = 1 ∨ e0 = 0 ∧ ∃ b, b.length = k ∧ By w' (.slice A k c) b ∧ (P b = (x, 0) ∧ L b) ∧ k ≤ 90000) := by
  obtain ⟨k, ⟨hn, rfl⟩ | ⟨v, b, rfl, hB, hLb, hP, hl⟩⟩ := h
  · exact ⟨none, 0, 0, 1, rfl, k, .inl ⟨hn, rfl⟩⟩
  · obtain ⟨A, c, rfl, -⟩ := hB.len
    exact ⟨A, b.length, c, 0, rfl, k, .inr ⟨rfl, b, rfl, hB, ⟨hP, hLb⟩, hl⟩⟩
def PofHit (c : Int) (n m : FuncId) : Prop := ∃ A C, pofT = A ++ (c, codV n m) :: C ∧ ∀ e ∈ A, ¬ e.1 = c
theorem pof_hit (w : World) {c : Int} {n m : FuncId} (h : PofHit c n m) : Calls Tryz.prog 116 #[.int .u8 c] w fun r w' => r = .returned (.tuple #[codV n m, .bool true]) ∧ Kept w w' (fun _ => False) := by
  obtain ⟨A, C, he, hA⟩ := h
  exact pof_calls w c _ _ true rfl rfl (fun W B hb => look_hit (et := 220) Tryz.underlying227 Tryz.underlying5 hb he hA)
theorem pof_miss (w : World) {c : Int} (h : ∀ e ∈ pofT, ¬ e.1 = c) : Calls Tryz.prog 116 #[.int .u8 c] w fun r w' => r = .returned (.tuple #[.agg #[.nilFunc, .nilFunc], .bool false]) ∧ Kept w w' (fun _ => False) :=
  pof_calls w c _ _ false rfl rfl (fun W B hb => look_miss (et := 220) Tryz.underlying227 Tryz.underlying5 hb (fun w => by kernel_rfl) h)
def PduW (N : Prop) (x : S35) (L : List Int → Prop) (P : List Int → S35 × Int) (w : World) (r : Ending) (w' : World) : Prop :=
  Kept w w' (fun _ => False) ∧ (N ∧ r = .returned (.tuple #[.slice none 0 0, .int .i64 1]) ∨ ∃ v b, r = .returned (.tuple #[v, .int .i64 0]) ∧ By w' v (x.f0 :: b) ∧ b.length < 253 ∧ (P b = (x, 0) ∧ L b))
set_option maxHeartbeats 2000000 in
set_option maxRecDepth 1000000 in
theorem pduW_fail (w : World) (x : S35) (cs : List Value) (hK : k35.K w x cs) (h1 : ¬ x.f1 = 0) (L : List Int → Prop) (P : List Int → S35 × Int) : Calls Tryz.prog 232 #[.int .i64 0, .agg cs.toArray] w (PduW True x L P w) := by
  have c1 := (MsgAt.box hK).g1
  have K1 := Kept.alloc w (.cells cs.toArray 35) (fun _ => False)
  have hb : (x.f1 == 0) = false := by simpa using h1
  have hb2 : (x.f1 != 0) = true := by simpa using h1
  clear hK
  go_enter Tryz.func232, Tryz.ntmps232
  go_wp2
  go_ret2
  exact ⟨K1, .inl ⟨trivial, rfl⟩⟩
set_option maxHeartbeats 2000000 in
set_option maxRecDepth 1000000 in
theorem pduW_none (w : World) (x : S35) (cs : List Value) (hK : k35.K w x cs) (h1 : x.f1 = 0) (hm : ∀ e ∈ pofT, ¬ e.1 = x.f0) (L : List Int → Prop) (P : List Int → S35 × Int) : Calls Tryz.prog 232 #[.int .i64 0, .agg cs.toArray] w (PduW True x L P w) := by
  have c1 := (MsgAt.box hK).g1
  have c0 := (MsgAt.box hK).g0
  rw [h1] at c1
  have K1 := Kept.alloc w (.cells cs.toArray 35) (fun _ => False)
  have sz : (Tryz.prog.info? 220).map (·.size) = some (#[Value.nilFunc, .nilFunc] : Array Value).size := by kernel_rfl
  have hp := pof_miss (w.alloc (.cells cs.toArray 35)) hm
  clear hK
  go_enter Tryz.func232, Tryz.ntmps232
  go_upto_region 5 with fail
  generalize w.alloc (.cells cs.toArray 35) = w1 at *
  generalize w.heap.size = mb at *
  go_upto_region 6 with (first
    | (go_at_call 116; with_reducible refine hp.mono ?_; rintro e w2 ⟨rfl, k2⟩; have N2 := new_row w2 #[.nilFunc, .nilFunc] #[.nilFunc, .nilFunc] 220)
    | (refine wpList_store_rowTo rfl 220 (.tmp 6) (.tmp 23) rfl rfl w2.heap.size #[.nilFunc, .nilFunc] rfl rfl 220 #[.nilFunc, .nilFunc] (heap_alloc_new _ _) sz rfl (by kernel_rfl) ?_))
  go_wp2
  go_ret2
  exact ⟨(K1.trans k2 (H := fun _ => False) (fun _ _ h => h) (fun _ _ h => h)).trans N2.2 (fun _ _ h => h) (fun _ _ h => h), .inl ⟨trivial, rfl⟩⟩
set_option maxHeartbeats 2000000 in
set_option maxRecDepth 1000000 in
theorem pduW_some (w : World) (x : S35) (cs : List Value) (hK : k35.K w x cs) (h1 : x.f1 = 0) (L : List Int → Prop) (P : List Int → S35 × Int) {n m : FuncId} (hm : PofHit x.f0 n m) (eg : ∀ args w, (callFunc m args).run Tryz.prog w = .ok (.enter m args) w) (hW : Writes m x L P) : Calls Tryz.prog 232 #[.int .i64 0, .agg cs.toArray] w (PduW (∃ b, L b ∧ ¬ (P b = (x, 0) ∧ b.length < 253)) x L P w) := by
  have c1 := (MsgAt.box hK).g1
  have c0 := (MsgAt.box hK).g0
  rw [h1] at c1
  have K1 := Kept.alloc w (.cells cs.toArray 35) (fun _ => False)
  have f1 := heap_alloc_new w (.cells cs.toArray 35)
  have hs := cons35 hK
  have sz : (Tryz.prog.info? 220).map (·.size) = some (codC n m).size := by kernel_rfl
  have hp := pof_hit (w.alloc (.cells cs.toArray 35)) hm
  have hK1 := k35.K_below K1.toBelow hK
  clear hK hm h1
  go_enter Tryz.func232, Tryz.ntmps232
  go_upto_region 5 with fail
  generalize w.alloc (.cells cs.toArray 35) = w1 at *
  generalize w.heap.size = mb at *
  go_upto_region 6 with (first
    | (go_at_call 116; with_reducible refine hp.mono ?_; rintro e w2 ⟨rfl, k2⟩; have N2 := new_row w2 #[.nilFunc, .nilFunc] (codC n m) 220)
    | (refine wpList_store_rowTo rfl 220 (.tmp 6) (.tmp 23) rfl rfl w2.heap.size (codC n m) rfl rfl 220 #[.nilFunc, .nilFunc] (heap_alloc_new _ _) sz rfl (by kernel_rfl) ?_))
  obtain ⟨f2, k3⟩ := N2
  have k23 := k2.trans k3 (H := fun _ => False) (fun _ _ h => h) (fun _ _ h => h)
  have K3 := K1.trans k23 (H := fun _ => False) (fun _ _ h => h) (fun _ _ h => h)
  replace f1 := k23.heap f1 (fun h => h)
  replace c0 := k23.cell c0
  have hK3 := k35.K_below k23.toBelow hK1
  generalize (w2.alloc (.cells #[.nilFunc, .nilFunc] 220)).setRow w2.heap.size (codC n m) = w3 at *
  generalize w2.heap.size = tb at *
  have hf : w3.cell? ⟨tb, 1, none⟩ = some (.func (.func m) #[] #[]) := by rw [cell_of_row w3 tb 1 _ 220 (0, 0) f2]; rfl
  have hw := (hW w3 cs hK3).mono fun _ _ h => h.one
  clear hp K1 k2 k3 k23 hK1 hK3 hW f2
  go_upto_region 9 with (first
    | (refine wpList_load_row rfl 35 (.tmp 3) rfl mb rfl 35 cs.toArray (0, 0) _ f1 Tryz.underlying35 rfl (sizeM _ hs) ?_)
    | (go_at_fn m; with_reducible refine hw.mono ?_; rintro e w4 ⟨A, k, c, e0, rfl, k4, hR⟩; clear hw))
  rcases hR with ⟨hno, rfl⟩ | ⟨rfl, b, hk, hB, hP, hbl⟩
  · have HNO : Aside0 _ := ⟨hno⟩
    clear hno
    have K4 := K3.trans k4 (H := fun _ => False) (fun _ _ h => h) (fun _ _ h => h)
    clear K3 k4 f1 c0 hf c1
    go_wp2
    go_ret2
    obtain ⟨b, hL, hn⟩ := HNO.out
    exact ⟨K4, .inl ⟨⟨b, hL, fun h => hn h.1⟩, rfl⟩⟩
  · have K4 := K3.trans k4 (H := fun _ => False) (fun _ _ h => h) (fun _ _ h => h)
    replace c0 := k4.cell c0
    have HP : Aside0 _ := ⟨And.intro hP hk⟩
    clear K3 k4 f1 hf c1 hP hk
    by_cases hlt : k < 253
    · have hO1 : OB w4 (w4.alloc (.cells #[.int .u8 x.f0] 5)) (.slice (some ⟨w4.heap.size, 0, none⟩) 1 1) [x.f0] := Ow.lit (k := .u8) (te := 5) (Kept.refl w4 _) [x.f0] (by simp) (by simp)
      obtain ⟨v5, w5, ha5, hO5, -⟩ := hO1.app 23 (hB.keep (Kept.alloc w4 (.cells #[.int .u8 x.f0] 5) (fun _ => False))) (by have := HP.out.2; simp; omega)
      have FIN : Aside0 _ := ⟨And.intro hO5 K4⟩
      have hz : (k : Int) < 253 := by omega
      clear hO1 hO5 K4 hB
      go_wp2_with (refine wpList_app rfl (.tmp 44) (.tmp 45) 23 23 rfl (some 46) rfl (.slice (some ⟨w4.heap.size, 0, none⟩) 1 1) (.slice A k c) rfl rfl v5 w5 ha5 ?_)
      go_ret2
      refine ⟨FIN.out.2.trans FIN.out.1.kept (fun _ _ h => h) (fun _ _ h => h), .inr ⟨v5, b, rfl, FIN.out.1.rd (by have := HP.out.2; simp; omega), by have := HP.out.2; omega, HP.out.1⟩⟩
    · have hz : ¬ (k : Int) < 253 := by omega
      have hz2 : (253 : Int) ≤ (k : Int) := by omega
      clear hB
      go_wp2
      go_ret2
      exact ⟨K4, .inl ⟨⟨b, HP.out.1.2, fun h => by have := HP.out.2; omega⟩, rfl⟩⟩
end Go.Proofs.YtmbjlondehcheaaGreatDoor
end
section
set_option linter.unusedSimpArgs false
set_option linter.unusedVariables false
namespace Go.Proofs.YtmbjlondehcheaaGreatDoor
open Go.Shelf Go.RowKit Go.Lib Go.Sort Go.Proofs.YtmbjlondehcheaaGreatDoorW.PrintWords Go.Proofs.YtmbjlondehcheaaGreatDoorW.PrintLast Go.Proofs.YtmbjlondehcheaaGreatDoor.PTopTalk
def mayB (sub v : Int) : Bool := if sub = 1 then (v == 0 || v == 65280) else if sub = 3 then (bits BinOp.and IntKind.u16 v 255 == 0) else v == 0
theorem may1_calls (w : World) (a : Nat) (u v : Int) (h : w.cell? ⟨a, 0, none⟩ = some (.int .u16 v)) : Calls Tryz.prog 199 #[.int .u16 u, (.pointer (some ⟨a, 0, none⟩))] w fun r w' => r = .returned (.bool (v == 0)) ∧ w' = w := by
  go_enter Tryz.func199, Tryz.ntmps199
  go_wp2
  go_ret
  exact ⟨rfl, rfl⟩
theorem may2_calls (w : World) (v : Int) : Calls Tryz.prog 200 #[.int .u16 v] w fun r w' => r = .returned (.bool (v == 0 || v == 65280)) ∧ w' = w := by
  by_cases h : v = 0
  · subst h
    go_enter Tryz.func200, Tryz.ntmps200
    go_wp2
    go_ret
    exact ⟨rfl, rfl⟩
  · have hb : (v == 0) = false := by simpa using h
    rw [hb, Bool.false_or]
    go_enter Tryz.func200, Tryz.ntmps200
    go_wp2
    go_ret
    exact ⟨rfl, rfl⟩
theorem may3_calls (w : World) (v : Int) : Calls Tryz.prog 201 #[.int .u16 v] w fun r w' => r = .returned (.bool (bits BinOp.and IntKind.u16 v 255 == 0)) ∧ w' = w := by
  go_enter Tryz.func201, Tryz.ntmps201
  go_wp2
  go_ret
  exact ⟨rfl, rfl⟩
abbrev mayE : List (Int × Value) := [(1, .func (.func 200) #[] #[]), (3, .func (.func 201) #[] #[])]
set_option maxHeartbeats 1000000 in
set_option maxRecDepth 1000000 in
theorem may_calls (w : World) (sub v : Int) : Calls Tryz.prog 185 #[.int .i64 0, .int .u16 sub, .int .u16 v] w fun r w' => r = .returned (.bool (mayB sub v)) ∧ Kept w w' (fun _ => False) := by
  have f5 := heap_alloc_new w (.cells #[.int .u16 v] 27)
  have q5 := Kept.alloc w (.cells #[.int .u16 v] 27) (fun _ => False)
  have hmm := @run_makeMap Tryz.prog
  obtain ⟨z0, hz0⟩ : ∃ z0, mayB sub v = z0 := ⟨_, rfl⟩
  rw [hz0]
  have HZ : Aside0 _ := ⟨hz0⟩
  clear hz0
  go_enter Tryz.func185, Tryz.ntmps185
  go_upto_region 2 with fail
  generalize w.alloc (.cells #[.int .u16 v] 27) = w1 at *
  generalize w.heap.size = vb at *
  have hb0 : (w1.alloc (.map #[] 0)).heap[w1.heap.size]? = some (.map (ments .u16 []).toArray ([] : List (Int × Value)).length) := heap_alloc_new _ _
  have q6 := Kept.alloc w1 (.map #[] 0) (fun _ => False)
  have hne : ¬ vb = w1.heap.size := fun e => by have := heap_lt f5; omega
  have f50 := q6.heap f5 (fun h => h)
  obtain ⟨v1, hr1, hb1, f51, m1⟩ := put_ex (mt := 284) Tryz.underlying284 Tryz.underlying27 hb0 f50 hne 1 (.func (.func 200) #[] #[]) (by simp)
  obtain ⟨v2, hr2, hb2, f52, m2⟩ := put_ex (mt := 284) Tryz.underlying284 Tryz.underlying27 hb1 f51 hne 3 (.func (.func 201) #[] #[]) (by simp)
  go_upto_region 3 with (first
    | (refine wpList_plain rfl fun _ hK => wp_insert 284 (.tmp 13) (.const (.int .u16 1)) (.func 200) rfl (.map (some w1.heap.size)) (.int .u16 1) (.func (.func 200) #[] #[]) rfl rfl rfl _ hr1 (hK _ _ ?_))
    | (refine wpList_plain rfl fun _ hK => wp_insert 284 (.tmp 13) (.const (.int .u16 3)) (.func 201) rfl (.map (some w1.heap.size)) (.int .u16 3) (.func (.func 201) #[] #[]) rfl rfl rfl _ hr2 (hK _ _ ?_)))
  have KK : Aside0 (Kept w v2 (fun _ => False)) := ⟨q5.trans (q6.trans (m1.trans m2 (H := fun b => b = w1.heap.size) (fun _ _ h => h) (fun _ _ h => h)) (H := fun _ => False) (fun _ _ h => h) (fun b hb e => by omega)) (fun _ _ h => h) (fun _ _ h => h)⟩
  have cv : v2.cell? ⟨vb, 0, none⟩ = some (.int .u16 v) := by rw [cell_of_row v2 vb 0 _ 27 (0, 0) f52]; rfl
  have hit := fun A C s f (he : mayE = A ++ (s, f) :: C) (hA : ∀ e ∈ A, ¬ e.1 = s) => look_hit (et := 276) Tryz.underlying284 Tryz.underlying27 hb2 (a := s) (v := f) he hA
  have miss := fun s (hn : ∀ e ∈ mayE, ¬ e.1 = s) => look_miss (et := 276) (z := .nilFunc) Tryz.underlying284 Tryz.underlying27 hb2 (a := s) (fun w => by kernel_rfl) hn
  generalize w1.heap.size = B at *
  have e1 : ∀ args w, (callFunc 199 args).run Tryz.prog w = .ok (.enter 199 args) w := enters_of Tryz.func199 (by kernel_rfl) rfl
  have e2 : ∀ args w, (callFunc 200 args).run Tryz.prog w = .ok (.enter 200 args) w := enters_of Tryz.func200 (by kernel_rfl) rfl
  have e3 : ∀ args w, (callFunc 201 args).run Tryz.prog w = .ok (.enter 201 args) w := enters_of Tryz.func201 (by kernel_rfl) rfl
  clear hmm hb0 hb1 hb2 f50 f51 f52 f5 m1 m2 q5 q6 hr1 hr2 hne
  by_cases s1 : sub = 1
  · subst s1
    have hl := hit [] _ 1 _ rfl (by simp)
    obtain rfl : (v == 0 || v == 65280) = z0 := by rw [← HZ.out]; simp [mayB]
    clear hit miss
    go_wp2_with (go_at_fn 200; with_reducible refine (may2_calls _ _).mono ?_; rintro e w3 ⟨rfl, rfl⟩)
    go_ret
    exact ⟨rfl, KK.out⟩
  by_cases s3 : sub = 3
  · subst s3
    have hl := hit [(1, .func (.func 200) #[] #[])] _ 3 _ rfl (by simp)
    obtain rfl : (bits BinOp.and IntKind.u16 v 255 == 0) = z0 := by rw [← HZ.out]; simp [mayB]
    clear hit miss
    go_wp2_with (go_at_fn 201; with_reducible refine (may3_calls _ _).mono ?_; rintro e w3 ⟨rfl, rfl⟩)
    go_ret
    exact ⟨rfl, KK.out⟩
  have hl := miss sub (by simp; exact ⟨fun e => s1 e.symm, fun e => s3 e.symm⟩)
  obtain rfl : (v == 0) = z0 := by rw [← HZ.out]; simp [mayB, s1, s3]
  clear hit miss HZ
  by_cases s2 : sub = 2
  · subst s2
    go_wp2_with (go_at_fn 199; with_reducible refine (may1_calls _ _ _ _ cv).mono ?_; rintro e w3 ⟨rfl, rfl⟩)
    go_ret
    exact ⟨rfl, KK.out⟩
  have sb : (sub == 2) = false := by simpa using s2
  by_cases s11 : 11 ≤ sub
  · obtain ⟨z, hz⟩ : ∃ z, decide (sub ≤ 18) = z := ⟨_, rfl⟩
    cases z
    all_goals
      go_wp2_with (go_at_fn 199; with_reducible refine (may1_calls _ _ _ _ cv).mono ?_; rintro e w3 ⟨rfl, rfl⟩)
      go_ret
      exact ⟨rfl, KK.out⟩
  · go_wp2_with (go_at_fn 199; with_reducible refine (may1_calls _ _ _ _ cv).mono ?_; rintro e w3 ⟨rfl, rfl⟩)
    go_ret
    exact ⟨rfl, KK.out⟩
def lineF (s : St) (x : S35) : St × S35 :=
  let s2 := s.word.2.need (decide (s.word.1 ∈ bitsL)) 8
  if s.word.1 = 0 then
    let n : Int := s2.b.length
    let s3 := s2.need (decide (n % 2 = 0) && decide (2 ≤ n) && decide (n ≤ 250)) 5
    ((s3.words (n / 2)).2, { x with f8 := s.word.1, f12 := (s3.words (n / 2)).1 })
  else
    ((s2.words 1).2.need (match (s2.words 1).1 with | [] => false | y :: _ => mayB s.word.1 y) 6, { x with f8 := s.word.1, f12 := (s2.words 1).1 })
theorem St.words1 (s : St) : (s.words 1).1 = [] ∨ ∃ y, (s.words 1).1 = [y] := by
  unfold St.words St.bytes
  split
  · exact .inl rfl
  · split
    · exact .inl rfl
    · rcases s.b with _ | ⟨a, _ | ⟨b, t⟩⟩ <;> simp [wTake]
set_option maxHeartbeats 2000000 in
set_option maxRecDepth 1000000 in
theorem line_calls (w : World) (G : Nat → Prop) (cb mb : Nat) (s : St) (x : S35) (h : PC w G cb mb s x) : Calls Tryz.prog 145 #[.int .i64 0, (.pointer (some ⟨cb, 0, none⟩)), (.pointer (some ⟨mb, 0, none⟩))] w fun r w' => r = .returned (.tuple #[]) ∧ PC w' G cb mb (lineF s x).1 (lineF s x).2 ∧ Kept w w' (Two cb mb) := by
  have P0 : Q w w G cb mb (fun _ => True) s x := Q.start h trivial (fun _ _ _ _ => trivial)
  obtain ⟨r0, hr0⟩ : ∃ r0, lineF s x = r0 := ⟨_, rfl⟩
  rw [hr0]
  unfold lineF at hr0
  have hw := P0.word
  obtain ⟨lo, hi⟩ := s.word_lt
  generalize s.word = p at *
  obtain ⟨sub, s1⟩ := p
  simp only at hr0 hw lo hi
  have HR : Aside0 _ := ⟨hr0⟩
  have hi2 : sub ≤ 65535 := by omega
  clear h P0 hr0 hi
  go_enter Tryz.func145, Tryz.ntmps145
  go_upto_region 1 with (first
    | (go_at_call 160; with_reducible refine hw.mono ?_; rintro e w1 ⟨rfl, P1⟩; have P2 := P1.put (P1.m.s8 sub); clear hw)
    | (refine wpList_plain rfl fun _ hK => wp_store_msg 27 (.tmp 11) (.tmp 9) rfl mb 8 (.int .u16 sub) rfl rfl rfl P1.m (by decide) (by kernel_rfl) (hK _ _ ?_)))
  clear P1
  generalize w1.setCell ⟨mb, 8, none⟩ (.int .u16 sub) = w2 at *
  simp only [p2]
  have c8 := P2.m.g8
  simp only at c8
  have hbc := fun W => bitsc_calls W sub
  generalize hz : decide (sub ∈ bitsL) = z at *
  have HZ : Aside0 _ := ⟨hz⟩
  clear hz
  go_cut [] (fun wx => Aside0 (Q w wx G cb mb (fun _ => True) (s1.need z 8) { x with f8 := sub }))
  case first =>
    cases z
    all_goals
      go_wp2_with (first
        | (go_at_call 184; with_reducible refine (hbc _).mono ?_; rintro e w3 ⟨rfl, k3⟩; have P3 := P2.keep0 k3; have hn := fun ok => P3.need ok 8)
        | (go_at_call 150; with_reducible refine (hn _).mono ?_; rintro e w4 ⟨rfl, P4⟩))
      go_meet
      exact ⟨P4⟩
  case rest =>
    have P3 := hcut.out
    clear hcut P2 c8 hbc
    generalize s1.need z 8 = s2 at *
    have c8 := P3.m.g8
    simp only at c8
    by_cases h0 : sub = 0
    · subst h0
      have hlf := P3.left
      go_upto_region 6 with (go_at_call 155; with_reducible refine hlf.mono ?_; rintro e w5 ⟨rfl, rfl⟩)
      generalize hn : s2.b.length = n at *
      have hn2 : n ≤ 100000 := by rw [← hn]; exact P3.pc.few
      have HN : Aside0 _ := ⟨hn⟩
      clear hn hlf c8
      go_cut [] (fun wx => Aside0 (Q w wx G cb mb (fun _ => True) (s2.need (decide ((n : Int) % 2 = 0) && decide (2 ≤ (n : Int)) && decide ((n : Int) ≤ 250)) 5) { x with f8 := 0 }))
      case first =>
        have hnd := fun ok => P3.need ok 5
        by_cases a1 : (n : Int) % 2 = 0
        · by_cases a2 : 2 ≤ (n : Int)
          · have HB : Aside0 ((decide ((n : Int) % 2 = 0) && decide (2 ≤ (n : Int)) && decide ((n : Int) ≤ 250)) = decide ((n : Int) ≤ 250)) := ⟨by simp [a1, a2]⟩
            go_wp2_with (go_at_call 150; with_reducible refine (hnd _).mono ?_; rintro e w6 ⟨rfl, P5⟩)
            all_goals
              go_meet
              exact ⟨by rw [HB.out]; exact P5⟩
          · have HB : Aside0 ((decide ((n : Int) % 2 = 0) && decide (2 ≤ (n : Int)) && decide ((n : Int) ≤ 250)) = false) := ⟨by simp [a2]⟩
            go_wp2_with (go_at_call 150; with_reducible refine (hnd _).mono ?_; rintro e w6 ⟨rfl, P5⟩)
            all_goals
              go_meet
              exact ⟨by rw [HB.out]; exact P5⟩
        · have HB : Aside0 ((decide ((n : Int) % 2 = 0) && decide (2 ≤ (n : Int)) && decide ((n : Int) ≤ 250)) = false) := ⟨by simp [a1]⟩
          go_wp2_with (go_at_call 150; with_reducible refine (hnd _).mono ?_; rintro e w6 ⟨rfl, P5⟩)
          all_goals
            go_meet
            exact ⟨by rw [HB.out]; exact P5⟩
      case rest =>
        have P5 := hcut.out
        clear hcut P3
        have hwd := P5.words ((n : Int) / 2)
        go_wp2_with (first
          | (go_at_call 176; with_reducible refine hwd.mono ?_; rintro e w7 ⟨A, c, rfl, hS, P6⟩; have P7 := P6.put (P6.m.s12 hS))
          | (refine wpList_plain rfl fun _ hK => wp_store_msg 30 (.tmp 83) (.tmp 81) rfl mb 12 (.slice A _ c) rfl rfl rfl P6.m (by decide) (by kernel_rfl) (hK _ _ ?_)))
        have FIN : Aside0 _ := ⟨P7⟩
        clear P6 P7 P5 hwd
        go_end0
        have hr := HR.out
        rw [if_pos True.intro] at hr
        rw [← hr]
        exact ⟨rfl, FIN.out.pc, FIN.out.k⟩
    · have hsb : (sub == 0) = false := by simpa using h0
      have hsn : (sub != 0) = true := by simpa using h0
      have hwd := P3.words 1
      obtain ⟨l, hl⟩ : ∃ l, (s2.words 1).1 = l := ⟨_, rfl⟩
      obtain ⟨s3, hs3⟩ : ∃ s3, (s2.words 1).2 = s3 := ⟨_, rfl⟩
      have hl1 := s2.words1
      rw [hl, hs3] at hwd
      rw [hl] at hl1
      have HL : Aside0 _ := ⟨And.intro hl hs3⟩
      clear hl hs3
      go_upto_region 4 with (first
        | (go_at_call 176; with_reducible refine hwd.mono ?_; rintro e w5 ⟨A, c, rfl, hS, P4⟩; have P5 := P4.put (P4.m.s12 hS))
        | (refine wpList_plain rfl fun _ hK => wp_store_msg 30 (.tmp 39) (.tmp 37) rfl mb 12 (.slice A l.length c) rfl rfl rfl P4.m (by decide) (by kernel_rfl) (hK _ _ ?_)))
      simp only [p2]
      clear P4 P3 c8 hwd
      generalize w5.setCell ⟨mb, 12, none⟩ (.slice A l.length c) = W at *
      clear hS
      have P6 := P5.drew
      clear P5
      obtain ⟨A, c, c12, hC⟩ := P6.m.l12
      have c8 := P6.m.g8
      simp only at c8 c12 hC
      rcases hl1 with rfl | ⟨y, rfl⟩
      · have SS : W.drew.cell? ⟨mb, 12, none⟩ = some (.slice A 0 c) ∧ W.drew.cell? ⟨mb, 8, none⟩ = some (.int .u16 sub) := ⟨c12, c8⟩
        clear c12 c8 hC
        refine st 22 (fun w' => w'.cell? ⟨mb, 12, none⟩ = some (.slice A 0 c) ∧ w'.cell? ⟨mb, 8, none⟩ = some (.int .u16 sub)) [21] SS ?_
        refine pu 0 (some 40) (mk 22 1) ?_
        refine pu 1 (some 41) (mk 22 3) ?_
        refine pu 2 (some 42) (mk 22 7) ?_
        refine pu 3 (some 43) (mk 22 15) ?_
        refine ld 4 (some 44) (mk 22 31) SS ?_
        refine pu 5 (some 45) (mk 22 63) ?_
        refine pu 6 (some 46) (mk 22 127) ?_
        refine pu 7 (some 47) (mk 22 255) ?_
        refine pu 8 (some 48) (mk 22 511) ?_ (v := undef) (hy := Or.inr ⟨by rfl, rfl⟩)
        refine pu 9 (some 49) (mk 22 1023) ?_ (v := undef) (hy := Or.inr ⟨by rfl, rfl⟩)
        refine pu 10 (some 50) (mk 22 2047) ?_ (v := undef) (hy := Or.inr ⟨by rfl, rfl⟩)
        refine pu 11 (some 51) (mk 22 4095) ?_ (v := undef) (hy := Or.inr ⟨by rfl, rfl⟩)
        refine pu 12 (some 52) (mk 22 8191) ?_ (v := undef) (hy := Or.inr ⟨by rfl, rfl⟩)
        refine pu 13 (some 53) (mk 22 16383) ?_ (v := undef) (hy := Or.inr ⟨by rfl, rfl⟩)
        refine pu 14 (some 54) (mk 22 32767) ?_ (v := undef) (hy := Or.inr ⟨by rfl, rfl⟩)
        refine pu 15 (some 55) (mk 22 65535) ?_ (v := undef) (hy := Or.inr ⟨by rfl, rfl⟩)
        refine pu 16 (some 56) (mk 22 131071) ?_ (v := undef) (hy := Or.inr ⟨by rfl, rfl⟩)
        refine pu 17 (some 57) (mk 22 262143) ?_ (v := undef) (hy := Or.inr ⟨by rfl, rfl⟩)
        refine pu 18 (some 58) (mk 22 524287) ?_ (v := undef) (hy := Or.inr ⟨by rfl, rfl⟩)
        refine sk 19 (some 59) (mk 22 1048575) SS ?_
        refine pu 20 (some 60) (mk 22 2097151) ?_
        refine cll 21 (some 61) (mk 22 4194303) Tryz.func150 (args := #[(.pointer (some ⟨cb, 0, none⟩)), .bool false, .int .i64 6]) (P6.need false 6) ?_
        rintro e w7 ⟨rfl, P8⟩
        refine ⟨_, rfl, nm ?_⟩
        refine done_ (by kernel_rfl) ?_
        have FIN : Aside0 _ := ⟨P8⟩
        clear P6 P8 SS
        go_wp2
        (try simp only [Exit.inBlock, Exit.then])
        refine bodyPost_ret (results_none rfl _ _ _) rfl ?_
        have hr := HR.out
        rw [if_neg h0, HL.out.1, HL.out.2] at hr
        rw [← hr]
        exact ⟨rfl, FIN.out.pc, FIN.out.k⟩
      · have hR : Wo W.drew (.slice A 1 c) [y] := ⟨A, c, rfl, (hC W.drew (Kept.refl _ _)).1, (hC W.drew (Kept.refl _ _)).2⟩
        obtain ⟨ad, rfl, -, ca⟩ := hR.at_ (i := 0) (by simp)
        have ca0 : W.drew.cell? ad = some (.int .u16 y) := by simpa [Addr.add] using ca
        have SS : W.drew.cell? ⟨mb, 12, none⟩ = some (.slice (some ad) 1 c) ∧ W.drew.cell? ⟨mb, 8, none⟩ = some (.int .u16 sub) ∧ W.drew.cell? ad = some (.int .u16 y) := ⟨c12, c8, ca0⟩
        clear c12 c8 hC hR ca ca0
        refine st 22 (fun w' => w'.cell? ⟨mb, 12, none⟩ = some (.slice (some ad) 1 c) ∧ w'.cell? ⟨mb, 8, none⟩ = some (.int .u16 sub) ∧ w'.cell? ad = some (.int .u16 y)) [21] SS ?_
        refine pu 0 (some 40) (mk 22 1) ?_
        refine pu 1 (some 41) (mk 22 3) ?_
        refine pu 2 (some 42) (mk 22 7) ?_
        refine pu 3 (some 43) (mk 22 15) ?_
        refine ld 4 (some 44) (mk 22 31) SS ?_
        refine pu 5 (some 45) (mk 22 63) ?_
        refine pu 6 (some 46) (mk 22 127) ?_
        refine pu 7 (some 47) (mk 22 255) ?_
        refine pu 8 (some 48) (mk 22 511) ?_
        refine pu 9 (some 49) (mk 22 1023) ?_
        refine pu 10 (some 50) (mk 22 2047) ?_
        refine pu 11 (some 51) (mk 22 4095) ?_
        refine ld 12 (some 52) (mk 22 8191) SS ?_
        refine pu 13 (some 53) (mk 22 16383) ?_
        refine pu 14 (some 54) (mk 22 32767) ?_
        refine pu 15 (some 55) (mk 22 65535) ?_
        refine ld 16 (some 56) (mk 22 131071) SS ?_
        refine pu 17 (some 57) (mk 22 262143) ?_
        refine ld 18 (some 58) (mk 22 524287) SS ?_
        refine cl 19 (some 59) (mk 22 1048575) Tryz.func185 (args := #[.int .i64 0, .int .u16 sub, .int .u16 y]) (may_calls _ sub y) ?_
        rintro e w6 ⟨rfl, k6⟩
        have P7 := P6.keep0 k6
        refine ⟨_, rfl, ⟨k6.cell SS.1, k6.cell SS.2.1, k6.cell SS.2.2⟩, nm ?_⟩
        refine pu 20 (some 60) (mk 22 2097151) ?_
        refine cll 21 (some 61) (mk 22 4194303) Tryz.func150 (args := #[(.pointer (some ⟨cb, 0, none⟩)), .bool (mayB sub y), .int .i64 6]) (P7.need (mayB sub y) 6) ?_
        rintro e w7 ⟨rfl, P8⟩
        refine ⟨_, rfl, nm ?_⟩
        refine done_ (by kernel_rfl) ?_
        have FIN : Aside0 _ := ⟨P8⟩
        clear P6 P7 P8 SS k6
        go_wp2
        (try simp only [Exit.inBlock, Exit.then])
        refine bodyPost_ret (results_none rfl _ _ _) rfl ?_
        have hr := HR.out
        rw [if_neg h0, HL.out.1, HL.out.2] at hr
        rw [← hr]
        exact ⟨rfl, FIN.out.pc, FIN.out.k⟩
def diagP (c : Int) (l : List Int) : S35 × Int := if c = 8 then fin (lineF ⟨l, false, 0⟩ { z35 with f0 := c }).1 (lineF ⟨l, false, 0⟩ { z35 with f0 := c }).2 else fin ⟨l, false, 0⟩ { z35 with f0 := c }
set_option maxHeartbeats 4000000 in
set_option maxRecDepth 1000000 in
theorem diagP_calls (c : Int) (l : List Int) (hc : c = 7 ∨ c = 8 ∨ c = 11 ∨ c = 12 ∨ c = 17) : Parses 125 c l (diagP c l) := by
  intro w v h hl
  have hz := zero35
  have f6 := heap_alloc_new w (.cells (cs35 0).toArray 35)
  have q6 := Kept.alloc w (.cells (cs35 0).toArray 35) (fun _ => False)
  have hB1 := h.keep q6
  clear h
  go_enter Tryz.func125, Tryz.ntmps125
  go_upto_region 3 with fail
  have HR : Aside0 (∀ b, b = w.heap.size → b < (w.alloc (.cells (cs35 0).toArray 35)).heap.size) := ⟨fun b h => by simp [h]⟩
  generalize (w.alloc (.cells (cs35 0).toArray 35)) = w1 at *
  generalize hrb : w.heap.size = rb at *
  have HRB : Aside0 _ := ⟨hrb⟩
  clear hrb
  have f8 := setRow_heap (w1.alloc (.cells (cs35 0).toArray 35)) w1.heap.size (cs35 0).toArray (cs35 c).toArray 35 _ (heap_alloc_new _ _)
  have q8 : Kept w1 ((w1.alloc (.cells (cs35 0).toArray 35)).setRow w1.heap.size (cs35 c).toArray) (fun _ => False) := (Kept.alloc w1 _ (fun _ => False)).trans (Kept.setRow _ w1.heap.size _ (F := fun b => b = w1.heap.size) rfl) (fun _ _ h => h) (fun k hk h => by omega)
  go_upto_region 4 with (first
    | (refine wpList_buildTo rfl 35 _ rfl (some 19) rfl (cs35 c).toArray ?_ ?_; (simp only [List.map_toArray, List.map_cons, List.map_nil]; exact built35 c))
    | (refine wpList_store_row rfl 35 (.tmp 8) (.tmp 19) rfl w1.heap.size (cs35 c).toArray rfl rfl 35 (cs35 0).toArray (heap_alloc_new _ _) (sizeM _ rfl) rfl (by kernel_rfl) ?_))
  have HM : Aside0 (∀ b, b = w1.heap.size → b < ((w1.alloc (.cells (cs35 0).toArray 35)).setRow w1.heap.size (cs35 c).toArray).heap.size) := ⟨fun b h => by simp [h]⟩
  have hB2 := hB1.keep q8
  have g1 := f6
  have g6 := q8.heap f6 (fun h => h)
  have K2 := q6.trans q8 (fun _ _ h => h) (fun _ _ h => h)
  generalize ((w1.alloc (.cells (cs35 0).toArray 35)).setRow w1.heap.size (cs35 c).toArray) = w2 at *
  generalize hmb : w1.heap.size = mb at *
  have HMB : Aside0 _ := ⟨hmb⟩
  clear hmb
  clear hB1 q6 q8 f6
  have hnc := new_cur w2 v l hB2 hl
  go_upto_region 5 with (go_at_call 133; with_reducible refine hnc.mono ?_; rintro e w3 ⟨cb, rfl, hcb, hC, k3⟩)
  have hrm : rb < mb := by have := heap_lt g1; have := HMB.out; omega
  have hwm : w.heap.size ≤ mb := by have := HRB.out; omega
  have hwc : w.heap.size ≤ cb := by have := HM.out mb rfl; omega
  have PM := start_pc (rb := rb) (HM.out mb rfl) (Nat.lt_trans hrm (HM.out mb rfl)) hcb hl f8 hC k3
  have hrc : ¬ rb = cb := by have := HM.out mb rfl; omega
  have hR2 : ¬ Two cb mb rb := fun h => by rcases h with h | h; exact hrc h; omega
  have HRB2 := HRB.out
  have P3 : Q w3 w3 (fun b => b = cb ∨ b = mb ∨ b ≤ rb) cb mb (fun w' => w'.heap[rb]? = some (.cells (cs35 0).toArray 35 (0, 0))) ⟨l, false, 0⟩ { z35 with f0 := c } := Q.start PM (k3.heap g6 (fun h => h)) (fun _ _ h k => k.heap h hR2)
  have K3 := K2.trans k3 (H := fun _ => False) (fun _ _ h => h) (fun _ _ h => h)
  have KB : Aside0 (∀ W, Kept w3 W (fun b => b = cb ∨ b = mb ∨ b = rb) → Kept w W (fun _ => False)) := ⟨fun W k => K3.trans k (H := fun _ => False) (fun _ _ h => h) (fun b hb e => by rcases e with e | e | e <;> omega)⟩
  clear PM K2 K3 k3 g6 g1 hC hnc f8 HRB HMB HM hB2 HR
  by_cases h8 : c = 8
  · subst h8
    have hln := line_calls w3 _ cb mb _ _ P3.pc
    clear hc
    go_upto_region 15 with (go_at_call 145; with_reducible refine hln.mono ?_; rintro e w5 ⟨rfl, p5, k5⟩)
    have P5 := P3.to p5 k5
    have hR : diagP 8 l = fin (lineF ⟨l, false, 0⟩ { z35 with f0 := 8 }).1 (lineF ⟨l, false, 0⟩ { z35 with f0 := 8 }).2 := rfl
    generalize lineF ⟨l, false, 0⟩ { z35 with f0 := 8 } = q at *
    obtain ⟨s, x⟩ := q
    replace hR : diagP 8 l = fin s x := hR
    have HE : Aside0 _ := ⟨hR⟩
    clear hln p5 k5 hR P3
    simp only at P5
    have hend := P5.end_
    go_upto_region 16 with (go_at_call 139; with_reducible refine hend.mono ?_; rintro e wy ⟨rfl, PY⟩)
    clear hend P5
    have herr := PY.pc.err
    go_upto_region 17 with (go_at_call 140; with_reducible refine herr.mono ?_; rintro e wz ⟨rfl, rfl⟩)
    clear herr
    obtain ⟨cs, hcs, hK⟩ := PY.m.out
    have hlen : cs.toArray.size = 22 := by rw [List.size_toArray, k35.K_len (hK wz (Kept.refl _ _))]; exact sz35
    have hone := all_oneCell_toArray (k35.K_one (hK wz (Kept.refl _ _)))
    have grb := PY.e
    have R1 : Kept wz (wz.setRow rb cs.toArray) (fun b => b = rb) := Kept.setRow wz rb _ rfl
    have R2 : Kept wz (wz.setRow rb (cs35 0).toArray) (fun b => b = rb) := Kept.setRow wz rb _ rfl
    have KF : ∀ W, Kept wz W (fun b => b = rb) → Kept w W (fun _ => False) := fun W q => KB.out W (PY.k.trans q (fun _ _ h => h.elim .inl fun h => .inr (.inl h)) (fun _ _ h => .inr (.inr h)))
    have hs0 : (cs35 0).toArray.size = cs.toArray.size := by rw [hlen]; rfl
    generalize hS : (s).end_ = sz at *
    by_cases he : sz.e = 0
    · have hP : fin (s) (x) = ((x), 0) := by rw [fin, hS, if_pos he]
      have FIN : Aside0 _ := ⟨And.intro hP (And.intro (fun W (q : Kept _ W (fun b => b < w.heap.size)) => hK W (R1.trans q (fun b _ e => .inr (.inr (Nat.le_of_eq e))) (fun b _ h => .inr (.inr (by omega))))) (KF _ R1))⟩
      clear PY hK R1 R2 KF hP hS
      go_wp2_with (first
        | (refine wpList_load_row rfl 35 (.tmp 8) rfl mb rfl 35 cs.toArray (0, 0) _ hcs Tryz.underlying35 rfl (sizeM _ hlen) ?_)
        | (refine wpList_store_row rfl 35 (.tmp 6) (.tmp 46) rfl rb cs.toArray rfl rfl 35 (cs35 0).toArray grb (sizeM _ hlen) hs0 hone ?_))
      (try simp only [Exit.inBlock, Exit.then])
      refine bodyPost_ret (results_ct (p := 6) (u := 7) (ty := 35) Tryz.results125 _ _ rb 35 cs.toArray (0, 0) _ rfl (setRow_heap _ _ _ _ 35 _ grb) Tryz.underlying35 rfl (sizeM _ hlen)) rfl ?_
      rw [HE.out, FIN.out.1]
      exact ⟨cs, rfl, FIN.out.2⟩
    · have hP : fin (s) (x) = (z35, sz.e) := by rw [fin, hS, if_neg he]
      have heb : (sz.e != 0) = true := by simpa using he
      have FIN : Aside0 _ := ⟨And.intro hP (KF _ R2)⟩
      clear PY hK R1 R2 KF hP hS
      go_wp2_with (first
        | (refine wpList_buildTo rfl 35 _ rfl (some 44) rfl (cs35 0).toArray ?_ ?_; (simp only [List.map_toArray, List.map_nil]; exact built35z))
        | (refine wpList_store_row rfl 35 (.tmp 6) (.tmp 44) rfl rb (cs35 0).toArray rfl rfl 35 (cs35 0).toArray grb (sizeM _ rfl) rfl (all_cs35 0) ?_))
      (try simp only [Exit.inBlock, Exit.then])
      refine bodyPost_ret (results_ct (p := 6) (u := 7) (ty := 35) Tryz.results125 _ _ rb 35 (cs35 0).toArray (0, 0) _ rfl (setRow_heap _ _ _ _ 35 _ grb) Tryz.underlying35 rfl (sizeM _ rfl)) rfl ?_
      rw [HE.out, FIN.out.1]
      exact ⟨cs35 0, rfl, fun W _ => cs35_K 0 W, FIN.out.2⟩
  · have hR : diagP c l = fin ⟨l, false, 0⟩ { z35 with f0 := c } := by rw [diagP, if_neg h8]
    generalize hx : ({ z35 with f0 := c } : S35) = x at *
    clear hx
    have HE : Aside0 _ := ⟨hR⟩
    clear hR
    rcases hc with rfl | rfl | rfl | rfl | rfl
    case inr.inl => exact absurd rfl h8
    all_goals
      clear h8
      go_upto_region 15 with fail
      have hend := P3.end_
      go_upto_region 16 with (go_at_call 139; with_reducible refine hend.mono ?_; rintro e wy ⟨rfl, PY⟩)
      clear hend P3
      have herr := PY.pc.err
      go_upto_region 17 with (go_at_call 140; with_reducible refine herr.mono ?_; rintro e wz ⟨rfl, rfl⟩)
      clear herr
      obtain ⟨cs, hcs, hK⟩ := PY.m.out
      have hlen : cs.toArray.size = 22 := by rw [List.size_toArray, k35.K_len (hK wz (Kept.refl _ _))]; exact sz35
      have hone := all_oneCell_toArray (k35.K_one (hK wz (Kept.refl _ _)))
      have grb := PY.e
      have R1 : Kept wz (wz.setRow rb cs.toArray) (fun b => b = rb) := Kept.setRow wz rb _ rfl
      have R2 : Kept wz (wz.setRow rb (cs35 0).toArray) (fun b => b = rb) := Kept.setRow wz rb _ rfl
      have KF : ∀ W, Kept wz W (fun b => b = rb) → Kept w W (fun _ => False) := fun W q => KB.out W (PY.k.trans q (fun _ _ h => h.elim .inl fun h => .inr (.inl h)) (fun _ _ h => .inr (.inr h)))
      have hs0 : (cs35 0).toArray.size = cs.toArray.size := by rw [hlen]; rfl
      generalize hS : (⟨l, false, 0⟩ : St).end_ = sz at *
      by_cases he : sz.e = 0
      · have hP : fin (⟨l, false, 0⟩ : St) (x) = ((x), 0) := by rw [fin, hS, if_pos he]
        have FIN : Aside0 _ := ⟨And.intro hP (And.intro (fun W (q : Kept _ W (fun b => b < w.heap.size)) => hK W (R1.trans q (fun b _ e => .inr (.inr (Nat.le_of_eq e))) (fun b _ h => .inr (.inr (by omega))))) (KF _ R1))⟩
        clear PY hK R1 R2 KF hP hS
        go_wp2_with (first
          | (refine wpList_load_row rfl 35 (.tmp 8) rfl mb rfl 35 cs.toArray (0, 0) _ hcs Tryz.underlying35 rfl (sizeM _ hlen) ?_)
          | (refine wpList_store_row rfl 35 (.tmp 6) (.tmp 46) rfl rb cs.toArray rfl rfl 35 (cs35 0).toArray grb (sizeM _ hlen) hs0 hone ?_))
        (try simp only [Exit.inBlock, Exit.then])
        refine bodyPost_ret (results_ct (p := 6) (u := 7) (ty := 35) Tryz.results125 _ _ rb 35 cs.toArray (0, 0) _ rfl (setRow_heap _ _ _ _ 35 _ grb) Tryz.underlying35 rfl (sizeM _ hlen)) rfl ?_
        rw [HE.out, FIN.out.1]
        exact ⟨cs, rfl, FIN.out.2⟩
      · have hP : fin (⟨l, false, 0⟩ : St) (x) = (z35, sz.e) := by rw [fin, hS, if_neg he]
        have heb : (sz.e != 0) = true := by simpa using he
        have FIN : Aside0 _ := ⟨And.intro hP (KF _ R2)⟩
        clear PY hK R1 R2 KF hP hS
        go_wp2_with (first
          | (refine wpList_buildTo rfl 35 _ rfl (some 44) rfl (cs35 0).toArray ?_ ?_; (simp only [List.map_toArray, List.map_nil]; exact built35z))
          | (refine wpList_store_row rfl 35 (.tmp 6) (.tmp 44) rfl rb (cs35 0).toArray rfl rfl 35 (cs35 0).toArray grb (sizeM _ rfl) rfl (all_cs35 0) ?_))
        (try simp only [Exit.inBlock, Exit.then])
        refine bodyPost_ret (results_ct (p := 6) (u := 7) (ty := 35) Tryz.results125 _ _ rb 35 (cs35 0).toArray (0, 0) _ rfl (setRow_heap _ _ _ _ 35 _ grb) Tryz.underlying35 rfl (sizeM _ rfl)) rfl ?_
        rw [HE.out, FIN.out.1]
        exact ⟨cs35 0, rfl, fun W _ => cs35_K 0 W, FIN.out.2⟩
set_option maxHeartbeats 1000000 in
set_option maxRecDepth 1000000 in
theorem diagLay_calls (x : S35) (h12 : x.f12.length ≤ 10000) : Laid 147 x Oct := by
  intro w cs hK
  have M := MsgAt.box hK
  have K1 := Kept.alloc w (.cells cs.toArray 35) (fun _ => False)
  have hs := cons35 hK
  have c0 := M.g0
  obtain ⟨A, c, c12, hL⟩ := M.l12
  have hWo : Wo (w.alloc (.cells cs.toArray 35)) (.slice A x.f12.length c) x.f12 := ⟨A, c, rfl, hL _ (Kept.refl _ _)⟩
  have c8 := M.g8
  clear hL M hK
  go_enter Tryz.func147, Tryz.ntmps147
  by_cases h8 : x.f0 = 8
  · rw [h8] at c0
    go_upto_region 2 with fail
    generalize w.alloc (.cells cs.toArray 35) = w1 at *
    generalize w.heap.size = mb at *
    generalize hk : x.f12.length = k at *
    have SS : w1.drew.cell? ⟨mb, 8, none⟩ = some (.int .u16 x.f8) ∧ w1.drew.cell? ⟨mb, 12, none⟩ = some (.slice A k c) := ⟨c8, c12⟩
    have hWd := hWo.keep (Kept.drew w1 _)
    clear c0 c8 c12 hWo h8
    refine st 9 (fun w' => w'.cell? ⟨mb, 8, none⟩ = some (.int .u16 x.f8) ∧ w'.cell? ⟨mb, 12, none⟩ = some (.slice A k c)) [7] SS ?_
    refine pu 0 (some 10) (mk 9 1) ?_
    refine ld 1 (some 11) (mk 9 3) SS ?_
    refine pu 4 (some 14) (mk 9 19) ?_
    refine ld 5 (some 15) (mk 9 51) SS ?_
    refine on 2 (some 12) (mk 9 55) fun K hK => ?_
    refine wp_lit1 30 (.tmp 11) rfl _ rfl _ _ (lit_w _ _) ?_
    have q1 := Kept.alloc w1.drew (.cells #[.int .u16 x.f8] 27) (fun _ => False)
    have SS2 := And.intro (q1.cell SS.1) (q1.cell SS.2)
    refine hK _ _ (SS2) (nm ?_)
    clear hK K
    refine cl 3 (some 13) (mk 9 63) Tryz.func163 (args := #[.slice (some ⟨w1.drew.heap.size, 0, none⟩) 1 1]) (wput_calls _ _ [x.f8] (one_rd .u16 w1.drew x.f8 27) (by simp)) ?_
    rintro e w2 ⟨u, rfl, hO⟩
    have SS3 := And.intro (hO.kept.cell SS2.1) (hO.kept.cell SS2.2)
    have hW2 := (hWd.keep q1).keep hO.kept
    refine ⟨_, rfl, SS3, nm ?_⟩
    refine cl 6 (some 16) (mk 9 127) Tryz.func163 (args := #[.slice A k c]) (wput_calls _ _ x.f12 hW2 (by omega)) ?_
    rintro e w3 ⟨u2, rfl, hO2⟩
    have SS4 := And.intro (hO2.kept.cell SS3.1) (hO2.kept.cell SS3.2)
    obtain ⟨v5, w5, ha5, hO5, k5⟩ := OB.app (hO.keep hO2.kept) 23 (hO2.rd (by rw [wPut_len, hk]; omega)) (by rw [wPut_len, wPut_len, hk]; simp; omega)
    refine ⟨_, rfl, SS4, nm ?_⟩
    refine la 7 (some 17) (mk 9 255) fun K hK => ?_
    refine wp_append (.tmp 13) (.tmp 16) 23 23 rfl _ _ rfl rfl v5 w5 ha5 ?_
    refine hK _ _ (nm ?_)
    clear hK K
    refine pu 8 (some 4) (mk 9 511) ?_
    refine done_ (by kernel_rfl) ?_
    have FIN : Aside0 _ := ⟨Ow.base ((K1.trans (Kept.drew w1 (fun _ => False)) (fun _ _ h => h) (fun _ _ h => h)).trans q1 (H := fun _ => False) (fun _ _ h => h) (fun _ _ h => h)) hO5⟩
    have HK : Aside0 _ := ⟨And.intro hk h12⟩
    clear SS SS2 SS3 SS4 hO hO2 hO5 k5 q1 hWd hW2 hk
    go_wp2
    go_ret
    exact ⟨_, _, rfl, FIN.out, (wPut_oct _).app (wPut_oct _), by have := HK.out; simp [wPut_len]; omega⟩
  · have hb : (x.f0 == 8) = false := by simpa using h8
    clear hWo
    go_wp2
    go_ret
    exact ⟨_, _, rfl, Ow.nil K1, (fun a ha => by cases ha), by simp⟩
end Go.Proofs.YtmbjlondehcheaaGreatDoor
end
