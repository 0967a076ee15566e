/- TopTalk: part 28 of the walks: of HMain, HCat. -/
import Derived.Test.YtmbjlondehcheaaGreatDoorM27
import Derived.Lib.AppendZeros
section
set_option linter.unusedSimpArgs false
set_option linter.unusedVariables false
namespace Go.Proofs.YtmbjlondehcheaaGreatDoor
open Go.Shelf Go.RowKit Go.Lib Go.Sort Go.Proofs.YtmbjlondehcheaaGreatDoorW.PrintWords Go.Proofs.YtmbjlondehcheaaGreatDoorW.PrintLast Go.Proofs.YtmbjlondehcheaaGreatDoor.PTopTalk
theorem built45 (v : Value) (τ : Bool) (h : v.oneCell' = true := by rfl) : Tryz.prog.built 45 [(0, v), (1, .bool τ)] = some #[v, .bool τ] := by
  cases v <;> first | (cases h; done) | kernel_rfl
set_option maxHeartbeats 8000000 in
set_option maxRecDepth 1000000 in
theorem talk_calls {k : Int} {ty T : Nat} {cs : Int → Array Value} {B : Int → Int → List Int → List Int} {ok : Int → Int → Prop} (H : Fram k ty T cs B ok) (hok : ∀ u t : Int, 0 < u → u < 256 → 0 ≤ t ∧ t < 65536 → ok u (if k = 2 then t else 0))
    (haw : ∀ w : World, Calls Tryz.prog 4 #[] w fun r w' => r = .returned (.bool true) ∧ Kept w w' (fun _ => False))
    (a0 : Int) (ha0 : 0 ≤ a0 ∧ a0 < 256) (hk : a0.tmod 3 = k) (w : World) (A1 : Option Addr) (c1 : Nat) (l : List S37) (A2 : Option Addr) (c2 : Nat) (b : List Int) (hl : Kd.C k37 w A1 l.length l) (hb : By w (.slice A2 b.length c2) b) (hbO : Oct b)
    (hwf : ∀ i (h : i < l.length), (0 ≤ l[i].f0.f0 ∧ l[i].f0.f0 < 256) ∧ (0 ≤ l[i].f0.f1 ∧ l[i].f0.f1 < 65536) ∧ WfM l[i].f1) :
    Calls Tryz.prog 3 #[.int .u8 a0, .slice A1 l.length c1, .slice A2 b.length c2] w fun r w' => r = .returned (.bool true) ∧ Kept w w' (fun _ => False) := by
  have hn := fun W => inspNew H.is (fun dir hd w => H.new dir hd w) W
  have ha := haw w
  have hk3 : 0 ≤ k ∧ k < 3 := by rcases H.is with h | h | h <;> omega
  have hlb := hl.2.1
  obtain ⟨nl, hnl⟩ : ∃ n, l.length = n := ⟨_, rfl⟩
  obtain ⟨nb, hnb⟩ : ∃ n, b.length = n := ⟨_, rfl⟩
  have HA : Aside0 _ := ⟨And.intro hl (And.intro hb (And.intro hbO (And.intro hwf (And.intro hnl hnb))))⟩
  have HH : Aside0 _ := ⟨And.intro H (And.intro hok haw)⟩
  rw [hnl] at hlb ⊢
  rw [hnb]
  clear hl hb hbO hwf hnl hnb H hok haw
  go_enter Tryz.func3, Tryz.ntmps3
  go_upto_region 2 with (first
    | (go_at_call 4; with_reducible refine ha.mono ?_; rintro e w1 ⟨rfl, k1⟩; clear ha))
  have K1 : Aside0 _ := ⟨k1⟩
  clear k1
  by_cases hbig : (20 : Int) < (nl : Int)
  · go_wp2
    go_ret
    exact ⟨rfl, K1.out⟩
  by_cases hsh : (nb : Int) < (nl : Int)
  · go_wp2
    go_ret
    exact ⟨rfl, K1.out⟩
  go_upto_region 6 with (first
    | (go_at_call 5; with_reducible refine (hn _).mono ?_; rintro e w2 ⟨ib, s0, b0, s1, b1, pb, F, rfl, hI, g1, g2, g3, g4, k2⟩; clear hn))
  obtain ⟨net, hnet⟩ : ∃ net : Bool, decide (k = 2) = net := ⟨_, rfl⟩
  rw [hnet] at hI
  have TA : Aside0 (TalkAt ty T cs net w w2 ib s0 b0 s1 b1 pb 0) := ⟨⟨⟨F, 0, 0, hI, Nat.le_refl _, Nat.le_refl _, fun b hb => Nat.le_trans K1.out.size (g4 b hb)⟩, ⟨Nat.le_trans K1.out.size g1, Nat.le_trans K1.out.size g2, Nat.le_trans K1.out.size g3⟩, K1.out.trans k2 (fun _ _ h => h) (fun _ _ h => h)⟩⟩
  clear hI g1 g2 g3 g4 k2 hnet
  go_wp2
  go_loopg [10] nl (fun kx s10 wr => ∃ i : Nat, s10 = .int .i64 (i : Int) ∧ i ≤ nl ∧ nl - i ≤ kx ∧ Aside0 (TalkAt ty T cs net w wr ib s0 b0 s1 b1 pb i))
  case atStart => exact ⟨0, rfl, Nat.zero_le _, Nat.le_refl _, TA⟩
  case round =>
    clear TA
    obtain ⟨i, rfl, hi, hkx, D⟩ := hrel
    by_cases hlt : i < nl
    · have hiz : (i : Int) < (nl : Int) := by omega
      have hin : i < l.length := by rw [HA.out.2.2.2.2.1]; exact hlt
      obtain ⟨ad, ms, rfl, hms, hrow⟩ := at_frm HA.out.1 hin
      obtain ⟨hw0, hw1, hwm⟩ := HA.out.2.2.2.1 i hin
      obtain ⟨x, hx⟩ : ∃ x, (l[i]).f1 = x := ⟨_, rfl⟩
      generalize (l[i]).f0.f0 = u0 at *
      generalize (l[i]).f0.f1 = t0 at *
      rw [hx] at hms hwm
      have KR := D.out.kept
      have HMS : Aside0 (k35.K w x ms) := ⟨hms⟩
      replace hms := k35.K_below KR.toBelow hms
      obtain ⟨X0, hX0⟩ : ∃ X, fr u0 t0 ms = X := ⟨_, rfl⟩
      have hds := cons35 hms
      have hone := all_oneCell_toArray (k35.K_one hms)
      have szM : (Tryz.prog.info? 35).map (·.size) = some ms.length := by rw [k35.K_len hms]; kernel_rfl
      have sz37 : (Tryz.prog.info? 37).map (·.size) = some X0.length := by rw [← hX0]; have := sizeF hds u0 t0; simpa using this
      have sz37' : (Tryz.prog.info? 37).map (·.size) = some X0.toArray.size := by rw [List.size_toArray]; exact sz37
      have hl37 : (#[.int .u8 0, .int .u16 0, .int .u8 0, .int .u8 0, .int .u16 0, .int .u16 0, .int .u16 0, .int .u16 0, .int .u16 0, .int .u16 0, .int .u16 0, .int .u16 0, .int .u16 0, .int .u16 0, .slice none 0 0, .slice none 0 0, .slice none 0 0, .slice none 0 0, .int .u8 0, .int .u8 0, .int .u8 0, .int .u8 0, .int .u8 0, .slice none 0 0] : Array Value).size = X0.toArray.size := by rw [← hX0]; simp at hds; simp [hds]
      have on37 : X0.toArray.all (·.oneCell') = true := by rw [← hX0]; exact oneFr hone u0 t0
      rw [hX0] at hrow
      replace hrow : ∀ j v, X0[j]? = some v → wr.cell? ((ad.add (i * 24)).add j) = some v := fun j v hv => KR.cell (hrow j v hv)
      have N1 := new_row wr #[.int .u8 0, .int .u16 0, .int .u8 0, .int .u8 0, .int .u16 0, .int .u16 0, .int .u16 0, .int .u16 0, .int .u16 0, .int .u16 0, .int .u16 0, .int .u16 0, .int .u16 0, .int .u16 0, .slice none 0 0, .slice none 0 0, .slice none 0 0, .slice none 0 0, .int .u8 0, .int .u8 0, .int .u8 0, .int .u8 0, .int .u8 0, .slice none 0 0] X0.toArray 37
      have HX0 : Aside0 _ := ⟨And.intro hX0 (And.intro hx hwm)⟩
      have HKR : Aside0 _ := ⟨KR⟩
      clear hX0 hx hwm KR
      go_upto_region 12 with (first
        | (refine wpList_load_addr rfl 37 (.tmp 48) rfl (ad.add (i * 24)) rfl X0 _ hrow Tryz.underlying37 rfl sz37 ?_)
        | (refine wpList_store_row rfl 37 (.tmp 11) (.tmp 49) rfl wr.heap.size X0.toArray rfl rfl 37 #[.int .u8 0, .int .u16 0, .int .u8 0, .int .u8 0, .int .u16 0, .int .u16 0, .int .u16 0, .int .u16 0, .int .u16 0, .int .u16 0, .int .u16 0, .int .u16 0, .int .u16 0, .int .u16 0, .slice none 0 0, .slice none 0 0, .slice none 0 0, .slice none 0 0, .int .u8 0, .int .u8 0, .int .u8 0, .int .u8 0, .int .u8 0, .slice none 0 0] (heap_alloc_new _ _) sz37' hl37 on37 ?_))
      obtain ⟨f1, q1⟩ := N1
      generalize (wr.alloc (.cells #[.int .u8 0, .int .u16 0, .int .u8 0, .int .u8 0, .int .u16 0, .int .u16 0, .int .u16 0, .int .u16 0, .int .u16 0, .int .u16 0, .int .u16 0, .int .u16 0, .int .u16 0, .int .u16 0, .slice none 0 0, .slice none 0 0, .slice none 0 0, .slice none 0 0, .int .u8 0, .int .u8 0, .int .u8 0, .int .u8 0, .int .u8 0, .slice none 0 0] 37)).setRow wr.heap.size X0.toArray = w3 at *
      obtain ⟨va, hva⟩ : ∃ va, wr.heap.size = va := ⟨_, rfl⟩
      rw [hva] at f1 ⊢
      rw [← HX0.out.1] at f1
      have HVA : Aside0 _ := ⟨hva⟩
      have rm : w3.rangeAt va 2 ms := fun j y hy => by rw [cell_of_row w3 va (2 + j) _ 37 (0, 0) f1, Nat.add_comm]; simpa using hy
      have hfew := few_calls w3 x ms (k35.K_below q1.toBelow hms)
      clear hms hrow sz37 sz37' hl37 on37 hva
      go_upto_region 13 with (first
        | (refine wpList_load_mid rfl 35 (.tmp 50) rfl va 2 rfl ms _ rm Tryz.underlying35 rfl szM ?_)
        | (go_at_call 6; with_reducible refine hfew.mono ?_; rintro e w4 ⟨hres, k4⟩; obtain ⟨bb, rfl, hbb⟩ := few_res hres; clear hfew hres))
      have q4 := q1.trans k4 (H := fun _ => False) (fun _ _ h => h) (fun _ _ h => h)
      replace f1 := k4.heap f1 (fun h => h)
      have KR4 : Aside0 (Kept w w4 (fun _ => False)) := ⟨HKR.out.trans q4 (fun _ _ h => h) (fun _ _ h => h)⟩
      cases bb
      case false =>
        go_wp2
        go_ret
        exact ⟨rfl, KR4.out⟩
      case true =>
        have hFew : Aside0 (FewP x) := ⟨hbb rfl⟩
        clear hbb rm q1 k4
        obtain ⟨m, hm, hm0, hm2⟩ := rem200 u0 hw0
        have c0 : w4.cell? ⟨va, 0, none⟩ = some (.int .u8 u0) := by rw [cell_of_row w4 va 0 _ 37 (0, 0) f1]; rfl
        have fz0 : w4.frozen? ⟨va, 0, none⟩ = false := by simp [World.frozen?, f1]
        go_upto_region 16 with fail
        have N5 : (w4.setCell ⟨va, 0, none⟩ (.int .u8 (1 + m))).heap[va]? = some (.cells (fr (1 + m) t0 ms).toArray 37 (0, 0)) := by have := setCell_row (i := 0) (v := .int .u8 (1 + m)) f1; simpa using this
        have k5 := Kept.setCell w4 va 0 (.int .u8 (1 + m)) (F := fun b => b = va) rfl
        generalize w4.setCell ⟨va, 0, none⟩ (.int .u8 (1 + m)) = w5 at *
        have q5 : Kept wr w5 (fun _ => False) := q4.trans k5 (fun _ _ h => h) (fun b hb e => by have := HVA.out; omega)
        have fz1 : w5.frozen? ⟨va, 1, none⟩ = false := by simp [World.frozen?, N5]
        have c1' : w5.cell? ⟨va, 1, none⟩ = some (.int .u16 t0) := by rw [cell_of_row w5 va 1 _ 37 (0, 0) N5]; rfl
        clear c0 fz0 f1 k5 q4 hm
        go_upto_if 64 with fail
        go_cut [] from 48 to 66 (fun wx => Aside0 (∃ t, (ok (1 + m) t ∧ 0 ≤ t ∧ t < 65536) ∧ wx.heap[va]? = some (.cells (fr (1 + m) t ms).toArray 37 (0, 0)) ∧ Kept wr wx (fun _ => False)))
        case first =>
          have hcase : k = 2 ∨ ¬ k = 2 := by omega
          rcases hcase with hk2 | hk2
          · have HK2 : Aside0 _ := ⟨hk2⟩
            have HF1 : Aside0 _ := ⟨And.intro N5 q5⟩
            clear N5 q5
            go_wp2_with fail
            go_meet
            exact ⟨⟨t0, ⟨by have := HH.out.2.1 (1 + m) t0 (by omega) (by omega) hw1; rwa [if_pos HK2.out] at this, hw1⟩, HF1.out.1, HF1.out.2⟩⟩
          · have HK2 : Aside0 _ := ⟨hk2⟩
            have N6 : (w5.setCell ⟨va, 1, none⟩ (.int .u16 0)).heap[va]? = some (.cells (fr (1 + m) 0 ms).toArray 37 (0, 0)) := by have := setCell_row (i := 1) (v := .int .u16 0) N5; simpa using this
            have k6 := Kept.setCell w5 va 1 (.int .u16 0) (F := fun b => b = va) rfl
            have q6 : Kept wr (w5.setCell ⟨va, 1, none⟩ (.int .u16 0)) (fun _ => False) := q5.trans k6 (fun _ _ h => h) (fun b hb e => by have := HVA.out; omega)
            have HF1 : Aside0 _ := ⟨And.intro N6 q6⟩
            clear N5 q5 N6 q6 k6
            go_wp2_with fail
            go_meet
            exact ⟨⟨0, ⟨by have := HH.out.2.1 (1 + m) t0 (by omega) (by omega) hw1; rwa [if_neg HK2.out] at this, by omega, by omega⟩, HF1.out.1, HF1.out.2⟩⟩
        case rest =>
          obtain ⟨t, hokt0, N6, q6⟩ := hcut.out
          clear hcut fz1 c1' N5 q5
          obtain ⟨w6, hw6⟩ : ∃ w6, wc = w6 := ⟨_, rfl⟩
          rw [hw6] at N6 q6
          rw [hw6]
          clear hw6
          obtain ⟨u, hu⟩ : ∃ u, 1 + m = u := ⟨_, rfl⟩
          have hub : Aside0 (0 < u ∧ u < 256) := ⟨by omega⟩
          rw [hu] at N6 hokt0
          have hokt : Aside0 _ := ⟨hokt0⟩
          clear hu hm0 hm2 hw0 hw1 hokt0
          have N7 := heap_alloc_new w6 (.cells #[.int .u8 1, .int .u8 2, .int .u8 3, .int .u8 4, .int .u8 5, .int .u8 6, .int .u8 8, .int .u8 10, .int .u8 11] 5)
          have q7 := q6.trans (Kept.alloc w6 (.cells #[.int .u8 1, .int .u8 2, .int .u8 3, .int .u8 4, .int .u8 5, .int .u8 6, .int .u8 8, .int .u8 10, .int .u8 11] 5) (fun _ => False)) (H := fun _ => False) (fun _ _ h => h) (fun _ _ h => h)
          have N6' := (Kept.alloc w6 (.cells #[.int .u8 1, .int .u8 2, .int .u8 3, .int .u8 4, .int .u8 5, .int .u8 6, .int .u8 8, .int .u8 10, .int .u8 11] 5) (fun _ => False)).heap N6 (fun h => h)
          go_upto_region 19 with fail
          generalize w6.alloc (.cells #[.int .u8 1, .int .u8 2, .int .u8 3, .int .u8 4, .int .u8 5, .int .u8 6, .int .u8 8, .int .u8 10, .int .u8 11] 5) = w3' at *
          generalize w6.heap.size = tb at *
          obtain ⟨w3, hw3⟩ : ∃ w3, w3' = w3 := ⟨_, rfl⟩
          rw [hw3] at q7 N6' N7
          rw [hw3]
          clear hw3
          clear N6 q6
          obtain ⟨c, hc⟩ : ∃ c, x.f0 = c := ⟨_, rfl⟩
          have cc : w3.cell? ⟨va, 2, none⟩ = some (.int .u8 c) := by have := N6'; rw [cell_of_row w3 va 2 _ 37 (0, 0) N6']; obtain ⟨A12, c12, A13, c13, A14, c14, A15, c15, A21, c21, e, -⟩ := k35_open HMS.out; rw [e, ← hc]; rfl
          have r2 : w3.rangeAt va 0 [.int .u8 u, .int .u16 t] := fun j y hy => by
            rw [cell_of_row w3 va (0 + j) _ 37 (0, 0) N6']
            match j, hy with
            | 0, hy => exact hy
            | 1, hy => exact hy
          have hib : i < b.length := by rw [HA.out.2.2.2.2.2]; omega
          obtain ⟨bd, rfl, -, cbi⟩ := (HA.out.2.1).at_ (i := i) hib
          have hbi := HA.out.2.2.1 _ (List.getElem_mem hib)
          have KR7 : Aside0 (Kept w w3 (fun _ => False)) := ⟨HKR.out.trans q7 (fun _ _ h => h) (fun _ _ h => h)⟩
          replace cbi := KR7.out.cell cbi
          obtain ⟨bi, hbi0⟩ : ∃ bi, b[i] = bi := ⟨_, rfl⟩
          rw [hbi0] at hbi cbi
          clear hbi0
          obtain ⟨qn, hqn, hqn9⟩ := rem9 bi hbi
          have hqz : (qn : Int) < 9 := by omega
          have hwr : IntKind.i64.wrap bi = bi := wrapi bi ⟨hbi.1, by omega⟩
          obtain ⟨f, hf⟩ : ∃ f, failureL[qn]'(by simp [failureL]; omega) = f := ⟨_, rfl⟩
          have hfL : Aside0 (f ∈ failureL) := ⟨by rw [← hf]; exact List.getElem_mem _⟩
          have cf : w3.cell? ⟨tb, qn, none⟩ = some (.int .u8 f) := by
            rw [cell_of_row w3 tb qn _ 5 (0, 0) N7, ← hf]
            match qn, hqn9 with
            | 0, _ => rfl | 1, _ => rfl | 2, _ => rfl | 3, _ => rfl | 4, _ => rfl | 5, _ => rfl | 6, _ => rfl | 7, _ => rfl | 8, _ => rfl
          have hib2 : (i : Int) < (nb : Int) := by omega
          have S0 := Kept.drew w3 (fun _ => False)
          refine st 20 (fun w' => Kept w3 w' (fun _ => False)) [19] S0 ?_
          refine pu 0 (some 68) (mk 20 1) ?_
          refine pu 2 (some 70) (mk 20 5) ?_
          refine pu 3 (some 71) (mk 20 13) ?_
          refine pu 5 (some 73) (mk 20 45) ?_
          refine pu 6 (some 74) (mk 20 109) ?_
          refine pu 7 (some 75) (mk 20 237) ?_
          refine pu 8 (some 76) (mk 20 493) ?_
          refine pu 11 (some 79) (mk 20 2541) ?_
          refine pu 12 (some 80) (mk 20 6637) ?_
          refine ld 1 (some 69) (mk 20 6639) S0 (v := .agg #[.int .u8 u, .int .u16 t]) ?_ (hy := (yieldsIf_load_mid (by kernel_rfl) 29 (.tmp 68) rfl va 0 rfl [.int .u8 u, .int .u16 t] _ (fun w' hS => hS.range r2) Tryz.underlying29 rfl (by kernel_rfl)))
          refine ld 4 (some 72) (mk 20 6655) S0 (v := .int .u8 c) ?_ (hy := .inl ⟨by rfl, by intro w' hS; have q1 := hS.cell cc; go_simp; try with_reducible rfl⟩)
          refine ld 9 (some 77) (mk 20 7167) S0 (v := .int .u8 bi) ?_ (hy := .inl ⟨by rfl, by intro w' hS; have q1 := hS.cell cbi; go_simp; try with_reducible rfl⟩)
          refine pu 10 (some 78) (mk 20 8191) (v := .int .i64 bi) ?_ (hy := .inl ⟨by rfl, by intro w'; have q := hwr; go_simp; try with_reducible rfl⟩)
          refine pu 13 (some 81) (mk 20 16383) (v := .int .i64 (qn : Int)) ?_ (hy := .inl ⟨by rfl, by intro w'; have q := hqn; go_simp; try with_reducible rfl⟩)
          refine pu 14 (some 82) (mk 20 32767) ?_
          refine ld 15 (some 83) (mk 20 65535) S0 (v := .int .u8 f) ?_ (hy := .inl ⟨by rfl, by intro w' hS; have q1 := hS.cell cf; go_simp; try with_reducible rfl⟩)
          refine pu 16 (some 84) (mk 20 131071) (v := .agg (cs35f c f).toArray) ?_ (hy := yields_build (by kernel_rfl) 35 #[(0, .tmp 72), (1, .tmp 83)] (by rfl) [(0, .int .u8 c), (1, .int .u8 f)] (by (simp only [List.map_toArray, List.map_cons, List.map_nil]; rfl)) (cs35f c f).toArray (built35f c f))
          refine pu 17 (some 85) (mk 20 262143) (v := .agg (fr u t (cs35f c f)).toArray) ?_ (hy := yields_build (by kernel_rfl) 37 #[(0, .tmp 69), (1, .tmp 84)] (by rfl) [(0, .agg #[.int .u8 u, .int .u16 t]), (1, .agg (cs35f c f).toArray)] (by (simp only [List.map_toArray, List.map_cons, List.map_nil]; rfl)) (fr u t (cs35f c f)).toArray (built37 u t (cs35f c f) rfl))
          refine on 18 (some 14) (mk 20 524287) fun K hK => ?_
          refine wp_alloc37 rfl ?_
          have S1 := S0.trans (Kept.alloc w3.drew (.cells (fr 0 0 (cs35 0)).toArray 37) (fun _ => False)) (H := fun _ => False) (fun _ _ h => h) (fun _ _ h => h)
          refine hK _ _ (S1) (nm ?_)
          clear hK K
          refine la 19 none (mk 20 1048575) fun K hK => ?_
          refine wp_store_row 37 (.tmp 14) (.tmp 85) rfl w3.drew.heap.size (fr u t (cs35f c f)).toArray rfl rfl 37 (fr 0 0 (cs35 0)).toArray (heap_alloc_new _ _) (sizeF rfl u t) rfl (oneFr (by kernel_rfl) u t) ?_
          refine hK _ _ (nm ?_)
          clear hK K
          refine done_ (by kernel_rfl) ?_
          obtain ⟨N8, k8⟩ := new_row w3.drew (fr 0 0 (cs35 0)).toArray (fr u t (cs35f c f)).toArray 37
          generalize (w3.drew.alloc (.cells (fr 0 0 (cs35 0)).toArray 37)).setRow w3.drew.heap.size (fr u t (cs35f c f)).toArray = w8 at *
          obtain ⟨vb2, hvb2⟩ : ∃ v, w3.drew.heap.size = v := ⟨_, rfl⟩
          rw [hvb2] at N8
          rw [hvb2]
          have k38 := (Kept.drew w3 (fun _ => False)).trans k8 (H := fun _ => False) (fun _ _ h => h) (fun _ _ h => h)
          have N8a := k38.heap N6' (fun h => h)
          have hms8 : k35.K w8 x ms := k35.K_below (KR7.out.trans k38 (H := fun _ => False) (fun _ _ h => h) (fun _ _ h => h)).toBelow HMS.out
          have szm : ms.toArray.size = 22 := cons35 hms8
          obtain ⟨X1, hX1⟩ : ∃ X, fr u t ms = X := ⟨_, rfl⟩
          obtain ⟨X2, hX2⟩ : ∃ X, fr u t (cs35f c f) = X := ⟨_, rfl⟩
          have szX1 : (Tryz.prog.info? 37).map (·.size) = some X1.length := by rw [← hX1]; have := sizeF szm u t; simpa using this
          have szX2 : (Tryz.prog.info? 37).map (·.size) = some X2.length := by rw [← hX2]; have := sizeF (cs := cs35f c f) rfl u t; simpa using this
          rw [hX1] at N8a
          rw [hX2] at N8
          have rX1 : w8.rangeAt va 0 X1 := fun j y hy => by rw [cell_of_row w8 va (0 + j) _ 37 (0, 0) N8a]; simpa using hy
          have rX2 : w8.rangeAt vb2 0 X2 := fun j y hy => by rw [cell_of_row w8 vb2 (0 + j) _ 37 (0, 0) N8]; simpa using hy
          have K8 : Aside0 (Kept wr w8 (fun _ => False)) := ⟨q7.trans k38 (fun _ _ h => h) (fun _ _ h => h)⟩
          have hwr0 := HH.out.1.write 0 u t x True (ReqE x) hokt.out.1 (reqG HX0.out.2.2 hFew.out) w8 ms hms8
          rw [hX1] at hwr0
          have HXX : Aside0 _ := ⟨And.intro hX1 (And.intro hX2 hc)⟩
          have HVB2 : Aside0 (wr.heap.size ≤ vb2) := ⟨by rw [← hvb2]; exact q7.size⟩
          clear hX1 hX2 hc S0 S1 k8 k38 N6' N7 N8 N8a q7 r2 cc cf cbi hwr hqn hqz hf szm hms8 hvb2
          go_upto_region 21 with (first
            | (refine wpList_load_mid rfl 37 (.tmp 11) rfl va 0 rfl X1 _ rX1 Tryz.underlying37 rfl szX1 ?_)
            | (go_at_call 7; with_reducible refine hwr0.mono ?_; rintro e w9 ⟨k9, A9, n9, c9, e9, rfl, hR9⟩; clear hwr0))
          have HR9 : Aside0 _ := ⟨hR9⟩
          have rX1 := k9.range rX1
          have rX2 := k9.range rX2
          have K9 : Aside0 _ := ⟨k9⟩
          clear hR9 k9
          have hwr1 := HH.out.1.write 1 u t (ref35 c f) (¬ c ∈ publicL) (fun p => p.length = 2) hokt.out.1 (ansG c f hfL.out) w9 (cs35f c f) (cs35f_K c f w9)
          rw [HXX.out.2.1] at hwr1
          go_upto_region 22 with (first
            | (refine wpList_load_mid rfl 37 (.tmp 14) rfl vb2 0 rfl X2 _ rX2 Tryz.underlying37 rfl szX2 ?_)
            | (go_at_call 7; with_reducible refine hwr1.mono ?_; rintro e w10 ⟨k10, A10, n10, c10, e10, rfl, hR10⟩; clear hwr1))
          have HR10 : Aside0 _ := ⟨hR10⟩
          have rX1 := k10.range rX1
          have rX2 := k10.range rX2
          have K10 : Aside0 _ := ⟨And.intro k10 (And.intro rX1 rX2)⟩
          have K8a : Aside0 (Kept wr w10 (fun _ => False)) := ⟨(K8.out.trans K9.out (H := fun _ => False) (fun _ _ h => h) (fun _ _ h => h)).trans k10 (H := fun _ => False) (fun _ _ h => h) (fun _ _ h => h)⟩
          clear hR10 k10 rX1 rX2
          rcases HR9.out with ⟨-, he, -⟩ | ⟨he, pq1, hl1, ⟨hB1, hN1⟩, hP1, hO1, hc1, h11, h01, hp1⟩
          · subst he
            have TN : Aside0 (TalkAt ty T cs net w w10 ib s0 b0 s1 b1 pb (i + 1)) := ⟨D.out.next K8a.out⟩
            clear D
            go_wp2
            go_roundg (nl - i - 1)
            · exact ⟨i + 1, by go_num, by omega, by omega, TN⟩
            · omega
          · subst he
            rcases HR10.out with ⟨hno, -⟩ | ⟨he, pq2, hl2, ⟨hB2, hN2⟩, hP2, hO2, hp2⟩
            · exact absurd (HXX.out.2.2 ▸ hc1) hno
            · subst he
              obtain ⟨F, all, n, hI, hall, hnn, hFn⟩ := D.out.out
              have hI10 := hI.kept0 K8a.out
              have hin20 : i < 20 := by omega
              have e8 := K8.out.size
              have e9 := K9.out.size
              have e10 := K10.out.1.size
              have hb0l := heap_lt hI.i0.str
              have hb1l := heap_lt hI.i1.str
              have hibl := heap_lt hI.box
              have hFl : ∀ b, F b → b < wr.heap.size := fun b => hI.own.lt
              have hT0 : ∀ W, Kept w10 W (fun _ => False) → Calls Tryz.prog 16 #[(.pointer (some ⟨s0, 0, none⟩)), .agg #[.slice A9 n9 c9, .bool true]] W fun r w' => Piece W w' r u t x (fun b => b = b0) ∧ StrI ty T (cs 0) w' s0 b0 := fun W k =>
                HH.out.1.take 0 u t x pq1 (.inl rfl) hokt.out.1 hP1 hO1 h01 hp1 W s0 b0 (hI10.i0.kept k (fun h => h) (fun h => h)) hI10.n0.1 A9 n9 c9 ((hB1.keep K10.out.1).keep k) (fun ad e => by have := hN1 ad e; omega)
              have hT1 := inspTake0 hI10 HH.out.1.t52 (show all < 1000000 by omega) (show n < 1000000 by omega) (sd := s0) (bd := b0) ⟨rfl, rfl⟩ (u := u) (t := t) (x := x) (by have := hub.out; omega) hokt.out.2 HX0.out.2.2.c0 (v := .slice A9 n9 c9) rfl (τ := true) hT0
              have HI : Aside0 _ := ⟨And.intro hI10 (And.intro hall (And.intro hnn (And.intro hFn hFl)))⟩
              have HB : Aside0 _ := ⟨And.intro hB2 (And.intro hN2 (And.intro hP2 (And.intro hO2 hp2)))⟩
              have HZ : Aside0 (b0 < wr.heap.size ∧ b1 < wr.heap.size ∧ ib < wr.heap.size ∧ wr.heap.size ≤ w8.heap.size ∧ w8.heap.size ≤ w9.heap.size ∧ w9.heap.size ≤ w10.heap.size ∧ i < 20) := ⟨by omega⟩
              have HC1 : Aside0 _ := ⟨hc1⟩
              clear hI hI10 hall hnn hFn hT0 hB1 hN1 hP1 hO1 hB2 hN2 hP2 hO2 hp2 hl1 hl2 h11 h01 hp1 hc1 hFl e8 e9 e10 hb0l hb1l hibl hin20
              go_upto_region 26 with (first
                | (refine wpList_buildTo rfl 45 _ rfl (some 104) rfl #[.slice A9 n9 c9, .bool true] ?_ ?_; (simp only [List.map_toArray, List.map_cons, List.map_nil]; exact built45 _ _))
                | (go_at_call 8; with_reducible refine hT1.mono ?_; rintro e w11 ⟨s1', rfl, hNo⟩; obtain ⟨ds1, f1, g1, cc1, m1, vn1, F1, rfl, hf1, hI11, hr11, hg1, hgF1, hRes1, hF1, hm1, hK1, hk1⟩ := hNo.out; clear hT1 hNo))
              obtain ⟨hf1, hfu, hft, hfc⟩ := hf1
              have hu0 := hub.out
              rw [step_ask net all f1 (by rw [hfu]; omega)] at hI11 hRes1
              rw [← Int.natCast_add_one' n] at hI11
              obtain ⟨hI10, hall, hnn, hFn, hFl⟩ := id HI.out
              obtain ⟨z1, z2, z3, z4, z5, z6, z7⟩ := id HZ.out
              obtain ⟨hB2, hN2, hP2, hO2, hp2⟩ := id HB.out
              have hB211 : By w11 (.slice A10 n10 c10) (B u t pq2) := hB2.stay hk1 (fun ad e _ g => by
                have := hN2 ad e
                rcases g with g | g | g
                · omega
                · omega
                · have := hFl _ g; omega)
              have e11 := hk1.size
              have hT0 : ∀ W, Kept w11 W (fun _ => False) → Calls Tryz.prog 16 #[(.pointer (some ⟨s1, 0, none⟩)), .agg #[.slice A10 n10 c10, .bool true]] W fun r w' => Piece W w' r u t (ref35 c f) (fun b => b = b1) ∧ StrI ty T (cs 1) w' s1 b1 := fun W k =>
                HH.out.1.take 1 u t (ref35 c f) pq2 (.inr rfl) hokt.out.1 hP2 hO2 (by omega) (by omega) W s1 b1 (hI11.i1.kept k (fun h => h) (fun h => h)) hI11.n0.2.2.2.1 A10 n10 c10 (hB211.keep k) (fun ad e => by have := hN2 ad e; omega)
              have hcx : 0 ≤ c ∧ c < 256 := by have := HX0.out.2.2.c0; have h2 := HXX.out.2.2; omega
              have hT1 := inspTake1 hI11 HH.out.1.t52 (show all + 1 < 1000000 by omega) (show n + 1 < 1000000 by omega) (sd := s1) (bd := b1) ⟨rfl, rfl⟩ (u := u) (t := t) (x := ref35 c f) (by omega) hokt.out.2 hcx (v := .slice A10 n10 c10) rfl (τ := true) hT0
              have HI2 : Aside0 _ := ⟨And.intro hI11 (And.intro hr11 (And.intro hg1 (And.intro hgF1 (And.intro hRes1 (And.intro hF1 (And.intro hm1 (And.intro hK1 hk1)))))))⟩
              have HF1 : Aside0 _ := ⟨And.intro hf1 (And.intro hfu (And.intro hft hfc))⟩
              clear hI11 hr11 hg1 hgF1 hRes1 hF1 hm1 hK1 hk1 hf1 hfu hft hfc hI10 hall hnn hFn hFl z1 z2 z3 z4 z5 z6 z7 hB2 hN2 hP2 hO2 hp2 hB211 e11 hT0 hcx hu0
              go_upto_region 27 with (first
                | (refine wpList_buildTo rfl 45 _ rfl (some 108) rfl #[.slice A10 n10 c10, .bool true] ?_ ?_; (simp only [List.map_toArray, List.map_cons, List.map_nil]; exact built45 _ _))
                | (go_at_call 8; with_reducible refine hT1.mono ?_; rintro e w12 ⟨s2', rfl, hNo⟩; obtain ⟨ds2, f2, g2, cc2, m2, vn2, F2, rfl, hf2, hI12, hr12, hg2, hgF2, hRes2, hF2, hm2, hK2, hk2⟩ := hNo.out; clear hT1 hNo))
              obtain ⟨hI11, hr11, hg1, hgF1, hRes1, hF1', hm1, hK1, hk1⟩ := id HI2.out
              obtain ⟨hf1, hfu, hft, hfc⟩ := id HF1.out
              obtain ⟨hf2, hfu2, hft2, hfc2⟩ := hf2
              rw [step_ans net (all : Int) f1 f2 (all + 1) (by rw [hfu2, hfu]) (by rw [hft2, hft]) (by rw [hfc2, hfc]; exact HXX.out.2.2.symm)] at hI12 hRes2
              obtain ⟨hI10, hall, hnn, hFn, hFl⟩ := id HI.out
              obtain ⟨z1, z2, z3, z4, z5, z6, z7⟩ := id HZ.out
              obtain ⟨vg1, ca, vg2, cb, rfl, rfl, n27a, n27b, k0a, k0b, rQ1, rQ2, hK7⟩ := two_notes hI10 HH.out.1.t52 hI11 hr11 hg1 hgF1 hRes1 hF1' hK1 hk2 hr12 hRes2 (hK2 w12 (Kept.refl _ _))
              have hin : ∀ b, b < w10.heap.size → (b = b1 ∨ b = ib ∨ F1 b) → b = b1 ∨ b = ib ∨ F b := fun b hb h => by
                rcases h with h | h | h
                · exact .inl h
                · exact .inr (.inl h)
                · rcases hF1' b h with h | h
                  · exact .inr (.inr h)
                  · omega
              have kk : Kept w10 w12 (fun b => b = b0 ∨ b = b1 ∨ b = ib ∨ F b) := hk1.trans hk2 (fun b _ h => by rcases h with h | h | h; exact .inl h; exact .inr (.inr (.inl h)); exact .inr (.inr (.inr h))) (fun b hb h => .inr (hin b hb h))
              obtain ⟨nw1, nw2, nw3⟩ := id D.out.new
              have hwr := D.out.kept.size
              have K12 : Kept w w12 (fun _ => False) := (D.out.kept.trans K8a.out (H := fun _ => False) (fun _ _ h => h) (fun _ _ h => h)).trans kk (fun _ _ h => h) (fun b hb h => by rcases h with h | h | h | h <;> first | omega | (have := hFn _ h; omega))
              have hI12' : InspI ty T cs net w12 ib s0 b0 s1 b1 pb F2 [] (all + 1) ((n + 2 : Nat) : Int) := by
                have e : ((n + 2 : Nat) : Int) = ((n + 1 : Nat) : Int) + 1 := by omega
                rw [e]; exact hI12
              have TX : Aside0 (∀ W, Kept w12 W (fun _ => False) → TalkAt ty T cs net w W ib s0 b0 s1 b1 pb (i + 1)) := ⟨fun W k => ⟨⟨F2, all + 1, n + 2, hI12'.kept0 k, by omega, by omega, fun b hb => by
                rcases hF2 b hb with h | h
                · rcases hF1' b h with h | h
                  · exact hFn b h
                  · omega
                · have := hk1.size; omega⟩, D.out.new, K12.trans k (fun _ _ h => h) (fun _ _ h => h)⟩⟩
              have hnot : ∀ b, wr.heap.size ≤ b → ¬ (b = b0 ∨ b = b1 ∨ b = ib ∨ F b) := fun b hb h => by rcases h with h | h | h | h <;> first | omega | (have := hFl _ h; omega)
              have rX1 : w12.rangeAt va 0 X1 := fun j y hy => kk.cellN (hnot va (by have := HVA.out; omega)) (K10.out.2.1 j y hy)
              have rX2 : w12.rangeAt vb2 0 X2 := fun j y hy => kk.cellN (hnot vb2 HVB2.out) (K10.out.2.2 j y hy)
              obtain ⟨Q1, hQ1⟩ : ∃ X, f1.cs = X := ⟨_, rfl⟩
              obtain ⟨Q2, hQ2⟩ : ∃ X, f2.cs = X := ⟨_, rfl⟩
              have szQ1 : (Tryz.prog.info? 37).map (·.size) = some Q1.length := by rw [← hQ1, Fr.len]; kernel_rfl
              have szQ2 : (Tryz.prog.info? 37).map (·.size) = some Q2.length := by rw [← hQ2, Fr.len]; kernel_rfl
              rw [hQ1] at rQ1
              rw [hQ2] at rQ2
              have hsame1 : ∀ W, Kept w12 W (fun _ => False) → Calls Tryz.prog 9 #[.agg Q1.toArray, .agg X1.toArray] W fun e w' => e = .returned (.bool true) ∧ Kept W w' (fun _ => False) := fun W k => by
                rw [← hQ1, ← HXX.out.1, hf1]
                exact same_fr u t x ds1 ms W (k35.K_below k.toBelow hK7) (k35.K_below (K12.trans k (H := fun _ => False) (fun _ _ h => h) (fun _ _ h => h)).toBelow HMS.out)
              have hsame2 : ∀ W, Kept w12 W (fun _ => False) → Calls Tryz.prog 9 #[.agg Q2.toArray, .agg X2.toArray] W fun e w' => e = .returned (.bool true) ∧ Kept W w' (fun _ => False) := fun W k => by
                rw [← hQ2, ← HXX.out.2.1, hf2]
                exact same_fr u t (ref35 c f) ds2 (cs35f c f) W (hK2 W (k.mono (fun _ _ h => h.elim))) (cs35f_K c f W)
              clear hI11 hr11 hg1 hgF1 hRes1 hF1' hm1 hK1 hk1 hf1 hfu hft hfc hf2 hfu2 hft2 hfc2 hI12 hI12' hRes2 hI10 hall hnn hFn hFl z1 z2 z3 z4 z5 z6 z7 hK7 hin kk nw1 nw2 nw3 hwr K12 hnot hQ1 hQ2 hr12 hg2 hgF2 hF2 hm2 hK2 hk2 D
              go_upto_region 31 with fail
              have S0 := Kept.drew w12 (fun _ => False)
              refine st 42 (fun w' => Kept w12 w' (fun _ => False)) [] S0 ?_
              refine pu 0 (some 132) (mk 42 1) ?_ (hy := .inl ⟨by kernel_rfl, by intro w'; go_simp; with_reducible rfl⟩)
              refine pu 1 (some 133) (mk 42 3) ?_ (hy := .inl ⟨by kernel_rfl, by intro w'; go_simp; with_reducible rfl⟩)
              refine pu 2 (some 134) (mk 42 7) ?_ (hy := .inl ⟨by kernel_rfl, by intro w'; go_simp; with_reducible rfl⟩)
              refine ld 3 (some 135) (mk 42 15) S0 (v := .slice (some ⟨vg1, 0, none⟩) 1 ca) ?_ (hy := .inl ⟨by kernel_rfl, by intro w' hS; have q1 := hS.cell n27a; go_simp; try with_reducible rfl⟩)
              refine pu 4 (some 136) (mk 42 31) ?_ (hy := .inl ⟨by kernel_rfl, by intro w'; go_simp; with_reducible rfl⟩)
              refine pu 5 (some 137) (mk 42 63) ?_ (hy := .inl ⟨by kernel_rfl, by intro w'; go_simp; with_reducible rfl⟩)
              refine ld 6 (some 138) (mk 42 127) S0 (v := .int .i64 0) ?_ (hy := .inl ⟨by kernel_rfl, by intro w' hS; have q1 := hS.cell k0a; go_simp; try with_reducible rfl⟩)
              refine pu 7 (some 139) (mk 42 255) ?_ (hy := .inl ⟨by kernel_rfl, by intro w'; go_simp; with_reducible rfl⟩)
              refine pu 8 (some 140) (mk 42 511) ?_ (hy := .inl ⟨by kernel_rfl, by intro w'; go_simp; with_reducible rfl⟩)
              refine pu 9 (some 141) (mk 42 1023) ?_ (hy := .inl ⟨by kernel_rfl, by intro w'; go_simp; with_reducible rfl⟩)
              refine pu 10 (some 142) (mk 42 2047) ?_ (hy := .inl ⟨by kernel_rfl, by intro w'; go_simp; with_reducible rfl⟩)
              refine pu 11 (some 143) (mk 42 4095) ?_ (hy := .inl ⟨by kernel_rfl, by intro w'; go_simp; with_reducible rfl⟩)
              refine ld 12 (some 144) (mk 42 8191) S0 (v := .slice (some ⟨vg2, 0, none⟩) 1 cb) ?_ (hy := .inl ⟨by kernel_rfl, by intro w' hS; have q1 := hS.cell n27b; go_simp; try with_reducible rfl⟩)
              refine pu 13 (some 145) (mk 42 16383) ?_ (hy := .inl ⟨by kernel_rfl, by intro w'; go_simp; with_reducible rfl⟩)
              refine pu 14 (some 146) (mk 42 32767) ?_ (hy := .inl ⟨by kernel_rfl, by intro w'; go_simp; with_reducible rfl⟩)
              refine ld 15 (some 147) (mk 42 65535) S0 (v := .int .i64 4) ?_ (hy := .inl ⟨by kernel_rfl, by intro w' hS; have q1 := hS.cell k0b; go_simp; try with_reducible rfl⟩)
              refine pu 16 (some 148) (mk 42 131071) ?_ (hy := .inl ⟨by kernel_rfl, by intro w'; go_simp; with_reducible rfl⟩)
              refine pu 17 (some 149) (mk 42 262143) ?_ (hy := .inl ⟨by kernel_rfl, by intro w'; go_simp; with_reducible rfl⟩)
              refine pu 18 (some 150) (mk 42 524287) ?_ (hy := .inl ⟨by kernel_rfl, by intro w'; go_simp; with_reducible rfl⟩)
              refine pu 19 (some 151) (mk 42 1048575) ?_ (hy := .inl ⟨by kernel_rfl, by intro w'; go_simp; with_reducible rfl⟩)
              refine pu 20 (some 152) (mk 42 2097151) ?_ (hy := .inl ⟨by kernel_rfl, by intro w'; go_simp; with_reducible rfl⟩)
              refine pu 21 (some 153) (mk 42 4194303) ?_ (hy := .inl ⟨by kernel_rfl, by intro w'; go_simp; with_reducible rfl⟩)
              refine ld 22 (some 154) (mk 42 8388607) S0 (v := .slice (some ⟨vg2, 0, none⟩) 1 cb) ?_ (hy := .inl ⟨by kernel_rfl, by intro w' hS; have q1 := hS.cell n27b; go_simp; try with_reducible rfl⟩)
              refine pu 23 (some 155) (mk 42 16777215) ?_ (hy := .inl ⟨by kernel_rfl, by intro w'; go_simp; with_reducible rfl⟩)
              refine pu 24 (some 156) (mk 42 33554431) ?_ (hy := .inl ⟨by kernel_rfl, by intro w'; go_simp; with_reducible rfl⟩)
              refine ld 25 (some 157) (mk 42 67108863) S0 (v := .agg Q1.toArray) ?_ (hy := (yieldsIf_load_mid (by kernel_rfl) 37 (.tmp 156) rfl vg2 1 (by kernel_rfl) Q1 _ (fun w' hS => hS.range rQ1) Tryz.underlying37 rfl szQ1))
              refine ld 26 (some 158) (mk 42 134217727) S0 (v := .agg X1.toArray) ?_ (hy := (yieldsIf_load_mid (by kernel_rfl) 37 (.tmp 11) rfl va 0 (by kernel_rfl) X1 _ (fun w' hS => hS.range rX1) Tryz.underlying37 rfl szX1))
              refine cl 27 (some 159) (mk 42 268435455) Tryz.func9 (args := #[.agg Q1.toArray, .agg X1.toArray]) (hsame1 _ S0) ?_ (hargs := by kernel_rfl)
              rintro e w13 ⟨rfl, k13⟩
              have S1 := S0.trans k13 (H := fun _ => False) (fun _ _ h => h) (fun _ _ h => h)
              refine ⟨_, rfl, S1, nm ?_⟩
              refine pu 28 (some 160) (mk 42 536870911) ?_ (hy := .inl ⟨by kernel_rfl, by intro w'; go_simp; with_reducible rfl⟩)
              refine pu 29 (some 161) (mk 42 1073741823) ?_ (hy := .inl ⟨by kernel_rfl, by intro w'; go_simp; with_reducible rfl⟩)
              refine pu 30 (some 162) (mk 42 2147483647) ?_ (hy := .inl ⟨by kernel_rfl, by intro w'; go_simp; with_reducible rfl⟩)
              refine pu 31 (some 163) (mk 42 4294967295) ?_ (hy := .inl ⟨by kernel_rfl, by intro w'; go_simp; with_reducible rfl⟩)
              refine pu 32 (some 164) (mk 42 8589934591) ?_ (hy := .inl ⟨by kernel_rfl, by intro w'; go_simp; with_reducible rfl⟩)
              refine pu 33 (some 165) (mk 42 17179869183) ?_ (hy := .inl ⟨by kernel_rfl, by intro w'; go_simp; with_reducible rfl⟩)
              refine ld 34 (some 166) (mk 42 34359738367) S1 (v := .slice (some ⟨vg2, 0, none⟩) 1 cb) ?_ (hy := .inl ⟨by kernel_rfl, by intro w' hS; have q1 := hS.cell n27b; go_simp; try with_reducible rfl⟩)
              refine pu 35 (some 167) (mk 42 68719476735) ?_ (hy := .inl ⟨by kernel_rfl, by intro w'; go_simp; with_reducible rfl⟩)
              refine pu 36 (some 168) (mk 42 137438953471) ?_ (hy := .inl ⟨by kernel_rfl, by intro w'; go_simp; with_reducible rfl⟩)
              refine ld 37 (some 169) (mk 42 274877906943) S1 (v := .agg Q2.toArray) ?_ (hy := (yieldsIf_load_mid (by kernel_rfl) 37 (.tmp 168) rfl vg2 25 (by kernel_rfl) Q2 _ (fun w' hS => hS.range rQ2) Tryz.underlying37 rfl szQ2))
              refine ld 38 (some 170) (mk 42 549755813887) S1 (v := .agg X2.toArray) ?_ (hy := (yieldsIf_load_mid (by kernel_rfl) 37 (.tmp 14) rfl vb2 0 (by kernel_rfl) X2 _ (fun w' hS => hS.range rX2) Tryz.underlying37 rfl szX2))
              refine cl 39 (some 171) (mk 42 1099511627775) Tryz.func9 (args := #[.agg Q2.toArray, .agg X2.toArray]) (hsame2 _ S1) ?_ (hargs := by kernel_rfl)
              rintro e w14 ⟨rfl, k14⟩
              have S2 := S1.trans k14 (H := fun _ => False) (fun _ _ h => h) (fun _ _ h => h)
              refine ⟨_, rfl, S2, nm ?_⟩
              refine pu 40 (some 172) (mk 42 2199023255551) ?_ (hy := .inl ⟨by kernel_rfl, by intro w'; go_simp; with_reducible rfl⟩)
              refine pu 41 (some 173) (mk 42 4398046511103) ?_ (hy := .inl ⟨by kernel_rfl, by intro w'; go_simp; with_reducible rfl⟩)
              refine done_ (by kernel_rfl) ?_
              have TN : Aside0 (TalkAt ty T cs net w w14 ib s0 b0 s1 b1 pb (i + 1)) := ⟨TX.out _ S2⟩
              clear S0 S1 S2 k13 k14 n27a n27b k0a k0b rQ1 rQ2 rX1 rX2 hsame1 hsame2 szQ1 szQ2 szX1 szX2
              go_wp2
              go_roundg (nl - i - 1)
              · exact ⟨i + 1, by go_num, by omega, by omega, TN⟩
              · omega
    · have hge : ¬ ((i : Int) < (nl : Int)) := by omega
      obtain ⟨F3, a3, n3, hI3, -, -, -⟩ := id D.out.out
      have hop := inspOpen hI3
      clear hI3
      go_wp2_with (first
        | (go_at_call 10; with_reducible refine hop.mono ?_; rintro e w5 ⟨oa, oc, rfl, k5⟩; clear hop))
      go_ret
      exact ⟨rfl, D.out.kept.trans k5 (fun _ _ h => h) (fun _ _ h => h)⟩
end Go.Proofs.YtmbjlondehcheaaGreatDoor
end
section
set_option linter.unusedSimpArgs false
set_option linter.unusedVariables false
namespace Go.Proofs.YtmbjlondehcheaaGreatDoor
open Go.Shelf Go.RowKit Go.Lib Go.Sort Go.Proofs.YtmbjlondehcheaaGreatDoorW.PrintWords Go.Proofs.YtmbjlondehcheaaGreatDoorW.PrintLast
set_option maxHeartbeats 1000000 in
set_option maxRecDepth 1000000 in
theorem grow_calls (w : World) (n : Nat) (h0 : 0 < n) (hn : n ≤ 1000) : Calls Tryz.prog 43 #[.slice none 0 0, .int .i64 n] w fun e w' => ∃ g cap, e = .returned (.slice (some ⟨g, 0, none⟩) 0 cap) ∧ w'.ownsRow 0 5 1 (.slice (some ⟨g, 0, none⟩) 0 cap) 0 [] ∧ w.heap.size ≤ g ∧ Kept w w' (fun _ => False) := by
  obtain ⟨ie, z, h1, h2, h3, h4, h5⟩ := info5
  have ha := fun ty => run_append_nil_zeros (P := Tryz.prog) w 23 3 ty 5 ie z .i64 .i64 Tryz.underlying23 Tryz.underlying3 h1 h2 n h0 (by omega) (by omega) (by rw [h5]; omega)
  obtain ⟨cap, hcap⟩ : ∃ cap, grownCap w n 0 5 = cap := ⟨_, rfl⟩
  have hge := grownCap_ge w n 0 5
  have hle := grownCap_le_maxLen w n 0 5 (by unfold maxLen; omega)
  rw [hcap] at hge hle
  simp only [hcap] at ha
  obtain ⟨Z, hZ⟩ : ∃ Z, Builtin.zeroCells z.cells n ++ Builtin.zeroCells z.cells (cap - n) = Z := ⟨_, rfl⟩
  have hZs : Z.size = cap * 1 := by rw [← hZ, Array.size_append, size_zeroCells, size_zeroCells, h4]; omega
  simp only [hZ] at ha
  have ho := World.ownsRow_made (base := 0) (e := 5) (size := 1) w.drew Z cap (Nat.zero_le _) hle hZs
  have q := (Kept.drew w (fun _ => False)).trans (Kept.alloc w.drew (.cells Z 5) (fun _ => False)) (H := fun _ => False) (fun _ _ h => h) (fun _ _ h => h)
  have FIN : Aside0 _ := ⟨And.intro ho q⟩
  have e0 : w.drew.heap.size = w.heap.size := rfl
  have hnz : (0 : Int) < (n : Int) := by omega
  have hn2 : (n : Int) ≤ 1000 := by omega
  clear ho q hZ hZs h1 h2 h3 h4 h5 hcap
  go_enter Tryz.func43, Tryz.ntmps43
  go_wp2_with (first | (refine wpList_app rfl (.tmp 20) (.tmp 21) 23 3 rfl (some 22) rfl (.slice none 0 0) (.int .i64 n) rfl rfl _ _ (ha _) ?_))
  go_ret
  exact ⟨_, _, rfl, FIN.out.1, Nat.le_refl _, FIN.out.2⟩
set_option maxHeartbeats 1000000 in
set_option maxRecDepth 1000000 in
theorem concat_calls (w : World) (ob c0 : Nat) (A : Option Addr) (c : Nat) (l : List Int) (hl0 : 0 < l.length) (hl : l.length ≤ 1000) (hc : w.cell? ⟨ob, 0, none⟩ = some (.slice A l.length c)) (hB : By w (.slice A l.length c) l) :
    Calls Tryz.prog 21 #[.slice (some ⟨ob, 0, none⟩) 1 c0] w fun e w' => ∃ A' c', e = .returned (.slice A' l.length c') ∧ By w' (.slice A' l.length c') l ∧ Kept w w' (fun _ => False) := by
  have hgr := grow_calls w l.length hl0 hl
  obtain ⟨ad, rfl, -, -⟩ := hB.at_ (i := 0) hl0
  have HB : Aside0 _ := ⟨hB⟩
  obtain ⟨k, hk⟩ : ∃ k, l.length = k := ⟨_, rfl⟩
  rw [hk] at hgr hc hl0 hl
  have HK : Aside0 _ := ⟨hk⟩
  have hk2 : (k : Int) ≤ 1000 := by omega
  rw [hk]
  clear hB hk
  go_enter Tryz.func21, Tryz.ntmps21
  go_wp2
  go_loopg [3, 11] 1 (fun kx s3 s11 wr => (s3 = .int .i64 0 ∧ s11 = .int .i64 0 ∧ 1 ≤ kx ∧ wr = w) ∨ (s3 = .int .i64 (k : Int) ∧ s11 = .int .i64 1 ∧ wr = w))
  case atStart => exact .inl ⟨rfl, rfl, Nat.le_refl _, rfl⟩
  case round =>
    rcases hrel with ⟨rfl, rfl, hkx, rfl⟩ | ⟨rfl, rfl, rfl⟩
    · go_wp2
      go_roundg 0
      · exact .inr ⟨rfl, rfl, rfl⟩
      · exact hkx
    · go_upto_region 10 with (first | (go_at_call 43; with_reducible refine hgr.mono ?_; rintro e w1 ⟨g, cap, rfl, ho, hg, k1⟩; clear hgr))
      have hc1 := k1.cell hc
      have hB1 := HB.out.keep k1
      rw [HK.out] at hB1
      have FIN : Aside0 _ := ⟨And.intro k1 hg⟩
      obtain ⟨v', w2, ha, ho2, hgr2, hown⟩ := app_by w1 23 _ 0 [] ho _ l hB1 (by have := HK.out; omega)
      have k2 := Kept.grown hgr2 (F := fun b => b = g) (fun b hb => by simpa [Value.ownBlock] using hb)
      obtain ⟨A', c', rfl, -⟩ := (row_rd (k := .u8) (l := l) (by simpa using ho2) (by have := HK.out; omega)).len
      have FIN2 : Aside0 (By w2 (.slice A' l.length c') l ∧ Kept wr w2 (fun _ => False)) := ⟨row_rd (by simpa using ho2) (by have := HK.out; omega), k1.trans k2 (fun _ _ h => h) (fun b hb h => by omega)⟩
      rw [HK.out] at ha
      replace ha : ∀ ty, (Builtin.append_ #[23, 23] ty #[.slice (some ⟨g, 0, none⟩) 0 cap, .slice (some ad) k c]).run Tryz.prog w1 = .ok (.slice A' k c') w2 := fun _ => ha
      clear k1 ho ho2 hgr2 hown k2 hB1 hc
      go_wp2
      go_loopg [6, 27] 1 (fun kx s6 s27 wr => (s6 = .slice (some ⟨g, 0, none⟩) 0 cap ∧ s27 = .int .i64 0 ∧ 1 ≤ kx ∧ wr = w1) ∨ (s6 = .slice A' k c' ∧ s27 = .int .i64 1 ∧ wr = w2))
      case atStart => exact .inl ⟨rfl, rfl, Nat.le_refl _, rfl⟩
      case round =>
        rcases hrel with ⟨rfl, rfl, hkx, rfl⟩ | ⟨rfl, rfl, rfl⟩
        · go_wp2_with (first | (refine wpList_app rfl (.tmp 31) (.tmp 32) 23 23 rfl (some 33) rfl (.slice (some ⟨g, 0, none⟩) 0 cap) (.slice (some ad) k c) rfl rfl (.slice A' k c') w2 (ha _) ?_))
          go_roundg 0
          · exact .inr ⟨rfl, rfl, rfl⟩
          · exact hkx
        · go_wp2
          go_ret
          exact ⟨A', c', rfl, by have := FIN2.out.1; rwa [HK.out] at this, FIN2.out.2⟩
set_option maxHeartbeats 400000 in
set_option maxRecDepth 1000000 in
theorem num_calls (w : World) (x : Int) (ta fa na : Nat) (h : w.cell? ⟨ta, 0, none⟩ = some (.int .i64 0)) : Calls Tryz.prog 54 #[.int .u16 x, (.pointer (some ⟨ta, 0, none⟩)), (.pointer (some ⟨fa, 0, none⟩)), (.pointer (some ⟨na, 0, none⟩))] w fun e w' => e = .returned (.int .u16 0) ∧ w' = w := by
  go_enter Tryz.func54, Tryz.ntmps54
  go_wp2
  go_ret
  exact ⟨rfl, rfl⟩
set_option maxHeartbeats 400000 in
set_option maxRecDepth 1000000 in
theorem gnum_calls (w : World) : Calls Tryz.prog 42 #[.int .i64 1, .int .i64 0] w fun e w' => ∃ ta fa na, e = .returned (.func (.func 54) #[] #[(.pointer (some ⟨ta, 0, none⟩)), (.pointer (some ⟨fa, 0, none⟩)), (.pointer (some ⟨na, 0, none⟩))]) ∧ w'.cell? ⟨ta, 0, none⟩ = some (.int .i64 0) ∧ w.heap.size ≤ ta ∧ Kept w w' (fun _ => False) := by
  go_enter Tryz.func42, Tryz.ntmps42
  go_wp2
  go_ret
  have q := ((Kept.alloc w (.cells #[.int .i64 1] 3) (fun _ => False)).trans (Kept.alloc _ (.cells #[.int .i64 0] 3) (fun _ => False)) (H := fun _ => False) (fun _ _ h => h) (fun _ _ h => h)).trans (Kept.alloc _ (.cells #[.int .u16 0] 27) (fun _ => False)) (H := fun _ => False) (fun _ _ h => h) (fun _ _ h => h)
  refine ⟨_, _, _, rfl, ?_, by omega, q⟩
  have f := heap_alloc_new (w.alloc (.cells #[.int .i64 1] 3)) (.cells #[.int .i64 0] 3)
  rw [show (w.alloc (.cells #[.int .i64 1] 3)).heap.size = w.heap.size + 1 by simp] at f
  have f2 := (Kept.alloc _ (.cells #[.int .u16 0] 27) (fun _ => False)).heap f (fun h => h)
  rw [cell_of_row _ (w.heap.size + 1) 0 _ 3 (0, 0) f2]
  rfl
end Go.Proofs.YtmbjlondehcheaaGreatDoor
end
