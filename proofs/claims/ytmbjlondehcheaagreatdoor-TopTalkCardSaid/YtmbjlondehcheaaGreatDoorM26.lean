/- TopTalk: part 26 of the walks: of HFlay, HFew, PTopTalkx3. -/
import Derived.Test.YtmbjlondehcheaaGreatDoorM25
section
set_option linter.unusedSimpArgs false
set_option linter.unusedVariables false
namespace Go.Proofs.YtmbjlondehcheaaGreatDoor
open Go.Shelf Go.RowKit Go.Lib Go.Sort Go.Proofs.YtmbjlondehcheaaGreatDoorW.PrintWords Go.Proofs.YtmbjlondehcheaaGreatDoorW.PrintLast Go.Proofs.YtmbjlondehcheaaGreatDoor.PTopTalk
theorem lit_6 (w : World) : (Instr.buildSlice 23 1 #[(0, .int .u8 6)]).run Tryz.prog w = .ok (.slice (some ⟨w.heap.size, 0, none⟩) 1 1) (w.alloc (.cells #[.int .u8 6] 5)) := by kernel_rfl
theorem lit_3 (w : World) (a b c : Int) : (Instr.buildSlice 30 3 #[(0, .int .u16 a), (1, .int .u16 b), (2, .int .u16 c)]).run Tryz.prog w = .ok (.slice (some ⟨w.heap.size, 0, none⟩) 3 3) (w.alloc (.cells #[.int .u16 a, .int .u16 b, .int .u16 c] 27)) := by kernel_rfl
theorem thr_rd (w : World) (a b c : Int) : Wo (w.alloc (.cells #[.int .u16 a, .int .u16 b, .int .u16 c] 27)) (.slice (some ⟨w.heap.size, 0, none⟩) 3 3) [a, b, c] := (Ow.lit (k := .u16) (te := 27) (Kept.refl w _) [a, b, c] (by simp) (by simp)).rd (by simp)
theorem wp_lit3 {P : Program} {a : Act} {w : World} {K : Act → World → Prop} {Q : Exit → Act → World → Prop} {op : Oper} (t : TypeId) (x y z : Operand) (ho : op.op = .buildSlice t 3 #[(0, x), (1, y), (2, z)]) (u1 u2 u3 : Value) (h1 : a.eval x = u1) (h2 : a.eval y = u2) (h3 : a.eval z = u3) (v' : Value) (w' : World)
    (hr : (Instr.buildSlice t 3 #[(0, u1), (1, u2), (2, u3)]).run P w = .ok v' w') (h : K (a.put op.dst v') w') : op.wp P a w K Q := by
  unfold Oper.wp execOp
  simp only [ho, Sem.run_bind, Sem.run_pure, Result.andThen_ok, List.map_toArray, List.map_cons, List.map_nil, h1, h2, h3, hr]
  exact h
theorem lay_al {W w' : World} {F : Nat → Prop} (k : Kept W w' F) (o : Obj) : Kept W (w'.alloc o) F := k.trans (Kept.alloc w' o (fun _ => False)) (fun _ _ h => h) (fun _ _ h => h.elim)
theorem lay_kp {W w w' : World} {F : Nat → Prop} (k : Kept W w F) (q : Kept w w' (fun _ => False)) : Kept W w' F := k.trans q (fun _ _ h => h) (fun _ _ h => h.elim)
theorem lay_app {w1 w' : World} {A : Option Addr} {n cp : Nat} {L m : List Int} {u : Value} (O : OB w1 w' (.slice A n cp) L) (hu : By w' u m) (hL : L.length = n) (hn : n + m.length ≤ 1000000) (hm : 0 < n + m.length) (ty : TypeId) :
    ∃ A2 c2 wB, (Builtin.append_ #[23, 23] ty #[.slice A n cp, u]).run Tryz.prog w' = .ok (.slice A2 (n + m.length) c2) wB ∧ OB w1 wB (.slice A2 (n + m.length) c2) (L ++ m) ∧ Kept w' wB (fun b => some b = (Value.slice A n cp).ownBlock) ∧
      ∀ g, (Value.slice A2 (n + m.length) c2).ownBlock = some g → (Value.slice A n cp).ownBlock = some g ∨ w'.heap.size ≤ g := by
  subst hL
  obtain ⟨v', w2, a1, a2, a3, a4⟩ := app_by w' ty (.slice A L.length cp) L.length _ O.row u m hu hn
  obtain ⟨A2, c2, rfl⟩ : ∃ A2 c2, v' = .slice A2 (L.length + m.length) c2 := by
    rcases a2.2 with ⟨h, h0⟩ | ⟨g, cap, cur, h, _⟩
    · omega
    · exact ⟨_, _, h⟩
  have kg := Kept.grown a3 (F := fun b => some b = (Value.slice A L.length cp).ownBlock) (fun _ h => h)
  refine ⟨A2, c2, w2, a1, ⟨by rw [List.length_append, List.map_append]; exact a2, fun b hb => ?_, O.kept.trans kg (fun _ _ h => h) (fun b hb e => by have := O.new b e; omega)⟩, kg, fun g hg => ?_⟩
  · rcases a4 with e | e
    · exact O.new b (hb.trans e)
    · rw [e] at hb; injection hb with hb; have := O.kept.size; omega
  · rcases a4 with e | e
    · exact .inl (e.symm.trans hg)
    · rw [e] at hg; injection hg with hg; exact .inr (by omega)
theorem lay_ne {w1 W : World} {A : Option Addr} {n cp : Nat} {L : List Int} (O : OB w1 W (.slice A n cp) L) {g : Nat} (hg : W.heap.size ≤ g) : ∀ ad : Addr, some (⟨g, 0, none⟩ : Addr) = some ad → ¬ some ad.block = (Value.slice A n cp).ownBlock := fun ad e h => by
  injection e with e
  subst e
  have := (O.row.lt g h.symm).2
  omega
structure LayJ (w1 W w' : World) (A : Option Addr) (n cp : Nat) (L : List Int) (A2 : Option Addr) (c2 gC : Nat) (a b c : Int) : Prop where
  own : OB w1 w' (.slice A2 (n + 1) c2) (L ++ [6])
  kept : Kept W w' (fun b => some b = (Value.slice A n cp).ownBlock)
  thr : Wo w' (.slice (some ⟨gC, 0, none⟩) 3 3) [a, b, c]
  nw : ∀ g, (Value.slice A2 (n + 1) c2).ownBlock = some g → (Value.slice A n cp).ownBlock = some g ∨ W.heap.size ≤ g
  far : W.heap.size ≤ gC
theorem lay_fin {W wp wD : World} {v v2 : Value} (k : Kept W wp (fun b => some b = v.ownBlock)) (q : Kept wp wD (fun b => some b = v2.ownBlock)) (h : ∀ g, v2.ownBlock = some g → v.ownBlock = some g ∨ W.heap.size ≤ g) : Kept W wD (fun b => some b = v.ownBlock) :=
  k.trans q (fun _ _ h => h) (fun b hb e => (h b e.symm).elim (fun e => e.symm) (fun h => by omega))
theorem MsgAt.recs {w : World} {G : Nat → Prop} {mb : Nat} {x : S35} (h : MsgAt w G mb x) : ∃ A c, w.cell? ⟨mb, 15, none⟩ = some (.slice A x.f15.length c) ∧ k67.C w A x.f15.length x.f15 := by
  obtain ⟨cs, _, hK, hc⟩ := h.cell
  obtain ⟨A12, c12, A13, c13, A14, c14, A15, c15, A21, c21, rfl, -, -, -, -, -, -, l15, g15, -, -⟩ := k35_open hK
  exact ⟨A15, c15, hc 15 _ rfl, g15⟩
set_option maxHeartbeats 4000000 in
set_option maxRecDepth 1000000 in
theorem filesLay_calls (x : S35) (hc : x.f0 = 20 ∨ x.f0 = 21) (h15 : x.f15.length ≤ 100) (hw : ∀ r ∈ x.f15, r.f3.length ≤ 400) : Laid 154 x Oct := by
  intro w cs hK
  have M := MsgAt.box hK
  have K1 := Kept.alloc w (.cells cs.toArray 35) (fun _ => False)
  have c0 := M.g0
  obtain ⟨A15, c15, cm, g15⟩ := M.recs
  have HX : Aside0 _ := ⟨And.intro hw h15⟩
  have HK1 : Aside0 _ := ⟨K1⟩
  obtain ⟨N, hN⟩ : ∃ N, x.f15.length = N := ⟨_, rfl⟩
  rw [hN] at cm g15 h15
  have HN : Aside0 _ := ⟨hN⟩
  have hNz : (N : Int) ≤ 100 := by omega
  clear hw K1 M hK hN
  go_enter Tryz.func154, Tryz.ntmps154
  go_upto_region 1 with fail
  generalize w.alloc (.cells cs.toArray 35) = w1 at *
  generalize w.heap.size = mb at *
  have hO1 : OB w1 (w1.alloc (.cells #[.int .u8 0] 5)) (.slice (some ⟨w1.heap.size, 0, none⟩) 1 1) [0] := Ow.lit (k := .u8) (te := 5) (Kept.refl w1 _) [0] (by simp) (by simp)
  go_upto_region 2 with fail
  generalize w1.alloc (.cells #[.int .u8 0] 5) = w2 at *
  have cm2 := hO1.kept.cell cm
  have HO : Aside0 _ := ⟨hO1⟩
  have HG : Aside0 _ := ⟨g15⟩
  have HC : Aside0 _ := ⟨c0⟩
  clear hO1 g15 c0
  go_wp2
  go_loopg [5, 12] N (fun kx s5 s12 wr => ∃ (i n : Nat) (A : Option Addr) (cp : Nat) (L : List Int), s12 = .int .i64 (i : Int) ∧ i ≤ N ∧ N - i ≤ kx ∧ s5 = .slice A n cp ∧ Aside0 (OB w1 wr (.slice A n cp) L ∧ Oct L ∧ L.length = n) ∧ 1 ≤ n ∧ n ≤ 1 + 807 * i)
  case atStart => exact ⟨0, 1, _, 1, [0], rfl, by omega, by omega, rfl, ⟨HO.out, fun x hx => by simp at hx; omega, rfl⟩, by omega, by omega⟩
  case round =>
    obtain ⟨i, n, A, cp, L, rfl, hi, hkx, rfl, D, hn1, hn2⟩ := hrel
    by_cases hlt : i < N
    · have hiz : (i : Int) < (N : Int) := by omega
      obtain ⟨ad, A3, c3, rfl, r0, r1, r2, r3, l3, g3⟩ := at_T67 HG.out (i : Int) (by omega) (by omega)
      rw [Int.toNat_natCast] at r0 r1 r2 r3
      obtain ⟨y, hy⟩ : ∃ y, rd_T67 x.f15 (i : Int) = y := ⟨_, rfl⟩
      rw [hy] at r0 r1 r2 r3 l3 g3
      rw [rd67 x.f15 i (by rw [HN.out]; exact hlt)] at hy
      have hy3 : y.f3.length ≤ 400 := HX.out.1 y (by rw [← hy]; simp)
      have hwy : Wo w1 (.slice A3 y.f3.length c3) y.f3 := ⟨_, _, rfl, l3, g3⟩
      clear g3 l3 hy
      replace r0 := D.out.1.kept.cell r0
      replace r1 := D.out.1.kept.cell r1
      replace r2 := D.out.1.kept.cell r2
      replace r3 := D.out.1.kept.cell r3
      obtain ⟨e, he⟩ : ∃ e, y.f3.length = e := ⟨_, rfl⟩
      obtain ⟨a, ha⟩ : ∃ a, y.f0 = a := ⟨_, rfl⟩
      obtain ⟨b, hb⟩ : ∃ b, y.f1 = b := ⟨_, rfl⟩
      obtain ⟨c, hc'⟩ : ∃ c, y.f2 = c := ⟨_, rfl⟩
      rw [he] at r3 hwy
      rw [ha] at r0
      rw [hb] at r1
      rw [hc'] at r2
      have hz7 := zero67
      have N1 := new_row wr (r67 0 0 0 (.slice none 0 0)).toArray (r67 a b c (.slice A3 e c3)).toArray 67
      have sz : (Tryz.prog.info? 67).map (·.size) = some (r67 a b c (.slice A3 e c3)).toArray.size := size67 _ rfl
      have hone : (r67 a b c (.slice A3 e c3)).toArray.all (·.oneCell') = true := by kernel_rfl
      go_upto_region 6 with (refine wpList_store_rowTo rfl 67 (.tmp 7) (.tmp 15) rfl rfl wr.heap.size (r67 a b c (.slice A3 e c3)).toArray rfl rfl 67 (r67 0 0 0 (.slice none 0 0)).toArray (heap_alloc_new _ _) sz rfl hone ?_)
      obtain ⟨f1, k1⟩ := N1
      have O := D.out.1.keep k1
      have hvl : ∀ g, (Value.slice A n cp).ownBlock = some g → g < wr.heap.size := fun g hg => (D.out.1.row.lt g hg).2
      have c0 := O.kept.cell HC.out
      have HL : Aside0 _ := ⟨D.out.2⟩
      have HW : Aside0 _ := ⟨And.intro hwy he⟩
      clear r0 r1 r2 r3 k1 hwy
      generalize (wr.alloc (.cells (r67 0 0 0 (.slice none 0 0)).toArray 67)).setRow wr.heap.size (r67 a b c (.slice A3 e c3)).toArray = W at *
      have hxv : ¬ some wr.heap.size = (Value.slice A n cp).ownBlock := fun h => by have := hvl _ h.symm; omega
      generalize wr.heap.size = xb at *
      have x0 : W.cell? ⟨xb, 0, none⟩ = some (.int .u16 a) := by rw [cell_of_row W xb 0 _ 67 (0, 0) f1]; rfl
      have x1 : W.cell? ⟨xb, 1, none⟩ = some (.int .u16 b) := by rw [cell_of_row W xb 1 _ 67 (0, 0) f1]; rfl
      have x2 : W.cell? ⟨xb, 2, none⟩ = some (.int .u16 c) := by rw [cell_of_row W xb 2 _ 67 (0, 0) f1]; rfl
      have x3 : W.cell? ⟨xb, 3, none⟩ = some (.slice A3 e c3) := by rw [cell_of_row W xb 3 _ 67 (0, 0) f1]; rfl
      have hn : n ≤ 90000 := by omega
      have hL : L.length = n := HL.out.2
      clear f1 hvl hz7 sz hone D
      rcases hc with hc | hc
      all_goals
        rw [hc] at c0
        go_upto_region 5 with fail
        refine start_ (n := 13) (S := fun w' => Kept W w' (fun b => some b = (Value.slice A n cp).ownBlock)) (ds := [11]) (mk 13 0) (by kernel_rfl) rfl (by kernel_rfl) (Kept.drew W _) (fun hHeld => ?_)
        skip
        refine pure_ (i := 0) (N := (some 16)) (v := ?_) (a' := ?_) (mk 13 1) rfl rfl (by kernel_rfl) (fun _ _ _ h => h) (.inl ⟨by rfl, ?_⟩) ?_ ?_
        rotate_left
        · intro w'; go_simp; with_reducible rfl
        rotate_left
        · (try simp only [pt, p0, p1, p2]); rfl
        refine pure_ (i := 3) (N := (some 19)) (v := ?_) (a' := ?_) (mk 13 9) rfl rfl (by kernel_rfl) (fun _ _ _ h => h) (.inl ⟨by rfl, ?_⟩) ?_ ?_
        rotate_left
        · intro w'; go_simp; with_reducible rfl
        rotate_left
        · (try simp only [pt, p0, p1, p2]); rfl
        refine take_ (i := 4) (N := (some 20)) (v := ?_) (a' := ?_) (mk 13 25) rfl rfl (by kernel_rfl) (fun _ _ _ h => h) (.inl ⟨by rfl, ?_⟩) hHeld ?_ ?_
        rotate_left
        · intro w' hS; have q5 := hS.cellN hxv x0; go_simp; with_reducible rfl
        rotate_left
        · (try simp only [pt, p0, p1, p2]); rfl
        refine pure_ (i := 5) (N := (some 21)) (v := ?_) (a' := ?_) (mk 13 57) rfl rfl (by kernel_rfl) (fun _ _ _ h => h) (.inl ⟨by rfl, ?_⟩) ?_ ?_
        rotate_left
        · intro w'; go_simp; with_reducible rfl
        rotate_left
        · (try simp only [pt, p0, p1, p2]); rfl
        refine take_ (i := 6) (N := (some 22)) (v := ?_) (a' := ?_) (mk 13 121) rfl rfl (by kernel_rfl) (fun _ _ _ h => h) (.inl ⟨by rfl, ?_⟩) hHeld ?_ ?_
        rotate_left
        · intro w' hS; have q5 := hS.cellN hxv x1; go_simp; with_reducible rfl
        rotate_left
        · (try simp only [pt, p0, p1, p2]); rfl
        refine pure_ (i := 7) (N := (some 23)) (v := ?_) (a' := ?_) (mk 13 249) rfl rfl (by kernel_rfl) (fun _ _ _ h => h) (.inl ⟨by rfl, ?_⟩) ?_ ?_
        rotate_left
        · intro w'; go_simp; with_reducible rfl
        rotate_left
        · (try simp only [pt, p0, p1, p2]); rfl
        refine take_ (i := 8) (N := (some 24)) (v := ?_) (a' := ?_) (mk 13 505) rfl rfl (by kernel_rfl) (fun _ _ _ h => h) (.inl ⟨by rfl, ?_⟩) hHeld ?_ ?_
        rotate_left
        · intro w' hS; have q5 := hS.cellN hxv x2; go_simp; with_reducible rfl
        rotate_left
        · (try simp only [pt, p0, p1, p2]); rfl
        clear hHeld
        refine join_ (σ := Value × (Option Addr × Nat) × Nat) 3 (mk 13 1023) (fun s => [(17, s.1), (18, .slice s.2.1.1 (n + 1) s.2.1.2), (25, .slice (some ⟨s.2.2, 0, none⟩) 3 3)]) (fun s w' => LayJ w1 W w' A n cp L s.2.1.1 s.2.1.2 s.2.2 a b c) ?_ ?_
        rotate_left
        · intro hCont
          refine two_ (i := 1) (j := 9) (Ni := some 17) (Nj := some 25) (mk 13 507) (mk 13 1017) rfl rfl rfl rfl (by kernel_rfl) (by decide) (by decide) (fun K hK => ?_) (fun K hK => ?_)
          · rw [if_pos (by kernel_rfl)]
            refine wp_lit1 23 (.const (.int .u8 6)) rfl _ rfl _ _ (lit_6 _) ?_
            have kA := lay_al (Kept.drew W (fun b => some b = (Value.slice A n cp).ownBlock)) (.cells #[.int .u8 6] 5)
            refine hK.out _ _ kA (fun hHeld => ?_)
            clear hK K hHeld
            refine norm_ (a' := ?_) ?_ ?_
            rotate_left
            · show Act.put _ (some 17) _ = _
              (try simp only [Act.put, List.setIfInBounds_toArray, List.set_cons_zero, List.set_cons_succ])
              rfl
            refine two_ (i := 2) (j := 9) (Ni := some 18) (Nj := some 25) (mk 13 511) (mk 13 1019) rfl rfl rfl rfl (by kernel_rfl) (by decide) (by decide) (fun K hK => ?_) (fun K hK => ?_)
            · rw [if_pos (by kernel_rfl)]
              obtain ⟨A2, c2, wB, hB, oB, kB, nB⟩ := lay_app (O.keep (lay_al (Kept.drew W (fun _ => False)) _)) (one_rd .u8 W.drew 6 5) hL (by simp; omega) (by omega) 23
              have kS := kA.trans kB (H := (fun b => some b = (Value.slice A n cp).ownBlock)) (fun _ _ h => h) (fun _ _ h => h)
              refine wp_append (.tmp 16) (.tmp 17) 23 23 rfl _ _ rfl rfl (.slice A2 (n + 1) c2) wB hB ?_
              refine hK.out _ _ kS (fun hHeld => ?_)
              clear hK K hHeld
              refine norm_ (a' := ?_) ?_ ?_
              rotate_left
              · show Act.put _ (some 18) _ = _
                (try simp only [Act.put, List.setIfInBounds_toArray, List.set_cons_zero, List.set_cons_succ])
                rfl
              refine one_ (i := 9) (N := some 25) (mk 13 1023) rfl rfl (by kernel_rfl) (by decide) (fun K hK => ?_)
              rw [if_pos (by kernel_rfl)]
              refine wp_lit3 30 (.tmp 20) (.tmp 22) (.tmp 24) rfl _ _ _ rfl rfl rfl _ _ (lit_3 _ a b c) ?_
              have kC := lay_al kS (.cells #[.int .u16 a, .int .u16 b, .int .u16 c] 27)
              refine hK.out _ _ kC (fun hHeld => ?_)
              clear hK K hHeld
              refine norm_ (a' := ?_) ?_ ?_
              rotate_left
              · show Act.put _ (some 25) _ = _
                (try simp only [Act.put, List.setIfInBounds_toArray, List.set_cons_zero, List.set_cons_succ])
                rfl
              exact norm_ (by first | (simp only [putAll, Act.put, List.setIfInBounds_toArray, List.set_cons_zero, List.set_cons_succ]; done) | (simp only [putAll, Act.put, List.setIfInBounds_toArray, List.set_cons_zero, List.set_cons_succ]; rfl)) (hCont (_, (A2, c2), _) _ ⟨oB.keep (Kept.alloc wB _ (fun _ => False)), kC, thr_rd wB a b c, (fun g hg => (nB g hg).imp id fun h => Nat.le_trans kA.size h), kS.size⟩)
            · rw [if_pos (by kernel_rfl)]
              refine wp_lit3 30 (.tmp 20) (.tmp 22) (.tmp 24) rfl _ _ _ rfl rfl rfl _ _ (lit_3 _ a b c) ?_
              have kC := lay_al kA (.cells #[.int .u16 a, .int .u16 b, .int .u16 c] 27)
              refine hK.out _ _ kC (fun hHeld => ?_)
              clear hK K hHeld
              refine norm_ (a' := ?_) ?_ ?_
              rotate_left
              · show Act.put _ (some 25) _ = _
                (try simp only [Act.put, List.setIfInBounds_toArray, List.set_cons_zero, List.set_cons_succ])
                rfl
              refine one_ (i := 2) (N := some 18) (mk 13 1023) rfl rfl (by kernel_rfl) (by decide) (fun K hK => ?_)
              rw [if_pos (by kernel_rfl)]
              obtain ⟨A2, c2, wB, hB, oB, kB, nB⟩ := lay_app (O.keep (lay_al (lay_al (Kept.drew W (fun _ => False)) _) _)) ((one_rd .u8 W.drew 6 5).keep (Kept.alloc _ _ (fun _ => False))) hL (by simp; omega) (by omega) 23
              have kS := kC.trans kB (H := (fun b => some b = (Value.slice A n cp).ownBlock)) (fun _ _ h => h) (fun _ _ h => h)
              refine wp_append (.tmp 16) (.tmp 17) 23 23 rfl _ _ rfl rfl (.slice A2 (n + 1) c2) wB hB ?_
              refine hK.out _ _ kS (fun hHeld => ?_)
              clear hK K hHeld
              refine norm_ (a' := ?_) ?_ ?_
              rotate_left
              · show Act.put _ (some 18) _ = _
                (try simp only [Act.put, List.setIfInBounds_toArray, List.set_cons_zero, List.set_cons_succ])
                rfl
              exact norm_ (by first | (simp only [putAll, Act.put, List.setIfInBounds_toArray, List.set_cons_zero, List.set_cons_succ]; done) | (simp only [putAll, Act.put, List.setIfInBounds_toArray, List.set_cons_zero, List.set_cons_succ]; rfl)) (hCont (_, (A2, c2), _) _ ⟨oB, kS, (thr_rd _ a b c).beside kB (lay_ne O kA.size), (fun g hg => (nB g hg).imp id fun h => Nat.le_trans kC.size h), kA.size⟩)
          · rw [if_pos (by kernel_rfl)]
            refine wp_lit3 30 (.tmp 20) (.tmp 22) (.tmp 24) rfl _ _ _ rfl rfl rfl _ _ (lit_3 _ a b c) ?_
            have kC := lay_al (Kept.drew W (fun b => some b = (Value.slice A n cp).ownBlock)) (.cells #[.int .u16 a, .int .u16 b, .int .u16 c] 27)
            refine hK.out _ _ kC (fun hHeld => ?_)
            clear hK K hHeld
            refine norm_ (a' := ?_) ?_ ?_
            rotate_left
            · show Act.put _ (some 25) _ = _
              (try simp only [Act.put, List.setIfInBounds_toArray, List.set_cons_zero, List.set_cons_succ])
              rfl
            refine one_ (i := 1) (N := some 17) (mk 13 1019) rfl rfl (by kernel_rfl) (by decide) (fun K hK => ?_)
            rw [if_pos (by kernel_rfl)]
            refine wp_lit1 23 (.const (.int .u8 6)) rfl _ rfl _ _ (lit_6 _) ?_
            have kA := lay_al kC (.cells #[.int .u8 6] 5)
            refine hK.out _ _ kA (fun hHeld => ?_)
            clear hK K hHeld
            refine norm_ (a' := ?_) ?_ ?_
            rotate_left
            · show Act.put _ (some 17) _ = _
              (try simp only [Act.put, List.setIfInBounds_toArray, List.set_cons_zero, List.set_cons_succ])
              rfl
            refine one_ (i := 2) (N := some 18) (mk 13 1023) rfl rfl (by kernel_rfl) (by decide) (fun K hK => ?_)
            rw [if_pos (by kernel_rfl)]
            obtain ⟨A2, c2, wB, hB, oB, kB, nB⟩ := lay_app (O.keep (lay_al (lay_al (Kept.drew W (fun _ => False)) _) _)) (one_rd .u8 _ 6 5) hL (by simp; omega) (by omega) 23
            have kS := kA.trans kB (H := (fun b => some b = (Value.slice A n cp).ownBlock)) (fun _ _ h => h) (fun _ _ h => h)
            refine wp_append (.tmp 16) (.tmp 17) 23 23 rfl _ _ rfl rfl (.slice A2 (n + 1) c2) wB hB ?_
            refine hK.out _ _ kS (fun hHeld => ?_)
            clear hK K hHeld
            refine norm_ (a' := ?_) ?_ ?_
            rotate_left
            · show Act.put _ (some 18) _ = _
              (try simp only [Act.put, List.setIfInBounds_toArray, List.set_cons_zero, List.set_cons_succ])
              rfl
            exact norm_ (by first | (simp only [putAll, Act.put, List.setIfInBounds_toArray, List.set_cons_zero, List.set_cons_succ]; done) | (simp only [putAll, Act.put, List.setIfInBounds_toArray, List.set_cons_zero, List.set_cons_succ]; rfl)) (hCont (_, (A2, c2), _) _ ⟨oB, kS, ((thr_rd W.drew a b c).keep (Kept.alloc _ _ (fun _ => False))).beside kB (lay_ne O (Nat.le_refl _)), (fun g hg => (nB g hg).imp id fun h => Nat.le_trans kA.size h), Nat.le_refl _⟩)
        rintro ⟨vA, ⟨A2, c2⟩, gC⟩ wC hJ
        dsimp only at hJ
        refine norm_ (a' := ?_) ?_ ?_
        rotate_left
        · simp only [putAll, Act.put, List.setIfInBounds_toArray, List.set_cons_zero, List.set_cons_succ]
          rfl
        have hpt := wput_calls wC _ _ hJ.thr (by simp)
        refine one_ (i := 10) (N := some 26) (mk 13 2047) rfl rfl (by kernel_rfl) (by decide) (fun K hK => ?_)
        refine goes_ Tryz.func163 rfl rfl #[.slice (some ⟨gC, 0, none⟩) 3 3] (by kernel_rfl) rfl rfl (by (simp only [List.map_toArray, List.map_cons, List.map_nil]; rfl)) (hpt.mono fun e wp ht => ?_)
        obtain ⟨u, rfl, hO⟩ := ht
        obtain ⟨A5, c5, wD, hD, oD, kD, nD⟩ := lay_app (hJ.own.keep hO.kept) (hO.rd (by rw [wPut_len]; simp)) (by simp [hL]) (by rw [wPut_len]; simp; omega) (by omega) 23
        rw [wPut_len] at hD oD
        have kP := lay_kp hJ.kept hO.kept
        have kF := lay_fin kP kD hJ.nw
        refine ⟨u, rfl, hK.out _ _ kP (fun hHeld => ?_)⟩
        clear hK K hHeld
        refine norm_ (a' := ?_) ?_ ?_
        rotate_left
        · show Act.put _ (some 26) _ = _
          (try simp only [Act.put, List.setIfInBounds_toArray, List.set_cons_zero, List.set_cons_succ])
          rfl
        refine last_ (i := 11) (N := some 27) (mk 13 4095) rfl rfl (by kernel_rfl) (by decide) (fun K hK => ?_)
        rw [if_pos (by kernel_rfl)]
        refine wp_append (.tmp 18) (.tmp 26) 23 23 rfl _ _ rfl rfl (.slice A5 (n + 1 + 2 * [a, b, c].length) c5) wD hD ?_
        refine hK.out _ _ ?_
        clear hK K
        refine norm_ (a' := ?_) ?_ ?_
        rotate_left
        · show Act.put _ (some 27) _ = _; (try simp only [Act.put, List.setIfInBounds_toArray, List.set_cons_zero, List.set_cons_succ]); rfl
        refine pure_ (i := 12) (N := (some 5)) (v := ?_) (a' := ?_) (mk 13 8191) rfl rfl (by kernel_rfl) (fun _ _ _ h => h) (.inl ⟨by rfl, ?_⟩) ?_ ?_
        rotate_left
        · intro w'; go_simp; with_reducible rfl
        rotate_left
        · (try simp only [pt, p0, p1, p2]); rfl
        refine done_ (by kernel_rfl) ?_
        have x3' := kF.cellN hxv x3
        have hpw := wput_calls wD _ y.f3 (HW.out.1.keep oD.kept) (by have := HW.out.2; omega)
        have hL7 : (L ++ [6] ++ wPut [a, b, c]).length = n + 1 + 6 := by simp [wPut_len, hL]
        have HD : Aside0 (OB w1 wD (.slice A5 (n + 1 + 6) c5) (L ++ [6] ++ wPut [a, b, c])) := ⟨oD⟩
        have he4 : e ≤ 400 := by have := HW.out.2; omega
        clear hJ hO kP kD nD hpt x0 x1 x2 x3 hD c0 O kF oD
        go_wp2_with (first
          | (go_at_call 163; with_reducible refine hpw.mono ?_; rintro e' wE ⟨u2, rfl, hO2⟩; obtain ⟨A6, c6, wF, hF, oF, kF, -⟩ := lay_app (HD.out.keep hO2.kept) (hO2.rd (by rw [wPut_len, HW.out.2]; omega)) hL7 (by rw [wPut_len, HW.out.2]; omega) (by omega) 23; rw [wPut_len, HW.out.2] at hF oF)
          | (refine wpList_app rfl (.tmp 45) (.tmp 48) 23 23 rfl (some 49) rfl (.slice A5 (n + 1 + 6) c5) u2 rfl rfl (.slice A6 (n + 1 + 6 + 2 * e) c6) wF hF ?_))
        go_roundg (N - (i + 1))
        case measure => omega
        case rel => exact ⟨i + 1, n + 1 + 6 + 2 * e, A6, c6, _, by go_num, by omega, by omega, rfl, ⟨oF, ((HL.out.1.app (fun x hx => by simp at hx; omega)).app (wPut_oct _)).app (wPut_oct _), by rw [List.length_append, hL7, wPut_len, HW.out.2]⟩, by omega, by omega⟩
    · have hge : ¬ ((i : Int) < (N : Int)) := by omega
      obtain ⟨g, cap, cur, hA, -, hg, hnc, hcm, hcs, htake⟩ := D.out.1.row.2.resolve_left (fun h => by have := D.out.2.2; omega)
      injection hA with hA1 hA2 hA3
      subst hA1 hA3
      have hcur : 0 < cur.size := by omega
      have hnz : (n : Int) ≤ 90000 := by omega
      have HB : Aside0 _ := ⟨And.intro D.out (And.intro hg (And.intro hcs htake))⟩
      clear D htake hcs hA2
      go_wp2_with (refine wpList_plain rfl fun _ hK => wp_store_cell 5 (.tmp 56) (.tmp 55) rfl g 0 _ rfl rfl rfl 5 cur hg hcur (by kernel_rfl) (hK _ _ ?_))
      go_ret
      obtain ⟨⟨hO, hOct, hLn⟩, hg, hcs, htake⟩ := HB.out
      obtain ⟨l0, t, rfl⟩ : ∃ l0 t, L = l0 :: t := by
        cases L with
        | nil => (simp at hLn; omega)
        | cons l0 t => exact ⟨l0, t, rfl⟩
      have hgw := hO.new g rfl
      have q := Kept.setCell wr g 0 (.int .u8 (((n : Int) - 1) % 256)) (F := fun b => b = g) rfl
      refine ⟨_, rfl, ((n : Int) - 1) % 256 :: t, ⟨⟨by simp, .inr ⟨g, cp, cur.setIfInBounds 0 (.int .u8 (((n : Int) - 1) % 256)), (by simp at hLn ⊢; omega), Nat.zero_le _, setCell_row hg, (by simp at hLn ⊢; omega), hcm, by simpa using hcs, ?_⟩⟩, fun b hb => ?_, (HK1.out.trans hO.kept (H := fun _ => False) (fun _ _ h => h) (fun _ _ h => h)).trans q (fun _ _ h => h) (fun b hb e => ?_)⟩, fun x hx => ?_, ?_⟩
      · rw [List.length_cons] at hLn
        have h2 : n = t.length + 1 := by omega
        subst h2
        have h1 : cur.toList.take (t.length + 1) = .int .u8 l0 :: t.map (Value.int .u8) := by simpa using htake
        rw [Array.toList_setIfInBounds]
        cases hc2 : cur.toList with
        | nil => rw [hc2] at h1; simp at h1
        | cons a0 r0 =>
          rw [hc2] at h1
          simp only [List.take_succ_cons, List.cons.injEq] at h1
          simp [h1.2]
      · injection hb with hb
        have := HK1.out.size
        subst hb
        exact Nat.le_trans this hgw
      · have := HK1.out.size
        have h3 : b = g := e
        omega
      · rcases List.mem_cons.1 hx with rfl | hx
        · omega
        · exact hOct x (List.mem_cons_of_mem _ hx)
      · simp at hLn ⊢
        omega
set_option maxHeartbeats 1000000 in
set_option maxRecDepth 1000000 in
theorem files_write (x : S35) (L : List Int → Prop) (P : List Int → S35 × Int) (hL : Laid 154 x L) (hP : ∀ l, L l → Parses 127 x.f0 l (P l)) (fx : Fit x) (fP : ∀ l, L l → l.length ≤ 90000 → Fit (P l).1 ∧ (P l).1.f21 = []) : Writes 128 x L P := by
  intro w cs hK
  have f0 := heap_alloc_new w (.cells cs.toArray 35)
  have q0 := Kept.alloc w (.cells cs.toArray 35) (fun _ => False)
  have K0 := k35.K_below q0.toBelow hK
  have hs := cons35 hK
  have c0 : (w.alloc (.cells cs.toArray 35)).cell? ⟨w.heap.size, 0, none⟩ = some (.int .u8 x.f0) := (MsgAt.box hK).g0
  clear hK
  go_enter Tryz.func128, Tryz.ntmps128
  go_upto_region 1 with fail
  generalize w.alloc (.cells cs.toArray 35) = w0 at *
  generalize w.heap.size = mb at *
  have hl := hL w0 cs K0
  have KX : Aside0 _ := ⟨And.intro hP (And.intro fP fx)⟩
  clear hL hP fx fP
  go_upto_region 2 with (first
    | (refine wpList_load_row rfl 35 (.tmp 3) rfl mb rfl 35 cs.toArray (0, 0) _ f0 Tryz.underlying35 rfl (sizeM _ hs) ?_)
    | (go_at_call 154; with_reducible refine hl.mono ?_; rintro e w1 ⟨v, b, rfl, hO, hLb, hbl⟩))
  have q1 := hO.kept
  have hB := hO.rd (by omega)
  replace f0 := q1.heap f0 (fun h => h)
  replace c0 := q1.cell c0
  have K1 := k35.K_below q1.toBelow K0
  have Q1 := q0.trans q1 (H := fun _ => False) (fun _ _ h => h) (fun _ _ h => h)
  have hp := KX.out.1 b hLb w1 v hB (by omega)
  have hfit := KX.out.2.1 b hLb hbl
  clear hl hO q1 q0 K0
  generalize hP0 : P b = p at *
  obtain ⟨y, e0⟩ := p
  simp only at hp hfit
  obtain ⟨A, c, rfl, -⟩ := hB.len
  have HB : Aside0 _ := ⟨And.intro hB (And.intro hLb (And.intro hbl hP0))⟩
  clear hB hLb hbl hP0
  have hz := zero35
  go_upto_region 3 with (first
    | (go_at_call 127; with_reducible refine hp.mono ?_; rintro e w2 ⟨ds, rfl, hdw, q2⟩; have hd := hdw w2 (Kept.refl _ _); have hds := cons35 hd; have N2 := new_row w2 (cs35 0).toArray ds.toArray 35; have hone := all_oneCell_toArray (k35.K_one hd))
    | (refine wpList_store_rowTo rfl 35 (.tmp 7) (.tmp 18) rfl rfl w2.heap.size ds.toArray rfl rfl 35 (cs35 0).toArray (heap_alloc_new _ _) (sizeM _ hds) (by rw [hds]; rfl) hone ?_))
  obtain ⟨f2, k2⟩ := N2
  have Q2 := q2.trans k2 (H := fun _ => False) (fun _ _ h => h) (fun _ _ h => h)
  replace f0 := Q2.heap f0 (fun h => h)
  have Ky := k35.K_below k2.toBelow hd
  have Kx := k35.K_below Q2.toBelow K1
  have Q3 := Q1.trans Q2 (H := fun _ => False) (fun _ _ h => h) (fun _ _ h => h)
  have HB2 := HB.out.1.keep Q2
  generalize (w2.alloc (.cells (cs35 0).toArray 35)).setRow w2.heap.size ds.toArray = w3 at *
  generalize w2.heap.size = yb at *
  have hsame := code_same w3 y x ds cs Ky Kx hfit.1 KX.out.2.2 hfit.2
  have HK : Aside0 _ := ⟨And.intro Q3 HB2⟩
  clear hp hfit hd q2 k2 Q2 Ky Kx Q3 Q1 K1 c0 hone HB2 hz
  by_cases he : e0 = 0
  · subst he
    by_cases hyx : y = x
    · have hdec : decide (y = x) = true := decide_eq_true hyx
      rw [hdec] at hsame
      have HY : Aside0 _ := ⟨hyx⟩
      clear hdec hyx
      go_wp2_with (first
        | (refine gate_guard (by rfl) ?_; dsimp only; refine wpList_load_row rfl 35 (.tmp 7) rfl yb rfl 35 ds.toArray (0, 0) _ f2 Tryz.underlying35 rfl (sizeM _ hds) ?_)
        | (refine gate_guard (by rfl) ?_; dsimp only; refine wpList_load_row rfl 35 (.tmp 3) rfl mb rfl 35 cs.toArray (0, 0) _ f0 Tryz.underlying35 rfl (sizeM _ hs) ?_)
        | (go_at_call 142; with_reducible refine hsame.mono ?_; rintro e w4 ⟨rfl, q4⟩; clear hsame))
      go_ret2
      refine ⟨HK.out.1.trans q4 (fun _ _ h => h) (fun _ _ h => h), .inr ⟨_, b, rfl, HK.out.2.keep q4, HB.out.2.1, ?_, HB.out.2.2.1⟩⟩
      rw [HB.out.2.2.2, HY.out]
    · have hdec : decide (y = x) = false := decide_eq_false hyx
      rw [hdec] at hsame
      have HY : Aside0 _ := ⟨hyx⟩
      clear hdec hyx
      go_wp2_with (first
        | (refine gate_guard (by rfl) ?_; dsimp only; refine wpList_load_row rfl 35 (.tmp 7) rfl yb rfl 35 ds.toArray (0, 0) _ f2 Tryz.underlying35 rfl (sizeM _ hds) ?_)
        | (refine gate_guard (by rfl) ?_; dsimp only; refine wpList_load_row rfl 35 (.tmp 3) rfl mb rfl 35 cs.toArray (0, 0) _ f0 Tryz.underlying35 rfl (sizeM _ hs) ?_)
        | (go_at_call 142; with_reducible refine hsame.mono ?_; rintro e w4 ⟨rfl, q4⟩; clear hsame))
      go_ret2
      exact ⟨HK.out.1.trans q4 (fun _ _ h => h) (fun _ _ h => h), .inl ⟨⟨b, HB.out.2.1, fun h => HY.out (congrArg Prod.fst (HB.out.2.2.2.symm.trans h))⟩, rfl⟩⟩
  · have heb : (e0 != 0) = true := by simpa using he
    have HE : Aside0 _ := ⟨he⟩
    clear hsame
    go_wp2
    go_ret2
    exact ⟨HK.out.1, .inl ⟨⟨b, HB.out.2.1, fun h => HE.out (congrArg Prod.snd (HB.out.2.2.2.symm.trans h))⟩, rfl⟩⟩
theorem files_codec {x : S35} (h : Small x) (hc : x.f0 = 20 ∨ x.f0 = 21) (h15 : x.f15.length ≤ 100) (hw : ∀ r ∈ x.f15, r.f3.length ≤ 400) : Codec x 127 128 := by
  refine ⟨filesP x.f0, files_write x Oct (filesP x.f0) (filesLay_calls x hc h15 hw) (fun l ho => filesP_calls x.f0 hc l ho) h.fit (fun l _ hl => filesP_fit x.f0 hc l hl), fun l ho => filesP_calls x.f0 hc l ho, ?_, enters_of Tryz.func127 (by kernel_rfl) rfl, enters_of Tryz.func128 (by kernel_rfl) rfl⟩
  rcases hc with e | e <;> rw [e]
  · exact hit_of 16 rfl (by simp [pofT])
  · exact hit_of 17 rfl (by simp [pofT])
end Go.Proofs.YtmbjlondehcheaaGreatDoor
end
section
set_option linter.unusedSimpArgs false
set_option linter.unusedVariables false
namespace Go.Proofs.YtmbjlondehcheaaGreatDoor
open Go.Shelf Go.RowKit Go.Lib Go.Sort Go.Proofs.YtmbjlondehcheaaGreatDoorW.PrintWords Go.Proofs.YtmbjlondehcheaaGreatDoorW.PrintLast Go.Proofs.YtmbjlondehcheaaGreatDoor.PTopTalk
structure FewP (x : S35) : Prop where
  l12 : x.f12.length ≤ 300
  l13 : x.f13.length ≤ 2500
  l14 : x.f14.length ≤ 300
  l15 : x.f15.length ≤ 50
  l21 : x.f21.length ≤ 100
  r15 : ∀ i (h : i < x.f15.length), (x.f15[i]).f3.length ≤ 200
set_option maxHeartbeats 2000000 in
set_option maxRecDepth 1000000 in
theorem few_calls (w : World) (x : S35) (cs : List Value) (hK : k35.K w x cs) : Calls Tryz.prog 6 #[.agg cs.toArray] w fun r w' => (r = .returned (.bool false) ∨ r = .returned (.bool true) ∧ FewP x) ∧ Kept w w' (fun _ => False) := by
  have q1 := Kept.alloc w (.cells cs.toArray 35) (fun _ => False)
  have f1 := heap_alloc_new w (.cells cs.toArray 35)
  have hK1 := k35.K_below q1.toBelow hK
  obtain ⟨A12, c12, A13, c13, A14, c14, A15, c15, A21, c21, hcs, l12, g12, l13, g13, l14, g14, l15, g15, l21, g21⟩ := k35_open hK1
  have HCS : Aside0 _ := ⟨hcs⟩
  have HG15 : Aside0 _ := ⟨g15⟩
  have HG21 : Aside0 _ := ⟨g21⟩
  have hb12 := g12.2.1
  have hb13 := g13.2.1
  have hb14 := g14.2.1
  have hb15 := g15.2.1
  have hb21 := g21.2.1
  clear hcs g12 g13 g14 g15 g21 hK hK1
  go_enter Tryz.func6, Tryz.ntmps6
  go_upto_region 1 with fail
  generalize w.alloc (.cells cs.toArray 35) = w1 at *
  generalize w.heap.size = mb at *
  have a12 : w1.cell? ⟨mb, 12, none⟩ = some (.slice A12 x.f12.length c12) := by rw [cell_of_row w1 mb 12 _ 35 (0, 0) f1, HCS.out]; rfl
  have a13 : w1.cell? ⟨mb, 13, none⟩ = some (.slice A13 x.f13.length c13) := by rw [cell_of_row w1 mb 13 _ 35 (0, 0) f1, HCS.out]; rfl
  have a14 : w1.cell? ⟨mb, 14, none⟩ = some (.slice A14 x.f14.length c14) := by rw [cell_of_row w1 mb 14 _ 35 (0, 0) f1, HCS.out]; rfl
  have a15 : w1.cell? ⟨mb, 15, none⟩ = some (.slice A15 x.f15.length c15) := by rw [cell_of_row w1 mb 15 _ 35 (0, 0) f1, HCS.out]; rfl
  have a21 : w1.cell? ⟨mb, 21, none⟩ = some (.slice A21 x.f21.length c21) := by rw [cell_of_row w1 mb 21 _ 35 (0, 0) f1, HCS.out]; rfl
  have K1 : Aside0 _ := ⟨q1⟩
  clear f1 q1 l12 l13 l14 l15 l21
  obtain ⟨n12, e12⟩ : ∃ n, x.f12.length = n := ⟨_, rfl⟩
  obtain ⟨n13, e13⟩ : ∃ n, x.f13.length = n := ⟨_, rfl⟩
  obtain ⟨n14, e14⟩ : ∃ n, x.f14.length = n := ⟨_, rfl⟩
  obtain ⟨n15, e15⟩ : ∃ n, x.f15.length = n := ⟨_, rfl⟩
  obtain ⟨n21, e21⟩ : ∃ n, x.f21.length = n := ⟨_, rfl⟩
  rw [e12] at a12 hb12
  rw [e13] at a13 hb13
  rw [e14] at a14 hb14
  rw [e15] at a15 hb15
  rw [e21] at a21 hb21
  have HE : Aside0 (x.f12.length = n12 ∧ x.f13.length = n13 ∧ x.f14.length = n14 ∧ x.f15.length = n15 ∧ x.f21.length = n21) := ⟨⟨e12, e13, e14, e15, e21⟩⟩
  clear e12 e13 e14 e15 e21
  by_cases h12 : (300 : Int) < (n12 : Int)
  · go_wp2
    go_ret
    exact ⟨.inl rfl, K1.out⟩
  by_cases h13 : (2500 : Int) < (n13 : Int)
  · go_wp2
    go_ret
    exact ⟨.inl rfl, K1.out⟩
  by_cases h14 : (300 : Int) < (n14 : Int)
  · go_wp2
    go_ret
    exact ⟨.inl rfl, K1.out⟩
  by_cases h15 : (50 : Int) < (n15 : Int)
  · go_wp2
    go_ret
    exact ⟨.inl rfl, K1.out⟩
  by_cases h21 : (100 : Int) < (n21 : Int)
  · go_wp2
    go_ret
    exact ⟨.inl rfl, K1.out⟩
  go_wp2
  have HN : Aside0 (n12 ≤ 300 ∧ n13 ≤ 2500 ∧ n14 ≤ 300 ∧ n15 ≤ 50 ∧ n21 ≤ 100) := ⟨⟨by omega, by omega, by omega, by omega, by omega⟩⟩
  clear a12 a13 a14 h12 h13 h14 h15 h21 hb12 hb13 hb14
  go_loopg [3] n15 (fun kx s3 wr => ∃ i : Nat, s3 = .int .i64 (i : Int) ∧ i ≤ n15 ∧ n15 - i ≤ kx ∧ wr = w1 ∧ Aside0 (∀ j (h : j < x.f15.length), j < i → (x.f15[j]).f3.length ≤ 200))
  case atStart => exact ⟨0, rfl, Nat.zero_le _, Nat.le_refl _, rfl, ⟨fun j h hj => by omega⟩⟩
  case round =>
    obtain ⟨i, rfl, hi, hkx, e1, D⟩ := hrel
    subst e1
    by_cases hlt : i < n15
    · have hiz : (i : Int) < (n15 : Int) := by omega
      have hiz2 : (i : Int) < (x.f15.length : Int) := by rw [HE.out.2.2.2.1]; exact hiz
      obtain ⟨ad, A3, c3, rfl, r0, r1, r2, r3, l3, hC3⟩ := at_T67 HG15.out (i : Int) (by omega) hiz2
      rw [Int.toNat_natCast] at r0 r1 r2 r3
      have hy : rd_T67 x.f15 (i : Int) = x.f15[i]'(by omega) := rd67 x.f15 i (by omega)
      rw [hy] at r3
      clear r0 r1 r2 l3 hC3 hy
      obtain ⟨m, hm⟩ : ∃ m, (x.f15[i]'(by have := HE.out.2.2.2.1; omega)).f3.length = m := ⟨_, rfl⟩
      rw [hm] at r3
      have HM : Aside0 _ := ⟨hm⟩
      clear hm
      by_cases hbig : (200 : Int) < (m : Int)
      · go_wp2
        go_ret
        exact ⟨.inl rfl, K1.out⟩
      · have D2 : Aside0 (∀ j (h : j < x.f15.length), j < i + 1 → (x.f15[j]).f3.length ≤ 200) := ⟨fun j h hj => by
          by_cases hji : j = i
          · subst hji; have := HM.out; omega
          · exact D.out j h (by omega)⟩
        go_wp2
        go_roundg (n15 - (i + 1))
        case measure => omega
        case rel => exact ⟨i + 1, by go_num, by omega, Nat.le_refl _, rfl, D2⟩
    · have hge : ¬ ((i : Int) < (n15 : Int)) := by omega
      have D2 : Aside0 (FewP x) := ⟨by
        obtain ⟨e1, e2, e3, e4, e5⟩ := HE.out
        obtain ⟨b1, b2, b3, b4, b5⟩ := HN.out
        exact ⟨by omega, by omega, by omega, by omega, by omega, fun j h => D.out j h (by omega)⟩⟩
      go_wp2
      clear D hge hlt hkx hi
      go_loopg [4] n21 (fun kx s4 wx => ∃ i : Nat, s4 = .int .i64 (i : Int) ∧ i ≤ n21 ∧ n21 - i ≤ kx ∧ wx = wr)
      case atStart => exact ⟨0, rfl, Nat.zero_le _, Nat.le_refl _, rfl⟩
      case round =>
        obtain ⟨i, rfl, hi, hkx, e1⟩ := hrel
        subst e1
        by_cases hlt : i < n21
        · have hiz : (i : Int) < (n21 : Int) := by omega
          have hiz2 : (i : Int) < (x.f21.length : Int) := by rw [HE.out.2.2.2.2]; exact hiz
          obtain ⟨ad, A1, c1, rfl, r0, r1, l1, hC1⟩ := at_T69 HG21.out (i : Int) (by omega) hiz2
          rw [Int.toNat_natCast] at r0 r1
          clear r0 l1 hC1
          generalize (rd_T69 x.f21 (i : Int)).f1.length = m at *
          by_cases hbig : (300 : Int) < (m : Int)
          · go_wp2
            go_ret
            exact ⟨.inl rfl, K1.out⟩
          · go_wp2
            go_roundg (n21 - (i + 1))
            case measure => omega
            case rel => exact ⟨i + 1, by go_num, by omega, Nat.le_refl _, rfl⟩
        · have hge : ¬ ((i : Int) < (n21 : Int)) := by omega
          go_wp2
          go_ret
          exact ⟨.inr ⟨rfl, D2.out⟩, K1.out⟩
end Go.Proofs.YtmbjlondehcheaaGreatDoor
end
section
namespace Go.Proofs.YtmbjlondehcheaaGreatDoor.PTopTalk
open Go.RowKit Go.Proofs.YtmbjlondehcheaaGreatDoorW.PrintWords Go.Proofs.YtmbjlondehcheaaGreatDoorW.PrintLast
set_option linter.unusedVariables false
set_option linter.unusedSimpArgs false
def busbarref01_Words.l0 : Nat → List Int → List Int → Int → Option (Bool)
  | 0, _, _, _ => none
  | k + 1, x0, x1, x5 => if x5 < (x0.length : Int) then (if 0 ≤ x5 then (if x5 < (x1.length : Int) then (if (rd x0 x5) = (rd x1 x5) then (busbarref01_Words.l0 k x0 x1 (wrap64 (x5 + 1))) else (some false)) else (none)) else (none)) else (some true)
def busbarref01_Words.f (k : Nat) (l0 : List Int) (l1 : List Int) : Option (Bool) := if (l0.length : Int) = (l1.length : Int) then (busbarref01_Words.l0 k l0 l1 0) else (some false)
theorem busbarref01_Words.mono_l : ∀ k, (∀ y0 y1 y2, LeO (busbarref01_Words.l0 k y0 y1 y2) (busbarref01_Words.l0 (k + 1) y0 y1 y2))
  | 0 => fun _ _ _ r h => by simp [busbarref01_Words.l0] at h
  | k + 1 => by
    have ih0 := busbarref01_Words.mono_l k
    · intro y0 y1 y2
      unfold busbarref01_Words.l0
      repeat' first
      | (with_reducible exact ih0 _ _ _)
      | (with_reducible exact LeO.refl _)
      | (with_reducible exact LeO.none _)
      | (with_reducible refine LeO.ite ?_ ?_)
      | (with_reducible refine LeO.bind ?_ (fun _ => ?_))
      | exact ih0 _ _ _
      | exact LeO.none _
      | refine LeO.ite ?_ ?_
      | refine LeO.bind ?_ (fun _ => ?_)
theorem busbarref01_Words.mono : ∀ a0 a1 k, LeO (busbarref01_Words.f k a0 a1) (busbarref01_Words.f (k + 1) a0 a1) := by
  intro a0 a1 k
  have ih0 := busbarref01_Words.mono_l k
  unfold busbarref01_Words.f
  repeat' first
      | (with_reducible exact ih0 _ _ _)
      | (with_reducible exact LeO.refl _)
      | (with_reducible exact LeO.none _)
      | (with_reducible refine LeO.ite ?_ ?_)
      | (with_reducible refine LeO.bind ?_ (fun _ => ?_))
      | exact ih0 _ _ _
      | exact LeO.none _
      | refine LeO.ite ?_ ?_
      | refine LeO.bind ?_ (fun _ => ?_)
set_option maxHeartbeats 8000000 in
set_option maxRecDepth 100000 in
theorem busbarref01_Words.calls (k : Nat) (A0 : Option Addr) (c0 : Nat) (l0 : List Int) (A1 : Option Addr) (c1 : Nat) (l1 : List Int) (r : Bool) (w : World) (hr0 : Kd.C (Kd.int .u16) w A0 l0.length l0) (hc0 : l0.length ≤ c0) (hr1 : Kd.C (Kd.int .u16) w A1 l1.length l1) (hc1 : l1.length ≤ c1) (h : busbarref01_Words.f k l0 l1 = some r) :
    Calls Tryz.prog 36 #[.slice A0 l0.length c0, .slice A1 l1.length c1] w fun e w' => e = .returned (.bool r) ∧ Drawn0 w w' := by
  have HR0 := Aside0.mk hr0
  have HC0 := Aside0.mk hc0
  clear hr0 hc0
  have HR1 := Aside0.mk hr1
  have HC1 := Aside0.mk hc1
  clear hr1 hc1
  have H : (if (l0.length : Int) = (l1.length : Int) then (busbarref01_Words.l0 k l0 l1 0) else (some false)) = some r := h
  clear h
  by_cases c3 : (l0.length : Int) = (l1.length : Int)
  · rw [if_pos c3] at H
    have c3b0 : ((l0.length : Int) == (l1.length : Int)) = true := beq_iff_eq.mpr c3
    have c3b1 : ((l0.length : Int) != (l1.length : Int)) = false := bne_eq_false_iff_eq.mpr c3
    have c3b2 : (l0.length == l1.length) = true := by first | simpa using c3 | (simp at c3 ⊢; omega)
    clear c3
    have H' := Aside0.mk H
    clear H
    go_enter Tryz.func36, Tryz.ntmps36
    go_wp2
    repeat (go_quiet (fail); try go_wp2)
    go_loopg [5] k (fun kq v5 w' => ∃ (x5_1 : Int), v5 = .int .i64 x5_1 ∧ Aside0 (busbarref01_Words.l0 kq l0 l1 x5_1 = some r) ∧ Aside0 (kq ≤ k) ∧ Drawn0 w w')
    case atStart => exact ⟨(0), (by first | rfl | (simp; done) | (simp [*]; done)), H', ⟨Nat.le_refl _⟩, by repeat (first | exact Drawn0.refl _ | apply Drawn0.step)⟩
    case round =>
      clear H'
      try clear c1
      try clear p2
      try clear c3
      try clear c3b0
      try clear c3b1
      try clear c3b2
      obtain ⟨x5_1, rfl, HA, HK1, ⟨m1, rfl⟩⟩ := hrel
      cases gk with
      | zero => exact absurd HA.out (by simp [busbarref01_Words.l0])
      | succ k1 =>
        have H := HA.out
        clear HA
        simp only [busbarref01_Words.l0] at H
        by_cases c4 : x5_1 < (l0.length : Int)
        · rw [if_pos c4] at H
          have c4b0 : decide (x5_1 < (l0.length : Int)) = true := decide_eq_true c4
          clear c4
          by_cases c5 : 0 ≤ x5_1
          · rw [if_pos c5] at H
            have c5b0 : decide (0 ≤ x5_1) = true := decide_eq_true c5
            clear c5
            by_cases c6 : x5_1 < (l1.length : Int)
            · rw [if_pos c6] at H
              have c6b0 : decide (x5_1 < (l1.length : Int)) = true := decide_eq_true c6
              clear c6
              by_cases c7 : (rd l0 x5_1) = (rd l1 x5_1)
              · rw [if_pos c7] at H
                have c7b0 : ((rd l0 x5_1) == (rd l1 x5_1)) = true := beq_iff_eq.mpr c7
                have c7b1 : ((rd l0 x5_1) != (rd l1 x5_1)) = false := bne_eq_false_iff_eq.mpr c7
                clear c7
                have H' := Aside0.mk H
                clear H
                have p120 : 0 ≤ (x5_1 : Int) := of_decide_eq_true (by first | (with_reducible assumption) | assumption)
                have q120 : x5_1 < (l0.length : Int) := of_decide_eq_true (by first | (with_reducible assumption) | assumption)
                obtain ⟨ad120, e120, hx120_0⟩ := Kd.at_int HR0.out x5_1 p120 q120
                cases e120
                replace p120 := eq_true p120
                replace q120 := eq_true q120
                have p121 : 0 ≤ (x5_1 : Int) := of_decide_eq_true (by first | (with_reducible assumption) | assumption)
                have q121 : x5_1 < (l1.length : Int) := of_decide_eq_true (by first | (with_reducible assumption) | assumption)
                obtain ⟨ad121, e121, hx121_0⟩ := Kd.at_int HR1.out x5_1 p121 q121
                cases e121
                replace p121 := eq_true p121
                replace q121 := eq_true q121
                go_wp2
                repeat (go_quiet (fail); try go_wp2)
                go_roundg k1
                case measure => have := HK1.out; omega
                case rel => exact ⟨(wrap64 (x5_1 + 1)), (by first | rfl | (simp; done) | (simp [*]; done)), H', ⟨by have := HK1.out; omega⟩, by repeat (first | exact Drawn0.refl _ | apply Drawn0.step)⟩
              · rw [if_neg c7] at H
                have c7b0 : ((rd l0 x5_1) == (rd l1 x5_1)) = false := beq_eq_false_iff_ne.mpr c7
                have c7b1 : ((rd l0 x5_1) != (rd l1 x5_1)) = true := bne_iff_ne.mpr c7
                obtain rfl := Option.some.inj H
                have p120 : 0 ≤ (x5_1 : Int) := of_decide_eq_true (by first | (with_reducible assumption) | assumption)
                have q120 : x5_1 < (l0.length : Int) := of_decide_eq_true (by first | (with_reducible assumption) | assumption)
                obtain ⟨ad120, e120, hx120_0⟩ := Kd.at_int HR0.out x5_1 p120 q120
                cases e120
                replace p120 := eq_true p120
                replace q120 := eq_true q120
                have p121 : 0 ≤ (x5_1 : Int) := of_decide_eq_true (by first | (with_reducible assumption) | assumption)
                have q121 : x5_1 < (l1.length : Int) := of_decide_eq_true (by first | (with_reducible assumption) | assumption)
                obtain ⟨ad121, e121, hx121_0⟩ := Kd.at_int HR1.out x5_1 p121 q121
                cases e121
                replace p121 := eq_true p121
                replace q121 := eq_true q121
                go_wp2
                repeat (go_quiet (fail); try go_wp2)
                go_ret
                exact ⟨by first | rfl | (simp; done) | (simp [*]; done), by repeat (first | exact Drawn0.refl _ | apply Drawn0.step)⟩
            · rw [if_neg c6] at H
              exact absurd H (by simp)
          · rw [if_neg c5] at H
            exact absurd H (by simp)
        · rw [if_neg c4] at H
          have c4b0 : decide (x5_1 < (l0.length : Int)) = false := decide_eq_false c4
          clear c4
          obtain rfl := Option.some.inj H
          go_wp2
          repeat (go_quiet (fail); try go_wp2)
          go_ret
          exact ⟨by first | rfl | (simp; done) | (simp [*]; done), by repeat (first | exact Drawn0.refl _ | apply Drawn0.step)⟩
  · rw [if_neg c3] at H
    have c3b0 : ((l0.length : Int) == (l1.length : Int)) = false := beq_eq_false_iff_ne.mpr c3
    have c3b1 : ((l0.length : Int) != (l1.length : Int)) = true := bne_iff_ne.mpr c3
    have c3b2 : (l0.length == l1.length) = false := by first | simpa using c3 | (simp at c3 ⊢; omega)
    obtain rfl := Option.some.inj H
    go_enter Tryz.func36, Tryz.ntmps36
    go_wp2
    repeat (go_quiet (fail); try go_wp2)
    go_ret
    exact ⟨by first | rfl | (simp; done) | (simp [*]; done), by repeat (first | exact Drawn0.refl _ | apply Drawn0.step)⟩
def busbarref01_Bools.l0 : Nat → List Bool → List Bool → Int → Option (Bool)
  | 0, _, _, _ => none
  | k + 1, x0, x1, x5 => if x5 < (x0.length : Int) then (if 0 ≤ x5 then (if x5 < (x1.length : Int) then (if ((rdOf false x0 x5) != (rdOf false x1 x5)) = true then (some false) else (busbarref01_Bools.l0 k x0 x1 (wrap64 (x5 + 1)))) else (none)) else (none)) else (some true)
def busbarref01_Bools.f (k : Nat) (l0 : List Bool) (l1 : List Bool) : Option (Bool) := if (l0.length : Int) = (l1.length : Int) then (busbarref01_Bools.l0 k l0 l1 0) else (some false)
theorem busbarref01_Bools.mono_l : ∀ k, (∀ y0 y1 y2, LeO (busbarref01_Bools.l0 k y0 y1 y2) (busbarref01_Bools.l0 (k + 1) y0 y1 y2))
  | 0 => fun _ _ _ r h => by simp [busbarref01_Bools.l0] at h
  | k + 1 => by
    have ih0 := busbarref01_Bools.mono_l k
    · intro y0 y1 y2
      unfold busbarref01_Bools.l0
      repeat' first
      | (with_reducible exact ih0 _ _ _)
      | (with_reducible exact LeO.refl _)
      | (with_reducible exact LeO.none _)
      | (with_reducible refine LeO.ite ?_ ?_)
      | (with_reducible refine LeO.bind ?_ (fun _ => ?_))
      | exact ih0 _ _ _
      | exact LeO.none _
      | refine LeO.ite ?_ ?_
      | refine LeO.bind ?_ (fun _ => ?_)
theorem busbarref01_Bools.mono : ∀ a0 a1 k, LeO (busbarref01_Bools.f k a0 a1) (busbarref01_Bools.f (k + 1) a0 a1) := by
  intro a0 a1 k
  have ih0 := busbarref01_Bools.mono_l k
  unfold busbarref01_Bools.f
  repeat' first
      | (with_reducible exact ih0 _ _ _)
      | (with_reducible exact LeO.refl _)
      | (with_reducible exact LeO.none _)
      | (with_reducible refine LeO.ite ?_ ?_)
      | (with_reducible refine LeO.bind ?_ (fun _ => ?_))
      | exact ih0 _ _ _
      | exact LeO.none _
      | refine LeO.ite ?_ ?_
      | refine LeO.bind ?_ (fun _ => ?_)
set_option maxHeartbeats 8000000 in
set_option maxRecDepth 100000 in
theorem busbarref01_Bools.calls (k : Nat) (A0 : Option Addr) (c0 : Nat) (l0 : List Bool) (A1 : Option Addr) (c1 : Nat) (l1 : List Bool) (r : Bool) (w : World) (hr0 : Kd.C Kd.bool w A0 l0.length l0) (hc0 : l0.length ≤ c0) (hr1 : Kd.C Kd.bool w A1 l1.length l1) (hc1 : l1.length ≤ c1) (h : busbarref01_Bools.f k l0 l1 = some r) :
    Calls Tryz.prog 37 #[.slice A0 l0.length c0, .slice A1 l1.length c1] w fun e w' => e = .returned (.bool r) ∧ Drawn0 w w' := by
  have HR0 := Aside0.mk hr0
  have HC0 := Aside0.mk hc0
  clear hr0 hc0
  have HR1 := Aside0.mk hr1
  have HC1 := Aside0.mk hc1
  clear hr1 hc1
  have H : (if (l0.length : Int) = (l1.length : Int) then (busbarref01_Bools.l0 k l0 l1 0) else (some false)) = some r := h
  clear h
  by_cases c3 : (l0.length : Int) = (l1.length : Int)
  · rw [if_pos c3] at H
    have c3b0 : ((l0.length : Int) == (l1.length : Int)) = true := beq_iff_eq.mpr c3
    have c3b1 : ((l0.length : Int) != (l1.length : Int)) = false := bne_eq_false_iff_eq.mpr c3
    have c3b2 : (l0.length == l1.length) = true := by first | simpa using c3 | (simp at c3 ⊢; omega)
    clear c3
    have H' := Aside0.mk H
    clear H
    go_enter Tryz.func37, Tryz.ntmps37
    go_wp2
    repeat (go_quiet (fail); try go_wp2)
    go_loopg [5] k (fun kq v5 w' => ∃ (x5_1 : Int), v5 = .int .i64 x5_1 ∧ Aside0 (busbarref01_Bools.l0 kq l0 l1 x5_1 = some r) ∧ Aside0 (kq ≤ k) ∧ Drawn0 w w')
    case atStart => exact ⟨(0), (by first | rfl | (simp; done) | (simp [*]; done)), H', ⟨Nat.le_refl _⟩, by repeat (first | exact Drawn0.refl _ | apply Drawn0.step)⟩
    case round =>
      clear H'
      try clear c1
      try clear p2
      try clear c3
      try clear c3b0
      try clear c3b1
      try clear c3b2
      obtain ⟨x5_1, rfl, HA, HK1, ⟨m1, rfl⟩⟩ := hrel
      cases gk with
      | zero => exact absurd HA.out (by simp [busbarref01_Bools.l0])
      | succ k1 =>
        have H := HA.out
        clear HA
        simp only [busbarref01_Bools.l0] at H
        by_cases c4 : x5_1 < (l0.length : Int)
        · rw [if_pos c4] at H
          have c4b0 : decide (x5_1 < (l0.length : Int)) = true := decide_eq_true c4
          clear c4
          by_cases c5 : 0 ≤ x5_1
          · rw [if_pos c5] at H
            have c5b0 : decide (0 ≤ x5_1) = true := decide_eq_true c5
            clear c5
            by_cases c6 : x5_1 < (l1.length : Int)
            · rw [if_pos c6] at H
              have c6b0 : decide (x5_1 < (l1.length : Int)) = true := decide_eq_true c6
              clear c6
              by_cases c7 : ((rdOf false l0 x5_1) != (rdOf false l1 x5_1)) = true
              · rw [if_pos c7] at H
                have c7b0 : ((rdOf false l0 x5_1) != (rdOf false l1 x5_1)) = true := c7
                (try (have c7b1 : decide ((rdOf false l0 x5_1) = (rdOf false l1 x5_1)) = false := by simpa using c7))
                (try (have c7b2 : ((rdOf false l0 x5_1) == (rdOf false l1 x5_1)) = false := by simpa using c7))
                (try (have c7b3 : ¬ ((rdOf false l0 x5_1) = (rdOf false l1 x5_1)) := by simpa using c7))
                clear c7
                obtain rfl := Option.some.inj H
                have p122 : 0 ≤ (x5_1 : Int) := of_decide_eq_true (by first | (with_reducible assumption) | assumption)
                have q122 : x5_1 < (l0.length : Int) := of_decide_eq_true (by first | (with_reducible assumption) | assumption)
                obtain ⟨ad122, e122, hx122_0⟩ := Kd.at_bool HR0.out x5_1 p122 q122
                cases e122
                replace p122 := eq_true p122
                replace q122 := eq_true q122
                have p123 : 0 ≤ (x5_1 : Int) := of_decide_eq_true (by first | (with_reducible assumption) | assumption)
                have q123 : x5_1 < (l1.length : Int) := of_decide_eq_true (by first | (with_reducible assumption) | assumption)
                obtain ⟨ad123, e123, hx123_0⟩ := Kd.at_bool HR1.out x5_1 p123 q123
                cases e123
                replace p123 := eq_true p123
                replace q123 := eq_true q123
                go_wp2
                repeat (go_quiet (fail); try go_wp2)
                go_ret
                exact ⟨by first | rfl | (simp; done) | (simp [*]; done), by repeat (first | exact Drawn0.refl _ | apply Drawn0.step)⟩
              · rw [if_neg c7] at H
                have c7b0 : ((rdOf false l0 x5_1) != (rdOf false l1 x5_1)) = false := by simpa using c7
                (try (have c7b1 : decide ((rdOf false l0 x5_1) = (rdOf false l1 x5_1)) = true := by simpa using c7))
                (try (have c7b2 : ((rdOf false l0 x5_1) == (rdOf false l1 x5_1)) = true := by simpa using c7))
                clear c7
                have H' := Aside0.mk H
                clear H
                have p122 : 0 ≤ (x5_1 : Int) := of_decide_eq_true (by first | (with_reducible assumption) | assumption)
                have q122 : x5_1 < (l0.length : Int) := of_decide_eq_true (by first | (with_reducible assumption) | assumption)
                obtain ⟨ad122, e122, hx122_0⟩ := Kd.at_bool HR0.out x5_1 p122 q122
                cases e122
                replace p122 := eq_true p122
                replace q122 := eq_true q122
                have p123 : 0 ≤ (x5_1 : Int) := of_decide_eq_true (by first | (with_reducible assumption) | assumption)
                have q123 : x5_1 < (l1.length : Int) := of_decide_eq_true (by first | (with_reducible assumption) | assumption)
                obtain ⟨ad123, e123, hx123_0⟩ := Kd.at_bool HR1.out x5_1 p123 q123
                cases e123
                replace p123 := eq_true p123
                replace q123 := eq_true q123
                go_wp2
                repeat (go_quiet (fail); try go_wp2)
                go_roundg k1
                case measure => have := HK1.out; omega
                case rel => exact ⟨(wrap64 (x5_1 + 1)), (by first | rfl | (simp; done) | (simp [*]; done)), H', ⟨by have := HK1.out; omega⟩, by repeat (first | exact Drawn0.refl _ | apply Drawn0.step)⟩
            · rw [if_neg c6] at H
              exact absurd H (by simp)
          · rw [if_neg c5] at H
            exact absurd H (by simp)
        · rw [if_neg c4] at H
          have c4b0 : decide (x5_1 < (l0.length : Int)) = false := decide_eq_false c4
          clear c4
          obtain rfl := Option.some.inj H
          go_wp2
          repeat (go_quiet (fail); try go_wp2)
          go_ret
          exact ⟨by first | rfl | (simp; done) | (simp [*]; done), by repeat (first | exact Drawn0.refl _ | apply Drawn0.step)⟩
  · rw [if_neg c3] at H
    have c3b0 : ((l0.length : Int) == (l1.length : Int)) = false := beq_eq_false_iff_ne.mpr c3
    have c3b1 : ((l0.length : Int) != (l1.length : Int)) = true := bne_iff_ne.mpr c3
    have c3b2 : (l0.length == l1.length) = false := by first | simpa using c3 | (simp at c3 ⊢; omega)
    obtain rfl := Option.some.inj H
    go_enter Tryz.func37, Tryz.ntmps37
    go_wp2
    repeat (go_quiet (fail); try go_wp2)
    go_ret
    exact ⟨by first | rfl | (simp; done) | (simp [*]; done), by repeat (first | exact Drawn0.refl _ | apply Drawn0.step)⟩
def busbarref01_Same.f (l0 : List Int) (l1 : List Int) : Option (Bool) := some ((strOfNums l0).toList == (strOfNums l1).toList)
set_option maxHeartbeats 8000000 in
set_option maxRecDepth 100000 in
theorem busbarref01_Same.calls (A0 : Option Addr) (c0 : Nat) (l0 : List Int) (A1 : Option Addr) (c1 : Nat) (l1 : List Int) (r : Bool) (w : World) (hr0 : Kd.C (Kd.int .u8) w A0 l0.length l0) (hc0 : l0.length ≤ c0) (hr1 : Kd.C (Kd.int .u8) w A1 l1.length l1) (hc1 : l1.length ≤ c1) (h : busbarref01_Same.f l0 l1 = some r) :
    Calls Tryz.prog 38 #[.slice A0 l0.length c0, .slice A1 l1.length c1] w fun e w' => e = .returned (.bool r) ∧ Drawn0 w w' := by
  have HR0 := Aside0.mk hr0
  have HC0 := Aside0.mk hc0
  clear hr0 hc0
  have HR1 := Aside0.mk hr1
  have HC1 := Aside0.mk hc1
  clear hr1 hc1
  have H : (some ((strOfNums l0).toList == (strOfNums l1).toList)) = some r := h
  clear h
  obtain rfl := Option.some.inj H
  have hcv3 := Kd.C_string (P := Tryz.prog) (A := A0) (c := c0) Tryz.underlying23 Tryz.underlying5 Tryz.underlying9 HR0.out
  have hcv4 := Kd.C_string (P := Tryz.prog) (A := A1) (c := c1) Tryz.underlying23 Tryz.underlying5 Tryz.underlying9 HR1.out
  go_enter Tryz.func38, Tryz.ntmps38
  go_wp2
  go_ret
  exact ⟨by first | rfl | (simp; done) | (simp [*]; done), by repeat (first | exact Drawn0.refl _ | apply Drawn0.step)⟩
end Go.Proofs.YtmbjlondehcheaaGreatDoor.PTopTalk
end
