/- TopTalk: part 24 of the walks: of HTak, HIop, HRefN, HRng. -/
import Derived.Test.YtmbjlondehcheaaGreatDoorM23
section
set_option linter.unusedSimpArgs false
set_option linter.unusedVariables false
namespace Go.Proofs.YtmbjlondehcheaaGreatDoor
open Go.Shelf Go.RowKit Go.Lib Go.Sort Go.Proofs.YtmbjlondehcheaaGreatDoorW.PrintWords Go.Proofs.YtmbjlondehcheaaGreatDoorW.PrintLast Go.Proofs.YtmbjlondehcheaaGreatDoor.PTopTalk
set_option maxHeartbeats 1000000 in
set_option maxRecDepth 1000000 in
theorem inspTake0 {ty T : Nat} {cs : Int → Array Value} {net : Bool} {w : World} {ib s0 b0 s1 b1 pb : Nat} {F : Nat → Prop} {L : List Ent} {all n : Nat} (hI : InspI ty T cs net w ib s0 b0 s1 b1 pb F L all n) (hT52 : T ≠ 52) (ha : all < 1000000) (hn : n < 1000000) {sd bd : Nat} (hsd : sd = s0 ∧ bd = b0)
    {u t : Int} {x : S35} (hu : 0 ≤ u ∧ u < 256) (ht : 0 ≤ t ∧ t < 65536) (hc : 0 ≤ x.f0 ∧ x.f0 < 256) {v : Value} (hv1 : v.oneCell' = true) {τ : Bool} (hT : ∀ W, Kept w W (fun _ => False) → Calls Tryz.prog 16 #[(.pointer (some ⟨sd, 0, none⟩)), .agg #[v, .bool τ]] W fun r w' => Piece W w' r u t x (fun b => b = bd) ∧ StrI ty T (cs 0) w' sd bd) :
    Calls Tryz.prog 8 #[(.pointer (some ⟨ib, 0, none⟩)), .int .i64 0, .agg #[v, .bool τ]] w fun r w' => ∃ s, r = .returned s ∧ Noted ty T cs net w w' ib s0 b0 s1 b1 pb F L all n 0 bd u t x s := by
  have q1 := Kept.alloc w (.cells #[v, .bool τ] 45) (fun _ => False)
  have f1 := heap_alloc_new w (.cells #[v, .bool τ] 45)
  have hp := fun W (q : Kept (w.alloc (.cells #[v, .bool τ] 45)) W (fun _ => False)) => hT W (q1.trans q (fun _ _ h => h) (fun _ _ h => h))
  have hbx := q1.heap hI.box (fun h => h)
  have hibl := heap_lt hI.box
  have hnib : ¬ ib = bd := by have := hI.ni; obtain ⟨rfl, rfl⟩ := hsd; omega
  have hbdl : bd < w.heap.size := by have h0 := heap_lt hI.i0.str; have h1 := heap_lt hI.i1.str; obtain ⟨rfl, rfl⟩ := hsd; assumption
  have hFl : ∀ b, F b → b < w.heap.size := fun b => hI.own.lt
  have HI : Aside0 _ := ⟨hI⟩
  have HSE : Aside0 _ := ⟨hsd⟩
  clear hI hT hsd
  go_enter Tryz.func8, Tryz.ntmps8
  go_upto_region 4 with fail
  generalize w.alloc (.cells #[v, .bool τ] 45) = w1 at *
  have e1 := q1.size
  have hnf : ¬ w.heap.size = bd := by omega
  have K1 : Aside0 _ := ⟨q1⟩
  generalize hfb : w.heap.size = fb at *
  have HFB : Aside0 _ := ⟨hfb⟩
  have rb : w1.rangeAt fb 0 [v, .bool τ] := fun j u hj => by rw [cell_of_row w1 fb (0 + j) _ 45 (0, 0) f1]; simpa using hj
  have cs0 : w1.cell? ⟨ib, 0, none⟩ = some (.pointer (some ⟨sd, 0, none⟩)) := by rw [cell_of_row w1 ib 0 _ 64 (0, 0) hbx]; obtain ⟨rfl, rfl⟩ := HSE.out; rfl
  have hni : ¬ ib = bd := hnib
  have S0 := Kept.drew w1 (fun b => b = bd)
  clear hfb q1
  refine st 10 (fun w' => Kept w1 w' (fun b => b = bd)) [] S0 ?_
  refine pu 0 (some 17) (mk 10 1) ?_
  refine pu 1 (some 18) (mk 10 3) ?_
  refine pu 2 (some 19) (mk 10 7) ?_
  refine pu 3 (some 20) (mk 10 15) ?_
  refine pu 4 (some 21) (mk 10 31) ?_
  refine ld 5 (some 22) (mk 10 63) S0 ?_ (hy := .inl ⟨by rfl, by intro w' hS; have q1 := hS.cellN hni cs0; go_simp; with_reducible rfl⟩)
  refine pu 9 (some 26) (mk 10 575) ?_
  refine ld 6 (some 23) (mk 10 639) S0 (v := .agg #[v, .bool τ]) ?_ (hy := (yieldsIf_load_mid (by kernel_rfl) 45 (.tmp 5) rfl fb 0 rfl [v, .bool τ] _ (fun w' hS => fun j u hu => hS.cellN hnf (rb j u hu)) Tryz.underlying45 rfl (by kernel_rfl)))
  refine cl 7 (some 24) (mk 10 767) Tryz.func16 (args := #[(.pointer (some ⟨sd, 0, none⟩)), .agg #[v, .bool τ]]) (hp w1.drew (Kept.drew w1 _)) ?_
  rintro e w2 ⟨hPc, hs2⟩
  obtain ⟨vp, ds, rfl, hrow, hnew, hds, hD, k2⟩ := hPc
  have S1 := S0.trans k2 (H := fun b => b = bd) (fun _ _ h => h) (fun _ _ h => h)
  obtain ⟨pg, pc, rfl⟩ := row_form hrow
  refine ⟨_, rfl, S1, nm ?_⟩
  refine pu 8 (some 25) (mk 10 1023) ?_
  refine done_ (by kernel_rfl) ?_
  have K2 : Aside0 _ := ⟨k2⟩
  have HS2 : Aside0 _ := ⟨hs2⟩
  have HK : Aside0 _ := ⟨hD⟩
  have hone := all_oneCell_toArray (k35.K_one (hD w2 (Kept.refl _ _)))
  obtain ⟨f, hf⟩ := fr_Fr (hD w2 (Kept.refl _ _)) hu ht hc
  have rg2 : w2.rangeAt pg 0 (pcl u t ds) := fun j y hy => by
    have := hrow.cells (g := pg) rfl j y (by simpa using hy)
    rwa [Addr.add_mid] at this
  have e2 := k2.size
  have hbx2 := k2.heap hbx hnib
  have HF : Aside0 _ := ⟨hf⟩
  have HV : Aside0 _ := ⟨And.intro rg2 (And.intro hbx2 hone)⟩
  have HE : Aside0 (w.heap.size ≤ w1.heap.size ∧ w1.heap.size ≤ w2.heap.size) := ⟨by rw [HFB.out]; exact e1, e2⟩
  clear S0 S1 k2 hs2 hD hf hrow hnew hp hbx cs0 rb f1 hbdl hnf rg2 hbx2 hone e1 e2
  go_wp2
  go_loopg [7, 26] 1 (fun kx s7 s26 wr => (s26 = .int .i64 0 ∧ s7 = .slice none 0 0 ∧ 1 ≤ kx ∧ wr = w2) ∨ (s26 = .int .i64 1 ∧ ∃ g c, s7 = .slice (some ⟨g, 0, none⟩) 1 c ∧ Aside0 (Noted ty T cs net w wr ib s0 b0 s1 b1 pb F L all n 0 bd u t x (.slice (some ⟨g, 0, none⟩) 1 c))))
  case atStart => exact .inl ⟨rfl, rfl, Nat.le_refl _, rfl⟩
  case round =>
    rcases hrel with ⟨rfl, rfl, hkx, rfl⟩ | ⟨rfl, g, c, rfl, D⟩
    · obtain ⟨rg2, hbx2, hone⟩ := id HV.out
      obtain ⟨P47, hP47⟩ : ∃ P, pcl u t ds = P := ⟨_, rfl⟩
      obtain ⟨R50, hR50⟩ : ∃ P, nrow n 0 u t ds (.slice none 0 0) = P := ⟨_, rfl⟩
      have sz47 := size47 (u := u) (t := t) hds
      have sz47' : (Tryz.prog.info? 47).map (·.size) = some (pcl u t ds).toArray.size := by rw [List.size_toArray]; exact sz47
      have bt50 := built50 n 0 u t ds hds
      have sz50 := size50 (n := n) (dir := 0) (u := u) (t := t) (v := .slice none 0 0) hds
      have hl50 : (nrow 0 0 0 0 (cs35 0) (.slice none 0 0)).toArray.size = (nrow n 0 u t ds (.slice none 0 0)).toArray.size := by rw [List.size_toArray, List.size_toArray, nrow_len hds]; rfl
      have on50 := all_oneCell_toArray (nrow_one (n := n) (dir := 0) (u := u) (t := t) hone (v := .slice none 0 0) rfl)
      have on47 := all_oneCell_toArray (pcl_one (u := u) (t := t) hone)
      have hl47 : (#[.int .i64 0, .int .u8 0, .int .u16 0, .int .u8 0, .int .u8 0, .int .u16 0, .int .u16 0, .int .u16 0, .int .u16 0, .int .u16 0, .int .u16 0, .int .u16 0, .int .u16 0, .int .u16 0, .int .u16 0, .slice none 0 0, .slice none 0 0, .slice none 0 0, .slice none 0 0, .int .u8 0, .int .u8 0, .int .u8 0, .int .u8 0, .int .u8 0, .slice none 0 0] : Array Value).size = (pcl u t ds).toArray.size := by rw [List.size_toArray, List.size_toArray, pcl_len hds]; rfl
      have N3 := new_row wr #[.int .i64 0, .int .u8 0, .int .u16 0, .int .u8 0, .int .u8 0, .int .u16 0, .int .u16 0, .int .u16 0, .int .u16 0, .int .u16 0, .int .u16 0, .int .u16 0, .int .u16 0, .int .u16 0, .int .u16 0, .slice none 0 0, .slice none 0 0, .slice none 0 0, .slice none 0 0, .int .u8 0, .int .u8 0, .int .u8 0, .int .u8 0, .int .u8 0, .slice none 0 0] (pcl u t ds).toArray 47
      have hp0 : (pcl u t ds)[0]? = some (.int .i64 0) := rfl
      have hf1 : ∀ j y, f.cs[j]? = some y → (pcl u t ds)[1 + j]? = some y := fun j y hy => by rw [HF.out.1] at hy; rw [Nat.add_comm]; exact hy
      rw [hP47] at rg2 sz47 sz47' bt50 on47 hl47 N3 hp0 hf1
      rw [hR50] at bt50 sz50 hl50 on50
      have HP : Aside0 _ := ⟨And.intro hP47 hR50⟩
      clear hP47 hR50
      go_upto_region 7 with (first
        | (refine wpList_load_mid rfl 47 (.tmp 28) rfl pg 0 rfl P47 _ rg2 Tryz.underlying47 rfl sz47 ?_)
        | (refine wpList_store_row rfl 47 (.tmp 9) (.tmp 29) rfl wr.heap.size P47.toArray rfl rfl 47 #[.int .i64 0, .int .u8 0, .int .u16 0, .int .u8 0, .int .u8 0, .int .u16 0, .int .u16 0, .int .u16 0, .int .u16 0, .int .u16 0, .int .u16 0, .int .u16 0, .int .u16 0, .int .u16 0, .int .u16 0, .slice none 0 0, .slice none 0 0, .slice none 0 0, .slice none 0 0, .int .u8 0, .int .u8 0, .int .u8 0, .int .u8 0, .int .u8 0, .slice none 0 0] (heap_alloc_new _ _) sz47' hl47 on47 ?_))
      generalize (wr.alloc (.cells #[.int .i64 0, .int .u8 0, .int .u16 0, .int .u8 0, .int .u8 0, .int .u16 0, .int .u16 0, .int .u16 0, .int .u16 0, .int .u16 0, .int .u16 0, .int .u16 0, .int .u16 0, .int .u16 0, .int .u16 0, .slice none 0 0, .slice none 0 0, .slice none 0 0, .slice none 0 0, .int .u8 0, .int .u8 0, .int .u8 0, .int .u8 0, .int .u8 0, .slice none 0 0] 47)).setRow wr.heap.size P47.toArray = w3 at *
      obtain ⟨N3, k3⟩ := N3
      obtain ⟨vb, hvb⟩ : ∃ vb, wr.heap.size = vb := ⟨_, rfl⟩
      rw [hvb] at N3
      rw [hvb]
      have e3 := k3.size
      rw [hvb] at e3
      have rv : w3.rangeAt vb 0 P47 := fun j y hj => by rw [cell_of_row w3 vb (0 + j) _ 47 (0, 0) N3]; simpa using hj
      have hbx3 := k3.heap hbx2 (fun h => h)
      have c3 : w3.cell? ⟨ib, 3, none⟩ = some (.int .i64 n) := by rw [cell_of_row w3 ib 3 _ 64 (0, 0) hbx3]; rfl
      have KV : Aside0 _ := ⟨And.intro k3 hvb⟩
      clear k3 hvb N3
      have S0 := Kept.drew w3 (fun _ => False)
      refine st 9 (fun w' => Kept w3 w' (fun _ => False)) [8] S0 ?_
      refine pu 0 (some 30) (mk 9 1) ?_
      refine pu 1 (some 31) (mk 9 3) ?_
      refine pu 2 (some 32) (mk 9 7) ?_
      refine ld 3 (some 33) (mk 9 15) S0 ?_ (hy := .inl ⟨by rfl, by intro w' hS; have q1 := hS.cell c3; go_simp; with_reducible rfl⟩)
      refine pu 4 (some 34) (mk 9 31) ?_
      refine ld 5 (some 35) (mk 9 63) S0 (v := .agg P47.toArray) ?_ (hy := (yieldsIf_load_mid (by kernel_rfl) 47 (.tmp 9) rfl vb 0 rfl P47 _ (fun w' hS => hS.range rv) Tryz.underlying47 rfl sz47))
      refine pu 6 (some 36) (mk 9 127) (v := .agg R50.toArray) ?_ (hy := yields_build (by kernel_rfl) 50 #[(0, .tmp 33), (1, .tmp 34), (2, .tmp 35)] (by rfl) [(0, .int .i64 n), (1, .int .i64 0), (2, .agg P47.toArray)] (by (simp only [List.map_toArray, List.map_cons, List.map_nil]; rfl)) R50.toArray bt50)
      refine on 7 (some 10) (mk 9 255) fun K hK => ?_
      refine wp_alloc50 rfl ?_
      have S1 := S0.trans (Kept.alloc w3.drew (.cells (nrow 0 0 0 0 (cs35 0) (.slice none 0 0)).toArray 50) (fun _ => False)) (H := fun _ => False) (fun _ _ h => h) (fun _ _ h => h)
      refine hK _ _ (S1) (nm ?_)
      clear hK K
      refine la 8 none (mk 9 511) fun K hK => ?_
      refine wp_store_row 50 (.tmp 10) (.tmp 36) rfl w3.drew.heap.size R50.toArray rfl rfl 50 (nrow 0 0 0 0 (cs35 0) (.slice none 0 0)).toArray (heap_alloc_new _ _) sz50 hl50 on50 ?_
      refine hK _ _ (nm ?_)
      clear hK K
      refine done_ (by kernel_rfl) ?_
      obtain ⟨N4, k4⟩ := new_row w3.drew (nrow 0 0 0 0 (cs35 0) (.slice none 0 0)).toArray R50.toArray 50
      generalize (w3.drew.alloc (.cells (nrow 0 0 0 0 (cs35 0) (.slice none 0 0)).toArray 50)).setRow w3.drew.heap.size R50.toArray = w4 at *
      have hq3 : w3.drew.heap.size = w3.heap.size := rfl
      obtain ⟨qb, hqb⟩ : ∃ qb, w3.drew.heap.size = qb := ⟨_, rfl⟩
      rw [hqb] at N4
      rw [hqb]
      have k34 := (Kept.drew w3 (fun _ => False)).trans k4 (H := fun _ => False) (fun _ _ h => h) (fun _ _ h => h)
      have hvl : vb < w3.heap.size := by have h := rv 0 _ hp0; exact World.block_lt_of_cell? _ _ h
      have rv4 : w4.rangeAt vb 0 P47 := fun j y hy => k34.cell (rv j y hy)
      have hbx4 := k34.heap hbx3 (fun h => h)
      have K4 : Aside0 (Kept wr w4 (fun _ => False) ∧ w4.heap[qb]? = some (.cells (nrow n 0 u t ds (.slice none 0 0)).toArray 50 (0, 0)) ∧ wr.heap.size ≤ qb) := ⟨⟨KV.out.1.trans k34 (fun _ _ h => h) (fun _ _ h => h), by rw [HP.out.2]; exact N4, by have h := KV.out.2; omega⟩⟩
      have hnvi : ¬ vb = ib := by have h := KV.out.2; have h2 := heap_lt hbx2; omega
      clear S0 S1 k4 k34 N4 hqb hq3 rv hbx3 c3 rg2 hbx2
      have c4 : w4.cell? ⟨ib, 3, none⟩ = some (.int .i64 n) := by rw [cell_of_row w4 ib 3 _ 64 (0, 0) hbx4]; rfl
      have fz4 : w4.frozen? ⟨ib, 3, none⟩ = false := by simp [World.frozen?, hbx4]
      have hnz : (n : Int) < 1000000 := by omega
      have hnn : (0 : Int) ≤ (n : Int) := by omega
      go_upto_region 9 with fail
      have k5 := Kept.setCell w4 ib 3 (.int .i64 ((n : Int) + 1)) (F := fun b => b = ib) rfl
      have hbx5 := setCell_row (i := 3) (v := .int .i64 ((n : Int) + 1)) hbx4
      obtain ⟨w5, hw5⟩ : ∃ w5, w4.setCell ⟨ib, 3, none⟩ (.int .i64 ((n : Int) + 1)) = w5 := ⟨_, rfl⟩
      rw [hw5] at k5 hbx5
      rw [hw5]
      have rv4' : w5.rangeAt vb 0 P47 := fun j y hy => k5.cellN hnvi (rv4 j y hy)
      have c0 : w5.cell? ⟨vb, 0, none⟩ = some (.int .i64 0) := rv4' 0 _ hp0
      have rv5 : w5.rangeAt vb 1 f.cs := fun j y hy => by have := rv4' _ _ (hf1 j y hy); rwa [Nat.zero_add] at this
      have c2 : w5.cell? ⟨ib, 2, none⟩ = some (.pointer (some ⟨pb, 0, none⟩)) := by rw [cell_of_row w5 ib 2 _ 64 (0, 0) hbx5]; rfl
      have hiF : ¬ F ib := HI.out.nf.1
      have hvF : ¬ F vb := fun h => by have h1 := hFl _ h; have h2 := HE.out; have h3 := HFB.out; have h4 := KV.out.2; omega
      have hbF : ¬ F bd := by obtain ⟨-, e⟩ := HSE.out; rw [e]; obtain ⟨h1, h2, h3, h4, h5⟩ := HI.out.nf; first | exact h4 | exact h5
      have hO5 : Own w5.drew pb net L all F := ((((HI.out.own.kept K1.out (fun _ _ h => h)).kept (Kept.drew w1 (fun _ => False)) (fun _ _ h => h)).kept K2.out (fun b hb e => hbF (e ▸ hb))).kept K4.out.1 (fun _ _ h => h)).kept (k5.trans (Kept.drew w5 (fun b => b = ib)) (fun _ _ h => h) (fun _ _ h => h)) (fun b hb e => hiF (e ▸ hb))
      obtain ⟨⟨ns, L', all'⟩, hst⟩ : ∃ r, step net L all 0 f = r := ⟨_, rfl⟩
      have HW5 : Aside0 _ := ⟨hw5⟩
      clear k5 hbx5 hbx4 c4 fz4 rv4 rv4' hw5 hp0 hf1 hbF e3 hvl
      go_upto_region 10 with fail
      have S0 := Kept.drew w5 F
      refine st 10 (fun w' => Kept w5 w' F) [9] S0 ?_
      refine pu 0 (some 47) (mk 10 1) ?_
      refine pu 1 (some 48) (mk 10 3) ?_
      refine pu 2 (some 49) (mk 10 7) ?_
      refine ld 3 (some 50) (mk 10 15) S0 ?_ (hy := .inl ⟨by rfl, by intro w' hS; have q1 := hS.cellN hiF c2; go_simp; with_reducible rfl⟩)
      refine pu 4 (some 51) (mk 10 31) ?_
      refine pu 5 (some 52) (mk 10 63) ?_
      refine ld 6 (some 53) (mk 10 127) S0 (v := .agg f.cs.toArray) ?_ (hy := (yieldsIf_load_mid (by kernel_rfl) 37 (.tmp 52) rfl vb 1 rfl f.cs _ (fun w' hS => fun j u hu => hS.cellN hvF (rv5 j u hu)) Tryz.underlying37 rfl (by kernel_rfl)))
      refine cl 7 (some 54) (mk 10 255) Tryz.func17 (args := #[(.pointer (some ⟨pb, 0, none⟩)), .int .i64 0, .agg f.cs.toArray]) (hO5.take_ ha 0 f hst) ?_
      rintro e w6 ⟨vn, F', rfl, hO6, hR6, hF6, k6⟩
      have S1 := S0.trans k6 (H := F) (fun _ _ h => h) (fun _ _ h => h)
      have FX := noted_fin HI.out hT52 (by obtain ⟨x1, x2⟩ := HSE.out; first | exact .inl ⟨rfl, x1, x2⟩ | exact .inr ⟨rfl, x1, x2⟩) K1.out ((Kept.drew w1 (fun _ => False)).trans K2.out (fun _ _ h => h.elim) (fun _ _ h => h)) HS2.out HK.out HF.out K4.out.1 K4.out.2.1 K4.out.2.2 hst hO6 hR6 (by rw [HW5.out]; exact hF6) (by rw [HW5.out]; exact (Kept.drew w5 F).trans k6 (fun _ _ h => h) (fun _ _ h => h))
      refine ⟨_, rfl, S1, nm ?_⟩
      refine pu 8 (some 55) (mk 10 511) ?_
      refine la 9 none (mk 10 1023) fun K hK => ?_
      refine wp_store_cell 48 (.tmp 55) (.tmp 54) rfl qb 27 vn rfl rfl (owns_oneCell hR6.row) 50 _ FX.1 (by rw [List.size_toArray, nrow_len hds]; omega) (by kernel_rfl) ?_
      refine hK _ _ (nm ?_)
      clear hK K
      refine done_ (by kernel_rfl) ?_
      have hq7 := FX.2.1
      obtain ⟨g, c, w8, ha8, hN⟩ := FX.2.2 42
      have hl8 := nrow_len (n := n) (dir := 0) (u := u) (t := t) (v := vn) hds
      have sz8 := size50 (n := n) (dir := 0) (u := u) (t := t) (v := vn) hds
      have hlt := lit_nt50 (w6.setCell ⟨qb, 27, none⟩ vn) hl8
      have HN : Aside0 _ := ⟨hN⟩
      clear FX hN S0 S1 hO6 hR6 k6 hF6 hO5 hst
      generalize nrow n 0 u t ds vn = R8 at *
      generalize w6.setCell ⟨qb, 27, none⟩ vn = w7 at *
      go_wp2_with (first
        | (refine wpList_load_row rfl 50 (.tmp 10) rfl qb rfl 50 R8.toArray (0, 0) _ hq7 Tryz.underlying50 rfl sz8 ?_)
        | (refine wpList_lit1 rfl 42 (.tmp 57) rfl (some 58) rfl (.agg R8.toArray) rfl (.slice (some ⟨w7.heap.size, 0, none⟩) 1 1) (w7.alloc (.cells R8.toArray 50)) ?_ ?_; exact hlt)
        | (refine wpList_app rfl (.tmp 56) (.tmp 58) 42 42 rfl (some 59) rfl (.slice none 0 0) (.slice (some ⟨w7.heap.size, 0, none⟩) 1 1) rfl rfl (.slice (some ⟨g, 0, none⟩) 1 c) w8 ha8 ?_))
      go_roundg 0
      · exact .inr ⟨rfl, g, c, rfl, HN⟩
      · exact hkx
    · go_wp2
      go_ret
      exact ⟨_, rfl, D.out⟩
set_option maxHeartbeats 1000000 in
set_option maxRecDepth 1000000 in
theorem inspTake1 {ty T : Nat} {cs : Int → Array Value} {net : Bool} {w : World} {ib s0 b0 s1 b1 pb : Nat} {F : Nat → Prop} {L : List Ent} {all n : Nat} (hI : InspI ty T cs net w ib s0 b0 s1 b1 pb F L all n) (hT52 : T ≠ 52) (ha : all < 1000000) (hn : n < 1000000) {sd bd : Nat} (hsd : sd = s1 ∧ bd = b1)
    {u t : Int} {x : S35} (hu : 0 ≤ u ∧ u < 256) (ht : 0 ≤ t ∧ t < 65536) (hc : 0 ≤ x.f0 ∧ x.f0 < 256) {v : Value} (hv1 : v.oneCell' = true) {τ : Bool} (hT : ∀ W, Kept w W (fun _ => False) → Calls Tryz.prog 16 #[(.pointer (some ⟨sd, 0, none⟩)), .agg #[v, .bool τ]] W fun r w' => Piece W w' r u t x (fun b => b = bd) ∧ StrI ty T (cs 1) w' sd bd) :
    Calls Tryz.prog 8 #[(.pointer (some ⟨ib, 0, none⟩)), .int .i64 1, .agg #[v, .bool τ]] w fun r w' => ∃ s, r = .returned s ∧ Noted ty T cs net w w' ib s0 b0 s1 b1 pb F L all n 1 bd u t x s := by
  have q1 := Kept.alloc w (.cells #[v, .bool τ] 45) (fun _ => False)
  have f1 := heap_alloc_new w (.cells #[v, .bool τ] 45)
  have hp := fun W (q : Kept (w.alloc (.cells #[v, .bool τ] 45)) W (fun _ => False)) => hT W (q1.trans q (fun _ _ h => h) (fun _ _ h => h))
  have hbx := q1.heap hI.box (fun h => h)
  have hibl := heap_lt hI.box
  have hnib : ¬ ib = bd := by have := hI.ni; obtain ⟨rfl, rfl⟩ := hsd; omega
  have hbdl : bd < w.heap.size := by have h0 := heap_lt hI.i0.str; have h1 := heap_lt hI.i1.str; obtain ⟨rfl, rfl⟩ := hsd; assumption
  have hFl : ∀ b, F b → b < w.heap.size := fun b => hI.own.lt
  have HI : Aside0 _ := ⟨hI⟩
  have HSE : Aside0 _ := ⟨hsd⟩
  clear hI hT hsd
  go_enter Tryz.func8, Tryz.ntmps8
  go_upto_region 4 with fail
  generalize w.alloc (.cells #[v, .bool τ] 45) = w1 at *
  have e1 := q1.size
  have hnf : ¬ w.heap.size = bd := by omega
  have K1 : Aside0 _ := ⟨q1⟩
  generalize hfb : w.heap.size = fb at *
  have HFB : Aside0 _ := ⟨hfb⟩
  have rb : w1.rangeAt fb 0 [v, .bool τ] := fun j u hj => by rw [cell_of_row w1 fb (0 + j) _ 45 (0, 0) f1]; simpa using hj
  have cs0 : w1.cell? ⟨ib, 1, none⟩ = some (.pointer (some ⟨sd, 0, none⟩)) := by rw [cell_of_row w1 ib 1 _ 64 (0, 0) hbx]; obtain ⟨rfl, rfl⟩ := HSE.out; rfl
  have hni : ¬ ib = bd := hnib
  have S0 := Kept.drew w1 (fun b => b = bd)
  clear hfb q1
  refine st 10 (fun w' => Kept w1 w' (fun b => b = bd)) [] S0 ?_
  refine pu 0 (some 17) (mk 10 1) ?_
  refine pu 1 (some 18) (mk 10 3) ?_
  refine pu 2 (some 19) (mk 10 7) ?_
  refine pu 3 (some 20) (mk 10 15) ?_
  refine pu 4 (some 21) (mk 10 31) ?_
  refine ld 5 (some 22) (mk 10 63) S0 ?_ (hy := .inl ⟨by rfl, by intro w' hS; have q1 := hS.cellN hni cs0; go_simp; with_reducible rfl⟩)
  refine pu 9 (some 26) (mk 10 575) ?_
  refine ld 6 (some 23) (mk 10 639) S0 (v := .agg #[v, .bool τ]) ?_ (hy := (yieldsIf_load_mid (by kernel_rfl) 45 (.tmp 5) rfl fb 0 rfl [v, .bool τ] _ (fun w' hS => fun j u hu => hS.cellN hnf (rb j u hu)) Tryz.underlying45 rfl (by kernel_rfl)))
  refine cl 7 (some 24) (mk 10 767) Tryz.func16 (args := #[(.pointer (some ⟨sd, 0, none⟩)), .agg #[v, .bool τ]]) (hp w1.drew (Kept.drew w1 _)) ?_
  rintro e w2 ⟨hPc, hs2⟩
  obtain ⟨vp, ds, rfl, hrow, hnew, hds, hD, k2⟩ := hPc
  have S1 := S0.trans k2 (H := fun b => b = bd) (fun _ _ h => h) (fun _ _ h => h)
  obtain ⟨pg, pc, rfl⟩ := row_form hrow
  refine ⟨_, rfl, S1, nm ?_⟩
  refine pu 8 (some 25) (mk 10 1023) ?_
  refine done_ (by kernel_rfl) ?_
  have K2 : Aside0 _ := ⟨k2⟩
  have HS2 : Aside0 _ := ⟨hs2⟩
  have HK : Aside0 _ := ⟨hD⟩
  have hone := all_oneCell_toArray (k35.K_one (hD w2 (Kept.refl _ _)))
  obtain ⟨f, hf⟩ := fr_Fr (hD w2 (Kept.refl _ _)) hu ht hc
  have rg2 : w2.rangeAt pg 0 (pcl u t ds) := fun j y hy => by
    have := hrow.cells (g := pg) rfl j y (by simpa using hy)
    rwa [Addr.add_mid] at this
  have e2 := k2.size
  have hbx2 := k2.heap hbx hnib
  have HF : Aside0 _ := ⟨hf⟩
  have HV : Aside0 _ := ⟨And.intro rg2 (And.intro hbx2 hone)⟩
  have HE : Aside0 (w.heap.size ≤ w1.heap.size ∧ w1.heap.size ≤ w2.heap.size) := ⟨by rw [HFB.out]; exact e1, e2⟩
  clear S0 S1 k2 hs2 hD hf hrow hnew hp hbx cs0 rb f1 hbdl hnf rg2 hbx2 hone e1 e2
  go_wp2
  go_loopg [7, 26] 1 (fun kx s7 s26 wr => (s26 = .int .i64 0 ∧ s7 = .slice none 0 0 ∧ 1 ≤ kx ∧ wr = w2) ∨ (s26 = .int .i64 1 ∧ ∃ g c, s7 = .slice (some ⟨g, 0, none⟩) 1 c ∧ Aside0 (Noted ty T cs net w wr ib s0 b0 s1 b1 pb F L all n 1 bd u t x (.slice (some ⟨g, 0, none⟩) 1 c))))
  case atStart => exact .inl ⟨rfl, rfl, Nat.le_refl _, rfl⟩
  case round =>
    rcases hrel with ⟨rfl, rfl, hkx, rfl⟩ | ⟨rfl, g, c, rfl, D⟩
    · obtain ⟨rg2, hbx2, hone⟩ := id HV.out
      obtain ⟨P47, hP47⟩ : ∃ P, pcl u t ds = P := ⟨_, rfl⟩
      obtain ⟨R50, hR50⟩ : ∃ P, nrow n 1 u t ds (.slice none 0 0) = P := ⟨_, rfl⟩
      have sz47 := size47 (u := u) (t := t) hds
      have sz47' : (Tryz.prog.info? 47).map (·.size) = some (pcl u t ds).toArray.size := by rw [List.size_toArray]; exact sz47
      have bt50 := built50 n 1 u t ds hds
      have sz50 := size50 (n := n) (dir := 1) (u := u) (t := t) (v := .slice none 0 0) hds
      have hl50 : (nrow 0 0 0 0 (cs35 0) (.slice none 0 0)).toArray.size = (nrow n 1 u t ds (.slice none 0 0)).toArray.size := by rw [List.size_toArray, List.size_toArray, nrow_len hds]; rfl
      have on50 := all_oneCell_toArray (nrow_one (n := n) (dir := 1) (u := u) (t := t) hone (v := .slice none 0 0) rfl)
      have on47 := all_oneCell_toArray (pcl_one (u := u) (t := t) hone)
      have hl47 : (#[.int .i64 0, .int .u8 0, .int .u16 0, .int .u8 0, .int .u8 0, .int .u16 0, .int .u16 0, .int .u16 0, .int .u16 0, .int .u16 0, .int .u16 0, .int .u16 0, .int .u16 0, .int .u16 0, .int .u16 0, .slice none 0 0, .slice none 0 0, .slice none 0 0, .slice none 0 0, .int .u8 0, .int .u8 0, .int .u8 0, .int .u8 0, .int .u8 0, .slice none 0 0] : Array Value).size = (pcl u t ds).toArray.size := by rw [List.size_toArray, List.size_toArray, pcl_len hds]; rfl
      have N3 := new_row wr #[.int .i64 0, .int .u8 0, .int .u16 0, .int .u8 0, .int .u8 0, .int .u16 0, .int .u16 0, .int .u16 0, .int .u16 0, .int .u16 0, .int .u16 0, .int .u16 0, .int .u16 0, .int .u16 0, .int .u16 0, .slice none 0 0, .slice none 0 0, .slice none 0 0, .slice none 0 0, .int .u8 0, .int .u8 0, .int .u8 0, .int .u8 0, .int .u8 0, .slice none 0 0] (pcl u t ds).toArray 47
      have hp0 : (pcl u t ds)[0]? = some (.int .i64 0) := rfl
      have hf1 : ∀ j y, f.cs[j]? = some y → (pcl u t ds)[1 + j]? = some y := fun j y hy => by rw [HF.out.1] at hy; rw [Nat.add_comm]; exact hy
      rw [hP47] at rg2 sz47 sz47' bt50 on47 hl47 N3 hp0 hf1
      rw [hR50] at bt50 sz50 hl50 on50
      have HP : Aside0 _ := ⟨And.intro hP47 hR50⟩
      clear hP47 hR50
      go_upto_region 7 with (first
        | (refine wpList_load_mid rfl 47 (.tmp 28) rfl pg 0 rfl P47 _ rg2 Tryz.underlying47 rfl sz47 ?_)
        | (refine wpList_store_row rfl 47 (.tmp 9) (.tmp 29) rfl wr.heap.size P47.toArray rfl rfl 47 #[.int .i64 0, .int .u8 0, .int .u16 0, .int .u8 0, .int .u8 0, .int .u16 0, .int .u16 0, .int .u16 0, .int .u16 0, .int .u16 0, .int .u16 0, .int .u16 0, .int .u16 0, .int .u16 0, .int .u16 0, .slice none 0 0, .slice none 0 0, .slice none 0 0, .slice none 0 0, .int .u8 0, .int .u8 0, .int .u8 0, .int .u8 0, .int .u8 0, .slice none 0 0] (heap_alloc_new _ _) sz47' hl47 on47 ?_))
      generalize (wr.alloc (.cells #[.int .i64 0, .int .u8 0, .int .u16 0, .int .u8 0, .int .u8 0, .int .u16 0, .int .u16 0, .int .u16 0, .int .u16 0, .int .u16 0, .int .u16 0, .int .u16 0, .int .u16 0, .int .u16 0, .int .u16 0, .slice none 0 0, .slice none 0 0, .slice none 0 0, .slice none 0 0, .int .u8 0, .int .u8 0, .int .u8 0, .int .u8 0, .int .u8 0, .slice none 0 0] 47)).setRow wr.heap.size P47.toArray = w3 at *
      obtain ⟨N3, k3⟩ := N3
      obtain ⟨vb, hvb⟩ : ∃ vb, wr.heap.size = vb := ⟨_, rfl⟩
      rw [hvb] at N3
      rw [hvb]
      have e3 := k3.size
      rw [hvb] at e3
      have rv : w3.rangeAt vb 0 P47 := fun j y hj => by rw [cell_of_row w3 vb (0 + j) _ 47 (0, 0) N3]; simpa using hj
      have hbx3 := k3.heap hbx2 (fun h => h)
      have c3 : w3.cell? ⟨ib, 3, none⟩ = some (.int .i64 n) := by rw [cell_of_row w3 ib 3 _ 64 (0, 0) hbx3]; rfl
      have KV : Aside0 _ := ⟨And.intro k3 hvb⟩
      clear k3 hvb N3
      have S0 := Kept.drew w3 (fun _ => False)
      refine st 9 (fun w' => Kept w3 w' (fun _ => False)) [8] S0 ?_
      refine pu 0 (some 30) (mk 9 1) ?_
      refine pu 1 (some 31) (mk 9 3) ?_
      refine pu 2 (some 32) (mk 9 7) ?_
      refine ld 3 (some 33) (mk 9 15) S0 ?_ (hy := .inl ⟨by rfl, by intro w' hS; have q1 := hS.cell c3; go_simp; with_reducible rfl⟩)
      refine pu 4 (some 34) (mk 9 31) ?_
      refine ld 5 (some 35) (mk 9 63) S0 (v := .agg P47.toArray) ?_ (hy := (yieldsIf_load_mid (by kernel_rfl) 47 (.tmp 9) rfl vb 0 rfl P47 _ (fun w' hS => hS.range rv) Tryz.underlying47 rfl sz47))
      refine pu 6 (some 36) (mk 9 127) (v := .agg R50.toArray) ?_ (hy := yields_build (by kernel_rfl) 50 #[(0, .tmp 33), (1, .tmp 34), (2, .tmp 35)] (by rfl) [(0, .int .i64 n), (1, .int .i64 1), (2, .agg P47.toArray)] (by (simp only [List.map_toArray, List.map_cons, List.map_nil]; rfl)) R50.toArray bt50)
      refine on 7 (some 10) (mk 9 255) fun K hK => ?_
      refine wp_alloc50 rfl ?_
      have S1 := S0.trans (Kept.alloc w3.drew (.cells (nrow 0 0 0 0 (cs35 0) (.slice none 0 0)).toArray 50) (fun _ => False)) (H := fun _ => False) (fun _ _ h => h) (fun _ _ h => h)
      refine hK _ _ (S1) (nm ?_)
      clear hK K
      refine la 8 none (mk 9 511) fun K hK => ?_
      refine wp_store_row 50 (.tmp 10) (.tmp 36) rfl w3.drew.heap.size R50.toArray rfl rfl 50 (nrow 0 0 0 0 (cs35 0) (.slice none 0 0)).toArray (heap_alloc_new _ _) sz50 hl50 on50 ?_
      refine hK _ _ (nm ?_)
      clear hK K
      refine done_ (by kernel_rfl) ?_
      obtain ⟨N4, k4⟩ := new_row w3.drew (nrow 0 0 0 0 (cs35 0) (.slice none 0 0)).toArray R50.toArray 50
      generalize (w3.drew.alloc (.cells (nrow 0 0 0 0 (cs35 0) (.slice none 0 0)).toArray 50)).setRow w3.drew.heap.size R50.toArray = w4 at *
      have hq3 : w3.drew.heap.size = w3.heap.size := rfl
      obtain ⟨qb, hqb⟩ : ∃ qb, w3.drew.heap.size = qb := ⟨_, rfl⟩
      rw [hqb] at N4
      rw [hqb]
      have k34 := (Kept.drew w3 (fun _ => False)).trans k4 (H := fun _ => False) (fun _ _ h => h) (fun _ _ h => h)
      have hvl : vb < w3.heap.size := by have h := rv 0 _ hp0; exact World.block_lt_of_cell? _ _ h
      have rv4 : w4.rangeAt vb 0 P47 := fun j y hy => k34.cell (rv j y hy)
      have hbx4 := k34.heap hbx3 (fun h => h)
      have K4 : Aside0 (Kept wr w4 (fun _ => False) ∧ w4.heap[qb]? = some (.cells (nrow n 1 u t ds (.slice none 0 0)).toArray 50 (0, 0)) ∧ wr.heap.size ≤ qb) := ⟨⟨KV.out.1.trans k34 (fun _ _ h => h) (fun _ _ h => h), by rw [HP.out.2]; exact N4, by have h := KV.out.2; omega⟩⟩
      have hnvi : ¬ vb = ib := by have h := KV.out.2; have h2 := heap_lt hbx2; omega
      clear S0 S1 k4 k34 N4 hqb hq3 rv hbx3 c3 rg2 hbx2
      have c4 : w4.cell? ⟨ib, 3, none⟩ = some (.int .i64 n) := by rw [cell_of_row w4 ib 3 _ 64 (0, 0) hbx4]; rfl
      have fz4 : w4.frozen? ⟨ib, 3, none⟩ = false := by simp [World.frozen?, hbx4]
      have hnz : (n : Int) < 1000000 := by omega
      have hnn : (0 : Int) ≤ (n : Int) := by omega
      go_upto_region 9 with fail
      have k5 := Kept.setCell w4 ib 3 (.int .i64 ((n : Int) + 1)) (F := fun b => b = ib) rfl
      have hbx5 := setCell_row (i := 3) (v := .int .i64 ((n : Int) + 1)) hbx4
      obtain ⟨w5, hw5⟩ : ∃ w5, w4.setCell ⟨ib, 3, none⟩ (.int .i64 ((n : Int) + 1)) = w5 := ⟨_, rfl⟩
      rw [hw5] at k5 hbx5
      rw [hw5]
      have rv4' : w5.rangeAt vb 0 P47 := fun j y hy => k5.cellN hnvi (rv4 j y hy)
      have c0 : w5.cell? ⟨vb, 0, none⟩ = some (.int .i64 0) := rv4' 0 _ hp0
      have rv5 : w5.rangeAt vb 1 f.cs := fun j y hy => by have := rv4' _ _ (hf1 j y hy); rwa [Nat.zero_add] at this
      have c2 : w5.cell? ⟨ib, 2, none⟩ = some (.pointer (some ⟨pb, 0, none⟩)) := by rw [cell_of_row w5 ib 2 _ 64 (0, 0) hbx5]; rfl
      have hiF : ¬ F ib := HI.out.nf.1
      have hvF : ¬ F vb := fun h => by have h1 := hFl _ h; have h2 := HE.out; have h3 := HFB.out; have h4 := KV.out.2; omega
      have hbF : ¬ F bd := by obtain ⟨-, e⟩ := HSE.out; rw [e]; obtain ⟨h1, h2, h3, h4, h5⟩ := HI.out.nf; first | exact h4 | exact h5
      have hO5 : Own w5.drew pb net L all F := ((((HI.out.own.kept K1.out (fun _ _ h => h)).kept (Kept.drew w1 (fun _ => False)) (fun _ _ h => h)).kept K2.out (fun b hb e => hbF (e ▸ hb))).kept K4.out.1 (fun _ _ h => h)).kept (k5.trans (Kept.drew w5 (fun b => b = ib)) (fun _ _ h => h) (fun _ _ h => h)) (fun b hb e => hiF (e ▸ hb))
      obtain ⟨⟨ns, L', all'⟩, hst⟩ : ∃ r, step net L all 1 f = r := ⟨_, rfl⟩
      have HW5 : Aside0 _ := ⟨hw5⟩
      clear k5 hbx5 hbx4 c4 fz4 rv4 rv4' hw5 hp0 hf1 hbF e3 hvl
      go_upto_region 10 with fail
      have S0 := Kept.drew w5 F
      refine st 10 (fun w' => Kept w5 w' F) [9] S0 ?_
      refine pu 0 (some 47) (mk 10 1) ?_
      refine pu 1 (some 48) (mk 10 3) ?_
      refine pu 2 (some 49) (mk 10 7) ?_
      refine ld 3 (some 50) (mk 10 15) S0 ?_ (hy := .inl ⟨by rfl, by intro w' hS; have q1 := hS.cellN hiF c2; go_simp; with_reducible rfl⟩)
      refine pu 4 (some 51) (mk 10 31) ?_
      refine pu 5 (some 52) (mk 10 63) ?_
      refine ld 6 (some 53) (mk 10 127) S0 (v := .agg f.cs.toArray) ?_ (hy := (yieldsIf_load_mid (by kernel_rfl) 37 (.tmp 52) rfl vb 1 rfl f.cs _ (fun w' hS => fun j u hu => hS.cellN hvF (rv5 j u hu)) Tryz.underlying37 rfl (by kernel_rfl)))
      refine cl 7 (some 54) (mk 10 255) Tryz.func17 (args := #[(.pointer (some ⟨pb, 0, none⟩)), .int .i64 1, .agg f.cs.toArray]) (hO5.take_ ha 1 f hst) ?_
      rintro e w6 ⟨vn, F', rfl, hO6, hR6, hF6, k6⟩
      have S1 := S0.trans k6 (H := F) (fun _ _ h => h) (fun _ _ h => h)
      have FX := noted_fin HI.out hT52 (by obtain ⟨x1, x2⟩ := HSE.out; first | exact .inl ⟨rfl, x1, x2⟩ | exact .inr ⟨rfl, x1, x2⟩) K1.out ((Kept.drew w1 (fun _ => False)).trans K2.out (fun _ _ h => h.elim) (fun _ _ h => h)) HS2.out HK.out HF.out K4.out.1 K4.out.2.1 K4.out.2.2 hst hO6 hR6 (by rw [HW5.out]; exact hF6) (by rw [HW5.out]; exact (Kept.drew w5 F).trans k6 (fun _ _ h => h) (fun _ _ h => h))
      refine ⟨_, rfl, S1, nm ?_⟩
      refine pu 8 (some 55) (mk 10 511) ?_
      refine la 9 none (mk 10 1023) fun K hK => ?_
      refine wp_store_cell 48 (.tmp 55) (.tmp 54) rfl qb 27 vn rfl rfl (owns_oneCell hR6.row) 50 _ FX.1 (by rw [List.size_toArray, nrow_len hds]; omega) (by kernel_rfl) ?_
      refine hK _ _ (nm ?_)
      clear hK K
      refine done_ (by kernel_rfl) ?_
      have hq7 := FX.2.1
      obtain ⟨g, c, w8, ha8, hN⟩ := FX.2.2 42
      have hl8 := nrow_len (n := n) (dir := 1) (u := u) (t := t) (v := vn) hds
      have sz8 := size50 (n := n) (dir := 1) (u := u) (t := t) (v := vn) hds
      have hlt := lit_nt50 (w6.setCell ⟨qb, 27, none⟩ vn) hl8
      have HN : Aside0 _ := ⟨hN⟩
      clear FX hN S0 S1 hO6 hR6 k6 hF6 hO5 hst
      generalize nrow n 1 u t ds vn = R8 at *
      generalize w6.setCell ⟨qb, 27, none⟩ vn = w7 at *
      go_wp2_with (first
        | (refine wpList_load_row rfl 50 (.tmp 10) rfl qb rfl 50 R8.toArray (0, 0) _ hq7 Tryz.underlying50 rfl sz8 ?_)
        | (refine wpList_lit1 rfl 42 (.tmp 57) rfl (some 58) rfl (.agg R8.toArray) rfl (.slice (some ⟨w7.heap.size, 0, none⟩) 1 1) (w7.alloc (.cells R8.toArray 50)) ?_ ?_; exact hlt)
        | (refine wpList_app rfl (.tmp 56) (.tmp 58) 42 42 rfl (some 59) rfl (.slice none 0 0) (.slice (some ⟨w7.heap.size, 0, none⟩) 1 1) rfl rfl (.slice (some ⟨g, 0, none⟩) 1 c) w8 ha8 ?_))
      go_roundg 0
      · exact .inr ⟨rfl, g, c, rfl, HN⟩
      · exact hkx
    · go_wp2
      go_ret
      exact ⟨_, rfl, D.out⟩
end Go.Proofs.YtmbjlondehcheaaGreatDoor
end
section
set_option linter.unusedSimpArgs false
set_option linter.unusedVariables false
namespace Go.Proofs.YtmbjlondehcheaaGreatDoor
open Go.Shelf Go.RowKit Go.Lib Go.Sort Go.Proofs.YtmbjlondehcheaaGreatDoorW.PrintWords Go.Proofs.YtmbjlondehcheaaGreatDoorW.PrintLast Go.Proofs.YtmbjlondehcheaaGreatDoor.PTopTalk
set_option maxHeartbeats 400000 in
set_option maxRecDepth 1000000 in
theorem inspOpen {ty T : Nat} {cs : Int → Array Value} {net : Bool} {w : World} {ib s0 b0 s1 b1 pb : Nat} {F : Nat → Prop} {L : List Ent} {all : Nat} {n : Int} (hI : InspI ty T cs net w ib s0 b0 s1 b1 pb F L all n) :
    Calls Tryz.prog 10 #[(.pointer (some ⟨ib, 0, none⟩))] w fun r w' => ∃ a cap, r = .returned (.slice a L.length cap) ∧ Kept w w' (fun _ => False) := by
  have hbx := hI.box
  have c2 : w.cell? ⟨ib, 2, none⟩ = some (.pointer (some ⟨pb, 0, none⟩)) := by rw [cell_of_row w ib 2 _ 64 (0, 0) hbx]; rfl
  have ho := hI.own.open_
  clear hI hbx
  go_enter Tryz.func10, Tryz.ntmps10
  go_wp2_with (first
    | (go_at_call 19; with_reducible refine ho.mono ?_; rintro e w1 ⟨a, cap, rfl, -, -, k1⟩; clear ho))
  go_ret
  exact ⟨a, cap, rfl, k1⟩
end Go.Proofs.YtmbjlondehcheaaGreatDoor
end
section
set_option linter.unusedSimpArgs false
set_option linter.unusedVariables false
namespace Go.Proofs.YtmbjlondehcheaaGreatDoor
open Go.Shelf Go.RowKit Go.Lib Go.Sort Go.Proofs.YtmbjlondehcheaaGreatDoorW.PrintWords Go.Proofs.YtmbjlondehcheaaGreatDoorW.PrintLast Go.Proofs.YtmbjlondehcheaaGreatDoor.PTopTalk
theorem ne225f (w : World) (c f : Int) (h : ¬ f = 0) : (binOp .neq 225 (.agg #[.int .u8 c, .int .u8 f]) (.agg #[.int .u8 0, .int .u8 0])).run Tryz.prog w = .ok (.bool true) w := by
  have hb : (f == 0) = false := by simpa using h
  have e : (Op.equalIn (9998 + 2) 225 (.agg #[.int .u8 c, .int .u8 f]) (.agg #[.int .u8 0, .int .u8 0])).run Tryz.prog w = .ok (c == 0 && (f == 0)) w := by
    refine eqA_of Tryz.underlying225 (by kernel_rfl) ?_
    refine eqf_cons (by rfl) (by go_simp; rfl) (by go_simp; rfl) (by go_simp) ?_
    exact eqf_last (by rfl) (by go_simp; rfl) (by go_simp; rfl) (by go_simp)
  rw [run_neq_struct, show 10000 = 9998 + 2 from rfl, e, hb, Bool.and_false]
  rfl
set_option maxHeartbeats 1000000 in
set_option maxRecDepth 1000000 in
theorem right_no (w : World) (c f : Int) (hc : ¬ c ∈ publicL) (hf : ¬ f = 0) : Calls Tryz.prog 234 #[.agg #[.int .u8 c, .int .u8 f]] w fun r w' => r = .returned (.bool false) ∧ Kept w w' (fun _ => False) := by
  have f1 := heap_alloc_new w (.cells #[.int .u8 c, .int .u8 f] 225)
  have q1 := Kept.alloc w (.cells #[.int .u8 c, .int .u8 f] 225) (fun _ => False)
  have c0 : (w.alloc (.cells #[.int .u8 c, .int .u8 f] 225)).cell? ⟨w.heap.size, 0, none⟩ = some (.int .u8 c) := by rw [cell_of_row _ w.heap.size 0 _ 225 (0, 0) f1]; rfl
  have hne := fun w => ne225f w c f hf
  have hp := fun W => public_calls W c
  rw [decide_eq_false hc] at hp
  have sz : (Tryz.prog.info? 225).map (·.size) = some (#[Value.int .u8 c, Value.int .u8 f] : Array Value).size := by kernel_rfl
  clear hc hf
  go_enter Tryz.func234, Tryz.ntmps234
  go_upto_region 1 with fail
  generalize w.alloc (.cells #[.int .u8 c, .int .u8 f] 225) = w1 at *
  generalize w.heap.size = mb at *
  go_wp2_with (first
    | (refine wpList_load_row rfl 225 (.tmp 1) rfl mb rfl 225 #[.int .u8 c, .int .u8 f] (0, 0) _ f1 Tryz.underlying225 rfl sz ?_)
    | (refine wpList_buildTo rfl 225 _ rfl (some 4) rfl #[.int .u8 0, .int .u8 0] ?_ ?_; (simp only [List.map_toArray, List.map_cons, List.map_nil]; kernel_rfl))
    | (go_at_call 118; with_reducible refine (hp _).mono ?_; rintro e w2 ⟨rfl, k2⟩))
  go_ret
  exact ⟨rfl, q1.trans k2 (fun _ _ h => h) (fun _ _ h => h)⟩
set_option maxHeartbeats 1000000 in
set_option maxRecDepth 1000000 in
theorem refWrite_no (w : World) (c f : Int) (cs : List Value) (hK0 : k35.K w (ref35 c f) cs) (hc : ¬ c ∈ publicL) (hf : ¬ f = 0) : Calls Tryz.prog 233 #[.agg cs.toArray] w fun r w' => r = .returned (.tuple #[.slice none 0 0, .int .i64 1]) ∧ Kept w w' (fun _ => False) := by
  have M := MsgAt.box hK0
  have q1 := Kept.alloc w (.cells cs.toArray 35) (fun _ => False)
  have hs := cons35 hK0
  have c0 : (w.alloc (.cells cs.toArray 35)).cell? ⟨w.heap.size, 0, none⟩ = some (.int .u8 c) := M.g0
  have c1 : (w.alloc (.cells cs.toArray 35)).cell? ⟨w.heap.size, 1, none⟩ = some (.int .u8 f) := M.g1
  have sz : (Tryz.prog.info? 225).map (·.size) = some (#[Value.int .u8 c, Value.int .u8 f] : Array Value).size := by kernel_rfl
  go_enter Tryz.func233, Tryz.ntmps233
  go_upto_region 1 with fail
  generalize w.alloc (.cells cs.toArray 35) = w1 at *
  generalize w.heap.size = mb at *
  clear M hK0
  have N := new_row w1 #[.int .u8 0, .int .u8 0] #[.int .u8 c, .int .u8 f] 225
  go_upto_region 2 with (first
    | (refine wpList_buildTo rfl 225 _ rfl (some 9) rfl #[.int .u8 c, .int .u8 f] ?_ ?_; (simp only [List.map_toArray, List.map_cons, List.map_nil]; kernel_rfl))
    | (refine wpList_store_rowTo rfl 225 (.tmp 4) (.tmp 9) rfl rfl w1.heap.size #[.int .u8 c, .int .u8 f] rfl rfl 225 #[.int .u8 0, .int .u8 0] (heap_alloc_new _ _) sz rfl (by kernel_rfl) ?_))
  obtain ⟨f2, k2⟩ := N
  generalize (w1.alloc (.cells #[.int .u8 0, .int .u8 0] 225)).setRow w1.heap.size #[.int .u8 c, .int .u8 f] = w2 at *
  generalize w1.heap.size = tb at *
  have rt : w2.rangeAt tb 0 [.int .u8 c, .int .u8 f] := fun j u hu => by rw [cell_of_row w2 tb (0 + j) _ 225 (0, 0) f2]; simpa using hu
  have Q2 := q1.trans k2 (H := fun _ => False) (fun _ _ h => h) (fun _ _ h => h)
  clear q1 k2 f2
  have S0 := Kept.drew w2 (fun _ => False)
  refine st 10 (fun w' => Kept w2 w' (fun _ => False)) [] S0 ?_
  refine ld 0 (some 10) (mk 10 1) S0 (v := .agg #[.int .u8 c, .int .u8 f]) ?_ (hy := (yieldsIf_load_mid (by kernel_rfl) 225 (.tmp 4) rfl tb 0 rfl [.int .u8 c, .int .u8 f] _ (fun w' hS => hS.range rt) Tryz.underlying225 rfl (by kernel_rfl)))
  refine cl 1 (some 11) (mk 10 3) Tryz.func234 (args := #[.agg #[.int .u8 c, .int .u8 f]]) (right_no _ c f hc hf) ?_
  rintro e w3 ⟨rfl, k3⟩
  have S1 := S0.trans k3 (H := fun _ => False) (fun _ _ h => h) (fun _ _ h => h)
  refine ⟨_, rfl, S1, nm ?_⟩
  refine pu 2 (some 12) (mk 10 7) ?_
  refine pu 3 (some 13) (mk 10 15) ?_
  refine pu 4 (some 14) (mk 10 31) ?_ (v := undef) (hy := Or.inr ⟨by rfl, rfl⟩)
  refine pu 5 (some 15) (mk 10 63) ?_ (v := undef) (hy := Or.inr ⟨by rfl, rfl⟩)
  refine sk 6 (some 16) (mk 10 127) S1 ?_
  refine sk 7 (some 17) (mk 10 255) S1 ?_
  refine pu 8 (some 18) (mk 10 511) ?_ (v := undef) (hy := Or.inr ⟨by rfl, rfl⟩)
  refine pu 9 (some 19) (mk 10 1023) ?_
  refine done_ (by kernel_rfl) ?_
  have FIN : Aside0 _ := ⟨Q2.trans S1 (H := fun _ => False) (fun _ _ h => h) (fun _ _ h => h)⟩
  clear S0 S1 k3 Q2 rt hc hf
  go_wp2
  go_ret2
  exact ⟨rfl, FIN.out⟩
set_option maxHeartbeats 1000000 in
set_option maxRecDepth 1000000 in
theorem refG_no {c f : Int} (hc : ¬ c ∈ publicL) (hf : ¬ f = 0) : PdG 1 (ref35 c f) True (fun _ => False) := fun w cs hK => by
  have c1 := (MsgAt.box hK).g1
  have K1 := Kept.alloc w (.cells cs.toArray 35) (fun _ => False)
  have f1 := heap_alloc_new w (.cells cs.toArray 35)
  have hs := cons35 hK
  have hr := refWrite_no _ c f cs (k35.K_below K1.toBelow hK) hc hf
  have hb2 : (f != 0) = true := by rw [bne_iff_ne]; exact hf
  have hb : (f == 0) = false := by rw [beq_eq_false_iff_ne]; exact hf
  clear hK hc hf
  go_enter Tryz.func232, Tryz.ntmps232
  go_upto_region 1 with fail
  generalize w.alloc (.cells cs.toArray 35) = w1 at *
  generalize w.heap.size = mb at *
  go_wp2_with (first
    | (refine wpList_load_row rfl 35 (.tmp 3) rfl mb rfl 35 cs.toArray (0, 0) _ f1 Tryz.underlying35 rfl (sizeM _ hs) ?_)
    | (go_at_call 233; with_reducible refine hr.mono ?_; rintro e w2 ⟨rfl, k2⟩))
  go_ret2
  exact ⟨K1.trans k2 (fun _ _ h => h) (fun _ _ h => h), none, 0, 0, 1, rfl, .inl ⟨trivial, rfl, rfl, rfl, rfl⟩⟩
end Go.Proofs.YtmbjlondehcheaaGreatDoor
end
section
set_option linter.unusedSimpArgs false
set_option linter.unusedVariables false
namespace Go.Proofs.YtmbjlondehcheaaGreatDoor
open Go.Shelf Go.RowKit Go.Lib Go.Sort Go.Proofs.YtmbjlondehcheaaGreatDoorW.PrintWords Go.Proofs.YtmbjlondehcheaaGreatDoorW.PrintLast Go.Proofs.YtmbjlondehcheaaGreatDoor.PTopTalk
abbrev lrec (fn : FuncId) (tmps : Array Value) (ps : Array Tmp) (assign body : Code) (D : Nat) (st : LoopState) : Loop := { state := st, pending := none, fn, tmps, params := ps, assign, body, defers := D }
theorem range_wp {P : Program} {g : Operand} {ps : Array Tmp} {assign body : Code} {Q : Exit → Act → World → Prop} {a : Act} {w : World} {gf : Nat} {lb : Array Value} (hg : a.eval g = .func (.func gf) #[] lb) (eg : ∀ args w, (callFunc gf args).run P w = .ok (.enter gf args) w)
    (h : ∀ fn, Calls P gf (#[.func (.yield (w.heap.size + 1)) #[] #[]] ++ lb) ((w.alloc (.deferred (some []))).alloc (.loop (lrec fn a.tmps ps assign body w.heap.size .ready))) fun e w3 => ∃ v, e = .returned v ∧ w3.heap[w.heap.size + 1]? = some (.loop (lrec fn a.tmps ps assign body w.heap.size .ready)) ∧
      ∀ w4, Kept w3 w4 (fun b => b = w.heap.size + 1) → Q .normal { a with defers := { target := .collected w.heap.size, args := #[] } :: a.defers } w4) : (Code.rangeFunc g ps assign body).wp P Q a w := by
  refine (wpIn_wide (n := 9)).1 (wpIn_rangeFunc fun fn _ => ?_)
  rw [show Fence.wide.round = none from rfl]
  obtain ⟨W1, hW1⟩ : ∃ W1, (w.alloc (.deferred (some []))).alloc (.loop (lrec fn a.tmps ps assign body w.heap.size .ready)) = W1 := ⟨_, rfl⟩
  have h1 := h fn
  rw [hW1] at h1
  refine ⟨w.heap.size + 1, [{ target := .collected w.heap.size, args := #[] }], W1, { target := .fn (.func gf) lb, args := #[.func (.yield (w.heap.size + 1)) #[] #[]] }, W1, gf, #[.func (.yield (w.heap.size + 1)) #[] #[]] ++ lb, W1, ?_, ?_, fun _ _ => trivial, ?_, fun h => by simp [Fence.wide] at h, ?_⟩
  · rw [← hW1]; exact run_enterLoop_outer _ _ _ _ _
  · simp only [resolve, hg]
    simp [go_sem]
  · simp [invoke, go_sem, eg]
  · refine callsIn_wide.2 (h1.mono ?_)
    rintro e w3 ⟨v, rfl, hl, hq⟩
    exact ⟨none, _, run_endLoop (P := P) hl (by simp), hq _ (Kept.block' w3 _ _ rfl)⟩
abbrev offEnd (K : Act → World → Prop) : Exit → Act → World → Prop := fun e a w => e = .normal ∧ K a w
theorem yield_two {P : Program} {m l : Nat} {rc : Loop} {args : Array Value} {W : World} (hl : W.heap[l]? = some (.loop rc)) (hst : rc.state = .ready) (hpe : rc.pending = none) (hps : args.size = rc.params.size) {T : Array Value} (hT : rc.tmps = T) {ps : Array Tmp} (hP : rc.params = ps) {i1 i2 b : Nat} {l1 l2 : List Oper} (h1 : rc.assign = .region i1 l1.toArray false) (h2 : rc.body = .block b (.region i2 l2.toArray false))
    (d1 : ∀ o ∈ l1, ∀ c, o.op ≠ .defer c) (d2 : ∀ o ∈ l2, ∀ c, o.op ≠ .defer c) {R : World → Prop}
    (h : wpList P l1.toArray (offEnd fun a1 w1 => w1.heap[l]? = some (.loop rc) ∧ wpList P l2.toArray (offEnd fun a2 w2 => w2.heap[l]? = some (.loop { rc with state := .busy }) ∧ R (w2.putObj l (.loop rc))) l2 a1 (w1.putObj l (.loop { rc with state := .busy }))) l1 { tmps := (ps.zip args).foldl (fun tmps (t, a) => tmps.setIfInBounds t a) T, defers := [] } W) :
    YieldAt Fence.wide m P l args W fun e W' => e = .returned (.bool true) ∧ R W' := by
  subst hT hP
  refine ⟨rc.fn, _, rc.assign, rc.body, run_yield hl hps, roundIn_of_wpIn trivial ?_⟩
  rw [h1, h2]
  refine wpIn_mono (region_in_round (Q := offEnd _) (fun ⟨_, _, h, _⟩ => by cases h) d1 h) ?_
  rintro e a1 w1 ⟨rfl, hl1, hb⟩
  refine ⟨_, run_beginRound hl1 hst, wpIn_block (wpIn_mono (region_in_round (Q := offEnd _) (fun ⟨_, _, h, _⟩ => by cases h) d2 hb) ?_)⟩
  rintro e a2 w2 ⟨rfl, hl2, hR⟩
  refine ⟨_, _, run_endRound none hl2, rfl, ?_⟩
  have : ({ ({ rc with state := .busy } : Loop) with state := if (none : Option Code).isNone then .ready else .done, pending := none } : Loop) = rc := by
    cases rc; simp at hst hpe; simp [hst, hpe]
  rw [this]
  exact hR
end Go.Proofs.YtmbjlondehcheaaGreatDoor
end
