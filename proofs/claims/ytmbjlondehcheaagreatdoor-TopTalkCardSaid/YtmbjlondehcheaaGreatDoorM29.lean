/- TopTalk: part 29 of the walks: of HGate, HResp, HItoa. -/
import Derived.Test.YtmbjlondehcheaaGreatDoorM28
section
set_option linter.unusedSimpArgs false
set_option linter.unusedVariables false
namespace Go.Proofs.YtmbjlondehcheaaGreatDoor
open Go.Shelf Go.RowKit Go.Lib Go.Sort Go.Proofs.YtmbjlondehcheaaGreatDoorW.PrintWords Go.Proofs.YtmbjlondehcheaaGreatDoorW.PrintLast Go.Proofs.YtmbjlondehcheaaGreatDoor.PTopTalk
theorem nil_app {ts te : TypeId} {k bytes : Nat} (ht : Tryz.prog.underlying ts = some (.slice te)) (hi : ∃ ie z, Tryz.prog.info? te = some ie ∧ ie.zero = some z ∧ ie.size = k ∧ z.cells.size = k ∧ ie.bytes = bytes) (hk : 0 < k) (hbs : bytes ≤ 400) (W : World) (g c : Nat) {cs : List Value} (hl : cs.length = k) (hone : ∀ v ∈ cs, v.oneCell' = true) (hg : ∀ j u, cs[j]? = some u → W.cell? ((⟨g, 0, none⟩ : Addr).add j) = some u) (ty : TypeId) :
    ∃ g2 c2 w2, (Builtin.append_ #[ts, ts] ty #[.slice none 0 0, .slice (some ⟨g, 0, none⟩) 1 c]).run Tryz.prog W = .ok (.slice (some ⟨g2, 0, none⟩) 1 c2) w2 ∧ w2.rangeAt g2 0 cs ∧ W.heap.size ≤ g2 ∧ Kept W w2 (fun _ => False) := by
  obtain ⟨ie, z, h1, h2, h3, h4, h5⟩ := hi
  obtain ⟨v', w2, q1, q2, q3, _, q5⟩ := run_append_own_at (P := Tryz.prog) W 0 ts ty te ie z k bytes ht h1 h2 h3 h5 h4 hk (.slice none 0 0) 0 [] (World.ownsRow_nil _ _ _ _) ⟨g, 0, none⟩ 1 c cs (by simpa using hl) hg hone (by unfold maxLen; omega) (by omega) (Nat.zero_le _)
  obtain ⟨g2, c2, rfl⟩ := row_form q2
  refine ⟨g2, c2, w2, q1, fun j u hu => ?_, ?_, Kept.grown q3 (fun b hb => by simp [Value.ownBlock] at hb)⟩
  · have := q2.cells (g := g2) rfl j u (by simpa using hu)
    rwa [Addr.add_mid] at this
  · rcases q5 with e | e
    · simp [Value.ownBlock] at e
    · simp [Value.ownBlock] at e; omega
theorem info23 : ∃ ie z, Tryz.prog.info? 23 = some ie ∧ ie.zero = some z ∧ ie.size = 1 ∧ z.cells.size = 1 ∧ ie.bytes = 24 := by
  have h : ((Tryz.prog.info? 23).bind fun ie => ie.zero.map fun z => (ie.size, z.cells.size, ie.bytes)) = some (1, 1, 24) := by kernel_rfl
  cases hi : Tryz.prog.info? 23 with
  | none => rw [hi] at h; cases h
  | some ie =>
    rw [hi] at h
    cases hz : ie.zero with
    | none => simp [hz] at h
    | some z => simp [hz] at h; exact ⟨ie, z, rfl, hz, h.1, h.2.1, h.2.2⟩
theorem lit_frm (w : World) {cs : List Value} (h : cs.length = 24) : (Instr.buildSlice 22 1 #[(0, .agg cs.toArray)]).run Tryz.prog w = .ok (.slice (some ⟨w.heap.size, 0, none⟩) 1 1) (w.alloc (.cells cs.toArray 37)) := by
  obtain ⟨ie, z, h1, h2, h3, h4, _⟩ := info44
  exact run_lit1 w 22 37 cs ie z 24 Tryz.underlying22 h1 h2 h3 h4 h (by omega) (by omega)
theorem lit_bys (w : World) (A : Option Addr) (n c : Nat) : (Instr.buildSlice 81 1 #[(0, .slice A n c)]).run Tryz.prog w = .ok (.slice (some ⟨w.heap.size, 0, none⟩) 1 1) (w.alloc (.cells #[.slice A n c] 23)) := by kernel_rfl
theorem row_cells {w : World} {g : Nat} {cs : List Value} (h : w.rangeAt g 0 cs) : ∀ j u, cs[j]? = some u → w.cell? ((⟨g, 0, none⟩ : Addr).add j) = some u := fun j u hu => by
  rw [Addr.add_mid]; exact h j u hu
set_option maxHeartbeats 1000000 in
set_option maxRecDepth 1000000 in
theorem frames_one (w : World) (pg pc : Nat) (u t : Int) (ds : List Value) (hds : ds.toArray.size = 22) (hone : ds.toArray.all (·.oneCell') = true) (hr : w.rangeAt pg 0 (pcl u t ds)) :
    Calls Tryz.prog 44 #[.slice (some ⟨pg, 0, none⟩) 1 pc] w fun r w' => ∃ g c, r = .returned (.slice (some ⟨g, 0, none⟩) 1 c) ∧ w'.rangeAt g 0 (fr u t ds) ∧ w.heap.size ≤ g ∧ Kept w w' (fun _ => False) := by
  have hlF : (fr u t ds).length = 24 := by simp at hds; simp [hds]
  have onF : ∀ y ∈ fr u t ds, y.oneCell' = true := fun y hy => pcl_one hone y (List.mem_cons_of_mem _ hy)
  obtain ⟨P47, hP47⟩ : ∃ P, pcl u t ds = P := ⟨_, rfl⟩
  obtain ⟨X, hX⟩ : ∃ P, fr u t ds = P := ⟨_, rfl⟩
  have sz47 := size47 (u := u) (t := t) hds
  have sz47' : (Tryz.prog.info? 47).map (·.size) = some (pcl u t ds).toArray.size := by rw [List.size_toArray]; exact sz47
  have on47 := all_oneCell_toArray (pcl_one (u := u) (t := t) hone)
  have hl47 : (#[.int .i64 0, .int .u8 0, .int .u16 0, .int .u8 0, .int .u8 0, .int .u16 0, .int .u16 0, .int .u16 0, .int .u16 0, .int .u16 0, .int .u16 0, .int .u16 0, .int .u16 0, .int .u16 0, .int .u16 0, .slice none 0 0, .slice none 0 0, .slice none 0 0, .slice none 0 0, .int .u8 0, .int .u8 0, .int .u8 0, .int .u8 0, .int .u8 0, .slice none 0 0] : Array Value).size = (pcl u t ds).toArray.size := by rw [List.size_toArray, List.size_toArray, pcl_len hds]; rfl
  have N3 := new_row w #[.int .i64 0, .int .u8 0, .int .u16 0, .int .u8 0, .int .u8 0, .int .u16 0, .int .u16 0, .int .u16 0, .int .u16 0, .int .u16 0, .int .u16 0, .int .u16 0, .int .u16 0, .int .u16 0, .int .u16 0, .slice none 0 0, .slice none 0 0, .slice none 0 0, .slice none 0 0, .int .u8 0, .int .u8 0, .int .u8 0, .int .u8 0, .int .u8 0, .slice none 0 0] (pcl u t ds).toArray 47
  have hp0 : (pcl u t ds)[0]? = some (.int .i64 0) := rfl
  have hp1 : ∀ j y, (fr u t ds)[j]? = some y → (pcl u t ds)[1 + j]? = some y := fun j y hy => by rw [Nat.add_comm]; exact hy
  have szX : (Tryz.prog.info? 37).map (·.size) = some (fr u t ds).length := by rw [hlF]; kernel_rfl
  rw [hP47] at sz47 sz47' on47 hl47 N3 hr hp0 hp1
  rw [hX] at hlF onF hp1 szX ⊢
  clear hP47 hX hds hone
  go_enter Tryz.func44, Tryz.ntmps44
  go_wp2
  go_loopg [3, 8] 1 (fun kx s3 s8 wr => (s3 = .slice none 0 0 ∧ s8 = .int .i64 0 ∧ 1 ≤ kx ∧ wr = w) ∨ (∃ g c, s3 = .slice (some ⟨g, 0, none⟩) 1 c ∧ s8 = .int .i64 1 ∧ Aside0 (wr.rangeAt g 0 X ∧ w.heap.size ≤ g ∧ Kept w wr (fun _ => False))))
  case atStart => exact .inl ⟨rfl, rfl, Nat.le_refl _, rfl⟩
  case round =>
    rcases hrel with ⟨rfl, rfl, hkx, rfl⟩ | ⟨g, c, rfl, rfl, D⟩
    · go_upto_region 5 with (first
        | (refine wpList_load_mid rfl 47 (.tmp 10) rfl pg 0 rfl P47 _ hr Tryz.underlying47 rfl sz47 ?_)
        | (refine wpList_store_row rfl 47 (.tmp 5) (.tmp 11) rfl wr.heap.size P47.toArray rfl rfl 47 #[.int .i64 0, .int .u8 0, .int .u16 0, .int .u8 0, .int .u8 0, .int .u16 0, .int .u16 0, .int .u16 0, .int .u16 0, .int .u16 0, .int .u16 0, .int .u16 0, .int .u16 0, .int .u16 0, .int .u16 0, .slice none 0 0, .slice none 0 0, .slice none 0 0, .slice none 0 0, .int .u8 0, .int .u8 0, .int .u8 0, .int .u8 0, .int .u8 0, .slice none 0 0] (heap_alloc_new _ _) sz47' hl47 on47 ?_))
      obtain ⟨N3, k3⟩ := N3
      generalize (wr.alloc (.cells #[.int .i64 0, .int .u8 0, .int .u16 0, .int .u8 0, .int .u8 0, .int .u16 0, .int .u16 0, .int .u16 0, .int .u16 0, .int .u16 0, .int .u16 0, .int .u16 0, .int .u16 0, .int .u16 0, .int .u16 0, .slice none 0 0, .slice none 0 0, .slice none 0 0, .slice none 0 0, .int .u8 0, .int .u8 0, .int .u8 0, .int .u8 0, .int .u8 0, .slice none 0 0] 47)).setRow wr.heap.size P47.toArray = w3 at *
      obtain ⟨vb, hvb⟩ : ∃ vb, wr.heap.size = vb := ⟨_, rfl⟩
      have HVB : Aside0 _ := ⟨hvb⟩
      rw [hvb] at N3
      rw [hvb]
      clear hvb
      have c0 : w3.cell? ⟨vb, 0, none⟩ = some (.int .i64 0) := by rw [cell_of_row w3 vb 0 _ 47 (0, 0) N3]; simpa using hp0
      have r1 : w3.rangeAt vb 1 X := fun j y hy => by rw [cell_of_row w3 vb (1 + j) _ 47 (0, 0) N3]; simpa using hp1 j y hy
      have hlit := lit_frm w3 hlF
      have q4 := Kept.alloc w3 (.cells X.toArray 37) (fun _ => False)
      have N4 := heap_alloc_new w3 (.cells X.toArray 37)
      obtain ⟨g, c, w5, ha, hr5, hg5, k5⟩ := nil_app Tryz.underlying22 info44 (by decide) (by decide) (w3.alloc (.cells X.toArray 37)) w3.heap.size 1 hlF onF (row_cells (fun j y hy => by rw [cell_of_row _ w3.heap.size (0 + j) _ 37 (0, 0) N4]; simpa using hy)) 22
      have D : Aside0 (w5.rangeAt g 0 X ∧ wr.heap.size ≤ g ∧ Kept wr w5 (fun _ => False)) := ⟨hr5, by have := k3.size; have := q4.size; omega, (k3.trans q4 (H := fun _ => False) (fun _ _ h => h) (fun _ _ h => h)).trans k5 (fun _ _ h => h) (fun _ _ h => h)⟩
      clear hr5 hg5 k5 k3 N3 N4 q4
      go_wp2_with (first
        | (refine wpList_load_mid rfl 37 (.tmp 16) rfl vb 1 rfl X _ r1 Tryz.underlying37 rfl szX ?_)
        | (refine wpList_lit1 rfl 22 (.tmp 17) rfl (some 18) rfl (.agg X.toArray) rfl (.slice (some ⟨w3.heap.size, 0, none⟩) 1 1) (w3.alloc (.cells X.toArray 37)) hlit ?_)
        | (refine wpList_app rfl (.tmp 15) (.tmp 18) 22 22 rfl (some 19) rfl (.slice none 0 0) (.slice (some ⟨w3.heap.size, 0, none⟩) 1 1) rfl rfl (.slice (some ⟨g, 0, none⟩) 1 c) w5 ha ?_))
      go_roundg 0
      · exact .inr ⟨g, c, rfl, rfl, D⟩
      · exact hkx
    · go_wp2
      go_ret
      exact ⟨g, c, rfl, D.out⟩
abbrev grow137 (stb ta fa na : Nat) : Array Value := #[(.pointer (some ⟨stb, 0, none⟩)), .int .i64 0, .int .i64 0, .func (.func 54) #[] #[(.pointer (some ⟨ta, 0, none⟩)), (.pointer (some ⟨fa, 0, none⟩)), (.pointer (some ⟨na, 0, none⟩))], .int .i64 0]
theorem built137 (stb ta fa na : Nat) : Tryz.prog.built 137 [(0, (.pointer (some ⟨stb, 0, none⟩))), (1, .int .i64 0), (2, .int .i64 0), (3, .func (.func 54) #[] #[(.pointer (some ⟨ta, 0, none⟩)), (.pointer (some ⟨fa, 0, none⟩)), (.pointer (some ⟨na, 0, none⟩))])] = some (grow137 stb ta fa na) := by kernel_rfl
structure GateI (w : World) (gb stb sb ta fa na : Nat) : Prop where
  row : w.heap[gb]? = some (.cells (grow137 stb ta fa na) 137 (0, 0))
  str : StrI 105 145 (cs1 0) w stb sb
  tid : w.cell? ⟨ta, 0, none⟩ = some (.int .i64 0)
  ne : stb ≠ sb ∧ gb ≠ sb ∧ ta ≠ sb ∧ ta ≠ gb
set_option maxHeartbeats 400000 in
set_option maxRecDepth 1000000 in
theorem gateNew (w : World) : Calls Tryz.prog 20 #[.int .i64 1, .int .i64 0, .int .i64 0] w fun r w' => ∃ gb stb sb ta fa na, r = .returned (.pointer (some ⟨gb, 0, none⟩)) ∧ GateI w' gb stb sb ta fa na ∧ w.heap.size ≤ sb ∧ w.heap.size ≤ gb ∧ Kept w w' (fun _ => False) := by
  have hn := strNew1 (dir := 0) (.inl rfl) w
  have hm := fun W => aduMost0 W
  have hg := fun W => gnum_calls W
  go_enter Tryz.func20, Tryz.ntmps20
  go_wp2_with (first
    | (go_at_call 14; with_reducible refine hn.mono ?_; rintro e w1 ⟨stb, sb, rfl, hI, h1, h2, h3, k1⟩; clear hn)
    | (go_at_call 29; with_reducible refine (hm _).mono ?_; rintro e w2 ⟨rfl, k2⟩; clear hm)
    | (go_at_call 42; with_reducible refine (hg _).mono ?_; rintro e w3 ⟨ta, fa, na, rfl, h4, h5, k3⟩; clear hg)
    | (refine wpList_buildTo rfl 137 _ rfl (some 24) rfl (grow137 stb ta fa na) ?_ ?_; (simp only [List.map_toArray, List.map_cons, List.map_nil]; exact built137 stb ta fa na)))
  go_ret
  have q := Kept.alloc w3 (.cells (grow137 stb ta fa na) 137) (fun _ => False)
  have k12 := k1.trans k2 (H := fun _ => False) (fun _ _ h => h) (fun _ _ h => h)
  have k123 := k12.trans k3 (H := fun _ => False) (fun _ _ h => h) (fun _ _ h => h)
  have e1 := k1.size
  have e2 := k2.size
  have e3 := k3.size
  have hsl := heap_lt hI.str
  have htl := World.block_lt_of_cell? _ _ h4
  have htl' : ta < w3.heap.size := htl
  have k23q := (k2.trans k3 (H := fun _ => False) (fun _ _ h => h) (fun _ _ h => h)).trans q (H := fun _ => False) (fun _ _ h => h) (fun _ _ h => h)
  exact ⟨_, stb, sb, ta, fa, na, rfl, ⟨heap_alloc_new _ _, hI.kept k23q (fun h => h) (fun h => h), q.cell h4, h3, by omega, by omega, by omega⟩, h1, by omega, k123.trans q (fun _ _ h => h) (fun _ _ h => h)⟩
set_option maxHeartbeats 2000000 in
set_option maxRecDepth 1000000 in
theorem gateTake {w : World} {gb stb sb ta fa na : Nat} (hG : GateI w gb stb sb ta fa na) {u t : Int} {x : S35} {v : Value} (hv1 : v.oneCell' = true) {τ : Bool} (hT : ∀ W, Kept w W (fun _ => False) → Calls Tryz.prog 16 #[(.pointer (some ⟨stb, 0, none⟩)), .agg #[v, .bool τ]] W fun r w' => Piece W w' r u t x (fun b => b = sb) ∧ StrI 105 145 (cs1 0) w' stb sb)
    {L : List Int} {n : Nat} (hn : L.length = n) (hW : ∀ W ds, k35.K W x ds → Calls Tryz.prog 7 #[.int .i64 0, .int .i64 0, .agg (fr u 0 ds).toArray] W fun r w' => Kept W w' (fun _ => False) ∧ ∃ A c, r = .returned (.tuple #[.slice A n c, .int .i64 0]) ∧ By w' (.slice A n c) L) :
    Calls Tryz.prog 22 #[(.pointer (some ⟨gb, 0, none⟩)), .agg #[v, .bool τ]] w fun r w' => ∃ ob oc A c, r = .returned (.slice (some ⟨ob, 0, none⟩) 1 oc) ∧ w'.cell? ⟨ob, 0, none⟩ = some (.slice A n c) ∧ By w' (.slice A n c) L ∧ Kept w w' (fun b => b = sb ∨ b = gb) := by
  have q1 := Kept.alloc w (.cells #[v, .bool τ] 45) (fun _ => False)
  have f1 := heap_alloc_new w (.cells #[v, .bool τ] 45)
  have hp := fun W (q : Kept (w.alloc (.cells #[v, .bool τ] 45)) W (fun _ => False)) => hT W (q1.trans q (fun _ _ h => h) (fun _ _ h => h))
  have hgx := q1.heap hG.row (fun h => h)
  have hgs := hG.ne.2.1
  have hgl := heap_lt hG.row
  have hsl := heap_lt hG.str.str
  have HG : Aside0 _ := ⟨And.intro hG hn⟩
  have HW : Aside0 _ := ⟨hW⟩
  clear hG hT hW hn
  go_enter Tryz.func22, Tryz.ntmps22
  go_upto_region 1 with fail
  generalize w.alloc (.cells #[v, .bool τ] 45) = w1 at *
  have e1 := q1.size
  have K1 : Aside0 _ := ⟨q1⟩
  have hnf : ¬ w.heap.size = sb := by omega
  generalize hfb : w.heap.size = fb at *
  have HFB : Aside0 _ := ⟨hfb⟩
  have rb : w1.rangeAt fb 0 [v, .bool τ] := fun j u hj => by rw [cell_of_row w1 fb (0 + j) _ 45 (0, 0) f1]; simpa using hj
  have cg0 : w1.cell? ⟨gb, 0, none⟩ = some (.pointer (some ⟨stb, 0, none⟩)) := by rw [cell_of_row w1 gb 0 _ 137 (0, 0) hgx]; rfl
  have S0 := Kept.drew w1 (fun b => b = sb)
  clear hfb q1
  refine st 7 (fun w' => Kept w1 w' (fun b => b = sb)) [] S0 ?_
  refine pu 0 (some 12) (mk 7 1) ?_
  refine pu 1 (some 13) (mk 7 3) ?_
  refine pu 2 (some 14) (mk 7 7) ?_
  refine ld 3 (some 15) (mk 7 15) S0 (v := (.pointer (some ⟨stb, 0, none⟩))) ?_ (hy := .inl ⟨by rfl, by intro w' hS; have q1 := hS.cellN hgs cg0; go_simp; try with_reducible rfl⟩)
  refine ld 4 (some 16) (mk 7 31) S0 (v := .agg #[v, .bool τ]) ?_ (hy := (yieldsIf_load_mid (by kernel_rfl) 45 (.tmp 3) rfl fb 0 rfl [v, .bool τ] _ (fun w' hS => fun j u hu => hS.cellN hnf (rb j u hu)) Tryz.underlying45 rfl (by kernel_rfl)))
  refine cl 5 (some 17) (mk 7 63) Tryz.func16 (args := #[(.pointer (some ⟨stb, 0, none⟩)), .agg #[v, .bool τ]]) (hp w1.drew (Kept.drew w1 _)) ?_
  rintro e w2 ⟨hPc, hs2⟩
  obtain ⟨vp, ds, rfl, hrow, hnew, hds, hD, k2⟩ := hPc
  have S1 := S0.trans k2 (H := fun b => b = sb) (fun _ _ h => h) (fun _ _ h => h)
  obtain ⟨pg, pc, rfl⟩ := row_form hrow
  refine ⟨_, rfl, S1, nm ?_⟩
  refine pu 6 (some 5) (mk 7 127) ?_
  refine done_ (by kernel_rfl) ?_
  have hone := all_oneCell_toArray (k35.K_one (hD w2 (Kept.refl _ _)))
  have rg2 : w2.rangeAt pg 0 (pcl u t ds) := fun j y hy => by
    have := hrow.cells (g := pg) rfl j y (by simpa using hy)
    rwa [Addr.add_mid] at this
  have hf2 := frames_one w2 pg pc u t ds hds hone rg2
  have hg2 := k2.heap hgx hgs
  have e2 := k2.size
  have e2' : w1.drew.heap.size = w1.heap.size := rfl
  have K2 : Aside0 _ := ⟨And.intro k2 (And.intro hs2 (And.intro hds hone))⟩
  have HD : Aside0 _ := ⟨hD⟩
  clear k2 hs2 hD hrow hnew rg2 rb cg0 hgx f1 hp S0 S1 hone hnf
  go_upto_region 3 with (first
    | (go_at_call 44; with_reducible refine hf2.mono ?_; rintro e w3 ⟨fg, fc, rfl, hr3, hg3, k3⟩; clear hf2))
  have hgr3 := k3.heap hg2 (fun h => h)
  have e3 := k3.size
  have c4 : w3.cell? ⟨gb, 4, none⟩ = some (.int .i64 0) := by rw [cell_of_row w3 gb 4 _ 137 (0, 0) hgr3]; rfl
  have fz4 : w3.frozen? ⟨gb, 4, none⟩ = false := by simp [World.frozen?, hgr3]
  go_upto_region 4 with fail
  have k4 := Kept.setCell w3 gb 4 (.int .i64 0) (F := fun b => b = gb) rfl
  have hgr4 : (w3.setCell ⟨gb, 4, none⟩ (.int .i64 0)).heap[gb]? = some (.cells (grow137 stb ta fa na) 137 (0, 0)) := setCell_row (i := 4) (v := .int .i64 0) hgr3
  generalize w3.setCell ⟨gb, 4, none⟩ (.int .i64 0) = w4 at *
  obtain ⟨hGI, hn⟩ := id HG.out
  have hta4 : w4.cell? ⟨ta, 0, none⟩ = some (.int .i64 0) := k4.cellN (show ¬ ta = gb from hGI.ne.2.2.2) (k3.cell (K2.out.1.cellN (show ¬ ta = sb from hGI.ne.2.2.1) ((Kept.drew w1 _).cell (K1.out.cell hGI.tid))))
  have hr4 : w4.rangeAt fg 0 (fr u t ds) := fun j y hy => k4.cellN (show ¬ fg = gb by omega) (hr3 j y hy)
  have hD4 : ∀ W, Kept w4 W (fun _ => False) → k35.K W x ds := fun W k => HD.out W ((k3.trans k4 (H := fun b => b = gb) (fun _ _ h => h.elim) (fun _ _ h => h)).trans k (fun b _ h => by have h : b = gb := h; show b < _; omega) (fun _ _ h => h.elim))
  have K4 : Aside0 (Kept w w4 (fun b => b = sb ∨ b = gb)) := ⟨(((K1.out.trans (Kept.drew w1 (fun _ => False)) (H := fun _ => False) (fun _ _ h => h) (fun _ _ h => h)).trans K2.out.1 (H := fun b => b = sb) (fun _ _ h => h.elim) (fun _ _ h => h)).trans k3 (H := fun b => b = sb) (fun _ _ h => h) (fun _ _ h => h.elim)).trans k4 (fun _ _ h => .inl h) (fun _ _ h => .inr h)⟩
  obtain ⟨hds, hone⟩ := id K2.out.2.2
  have hlF : (fr u t ds).length = 24 := by simp at hds; simp [hds]
  have onF : ∀ y ∈ fr u t ds, y.oneCell' = true := fun y hy => pcl_one hone y (List.mem_cons_of_mem _ hy)
  have szX : (Tryz.prog.info? 37).map (·.size) = some (fr u t ds).length := by rw [hlF]; kernel_rfl
  have szX' : (Tryz.prog.info? 37).map (·.size) = some (fr u t ds).toArray.size := by rw [List.size_toArray]; exact szX
  have szY : (Tryz.prog.info? 37).map (·.size) = some (fr u 0 ds).length := by rw [show (fr u 0 ds).length = 24 by simp at hds; simp [hds]]; kernel_rfl
  have hlX : (#[.int .u8 0, .int .u16 0, .int .u8 0, .int .u8 0, .int .u16 0, .int .u16 0, .int .u16 0, .int .u16 0, .int .u16 0, .int .u16 0, .int .u16 0, .int .u16 0, .int .u16 0, .int .u16 0, .slice none 0 0, .slice none 0 0, .slice none 0 0, .slice none 0 0, .int .u8 0, .int .u8 0, .int .u8 0, .int .u8 0, .int .u8 0, .slice none 0 0] : Array Value).size = (fr u t ds).toArray.size := by rw [List.size_toArray, List.size_toArray, hlF]; rfl
  have onX := all_oneCell_toArray onF
  obtain ⟨X, hX⟩ : ∃ P, fr u t ds = P := ⟨_, rfl⟩
  obtain ⟨Y, hY⟩ : ∃ P, fr u 0 ds = P := ⟨_, rfl⟩
  have hset : X.toArray.setIfInBounds 1 (.int .u16 0) = Y.toArray := by rw [← hX, ← hY]; rfl
  have hX1 : X[1]? = some (.int .u16 t) := by rw [← hX]; rfl
  have hwr4 : ∀ W, Kept w4 W (fun _ => False) → Calls Tryz.prog 7 #[.int .i64 0, .int .i64 0, .agg Y.toArray] W fun r w' => Kept W w' (fun _ => False) ∧ ∃ A c, r = .returned (.tuple #[.slice A n c, .int .i64 0]) ∧ By w' (.slice A n c) L := fun W k => by rw [← hY]; exact HW.out W ds (hD4 W k)
  rw [hX] at hlF szX szX' hlX onX hr4
  rw [hY] at szY
  have hXl : X.length = 24 := hlF
  have eg : ∀ args w, (callFunc 54 args).run Tryz.prog w = .ok (.enter 54 args) w := enters_of Tryz.func54 (by kernel_rfl) rfl
  clear k4 hgr3 hr3 hg3 k3 hD4 hGI hds hone hlF onF hX hY c4 fz4 hg2 e3 e2 e2' e1 hn
  go_wp2
  go_loopg [7, 34] 1 (fun kx s7 s34 wr => (s7 = .slice none 0 0 ∧ s34 = .int .i64 0 ∧ 1 ≤ kx ∧ wr = w4) ∨ (s34 = .int .i64 1 ∧ ∃ ob oc A c, s7 = .slice (some ⟨ob, 0, none⟩) 1 oc ∧ Aside0 (wr.cell? ⟨ob, 0, none⟩ = some (.slice A n c) ∧ By wr (.slice A n c) L ∧ Kept w4 wr (fun _ => False))))
  case atStart => exact .inl ⟨rfl, rfl, Nat.le_refl _, rfl⟩
  case round =>
    rcases hrel with ⟨rfl, rfl, hkx, rfl⟩ | ⟨rfl, ob, oc, A, c, rfl, D⟩
    · have N5 := new_row wr #[.int .u8 0, .int .u16 0, .int .u8 0, .int .u8 0, .int .u16 0, .int .u16 0, .int .u16 0, .int .u16 0, .int .u16 0, .int .u16 0, .int .u16 0, .int .u16 0, .int .u16 0, .int .u16 0, .slice none 0 0, .slice none 0 0, .slice none 0 0, .slice none 0 0, .int .u8 0, .int .u8 0, .int .u8 0, .int .u8 0, .int .u8 0, .slice none 0 0] X.toArray 37
      go_upto_region 8 with (first
        | (refine wpList_load_mid rfl 37 (.tmp 36) rfl fg 0 rfl X _ hr4 Tryz.underlying37 rfl szX ?_)
        | (refine wpList_store_row rfl 37 (.tmp 9) (.tmp 37) rfl wr.heap.size X.toArray rfl rfl 37 #[.int .u8 0, .int .u16 0, .int .u8 0, .int .u8 0, .int .u16 0, .int .u16 0, .int .u16 0, .int .u16 0, .int .u16 0, .int .u16 0, .int .u16 0, .int .u16 0, .int .u16 0, .int .u16 0, .slice none 0 0, .slice none 0 0, .slice none 0 0, .slice none 0 0, .int .u8 0, .int .u8 0, .int .u8 0, .int .u8 0, .int .u8 0, .slice none 0 0] (heap_alloc_new _ _) szX' hlX onX ?_))
      obtain ⟨N5, k5⟩ := N5
      generalize (wr.alloc (.cells #[.int .u8 0, .int .u16 0, .int .u8 0, .int .u8 0, .int .u16 0, .int .u16 0, .int .u16 0, .int .u16 0, .int .u16 0, .int .u16 0, .int .u16 0, .int .u16 0, .int .u16 0, .int .u16 0, .slice none 0 0, .slice none 0 0, .slice none 0 0, .slice none 0 0, .int .u8 0, .int .u8 0, .int .u8 0, .int .u8 0, .int .u8 0, .slice none 0 0] 37)).setRow wr.heap.size X.toArray = w5 at *
      obtain ⟨vf, hvf⟩ : ∃ vf, wr.heap.size = vf := ⟨_, rfl⟩
      rw [hvf] at N5
      rw [hvf]
      have hgr5 := k5.heap hgr4 (fun h => h)
      have cta := k5.cell hta4
      have cg3 : w5.cell? ⟨gb, 3, none⟩ = some (.func (.func 54) #[] #[(.pointer (some ⟨ta, 0, none⟩)), (.pointer (some ⟨fa, 0, none⟩)), (.pointer (some ⟨na, 0, none⟩))]) := by rw [cell_of_row w5 gb 3 _ 137 (0, 0) hgr5]; rfl
      have cf1 : w5.cell? ⟨vf, 1, none⟩ = some (.int .u16 t) := by rw [cell_of_row w5 vf 1 _ 37 (0, 0) N5]; simpa using hX1
      have S0 := Kept.drew w5 (fun _ => False)
      refine st 11 (fun w' => Kept w5 w' (fun _ => False)) [10] S0 ?_
      refine pu 0 (some 38) (mk 11 1) ?_
      refine pu 1 (some 39) (mk 11 3) ?_
      refine pu 2 (some 40) (mk 11 7) ?_
      refine pu 4 (some 42) (mk 11 23) ?_
      refine pu 5 (some 43) (mk 11 55) ?_
      refine ld 3 (some 41) (mk 11 63) S0 (v := .func (.func 54) #[] #[(.pointer (some ⟨ta, 0, none⟩)), (.pointer (some ⟨fa, 0, none⟩)), (.pointer (some ⟨na, 0, none⟩))]) ?_ (hy := .inl ⟨by rfl, by intro w' hS; have q1 := hS.cell cg3; go_simp; try with_reducible rfl⟩)
      refine ld 6 (some 44) (mk 11 127) S0 (v := .int .u16 t) ?_ (hy := .inl ⟨by rfl, by intro w' hS; have q1 := hS.cell cf1; go_simp; try with_reducible rfl⟩)
      refine clv 7 (some 45) (mk 11 255) (eg _ _) (num_calls _ t ta fa na (S0.cell cta)) ?_
      rintro e w6 ⟨rfl, rfl⟩
      refine ⟨_, rfl, S0, nm ?_⟩
      refine pu 8 (some 46) (mk 11 511) ?_
      refine pu 9 (some 47) (mk 11 1023) ?_
      refine la 10 none (mk 11 2047) fun K hK => ?_
      refine wp_store_cell 27 (.tmp 47) (.tmp 45) rfl vf 1 (.int .u16 0) rfl rfl rfl 37 X.toArray (S0.heap N5 (fun h => h)) (by rw [List.size_toArray, hXl]; decide) (by kernel_rfl) ?_
      refine hK _ _ (nm ?_)
      clear hK K
      refine done_ (by kernel_rfl) ?_
      have k6 := S0.trans (Kept.setCell w5.drew vf 1 (.int .u16 0) (F := fun b => b = vf) rfl) (H := fun b => b = vf) (fun _ _ h => h.elim) (fun _ _ h => h)
      have N7 : (w5.drew.setCell ⟨vf, 1, none⟩ (.int .u16 0)).heap[vf]? = some (.cells Y.toArray 37 (0, 0)) := by rw [← hset]; exact setCell_row (i := 1) (v := .int .u16 0) (S0.heap N5 (fun h => h))
      generalize w5.drew.setCell ⟨vf, 1, none⟩ (.int .u16 0) = w7 at *
      have hvg : ¬ gb = vf := by have := heap_lt hgr4; omega
      have hgr7 := k6.heap hgr5 hvg
      have K7 : Kept wr w7 (fun _ => False) := k5.trans k6 (fun _ _ h => h) (fun b hb h => by have h : b = vf := h; omega)
      have cg1 : w7.cell? ⟨gb, 1, none⟩ = some (.int .i64 0) := by rw [cell_of_row w7 gb 1 _ 137 (0, 0) hgr7]; rfl
      have cg2 : w7.cell? ⟨gb, 2, none⟩ = some (.int .i64 0) := by rw [cell_of_row w7 gb 2 _ 137 (0, 0) hgr7]; rfl
      have rY : w7.rangeAt vf 0 Y := fun j y hy => by rw [cell_of_row w7 vf (0 + j) _ 37 (0, 0) N7]; simpa using hy
      have hwr : ∀ W, Kept w7 W (fun _ => False) → Calls Tryz.prog 7 #[.int .i64 0, .int .i64 0, .agg Y.toArray] W fun r w' => Kept W w' (fun _ => False) ∧ ∃ A c, r = .returned (.tuple #[.slice A n c, .int .i64 0]) ∧ By w' (.slice A n c) L := fun W k => hwr4 W (K7.trans k (fun _ _ h => h) (fun _ _ h => h))
      clear S0 k5 k6 N5 N7 hgr5 hgr7 cg3 cf1 cta hwr4
      go_upto_region 9 with fail
      have S0 := Kept.drew w7 (fun _ => False)
      refine st 15 (fun w' => Kept w7 w' (fun _ => False)) [] S0 ?_
      refine pu 0 (some 49) (mk 15 1) ?_
      refine pu 1 (some 50) (mk 15 3) ?_
      refine pu 2 (some 51) (mk 15 7) ?_
      refine pu 4 (some 53) (mk 15 23) ?_
      refine pu 5 (some 54) (mk 15 55) ?_
      refine pu 6 (some 55) (mk 15 119) ?_
      refine ld 3 (some 52) (mk 15 127) S0 (v := .int .i64 0) ?_ (hy := .inl ⟨by rfl, by intro w' hS; have q1 := hS.cell cg1; go_simp; try with_reducible rfl⟩)
      refine ld 7 (some 56) (mk 15 255) S0 (v := .int .i64 0) ?_ (hy := .inl ⟨by rfl, by intro w' hS; have q1 := hS.cell cg2; go_simp; try with_reducible rfl⟩)
      refine ld 8 (some 57) (mk 15 511) S0 (v := .agg Y.toArray) ?_ (hy := (yieldsIf_load_mid (by kernel_rfl) 37 (.tmp 9) rfl vf 0 rfl Y _ (fun w' hS => hS.range rY) Tryz.underlying37 rfl szY))
      refine cl 9 (some 58) (mk 15 1023) Tryz.func7 (args := #[.int .i64 0, .int .i64 0, .agg Y.toArray]) (hwr _ S0) ?_
      rintro e w8 ⟨k8, A8, c8, rfl, hB8⟩
      have S1 := S0.trans k8 (H := fun _ => False) (fun _ _ h => h) (fun _ _ h => h)
      refine ⟨_, rfl, S1, nm ?_⟩
      refine pu 10 (some 48) (mk 15 2047) ?_
      refine pu 11 (some 59) (mk 15 4095) ?_
      refine pu 12 (some 60) (mk 15 8191) ?_
      refine pu 13 (some 10) (mk 15 16383) ?_
      refine pu 14 (some 11) (mk 15 32767) ?_
      refine done_ (by kernel_rfl) ?_
      have hlit := lit_bys w8 A8 n c8
      have q9 := Kept.alloc w8 (.cells #[.slice A8 n c8] 23) (fun _ => False)
      have N9 := heap_alloc_new w8 (.cells #[.slice A8 n c8] 23)
      obtain ⟨g, c, w10, ha, hr10, hg10, k10⟩ := nil_app (cs := [.slice A8 n c8]) Tryz.underlying81 info23 (by decide) (by decide) (w8.alloc (.cells #[.slice A8 n c8] 23)) w8.heap.size 1 rfl (fun y hy => by rw [List.mem_singleton.1 hy]; rfl) (row_cells (fun j y hy => by rw [cell_of_row _ w8.heap.size (0 + j) _ 23 (0, 0) N9]; simpa using hy)) 81
      have k9 := q9.trans k10 (H := fun _ => False) (fun _ _ h => h) (fun _ _ h => h)
      have D : Aside0 (w10.cell? ⟨g, 0, none⟩ = some (.slice A8 n c8) ∧ By w10 (.slice A8 n c8) L ∧ Kept wr w10 (fun _ => False)) := ⟨hr10 0 _ rfl, hB8.keep k9, (K7.trans S1 (H := fun _ => False) (fun _ _ h => h) (fun _ _ h => h)).trans k9 (fun _ _ h => h) (fun _ _ h => h)⟩
      clear hr10 hg10 k10 q9 N9 k9 hB8 S0 S1 k8 K7 cg1 cg2 rY hwr
      go_wp2_with (first
        | (refine wpList_lit1 rfl 81 (.tmp 64) rfl (some 65) rfl (.slice A8 n c8) rfl (.slice (some ⟨w8.heap.size, 0, none⟩) 1 1) (w8.alloc (.cells #[.slice A8 n c8] 23)) hlit ?_)
        | (refine wpList_app rfl (.tmp 63) (.tmp 65) 81 81 rfl (some 66) rfl (.slice none 0 0) (.slice (some ⟨w8.heap.size, 0, none⟩) 1 1) rfl rfl (.slice (some ⟨g, 0, none⟩) 1 c) w10 ha ?_))
      go_roundg 0
      · exact .inr ⟨rfl, g, c, A8, c8, rfl, D⟩
      · exact hkx
    · go_wp2
      go_ret
      exact ⟨ob, oc, A, c, rfl, D.out.1, D.out.2.1, K4.out.trans D.out.2.2 (fun _ _ h => h) (fun _ _ h => h.elim)⟩
set_option maxHeartbeats 2000000 in
set_option maxRecDepth 1000000 in
theorem gateRun (w : World) (pb pc : Nat) {u t : Int} {x : S35} {v : Value} (hv1 : v.oneCell' = true) {τ : Bool} (hp : w.rangeAt pb 0 [v, .bool τ]) (hT : ∀ W stb sb, Kept w W (fun _ => False) → StrI 105 145 (cs1 0) W stb sb → stb ≠ sb → w.heap.size ≤ sb → Calls Tryz.prog 16 #[(.pointer (some ⟨stb, 0, none⟩)), .agg #[v, .bool τ]] W fun r w' => Piece W w' r u t x (fun b => b = sb) ∧ StrI 105 145 (cs1 0) w' stb sb)
    {L : List Int} {n : Nat} (hn : L.length = n) (hn0 : 0 < n) (hn1 : n ≤ 1000) (hW : ∀ W ds, k35.K W x ds → Calls Tryz.prog 7 #[.int .i64 0, .int .i64 0, .agg (fr u 0 ds).toArray] W fun r w' => Kept W w' (fun _ => False) ∧ ∃ A c, r = .returned (.tuple #[.slice A n c, .int .i64 0]) ∧ By w' (.slice A n c) L) :
    Calls Tryz.prog 11 #[.int .i64 1, .int .i64 0, .int .i64 0, .slice (some ⟨pb, 0, none⟩) 1 pc] w fun r w' => ∃ A c, r = .returned (.slice A n c) ∧ By w' (.slice A n c) L ∧ Kept w w' (fun _ => False) := by
  have hnew := gateNew w
  have HA : Aside0 _ := ⟨And.intro hT (And.intro hn (And.intro hn0 (And.intro hn1 hW)))⟩
  clear hT hn hn0 hn1 hW
  go_enter Tryz.func11, Tryz.ntmps11
  go_upto_region 5 with (first
    | (go_at_call 20; with_reducible refine hnew.mono ?_; rintro e w1 ⟨gb, stb, sb, ta, fa, na, rfl, hG, h1, h2, k1⟩; clear hnew))
  have hp1 := k1.range hp
  have N2 := new_row w1 #[.slice none 0 0, .bool false] #[v, .bool τ] 45
  have on45 : (#[v, .bool τ] : Array Value).all (·.oneCell') = true := by simp [hv1]; rfl
  have HG : Aside0 _ := ⟨And.intro hG (And.intro h1 (And.intro h2 k1))⟩
  clear hG h1 h2 k1 hp
  go_wp2
  go_loopg [10, 21] 1 (fun kx s10 s21 wr => (s10 = .slice none 0 0 ∧ s21 = .int .i64 0 ∧ 1 ≤ kx ∧ wr = w1) ∨ (s21 = .int .i64 1 ∧ ∃ A c, s10 = .slice A n c ∧ Aside0 (By wr (.slice A n c) L ∧ Kept w wr (fun _ => False))))
  case atStart => exact .inl ⟨rfl, rfl, Nat.le_refl _, rfl⟩
  case round =>
    rcases hrel with ⟨rfl, rfl, hkx, rfl⟩ | ⟨rfl, A, c, rfl, D⟩
    · go_upto_region 8 with (first
        | (refine wpList_load_mid rfl 45 (.tmp 23) rfl pb 0 rfl [v, .bool τ] _ hp1 Tryz.underlying45 rfl (by kernel_rfl) ?_)
        | (refine wpList_store_row rfl 45 (.tmp 12) (.tmp 24) rfl wr.heap.size #[v, .bool τ] rfl rfl 45 #[.slice none 0 0, .bool false] (heap_alloc_new _ _) (by kernel_rfl) rfl on45 ?_))
      obtain ⟨N2, k2⟩ := N2
      generalize (wr.alloc (.cells #[.slice none 0 0, .bool false] 45)).setRow wr.heap.size #[v, .bool τ] = w2 at *
      obtain ⟨vb, hvb⟩ : ∃ vb, wr.heap.size = vb := ⟨_, rfl⟩
      rw [hvb] at N2
      rw [hvb]
      have rv : w2.rangeAt vb 0 [v, .bool τ] := fun j y hy => by rw [cell_of_row w2 vb (0 + j) _ 45 (0, 0) N2]; simpa using hy
      obtain ⟨hG, h1, h2, k1⟩ := id HG.out
      have hG2 : GateI w2 gb stb sb ta fa na := ⟨k2.heap hG.row (fun h => h), hG.str.kept k2 (fun h => h) (fun h => h), k2.cell hG.tid, hG.ne⟩
      have k12 := k1.trans k2 (H := fun _ => False) (fun _ _ h => h) (fun _ _ h => h)
      have htk := gateTake hG2 hv1 (τ := τ) (fun W k => HA.out.1 W stb sb (k12.trans k (fun _ _ h => h) (fun _ _ h => h)) (hG2.str.kept k (fun h => h) (fun h => h)) hG2.ne.1 h1) HA.out.2.1 HA.out.2.2.2.2
      have K12 : Aside0 _ := ⟨And.intro k12 (And.intro h1 h2)⟩
      clear k12 hG hG2 h1 h2 k1 k2 N2 hvb
      obtain ⟨hn, hn0, hn1, -⟩ := id HA.out.2
      have hcc := fun W ob c0 A c => concat_calls W ob c0 A c L (by omega) (by omega)
      rw [hn] at hcc
      go_wp2_with (first
        | (refine wpList_load_mid rfl 45 (.tmp 12) rfl vb 0 rfl [v, .bool τ] _ rv Tryz.underlying45 rfl (by kernel_rfl) ?_)
        | (go_at_call 22; with_reducible refine htk.mono ?_; rintro e w3 ⟨ob, oc, A3, c3, rfl, hc3, hB3, k3⟩; clear htk)
        | (go_at_call 21; with_reducible refine (hcc _ _ _ _ _ hc3 hB3).mono ?_; rintro e w4 ⟨A4, c4, rfl, hB4, k4⟩; obtain ⟨v5, w5, ha, ho5, hg5, -⟩ := app_by w4 23 (.slice none 0 0) 0 [] (World.ownsRow_nil _ _ _ _) _ L hB4 (by omega); have hR5 := row_rd (k := .u8) (l := L) (by simpa using ho5) (by omega); obtain ⟨A5, c5, rfl, -⟩ := hR5.len; rw [hn] at hR5 ha)
        | (refine wpList_app rfl (.tmp 25) (.tmp 29) 23 23 rfl (some 30) rfl (.slice none 0 0) (.slice A4 n c4) rfl rfl (.slice A5 n c5) w5 ha ?_))
      have D : Aside0 (By w5 (.slice A5 n c5) L ∧ Kept w w5 (fun _ => False)) := ⟨hR5, ((K12.out.1.trans k3 (H := fun _ => False) (fun _ _ h => h) (fun b hb h => by have := K12.out.2; rcases h with h | h <;> omega)).trans k4 (H := fun _ => False) (fun _ _ h => h) (fun _ _ h => h)).trans (Kept.grown hg5 (F := fun _ => False) (fun b hb => by simp [Value.ownBlock] at hb)) (fun _ _ h => h) (fun _ _ h => h)⟩
      clear hR5 k3 k4 hg5 ho5 hB4 hB3 hc3
      go_roundg 0
      · exact .inr ⟨rfl, A5, c5, rfl, D⟩
      · exact hkx
    · go_wp2
      go_ret
      exact ⟨A, c, rfl, D.out⟩
end Go.Proofs.YtmbjlondehcheaaGreatDoor
end
section
set_option linter.unusedSimpArgs false
set_option linter.unusedVariables false
namespace Go.Proofs.YtmbjlondehcheaaGreatDoor
open Go.Shelf Go.RowKit Go.Lib Go.Sort Go.Proofs.YtmbjlondehcheaaGreatDoorW.PrintWords Go.Proofs.YtmbjlondehcheaaGreatDoorW.PrintLast Go.Proofs.YtmbjlondehcheaaGreatDoor.PTopTalk
set_option maxHeartbeats 1000000 in
set_option maxRecDepth 1000000 in
theorem form1_calls (w : World) (G : Nat → Prop) (cb mb : Nat) (x : S35) (h : MsgAt w G mb x) (h0 : x.f0 = 3) :
    Calls Tryz.prog 143 #[.int .i64 1, (.pointer (some ⟨mb, 0, none⟩)), (.pointer (some ⟨cb, 0, none⟩))] w fun r w' => ∃ ca ma, w.heap.size ≤ ca ∧ w.heap.size ≤ ma ∧ EV cb mb ca ma w' ∧ Kept w w' (fun _ => False) ∧ r = .returned (.func (.func 175) #[] #[(.pointer (some ⟨ca, 0, none⟩)), (.pointer (some ⟨ma, 0, none⟩))]) := by
  have c0 := h.g0
  rw [h0] at c0
  clear h h0
  have f4 := heap_alloc_new w (.cells #[(.pointer (some ⟨mb, 0, none⟩))] 234)
  have q5 := Kept.alloc (w.alloc (.cells #[(.pointer (some ⟨mb, 0, none⟩))] 234)) (.cells #[(.pointer (some ⟨cb, 0, none⟩))] 232) (fun _ => False)
  have f5 := heap_alloc_new (w.alloc (.cells #[(.pointer (some ⟨mb, 0, none⟩))] 234)) (.cells #[(.pointer (some ⟨cb, 0, none⟩))] 232)
  have k2 := (Kept.alloc w (.cells #[(.pointer (some ⟨mb, 0, none⟩))] 234) (fun _ => False)).trans q5 (fun _ _ h => h) (fun _ _ h => h)
  replace f4 := q5.heap f4 (fun h => h)
  clear q5
  go_enter Tryz.func143, Tryz.ntmps143
  go_upto_region 1 with fail
  rw [asz] at f5
  generalize (w.alloc (.cells #[(.pointer (some ⟨mb, 0, none⟩))] 234)).alloc (.cells #[(.pointer (some ⟨cb, 0, none⟩))] 232) = w2 at *
  generalize hz : w.heap.size + 1 = ca at *
  generalize hz2 : w.heap.size = ma at *
  have hma : w.heap.size ≤ ma := by omega
  have hca : w.heap.size ≤ ca := by omega
  clear hz hz2
  have fw := new_cell w2 .nilFunc (.func (.func 172) #[] #[(.pointer (some ⟨ca, 0, none⟩)), (.pointer (some ⟨ma, 0, none⟩))]) 273
  go_upto_region 2 with (refine wpList_plain rfl fun _ hK => wp_store_cell 273 (.tmp 7) (.tmp 10) rfl w2.heap.size 0 (.func (.func 172) #[] #[(.pointer (some ⟨ca, 0, none⟩)), (.pointer (some ⟨ma, 0, none⟩))]) rfl rfl rfl 273 #[.nilFunc] (heap_alloc_new _ _) (by decide) (by kernel_rfl) (hK _ _ ?_))
  generalize (w2.alloc (.cells #[.nilFunc] 273)).setCell ⟨w2.heap.size, 0, none⟩ (.func (.func 172) #[] #[(.pointer (some ⟨ca, 0, none⟩)), (.pointer (some ⟨ma, 0, none⟩))]) = w3 at *
  obtain ⟨fw, k3⟩ := fw
  have hwb := k2.size
  generalize w2.heap.size = wb at *
  have fq := new_cell w3 (.bool false) (.bool false) 4
  go_upto_region 3 with (refine wpList_plain rfl fun _ hK => wp_store_cell 4 (.tmp 8) (.tmp 12) rfl w3.heap.size 0 (.bool false) rfl rfl rfl 4 #[.bool false] (heap_alloc_new _ _) (by decide) (by kernel_rfl) (hK _ _ ?_))
  generalize (w3.alloc (.cells #[.bool false] 4)).setCell ⟨w3.heap.size, 0, none⟩ (.bool false) = w4 at *
  obtain ⟨fq, k4⟩ := fq
  generalize w3.heap.size = qb at *
  have k24 := k3.trans k4 (H := fun _ => False) (fun _ _ h => h) (fun _ _ h => h)
  have KK := k2.trans k24 (H := fun _ => False) (fun _ _ h => h) (fun _ _ h => h)
  replace c0 := KK.cell c0
  replace f4 := k24.heap f4 (fun h => h)
  replace f5 := k24.heap f5 (fun h => h)
  have e4 : w4.cell? ⟨ma, 0, none⟩ = some (.pointer (some ⟨mb, 0, none⟩)) := by rw [cell_of_row w4 ma 0 _ 234 (0, 0) f4]; rfl
  have e5 : w4.cell? ⟨ca, 0, none⟩ = some (.pointer (some ⟨cb, 0, none⟩)) := by rw [cell_of_row w4 ca 0 _ 232 (0, 0) f5]; rfl
  have eq : w4.cell? ⟨qb, 0, none⟩ = some (.bool false) := by rw [cell_of_row w4 qb 0 _ 4 (0, 0) fq]; rfl
  have FIN : Aside0 (EV cb mb ca ma w4 ∧ Kept w w4 (fun _ => False)) := ⟨⟨e5, e4⟩, KK⟩
  clear KK k24 k4 k3 k2 f4 f5 fw fq e5
  go_wp2
  go_ret
  exact ⟨ca, ma, hca, hma, FIN.out.1, FIN.out.2, rfl⟩
theorem byte207 : (⟨[2, 0, 7], false, 0⟩ : St).byte = (2, ⟨[0, 7], false, 0⟩) := by kernel_rfl
theorem words07 : (⟨[0, 7], false, 0⟩ : St).words 1 = ([7], ⟨[], false, 0⟩) := by kernel_rfl
theorem need07 : (⟨[0, 7], false, 0⟩ : St).need true 5 = ⟨[0, 7], false, 0⟩ := by kernel_rfl
section
variable {W w : World} {G : Nat → Prop} {cb mb : Nat} {E : World → Prop} {x : S35}
theorem Q.byte207 (h : Q W w G cb mb E ⟨[2, 0, 7], false, 0⟩ x) : Calls Tryz.prog 149 #[(.pointer (some ⟨cb, 0, none⟩))] w fun r w' => r = .returned (.int .u8 2) ∧ Q W w' G cb mb E ⟨[0, 7], false, 0⟩ x := by
  have := h.byte
  rwa [YtmbjlondehcheaaGreatDoor.byte207] at this
theorem Q.need07 (h : Q W w G cb mb E ⟨[0, 7], false, 0⟩ x) : Calls Tryz.prog 150 #[(.pointer (some ⟨cb, 0, none⟩)), .bool true, .int .i64 5] w fun r w' => r = .returned (.tuple #[]) ∧ Q W w' G cb mb E ⟨[0, 7], false, 0⟩ x := by
  have := h.need true 5
  rwa [YtmbjlondehcheaaGreatDoor.need07] at this
theorem Q.words07 (h : Q W w G cb mb E ⟨[0, 7], false, 0⟩ x) : Calls Tryz.prog 176 #[(.pointer (some ⟨cb, 0, none⟩)), .int .i64 1] w fun r w' => ∃ A c, r = .returned (.slice A 1 c) ∧ Stay .u16 w' G (.slice A 1 c) [7] ∧ Q W w' G cb mb E ⟨[], false, 0⟩ x := by
  have := h.words 1
  rwa [YtmbjlondehcheaaGreatDoor.words07] at this
end
set_option maxHeartbeats 1000000 in
set_option maxRecDepth 1000000 in
theorem rd_form (G : Nat → Prop) (cb mb ca ma : Nat) (hca : ¬ Two cb mb ca) (hma : ¬ Two cb mb ma) (w : World) (x : S35) (p : PC w G cb mb ⟨[2, 0, 7], false, 0⟩ x) (e : EV cb mb ca ma w) :
    Calls Tryz.prog 175 #[(.pointer (some ⟨ca, 0, none⟩)), (.pointer (some ⟨ma, 0, none⟩))] w fun r w' => r = .returned (.tuple #[]) ∧ PC w' G cb mb ⟨[], false, 0⟩ { x with f12 := [7] } ∧ Kept w w' (Two cb mb) := by
  have P0 := Q.start p e (ev_st hca hma)
  have cc := e.1
  have hb := P0.byte207
  clear p e hca hma
  go_enter Tryz.func175, Tryz.ntmps175
  go_upto_region 1 with (first | (go_at_call 149; with_reducible refine hb.mono ?_; rintro e w1 ⟨rfl, P1⟩; clear hb))
  have hnd := P1.need07
  have cc1 := P1.e.1
  go_upto_region 2 with (first | (go_at_call 150; with_reducible refine hnd.mono ?_; rintro e w2 ⟨rfl, P2⟩; clear hnd))
  clear cc cc1 P0 P1
  have P2_2 := P2.drew
  clear P2
  refine st 8 (fun w' => w'.cell? ⟨ca, 0, none⟩ = some (.pointer (some ⟨cb, 0, none⟩)) ∧ w'.cell? ⟨ma, 0, none⟩ = some (.pointer (some ⟨mb, 0, none⟩))) [7] P2_2.e ?_
  refine ld 0 (some 19) (mk 8 1) P2_2.e ?_
  refine ld 1 (some 20) (mk 8 3) P2_2.e ?_
  refine pu 2 (some 21) (mk 8 7) ?_
  refine pu 3 (some 22) (mk 8 15) ?_
  refine cl 4 (some 23) (mk 8 31) Tryz.func176 (args := #[(.pointer (some ⟨cb, 0, none⟩)), .int .i64 1]) (Q.words07 P2_2) ?_
  rintro e w2_1 ⟨A1, c1, rfl, hS1, P2_2_1⟩
  clear P2_2
  refine ⟨_, rfl, P2_2_1.e, nm ?_⟩
  refine pu 5 (some 24) (mk 8 63) ?_
  refine pu 6 (some 25) (mk 8 127) ?_
  have P2_2_107 := P2_2_1.put (P2_2_1.m.s12 (l := [7]) hS1)
  refine la 7 none (mk 8 255) fun K hK => ?_
  refine wp_store_msg 30 (.tmp 25) (.tmp 23) rfl mb 12 (.slice A1 1 c1) rfl rfl rfl P2_2_1.m (by decide) (by kernel_rfl) ?_
  refine hK _ _ (nm ?_)
  clear hK K P2_2_1
  refine done_ (by kernel_rfl) ?_
  generalize w2_1.setCell ⟨mb, 12, none⟩ (.slice A1 1 c1) = w2_107 at *
  have P3 := P2_2_107
  clear P2_2_107
  have FIN : Aside0 _ := ⟨P3⟩
  clear P3
  go_end0
  exact ⟨rfl, FIN.out.pc, FIN.out.k⟩
set_option maxHeartbeats 4000000 in
set_option maxRecDepth 1000000 in
theorem regsP1_calls (P : S35 × Int) (c : Int) (l : List Int) (hc : c = 3) (hll : l = [2, 0, 7]) (hP : P = fin ⟨[], false, 0⟩ { z35 with f0 := c, f12 := [7] }) (w : World) (v : Value) (h : By w v l) (hl : l.length ≤ 100000) :
    Calls Tryz.prog 123 #[.int .i64 1, .int .u8 c, v] w fun r w' => ∃ cs, r = .returned (.tuple #[.agg cs.toArray, .int .i64 P.2]) ∧ (∀ W, Kept w' W (fun b => b < w.heap.size) → k35.K W P.1 cs) ∧ Kept w w' (fun _ => False) := by
  have HC : Aside0 _ := ⟨And.intro hc (And.intro hll hP)⟩
  clear hc hll hP
  have hz := zero35
  have f6 := heap_alloc_new w (.cells (cs35 0).toArray 35)
  have q6 := Kept.alloc w (.cells (cs35 0).toArray 35) (fun _ => False)
  have hB1 := h.keep q6
  clear h
  go_enter Tryz.func123, Tryz.ntmps123
  go_upto_region 3 with fail
  have HR : Aside0 (∀ b, b = w.heap.size → b < (w.alloc (.cells (cs35 0).toArray 35)).heap.size) := ⟨fun b h => by simp [h]⟩
  generalize (w.alloc (.cells (cs35 0).toArray 35)) = w1 at *
  generalize hrb : w.heap.size = rb at *
  have HRB : Aside0 _ := ⟨hrb⟩
  clear hrb
  have f8 := setRow_heap (w1.alloc (.cells (cs35 0).toArray 35)) w1.heap.size (cs35 0).toArray (cs35 c).toArray 35 _ (heap_alloc_new _ _)
  have q8 : Kept w1 ((w1.alloc (.cells (cs35 0).toArray 35)).setRow w1.heap.size (cs35 c).toArray) (fun _ => False) := (Kept.alloc w1 _ (fun _ => False)).trans (Kept.setRow _ w1.heap.size _ (F := fun b => b = w1.heap.size) rfl) (fun _ _ h => h) (fun k hk h => by omega)
  go_upto_region 4 with (first
    | (refine wpList_buildTo rfl 35 _ rfl (some 20) rfl (cs35 c).toArray ?_ ?_; (simp only [List.map_toArray, List.map_cons, List.map_nil]; exact built35 c))
    | (refine wpList_store_row rfl 35 (.tmp 8) (.tmp 20) rfl w1.heap.size (cs35 c).toArray rfl rfl 35 (cs35 0).toArray (heap_alloc_new _ _) (sizeM _ rfl) rfl (by kernel_rfl) ?_))
  have HM : Aside0 (∀ b, b = w1.heap.size → b < ((w1.alloc (.cells (cs35 0).toArray 35)).setRow w1.heap.size (cs35 c).toArray).heap.size) := ⟨fun b h => by simp [h]⟩
  have hB2 := hB1.keep q8
  have g1 := f6
  have g6 := q8.heap f6 (fun h => h)
  have K2 := q6.trans q8 (fun _ _ h => h) (fun _ _ h => h)
  generalize ((w1.alloc (.cells (cs35 0).toArray 35)).setRow w1.heap.size (cs35 c).toArray) = w2 at *
  generalize hmb : w1.heap.size = mb at *
  have HMB : Aside0 _ := ⟨hmb⟩
  clear hmb
  clear hB1 q6 q8 f6
  have hnc := new_cur w2 v l hB2 hl
  go_upto_region 5 with (go_at_call 133; with_reducible refine hnc.mono ?_; rintro e w3 ⟨cb, rfl, hcb, hC, k3⟩)
  have hrm : rb < mb := by have := heap_lt g1; have := HMB.out; omega
  have hwm : w.heap.size ≤ mb := by have := HRB.out; omega
  have hwc : w.heap.size ≤ cb := by have := HM.out mb rfl; omega
  have PM := start_pc (rb := rb) (HM.out mb rfl) (Nat.lt_trans hrm (HM.out mb rfl)) hcb hl f8 hC k3
  have hrc : ¬ rb = cb := by have := HM.out mb rfl; omega
  have hR2 : ¬ Two cb mb rb := fun h => by rcases h with h | h; exact hrc h; omega
  have HRB2 := HRB.out
  have P3 : Q w3 w3 (fun b => b = cb ∨ b = mb ∨ b ≤ rb) cb mb (fun w' => w'.heap[rb]? = some (.cells (cs35 0).toArray 35 (0, 0))) ⟨l, false, 0⟩ { z35 with f0 := c } := Q.start PM (k3.heap g6 (fun h => h)) (fun _ _ h k => k.heap h hR2)
  have K3 := K2.trans k3 (H := fun _ => False) (fun _ _ h => h) (fun _ _ h => h)
  have KB : Aside0 (∀ W, Kept w3 W (fun b => b = cb ∨ b = mb ∨ b = rb) → Kept w W (fun _ => False)) := ⟨fun W k => K3.trans k (H := fun _ => False) (fun _ _ h => h) (fun b hb e => by rcases e with e | e | e <;> omega)⟩
  clear PM K2 K3 k3 g6 g1 hC hnc f8 HRB HMB HM hB2 HR
  have hfc := form1_calls w3 _ cb mb _ P3.m HC.out.1
  go_upto_region 6 with (go_at_call 143; with_reducible refine hfc.mono ?_; rintro e w4 ⟨ca, ma, o3, o4, EE, k4, rfl⟩)
  have lo : ∀ b, w3.heap.size ≤ b → ¬ Two cb mb b := fun b hb h => by rcases h with h | h; (have := P3.pc.c.low cb P3.pc.c.hot; omega); (have := P3.pc.c.low mb P3.pc.m.hot; omega)
  have eg : ∀ args w, (callFunc 175 args).run Tryz.prog w = .ok (.enter 175 args) w := enters_of Tryz.func175 (by kernel_rfl) rfl
  have P4 := P3.keep0 k4
  have p4 := P4.pc
  rw [HC.out.2.1] at p4
  have hf := rd_form (fun b => b = cb ∨ b = mb ∨ b ≤ rb) cb mb ca ma (lo _ o3) (lo _ o4) w4 _ p4 EE
  have hnf := nofn 175 #[] #[(.pointer (some ⟨ca, 0, none⟩)), (.pointer (some ⟨ma, 0, none⟩))]
  clear hfc p4 P3 lo EE k4
  go_upto_region 9 with (go_at_fn 175; with_reducible refine hf.mono ?_; rintro e w5 ⟨rfl, p5, k5⟩)
  have P5 := P4.to p5 k5
  have hR := HC.out.2.2
  obtain ⟨s, hs⟩ : ∃ s : St, ⟨[], false, 0⟩ = s := ⟨_, rfl⟩
  obtain ⟨x, hx⟩ : ∃ x : S35, { z35 with f0 := c, f12 := [7] } = x := ⟨_, rfl⟩
  rw [hs, hx] at hR
  replace P5 : Q w3 w5 (fun b => b = cb ∨ b = mb ∨ b ≤ rb) cb mb (fun w' => w'.heap[rb]? = some (.cells (cs35 0).toArray 35 (0, 0))) s x := by rw [← hs, ← hx]; exact P5
  have HE : Aside0 _ := ⟨hR⟩
  clear hf p5 k5 P4 hnf eg hR hs hx
  have hend := P5.end_
  go_upto_region 10 with (go_at_call 139; with_reducible refine hend.mono ?_; rintro e wy ⟨rfl, PY⟩)
  clear hend P5
  have herr := PY.pc.err
  go_upto_region 11 with (go_at_call 140; with_reducible refine herr.mono ?_; rintro e wz ⟨rfl, rfl⟩)
  clear herr
  obtain ⟨cs, hcs, hK⟩ := PY.m.out
  have hlen : cs.toArray.size = 22 := by rw [List.size_toArray, k35.K_len (hK wz (Kept.refl _ _))]; exact sz35
  have hone := all_oneCell_toArray (k35.K_one (hK wz (Kept.refl _ _)))
  have grb := PY.e
  have R1 : Kept wz (wz.setRow rb cs.toArray) (fun b => b = rb) := Kept.setRow wz rb _ rfl
  have R2 : Kept wz (wz.setRow rb (cs35 0).toArray) (fun b => b = rb) := Kept.setRow wz rb _ rfl
  have KF : ∀ W, Kept wz W (fun b => b = rb) → Kept w W (fun _ => False) := fun W q => KB.out W (PY.k.trans q (fun _ _ h => h.elim .inl fun h => .inr (.inl h)) (fun _ _ h => .inr (.inr h)))
  have hs0 : (cs35 0).toArray.size = cs.toArray.size := by rw [hlen]; rfl
  generalize hS : (s).end_ = sz at *
  by_cases he : sz.e = 0
  · have hP : fin (s) (x) = ((x), 0) := by rw [fin, hS, if_pos he]
    have FIN : Aside0 _ := ⟨And.intro hP (And.intro (fun W (q : Kept _ W (fun b => b < w.heap.size)) => hK W (R1.trans q (fun b _ e => .inr (.inr (Nat.le_of_eq e))) (fun b _ h => .inr (.inr (by omega))))) (KF _ R1))⟩
    clear PY hK R1 R2 KF hP hS
    go_wp2_with (first
      | (refine wpList_load_row rfl 35 (.tmp 8) rfl mb rfl 35 cs.toArray (0, 0) _ hcs Tryz.underlying35 rfl (sizeM _ hlen) ?_)
      | (refine wpList_store_row rfl 35 (.tmp 6) (.tmp 39) rfl rb cs.toArray rfl rfl 35 (cs35 0).toArray grb (sizeM _ hlen) hs0 hone ?_))
    (try simp only [Exit.inBlock, Exit.then])
    refine bodyPost_ret (results_ct (p := 6) (u := 7) (ty := 35) Tryz.results123 _ _ rb 35 cs.toArray (0, 0) _ rfl (setRow_heap _ _ _ _ 35 _ grb) Tryz.underlying35 rfl (sizeM _ hlen)) rfl ?_
    rw [HE.out, FIN.out.1]
    exact ⟨cs, rfl, FIN.out.2⟩
  · have hP : fin (s) (x) = (z35, sz.e) := by rw [fin, hS, if_neg he]
    have heb : (sz.e != 0) = true := by simpa using he
    have FIN : Aside0 _ := ⟨And.intro hP (KF _ R2)⟩
    clear PY hK R1 R2 KF hP hS
    go_wp2_with (first
      | (refine wpList_buildTo rfl 35 _ rfl (some 37) rfl (cs35 0).toArray ?_ ?_; (simp only [List.map_toArray, List.map_nil]; exact built35z))
      | (refine wpList_store_row rfl 35 (.tmp 6) (.tmp 37) rfl rb (cs35 0).toArray rfl rfl 35 (cs35 0).toArray grb (sizeM _ rfl) rfl (all_cs35 0) ?_))
    (try simp only [Exit.inBlock, Exit.then])
    refine bodyPost_ret (results_ct (p := 6) (u := 7) (ty := 35) Tryz.results123 _ _ rb 35 (cs35 0).toArray (0, 0) _ rfl (setRow_heap _ _ _ _ 35 _ grb) Tryz.underlying35 rfl (sizeM _ rfl)) rfl ?_
    rw [HE.out, FIN.out.1]
    exact ⟨cs35 0, rfl, fun W _ => cs35_K 0 W, FIN.out.2⟩
abbrev xa : S35 := { z35 with f0 := 3, f2 := 107, f3 := 1 }
abbrev xb : S35 := { z35 with f0 := 3, f12 := [7] }
abbrev xc : S35 := { z35 with f0 := 7 }
theorem parsed_a : Parsed 0 [3, 0, 107, 0, 1] xa :=
  parsed_code 0 (.inl rfl) 3 [0, 107, 0, 1] xa (by decide) (by decide) (by decide) (n := 123) (m := 124) (hit_of 4 rfl (by simp [pofT])) (enters_of Tryz.func123 (by kernel_rfl) rfl) fun W u hu => by
    have h := regsP_calls 3 [0, 107, 0, 1] (.inl rfl) W u hu (by simp)
    rw [show regsP 3 [0, 107, 0, 1] = (xa, 0) by kernel_rfl] at h
    exact h
theorem parsed_b : Parsed 1 [3, 2, 0, 7] xb :=
  parsed_code 1 (.inr rfl) 3 [2, 0, 7] xb (by decide) (by decide) (by decide) (n := 123) (m := 124) (hit_of 4 rfl (by simp [pofT])) (enters_of Tryz.func123 (by kernel_rfl) rfl) fun W u hu => by
    have h := regsP1_calls (xb, 0) 3 [2, 0, 7] rfl rfl (by kernel_rfl) W u hu (by simp)
    exact h
theorem diagP7 : diagP 7 [] = (xc, 0) := by kernel_rfl
theorem parsed_c : Parsed 0 [7] xc :=
  parsed_code 0 (.inl rfl) 7 [] xc (by decide) (by decide) (by decide) (n := 125) (m := 126) (hit_of 11 rfl (by simp [pofT])) (enters_of Tryz.func125 (by kernel_rfl) rfl) fun W u hu => by
    have h := diagP_calls 7 [] (.inl rfl) W u hu (by simp)
    rw [diagP7] at h
    exact h
set_option maxHeartbeats 1000000 in
set_option maxRecDepth 1000000 in
theorem diagLay7 (x : S35) (h8 : ¬ x.f0 = 8) : Laid 147 x (fun b => b = []) := by
  intro w cs hK
  have M := MsgAt.box hK
  have K1 := Kept.alloc w (.cells cs.toArray 35) (fun _ => False)
  have hs := cons35 hK
  have c0 := M.g0
  have hb : (x.f0 == 8) = false := by simpa using h8
  clear M hK
  go_enter Tryz.func147, Tryz.ntmps147
  go_wp2
  go_ret
  exact ⟨_, _, rfl, Ow.nil K1, rfl, by simp⟩
theorem fit_c : Fit xc := ⟨by decide, by decide, by decide, by decide, by decide, by decide, by decide, fun y hy => (by cases hy), by decide, by decide, by decide, fun r hr => (by cases hr)⟩
theorem reqC_G : PdG 0 xc False (fun p => p = [7]) := by
  intro w cs hK
  have hW := diag_write xc (fun b => b = []) (diagP 7) (diagLay7 xc (by decide)) (fun l _ => diagP_calls 7 l (.inl rfl)) fit_c (fun l _ hl => diagP_fit _ _ (by decide) hl)
  refine (pduW_some w xc cs hK rfl (fun b => b = []) (diagP 7) (hit_of 11 rfl (by simp [pofT])) (enters_of Tryz.func126 (by kernel_rfl) rfl) hW).mono fun r w' ⟨k, hr⟩ => ⟨k, ?_⟩
  rcases hr with ⟨⟨b, hb, hn⟩, -⟩ | ⟨v, b, rfl, hB, hbl, hPb, rfl⟩
  · exact absurd ⟨by rw [hb]; exact diagP7, by rw [hb]; decide⟩ hn
  · obtain ⟨A, c, rfl, -⟩ := hB.len
    exact ⟨A, _, c, 0, rfl, .inr ⟨rfl, [7], rfl, hB, parsed_c, fun a ha => by rw [List.mem_singleton.1 ha]; decide, rfl⟩⟩
end Go.Proofs.YtmbjlondehcheaaGreatDoor
end
section
set_option linter.unusedSimpArgs false
set_option linter.unusedVariables false
namespace Go.Proofs.YtmbjlondehcheaaGreatDoor.HHexa
open Go.Shelf Go.RowKit Go.Lib Go.Proofs.YtmbjlondehcheaaGreatDoorW.PrintWords Go.Proofs.YtmbjlondehcheaaGreatDoorW.PrintLast
def Dg (n : Int) (d : UInt8) : Prop := n = 0 ∧ d = 48 ∨ n = 1 ∧ d = 49 ∨ n = 3 ∧ d = 51 ∨ n = 5 ∧ d = 53
set_option maxHeartbeats 400000 in
set_option maxRecDepth 1000000 in
theorem small_calls {n : Int} {d : UInt8} (h : Dg n d) (w : World) : Calls Tryz.prog 69 #[.int .i64 n] w fun e w' => e = .returned (.string ⟨#[d]⟩) ∧ w' = w := by
  rcases h with ⟨rfl, rfl⟩ | ⟨rfl, rfl⟩ | ⟨rfl, rfl⟩ | ⟨rfl, rfl⟩
  all_goals
    go_enter Tryz.func69, Tryz.ntmps69
    go_wp2
    go_ret
    exact ⟨rfl, rfl⟩
set_option maxHeartbeats 400000 in
set_option maxRecDepth 1000000 in
theorem fmt_calls {n : Int} {d : UInt8} (h : Dg n d) (w : World) : Calls Tryz.prog 56 #[.int .i64 n, .int .i64 10] w fun e w' => e = .returned (.string ⟨#[d]⟩) ∧ w' = w := by
  have hs := small_calls h w
  have hn : (0 : Int) ≤ n ∧ n < 100 := by unfold Dg at h; omega
  obtain ⟨h0, h1⟩ := hn
  clear h
  go_enter Tryz.func56, Tryz.ntmps56
  go_wp2_with (first | (go_at_call 69; with_reducible refine hs.mono ?_; rintro e w1 ⟨rfl, rfl⟩; clear hs))
  go_ret
  exact ⟨rfl, rfl⟩
set_option maxHeartbeats 400000 in
set_option maxRecDepth 1000000 in
theorem iitoa_calls {n : Int} {d : UInt8} (h : Dg n d) (w : World) : Calls Tryz.prog 46 #[.int .i64 n] w fun e w' => e = .returned (.string ⟨#[d]⟩) ∧ w' = w := by
  have hs := fmt_calls h w
  clear h
  go_enter Tryz.func46, Tryz.ntmps46
  go_wp2_with (first | (go_at_call 56; with_reducible refine hs.mono ?_; rintro e w1 ⟨rfl, rfl⟩; clear hs))
  go_ret
  exact ⟨rfl, rfl⟩
set_option maxHeartbeats 400000 in
set_option maxRecDepth 1000000 in
theorem itoa_calls {n : Int} {d : UInt8} (h : Dg n d) (w : World) : Calls Tryz.prog 25 #[.int .i64 n] w fun e w' => e = .returned (.string ⟨#[d]⟩) ∧ w' = w := by
  have hs := iitoa_calls h w
  clear h
  go_enter Tryz.func25, Tryz.ntmps25
  go_wp2_with (first | (go_at_call 46; with_reducible refine hs.mono ?_; rintro e w1 ⟨rfl, rfl⟩; clear hs))
  go_ret
  exact ⟨rfl, rfl⟩
set_option maxHeartbeats 2000000 in
set_option maxRecDepth 100000 in
theorem writeString (B b : Nat) (bs : List Value) (s : ByteArray) (w : World) (h : Lib.IsBuilder 85 5 B b bs w) (hlen : bs.length + s.size ≤ 140737488355328) (hBw : B ≤ w.heap.size) :
    Calls Tryz.prog 24 #[.pointer (some ⟨b, 0, none⟩), .string s] w fun e w' => e = .returned (.tuple #[.int .i64 s.size, .nilIface]) ∧ (Lib.BuilderAt 85 5 B b (.pointer (some ⟨b, 0, none⟩)) (bs ++ Lib.strCells s) w' ∧ Below B w w' ∧ Others b w w') := by
  obtain ⟨i0, hi, hz0, hz1, hz2⟩ := info_parts infoByte
  go_enter Tryz.func24, Tryz.ntmps24
  go_wp2_with (go_at_call 45; refine (copyCheck B b bs _ h).mono ?_)
  rintro e w1 ⟨rfl, h1, hb1, ho1⟩
  have HO := Aside0.mk ho1
  clear ho1
  obtain ⟨hB, v, hbk, hown, hne⟩ := h1
  have c0 : w1.cell? ⟨b, 0, none⟩ = some (.pointer (some ⟨b, 0, none⟩)) := by rw [Lib.cell_of_heap hbk]; rfl
  have c1 : w1.cell? ⟨b, 1, none⟩ = some v := by rw [Lib.cell_of_heap hbk]; rfl
  go_wp2_with (at_builtin; refine Lib.wpList_append_own_string _ rfl _ _ 23 9 rfl B 5 i0 Tryz.underlying23 Tryz.underlying9 hi hz0 hz1 hz2 _ _ _ rfl hown s rfl ?c3 ?c4 ?c5 ?_)
  case c3 => unfold maxLen; omega
  case c4 => omega
  case c5 => have := hb1.size; omega
  intro v' w2 hown' hgrow _
  have hlt : b < w1.heap.size := by
    rcases Nat.lt_or_ge b w1.heap.size with h' | h'
    · exact h'
    · simp [Array.getElem?_eq_none h'] at hbk
  have hb2 : w2.heap[b]? = some (.cells #[.pointer (some ⟨b, 0, none⟩), v] 85 (0, 0)) := by
    rw [hgrow.block b hlt (fun e => hne e.symm)]
    exact hbk
  have d0 : w2.cell? ⟨b, 0, none⟩ = some (.pointer (some ⟨b, 0, none⟩)) := by rw [Lib.cell_of_heap hb2]; rfl
  have d1 : w2.cell? ⟨b, 1, none⟩ = some v := by rw [Lib.cell_of_heap hb2]; rfl
  have f1 : w2.frozen? ⟨b, 1, none⟩ = false := Lib.frozen_of_heap hb2 1
  obtain ⟨ao, n', cap, rfl⟩ : ∃ ao n' cap, v' = .slice ao n' cap := by
    rcases hown'.2 with ⟨hv, _⟩ | ⟨g, cap, cur, hv, _⟩
    · exact ⟨_, _, _, hv⟩
    · exact ⟨_, _, _, hv⟩
  go_wp2
  go_ret2
  refine ⟨rfl, ?_, ?_, ?_⟩
  · exact Lib.BuilderAt.put (T := 85) (e := 5) hB hb2 (bs' := bs ++ Lib.strCells s) (by simpa [Lib.strCells_length] using hown') (by decide)
  · exact (hb1.grown hgrow (by have := hb1.size; omega) (fun k hk => (hown.lt k hk).1)).setCell (p := ⟨b, 1, none⟩) hB _
  · intro k cs T fr hk hT hb
    have k1 := HO.out k cs T fr hk hT hb
    have kl : k < w1.heap.size := lt_of_block k1
    rw [Below.heap_setCell _ _ _ _ hb, hgrow.block k kl (fun e => Lib.ownBlock_ne hown k1 hT e.symm)]
    exact k1
set_option maxHeartbeats 1000000 in
set_option maxRecDepth 100000 in
theorem number_calls (B b : Nat) (l : List UInt8) (s : ByteArray) {n : Int} {d : UInt8} (hn : Dg n d) (w : World) (h : Lib.IsBuilder 85 5 B b (Lib.byteCells l) w) (hl : l.length ≤ 1000) (hs : s.size ≤ 1000) (hBw : B ≤ w.heap.size) {l' : List UInt8} (hl' : l ++ s.data.toList ++ [d] = l') :
    Calls Tryz.prog 23 #[.string s, .int .i64 n, .pointer (some ⟨b, 0, none⟩)] w fun e w' => e = .returned (.tuple #[]) ∧ Lib.IsBuilder 85 5 B b (Lib.byteCells l') w' ∧ Below B w w' ∧ Others b w w' := by
  have hi := itoa_calls hn w
  have hw := writeString B b (Lib.byteCells l) (s ++ ⟨#[d]⟩) w h (by have : (⟨#[d]⟩ : ByteArray).size = 1 := rfl; simp [Lib.byteCells]; omega) hBw
  have HL : Aside0 (Lib.byteCells l ++ Lib.strCells (s ++ ⟨#[d]⟩) = Lib.byteCells l') := ⟨by rw [← hl']; simp [Lib.byteCells, Lib.strCells]⟩
  have hz : s.size + 1 ≤ 9223372036854775807 := by omega
  have hz2 : (s.size : Int) + 1 ≤ 9223372036854775807 := by omega
  clear h hn hl hs hBw hl'
  go_enter Tryz.func23, Tryz.ntmps23
  go_wp2_with (first
    | (go_at_call 25; with_reducible refine hi.mono ?_; rintro e w1 ⟨rfl, rfl⟩; clear hi)
    | (go_at_call 24; with_reducible refine hw.mono ?_; rintro e w2 ⟨rfl, h2, hb2, ho2⟩; clear hw))
  go_end0
  rw [HL.out] at h2
  exact ⟨rfl, .inr h2, hb2, ho2⟩
end Go.Proofs.YtmbjlondehcheaaGreatDoor.HHexa
end
