/- TopTalk: part 20 of the walks: of HSrtu, HSnew, HFeed, HSasc. -/
import Derived.Test.YtmbjlondehcheaaGreatDoorM18
import Derived.Test.YtmbjlondehcheaaGreatDoorM19
import Derived.Lib.SlBytesConst
import Derived.WalkMore
section
set_option linter.unusedSimpArgs false
set_option linter.unusedVariables false
namespace Go.Proofs.YtmbjlondehcheaaGreatDoor
open Go.Shelf Go.RowKit Go.Lib Go.Sort Go.Proofs.YtmbjlondehcheaaGreatDoorW.PrintWords Go.Proofs.YtmbjlondehcheaaGreatDoorW.PrintLast Go.Proofs.YtmbjlondehcheaaGreatDoor.PTopTalk
abbrev pcl (u t : Int) (cs : List Value) : List Value := .int .i64 0 :: fr u t cs
set_option maxRecDepth 100000 in
theorem built47' (u t : Int) (d0 d1 d2 d3 d4 d5 d6 d7 d8 d9 d10 d11 d12 d13 d14 d15 d16 d17 d18 d19 d20 d21 : Value) : Tryz.prog.built 47 [(0, .int .i64 0), (1, .agg #[.int .u8 u, .int .u16 t, d0, d1, d2, d3, d4, d5, d6, d7, d8, d9, d10, d11, d12, d13, d14, d15, d16, d17, d18, d19, d20, d21])] = some #[.int .i64 0, .int .u8 u, .int .u16 t, d0, d1, d2, d3, d4, d5, d6, d7, d8, d9, d10, d11, d12, d13, d14, d15, d16, d17, d18, d19, d20, d21] := by kernel_rfl
theorem built47 (u t : Int) (ds : List Value) (h : ds.toArray.size = 22) : Tryz.prog.built 47 [(0, .int .i64 0), (1, .agg (fr u t ds).toArray)] = some (pcl u t ds).toArray := by
  have h' : ds.length = 22 := by simpa using h
  obtain ⟨d0, d1, d2, d3, d4, d5, d6, d7, d8, d9, d10, d11, d12, d13, d14, d15, d16, d17, d18, d19, d20, d21, rfl⟩ := list22 ds h'
  exact built47' u t d0 d1 d2 d3 d4 d5 d6 d7 d8 d9 d10 d11 d12 d13 d14 d15 d16 d17 d18 d19 d20 d21
theorem info47 : ∃ ie z, Tryz.prog.info? 47 = some ie ∧ ie.zero = some z ∧ ie.size = 25 ∧ z.cells.size = 25 ∧ ie.bytes = 168 := by
  have h : ((Tryz.prog.info? 47).bind fun ie => ie.zero.map fun z => (ie.size, z.cells.size, ie.bytes)) = some (25, 25, 168) := by kernel_rfl
  cases hi : Tryz.prog.info? 47 with
  | none => rw [hi] at h; cases h
  | some ie =>
    rw [hi] at h
    cases hz : ie.zero with
    | none => simp [hz] at h
    | some z => simp [hz] at h; exact ⟨ie, z, rfl, hz, h.1, h.2.1, h.2.2⟩
theorem lit_pc (w : World) (u t : Int) (ds : List Value) (h : ds.toArray.size = 22) : (Instr.buildSlice 74 1 #[(0, .agg (pcl u t ds).toArray)]).run Tryz.prog w = .ok (.slice (some ⟨w.heap.size, 0, none⟩) 1 1) (w.alloc (.cells (pcl u t ds).toArray 47)) := by
  obtain ⟨ie, z, h1, h2, h3, h4, _⟩ := info47
  exact run_lit1 w 74 47 (pcl u t ds) ie z 25 Tryz.underlying74 h1 h2 h3 h4 (by simp at h; simp [h]) (by omega) (by omega)
def Piece (w w' : World) (r : Ending) (u t : Int) (x : S35) (F : Nat → Prop) : Prop := ∃ v ds, r = .returned v ∧ w'.ownsRow 0 47 25 v 1 (pcl u t ds) ∧ (∀ b, some b = v.ownBlock → w.heap.size ≤ b) ∧ ds.toArray.size = 22 ∧ (∀ W, Kept w' W (fun b => b < w.heap.size) → k35.K W x ds) ∧ Kept w w' F
theorem pcl_len {u t : Int} {ds : List Value} (h : ds.toArray.size = 22) : (pcl u t ds).length = 25 := by simp at h; simp [h]
theorem pcl_one {u t : Int} {ds : List Value} (h : ds.toArray.all (·.oneCell') = true) : ∀ v ∈ pcl u t ds, v.oneCell' = true := fun v hv => by
  have h2 := oneFr h u t
  rcases List.mem_cons.1 hv with rfl | hv
  · rfl
  · simp only [List.all_toArray, List.all_eq_true] at h2
    exact h2 v hv
theorem one_row (w : World) {cs : List Value} {e : TypeId} {k : Nat} (h : cs.length = k) : (w.alloc (.cells cs.toArray e)).ownsRow 0 e k (.slice (some ⟨w.heap.size, 0, none⟩) 1 1) 1 cs :=
  ⟨by omega, .inr ⟨w.heap.size, 1, cs.toArray, rfl, Nat.zero_le _, heap_alloc_new _ _, Nat.le_refl _, by unfold maxLen; omega, by simp; omega, by rw [List.take_of_length_le]; simp; omega⟩⟩
theorem piece_app (W : World) (g c : Nat) {u t : Int} {ds : List Value} (hds : ds.toArray.size = 22) (hone : ds.toArray.all (·.oneCell') = true) (hg : W.ownsRow 0 47 25 (.slice (some ⟨g, 0, none⟩) 1 c) 1 (pcl u t ds)) (ty : TypeId) :
    ∃ A2 c2 w2, (Builtin.append_ #[74, 74] ty #[.slice none 0 0, .slice (some ⟨g, 0, none⟩) 1 c]).run Tryz.prog W = .ok (.slice A2 1 c2) w2 ∧ w2.ownsRow 0 47 25 (.slice A2 1 c2) 1 (pcl u t ds) ∧ (∀ b, some b = (Value.slice A2 1 c2).ownBlock → W.heap.size ≤ b) ∧ Kept W w2 (fun _ => False) := by
  obtain ⟨ie, z, h1, h2, h3, h4, h5⟩ := info47
  obtain ⟨v', w2, q1, q2, q3, _, q5⟩ := run_append_own_at (P := Tryz.prog) W 0 74 ty 47 ie z 25 168 Tryz.underlying74 h1 h2 h3 h5 h4 (by omega) (.slice none 0 0) 0 [] (World.ownsRow_nil _ _ _ _) ⟨g, 0, none⟩ 1 c (pcl u t ds) (pcl_len hds) (hg.cells (g := g) rfl) (pcl_one hone) (by unfold maxLen; omega) (by omega) (Nat.zero_le _)
  obtain ⟨A2, c2, rfl⟩ : ∃ A2 c2, v' = .slice A2 1 c2 := by
    rcases q2.2 with ⟨h, h0⟩ | ⟨g, cap, cur, h, _⟩
    · omega
    · exact ⟨_, _, h⟩
  refine ⟨A2, c2, w2, q1, by simpa using q2, fun b hb => ?_, Kept.grown q3 (fun b hb => by simp [Value.ownBlock] at hb)⟩
  rcases q5 with e | e
  · rw [e] at hb; simp [Value.ownBlock] at hb
  · rw [e] at hb; injection hb with hb; omega
set_option maxHeartbeats 1000000 in
set_option maxRecDepth 1000000 in
theorem srtuTick {dir u t : Int} {p : List Int} {x : S35} (h : FrP 110 rtuB dir u t p x) (w : World) (sb : Nat) (A : Option Addr) (c : Nat) (hs : w.heap[sb]? = some (.cells #[.int .i64 dir, .slice A (rtuB u t p).length c, .bool false] 143 (0, 0))) (hB : By w (.slice A (rtuB u t p).length c) (rtuB u t p)) (hA : ∀ ad, A = some ad → ad.block ≠ sb) : Calls Tryz.prog 109 #[.pointer (some ⟨sb, 0, none⟩)] w fun r w' =>
    Piece w w' r u t x (fun b => b = sb) ∧ w'.heap[sb]? = some (.cells #[.int .i64 dir, .slice none 0 0, .bool false] 143 (0, 0)) := by
  have hln : (rtuB u t p).length ≠ 0 := by rw [rtuB_len]; omega
  have c0 : w.cell? ⟨sb, 0, none⟩ = some (.int .i64 dir) := by rw [cell_of_row w sb 0 _ 143 (0, 0) hs]; rfl
  have c1 : w.cell? ⟨sb, 1, none⟩ = some (.slice A (rtuB u t p).length c) := by rw [cell_of_row w sb 1 _ 143 (0, 0) hs]; rfl
  have f1 : w.frozen? ⟨sb, 1, none⟩ = false := by simp [World.frozen?, hs]
  have s1 := setCell_row (i := 1) (v := .slice none 0 0) hs
  have f2 : (w.setCell ⟨sb, 1, none⟩ (.slice none 0 0)).frozen? ⟨sb, 2, none⟩ = false := by simp only [World.frozen?, s1]; rfl
  have c22 : (w.setCell ⟨sb, 1, none⟩ (.slice none 0 0)).cell? ⟨sb, 2, none⟩ = some (.bool false) := by rw [cell_of_row _ sb 2 _ 143 (0, 0) s1]; rfl
  have s2 := setCell_row (i := 2) (v := .bool false) s1
  have q2 := (Kept.setCell w sb 1 (.slice none 0 0) (F := fun b => b = sb) rfl).trans (Kept.setCell (w.setCell ⟨sb, 1, none⟩ (.slice none 0 0)) sb 2 (.bool false) (F := fun b => b = sb) rfl) (H := fun b => b = sb) (fun _ _ h => h) (fun _ _ h => h)
  have c02 : ((w.setCell ⟨sb, 1, none⟩ (.slice none 0 0)).setCell ⟨sb, 2, none⟩ (.bool false)).cell? ⟨sb, 0, none⟩ = some (.int .i64 dir) := by rw [cell_of_row _ sb 0 _ 143 (0, 0) s2]; rfl
  have hB2 := hB.stay q2 (fun ad e _ => hA ad e)
  have hp := h _ _ hB2
  have hz7 : ∀ w, (zeroValue 37).run Tryz.prog w = .ok (.agg (fr 0 0 (cs35 0)).toArray) w := fun w => by kernel_rfl
  have hsl := heap_lt hs
  have s3 : ((w.setCell ⟨sb, 1, none⟩ (.slice none 0 0)).setCell ⟨sb, 2, none⟩ (.bool false)).heap[sb]? = some (.cells #[.int .i64 dir, .slice none 0 0, .bool false] 143 (0, 0)) := s2
  clear hB hB2 h hs s1 s2
  generalize (rtuB u t p).length = n at *
  go_enter Tryz.func109, Tryz.ntmps109
  go_upto_region 3 with fail
  clear c1 f1 f2 c22
  generalize (w.setCell ⟨sb, 1, none⟩ (.slice none 0 0)).setCell ⟨sb, 2, none⟩ (.bool false) = w2 at *
  go_upto_region 6 with (first
    | (go_at_call 110; with_reducible refine hp.mono ?_; rintro e w3 ⟨ds, rfl, hD, k3⟩; have hds := cons35 (hD w3 (Kept.refl _ _)); have N3 := new_row w3 (fr 0 0 (cs35 0)).toArray (fr u t ds).toArray 37; have hone := oneFr (all_oneCell_toArray (k35.K_one (hD w3 (Kept.refl _ _)))) u t; have szf := sizeF hds u t)
    | (refine wpList_store_rowTo rfl 37 (.tmp 4) (.tmp 26) rfl rfl w3.heap.size (fr u t ds).toArray rfl rfl 37 (fr 0 0 (cs35 0)).toArray (heap_alloc_new _ _) szf (by simp at hds; simp [hds, cs35]) hone ?_))
  obtain ⟨f3, k6⟩ := N3
  have k36 := k3.trans k6 (H := fun _ => False) (fun _ _ h => h) (fun _ _ h => h)
  have s6 := k36.heap s3 (fun h => h)
  have hD6 : Aside0 (∀ W, Kept ((w3.alloc (.cells (fr 0 0 (cs35 0)).toArray 37)).setRow w3.heap.size (fr u t ds).toArray) W (fun b => b < w2.heap.size) → k35.K W x ds) := ⟨fun W q => hD W (k6.trans q (fun _ _ h => h.elim) (fun _ _ h => h))⟩
  have hw2 : w.heap.size ≤ w2.heap.size := q2.size
  generalize (w3.alloc (.cells (fr 0 0 (cs35 0)).toArray 37)).setRow w3.heap.size (fr u t ds).toArray = w4 at *
  generalize w3.heap.size = yb at *
  have szd : (Tryz.prog.info? 37).map (·.size) = some (fr u t ds).length := by simpa using szf
  have rd : w4.rangeAt yb 0 (fr u t ds) := fun j u hu => by rw [cell_of_row w4 yb (0 + j) _ 37 (0, 0) f3]; simpa using hu
  have k7 := Kept.alloc w4 (.cells (pcl u t ds).toArray 47) (fun _ => False)
  have f7 := heap_alloc_new w4 (.cells (pcl u t ds).toArray 47)
  have hlt := lit_pc w4 u t ds hds
  have KK := (q2.trans k36 (H := fun b => b = sb) (fun _ _ h => h) (fun _ _ h => h.elim)).trans k7 (H := fun b => b = sb) (fun _ _ h => h) (fun _ _ h => h.elim)
  have FIN : Aside0 (Piece w (w4.alloc (.cells (pcl u t ds).toArray 47)) (.returned (.slice (some ⟨w4.heap.size, 0, none⟩) 1 1)) u t x (fun b => b = sb) ∧ (w4.alloc (.cells (pcl u t ds).toArray 47)).heap[sb]? = some (.cells #[.int .i64 dir, .slice none 0 0, .bool false] 143 (0, 0))) :=
    ⟨⟨_, ds, rfl, one_row w4 (pcl_len hds), (fun b hb => by simp [Value.ownBlock] at hb; have := k36.size; omega), hds, fun W q => hD6.out W (k7.trans q (fun _ _ h => h.elim) (fun b _ h => by have h2 : b < w.heap.size := h; show b < _; omega)), KK⟩, k7.heap s6 (fun h => h)⟩
  have hbt := built47 u t ds hds
  clear KK f7 k7 f3 k6 k36 s6 hD6 q2 s3 hp k3 hD c0 c02
  obtain ⟨C47, hC47⟩ : ∃ C, (pcl u t ds).toArray = C := ⟨_, rfl⟩
  rw [hC47] at FIN hlt hbt
  obtain ⟨L37, hL37⟩ : ∃ C, fr u t ds = C := ⟨_, rfl⟩
  rw [hL37] at rd szd hbt
  clear hC47 hL37 szf hone hds
  go_wp2_with (first
    | (refine wpList_load_mid rfl 37 (.tmp 4) rfl yb 0 rfl L37 _ rd Tryz.underlying37 rfl szd ?_)
    | (refine wpList_buildTo rfl 47 _ rfl (some 30) rfl C47 ?_ ?_; (simp only [List.map_toArray, List.map_cons, List.map_nil]; exact hbt))
    | (refine wpList_lit1 rfl 74 (.tmp 30) rfl (some 31) rfl (.agg C47) rfl (.slice (some ⟨w4.heap.size, 0, none⟩) 1 1) (w4.alloc (.cells C47 47)) ?_ ?_; exact hlt))
  go_ret
  exact FIN.out
set_option maxRecDepth 1000000 in
theorem srtuNew {dir : Int} (hdir : dir = 0 ∨ dir = 1) (w : World) : Calls Tryz.prog 30 #[.int .i64 dir] w fun r w' => r = .returned (.pointer (some ⟨w.heap.size, 0, none⟩)) ∧ w'.heap[w.heap.size]? = some (.cells #[.int .i64 dir, .slice none 0 0, .bool false] 143 (0, 0)) ∧ Kept w w' (fun _ => False) := by
  have f := heap_alloc_new w (.cells #[.int .i64 dir, .slice none 0 0, .bool false] 143)
  have q := Kept.alloc w (.cells #[.int .i64 dir, .slice none 0 0, .bool false] 143) (fun _ => False)
  rcases hdir with rfl | rfl
  all_goals
    go_enter Tryz.func30, Tryz.ntmps30
    go_wp2
    go_ret
    exact ⟨rfl, f, q⟩
theorem nilcut (w : World) : (Instr.sliceAt 23 (.slice none 0 0) none (some (.int .i64 0)) (some (.int .i64 0))).run Tryz.prog w = .ok (.slice none 0 0) w := by kernel_rfl
set_option maxHeartbeats 1000000 in
set_option maxRecDepth 1000000 in
theorem srtuFeed {dir : Int} (w : World) (sb : Nat) (hs : w.heap[sb]? = some (.cells #[.int .i64 dir, .slice none 0 0, .bool false] 143 (0, 0))) (v : Value) (l : List Int) (hB : By w v l) (h0 : 0 < l.length) (hl : l.length ≤ 256) : Calls Tryz.prog 107 #[.pointer (some ⟨sb, 0, none⟩), v] w fun r w' =>
    r = .returned (.slice none 0 0) ∧ ∃ A c, w'.heap[sb]? = some (.cells #[.int .i64 dir, .slice A l.length c, .bool false] 143 (0, 0)) ∧ By w' (.slice A l.length c) l ∧ (∀ ad, A = some ad → w.heap.size ≤ ad.block) ∧ Kept w w' (fun b => b = sb) := by
  obtain ⟨A, c, rfl, hc⟩ := hB.len
  obtain ⟨ad, rfl, -, -⟩ := hB.at_ (i := 0) h0
  have c0 : w.cell? ⟨sb, 0, none⟩ = some (.int .i64 dir) := by rw [cell_of_row w sb 0 _ 143 (0, 0) hs]; rfl
  have c1 : w.cell? ⟨sb, 1, none⟩ = some (.slice none 0 0) := by rw [cell_of_row w sb 1 _ 143 (0, 0) hs]; rfl
  have c2 : w.cell? ⟨sb, 2, none⟩ = some (.bool false) := by rw [cell_of_row w sb 2 _ 143 (0, 0) hs]; rfl
  have S0 := Kept.drew w (fun _ => False)
  have hcut := fun w' => cut_h w' ad l.length c l.length hc
  obtain ⟨v5, w5, ha5, hO5, -⟩ := OB.app (Ow.nil (k := .u8) (te := 5) S0) 23 (hB.keep S0) (by simp; omega)
  have hR5 := hO5.rd (by simp; omega)
  rw [List.nil_append] at hO5 hR5
  obtain ⟨A5, c5, rfl, hc5⟩ := hR5.len
  have S5 := hO5.kept
  have hs5 := S5.heap hs (fun h => h)
  have hsl := heap_lt hs
  have hN : ∀ ad, A5 = some ad → w.heap.size ≤ ad.block := fun ad e => by subst e; exact hO5.new _ rfl
  have K6 := Kept.setCell w5 sb 1 (.slice A5 l.length c5) (F := fun b => b = sb) rfl
  have FIN : Aside0 ((w5.setCell ⟨sb, 1, none⟩ (.slice A5 l.length c5)).heap[sb]? = some (.cells #[.int .i64 dir, .slice A5 l.length c5, .bool false] 143 (0, 0)) ∧ By (w5.setCell ⟨sb, 1, none⟩ (.slice A5 l.length c5)) (.slice A5 l.length c5) l ∧ (∀ ad, A5 = some ad → w.heap.size ≤ ad.block) ∧ Kept w (w5.setCell ⟨sb, 1, none⟩ (.slice A5 l.length c5)) (fun b => b = sb)) :=
    ⟨setCell_row (i := 1) (v := .slice A5 l.length c5) hs5, hR5.stay K6 (fun ad e _ h => by have := hN ad e; have h2 : ad.block = sb := h; omega), hN, S5.trans K6 (fun _ _ h => h.elim) (fun _ _ h => h)⟩
  have hnz : (l.length : Int) ≤ 256 := by omega
  have hn0 : (0 : Int) < (l.length : Int) := by omega
  have hcz : (l.length : Int) ≤ (c : Int) := by omega
  clear hB hR5 hO5 K6 hN h0 hl hc hc5
  generalize l.length = n at *
  have hmin : min (n : Int) 256 = (n : Int) := by omega
  go_enter Tryz.func107, Tryz.ntmps107
  go_upto_region 4 with fail
  refine st 23 (fun w' => Kept w w' (fun _ => False)) [22] S0 ?_
  refine pu 0 (some 19) (mk 23 1) ?_
  refine pu 1 (some 20) (mk 23 3) ?_
  refine pu 2 (some 21) (mk 23 7) ?_
  refine pu 3 (some 22) (mk 23 15) ?_
  refine pu 5 (some 24) (mk 23 47) ?_
  refine pu 6 (some 25) (mk 23 111) ?_
  refine pu 7 (some 26) (mk 23 239) ?_
  refine pu 10 (some 29) (mk 23 1263) ?_
  refine pu 11 (some 30) (mk 23 3311) ?_
  refine pu 12 (some 31) (mk 23 7407) ?_
  refine pu 16 (some 35) (mk 23 72943) ?_
  refine pu 17 (some 36) (mk 23 204015) ?_
  refine ld 4 (some 23) (mk 23 204031) S0 (v := .slice none 0 0) ?_ (hy := .inl ⟨by rfl, by intro w' hS; have q1 := hS.cell c1; go_simp; try with_reducible rfl⟩)
  refine ld 8 (some 27) (mk 23 204287) S0 (v := .slice none 0 0) ?_ (hy := .inl ⟨by rfl, by intro w' hS; have q1 := hS.cell c1; go_simp; try with_reducible rfl⟩)
  refine pu 9 (some 28) (mk 23 204799) ?_
  refine ld 13 (some 32) (mk 23 212991) S0 (v := .slice none 0 0) ?_ (hy := .inl ⟨by rfl, by intro w' hS; have q1 := hS.cell c1; go_simp; try with_reducible rfl⟩)
  refine pu 14 (some 33) (mk 23 229375) ?_
  refine pu 15 (some 34) (mk 23 262143) (v := .slice none 0 0) ?_ (hy := .inl ⟨by rfl, fun w' => ex_sl (.tmp 23) none (some (.tmp 28)) (some (.tmp 33)) (by rfl) (nilcut w')⟩)
  refine pu 18 (some 37) (mk 23 524287) (v := .slice (some ad) n c) ?_ (hy := .inl ⟨by rfl, fun w' => ex_sl (.tmp 35) none (some (.tmp 36)) none (by rfl) (hcut w')⟩)
  refine on 19 (some 38) (mk 23 1048575) fun K hK => ?_
  refine wp_append (.tmp 34) (.tmp 37) 23 23 rfl _ _ rfl rfl (.slice A5 n c5) w5 ha5 ?_
  refine hK _ _ (S5) (nm ?_)
  clear hK K
  refine pu 20 (some 39) (mk 23 2097151) ?_
  refine pu 21 (some 40) (mk 23 4194303) ?_
  refine la 22 none (mk 23 8388607) fun K hK => ?_
  refine wp_store_cell 23 (.tmp 40) (.tmp 38) rfl sb 1 (.slice A5 n c5) rfl rfl rfl 143 #[.int .i64 dir, .slice none 0 0, .bool false] hs5 (by simp) (by kernel_rfl) ?_
  refine hK _ _ (nm ?_)
  clear hK K
  refine done_ (by kernel_rfl) ?_
  clear S0 S5 c0 c1 c2 ha5 hs5
  go_wp2
  go_ret
  exact ⟨rfl, A5, c5, FIN.out⟩
end Go.Proofs.YtmbjlondehcheaaGreatDoor
end
section
set_option linter.unusedSimpArgs false
set_option linter.unusedVariables false
namespace Go.Proofs.YtmbjlondehcheaaGreatDoor
open Go.Shelf Go.RowKit Go.Lib Go.Sort Go.Proofs.YtmbjlondehcheaaGreatDoorW.PrintWords Go.Proofs.YtmbjlondehcheaaGreatDoorW.PrintLast Go.Proofs.YtmbjlondehcheaaGreatDoor.PTopTalk
set_option maxRecDepth 1000000 in
theorem sascNew {dir : Int} (hdir : dir = 0 ∨ dir = 1) (w : World) : Calls Tryz.prog 31 #[.int .i64 dir] w fun r w' => r = .returned (.pointer (some ⟨w.heap.size, 0, none⟩)) ∧ w'.heap[w.heap.size]? = some (.cells #[.int .i64 dir, .slice none 0 0] 145 (0, 0)) ∧ Kept w w' (fun _ => False) := by
  have f := heap_alloc_new w (.cells #[.int .i64 dir, .slice none 0 0] 145)
  have q := Kept.alloc w (.cells #[.int .i64 dir, .slice none 0 0] 145) (fun _ => False)
  rcases hdir with rfl | rfl
  all_goals
    go_enter Tryz.func31, Tryz.ntmps31
    go_wp2
    go_ret
    exact ⟨rfl, f, q⟩
set_option maxRecDepth 1000000 in
theorem smbapNew {dir : Int} (hdir : dir = 0 ∨ dir = 1) (w : World) : Calls Tryz.prog 32 #[.int .i64 dir] w fun r w' => r = .returned (.pointer (some ⟨w.heap.size, 0, none⟩)) ∧ w'.heap[w.heap.size]? = some (.cells #[.int .i64 dir, .slice none 0 0, .int .i64 0] 147 (0, 0)) ∧ Kept w w' (fun _ => False) := by
  have f := heap_alloc_new w (.cells #[.int .i64 dir, .slice none 0 0, .int .i64 0] 147)
  have q := Kept.alloc w (.cells #[.int .i64 dir, .slice none 0 0, .int .i64 0] 147) (fun _ => False)
  rcases hdir with rfl | rfl
  all_goals
    go_enter Tryz.func32, Tryz.ntmps32
    go_wp2
    go_ret
    exact ⟨rfl, f, q⟩
set_option maxRecDepth 1000000 in
theorem bytesEq_calls (w : World) (v u : Value) (l m : List Int) (hl : By w v l) (hm : By w u m) (ol : Oct l) (om : Oct m) : Calls Tryz.prog 207 #[v, u] w fun r w' => r = .returned (.bool (decide (l = m))) ∧ w' = w := by
  have h1 := str_by w _ _ hl
  have h2 := str_by w _ _ hm
  have hE := str_eq l m ol om
  obtain ⟨b, hb⟩ : ∃ b, decide (l = m) = b := ⟨_, rfl⟩
  rw [hb] at hE ⊢
  clear hl hm
  generalize strOfNums l = S1 at *
  generalize strOfNums m = S2 at *
  go_enter Tryz.func207, Tryz.ntmps207
  go_wp2_with (first
    | (refine wpList_plain rfl fun _ hK => wp_conv 23 9 (.tmp 5) rfl _ _ rfl _ h1 (hK _ _ ?_))
    | (refine wpList_plain rfl fun _ hK => wp_conv 23 9 (.tmp 7) rfl _ _ rfl _ h2 (hK _ _ ?_)))
  go_ret
  exact ⟨rfl, rfl⟩
set_option maxHeartbeats 400000 in
set_option maxRecDepth 1000000 in
theorem hasSuf_calls (w : World) (v u : Value) (l m : List Int) (hl : By w v l) (hm : By w u m) (ol : Oct l) (om : Oct m) (hle : m.length ≤ l.length) (hm0 : 0 < m.length) (hbig : l.length ≤ 100000) : Calls Tryz.prog 205 #[v, u] w fun r w' => r = .returned (.bool (decide (l.drop (l.length - m.length) = m))) ∧ w' = w := by
  obtain ⟨A, c, rfl, hc⟩ := hl.len
  obtain ⟨B, d, rfl, hd⟩ := hm.len
  obtain ⟨ad, rfl, -, -⟩ := hl.at_ (i := 0) (by omega)
  have hdr := hl.drop (m := l.length - m.length) (by omega)
  rw [if_neg (by omega)] at hdr
  simp only [Option.map_some] at hdr
  have he := bytesEq_calls w _ _ _ _ hdr hm (fun x hx => ol x (List.mem_of_mem_drop hx)) om
  obtain ⟨k, hk⟩ : ∃ k, l.length - m.length = k := ⟨_, rfl⟩
  have hlk : l.length - k = m.length := by omega
  obtain ⟨b, hb⟩ : ∃ b, decide (l.drop (l.length - m.length) = m) = b := ⟨_, rfl⟩
  rw [hb] at he ⊢
  rw [hk] at he
  clear hl hm hdr hb
  have hz1 : (l.length : Int) - (m.length : Int) = (k : Int) := by omega
  have hz2 : (m.length : Int) ≤ (l.length : Int) := by omega
  have hz3 : (k : Int) < (l.length : Int) := by omega
  have hz4 : (l.length : Int) ≤ (c : Int) := by omega
  have hz0 : (0 : Int) ≤ (k : Int) ∧ (k : Int) ≤ 100000 := by omega
  have hw : wrap64 (k : Int) = (k : Int) := by unfold wrap64; omega
  have hz5 : ¬ (c : Int) = (k : Int) := by omega
  have hz6 : ¬ c = k := by omega
  have hmx := hc
  generalize l.length = n at *
  generalize m.length = e at *
  clear hk hlk hmx
  go_enter Tryz.func205, Tryz.ntmps205
  go_wp2_with (go_at_call 207; with_reducible refine he.mono ?_; rintro e w3 ⟨rfl, rfl⟩)
  go_ret
  exact ⟨rfl, rfl⟩
set_option maxHeartbeats 400000 in
set_option maxRecDepth 1000000 in
theorem hasSuf_short (w : World) (A B : Option Addr) (n c e d : Nat) (h : n < e) (hb : e ≤ 100000) : Calls Tryz.prog 205 #[.slice A n c, .slice B e d] w fun r w' => r = .returned (.bool false) ∧ w' = w := by
  have hz : ¬ ((e : Int) ≤ (n : Int)) := by omega
  go_enter Tryz.func205, Tryz.ntmps205
  go_wp2
  go_ret
  exact ⟨rfl, rfl⟩
end Go.Proofs.YtmbjlondehcheaaGreatDoor
end
section
set_option linter.unusedSimpArgs false
set_option linter.unusedVariables false
namespace Go.Proofs.YtmbjlondehcheaaGreatDoor
open Go.Shelf Go.RowKit Go.Lib Go.Sort Go.Proofs.YtmbjlondehcheaaGreatDoorW.PrintWords Go.Proofs.YtmbjlondehcheaaGreatDoorW.PrintLast Go.Proofs.YtmbjlondehcheaaGreatDoor.PTopTalk
structure HeldI (w W : World) (sb T : Nat) (cs : Array Value) (A : Option Addr) (i c : Nat) (l : List Int) : Prop where
  row : W.ownsRow 0 5 1 (.slice A i c) i (l.map (Value.int .u8))
  new : ∀ ad, A = some ad → w.heap.size ≤ ad.block
  kept : Kept w W (fun b => b = sb)
  str : W.heap[sb]? = some (.cells (cs.setIfInBounds 1 (.slice A i c)) T (0, 0))
  low : sb < w.heap.size
theorem HeldI.len {w W : World} {sb T : Nat} {cs : Array Value} {A : Option Addr} {i c : Nat} {l : List Int} (h : HeldI w W sb T cs A i c l) : l.length = i := by have := h.row.1; simpa using this
theorem HeldI.by_ {w W : World} {sb T : Nat} {cs : Array Value} {A : Option Addr} {i c : Nat} {l : List Int} (h : HeldI w W sb T cs A i c l) (hl : i ≤ 100000) : By W (.slice A i c) l := by
  have e := h.len
  subst e
  exact row_rd h.row (by omega)
theorem HeldI.app {w W : World} {sb T : Nat} {cs : Array Value} {A : Option Addr} {i c : Nat} {l : List Int} (h : HeldI w W sb T cs A i c l) (hi : i ≤ 1000) (x : Int) (ty : TypeId) :
    ∃ A2 c2 wB, (Builtin.append_ #[23, 23] ty #[.slice A i c, .slice (some ⟨W.heap.size, 0, none⟩) 1 1]).run Tryz.prog (W.alloc (.cells #[.int .u8 x] 5)) = .ok (.slice A2 (i + 1) c2) wB ∧ wB.heap[sb]? = some (.cells (cs.setIfInBounds 1 (.slice A i c)) T (0, 0)) ∧
      HeldI w (wB.setCell ⟨sb, 1, none⟩ (.slice A2 (i + 1) c2)) sb T cs A2 (i + 1) c2 (l ++ [x]) := by
  have q := Kept.alloc W (.cells #[.int .u8 x] 5) (fun _ => False)
  obtain ⟨v', w2, a1, a2, a3, a4⟩ := app_by (W.alloc (.cells #[.int .u8 x] 5)) ty (.slice A i c) i _ (q.owns h.row (fun _ _ h => h)) _ [x] (one_rd .u8 W x 5) (by simp; omega)
  obtain ⟨A2, c2, rfl⟩ : ∃ A2 c2, v' = .slice A2 (i + 1) c2 := by
    rcases a2.2 with ⟨h, h0⟩ | ⟨g, cap, cur, h, _⟩
    · simp at h0
    · exact ⟨_, _, h⟩
  have kg := Kept.grown a3 (F := fun b => some b = (Value.slice A i c).ownBlock) (fun _ h => h)
  have hlow := h.low
  have hown : ∀ b, some b = (Value.slice A i c).ownBlock → w.heap.size ≤ b := fun b hb => by
    cases A with
    | none => simp [Value.ownBlock] at hb
    | some ad => simp [Value.ownBlock] at hb; subst hb; exact h.new ad rfl
  have hnew : ∀ ad, A2 = some ad → w.heap.size ≤ ad.block := fun ad e => by
    subst e
    rcases a4 with e | e
    · exact hown _ e
    · have := h.kept.size; rw [asz] at *; simp [Value.ownBlock] at e; omega
  have hs : w2.heap[sb]? = some (.cells (cs.setIfInBounds 1 (.slice A i c)) T (0, 0)) := kg.heap (q.heap h.str (fun h => h)) (fun e => by have := hown _ e; omega)
  have k2 := Kept.setCell w2 sb 1 (.slice A2 (i + 1) c2) (F := fun b => b = sb) rfl
  refine ⟨A2, c2, w2, a1, hs, ⟨k2.owns (by simpa using a2) (fun g hg e => ?_), hnew, ((h.kept.trans q (fun _ _ h => h) (fun _ _ h => h.elim)).trans kg (fun _ _ h => h) (fun b hb e => by have := hown b e; omega)).trans k2 (fun _ _ h => h) (fun _ _ h => h), ?_, hlow⟩⟩
  · cases A2 with
    | none => simp [Value.ownBlock] at hg
    | some ad => simp [Value.ownBlock] at hg; have := hnew ad rfl; have h2 : g = sb := e; omega
  · have := setCell_row (i := 1) (v := .slice A2 (i + 1) c2) hs
    rw [this]
    simp [Array.setIfInBounds_setIfInBounds]
structure Parse2 (W w' : World) (x : S35) (ds : List Value) (yb : Nat) : Prop where
  var : w'.heap[yb]? = some (.cells (fr 0 0 (cs35 0)).toArray 37 (0, 0))
  msg : ∀ W', Kept w' W' (fun b => b < W.heap.size ∨ b = yb) → k35.K W' x ds
  kept : Kept W w' (fun _ => False)
  far : W.heap.size ≤ yb
theorem Parse2.len {W w' : World} {x : S35} {ds : List Value} {yb : Nat} (h : Parse2 W w' x ds yb) : ds.toArray.size = 22 := cons35 (h.msg w' (Kept.refl _ _))
theorem Parse2.one {W w' : World} {x : S35} {ds : List Value} {yb : Nat} (h : Parse2 W w' x ds yb) : ds.toArray.all (·.oneCell') = true := all_oneCell_toArray (k35.K_one (h.msg w' (Kept.refl _ _)))
theorem parse2_a {W w' : World} {x : S35} {ds : List Value} (k : Kept W w' (fun _ => False)) (hD : ∀ W', Kept w' W' (fun b => b < W.drew.heap.size) → k35.K W' x ds) : Parse2 W (w'.alloc (.cells (fr 0 0 (cs35 0)).toArray 37)) x ds w'.heap.size :=
  ⟨heap_alloc_new _ _, fun W' q => hD W' ((Kept.alloc w' _ (fun _ => False)).trans q (fun _ _ h => h.elim) (fun b hb h => h.elim (fun h => h) (fun h => by omega))), k.trans (Kept.alloc w' _ (fun _ => False)) (fun _ _ h => h) (fun _ _ h => h), k.size⟩
theorem parse2_b {W w' : World} {x : S35} {ds : List Value} (k : Kept W w' (fun _ => False)) (k8 : Kept (W.drew.alloc (.cells (fr 0 0 (cs35 0)).toArray 37)) w' (fun _ => False)) (hD : ∀ W', Kept w' W' (fun b => b < (W.drew.alloc (.cells (fr 0 0 (cs35 0)).toArray 37)).heap.size) → k35.K W' x ds) : Parse2 W w' x ds W.heap.size :=
  ⟨k8.heap (heap_alloc_new W.drew _) (fun h => h), fun W' q => hD W' (q.mono fun b _ h => by rw [asz]; show b < W.heap.size + 1; rcases h with h | h <;> omega), k, Nat.le_refl _⟩
theorem zero37 (w : World) : (zeroValue 37).run Tryz.prog w = .ok (.agg (fr 0 0 (cs35 0)).toArray) w := by kernel_rfl
theorem wp_alloc37 {a : Act} {w : World} {K : Act → World → Prop} {Q : Exit → Act → World → Prop} {op : Oper} (ho : op.op = .alloc 37) (h : K (a.put op.dst (.pointer (some ⟨w.heap.size, 0, none⟩))) (w.alloc (.cells (fr 0 0 (cs35 0)).toArray 37))) : op.wp Tryz.prog a w K Q := by
  unfold Oper.wp execOp
  simp [ho, go_sem, zero37]
  exact h
theorem feed_fin {w W W' wC : World} {sb T : Nat} {cs : Array Value} {A : Option Addr} {i c : Nat} {l : List Int} {u t : Int} {x : S35} {ds : List Value} {yb : Nat} (hD : HeldI w W sb T cs A i c l) (hcs : cs.setIfInBounds 1 (.slice none 0 0) = cs) (k : Kept W W' (fun _ => False)) (hJ : Parse2 W' wC x ds yb) (ty : TypeId) :
    ∃ A5 c5 W5, (Builtin.append_ #[74, 74] ty #[.slice none 0 0, .slice (some ⟨(wC.setRow yb (fr u t ds).toArray).heap.size, 0, none⟩) 1 1]).run Tryz.prog ((wC.setRow yb (fr u t ds).toArray).alloc (.cells (pcl u t ds).toArray 47)) = .ok (.slice A5 1 c5) W5 ∧ W5.heap[sb]? = some (.cells (cs.setIfInBounds 1 (.slice A i c)) T (0, 0)) ∧
      Piece w (W5.setCell ⟨sb, 1, none⟩ (.slice none 0 0)) (.returned (.slice A5 1 c5)) u t x (fun b => b = sb) ∧ (W5.setCell ⟨sb, 1, none⟩ (.slice none 0 0)).heap[sb]? = some (.cells cs T (0, 0)) := by
  have hlow := hD.low
  have hsW := hD.kept.size
  have hfar := hJ.far
  have hk := k.size
  have k1 : Kept wC (wC.setRow yb (fr u t ds).toArray) (fun b => b = yb) := Kept.setRow wC yb _ rfl
  have k2 := Kept.alloc (wC.setRow yb (fr u t ds).toArray) (.cells (pcl u t ds).toArray 47) (fun _ => False)
  obtain ⟨A5, c5, W5, ha, ho, hn, k3⟩ := piece_app _ _ 1 hJ.len hJ.one (one_row (wC.setRow yb (fr u t ds).toArray) (pcl_len (u := u) (t := t) hJ.len)) ty
  have K : Kept w W5 (fun b => b = sb) := ((((hD.kept.trans k (fun _ _ h => h) (fun _ _ h => h.elim)).trans hJ.kept (fun _ _ h => h) (fun _ _ h => h.elim)).trans k1 (H := fun b => b = sb) (fun _ _ h => h) (fun b hb (e : b = yb) => by omega)).trans k2 (fun _ _ h => h) (fun _ _ h => h.elim)).trans k3 (fun _ _ h => h) (fun _ _ h => h.elim)
  have hs := k3.heap (k2.heap (k1.heap (hJ.kept.heap (k.heap hD.str (fun h => h)) (fun h => h)) (fun e : sb = yb => by omega)) (fun h => h)) (fun h => h)
  have k4 := Kept.setCell W5 sb 1 (.slice none 0 0) (F := fun b => b = sb) rfl
  have hszC : W'.heap.size ≤ (wC.setRow yb (fr u t ds).toArray).heap.size := by have := hJ.kept.size; have := k1.size; omega
  refine ⟨A5, c5, W5, ha, hs, ⟨_, ds, rfl, k4.owns ho (fun g hg e => ?_), fun b hb => ?_, hJ.len, fun W2 q => ?_, K.trans k4 (fun _ _ h => h) (fun _ _ h => h)⟩, ?_⟩
  · have := hn g hg.symm
    rw [asz] at this
    have e' : g = sb := e
    omega
  · have := hn b hb
    rw [asz] at this
    omega
  · have q2 := ((k1.trans k2 (H := fun b => b = yb) (fun _ _ h => h) (fun _ _ h => h.elim)).trans k3 (H := fun b => b = yb) (fun _ _ h => h) (fun _ _ h => h.elim)).trans k4 (H := fun b => b = yb ∨ b = sb) (fun _ _ h => .inl h) (fun _ _ h => .inr h)
    exact hJ.msg W2 (q2.trans q (fun b hb h => h.elim .inr fun h => .inl (by omega)) (fun b hb h => .inl (by have h2 : b < w.heap.size := h; omega)))
  · have := setCell_row (i := 1) (v := .slice none 0 0) hs
    rw [this]
    simp only [Array.setIfInBounds_setIfInBounds]
    rw [hcs]
theorem rd_block {k : IntKind} {w : World} {g c : Nat} {e : TypeId} {fz : Nat × Nat} {l : List Int} (h : w.heap[g]? = some (.cells (l.map (Value.int k)).toArray e fz)) (hc : l.length ≤ c) (hl : l.length ≤ 1000000) : Rd k w (.slice (some ⟨g, 0, none⟩) l.length c) l :=
  ⟨_, c, rfl, hc, rfl, by omega, fun hn => ⟨_, rfl, fun j p hp => ⟨[.int k p], rfl, rfl, fun i u hu => by
    have hi : i < 1 := (List.getElem?_eq_some_iff.1 hu).1
    obtain rfl : i = 0 := by omega
    have hu' : u = .int k p := by simpa using hu.symm
    subst hu'
    rw [show (⟨g, 0, none⟩ : Addr).add (j * (Kd.int k).sz + 0) = ⟨g, j, none⟩ by rw [Addr.add_mid]; simp [Kd.int, Kd.scalar], cell_of_row w g j _ e fz h]
    simp [hp]⟩⟩⟩
end Go.Proofs.YtmbjlondehcheaaGreatDoor
end
section
set_option linter.unusedSimpArgs false
set_option linter.unusedVariables false
namespace Go.Proofs.YtmbjlondehcheaaGreatDoor
open Go.Shelf Go.RowKit Go.Lib Go.Sort Go.Proofs.YtmbjlondehcheaaGreatDoorW.PrintWords Go.Proofs.YtmbjlondehcheaaGreatDoorW.PrintLast Go.Proofs.YtmbjlondehcheaaGreatDoor.PTopTalk
theorem hexL_no (l : List Int) (h : Oct l) : ∀ y ∈ hexL l, y ≠ 58 ∧ y ≠ 10 := fun y hy => by
  simp only [hexL, HHexa.hexL, List.mem_flatMap, List.mem_cons, List.not_mem_nil, or_false] at hy
  obtain ⟨c, hc, hy⟩ := hy
  have hb := h c hc
  have s : ∀ n : Nat, n < 16 → HHexa.sign n ≠ 58 ∧ HHexa.sign n ≠ 10 := fun n hn => by unfold HHexa.sign; split <;> omega
  rcases hy with rfl | rfl
  · exact s _ (by omega)
  · exact s _ (by omega)
theorem line_at (H : List Int) (hH : ∀ y ∈ H, y ≠ 58 ∧ y ≠ 10) (j : Nat) (x : Int) (h : (58 :: H ++ [13, 10])[j]? = some x) : (j = 0 ∧ x = 58) ∨ (0 < j ∧ x ≠ 58 ∧ (x = 10 ↔ j + 1 = (58 :: H ++ [13, 10]).length)) := by
  cases j with
  | zero => exact .inl ⟨rfl, by simpa using h.symm⟩
  | succ j =>
    refine .inr ⟨by omega, ?_⟩
    have h' : (H ++ [13, 10])[j]? = some x := by simpa using h
    have hlen : (58 :: H ++ [13, 10]).length = H.length + 3 := by simp
    rw [hlen]
    by_cases hj : j < H.length
    · rw [List.getElem?_append_left hj] at h'
      obtain ⟨h1, h2⟩ := hH x (List.mem_of_getElem? h')
      exact ⟨h1, ⟨fun e => absurd e h2, fun e => by omega⟩⟩
    · rw [List.getElem?_append_right (by omega)] at h'
      obtain ⟨k, hk⟩ : ∃ k, j - H.length = k := ⟨_, rfl⟩
      rw [hk] at h'
      match k, h' with
      | 0, h' => simp at h'; subst h'; exact ⟨by decide, ⟨fun e => by omega, fun e => by omega⟩⟩
      | 1, h' => simp at h'; subst h'; exact ⟨by decide, ⟨fun _ => by omega, fun _ => rfl⟩⟩
      | k + 2, h' => simp at h'
theorem line_end (L : List Int) (m : Nat) (h2 : 2 ≤ m) (hm : m < L.length) (h : ∀ x, L[m - 1]? = some x → x ≠ 10) : ¬ (L.take m).drop (m - 2) = [13, 10] := fun e => by
  have : ((L.take m).drop (m - 2))[1]? = some 10 := by rw [e]; rfl
  rw [List.getElem?_drop, List.getElem?_take_of_lt (by omega), show m - 2 + 1 = m - 1 by omega] at this
  exact h _ this rfl
set_option maxHeartbeats 2000000 in
set_option maxRecDepth 1000000 in
theorem sascFeed {dir u t : Int} {L : List Int} {x : S35} (hP : ∀ (w : World) (v : Value), By w v L → Calls Tryz.prog 206 #[.int .i64 dir, v] w fun r w' => ∃ ds, r = .returned (.tuple #[.agg (fr u t ds).toArray, .int .i64 0]) ∧ (∀ W, Kept w' W (fun b => b < w.heap.size) → k35.K W x ds) ∧ Kept w w' (fun _ => False))
    (hL : ∀ j x, L[j]? = some x → (j = 0 ∧ x = 58) ∨ (0 < j ∧ x ≠ 58 ∧ (x = 10 ↔ j + 1 = L.length))) (hE : 2 < L.length ∧ L.drop (L.length - 2) = [13, 10]) (hO : Oct L) (hl : L.length ≤ 513) (w : World) (sb : Nat) (hs : w.heap[sb]? = some (.cells #[.int .i64 dir, .slice none 0 0] 145 (0, 0))) (v : Value) (hB : By w v L) (hv : ∀ A n c ad, v = .slice A n c → A = some ad → ad.block ≠ sb) : Calls Tryz.prog 203 #[.pointer (some ⟨sb, 0, none⟩), v] w fun r w' =>
    Piece w w' r u t x (fun b => b = sb) ∧ w'.heap[sb]? = some (.cells #[.int .i64 dir, .slice none 0 0] 145 (0, 0)) := by
  obtain ⟨A, c, rfl, hc⟩ := hB.len
  obtain ⟨n, hn⟩ : ∃ n, L.length = n := ⟨_, rfl⟩
  have HN : Aside0 _ := ⟨hn⟩
  have HB : Aside0 _ := ⟨And.intro hB (fun ad e => hv _ _ _ ad rfl e)⟩
  have HP : Aside0 _ := ⟨And.intro hP (And.intro hL (And.intro hE hO))⟩
  have HS : Aside0 _ := ⟨hs⟩
  rw [hn] at hl hc ⊢
  have hnz : (n : Int) ≤ 513 := by omega
  clear hn hB hP hL hE hO hs hc hv
  go_enter Tryz.func203, Tryz.ntmps203
  go_wp2
  go_step3
  go_wp2
  go_step3
  go_wp2
  go_loopg [5, 12] n (fun kx s5 s12 wr => ∃ i : Nat, s12 = .int .i64 (i : Int) ∧ i ≤ n ∧ n - i ≤ kx ∧ ((i < n ∧ s5 = .slice none 0 0 ∧ ∃ A c, Aside0 (HeldI w wr sb 145 #[.int .i64 dir, .slice none 0 0] A i c (L.take i))) ∨
      (i = n ∧ Aside0 (Piece w wr (.returned s5) u t x (fun b => b = sb) ∧ wr.heap[sb]? = some (.cells #[.int .i64 dir, .slice none 0 0] 145 (0, 0))))))
  case atStart => exact ⟨0, rfl, Nat.zero_le _, by omega, .inl ⟨by have := HP.out.2.2.1.1; have := HN.out; omega, rfl, none, 0, ⟨⟨World.ownsRow_nil _ _ _ _, (fun ad e => by cases e), Kept.refl _ _, HS.out, heap_lt HS.out⟩⟩⟩⟩
  case round =>
    obtain ⟨i, rfl, hi, hkx, ⟨hlt, rfl, A2, c2, D⟩ | ⟨rfl, D⟩⟩ := hrel
    · have hiz : (i : Int) < (n : Int) := by omega
      have hin : i < L.length := by rw [HN.out]; exact hlt
      obtain ⟨ad, rfl, -, ca⟩ := HB.out.1.at_ (i := i) hin
      have cb := D.out.kept.cellN (by have := HB.out.2 ad rfl; unfold Addr.add; split <;> exact this) ca
      obtain ⟨x0, hx0⟩ : ∃ x0, L[i] = x0 := ⟨_, rfl⟩
      rw [hx0] at cb
      have hx := HP.out.2.1 i x0 (by rw [List.getElem?_eq_getElem hin, hx0])
      have htk : L.take (i + 1) = L.take i ++ [x0] := by rw [List.take_add_one, List.getElem?_eq_getElem hin, hx0]; rfl
      obtain ⟨A4, c4, wB, ha, hsB, hD⟩ := D.out.app (by omega) x0 23
      have hs1 := D.out.str
      replace hs1 : wr.heap[sb]? = some (.cells #[.int .i64 dir, .slice A2 i c2] 145 (0, 0)) := hs1
      have e1 : wr.cell? ⟨sb, 1, none⟩ = some (.slice A2 i c2) := by rw [cell_of_row wr sb 1 _ 145 (0, 0) hs1]; rfl
      rw [← htk] at hD
      have HX : Aside0 _ := ⟨And.intro hx (And.intro htk hD)⟩
      clear ca hx0 hD htk hs1
      go_upto_block 2 with fail
      go_cut [5] from 16 to 45 (fun s5 wx => s5 = .slice none 0 0 ∧ wx = wr)
      case first =>
        rcases HX.out.1 with ⟨hi0, h58⟩ | ⟨hi0, h58, -⟩
        · subst hi0
          subst h58
          go_wp2_with fail
          go_meet
          exact ⟨rfl, rfl⟩
        · have hb1 : (x0 == 58) = false := by simpa using h58
          have hb2 : (x0 != 58) = true := by simpa using h58
          have hi1 : ¬ (i : Int) = 0 := by omega
          go_wp2_with fail
          go_meet
          exact ⟨rfl, rfl⟩
      case rest =>
        obtain ⟨rfl, rfl⟩ := hcut
        go_upto_region 10 with (first
          | (refine wpList_app rfl (.tmp 50) (.tmp 52) 23 23 rfl (some 53) rfl (.slice A2 i c2) (.slice (some ⟨wc.heap.size, 0, none⟩) 1 1) rfl rfl (.slice A4 (i + 1) c4) wB ha ?_)
          | (refine wpList_plain rfl fun _ hK => wp_store_cell 23 (.tmp 55) (.tmp 53) rfl sb 1 (.slice A4 (i + 1) c4) rfl rfl rfl 145 _ hsB (show 1 < 2 by decide) (by kernel_rfl) (hK _ _ ?_)))
        clear ha hsB e1 cb D
        have hD := HX.out.2.2
        generalize wB.setCell ⟨sb, 1, none⟩ (.slice A4 (i + 1) c4) = W at *
        have hs1 := hD.str
        replace hs1 : W.heap[sb]? = some (.cells #[.int .i64 dir, .slice A4 (i + 1) c4] 145 (0, 0)) := hs1
        have c0 : W.cell? ⟨sb, 0, none⟩ = some (.int .i64 dir) := by rw [cell_of_row W sb 0 _ 145 (0, 0) hs1]; rfl
        have c1 : W.cell? ⟨sb, 1, none⟩ = some (.slice A4 (i + 1) c4) := by rw [cell_of_row W sb 1 _ 145 (0, 0) hs1]; rfl
        have hcv := Lib.run_convert_bytes_const W 23 5 #[.int .u8 13, .int .u8 10] 2 2 Tryz.underlying23 Tryz.underlying5
        have hcr := heap_alloc_new W (.cells #[.int .u8 13, .int .u8 10] 5 (2, 3))
        have q := Kept.alloc W (.cells #[.int .u8 13, .int .u8 10] 5 (2, 3)) (fun _ => False)
        replace hcv : (convert 23 23 (.slice (some ⟨W.heap.size, 0, none⟩) 2 2)).run Tryz.prog (W.alloc (.cells #[.int .u8 13, .int .u8 10] 5)) = .ok (.slice (some ⟨W.heap.size, 0, none⟩) 2 2) (W.alloc (.cells #[.int .u8 13, .int .u8 10] 5 (2, 3))) := hcv
        have hBy := (hD.by_ (by omega)).keep q
        have hCR : By (W.alloc (.cells #[.int .u8 13, .int .u8 10] 5 (2, 3))) (.slice (some ⟨W.heap.size, 0, none⟩) 2 2) [13, 10] := rd_block (l := [13, 10]) hcr (by simp) (by simp)
        have hbig : ¬ (513 : Int) < (i : Int) + 1 := by omega
        have HD : Aside0 _ := ⟨And.intro hD q⟩
        clear hcr
        generalize hW2 : W.alloc (.cells #[.int .u8 13, .int .u8 10] 5 (2, 3)) = W2 at *
        clear hW2
        by_cases hlast : i + 1 = n
        · have htk : L.take (i + 1) = L := List.take_of_length_le (by rw [HN.out]; omega)
          rw [htk] at hBy
          have hsuf := hasSuf_calls W2 _ _ L [13, 10] hBy hCR HP.out.2.2.2 (fun x hx => by simp at hx; omega) (by have := HP.out.2.2.1.1; simp; omega) (by simp) (by rw [HN.out]; omega)
          rw [show ([13, 10] : List Int).length = 2 from rfl, decide_eq_true HP.out.2.2.1.2] at hsuf
          have hBL := hBy
          have HLS : Aside0 _ := ⟨hlast⟩
          clear hBy hCR hD hlast htk
          replace c0 := q.cell c0
          replace c1' := q.cell c1
          go_upto_region 13 with (first
            | (refine wpList_plain rfl fun _ hK => wp_conv 23 23 (.tmp 72) rfl (.slice (some ⟨W.heap.size, 0, none⟩) 2 2) (.slice (some ⟨W.heap.size, 0, none⟩) 2 2) rfl _ hcv (hK _ _ ?_))
            | (go_at_call 205; with_reducible refine hsuf.mono ?_; rintro e w3 ⟨rfl, rfl⟩; clear hsuf))
          clear c1 hcv q
          have c1 := c1'
          clear c1'
          have hP := HP.out.1
          have hB : By w3.drew (.slice A4 (i + 1) c4) L ∧ By (w3.drew.alloc (.cells (fr 0 0 (cs35 0)).toArray 37)) (.slice A4 (i + 1) c4) L := ⟨hBL.keep (Kept.drew w3 _), hBL.keep ((Kept.drew w3 (fun _ => False)).trans (Kept.alloc w3.drew _ (fun _ => False)) (fun _ _ h => h) (fun _ _ h => h))⟩
          generalize w3 = W at *
          refine start_ (n := 15) (S := fun w' => Kept W w' (fun _ => False)) (ds := [13]) (mk 15 0) (by kernel_rfl) rfl (by kernel_rfl) (Kept.drew W _) (fun hHeld => ?_)
          skip
          refine pure_ (i := 0) (N := (some 76)) (v := ?_) (a' := ?_) (mk 15 1) rfl rfl (by kernel_rfl) (fun _ _ _ h => h) (.inl ⟨by rfl, ?_⟩) ?_ ?_
          rotate_left
          · intro w'; go_simp; with_reducible rfl
          rotate_left
          · (try simp only [pt, p0, p1, p2]); rfl
          refine pure_ (i := 1) (N := (some 77)) (v := ?_) (a' := ?_) (mk 15 3) rfl rfl (by kernel_rfl) (fun _ _ _ h => h) (.inl ⟨by rfl, ?_⟩) ?_ ?_
          rotate_left
          · intro w'; go_simp; with_reducible rfl
          rotate_left
          · (try simp only [pt, p0, p1, p2]); rfl
          refine pure_ (i := 2) (N := (some 78)) (v := ?_) (a' := ?_) (mk 15 7) rfl rfl (by kernel_rfl) (fun _ _ _ h => h) (.inl ⟨by rfl, ?_⟩) ?_ ?_
          rotate_left
          · intro w'; go_simp; with_reducible rfl
          rotate_left
          · (try simp only [pt, p0, p1, p2]); rfl
          refine take_ (i := 3) (N := (some 79)) (v := ?_) (a' := ?_) (mk 15 15) rfl rfl (by kernel_rfl) (fun _ _ _ h => h) (.inl ⟨by rfl, ?_⟩) hHeld ?_ ?_
          rotate_left
          · intro w' hS; have q5 := hS.cell c0; go_simp; with_reducible rfl
          rotate_left
          · (try simp only [pt, p0, p1, p2]); rfl
          refine pure_ (i := 4) (N := (some 80)) (v := ?_) (a' := ?_) (mk 15 31) rfl rfl (by kernel_rfl) (fun _ _ _ h => h) (.inl ⟨by rfl, ?_⟩) ?_ ?_
          rotate_left
          · intro w'; go_simp; with_reducible rfl
          rotate_left
          · (try simp only [pt, p0, p1, p2]); rfl
          refine pure_ (i := 5) (N := (some 81)) (v := ?_) (a' := ?_) (mk 15 63) rfl rfl (by kernel_rfl) (fun _ _ _ h => h) (.inl ⟨by rfl, ?_⟩) ?_ ?_
          rotate_left
          · intro w'; go_simp; with_reducible rfl
          rotate_left
          · (try simp only [pt, p0, p1, p2]); rfl
          refine pure_ (i := 6) (N := (some 82)) (v := ?_) (a' := ?_) (mk 15 127) rfl rfl (by kernel_rfl) (fun _ _ _ h => h) (.inl ⟨by rfl, ?_⟩) ?_ ?_
          rotate_left
          · intro w'; go_simp; with_reducible rfl
          rotate_left
          · (try simp only [pt, p0, p1, p2]); rfl
          refine take_ (i := 7) (N := (some 83)) (v := ?_) (a' := ?_) (mk 15 255) rfl rfl (by kernel_rfl) (fun _ _ _ h => h) (.inl ⟨by rfl, ?_⟩) hHeld ?_ ?_
          rotate_left
          · intro w' hS; have q5 := hS.cell c1; go_simp; with_reducible rfl
          rotate_left
          · (try simp only [pt, p0, p1, p2]); rfl
          clear hHeld
          refine join_ (σ := List Value × Nat) 2 (mk 15 8191) (fun s => [(84, .tuple #[.agg (fr u t s.1).toArray, .int .i64 0]), (75, .tuple #[.agg (fr u t s.1).toArray, .int .i64 0]), (85, .agg (fr u t s.1).toArray), (86, .int .i64 0), (8, .pointer (some ⟨s.2, 0, none⟩))]) (fun s w' => Parse2 W w' x s.1 s.2) ?_ ?_
          rotate_left
          · intro hCont
            refine two_ (i := 8) (j := 12) (Ni := some 84) (Nj := some 8) (mk 15 511) (mk 15 4351) rfl rfl rfl rfl (by kernel_rfl) (by decide) (by decide) (fun K hK => ?_) (fun K hK => ?_)
            · refine goes_ Tryz.func206 rfl rfl #[.int .i64 dir, (.slice A4 (i + 1) c4)] (by kernel_rfl) rfl rfl (by (simp only [List.map_toArray, List.map_cons, List.map_nil]; rfl)) ((hP W.drew (.slice A4 (i + 1) c4) hB.1).mono fun e wp ht => ?_)
              obtain ⟨ds, rfl, hD, k8⟩ := ht
              have S1 := (Kept.drew W (fun _ => False)).trans k8 (H := fun _ => False) (fun _ _ h => h) (fun _ _ h => h)
              refine ⟨_, rfl, hK.out _ _ S1 (fun hHeld => ?_)⟩
              clear hK K hHeld
              refine norm_ (a' := ?_) ?_ ?_
              rotate_left
              · show Act.put _ (some 84) _ = _
                (try simp only [Act.put, List.setIfInBounds_toArray, List.set_cons_zero, List.set_cons_succ])
                rfl
              refine pure_ (i := 9) (N := some 75) (v := ?_) (a' := ?_) (mk 15 1023) rfl rfl (by kernel_rfl) (fun _ _ _ h => h) (.inl ⟨by rfl, ?_⟩) ?_ ?_
              rotate_left
              · intro w'; go_simp; with_reducible rfl
              rotate_left
              · (try simp only [pt, p0, p1, p2]); rfl
              refine pure_ (i := 10) (N := some 85) (v := ?_) (a' := ?_) (mk 15 2047) rfl rfl (by kernel_rfl) (fun _ _ _ h => h) (.inl ⟨by rfl, ?_⟩) ?_ ?_
              rotate_left
              · intro w'; go_simp; with_reducible rfl
              rotate_left
              · (try simp only [pt, p0, p1, p2]); rfl
              refine pure_ (i := 11) (N := some 86) (v := ?_) (a' := ?_) (mk 15 4095) rfl rfl (by kernel_rfl) (fun _ _ _ h => h) (.inl ⟨by rfl, ?_⟩) ?_ ?_
              rotate_left
              · intro w'; go_simp; with_reducible rfl
              rotate_left
              · (try simp only [pt, p0, p1, p2]); rfl
              refine one_ (i := 12) (N := some 8) (mk 15 8191) rfl rfl (by kernel_rfl) (by decide) (fun K hK => ?_)
              rw [if_pos (by kernel_rfl)]
              refine wp_alloc37 rfl ?_
              refine hK.out _ _ (S1.trans (Kept.alloc wp _ (fun _ => False)) (fun _ _ h => h) (fun _ _ h => h)) (fun hHeld => ?_)
              clear hK K hHeld
              refine norm_ (a' := ?_) ?_ ?_
              rotate_left
              · show Act.put _ (some 8) _ = _
                (try simp only [Act.put, List.setIfInBounds_toArray, List.set_cons_zero, List.set_cons_succ])
                rfl
              exact norm_ (by first | (simp only [putAll, Act.put, List.setIfInBounds_toArray, List.set_cons_zero, List.set_cons_succ]; done) | (simp only [putAll, Act.put, List.setIfInBounds_toArray, List.set_cons_zero, List.set_cons_succ]; rfl)) (hCont (ds, _) _ (parse2_a S1 hD))
            · rw [if_pos (by kernel_rfl)]
              refine wp_alloc37 rfl ?_
              refine hK.out _ _ ((Kept.drew W (fun _ => False)).trans (Kept.alloc W.drew _ (fun _ => False)) (fun _ _ h => h) (fun _ _ h => h)) (fun hHeld => ?_)
              clear hK K hHeld
              refine norm_ (a' := ?_) ?_ ?_
              rotate_left
              · show Act.put _ (some 8) _ = _
                (try simp only [Act.put, List.setIfInBounds_toArray, List.set_cons_zero, List.set_cons_succ])
                rfl
              refine one_ (i := 8) (N := some 84) (mk 15 4607) rfl rfl (by kernel_rfl) (by decide) (fun K hK => ?_)
              refine goes_ Tryz.func206 rfl rfl #[.int .i64 dir, (.slice A4 (i + 1) c4)] (by kernel_rfl) rfl rfl (by (simp only [List.map_toArray, List.map_cons, List.map_nil]; rfl)) ((hP (W.drew.alloc (.cells (fr 0 0 (cs35 0)).toArray 37)) (.slice A4 (i + 1) c4) hB.2).mono fun e wp ht => ?_)
              obtain ⟨ds, rfl, hD, k8⟩ := ht
              have S1 := ((Kept.drew W (fun _ => False)).trans (Kept.alloc W.drew (.cells (fr 0 0 (cs35 0)).toArray 37) (fun _ => False)) (fun _ _ h => h) (fun _ _ h => h)).trans k8 (H := fun _ => False) (fun _ _ h => h) (fun _ _ h => h)
              refine ⟨_, rfl, hK.out _ _ S1 (fun hHeld => ?_)⟩
              clear hK K hHeld
              refine norm_ (a' := ?_) ?_ ?_
              rotate_left
              · show Act.put _ (some 84) _ = _
                (try simp only [Act.put, List.setIfInBounds_toArray, List.set_cons_zero, List.set_cons_succ])
                rfl
              refine pure_ (i := 9) (N := some 75) (v := ?_) (a' := ?_) (mk 15 5119) rfl rfl (by kernel_rfl) (fun _ _ _ h => h) (.inl ⟨by rfl, ?_⟩) ?_ ?_
              rotate_left
              · intro w'; go_simp; with_reducible rfl
              rotate_left
              · (try simp only [pt, p0, p1, p2]); rfl
              refine pure_ (i := 10) (N := some 85) (v := ?_) (a' := ?_) (mk 15 6143) rfl rfl (by kernel_rfl) (fun _ _ _ h => h) (.inl ⟨by rfl, ?_⟩) ?_ ?_
              rotate_left
              · intro w'; go_simp; with_reducible rfl
              rotate_left
              · (try simp only [pt, p0, p1, p2]); rfl
              refine pure_ (i := 11) (N := some 86) (v := ?_) (a' := ?_) (mk 15 8191) rfl rfl (by kernel_rfl) (fun _ _ _ h => h) (.inl ⟨by rfl, ?_⟩) ?_ ?_
              rotate_left
              · intro w'; go_simp; with_reducible rfl
              rotate_left
              · (try simp only [pt, p0, p1, p2]); rfl
              exact norm_ (by first | (simp only [putAll, Act.put, List.setIfInBounds_toArray, List.set_cons_zero, List.set_cons_succ]; done) | (simp only [putAll, Act.put, List.setIfInBounds_toArray, List.set_cons_zero, List.set_cons_succ]; rfl)) (hCont (ds, W.heap.size) _ (parse2_b S1 k8 hD))
          rintro ⟨ds, yb⟩ wC hJ
          dsimp only at hJ
          refine norm_ (a' := ?_) ?_ ?_
          rotate_left
          · simp only [putAll, Act.put, List.setIfInBounds_toArray, List.set_cons_zero, List.set_cons_succ]
            rfl
          have hds := hJ.len
          have hone := hJ.one
          refine last_ (i := 13) (N := none) (mk 15 16383) rfl rfl (by kernel_rfl) (by decide) (fun K hK => ?_)
          rw [if_pos (by kernel_rfl)]
          refine wp_store_row 37 (.tmp 8) (.tmp 85) rfl yb (fr u t ds).toArray rfl rfl 37 (fr 0 0 (cs35 0)).toArray hJ.var (sizeF hds u t) (by simp at hds; simp [hds, cs35]) (oneFr hone u t) ?_
          refine hK.out _ _ ?_
          clear hK K
          refine norm_ (a' := ?_) ?_ ?_
          rotate_left
          · show Act.put _ none _ = _; (try simp only [Act.put, List.setIfInBounds_toArray, List.set_cons_zero, List.set_cons_succ]); rfl
          refine pure_ (i := 14) (N := (some 9)) (v := ?_) (a' := ?_) (mk 15 32767) rfl rfl (by kernel_rfl) (fun _ _ _ h => h) (.inl ⟨by rfl, ?_⟩) ?_ ?_
          rotate_left
          · intro w'; go_simp; with_reducible rfl
          rotate_left
          · (try simp only [pt, p0, p1, p2]); rfl
          refine done_ (by kernel_rfl) ?_
          obtain ⟨A5, c5, W5, ha5, hs5, hPc, hfin⟩ := feed_fin (u := u) (t := t) HD.out.1 rfl HD.out.2 hJ 74
          have f3 := setRow_heap wC yb _ (fr u t ds).toArray 37 _ hJ.var
          have FIN : Aside0 _ := ⟨And.intro hPc hfin⟩
          clear hPc hfin hJ c0 c1 hB hBL
          generalize wC.setRow yb (fr u t ds).toArray = W3 at *
          have hlt := lit_pc W3 u t ds hds
          have hbt := built47 u t ds hds
          have szf := sizeF hds u t
          obtain ⟨C47, hC47⟩ : ∃ C, (pcl u t ds).toArray = C := ⟨_, rfl⟩
          rw [hC47] at hlt hbt ha5
          obtain ⟨L37, hL37⟩ : ∃ C, (fr u t ds).toArray = C := ⟨_, rfl⟩
          rw [hL37] at f3 szf hbt
          clear hC47 hL37 hone hds
          go_wp2_with (first
            | (refine wpList_load_row rfl 37 (.tmp 8) rfl yb rfl 37 L37 (0, 0) _ f3 Tryz.underlying37 rfl szf ?_)
            | (refine wpList_buildTo rfl 47 _ rfl (some 90) rfl C47 ?_ ?_; (simp only [List.map_toArray, List.map_cons, List.map_nil]; exact hbt))
            | (refine wpList_lit1 rfl 74 (.tmp 90) rfl (some 91) rfl (.agg C47) rfl (.slice (some ⟨W3.heap.size, 0, none⟩) 1 1) (W3.alloc (.cells C47 47)) ?_ ?_; exact hlt)
            | (refine wpList_app rfl (.tmp 87) (.tmp 91) 74 74 rfl (some 92) rfl (.slice none 0 0) (.slice (some ⟨W3.heap.size, 0, none⟩) 1 1) rfl rfl (.slice A5 1 c5) W5 ha5 ?_)
            | (refine wpList_plain rfl fun _ hK => wp_store_cell 23 (.tmp 95) (.const (.slice none 0 0)) rfl sb 1 (.slice none 0 0) rfl rfl rfl 145 _ hs5 (show 1 < 2 by decide) (by kernel_rfl) (hK _ _ ?_)))
          go_roundg (n - (i + 1))
          case measure => omega
          case rel => exact ⟨i + 1, by go_num, by omega, by omega, .inr ⟨HLS.out, FIN⟩⟩
        · have hlt2 : i + 1 < n := by omega
          have hsuf : Calls Tryz.prog 205 #[.slice A4 (i + 1) c4, .slice (some ⟨W.heap.size, 0, none⟩) 2 2] W2 fun r w' => r = .returned (.bool false) ∧ w' = W2 := by
            by_cases h2 : i + 1 < 2
            · exact hasSuf_short _ A4 _ (i + 1) c4 2 2 h2 (by omega)
            · have hlen : (L.take (i + 1)).length = i + 1 := hD.len
              have h := hasSuf_calls W2 _ _ (L.take (i + 1)) [13, 10] hBy hCR (fun x hx => HP.out.2.2.2 x (List.mem_of_mem_take hx)) (fun x hx => by simp at hx; omega) (by rw [hlen]; simp; omega) (by simp) (by rw [hlen]; omega)
              have hne : ¬ (L.take (i + 1)).drop ((L.take (i + 1)).length - ([13, 10] : List Int).length) = [13, 10] := by
                rw [hlen]
                refine line_end L (i + 1) (by omega) (by rw [HN.out]; omega) (fun x hx => ?_)
                have := HP.out.2.1 i x hx
                intro e
                rcases this with ⟨h0, h58⟩ | ⟨_, _, h10⟩
                · omega
                · have := h10.1 e; rw [HN.out] at this; omega
              rw [decide_eq_false hne] at h
              exact h
          clear hBy hCR hD q
          go_wp2_with (first
            | (refine wpList_plain rfl fun _ hK => wp_conv 23 23 (.tmp 72) rfl (.slice (some ⟨W.heap.size, 0, none⟩) 2 2) (.slice (some ⟨W.heap.size, 0, none⟩) 2 2) rfl _ hcv (hK _ _ ?_))
            | (go_at_call 205; with_reducible refine hsuf.mono ?_; rintro e w3 ⟨rfl, rfl⟩; clear hsuf))
          go_roundg (n - (i + 1))
          case measure => omega
          case rel => exact ⟨i + 1, by go_num, by omega, by omega, .inl ⟨hlt2, rfl, A4, c4, ⟨⟨HD.out.2.owns HD.out.1.row (fun _ _ h => h), HD.out.1.new, HD.out.1.kept.trans HD.out.2 (fun _ _ h => h) (fun _ _ h => h.elim), HD.out.2.heap HD.out.1.str (fun h => h), HD.out.1.low⟩⟩⟩⟩
    · have hge : ¬ ((i : Int) < (i : Int)) := by omega
      go_wp2
      go_ret
      exact D.out
end Go.Proofs.YtmbjlondehcheaaGreatDoor
end
