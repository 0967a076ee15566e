/- TopTalk: part 21 of the walks: of HSmb, HStr. -/
import Derived.Test.YtmbjlondehcheaaGreatDoorM20
import Derived.Stop.Asserts
section
set_option linter.unusedSimpArgs false
set_option linter.unusedVariables false
namespace Go.Proofs.YtmbjlondehcheaaGreatDoor
open Go.Shelf Go.RowKit Go.Lib Go.Sort Go.Proofs.YtmbjlondehcheaaGreatDoorW.PrintWords Go.Proofs.YtmbjlondehcheaaGreatDoorW.PrintLast Go.Proofs.YtmbjlondehcheaaGreatDoor.PTopTalk
theorem or_zero (m : Int) (hm : 0 ≤ m ∧ m < 256) : bits BinOp.or IntKind.i64 (IntKind.i64.wrap (IntKind.i64.wrap 0 * 256)) (IntKind.i64.wrap m) = m := by
  rw [wrapi 0 (by omega), wrapi m (by omega), wrapi (0 * 256) (by omega)]
  rw [bits_join .i64 16 (by decide) (fun n h0 h1 => wrapi n (by omega)) 8 (0 * 256) m (by omega) (by omega) (by omega) (by omega) (by omega) (by omega)]
  omega
set_option maxHeartbeats 400000 in
set_option maxRecDepth 1000000 in
theorem size_calls (w : World) (sb k c : Nat) (dir skip m : Int) (A : Option Addr) (l : List Int) (hs : w.heap[sb]? = some (.cells #[.int .i64 dir, .slice A k c, .int .i64 skip] 147 (0, 0))) (hB : By w (.slice A k c) l) (h6 : 6 ≤ k) (hk : k ≤ 300) (h4 : l[4]? = some 0) (h5 : l[5]? = some m) (hm : 0 ≤ m ∧ m < 256) : Calls Tryz.prog 222 #[(.pointer (some ⟨sb, 0, none⟩))] w fun r w' => r = .returned (.int .i64 m) ∧ Kept w w' (fun _ => False) := by
  obtain ⟨h4l, e4⟩ := List.getElem?_eq_some_iff.1 h4
  obtain ⟨h5l, e5⟩ := List.getElem?_eq_some_iff.1 h5
  obtain ⟨ad, rfl, hkl, ca⟩ := hB.at_ h4l
  obtain ⟨ad', he, -, cb⟩ := hB.at_ h5l
  injection he with he
  subst he
  rw [e4] at ca
  rw [e5] at cb
  have c1 : w.cell? ⟨sb, 1, none⟩ = some (.slice (some ad) k c) := by rw [cell_of_row w sb 1 _ 147 (0, 0) hs]; rfl
  have hkz : (6 : Int) ≤ (k : Int) := by omega
  have hkz2 : (k : Int) ≤ 300 := by omega
  have h4k : (4 : Int) < (k : Int) := by omega
  have h5k : (5 : Int) < (k : Int) := by omega
  replace ca : w.cell? ⟨ad.block, ad.off + 4, none⟩ = some (.int .u8 0) := by simpa [Addr.add] using ca
  replace cb : w.cell? ⟨ad.block, ad.off + 5, none⟩ = some (.int .u8 m) := by simpa [Addr.add] using cb
  clear hB hs h4 h5 h4l h5l e4 e5 hkl
  go_enter Tryz.func222, Tryz.ntmps222
  go_upto_region 1 with fail
  have SS : w.cell? ⟨sb, 1, none⟩ = some (.slice (some ad) k c) ∧ w.cell? ⟨ad.block, ad.off + 4, none⟩ = some (.int .u8 0) ∧ w.cell? ⟨ad.block, ad.off + 5, none⟩ = some (.int .u8 m) := ⟨c1, ca, cb⟩
  refine st 17 (fun w' => w'.cell? ⟨sb, 1, none⟩ = some (.slice (some ad) k c) ∧ w'.cell? ⟨ad.block, ad.off + 4, none⟩ = some (.int .u8 0) ∧ w'.cell? ⟨ad.block, ad.off + 5, none⟩ = some (.int .u8 m)) [] SS ?_
  refine pu 0 (some 3) (mk 17 1) ?_
  refine pu 1 (some 4) (mk 17 3) ?_
  refine pu 2 (some 5) (mk 17 7) ?_
  refine ld 3 (some 6) (mk 17 15) SS ?_
  refine pu 4 (some 7) (mk 17 31) ?_
  refine ld 5 (some 8) (mk 17 63) SS ?_
  refine pu 6 (some 9) (mk 17 127) ?_
  refine pu 7 (some 10) (mk 17 255) ?_
  refine pu 8 (some 11) (mk 17 511) ?_
  refine pu 9 (some 12) (mk 17 1023) ?_
  refine pu 10 (some 13) (mk 17 2047) ?_
  refine ld 11 (some 14) (mk 17 4095) SS ?_
  refine pu 12 (some 15) (mk 17 8191) ?_
  refine ld 13 (some 16) (mk 17 16383) SS ?_
  refine pu 14 (some 17) (mk 17 32767) ?_
  refine pu 15 (some 18) (mk 17 65535) ?_
  refine pu 16 (some 2) (mk 17 131071) ?_
  refine done_ (by kernel_rfl) ?_
  have FIN : Aside0 _ := ⟨Kept.drew w (fun _ => False)⟩
  rw [or_zero m hm]
  clear SS ca cb c1
  go_wp2
  go_ret
  exact ⟨rfl, FIN.out⟩
theorem mbap_head (u tid : Int) (p : List Int) (hp : p.length ≤ 253) (k : Nat) (hk : 6 ≤ k) : ((mbapB u tid p).take k)[4]? = some 0 ∧ ((mbapB u tid p).take k)[5]? = some ((p.length : Int) + 1) := by
  rw [List.getElem?_take_of_lt (by omega), List.getElem?_take_of_lt (by omega), mbapB_cons]
  have h1 : ((p.length : Int) + 1) / 256 % 256 = 0 := by omega
  have h2 : ((p.length : Int) + 1) % 256 = (p.length : Int) + 1 := by omega
  rw [h1, h2]
  exact ⟨rfl, rfl⟩
set_option maxHeartbeats 1000000 in
set_option maxRecDepth 1000000 in
theorem next_none (w : World) (sb k c : Nat) (dir skip : Int) (A : Option Addr) (l : List Int) (n : Nat) (hs : w.heap[sb]? = some (.cells #[.int .i64 dir, .slice A k c, .int .i64 skip] 147 (0, 0))) (hB : By w (.slice A k c) l) (hk : k < n + 7) (hn : 1 ≤ n ∧ n ≤ 253) (h6 : 6 ≤ k → l[4]? = some 0 ∧ l[5]? = some ((n : Int) + 1)) : Calls Tryz.prog 221 #[(.pointer (some ⟨sb, 0, none⟩))] w fun r w' => r = .returned .nilFunc ∧ Kept w w' (fun _ => False) := by
  have c1 : w.cell? ⟨sb, 1, none⟩ = some (.slice A k c) := by rw [cell_of_row w sb 1 _ 147 (0, 0) hs]; rfl
  by_cases h : 6 ≤ k
  · obtain ⟨h4, h5⟩ := h6 h
    have hsz := fun W (q : Kept w W (fun _ => False)) => size_calls W sb k c dir skip ((n : Int) + 1) A l (q.heap hs (fun h => h)) (hB.keep q) h (by omega) h4 h5 (by omega)
    have hz : ¬ (k : Int) < 6 := by omega
    have hz2 : ¬ (254 : Int) < (n : Int) + 1 := by omega
    have hz3 : ¬ (n : Int) + 1 < 2 := by omega
    have hz4 : ((k : Int) == 6 + ((n : Int) + 1)) = false := by rw [beq_eq_false_iff_ne]; omega
    have hz5 : (n : Int) ≤ 253 := by omega
    have hz6 : ¬ (k : Int) = 6 + ((n : Int) + 1) := by omega
    have Q0 := Kept.refl w (fun _ => False)
    clear hs hB h6 h4 h5 hn hk h
    go_enter Tryz.func221, Tryz.ntmps221
    go_upto_region 5 with (go_at_call 222; with_reducible refine (hsz _ Q0).mono ?_; rintro e w2 ⟨rfl, k2⟩)
    have c2 := k2.cell c1
    clear Q0
    go_upto_region 7 with (go_at_call 222; with_reducible refine (hsz _ k2).mono ?_; rintro e w3 ⟨rfl, k3⟩)
    have S0 := (k2.trans k3 (H := fun _ => False) (fun _ _ h => h) (fun _ _ h => h)).trans (Kept.drew w3 (fun _ => False)) (H := fun _ => False) (fun _ _ h => h) (fun _ _ h => h)
    clear k2 k3 c2
    refine st 10 (fun w' => Kept w w' (fun _ => False)) [] S0 ?_
    refine pu 0 (some 23) (mk 10 1) ?_
    refine pu 1 (some 24) (mk 10 3) ?_
    refine pu 2 (some 25) (mk 10 7) ?_
    refine ld 3 (some 26) (mk 10 15) S0 ?_ (hy := .inl ⟨by rfl, by intro w' hS; have q1 := hS.cell c1; go_simp; with_reducible rfl⟩)
    refine pu 4 (some 27) (mk 10 31) ?_
    refine pu 5 (some 28) (mk 10 63) ?_
    refine cl 6 (some 29) (mk 10 127) Tryz.func222 (args := #[(.pointer (some ⟨sb, 0, none⟩))]) (hsz _ S0) ?_
    rintro e w6 ⟨rfl, k6⟩
    have S1 := S0.trans k6 (H := fun _ => False) (fun _ _ h => h) (fun _ _ h => h)
    refine ⟨_, rfl, S1, nm ?_⟩
    refine pu 7 (some 30) (mk 10 255) ?_
    refine pu 8 (some 31) (mk 10 511) ?_
    refine pu 9 (some 22) (mk 10 1023) ?_
    refine done_ (by kernel_rfl) ?_
    have FIN : Aside0 _ := ⟨S1⟩
    have hw5 : (((k : Nat) : Int) == IntKind.i64.wrap (6 + ((n : Int) + 1))) = false := by rw [wrapi _ (by omega)]; exact hz4
    rw [hw5]
    clear S0 S1 k6 c1 hsz
    go_wp2
    go_ret
    exact ⟨rfl, FIN.out⟩
  · have hz : (k : Int) < 6 := by omega
    clear hB hs h6 hn hk h
    go_enter Tryz.func221, Tryz.ntmps221
    go_wp2
    go_ret
    exact ⟨rfl, Kept.refl _ _⟩
set_option maxHeartbeats 1000000 in
set_option maxRecDepth 1000000 in
theorem next_whole (w : World) (sb k c : Nat) (dir skip : Int) (A : Option Addr) (l : List Int) (n : Nat) (hs : w.heap[sb]? = some (.cells #[.int .i64 dir, .slice A k c, .int .i64 skip] 147 (0, 0))) (hB : By w (.slice A k c) l) (hk : k = n + 7) (hn : 1 ≤ n ∧ n ≤ 253) (h45 : l[4]? = some 0 ∧ l[5]? = some ((n : Int) + 1)) : Calls Tryz.prog 221 #[(.pointer (some ⟨sb, 0, none⟩))] w fun r w' => r = .returned (.func (.func 225) #[(.pointer (some ⟨sb, 0, none⟩))] #[]) ∧ Kept w w' (fun _ => False) := by
  have c1 : w.cell? ⟨sb, 1, none⟩ = some (.slice A k c) := by rw [cell_of_row w sb 1 _ 147 (0, 0) hs]; rfl
  obtain ⟨h4, h5⟩ := h45
  have hsz := fun W (q : Kept w W (fun _ => False)) => size_calls W sb k c dir skip ((n : Int) + 1) A l (q.heap hs (fun h => h)) (hB.keep q) (by omega) (by omega) h4 h5 (by omega)
  have hz : ¬ (k : Int) < 6 := by omega
  have hz2 : ¬ (254 : Int) < (n : Int) + 1 := by omega
  have hz3 : ¬ (n : Int) + 1 < 2 := by omega
  have hz4 : ((k : Int) == 6 + ((n : Int) + 1)) = true := by rw [beq_iff_eq]; omega
  have hz5 : (n : Int) ≤ 253 := by omega
  have Q0 := Kept.refl w (fun _ => False)
  clear hs hB h4 h5 hn hk
  go_enter Tryz.func221, Tryz.ntmps221
  go_upto_region 5 with (go_at_call 222; with_reducible refine (hsz _ Q0).mono ?_; rintro e w2 ⟨rfl, k2⟩)
  have c2 := k2.cell c1
  clear Q0
  go_upto_region 7 with (go_at_call 222; with_reducible refine (hsz _ k2).mono ?_; rintro e w3 ⟨rfl, k3⟩)
  have S0 := (k2.trans k3 (H := fun _ => False) (fun _ _ h => h) (fun _ _ h => h)).trans (Kept.drew w3 (fun _ => False)) (H := fun _ => False) (fun _ _ h => h) (fun _ _ h => h)
  clear k2 k3 c2
  refine st 10 (fun w' => Kept w w' (fun _ => False)) [] S0 ?_
  refine pu 0 (some 23) (mk 10 1) ?_
  refine pu 1 (some 24) (mk 10 3) ?_
  refine pu 2 (some 25) (mk 10 7) ?_
  refine ld 3 (some 26) (mk 10 15) S0 ?_ (hy := .inl ⟨by rfl, by intro w' hS; have q1 := hS.cell c1; go_simp; with_reducible rfl⟩)
  refine pu 4 (some 27) (mk 10 31) ?_
  refine pu 5 (some 28) (mk 10 63) ?_
  refine cl 6 (some 29) (mk 10 127) Tryz.func222 (args := #[(.pointer (some ⟨sb, 0, none⟩))]) (hsz _ S0) ?_
  rintro e w6 ⟨rfl, k6⟩
  have S1 := S0.trans k6 (H := fun _ => False) (fun _ _ h => h) (fun _ _ h => h)
  refine ⟨_, rfl, S1, nm ?_⟩
  refine pu 7 (some 30) (mk 10 255) ?_
  refine pu 8 (some 31) (mk 10 511) ?_
  refine pu 9 (some 22) (mk 10 1023) ?_
  refine done_ (by kernel_rfl) ?_
  have FIN : Aside0 _ := ⟨S1⟩
  have hw5 : (((k : Nat) : Int) == IntKind.i64.wrap (6 + ((n : Int) + 1))) = true := by rw [wrapi _ (by omega)]; exact hz4
  rw [hw5]
  clear S0 S1 k6 c1 hsz
  go_wp2
  go_ret
  exact ⟨rfl, FIN.out⟩
set_option maxHeartbeats 1000000 in
set_option maxRecDepth 1000000 in
theorem whole_calls {dir u t : Int} {L : List Int} {x : S35} (hP : ∀ (w : World) (v : Value), By w v L → Calls Tryz.prog 227 #[.int .i64 dir, v] w fun r w' => ∃ ds, r = .returned (.tuple #[.agg (fr u t ds).toArray, .int .i64 0]) ∧ (∀ W, Kept w' W (fun b => b < w.heap.size) → k35.K W x ds) ∧ Kept w w' (fun _ => False))
    (W : World) (sb k c : Nat) (A : Option Addr) (hs : W.heap[sb]? = some (.cells #[.int .i64 dir, .slice A k c, .int .i64 0] 147 (0, 0))) (hBy : By W (.slice A k c) L) : Calls Tryz.prog 225 #[(.pointer (some ⟨sb, 0, none⟩))] W fun r w' =>
    ∃ pb ds, r = .returned (.slice (some ⟨pb, 0, none⟩) 1 1) ∧ W.heap.size ≤ pb ∧ ds.toArray.size = 22 ∧ w'.heap[pb]? = some (.cells (pcl u t ds).toArray 47 (0, 0)) ∧ (∀ W2, Kept w' W2 (fun b => b < W.heap.size) → k35.K W2 x ds) ∧ w'.heap[sb]? = some (.cells #[.int .i64 dir, .slice none 0 0, .int .i64 0] 147 (0, 0)) ∧ Kept W w' (fun b => b = sb) := by
  have c0 : W.cell? ⟨sb, 0, none⟩ = some (.int .i64 dir) := by rw [cell_of_row W sb 0 _ 147 (0, 0) hs]; rfl
  have c1 : W.cell? ⟨sb, 1, none⟩ = some (.slice A k c) := by rw [cell_of_row W sb 1 _ 147 (0, 0) hs]; rfl
  have hB : By W.drew (.slice A k c) L ∧ By (W.drew.alloc (.cells (fr 0 0 (cs35 0)).toArray 37)) (.slice A k c) L := ⟨hBy.keep (Kept.drew W _), hBy.keep ((Kept.drew W (fun _ => False)).trans (Kept.alloc W.drew _ (fun _ => False)) (fun _ _ h => h) (fun _ _ h => h))⟩
  have HS : Aside0 _ := ⟨hs⟩
  clear hs hBy
  go_enter Tryz.func225, Tryz.ntmps225
  go_upto_region 1 with fail
  refine start_ (n := 15) (S := fun w' => Kept W w' (fun _ => False)) (ds := [13]) (mk 15 0) (by kernel_rfl) rfl (by kernel_rfl) (Kept.drew W _) (fun hHeld => ?_)
  skip
  refine pure_ (i := 0) (N := (some 6)) (v := ?_) (a' := ?_) (mk 15 1) rfl rfl (by kernel_rfl) (fun _ _ _ h => h) (.inl ⟨by rfl, ?_⟩) ?_ ?_
  rotate_left
  · intro w'; go_simp; with_reducible rfl
  rotate_left
  · (try simp only [pt, p0, p1, p2]); rfl
  refine pure_ (i := 1) (N := (some 7)) (v := ?_) (a' := ?_) (mk 15 3) rfl rfl (by kernel_rfl) (fun _ _ _ h => h) (.inl ⟨by rfl, ?_⟩) ?_ ?_
  rotate_left
  · intro w'; go_simp; with_reducible rfl
  rotate_left
  · (try simp only [pt, p0, p1, p2]); rfl
  refine pure_ (i := 2) (N := (some 8)) (v := ?_) (a' := ?_) (mk 15 7) rfl rfl (by kernel_rfl) (fun _ _ _ h => h) (.inl ⟨by rfl, ?_⟩) ?_ ?_
  rotate_left
  · intro w'; go_simp; with_reducible rfl
  rotate_left
  · (try simp only [pt, p0, p1, p2]); rfl
  refine take_ (i := 3) (N := (some 9)) (v := ?_) (a' := ?_) (mk 15 15) rfl rfl (by kernel_rfl) (fun _ _ _ h => h) (.inl ⟨by rfl, ?_⟩) hHeld ?_ ?_
  rotate_left
  · intro w' hS; have q5 := hS.cell c0; go_simp; with_reducible rfl
  rotate_left
  · (try simp only [pt, p0, p1, p2]); rfl
  refine pure_ (i := 4) (N := (some 10)) (v := ?_) (a' := ?_) (mk 15 31) rfl rfl (by kernel_rfl) (fun _ _ _ h => h) (.inl ⟨by rfl, ?_⟩) ?_ ?_
  rotate_left
  · intro w'; go_simp; with_reducible rfl
  rotate_left
  · (try simp only [pt, p0, p1, p2]); rfl
  refine pure_ (i := 5) (N := (some 11)) (v := ?_) (a' := ?_) (mk 15 63) rfl rfl (by kernel_rfl) (fun _ _ _ h => h) (.inl ⟨by rfl, ?_⟩) ?_ ?_
  rotate_left
  · intro w'; go_simp; with_reducible rfl
  rotate_left
  · (try simp only [pt, p0, p1, p2]); rfl
  refine pure_ (i := 6) (N := (some 12)) (v := ?_) (a' := ?_) (mk 15 127) rfl rfl (by kernel_rfl) (fun _ _ _ h => h) (.inl ⟨by rfl, ?_⟩) ?_ ?_
  rotate_left
  · intro w'; go_simp; with_reducible rfl
  rotate_left
  · (try simp only [pt, p0, p1, p2]); rfl
  refine take_ (i := 7) (N := (some 13)) (v := ?_) (a' := ?_) (mk 15 255) rfl rfl (by kernel_rfl) (fun _ _ _ h => h) (.inl ⟨by rfl, ?_⟩) hHeld ?_ ?_
  rotate_left
  · intro w' hS; have q5 := hS.cell c1; go_simp; with_reducible rfl
  rotate_left
  · (try simp only [pt, p0, p1, p2]); rfl
  clear hHeld
  refine join_ (σ := List Value × Nat) 2 (mk 15 8191) (fun s => [(14, .tuple #[.agg (fr u t s.1).toArray, .int .i64 0]), (5, .tuple #[.agg (fr u t s.1).toArray, .int .i64 0]), (15, .agg (fr u t s.1).toArray), (16, .int .i64 0), (3, .pointer (some ⟨s.2, 0, none⟩))]) (fun s w' => Parse2 W w' x s.1 s.2) ?_ ?_
  rotate_left
  · intro hCont
    refine two_ (i := 8) (j := 12) (Ni := some 14) (Nj := some 3) (mk 15 511) (mk 15 4351) rfl rfl rfl rfl (by kernel_rfl) (by decide) (by decide) (fun K hK => ?_) (fun K hK => ?_)
    · refine goes_ Tryz.func227 rfl rfl #[.int .i64 dir, (.slice A k c)] (by kernel_rfl) rfl rfl (by (simp only [List.map_toArray, List.map_cons, List.map_nil]; rfl)) ((hP W.drew (.slice A k c) hB.1).mono fun e wp ht => ?_)
      obtain ⟨ds, rfl, hD, k8⟩ := ht
      have S1 := (Kept.drew W (fun _ => False)).trans k8 (H := fun _ => False) (fun _ _ h => h) (fun _ _ h => h)
      refine ⟨_, rfl, hK.out _ _ S1 (fun hHeld => ?_)⟩
      clear hK K hHeld
      refine norm_ (a' := ?_) ?_ ?_
      rotate_left
      · show Act.put _ (some 14) _ = _
        (try simp only [Act.put, List.setIfInBounds_toArray, List.set_cons_zero, List.set_cons_succ])
        rfl
      refine pure_ (i := 9) (N := some 5) (v := ?_) (a' := ?_) (mk 15 1023) rfl rfl (by kernel_rfl) (fun _ _ _ h => h) (.inl ⟨by rfl, ?_⟩) ?_ ?_
      rotate_left
      · intro w'; go_simp; with_reducible rfl
      rotate_left
      · (try simp only [pt, p0, p1, p2]); rfl
      refine pure_ (i := 10) (N := some 15) (v := ?_) (a' := ?_) (mk 15 2047) rfl rfl (by kernel_rfl) (fun _ _ _ h => h) (.inl ⟨by rfl, ?_⟩) ?_ ?_
      rotate_left
      · intro w'; go_simp; with_reducible rfl
      rotate_left
      · (try simp only [pt, p0, p1, p2]); rfl
      refine pure_ (i := 11) (N := some 16) (v := ?_) (a' := ?_) (mk 15 4095) rfl rfl (by kernel_rfl) (fun _ _ _ h => h) (.inl ⟨by rfl, ?_⟩) ?_ ?_
      rotate_left
      · intro w'; go_simp; with_reducible rfl
      rotate_left
      · (try simp only [pt, p0, p1, p2]); rfl
      refine one_ (i := 12) (N := some 3) (mk 15 8191) rfl rfl (by kernel_rfl) (by decide) (fun K hK => ?_)
      rw [if_pos (by kernel_rfl)]
      refine wp_alloc37 rfl ?_
      refine hK.out _ _ (S1.trans (Kept.alloc wp _ (fun _ => False)) (fun _ _ h => h) (fun _ _ h => h)) (fun hHeld => ?_)
      clear hK K hHeld
      refine norm_ (a' := ?_) ?_ ?_
      rotate_left
      · show Act.put _ (some 3) _ = _
        (try simp only [Act.put, List.setIfInBounds_toArray, List.set_cons_zero, List.set_cons_succ])
        rfl
      exact norm_ (by first | (simp only [putAll, Act.put, List.setIfInBounds_toArray, List.set_cons_zero, List.set_cons_succ]; done) | (simp only [putAll, Act.put, List.setIfInBounds_toArray, List.set_cons_zero, List.set_cons_succ]; rfl)) (hCont (ds, _) _ (parse2_a S1 hD))
    · rw [if_pos (by kernel_rfl)]
      refine wp_alloc37 rfl ?_
      refine hK.out _ _ ((Kept.drew W (fun _ => False)).trans (Kept.alloc W.drew _ (fun _ => False)) (fun _ _ h => h) (fun _ _ h => h)) (fun hHeld => ?_)
      clear hK K hHeld
      refine norm_ (a' := ?_) ?_ ?_
      rotate_left
      · show Act.put _ (some 3) _ = _
        (try simp only [Act.put, List.setIfInBounds_toArray, List.set_cons_zero, List.set_cons_succ])
        rfl
      refine one_ (i := 8) (N := some 14) (mk 15 4607) rfl rfl (by kernel_rfl) (by decide) (fun K hK => ?_)
      refine goes_ Tryz.func227 rfl rfl #[.int .i64 dir, (.slice A k c)] (by kernel_rfl) rfl rfl (by (simp only [List.map_toArray, List.map_cons, List.map_nil]; rfl)) ((hP (W.drew.alloc (.cells (fr 0 0 (cs35 0)).toArray 37)) (.slice A k c) hB.2).mono fun e wp ht => ?_)
      obtain ⟨ds, rfl, hD, k8⟩ := ht
      have S1 := ((Kept.drew W (fun _ => False)).trans (Kept.alloc W.drew (.cells (fr 0 0 (cs35 0)).toArray 37) (fun _ => False)) (fun _ _ h => h) (fun _ _ h => h)).trans k8 (H := fun _ => False) (fun _ _ h => h) (fun _ _ h => h)
      refine ⟨_, rfl, hK.out _ _ S1 (fun hHeld => ?_)⟩
      clear hK K hHeld
      refine norm_ (a' := ?_) ?_ ?_
      rotate_left
      · show Act.put _ (some 14) _ = _
        (try simp only [Act.put, List.setIfInBounds_toArray, List.set_cons_zero, List.set_cons_succ])
        rfl
      refine pure_ (i := 9) (N := some 5) (v := ?_) (a' := ?_) (mk 15 5119) rfl rfl (by kernel_rfl) (fun _ _ _ h => h) (.inl ⟨by rfl, ?_⟩) ?_ ?_
      rotate_left
      · intro w'; go_simp; with_reducible rfl
      rotate_left
      · (try simp only [pt, p0, p1, p2]); rfl
      refine pure_ (i := 10) (N := some 15) (v := ?_) (a' := ?_) (mk 15 6143) rfl rfl (by kernel_rfl) (fun _ _ _ h => h) (.inl ⟨by rfl, ?_⟩) ?_ ?_
      rotate_left
      · intro w'; go_simp; with_reducible rfl
      rotate_left
      · (try simp only [pt, p0, p1, p2]); rfl
      refine pure_ (i := 11) (N := some 16) (v := ?_) (a' := ?_) (mk 15 8191) rfl rfl (by kernel_rfl) (fun _ _ _ h => h) (.inl ⟨by rfl, ?_⟩) ?_ ?_
      rotate_left
      · intro w'; go_simp; with_reducible rfl
      rotate_left
      · (try simp only [pt, p0, p1, p2]); rfl
      exact norm_ (by first | (simp only [putAll, Act.put, List.setIfInBounds_toArray, List.set_cons_zero, List.set_cons_succ]; done) | (simp only [putAll, Act.put, List.setIfInBounds_toArray, List.set_cons_zero, List.set_cons_succ]; rfl)) (hCont (ds, W.heap.size) _ (parse2_b S1 k8 hD))
  rintro ⟨ds, yb⟩ wC hJ
  dsimp only at hJ
  refine norm_ (a' := ?_) ?_ ?_
  rotate_left
  · simp only [putAll, Act.put, List.setIfInBounds_toArray, List.set_cons_zero, List.set_cons_succ]
    rfl
  have hds := hJ.len
  have hone := hJ.one
  refine last_ (i := 13) (N := none) (mk 15 16383) rfl rfl (by kernel_rfl) (by decide) (fun K hK => ?_)
  rw [if_pos (by kernel_rfl)]
  refine wp_store_row 37 (.tmp 3) (.tmp 15) rfl yb (fr u t ds).toArray rfl rfl 37 (fr 0 0 (cs35 0)).toArray hJ.var (sizeF hds u t) (by simp at hds; simp [hds, cs35]) (oneFr hone u t) ?_
  refine hK.out _ _ ?_
  clear hK K
  refine norm_ (a' := ?_) ?_ ?_
  rotate_left
  · show Act.put _ none _ = _; (try simp only [Act.put, List.setIfInBounds_toArray, List.set_cons_zero, List.set_cons_succ]); rfl
  refine pure_ (i := 14) (N := (some 4)) (v := ?_) (a' := ?_) (mk 15 32767) rfl rfl (by kernel_rfl) (fun _ _ _ h => h) (.inl ⟨by rfl, ?_⟩) ?_ ?_
  rotate_left
  · intro w'; go_simp; with_reducible rfl
  rotate_left
  · (try simp only [pt, p0, p1, p2]); rfl
  refine done_ (by kernel_rfl) ?_
  have k1 : Kept wC (wC.setRow yb (fr u t ds).toArray) (fun b => b = yb) := Kept.setRow wC yb _ rfl
  have hsl := heap_lt HS.out
  have hfar := hJ.far
  have f3 := setRow_heap wC yb _ (fr u t ds).toArray 37 _ hJ.var
  have hs3 := k1.heap (hJ.kept.heap HS.out (fun h => h)) (fun e : sb = yb => by omega)
  have K3 := hJ.kept.trans k1 (H := fun b => b = yb) (fun _ _ h => h.elim) (fun _ _ h => h)
  have HJ : Aside0 _ := ⟨And.intro hJ.msg k1⟩
  clear hJ c0 c1 hB hP k1
  generalize wC.setRow yb (fr u t ds).toArray = W3 at *
  have hs4 := setCell_row (i := 1) (v := .slice none 0 0) hs3
  replace hs4 : (W3.setCell ⟨sb, 1, none⟩ (.slice none 0 0)).heap[sb]? = some (.cells #[.int .i64 dir, .slice none 0 0, .int .i64 0] 147 (0, 0)) := hs4
  have k4 := Kept.setCell W3 sb 1 (.slice none 0 0) (F := fun b => b = sb) rfl
  have f4 := k4.heap f3 (fun e : yb = sb => by omega)
  go_upto_region 3 with (refine wpList_plain rfl fun _ hK => wp_store_cell 23 (.tmp 19) (.const (.slice none 0 0)) rfl sb 1 (.slice none 0 0) rfl rfl rfl 147 _ hs3 (show 1 < 3 by decide) (by kernel_rfl) (hK _ _ ?_))
  generalize W3.setCell ⟨sb, 1, none⟩ (.slice none 0 0) = W4 at *
  have hlt := lit_pc W4 u t ds hds
  have hbt := built47 u t ds hds
  have szf := sizeF hds u t
  have k5 := Kept.alloc W4 (.cells (pcl u t ds).toArray 47) (fun _ => False)
  have f5 := heap_alloc_new W4 (.cells (pcl u t ds).toArray 47)
  have hs5 := k5.heap hs4 (fun h => h)
  have K5 := (K3.trans k4 (H := fun b => b = yb ∨ b = sb) (fun _ _ h => .inl h) (fun _ _ h => .inr h)).trans k5 (H := fun b => b = yb ∨ b = sb) (fun _ _ h => h) (fun _ _ h => h.elim)
  have FIN : Aside0 (W.heap.size ≤ W4.heap.size ∧ ds.toArray.size = 22 ∧ (W4.alloc (.cells (pcl u t ds).toArray 47)).heap[W4.heap.size]? = some (.cells (pcl u t ds).toArray 47 (0, 0)) ∧ (∀ W', Kept (W4.alloc (.cells (pcl u t ds).toArray 47)) W' (fun b => b < W.heap.size) → k35.K W' x ds) ∧ (W4.alloc (.cells (pcl u t ds).toArray 47)).heap[sb]? = some (.cells #[.int .i64 dir, .slice none 0 0, .int .i64 0] 147 (0, 0)) ∧ Kept W (W4.alloc (.cells (pcl u t ds).toArray 47)) (fun b => b = sb)) :=
    ⟨by have := K3.size; have := k4.size; omega, hds, f5, fun W' q => HJ.out.1 W' (((HJ.out.2.trans k4 (H := fun b => b = yb ∨ b = sb) (fun _ _ h => .inl h) (fun _ _ h => .inr h)).trans k5 (H := fun b => b = yb ∨ b = sb) (fun _ _ h => h) (fun _ _ h => h.elim)).trans q (fun b _ h => h.elim .inr fun h => .inl (by omega)) (fun b _ h => .inl h)), hs5, K5.mono fun b hb h => h.elim (fun h => by omega) (fun h => h)⟩
  clear K3 K5 k4 k5 hs3 hs4 hs5 HJ HS f5 f3
  obtain ⟨C47, hC47⟩ : ∃ C, (pcl u t ds).toArray = C := ⟨_, rfl⟩
  rw [hC47] at hlt hbt FIN
  have HC : Aside0 _ := ⟨hC47⟩
  obtain ⟨L37, hL37⟩ : ∃ C, (fr u t ds).toArray = C := ⟨_, rfl⟩
  rw [hL37] at f4 szf hbt
  clear hC47 hL37 hone hds
  go_wp2_with (first
    | (refine wpList_load_row rfl 37 (.tmp 3) rfl yb rfl 37 L37 (0, 0) _ f4 Tryz.underlying37 rfl szf ?_)
    | (refine wpList_buildTo rfl 47 _ rfl (some 22) rfl C47 ?_ ?_; (simp only [List.map_toArray, List.map_cons, List.map_nil]; exact hbt))
    | (refine wpList_lit1 rfl 74 (.tmp 22) rfl (some 23) rfl (.agg C47) rfl (.slice (some ⟨W4.heap.size, 0, none⟩) 1 1) (W4.alloc (.cells C47 47)) ?_ ?_; exact hlt))
  go_ret
  refine ⟨_, ds, rfl, ?_⟩
  rw [HC.out]
  exact ⟨FIN.out.1, by simpa using FIN.out.2.1, FIN.out.2.2⟩
theorem row_of_heap {w : World} {g : Nat} {cs : List Value} {e : TypeId} {k : Nat} (h : cs.length = k) (hg : w.heap[g]? = some (.cells cs.toArray e (0, 0))) : w.ownsRow 0 e k (.slice (some ⟨g, 0, none⟩) 1 1) 1 cs :=
  ⟨by omega, .inr ⟨g, 1, cs.toArray, rfl, Nat.zero_le _, hg, Nat.le_refl _, by unfold maxLen; omega, by simp; omega, by rw [List.take_of_length_le]; simp; omega⟩⟩
theorem neq118 (w : World) (cpt : Array Value) : (binOp .neq 118 (.func (.func 225) cpt #[]) .nilFunc).run Tryz.prog w = .ok (.bool true) w := by kernel_rfl
theorem neq118n (w : World) : (binOp .neq 118 .nilFunc .nilFunc).run Tryz.prog w = .ok (.bool false) w := by kernel_rfl
set_option maxHeartbeats 2000000 in
set_option maxRecDepth 1000000 in
theorem smbapFeed {dir u t : Int} {p : List Int} {x : S35} (h : FrP 227 mbapB dir u t p x) (hp : 0 < p.length ∧ p.length ≤ 253) (w : World) (sb : Nat) (hs : w.heap[sb]? = some (.cells #[.int .i64 dir, .slice none 0 0, .int .i64 0] 147 (0, 0))) (v : Value) (hB : By w v (mbapB u t p)) (hv : ∀ A n c ad, v = .slice A n c → A = some ad → ad.block ≠ sb) : Calls Tryz.prog 219 #[(.pointer (some ⟨sb, 0, none⟩)), v] w fun r w' =>
    Piece w w' r u t x (fun b => b = sb) ∧ w'.heap[sb]? = some (.cells #[.int .i64 dir, .slice none 0 0, .int .i64 0] 147 (0, 0)) := by
  obtain ⟨A, c, rfl, hc⟩ := hB.len
  obtain ⟨m, hm⟩ : ∃ m, p.length = m := ⟨_, rfl⟩
  have hlen := mbapB_len u t p
  rw [hm] at hlen
  have hhd := mbap_head u t p hp.2
  rw [hm] at hhd
  rw [hm] at hp
  obtain ⟨L, hL⟩ : ∃ L, mbapB u t p = L := ⟨_, rfl⟩
  have hP : ∀ (w : World) (v : Value), By w v L → Calls Tryz.prog 227 #[.int .i64 dir, v] w fun r w' => ∃ ds, r = .returned (.tuple #[.agg (fr u t ds).toArray, .int .i64 0]) ∧ (∀ W, Kept w' W (fun b => b < w.heap.size) → k35.K W x ds) ∧ Kept w w' (fun _ => False) := fun W v hB => h W v (by rw [hL]; exact hB)
  rw [hL] at hB hhd hlen hc ⊢
  obtain ⟨n, hn⟩ : ∃ n, L.length = n := ⟨_, rfl⟩
  have HN : Aside0 _ := ⟨hn⟩
  have HB : Aside0 _ := ⟨And.intro hB (fun ad e => hv _ _ _ ad rfl e)⟩
  have HP : Aside0 _ := ⟨And.intro hP hhd⟩
  have HS : Aside0 _ := ⟨hs⟩
  rw [hn] at hlen hc ⊢
  have HM : Aside0 _ := ⟨And.intro hlen hp⟩
  have hnz : (n : Int) ≤ 260 := by omega
  clear hn hB hP hs hc hv hL hhd hm h hlen hp
  go_enter Tryz.func219, Tryz.ntmps219
  go_wp2
  go_loopg [5, 11] n (fun kx s5 s11 wr => ∃ i : Nat, s11 = .int .i64 (i : Int) ∧ i ≤ n ∧ n - i ≤ kx ∧ ((i < n ∧ s5 = .slice none 0 0 ∧ ∃ A c, Aside0 (HeldI w wr sb 147 #[.int .i64 dir, .slice none 0 0, .int .i64 0] A i c (L.take i))) ∨
      (i = n ∧ Aside0 (Piece w wr (.returned s5) u t x (fun b => b = sb) ∧ wr.heap[sb]? = some (.cells #[.int .i64 dir, .slice none 0 0, .int .i64 0] 147 (0, 0))))))
  case atStart => exact ⟨0, rfl, Nat.zero_le _, by omega, .inl ⟨by have := HM.out.1; omega, rfl, none, 0, ⟨⟨World.ownsRow_nil _ _ _ _, (fun ad e => by cases e), Kept.refl _ _, HS.out, heap_lt HS.out⟩⟩⟩⟩
  case round =>
    obtain ⟨i, rfl, hi, hkx, ⟨hlt, rfl, A2, c2, D⟩ | ⟨rfl, D⟩⟩ := hrel
    · have hiz : (i : Int) < (n : Int) := by omega
      have hin : i < L.length := by rw [HN.out]; exact hlt
      obtain ⟨ad, rfl, -, ca⟩ := HB.out.1.at_ (i := i) hin
      have cb := D.out.kept.cellN (by have := HB.out.2 ad rfl; unfold Addr.add; split <;> exact this) ca
      obtain ⟨x0, hx0⟩ : ∃ x0, L[i] = x0 := ⟨_, rfl⟩
      rw [hx0] at cb
      have htk : L.take (i + 1) = L.take i ++ [x0] := by rw [List.take_add_one, List.getElem?_eq_getElem hin, hx0]; rfl
      obtain ⟨A4, c4, wB, ha, hsB, hD⟩ := D.out.app (by omega) x0 23
      have hs1 := D.out.str
      replace hs1 : wr.heap[sb]? = some (.cells #[.int .i64 dir, .slice A2 i c2, .int .i64 0] 147 (0, 0)) := hs1
      have e1 : wr.cell? ⟨sb, 1, none⟩ = some (.slice A2 i c2) := by rw [cell_of_row wr sb 1 _ 147 (0, 0) hs1]; rfl
      have e2 : wr.cell? ⟨sb, 2, none⟩ = some (.int .i64 0) := by rw [cell_of_row wr sb 2 _ 147 (0, 0) hs1]; rfl
      rw [← htk] at hD
      have HX : Aside0 _ := ⟨hD⟩
      clear ca hx0 hD htk hs1
      go_upto_region 8 with (first
        | (refine wpList_app rfl (.tmp 31) (.tmp 33) 23 23 rfl (some 34) rfl (.slice A2 i c2) (.slice (some ⟨wr.heap.size, 0, none⟩) 1 1) rfl rfl (.slice A4 (i + 1) c4) wB ha ?_)
        | (refine wpList_plain rfl fun _ hK => wp_store_cell 23 (.tmp 36) (.tmp 34) rfl sb 1 (.slice A4 (i + 1) c4) rfl rfl rfl 147 _ hsB (show 1 < 3 by decide) (by kernel_rfl) (hK _ _ ?_)))
      clear ha hsB e1 e2 cb D
      have hD := HX.out
      generalize wB.setCell ⟨sb, 1, none⟩ (.slice A4 (i + 1) c4) = W at *
      have hs1 := hD.str
      replace hs1 : W.heap[sb]? = some (.cells #[.int .i64 dir, .slice A4 (i + 1) c4, .int .i64 0] 147 (0, 0)) := hs1
      have hBy := hD.by_ (by omega)
      have HD : Aside0 _ := ⟨hD⟩
      by_cases hlast : i + 1 = n
      · have htk : L.take (i + 1) = L := List.take_of_length_le (by rw [HN.out]; omega)
        have hnx := next_whole W sb (i + 1) c4 dir 0 A4 _ m hs1 hBy (by have := HM.out.1; omega) HM.out.2 (HP.out.2 (i + 1) (by have := HM.out.1; omega))
        rw [htk] at hBy
        have HLS : Aside0 _ := ⟨hlast⟩
        have eg : ∀ args w, (callFunc 225 args).run Tryz.prog w = .ok (.enter 225 args) w := enters_of Tryz.func225 (by kernel_rfl) rfl
        have hwh := fun W2 (q : Kept W W2 (fun _ => False)) => whole_calls (dir := dir) (u := u) (t := t) (x := x) HP.out.1 W2 sb (i + 1) c4 A4 (q.heap hs1 (fun h => h)) (hBy.keep q)
        have hn1 := neq118
        clear hBy hlast htk hD hs1
        go_upto_region 10 with (first
          | (go_at_call 221; with_reducible refine hnx.mono ?_; rintro e w3 ⟨rfl, k3⟩; clear hnx))
        go_wp2_with (first
          | (with_reducible refine (hwh _ k3).mono ?_; rintro e w4 ⟨pb, ds, rfl, hpb, hds, hf4, hD4, hs4, k4⟩; obtain ⟨A5, c5, W5, ha5, ho5, hn5, k5⟩ := piece_app w4 pb 1 (u := u) (t := t) hds (all_oneCell_toArray (k35.K_one (hD4 w4 (Kept.refl _ _)))) (row_of_heap (pcl_len hds) hf4) 74)
          | (refine wpList_app rfl (.tmp 41) (.tmp 43) 74 74 rfl (some 44) rfl (.slice none 0 0) (.slice (some ⟨pb, 0, none⟩) 1 1) rfl rfl (.slice A5 1 c5) W5 ha5 ?_))
        go_roundg (n - (i + 1))
        case measure => omega
        case rel =>
          have hsz := HD.out.kept.size
          have hsz3 := k3.size
          refine ⟨i + 1, by go_num, by omega, by omega, .inr ⟨HLS.out, ⟨⟨_, ds, rfl, ho5, fun b hb => ?_, hds, fun W2 q => hD4 W2 (k5.trans q (fun _ _ h => h.elim) (fun b _ h => by have h2 : b < w.heap.size := h; show b < w3.heap.size; omega)), ((HD.out.kept.trans k3 (fun _ _ h => h) (fun _ _ h => h.elim)).trans k4 (fun _ _ h => h) (fun _ _ h => h)).trans k5 (fun _ _ h => h) (fun _ _ h => h.elim)⟩, k5.heap hs4 (fun h => h)⟩⟩⟩
          have := hn5 b hb
          have := k4.size
          omega
      · have hlt2 : i + 1 < n := by omega
        have hnx := next_none W sb (i + 1) c4 dir 0 A4 _ m hs1 hBy (by have := HM.out.1; omega) HM.out.2 (HP.out.2 (i + 1))
        have hn1 := neq118n
        clear hBy hD hs1
        go_wp2_with (go_at_call 221; with_reducible refine hnx.mono ?_; rintro e w3 ⟨rfl, k3⟩; clear hnx)
        go_roundg (n - (i + 1))
        case measure => omega
        case rel => exact ⟨i + 1, by go_num, by omega, by omega, .inl ⟨hlt2, rfl, A4, c4, ⟨⟨k3.owns HD.out.row (fun _ _ h => h), HD.out.new, HD.out.kept.trans k3 (fun _ _ h => h) (fun _ _ h => h.elim), k3.heap HD.out.str (fun h => h), HD.out.low⟩⟩⟩⟩
    · have hge : ¬ ((i : Int) < (i : Int)) := by omega
      go_wp2
      go_ret
      exact D.out
end Go.Proofs.YtmbjlondehcheaaGreatDoor
end
section
set_option linter.unusedSimpArgs false
set_option linter.unusedVariables false
namespace Go.Proofs.YtmbjlondehcheaaGreatDoor
open Go.Shelf Go.RowKit Go.Lib Go.Sort Go.Proofs.YtmbjlondehcheaaGreatDoorW.PrintWords Go.Proofs.YtmbjlondehcheaaGreatDoorW.PrintLast Go.Proofs.YtmbjlondehcheaaGreatDoor.PTopTalk
theorem row_form {w : World} {e : TypeId} {k : Nat} {v : Value} {xs : List Value} (h : w.ownsRow 0 e k v 1 xs) : ∃ g c, v = .slice (some ⟨g, 0, none⟩) 1 c := by
  rcases h.2 with ⟨_, h0⟩ | ⟨g, cap, _, hv, _⟩
  · omega
  · exact ⟨g, cap, hv⟩
structure StrI (ty T : Nat) (cs : Array Value) (W : World) (stb sb : Nat) : Prop where
  box : W.heap[stb]? = some (.cells #[.iface ty (.pointer (some ⟨sb, 0, none⟩))] 104 (0, 0))
  str : W.heap[sb]? = some (.cells cs T (0, 0))
abbrev cs0 (dir : Int) : Array Value := #[.int .i64 dir, .slice none 0 0, .bool false]
abbrev cs1 (dir : Int) : Array Value := #[.int .i64 dir, .slice none 0 0]
abbrev cs2 (dir : Int) : Array Value := #[.int .i64 dir, .slice none 0 0, .int .i64 0]
set_option maxHeartbeats 400000 in
set_option maxRecDepth 1000000 in
theorem strNew0 {dir : Int} (hdir : dir = 0 ∨ dir = 1) (w : World) : Calls Tryz.prog 14 #[.int .i64 0, .int .i64 dir] w fun r w' => ∃ stb sb, r = .returned (.pointer (some ⟨stb, 0, none⟩)) ∧ StrI 99 143 (cs0 dir) w' stb sb ∧ w.heap.size ≤ sb ∧ w.heap.size ≤ stb ∧ stb ≠ sb ∧ Kept w w' (fun _ => False) := by
  have hm := aduMost0 w
  have hn := fun W => srtuNew hdir W
  rcases hdir with rfl | rfl
  all_goals
    go_enter Tryz.func14, Tryz.ntmps14
    go_wp2_with (first
      | (go_at_call 29; with_reducible refine hm.mono ?_; rintro e w1 ⟨rfl, k1⟩; clear hm)
      | (go_at_call 30; with_reducible refine (hn _).mono ?_; rintro e w2 ⟨rfl, hh, k2⟩; clear hn))
    go_ret
    have q := Kept.alloc w2 (.cells #[.iface 99 (.pointer (some ⟨w1.heap.size, 0, none⟩))] 104) (fun _ => False)
    have hl := heap_lt hh
    have hk := k1.size
    exact ⟨_, _, rfl, ⟨heap_alloc_new _ _, q.heap hh (fun h => h)⟩, hk, by omega, by omega, (k1.trans k2 (H := fun _ => False) (fun _ _ h => h) (fun _ _ h => h)).trans q (fun _ _ h => h) (fun _ _ h => h)⟩
set_option maxHeartbeats 400000 in
set_option maxRecDepth 1000000 in
theorem strNew1 {dir : Int} (hdir : dir = 0 ∨ dir = 1) (w : World) : Calls Tryz.prog 14 #[.int .i64 1, .int .i64 dir] w fun r w' => ∃ stb sb, r = .returned (.pointer (some ⟨stb, 0, none⟩)) ∧ StrI 105 145 (cs1 dir) w' stb sb ∧ w.heap.size ≤ sb ∧ w.heap.size ≤ stb ∧ stb ≠ sb ∧ Kept w w' (fun _ => False) := by
  have hm := aduMost1 w
  have hn := fun W => sascNew hdir W
  rcases hdir with rfl | rfl
  all_goals
    go_enter Tryz.func14, Tryz.ntmps14
    go_wp2_with (first
      | (go_at_call 29; with_reducible refine hm.mono ?_; rintro e w1 ⟨rfl, k1⟩; clear hm)
      | (go_at_call 31; with_reducible refine (hn _).mono ?_; rintro e w2 ⟨rfl, hh, k2⟩; clear hn))
    go_ret
    have q := Kept.alloc w2 (.cells #[.iface 105 (.pointer (some ⟨w1.heap.size, 0, none⟩))] 104) (fun _ => False)
    have hl := heap_lt hh
    have hk := k1.size
    exact ⟨_, _, rfl, ⟨heap_alloc_new _ _, q.heap hh (fun h => h)⟩, hk, by omega, by omega, (k1.trans k2 (H := fun _ => False) (fun _ _ h => h) (fun _ _ h => h)).trans q (fun _ _ h => h) (fun _ _ h => h)⟩
set_option maxHeartbeats 400000 in
set_option maxRecDepth 1000000 in
theorem strNew2 {dir : Int} (hdir : dir = 0 ∨ dir = 1) (w : World) : Calls Tryz.prog 14 #[.int .i64 2, .int .i64 dir] w fun r w' => ∃ stb sb, r = .returned (.pointer (some ⟨stb, 0, none⟩)) ∧ StrI 107 147 (cs2 dir) w' stb sb ∧ w.heap.size ≤ sb ∧ w.heap.size ≤ stb ∧ stb ≠ sb ∧ Kept w w' (fun _ => False) := by
  have hm := aduMost2 w
  have hn := fun W => smbapNew hdir W
  rcases hdir with rfl | rfl
  all_goals
    go_enter Tryz.func14, Tryz.ntmps14
    go_wp2_with (first
      | (go_at_call 29; with_reducible refine hm.mono ?_; rintro e w1 ⟨rfl, k1⟩; clear hm)
      | (go_at_call 32; with_reducible refine (hn _).mono ?_; rintro e w2 ⟨rfl, hh, k2⟩; clear hn))
    go_ret
    have q := Kept.alloc w2 (.cells #[.iface 107 (.pointer (some ⟨w1.heap.size, 0, none⟩))] 104) (fun _ => False)
    have hl := heap_lt hh
    have hk := k1.size
    exact ⟨_, _, rfl, ⟨heap_alloc_new _ _, q.heap hh (fun h => h)⟩, hk, by omega, by omega, (k1.trans k2 (H := fun _ => False) (fun _ _ h => h) (fun _ _ h => h)).trans q (fun _ _ h => h) (fun _ _ h => h)⟩
set_option maxHeartbeats 1000000 in
set_option maxRecDepth 1000000 in
theorem strTake0 {dir u t : Int} {p : List Int} {x : S35} (h : FrP 110 rtuB dir u t p x) (hpl : p.length ≤ 253) (w : World) (stb sb : Nat) (hI : StrI 99 143 (cs0 dir) w stb sb) (hne : stb ≠ sb) (v : Value) (hB : By w v (rtuB u t p)) : Calls Tryz.prog 16 #[(.pointer (some ⟨stb, 0, none⟩)), .agg #[v, .bool true]] w fun r w' => Piece w w' r u t x (fun b => b = sb) ∧ StrI 99 143 (cs0 dir) w' stb sb := by
  have hL0 := rtuB_len u t p
  obtain ⟨L, hL⟩ : ∃ L, rtuB u t p = L := ⟨_, rfl⟩
  have HT : Aside0 (∀ (w : World) (sb : Nat) (A : Option Addr) (c : Nat), w.heap[sb]? = some (.cells #[.int .i64 dir, .slice A L.length c, .bool false] 143 (0, 0)) → By w (.slice A L.length c) L → (∀ ad, A = some ad → ad.block ≠ sb) → Calls Tryz.prog 109 #[(.pointer (some ⟨sb, 0, none⟩))] w fun r w' => Piece w w' r u t x (fun b => b = sb) ∧ w'.heap[sb]? = some (.cells #[.int .i64 dir, .slice none 0 0, .bool false] 143 (0, 0))) := ⟨fun w sb A c => by rw [← hL]; exact srtuTick h w sb A c⟩
  rw [hL] at hB hL0
  clear h
  obtain ⟨A, c, rfl, -⟩ := hB.len
  have q1 := Kept.alloc w (.cells #[.slice A L.length c, .bool true] 45) (fun _ => False)
  have f1 := heap_alloc_new w (.cells #[.slice A L.length c, .bool true] 45)
  have hp := fun W (q : Kept (w.alloc (.cells #[.slice A L.length c, .bool true] 45)) W (fun _ => False)) => srtuFeed W sb (q.heap (q1.heap hI.str (fun h => h)) (fun h => h)) _ L ((hB.keep q1).keep q) (by omega) (by omega)
  have hbx := q1.heap hI.box (fun h => h)
  have hsl := heap_lt hI.str
  have hm : ∀ w, (method (Tryz.prog.types.size + Made.depth) 99 (.pointer (some ⟨sb, 0, none⟩)) "Feed").run Tryz.prog w = .ok (107, .pointer (some ⟨sb, 0, none⟩)) w := fun w => by kernel_rfl
  have eg : ∀ args w, (callFunc 107 args).run Tryz.prog w = .ok (.enter 107 args) w := enters_of Tryz.func107 (by kernel_rfl) rfl
  have HI : Aside0 _ := ⟨And.intro hI hne⟩
  clear hI hB hpl hL hL0
  generalize L.length = n at *
  go_enter Tryz.func16, Tryz.ntmps16
  go_upto_region 1 with fail
  generalize w.alloc (.cells #[.slice A n c, .bool true] 45) = w1 at *
  have hn1 : ¬ w.heap.size = sb := by omega
  have hpb : Aside0 (w.heap.size ≤ w1.heap.size) := ⟨q1.size⟩
  generalize w.heap.size = pb at *
  have c0 : w1.cell? ⟨stb, 0, none⟩ = some (.iface 99 (.pointer (some ⟨sb, 0, none⟩))) := by rw [cell_of_row w1 stb 0 _ 104 (0, 0) hbx]; rfl
  have c1 : w1.cell? ⟨pb, 0, none⟩ = some (.slice A n c) := by rw [cell_of_row w1 pb 0 _ 45 (0, 0) f1]; rfl
  have c2 : w1.cell? ⟨pb, 1, none⟩ = some (.bool true) := by rw [cell_of_row w1 pb 1 _ 45 (0, 0) f1]; rfl
  have hn0 : ¬ stb = sb := hne
  have S0 := Kept.drew w1 (fun b => b = sb)
  refine st 8 (fun w' => Kept w1 w' (fun b => b = sb)) [] S0 ?_
  refine pu 0 (some 8) (mk 8 1) ?_
  refine pu 1 (some 9) (mk 8 3) ?_
  refine pu 2 (some 10) (mk 8 7) ?_
  refine ld 3 (some 11) (mk 8 15) S0 ?_ (hy := .inl ⟨by rfl, by intro w' hS; have q1 := hS.cellN hn0 c0; have q2 := hS.cellN hn1 c1; go_simp; with_reducible rfl⟩)
  refine pu 4 (some 12) (mk 8 31) ?_
  refine ld 5 (some 13) (mk 8 63) S0 ?_ (hy := .inl ⟨by rfl, by intro w' hS; have q1 := hS.cellN hn0 c0; have q2 := hS.cellN hn1 c1; go_simp; with_reducible rfl⟩)
  refine cli 6 (some 14) (mk 8 127) (hp w1.drew (Kept.drew w1 _)) (hm _) (eg _ _) ?_
  rintro e w2 ⟨rfl, A2, c2', hs2, hB2, hnew, k2⟩
  have S1 := S0.trans k2 (H := fun b => b = sb) (fun _ _ h => h) (fun _ _ h => h)
  refine ⟨_, rfl, S1, nm ?_⟩
  refine pu 7 (some 5) (mk 8 255) ?_
  refine done_ (by kernel_rfl) ?_
  have c0' := S1.cellN hn0 c0
  have c2a := S1.cellN hn1 c2
  have hta : ∀ w, (Instr.typeAssert (.iface 99 (.pointer (some ⟨sb, 0, none⟩))) 102 116 true).run Tryz.prog w = .ok (.tuple #[.iface 99 (.pointer (some ⟨sb, 0, none⟩)), .bool true]) w := fun w => run_typeAssert_hasB Tryz.underlying116 (by kernel_rfl) _ _ w
  have htk := HT.out w2 sb A2 c2' hs2 hB2 (fun ad e => by have := hnew ad e; have h1 : w1.drew.heap.size = w1.heap.size := rfl; have := hpb.out; have := heap_lt HI.out.1.str; omega)
  have hm2 : ∀ w, (method 402 99 (.pointer (some ⟨sb, 0, none⟩)) "Tick").run Tryz.prog w = .ok (109, .pointer (some ⟨sb, 0, none⟩)) w := fun w => by kernel_rfl
  have eg2 : ∀ args w, (callFunc 109 args).run Tryz.prog w = .ok (.enter 109 args) w := enters_of Tryz.func109 (by kernel_rfl) rfl
  have K1 : Aside0 _ := ⟨And.intro q1 S1⟩
  clear S0 S1 hs2 k2 c0 c1 c2 hm q1 hB2 hnew f1 hbx hp
  go_wp2_with fail
  refine htk.mono ?_
  rintro e w3 ⟨hPc, hs3⟩
  obtain ⟨vp, ds, rfl, hrow, hnew, hds, hD, k3⟩ := hPc
  obtain ⟨g, cp, rfl⟩ := row_form hrow
  obtain ⟨A5, c5, W5, ha5, ho5, hn5, k5⟩ := piece_app w3 g cp (u := u) (t := t) hds (all_oneCell_toArray (k35.K_one (hD w3 (Kept.refl _ _)))) hrow 74
  go_wp2_with (first
    | (refine wpList_app rfl (.tmp 28) (.tmp 30) 74 74 rfl (some 31) rfl (.slice none 0 0) (.slice (some ⟨g, 0, none⟩) 1 cp) rfl rfl (.slice A5 1 c5) W5 ha5 ?_))
  go_ret
  obtain ⟨q1, S1⟩ := K1.out
  have hsz := q1.size
  have hsz2 : w1.drew.heap.size = w1.heap.size := rfl
  have hs2 := S1.size
  have hs3' := k3.size
  have SS := ((q1.trans S1 (H := fun b => b = sb) (fun _ _ h => h.elim) (fun _ _ h => h)).trans k3 (H := fun b => b = sb) (fun _ _ h => h) (fun _ _ h => h)).trans k5 (H := fun b => b = sb) (fun _ _ h => h) (fun _ _ h => h.elim)
  exact ⟨⟨_, ds, rfl, ho5, fun b hb => by have := hn5 b hb; omega, hds, fun W q => hD W (k5.trans q (fun _ _ h => h.elim) (fun b _ h => by have h2 : b < w.heap.size := h; show b < w2.heap.size; omega)), SS⟩, SS.heap HI.out.1.box (fun e => HI.out.2 e), k5.heap hs3 (fun h => h)⟩
set_option maxHeartbeats 1000000 in
set_option maxRecDepth 1000000 in
theorem strTake1 {dir u t : Int} {L : List Int} {x : S35} (hF : ∀ (w : World) (sb : Nat), w.heap[sb]? = some (.cells (cs1 dir) 145 (0, 0)) → ∀ v : Value, By w v L → (∀ A n c ad, v = .slice A n c → A = some ad → ad.block ≠ sb) → Calls Tryz.prog 203 #[(.pointer (some ⟨sb, 0, none⟩)), v] w fun r w' => Piece w w' r u t x (fun b => b = sb) ∧ w'.heap[sb]? = some (.cells (cs1 dir) 145 (0, 0)))
    (w : World) (stb sb : Nat) (hI : StrI 105 145 (cs1 dir) w stb sb) (hne : stb ≠ sb) (v : Value) (hB : By w v L) (hv : ∀ A n c ad, v = .slice A n c → A = some ad → ad.block ≠ sb) (τ : Bool) : Calls Tryz.prog 16 #[(.pointer (some ⟨stb, 0, none⟩)), .agg #[v, .bool τ]] w fun r w' => Piece w w' r u t x (fun b => b = sb) ∧ StrI 105 145 (cs1 dir) w' stb sb := by
  obtain ⟨A, c, rfl, -⟩ := hB.len
  have q1 := Kept.alloc w (.cells #[.slice A L.length c, .bool τ] 45) (fun _ => False)
  have f1 := heap_alloc_new w (.cells #[.slice A L.length c, .bool τ] 45)
  have hp := fun W (q : Kept (w.alloc (.cells #[.slice A L.length c, .bool τ] 45)) W (fun _ => False)) => hF W sb (q.heap (q1.heap hI.str (fun h => h)) (fun h => h)) _ ((hB.keep q1).keep q) hv
  have hbx := q1.heap hI.box (fun h => h)
  have hsl := heap_lt hI.str
  have hm : ∀ w, (method (Tryz.prog.types.size + Made.depth) 105 (.pointer (some ⟨sb, 0, none⟩)) "Feed").run Tryz.prog w = .ok (203, .pointer (some ⟨sb, 0, none⟩)) w := fun w => by kernel_rfl
  have eg : ∀ args w, (callFunc 203 args).run Tryz.prog w = .ok (.enter 203 args) w := enters_of Tryz.func203 (by kernel_rfl) rfl
  have HI : Aside0 _ := ⟨And.intro hI hne⟩
  clear hI hB hF
  generalize L.length = n at *
  go_enter Tryz.func16, Tryz.ntmps16
  go_upto_region 1 with fail
  generalize w.alloc (.cells #[.slice A n c, .bool τ] 45) = w1 at *
  have hn1 : ¬ w.heap.size = sb := by omega
  have hpb : Aside0 (w.heap.size ≤ w1.heap.size) := ⟨q1.size⟩
  generalize w.heap.size = pb at *
  have c0 : w1.cell? ⟨stb, 0, none⟩ = some (.iface 105 (.pointer (some ⟨sb, 0, none⟩))) := by rw [cell_of_row w1 stb 0 _ 104 (0, 0) hbx]; rfl
  have c1 : w1.cell? ⟨pb, 0, none⟩ = some (.slice A n c) := by rw [cell_of_row w1 pb 0 _ 45 (0, 0) f1]; rfl
  have c2 : w1.cell? ⟨pb, 1, none⟩ = some (.bool τ) := by rw [cell_of_row w1 pb 1 _ 45 (0, 0) f1]; rfl
  have hn0 : ¬ stb = sb := hne
  have S0 := Kept.drew w1 (fun b => b = sb)
  refine st 8 (fun w' => Kept w1 w' (fun b => b = sb)) [] S0 ?_
  refine pu 0 (some 8) (mk 8 1) ?_
  refine pu 1 (some 9) (mk 8 3) ?_
  refine pu 2 (some 10) (mk 8 7) ?_
  refine ld 3 (some 11) (mk 8 15) S0 ?_ (hy := .inl ⟨by rfl, by intro w' hS; have q1 := hS.cellN hn0 c0; have q2 := hS.cellN hn1 c1; go_simp; with_reducible rfl⟩)
  refine pu 4 (some 12) (mk 8 31) ?_
  refine ld 5 (some 13) (mk 8 63) S0 ?_ (hy := .inl ⟨by rfl, by intro w' hS; have q1 := hS.cellN hn0 c0; have q2 := hS.cellN hn1 c1; go_simp; with_reducible rfl⟩)
  refine cli 6 (some 14) (mk 8 127) (hp w1.drew (Kept.drew w1 _)) (hm _) (eg _ _) ?_
  rintro e w2 ⟨hPc, hs2⟩
  obtain ⟨vp, ds, rfl, hrow, hnew, hds, hD, k2⟩ := hPc
  have S1 := S0.trans k2 (H := fun b => b = sb) (fun _ _ h => h) (fun _ _ h => h)
  refine ⟨_, rfl, S1, nm ?_⟩
  refine pu 7 (some 5) (mk 8 255) ?_
  refine done_ (by kernel_rfl) ?_
  have c0' := S1.cellN hn0 c0
  have FIN : Aside0 _ := ⟨And.intro hrow (And.intro hnew (And.intro hds (And.intro hD (And.intro S1 hs2))))⟩
  have hta : ∀ w, (Instr.typeAssert (.iface 105 (.pointer (some ⟨sb, 0, none⟩))) 102 116 true).run Tryz.prog w = .ok (.tuple #[.nilIface, .bool false]) w := fun w => run_typeAssert_lacksB Tryz.underlying116 (by kernel_rfl) (by kernel_rfl) _ _ w
  have K1 : Aside0 _ := ⟨q1⟩
  clear hrow hnew hds hD S0 S1 hs2 k2 hp c0 c1 c2 hm q1
  go_wp2
  go_ret
  obtain ⟨hrow, hnew, hds, hD, S1, hs2⟩ := FIN.out
  have hsz := K1.out.size
  have hsz2 : w1.drew.heap.size = w1.heap.size := rfl
  have SS := K1.out.trans S1 (H := fun b => b = sb) (fun _ _ h => h.elim) (fun _ _ h => h)
  exact ⟨⟨vp, ds, rfl, hrow, fun b hb => by have := hnew b hb; omega, hds, fun W q => hD W (q.mono fun b _ h => by have h2 : b < w.heap.size := h; show b < w1.drew.heap.size; omega), SS⟩, SS.heap HI.out.1.box (fun e => HI.out.2 e), hs2⟩
set_option maxHeartbeats 1000000 in
set_option maxRecDepth 1000000 in
theorem strTake2 {dir u t : Int} {L : List Int} {x : S35} (hF : ∀ (w : World) (sb : Nat), w.heap[sb]? = some (.cells (cs2 dir) 147 (0, 0)) → ∀ v : Value, By w v L → (∀ A n c ad, v = .slice A n c → A = some ad → ad.block ≠ sb) → Calls Tryz.prog 219 #[(.pointer (some ⟨sb, 0, none⟩)), v] w fun r w' => Piece w w' r u t x (fun b => b = sb) ∧ w'.heap[sb]? = some (.cells (cs2 dir) 147 (0, 0)))
    (w : World) (stb sb : Nat) (hI : StrI 107 147 (cs2 dir) w stb sb) (hne : stb ≠ sb) (v : Value) (hB : By w v L) (hv : ∀ A n c ad, v = .slice A n c → A = some ad → ad.block ≠ sb) (τ : Bool) : Calls Tryz.prog 16 #[(.pointer (some ⟨stb, 0, none⟩)), .agg #[v, .bool τ]] w fun r w' => Piece w w' r u t x (fun b => b = sb) ∧ StrI 107 147 (cs2 dir) w' stb sb := by
  obtain ⟨A, c, rfl, -⟩ := hB.len
  have q1 := Kept.alloc w (.cells #[.slice A L.length c, .bool τ] 45) (fun _ => False)
  have f1 := heap_alloc_new w (.cells #[.slice A L.length c, .bool τ] 45)
  have hp := fun W (q : Kept (w.alloc (.cells #[.slice A L.length c, .bool τ] 45)) W (fun _ => False)) => hF W sb (q.heap (q1.heap hI.str (fun h => h)) (fun h => h)) _ ((hB.keep q1).keep q) hv
  have hbx := q1.heap hI.box (fun h => h)
  have hsl := heap_lt hI.str
  have hm : ∀ w, (method (Tryz.prog.types.size + Made.depth) 107 (.pointer (some ⟨sb, 0, none⟩)) "Feed").run Tryz.prog w = .ok (219, .pointer (some ⟨sb, 0, none⟩)) w := fun w => by kernel_rfl
  have eg : ∀ args w, (callFunc 219 args).run Tryz.prog w = .ok (.enter 219 args) w := enters_of Tryz.func219 (by kernel_rfl) rfl
  have HI : Aside0 _ := ⟨And.intro hI hne⟩
  clear hI hB hF
  generalize L.length = n at *
  go_enter Tryz.func16, Tryz.ntmps16
  go_upto_region 1 with fail
  generalize w.alloc (.cells #[.slice A n c, .bool τ] 45) = w1 at *
  have hn1 : ¬ w.heap.size = sb := by omega
  have hpb : Aside0 (w.heap.size ≤ w1.heap.size) := ⟨q1.size⟩
  generalize w.heap.size = pb at *
  have c0 : w1.cell? ⟨stb, 0, none⟩ = some (.iface 107 (.pointer (some ⟨sb, 0, none⟩))) := by rw [cell_of_row w1 stb 0 _ 104 (0, 0) hbx]; rfl
  have c1 : w1.cell? ⟨pb, 0, none⟩ = some (.slice A n c) := by rw [cell_of_row w1 pb 0 _ 45 (0, 0) f1]; rfl
  have c2 : w1.cell? ⟨pb, 1, none⟩ = some (.bool τ) := by rw [cell_of_row w1 pb 1 _ 45 (0, 0) f1]; rfl
  have hn0 : ¬ stb = sb := hne
  have S0 := Kept.drew w1 (fun b => b = sb)
  refine st 8 (fun w' => Kept w1 w' (fun b => b = sb)) [] S0 ?_
  refine pu 0 (some 8) (mk 8 1) ?_
  refine pu 1 (some 9) (mk 8 3) ?_
  refine pu 2 (some 10) (mk 8 7) ?_
  refine ld 3 (some 11) (mk 8 15) S0 ?_ (hy := .inl ⟨by rfl, by intro w' hS; have q1 := hS.cellN hn0 c0; have q2 := hS.cellN hn1 c1; go_simp; with_reducible rfl⟩)
  refine pu 4 (some 12) (mk 8 31) ?_
  refine ld 5 (some 13) (mk 8 63) S0 ?_ (hy := .inl ⟨by rfl, by intro w' hS; have q1 := hS.cellN hn0 c0; have q2 := hS.cellN hn1 c1; go_simp; with_reducible rfl⟩)
  refine cli 6 (some 14) (mk 8 127) (hp w1.drew (Kept.drew w1 _)) (hm _) (eg _ _) ?_
  rintro e w2 ⟨hPc, hs2⟩
  obtain ⟨vp, ds, rfl, hrow, hnew, hds, hD, k2⟩ := hPc
  have S1 := S0.trans k2 (H := fun b => b = sb) (fun _ _ h => h) (fun _ _ h => h)
  refine ⟨_, rfl, S1, nm ?_⟩
  refine pu 7 (some 5) (mk 8 255) ?_
  refine done_ (by kernel_rfl) ?_
  have c0' := S1.cellN hn0 c0
  have FIN : Aside0 _ := ⟨And.intro hrow (And.intro hnew (And.intro hds (And.intro hD (And.intro S1 hs2))))⟩
  have hta : ∀ w, (Instr.typeAssert (.iface 107 (.pointer (some ⟨sb, 0, none⟩))) 102 116 true).run Tryz.prog w = .ok (.tuple #[.nilIface, .bool false]) w := fun w => run_typeAssert_lacksB Tryz.underlying116 (by kernel_rfl) (by kernel_rfl) _ _ w
  have K1 : Aside0 _ := ⟨q1⟩
  clear hrow hnew hds hD S0 S1 hs2 k2 hp c0 c1 c2 hm q1
  go_wp2
  go_ret
  obtain ⟨hrow, hnew, hds, hD, S1, hs2⟩ := FIN.out
  have hsz := K1.out.size
  have hsz2 : w1.drew.heap.size = w1.heap.size := rfl
  have SS := K1.out.trans S1 (H := fun b => b = sb) (fun _ _ h => h.elim) (fun _ _ h => h)
  exact ⟨⟨vp, ds, rfl, hrow, fun b hb => by have := hnew b hb; omega, hds, fun W q => hD W (q.mono fun b _ h => by have h2 : b < w.heap.size := h; show b < w1.drew.heap.size; omega), SS⟩, SS.heap HI.out.1.box (fun e => HI.out.2 e), hs2⟩
end Go.Proofs.YtmbjlondehcheaaGreatDoor
end
