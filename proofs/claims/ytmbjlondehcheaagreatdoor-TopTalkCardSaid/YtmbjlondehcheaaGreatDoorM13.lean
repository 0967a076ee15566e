/- TopTalk: part 13 of the walks: of HRegs, HRegP, HWr. -/
import Derived.Test.YtmbjlondehcheaaGreatDoorM12
section
set_option linter.unusedSimpArgs false
set_option linter.unusedVariables false
namespace Go.Proofs.YtmbjlondehcheaaGreatDoor
open Go.Shelf Go.RowKit Go.Lib Go.Sort Go.Proofs.YtmbjlondehcheaaGreatDoorW.PrintWords Go.Proofs.YtmbjlondehcheaaGreatDoorW.PrintLast Go.Proofs.YtmbjlondehcheaaGreatDoor.PTopTalk
def rspan (s : St) (a most : Int) : Int × St := (s.word.1, (s.word.2.need (decide (1 ≤ s.word.1) && decide (s.word.1 ≤ most)) 5).need (within a s.word.1) 7)
set_option maxHeartbeats 1000000 in
set_option maxRecDepth 1000000 in
theorem rspan_calls (w : World) (cb : Nat) (s : St) {G : Nat → Prop} (h : Cur w G cb s) (hl : s.b.length ≤ 100000) (a most : Int) : Calls Tryz.prog 173 #[(.pointer (some ⟨cb, 0, none⟩)), .int .u16 a, .int .i64 most] w fun r w' => r = .returned (.int .i64 (rspan s a most).1) ∧ Cur w' G cb (rspan s a most).2 ∧ Kept w w' (fun b => b = cb) := by
  have hb := word_calls w cb s h hl
  obtain ⟨n0, n1⟩ := s.word_lt
  unfold rspan
  generalize s.word = p at *
  obtain ⟨n, s1⟩ := p
  simp only at *
  have n2 : n ≤ 65535 := by omega
  clear n1 h
  go_enter Tryz.func173, Tryz.ntmps173
  go_upto_region 2 with (go_at_call 160; with_reducible refine hb.mono ?_; rintro e w1 ⟨rfl, hC, k1⟩; clear hb)
  have hW := within_calls a n
  have FIN : ∀ ok, (decide (1 ≤ n) && decide (n ≤ most)) = ok → ∀ w2, Cur w2 G cb (s1.need ok 5) → Kept w1 w2 (fun b => b = cb) → ∀ w3, Cur w3 G cb ((s1.need ok 5).need (within a n) 7) → Kept w2 w3 (fun b => b = cb) → Cur w3 G cb ((s1.need (decide (1 ≤ n) && decide (n ≤ most)) 5).need (within a n) 7) ∧ Kept w w3 (fun b => b = cb) := fun ok e w2 _ q w3 h3 q3 => by rw [e]; exact ⟨h3, (k1.trans q (fun _ _ h => h) (fun _ _ h => h)).trans q3 (fun _ _ h => h) (fun _ _ h => h)⟩
  have HC : Aside0 _ := ⟨And.intro hC FIN⟩
  clear hC FIN k1
  by_cases h1 : 1 ≤ n
  · have hn := need_calls w1 cb s1 (decide (n ≤ most)) 5 HC.out.1
    have HE : Aside0 ((decide (1 ≤ n) && decide (n ≤ most)) = decide (n ≤ most)) := ⟨by simp [h1]⟩
    go_upto_region 3 with (go_at_call 150; with_reducible refine hn.mono ?_; rintro e w2 ⟨rfl, hC2, k2⟩; clear hn)
    have hn := need_calls w2 cb _ (within a n) 7 hC2
    have HC2 : Aside0 _ := ⟨HC.out.2 _ HE.out w2 hC2 k2⟩
    clear hC2 k2
    go_wp2_with (first
      | (go_at_call 196; with_reducible refine (hW _).mono ?_; rintro e w3 ⟨rfl, rfl⟩)
      | (go_at_call 150; with_reducible refine hn.mono ?_; rintro e w3 ⟨rfl, hC3, k3⟩; clear hn))
    go_ret
    exact ⟨rfl, HC2.out _ hC3 k3⟩
  · have hn := need_calls w1 cb s1 false 5 HC.out.1
    have HE : Aside0 ((decide (1 ≤ n) && decide (n ≤ most)) = false) := ⟨by simp [h1]⟩
    go_upto_region 3 with (go_at_call 150; with_reducible refine hn.mono ?_; rintro e w2 ⟨rfl, hC2, k2⟩; clear hn)
    have hn := need_calls w2 cb _ (within a n) 7 hC2
    have HC2 : Aside0 _ := ⟨HC.out.2 _ HE.out w2 hC2 k2⟩
    clear hC2 k2
    go_wp2_with (first
      | (go_at_call 196; with_reducible refine (hW _).mono ?_; rintro e w3 ⟨rfl, rfl⟩)
      | (go_at_call 150; with_reducible refine hn.mono ?_; rintro e w3 ⟨rfl, hC3, k3⟩; clear hn))
    go_ret
    exact ⟨rfl, HC2.out _ hC3 k3⟩
theorem rspan_le (s : St) (a most : Int) : (rspan s a most).2.b.length ≤ s.b.length := by unfold rspan; simp only [St.need_b]; exact s.word_le
theorem Q.rspan {W w : World} {G : Nat → Prop} {cb mb : Nat} {E : World → Prop} {s : St} {x : S35} (h : Q W w G cb mb E s x) (a most : Int) : Calls Tryz.prog 173 #[(.pointer (some ⟨cb, 0, none⟩)), .int .u16 a, .int .i64 most] w fun r w' => r = .returned (.int .i64 (rspan s a most).1) ∧ Q W w' G cb mb E (rspan s a most).2 x :=
  (rspan_calls w cb s h.pc.c h.pc.few a most).mono fun _ _ ⟨e, p, k⟩ => ⟨e, h.toc p k (rspan_le _ _ _)⟩
def whereF (most : Int) (s : St) (x : S35) : St × S35 := ((rspan s.word.2 s.word.1 most).2, { x with f2 := s.word.1, f3 := IntKind.u16.wrap (rspan s.word.2 s.word.1 most).1 })
set_option maxHeartbeats 1000000 in
set_option maxRecDepth 1000000 in
theorem where_form (G : Nat → Prop) (cb mb ca ma : Nat) (hca : ¬ Two cb mb ca) (hma : ¬ Two cb mb ma) (most : Int) : Form 172 #[.int .i64 most, (.pointer (some ⟨ca, 0, none⟩)), (.pointer (some ⟨ma, 0, none⟩))] G cb mb (EV cb mb ca ma) (whereF most) := by
  intro w s x p e
  have P0 := Q.start p e (ev_st hca hma)
  unfold whereF
  clear p e hca hma
  go_enter Tryz.func172, Tryz.ntmps172
  go_upto_region 0 with fail
  have P0_0 := P0.drew
  clear P0
  refine st 6 (fun w' => w'.cell? ⟨ca, 0, none⟩ = some (.pointer (some ⟨cb, 0, none⟩)) ∧ w'.cell? ⟨ma, 0, none⟩ = some (.pointer (some ⟨mb, 0, none⟩))) [5] P0_0.e ?_
  refine ld 0 (some 4) (mk 6 1) P0_0.e ?_
  refine ld 1 (some 5) (mk 6 3) P0_0.e ?_
  refine cl 2 (some 6) (mk 6 7) Tryz.func160 (args := #[(.pointer (some ⟨cb, 0, none⟩))]) (P0_0.word) ?_
  rintro e w0_1 ⟨rfl, P0_0_1⟩
  clear P0_0
  refine ⟨_, rfl, P0_0_1.e, nm ?_⟩
  refine pu 3 (some 7) (mk 6 15) ?_
  refine pu 4 (some 8) (mk 6 31) ?_
  have P0_0_105 := P0_0_1.put (P0_0_1.m.s2 s.word.1)
  refine la 5 none (mk 6 63) fun K hK => ?_
  refine wp_store_msg 27 (.tmp 8) (.tmp 6) rfl mb 2 (.int .u16 s.word.1) rfl rfl rfl P0_0_1.m (by decide) (by kernel_rfl) ?_
  refine hK _ _ (nm ?_)
  clear hK K P0_0_1
  refine done_ (by kernel_rfl) ?_
  generalize w0_1.setCell ⟨mb, 2, none⟩ (.int .u16 s.word.1) = w0_105 at *
  have P1 := P0_0_105
  clear P0_0_105
  generalize ha : s.word.1 = a at *
  generalize hs : s.word.2 = s1 at *
  have EA : Aside0 _ := ⟨And.intro ha hs⟩
  clear ha hs
  go_upto_region 1 with fail
  have P1_1 := P1.drew
  clear P1
  refine st 12 (fun w' => (w'.cell? ⟨ca, 0, none⟩ = some (.pointer (some ⟨cb, 0, none⟩)) ∧ w'.cell? ⟨ma, 0, none⟩ = some (.pointer (some ⟨mb, 0, none⟩))) ∧ w'.cell? ⟨mb, 2, none⟩ = some (.int .u16 a)) [11] ⟨P1_1.e, P1_1.m.g2⟩ ?_
  refine ld 0 (some 9) (mk 12 1) ⟨P1_1.e, P1_1.m.g2⟩ ?_
  refine ld 1 (some 10) (mk 12 3) ⟨P1_1.e, P1_1.m.g2⟩ ?_
  refine ld 2 (some 11) (mk 12 7) ⟨P1_1.e, P1_1.m.g2⟩ ?_
  refine pu 3 (some 12) (mk 12 15) ?_
  refine pu 4 (some 13) (mk 12 31) ?_
  refine ld 5 (some 14) (mk 12 63) ⟨P1_1.e, P1_1.m.g2⟩ ?_
  refine pu 6 (some 15) (mk 12 127) ?_
  refine cl 7 (some 16) (mk 12 255) Tryz.func173 (args := #[(.pointer (some ⟨cb, 0, none⟩)), .int .u16 a, .int .i64 most]) (Q.rspan P1_1 a most) ?_
  rintro e w1_1 ⟨rfl, P1_1_1⟩
  clear P1_1
  refine ⟨_, rfl, ⟨P1_1_1.e, P1_1_1.m.g2⟩, nm ?_⟩
  refine pu 8 (some 17) (mk 12 511) ?_
  refine pu 9 (some 18) (mk 12 1023) ?_
  refine pu 10 (some 19) (mk 12 2047) ?_
  have P1_1_111 := P1_1_1.put (P1_1_1.m.s3 (IntKind.u16.wrap (rspan s1 a most).1))
  refine la 11 none (mk 12 4095) fun K hK => ?_
  refine wp_store_msg 27 (.tmp 19) (.tmp 17) rfl mb 3 (.int .u16 (IntKind.u16.wrap (rspan s1 a most).1)) rfl rfl rfl P1_1_1.m (by decide) (by kernel_rfl) ?_
  refine hK _ _ (nm ?_)
  clear hK K P1_1_1
  refine done_ (by kernel_rfl) ?_
  generalize w1_1.setCell ⟨mb, 3, none⟩ (.int .u16 (IntKind.u16.wrap (rspan s1 a most).1)) = w1_111 at *
  have P2 := P1_1_111
  clear P1_1_111
  have FIN : Aside0 _ := ⟨P2⟩
  clear P2
  go_end0
  rw [EA.out.1, EA.out.2]
  exact ⟨rfl, FIN.out.pc, FIN.out.k⟩
abbrev ER (cb mb wb qb ca ma : Nat) (q : Bool) : World → Prop := fun w => EV cb mb ca ma w ∧ w.cell? ⟨wb, 0, none⟩ = some (.func (.func 172) #[] #[(.pointer (some ⟨ca, 0, none⟩)), (.pointer (some ⟨ma, 0, none⟩))]) ∧ w.cell? ⟨qb, 0, none⟩ = some (.bool q)
theorem er_st {cb mb wb qb ca ma : Nat} {q : Bool} (ha : ¬ Two cb mb ca) (hb : ¬ Two cb mb ma) (hw : ¬ Two cb mb wb) (hq : ¬ Two cb mb qb) : ∀ w1 w2, ER cb mb wb qb ca ma q w1 → Kept w1 w2 (Two cb mb) → ER cb mb wb qb ca ma q w2 := fun _ _ h k => ⟨ev_st ha hb _ _ h.1 k, k.cellN hw h.2.1, k.cellN hq h.2.2⟩
theorem Q.where_ {W w : World} {G : Nat → Prop} {cb mb wb qb ca ma : Nat} {q : Bool} {s : St} {x : S35} (h : Q W w G cb mb (ER cb mb wb qb ca ma q) s x) (hca : ¬ Two cb mb ca) (hma : ¬ Two cb mb ma) (most : Int) :
    Calls Tryz.prog 172 #[.int .i64 most, (.pointer (some ⟨ca, 0, none⟩)), (.pointer (some ⟨ma, 0, none⟩))] w fun r w' => r = .returned (.tuple #[]) ∧ Q W w' G cb mb (ER cb mb wb qb ca ma q) (whereF most s x).1 (whereF most s x).2 :=
  (where_form G cb mb ca ma hca hma most w s x h.pc h.e.1).mono fun _ _ ⟨e, p, k⟩ => ⟨e, h.to p k⟩
def counted (s : St) (n : Int) : List Int × St := (s.byte.2.need (wrap64 s.byte.1 == 2 * n) 5).words n
set_option maxHeartbeats 1000000 in
set_option maxRecDepth 1000000 in
theorem Q.cnt {W w : World} {G : Nat → Prop} {cb mb : Nat} {E : World → Prop} {s : St} {x : S35} (h : Q W w G cb mb E s x) (n : Int) (n0 : 0 ≤ n) (n1 : n ≤ 65535) : Calls Tryz.prog 179 #[(.pointer (some ⟨cb, 0, none⟩)), .int .i64 n] w fun r w' => ∃ A c, r = .returned (.slice A (counted s n).1.length c) ∧ Stay .u16 w' G (.slice A (counted s n).1.length c) (counted s n).1 ∧ Q W w' G cb mb E (counted s n).2 x := by
  have hb := h.byte
  unfold counted
  clear h
  generalize hz : wrap64 s.byte.1 = z at *
  go_enter Tryz.func179, Tryz.ntmps179
  go_wp2_with (first
    | (go_at_call 149; with_reducible refine hb.mono ?_; rintro e w1 ⟨rfl, P1⟩; have hn := fun ok => P1.need ok 5; clear hb P1)
    | (go_at_call 150; with_reducible refine (hn _).mono ?_; rintro e w2 ⟨rfl, P2⟩; have hw := P2.words n; clear hn P2)
    | (go_at_call 176; with_reducible refine hw.mono ?_; rintro e w3 ⟨A, c, rfl, hS, P3⟩; clear hw))
  go_ret
  exact ⟨A, c, rfl, hS, P3⟩
theorem u16wrap (n : Int) : 0 ≤ IntKind.u16.wrap n ∧ IntKind.u16.wrap n ≤ 65535 := ⟨(wrap16 n).1, by have := (wrap16 n).2; omega⟩
def oneF (s : St) (x : S35) : St × S35 := (s.word.2.word.2, { x with f2 := s.word.1, f4 := s.word.2.word.1 })
set_option maxHeartbeats 1000000 in
set_option maxRecDepth 1000000 in
theorem one_form (G : Nat → Prop) (cb mb wb qb ca ma : Nat) (hca : ¬ Two cb mb ca) (hma : ¬ Two cb mb ma) (hwb : ¬ Two cb mb wb) (hqb : ¬ Two cb mb qb) : Form 177 #[(.pointer (some ⟨ca, 0, none⟩)), (.pointer (some ⟨ma, 0, none⟩))] G cb mb (ER cb mb wb qb ca ma true) oneF := by
  intro w s x p e
  have P0 := Q.start p e (er_st hca hma hwb hqb)
  unfold oneF
  clear p e hca hma hwb hqb
  go_enter Tryz.func177, Tryz.ntmps177
  go_upto_region 0 with fail
  have P0_0 := P0.drew
  clear P0
  refine st 12 (fun w' => w'.cell? ⟨ca, 0, none⟩ = some (.pointer (some ⟨cb, 0, none⟩)) ∧ w'.cell? ⟨ma, 0, none⟩ = some (.pointer (some ⟨mb, 0, none⟩))) [11] P0_0.e.1 ?_
  refine ld 0 (some 2) (mk 12 1) P0_0.e.1 ?_
  refine ld 1 (some 3) (mk 12 3) P0_0.e.1 ?_
  refine ld 2 (some 4) (mk 12 7) P0_0.e.1 ?_
  refine ld 4 (some 6) (mk 12 23) P0_0.e.1 ?_
  refine cl 3 (some 5) (mk 12 31) Tryz.func160 (args := #[(.pointer (some ⟨cb, 0, none⟩))]) (P0_0.word) ?_
  rintro e w0_1 ⟨rfl, P0_0_1⟩
  clear P0_0
  refine ⟨_, rfl, P0_0_1.e.1, nm ?_⟩
  refine cl 5 (some 7) (mk 12 63) Tryz.func160 (args := #[(.pointer (some ⟨cb, 0, none⟩))]) (P0_0_1.word) ?_
  rintro e w0_2 ⟨rfl, P0_0_2⟩
  clear P0_0_1
  refine ⟨_, rfl, P0_0_2.e.1, nm ?_⟩
  refine pu 6 (some 8) (mk 12 127) ?_
  refine pu 7 (some 9) (mk 12 255) ?_
  have P0_0_108 := P0_0_2.put (P0_0_2.m.s2 s.word.1)
  refine on 8 none (mk 12 511) fun K hK => ?_
  refine wp_store_msg 27 (.tmp 9) (.tmp 5) rfl mb 2 (.int .u16 s.word.1) rfl rfl rfl P0_0_2.m (by decide) (by kernel_rfl) ?_
  refine hK _ _ P0_0_108.e.1 (nm ?_)
  clear hK K P0_0_2
  generalize w0_2.setCell ⟨mb, 2, none⟩ (.int .u16 s.word.1) = w0_108 at *
  refine pu 9 (some 10) (mk 12 1023) ?_
  refine pu 10 (some 11) (mk 12 2047) ?_
  have P0_0_111 := P0_0_108.put (P0_0_108.m.s4 s.word.2.word.1)
  refine la 11 none (mk 12 4095) fun K hK => ?_
  refine wp_store_msg 27 (.tmp 11) (.tmp 7) rfl mb 4 (.int .u16 s.word.2.word.1) rfl rfl rfl P0_0_108.m (by decide) (by kernel_rfl) ?_
  refine hK _ _ (nm ?_)
  clear hK K P0_0_108
  refine done_ (by kernel_rfl) ?_
  generalize w0_108.setCell ⟨mb, 4, none⟩ (.int .u16 s.word.2.word.1) = w0_111 at *
  have P1 := P0_0_111
  clear P0_0_111
  have FIN : Aside0 _ := ⟨P1⟩
  clear P1
  go_end0
  exact ⟨rfl, FIN.out.pc, FIN.out.k⟩
def maskF (s : St) (x : S35) : St × S35 := (s.word.2.word.2.word.2, { x with f2 := s.word.1, f5 := s.word.2.word.1, f6 := s.word.2.word.2.word.1 })
set_option maxHeartbeats 1000000 in
set_option maxRecDepth 1000000 in
theorem mask_form (G : Nat → Prop) (cb mb wb qb ca ma : Nat) (hca : ¬ Two cb mb ca) (hma : ¬ Two cb mb ma) (hwb : ¬ Two cb mb wb) (hqb : ¬ Two cb mb qb) : Form 180 #[(.pointer (some ⟨ca, 0, none⟩)), (.pointer (some ⟨ma, 0, none⟩))] G cb mb (ER cb mb wb qb ca ma true) maskF := by
  intro w s x p e
  have P0 := Q.start p e (er_st hca hma hwb hqb)
  unfold maskF
  clear p e hca hma hwb hqb
  go_enter Tryz.func180, Tryz.ntmps180
  go_upto_region 0 with fail
  have P0_0 := P0.drew
  clear P0
  refine st 18 (fun w' => w'.cell? ⟨ca, 0, none⟩ = some (.pointer (some ⟨cb, 0, none⟩)) ∧ w'.cell? ⟨ma, 0, none⟩ = some (.pointer (some ⟨mb, 0, none⟩))) [17] P0_0.e.1 ?_
  refine ld 0 (some 2) (mk 18 1) P0_0.e.1 ?_
  refine ld 1 (some 3) (mk 18 3) P0_0.e.1 ?_
  refine ld 2 (some 4) (mk 18 7) P0_0.e.1 ?_
  refine ld 3 (some 5) (mk 18 15) P0_0.e.1 ?_
  refine ld 5 (some 7) (mk 18 47) P0_0.e.1 ?_
  refine ld 7 (some 9) (mk 18 175) P0_0.e.1 ?_
  refine cl 4 (some 6) (mk 18 191) Tryz.func160 (args := #[(.pointer (some ⟨cb, 0, none⟩))]) (P0_0.word) ?_
  rintro e w0_1 ⟨rfl, P0_0_1⟩
  clear P0_0
  refine ⟨_, rfl, P0_0_1.e.1, nm ?_⟩
  refine cl 6 (some 8) (mk 18 255) Tryz.func160 (args := #[(.pointer (some ⟨cb, 0, none⟩))]) (P0_0_1.word) ?_
  rintro e w0_2 ⟨rfl, P0_0_2⟩
  clear P0_0_1
  refine ⟨_, rfl, P0_0_2.e.1, nm ?_⟩
  refine cl 8 (some 10) (mk 18 511) Tryz.func160 (args := #[(.pointer (some ⟨cb, 0, none⟩))]) (P0_0_2.word) ?_
  rintro e w0_3 ⟨rfl, P0_0_3⟩
  clear P0_0_2
  refine ⟨_, rfl, P0_0_3.e.1, nm ?_⟩
  refine pu 9 (some 11) (mk 18 1023) ?_
  refine pu 10 (some 12) (mk 18 2047) ?_
  have P0_0_111 := P0_0_3.put (P0_0_3.m.s2 s.word.1)
  refine on 11 none (mk 18 4095) fun K hK => ?_
  refine wp_store_msg 27 (.tmp 12) (.tmp 6) rfl mb 2 (.int .u16 s.word.1) rfl rfl rfl P0_0_3.m (by decide) (by kernel_rfl) ?_
  refine hK _ _ P0_0_111.e.1 (nm ?_)
  clear hK K P0_0_3
  generalize w0_3.setCell ⟨mb, 2, none⟩ (.int .u16 s.word.1) = w0_111 at *
  refine pu 12 (some 13) (mk 18 8191) ?_
  refine pu 13 (some 14) (mk 18 16383) ?_
  have P0_0_114 := P0_0_111.put (P0_0_111.m.s5 s.word.2.word.1)
  refine on 14 none (mk 18 32767) fun K hK => ?_
  refine wp_store_msg 27 (.tmp 14) (.tmp 8) rfl mb 5 (.int .u16 s.word.2.word.1) rfl rfl rfl P0_0_111.m (by decide) (by kernel_rfl) ?_
  refine hK _ _ P0_0_114.e.1 (nm ?_)
  clear hK K P0_0_111
  generalize w0_111.setCell ⟨mb, 5, none⟩ (.int .u16 s.word.2.word.1) = w0_114 at *
  refine pu 15 (some 15) (mk 18 65535) ?_
  refine pu 16 (some 16) (mk 18 131071) ?_
  have P0_0_117 := P0_0_114.put (P0_0_114.m.s6 s.word.2.word.2.word.1)
  refine la 17 none (mk 18 262143) fun K hK => ?_
  refine wp_store_msg 27 (.tmp 16) (.tmp 10) rfl mb 6 (.int .u16 s.word.2.word.2.word.1) rfl rfl rfl P0_0_114.m (by decide) (by kernel_rfl) ?_
  refine hK _ _ (nm ?_)
  clear hK K P0_0_114
  refine done_ (by kernel_rfl) ?_
  generalize w0_114.setCell ⟨mb, 6, none⟩ (.int .u16 s.word.2.word.2.word.1) = w0_117 at *
  have P1 := P0_0_117
  clear P0_0_117
  have FIN : Aside0 _ := ⟨P1⟩
  clear P1
  go_end0
  exact ⟨rfl, FIN.out.pc, FIN.out.k⟩
def queueF (s : St) (x : S35) : St × S35 := (s.word.2, { x with f2 := s.word.1 })
set_option maxHeartbeats 1000000 in
set_option maxRecDepth 1000000 in
theorem queue_form (G : Nat → Prop) (cb mb wb qb ca ma : Nat) (hca : ¬ Two cb mb ca) (hma : ¬ Two cb mb ma) (hwb : ¬ Two cb mb wb) (hqb : ¬ Two cb mb qb) : Form 182 #[(.pointer (some ⟨ca, 0, none⟩)), (.pointer (some ⟨ma, 0, none⟩))] G cb mb (ER cb mb wb qb ca ma true) queueF := by
  intro w s x p e
  have P0 := Q.start p e (er_st hca hma hwb hqb)
  unfold queueF
  clear p e hca hma hwb hqb
  go_enter Tryz.func182, Tryz.ntmps182
  go_upto_region 0 with fail
  have P0_0 := P0.drew
  clear P0
  refine st 6 (fun w' => w'.cell? ⟨ca, 0, none⟩ = some (.pointer (some ⟨cb, 0, none⟩)) ∧ w'.cell? ⟨ma, 0, none⟩ = some (.pointer (some ⟨mb, 0, none⟩))) [5] P0_0.e.1 ?_
  refine ld 0 (some 2) (mk 6 1) P0_0.e.1 ?_
  refine ld 1 (some 3) (mk 6 3) P0_0.e.1 ?_
  refine cl 2 (some 4) (mk 6 7) Tryz.func160 (args := #[(.pointer (some ⟨cb, 0, none⟩))]) (P0_0.word) ?_
  rintro e w0_1 ⟨rfl, P0_0_1⟩
  clear P0_0
  refine ⟨_, rfl, P0_0_1.e.1, nm ?_⟩
  refine pu 3 (some 5) (mk 6 15) ?_
  refine pu 4 (some 6) (mk 6 31) ?_
  have P0_0_105 := P0_0_1.put (P0_0_1.m.s2 s.word.1)
  refine la 5 none (mk 6 63) fun K hK => ?_
  refine wp_store_msg 27 (.tmp 6) (.tmp 4) rfl mb 2 (.int .u16 s.word.1) rfl rfl rfl P0_0_1.m (by decide) (by kernel_rfl) ?_
  refine hK _ _ (nm ?_)
  clear hK K P0_0_1
  refine done_ (by kernel_rfl) ?_
  generalize w0_1.setCell ⟨mb, 2, none⟩ (.int .u16 s.word.1) = w0_105 at *
  have P1 := P0_0_105
  clear P0_0_105
  have FIN : Aside0 _ := ⟨P1⟩
  clear P1
  go_end0
  exact ⟨rfl, FIN.out.pc, FIN.out.k⟩
set_option maxHeartbeats 1000000 in
set_option maxRecDepth 1000000 in
theorem read_form (G : Nat → Prop) (cb mb wb qb ca ma : Nat) (hca : ¬ Two cb mb ca) (hma : ¬ Two cb mb ma) (hwb : ¬ Two cb mb wb) (hqb : ¬ Two cb mb qb) : Form 174 #[(.pointer (some ⟨wb, 0, none⟩))] G cb mb (ER cb mb wb qb ca ma true) (whereF 125) := by
  intro w s x p e
  have P0 := Q.start p e (er_st hca hma hwb hqb)
  obtain ⟨-, cw, -⟩ := e
  have hw := P0.where_ hca hma 125
  have eg : ∀ args w, (callFunc 172 args).run Tryz.prog w = .ok (.enter 172 args) w := enters_of Tryz.func172 (by kernel_rfl) rfl
  clear p hca hma hwb hqb P0
  go_enter Tryz.func174, Tryz.ntmps174
  go_wp2_with (go_at_fn 172; with_reducible refine hw.mono ?_; rintro e w1 ⟨rfl, P1⟩; clear hw)
  have FIN : Aside0 _ := ⟨P1⟩
  clear P1
  go_end0
  exact ⟨rfl, FIN.out.pc, FIN.out.k⟩
def manywF (s : St) (x : S35) : St × S35 :=
  let p := whereF 123 s x
  ((counted p.1 p.2.f3).2, { p.2 with f12 := (counted p.1 p.2.f3).1 })
set_option maxHeartbeats 1000000 in
set_option maxRecDepth 1000000 in
theorem manyw_form (G : Nat → Prop) (cb mb wb qb ca ma : Nat) (hca : ¬ Two cb mb ca) (hma : ¬ Two cb mb ma) (hwb : ¬ Two cb mb wb) (hqb : ¬ Two cb mb qb) : Form 178 #[(.pointer (some ⟨wb, 0, none⟩)), (.pointer (some ⟨qb, 0, none⟩)), (.pointer (some ⟨ca, 0, none⟩)), (.pointer (some ⟨ma, 0, none⟩))] G cb mb (ER cb mb wb qb ca ma true) manywF := by
  intro w s x p e
  have P0 := Q.start p e (er_st hca hma hwb hqb)
  have cw := e.2.1
  have hw := P0.where_ hca hma 123
  have eg : ∀ args w, (callFunc 172 args).run Tryz.prog w = .ok (.enter 172 args) w := enters_of Tryz.func172 (by kernel_rfl) rfl
  unfold manywF
  clear p e hca hma hwb hqb P0
  have hk : 0 ≤ (whereF 123 s x).2.f3 ∧ (whereF 123 s x).2.f3 ≤ 65535 := u16wrap _
  generalize whereF 123 s x = q at *
  obtain ⟨s1, x1⟩ := q
  simp only at *
  obtain ⟨k0, k1⟩ := hk
  go_enter Tryz.func178, Tryz.ntmps178
  go_upto_region 1 with (go_at_fn 172; with_reducible refine hw.mono ?_; rintro e w1 ⟨rfl, P1⟩; clear hw)
  clear cw
  have cq := P1.e.2.2
  go_upto_region 2 with fail
  clear cq
  generalize hx3 : x1.f3 = n at *
  have g3 : ∀ W, MsgAt W G mb x1 → W.cell? ⟨mb, 3, none⟩ = some (.int .u16 n) := fun W h => by rw [← hx3]; exact h.g3
  have EX : Aside0 _ := ⟨hx3⟩
  clear hx3
  have hwn : IntKind.i64.wrap n = n := wrapi _ ⟨k0, by omega⟩
  have P1_2 := P1.drew
  clear P1
  refine st 11 (fun w' => (w'.cell? ⟨ca, 0, none⟩ = some (.pointer (some ⟨cb, 0, none⟩)) ∧ w'.cell? ⟨ma, 0, none⟩ = some (.pointer (some ⟨mb, 0, none⟩))) ∧ w'.cell? ⟨mb, 3, none⟩ = some (.int .u16 n)) [10] ⟨P1_2.e.1, g3 _ P1_2.m⟩ ?_
  refine ld 0 (some 7) (mk 11 1) ⟨P1_2.e.1, g3 _ P1_2.m⟩ ?_
  refine ld 1 (some 8) (mk 11 3) ⟨P1_2.e.1, g3 _ P1_2.m⟩ ?_
  refine ld 2 (some 9) (mk 11 7) ⟨P1_2.e.1, g3 _ P1_2.m⟩ ?_
  refine pu 3 (some 10) (mk 11 15) ?_
  refine pu 4 (some 11) (mk 11 31) ?_
  refine ld 5 (some 12) (mk 11 63) ⟨P1_2.e.1, g3 _ P1_2.m⟩ ?_
  refine pu 6 (some 13) (mk 11 127) ?_
  refine cl 7 (some 14) (mk 11 255) Tryz.func179 (args := #[(.pointer (some ⟨cb, 0, none⟩)), .int .i64 n]) (Q.cnt P1_2 n k0 k1) ?_
  rintro e w2_1 ⟨A1, c1, rfl, hS1, P1_2_1⟩
  clear P1_2
  refine ⟨_, rfl, ⟨P1_2_1.e.1, g3 _ P1_2_1.m⟩, nm ?_⟩
  refine pu 8 (some 15) (mk 11 511) ?_
  refine pu 9 (some 16) (mk 11 1023) ?_
  have P1_2_110 := P1_2_1.put (P1_2_1.m.s12 hS1)
  refine la 10 none (mk 11 2047) fun K hK => ?_
  refine wp_store_msg 30 (.tmp 16) (.tmp 14) rfl mb 12 (.slice A1 (counted s1 n).1.length c1) rfl rfl rfl P1_2_1.m (by decide) (by kernel_rfl) ?_
  refine hK _ _ (nm ?_)
  clear hK K P1_2_1
  refine done_ (by kernel_rfl) ?_
  generalize w2_1.setCell ⟨mb, 12, none⟩ (.slice A1 (counted s1 n).1.length c1) = w2_110 at *
  have P3 := P1_2_110
  clear P1_2_110
  have FIN : Aside0 _ := ⟨P3⟩
  clear P3
  go_end0
  obtain rfl := EX.out
  exact ⟨rfl, FIN.out.pc, FIN.out.k⟩
def bothF (s : St) (x : S35) : St × S35 :=
  let p := whereF 125 s x
  let r := rspan p.1.word.2 p.1.word.1 121
  ((counted r.2 r.1).2, { p.2 with f7 := p.1.word.1, f12 := (counted r.2 r.1).1 })
set_option maxHeartbeats 1000000 in
set_option maxRecDepth 1000000 in
theorem both_form (G : Nat → Prop) (cb mb wb qb ca ma : Nat) (hca : ¬ Two cb mb ca) (hma : ¬ Two cb mb ma) (hwb : ¬ Two cb mb wb) (hqb : ¬ Two cb mb qb) : Form 181 #[(.pointer (some ⟨wb, 0, none⟩)), (.pointer (some ⟨ca, 0, none⟩)), (.pointer (some ⟨ma, 0, none⟩))] G cb mb (ER cb mb wb qb ca ma true) bothF := by
  intro w s x p e
  have P0 := Q.start p e (er_st hca hma hwb hqb)
  have cw := e.2.1
  have hw := P0.where_ hca hma 125
  have eg : ∀ args w, (callFunc 172 args).run Tryz.prog w = .ok (.enter 172 args) w := enters_of Tryz.func172 (by kernel_rfl) rfl
  unfold bothF
  clear p e hca hma hwb hqb P0
  generalize whereF 125 s x = q at *
  obtain ⟨s1, x1⟩ := q
  simp only at *
  go_enter Tryz.func181, Tryz.ntmps181
  go_upto_region 1 with (go_at_fn 172; with_reducible refine hw.mono ?_; rintro e w1 ⟨rfl, P1⟩; clear hw)
  clear cw
  have P1_1 := P1.drew
  clear P1
  refine st 6 (fun w' => w'.cell? ⟨ca, 0, none⟩ = some (.pointer (some ⟨cb, 0, none⟩)) ∧ w'.cell? ⟨ma, 0, none⟩ = some (.pointer (some ⟨mb, 0, none⟩))) [5] P1_1.e.1 ?_
  refine ld 0 (some 5) (mk 6 1) P1_1.e.1 ?_
  refine ld 1 (some 6) (mk 6 3) P1_1.e.1 ?_
  refine cl 2 (some 7) (mk 6 7) Tryz.func160 (args := #[(.pointer (some ⟨cb, 0, none⟩))]) (P1_1.word) ?_
  rintro e w1_1 ⟨rfl, P1_1_1⟩
  clear P1_1
  refine ⟨_, rfl, P1_1_1.e.1, nm ?_⟩
  refine pu 3 (some 8) (mk 6 15) ?_
  refine pu 4 (some 9) (mk 6 31) ?_
  have P1_1_105 := P1_1_1.put (P1_1_1.m.s7 s1.word.1)
  refine la 5 none (mk 6 63) fun K hK => ?_
  refine wp_store_msg 27 (.tmp 9) (.tmp 7) rfl mb 7 (.int .u16 s1.word.1) rfl rfl rfl P1_1_1.m (by decide) (by kernel_rfl) ?_
  refine hK _ _ (nm ?_)
  clear hK K P1_1_1
  refine done_ (by kernel_rfl) ?_
  generalize w1_1.setCell ⟨mb, 7, none⟩ (.int .u16 s1.word.1) = w1_105 at *
  have P2 := P1_1_105
  clear P1_1_105
  generalize ha : s1.word.1 = a at *
  generalize hs : s1.word.2 = s2 at *
  have EA : Aside0 _ := ⟨And.intro ha hs⟩
  clear ha hs
  obtain ⟨k0, k1⟩ : 0 ≤ (rspan s2 a 121).1 ∧ (rspan s2 a 121).1 ≤ 65535 := by have := s2.word_lt; exact ⟨this.1, by show s2.word.1 ≤ 65535; omega⟩
  go_upto_region 2 with fail
  have P2_2 := P2.drew
  clear P2
  refine st 12 (fun w' => (w'.cell? ⟨ca, 0, none⟩ = some (.pointer (some ⟨cb, 0, none⟩)) ∧ w'.cell? ⟨ma, 0, none⟩ = some (.pointer (some ⟨mb, 0, none⟩))) ∧ w'.cell? ⟨mb, 7, none⟩ = some (.int .u16 a)) [11] ⟨P2_2.e.1, P2_2.m.g7⟩ ?_
  refine ld 0 (some 10) (mk 12 1) ⟨P2_2.e.1, P2_2.m.g7⟩ ?_
  refine ld 1 (some 11) (mk 12 3) ⟨P2_2.e.1, P2_2.m.g7⟩ ?_
  refine ld 2 (some 12) (mk 12 7) ⟨P2_2.e.1, P2_2.m.g7⟩ ?_
  refine ld 3 (some 13) (mk 12 15) ⟨P2_2.e.1, P2_2.m.g7⟩ ?_
  refine pu 4 (some 14) (mk 12 31) ?_
  refine pu 5 (some 15) (mk 12 63) ?_
  refine ld 6 (some 16) (mk 12 127) ⟨P2_2.e.1, P2_2.m.g7⟩ ?_
  refine cl 7 (some 17) (mk 12 255) Tryz.func173 (args := #[(.pointer (some ⟨cb, 0, none⟩)), .int .u16 a, .int .i64 121]) (Q.rspan P2_2 a 121) ?_
  rintro e w2_1 ⟨rfl, P2_2_1⟩
  clear P2_2
  refine ⟨_, rfl, ⟨P2_2_1.e.1, P2_2_1.m.g7⟩, nm ?_⟩
  refine cl 8 (some 18) (mk 12 511) Tryz.func179 (args := #[(.pointer (some ⟨cb, 0, none⟩)), .int .i64 (rspan s2 a 121).1]) (Q.cnt P2_2_1 (rspan s2 a 121).1 k0 k1) ?_
  rintro e w2_2 ⟨A1, c1, rfl, hS1, P2_2_2⟩
  clear P2_2_1
  refine ⟨_, rfl, ⟨P2_2_2.e.1, P2_2_2.m.g7⟩, nm ?_⟩
  refine pu 9 (some 19) (mk 12 1023) ?_
  refine pu 10 (some 20) (mk 12 2047) ?_
  have P2_2_111 := P2_2_2.put (P2_2_2.m.s12 hS1)
  refine la 11 none (mk 12 4095) fun K hK => ?_
  refine wp_store_msg 30 (.tmp 20) (.tmp 18) rfl mb 12 (.slice A1 (counted (rspan s2 a 121).2 (rspan s2 a 121).1).1.length c1) rfl rfl rfl P2_2_2.m (by decide) (by kernel_rfl) ?_
  refine hK _ _ (nm ?_)
  clear hK K P2_2_2
  refine done_ (by kernel_rfl) ?_
  generalize w2_2.setCell ⟨mb, 12, none⟩ (.slice A1 (counted (rspan s2 a 121).2 (rspan s2 a 121).1).1.length c1) = w2_111 at *
  have P3 := P2_2_111
  clear P2_2_111
  have FIN : Aside0 _ := ⟨P3⟩
  clear P3
  go_end0
  rw [EA.out.1, EA.out.2]
  exact ⟨rfl, FIN.out.pc, FIN.out.k⟩
end Go.Proofs.YtmbjlondehcheaaGreatDoor
end
section
set_option linter.unusedSimpArgs false
set_option linter.unusedVariables false
namespace Go.Proofs.YtmbjlondehcheaaGreatDoor
open Go.Shelf Go.RowKit Go.Lib Go.Sort Go.Proofs.YtmbjlondehcheaaGreatDoorW.PrintWords Go.Proofs.YtmbjlondehcheaaGreatDoorW.PrintLast Go.Proofs.YtmbjlondehcheaaGreatDoor.PTopTalk
def clo (c : Int) (wb qb ca ma : Nat) : Value :=
  if c = 3 ∨ c = 4 then .func (.func 174) #[] #[(.pointer (some ⟨wb, 0, none⟩))] else if c = 6 then .func (.func 177) #[] #[(.pointer (some ⟨ca, 0, none⟩)), (.pointer (some ⟨ma, 0, none⟩))] else if c = 16 then .func (.func 178) #[] #[(.pointer (some ⟨wb, 0, none⟩)), (.pointer (some ⟨qb, 0, none⟩)), (.pointer (some ⟨ca, 0, none⟩)), (.pointer (some ⟨ma, 0, none⟩))] else if c = 22 then .func (.func 180) #[] #[(.pointer (some ⟨ca, 0, none⟩)), (.pointer (some ⟨ma, 0, none⟩))] else if c = 23 then .func (.func 181) #[] #[(.pointer (some ⟨wb, 0, none⟩)), (.pointer (some ⟨ca, 0, none⟩)), (.pointer (some ⟨ma, 0, none⟩))] else .func (.func 182) #[] #[(.pointer (some ⟨ca, 0, none⟩)), (.pointer (some ⟨ma, 0, none⟩))]
set_option maxHeartbeats 1000000 in
set_option maxRecDepth 1000000 in
theorem form_calls (w : World) (G : Nat → Prop) (cb mb : Nat) (x : S35) (c : Int) (h : MsgAt w G mb x) (h0 : x.f0 = c) (hc : c = 3 ∨ c = 4 ∨ c = 6 ∨ c = 16 ∨ c = 22 ∨ c = 23 ∨ c = 24) :
    Calls Tryz.prog 143 #[.int .i64 0, (.pointer (some ⟨mb, 0, none⟩)), (.pointer (some ⟨cb, 0, none⟩))] w fun r w' => ∃ wb qb ca ma, w.heap.size ≤ wb ∧ w.heap.size ≤ qb ∧ w.heap.size ≤ ca ∧ w.heap.size ≤ ma ∧ ER cb mb wb qb ca ma true w' ∧ Kept w w' (fun _ => False) ∧ r = .returned (clo c wb qb ca ma) := by
  have c0 := h.g0
  rw [h0] at c0
  clear h h0
  have f4 := heap_alloc_new w (.cells #[(.pointer (some ⟨mb, 0, none⟩))] 234)
  have q5 := Kept.alloc (w.alloc (.cells #[(.pointer (some ⟨mb, 0, none⟩))] 234)) (.cells #[(.pointer (some ⟨cb, 0, none⟩))] 232) (fun _ => False)
  have f5 := heap_alloc_new (w.alloc (.cells #[(.pointer (some ⟨mb, 0, none⟩))] 234)) (.cells #[(.pointer (some ⟨cb, 0, none⟩))] 232)
  have k2 := (Kept.alloc w (.cells #[(.pointer (some ⟨mb, 0, none⟩))] 234) (fun _ => False)).trans q5 (fun _ _ h => h) (fun _ _ h => h)
  replace f4 := q5.heap f4 (fun h => h)
  clear q5
  go_enter Tryz.func143, Tryz.ntmps143
  go_upto_region 1 with fail
  rw [asz] at f5
  generalize (w.alloc (.cells #[(.pointer (some ⟨mb, 0, none⟩))] 234)).alloc (.cells #[(.pointer (some ⟨cb, 0, none⟩))] 232) = w2 at *
  generalize hz : w.heap.size + 1 = ca at *
  generalize hz2 : w.heap.size = ma at *
  have hma : w.heap.size ≤ ma := by omega
  have hca : w.heap.size ≤ ca := by omega
  clear hz hz2
  have fw := new_cell w2 .nilFunc (.func (.func 172) #[] #[(.pointer (some ⟨ca, 0, none⟩)), (.pointer (some ⟨ma, 0, none⟩))]) 273
  go_upto_region 2 with (refine wpList_plain rfl fun _ hK => wp_store_cell 273 (.tmp 7) (.tmp 10) rfl w2.heap.size 0 (.func (.func 172) #[] #[(.pointer (some ⟨ca, 0, none⟩)), (.pointer (some ⟨ma, 0, none⟩))]) rfl rfl rfl 273 #[.nilFunc] (heap_alloc_new _ _) (by decide) (by kernel_rfl) (hK _ _ ?_))
  generalize (w2.alloc (.cells #[.nilFunc] 273)).setCell ⟨w2.heap.size, 0, none⟩ (.func (.func 172) #[] #[(.pointer (some ⟨ca, 0, none⟩)), (.pointer (some ⟨ma, 0, none⟩))]) = w3 at *
  obtain ⟨fw, k3⟩ := fw
  have hwb := k2.size
  generalize w2.heap.size = wb at *
  have fq := new_cell w3 (.bool false) (.bool true) 4
  go_upto_region 3 with (refine wpList_plain rfl fun _ hK => wp_store_cell 4 (.tmp 8) (.tmp 12) rfl w3.heap.size 0 (.bool true) rfl rfl rfl 4 #[.bool false] (heap_alloc_new _ _) (by decide) (by kernel_rfl) (hK _ _ ?_))
  generalize (w3.alloc (.cells #[.bool false] 4)).setCell ⟨w3.heap.size, 0, none⟩ (.bool true) = w4 at *
  obtain ⟨fq, k4⟩ := fq
  have hqb := Nat.le_trans k2.size k3.size
  generalize w3.heap.size = qb at *
  have k24 := k3.trans k4 (H := fun _ => False) (fun _ _ h => h) (fun _ _ h => h)
  have KK := k2.trans k24 (H := fun _ => False) (fun _ _ h => h) (fun _ _ h => h)
  replace c0 := KK.cell c0
  replace f4 := k24.heap f4 (fun h => h)
  replace f5 := k24.heap f5 (fun h => h)
  replace fw := k4.heap fw (fun h => h)
  have e4 : w4.cell? ⟨ma, 0, none⟩ = some (.pointer (some ⟨mb, 0, none⟩)) := by rw [cell_of_row w4 ma 0 _ 234 (0, 0) f4]; rfl
  have e5 : w4.cell? ⟨ca, 0, none⟩ = some (.pointer (some ⟨cb, 0, none⟩)) := by rw [cell_of_row w4 ca 0 _ 232 (0, 0) f5]; rfl
  have ew : w4.cell? ⟨wb, 0, none⟩ = some (.func (.func 172) #[] #[(.pointer (some ⟨ca, 0, none⟩)), (.pointer (some ⟨ma, 0, none⟩))]) := by rw [cell_of_row w4 wb 0 _ 273 (0, 0) fw]; rfl
  have eq : w4.cell? ⟨qb, 0, none⟩ = some (.bool true) := by rw [cell_of_row w4 qb 0 _ 4 (0, 0) fq]; rfl
  have FIN : Aside0 (ER cb mb wb qb ca ma true w4 ∧ Kept w w4 (fun _ => False)) := ⟨⟨⟨⟨e5, e4⟩, ew, eq⟩, KK⟩⟩
  clear KK k24 k4 k3 k2 f4 f5 fw fq ew e5
  rcases hc with rfl | rfl | rfl | rfl | rfl | rfl | rfl
  all_goals
    go_wp2
    go_ret
    exact ⟨wb, qb, ca, ma, hwb, hqb, hca, hma, FIN.out.1, FIN.out.2, by simp [clo]⟩
def regF (c : Int) : St → S35 → St × S35 := if c = 3 ∨ c = 4 then whereF 125 else if c = 6 then oneF else if c = 16 then manywF else if c = 22 then maskF else if c = 23 then bothF else queueF
def regsP (c : Int) (l : List Int) : S35 × Int := fin (regF c ⟨l, false, 0⟩ { z35 with f0 := c }).1 (regF c ⟨l, false, 0⟩ { z35 with f0 := c }).2
theorem nofn (n : FuncId) (a b : Array Value) (w : World) : (binOp .eql 1 (.func (.func n) a b) .nilFunc).run Tryz.prog w = .ok (.bool false) w := by kernel_rfl
theorem reg_clo (c : Int) (hc : c = 3 ∨ c = 4 ∨ c = 6 ∨ c = 16 ∨ c = 22 ∨ c = 23 ∨ c = 24) (G : Nat → Prop) (cb mb wb qb ca ma : Nat) (hca : ¬ Two cb mb ca) (hma : ¬ Two cb mb ma) (hwb : ¬ Two cb mb wb) (hqb : ¬ Two cb mb qb) :
    ∃ (n : FuncId) (a : Array Value), clo c wb qb ca ma = .func (.func n) #[] a ∧ (∀ args w, (callFunc n args).run Tryz.prog w = .ok (.enter n args) w) ∧ Form n a G cb mb (ER cb mb wb qb ca ma true) (regF c) := by
  rcases hc with rfl | rfl | rfl | rfl | rfl | rfl | rfl
  · exact ⟨174, _, by simp only [clo]; rfl, enters_of Tryz.func174 (by kernel_rfl) rfl, read_form G cb mb wb qb ca ma hca hma hwb hqb⟩
  · exact ⟨174, _, by simp only [clo]; rfl, enters_of Tryz.func174 (by kernel_rfl) rfl, read_form G cb mb wb qb ca ma hca hma hwb hqb⟩
  · exact ⟨177, _, by simp only [clo]; rfl, enters_of Tryz.func177 (by kernel_rfl) rfl, one_form G cb mb wb qb ca ma hca hma hwb hqb⟩
  · exact ⟨178, _, by simp only [clo]; rfl, enters_of Tryz.func178 (by kernel_rfl) rfl, manyw_form G cb mb wb qb ca ma hca hma hwb hqb⟩
  · exact ⟨180, _, by simp only [clo]; rfl, enters_of Tryz.func180 (by kernel_rfl) rfl, mask_form G cb mb wb qb ca ma hca hma hwb hqb⟩
  · exact ⟨181, _, by simp only [clo]; rfl, enters_of Tryz.func181 (by kernel_rfl) rfl, both_form G cb mb wb qb ca ma hca hma hwb hqb⟩
  · exact ⟨182, _, by simp only [clo]; rfl, enters_of Tryz.func182 (by kernel_rfl) rfl, queue_form G cb mb wb qb ca ma hca hma hwb hqb⟩
abbrev Parses (f : FuncId) (c : Int) (l : List Int) (P : S35 × Int) : Prop :=
  ∀ (w : World) (v : Value), By w v l → l.length ≤ 100000 → Calls Tryz.prog f #[.int .i64 0, .int .u8 c, v] w fun r w' => ∃ cs, r = .returned (.tuple #[.agg cs.toArray, .int .i64 P.2]) ∧ (∀ W, Kept w' W (fun b => b < w.heap.size) → k35.K W P.1 cs) ∧ Kept w w' (fun _ => False)
set_option maxHeartbeats 4000000 in
set_option maxRecDepth 1000000 in
theorem regsP_calls (c : Int) (l : List Int) (hc : c = 3 ∨ c = 4 ∨ c = 6 ∨ c = 16 ∨ c = 22 ∨ c = 23 ∨ c = 24) : Parses 123 c l (regsP c l) := by
  intro w v h hl
  have hz := zero35
  have f6 := heap_alloc_new w (.cells (cs35 0).toArray 35)
  have q6 := Kept.alloc w (.cells (cs35 0).toArray 35) (fun _ => False)
  have hB1 := h.keep q6
  clear h
  go_enter Tryz.func123, Tryz.ntmps123
  go_upto_region 3 with fail
  have HR : Aside0 (∀ b, b = w.heap.size → b < (w.alloc (.cells (cs35 0).toArray 35)).heap.size) := ⟨fun b h => by simp [h]⟩
  generalize (w.alloc (.cells (cs35 0).toArray 35)) = w1 at *
  generalize hrb : w.heap.size = rb at *
  have HRB : Aside0 _ := ⟨hrb⟩
  clear hrb
  have f8 := setRow_heap (w1.alloc (.cells (cs35 0).toArray 35)) w1.heap.size (cs35 0).toArray (cs35 c).toArray 35 _ (heap_alloc_new _ _)
  have q8 : Kept w1 ((w1.alloc (.cells (cs35 0).toArray 35)).setRow w1.heap.size (cs35 c).toArray) (fun _ => False) := (Kept.alloc w1 _ (fun _ => False)).trans (Kept.setRow _ w1.heap.size _ (F := fun b => b = w1.heap.size) rfl) (fun _ _ h => h) (fun k hk h => by omega)
  go_upto_region 4 with (first
    | (refine wpList_buildTo rfl 35 _ rfl (some 20) rfl (cs35 c).toArray ?_ ?_; (simp only [List.map_toArray, List.map_cons, List.map_nil]; exact built35 c))
    | (refine wpList_store_row rfl 35 (.tmp 8) (.tmp 20) rfl w1.heap.size (cs35 c).toArray rfl rfl 35 (cs35 0).toArray (heap_alloc_new _ _) (sizeM _ rfl) rfl (by kernel_rfl) ?_))
  have HM : Aside0 (∀ b, b = w1.heap.size → b < ((w1.alloc (.cells (cs35 0).toArray 35)).setRow w1.heap.size (cs35 c).toArray).heap.size) := ⟨fun b h => by simp [h]⟩
  have hB2 := hB1.keep q8
  have g1 := f6
  have g6 := q8.heap f6 (fun h => h)
  have K2 := q6.trans q8 (fun _ _ h => h) (fun _ _ h => h)
  generalize ((w1.alloc (.cells (cs35 0).toArray 35)).setRow w1.heap.size (cs35 c).toArray) = w2 at *
  generalize hmb : w1.heap.size = mb at *
  have HMB : Aside0 _ := ⟨hmb⟩
  clear hmb
  clear hB1 q6 q8 f6
  have hnc := new_cur w2 v l hB2 hl
  go_upto_region 5 with (go_at_call 133; with_reducible refine hnc.mono ?_; rintro e w3 ⟨cb, rfl, hcb, hC, k3⟩)
  have hrm : rb < mb := by have := heap_lt g1; have := HMB.out; omega
  have hwm : w.heap.size ≤ mb := by have := HRB.out; omega
  have hwc : w.heap.size ≤ cb := by have := HM.out mb rfl; omega
  have PM := start_pc (rb := rb) (HM.out mb rfl) (Nat.lt_trans hrm (HM.out mb rfl)) hcb hl f8 hC k3
  have hrc : ¬ rb = cb := by have := HM.out mb rfl; omega
  have hR2 : ¬ Two cb mb rb := fun h => by rcases h with h | h; exact hrc h; omega
  have HRB2 := HRB.out
  have P3 : Q w3 w3 (fun b => b = cb ∨ b = mb ∨ b ≤ rb) cb mb (fun w' => w'.heap[rb]? = some (.cells (cs35 0).toArray 35 (0, 0))) ⟨l, false, 0⟩ { z35 with f0 := c } := Q.start PM (k3.heap g6 (fun h => h)) (fun _ _ h k => k.heap h hR2)
  have K3 := K2.trans k3 (H := fun _ => False) (fun _ _ h => h) (fun _ _ h => h)
  have KB : Aside0 (∀ W, Kept w3 W (fun b => b = cb ∨ b = mb ∨ b = rb) → Kept w W (fun _ => False)) := ⟨fun W k => K3.trans k (H := fun _ => False) (fun _ _ h => h) (fun b hb e => by rcases e with e | e | e <;> omega)⟩
  clear PM K2 K3 k3 g6 g1 hC hnc f8 HRB HMB HM hB2 HR
  have hfc := form_calls w3 _ cb mb _ c P3.m rfl hc
  go_upto_region 6 with (go_at_call 143; with_reducible refine hfc.mono ?_; rintro e w4 ⟨wb, qb, ca, ma, o1, o2, o3, o4, EE, k4, rfl⟩)
  have lo : ∀ b, w3.heap.size ≤ b → ¬ Two cb mb b := fun b hb h => by rcases h with h | h; (have := P3.pc.c.low cb P3.pc.c.hot; omega); (have := P3.pc.c.low mb P3.pc.m.hot; omega)
  obtain ⟨n, a, hcl, eg, hF⟩ := reg_clo c hc (fun b => b = cb ∨ b = mb ∨ b ≤ rb) cb mb wb qb ca ma (lo _ o3) (lo _ o4) (lo _ o1) (lo _ o2)
  have P4 := P3.keep0 k4
  rw [hcl]
  have hf := hF w4 _ _ P4.pc EE
  have hnf := nofn n #[] a
  clear hfc hcl hF P3 lo EE k4 hc
  go_upto_region 9 with (go_at_fn n; with_reducible refine hf.mono ?_; rintro e w5 ⟨rfl, p5, k5⟩)
  have P5 := P4.to p5 k5
  have hR : regsP c l = fin (regF c ⟨l, false, 0⟩ { z35 with f0 := c }).1 (regF c ⟨l, false, 0⟩ { z35 with f0 := c }).2 := rfl
  generalize regF c ⟨l, false, 0⟩ { z35 with f0 := c } = q at *
  obtain ⟨s, x⟩ := q
  replace hR : regsP c l = fin s x := hR
  have HE : Aside0 _ := ⟨hR⟩
  clear hf p5 k5 P4 hnf eg hR
  simp only at P5
  have hend := P5.end_
  go_upto_region 10 with (go_at_call 139; with_reducible refine hend.mono ?_; rintro e wy ⟨rfl, PY⟩)
  clear hend P5
  have herr := PY.pc.err
  go_upto_region 11 with (go_at_call 140; with_reducible refine herr.mono ?_; rintro e wz ⟨rfl, rfl⟩)
  clear herr
  obtain ⟨cs, hcs, hK⟩ := PY.m.out
  have hlen : cs.toArray.size = 22 := by rw [List.size_toArray, k35.K_len (hK wz (Kept.refl _ _))]; exact sz35
  have hone := all_oneCell_toArray (k35.K_one (hK wz (Kept.refl _ _)))
  have grb := PY.e
  have R1 : Kept wz (wz.setRow rb cs.toArray) (fun b => b = rb) := Kept.setRow wz rb _ rfl
  have R2 : Kept wz (wz.setRow rb (cs35 0).toArray) (fun b => b = rb) := Kept.setRow wz rb _ rfl
  have KF : ∀ W, Kept wz W (fun b => b = rb) → Kept w W (fun _ => False) := fun W q => KB.out W (PY.k.trans q (fun _ _ h => h.elim .inl fun h => .inr (.inl h)) (fun _ _ h => .inr (.inr h)))
  have hs0 : (cs35 0).toArray.size = cs.toArray.size := by rw [hlen]; rfl
  generalize hS : (s).end_ = sz at *
  by_cases he : sz.e = 0
  · have hP : fin (s) (x) = ((x), 0) := by rw [fin, hS, if_pos he]
    have FIN : Aside0 _ := ⟨And.intro hP (And.intro (fun W (q : Kept _ W (fun b => b < w.heap.size)) => hK W (R1.trans q (fun b _ e => .inr (.inr (Nat.le_of_eq e))) (fun b _ h => .inr (.inr (by omega))))) (KF _ R1))⟩
    clear PY hK R1 R2 KF hP hS
    go_wp2_with (first
      | (refine wpList_load_row rfl 35 (.tmp 8) rfl mb rfl 35 cs.toArray (0, 0) _ hcs Tryz.underlying35 rfl (sizeM _ hlen) ?_)
      | (refine wpList_store_row rfl 35 (.tmp 6) (.tmp 39) rfl rb cs.toArray rfl rfl 35 (cs35 0).toArray grb (sizeM _ hlen) hs0 hone ?_))
    (try simp only [Exit.inBlock, Exit.then])
    refine bodyPost_ret (results_ct (p := 6) (u := 7) (ty := 35) Tryz.results123 _ _ rb 35 cs.toArray (0, 0) _ rfl (setRow_heap _ _ _ _ 35 _ grb) Tryz.underlying35 rfl (sizeM _ hlen)) rfl ?_
    rw [HE.out, FIN.out.1]
    exact ⟨cs, rfl, FIN.out.2⟩
  · have hP : fin (s) (x) = (z35, sz.e) := by rw [fin, hS, if_neg he]
    have heb : (sz.e != 0) = true := by simpa using he
    have FIN : Aside0 _ := ⟨And.intro hP (KF _ R2)⟩
    clear PY hK R1 R2 KF hP hS
    go_wp2_with (first
      | (refine wpList_buildTo rfl 35 _ rfl (some 37) rfl (cs35 0).toArray ?_ ?_; (simp only [List.map_toArray, List.map_nil]; exact built35z))
      | (refine wpList_store_row rfl 35 (.tmp 6) (.tmp 37) rfl rb (cs35 0).toArray rfl rfl 35 (cs35 0).toArray grb (sizeM _ rfl) rfl (all_cs35 0) ?_))
    (try simp only [Exit.inBlock, Exit.then])
    refine bodyPost_ret (results_ct (p := 6) (u := 7) (ty := 35) Tryz.results123 _ _ rb 35 (cs35 0).toArray (0, 0) _ rfl (setRow_heap _ _ _ _ 35 _ grb) Tryz.underlying35 rfl (sizeM _ rfl)) rfl ?_
    rw [HE.out, FIN.out.1]
    exact ⟨cs35 0, rfl, fun W _ => cs35_K 0 W, FIN.out.2⟩
end Go.Proofs.YtmbjlondehcheaaGreatDoor
end
section
set_option linter.unusedSimpArgs false
set_option linter.unusedVariables false
namespace Go.Proofs.YtmbjlondehcheaaGreatDoor
open Go.Shelf Go.RowKit Go.Lib Go.Sort Go.Proofs.YtmbjlondehcheaaGreatDoorW.PrintWords Go.Proofs.YtmbjlondehcheaaGreatDoorW.PrintLast Go.Proofs.YtmbjlondehcheaaGreatDoor.PTopTalk
def Wrote (x : S35) (L : List Int → Prop) (P : List Int → S35 × Int) (w : World) (r : Ending) (w' : World) : Prop :=
  Kept w w' (fun _ => False) ∧ ((∃ b, L b ∧ ¬ P b = (x, 0)) ∧ r = .returned (.tuple #[.slice none 0 0, .int .i64 1]) ∨ ∃ v b, r = .returned (.tuple #[v, .int .i64 0]) ∧ By w' v b ∧ L b ∧ P b = (x, 0) ∧ b.length ≤ 90000)
abbrev Writes (f : FuncId) (x : S35) (L : List Int → Prop) (P : List Int → S35 × Int) : Prop := ∀ (w : World) (cs : List Value), k35.K w x cs → Calls Tryz.prog f #[.int .i64 0, .agg cs.toArray] w (Wrote x L P w)
set_option maxHeartbeats 1000000 in
set_option maxRecDepth 1000000 in
theorem coils_write (x : S35) (L : List Int → Prop) (P : List Int → S35 × Int) (hL : Laid 141 x L) (hP : ∀ l, L l → Parses 121 x.f0 l (P l)) (fx : Fit x) (fP : ∀ l, L l → l.length ≤ 90000 → Fit (P l).1 ∧ (P l).1.f21 = []) : Writes 122 x L P := by
  intro w cs hK
  have f0 := heap_alloc_new w (.cells cs.toArray 35)
  have q0 := Kept.alloc w (.cells cs.toArray 35) (fun _ => False)
  have K0 := k35.K_below q0.toBelow hK
  have hs := cons35 hK
  have c0 : (w.alloc (.cells cs.toArray 35)).cell? ⟨w.heap.size, 0, none⟩ = some (.int .u8 x.f0) := (MsgAt.box hK).g0
  clear hK
  go_enter Tryz.func122, Tryz.ntmps122
  go_upto_region 1 with fail
  generalize w.alloc (.cells cs.toArray 35) = w0 at *
  generalize w.heap.size = mb at *
  have hl := hL w0 cs K0
  have KX : Aside0 _ := ⟨And.intro hP (And.intro fP fx)⟩
  clear hL hP fx fP
  go_upto_region 2 with (first
    | (refine wpList_load_row rfl 35 (.tmp 3) rfl mb rfl 35 cs.toArray (0, 0) _ f0 Tryz.underlying35 rfl (sizeM _ hs) ?_)
    | (go_at_call 141; with_reducible refine hl.mono ?_; rintro e w1 ⟨v, b, rfl, hO, hLb, hbl⟩))
  have q1 := hO.kept
  have hB := hO.rd (by omega)
  replace f0 := q1.heap f0 (fun h => h)
  replace c0 := q1.cell c0
  have K1 := k35.K_below q1.toBelow K0
  have Q1 := q0.trans q1 (H := fun _ => False) (fun _ _ h => h) (fun _ _ h => h)
  have hp := KX.out.1 b hLb w1 v hB (by omega)
  have hfit := KX.out.2.1 b hLb hbl
  clear hl hO q1 q0 K0
  generalize hP0 : P b = p at *
  obtain ⟨y, e0⟩ := p
  simp only at hp hfit
  obtain ⟨A, c, rfl, -⟩ := hB.len
  have HB : Aside0 _ := ⟨And.intro hB (And.intro hLb (And.intro hbl hP0))⟩
  clear hB hLb hbl hP0
  have hz := zero35
  go_upto_region 3 with (first
    | (go_at_call 121; with_reducible refine hp.mono ?_; rintro e w2 ⟨ds, rfl, hdw, q2⟩; have hd := hdw w2 (Kept.refl _ _); have hds := cons35 hd; have N2 := new_row w2 (cs35 0).toArray ds.toArray 35; have hone := all_oneCell_toArray (k35.K_one hd))
    | (refine wpList_store_rowTo rfl 35 (.tmp 7) (.tmp 18) rfl rfl w2.heap.size ds.toArray rfl rfl 35 (cs35 0).toArray (heap_alloc_new _ _) (sizeM _ hds) (by rw [hds]; rfl) hone ?_))
  obtain ⟨f2, k2⟩ := N2
  have Q2 := q2.trans k2 (H := fun _ => False) (fun _ _ h => h) (fun _ _ h => h)
  replace f0 := Q2.heap f0 (fun h => h)
  have Ky := k35.K_below k2.toBelow hd
  have Kx := k35.K_below Q2.toBelow K1
  have Q3 := Q1.trans Q2 (H := fun _ => False) (fun _ _ h => h) (fun _ _ h => h)
  have HB2 := HB.out.1.keep Q2
  generalize (w2.alloc (.cells (cs35 0).toArray 35)).setRow w2.heap.size ds.toArray = w3 at *
  generalize w2.heap.size = yb at *
  have hsame := code_same w3 y x ds cs Ky Kx hfit.1 KX.out.2.2 hfit.2
  have HK : Aside0 _ := ⟨And.intro Q3 HB2⟩
  clear hp hfit hd q2 k2 Q2 Ky Kx Q3 Q1 K1 c0 hone HB2 hz
  by_cases he : e0 = 0
  · subst he
    by_cases hyx : y = x
    · have hdec : decide (y = x) = true := decide_eq_true hyx
      rw [hdec] at hsame
      have HY : Aside0 _ := ⟨hyx⟩
      clear hdec hyx
      go_wp2_with (first
        | (refine gate_guard (by rfl) ?_; dsimp only; refine wpList_load_row rfl 35 (.tmp 7) rfl yb rfl 35 ds.toArray (0, 0) _ f2 Tryz.underlying35 rfl (sizeM _ hds) ?_)
        | (refine gate_guard (by rfl) ?_; dsimp only; refine wpList_load_row rfl 35 (.tmp 3) rfl mb rfl 35 cs.toArray (0, 0) _ f0 Tryz.underlying35 rfl (sizeM _ hs) ?_)
        | (go_at_call 142; with_reducible refine hsame.mono ?_; rintro e w4 ⟨rfl, q4⟩; clear hsame))
      go_ret2
      refine ⟨HK.out.1.trans q4 (fun _ _ h => h) (fun _ _ h => h), .inr ⟨_, b, rfl, HK.out.2.keep q4, HB.out.2.1, ?_, HB.out.2.2.1⟩⟩
      rw [HB.out.2.2.2, HY.out]
    · have hdec : decide (y = x) = false := decide_eq_false hyx
      rw [hdec] at hsame
      have HY : Aside0 _ := ⟨hyx⟩
      clear hdec hyx
      go_wp2_with (first
        | (refine gate_guard (by rfl) ?_; dsimp only; refine wpList_load_row rfl 35 (.tmp 7) rfl yb rfl 35 ds.toArray (0, 0) _ f2 Tryz.underlying35 rfl (sizeM _ hds) ?_)
        | (refine gate_guard (by rfl) ?_; dsimp only; refine wpList_load_row rfl 35 (.tmp 3) rfl mb rfl 35 cs.toArray (0, 0) _ f0 Tryz.underlying35 rfl (sizeM _ hs) ?_)
        | (go_at_call 142; with_reducible refine hsame.mono ?_; rintro e w4 ⟨rfl, q4⟩; clear hsame))
      go_ret2
      exact ⟨HK.out.1.trans q4 (fun _ _ h => h) (fun _ _ h => h), .inl ⟨⟨b, HB.out.2.1, fun h => HY.out (congrArg Prod.fst (HB.out.2.2.2.symm.trans h))⟩, rfl⟩⟩
  · have heb : (e0 != 0) = true := by simpa using he
    have HE : Aside0 _ := ⟨he⟩
    clear hsame
    go_wp2
    go_ret2
    exact ⟨HK.out.1, .inl ⟨⟨b, HB.out.2.1, fun h => HE.out (congrArg Prod.snd (HB.out.2.2.2.symm.trans h))⟩, rfl⟩⟩
set_option maxHeartbeats 1000000 in
set_option maxRecDepth 1000000 in
theorem regs_write (x : S35) (L : List Int → Prop) (P : List Int → S35 × Int) (hL : Laid 144 x L) (hP : ∀ l, L l → Parses 123 x.f0 l (P l)) (fx : Fit x) (fP : ∀ l, L l → l.length ≤ 90000 → Fit (P l).1 ∧ (P l).1.f21 = []) : Writes 124 x L P := by
  intro w cs hK
  have f0 := heap_alloc_new w (.cells cs.toArray 35)
  have q0 := Kept.alloc w (.cells cs.toArray 35) (fun _ => False)
  have K0 := k35.K_below q0.toBelow hK
  have hs := cons35 hK
  have c0 : (w.alloc (.cells cs.toArray 35)).cell? ⟨w.heap.size, 0, none⟩ = some (.int .u8 x.f0) := (MsgAt.box hK).g0
  clear hK
  go_enter Tryz.func124, Tryz.ntmps124
  go_upto_region 1 with fail
  generalize w.alloc (.cells cs.toArray 35) = w0 at *
  generalize w.heap.size = mb at *
  have hl := hL w0 cs K0
  have KX : Aside0 _ := ⟨And.intro hP (And.intro fP fx)⟩
  clear hL hP fx fP
  go_upto_region 2 with (first
    | (refine wpList_load_row rfl 35 (.tmp 3) rfl mb rfl 35 cs.toArray (0, 0) _ f0 Tryz.underlying35 rfl (sizeM _ hs) ?_)
    | (go_at_call 144; with_reducible refine hl.mono ?_; rintro e w1 ⟨v, b, rfl, hO, hLb, hbl⟩))
  have q1 := hO.kept
  have hB := hO.rd (by omega)
  replace f0 := q1.heap f0 (fun h => h)
  replace c0 := q1.cell c0
  have K1 := k35.K_below q1.toBelow K0
  have Q1 := q0.trans q1 (H := fun _ => False) (fun _ _ h => h) (fun _ _ h => h)
  have hp := KX.out.1 b hLb w1 v hB (by omega)
  have hfit := KX.out.2.1 b hLb hbl
  clear hl hO q1 q0 K0
  generalize hP0 : P b = p at *
  obtain ⟨y, e0⟩ := p
  simp only at hp hfit
  obtain ⟨A, c, rfl, -⟩ := hB.len
  have HB : Aside0 _ := ⟨And.intro hB (And.intro hLb (And.intro hbl hP0))⟩
  clear hB hLb hbl hP0
  have hz := zero35
  go_upto_region 3 with (first
    | (go_at_call 123; with_reducible refine hp.mono ?_; rintro e w2 ⟨ds, rfl, hdw, q2⟩; have hd := hdw w2 (Kept.refl _ _); have hds := cons35 hd; have N2 := new_row w2 (cs35 0).toArray ds.toArray 35; have hone := all_oneCell_toArray (k35.K_one hd))
    | (refine wpList_store_rowTo rfl 35 (.tmp 7) (.tmp 18) rfl rfl w2.heap.size ds.toArray rfl rfl 35 (cs35 0).toArray (heap_alloc_new _ _) (sizeM _ hds) (by rw [hds]; rfl) hone ?_))
  obtain ⟨f2, k2⟩ := N2
  have Q2 := q2.trans k2 (H := fun _ => False) (fun _ _ h => h) (fun _ _ h => h)
  replace f0 := Q2.heap f0 (fun h => h)
  have Ky := k35.K_below k2.toBelow hd
  have Kx := k35.K_below Q2.toBelow K1
  have Q3 := Q1.trans Q2 (H := fun _ => False) (fun _ _ h => h) (fun _ _ h => h)
  have HB2 := HB.out.1.keep Q2
  generalize (w2.alloc (.cells (cs35 0).toArray 35)).setRow w2.heap.size ds.toArray = w3 at *
  generalize w2.heap.size = yb at *
  have hsame := code_same w3 y x ds cs Ky Kx hfit.1 KX.out.2.2 hfit.2
  have HK : Aside0 _ := ⟨And.intro Q3 HB2⟩
  clear hp hfit hd q2 k2 Q2 Ky Kx Q3 Q1 K1 c0 hone HB2 hz
  by_cases he : e0 = 0
  · subst he
    by_cases hyx : y = x
    · have hdec : decide (y = x) = true := decide_eq_true hyx
      rw [hdec] at hsame
      have HY : Aside0 _ := ⟨hyx⟩
      clear hdec hyx
      go_wp2_with (first
        | (refine gate_guard (by rfl) ?_; dsimp only; refine wpList_load_row rfl 35 (.tmp 7) rfl yb rfl 35 ds.toArray (0, 0) _ f2 Tryz.underlying35 rfl (sizeM _ hds) ?_)
        | (refine gate_guard (by rfl) ?_; dsimp only; refine wpList_load_row rfl 35 (.tmp 3) rfl mb rfl 35 cs.toArray (0, 0) _ f0 Tryz.underlying35 rfl (sizeM _ hs) ?_)
        | (go_at_call 142; with_reducible refine hsame.mono ?_; rintro e w4 ⟨rfl, q4⟩; clear hsame))
      go_ret2
      refine ⟨HK.out.1.trans q4 (fun _ _ h => h) (fun _ _ h => h), .inr ⟨_, b, rfl, HK.out.2.keep q4, HB.out.2.1, ?_, HB.out.2.2.1⟩⟩
      rw [HB.out.2.2.2, HY.out]
    · have hdec : decide (y = x) = false := decide_eq_false hyx
      rw [hdec] at hsame
      have HY : Aside0 _ := ⟨hyx⟩
      clear hdec hyx
      go_wp2_with (first
        | (refine gate_guard (by rfl) ?_; dsimp only; refine wpList_load_row rfl 35 (.tmp 7) rfl yb rfl 35 ds.toArray (0, 0) _ f2 Tryz.underlying35 rfl (sizeM _ hds) ?_)
        | (refine gate_guard (by rfl) ?_; dsimp only; refine wpList_load_row rfl 35 (.tmp 3) rfl mb rfl 35 cs.toArray (0, 0) _ f0 Tryz.underlying35 rfl (sizeM _ hs) ?_)
        | (go_at_call 142; with_reducible refine hsame.mono ?_; rintro e w4 ⟨rfl, q4⟩; clear hsame))
      go_ret2
      exact ⟨HK.out.1.trans q4 (fun _ _ h => h) (fun _ _ h => h), .inl ⟨⟨b, HB.out.2.1, fun h => HY.out (congrArg Prod.fst (HB.out.2.2.2.symm.trans h))⟩, rfl⟩⟩
  · have heb : (e0 != 0) = true := by simpa using he
    have HE : Aside0 _ := ⟨he⟩
    clear hsame
    go_wp2
    go_ret2
    exact ⟨HK.out.1, .inl ⟨⟨b, HB.out.2.1, fun h => HE.out (congrArg Prod.snd (HB.out.2.2.2.symm.trans h))⟩, rfl⟩⟩
end Go.Proofs.YtmbjlondehcheaaGreatDoor
end
