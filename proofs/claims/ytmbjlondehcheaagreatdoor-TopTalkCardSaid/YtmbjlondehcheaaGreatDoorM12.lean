/- TopTalk: part 12 of the walks: of HSet, HSame. -/
import Derived.Test.YtmbjlondehcheaaGreatDoorM11
section
set_option linter.unusedSimpArgs false
set_option linter.unusedVariables false
namespace Go.Proofs.YtmbjlondehcheaaGreatDoor
open Go.Shelf Go.RowKit Go.Lib Go.Sort Go.Proofs.YtmbjlondehcheaaGreatDoorW.PrintWords Go.Proofs.YtmbjlondehcheaaGreatDoorW.PrintLast Go.Proofs.YtmbjlondehcheaaGreatDoor.PTopTalk
def ents (l : List Int) : List (Int × Value) := l.map fun a => (a, .bool true)
theorem first_of_mem {a : Int} : ∀ {l : List Int}, a ∈ l → ∃ p q, l = p ++ a :: q ∧ a ∉ p
  | x :: l, h => by
    by_cases hx : x = a
    · exact ⟨[], l, by rw [hx]; rfl, by simp⟩
    · obtain ⟨p, q, e, hn⟩ := first_of_mem (l := l) (by
        rcases List.mem_cons.1 h with h | h
        · exact absurd h.symm hx
        · exact h)
      exact ⟨x :: p, q, by rw [e]; rfl, fun h => by
        rcases List.mem_cons.1 h with h | h
        · exact hx h.symm
        · exact hn h⟩
theorem look_set {k : IntKind} {mt kt et : TypeId} (hmt : Tryz.prog.underlying mt = some (.map kt et)) (hkt : Tryz.prog.underlying kt = some (.int k)) (hz : ∀ w, (zeroValue et).run Tryz.prog w = .ok (.bool false) w) {w : World} {B n : Nat} {l : List Int} (hb : w.heap[B]? = some (.map (ments k (ents l)).toArray n)) (a : Int) :
    (Instr.lookup mt (.map (some B)) (.int k a) false).run Tryz.prog w = .ok (.bool (decide (a ∈ l))) w := by
  by_cases ha : a ∈ l
  · obtain ⟨p, q, hl, hp⟩ := first_of_mem ha
    have he : ents l = ents p ++ (a, .bool true) :: ents q := by rw [hl]; simp [ents]
    obtain ⟨D, hD⟩ := ments_mid k (ents p) (ents q) (a, .bool true)
    have hf : Instr.findNow (.int k) (.int k a) (ments k (ents l)) 0 = some (some (0 + (ments k (ents p)).length, .bool true)) := by
      rw [he, hD]
      refine fnow_some k k a _ rfl D (ments k (ents p)) 0 (fun e he => ?_)
      obtain ⟨x, hx, h1, _⟩ := ments_key he
      refine ⟨x.1, h1, fun h => hp ?_⟩
      simp [ents] at hx
      obtain ⟨y, hy, rfl⟩ := hx
      simp at h
      rw [← h]; exact hy
    simp [Instr.lookup, run_underlying hmt, MapKept.run_getObj_map hb, check_int hkt, Instr.findKey, run_underlying hkt, hf, Result.andThen, ha]
  · have hf : Instr.findNow (.int k) (.int k a) (ments k (ents l)) 0 = some none := fnow_none k k a _ 0 (fun e he => by
      obtain ⟨x, hx, h1, _⟩ := ments_key he
      refine ⟨x.1, h1, fun h => ha ?_⟩
      simp [ents] at hx
      obtain ⟨y, hy, rfl⟩ := hx
      simp at h
      rw [← h]; exact hy)
    simp [Instr.lookup, run_underlying hmt, MapKept.run_getObj_map hb, check_int hkt, Instr.findKey, run_underlying hkt, hf, hz, Result.andThen, ha]
structure SetAt (k : IntKind) (w wr : World) (B : Nat) (l : List Int) : Prop where
  m : wr.heap[B]? = some (.map (ments k (ents l)).toArray (ents l).length)
  lo : w.heap.size ≤ B
  kept : Kept w wr (fun _ => False)
set_option maxHeartbeats 1000000 in
set_option maxRecDepth 1000000 in
theorem set8_calls (w : World) (v : Value) (l : List Int) (h : Rd .u8 w v l) (hl : l.length ≤ 1000) (hd : l.Nodup) : Calls Tryz.prog 132 #[v] w fun r w' => ∃ B, r = .returned (.map (some B)) ∧ SetAt .u8 w w' B l := by
  obtain ⟨A, c, rfl, hc⟩ := h.len
  obtain ⟨n, hn⟩ : ∃ n, l.length = n := ⟨_, rfl⟩
  rw [hn] at h hc hl ⊢
  have HN : Aside0 _ := ⟨And.intro hn hd⟩
  have HB : Aside0 _ := ⟨h⟩
  have hmm := @run_makeMap Tryz.prog
  have START : Aside0 (SetAt .u8 w (w.alloc (.map #[] 0)) w.heap.size []) := ⟨⟨heap_alloc_new _ _, Nat.le_refl _, Kept.alloc w _ _⟩⟩
  clear h hn hd
  go_enter Tryz.func132, Tryz.ntmps132
  go_upto_region 2 with fail
  generalize w.alloc (.map #[] 0) = w1 at *
  generalize w.heap.size = B at *
  clear hmm
  go_wp2
  go_loopg [9] n (fun kx s9 wr => ∃ i : Nat, s9 = .int .i64 i ∧ i ≤ n ∧ n - i ≤ kx ∧ Aside0 (SetAt .u8 w wr B (l.take i)))
  case atStart => exact ⟨0, rfl, Nat.zero_le _, Nat.le_refl _, START⟩
  case round =>
    clear START
    obtain ⟨i, rfl, hi, hkx, D⟩ := hrel
    by_cases hlt : i < n
    · obtain ⟨ad, rfl, -, ca⟩ := HB.out.at_ (i := i) (by rw [HN.out.1]; exact hlt)
      obtain ⟨x, hx⟩ : ∃ x, l[i]'(by rw [HN.out.1]; exact hlt) = x := ⟨_, rfl⟩
      rw [hx] at ca
      replace ca := D.out.kept.cell ca
      have hiz : (i : Int) < (n : Int) := by omega
      have hnz : (n : Int) ≤ 1000 := by omega
      have ht : l.take (i + 1) = l.take i ++ [x] := by rw [List.take_add_one, List.getElem?_eq_getElem (by rw [HN.out.1]; exact hlt), hx]; rfl
      have hnot : ∀ e ∈ ents (l.take i), ¬ e.1 = x := fun e he h => by
        obtain ⟨y, hy, rfl⟩ := List.mem_map.1 he
        replace h : y = x := h
        subst h
        have := List.nodup_append.1 (ht ▸ (HN.out.2.sublist (List.take_sublist (i + 1) l)))
        exact this.2.2 y hy y (by simp) rfl
      obtain ⟨W, hp, hW⟩ : ∃ W, (Instr.mapUpdate 230 (.map (some B)) (.int .u8 x) (.bool true)).run Tryz.prog wr = .ok () W ∧ SetAt .u8 w W B (l.take (i + 1)) := ⟨_, map_put (mt := 230) Tryz.underlying230 Tryz.underlying5 D.out.m x (.bool true) hnot, by
        have e : ents (l.take (i + 1)) = ents (l.take i) ++ [(x, Value.bool true)] := by rw [ht]; simp [ents]
        rw [← e]
        exact ⟨ChangeMaps.heap_setBlock_same D.out.m _, D.out.lo, D.out.kept.trans (Kept.block' wr B _ (F := fun b => b = B) rfl) (fun _ _ h => h) (fun b hb e => by have := D.out.lo; omega)⟩⟩
      have D2 : Aside0 _ := ⟨hW⟩
      clear hW
      clear D ht hnot hx
      go_wp2_with (refine wpList_plain rfl fun _ hK => wp_mapUpdate 230 (.tmp 13) (.tmp 14) (.const (.bool true)) rfl (.map (some B)) (.int .u8 x) (.bool true) rfl rfl rfl _ hp (hK _ _ ?_))
      go_roundg (n - (i + 1))
      case measure => omega
      case rel => exact ⟨i + 1, by go_num, by omega, by omega, D2⟩
    · have hge : ¬ ((i : Int) < (n : Int)) := by omega
      have hin : i = n := by omega
      have F : Aside0 (SetAt .u8 w wr B l) := ⟨by have := D.out; rw [hin, List.take_of_length_le (Nat.le_of_eq HN.out.1)] at this; exact this⟩
      clear D hin
      go_wp2
      go_ret
      exact ⟨B, rfl, F.out⟩
set_option maxHeartbeats 1000000 in
set_option maxRecDepth 1000000 in
theorem set16_calls (w : World) (v : Value) (l : List Int) (h : Rd .u16 w v l) (hl : l.length ≤ 1000) (hd : l.Nodup) : Calls Tryz.prog 198 #[v] w fun r w' => ∃ B, r = .returned (.map (some B)) ∧ SetAt .u16 w w' B l := by
  obtain ⟨A, c, rfl, hc⟩ := h.len
  obtain ⟨n, hn⟩ : ∃ n, l.length = n := ⟨_, rfl⟩
  rw [hn] at h hc hl ⊢
  have HN : Aside0 _ := ⟨And.intro hn hd⟩
  have HB : Aside0 _ := ⟨h⟩
  have hmm := @run_makeMap Tryz.prog
  have START : Aside0 (SetAt .u16 w (w.alloc (.map #[] 0)) w.heap.size []) := ⟨⟨heap_alloc_new _ _, Nat.le_refl _, Kept.alloc w _ _⟩⟩
  clear h hn hd
  go_enter Tryz.func198, Tryz.ntmps198
  go_upto_region 2 with fail
  generalize w.alloc (.map #[] 0) = w1 at *
  generalize w.heap.size = B at *
  clear hmm
  go_wp2
  go_loopg [9] n (fun kx s9 wr => ∃ i : Nat, s9 = .int .i64 i ∧ i ≤ n ∧ n - i ≤ kx ∧ Aside0 (SetAt .u16 w wr B (l.take i)))
  case atStart => exact ⟨0, rfl, Nat.zero_le _, Nat.le_refl _, START⟩
  case round =>
    clear START
    obtain ⟨i, rfl, hi, hkx, D⟩ := hrel
    by_cases hlt : i < n
    · obtain ⟨ad, rfl, -, ca⟩ := HB.out.at_ (i := i) (by rw [HN.out.1]; exact hlt)
      obtain ⟨x, hx⟩ : ∃ x, l[i]'(by rw [HN.out.1]; exact hlt) = x := ⟨_, rfl⟩
      rw [hx] at ca
      replace ca := D.out.kept.cell ca
      have hiz : (i : Int) < (n : Int) := by omega
      have hnz : (n : Int) ≤ 1000 := by omega
      have ht : l.take (i + 1) = l.take i ++ [x] := by rw [List.take_add_one, List.getElem?_eq_getElem (by rw [HN.out.1]; exact hlt), hx]; rfl
      have hnot : ∀ e ∈ ents (l.take i), ¬ e.1 = x := fun e he h => by
        obtain ⟨y, hy, rfl⟩ := List.mem_map.1 he
        replace h : y = x := h
        subst h
        have := List.nodup_append.1 (ht ▸ (HN.out.2.sublist (List.take_sublist (i + 1) l)))
        exact this.2.2 y hy y (by simp) rfl
      obtain ⟨W, hp, hW⟩ : ∃ W, (Instr.mapUpdate 282 (.map (some B)) (.int .u16 x) (.bool true)).run Tryz.prog wr = .ok () W ∧ SetAt .u16 w W B (l.take (i + 1)) := ⟨_, map_put (mt := 282) Tryz.underlying282 Tryz.underlying27 D.out.m x (.bool true) hnot, by
        have e : ents (l.take (i + 1)) = ents (l.take i) ++ [(x, Value.bool true)] := by rw [ht]; simp [ents]
        rw [← e]
        exact ⟨ChangeMaps.heap_setBlock_same D.out.m _, D.out.lo, D.out.kept.trans (Kept.block' wr B _ (F := fun b => b = B) rfl) (fun _ _ h => h) (fun b hb e => by have := D.out.lo; omega)⟩⟩
      have D2 : Aside0 _ := ⟨hW⟩
      clear hW
      clear D ht hnot hx
      go_wp2_with (refine wpList_plain rfl fun _ hK => wp_mapUpdate 282 (.tmp 13) (.tmp 14) (.const (.bool true)) rfl (.map (some B)) (.int .u16 x) (.bool true) rfl rfl rfl _ hp (hK _ _ ?_))
      go_roundg (n - (i + 1))
      case measure => omega
      case rel => exact ⟨i + 1, by go_num, by omega, by omega, D2⟩
    · have hge : ¬ ((i : Int) < (n : Int)) := by omega
      have hin : i = n := by omega
      have F : Aside0 (SetAt .u16 w wr B l) := ⟨by have := D.out; rw [hin, List.take_of_length_le (Nat.le_of_eq HN.out.1)] at this; exact this⟩
      clear D hin
      go_wp2
      go_ret
      exact ⟨B, rfl, F.out⟩
def publicL : List Int := [1, 2, 3, 4, 5, 6, 7, 8, 11, 12, 15, 16, 17, 20, 21, 22, 23, 24, 43]
set_option maxHeartbeats 1000000 in
set_option maxRecDepth 1000000 in
theorem public_calls (w : World) (c : Int) : Calls Tryz.prog 118 #[.int .u8 c] w fun r w' => r = .returned (.bool (decide (c ∈ publicL))) ∧ Kept w w' (fun _ => False) := by
  have q1 := Kept.alloc w (.cells #[.int .u8 1, .int .u8 2, .int .u8 3, .int .u8 4, .int .u8 5, .int .u8 6, .int .u8 7, .int .u8 8, .int .u8 11, .int .u8 12, .int .u8 15, .int .u8 16, .int .u8 17, .int .u8 20, .int .u8 21, .int .u8 22, .int .u8 23, .int .u8 24, .int .u8 43] 5) (fun _ => False)
  have hs : Calls Tryz.prog 132 #[.slice (some ⟨w.heap.size, 0, none⟩) 19 19] (w.alloc (.cells #[.int .u8 1, .int .u8 2, .int .u8 3, .int .u8 4, .int .u8 5, .int .u8 6, .int .u8 7, .int .u8 8, .int .u8 11, .int .u8 12, .int .u8 15, .int .u8 16, .int .u8 17, .int .u8 20, .int .u8 21, .int .u8 22, .int .u8 23, .int .u8 24, .int .u8 43] 5)) _ := set8_calls _ _ publicL ((Ow.lit (k := .u8) (te := 5) (Kept.refl w _) publicL (by decide) (by decide)).rd (by decide)) (by decide) (by decide)
  have hlk : ∀ W B n, W.heap[B]? = some (.map (ments .u8 (ents publicL)).toArray n) → (Instr.lookup 230 (.map (some B)) (.int .u8 c) false).run Tryz.prog W = .ok (.bool (decide (c ∈ publicL))) W := fun W B n hb => look_set Tryz.underlying230 Tryz.underlying5 (fun w => by kernel_rfl) hb c
  generalize decide (c ∈ publicL) = z at *
  go_enter Tryz.func118, Tryz.ntmps118
  go_wp2_with (go_at_call 132; with_reducible refine hs.mono ?_; rintro e w1 ⟨B, rfl, hS⟩; have hl := hlk _ _ _ hS.m)
  go_ret
  exact ⟨rfl, q1.trans hS.kept (fun _ _ h => h) (fun _ _ h => h)⟩
def failureL : List Int := [1, 2, 3, 4, 5, 6, 8, 10, 11]
set_option maxHeartbeats 1000000 in
set_option maxRecDepth 1000000 in
theorem failure_calls (w : World) (c : Int) : Calls Tryz.prog 119 #[.int .u8 c] w fun r w' => r = .returned (.bool (decide (c ∈ failureL))) ∧ Kept w w' (fun _ => False) := by
  have q1 := Kept.alloc w (.cells #[.int .u8 1, .int .u8 2, .int .u8 3, .int .u8 4, .int .u8 5, .int .u8 6, .int .u8 8, .int .u8 10, .int .u8 11] 5) (fun _ => False)
  have hs : Calls Tryz.prog 132 #[.slice (some ⟨w.heap.size, 0, none⟩) 9 9] (w.alloc (.cells #[.int .u8 1, .int .u8 2, .int .u8 3, .int .u8 4, .int .u8 5, .int .u8 6, .int .u8 8, .int .u8 10, .int .u8 11] 5)) _ := set8_calls _ _ failureL ((Ow.lit (k := .u8) (te := 5) (Kept.refl w _) failureL (by decide) (by decide)).rd (by decide)) (by decide) (by decide)
  have hlk : ∀ W B n, W.heap[B]? = some (.map (ments .u8 (ents failureL)).toArray n) → (Instr.lookup 230 (.map (some B)) (.int .u8 c) false).run Tryz.prog W = .ok (.bool (decide (c ∈ failureL))) W := fun W B n hb => look_set Tryz.underlying230 Tryz.underlying5 (fun w => by kernel_rfl) hb c
  generalize decide (c ∈ failureL) = z at *
  go_enter Tryz.func119, Tryz.ntmps119
  go_wp2_with (go_at_call 132; with_reducible refine hs.mono ?_; rintro e w1 ⟨B, rfl, hS⟩; have hl := hlk _ _ _ hS.m)
  go_ret
  exact ⟨rfl, q1.trans hS.kept (fun _ _ h => h) (fun _ _ h => h)⟩
def bitsL : List Int := [0, 1, 2, 3, 4, 10, 11, 12, 13, 14, 15, 16, 17, 18, 20]
set_option maxHeartbeats 1000000 in
set_option maxRecDepth 1000000 in
theorem bitsc_calls (w : World) (c : Int) : Calls Tryz.prog 184 #[.int .u16 c] w fun r w' => r = .returned (.bool (decide (c ∈ bitsL))) ∧ Kept w w' (fun _ => False) := by
  have q1 := Kept.alloc w (.cells #[.int .u16 0, .int .u16 1, .int .u16 2, .int .u16 3, .int .u16 4, .int .u16 10, .int .u16 11, .int .u16 12, .int .u16 13, .int .u16 14, .int .u16 15, .int .u16 16, .int .u16 17, .int .u16 18, .int .u16 20] 27) (fun _ => False)
  have hs : Calls Tryz.prog 198 #[.slice (some ⟨w.heap.size, 0, none⟩) 15 15] (w.alloc (.cells #[.int .u16 0, .int .u16 1, .int .u16 2, .int .u16 3, .int .u16 4, .int .u16 10, .int .u16 11, .int .u16 12, .int .u16 13, .int .u16 14, .int .u16 15, .int .u16 16, .int .u16 17, .int .u16 18, .int .u16 20] 27)) _ := set16_calls _ _ bitsL ((Ow.lit (k := .u16) (te := 27) (Kept.refl w _) bitsL (by decide) (by decide)).rd (by decide)) (by decide) (by decide)
  have hlk : ∀ W B n, W.heap[B]? = some (.map (ments .u16 (ents bitsL)).toArray n) → (Instr.lookup 282 (.map (some B)) (.int .u16 c) false).run Tryz.prog W = .ok (.bool (decide (c ∈ bitsL))) W := fun W B n hb => look_set Tryz.underlying282 Tryz.underlying27 (fun w => by kernel_rfl) hb c
  generalize decide (c ∈ bitsL) = z at *
  go_enter Tryz.func184, Tryz.ntmps184
  go_wp2_with (go_at_call 198; with_reducible refine hs.mono ?_; rintro e w1 ⟨B, rfl, hS⟩; have hl := hlk _ _ _ hS.m)
  go_ret
  exact ⟨rfl, q1.trans hS.kept (fun _ _ h => h) (fun _ _ h => h)⟩
end Go.Proofs.YtmbjlondehcheaaGreatDoor
end
section
set_option linter.unusedSimpArgs false
set_option linter.unusedVariables false
namespace Go.Proofs.YtmbjlondehcheaaGreatDoor
open Go.Shelf Go.RowKit Go.Lib Go.Sort Go.Proofs.YtmbjlondehcheaaGreatDoorW.PrintWords Go.Proofs.YtmbjlondehcheaaGreatDoorW.PrintLast Go.Proofs.YtmbjlondehcheaaGreatDoor.PTopTalk
structure Fit (x : S35) : Prop where
  c0 : 0 ≤ x.f0 ∧ x.f0 < 256
  c1 : 0 ≤ x.f1 ∧ x.f1 < 256
  c16 : 0 ≤ x.f16 ∧ x.f16 < 256
  c17 : 0 ≤ x.f17 ∧ x.f17 < 256
  c18 : 0 ≤ x.f18 ∧ x.f18 < 256
  c19 : 0 ≤ x.f19 ∧ x.f19 < 256
  c20 : 0 ≤ x.f20 ∧ x.f20 < 256
  oct : Oct x.f14
  l12 : x.f12.length ≤ 100000
  l13 : x.f13.length ≤ 100000
  l15 : x.f15.length ≤ 100000 ∧ ∀ r ∈ x.f15, r.f3.length ≤ 100000
theorem wrap_u16 (a : Int) : IntKind.u16.wrap a = a % 65536 := by
  unfold IntKind.wrap
  simp [IntKind.bits, IntKind.signed]
theorem wrap_byte (a : Int) (h : 0 ≤ a ∧ a < 256) : IntKind.u16.wrap a = a := by rw [wrap_u16]; omega
theorem w2_byte (a b : Int) (ha : 0 ≤ a ∧ a < 256) (hb : 0 ≤ b ∧ b < 256) : w2 a b = a * 256 + b := by
  unfold w2
  rw [wrap_byte a ha, wrap_byte b hb, wrap_u16, show a * 256 % 65536 = a * 256 by omega]
  exact bits_join .u16 16 (by decide) (fun n h0 h1 => by rw [wrap_u16]; omega) 8 (a * 256) b (by omega) (by omega) (by omega) (by omega) (by omega) (by omega)
theorem same_iff (x y : S35) (hx : Fit x) (hy : Fit y) (h21 : x.f21 = []) : decide (x = y) = (decide (plainL x = plainL y) && (decide (x.f12 = y.f12) && (decide (x.f13 = y.f13) && (decide (x.f14 = y.f14) && (decide (x.f15 = y.f15) && decide (y.f21.length = 0)))))) := by
  rw [Bool.eq_iff_iff]
  simp only [Bool.and_eq_true, decide_eq_true_eq]
  constructor
  · intro h; subst h; simp [h21]
  · rintro ⟨hp, h12, h13, h14, h15, h21'⟩
    simp only [plainL, List.cons.injEq, and_true, wrap_byte _ hx.c0, wrap_byte _ hx.c1, wrap_byte _ hx.c20, wrap_byte _ hy.c0, wrap_byte _ hy.c1, wrap_byte _ hy.c20, w2_byte _ _ hx.c16 hx.c17, w2_byte _ _ hx.c18 hx.c19, w2_byte _ _ hy.c16 hy.c17, w2_byte _ _ hy.c18 hy.c19] at hp
    obtain ⟨e0, e1, e2, e3, e4, e5, e6, e7, e8, e9, e10, e11, ea, eb, e20⟩ := hp
    have a1 := hx.c16; have a2 := hx.c17; have a3 := hx.c18; have a4 := hx.c19
    have b1 := hy.c16; have b2 := hy.c17; have b3 := hy.c18; have b4 := hy.c19
    have e16 : x.f16 = y.f16 := by omega
    have e17 : x.f17 = y.f17 := by omega
    have e18 : x.f18 = y.f18 := by omega
    have e19 : x.f19 = y.f19 := by omega
    have e21 : x.f21 = y.f21 := by rw [h21, List.eq_nil_of_length_eq_zero h21']
    clear hx hy a1 a2 a3 a4 b1 b2 b3 b4 ea eb
    cases x; cases y; simp_all
set_option maxHeartbeats 1000000 in
set_option maxRecDepth 1000000 in
theorem code_same (w : World) (x y : S35) (cs ds : List Value) (hx : k35.K w x cs) (hy : k35.K w y ds) (fx : Fit x) (fy : Fit y) (h21 : x.f21 = []) : Calls Tryz.prog 142 #[.agg cs.toArray, .agg ds.toArray] w fun r w' => r = .returned (.bool (decide (x = y))) ∧ Kept w w' (fun _ => False) := by
  have HP := same_iff x y fx fy h21
  have k1 := Kept.alloc w (.cells cs.toArray 35) (fun _ => False)
  have k2 := Kept.alloc (w.alloc (.cells cs.toArray 35)) (.cells ds.toArray 35) (fun _ => False)
  have K0 := k1.trans k2 (H := fun _ => False) (fun _ _ h => h) (fun _ _ h => h)
  have f1 := k2.heap (heap_alloc_new w (.cells cs.toArray 35)) (fun h => h)
  have f2 := heap_alloc_new (w.alloc (.cells cs.toArray 35)) (.cells ds.toArray 35)
  rw [asz] at f2
  have sza : (Tryz.prog.info? 35).map (·.size) = some cs.length := by rw [k35.K_len hx]; kernel_rfl
  have szb : (Tryz.prog.info? 35).map (·.size) = some ds.length := by rw [k35.K_len hy]; kernel_rfl
  have Kx := k35.K_below K0.toBelow hx
  have Ky := k35.K_below K0.toBelow hy
  obtain ⟨A12, c12, A13, c13, A14, c14, A15, c15, A21, c21, hcs, l12, g12, l13, g13, l14, g14, l15, g15, l21, g21⟩ := k35_open Kx
  obtain ⟨B12, d12, B13, d13, B14, d14, B15, d15, B21, d21, hds, m12, k12, m13, k13, m14, k14, m15, k15, m21, k21⟩ := k35_open Ky
  generalize hW : (w.alloc (.cells cs.toArray 35)).alloc (.cells ds.toArray 35) = w0 at *
  generalize hba : w.heap.size = ba at *
  have a12 : w0.cell? ⟨ba, 12, none⟩ = some (.slice A12 x.f12.length c12) := by rw [cell_of_row w0 ba 12 _ 35 (0, 0) f1, hcs]; rfl
  have b12 : w0.cell? ⟨ba + 1, 12, none⟩ = some (.slice B12 y.f12.length d12) := by rw [cell_of_row w0 (ba + 1) 12 _ 35 (0, 0) f2, hds]; rfl
  have a13 : w0.cell? ⟨ba, 13, none⟩ = some (.slice A13 x.f13.length c13) := by rw [cell_of_row w0 ba 13 _ 35 (0, 0) f1, hcs]; rfl
  have b13 : w0.cell? ⟨ba + 1, 13, none⟩ = some (.slice B13 y.f13.length d13) := by rw [cell_of_row w0 (ba + 1) 13 _ 35 (0, 0) f2, hds]; rfl
  have a14 : w0.cell? ⟨ba, 14, none⟩ = some (.slice A14 x.f14.length c14) := by rw [cell_of_row w0 ba 14 _ 35 (0, 0) f1, hcs]; rfl
  have b14 : w0.cell? ⟨ba + 1, 14, none⟩ = some (.slice B14 y.f14.length d14) := by rw [cell_of_row w0 (ba + 1) 14 _ 35 (0, 0) f2, hds]; rfl
  have a15 : w0.cell? ⟨ba, 15, none⟩ = some (.slice A15 x.f15.length c15) := by rw [cell_of_row w0 ba 15 _ 35 (0, 0) f1, hcs]; rfl
  have b15 : w0.cell? ⟨ba + 1, 15, none⟩ = some (.slice B15 y.f15.length d15) := by rw [cell_of_row w0 (ba + 1) 15 _ 35 (0, 0) f2, hds]; rfl
  have a21 : w0.cell? ⟨ba, 21, none⟩ = some (.slice A21 x.f21.length c21) := by rw [cell_of_row w0 ba 21 _ 35 (0, 0) f1, hcs]; rfl
  have b21 : w0.cell? ⟨ba + 1, 21, none⟩ = some (.slice B21 y.f21.length d21) := by rw [cell_of_row w0 (ba + 1) 21 _ 35 (0, 0) f2, hds]; rfl
  have ra : w0.rangeAt ba 0 cs := fun j u hu => by rw [cell_of_row w0 ba (0 + j) _ 35 (0, 0) f1]; simpa using hu
  have rb : w0.rangeAt (ba + 1) 0 ds := fun j u hu => by rw [cell_of_row w0 (ba + 1) (0 + j) _ 35 (0, 0) f2]; simpa using hu
  rw [h21, List.length_nil] at a21
  have E15 : ∀ w, (binOp .eql 266 (.agg ((plainL x).map (Value.int .u16)).toArray) (.agg ((plainL y).map (Value.int .u16)).toArray)).run Tryz.prog w = .ok (.bool (decide (plainL x = plainL y))) w := fun w => eq15 w (plainL x) (plainL y) rfl rfl
  have E14 := str_eq x.f14 y.f14 fx.oct fy.oct
  have C12 := fun W (k : Kept w0 W (fun _ => False)) => eqw_calls W _ _ x.f12 y.f12 (Rd.keep ⟨A12, c12, rfl, l12, g12⟩ k) (Rd.keep ⟨B12, d12, rfl, m12, k12⟩ k) fx.l12
  have C13 := fun W (k : Kept w0 W (fun _ => False)) => eqb_calls W _ _ x.f13 y.f13 ⟨A13, c13, rfl, l13, Kd.C_below g13 k.toBelow⟩ ⟨B13, d13, rfl, m13, Kd.C_below k13 k.toBelow⟩ fx.l13
  have C15 := fun W (k : Kept w0 W (fun _ => False)) => eqr_calls W _ _ x.f15 y.f15 ⟨A15, c15, rfl, l15, Kd.C_below g15 k.toBelow⟩ ⟨B15, d15, rfl, m15, Kd.C_below k15 k.toBelow⟩ fx.l15.1 fx.l15.2
  have C21 := fun W => eqo_calls W A21 B21 y.f21.length c21 d21 (.func (.func 171) #[] #[])
  have Rx14 : Aside0 (By w0 (.slice A14 x.f14.length c14) x.f14) := ⟨⟨A14, c14, rfl, l14, g14⟩⟩
  have Ry14 : Aside0 (By w0 (.slice B14 y.f14.length d14) y.f14) := ⟨⟨B14, d14, rfl, m14, k14⟩⟩
  have Kx : Aside0 _ := ⟨Kx⟩
  have Ky : Aside0 _ := ⟨Ky⟩
  clear l12 g12 m12 k12 l13 g13 m13 k13 l14 g14 m14 k14 l15 g15 m15 k15 l21 g21 m21 k21 f1 f2 hx hy k1 k2 hcs hds fx fy h21
  generalize decide (x = y) = p at *
  generalize decide (plainL x = plainL y) = bb0 at *
  generalize decide (x.f12 = y.f12) = bb1 at *
  generalize decide (x.f13 = y.f13) = bb2 at *
  generalize decide (x.f14 = y.f14) = bb3 at *
  generalize decide (x.f15 = y.f15) = bb4 at *
  generalize decide (y.f21.length = 0) = bb5 at *
  replace HP : Aside0 _ := ⟨HP⟩
  have HW : Aside0 _ := ⟨And.intro hW hba⟩
  go_enter Tryz.func142, Tryz.ntmps142
  go_upto_region 1 with fail
  clear hW hba HW
  have S0 := Kept.drew w0 (fun _ => False)
  refine st 43 (fun w' => Kept w0 w' (fun _ => False)) [] S0 ?_
  refine ld 0 (some 5) (mk 43 1) S0 (v := .agg cs.toArray) ?_ (hy := yieldsIf_load_mid (by kernel_rfl) 35 (.tmp 2) rfl ba 0 rfl cs _ (fun w' hS => hS.range ra) Tryz.underlying35 rfl sza)
  refine ld 2 (some 7) (mk 43 5) S0 (v := .agg ds.toArray) ?_ (hy := yieldsIf_load_mid (by kernel_rfl) 35 (.tmp 3) rfl (ba + 1) 0 rfl ds _ (fun w' hS => hS.range rb) Tryz.underlying35 rfl szb)
  refine cl 1 (some 6) (mk 43 7) Tryz.func165 (args := #[.agg cs.toArray]) (plain_calls _ x cs (k35.K_below S0.toBelow Kx.out)) ?_
  rintro e w1 ⟨rfl, k1⟩
  have S1 := S0.trans k1 (H := fun _ => False) (fun _ _ h => h) (fun _ _ h => h)
  refine ⟨_, rfl, S1, nm ?_⟩
  refine cl 3 (some 8) (mk 43 15) Tryz.func165 (args := #[.agg ds.toArray]) (plain_calls _ y ds (k35.K_below S1.toBelow Ky.out)) ?_
  rintro e w3 ⟨rfl, k3⟩
  have S3 := S1.trans k3 (H := fun _ => False) (fun _ _ h => h) (fun _ _ h => h)
  refine ⟨_, rfl, S3, nm ?_⟩
  refine pu 4 (some 9) (mk 43 31) (v := .bool bb0) ?_ (hy := .inl ⟨by kernel_rfl, by intro w'; have q := E15 w'; go_simp; try with_reducible rfl⟩)
  refine pu 5 (some 10) (mk 43 63) ?_ (hy := .inl ⟨by kernel_rfl, by intro w'; go_simp; with_reducible rfl⟩)
  cases bb0
  case false =>
    refine pu 6 (some 11) (mk 43 127) ?_ (v := undef) (hy := Or.inr ⟨by kernel_rfl, rfl⟩)
    refine pu 7 (some 12) (mk 43 255) ?_ (v := undef) (hy := Or.inr ⟨by kernel_rfl, rfl⟩)
    refine pu 8 (some 13) (mk 43 511) ?_ (v := undef) (hy := Or.inr ⟨by kernel_rfl, rfl⟩)
    refine pu 9 (some 14) (mk 43 1023) ?_ (v := undef) (hy := Or.inr ⟨by kernel_rfl, rfl⟩)
    refine sk 10 (some 15) (mk 43 2047) S3 ?_
    refine pu 11 (some 16) (mk 43 4095) ?_ (hy := .inl ⟨by kernel_rfl, by intro w'; go_simp; with_reducible rfl⟩)
    refine pu 12 (some 17) (mk 43 8191) ?_ (hy := .inl ⟨by kernel_rfl, by intro w'; go_simp; with_reducible rfl⟩)
    refine pu 13 (some 18) (mk 43 16383) ?_ (v := undef) (hy := Or.inr ⟨by kernel_rfl, rfl⟩)
    refine pu 14 (some 19) (mk 43 32767) ?_ (v := undef) (hy := Or.inr ⟨by kernel_rfl, rfl⟩)
    refine pu 15 (some 20) (mk 43 65535) ?_ (v := undef) (hy := Or.inr ⟨by kernel_rfl, rfl⟩)
    refine pu 16 (some 21) (mk 43 131071) ?_ (v := undef) (hy := Or.inr ⟨by kernel_rfl, rfl⟩)
    refine sk 17 (some 22) (mk 43 262143) S3 ?_
    refine pu 18 (some 23) (mk 43 524287) ?_ (hy := .inl ⟨by kernel_rfl, by intro w'; go_simp; with_reducible rfl⟩)
    refine pu 19 (some 24) (mk 43 1048575) ?_ (hy := .inl ⟨by kernel_rfl, by intro w'; go_simp; with_reducible rfl⟩)
    refine pu 20 (some 25) (mk 43 2097151) ?_ (v := undef) (hy := Or.inr ⟨by kernel_rfl, rfl⟩)
    refine pu 21 (some 26) (mk 43 4194303) ?_ (v := undef) (hy := Or.inr ⟨by kernel_rfl, rfl⟩)
    refine pu 22 (some 27) (mk 43 8388607) ?_ (v := undef) (hy := Or.inr ⟨by kernel_rfl, rfl⟩)
    refine pu 23 (some 28) (mk 43 16777215) ?_ (v := undef) (hy := Or.inr ⟨by kernel_rfl, rfl⟩)
    refine pu 24 (some 29) (mk 43 33554431) ?_ (v := undef) (hy := Or.inr ⟨by kernel_rfl, rfl⟩)
    refine pu 25 (some 30) (mk 43 67108863) ?_ (v := undef) (hy := Or.inr ⟨by kernel_rfl, rfl⟩)
    refine pu 26 (some 31) (mk 43 134217727) ?_ (v := undef) (hy := Or.inr ⟨by kernel_rfl, rfl⟩)
    refine pu 27 (some 32) (mk 43 268435455) ?_ (hy := .inl ⟨by kernel_rfl, by intro w'; go_simp; with_reducible rfl⟩)
    refine pu 28 (some 33) (mk 43 536870911) ?_ (hy := .inl ⟨by kernel_rfl, by intro w'; go_simp; with_reducible rfl⟩)
    refine pu 29 (some 34) (mk 43 1073741823) ?_ (v := undef) (hy := Or.inr ⟨by kernel_rfl, rfl⟩)
    refine pu 30 (some 35) (mk 43 2147483647) ?_ (v := undef) (hy := Or.inr ⟨by kernel_rfl, rfl⟩)
    refine pu 31 (some 36) (mk 43 4294967295) ?_ (v := undef) (hy := Or.inr ⟨by kernel_rfl, rfl⟩)
    refine pu 32 (some 37) (mk 43 8589934591) ?_ (v := undef) (hy := Or.inr ⟨by kernel_rfl, rfl⟩)
    refine sk 33 (some 38) (mk 43 17179869183) S3 ?_
    refine pu 34 (some 39) (mk 43 34359738367) ?_ (hy := .inl ⟨by kernel_rfl, by intro w'; go_simp; with_reducible rfl⟩)
    refine pu 35 (some 40) (mk 43 68719476735) ?_ (hy := .inl ⟨by kernel_rfl, by intro w'; go_simp; with_reducible rfl⟩)
    refine pu 36 (some 41) (mk 43 137438953471) ?_ (v := undef) (hy := Or.inr ⟨by kernel_rfl, rfl⟩)
    refine pu 37 (some 42) (mk 43 274877906943) ?_ (v := undef) (hy := Or.inr ⟨by kernel_rfl, rfl⟩)
    refine pu 38 (some 43) (mk 43 549755813887) ?_ (v := undef) (hy := Or.inr ⟨by kernel_rfl, rfl⟩)
    refine pu 39 (some 44) (mk 43 1099511627775) ?_ (v := undef) (hy := Or.inr ⟨by kernel_rfl, rfl⟩)
    refine sk 40 (some 45) (mk 43 2199023255551) S3 ?_
    refine pu 41 (some 46) (mk 43 4398046511103) ?_ (hy := .inl ⟨by kernel_rfl, by intro w'; go_simp; with_reducible rfl⟩)
    refine pu 42 (some 4) (mk 43 8796093022207) ?_ (hy := .inl ⟨by kernel_rfl, by intro w'; go_simp; with_reducible rfl⟩)
    refine done_ (by kernel_rfl) ?_
    have F : Aside0 _ := ⟨K0.trans S3 (H := fun _ => False) (fun _ _ h => h) (fun _ _ h => h)⟩
    go_wp2
    go_ret
    exact ⟨by rw [HP.out]; rfl, F.out⟩
  case true =>
    refine pu 6 (some 11) (mk 43 127) ?_ (hy := .inl ⟨by kernel_rfl, by intro w'; go_simp; with_reducible rfl⟩)
    refine ld 7 (some 12) (mk 43 255) S3 ?_ (hy := .inl ⟨by kernel_rfl, by intro w' hS; have q := hS.cell a12; go_simp; with_reducible rfl⟩)
    refine pu 8 (some 13) (mk 43 511) ?_ (hy := .inl ⟨by kernel_rfl, by intro w'; go_simp; with_reducible rfl⟩)
    refine ld 9 (some 14) (mk 43 1023) S3 ?_ (hy := .inl ⟨by kernel_rfl, by intro w' hS; have q := hS.cell b12; go_simp; with_reducible rfl⟩)
    refine cl 10 (some 15) (mk 43 2047) Tryz.func166 (args := #[.slice A12 x.f12.length c12, .slice B12 y.f12.length d12]) (C12 _ S3) ?_
    rintro e w10 ⟨rfl, k10⟩
    have S10 := S3.trans k10 (H := fun _ => False) (fun _ _ h => h) (fun _ _ h => h)
    refine ⟨_, rfl, S10, nm ?_⟩
    refine pu 11 (some 16) (mk 43 4095) ?_ (hy := .inl ⟨by kernel_rfl, by intro w'; go_simp; with_reducible rfl⟩)
    refine pu 12 (some 17) (mk 43 8191) ?_ (hy := .inl ⟨by kernel_rfl, by intro w'; go_simp; with_reducible rfl⟩)
    cases bb1
    case false =>
      refine pu 13 (some 18) (mk 43 16383) ?_ (v := undef) (hy := Or.inr ⟨by kernel_rfl, rfl⟩)
      refine pu 14 (some 19) (mk 43 32767) ?_ (v := undef) (hy := Or.inr ⟨by kernel_rfl, rfl⟩)
      refine pu 15 (some 20) (mk 43 65535) ?_ (v := undef) (hy := Or.inr ⟨by kernel_rfl, rfl⟩)
      refine pu 16 (some 21) (mk 43 131071) ?_ (v := undef) (hy := Or.inr ⟨by kernel_rfl, rfl⟩)
      refine sk 17 (some 22) (mk 43 262143) S10 ?_
      refine pu 18 (some 23) (mk 43 524287) ?_ (hy := .inl ⟨by kernel_rfl, by intro w'; go_simp; with_reducible rfl⟩)
      refine pu 19 (some 24) (mk 43 1048575) ?_ (hy := .inl ⟨by kernel_rfl, by intro w'; go_simp; with_reducible rfl⟩)
      refine pu 20 (some 25) (mk 43 2097151) ?_ (v := undef) (hy := Or.inr ⟨by kernel_rfl, rfl⟩)
      refine pu 21 (some 26) (mk 43 4194303) ?_ (v := undef) (hy := Or.inr ⟨by kernel_rfl, rfl⟩)
      refine pu 22 (some 27) (mk 43 8388607) ?_ (v := undef) (hy := Or.inr ⟨by kernel_rfl, rfl⟩)
      refine pu 23 (some 28) (mk 43 16777215) ?_ (v := undef) (hy := Or.inr ⟨by kernel_rfl, rfl⟩)
      refine pu 24 (some 29) (mk 43 33554431) ?_ (v := undef) (hy := Or.inr ⟨by kernel_rfl, rfl⟩)
      refine pu 25 (some 30) (mk 43 67108863) ?_ (v := undef) (hy := Or.inr ⟨by kernel_rfl, rfl⟩)
      refine pu 26 (some 31) (mk 43 134217727) ?_ (v := undef) (hy := Or.inr ⟨by kernel_rfl, rfl⟩)
      refine pu 27 (some 32) (mk 43 268435455) ?_ (hy := .inl ⟨by kernel_rfl, by intro w'; go_simp; with_reducible rfl⟩)
      refine pu 28 (some 33) (mk 43 536870911) ?_ (hy := .inl ⟨by kernel_rfl, by intro w'; go_simp; with_reducible rfl⟩)
      refine pu 29 (some 34) (mk 43 1073741823) ?_ (v := undef) (hy := Or.inr ⟨by kernel_rfl, rfl⟩)
      refine pu 30 (some 35) (mk 43 2147483647) ?_ (v := undef) (hy := Or.inr ⟨by kernel_rfl, rfl⟩)
      refine pu 31 (some 36) (mk 43 4294967295) ?_ (v := undef) (hy := Or.inr ⟨by kernel_rfl, rfl⟩)
      refine pu 32 (some 37) (mk 43 8589934591) ?_ (v := undef) (hy := Or.inr ⟨by kernel_rfl, rfl⟩)
      refine sk 33 (some 38) (mk 43 17179869183) S10 ?_
      refine pu 34 (some 39) (mk 43 34359738367) ?_ (hy := .inl ⟨by kernel_rfl, by intro w'; go_simp; with_reducible rfl⟩)
      refine pu 35 (some 40) (mk 43 68719476735) ?_ (hy := .inl ⟨by kernel_rfl, by intro w'; go_simp; with_reducible rfl⟩)
      refine pu 36 (some 41) (mk 43 137438953471) ?_ (v := undef) (hy := Or.inr ⟨by kernel_rfl, rfl⟩)
      refine pu 37 (some 42) (mk 43 274877906943) ?_ (v := undef) (hy := Or.inr ⟨by kernel_rfl, rfl⟩)
      refine pu 38 (some 43) (mk 43 549755813887) ?_ (v := undef) (hy := Or.inr ⟨by kernel_rfl, rfl⟩)
      refine pu 39 (some 44) (mk 43 1099511627775) ?_ (v := undef) (hy := Or.inr ⟨by kernel_rfl, rfl⟩)
      refine sk 40 (some 45) (mk 43 2199023255551) S10 ?_
      refine pu 41 (some 46) (mk 43 4398046511103) ?_ (hy := .inl ⟨by kernel_rfl, by intro w'; go_simp; with_reducible rfl⟩)
      refine pu 42 (some 4) (mk 43 8796093022207) ?_ (hy := .inl ⟨by kernel_rfl, by intro w'; go_simp; with_reducible rfl⟩)
      refine done_ (by kernel_rfl) ?_
      have F : Aside0 _ := ⟨K0.trans S10 (H := fun _ => False) (fun _ _ h => h) (fun _ _ h => h)⟩
      go_wp2
      go_ret
      exact ⟨by rw [HP.out]; rfl, F.out⟩
    case true =>
      refine pu 13 (some 18) (mk 43 16383) ?_ (hy := .inl ⟨by kernel_rfl, by intro w'; go_simp; with_reducible rfl⟩)
      refine ld 14 (some 19) (mk 43 32767) S10 ?_ (hy := .inl ⟨by kernel_rfl, by intro w' hS; have q := hS.cell a13; go_simp; with_reducible rfl⟩)
      refine pu 15 (some 20) (mk 43 65535) ?_ (hy := .inl ⟨by kernel_rfl, by intro w'; go_simp; with_reducible rfl⟩)
      refine ld 16 (some 21) (mk 43 131071) S10 ?_ (hy := .inl ⟨by kernel_rfl, by intro w' hS; have q := hS.cell b13; go_simp; with_reducible rfl⟩)
      refine cl 17 (some 22) (mk 43 262143) Tryz.func167 (args := #[.slice A13 x.f13.length c13, .slice B13 y.f13.length d13]) (C13 _ S10) ?_
      rintro e w17 ⟨rfl, k17⟩
      have S17 := S10.trans k17 (H := fun _ => False) (fun _ _ h => h) (fun _ _ h => h)
      refine ⟨_, rfl, S17, nm ?_⟩
      refine pu 18 (some 23) (mk 43 524287) ?_ (hy := .inl ⟨by kernel_rfl, by intro w'; go_simp; with_reducible rfl⟩)
      refine pu 19 (some 24) (mk 43 1048575) ?_ (hy := .inl ⟨by kernel_rfl, by intro w'; go_simp; with_reducible rfl⟩)
      cases bb2
      case false =>
        refine pu 20 (some 25) (mk 43 2097151) ?_ (v := undef) (hy := Or.inr ⟨by kernel_rfl, rfl⟩)
        refine pu 21 (some 26) (mk 43 4194303) ?_ (v := undef) (hy := Or.inr ⟨by kernel_rfl, rfl⟩)
        refine pu 22 (some 27) (mk 43 8388607) ?_ (v := undef) (hy := Or.inr ⟨by kernel_rfl, rfl⟩)
        refine pu 23 (some 28) (mk 43 16777215) ?_ (v := undef) (hy := Or.inr ⟨by kernel_rfl, rfl⟩)
        refine pu 24 (some 29) (mk 43 33554431) ?_ (v := undef) (hy := Or.inr ⟨by kernel_rfl, rfl⟩)
        refine pu 25 (some 30) (mk 43 67108863) ?_ (v := undef) (hy := Or.inr ⟨by kernel_rfl, rfl⟩)
        refine pu 26 (some 31) (mk 43 134217727) ?_ (v := undef) (hy := Or.inr ⟨by kernel_rfl, rfl⟩)
        refine pu 27 (some 32) (mk 43 268435455) ?_ (hy := .inl ⟨by kernel_rfl, by intro w'; go_simp; with_reducible rfl⟩)
        refine pu 28 (some 33) (mk 43 536870911) ?_ (hy := .inl ⟨by kernel_rfl, by intro w'; go_simp; with_reducible rfl⟩)
        refine pu 29 (some 34) (mk 43 1073741823) ?_ (v := undef) (hy := Or.inr ⟨by kernel_rfl, rfl⟩)
        refine pu 30 (some 35) (mk 43 2147483647) ?_ (v := undef) (hy := Or.inr ⟨by kernel_rfl, rfl⟩)
        refine pu 31 (some 36) (mk 43 4294967295) ?_ (v := undef) (hy := Or.inr ⟨by kernel_rfl, rfl⟩)
        refine pu 32 (some 37) (mk 43 8589934591) ?_ (v := undef) (hy := Or.inr ⟨by kernel_rfl, rfl⟩)
        refine sk 33 (some 38) (mk 43 17179869183) S17 ?_
        refine pu 34 (some 39) (mk 43 34359738367) ?_ (hy := .inl ⟨by kernel_rfl, by intro w'; go_simp; with_reducible rfl⟩)
        refine pu 35 (some 40) (mk 43 68719476735) ?_ (hy := .inl ⟨by kernel_rfl, by intro w'; go_simp; with_reducible rfl⟩)
        refine pu 36 (some 41) (mk 43 137438953471) ?_ (v := undef) (hy := Or.inr ⟨by kernel_rfl, rfl⟩)
        refine pu 37 (some 42) (mk 43 274877906943) ?_ (v := undef) (hy := Or.inr ⟨by kernel_rfl, rfl⟩)
        refine pu 38 (some 43) (mk 43 549755813887) ?_ (v := undef) (hy := Or.inr ⟨by kernel_rfl, rfl⟩)
        refine pu 39 (some 44) (mk 43 1099511627775) ?_ (v := undef) (hy := Or.inr ⟨by kernel_rfl, rfl⟩)
        refine sk 40 (some 45) (mk 43 2199023255551) S17 ?_
        refine pu 41 (some 46) (mk 43 4398046511103) ?_ (hy := .inl ⟨by kernel_rfl, by intro w'; go_simp; with_reducible rfl⟩)
        refine pu 42 (some 4) (mk 43 8796093022207) ?_ (hy := .inl ⟨by kernel_rfl, by intro w'; go_simp; with_reducible rfl⟩)
        refine done_ (by kernel_rfl) ?_
        have F : Aside0 _ := ⟨K0.trans S17 (H := fun _ => False) (fun _ _ h => h) (fun _ _ h => h)⟩
        go_wp2
        go_ret
        exact ⟨by rw [HP.out]; rfl, F.out⟩
      case true =>
        refine pu 20 (some 25) (mk 43 2097151) ?_ (hy := .inl ⟨by kernel_rfl, by intro w'; go_simp; with_reducible rfl⟩)
        refine ld 21 (some 26) (mk 43 4194303) S17 ?_ (hy := .inl ⟨by kernel_rfl, by intro w' hS; have q := hS.cell a14; go_simp; with_reducible rfl⟩)
        refine ld 22 (some 27) (mk 43 8388607) S17 ?_ (hy := .inl ⟨by kernel_rfl, by intro w' hS; have q := str_by w' _ _ (Rx14.out.keep hS); go_simp; with_reducible rfl⟩)
        refine pu 23 (some 28) (mk 43 16777215) ?_ (hy := .inl ⟨by kernel_rfl, by intro w'; go_simp; with_reducible rfl⟩)
        refine ld 24 (some 29) (mk 43 33554431) S17 ?_ (hy := .inl ⟨by kernel_rfl, by intro w' hS; have q := hS.cell b14; go_simp; with_reducible rfl⟩)
        refine ld 25 (some 30) (mk 43 67108863) S17 ?_ (hy := .inl ⟨by kernel_rfl, by intro w' hS; have q := str_by w' _ _ (Ry14.out.keep hS); go_simp; with_reducible rfl⟩)
        refine pu 26 (some 31) (mk 43 134217727) (v := .bool bb3) ?_ (hy := .inl ⟨by kernel_rfl, by intro w'; have q := E14; go_simp; try with_reducible rfl⟩)
        refine pu 27 (some 32) (mk 43 268435455) ?_ (hy := .inl ⟨by kernel_rfl, by intro w'; go_simp; with_reducible rfl⟩)
        refine pu 28 (some 33) (mk 43 536870911) ?_ (hy := .inl ⟨by kernel_rfl, by intro w'; go_simp; with_reducible rfl⟩)
        cases bb3
        case false =>
          refine pu 29 (some 34) (mk 43 1073741823) ?_ (v := undef) (hy := Or.inr ⟨by kernel_rfl, rfl⟩)
          refine pu 30 (some 35) (mk 43 2147483647) ?_ (v := undef) (hy := Or.inr ⟨by kernel_rfl, rfl⟩)
          refine pu 31 (some 36) (mk 43 4294967295) ?_ (v := undef) (hy := Or.inr ⟨by kernel_rfl, rfl⟩)
          refine pu 32 (some 37) (mk 43 8589934591) ?_ (v := undef) (hy := Or.inr ⟨by kernel_rfl, rfl⟩)
          refine sk 33 (some 38) (mk 43 17179869183) S17 ?_
          refine pu 34 (some 39) (mk 43 34359738367) ?_ (hy := .inl ⟨by kernel_rfl, by intro w'; go_simp; with_reducible rfl⟩)
          refine pu 35 (some 40) (mk 43 68719476735) ?_ (hy := .inl ⟨by kernel_rfl, by intro w'; go_simp; with_reducible rfl⟩)
          refine pu 36 (some 41) (mk 43 137438953471) ?_ (v := undef) (hy := Or.inr ⟨by kernel_rfl, rfl⟩)
          refine pu 37 (some 42) (mk 43 274877906943) ?_ (v := undef) (hy := Or.inr ⟨by kernel_rfl, rfl⟩)
          refine pu 38 (some 43) (mk 43 549755813887) ?_ (v := undef) (hy := Or.inr ⟨by kernel_rfl, rfl⟩)
          refine pu 39 (some 44) (mk 43 1099511627775) ?_ (v := undef) (hy := Or.inr ⟨by kernel_rfl, rfl⟩)
          refine sk 40 (some 45) (mk 43 2199023255551) S17 ?_
          refine pu 41 (some 46) (mk 43 4398046511103) ?_ (hy := .inl ⟨by kernel_rfl, by intro w'; go_simp; with_reducible rfl⟩)
          refine pu 42 (some 4) (mk 43 8796093022207) ?_ (hy := .inl ⟨by kernel_rfl, by intro w'; go_simp; with_reducible rfl⟩)
          refine done_ (by kernel_rfl) ?_
          have F : Aside0 _ := ⟨K0.trans S17 (H := fun _ => False) (fun _ _ h => h) (fun _ _ h => h)⟩
          go_wp2
          go_ret
          exact ⟨by rw [HP.out]; rfl, F.out⟩
        case true =>
          refine pu 29 (some 34) (mk 43 1073741823) ?_ (hy := .inl ⟨by kernel_rfl, by intro w'; go_simp; with_reducible rfl⟩)
          refine ld 30 (some 35) (mk 43 2147483647) S17 ?_ (hy := .inl ⟨by kernel_rfl, by intro w' hS; have q := hS.cell a15; go_simp; with_reducible rfl⟩)
          refine pu 31 (some 36) (mk 43 4294967295) ?_ (hy := .inl ⟨by kernel_rfl, by intro w'; go_simp; with_reducible rfl⟩)
          refine ld 32 (some 37) (mk 43 8589934591) S17 ?_ (hy := .inl ⟨by kernel_rfl, by intro w' hS; have q := hS.cell b15; go_simp; with_reducible rfl⟩)
          refine cl 33 (some 38) (mk 43 17179869183) Tryz.func168 (args := #[.slice A15 x.f15.length c15, .slice B15 y.f15.length d15, .func (.func 169) #[] #[]]) (C15 _ S17) ?_
          rintro e w33 ⟨rfl, k33⟩
          have S33 := S17.trans k33 (H := fun _ => False) (fun _ _ h => h) (fun _ _ h => h)
          refine ⟨_, rfl, S33, nm ?_⟩
          refine pu 34 (some 39) (mk 43 34359738367) ?_ (hy := .inl ⟨by kernel_rfl, by intro w'; go_simp; with_reducible rfl⟩)
          refine pu 35 (some 40) (mk 43 68719476735) ?_ (hy := .inl ⟨by kernel_rfl, by intro w'; go_simp; with_reducible rfl⟩)
          cases bb4
          case false =>
            refine pu 36 (some 41) (mk 43 137438953471) ?_ (v := undef) (hy := Or.inr ⟨by kernel_rfl, rfl⟩)
            refine pu 37 (some 42) (mk 43 274877906943) ?_ (v := undef) (hy := Or.inr ⟨by kernel_rfl, rfl⟩)
            refine pu 38 (some 43) (mk 43 549755813887) ?_ (v := undef) (hy := Or.inr ⟨by kernel_rfl, rfl⟩)
            refine pu 39 (some 44) (mk 43 1099511627775) ?_ (v := undef) (hy := Or.inr ⟨by kernel_rfl, rfl⟩)
            refine sk 40 (some 45) (mk 43 2199023255551) S33 ?_
            refine pu 41 (some 46) (mk 43 4398046511103) ?_ (hy := .inl ⟨by kernel_rfl, by intro w'; go_simp; with_reducible rfl⟩)
            refine pu 42 (some 4) (mk 43 8796093022207) ?_ (hy := .inl ⟨by kernel_rfl, by intro w'; go_simp; with_reducible rfl⟩)
            refine done_ (by kernel_rfl) ?_
            have F : Aside0 _ := ⟨K0.trans S33 (H := fun _ => False) (fun _ _ h => h) (fun _ _ h => h)⟩
            go_wp2
            go_ret
            exact ⟨by rw [HP.out]; rfl, F.out⟩
          case true =>
            refine pu 36 (some 41) (mk 43 137438953471) ?_ (hy := .inl ⟨by kernel_rfl, by intro w'; go_simp; with_reducible rfl⟩)
            refine ld 37 (some 42) (mk 43 274877906943) S33 ?_ (hy := .inl ⟨by kernel_rfl, by intro w' hS; have q := hS.cell a21; go_simp; with_reducible rfl⟩)
            refine pu 38 (some 43) (mk 43 549755813887) ?_ (hy := .inl ⟨by kernel_rfl, by intro w'; go_simp; with_reducible rfl⟩)
            refine ld 39 (some 44) (mk 43 1099511627775) S33 ?_ (hy := .inl ⟨by kernel_rfl, by intro w' hS; have q := hS.cell b21; go_simp; with_reducible rfl⟩)
            refine cl 40 (some 45) (mk 43 2199023255551) Tryz.func170 (args := #[.slice A21 0 c21, .slice B21 y.f21.length d21, .func (.func 171) #[] #[]]) (C21 _) ?_
            rintro e w40 ⟨rfl, k40⟩
            have S40 := S33.trans k40 (H := fun _ => False) (fun _ _ h => h) (fun _ _ h => h)
            refine ⟨_, rfl, S40, nm ?_⟩
            refine pu 41 (some 46) (mk 43 4398046511103) ?_ (hy := .inl ⟨by kernel_rfl, by intro w'; go_simp; with_reducible rfl⟩)
            refine pu 42 (some 4) (mk 43 8796093022207) ?_ (hy := .inl ⟨by kernel_rfl, by intro w'; go_simp; with_reducible rfl⟩)
            refine done_ (by kernel_rfl) ?_
            have F : Aside0 _ := ⟨K0.trans S40 (H := fun _ => False) (fun _ _ h => h) (fun _ _ h => h)⟩
            go_wp2
            go_ret
            exact ⟨by rw [HP.out]; rfl, F.out⟩
end Go.Proofs.YtmbjlondehcheaaGreatDoor
end
