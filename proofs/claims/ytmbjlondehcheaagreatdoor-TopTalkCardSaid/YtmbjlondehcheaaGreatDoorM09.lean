/- TopTalk: part 9 of the walks: of HBits, HPut, HMap. -/
import Derived.Test.YtmbjlondehcheaaGreatDoorM06
import Derived.Test.YtmbjlondehcheaaGreatDoorM08
section
set_option linter.unusedSimpArgs false
set_option linter.unusedVariables false
namespace Go.Proofs.YtmbjlondehcheaaGreatDoor
open Go.Shelf Go.RowKit Go.Lib Go.Sort Go.Proofs.YtmbjlondehcheaaGreatDoorW.PrintWords Go.Proofs.YtmbjlondehcheaaGreatDoorW.PrintLast Go.Proofs.YtmbjlondehcheaaGreatDoor.PTopTalk
set_option maxRecDepth 1000000 in
theorem many_calls (n : Nat) (hn : n ≤ 1000000) (w : World) : Calls Tryz.prog 161 #[.int .i64 n] w fun r w' => r = .returned (.int .i64 ((n + 7) / 8 : Nat)) ∧ w' = w := by
  by_cases h : n = 0
  · subst h
    go_enter Tryz.func161, Tryz.ntmps161
    go_wp2
    go_ret
    exact ⟨rfl, rfl⟩
  · have h1 : ¬ ((n : Int) < 1) := by omega
    have h2 : (n : Int) ≤ 1000000 := by omega
    go_enter Tryz.func161, Tryz.ntmps161
    go_wp2
    go_ret
    refine ⟨?_, rfl⟩
    show Ending.returned (.int .i64 (((n : Int) - 1) / 8 + 1)) = _
    rw [show (((n : Int) - 1) / 8 + 1) = ((n : Int) + 7) / 8 by omega]
def Bo (w : World) (v : Value) (l : List Bool) : Prop := ∃ A c, v = .slice A l.length c ∧ l.length ≤ c ∧ Kd.bool.C w A l.length l
theorem info4 : ∃ ie z, Tryz.prog.info? 4 = some ie ∧ ie.zero = some z ∧ ie.size = 1 ∧ z.cells = #[.bool false] ∧ ie.bytes = 1 := by
  have h : ((Tryz.prog.info? 4).bind fun ie => ie.zero.map fun z => (ie.size, z.cells, ie.bytes)) = some (1, #[.bool false], 1) := by kernel_rfl
  cases hi : Tryz.prog.info? 4 with
  | none => rw [hi] at h; cases h
  | some ie =>
    rw [hi] at h
    cases hz : ie.zero with
    | none => simp [hz] at h
    | some z => simp [hz] at h; exact ⟨ie, z, rfl, hz, h.1, h.2.1, h.2.2⟩
theorem make_b (w : World) (n : Nat) (hn : n ≤ 1000000) : (Instr.makeSlice 31 (.int .i64 n) (.int .i64 n)).run Tryz.prog w = .ok (.slice (some ⟨w.heap.size, 0, none⟩) n n) (w.alloc (.cells (Array.replicate n (.bool false)) 4)) := by
  obtain ⟨ie, z, h1, h2, h3, h4, h5⟩ := info4
  have := run_make (P := Tryz.prog) w 31 4 ie z Tryz.underlying31 h1 h2 .i64 .i64 n n (by omega) (Int.le_refl _) (by rw [h5]; omega) (by omega)
  rw [this]
  have e : madeCells z.cells ((n : Int).toNat * ie.size) = Array.replicate n (.bool false) := by
    rw [h3, h4, Int.toNat_natCast, Nat.mul_one]
    apply Array.ext
    · simp [size_madeCells]
    · intro i h1 h2
      simp [madeCells, Nat.mod_one]
  rw [e]
  simp
def bitAt (l : List Int) (j : Nat) : Bool := bits BinOp.and IntKind.u8 (l.getD (j / 8) 0 / 2 ^ (j % 8)) 1 == 1
def upRow (l : List Int) (m i : Nat) : List Bool := (List.range m).map fun j => if j < i then bitAt l j else false
theorem upRow0 (l : List Int) (m : Nat) : ((upRow l m 0).map Value.bool).toArray = Array.replicate m (.bool false) := by
  apply Array.ext
  · simp [upRow]
  · intro i h1 h2
    simp [upRow]
theorem upRow_set (l : List Int) (m i : Nat) (hi : i < m) : ((upRow l m i).map Value.bool).toArray.setIfInBounds i (.bool (bitAt l i)) = ((upRow l m (i + 1)).map Value.bool).toArray := by
  apply Array.ext
  · simp [upRow]
  · intro j h1 h2
    simp only [upRow, List.setIfInBounds_toArray, List.getElem_toArray, List.getElem_set, List.getElem_map, List.getElem_range]
    by_cases hj : i = j
    · subst hj; simp
    · rw [if_neg hj]
      by_cases h : j < i
      · rw [if_pos h, if_pos (by omega)]
      · rw [if_neg h, if_neg (by omega)]
theorem upRow_out (l : List Int) (m i : Nat) (hi : m ≤ i) : upRow l m (i + 1) = upRow l m i := by
  unfold upRow
  apply List.map_congr_left
  intro j hj
  have : j < m := List.mem_range.1 hj
  rw [if_pos (by omega), if_pos (by omega)]
structure UpAt (w wr : World) (gb : Nat) (l : List Int) (m i : Nat) : Prop where
  row : wr.heap[gb]? = some (.cells ((upRow l m i).map Value.bool).toArray 4 (0, 0))
  no : ∀ j, m ≤ j → j < i → bitAt l j = false
  kept : Kept w wr (fun _ => False)
theorem wrap16 (n : Int) : 0 ≤ IntKind.u16.wrap n ∧ IntKind.u16.wrap n < 65536 := by
  unfold IntKind.wrap
  simp [IntKind.bits, IntKind.signed]
  omega
theorem w2_le (a b : Int) : 0 ≤ w2 a b ∧ w2 a b < 65536 := wrap16 _
theorem row_bo {w : World} {gb : Nat} {l : List Bool} (h : w.heap[gb]? = some (.cells (l.map Value.bool).toArray 4 (0, 0))) (hl : l.length ≤ 1000000) : Bo w (.slice (some ⟨gb, 0, none⟩) l.length l.length) l := by
  refine ⟨_, _, rfl, Nat.le_refl _, rfl, by omega, fun hn => ⟨_, rfl, fun j p hp => ⟨[.bool p], rfl, rfl, fun i u hu => ?_⟩⟩⟩
  have hi : i < 1 := (List.getElem?_eq_some_iff.1 hu).1
  obtain rfl : i = 0 := by omega
  have hu' : u = .bool p := by simpa using hu.symm
  subst hu'
  have e : (⟨gb, 0, none⟩ : Addr).add (j * Kd.bool.sz + 0) = ⟨gb, j, none⟩ := by simp [Addr.add, Kd.bool, Kd.scalar]; omega
  rw [e, cell_of_row w gb j _ 4 (0, 0) h]
  simp [hp]
def unpk (l : List Int) (n : Int) : List Bool × Bool :=
  if n < 0 ∨ ¬ l.length = (n.toNat + 7) / 8 then ([], false) else if ∀ j < 8 * l.length, n.toNat ≤ j → bitAt l j = false then (upRow l n.toNat (8 * l.length), true) else ([], false)
theorem Bo.nil (w : World) : Bo w (.slice none 0 0) [] := ⟨none, 0, rfl, Nat.le_refl _, Kd.C_nil _ w⟩
set_option maxHeartbeats 2000000 in
set_option maxRecDepth 1000000 in
theorem unpack_calls (w : World) (v : Value) (l : List Int) (n : Int) (h : By w v l) (hl : l.length ≤ 100000) (hn : n ≤ 1000000) : Calls Tryz.prog 162 #[v, .int .i64 n] w fun r w' => ∃ A c, r = .returned (.tuple #[.slice A (unpk l n).1.length c, .bool (unpk l n).2]) ∧ Bo w' (.slice A (unpk l n).1.length c) (unpk l n).1 ∧ New w A ∧ Kept w w' (fun _ => False) := by
  obtain ⟨A, c, rfl, hc⟩ := h.len
  by_cases h0 : n < 0
  · have hu : unpk l n = ([], false) := by rw [unpk, if_pos (.inl h0)]
    rw [hu]
    clear h hl
    go_enter Tryz.func162, Tryz.ntmps162
    go_wp2
    go_ret2
    exact ⟨_, _, rfl, Bo.nil _, (fun _ h => by cases h), Kept.refl _ _⟩
  · obtain ⟨m, rfl⟩ : ∃ m : Nat, n = (m : Int) := ⟨n.toNat, by omega⟩
    obtain ⟨k, hk⟩ : ∃ k, l.length = k := ⟨_, rfl⟩
    rw [hk] at h hl hc
    by_cases hm : k = (m + 7) / 8
    · have hmn : m ≤ 1000000 := by omega
      have hmany := many_calls m hmn w
      rw [← hm] at hmany
      have hmk := make_b w m hmn
      have HB : Aside0 _ := ⟨h⟩
      have HM : Aside0 _ := ⟨hm⟩
      have hmz : (m : Int) ≤ 1000000 := by omega
      have hkz : (k : Int) ≤ 100000 := by omega
      clear h hm
      go_enter Tryz.func162, Tryz.ntmps162
      go_wp2_with (go_at_call 161; with_reducible refine hmany.mono ?_; rintro e w1 ⟨rfl, rfl⟩)
      have q0 := Kept.alloc w1 (.cells (Array.replicate m (.bool false)) 4) (fun _ => False)
      have f0 := heap_alloc_new w1 (.cells (Array.replicate m (.bool false)) 4)
      clear hmany hmk
      obtain ⟨gb, hgb⟩ : ∃ gb, w1.heap.size = gb := ⟨_, rfl⟩
      rw [hgb] at f0 ⊢
      have START : Aside0 (UpAt w1 (w1.alloc (.cells (Array.replicate m (.bool false)) 4)) gb l m 0) := ⟨⟨by rw [f0, upRow0], fun j _ h => by omega, q0⟩⟩
      clear f0 q0
      go_loopg [23] (8 * k) (fun kx s23 wr => ∃ i : Nat, s23 = .int .i64 i ∧ i ≤ 8 * k ∧ 8 * k - i ≤ kx ∧ Aside0 (UpAt w1 wr gb l m i))
      case atStart => exact ⟨0, rfl, Nat.zero_le _, Nat.le_refl _, START⟩
      case round =>
        clear START
        obtain ⟨i, rfl, hi, hkx, D⟩ := hrel
        by_cases hlt : i < 8 * k
        · obtain ⟨q, hq⟩ : ∃ q, i / 8 = q := ⟨_, rfl⟩
          obtain ⟨r, hr⟩ : ∃ r, i % 8 = r := ⟨_, rfl⟩
          have hqk : q < k := by omega
          obtain ⟨ad, rfl, -, ca⟩ := HB.out.at_ (i := q) (by rw [hk]; exact hqk)
          obtain ⟨x, hx⟩ : ∃ x, l[q]'(by rw [hk]; exact hqk) = x := ⟨_, rfl⟩
          rw [hx] at ca
          replace ca := D.out.kept.cell ca
          have h1 : (i : Int) / 8 = (q : Int) := by omega
          have h2 : (i : Int) % 8 = (r : Int) := by omega
          have h3 : (q : Int) < (k : Int) := by omega
          have h4 : (i : Int) < 8 * (k : Int) := by omega
          have h5 : (r : Int) < 8 := by omega
          have hbx : (bits BinOp.and IntKind.u8 (x / 2 ^ r) 1 == 1) = bitAt l i := by
            rw [bitAt, List.getD_eq_getElem?_getD, hq, hr, List.getElem?_eq_getElem (by rw [hk]; exact hqk), hx]
            rfl
          obtain ⟨bt, hbt⟩ : ∃ bt, bitAt l i = bt := ⟨_, rfl⟩
          rw [hbt] at hbx
          by_cases him : i < m
          · have h6 : (i : Int) < (m : Int) := by omega
            have cg : wr.cell? ⟨gb, i, none⟩ = some (.bool false) := by
              rw [cell_of_row wr gb i _ 4 (0, 0) D.out.row]
              simp [upRow, him]
            have fz : wr.frozen? ⟨gb, i, none⟩ = false := by simp [World.frozen?, D.out.row]
            have qs := Kept.setCell wr gb i (.bool bt) (F := fun b => b = gb) rfl
            have D2 : Aside0 (UpAt w1 (wr.setCell ⟨gb, i, none⟩ (.bool bt)) gb l m (i + 1)) := ⟨by
              have := setCell_row (i := i) (v := .bool bt) D.out.row
              rw [this, ← hbt, upRow_set l m i him], fun j h1 h2 => D.out.no j h1 (by omega), D.out.kept.trans qs (fun _ _ h => h) (fun b hb e => by omega)⟩
            clear D hbt qs
            go_wp2
            go_roundg (8 * k - (i + 1))
            case measure => omega
            case rel => exact ⟨i + 1, by go_num, by omega, Nat.le_refl _, D2⟩
          · have h6 : ¬ ((i : Int) < (m : Int)) := by omega
            cases bt with
            | true =>
              have hu : Aside0 (unpk l (m : Int) = ([], false)) := ⟨by
                rw [unpk, if_neg (by rw [hk, Int.toNat_natCast]; rintro (h | h); omega; exact h HM.out), if_neg (fun hall => ?_)]
                have := hall i (by rw [hk]; exact hlt) (by rw [Int.toNat_natCast]; omega)
                rw [this] at hbt; cases hbt⟩
              have KD : Aside0 _ := ⟨D.out.kept⟩
              clear D hbt
              go_wp2
              go_ret2
              rw [hu.out]
              exact ⟨_, _, rfl, Bo.nil _, (fun _ h => by cases h), KD.out⟩
            | false =>
              have D2 : Aside0 (UpAt w1 wr gb l m (i + 1)) := ⟨by rw [upRow_out l m i (by omega)]; exact D.out.row, fun j h1 h2 => by
                rcases Nat.lt_or_ge j i with h | h
                · exact D.out.no j h1 h
                · obtain rfl : j = i := by omega
                  exact hbt, D.out.kept⟩
              clear D hbt
              go_wp2
              go_roundg (8 * k - (i + 1))
              case measure => omega
              case rel => exact ⟨i + 1, by go_num, by omega, Nat.le_refl _, D2⟩
        · have hge : ¬ ((i : Int) < 8 * (k : Int)) := by omega
          have hik : i = 8 * k := by omega
          have hlen : (upRow l m (8 * k)).length = m := by simp [upRow]
          have hu : Aside0 (unpk l (m : Int) = (upRow l m (8 * k), true)) := ⟨by
            rw [unpk, if_neg (by rw [hk, Int.toNat_natCast]; rintro (h | h); omega; exact h HM.out), if_pos (fun j h1 h2 => D.out.no j (by rw [Int.toNat_natCast] at h2; exact h2) (by rw [hik]; rw [hk] at h1; exact h1)), hk, Int.toNat_natCast]⟩
          have hb : Bo wr (.slice (some ⟨gb, 0, none⟩) (upRow l m (8 * k)).length (upRow l m (8 * k)).length) (upRow l m (8 * k)) := row_bo (by have := D.out.row; rw [hik] at this; exact this) (by rw [hlen]; omega)
          have FIN : Aside0 _ := ⟨And.intro hb D.out.kept⟩
          have HL : Aside0 _ := ⟨hlen⟩
          clear hb D hlen
          go_wp2
          go_ret2
          rw [hu.out]
          refine ⟨some ⟨gb, 0, none⟩, m, ?_, ?_, (fun ad e => by injection e with e; subst e; exact Nat.le_of_eq hgb), FIN.out.2⟩
          · rw [HL.out]; rfl
          · have := FIN.out.1; rw [HL.out] at this ⊢; exact this
    · have hu : unpk l (m : Int) = ([], false) := by rw [unpk, if_pos (.inr (by rw [hk]; simpa using hm))]
      rw [hu]
      have hmn : m ≤ 1000000 := by omega
      have hmany := many_calls m hmn w
      obtain ⟨z, hz⟩ : ∃ z, (m + 7) / 8 = z := ⟨_, rfl⟩
      rw [hz] at hmany hm
      have hkz : ¬ ((k : Int) = (z : Int)) := by omega
      have hkb : ((k : Int) != (z : Int)) = true := by rw [bne_iff_ne]; exact hkz
      clear h
      go_enter Tryz.func162, Tryz.ntmps162
      go_wp2_with (go_at_call 161; with_reducible refine hmany.mono ?_; rintro e w1 ⟨rfl, rfl⟩)
      go_ret2
      exact ⟨_, _, rfl, Bo.nil _, (fun _ h => by cases h), Kept.refl _ _⟩
theorem Bo.stay {w w' : World} {A : Option Addr} {n c : Nat} {l : List Bool} (h : Bo w (.slice A n c) l) {G : Nat → Prop} (q : Kept w w' G) (hA : ∀ ad, A = some ad → 0 < l.length → ¬ G ad.block) : Bo w' (.slice A n c) l := by
  obtain ⟨A', c', e, hc, hC⟩ := h
  injection e with e1 e2 e3
  subst e1 e2 e3
  refine ⟨A, c, rfl, hc, hC.1, hC.2.1, fun hn => ?_⟩
  obtain ⟨ad, hA', hg⟩ := hC.2.2 hn
  refine ⟨ad, hA', fun j p hp => ?_⟩
  obtain ⟨cs, hl, hR, hcell⟩ := hg j p hp
  refine ⟨cs, hl, hR, fun i u hu => ?_⟩
  have hc0 := hcell i u hu
  have hb := q.block _ (World.block_lt_of_cell? _ _ hc0) (by
    have : (ad.add (j * Kd.bool.sz + i)).block = ad.block := by unfold Addr.add; split <;> rfl
    rw [this]
    exact hA ad hA' hn)
  exact (World.cell?_of_block hb).trans hc0
theorem MsgAt.s13 {w : World} {G : Nat → Prop} {mb : Nat} {x : S35} (h : MsgAt w G mb x) {A : Option Addr} {c : Nat} {l : List Bool} (hl : Bo w (.slice A l.length c) l) (hA : ∀ ad, A = some ad → 0 < l.length → ¬ G ad.block) : MsgAt (w.setCell ⟨mb, 13, none⟩ (.slice A l.length c)) G mb { x with f13 := l } ∧ Kept w (w.setCell ⟨mb, 13, none⟩ (.slice A l.length c)) (fun b => b = mb) :=
  h.set 13 _ _ fun w' cs k hK => by
    obtain ⟨A12, c12, A13, c13, A14, c14, A15, c15, A21, c21, rfl, l12, g12, l13, g13, l14, g14, l15, g15, l21, g21⟩ := k35_open hK
    obtain ⟨A', c', e, hc, hC⟩ := hl.stay k hA
    injection e with e1 e2 e3
    subst e1 e3
    exact k35_mk w' { x with f13 := l } l12 g12 hc hC l14 g14 l15 g15 l21 g21
theorem St.word_lt (s : St) : 0 ≤ s.word.1 ∧ s.word.1 < 65536 := by
  unfold St.word St.words
  split
  · simp
  · generalize (s.bytes (2 * 1)).1 = l
    match l with
    | [] => simp [wTake]
    | [_] => simp [wTake]
    | a :: b :: t => simpa [wTake] using w2_le a b
theorem PC.byte {w : World} {G : Nat → Prop} {cb mb : Nat} {s : St} {x : S35} (h : PC w G cb mb s x) : Calls Tryz.prog 149 #[.pointer (some ⟨cb, 0, none⟩)] w fun r w' => r = .returned (.int .u8 s.byte.1) ∧ PC w' G cb mb s.byte.2 x ∧ Kept w w' (fun b => b = cb) :=
  (byte_calls w cb s h.c h.few).mono fun r w' ⟨he, hC, k⟩ => ⟨he, h.step hC k (s.bytes_le 1).2, k⟩
theorem PC.bytes {w : World} {G : Nat → Prop} {cb mb : Nat} {s : St} {x : S35} (h : PC w G cb mb s x) (n : Int) : Calls Tryz.prog 151 #[.pointer (some ⟨cb, 0, none⟩), .int .i64 n] w fun r w' => ∃ A c, r = .returned (.slice A (s.bytes n).1.length c) ∧ Stay .u8 w' G (.slice A (s.bytes n).1.length c) (s.bytes n).1 ∧ PC w' G cb mb (s.bytes n).2 x ∧ Kept w w' (fun b => b = cb) :=
  (bytes_calls w cb s n h.c h.few).mono fun r w' ⟨A, c, he, hB, hC, k⟩ => ⟨A, c, he, hB, h.step hC k (s.bytes_le n).2, k⟩
set_option maxRecDepth 1000000 in
theorem done_form (w : World) (G : Nat → Prop) (cb mb : Nat) (s : St) (x : S35) (h : PC w G cb mb s x) :
    Calls Tryz.prog 138 #[.agg #[.pointer (some ⟨cb, 0, none⟩), .pointer (some ⟨mb, 0, none⟩)]] w fun r w' => r = .returned (.tuple #[]) ∧ PC w' G cb mb (spanSt s 1968) (spanMsg s x) ∧ Kept w w' (fun b => b = cb ∨ b = mb) := by
  have q := Kept.alloc w (.cells #[.pointer (some ⟨cb, 0, none⟩), .pointer (some ⟨mb, 0, none⟩)] 236) (fun _ => False)
  have hs := span_calls _ G cb mb s x 1968 (h.keep0 q)
  have f1 := heap_alloc_new w (.cells #[.pointer (some ⟨cb, 0, none⟩), .pointer (some ⟨mb, 0, none⟩)] 236)
  have sz : (Tryz.prog.info? 236).map (·.size) = some (#[Value.pointer (some ⟨cb, 0, none⟩), Value.pointer (some ⟨mb, 0, none⟩)] : Array Value).size := by kernel_rfl
  clear h
  go_enter Tryz.func138, Tryz.ntmps138
  go_wp2_with (first
    | (refine wpList_load_row rfl 236 (.tmp 1) rfl w.heap.size rfl 236 #[.pointer (some ⟨cb, 0, none⟩), .pointer (some ⟨mb, 0, none⟩)] (0, 0) _ f1 Tryz.underlying236 rfl sz ?_)
    | (go_at_call 159; with_reducible refine hs.mono ?_; rintro e w1 ⟨rfl, P, k1⟩))
  go_end0
  exact ⟨rfl, P, q.trans k1 (fun _ _ h => h.elim) (fun _ _ h => h)⟩
def mny (n : Int) : Int := ((n.toNat + 7) / 8 : Nat)
def manySt (s : St) : St :=
  let s1 := spanSt s 1968
  let n0 := wrap64 s1.byte.1
  let s3 := s1.byte.2.need (n0 == mny s.word.2.word.1) 5
  (s3.bytes n0).2.need (unpk (s3.bytes n0).1 s.word.2.word.1).2 6
def manyMsg (s : St) (x : S35) : S35 :=
  let s1 := spanSt s 1968
  let n0 := wrap64 s1.byte.1
  let s3 := s1.byte.2.need (n0 == mny s.word.2.word.1) 5
  { spanMsg s x with f13 := (unpk (s3.bytes n0).1 s.word.2.word.1).1 }
set_option maxHeartbeats 2000000 in
set_option maxRecDepth 1000000 in
theorem many_form (w : World) (G : Nat → Prop) (cb mb : Nat) (s : St) (x : S35) (h : PC w G cb mb s x) :
    Calls Tryz.prog 137 #[.agg #[.pointer (some ⟨cb, 0, none⟩), .pointer (some ⟨mb, 0, none⟩)]] w fun r w' => r = .returned (.tuple #[]) ∧ PC w' G cb mb (manySt s) (manyMsg s x) ∧ Kept w w' (fun b => b = cb ∨ b = mb) := by
  obtain ⟨bx, hbx, P0, hbc, hbm, SB0⟩ := form_start h
  have K0 : Kept w (w.alloc (.cells #[.pointer (some ⟨cb, 0, none⟩), .pointer (some ⟨mb, 0, none⟩)] 236)) (fun b => b = cb ∨ b = mb) := Kept.alloc w _ _
  have f1 := heap_alloc_new w (.cells #[.pointer (some ⟨cb, 0, none⟩), .pointer (some ⟨mb, 0, none⟩)] 236)
  have sz : (Tryz.prog.info? 236).map (·.size) = some (#[Value.pointer (some ⟨cb, 0, none⟩), Value.pointer (some ⟨mb, 0, none⟩)] : Array Value).size := by kernel_rfl
  clear h
  unfold manySt manyMsg
  go_enter Tryz.func137, Tryz.ntmps137
  go_upto_region 1 with fail
  rw [hbx] at *
  generalize w.alloc (.cells #[.pointer (some ⟨cb, 0, none⟩), .pointer (some ⟨mb, 0, none⟩)] 236) = w0 at *
  have hd := done_form w0 G cb mb s x P0
  go_upto_region 2 with (first
    | (refine wpList_load_row rfl 236 (.tmp 1) rfl bx rfl 236 #[.pointer (some ⟨cb, 0, none⟩), .pointer (some ⟨mb, 0, none⟩)] (0, 0) _ f1 Tryz.underlying236 rfl sz ?_)
    | (go_at_call 138; with_reducible refine hd.mono ?_; rintro e w1 ⟨rfl, P1, k1⟩))
  have hcb : ¬ (fun b => b = cb ∨ b = mb) bx := fun h => by rcases h with h | h; exact hbc h; exact hbm h
  have SB1 : w1.cell? ⟨bx, 0, none⟩ = some (.pointer (some ⟨cb, 0, none⟩)) ∧ w1.cell? ⟨bx, 1, none⟩ = some (.pointer (some ⟨mb, 0, none⟩)) := ⟨k1.cellN hcb SB0.1, k1.cellN hcb SB0.2⟩
  have K1 := K0.trans k1 (H := fun b => b = cb ∨ b = mb) (fun _ _ h => h) (fun _ _ h => h)
  clear hd f1 P0 SB0 K0 k1
  generalize hs1 : spanSt s 1968 = s1 at *
  have hlt := s.word.2.word_lt
  have hx1 : (spanMsg s x).f3 = s.word.2.word.1 := rfl
  generalize hx0 : spanMsg s x = x1 at *
  generalize hn : s.word.2.word.1 = n at *
  have EA : Aside0 _ := ⟨And.intro hs1 hn⟩
  have EX : Aside0 _ := ⟨hx0⟩
  clear hs1 hn hx0
  have hb := P1.byte
  obtain ⟨b0, b1⟩ := SB1
  go_upto_region 3 with (go_at_call 149; with_reducible refine hb.mono ?_; rintro e w2 ⟨rfl, P2, k2⟩)
  have K2 := K1.trans k2 (H := fun b => b = cb ∨ b = mb) (fun _ _ h => h) (fun _ _ h => .inl h)
  have SB2 := bx_keep k2 hbc ⟨b0, b1⟩
  clear hb K1 k2 P1 b0 b1
  generalize hn0 : wrap64 s1.byte.1 = n0 at *
  generalize hs2 : s1.byte.2 = s2 at *
  have EB : Aside0 _ := ⟨And.intro hn0 hs2⟩
  clear hn0 hs2
  obtain ⟨nn, hnn0⟩ : ∃ nn : Nat, n.toNat = nn := ⟨_, rfl⟩
  have hnn : nn ≤ 1000000 := by omega
  have hnc : n = (nn : Int) := by omega
  have hw : IntKind.i64.wrap n = (nn : Int) := by rw [wrapi _ (by omega)]; exact hnc
  have PC0 := P2.keep0 (Kept.drew w2 _)
  have SB := bx_keep (Kept.drew w2 _) hbc SB2
  have K3 := K2.trans (Kept.drew w2 (fun _ => False)) (fun _ _ h => h) (fun _ _ h => h.elim)
  have hg3 : ∀ W, MsgAt W G mb x1 → W.cell? ⟨mb, 3, none⟩ = some (.int .u16 n) := fun W h => by rw [← hx1]; exact h.g3
  clear P2 SB2 K2 hlt
  have EM : Aside0 (mny n = (((nn + 7) / 8 : Nat) : Int)) := ⟨by rw [mny, hnn0]⟩
  have EC : Aside0 _ := ⟨And.intro hnn0 hnc⟩
  clear hnn0 hnc
  refine st 12 (fun w' => (w'.cell? ⟨bx, 0, none⟩ = some (.pointer (some ⟨cb, 0, none⟩)) ∧ w'.cell? ⟨bx, 1, none⟩ = some (.pointer (some ⟨mb, 0, none⟩))) ∧ w'.cell? ⟨mb, 3, none⟩ = some (.int .u16 n)) [] (⟨SB, hg3 _ PC0.m⟩) ?_
  refine pu 0 (some 11) (mk 12 1) ?_
  refine ld 1 (some 12) (mk 12 3) (⟨SB, hg3 _ PC0.m⟩) ?_ (hy := .inl ⟨by rfl, by intro w' hS; obtain ⟨⟨q0, q1⟩, q2⟩ := hS; have q3 := hw; go_simp; with_reducible rfl⟩)
  refine pu 2 (some 13) (mk 12 7) ?_
  refine pu 3 (some 14) (mk 12 15) ?_
  refine ld 4 (some 15) (mk 12 31) (⟨SB, hg3 _ PC0.m⟩) ?_ (hy := .inl ⟨by rfl, by intro w' hS; obtain ⟨⟨q0, q1⟩, q2⟩ := hS; have q3 := hw; go_simp; with_reducible rfl⟩)
  refine pu 5 (some 16) (mk 12 63) ?_
  refine pu 6 (some 17) (mk 12 127) ?_
  refine ld 7 (some 18) (mk 12 255) (⟨SB, hg3 _ PC0.m⟩) ?_ (hy := .inl ⟨by rfl, by intro w' hS; obtain ⟨⟨q0, q1⟩, q2⟩ := hS; have q3 := hw; go_simp; with_reducible rfl⟩)
  refine pu 8 (some 19) (mk 12 511) ?_
  refine cl 9 (some 20) (mk 12 1023) Tryz.func161 (args := #[.int .i64 (nn : Nat)]) (many_calls nn hnn _) ?_
  rintro e w4 ⟨rfl, rfl⟩
  refine ⟨_, rfl, ⟨SB, hg3 _ PC0.m⟩, nm ?_⟩
  refine pu 10 (some 21) (mk 12 2047) ?_
  refine cl 11 (some 22) (mk 12 4095) Tryz.func150 (args := #[.pointer (some ⟨cb, 0, none⟩), .bool (n0 == (((nn + 7) / 8 : Nat) : Int)), .int .i64 5]) (PC0.need (n0 == (((nn + 7) / 8 : Nat) : Int)) 5) ?_
  rintro e w5 ⟨rfl, PC1, k1⟩
  have SB := bx_keep k1 hbc SB
  refine ⟨_, rfl, (⟨SB, hg3 _ PC1.m⟩ : (w5.cell? ⟨bx, 0, none⟩ = some (.pointer (some ⟨cb, 0, none⟩)) ∧ w5.cell? ⟨bx, 1, none⟩ = some (.pointer (some ⟨mb, 0, none⟩))) ∧ w5.cell? ⟨mb, 3, none⟩ = some (.int .u16 n)), nm ?_⟩
  refine done_ (by kernel_rfl) ?_
  have K5 := K3.trans k1 (H := fun b => b = cb ∨ b = mb) (fun _ _ h => h) (fun _ _ h => .inl h)
  have SB5 : Aside0 _ := ⟨SB⟩
  clear PC0 SB K3 k1
  generalize hs3 : s2.need (n0 == (((nn + 7) / 8 : Nat) : Int)) 5 = s3 at *
  have ED : Aside0 _ := ⟨hs3⟩
  clear hs3
  go_upto_region 4 with fail
  have PC2 := PC1.keep0 (Kept.drew w5 _)
  have SB := bx_keep (Kept.drew w5 _) hbc SB5.out
  have K6 := K5.trans (Kept.drew w5 (fun _ => False)) (fun _ _ h => h) (fun _ _ h => h.elim)
  clear PC1 SB5 K5
  refine st 16 (fun w' => (w'.cell? ⟨bx, 0, none⟩ = some (.pointer (some ⟨cb, 0, none⟩)) ∧ w'.cell? ⟨bx, 1, none⟩ = some (.pointer (some ⟨mb, 0, none⟩))) ∧ w'.cell? ⟨mb, 3, none⟩ = some (.int .u16 n)) [] (⟨SB, hg3 _ PC2.m⟩) ?_
  refine pu 0 (some 24) (mk 16 1) ?_
  refine ld 1 (some 25) (mk 16 3) (⟨SB, hg3 _ PC2.m⟩) ?_ (hy := .inl ⟨by rfl, by intro w' hS; obtain ⟨⟨q0, q1⟩, q2⟩ := hS; have q3 := hw; go_simp; with_reducible rfl⟩)
  refine pu 2 (some 26) (mk 16 7) ?_
  refine pu 4 (some 28) (mk 16 23) ?_
  refine ld 5 (some 29) (mk 16 55) (⟨SB, hg3 _ PC2.m⟩) ?_ (hy := .inl ⟨by rfl, by intro w' hS; obtain ⟨⟨q0, q1⟩, q2⟩ := hS; have q3 := hw; go_simp; with_reducible rfl⟩)
  refine pu 6 (some 30) (mk 16 119) ?_
  refine pu 7 (some 31) (mk 16 247) ?_
  refine ld 8 (some 32) (mk 16 503) (⟨SB, hg3 _ PC2.m⟩) ?_ (hy := .inl ⟨by rfl, by intro w' hS; obtain ⟨⟨q0, q1⟩, q2⟩ := hS; have q3 := hw; go_simp; with_reducible rfl⟩)
  refine pu 9 (some 33) (mk 16 1015) ?_
  refine cl 3 (some 27) (mk 16 1023) Tryz.func151 (args := #[.pointer (some ⟨cb, 0, none⟩), .int .i64 n0]) (PC2.bytes n0) ?_
  rintro e w6 ⟨A6, c6, rfl, hB6, PC3, k6⟩
  have SB := bx_keep k6 hbc SB
  refine ⟨_, rfl, (⟨SB, hg3 _ PC3.m⟩ : (w6.cell? ⟨bx, 0, none⟩ = some (.pointer (some ⟨cb, 0, none⟩)) ∧ w6.cell? ⟨bx, 1, none⟩ = some (.pointer (some ⟨mb, 0, none⟩))) ∧ w6.cell? ⟨mb, 3, none⟩ = some (.int .u16 n)), nm ?_⟩
  refine cl 10 (some 34) (mk 16 2047) Tryz.func162 (args := #[.slice A6 (s3.bytes n0).1.length c6, .int .i64 (nn : Nat)]) (unpack_calls w6 _ _ (nn : Nat) hB6.now (Nat.le_trans (s3.bytes_le n0).1 PC2.few) (by omega)) ?_
  rintro e w7 ⟨A7, c7, rfl, hB7, hN7, k7⟩
  have SB := bx_keep (b0 := cb) (k7.mono (fun _ _ h => h.elim)) hbc SB
  refine ⟨_, rfl, (⟨SB, hg3 _ (PC3.keep0 k7).m⟩ : (w7.cell? ⟨bx, 0, none⟩ = some (.pointer (some ⟨cb, 0, none⟩)) ∧ w7.cell? ⟨bx, 1, none⟩ = some (.pointer (some ⟨mb, 0, none⟩))) ∧ w7.cell? ⟨mb, 3, none⟩ = some (.int .u16 n)), nm ?_⟩
  refine pu 11 (some 23) (mk 16 4095) ?_
  refine pu 12 (some 35) (mk 16 8191) ?_
  refine pu 13 (some 36) (mk 16 16383) ?_
  refine pu 14 (some 3) (mk 16 32767) ?_
  refine pu 15 (some 4) (mk 16 65535) ?_
  refine done_ (by kernel_rfl) ?_
  have PC4 := PC3.keep0 k7
  have K7 := (K6.trans k6 (H := fun b => b = cb ∨ b = mb) (fun _ _ h => h) (fun _ _ h => .inl h)).trans k7 (fun _ _ h => h) (fun _ _ h => h.elim)
  have hS7 : ∀ ad, A7 = some ad → 0 < (unpk (s3.bytes n0).1 (nn : Nat)).1.length → ¬ G ad.block := fun ad e _ g => by have := hN7 ad e; have := PC3.c.low _ g; omega
  clear PC2 PC3 K6 k6 k7 hB6 hN7
  obtain ⟨b0, b1⟩ := SB
  have hnd := PC4.need (unpk (s3.bytes n0).1 (nn : Nat)).2 6
  have HB7 : Aside0 _ := ⟨hB7⟩
  clear hB7
  go_upto_region 6 with (go_at_call 150; with_reducible refine hnd.mono ?_; rintro e w8 ⟨rfl, P8, k8⟩)
  have b1' := k8.cellN (a := ⟨bx, 1, none⟩) hbc b1
  have hB8 := HB7.out.stay (k8.mono (G := fun b => b = cb ∨ b = mb) (fun _ _ h => .inl h)) (fun ad e h0 g => hS7 ad e h0 (by rcases g with g | g; exact g ▸ PC4.c.hot; exact g ▸ PC4.m.hot))
  have K8 := K7.trans k8 (H := fun b => b = cb ∨ b = mb) (fun _ _ h => h) (fun _ _ h => .inl h)
  have hset := P8.m.s13 hB8 hS7
  have FIN : Aside0 _ := ⟨And.intro (P8.put hset) (K8.trans hset.2 (H := fun b => b = cb ∨ b = mb) (fun _ _ h => h) (fun _ _ h => .inr h))⟩
  clear hnd b0 b1 K7 k8 K8 hset hB8 HB7 PC4
  go_wp2_with (refine wpList_plain rfl fun _ hK => wp_store_msg 31 (.tmp 45) (.tmp 43) rfl mb 13 (.slice A7 (unpk (s3.bytes n0).1 (nn : Nat)).1.length c7) rfl rfl rfl P8.m (by decide) (by kernel_rfl) (hK _ _ ?_))
  go_end0
  refine ⟨rfl, ?_, FIN.out.2⟩
  have h1 := FIN.out.1
  simp only [EA.out.1, EA.out.2, EB.out.1, EB.out.2, EX.out, EM.out, ED.out]
  rw [EC.out.2]
  exact h1
end Go.Proofs.YtmbjlondehcheaaGreatDoor
end
section
set_option linter.unusedSimpArgs false
set_option linter.unusedVariables false
namespace Go.Proofs.YtmbjlondehcheaaGreatDoor
open Go.Shelf Go.RowKit Go.Lib Go.Sort Go.Proofs.YtmbjlondehcheaaGreatDoorW.PrintWords Go.Proofs.YtmbjlondehcheaaGreatDoorW.PrintLast Go.Proofs.YtmbjlondehcheaaGreatDoor.PTopTalk
structure Ow (k : IntKind) (te : TypeId) (w0 w : World) (v : Value) (l : List Int) : Prop where
  row : w.ownsRow 0 te 1 v l.length (l.map (Value.int k))
  new : ∀ b, some b = v.ownBlock → w0.heap.size ≤ b
  kept : Kept w0 w (fun _ => False)
abbrev OB := Ow .u8 5
theorem Ow.nil {k : IntKind} {te : TypeId} {w0 w : World} (q : Kept w0 w (fun _ => False)) : Ow k te w0 w (.slice none 0 0) [] := ⟨World.ownsRow_nil _ _ _ _, fun b hb => by simp [Value.ownBlock] at hb, q⟩
theorem Ow.lit {k : IntKind} {te : TypeId} {w0 w : World} (q : Kept w0 w (fun _ => False)) (l : List Int) (h0 : 0 < l.length) (hl : l.length ≤ 1000000) : Ow k te w0 (w.alloc (.cells (l.map (Value.int k)).toArray te)) (.slice (some ⟨w.heap.size, 0, none⟩) l.length l.length) l :=
  ⟨⟨by simp, .inr ⟨w.heap.size, l.length, (l.map (Value.int k)).toArray, rfl, Nat.zero_le _, heap_alloc_new _ _, Nat.le_refl _, by unfold maxLen; omega, by simp, by simp [List.take_of_length_le]⟩⟩, fun b hb => by simp [Value.ownBlock] at hb; have := q.size; omega, q.trans (Kept.alloc w _ (fun _ => False)) (fun _ _ h => h) (fun _ _ h => h)⟩
theorem Ow.keep {k : IntKind} {te : TypeId} {w0 w w' : World} {v : Value} {l : List Int} (h : Ow k te w0 w v l) (q : Kept w w' (fun _ => False)) : Ow k te w0 w' v l := ⟨q.owns h.row (fun _ _ h => h), h.new, h.kept.trans q (fun _ _ h => h) (fun _ _ h => h)⟩
theorem Ow.base {k : IntKind} {te : TypeId} {w0 w1 w : World} {v : Value} {l : List Int} (q : Kept w0 w1 (fun _ => False)) (h : Ow k te w1 w v l) : Ow k te w0 w v l := ⟨h.row, fun b hb => Nat.le_trans q.size (h.new b hb), q.trans h.kept (fun _ _ h => h) (fun _ _ h => h)⟩
theorem Ow.rd {k : IntKind} {te : TypeId} {w0 w : World} {v : Value} {l : List Int} (h : Ow k te w0 w v l) (hl : l.length ≤ 1000000) : Rd k w v l := row_rd h.row hl
theorem Ow.app {k : IntKind} {ts te : TypeId} {bytes : Nat} (ht : Tryz.prog.underlying ts = some (.slice te)) (hi : ∃ ie z, Tryz.prog.info? te = some ie ∧ ie.zero = some z ∧ ie.size = 1 ∧ z.cells.size = 1 ∧ ie.bytes = bytes) (hb8 : bytes ≤ 8) {w0 w : World} {v : Value} {l : List Int} (h : Ow k te w0 w v l) (ty : TypeId) {u : Value} {m : List Int} (hu : Rd k w u m) (hn : l.length + m.length ≤ 1000000) :
    ∃ v' w', (Builtin.append_ #[ts, ts] ty #[v, u]).run Tryz.prog w = .ok v' w' ∧ Ow k te w0 w' v' (l ++ m) ∧ Kept w w' (fun b => some b = v.ownBlock) := by
  obtain ⟨v', w', a1, a2, a3, a4⟩ := app_rd ht hi hb8 w ty v l.length _ h.row u m hu hn
  have kg := Kept.grown a3 (F := fun b => some b = v.ownBlock) (fun _ h => h)
  have hs := h.kept.size
  refine ⟨v', w', a1, ⟨by rw [List.length_append, List.map_append]; exact a2, fun b hb => ?_, h.kept.trans kg (fun _ _ h => h) (fun b hb e => by have := h.new b e; omega)⟩, kg⟩
  rcases a4 with e | e
  · exact h.new b (hb.trans e)
  · rw [e] at hb; injection hb with hb; omega
theorem OB.app {w0 w : World} {v : Value} {l : List Int} (h : OB w0 w v l) (ty : TypeId) {u : Value} {m : List Int} (hu : By w u m) (hn : l.length + m.length ≤ 1000000) :
    ∃ v' w', (Builtin.append_ #[23, 23] ty #[v, u]).run Tryz.prog w = .ok v' w' ∧ OB w0 w' v' (l ++ m) ∧ Kept w w' (fun b => some b = v.ownBlock) := Ow.app Tryz.underlying23 info5 (by omega) h ty hu hn
theorem Rd.beside {k : IntKind} {w w' : World} {A : Option Addr} {n c : Nat} {l : List Int} {v : Value} (h : Rd k w (.slice A n c) l) (q : Kept w w' (fun b => some b = v.ownBlock)) (hn : ∀ ad, A = some ad → ¬ some ad.block = v.ownBlock) : Rd k w' (.slice A n c) l := h.stay q (fun ad e _ => hn ad e)
def Oct (l : List Int) : Prop := ∀ x ∈ l, 0 ≤ x ∧ x < 256
theorem Oct.app {l m : List Int} (h : Oct l) (k : Oct m) : Oct (l ++ m) := fun x hx => (List.mem_append.1 hx).elim (h x) (k x)
theorem Oct.one (n : Int) : Oct [n % 256] := fun x hx => by simp at hx; omega
def wPut (l : List Int) : List Int := l.flatMap fun x => [x / 256 % 256, x % 256]
theorem wPut_len (l : List Int) : (wPut l).length = 2 * l.length := by
  induction l with
  | nil => rfl
  | cons x t ih => simp only [wPut, List.flatMap_cons, List.length_append, List.length_cons, List.length_nil] at ih ⊢; omega
theorem wPut_oct (l : List Int) : Oct (wPut l) := fun x hx => by
  obtain ⟨y, _, hy⟩ := List.mem_flatMap.1 hx
  rcases List.mem_cons.1 hy with rfl | hy
  · omega
  · rcases List.mem_cons.1 hy with rfl | hy
    · omega
    · cases hy
set_option maxHeartbeats 1000000 in
set_option maxRecDepth 1000000 in
theorem wput_calls (w : World) (v : Value) (l : List Int) (h : Wo w v l) (hl : l.length ≤ 100000) : Calls Tryz.prog 163 #[v] w fun r w' => ∃ u, r = .returned u ∧ OB w w' u (wPut l) := by
  obtain ⟨A, c, rfl, hc⟩ := h.len
  obtain ⟨n, hn⟩ : ∃ n, l.length = n := ⟨_, rfl⟩
  rw [hn] at h hc hl ⊢
  have HN : Aside0 _ := ⟨hn⟩
  have HB : Aside0 _ := ⟨h⟩
  clear h hn
  have START : Aside0 (OB w w (.slice none 0 0) []) := ⟨Ow.nil (Kept.refl _ _)⟩
  go_enter Tryz.func163, Tryz.ntmps163
  go_wp2
  go_loopg [3, 8] n (fun kx s3 s8 wr => ∃ i : Nat, s8 = .int .i64 i ∧ i ≤ n ∧ n - i ≤ kx ∧ Aside0 (OB w wr s3 (wPut (l.take i))))
  case atStart => exact ⟨0, rfl, Nat.zero_le _, Nat.le_refl _, START⟩
  case round =>
    clear START
    obtain ⟨i, rfl, hi, hkx, D⟩ := hrel
    by_cases hlt : i < n
    · obtain ⟨ad, rfl, -, ca⟩ := HB.out.at_ (i := i) (by rw [HN.out]; exact hlt)
      obtain ⟨x, hx⟩ : ∃ x, l[i]'(by rw [HN.out]; exact hlt) = x := ⟨_, rfl⟩
      rw [hx] at ca
      replace ca := D.out.kept.cell ca
      have hiz : (i : Int) < (n : Int) := by omega
      have hnz : (n : Int) ≤ 100000 := by omega
      have NX : ∃ v' w', (Builtin.append_ #[23, 23] 23 #[u3, .slice (some ⟨wr.heap.size, 0, none⟩) 2 2]).run Tryz.prog (wr.alloc (.cells #[.int .u8 (x / 256 % 256), .int .u8 (x % 256)] 5)) = .ok v' w' ∧ OB w w' v' (wPut (l.take (i + 1))) := by
        have q2 := Kept.alloc wr (.cells #[.int .u8 (x / 256 % 256), .int .u8 (x % 256)] 5) (fun _ => False)
        have hw := (Ow.lit (k := .u8) (te := 5) (Kept.refl wr _) [x / 256 % 256, x % 256] (by simp) (by simp)).rd (by simp)
        have hln : (wPut (l.take i)).length + [x / 256 % 256, x % 256].length ≤ 1000000 := by rw [wPut_len, List.length_take]; simp; omega
        obtain ⟨v', w', a1, a2, -⟩ := OB.app (D.out.keep q2) 23 hw hln
        refine ⟨v', w', a1, ?_⟩
        have e : wPut (l.take (i + 1)) = wPut (l.take i) ++ [x / 256 % 256, x % 256] := by
          rw [List.take_add_one, List.getElem?_eq_getElem (by rw [HN.out]; exact hlt), hx]
          simp [wPut]
        rw [e]
        exact a2
      obtain ⟨v', w', ha, hR⟩ := NX
      have D2 : Aside0 _ := ⟨hR⟩
      clear hR D
      go_wp2_with (refine wpList_app rfl (.tmp 12) (.tmp 18) 23 23 rfl (some 19) rfl u3 (.slice (some ⟨wr.heap.size, 0, none⟩) 2 2) rfl rfl v' w' ha ?_)
      go_roundg (n - (i + 1))
      case measure => omega
      case rel => exact ⟨i + 1, by go_num, by omega, by omega, D2⟩
    · have hge : ¬ ((i : Int) < (n : Int)) := by omega
      have hin : i = n := by omega
      have h1 := D.out
      rw [hin, List.take_of_length_le (Nat.le_of_eq HN.out)] at h1
      have FIN : Aside0 _ := ⟨h1⟩
      clear h1 D
      go_wp2
      go_ret
      exact ⟨_, rfl, FIN.out⟩
theorem wrap8 (n : Int) : 0 ≤ IntKind.u8.wrap n ∧ IntKind.u8.wrap n < 256 := by
  unfold IntKind.wrap
  simp [IntKind.bits, IntKind.signed]
  omega
theorem Bo.at_ {w : World} {A : Option Addr} {n c : Nat} {l : List Bool} (h : Bo w (.slice A n c) l) {i : Nat} (hi : i < l.length) : ∃ ad, A = some ad ∧ n = l.length ∧ w.cell? (ad.add i) = some (.bool l[i]) := by
  obtain ⟨A', c', e, hc, hC⟩ := h
  injection e with e1 e2 e3
  subst e1 e2 e3
  obtain ⟨ad, hA, hg⟩ := hC.2.2 (by omega)
  obtain ⟨cs, hl, hR, hcell⟩ := hg i l[i] (List.getElem?_eq_getElem hi)
  have hR' : cs = [.bool l[i]] := hR
  subst hR'
  refine ⟨ad, hA, rfl, ?_⟩
  have := hcell 0 _ rfl
  simpa [Kd.bool, Kd.scalar] using this
theorem info5c : ∃ ie z, Tryz.prog.info? 5 = some ie ∧ ie.zero = some z ∧ ie.size = 1 ∧ z.cells = #[.int .u8 0] ∧ ie.bytes = 1 := by
  have h : ((Tryz.prog.info? 5).bind fun ie => ie.zero.map fun z => (ie.size, z.cells, ie.bytes)) = some (1, #[.int .u8 0], 1) := by kernel_rfl
  cases hi : Tryz.prog.info? 5 with
  | none => rw [hi] at h; cases h
  | some ie =>
    rw [hi] at h
    cases hz : ie.zero with
    | none => simp [hz] at h
    | some z => simp [hz] at h; exact ⟨ie, z, rfl, hz, h.1, h.2.1, h.2.2⟩
theorem make_o (w : World) (n : Nat) (hn : n ≤ 1000000) : (Instr.makeSlice 23 (.int .i64 n) (.int .i64 n)).run Tryz.prog w = .ok (.slice (some ⟨w.heap.size, 0, none⟩) n n) (w.alloc (.cells (Array.replicate n (.int .u8 0)) 5)) := by
  obtain ⟨ie, z, h1, h2, h3, h4, h5⟩ := info5c
  have := run_make (P := Tryz.prog) w 23 5 ie z Tryz.underlying23 h1 h2 .i64 .i64 n n (by omega) (Int.le_refl _) (by rw [h5]; omega) (by omega)
  rw [this]
  have e : madeCells z.cells ((n : Int).toNat * ie.size) = Array.replicate n (.int .u8 0) := by
    rw [h3, h4, Int.toNat_natCast, Nat.mul_one]
    apply Array.ext
    · simp [size_madeCells]
    · intro i h1 h2
      simp [madeCells, Nat.mod_one]
  rw [e]
  simp
structure PkAt (w0 w : World) (gb m : Nat) : Prop where
  row : ∃ b : List Int, (b.length = m ∧ Oct b) ∧ w.heap[gb]? = some (.cells (b.map (Value.int .u8)).toArray 5 (0, 0))
  kept : Kept w0 w (fun b => b = gb)
set_option maxHeartbeats 1000000 in
set_option maxRecDepth 1000000 in
theorem pack_calls (w : World) (v : Value) (l : List Bool) (h : Bo w v l) (hl : l.length ≤ 100000) : Calls Tryz.prog 164 #[v] w fun r w' => ∃ A c b, r = .returned (.slice A b.length c) ∧ By w' (.slice A b.length c) b ∧ (b.length = (l.length + 7) / 8 ∧ Oct b) ∧ New w A ∧ Kept w w' (fun _ => False) := by
  obtain ⟨A, c, rfl, hc, hC⟩ := id h
  clear hC
  obtain ⟨n, hn⟩ : ∃ n, l.length = n := ⟨_, rfl⟩
  rw [hn] at h hc hl ⊢
  obtain ⟨m, hm⟩ : ∃ m, (n + 7) / 8 = m := ⟨_, rfl⟩
  have hmany := many_calls n (by omega) w
  rw [hm] at hmany ⊢
  have hmk := make_o w m (by omega)
  have HN : Aside0 _ := ⟨hn⟩
  have HB : Aside0 _ := ⟨h⟩
  have HM : Aside0 _ := ⟨hm⟩
  have hnz : (n : Int) ≤ 100000 := by omega
  have hmz : (m : Int) ≤ 100000 := by omega
  clear h hn hm
  go_enter Tryz.func164, Tryz.ntmps164
  go_wp2_with (go_at_call 161; with_reducible refine hmany.mono ?_; rintro e w1 ⟨rfl, rfl⟩)
  have START : Aside0 (PkAt w1 (w1.alloc (.cells (Array.replicate m (.int .u8 0)) 5)) w1.heap.size m) := ⟨⟨List.replicate m 0, ⟨by simp, fun x hx => by simp at hx; omega⟩, by rw [heap_alloc_new]; simp⟩, Kept.alloc w1 _ _⟩
  clear hmany hmk
  obtain ⟨gb, hgb⟩ : ∃ gb, w1.heap.size = gb := ⟨_, rfl⟩
  rw [hgb] at START ⊢
  have HG : Aside0 _ := ⟨hgb⟩
  clear hgb
  go_loopg [12] n (fun kx s12 wr => ∃ i : Nat, s12 = .int .i64 i ∧ i ≤ n ∧ n - i ≤ kx ∧ Aside0 (PkAt w1 wr gb m))
  case atStart => exact ⟨0, rfl, Nat.zero_le _, Nat.le_refl _, START⟩
  case round =>
    clear START
    obtain ⟨i, rfl, hi, hkx, D⟩ := hrel
    by_cases hlt : i < n
    · obtain ⟨ad, rfl, -, ca⟩ := HB.out.at_ (i := i) (by rw [HN.out]; exact hlt)
      have hiz : (i : Int) < (n : Int) := by omega
      obtain ⟨x, hx⟩ : ∃ x, l[i]'(by rw [HN.out]; exact hlt) = x := ⟨_, rfl⟩
      rw [hx] at ca
      replace ca := D.out.kept.cellN (by have := World.block_lt_of_cell? _ _ ca; have := HG.out; omega) ca
      cases x with
      | false =>
        go_wp2
        go_roundg (n - (i + 1))
        case measure => omega
        case rel => exact ⟨i + 1, by go_num, by omega, by omega, D⟩
      | true =>
        obtain ⟨b, ⟨hb, hoct⟩, hrow⟩ := D.out.row
        obtain ⟨q, hq⟩ : ∃ q, i / 8 = q := ⟨_, rfl⟩
        obtain ⟨r, hr⟩ : ∃ r, i % 8 = r := ⟨_, rfl⟩
        have hqm : q < m := by have := HM.out; omega
        have h1 : (i : Int) / 8 = (q : Int) := by omega
        have h2 : (i : Int) % 8 = (r : Int) := by omega
        have h3 : (q : Int) < (m : Int) := by omega
        have h5 : (r : Int) < 8 := by omega
        have h6 : Int.tdiv (i : Int) 8 = (q : Int) := by rw [Int.tdiv_eq_ediv_of_nonneg (by omega)]; omega
        have h7 : Int.tmod (i : Int) 8 = (r : Int) := by rw [Int.tmod_eq_emod_of_nonneg (by omega)]; omega
        have h8 : IntKind.i64.wrap (q : Int) = (q : Int) := wrapi _ (by omega)
        have h9 : IntKind.i64.wrap (r : Int) = (r : Int) := wrapi _ (by omega)
        obtain ⟨y, hy⟩ : ∃ y, b[q]? = some y := ⟨_, List.getElem?_eq_getElem (by omega)⟩
        have cg : wr.cell? ⟨gb, q, none⟩ = some (.int .u8 y) := by
          rw [cell_of_row wr gb q _ 5 (0, 0) hrow]
          simp [hy]
        have hbl : q < (b.map (Value.int .u8)).toArray.size := by simp; omega
        have HY : Aside0 _ := ⟨And.intro hb (And.intro hbl hrow)⟩
        clear hq hr hb hy hbl hrow
        have HO : Aside0 _ := ⟨hoct⟩
        clear hoct
        go_upto_region 6 with fail
        refine st 11 (fun w' => w'.cell? ⟨gb, q, none⟩ = some (.int .u8 y)) [10] (show wr.drew.cell? ⟨gb, q, none⟩ = some (.int .u8 y) from cg) ?_
        refine pu 0 (some 18) (mk 11 1) ?_
        refine pu 1 (some 19) (mk 11 3) ?_
        refine pu 2 (some 20) (mk 11 7) ?_
        refine pu 3 (some 21) (mk 11 15) ?_
        refine ld 4 (some 22) (mk 11 31) (show wr.drew.cell? ⟨gb, q, none⟩ = some (.int .u8 y) from cg) ?_
        refine pu 5 (some 23) (mk 11 63) ?_
        refine pu 6 (some 24) (mk 11 127) ?_
        refine pu 7 (some 25) (mk 11 255) ?_
        refine pu 8 (some 26) (mk 11 511) ?_
        refine pu 9 (some 27) (mk 11 1023) ?_
        refine la 10 none (mk 11 2047) fun K hK => ?_
        refine wp_store_cell 5 (.tmp 27) (.tmp 26) rfl gb q (.int .u8 _) rfl rfl rfl 5 (b.map (Value.int .u8)).toArray HY.out.2.2 HY.out.2.1 (by kernel_rfl) ?_
        refine hK _ _ (nm ?_)
        clear hK K
        refine done_ (by kernel_rfl) ?_
        have hzr : 0 ≤ bits BinOp.or IntKind.u8 y (IntKind.u8.wrap (2 ^ r)) ∧ bits BinOp.or IntKind.u8 y (IntKind.u8.wrap (2 ^ r)) < 256 := wrap8 _
        generalize bits BinOp.or IntKind.u8 y (IntKind.u8.wrap (2 ^ r)) = z at *
        have D2 : Aside0 (PkAt w1 (wr.drew.setCell ⟨gb, q, none⟩ (.int .u8 z)) gb m) := ⟨⟨b.set q z, ⟨by rw [List.length_set]; exact HY.out.1, fun x hx => (List.mem_or_eq_of_mem_set hx).elim (HO.out x) (fun e => e ▸ hzr)⟩, by
          have := setCell_row (w := wr.drew) (pb := gb) (i := q) (v := .int .u8 z) HY.out.2.2
          rw [this]
          simp [List.map_set]⟩, (D.out.kept.trans (Kept.drew wr (fun _ => False)) (fun _ _ h => h) (fun _ _ h => h.elim)).trans (Kept.setCell _ gb q _ (F := fun b => b = gb) rfl) (fun _ _ h => h) (fun _ _ h => h)⟩
        clear D HY cg ca
        go_wp2
        go_roundg (n - (i + 1))
        case measure => omega
        case rel => exact ⟨i + 1, by go_num, by omega, by omega, D2⟩
    · have hge : ¬ ((i : Int) < (n : Int)) := by omega
      obtain ⟨b, ⟨hb, hoct⟩, hrow⟩ := D.out.row
      have hB : By wr (.slice (some ⟨gb, 0, none⟩) m m) b := by
        have := row_rd (k := .u8) (w := wr) (e := 5) (v := .slice (some ⟨gb, 0, none⟩) b.length b.length) (l := b) ⟨by simp, .inr ⟨gb, b.length, (b.map (Value.int .u8)).toArray, rfl, Nat.zero_le _, hrow, Nat.le_refl _, by unfold maxLen; omega, by simp, by simp [List.take_of_length_le]⟩⟩ (by omega)
        rw [hb] at this
        exact this
      have FIN : Aside0 _ := ⟨And.intro hB (And.intro hb (And.intro HG.out (And.intro D.out.kept hoct)))⟩
      clear hB hb hrow D
      go_wp2
      go_ret
      obtain ⟨f1, f2, f3, f4, f5⟩ := FIN.out
      exact ⟨some ⟨gb, 0, none⟩, m, b, by rw [f2]; rfl, by rw [f2]; exact f1, ⟨f2, f5⟩, fun ad e => by injection e with e; subst e; simp [f3], f4.trans (Kept.refl _ _) (fun b hb e => by omega) (fun _ _ h => h)⟩
end Go.Proofs.YtmbjlondehcheaaGreatDoor
end
section
set_option linter.unusedSimpArgs false
set_option linter.unusedVariables false
namespace Go.Proofs.YtmbjlondehcheaaGreatDoor
open Go.Shelf Go.RowKit Go.Lib Go.Sort Go.Proofs.YtmbjlondehcheaaGreatDoorW.PrintWords Go.Proofs.YtmbjlondehcheaaGreatDoorW.PrintLast Go.Proofs.YtmbjlondehcheaaGreatDoor.PTopTalk
def ments (k : IntKind) (es : List (Int × Value)) : List MapEntry := es.mapIdx fun i e => ⟨.int k e.1, e.2, i⟩
theorem ments_snoc (k : IntKind) (es : List (Int × Value)) (a : Int) (v : Value) : ments k (es ++ [(a, v)]) = ments k es ++ [⟨.int k a, v, es.length⟩] := by simp [ments, List.mapIdx_append]
theorem fnow_none (k k' : IntKind) (a : Int) : ∀ (es : List MapEntry) (i : Nat), (∀ e ∈ es, ∃ b, e.key = .int k b ∧ ¬ b = a) → Instr.findNow (.int k') (.int k a) es i = some none
  | [], i, _ => rfl
  | e :: es, i, h => by
    obtain ⟨b, hk, hn⟩ := h e (by simp)
    have : Instr.sameNow (.int k') (.int k a) e.key = some false := by rw [hk]; simp [Instr.sameNow]; exact fun e => hn e.symm
    simp only [Instr.findNow, this]
    exact fnow_none k k' a es (i + 1) (fun e' he' => h e' (by simp [he']))
theorem fnow_some (k k' : IntKind) (a : Int) (e : MapEntry) (hk : e.key = .int k a) (B : List MapEntry) : ∀ (A : List MapEntry) (i : Nat), (∀ e ∈ A, ∃ b, e.key = .int k b ∧ ¬ b = a) → Instr.findNow (.int k') (.int k a) (A ++ e :: B) i = some (some (i + A.length, e.val))
  | [], i, _ => by
    have : Instr.sameNow (.int k') (.int k a) e.key = some true := by rw [hk]; simp [Instr.sameNow]
    simp [Instr.findNow, this]
  | x :: A, i, h => by
    obtain ⟨b, hk', hn⟩ := h x (by simp)
    have : Instr.sameNow (.int k') (.int k a) x.key = some false := by rw [hk']; simp [Instr.sameNow]; exact fun e => hn e.symm
    simp only [List.cons_append, Instr.findNow, this]
    rw [fnow_some k k' a e hk B A (i + 1) (fun e' he' => h e' (by simp [he']))]
    simp; omega
theorem ments_key {k : IntKind} {es : List (Int × Value)} {e : MapEntry} (he : e ∈ ments k es) : ∃ x ∈ es, e.key = .int k x.1 ∧ e.val = x.2 := by
  obtain ⟨i, hi, rfl⟩ := List.mem_mapIdx.1 he
  exact ⟨es[i], by simp, rfl, rfl⟩
theorem ments_mid (k : IntKind) (A B : List (Int × Value)) (x : Int × Value) : ∃ C, ments k (A ++ x :: B) = ments k A ++ ⟨.int k x.1, x.2, A.length⟩ :: C := by
  unfold ments
  rw [List.mapIdx_append, List.mapIdx_cons, Nat.zero_add]
  exact ⟨_, rfl⟩
theorem check_any {k : IntKind} {kt : TypeId} (hkt : Tryz.prog.underlying kt = some (.int k)) (n : Nat) (em : Bool) (a : Int) (w : World) : (Instr.checkKey em (n + 1) kt (.int k a)).run Tryz.prog w = .ok () w := by
  unfold Instr.checkKey
  simp [run_underlying hkt, Result.andThen]
theorem check_int {k : IntKind} {kt : TypeId} (hkt : Tryz.prog.underlying kt = some (.int k)) (em : Bool) (a : Int) (w : World) : (Instr.checkKey em 10000 kt (.int k a)).run Tryz.prog w = .ok () w := check_any hkt 9999 em a w
section
variable {k : IntKind} {mt kt et : TypeId} (hmt : Tryz.prog.underlying mt = some (.map kt et)) (hkt : Tryz.prog.underlying kt = some (.int k)) {w : World} {B : Nat} {es : List (Int × Value)} {n : Nat} (hb : w.heap[B]? = some (.map (ments k es).toArray n))
theorem look_hit (hmt : Tryz.prog.underlying mt = some (.map kt et)) (hkt : Tryz.prog.underlying kt = some (.int k)) (hb : w.heap[B]? = some (.map (ments k es).toArray n)) {A C : List (Int × Value)} {a : Int} {v : Value} (he : es = A ++ (a, v) :: C) (hA : ∀ e ∈ A, ¬ e.1 = a) : (Instr.lookup mt (.map (some B)) (.int k a) true).run Tryz.prog w = .ok (.tuple #[v, .bool true]) w := by
  subst he
  obtain ⟨D, hD⟩ := ments_mid k A C (a, v)
  have hf : Instr.findNow (.int k) (.int k a) (ments k (A ++ (a, v) :: C)) 0 = some (some (0 + (ments k A).length, v)) := by
    rw [hD]
    exact fnow_some k k a _ rfl D (ments k A) 0 (fun e he => by obtain ⟨x, hx, h1, _⟩ := ments_key he; exact ⟨x.1, h1, hA x hx⟩)
  simp [Instr.lookup, run_underlying hmt, MapKept.run_getObj_map hb, check_int hkt, Instr.findKey, run_underlying hkt, hf, Result.andThen]
theorem look_miss (hmt : Tryz.prog.underlying mt = some (.map kt et)) (hkt : Tryz.prog.underlying kt = some (.int k)) (hb : w.heap[B]? = some (.map (ments k es).toArray n)) {a : Int} {z : Value} (hz : ∀ w, (zeroValue et).run Tryz.prog w = .ok z w) (hn : ∀ e ∈ es, ¬ e.1 = a) : (Instr.lookup mt (.map (some B)) (.int k a) true).run Tryz.prog w = .ok (.tuple #[z, .bool false]) w := by
  have hf : Instr.findNow (.int k) (.int k a) (ments k es) 0 = some none := fnow_none k k a _ 0 (fun e he => by obtain ⟨x, hx, h1, _⟩ := ments_key he; exact ⟨x.1, h1, hn x hx⟩)
  simp [Instr.lookup, run_underlying hmt, MapKept.run_getObj_map hb, check_int hkt, Instr.findKey, run_underlying hkt, hf, hz, Result.andThen]
end
theorem map_put {k : IntKind} {mt kt et : TypeId} (hmt : Tryz.prog.underlying mt = some (.map kt et)) (hkt : Tryz.prog.underlying kt = some (.int k)) {w : World} {B : Nat} {es : List (Int × Value)} (hb : w.heap[B]? = some (.map (ments k es).toArray es.length)) (a : Int) (v : Value) (hn : ∀ e ∈ es, ¬ e.1 = a) :
    (Instr.mapUpdate mt (.map (some B)) (.int k a) v).run Tryz.prog w = .ok () (ChangeMaps.setBlock w B (.map (ments k (es ++ [(a, v)])).toArray (es ++ [(a, v)]).length)) := by
  have hf : Instr.findNow (.int k) (.int k a) (ments k es) 0 = some none := fnow_none k k a _ 0 (fun e he => by obtain ⟨x, hx, h1, _⟩ := ments_key he; exact ⟨x.1, h1, hn x hx⟩)
  have he : (ments k es).toArray.push ⟨.int k a, v, es.length⟩ = (ments k (es ++ [(a, v)])).toArray := by rw [ments_snoc]; simp
  simp [Instr.mapUpdate, run_underlying hmt, MapKept.run_getObj_map hb, check_int hkt, Instr.findKey, run_underlying hkt, hf, Result.andThen, MapKept.run_setObj_map _ hb, he, ChangeMaps.setBlock]
end Go.Proofs.YtmbjlondehcheaaGreatDoor
end
