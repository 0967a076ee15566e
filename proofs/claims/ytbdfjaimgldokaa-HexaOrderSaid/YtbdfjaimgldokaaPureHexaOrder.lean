/- Of two lists of bytes of one length the greater one has the greater text, and each digit's number is told back; for every two lists and every number. -/
import Derived.Test.YtbdfjaimgldokaaHOrder
import Derived.Lib.SmallJoins
namespace Go.Proofs.Ytbdfjaimgldokaa.Pure
open Go.RowKit Go.Proofs.Ytbdfjaimgldokaa.PHexa Go.Proofs.Ytbdfjaimgldokaa.HHexa Go.Proofs.YtbdfjaimgldokaaW.PrintWords Go.Proofs.YtbdfjaimgldokaaW.PrintLast Go.Proofs.YtbdfjaimgldokaaW.PrintMore

theorem wf8 {x : Int} (h : (Lit.int .u8 x).wf = true) : 0 ≤ x ∧ x < 256 := by
  simp [Lit.wf, IntKind.min, IntKind.max, IntKind.bits, IntKind.signed] at h; omega
theorem wf16 {x : Int} (h : (Lit.int .u16 x).wf = true) : 0 ≤ x ∧ x < 65536 := by
  simp [Lit.wf, IntKind.min, IntKind.max, IntKind.bits, IntKind.signed] at h; omega

/-- A text's bytes, as numbers. -/
def sI (s : ByteArray) : List Int := s.data.toList.map fun u => (u.toNat : Int)
theorem sI_length (s : ByteArray) : (sI s).length = s.size := by simp only [sI, List.length_map, Array.length_toList]; rfl
theorem sI_range (s : ByteArray) : ∀ x ∈ sI s, 0 ≤ x ∧ x < 256 := by
  intro x hx
  simp only [sI, List.mem_map] at hx
  obtain ⟨u, _, rfl⟩ := hx
  have := u.toNat_lt
  omega
theorem sI_str (xs : List Int) (h : ∀ x ∈ xs, 0 ≤ x ∧ x < 256) : sI (Go.strOfNums xs) = xs := by
  unfold sI Go.strOfNums
  simp only [List.map_map]
  conv => rhs; rw [← List.map_id xs]
  apply List.map_congr_left
  intro x hx
  have := h x hx
  simp; omega
theorem ba_ext {a b : ByteArray} (h : a.data.toList = b.data.toList) : a = b := by
  cases a; cases b; simp at h; simp [h]
theorem str_sI (s : ByteArray) : Go.strOfNums (sI s) = s := by
  apply ba_ext
  unfold sI Go.strOfNums
  simp only [List.map_map]
  conv => rhs; rw [← List.map_id s.data.toList]
  apply List.map_congr_left
  intro u _
  simp
theorem bt_mid {s : ByteArray} {p q : List Int} {a : Int} (h : sI s = p ++ a :: q) : bt s (p.length : Int) = a := by
  have hl : p.length < s.size := by rw [← sI_length, h]; simp
  have e : (sI s)[p.length]? = some a := by rw [h]; simp
  unfold bt
  rw [Int.toNat_natCast, dif_pos hl]
  have hl2 : p.length < s.data.size := hl
  have e2 : (sI s)[p.length]? = some ((s[p.length].toNat : Int)) := by
    simp only [sI, List.getElem?_map, Array.getElem?_toList]
    rw [Array.getElem?_eq_getElem hl2]; rfl
  rw [e2] at e
  exact Option.some.inj e
theorem bt_mid1 {s : ByteArray} {p q : List Int} {a b : Int} (h : sI s = p ++ a :: b :: q) : bt s ((p.length : Int) + 1) = b := by
  have h2 : sI s = (p ++ [a]) ++ b :: q := by simp [h]
  have := bt_mid h2
  rw [← this]; congr 1; simp

theorem digit_range (c : Int) : -1 ≤ digit c ∧ digit c < 16 := by unfold digit; split <;> (try split) <;> omega
theorem sign_digit (c : Int) (h : 0 ≤ digit c) : sign (digit c).toNat = c := by
  unfold digit at h ⊢; split
  · unfold sign; rw [if_pos (by omega)]; omega
  · split
    · unfold sign; rw [if_neg (by omega)]; omega
    · rename_i h1 h2; rw [if_neg h1, if_neg h2] at h; omega
/-- What bytes a text's numbers tell. -/
def takeS : List Int → Option (List Int)
  | a :: b :: r => if digit a < 0 ∨ digit b < 0 then none else (takeS r).map fun l => (16 * digit a + digit b) :: l
  | [] => some []
  | [_] => none
def outS (acc : List Int) : Option (List Int) → List Int × Int
  | some l => (acc ++ l, 0)
  | none => ([], 11)
theorem takeS_hexL (l : List Int) (h : ∀ x ∈ l, 0 ≤ x ∧ x < 256) : takeS (hexL l) = some l := by
  induction l with
  | nil => rfl
  | cons c l ih =>
    have hc := h c (by simp)
    have e : hexL (c :: l) = sign (c / 16).toNat :: sign (c % 16).toNat :: hexL l := rfl
    have d1 := digit_sign (c / 16).toNat (by omega)
    have d2 := digit_sign (c % 16).toNat (by omega)
    rw [e, takeS, ih (fun x hx => h x (by simp [hx])), d1, d2, if_neg (by omega)]
    simp only [Option.map_some]
    congr 2; omega
theorem hexL_takeS : ∀ (q l : List Int), takeS q = some l → hexL l = q ∧ ∀ x ∈ l, 0 ≤ x ∧ x < 256
  | [], l, h => by
    simp only [takeS, Option.some.injEq] at h
    subst h
    exact ⟨rfl, by simp⟩
  | [_], _, h => by simp [takeS] at h
  | a :: b :: r, l, h => by
    rw [takeS] at h
    by_cases hd : digit a < 0 ∨ digit b < 0
    · rw [if_pos hd] at h; simp at h
    · rw [if_neg hd] at h
      have ra := digit_range a
      have rb := digit_range b
      obtain ⟨l', hl', rfl⟩ := Option.map_eq_some_iff.1 h
      obtain ⟨i1, i2⟩ := hexL_takeS r l' hl'
      have e : hexL ((16 * digit a + digit b) :: l') = sign ((16 * digit a + digit b) / 16).toNat :: sign ((16 * digit a + digit b) % 16).toNat :: hexL l' := rfl
      have e1 : ((16 * digit a + digit b) / 16) = digit a := by omega
      have e2 : ((16 * digit a + digit b) % 16) = digit b := by omega
      refine ⟨by rw [e, e1, e2, i1, sign_digit a (by omega), sign_digit b (by omega)], ?_⟩
      intro x hx
      rcases List.mem_cons.1 hx with rfl | hx
      · omega
      · exact i2 x hx
theorem takeS_odd : ∀ (q : List Int), q.length % 2 = 1 → takeS q = none
  | [], h => by simp at h
  | [_], _ => rfl
  | a :: b :: r, h => by
    rw [takeS, takeS_odd r (by simp at h; omega)]
    split <;> rfl

theorem take_l0 : ∀ (q : List Int) (k : Nat) (s : ByteArray) (p acc : List Int), sI s = p ++ q → q.length < k → q.length % 2 = 0 → acc.length + q.length < 1000000 → p.length + q.length < 1000000 →
    hexa_Take.l0 k s acc (p.length : Int) = some (outS acc (takeS q))
  | [], k, s, p, acc, hs, hk, _, _, _ => by
    obtain ⟨k, rfl⟩ : ∃ m, k = m + 1 := ⟨k - 1, by omega⟩
    have hz : s.size = p.length := by rw [← sI_length, hs]; simp
    simp only [hexa_Take.l0]
    rw [if_neg (by omega)]; simp [takeS, outS]
  | [_], _, _, _, _, _, _, h, _, _ => by simp at h
  | a :: b :: r, k, s, p, acc, hs, hk, hm, ha, hp => by
    obtain ⟨k, rfl⟩ : ∃ m, k = m + 1 := ⟨k - 1, by omega⟩
    simp only [List.length_cons] at hk ha hp hm
    have hz : s.size = p.length + r.length + 2 := by rw [← sI_length, hs]; simp; omega
    have ra := digit_range a
    have rb := digit_range b
    have e1 : wrap64 ((p.length : Int) + 1) = (p.length : Int) + 1 := by simp only [wrap64]; omega
    have e2 : wrap64 ((p.length : Int) + 2) = ((p ++ [a, b]).length : Int) := by simp [wrap64]; omega
    simp only [hexa_Take.l0]
    rw [e1, e2, if_pos (by omega), if_pos (by omega), bt_mid hs, bt_mid1 hs]
    simp only [hexa_Digit.f, Option.bind_some]
    rw [if_pos (by omega), if_pos (by omega), takeS]
    by_cases h1 : digit a < 0
    · rw [if_pos h1, if_pos (Or.inl h1)]; rfl
    rw [if_neg h1]
    by_cases h2 : digit b < 0
    · rw [if_pos h2, if_pos (Or.inr h2)]; rfl
    have e3 : wrap64 (wrap64 (16 * digit a) + digit b) % 256 = 16 * digit a + digit b := by simp only [wrap64]; omega
    rw [if_neg h2, if_pos (by omega), if_neg (show ¬ (digit a < 0 ∨ digit b < 0) by omega), e3]
    have := take_l0 r k s (p ++ [a, b]) (acc ++ [16 * digit a + digit b]) (by simp [hs]) (by omega) (by omega) (by simp; omega) (by simp; omega)
    rw [this]
    cases takeS r <;> simp [outS]
theorem take_f (k : Nat) (s : ByteArray) (hk : s.size < k) (hs : s.size < 1000000) : hexa_Take.f k s = some (outS [] (takeS (sI s))) := by
  unfold hexa_Take.f
  by_cases hm : s.size % 2 = 0
  · rw [if_pos (by omega)]
    exact take_l0 (sI s) k s [] [] rfl (by rw [sI_length]; exact hk) (by rw [sI_length]; exact hm) (by rw [sI_length]; simpa using hs) (by rw [sI_length]; simpa using hs)
  · rw [if_neg (by omega), takeS_odd _ (by rw [sI_length]; omega)]; rfl
theorem put_f (l : List Int) (h : l.length < 1000000) (hw : ∀ x ∈ l, 0 ≤ x ∧ x < 256) : hexa_Put.f l = some (Go.strOfNums (hexL l)) := by
  unfold hexa_Put.f
  rw [if_pos h, if_pos (List.all_eq_true.2 fun x hx => decide_eq_true (hw x hx))]
theorem strOfNums_toL (xs : List Int) : (Go.strOfNums xs).toList = xs.map fun n => UInt8.ofNat n.toNat := by rw [ByteArray.toList_eq]; rfl
theorem awake_f (k : Nat) (hk : 4 < k) : busbarlaw03_awake.f k = some true := by
  unfold busbarlaw03_awake.f
  have e1 : takeS (sI ⟨#[48, 97, 70, 70]⟩) = none := by decide
  have e2 : takeS (sI ⟨#[48, 65, 70, 70]⟩) = some [10, 255] := by decide
  have t1 : hexa_Take.f k ⟨#[48, 97, 70, 70]⟩ = some ([], 11) := (take_f k ⟨#[48, 97, 70, 70]⟩ (show 4 < k from hk) (by decide)).trans (by rw [e1]; rfl)
  have t2 : hexa_Take.f k ⟨#[48, 65, 70, 70]⟩ = some ([10, 255], 0) := (take_f k ⟨#[48, 65, 70, 70]⟩ (show 4 < k from hk) (by decide)).trans (by rw [e2]; rfl)
  rw [t1, t2, put_f _ (by simp) (by simp)]
  simp only [Option.bind_some]
  rw [if_pos (by rw [strOfNums_toL]; decide), if_pos trivial, if_pos trivial, if_pos (by rw [strOfNums_toL]; decide)]
  rfl
theorem same_f (l : List Int) : busbarref01_Same.f l l = some true := by
  unfold busbarref01_Same.f; simp
theorem sI_append (a b : ByteArray) : sI (a ++ b) = sI a ++ sI b := by simp [sI, ByteArray.data_append]
theorem sI_extract (s : ByteArray) (a b : Nat) : sI (s.extract a b) = ((sI s).drop a).take (b - a) := by
  simp [sI, ByteArray.data_extract, List.extract_eq_take_drop, List.map_take, List.map_drop]
theorem sI_inj {a b : ByteArray} (h : sI a = sI b) : a = b := by rw [← str_sI a, h, str_sI]
theorem bind_go {α β : Type} {a : α} {f : α → Option β} {r : Option β} (h : f a = r) : (some a).bind f = r := h
theorem sign_mono (m n : Nat) (h : m < n) (hn : n < 16) : sign m < sign n := by unfold sign; split <;> split <;> omega
theorem u8_lt (x y : Int) (x0 : 0 ≤ x) (x1 : x < 256) (y0 : 0 ≤ y) (y1 : y < 256) : decide (UInt8.ofNat x.toNat < UInt8.ofNat y.toNat) = decide (x < y) := by
  rw [decide_eq_decide, UInt8.lt_iff_toNat_lt]; simp; omega
theorem u8_eq (x y : Int) (x0 : 0 ≤ x) (x1 : x < 256) (y0 : 0 ≤ y) (y1 : y < 256) : (UInt8.ofNat x.toNat == UInt8.ofNat y.toNat) = decide (x = y) := by
  rw [Bool.eq_iff_iff, beq_iff_eq, decide_eq_true_eq]
  constructor
  · intro h
    have := congrArg UInt8.toNat h
    simp at this; omega
  · rintro rfl; rfl
def bytesN (l : List Int) : List UInt8 := l.map fun n => UInt8.ofNat n.toNat
/-- Which of two lists of numbers is less. -/
def lessI : List Int → List Int → Bool
  | _, [] => false
  | [], _ :: _ => true
  | a :: x, b :: y => decide (a < b) || (decide (a = b) && lessI x y)
theorem less_bytes : ∀ (x y : List Int), (∀ z ∈ x, 0 ≤ z ∧ z < 256) → (∀ z ∈ y, 0 ≤ z ∧ z < 256) → Op.bytesLess (bytesN x) (bytesN y) = lessI x y
  | _, [], _, _ => by cases ‹List Int› <;> rfl
  | [], _ :: _, _, _ => rfl
  | a :: x, b :: y, hx, hy => by
    have ha := hx a (by simp)
    have hb := hy b (by simp)
    have ih := less_bytes x y (fun z hz => hx z (by simp [hz])) (fun z hz => hy z (by simp [hz]))
    have e : Op.bytesLess (bytesN (a :: x)) (bytesN (b :: y)) = (decide (UInt8.ofNat a.toNat < UInt8.ofNat b.toNat) || (UInt8.ofNat a.toNat == UInt8.ofNat b.toNat && Op.bytesLess (bytesN x) (bytesN y))) := rfl
    rw [e, ih, u8_lt a b ha.1 ha.2 hb.1 hb.2, u8_eq a b ha.1 ha.2 hb.1 hb.2]; rfl
theorem less_hex : ∀ (x y : List Int), (∀ z ∈ x, 0 ≤ z ∧ z < 256) → (∀ z ∈ y, 0 ≤ z ∧ z < 256) → x.length = y.length → lessI (hexL x) (hexL y) = lessI x y
  | [], [], _, _, _ => rfl
  | [], _ :: _, _, _, h => by simp at h
  | _ :: _, [], _, _, h => by simp at h
  | a :: x, b :: y, hx, hy, hl => by
    have ha := hx a (by simp)
    have hb := hy b (by simp)
    have ih := less_hex x y (fun z hz => hx z (by simp [hz])) (fun z hz => hy z (by simp [hz])) (by simpa using hl)
    have e1 : hexL (a :: x) = sign (a / 16).toNat :: sign (a % 16).toNat :: hexL x := rfl
    have e2 : hexL (b :: y) = sign (b / 16).toNat :: sign (b % 16).toNat :: hexL y := rfl
    rw [e1, e2]
    simp only [lessI, ih]
    have h1 : decide (sign (a / 16).toNat < sign (b / 16).toNat) = decide (a / 16 < b / 16) := by
      rw [decide_eq_decide]
      constructor
      · intro h
        apply Classical.byContradiction
        intro hc
        rcases Int.lt_or_eq_of_le (Int.not_lt.1 hc) with g | g
        · have := sign_mono (b / 16).toNat (a / 16).toNat (by omega) (by omega); omega
        · rw [g] at h; omega
      · intro h; exact sign_mono _ _ (by omega) (by omega)
    have h2 : decide (sign (a % 16).toNat < sign (b % 16).toNat) = decide (a % 16 < b % 16) := by
      rw [decide_eq_decide]
      constructor
      · intro h
        apply Classical.byContradiction
        intro hc
        rcases Int.lt_or_eq_of_le (Int.not_lt.1 hc) with g | g
        · have := sign_mono (b % 16).toNat (a % 16).toNat (by omega) (by omega); omega
        · rw [g] at h; omega
      · intro h; exact sign_mono _ _ (by omega) (by omega)
    have h3 : decide (sign (a / 16).toNat = sign (b / 16).toNat) = decide (a / 16 = b / 16) := by
      rw [decide_eq_decide]
      constructor
      · intro h
        have d1 := digit_sign (a / 16).toNat (by omega)
        have d2 := digit_sign (b / 16).toNat (by omega)
        rw [h] at d1; omega
      · intro h; rw [h]
    have h4 : decide (sign (a % 16).toNat = sign (b % 16).toNat) = decide (a % 16 = b % 16) := by
      rw [decide_eq_decide]
      constructor
      · intro h
        have d1 := digit_sign (a % 16).toNat (by omega)
        have d2 := digit_sign (b % 16).toNat (by omega)
        rw [h] at d1; omega
      · intro h; rw [h]
    rw [h1, h2, h3, h4]
    by_cases c1 : a / 16 < b / 16
    · have : a < b := by omega
      simp [c1, this]
    · by_cases c2 : a / 16 = b / 16
      · by_cases c3 : a % 16 < b % 16
        · have : a < b := by omega
          simp [c2, c3, this]
        · have n1 : ¬ a < b := by omega
          by_cases c4 : a % 16 = b % 16
          · have : a = b := by omega
            simp [this]
          · have : ¬ a = b := by omega
            simp [c2, c3, c4, n1, this]
      · have n1 : ¬ a < b := by omega
        have n2 : ¬ a = b := by omega
        simp [c1, c2, n1, n2]
theorem order_ok (a b : List Int) (ha : ∀ z ∈ a, 0 ≤ z ∧ z < 256) (hb : ∀ z ∈ b, 0 ≤ z ∧ z < 256) (hl : a.length = b.length) :
    (Op.bytesLess ((Go.strOfNums a).toList) ((Go.strOfNums b).toList) == Op.bytesLess ((Go.strOfNums (hexL a)).toList) ((Go.strOfNums (hexL b)).toList)) = true := by
  have ra := hexL_range a ha
  have rb := hexL_range b hb
  rw [strOfNums_toL, strOfNums_toL, strOfNums_toL, strOfNums_toL]
  have e1 := less_bytes a b ha hb
  have e2 := less_bytes (hexL a) (hexL b) (fun z hz => by have := ra z hz; omega) (fun z hz => by have := rb z hz; omega)
  unfold bytesN at e1 e2
  rw [e1, e2, less_hex a b ha hb hl, beq_self_eq_true]
theorem order_walk (a0 : Option Addr) (len0 cap0 : Nat) (z0 : List Int) (a1 : Option Addr) (len1 cap1 : Nat) (z1 : List Int) (a2 : Int) (w : World)
    (w0 : (a0 = none ∧ len0 = 0 ∧ cap0 = 0 ∧ z0 = []) ∨ ∃ x, a0 = some x ∧ len0 ≤ cap0 ∧ cap0 ≤ maxLen ∧ z0.length = cap0 ∧ (∀ i, i < z0.length → w.cell? (x.add i) = some (.int .u8 (z0.getD i 0))) ∧ ∀ n ∈ z0, (Lit.int .u8 n).wf = true)
    (w1 : (a1 = none ∧ len1 = 0 ∧ cap1 = 0 ∧ z1 = []) ∨ ∃ x, a1 = some x ∧ len1 ≤ cap1 ∧ cap1 ≤ maxLen ∧ z1.length = cap1 ∧ (∀ i, i < z1.length → w.cell? (x.add i) = some (.int .u8 (z1.getD i 0))) ∧ ∀ n ∈ z1, (Lit.int .u8 n).wf = true) (w2 : (Lit.int .u8 a2).wf = true) :
    Calls Try.prog 11 #[.slice a0 len0 cap0, .slice a1 len1 cap1, .int .u8 a2] w fun e w' => e = .returned (.bool true) ∧ Below w.heap.size w w' := by
  obtain ⟨l0, rfl, hr0, hm0, hw0, hc0⟩ := ReadsInt.ofRowC w0
  obtain ⟨l1, rfl, hr1, hm1, hw1, hc1⟩ := ReadsInt.ofRowC w1
  have hn := wf8 w2
  have hw0 : ∀ x ∈ l0, 0 ≤ x ∧ x < 256 := fun x hx => wf8 (hw0 x hx)
  have hw1 : ∀ x ∈ l1, 0 ≤ x ∧ x < 256 := fun x hx => wf8 (hw1 x hx)
  have t0 : ∀ x ∈ l0.take (min l0.length l1.length), 0 ≤ x ∧ x < 256 := fun x hx => hw0 x (List.mem_of_mem_take hx)
  have t1 : ∀ x ∈ l1.take (min l0.length l1.length), 0 ≤ x ∧ x < 256 := fun x hx => hw1 x (List.mem_of_mem_take hx)
  have q : hexL [a2 % 16] = [48, sign (a2 % 16).toNat] := by
    have e1 : a2 % 16 / 16 = 0 := by omega
    have e2 : a2 % 16 % 16 = a2 % 16 := by omega
    show [sign (a2 % 16 / 16).toNat, sign (a2 % 16 % 16).toNat] = _
    rw [e1, e2]; rfl
  have hs := sign_range (a2 % 16).toNat (by omega)
  have hsi : sI (Go.strOfNums (hexL [a2 % 16])) = [48, sign (a2 % 16).toNat] := by
    rw [sI_str _ (by rw [q]; intro x hx; simp at hx; rcases hx with rfl | rfl <;> omega), q]
  refine HOrder.order_calls a0 cap0 l0 a1 cap1 l1 a2 w (Kd.C_of_reads (d := (0 : Int)) (h1 := fun _ => rfl) hr0) hc0 (Kd.C_of_reads (d := (0 : Int)) (h1 := fun _ => rfl) hr1) hc1 hw0 hw1 hn.1 hn.2 _ rfl (awake_f 9 (by omega)) _ rfl ?_ ?_ ?_ (order_ok _ _ t0 t1 (by simp only [List.length_take]; omega))
  · rw [← sI_length, hsi]; rfl
  · have : bt (Go.strOfNums (hexL [a2 % 16])) 1 = sign (a2 % 16).toNat := bt_mid1 (p := []) (q := []) hsi
    rw [this, digit_sign _ (by omega)]; omega
  · exact bt_mid (p := []) (q := [sign (a2 % 16).toNat]) hsi

end Go.Proofs.Ytbdfjaimgldokaa.Pure
