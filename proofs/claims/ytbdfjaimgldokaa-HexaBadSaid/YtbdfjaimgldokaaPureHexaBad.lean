/- One sign that is no digit spoils all, and so does one that is missing; for every list of bytes, place and sign. -/
import Derived.Test.YtbdfjaimgldokaaPHexax11
import Derived.Lib.SmallJoins
namespace Go.Proofs.Ytbdfjaimgldokaa.Pure
open Go.RowKit Go.Proofs.Ytbdfjaimgldokaa.PHexa Go.Proofs.Ytbdfjaimgldokaa.HHexa Go.Proofs.YtbdfjaimgldokaaW.PrintWords Go.Proofs.YtbdfjaimgldokaaW.PrintLast Go.Proofs.YtbdfjaimgldokaaW.PrintMore

theorem wf8 {x : Int} (h : (Lit.int .u8 x).wf = true) : 0 ≤ x ∧ x < 256 := by
  simp [Lit.wf, IntKind.min, IntKind.max, IntKind.bits, IntKind.signed] at h; omega
theorem wf16 {x : Int} (h : (Lit.int .u16 x).wf = true) : 0 ≤ x ∧ x < 65536 := by
  simp [Lit.wf, IntKind.min, IntKind.max, IntKind.bits, IntKind.signed] at h; omega

/-- A text's bytes, as numbers. -/
def sI (s : ByteArray) : List Int := s.data.toList.map fun u => (u.toNat : Int)
theorem sI_length (s : ByteArray) : (sI s).length = s.size := by simp only [sI, List.length_map, Array.length_toList]; rfl
theorem sI_range (s : ByteArray) : ∀ x ∈ sI s, 0 ≤ x ∧ x < 256 := by
  intro x hx
  simp only [sI, List.mem_map] at hx
  obtain ⟨u, _, rfl⟩ := hx
  have := u.toNat_lt
  omega
theorem sI_str (xs : List Int) (h : ∀ x ∈ xs, 0 ≤ x ∧ x < 256) : sI (Go.strOfNums xs) = xs := by
  unfold sI Go.strOfNums
  simp only [List.map_map]
  conv => rhs; rw [← List.map_id xs]
  apply List.map_congr_left
  intro x hx
  have := h x hx
  simp; omega
theorem ba_ext {a b : ByteArray} (h : a.data.toList = b.data.toList) : a = b := by
  cases a; cases b; simp at h; simp [h]
theorem str_sI (s : ByteArray) : Go.strOfNums (sI s) = s := by
  apply ba_ext
  unfold sI Go.strOfNums
  simp only [List.map_map]
  conv => rhs; rw [← List.map_id s.data.toList]
  apply List.map_congr_left
  intro u _
  simp
theorem bt_mid {s : ByteArray} {p q : List Int} {a : Int} (h : sI s = p ++ a :: q) : bt s (p.length : Int) = a := by
  have hl : p.length < s.size := by rw [← sI_length, h]; simp
  have e : (sI s)[p.length]? = some a := by rw [h]; simp
  unfold bt
  rw [Int.toNat_natCast, dif_pos hl]
  have hl2 : p.length < s.data.size := hl
  have e2 : (sI s)[p.length]? = some ((s[p.length].toNat : Int)) := by
    simp only [sI, List.getElem?_map, Array.getElem?_toList]
    rw [Array.getElem?_eq_getElem hl2]; rfl
  rw [e2] at e
  exact Option.some.inj e
theorem bt_mid1 {s : ByteArray} {p q : List Int} {a b : Int} (h : sI s = p ++ a :: b :: q) : bt s ((p.length : Int) + 1) = b := by
  have h2 : sI s = (p ++ [a]) ++ b :: q := by simp [h]
  have := bt_mid h2
  rw [← this]; congr 1; simp

theorem digit_range (c : Int) : -1 ≤ digit c ∧ digit c < 16 := by unfold digit; split <;> (try split) <;> omega
theorem sign_digit (c : Int) (h : 0 ≤ digit c) : sign (digit c).toNat = c := by
  unfold digit at h ⊢; split
  · unfold sign; rw [if_pos (by omega)]; omega
  · split
    · unfold sign; rw [if_neg (by omega)]; omega
    · rename_i h1 h2; rw [if_neg h1, if_neg h2] at h; omega
/-- What bytes a text's numbers tell. -/
def takeS : List Int → Option (List Int)
  | a :: b :: r => if digit a < 0 ∨ digit b < 0 then none else (takeS r).map fun l => (16 * digit a + digit b) :: l
  | [] => some []
  | [_] => none
def outS (acc : List Int) : Option (List Int) → List Int × Int
  | some l => (acc ++ l, 0)
  | none => ([], 11)
theorem takeS_hexL (l : List Int) (h : ∀ x ∈ l, 0 ≤ x ∧ x < 256) : takeS (hexL l) = some l := by
  induction l with
  | nil => rfl
  | cons c l ih =>
    have hc := h c (by simp)
    have e : hexL (c :: l) = sign (c / 16).toNat :: sign (c % 16).toNat :: hexL l := rfl
    have d1 := digit_sign (c / 16).toNat (by omega)
    have d2 := digit_sign (c % 16).toNat (by omega)
    rw [e, takeS, ih (fun x hx => h x (by simp [hx])), d1, d2, if_neg (by omega)]
    simp only [Option.map_some]
    congr 2; omega
theorem hexL_takeS : ∀ (q l : List Int), takeS q = some l → hexL l = q ∧ ∀ x ∈ l, 0 ≤ x ∧ x < 256
  | [], l, h => by
    simp only [takeS, Option.some.injEq] at h
    subst h
    exact ⟨rfl, by simp⟩
  | [_], _, h => by simp [takeS] at h
  | a :: b :: r, l, h => by
    rw [takeS] at h
    by_cases hd : digit a < 0 ∨ digit b < 0
    · rw [if_pos hd] at h; simp at h
    · rw [if_neg hd] at h
      have ra := digit_range a
      have rb := digit_range b
      obtain ⟨l', hl', rfl⟩ := Option.map_eq_some_iff.1 h
      obtain ⟨i1, i2⟩ := hexL_takeS r l' hl'
      have e : hexL ((16 * digit a + digit b) :: l') = sign ((16 * digit a + digit b) / 16).toNat :: sign ((16 * digit a + digit b) % 16).toNat :: hexL l' := rfl
      have e1 : ((16 * digit a + digit b) / 16) = digit a := by omega
      have e2 : ((16 * digit a + digit b) % 16) = digit b := by omega
      refine ⟨by rw [e, e1, e2, i1, sign_digit a (by omega), sign_digit b (by omega)], ?_⟩
      intro x hx
      rcases List.mem_cons.1 hx with rfl | hx
      · omega
      · exact i2 x hx
theorem takeS_odd : ∀ (q : List Int), q.length % 2 = 1 → takeS q = none
  | [], h => by simp at h
  | [_], _ => rfl
  | a :: b :: r, h => by
    rw [takeS, takeS_odd r (by simp at h; omega)]
    split <;> rfl

theorem take_l0 : ∀ (q : List Int) (k : Nat) (s : ByteArray) (p acc : List Int), sI s = p ++ q → q.length < k → q.length % 2 = 0 → acc.length + q.length < 1000000 → p.length + q.length < 1000000 →
    hexa_Take.l0 k s acc (p.length : Int) = some (outS acc (takeS q))
  | [], k, s, p, acc, hs, hk, _, _, _ => by
    obtain ⟨k, rfl⟩ : ∃ m, k = m + 1 := ⟨k - 1, by omega⟩
    have hz : s.size = p.length := by rw [← sI_length, hs]; simp
    simp only [hexa_Take.l0]
    rw [if_neg (by omega)]; simp [takeS, outS]
  | [_], _, _, _, _, _, _, h, _, _ => by simp at h
  | a :: b :: r, k, s, p, acc, hs, hk, hm, ha, hp => by
    obtain ⟨k, rfl⟩ : ∃ m, k = m + 1 := ⟨k - 1, by omega⟩
    simp only [List.length_cons] at hk ha hp hm
    have hz : s.size = p.length + r.length + 2 := by rw [← sI_length, hs]; simp; omega
    have ra := digit_range a
    have rb := digit_range b
    have e1 : wrap64 ((p.length : Int) + 1) = (p.length : Int) + 1 := by simp only [wrap64]; omega
    have e2 : wrap64 ((p.length : Int) + 2) = ((p ++ [a, b]).length : Int) := by simp [wrap64]; omega
    simp only [hexa_Take.l0]
    rw [e1, e2, if_pos (by omega), if_pos (by omega), bt_mid hs, bt_mid1 hs]
    simp only [hexa_Digit.f, Option.bind_some]
    rw [if_pos (by omega), if_pos (by omega), takeS]
    by_cases h1 : digit a < 0
    · rw [if_pos h1, if_pos (Or.inl h1)]; rfl
    rw [if_neg h1]
    by_cases h2 : digit b < 0
    · rw [if_pos h2, if_pos (Or.inr h2)]; rfl
    have e3 : wrap64 (wrap64 (16 * digit a) + digit b) % 256 = 16 * digit a + digit b := by simp only [wrap64]; omega
    rw [if_neg h2, if_pos (by omega), if_neg (show ¬ (digit a < 0 ∨ digit b < 0) by omega), e3]
    have := take_l0 r k s (p ++ [a, b]) (acc ++ [16 * digit a + digit b]) (by simp [hs]) (by omega) (by omega) (by simp; omega) (by simp; omega)
    rw [this]
    cases takeS r <;> simp [outS]
theorem take_f (k : Nat) (s : ByteArray) (hk : s.size < k) (hs : s.size < 1000000) : hexa_Take.f k s = some (outS [] (takeS (sI s))) := by
  unfold hexa_Take.f
  by_cases hm : s.size % 2 = 0
  · rw [if_pos (by omega)]
    exact take_l0 (sI s) k s [] [] rfl (by rw [sI_length]; exact hk) (by rw [sI_length]; exact hm) (by rw [sI_length]; simpa using hs) (by rw [sI_length]; simpa using hs)
  · rw [if_neg (by omega), takeS_odd _ (by rw [sI_length]; omega)]; rfl
theorem put_f (l : List Int) (h : l.length < 1000000) (hw : ∀ x ∈ l, 0 ≤ x ∧ x < 256) : hexa_Put.f l = some (Go.strOfNums (hexL l)) := by
  unfold hexa_Put.f
  rw [if_pos h, if_pos (List.all_eq_true.2 fun x hx => decide_eq_true (hw x hx))]
theorem strOfNums_toL (xs : List Int) : (Go.strOfNums xs).toList = xs.map fun n => UInt8.ofNat n.toNat := by rw [ByteArray.toList_eq]; rfl
theorem awake_f (k : Nat) (hk : 4 < k) : busbarlaw03_awake.f k = some true := by
  unfold busbarlaw03_awake.f
  have e1 : takeS (sI ⟨#[48, 97, 70, 70]⟩) = none := by decide
  have e2 : takeS (sI ⟨#[48, 65, 70, 70]⟩) = some [10, 255] := by decide
  have t1 : hexa_Take.f k ⟨#[48, 97, 70, 70]⟩ = some ([], 11) := (take_f k ⟨#[48, 97, 70, 70]⟩ (show 4 < k from hk) (by decide)).trans (by rw [e1]; rfl)
  have t2 : hexa_Take.f k ⟨#[48, 65, 70, 70]⟩ = some ([10, 255], 0) := (take_f k ⟨#[48, 65, 70, 70]⟩ (show 4 < k from hk) (by decide)).trans (by rw [e2]; rfl)
  rw [t1, t2, put_f _ (by simp) (by simp)]
  simp only [Option.bind_some]
  rw [if_pos (by rw [strOfNums_toL]; decide), if_pos trivial, if_pos trivial, if_pos (by rw [strOfNums_toL]; decide)]
  rfl
theorem same_f (l : List Int) : busbarref01_Same.f l l = some true := by
  unfold busbarref01_Same.f; simp
theorem sI_append (a b : ByteArray) : sI (a ++ b) = sI a ++ sI b := by simp [sI, ByteArray.data_append]
theorem sI_extract (s : ByteArray) (a b : Nat) : sI (s.extract a b) = ((sI s).drop a).take (b - a) := by
  simp [sI, ByteArray.data_extract, List.extract_eq_take_drop, List.map_take, List.map_drop]
theorem sI_inj {a b : ByteArray} (h : sI a = sI b) : a = b := by rw [← str_sI a, h, str_sI]
theorem bind_go {α β : Type} {a : α} {f : α → Option β} {r : Option β} (h : f a = r) : (some a).bind f = r := h
theorem takeS_isSome : ∀ (q : List Int), q.length % 2 = 0 → ((takeS q).isSome = true ↔ ∀ x ∈ q, 0 ≤ digit x)
  | [], _ => by simp [takeS]
  | [_], h => by simp at h
  | a :: b :: r, h => by
    have ih := takeS_isSome r (by simp at h; omega)
    rw [takeS]
    by_cases hd : digit a < 0 ∨ digit b < 0
    · rw [if_pos hd]
      constructor
      · intro h; cases h
      · intro h
        have h1 := h a (by simp)
        have h2 := h b (by simp)
        omega
    · rw [if_neg hd, Option.isSome_map, ih]
      constructor
      · intro h x hx
        simp only [List.mem_cons] at hx
        rcases hx with rfl | rfl | hx
        · omega
        · omega
        · exact h x hx
      · intro h x hx
        exact h x (by simp [hx])
theorem hexL_digits (b : List Int) (h : ∀ x ∈ b, 0 ≤ x ∧ x < 256) : ∀ y ∈ hexL b, 0 ≤ digit y := by
  intro y hy
  simp only [hexL, List.mem_flatMap] at hy
  obtain ⟨c, hc, hy⟩ := hy
  have := h c hc
  have d1 := digit_sign (c / 16).toNat (by omega)
  have d2 := digit_sign (c % 16).toNat (by omega)
  simp at hy
  rcases hy with rfl | rfl <;> omega
theorem HexaBad : busbarlaw03_HexaBad.Pure := by
  intro b at' c _ _ hb hat hc
  have hb : ∀ x ∈ b, 0 ≤ x ∧ x < 256 := fun x hx => wf8 (hb x hx)
  have hat := wf16 hat
  have hc := wf8 hc
  refine ⟨1000, ?_⟩
  unfold busbarlaw03_HexaBad.f
  rw [awake_f _ (by omega)]
  simp only [Option.bind_some]
  by_cases h1 : (b.length : Int) > 300
  · rw [if_pos h1]; simp [busbarlaw03_HexaBad.j0]
  rw [if_neg h1]
  by_cases h2 : (b.length : Int) = 0
  · simp only [busbarlaw03_HexaBad.j0]; simp [h2]
  have h2b : ((b.length : Int) == 0) = false := beq_eq_false_iff_ne.mpr h2
  simp only [busbarlaw03_HexaBad.j0, h2b]
  have hr := hexL_range b hb
  have hr' : ∀ x ∈ hexL b, 0 ≤ x ∧ x < 256 := fun x hx => by have := hr x hx; omega
  have hn := hexL_length b
  have hdg := hexL_digits b hb
  obtain ⟨S, hS, hsI⟩ : ∃ S, hexa_Put.f b = some S ∧ sI S = hexL b := ⟨_, put_f b (by omega) hb, sI_str _ hr'⟩
  have hz : S.size = 2 * b.length := by rw [← sI_length, hsI, hn]
  rw [if_neg (by simp), hS]
  refine bind_go ?_
  have e0 : Aside0 (wrap64 (2 * (b.length : Int)) = (S.size : Int)) := ⟨by rw [hz]; simp only [wrap64]; omega⟩
  have e1 : Aside0 (wrap64 at' = at') := ⟨by simp only [wrap64]; omega⟩
  rw [e0.out, if_pos rfl, if_neg (by omega), e1.out]
  have hm : Aside0 (Int.tmod at' (S.size : Int) = at' % (S.size : Int)) := ⟨Int.tmod_eq_emod_of_nonneg hat.1⟩
  have m0 : 0 ≤ at' % (S.size : Int) := Int.emod_nonneg _ (by omega)
  have m1 : at' % (S.size : Int) < (S.size : Int) := Int.emod_lt_of_pos _ (by omega)
  rw [hm.out]
  generalize at' % (S.size : Int) = k at m0 m1 ⊢
  obtain ⟨k, rfl⟩ := Int.eq_ofNat_of_zero_le m0
  have hk : k < S.size := by omega
  have e2 : Aside0 (wrap64 ((k : Int) + 1) = ((k + 1 : Nat) : Int)) := ⟨by simp only [wrap64]; omega⟩
  have s0 : (S.extract 0 k).size = k := by rw [← sI_length, sI_extract]; simp [sI_length]; omega
  have s1 : (S.extract (k + 1) S.size).size = S.size - (k + 1) := by rw [← sI_length, sI_extract]; simp [sI_length]
  have sc : (Go.strOfNums [c]).size = 1 := by rw [← sI_length, sI_str _ (by simpa using hc)]; rfl
  have sa : (S.extract 0 k ++ Go.strOfNums [c]).size = k + 1 := by rw [← sI_length, sI_append, List.length_append, sI_length, sI_length, s0, sc]
  rw [if_pos m0, if_pos (by omega), e2.out]
  refine bind_go ?_
  simp only [Int.toNat_natCast]
  rw [s0, sc, if_pos (by omega), if_pos (by omega), if_pos (by omega), sa, s1, if_pos (by omega)]
  have q1 : sI (S.extract 0 k ++ Go.strOfNums [c] ++ S.extract (k + 1) S.size) = (hexL b).set k c := by
    rw [sI_append, sI_append, sI_extract, sI_extract, sI_str _ (by simpa using hc), hsI, List.set_eq_take_append_cons_drop, if_pos (by omega)]
    simp only [Nat.sub_zero, List.drop_zero, List.append_assoc, List.cons_append, List.nil_append]
    rw [List.take_of_length_le (l := List.drop (k + 1) (hexL b)) (by simp; omega)]
  have q2 : sI (S.extract 0 k ++ S.extract (k + 1) S.size) = (hexL b).take k ++ (hexL b).drop (k + 1) := by
    rw [sI_append, sI_extract, sI_extract, hsI]
    simp only [Nat.sub_zero, List.drop_zero]
    rw [List.take_of_length_le (l := List.drop (k + 1) (hexL b)) (by simp; omega)]
  have z1 : (S.extract 0 k ++ Go.strOfNums [c] ++ S.extract (k + 1) S.size).size = 2 * b.length := by rw [← sI_length, q1, List.length_set, hn]
  have z2 : (S.extract 0 k ++ S.extract (k + 1) S.size).size = 2 * b.length - 1 := by rw [← sI_length, q2]; simp; omega
  have t2 : hexa_Take.f 999 (S.extract 0 k ++ S.extract (k + 1) S.size) = some ([], 11) := (take_f _ _ (by omega) (by omega)).trans (by rw [q2, takeS_odd _ (by simp; omega)]; rfl)
  have key := takeS_isSome ((hexL b).set k c) (by rw [List.length_set]; omega)
  have all : (∀ x ∈ (hexL b).set k c, 0 ≤ digit x) ↔ 0 ≤ digit c := by
    constructor
    · intro h
      exact h c (List.mem_set (by omega) _)
    · intro h x hx
      rcases List.mem_or_eq_of_mem_set hx with hx | rfl
      · exact hdg x hx
      · exact h
  rw [all] at key
  cases ht : takeS ((hexL b).set k c) with
  | some l =>
    have t1 : hexa_Take.f 999 (S.extract 0 k ++ Go.strOfNums [c] ++ S.extract (k + 1) S.size) = some (l, 0) := (take_f _ _ (by omega) (by omega)).trans (by rw [q1, ht]; rfl)
    have hd : 0 ≤ digit c := key.1 (by rw [ht]; rfl)
    rw [t1]
    refine bind_go ?_
    rw [if_pos (by omega), t2]
    refine bind_go ?_
    rw [if_pos trivial]
    refine bind_go ?_
    rw [if_pos (by simpa using hd)]
    rfl
  | none =>
    have t1 : hexa_Take.f 999 (S.extract 0 k ++ Go.strOfNums [c] ++ S.extract (k + 1) S.size) = some ([], 11) := (take_f _ _ (by omega) (by omega)).trans (by rw [q1, ht]; rfl)
    have hd : ¬ 0 ≤ digit c := fun h => by have := key.2 h; rw [ht] at this; cases this
    rw [t1]
    refine bind_go ?_
    rw [if_pos (by omega), t2]
    refine bind_go ?_
    rw [if_pos trivial]
    refine bind_go ?_
    rw [if_pos (by simpa using hd)]
    rfl

end Go.Proofs.Ytbdfjaimgldokaa.Pure
