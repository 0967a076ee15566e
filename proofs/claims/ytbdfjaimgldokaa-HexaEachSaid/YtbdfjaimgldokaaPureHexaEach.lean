/- Each byte's text is its own, two digits behind two times as many as there are bytes ahead; for every list of bytes and every place. -/
import Derived.Test.YtbdfjaimgldokaaPHexax13
import Derived.Lib.SmallJoins
namespace Go.Proofs.Ytbdfjaimgldokaa.Pure
open Go.RowKit Go.Proofs.Ytbdfjaimgldokaa.PHexa Go.Proofs.Ytbdfjaimgldokaa.HHexa Go.Proofs.YtbdfjaimgldokaaW.PrintWords Go.Proofs.YtbdfjaimgldokaaW.PrintLast Go.Proofs.YtbdfjaimgldokaaW.PrintMore

theorem wf8 {x : Int} (h : (Lit.int .u8 x).wf = true) : 0 ≤ x ∧ x < 256 := by
  simp [Lit.wf, IntKind.min, IntKind.max, IntKind.bits, IntKind.signed] at h; omega
theorem wf16 {x : Int} (h : (Lit.int .u16 x).wf = true) : 0 ≤ x ∧ x < 65536 := by
  simp [Lit.wf, IntKind.min, IntKind.max, IntKind.bits, IntKind.signed] at h; omega

/-- A text's bytes, as numbers. -/
def sI (s : ByteArray) : List Int := s.data.toList.map fun u => (u.toNat : Int)
theorem sI_length (s : ByteArray) : (sI s).length = s.size := by simp only [sI, List.length_map, Array.length_toList]; rfl
theorem sI_range (s : ByteArray) : ∀ x ∈ sI s, 0 ≤ x ∧ x < 256 := by
  intro x hx
  simp only [sI, List.mem_map] at hx
  obtain ⟨u, _, rfl⟩ := hx
  have := u.toNat_lt
  omega
theorem sI_str (xs : List Int) (h : ∀ x ∈ xs, 0 ≤ x ∧ x < 256) : sI (Go.strOfNums xs) = xs := by
  unfold sI Go.strOfNums
  simp only [List.map_map]
  conv => rhs; rw [← List.map_id xs]
  apply List.map_congr_left
  intro x hx
  have := h x hx
  simp; omega
theorem ba_ext {a b : ByteArray} (h : a.data.toList = b.data.toList) : a = b := by
  cases a; cases b; simp at h; simp [h]
theorem str_sI (s : ByteArray) : Go.strOfNums (sI s) = s := by
  apply ba_ext
  unfold sI Go.strOfNums
  simp only [List.map_map]
  conv => rhs; rw [← List.map_id s.data.toList]
  apply List.map_congr_left
  intro u _
  simp
theorem bt_mid {s : ByteArray} {p q : List Int} {a : Int} (h : sI s = p ++ a :: q) : bt s (p.length : Int) = a := by
  have hl : p.length < s.size := by rw [← sI_length, h]; simp
  have e : (sI s)[p.length]? = some a := by rw [h]; simp
  unfold bt
  rw [Int.toNat_natCast, dif_pos hl]
  have hl2 : p.length < s.data.size := hl
  have e2 : (sI s)[p.length]? = some ((s[p.length].toNat : Int)) := by
    simp only [sI, List.getElem?_map, Array.getElem?_toList]
    rw [Array.getElem?_eq_getElem hl2]; rfl
  rw [e2] at e
  exact Option.some.inj e
theorem bt_mid1 {s : ByteArray} {p q : List Int} {a b : Int} (h : sI s = p ++ a :: b :: q) : bt s ((p.length : Int) + 1) = b := by
  have h2 : sI s = (p ++ [a]) ++ b :: q := by simp [h]
  have := bt_mid h2
  rw [← this]; congr 1; simp

theorem digit_range (c : Int) : -1 ≤ digit c ∧ digit c < 16 := by unfold digit; split <;> (try split) <;> omega
theorem sign_digit (c : Int) (h : 0 ≤ digit c) : sign (digit c).toNat = c := by
  unfold digit at h ⊢; split
  · unfold sign; rw [if_pos (by omega)]; omega
  · split
    · unfold sign; rw [if_neg (by omega)]; omega
    · rename_i h1 h2; rw [if_neg h1, if_neg h2] at h; omega
/-- What bytes a text's numbers tell. -/
def takeS : List Int → Option (List Int)
  | a :: b :: r => if digit a < 0 ∨ digit b < 0 then none else (takeS r).map fun l => (16 * digit a + digit b) :: l
  | [] => some []
  | [_] => none
def outS (acc : List Int) : Option (List Int) → List Int × Int
  | some l => (acc ++ l, 0)
  | none => ([], 11)
theorem takeS_hexL (l : List Int) (h : ∀ x ∈ l, 0 ≤ x ∧ x < 256) : takeS (hexL l) = some l := by
  induction l with
  | nil => rfl
  | cons c l ih =>
    have hc := h c (by simp)
    have e : hexL (c :: l) = sign (c / 16).toNat :: sign (c % 16).toNat :: hexL l := rfl
    have d1 := digit_sign (c / 16).toNat (by omega)
    have d2 := digit_sign (c % 16).toNat (by omega)
    rw [e, takeS, ih (fun x hx => h x (by simp [hx])), d1, d2, if_neg (by omega)]
    simp only [Option.map_some]
    congr 2; omega
theorem hexL_takeS : ∀ (q l : List Int), takeS q = some l → hexL l = q ∧ ∀ x ∈ l, 0 ≤ x ∧ x < 256
  | [], l, h => by
    simp only [takeS, Option.some.injEq] at h
    subst h
    exact ⟨rfl, by simp⟩
  | [_], _, h => by simp [takeS] at h
  | a :: b :: r, l, h => by
    rw [takeS] at h
    by_cases hd : digit a < 0 ∨ digit b < 0
    · rw [if_pos hd] at h; simp at h
    · rw [if_neg hd] at h
      have ra := digit_range a
      have rb := digit_range b
      obtain ⟨l', hl', rfl⟩ := Option.map_eq_some_iff.1 h
      obtain ⟨i1, i2⟩ := hexL_takeS r l' hl'
      have e : hexL ((16 * digit a + digit b) :: l') = sign ((16 * digit a + digit b) / 16).toNat :: sign ((16 * digit a + digit b) % 16).toNat :: hexL l' := rfl
      have e1 : ((16 * digit a + digit b) / 16) = digit a := by omega
      have e2 : ((16 * digit a + digit b) % 16) = digit b := by omega
      refine ⟨by rw [e, e1, e2, i1, sign_digit a (by omega), sign_digit b (by omega)], ?_⟩
      intro x hx
      rcases List.mem_cons.1 hx with rfl | hx
      · omega
      · exact i2 x hx
theorem takeS_odd : ∀ (q : List Int), q.length % 2 = 1 → takeS q = none
  | [], h => by simp at h
  | [_], _ => rfl
  | a :: b :: r, h => by
    rw [takeS, takeS_odd r (by simp at h; omega)]
    split <;> rfl

theorem take_l0 : ∀ (q : List Int) (k : Nat) (s : ByteArray) (p acc : List Int), sI s = p ++ q → q.length < k → q.length % 2 = 0 → acc.length + q.length < 1000000 → p.length + q.length < 1000000 →
    hexa_Take.l0 k s acc (p.length : Int) = some (outS acc (takeS q))
  | [], k, s, p, acc, hs, hk, _, _, _ => by
    obtain ⟨k, rfl⟩ : ∃ m, k = m + 1 := ⟨k - 1, by omega⟩
    have hz : s.size = p.length := by rw [← sI_length, hs]; simp
    simp only [hexa_Take.l0]
    rw [if_neg (by omega)]; simp [takeS, outS]
  | [_], _, _, _, _, _, _, h, _, _ => by simp at h
  | a :: b :: r, k, s, p, acc, hs, hk, hm, ha, hp => by
    obtain ⟨k, rfl⟩ : ∃ m, k = m + 1 := ⟨k - 1, by omega⟩
    simp only [List.length_cons] at hk ha hp hm
    have hz : s.size = p.length + r.length + 2 := by rw [← sI_length, hs]; simp; omega
    have ra := digit_range a
    have rb := digit_range b
    have e1 : wrap64 ((p.length : Int) + 1) = (p.length : Int) + 1 := by simp only [wrap64]; omega
    have e2 : wrap64 ((p.length : Int) + 2) = ((p ++ [a, b]).length : Int) := by simp [wrap64]; omega
    simp only [hexa_Take.l0]
    rw [e1, e2, if_pos (by omega), if_pos (by omega), bt_mid hs, bt_mid1 hs]
    simp only [hexa_Digit.f, Option.bind_some]
    rw [if_pos (by omega), if_pos (by omega), takeS]
    by_cases h1 : digit a < 0
    · rw [if_pos h1, if_pos (Or.inl h1)]; rfl
    rw [if_neg h1]
    by_cases h2 : digit b < 0
    · rw [if_pos h2, if_pos (Or.inr h2)]; rfl
    have e3 : wrap64 (wrap64 (16 * digit a) + digit b) % 256 = 16 * digit a + digit b := by simp only [wrap64]; omega
    rw [if_neg h2, if_pos (by omega), if_neg (show ¬ (digit a < 0 ∨ digit b < 0) by omega), e3]
    have := take_l0 r k s (p ++ [a, b]) (acc ++ [16 * digit a + digit b]) (by simp [hs]) (by omega) (by omega) (by simp; omega) (by simp; omega)
    rw [this]
    cases takeS r <;> simp [outS]
theorem take_f (k : Nat) (s : ByteArray) (hk : s.size < k) (hs : s.size < 1000000) : hexa_Take.f k s = some (outS [] (takeS (sI s))) := by
  unfold hexa_Take.f
  by_cases hm : s.size % 2 = 0
  · rw [if_pos (by omega)]
    exact take_l0 (sI s) k s [] [] rfl (by rw [sI_length]; exact hk) (by rw [sI_length]; exact hm) (by rw [sI_length]; simpa using hs) (by rw [sI_length]; simpa using hs)
  · rw [if_neg (by omega), takeS_odd _ (by rw [sI_length]; omega)]; rfl
theorem put_f (l : List Int) (h : l.length < 1000000) (hw : ∀ x ∈ l, 0 ≤ x ∧ x < 256) : hexa_Put.f l = some (Go.strOfNums (hexL l)) := by
  unfold hexa_Put.f
  rw [if_pos h, if_pos (List.all_eq_true.2 fun x hx => decide_eq_true (hw x hx))]
theorem strOfNums_toL (xs : List Int) : (Go.strOfNums xs).toList = xs.map fun n => UInt8.ofNat n.toNat := by rw [ByteArray.toList_eq]; rfl
theorem awake_f (k : Nat) (hk : 4 < k) : busbarlaw03_awake.f k = some true := by
  unfold busbarlaw03_awake.f
  have e1 : takeS (sI ⟨#[48, 97, 70, 70]⟩) = none := by decide
  have e2 : takeS (sI ⟨#[48, 65, 70, 70]⟩) = some [10, 255] := by decide
  have t1 : hexa_Take.f k ⟨#[48, 97, 70, 70]⟩ = some ([], 11) := (take_f k ⟨#[48, 97, 70, 70]⟩ (show 4 < k from hk) (by decide)).trans (by rw [e1]; rfl)
  have t2 : hexa_Take.f k ⟨#[48, 65, 70, 70]⟩ = some ([10, 255], 0) := (take_f k ⟨#[48, 65, 70, 70]⟩ (show 4 < k from hk) (by decide)).trans (by rw [e2]; rfl)
  rw [t1, t2, put_f _ (by simp) (by simp)]
  simp only [Option.bind_some]
  rw [if_pos (by rw [strOfNums_toL]; decide), if_pos trivial, if_pos trivial, if_pos (by rw [strOfNums_toL]; decide)]
  rfl
theorem same_f (l : List Int) : busbarref01_Same.f l l = some true := by
  unfold busbarref01_Same.f; simp
theorem sI_append (a b : ByteArray) : sI (a ++ b) = sI a ++ sI b := by simp [sI, ByteArray.data_append]
theorem sI_extract (s : ByteArray) (a b : Nat) : sI (s.extract a b) = ((sI s).drop a).take (b - a) := by
  simp [sI, ByteArray.data_extract, List.extract_eq_take_drop, List.map_take, List.map_drop]
theorem sI_inj {a b : ByteArray} (h : sI a = sI b) : a = b := by rw [← str_sI a, h, str_sI]
theorem bind_go {α β : Type} {a : α} {f : α → Option β} {r : Option β} (h : f a = r) : (some a).bind f = r := h
theorem each_val (c : Int) (h0 : 0 ≤ c) (h1 : c < 256) : wrap64 (wrap64 (16 * (((c / 16).toNat : Nat) : Int)) + (((c % 16).toNat : Nat) : Int)) = c := by simp only [wrap64]; omega
theorem each_id (c : Int) (h0 : 0 ≤ c) (h1 : c < 256) : wrap64 c = c := by simp only [wrap64]; omega
theorem HexaEach : busbarlaw03_HexaEach.Pure := by
  intro b at' _ _ hb hat
  have hb : ∀ x ∈ b, 0 ≤ x ∧ x < 256 := fun x hx => wf8 (hb x hx)
  have hat := wf16 hat
  refine ⟨1000, ?_⟩
  unfold busbarlaw03_HexaEach.f
  rw [awake_f _ (by omega)]
  simp only [Option.bind_some]
  by_cases h1 : (b.length : Int) > 300
  · rw [if_pos h1]; simp [busbarlaw03_HexaEach.j0]
  rw [if_neg h1]
  by_cases h2 : (b.length : Int) = 0
  · simp only [busbarlaw03_HexaEach.j0]; simp [h2]
  have h2b : ((b.length : Int) == 0) = false := beq_eq_false_iff_ne.mpr h2
  simp only [busbarlaw03_HexaEach.j0, h2b]
  have hr := hexL_range b hb
  have hr' : ∀ x ∈ hexL b, 0 ≤ x ∧ x < 256 := fun x hx => by have := hr x hx; omega
  have hn := hexL_length b
  obtain ⟨S, hS, hsI⟩ : ∃ S, hexa_Put.f b = some S ∧ sI S = hexL b := ⟨_, put_f b (by omega) hb, sI_str _ hr'⟩
  have hz : S.size = 2 * b.length := by rw [← sI_length, hsI, hn]
  rw [if_neg (by simp), if_neg h2, hS]
  refine bind_go ?_
  have e0 : Aside0 (wrap64 (2 * (b.length : Int)) = (S.size : Int)) := ⟨by rw [hz]; simp only [wrap64]; omega⟩
  have e1 : Aside0 (wrap64 at' = at') := ⟨by simp only [wrap64]; omega⟩
  have hm : Aside0 (Int.tmod at' (b.length : Int) = at' % (b.length : Int)) := ⟨Int.tmod_eq_emod_of_nonneg hat.1⟩
  have m0 : 0 ≤ at' % (b.length : Int) := Int.emod_nonneg _ (by omega)
  have m1 : at' % (b.length : Int) < (b.length : Int) := Int.emod_lt_of_pos _ (by omega)
  rw [e0.out, if_pos rfl, if_pos trivial, e1.out, hm.out]
  generalize at' % (b.length : Int) = k at m0 m1 ⊢
  obtain ⟨k, rfl⟩ := Int.eq_ofNat_of_zero_le m0
  have hk : k < b.length := by omega
  obtain ⟨p, c, q, hbe, hp⟩ : ∃ p c q, b = p ++ c :: q ∧ p.length = k := ⟨b.take k, b[k], b.drop (k + 1), by simp, by simp; omega⟩
  have e2 : Aside0 (wrap64 (2 * (k : Int)) = ((2 * k : Nat) : Int)) := ⟨by simp only [wrap64]; omega⟩
  have e3 : Aside0 (wrap64 (((2 * k : Nat) : Int) + 2) = ((2 * k + 2 : Nat) : Int)) := ⟨by simp only [wrap64]; omega⟩
  have e4 : Aside0 (wrap64 ((k : Int) + 1) = ((k + 1 : Nat) : Int)) := ⟨by simp only [wrap64]; omega⟩
  have e5 : Aside0 (wrap64 (((2 * k : Nat) : Int) + 1) = ((2 * k + 1 : Nat) : Int)) := ⟨by simp only [wrap64]; omega⟩
  rw [e2.out, e3.out, e4.out, e5.out, if_pos (by omega), if_pos (by omega), if_pos (by omega), if_pos (by omega), if_pos (by omega), if_pos (by omega)]
  simp only [Int.toNat_natCast]
  have cc := hb c (by rw [hbe]; simp)
  have d1 : (b.take (k + 1)).drop k = [c] := by
    have e : p ++ c :: q = (p ++ [c]) ++ q := by simp
    rw [hbe, ← hp, e, List.take_append_of_le_length (by simp), List.take_of_length_le (by simp)]; simp
  have hL : hexL b = hexL p ++ sign (c / 16).toNat :: sign (c % 16).toNat :: hexL q := by
    rw [hbe, hexL_append]; rfl
  have hpl : (hexL p).length = 2 * k := by rw [hexL_length, hp]
  rw [hL] at hsI
  have b1 := bt_mid hsI
  have b2 := bt_mid1 hsI
  rw [hpl] at b1 b2
  have b2' : bt S ((2 * k + 1 : Nat) : Int) = sign (c % 16).toNat := by
    rw [← b2]; congr 1
  have hone : hexL [c] = [sign (c / 16).toNat, sign (c % 16).toNat] := rfl
  have hones : ∀ x ∈ hexL [c], 0 ≤ x ∧ x < 256 := fun x hx => by have := hexL_range [c] (by simpa using cc) x hx; omega
  have hx : S.extract (2 * k) (2 * k + 2) = Go.strOfNums (hexL [c]) := by
    apply sI_inj
    rw [sI_extract, sI_str _ hones, hsI, hone]
    have e : 2 * k + 2 - 2 * k = 2 := by omega
    rw [e, ← hpl]; simp
  rw [d1, put_f [c] (by simp) (by simpa using cc)]
  refine bind_go ?_
  rw [if_pos (by rw [hx]), if_pos (by omega), b1]
  refine bind_go ?_
  rw [if_pos (by omega), if_pos (by omega), b2']
  refine bind_go ?_
  rw [if_pos (by omega)]
  have r : rd b (k : Int) = c := by rw [hbe, ← hp]; simp [rd]
  rw [r, digit_sign _ (by omega), digit_sign _ (by omega)]
  rw [each_val c cc.1 cc.2, each_id c cc.1 cc.2, beq_self_eq_true]

end Go.Proofs.Ytbdfjaimgldokaa.Pure
