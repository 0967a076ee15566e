/- Numbers behind numbers are bytes behind bytes; of two numbers the greater one has the greater bytes. For every two lists and every two numbers. -/
import Derived.Test.YtdaoejofgmbhnaaPWJx2
namespace Go.Proofs.Ytdaoejofgmbhnaa.Pure
open Go.RowKit Go.Proofs.Ytdaoejofgmbhnaa.PWJ Go.Proofs.YtdaoejofgmbhnaaW.PrintWords Go.Proofs.YtdaoejofgmbhnaaW.PrintLast

theorem wf16 {x : Int} (h : (Lit.int .u16 x).wf = true) : 0 ≤ x ∧ x < 65536 := by
  simp [Lit.wf, IntKind.min, IntKind.max, IntKind.bits, IntKind.signed] at h; omega
theorem wf8 {x : Int} (h : (Lit.int .u8 x).wf = true) : 0 ≤ x ∧ x < 256 := by
  simp [Lit.wf, IntKind.min, IntKind.max, IntKind.bits, IntKind.signed] at h; omega
theorem wfi {x : Int} (h : (Lit.int .i64 x).wf = true) : -9223372036854775808 ≤ x ∧ x < 9223372036854775808 := by
  simp [Lit.wf, IntKind.min, IntKind.max, IntKind.bits, IntKind.signed] at h; omega
theorem wrap16 (n : Int) : IntKind.u16.wrap n = n % 65536 := by simp [IntKind.wrap, IntKind.bits, IntKind.signed]

theorem rd_mid (p : List Int) (x : Int) (s : List Int) : rd (p ++ x :: s) (p.length : Int) = x := by simp [rd]
theorem rd_mid1 (p : List Int) (x y : Int) (s : List Int) : rd (p ++ x :: y :: s) ((p.length : Int) + 1) = y := by
  have e : ((p.length : Int) + 1).toNat = p.length + 1 := by omega
  simp [rd, e, List.getD_eq_getElem?_getD]

def putL (l : List Int) : List Int := l.flatMap fun n => [(n / 256) % 256, n % 256]
def takeL : List Int → List Int
  | a :: b :: r => (a * 256 + b) :: takeL r
  | _ => []

theorem putL_nil : putL [] = [] := rfl
theorem putL_cons (a : Int) (l : List Int) : putL (a :: l) = (a / 256) % 256 :: a % 256 :: putL l := rfl
theorem putL_append (a b : List Int) : putL (a ++ b) = putL a ++ putL b := by simp [putL]
theorem putL_length (l : List Int) : (putL l).length = 2 * l.length := by
  induction l with
  | nil => rfl
  | cons a l ih => rw [putL_cons]; simp [ih]; omega
theorem putL_wf (l : List Int) : ∀ x ∈ putL l, 0 ≤ x ∧ x < 256 := by
  intro x hx
  simp only [putL, List.mem_flatMap] at hx
  obtain ⟨n, _, hn⟩ := hx
  simp at hn
  omega
theorem takeL_putL (l : List Int) (h : ∀ x ∈ l, 0 ≤ x ∧ x < 65536) : takeL (putL l) = l := by
  induction l with
  | nil => rfl
  | cons a l ih =>
    rw [putL_cons, takeL, ih (fun x hx => h x (List.mem_cons_of_mem _ hx))]
    have := h a (List.mem_cons_self ..)
    congr 1; omega
theorem takeL_length : ∀ (l : List Int), (takeL l).length = l.length / 2
  | [] => rfl
  | [_] => by simp [takeL]
  | a :: b :: r => by simp only [takeL, List.length_cons, takeL_length r]; omega
theorem takeL_wf : ∀ (l : List Int), (∀ x ∈ l, 0 ≤ x ∧ x < 256) → ∀ x ∈ takeL l, 0 ≤ x ∧ x < 65536
  | [], _, x, hx => by simp [takeL] at hx
  | [_], _, x, hx => by simp [takeL] at hx
  | a :: b :: r, h, x, hx => by
    have ha := h a (by simp)
    have hb := h b (by simp)
    rw [takeL] at hx
    rcases List.mem_cons.1 hx with rfl | hx
    · omega
    · exact takeL_wf r (fun y hy => h y (by simp [hy])) x hx
theorem putL_takeL : ∀ (l : List Int), (∀ x ∈ l, 0 ≤ x ∧ x < 256) → l.length % 2 = 0 → putL (takeL l) = l
  | [], _, _ => rfl
  | [_], _, h => by simp at h
  | a :: b :: r, h, hl => by
    have ha := h a (by simp)
    have hb := h b (by simp)
    rw [takeL, putL_cons, putL_takeL r (fun y hy => h y (by simp [hy])) (by simp at hl; omega)]
    congr 1
    · omega
    · congr 1; omega

theorem bits_or16 (x y : Int) (hx : 0 ≤ x) (hx1 : x < 256) (hy : 0 ≤ y) (hy1 : y < 256) :
    Go.bits .or .u16 (x * 256) y = x * 256 + y := by
  have := bits_join .u16 16 (by decide) (fun n h0 h1 => by rw [wrap16]; omega) 8 (x * 256) y (by omega) (by omega) (by omega) (by omega) (by omega) (by omega)
  exact this

theorem put_l0 (s : List Int) : ∀ (k : Nat) (p acc : List Int), s.length < k → acc.length + 2 * s.length < 140737488355328 → p.length + s.length < 140737488355328 →
    word_Put.l0 k acc (p ++ s) ((p ++ s).length : Int) (p.length : Int) = some (acc ++ putL s) := by
  induction s with
  | nil =>
    intro k p acc hk _ _
    obtain ⟨k, rfl⟩ : ∃ m, k = m + 1 := ⟨k - 1, by omega⟩
    simp only [word_Put.l0]
    rw [if_neg (by simp)]; simp [putL_nil]
  | cons x s ih =>
    intro k p acc hk ha hp
    obtain ⟨k, rfl⟩ : ∃ m, k = m + 1 := ⟨k - 1, by omega⟩
    simp only [List.length_cons] at hk ha hp
    simp only [word_Put.l0]
    have hlt : (p.length : Int) < ((p ++ x :: s).length : Int) := by simp; omega
    rw [if_pos hlt, if_pos (by omega), if_pos hlt, rd_mid]
    simp only [Option.bind_some]
    rw [if_pos (by simp; omega)]
    have e : wrap64 ((p.length : Int) + 1) = ((p ++ [x]).length : Int) := by simp [wrap64]; omega
    have := ih k (p ++ [x]) (acc ++ [(x / 256) % 256, x % 256]) (by omega) (by simp; omega) (by simp; omega)
    rw [e]
    simp only [List.append_assoc, List.cons_append, List.nil_append] at this ⊢
    rw [this, putL_cons]
theorem put_f (k : Nat) (l : List Int) (hk : l.length < k) (hl : 2 * l.length < 140737488355328) : word_Put.f k l = some (putL l) := by
  have := put_l0 l k [] [] hk (by simpa using hl) (by simp; omega)
  simpa [word_Put.f] using this

theorem take_l0 : ∀ (s : List Int) (k : Nat) (p acc : List Int), s.length < k → s.length % 2 = 0 → (∀ x ∈ s, 0 ≤ x ∧ x < 256) → acc.length + s.length < 70368744177664 → p.length + s.length < 140737488355328 →
    word_Take.l0 k (p ++ s) acc (p.length : Int) = some (acc ++ takeL s)
  | [], k, p, acc, hk, _, _, _, _ => by
    obtain ⟨k, rfl⟩ : ∃ m, k = m + 1 := ⟨k - 1, by omega⟩
    simp only [word_Take.l0]
    rw [if_neg (by simp)]; simp [takeL]
  | [_], _, _, _, _, h, _, _, _ => by simp at h
  | a :: b :: r, k, p, acc, hk, hm, hw, ha, hp => by
    obtain ⟨k, rfl⟩ : ∃ m, k = m + 1 := ⟨k - 1, by omega⟩
    simp only [List.length_cons] at hk ha hp hm
    have w1 := hw a (by simp)
    have w2 := hw b (by simp)
    simp only [word_Take.l0]
    have e1 : wrap64 ((p.length : Int) + 1) = (p.length : Int) + 1 := by simp only [wrap64]; omega
    have e2 : wrap64 ((p.length : Int) + 2) = ((p ++ [a, b]).length : Int) := by simp [wrap64]; omega
    have hlt : (p.length : Int) < ((p ++ a :: b :: r).length : Int) := by simp; omega
    rw [e1, e2, if_pos hlt, if_pos (by omega), if_pos (by omega), if_pos (by simp; omega), if_pos (by omega), rd_mid, rd_mid1]
    rw [wrap16, wrap16, wrap16]
    have f1 : a % 65536 * 256 % 65536 = a * 256 := by omega
    have f2 : b % 65536 = b := by omega
    rw [f1, f2, bits_or16 a b w1.1 w1.2 w2.1 w2.2]
    have := take_l0 r k (p ++ [a, b]) (acc ++ [a * 256 + b]) (by omega) (by omega) (fun y hy => hw y (by simp [hy])) (by simp; omega) (by simp; omega)
    simp only [List.append_assoc, List.cons_append, List.nil_append] at this ⊢
    rw [this, takeL]
theorem take_f (k : Nat) (l : List Int) (hk : l.length < k) (hm : l.length % 2 = 0) (hw : ∀ x ∈ l, 0 ≤ x ∧ x < 256) (hl : l.length < 70368744177664) : word_Take.f k l = some (takeL l) := by
  have := take_l0 l k [] [] hk hm hw (by simpa using hl) (by simp; omega)
  unfold word_Take.f
  rw [if_pos (by omega)]
  simpa using this
theorem take_odd (k : Nat) (l : List Int) (hm : l.length % 2 = 1) : word_Take.f k l = some [] := by
  unfold word_Take.f
  rw [if_neg (by omega)]

theorem within_f (a c : Int) (ha : 0 ≤ a ∧ a < 65536) : word_Within.f a c = some (decide (0 < c ∧ c ≤ 65536 - a)) := by
  unfold word_Within.f
  have e : wrap64 (65536 - wrap64 a) = 65536 - a := by simp only [wrap64]; omega
  rw [e]
  by_cases h : c > 0
  · rw [if_pos h]; congr 1; simp [h]
  · rw [if_neg h]; congr 1; simp [h]

theorem strOfNums_toL (xs : List Int) : (Go.strOfNums xs).toList = xs.map fun n => UInt8.ofNat n.toNat := by rw [ByteArray.toList_eq]; rfl

theorem awake_f (k : Nat) (hk : 2 < k) : busbarlaw04_awake.f k = some true := by
  unfold busbarlaw04_awake.f
  rw [put_f k [258, 3] (by simpa using hk) (by simp), within_f _ _ (by omega), within_f _ _ (by omega), take_f k [1, 2] (by simpa using hk) (by simp) (by simp) (by simp)]
  simp only [Option.bind_some]
  rw [if_pos (by rw [strOfNums_toL]; decide)]
  simp [takeL]
theorem u8_lt (x y : Int) (x0 : 0 ≤ x) (x1 : x < 256) (y0 : 0 ≤ y) (y1 : y < 256) : decide (UInt8.ofNat x.toNat < UInt8.ofNat y.toNat) = decide (x < y) := by
  rw [decide_eq_decide, UInt8.lt_iff_toNat_lt]; simp; omega
theorem u8_eq (x y : Int) (x0 : 0 ≤ x) (x1 : x < 256) (y0 : 0 ≤ y) (y1 : y < 256) : (UInt8.ofNat x.toNat == UInt8.ofNat y.toNat) = decide (x = y) := by
  rw [Bool.eq_iff_iff, beq_iff_eq, decide_eq_true_eq]
  constructor
  · intro h
    have := congrArg UInt8.toNat h
    simp at this; omega
  · rintro rfl; rfl
theorem less_put (x y : Int) (hx : 0 ≤ x ∧ x < 65536) (hy : 0 ≤ y ∧ y < 65536) :
    Op.bytesLess ((Go.strOfNums (putL [x])).toList) ((Go.strOfNums (putL [y])).toList) = decide (x < y) := by
  rw [strOfNums_toL, strOfNums_toL, putL_cons, putL_cons, putL_nil]
  have e : Op.bytesLess ([x / 256 % 256, x % 256].map fun n => UInt8.ofNat n.toNat) ([y / 256 % 256, y % 256].map fun n => UInt8.ofNat n.toNat)
      = (decide (UInt8.ofNat (x / 256 % 256).toNat < UInt8.ofNat (y / 256 % 256).toNat) || (UInt8.ofNat (x / 256 % 256).toNat == UInt8.ofNat (y / 256 % 256).toNat && (decide (UInt8.ofNat (x % 256).toNat < UInt8.ofNat (y % 256).toNat) || (UInt8.ofNat (x % 256).toNat == UInt8.ofNat (y % 256).toNat && false)))) := rfl
  rw [e, u8_lt _ _ (by omega) (by omega) (by omega) (by omega), u8_eq _ _ (by omega) (by omega) (by omega) (by omega), u8_lt _ _ (by omega) (by omega) (by omega) (by omega), Bool.and_false, Bool.or_false]
  rw [Bool.eq_iff_iff]
  simp only [Bool.or_eq_true, Bool.and_eq_true, decide_eq_true_eq]
  omega
theorem same_f (l : List Int) : busbarref01_Same.f l l = some true := by
  unfold busbarref01_Same.f; simp
theorem len_ok (n a b : Nat) (hn : n = 2 * (a + b)) (ha : a ≤ 200) (hb : b ≤ 200) : (n : Int) = wrap64 (wrap64 (2 * (a : Int)) + wrap64 (2 * (b : Int))) := by
  have e1 : wrap64 (2 * (a : Int)) = 2 * (a : Int) := by simp only [wrap64]; omega
  have e2 : wrap64 (2 * (b : Int)) = 2 * (b : Int) := by simp only [wrap64]; omega
  have e3 : wrap64 (2 * (a : Int) + 2 * (b : Int)) = 2 * (a : Int) + 2 * (b : Int) := by simp only [wrap64]; omega
  rw [e1, e2, e3]; omega
theorem join_main (k : Nat) (hk : 500 ≤ k) (l0 l1 : List Int) (x y : Int) (h0 : l0.length ≤ 200) (h1 : l1.length ≤ 200) (hx : 0 ≤ x ∧ x < 65536) (hy : 0 ≤ y ∧ y < 65536) :
    busbarlaw04_WordJoins.j0 (k + 1) l0 l1 x y true false = some true := by
  have ea : (([] : List Int) ++ l0) = l0 := rfl
  have eb : (([] : List Int) ++ putL l0) = putL l0 := rfl
  have p0 := putL_length l0
  have p1 := putL_length l1
  have pa := putL_length (l0 ++ l1)
  have la : (l0 ++ l1).length = l0.length + l1.length := List.length_append
  rw [busbarlaw04_WordJoins.j0, if_neg (by simp), Option.bind_some, if_pos (by simp; omega), Option.bind_some, ea, if_pos (by omega), put_f k (l0 ++ l1) (by omega) (by omega), Option.bind_some, if_pos rfl, Option.bind_some,
    put_f k l0 (by omega) (by omega), Option.bind_some, if_pos (by simp; omega), Option.bind_some, eb, put_f k l1 (by omega) (by omega), Option.bind_some, if_pos (by omega), ← putL_append, same_f, Option.bind_some, if_pos rfl,
    if_pos (len_ok _ _ _ (by omega) h0 h1), put_f k [x] (by simp; omega) (by simp), Option.bind_some, put_f k [y] (by simp; omega) (by simp), Option.bind_some, less_put x y hx hy, beq_self_eq_true]
theorem joins_all (k : Nat) (hk : 500 ≤ k) (l0 l1 : List Int) (x y : Int) (hx : 0 ≤ x ∧ x < 65536) (hy : 0 ≤ y ∧ y < 65536) : busbarlaw04_WordJoins.f (k + 1) l0 l1 x y = some true := by
  unfold busbarlaw04_WordJoins.f
  rw [awake_f (k + 1) (by omega), Option.bind_some]
  by_cases c0 : (l0.length : Int) > 200
  · rw [if_pos c0, busbarlaw04_WordJoins.j0, if_pos rfl]
  · rw [if_neg c0]
    by_cases c1 : (l1.length : Int) > 200
    · rw [decide_eq_true c1, busbarlaw04_WordJoins.j0, if_pos rfl]
    · rw [decide_eq_false c1]
      exact join_main k hk l0 l1 x y (by omega) (by omega) hx hy
/-- For every two lists of numbers and every two numbers. -/
theorem WordJoins : busbarlaw04_WordJoins.Pure := by
  intro l0 l1 a2 a3 _ _ _ _ _ _ h2 h3
  exact ⟨500 + 1, joins_all 500 (Nat.le_refl _) l0 l1 a2 a3 (wf16 h2) (wf16 h3)⟩

end Go.Proofs.Ytdaoejofgmbhnaa.Pure
