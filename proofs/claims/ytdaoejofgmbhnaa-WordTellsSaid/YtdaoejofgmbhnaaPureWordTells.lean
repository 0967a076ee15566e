/- Any numbers' bytes, any bytes' numbers, and whether so many are there from a place on, is what the reference answers. For every two lists, place and number. -/
import Derived.Test.YtdaoejofgmbhnaaPWordTellsx2
import Derived.Test.YtdaoejofgmbhnaaWSized
namespace Go.Proofs.Ytdaoejofgmbhnaa.PrintWords
/-- The word that the printed row names, under the name by which it finds it. -/
abbrev sized_ints := @Go.Proofs.YtdaoejofgmbhnaaW.PrintWords.sized_ints
end Go.Proofs.Ytdaoejofgmbhnaa.PrintWords
namespace Go.Proofs.Ytdaoejofgmbhnaa.Pure
open Go.RowKit Go.Proofs.Ytdaoejofgmbhnaa.PWordTells Go.Proofs.YtdaoejofgmbhnaaW.PrintWords Go.Proofs.YtdaoejofgmbhnaaW.PrintLast

theorem wf16 {x : Int} (h : (Lit.int .u16 x).wf = true) : 0 ≤ x ∧ x < 65536 := by
  simp [Lit.wf, IntKind.min, IntKind.max, IntKind.bits, IntKind.signed] at h; omega
theorem wf8 {x : Int} (h : (Lit.int .u8 x).wf = true) : 0 ≤ x ∧ x < 256 := by
  simp [Lit.wf, IntKind.min, IntKind.max, IntKind.bits, IntKind.signed] at h; omega
theorem wfi {x : Int} (h : (Lit.int .i64 x).wf = true) : -9223372036854775808 ≤ x ∧ x < 9223372036854775808 := by
  simp [Lit.wf, IntKind.min, IntKind.max, IntKind.bits, IntKind.signed] at h; omega
theorem wrap16 (n : Int) : IntKind.u16.wrap n = n % 65536 := by simp [IntKind.wrap, IntKind.bits, IntKind.signed]

theorem rd_mid (p : List Int) (x : Int) (s : List Int) : rd (p ++ x :: s) (p.length : Int) = x := by simp [rd]
theorem rd_mid1 (p : List Int) (x y : Int) (s : List Int) : rd (p ++ x :: y :: s) ((p.length : Int) + 1) = y := by
  have e : ((p.length : Int) + 1).toNat = p.length + 1 := by omega
  simp [rd, e, List.getD_eq_getElem?_getD]

def putL (l : List Int) : List Int := l.flatMap fun n => [(n / 256) % 256, n % 256]
def takeL : List Int → List Int
  | a :: b :: r => (a * 256 + b) :: takeL r
  | _ => []

theorem putL_nil : putL [] = [] := rfl
theorem putL_cons (a : Int) (l : List Int) : putL (a :: l) = (a / 256) % 256 :: a % 256 :: putL l := rfl
theorem putL_append (a b : List Int) : putL (a ++ b) = putL a ++ putL b := by simp [putL]
theorem putL_length (l : List Int) : (putL l).length = 2 * l.length := by
  induction l with
  | nil => rfl
  | cons a l ih => rw [putL_cons]; simp [ih]; omega
theorem putL_wf (l : List Int) : ∀ x ∈ putL l, 0 ≤ x ∧ x < 256 := by
  intro x hx
  simp only [putL, List.mem_flatMap] at hx
  obtain ⟨n, _, hn⟩ := hx
  simp at hn
  omega
theorem takeL_putL (l : List Int) (h : ∀ x ∈ l, 0 ≤ x ∧ x < 65536) : takeL (putL l) = l := by
  induction l with
  | nil => rfl
  | cons a l ih =>
    rw [putL_cons, takeL, ih (fun x hx => h x (List.mem_cons_of_mem _ hx))]
    have := h a (List.mem_cons_self ..)
    congr 1; omega
theorem takeL_length : ∀ (l : List Int), (takeL l).length = l.length / 2
  | [] => rfl
  | [_] => by simp [takeL]
  | a :: b :: r => by simp only [takeL, List.length_cons, takeL_length r]; omega
theorem takeL_wf : ∀ (l : List Int), (∀ x ∈ l, 0 ≤ x ∧ x < 256) → ∀ x ∈ takeL l, 0 ≤ x ∧ x < 65536
  | [], _, x, hx => by simp [takeL] at hx
  | [_], _, x, hx => by simp [takeL] at hx
  | a :: b :: r, h, x, hx => by
    have ha := h a (by simp)
    have hb := h b (by simp)
    rw [takeL] at hx
    rcases List.mem_cons.1 hx with rfl | hx
    · omega
    · exact takeL_wf r (fun y hy => h y (by simp [hy])) x hx
theorem putL_takeL : ∀ (l : List Int), (∀ x ∈ l, 0 ≤ x ∧ x < 256) → l.length % 2 = 0 → putL (takeL l) = l
  | [], _, _ => rfl
  | [_], _, h => by simp at h
  | a :: b :: r, h, hl => by
    have ha := h a (by simp)
    have hb := h b (by simp)
    rw [takeL, putL_cons, putL_takeL r (fun y hy => h y (by simp [hy])) (by simp at hl; omega)]
    congr 1
    · omega
    · congr 1; omega

theorem bits_or16 (x y : Int) (hx : 0 ≤ x) (hx1 : x < 256) (hy : 0 ≤ y) (hy1 : y < 256) :
    Go.bits .or .u16 (x * 256) y = x * 256 + y := by
  have := bits_join .u16 16 (by decide) (fun n h0 h1 => by rw [wrap16]; omega) 8 (x * 256) y (by omega) (by omega) (by omega) (by omega) (by omega) (by omega)
  exact this

theorem put_l0 (s : List Int) : ∀ (k : Nat) (p acc : List Int), s.length < k → acc.length + 2 * s.length < 140737488355328 → p.length + s.length < 140737488355328 →
    word_Put.l0 k acc (p ++ s) ((p ++ s).length : Int) (p.length : Int) = some (acc ++ putL s) := by
  induction s with
  | nil =>
    intro k p acc hk _ _
    obtain ⟨k, rfl⟩ : ∃ m, k = m + 1 := ⟨k - 1, by omega⟩
    simp only [word_Put.l0]
    rw [if_neg (by simp)]; simp [putL_nil]
  | cons x s ih =>
    intro k p acc hk ha hp
    obtain ⟨k, rfl⟩ : ∃ m, k = m + 1 := ⟨k - 1, by omega⟩
    simp only [List.length_cons] at hk ha hp
    simp only [word_Put.l0]
    have hlt : (p.length : Int) < ((p ++ x :: s).length : Int) := by simp; omega
    rw [if_pos hlt, if_pos (by omega), if_pos hlt, rd_mid]
    simp only [Option.bind_some]
    rw [if_pos (by simp; omega)]
    have e : wrap64 ((p.length : Int) + 1) = ((p ++ [x]).length : Int) := by simp [wrap64]; omega
    have := ih k (p ++ [x]) (acc ++ [(x / 256) % 256, x % 256]) (by omega) (by simp; omega) (by simp; omega)
    rw [e]
    simp only [List.append_assoc, List.cons_append, List.nil_append] at this ⊢
    rw [this, putL_cons]
theorem put_f (k : Nat) (l : List Int) (hk : l.length < k) (hl : 2 * l.length < 140737488355328) : word_Put.f k l = some (putL l) := by
  have := put_l0 l k [] [] hk (by simpa using hl) (by simp; omega)
  simpa [word_Put.f] using this

theorem take_l0 : ∀ (s : List Int) (k : Nat) (p acc : List Int), s.length < k → s.length % 2 = 0 → (∀ x ∈ s, 0 ≤ x ∧ x < 256) → acc.length + s.length < 70368744177664 → p.length + s.length < 140737488355328 →
    word_Take.l0 k (p ++ s) acc (p.length : Int) = some (acc ++ takeL s)
  | [], k, p, acc, hk, _, _, _, _ => by
    obtain ⟨k, rfl⟩ : ∃ m, k = m + 1 := ⟨k - 1, by omega⟩
    simp only [word_Take.l0]
    rw [if_neg (by simp)]; simp [takeL]
  | [_], _, _, _, _, h, _, _, _ => by simp at h
  | a :: b :: r, k, p, acc, hk, hm, hw, ha, hp => by
    obtain ⟨k, rfl⟩ : ∃ m, k = m + 1 := ⟨k - 1, by omega⟩
    simp only [List.length_cons] at hk ha hp hm
    have w1 := hw a (by simp)
    have w2 := hw b (by simp)
    simp only [word_Take.l0]
    have e1 : wrap64 ((p.length : Int) + 1) = (p.length : Int) + 1 := by simp only [wrap64]; omega
    have e2 : wrap64 ((p.length : Int) + 2) = ((p ++ [a, b]).length : Int) := by simp [wrap64]; omega
    have hlt : (p.length : Int) < ((p ++ a :: b :: r).length : Int) := by simp; omega
    rw [e1, e2, if_pos hlt, if_pos (by omega), if_pos (by omega), if_pos (by simp; omega), if_pos (by omega), rd_mid, rd_mid1]
    rw [wrap16, wrap16, wrap16]
    have f1 : a % 65536 * 256 % 65536 = a * 256 := by omega
    have f2 : b % 65536 = b := by omega
    rw [f1, f2, bits_or16 a b w1.1 w1.2 w2.1 w2.2]
    have := take_l0 r k (p ++ [a, b]) (acc ++ [a * 256 + b]) (by omega) (by omega) (fun y hy => hw y (by simp [hy])) (by simp; omega) (by simp; omega)
    simp only [List.append_assoc, List.cons_append, List.nil_append] at this ⊢
    rw [this, takeL]
theorem take_f (k : Nat) (l : List Int) (hk : l.length < k) (hm : l.length % 2 = 0) (hw : ∀ x ∈ l, 0 ≤ x ∧ x < 256) (hl : l.length < 70368744177664) : word_Take.f k l = some (takeL l) := by
  have := take_l0 l k [] [] hk hm hw (by simpa using hl) (by simp; omega)
  unfold word_Take.f
  rw [if_pos (by omega)]
  simpa using this
theorem take_odd (k : Nat) (l : List Int) (hm : l.length % 2 = 1) : word_Take.f k l = some [] := by
  unfold word_Take.f
  rw [if_neg (by omega)]

theorem within_f (a c : Int) (ha : 0 ≤ a ∧ a < 65536) : word_Within.f a c = some (decide (0 < c ∧ c ≤ 65536 - a)) := by
  unfold word_Within.f
  have e : wrap64 (65536 - wrap64 a) = 65536 - a := by simp only [wrap64]; omega
  rw [e]
  by_cases h : c > 0
  · rw [if_pos h]; congr 1; simp [h]
  · rw [if_neg h]; congr 1; simp [h]

theorem strOfNums_toL (xs : List Int) : (Go.strOfNums xs).toList = xs.map fun n => UInt8.ofNat n.toNat := by rw [ByteArray.toList_eq]; rfl

theorem awake_f (k : Nat) (hk : 2 < k) : busbarlaw04_awake.f k = some true := by
  unfold busbarlaw04_awake.f
  rw [put_f k [258, 3] (by simpa using hk) (by simp), within_f _ _ (by omega), within_f _ _ (by omega), take_f k [1, 2] (by simpa using hk) (by simp) (by simp) (by simp)]
  simp only [Option.bind_some]
  rw [if_pos (by rw [strOfNums_toL]; decide)]
  simp [takeL]
theorem words_l0 (s : List Int) : ∀ (k : Nat) (p : List Int), s.length < k → p.length + s.length < 140737488355328 →
    busbarref01_Words.l0 k (p ++ s) (p ++ s) (p.length : Int) = some true := by
  induction s with
  | nil =>
    intro k p hk _
    obtain ⟨k, rfl⟩ : ∃ m, k = m + 1 := ⟨k - 1, by omega⟩
    simp only [busbarref01_Words.l0]
    rw [if_neg (by simp)]
  | cons x s ih =>
    intro k p hk hp
    obtain ⟨k, rfl⟩ : ∃ m, k = m + 1 := ⟨k - 1, by omega⟩
    simp only [List.length_cons] at hk hp
    simp only [busbarref01_Words.l0]
    have hlt : (p.length : Int) < ((p ++ x :: s).length : Int) := by simp; omega
    rw [if_pos hlt, if_pos (by omega), if_pos hlt, if_pos trivial]
    have e : wrap64 ((p.length : Int) + 1) = ((p ++ [x]).length : Int) := by simp [wrap64]; omega
    have := ih k (p ++ [x]) (by omega) (by simp; omega)
    rw [e]
    simp only [List.append_assoc, List.cons_append, List.nil_append] at this ⊢
    exact this
theorem words_f (k : Nat) (l : List Int) (hk : l.length < k) (hl : l.length < 140737488355328) : busbarref01_Words.f k l l = some true := by
  have := words_l0 l k [] hk (by simpa using hl)
  unfold busbarref01_Words.f
  rw [if_pos rfl]; simpa using this
theorem same_f (l : List Int) : busbarref01_Same.f l l = some true := by
  unfold busbarref01_Same.f; simp
theorem rput_l0 (s : List Int) : ∀ (k : Nat) (p acc : List Int), s.length < k → (∀ x ∈ s, 0 ≤ x ∧ x < 65536) → acc.length + 2 * s.length < 140737488355328 → p.length + s.length < 140737488355328 →
    busbarref04_Put.l0 k (p ++ s) acc (p.length : Int) = some (acc ++ putL s) := by
  induction s with
  | nil =>
    intro k p acc hk _ _ _
    obtain ⟨k, rfl⟩ : ∃ m, k = m + 1 := ⟨k - 1, by omega⟩
    simp only [busbarref04_Put.l0]
    rw [if_neg (by simp)]; simp [putL_nil]
  | cons x s ih =>
    intro k p acc hk hw ha hp
    obtain ⟨k, rfl⟩ : ∃ m, k = m + 1 := ⟨k - 1, by omega⟩
    simp only [List.length_cons] at hk ha hp
    have w := hw x (by simp)
    simp only [busbarref04_Put.l0]
    have hlt : (p.length : Int) < ((p ++ x :: s).length : Int) := by simp; omega
    rw [if_pos hlt, if_pos (by omega), rd_mid, wrap16, Int.tdiv_eq_ediv_of_nonneg w.1, Int.tmod_eq_emod_of_nonneg w.1]
    simp only [Option.bind_some]
    rw [if_pos (by simp; omega)]
    have e : wrap64 ((p.length : Int) + 1) = ((p ++ [x]).length : Int) := by simp [wrap64]; omega
    have f1 : x / 256 % 65536 % 256 = x / 256 % 256 := by omega
    have f2 : x % 256 % 256 = x % 256 := by omega
    have := ih k (p ++ [x]) (acc ++ [(x / 256) % 256, x % 256]) (by omega) (fun y hy => hw y (by simp [hy])) (by simp; omega) (by simp; omega)
    rw [e, f1, f2]
    simp only [List.append_assoc, List.cons_append, List.nil_append] at this ⊢
    rw [this, putL_cons]
theorem rput_f (k : Nat) (l : List Int) (hk : l.length < k) (hw : ∀ x ∈ l, 0 ≤ x ∧ x < 65536) (hl : 2 * l.length < 140737488355328) : busbarref04_Put.f k l = some (putL l) := by
  have := rput_l0 l k [] [] hk hw (by simpa using hl) (by simp; omega)
  simpa [busbarref04_Put.f] using this
theorem rtake_l0 : ∀ (s : List Int) (k : Nat) (p acc : List Int), s.length < k → s.length % 2 = 0 → (∀ x ∈ s, 0 ≤ x ∧ x < 256) → acc.length + s.length < 70368744177664 → p.length + s.length < 140737488355328 →
    busbarref04_Take.l0 k (p ++ s) acc (p.length : Int) = some (acc ++ takeL s)
  | [], k, p, acc, hk, _, _, _, _ => by
    obtain ⟨k, rfl⟩ : ∃ m, k = m + 1 := ⟨k - 1, by omega⟩
    simp only [busbarref04_Take.l0]
    rw [if_neg (by simp [wrap64]; omega)]; simp [takeL]
  | [_], _, _, _, _, h, _, _, _ => by simp at h
  | a :: b :: r, k, p, acc, hk, hm, hw, ha, hp => by
    obtain ⟨k, rfl⟩ : ∃ m, k = m + 1 := ⟨k - 1, by omega⟩
    simp only [List.length_cons] at hk ha hp hm
    have w1 := hw a (by simp)
    have w2 := hw b (by simp)
    simp only [busbarref04_Take.l0]
    have e1 : wrap64 ((p.length : Int) + 1) = (p.length : Int) + 1 := by simp only [wrap64]; omega
    have e2 : wrap64 ((p.length : Int) + 2) = ((p ++ [a, b]).length : Int) := by simp [wrap64]; omega
    have hlt : (p.length : Int) < ((p ++ a :: b :: r).length : Int) := by simp; omega
    rw [e1, e2, if_pos (by simp; omega), if_pos (by omega), if_pos hlt, if_pos (by omega), if_pos (by omega), rd_mid, rd_mid1]
    simp only [wrap16]
    have f1 : (256 * (a % 65536) % 65536 + b % 65536) % 65536 = a * 256 + b := by omega
    rw [f1]
    have := rtake_l0 r k (p ++ [a, b]) (acc ++ [a * 256 + b]) (by omega) (by omega) (fun y hy => hw y (by simp [hy])) (by simp; omega) (by simp; omega)
    simp only [List.append_assoc, List.cons_append, List.nil_append] at this ⊢
    rw [this, takeL]
theorem rtake_f (k : Nat) (l : List Int) (hk : l.length < k) (hm : l.length % 2 = 0) (hw : ∀ x ∈ l, 0 ≤ x ∧ x < 256) (hl : l.length < 70368744177664) : busbarref04_Take.f k l = some (takeL l) := by
  have := rtake_l0 l k [] [] hk hm hw (by simpa using hl) (by simp; omega)
  unfold busbarref04_Take.f
  rw [if_neg (by omega)]
  simpa using this
theorem rtake_odd (k : Nat) (l : List Int) (hm : l.length % 2 = 1) : busbarref04_Take.f k l = some [] := by
  unfold busbarref04_Take.f
  rw [if_pos (by omega)]
theorem rwithin_f (a c : Int) (ha : 0 ≤ a ∧ a < 65536) : busbarref04_Within.f a c = some (decide (0 < c ∧ c ≤ 65536 - a)) := by
  unfold busbarref04_Within.f
  by_cases h : c < 1
  · rw [if_pos h]; congr 1; simp; omega
  rw [if_neg h]
  by_cases h2 : c > 65536
  · rw [if_pos h2]; congr 1; simp; omega
  have e : wrap64 (wrap64 a + c) = a + c := by simp only [wrap64]; omega
  rw [if_neg h2, e]; congr 1; simp only [decide_eq_decide]; omega
theorem WordTells : busbarlaw04_WordTells.Pure := by
  intro l b a c _ _ hl _ _ hb ha _
  have hl : ∀ x ∈ l, 0 ≤ x ∧ x < 65536 := fun x hx => wf16 (hl x hx)
  have hb : ∀ x ∈ b, 0 ≤ x ∧ x < 256 := fun x hx => wf8 (hb x hx)
  have ha := wf16 ha
  refine ⟨1000, ?_⟩
  unfold busbarlaw04_WordTells.f
  rw [awake_f _ (by omega)]
  simp only [Option.bind_some]
  by_cases h1 : (l.length : Int) > 200
  · rw [if_pos h1]; simp only [busbarlaw04_WordTells.j0]; simp
  rw [if_neg h1]
  by_cases h2 : (b.length : Int) > 200
  · simp only [busbarlaw04_WordTells.j0]; simp [h2]
  simp only [busbarlaw04_WordTells.j0, h2, decide_false]
  rw [put_f _ l (by omega) (by omega), rput_f _ l (by omega) hl (by omega), within_f a c ha, rwithin_f a c ha]
  simp only [Option.bind_some, same_f]
  by_cases hm : b.length % 2 = 1
  · rw [take_odd _ b hm, rtake_odd _ b hm]
    simp only [Option.bind_some]
    rw [words_f _ [] (by simp) (by simp)]
    simp
  · rw [take_f _ b (by omega) (by omega) hb (by omega), rtake_f _ b (by omega) (by omega) hb (by omega)]
    simp only [Option.bind_some]
    rw [words_f _ (takeL b) (by rw [takeL_length]; omega) (by rw [takeL_length]; omega)]
    simp

end Go.Proofs.Ytdaoejofgmbhnaa.Pure
