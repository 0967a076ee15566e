/- The sum of sixteen bits by bits: the table's sum is the one bit by bit, bits that are turned turn the same bits of each sum, and unlike sums stay unlike; for every list of bytes. -/
import Derived.Test.YtbdfjaimgldokaaHCrc
namespace Go.Proofs.Ytbdfjaimgldokaa.HCrc
open Go.RowKit

/-- One bit, in natural numbers. -/
def nstep (n : Nat) : Nat := n / 2 ^^^ (n % 2 * 40961)
def nsteps : Nat → Nat → Nat
  | 0, n => n
  | k + 1, n => nstep (nsteps k n)
def nnext (s c : Nat) : Nat := nsteps 8 (s ^^^ c)
def nthen (s : Nat) (l : List Nat) : Nat := l.foldl nnext s

theorem xor_mod2 (a b : Nat) : (a ^^^ b) % 2 = (a % 2 + b % 2) % 2 := by
  have := Nat.xor_mod_two_pow (a := a) (b := b) (n := 1)
  simp only [Nat.pow_one] at this
  rw [this]
  have ha : a % 2 = 0 ∨ a % 2 = 1 := by omega
  have hb : b % 2 = 0 ∨ b % 2 = 1 := by omega
  rcases ha with ha | ha <;> rcases hb with hb | hb <;> rw [ha, hb] <;> decide
theorem xor_right (a b c : Nat) : a ^^^ b ^^^ c = a ^^^ c ^^^ b := by rw [Nat.xor_assoc, Nat.xor_comm b, Nat.xor_assoc]
theorem xor_div2 (a b : Nat) : (a ^^^ b) / 2 = a / 2 ^^^ b / 2 := by
  have := Nat.shiftRight_xor_distrib (a := a) (b := b) (i := 1)
  simpa [Nat.shiftRight_eq_div_pow] using this
theorem nstep_xor (a b : Nat) : nstep (a ^^^ b) = nstep a ^^^ nstep b := by
  unfold nstep
  rw [xor_div2, xor_mod2]
  have ha : a % 2 = 0 ∨ a % 2 = 1 := by omega
  have hb : b % 2 = 0 ∨ b % 2 = 1 := by omega
  rcases ha with ha | ha <;> rcases hb with hb | hb <;> simp only [ha, hb, Nat.zero_mul, Nat.one_mul, Nat.xor_zero, Nat.reduceAdd, Nat.reduceMod]
  · rw [Nat.xor_assoc]
  · rw [xor_right]
  · rw [Nat.xor_assoc, ← Nat.xor_assoc 40961, Nat.xor_comm 40961, Nat.xor_assoc (b / 2), Nat.xor_self, Nat.xor_zero]
theorem nsteps_xor (k a b : Nat) : nsteps k (a ^^^ b) = nsteps k a ^^^ nsteps k b := by
  induction k with
  | zero => rfl
  | succ k ih => simp only [nsteps, ih, nstep_xor]
theorem nsteps_add (j k n : Nat) : nsteps (j + k) n = nsteps j (nsteps k n) := by
  induction j with
  | zero => simp [nsteps]
  | succ j ih => rw [Nat.succ_add]; simp only [nsteps, ih]
theorem nstep_lt (n : Nat) (h : n < 65536) : nstep n < 65536 := by
  unfold nstep
  have : n % 2 * 40961 < 2 ^ 16 := by omega
  exact Nat.xor_lt_two_pow (n := 16) (by omega) this
theorem nsteps_lt (k n : Nat) (h : n < 65536) : nsteps k n < 65536 := by
  induction k with
  | zero => exact h
  | succ k ih => exact nstep_lt _ ih
theorem nstep_zero (n : Nat) (h : n < 65536) (h0 : nstep n = 0) : n = 0 := by
  unfold nstep at h0
  have e : n / 2 = n % 2 * 40961 := by
    have := congrArg (· ^^^ (n % 2 * 40961)) h0
    simpa [Nat.xor_assoc] using this
  omega
theorem nsteps_zero (k n : Nat) (h : n < 65536) (h0 : nsteps k n = 0) : n = 0 := by
  induction k with
  | zero => exact h0
  | succ k ih => exact ih (nstep_zero _ (nsteps_lt k n h) h0)
theorem xor_eq_zero (a b : Nat) (h : a ^^^ b = 0) : a = b := by
  have := congrArg (· ^^^ b) h
  simpa [Nat.xor_assoc] using this
theorem nsteps_inj (k a b : Nat) (ha : a < 65536) (hb : b < 65536) (h : nsteps k a = nsteps k b) : a = b := by
  apply xor_eq_zero
  apply nsteps_zero k _ (Nat.xor_lt_two_pow (n := 16) ha hb)
  rw [nsteps_xor, h, Nat.xor_self]
theorem nsteps_0 (k : Nat) : nsteps k 0 = 0 := by
  induction k with
  | zero => rfl
  | succ k ih => simp only [nsteps, ih]; rfl
/-- Bits that are pushed out one by one, the lowest ones being none. -/
theorem nsteps_pow (k m : Nat) : nsteps k (2 ^ k * m) = m := by
  induction k generalizing m with
  | zero => simp [nsteps]
  | succ k ih =>
    have : nsteps (k + 1) (2 ^ (k + 1) * m) = nstep (nsteps k (2 ^ k * (2 * m))) := by
      rw [Nat.pow_succ, Nat.mul_assoc]; rfl
    rw [this, ih]
    unfold nstep
    simp
theorem nsteps_sub (k i : Nat) (h : i ≤ k) : nsteps k (2 ^ i) = nsteps (k - i) 1 := by
  have := nsteps_add (k - i) i (2 ^ i)
  rw [Nat.sub_add_cancel h] at this
  rw [this]
  have e := nsteps_pow i 1
  rw [Nat.mul_one] at e
  rw [e]

theorem nnext_lt (s c : Nat) (hs : s < 65536) (hc : c < 256) : nnext s c < 65536 :=
  nsteps_lt _ _ (Nat.xor_lt_two_pow (n := 16) hs (by omega))
theorem nthen_lt (l : List Nat) : ∀ s, s < 65536 → (∀ c ∈ l, c < 256) → nthen s l < 65536 := by
  induction l with
  | nil => intro s hs _; exact hs
  | cons c l ih =>
    intro s hs h
    exact ih _ (nnext_lt s c hs (h c (by simp))) (fun x hx => h x (by simp [hx]))
theorem nthen_append (s : Nat) (a b : List Nat) : nthen s (a ++ b) = nthen (nthen s a) b := by simp [nthen]
theorem nthen_cons (s c : Nat) (l : List Nat) : nthen s (c :: l) = nthen (nnext s c) l := rfl
theorem nthen_xor (l : List Nat) : ∀ x y, nthen (x ^^^ y) l = nthen x l ^^^ nsteps (8 * l.length) y := by
  induction l with
  | nil => intro x y; rfl
  | cons c l ih =>
    intro x y
    have e : nnext (x ^^^ y) c = nnext x c ^^^ nsteps 8 y := by
      unfold nnext; rw [xor_right, nsteps_xor]
    rw [nthen_cons, nthen_cons, e, ih, ← nsteps_add]
    congr 2
theorem nthen_inj (l : List Nat) (x y : Nat) (hx : x < 65536) (hy : y < 65536) (h : nthen x l = nthen y l) : x = y := by
  have e := nthen_xor l x (x ^^^ y)
  rw [← Nat.xor_assoc, Nat.xor_self, Nat.zero_xor] at e
  have hz : nsteps (8 * l.length) (x ^^^ y) = 0 := by
    have := congrArg (nthen x l ^^^ ·) (h.trans e)
    simpa [← Nat.xor_assoc] using this.symm
  exact xor_eq_zero _ _ (nsteps_zero _ _ (Nat.xor_lt_two_pow (n := 16) hx hy) hz)
/-- One bit of one byte that is turned. -/
theorem nthen_turn (l : List Nat) : ∀ (s q r : Nat) (h : q < l.length), r < 8 → nthen s (l.set q (l[q] ^^^ 2 ^ r)) = nthen s l ^^^ nsteps (8 * l.length - 8 * q - r) 1 := by
  induction l with
  | nil => intro s q r h; simp at h
  | cons c l ih =>
    intro s q r h hr
    cases q with
    | zero =>
      have e : nnext s (c ^^^ 2 ^ r) = nnext s c ^^^ nsteps 8 (2 ^ r) := by
        unfold nnext; rw [← Nat.xor_assoc, nsteps_xor]
      simp only [List.set_cons_zero, List.getElem_cons_zero, nthen_cons]
      rw [e, nthen_xor, ← nsteps_add, ← nsteps_sub _ r (by simp; omega)]
      congr 2
    | succ q =>
      simp only [List.set_cons_succ, List.getElem_cons_succ, nthen_cons]
      rw [ih _ q r (by simpa using h) hr]
      congr 2; simp; omega
/-- Two texts of one length with the same bits turned. -/
theorem nthen_like (l : List Nat) : ∀ (s t : Nat) (e : List Nat), l.length = e.length → nthen (s ^^^ t) (List.zipWith (· ^^^ ·) l e) = nthen s l ^^^ nthen t e := by
  induction l with
  | nil => intro s t e h; cases e with | nil => rfl | cons _ _ => simp at h
  | cons c l ih =>
    intro s t e h
    cases e with
    | nil => simp at h
    | cons d e =>
      have e1 : nnext (s ^^^ t) (c ^^^ d) = nnext s c ^^^ nnext t d := by
        unfold nnext; rw [← nsteps_xor]; congr 1
        rw [Nat.xor_assoc, ← Nat.xor_assoc t, Nat.xor_comm t c, Nat.xor_assoc c, ← Nat.xor_assoc]
      simp only [List.zipWith_cons_cons, nthen_cons]
      rw [e1, ih _ _ _ (by simpa using h)]

/-! ### The machine's numbers -/
theorem wrap16 (n : Int) : IntKind.u16.wrap n = n % 65536 := by simp [IntKind.wrap, IntKind.bits, IntKind.signed]
theorem bxor16 (a b : Nat) (ha : a < 65536) (hb : b < 65536) : Go.bits .xor .u16 (a : Int) (b : Int) = ((a ^^^ b : Nat) : Int) := by
  have h : a ^^^ b < 65536 := Nat.xor_lt_two_pow (n := 16) ha hb
  have ha' : a % 2 ^ IntKind.u16.bits = a := Nat.mod_eq_of_lt ha
  have hb' : b % 2 ^ IntKind.u16.bits = b := Nat.mod_eq_of_lt hb
  simp only [Go.bits, BitVec.ofInt_natCast, BitVec.toNat_xor, BitVec.toNat_ofNat, ha', hb', wrap16]
  omega
theorem bxor8 (a b : Nat) (ha : a < 256) (hb : b < 256) : Go.bits .xor .u8 (a : Int) (b : Int) = ((a ^^^ b : Nat) : Int) := by
  have h : a ^^^ b < 256 := Nat.xor_lt_two_pow (n := 8) ha hb
  have ha' : a % 2 ^ IntKind.u8.bits = a := Nat.mod_eq_of_lt ha
  have hb' : b % 2 ^ IntKind.u8.bits = b := Nat.mod_eq_of_lt hb
  simp only [Go.bits, BitVec.ofInt_natCast, BitVec.toNat_xor, BitVec.toNat_ofNat, ha', hb', IntKind.wrap_u8]
  omega
theorem band1 (a : Nat) (ha : a < 65536) : Go.bits .and .u16 (a : Int) 1 = ((a % 2 : Nat) : Int) := by
  have := (bits_nat .u16 16 (by decide) (fun n h0 h1 => by rw [wrap16]; omega) a 1 ha (by decide)).1
  rw [Nat.and_one_is_mod] at this
  exact this
theorem step_nat (n : Nat) (h : n < 65536) : step (n : Int) = (nstep n : Nat) := by
  unfold step nstep
  rw [band1 n h, wrap16]
  have e1 : (n : Int) / 2 = ((n / 2 : Nat) : Int) := by omega
  have e2 : ((n % 2 : Nat) : Int) * 40961 % 65536 = ((n % 2 * 40961 : Nat) : Int) := by omega
  rw [e1, e2, bxor16 _ _ (by omega) (by omega)]
theorem steps_nat (k n : Nat) (h : n < 65536) : steps k (n : Int) = (nsteps k n : Nat) := by
  induction k with
  | zero => rfl
  | succ k ih => simp only [steps, nsteps, ih]; exact step_nat _ (nsteps_lt k n h)
theorem add_xor (i a b : Nat) (hb : b < 2 ^ i) : 2 ^ i * a + b = 2 ^ i * a ^^^ b := by
  apply Nat.eq_of_testBit_eq
  intro j
  rw [Nat.testBit_two_pow_mul_add _ hb, Nat.testBit_xor, Nat.testBit_two_pow_mul]
  by_cases h : j < i
  · have : ¬ j ≥ i := by omega
    simp [h, this]
  · have h2 : j ≥ i := by omega
    have : b.testBit j = false := Nat.testBit_lt_two_pow (Nat.lt_of_lt_of_le hb (Nat.pow_le_pow_right (by decide) h2))
    simp [h, h2, this]
theorem next_nat (s c : Nat) (hs : s < 65536) (hc : c < 256) : next (s : Int) (c : Int) = (nnext s c : Nat) := by
  unfold next nnext tab
  have e1 : (s : Int) / 256 = ((s / 256 : Nat) : Int) := by omega
  have e2 : (s : Int) % 256 = ((s % 256 : Nat) : Int) := by omega
  have hx : s % 256 ^^^ c < 256 := Nat.xor_lt_two_pow (n := 8) (by omega) hc
  rw [e1, e2, bxor8 _ _ (by omega) hc, Int.toNat_natCast, steps_nat _ _ (by omega), bxor16 _ _ (by omega) (nsteps_lt _ _ (by omega))]
  have e3 : s ^^^ c = 2 ^ 8 * (s / 256) ^^^ (s % 256 ^^^ c) := by
    rw [← Nat.xor_assoc, ← add_xor 8 _ _ (by omega), Nat.div_add_mod s (2 ^ 8)]
  rw [e3, nsteps_xor 8 (2 ^ 8 * (s / 256)), nsteps_pow]
/-- The bytes, as natural numbers. -/
def natL (l : List Int) : List Nat := l.map Int.toNat
theorem natL_length (l : List Int) : (natL l).length = l.length := by simp [natL]
theorem natL_append (a b : List Int) : natL (a ++ b) = natL a ++ natL b := by simp [natL]
theorem natL_lt (l : List Int) (h : ∀ x ∈ l, 0 ≤ x ∧ x < 256) : ∀ c ∈ natL l, c < 256 := by
  intro c hc
  simp only [natL, List.mem_map] at hc
  obtain ⟨x, hx, rfl⟩ := hc
  have := h x hx
  omega
theorem thenL_nat (l : List Int) : ∀ (s : Nat), s < 65536 → (∀ x ∈ l, 0 ≤ x ∧ x < 256) → thenL (s : Int) l = (nthen s (natL l) : Nat) := by
  induction l with
  | nil => intro s _ _; rfl
  | cons x l ih =>
    intro s hs h
    have hx := h x (by simp)
    have e : x = ((x.toNat : Nat) : Int) := by omega
    have e1 : thenL (s : Int) (x :: l) = thenL (next (s : Int) x) l := rfl
    rw [e1, e, next_nat s x.toNat hs (by omega), ih _ (nnext_lt _ _ hs (by omega)) (fun y hy => h y (by simp [hy]))]
    rfl
theorem thenL_cast (l : List Int) (s : Int) (h0 : 0 ≤ s) (h1 : s < 65536) (h : ∀ x ∈ l, 0 ≤ x ∧ x < 256) : thenL s l = (nthen s.toNat (natL l) : Nat) := by
  have e : s = ((s.toNat : Nat) : Int) := by omega
  conv => lhs; rw [e]
  exact thenL_nat l _ (by omega) h
theorem thenL_range (l : List Int) (s : Int) (h0 : 0 ≤ s) (h1 : s < 65536) (h : ∀ x ∈ l, 0 ≤ x ∧ x < 256) : 0 ≤ thenL s l ∧ thenL s l < 65536 := by
  rw [thenL_cast l s h0 h1 h]
  have := nthen_lt (natL l) s.toNat (by omega) (natL_lt l h)
  omega
theorem thenL_append (s : Int) (a b : List Int) : thenL s (a ++ b) = thenL (thenL s a) b := by simp [thenL]
theorem thenL_inj (l : List Int) (s t : Int) (h : ∀ x ∈ l, 0 ≤ x ∧ x < 256) (s0 : 0 ≤ s) (s1 : s < 65536) (t0 : 0 ≤ t) (t1 : t < 65536) (e : thenL s l = thenL t l) : s = t := by
  rw [thenL_cast l s s0 s1 h, thenL_cast l t t0 t1 h] at e
  have := nthen_inj (natL l) s.toNat t.toNat (by omega) (by omega) (by omega)
  omega
/-- A number behind which its own two bytes come: nothing is left. -/
theorem thenL_own (s : Int) (h0 : 0 ≤ s) (h1 : s < 65536) : thenL s [s % 256, s / 256] = 0 := by
  rw [thenL_cast _ s h0 h1 (by intro x hx; simp at hx; rcases hx with rfl | rfl <;> omega)]
  obtain ⟨n, rfl⟩ := Int.eq_ofNat_of_zero_le h0
  have hn : n < 65536 := by omega
  have e1 : ((n : Int) % 256).toNat = n % 256 := by omega
  have e2 : ((n : Int) / 256).toNat = n / 256 := by omega
  simp only [natL, List.map_cons, List.map_nil, e1, e2, Int.toNat_natCast, nthen, List.foldl_cons, List.foldl_nil]
  have e3 : nnext n (n % 256) = n / 256 := by
    unfold nnext
    have : n ^^^ n % 256 = 2 ^ 8 * (n / 256) := by
      have e := add_xor 8 (n / 256) (n % 256) (by omega)
      rw [Nat.div_add_mod n (2 ^ 8)] at e
      conv => lhs; lhs; rw [e]
      rw [Nat.xor_assoc, Nat.xor_self, Nat.xor_zero]
    rw [this, nsteps_pow]
  rw [e3]
  unfold nnext
  rw [Nat.xor_self, nsteps_0]; rfl
theorem own_iff (s x y : Int) (h0 : 0 ≤ s) (h1 : s < 65536) (x0 : 0 ≤ x) (x1 : x < 256) (y0 : 0 ≤ y) (y1 : y < 256) : thenL s [x, y] = 0 ↔ x = s % 256 ∧ y = s / 256 := by
  constructor
  · intro h
    rw [thenL_cast _ s h0 h1 (by intro z hz; simp at hz; rcases hz with rfl | rfl <;> omega)] at h
    simp only [natL, List.map_cons, List.map_nil, nthen, List.foldl_cons, List.foldl_nil] at h
    obtain ⟨n, rfl⟩ := Int.eq_ofNat_of_zero_le h0
    obtain ⟨a, rfl⟩ := Int.eq_ofNat_of_zero_le x0
    obtain ⟨b, rfl⟩ := Int.eq_ofNat_of_zero_le y0
    simp only [Int.toNat_natCast] at h
    have hn : n < 65536 := by omega
    have hs : nnext n a < 65536 := nnext_lt n a hn (by omega)
    have e1 : nnext n a = b := xor_eq_zero _ _ (nsteps_zero 8 _ (Nat.xor_lt_two_pow (n := 16) hs (by omega)) (by unfold nnext at h ⊢; omega))
    have e2 : nsteps 8 (n ^^^ a) = nsteps 8 (2 ^ 8 * b) := by rw [nsteps_pow]; exact e1
    have e3 := nsteps_inj 8 _ _ (Nat.xor_lt_two_pow (n := 16) hn (by omega)) (by omega) e2
    have e4 : n = 2 ^ 8 * b + a := by
      rw [add_xor 8 b a (by omega), ← e3, Nat.xor_assoc, Nat.xor_self, Nat.xor_zero]
    omega
  · rintro ⟨rfl, rfl⟩
    exact thenL_own s h0 h1
theorem split2 (l : List Int) (h : 2 ≤ l.length) : ∃ p x y, l = p ++ [x, y] := by
  refine ⟨l.take (l.length - 2), l[l.length - 2], l[l.length - 1], ?_⟩
  have e1 : l.drop (l.length - 2) = [l[l.length - 2], l[l.length - 1]] := by
    rw [List.drop_eq_getElem_cons (by omega)]
    congr 1
    have e : l.length - 2 + 1 = l.length - 1 := by omega
    simp only [e]
    rw [List.drop_eq_getElem_cons (by omega)]
    congr 1
    rw [List.drop_eq_nil_iff]; omega
  rw [← e1, List.take_append_drop]
theorem byte_inj (a b : Int) (a0 : 0 ≤ a) (a1 : a < 256) (b0 : 0 ≤ b) (b1 : b < 256) (h : UInt8.ofNat a.toNat = UInt8.ofNat b.toNat) : a = b := by
  have := congrArg UInt8.toNat h
  simp at this
  omega
end Go.Proofs.Ytbdfjaimgldokaa.HCrc
