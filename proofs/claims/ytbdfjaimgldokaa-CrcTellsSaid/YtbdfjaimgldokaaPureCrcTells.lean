/- The sum of any bytes, behind any sum, its two bytes, and whether any bytes end in their own, is what the reference answers; for every list of bytes and every number. -/
import Derived.Test.YtbdfjaimgldokaaPCrcx7
import Derived.Test.YtbdfjaimgldokaaHCrcMath
namespace Go.Proofs.Ytbdfjaimgldokaa.Pure
open Go.RowKit Go.Proofs.Ytbdfjaimgldokaa.PCrc Go.Proofs.Ytbdfjaimgldokaa.HCrc Go.Proofs.YtbdfjaimgldokaaW.PrintWords Go.Proofs.YtbdfjaimgldokaaW.PrintLast Go.Proofs.YtbdfjaimgldokaaW.PrintMore

theorem wf8 {x : Int} (h : (Lit.int .u8 x).wf = true) : 0 ≤ x ∧ x < 256 := by
  simp [Lit.wf, IntKind.min, IntKind.max, IntKind.bits, IntKind.signed] at h; omega
theorem wf16 {x : Int} (h : (Lit.int .u16 x).wf = true) : 0 ≤ x ∧ x < 65536 := by
  simp [Lit.wf, IntKind.min, IntKind.max, IntKind.bits, IntKind.signed] at h; omega
theorem then_f (s : Int) (l : List Int) (h : l.length < 1000) : crc_Then.f s l = some (thenL s l) := by
  unfold crc_Then.f; rw [if_pos (by omega)]
theorem of_f (l : List Int) (h : l.length < 1000) : crc_Of.f l = some (thenL 65535 l) := by
  unfold crc_Of.f; rw [then_f _ _ h]; rfl
theorem two_f (s : Int) (h0 : 0 ≤ s) (h1 : s < 65536) : crc_Two.f s = some [s % 256, s / 256] := by
  unfold crc_Two.f
  have : s / 256 % 256 = s / 256 := by omega
  rw [this]
theorem strOfNums_toL (xs : List Int) : (Go.strOfNums xs).toList = xs.map fun n => UInt8.ofNat n.toNat := by rw [ByteArray.toList_eq]; rfl
theorem is_f (l : List Int) (h : l.length < 1000) (hw : ∀ x ∈ l, 0 ≤ x ∧ x < 256) : crc_Is.f l = some (decide (2 ≤ l.length ∧ thenL 65535 l = 0)) := by
  unfold crc_Is.f
  by_cases h2 : 2 ≤ l.length
  · obtain ⟨p, x, y, rfl⟩ := split2 l h2
    have hp : ∀ z ∈ p, 0 ≤ z ∧ z < 256 := fun z hz => hw z (by simp [hz])
    have hx := hw x (by simp)
    have hy := hw y (by simp)
    have e : wrap64 (((p ++ [x, y]).length : Int) - 2) = p.length := by simp [wrap64]; simp at h; omega
    simp at h
    rw [e, if_pos (by omega), if_pos (by omega), if_pos (by simp; omega)]
    have e1 : (p ++ [x, y]).take ((p.length : Int)).toNat = p := by simp
    have e2 : (p ++ [x, y]).drop ((p.length : Int)).toNat = [x, y] := by simp
    have hr := thenL_range p 65535 (by omega) (by omega) hp
    rw [e1, e2, of_f p (by omega)]
    simp only [Option.bind_some]
    rw [two_f _ hr.1 hr.2]
    simp only [Option.bind_some, strOfNums_toL, List.map_cons, List.map_nil, thenL_append]
    congr 1
    have hi := own_iff (thenL 65535 p) x y hr.1 hr.2 hx.1 hx.2 hy.1 hy.2
    rw [Bool.eq_iff_iff]
    simp only [beq_iff_eq, decide_eq_true_eq, hi, List.cons.injEq, and_true]
    constructor
    · rintro ⟨a, b⟩
      exact ⟨by simp, (byte_inj _ _ (by omega) (by omega) hx.1 hx.2 a).symm, (byte_inj _ _ (by omega) (by omega) hy.1 hy.2 b).symm⟩
    · rintro ⟨_, rfl, rfl⟩
      exact ⟨rfl, rfl⟩
  · have e : wrap64 ((l.length : Int) - 2) = (l.length : Int) - 2 := by simp only [wrap64]; omega
    rw [e, if_neg (by omega)]
    simp [h2]
theorem awake_f : busbarlaw01_awake.f = some true := rfl
theorem ref_l1 (j : Nat) : ∀ (k : Nat) (n : Nat) (l : List Int) (i : Int), j ≤ 8 → j < k → n < 65536 →
    busbarref01_Then.l1 k (n : Int) l i ((8 - j : Nat) : Int) = busbarref01_Then.l0 (k - (j + 1)) (nsteps j n : Nat) l (wrap64 (i + 1)) := by
  induction j with
  | zero =>
    intro k n l i _ hk _
    obtain ⟨k, rfl⟩ : ∃ m, k = m + 1 := ⟨k - 1, by omega⟩
    simp only [busbarref01_Then.l1]
    rw [if_neg (by simp)]; simp [nsteps]
  | succ j ih =>
    intro k n l i hj hk hn
    obtain ⟨k, rfl⟩ : ∃ m, k = m + 1 := ⟨k - 1, by omega⟩
    simp only [busbarref01_Then.l1]
    have e0 : wrap64 (((8 - (j + 1) : Nat) : Int) + 1) = ((8 - j : Nat) : Int) := by simp only [wrap64]; omega
    rw [if_pos (by omega), e0]
    have e1 : IntKind.u16.wrap (Int.tdiv (n : Int) 2) = ((n / 2 : Nat) : Int) := by
      rw [Int.tdiv_eq_ediv_of_nonneg (by omega), wrap16]; omega
    have e2 : Int.tmod (n : Int) 2 = ((n % 2 : Nat) : Int) := by rw [Int.tmod_eq_emod_of_nonneg (by omega)]; omega
    rw [e1, e2]
    have key : nsteps (j + 1) n = nsteps j (nstep n) := by rw [show j + 1 = j + 1 from rfl, nsteps_add j 1 n]; rfl
    by_cases h : ((n % 2 : Nat) : Int) = 1
    · have hm : n % 2 = 1 := by omega
      have e3 : Go.bits .xor .u16 ((n / 2 : Nat) : Int) 40961 = ((nstep n : Nat) : Int) := by
        rw [show (40961 : Int) = ((40961 : Nat) : Int) from rfl, bxor16 _ _ (by omega) (by omega)]
        unfold nstep; rw [hm]
      rw [if_pos h, e3, ih k (nstep n) l i (by omega) (by omega) (nstep_lt n hn), key]
      congr 1; omega
    · have hm : n % 2 = 0 := by omega
      have e3 : nstep n = n / 2 := by unfold nstep; rw [hm]; simp
      rw [if_neg h, ← e3, ih k (nstep n) l i (by omega) (by omega) (nstep_lt n hn), key]
      congr 1; omega
theorem ref_l0 (s : List Int) : ∀ (k : Nat) (p : List Int) (n : Nat), 10 * s.length < k → (∀ y ∈ s, 0 ≤ y ∧ y < 256) → p.length + s.length < 140737488355328 → n < 65536 →
    busbarref01_Then.l0 k (n : Int) (p ++ s) (p.length : Int) = some ((nthen n (natL s) : Nat) : Int) := by
  induction s with
  | nil =>
    intro k p n hk _ _ _
    obtain ⟨k, rfl⟩ : ∃ m, k = m + 1 := ⟨k - 1, by omega⟩
    simp only [busbarref01_Then.l0]
    rw [if_neg (by simp)]; rfl
  | cons y s ih =>
    intro k p n hk hw hp hn
    obtain ⟨k, rfl⟩ : ∃ m, k = m + 1 := ⟨k - 1, by omega⟩
    simp only [List.length_cons] at hk hp
    have w := hw y (by simp)
    obtain ⟨c, rfl⟩ := Int.eq_ofNat_of_zero_le w.1
    have hc : c < 256 := by omega
    simp only [busbarref01_Then.l0]
    have hlt : (p.length : Int) < ((p ++ (c : Int) :: s).length : Int) := by simp; omega
    have r : rd (p ++ (c : Int) :: s) (p.length : Int) = c := by simp [rd]
    have e : wrap64 ((p.length : Int) + 1) = ((p ++ [(c : Int)]).length : Int) := by simp [wrap64]; omega
    have e2 : IntKind.u16.wrap (c : Int) = (c : Int) := by rw [wrap16]; omega
    rw [if_pos hlt, if_pos (by omega), r, e2, bxor16 n c hn (by omega)]
    have h1 := ref_l1 8 k (n ^^^ c) (p ++ (c : Int) :: s) (p.length : Int) (by omega) (by omega) (Nat.xor_lt_two_pow (n := 16) hn (by omega))
    simp only [Nat.sub_self] at h1
    rw [show (0 : Int) = ((0 : Nat) : Int) from rfl, h1, e]
    have := ih (k - 9) (p ++ [(c : Int)]) (nsteps 8 (n ^^^ c)) (by omega) (fun z hz => hw z (by simp [hz])) (by simp; omega) (nsteps_lt _ _ (Nat.xor_lt_two_pow (n := 16) hn (by omega)))
    simp only [List.append_assoc, List.cons_append, List.nil_append] at this ⊢
    rw [this]; rfl
theorem ref_f (k : Nat) (s : Int) (l : List Int) (hk : 10 * l.length < k) (hw : ∀ y ∈ l, 0 ≤ y ∧ y < 256) (hl : l.length < 1000) (h0 : 0 ≤ s) (h1 : s < 65536) : busbarref01_Then.f k s l = some (thenL s l) := by
  obtain ⟨n, rfl⟩ := Int.eq_ofNat_of_zero_le h0
  have := ref_l0 l k [] n hk hw (by simp; omega) (by omega)
  rw [thenL_nat l n (by omega) hw]
  simpa [busbarref01_Then.f] using this
theorem refIs_f (k : Nat) (l : List Int) (hk : 10 * l.length < k) (hw : ∀ y ∈ l, 0 ≤ y ∧ y < 256) (hl : l.length < 1000) : busbarref01_Is.f k l = some (decide (2 ≤ l.length ∧ thenL 65535 l = 0)) := by
  unfold busbarref01_Is.f
  by_cases h2 : 2 ≤ l.length
  · obtain ⟨p, x, y, rfl⟩ := split2 l h2
    have hp : ∀ z ∈ p, 0 ≤ z ∧ z < 256 := fun z hz => hw z (by simp [hz])
    have hx := hw x (by simp)
    have hy := hw y (by simp)
    simp only [List.length_append, List.length_cons, List.length_nil] at hl hk
    have e : wrap64 (((p ++ [x, y]).length : Int) - 2) = p.length := by simp [wrap64]; omega
    have e' : wrap64 (((p ++ [x, y]).length : Int) - 1) = (p.length : Int) + 1 := by simp [wrap64]; omega
    have hL : ((p ++ [x, y]).length : Int) = p.length + 2 := by simp
    rw [e, e', hL, if_neg (by omega), if_pos (by omega), if_pos (by omega)]
    have e1 : (p ++ [x, y]).take ((p.length : Int)).toNat = p := by simp
    have hr := thenL_range p 65535 (by omega) (by omega) hp
    rw [e1, ref_f k 65535 p (by omega) hp (by omega) (by omega) (by omega)]
    simp only [Option.bind_some]
    have r1 : rd (p ++ [x, y]) (p.length : Int) = x := by simp [rd]
    have r2 : rd (p ++ [x, y]) ((p.length : Int) + 1) = y := by
      have e : ((p.length : Int) + 1).toNat = p.length + 1 := by omega
      simp [rd, e, List.getD_eq_getElem?_getD]
    rw [r1, r2, Int.tmod_eq_emod_of_nonneg hr.1, Int.tdiv_eq_ediv_of_nonneg hr.1, wrap16, thenL_append]
    have hi := own_iff (thenL 65535 p) x y hr.1 hr.2 hx.1 hx.2 hy.1 hy.2
    have m1 : thenL 65535 p % 256 % 256 = thenL 65535 p % 256 := by omega
    have m2 : thenL 65535 p / 256 % 65536 % 256 = thenL 65535 p / 256 := by omega
    rw [m1, m2, if_pos (by omega)]
    by_cases hx2 : x = thenL 65535 p % 256
    · rw [if_pos hx2, if_pos (by omega), if_pos (by omega)]; congr 1
      rw [Bool.eq_iff_iff]; simp only [beq_iff_eq, decide_eq_true_eq, hi]
      constructor
      · intro h; exact ⟨by simp, hx2, h⟩
      · intro h; exact h.2.2
    · rw [if_neg hx2]; congr 1
      rw [Bool.eq_iff_iff]; simp only [decide_eq_true_eq, hi]
      constructor
      · intro h; cases h
      · intro h; exact absurd h.2.1 hx2
  · rw [if_pos (by omega)]; simp [h2]
theorem CrcTells : busbarlaw01_CrcTells.Pure := by
  intro l s _ _ hw hs
  have hw : ∀ y ∈ l, 0 ≤ y ∧ y < 256 := fun y hy => wf8 (hw y hy)
  have hs := wf16 hs
  refine ⟨10000, ?_⟩
  unfold busbarlaw01_CrcTells.f
  rw [awake_f]
  simp only [Option.bind_some]
  by_cases h : (l.length : Int) > 300
  · rw [if_pos h]
  rw [if_neg h, then_f s l (by omega), ref_f _ s l (by omega) hw (by omega) hs.1 hs.2, of_f l (by omega), ref_f _ 65535 l (by omega) hw (by omega) (by omega) (by omega), two_f s hs.1 hs.2, is_f l (by omega) hw, refIs_f _ l (by omega) hw (by omega)]
  simp only [Option.bind_some, if_true]
  rw [Int.tmod_eq_emod_of_nonneg hs.1, Int.tdiv_eq_ediv_of_nonneg hs.1, wrap16]
  have m1 : s % 256 % 256 = s % 256 := by omega
  have m2 : s / 256 % 65536 % 256 = s / 256 := by omega
  rw [m1, m2]
  unfold busbarref01_Same.f
  simp

end Go.Proofs.Ytbdfjaimgldokaa.Pure
