/- Bits that are turned within sixteen side by side are seen; for every list of bytes, place and sixteen bits. -/
import Derived.Test.YtbdfjaimgldokaaPCrcx9
import Derived.Test.YtbdfjaimgldokaaHCrcTurn
namespace Go.Proofs.Ytbdfjaimgldokaa.Pure
open Go.RowKit Go.Proofs.Ytbdfjaimgldokaa.PCrc Go.Proofs.Ytbdfjaimgldokaa.HCrc Go.Proofs.YtbdfjaimgldokaaW.PrintWords Go.Proofs.YtbdfjaimgldokaaW.PrintLast Go.Proofs.YtbdfjaimgldokaaW.PrintMore

theorem wf8 {x : Int} (h : (Lit.int .u8 x).wf = true) : 0 ≤ x ∧ x < 256 := by
  simp [Lit.wf, IntKind.min, IntKind.max, IntKind.bits, IntKind.signed] at h; omega
theorem wf16 {x : Int} (h : (Lit.int .u16 x).wf = true) : 0 ≤ x ∧ x < 65536 := by
  simp [Lit.wf, IntKind.min, IntKind.max, IntKind.bits, IntKind.signed] at h; omega
theorem then_f (s : Int) (l : List Int) (h : l.length < 1000) : crc_Then.f s l = some (thenL s l) := by
  unfold crc_Then.f; rw [if_pos (by omega)]
theorem of_f (l : List Int) (h : l.length < 1000) : crc_Of.f l = some (thenL 65535 l) := by
  unfold crc_Of.f; rw [then_f _ _ h]; rfl
theorem two_f (s : Int) (h0 : 0 ≤ s) (h1 : s < 65536) : crc_Two.f s = some [s % 256, s / 256] := by
  unfold crc_Two.f
  have : s / 256 % 256 = s / 256 := by omega
  rw [this]
theorem strOfNums_toL (xs : List Int) : (Go.strOfNums xs).toList = xs.map fun n => UInt8.ofNat n.toNat := by rw [ByteArray.toList_eq]; rfl
theorem is_f (l : List Int) (h : l.length < 1000) (hw : ∀ x ∈ l, 0 ≤ x ∧ x < 256) : crc_Is.f l = some (decide (2 ≤ l.length ∧ thenL 65535 l = 0)) := by
  unfold crc_Is.f
  by_cases h2 : 2 ≤ l.length
  · obtain ⟨p, x, y, rfl⟩ := split2 l h2
    have hp : ∀ z ∈ p, 0 ≤ z ∧ z < 256 := fun z hz => hw z (by simp [hz])
    have hx := hw x (by simp)
    have hy := hw y (by simp)
    have e : wrap64 (((p ++ [x, y]).length : Int) - 2) = p.length := by simp [wrap64]; simp at h; omega
    simp at h
    rw [e, if_pos (by omega), if_pos (by omega), if_pos (by simp; omega)]
    have e1 : (p ++ [x, y]).take ((p.length : Int)).toNat = p := by simp
    have e2 : (p ++ [x, y]).drop ((p.length : Int)).toNat = [x, y] := by simp
    have hr := thenL_range p 65535 (by omega) (by omega) hp
    rw [e1, e2, of_f p (by omega)]
    simp only [Option.bind_some]
    rw [two_f _ hr.1 hr.2]
    simp only [Option.bind_some, strOfNums_toL, List.map_cons, List.map_nil, thenL_append]
    congr 1
    have hi := own_iff (thenL 65535 p) x y hr.1 hr.2 hx.1 hx.2 hy.1 hy.2
    rw [Bool.eq_iff_iff]
    simp only [beq_iff_eq, decide_eq_true_eq, hi, List.cons.injEq, and_true]
    constructor
    · rintro ⟨a, b⟩
      exact ⟨by simp, (byte_inj _ _ (by omega) (by omega) hx.1 hx.2 a).symm, (byte_inj _ _ (by omega) (by omega) hy.1 hy.2 b).symm⟩
    · rintro ⟨_, rfl, rfl⟩
      exact ⟨rfl, rfl⟩
  · have e : wrap64 ((l.length : Int) - 2) = (l.length : Int) - 2 := by simp only [wrap64]; omega
    rw [e, if_neg (by omega)]
    simp [h2]
theorem awake_f : busbarlaw01_awake.f = some true := rfl
theorem div8_lt (x L : Nat) (h : x < 8 * L) (hL : L < 1000) : x / 8 < L ∧ x / 8 < 1000000 := by omega
theorem ends_at (x L : Nat) (h : x < 8 * L) : x % 8 ≤ 8 * L - 8 * (x / 8) ∧ 8 * L - 8 * (x / 8) - x % 8 = 8 * L - x := by omega
theorem int_lt (a b : Nat) (h : a < b) : (a : Int) < (b : Int) := by omega
theorem tdiv8 (x : Nat) : Int.tdiv (x : Int) 8 = ((x / 8 : Nat) : Int) := by rw [Int.tdiv_eq_ediv_of_nonneg (Int.natCast_nonneg x)]; omega
theorem tmod8 (x : Nat) : Int.tmod (x : Int) 8 = ((x % 8 : Nat) : Int) := by rw [Int.tmod_eq_emod_of_nonneg (Int.natCast_nonneg x)]; omega
theorem wrap_small (x : Nat) (h : x < 1000000) : wrap64 (x : Int) = (x : Int) := by simp only [wrap64]; omega
theorem shr_nat (w i : Nat) (h : i ≤ 16) : shr .u16 (w : Int) (i : Int) = ((w / 2 ^ i : Nat) : Int) := by
  unfold shr
  have e : min i IntKind.u16.bits = i := Nat.min_eq_left h
  rw [Int.toNat_natCast, e]
  exact_mod_cast rfl
theorem pow_lt8 (r : Nat) (h : r < 8) : 2 ^ r < 256 := Nat.pow_lt_pow_right (n := 8) (by decide) h
theorem shl_nat (r : Nat) (h : r < 8) : shl .u8 1 (r : Int) = ((2 ^ r : Nat) : Int) := by
  have hp := pow_lt8 r h
  unfold shl
  have e : min r IntKind.u8.bits = r := Nat.min_eq_left (Nat.le_of_lt h)
  rw [Int.toNat_natCast, e, IntKind.wrap_u8, Int.one_mul]
  have : (2 : Int) ^ r = ((2 ^ r : Nat) : Int) := by exact_mod_cast rfl
  rw [this]
  generalize 2 ^ r = x at hp
  omega
theorem turned_end (L kk : Nat) (x2 : Int) (fuel : Nat) (b : List Int) (m i : Nat) (x11 : Int) (hf : 0 < fuel) (hL : b.length = L) (hL2 : 2 ≤ L) (hL3 : L < 1000) (hw : ∀ x ∈ b, 0 ≤ x ∧ x < 256) (hm : m < 2 ^ i) (hi : i ≤ 16)
    (he : Aside0 (nthen 65535 (natL b) = nsteps (8 * L - kk) m)) :
    busbarlaw01_CrcTurned.j1 fuel x2 true b (kk : Int) (decide (m ≠ 0)) x11 false = some true := by
  obtain ⟨fuel, rfl⟩ : ∃ z, fuel = z + 1 := ⟨fuel - 1, by omega⟩
  simp only [busbarlaw01_CrcTurned.j1]
  rw [if_neg (by simp), if_pos trivial, is_f b (by omega) hw]
  simp only [Option.bind_some]
  have hm2 : m < 65536 := Nat.lt_of_lt_of_le hm (Nat.pow_le_pow_right (n := 2) (by decide) hi)
  have c : (65535 : Int) = ((65535 : Nat) : Int) := rfl
  have k1 : (65535 : Nat) < 65536 := by omega
  rw [c, thenL_nat _ _ k1 hw, he.out]
  congr 1
  rw [beq_iff_eq, Bool.eq_iff_iff]
  simp only [decide_eq_true_eq, Bool.not_eq_true', decide_eq_false_iff_not, ne_eq, Classical.not_not, hL]
  constructor
  · rintro ⟨_, h⟩
    exact nsteps_zero (8 * L - kk) m hm2 (by exact_mod_cast h)
  · rintro rfl
    exact ⟨hL2, by rw [nsteps_0]; rfl⟩
theorem turned_l0 (L kk w : Nat) (hL2 : 2 ≤ L) (hL3 : L < 1000) (hk : kk < 8 * L) (hw16 : w < 65536) (d : Nat) :
    ∀ (fuel : Nat) (b : List Int) (m i : Nat), i + d = 16 → 2 * d + 1 < fuel → b.length = L → (∀ x ∈ b, 0 ≤ x ∧ x < 256) → m < 2 ^ i → Aside0 (nthen 65535 (natL b) = nsteps (8 * L - kk) m) →
      busbarlaw01_CrcTurned.l0 fuel (w : Int) true b (kk : Int) (decide (m ≠ 0)) (i : Int) = some true := by
  induction d with
  | zero =>
    intro fuel b m i hi hf hL hw hm he
    obtain ⟨fuel, rfl⟩ : ∃ z, fuel = z + 1 := ⟨fuel - 1, by omega⟩
    simp only [busbarlaw01_CrcTurned.l0]
    rw [if_neg (by omega)]
    exact turned_end L kk _ fuel b m i _ (by omega) hL hL2 hL3 hw hm (by omega) he
  | succ d ih =>
    intro fuel b m i hi hf hL hw hm he
    obtain ⟨fuel, rfl⟩ : ∃ z, fuel = z + 1 := ⟨fuel - 1, by omega⟩
    simp only [busbarlaw01_CrcTurned.l0]
    have f0 : (i : Int) < 16 := by omega
    have e1 : Aside0 (wrap64 ((kk : Int) + (i : Int)) = ((kk + i : Nat) : Int)) := ⟨by simp only [wrap64]; omega⟩
    have e2 : Aside0 (wrap64 (8 * (b.length : Int)) = ((8 * L : Nat) : Int)) := ⟨by simp only [wrap64]; omega⟩
    have e3 : Aside0 (wrap64 ((i : Int) + 1) = ((i + 1 : Nat) : Int)) := ⟨by simp only [wrap64]; omega⟩
    rw [if_pos f0, e1.out, e2.out]
    by_cases hin : kk + i < 8 * L
    · have hin2 : ((kk + i : Nat) : Int) < ((8 * L : Nat) : Int) := by omega
      rw [decide_eq_true hin2]
      obtain ⟨fuel, rfl⟩ : ∃ z, fuel = z + 1 := ⟨fuel - 1, by omega⟩
      simp only [busbarlaw01_CrcTurned.j1]
      rw [e1.out, if_pos trivial, if_pos (Int.natCast_nonneg i)]
      have f1 : 2 * d + 1 < fuel := by omega
      have f2 : i + 1 + d = 16 := by omega
      have f3 : i ≤ 16 := by omega
      have f4 : i ≤ 8 * L - kk := by omega
      have f5 : 8 * L - kk - i = 8 * L - (kk + i) := by omega
      have dl := div8_lt (kk + i) L hin hL3
      have en := ends_at (kk + i) L hin
      rw [shr_nat w i f3, band1 _ (Nat.lt_of_le_of_lt (Nat.div_le_self _ _) hw16), e3.out, tdiv8 (kk + i), tmod8 (kk + i), wrap_small _ dl.2]
      have hpos : 0 < 2 ^ i := Nat.pow_pos (by decide)
      have hm2 : m < 2 ^ (i + 1) := by rw [Nat.pow_succ]; omega
      by_cases hb : ((w / 2 ^ i % 2 : Nat) : Int) = 1
      · have hr : (kk + i) % 8 < 8 := Nat.mod_lt _ (by decide)
        have sb := set_byte b ((kk + i) / 8) (2 ^ ((kk + i) % 8)) (by rw [hL]; exact dl.1) hw (pow_lt8 _ hr)
        rw [if_pos hb, if_pos (Int.natCast_nonneg _), if_pos (int_lt _ _ (by rw [hL]; exact dl.1)), if_pos (Int.natCast_nonneg _), Int.toNat_natCast, shl_nat _ hr]
        have hm' : m ^^^ 2 ^ i = 2 ^ i + m := by
          have := add_xor i 1 m hm
          rw [Nat.mul_one] at this
          rw [Nat.xor_comm, ← this]
        have hm3 : m ^^^ 2 ^ i < 2 ^ (i + 1) := by rw [hm', Nat.pow_succ]; omega
        have ht : (true : Bool) = decide (m ^^^ 2 ^ i ≠ 0) := (decide_eq_true (by rw [hm']; omega)).symm
        have hx : Aside0 (nthen 65535 (natL (b.set ((kk + i) / 8) (Go.bits .xor .u8 (rd b (((kk + i) / 8 : Nat) : Int)) ((2 ^ ((kk + i) % 8) : Nat) : Int)))) = nsteps (8 * L - kk) (m ^^^ 2 ^ i)) := ⟨by
          rw [sb.2, he.out, nsteps_xor, hL]
          congr 1
          rw [nsteps_sub _ _ en.1, nsteps_sub _ _ f4, en.2, f5]⟩
        have := ih fuel _ (m ^^^ 2 ^ i) (i + 1) f2 f1 (by rw [List.length_set]; exact hL) sb.1 hm3 hx
        rw [← ht] at this
        exact this
      · rw [if_neg hb]
        exact ih fuel b m (i + 1) f2 f1 hL hw hm2 he
    · have hin2 : ¬ ((kk + i : Nat) : Int) < ((8 * L : Nat) : Int) := by omega
      rw [decide_eq_false hin2]
      exact turned_end L kk _ fuel b m i _ (by omega) hL hL2 hL3 hw hm (by omega) he
theorem CrcTurned : busbarlaw01_CrcTurned.Pure := by
  intro a at' w _ _ wa hat hw
  have wa : ∀ y ∈ a, 0 ≤ y ∧ y < 256 := fun y hy => wf8 (wa y hy)
  have hat := wf16 hat
  have hw := wf16 hw
  refine ⟨1000, ?_⟩
  unfold busbarlaw01_CrcTurned.f
  rw [awake_f]
  simp only [Option.bind_some]
  by_cases h : (a.length : Int) > 300
  · rw [if_pos h]
  have hr := thenL_range a 65535 (by omega) (by omega) wa
  rw [if_neg h, if_pos (by simp; omega), of_f a (by omega)]
  simp only [Option.bind_some, List.nil_append]
  rw [two_f _ hr.1 hr.2]
  simp only [Option.bind_some]
  have wo : ∀ y ∈ a ++ [thenL 65535 a % 256, thenL 65535 a / 256], 0 ≤ y ∧ y < 256 := by
    intro y hy
    simp at hy
    rcases hy with hy | rfl | rfl
    · exact wa y hy
    · omega
    · omega
  have hz : thenL 65535 (a ++ [thenL 65535 a % 256, thenL 65535 a / 256]) = 0 := by rw [thenL_append]; exact thenL_own _ hr.1 hr.2
  rw [if_pos (by simp; omega)]
  have hn : (a ++ [thenL 65535 a % 256, thenL 65535 a / 256]).length = a.length + 2 := by simp
  generalize a ++ [thenL 65535 a % 256, thenL 65535 a / 256] = b at wo hz hn ⊢
  obtain ⟨x, rfl⟩ := Int.eq_ofNat_of_zero_le hat.1
  obtain ⟨v, rfl⟩ := Int.eq_ofNat_of_zero_le hw.1
  have e2 : wrap64 (8 * (b.length : Int)) = ((8 * b.length : Nat) : Int) := by simp only [wrap64]; omega
  have e1 : wrap64 (x : Int) = (x : Int) := by simp only [wrap64]; omega
  have e3 : Int.tmod (x : Int) ((8 * b.length : Nat) : Int) = ((x % (8 * b.length) : Nat) : Int) := by rw [Int.tmod_eq_emod_of_nonneg (by omega)]; exact_mod_cast rfl
  rw [e1, e2, if_neg (by omega), if_neg (by omega), e3]
  have c : (65535 : Int) = ((65535 : Nat) : Int) := rfl
  have k1 : (65535 : Nat) < 65536 := by omega
  rw [c, thenL_nat _ _ k1 wo] at hz
  have hz' : Aside0 (nthen 65535 (natL b) = nsteps (8 * b.length - x % (8 * b.length)) 0) := ⟨by rw [nsteps_0]; exact_mod_cast hz⟩
  clear hz
  have := turned_l0 b.length (x % (8 * b.length)) v (by omega) (by omega) (Nat.mod_lt _ (by omega)) (by omega) 16 1000 b 0 0 rfl (by omega) rfl wo (by decide) hz'
  simpa using this

end Go.Proofs.Ytbdfjaimgldokaa.Pure
