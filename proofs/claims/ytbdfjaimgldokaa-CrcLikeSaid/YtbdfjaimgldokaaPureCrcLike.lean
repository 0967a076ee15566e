/- Of two texts of one length with the same bits turned the sums differ alike; for every three lists of bytes. -/
import Derived.Test.YtbdfjaimgldokaaPCrcx10
import Derived.Test.YtbdfjaimgldokaaHCrcTurn
namespace Go.Proofs.Ytbdfjaimgldokaa.Pure
open Go.RowKit Go.Proofs.Ytbdfjaimgldokaa.PCrc Go.Proofs.Ytbdfjaimgldokaa.HCrc Go.Proofs.YtbdfjaimgldokaaW.PrintWords Go.Proofs.YtbdfjaimgldokaaW.PrintLast Go.Proofs.YtbdfjaimgldokaaW.PrintMore

theorem wf8 {x : Int} (h : (Lit.int .u8 x).wf = true) : 0 ≤ x ∧ x < 256 := by
  simp [Lit.wf, IntKind.min, IntKind.max, IntKind.bits, IntKind.signed] at h; omega
theorem wf16 {x : Int} (h : (Lit.int .u16 x).wf = true) : 0 ≤ x ∧ x < 65536 := by
  simp [Lit.wf, IntKind.min, IntKind.max, IntKind.bits, IntKind.signed] at h; omega
theorem then_f (s : Int) (l : List Int) (h : l.length < 1000) : crc_Then.f s l = some (thenL s l) := by
  unfold crc_Then.f; rw [if_pos (by omega)]
theorem of_f (l : List Int) (h : l.length < 1000) : crc_Of.f l = some (thenL 65535 l) := by
  unfold crc_Of.f; rw [then_f _ _ h]; rfl
theorem two_f (s : Int) (h0 : 0 ≤ s) (h1 : s < 65536) : crc_Two.f s = some [s % 256, s / 256] := by
  unfold crc_Two.f
  have : s / 256 % 256 = s / 256 := by omega
  rw [this]
theorem strOfNums_toL (xs : List Int) : (Go.strOfNums xs).toList = xs.map fun n => UInt8.ofNat n.toNat := by rw [ByteArray.toList_eq]; rfl
theorem is_f (l : List Int) (h : l.length < 1000) (hw : ∀ x ∈ l, 0 ≤ x ∧ x < 256) : crc_Is.f l = some (decide (2 ≤ l.length ∧ thenL 65535 l = 0)) := by
  unfold crc_Is.f
  by_cases h2 : 2 ≤ l.length
  · obtain ⟨p, x, y, rfl⟩ := split2 l h2
    have hp : ∀ z ∈ p, 0 ≤ z ∧ z < 256 := fun z hz => hw z (by simp [hz])
    have hx := hw x (by simp)
    have hy := hw y (by simp)
    have e : wrap64 (((p ++ [x, y]).length : Int) - 2) = p.length := by simp [wrap64]; simp at h; omega
    simp at h
    rw [e, if_pos (by omega), if_pos (by omega), if_pos (by simp; omega)]
    have e1 : (p ++ [x, y]).take ((p.length : Int)).toNat = p := by simp
    have e2 : (p ++ [x, y]).drop ((p.length : Int)).toNat = [x, y] := by simp
    have hr := thenL_range p 65535 (by omega) (by omega) hp
    rw [e1, e2, of_f p (by omega)]
    simp only [Option.bind_some]
    rw [two_f _ hr.1 hr.2]
    simp only [Option.bind_some, strOfNums_toL, List.map_cons, List.map_nil, thenL_append]
    congr 1
    have hi := own_iff (thenL 65535 p) x y hr.1 hr.2 hx.1 hx.2 hy.1 hy.2
    rw [Bool.eq_iff_iff]
    simp only [beq_iff_eq, decide_eq_true_eq, hi, List.cons.injEq, and_true]
    constructor
    · rintro ⟨a, b⟩
      exact ⟨by simp, (byte_inj _ _ (by omega) (by omega) hx.1 hx.2 a).symm, (byte_inj _ _ (by omega) (by omega) hy.1 hy.2 b).symm⟩
    · rintro ⟨_, rfl, rfl⟩
      exact ⟨rfl, rfl⟩
  · have e : wrap64 ((l.length : Int) - 2) = (l.length : Int) - 2 := by simp only [wrap64]; omega
    rw [e, if_neg (by omega)]
    simp [h2]
theorem awake_f : busbarlaw01_awake.f = some true := rfl
theorem like_l0 (a b by' : List Int) (n : Nat) (hn : n ≤ 300) (ha : n ≤ a.length) (hb : n ≤ b.length) (hd : n ≤ by'.length) (wa : ∀ x ∈ a, 0 ≤ x ∧ x < 256) (wb : ∀ x ∈ b, 0 ≤ x ∧ x < 256) (wd : ∀ x ∈ by', 0 ≤ x ∧ x < 256) (d : Nat) :
    ∀ (k : Nat) (x y : List Int) (i : Nat), i + d = n → d < k → x.length = n → y.length = n → (∀ z ∈ x, 0 ≤ z ∧ z < 256) → (∀ z ∈ y, 0 ≤ z ∧ z < 256) →
      nthen 65535 (natL (a.take n)) ^^^ nthen 65535 (natL x) = nthen 65535 (natL (b.take n)) ^^^ nthen 65535 (natL y) →
      busbarlaw01_CrcLike.l0 k a b by' true (n : Int) x y (i : Int) = some true := by
  induction d with
  | zero =>
    intro k x y i hi hk hx hy wx wy he0
    have he := Aside0.mk he0
    clear he0
    obtain ⟨k, rfl⟩ : ∃ m, k = m + 1 := ⟨k - 1, by omega⟩
    have ta : ∀ z ∈ a.take n, 0 ≤ z ∧ z < 256 := fun z hz => wa z (List.mem_of_mem_take hz)
    have tb : ∀ z ∈ b.take n, 0 ≤ z ∧ z < 256 := fun z hz => wb z (List.mem_of_mem_take hz)
    simp only [busbarlaw01_CrcLike.l0]
    rw [if_neg (by omega), if_pos trivial, if_pos (by omega), if_pos (by omega), Int.toNat_natCast, of_f _ (by simp; omega), of_f x (by omega)]
    simp only [Option.bind_some]
    rw [if_pos (by omega), of_f _ (by simp; omega), of_f y (by omega)]
    simp only [Option.bind_some]
    have c : (65535 : Int) = ((65535 : Nat) : Int) := rfl
    have k1 : (65535 : Nat) < 65536 := by omega
    have l1 := nthen_lt (natL (a.take n)) 65535 k1 (natL_lt _ ta)
    have l2 := nthen_lt (natL x) 65535 k1 (natL_lt _ wx)
    have l3 := nthen_lt (natL (b.take n)) 65535 k1 (natL_lt _ tb)
    have l4 := nthen_lt (natL y) 65535 k1 (natL_lt _ wy)
    rw [c, thenL_nat _ _ k1 ta, thenL_nat _ _ k1 wx, thenL_nat _ _ k1 tb, thenL_nat _ _ k1 wy, bxor16 _ _ l1 l2, bxor16 _ _ l3 l4, he.out]
    simp
  | succ d ih =>
    intro k x y i hi hk hx hy wx wy he0
    have he := Aside0.mk he0
    clear he0
    obtain ⟨k, rfl⟩ : ∃ m, k = m + 1 := ⟨k - 1, by omega⟩
    simp only [busbarlaw01_CrcLike.l0]
    have e : wrap64 ((i : Int) + 1) = ((i + 1 : Nat) : Int) := by simp only [wrap64]; omega
    rw [if_pos (by omega), if_pos (by omega), if_pos (by omega), if_pos (by omega), if_pos (by omega), Int.toNat_natCast, e]
    have hz := wd by'[i] (List.getElem_mem (by omega))
    obtain ⟨c, hc⟩ := Int.eq_ofNat_of_zero_le hz.1
    have r : rd by' (i : Int) = (c : Int) := by rw [← hc]; simp [rd, show i < by'.length by omega]
    have sx := set_byte x i c (by omega) wx (by omega)
    have sy := set_byte y i c (by omega) wy (by omega)
    rw [r]
    refine ih k _ _ (i + 1) (by omega) (by omega) (by simpa using hx) (by simpa using hy) sx.1 sy.1 ?_
    rw [sx.2, sy.2, hx, hy, ← Nat.xor_assoc, ← Nat.xor_assoc, he.out]
theorem CrcLike : busbarlaw01_CrcLike.Pure := by
  intro a b d _ _ wa _ _ wb _ _ wd
  have wa : ∀ y ∈ a, 0 ≤ y ∧ y < 256 := fun y hy => wf8 (wa y hy)
  have wb : ∀ y ∈ b, 0 ≤ y ∧ y < 256 := fun y hy => wf8 (wb y hy)
  have wd : ∀ y ∈ d, 0 ≤ y ∧ y < 256 := fun y hy => wf8 (wd y hy)
  refine ⟨1000, ?_⟩
  unfold busbarlaw01_CrcLike.f
  rw [awake_f]
  simp only [Option.bind_some]
  obtain ⟨n, hn, ha, hb, hd⟩ : ∃ n : Nat, mn (mn (a.length : Int) (b.length : Int)) (d.length : Int) = (n : Int) ∧ n ≤ a.length ∧ n ≤ b.length ∧ n ≤ d.length := by
    refine ⟨min (min a.length b.length) d.length, ?_, by omega, by omega, by omega⟩
    unfold mn; split <;> split <;> omega
  rw [hn]
  by_cases h : (n : Int) > 300
  · rw [if_pos h]
  rw [if_neg h, if_pos (by omega), if_pos (by omega), if_pos (by simp; omega), if_pos (by omega), if_pos (by simp; omega)]
  simp only [List.nil_append, Int.toNat_natCast]
  exact like_l0 a b d n (by omega) ha hb hd wa wb wd n 1000 _ _ 0 (by omega) (by omega) (by simp; omega) (by simp; omega) (fun z hz => wa z (List.mem_of_mem_take hz)) (fun z hz => wb z (List.mem_of_mem_take hz)) (by rw [Nat.xor_self, Nat.xor_self])

end Go.Proofs.Ytbdfjaimgldokaa.Pure
