/- The sum of bytes behind bytes is that of the first ones, gone on with, and with their own sum behind them it is 0; for every two lists of bytes and every number. -/
import Derived.Test.YtbdfjaimgldokaaPCrcx8
import Derived.Test.YtbdfjaimgldokaaHCrcMath
namespace Go.Proofs.Ytbdfjaimgldokaa.Pure
open Go.RowKit Go.Proofs.Ytbdfjaimgldokaa.PCrc Go.Proofs.Ytbdfjaimgldokaa.HCrc Go.Proofs.YtbdfjaimgldokaaW.PrintWords Go.Proofs.YtbdfjaimgldokaaW.PrintLast Go.Proofs.YtbdfjaimgldokaaW.PrintMore

theorem wf8 {x : Int} (h : (Lit.int .u8 x).wf = true) : 0 ≤ x ∧ x < 256 := by
  simp [Lit.wf, IntKind.min, IntKind.max, IntKind.bits, IntKind.signed] at h; omega
theorem wf16 {x : Int} (h : (Lit.int .u16 x).wf = true) : 0 ≤ x ∧ x < 65536 := by
  simp [Lit.wf, IntKind.min, IntKind.max, IntKind.bits, IntKind.signed] at h; omega
theorem then_f (s : Int) (l : List Int) (h : l.length < 1000) : crc_Then.f s l = some (thenL s l) := by
  unfold crc_Then.f; rw [if_pos (by omega)]
theorem of_f (l : List Int) (h : l.length < 1000) : crc_Of.f l = some (thenL 65535 l) := by
  unfold crc_Of.f; rw [then_f _ _ h]; rfl
theorem two_f (s : Int) (h0 : 0 ≤ s) (h1 : s < 65536) : crc_Two.f s = some [s % 256, s / 256] := by
  unfold crc_Two.f
  have : s / 256 % 256 = s / 256 := by omega
  rw [this]
theorem strOfNums_toL (xs : List Int) : (Go.strOfNums xs).toList = xs.map fun n => UInt8.ofNat n.toNat := by rw [ByteArray.toList_eq]; rfl
theorem is_f (l : List Int) (h : l.length < 1000) (hw : ∀ x ∈ l, 0 ≤ x ∧ x < 256) : crc_Is.f l = some (decide (2 ≤ l.length ∧ thenL 65535 l = 0)) := by
  unfold crc_Is.f
  by_cases h2 : 2 ≤ l.length
  · obtain ⟨p, x, y, rfl⟩ := split2 l h2
    have hp : ∀ z ∈ p, 0 ≤ z ∧ z < 256 := fun z hz => hw z (by simp [hz])
    have hx := hw x (by simp)
    have hy := hw y (by simp)
    have e : wrap64 (((p ++ [x, y]).length : Int) - 2) = p.length := by simp [wrap64]; simp at h; omega
    simp at h
    rw [e, if_pos (by omega), if_pos (by omega), if_pos (by simp; omega)]
    have e1 : (p ++ [x, y]).take ((p.length : Int)).toNat = p := by simp
    have e2 : (p ++ [x, y]).drop ((p.length : Int)).toNat = [x, y] := by simp
    have hr := thenL_range p 65535 (by omega) (by omega) hp
    rw [e1, e2, of_f p (by omega)]
    simp only [Option.bind_some]
    rw [two_f _ hr.1 hr.2]
    simp only [Option.bind_some, strOfNums_toL, List.map_cons, List.map_nil, thenL_append]
    congr 1
    have hi := own_iff (thenL 65535 p) x y hr.1 hr.2 hx.1 hx.2 hy.1 hy.2
    rw [Bool.eq_iff_iff]
    simp only [beq_iff_eq, decide_eq_true_eq, hi, List.cons.injEq, and_true]
    constructor
    · rintro ⟨a, b⟩
      exact ⟨by simp, (byte_inj _ _ (by omega) (by omega) hx.1 hx.2 a).symm, (byte_inj _ _ (by omega) (by omega) hy.1 hy.2 b).symm⟩
    · rintro ⟨_, rfl, rfl⟩
      exact ⟨rfl, rfl⟩
  · have e : wrap64 ((l.length : Int) - 2) = (l.length : Int) - 2 := by simp only [wrap64]; omega
    rw [e, if_neg (by omega)]
    simp [h2]
theorem awake_f : busbarlaw01_awake.f = some true := rfl
theorem CrcJoins : busbarlaw01_CrcJoins.Pure := by
  intro a b s _ _ ha _ _ hb hs
  have ha : ∀ y ∈ a, 0 ≤ y ∧ y < 256 := fun y hy => wf8 (ha y hy)
  have hb : ∀ y ∈ b, 0 ≤ y ∧ y < 256 := fun y hy => wf8 (hb y hy)
  have hs := wf16 hs
  refine ⟨2, ?_⟩
  unfold busbarlaw01_CrcJoins.f
  rw [awake_f]
  simp only [Option.bind_some]
  by_cases h : (a.length : Int) > 300
  · rw [if_pos h]; simp [busbarlaw01_CrcJoins.j0]
  rw [if_neg h]
  simp only [busbarlaw01_CrcJoins.j0]
  by_cases h1 : (b.length : Int) > 300
  · simp [h1]
  simp only [h1, decide_false, Option.bind_some, List.nil_append]
  have hr := thenL_range a 65535 (by omega) (by omega) ha
  have ho : ∀ y ∈ a ++ [thenL 65535 a % 256, thenL 65535 a / 256], 0 ≤ y ∧ y < 256 := by
    intro y hy
    simp at hy
    rcases hy with hy | rfl | rfl
    · exact ha y hy
    · omega
    · omega
  have hz : thenL 65535 (a ++ [thenL 65535 a % 256, thenL 65535 a / 256]) = 0 := by rw [thenL_append]; exact thenL_own _ hr.1 hr.2
  rw [if_neg (by simp), if_pos (by simp; omega), if_pos (by omega), of_f a (by omega)]
  simp only [Option.bind_some]
  rw [two_f _ hr.1 hr.2]
  simp only [Option.bind_some]
  rw [if_pos (by simp; omega), if_pos (by simp; omega), of_f (a ++ b) (by simp; omega), then_f _ b (by omega), then_f _ (a ++ b) (by simp; omega), then_f _ a (by omega)]
  simp only [Option.bind_some, if_true]
  rw [then_f _ b (by omega), of_f _ (by simp; omega), is_f _ (by simp; omega) ho, hz]
  simp [thenL_append]

end Go.Proofs.Ytbdfjaimgldokaa.Pure
