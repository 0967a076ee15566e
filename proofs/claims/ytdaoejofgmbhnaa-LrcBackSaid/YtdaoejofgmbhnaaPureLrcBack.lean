/- Bytes with their sum behind them end in it, and with one byte that is another one they don't; for every list of bytes, place and difference. -/
import Derived.Test.YtdaoejofgmbhnaaPLrcx1
namespace Go.Proofs.Ytdaoejofgmbhnaa.Pure
open Go.RowKit Go.Proofs.Ytdaoejofgmbhnaa.PLrc Go.Proofs.Ytdaoejofgmbhnaa.HLrc Go.Proofs.YtdaoejofgmbhnaaW.PrintWords Go.Proofs.YtdaoejofgmbhnaaW.PrintLast

theorem wf8 {x : Int} (h : (Lit.int .u8 x).wf = true) : 0 ≤ x ∧ x < 256 := by
  simp [Lit.wf, IntKind.min, IntKind.max, IntKind.bits, IntKind.signed] at h; omega
theorem wf16 {x : Int} (h : (Lit.int .u16 x).wf = true) : 0 ≤ x ∧ x < 65536 := by
  simp [Lit.wf, IntKind.min, IntKind.max, IntKind.bits, IntKind.signed] at h; omega
theorem of_f (l : List Int) (h : l.length < 1000) : lrc_Of.f l = some (ofL l) := by
  unfold lrc_Of.f; rw [if_pos (by omega)]
theorem is_f (l : List Int) (h : l.length < 1000) (h0 : 0 < l.length) : lrc_Is.f l = some (decide (sumL l % 256 = 0)) := by
  unfold lrc_Is.f; rw [if_pos (by omega), of_f l h]; simp only [Option.bind_some, ofL]; congr 1
  rw [Bool.eq_iff_iff]; simp; omega
theorem awake_f : busbarlaw02_awake.f = some true := by
  unfold busbarlaw02_awake.f
  rw [of_f _ (by simp), is_f _ (by simp) (by simp)]
  simp only [Option.bind_some]
  rw [if_pos (by decide)]
  simp [sumL, lrc_Is.f]
theorem sumL_one (a : Int) : sumL [a] = a := by simp [sumL]
theorem sumL_set (l : List Int) (i : Nat) (v : Int) (h : i < l.length) : sumL (l.set i v) = sumL l - l[i] + v := by
  induction l generalizing i with
  | nil => simp at h
  | cons a l ih =>
    cases i with
    | zero => simp [sumL_cons]; omega
    | succ i => simp only [List.set_cons_succ, sumL_cons, List.getElem_cons_succ]; rw [ih i (by simpa using h)]; omega
theorem LrcBack : busbarlaw02_LrcBack.Pure := by
  intro l a b _ _ hw ha hb
  have ha := wf16 ha
  have hb := wf8 hb
  unfold busbarlaw02_LrcBack.f
  rw [awake_f]
  simp only [Option.bind_some]
  by_cases h : (l.length : Int) > 300
  · rw [if_pos h]
  have e0 : wrap64 a = a := by unfold wrap64; omega
  rw [if_neg h, if_pos (by simp; omega), e0]
  simp only [List.nil_append]
  rw [of_f l (by omega)]
  simp only [Option.bind_some]
  rw [if_pos (by omega), is_f _ (by simp; omega) (by simp)]
  have hd : sumL (l ++ [ofL l]) % 256 = 0 := by rw [sumL_append, sumL_one]; unfold ofL; omega
  have hn : (l ++ [ofL l]).length = l.length + 1 := by simp
  generalize hy : l ++ [ofL l] = y at *
  simp only [Option.bind_some, hd]
  have hm : Int.tmod a (y.length : Int) = a % (y.length : Int) := Int.tmod_eq_emod_of_nonneg ha.1
  have m0 : 0 ≤ a % (y.length : Int) := Int.emod_nonneg _ (by omega)
  have m1 : a % (y.length : Int) < (y.length : Int) := Int.emod_lt_of_pos _ (by omega)
  rw [hm, if_neg (by omega), if_pos m0, if_pos m1]
  simp only [if_true, decide_true]
  obtain ⟨i, hi⟩ := Int.eq_ofNat_of_zero_le m0
  rw [hi] at m1 ⊢
  have hil : i < y.length := by omega
  rw [is_f _ (by simp; omega) (by simp; omega)]
  simp only [Option.bind_some, Int.toNat_natCast]
  have r : rd y (i : Int) = y[i] := by simp [rd, hil]
  simp only [sumL_set _ _ _ hil, r]; congr 1
  rw [beq_iff_eq, Bool.eq_iff_iff]
  simp only [decide_eq_true_eq, beq_iff_eq]
  omega

end Go.Proofs.Ytdaoejofgmbhnaa.Pure
