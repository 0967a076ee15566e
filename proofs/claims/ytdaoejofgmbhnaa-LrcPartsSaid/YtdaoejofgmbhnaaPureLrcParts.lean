/- Bytes, and the sum of others ahead of them but for its sign, have together the sum of all; for every two lists of bytes. -/
import Derived.Test.YtdaoejofgmbhnaaPLrcx2
namespace Go.Proofs.Ytdaoejofgmbhnaa.Pure
open Go.RowKit Go.Proofs.Ytdaoejofgmbhnaa.PLrc Go.Proofs.Ytdaoejofgmbhnaa.HLrc Go.Proofs.YtdaoejofgmbhnaaW.PrintWords Go.Proofs.YtdaoejofgmbhnaaW.PrintLast

theorem wf8 {x : Int} (h : (Lit.int .u8 x).wf = true) : 0 ≤ x ∧ x < 256 := by
  simp [Lit.wf, IntKind.min, IntKind.max, IntKind.bits, IntKind.signed] at h; omega
theorem wf16 {x : Int} (h : (Lit.int .u16 x).wf = true) : 0 ≤ x ∧ x < 65536 := by
  simp [Lit.wf, IntKind.min, IntKind.max, IntKind.bits, IntKind.signed] at h; omega
theorem of_f (l : List Int) (h : l.length < 1000) : lrc_Of.f l = some (ofL l) := by
  unfold lrc_Of.f; rw [if_pos (by omega)]
theorem is_f (l : List Int) (h : l.length < 1000) (h0 : 0 < l.length) : lrc_Is.f l = some (decide (sumL l % 256 = 0)) := by
  unfold lrc_Is.f; rw [if_pos (by omega), of_f l h]; simp only [Option.bind_some, ofL]; congr 1
  rw [Bool.eq_iff_iff]; simp; omega
theorem awake_f : busbarlaw02_awake.f = some true := by
  unfold busbarlaw02_awake.f
  rw [of_f _ (by simp), is_f _ (by simp) (by simp)]
  simp only [Option.bind_some]
  rw [if_pos (by decide)]
  simp [sumL, lrc_Is.f]
theorem sumL_one (a : Int) : sumL [a] = a := by simp [sumL]
theorem sumL_set (l : List Int) (i : Nat) (v : Int) (h : i < l.length) : sumL (l.set i v) = sumL l - l[i] + v := by
  induction l generalizing i with
  | nil => simp at h
  | cons a l ih =>
    cases i with
    | zero => simp [sumL_cons]; omega
    | succ i => simp only [List.set_cons_succ, sumL_cons, List.getElem_cons_succ]; rw [ih i (by simpa using h)]; omega
theorem LrcParts : busbarlaw02_LrcParts.Pure := by
  intro a b _ _ _ _ _ _
  refine ⟨2, ?_⟩
  unfold busbarlaw02_LrcParts.f
  rw [awake_f]
  simp only [Option.bind_some]
  by_cases h : (a.length : Int) > 300
  · rw [if_pos h]; simp [busbarlaw02_LrcParts.j0]
  rw [if_neg h]
  simp only [busbarlaw02_LrcParts.j0]
  by_cases h1 : (b.length : Int) > 300
  · simp [h1]
  simp only [h1, decide_false, Option.bind_some, List.nil_append]
  rw [if_neg (by simp), if_pos (by simp; omega), if_pos (by omega), of_f a (by omega)]
  simp only [Option.bind_some, if_true]
  rw [if_pos (by simp; omega), of_f _ (by simp; omega), of_f (a ++ b) (by simp; omega)]
  simp only [Option.bind_some]
  rw [if_pos (by simp only [ofL, sumL_append, sumL_one]; omega), if_pos (by simp; omega), is_f _ (by simp; omega) (by simp; omega)]
  simp only [Option.bind_some, sumL_append, sumL_one, ofL]; congr 1
  simp only [decide_eq_true_eq]; omega

end Go.Proofs.Ytdaoejofgmbhnaa.Pure
