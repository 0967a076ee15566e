/- The sum of any bytes, and whether any bytes end in their own, is what the reference answers; for every list of bytes. -/
import Derived.Test.YtdaoejofgmbhnaaPLrcx1
namespace Go.Proofs.Ytdaoejofgmbhnaa.Pure
open Go.RowKit Go.Proofs.Ytdaoejofgmbhnaa.PLrc Go.Proofs.Ytdaoejofgmbhnaa.HLrc Go.Proofs.YtdaoejofgmbhnaaW.PrintWords Go.Proofs.YtdaoejofgmbhnaaW.PrintLast

theorem wf8 {x : Int} (h : (Lit.int .u8 x).wf = true) : 0 ≤ x ∧ x < 256 := by
  simp [Lit.wf, IntKind.min, IntKind.max, IntKind.bits, IntKind.signed] at h; omega
theorem wf16 {x : Int} (h : (Lit.int .u16 x).wf = true) : 0 ≤ x ∧ x < 65536 := by
  simp [Lit.wf, IntKind.min, IntKind.max, IntKind.bits, IntKind.signed] at h; omega
theorem of_f (l : List Int) (h : l.length < 1000) : lrc_Of.f l = some (ofL l) := by
  unfold lrc_Of.f; rw [if_pos (by omega)]
theorem is_f (l : List Int) (h : l.length < 1000) (h0 : 0 < l.length) : lrc_Is.f l = some (decide (sumL l % 256 = 0)) := by
  unfold lrc_Is.f; rw [if_pos (by omega), of_f l h]; simp only [Option.bind_some, ofL]; congr 1
  rw [Bool.eq_iff_iff]; simp; omega
theorem awake_f : busbarlaw02_awake.f = some true := by
  unfold busbarlaw02_awake.f
  rw [of_f _ (by simp), is_f _ (by simp) (by simp)]
  simp only [Option.bind_some]
  rw [if_pos (by decide)]
  simp [sumL, lrc_Is.f]
theorem sumL_one (a : Int) : sumL [a] = a := by simp [sumL]
theorem sumL_set (l : List Int) (i : Nat) (v : Int) (h : i < l.length) : sumL (l.set i v) = sumL l - l[i] + v := by
  induction l generalizing i with
  | nil => simp at h
  | cons a l ih =>
    cases i with
    | zero => simp [sumL_cons]; omega
    | succ i => simp only [List.set_cons_succ, sumL_cons, List.getElem_cons_succ]; rw [ih i (by simpa using h)]; omega
theorem ref_l0 (s : List Int) : ∀ (k : Nat) (p : List Int) (x : Int), s.length < k → (∀ y ∈ s, 0 ≤ y ∧ y < 256) → p.length + s.length < 140737488355328 → 0 ≤ x → x < 256 →
    busbarref02_Of.l0 k (p ++ s) x (p.length : Int) = some ((0 - (x + sumL s)) % 256) := by
  induction s with
  | nil =>
    intro k p x hk _ _ h0 h1
    obtain ⟨k, rfl⟩ : ∃ m, k = m + 1 := ⟨k - 1, by omega⟩
    simp only [busbarref02_Of.l0]
    rw [if_neg (by simp)]
    have e : wrap64 (256 - x) = 256 - x := by unfold wrap64; omega
    rw [e, Int.tmod_eq_emod_of_nonneg (by omega)]
    simp only [sumL, List.foldl_nil]; congr 1; omega
  | cons y s ih =>
    intro k p x hk hw hp h0 h1
    obtain ⟨k, rfl⟩ : ∃ m, k = m + 1 := ⟨k - 1, by omega⟩
    simp only [List.length_cons] at hk hp
    have w := hw y (by simp)
    simp only [busbarref02_Of.l0]
    have hlt : (p.length : Int) < ((p ++ y :: s).length : Int) := by simp; omega
    have r : rd (p ++ y :: s) (p.length : Int) = y := by simp [rd]
    have e : wrap64 ((p.length : Int) + 1) = ((p ++ [y]).length : Int) := by simp [wrap64]; omega
    have e2 : wrap64 (x + wrap64 y) = x + y := by simp only [wrap64]; omega
    rw [if_pos hlt, if_pos (by omega), r, e, e2, Int.tmod_eq_emod_of_nonneg (by omega)]
    have := ih k (p ++ [y]) ((x + y) % 256) (by omega) (fun z hz => hw z (by simp [hz])) (by simp; omega) (by omega) (by omega)
    simp only [List.append_assoc, List.cons_append, List.nil_append] at this ⊢
    rw [this, sumL_cons]; congr 1; omega
theorem ref_f (k : Nat) (l : List Int) (hk : l.length < k) (hw : ∀ y ∈ l, 0 ≤ y ∧ y < 256) (hl : l.length < 1000) : busbarref02_Of.f k l = some (ofL l) := by
  have := ref_l0 l k [] 0 hk hw (by simp; omega) (by omega) (by omega)
  simpa [busbarref02_Of.f, ofL] using this
theorem LrcTells : busbarlaw02_LrcTells.Pure := by
  intro l _ _ hw
  have hw : ∀ y ∈ l, 0 ≤ y ∧ y < 256 := fun y hy => wf8 (hw y hy)
  refine ⟨1000, ?_⟩
  unfold busbarlaw02_LrcTells.f
  rw [awake_f]
  simp only [Option.bind_some]
  by_cases h : (l.length : Int) > 300
  · rw [if_pos h]
  rw [if_neg h, of_f l (by omega), ref_f _ l (by omega) hw (by omega)]
  simp only [Option.bind_some, if_true]
  unfold busbarref02_Is.f
  by_cases h0 : l.length = 0
  · have : l = [] := by simpa using h0
    subst this
    simp [lrc_Is.f]
  · rw [if_neg (by omega), is_f l (by omega) (by omega), ref_f _ l (by omega) hw (by omega)]
    simp only [Option.bind_some, ofL]; congr 1
    rw [beq_iff_eq, Bool.eq_iff_iff]; simp only [decide_eq_true_eq, beq_iff_eq]; omega

end Go.Proofs.Ytdaoejofgmbhnaa.Pure
