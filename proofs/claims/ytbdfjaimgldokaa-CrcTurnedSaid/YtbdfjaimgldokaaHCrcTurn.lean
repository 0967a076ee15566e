/- One byte of a list that is another one turns the sum by what its difference comes to behind the bits that are left; for every list of bytes. -/
import Derived.Test.YtbdfjaimgldokaaHCrcMath
import Derived.Test.YtbdfjaimgldokaaWWords
namespace Go.Proofs.Ytbdfjaimgldokaa.HCrc
open Go.RowKit Go.Proofs.YtbdfjaimgldokaaW.PrintWords
/-- One byte that is another one. -/
theorem nthen_byte (l : List Nat) : ∀ (s q e : Nat) (h : q < l.length), nthen s (l.set q (l[q] ^^^ e)) = nthen s l ^^^ nsteps (8 * l.length - 8 * q) e := by
  induction l with
  | nil => intro s q e h; simp at h
  | cons c l ih =>
    intro s q e h
    cases q with
    | zero =>
      have e1 : nnext s (c ^^^ e) = nnext s c ^^^ nsteps 8 e := by
        unfold nnext; rw [← Nat.xor_assoc, nsteps_xor]
      simp only [List.set_cons_zero, List.getElem_cons_zero, nthen_cons]
      rw [e1, nthen_xor, ← nsteps_add]
      congr 2
    | succ q =>
      simp only [List.set_cons_succ, List.getElem_cons_succ, nthen_cons]
      rw [ih _ q e (by simpa using h)]
      congr 2; simp; omega
theorem natL_set (l : List Int) (q : Nat) (v : Int) : natL (l.set q v) = (natL l).set q v.toNat := by simp [natL, List.map_set]
/-- A list of bytes, one of which is turned: in the machine's numbers. -/
theorem set_byte (l : List Int) (q e : Nat) (h : q < l.length) (hw : ∀ x ∈ l, 0 ≤ x ∧ x < 256) (he : e < 256) :
    (∀ x ∈ l.set q (Go.bits .xor .u8 (rd l (q : Int)) (e : Int)), 0 ≤ x ∧ x < 256) ∧
    nthen 65535 (natL (l.set q (Go.bits .xor .u8 (rd l (q : Int)) (e : Int)))) = nthen 65535 (natL l) ^^^ nsteps (8 * l.length - 8 * q) e := by
  have hx := hw l[q] (List.getElem_mem h)
  obtain ⟨c, hc⟩ := Int.eq_ofNat_of_zero_le hx.1
  have r : rd l (q : Int) = (c : Int) := by rw [← hc]; simp [rd, h]
  have hc2 : c < 256 := by omega
  rw [r, bxor8 c e hc2 he]
  constructor
  · intro x hx
    rcases List.mem_or_eq_of_mem_set hx with hx | rfl
    · exact hw x hx
    · have := Nat.xor_lt_two_pow (n := 8) hc2 he
      omega
  · rw [natL_set, Int.toNat_natCast]
    have hq : q < (natL l).length := by rw [natL_length]; exact h
    have g : (natL l)[q] = c := by simp [natL, hc]
    have := nthen_byte (natL l) 65535 q e hq
    rw [g, natL_length] at this
    exact this
end Go.Proofs.Ytbdfjaimgldokaa.HCrc
