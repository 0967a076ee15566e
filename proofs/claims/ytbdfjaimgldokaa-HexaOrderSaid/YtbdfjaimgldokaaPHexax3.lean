/- Proves nothing by itself but how the Go functions of the claim PHexa run: each call comes to what the plain Lean function of the same name tells, where that tells anything. Written by wip/inject.py, a program of this session. -/
import Derived.Test.YtbdfjaimgldokaaPHexax0
namespace Go.Proofs.Ytbdfjaimgldokaa.PHexa
open Go.RowKit Go.Proofs.YtbdfjaimgldokaaW.PrintWords Go.Proofs.YtbdfjaimgldokaaW.PrintLast Go.Proofs.YtbdfjaimgldokaaW.PrintMore
attribute [local go_sem] max2_int min2_int max_two min_two max_three min_three max_four min_four   -- for this text's walks alone
set_option linter.unusedVariables false
set_option linter.unusedSimpArgs false

-- NOT PRINTED: function 34 (abi_NoEscape)

-- NOT PRINTED: function 33 (strings_Builder_copyCheck)

-- NOT PRINTED: function 30 (strings_Builder_WriteByte)

-- NOT PRINTED: function 31 (strings_Builder_String)

/-! ### hexa_Put: function 26 -/
def hexa_Put.f (l0 : List Int) : Option (ByteArray) := if l0.length < 1000000 then (if (l0.all fun x => decide (0 ≤ x ∧ x < 256)) = true then some (strOfNums (HHexa.hexL l0)) else none) else none
theorem hexa_Put.calls (A0 : Option Addr) (c0 : Nat) (l0 : List Int) (r : ByteArray) (w : World) (hr0 : Kd.C (Kd.int .u8) w A0 l0.length l0) (hc0 : l0.length ≤ c0) (h : hexa_Put.f l0 = some r) :
    Calls Try.prog 26 #[.slice A0 l0.length c0] w fun e w' => e = .returned (.string r) ∧ Below w.heap.size w w' := by
  unfold hexa_Put.f at h
  by_cases hl : l0.length < 1000000
  · rw [if_pos hl] at h
    by_cases hw : (l0.all fun x => decide (0 ≤ x ∧ x < 256)) = true
    · rw [if_pos hw] at h
      obtain rfl := Option.some.inj h
      exact HHexa.put_calls A0 c0 l0 w hr0 (fun x hx => of_decide_eq_true (List.all_eq_true.1 hw x hx)) hl
    · rw [if_neg hw] at h
      exact absurd h (by simp)
  · rw [if_neg hl] at h
    exact absurd h (by simp)


end Go.Proofs.Ytbdfjaimgldokaa.PHexa
