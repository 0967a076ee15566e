/- Proves nothing by itself but how the Go functions of the claim PHexa run: each call comes to what the plain Lean function of the same name tells, where that tells anything. Written by wip/inject.py, a program of this session. -/
import Derived.Test.YtbdfjaimgldokaaPHexax0
namespace Go.Proofs.Ytbdfjaimgldokaa.PHexa
open Go.RowKit Go.Proofs.YtbdfjaimgldokaaW.PrintWords Go.Proofs.YtbdfjaimgldokaaW.PrintLast Go.Proofs.YtbdfjaimgldokaaW.PrintMore
attribute [local go_sem] max2_int min2_int max_two min_two max_three min_three max_four min_four   -- for this text's walks alone
set_option linter.unusedVariables false
set_option linter.unusedSimpArgs false

/-! ### busbarref03_sign: function 32 -/
def busbarref03_sign.f (a0 : Int) : Option (Int) := if a0 < 10 then (some ((48 + a0) % 256)) else (some ((55 + a0) % 256))
set_option maxHeartbeats 8000000 in
set_option maxRecDepth 100000 in
theorem busbarref03_sign.calls (a0 : Int) (r : Int) (w : World) (h : busbarref03_sign.f a0 = some r) :
    Calls Try.prog 32 #[.int .u8 a0] w fun e w' => e = .returned (.int .u8 r) ∧ Drawn0 w w' := by
  have H : (if a0 < 10 then (some ((48 + a0) % 256)) else (some ((55 + a0) % 256))) = some r := h
  clear h
  by_cases c2 : a0 < 10
  · rw [if_pos c2] at H
    have c2b0 : decide (a0 < 10) = true := decide_eq_true c2
    clear c2
    obtain rfl := Option.some.inj H
    go_enter Try.func32, Try.ntmps32
    go_wp2
    go_ret
    exact ⟨by first | rfl | (simp; done) | (simp [*]; done), by repeat (first | exact Drawn0.refl _ | apply Drawn0.step)⟩
  · rw [if_neg c2] at H
    have c2b0 : decide (a0 < 10) = false := decide_eq_false c2
    clear c2
    obtain rfl := Option.some.inj H
    go_enter Try.func32, Try.ntmps32
    go_wp2
    go_ret
    exact ⟨by first | rfl | (simp; done) | (simp [*]; done), by repeat (first | exact Drawn0.refl _ | apply Drawn0.step)⟩

end Go.Proofs.Ytbdfjaimgldokaa.PHexa
