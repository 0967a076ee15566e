/- Proves nothing by itself but how the Go functions of the claim PCrc run: each call comes to what the plain Lean function of the same name tells, where that tells anything. Written by wip/inject.py, a program of this session. -/
import Derived.Test.YtbdfjaimgldokaaPCrcx0
import Derived.Test.YtbdfjaimgldokaaPCrcx1
import Derived.Test.YtbdfjaimgldokaaPCrcx2
namespace Go.Proofs.Ytbdfjaimgldokaa.PCrc
open Go.RowKit Go.Proofs.YtbdfjaimgldokaaW.PrintWords Go.Proofs.YtbdfjaimgldokaaW.PrintLast Go.Proofs.YtbdfjaimgldokaaW.PrintMore
attribute [local go_sem] max2_int min2_int max_two min_two max_three min_three max_four min_four   -- for this text's walks alone
set_option linter.unusedVariables false
set_option linter.unusedSimpArgs false

/-! ### busbarlaw01_awake: function 13 -/
def busbarlaw01_awake.f : Option (Bool) := some true
theorem busbarlaw01_awake.lit (w : World) (xs : List Int) (C : Array Value) (fr : Nat × Nat) (A : Option Addr) (n : Nat) (hA : A = some ⟨w.heap.size, 0, none⟩) (hn : xs.length = n) (hC : C = (xs.map (Value.int .u8)).toArray) (hm : n ≤ 9223372036854775807) : Kd.C (Kd.int .u8) (w.alloc (.cells C 5 fr)) A n xs := by
  subst hA hn hC
  refine Kd.C_of_reads (d := (0 : Int)) (h1 := fun _ => rfl) ⟨rfl, hm, fun _ => ⟨_, rfl, fun j hj => ?_⟩⟩
  rw [Addr.add_lit, Nat.zero_add, cell_of_row _ _ _ _ _ _ (heap_alloc_new _ _)]
  simp [hj, List.getD_eq_getElem?_getD]
theorem busbarlaw01_awake.e1 : crc_Of.f [49, 50, 51, 52, 53, 54, 55, 56, 57] = some 19255 := by kernel_rfl
theorem busbarlaw01_awake.e2 : crc_Of.f [1, 4, 2, 255, 255] = some 32952 := by kernel_rfl
theorem busbarlaw01_awake.e3 : crc_Is.f [1, 4, 2, 255, 255, 184, 128] = some true := by kernel_rfl
theorem busbarlaw01_awake.e4 : crc_Is.f [] = some false := by kernel_rfl
theorem busbarlaw01_awake.c1 (w : World) (A : Option Addr) (h : Kd.C (Kd.int .u8) w A 9 [49, 50, 51, 52, 53, 54, 55, 56, 57]) : Calls Try.prog 16 #[.slice A 9 9] w fun e w' => e = .returned (.int .u16 19255) ∧ Below w.heap.size w w' :=
  crc_Of.calls A 9 [49, 50, 51, 52, 53, 54, 55, 56, 57] 19255 w h (by decide) busbarlaw01_awake.e1
theorem busbarlaw01_awake.c2 (w : World) (A : Option Addr) (h : Kd.C (Kd.int .u8) w A 5 [1, 4, 2, 255, 255]) : Calls Try.prog 16 #[.slice A 5 5] w fun e w' => e = .returned (.int .u16 32952) ∧ Below w.heap.size w w' :=
  crc_Of.calls A 5 [1, 4, 2, 255, 255] 32952 w h (by decide) busbarlaw01_awake.e2
theorem busbarlaw01_awake.c3 (w : World) (A : Option Addr) (h : Kd.C (Kd.int .u8) w A 7 [1, 4, 2, 255, 255, 184, 128]) : Calls Try.prog 19 #[.slice A 7 7] w fun e w' => e = .returned (.bool true) ∧ Below w.heap.size w w' :=
  crc_Is.calls A 7 [1, 4, 2, 255, 255, 184, 128] true w h (by decide) busbarlaw01_awake.e3
theorem busbarlaw01_awake.c4 (w : World) : Calls Try.prog 19 #[.slice none 0 0] w fun e w' => e = .returned (.bool false) ∧ Below w.heap.size w w' :=
  crc_Is.calls none 0 [] false w (Kd.C_nil _ _) (by decide) busbarlaw01_awake.e4
set_option maxHeartbeats 1000000 in
set_option maxRecDepth 100000 in
theorem busbarlaw01_awake.calls (r : Bool) (w : World) (h : busbarlaw01_awake.f = some r) :
    Calls Try.prog 13 #[] w fun e w' => e = .returned (.bool r) ∧ Below w.heap.size w w' := by
  obtain rfl := Option.some.inj h
  clear h
  have HB := Aside0.mk (Below.refl w.heap.size w)
  have kc := fun (w : World) (C : Array Value) (n c : Nat) => Lib.run_convert_bytes_const (P := Try.prog) w 22 5 C n c Try.underlying22 Try.underlying5
  go_enter Try.func13, Try.ntmps13
  go_wp2_with (first
    | (go_at_call 16; (with_reducible refine (busbarlaw01_awake.c1 _ _ ?side1).mono ?_); (case side1 => exact busbarlaw01_awake.lit _ _ _ _ _ _ rfl rfl rfl (by decide)); rintro e w1 ⟨rfl, hb⟩; have hB1 := Aside0.mk (below_step (below_alloc HB.out _) hb); clear HB kc hb)
    | (go_at_call 16; (with_reducible refine (busbarlaw01_awake.c2 _ _ ?side1).mono ?_); (case side1 => exact busbarlaw01_awake.lit _ _ _ _ _ _ rfl rfl rfl (by decide)); rintro e w2 ⟨rfl, hb⟩; have hB2 := Aside0.mk (below_step (below_alloc hB1.out _) hb); clear hB1 hb)
    | (go_at_call 19; (with_reducible refine (busbarlaw01_awake.c3 _ _ ?side1).mono ?_); (case side1 => exact busbarlaw01_awake.lit _ _ _ _ _ _ rfl rfl rfl (by decide)); rintro e w3 ⟨rfl, hb⟩; have hB3 := Aside0.mk (below_step (below_alloc hB2.out _) hb); clear hB2 hb)
    | (go_at_call 19; (with_reducible refine (busbarlaw01_awake.c4 _).mono ?_); rintro e w4 ⟨rfl, hb⟩; have hB4 := Aside0.mk (below_step hB3.out hb); clear hB3 hb))
  go_ret
  exact ⟨rfl, hB4.out⟩


end Go.Proofs.Ytbdfjaimgldokaa.PCrc
