/- The sum of bytes by a closure: what lrc.Of answers is the number that, added to all bytes, makes 0 modulo 256; for every readable list of bytes in any memory. -/
import Derived.Test.YtdaoejofgmbhnaaProg
import Derived.Below
import Derived.OneCell
import Derived.WalkKit
import Derived.KernelRfl
import Derived.RowKit3
import Derived.Deep.LoopGhost
import Derived.Deep.QuietTactic
import Derived.BigQuiet
import Derived.Deep.DeepCutAuto
import Derived.Deep.CutBlock
import Derived.OwnWalk
import Derived.Test.YtdaoejofgmbhnaaWWords
import Derived.Test.YtdaoejofgmbhnaaWLast
namespace Go.Proofs.Ytdaoejofgmbhnaa.HLrc
open Go.RowKit Go.Proofs.YtdaoejofgmbhnaaW.PrintWords Go.Proofs.YtdaoejofgmbhnaaW.PrintLast

/-- All bytes together. -/
def sumL (l : List Int) : Int := l.foldl (fun s c => s + c) 0
theorem foldl_add (l : List Int) : ∀ s : Int, l.foldl (fun s c => s + c) s = s + sumL l := by
  induction l with
  | nil => intro s; simp [sumL]
  | cons a l ih => intro s; simp only [List.foldl_cons, sumL]; rw [ih, ih (0 + a)]; omega
theorem sumL_cons (a : Int) (l : List Int) : sumL (a :: l) = a + sumL l := by
  simp only [sumL, List.foldl_cons]; rw [foldl_add]; simp [sumL]
theorem sumL_append (a b : List Int) : sumL (a ++ b) = sumL a + sumL b := by
  simp only [sumL, List.foldl_append]; rw [foldl_add]; simp [sumL]
def ofL (l : List Int) : Int := (0 - sumL l) % 256

theorem add_calls (B : Nat) (s c : Int) (w : World) (hb : w.heap[B]? = some (.cells #[.int .u8 s] 5 (0, 0))) :
    Calls Try.prog 26 #[.int .u8 c, .pointer (some ⟨B, 0, none⟩)] w fun e w' => e = .returned (.tuple #[]) ∧ w' = w.setCell ⟨B, 0, none⟩ (.int .u8 ((s + c) % 256)) := by
  have cW := cell_of_one hb
  have fW := free_of_one hb
  go_enter Try.func26, Try.ntmps26
  go_wp2
  go_end0
  exact ⟨rfl, rfl⟩

theorem rd_drop (l : List Int) (i : Nat) (h : i < l.length) : l.drop i = rd l (i : Int) :: l.drop (i + 1) := by
  rw [List.drop_eq_getElem_cons h]; simp [rd, List.getD_eq_getElem?_getD, h]

set_option maxHeartbeats 1000000 in
theorem each_calls (B : Nat) (A0 : Option Addr) (c0 : Nat) (l0 : List Int) (w0 w : World) (hB : w0.heap.size ≤ B) (hw : Below w0.heap.size w0 w) (hr0 : Kd.C (Kd.int .u8) w0 A0 l0.length l0) (hl : l0.length < 9223372036854775807) (hb : w.heap[B]? = some (.cells #[.int .u8 0] 5 (0, 0))) :
    Calls Try.prog 25 #[.slice A0 l0.length c0, .func (.func 26) #[] #[.pointer (some ⟨B, 0, none⟩)]] w fun e w' => e = .returned (.tuple #[]) ∧ w'.heap[B]? = some (.cells #[.int .u8 (sumL l0 % 256)] 5 (0, 0)) ∧ Below w0.heap.size w0 w' := by
  have HR0 := Aside0.mk hr0
  have HB := Aside0.mk hB
  have HW := Aside0.mk hw
  have Hb := Aside0.mk hb
  clear hr0 hB hw hb
  go_enter Try.func25, Try.ntmps25
  go_wp2
  go_loopw [8] (fun v8 wr => ∃ (i : Nat), v8 = .int .i64 i ∧ i ≤ l0.length ∧ Aside0 (wr.heap[B]? = some (.cells #[.int .u8 (sumL (l0.take i) % 256)] 5 (0, 0))) ∧ Aside0 (Below w0.heap.size w0 wr)) (fun v8 _ => l0.length - (intOf v8).toNat)
  case atStart => exact ⟨0, rfl, Nat.zero_le _, Hb, HW⟩
  case round =>
    obtain ⟨i, rfl, hi, Hb, HW⟩ := hrel
    by_cases hlt : i < l0.length
    · obtain ⟨ad, ead, hx⟩ := Kd.at_int HR0.out (i : Int) (by omega) (by omega)
      cases ead
      replace hx := (HW.out.cell (World.block_lt_of_cell? w0 _ hx)).trans hx
      simp only [Int.toNat_natCast] at hx
      go_wp2_with (go_at_call 26; refine (add_calls B (sumL (l0.take i) % 256) _ _ Hb.out).mono ?_; rintro e w1 ⟨rfl, rfl⟩)
      have e1 : (sumL (l0.take i) + rd l0 i) % 256 = sumL (l0.take (i + 1)) % 256 := by
        rw [List.take_succ_eq_append_getElem hlt, sumL_append, sumL_cons]
        simp [rd, hlt, sumL]
      go_wp2
      go_roundw
      case rel => exact ⟨i + 1, by go_num, by omega, ⟨by rw [← e1]; exact one_setCell Hb.out⟩, ⟨HW.out.setCell HB.out _⟩⟩
      case measure => simp [intOf]; omega
    · obtain rfl : i = l0.length := by omega
      go_wp2
      go_end0
      exact ⟨rfl, by simpa using Hb.out, HW.out⟩

set_option maxHeartbeats 1000000 in
theorem of_calls (A0 : Option Addr) (c0 : Nat) (l0 : List Int) (w : World) (hr0 : Kd.C (Kd.int .u8) w A0 l0.length l0) (hl : l0.length < 9223372036854775807) :
    Calls Try.prog 12 #[.slice A0 l0.length c0] w fun e w' => e = .returned (.int .u8 (ofL l0)) ∧ Below w.heap.size w w' := by
  have hmf : ∀ (fn : Fn) (first cap : Array Value) (w : World), (Instr.makeFunc fn first cap).run Try.prog w = .ok (.func fn first cap) w := fun _ _ _ _ => rfl
  have HR0 := Aside0.mk hr0
  clear hr0
  go_enter Try.func12, Try.ntmps12
  go_wp2_with fail
  refine (each_calls w.heap.size A0 c0 l0 w _ (Nat.le_refl _) ((Below.refl _ _).alloc (Nat.le_refl _) _) HR0.out hl (heap_alloc_new _ _)).mono ?_
  rintro e w1 ⟨rfl, hb, hB⟩
  have cW := cell_of_one hb
  go_wp2
  go_ret
  exact ⟨by simp [ofL]; omega, hB⟩
end Go.Proofs.Ytdaoejofgmbhnaa.HLrc
