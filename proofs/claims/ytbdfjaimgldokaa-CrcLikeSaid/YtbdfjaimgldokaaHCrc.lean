/- The sum of sixteen bits by a table: crc.table answers what each byte does, bit by bit, and crc.Then what comes of any number and any readable list of bytes, in any memory. -/
import Derived.Test.YtbdfjaimgldokaaProg
import Derived.Below
import Derived.OneCell
import Derived.WalkKit
import Derived.KernelRfl
import Derived.RowKit3
import Derived.Deep.LoopGhost
import Derived.Deep.QuietTactic
import Derived.BigQuiet
import Derived.Deep.DeepCutAuto
import Derived.Deep.CutBlock
import Derived.OwnWalk
import Derived.Laws.Tables
import Derived.Test.YtbdfjaimgldokaaWWords
import Derived.Test.YtbdfjaimgldokaaWLast
namespace Go.Proofs.Ytbdfjaimgldokaa.HCrc
open Go.RowKit Go.Proofs.YtbdfjaimgldokaaW.PrintWords Go.Proofs.YtbdfjaimgldokaaW.PrintLast

/-- What one bit does to a number. -/
def step (x : Int) : Int := Go.bits .xor .u16 (x / 2) (IntKind.u16.wrap (Go.bits .and .u16 x 1 * 40961))
def steps : Nat → Int → Int
  | 0, x => x
  | n + 1, x => step (steps n x)
/-- What a byte does. -/
def tab (i : Nat) : Int := steps 8 (i : Int)

def arr (f : Nat → Int) : Array Value := ((List.range 256).map fun i => Value.int .u16 (f i)).toArray
theorem arr_size (f : Nat → Int) : (arr f).size = 256 := by simp [arr]
theorem arr_get (f : Nat → Int) (i : Nat) (h : i < 256) : (arr f)[i]? = some (.int .u16 (f i)) := by simp [arr, h]
theorem arr_set (f : Nat → Int) (i : Nat) (v : Int) : (arr f).setIfInBounds i (.int .u16 v) = arr (fun j => if j = i then v else f j) := by
  unfold arr
  rw [List.setIfInBounds_toArray]
  congr 1
  apply List.ext_getElem
  · simp
  · intro j h1 h2
    simp only [List.getElem_set, List.getElem_map, List.getElem_range]
    by_cases h : i = j
    · subst h; simp
    · rw [if_neg h, if_neg (fun e => h e.symm)]
theorem arr_ext (f g : Nat → Int) (h : ∀ i, i < 256 → f i = g i) : arr f = arr g := by
  apply Array.ext
  · simp [arr]
  · intro j h1 h2
    simp [arr]; exact h j (by simpa [arr] using h1)
theorem zero43 (w : World) : (zeroValue 43).run Try.prog w = .ok (.agg (arr fun _ => 0)) w := by kernel_rfl
theorem info43 : (Try.prog.info? 43).map (·.size) = some 256 := by kernel_rfl

set_option maxHeartbeats 1000000 in
theorem below_setRow {B g : Nat} {w : World} (h : B ≤ g) (cs : Array Value) : Below B w (w.setRow g cs) :=
  ⟨rfl, rfl, rfl, by simp, fun k hk => setRow_other w g k cs (by omega)⟩

set_option maxRecDepth 100000 in
theorem table_calls (w : World) :
    Calls Try.prog 28 #[] w fun e w' => e = .returned (.agg (arr tab)) ∧ Below w.heap.size w w' := by
  have hz := zero43
  go_enter Try.func28, Try.ntmps28
  go_wp2
  go_loopw [4] (fun v4 wr => ∃ (i : Nat), v4 = .int .i64 i ∧ i ≤ 256 ∧ Aside0 (wr.heap[w.heap.size]? = some (.cells (arr fun _ => 0) 43 (0, 0))) ∧ Aside0 (wr.heap[w.heap.size + 1]? = some (.cells (arr fun j => if j < i then tab j else 0) 43 (0, 0))) ∧ Aside0 (Below w.heap.size w wr)) (fun v4 _ => 256 - (intOf v4).toNat)
  case atStart => exact ⟨0, rfl, by omega, ⟨heap_alloc2_old _ _ _⟩, ⟨heap_alloc2_new _ _ _⟩, ⟨((Below.refl _ _).alloc (Nat.le_refl _) _).alloc (by simp) _⟩⟩
  case round =>
    obtain ⟨i, rfl, hi, H0, H1, HB⟩ := hrel
    obtain ⟨wo, rfl⟩ : ∃ wo : World, wo = wr := ⟨_, rfl⟩
    by_cases hlt : i < 256
    · have cx := cell_of_row wo (w.heap.size + 1) i _ _ _ H1.out
      rw [arr_get _ _ hlt, if_neg (Nat.lt_irrefl i)] at cx
      have fx := frozen_of_row wo (w.heap.size + 1) i _ _ H1.out
      go_wp2
      go_loop [3, 9] (fun v3 v9 => ∃ (k : Nat), v9 = .int .i64 k ∧ k ≤ 8 ∧ v3 = .int .u16 (steps k i)) (fun _ v9 => 8 - (intOf v9).toNat)
      case atStart => exact ⟨0, rfl, by omega, rfl⟩
      case round =>
        obtain ⟨k, rfl, hk, rfl⟩ := hrel
        by_cases hk8 : k < 8
        · clear cx fx
          go_wp2
          go_round
          case rel => exact ⟨k + 1, by go_num, by omega, rfl⟩
          case measure => simp [intOf]; omega
        · obtain rfl : k = 8 := by omega
          go_wp2
          go_roundw
          case rel =>
            refine ⟨i + 1, by go_num, by omega, ⟨?_⟩, ⟨?_⟩, ⟨HB.out.setCell (by simp) _⟩⟩
            · rw [heap_setCell_other _ _ _ _ (by simp)]; exact H0.out
            · rw [heap_setCell_same _ _ _ _ _ _ H1.out, arr_set]
              congr 2; apply arr_ext; intro j hj
              by_cases e : j = i
              · subst e; rw [if_pos rfl, if_pos (by omega)]; rfl
              · rw [if_neg e]; by_cases e2 : j < i
                · rw [if_pos e2, if_pos (by omega)]
                · rw [if_neg e2, if_neg (by omega)]
          case measure => simp [intOf]; omega
    · have H1' : Aside0 (wo.heap[w.heap.size + 1]? = some (.cells (arr tab) 43 (0, 0))) := ⟨by rw [H1.out]; congr 2; apply arr_ext; intro j hj; rw [if_pos (by omega)]⟩
      clear H1
      go_wp2_with (first | ((with_reducible refine wpList_load_row rfl 43 _ rfl _ rfl _ _ _ _ H1'.out Try.underlying43 rfl ?_ ?_); (rw [arr_size]; exact info43)) | ((with_reducible refine wpList_store_row rfl 43 _ _ rfl _ (arr tab) rfl rfl _ _ H0.out ?_ ?_ ?_ ?_); (rw [arr_size]; exact info43); (rw [arr_size, arr_size]); (simp [arr, Value.oneCell'])))
      refine bodyPost_ret (v := .agg (arr tab)) (results_cell_row (p := 0) (ty := 43) Try.results28 _ _ w.heap.size _ _ _ _ rfl (setRow_heap _ _ _ _ _ _ H0.out) Try.underlying43 rfl (by rw [arr_size]; exact info43)) rfl ⟨rfl, ?_⟩
      exact HB.out.trans (below_setRow (Nat.le_refl _) _)

theorem xor8_range (a b : Int) : 0 ≤ Go.bits .xor .u8 a b ∧ Go.bits .xor .u8 a b < 256 := by
  unfold Go.bits
  simp only [IntKind.wrap_u8]
  omega
/-- One byte more. -/
def next (s c : Int) : Int := Go.bits .xor .u16 (s / 256) (tab (Go.bits .xor .u8 (s % 256) c).toNat)
def thenL (s : Int) (l : List Int) : Int := l.foldl next s
theorem rd_get (l : List Int) (i : Nat) (h : i < l.length) : rd l (i : Int) = l[i] := by simp [rd, h]

set_option maxRecDepth 100000 in
theorem then_calls (s : Int) (A0 : Option Addr) (c0 : Nat) (l0 : List Int) (w : World) (hr0 : Kd.C (Kd.int .u8) w A0 l0.length l0) (hl : l0.length < 9223372036854775807) :
    Calls Try.prog 14 #[.int .u16 s, .slice A0 l0.length c0] w fun e w' => e = .returned (.int .u16 (thenL s l0)) ∧ Below w.heap.size w w' := by
  have hz := zero43
  have HR0 := Aside0.mk hr0
  clear hr0
  go_enter Try.func14, Try.ntmps14
  go_wp2_with (first | (go_at_call 28; (with_reducible refine (table_calls _).mono ?_); rintro e w1 ⟨rfl, hb⟩; have HB := Aside0.mk hb; clear hb) | ((with_reducible refine wpList_store_row rfl 43 _ _ rfl w1.heap.size (arr tab) rfl rfl _ _ (heap_alloc_new _ _) ?_ ?_ ?_ ?_); (rw [arr_size]; exact info43); (rw [arr_size, arr_size]); (simp [arr, Value.oneCell'])))
  have HW : Aside0 (Below w.heap.size w ((w1.alloc (.cells (arr fun _ => 0) 43)).setRow w1.heap.size (arr tab))) := ⟨(HB.out.alloc HB.out.size _).trans (below_setRow HB.out.size _)⟩
  have HT : Aside0 (((w1.alloc (.cells (arr fun _ => 0) 43)).setRow w1.heap.size (arr tab)).heap[w1.heap.size]? = some (.cells (arr tab) 43 (0, 0))) := ⟨setRow_heap _ _ _ _ _ _ (heap_alloc_new _ _)⟩
  generalize (w1.alloc (.cells (arr fun _ => 0) 43)).setRow w1.heap.size (arr tab) = W at HW HT ⊢
  clear HB
  generalize w1.heap.size = g at HT ⊢
  clear w1 hz
  go_loop [0, 11] (fun v0 v11 => ∃ (i : Nat), v11 = .int .i64 i ∧ i ≤ l0.length ∧ v0 = .int .u16 (thenL s (l0.take i))) (fun _ v11 => l0.length - (intOf v11).toNat)
  case atStart => exact ⟨0, rfl, Nat.zero_le _, rfl⟩
  case round =>
    obtain ⟨i, rfl, hi, rfl⟩ := hrel
    by_cases hlt : i < l0.length
    · obtain ⟨ad, ead, hx⟩ := Kd.at_int HR0.out (i : Int) (by omega) (by omega)
      cases ead
      replace hx := (HW.out.cell (World.block_lt_of_cell? w _ hx)).trans hx
      simp only [Int.toNat_natCast] at hx
      have hn : thenL s (l0.take (i + 1)) = next (thenL s (l0.take i)) (rd l0 i) := by
        unfold thenL; rw [List.take_succ_eq_append_getElem hlt, rd_get l0 i hlt, List.foldl_append]; rfl
      generalize thenL s (l0.take i) = x at hn ⊢
      obtain ⟨hx0, hx1⟩ := xor8_range (x % 256) (rd l0 i)
      have ct := cell_of_row W g (Go.bits .xor .u8 (x % 256) (rd l0 i)).toNat _ _ _ HT.out
      rw [arr_get _ _ (by omega)] at ct
      have HN := Aside0.mk hn
      clear hn
      go_wp2
      go_round
      case rel => exact ⟨i + 1, by go_num, by omega, by rw [HN.out]; rfl⟩
      case measure => simp [intOf]; omega
    · obtain rfl : i = l0.length := by omega
      go_wp2
      go_ret
      exact ⟨by simp, HW.out⟩
end Go.Proofs.Ytbdfjaimgldokaa.HCrc
