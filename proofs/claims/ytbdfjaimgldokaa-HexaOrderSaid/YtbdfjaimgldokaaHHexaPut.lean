/- hexa.Put answers each byte's two digits, the higher one first; for every readable list of bytes, in any memory. -/
import Derived.Test.YtbdfjaimgldokaaHHexa
namespace Go.Proofs.Ytbdfjaimgldokaa.HHexa
open Go.RowKit Go.Proofs.YtbdfjaimgldokaaW.PrintWords Go.Proofs.YtbdfjaimgldokaaW.PrintLast

/-! ### hexa.Put -/
def hexL (l : List Int) : List Int := l.flatMap fun c => [sign (c / 16).toNat, sign (c % 16).toNat]
def cellsOf (l : List Int) : List Value := l.map (Value.int .u8)
theorem hexL_append (a b : List Int) : hexL (a ++ b) = hexL a ++ hexL b := by simp [hexL]
theorem hexL_length (l : List Int) : (hexL l).length = 2 * l.length := by
  induction l with
  | nil => rfl
  | cons a l ih => simp only [hexL, List.flatMap_cons, List.length_append, List.length_cons, List.length_nil]; have : (List.flatMap (fun c => [sign (c / 16).toNat, sign (c % 16).toNat]) l).length = 2 * l.length := ih; omega
theorem sign_range (n : Nat) (h : n < 16) : 48 ≤ sign n ∧ sign n < 71 := by unfold sign; split <;> omega
theorem hexL_range (l : List Int) (h : ∀ x ∈ l, 0 ≤ x ∧ x < 256) : ∀ y ∈ hexL l, 48 ≤ y ∧ y < 71 := by
  intro y hy
  simp only [hexL, List.mem_flatMap] at hy
  obtain ⟨c, hc, hy⟩ := hy
  have := h c hc
  have h1 := sign_range (c / 16).toNat (by omega)
  have h2 := sign_range (c % 16).toNat (by omega)
  simp at hy
  rcases hy with rfl | rfl <;> assumption
theorem hexL_take (l : List Int) (i : Nat) (h : i < l.length) : hexL (l.take (i + 1)) = hexL (l.take i) ++ [sign (l[i] / 16).toNat, sign (l[i] % 16).toNat] := by
  rw [List.take_succ_eq_append_getElem h, hexL_append]; rfl
theorem cells_bytes (l : List Int) (h : ∀ y ∈ l, 0 ≤ y ∧ y < 256) : cellsOf l = Lib.byteCells (l.map fun n => UInt8.ofNat n.toNat) := by
  unfold cellsOf Lib.byteCells
  rw [List.map_map]
  apply List.map_congr_left
  intro y hy
  have := h y hy
  simp
  omega
theorem rd_get (l : List Int) (i : Nat) (h : i < l.length) : rd l (i : Int) = l[i] := by simp [rd, h]

set_option maxHeartbeats 1000000 in
set_option maxRecDepth 100000 in
theorem put_calls (A0 : Option Addr) (c0 : Nat) (l0 : List Int) (w : World) (hr0 : Kd.C (Kd.int .u8) w A0 l0.length l0) (hw : ∀ x ∈ l0, 0 ≤ x ∧ x < 256) (hl : l0.length < 1000000) :
    Calls Try.prog 26 #[.slice A0 l0.length c0] w fun e w' => e = .returned (.string (strOfNums (hexL l0))) ∧ Below w.heap.size w w' := by
  have hz := zero46
  have HR0 := Aside0.mk hr0
  clear hr0
  go_enter Try.func26, Try.ntmps26
  go_wp2_with (first | (go_at_call 29; (with_reducible refine (digits_calls _).mono ?_); rintro e w1 ⟨rfl, hb⟩; have HB := Aside0.mk hb; clear hb) | ((with_reducible refine wpList_store_row rfl 46 _ _ rfl w1.heap.size dig rfl rfl _ _ (heap_alloc_new _ _) ?_ ?_ ?_ ?_); (rw [dig_size]; exact info46); (rw [dig_size]; rfl); (simp [dig, Value.oneCell'])))
  have hlt1 : w.heap.size + 1 ≤ w1.heap.size := by have := HB.out.size; simpa using this
  have HI : Aside0 (Lib.IsBuilder 50 5 w.heap.size w.heap.size (cellsOf (hexL (l0.take 0))) ((w1.alloc (.cells #[.int .u8 0, .int .u8 0, .int .u8 0, .int .u8 0, .int .u8 0, .int .u8 0, .int .u8 0, .int .u8 0, .int .u8 0, .int .u8 0, .int .u8 0, .int .u8 0, .int .u8 0, .int .u8 0, .int .u8 0, .int .u8 0] 46)).setRow w1.heap.size dig)) := ⟨Or.inl ⟨Nat.le_refl _, .slice none 0 0, by
    rw [setRow_other _ _ _ _ (by omega), Lib.alloc_old _ _ _ (by omega), HB.out.block _ (by simp)]
    exact heap_alloc_new _ _, World.ownsRow_nil _ _ _ _, by simp [Value.ownBlock]⟩⟩
  have HT : Aside0 (((w1.alloc (.cells #[.int .u8 0, .int .u8 0, .int .u8 0, .int .u8 0, .int .u8 0, .int .u8 0, .int .u8 0, .int .u8 0, .int .u8 0, .int .u8 0, .int .u8 0, .int .u8 0, .int .u8 0, .int .u8 0, .int .u8 0, .int .u8 0] 46)).setRow w1.heap.size dig).heap[w1.heap.size]? = some (.cells dig 46 (0, 0))) := ⟨setRow_heap _ _ _ _ _ _ (heap_alloc_new _ _)⟩
  have HW : Aside0 (Below w.heap.size w ((w1.alloc (.cells #[.int .u8 0, .int .u8 0, .int .u8 0, .int .u8 0, .int .u8 0, .int .u8 0, .int .u8 0, .int .u8 0, .int .u8 0, .int .u8 0, .int .u8 0, .int .u8 0, .int .u8 0, .int .u8 0, .int .u8 0, .int .u8 0] 46)).setRow w1.heap.size dig)) := ⟨(below_step ((Below.refl _ _).alloc (Nat.le_refl _) _) HB.out |>.alloc (by omega) _).trans (below_setRow (by omega) _)⟩
  generalize (w1.alloc (.cells #[.int .u8 0, .int .u8 0, .int .u8 0, .int .u8 0, .int .u8 0, .int .u8 0, .int .u8 0, .int .u8 0, .int .u8 0, .int .u8 0, .int .u8 0, .int .u8 0, .int .u8 0, .int .u8 0, .int .u8 0, .int .u8 0] 46)).setRow w1.heap.size dig = W at HI HT HW ⊢
  clear HB hz
  generalize w1.heap.size = g at HT hlt1 ⊢
  clear w1
  have HG := Aside0.mk hlt1
  clear hlt1
  go_loopw [10] (fun v10 wr => ∃ (i : Nat), v10 = .int .i64 i ∧ i ≤ l0.length ∧ Aside0 (Lib.IsBuilder 50 5 w.heap.size w.heap.size (cellsOf (hexL (l0.take i))) wr) ∧ Aside0 (wr.heap[g]? = some (.cells dig 46 (0, 0))) ∧ Aside0 (Below w.heap.size w wr)) (fun v10 _ => l0.length - (intOf v10).toNat)
  case atStart => exact ⟨0, rfl, Nat.zero_le _, HI, HT, HW⟩
  case round =>
    clear HI HT HW
    obtain ⟨i, rfl, hi, HI, HT, HW⟩ := hrel
    by_cases hlt : i < l0.length
    · obtain ⟨ad, ead, hx⟩ := Kd.at_int HR0.out (i : Int) (by omega) (by omega)
      cases ead
      replace hx := (HW.out.cell (World.block_lt_of_cell? w _ hx)).trans hx
      simp only [Int.toNat_natCast] at hx
      obtain ⟨hb0, hb1⟩ := hw l0[i] (List.getElem_mem hlt)
      have HX := Aside0.mk (hexL_take l0 i hlt)
      have HL : Aside0 ((cellsOf (hexL (l0.take i))).length + 2 ≤ 140737488355328) := ⟨by simp [cellsOf, hexL_length]; omega⟩
      rw [rd_get l0 i hlt] at hx
      generalize l0[i] = c at hx hb0 hb1 HX
      have ct := cell_of_row wr g (c / 16).toNat _ _ _ HT.out
      rw [dig_get _ (by omega)] at ct
      go_wp2_with (first
        | (go_at_call 30; (with_reducible refine (writeByte w.heap.size w.heap.size (cellsOf (hexL (l0.take i))) (sign (c / 16).toNat) wr HI.out ?s1 ?s2).mono ?_); (case s1 => (have h9 := HL.out; omega)); (case s2 => exact HW.out.size); rintro e w3 ⟨rfl, h3, hb3, ho3⟩; have HI3 := Aside0.mk (show Lib.IsBuilder 50 5 _ _ _ _ from Or.inr h3); have HB3 := Aside0.mk hb3; have HT3 := Aside0.mk (ho3 g _ _ _ HT.out (by decide) (by have := HG.out; omega)); clear h3 hb3 ho3; have ct3 := cell_of_row w3 g (c % 16).toNat _ _ _ HT3.out; rw [dig_get _ (by omega)] at ct3)
        | (go_at_call 30; (with_reducible refine (writeByte w.heap.size w.heap.size (cellsOf (hexL (l0.take i)) ++ [.int .u8 (sign (c / 16).toNat)]) (sign (c % 16).toNat) w3 HI3.out ?s1 ?s2).mono ?_); (case s1 => (have h9 := HL.out; rw [List.length_append, List.length_singleton]; omega)); (case s2 => exact Nat.le_trans HW.out.size HB3.out.size); rintro e w4 ⟨rfl, h4, hb4, ho4⟩; have HI4 := Aside0.mk h4; have HB4 := Aside0.mk hb4; have HT4 := Aside0.mk (ho4 g _ _ _ HT3.out (by decide) (by have := HG.out; omega)); clear h4 hb4 ho4))
      go_wp2
      go_roundw
      case rel =>
        refine ⟨i + 1, by go_num, by omega, ⟨Or.inr ?_⟩, HT4, ⟨(HW.out.trans HB3.out).trans HB4.out⟩⟩
        have e : cellsOf (hexL (l0.take (i + 1))) = cellsOf (hexL (l0.take i)) ++ [.int .u8 (sign (c / 16).toNat)] ++ [.int .u8 (sign (c % 16).toNat)] := by rw [HX.out]; simp [cellsOf]
        rw [e]
        exact HI4.out
      case measure => simp [intOf]; omega
    · obtain rfl : i = l0.length := by omega
      have hr := hexL_range l0 hw
      have hs : Aside0 (cellsOf (hexL (l0.take l0.length)) = Lib.byteCells ((hexL l0).map fun n => UInt8.ofNat n.toNat)) := ⟨by rw [List.take_length, cells_bytes _ (fun y hy => by have := hr y hy; omega)]⟩
      have HI' := Aside0.mk (hs.out ▸ HI.out)
      clear HI hs
      go_wp2_with (go_at_call 31; (with_reducible refine (string_any w.heap.size w.heap.size ((hexL l0).map fun n => UInt8.ofNat n.toNat) wr HI'.out ?s1).mono ?_); (case s1 => exact HW.out.size); rintro e w5 ⟨rfl, hb5⟩; have HB5 := Aside0.mk hb5; clear hb5)
      go_ret
      exact ⟨rfl, HW.out.trans HB5.out⟩
end Go.Proofs.Ytbdfjaimgldokaa.HHexa
