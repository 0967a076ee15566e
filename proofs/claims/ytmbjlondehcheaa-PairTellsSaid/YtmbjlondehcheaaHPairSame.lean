/- A frame is the same as itself: busbarref07.Same and busbarref23.Same, called with one frame twice, answer true and turn nothing. -/
import Derived.Test.YtmbjlondehcheaaProg
import Derived.Below
import Derived.OneCell
import Derived.WalkKit
import Derived.KernelRfl
import Derived.RowKit3
import Derived.Deep.LoopGhost
import Derived.Deep.QuietTactic
import Derived.BigQuiet
import Derived.Deep.DeepCutAuto
import Derived.Deep.CutBlock
import Derived.Deep.RegionWith
import Derived.OwnWalk
import Derived.Laws.Tables
import Derived.Laws.AppendOwn
import Derived.Shelf.SlSortCmp.KitK
import Derived.Shelf.RegionOpenPlain
import Derived.Sort.WalkB2
import Derived.Deep.MidRow
import Derived.Great.Walk
import Derived.Test.YtmbjlondehcheaaWWords
import Derived.Test.YtmbjlondehcheaaWLast
import Derived.Laws.StructEq
import Derived.Maps.Own
import Derived.Maps.RangeRun
import Derived.Test.YtmbjlondehcheaaHPairState
import Derived.Test.YtmbjlondehcheaaHPairArg
import Derived.Test.YtmbjlondehcheaaPFWx3
set_option linter.unusedSimpArgs false
set_option linter.unusedVariables false
namespace Go.Proofs.Ytmbjlondehcheaa
open Go.Shelf Go.RowKit Go.Lib Go.Sort Go.Proofs.YtmbjlondehcheaaW.PrintWords Go.Proofs.YtmbjlondehcheaaW.PrintLast Go.Proofs.Ytmbjlondehcheaa.PFW

theorem words_l0 (l : List Int) (hl : l.length ≤ 9223372036854775807) : ∀ (n i : Nat), l.length - i ≤ n → busbarref01_Words.l0 (n + 1) l l (i : Int) = some true := by
  intro n
  induction n with
  | zero => intro i h1; unfold busbarref01_Words.l0; rw [if_neg (by omega)]
  | succ n ih =>
    intro i h1
    unfold busbarref01_Words.l0
    by_cases hi : (i : Int) < (l.length : Int)
    · rw [if_pos hi, if_pos (by omega), if_pos hi, if_pos rfl, Go.IntWalk.wrap64_in _ (by omega)]
      exact ih (i + 1) (by omega)
    · rw [if_neg hi]
theorem bools_l0 (l : List Bool) (hl : l.length ≤ 9223372036854775807) : ∀ (n i : Nat), l.length - i ≤ n → busbarref01_Bools.l0 (n + 1) l l (i : Int) = some true := by
  intro n
  induction n with
  | zero => intro i h1; unfold busbarref01_Bools.l0; rw [if_neg (by omega)]
  | succ n ih =>
    intro i h1
    unfold busbarref01_Bools.l0
    by_cases hi : (i : Int) < (l.length : Int)
    · rw [if_pos hi, if_pos (by omega), if_pos hi, if_neg (by simp), Go.IntWalk.wrap64_in _ (by omega)]
      exact ih (i + 1) (by omega)
    · rw [if_neg hi]

theorem words_same {A : Option Addr} {c : Nat} {l : List Int} {w : World} (h : (Kd.int .u16).C w A l.length l) (hc : l.length ≤ c) : Calls Try.prog 34 #[.slice A l.length c, .slice A l.length c] w fun e w' => e = .returned (.bool true) ∧ Kept w w' (fun _ => False) := by
  have e : busbarref01_Words.f (l.length + 1) l l = some true := by
    unfold busbarref01_Words.f; rw [if_pos rfl]; exact words_l0 l h.2.1 l.length 0 (by omega)
  exact (busbarref01_Words.calls (l.length + 1) A c l A c l true w h hc h hc e).mono fun e w' ⟨he, hd⟩ => ⟨he, Kept.ofBelow hd.below _⟩
theorem bools_same {A : Option Addr} {c : Nat} {l : List Bool} {w : World} (h : Kd.bool.C w A l.length l) (hc : l.length ≤ c) : Calls Try.prog 35 #[.slice A l.length c, .slice A l.length c] w fun e w' => e = .returned (.bool true) ∧ Kept w w' (fun _ => False) := by
  have e : busbarref01_Bools.f (l.length + 1) l l = some true := by
    unfold busbarref01_Bools.f; rw [if_pos rfl]; exact bools_l0 l h.2.1 l.length 0 (by omega)
  exact (busbarref01_Bools.calls (l.length + 1) A c l A c l true w h hc h hc e).mono fun e w' ⟨he, hd⟩ => ⟨he, Kept.ofBelow hd.below _⟩
theorem bytes_drawn {A : Option Addr} {c : Nat} {l : List Int} {w : World} (h : (Kd.int .u8).C w A l.length l) (hc : l.length ≤ c) : Calls Try.prog 36 #[.slice A l.length c, .slice A l.length c] w fun e w' => e = .returned (.bool true) ∧ Drawn0 w w' := by
  have e : busbarref01_Same.f l l = some true := by unfold busbarref01_Same.f; simp
  exact busbarref01_Same.calls A c l A c l true w h hc h hc e
theorem bytes_same {A : Option Addr} {c : Nat} {l : List Int} {w : World} (h : (Kd.int .u8).C w A l.length l) (hc : l.length ≤ c) : Calls Try.prog 36 #[.slice A l.length c, .slice A l.length c] w fun e w' => e = .returned (.bool true) ∧ Kept w w' (fun _ => False) :=
  (bytes_drawn h hc).mono fun e w' ⟨he, hd⟩ => ⟨he, Kept.ofBelow hd.below _⟩

/-- What stands between two rounds: both messages in variables of the function's own. -/
structure SmAt (w wr : World) (cs : List Value) : Prop where
  a : wr.heap[w.heap.size]? = some (.cells cs.toArray 42 (0, 0))
  b : wr.heap[w.heap.size + 1]? = some (.cells cs.toArray 42 (0, 0))
  kept : Kept w wr (fun _ => False)
theorem SmAt.keep {w wr w' : World} {cs : List Value} (h : SmAt w wr cs) (k : Kept wr w' (fun _ => False)) : SmAt w w' cs := ⟨k.heap h.a (fun h => h), k.heap h.b (fun h => h), h.kept.trans k (fun _ _ h => h) (fun _ _ h => h)⟩
theorem SmAt.ca {w wr : World} {cs : List Value} (h : SmAt w wr cs) (j : Nat) {v : Value} (hv : cs.toArray[j]? = some v) : wr.cell? ⟨w.heap.size, j, none⟩ = some v := by rw [cell_of_row wr _ j _ 42 (0, 0) h.a]; exact hv
theorem SmAt.cb {w wr : World} {cs : List Value} (h : SmAt w wr cs) (j : Nat) {v : Value} (hv : cs.toArray[j]? = some v) : wr.cell? ⟨w.heap.size + 1, j, none⟩ = some v := by rw [cell_of_row wr _ j _ 42 (0, 0) h.b]; exact hv

set_option maxHeartbeats 8000000 in
set_option maxRecDepth 1000000 in
theorem same_msg (x : S42) (cs : List Value) (w : World) (h : k42.K w x cs) : Calls Try.prog 26 #[.agg cs.toArray, .agg cs.toArray] w fun e w' => e = .returned (.bool true) ∧ Kept w w' (fun _ => False) := by
  have hlen := k42.K_len h
  obtain ⟨A12, c12, A13, c13, A14, c14, A15, c15, A21, c21, rfl, l12, g12', l13, g13', l14, g14', l15, g15', l21, g21'⟩ := k42_open h
  have g12 : Aside0 _ := ⟨g12'⟩
  have g13 : Aside0 _ := ⟨g13'⟩
  have g14 : Aside0 _ := ⟨g14'⟩
  have g15 : Aside0 _ := ⟨g15'⟩
  have g21 : Aside0 _ := ⟨g21'⟩
  clear g12' g13' g14' g15' g21' h
  obtain ⟨cs, hcs⟩ : ∃ cs : List Value, cs = [.int .u8 x.f0, .int .u8 x.f1, .int .u16 x.f2, .int .u16 x.f3, .int .u16 x.f4, .int .u16 x.f5, .int .u16 x.f6, .int .u16 x.f7, .int .u16 x.f8, .int .u16 x.f9, .int .u16 x.f10, .int .u16 x.f11, .slice A12 x.f12.length c12, .slice A13 x.f13.length c13, .slice A14 x.f14.length c14, .slice A15 x.f15.length c15, .int .u8 x.f16, .int .u8 x.f17, .int .u8 x.f18, .int .u8 x.f19, .int .u8 x.f20, .slice A21 x.f21.length c21] := ⟨_, rfl⟩
  rw [← hcs] at hlen ⊢
  have HCS : Aside0 _ := ⟨hcs⟩
  have SM0 : SmAt w ((w.alloc (.cells cs.toArray 42)).alloc (.cells cs.toArray 42)) cs := ⟨by rw [heap_alloc_old _ _ (by simp)]; exact heap_alloc_new _ _, by have := heap_alloc_new (w.alloc (.cells cs.toArray 42)) (.cells cs.toArray 42); simpa using this, (Kept.alloc w _ _).trans (Kept.alloc _ _ (fun _ => False)) (fun _ _ h => h) (fun _ _ h => h)⟩
  have SM : Aside0 _ := ⟨SM0⟩
  clear SM0 hcs
  go_enter Try.func26, Try.ntmps26
  go_upto_region 1 with fail
  generalize ((w.alloc (.cells cs.toArray 42)).alloc (.cells cs.toArray 42)) = w1 at *
  have a0 := SM.out.ca 0 (v := .int .u8 x.f0) (by rw [HCS.out]; rfl)
  have b0 := SM.out.cb 0 (v := .int .u8 x.f0) (by rw [HCS.out]; rfl)
  have a1 := SM.out.ca 1 (v := .int .u8 x.f1) (by rw [HCS.out]; rfl)
  have b1 := SM.out.cb 1 (v := .int .u8 x.f1) (by rw [HCS.out]; rfl)
  have a2 := SM.out.ca 2 (v := .int .u16 x.f2) (by rw [HCS.out]; rfl)
  have b2 := SM.out.cb 2 (v := .int .u16 x.f2) (by rw [HCS.out]; rfl)
  have a3 := SM.out.ca 3 (v := .int .u16 x.f3) (by rw [HCS.out]; rfl)
  have b3 := SM.out.cb 3 (v := .int .u16 x.f3) (by rw [HCS.out]; rfl)
  have a4 := SM.out.ca 4 (v := .int .u16 x.f4) (by rw [HCS.out]; rfl)
  have b4 := SM.out.cb 4 (v := .int .u16 x.f4) (by rw [HCS.out]; rfl)
  have a5 := SM.out.ca 5 (v := .int .u16 x.f5) (by rw [HCS.out]; rfl)
  have b5 := SM.out.cb 5 (v := .int .u16 x.f5) (by rw [HCS.out]; rfl)
  have a6 := SM.out.ca 6 (v := .int .u16 x.f6) (by rw [HCS.out]; rfl)
  have b6 := SM.out.cb 6 (v := .int .u16 x.f6) (by rw [HCS.out]; rfl)
  have a7 := SM.out.ca 7 (v := .int .u16 x.f7) (by rw [HCS.out]; rfl)
  have b7 := SM.out.cb 7 (v := .int .u16 x.f7) (by rw [HCS.out]; rfl)
  have a8 := SM.out.ca 8 (v := .int .u16 x.f8) (by rw [HCS.out]; rfl)
  have b8 := SM.out.cb 8 (v := .int .u16 x.f8) (by rw [HCS.out]; rfl)
  have a9 := SM.out.ca 9 (v := .int .u16 x.f9) (by rw [HCS.out]; rfl)
  have b9 := SM.out.cb 9 (v := .int .u16 x.f9) (by rw [HCS.out]; rfl)
  have a10 := SM.out.ca 10 (v := .int .u16 x.f10) (by rw [HCS.out]; rfl)
  have b10 := SM.out.cb 10 (v := .int .u16 x.f10) (by rw [HCS.out]; rfl)
  have a11 := SM.out.ca 11 (v := .int .u16 x.f11) (by rw [HCS.out]; rfl)
  have b11 := SM.out.cb 11 (v := .int .u16 x.f11) (by rw [HCS.out]; rfl)
  go_upto_region 3 with fail
  clear a0 b0 a1 b1 a2 b2 a3 b3 a4 b4 a5 b5 a6 b6 a7 b7 a8 b8 a9 b9 a10 b10 a11 b11
  have a16 := SM.out.ca 16 (v := .int .u8 x.f16) (by rw [HCS.out]; rfl)
  have b16 := SM.out.cb 16 (v := .int .u8 x.f16) (by rw [HCS.out]; rfl)
  have a17 := SM.out.ca 17 (v := .int .u8 x.f17) (by rw [HCS.out]; rfl)
  have b17 := SM.out.cb 17 (v := .int .u8 x.f17) (by rw [HCS.out]; rfl)
  have a18 := SM.out.ca 18 (v := .int .u8 x.f18) (by rw [HCS.out]; rfl)
  have b18 := SM.out.cb 18 (v := .int .u8 x.f18) (by rw [HCS.out]; rfl)
  have a19 := SM.out.ca 19 (v := .int .u8 x.f19) (by rw [HCS.out]; rfl)
  have b19 := SM.out.cb 19 (v := .int .u8 x.f19) (by rw [HCS.out]; rfl)
  have a20 := SM.out.ca 20 (v := .int .u8 x.f20) (by rw [HCS.out]; rfl)
  have b20 := SM.out.cb 20 (v := .int .u8 x.f20) (by rw [HCS.out]; rfl)
  go_upto_region 5 with fail
  clear a16 b16 a17 b17 a18 b18 a19 b19 a20 b20
  have a12 := SM.out.ca 12 (v := .slice A12 x.f12.length c12) (by rw [HCS.out]; rfl)
  have b12 := SM.out.cb 12 (v := .slice A12 x.f12.length c12) (by rw [HCS.out]; rfl)
  go_upto_region 6 with (go_at_call 34; with_reducible refine (words_same (Kd.C_below g12.out SM.out.kept.toBelow) l12).mono ?_; rintro e w2 ⟨rfl, k2⟩; have SM2 : Aside0 _ := ⟨SM.out.keep k2⟩; clear k2 SM)
  clear a12 b12
  have a13 := SM2.out.ca 13 (v := .slice A13 x.f13.length c13) (by rw [HCS.out]; rfl)
  have b13 := SM2.out.cb 13 (v := .slice A13 x.f13.length c13) (by rw [HCS.out]; rfl)
  go_upto_region 7 with (go_at_call 35; with_reducible refine (bools_same (Kd.C_below g13.out SM2.out.kept.toBelow) l13).mono ?_; rintro e w3 ⟨rfl, k2⟩; have SM3 : Aside0 _ := ⟨SM2.out.keep k2⟩; clear k2 SM2)
  clear a13 b13
  have a14 := SM3.out.ca 14 (v := .slice A14 x.f14.length c14) (by rw [HCS.out]; rfl)
  have b14 := SM3.out.cb 14 (v := .slice A14 x.f14.length c14) (by rw [HCS.out]; rfl)
  go_upto_region 8 with (go_at_call 36; with_reducible refine (bytes_same (Kd.C_below g14.out SM3.out.kept.toBelow) l14).mono ?_; rintro e w4 ⟨rfl, k2⟩; have SM4 : Aside0 _ := ⟨SM3.out.keep k2⟩; clear k2 SM3)
  clear a14 b14
  have a15 := SM4.out.ca 15 (v := .slice A15 x.f15.length c15) (by rw [HCS.out]; rfl)
  have b15 := SM4.out.cb 15 (v := .slice A15 x.f15.length c15) (by rw [HCS.out]; rfl)
  have a21 := SM4.out.ca 21 (v := .slice A21 x.f21.length c21) (by rw [HCS.out]; rfl)
  have b21 := SM4.out.cb 21 (v := .slice A21 x.f21.length c21) (by rw [HCS.out]; rfl)
  go_wp2
  clear a15 b15 a21 b21
  go_loopg [8] x.f15.length (fun kx s8 wr => ∃ i : Nat, s8 = .int .i64 i ∧ i ≤ x.f15.length ∧ x.f15.length - i ≤ kx ∧ Aside0 (SmAt w wr cs))
  case atStart => exact ⟨0, rfl, Nat.zero_le _, Nat.le_refl _, SM4⟩
  case round =>
    clear SM4
    obtain ⟨i, rfl, hi, hkx, SM5⟩ := hrel
    have hbig : x.f15.length ≤ 9223372036854775807 := g15.out.2.1
    have a15 := SM5.out.ca 15 (v := .slice A15 x.f15.length c15) (by rw [HCS.out]; rfl)
    have b15 := SM5.out.cb 15 (v := .slice A15 x.f15.length c15) (by rw [HCS.out]; rfl)
    by_cases hlt : i < x.f15.length
    · have hiz : (i : Int) < (x.f15.length : Int) := by omega
      have hC := Kd.C_below g15.out SM5.out.kept.toBelow
      obtain ⟨ad, A3, c3, rfl, r0, r1, r2, r3, l3, hC3⟩ := at_T82 hC (i : Int) (by omega) hiz
      rw [Int.toNat_natCast] at r0 r1 r2 r3
      obtain ⟨y, hy⟩ : ∃ y, y = rd_T82 x.f15 (i : Int) := ⟨_, rfl⟩
      rw [← hy] at r0 r1 r2 r3 l3 hC3
      clear hC hy
      go_upto_region 14 with fail
      have q1 : Kept wr (wr.alloc (.cells #[.int .u16 y.f0, .int .u16 y.f1, .int .u16 y.f2, .slice A3 y.f3.length c3] 82)) (fun _ => False) := Kept.alloc wr _ _
      have SM6 : Aside0 (SmAt w (wr.alloc (.cells #[.int .u16 y.f0, .int .u16 y.f1, .int .u16 y.f2, .slice A3 y.f3.length c3] 82)) cs) := ⟨SM5.out.keep q1⟩
      have R1 : (wr.alloc (.cells #[.int .u16 y.f0, .int .u16 y.f1, .int .u16 y.f2, .slice A3 y.f3.length c3] 82)).heap[wr.heap.size]? = some (.cells #[.int .u16 y.f0, .int .u16 y.f1, .int .u16 y.f2, .slice A3 y.f3.length c3] 82 (0, 0)) := heap_alloc_new _ _
      replace r0 := (q1.toBelow.cell (World.block_lt_of_cell? _ _ r0)).trans r0
      replace r1 := (q1.toBelow.cell (World.block_lt_of_cell? _ _ r1)).trans r1
      replace r2 := (q1.toBelow.cell (World.block_lt_of_cell? _ _ r2)).trans r2
      replace r3 := (q1.toBelow.cell (World.block_lt_of_cell? _ _ r3)).trans r3
      replace hC3 := Kd.C_below hC3 q1.toBelow
      have ZR : Aside0 (wr.heap.size < (wr.alloc (.cells #[.int .u16 y.f0, .int .u16 y.f1, .int .u16 y.f2, .slice A3 y.f3.length c3] 82)).heap.size) := ⟨by simp⟩
      clear a15 b15 q1
      generalize wr.alloc (.cells #[.int .u16 y.f0, .int .u16 y.f1, .int .u16 y.f2, .slice A3 y.f3.length c3] 82) = W1 at *
      have a15 := SM6.out.ca 15 (v := .slice (some ad) x.f15.length c15) (by rw [HCS.out]; rfl)
      have b15 := SM6.out.cb 15 (v := .slice (some ad) x.f15.length c15) (by rw [HCS.out]; rfl)
      go_upto_region 15 with fail
      have q1 : Kept W1 (W1.alloc (.cells #[.int .u16 y.f0, .int .u16 y.f1, .int .u16 y.f2, .slice A3 y.f3.length c3] 82)) (fun _ => False) := Kept.alloc W1 _ _
      have SM7 : Aside0 (SmAt w (W1.alloc (.cells #[.int .u16 y.f0, .int .u16 y.f1, .int .u16 y.f2, .slice A3 y.f3.length c3] 82)) cs) := ⟨SM6.out.keep q1⟩
      have R2 : (W1.alloc (.cells #[.int .u16 y.f0, .int .u16 y.f1, .int .u16 y.f2, .slice A3 y.f3.length c3] 82)).heap[W1.heap.size]? = some (.cells #[.int .u16 y.f0, .int .u16 y.f1, .int .u16 y.f2, .slice A3 y.f3.length c3] 82 (0, 0)) := heap_alloc_new _ _
      replace R1 := q1.heap R1 (fun h => h)
      replace hC3 := Kd.C_below hC3 q1.toBelow
      clear r0 r1 r2 r3 a15 b15 q1 SM6 SM5
      generalize W1.alloc (.cells #[.int .u16 y.f0, .int .u16 y.f1, .int .u16 y.f2, .slice A3 y.f3.length c3] 82) = W2 at *
      have s0 : W2.cell? ⟨wr.heap.size, 0, none⟩ = some (.int .u16 y.f0) := by rw [cell_of_row W2 _ 0 _ 82 (0, 0) R1]; rfl
      have s1 : W2.cell? ⟨wr.heap.size, 1, none⟩ = some (.int .u16 y.f1) := by rw [cell_of_row W2 _ 1 _ 82 (0, 0) R1]; rfl
      have s2 : W2.cell? ⟨wr.heap.size, 2, none⟩ = some (.int .u16 y.f2) := by rw [cell_of_row W2 _ 2 _ 82 (0, 0) R1]; rfl
      have s3 : W2.cell? ⟨wr.heap.size, 3, none⟩ = some (.slice A3 y.f3.length c3) := by rw [cell_of_row W2 _ 3 _ 82 (0, 0) R1]; rfl
      have t0 : W2.cell? ⟨W1.heap.size, 0, none⟩ = some (.int .u16 y.f0) := by rw [cell_of_row W2 _ 0 _ 82 (0, 0) R2]; rfl
      have t1 : W2.cell? ⟨W1.heap.size, 1, none⟩ = some (.int .u16 y.f1) := by rw [cell_of_row W2 _ 1 _ 82 (0, 0) R2]; rfl
      have t2 : W2.cell? ⟨W1.heap.size, 2, none⟩ = some (.int .u16 y.f2) := by rw [cell_of_row W2 _ 2 _ 82 (0, 0) R2]; rfl
      have t3 : W2.cell? ⟨W1.heap.size, 3, none⟩ = some (.slice A3 y.f3.length c3) := by rw [cell_of_row W2 _ 3 _ 82 (0, 0) R2]; rfl
      go_upto_region 16 with (go_at_call 34; with_reducible refine (words_same hC3 l3).mono ?_; rintro e w8 ⟨rfl, k2⟩; have SM8 : Aside0 _ := ⟨SM7.out.keep k2⟩; replace R1 := k2.heap R1 (fun h => h); replace R2 := k2.heap R2 (fun h => h); clear k2 SM7 hC3)
      clear s0 s1 s2 s3 t0 t1 t2 t3
      have s0 : w8.cell? ⟨wr.heap.size, 0, none⟩ = some (.int .u16 y.f0) := by rw [cell_of_row w8 _ 0 _ 82 (0, 0) R1]; rfl
      have s1 : w8.cell? ⟨wr.heap.size, 1, none⟩ = some (.int .u16 y.f1) := by rw [cell_of_row w8 _ 1 _ 82 (0, 0) R1]; rfl
      have s2 : w8.cell? ⟨wr.heap.size, 2, none⟩ = some (.int .u16 y.f2) := by rw [cell_of_row w8 _ 2 _ 82 (0, 0) R1]; rfl
      have s3 : w8.cell? ⟨wr.heap.size, 3, none⟩ = some (.slice A3 y.f3.length c3) := by rw [cell_of_row w8 _ 3 _ 82 (0, 0) R1]; rfl
      have t0 : w8.cell? ⟨W1.heap.size, 0, none⟩ = some (.int .u16 y.f0) := by rw [cell_of_row w8 _ 0 _ 82 (0, 0) R2]; rfl
      have t1 : w8.cell? ⟨W1.heap.size, 1, none⟩ = some (.int .u16 y.f1) := by rw [cell_of_row w8 _ 1 _ 82 (0, 0) R2]; rfl
      have t2 : w8.cell? ⟨W1.heap.size, 2, none⟩ = some (.int .u16 y.f2) := by rw [cell_of_row w8 _ 2 _ 82 (0, 0) R2]; rfl
      have t3 : w8.cell? ⟨W1.heap.size, 3, none⟩ = some (.slice A3 y.f3.length c3) := by rw [cell_of_row w8 _ 3 _ 82 (0, 0) R2]; rfl
      go_wp2
      go_roundg (x.f15.length - (i + 1))
      case measure => omega
      case rel => exact ⟨i + 1, by go_num, by omega, Nat.le_refl _, SM8⟩
    · have hge : ¬ ((i : Int) < (x.f15.length : Int)) := by omega
      have SM6 := SM5
      go_wp2
      clear a15 b15
      clear hbig SM5 hge hlt hkx hi
      have a21 := SM6.out.ca 21 (v := .slice A21 x.f21.length c21) (by rw [HCS.out]; rfl)
      have b21 := SM6.out.cb 21 (v := .slice A21 x.f21.length c21) (by rw [HCS.out]; rfl)
      go_wp2
      clear a21 b21
      go_loopg [12] x.f21.length (fun kx s12 wr => ∃ i : Nat, s12 = .int .i64 i ∧ i ≤ x.f21.length ∧ x.f21.length - i ≤ kx ∧ Aside0 (SmAt w wr cs))
      case atStart => exact ⟨0, rfl, Nat.zero_le _, Nat.le_refl _, SM6⟩
      case round =>
        clear SM6
        obtain ⟨i, rfl, hi, hkx, SM7⟩ := hrel
        have hbig : x.f21.length ≤ 9223372036854775807 := g21.out.2.1
        have a21 := SM7.out.ca 21 (v := .slice A21 x.f21.length c21) (by rw [HCS.out]; rfl)
        have b21 := SM7.out.cb 21 (v := .slice A21 x.f21.length c21) (by rw [HCS.out]; rfl)
        by_cases hlt : i < x.f21.length
        · have hiz : (i : Int) < (x.f21.length : Int) := by omega
          have hC := Kd.C_below g21.out SM7.out.kept.toBelow
          obtain ⟨ad, A1, c1, rfl, r0, r1, l1, hC1⟩ := at_T84 hC (i : Int) (by omega) hiz
          rw [Int.toNat_natCast] at r0 r1
          obtain ⟨y, hy⟩ : ∃ y, y = rd_T84 x.f21 (i : Int) := ⟨_, rfl⟩
          rw [← hy] at r0 r1 l1 hC1
          have HC1 : Aside0 _ := ⟨hC1⟩
          clear hC hy hC1
          go_wp2
          go_quiet (first | (go_at_call 36; refine Calls.quiet_of ((bytes_drawn (Kd.C_drewN HC1.out _) l1).mono fun e w' ⟨he, hd⟩ => ⟨he, hd.out⟩)))
          go_wp2
          go_quiet (fail)
          go_wp2
          trace_state
          go_roundg (x.f21.length - (i + 1))
          case measure => omega
          case rel => exact ⟨i + 1, by go_num, by omega, Nat.le_refl _, ⟨SM7.out.keep (by repeat (first | exact Kept.refl _ _ | exact Kept.drewN _ _ _ | exact Kept.drew _ _))⟩⟩
        · have hge : ¬ ((i : Int) < (x.f21.length : Int)) := by omega
          have SM8 := SM7
          clear SM7
          go_wp2
          go_ret
          exact ⟨rfl, SM8.out.kept⟩

/-- Two heads, compared. -/
theorem eqA35 (d : Nat) (w : World) (x0 y0 x1 y1 : Int) :
    (Op.equalIn (d + 2) 35 (.agg #[.int .u8 x0, .int .u16 x1]) (.agg #[.int .u8 y0, .int .u16 y1])).run Try.prog w = .ok (x0 == y0 && (x1 == y1)) w := by
  refine eqA_of Try.underlying35 (by kernel_rfl) ?_
  refine eqf_cons (by rfl) (by go_simp; rfl) (by go_simp; rfl) (by go_simp) ?_
  exact eqf_last (by rfl) (by go_simp; rfl) (by go_simp; rfl) (by go_simp)

set_option maxHeartbeats 4000000 in
set_option maxRecDepth 1000000 in
theorem same_fr (f : Fr) (x : S44) (w : World) (h : k44.K w x f.cs) : Calls Try.prog 17 #[.agg f.cs.toArray, .agg f.cs.toArray] w fun e w' => e = .returned (.bool true) ∧ Kept w w' (fun _ => False) := by
  obtain ⟨hd, ms, hcs, hhd, hM⟩ := msg_of h
  have heq := eqA35
  have hf : hd = [.int .u8 f.u, .int .u16 f.t] := by
    have e0 : f.cs[0]? = some (.int .u8 f.u) := rfl
    have e1 : f.cs[1]? = some (.int .u16 f.t) := rfl
    rw [hcs, hhd] at e0 e1
    simp at e0 e1
    rw [hhd, e0, e1]
  have k1 : Kept w ((w.alloc (.cells f.cs.toArray 44)).alloc (.cells f.cs.toArray 44)) (fun _ => False) := (Kept.alloc w _ _).trans (Kept.alloc _ _ (fun _ => False)) (fun _ _ h => h) (fun _ _ h => h)
  have B1 : ((w.alloc (.cells f.cs.toArray 44)).alloc (.cells f.cs.toArray 44)).heap[w.heap.size]? = some (.cells f.cs.toArray 44 (0, 0)) := by rw [heap_alloc_old _ _ (by simp)]; exact heap_alloc_new _ _
  have B2 : ((w.alloc (.cells f.cs.toArray 44)).alloc (.cells f.cs.toArray 44)).heap[w.heap.size + 1]? = some (.cells f.cs.toArray 44 (0, 0)) := by
    have := heap_alloc_new (w.alloc (.cells f.cs.toArray 44)) (.cells f.cs.toArray 44)
    simpa using this
  have HC0 : Aside0 _ := ⟨hcs⟩
  have HD0 : Aside0 _ := ⟨hhd⟩
  have HF0 : Aside0 _ := ⟨hf⟩
  clear hcs hhd hf
  go_enter Try.func17, Try.ntmps17
  go_upto_region 1 with fail
  generalize ((w.alloc (.cells f.cs.toArray 44)).alloc (.cells f.cs.toArray 44)) = w1 at *
  have ra : ∀ j u, f.cs[j]? = some u → w1.cell? ⟨w.heap.size, j, none⟩ = some u := fun j u hu => by rw [cell_of_row w1 _ j _ 44 (0, 0) B1]; simpa using hu
  have rb : ∀ j u, f.cs[j]? = some u → w1.cell? ⟨w.heap.size + 1, j, none⟩ = some u := fun j u hu => by rw [cell_of_row w1 _ j _ 44 (0, 0) B2]; simpa using hu
  have a0 := ra 0 (.int .u8 f.u) rfl
  have a1 := ra 1 (.int .u16 f.t) rfl
  have b0 := rb 0 (.int .u8 f.u) rfl
  have b1 := rb 1 (.int .u16 f.t) rfl
  have am : w1.rangeAt w.heap.size 2 ms := fun j u hu => by
    have := ra (2 + j) u (by rw [HC0.out, HD0.out, List.getElem?_append_right (by simp)]; simpa using hu)
    exact this
  have bm : w1.rangeAt (w.heap.size + 1) 2 ms := fun j u hu => by
    have := rb (2 + j) u (by rw [HC0.out, HD0.out, List.getElem?_append_right (by simp)]; simpa using hu)
    exact this
  have szl42 : (Try.prog.info? 42).map (·.size) = some ms.length := by rw [k42.K_len hM]; kernel_rfl
  have hS := same_msg x.f1 ms w1 (k42.K_below k1.toBelow hM)
  clear ra rb hM h B1 B2 HC0 HD0 HF0
  go_wp2_with (first
    | (refine gate_guard (by rfl) ?_; dsimp only; refine wpList_load_mid rfl 42 (.tmp 11) rfl w.heap.size 2 rfl ms _ am Try.underlying42 rfl szl42 ?_)
    | (refine gate_guard (by rfl) ?_; dsimp only; refine wpList_load_mid rfl 42 (.tmp 13) rfl (w.heap.size + 1) 2 rfl ms _ bm Try.underlying42 rfl szl42 ?_)
    | (go_at_call 26; with_reducible refine hS.mono ?_; rintro e w2 ⟨rfl, k2⟩; clear hS))
  go_ret
  exact ⟨rfl, k1.trans k2 (fun _ _ h => h) (fun _ _ h => h)⟩

end Go.Proofs.Ytmbjlondehcheaa
