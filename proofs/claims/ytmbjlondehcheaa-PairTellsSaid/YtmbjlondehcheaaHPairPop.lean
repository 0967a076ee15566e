/- The heap of open requests: container/heap down and Pop: the oldest is handed back, a heap of the others is left. -/
import Derived.Test.YtmbjlondehcheaaProg
import Derived.Below
import Derived.OneCell
import Derived.WalkKit
import Derived.KernelRfl
import Derived.RowKit3
import Derived.Deep.LoopGhost
import Derived.Deep.QuietTactic
import Derived.BigQuiet
import Derived.Deep.DeepCutAuto
import Derived.Deep.CutBlock
import Derived.Deep.RegionWith
import Derived.OwnWalk
import Derived.Laws.Tables
import Derived.Laws.AppendOwn
import Derived.Shelf.SlSortCmp.KitK
import Derived.Shelf.RegionOpenPlain
import Derived.Sort.WalkB2
import Derived.Deep.MidRow
import Derived.Great.Walk
import Derived.Test.YtmbjlondehcheaaWWords
import Derived.Test.YtmbjlondehcheaaWLast
import Derived.Test.YtmbjlondehcheaaHPairPush
set_option linter.unusedSimpArgs false
set_option linter.unusedVariables false
namespace Go.Proofs.Ytmbjlondehcheaa
open Go.Shelf Go.RowKit Go.Lib Go.Sort Go.Proofs.YtmbjlondehcheaaW.PrintWords Go.Proofs.YtmbjlondehcheaaW.PrintLast

theorem swk_next {w0 w W : World} {g : Nat} {d d1 : Array Ent} (h : SWK Ent.cs 25 w0 g 0 d w) (h1 : SWK Ent.cs 25 w g 0 d1 W) (hg : g < w0.heap.size) (hs : d1.size = d.size) : SWK Ent.cs 25 w0 g 0 d1 W := by
  obtain ⟨n, os, rfl⟩ := h1
  exact h.on hg n d1 os hs

/-- A function hands back true or false. -/
structure RetB (r : Ending) : Prop where
  out : ∃ b, r = .returned (.bool b)

set_option maxHeartbeats 1000000 in
set_option maxRecDepth 1000000 in
theorem down_calls (w0 : World) (c g cap n N : Nat) (d : Array Ent) (w : World) (hc : w0.heap[c]? = some (.cells #[.slice (some ⟨g, 0, none⟩) N cap] 74 (0, 0))) (hgc : c ≠ g) (d0 : Array Ent) (H0 : HoldsK Ent.cs 25 w0 g 0 d0) (hd0 : d0.size = N) (hd : d.size = N) (hg : g < w0.heap.size)
    (S : SWK Ent.cs 25 w0 g 0 d w) (hn : n ≤ N) (hsz : N < 1000000) :
    Calls Try.prog 38 #[.iface 73 (.pointer (some ⟨c, 0, none⟩)), .int .i64 0, .int .i64 n] w fun r w' => RetB r ∧ Aside (SWK Ent.cs 25 w0 g 0 (siftDown yg n 0 0 d) w') := by
  have eL : ∀ args w, (callFunc 72 args).run Try.prog w = .ok (.enter 72 args) w := enters_of Try.func72 (by kernel_rfl) rfl
  have eS : ∀ args w, (callFunc 75 args).run Try.prog w = .ok (.enter 75 args) w := enters_of Try.func75 (by kernel_rfl) rfl
  have CW : Aside0 (∀ W dk, SWK Ent.cs 25 w0 g 0 dk W → W.cell? ⟨c, 0, none⟩ = some (.slice (some ⟨g, 0, none⟩) N cap)) := ⟨fun W dk h => by
    rw [cell_of_row W c 0 _ 74 (0, 0) ((swk_kept h hg).heap hc hgc)]; rfl⟩
  have hholds : ∀ W dk, SWK Ent.cs 25 w0 g 0 dk W → dk.size = N → HoldsK Ent.cs 25 W g 0 dk := fun W dk h hs => h.holds hg H0 (hs.trans hd0.symm)
  have hgW : ∀ W dk, SWK Ent.cs 25 w0 g 0 dk W → g < W.heap.size := fun W dk h => h.lt hg
  have LESS : Aside0 (∀ dk : Array Ent, dk.size = N → ∀ W, Aside (SWK Ent.cs 25 w0 g 0 dk W) → ∀ i j : Nat, i < N → j < N → Calls Try.prog 72 #[.slice (some ⟨g, 0, none⟩) N cap, .int .i64 i, .int .i64 j] W fun e W' => e = .returned (.bool (yg dk[j]! dk[i]!)) ∧ Aside (SWK Ent.cs 25 w0 g 0 dk W')) := by
    refine ⟨fun dk hs W h i j hi hj => ?_⟩
    have := less_calls W g dk cap i j (by omega) (by omega) (hholds W dk h.out hs)
    rw [hs] at this
    exact this.mono fun e W' ⟨he, q, hq⟩ => ⟨he, by rw [hq]; exact h.out.drewN q⟩
  have SWAP : Aside0 (∀ dk : Array Ent, dk.size = N → ∀ W, Aside (SWK Ent.cs 25 w0 g 0 dk W) → ∀ i j : Nat, i < N → j < N → Calls Try.prog 75 #[.slice (some ⟨g, 0, none⟩) N cap, .int .i64 i, .int .i64 j] W fun e W' => e = .returned (.tuple #[]) ∧ Aside (SWK Ent.cs 25 w0 g 0 (swp dk i j) W')) := by
    refine ⟨fun dk hs W h i j hi hj => ?_⟩
    have := swap_calls W g dk cap i j (by omega) (by omega) (hholds W dk h.out hs) (hgW W dk h.out)
    rw [hs] at this
    exact this.mono fun e W' ⟨he, h1⟩ => ⟨he, swk_next h.out h1 hg (by rw [size_swp])⟩
  have S00 : Aside _ := S
  have HN : Aside0 (d.size = N) := ⟨hd⟩
  clear hholds hgW S H0 hd0 hc hd
  go_enter Try.func38, Try.ntmps38
  go_wp2
  go_loopg [7] n (fun kx s7 wr => ∃ (root : Nat) (dk : Array Ent), s7 = .int .i64 root ∧ root ≤ n ∧ n - root ≤ kx ∧ dk.size = N ∧ Aside (SWK Ent.cs 25 w0 g 0 dk wr) ∧ Hid (siftDown yg n 0 root dk = siftDown yg n 0 0 d))
  case atStart => exact ⟨0, d, rfl, Nat.zero_le _, Nat.le_refl _, HN.out, S00, rfl⟩
  case round =>
    obtain ⟨root, dk, rfl, hr, hkx, hds, S0, HE⟩ := hrel
    have HL : Aside _ := LESS.out dk hds
    have HS : Aside _ := SWAP.out dk hds
    have mL : ∀ W, Aside (SWK Ent.cs 25 w0 g 0 dk W) → (method 241 73 (.pointer (some ⟨c, 0, none⟩)) "Less").run Try.prog W = .ok (72, .slice (some ⟨g, 0, none⟩) N cap) W := fun W h => meth_less W c _ (CW.out W dk h.out)
    have mS : ∀ W, Aside (SWK Ent.cs 25 w0 g 0 dk W) → (method 241 73 (.pointer (some ⟨c, 0, none⟩)) "Swap").run Try.prog W = .ok (75, .slice (some ⟨g, 0, none⟩) N cap) W := fun W h => meth_swap W c _ (CW.out W dk h.out)
    have mL0 := mL wr S0
    have mS0 := mS wr S0
    clear LESS SWAP CW S00 HN
    have hr0 : ¬ ((2 * (root : Int) + 1) < 0) := by omega
    have rch : IntKind.i64.wrap (2 * (root : Int)) = 2 * (root : Int) := by rw [IntKind.wrap_i64]; omega
    have rch1 : IntKind.i64.wrap (2 * (root : Int) + 1) = 2 * (root : Int) + 1 := by rw [IntKind.wrap_i64]; omega
    have rch2 : IntKind.i64.wrap (2 * (root : Int) + 1 + 1) = 2 * (root : Int) + 1 + 1 := by rw [IntKind.wrap_i64]; omega
    by_cases h0 : n ≤ 2 * root + 1
    · have h0z : (n : Int) ≤ 2 * (root : Int) + 1 := by omega
      go_wp2
      go_ret
      refine ⟨⟨⟨_, rfl⟩⟩, ?_⟩
      rw [← HE.out, sd_end yg dk h0]
      exact S0
    · have h0z : ¬ ((n : Int) ≤ 2 * (root : Int) + 1) := by omega
      by_cases h1 : 2 * root + 2 < n
      · have h1z : 2 * (root : Int) + 1 + 1 < (n : Int) := by omega
        have hl1 := HL.out wr S0 (2 * root + 2) (2 * root + 1) (by omega) (by omega)
        rw [show ((2 * root + 2 : Nat) : Int) = 2 * (root : Int) + 1 + 1 by omega, show ((2 * root + 1 : Nat) : Int) = 2 * (root : Int) + 1 by omega] at hl1
        cases hL : yg dk[2 * root + 1]! dk[2 * root + 2]! with
        | true =>
          rw [hL] at hl1
          cases hG : yg dk[root]! dk[2 * root + 2]! with
          | true =>
            have hl2 : ∀ W, Aside (SWK Ent.cs 25 w0 g 0 dk W) → Calls Try.prog 72 #[.slice (some ⟨g, 0, none⟩) N cap, .int .i64 (2 * (root : Int) + 1 + 1), .int .i64 (root : Int)] W fun e W' => e = .returned (.bool true) ∧ Aside (SWK Ent.cs 25 w0 g 0 dk W') := fun W S => by
              have := HL.out W S (2 * root + 2) root (by omega) (by omega)
              rw [hG, show ((2 * root + 2 : Nat) : Int) = 2 * (root : Int) + 1 + 1 by omega] at this
              exact this
            have hs : ∀ W, Aside (SWK Ent.cs 25 w0 g 0 dk W) → Calls Try.prog 75 #[.slice (some ⟨g, 0, none⟩) N cap, .int .i64 (root : Int), .int .i64 (2 * (root : Int) + 1 + 1)] W fun e W' => e = .returned (.tuple #[]) ∧ Aside (SWK Ent.cs 25 w0 g 0 (swp dk root (2 * root + 2)) W') := fun W S => by
              have := HS.out W S root (2 * root + 2) (by omega) (by omega)
              rw [show ((2 * root + 2 : Nat) : Int) = 2 * (root : Int) + 1 + 1 by omega] at this
              exact this
            clear HL HS
            go_wp2_with (first | (go_at_call 72; with_reducible refine hl1.mono ?_; rintro e W1 ⟨rfl, S1⟩; clear hl1; have mL1 := mL W1 S1; have mS1 := mS W1 S1; have hl3 := hl2 W1 S1) | (go_at_call 72; with_reducible refine (hl3).mono ?_; rintro e W2 ⟨rfl, S2⟩; have mS2 := mS W2 S2; have hs3 := hs W2 S2) | (go_at_call 75; with_reducible refine hs3.mono ?_; rintro e W3 ⟨rfl, S3⟩))
            go_roundg (n - (2 * root + 2))
            case measure => omega
            case rel => exact ⟨2 * root + 2, swp dk root (2 * root + 2), by go_num, by omega, Nat.le_refl _, by rw [size_swp]; exact hds, S3, (show Hid _ from by rw [← HE.out, sd_right_go yg dk (F := 0) h1 (by simpa using hL) (by simpa using hG)]; simp only [Nat.zero_add]; exact True.intro)⟩
          | false =>
            have hl2 : ∀ W, Aside (SWK Ent.cs 25 w0 g 0 dk W) → Calls Try.prog 72 #[.slice (some ⟨g, 0, none⟩) N cap, .int .i64 (2 * (root : Int) + 1 + 1), .int .i64 (root : Int)] W fun e W' => e = .returned (.bool false) ∧ Aside (SWK Ent.cs 25 w0 g 0 dk W') := fun W S => by
              have := HL.out W S (2 * root + 2) root (by omega) (by omega)
              rw [hG, show ((2 * root + 2 : Nat) : Int) = 2 * (root : Int) + 1 + 1 by omega] at this
              exact this
            have hs : ∀ W, Aside (SWK Ent.cs 25 w0 g 0 dk W) → Calls Try.prog 75 #[.slice (some ⟨g, 0, none⟩) N cap, .int .i64 (root : Int), .int .i64 (2 * (root : Int) + 1 + 1)] W fun e W' => e = .returned (.tuple #[]) ∧ Aside (SWK Ent.cs 25 w0 g 0 (swp dk root (2 * root + 2)) W') := fun W S => by
              have := HS.out W S root (2 * root + 2) (by omega) (by omega)
              rw [show ((2 * root + 2 : Nat) : Int) = 2 * (root : Int) + 1 + 1 by omega] at this
              exact this
            clear HL HS
            go_wp2_with (first | (go_at_call 72; with_reducible refine hl1.mono ?_; rintro e W1 ⟨rfl, S1⟩; clear hl1; have mL1 := mL W1 S1; have mS1 := mS W1 S1; have hl3 := hl2 W1 S1) | (go_at_call 72; with_reducible refine (hl3).mono ?_; rintro e W2 ⟨rfl, S2⟩; have mS2 := mS W2 S2; have hs3 := hs W2 S2))
            go_ret
            refine ⟨⟨⟨_, rfl⟩⟩, ?_⟩
            rw [← HE.out, sd_right_stop yg dk (F := 0) h1 (by simpa using hL) (by simpa using hG)]
            exact S2
        | false =>
          rw [hL] at hl1
          cases hG : yg dk[root]! dk[2 * root + 1]! with
          | true =>
            have hl2 : ∀ W, Aside (SWK Ent.cs 25 w0 g 0 dk W) → Calls Try.prog 72 #[.slice (some ⟨g, 0, none⟩) N cap, .int .i64 (2 * (root : Int) + 1), .int .i64 (root : Int)] W fun e W' => e = .returned (.bool true) ∧ Aside (SWK Ent.cs 25 w0 g 0 dk W') := fun W S => by
              have := HL.out W S (2 * root + 1) root (by omega) (by omega)
              rw [hG, show ((2 * root + 1 : Nat) : Int) = 2 * (root : Int) + 1 by omega] at this
              exact this
            have hs : ∀ W, Aside (SWK Ent.cs 25 w0 g 0 dk W) → Calls Try.prog 75 #[.slice (some ⟨g, 0, none⟩) N cap, .int .i64 (root : Int), .int .i64 (2 * (root : Int) + 1)] W fun e W' => e = .returned (.tuple #[]) ∧ Aside (SWK Ent.cs 25 w0 g 0 (swp dk root (2 * root + 1)) W') := fun W S => by
              have := HS.out W S root (2 * root + 1) (by omega) (by omega)
              rw [show ((2 * root + 1 : Nat) : Int) = 2 * (root : Int) + 1 by omega] at this
              exact this
            clear HL HS
            go_wp2_with (first | (go_at_call 72; with_reducible refine hl1.mono ?_; rintro e W1 ⟨rfl, S1⟩; clear hl1; have mL1 := mL W1 S1; have mS1 := mS W1 S1; have hl3 := hl2 W1 S1) | (go_at_call 72; with_reducible refine (hl3).mono ?_; rintro e W2 ⟨rfl, S2⟩; have mS2 := mS W2 S2; have hs3 := hs W2 S2) | (go_at_call 75; with_reducible refine hs3.mono ?_; rintro e W3 ⟨rfl, S3⟩))
            go_roundg (n - (2 * root + 1))
            case measure => omega
            case rel => exact ⟨2 * root + 1, swp dk root (2 * root + 1), by go_num, by omega, Nat.le_refl _, by rw [size_swp]; exact hds, S3, (show Hid _ from by rw [← HE.out, sd_left_go yg dk (F := 0) (by omega) (fun h => by simpa using hL) (by simpa using hG)]; simp only [Nat.zero_add]; exact True.intro)⟩
          | false =>
            have hl2 : ∀ W, Aside (SWK Ent.cs 25 w0 g 0 dk W) → Calls Try.prog 72 #[.slice (some ⟨g, 0, none⟩) N cap, .int .i64 (2 * (root : Int) + 1), .int .i64 (root : Int)] W fun e W' => e = .returned (.bool false) ∧ Aside (SWK Ent.cs 25 w0 g 0 dk W') := fun W S => by
              have := HL.out W S (2 * root + 1) root (by omega) (by omega)
              rw [hG, show ((2 * root + 1 : Nat) : Int) = 2 * (root : Int) + 1 by omega] at this
              exact this
            have hs : ∀ W, Aside (SWK Ent.cs 25 w0 g 0 dk W) → Calls Try.prog 75 #[.slice (some ⟨g, 0, none⟩) N cap, .int .i64 (root : Int), .int .i64 (2 * (root : Int) + 1)] W fun e W' => e = .returned (.tuple #[]) ∧ Aside (SWK Ent.cs 25 w0 g 0 (swp dk root (2 * root + 1)) W') := fun W S => by
              have := HS.out W S root (2 * root + 1) (by omega) (by omega)
              rw [show ((2 * root + 1 : Nat) : Int) = 2 * (root : Int) + 1 by omega] at this
              exact this
            clear HL HS
            go_wp2_with (first | (go_at_call 72; with_reducible refine hl1.mono ?_; rintro e W1 ⟨rfl, S1⟩; clear hl1; have mL1 := mL W1 S1; have mS1 := mS W1 S1; have hl3 := hl2 W1 S1) | (go_at_call 72; with_reducible refine (hl3).mono ?_; rintro e W2 ⟨rfl, S2⟩; have mS2 := mS W2 S2; have hs3 := hs W2 S2))
            go_ret
            refine ⟨⟨⟨_, rfl⟩⟩, ?_⟩
            rw [← HE.out, sd_left_stop yg dk (F := 0) (by omega) (fun h => by simpa using hL) (by simpa using hG)]
            exact S2
      · have h1z : ¬ (2 * (root : Int) + 1 + 1 < (n : Int)) := by omega
        cases hG : yg dk[root]! dk[2 * root + 1]! with
        | true =>
          have hl2 : ∀ W, Aside (SWK Ent.cs 25 w0 g 0 dk W) → Calls Try.prog 72 #[.slice (some ⟨g, 0, none⟩) N cap, .int .i64 (2 * (root : Int) + 1), .int .i64 (root : Int)] W fun e W' => e = .returned (.bool true) ∧ Aside (SWK Ent.cs 25 w0 g 0 dk W') := fun W S => by
            have := HL.out W S (2 * root + 1) root (by omega) (by omega)
            rw [hG, show ((2 * root + 1 : Nat) : Int) = 2 * (root : Int) + 1 by omega] at this
            exact this
          have hs : ∀ W, Aside (SWK Ent.cs 25 w0 g 0 dk W) → Calls Try.prog 75 #[.slice (some ⟨g, 0, none⟩) N cap, .int .i64 (root : Int), .int .i64 (2 * (root : Int) + 1)] W fun e W' => e = .returned (.tuple #[]) ∧ Aside (SWK Ent.cs 25 w0 g 0 (swp dk root (2 * root + 1)) W') := fun W S => by
            have := HS.out W S root (2 * root + 1) (by omega) (by omega)
            rw [show ((2 * root + 1 : Nat) : Int) = 2 * (root : Int) + 1 by omega] at this
            exact this
          clear HL HS
          go_wp2_with (first | (go_at_call 72; with_reducible refine (hl2 wr S0).mono ?_; rintro e W2 ⟨rfl, S2⟩; have mS2 := mS W2 S2; have hs3 := hs W2 S2) | (go_at_call 75; with_reducible refine hs3.mono ?_; rintro e W3 ⟨rfl, S3⟩))
          go_roundg (n - (2 * root + 1))
          case measure => omega
          case rel => exact ⟨2 * root + 1, swp dk root (2 * root + 1), by go_num, by omega, Nat.le_refl _, by rw [size_swp]; exact hds, S3, (show Hid _ from by rw [← HE.out, sd_left_go yg dk (F := 0) (by omega) (fun h => absurd h h1) (by simpa using hG)]; simp only [Nat.zero_add]; exact True.intro)⟩
        | false =>
          have hl2 : ∀ W, Aside (SWK Ent.cs 25 w0 g 0 dk W) → Calls Try.prog 72 #[.slice (some ⟨g, 0, none⟩) N cap, .int .i64 (2 * (root : Int) + 1), .int .i64 (root : Int)] W fun e W' => e = .returned (.bool false) ∧ Aside (SWK Ent.cs 25 w0 g 0 dk W') := fun W S => by
            have := HL.out W S (2 * root + 1) root (by omega) (by omega)
            rw [hG, show ((2 * root + 1 : Nat) : Int) = 2 * (root : Int) + 1 by omega] at this
            exact this
          have hs : ∀ W, Aside (SWK Ent.cs 25 w0 g 0 dk W) → Calls Try.prog 75 #[.slice (some ⟨g, 0, none⟩) N cap, .int .i64 (root : Int), .int .i64 (2 * (root : Int) + 1)] W fun e W' => e = .returned (.tuple #[]) ∧ Aside (SWK Ent.cs 25 w0 g 0 (swp dk root (2 * root + 1)) W') := fun W S => by
            have := HS.out W S root (2 * root + 1) (by omega) (by omega)
            rw [show ((2 * root + 1 : Nat) : Int) = 2 * (root : Int) + 1 by omega] at this
            exact this
          clear HL HS
          go_wp2_with (first | (go_at_call 72; with_reducible refine (hl2 wr S0).mono ?_; rintro e W2 ⟨rfl, S2⟩; have mS2 := mS W2 S2; have hs3 := hs W2 S2))
          go_ret
          refine ⟨⟨⟨_, rfl⟩⟩, ?_⟩
          rw [← HE.out, sd_left_stop yg dk (F := 0) (by omega) (fun h => absurd h h1) (by simpa using hG)]
          exact S2

theorem flat_take : ∀ (m : Nat) (l : List Ent), (l.flatMap Ent.cs).take (m * 25) = (l.take m).flatMap Ent.cs
  | 0, l => by simp
  | m + 1, [] => by simp
  | m + 1, a :: l => by
    rw [List.flatMap_cons, List.take_succ_cons, List.flatMap_cons, show (m + 1) * 25 = a.cs.length + m * 25 by rw [Ent.len]; omega, List.take_length_add_append, flat_take m l]

theorem owns_cut {w : World} {g m cap : Nat} {d : Array Ent} (h : w.ownsRow 0 77 25 (.slice (some ⟨g, 0, none⟩) (m + 1) cap) (m + 1) (flat d)) (hd : d.size = m + 1) :
    w.ownsRow 0 77 25 (.slice (some ⟨g, 0, none⟩) m cap) (d.extract 0 m).size (flat (d.extract 0 m)) := by
  have hs : (d.extract 0 m).size = m := by simp [hd]
  rw [hs]
  rcases h.2 with ⟨h1, _⟩ | ⟨g', cap', cur, h1, hb, hg, hnc, hcm, hcs, htake⟩
  · cases h1
  · injection h1 with h1 h2 h3
    injection h1 with h1
    injection h1 with h1
    subst h1 h3
    have hf : flat (d.extract 0 m) = (flat d).take (m * 25) := by unfold flat; rw [flat_take]; simp
    refine ⟨by rw [hf, List.length_take, flat, flat_len]; simp [hd], .inr ⟨g, cap, cur, rfl, hb, hg, by omega, hcm, hcs, ?_⟩⟩
    rw [hf, ← htake, List.take_take, Nat.min_eq_left (by omega)]

set_option maxRecDepth 1000000 in
theorem hpop_calls (w : World) (c : Nat) (v : Value) (d : Array Ent) (m : Nat) (A : AgeOk w c v d) (hp : Hp d) (hm : d.size = m + 1) (hn : m < 1000) :
    Calls Try.prog 30 #[.iface 73 (.pointer (some ⟨c, 0, none⟩))] w fun r w' => r = .returned (.iface 77 (.agg (d[0]!).cs.toArray)) ∧ ∃ v', AgeOk w' c v' ((siftDown yg m 0 0 (swp d 0 m)).extract 0 m) ∧ v'.ownBlock = v.ownBlock ∧
      Kept w w' (fun b => b = c ∨ some b = v.ownBlock) := by
  obtain ⟨g, cap, rfl, H, hdc, hcm, hgc, -, cur, hg, hcs⟩ := A.shape (by omega)
  have hgl := heap_lt hg
  have hac := A.at_
  rw [hm] at hac
  obtain ⟨q1, q2, -, -⟩ := hp.pop hm
  have mLn := meth_len w c _ A.cell
  have mSw := meth_swap w c _ A.cell
  have mPp := fun W => meth_pop W ⟨c, 0, none⟩
  rw [hm] at mLn mSw
  have hlen := len_calls w (some ⟨g, 0, none⟩) (m + 1) cap
  have hsw := swap_calls w g d cap 0 m (by omega) (by omega) H hgl
  rw [hm, show ((0 : Nat) : Int) = 0 from rfl] at hsw
  have hdown : ∀ W, SWK Ent.cs 25 w g 0 (swp d 0 m) W → Calls Try.prog 38 #[.iface 73 (.pointer (some ⟨c, 0, none⟩)), .int .i64 0, .int .i64 m] W fun r w' => RetB r ∧ Aside (SWK Ent.cs 25 w g 0 (siftDown yg m 0 0 (swp d 0 m)) w') :=
    fun W S => down_calls w c g cap m (m + 1) (swp d 0 m) W hac hgc.symm d H hm (by rw [size_swp]; exact hm) hgl S (by omega) (by omega)
  have hpop : ∀ W, Aside (SWK Ent.cs 25 w g 0 (siftDown yg m 0 0 (swp d 0 m)) W) → Calls Try.prog 73 #[.pointer (some ⟨c, 0, none⟩)] W fun r w' => r = .returned (.iface 77 (.agg (d[0]!).cs.toArray)) ∧ AgeOk w' c (.slice (some ⟨g, 0, none⟩) m cap) ((siftDown yg m 0 0 (swp d 0 m)).extract 0 m) ∧ Kept w w' (fun b => b = c ∨ some b = some g) := by
    intro W S
    have k1 := swk_kept S.out hgl
    obtain ⟨cur', hg', hcs'⟩ := swk_block S.out hg
    have HW := S.out.holds hgl H (q1.trans hm.symm)
    have hr := ent_range HW (i := m) (by omega)
    rw [q2] at hr
    refine (pop_calls W c g m cap (d[0]!).cs (k1.heap hac (fun e => hgc e.symm)) hr (Ent.len _) (Ent.one _) hgc (by omega) hcm).mono fun r w' ⟨he, h1, h2⟩ => ⟨he, ?_, (k1.trans h2 (fun _ _ h => .inr (by rw [h])) (fun _ _ h => .inl h))⟩
    refine ⟨h1, ?_, by simp [Value.ownBlock]; exact hgc⟩
    have ho := owns_of_holds (n := m + 1) hg' (by rw [hcs', hcs]) (by omega) hcm HW
    rw [q1] at ho
    exact owns_cut (h2.owns ho (fun g' e h => by simp [Value.ownBlock] at e; omega)) q1
  have hm1 : (m : Int) ≤ 1000 := by omega
  have hob : (Value.slice (some ⟨g, 0, none⟩) d.size cap).ownBlock = some g := rfl
  rw [hob]
  clear A H hp hac q1 q2 hob hm
  generalize ((siftDown yg m 0 0 (swp d 0 m)).extract 0 m) = dE at hpop ⊢
  generalize siftDown yg m 0 0 (swp d 0 m) = d2 at hdown hpop ⊢
  go_enter Try.func30, Try.ntmps30
  go_wp2_with (first
    | (go_at_call 29; with_reducible refine hlen.mono ?_; rintro e w'' ⟨rfl, rfl⟩)
    | (go_at_call 75; with_reducible refine hsw.mono ?_; rintro e W1 ⟨rfl, S1⟩; have hdn := hdown W1 S1)
    | (go_at_call 38; with_reducible refine hdn.mono ?_; rintro e W2 ⟨⟨b, rfl⟩, S2⟩; have hpp := hpop W2 S2)
    | (go_at_call 73; with_reducible refine hpp.mono ?_; rintro e W3 ⟨rfl, B, k3⟩))
  go_ret
  exact ⟨rfl, _, B, rfl, k3⟩

end Go.Proofs.Ytmbjlondehcheaa
