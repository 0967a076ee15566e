/- Whether frames are of a size that is looked at is always told; where it is so, they are at most sixty. -/
import Derived.Test.YtmbjlondehcheaaProg
import Derived.Below
import Derived.OneCell
import Derived.WalkKit
import Derived.KernelRfl
import Derived.RowKit3
import Derived.Deep.LoopGhost
import Derived.Deep.QuietTactic
import Derived.BigQuiet
import Derived.Deep.DeepCutAuto
import Derived.Deep.CutBlock
import Derived.Deep.RegionWith
import Derived.OwnWalk
import Derived.Laws.Tables
import Derived.Laws.AppendOwn
import Derived.Shelf.SlSortCmp.KitK
import Derived.Shelf.RegionOpenPlain
import Derived.Sort.WalkB2
import Derived.Deep.MidRow
import Derived.Great.Walk
import Derived.Test.YtmbjlondehcheaaWWords
import Derived.Test.YtmbjlondehcheaaWLast
import Derived.Laws.StructEq
import Derived.Maps.Own
import Derived.Maps.RangeRun
import Derived.Test.YtmbjlondehcheaaPFWx2
import Derived.Test.YtmbjlondehcheaaHPairArg
set_option linter.unusedSimpArgs false
set_option linter.unusedVariables false
namespace Go.Proofs.Ytmbjlondehcheaa
open Go.Shelf Go.RowKit Go.Lib Go.Sort Go.Proofs.YtmbjlondehcheaaW.PrintWords Go.Proofs.YtmbjlondehcheaaW.PrintLast Go.Proofs.Ytmbjlondehcheaa.PFW

section
variable (a0 a1 a2 a3 a4 a5 a6 a7 a8 a9 a10 a11 : Int) (l12 : List Int) (l13 : List Bool) (l14 : List Int) (l15 : List S82) (a16 a17 a18 a19 a20 : Int) (l21 : List S84)
theorem few_l1 : ∀ (n i : Nat), l21.length - i ≤ n → l21.length ≤ 100 → ∃ r, busbarref07_Few.l1 (n + 1) (i : Int) a0 a1 a2 a3 a4 a5 a6 a7 a8 a9 a10 a11 l12 l13 l14 l15 a16 a17 a18 a19 a20 l21 = some r := by
  intro n
  induction n with
  | zero =>
    intro i h1 h2
    unfold busbarref07_Few.l1
    rw [if_neg (by omega)]
    exact ⟨_, rfl⟩
  | succ n ih =>
    intro i h1 h2
    unfold busbarref07_Few.l1
    by_cases hi : (i : Int) < (l21.length : Int)
    · rw [if_pos hi, if_pos (by omega)]
      split
      · exact ⟨_, rfl⟩
      · rw [Go.IntWalk.wrap64_in _ (by omega)]
        exact ih (i + 1) (by omega) h2
    · rw [if_neg hi]
      exact ⟨_, rfl⟩
theorem few_up : ∀ (d k : Nat) (i : Int) (r : Bool), busbarref07_Few.l1 k i a0 a1 a2 a3 a4 a5 a6 a7 a8 a9 a10 a11 l12 l13 l14 l15 a16 a17 a18 a19 a20 l21 = some r → busbarref07_Few.l1 (k + d) i a0 a1 a2 a3 a4 a5 a6 a7 a8 a9 a10 a11 l12 l13 l14 l15 a16 a17 a18 a19 a20 l21 = some r := by
  intro d
  induction d with
  | zero => exact fun _ _ _ h => h
  | succ d ih => exact fun k i r h => (busbarref07_Few.mono_l (k + d)).2.2 _ _ _ _ _ _ _ _ _ _ _ _ _ _ _ _ _ _ _ _ _ _ _ r (ih k i r h)
theorem few_l0 : ∀ (n i : Nat), l15.length - i ≤ n → l15.length ≤ 50 → l21.length ≤ 100 → ∃ r, busbarref07_Few.l0 (n + 102) (i : Int) a0 a1 a2 a3 a4 a5 a6 a7 a8 a9 a10 a11 l12 l13 l14 l15 a16 a17 a18 a19 a20 l21 = some r := by
  intro n
  induction n with
  | zero =>
    intro i h1 h2 h3
    unfold busbarref07_Few.l0
    rw [if_neg (by omega)]
    exact few_l1 a0 a1 a2 a3 a4 a5 a6 a7 a8 a9 a10 a11 l12 l13 l14 l15 a16 a17 a18 a19 a20 l21 100 0 (by omega) h3
  | succ n ih =>
    intro i h1 h2 h3
    rw [show n + 1 + 102 = (n + 102) + 1 by omega]
    unfold busbarref07_Few.l0
    by_cases hi : (i : Int) < (l15.length : Int)
    · rw [if_pos hi, if_pos (by omega)]
      split
      · exact ⟨_, rfl⟩
      · rw [Go.IntWalk.wrap64_in _ (by omega)]
        exact ih (i + 1) (by omega) h2 h3
    · rw [if_neg hi]
      obtain ⟨r, hr⟩ := few_l1 a0 a1 a2 a3 a4 a5 a6 a7 a8 a9 a10 a11 l12 l13 l14 l15 a16 a17 a18 a19 a20 l21 100 0 (by omega) h3
      exact ⟨r, by have := few_up a0 a1 a2 a3 a4 a5 a6 a7 a8 a9 a10 a11 l12 l13 l14 l15 a16 a17 a18 a19 a20 l21 (n + 1) 101 0 r hr; rwa [show 101 + (n + 1) = n + 102 by omega] at this⟩
theorem few_f (k : Nat) (hk : 200 ≤ k) : ∃ r, busbarref07_Few.f k a0 a1 a2 a3 a4 a5 a6 a7 a8 a9 a10 a11 l12 l13 l14 l15 a16 a17 a18 a19 a20 l21 = some r := by
  have hj : ∀ b, b = true ∨ (l15.length ≤ 50 ∧ l21.length ≤ 100) → ∃ r, busbarref07_Few.j0 k b a0 a1 a2 a3 a4 a5 a6 a7 a8 a9 a10 a11 l12 l13 l14 l15 a16 a17 a18 a19 a20 l21 = some r := by
    intro b hb
    obtain ⟨m, rfl⟩ : ∃ m, k = m + 1 := ⟨k - 1, by omega⟩
    simp only [busbarref07_Few.j0]
    by_cases h : b = true
    · rw [if_pos h]; exact ⟨_, rfl⟩
    · rw [if_neg h]
      obtain ⟨h1, h2⟩ := hb.resolve_left h
      obtain ⟨n, rfl⟩ : ∃ n, m = n + 102 := ⟨m - 102, by omega⟩
      exact few_l0 a0 a1 a2 a3 a4 a5 a6 a7 a8 a9 a10 a11 l12 l13 l14 l15 a16 a17 a18 a19 a20 l21 n 0 (by omega) h1 h2
  unfold busbarref07_Few.f
  split
  · exact hj _ (.inl rfl)
  · split
    · exact hj _ (.inl rfl)
    · split
      · exact hj _ (.inl rfl)
      · split
        · exact hj _ (.inl rfl)
        · refine hj _ ?_
          by_cases h : (l21.length : Int) > 100
          · exact .inl (by simpa using h)
          · exact .inr ⟨by omega, by omega⟩
end

/-- A message's size, asked for: it is told. -/
theorem few_msg (x : S42) (cs : List Value) (w : World) (h : k42.K w x cs) : ∃ r : Bool, Calls Try.prog 18 #[.agg cs.toArray] w fun e w' => e = .returned (.bool r) ∧ Kept w w' (fun _ => False) := by
  obtain ⟨A12, c12, A13, c13, A14, c14, A15, c15, A21, c21, rfl, l12, g12, l13, g13, l14, g14, l15, g15, l21, g21⟩ := k42_open h
  obtain ⟨r, hr⟩ := few_f x.f0 x.f1 x.f2 x.f3 x.f4 x.f5 x.f6 x.f7 x.f8 x.f9 x.f10 x.f11 x.f12 x.f13 x.f14 x.f15 x.f16 x.f17 x.f18 x.f19 x.f20 x.f21 200 (Nat.le_refl _)
  exact ⟨r, (busbarref07_Few.calls 200 _ _ _ _ _ _ _ _ _ _ _ _ _ _ _ _ _ _ _ _ _ _ _ _ _ _ _ _ _ _ _ _ r w g12 l12 g13 l13 g14 l14 g15 l15 g21 l21 hr).mono fun e w' ⟨he, hb⟩ => ⟨he, Kept.ofBelow hb _⟩⟩

set_option maxHeartbeats 1000000 in
/-- Few, called: it tells; a yes says that there are at most sixty. -/
theorem few_calls (A : Option Addr) (c : Nat) (l : List S46) (w : World) (hC : Kd.C k46 w A l.length l) (hc : l.length ≤ c) :
    Calls Try.prog 10 #[.slice A l.length c] w fun e w' => (e = .returned (.bool false) ∧ Kept w w' (fun _ => False)) ∨ (e = .returned (.bool true) ∧ l.length ≤ 60 ∧ Kept w w' (fun _ => False)) := by
  have hlen := hC.2.1
  have START : Aside0 (Kept w w (fun _ => False)) := ⟨Kept.refl w _⟩
  have HC : Aside0 (Kd.C k46 w A l.length l) := ⟨hC⟩
  clear hC
  go_enter Try.func10, Try.ntmps10
  go_wp2
  go_loopg [3] l.length (fun kx s3 wr => ∃ i : Nat, s3 = .int .i64 i ∧ i ≤ l.length ∧ l.length - i ≤ kx ∧ Aside0 (Kept w wr (fun _ => False)))
  case atStart => exact ⟨0, rfl, Nat.zero_le _, Nat.le_refl _, START⟩
  case round =>
    clear START
    obtain ⟨i, rfl, hi, hkx, KW⟩ := hrel
    by_cases hlt : i < l.length
    · obtain ⟨ad, cs, rfl, hK, c0, hr⟩ := acts_at (Kd.C_below HC.out KW.out.toBelow) hlt
      obtain ⟨hd, ms, rfl, hhd, hM⟩ := msg_of hK
      have hrm : wr.rangeAt (ad.add (i * 25)).block ((ad.add (i * 25)).off + 1 + 2) ms := fun j u hu => by
        have := hr (j + 2) u (by rw [hhd]; simpa using hu)
        rwa [show (ad.add (i * 25)).off + 1 + (j + 2) = (ad.add (i * 25)).off + 1 + 2 + j by omega] at this
      have szl42 : (Try.prog.info? 42).map (·.size) = some ms.length := by rw [k42.K_len hM]; kernel_rfl
      have hiz : (i : Int) < (l.length : Int) := by omega
      obtain ⟨r, hfew⟩ := few_msg _ ms wr hM
      clear hK c0 hr hhd hM
      cases r with
      | true =>
        go_wp2_with (first
          | (refine wpList_load_mid rfl 42 (.tmp 15) rfl _ _ rfl ms _ hrm Try.underlying42 rfl szl42 ?_)
          | (go_at_call 18; with_reducible refine hfew.mono ?_; rintro e w2 ⟨rfl, k2⟩; have KW2 : Aside0 (Kept w w2 (fun _ => False)) := ⟨KW.out.trans k2 (fun _ _ h => h) (fun _ _ h => h)⟩; clear hfew k2))
        go_roundg (l.length - (i + 1))
        case measure => omega
        case rel => exact ⟨i + 1, by go_num, by omega, Nat.le_refl _, KW2⟩
      | false =>
        go_wp2_with (first
          | (refine wpList_load_mid rfl 42 (.tmp 15) rfl _ _ rfl ms _ hrm Try.underlying42 rfl szl42 ?_)
          | (go_at_call 18; with_reducible refine hfew.mono ?_; rintro e w2 ⟨rfl, k2⟩; have KW2 : Aside0 (Kept w w2 (fun _ => False)) := ⟨KW.out.trans k2 (fun _ _ h => h) (fun _ _ h => h)⟩; clear hfew k2))
        go_ret
        exact Or.inl ⟨rfl, KW2.out⟩
    · have hge : ¬ ((i : Int) < (l.length : Int)) := by omega
      have KW2 := KW
      clear KW
      by_cases h60 : l.length ≤ 60
      · have hz60 : (l.length : Int) ≤ 60 := by omega
        go_wp2
        go_ret
        first | exact Or.inr ⟨rfl, h60, KW2.out⟩ | exact Or.inr ⟨rfl, KW2.out⟩ | exact ⟨rfl, KW2.out⟩
      · have hz60 : ¬ ((l.length : Int) ≤ 60) := by omega
        go_wp2
        go_ret
        first | exact Or.inl ⟨rfl, KW2.out⟩ | exact ⟨rfl, KW2.out⟩

end Go.Proofs.Ytmbjlondehcheaa
