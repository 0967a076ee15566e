/- PairOver, walked: whatever head and number, it answers true. -/
import Derived.Test.YtmbjlondehcheaaProg
import Derived.Below
import Derived.OneCell
import Derived.WalkKit
import Derived.KernelRfl
import Derived.RowKit3
import Derived.Deep.LoopGhost
import Derived.Deep.QuietTactic
import Derived.BigQuiet
import Derived.Deep.DeepCutAuto
import Derived.Deep.CutBlock
import Derived.Deep.RegionWith
import Derived.OwnWalk
import Derived.Laws.Tables
import Derived.Laws.AppendOwn
import Derived.Shelf.SlSortCmp.KitK
import Derived.Shelf.RegionOpenPlain
import Derived.Sort.WalkB2
import Derived.Deep.MidRow
import Derived.Great.Walk
import Derived.Test.YtmbjlondehcheaaWWords
import Derived.Test.YtmbjlondehcheaaWLast
import Derived.Laws.StructEq
import Derived.Maps.Own
import Derived.Maps.RangeRun
import Derived.Test.YtmbjlondehcheaaHPairAwake
set_option linter.unusedSimpArgs false
set_option linter.unusedVariables false
namespace Go.Proofs.Ytmbjlondehcheaa
open Go.Shelf Go.RowKit Go.Lib Go.Sort Go.Proofs.YtmbjlondehcheaaW.PrintWords Go.Proofs.YtmbjlondehcheaaW.PrintLast

theorem cells_one {w : World} {g : Nat} {x y : Value} {t : TypeId} (h : w.heap[g]? = some (.cells #[x, y] t (0, 0))) : w.cell? ⟨g, 0, none⟩ = some x ∧ w.cell? ⟨g, 1, none⟩ = some y :=
  ⟨by rw [cell_of_row w g 0 _ t (0, 0) h]; rfl, by rw [cell_of_row w g 1 _ t (0, 0) h]; rfl⟩

section
variable (u t : Int) (hu : 0 ≤ u ∧ u < 256) (ht : 0 ≤ t ∧ t < 65536)
/-- The i-th request. -/
def ovF (i : Nat) : Fr := mkF u t 6 0 i hu ht (by decide)
/-- The requests that are open behind i of them, the first j answered. -/
def ovL (j i : Nat) : List Ent := (List.range' j (i - j)).map fun k => ⟨(k : Nat), ovF u t hu ht k⟩

theorem ovL_len (j i : Nat) : (ovL u t hu ht j i).length = i - j := by simp [ovL]
theorem ovL_snoc (i : Nat) : ovL u t hu ht 0 i ++ [⟨(i : Nat), ovF u t hu ht i⟩] = ovL u t hu ht 0 (i + 1) := by
  simp [ovL, List.range'_concat]
theorem ovL_cons (j i : Nat) (h : j < i) : ovL u t hu ht j i = ⟨(j : Nat), ovF u t hu ht j⟩ :: ovL u t hu ht (j + 1) i := by
  unfold ovL
  rw [show i - j = (i - (j + 1)) + 1 by omega, List.range'_succ]
  rfl

theorem ov_ask (i : Nat) (h : i < 16) : step true (ovL u t hu ht 0 i) i 0 (ovF u t hu ht i) = ([⟨0, ovF u t hu ht i, fr0⟩], ovL u t hu ht 0 (i + 1), i + 1) := by
  have hl := ovL_len u t hu ht 0 i
  simp only [step, ask, if_true]
  rw [if_neg (by omega), ovL_snoc]
theorem ov_over (i : Nat) : step true (ovL u t hu ht 0 16) 16 0 (ovF u t hu ht i) = ([⟨3, ovF u t hu ht i, fr0⟩], ovL u t hu ht 0 16, 16) := by
  have hl := ovL_len u t hu ht 0 16
  simp only [step, ask, if_true]
  rw [if_pos (by omega)]
theorem ov_ans (j i all : Nat) (h : j < i) : step true (ovL u t hu ht j i) all 1 (mkF u t 6 0 0 hu ht (by decide)) = ([⟨4, ovF u t hu ht j, mkF u t 6 0 0 hu ht (by decide)⟩], ovL u t hu ht (j + 1) i, all) := by
  rw [ovL_cons u t hu ht j i h]
  simp [step, ans, hdOf, hd, ovF, mkF]
theorem ov_stray (i all : Nat) : step true (ovL u t hu ht i i) all 1 (mkF u t 6 0 0 hu ht (by decide)) = ([⟨6, fr0, mkF u t 6 0 0 hu ht (by decide)⟩], ovL u t hu ht i i, all) := by
  have : ovL u t hu ht i i = [] := by simp [ovL]
  rw [this]; rfl
end

/-- What stands between two rounds. -/
structure OvAt (w wr : World) (pb : Nat) (L : List Ent) (all : Nat) (u t : Int) : Prop where
  own : ∃ F, Own wr pb true L all F ∧ (∀ b, F b → w.heap.size < b)
  row : wr.heap[w.heap.size]? = some (.cells #[.int .u8 u, .int .u16 t] 35 (0, 0))
  kept : Kept w wr (fun _ => False)

theorem OvAt.take {w wr : World} {pb : Nat} {L : List Ent} {all : Nat} {u t : Int} (h : OvAt w wr pb L all u t) (hy : all < 1000000) (dir : Int) (f : Fr) {n : Nt} {L' : List Ent} {all' : Nat} (hst : step true L all dir f = ([n], L', all')) :
    Calls Try.prog 12 #[.pointer (some ⟨pb, 0, none⟩), .int .i64 dir, .agg f.cs.toArray] wr fun r w' => ∃ g cap, r = .returned (.slice (some ⟨g, 0, none⟩) 1 cap) ∧ w'.cell? ⟨g, 0, none⟩ = some (.int .i64 n.kind) ∧ w'.cell? ⟨g, 7, none⟩ = some (n.ask.r 3) ∧ OvAt w w' pb L' all' u t := by
  obtain ⟨F, O, hF⟩ := h.own
  refine (O.take_ hy dir f hst).mono fun r w' ⟨v, F', he, O', R, ft, k⟩ => ?_
  obtain ⟨g, cap, rfl, -, hc⟩ := R.one
  have hl := heap_lt h.row
  exact ⟨g, cap, he, hc 0 _ rfl, hc 7 _ rfl, ⟨⟨F', O', fun b hb => by
    rcases ft b hb with h' | h'
    · exact hF b h'
    · omega⟩, k.heap h.row (fun h' => by have := hF _ h'; omega), h.kept.trans k (fun _ _ h => h) (fun b hb h' => by have := hF b h'; omega)⟩⟩

theorem rem41 (n : Int) (h : 0 ≤ n ∧ n < 256) : ∃ m : Nat, n.tmod 41 = m ∧ m ≤ 40 := ⟨(n.tmod 41).toNat, by
  have := Int.tmod_nonneg 41 h.1; omega, by have := Int.tmod_lt_of_pos n (show (0 : Int) < 41 by decide); omega⟩

set_option maxHeartbeats 8000000 in
set_option maxRecDepth 1000000 in
theorem over_calls (u t n : Int) (hu : 0 ≤ u ∧ u < 256) (ht : 0 ≤ t ∧ t < 65536) (hn : 0 ≤ n ∧ n < 256) (w : World) :
    Calls Try.prog 5 #[.agg #[.int .u8 u, .int .u16 t], .int .u8 n] w fun r w' => r = .returned (.bool true) ∧ Kept w w' (fun _ => False) := by
  have k0 : Kept w (w.alloc (.cells #[.int .u8 u, .int .u16 t] 35)) (fun _ => False) := Kept.alloc w _ _
  have A0 : (w.alloc (.cells #[.int .u8 u, .int .u16 t] 35)).heap[w.heap.size]? = some (.cells #[.int .u8 u, .int .u16 t] 35 (0, 0)) := heap_alloc_new _ _
  have haw := awake_calls (w.alloc (.cells #[.int .u8 u, .int .u16 t] 35))
  have hnew := new_calls 2 (.inr (.inr rfl))
  obtain ⟨m, hm, hm40⟩ := rem41 n hn
  have hmz : (m : Int) ≤ 40 := by omega
  go_enter Try.func5, Try.ntmps5
  go_wp2_with (first
    | (go_at_call 9; with_reducible refine haw.mono ?_; rintro e w0 ⟨rfl, k1⟩; have A1 := k1.heap A0 (fun h => h); have kk := k0.trans k1 (fun _ _ h => h) (fun _ _ h => h); clear haw A0 k0 k1)
    | (go_at_call 11; with_reducible refine (hnew _).mono ?_; rintro e w1 ⟨pb, F, rfl, O1', hF, k1⟩; clear hnew; have ST : Aside0 (OvAt w w1 pb (ovL u t hu ht 0 0) 0 u t) := ⟨⟨F, by simpa [ovL] using O1', fun b hb => by have := hF b hb; have := heap_lt A1; omega⟩, k1.heap A1 (fun h => h), kk.trans k1 (fun _ _ h => h) (fun _ _ h => h)⟩; clear O1' hF k1 kk A1))
  clear hm
  go_loopg [8] m (fun kx s8 wr => ∃ i : Nat, s8 = .int .i64 i ∧ i ≤ m ∧ m - i ≤ kx ∧ Aside0 (OvAt w wr pb (ovL u t hu ht 0 (min i 16)) (min i 16) u t))
  case atStart => exact ⟨0, rfl, Nat.zero_le _, Nat.le_refl _, ST⟩
  case round =>
    clear ST
    obtain ⟨i, rfl, hi, hkx, ⟨hO⟩⟩ := hrel
    by_cases hlt : i < m
    · have hiz : (i : Int) < (m : Int) := by omega
      obtain ⟨c0, c1⟩ := cells_one hO.row
      have hi40 : (i : Int) ≤ 40 := by omega
      have eF := fr_built u t 6 0 i hu ht (by decide)
      have eFo : (mkF u t 6 0 (i : Int) hu ht (by decide)).cs.toArray = (ovF u t hu ht i).cs.toArray := rfl
      rw [eFo] at eF
      have hr3 : (ovF u t hu ht i).r 3 = .int .u16 (i : Int) := rfl
      clear eFo
      by_cases h16 : i < 16
      · have e1 : min i 16 = i := by omega
        have e2 : min (i + 1) 16 = i + 1 := by omega
        rw [e1] at hO
        have T := hO.take (by omega) 0 (ovF u t hu ht i) (ov_ask u t hu ht i h16)
        have hz16 : ¬ ((16 : Int) ≤ (i : Int)) := by omega
        rw [hr3] at T
        clear hO e1 hr3
        generalize ovF u t hu ht i = f at *
        go_wp2_with (first
          | (refine wpList_buildTo rfl 42 _ rfl (some 29) rfl (msg 6 0 (i : Int)).toArray ?_ ?_; (simp only [List.map_toArray, List.map_cons, List.map_nil]; exact msg_cv 6 (i : Int)))
          | (refine wpList_buildTo rfl 44 _ rfl (some 30) rfl f.cs.toArray ?_ ?_; (simp only [List.map_toArray, List.map_cons, List.map_nil]; exact eF)))
        have q6 := T; go_at_call 12; with_reducible refine T.mono ?_; rintro e w2 ⟨g, cap, rfl, d0, d7, hO2⟩; clear T q6 c0 c1; have HO : Aside0 _ := ⟨hO2⟩; clear hO2
        go_wp2
        go_roundg (m - (i + 1))
        case measure => omega
        case rel => exact ⟨i + 1, by go_num, by omega, Nat.le_refl _, ⟨by rw [e2]; exact HO.out⟩⟩
      · have e1 : min i 16 = 16 := by omega
        have e2 : min (i + 1) 16 = 16 := by omega
        rw [e1] at hO
        have T := hO.take (by omega) 0 (ovF u t hu ht i) (ov_over u t hu ht i)
        have hz16 : (16 : Int) ≤ (i : Int) := by omega
        rw [hr3] at T
        clear hO e1 hr3
        generalize ovF u t hu ht i = f at *
        go_wp2_with (first
          | (refine wpList_buildTo rfl 42 _ rfl (some 29) rfl (msg 6 0 (i : Int)).toArray ?_ ?_; (simp only [List.map_toArray, List.map_cons, List.map_nil]; exact msg_cv 6 (i : Int)))
          | (refine wpList_buildTo rfl 44 _ rfl (some 30) rfl f.cs.toArray ?_ ?_; (simp only [List.map_toArray, List.map_cons, List.map_nil]; exact eF)))
        have q6 := T; go_at_call 12; with_reducible refine T.mono ?_; rintro e w2 ⟨g, cap, rfl, d0, d7, hO2⟩; clear T q6 c0 c1; have HO : Aside0 _ := ⟨hO2⟩; clear hO2
        go_wp2
        go_roundg (m - (i + 1))
        case measure => omega
        case rel => exact ⟨i + 1, by go_num, by omega, Nat.le_refl _, ⟨by rw [e2]; exact HO.out⟩⟩
    · have hge : ¬ ((i : Int) < (m : Int)) := by omega
      obtain rfl : i = m := by omega
      have ST2 : Aside0 (OvAt w wr pb (ovL u t hu ht (min 0 16) (min i 16)) (min i 16) u t) := ⟨hO⟩
      clear hO hkx hi
      go_wp2
      go_loopg [11] i (fun kx s11 wr => ∃ j : Nat, s11 = .int .i64 j ∧ j ≤ i ∧ i - j ≤ kx ∧ Aside0 (OvAt w wr pb (ovL u t hu ht (min j 16) (min i 16)) (min i 16) u t))
      case atStart => exact ⟨0, rfl, Nat.zero_le _, Nat.le_refl _, ST2⟩
      case round =>
        clear ST2
        obtain ⟨j, rfl, hj, hkx, ⟨hO⟩⟩ := hrel
        by_cases hlt : j < i
        · have hjz : (j : Int) < (i : Int) := by omega
          obtain ⟨c0, c1⟩ := cells_one hO.row
          have hj40 : (j : Int) ≤ 40 := by omega
          have eF := fr_built u t 6 0 0 hu ht (by decide)
          have hr3 : (ovF u t hu ht j).r 3 = .int .u16 (j : Int) := rfl
          have hr0 : fr0.r 3 = .int .u16 0 := rfl
          by_cases h16 : j < 16
          · have e1 : min j 16 = j := by omega
            have e2 : min (j + 1) 16 = j + 1 := by omega
            rw [e1] at hO
            have T := hO.take (by omega) 1 (mkF u t 6 0 0 hu ht (by decide)) (ov_ans u t hu ht j (min i 16) (min i 16) (by omega))
            have hz16 : (j : Int) < (16 : Int) := by omega
            have hz17 : ¬ ((16 : Int) ≤ (j : Int)) := by omega
            rw [hr3] at T
            clear hO e1 hr3 hr0
            generalize mkF u t 6 0 0 hu ht (by decide) = f0 at *
            go_wp2_with (first
              | (refine wpList_buildTo rfl 42 _ rfl (some 61) rfl (msg 6 0 0).toArray ?_ ?_; (simp only [List.map_toArray, List.map_cons, List.map_nil]; exact msg_c 6))
              | (refine wpList_buildTo rfl 44 _ rfl (some 62) rfl f0.cs.toArray ?_ ?_; (simp only [List.map_toArray, List.map_cons, List.map_nil]; exact eF)))
            have q6 := T; go_at_call 12; with_reducible refine T.mono ?_; rintro e w2 ⟨g, cap, rfl, d0, d7, hO2⟩; clear T q6 c0 c1; have HO : Aside0 _ := ⟨hO2⟩; clear hO2
            go_wp2
            go_roundg (i - (j + 1))
            case measure => omega
            case rel => exact ⟨j + 1, by go_num, by omega, Nat.le_refl _, ⟨by rw [e2]; exact HO.out⟩⟩
          · have e1 : min j 16 = min i 16 := by omega
            have e2 : min (j + 1) 16 = min i 16 := by omega
            rw [e1] at hO
            have T := hO.take (by omega) 1 (mkF u t 6 0 0 hu ht (by decide)) (ov_stray u t hu ht (min i 16) (min i 16))
            have hz16 : ¬ ((j : Int) < (16 : Int)) := by omega
            have hz17 : (16 : Int) ≤ (j : Int) := by omega
            rw [hr0] at T
            clear hO e1 hr3 hr0
            generalize mkF u t 6 0 0 hu ht (by decide) = f0 at *
            go_wp2_with (first
              | (refine wpList_buildTo rfl 42 _ rfl (some 61) rfl (msg 6 0 0).toArray ?_ ?_; (simp only [List.map_toArray, List.map_cons, List.map_nil]; exact msg_c 6))
              | (refine wpList_buildTo rfl 44 _ rfl (some 62) rfl f0.cs.toArray ?_ ?_; (simp only [List.map_toArray, List.map_cons, List.map_nil]; exact eF)))
            have q6 := T; go_at_call 12; with_reducible refine T.mono ?_; rintro e w2 ⟨g, cap, rfl, d0, d7, hO2⟩; clear T q6 c0 c1; have HO : Aside0 _ := ⟨hO2⟩; clear hO2
            go_wp2
            go_roundg (i - (j + 1))
            case measure => omega
            case rel => exact ⟨j + 1, by go_num, by omega, Nat.le_refl _, ⟨by rw [e2]; exact HO.out⟩⟩
        · have hge2 : ¬ ((j : Int) < (i : Int)) := by omega
          obtain rfl : j = i := by omega
          obtain ⟨F, O, hF⟩ := hO.own
          have hop := O.open_
          have hl := ovL_len u t hu ht (min j 16) (min j 16)
          rw [Nat.sub_self] at hl
          rw [hl] at hop
          have KK := hO.kept
          clear hO O hF hl
          go_wp2_with (go_at_call 16; with_reducible refine hop.mono ?_; rintro e w7 ⟨oa, ocap, rfl, ho, hn7, k7⟩)
          go_ret
          exact ⟨rfl, KK.trans k7 (fun _ _ h => h) (fun _ _ h => h)⟩

end Go.Proofs.Ytmbjlondehcheaa
