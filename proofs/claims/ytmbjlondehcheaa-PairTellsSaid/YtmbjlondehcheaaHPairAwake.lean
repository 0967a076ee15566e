/- The example of the chapter, walked: awake answers true. -/
import Derived.Test.YtmbjlondehcheaaProg
import Derived.Below
import Derived.OneCell
import Derived.WalkKit
import Derived.KernelRfl
import Derived.RowKit3
import Derived.Deep.LoopGhost
import Derived.Deep.QuietTactic
import Derived.BigQuiet
import Derived.Deep.DeepCutAuto
import Derived.Deep.CutBlock
import Derived.Deep.RegionWith
import Derived.OwnWalk
import Derived.Laws.Tables
import Derived.Laws.AppendOwn
import Derived.Shelf.SlSortCmp.KitK
import Derived.Shelf.RegionOpenPlain
import Derived.Sort.WalkB2
import Derived.Deep.MidRow
import Derived.Great.Walk
import Derived.Test.YtmbjlondehcheaaWWords
import Derived.Test.YtmbjlondehcheaaWLast
import Derived.Laws.StructEq
import Derived.Maps.Own
import Derived.Maps.RangeRun
import Derived.Test.YtmbjlondehcheaaHPairOwn
set_option linter.unusedSimpArgs false
set_option linter.unusedVariables false
namespace Go.Proofs.Ytmbjlondehcheaa
open Go.Shelf Go.RowKit Go.Lib Go.Sort Go.Proofs.YtmbjlondehcheaaW.PrintWords Go.Proofs.YtmbjlondehcheaaW.PrintLast

theorem foot_new {F F' : Nat → Prop} {n m : Nat} (hF : ∀ b, F b → n ≤ b) (ft : ∀ b, F' b → F b ∨ m ≤ b) (h : n ≤ m) : ∀ b, F' b → n ≤ b := fun b hb => (ft b hb).elim (hF b) (Nat.le_trans h)

def frA : Fr := mkF 1 5 6 0 1 (by decide) (by decide) (by decide)
def frB : Fr := mkF 1 5 6 0 2 (by decide) (by decide) (by decide)

theorem aw1 : step true [] 0 0 frA = ([⟨0, frA, fr0⟩], [⟨0, frA⟩], 1) := rfl
theorem aw2 : step true [⟨0, frA⟩] 1 0 frB = ([⟨0, frB, fr0⟩], [⟨0, frA⟩, ⟨1, frB⟩], 2) := rfl
theorem aw3 : step true [⟨0, frA⟩, ⟨1, frB⟩] 2 1 frA = ([⟨4, frA, frA⟩], [⟨1, frB⟩], 2) := rfl

set_option maxHeartbeats 400000 in
set_option maxRecDepth 1000000 in
theorem awake_calls (w : World) : Calls Try.prog 9 #[] w fun r w' => r = .returned (.bool true) ∧ Kept w w' (fun _ => False) := by
  have hnew := new_calls 2 (.inr (.inr rfl)) w
  have hz := fr0_zero
  have SA := size44 frA.cs.toArray rfl
  have SB := size44 frB.cs.toArray rfl
  have OA := all_oneCell_toArray frA.one
  have OB := all_oneCell_toArray frB.one
  have ZA : fr0.cs.toArray.size = frA.cs.toArray.size := rfl
  have ZB : fr0.cs.toArray.size = frB.cs.toArray.size := rfl
  go_enter Try.func9, Try.ntmps9
  go_wp2_with (first
    | (go_at_call 11; with_reducible refine hnew.mono ?_; rintro e w1 ⟨pb, F, rfl, O1', hF, k1⟩; clear hnew; have O1 : Own w1 pb true [] 0 F := (by simpa using O1'); clear O1';
       obtain ⟨O2, VA, k2, -⟩ := O1.var frA; have hA := heap_alloc_new w1 (.cells fr0.cs.toArray 44); have EA : Aside0 (∃ w2, w2 = (w1.alloc (.cells fr0.cs.toArray 44)).setRow w1.heap.size frA.cs.toArray) := ⟨_, rfl⟩)
    | (refine wpList_buildTo rfl 35 _ rfl (some 10) rfl #[.int .u8 1, .int .u16 5] ?_ ?_; (simp only [List.map_toArray, List.map_cons, List.map_nil]; exact head_ut 1 5))
    | (refine wpList_buildTo rfl 42 _ rfl (some 11) rfl (msg 6 0 1).toArray ?_ ?_; (simp only [List.map_toArray, List.map_cons, List.map_nil]; exact msg_cv 6 1))
    | (refine wpList_buildTo rfl 44 _ rfl (some 12) rfl frA.cs.toArray ?_ ?_; (simp only [List.map_toArray, List.map_cons, List.map_nil]; exact fr_built 1 5 6 0 1 (by decide) (by decide) (by decide)))
    | (have q5 := ZA; refine wpList_store_row rfl 44 (.tmp 2) (.tmp 12) rfl w1.heap.size frA.cs.toArray rfl rfl 44 fr0.cs.toArray hA SA ZA OA ?_; generalize (w1.alloc (.cells fr0.cs.toArray 44)).setRow w1.heap.size frA.cs.toArray = w2 at *; clear ZA q5 hA; obtain ⟨O3, VB, k3, -⟩ := O2.var frB; have hB := heap_alloc_new w2 (.cells fr0.cs.toArray 44))
    | (refine wpList_buildTo rfl 35 _ rfl (some 13) rfl #[.int .u8 1, .int .u16 5] ?_ ?_; (simp only [List.map_toArray, List.map_cons, List.map_nil]; exact head_ut 1 5))
    | (refine wpList_buildTo rfl 42 _ rfl (some 14) rfl (msg 6 0 2).toArray ?_ ?_; (simp only [List.map_toArray, List.map_cons, List.map_nil]; exact msg_cv 6 2))
    | (refine wpList_buildTo rfl 44 _ rfl (some 15) rfl frB.cs.toArray ?_ ?_; (simp only [List.map_toArray, List.map_cons, List.map_nil]; exact fr_built 1 5 6 0 2 (by decide) (by decide) (by decide)))
    | (have q5 := ZB; refine wpList_store_row rfl 44 (.tmp 3) (.tmp 15) rfl w2.heap.size frB.cs.toArray rfl rfl 44 fr0.cs.toArray hB SB ZB OB ?_; generalize (w2.alloc (.cells fr0.cs.toArray 44)).setRow w2.heap.size frB.cs.toArray = w3 at *; clear ZB q5 hB; have VA3 := VA.kept k3; have ha := VA3.row; have T1 := O3.take_ (by omega) 0 frA aw1)
    | (refine wpList_load_row rfl 44 (.tmp 2) rfl w1.heap.size rfl 44 frA.cs.toArray (0, 0) _ ha Try.underlying44 rfl SA ?_)
    | (refine wpList_load_row rfl 44 (.tmp 3) rfl w2.heap.size rfl 44 frB.cs.toArray (0, 0) _ hb Try.underlying44 rfl SB ?_)
    | (have q6 := T1; go_at_call 12; with_reducible refine T1.mono ?_; rintro e w4 ⟨v1, F1, rfl, O4, R1, ft1, k4⟩; clear T1 q6 ha; have VA4 := VA3.next k4 ft1; have VB4 := VB.next k4 ft1; have hb := VB4.row; have hF1 := foot_new hF ft1 (Nat.le_trans k1.size (Nat.le_trans k2.size k3.size)); have T2 := O4.take_ (by omega) 0 frB aw2)
    | (have q6 := T2; go_at_call 12; with_reducible refine T2.mono ?_; rintro e w5 ⟨v2, F2, rfl, O5, R2, ft2, k5⟩; clear T2 q6 hb; have VA5 := VA4.next k5 ft2; have ha := VA5.row; have R15 := R1.next k5 ft2; have hF2 := foot_new hF1 ft2 (Nat.le_trans k1.size (Nat.le_trans k2.size (Nat.le_trans k3.size k4.size))); have T3 := O5.take_ (by omega) 1 frA aw3)
    | (have q6 := T3; go_at_call 12; with_reducible refine T3.mono ?_; rintro e w6 ⟨v3, F3, rfl, O6, R3, ft3, k6⟩; clear T3 q6 ha; have R16 := R15.next k6 ft3; have R26 := R2.next k6 ft3;
       obtain ⟨g1, cap1, rfl, -, c1⟩ := R16.one; obtain ⟨g2, cap2, rfl, -, c2⟩ := R26.one; obtain ⟨g3, cap3, rfl, -, c3⟩ := R3.one;
       have d1 := c1 0 _ rfl; have d3 := c3 0 _ rfl; have d4 : w6.cell? ⟨g3, 7, none⟩ = some (.int .u16 1) := (c3 7 _ rfl); clear c1 c2 c3; have hop := O6.open_;
       have KK : Aside0 (Kept w w6 (fun _ => False)) := ⟨((((k1.trans k2 (fun _ _ h => h) (fun _ _ h => h)).trans k3 (fun _ _ h => h) (fun _ _ h => h)).trans k4 (fun _ _ h => h) (fun k hk h => by have := hF k h; omega)).trans k5 (fun _ _ h => h) (fun k hk h => by have := hF1 k h; omega)).trans k6 (fun _ _ h => h) (fun k hk h => by have := hF2 k h; omega)⟩;
       clear R1 R2 R3 R15 R16 R26 VA VA3 VA4 VA5 VB VB4 O1 O2 O3 O4 O5 k1 k2 k3 k4 k5 k6)
    | (go_at_call 16; with_reducible refine hop.mono ?_; rintro e w7 ⟨a, cap, rfl, ho, hn, k7⟩))

  go_ret
  exact ⟨rfl, KK.out.trans k7 (fun _ _ h => h) (fun _ _ h => h)⟩

/-- Cells that lie in a variable of the caller's, apart from a Pairs. -/
structure Vc (w : World) (F : Nat → Prop) (g : Nat) (cs : Array Value) (t : TypeId) : Prop where
  row : w.heap[g]? = some (.cells cs t (0, 0))
  apart : ¬ F g

theorem Vc.next {w w' : World} {F : Nat → Prop} {g : Nat} {cs : Array Value} {t : TypeId} (h : Vc w F g cs t) (k : Kept w w' F) {F' : Nat → Prop} (hF : ∀ b, F' b → F b ∨ w.heap.size ≤ b) : Vc w' F' g cs t :=
  ⟨k.heap h.row h.apart, fun hb => by
    rcases hF g hb with h' | h'
    · exact h.apart h'
    · have := heap_lt h.row; omega⟩

theorem kept_foot {w w1 w2 : World} {F : Nat → Prop} (k1 : Kept w w1 (fun _ => False)) (k2 : Kept w1 w2 F) (hF : ∀ b, F b → w.heap.size ≤ b) : Kept w w2 (fun _ => False) :=
  k1.trans k2 (fun _ _ h => h) (fun k hk h => by have := hF k h; omega)

end Go.Proofs.Ytmbjlondehcheaa
