/- PairCounts, walked: whatever framing and acts, it answers true: what each frame comes to keeps the sums. -/
import Derived.Test.YtmbjlondehcheaaProg
import Derived.Below
import Derived.OneCell
import Derived.WalkKit
import Derived.KernelRfl
import Derived.RowKit3
import Derived.Deep.LoopGhost
import Derived.Deep.QuietTactic
import Derived.BigQuiet
import Derived.Deep.DeepCutAuto
import Derived.Deep.CutBlock
import Derived.Deep.RegionWith
import Derived.OwnWalk
import Derived.Laws.Tables
import Derived.Laws.AppendOwn
import Derived.Shelf.SlSortCmp.KitK
import Derived.Shelf.RegionOpenPlain
import Derived.Sort.WalkB2
import Derived.Deep.MidRow
import Derived.Great.Walk
import Derived.Test.YtmbjlondehcheaaWWords
import Derived.Test.YtmbjlondehcheaaWLast
import Derived.Laws.StructEq
import Derived.Maps.Own
import Derived.Maps.RangeRun
import Derived.Test.YtmbjlondehcheaaHPairAwake
import Derived.Test.YtmbjlondehcheaaHPairFew
set_option linter.unusedSimpArgs false
set_option linter.unusedVariables false
namespace Go.Proofs.Ytmbjlondehcheaa
open Go.Shelf Go.RowKit Go.Lib Go.Sort Go.Proofs.YtmbjlondehcheaaW.PrintWords Go.Proofs.YtmbjlondehcheaaW.PrintLast Go.Proofs.Ytmbjlondehcheaa.PFW

theorem wrapi (n : Int) (h : 0 ≤ n ∧ n ≤ 9223372036854775807) : IntKind.i64.wrap n = n := by
  have hm : n % 18446744073709551616 = n := by omega
  unfold IntKind.wrap
  simp [IntKind.bits, IntKind.signed, hm]
  omega

/-- How often each kind was noted. -/
def kd (ks : List Nat) : Array Value := #[.int .i64 (ks.count 0 : Nat), .int .i64 (ks.count 1 : Nat), .int .i64 (ks.count 2 : Nat), .int .i64 (ks.count 3 : Nat), .int .i64 (ks.count 4 : Nat), .int .i64 (ks.count 5 : Nat), .int .i64 (ks.count 6 : Nat)]
theorem kd_get (ks : List Nat) {k : Nat} (h : k < 7) : (kd ks)[k]? = some (.int .i64 (ks.count k : Nat)) := by
  rcases (by omega : k = 0 ∨ k = 1 ∨ k = 2 ∨ k = 3 ∨ k = 4 ∨ k = 5 ∨ k = 6) with rfl | rfl | rfl | rfl | rfl | rfl | rfl <;> rfl
theorem kd_set (ks : List Nat) {k : Nat} (h : k < 7) : (kd ks).set! k (.int .i64 ((ks.count k : Nat) + 1)) = kd (ks ++ [k]) := by
  rcases (by omega : k = 0 ∨ k = 1 ∨ k = 2 ∨ k = 3 ∨ k = 4 ∨ k = 5 ∨ k = 6) with rfl | rfl | rfl | rfl | rfl | rfl | rfl <;> simp [kd, List.count_append]

theorem mk7 (w : World) : (Instr.makeSlice 53 (.int .i64 7) (.int .i64 7)).run Try.prog w = .ok (.slice (some ⟨w.heap.size, 0, none⟩) 7 7) (w.alloc (.cells (kd []) 3)) := by kernel_rfl

/-- What one frame adds to the sums. -/
structure Sums (L L' : List Ent) (q : List Nat) (dir : Int) : Prop where
  lt : ∀ k ∈ q, k < 7
  pos : 1 ≤ q.length
  two : q.length ≤ 2
  ask : q.count 0 + q.count 1 + q.count 3 = if dir = 0 then 1 else 0
  ans : q.count 4 + q.count 5 + q.count 6 = if dir = 0 then 0 else 1
  open_ : q.count 0 + L.length = q.count 2 + q.count 4 + q.count 5 + L'.length

theorem step_sums (net : Bool) (L : List Ent) (all : Nat) (dir : Int) (f : Fr) (h1 : net = false → L.length ≤ 1) (hd : dir = 0 ∨ dir = 1) :
    ∃ q : List Nat, (step net L all dir f).1.map (·.kind) = q.map (fun k : Nat => (k : Int)) ∧ Sums L (step net L all dir f).2.1 q dir ∧ (step net L all dir f).2.2 ≤ all + 1 := by
  rcases hd with rfl | rfl
  · unfold step
    rw [if_pos rfl]
    unfold ask
    cases net with
    | true =>
      simp only [if_true]
      by_cases h : L.length = 16
      · rw [if_pos h]
        exact ⟨[3], by simp, ⟨by simp, by simp, by simp, by simp, by simp, by simp⟩, by simp⟩
      · rw [if_neg h]
        exact ⟨[0], by simp, ⟨by simp, by simp, by simp, by simp, by simp, by simp; omega⟩, by simp⟩
    | false =>
      rw [if_neg (by simp)]
      by_cases h : f.u = 0
      · rw [if_pos h]
        exact ⟨[1], by simp, ⟨by simp, by simp, by simp, by simp, by simp, by simp⟩, by simp⟩
      · rw [if_neg h]
        have hl := h1 rfl
        cases L with
        | nil => exact ⟨[0], by simp, ⟨by simp, by simp, by simp, by simp, by simp, by simp⟩, by simp⟩
        | cons y t =>
          cases t with
          | nil => exact ⟨[2, 0], by simp, ⟨by simp, by simp, by simp, by simp, by simp, by simp⟩, by simp⟩
          | cons z t => simp at hl
  · unfold step
    rw [if_neg (by decide), if_pos rfl]
    unfold ans
    generalize hdOf net L f = h
    cases he : L.find? (hd h.1 h.2) with
    | none => exact ⟨[6], by simp, ⟨by simp, by simp, by simp, by simp, by simp, by simp⟩, by simp⟩
    | some e =>
      have hm : e ∈ L := List.mem_of_find?_eq_some he
      have hp := List.find?_some he
      have hl := List.length_eraseP_of_mem hm hp
      have hpos : 0 < L.length := List.length_pos_of_mem hm
      by_cases hc : e.f.c = f.c
      · exact ⟨[4], by simp [hc], ⟨by simp, by simp, by simp, by simp, by simp, by simp [hl]; omega⟩, by simp⟩
      · exact ⟨[5], by simp [hc], ⟨by simp, by simp, by simp, by simp, by simp, by simp [hl]; omega⟩, by simp⟩

/-- What stands between two rounds. -/
structure CtAt (w wr : World) (pb gk : Nat) (net : Bool) (ks : List Nat) (L : List Ent) (all asks answers i : Nat) : Prop where
  own : ∃ F, Own wr pb net L all F ∧ (∀ b, F b → w.heap.size ≤ b ∧ b ≠ gk)
  row : wr.heap[gk]? = some (.cells (kd ks) 3 (0, 0))
  new : w.heap.size ≤ gk
  kept : Kept w wr (fun _ => False)
  ask : ks.count 0 + ks.count 1 + ks.count 3 = asks
  ans : ks.count 4 + ks.count 5 + ks.count 6 = answers
  open_ : ks.count 0 = ks.count 2 + ks.count 4 + ks.count 5 + L.length
  few : ks.length ≤ 2 * i
  all_ : all ≤ i
  sum : asks + answers = i

/-- What stands while the notes of one frame are counted. -/
structure InAt (w wr : World) (pb kb g : Nat) (net : Bool) (ks q : List Nat) (k : Nat) (L : List Ent) (all : Nat) : Prop where
  own : ∃ F, Own wr pb net L all F ∧ (∀ b, F b → w.heap.size ≤ b ∧ b ≠ kb)
  row : wr.heap[kb]? = some (.cells (kd (ks ++ q.take k)) 3 (0, 0))
  cells : ∀ j x, q[j]? = some x → wr.cell? ⟨g, j * 49, none⟩ = some (.int .i64 (x : Nat))
  apart : g ≠ kb
  new : w.heap.size ≤ kb
  kept : Kept w wr (fun _ => False)

theorem CtAt.take {w wr : World} {pb kb : Nat} {net : Bool} {ks : List Nat} {L : List Ent} {all asks answers i : Nat} (h : CtAt w wr pb kb net ks L all asks answers i) (hi : i ≤ 60) (dir : Int) (hd : dir = 0 ∨ dir = 1) (f : Fr) :
    Calls Try.prog 12 #[.pointer (some ⟨pb, 0, none⟩), .int .i64 dir, .agg f.cs.toArray] wr fun r w' => ∃ g cap n q L' all', r = .returned (.slice (some ⟨g, 0, none⟩) n cap) ∧ List.length q = n ∧ Sums L L' q dir ∧ all' ≤ i + 1 ∧ InAt w w' pb kb g net ks q 0 L' all' := by
  obtain ⟨F, O, hF⟩ := h.own
  have hall := h.all_
  obtain ⟨q, e1, hS, ha⟩ := step_sums net L all dir f O.one hd
  have hlen : (step net L all dir f).1.length = q.length := by simpa using congrArg List.length e1
  refine (O.take (by omega) dir f).mono fun r w' ⟨v, F', he, O', R, ft, k⟩ => ?_
  have hpos := hS.pos
  obtain ⟨g, cap, rfl, hb, hc⟩ := R.cells (by omega)
  rw [hlen] at he
  have hrow := k.heap h.row (fun hk => (hF _ hk).2 rfl)
  have hlt := heap_lt h.row
  have hgk : g ≠ kb := by
    rintro rfl
    rcases R.row.2 with ⟨_, h1⟩ | ⟨g', cap', cur, hv, _, hg, _⟩
    · omega
    · injection hv with hv1
      injection hv1 with hv2
      injection hv2 with hv3
      subst hv3
      rw [hrow] at hg
      injection hg with hg
      injection hg with _ hg2
      exact absurd hg2 (by decide)
  refine ⟨g, cap, _, q, _, _, he, rfl, hS, by omega, ⟨F', O', fun b hb => ?_⟩, by simpa using hrow, fun j x hx => ?_, hgk, h.new, h.kept.trans k (fun _ _ h => h) (fun b hb h' => by have := (hF b h').1; omega)⟩
  · rcases ft b hb with h' | h'
    · exact hF b h'
    · have := h.kept.size; omega
  · have hj : j < (step net L all dir f).1.length := by rw [hlen]; exact (List.getElem?_eq_some_iff.1 hx).1
    have hk : ((step net L all dir f).1[j]).kind = (x : Int) := by
      have := congrArg (fun z => z[j]?) e1
      simp only [List.getElem?_map, hx, List.getElem?_eq_getElem hj, Option.map_some] at this
      exact Option.some.inj this
    have := hc j _ 0 (.int .i64 x) (List.getElem?_eq_getElem hj) (by rw [← hk]; rfl)
    rwa [Nat.add_zero] at this

theorem InAt.cnt {w wr : World} {pb kb g : Nat} {net : Bool} {ks q : List Nat} {k : Nat} {L : List Ent} {all : Nat} (h : InAt w wr pb kb g net ks q k L all) {x : Nat} (hx : x < 7) : wr.cell? ⟨kb, x, none⟩ = some (.int .i64 (((ks ++ q.take k).count x : Nat) : Int)) := by
  rw [cell_of_row wr kb x _ 3 (0, 0) h.row]; exact kd_get _ hx

theorem InAt.store {w wr : World} {pb kb g : Nat} {net : Bool} {ks q : List Nat} {k : Nat} {L : List Ent} {all : Nat} (h : InAt w wr pb kb g net ks q k L all) {x : Nat} (hq : q[k]? = some x) (hx : x < 7) :
    InAt w (wr.setCell ⟨kb, x, none⟩ (.int .i64 ((((ks ++ q.take k).count x : Nat) : Int) + 1))) pb kb g net ks q (k + 1) L all := by
  obtain ⟨F, O, hF⟩ := h.own
  have q1 := Kept.setCell wr kb x (.int .i64 ((((ks ++ q.take k).count x : Nat) : Int) + 1)) (F := fun b => b = kb) rfl
  refine ⟨⟨F, O.kept q1 (fun b hb e => (hF b hb).2 e), hF⟩, ?_, fun j y hy => ?_, h.apart, h.new, h.kept.trans q1 (fun _ _ h => h) (fun b hb e => by have := h.new; omega)⟩
  · have := setCell_row (i := x) (v := .int .i64 ((((ks ++ q.take k).count x : Nat) : Int) + 1)) h.row
    rw [this, List.take_add_one, hq, Option.toList_some, ← List.append_assoc, ← kd_set _ hx]
    rfl
  · rw [World.cell?_setCell_other]
    · exact h.cells j y hy
    · intro e
      injection e with e1
      exact h.apart e1.symm

theorem InAt.next {w wr : World} {pb kb g : Nat} {net : Bool} {ks q : List Nat} {L L' : List Ent} {all asks answers i asks' answers' : Nat} {dir : Int} (h : InAt w wr pb kb g net ks q q.length L' all) (hS : Sums L L' q dir) (ha : all ≤ i + 1)
    (h1 : ks.count 0 + ks.count 1 + ks.count 3 = asks) (h2 : ks.count 4 + ks.count 5 + ks.count 6 = answers) (h3 : ks.count 0 = ks.count 2 + ks.count 4 + ks.count 5 + L.length) (h4 : ks.length ≤ 2 * i) (h5 : asks + answers = i)
    (ea : asks' = asks + (if dir = 0 then 1 else 0)) (eb : answers' = answers + (if dir = 0 then 0 else 1)) : CtAt w wr pb kb net (ks ++ q) L' all asks' answers' (i + 1) := by
  have a1 := hS.ask
  have a2 := hS.ans
  have a3 := hS.open_
  have a4 := hS.two
  refine ⟨h.own, by simpa using h.row, h.new, h.kept, ?_, ?_, ?_, ?_, ha, ?_⟩
  · simp only [List.count_append]; omega
  · simp only [List.count_append]; omega
  · simp only [List.count_append]; omega
  · simp only [List.length_append]; omega
  · rw [ea, eb]; split <;> omega

theorem CtAt.keep {w wr w' : World} {pb kb : Nat} {net : Bool} {ks : List Nat} {L : List Ent} {all asks answers i : Nat} (h : CtAt w wr pb kb net ks L all asks answers i) (k : Kept wr w' (fun _ => False)) : CtAt w w' pb kb net ks L all asks answers i := by
  obtain ⟨F, O, hF⟩ := h.own
  exact ⟨⟨F, O.kept k (fun _ _ h => h), hF⟩, k.heap h.row (fun h => h), h.new, h.kept.trans k (fun _ _ h => h) (fun _ _ h => h), h.ask, h.ans, h.open_, h.few, h.all_, h.sum⟩

/-- The frame that lies in an act. -/
theorem fr_of {w : World} {x : S44} {cs : List Value} (h : k44.K w x cs) (h1 : 0 ≤ x.f0.f0 ∧ x.f0.f0 < 256) (h2 : 0 ≤ x.f0.f1 ∧ x.f0.f1 < 65536) (h3 : 0 ≤ x.f1.f0 ∧ x.f1.f0 < 256) : ∃ f : Fr, f.cs = cs := by
  have hone := k44.K_one h
  obtain ⟨A14, c14, A15, c15, A16, c16, A17, c17, A23, c23, rfl, -⟩ := k44_open h
  exact ⟨⟨x.f0.f0, x.f0.f1, x.f1.f0, fun i => (([.int .u8 x.f1.f1, .int .u16 x.f1.f2, .int .u16 x.f1.f3, .int .u16 x.f1.f4, .int .u16 x.f1.f5, .int .u16 x.f1.f6, .int .u16 x.f1.f7, .int .u16 x.f1.f8, .int .u16 x.f1.f9, .int .u16 x.f1.f10, .int .u16 x.f1.f11, .slice A14 x.f1.f12.length c14, .slice A15 x.f1.f13.length c15, .slice A16 x.f1.f14.length c16, .slice A17 x.f1.f15.length c17, .int .u8 x.f1.f16, .int .u8 x.f1.f17, .int .u8 x.f1.f18, .int .u8 x.f1.f19, .int .u8 x.f1.f20, .slice A23 x.f1.f21.length c23] : List Value)[i]?).getD (.int .u8 0), h1, h2, h3, fun i => by
    rcases Nat.lt_or_ge i 21 with hi | hi
    · rcases (by omega : i = 0 ∨ i = 1 ∨ i = 2 ∨ i = 3 ∨ i = 4 ∨ i = 5 ∨ i = 6 ∨ i = 7 ∨ i = 8 ∨ i = 9 ∨ i = 10 ∨ i = 11 ∨ i = 12 ∨ i = 13 ∨ i = 14 ∨ i = 15 ∨ i = 16 ∨ i = 17 ∨ i = 18 ∨ i = 19 ∨ i = 20) with rfl | rfl | rfl | rfl | rfl | rfl | rfl | rfl | rfl | rfl | rfl | rfl | rfl | rfl | rfl | rfl | rfl | rfl | rfl | rfl | rfl <;> rfl
    · rw [List.getElem?_eq_none (by simpa using hi)]; rfl⟩, rfl⟩

theorem ct_start {w w1 w2 : World} {pb : Nat} {net : Bool} {F : Nat → Prop} (O : Own w2 pb net [] 0 F) (hF : ∀ b, F b → w1.heap.size ≤ b) (k : Kept w w1 (fun _ => False)) (k2 : Kept w1 w2 (fun _ => False)) :
    CtAt w (w2.alloc (.cells (kd []) 3)) pb w2.heap.size net [] [] 0 0 0 0 :=
  ⟨⟨F, O.kept (Kept.alloc w2 _ (fun _ => False)) (fun _ _ h => h), fun b hb => ⟨Nat.le_trans k.size (hF b hb), fun e => by have := O.lt hb; omega⟩⟩, heap_alloc_new _ _, Nat.le_trans k.size k2.size, (k.trans k2 (fun _ _ h => h) (fun _ _ h => h)).trans (Kept.alloc w2 _ (fun _ => False)) (fun _ _ h => h) (fun _ _ h => h), rfl, rfl, rfl, by simp, Nat.le_refl _, rfl⟩

set_option maxHeartbeats 8000000 in
set_option maxRecDepth 1000000 in
theorem counts_calls (fr : Int) (hfr : 0 ≤ fr ∧ fr < 256) (A : Option Addr) (c : Nat) (l : List S46) (w : World) (hC : Kd.C k46 w A l.length l) (hc : l.length ≤ c)
    (hB : ∀ x ∈ l, (Lit.int .i64 x.f0).wf = true ∧ (0 ≤ x.f1.f0.f0 ∧ x.f1.f0.f0 < 256) ∧ (0 ≤ x.f1.f0.f1 ∧ x.f1.f0.f1 < 65536) ∧ (0 ≤ x.f1.f1.f0 ∧ x.f1.f1.f0 < 256)) :
    Calls Try.prog 4 #[.int .u8 fr, .slice A l.length c] w fun r w' => r = .returned (.bool true) ∧ Kept w w' (fun _ => False) := by
  have haw := awake_calls w
  obtain ⟨m, hm, hm3⟩ : ∃ m : Int, fr.tmod 3 = m ∧ (m = 0 ∨ m = 1 ∨ m = 2) := ⟨_, rfl, by
    have := Int.tmod_nonneg 3 hfr.1; have := Int.tmod_lt_of_pos fr (show (0 : Int) < 3 by decide); omega⟩
  have hmb : 0 ≤ m ∧ m < 3 := by omega
  have hnew := new_calls m hm3
  have hmk := mk7
  have HC : Aside0 (Kd.C k46 w A l.length l) := ⟨hC⟩
  have HB : Aside0 _ := ⟨hB⟩
  clear hC hB hm3
  go_enter Try.func4, Try.ntmps4
  go_wp2_with (first
    | (go_at_call 9; with_reducible refine haw.mono ?_; rintro e w0 ⟨rfl, k0⟩; have hfew := few_calls A c l w0 (Kd.C_below HC.out k0.toBelow) hc; clear haw)
    | (go_at_call 10; with_reducible refine hfew.mono ?_; rintro e w1 hcase; clear hfew; rcases hcase with ⟨rfl, k1⟩ | ⟨rfl, h60, k1⟩)
    | (go_at_call 11; with_reducible refine (hnew _).mono ?_; rintro e w2 ⟨pb, F, rfl, O1, hF, k2⟩; clear hnew; obtain ⟨net, hnet⟩ : ∃ net : Bool, decide (m = 2) = net := ⟨_, rfl⟩; rw [hnet] at O1; have ST : Aside0 (CtAt w (w2.alloc (.cells (kd []) 3)) pb w2.heap.size net [] [] 0 0 0 0) := ⟨ct_start O1 hF (k0.trans k1 (fun _ _ h => h) (fun _ _ h => h)) k2⟩; clear O1 hF k0 k1 k2))
  case' _ => go_ret; exact ⟨rfl, k0.trans k1 (fun _ _ h => h) (fun _ _ h => h)⟩

  obtain ⟨kb, hkb⟩ : ∃ kb, kb = w2.heap.size := ⟨_, rfl⟩
  rw [← hkb] at ST ⊢
  clear hkb hmk
  go_loopg [9, 10, 11] l.length (fun kx s9 s10 s11 wr => ∃ asks answers i : Nat, s9 = .int .i64 asks ∧ s10 = .int .i64 answers ∧ s11 = .int .i64 i ∧ i ≤ l.length ∧ l.length - i ≤ kx ∧ Aside0 (∃ ks L all, CtAt w wr pb kb net ks L all asks answers i))
  case atStart => exact ⟨0, 0, 0, rfl, rfl, rfl, Nat.zero_le _, Nat.le_refl _, ⟨_, _, _, ST.out⟩⟩
  case round =>
    clear ST
    obtain ⟨asks, answers, i, rfl, rfl, rfl, hi, hkx, ⟨ks, L, all, hS⟩⟩ := hrel
    by_cases hlt : i < l.length
    · obtain ⟨ad, cs, rfl, hK, c0, hr⟩ := acts_at (Kd.C_below HC.out hS.kept.toBelow) hlt
      obtain ⟨b0, b1, b2, b3⟩ := HB.out l[i] (List.getElem_mem hlt)
      obtain ⟨f, rfl⟩ := fr_of hK b1 b2 b3
      obtain ⟨d, hd⟩ : ∃ d, d = l[i].f0 := ⟨_, rfl⟩
      rw [← hd] at c0 b0
      have hdb := bounds_i64 b0
      have szl44 : (Try.prog.info? 44).map (·.size) = some f.cs.length := by rw [Fr.len]; kernel_rfl
      have hiz : (i : Int) < (l.length : Int) := by omega
      have hi60 : (i : Int) ≤ 60 := by omega
      have hsum := hS.sum
      have haz : (asks : Int) ≤ 60 := by omega
      have hbz : (answers : Int) ≤ 60 := by omega
      clear hK b0 b1 b2 b3 hd
      obtain ⟨q, hq⟩ : ∃ q, d.tmod 2 = q := ⟨_, rfl⟩
      by_cases hq0 : q = 0
      · subst hq0
        have T := hS.take (by omega) 0 (.inl rfl) f
        have X : Aside0 _ := ⟨hS⟩
        clear hS
        go_wp2_with (first
          | (refine wpList_load_mid rfl 44 (.tmp 51) rfl _ _ rfl f.cs _ hr Try.underlying44 rfl szl44 ?_)
          | (have q6 := T; go_at_call 12; with_reducible refine T.mono ?_; rintro e w2 ⟨g, cap, n, ns, L', all', rfl, hn, hSm, hall, hIn⟩; clear T q6 c0 hr; have hnp : 1 ≤ n := (by rw [← hn]; exact hSm.pos); have hnt : n ≤ 2 := (by rw [← hn]; exact hSm.two); have hn1 : ((n : Int) == 0) = false := (by simp; omega); have hn0 : ¬ (n = 0) := (by omega); have hn2 : ¬ (2 < (n : Int)) := (by omega); have hn2b : (n : Int) ≤ 2 := (by omega); have HN : Aside0 _ := ⟨hn⟩; have HS : Aside0 _ := ⟨hSm⟩; have HALL : Aside0 _ := ⟨hall⟩; have START : Aside0 _ := ⟨hIn⟩; clear hn hSm hall hIn hnp))
        go_loopg [14] n (fun kx s14 wr => ∃ k : Nat, s14 = .int .i64 k ∧ k ≤ n ∧ n - k ≤ kx ∧ Aside0 (InAt w wr pb kb g net ks ns k L' all'))
        case atStart => exact ⟨0, rfl, Nat.zero_le _, Nat.le_refl _, START⟩
        case round =>
          clear START
          obtain ⟨k, rfl, hk, hkx2, ⟨hIn⟩⟩ := hrel
          by_cases hltk : k < n
          · have hkn : k < ns.length := by rw [HN.out]; exact hltk
            obtain ⟨x, hx⟩ : ∃ x, ns[k]? = some x := ⟨_, List.getElem?_eq_getElem hkn⟩
            have hx7 : x < 7 := HS.out.lt x (List.mem_of_getElem? hx)
            have cn := hIn.cells k x hx
            have cc := hIn.cnt hx7
            have fz : wr.frozen? ⟨kb, x, none⟩ = false := by simp [World.frozen?, hIn.row]
            have NX : Aside0 _ := ⟨hIn.store hx hx7⟩
            have hcb : (ks ++ ns.take k).count x ≤ 200 := by
              have h1 : (ks ++ ns.take k).count x ≤ (ks ++ ns.take k).length := List.count_le_length
              have h2 := X.out.few
              have h3 := HS.out.two
              simp only [List.length_append, List.length_take] at h1
              omega
            generalize (ks ++ ns.take k).count x = y at *
            have hkz : (k : Int) < (n : Int) := by omega
            have hxz0 : ¬ ((x : Int) < 0) := by omega
            have hxz6 : ¬ (6 < (x : Int)) := by omega
            have hxz7 : (x : Int) < 7 := by omega
            have hyz : (y : Int) ≤ 200 := by omega
            have hkz2 : (k : Int) ≤ 2 := by omega
            clear hIn hx
            go_wp2
            go_roundg (n - (k + 1))
            case measure => omega
            case rel => exact ⟨k + 1, by go_num, by omega, Nat.le_refl _, NX⟩
          · have hgek : ¬ ((k : Int) < (n : Int)) := by omega
            obtain rfl : k = n := by omega
            have NX : CtAt w wr pb kb net (ks ++ ns) L' all' (asks + 1) (answers) (i + 1) := by
              have e := hIn
              rw [← HN.out] at e
              exact e.next HS.out HALL.out X.out.ask X.out.ans X.out.open_ X.out.few X.out.sum (by simp) (by simp)
            obtain ⟨F, O, hF⟩ := NX.own
            have hop := O.open_
            have h16 := O.few
            have hone := O.one
            obtain ⟨nL, hnL⟩ : ∃ nL, nL = L'.length := ⟨_, rfl⟩
            rw [← hnL] at hop h16 hone
            have NX1 : Aside0 _ := ⟨NX⟩
            clear NX O hF hIn hnL
            have h16z : ¬ (16 < (nL : Int)) := by omega
            have h16n : ¬ (16 < nL) := by omega
            by_cases h1 : 1 < nL
            · have h1z : 1 < (nL : Int) := by omega
              have hnt2 : net = true := by
                cases net with
                | true => rfl
                | false => have := hone rfl; omega
              have hm2 : m = 2 := by rw [hnt2] at hnet; exact of_decide_eq_true hnet
              subst hm2
              go_wp2_with (go_at_call 16; with_reducible refine hop.mono ?_; rintro e w7 ⟨oa, ocap, rfl, ho, hn7, k7⟩; have NX2 : Aside0 _ := ⟨NX1.out.keep k7⟩; clear hop ho hn7 k7)
              go_roundg (l.length - (i + 1))
              case measure => omega
              case rel => exact ⟨asks + 1, answers, i + 1, by go_num, by go_num, by go_num, by omega, Nat.le_refl _, ⟨_, _, _, NX2.out⟩⟩
            · have h1z : ¬ (1 < (nL : Int)) := by omega
              go_wp2_with (go_at_call 16; with_reducible refine hop.mono ?_; rintro e w7 ⟨oa, ocap, rfl, ho, hn7, k7⟩; have NX2 : Aside0 _ := ⟨NX1.out.keep k7⟩; clear hop ho hn7 k7)
              go_roundg (l.length - (i + 1))
              case measure => omega
              case rel => exact ⟨asks + 1, answers, i + 1, by go_num, by go_num, by go_num, by omega, Nat.le_refl _, ⟨_, _, _, NX2.out⟩⟩
      · have hq1 : (q == 0) = false := by simpa using hq0
        have T := hS.take (by omega) 1 (.inr rfl) f
        have X : Aside0 _ := ⟨hS⟩
        clear hS
        go_wp2_with (first
          | (refine wpList_load_mid rfl 44 (.tmp 51) rfl _ _ rfl f.cs _ hr Try.underlying44 rfl szl44 ?_)
          | (have q6 := T; go_at_call 12; with_reducible refine T.mono ?_; rintro e w2 ⟨g, cap, n, ns, L', all', rfl, hn, hSm, hall, hIn⟩; clear T q6 c0 hr; have hnp : 1 ≤ n := (by rw [← hn]; exact hSm.pos); have hnt : n ≤ 2 := (by rw [← hn]; exact hSm.two); have hn1 : ((n : Int) == 0) = false := (by simp; omega); have hn0 : ¬ (n = 0) := (by omega); have hn2 : ¬ (2 < (n : Int)) := (by omega); have hn2b : (n : Int) ≤ 2 := (by omega); have HN : Aside0 _ := ⟨hn⟩; have HS : Aside0 _ := ⟨hSm⟩; have HALL : Aside0 _ := ⟨hall⟩; have START : Aside0 _ := ⟨hIn⟩; clear hn hSm hall hIn hnp))
        go_loopg [14] n (fun kx s14 wr => ∃ k : Nat, s14 = .int .i64 k ∧ k ≤ n ∧ n - k ≤ kx ∧ Aside0 (InAt w wr pb kb g net ks ns k L' all'))
        case atStart => exact ⟨0, rfl, Nat.zero_le _, Nat.le_refl _, START⟩
        case round =>
          clear START
          obtain ⟨k, rfl, hk, hkx2, ⟨hIn⟩⟩ := hrel
          by_cases hltk : k < n
          · have hkn : k < ns.length := by rw [HN.out]; exact hltk
            obtain ⟨x, hx⟩ : ∃ x, ns[k]? = some x := ⟨_, List.getElem?_eq_getElem hkn⟩
            have hx7 : x < 7 := HS.out.lt x (List.mem_of_getElem? hx)
            have cn := hIn.cells k x hx
            have cc := hIn.cnt hx7
            have fz : wr.frozen? ⟨kb, x, none⟩ = false := by simp [World.frozen?, hIn.row]
            have NX : Aside0 _ := ⟨hIn.store hx hx7⟩
            have hcb : (ks ++ ns.take k).count x ≤ 200 := by
              have h1 : (ks ++ ns.take k).count x ≤ (ks ++ ns.take k).length := List.count_le_length
              have h2 := X.out.few
              have h3 := HS.out.two
              simp only [List.length_append, List.length_take] at h1
              omega
            generalize (ks ++ ns.take k).count x = y at *
            have hkz : (k : Int) < (n : Int) := by omega
            have hxz0 : ¬ ((x : Int) < 0) := by omega
            have hxz6 : ¬ (6 < (x : Int)) := by omega
            have hxz7 : (x : Int) < 7 := by omega
            have hyz : (y : Int) ≤ 200 := by omega
            have hkz2 : (k : Int) ≤ 2 := by omega
            clear hIn hx
            go_wp2
            go_roundg (n - (k + 1))
            case measure => omega
            case rel => exact ⟨k + 1, by go_num, by omega, Nat.le_refl _, NX⟩
          · have hgek : ¬ ((k : Int) < (n : Int)) := by omega
            obtain rfl : k = n := by omega
            have NX : CtAt w wr pb kb net (ks ++ ns) L' all' (asks) (answers + 1) (i + 1) := by
              have e := hIn
              rw [← HN.out] at e
              exact e.next HS.out HALL.out X.out.ask X.out.ans X.out.open_ X.out.few X.out.sum (by simp) (by simp)
            obtain ⟨F, O, hF⟩ := NX.own
            have hop := O.open_
            have h16 := O.few
            have hone := O.one
            obtain ⟨nL, hnL⟩ : ∃ nL, nL = L'.length := ⟨_, rfl⟩
            rw [← hnL] at hop h16 hone
            have NX1 : Aside0 _ := ⟨NX⟩
            clear NX O hF hIn hnL
            have h16z : ¬ (16 < (nL : Int)) := by omega
            have h16n : ¬ (16 < nL) := by omega
            by_cases h1 : 1 < nL
            · have h1z : 1 < (nL : Int) := by omega
              have hnt2 : net = true := by
                cases net with
                | true => rfl
                | false => have := hone rfl; omega
              have hm2 : m = 2 := by rw [hnt2] at hnet; exact of_decide_eq_true hnet
              subst hm2
              go_wp2_with (go_at_call 16; with_reducible refine hop.mono ?_; rintro e w7 ⟨oa, ocap, rfl, ho, hn7, k7⟩; have NX2 : Aside0 _ := ⟨NX1.out.keep k7⟩; clear hop ho hn7 k7)
              go_roundg (l.length - (i + 1))
              case measure => omega
              case rel => exact ⟨asks, answers + 1, i + 1, by go_num, by go_num, by go_num, by omega, Nat.le_refl _, ⟨_, _, _, NX2.out⟩⟩
            · have h1z : ¬ (1 < (nL : Int)) := by omega
              go_wp2_with (go_at_call 16; with_reducible refine hop.mono ?_; rintro e w7 ⟨oa, ocap, rfl, ho, hn7, k7⟩; have NX2 : Aside0 _ := ⟨NX1.out.keep k7⟩; clear hop ho hn7 k7)
              go_roundg (l.length - (i + 1))
              case measure => omega
              case rel => exact ⟨asks, answers + 1, i + 1, by go_num, by go_num, by go_num, by omega, Nat.le_refl _, ⟨_, _, _, NX2.out⟩⟩
    · have hge : ¬ ((i : Int) < (l.length : Int)) := by omega
      obtain rfl : i = l.length := by omega
      have cj : ∀ x, x < 7 → wr.cell? ⟨kb, x, none⟩ = some (.int .i64 ((ks.count x : Nat) : Int)) := fun x hx => by rw [cell_of_row wr kb x _ 3 (0, 0) hS.row]; exact kd_get _ hx
      have d0 := cj 0 (by omega)
      have d1 := cj 1 (by omega)
      have d2 := cj 2 (by omega)
      have d3 := cj 3 (by omega)
      have d4 := cj 4 (by omega)
      have d5 := cj 5 (by omega)
      have d6 := cj 6 (by omega)
      have s1 := hS.ask
      have s2 := hS.ans
      have s3 := hS.open_
      have s4 : ∀ x, ks.count x ≤ 120 := fun x => Nat.le_trans List.count_le_length (by have := hS.few; omega)
      have b0 := s4 0
      have b1 := s4 1
      have b2 := s4 2
      have b3 := s4 3
      have b4 := s4 4
      have b5 := s4 5
      have b6 := s4 6
      obtain ⟨F, O, hF⟩ := hS.own
      have hop := O.open_
      have h16 := O.few
      have KK : Aside0 _ := ⟨hS.kept⟩
      have OO : Aside0 _ := ⟨O⟩
      clear cj hS O hF s4 hge hi hkx hop
      generalize ks.count 0 = y0 at *
      generalize ks.count 1 = y1 at *
      generalize ks.count 2 = y2 at *
      generalize ks.count 3 = y3 at *
      generalize ks.count 4 = y4 at *
      generalize ks.count 5 = y5 at *
      generalize ks.count 6 = y6 at *
      obtain ⟨nL, hnL⟩ : ∃ nL, nL = L.length := ⟨_, rfl⟩
      rw [← hnL] at h16 s3
      have e1 : (y0 : Int) + (y1 : Int) + (y3 : Int) = (asks : Int) := by omega
      have e2 : (y4 : Int) + (y5 : Int) + (y6 : Int) = (answers : Int) := by omega
      have e3 : (y2 : Int) + (y4 : Int) + (y5 : Int) + (nL : Int) = (y0 : Int) := by omega
      have z0 : (y0 : Int) ≤ 120 := by omega
      have z1 : (y1 : Int) ≤ 120 := by omega
      have z2 : (y2 : Int) ≤ 120 := by omega
      have z3 : (y3 : Int) ≤ 120 := by omega
      have z4 : (y4 : Int) ≤ 120 := by omega
      have z5 : (y5 : Int) ≤ 120 := by omega
      have z6 : (y6 : Int) ≤ 120 := by omega
      have zL : (nL : Int) ≤ 16 := by omega
      have HL : Aside0 _ := ⟨hnL⟩
      clear s1 s2 s3 b0 b1 b2 b3 b4 b5 b6 hnL h16 h60
      have hgeL : ¬ ((l.length : Int) < (l.length : Int)) := by omega
      go_wp2
      go_quiet (fail)
      go_wp2
      have kq : Kept wr (wr.drewN nq).drew (fun _ => False) := (Kept.drewN wr nq _).trans (Kept.drew _ (fun _ => False)) (fun _ _ h => h) (fun _ _ h => h)
      have hop := (OO.out.kept kq (fun _ _ h => h)).open_
      rw [← HL.out] at hop
      have KK2 : Aside0 _ := ⟨KK.out.trans kq (fun _ _ h => h) (fun _ _ h => h)⟩
      have SH : (wr.drewN nq).drew.cell? ⟨kb, 0, none⟩ = some (.int .i64 (y0 : Int)) ∧ (wr.drewN nq).drew.cell? ⟨kb, 2, none⟩ = some (.int .i64 (y2 : Int)) ∧ (wr.drewN nq).drew.cell? ⟨kb, 4, none⟩ = some (.int .i64 (y4 : Int)) ∧ (wr.drewN nq).drew.cell? ⟨kb, 5, none⟩ = some (.int .i64 (y5 : Int)) := ⟨d0, d2, d4, d5⟩
      clear kq KK OO
      refine start_ (n := 23) (S := fun w' => w'.cell? ⟨kb, 0, none⟩ = some (.int .i64 (y0 : Int)) ∧ w'.cell? ⟨kb, 2, none⟩ = some (.int .i64 (y2 : Int)) ∧ w'.cell? ⟨kb, 4, none⟩ = some (.int .i64 (y4 : Int)) ∧ w'.cell? ⟨kb, 5, none⟩ = some (.int .i64 (y5 : Int))) (ds := []) #[false, false, false, false, false, false, false, false, false, false, false, false, false, false, false, false, false, false, false, false, false, false, false] (by kernel_rfl) rfl rfl SH (fun hHeld => ?_)
      clear hHeld
      refine pure_ (i := 0) (N := (some 134)) (v := ?_) (a' := ?_) #[true, false, false, false, false, false, false, false, false, false, false, false, false, false, false, false, false, false, false, false, false, false, false] rfl rfl (by kernel_rfl) (fun _ _ _ h => h) (Or.inl ⟨by rfl, ?_⟩) ?_ ?_
      rotate_left
      · intro w'
        go_simp
        with_reducible rfl
      rotate_left
      · (try simp only [Act.put, List.setIfInBounds_toArray, List.set_cons_zero, List.set_cons_succ]); rfl
      refine pure_ (i := 1) (N := (some 135)) (v := ?_) (a' := ?_) #[true, true, false, false, false, false, false, false, false, false, false, false, false, false, false, false, false, false, false, false, false, false, false] rfl rfl (by kernel_rfl) (fun _ _ _ h => h) (Or.inl ⟨by rfl, ?_⟩) ?_ ?_
      rotate_left
      · intro w'
        go_simp
        with_reducible rfl
      rotate_left
      · (try simp only [Act.put, List.setIfInBounds_toArray, List.set_cons_zero, List.set_cons_succ]); rfl
      refine pure_ (i := 2) (N := (some 136)) (v := ?_) (a' := ?_) #[true, true, true, false, false, false, false, false, false, false, false, false, false, false, false, false, false, false, false, false, false, false, false] rfl rfl (by kernel_rfl) (fun _ _ _ h => h) (Or.inl ⟨by rfl, ?_⟩) ?_ ?_
      rotate_left
      · intro w'
        go_simp
        with_reducible rfl
      rotate_left
      · (try simp only [Act.put, List.setIfInBounds_toArray, List.set_cons_zero, List.set_cons_succ]); rfl
      refine pure_ (i := 3) (N := (some 137)) (v := ?_) (a' := ?_) #[true, true, true, true, false, false, false, false, false, false, false, false, false, false, false, false, false, false, false, false, false, false, false] rfl rfl (by kernel_rfl) (fun _ _ _ h => h) (Or.inl ⟨by rfl, ?_⟩) ?_ ?_
      rotate_left
      · intro w'
        go_simp
        with_reducible rfl
      rotate_left
      · (try simp only [Act.put, List.setIfInBounds_toArray, List.set_cons_zero, List.set_cons_succ]); rfl
      refine take_ (i := 4) (N := (some 138)) (v := ?_) (a' := ?_) #[true, true, true, true, true, false, false, false, false, false, false, false, false, false, false, false, false, false, false, false, false, false, false] rfl rfl (by kernel_rfl) (fun _ _ _ h => h) (Or.inl ⟨by rfl, ?_⟩) SH ?_ ?_
      rotate_left
      · intro w' hS
        obtain ⟨q0, q2, q4, q5⟩ := hS
        go_simp
        with_reducible rfl
      rotate_left
      · (try simp only [Act.put, List.setIfInBounds_toArray, List.set_cons_zero, List.set_cons_succ]); rfl
      refine pure_ (i := 5) (N := (some 139)) (v := ?_) (a' := ?_) #[true, true, true, true, true, true, false, false, false, false, false, false, false, false, false, false, false, false, false, false, false, false, false] rfl rfl (by kernel_rfl) (fun _ _ _ h => h) (Or.inl ⟨by rfl, ?_⟩) ?_ ?_
      rotate_left
      · intro w'
        go_simp
        with_reducible rfl
      rotate_left
      · (try simp only [Act.put, List.setIfInBounds_toArray, List.set_cons_zero, List.set_cons_succ]); rfl
      refine pure_ (i := 6) (N := (some 140)) (v := ?_) (a' := ?_) #[true, true, true, true, true, true, true, false, false, false, false, false, false, false, false, false, false, false, false, false, false, false, false] rfl rfl (by kernel_rfl) (fun _ _ _ h => h) (Or.inl ⟨by rfl, ?_⟩) ?_ ?_
      rotate_left
      · intro w'
        go_simp
        with_reducible rfl
      rotate_left
      · (try simp only [Act.put, List.setIfInBounds_toArray, List.set_cons_zero, List.set_cons_succ]); rfl
      refine take_ (i := 7) (N := (some 141)) (v := ?_) (a' := ?_) #[true, true, true, true, true, true, true, true, false, false, false, false, false, false, false, false, false, false, false, false, false, false, false] rfl rfl (by kernel_rfl) (fun _ _ _ h => h) (Or.inl ⟨by rfl, ?_⟩) SH ?_ ?_
      rotate_left
      · intro w' hS
        obtain ⟨q0, q2, q4, q5⟩ := hS
        go_simp
        with_reducible rfl
      rotate_left
      · (try simp only [Act.put, List.setIfInBounds_toArray, List.set_cons_zero, List.set_cons_succ]); rfl
      refine pure_ (i := 8) (N := (some 142)) (v := ?_) (a' := ?_) #[true, true, true, true, true, true, true, true, true, false, false, false, false, false, false, false, false, false, false, false, false, false, false] rfl rfl (by kernel_rfl) (fun _ _ _ h => h) (Or.inl ⟨by rfl, ?_⟩) ?_ ?_
      rotate_left
      · intro w'
        go_simp
        with_reducible rfl
      rotate_left
      · (try simp only [Act.put, List.setIfInBounds_toArray, List.set_cons_zero, List.set_cons_succ]); rfl
      refine pure_ (i := 9) (N := (some 143)) (v := ?_) (a' := ?_) #[true, true, true, true, true, true, true, true, true, true, false, false, false, false, false, false, false, false, false, false, false, false, false] rfl rfl (by kernel_rfl) (fun _ _ _ h => h) (Or.inl ⟨by rfl, ?_⟩) ?_ ?_
      rotate_left
      · intro w'
        go_simp
        with_reducible rfl
      rotate_left
      · (try simp only [Act.put, List.setIfInBounds_toArray, List.set_cons_zero, List.set_cons_succ]); rfl
      refine take_ (i := 10) (N := (some 144)) (v := ?_) (a' := ?_) #[true, true, true, true, true, true, true, true, true, true, true, false, false, false, false, false, false, false, false, false, false, false, false] rfl rfl (by kernel_rfl) (fun _ _ _ h => h) (Or.inl ⟨by rfl, ?_⟩) SH ?_ ?_
      rotate_left
      · intro w' hS
        obtain ⟨q0, q2, q4, q5⟩ := hS
        go_simp
        with_reducible rfl
      rotate_left
      · (try simp only [Act.put, List.setIfInBounds_toArray, List.set_cons_zero, List.set_cons_succ]); rfl
      refine pure_ (i := 11) (N := (some 145)) (v := ?_) (a' := ?_) #[true, true, true, true, true, true, true, true, true, true, true, true, false, false, false, false, false, false, false, false, false, false, false] rfl rfl (by kernel_rfl) (fun _ _ _ h => h) (Or.inl ⟨by rfl, ?_⟩) ?_ ?_
      rotate_left
      · intro w'
        go_simp
        with_reducible rfl
      rotate_left
      · (try simp only [Act.put, List.setIfInBounds_toArray, List.set_cons_zero, List.set_cons_succ]); rfl
      refine pure_ (i := 12) (N := (some 146)) (v := ?_) (a' := ?_) #[true, true, true, true, true, true, true, true, true, true, true, true, true, false, false, false, false, false, false, false, false, false, false] rfl rfl (by kernel_rfl) (fun _ _ _ h => h) (Or.inl ⟨by rfl, ?_⟩) ?_ ?_
      rotate_left
      · intro w'
        go_simp
        with_reducible rfl
      rotate_left
      · (try simp only [Act.put, List.setIfInBounds_toArray, List.set_cons_zero, List.set_cons_succ]); rfl
      refine pure_ (i := 13) (N := (some 147)) (v := ?_) (a' := ?_) #[true, true, true, true, true, true, true, true, true, true, true, true, true, true, false, false, false, false, false, false, false, false, false] rfl rfl (by kernel_rfl) (fun _ _ _ h => h) (Or.inl ⟨by rfl, ?_⟩) ?_ ?_
      rotate_left
      · intro w'
        go_simp
        with_reducible rfl
      rotate_left
      · (try simp only [Act.put, List.setIfInBounds_toArray, List.set_cons_zero, List.set_cons_succ]); rfl
      refine take_ (i := 14) (N := (some 148)) (v := ?_) (a' := ?_) #[true, true, true, true, true, true, true, true, true, true, true, true, true, true, true, false, false, false, false, false, false, false, false] rfl rfl (by kernel_rfl) (fun _ _ _ h => h) (Or.inl ⟨by rfl, ?_⟩) SH ?_ ?_
      rotate_left
      · intro w' hS
        obtain ⟨q0, q2, q4, q5⟩ := hS
        go_simp
        with_reducible rfl
      rotate_left
      · (try simp only [Act.put, List.setIfInBounds_toArray, List.set_cons_zero, List.set_cons_succ]); rfl
      refine pure_ (i := 15) (N := (some 149)) (v := ?_) (a' := ?_) #[true, true, true, true, true, true, true, true, true, true, true, true, true, true, true, true, false, false, false, false, false, false, false] rfl rfl (by kernel_rfl) (fun _ _ _ h => h) (Or.inl ⟨by rfl, ?_⟩) ?_ ?_
      rotate_left
      · intro w'
        go_simp
        with_reducible rfl
      rotate_left
      · (try simp only [Act.put, List.setIfInBounds_toArray, List.set_cons_zero, List.set_cons_succ]); rfl
      refine pure_ (i := 16) (N := (some 150)) (v := ?_) (a' := ?_) #[true, true, true, true, true, true, true, true, true, true, true, true, true, true, true, true, true, false, false, false, false, false, false] rfl rfl (by kernel_rfl) (fun _ _ _ h => h) (Or.inl ⟨by rfl, ?_⟩) ?_ ?_
      rotate_left
      · intro w'
        go_simp
        with_reducible rfl
      rotate_left
      · (try simp only [Act.put, List.setIfInBounds_toArray, List.set_cons_zero, List.set_cons_succ]); rfl
      refine one_ (i := 17) (N := some 151) #[true, true, true, true, true, true, true, true, true, true, true, true, true, true, true, true, true, true, false, false, false, false, false] rfl rfl (by kernel_rfl) (by decide) (fun K hK => ?_)
      refine goes_ (f := 16) (fn := Try.f16) Try.func16 rfl rfl #[.pointer (some ⟨pb, 0, none⟩)] (by kernel_rfl) rfl rfl (by simp only [List.map_toArray, List.map_cons, List.map_nil]; rfl) ?_
      refine hop.mono ?_
      rintro e w7 ⟨oa, ocap, rfl, ho, hn7, k7⟩
      have SH7 : w7.cell? ⟨kb, 0, none⟩ = some (.int .i64 (y0 : Int)) ∧ w7.cell? ⟨kb, 2, none⟩ = some (.int .i64 (y2 : Int)) ∧ w7.cell? ⟨kb, 4, none⟩ = some (.int .i64 (y4 : Int)) ∧ w7.cell? ⟨kb, 5, none⟩ = some (.int .i64 (y5 : Int)) := ⟨(k7.toBelow.cell (World.block_lt_of_cell? _ _ SH.1)).trans SH.1, (k7.toBelow.cell (World.block_lt_of_cell? _ _ SH.2.1)).trans SH.2.1, (k7.toBelow.cell (World.block_lt_of_cell? _ _ SH.2.2.1)).trans SH.2.2.1, (k7.toBelow.cell (World.block_lt_of_cell? _ _ SH.2.2.2)).trans SH.2.2.2⟩
      refine ⟨_, rfl, hK.out _ _ SH7 (fun hHeld => ?_)⟩
      clear hHeld hK K
      refine norm_ (a' := ?_) ?_ ?_
      rotate_left
      · (try simp only [Act.put, List.setIfInBounds_toArray, List.set_cons_zero, List.set_cons_succ]); rfl
      refine pure_ (i := 18) (N := (some 152)) (v := ?_) (a' := ?_) #[true, true, true, true, true, true, true, true, true, true, true, true, true, true, true, true, true, true, true, false, false, false, false] rfl rfl (by kernel_rfl) (fun _ _ _ h => h) (Or.inl ⟨by rfl, ?_⟩) ?_ ?_
      rotate_left
      · intro w'
        go_simp
        with_reducible rfl
      rotate_left
      · (try simp only [Act.put, List.setIfInBounds_toArray, List.set_cons_zero, List.set_cons_succ]); rfl
      refine pure_ (i := 19) (N := (some 153)) (v := ?_) (a' := ?_) #[true, true, true, true, true, true, true, true, true, true, true, true, true, true, true, true, true, true, true, true, false, false, false] rfl rfl (by kernel_rfl) (fun _ _ _ h => h) (Or.inl ⟨by rfl, ?_⟩) ?_ ?_
      rotate_left
      · intro w'
        go_simp
        with_reducible rfl
      rotate_left
      · (try simp only [Act.put, List.setIfInBounds_toArray, List.set_cons_zero, List.set_cons_succ]); rfl
      refine pure_ (i := 20) (N := (some 154)) (v := ?_) (a' := ?_) #[true, true, true, true, true, true, true, true, true, true, true, true, true, true, true, true, true, true, true, true, true, false, false] rfl rfl (by kernel_rfl) (fun _ _ _ h => h) (Or.inl ⟨by rfl, ?_⟩) ?_ ?_
      rotate_left
      · intro w'
        go_simp
        with_reducible rfl
      rotate_left
      · (try simp only [Act.put, List.setIfInBounds_toArray, List.set_cons_zero, List.set_cons_succ]); rfl
      refine pure_ (i := 21) (N := (some 155)) (v := ?_) (a' := ?_) #[true, true, true, true, true, true, true, true, true, true, true, true, true, true, true, true, true, true, true, true, true, true, false] rfl rfl (by kernel_rfl) (fun _ _ _ h => h) (Or.inl ⟨by rfl, ?_⟩) ?_ ?_
      rotate_left
      · intro w'
        go_simp
        with_reducible rfl
      rotate_left
      · (try simp only [Act.put, List.setIfInBounds_toArray, List.set_cons_zero, List.set_cons_succ]); rfl
      refine pure_ (i := 22) (N := (some 4)) (v := ?_) (a' := ?_) #[true, true, true, true, true, true, true, true, true, true, true, true, true, true, true, true, true, true, true, true, true, true, true] rfl rfl (by kernel_rfl) (fun _ _ _ h => h) (Or.inl ⟨by rfl, ?_⟩) ?_ ?_
      rotate_left
      · intro w'
        go_simp
        with_reducible rfl
      rotate_left
      · (try simp only [Act.put, List.setIfInBounds_toArray, List.set_cons_zero, List.set_cons_succ]); rfl
      refine done_ (by kernel_rfl) ?_
      go_wp2
      go_ret
      refine ⟨?_, KK2.out.trans k7 (fun _ _ h => h) (fun _ _ h => h)⟩
      have hv : ((y0 : Int) == IntKind.i64.wrap (IntKind.i64.wrap (IntKind.i64.wrap ((y2 : Int) + (y4 : Int)) + (y5 : Int)) + (nL : Int))) = true := by
        rw [wrapi ((y2 : Int) + (y4 : Int)) (by omega), wrapi ((y2 : Int) + (y4 : Int) + (y5 : Int)) (by omega), wrapi _ (by omega), e3]
        simp
      show Ending.returned (.bool ((y0 : Int) == IntKind.i64.wrap (IntKind.i64.wrap (IntKind.i64.wrap ((y2 : Int) + (y4 : Int)) + (y5 : Int)) + (nL : Int)))) = _
      rw [hv]

end Go.Proofs.Ytmbjlondehcheaa
