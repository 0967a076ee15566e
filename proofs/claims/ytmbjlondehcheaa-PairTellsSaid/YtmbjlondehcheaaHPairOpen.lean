/- (*Pairs).Open: the frames of all open requests, in the order of age. -/
import Derived.Test.YtmbjlondehcheaaProg
import Derived.Below
import Derived.OneCell
import Derived.WalkKit
import Derived.KernelRfl
import Derived.RowKit3
import Derived.Deep.LoopGhost
import Derived.Deep.QuietTactic
import Derived.BigQuiet
import Derived.Deep.DeepCutAuto
import Derived.Deep.CutBlock
import Derived.Deep.RegionWith
import Derived.OwnWalk
import Derived.Laws.Tables
import Derived.Laws.AppendOwn
import Derived.Shelf.SlSortCmp.KitK
import Derived.Shelf.RegionOpenPlain
import Derived.Sort.WalkB2
import Derived.Deep.MidRow
import Derived.Great.Walk
import Derived.Test.YtmbjlondehcheaaWWords
import Derived.Test.YtmbjlondehcheaaWLast
import Derived.Laws.StructEq
import Derived.Maps.Own
import Derived.Maps.RangeRun
import Derived.Test.YtmbjlondehcheaaHPairRange
set_option linter.unusedSimpArgs false
set_option linter.unusedVariables false
namespace Go.Proofs.Ytmbjlondehcheaa
open Go.Shelf Go.RowKit Go.Lib Go.Sort Go.Proofs.YtmbjlondehcheaaW.PrintWords Go.Proofs.YtmbjlondehcheaaW.PrintLast

/-- The frames of requests, one behind another. -/
def frs (l : List Ent) : List Value := l.flatMap fun e => e.f.cs

theorem take_one {L : List Ent} {d : Array Ent} (hd : d.toList = L) {i : Nat} (hi : i < L.length) : L.take (i + 1) = L.take i ++ [d[i]!] := by
  subst hd
  have hi' : i < d.size := by simpa using hi
  rw [List.take_add_one, getElem!_pos d i hi', List.getElem?_eq_getElem hi]
  simp

/-- How far the second loop has come. -/
def Outs (w wr : World) (L : List Ent) (g cap : Nat) (d : Array Ent) (i : Nat) (v : Value) : Prop :=
  wr.ownsRow 0 44 24 v i (frs (L.take i)) ∧ (∀ b, some b = v.ownBlock → w.heap.size ≤ b ∧ b ≠ g) ∧ wr.ownsRow 0 77 25 (.slice (some ⟨g, 0, none⟩) L.length cap) d.size (flat d) ∧ Kept w wr (fun _ => False)

/-- One round of the second loop: the new world is told by the caller of this law. -/
theorem outs_step {w wr : World} {L : List Ent} {g cap : Nat} {d : Array Ent} {i : Nat} {v : Value} (h : Outs w wr L g cap d i v) (hd : d.toList = L) (hi : i < L.length) (hL : L.length ≤ 16) (hg : w.heap.size ≤ g) {Z : Array Value} (hZ : Z.size = 25) :
    ∃ e : Ent, wr.rangeAt g (i * 25) e.cs ∧ (∃ W2, W2 = (wr.alloc (.cells Z 77)).setRow wr.heap.size e.cs.toArray ∧ W2.heap[wr.heap.size]? = some (.cells e.cs.toArray 77 (0, 0)) ∧ W2.rangeAt wr.heap.size 1 e.f.cs ∧
      (Instr.buildSlice 28 1 #[(0, .agg e.f.cs.toArray)]).run Try.prog W2 = .ok (.slice (some ⟨W2.heap.size, 0, none⟩) 1 1) (W2.alloc (.cells e.f.cs.toArray 44)) ∧
      ∀ tz, ∃ v' w', (Builtin.append_ #[28, 28] tz #[v, .slice (some ⟨W2.heap.size, 0, none⟩) 1 1]).run Try.prog (W2.alloc (.cells e.f.cs.toArray 44)) = .ok v' w' ∧ Outs w w' L g cap d (i + 1) v') := by
  obtain ⟨h1, h2, h3, h4⟩ := h
  have hds : d.size = L.length := by rw [← hd]; simp
  obtain ⟨H, -, -, -⟩ := holds_of_owns h3 (by omega)
  refine ⟨d[i]!, ent_range H (by omega), _, rfl, ?_⟩
  have q0 := Kept.alloc wr (.cells Z 77) (fun _ => False)
  have q1 : Kept wr ((wr.alloc (.cells Z 77)).setRow wr.heap.size (d[i]!).cs.toArray) (fun _ => False) := q0.trans (Kept.setRow _ wr.heap.size _ (F := fun b => b = wr.heap.size) rfl) (fun _ _ h => h) (fun k hk h => by omega)
  have e1 := setRow_heap (wr.alloc (.cells Z 77)) wr.heap.size Z (d[i]!).cs.toArray 77 _ (heap_alloc_new _ _)
  have hs2 : ((wr.alloc (.cells Z 77)).setRow wr.heap.size (d[i]!).cs.toArray).heap.size = wr.heap.size + 1 := by simp
  generalize ((wr.alloc (.cells Z 77)).setRow wr.heap.size (d[i]!).cs.toArray) = W2 at *
  refine ⟨e1, fr_range e1, lit_fr W2 _, fun tz => ?_⟩
  have q2 : Kept wr (W2.alloc (.cells (d[i]!).f.cs.toArray 44)) (fun _ => False) := q1.trans (Kept.alloc W2 _ _) (fun _ _ h => h) (fun _ _ h => h)
  obtain ⟨v', w', a1, a2, a3, a4⟩ := app_fr (W2.alloc (.cells (d[i]!).f.cs.toArray 44)) tz v i (frs (L.take i)) (d[i]!).f (q2.owns h1 (fun _ _ h => h)) W2.heap.size (heap_alloc_new _ _) (by omega)
  have kg := Kept.grown a3 (F := fun b => some b = v.ownBlock) (fun _ h => h)
  have hsz : (W2.alloc (.cells (d[i]!).f.cs.toArray 44)).heap.size = wr.heap.size + 2 := by simp [hs2]
  refine ⟨v', w', a1, ?_, ?_, ?_, ?_⟩
  · have := take_one hd hi
    rw [this]
    simp only [frs, List.flatMap_append, List.flatMap_cons, List.flatMap_nil, List.append_nil]
    exact a2
  · intro b hb
    have hgl : g < wr.heap.size := by
      rcases h3.2 with ⟨h, _⟩ | ⟨g', cap', cur, h, _, hg', _⟩
      · cases h
      · injection h with h; injection h with h; injection h with h; rw [h]; exact heap_lt hg'
    rcases a4 with h | h
    · exact h2 b (hb.trans h)
    · rw [h, hsz] at hb
      injection hb with hb
      have := h4.size
      omega
  · exact kg.owns (q2.owns h3 (fun _ _ h => h)) (fun b hb h => by simp [Value.ownBlock] at hb; have := h2 b h; omega)
  · exact (h4.trans q2 (fun _ _ h => h) (fun _ _ h => h)).trans kg (fun _ _ h => h) (fun k hk h => by have := h2 k h; omega)

/-- Behind the range: the sort, and what the second loop begins with. -/
theorem open_mid {w wr : World} {pb : Nat} {net : Bool} {B : Nat} {S : List Slot} {L : List Ent} {all : Nat} (hP : PS w pb net B S L all) {kx : Nat} {v : Value} (h : Seen w wr B S kx v) (acc : Array Ent) (hacc : acc.toList.Perm L) (how : wr.ownsRow 0 77 25 v acc.size (flat acc)) :
    Calls Try.prog 23 #[v, .func (.func 24) #[] #[]] wr fun r w' => r = .returned (.tuple #[]) ∧ ∃ a cap, v = .slice a L.length cap ∧ Kept w w' (fun _ => False) ∧ (∀ i, i < L.length → ∃ g d, a = some ⟨g, 0, none⟩ ∧ w.heap.size ≤ g ∧ d.toList = L ∧ Outs w w' L g cap d 0 (.slice none 0 0)) := by
  obtain ⟨σ, c0, acc0, hr, hc0, hnd, hlt, hacc0, how0, hfr, hk, hkx⟩ := h
  have hsz : acc.size = L.length := by have := hacc.length_eq; simpa using this
  have hfew := hP.few
  refine (sort_calls wr v acc how (by omega)).mono fun r w' ⟨he, d', hp, hs, ho, k⟩ => ⟨he, ?_⟩
  have hdL : d'.toList = L := eq_of_age (hp.trans hacc) hs hP.book.age
  have hds : d'.size = L.length := by rw [← hdL]; simp
  have kw : Kept w w' (fun _ => False) := hk.trans k (fun _ _ h => h) (fun b hb h => by have := hfr b h; omega)
  rw [hsz] at ho
  rcases ho.2 with ⟨h1, h2⟩ | ⟨g, cap, cur, h1, _⟩
  · exact ⟨none, 0, by rw [h1, h2], kw, fun i hi => by omega⟩
  · refine ⟨some ⟨g, 0, none⟩, cap, h1, kw, fun i hi => ⟨g, d', rfl, ?_, hdL, ?_, ?_, ?_, kw⟩⟩
    · have := hfr g (by rw [h1]; rfl); omega
    · exact World.ownsRow_nil _ _ _ _
    · intro b hb; simp [Value.ownBlock] at hb
    · rw [← h1, hds]; exact ho

set_option maxHeartbeats 400000 in
set_option maxRecDepth 1000000 in
theorem open_calls (w : World) (pb : Nat) (net : Bool) (B : Nat) (S : List Slot) (L : List Ent) (all : Nat) (hP : PS w pb net B S L all) :
    Calls Try.prog 16 #[.pointer (some ⟨pb, 0, none⟩)] w fun r w' => ∃ v, r = .returned v ∧ w'.ownsRow 0 44 24 v L.length (frs L) ∧ (∀ g, some g = v.ownBlock → w.heap.size ≤ g) ∧ Kept w w' (fun _ => False) := by
  have c1 := hP.c1
  have hrange := run_range_map w 63 _ _ B (entries S) S.length Try.underlying63 hP.mp
  have hfew := hP.few
  have START : Aside0 (Seen w (w.alloc (.mapIter (some B) S.length #[] S.length)) B S S.length (.slice none 0 0)) := ⟨[], S.length, #[], heap_alloc_new _ _, Nat.le_refl _, by simp, by simp, rfl, World.ownsRow_nil _ _ _ _, fun g hg => by simp [Value.ownBlock] at hg, Kept.alloc w _ _, by simp⟩
  obtain ⟨Z, hZ, hz⟩ := zero77
  go_enter Try.func16, Try.ntmps16
  go_wp2
  clear c1 hrange
  go_loopg [3] S.length (fun kx s3 wr => Aside0 (Seen w wr B S kx s3))
  case atStart => exact START
  case round =>
    clear START
    rcases seen_step hP hrel.out 0 with ⟨hrun, acc, hacc, how⟩ | ⟨key, s, W, hs, hrun, hentry, hcell, hkx, happ⟩
    · have hsort := open_mid hP hrel.out acc hacc how
      clear hrel how
      go_wp2_with (go_at_call 23; with_reducible refine hsort.mono ?_; rintro e w2 ⟨rfl, a, cap, rfl, hk2, hmid⟩)
      clear hrun hsort
      go_loopg [6, 27] L.length (fun kx s6 s27 w3 => ∃ i : Nat, s27 = .int .i64 i ∧ i ≤ L.length ∧ L.length - i ≤ kx ∧ Aside0 (w3.ownsRow 0 44 24 s6 i (frs (L.take i)) ∧ (∀ b, some b = s6.ownBlock → w.heap.size ≤ b) ∧ Kept w w3 (fun _ => False) ∧ (i < L.length → ∃ g d, a = some ⟨g, 0, none⟩ ∧ w.heap.size ≤ g ∧ d.toList = L ∧ Outs w w3 L g cap d i s6)))
      case atStart => exact ⟨0, rfl, Nat.zero_le _, Nat.le_refl _, ⟨World.ownsRow_nil _ _ _ _, fun b hb => by simp [Value.ownBlock] at hb, hk2, fun h => hmid 0 h⟩⟩
      case round =>
        obtain ⟨i, rfl, hi, hkx, ⟨o1, o2, o3, o4⟩⟩ := hrel
        clear hmid hk2
        by_cases hlt : i < L.length
        · obtain ⟨g, d, rfl, hg, hd, hO⟩ := o4 hlt
          obtain ⟨e, hr, W2, hW2, f1, f2, hlit, happ⟩ := outs_step hO hd hlt hfew hg hZ
          have hiz : (i : Int) < (L.length : Int) := by omega
          have hLz : (L.length : Int) ≤ 16 := by omega
          have sz77 := size77 e.cs.toArray rfl
          have szl77 : (Try.prog.info? 77).map (·.size) = some e.cs.length := by rw [Ent.len]; kernel_rfl
          have szl44 : (Try.prog.info? 44).map (·.size) = some e.f.cs.length := by rw [Fr.len]; kernel_rfl
          have hone := all_oneCell_toArray e.one
          have hZc : Z.size = e.cs.toArray.size := by rw [hZ]; rfl
          have W2e : Aside0 (W2 = (wr.alloc (.cells Z 77)).setRow wr.heap.size e.cs.toArray) := ⟨hW2⟩
          have REST : Aside0 (∀ v' w', Outs w w' L g cap d (i + 1) v' → w'.ownsRow 0 44 24 v' (i + 1) (frs (L.take (i + 1))) ∧ (∀ b, some b = v'.ownBlock → w.heap.size ≤ b) ∧ Kept w w' (fun _ => False) ∧ (i + 1 < L.length → ∃ g' d, some (⟨g, 0, none⟩ : Addr) = some ⟨g', 0, none⟩ ∧ w.heap.size ≤ g' ∧ d.toList = L ∧ Outs w w' L g' cap d (i + 1) v')) :=
            ⟨fun v' w' h => ⟨h.1, fun b hb => (h.2.1 b hb).1, h.2.2.2, fun _ => ⟨g, d, rfl, hg, hd, h⟩⟩⟩
          clear hW2 o1 o2 o3 o4 hO hd
          go_wp2_with (first
            | (refine wpList_load_mid rfl 77 (.tmp 29) rfl g (i * 25) rfl e.cs _ hr Try.underlying77 rfl szl77 ?_)
            | (refine wpList_store_row rfl 77 (.tmp 8) (.tmp 30) rfl wr.heap.size e.cs.toArray rfl rfl 77 Z (heap_alloc_new _ _) sz77 hZc hone ?_; rw [← W2e.out]; clear hr)
            | (refine wpList_load_mid rfl 44 (.tmp 32) rfl wr.heap.size 1 rfl e.f.cs _ f2 Try.underlying44 rfl szl44 ?_)
            | (refine wpList_lit1 rfl 28 (.tmp 33) rfl (some 34) rfl (.agg e.f.cs.toArray) rfl (.slice (some ⟨W2.heap.size, 0, none⟩) 1 1) (W2.alloc (.cells e.f.cs.toArray 44)) hlit ?_)
            | (obtain ⟨v', w', ha, hO⟩ := happ 28; refine wpList_app rfl (.tmp 31) (.tmp 34) 28 28 rfl (some 35) rfl _ (.slice (some ⟨W2.heap.size, 0, none⟩) 1 1) rfl rfl v' w' ha ?_; clear happ ha))
          go_roundg (L.length - (i + 1))
          case measure => omega
          case rel => exact ⟨i + 1, by go_num, by omega, Nat.le_refl _, ⟨REST.out _ _ hO⟩⟩
        · have hge : ¬ ((i : Int) < (L.length : Int)) := by omega
          have hiL : i = L.length := by omega
          have FIN : Aside0 _ := ⟨And.intro o1 (And.intro o2 o3)⟩
          clear o1 o2 o3 o4
          go_wp2
          go_ret
          obtain ⟨p1, p2, p3⟩ := FIN.out
          refine ⟨_, rfl, ?_, p2, p3⟩
          rw [hiL, List.take_length] at p1
          exact p1
    · clear hrel
      have HAPP : Aside0 _ := ⟨happ⟩
      clear happ
      go_wp2_with (obtain ⟨v', w', ha, hO⟩ := HAPP.out 72; refine wpList_app rfl (.tmp 18) (.tmp 21) 72 74 rfl (some 22) rfl _ s.v rfl rfl v' w' ha ?_; clear HAPP ha)
      go_roundg (gk - 1)
      case measure => omega
      case rel => exact ⟨hO⟩

end Go.Proofs.Ytmbjlondehcheaa
