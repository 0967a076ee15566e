/- (*Pairs).take: the oldest open request of a head is closed and handed back. -/
import Derived.Test.YtmbjlondehcheaaProg
import Derived.Below
import Derived.OneCell
import Derived.WalkKit
import Derived.KernelRfl
import Derived.RowKit3
import Derived.Deep.LoopGhost
import Derived.Deep.QuietTactic
import Derived.BigQuiet
import Derived.Deep.DeepCutAuto
import Derived.Deep.CutBlock
import Derived.Deep.RegionWith
import Derived.OwnWalk
import Derived.Laws.Tables
import Derived.Laws.AppendOwn
import Derived.Shelf.SlSortCmp.KitK
import Derived.Shelf.RegionOpenPlain
import Derived.Sort.WalkB2
import Derived.Deep.MidRow
import Derived.Great.Walk
import Derived.Test.YtmbjlondehcheaaWWords
import Derived.Test.YtmbjlondehcheaaWLast
import Derived.Laws.StructEq
import Derived.Maps.Own
import Derived.Maps.RangeRun
import Derived.Test.YtmbjlondehcheaaHPairPut
set_option linter.unusedSimpArgs false
set_option linter.unusedVariables false
namespace Go.Proofs.Ytmbjlondehcheaa
open Go.Shelf Go.RowKit Go.Lib Go.Sort Go.Proofs.YtmbjlondehcheaaW.PrintWords Go.Proofs.YtmbjlondehcheaaW.PrintLast

theorem results_two {fn : Func} {p q : Tmp} {ty : TypeId} (h : fn.results = #[.cell p ty, .tmp q]) (tmps : Array Value) (w : World) (g : Nat) (t : TypeId) (cs : Array Value) (fr : Nat × Nat) (d : TypeDesc) (v : Value)
    (hp : tmps.getD p undef = .pointer (some ⟨g, 0, none⟩)) (hq : tmps.getD q undef = v) (hg : w.heap[g]? = some (.cells cs t fr))
    (hdr : (match d with | .struct _ | .array _ _ => true | _ => false) = true) (hu : Try.prog.underlying ty = some d) (hi : (Try.prog.info? ty).map (·.size) = some cs.size) :
    (results fn tmps).run Try.prog w = .ok (.tuple #[.agg cs, v]) w := by
  have hp' : tmps[p]?.getD undef = .pointer (some ⟨g, 0, none⟩) := by simpa using hp
  have hq' : tmps[q]?.getD undef = v := by simpa using hq
  simp [results, h, hp', hq', asAddr, run_loadVar_row w g t ty cs fr d hg hu (by cases d <;> first | rfl | cases hdr) hi]

theorem AgeOk.len {w : World} {c : Nat} {v : Value} {d : Array Ent} (A : AgeOk w c v d) : ∃ a cap, v = .slice a d.size cap := by
  rcases A.row.2 with ⟨h, h0⟩ | ⟨g, cap, cur, h, _⟩
  · exact ⟨none, 0, by rw [h, h0]⟩
  · exact ⟨_, _, h⟩

theorem ent_frame (e : Ent) (w : World) : (Instr.field 77 (.agg e.cs.toArray) 1).run Try.prog w = .ok (.agg e.f.cs.toArray) w := by kernel_rfl
theorem zero_built : Try.prog.built 44 [] = some fr0.cs.toArray := by kernel_rfl

/-- What take answers with. -/
def tk (L : List Ent) (u t : Int) : Fr := ((L.find? (hd u t)).map (·.f)).getD fr0

/-- What take has done where it has found none. -/
theorem take_none {w w2 : World} {pb : Nat} {net : Bool} {B : Nat} {S : List Slot} {L : List Ent} {all : Nat} (hP : PS w pb net B S L all) (k : Kept w w2 (fun _ => False)) (u t : Int) (hf : L.find? (hd u t) = none) :
    ∃ S', (Ending.returned (.tuple #[.agg fr0.cs.toArray, .bool false]) = Ending.returned (.tuple #[.agg (tk L u t).cs.toArray, .bool (L.find? (hd u t)).isSome])) ∧ PS (w2.setRow (w.heap.size + 1) fr0.cs.toArray) pb net B S' (L.eraseP (hd u t)) all ∧
      (∀ b, foot pb B S' b → foot pb B S b ∨ w.heap.size ≤ b) ∧ Kept w (w2.setRow (w.heap.size + 1) fr0.cs.toArray) (foot pb B S) := by
  have q : Kept w (w2.setRow (w.heap.size + 1) fr0.cs.toArray) (fun b => b = w.heap.size + 1) := k.trans (Kept.setRow w2 (w.heap.size + 1) _ (F := fun b => b = w.heap.size + 1) rfl) (fun _ _ h => h.elim) (fun _ _ h => h)
  have he : L.eraseP (hd u t) = L := by
    rw [List.eraseP_of_forall_not]
    rw [List.find?_eq_none] at hf
    exact hf
  refine ⟨S, by rw [tk, hf]; rfl, ?_, fun b hb => .inl hb, q.mono (fun b hb h => by omega)⟩
  rw [he]
  exact hP.kept q (fun b hb h => by have := hP.foot_lt hb; omega)

/-- What take has done where it has found one. -/
theorem take_some {w w2 : World} {pb : Nat} {net : Bool} {B : Nat} {A C : List Slot} {s : Slot} {L : List Ent} {all m : Nat} (hP : PS w pb net B (A ++ s :: C) L all) (P2 : PS w2 pb net B (A ++ s :: C) L all) (k : Kept w w2 (fun _ => False)) (hw : w.heap.size + 2 ≤ w2.heap.size)
    (hm : s.d.size = m + 1) (hN : w2.heap[w.heap.size + 1]? = some (.cells fr0.cs.toArray 44 (0, 0)))
    {w4 : World} {v' : Value} (A4 : AgeOk w4 s.c v' ((siftDown yg m 0 0 (swp s.d 0 m)).extract 0 m)) (hv : v'.ownBlock = s.v.ownBlock) (k4 : Kept (w2.setCell ⟨pb, 2, none⟩ (.int .i64 ((L.length : Int) - 1))) w4 (fun b => b = s.c ∨ some b = s.v.ownBlock)) :
    w4.heap[w.heap.size + 1]? = some (.cells fr0.cs.toArray 44 (0, 0)) ∧
    ∃ S', (Ending.returned (.tuple #[.agg (s.d[0]!).f.cs.toArray, .bool true]) = Ending.returned (.tuple #[.agg (tk L s.u s.t).cs.toArray, .bool (L.find? (hd s.u s.t)).isSome])) ∧ PS (w4.setRow (w.heap.size + 1) (s.d[0]!).f.cs.toArray) pb net B S' (L.eraseP (hd s.u s.t)) all ∧
      (∀ b, foot pb B S' b → foot pb B (A ++ s :: C) b ∨ w.heap.size ≤ b) ∧ Kept w (w4.setRow (w.heap.size + 1) (s.d[0]!).f.cs.toArray) (foot pb B (A ++ s :: C)) := by
  have hs : s ∈ A ++ s :: C := by simp
  obtain ⟨b1, b2, b3⟩ := P2.book.take hm { s with v := v', d := (siftDown yg m 0 0 (swp s.d 0 m)).extract 0 m } ⟨rfl, rfl, rfl⟩
  have hpl := hP.foot_lt (b := pb) (.inl rfl)
  have hsl : ∀ b, (b = s.c ∨ some b = s.v.ownBlock) → b < w.heap.size := fun b hb => hP.foot_lt (.inr (.inr ⟨s, hs, hb⟩))
  have q0 : Kept w2 (w2.setCell ⟨pb, 2, none⟩ (.int .i64 ((L.length : Int) - 1))) (fun b => b = pb) := Kept.setCell w2 pb 2 _ rfl
  have q1 : Kept w2 w4 (fun b => b = pb ∨ b = s.c ∨ some b = s.v.ownBlock) := q0.trans k4 (fun _ _ h => .inl h) (fun _ _ h => .inr h)
  have q2 : Kept w2 (w4.setRow (w.heap.size + 1) (s.d[0]!).f.cs.toArray) (fun b => (b = pb ∨ b = s.c ∨ some b = s.v.ownBlock) ∨ b = w.heap.size + 1) := q1.trans (Kept.setRow w4 (w.heap.size + 1) _ (F := fun b => b = w.heap.size + 1) rfl) (fun _ _ h => .inl h) (fun _ _ h => .inr h)
  have e4 : w4.heap[w.heap.size + 1]? = some (.cells fr0.cs.toArray 44 (0, 0)) := q1.heap hN (fun e => by
    rcases e with e | e
    · omega
    · have := hsl _ e; omega)
  refine ⟨e4, A ++ { s with v := v', d := (siftDown yg m 0 0 (swp s.d 0 m)).extract 0 m } :: C, ?_, ?_, ?_, ?_⟩
  · rw [tk, b1]; rfl
  · refine P2.turn (s' := { s with v := v', d := (siftDown yg m 0 0 (swp s.d 0 m)).extract 0 m }) q2 (fun b hb hF => ?_) rfl rfl rfl (.inl hv) ?_ (A4.kept (Kept.setRow w4 (w.heap.size + 1) _ (F := fun b => b = w.heap.size + 1) rfl) (fun e => ?_) (fun g hg e => ?_)) b2 (by have := P2.few; omega) P2.young
    · rcases hF with h | h
      · exact h
      · have := hP.foot_lt hb; omega
    · have h1 := setCell_row (i := 2) (v := .int .i64 ((L.length : Int) - 1)) P2.cell
      have h2 : w4.heap[pb]? = _ := k4.heap h1 (fun e => by
        rcases e with e | e
        · exact P2.pc hs e
        · exact P2.pg hs e rfl)
      rw [setRow_other _ _ _ _ (by omega), h2]
      have : ((L.eraseP (hd s.u s.t)).length : Int) = (L.length : Int) - 1 := by omega
      rw [this]
      simp
    · have := hsl s.c (.inl rfl); omega
    · have := hsl g (.inr (by rw [← hv, hg])); omega
  · intro b hb
    exact foot_turn (s := s) (s' := { s with v := v', d := (siftDown yg m 0 0 (swp s.d 0 m)).extract 0 m }) rfl (.inl hv) hb
  · refine k.trans q2 (fun _ _ h => h.elim) (fun b hb hF => ?_)
    rcases hF with (hF | hF) | hF
    · exact .inl hF
    · exact .inr (.inr ⟨s, hs, hF⟩)
    · omega

set_option maxHeartbeats 1000000 in
set_option maxRecDepth 1000000 in
theorem take_calls (w : World) (pb : Nat) (net : Bool) (B : Nat) (S : List Slot) (L : List Ent) (all : Nat) (u t : Int) (hP : PS w pb net B S L all) :
    Calls Try.prog 20 #[.pointer (some ⟨pb, 0, none⟩), .agg #[.int .u8 u, .int .u16 t]] w fun r w' => ∃ S', r = .returned (.tuple #[.agg (tk L u t).cs.toArray, .bool (L.find? (hd u t)).isSome]) ∧ PS w' pb net B S' (L.eraseP (hd u t)) all ∧
      (∀ b, foot pb B S' b → foot pb B S b ∨ w.heap.size ≤ b) ∧ Kept w w' (foot pb B S) := by
  have hz := fr0_zero
  have k1 : Kept w ((w.alloc (.cells #[.int .u8 u, .int .u16 t] 35)).alloc (.cells fr0.cs.toArray 44)) (fun _ => False) := (Kept.alloc w _ _).trans (Kept.alloc _ _ (fun _ => False)) (fun _ _ h => h) (fun _ _ h => h)
  have F1 : ((w.alloc (.cells #[.int .u8 u, .int .u16 t] 35)).alloc (.cells fr0.cs.toArray 44)).heap[w.heap.size]? = some (.cells #[.int .u8 u, .int .u16 t] 35 (0, 0)) := by rw [heap_alloc_old _ _ (by simp)]; exact heap_alloc_new _ _
  have N1 : ((w.alloc (.cells #[.int .u8 u, .int .u16 t] 35)).alloc (.cells fr0.cs.toArray 44)).heap[w.heap.size + 1]? = some (.cells fr0.cs.toArray 44 (0, 0)) := by
    have := heap_alloc_new (w.alloc (.cells #[.int .u8 u, .int .u16 t] 35)) (.cells fr0.cs.toArray 44)
    simpa using this
  have hs1 : ((w.alloc (.cells #[.int .u8 u, .int .u16 t] 35)).alloc (.cells fr0.cs.toArray 44)).heap.size = w.heap.size + 2 := by simp
  have SZ0 := size44 fr0.cs.toArray rfl
  have one0 := all_oneCell_toArray fr0.one
  go_enter Try.func20, Try.ntmps20
  go_wp2_with fail
  generalize ((w.alloc (.cells #[.int .u8 u, .int .u16 t] 35)).alloc (.cells fr0.cs.toArray 44)) = w1 at *
  have k2 : Kept w w1.drew (fun _ => False) := k1.trans (Kept.drew w1 (fun _ => False)) (fun _ _ h => h) (fun _ _ h => h)
  have Pd : PS w1.drew pb net B S L all := hP.kept k2 (fun _ _ h => h)
  have c1 := Pd.c1
  have rH : w1.drew.rangeAt w.heap.size 0 [.int .u8 u, .int .u16 t] := by
    have := World.rangeAt_of_block (w := w1.drew) F1 0 2
    exact this
  have N2 : w1.drew.heap[w.heap.size + 1]? = some (.cells fr0.cs.toArray 44 (0, 0)) := N1
  have hw2 : w.heap.size + 2 ≤ w1.drew.heap.size := Nat.le_of_eq hs1.symm
  by_cases hex : ∃ s ∈ S, s.u = u ∧ s.t = t
  · obtain ⟨s, hs, hu, ht⟩ := hex
    obtain ⟨A, C, rfl⟩ := List.append_of_mem hs
    have look := look_some (s := s) Pd.book.keys Pd.mp
    rw [hu, ht] at look
    simp only [headV] at look
    have ac := (Pd.age s hs).cell
    obtain ⟨sa, scap, hsv⟩ := (Pd.age s hs).len
    rw [hsv] at ac
    refine start_ (n := 7) (S := fun w' => w' = w1.drew) (ds := []) #[false, false, false, false, false, false, false] (by kernel_rfl) rfl rfl rfl (fun hHeld => ?_)
    clear hHeld
    refine pure_ (i := 0) (N := (some 7)) (v := ?_) (a' := ?_) #[true, false, false, false, false, false, false] rfl rfl (by kernel_rfl) (fun _ _ _ h => h) (Or.inl ⟨by rfl, ?_⟩) ?_ ?_
    rotate_left
    · intro w'
      go_simp
      with_reducible rfl
    rotate_left
    · (try simp only [Act.put, List.setIfInBounds_toArray, List.set_cons_zero, List.set_cons_succ]); rfl
    refine pure_ (i := 1) (N := (some 8)) (v := ?_) (a' := ?_) #[true, true, false, false, false, false, false] rfl rfl (by kernel_rfl) (fun _ _ _ h => h) (Or.inl ⟨by rfl, ?_⟩) ?_ ?_
    rotate_left
    · intro w'
      go_simp
      with_reducible rfl
    rotate_left
    · (try simp only [Act.put, List.setIfInBounds_toArray, List.set_cons_zero, List.set_cons_succ]); rfl
    refine pure_ (i := 2) (N := (some 9)) (v := ?_) (a' := ?_) #[true, true, true, false, false, false, false] rfl rfl (by kernel_rfl) (fun _ _ _ h => h) (Or.inl ⟨by rfl, ?_⟩) ?_ ?_
    rotate_left
    · intro w'
      go_simp
      with_reducible rfl
    rotate_left
    · (try simp only [Act.put, List.setIfInBounds_toArray, List.set_cons_zero, List.set_cons_succ]); rfl
    refine take_ (i := 3) (N := (some 10)) (v := ?_) (a' := ?_) #[true, true, true, true, false, false, false] rfl rfl (by kernel_rfl) (fun _ _ _ h => h) (Or.inl ⟨by rfl, ?_⟩) rfl ?_ ?_
    rotate_left
    · intro w' hS
      subst hS
      go_simp
      with_reducible rfl
    rotate_left
    · (try simp only [Act.put, List.setIfInBounds_toArray, List.set_cons_zero, List.set_cons_succ]); rfl
    refine take_ (i := 4) (N := (some 11)) (v := .agg [.int .u8 u, .int .u16 t].toArray) (a' := ?_) #[true, true, true, true, true, false, false] rfl rfl (by kernel_rfl) (fun _ _ _ h => h) (yieldsIf_load_mid (by kernel_rfl) 35 (.tmp 3) rfl w.heap.size 0 rfl [.int .u8 u, .int .u16 t] _ (fun w' hS => by rw [hS]; exact rH) Try.underlying35 rfl (by kernel_rfl)) rfl ?_ ?_
    rotate_left
    · (try simp only [Act.put, List.setIfInBounds_toArray, List.set_cons_zero, List.set_cons_succ]); rfl
    refine take_ (i := 5) (N := (some 12)) (v := ?_) (a' := ?_) #[true, true, true, true, true, true, false] rfl rfl (by kernel_rfl) (fun _ _ _ h => h) (Or.inl ⟨by rfl, ?_⟩) rfl ?_ ?_
    rotate_left
    · intro w' hS
      subst hS
      go_simp
      with_reducible rfl
    rotate_left
    · (try simp only [Act.put, List.setIfInBounds_toArray, List.set_cons_zero, List.set_cons_succ]); rfl
    refine pure_ (i := 6) (N := (some 6)) (v := ?_) (a' := ?_) #[true, true, true, true, true, true, true] rfl rfl (by kernel_rfl) (fun _ _ _ h => h) (Or.inl ⟨by rfl, ?_⟩) ?_ ?_
    rotate_left
    · intro w'
      go_simp
      with_reducible rfl
    rotate_left
    · (try simp only [Act.put, List.setIfInBounds_toArray, List.set_cons_zero, List.set_cons_succ]); rfl
    refine done_ (by kernel_rfl) ?_
    by_cases h0 : s.d.size = 0
    · have hf : L.find? (hd u t) = none := by rw [← hu, ← ht]; exact Pd.book.none2 h0
      have D := take_none hP k2 u t hf
      rw [h0] at ac
      have hlen := len_calls w1.drew sa 0 scap
      rw [show ((0 : Nat) : Int) = 0 from rfl] at hlen
      clear c1 rH look F1 N1 k1 hs1 Pd hP k2 hsv
      generalize w1.drew = w2 at *
      obtain ⟨S', D1, D2, D3, D4⟩ := D
      have HD1 : Aside0 _ := ⟨D1⟩
      clear D1
      go_wp2_with (first
        | (go_at_call 29; with_reducible refine hlen.mono ?_; rintro e w'' ⟨rfl, rfl⟩)
        | (refine wpList_buildTo rfl 44 _ rfl (some 22) rfl fr0.cs.toArray ?_ ?_; (exact zero_built))
        | (refine wpList_store_row rfl 44 (.tmp 4) (.tmp 22) rfl (w.heap.size + 1) _ rfl rfl 44 fr0.cs.toArray N2 SZ0 rfl one0 ?_))
      exact bodyPost_ret (results_two (p := 4) (q := 5) (ty := 44) Try.results20 _ _ (w.heap.size + 1) 44 fr0.cs.toArray (0, 0) _ (.bool false) rfl rfl (setRow_heap _ _ _ _ 44 _ N2) rfl Try.underlying44 SZ0) rfl ⟨S', HD1.out, D2, D3, D4⟩
    · obtain ⟨m, hm⟩ : ∃ m, s.d.size = m + 1 := ⟨s.d.size - 1, by omega⟩
      have hlen := len_calls w1.drew sa (m + 1) scap
      rw [hm] at ac
      have hmL : m + 1 ≤ L.length := by have := Pd.book.size_le; omega
      have hfew := Pd.few
      have c2 := Pd.c2
      have fz : w1.drew.frozen? ⟨pb, 2, none⟩ = false := by simp [World.frozen?, Pd.cell]
      have A3 : AgeOk (w1.drew.setCell ⟨pb, 2, none⟩ (.int .i64 ((L.length : Int) - 1))) s.c s.v s.d := (Pd.age s hs).kept (Kept.setCell w1.drew pb 2 _ (F := fun b => b = pb) rfl) (fun e => Pd.pc hs e.symm) (fun g hg e => Pd.pg hs hg.symm e.symm)
      have hpop := hpop_calls _ s.c s.v s.d m A3 (Pd.book.heap s hs) hm (by omega)
      have DONE : Aside0 (∀ w4 v', _ → _ → _ → _) := ⟨fun w4 v' A4 hv k4 => take_some (w4 := w4) (v' := v') hP Pd k2 hw2 hm N2 A4 hv k4⟩
      rw [hu, ht] at DONE
      have hta := fun w => ta77 (.agg (s.d[0]!).cs.toArray) w
      have hfd := fun w => ent_frame (s.d[0]!) w
      have SZ := size44 (s.d[0]!).f.cs.toArray rfl
      have one := all_oneCell_toArray (s.d[0]!).f.one
      have hLi : (L.length : Int) ≤ 16 := by omega
      have hmi : (m : Int) ≤ 16 := by omega
      clear c1 rH look F1 N1 k1 hs1 hP k2 hsv A3 Pd hw2 hm h0 hmL hfew
      generalize w1.drew = w2 at *
      go_wp2_with (first
        | (go_at_call 29; with_reducible refine hlen.mono ?_; rintro e w'' ⟨rfl, rfl⟩)
        | (go_at_call 30; with_reducible refine hpop.mono ?_; rintro e w4 ⟨rfl, v', A4, hv, k4⟩; obtain ⟨e4, S', D1, D2, D3, D4⟩ := DONE.out w4 v' A4 hv k4; have HD1 : Aside0 _ := ⟨D1⟩; clear D1)
        | (refine wpList_store_row rfl 44 (.tmp 4) (.tmp 34) rfl (w.heap.size + 1) _ rfl rfl 44 fr0.cs.toArray e4 SZ rfl one ?_))
      exact bodyPost_ret (results_two (p := 4) (q := 5) (ty := 44) Try.results20 _ _ (w.heap.size + 1) 44 _ (0, 0) _ (.bool true) rfl rfl (setRow_heap _ _ _ _ 44 _ e4) rfl Try.underlying44 SZ) rfl ⟨S', HD1.out, D2, D3, D4⟩
  · have hn : ∀ s ∈ S, ¬ (s.u = u ∧ s.t = t) := fun s hs hh => hex ⟨s, hs, hh⟩
    have look := look_none hn Pd.mp
    simp only [headV] at look
    have D := take_none hP k2 u t (Pd.book.none1 hn)
    refine start_ (n := 7) (S := fun w' => w' = w1.drew) (ds := []) #[false, false, false, false, false, false, false] (by kernel_rfl) rfl rfl rfl (fun hHeld => ?_)
    clear hHeld
    refine pure_ (i := 0) (N := (some 7)) (v := ?_) (a' := ?_) #[true, false, false, false, false, false, false] rfl rfl (by kernel_rfl) (fun _ _ _ h => h) (Or.inl ⟨by rfl, ?_⟩) ?_ ?_
    rotate_left
    · intro w'
      go_simp
      with_reducible rfl
    rotate_left
    · (try simp only [Act.put, List.setIfInBounds_toArray, List.set_cons_zero, List.set_cons_succ]); rfl
    refine pure_ (i := 1) (N := (some 8)) (v := ?_) (a' := ?_) #[true, true, false, false, false, false, false] rfl rfl (by kernel_rfl) (fun _ _ _ h => h) (Or.inl ⟨by rfl, ?_⟩) ?_ ?_
    rotate_left
    · intro w'
      go_simp
      with_reducible rfl
    rotate_left
    · (try simp only [Act.put, List.setIfInBounds_toArray, List.set_cons_zero, List.set_cons_succ]); rfl
    refine pure_ (i := 2) (N := (some 9)) (v := ?_) (a' := ?_) #[true, true, true, false, false, false, false] rfl rfl (by kernel_rfl) (fun _ _ _ h => h) (Or.inl ⟨by rfl, ?_⟩) ?_ ?_
    rotate_left
    · intro w'
      go_simp
      with_reducible rfl
    rotate_left
    · (try simp only [Act.put, List.setIfInBounds_toArray, List.set_cons_zero, List.set_cons_succ]); rfl
    refine take_ (i := 3) (N := (some 10)) (v := ?_) (a' := ?_) #[true, true, true, true, false, false, false] rfl rfl (by kernel_rfl) (fun _ _ _ h => h) (Or.inl ⟨by rfl, ?_⟩) rfl ?_ ?_
    rotate_left
    · intro w' hS
      subst hS
      go_simp
      with_reducible rfl
    rotate_left
    · (try simp only [Act.put, List.setIfInBounds_toArray, List.set_cons_zero, List.set_cons_succ]); rfl
    refine take_ (i := 4) (N := (some 11)) (v := .agg [.int .u8 u, .int .u16 t].toArray) (a' := ?_) #[true, true, true, true, true, false, false] rfl rfl (by kernel_rfl) (fun _ _ _ h => h) (yieldsIf_load_mid (by kernel_rfl) 35 (.tmp 3) rfl w.heap.size 0 rfl [.int .u8 u, .int .u16 t] _ (fun w' hS => by rw [hS]; exact rH) Try.underlying35 rfl (by kernel_rfl)) rfl ?_ ?_
    rotate_left
    · (try simp only [Act.put, List.setIfInBounds_toArray, List.set_cons_zero, List.set_cons_succ]); rfl
    refine take_ (i := 5) (N := (some 12)) (v := ?_) (a' := ?_) #[true, true, true, true, true, true, false] rfl rfl (by kernel_rfl) (fun _ _ _ h => h) (Or.inl ⟨by rfl, ?_⟩) rfl ?_ ?_
    rotate_left
    · intro w' hS
      subst hS
      go_simp
      with_reducible rfl
    rotate_left
    · (try simp only [Act.put, List.setIfInBounds_toArray, List.set_cons_zero, List.set_cons_succ]); rfl
    refine pure_ (i := 6) (N := (some 6)) (v := ?_) (a' := ?_) #[true, true, true, true, true, true, true] rfl rfl (by kernel_rfl) (fun _ _ _ h => h) (Or.inl ⟨by rfl, ?_⟩) ?_ ?_
    rotate_left
    · intro w'
      go_simp
      with_reducible rfl
    rotate_left
    · (try simp only [Act.put, List.setIfInBounds_toArray, List.set_cons_zero, List.set_cons_succ]); rfl
    refine done_ (by kernel_rfl) ?_
    clear c1 rH look F1 N1 k1 hs1 Pd hP k2 hn hex
    generalize w1.drew = w2 at *
    obtain ⟨S', D1, D2, D3, D4⟩ := D
    have HD1 : Aside0 _ := ⟨D1⟩
    clear D1
    go_wp2_with (first
      | (refine wpList_buildTo rfl 44 _ rfl (some 22) rfl fr0.cs.toArray ?_ ?_; (exact zero_built))
      | (refine wpList_store_row rfl 44 (.tmp 4) (.tmp 22) rfl (w.heap.size + 1) _ rfl rfl 44 fr0.cs.toArray N2 SZ0 rfl one0 ?_))
    exact bodyPost_ret (results_two (p := 4) (q := 5) (ty := 44) Try.results20 _ _ (w.heap.size + 1) 44 fr0.cs.toArray (0, 0) _ (.bool false) rfl rfl (setRow_heap _ _ _ _ 44 _ N2) rfl Try.underlying44 SZ0) rfl ⟨S', HD1.out, D2, D3, D4⟩

end Go.Proofs.Ytmbjlondehcheaa
