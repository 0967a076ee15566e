/- TopTalk: part 6 of the walks: of HPairTake, HPairSort, HPairRange. -/
import Derived.Test.YtmbjlondehcheaaGreatDoorM05
import Derived.Shelf.SlLaysC2
import Derived.Shelf.SlLaysF0
import Derived.Shelf.SlSortCmp.NoneTotal
import Derived.Shelf.SlicesG.Cmp
section
set_option linter.unusedSimpArgs false
set_option linter.unusedVariables false
namespace Go.Proofs.YtmbjlondehcheaaGreatDoor
open Go.Shelf Go.RowKit Go.Lib Go.Sort Go.Proofs.YtmbjlondehcheaaGreatDoorW.PrintWords Go.Proofs.YtmbjlondehcheaaGreatDoorW.PrintLast
theorem results_two {fn : Func} {p q : Tmp} {ty : TypeId} (h : fn.results = #[.cell p ty, .tmp q]) (tmps : Array Value) (w : World) (g : Nat) (t : TypeId) (cs : Array Value) (fr : Nat × Nat) (d : TypeDesc) (v : Value)
    (hp : tmps.getD p undef = .pointer (some ⟨g, 0, none⟩)) (hq : tmps.getD q undef = v) (hg : w.heap[g]? = some (.cells cs t fr))
    (hdr : (match d with | .struct _ | .array _ _ => true | _ => false) = true) (hu : Tryz.prog.underlying ty = some d) (hi : (Tryz.prog.info? ty).map (·.size) = some cs.size) :
    (results fn tmps).run Tryz.prog w = .ok (.tuple #[.agg cs, v]) w := by
  have hp' : tmps[p]?.getD undef = .pointer (some ⟨g, 0, none⟩) := by simpa using hp
  have hq' : tmps[q]?.getD undef = v := by simpa using hq
  simp [results, h, hp', hq', asAddr, run_loadVar_row w g t ty cs fr d hg hu (by cases d <;> first | rfl | cases hdr) hi]
theorem AgeOk.len {w : World} {c : Nat} {v : Value} {d : Array Ent} (A : AgeOk w c v d) : ∃ a cap, v = .slice a d.size cap := by
  rcases A.row.2 with ⟨h, h0⟩ | ⟨g, cap, cur, h, _⟩
  · exact ⟨none, 0, by rw [h, h0]⟩
  · exact ⟨_, _, h⟩
theorem ent_frame (e : Ent) (w : World) : (Instr.field 131 (.agg e.cs.toArray) 1).run Tryz.prog w = .ok (.agg e.f.cs.toArray) w := by kernel_rfl
theorem zero_built : Tryz.prog.built 37 [] = some fr0.cs.toArray := by kernel_rfl
def tk (L : List Ent) (u t : Int) : Fr := ((L.find? (hd u t)).map (·.f)).getD fr0
theorem take_none {w w2 : World} {pb : Nat} {net : Bool} {B : Nat} {S : List Slot} {L : List Ent} {all : Nat} (hP : PS w pb net B S L all) (k : Kept w w2 (fun _ => False)) (u t : Int) (hf : L.find? (hd u t) = none) :
    ∃ S', (Ending.returned (.tuple #[.agg fr0.cs.toArray, .bool false]) = Ending.returned (.tuple #[.agg (tk L u t).cs.toArray, .bool (L.find? (hd u t)).isSome])) ∧ PS (w2.setRow (w.heap.size + 1) fr0.cs.toArray) pb net B S' (L.eraseP (hd u t)) all ∧
      (∀ b, foot pb B S' b → foot pb B S b ∨ w.heap.size ≤ b) ∧ Kept w (w2.setRow (w.heap.size + 1) fr0.cs.toArray) (foot pb B S) := by
  have q : Kept w (w2.setRow (w.heap.size + 1) fr0.cs.toArray) (fun b => b = w.heap.size + 1) := k.trans (Kept.setRow w2 (w.heap.size + 1) _ (F := fun b => b = w.heap.size + 1) rfl) (fun _ _ h => h.elim) (fun _ _ h => h)
  have he : L.eraseP (hd u t) = L := by
    rw [List.eraseP_of_forall_not]
    rw [List.find?_eq_none] at hf
    exact hf
  refine ⟨S, by rw [tk, hf]; rfl, ?_, fun b hb => .inl hb, q.mono (fun b hb h => by omega)⟩
  rw [he]
  exact hP.kept q (fun b hb h => by have := hP.foot_lt hb; omega)
theorem take_some {w w2 : World} {pb : Nat} {net : Bool} {B : Nat} {A C : List Slot} {s : Slot} {L : List Ent} {all m : Nat} (hP : PS w pb net B (A ++ s :: C) L all) (P2 : PS w2 pb net B (A ++ s :: C) L all) (k : Kept w w2 (fun _ => False)) (hw : w.heap.size + 2 ≤ w2.heap.size)
    (hm : s.d.size = m + 1) (hN : w2.heap[w.heap.size + 1]? = some (.cells fr0.cs.toArray 37 (0, 0)))
    {w4 : World} {v' : Value} (A4 : AgeOk w4 s.c v' ((siftDown yg m 0 0 (swp s.d 0 m)).extract 0 m)) (hv : v'.ownBlock = s.v.ownBlock) (k4 : Kept (w2.setCell ⟨pb, 2, none⟩ (.int .i64 ((L.length : Int) - 1))) w4 (fun b => b = s.c ∨ some b = s.v.ownBlock)) :
    w4.heap[w.heap.size + 1]? = some (.cells fr0.cs.toArray 37 (0, 0)) ∧
    ∃ S', (Ending.returned (.tuple #[.agg (s.d[0]!).f.cs.toArray, .bool true]) = Ending.returned (.tuple #[.agg (tk L s.u s.t).cs.toArray, .bool (L.find? (hd s.u s.t)).isSome])) ∧ PS (w4.setRow (w.heap.size + 1) (s.d[0]!).f.cs.toArray) pb net B S' (L.eraseP (hd s.u s.t)) all ∧
      (∀ b, foot pb B S' b → foot pb B (A ++ s :: C) b ∨ w.heap.size ≤ b) ∧ Kept w (w4.setRow (w.heap.size + 1) (s.d[0]!).f.cs.toArray) (foot pb B (A ++ s :: C)) := by
  have hs : s ∈ A ++ s :: C := by simp
  obtain ⟨b1, b2, b3⟩ := P2.book.take hm { s with v := v', d := (siftDown yg m 0 0 (swp s.d 0 m)).extract 0 m } ⟨rfl, rfl, rfl⟩
  have hpl := hP.foot_lt (b := pb) (.inl rfl)
  have hsl : ∀ b, (b = s.c ∨ some b = s.v.ownBlock) → b < w.heap.size := fun b hb => hP.foot_lt (.inr (.inr ⟨s, hs, hb⟩))
  have q0 : Kept w2 (w2.setCell ⟨pb, 2, none⟩ (.int .i64 ((L.length : Int) - 1))) (fun b => b = pb) := Kept.setCell w2 pb 2 _ rfl
  have q1 : Kept w2 w4 (fun b => b = pb ∨ b = s.c ∨ some b = s.v.ownBlock) := q0.trans k4 (fun _ _ h => .inl h) (fun _ _ h => .inr h)
  have q2 : Kept w2 (w4.setRow (w.heap.size + 1) (s.d[0]!).f.cs.toArray) (fun b => (b = pb ∨ b = s.c ∨ some b = s.v.ownBlock) ∨ b = w.heap.size + 1) := q1.trans (Kept.setRow w4 (w.heap.size + 1) _ (F := fun b => b = w.heap.size + 1) rfl) (fun _ _ h => .inl h) (fun _ _ h => .inr h)
  have e4 : w4.heap[w.heap.size + 1]? = some (.cells fr0.cs.toArray 37 (0, 0)) := q1.heap hN (fun e => by
    rcases e with e | e
    · omega
    · have := hsl _ e; omega)
  refine ⟨e4, A ++ { s with v := v', d := (siftDown yg m 0 0 (swp s.d 0 m)).extract 0 m } :: C, ?_, ?_, ?_, ?_⟩
  · rw [tk, b1]; rfl
  · refine P2.turn (s' := { s with v := v', d := (siftDown yg m 0 0 (swp s.d 0 m)).extract 0 m }) q2 (fun b hb hF => ?_) rfl rfl rfl (.inl hv) ?_ (A4.kept (Kept.setRow w4 (w.heap.size + 1) _ (F := fun b => b = w.heap.size + 1) rfl) (fun e => ?_) (fun g hg e => ?_)) b2 (by have := P2.few; omega) P2.young
    · rcases hF with h | h
      · exact h
      · have := hP.foot_lt hb; omega
    · have h1 := setCell_row (i := 2) (v := .int .i64 ((L.length : Int) - 1)) P2.cell
      have h2 : w4.heap[pb]? = _ := k4.heap h1 (fun e => by
        rcases e with e | e
        · exact P2.pc hs e
        · exact P2.pg hs e rfl)
      rw [setRow_other _ _ _ _ (by omega), h2]
      have : ((L.eraseP (hd s.u s.t)).length : Int) = (L.length : Int) - 1 := by omega
      rw [this]
      simp
    · have := hsl s.c (.inl rfl); omega
    · have := hsl g (.inr (by rw [← hv, hg])); omega
  · intro b hb
    exact foot_turn (s := s) (s' := { s with v := v', d := (siftDown yg m 0 0 (swp s.d 0 m)).extract 0 m }) rfl (.inl hv) hb
  · refine k.trans q2 (fun _ _ h => h.elim) (fun b hb hF => ?_)
    rcases hF with (hF | hF) | hF
    · exact .inl hF
    · exact .inr (.inr ⟨s, hs, hF⟩)
    · omega
set_option maxHeartbeats 1000000 in
set_option maxRecDepth 1000000 in
theorem take_calls (w : World) (pb : Nat) (net : Bool) (B : Nat) (S : List Slot) (L : List Ent) (all : Nat) (u t : Int) (hP : PS w pb net B S L all) :
    Calls Tryz.prog 34 #[.pointer (some ⟨pb, 0, none⟩), .agg #[.int .u8 u, .int .u16 t]] w fun r w' => ∃ S', r = .returned (.tuple #[.agg (tk L u t).cs.toArray, .bool (L.find? (hd u t)).isSome]) ∧ PS w' pb net B S' (L.eraseP (hd u t)) all ∧
      (∀ b, foot pb B S' b → foot pb B S b ∨ w.heap.size ≤ b) ∧ Kept w w' (foot pb B S) := by
  have hz := fr0_zero
  have k1 : Kept w ((w.alloc (.cells #[.int .u8 u, .int .u16 t] 29)).alloc (.cells fr0.cs.toArray 37)) (fun _ => False) := (Kept.alloc w _ _).trans (Kept.alloc _ _ (fun _ => False)) (fun _ _ h => h) (fun _ _ h => h)
  have F1 : ((w.alloc (.cells #[.int .u8 u, .int .u16 t] 29)).alloc (.cells fr0.cs.toArray 37)).heap[w.heap.size]? = some (.cells #[.int .u8 u, .int .u16 t] 29 (0, 0)) := by rw [heap_alloc_old _ _ (by simp)]; exact heap_alloc_new _ _
  have N1 : ((w.alloc (.cells #[.int .u8 u, .int .u16 t] 29)).alloc (.cells fr0.cs.toArray 37)).heap[w.heap.size + 1]? = some (.cells fr0.cs.toArray 37 (0, 0)) := by
    have := heap_alloc_new (w.alloc (.cells #[.int .u8 u, .int .u16 t] 29)) (.cells fr0.cs.toArray 37)
    simpa using this
  have hs1 : ((w.alloc (.cells #[.int .u8 u, .int .u16 t] 29)).alloc (.cells fr0.cs.toArray 37)).heap.size = w.heap.size + 2 := by simp
  have SZ0 := size44 fr0.cs.toArray rfl
  have one0 := all_oneCell_toArray fr0.one
  go_enter Tryz.func34, Tryz.ntmps34
  go_wp2_with fail
  generalize ((w.alloc (.cells #[.int .u8 u, .int .u16 t] 29)).alloc (.cells fr0.cs.toArray 37)) = w1 at *
  have k2 : Kept w w1.drew (fun _ => False) := k1.trans (Kept.drew w1 (fun _ => False)) (fun _ _ h => h) (fun _ _ h => h)
  have Pd : PS w1.drew pb net B S L all := hP.kept k2 (fun _ _ h => h)
  have c1 := Pd.c1
  have rH : w1.drew.rangeAt w.heap.size 0 [.int .u8 u, .int .u16 t] := by
    have := World.rangeAt_of_block (w := w1.drew) F1 0 2
    exact this
  have N2 : w1.drew.heap[w.heap.size + 1]? = some (.cells fr0.cs.toArray 37 (0, 0)) := N1
  have hw2 : w.heap.size + 2 ≤ w1.drew.heap.size := Nat.le_of_eq hs1.symm
  by_cases hex : ∃ s ∈ S, s.u = u ∧ s.t = t
  · obtain ⟨s, hs, hu, ht⟩ := hex
    obtain ⟨A, C, rfl⟩ := List.append_of_mem hs
    have look := look_some (s := s) Pd.book.keys Pd.mp
    rw [hu, ht] at look
    simp only [headV] at look
    have ac := (Pd.age s hs).cell
    obtain ⟨sa, scap, hsv⟩ := (Pd.age s hs).len
    rw [hsv] at ac
    refine start_ (n := 7) (S := fun w' => w' = w1.drew) (ds := []) #[false, false, false, false, false, false, false] (by kernel_rfl) rfl rfl rfl (fun hHeld => ?_)
    clear hHeld
    refine pure_ (i := 0) (N := (some 7)) (v := ?_) (a' := ?_) #[true, false, false, false, false, false, false] rfl rfl (by kernel_rfl) (fun _ _ _ h => h) (Or.inl ⟨by rfl, ?_⟩) ?_ ?_
    rotate_left
    · intro w'
      go_simp
      with_reducible rfl
    rotate_left
    · (try simp only [Act.put, List.setIfInBounds_toArray, List.set_cons_zero, List.set_cons_succ]); rfl
    refine pure_ (i := 1) (N := (some 8)) (v := ?_) (a' := ?_) #[true, true, false, false, false, false, false] rfl rfl (by kernel_rfl) (fun _ _ _ h => h) (Or.inl ⟨by rfl, ?_⟩) ?_ ?_
    rotate_left
    · intro w'
      go_simp
      with_reducible rfl
    rotate_left
    · (try simp only [Act.put, List.setIfInBounds_toArray, List.set_cons_zero, List.set_cons_succ]); rfl
    refine pure_ (i := 2) (N := (some 9)) (v := ?_) (a' := ?_) #[true, true, true, false, false, false, false] rfl rfl (by kernel_rfl) (fun _ _ _ h => h) (Or.inl ⟨by rfl, ?_⟩) ?_ ?_
    rotate_left
    · intro w'
      go_simp
      with_reducible rfl
    rotate_left
    · (try simp only [Act.put, List.setIfInBounds_toArray, List.set_cons_zero, List.set_cons_succ]); rfl
    refine take_ (i := 3) (N := (some 10)) (v := ?_) (a' := ?_) #[true, true, true, true, false, false, false] rfl rfl (by kernel_rfl) (fun _ _ _ h => h) (Or.inl ⟨by rfl, ?_⟩) rfl ?_ ?_
    rotate_left
    · intro w' hS
      subst hS
      go_simp
      with_reducible rfl
    rotate_left
    · (try simp only [Act.put, List.setIfInBounds_toArray, List.set_cons_zero, List.set_cons_succ]); rfl
    refine take_ (i := 4) (N := (some 11)) (v := .agg [.int .u8 u, .int .u16 t].toArray) (a' := ?_) #[true, true, true, true, true, false, false] rfl rfl (by kernel_rfl) (fun _ _ _ h => h) (yieldsIf_load_mid (by kernel_rfl) 29 (.tmp 3) rfl w.heap.size 0 rfl [.int .u8 u, .int .u16 t] _ (fun w' hS => by rw [hS]; exact rH) Tryz.underlying29 rfl (by kernel_rfl)) rfl ?_ ?_
    rotate_left
    · (try simp only [Act.put, List.setIfInBounds_toArray, List.set_cons_zero, List.set_cons_succ]); rfl
    refine take_ (i := 5) (N := (some 12)) (v := ?_) (a' := ?_) #[true, true, true, true, true, true, false] rfl rfl (by kernel_rfl) (fun _ _ _ h => h) (Or.inl ⟨by rfl, ?_⟩) rfl ?_ ?_
    rotate_left
    · intro w' hS
      subst hS
      go_simp
      with_reducible rfl
    rotate_left
    · (try simp only [Act.put, List.setIfInBounds_toArray, List.set_cons_zero, List.set_cons_succ]); rfl
    refine pure_ (i := 6) (N := (some 6)) (v := ?_) (a' := ?_) #[true, true, true, true, true, true, true] rfl rfl (by kernel_rfl) (fun _ _ _ h => h) (Or.inl ⟨by rfl, ?_⟩) ?_ ?_
    rotate_left
    · intro w'
      go_simp
      with_reducible rfl
    rotate_left
    · (try simp only [Act.put, List.setIfInBounds_toArray, List.set_cons_zero, List.set_cons_succ]); rfl
    refine done_ (by kernel_rfl) ?_
    by_cases h0 : s.d.size = 0
    · have hf : L.find? (hd u t) = none := by rw [← hu, ← ht]; exact Pd.book.none2 h0
      have D := take_none hP k2 u t hf
      rw [h0] at ac
      have hlen := len_calls w1.drew sa 0 scap
      rw [show ((0 : Nat) : Int) = 0 from rfl] at hlen
      clear c1 rH look F1 N1 k1 hs1 Pd hP k2 hsv
      generalize w1.drew = w2 at *
      obtain ⟨S', D1, D2, D3, D4⟩ := D
      have HD1 : Aside0 _ := ⟨D1⟩
      clear D1
      go_wp2_with (first
        | (go_at_call 49; with_reducible refine hlen.mono ?_; rintro e w'' ⟨rfl, rfl⟩)
        | (refine wpList_buildTo rfl 37 _ rfl (some 22) rfl fr0.cs.toArray ?_ ?_; (exact zero_built))
        | (refine wpList_store_row rfl 37 (.tmp 4) (.tmp 22) rfl (w.heap.size + 1) _ rfl rfl 37 fr0.cs.toArray N2 SZ0 rfl one0 ?_))
      exact bodyPost_ret (results_two (p := 4) (q := 5) (ty := 37) Tryz.results34 _ _ (w.heap.size + 1) 37 fr0.cs.toArray (0, 0) _ (.bool false) rfl rfl (setRow_heap _ _ _ _ 37 _ N2) rfl Tryz.underlying37 SZ0) rfl ⟨S', HD1.out, D2, D3, D4⟩
    · obtain ⟨m, hm⟩ : ∃ m, s.d.size = m + 1 := ⟨s.d.size - 1, by omega⟩
      have hlen := len_calls w1.drew sa (m + 1) scap
      rw [hm] at ac
      have hmL : m + 1 ≤ L.length := by have := Pd.book.size_le; omega
      have hfew := Pd.few
      have c2 := Pd.c2
      have fz : w1.drew.frozen? ⟨pb, 2, none⟩ = false := by simp [World.frozen?, Pd.cell]
      have A3 : AgeOk (w1.drew.setCell ⟨pb, 2, none⟩ (.int .i64 ((L.length : Int) - 1))) s.c s.v s.d := (Pd.age s hs).kept (Kept.setCell w1.drew pb 2 _ (F := fun b => b = pb) rfl) (fun e => Pd.pc hs e.symm) (fun g hg e => Pd.pg hs hg.symm e.symm)
      have hpop := hpop_calls _ s.c s.v s.d m A3 (Pd.book.heap s hs) hm (by omega)
      have DONE : Aside0 (∀ w4 v', _ → _ → _ → _) := ⟨fun w4 v' A4 hv k4 => take_some (w4 := w4) (v' := v') hP Pd k2 hw2 hm N2 A4 hv k4⟩
      rw [hu, ht] at DONE
      have hta := fun w => ta77 (.agg (s.d[0]!).cs.toArray) w
      have hfd := fun w => ent_frame (s.d[0]!) w
      have SZ := size44 (s.d[0]!).f.cs.toArray rfl
      have one := all_oneCell_toArray (s.d[0]!).f.one
      have hLi : (L.length : Int) ≤ 16 := by omega
      have hmi : (m : Int) ≤ 16 := by omega
      clear c1 rH look F1 N1 k1 hs1 hP k2 hsv A3 Pd hw2 hm h0 hmL hfew
      generalize w1.drew = w2 at *
      go_wp2_with (first
        | (go_at_call 49; with_reducible refine hlen.mono ?_; rintro e w'' ⟨rfl, rfl⟩)
        | (go_at_call 50; with_reducible refine hpop.mono ?_; rintro e w4 ⟨rfl, v', A4, hv, k4⟩; obtain ⟨e4, S', D1, D2, D3, D4⟩ := DONE.out w4 v' A4 hv k4; have HD1 : Aside0 _ := ⟨D1⟩; clear D1)
        | (refine wpList_store_row rfl 37 (.tmp 4) (.tmp 34) rfl (w.heap.size + 1) _ rfl rfl 37 fr0.cs.toArray e4 SZ rfl one ?_))
      exact bodyPost_ret (results_two (p := 4) (q := 5) (ty := 37) Tryz.results34 _ _ (w.heap.size + 1) 37 _ (0, 0) _ (.bool true) rfl rfl (setRow_heap _ _ _ _ 37 _ e4) rfl Tryz.underlying37 SZ) rfl ⟨S', HD1.out, D2, D3, D4⟩
  · have hn : ∀ s ∈ S, ¬ (s.u = u ∧ s.t = t) := fun s hs hh => hex ⟨s, hs, hh⟩
    have look := look_none hn Pd.mp
    simp only [headV] at look
    have D := take_none hP k2 u t (Pd.book.none1 hn)
    refine start_ (n := 7) (S := fun w' => w' = w1.drew) (ds := []) #[false, false, false, false, false, false, false] (by kernel_rfl) rfl rfl rfl (fun hHeld => ?_)
    clear hHeld
    refine pure_ (i := 0) (N := (some 7)) (v := ?_) (a' := ?_) #[true, false, false, false, false, false, false] rfl rfl (by kernel_rfl) (fun _ _ _ h => h) (Or.inl ⟨by rfl, ?_⟩) ?_ ?_
    rotate_left
    · intro w'
      go_simp
      with_reducible rfl
    rotate_left
    · (try simp only [Act.put, List.setIfInBounds_toArray, List.set_cons_zero, List.set_cons_succ]); rfl
    refine pure_ (i := 1) (N := (some 8)) (v := ?_) (a' := ?_) #[true, true, false, false, false, false, false] rfl rfl (by kernel_rfl) (fun _ _ _ h => h) (Or.inl ⟨by rfl, ?_⟩) ?_ ?_
    rotate_left
    · intro w'
      go_simp
      with_reducible rfl
    rotate_left
    · (try simp only [Act.put, List.setIfInBounds_toArray, List.set_cons_zero, List.set_cons_succ]); rfl
    refine pure_ (i := 2) (N := (some 9)) (v := ?_) (a' := ?_) #[true, true, true, false, false, false, false] rfl rfl (by kernel_rfl) (fun _ _ _ h => h) (Or.inl ⟨by rfl, ?_⟩) ?_ ?_
    rotate_left
    · intro w'
      go_simp
      with_reducible rfl
    rotate_left
    · (try simp only [Act.put, List.setIfInBounds_toArray, List.set_cons_zero, List.set_cons_succ]); rfl
    refine take_ (i := 3) (N := (some 10)) (v := ?_) (a' := ?_) #[true, true, true, true, false, false, false] rfl rfl (by kernel_rfl) (fun _ _ _ h => h) (Or.inl ⟨by rfl, ?_⟩) rfl ?_ ?_
    rotate_left
    · intro w' hS
      subst hS
      go_simp
      with_reducible rfl
    rotate_left
    · (try simp only [Act.put, List.setIfInBounds_toArray, List.set_cons_zero, List.set_cons_succ]); rfl
    refine take_ (i := 4) (N := (some 11)) (v := .agg [.int .u8 u, .int .u16 t].toArray) (a' := ?_) #[true, true, true, true, true, false, false] rfl rfl (by kernel_rfl) (fun _ _ _ h => h) (yieldsIf_load_mid (by kernel_rfl) 29 (.tmp 3) rfl w.heap.size 0 rfl [.int .u8 u, .int .u16 t] _ (fun w' hS => by rw [hS]; exact rH) Tryz.underlying29 rfl (by kernel_rfl)) rfl ?_ ?_
    rotate_left
    · (try simp only [Act.put, List.setIfInBounds_toArray, List.set_cons_zero, List.set_cons_succ]); rfl
    refine take_ (i := 5) (N := (some 12)) (v := ?_) (a' := ?_) #[true, true, true, true, true, true, false] rfl rfl (by kernel_rfl) (fun _ _ _ h => h) (Or.inl ⟨by rfl, ?_⟩) rfl ?_ ?_
    rotate_left
    · intro w' hS
      subst hS
      go_simp
      with_reducible rfl
    rotate_left
    · (try simp only [Act.put, List.setIfInBounds_toArray, List.set_cons_zero, List.set_cons_succ]); rfl
    refine pure_ (i := 6) (N := (some 6)) (v := ?_) (a' := ?_) #[true, true, true, true, true, true, true] rfl rfl (by kernel_rfl) (fun _ _ _ h => h) (Or.inl ⟨by rfl, ?_⟩) ?_ ?_
    rotate_left
    · intro w'
      go_simp
      with_reducible rfl
    rotate_left
    · (try simp only [Act.put, List.setIfInBounds_toArray, List.set_cons_zero, List.set_cons_succ]); rfl
    refine done_ (by kernel_rfl) ?_
    clear c1 rH look F1 N1 k1 hs1 Pd hP k2 hn hex
    generalize w1.drew = w2 at *
    obtain ⟨S', D1, D2, D3, D4⟩ := D
    have HD1 : Aside0 _ := ⟨D1⟩
    clear D1
    go_wp2_with (first
      | (refine wpList_buildTo rfl 37 _ rfl (some 22) rfl fr0.cs.toArray ?_ ?_; (exact zero_built))
      | (refine wpList_store_row rfl 37 (.tmp 4) (.tmp 22) rfl (w.heap.size + 1) _ rfl rfl 37 fr0.cs.toArray N2 SZ0 rfl one0 ?_))
    exact bodyPost_ret (results_two (p := 4) (q := 5) (ty := 37) Tryz.results34 _ _ (w.heap.size + 1) 37 fr0.cs.toArray (0, 0) _ (.bool false) rfl rfl (setRow_heap _ _ _ _ 37 _ N2) rfl Tryz.underlying37 SZ0) rfl ⟨S', HD1.out, D2, D3, D4⟩
end Go.Proofs.YtmbjlondehcheaaGreatDoor
end
section
set_option linter.unusedSimpArgs false
set_option linter.unusedVariables false
namespace Go.Proofs.YtmbjlondehcheaaGreatDoor
open Go.Shelf Go.RowKit Go.Lib Go.Sort Go.Proofs.YtmbjlondehcheaaGreatDoorW.PrintWords Go.Proofs.YtmbjlondehcheaaGreatDoorW.PrintLast
def sortEnt_ren : Go.Shelf.Ren := ⟨fun | 6 => 39 | 15 => 52 | 14 => 51 | 28 => 67 | 29 => 68 | 20 => 59 | 21 => 60 | 22 => 61 | 23 => 62 | 24 => 63 | 25 => 64 | 26 => 65 | 27 => 66 | 46 => 74 | 47 => 75 | 48 => 76 | 49 => 77 | 50 => 78 | 57 => 83 | n => n, fun | 22 => 126 | 24 => 131 | 25 => 133 | 3 => 3 | 39 => 153 | 0 => 0 | 53 => 173 | 55 => 175 | 4 => 4 | 46 => 166 | 45 => 165 | 50 => 170 | 5 => 5 | 9 => 9 | 66 => 183 | 70 => 187 | 76 => 192 | 77 => 193 | n => n, fun | n => n⟩
theorem sortEnt : Go.Proofs.SlLaysF0.n6 Tryz.prog sortEnt_ren := {
  mixed := (by kernel_rfl),
  f6 := ⟨Tryz.f39.name, by decide, Tryz.func39.trans (congrArg some (by kernel_rfl))⟩,
  f14 := ⟨Tryz.f51.name, by decide, Tryz.func51.trans (congrArg some (by kernel_rfl))⟩,
  f15 := Tryz.func52.trans (congrArg some (by kernel_rfl)),
  f20 := ⟨Tryz.f59.name, by decide, Tryz.func59.trans (congrArg some (by kernel_rfl))⟩,
  f21 := ⟨Tryz.f60.name, by decide, Tryz.func60.trans (congrArg some (by kernel_rfl))⟩,
  f22 := ⟨Tryz.f61.name, by decide, Tryz.func61.trans (congrArg some (by kernel_rfl))⟩,
  f23 := ⟨Tryz.f62.name, by decide, Tryz.func62.trans (congrArg some (by kernel_rfl))⟩,
  f24 := ⟨Tryz.f63.name, by decide, Tryz.func63.trans (congrArg some (by kernel_rfl))⟩,
  f25 := ⟨Tryz.f64.name, by decide, Tryz.func64.trans (congrArg some (by kernel_rfl))⟩,
  f26 := ⟨Tryz.f65.name, by decide, Tryz.func65.trans (congrArg some (by kernel_rfl))⟩,
  f27 := ⟨Tryz.f66.name, by decide, Tryz.func66.trans (congrArg some (by kernel_rfl))⟩,
  f28 := Tryz.func67.trans (congrArg some (by kernel_rfl)),
  f29 := Tryz.func68.trans (congrArg some (by kernel_rfl)),
  f46 := ⟨Tryz.f74.name, by decide, Tryz.func74.trans (congrArg some (by kernel_rfl))⟩,
  f47 := Tryz.func75.trans (congrArg some (by kernel_rfl)),
  f48 := Tryz.func76.trans (congrArg some (by kernel_rfl)),
  f49 := ⟨Tryz.f77.name, by decide, Tryz.func77.trans (congrArg some (by kernel_rfl))⟩,
  f50 := ⟨Tryz.f78.name, by decide, Tryz.func78.trans (congrArg some (by kernel_rfl))⟩,
  f57 := ⟨Tryz.f83.name, by decide, Tryz.func83.trans (congrArg some (by kernel_rfl))⟩,
  t0 := Tryz.underlying0,
  a0 := Tryz.isAgg0,
  z0 := Tryz.sizeOf0,
  v0 := Tryz.zeroValue0,
  t3 := Tryz.underlying3,
  a3 := Tryz.isAgg3,
  z3 := Tryz.sizeOf3,
  v3 := Tryz.zeroValue3,
  t4 := Tryz.underlying4,
  a4 := Tryz.isAgg4,
  z4 := Tryz.sizeOf4,
  v4 := Tryz.zeroValue4,
  t5 := Tryz.underlying5,
  a5 := Tryz.isAgg5,
  z5 := Tryz.sizeOf5,
  v5 := Tryz.zeroValue5,
  t9 := Tryz.underlying9,
  a9 := Tryz.isAgg9,
  z9 := Tryz.sizeOf9,
  v9 := Tryz.zeroValue9,
  t22 := Tryz.underlying126,
  a22 := Tryz.isAgg126,
  z22 := Tryz.sizeOf126,
  v22 := Tryz.zeroValue126,
  t25 := Tryz.underlying133,
  a25 := Tryz.isAgg133,
  z25 := Tryz.sizeOf133,
  v25 := Tryz.zeroValue133,
  t39 := Tryz.underlying153,
  a39 := Tryz.isAgg153,
  z39 := Tryz.sizeOf153,
  v39 := Tryz.zeroValue153,
  t45 := Tryz.underlying165,
  a45 := Tryz.isAgg165,
  z45 := Tryz.sizeOf165,
  v45 := Tryz.zeroValue165,
  t46 := Tryz.underlying166,
  a46 := Tryz.isAgg166,
  z46 := Tryz.sizeOf166,
  v46 := Tryz.zeroValue166,
  t50 := Tryz.underlying170,
  a50 := Tryz.isAgg170,
  z50 := Tryz.sizeOf170,
  v50 := Tryz.zeroValue170,
  t53 := Tryz.underlying173,
  a53 := Tryz.isAgg173,
  z53 := Tryz.sizeOf173,
  v53 := Tryz.zeroValue173,
  t55 := Tryz.underlying175,
  a55 := Tryz.isAgg175,
  z55 := Tryz.sizeOf175,
  v55 := Tryz.zeroValue175,
  t66 := Tryz.underlying183,
  a66 := Tryz.isAgg183,
  z66 := Tryz.sizeOf183,
  v66 := Tryz.zeroValue183,
  t70 := Tryz.underlying187,
  a70 := Tryz.isAgg187,
  z70 := Tryz.sizeOf187,
  v70 := Tryz.zeroValue187,
  t76 := Tryz.underlying192,
  a76 := Tryz.isAgg192,
  z76 := Tryz.sizeOf192,
  v76 := Tryz.zeroValue192,
  t77 := Tryz.underlying193,
  a77 := Tryz.isAgg193,
  z77 := Tryz.sizeOf193,
  v77 := Tryz.zeroValue193 }
def cmpInt_ren : Go.Shelf.Ren := ⟨fun | 5 => 41 | 7 => 53 | n => n, fun | 22 => 3 | 3 => 3 | 4 => 4 | n => n, fun | n => n⟩
theorem cmpInt : Go.Proofs.SlLaysC2.n5 Tryz.prog cmpInt_ren := {
  mixed := (by kernel_rfl),
  f5 := ⟨Tryz.f41.name, by decide, Tryz.func41.trans (congrArg some (by kernel_rfl))⟩,
  f7 := ⟨Tryz.f53.name, by decide, Tryz.func53.trans (congrArg some (by kernel_rfl))⟩,
  t3 := Tryz.underlying3,
  a3 := Tryz.isAgg3,
  z3 := Tryz.sizeOf3,
  v3 := Tryz.zeroValue3,
  t4 := Tryz.underlying4,
  a4 := Tryz.isAgg4,
  z4 := Tryz.sizeOf4,
  v4 := Tryz.zeroValue4,
  t22 := Tryz.underlying3,
  a22 := Tryz.isAgg3,
  z22 := Tryz.sizeOf3,
  v22 := Tryz.zeroValue3 }
def cf (x y : Ent) : Int := Lib.compareInt x.n y.n
theorem cf_lt (x y : Ent) : ltOf cf x y = decide (x.n < y.n) := by
  unfold ltOf cf Lib.compareInt
  by_cases h1 : x.n < y.n
  · simp [h1]
  · by_cases h2 : y.n < x.n <;> simp [h1, h2]
theorem cf_swo : SWO (ltOf cf) where
  irrefl x := by rw [cf_lt]; simp
  trans x y z h1 h2 := by rw [cf_lt] at *; simp at *; omega
  ntrans x y z h1 h2 := by rw [cf_lt] at *; simp at *; omega
set_option maxHeartbeats 1000000 in
theorem cmp_calls (x y : Ent) (W : World) : Calls Tryz.prog 40 #[.agg x.cs.toArray, .agg y.cs.toArray] W fun e w' => e = .returned (.int .i64 (cf x y)) ∧ ∃ q os', w' = grow (W.drewN q) os' := by
  have hcon := fun W' => AnyG.cmp_Compare_int cmpInt x.n y.n W'
  change ∀ W', Calls Tryz.prog 41 _ _ _ at hcon
  show Calls _ _ _ _ fun e w' => e = .returned (.int .i64 (Lib.compareInt x.n y.n)) ∧ _
  generalize Lib.compareInt x.n y.n = r at hcon ⊢
  have hx : x.cs[0]? = some (.int .i64 x.n) := rfl
  have hy : y.cs[0]? = some (.int .i64 y.n) := rfl
  generalize x.cs = cx at hx ⊢
  generalize y.cs = cy at hy ⊢
  go_enter Tryz.func40, Tryz.ntmps40
  go_wp2_with (go_at_call 41; refine (hcon _).mono ?_; rintro e w' ⟨rfl, rfl⟩)
  go_ret
  exact ⟨rfl, 0, _, by rw [alloc_eq_grow, alloc_eq_grow, grow_grow]; rfl⟩
theorem cmp_lays (blk off size : Nat) (w : World) : CmpLays Tryz.prog 40 #[] Ent.cs 25 cf blk off size w := fun _ _ _ _ x y => cmp_calls x y _
theorem sort_calls (w : World) (v : Value) (d : Array Ent) (ho : w.ownsRow 0 131 25 v d.size (flat d)) (hsz : d.size ≤ 1000) :
    Calls Tryz.prog 39 #[v, .func (.func 40) #[] #[]] w fun r w' => r = .returned (.tuple #[]) ∧ ∃ d' : Array Ent, d'.toList.Perm d.toList ∧ d'.toList.Pairwise (fun a b => a.n ≤ b.n) ∧ w'.ownsRow 0 131 25 v d.size (flat d') ∧ Kept w w' (fun b => some b = v.ownBlock) := by
  have eg : ∀ args w, (callFunc 40 args).run Tryz.prog w = .ok (.enter 40 args) w := enters_of Tryz.func40 (by kernel_rfl) rfl
  have none_ : ∀ p cap, v = .slice p 0 cap → d.size = 0 → Calls Tryz.prog 39 #[v, .func (.func 40) #[] #[]] w fun r w' => r = .returned (.tuple #[]) ∧ ∃ d' : Array Ent, d'.toList.Perm d.toList ∧ d'.toList.Pairwise (fun a b => a.n ≤ b.n) ∧ w'.ownsRow 0 131 25 v d.size (flat d') ∧ Kept w w' (fun b => some b = v.ownBlock) := by
    intro p cap hv h0
    have hcon := AnyF.slices_SortFunc_none { sortEnt with } p cap (.func (.func 40) #[] #[]) w
    change Calls Tryz.prog 39 _ _ _ at hcon
    rw [← hv] at hcon
    have hd : d = #[] := Array.eq_empty_of_size_eq_zero h0
    exact hcon.mono fun e w' ⟨he, hw⟩ => ⟨he, d, List.Perm.refl _, by rw [hd]; simp, by rw [hw]; exact ho, by rw [hw]; exact Kept.refl _ _⟩
  by_cases h0 : d.size = 0
  · rcases ho.2 with ⟨h1, _⟩ | ⟨g, cap, cur, h1, _⟩
    · exact none_ _ _ h1 h0
    · rw [h0] at h1; exact none_ _ _ h1 h0
  rcases ho.2 with ⟨_, h1⟩ | ⟨g, cap, cur, rfl, _, hg, hnc, hcm, hcs, _⟩
  · exact absurd h1 h0
  · obtain ⟨H, _, _, _⟩ := holds_of_owns ho (by omega)
    have hgl := heap_lt hg
    have hcon := AnyQ.slices_SortFunc sortEnt 25 Tryz.isAgg131 Tryz.sizeOf131 Ent.cs Ent.len Ent.one cf cf_swo 40 #[] g 0 cap d w eg (cmp_lays g 0 d.size w) H hgl (by omega)
    change Calls Tryz.prog 39 _ _ _ at hcon
    refine hcon.mono fun e w' ⟨he, d', n, os, hp, hs, hw⟩ => ⟨he, d', ?_, ?_, ?_, ?_⟩
    · have := hp.2.2
      rw [show d'.extract 0 d.size = d' by rw [← hp.1]; exact Array.extract_size, Array.extract_size] at this
      exact this
    · rw [List.pairwise_iff_getElem]
      intro i j hi hj hij
      have := hs i j (Nat.zero_le _) hij (by rw [← hp.1]; simpa using hj)
      rw [cf_lt] at this
      rw [getElem!_pos d' j (by simpa using hj), getElem!_pos d' i (by simpa using hi)] at this
      simp at this ⊢
      exact this
    · have S : SWK Ent.cs 25 w g 0 d' w' := ⟨n, os, hw⟩
      obtain ⟨cur', hg', hcs'⟩ := swk_block S hg
      have := owns_of_holds (n := d.size) hg' (by rw [hcs', hcs]) (by rw [hp.1]; exact hnc) hcm (S.holds hgl H hp.1)
      rw [hp.1] at this
      exact this
    · have S : SWK Ent.cs 25 w g 0 d' w' := ⟨n, os, hw⟩
      exact (swk_kept S hgl).mono fun k _ h => by rw [h]; rfl
end Go.Proofs.YtmbjlondehcheaaGreatDoor
end
section
set_option linter.unusedSimpArgs false
set_option linter.unusedVariables false
namespace Go.Proofs.YtmbjlondehcheaaGreatDoor
open Go.Shelf Go.RowKit Go.Lib Go.Sort Go.Proofs.YtmbjlondehcheaaGreatDoorW.PrintWords Go.Proofs.YtmbjlondehcheaaGreatDoorW.PrintLast
instance : Inhabited Slot := ⟨⟨0, 0, 0, .nilFunc, #[]⟩⟩
theorem sum_sub {f : Nat → Nat} : ∀ {σ ρ : List Nat}, σ.Nodup → (∀ i ∈ σ, i ∈ ρ) → (σ.map f).sum ≤ (ρ.map f).sum
  | [], _, _, _ => by simp
  | a :: σ, ρ, hn, hs => by
    obtain ⟨h1, h2⟩ := List.nodup_cons.1 hn
    have hp := List.perm_cons_erase (hs a (by simp))
    have ih := sum_sub (f := f) (σ := σ) (ρ := ρ.erase a) h2 (fun i hi => (List.mem_erase_of_ne (fun e : i = a => h1 (by rw [← e]; exact hi))).2 (hs i (by simp [hi])))
    have := (hp.map f).sum_nat
    simp only [List.map_cons, List.sum_cons] at this ⊢
    omega
def pick (S : List Slot) (σ : List Nat) : List Ent := σ.flatMap fun i => (S[i]!).d.toList
theorem pick_len (S : List Slot) (σ : List Nat) : (pick S σ).length = (σ.map fun i => (S[i]!).d.size).sum := by
  induction σ with
  | nil => rfl
  | cons a σ ih => simp only [pick, List.flatMap_cons, List.length_append, List.map_cons, List.sum_cons] at *; rw [ih]; simp
theorem pick_all (S : List Slot) : pick S (List.range S.length) = S.flatMap fun s => s.d.toList := by
  unfold pick
  have : S = (List.range S.length).map fun i => S[i]! := by
    apply List.ext_getElem
    · simp
    · intro i h1 h2; simp [h1]
  conv => rhs; rw [this]
  rw [List.flatMap_map]
theorem pick_le {S : List Slot} {L : List Ent} {all : Nat} (h : Book S L all) {σ : List Nat} (hn : σ.Nodup) (hs : ∀ i ∈ σ, i < S.length) : (pick S σ).length ≤ L.length := by
  rw [h.perm.length_eq, ← pick_all, pick_len, pick_len]
  exact sum_sub hn (fun i hi => List.mem_range.2 (hs i hi))
theorem pick_perm {S : List Slot} {L : List Ent} {all : Nat} (h : Book S L all) {σ : List Nat} (hn : σ.Nodup) (hs : ∀ i ∈ σ, i < S.length) (ha : ∀ i, i < S.length → i ∈ σ) : (pick S σ).Perm L := by
  refine List.Perm.trans ?_ h.perm.symm
  rw [← pick_all]
  unfold pick
  exact List.Perm.flatMap_right _ ((List.perm_ext_iff_of_nodup hn List.nodup_range).2 fun i => ⟨fun hi => List.mem_range.2 (hs i hi), fun hi => ha i (List.mem_range.1 hi)⟩)
theorem app72 (ty : TypeId) (b : Option Addr) (n c : Nat) (u : Value) (w : World) : (Builtin.append_ #[126, 128] ty #[.slice b n c, u]).run Tryz.prog w = (Builtin.append_ #[126, 126] ty #[.slice b n c, u]).run Tryz.prog w := by
  obtain ⟨ie, z, h1, h2, h3, h4, h5⟩ := info77
  simp [Builtin.append_, run_underlying Tryz.underlying126, run_underlying Tryz.underlying128, sizeOf, typeInfo, h1]
theorem app_slot (w : World) (ty : TypeId) (v : Value) (n : Nat) (xs : List Value) (ho : w.ownsRow 0 131 25 v n xs) (u : Value) (d : Array Ent) (hu : w.ownsRow 0 131 25 u d.size (flat d)) (hn : n + d.size ≤ 1000) :
    ∃ v' w', (Builtin.append_ #[126, 128] ty #[v, u]).run Tryz.prog w = .ok v' w' ∧ w'.ownsRow 0 131 25 v' (n + d.size) (xs ++ flat d) ∧ w.grownBy w' v.ownBlock ∧ (v'.ownBlock = v.ownBlock ∨ v'.ownBlock = some w.heap.size) := by
  obtain ⟨b, c, hv⟩ : ∃ b c, v = .slice b n c := by
    rcases ho.2 with ⟨h, h0⟩ | ⟨g, cap, cur, h, _⟩
    · exact ⟨none, 0, by rw [h, h0]⟩
    · exact ⟨_, _, h⟩
  rw [show (Builtin.append_ #[126, 128] ty #[v, u]).run Tryz.prog w = (Builtin.append_ #[126, 126] ty #[v, u]).run Tryz.prog w by rw [hv]; exact app72 ty b n c u w]
  clear hv
  obtain ⟨ie, z, h1, h2, h3, h4, h5⟩ := info77
  rcases hu.2 with ⟨rfl, h0⟩ | ⟨g, cap, cur, rfl, _, hg, _⟩
  · have hd : d = #[] := Array.eq_empty_of_size_eq_zero h0
    subst hd
    have hl : flat #[] = [] := rfl
    rw [hl, List.append_nil]
    refine ⟨v, w, ?_, ho, ⟨rfl, rfl, rfl, Nat.le_refl _, fun _ _ _ => rfl⟩, .inl rfl⟩
    rcases ho.2 with ⟨rfl, rfl⟩ | ⟨g, cap, cur, rfl, _, _, hnc, _⟩
    · simp [Builtin.append_, run_underlying Tryz.underlying126, sizeOf, typeInfo, h1, Builtin.lenOf, Builtin.firstCells, loadCells, loadCellsFrom]
    · simp [Builtin.append_, run_underlying Tryz.underlying126, sizeOf, typeInfo, h1, Builtin.lenOf, Builtin.firstCells, loadCells, loadCellsFrom, hnc, storeCells]
  · obtain ⟨v', w', q1, q2, q3, _, q5⟩ := run_append_own_at (P := Tryz.prog) w 0 126 ty 131 ie z 25 168 Tryz.underlying126 h1 h2 h3 h5 h4 (by omega) v n xs ho ⟨g, 0, none⟩ d.size cap (flat d) hu.1
      (hu.cells rfl) (fun u hu => by
        obtain ⟨e, _, he⟩ := List.mem_flatMap.1 hu
        exact e.one u he) (by unfold maxLen; omega) (by omega) (Nat.zero_le _)
    exact ⟨v', w', q1, q2, q3, q5⟩
theorem info44 : ∃ ie z, Tryz.prog.info? 37 = some ie ∧ ie.zero = some z ∧ ie.size = 24 ∧ z.cells.size = 24 ∧ ie.bytes = 160 := by
  have h : ((Tryz.prog.info? 37).bind fun ie => ie.zero.map fun z => (ie.size, z.cells.size, ie.bytes)) = some (24, 24, 160) := by kernel_rfl
  cases hi : Tryz.prog.info? 37 with
  | none => rw [hi] at h; cases h
  | some ie =>
    rw [hi] at h
    cases hz : ie.zero with
    | none => simp [hz] at h
    | some z => simp [hz] at h; exact ⟨ie, z, rfl, hz, h.1, h.2.1, h.2.2⟩
theorem lit_fr (w : World) (f : Fr) : (Instr.buildSlice 22 1 #[(0, .agg f.cs.toArray)]).run Tryz.prog w = .ok (.slice (some ⟨w.heap.size, 0, none⟩) 1 1) (w.alloc (.cells f.cs.toArray 37)) := by
  obtain ⟨ie, z, h1, h2, h3, h4, _⟩ := info44
  exact run_lit1 w 22 37 f.cs ie z 24 Tryz.underlying22 h1 h2 h3 h4 rfl (by omega) (by omega)
theorem app_fr (w : World) (ty : TypeId) (v : Value) (n : Nat) (xs : List Value) (f : Fr) (ho : w.ownsRow 0 37 24 v n xs) (g : Nat) (hg : w.heap[g]? = some (.cells f.cs.toArray 37 (0, 0))) (hn : n < 1000000) :
    ∃ v' w', (Builtin.append_ #[22, 22] ty #[v, .slice (some ⟨g, 0, none⟩) 1 1]).run Tryz.prog w = .ok v' w' ∧ w'.ownsRow 0 37 24 v' (n + 1) (xs ++ f.cs) ∧ w.grownBy w' v.ownBlock ∧
      (v'.ownBlock = v.ownBlock ∨ v'.ownBlock = some w.heap.size) := by
  obtain ⟨ie, z, h1, h2, h3, h4, h5⟩ := info44
  obtain ⟨v', w', q1, q2, q3, _, q5⟩ := run_append_own_at (P := Tryz.prog) w 0 22 ty 37 ie z 24 160 Tryz.underlying22 h1 h2 h3 h5 h4 (by omega) v n xs ho ⟨g, 0, none⟩ 1 1 f.cs rfl
    (fun j u hu => by rw [Addr.add_mid, cell_of_row w g (0 + j) _ 37 (0, 0) hg]; simpa using hu) f.one (by unfold maxLen; omega) (by omega) (Nat.zero_le _)
  exact ⟨v', w', q1, q2, q3, q5⟩
section
variable {P : Program} {ops : Array Oper} {rest : List Oper} {o : Oper} {a : Act} {w : World} {Q : Exit → Act → World → Prop}
theorem wpList_lit1 (hg : o.guard = none) (t : TypeId) (x : Operand) (ho : o.op = .buildSlice t 1 #[(0, x)]) (d : Option Tmp) (hd : o.dst = d) (u : Value) (hx : a.eval x = u) (v' : Value) (w' : World)
    (hr : (Instr.buildSlice t 1 #[(0, u)]).run P w = .ok v' w') (h : wpList P ops Q rest (a.put d v') w') : wpList P ops Q (o :: rest) a w := by
  subst hd
  exact wpList_plain hg fun _ hK => wp_lit1 t x ho u hx v' w' hr (hK _ _ h)
theorem wpList_app (hg : o.guard = none) (s x : Operand) (t1 t2 : TypeId) (ho : o.op = .call { callee := .builtin .append, args := #[s, x], argTypes := #[t1, t2] }) (d : Option Tmp) (hd : o.dst = d) (v u : Value) (hs : a.eval s = v) (hx : a.eval x = u) (v' : Value) (w' : World)
    (hr : (Builtin.append_ #[t1, t2] o.type #[v, u]).run P w = .ok v' w') (h : wpList P ops Q rest (a.put d v') w') : wpList P ops Q (o :: rest) a w := by
  subst hd
  exact wpList_plain hg fun _ hK => wp_append s x t1 t2 ho v u hs hx v' w' hr (hK _ _ h)
end
theorem entries_born (S : List Slot) : ((entries S).toList.map (·.born)).Nodup := by
  have : (entries S).toList.map (·.born) = List.range S.length := by
    apply List.ext_getElem
    · simp [entries, entriesL]
    · intro i h1 h2; simp [entries, entriesL, entry1]
  rw [this]
  exact List.nodup_range
theorem entries_mem {S : List Slot} {e : MapEntry} (he : e ∈ (entries S).toList) : ∃ i, ∃ h : i < S.length, e = entry1 i S[i] := by
  obtain ⟨i, hi, h⟩ := List.mem_mapIdx.1 (show e ∈ S.mapIdx entry1 from he)
  exact ⟨i, hi, h.symm⟩
theorem fr_range {w : World} {b : Nat} {e : Ent} {t : TypeId} {fr : Nat × Nat} (h : w.heap[b]? = some (.cells e.cs.toArray t fr)) : w.rangeAt b 1 e.f.cs := by
  intro j v hv
  rw [cell_of_row w b (1 + j) _ t fr h, Nat.add_comm]
  simpa [Ent.cs] using hv
theorem flat_append (a b : Array Ent) : flat (a ++ b) = flat a ++ flat b := by simp [flat, List.flatMap_append]
def Seen (w wr : World) (B : Nat) (S : List Slot) (kx : Nat) (v : Value) : Prop :=
  ∃ (σ : List Nat) (c0 : Nat) (acc : Array Ent), wr.heap[w.heap.size]? = some (.mapIter (some B) S.length σ.toArray c0) ∧ S.length ≤ c0 ∧ σ.Nodup ∧ (∀ i ∈ σ, i < S.length) ∧ acc.toList = pick S σ ∧
    wr.ownsRow 0 131 25 v acc.size (flat acc) ∧ (∀ g, some g = v.ownBlock → w.heap.size < g) ∧ Kept w wr (fun _ => False) ∧ S.length - σ.length ≤ kx
theorem sum_ones : ∀ (l : List Nat), (l.map fun _ => 1).sum = l.length
  | [] => rfl
  | a :: l => by rw [List.map_cons, List.sum_cons, sum_ones l, List.length_cons]; omega
theorem nodup_lt {σ : List Nat} {n i : Nat} (hn : σ.Nodup) (hl : ∀ j ∈ σ, j < n) (hi : i < n) (hni : i ∉ σ) : σ.length < n := by
  have h := sum_sub (f := fun _ => 1) (σ := i :: σ) (ρ := List.range n) (List.nodup_cons.2 ⟨hni, hn⟩) (fun j hj => by
    rcases List.mem_cons.1 hj with e | h
    · rw [e]; exact List.mem_range.2 hi
    · exact List.mem_range.2 (hl j h))
  rw [sum_ones, sum_ones] at h
  simp at h
  omega
theorem pick_snoc (S : List Slot) (σ : List Nat) (i : Nat) : pick S (σ ++ [i]) = pick S σ ++ (S[i]!).d.toList := by simp [pick, List.flatMap_append]
theorem setBlock_heap_same {w : World} {r : Nat} {o o' : Obj} (h : w.heap[r]? = some o) : (ChangeMaps.setBlock w r o').heap[r]? = some o' := by
  have := heap_lt h
  simp [ChangeMaps.setBlock, this]
set_option maxHeartbeats 1000000 in
theorem seen_step {w wr : World} {pb : Nat} {net : Bool} {B : Nat} {S : List Slot} {L : List Ent} {all : Nat} (hP : PS w pb net B S L all) {kx : Nat} {v : Value} (h : Seen w wr B S kx v) (ty : TypeId) :
    ((Instr.next (.pointer (some ⟨w.heap.size, 0, none⟩)) false ty).run Tryz.prog wr = .ok (.tuple #[.bool false]) wr ∧ ∃ acc : Array Ent, acc.toList.Perm L ∧ wr.ownsRow 0 131 25 v acc.size (flat acc)) ∨
    ∃ (key : Value) (s : Slot) (W : World), s ∈ S ∧ (Instr.next (.pointer (some ⟨w.heap.size, 0, none⟩)) false ty).run Tryz.prog wr = .ok (.tuple #[.bool true, key, .pointer (some ⟨s.c, 0, none⟩)]) W ∧
      (Instr.entry (.pointer (some ⟨w.heap.size, 0, none⟩))).run Tryz.prog W = .ok (.tuple #[key, .pointer (some ⟨s.c, 0, none⟩)]) W ∧ W.cell? ⟨s.c, 0, none⟩ = some s.v ∧ 0 < kx ∧
      ∀ tz, ∃ v' w', (Builtin.append_ #[126, 128] tz #[v, s.v]).run Tryz.prog W = .ok v' w' ∧ Seen w w' B S (kx - 1) v' := by
  obtain ⟨σ, c0, acc, hr, hc0, hnd, hlt, hacc, how, hfr, hk, hkx⟩ := h
  have hb := (hP.kept hk (fun _ _ h => h)).mp
  have hold : ∀ x ∈ (entries S).toList, x.born < S.length := fun x hx => by obtain ⟨i, hi, rfl⟩ := entries_mem hx; exact hi
  rcases run_next_at (P := Tryz.prog) wr ty w.heap.size B S.length c0 σ.toArray (entries S) S.length hr hb hold hc0 with ⟨h0, hrun⟩ | ⟨e, he, w1, hal, hrun⟩
  · refine .inl ⟨hrun, acc, ?_, how⟩
    rw [hacc]
    refine pick_perm hP.book hnd hlt fun i hi => ?_
    have hm : entry1 i S[i] ∈ (entries S).toList := List.mem_mapIdx.2 ⟨i, hi, rfl⟩
    have := all_seen (entries S) σ.toArray h0 _ hm
    simpa [entry1] using this
  · obtain ⟨hem, hes⟩ := mem_left he
    obtain ⟨i, hi, rfl⟩ := entries_mem hem
    have hni : i ∉ σ := by simpa [entry1] using hes
    have hr1 : w1.heap[w.heap.size]? = some (.mapIter (some B) S.length σ.toArray c0) := by rcases hal with rfl | rfl <;> exact hr
    have hb1 : w1.heap[B]? = some (.map (entries S) S.length) := by rcases hal with rfl | rfl <;> exact hb
    have hk1 : Kept w w1 (fun _ => False) := by rcases hal with rfl | rfl <;> exact ⟨hk.os, hk.tape, hk.output, hk.size, hk.block⟩
    have how1 : w1.ownsRow 0 131 25 v acc.size (flat acc) := by rcases hal with rfl | rfl <;> exact how
    have hBl := hP.foot_lt (b := B) (.inr (.inl rfl))
    have hr2 := setBlock_heap_same (o' := .mapIter (some B) S.length (σ.toArray.push i) S.length) hr1
    have kS := Kept.block' w1 w.heap.size (.mapIter (some B) S.length (σ.toArray.push i) S.length) (F := fun b => b = w.heap.size) rfl
    have hb2 := kS.heap hb1 (fun e => by omega)
    have hk2 : Kept w (ChangeMaps.setBlock w1 w.heap.size (.mapIter (some B) S.length (σ.toArray.push i) S.length)) (fun _ => False) := hk1.trans kS (fun _ _ h => h) (fun k hk h => by omega)
    have hs : S[i] ∈ S := by simp
    have P2 := hP.kept hk2 (fun _ _ h => h)
    have A2 := P2.age _ hs
    have how2 := kS.owns how1 (fun g hg h => by have := hfr g hg.symm; omega)
    have hentry := run_entry_at (P := Tryz.prog) _ w.heap.size B S.length σ.toArray (entries S) S.length (entry1 i S[i]) hr2 hb2 hem (entries_born S)
    have hlen1 : (pick S (σ ++ [i])).length ≤ L.length := pick_le hP.book (by rw [List.nodup_append]; exact ⟨hnd, by simp, fun a ha b hb => by simp at hb; subst hb; exact fun e => hni (by rw [← e]; exact ha)⟩) (fun j hj => by
      rcases List.mem_append.1 hj with h | h
      · exact hlt j h
      · simp at h; omega)
    have hSi : S[i]! = S[i] := getElem!_pos S i hi
    have hlen2 : acc.size + (S[i]).d.size ≤ L.length := by
      rw [pick_snoc, List.length_append, ← hacc, hSi] at hlen1
      simpa using hlen1
    have hfew := hP.few
    have hσ : σ.length < S.length := nodup_lt hnd hlt hi hni
    refine .inr ⟨_, S[i], _, hs, hrun, hentry, A2.cell, by omega, fun tz => ?_⟩
    obtain ⟨v', w', q1, q2, q3, q4⟩ := app_slot _ tz v acc.size (flat acc) how2 S[i].v S[i].d A2.row (by omega)
    have kg := Kept.grown q3 (F := fun b => some b = v.ownBlock) (fun _ h => h)
    have hsz : (ChangeMaps.setBlock w1 w.heap.size (.mapIter (some B) S.length (σ.toArray.push i) S.length)).heap.size = w1.heap.size := by simp [ChangeMaps.setBlock]
    refine ⟨v', w', q1, σ ++ [i], S.length, acc ++ S[i].d, ?_, Nat.le_refl _, ?_, ?_, ?_, ?_, ?_, ?_, ?_⟩
    · have := kg.heap hr2 (fun e => by have := hfr _ e; omega)
      simpa using this
    · rw [List.nodup_append]; exact ⟨hnd, by simp, fun a ha b hb => by simp at hb; subst hb; exact fun e => hni (by rw [← e]; exact ha)⟩
    · intro j hj
      rcases List.mem_append.1 hj with h | h
      · exact hlt j h
      · simp at h; omega
    · rw [pick_snoc, ← hacc, hSi]; simp
    · rw [flat_append]; simpa using q2
    · intro g hg
      rcases q4 with h | h
      · exact hfr g (hg.trans h)
      · rw [h] at hg; injection hg with hg
        have := heap_lt hr1
        omega
    · exact hk2.trans kg (fun _ _ h => h) (fun k hk h => by have := hfr k h; omega)
    · simp; omega
end Go.Proofs.YtmbjlondehcheaaGreatDoor
end
