/- TopTalk: part 5 of the walks: of HPairPut. -/
import Derived.Test.YtmbjlondehcheaaGreatDoorM04
section
set_option linter.unusedSimpArgs false
set_option linter.unusedVariables false
namespace Go.Proofs.YtmbjlondehcheaaGreatDoor
open Go.Shelf Go.RowKit Go.Lib Go.Sort Go.Proofs.YtmbjlondehcheaaGreatDoorW.PrintWords Go.Proofs.YtmbjlondehcheaaGreatDoorW.PrintLast
theorem head_range {w : World} {b : Nat} {f : Fr} {t : TypeId} {fr : Nat × Nat} (h : w.heap[b]? = some (.cells f.cs.toArray t fr)) : w.rangeAt b 0 [.int .u8 f.u, .int .u16 f.t] := by
  intro j v hv
  rw [cell_of_row w b (0 + j) _ t fr h]
  match j, hv with
  | 0, hv => simpa [Fr.cs] using hv
  | 1, hv => simpa [Fr.cs] using hv
  | j + 2, hv => simp at hv
theorem full_range {w : World} {b : Nat} {f : Fr} {t : TypeId} {fr : Nat × Nat} (h : w.heap[b]? = some (.cells f.cs.toArray t fr)) : w.rangeAt b 0 f.cs := by
  intro j v hv
  rw [cell_of_row w b (0 + j) _ t fr h]
  simpa using hv
theorem size44 (cs : Array Value) (h : cs.size = 24) : (Tryz.prog.info? 37).map (·.size) = some cs.size := by rw [h]; kernel_rfl
theorem size55 (cs : Array Value) (h : cs.size = 49) : (Tryz.prog.info? 52).map (·.size) = some cs.size := by rw [h]; kernel_rfl
structure PutAt (w w2 : World) (pb : Nat) (net : Bool) (B : Nat) (S : List Slot) (L : List Ent) (all : Nat) (f : Fr) (A C : List Slot) (s : Slot) : Prop where
  P2 : PS w2 pb net B (A ++ s :: C) L all
  hu : s.u = f.u
  ht : s.t = f.t
  F2 : w2.heap[w.heap.size]? = some (.cells f.cs.toArray 37 (0, 0))
  N2 : w2.heap[w.heap.size + 1]? = some (.cells (Nt.mk 0 fr0 fr0).cs.toArray 52 (0, 0))
  k2 : Kept w w2 (foot pb B S)
  ft : ∀ b, foot pb B (A ++ s :: C) b → foot pb B S b ∨ w.heap.size + 2 ≤ b
theorem PutAt.done {w w2 : World} {pb : Nat} {net : Bool} {B : Nat} {S : List Slot} {L : List Ent} {all : Nat} {f : Fr} {A C : List Slot} {s : Slot} (h : PutAt w w2 pb net B S L all f A C s) (hP : PS w pb net B S L all) (hf : L.length < 16) (hy : all < 1000000)
    {w3 : World} {v' : Value} (A3 : AgeOk w3 s.c v' (s.d.push ⟨all, f⟩)) (hv3 : v'.ownBlock = s.v.ownBlock ∨ ∃ b, v'.ownBlock = some b ∧ w2.drew.heap.size ≤ b) (k3 : Kept w2.drew w3 (fun b => b = s.c ∨ some b = s.v.ownBlock)) :
    w3.heap[pb]? = some (.cells #[.bool net, .map (some B), .int .i64 (L.length : Nat), .int .i64 (all : Nat)] 97 (0, 0)) ∧ w3.heap[w.heap.size]? = some (.cells f.cs.toArray 37 (0, 0)) ∧ w3.heap[w.heap.size + 1]? = some (.cells (Nt.mk 0 fr0 fr0).cs.toArray 52 (0, 0)) ∧ w.heap.size ≠ pb ∧ w.heap.size + 1 ≠ pb ∧
    ∃ S', PS ((((w3.setCell ⟨pb, 2, none⟩ (.int .i64 ((L.length : Int) + 1))).setCell ⟨pb, 3, none⟩ (.int .i64 ((all : Int) + 1)))).setRow (w.heap.size + 1) (Nt.mk 0 f fr0).cs.toArray) pb net B S' (L ++ [⟨all, f⟩]) (all + 1) ∧
      (∀ b, foot pb B S' b → foot pb B S b ∨ w.heap.size ≤ b) ∧ Kept w ((((w3.setCell ⟨pb, 2, none⟩ (.int .i64 ((L.length : Int) + 1))).setCell ⟨pb, 3, none⟩ (.int .i64 ((all : Int) + 1)))).setRow (w.heap.size + 1) (Nt.mk 0 f fr0).cs.toArray) (foot pb B S) := by
  have hs : s ∈ A ++ s :: C := by simp
  have hpl := heap_lt hP.cell
  have kd : Kept w2 w3 (fun b => b = s.c ∨ some b = s.v.ownBlock) := (Kept.drew w2 (fun _ => False)).trans k3 (fun _ _ h => h.elim) (fun _ _ h => h)
  have nf : ∀ b, (b = w.heap.size ∨ b = w.heap.size + 1) → ¬ (b = s.c ∨ some b = s.v.ownBlock) := fun b hb hh => by
    rcases h.ft b (.inr (.inr ⟨s, hs, hh⟩)) with h1 | h1
    · have := hP.foot_lt h1; omega
    · omega
  have e1 : w3.heap[pb]? = some (.cells #[.bool net, .map (some B), .int .i64 (L.length : Nat), .int .i64 (all : Nat)] 97 (0, 0)) := kd.heap h.P2.cell (fun e => by
    rcases e with e | e
    · exact h.P2.pc hs e
    · exact h.P2.pg hs e rfl)
  have e2 := kd.heap h.F2 (nf _ (.inl rfl))
  have e3 := kd.heap h.N2 (nf _ (.inr rfl))
  have n1 : w.heap.size ≠ pb := by omega
  have n2 : w.heap.size + 1 ≠ pb := by omega
  have q1 : Kept w3 ((((w3.setCell ⟨pb, 2, none⟩ (.int .i64 ((L.length : Int) + 1))).setCell ⟨pb, 3, none⟩ (.int .i64 ((all : Int) + 1)))).setRow (w.heap.size + 1) (Nt.mk 0 f fr0).cs.toArray) (fun b => b = pb ∨ b = w.heap.size + 1) :=
    ((Kept.setCell w3 pb 2 _ (F := fun b => b = pb) rfl).trans (Kept.setCell _ pb 3 _ (F := fun b => b = pb) rfl) (fun _ _ h => h) (fun _ _ h => h)).trans (Kept.setRow _ (w.heap.size + 1) _ (F := fun b => b = w.heap.size + 1) rfl) (fun _ _ h => .inl h) (fun _ _ h => .inr h)
  have q2 := kd.trans q1 (H := fun b => (b = s.c ∨ some b = s.v.ownBlock) ∨ (b = pb ∨ b = w.heap.size + 1)) (fun _ _ h => .inl h) (fun _ _ h => .inr h)
  refine ⟨e1, e2, e3, n1, n2, A ++ { s with v := v', d := s.d.push ⟨all, f⟩ } :: C, ?_, ?_, ?_⟩
  · refine h.P2.turn (s' := { s with v := v', d := s.d.push ⟨all, f⟩ }) q2 (fun b hb hF => ?_) rfl rfl rfl hv3 ?_ (A3.kept q1 (fun e => ?_) (fun g hg e => ?_)) (h.P2.book.put ⟨all, f⟩ h.hu.symm h.ht.symm rfl _ ⟨rfl, rfl, rfl⟩) (by simp; omega) (by omega)
    · rcases hF with h1 | h1 | h1
      · exact .inr h1
      · exact .inl h1
      · rcases h.ft b hb with h2 | h2
        · have := hP.foot_lt h2; omega
        · omega
    · rw [setRow_other _ _ _ _ (by omega)]
      have := setCell_row (i := 3) (v := .int .i64 ((all : Int) + 1)) (setCell_row (i := 2) (v := .int .i64 ((L.length : Int) + 1)) e1)
      rw [this]
      simp
    · rcases e with e | e
      · exact h.P2.pc hs e.symm
      · exact nf _ (.inr rfl) (.inl e.symm)
    · rcases e with e | e
      · obtain ⟨cur, hc⟩ := A3.own hg.symm
        rw [e, e1] at hc
        simp at hc
      · obtain ⟨cur, hc⟩ := A3.own hg.symm
        rw [e, e3] at hc
        simp at hc
  · intro b hb
    rcases foot_turn (s := s) (s' := { s with v := v', d := s.d.push ⟨all, f⟩ }) rfl hv3 hb with h1 | h1
    · rcases h.ft b h1 with h2 | h2
      · exact .inl h2
      · exact .inr (by omega)
    · have := h.k2.size
      have : w2.drew.heap.size = w2.heap.size := rfl
      exact .inr (by omega)
  · refine h.k2.trans q2 (fun _ _ h => h) (fun b hb hF => ?_)
    rcases hF with hF | hF | hF
    · rcases h.ft b (.inr (.inr ⟨s, hs, hF⟩)) with h1 | h1
      · exact h1
      · omega
    · exact .inl hF
    · omega
set_option maxHeartbeats 1000000 in
set_option maxRecDepth 1000000 in
theorem put_calls (w : World) (pb : Nat) (net : Bool) (B : Nat) (S : List Slot) (L : List Ent) (all : Nat) (f : Fr) (hP : PS w pb net B S L all) (hf : L.length < 16) (hy : all < 1000000) :
    Calls Tryz.prog 48 #[.pointer (some ⟨pb, 0, none⟩), .agg f.cs.toArray] w fun r w' => r = .returned (.agg (Nt.mk 0 f fr0).cs.toArray) ∧ ∃ S', PS w' pb net B S' (L ++ [⟨all, f⟩]) (all + 1) ∧
      (∀ b, foot pb B S' b → foot pb B S b ∨ w.heap.size ≤ b) ∧ Kept w w' (foot pb B S) := by
  have hz := nt_zero
  have k1 : Kept w ((w.alloc (.cells f.cs.toArray 37)).alloc (.cells (Nt.mk 0 fr0 fr0).cs.toArray 52)) (fun _ => False) := (Kept.alloc w _ _).trans (Kept.alloc _ _ (fun _ => False)) (fun _ _ h => h) (fun _ _ h => h)
  have F1 : ((w.alloc (.cells f.cs.toArray 37)).alloc (.cells (Nt.mk 0 fr0 fr0).cs.toArray 52)).heap[w.heap.size]? = some (.cells f.cs.toArray 37 (0, 0)) := by rw [heap_alloc_old _ _ (by simp)]; exact heap_alloc_new _ _
  have N1 : ((w.alloc (.cells f.cs.toArray 37)).alloc (.cells (Nt.mk 0 fr0 fr0).cs.toArray 52)).heap[w.heap.size + 1]? = some (.cells (Nt.mk 0 fr0 fr0).cs.toArray 52 (0, 0)) := by
    have := heap_alloc_new (w.alloc (.cells f.cs.toArray 37)) (.cells (Nt.mk 0 fr0 fr0).cs.toArray 52)
    simpa using this
  have hs1 : ((w.alloc (.cells f.cs.toArray 37)).alloc (.cells (Nt.mk 0 fr0 fr0).cs.toArray 52)).heap.size = w.heap.size + 2 := by simp
  have hone := all_oneCell_toArray (Nt.one ⟨0, f, fr0⟩)
  have hL : (L.length : Int) ≤ 16 := by omega
  have hA : (all : Int) ≤ 1000000 := by omega
  have SZ44 := size44 f.cs.toArray rfl
  have SZ55 := size55 (Nt.mk 0 f fr0).cs.toArray rfl
  go_enter Tryz.func48, Tryz.ntmps48
  go_wp2_with fail
  generalize ((w.alloc (.cells f.cs.toArray 37)).alloc (.cells (Nt.mk 0 fr0 fr0).cs.toArray 52)) = w1 at *
  have P1 : PS w1 pb net B S L all := hP.kept k1 (fun _ _ h => h)
  have Pd : PS w1.drew pb net B S L all := P1.kept (Kept.drew w1 (fun _ => False)) (fun _ _ h => h)
  have c1 := Pd.c1
  have rH : w1.drew.rangeAt w.heap.size 0 [.int .u8 f.u, .int .u16 f.t] := head_range (w := w1.drew) F1
  by_cases hex : ∃ s ∈ S, s.u = f.u ∧ s.t = f.t
  · obtain ⟨s, hs, hu, ht⟩ := hex
    obtain ⟨A, C, hAC⟩ := List.append_of_mem hs
    subst hAC
    have look := look_some (s := s) Pd.book.keys Pd.mp
    rw [hu, ht] at look
    simp only [headV] at look
    have M : Aside0 (PutAt w w1.drew pb net B (A ++ s :: C) L all f A C s) := ⟨⟨Pd, hu, ht, F1, N1, k1.trans (Kept.drew w1 (fun _ => False)) (fun _ _ h => h.elim) (fun _ _ h => h.elim), fun b hb => .inl hb⟩⟩
    refine start_ (n := 8) (S := fun w' => w' = w1.drew) (ds := []) #[false, false, false, false, false, false, false, false] (by kernel_rfl) rfl rfl rfl (fun hHeld => ?_)
    clear hHeld
    refine pure_ (i := 0) (N := (some 5)) (v := ?_) (a' := ?_) #[true, false, false, false, false, false, false, false] rfl rfl (by kernel_rfl) (fun _ _ _ h => h) (Or.inl ⟨by rfl, ?_⟩) ?_ ?_
    rotate_left
    · intro w'
      go_simp
      with_reducible rfl
    rotate_left
    · (try simp only [Act.put, List.setIfInBounds_toArray, List.set_cons_zero, List.set_cons_succ]); rfl
    refine pure_ (i := 1) (N := (some 6)) (v := ?_) (a' := ?_) #[true, true, false, false, false, false, false, false] rfl rfl (by kernel_rfl) (fun _ _ _ h => h) (Or.inl ⟨by rfl, ?_⟩) ?_ ?_
    rotate_left
    · intro w'
      go_simp
      with_reducible rfl
    rotate_left
    · (try simp only [Act.put, List.setIfInBounds_toArray, List.set_cons_zero, List.set_cons_succ]); rfl
    refine pure_ (i := 2) (N := (some 7)) (v := ?_) (a' := ?_) #[true, true, true, false, false, false, false, false] rfl rfl (by kernel_rfl) (fun _ _ _ h => h) (Or.inl ⟨by rfl, ?_⟩) ?_ ?_
    rotate_left
    · intro w'
      go_simp
      with_reducible rfl
    rotate_left
    · (try simp only [Act.put, List.setIfInBounds_toArray, List.set_cons_zero, List.set_cons_succ]); rfl
    refine take_ (i := 3) (N := (some 8)) (v := ?_) (a' := ?_) #[true, true, true, true, false, false, false, false] rfl rfl (by kernel_rfl) (fun _ _ _ h => h) (Or.inl ⟨by rfl, ?_⟩) rfl ?_ ?_
    rotate_left
    · intro w' hS
      subst hS
      go_simp
      with_reducible rfl
    rotate_left
    · (try simp only [Act.put, List.setIfInBounds_toArray, List.set_cons_zero, List.set_cons_succ]); rfl
    refine pure_ (i := 4) (N := (some 9)) (v := ?_) (a' := ?_) #[true, true, true, true, true, false, false, false] rfl rfl (by kernel_rfl) (fun _ _ _ h => h) (Or.inl ⟨by rfl, ?_⟩) ?_ ?_
    rotate_left
    · intro w'
      go_simp
      with_reducible rfl
    rotate_left
    · (try simp only [Act.put, List.setIfInBounds_toArray, List.set_cons_zero, List.set_cons_succ]); rfl
    refine take_ (i := 5) (N := (some 10)) (v := .agg [.int .u8 f.u, .int .u16 f.t].toArray) (a' := ?_) #[true, true, true, true, true, true, false, false] rfl rfl (by kernel_rfl) (fun _ _ _ h => h) (yieldsIf_load_mid (by kernel_rfl) 29 (.tmp 9) rfl w.heap.size 0 rfl [.int .u8 f.u, .int .u16 f.t] _ (fun w' hS => by rw [hS]; exact rH) Tryz.underlying29 rfl (by kernel_rfl)) rfl ?_ ?_
    rotate_left
    · (try simp only [Act.put, List.setIfInBounds_toArray, List.set_cons_zero, List.set_cons_succ]); rfl
    refine take_ (i := 6) (N := (some 11)) (v := ?_) (a' := ?_) #[true, true, true, true, true, true, true, false] rfl rfl (by kernel_rfl) (fun _ _ _ h => h) (Or.inl ⟨by rfl, ?_⟩) rfl ?_ ?_
    rotate_left
    · intro w' hS
      subst hS
      go_simp
      with_reducible rfl
    rotate_left
    · (try simp only [Act.put, List.setIfInBounds_toArray, List.set_cons_zero, List.set_cons_succ]); rfl
    refine pure_ (i := 7) (N := (some 12)) (v := ?_) (a' := ?_) #[true, true, true, true, true, true, true, true] rfl rfl (by kernel_rfl) (fun _ _ _ h => h) (Or.inl ⟨by rfl, ?_⟩) ?_ ?_
    rotate_left
    · intro w'
      go_simp
      with_reducible rfl
    rotate_left
    · (try simp only [Act.put, List.setIfInBounds_toArray, List.set_cons_zero, List.set_cons_succ]); rfl
    refine done_ (by kernel_rfl) ?_
    clear c1 rH look F1 N1 k1 hs1 P1 Pd
    generalize w1.drew = w2 at *
    go_wp2_with fail
    have P2d : PS w2.drew pb net B (A ++ s :: C) L all := M.out.P2.kept (Kept.drew w2 (fun _ => False)) (fun _ _ h => h)
    have c1 := P2d.c1
    have c3 := P2d.c3
    have rH2 : w2.drew.rangeAt w.heap.size 0 [.int .u8 f.u, .int .u16 f.t] := head_range (w := w2.drew) M.out.F2
    have rF2 : w2.drew.rangeAt w.heap.size 0 f.cs := full_range (w := w2.drew) M.out.F2
    have look2 := look_some (s := s) P2d.book.keys P2d.mp
    rw [M.out.hu, M.out.ht] at look2
    simp only [headV] at look2
    have hsm : s ∈ A ++ s :: C := by simp
    have hpush := hpush_calls w2.drew s.c s.v s.d ⟨all, f⟩ (P2d.age s hsm) (fun e he => (P2d.book.old e (P2d.book.mem' hsm he)).2) (by have := P2d.book.size_le; omega)
    clear P2d
    refine start_ (n := 16) (S := fun w' => w' = w2.drew) (ds := [15]) #[false, false, false, false, false, false, false, false, false, false, false, false, false, false, false, false] (by kernel_rfl) rfl rfl rfl (fun hHeld => ?_)
    clear hHeld
    refine pure_ (i := 0) (N := (some 21)) (v := ?_) (a' := ?_) #[true, false, false, false, false, false, false, false, false, false, false, false, false, false, false, false] rfl rfl (by kernel_rfl) (fun _ _ _ h => h) (Or.inl ⟨by rfl, ?_⟩) ?_ ?_
    rotate_left
    · intro w'
      go_simp
      with_reducible rfl
    rotate_left
    · (try simp only [Act.put, List.setIfInBounds_toArray, List.set_cons_zero, List.set_cons_succ]); rfl
    refine pure_ (i := 1) (N := (some 22)) (v := ?_) (a' := ?_) #[true, true, false, false, false, false, false, false, false, false, false, false, false, false, false, false] rfl rfl (by kernel_rfl) (fun _ _ _ h => h) (Or.inl ⟨by rfl, ?_⟩) ?_ ?_
    rotate_left
    · intro w'
      go_simp
      with_reducible rfl
    rotate_left
    · (try simp only [Act.put, List.setIfInBounds_toArray, List.set_cons_zero, List.set_cons_succ]); rfl
    refine pure_ (i := 2) (N := (some 23)) (v := ?_) (a' := ?_) #[true, true, true, false, false, false, false, false, false, false, false, false, false, false, false, false] rfl rfl (by kernel_rfl) (fun _ _ _ h => h) (Or.inl ⟨by rfl, ?_⟩) ?_ ?_
    rotate_left
    · intro w'
      go_simp
      with_reducible rfl
    rotate_left
    · (try simp only [Act.put, List.setIfInBounds_toArray, List.set_cons_zero, List.set_cons_succ]); rfl
    refine take_ (i := 3) (N := (some 24)) (v := ?_) (a' := ?_) #[true, true, true, true, false, false, false, false, false, false, false, false, false, false, false, false] rfl rfl (by kernel_rfl) (fun _ _ _ h => h) (Or.inl ⟨by rfl, ?_⟩) rfl ?_ ?_
    rotate_left
    · intro w' hS
      subst hS
      go_simp
      with_reducible rfl
    rotate_left
    · (try simp only [Act.put, List.setIfInBounds_toArray, List.set_cons_zero, List.set_cons_succ]); rfl
    refine pure_ (i := 4) (N := (some 25)) (v := ?_) (a' := ?_) #[true, true, true, true, true, false, false, false, false, false, false, false, false, false, false, false] rfl rfl (by kernel_rfl) (fun _ _ _ h => h) (Or.inl ⟨by rfl, ?_⟩) ?_ ?_
    rotate_left
    · intro w'
      go_simp
      with_reducible rfl
    rotate_left
    · (try simp only [Act.put, List.setIfInBounds_toArray, List.set_cons_zero, List.set_cons_succ]); rfl
    refine take_ (i := 5) (N := (some 26)) (v := .agg [.int .u8 f.u, .int .u16 f.t].toArray) (a' := ?_) #[true, true, true, true, true, true, false, false, false, false, false, false, false, false, false, false] rfl rfl (by kernel_rfl) (fun _ _ _ h => h) (yieldsIf_load_mid (by kernel_rfl) 29 (.tmp 25) rfl w.heap.size 0 rfl [.int .u8 f.u, .int .u16 f.t] _ (fun w' hS => by rw [hS]; exact rH2) Tryz.underlying29 rfl (by kernel_rfl)) rfl ?_ ?_
    rotate_left
    · (try simp only [Act.put, List.setIfInBounds_toArray, List.set_cons_zero, List.set_cons_succ]); rfl
    refine take_ (i := 6) (N := (some 27)) (v := ?_) (a' := ?_) #[true, true, true, true, true, true, true, false, false, false, false, false, false, false, false, false] rfl rfl (by kernel_rfl) (fun _ _ _ h => h) (Or.inl ⟨by rfl, ?_⟩) rfl ?_ ?_
    rotate_left
    · intro w' hS
      subst hS
      go_simp
      with_reducible rfl
    rotate_left
    · (try simp only [Act.put, List.setIfInBounds_toArray, List.set_cons_zero, List.set_cons_succ]); rfl
    refine pure_ (i := 7) (N := (some 28)) (v := ?_) (a' := ?_) #[true, true, true, true, true, true, true, true, false, false, false, false, false, false, false, false] rfl rfl (by kernel_rfl) (fun _ _ _ h => h) (Or.inl ⟨by rfl, ?_⟩) ?_ ?_
    rotate_left
    · intro w'
      go_simp
      with_reducible rfl
    rotate_left
    · (try simp only [Act.put, List.setIfInBounds_toArray, List.set_cons_zero, List.set_cons_succ]); rfl
    refine pure_ (i := 8) (N := (some 29)) (v := ?_) (a' := ?_) #[true, true, true, true, true, true, true, true, true, false, false, false, false, false, false, false] rfl rfl (by kernel_rfl) (fun _ _ _ h => h) (Or.inl ⟨by rfl, ?_⟩) ?_ ?_
    rotate_left
    · intro w'
      go_simp
      with_reducible rfl
    rotate_left
    · (try simp only [Act.put, List.setIfInBounds_toArray, List.set_cons_zero, List.set_cons_succ]); rfl
    refine pure_ (i := 9) (N := (some 30)) (v := ?_) (a' := ?_) #[true, true, true, true, true, true, true, true, true, true, false, false, false, false, false, false] rfl rfl (by kernel_rfl) (fun _ _ _ h => h) (Or.inl ⟨by rfl, ?_⟩) ?_ ?_
    rotate_left
    · intro w'
      go_simp
      with_reducible rfl
    rotate_left
    · (try simp only [Act.put, List.setIfInBounds_toArray, List.set_cons_zero, List.set_cons_succ]); rfl
    refine pure_ (i := 10) (N := (some 31)) (v := ?_) (a' := ?_) #[true, true, true, true, true, true, true, true, true, true, true, false, false, false, false, false] rfl rfl (by kernel_rfl) (fun _ _ _ h => h) (Or.inl ⟨by rfl, ?_⟩) ?_ ?_
    rotate_left
    · intro w'
      go_simp
      with_reducible rfl
    rotate_left
    · (try simp only [Act.put, List.setIfInBounds_toArray, List.set_cons_zero, List.set_cons_succ]); rfl
    refine take_ (i := 11) (N := (some 32)) (v := ?_) (a' := ?_) #[true, true, true, true, true, true, true, true, true, true, true, true, false, false, false, false] rfl rfl (by kernel_rfl) (fun _ _ _ h => h) (Or.inl ⟨by rfl, ?_⟩) rfl ?_ ?_
    rotate_left
    · intro w' hS
      subst hS
      go_simp
      with_reducible rfl
    rotate_left
    · (try simp only [Act.put, List.setIfInBounds_toArray, List.set_cons_zero, List.set_cons_succ]); rfl
    refine take_ (i := 12) (N := (some 33)) (v := .agg f.cs.toArray) (a' := ?_) #[true, true, true, true, true, true, true, true, true, true, true, true, true, false, false, false] rfl rfl (by kernel_rfl) (fun _ _ _ h => h) (yieldsIf_load_mid (by kernel_rfl) 37 (.tmp 3) rfl w.heap.size 0 rfl f.cs _ (fun w' hS => by rw [hS]; exact rF2) Tryz.underlying37 rfl (by kernel_rfl)) rfl ?_ ?_
    rotate_left
    · (try simp only [Act.put, List.setIfInBounds_toArray, List.set_cons_zero, List.set_cons_succ]); rfl
    refine pure_ (i := 13) (N := some 34) (v := .agg (Ent.mk all f).cs.toArray) (a' := ?_) #[true, true, true, true, true, true, true, true, true, true, true, true, true, true, false, false] rfl rfl (by kernel_rfl) (fun _ _ _ h => h) (yields_build (by kernel_rfl) 131 _ rfl [(0, .int .i64 (all : Int)), (1, .agg f.cs.toArray)] (by simp only [List.map_toArray, List.map_cons, List.map_nil]; rfl) _ (ent_built _ f)) ?_ ?_
    rotate_left
    · (try simp only [Act.put, List.setIfInBounds_toArray, List.set_cons_zero, List.set_cons_succ]); rfl
    refine pure_ (i := 14) (N := (some 35)) (v := ?_) (a' := ?_) #[true, true, true, true, true, true, true, true, true, true, true, true, true, true, true, false] rfl rfl (by kernel_rfl) (fun _ _ _ h => h) (Or.inl ⟨by rfl, ?_⟩) ?_ ?_
    rotate_left
    · intro w'
      go_simp
      with_reducible rfl
    rotate_left
    · (try simp only [Act.put, List.setIfInBounds_toArray, List.set_cons_zero, List.set_cons_succ]); rfl
    refine last_ (i := 15) (N := some 36) #[true, true, true, true, true, true, true, true, true, true, true, true, true, true, true, true] rfl rfl (by kernel_rfl) (by decide) (fun K hK => ?_)
    refine goes_ (f := 57) (fn := Tryz.f57) Tryz.func57 rfl rfl #[.iface 127 (.pointer (some ⟨s.c, 0, none⟩)), .iface 131 (.agg (Ent.mk all f).cs.toArray)] (by kernel_rfl) rfl rfl (by simp only [List.map_toArray, List.map_cons, List.map_nil]; rfl) ?_
    refine hpush.mono ?_
    rintro e w3 ⟨rfl, v', A3, hv3, k3⟩
    refine ⟨_, rfl, hK.out _ _ ?_⟩
    clear hK K
    refine norm_ (a' := ?_) ?_ ?_
    rotate_left
    · (try simp only [Act.put, List.setIfInBounds_toArray, List.set_cons_zero, List.set_cons_succ]); rfl
    refine done_ (by kernel_rfl) ?_
    obtain ⟨e1, e2, e3, n1, n2, S', D1, D2, D3⟩ := M.out.done hP hf hy A3 hv3 k3
    have g2 : w3.cell? ⟨pb, 2, none⟩ = some (.int .i64 (L.length : Nat)) := by rw [cell_of_row w3 pb 2 _ 97 (0, 0) e1]; rfl
    have g3 : w3.cell? ⟨pb, 3, none⟩ = some (.int .i64 (all : Nat)) := by rw [cell_of_row w3 pb 3 _ 97 (0, 0) e1]; rfl
    have fz : ∀ i, w3.frozen? ⟨pb, i, none⟩ = false := fun i => by simp [World.frozen?, e1]
    have fz2 := fz 2
    have fz3 := fz 3
    clear c1 c3 rH2 rF2 look2 hpush A3 hv3 k3 M fz
    go_wp2_with (first
      | (refine wpList_load_row rfl 37 (.tmp 3) rfl w.heap.size rfl 37 f.cs.toArray (0, 0) _ ?_ Tryz.underlying37 rfl SZ44 ?_; (exact setCell_heap (setCell_heap e2 n1) n1))
      | (refine wpList_buildTo rfl 52 _ rfl (some 52) rfl (Nt.mk 0 f fr0).cs.toArray ?_ ?_; (simp only [List.map_toArray, List.map_cons, List.map_nil]; exact nt_ask 0 f))
      | (refine wpList_store_row rfl 52 (.tmp 4) (.tmp 52) rfl (w.heap.size + 1) _ rfl rfl 52 (Nt.mk 0 fr0 fr0).cs.toArray ?_ SZ55 rfl hone ?_; (exact setCell_heap (setCell_heap e3 n2) n2)))
    refine bodyPost_ret (v := .agg (Nt.mk 0 f fr0).cs.toArray) (results_cell_row (p := 4) (ty := 52) Tryz.results48 _ _ (w.heap.size + 1) 52 _ (0, 0) _ rfl (setRow_heap _ _ _ _ 52 _ (setCell_heap (setCell_heap e3 n2) n2)) Tryz.underlying52 rfl SZ55) rfl ⟨rfl, S', D1, D2, D3⟩
  · have hn : ∀ s ∈ S, ¬ (s.u = f.u ∧ s.t = f.t) := fun s hs hh => hex ⟨s, hs, hh⟩
    have look := look_none hn Pd.mp
    simp only [headV] at look
    have Pe : PS w1.drew.drew pb net B S L all := Pd.kept (Kept.drew w1.drew (fun _ => False)) (fun _ _ h => h)
    obtain ⟨s, w2, hu, ht, hd, hstore, P2, k2, ft2⟩ := add_slot Pe f.u f.t hn
    have hBl := Pe.foot_lt (b := B) (.inr (.inl rfl))
    have M : Aside0 (PutAt w w2 pb net B S L all f S [] s) := ⟨⟨P2, hu, ht, k2.heap (g := w.heap.size) F1 (fun e => by have := hP.foot_lt (b := B) (.inr (.inl rfl)); omega), k2.heap (g := w.heap.size + 1) N1 (fun e => by have := hP.foot_lt (b := B) (.inr (.inl rfl)); omega),
      (k1.trans (Kept.drewN w1 2 (fun _ => False)) (fun _ _ h => h) (fun _ _ h => h)).trans k2 (fun _ _ h => h.elim) (fun _ _ h => .inr (.inl h)), fun b hb => by
        rcases ft2 b hb with h | h
        · exact .inl h
        · right; have : w1.drew.drew.heap.size = w1.heap.size := rfl; omega⟩⟩
    have SH1 : w1.drew.drew.cell? ⟨pb, 1, none⟩ = some (.map (some B)) ∧ w1.drew.drew.rangeAt w.heap.size 0 [.int .u8 f.u, .int .u16 f.t] := ⟨Pe.c1, head_range (w := w1.drew.drew) F1⟩
    have SH2 : (w1.drew.drew.alloc (.cells #[] 131)).cell? ⟨pb, 1, none⟩ = some (.map (some B)) ∧ (w1.drew.drew.alloc (.cells #[] 131)).rangeAt w.heap.size 0 [.int .u8 f.u, .int .u16 f.t] :=
      ⟨(Pe.kept (Kept.alloc _ _ (fun _ => False)) (fun _ _ h => h)).c1, World.rangeAt_alloc SH1.2 _⟩
    have SH3 : ((w1.drew.drew.alloc (.cells #[] 131)).alloc (.cells (Value.slice (some ⟨w1.drew.drew.heap.size, 0, none⟩) 0 0).cells 128)).cell? ⟨pb, 1, none⟩ = some (.map (some B)) ∧ ((w1.drew.drew.alloc (.cells #[] 131)).alloc (.cells (Value.slice (some ⟨w1.drew.drew.heap.size, 0, none⟩) 0 0).cells 128)).rangeAt w.heap.size 0 [.int .u8 f.u, .int .u16 f.t] :=
      ⟨((Pe.kept (Kept.alloc _ _ (fun _ => False)) (fun _ _ h => h)).kept (Kept.alloc _ _ (fun _ => False)) (fun _ _ h => h)).c1, World.rangeAt_alloc SH2.2 _⟩
    refine start_ (n := 8) (S := fun w' => w' = w1.drew) (ds := []) #[false, false, false, false, false, false, false, false] (by kernel_rfl) rfl rfl rfl (fun hHeld => ?_)
    clear hHeld
    refine pure_ (i := 0) (N := (some 5)) (v := ?_) (a' := ?_) #[true, false, false, false, false, false, false, false] rfl rfl (by kernel_rfl) (fun _ _ _ h => h) (Or.inl ⟨by rfl, ?_⟩) ?_ ?_
    rotate_left
    · intro w'
      go_simp
      with_reducible rfl
    rotate_left
    · (try simp only [Act.put, List.setIfInBounds_toArray, List.set_cons_zero, List.set_cons_succ]); rfl
    refine pure_ (i := 1) (N := (some 6)) (v := ?_) (a' := ?_) #[true, true, false, false, false, false, false, false] rfl rfl (by kernel_rfl) (fun _ _ _ h => h) (Or.inl ⟨by rfl, ?_⟩) ?_ ?_
    rotate_left
    · intro w'
      go_simp
      with_reducible rfl
    rotate_left
    · (try simp only [Act.put, List.setIfInBounds_toArray, List.set_cons_zero, List.set_cons_succ]); rfl
    refine pure_ (i := 2) (N := (some 7)) (v := ?_) (a' := ?_) #[true, true, true, false, false, false, false, false] rfl rfl (by kernel_rfl) (fun _ _ _ h => h) (Or.inl ⟨by rfl, ?_⟩) ?_ ?_
    rotate_left
    · intro w'
      go_simp
      with_reducible rfl
    rotate_left
    · (try simp only [Act.put, List.setIfInBounds_toArray, List.set_cons_zero, List.set_cons_succ]); rfl
    refine take_ (i := 3) (N := (some 8)) (v := ?_) (a' := ?_) #[true, true, true, true, false, false, false, false] rfl rfl (by kernel_rfl) (fun _ _ _ h => h) (Or.inl ⟨by rfl, ?_⟩) rfl ?_ ?_
    rotate_left
    · intro w' hS
      subst hS
      go_simp
      with_reducible rfl
    rotate_left
    · (try simp only [Act.put, List.setIfInBounds_toArray, List.set_cons_zero, List.set_cons_succ]); rfl
    refine pure_ (i := 4) (N := (some 9)) (v := ?_) (a' := ?_) #[true, true, true, true, true, false, false, false] rfl rfl (by kernel_rfl) (fun _ _ _ h => h) (Or.inl ⟨by rfl, ?_⟩) ?_ ?_
    rotate_left
    · intro w'
      go_simp
      with_reducible rfl
    rotate_left
    · (try simp only [Act.put, List.setIfInBounds_toArray, List.set_cons_zero, List.set_cons_succ]); rfl
    refine take_ (i := 5) (N := (some 10)) (v := .agg [.int .u8 f.u, .int .u16 f.t].toArray) (a' := ?_) #[true, true, true, true, true, true, false, false] rfl rfl (by kernel_rfl) (fun _ _ _ h => h) (yieldsIf_load_mid (by kernel_rfl) 29 (.tmp 9) rfl w.heap.size 0 rfl [.int .u8 f.u, .int .u16 f.t] _ (fun w' hS => by rw [hS]; exact rH) Tryz.underlying29 rfl (by kernel_rfl)) rfl ?_ ?_
    rotate_left
    · (try simp only [Act.put, List.setIfInBounds_toArray, List.set_cons_zero, List.set_cons_succ]); rfl
    refine take_ (i := 6) (N := (some 11)) (v := ?_) (a' := ?_) #[true, true, true, true, true, true, true, false] rfl rfl (by kernel_rfl) (fun _ _ _ h => h) (Or.inl ⟨by rfl, ?_⟩) rfl ?_ ?_
    rotate_left
    · intro w' hS
      subst hS
      go_simp
      with_reducible rfl
    rotate_left
    · (try simp only [Act.put, List.setIfInBounds_toArray, List.set_cons_zero, List.set_cons_succ]); rfl
    refine pure_ (i := 7) (N := (some 12)) (v := ?_) (a' := ?_) #[true, true, true, true, true, true, true, true] rfl rfl (by kernel_rfl) (fun _ _ _ h => h) (Or.inl ⟨by rfl, ?_⟩) ?_ ?_
    rotate_left
    · intro w'
      go_simp
      with_reducible rfl
    rotate_left
    · (try simp only [Act.put, List.setIfInBounds_toArray, List.set_cons_zero, List.set_cons_succ]); rfl
    refine done_ (by kernel_rfl) ?_
    clear c1 rH look
    go_wp2_with fail
    refine start_ (n := 9) (S := fun w' => w'.cell? ⟨pb, 1, none⟩ = some (.map (some B)) ∧ w'.rangeAt w.heap.size 0 [.int .u8 f.u, .int .u16 f.t]) (ds := [8]) #[false, false, false, false, false, false, false, false, false] (by kernel_rfl) rfl rfl SH1 (fun hHeld => ?_)
    clear hHeld
    refine pure_ (i := 0) (N := (some 13)) (v := ?_) (a' := ?_) #[true, false, false, false, false, false, false, false, false] rfl rfl (by kernel_rfl) (fun _ _ _ h => h) (Or.inl ⟨by rfl, ?_⟩) ?_ ?_
    rotate_left
    · intro w'
      go_simp
      with_reducible rfl
    rotate_left
    · (try simp only [Act.put, List.setIfInBounds_toArray, List.set_cons_zero, List.set_cons_succ]); rfl
    refine pure_ (i := 1) (N := (some 14)) (v := ?_) (a' := ?_) #[true, true, false, false, false, false, false, false, false] rfl rfl (by kernel_rfl) (fun _ _ _ h => h) (Or.inl ⟨by rfl, ?_⟩) ?_ ?_
    rotate_left
    · intro w'
      go_simp
      with_reducible rfl
    rotate_left
    · (try simp only [Act.put, List.setIfInBounds_toArray, List.set_cons_zero, List.set_cons_succ]); rfl
    refine pure_ (i := 2) (N := (some 15)) (v := ?_) (a' := ?_) #[true, true, true, false, false, false, false, false, false] rfl rfl (by kernel_rfl) (fun _ _ _ h => h) (Or.inl ⟨by rfl, ?_⟩) ?_ ?_
    rotate_left
    · intro w'
      go_simp
      with_reducible rfl
    rotate_left
    · (try simp only [Act.put, List.setIfInBounds_toArray, List.set_cons_zero, List.set_cons_succ]); rfl
    refine take_ (i := 3) (N := (some 16)) (v := ?_) (a' := ?_) #[true, true, true, true, false, false, false, false, false] rfl rfl (by kernel_rfl) (fun _ _ _ h => h) (Or.inl ⟨by rfl, ?_⟩) SH1 ?_ ?_
    rotate_left
    · intro w' hS
      have h31 := hS.1
      go_simp
      with_reducible rfl
    rotate_left
    · (try simp only [Act.put, List.setIfInBounds_toArray, List.set_cons_zero, List.set_cons_succ]); rfl
    refine pure_ (i := 4) (N := (some 17)) (v := ?_) (a' := ?_) #[true, true, true, true, true, false, false, false, false] rfl rfl (by kernel_rfl) (fun _ _ _ h => h) (Or.inl ⟨by rfl, ?_⟩) ?_ ?_
    rotate_left
    · intro w'
      go_simp
      with_reducible rfl
    rotate_left
    · (try simp only [Act.put, List.setIfInBounds_toArray, List.set_cons_zero, List.set_cons_succ]); rfl
    refine take_ (i := 5) (N := (some 18)) (v := .agg [.int .u8 f.u, .int .u16 f.t].toArray) (a' := ?_) #[true, true, true, true, true, true, false, false, false] rfl rfl (by kernel_rfl) (fun _ _ _ h => h) (yieldsIf_load_mid (by kernel_rfl) 29 (.tmp 17) rfl w.heap.size 0 rfl [.int .u8 f.u, .int .u16 f.t] _ (fun w' hS => hS.2) Tryz.underlying29 rfl (by kernel_rfl)) SH1 ?_ ?_
    rotate_left
    · (try simp only [Act.put, List.setIfInBounds_toArray, List.set_cons_zero, List.set_cons_succ]); rfl
    refine one_ (i := 6) (N := (some 19)) #[true, true, true, true, true, true, true, false, false] rfl rfl (by kernel_rfl) (by decide) (fun K hK => ?_)
    rw [if_pos (by kernel_rfl)]
    refine wp_lit0 128 rfl _ _ (lit0_74 _) (hK.out _ _ SH2 (fun hHeld => ?_))
    clear hHeld hK K
    refine norm_ (a' := ?_) ?_ ?_
    rotate_left
    · show Act.put _ (some 19) _ = _; (try simp only [Act.put, List.setIfInBounds_toArray, List.set_cons_zero, List.set_cons_succ]); rfl
    refine one_ (i := 7) (N := (some 20)) #[true, true, true, true, true, true, true, true, false] rfl rfl (by kernel_rfl) (by decide) (fun K hK => ?_)
    rw [if_pos (by kernel_rfl)]
    refine wp_box 128 (.tmp 19) rfl _ rfl (hK.out _ _ SH3 (fun hHeld => ?_))
    clear hHeld hK K
    refine norm_ (a' := ?_) ?_ ?_
    rotate_left
    · show Act.put _ (some 20) _ = _; (try simp only [Act.put, List.setIfInBounds_toArray, List.set_cons_zero, List.set_cons_succ]); rfl
    refine last_ (i := 8) (N := none) #[true, true, true, true, true, true, true, true, true] rfl rfl (by kernel_rfl) (by decide) (fun K hK => ?_)
    rw [if_pos (by kernel_rfl)]
    refine wp_mapUpdate 95 (.tmp 16) (.tmp 18) (.tmp 20) rfl _ _ _ rfl rfl rfl _ hstore (hK.out _ _ ?_)
    clear hK K
    refine norm_ (a' := ?_) ?_ ?_
    rotate_left
    · show Act.put _ none _ = _; (try simp only [Act.put, List.setIfInBounds_toArray, List.set_cons_zero, List.set_cons_succ]); rfl
    refine done_ (by kernel_rfl) ?_
    clear SH1 SH2 SH3 hstore F1 N1 k1 hs1 P1 Pd Pe P2 k2 ft2
    go_wp2_with fail
    have P2d : PS w2.drew pb net B (S ++ s :: []) L all := M.out.P2.kept (Kept.drew w2 (fun _ => False)) (fun _ _ h => h)
    have c1 := P2d.c1
    have c3 := P2d.c3
    have rH2 : w2.drew.rangeAt w.heap.size 0 [.int .u8 f.u, .int .u16 f.t] := head_range (w := w2.drew) M.out.F2
    have rF2 : w2.drew.rangeAt w.heap.size 0 f.cs := full_range (w := w2.drew) M.out.F2
    have look2 := look_some (s := s) P2d.book.keys P2d.mp
    rw [M.out.hu, M.out.ht] at look2
    simp only [headV] at look2
    have hsm : s ∈ S ++ s :: [] := by simp
    have hpush := hpush_calls w2.drew s.c s.v s.d ⟨all, f⟩ (P2d.age s hsm) (fun e he => (P2d.book.old e (P2d.book.mem' hsm he)).2) (by have := P2d.book.size_le; omega)
    clear P2d
    refine start_ (n := 16) (S := fun w' => w' = w2.drew) (ds := [15]) #[false, false, false, false, false, false, false, false, false, false, false, false, false, false, false, false] (by kernel_rfl) rfl rfl rfl (fun hHeld => ?_)
    clear hHeld
    refine pure_ (i := 0) (N := (some 21)) (v := ?_) (a' := ?_) #[true, false, false, false, false, false, false, false, false, false, false, false, false, false, false, false] rfl rfl (by kernel_rfl) (fun _ _ _ h => h) (Or.inl ⟨by rfl, ?_⟩) ?_ ?_
    rotate_left
    · intro w'
      go_simp
      with_reducible rfl
    rotate_left
    · (try simp only [Act.put, List.setIfInBounds_toArray, List.set_cons_zero, List.set_cons_succ]); rfl
    refine pure_ (i := 1) (N := (some 22)) (v := ?_) (a' := ?_) #[true, true, false, false, false, false, false, false, false, false, false, false, false, false, false, false] rfl rfl (by kernel_rfl) (fun _ _ _ h => h) (Or.inl ⟨by rfl, ?_⟩) ?_ ?_
    rotate_left
    · intro w'
      go_simp
      with_reducible rfl
    rotate_left
    · (try simp only [Act.put, List.setIfInBounds_toArray, List.set_cons_zero, List.set_cons_succ]); rfl
    refine pure_ (i := 2) (N := (some 23)) (v := ?_) (a' := ?_) #[true, true, true, false, false, false, false, false, false, false, false, false, false, false, false, false] rfl rfl (by kernel_rfl) (fun _ _ _ h => h) (Or.inl ⟨by rfl, ?_⟩) ?_ ?_
    rotate_left
    · intro w'
      go_simp
      with_reducible rfl
    rotate_left
    · (try simp only [Act.put, List.setIfInBounds_toArray, List.set_cons_zero, List.set_cons_succ]); rfl
    refine take_ (i := 3) (N := (some 24)) (v := ?_) (a' := ?_) #[true, true, true, true, false, false, false, false, false, false, false, false, false, false, false, false] rfl rfl (by kernel_rfl) (fun _ _ _ h => h) (Or.inl ⟨by rfl, ?_⟩) rfl ?_ ?_
    rotate_left
    · intro w' hS
      subst hS
      go_simp
      with_reducible rfl
    rotate_left
    · (try simp only [Act.put, List.setIfInBounds_toArray, List.set_cons_zero, List.set_cons_succ]); rfl
    refine pure_ (i := 4) (N := (some 25)) (v := ?_) (a' := ?_) #[true, true, true, true, true, false, false, false, false, false, false, false, false, false, false, false] rfl rfl (by kernel_rfl) (fun _ _ _ h => h) (Or.inl ⟨by rfl, ?_⟩) ?_ ?_
    rotate_left
    · intro w'
      go_simp
      with_reducible rfl
    rotate_left
    · (try simp only [Act.put, List.setIfInBounds_toArray, List.set_cons_zero, List.set_cons_succ]); rfl
    refine take_ (i := 5) (N := (some 26)) (v := .agg [.int .u8 f.u, .int .u16 f.t].toArray) (a' := ?_) #[true, true, true, true, true, true, false, false, false, false, false, false, false, false, false, false] rfl rfl (by kernel_rfl) (fun _ _ _ h => h) (yieldsIf_load_mid (by kernel_rfl) 29 (.tmp 25) rfl w.heap.size 0 rfl [.int .u8 f.u, .int .u16 f.t] _ (fun w' hS => by rw [hS]; exact rH2) Tryz.underlying29 rfl (by kernel_rfl)) rfl ?_ ?_
    rotate_left
    · (try simp only [Act.put, List.setIfInBounds_toArray, List.set_cons_zero, List.set_cons_succ]); rfl
    refine take_ (i := 6) (N := (some 27)) (v := ?_) (a' := ?_) #[true, true, true, true, true, true, true, false, false, false, false, false, false, false, false, false] rfl rfl (by kernel_rfl) (fun _ _ _ h => h) (Or.inl ⟨by rfl, ?_⟩) rfl ?_ ?_
    rotate_left
    · intro w' hS
      subst hS
      go_simp
      with_reducible rfl
    rotate_left
    · (try simp only [Act.put, List.setIfInBounds_toArray, List.set_cons_zero, List.set_cons_succ]); rfl
    refine pure_ (i := 7) (N := (some 28)) (v := ?_) (a' := ?_) #[true, true, true, true, true, true, true, true, false, false, false, false, false, false, false, false] rfl rfl (by kernel_rfl) (fun _ _ _ h => h) (Or.inl ⟨by rfl, ?_⟩) ?_ ?_
    rotate_left
    · intro w'
      go_simp
      with_reducible rfl
    rotate_left
    · (try simp only [Act.put, List.setIfInBounds_toArray, List.set_cons_zero, List.set_cons_succ]); rfl
    refine pure_ (i := 8) (N := (some 29)) (v := ?_) (a' := ?_) #[true, true, true, true, true, true, true, true, true, false, false, false, false, false, false, false] rfl rfl (by kernel_rfl) (fun _ _ _ h => h) (Or.inl ⟨by rfl, ?_⟩) ?_ ?_
    rotate_left
    · intro w'
      go_simp
      with_reducible rfl
    rotate_left
    · (try simp only [Act.put, List.setIfInBounds_toArray, List.set_cons_zero, List.set_cons_succ]); rfl
    refine pure_ (i := 9) (N := (some 30)) (v := ?_) (a' := ?_) #[true, true, true, true, true, true, true, true, true, true, false, false, false, false, false, false] rfl rfl (by kernel_rfl) (fun _ _ _ h => h) (Or.inl ⟨by rfl, ?_⟩) ?_ ?_
    rotate_left
    · intro w'
      go_simp
      with_reducible rfl
    rotate_left
    · (try simp only [Act.put, List.setIfInBounds_toArray, List.set_cons_zero, List.set_cons_succ]); rfl
    refine pure_ (i := 10) (N := (some 31)) (v := ?_) (a' := ?_) #[true, true, true, true, true, true, true, true, true, true, true, false, false, false, false, false] rfl rfl (by kernel_rfl) (fun _ _ _ h => h) (Or.inl ⟨by rfl, ?_⟩) ?_ ?_
    rotate_left
    · intro w'
      go_simp
      with_reducible rfl
    rotate_left
    · (try simp only [Act.put, List.setIfInBounds_toArray, List.set_cons_zero, List.set_cons_succ]); rfl
    refine take_ (i := 11) (N := (some 32)) (v := ?_) (a' := ?_) #[true, true, true, true, true, true, true, true, true, true, true, true, false, false, false, false] rfl rfl (by kernel_rfl) (fun _ _ _ h => h) (Or.inl ⟨by rfl, ?_⟩) rfl ?_ ?_
    rotate_left
    · intro w' hS
      subst hS
      go_simp
      with_reducible rfl
    rotate_left
    · (try simp only [Act.put, List.setIfInBounds_toArray, List.set_cons_zero, List.set_cons_succ]); rfl
    refine take_ (i := 12) (N := (some 33)) (v := .agg f.cs.toArray) (a' := ?_) #[true, true, true, true, true, true, true, true, true, true, true, true, true, false, false, false] rfl rfl (by kernel_rfl) (fun _ _ _ h => h) (yieldsIf_load_mid (by kernel_rfl) 37 (.tmp 3) rfl w.heap.size 0 rfl f.cs _ (fun w' hS => by rw [hS]; exact rF2) Tryz.underlying37 rfl (by kernel_rfl)) rfl ?_ ?_
    rotate_left
    · (try simp only [Act.put, List.setIfInBounds_toArray, List.set_cons_zero, List.set_cons_succ]); rfl
    refine pure_ (i := 13) (N := some 34) (v := .agg (Ent.mk all f).cs.toArray) (a' := ?_) #[true, true, true, true, true, true, true, true, true, true, true, true, true, true, false, false] rfl rfl (by kernel_rfl) (fun _ _ _ h => h) (yields_build (by kernel_rfl) 131 _ rfl [(0, .int .i64 (all : Int)), (1, .agg f.cs.toArray)] (by simp only [List.map_toArray, List.map_cons, List.map_nil]; rfl) _ (ent_built _ f)) ?_ ?_
    rotate_left
    · (try simp only [Act.put, List.setIfInBounds_toArray, List.set_cons_zero, List.set_cons_succ]); rfl
    refine pure_ (i := 14) (N := (some 35)) (v := ?_) (a' := ?_) #[true, true, true, true, true, true, true, true, true, true, true, true, true, true, true, false] rfl rfl (by kernel_rfl) (fun _ _ _ h => h) (Or.inl ⟨by rfl, ?_⟩) ?_ ?_
    rotate_left
    · intro w'
      go_simp
      with_reducible rfl
    rotate_left
    · (try simp only [Act.put, List.setIfInBounds_toArray, List.set_cons_zero, List.set_cons_succ]); rfl
    refine last_ (i := 15) (N := some 36) #[true, true, true, true, true, true, true, true, true, true, true, true, true, true, true, true] rfl rfl (by kernel_rfl) (by decide) (fun K hK => ?_)
    refine goes_ (f := 57) (fn := Tryz.f57) Tryz.func57 rfl rfl #[.iface 127 (.pointer (some ⟨s.c, 0, none⟩)), .iface 131 (.agg (Ent.mk all f).cs.toArray)] (by kernel_rfl) rfl rfl (by simp only [List.map_toArray, List.map_cons, List.map_nil]; rfl) ?_
    refine hpush.mono ?_
    rintro e w3 ⟨rfl, v', A3, hv3, k3⟩
    refine ⟨_, rfl, hK.out _ _ ?_⟩
    clear hK K
    refine norm_ (a' := ?_) ?_ ?_
    rotate_left
    · (try simp only [Act.put, List.setIfInBounds_toArray, List.set_cons_zero, List.set_cons_succ]); rfl
    refine done_ (by kernel_rfl) ?_
    obtain ⟨e1, e2, e3, n1, n2, S', D1, D2, D3⟩ := M.out.done hP hf hy A3 hv3 k3
    have g2 : w3.cell? ⟨pb, 2, none⟩ = some (.int .i64 (L.length : Nat)) := by rw [cell_of_row w3 pb 2 _ 97 (0, 0) e1]; rfl
    have g3 : w3.cell? ⟨pb, 3, none⟩ = some (.int .i64 (all : Nat)) := by rw [cell_of_row w3 pb 3 _ 97 (0, 0) e1]; rfl
    have fz : ∀ i, w3.frozen? ⟨pb, i, none⟩ = false := fun i => by simp [World.frozen?, e1]
    have fz2 := fz 2
    have fz3 := fz 3
    clear c1 c3 rH2 rF2 look2 hpush A3 hv3 k3 M fz
    go_wp2_with (first
      | (refine wpList_load_row rfl 37 (.tmp 3) rfl w.heap.size rfl 37 f.cs.toArray (0, 0) _ ?_ Tryz.underlying37 rfl SZ44 ?_; (exact setCell_heap (setCell_heap e2 n1) n1))
      | (refine wpList_buildTo rfl 52 _ rfl (some 52) rfl (Nt.mk 0 f fr0).cs.toArray ?_ ?_; (simp only [List.map_toArray, List.map_cons, List.map_nil]; exact nt_ask 0 f))
      | (refine wpList_store_row rfl 52 (.tmp 4) (.tmp 52) rfl (w.heap.size + 1) _ rfl rfl 52 (Nt.mk 0 fr0 fr0).cs.toArray ?_ SZ55 rfl hone ?_; (exact setCell_heap (setCell_heap e3 n2) n2)))
    refine bodyPost_ret (v := .agg (Nt.mk 0 f fr0).cs.toArray) (results_cell_row (p := 4) (ty := 52) Tryz.results48 _ _ (w.heap.size + 1) 52 _ (0, 0) _ rfl (setRow_heap _ _ _ _ 52 _ (setCell_heap (setCell_heap e3 n2) n2)) Tryz.underlying52 rfl SZ55) rfl ⟨rfl, S', D1, D2, D3⟩
end Go.Proofs.YtmbjlondehcheaaGreatDoor
end
