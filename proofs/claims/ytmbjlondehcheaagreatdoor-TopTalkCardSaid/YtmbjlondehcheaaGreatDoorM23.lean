/- TopTalk: part 23 of the walks: of HPairStep, HPairOwn, HInsp, HNote. -/
import Derived.Test.YtmbjlondehcheaaGreatDoorM21
import Derived.Test.YtmbjlondehcheaaGreatDoorM22
section
set_option linter.unusedSimpArgs false
set_option linter.unusedVariables false
namespace Go.Proofs.YtmbjlondehcheaaGreatDoor
open Go.Shelf Go.RowKit Go.Lib Go.Sort Go.Proofs.YtmbjlondehcheaaGreatDoorW.PrintWords Go.Proofs.YtmbjlondehcheaaGreatDoorW.PrintLast
theorem code_at (f : Fr) : f.cs.toArray[2]? = some (.int .u8 f.c) := by simp [Fr.cs]
def ans (net : Bool) (L : List Ent) (all : Nat) (f : Fr) : List Nt × List Ent × Nat :=
  match L.find? (hd (hdOf net L f).1 (hdOf net L f).2) with
  | some e => ([⟨if e.f.c = f.c then 4 else 5, e.f, f⟩], L.eraseP (hd (hdOf net L f).1 (hdOf net L f).2), all)
  | none => ([⟨6, fr0, f⟩], L, all)
def step (net : Bool) (L : List Ent) (all : Nat) (dir : Int) (f : Fr) : List Nt × List Ent × Nat :=
  if dir = 0 then ask net L all f else if dir = 1 then ans net L all f else ([], L, all)
theorem fin_one {w W : World} {pb : Nat} {net : Bool} {B : Nat} {S S1 : List Slot} {L : List Ent} {all : Nat} (hP : PS W pb net B S1 L all) (ft : ∀ b, foot pb B S1 b → foot pb B S b ∨ w.heap.size ≤ b) (k : Kept w W (foot pb B S)) (n : Nt) :
    Fin w (W.alloc (.cells n.cs.toArray 52)) pb net B S (.slice (some ⟨W.heap.size, 0, none⟩) 1 1) [n] L all :=
  ⟨one_nt W n, fun g hg => by simp [Value.ownBlock] at hg; have := k.size; omega, ⟨S1, hP.kept (Kept.alloc W _ (fun _ => False)) (fun _ _ h => h), ft⟩, k.trans (Kept.alloc W _ (fun _ => False)) (fun _ _ h => h) (fun _ _ h => h.elim)⟩
theorem take_end {w w1 w2 w3 : World} {pb : Nat} {net : Bool} {B : Nat} {S S3 : List Slot} {L L3 : List Ent} {all : Nat} {f : Fr} (k1 : Kept w w1 (fun _ => False)) (F1 : w1.heap[w.heap.size]? = some (.cells f.cs.toArray 37 (0, 0))) (P1 : PS w1 pb net B S L all) (k2 : Kept w1 w2 (fun _ => False))
    (P3 : PS w3 pb net B S3 L3 all) (ft3 : ∀ b, foot pb B S3 b → foot pb B S b ∨ w2.heap.size ≤ b) (k3 : Kept w2 w3 (foot pb B S)) (y : Fr) :
    ∃ w4, w4 = (w3.alloc (.cells fr0.cs.toArray 37)).setRow w3.heap.size y.cs.toArray ∧ w4.heap[w3.heap.size]? = some (.cells y.cs.toArray 37 (0, 0)) ∧ w4.heap[w.heap.size]? = some (.cells f.cs.toArray 37 (0, 0)) ∧
      ∀ n : Nt, Fin w (w4.alloc (.cells n.cs.toArray 52)) pb net B S (.slice (some ⟨w4.heap.size, 0, none⟩) 1 1) [n] L3 all := by
  have P2 := P1.kept k2 (fun _ _ h => h)
  have F2 := k2.heap F1 (fun h => h)
  have F3 := k3.heap F2 (P2.not_foot F2 (by decide))
  have q : Kept w3 ((w3.alloc (.cells fr0.cs.toArray 37)).setRow w3.heap.size y.cs.toArray) (fun _ => False) := (Kept.alloc w3 _ (fun _ => False)).trans (Kept.setRow _ w3.heap.size _ (F := fun b => b = w3.heap.size) rfl) (fun _ _ h => h) (fun k hk h => by omega)
  have s1 := k1.size
  have s2 := k2.size
  exact ⟨_, rfl, setRow_heap _ _ _ _ 37 _ (heap_alloc_new _ _), q.heap F3 (fun h => h), fun n => fin_one (P3.kept q (fun _ _ h => h)) (fun b hb => by
    rcases ft3 b hb with h | h
    · exact .inl h
    · exact .inr (by omega)) (((k1.trans k2 (fun _ _ h => h) (fun _ _ h => h)).trans k3 (fun _ _ h => h.elim) (fun _ _ h => h)).trans q (fun _ _ h => h) (fun _ _ h => h.elim)) n⟩
set_option maxHeartbeats 400000 in
set_option maxRecDepth 1000000 in
theorem Take_calls (w : World) (pb : Nat) (net : Bool) (B : Nat) (S : List Slot) (L : List Ent) (all : Nat) (dir : Int) (f : Fr) (hP : PS w pb net B S L all) (h1 : net = false → L.length ≤ 1) (hy : all < 1000000) :
    Calls Tryz.prog 17 #[.pointer (some ⟨pb, 0, none⟩), .int .i64 dir, .agg f.cs.toArray] w fun r w' => ∃ v, r = .returned v ∧ Fin w w' pb net B S v (step net L all dir f).1 (step net L all dir f).2.1 (step net L all dir f).2.2 := by
  have k1 : Kept w (w.alloc (.cells f.cs.toArray 37)) (fun _ => False) := Kept.alloc w _ _
  have F1 : (w.alloc (.cells f.cs.toArray 37)).heap[w.heap.size]? = some (.cells f.cs.toArray 37 (0, 0)) := heap_alloc_new _ _
  have P1 := hP.kept k1 (fun _ _ h => h)
  have hs1 : (w.alloc (.cells f.cs.toArray 37)).heap.size = w.heap.size + 1 := by simp
  have SZ44 := size44 f.cs.toArray rfl
  by_cases h0 : dir = 0
  · subst h0
    have hst : step net L all 0 f = ask net L all f := rfl
    rw [hst]
    have hask := asks_calls (w.alloc (.cells f.cs.toArray 37)) pb net B S L all f P1 h1 hy
    have FIN : Aside0 (∀ v w', Fin (w.alloc (.cells f.cs.toArray 37)) w' pb net B S v (ask net L all f).1 (ask net L all f).2.1 (ask net L all f).2.2 → Fin w w' pb net B S v (ask net L all f).1 (ask net L all f).2.1 (ask net L all f).2.2) := ⟨fun v w' h =>
      ⟨h.row, fun g hg => by have := h.new g hg; omega, (by
        obtain ⟨S', a, b⟩ := h.ps
        exact ⟨S', a, fun x hx => by
          rcases b x hx with h' | h'
          · exact .inl h'
          · exact .inr (by omega)⟩), k1.trans h.kept (fun _ _ h => h.elim) (fun _ _ h => h)⟩⟩
    clear P1 hP hst hs1 k1
    go_enter Tryz.func17, Tryz.ntmps17
    go_wp2_with (first
      | (refine wpList_load_row rfl 37 (.tmp 5) rfl w.heap.size rfl 37 f.cs.toArray (0, 0) _ F1 Tryz.underlying37 rfl SZ44 ?_)
      | (go_at_call 33; with_reducible refine hask.mono ?_; rintro e w3 ⟨v, rfl, hF⟩))
    go_ret
    exact ⟨_, rfl, FIN.out _ _ hF⟩
  by_cases hd1 : dir = 1
  · subst hd1
    have hst : step net L all 1 f = ans net L all f := by simp [step]
    rw [hst]
    have hhead := phead_calls (w.alloc (.cells f.cs.toArray 37)) pb net B S L all f P1
    have htake : ∀ W, Kept (w.alloc (.cells f.cs.toArray 37)) W (fun _ => False) → _ := fun W k2 => take_calls W pb net B S L all (hdOf net L f).1 (hdOf net L f).2 (P1.kept k2 (fun _ _ h => h))
    have HT : Aside0 _ := ⟨htake⟩
    have END : Aside0 (∀ w2 w3 S3 L3, _ → _ → _ → _ → _) := ⟨fun w2 w3 S3 L3 k2 P3 ft3 k3 => take_end (w2 := w2) (w3 := w3) (S3 := S3) (L3 := L3) k1 F1 P1 k2 P3 ft3 k3 (tk L (hdOf net L f).1 (hdOf net L f).2)⟩
    obtain ⟨hu, hu'⟩ : ∃ x, x = (hdOf net L f).1 := ⟨_, rfl⟩
    obtain ⟨ht, ht'⟩ : ∃ x, x = (hdOf net L f).2 := ⟨_, rfl⟩
    have hans : ans net L all f = match L.find? (hd hu ht) with | some e => ([⟨if e.f.c = f.c then 4 else 5, e.f, f⟩], L.eraseP (hd hu ht), all) | none => ([⟨6, fr0, f⟩], L, all) := by rw [hu', ht']; rfl
    rw [hans]
    rw [← hu', ← ht'] at hhead HT END
    have SZY := size44 (tk L hu ht).cs.toArray rfl
    have ONEY := all_oneCell_toArray (tk L hu ht).one
    have hzc : fr0.cs.toArray.size = (tk L hu ht).cs.toArray.size := rfl
    have hz := fr0_zero
    clear htake P1 hP hst hs1 k1 hans hu' ht' h0 h1 hy
    cases hf : L.find? (hd hu ht) with
    | none =>
      have he : L.eraseP (hd hu ht) = L := by
        rw [List.eraseP_of_forall_not]
        rw [List.find?_eq_none] at hf
        exact hf
      rw [hf, he] at HT
      simp only [Option.isSome_none] at HT
      clear hf he
      generalize tk L hu ht = y at *
      go_enter Tryz.func17, Tryz.ntmps17
      go_wp2_with (first
        | (have q5 := SZ44; refine wpList_load_row rfl 37 (.tmp 5) rfl w.heap.size rfl 37 f.cs.toArray (0, 0) _ F1 Tryz.underlying37 rfl SZ44 ?_)
        | (go_at_call 35; with_reducible refine hhead.mono ?_; rintro e w2 ⟨rfl, k2⟩; have htk := HT.out w2 k2)
        | (go_at_call 34; with_reducible refine htk.mono ?_; rintro e w3 ⟨S3, rfl, P3, ft3, k3⟩; obtain ⟨w4, hw4, f7, f5, hfin⟩ := END.out w2 w3 S3 _ k2 P3 ft3 k3; have HW4 : Aside0 _ := ⟨hw4⟩; have HF : Aside0 _ := ⟨hfin ⟨6, fr0, f⟩⟩; clear hw4 hfin htk HT END F1)
        | (have q5 := hzc; refine wpList_store_row rfl 37 (.tmp 7) (.tmp 23) rfl w3.heap.size y.cs.toArray rfl rfl 37 fr0.cs.toArray (heap_alloc_new _ _) SZY hzc ONEY ?_; rw [← HW4.out]; clear hzc q5 k2 P3 ft3 k3)
        | (refine wpList_load_row rfl 37 (.tmp 5) rfl w.heap.size rfl 37 f.cs.toArray (0, 0) _ f5 Tryz.underlying37 rfl SZ44 ?_)
        | (refine wpList_buildTo rfl 52 _ rfl (some 29) rfl (Nt.mk 6 fr0 f).cs.toArray ?_ ?_; (simp only [List.map_toArray, List.map_cons, List.map_nil]; exact nt_ans 6 f))
        | (have q5 := f5; refine wpList_lit1 rfl 48 (.tmp 29) rfl (some 30) rfl (.agg (Nt.mk 6 fr0 f).cs.toArray) rfl _ _ (lit_nt w4 _) ?_; clear f5 q5))
      go_ret
      exact ⟨_, rfl, HF.out⟩
    | some x =>
      have hty : tk L hu ht = x.f := by rw [tk, hf]; rfl
      rw [hty] at SZY ONEY hzc
      rw [hty] at HT END
      rw [hf] at HT
      simp only [Option.isSome_some] at HT
      clear hf hty
      by_cases hc : x.f.c = f.c
      · simp only [hc, if_true]
        have cEq : x.f.c = f.c := hc
        clear hc
        generalize L.eraseP (hd hu ht) = L3 at *
        go_enter Tryz.func17, Tryz.ntmps17
        go_wp2_with (first
          | (have q5 := SZ44; refine wpList_load_row rfl 37 (.tmp 5) rfl w.heap.size rfl 37 f.cs.toArray (0, 0) _ F1 Tryz.underlying37 rfl SZ44 ?_)
          | (go_at_call 35; with_reducible refine hhead.mono ?_; rintro e w2 ⟨rfl, k2⟩; have htk := HT.out w2 k2)
          | (go_at_call 34; with_reducible refine htk.mono ?_; rintro e w3 ⟨S3, rfl, P3, ft3, k3⟩; obtain ⟨w4, hw4, f7, f5, hfin⟩ := END.out w2 w3 S3 _ k2 P3 ft3 k3; have HW4 : Aside0 _ := ⟨hw4⟩; have HF : Aside0 _ := ⟨hfin ⟨4, x.f, f⟩⟩; (have c7 : w4.cell? ⟨w3.heap.size, 2, none⟩ = some (.int .u8 f.c) := by (rw [cell_of_row w4 w3.heap.size 2 _ 37 (0, 0) f7, code_at, cEq])); (have c5 : w4.cell? ⟨w.heap.size, 2, none⟩ = some (.int .u8 f.c) := by (rw [cell_of_row w4 w.heap.size 2 _ 37 (0, 0) f5, code_at])); clear hw4 hfin htk HT END F1 cEq)
          | (have q5 := hzc; refine wpList_store_row rfl 37 (.tmp 7) (.tmp 23) rfl w3.heap.size x.f.cs.toArray rfl rfl 37 fr0.cs.toArray (heap_alloc_new _ _) SZY hzc ONEY ?_; rw [← HW4.out]; clear hzc q5 k2 P3 ft3 k3)
          | (refine wpList_load_row rfl 37 (.tmp 7) rfl w3.heap.size rfl 37 x.f.cs.toArray (0, 0) _ f7 Tryz.underlying37 rfl SZY ?_)
          | (refine wpList_load_row rfl 37 (.tmp 5) rfl w.heap.size rfl 37 f.cs.toArray (0, 0) _ f5 Tryz.underlying37 rfl SZ44 ?_)
          | (refine wpList_buildTo rfl 52 _ rfl (some 41) rfl (Nt.mk 4 x.f f).cs.toArray ?_ ?_; (simp only [List.map_toArray, List.map_cons, List.map_nil]; exact nt_both 4 x.f f))
          | (have q5 := f5; refine wpList_lit1 rfl 48 (.tmp 41) rfl (some 42) rfl (.agg (Nt.mk 4 x.f f).cs.toArray) rfl _ _ (lit_nt w4 _) ?_; clear f5 q5))
        go_ret
        exact ⟨_, rfl, HF.out⟩
      · simp only [hc, if_false]
        generalize L.eraseP (hd hu ht) = L3 at *
        go_enter Tryz.func17, Tryz.ntmps17
        go_wp2_with (first
          | (have q5 := SZ44; refine wpList_load_row rfl 37 (.tmp 5) rfl w.heap.size rfl 37 f.cs.toArray (0, 0) _ F1 Tryz.underlying37 rfl SZ44 ?_)
          | (go_at_call 35; with_reducible refine hhead.mono ?_; rintro e w2 ⟨rfl, k2⟩; have htk := HT.out w2 k2)
          | (go_at_call 34; with_reducible refine htk.mono ?_; rintro e w3 ⟨S3, rfl, P3, ft3, k3⟩; obtain ⟨w4, hw4, f7, f5, hfin⟩ := END.out w2 w3 S3 _ k2 P3 ft3 k3; have HW4 : Aside0 _ := ⟨hw4⟩; have HF : Aside0 _ := ⟨hfin ⟨5, x.f, f⟩⟩; (have c7 : w4.cell? ⟨w3.heap.size, 2, none⟩ = some (.int .u8 x.f.c) := by (rw [cell_of_row w4 w3.heap.size 2 _ 37 (0, 0) f7, code_at])); (have c5 : w4.cell? ⟨w.heap.size, 2, none⟩ = some (.int .u8 f.c) := by (rw [cell_of_row w4 w.heap.size 2 _ 37 (0, 0) f5, code_at])); clear hw4 hfin htk HT END F1)
          | (have q5 := hzc; refine wpList_store_row rfl 37 (.tmp 7) (.tmp 23) rfl w3.heap.size x.f.cs.toArray rfl rfl 37 fr0.cs.toArray (heap_alloc_new _ _) SZY hzc ONEY ?_; rw [← HW4.out]; clear hzc q5 k2 P3 ft3 k3)
          | (refine wpList_load_row rfl 37 (.tmp 7) rfl w3.heap.size rfl 37 x.f.cs.toArray (0, 0) _ f7 Tryz.underlying37 rfl SZY ?_)
          | (refine wpList_load_row rfl 37 (.tmp 5) rfl w.heap.size rfl 37 f.cs.toArray (0, 0) _ f5 Tryz.underlying37 rfl SZ44 ?_)
          | (refine wpList_buildTo rfl 52 _ rfl (some 45) rfl (Nt.mk 5 x.f f).cs.toArray ?_ ?_; (simp only [List.map_toArray, List.map_cons, List.map_nil]; exact nt_both 5 x.f f))
          | (have q5 := f5; refine wpList_lit1 rfl 48 (.tmp 45) rfl (some 46) rfl (.agg (Nt.mk 5 x.f f).cs.toArray) rfl _ _ (lit_nt w4 _) ?_; clear f5 q5))
        go_ret
        exact ⟨_, rfl, HF.out⟩
  · have hst : step net L all dir f = ([], L, all) := by simp [step, h0, hd1]
    rw [hst]
    have FIN : Aside0 (Fin w (w.alloc (.cells f.cs.toArray 37)) pb net B S (.slice none 0 0) [] L all) := ⟨⟨World.ownsRow_nil _ _ _ _, fun g hg => by simp [Value.ownBlock] at hg, ⟨S, P1, fun b hb => .inl hb⟩, k1.mono (fun _ _ h => h.elim)⟩⟩
    clear P1 hP hst hs1 k1 F1
    go_enter Tryz.func17, Tryz.ntmps17
    go_wp2
    go_ret
    exact ⟨_, rfl, FIN.out⟩
end Go.Proofs.YtmbjlondehcheaaGreatDoor
end
section
set_option linter.unusedSimpArgs false
set_option linter.unusedVariables false
namespace Go.Proofs.YtmbjlondehcheaaGreatDoor
open Go.Shelf Go.RowKit Go.Lib Go.Sort Go.Proofs.YtmbjlondehcheaaGreatDoorW.PrintWords Go.Proofs.YtmbjlondehcheaaGreatDoorW.PrintLast
structure Own (w : World) (pb : Nat) (net : Bool) (L : List Ent) (all : Nat) (F : Nat → Prop) : Prop where
  out : ∃ B S, PS w pb net B S L all ∧ (∀ b, F b ↔ foot pb B S b)
  one : net = false → L.length ≤ 1
structure Res (w : World) (F : Nat → Prop) (v : Value) (ns : List Nt) : Prop where
  row : w.ownsRow 0 52 49 v ns.length (nts ns)
  apart : ∀ g, some g = v.ownBlock → ¬ F g
theorem Own.lt {w : World} {pb : Nat} {net : Bool} {L : List Ent} {all : Nat} {F : Nat → Prop} (h : Own w pb net L all F) {b : Nat} (hb : F b) : b < w.heap.size := by
  obtain ⟨B, S, hP, hF⟩ := h.out
  exact hP.foot_lt ((hF b).1 hb)
theorem Own.kept {w w' : World} {pb : Nat} {net : Bool} {L : List Ent} {all : Nat} {F G : Nat → Prop} (h : Own w pb net L all F) (k : Kept w w' G) (hG : ∀ b, F b → ¬ G b) : Own w' pb net L all F := by
  obtain ⟨B, S, hP, hF⟩ := h.out
  exact ⟨⟨B, S, hP.kept k (fun b hb => hG b ((hF b).2 hb)), hF⟩, h.one⟩
theorem Own.few {w : World} {pb : Nat} {net : Bool} {L : List Ent} {all : Nat} {F : Nat → Prop} (h : Own w pb net L all F) : L.length ≤ 16 := by
  obtain ⟨B, S, hP, hF⟩ := h.out
  exact hP.few
theorem Res.kept {w w' : World} {F G : Nat → Prop} {v : Value} {ns : List Nt} (h : Res w F v ns) (k : Kept w w' G) (hG : ∀ g, some g = v.ownBlock → ¬ G g) {F' : Nat → Prop} (hF : ∀ b, F' b → F b ∨ w.heap.size ≤ b) : Res w' F' v ns :=
  ⟨k.owns h.row (fun g hg => hG g hg.symm), fun g hg hb => by
    rcases hF g hb with h' | h'
    · exact h.apart g hg h'
    · have := row_lt h.row hg; omega⟩
theorem Res.next {w w' : World} {F : Nat → Prop} {v : Value} {ns : List Nt} (h : Res w F v ns) (k : Kept w w' F) {F' : Nat → Prop} (hF : ∀ b, F' b → F b ∨ w.heap.size ≤ b) : Res w' F' v ns := h.kept k h.apart hF
theorem step_one {net : Bool} {L : List Ent} {all : Nat} {dir : Int} {f : Fr} (h : net = false → L.length ≤ 1) : net = false → (step net L all dir f).2.1.length ≤ 1 := by
  intro hn
  subst hn
  have hl := h rfl
  unfold step
  split
  · unfold ask
    rw [if_neg (by simp)]
    split
    · exact hl
    · simp
  · split
    · unfold ans
      split
      · have := List.length_eraseP_le (p := hd (hdOf false L f).1 (hdOf false L f).2) (l := L)
        exact Nat.le_trans this hl
      · exact hl
    · exact hl
theorem Own.take {w : World} {pb : Nat} {net : Bool} {L : List Ent} {all : Nat} {F : Nat → Prop} (h : Own w pb net L all F) (hy : all < 1000000) (dir : Int) (f : Fr) :
    Calls Tryz.prog 17 #[.pointer (some ⟨pb, 0, none⟩), .int .i64 dir, .agg f.cs.toArray] w fun r w' => ∃ v F', r = .returned v ∧ Own w' pb net (step net L all dir f).2.1 (step net L all dir f).2.2 F' ∧ Res w' F' v (step net L all dir f).1 ∧
      (∀ b, F' b → F b ∨ w.heap.size ≤ b) ∧ Kept w w' F := by
  obtain ⟨B, S, hP, hF⟩ := h.out
  refine (Take_calls w pb net B S L all dir f hP h.one hy).mono fun r w' ⟨v, he, hf⟩ => ?_
  obtain ⟨S', P', ft⟩ := hf.ps
  refine ⟨v, foot pb B S', he, ⟨⟨B, S', P', fun b => Iff.rfl⟩, step_one h.one⟩, ⟨hf.row, fun g hg => P'.not_foot_row hf.row (by decide) g hg.symm⟩, fun b hb => ?_, hf.kept.mono fun b _ hb => (hF b).2 hb⟩
  rcases ft b hb with h' | h'
  · exact .inl ((hF b).2 h')
  · exact .inr h'
theorem Own.open_ {w : World} {pb : Nat} {net : Bool} {L : List Ent} {all : Nat} {F : Nat → Prop} (h : Own w pb net L all F) :
    Calls Tryz.prog 19 #[.pointer (some ⟨pb, 0, none⟩)] w fun r w' => ∃ a cap, r = .returned (.slice a L.length cap) ∧ w'.ownsRow 0 37 24 (.slice a L.length cap) L.length (frs L) ∧ (∀ g, some g = (Value.slice a L.length cap).ownBlock → w.heap.size ≤ g) ∧ Kept w w' (fun _ => False) := by
  obtain ⟨B, S, hP, hF⟩ := h.out
  refine (open_calls w pb net B S L all hP).mono fun r w' ⟨v, he, ho, hn, k⟩ => ?_
  obtain ⟨a, cap, rfl⟩ := owns_len ho
  exact ⟨a, cap, he, ho, hn, k⟩
set_option maxHeartbeats 400000 in
theorem new_calls (fr : Int) (hfr : fr = 0 ∨ fr = 1 ∨ fr = 2) (w : World) : Calls Tryz.prog 13 #[.int .i64 fr] w fun r w' => ∃ pb F, r = .returned (.pointer (some ⟨pb, 0, none⟩)) ∧ Own w' pb (decide (fr = 2)) [] 0 F ∧ (∀ b, F b → w.heap.size ≤ b) ∧ Kept w w' (fun _ => False) := by
  have hmm := @run_makeMap Tryz.prog
  have FIN : Aside0 (∀ b : Bool, b = decide (fr = 2) → ∃ pb F, (Ending.returned (.pointer (some ⟨w.heap.size + 1, 0, none⟩)) = Ending.returned (.pointer (some ⟨pb, 0, none⟩))) ∧ Own ((w.alloc (.map #[] 0)).alloc (.cells #[.bool b, .map (some w.heap.size), .int .i64 0, .int .i64 0] 97)) pb (decide (fr = 2)) [] 0 F ∧ (∀ b, F b → w.heap.size ≤ b) ∧ Kept w ((w.alloc (.map #[] 0)).alloc (.cells #[.bool b, .map (some w.heap.size), .int .i64 0, .int .i64 0] 97)) (fun _ => False)) := ⟨fun b hb => by
    subst hb
    refine ⟨w.heap.size + 1, foot (w.heap.size + 1) w.heap.size [], rfl, ⟨⟨w.heap.size, [], ⟨?_, ?_, by simp, by simp, Book.zero, by simp, by omega⟩, fun b => Iff.rfl⟩, by simp⟩, fun b hb => ?_, (Kept.alloc w _ _).trans (Kept.alloc _ _ (fun _ => False)) (fun _ _ h => h) (fun _ _ h => h)⟩
    · have := heap_alloc_new (w.alloc (.map #[] 0)) (.cells #[.bool (decide (fr = 2)), .map (some w.heap.size), .int .i64 0, .int .i64 0] 97)
      simpa using this
    · rw [heap_alloc_old _ _ (by simp)]; exact heap_alloc_new _ _
    · rcases hb with h | h | ⟨s, hs, _⟩
      · omega
      · omega
      · simp at hs⟩
  rcases hfr with rfl | rfl | rfl
  · go_enter Tryz.func13, Tryz.ntmps13
    go_wp2
    go_ret
    exact FIN.out false rfl
  · go_enter Tryz.func13, Tryz.ntmps13
    go_wp2
    go_ret
    exact FIN.out false rfl
  · go_enter Tryz.func13, Tryz.ntmps13
    go_wp2
    go_ret
    simpa using FIN.out true rfl
theorem Res.cells {w : World} {F : Nat → Prop} {v : Value} {ns : List Nt} (h : Res w F v ns) (h0 : 0 < ns.length) : ∃ g cap, v = .slice (some ⟨g, 0, none⟩) ns.length cap ∧ some g = v.ownBlock ∧ ∀ i n j u, ns[i]? = some n → n.cs[j]? = some u → w.cell? ⟨g, i * 49 + j, none⟩ = some u := by
  rcases h.row.2 with ⟨_, h1⟩ | ⟨g, cap, cur, hv, _, hg, hnc, hcm, hcs, htake⟩
  · omega
  · refine ⟨g, cap, hv, by rw [hv]; rfl, fun i n j u hn hu => ?_⟩
    have hi : i < ns.length := (List.getElem?_eq_some_iff.1 hn).1
    have hj : j < 49 := by have := (List.getElem?_eq_some_iff.1 hu).1; rwa [Nt.len] at this
    have hlen : ∀ l : List Nt, (nts l).length = l.length * 49 := fun l => by
      induction l with
      | nil => rfl
      | cons a l ih => simp only [nts, List.flatMap_cons, List.length_append, List.length_cons] at *; rw [ih, Nt.len]; omega
    have key : (nts ns)[i * 49 + j]? = some u := by
      have hsplit : ns = ns.take i ++ n :: ns.drop (i + 1) := by
        have e : n = ns[i] := by rw [List.getElem?_eq_getElem hi] at hn; simpa using hn.symm
        rw [e, ← List.drop_eq_getElem_cons hi, List.take_append_drop]
      have e : nts (ns.take i ++ n :: ns.drop (i + 1)) = nts (ns.take i) ++ (n.cs ++ nts (ns.drop (i + 1))) := by
        unfold nts; rw [List.flatMap_append, List.flatMap_cons]
      rw [← hsplit] at e
      have hl := hlen (ns.take i)
      rw [List.length_take, Nat.min_eq_left (Nat.le_of_lt hi)] at hl
      rw [e, List.getElem?_append_right (by omega), hl, Nat.add_sub_cancel_left, List.getElem?_append_left (by rw [Nt.len]; exact hj)]
      exact hu
    have hc := h.row.cells (g := g) (by rw [hv]; rfl) (i * 49 + j) u key
    rw [Addr.add_mid, Nat.zero_add] at hc
    exact hc
def mkF (u t c x v : Int) (hu : 0 ≤ u ∧ u < 256) (ht : 0 ≤ t ∧ t < 65536) (hc : 0 ≤ c ∧ c < 256) : Fr :=
  ⟨u, t, c, fun i => if i = 0 then .int .u8 x else if i = 3 then .int .u16 v else fr0.r i, hu, ht, hc, fun i => by
    by_cases h : i = 0
    · simp [h, Value.oneCell']
    · by_cases h3 : i = 3
      · simp [h3, Value.oneCell']
      · simp only [h, h3, if_false]; exact fr0.h1 i⟩
def msg (c x v : Int) : List Value := (mkF 0 0 0 x v (by decide) (by decide) (by decide)).cs.drop 2 |>.set 0 (.int .u8 c)
structure Var (w : World) (F : Nat → Prop) (g : Nat) (f : Fr) : Prop where
  row : w.heap[g]? = some (.cells f.cs.toArray 37 (0, 0))
  apart : ¬ F g
theorem Var.next {w w' : World} {F : Nat → Prop} {g : Nat} {f : Fr} (h : Var w F g f) (k : Kept w w' F) {F' : Nat → Prop} (hF : ∀ b, F' b → F b ∨ w.heap.size ≤ b) : Var w' F' g f :=
  ⟨k.heap h.row h.apart, fun hb => by
    rcases hF g hb with h' | h'
    · exact h.apart h'
    · have := heap_lt h.row; omega⟩
theorem Var.kept {w w' : World} {F : Nat → Prop} {g : Nat} {f : Fr} (h : Var w F g f) (k : Kept w w' (fun _ => False)) : Var w' F g f := ⟨k.heap h.row (fun h => h), h.apart⟩
theorem Own.var {w : World} {pb : Nat} {net : Bool} {L : List Ent} {all : Nat} {F : Nat → Prop} (h : Own w pb net L all F) (f : Fr) :
    Own ((w.alloc (.cells fr0.cs.toArray 37)).setRow w.heap.size f.cs.toArray) pb net L all F ∧ Var ((w.alloc (.cells fr0.cs.toArray 37)).setRow w.heap.size f.cs.toArray) F w.heap.size f ∧ Kept w ((w.alloc (.cells fr0.cs.toArray 37)).setRow w.heap.size f.cs.toArray) (fun _ => False) ∧
      ((w.alloc (.cells fr0.cs.toArray 37)).setRow w.heap.size f.cs.toArray).heap.size = w.heap.size + 1 := by
  have q : Kept w ((w.alloc (.cells fr0.cs.toArray 37)).setRow w.heap.size f.cs.toArray) (fun _ => False) := (Kept.alloc w _ (fun _ => False)).trans (Kept.setRow _ w.heap.size _ (F := fun b => b = w.heap.size) rfl) (fun _ _ h => h) (fun k hk h => by omega)
  exact ⟨h.kept q (fun _ _ h => h), ⟨setRow_heap _ _ _ _ 37 _ (heap_alloc_new _ _), fun hb => by have := h.lt hb; omega⟩, q, by simp⟩
theorem Own.take_ {w : World} {pb : Nat} {net : Bool} {L : List Ent} {all : Nat} {F : Nat → Prop} (h : Own w pb net L all F) (hy : all < 1000000) (dir : Int) (f : Fr) {ns : List Nt} {L' : List Ent} {all' : Nat} (hst : step net L all dir f = (ns, L', all')) :
    Calls Tryz.prog 17 #[.pointer (some ⟨pb, 0, none⟩), .int .i64 dir, .agg f.cs.toArray] w fun r w' => ∃ v F', r = .returned v ∧ Own w' pb net L' all' F' ∧ Res w' F' v ns ∧ (∀ b, F' b → F b ∨ w.heap.size ≤ b) ∧ Kept w w' F := by
  have := h.take hy dir f
  rw [hst] at this
  exact this
theorem Res.one {w : World} {F : Nat → Prop} {v : Value} {n : Nt} (h : Res w F v [n]) : ∃ g cap, v = .slice (some ⟨g, 0, none⟩) 1 cap ∧ some g = v.ownBlock ∧ ∀ j u, n.cs[j]? = some u → w.cell? ⟨g, j, none⟩ = some u := by
  obtain ⟨g, cap, hv, ho, hc⟩ := h.cells (by simp)
  exact ⟨g, cap, hv, ho, fun j u hu => by have := hc 0 n j u rfl hu; rwa [Nat.zero_mul, Nat.zero_add] at this⟩
end Go.Proofs.YtmbjlondehcheaaGreatDoor
end
section
set_option linter.unusedSimpArgs false
set_option linter.unusedVariables false
namespace Go.Proofs.YtmbjlondehcheaaGreatDoor
open Go.Shelf Go.RowKit Go.Lib Go.Sort Go.Proofs.YtmbjlondehcheaaGreatDoorW.PrintWords Go.Proofs.YtmbjlondehcheaaGreatDoorW.PrintLast Go.Proofs.YtmbjlondehcheaaGreatDoor.PTopTalk
abbrev ics (s0 s1 pb : Nat) (n : Int) : Array Value := #[.pointer (some ⟨s0, 0, none⟩), .pointer (some ⟨s1, 0, none⟩), .pointer (some ⟨pb, 0, none⟩), .int .i64 n]
structure InspI (ty T : Nat) (cs : Int → Array Value) (net : Bool) (w : World) (ib s0 b0 s1 b1 pb : Nat) (F : Nat → Prop) (L : List Ent) (all : Nat) (n : Int) : Prop where
  box : w.heap[ib]? = some (.cells (ics s0 s1 pb n) 64 (0, 0))
  i0 : StrI ty T (cs 0) w s0 b0
  i1 : StrI ty T (cs 1) w s1 b1
  own : Own w pb net L all F
  n0 : s0 ≠ b0 ∧ s0 ≠ b1 ∧ s1 ≠ b0 ∧ s1 ≠ b1 ∧ b0 ≠ b1
  ni : ib ≠ s0 ∧ ib ≠ s1 ∧ ib ≠ b0 ∧ ib ≠ b1
  nf : ¬ F ib ∧ ¬ F s0 ∧ ¬ F s1 ∧ ¬ F b0 ∧ ¬ F b1
theorem StrI.kept {ty T : Nat} {cs : Array Value} {w w' : World} {s b : Nat} {F : Nat → Prop} (h : StrI ty T cs w s b) (k : Kept w w' F) (h1 : ¬ F s) (h2 : ¬ F b) : StrI ty T cs w' s b := ⟨k.heap h.box h1, k.heap h.str h2⟩
abbrev nics (pb : Nat) : Array Value := #[.pointer none, .pointer none, .pointer (some ⟨pb, 0, none⟩), .int .i64 0]
def NewJ (ty T : Nat) (cs : Int → Array Value) (pb : Nat) (w2 wr : World) (ib : Nat) : Nat → Prop
  | 0 => wr.heap[ib]? = some (.cells (nics pb) 64 (0, 0)) ∧ Kept w2 wr (fun b => b = ib)
  | 1 => ∃ s0 b0, wr.heap[ib]? = some (.cells #[.pointer (some ⟨s0, 0, none⟩), .pointer none, .pointer (some ⟨pb, 0, none⟩), .int .i64 0] 64 (0, 0)) ∧ StrI ty T (cs 0) wr s0 b0 ∧ w2.heap.size ≤ s0 ∧ w2.heap.size ≤ b0 ∧ s0 ≠ b0 ∧ Kept w2 wr (fun b => b = ib)
  | _ => ∃ s0 b0 s1 b1, wr.heap[ib]? = some (.cells (ics s0 s1 pb 0) 64 (0, 0)) ∧ StrI ty T (cs 0) wr s0 b0 ∧ StrI ty T (cs 1) wr s1 b1 ∧ w2.heap.size ≤ s0 ∧ w2.heap.size ≤ b0 ∧ w2.heap.size ≤ s1 ∧ w2.heap.size ≤ b1 ∧ (s0 ≠ b0 ∧ s0 ≠ b1 ∧ s1 ≠ b0 ∧ s1 ≠ b1 ∧ b0 ≠ b1) ∧ Kept w2 wr (fun b => b = ib)
theorem NewJ.go0 {ty T : Nat} {cs : Int → Array Value} {pb : Nat} {w2 wr w6 : World} {ib st0 b0 : Nat} (h : NewJ ty T cs pb w2 wr ib 0) (hib : ib < w2.heap.size) (k : Kept wr w6 (fun _ => False)) (hI : StrI ty T (cs 0) w6 st0 b0) (hb : wr.heap.size ≤ b0) (hs : wr.heap.size ≤ st0) (hn : st0 ≠ b0) :
    NewJ ty T cs pb w2 (w6.setCell ⟨ib, 0, none⟩ (.pointer (some ⟨st0, 0, none⟩))) ib 1 := by
  obtain ⟨h1, k1⟩ := h
  have q := Kept.setCell w6 ib 0 (.pointer (some ⟨st0, 0, none⟩)) (F := fun b => b = ib) rfl
  have := k1.size
  exact ⟨st0, b0, setCell_row (k.heap h1 (fun h => h)), hI.kept q (by omega) (by omega), by omega, by omega, hn, (k1.trans k (H := fun b => b = ib) (fun _ _ h => h) (fun _ _ h => h.elim)).trans q (fun _ _ h => h) (fun _ _ h => h)⟩
theorem NewJ.go1 {ty T : Nat} {cs : Int → Array Value} {pb : Nat} {w2 wr w6 : World} {ib st1 b1 : Nat} (h : NewJ ty T cs pb w2 wr ib 1) (hib : ib < w2.heap.size) (k : Kept wr w6 (fun _ => False)) (hI : StrI ty T (cs 1) w6 st1 b1) (hb : wr.heap.size ≤ b1) (hs : wr.heap.size ≤ st1) (hn : st1 ≠ b1) :
    NewJ ty T cs pb w2 (w6.setCell ⟨ib, 1, none⟩ (.pointer (some ⟨st1, 0, none⟩))) ib 2 := by
  obtain ⟨s0, b0, h1, h2, h3, h4, h5, k1⟩ := h
  have q := Kept.setCell w6 ib 1 (.pointer (some ⟨st1, 0, none⟩)) (F := fun b => b = ib) rfl
  have := k1.size
  have := heap_lt h2.box
  have := heap_lt h2.str
  exact ⟨s0, b0, st1, b1, setCell_row (k.heap h1 (fun h => h)), (h2.kept k (fun h => h) (fun h => h)).kept q (by omega) (by omega), hI.kept q (by omega) (by omega), h3, h4, by omega, by omega, ⟨h5, by omega, by omega, hn, by omega⟩, (k1.trans k (H := fun b => b = ib) (fun _ _ h => h) (fun _ _ h => h.elim)).trans q (fun _ _ h => h) (fun _ _ h => h)⟩
set_option maxHeartbeats 1000000 in
set_option maxRecDepth 1000000 in
theorem inspNew {k : Int} (hk : k = 0 ∨ k = 1 ∨ k = 2) {ty T : Nat} {cs : Int → Array Value} (hN : ∀ dir : Int, dir = 0 ∨ dir = 1 → ∀ w : World, Calls Tryz.prog 14 #[.int .i64 k, .int .i64 dir] w fun r w' => ∃ stb sb, r = .returned (.pointer (some ⟨stb, 0, none⟩)) ∧ StrI ty T (cs dir) w' stb sb ∧ w.heap.size ≤ sb ∧ w.heap.size ≤ stb ∧ stb ≠ sb ∧ Kept w w' (fun _ => False)) (w : World) :
    Calls Tryz.prog 5 #[.int .i64 k] w fun r w' => ∃ ib s0 b0 s1 b1 pb F, r = .returned (.pointer (some ⟨ib, 0, none⟩)) ∧ InspI ty T cs (decide (k = 2)) w' ib s0 b0 s1 b1 pb F [] 0 0 ∧ w.heap.size ≤ ib ∧ w.heap.size ≤ b0 ∧ w.heap.size ≤ b1 ∧ (∀ b, F b → w.heap.size ≤ b) ∧ Kept w w' (fun _ => False) := by
  have hc := new_calls k hk w
  have HK : Aside0 _ := ⟨hk⟩
  clear hk
  go_enter Tryz.func5, Tryz.ntmps5
  go_upto_region 4 with (first
    | (go_at_call 13; with_reducible refine hc.mono ?_; rintro e w1 ⟨pb, F, rfl, hO, hF, k1⟩; clear hc))
  have HO : Aside0 _ := ⟨And.intro hO (And.intro hF k1)⟩
  have hlt : ∀ b, F b → b < w1.heap.size := fun b => hO.lt
  have HL : Aside0 _ := ⟨hlt⟩
  clear hO hF k1 hlt
  go_upto_region 5 with fail
  have f2 := heap_alloc_new w1 (.cells #[.pointer none, .pointer none, .pointer (some ⟨pb, 0, none⟩), .int .i64 0] 64)
  have q2 := Kept.alloc w1 (.cells #[.pointer none, .pointer none, .pointer (some ⟨pb, 0, none⟩), .int .i64 0] 64) (fun _ => False)
  generalize w1.alloc (.cells #[.pointer none, .pointer none, .pointer (some ⟨pb, 0, none⟩), .int .i64 0] 64) = w2 at *
  obtain ⟨ib, hib⟩ : ∃ ib, w1.heap.size = ib := ⟨_, rfl⟩
  rw [hib] at f2
  have Q2 : Aside0 _ := ⟨And.intro q2 (And.intro f2 hib)⟩
  rw [hib]
  clear q2 f2 hib
  go_wp2
  go_loopg [13] 2 (fun kx s13 wr => (s13 = .int .i64 0 ∧ 2 ≤ kx ∧ Aside0 (NewJ ty T cs pb w2 wr ib 0)) ∨ (s13 = .int .i64 1 ∧ 1 ≤ kx ∧ Aside0 (NewJ ty T cs pb w2 wr ib 1)) ∨ (s13 = .int .i64 2 ∧ Aside0 (NewJ ty T cs pb w2 wr ib 2)))
  case atStart => exact .inl ⟨rfl, by omega, ⟨Q2.out.2.1, Kept.refl _ _⟩⟩
  case round =>
    rcases hrel with ⟨rfl, hkx, D⟩ | ⟨rfl, hkx, D⟩ | ⟨rfl, D⟩
    · go_upto_region 8 with fail
      have hrow := D.out.1
      have S0 := Kept.drew wr (fun _ => False)
      refine st 9 (fun w' => Kept wr w' (fun _ => False)) [8] S0 ?_
      refine pu 0 (some 16) (mk 9 1) ?_
      refine pu 1 (some 17) (mk 9 3) ?_
      refine pu 2 (some 18) (mk 9 7) ?_
      refine pu 3 (some 19) (mk 9 15) ?_
      refine pu 5 (some 21) (mk 9 47) ?_
      refine pu 6 (some 22) (mk 9 111) ?_
      refine cl 4 (some 20) (mk 9 127) Tryz.func14 (args := #[.int .i64 k, .int .i64 0]) (hN 0 (.inl rfl) _) ?_
      rintro e w6 ⟨st0, b0, rfl, hI0, hb0, hs0, hn0, k6⟩
      have S1 := S0.trans k6 (H := fun _ => False) (fun _ _ h => h) (fun _ _ h => h)
      refine ⟨_, rfl, S1, nm ?_⟩
      refine pu 7 (some 23) (mk 9 255) ?_
      refine la 8 none (mk 9 511) fun K hK => ?_
      refine wp_store_cell 61 (.tmp 23) (.tmp 20) rfl ib 0 (.pointer (some ⟨st0, 0, none⟩)) rfl rfl rfl 64 (nics pb) (S1.heap hrow (fun h => h)) (show 0 < 4 by decide) (by kernel_rfl) ?_
      refine hK _ _ (nm ?_)
      clear hK K
      refine done_ (by kernel_rfl) ?_
      have D2 : Aside0 (NewJ ty T cs pb w2 (w6.setCell ⟨ib, 0, none⟩ (.pointer (some ⟨st0, 0, none⟩))) ib 1) := ⟨D.out.go0 (heap_lt Q2.out.2.1) S1 hI0 hb0 hs0 hn0⟩
      clear S0 S1 k6 hrow hI0 hb0 hs0 hn0 D
      generalize w6.setCell ⟨ib, 0, none⟩ (.pointer (some ⟨st0, 0, none⟩)) = w7 at *
      go_wp2
      go_roundg 1
      · exact .inr (.inl ⟨rfl, by omega, D2⟩)
      · exact hkx
    · go_upto_region 8 with fail
      obtain ⟨st0, b0, hrow, -⟩ := id D.out
      have S0 := Kept.drew wr (fun _ => False)
      refine st 9 (fun w' => Kept wr w' (fun _ => False)) [8] S0 ?_
      refine pu 0 (some 16) (mk 9 1) ?_
      refine pu 1 (some 17) (mk 9 3) ?_
      refine pu 2 (some 18) (mk 9 7) ?_
      refine pu 3 (some 19) (mk 9 15) ?_
      refine pu 5 (some 21) (mk 9 47) ?_
      refine pu 6 (some 22) (mk 9 111) ?_
      refine cl 4 (some 20) (mk 9 127) Tryz.func14 (args := #[.int .i64 k, .int .i64 1]) (hN 1 (.inr rfl) _) ?_
      rintro e w6 ⟨st1, b1, rfl, hI1, hb1, hs1, hn1, k6⟩
      have S1 := S0.trans k6 (H := fun _ => False) (fun _ _ h => h) (fun _ _ h => h)
      refine ⟨_, rfl, S1, nm ?_⟩
      refine pu 7 (some 23) (mk 9 255) ?_
      refine la 8 none (mk 9 511) fun K hK => ?_
      refine wp_store_cell 61 (.tmp 23) (.tmp 20) rfl ib 1 (.pointer (some ⟨st1, 0, none⟩)) rfl rfl rfl 64 #[.pointer (some ⟨st0, 0, none⟩), .pointer none, .pointer (some ⟨pb, 0, none⟩), .int .i64 0] (S1.heap hrow (fun h => h)) (show 1 < 4 by decide) (by kernel_rfl) ?_
      refine hK _ _ (nm ?_)
      clear hK K
      refine done_ (by kernel_rfl) ?_
      have D2 : Aside0 (NewJ ty T cs pb w2 (w6.setCell ⟨ib, 1, none⟩ (.pointer (some ⟨st1, 0, none⟩))) ib 2) := ⟨D.out.go1 (heap_lt Q2.out.2.1) S1 hI1 hb1 hs1 hn1⟩
      clear S0 S1 k6 hrow hI1 hb1 hs1 hn1 D
      generalize w6.setCell ⟨ib, 1, none⟩ (.pointer (some ⟨st1, 0, none⟩)) = w7 at *
      go_wp2
      go_roundg 0
      · exact .inr (.inr ⟨rfl, D2⟩)
      · exact hkx
    · go_wp2
      go_ret
      obtain ⟨s0, b0, s1, b1, h1, h2, h3, h4, h5, h6, h7, h8, k7⟩ := D.out
      obtain ⟨q2, f2, hib⟩ := Q2.out
      obtain ⟨hO, hF, k1⟩ := HO.out
      have e1 := q2.size
      have e2 := k1.size
      have e3 := heap_lt f2
      have hFl := HL.out
      have KK := (k1.trans q2 (H := fun _ => False) (fun _ _ h => h) (fun _ _ h => h)).trans k7 (H := fun _ => False) (fun _ _ h => h) (fun b hb h => by omega)
      refine ⟨ib, s0, b0, s1, b1, pb, F, rfl, ⟨h1, h2, h3, (hO.kept q2 (fun _ _ h => h)).kept k7 (fun b hb e => by have := hFl b hb; omega), h8, ⟨by omega, by omega, by omega, by omega⟩, ⟨fun h => by have := hFl _ h; omega, fun h => by have := hFl _ h; omega, fun h => by have := hFl _ h; omega, fun h => by have := hFl _ h; omega, fun h => by have := hFl _ h; omega⟩⟩, by omega, by omega, by omega, hF, KK⟩
end Go.Proofs.YtmbjlondehcheaaGreatDoor
end
section
set_option linter.unusedSimpArgs false
set_option linter.unusedVariables false
namespace Go.Proofs.YtmbjlondehcheaaGreatDoor
open Go.Shelf Go.RowKit Go.Lib Go.Sort Go.Proofs.YtmbjlondehcheaaGreatDoorW.PrintWords Go.Proofs.YtmbjlondehcheaaGreatDoorW.PrintLast Go.Proofs.YtmbjlondehcheaaGreatDoor.PTopTalk
abbrev nrow (n dir u t : Int) (ds : List Value) (v : Value) : List Value := .int .i64 n :: .int .i64 dir :: (pcl u t ds ++ [v])
set_option maxRecDepth 100000 in
theorem built50' (n dir u t : Int) (d0 d1 d2 d3 d4 d5 d6 d7 d8 d9 d10 d11 d12 d13 d14 d15 d16 d17 d18 d19 d20 d21 : Value) : Tryz.prog.built 50 [(0, .int .i64 n), (1, .int .i64 dir), (2, .agg (pcl u t [d0, d1, d2, d3, d4, d5, d6, d7, d8, d9, d10, d11, d12, d13, d14, d15, d16, d17, d18, d19, d20, d21]).toArray)] = some (nrow n dir u t [d0, d1, d2, d3, d4, d5, d6, d7, d8, d9, d10, d11, d12, d13, d14, d15, d16, d17, d18, d19, d20, d21] (.slice none 0 0)).toArray := by kernel_rfl
theorem built50 (n dir u t : Int) (ds : List Value) (h : ds.toArray.size = 22) : Tryz.prog.built 50 [(0, .int .i64 n), (1, .int .i64 dir), (2, .agg (pcl u t ds).toArray)] = some (nrow n dir u t ds (.slice none 0 0)).toArray := by
  have h' : ds.length = 22 := by simpa using h
  obtain ⟨d0, d1, d2, d3, d4, d5, d6, d7, d8, d9, d10, d11, d12, d13, d14, d15, d16, d17, d18, d19, d20, d21, rfl⟩ := list22 ds h'
  exact built50' n dir u t d0 d1 d2 d3 d4 d5 d6 d7 d8 d9 d10 d11 d12 d13 d14 d15 d16 d17 d18 d19 d20 d21
theorem zero50 (w : World) : (zeroValue 50).run Tryz.prog w = .ok (.agg (nrow 0 0 0 0 (cs35 0) (.slice none 0 0)).toArray) w := by kernel_rfl
theorem wp_alloc50 {a : Act} {w : World} {K : Act → World → Prop} {Q : Exit → Act → World → Prop} {op : Oper} (ho : op.op = .alloc 50) (h : K (a.put op.dst (.pointer (some ⟨w.heap.size, 0, none⟩))) (w.alloc (.cells (nrow 0 0 0 0 (cs35 0) (.slice none 0 0)).toArray 50))) : op.wp Tryz.prog a w K Q := by
  unfold Oper.wp execOp
  simp [ho, go_sem, zero50]
  exact h
theorem info50 : ∃ ie z, Tryz.prog.info? 50 = some ie ∧ ie.zero = some z ∧ ie.size = 28 ∧ z.cells.size = 28 ∧ ie.bytes = 208 := by
  have h : ((Tryz.prog.info? 50).bind fun ie => ie.zero.map fun z => (ie.size, z.cells.size, ie.bytes)) = some (28, 28, 208) := by kernel_rfl
  cases hi : Tryz.prog.info? 50 with
  | none => rw [hi] at h; cases h
  | some ie =>
    rw [hi] at h
    cases hz : ie.zero with
    | none => simp [hz] at h
    | some z => simp [hz] at h; exact ⟨ie, z, rfl, hz, h.1, h.2.1, h.2.2⟩
theorem nrow_len {n dir u t : Int} {ds : List Value} {v : Value} (h : ds.toArray.size = 22) : (nrow n dir u t ds v).length = 28 := by simp at h; simp [h]
theorem nrow_one {n dir u t : Int} {ds : List Value} {v : Value} (h : ds.toArray.all (·.oneCell') = true) (hv : v.oneCell' = true) : ∀ y ∈ nrow n dir u t ds v, y.oneCell' = true := fun y hy => by
  rcases List.mem_cons.1 hy with rfl | hy
  · rfl
  rcases List.mem_cons.1 hy with rfl | hy
  · rfl
  rcases List.mem_append.1 hy with hy | hy
  · exact pcl_one h y hy
  · rw [List.mem_singleton.1 hy]; exact hv
theorem size50 {n dir u t : Int} {ds : List Value} {v : Value} (h : ds.toArray.size = 22) : (Tryz.prog.info? 50).map (·.size) = some (nrow n dir u t ds v).toArray.size := by
  have h3 : (Tryz.prog.info? 50).map (·.size) = some 28 := by kernel_rfl
  exact h3.trans (congrArg some (by rw [List.size_toArray, nrow_len h]))
theorem size47 {u t : Int} {ds : List Value} (h : ds.toArray.size = 22) : (Tryz.prog.info? 47).map (·.size) = some (pcl u t ds).length := by
  have h3 : (Tryz.prog.info? 47).map (·.size) = some 25 := by kernel_rfl
  exact h3.trans (congrArg some (pcl_len h).symm)
theorem lit_nt50 (w : World) {cs : List Value} (h : cs.length = 28) : (Instr.buildSlice 42 1 #[(0, .agg cs.toArray)]).run Tryz.prog w = .ok (.slice (some ⟨w.heap.size, 0, none⟩) 1 1) (w.alloc (.cells cs.toArray 50)) := by
  obtain ⟨ie, z, h1, h2, h3, h4, _⟩ := info50
  exact run_lit1 w 42 50 cs ie z 28 Tryz.underlying42 h1 h2 h3 h4 h (by omega) (by omega)
theorem note_app (W : World) (g c : Nat) {cs : List Value} (hl : cs.length = 28) (hone : ∀ v ∈ cs, v.oneCell' = true) (hg : W.ownsRow 0 50 28 (.slice (some ⟨g, 0, none⟩) 1 c) 1 cs) (ty : TypeId) :
    ∃ g2 c2 w2, (Builtin.append_ #[42, 42] ty #[.slice none 0 0, .slice (some ⟨g, 0, none⟩) 1 c]).run Tryz.prog W = .ok (.slice (some ⟨g2, 0, none⟩) 1 c2) w2 ∧ w2.rangeAt g2 0 cs ∧ W.heap.size ≤ g2 ∧ Kept W w2 (fun _ => False) := by
  obtain ⟨ie, z, h1, h2, h3, h4, h5⟩ := info50
  obtain ⟨v', w2, q1, q2, q3, _, q5⟩ := run_append_own_at (P := Tryz.prog) W 0 42 ty 50 ie z 28 208 Tryz.underlying42 h1 h2 h3 h5 h4 (by omega) (.slice none 0 0) 0 [] (World.ownsRow_nil _ _ _ _) ⟨g, 0, none⟩ 1 c cs hl (hg.cells (g := g) rfl) hone (by unfold maxLen; omega) (by omega) (Nat.zero_le _)
  obtain ⟨g2, c2, rfl⟩ := row_form q2
  refine ⟨g2, c2, w2, q1, fun j u hu => ?_, ?_, Kept.grown q3 (fun b hb => by simp [Value.ownBlock] at hb)⟩
  · have := q2.cells (g := g2) rfl j u (by simpa using hu)
    rwa [Addr.add_mid] at this
  · rcases q5 with e | e
    · simp [Value.ownBlock] at e
    · simp [Value.ownBlock] at e; omega
theorem fr_Fr {u t : Int} {ds : List Value} {x : S35} {w : World} (hK : k35.K w x ds) (hu : 0 ≤ u ∧ u < 256) (ht : 0 ≤ t ∧ t < 65536) (hc : 0 ≤ x.f0 ∧ x.f0 < 256) : ∃ f : Fr, f.cs = fr u t ds ∧ f.u = u ∧ f.t = t ∧ f.c = x.f0 := by
  have hone := k35.K_one hK
  obtain ⟨A12, c12, A13, c13, A14, c14, A15, c15, A21, c21, e, -⟩ := k35_open hK
  refine ⟨⟨u, t, x.f0, fun i => ds.getD (i + 1) (.int .u8 0), hu, ht, hc, fun i => ?_⟩, by subst e; rfl, rfl, rfl, rfl⟩
  rw [List.getD_eq_getElem?_getD]
  cases e : ds[i + 1]? with
  | none => rfl
  | some y => exact hone y (List.mem_of_getElem? e)
theorem Res.ty {w : World} {F : Nat → Prop} {v : Value} {ns : List Nt} (h : Res w F v ns) {g : Nat} (hg : some g = v.ownBlock) : ∃ cs, w.heap[g]? = some (.cells cs 52 (0, 0)) := by
  rcases h.row.2 with ⟨e, _⟩ | ⟨g', cap, cur, e, _, hh, _⟩
  · rw [e] at hg; simp [Value.ownBlock] at hg
  · rw [e] at hg; simp [Value.ownBlock] at hg; rw [hg]; exact ⟨cur, hh⟩
theorem nrow_set {n dir u t : Int} {ds : List Value} (h : ds.toArray.size = 22) (a v : Value) : (nrow n dir u t ds a).toArray.setIfInBounds 27 v = (nrow n dir u t ds v).toArray := by
  have h' : ds.length = 22 := by simpa using h
  obtain ⟨d0, d1, d2, d3, d4, d5, d6, d7, d8, d9, d10, d11, d12, d13, d14, d15, d16, d17, d18, d19, d20, d21, rfl⟩ := list22 ds h'
  rfl
theorem owns_oneCell {w : World} {b : Nat} {e : TypeId} {k : Nat} {v : Value} {n : Nat} {xs : List Value} (h : w.ownsRow b e k v n xs) : v.oneCell' = true := by
  rcases h.2 with ⟨e, _⟩ | ⟨g, cap, cur, e, _⟩ <;> rw [e] <;> rfl
structure Noted (ty T : Nat) (cs : Int → Array Value) (net : Bool) (w w' : World) (ib s0 b0 s1 b1 pb : Nat) (F : Nat → Prop) (L : List Ent) (all : Nat) (n : Nat) (dir : Int) (bd : Nat) (u t : Int) (x : S35) (s : Value) : Prop where
  out : ∃ (ds : List Value) (f : Fr) (g c m : Nat) (vn : Value) (F' : Nat → Prop), s = .slice (some ⟨g, 0, none⟩) 1 c ∧ (f.cs = fr u t ds ∧ f.u = u ∧ f.t = t ∧ f.c = x.f0) ∧ InspI ty T cs net w' ib s0 b0 s1 b1 pb F' (step net L all dir f).2.1 (step net L all dir f).2.2 ((n : Int) + 1) ∧
    w'.rangeAt g 0 (nrow n dir u t ds vn) ∧ w.heap.size ≤ g ∧ ¬ F' g ∧ Res w' F' vn (step net L all dir f).1 ∧ (∀ b, F' b → F b ∨ m ≤ b) ∧ w.heap.size ≤ m ∧ (∀ W, Kept w' W (fun b => b < w.heap.size ∨ m ≤ b) → k35.K W x ds) ∧ Kept w w' (fun b => b = bd ∨ b = ib ∨ F b)
theorem noted_fin {ty T : Nat} {cs : Int → Array Value} {net : Bool} {w w1 w2 w4 w6 : World} {ib s0 b0 s1 b1 pb : Nat} {F F' : Nat → Prop} {L L' : List Ent} {all all' n : Nat} {dir : Int} {sd bd qb : Nat} {u t : Int} {x : S35} {ds : List Value} {f : Fr} {vn : Value} {ns : List Nt}
    (hI : InspI ty T cs net w ib s0 b0 s1 b1 pb F L all n) (hT : T ≠ 52) (hsd : dir = 0 ∧ sd = s0 ∧ bd = b0 ∨ dir = 1 ∧ sd = s1 ∧ bd = b1) (k1 : Kept w w1 (fun _ => False)) (k2 : Kept w1 w2 (fun b => b = bd)) (hS2 : StrI ty T (cs dir) w2 sd bd)
    (hK : ∀ W, Kept w2 W (fun b => b < w1.heap.size) → k35.K W x ds) (hf : f.cs = fr u t ds ∧ f.u = u ∧ f.t = t ∧ f.c = x.f0) (k4 : Kept w2 w4 (fun _ => False)) (hq : w4.heap[qb]? = some (.cells (nrow n dir u t ds (.slice none 0 0)).toArray 50 (0, 0))) (hqb : w2.heap.size ≤ qb)
    (hst : step net L all dir f = (ns, L', all'))
    (hO : Own w6 pb net L' all' F') (hR : Res w6 F' vn ns) (hF' : ∀ b, F' b → F b ∨ (w4.setCell ⟨ib, 3, none⟩ (.int .i64 ((n : Int) + 1))).heap.size ≤ b) (k6 : Kept (w4.setCell ⟨ib, 3, none⟩ (.int .i64 ((n : Int) + 1))) w6 F) :
    (w6.heap[qb]? = some (.cells (nrow n dir u t ds (.slice none 0 0)).toArray 50 (0, 0))) ∧ (w6.setCell ⟨qb, 27, none⟩ vn).heap[qb]? = some (.cells (nrow n dir u t ds vn).toArray 50 (0, 0)) ∧
    ∀ tya, ∃ g c w8, (Builtin.append_ #[42, 42] tya #[.slice none 0 0, .slice (some ⟨(w6.setCell ⟨qb, 27, none⟩ vn).heap.size, 0, none⟩) 1 1]).run Tryz.prog ((w6.setCell ⟨qb, 27, none⟩ vn).alloc (.cells (nrow n dir u t ds vn).toArray 50)) = .ok (.slice (some ⟨g, 0, none⟩) 1 c) w8 ∧ Noted ty T cs net w w8 ib s0 b0 s1 b1 pb F L all n dir bd u t x (.slice (some ⟨g, 0, none⟩) 1 c) := by
  have e1 := k1.size
  have e2 := k2.size
  have e4 := k4.size
  have e6 := k6.size
  have k5 := Kept.setCell w4 ib 3 (.int .i64 ((n : Int) + 1)) (F := fun b => b = ib) rfl
  have hib := heap_lt hI.box
  have hbox : (w4.setCell ⟨ib, 3, none⟩ (.int .i64 ((n : Int) + 1))).heap[ib]? = some (.cells (ics s0 s1 pb ((n : Int) + 1)) 64 (0, 0)) := by
    have : bd ≠ ib := by have := hI.ni; rcases hsd with ⟨_, _, rfl⟩ | ⟨_, _, rfl⟩ <;> omega
    exact setCell_row (k4.heap (k2.heap (k1.heap hI.box (fun h => h)) (fun e => this e.symm)) (fun h => h))
  have hds := cons35 (hK w2 (Kept.refl _ _))
  have hone := all_oneCell_toArray (k35.K_one (hK w2 (Kept.refl _ _)))
  have hFl : ∀ b, F b → b < w.heap.size := fun b => hI.own.lt
  have hs0 := heap_lt hI.i0.box
  have hb0 := heap_lt hI.i0.str
  have hs1 := heap_lt hI.i1.box
  have hb1 := heap_lt hI.i1.str
  obtain ⟨n1, n2, n3, n4⟩ := hI.ni
  obtain ⟨m1, m2, m3, m4, m5⟩ := hI.n0
  obtain ⟨f1, f2, f3, f4, f5⟩ := hI.nf
  obtain ⟨w5, hw5⟩ : ∃ w5, w4.setCell ⟨ib, 3, none⟩ (.int .i64 ((n : Int) + 1)) = w5 := ⟨_, rfl⟩
  rw [hw5] at hbox k5 hF' k6
  have e5 := k5.size
  have e6 := k6.size
  have hq5 := k5.heap hq (by show ¬ qb = ib; omega)
  have hq6 := k6.heap hq5 (fun h => by have := hFl _ h; omega)
  have hq7 : (w6.setCell ⟨qb, 27, none⟩ vn).heap[qb]? = some (.cells (nrow n dir u t ds vn).toArray 50 (0, 0)) := by
    have := setCell_row (i := 27) (v := vn) hq6
    rwa [nrow_set hds] at this
  have k7 := Kept.setCell w6 qb 27 vn (F := fun b => b = qb) rfl
  refine ⟨hq6, hq7, fun tya => ?_⟩
  generalize w6.setCell ⟨qb, 27, none⟩ vn = w7 at *
  have q8 := Kept.alloc w7 (.cells (nrow n dir u t ds vn).toArray 50) (fun _ => False)
  obtain ⟨g, c, w8, ha, hr, hg, k8⟩ := note_app (w7.alloc (.cells (nrow n dir u t ds vn).toArray 50)) w7.heap.size 1 (nrow_len hds) (nrow_one hone (owns_oneCell hR.row)) (one_row w7 (nrow_len hds)) tya
  have k78 := (k7.trans q8 (H := fun b => b = qb) (fun _ _ h => h) (fun _ _ h => h.elim)).trans k8 (H := fun b => b = qb) (fun _ _ h => h) (fun _ _ h => h.elim)
  have e7 := k7.size
  have e8 := q8.size
  have hFn : ∀ b, b < w5.heap.size → ¬ F b → ¬ F' b := fun b h1 h2 h3 => by rcases hF' b h3 with h | h <;> first | exact h2 h | omega
  have hF'l : ∀ b, F' b → b < w6.heap.size := fun b => hO.lt
  have hqF : ¬ F' qb := hFn qb (by have := heap_lt hq5; omega) (fun h => by have := hFl _ h; omega)
  have K15 : Kept w w5 (fun b => b = bd ∨ b = ib) := ((k1.trans k2 (H := fun b => b = bd) (fun _ _ h => h.elim) (fun _ _ h => h)).trans k4 (H := fun b => b = bd) (fun _ _ h => h) (fun _ _ h => h.elim)).trans k5 (fun _ _ h => .inl h) (fun _ _ h => .inr h)
  have K58 : Kept w5 w8 (fun b => F b ∨ b = qb) := k6.trans k78 (fun _ _ h => .inl h) (fun _ _ h => .inr h)
  have KA : Kept w w8 (fun b => b = bd ∨ b = ib ∨ F b) := K15.trans K58 (fun _ _ h => h.elim .inl (fun h => .inr (.inl h))) (fun k hk h => by rcases h with h | h <;> first | exact .inr (.inr h) | omega)
  have K25 : Kept w2 w8 (fun b => b = ib ∨ F b) := (k4.trans k5 (H := fun b => b = ib) (fun _ _ h => h.elim) (fun _ _ h => h)).trans K58 (fun _ _ h => .inl h) (fun k hk h => by rcases h with h | h <;> first | exact .inr h | omega)
  have i0 : StrI ty T (cs 0) w8 s0 b0 := by
    rcases hsd with ⟨rfl, rfl, rfl⟩ | ⟨rfl, rfl, rfl⟩
    · exact hS2.kept K25 (fun h => h.elim (fun h => n1 h.symm) f2) (fun h => h.elim (fun h => n3 h.symm) f4)
    · exact hI.i0.kept KA (fun h => by rcases h with h | h | h <;> first | omega | omega | exact f2 h) (fun h => by rcases h with h | h | h <;> first | omega | omega | exact f4 h)
  have i1 : StrI ty T (cs 1) w8 s1 b1 := by
    rcases hsd with ⟨rfl, rfl, rfl⟩ | ⟨rfl, rfl, rfl⟩
    · exact hI.i1.kept KA (fun h => by rcases h with h | h | h <;> first | omega | omega | exact f3 h) (fun h => by rcases h with h | h | h <;> first | omega | omega | exact f5 h)
    · exact hS2.kept K25 (fun h => h.elim (fun h => n2 h.symm) f3) (fun h => h.elim (fun h => n4 h.symm) f5)
  have hb8 : w8.heap[ib]? = some (.cells (ics s0 s1 pb ((n : Int) + 1)) 64 (0, 0)) := K58.heap hbox (fun h => h.elim f1 (fun h => by omega))
  refine ⟨g, c, w8, ha, ⟨ds, f, g, c, w5.heap.size, vn, F', rfl, hf, ?_, hr, by omega, fun h => by have := hF'l _ h; omega, ?_, hF', by omega, fun W q => hK W ?_, KA⟩⟩
  · rw [hst]
    exact ⟨hb8, i0, i1, hO.kept k78 (fun b hb e => hqF (e ▸ hb)), hI.n0, hI.ni, ⟨hFn _ (by omega) f1, hFn _ (by omega) f2, hFn _ (by omega) f3, hFn _ (by omega) f4, hFn _ (by omega) f5⟩⟩
  · rw [hst]
    refine hR.kept k78 (fun b hb e => ?_) (fun b hb => .inl hb)
    obtain ⟨cc, hcc⟩ := hR.ty hb
    rw [show b = qb from e, hq6] at hcc
    injection hcc with hcc; injection hcc with _ h2 _; exact absurd h2 (by decide)
  · exact K25.trans q (fun k hk h => by rcases h with h | h <;> first | omega | (have := hFl _ h; omega)) (fun k hk h => by rcases h with h | h <;> omega)
end Go.Proofs.YtmbjlondehcheaaGreatDoor
end
