/- (*Pairs).Take: what a frame comes to. -/
import Derived.Test.YtmbjlondehcheaaProg
import Derived.Below
import Derived.OneCell
import Derived.WalkKit
import Derived.KernelRfl
import Derived.RowKit3
import Derived.Deep.LoopGhost
import Derived.Deep.QuietTactic
import Derived.BigQuiet
import Derived.Deep.DeepCutAuto
import Derived.Deep.CutBlock
import Derived.Deep.RegionWith
import Derived.OwnWalk
import Derived.Laws.Tables
import Derived.Laws.AppendOwn
import Derived.Shelf.SlSortCmp.KitK
import Derived.Shelf.RegionOpenPlain
import Derived.Sort.WalkB2
import Derived.Deep.MidRow
import Derived.Great.Walk
import Derived.Test.YtmbjlondehcheaaWWords
import Derived.Test.YtmbjlondehcheaaWLast
import Derived.Laws.StructEq
import Derived.Maps.Own
import Derived.Maps.RangeRun
import Derived.Test.YtmbjlondehcheaaHPairAsks
set_option linter.unusedSimpArgs false
set_option linter.unusedVariables false
namespace Go.Proofs.Ytmbjlondehcheaa
open Go.Shelf Go.RowKit Go.Lib Go.Sort Go.Proofs.YtmbjlondehcheaaW.PrintWords Go.Proofs.YtmbjlondehcheaaW.PrintLast

theorem code_at (f : Fr) : f.cs.toArray[2]? = some (.int .u8 f.c) := by simp [Fr.cs]

/-- What an answer comes to. -/
def ans (net : Bool) (L : List Ent) (all : Nat) (f : Fr) : List Nt × List Ent × Nat :=
  match L.find? (hd (hdOf net L f).1 (hdOf net L f).2) with
  | some e => ([⟨if e.f.c = f.c then 4 else 5, e.f, f⟩], L.eraseP (hd (hdOf net L f).1 (hdOf net L f).2), all)
  | none => ([⟨6, fr0, f⟩], L, all)

/-- What a frame comes to. -/
def step (net : Bool) (L : List Ent) (all : Nat) (dir : Int) (f : Fr) : List Nt × List Ent × Nat :=
  if dir = 0 then ask net L all f else if dir = 1 then ans net L all f else ([], L, all)

theorem fin_one {w W : World} {pb : Nat} {net : Bool} {B : Nat} {S S1 : List Slot} {L : List Ent} {all : Nat} (hP : PS W pb net B S1 L all) (ft : ∀ b, foot pb B S1 b → foot pb B S b ∨ w.heap.size ≤ b) (k : Kept w W (foot pb B S)) (n : Nt) :
    Fin w (W.alloc (.cells n.cs.toArray 55)) pb net B S (.slice (some ⟨W.heap.size, 0, none⟩) 1 1) [n] L all :=
  ⟨one_nt W n, fun g hg => by simp [Value.ownBlock] at hg; have := k.size; omega, ⟨S1, hP.kept (Kept.alloc W _ (fun _ => False)) (fun _ _ h => h), ft⟩, k.trans (Kept.alloc W _ (fun _ => False)) (fun _ _ h => h) (fun _ _ h => h.elim)⟩

/-- What stands behind take: the answer's frame still there, the taken one's laid anew. -/
theorem take_end {w w1 w2 w3 : World} {pb : Nat} {net : Bool} {B : Nat} {S S3 : List Slot} {L L3 : List Ent} {all : Nat} {f : Fr} (k1 : Kept w w1 (fun _ => False)) (F1 : w1.heap[w.heap.size]? = some (.cells f.cs.toArray 44 (0, 0))) (P1 : PS w1 pb net B S L all) (k2 : Kept w1 w2 (fun _ => False))
    (P3 : PS w3 pb net B S3 L3 all) (ft3 : ∀ b, foot pb B S3 b → foot pb B S b ∨ w2.heap.size ≤ b) (k3 : Kept w2 w3 (foot pb B S)) (y : Fr) :
    ∃ w4, w4 = (w3.alloc (.cells fr0.cs.toArray 44)).setRow w3.heap.size y.cs.toArray ∧ w4.heap[w3.heap.size]? = some (.cells y.cs.toArray 44 (0, 0)) ∧ w4.heap[w.heap.size]? = some (.cells f.cs.toArray 44 (0, 0)) ∧
      ∀ n : Nt, Fin w (w4.alloc (.cells n.cs.toArray 55)) pb net B S (.slice (some ⟨w4.heap.size, 0, none⟩) 1 1) [n] L3 all := by
  have P2 := P1.kept k2 (fun _ _ h => h)
  have F2 := k2.heap F1 (fun h => h)
  have F3 := k3.heap F2 (P2.not_foot F2 (by decide))
  have q : Kept w3 ((w3.alloc (.cells fr0.cs.toArray 44)).setRow w3.heap.size y.cs.toArray) (fun _ => False) := (Kept.alloc w3 _ (fun _ => False)).trans (Kept.setRow _ w3.heap.size _ (F := fun b => b = w3.heap.size) rfl) (fun _ _ h => h) (fun k hk h => by omega)
  have s1 := k1.size
  have s2 := k2.size
  exact ⟨_, rfl, setRow_heap _ _ _ _ 44 _ (heap_alloc_new _ _), q.heap F3 (fun h => h), fun n => fin_one (P3.kept q (fun _ _ h => h)) (fun b hb => by
    rcases ft3 b hb with h | h
    · exact .inl h
    · exact .inr (by omega)) (((k1.trans k2 (fun _ _ h => h) (fun _ _ h => h)).trans k3 (fun _ _ h => h.elim) (fun _ _ h => h)).trans q (fun _ _ h => h) (fun _ _ h => h.elim)) n⟩

set_option maxHeartbeats 400000 in
set_option maxRecDepth 1000000 in
theorem Take_calls (w : World) (pb : Nat) (net : Bool) (B : Nat) (S : List Slot) (L : List Ent) (all : Nat) (dir : Int) (f : Fr) (hP : PS w pb net B S L all) (h1 : net = false → L.length ≤ 1) (hy : all < 1000000) :
    Calls Try.prog 12 #[.pointer (some ⟨pb, 0, none⟩), .int .i64 dir, .agg f.cs.toArray] w fun r w' => ∃ v, r = .returned v ∧ Fin w w' pb net B S v (step net L all dir f).1 (step net L all dir f).2.1 (step net L all dir f).2.2 := by
  have k1 : Kept w (w.alloc (.cells f.cs.toArray 44)) (fun _ => False) := Kept.alloc w _ _
  have F1 : (w.alloc (.cells f.cs.toArray 44)).heap[w.heap.size]? = some (.cells f.cs.toArray 44 (0, 0)) := heap_alloc_new _ _
  have P1 := hP.kept k1 (fun _ _ h => h)
  have hs1 : (w.alloc (.cells f.cs.toArray 44)).heap.size = w.heap.size + 1 := by simp
  have SZ44 := size44 f.cs.toArray rfl
  by_cases h0 : dir = 0
  · subst h0
    have hst : step net L all 0 f = ask net L all f := rfl
    rw [hst]
    have hask := asks_calls (w.alloc (.cells f.cs.toArray 44)) pb net B S L all f P1 h1 hy
    have FIN : Aside0 (∀ v w', Fin (w.alloc (.cells f.cs.toArray 44)) w' pb net B S v (ask net L all f).1 (ask net L all f).2.1 (ask net L all f).2.2 → Fin w w' pb net B S v (ask net L all f).1 (ask net L all f).2.1 (ask net L all f).2.2) := ⟨fun v w' h =>
      ⟨h.row, fun g hg => by have := h.new g hg; omega, (by
        obtain ⟨S', a, b⟩ := h.ps
        exact ⟨S', a, fun x hx => by
          rcases b x hx with h' | h'
          · exact .inl h'
          · exact .inr (by omega)⟩), k1.trans h.kept (fun _ _ h => h.elim) (fun _ _ h => h)⟩⟩
    clear P1 hP hst hs1 k1
    go_enter Try.func12, Try.ntmps12
    go_wp2_with (first
      | (refine wpList_load_row rfl 44 (.tmp 5) rfl w.heap.size rfl 44 f.cs.toArray (0, 0) _ F1 Try.underlying44 rfl SZ44 ?_)
      | (go_at_call 19; with_reducible refine hask.mono ?_; rintro e w3 ⟨v, rfl, hF⟩))
    go_ret
    exact ⟨_, rfl, FIN.out _ _ hF⟩
  by_cases hd1 : dir = 1
  · subst hd1
    have hst : step net L all 1 f = ans net L all f := by simp [step]
    rw [hst]
    have hhead := head_calls (w.alloc (.cells f.cs.toArray 44)) pb net B S L all f P1
    have htake : ∀ W, Kept (w.alloc (.cells f.cs.toArray 44)) W (fun _ => False) → _ := fun W k2 => take_calls W pb net B S L all (hdOf net L f).1 (hdOf net L f).2 (P1.kept k2 (fun _ _ h => h))
    have HT : Aside0 _ := ⟨htake⟩
    have END : Aside0 (∀ w2 w3 S3 L3, _ → _ → _ → _ → _) := ⟨fun w2 w3 S3 L3 k2 P3 ft3 k3 => take_end (w2 := w2) (w3 := w3) (S3 := S3) (L3 := L3) k1 F1 P1 k2 P3 ft3 k3 (tk L (hdOf net L f).1 (hdOf net L f).2)⟩
    obtain ⟨hu, hu'⟩ : ∃ x, x = (hdOf net L f).1 := ⟨_, rfl⟩
    obtain ⟨ht, ht'⟩ : ∃ x, x = (hdOf net L f).2 := ⟨_, rfl⟩
    have hans : ans net L all f = match L.find? (hd hu ht) with | some e => ([⟨if e.f.c = f.c then 4 else 5, e.f, f⟩], L.eraseP (hd hu ht), all) | none => ([⟨6, fr0, f⟩], L, all) := by rw [hu', ht']; rfl
    rw [hans]
    rw [← hu', ← ht'] at hhead HT END
    have SZY := size44 (tk L hu ht).cs.toArray rfl
    have ONEY := all_oneCell_toArray (tk L hu ht).one
    have hzc : fr0.cs.toArray.size = (tk L hu ht).cs.toArray.size := rfl
    have hz := fr0_zero
    clear htake P1 hP hst hs1 k1 hans hu' ht' h0 h1 hy
    cases hf : L.find? (hd hu ht) with
    | none =>
      have he : L.eraseP (hd hu ht) = L := by
        rw [List.eraseP_of_forall_not]
        rw [List.find?_eq_none] at hf
        exact hf
      rw [hf, he] at HT
      simp only [Option.isSome_none] at HT
      clear hf he
      generalize tk L hu ht = y at *
      go_enter Try.func12, Try.ntmps12
      go_wp2_with (first
        | (have q5 := SZ44; refine wpList_load_row rfl 44 (.tmp 5) rfl w.heap.size rfl 44 f.cs.toArray (0, 0) _ F1 Try.underlying44 rfl SZ44 ?_)
        | (go_at_call 21; with_reducible refine hhead.mono ?_; rintro e w2 ⟨rfl, k2⟩; have htk := HT.out w2 k2)
        | (go_at_call 20; with_reducible refine htk.mono ?_; rintro e w3 ⟨S3, rfl, P3, ft3, k3⟩; obtain ⟨w4, hw4, f7, f5, hfin⟩ := END.out w2 w3 S3 _ k2 P3 ft3 k3; have HW4 : Aside0 _ := ⟨hw4⟩; have HF : Aside0 _ := ⟨hfin ⟨6, fr0, f⟩⟩; clear hw4 hfin htk HT END F1)
        | (have q5 := hzc; refine wpList_store_row rfl 44 (.tmp 7) (.tmp 23) rfl w3.heap.size y.cs.toArray rfl rfl 44 fr0.cs.toArray (heap_alloc_new _ _) SZY hzc ONEY ?_; rw [← HW4.out]; clear hzc q5 k2 P3 ft3 k3)
        | (refine wpList_load_row rfl 44 (.tmp 5) rfl w.heap.size rfl 44 f.cs.toArray (0, 0) _ f5 Try.underlying44 rfl SZ44 ?_)
        | (refine wpList_buildTo rfl 55 _ rfl (some 29) rfl (Nt.mk 6 fr0 f).cs.toArray ?_ ?_; (simp only [List.map_toArray, List.map_cons, List.map_nil]; exact nt_ans 6 f))
        | (have q5 := f5; refine wpList_lit1 rfl 31 (.tmp 29) rfl (some 30) rfl (.agg (Nt.mk 6 fr0 f).cs.toArray) rfl _ _ (lit_nt w4 _) ?_; clear f5 q5))
      go_ret
      exact ⟨_, rfl, HF.out⟩
    | some x =>
      have hty : tk L hu ht = x.f := by rw [tk, hf]; rfl
      rw [hty] at SZY ONEY hzc
      rw [hty] at HT END
      rw [hf] at HT
      simp only [Option.isSome_some] at HT
      clear hf hty
      by_cases hc : x.f.c = f.c
      · simp only [hc, if_true]
        have cEq : x.f.c = f.c := hc
        clear hc
        generalize L.eraseP (hd hu ht) = L3 at *
        go_enter Try.func12, Try.ntmps12
        go_wp2_with (first
          | (have q5 := SZ44; refine wpList_load_row rfl 44 (.tmp 5) rfl w.heap.size rfl 44 f.cs.toArray (0, 0) _ F1 Try.underlying44 rfl SZ44 ?_)
          | (go_at_call 21; with_reducible refine hhead.mono ?_; rintro e w2 ⟨rfl, k2⟩; have htk := HT.out w2 k2)
          | (go_at_call 20; with_reducible refine htk.mono ?_; rintro e w3 ⟨S3, rfl, P3, ft3, k3⟩; obtain ⟨w4, hw4, f7, f5, hfin⟩ := END.out w2 w3 S3 _ k2 P3 ft3 k3; have HW4 : Aside0 _ := ⟨hw4⟩; have HF : Aside0 _ := ⟨hfin ⟨4, x.f, f⟩⟩; (have c7 : w4.cell? ⟨w3.heap.size, 2, none⟩ = some (.int .u8 f.c) := by (rw [cell_of_row w4 w3.heap.size 2 _ 44 (0, 0) f7, code_at, cEq])); (have c5 : w4.cell? ⟨w.heap.size, 2, none⟩ = some (.int .u8 f.c) := by (rw [cell_of_row w4 w.heap.size 2 _ 44 (0, 0) f5, code_at])); clear hw4 hfin htk HT END F1 cEq)
          | (have q5 := hzc; refine wpList_store_row rfl 44 (.tmp 7) (.tmp 23) rfl w3.heap.size x.f.cs.toArray rfl rfl 44 fr0.cs.toArray (heap_alloc_new _ _) SZY hzc ONEY ?_; rw [← HW4.out]; clear hzc q5 k2 P3 ft3 k3)
          | (refine wpList_load_row rfl 44 (.tmp 7) rfl w3.heap.size rfl 44 x.f.cs.toArray (0, 0) _ f7 Try.underlying44 rfl SZY ?_)
          | (refine wpList_load_row rfl 44 (.tmp 5) rfl w.heap.size rfl 44 f.cs.toArray (0, 0) _ f5 Try.underlying44 rfl SZ44 ?_)
          | (refine wpList_buildTo rfl 55 _ rfl (some 41) rfl (Nt.mk 4 x.f f).cs.toArray ?_ ?_; (simp only [List.map_toArray, List.map_cons, List.map_nil]; exact nt_both 4 x.f f))
          | (have q5 := f5; refine wpList_lit1 rfl 31 (.tmp 41) rfl (some 42) rfl (.agg (Nt.mk 4 x.f f).cs.toArray) rfl _ _ (lit_nt w4 _) ?_; clear f5 q5))
        go_ret
        exact ⟨_, rfl, HF.out⟩
      · simp only [hc, if_false]
        generalize L.eraseP (hd hu ht) = L3 at *
        go_enter Try.func12, Try.ntmps12
        go_wp2_with (first
          | (have q5 := SZ44; refine wpList_load_row rfl 44 (.tmp 5) rfl w.heap.size rfl 44 f.cs.toArray (0, 0) _ F1 Try.underlying44 rfl SZ44 ?_)
          | (go_at_call 21; with_reducible refine hhead.mono ?_; rintro e w2 ⟨rfl, k2⟩; have htk := HT.out w2 k2)
          | (go_at_call 20; with_reducible refine htk.mono ?_; rintro e w3 ⟨S3, rfl, P3, ft3, k3⟩; obtain ⟨w4, hw4, f7, f5, hfin⟩ := END.out w2 w3 S3 _ k2 P3 ft3 k3; have HW4 : Aside0 _ := ⟨hw4⟩; have HF : Aside0 _ := ⟨hfin ⟨5, x.f, f⟩⟩; (have c7 : w4.cell? ⟨w3.heap.size, 2, none⟩ = some (.int .u8 x.f.c) := by (rw [cell_of_row w4 w3.heap.size 2 _ 44 (0, 0) f7, code_at])); (have c5 : w4.cell? ⟨w.heap.size, 2, none⟩ = some (.int .u8 f.c) := by (rw [cell_of_row w4 w.heap.size 2 _ 44 (0, 0) f5, code_at])); clear hw4 hfin htk HT END F1)
          | (have q5 := hzc; refine wpList_store_row rfl 44 (.tmp 7) (.tmp 23) rfl w3.heap.size x.f.cs.toArray rfl rfl 44 fr0.cs.toArray (heap_alloc_new _ _) SZY hzc ONEY ?_; rw [← HW4.out]; clear hzc q5 k2 P3 ft3 k3)
          | (refine wpList_load_row rfl 44 (.tmp 7) rfl w3.heap.size rfl 44 x.f.cs.toArray (0, 0) _ f7 Try.underlying44 rfl SZY ?_)
          | (refine wpList_load_row rfl 44 (.tmp 5) rfl w.heap.size rfl 44 f.cs.toArray (0, 0) _ f5 Try.underlying44 rfl SZ44 ?_)
          | (refine wpList_buildTo rfl 55 _ rfl (some 45) rfl (Nt.mk 5 x.f f).cs.toArray ?_ ?_; (simp only [List.map_toArray, List.map_cons, List.map_nil]; exact nt_both 5 x.f f))
          | (have q5 := f5; refine wpList_lit1 rfl 31 (.tmp 45) rfl (some 46) rfl (.agg (Nt.mk 5 x.f f).cs.toArray) rfl _ _ (lit_nt w4 _) ?_; clear f5 q5))
        go_ret
        exact ⟨_, rfl, HF.out⟩
  · have hst : step net L all dir f = ([], L, all) := by simp [step, h0, hd1]
    rw [hst]
    have FIN : Aside0 (Fin w (w.alloc (.cells f.cs.toArray 44)) pb net B S (.slice none 0 0) [] L all) := ⟨⟨World.ownsRow_nil _ _ _ _, fun g hg => by simp [Value.ownBlock] at hg, ⟨S, P1, fun b hb => .inl hb⟩, k1.mono (fun _ _ h => h.elim)⟩⟩
    clear P1 hP hst hs1 k1 F1
    go_enter Try.func12, Try.ntmps12
    go_wp2
    go_ret
    exact ⟨_, rfl, FIN.out⟩

end Go.Proofs.Ytmbjlondehcheaa
