/- PairTells: what an answer comes to, said as the document has it; a list of open requests that lies in a row of frames. -/
import Derived.Test.YtmbjlondehcheaaProg
import Derived.Below
import Derived.OneCell
import Derived.WalkKit
import Derived.KernelRfl
import Derived.RowKit3
import Derived.Deep.LoopGhost
import Derived.Deep.QuietTactic
import Derived.BigQuiet
import Derived.Deep.DeepCutAuto
import Derived.Deep.CutBlock
import Derived.Deep.RegionWith
import Derived.OwnWalk
import Derived.Laws.Tables
import Derived.Laws.AppendOwn
import Derived.Shelf.SlSortCmp.KitK
import Derived.Shelf.RegionOpenPlain
import Derived.Sort.WalkB2
import Derived.Deep.MidRow
import Derived.Great.Walk
import Derived.Test.YtmbjlondehcheaaWWords
import Derived.Test.YtmbjlondehcheaaWLast
import Derived.Laws.StructEq
import Derived.Maps.Own
import Derived.Maps.RangeRun
import Derived.Test.YtmbjlondehcheaaHPairAwake
import Derived.Test.YtmbjlondehcheaaHPairSame
import Derived.Test.YtmbjlondehcheaaHPairStrays
set_option linter.unusedSimpArgs false
set_option linter.unusedVariables false
namespace Go.Proofs.Ytmbjlondehcheaa
open Go.Shelf Go.RowKit Go.Lib Go.Sort Go.Proofs.YtmbjlondehcheaaW.PrintWords Go.Proofs.YtmbjlondehcheaaW.PrintLast Go.Proofs.Ytmbjlondehcheaa.PFW

/-- Whether an open request may be the one that an answer belongs to. -/
def may (net : Bool) (f : Fr) (e : Ent) : Prop := e.f.u = f.u ∧ (net = true → e.f.t = f.t)

theorem ans_none {net : Bool} {L : List Ent} {all : Nat} {f : Fr} (h : ∀ e ∈ L, ¬ may net f e) : ans net L all f = ([⟨6, fr0, f⟩], L, all) := by
  have : L.find? (hd (hdOf net L f).1 (hdOf net L f).2) = none := by
    rw [List.find?_eq_none]
    intro e he hh
    simp only [hd, decide_eq_true_eq] at hh
    cases net with
    | true => exact h e he ⟨hh.1, fun _ => hh.2⟩
    | false =>
      have hn : L.find? (fun e => decide (e.f.u = f.u)) = none := by
        rw [List.find?_eq_none]
        intro x hx hu
        exact h x hx ⟨by simpa using hu, by simp⟩
      rw [hdOf, if_neg (by simp), hn] at hh
      exact h e he ⟨hh.1, by simp⟩
  unfold ans
  rw [this]

theorem find_first {α : Type} {p : α → Bool} {l : List α} {i : Nat} (hi : i < l.length) (hb : ∀ (j : Nat) (hj : j < l.length), j < i → p l[j] = false) (hm : p l[i] = true) : l.find? p = some l[i] ∧ l.eraseP p = l.eraseIdx i := by
  induction l generalizing i with
  | nil => simp at hi
  | cons x t ih =>
    cases i with
    | zero => simp at hm; simp [hm]
    | succ i =>
      have hx : p x = false := hb 0 (by simp) (by omega)
      have := ih (i := i) (by simpa using hi) (fun j hj hji => by have := hb (j + 1) (by simp; omega) (by omega); simpa using this) (by simpa using hm)
      simp [hx, this.1, this.2]

theorem ans_some {net : Bool} {L : List Ent} {all : Nat} {f : Fr} {i : Nat} (hi : i < L.length) (hb : ∀ (j : Nat) (hj : j < L.length), j < i → ¬ may net f L[j]) (hm : may net f L[i]) (h1 : net = false → L.length ≤ 1) :
    ans net L all f = ([⟨if L[i].f.c = f.c then 4 else 5, L[i].f, f⟩], L.eraseIdx i, all) := by
  have : L.find? (hd (hdOf net L f).1 (hdOf net L f).2) = some L[i] ∧ L.eraseP (hd (hdOf net L f).1 (hdOf net L f).2) = L.eraseIdx i := by
    cases net with
    | true =>
      refine find_first hi (fun j hj hji => ?_) ?_
      · have := hb j hj hji
        simp only [hd, hdOf, if_true]
        rw [decide_eq_false_iff_not]
        exact fun h => this ⟨h.1, fun _ => h.2⟩
      · simp only [hd, hdOf, if_true, decide_eq_true_eq]
        exact ⟨hm.1, hm.2 rfl⟩
    | false =>
      have hl := h1 rfl
      obtain rfl : i = 0 := by omega
      obtain ⟨e, rfl⟩ : ∃ e, L = [e] := List.length_eq_one_iff.1 (by omega)
      have he : e.f.u = f.u := hm.1
      have hh : hdOf false [e] f = (e.f.u, e.f.t) := by simp [hdOf, he]
      rw [hh]
      simp [hd]
  unfold ans
  rw [this.1, this.2]

/-- The document has its open requests in a row of frames. -/
structure RefV (w : World) (rb : Nat) (net : Bool) (L : List Ent) (v : Value) : Prop where
  cell : w.heap[rb]? = some (.cells #[.bool net, v] 30 (0, 0))
  row : w.ownsRow 0 44 24 v L.length (frs L)
def RefAt (w : World) (rb : Nat) (net : Bool) (L : List Ent) : Prop := ∃ v, RefV w rb net L v

theorem row_cell {w : World} {e : TypeId} {size : Nat} {v : Value} {n : Nat} {xs : List Value} (h : w.ownsRow 0 e size v n xs) {g : Nat} (hg : v.ownBlock = some g) : ∃ cur, w.heap[g]? = some (.cells cur e (0, 0)) := by
  rcases h.2 with ⟨rfl, _⟩ | ⟨g', cap, cur, rfl, _, hc, _⟩
  · simp [Value.ownBlock] at hg
  · simp [Value.ownBlock] at hg
    subst hg
    exact ⟨cur, hc⟩
theorem row_ne {w : World} {e e' : TypeId} {size : Nat} {v : Value} {n : Nat} {xs : List Value} (h : w.ownsRow 0 e size v n xs) {b : Nat} {cs : Array Value} (hb : w.heap[b]? = some (.cells cs e' (0, 0))) (he : e ≠ e') {g : Nat} (hg : v.ownBlock = some g) : g ≠ b := by
  obtain ⟨cur, hc⟩ := row_cell h hg
  rintro rfl
  rw [hc] at hb
  injection hb with hb
  injection hb with _ h2
  exact he h2
theorem RefV.c0 {w : World} {rb : Nat} {net : Bool} {L : List Ent} {v : Value} (h : RefV w rb net L v) : w.cell? ⟨rb, 0, none⟩ = some (.bool net) := by rw [cell_of_row w rb 0 _ 30 (0, 0) h.cell]; rfl
theorem RefV.c1 {w : World} {rb : Nat} {net : Bool} {L : List Ent} {v : Value} (h : RefV w rb net L v) : w.cell? ⟨rb, 1, none⟩ = some v := by rw [cell_of_row w rb 1 _ 30 (0, 0) h.cell]; rfl
theorem RefV.kept {w w' : World} {rb : Nat} {net : Bool} {L : List Ent} {v : Value} (h : RefV w rb net L v) {F : Nat → Prop} (k : Kept w w' F) (h1 : ¬ F rb) (h2 : ∀ g, v.ownBlock = some g → ¬ F g) : RefV w' rb net L v := ⟨k.heap h.cell h1, k.owns h.row h2⟩
theorem RefV.keep {w w' : World} {rb : Nat} {net : Bool} {L : List Ent} {v : Value} (h : RefV w rb net L v) (k : Kept w w' (fun _ => False)) : RefV w' rb net L v := h.kept k (fun h => h) (fun _ _ h => h)
theorem Own.row_apart {w : World} {pb : Nat} {net : Bool} {L : List Ent} {all : Nat} {F : Nat → Prop} (O : Own w pb net L all F) {e : TypeId} {size : Nat} {v : Value} {n : Nat} {xs : List Value} (ho : w.ownsRow 0 e size v n xs) (he : e ≠ 65 ∧ e ≠ 74 ∧ e ≠ 77) : ∀ g, v.ownBlock = some g → ¬ F g := by
  obtain ⟨B, S, hP, hF⟩ := O.out
  intro g hg h
  exact hP.not_foot_row ho he g hg ((hF g).1 h)
theorem Own.cell_apart {w : World} {pb : Nat} {net : Bool} {L : List Ent} {all : Nat} {F : Nat → Prop} (O : Own w pb net L all F) {g : Nat} {cur : Array Value} {e : TypeId} {fr : Nat × Nat} (hg : w.heap[g]? = some (.cells cur e fr)) (he : e ≠ 65 ∧ e ≠ 74 ∧ e ≠ 77) : ¬ F g := by
  obtain ⟨B, S, hP, hF⟩ := O.out
  exact fun h => hP.not_foot hg he ((hF g).1 h)
theorem RefV.own {w w' : World} {rb : Nat} {net net' : Bool} {L L0 : List Ent} {v : Value} (h : RefV w rb net L v) {pb all : Nat} {F : Nat → Prop} (O : Own w pb net' L0 all F) (k : Kept w w' F) : RefV w' rb net L v :=
  h.kept k (O.cell_apart h.cell (by decide)) (O.row_apart h.row (by decide))

/-! ### What is open without one -/
theorem take_snoc {L : List Ent} {i : Nat} (hi : i < L.length) : L.take (i + 1) = L.take i ++ [L[i]!] := by
  rw [List.take_add_one, getElem!_pos L i hi, List.getElem?_eq_getElem hi]; rfl
theorem del_step {L : List Ent} {k i : Nat} (hi : i < L.length) (hk : ¬ i = k) : (L.take (i + 1)).eraseIdx k = (L.take i).eraseIdx k ++ [L[i]!] := by
  have hl : (L.take i).length = i := by rw [List.length_take]; omega
  rw [take_snoc hi]
  by_cases h : k < i
  · rw [List.eraseIdx_append_of_lt_length (by omega)]
  · rw [List.eraseIdx_append_of_length_le (by omega), List.eraseIdx_of_length_le (l := L.take i) (by omega), List.eraseIdx_of_length_le (by simp; omega)]
theorem del_hit {L : List Ent} {k : Nat} (hk : k < L.length) : (L.take (k + 1)).eraseIdx k = (L.take k).eraseIdx k := by
  have hl : (L.take k).length = k := by rw [List.length_take]; omega
  rw [take_snoc hk, List.eraseIdx_append_of_length_le (by omega), List.eraseIdx_of_length_le (l := L.take k) (by omega), hl]
  simp
structure Del (w wr : World) (L : List Ent) (k i : Nat) (v : Value) : Prop where
  row : wr.ownsRow 0 44 24 v ((L.take i).eraseIdx k).length (frs ((L.take i).eraseIdx k))
  new : ∀ b, some b = v.ownBlock → w.heap.size ≤ b
  kept : Kept w wr (fun _ => False)
/-- A frame is put behind those that lie in a row of one's own. -/
theorem put_fr {w wr : World} {v : Value} {M : List Ent} (ho : wr.ownsRow 0 44 24 v M.length (frs M)) (hn : M.length ≤ 100) (hv : ∀ b, some b = v.ownBlock → w.heap.size ≤ b) (k : Kept w wr (fun _ => False)) (e : Ent) {g : Nat} (hg : wr.heap[g]? = some (.cells e.f.cs.toArray 44 (0, 0))) (tz : TypeId) :
    ∃ v' w', (Builtin.append_ #[28, 28] tz #[v, .slice (some ⟨g, 0, none⟩) 1 1]).run Try.prog wr = .ok v' w' ∧ w'.ownsRow 0 44 24 v' (M ++ [e]).length (frs (M ++ [e])) ∧ (∀ b, some b = v'.ownBlock → w.heap.size ≤ b) ∧ Kept w w' (fun _ => False) ∧ Kept wr w' (fun b => some b = v.ownBlock) := by
  obtain ⟨v', w', a1, a2, a3, a4⟩ := app_fr wr tz v M.length (frs M) e.f ho g hg (by omega)
  have kg := Kept.grown a3 (F := fun b => some b = v.ownBlock) (fun _ h => h)
  refine ⟨v', w', a1, ?_, fun b hb => ?_, k.trans kg (fun _ _ h => h) (fun b hb h => by have := hv b h; omega), kg⟩
  · simpa [frs, List.flatMap_append] using a2
  · rcases a4 with h | h
    · exact hv b (hb.trans h)
    · rw [h] at hb
      injection hb with hb
      have := k.size
      omega
theorem Del.step {w wr : World} {L : List Ent} {k i : Nat} {v : Value} (h : Del w wr L k i v) (hi : i < L.length) (hL : L.length ≤ 16) (hk : ¬ i = k) (tz : TypeId) :
    ∃ v' w', (Builtin.append_ #[28, 28] tz #[v, .slice (some ⟨wr.heap.size, 0, none⟩) 1 1]).run Try.prog (wr.alloc (.cells (L[i]!).f.cs.toArray 44)) = .ok v' w' ∧ Del w w' L k (i + 1) v' := by
  have q := Kept.alloc wr (.cells (L[i]!).f.cs.toArray 44) (fun _ => False)
  have hl : ((L.take i).eraseIdx k).length ≤ 100 := by
    have := List.length_eraseIdx_le (L.take i) k
    have : (L.take i).length ≤ L.length := by rw [List.length_take]; omega
    omega
  obtain ⟨v', w', a1, a2, a3, a4, -⟩ := put_fr (q.owns h.row (fun _ _ h => h)) hl h.new (h.kept.trans q (fun _ _ h => h) (fun _ _ h => h)) L[i]! (heap_alloc_new _ _) tz
  exact ⟨v', w', a1, by rw [del_step hi hk]; exact a2, a3, a4⟩
theorem Del.hit {w wr : World} {L : List Ent} {k : Nat} {v : Value} (h : Del w wr L k k v) (hi : k < L.length) : Del w wr L k (k + 1) v := ⟨by rw [del_hit hi]; exact h.row, h.new, h.kept⟩

/-- The document's list is laid anew. -/
theorem RefV.set {wr : World} {rb : Nat} {net : Bool} {L M : List Ent} {v v' : Value} (h : RefV wr rb net L v) (ho : wr.ownsRow 0 44 24 v' M.length (frs M)) : RefV (wr.setCell ⟨rb, 1, none⟩ v') rb net M v' ∧ Kept wr (wr.setCell ⟨rb, 1, none⟩ v') (fun b => b = rb) := by
  have q := Kept.setCell wr rb 1 v' (F := fun b => b = rb) rfl
  exact ⟨⟨by have := setCell_row (i := 1) (v := v') h.cell; simpa using this, q.owns ho (fun g hg e => row_ne ho h.cell (by decide) hg e)⟩, q⟩

set_option maxHeartbeats 400000 in
set_option maxRecDepth 1000000 in
theorem without_calls (w : World) (rb : Nat) (net : Bool) (L : List Ent) (v : Value) (k : Nat) (R : RefV w rb net L v) (hk : k < L.length) (hL : L.length ≤ 16) :
    Calls Try.prog 22 #[.pointer (some ⟨rb, 0, none⟩), .int .i64 k] w fun r w' => r = .returned (.tuple #[]) ∧ RefAt w' rb net (L.eraseIdx k) ∧ Kept w w' (fun b => b = rb) := by
  obtain ⟨a, cap, rfl⟩ := owns_len R.row
  have START : Aside0 (Del w w L k 0 (.slice none 0 0)) := ⟨by simpa [frs] using World.ownsRow_nil w 0 44 24, fun b hb => by simp [Value.ownBlock] at hb, Kept.refl _ _⟩
  have RR : Aside0 _ := ⟨R⟩
  clear R
  go_enter Try.func22, Try.ntmps22
  go_wp2
  go_loopg [4, 5] L.length (fun kx s4 s5 wr => ∃ i : Nat, s5 = .int .i64 i ∧ i ≤ L.length ∧ L.length - i ≤ kx ∧ Aside0 (Del w wr L k i s4))
  case atStart => exact ⟨0, rfl, Nat.zero_le _, Nat.le_refl _, START⟩
  case round =>
    clear START
    obtain ⟨i, rfl, hi, hkx, D⟩ := hrel
    have hR := RR.out.keep D.out.kept
    have c1 := hR.c1
    by_cases hlt : i < L.length
    · have hiz : (i : Int) < (L.length : Int) := by omega
      have hLz : (L.length : Int) ≤ 16 := by omega
      by_cases hik : i = k
      · subst hik
        have D2 : Aside0 _ := ⟨D.out.hit hlt⟩
        clear hR
        go_wp2
        go_roundg (L.length - (i + 1))
        case measure => omega
        case rel => exact ⟨i + 1, by go_num, by omega, Nat.le_refl _, D2⟩
      · have hne : ((i : Int) != (k : Int)) = true := by rw [bne_iff_ne]; omega
        obtain ⟨g, cap', hv, hr⟩ := fr_at hR.row hlt
        injection hv with ha hb hc
        subst ha hc
        have happ := D.out.step hlt hL hik
        obtain ⟨e, he⟩ : ∃ e, e = L[i]! := ⟨_, rfl⟩
        rw [← he] at hr happ
        have szl44 : (Try.prog.info? 44).map (·.size) = some e.f.cs.length := by rw [Fr.len]; kernel_rfl
        have hlit := lit_fr wr e.f
        clear hR he
        go_wp2_with (first
          | (refine wpList_load_mid rfl 44 (.tmp 24) rfl g (i * 24) rfl e.f.cs _ hr Try.underlying44 rfl szl44 ?_)
          | (refine wpList_lit1 rfl 28 (.tmp 25) rfl (some 26) rfl (.agg e.f.cs.toArray) rfl (.slice (some ⟨wr.heap.size, 0, none⟩) 1 1) (wr.alloc (.cells e.f.cs.toArray 44)) hlit ?_)
          | (obtain ⟨v', w', ha, hO⟩ := happ 28; refine wpList_app rfl (.tmp 18) (.tmp 26) 28 28 rfl (some 27) rfl _ (.slice (some ⟨wr.heap.size, 0, none⟩) 1 1) rfl rfl v' w' ha ?_; clear happ ha))
        go_roundg (L.length - (i + 1))
        case measure => omega
        case rel => exact ⟨i + 1, by go_num, by omega, Nat.le_refl _, ⟨hO⟩⟩
    · have hge : ¬ ((i : Int) < (L.length : Int)) := by omega
      have hiL : i = L.length := by omega
      have h1 := D.out.row
      rw [hiL, List.take_length] at h1
      have fz : wr.frozen? ⟨rb, 1, none⟩ = false := by simp [World.frozen?, hR.cell]
      obtain ⟨xa, xc, rfl⟩ := owns_len h1
      have p := hR.set h1
      have p1 : RefAt _ rb net (L.eraseIdx k) := ⟨_, p.1⟩
      have FIN : Aside0 _ := ⟨And.intro p1 (D.out.kept.trans p.2 (H := fun b => b = rb) (fun _ _ h => h.elim) (fun _ _ h => h))⟩
      clear h1 p p1
      clear hR hiL
      go_wp2
      go_end0
      exact ⟨rfl, FIN.out⟩

end Go.Proofs.Ytmbjlondehcheaa
