/- (*Pairs).head: the head of the request that an answer may belong to. -/
import Derived.Test.YtmbjlondehcheaaProg
import Derived.Below
import Derived.OneCell
import Derived.WalkKit
import Derived.KernelRfl
import Derived.RowKit3
import Derived.Deep.LoopGhost
import Derived.Deep.QuietTactic
import Derived.BigQuiet
import Derived.Deep.DeepCutAuto
import Derived.Deep.CutBlock
import Derived.Deep.RegionWith
import Derived.OwnWalk
import Derived.Laws.Tables
import Derived.Laws.AppendOwn
import Derived.Shelf.SlSortCmp.KitK
import Derived.Shelf.RegionOpenPlain
import Derived.Sort.WalkB2
import Derived.Deep.MidRow
import Derived.Great.Walk
import Derived.Test.YtmbjlondehcheaaWWords
import Derived.Test.YtmbjlondehcheaaWLast
import Derived.Laws.StructEq
import Derived.Maps.Own
import Derived.Maps.RangeRun
import Derived.Test.YtmbjlondehcheaaHPairOpen
set_option linter.unusedSimpArgs false
set_option linter.unusedVariables false
namespace Go.Proofs.Ytmbjlondehcheaa
open Go.Shelf Go.RowKit Go.Lib Go.Sort Go.Proofs.YtmbjlondehcheaaW.PrintWords Go.Proofs.YtmbjlondehcheaaW.PrintLast

theorem frs_len (l : List Ent) : (frs l).length = l.length * 24 := by
  induction l with
  | nil => rfl
  | cons a l ih => simp only [frs, List.flatMap_cons, List.length_append, List.length_cons] at *; rw [ih, Fr.len]; omega

/-- An open request's frame, where Open's answer lies. -/
theorem fr_at {w : World} {v : Value} {L : List Ent} (h : w.ownsRow 0 44 24 v L.length (frs L)) {i : Nat} (hi : i < L.length) : ∃ g cap, v = .slice (some ⟨g, 0, none⟩) L.length cap ∧ w.rangeAt g (i * 24) (L[i]!).f.cs := by
  rcases h.2 with ⟨_, h1⟩ | ⟨g, cap, cur, hv, _, hg, hnc, hcm, hcs, htake⟩
  · omega
  · refine ⟨g, cap, hv, fun j u hu => ?_⟩
    have hj : j < 24 := by have := (List.getElem?_eq_some_iff.1 hu).1; rwa [Fr.len] at this
    have key : (frs L)[i * 24 + j]? = some u := by
      have hsplit : L = L.take i ++ L[i] :: L.drop (i + 1) := by rw [← List.drop_eq_getElem_cons hi, List.take_append_drop]
      rw [getElem!_pos L i hi] at hu
      have e : frs (L.take i ++ L[i] :: L.drop (i + 1)) = frs (L.take i) ++ (L[i].f.cs ++ frs (L.drop (i + 1))) := by
        unfold frs; rw [List.flatMap_append, List.flatMap_cons]
      rw [← hsplit] at e
      have hl := frs_len (L.take i)
      rw [List.length_take, Nat.min_eq_left (Nat.le_of_lt hi)] at hl
      rw [e, List.getElem?_append_right (by omega), hl, Nat.add_sub_cancel_left, List.getElem?_append_left (by rw [Fr.len]; exact hj)]
      exact hu
    have hc := h.cells (g := g) (by rw [hv]; rfl) (i * 24 + j) u key
    rw [Addr.add_mid, Nat.zero_add] at hc
    exact hc

theorem owns_len {w : World} {base : Nat} {e : TypeId} {size : Nat} {v : Value} {n : Nat} {xs : List Value} (h : w.ownsRow base e size v n xs) : ∃ a cap, v = .slice a n cap := by
  rcases h.2 with ⟨h, h0⟩ | ⟨g, cap, cur, h, _⟩
  · exact ⟨none, 0, by rw [h, h0]⟩
  · exact ⟨_, _, h⟩

/-- The head of the request that an answer may belong to. -/
def hdOf (net : Bool) (L : List Ent) (f : Fr) : Int × Int := if net then (f.u, f.t) else match L.find? (fun e => decide (e.f.u = f.u)) with | some e => (e.f.u, e.f.t) | none => (f.u, f.t)

/-- What stands while head looks through the open requests. -/
structure HdAt (w wr : World) (pb : Nat) (net : Bool) (B : Nat) (S : List Slot) (L : List Ent) (all : Nat) (f : Fr) (a : Option Addr) (cap : Nat) : Prop where
  ps : PS wr pb net B S L all
  fr : wr.heap[w.heap.size]? = some (.cells f.cs.toArray 44 (0, 0))
  out : wr.heap[w.heap.size + 1]? = some (.cells #[.int .u8 0, .int .u16 0] 35 (0, 0))
  row : wr.ownsRow 0 44 24 (.slice a L.length cap) L.length (frs L)
  kept : Kept w wr (fun _ => False)
  size : w.heap.size + 2 ≤ wr.heap.size

theorem HdAt.store {w wr : World} {pb : Nat} {net : Bool} {B : Nat} {S : List Slot} {L : List Ent} {all : Nat} {f : Fr} {a : Option Addr} {cap : Nat} (h : HdAt w wr pb net B S L all f a cap) (x : Fr) :
    HdAt w ((wr.alloc (.cells fr0.cs.toArray 44)).setRow wr.heap.size x.cs.toArray) pb net B S L all f a cap ∧ ((wr.alloc (.cells fr0.cs.toArray 44)).setRow wr.heap.size x.cs.toArray).heap[wr.heap.size]? = some (.cells x.cs.toArray 44 (0, 0)) := by
  have q : Kept wr ((wr.alloc (.cells fr0.cs.toArray 44)).setRow wr.heap.size x.cs.toArray) (fun _ => False) := (Kept.alloc wr _ (fun _ => False)).trans (Kept.setRow _ wr.heap.size _ (F := fun b => b = wr.heap.size) rfl) (fun _ _ h => h) (fun k hk h => by omega)
  exact ⟨⟨h.ps.kept q (fun _ _ h => h), q.heap h.fr (fun h => h), q.heap h.out (fun h => h), q.owns h.row (fun _ _ h => h), h.kept.trans q (fun _ _ h => h) (fun _ _ h => h), Nat.le_trans h.size q.size⟩, setRow_heap _ _ _ _ 44 _ (heap_alloc_new _ _)⟩

theorem bcast_calls (u : Int) (w : World) : Calls Try.prog 27 #[.int .u8 u] w fun r w' => r = .returned (.bool (decide (u = 0))) ∧ w' = w := by
  go_enter Try.func27, Try.ntmps27
  go_wp2
  go_ret
  exact ⟨rfl, rfl⟩

theorem size35 (u t : Int) : (Try.prog.info? 35).map (·.size) = some (#[Value.int .u8 u, Value.int .u16 t] : Array Value).size := by kernel_rfl

set_option maxHeartbeats 400000 in
set_option maxRecDepth 1000000 in
theorem head_calls (w : World) (pb : Nat) (net : Bool) (B : Nat) (S : List Slot) (L : List Ent) (all : Nat) (f : Fr) (hP : PS w pb net B S L all) :
    Calls Try.prog 21 #[.pointer (some ⟨pb, 0, none⟩), .agg f.cs.toArray] w fun r w' => r = .returned (.agg #[.int .u8 (hdOf net L f).1, .int .u16 (hdOf net L f).2]) ∧ Kept w w' (fun _ => False) := by
  have hz := fr0_zero
  have k1 : Kept w ((w.alloc (.cells f.cs.toArray 44)).alloc (.cells #[.int .u8 0, .int .u16 0] 35)) (fun _ => False) := (Kept.alloc w _ _).trans (Kept.alloc _ _ (fun _ => False)) (fun _ _ h => h) (fun _ _ h => h)
  have F1 : ((w.alloc (.cells f.cs.toArray 44)).alloc (.cells #[.int .u8 0, .int .u16 0] 35)).heap[w.heap.size]? = some (.cells f.cs.toArray 44 (0, 0)) := by rw [heap_alloc_old _ _ (by simp)]; exact heap_alloc_new _ _
  have N1 : ((w.alloc (.cells f.cs.toArray 44)).alloc (.cells #[.int .u8 0, .int .u16 0] 35)).heap[w.heap.size + 1]? = some (.cells #[.int .u8 0, .int .u16 0] 35 (0, 0)) := by
    have := heap_alloc_new (w.alloc (.cells f.cs.toArray 44)) (.cells #[.int .u8 0, .int .u16 0] 35)
    simpa using this
  have hop := open_calls _ pb net B S L all (hP.kept k1 (fun _ _ h => h))
  have hfew := hP.few
  have P0 : Aside0 (PS w pb net B S L all) := ⟨hP⟩
  have one0 := all_oneCell_toArray fr0.one
  clear hP
  go_enter Try.func21, Try.ntmps21
  go_wp2_with fail
  generalize ((w.alloc (.cells f.cs.toArray 44)).alloc (.cells #[.int .u8 0, .int .u16 0] 35)) = w1 at *
  go_wp2_with (go_at_call 16; with_reducible refine hop.mono ?_; rintro e w2 ⟨v, rfl, ho, hfr, k2⟩; obtain ⟨a, cap, rfl⟩ := owns_len ho)
  have START : Aside0 ((∀ e ∈ L.take 0, ¬ (net = false ∧ e.f.u = f.u)) ∧ HdAt w w2 pb net B S L all f a cap) := ⟨by simp, P0.out.kept (k1.trans k2 (fun _ _ h => h) (fun _ _ h => h)) (fun _ _ h => h), k2.heap F1 (fun h => h), k2.heap N1 (fun h => h), ho, k1.trans k2 (fun _ _ h => h) (fun _ _ h => h), by have := heap_lt N1; have := k2.size; omega⟩
  clear hop ho hfr k2 P0 F1 N1 k1
  go_loopg [10] L.length (fun kx s10 wr => ∃ i : Nat, s10 = .int .i64 i ∧ i ≤ L.length ∧ L.length - i ≤ kx ∧ Aside0 ((∀ e ∈ L.take i, ¬ (net = false ∧ e.f.u = f.u)) ∧ HdAt w wr pb net B S L all f a cap))
  case atStart => exact ⟨0, rfl, Nat.zero_le _, Nat.le_refl _, START⟩
  case round =>
    clear START
    obtain ⟨i, rfl, hi, hkx, ⟨hno, hH⟩⟩ := hrel
    by_cases hlt : i < L.length
    · obtain ⟨g, cap', hv, hr⟩ := fr_at hH.row hlt
      injection hv with ha hb hc
      subst ha hc
      obtain ⟨e, he⟩ : ∃ e, e = L[i]! := ⟨_, rfl⟩
      rw [← he] at hr
      have hiz : (i : Int) < (L.length : Int) := by omega
      have hLz : (L.length : Int) ≤ 16 := by omega
      have hH2 := hH.store e.f
      have sz44 := size44 e.f.cs.toArray rfl
      have szl44 : (Try.prog.info? 44).map (·.size) = some e.f.cs.length := by rw [Fr.len]; kernel_rfl
      have hone := all_oneCell_toArray e.f.one
      have hZc : fr0.cs.toArray.size = e.f.cs.toArray.size := rfl
      have W2x : ∃ W2, W2 = (wr.alloc (.cells fr0.cs.toArray 44)).setRow wr.heap.size e.f.cs.toArray := ⟨_, rfl⟩
      obtain ⟨W2, hW2⟩ := W2x
      rw [← hW2] at hH2
      obtain ⟨hH2, f6⟩ := hH2
      have W2e : Aside0 (W2 = (wr.alloc (.cells fr0.cs.toArray 44)).setRow wr.heap.size e.f.cs.toArray) := ⟨hW2⟩
      have cn := hH2.ps.c0
      have cx : W2.cell? ⟨wr.heap.size, 0, none⟩ = some (.int .u8 e.f.u) := by rw [cell_of_row W2 wr.heap.size 0 _ 44 (0, 0) f6]; rfl
      have cf : W2.cell? ⟨w.heap.size, 0, none⟩ = some (.int .u8 f.u) := by rw [cell_of_row W2 w.heap.size 0 _ 44 (0, 0) hH2.fr]; rfl
      have rx := head_range f6
      have N2 := hH2.out
      have sz35 := size35 e.f.u e.f.t
      have one35 : (#[Value.int .u8 e.f.u, Value.int .u16 e.f.t] : Array Value).all (·.oneCell') = true := by kernel_rfl
      have szl35 : (Try.prog.info? 35).map (·.size) = some [Value.int .u8 e.f.u, Value.int .u16 e.f.t].length := by kernel_rfl
      have NEXT : Aside0 (¬ (net = false ∧ e.f.u = f.u) → (∀ e ∈ L.take (i + 1), ¬ (net = false ∧ e.f.u = f.u)) ∧ HdAt w W2 pb net B S L all f (some ⟨g, 0, none⟩) cap) := ⟨fun hn => ⟨fun x hx => by
        rw [List.take_add_one, List.mem_append] at hx
        rcases hx with hx | hx
        · exact hno x hx
        · have hxe : x = e := by rw [he, getElem!_pos L i hlt]; rw [List.getElem?_eq_getElem hlt] at hx; simpa using hx
          rw [hxe]; exact hn, hH2⟩⟩
      have HIT : Aside0 (net = false → e.f.u = f.u → hdOf net L f = (e.f.u, e.f.t)) := ⟨fun h1 h2 => by
        unfold hdOf
        rw [if_neg (by rw [h1]; simp)]
        have hf : L.find? (fun e => decide (e.f.u = f.u)) = some e := by
          rw [List.find?_eq_some_iff_append]
          refine ⟨by simpa using h2, L.take i, L.drop (i + 1), ?_, fun b hb => ?_⟩
          · rw [he, getElem!_pos L i hlt, ← List.drop_eq_getElem_cons hlt, List.take_append_drop]
          · simp; intro h; exact hno b hb ⟨h1, h⟩
        rw [hf]⟩
      have KW : Aside0 (Kept w (W2.setRow (w.heap.size + 1) #[.int .u8 e.f.u, .int .u16 e.f.t]) (fun _ => False)) := ⟨hH2.kept.trans (Kept.setRow W2 (w.heap.size + 1) _ (F := fun b => b = w.heap.size + 1) rfl) (fun _ _ h => h) (fun k hk h => by omega)⟩
      clear hW2 hno hH hH2 f6 he
      by_cases hhit : net = false ∧ e.f.u = f.u
      · obtain ⟨rfl, hu⟩ := hhit
        have KW2 := KW.out
        have HIT2 := HIT.out rfl hu
        rw [hu] at cx rx sz35 one35 szl35 KW2 HIT2
        have KW3 : Aside0 _ := ⟨KW2⟩
        have HIT3 : Aside0 _ := ⟨HIT2⟩
        clear NEXT KW HIT KW2 HIT2 hu
        go_wp2_with (first
          | (refine wpList_load_mid rfl 44 (.tmp 12) rfl g (i * 24) rfl e.f.cs _ hr Try.underlying44 rfl szl44 ?_)
          | (have q44 := sz44; refine wpList_store_row rfl 44 (.tmp 6) (.tmp 13) rfl wr.heap.size e.f.cs.toArray rfl rfl 44 fr0.cs.toArray (heap_alloc_new _ _) sz44 hZc hone ?_; rw [← W2e.out]; clear hr sz44 q44)
          | (refine wpList_load_mid rfl 35 (.tmp 28) rfl wr.heap.size 0 rfl [.int .u8 f.u, .int .u16 e.f.t] _ rx Try.underlying35 rfl szl35 ?_)
          | (refine wpList_store_row rfl 35 (.tmp 4) (.tmp 29) rfl (w.heap.size + 1) #[.int .u8 f.u, .int .u16 e.f.t] rfl rfl 35 #[.int .u8 0, .int .u16 0] N2 sz35 rfl one35 ?_))
        refine bodyPost_ret (v := .agg #[.int .u8 f.u, .int .u16 e.f.t]) (results_cell_row (p := 4) (ty := 35) Try.results21 _ _ (w.heap.size + 1) 35 _ (0, 0) _ rfl (setRow_heap _ _ _ _ 35 _ N2) Try.underlying35 rfl sz35) rfl ⟨?_, KW3.out⟩
        rw [HIT3.out]
      · have hN := NEXT.out hhit
        have HN : Aside0 _ := ⟨hN⟩
        clear NEXT hN HIT KW
        have hcase : net = true ∨ (net = false ∧ ¬ (e.f.u = f.u)) := by
          cases hn : net
          · right; exact ⟨rfl, fun h => hhit ⟨hn, h⟩⟩
          · left; rfl
        clear hhit
        rcases hcase with rfl | ⟨rfl, hu⟩
        · go_wp2_with (first
            | (refine wpList_load_mid rfl 44 (.tmp 12) rfl g (i * 24) rfl e.f.cs _ hr Try.underlying44 rfl szl44 ?_)
            | (have q44 := sz44; refine wpList_store_row rfl 44 (.tmp 6) (.tmp 13) rfl wr.heap.size e.f.cs.toArray rfl rfl 44 fr0.cs.toArray (heap_alloc_new _ _) sz44 hZc hone ?_; rw [← W2e.out]; clear hr sz44 q44))
          go_roundg (L.length - (i + 1))
          case measure => omega
          case rel => exact ⟨i + 1, by go_num, by omega, Nat.le_refl _, HN⟩
        · go_wp2_with (first
            | (refine wpList_load_mid rfl 44 (.tmp 12) rfl g (i * 24) rfl e.f.cs _ hr Try.underlying44 rfl szl44 ?_)
            | (have q44 := sz44; refine wpList_store_row rfl 44 (.tmp 6) (.tmp 13) rfl wr.heap.size e.f.cs.toArray rfl rfl 44 fr0.cs.toArray (heap_alloc_new _ _) sz44 hZc hone ?_; rw [← W2e.out]; clear hr sz44 q44))
          go_roundg (L.length - (i + 1))
          case measure => omega
          case rel => exact ⟨i + 1, by go_num, by omega, Nat.le_refl _, HN⟩
    · have hge : ¬ ((i : Int) < (L.length : Int)) := by omega
      have hiL : i = L.length := by omega
      have rx := head_range hH.fr
      have N2 := hH.out
      have sz35 := size35 f.u f.t
      have one35 : (#[Value.int .u8 f.u, Value.int .u16 f.t] : Array Value).all (·.oneCell') = true := by kernel_rfl
      have szl35 : (Try.prog.info? 35).map (·.size) = some [Value.int .u8 f.u, Value.int .u16 f.t].length := by kernel_rfl
      have HIT : Aside0 (hdOf net L f = (f.u, f.t)) := ⟨by
        unfold hdOf
        split
        · rfl
        · rename_i hn
          have hf : L.find? (fun e => decide (e.f.u = f.u)) = none := by
            rw [List.find?_eq_none]
            intro x hx
            rw [hiL, List.take_length] at hno
            simpa using fun h => hno x hx ⟨by simpa using hn, h⟩
          rw [hf]⟩
      have KW : Aside0 (Kept w (wr.setRow (w.heap.size + 1) #[.int .u8 f.u, .int .u16 f.t]) (fun _ => False)) := ⟨hH.kept.trans (Kept.setRow wr (w.heap.size + 1) _ (F := fun b => b = w.heap.size + 1) rfl) (fun _ _ h => h) (fun k hk h => by omega)⟩
      clear hno hH hiL
      go_wp2_with (first
        | (refine wpList_load_mid rfl 35 (.tmp 31) rfl w.heap.size 0 rfl [.int .u8 f.u, .int .u16 f.t] _ rx Try.underlying35 rfl szl35 ?_)
        | (refine wpList_store_row rfl 35 (.tmp 4) (.tmp 32) rfl (w.heap.size + 1) #[.int .u8 f.u, .int .u16 f.t] rfl rfl 35 #[.int .u8 0, .int .u16 0] N2 sz35 rfl one35 ?_))
      refine bodyPost_ret (v := .agg #[.int .u8 f.u, .int .u16 f.t]) (results_cell_row (p := 4) (ty := 35) Try.results21 _ _ (w.heap.size + 1) 35 _ (0, 0) _ rfl (setRow_heap _ _ _ _ 35 _ N2) Try.underlying35 rfl sz35) rfl ⟨?_, KW.out⟩
      rw [HIT.out]

end Go.Proofs.Ytmbjlondehcheaa
