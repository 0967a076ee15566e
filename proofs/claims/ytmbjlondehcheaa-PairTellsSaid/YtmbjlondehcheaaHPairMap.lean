/- The table of open requests by their heads: what a look-up, a store and a range over the map come to. -/
import Derived.Test.YtmbjlondehcheaaProg
import Derived.Below
import Derived.OneCell
import Derived.WalkKit
import Derived.KernelRfl
import Derived.RowKit3
import Derived.Deep.LoopGhost
import Derived.Deep.QuietTactic
import Derived.BigQuiet
import Derived.Deep.DeepCutAuto
import Derived.Deep.CutBlock
import Derived.Deep.RegionWith
import Derived.OwnWalk
import Derived.Laws.Tables
import Derived.Laws.AppendOwn
import Derived.Shelf.SlSortCmp.KitK
import Derived.Shelf.RegionOpenPlain
import Derived.Sort.WalkB2
import Derived.Deep.MidRow
import Derived.Great.Walk
import Derived.Test.YtmbjlondehcheaaWWords
import Derived.Test.YtmbjlondehcheaaWLast
import Derived.Laws.StructEq
import Derived.Maps.Own
import Derived.Maps.RangeRun
import Derived.Test.YtmbjlondehcheaaHPairPop
set_option linter.unusedSimpArgs false
set_option linter.unusedVariables false
namespace Go.Proofs.Ytmbjlondehcheaa
open Go.Shelf Go.RowKit Go.Lib Go.Sort Go.Proofs.YtmbjlondehcheaaW.PrintWords Go.Proofs.YtmbjlondehcheaaW.PrintLast

/-- A head as a value. -/
def headV (u t : Int) : Value := .agg #[.int .u8 u, .int .u16 t]

theorem eqU8 (d : Nat) (a b : Int) (w : World) : (Op.equalIn (d + 1) 5 (.int .u8 a) (.int .u8 b)).run Try.prog w = .ok (a == b) w := by
  simp [Op.equalIn, run_underlying Try.underlying5, Result.andThen]
theorem eqU16 (d : Nat) (a b : Int) (w : World) : (Op.equalIn (d + 1) 33 (.int .u16 a) (.int .u16 b)).run Try.prog w = .ok (a == b) w := by
  simp [Op.equalIn, run_underlying Try.underlying33, Result.andThen]

theorem eqHead (d : Nat) (u t u' t' : Int) (w : World) : (Op.equalIn (d + 1 + 1) 35 (headV u t) (headV u' t')).run Try.prog w = .ok (decide (u = u' ∧ t = t')) w := by
  unfold headV
  rw [run_equalIn_struct w (d + 1) 35 _ _ (by kernel_rfl) (by kernel_rfl), Program.fieldsOf, Try.underlying35]
  by_cases hu : u = u'
  · by_cases ht : t = t'
    · simp [Op.eqFields, part, isAgg, run_underlying Try.underlying5, run_underlying Try.underlying33, eqU8, eqU16, Result.andThen, hu, ht]
    · simp [Op.eqFields, part, isAgg, run_underlying Try.underlying5, run_underlying Try.underlying33, eqU8, eqU16, Result.andThen, hu, ht]
  · simp [Op.eqFields, part, isAgg, run_underlying Try.underlying5, run_underlying Try.underlying33, eqU8, eqU16, Result.andThen, hu]

theorem eq35 (u t u' t' : Int) (w : World) : (Op.equal 35 (headV u t) (headV u' t')).run Try.prog w = .ok (decide (u = u' ∧ t = t')) w := eqHead 9998 u t u' t' w

theorem check35 (em : Bool) (u t : Int) (w : World) : (Instr.checkKey em 10000 35 (headV u t)).run Try.prog w = .ok () w := by kernel_rfl

theorem stays35 (u t : Int) (w : World) : (Instr.keyThatStays (headV u t) (headV u t)).run Try.prog w = .ok (headV u t) w := by
  unfold Instr.keyThatStays
  have : Instr.sameBits 10000 (headV u t) (headV u t) = true := by simp [headV, Instr.sameBits]
  simp [this]

/-- The map's entries. -/
def entry1 (i : Nat) (s : Slot) : MapEntry := ⟨headV s.u s.t, .pointer (some ⟨s.c, 0, none⟩), i⟩
def entriesL (S : List Slot) : List MapEntry := S.mapIdx entry1
def entries (S : List Slot) : Array MapEntry := (entriesL S).toArray

theorem asking_none (u t : Int) (w : World) : ∀ (es : List MapEntry) (i : Nat), (∀ e ∈ es, ∃ u' t', e.key = headV u' t' ∧ ¬ (u' = u ∧ t' = t)) → (Instr.findAsking 35 (headV u t) es i).run Try.prog w = .ok none w
  | [], i, _ => by simp [Instr.findAsking]
  | e :: es, i, h => by
    obtain ⟨u', t', hk, hn⟩ := h e (by simp)
    simp only [Instr.findAsking, Sem.run_bind, hk, eq35, Result.andThen_ok]
    rw [decide_eq_false (fun hh => hn ⟨hh.1.symm, hh.2.symm⟩)]
    simp only [Bool.false_eq_true, if_false]
    exact asking_none u t w es (i + 1) (fun e' he' => h e' (by simp [he']))

theorem asking_some (u t : Int) (w : World) (e : MapEntry) (hk : e.key = headV u t) (B : List MapEntry) : ∀ (A : List MapEntry) (i : Nat), (∀ e ∈ A, ∃ u' t', e.key = headV u' t' ∧ ¬ (u' = u ∧ t' = t)) →
    (Instr.findAsking 35 (headV u t) (A ++ e :: B) i).run Try.prog w = .ok (some (i + A.length, e.val)) w
  | [], i, _ => by simp [Instr.findAsking, hk, eq35]
  | a :: A, i, h => by
    obtain ⟨u', t', hk', hn⟩ := h a (by simp)
    simp only [Instr.findAsking, List.cons_append, Sem.run_bind, hk', eq35, Result.andThen_ok]
    rw [decide_eq_false (fun hh => hn ⟨hh.1.symm, hh.2.symm⟩)]
    simp only [Bool.false_eq_true, if_false]
    rw [asking_some u t w e hk B A (i + 1) (fun e' he' => h e' (by simp [he']))]
    simp; omega

theorem findKey35 (u t : Int) (w : World) (es : List MapEntry) (r : Option (Nat × Value)) (h : (Instr.findAsking 35 (headV u t) es 0).run Try.prog w = .ok r w) : (Instr.findKey 35 (headV u t) es).run Try.prog w = .ok r w := by
  unfold Instr.findKey
  rw [Sem.run_bind, run_underlying Try.underlying35]
  simp only [Result.andThen_ok]
  cases es with
  | nil => simp [Instr.findAsking] at h; subst h; simp [Instr.findNow]
  | cons e es => simp only [Instr.findNow, Instr.sameNow]; exact h

theorem entriesL_append (A B : List Slot) : ∃ C, entriesL (A ++ B) = entriesL A ++ C ∧ C.length = B.length ∧ ∀ e ∈ C, ∃ s ∈ B, e.key = headV s.u s.t := by
  unfold entriesL
  rw [List.mapIdx_append]
  refine ⟨_, rfl, by simp, fun e he => ?_⟩
  obtain ⟨i, hi, rfl⟩ := List.mem_mapIdx.1 he
  exact ⟨B[i], by simp, rfl⟩

theorem entriesL_key {S : List Slot} {e : MapEntry} (he : e ∈ entriesL S) : ∃ s ∈ S, e.key = headV s.u s.t ∧ e.val = .pointer (some ⟨s.c, 0, none⟩) := by
  obtain ⟨i, hi, rfl⟩ := List.mem_mapIdx.1 he
  exact ⟨S[i], by simp, rfl, rfl⟩

theorem entriesL_mid (A B : List Slot) (s : Slot) : ∃ C, entriesL (A ++ s :: B) = entriesL A ++ entry1 A.length s :: C := by
  unfold entriesL
  rw [List.mapIdx_append, List.mapIdx_cons, Nat.zero_add]
  exact ⟨_, rfl⟩

theorem find_none {u t : Int} {S : List Slot} (hn : ∀ s ∈ S, ¬ (s.u = u ∧ s.t = t)) (w : World) : (Instr.findKey 35 (headV u t) (entriesL S)).run Try.prog w = .ok none w :=
  findKey35 u t w _ _ (asking_none u t w _ 0 fun e he => by obtain ⟨s, hs, hk, _⟩ := entriesL_key he; exact ⟨s.u, s.t, hk, hn s hs⟩)

theorem find_some {A B : List Slot} {s : Slot} (hk : (A ++ s :: B).Pairwise fun a b => ¬ (a.u = b.u ∧ a.t = b.t)) (w : World) : (Instr.findKey 35 (headV s.u s.t) (entriesL (A ++ s :: B))).run Try.prog w = .ok (some (A.length, .pointer (some ⟨s.c, 0, none⟩))) w := by
  obtain ⟨C, hC⟩ := entriesL_mid A B s
  rw [hC]
  refine findKey35 _ _ w _ _ ?_
  have := asking_some s.u s.t w (entry1 A.length s) rfl C (entriesL A) 0 (fun e he => by
    obtain ⟨s', hs', hk', _⟩ := entriesL_key he
    rw [List.pairwise_append] at hk
    exact ⟨s'.u, s'.t, hk', hk.2.2 s' hs' s (by simp)⟩)
  rw [this]
  simp [entry1, entriesL]

theorem zero73 (w : World) : (zeroValue 73).run Try.prog w = .ok (.pointer none) w := by kernel_rfl

theorem look_none {u t : Int} {S : List Slot} (hn : ∀ s ∈ S, ¬ (s.u = u ∧ s.t = t)) {w : World} {B k : Nat} (hb : w.heap[B]? = some (.map (entries S) k)) :
    (Instr.lookup 63 (.map (some B)) (headV u t) false).run Try.prog w = .ok (.pointer none) w := by
  simp [Instr.lookup, run_underlying Try.underlying63, MapKept.run_getObj_map hb, check35, entries, find_none hn, zero73, Result.andThen]

theorem look_some {A C : List Slot} {s : Slot} (hk : (A ++ s :: C).Pairwise fun a b => ¬ (a.u = b.u ∧ a.t = b.t)) {w : World} {B k : Nat} (hb : w.heap[B]? = some (.map (entries (A ++ s :: C)) k)) :
    (Instr.lookup 63 (.map (some B)) (headV s.u s.t) false).run Try.prog w = .ok (.pointer (some ⟨s.c, 0, none⟩)) w := by
  simp [Instr.lookup, run_underlying Try.underlying63, MapKept.run_getObj_map hb, check35, entries, find_some hk, Result.andThen]

theorem store_new {S : List Slot} {s : Slot} (hn : ∀ s' ∈ S, ¬ (s'.u = s.u ∧ s'.t = s.t)) {w : World} {B : Nat} (hb : w.heap[B]? = some (.map (entries S) S.length)) :
    (Instr.mapUpdate 63 (.map (some B)) (headV s.u s.t) (.pointer (some ⟨s.c, 0, none⟩))).run Try.prog w = .ok () (ChangeMaps.setBlock w B (.map (entries (S ++ [s])) (S.length + 1))) := by
  have he : (entries S).push ⟨headV s.u s.t, .pointer (some ⟨s.c, 0, none⟩), S.length⟩ = entries (S ++ [s]) := by
    simp [entries, entriesL, List.mapIdx_append, entry1]
  simp [Instr.mapUpdate, run_underlying Try.underlying63, MapKept.run_getObj_map hb, check35, show (entries S).toList = entriesL S from rfl, find_none hn, Result.andThen, MapKept.run_setObj_map _ hb, he, ChangeMaps.setBlock]

theorem Kept.block' (w : World) (B : Nat) (o : Obj) {F : Nat → Prop} (hF : F B) : Kept w (ChangeMaps.setBlock w B o) F :=
  ⟨rfl, rfl, rfl, by simp [ChangeMaps.setBlock], fun k hk hn => by
    simp only [ChangeMaps.setBlock]
    rw [Array.getElem?_setIfInBounds]
    rw [if_neg (fun e : B = k => hn (by rw [← e]; exact hF))]⟩

end Go.Proofs.Ytmbjlondehcheaa
