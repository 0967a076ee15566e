/- TopTalk: part 4 of the walks: of HPairMap, HPairState. -/
import Derived.Test.YtmbjlondehcheaaGreatDoorM03
import Derived.Laws.StructEq
import Derived.Maps.Own
import Derived.Maps.RangeRun
section
set_option linter.unusedSimpArgs false
set_option linter.unusedVariables false
namespace Go.Proofs.YtmbjlondehcheaaGreatDoor
open Go.Shelf Go.RowKit Go.Lib Go.Sort Go.Proofs.YtmbjlondehcheaaGreatDoorW.PrintWords Go.Proofs.YtmbjlondehcheaaGreatDoorW.PrintLast
def headV (u t : Int) : Value := .agg #[.int .u8 u, .int .u16 t]
theorem eqU8 (d : Nat) (a b : Int) (w : World) : (Op.equalIn (d + 1) 5 (.int .u8 a) (.int .u8 b)).run Tryz.prog w = .ok (a == b) w := by
  simp [Op.equalIn, run_underlying Tryz.underlying5, Result.andThen]
theorem eqU16 (d : Nat) (a b : Int) (w : World) : (Op.equalIn (d + 1) 27 (.int .u16 a) (.int .u16 b)).run Tryz.prog w = .ok (a == b) w := by
  simp [Op.equalIn, run_underlying Tryz.underlying27, Result.andThen]
theorem eqHead (d : Nat) (u t u' t' : Int) (w : World) : (Op.equalIn (d + 1 + 1) 29 (headV u t) (headV u' t')).run Tryz.prog w = .ok (decide (u = u' ∧ t = t')) w := by
  unfold headV
  rw [run_equalIn_struct w (d + 1) 29 _ _ (by kernel_rfl) (by kernel_rfl), Program.fieldsOf, Tryz.underlying29]
  by_cases hu : u = u'
  · by_cases ht : t = t'
    · simp [Op.eqFields, part, isAgg, run_underlying Tryz.underlying5, run_underlying Tryz.underlying27, eqU8, eqU16, Result.andThen, hu, ht]
    · simp [Op.eqFields, part, isAgg, run_underlying Tryz.underlying5, run_underlying Tryz.underlying27, eqU8, eqU16, Result.andThen, hu, ht]
  · simp [Op.eqFields, part, isAgg, run_underlying Tryz.underlying5, run_underlying Tryz.underlying27, eqU8, eqU16, Result.andThen, hu]
theorem eq35 (u t u' t' : Int) (w : World) : (Op.equal 29 (headV u t) (headV u' t')).run Tryz.prog w = .ok (decide (u = u' ∧ t = t')) w := eqHead 9998 u t u' t' w
theorem check35 (em : Bool) (u t : Int) (w : World) : (Instr.checkKey em 10000 29 (headV u t)).run Tryz.prog w = .ok () w := by kernel_rfl
def entry1 (i : Nat) (s : Slot) : MapEntry := ⟨headV s.u s.t, .pointer (some ⟨s.c, 0, none⟩), i⟩
def entriesL (S : List Slot) : List MapEntry := S.mapIdx entry1
def entries (S : List Slot) : Array MapEntry := (entriesL S).toArray
theorem asking_none (u t : Int) (w : World) : ∀ (es : List MapEntry) (i : Nat), (∀ e ∈ es, ∃ u' t', e.key = headV u' t' ∧ ¬ (u' = u ∧ t' = t)) → (Instr.findAsking 29 (headV u t) es i).run Tryz.prog w = .ok none w
  | [], i, _ => by simp [Instr.findAsking]
  | e :: es, i, h => by
    obtain ⟨u', t', hk, hn⟩ := h e (by simp)
    simp only [Instr.findAsking, Sem.run_bind, hk, eq35, Result.andThen_ok]
    rw [decide_eq_false (fun hh => hn ⟨hh.1.symm, hh.2.symm⟩)]
    simp only [Bool.false_eq_true, if_false]
    exact asking_none u t w es (i + 1) (fun e' he' => h e' (by simp [he']))
theorem asking_some (u t : Int) (w : World) (e : MapEntry) (hk : e.key = headV u t) (B : List MapEntry) : ∀ (A : List MapEntry) (i : Nat), (∀ e ∈ A, ∃ u' t', e.key = headV u' t' ∧ ¬ (u' = u ∧ t' = t)) →
    (Instr.findAsking 29 (headV u t) (A ++ e :: B) i).run Tryz.prog w = .ok (some (i + A.length, e.val)) w
  | [], i, _ => by simp [Instr.findAsking, hk, eq35]
  | a :: A, i, h => by
    obtain ⟨u', t', hk', hn⟩ := h a (by simp)
    simp only [Instr.findAsking, List.cons_append, Sem.run_bind, hk', eq35, Result.andThen_ok]
    rw [decide_eq_false (fun hh => hn ⟨hh.1.symm, hh.2.symm⟩)]
    simp only [Bool.false_eq_true, if_false]
    rw [asking_some u t w e hk B A (i + 1) (fun e' he' => h e' (by simp [he']))]
    simp; omega
theorem findKey35 (u t : Int) (w : World) (es : List MapEntry) (r : Option (Nat × Value)) (h : (Instr.findAsking 29 (headV u t) es 0).run Tryz.prog w = .ok r w) : (Instr.findKey 29 (headV u t) es).run Tryz.prog w = .ok r w := by
  unfold Instr.findKey
  rw [Sem.run_bind, run_underlying Tryz.underlying29]
  simp only [Result.andThen_ok]
  cases es with
  | nil => simp [Instr.findAsking] at h; subst h; simp [Instr.findNow]
  | cons e es => simp only [Instr.findNow, Instr.sameNow]; exact h
theorem entriesL_key {S : List Slot} {e : MapEntry} (he : e ∈ entriesL S) : ∃ s ∈ S, e.key = headV s.u s.t ∧ e.val = .pointer (some ⟨s.c, 0, none⟩) := by
  obtain ⟨i, hi, rfl⟩ := List.mem_mapIdx.1 he
  exact ⟨S[i], by simp, rfl, rfl⟩
theorem entriesL_mid (A B : List Slot) (s : Slot) : ∃ C, entriesL (A ++ s :: B) = entriesL A ++ entry1 A.length s :: C := by
  unfold entriesL
  rw [List.mapIdx_append, List.mapIdx_cons, Nat.zero_add]
  exact ⟨_, rfl⟩
theorem find_none {u t : Int} {S : List Slot} (hn : ∀ s ∈ S, ¬ (s.u = u ∧ s.t = t)) (w : World) : (Instr.findKey 29 (headV u t) (entriesL S)).run Tryz.prog w = .ok none w :=
  findKey35 u t w _ _ (asking_none u t w _ 0 fun e he => by obtain ⟨s, hs, hk, _⟩ := entriesL_key he; exact ⟨s.u, s.t, hk, hn s hs⟩)
theorem find_some {A B : List Slot} {s : Slot} (hk : (A ++ s :: B).Pairwise fun a b => ¬ (a.u = b.u ∧ a.t = b.t)) (w : World) : (Instr.findKey 29 (headV s.u s.t) (entriesL (A ++ s :: B))).run Tryz.prog w = .ok (some (A.length, .pointer (some ⟨s.c, 0, none⟩))) w := by
  obtain ⟨C, hC⟩ := entriesL_mid A B s
  rw [hC]
  refine findKey35 _ _ w _ _ ?_
  have := asking_some s.u s.t w (entry1 A.length s) rfl C (entriesL A) 0 (fun e he => by
    obtain ⟨s', hs', hk', _⟩ := entriesL_key he
    rw [List.pairwise_append] at hk
    exact ⟨s'.u, s'.t, hk', hk.2.2 s' hs' s (by simp)⟩)
  rw [this]
  simp [entry1, entriesL]
theorem zero73 (w : World) : (zeroValue 127).run Tryz.prog w = .ok (.pointer none) w := by kernel_rfl
theorem look_none {u t : Int} {S : List Slot} (hn : ∀ s ∈ S, ¬ (s.u = u ∧ s.t = t)) {w : World} {B k : Nat} (hb : w.heap[B]? = some (.map (entries S) k)) :
    (Instr.lookup 95 (.map (some B)) (headV u t) false).run Tryz.prog w = .ok (.pointer none) w := by
  simp [Instr.lookup, run_underlying Tryz.underlying95, MapKept.run_getObj_map hb, check35, entries, find_none hn, zero73, Result.andThen]
theorem look_some {A C : List Slot} {s : Slot} (hk : (A ++ s :: C).Pairwise fun a b => ¬ (a.u = b.u ∧ a.t = b.t)) {w : World} {B k : Nat} (hb : w.heap[B]? = some (.map (entries (A ++ s :: C)) k)) :
    (Instr.lookup 95 (.map (some B)) (headV s.u s.t) false).run Tryz.prog w = .ok (.pointer (some ⟨s.c, 0, none⟩)) w := by
  simp [Instr.lookup, run_underlying Tryz.underlying95, MapKept.run_getObj_map hb, check35, entries, find_some hk, Result.andThen]
theorem store_new {S : List Slot} {s : Slot} (hn : ∀ s' ∈ S, ¬ (s'.u = s.u ∧ s'.t = s.t)) {w : World} {B : Nat} (hb : w.heap[B]? = some (.map (entries S) S.length)) :
    (Instr.mapUpdate 95 (.map (some B)) (headV s.u s.t) (.pointer (some ⟨s.c, 0, none⟩))).run Tryz.prog w = .ok () (ChangeMaps.setBlock w B (.map (entries (S ++ [s])) (S.length + 1))) := by
  have he : (entries S).push ⟨headV s.u s.t, .pointer (some ⟨s.c, 0, none⟩), S.length⟩ = entries (S ++ [s]) := by
    simp [entries, entriesL, List.mapIdx_append, entry1]
  simp [Instr.mapUpdate, run_underlying Tryz.underlying95, MapKept.run_getObj_map hb, check35, show (entries S).toList = entriesL S from rfl, find_none hn, Result.andThen, MapKept.run_setObj_map _ hb, he, ChangeMaps.setBlock]
theorem Kept.block' (w : World) (B : Nat) (o : Obj) {F : Nat → Prop} (hF : F B) : Kept w (ChangeMaps.setBlock w B o) F :=
  ⟨rfl, rfl, rfl, by simp [ChangeMaps.setBlock], fun k hk hn => by
    simp only [ChangeMaps.setBlock]
    rw [Array.getElem?_setIfInBounds]
    rw [if_neg (fun e : B = k => hn (by rw [← e]; exact hF))]⟩
end Go.Proofs.YtmbjlondehcheaaGreatDoor
end
section
set_option linter.unusedSimpArgs false
set_option linter.unusedVariables false
namespace Go.Proofs.YtmbjlondehcheaaGreatDoor
open Go.Shelf Go.RowKit Go.Lib Go.Sort Go.Proofs.YtmbjlondehcheaaGreatDoorW.PrintWords Go.Proofs.YtmbjlondehcheaaGreatDoorW.PrintLast
def foot (pb B : Nat) (S : List Slot) (b : Nat) : Prop := b = pb ∨ b = B ∨ ∃ s ∈ S, b = s.c ∨ some b = s.v.ownBlock
structure PS (w : World) (pb : Nat) (net : Bool) (B : Nat) (S : List Slot) (L : List Ent) (all : Nat) : Prop where
  cell : w.heap[pb]? = some (.cells #[.bool net, .map (some B), .int .i64 (L.length : Nat), .int .i64 (all : Nat)] 97 (0, 0))
  mp : w.heap[B]? = some (.map (entries S) S.length)
  age : ∀ s ∈ S, AgeOk w s.c s.v s.d
  dist : S.Pairwise fun a b => a.c ≠ b.c ∧ (∀ g, some g = a.v.ownBlock → some g ≠ b.v.ownBlock)
  book : Book S L all
  few : L.length ≤ 16
  young : all ≤ 1000000
theorem AgeOk.own {w : World} {c : Nat} {v : Value} {d : Array Ent} (A : AgeOk w c v d) {g : Nat} (h : some g = v.ownBlock) : ∃ cur, w.heap[g]? = some (.cells cur 131 (0, 0)) := by
  rcases A.row.2 with ⟨rfl, _⟩ | ⟨g', cap, cur, rfl, _, hg, _⟩
  · simp [Value.ownBlock] at h
  · simp [Value.ownBlock] at h; subst h; exact ⟨cur, hg⟩
section
variable {w w' : World} {pb : Nat} {net : Bool} {B : Nat} {S : List Slot} {L : List Ent} {all : Nat}
theorem PS.kept (h : PS w pb net B S L all) {F : Nat → Prop} (k : Kept w w' F) (hF : ∀ b, foot pb B S b → ¬ F b) : PS w' pb net B S L all where
  cell := k.heap h.cell (hF _ (.inl rfl))
  mp := k.heap h.mp (hF _ (.inr (.inl rfl)))
  age s hs := (h.age s hs).kept k (hF _ (.inr (.inr ⟨s, hs, .inl rfl⟩))) (fun g hg => hF _ (.inr (.inr ⟨s, hs, .inr hg.symm⟩)))
  dist := h.dist
  book := h.book
  few := h.few
  young := h.young
theorem PS.foot_lt (h : PS w pb net B S L all) {b : Nat} (hb : foot pb B S b) : b < w.heap.size := by
  rcases hb with rfl | rfl | ⟨s, hs, rfl | hg⟩
  · exact heap_lt h.cell
  · exact heap_lt h.mp
  · exact heap_lt (h.age s hs).at_
  · obtain ⟨cur, hc⟩ := (h.age s hs).own hg; exact heap_lt hc
theorem PS.pB (h : PS w pb net B S L all) : pb ≠ B := fun e => by have := h.cell; rw [e, h.mp] at this; cases this
theorem PS.pc (h : PS w pb net B S L all) {s : Slot} (hs : s ∈ S) : pb ≠ s.c := fun e => by have := h.cell; rw [e, (h.age s hs).at_] at this; simp at this
theorem PS.Bc (h : PS w pb net B S L all) {s : Slot} (hs : s ∈ S) : B ≠ s.c := fun e => by have := h.mp; rw [e, (h.age s hs).at_] at this; cases this
theorem PS.pg (h : PS w pb net B S L all) {s : Slot} (hs : s ∈ S) {g : Nat} (hg : some g = s.v.ownBlock) : pb ≠ g := fun e => by
  obtain ⟨cur, hc⟩ := (h.age s hs).own hg
  have := h.cell; rw [e, hc] at this; cases this
theorem PS.Bg (h : PS w pb net B S L all) {s : Slot} (hs : s ∈ S) {g : Nat} (hg : some g = s.v.ownBlock) : B ≠ g := fun e => by
  obtain ⟨cur, hc⟩ := (h.age s hs).own hg
  have := h.mp; rw [e, hc] at this; cases this
theorem PS.cg (h : PS w pb net B S L all) {s s' : Slot} (hs : s ∈ S) (hs' : s' ∈ S) {g : Nat} (hg : some g = s.v.ownBlock) : s'.c ≠ g := fun e => by
  obtain ⟨cur, hc⟩ := (h.age s hs).own hg
  have := (h.age s' hs').at_; rw [e, hc] at this; cases this
theorem PS.c0 (h : PS w pb net B S L all) : w.cell? ⟨pb, 0, none⟩ = some (.bool net) := by rw [cell_of_row w pb 0 _ 97 (0, 0) h.cell]; rfl
theorem PS.c1 (h : PS w pb net B S L all) : w.cell? ⟨pb, 1, none⟩ = some (.map (some B)) := by rw [cell_of_row w pb 1 _ 97 (0, 0) h.cell]; rfl
theorem PS.c2 (h : PS w pb net B S L all) : w.cell? ⟨pb, 2, none⟩ = some (.int .i64 (L.length : Nat)) := by rw [cell_of_row w pb 2 _ 97 (0, 0) h.cell]; rfl
theorem PS.c3 (h : PS w pb net B S L all) : w.cell? ⟨pb, 3, none⟩ = some (.int .i64 (all : Nat)) := by rw [cell_of_row w pb 3 _ 97 (0, 0) h.cell]; rfl
end
theorem dist_mid {A C : List Slot} {s s' : Slot} {w : World} (h : (A ++ s :: C).Pairwise fun a b => a.c ≠ b.c ∧ (∀ g, some g = a.v.ownBlock → some g ≠ b.v.ownBlock)) (hc : s'.c = s.c)
    (hv : s'.v.ownBlock = s.v.ownBlock ∨ ∃ b, s'.v.ownBlock = some b ∧ ∀ x ∈ A ++ C, some b ≠ x.v.ownBlock) : (A ++ s' :: C).Pairwise fun a b => a.c ≠ b.c ∧ (∀ g, some g = a.v.ownBlock → some g ≠ b.v.ownBlock) := by
  rw [List.pairwise_append, List.pairwise_cons] at *
  obtain ⟨h1, ⟨h2, h3⟩, h4⟩ := h
  refine ⟨h1, ⟨fun b hb => ⟨by rw [hc]; exact (h2 b hb).1, fun g hg => ?_⟩, h3⟩, fun a ha b hb => ?_⟩
  · rcases hv with e | ⟨b', e, hb'⟩
    · exact (h2 b hb).2 g (hg.trans e)
    · rw [hg, e]; exact hb' b (by simp [hb])
  · rcases List.mem_cons.1 hb with rfl | hb
    · refine ⟨by rw [hc]; exact (h4 a ha s (by simp)).1, fun g hg => ?_⟩
      rcases hv with e | ⟨b', e, hb'⟩
      · rw [e]; exact (h4 a ha s (by simp)).2 g hg
      · intro e'; exact hb' a (by simp [ha]) (by rw [← hg, e', e])
    · exact h4 a ha b (by simp [hb])
theorem PS.turn {w w' : World} {pb : Nat} {net : Bool} {B : Nat} {A C : List Slot} {s s' : Slot} {L L' : List Ent} {all all' : Nat} (h : PS w pb net B (A ++ s :: C) L all)
    {F : Nat → Prop} (k : Kept w w' F) (hF : ∀ b, foot pb B (A ++ s :: C) b → F b → b = pb ∨ b = s.c ∨ some b = s.v.ownBlock) (hu : s'.u = s.u) (ht : s'.t = s.t) (hc : s'.c = s.c) (hv : s'.v.ownBlock = s.v.ownBlock ∨ ∃ b, s'.v.ownBlock = some b ∧ w.heap.size ≤ b)
    (hcell : w'.heap[pb]? = some (.cells #[.bool net, .map (some B), .int .i64 (L'.length : Nat), .int .i64 (all' : Nat)] 97 (0, 0))) (A' : AgeOk w' s'.c s'.v s'.d) (hb : Book (A ++ s' :: C) L' all') (hf : L'.length ≤ 16) (hy : all' ≤ 1000000) :
    PS w' pb net B (A ++ s' :: C) L' all' where
  cell := hcell
  mp := by
    have hs : s ∈ A ++ s :: C := by simp
    have h1 := k.heap h.mp (fun e => by
      rcases hF _ (.inr (.inl rfl)) e with e | e | e
      · exact h.pB e.symm
      · exact h.Bc hs e
      · exact h.Bg hs e rfl)
    have he : entries (A ++ s' :: C) = entries (A ++ s :: C) := by
      unfold entries entriesL
      rw [List.mapIdx_append, List.mapIdx_append, List.mapIdx_cons, List.mapIdx_cons]
      simp [entry1, hu, ht, hc]
    rw [he]
    simpa using h1
  age x hx := by
    have hs : s ∈ A ++ s :: C := by simp
    have hd := h.dist
    rw [List.pairwise_append, List.pairwise_cons] at hd
    rcases List.mem_append.1 hx with hx | hx
    · have hx' : x ∈ A ++ s :: C := by simp [hx]
      refine (h.age x hx').kept k (fun e => ?_) (fun g hg e => ?_)
      · rcases hF _ (.inr (.inr ⟨x, hx', .inl rfl⟩)) e with e | e | e
        · exact h.pc hx' e.symm
        · exact (hd.2.2 x hx s (by simp)).1 e
        · exact h.cg hs hx' e rfl
      · rcases hF _ (.inr (.inr ⟨x, hx', .inr hg.symm⟩)) e with e | e | e
        · exact h.pg hx' hg.symm e.symm
        · exact h.cg hx' hs hg.symm e.symm
        · exact (hd.2.2 x hx s (by simp)).2 g hg.symm e
    · rcases List.mem_cons.1 hx with rfl | hx
      · exact A'
      · have hx' : x ∈ A ++ s :: C := by simp [hx]
        refine (h.age x hx').kept k (fun e => ?_) (fun g hg e => ?_)
        · rcases hF _ (.inr (.inr ⟨x, hx', .inl rfl⟩)) e with e | e | e
          · exact h.pc hx' e.symm
          · exact (hd.2.1.1 x hx).1 e.symm
          · exact h.cg hs hx' e rfl
        · rcases hF _ (.inr (.inr ⟨x, hx', .inr hg.symm⟩)) e with e | e | e
          · exact h.pg hx' hg.symm e.symm
          · exact h.cg hx' hs hg.symm e.symm
          · exact (hd.2.1.1 x hx).2 g e hg.symm
  dist := by
    refine dist_mid (w := w) h.dist hc ?_
    rcases hv with e | ⟨b, e, hb'⟩
    · exact .inl e
    · refine .inr ⟨b, e, fun x hx e' => ?_⟩
      have hx' : x ∈ A ++ s :: C := by simp at hx ⊢; rcases hx with h | h <;> simp [h]
      obtain ⟨cur, hcur⟩ := (h.age x hx').own e'
      have := heap_lt hcur
      omega
  book := hb
  few := hf
  young := hy
theorem foot_turn {pb B : Nat} {A C : List Slot} {s s' : Slot} {n : Nat} (hc : s'.c = s.c) (hv : s'.v.ownBlock = s.v.ownBlock ∨ ∃ b, s'.v.ownBlock = some b ∧ n ≤ b) {b : Nat} (hb : foot pb B (A ++ s' :: C) b) : foot pb B (A ++ s :: C) b ∨ n ≤ b := by
  rcases hb with h | h | ⟨x, hx, h⟩
  · exact .inl (.inl h)
  · exact .inl (.inr (.inl h))
  · rcases mem_mid (s := s) hx with rfl | hx
    · rcases h with h | h
      · exact .inl (.inr (.inr ⟨s, by simp, .inl (h.trans hc)⟩))
      · rcases hv with e | ⟨b', e, hb'⟩
        · exact .inl (.inr (.inr ⟨s, by simp, .inr (h.trans e)⟩))
        · rw [e] at h; injection h with h; exact .inr (by omega)
    · exact .inl (.inr (.inr ⟨x, hx, h⟩))
theorem PS.add {w w' : World} {pb : Nat} {net : Bool} {B : Nat} {S : List Slot} {s : Slot} {L : List Ent} {all : Nat} (h : PS w pb net B S L all) (k : Kept w w' (fun b => b = B)) (hn : ∀ s' ∈ S, ¬ (s'.u = s.u ∧ s'.t = s.t))
    (hm : w'.heap[B]? = some (.map (entries (S ++ [s])) (S.length + 1))) (A : AgeOk w' s.c s.v s.d) (hz : s.d = #[]) (hc : w.heap.size ≤ s.c) (hv : ∀ g, some g = s.v.ownBlock → w.heap.size ≤ g) : PS w' pb net B (S ++ [s]) L all where
  cell := k.heap h.cell (fun e => h.pB e)
  mp := by rw [hm]; simp
  age x hx := by
    rcases List.mem_append.1 hx with hx | hx
    · exact (h.age x hx).kept k (fun e => h.Bc hx e.symm) (fun g hg e => h.Bg hx hg.symm e.symm)
    · simp at hx; subst hx; exact A
  dist := by
    rw [List.pairwise_append]
    refine ⟨h.dist, by simp, fun a ha b hb => ?_⟩
    simp at hb; subst hb
    refine ⟨fun e => ?_, fun g hg e => ?_⟩
    · have := heap_lt (h.age a ha).at_; omega
    · obtain ⟨cur, hcur⟩ := (h.age a ha).own hg
      have := heap_lt hcur
      have := hv g e
      omega
  book := h.book.slot s hn hz
  few := h.few
  young := h.young
theorem foot_add {pb B : Nat} {S : List Slot} {s : Slot} {n : Nat} (hc : n ≤ s.c) (hv : ∀ g, some g = s.v.ownBlock → n ≤ g) {b : Nat} (hb : foot pb B (S ++ [s]) b) : foot pb B S b ∨ n ≤ b := by
  rcases hb with h | h | ⟨x, hx, h⟩
  · exact .inl (.inl h)
  · exact .inl (.inr (.inl h))
  · rcases List.mem_append.1 hx with hx | hx
    · exact .inl (.inr (.inr ⟨x, hx, h⟩))
    · simp at hx; subst hx
      rcases h with h | h
      · exact .inr (by omega)
      · exact .inr (hv b h)
section
variable {P : Program} {a : Act} {w : World} {K : Act → World → Prop} {Q : Exit → Act → World → Prop} {op : Oper}
theorem wp_box (t : TypeId) (x : Operand) (ho : op.op = .box t x) (v : Value) (hx : a.eval x = v) (h : K (a.put op.dst (.pointer (some ⟨w.heap.size, 0, none⟩))) (w.alloc (.cells v.cells t))) : op.wp P a w K Q := by
  unfold Oper.wp execOp
  simp only [ho, hx, Sem.run_bind, Instr.box, newVar, newRow, run_newObj_alloc, Sem.run_pure, Result.andThen_ok]
  exact h
theorem wp_lit0 (t : TypeId) (ho : op.op = .buildSlice t 0 #[]) (v' : Value) (w' : World) (hr : (Instr.buildSlice t 0 #[]).run P w = .ok v' w') (h : K (a.put op.dst v') w') : op.wp P a w K Q := by
  unfold Oper.wp execOp
  simp only [ho, Sem.run_bind, Sem.run_pure, Result.andThen_ok, List.map_toArray, List.map_nil, hr]
  exact h
theorem wp_mapUpdate (t : TypeId) (m x y : Operand) (ho : op.op = .mapUpdate t m x y) (vm vx vy : Value) (hm : a.eval m = vm) (hx : a.eval x = vx) (hy : a.eval y = vy) (w' : World) (hr : (Instr.mapUpdate t vm vx vy).run P w = .ok () w') (h : K (a.put op.dst undef) w') : op.wp P a w K Q := by
  unfold Oper.wp execOp
  simp only [ho, hm, hx, hy, Sem.run_bind, Sem.run_pure, Result.andThen_ok, hr]
  exact h
theorem yields_build {ops : Array Oper} (hw : Region.wanted op (yielded ops a.tmps) = true) (t : TypeId) (parts : Array (Nat × Operand)) (ho : op.op = .build t parts) (l : List (Nat × Value)) (hl : (parts.map fun (i, x) => (i, a.eval x)).toList = l)
    (cells : Array Value) (hb : P.built t l = some cells) : Yields P ops op (.agg cells) a := .inl ⟨hw, fun w => by
  subst hl
  unfold execOp
  simp only [ho, Sem.run_bind, run_build w t _ _ hb, Sem.run_pure, Result.andThen_ok]⟩
end
theorem lit0_74 (w : World) : (Instr.buildSlice 128 0 #[]).run Tryz.prog w = .ok (.slice (some ⟨w.heap.size, 0, none⟩) 0 0) (w.alloc (.cells #[] 131)) := by
  obtain ⟨ie, z, h1, h2, h3, h4, h5⟩ := info77
  simp [Instr.buildSlice, run_underlying Tryz.underlying128, sizeOf, typeInfo, h1, Instr.fill, newRow]
  have h0 : Array.map (fun _ => (default : Value)) (Array.range 0) = #[] := Array.eq_empty_of_size_eq_zero (by simp)
  rw [h0]
def fr0 : Fr := ⟨0, 0, 0, fun i => if i = 0 ∨ 15 ≤ i ∧ i < 20 then .int .u8 0 else if i < 11 then .int .u16 0 else .slice none 0 0, by decide, by decide, by decide, fun i => by split <;> (try split) <;> rfl⟩
theorem fr0_zero (w : World) : (zeroValue 37).run Tryz.prog w = .ok (.agg fr0.cs.toArray) w := by kernel_rfl
structure Nt where
  kind : Int
  ask : Fr
  ans : Fr
def Nt.cs (n : Nt) : List Value := .int .i64 n.kind :: (n.ask.cs ++ n.ans.cs)
theorem Nt.len (n : Nt) : n.cs.length = 49 := rfl
theorem Nt.one (n : Nt) : ∀ v ∈ n.cs, v.oneCell' = true := by
  intro v hv
  rcases List.mem_cons.1 hv with h | h
  · subst h; rfl
  · rcases List.mem_append.1 h with h | h
    · exact n.ask.one v h
    · exact n.ans.one v h
theorem nt_zero (w : World) : (zeroValue 52).run Tryz.prog w = .ok (.agg (Nt.mk 0 fr0 fr0).cs.toArray) w := by kernel_rfl
theorem nt_ask (k : Int) (f : Fr) : Tryz.prog.built 52 [(0, .int .i64 k), (1, .agg f.cs.toArray)] = some (Nt.mk k f fr0).cs.toArray := by kernel_rfl
theorem nt_ans (k : Int) (f : Fr) : Tryz.prog.built 52 [(0, .int .i64 k), (2, .agg f.cs.toArray)] = some (Nt.mk k fr0 f).cs.toArray := by kernel_rfl
theorem nt_both (k : Int) (f g : Fr) : Tryz.prog.built 52 [(0, .int .i64 k), (1, .agg f.cs.toArray), (2, .agg g.cs.toArray)] = some (Nt.mk k f g).cs.toArray := by kernel_rfl
theorem ent_built (n : Int) (f : Fr) : Tryz.prog.built 131 [(0, .int .i64 n), (1, .agg f.cs.toArray)] = some (Ent.mk n f).cs.toArray := by kernel_rfl
theorem setCell_heap {w : World} {pb i : Nat} {v : Value} {g : Nat} {o : Obj} (h : w.heap[g]? = some o) (hne : g ≠ pb) : (w.setCell ⟨pb, i, none⟩ v).heap[g]? = some o := by
  unfold World.setCell
  simp only [Array.getElem?_modify]
  rw [if_neg (fun e => hne e.symm)]
  exact h
theorem setCell_row {w : World} {pb i : Nat} {v : Value} {cs : Array Value} {t : TypeId} {fr : Nat × Nat} (h : w.heap[pb]? = some (.cells cs t fr)) : (w.setCell ⟨pb, i, none⟩ v).heap[pb]? = some (.cells (cs.setIfInBounds i v) t fr) := by
  unfold World.setCell
  simp [Array.getElem?_modify, h]
theorem Kept.setCell (w : World) (pb i : Nat) (v : Value) {F : Nat → Prop} (hF : F pb) : Kept w (w.setCell ⟨pb, i, none⟩ v) F :=
  ⟨rfl, rfl, rfl, by simp [World.setCell], fun k hk hn => by
    unfold World.setCell
    simp only [Array.getElem?_modify]
    rw [if_neg (fun e : pb = k => hn (by rw [← e]; exact hF))]⟩
theorem add_slot {W : World} {pb : Nat} {net : Bool} {B : Nat} {S : List Slot} {L : List Ent} {all : Nat} (P : PS W pb net B S L all) (u t : Int) (hn : ∀ s ∈ S, ¬ (s.u = u ∧ s.t = t)) :
    ∃ s : Slot, ∃ w2, s.u = u ∧ s.t = t ∧ s.d = #[] ∧
      (Instr.mapUpdate 95 (.map (some B)) (.agg [.int .u8 u, .int .u16 t].toArray) (.pointer (some ⟨(W.alloc (.cells #[] 131)).heap.size, 0, none⟩))).run Tryz.prog ((W.alloc (.cells #[] 131)).alloc (.cells (Value.slice (some ⟨W.heap.size, 0, none⟩) 0 0).cells 128)) = .ok () w2 ∧
      PS w2 pb net B (S ++ [s]) L all ∧ Kept W w2 (fun b => b = B) ∧ (∀ b, foot pb B (S ++ [s]) b → foot pb B S b ∨ W.heap.size ≤ b) := by
  have hs0 : (W.alloc (.cells #[] 131)).heap.size = W.heap.size + 1 := by simp
  have k0 : Kept W ((W.alloc (.cells #[] 131)).alloc (.cells (Value.slice (some ⟨W.heap.size, 0, none⟩) 0 0).cells 128)) (fun _ => False) := (Kept.alloc W _ _).trans (Kept.alloc _ _ (fun _ => False)) (fun _ _ h => h) (fun _ _ h => h)
  have P0 := P.kept k0 (fun _ _ h => h)
  let s : Slot := ⟨u, t, (W.alloc (.cells #[] 131)).heap.size, .slice (some ⟨W.heap.size, 0, none⟩) 0 0, #[]⟩
  have hst := store_new (s := s) hn P0.mp
  have k1 := Kept.block' ((W.alloc (.cells #[] 131)).alloc (.cells (Value.slice (some ⟨W.heap.size, 0, none⟩) 0 0).cells 128)) B (.map (entries (S ++ [s])) (S.length + 1)) (F := fun b => b = B) rfl
  have k2 : Kept W _ (fun b => b = B) := k0.trans k1 (fun _ _ h => h.elim) (fun _ _ h => h)
  have hBl := heap_lt P.mp
  have hg : ∀ g, some g = s.v.ownBlock → W.heap.size ≤ g := fun g h => by simp [s, Value.ownBlock] at h; omega
  have hcl : W.heap.size ≤ s.c := by simp [s]
  refine ⟨s, _, rfl, rfl, rfl, hst, P.add k2 hn (ChangeMaps.heap_setBlock_same P0.mp _) ⟨?_, ?_, ?_⟩ rfl hcl hg, k2, fun b hb => foot_add hcl hg hb⟩
  · exact k1.heap (heap_alloc_new _ _) (fun e => by have : s.c = B := e; simp [s] at this; omega)
  · refine k1.owns ?_ (fun g h e => by have := hg g h.symm; omega)
    exact World.ownsRow.alloc (World.ownsRow_made W #[] 0 (Nat.zero_le _) (by unfold maxLen; omega) rfl) _
  · simp [s, Value.ownBlock]
end Go.Proofs.YtmbjlondehcheaaGreatDoor
end
