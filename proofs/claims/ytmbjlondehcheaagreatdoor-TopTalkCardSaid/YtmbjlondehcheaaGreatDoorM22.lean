/- TopTalk: part 22 of the walks: of HPairOpen, HPairHead, HPairNote, HPairAsks. -/
import Derived.Test.YtmbjlondehcheaaGreatDoorM06
section
set_option linter.unusedSimpArgs false
set_option linter.unusedVariables false
namespace Go.Proofs.YtmbjlondehcheaaGreatDoor
open Go.Shelf Go.RowKit Go.Lib Go.Sort Go.Proofs.YtmbjlondehcheaaGreatDoorW.PrintWords Go.Proofs.YtmbjlondehcheaaGreatDoorW.PrintLast
def frs (l : List Ent) : List Value := l.flatMap fun e => e.f.cs
theorem take_one {L : List Ent} {d : Array Ent} (hd : d.toList = L) {i : Nat} (hi : i < L.length) : L.take (i + 1) = L.take i ++ [d[i]!] := by
  subst hd
  have hi' : i < d.size := by simpa using hi
  rw [List.take_add_one, getElem!_pos d i hi', List.getElem?_eq_getElem hi]
  simp
def Outs (w wr : World) (L : List Ent) (g cap : Nat) (d : Array Ent) (i : Nat) (v : Value) : Prop :=
  wr.ownsRow 0 37 24 v i (frs (L.take i)) ∧ (∀ b, some b = v.ownBlock → w.heap.size ≤ b ∧ b ≠ g) ∧ wr.ownsRow 0 131 25 (.slice (some ⟨g, 0, none⟩) L.length cap) d.size (flat d) ∧ Kept w wr (fun _ => False)
theorem outs_step {w wr : World} {L : List Ent} {g cap : Nat} {d : Array Ent} {i : Nat} {v : Value} (h : Outs w wr L g cap d i v) (hd : d.toList = L) (hi : i < L.length) (hL : L.length ≤ 16) (hg : w.heap.size ≤ g) {Z : Array Value} (hZ : Z.size = 25) :
    ∃ e : Ent, wr.rangeAt g (i * 25) e.cs ∧ (∃ W2, W2 = (wr.alloc (.cells Z 131)).setRow wr.heap.size e.cs.toArray ∧ W2.heap[wr.heap.size]? = some (.cells e.cs.toArray 131 (0, 0)) ∧ W2.rangeAt wr.heap.size 1 e.f.cs ∧
      (Instr.buildSlice 22 1 #[(0, .agg e.f.cs.toArray)]).run Tryz.prog W2 = .ok (.slice (some ⟨W2.heap.size, 0, none⟩) 1 1) (W2.alloc (.cells e.f.cs.toArray 37)) ∧
      ∀ tz, ∃ v' w', (Builtin.append_ #[22, 22] tz #[v, .slice (some ⟨W2.heap.size, 0, none⟩) 1 1]).run Tryz.prog (W2.alloc (.cells e.f.cs.toArray 37)) = .ok v' w' ∧ Outs w w' L g cap d (i + 1) v') := by
  obtain ⟨h1, h2, h3, h4⟩ := h
  have hds : d.size = L.length := by rw [← hd]; simp
  obtain ⟨H, -, -, -⟩ := holds_of_owns h3 (by omega)
  refine ⟨d[i]!, ent_range H (by omega), _, rfl, ?_⟩
  have q0 := Kept.alloc wr (.cells Z 131) (fun _ => False)
  have q1 : Kept wr ((wr.alloc (.cells Z 131)).setRow wr.heap.size (d[i]!).cs.toArray) (fun _ => False) := q0.trans (Kept.setRow _ wr.heap.size _ (F := fun b => b = wr.heap.size) rfl) (fun _ _ h => h) (fun k hk h => by omega)
  have e1 := setRow_heap (wr.alloc (.cells Z 131)) wr.heap.size Z (d[i]!).cs.toArray 131 _ (heap_alloc_new _ _)
  have hs2 : ((wr.alloc (.cells Z 131)).setRow wr.heap.size (d[i]!).cs.toArray).heap.size = wr.heap.size + 1 := by simp
  generalize ((wr.alloc (.cells Z 131)).setRow wr.heap.size (d[i]!).cs.toArray) = W2 at *
  refine ⟨e1, fr_range e1, lit_fr W2 _, fun tz => ?_⟩
  have q2 : Kept wr (W2.alloc (.cells (d[i]!).f.cs.toArray 37)) (fun _ => False) := q1.trans (Kept.alloc W2 _ _) (fun _ _ h => h) (fun _ _ h => h)
  obtain ⟨v', w', a1, a2, a3, a4⟩ := app_fr (W2.alloc (.cells (d[i]!).f.cs.toArray 37)) tz v i (frs (L.take i)) (d[i]!).f (q2.owns h1 (fun _ _ h => h)) W2.heap.size (heap_alloc_new _ _) (by omega)
  have kg := Kept.grown a3 (F := fun b => some b = v.ownBlock) (fun _ h => h)
  have hsz : (W2.alloc (.cells (d[i]!).f.cs.toArray 37)).heap.size = wr.heap.size + 2 := by simp [hs2]
  refine ⟨v', w', a1, ?_, ?_, ?_, ?_⟩
  · have := take_one hd hi
    rw [this]
    simp only [frs, List.flatMap_append, List.flatMap_cons, List.flatMap_nil, List.append_nil]
    exact a2
  · intro b hb
    have hgl : g < wr.heap.size := by
      rcases h3.2 with ⟨h, _⟩ | ⟨g', cap', cur, h, _, hg', _⟩
      · cases h
      · injection h with h; injection h with h; injection h with h; rw [h]; exact heap_lt hg'
    rcases a4 with h | h
    · exact h2 b (hb.trans h)
    · rw [h, hsz] at hb
      injection hb with hb
      have := h4.size
      omega
  · exact kg.owns (q2.owns h3 (fun _ _ h => h)) (fun b hb h => by simp [Value.ownBlock] at hb; have := h2 b h; omega)
  · exact (h4.trans q2 (fun _ _ h => h) (fun _ _ h => h)).trans kg (fun _ _ h => h) (fun k hk h => by have := h2 k h; omega)
theorem open_mid {w wr : World} {pb : Nat} {net : Bool} {B : Nat} {S : List Slot} {L : List Ent} {all : Nat} (hP : PS w pb net B S L all) {kx : Nat} {v : Value} (h : Seen w wr B S kx v) (acc : Array Ent) (hacc : acc.toList.Perm L) (how : wr.ownsRow 0 131 25 v acc.size (flat acc)) :
    Calls Tryz.prog 39 #[v, .func (.func 40) #[] #[]] wr fun r w' => r = .returned (.tuple #[]) ∧ ∃ a cap, v = .slice a L.length cap ∧ Kept w w' (fun _ => False) ∧ (∀ i, i < L.length → ∃ g d, a = some ⟨g, 0, none⟩ ∧ w.heap.size ≤ g ∧ d.toList = L ∧ Outs w w' L g cap d 0 (.slice none 0 0)) := by
  obtain ⟨σ, c0, acc0, hr, hc0, hnd, hlt, hacc0, how0, hfr, hk, hkx⟩ := h
  have hsz : acc.size = L.length := by have := hacc.length_eq; simpa using this
  have hfew := hP.few
  refine (sort_calls wr v acc how (by omega)).mono fun r w' ⟨he, d', hp, hs, ho, k⟩ => ⟨he, ?_⟩
  have hdL : d'.toList = L := eq_of_age (hp.trans hacc) hs hP.book.age
  have hds : d'.size = L.length := by rw [← hdL]; simp
  have kw : Kept w w' (fun _ => False) := hk.trans k (fun _ _ h => h) (fun b hb h => by have := hfr b h; omega)
  rw [hsz] at ho
  rcases ho.2 with ⟨h1, h2⟩ | ⟨g, cap, cur, h1, _⟩
  · exact ⟨none, 0, by rw [h1, h2], kw, fun i hi => by omega⟩
  · refine ⟨some ⟨g, 0, none⟩, cap, h1, kw, fun i hi => ⟨g, d', rfl, ?_, hdL, ?_, ?_, ?_, kw⟩⟩
    · have := hfr g (by rw [h1]; rfl); omega
    · exact World.ownsRow_nil _ _ _ _
    · intro b hb; simp [Value.ownBlock] at hb
    · rw [← h1, hds]; exact ho
set_option maxHeartbeats 400000 in
set_option maxRecDepth 1000000 in
theorem open_calls (w : World) (pb : Nat) (net : Bool) (B : Nat) (S : List Slot) (L : List Ent) (all : Nat) (hP : PS w pb net B S L all) :
    Calls Tryz.prog 19 #[.pointer (some ⟨pb, 0, none⟩)] w fun r w' => ∃ v, r = .returned v ∧ w'.ownsRow 0 37 24 v L.length (frs L) ∧ (∀ g, some g = v.ownBlock → w.heap.size ≤ g) ∧ Kept w w' (fun _ => False) := by
  have c1 := hP.c1
  have hrange := run_range_map w 95 _ _ B (entries S) S.length Tryz.underlying95 hP.mp
  have hfew := hP.few
  have START : Aside0 (Seen w (w.alloc (.mapIter (some B) S.length #[] S.length)) B S S.length (.slice none 0 0)) := ⟨[], S.length, #[], heap_alloc_new _ _, Nat.le_refl _, by simp, by simp, rfl, World.ownsRow_nil _ _ _ _, fun g hg => by simp [Value.ownBlock] at hg, Kept.alloc w _ _, by simp⟩
  obtain ⟨Z, hZ, hz⟩ := zero77
  go_enter Tryz.func19, Tryz.ntmps19
  go_wp2
  clear c1 hrange
  go_loopg [3] S.length (fun kx s3 wr => Aside0 (Seen w wr B S kx s3))
  case atStart => exact START
  case round =>
    clear START
    rcases seen_step hP hrel.out 0 with ⟨hrun, acc, hacc, how⟩ | ⟨key, s, W, hs, hrun, hentry, hcell, hkx, happ⟩
    · have hsort := open_mid hP hrel.out acc hacc how
      clear hrel how
      go_wp2_with (go_at_call 39; with_reducible refine hsort.mono ?_; rintro e w2 ⟨rfl, a, cap, rfl, hk2, hmid⟩)
      clear hrun hsort
      go_loopg [6, 27] L.length (fun kx s6 s27 w3 => ∃ i : Nat, s27 = .int .i64 i ∧ i ≤ L.length ∧ L.length - i ≤ kx ∧ Aside0 (w3.ownsRow 0 37 24 s6 i (frs (L.take i)) ∧ (∀ b, some b = s6.ownBlock → w.heap.size ≤ b) ∧ Kept w w3 (fun _ => False) ∧ (i < L.length → ∃ g d, a = some ⟨g, 0, none⟩ ∧ w.heap.size ≤ g ∧ d.toList = L ∧ Outs w w3 L g cap d i s6)))
      case atStart => exact ⟨0, rfl, Nat.zero_le _, Nat.le_refl _, ⟨World.ownsRow_nil _ _ _ _, fun b hb => by simp [Value.ownBlock] at hb, hk2, fun h => hmid 0 h⟩⟩
      case round =>
        obtain ⟨i, rfl, hi, hkx, ⟨o1, o2, o3, o4⟩⟩ := hrel
        clear hmid hk2
        by_cases hlt : i < L.length
        · obtain ⟨g, d, rfl, hg, hd, hO⟩ := o4 hlt
          obtain ⟨e, hr, W2, hW2, f1, f2, hlit, happ⟩ := outs_step hO hd hlt hfew hg hZ
          have hiz : (i : Int) < (L.length : Int) := by omega
          have hLz : (L.length : Int) ≤ 16 := by omega
          have sz77 := size77 e.cs.toArray rfl
          have szl77 : (Tryz.prog.info? 131).map (·.size) = some e.cs.length := by rw [Ent.len]; kernel_rfl
          have szl44 : (Tryz.prog.info? 37).map (·.size) = some e.f.cs.length := by rw [Fr.len]; kernel_rfl
          have hone := all_oneCell_toArray e.one
          have hZc : Z.size = e.cs.toArray.size := by rw [hZ]; rfl
          have W2e : Aside0 (W2 = (wr.alloc (.cells Z 131)).setRow wr.heap.size e.cs.toArray) := ⟨hW2⟩
          have REST : Aside0 (∀ v' w', Outs w w' L g cap d (i + 1) v' → w'.ownsRow 0 37 24 v' (i + 1) (frs (L.take (i + 1))) ∧ (∀ b, some b = v'.ownBlock → w.heap.size ≤ b) ∧ Kept w w' (fun _ => False) ∧ (i + 1 < L.length → ∃ g' d, some (⟨g, 0, none⟩ : Addr) = some ⟨g', 0, none⟩ ∧ w.heap.size ≤ g' ∧ d.toList = L ∧ Outs w w' L g' cap d (i + 1) v')) :=
            ⟨fun v' w' h => ⟨h.1, fun b hb => (h.2.1 b hb).1, h.2.2.2, fun _ => ⟨g, d, rfl, hg, hd, h⟩⟩⟩
          clear hW2 o1 o2 o3 o4 hO hd
          go_wp2_with (first
            | (refine wpList_load_mid rfl 131 (.tmp 29) rfl g (i * 25) rfl e.cs _ hr Tryz.underlying131 rfl szl77 ?_)
            | (refine wpList_store_row rfl 131 (.tmp 8) (.tmp 30) rfl wr.heap.size e.cs.toArray rfl rfl 131 Z (heap_alloc_new _ _) sz77 hZc hone ?_; rw [← W2e.out]; clear hr)
            | (refine wpList_load_mid rfl 37 (.tmp 32) rfl wr.heap.size 1 rfl e.f.cs _ f2 Tryz.underlying37 rfl szl44 ?_)
            | (refine wpList_lit1 rfl 22 (.tmp 33) rfl (some 34) rfl (.agg e.f.cs.toArray) rfl (.slice (some ⟨W2.heap.size, 0, none⟩) 1 1) (W2.alloc (.cells e.f.cs.toArray 37)) hlit ?_)
            | (obtain ⟨v', w', ha, hO⟩ := happ 22; refine wpList_app rfl (.tmp 31) (.tmp 34) 22 22 rfl (some 35) rfl _ (.slice (some ⟨W2.heap.size, 0, none⟩) 1 1) rfl rfl v' w' ha ?_; clear happ ha))
          go_roundg (L.length - (i + 1))
          case measure => omega
          case rel => exact ⟨i + 1, by go_num, by omega, Nat.le_refl _, ⟨REST.out _ _ hO⟩⟩
        · have hge : ¬ ((i : Int) < (L.length : Int)) := by omega
          have hiL : i = L.length := by omega
          have FIN : Aside0 _ := ⟨And.intro o1 (And.intro o2 o3)⟩
          clear o1 o2 o3 o4
          go_wp2
          go_ret
          obtain ⟨p1, p2, p3⟩ := FIN.out
          refine ⟨_, rfl, ?_, p2, p3⟩
          rw [hiL, List.take_length] at p1
          exact p1
    · clear hrel
      have HAPP : Aside0 _ := ⟨happ⟩
      clear happ
      go_wp2_with (obtain ⟨v', w', ha, hO⟩ := HAPP.out 126; refine wpList_app rfl (.tmp 18) (.tmp 21) 126 128 rfl (some 22) rfl _ s.v rfl rfl v' w' ha ?_; clear HAPP ha)
      go_roundg (gk - 1)
      case measure => omega
      case rel => exact ⟨hO⟩
end Go.Proofs.YtmbjlondehcheaaGreatDoor
end
section
set_option linter.unusedSimpArgs false
set_option linter.unusedVariables false
namespace Go.Proofs.YtmbjlondehcheaaGreatDoor
open Go.Shelf Go.RowKit Go.Lib Go.Sort Go.Proofs.YtmbjlondehcheaaGreatDoorW.PrintWords Go.Proofs.YtmbjlondehcheaaGreatDoorW.PrintLast
theorem frs_len (l : List Ent) : (frs l).length = l.length * 24 := by
  induction l with
  | nil => rfl
  | cons a l ih => simp only [frs, List.flatMap_cons, List.length_append, List.length_cons] at *; rw [ih, Fr.len]; omega
theorem fr_at {w : World} {v : Value} {L : List Ent} (h : w.ownsRow 0 37 24 v L.length (frs L)) {i : Nat} (hi : i < L.length) : ∃ g cap, v = .slice (some ⟨g, 0, none⟩) L.length cap ∧ w.rangeAt g (i * 24) (L[i]!).f.cs := by
  rcases h.2 with ⟨_, h1⟩ | ⟨g, cap, cur, hv, _, hg, hnc, hcm, hcs, htake⟩
  · omega
  · refine ⟨g, cap, hv, fun j u hu => ?_⟩
    have hj : j < 24 := by have := (List.getElem?_eq_some_iff.1 hu).1; rwa [Fr.len] at this
    have key : (frs L)[i * 24 + j]? = some u := by
      have hsplit : L = L.take i ++ L[i] :: L.drop (i + 1) := by rw [← List.drop_eq_getElem_cons hi, List.take_append_drop]
      rw [getElem!_pos L i hi] at hu
      have e : frs (L.take i ++ L[i] :: L.drop (i + 1)) = frs (L.take i) ++ (L[i].f.cs ++ frs (L.drop (i + 1))) := by
        unfold frs; rw [List.flatMap_append, List.flatMap_cons]
      rw [← hsplit] at e
      have hl := frs_len (L.take i)
      rw [List.length_take, Nat.min_eq_left (Nat.le_of_lt hi)] at hl
      rw [e, List.getElem?_append_right (by omega), hl, Nat.add_sub_cancel_left, List.getElem?_append_left (by rw [Fr.len]; exact hj)]
      exact hu
    have hc := h.cells (g := g) (by rw [hv]; rfl) (i * 24 + j) u key
    rw [Addr.add_mid, Nat.zero_add] at hc
    exact hc
theorem owns_len {w : World} {base : Nat} {e : TypeId} {size : Nat} {v : Value} {n : Nat} {xs : List Value} (h : w.ownsRow base e size v n xs) : ∃ a cap, v = .slice a n cap := by
  rcases h.2 with ⟨h, h0⟩ | ⟨g, cap, cur, h, _⟩
  · exact ⟨none, 0, by rw [h, h0]⟩
  · exact ⟨_, _, h⟩
def hdOf (net : Bool) (L : List Ent) (f : Fr) : Int × Int := if net then (f.u, f.t) else match L.find? (fun e => decide (e.f.u = f.u)) with | some e => (e.f.u, e.f.t) | none => (f.u, f.t)
structure HdAt (w wr : World) (pb : Nat) (net : Bool) (B : Nat) (S : List Slot) (L : List Ent) (all : Nat) (f : Fr) (a : Option Addr) (cap : Nat) : Prop where
  ps : PS wr pb net B S L all
  fr : wr.heap[w.heap.size]? = some (.cells f.cs.toArray 37 (0, 0))
  out : wr.heap[w.heap.size + 1]? = some (.cells #[.int .u8 0, .int .u16 0] 29 (0, 0))
  row : wr.ownsRow 0 37 24 (.slice a L.length cap) L.length (frs L)
  kept : Kept w wr (fun _ => False)
  size : w.heap.size + 2 ≤ wr.heap.size
theorem HdAt.store {w wr : World} {pb : Nat} {net : Bool} {B : Nat} {S : List Slot} {L : List Ent} {all : Nat} {f : Fr} {a : Option Addr} {cap : Nat} (h : HdAt w wr pb net B S L all f a cap) (x : Fr) :
    HdAt w ((wr.alloc (.cells fr0.cs.toArray 37)).setRow wr.heap.size x.cs.toArray) pb net B S L all f a cap ∧ ((wr.alloc (.cells fr0.cs.toArray 37)).setRow wr.heap.size x.cs.toArray).heap[wr.heap.size]? = some (.cells x.cs.toArray 37 (0, 0)) := by
  have q : Kept wr ((wr.alloc (.cells fr0.cs.toArray 37)).setRow wr.heap.size x.cs.toArray) (fun _ => False) := (Kept.alloc wr _ (fun _ => False)).trans (Kept.setRow _ wr.heap.size _ (F := fun b => b = wr.heap.size) rfl) (fun _ _ h => h) (fun k hk h => by omega)
  exact ⟨⟨h.ps.kept q (fun _ _ h => h), q.heap h.fr (fun h => h), q.heap h.out (fun h => h), q.owns h.row (fun _ _ h => h), h.kept.trans q (fun _ _ h => h) (fun _ _ h => h), Nat.le_trans h.size q.size⟩, setRow_heap _ _ _ _ 37 _ (heap_alloc_new _ _)⟩
theorem bcast_calls (u : Int) (w : World) : Calls Tryz.prog 47 #[.int .u8 u] w fun r w' => r = .returned (.bool (decide (u = 0))) ∧ w' = w := by
  go_enter Tryz.func47, Tryz.ntmps47
  go_wp2
  go_ret
  exact ⟨rfl, rfl⟩
theorem size35 (u t : Int) : (Tryz.prog.info? 29).map (·.size) = some (#[Value.int .u8 u, Value.int .u16 t] : Array Value).size := by kernel_rfl
set_option maxHeartbeats 400000 in
set_option maxRecDepth 1000000 in
theorem phead_calls (w : World) (pb : Nat) (net : Bool) (B : Nat) (S : List Slot) (L : List Ent) (all : Nat) (f : Fr) (hP : PS w pb net B S L all) :
    Calls Tryz.prog 35 #[.pointer (some ⟨pb, 0, none⟩), .agg f.cs.toArray] w fun r w' => r = .returned (.agg #[.int .u8 (hdOf net L f).1, .int .u16 (hdOf net L f).2]) ∧ Kept w w' (fun _ => False) := by
  have hz := fr0_zero
  have k1 : Kept w ((w.alloc (.cells f.cs.toArray 37)).alloc (.cells #[.int .u8 0, .int .u16 0] 29)) (fun _ => False) := (Kept.alloc w _ _).trans (Kept.alloc _ _ (fun _ => False)) (fun _ _ h => h) (fun _ _ h => h)
  have F1 : ((w.alloc (.cells f.cs.toArray 37)).alloc (.cells #[.int .u8 0, .int .u16 0] 29)).heap[w.heap.size]? = some (.cells f.cs.toArray 37 (0, 0)) := by rw [heap_alloc_old _ _ (by simp)]; exact heap_alloc_new _ _
  have N1 : ((w.alloc (.cells f.cs.toArray 37)).alloc (.cells #[.int .u8 0, .int .u16 0] 29)).heap[w.heap.size + 1]? = some (.cells #[.int .u8 0, .int .u16 0] 29 (0, 0)) := by
    have := heap_alloc_new (w.alloc (.cells f.cs.toArray 37)) (.cells #[.int .u8 0, .int .u16 0] 29)
    simpa using this
  have hop := open_calls _ pb net B S L all (hP.kept k1 (fun _ _ h => h))
  have hfew := hP.few
  have P0 : Aside0 (PS w pb net B S L all) := ⟨hP⟩
  have one0 := all_oneCell_toArray fr0.one
  clear hP
  go_enter Tryz.func35, Tryz.ntmps35
  go_wp2_with fail
  generalize ((w.alloc (.cells f.cs.toArray 37)).alloc (.cells #[.int .u8 0, .int .u16 0] 29)) = w1 at *
  go_wp2_with (go_at_call 19; with_reducible refine hop.mono ?_; rintro e w2 ⟨v, rfl, ho, hfr, k2⟩; obtain ⟨a, cap, rfl⟩ := owns_len ho)
  have START : Aside0 ((∀ e ∈ L.take 0, ¬ (net = false ∧ e.f.u = f.u)) ∧ HdAt w w2 pb net B S L all f a cap) := ⟨by simp, P0.out.kept (k1.trans k2 (fun _ _ h => h) (fun _ _ h => h)) (fun _ _ h => h), k2.heap F1 (fun h => h), k2.heap N1 (fun h => h), ho, k1.trans k2 (fun _ _ h => h) (fun _ _ h => h), by have := heap_lt N1; have := k2.size; omega⟩
  clear hop ho hfr k2 P0 F1 N1 k1
  go_loopg [10] L.length (fun kx s10 wr => ∃ i : Nat, s10 = .int .i64 i ∧ i ≤ L.length ∧ L.length - i ≤ kx ∧ Aside0 ((∀ e ∈ L.take i, ¬ (net = false ∧ e.f.u = f.u)) ∧ HdAt w wr pb net B S L all f a cap))
  case atStart => exact ⟨0, rfl, Nat.zero_le _, Nat.le_refl _, START⟩
  case round =>
    clear START
    obtain ⟨i, rfl, hi, hkx, ⟨hno, hH⟩⟩ := hrel
    by_cases hlt : i < L.length
    · obtain ⟨g, cap', hv, hr⟩ := fr_at hH.row hlt
      injection hv with ha hb hc
      subst ha hc
      obtain ⟨e, he⟩ : ∃ e, e = L[i]! := ⟨_, rfl⟩
      rw [← he] at hr
      have hiz : (i : Int) < (L.length : Int) := by omega
      have hLz : (L.length : Int) ≤ 16 := by omega
      have hH2 := hH.store e.f
      have sz44 := size44 e.f.cs.toArray rfl
      have szl44 : (Tryz.prog.info? 37).map (·.size) = some e.f.cs.length := by rw [Fr.len]; kernel_rfl
      have hone := all_oneCell_toArray e.f.one
      have hZc : fr0.cs.toArray.size = e.f.cs.toArray.size := rfl
      have W2x : ∃ W2, W2 = (wr.alloc (.cells fr0.cs.toArray 37)).setRow wr.heap.size e.f.cs.toArray := ⟨_, rfl⟩
      obtain ⟨W2, hW2⟩ := W2x
      rw [← hW2] at hH2
      obtain ⟨hH2, f6⟩ := hH2
      have W2e : Aside0 (W2 = (wr.alloc (.cells fr0.cs.toArray 37)).setRow wr.heap.size e.f.cs.toArray) := ⟨hW2⟩
      have cn := hH2.ps.c0
      have cx : W2.cell? ⟨wr.heap.size, 0, none⟩ = some (.int .u8 e.f.u) := by rw [cell_of_row W2 wr.heap.size 0 _ 37 (0, 0) f6]; rfl
      have cf : W2.cell? ⟨w.heap.size, 0, none⟩ = some (.int .u8 f.u) := by rw [cell_of_row W2 w.heap.size 0 _ 37 (0, 0) hH2.fr]; rfl
      have rx := head_range f6
      have N2 := hH2.out
      have sz35 := size35 e.f.u e.f.t
      have one35 : (#[Value.int .u8 e.f.u, Value.int .u16 e.f.t] : Array Value).all (·.oneCell') = true := by kernel_rfl
      have szl35 : (Tryz.prog.info? 29).map (·.size) = some [Value.int .u8 e.f.u, Value.int .u16 e.f.t].length := by kernel_rfl
      have NEXT : Aside0 (¬ (net = false ∧ e.f.u = f.u) → (∀ e ∈ L.take (i + 1), ¬ (net = false ∧ e.f.u = f.u)) ∧ HdAt w W2 pb net B S L all f (some ⟨g, 0, none⟩) cap) := ⟨fun hn => ⟨fun x hx => by
        rw [List.take_add_one, List.mem_append] at hx
        rcases hx with hx | hx
        · exact hno x hx
        · have hxe : x = e := by rw [he, getElem!_pos L i hlt]; rw [List.getElem?_eq_getElem hlt] at hx; simpa using hx
          rw [hxe]; exact hn, hH2⟩⟩
      have HIT : Aside0 (net = false → e.f.u = f.u → hdOf net L f = (e.f.u, e.f.t)) := ⟨fun h1 h2 => by
        unfold hdOf
        rw [if_neg (by rw [h1]; simp)]
        have hf : L.find? (fun e => decide (e.f.u = f.u)) = some e := by
          rw [List.find?_eq_some_iff_append]
          refine ⟨by simpa using h2, L.take i, L.drop (i + 1), ?_, fun b hb => ?_⟩
          · rw [he, getElem!_pos L i hlt, ← List.drop_eq_getElem_cons hlt, List.take_append_drop]
          · simp; intro h; exact hno b hb ⟨h1, h⟩
        rw [hf]⟩
      have KW : Aside0 (Kept w (W2.setRow (w.heap.size + 1) #[.int .u8 e.f.u, .int .u16 e.f.t]) (fun _ => False)) := ⟨hH2.kept.trans (Kept.setRow W2 (w.heap.size + 1) _ (F := fun b => b = w.heap.size + 1) rfl) (fun _ _ h => h) (fun k hk h => by omega)⟩
      clear hW2 hno hH hH2 f6 he
      by_cases hhit : net = false ∧ e.f.u = f.u
      · obtain ⟨rfl, hu⟩ := hhit
        have KW2 := KW.out
        have HIT2 := HIT.out rfl hu
        rw [hu] at cx rx sz35 one35 szl35 KW2 HIT2
        have KW3 : Aside0 _ := ⟨KW2⟩
        have HIT3 : Aside0 _ := ⟨HIT2⟩
        clear NEXT KW HIT KW2 HIT2 hu
        go_wp2_with (first
          | (refine wpList_load_mid rfl 37 (.tmp 12) rfl g (i * 24) rfl e.f.cs _ hr Tryz.underlying37 rfl szl44 ?_)
          | (have q44 := sz44; refine wpList_store_row rfl 37 (.tmp 6) (.tmp 13) rfl wr.heap.size e.f.cs.toArray rfl rfl 37 fr0.cs.toArray (heap_alloc_new _ _) sz44 hZc hone ?_; rw [← W2e.out]; clear hr sz44 q44)
          | (refine wpList_load_mid rfl 29 (.tmp 28) rfl wr.heap.size 0 rfl [.int .u8 f.u, .int .u16 e.f.t] _ rx Tryz.underlying29 rfl szl35 ?_)
          | (refine wpList_store_row rfl 29 (.tmp 4) (.tmp 29) rfl (w.heap.size + 1) #[.int .u8 f.u, .int .u16 e.f.t] rfl rfl 29 #[.int .u8 0, .int .u16 0] N2 sz35 rfl one35 ?_))
        refine bodyPost_ret (v := .agg #[.int .u8 f.u, .int .u16 e.f.t]) (results_cell_row (p := 4) (ty := 29) Tryz.results35 _ _ (w.heap.size + 1) 29 _ (0, 0) _ rfl (setRow_heap _ _ _ _ 29 _ N2) Tryz.underlying29 rfl sz35) rfl ⟨?_, KW3.out⟩
        rw [HIT3.out]
      · have hN := NEXT.out hhit
        have HN : Aside0 _ := ⟨hN⟩
        clear NEXT hN HIT KW
        have hcase : net = true ∨ (net = false ∧ ¬ (e.f.u = f.u)) := by
          cases hn : net
          · right; exact ⟨rfl, fun h => hhit ⟨hn, h⟩⟩
          · left; rfl
        clear hhit
        rcases hcase with rfl | ⟨rfl, hu⟩
        · go_wp2_with (first
            | (refine wpList_load_mid rfl 37 (.tmp 12) rfl g (i * 24) rfl e.f.cs _ hr Tryz.underlying37 rfl szl44 ?_)
            | (have q44 := sz44; refine wpList_store_row rfl 37 (.tmp 6) (.tmp 13) rfl wr.heap.size e.f.cs.toArray rfl rfl 37 fr0.cs.toArray (heap_alloc_new _ _) sz44 hZc hone ?_; rw [← W2e.out]; clear hr sz44 q44))
          go_roundg (L.length - (i + 1))
          case measure => omega
          case rel => exact ⟨i + 1, by go_num, by omega, Nat.le_refl _, HN⟩
        · go_wp2_with (first
            | (refine wpList_load_mid rfl 37 (.tmp 12) rfl g (i * 24) rfl e.f.cs _ hr Tryz.underlying37 rfl szl44 ?_)
            | (have q44 := sz44; refine wpList_store_row rfl 37 (.tmp 6) (.tmp 13) rfl wr.heap.size e.f.cs.toArray rfl rfl 37 fr0.cs.toArray (heap_alloc_new _ _) sz44 hZc hone ?_; rw [← W2e.out]; clear hr sz44 q44))
          go_roundg (L.length - (i + 1))
          case measure => omega
          case rel => exact ⟨i + 1, by go_num, by omega, Nat.le_refl _, HN⟩
    · have hge : ¬ ((i : Int) < (L.length : Int)) := by omega
      have hiL : i = L.length := by omega
      have rx := head_range hH.fr
      have N2 := hH.out
      have sz35 := size35 f.u f.t
      have one35 : (#[Value.int .u8 f.u, Value.int .u16 f.t] : Array Value).all (·.oneCell') = true := by kernel_rfl
      have szl35 : (Tryz.prog.info? 29).map (·.size) = some [Value.int .u8 f.u, Value.int .u16 f.t].length := by kernel_rfl
      have HIT : Aside0 (hdOf net L f = (f.u, f.t)) := ⟨by
        unfold hdOf
        split
        · rfl
        · rename_i hn
          have hf : L.find? (fun e => decide (e.f.u = f.u)) = none := by
            rw [List.find?_eq_none]
            intro x hx
            rw [hiL, List.take_length] at hno
            simpa using fun h => hno x hx ⟨by simpa using hn, h⟩
          rw [hf]⟩
      have KW : Aside0 (Kept w (wr.setRow (w.heap.size + 1) #[.int .u8 f.u, .int .u16 f.t]) (fun _ => False)) := ⟨hH.kept.trans (Kept.setRow wr (w.heap.size + 1) _ (F := fun b => b = w.heap.size + 1) rfl) (fun _ _ h => h) (fun k hk h => by omega)⟩
      clear hno hH hiL
      go_wp2_with (first
        | (refine wpList_load_mid rfl 29 (.tmp 31) rfl w.heap.size 0 rfl [.int .u8 f.u, .int .u16 f.t] _ rx Tryz.underlying29 rfl szl35 ?_)
        | (refine wpList_store_row rfl 29 (.tmp 4) (.tmp 32) rfl (w.heap.size + 1) #[.int .u8 f.u, .int .u16 f.t] rfl rfl 29 #[.int .u8 0, .int .u16 0] N2 sz35 rfl one35 ?_))
      refine bodyPost_ret (v := .agg #[.int .u8 f.u, .int .u16 f.t]) (results_cell_row (p := 4) (ty := 29) Tryz.results35 _ _ (w.heap.size + 1) 29 _ (0, 0) _ rfl (setRow_heap _ _ _ _ 29 _ N2) Tryz.underlying29 rfl sz35) rfl ⟨?_, KW.out⟩
      rw [HIT.out]
end Go.Proofs.YtmbjlondehcheaaGreatDoor
end
section
set_option linter.unusedSimpArgs false
set_option linter.unusedVariables false
namespace Go.Proofs.YtmbjlondehcheaaGreatDoor
open Go.Shelf Go.RowKit Go.Lib Go.Sort Go.Proofs.YtmbjlondehcheaaGreatDoorW.PrintWords Go.Proofs.YtmbjlondehcheaaGreatDoorW.PrintLast
def nts (l : List Nt) : List Value := l.flatMap Nt.cs
def ask (net : Bool) (L : List Ent) (all : Nat) (f : Fr) : List Nt × List Ent × Nat :=
  if net then (if L.length = 16 then ([⟨3, f, fr0⟩], L, all) else ([⟨0, f, fr0⟩], L ++ [⟨all, f⟩], all + 1))
  else if f.u = 0 then ([⟨1, f, fr0⟩], L, all) else (L.map (fun x => ⟨2, x.f, fr0⟩) ++ [⟨0, f, fr0⟩], [⟨all, f⟩], all + 1)
theorem PS.not_foot {w : World} {pb : Nat} {net : Bool} {B : Nat} {S : List Slot} {L : List Ent} {all : Nat} (h : PS w pb net B S L all) {g : Nat} {cur : Array Value} {e : TypeId} {fr : Nat × Nat} (hg : w.heap[g]? = some (.cells cur e fr)) (he : e ≠ 97 ∧ e ≠ 128 ∧ e ≠ 131) : ¬ foot pb B S g := by
  intro hf
  rcases hf with rfl | rfl | ⟨s, hs, rfl | ho⟩
  · rw [h.cell] at hg; injection hg with hg; injection hg with _ h2; exact he.1 h2.symm
  · rw [h.mp] at hg; cases hg
  · rw [(h.age s hs).at_] at hg; injection hg with hg; injection hg with _ h2; exact he.2.1 h2.symm
  · obtain ⟨cur', hc⟩ := (h.age s hs).own ho
    rw [hc] at hg; injection hg with hg; injection hg with _ h2; exact he.2.2 h2.symm
theorem PS.not_foot_row {w : World} {pb : Nat} {net : Bool} {B : Nat} {S : List Slot} {L : List Ent} {all : Nat} (h : PS w pb net B S L all) {e : TypeId} {size : Nat} {v : Value} {n : Nat} {xs : List Value} (ho : w.ownsRow 0 e size v n xs) (he : e ≠ 97 ∧ e ≠ 128 ∧ e ≠ 131) : ∀ g, v.ownBlock = some g → ¬ foot pb B S g := by
  intro g hg
  rcases ho.2 with ⟨rfl, _⟩ | ⟨g', cap, cur, rfl, _, hc, _⟩
  · simp [Value.ownBlock] at hg
  · simp [Value.ownBlock] at hg; subst hg; exact h.not_foot hc he
theorem info55 : ∃ ie z, Tryz.prog.info? 52 = some ie ∧ ie.zero = some z ∧ ie.size = 49 ∧ z.cells.size = 49 ∧ ie.bytes = 328 := by
  have h : ((Tryz.prog.info? 52).bind fun ie => ie.zero.map fun z => (ie.size, z.cells.size, ie.bytes)) = some (49, 49, 328) := by kernel_rfl
  cases hi : Tryz.prog.info? 52 with
  | none => rw [hi] at h; cases h
  | some ie =>
    rw [hi] at h
    cases hz : ie.zero with
    | none => simp [hz] at h
    | some z => simp [hz] at h; exact ⟨ie, z, rfl, hz, h.1, h.2.1, h.2.2⟩
theorem lit_nt (w : World) (n : Nt) : (Instr.buildSlice 48 1 #[(0, .agg n.cs.toArray)]).run Tryz.prog w = .ok (.slice (some ⟨w.heap.size, 0, none⟩) 1 1) (w.alloc (.cells n.cs.toArray 52)) := by
  obtain ⟨ie, z, h1, h2, h3, h4, _⟩ := info55
  exact run_lit1 w 48 52 n.cs ie z 49 Tryz.underlying48 h1 h2 h3 h4 rfl (by omega) (by omega)
theorem app_nt (w : World) (ty : TypeId) (v : Value) (n : Nat) (xs : List Value) (f : Nt) (ho : w.ownsRow 0 52 49 v n xs) (g : Nat) (hg : w.heap[g]? = some (.cells f.cs.toArray 52 (0, 0))) (hn : n < 1000000) :
    ∃ v' w', (Builtin.append_ #[48, 48] ty #[v, .slice (some ⟨g, 0, none⟩) 1 1]).run Tryz.prog w = .ok v' w' ∧ w'.ownsRow 0 52 49 v' (n + 1) (xs ++ f.cs) ∧ w.grownBy w' v.ownBlock ∧
      (v'.ownBlock = v.ownBlock ∨ v'.ownBlock = some w.heap.size) := by
  obtain ⟨ie, z, h1, h2, h3, h4, h5⟩ := info55
  obtain ⟨v', w', q1, q2, q3, _, q5⟩ := run_append_own_at (P := Tryz.prog) w 0 48 ty 52 ie z 49 328 Tryz.underlying48 h1 h2 h3 h5 h4 (by omega) v n xs ho ⟨g, 0, none⟩ 1 1 f.cs rfl
    (fun j u hu => by rw [Addr.add_mid, cell_of_row w g (0 + j) _ 52 (0, 0) hg]; simpa using hu) f.one (by unfold maxLen; omega) (by omega) (Nat.zero_le _)
  exact ⟨v', w', q1, q2, q3, q5⟩
theorem one_nt (w : World) (n : Nt) : (w.alloc (.cells n.cs.toArray 52)).ownsRow 0 52 49 (.slice (some ⟨w.heap.size, 0, none⟩) 1 1) 1 (nts [n]) :=
  ⟨rfl, .inr ⟨w.heap.size, 1, n.cs.toArray, rfl, Nat.zero_le _, heap_alloc_new _ _, Nat.le_refl _, by unfold maxLen; omega, rfl, by simp only [nts, List.flatMap_cons, List.flatMap_nil, List.append_nil]; exact List.take_of_length_le (Nat.le_of_eq (Nt.len n))⟩⟩
structure Fin (w w' : World) (pb : Nat) (net : Bool) (B : Nat) (S : List Slot) (v : Value) (ns : List Nt) (L : List Ent) (all : Nat) : Prop where
  row : w'.ownsRow 0 52 49 v ns.length (nts ns)
  new : ∀ g, some g = v.ownBlock → w.heap.size ≤ g
  ps : ∃ S', PS w' pb net B S' L all ∧ ∀ b, foot pb B S' b → foot pb B S b ∨ w.heap.size ≤ b
  kept : Kept w w' (foot pb B S)
theorem put_end (w W : World) (pb : Nat) (net : Bool) (B : Nat) (S S1 : List Slot) (L : List Ent) (all : Nat) (f : Fr) (hP : PS W pb net B S1 L all) (hf : L.length < 16) (hy : all < 1000000) (hft : ∀ b, foot pb B S1 b → foot pb B S b ∨ w.heap.size ≤ b) (hk : Kept w W (foot pb B S))
    (v5 : Value) (ns : List Nt) (h5 : W.ownsRow 0 52 49 v5 ns.length (nts ns)) (hn5 : ∀ g, some g = v5.ownBlock → w.heap.size ≤ g) (hl : ns.length ≤ 16) :
    Calls Tryz.prog 48 #[.pointer (some ⟨pb, 0, none⟩), .agg f.cs.toArray] W fun r W3 => r = .returned (.agg (Nt.mk 0 f fr0).cs.toArray) ∧
      (Instr.buildSlice 48 1 #[(0, .agg (Nt.mk 0 f fr0).cs.toArray)]).run Tryz.prog W3 = .ok (.slice (some ⟨W3.heap.size, 0, none⟩) 1 1) (W3.alloc (.cells (Nt.mk 0 f fr0).cs.toArray 52)) ∧
      ∀ tz, ∃ v' w', (Builtin.append_ #[48, 48] tz #[v5, .slice (some ⟨W3.heap.size, 0, none⟩) 1 1]).run Tryz.prog (W3.alloc (.cells (Nt.mk 0 f fr0).cs.toArray 52)) = .ok v' w' ∧ Fin w w' pb net B S v' (ns ++ [⟨0, f, fr0⟩]) (L ++ [⟨all, f⟩]) (all + 1) := by
  have hnf := hP.not_foot_row h5 (by decide)
  refine (put_calls W pb net B S1 L all f hP hf hy).mono fun r W3 ⟨he, S', P3, ft3, k3⟩ => ⟨he, lit_nt W3 _, fun tz => ?_⟩
  have q := Kept.alloc W3 (.cells (Nt.mk 0 f fr0).cs.toArray 52) (fun _ => False)
  have P4 := P3.kept q (fun _ _ h => h)
  have r4 := q.owns (k3.owns h5 hnf) (fun _ _ h => h)
  obtain ⟨v', w', a1, a2, a3, a4⟩ := app_nt _ tz v5 ns.length (nts ns) ⟨0, f, fr0⟩ r4 W3.heap.size (heap_alloc_new _ _) (by omega)
  have kg := Kept.grown a3 (F := fun b => some b = v5.ownBlock) (fun _ h => h)
  have hnf4 := P4.not_foot_row r4 (by decide)
  have hsW : w.heap.size ≤ W.heap.size := hk.size
  refine ⟨v', w', a1, ?_, ?_, ⟨S', P4.kept kg (fun b hb h => hnf4 b h.symm hb), fun b hb => ?_⟩, ?_⟩
  · simpa [nts, List.flatMap_append] using a2
  · intro g hg
    rcases a4 with h | h
    · exact hn5 g (hg.trans h)
    · rw [h] at hg; injection hg with hg
      have := k3.size
      simp at hg
      omega
  · rcases ft3 b hb with h | h
    · exact hft b h
    · exact .inr (by omega)
  · have k4 : Kept W w' (fun b => foot pb B S1 b ∨ some b = v5.ownBlock) := (k3.trans q (fun _ _ h => h) (fun _ _ h => h.elim)).trans kg (fun _ _ h => .inl h) (fun _ _ h => .inr h)
    refine hk.trans k4 (fun _ _ h => h) (fun b hb h => ?_)
    rcases h with h | h
    · rcases hft b h with h | h
      · exact h
      · omega
    · have := hn5 b h; omega
structure Drop (w wr : World) (pb B : Nat) (S : List Slot) (L : List Ent) (all : Nat) (f : Fr) (a : Option Addr) (cap i : Nat) (v : Value) : Prop where
  ps : ∃ S1, PS wr pb false B S1 (L.drop i) all ∧ ∀ b, foot pb B S1 b → foot pb B S b ∨ w.heap.size ≤ b
  kept : Kept w wr (foot pb B S)
  fr : wr.heap[w.heap.size]? = some (.cells f.cs.toArray 37 (0, 0))
  open_ : wr.ownsRow 0 37 24 (.slice a L.length cap) L.length (frs L)
  newo : ∀ g, some g = (Value.slice a L.length cap).ownBlock → w.heap.size < g
  row : wr.ownsRow 0 52 49 v i (nts ((L.take i).map fun x => ⟨2, x.f, fr0⟩))
  new : ∀ g, some g = v.ownBlock → w.heap.size < g ∧ some g ≠ (Value.slice a L.length cap).ownBlock
theorem row_lt {w : World} {base : Nat} {e : TypeId} {size : Nat} {v : Value} {n : Nat} {xs : List Value} (h : w.ownsRow base e size v n xs) {g : Nat} (hg : some g = v.ownBlock) : g < w.heap.size := (h.lt g hg.symm).2
theorem Drop.step {w wr : World} {pb B : Nat} {S : List Slot} {L : List Ent} {all : Nat} {f : Fr} {a : Option Addr} {cap i : Nat} {v : Value} (h : Drop w wr pb B S L all f a cap i v) (h1 : L.length ≤ 1) (hi : i < L.length) :
    ∃ (g : Nat) (x : Ent) (W2 : World), a = some ⟨g, 0, none⟩ ∧ wr.rangeAt g (i * 24) x.f.cs ∧ W2 = (wr.alloc (.cells fr0.cs.toArray 37)).setRow wr.heap.size x.f.cs.toArray ∧ W2.rangeAt wr.heap.size 0 [.int .u8 x.f.u, .int .u16 x.f.t] ∧
      Calls Tryz.prog 34 #[.pointer (some ⟨pb, 0, none⟩), .agg #[.int .u8 x.f.u, .int .u16 x.f.t]] W2 fun r W3 => ∃ y z, r = .returned (.tuple #[y, z]) ∧ W3.heap[wr.heap.size]? = some (.cells x.f.cs.toArray 37 (0, 0)) ∧
        (Instr.buildSlice 48 1 #[(0, .agg (Nt.mk 2 x.f fr0).cs.toArray)]).run Tryz.prog W3 = .ok (.slice (some ⟨W3.heap.size, 0, none⟩) 1 1) (W3.alloc (.cells (Nt.mk 2 x.f fr0).cs.toArray 52)) ∧
        ∀ tz, ∃ v' w', (Builtin.append_ #[48, 48] tz #[v, .slice (some ⟨W3.heap.size, 0, none⟩) 1 1]).run Tryz.prog (W3.alloc (.cells (Nt.mk 2 x.f fr0).cs.toArray 52)) = .ok v' w' ∧ Drop w w' pb B S L all f a cap (i + 1) v' := by
  obtain ⟨x, rfl⟩ : ∃ x, L = [x] := by
    match L, h1, hi with
    | [x], _, _ => exact ⟨x, rfl⟩
    | [], _, hi => simp at hi
    | _ :: _ :: _, h1, _ => simp at h1
  obtain rfl : i = 0 := by simpa using hi
  obtain ⟨g, cap', hv, hr⟩ := fr_at h.open_ hi
  injection hv with ha hb hc
  subst ha hc
  obtain ⟨S1, P1, ft1⟩ := h.ps
  have q1 : Kept wr ((wr.alloc (.cells fr0.cs.toArray 37)).setRow wr.heap.size x.f.cs.toArray) (fun _ => False) := (Kept.alloc wr _ (fun _ => False)).trans (Kept.setRow _ wr.heap.size _ (F := fun b => b = wr.heap.size) rfl) (fun _ _ h => h) (fun k hk h => by omega)
  have e1 := setRow_heap (wr.alloc (.cells fr0.cs.toArray 37)) wr.heap.size fr0.cs.toArray x.f.cs.toArray 37 _ (heap_alloc_new _ _)
  have hsz2 : ((wr.alloc (.cells fr0.cs.toArray 37)).setRow wr.heap.size x.f.cs.toArray).heap.size = wr.heap.size + 1 := by simp
  refine ⟨g, x, _, rfl, by simpa using hr, rfl, head_range e1, ?_⟩
  generalize ((wr.alloc (.cells fr0.cs.toArray 37)).setRow wr.heap.size x.f.cs.toArray) = W2 at *
  have P2 := P1.kept q1 (fun _ _ h => h)
  have hsw := h.kept.size
  refine (take_calls W2 pb false B S1 [x] all x.f.u x.f.t P2).mono fun r W3 ⟨S2, he, P3, ft3, k3⟩ => ?_
  have herase : [x].eraseP (hd x.f.u x.f.t) = [] := by simp [hd]
  rw [herase] at P3
  have n44 := P2.not_foot e1 (by decide)
  refine ⟨_, _, he, k3.heap e1 n44, lit_nt W3 _, fun tz => ?_⟩
  have q3 := Kept.alloc W3 (.cells (Nt.mk 2 x.f fr0).cs.toArray 52) (fun _ => False)
  have P4 := P3.kept q3 (fun _ _ h => h)
  have r2 := q1.owns h.row (fun _ _ h => h)
  have o2 := q1.owns h.open_ (fun _ _ h => h)
  have f2 := q1.heap h.fr (fun h => h)
  have r4 := q3.owns (k3.owns r2 (P2.not_foot_row r2 (by decide))) (fun _ _ h => h)
  have o4 := q3.owns (k3.owns o2 (P2.not_foot_row o2 (by decide))) (fun _ _ h => h)
  have f4 := q3.heap (k3.heap f2 (P2.not_foot f2 (by decide))) (fun h => h)
  obtain ⟨v', w', a1, a2, a3, a4⟩ := app_nt _ tz v 0 _ ⟨2, x.f, fr0⟩ r4 W3.heap.size (heap_alloc_new _ _) (by omega)
  have kg := Kept.grown a3 (F := fun b => some b = v.ownBlock) (fun _ h => h)
  have hnf4 := P4.not_foot_row r4 (by decide)
  have hs3 := k3.size
  have hgl : some g = (Value.slice (some ⟨g, 0, none⟩) [x].length cap).ownBlock := rfl
  have hgw := row_lt h.open_ hgl
  refine ⟨v', w', a1, ⟨S2, ?_, ?_⟩, ?_, ?_, ?_, h.newo, ?_, ?_⟩
  · exact P4.kept kg (fun b hb h => hnf4 b h.symm hb)
  · intro b hb
    rcases ft3 b hb with h' | h'
    · exact ft1 b h'
    · exact .inr (by omega)
  · have k4 : Kept wr w' (fun b => foot pb B S1 b ∨ some b = v.ownBlock) := ((q1.trans k3 (fun _ _ h => h.elim) (fun _ _ h => h)).trans q3 (fun _ _ h => h) (fun _ _ h => h.elim)).trans kg (fun _ _ h => .inl h) (fun _ _ h => .inr h)
    refine h.kept.trans k4 (fun _ _ h => h) (fun b hb h' => ?_)
    rcases h' with h' | h'
    · rcases ft1 b h' with h' | h'
      · exact h'
      · omega
    · have := (h.new b h').1; omega
  · exact kg.heap f4 (fun h' => by have := (h.new _ h').1; omega)
  · exact kg.owns o4 (fun b hb h' => (h.new b h').2 hb.symm)
  · simpa [nts] using a2
  · intro b hb
    rcases a4 with h' | h'
    · exact h.new b (hb.trans h')
    · rw [h'] at hb; injection hb with hb
      simp at hb
      refine ⟨by omega, fun e => ?_⟩
      rw [← hgl] at e; injection e with e
      omega
end Go.Proofs.YtmbjlondehcheaaGreatDoor
end
section
set_option linter.unusedSimpArgs false
set_option linter.unusedVariables false
namespace Go.Proofs.YtmbjlondehcheaaGreatDoor
open Go.Shelf Go.RowKit Go.Lib Go.Sort Go.Proofs.YtmbjlondehcheaaGreatDoorW.PrintWords Go.Proofs.YtmbjlondehcheaaGreatDoorW.PrintLast
set_option maxHeartbeats 400000 in
set_option maxRecDepth 1000000 in
theorem asks_calls (w : World) (pb : Nat) (net : Bool) (B : Nat) (S : List Slot) (L : List Ent) (all : Nat) (f : Fr) (hP : PS w pb net B S L all) (h1 : net = false → L.length ≤ 1) (hy : all < 1000000) :
    Calls Tryz.prog 33 #[.pointer (some ⟨pb, 0, none⟩), .agg f.cs.toArray] w fun r w' => ∃ v, r = .returned v ∧ Fin w w' pb net B S v (ask net L all f).1 (ask net L all f).2.1 (ask net L all f).2.2 := by
  have k1 : Kept w (w.alloc (.cells f.cs.toArray 37)) (fun _ => False) := Kept.alloc w _ _
  have F1 : (w.alloc (.cells f.cs.toArray 37)).heap[w.heap.size]? = some (.cells f.cs.toArray 37 (0, 0)) := heap_alloc_new _ _
  have P1 := hP.kept k1 (fun _ _ h => h)
  have hs1 : (w.alloc (.cells f.cs.toArray 37)).heap.size = w.heap.size + 1 := by simp
  have c0 := P1.c0
  have c2 := P1.c2
  have cu : (w.alloc (.cells f.cs.toArray 37)).cell? ⟨w.heap.size, 0, none⟩ = some (.int .u8 f.u) := by rw [cell_of_row _ w.heap.size 0 _ 37 (0, 0) F1]; rfl
  have SZ44 := size44 f.cs.toArray rfl
  have hfew := hP.few
  have one (n : Nt) (W : World) (kW : Kept w W (fun _ => False)) (hsW : w.heap.size ≤ W.heap.size) : Fin w (W.alloc (.cells n.cs.toArray 52)) pb net B S (.slice (some ⟨W.heap.size, 0, none⟩) 1 1) [n] L all := by
    have q := kW.trans (Kept.alloc W (.cells n.cs.toArray 52) (fun _ => False)) (fun _ _ h => h) (fun _ _ h => h)
    exact ⟨one_nt W n, fun g hg => by simp [Value.ownBlock] at hg; omega, ⟨S, hP.kept q (fun _ _ h => h), fun b hb => .inl hb⟩, q.mono (fun _ _ h => h.elim)⟩
  have ONE : Aside0 _ := ⟨one⟩
  clear one
  cases net with
  | true =>
    by_cases h16 : L.length = 16
    · have hask : ask true L all f = ([⟨3, f, fr0⟩], L, all) := by simp [ask, h16]
      rw [hask]
      rw [h16, show ((16 : Nat) : Int) = 16 from rfl] at c2
      have hlit := lit_nt (w.alloc (.cells f.cs.toArray 37)) ⟨3, f, fr0⟩
      have FIN0 := ONE.out ⟨3, f, fr0⟩ _ k1 (by omega)
      rw [hs1] at FIN0 hlit
      have FIN : Aside0 _ := ⟨FIN0⟩
      clear FIN0
      clear ONE P1 hP hask h16 hs1
      go_enter Tryz.func33, Tryz.ntmps33
      go_wp2_with (first
        | (refine wpList_load_row rfl 37 (.tmp 3) rfl w.heap.size rfl 37 f.cs.toArray (0, 0) _ F1 Tryz.underlying37 rfl SZ44 ?_)
        | (refine wpList_buildTo rfl 52 _ rfl (some 21) rfl (Nt.mk 3 f fr0).cs.toArray ?_ ?_; (simp only [List.map_toArray, List.map_cons, List.map_nil]; exact nt_ask 3 f))
        | (have hl0 := hlit; refine wpList_lit1 rfl 48 (.tmp 21) rfl (some 22) rfl (.agg (Nt.mk 3 f fr0).cs.toArray) rfl _ _ hl0 ?_; clear hlit hl0))
      go_ret
      exact ⟨_, rfl, FIN.out⟩
    · have hask : ask true L all f = ([⟨0, f, fr0⟩], L ++ [⟨all, f⟩], all + 1) := by simp [ask, h16]
      rw [hask]
      have hne : ¬ ((L.length : Int) = 16) := by omega
      have hend := put_end w _ pb true B S S L all f P1 (by omega) hy (fun b hb => .inl hb) (k1.mono (fun _ _ h => h.elim)) (.slice none 0 0) [] (World.ownsRow_nil _ _ _ _) (fun g hg => by simp [Value.ownBlock] at hg) (by simp)
      clear ONE P1 hP hask h16 hs1
      go_enter Tryz.func33, Tryz.ntmps33
      go_wp2_with (first
        | (refine wpList_load_row rfl 37 (.tmp 3) rfl w.heap.size rfl 37 f.cs.toArray (0, 0) _ F1 Tryz.underlying37 rfl SZ44 ?_)
        | (go_at_call 48; with_reducible refine hend.mono ?_; rintro e w3 ⟨rfl, hlit, happ⟩)
        | (refine wpList_lit1 rfl 48 (.tmp 64) rfl (some 65) rfl (.agg (Nt.mk 0 f fr0).cs.toArray) rfl (.slice (some ⟨w3.heap.size, 0, none⟩) 1 1) (w3.alloc (.cells (Nt.mk 0 f fr0).cs.toArray 52)) hlit ?_)
        | (obtain ⟨v', w', ha, hF⟩ := happ 48; refine wpList_app rfl (.tmp 61) (.tmp 65) 48 48 rfl (some 66) rfl (.slice none 0 0) (.slice (some ⟨w3.heap.size, 0, none⟩) 1 1) rfl rfl v' w' ha ?_; clear happ ha))
      go_ret
      exact ⟨_, rfl, hF⟩
  | false =>
    have hlen := h1 rfl
    by_cases hu : f.u = 0
    · have hask : ask false L all f = ([⟨1, f, fr0⟩], L, all) := by simp [ask, hu]
      rw [hask]
      have hb := bcast_calls f.u (w.alloc (.cells f.cs.toArray 37))
      rw [decide_eq_true hu] at hb
      have hlit := lit_nt (w.alloc (.cells f.cs.toArray 37)) ⟨1, f, fr0⟩
      have FIN0 := ONE.out ⟨1, f, fr0⟩ _ k1 (by omega)
      rw [hs1] at FIN0 hlit
      have FIN : Aside0 _ := ⟨FIN0⟩
      clear FIN0
      clear ONE P1 hP hask hs1 hu
      go_enter Tryz.func33, Tryz.ntmps33
      go_wp2_with (first
        | (go_at_call 47; with_reducible refine hb.mono ?_; rintro e w3 ⟨rfl, rfl⟩)
        | (refine wpList_load_row rfl 37 (.tmp 3) rfl w.heap.size rfl 37 f.cs.toArray (0, 0) _ F1 Tryz.underlying37 rfl SZ44 ?_)
        | (refine wpList_buildTo rfl 52 _ rfl (some 36) rfl (Nt.mk 1 f fr0).cs.toArray ?_ ?_; (simp only [List.map_toArray, List.map_cons, List.map_nil]; exact nt_ask 1 f))
        | (have hl0 := hlit; refine wpList_lit1 rfl 48 (.tmp 36) rfl (some 37) rfl (.agg (Nt.mk 1 f fr0).cs.toArray) rfl _ _ hl0 ?_; clear hlit hl0))
      go_ret
      exact ⟨_, rfl, FIN.out⟩
    · have hask : ask false L all f = (L.map (fun x => ⟨2, x.f, fr0⟩) ++ [⟨0, f, fr0⟩], [⟨all, f⟩], all + 1) := by simp [ask, hu]
      rw [hask]
      have hb := bcast_calls f.u (w.alloc (.cells f.cs.toArray 37))
      rw [decide_eq_false hu] at hb
      have hop := open_calls _ pb false B S L all P1
      have START : Aside0 (∀ v w2, w2.ownsRow 0 37 24 v L.length (frs L) → (∀ g, some g = v.ownBlock → (w.alloc (.cells f.cs.toArray 37)).heap.size ≤ g) → Kept (w.alloc (.cells f.cs.toArray 37)) w2 (fun _ => False) → ∃ a cap, v = .slice a L.length cap ∧ Drop w w2 pb B S L all f a cap 0 (.slice none 0 0)) := ⟨fun v w2 ho hn k2 => by
        obtain ⟨a, cap, rfl⟩ := owns_len ho
        exact ⟨a, cap, rfl, ⟨⟨S, P1.kept k2 (fun _ _ h => h), fun b hb => .inl hb⟩, (k1.trans k2 (fun _ _ h => h) (fun _ _ h => h)).mono (fun _ _ h => h.elim), k2.heap F1 (fun h => h), ho, fun g hg => by have := hn g hg; omega, World.ownsRow_nil _ _ _ _, fun g hg => by simp [Value.ownBlock] at hg⟩⟩⟩
      clear ONE P1 hP hask hs1 hu k1 F1
      go_enter Tryz.func33, Tryz.ntmps33
      go_wp2_with (first
        | (go_at_call 47; with_reducible refine hb.mono ?_; rintro e w3 ⟨rfl, rfl⟩)
        | (go_at_call 19; with_reducible refine hop.mono ?_; rintro e w2 ⟨v, rfl, ho, hfr, k2⟩; obtain ⟨a, cap, rfl, hD⟩ := START.out v w2 ho hfr k2; have HD : Aside0 _ := ⟨hD⟩; clear hD ho hfr k2 START hop hb))
      go_loopg [5, 47] L.length (fun kx s5 s47 wr => ∃ i : Nat, s47 = .int .i64 i ∧ i ≤ L.length ∧ L.length - i ≤ kx ∧ Aside0 (Drop w wr pb B S L all f a cap i s5))
      case atStart => exact ⟨0, rfl, Nat.zero_le _, Nat.le_refl _, HD⟩
      case round =>
        clear HD c0 c2 cu
        obtain ⟨i, rfl, hi, hkx, ⟨hD⟩⟩ := hrel
        by_cases hlt : i < L.length
        · obtain ⟨g, x, W2, rfl, hr, hW2, rx, htake⟩ := hD.step hlen hlt
          have hiz : (i : Int) < (L.length : Int) := by omega
          have hLz : (L.length : Int) ≤ 16 := by omega
          have sz44 := size44 x.f.cs.toArray rfl
          have szl44 : (Tryz.prog.info? 37).map (·.size) = some x.f.cs.length := by rw [Fr.len]; kernel_rfl
          have hone := all_oneCell_toArray x.f.one
          have hZc : fr0.cs.toArray.size = x.f.cs.toArray.size := rfl
          have szl35 : (Tryz.prog.info? 29).map (·.size) = some [Value.int .u8 x.f.u, Value.int .u16 x.f.t].length := by kernel_rfl
          have W2e : Aside0 (W2 = (wr.alloc (.cells fr0.cs.toArray 37)).setRow wr.heap.size x.f.cs.toArray) := ⟨hW2⟩
          have hz := fr0_zero
          clear hD hW2
          go_wp2_with (first
            | (refine wpList_load_mid rfl 37 (.tmp 49) rfl g (i * 24) rfl x.f.cs _ hr Tryz.underlying37 rfl szl44 ?_)
            | (have q44 := hZc; refine wpList_store_row rfl 37 (.tmp 7) (.tmp 50) rfl wr.heap.size x.f.cs.toArray rfl rfl 37 fr0.cs.toArray (heap_alloc_new _ _) sz44 hZc hone ?_; rw [← W2e.out]; clear hr hZc q44)
            | (refine wpList_load_mid rfl 29 (.tmp 52) rfl wr.heap.size 0 rfl [.int .u8 x.f.u, .int .u16 x.f.t] _ rx Tryz.underlying29 rfl szl35 ?_)
            | (go_at_call 34; with_reducible refine htake.mono ?_; rintro e w3 ⟨y, z, rfl, hx3, hlit, happ⟩; clear htake rx)
            | (refine wpList_load_row rfl 37 (.tmp 7) rfl wr.heap.size rfl 37 x.f.cs.toArray (0, 0) _ hx3 Tryz.underlying37 rfl sz44 ?_)
            | (refine wpList_buildTo rfl 52 _ rfl (some 57) rfl (Nt.mk 2 x.f fr0).cs.toArray ?_ ?_; (simp only [List.map_toArray, List.map_cons, List.map_nil]; exact nt_ask 2 x.f))
            | (refine wpList_lit1 rfl 48 (.tmp 57) rfl (some 58) rfl (.agg (Nt.mk 2 x.f fr0).cs.toArray) rfl (.slice (some ⟨w3.heap.size, 0, none⟩) 1 1) (w3.alloc (.cells (Nt.mk 2 x.f fr0).cs.toArray 52)) hlit ?_)
            | (obtain ⟨v', w', ha, hO⟩ := happ 48; refine wpList_app rfl (.tmp 55) (.tmp 58) 48 48 rfl (some 59) rfl _ (.slice (some ⟨w3.heap.size, 0, none⟩) 1 1) rfl rfl v' w' ha ?_; clear happ ha))
          go_roundg (L.length - (i + 1))
          case measure => omega
          case rel => exact ⟨i + 1, by go_num, by omega, Nat.le_refl _, ⟨hO⟩⟩
        · have hge : ¬ ((i : Int) < (L.length : Int)) := by omega
          obtain rfl : i = L.length := by omega
          obtain ⟨S1, PD, ftD⟩ := hD.ps
          have F1 := hD.fr
          rw [List.drop_length] at PD
          have hrow := hD.row
          rw [List.take_length] at hrow
          have hend := put_end w wr pb false B S S1 [] all f PD (by simp) hy ftD hD.kept _ (L.map fun x => ⟨2, x.f, fr0⟩) (by rw [List.length_map]; exact hrow) (fun g hg => Nat.le_of_lt (hD.new g hg).1) (by rw [List.length_map]; omega)
          rw [List.nil_append] at hend
          clear hD PD ftD hrow
          go_wp2_with (first
            | (refine wpList_load_row rfl 37 (.tmp 3) rfl w.heap.size rfl 37 f.cs.toArray (0, 0) _ F1 Tryz.underlying37 rfl SZ44 ?_)
            | (go_at_call 48; with_reducible refine hend.mono ?_; rintro e w3 ⟨rfl, hlit, happ⟩)
            | (refine wpList_lit1 rfl 48 (.tmp 64) rfl (some 65) rfl (.agg (Nt.mk 0 f fr0).cs.toArray) rfl (.slice (some ⟨w3.heap.size, 0, none⟩) 1 1) (w3.alloc (.cells (Nt.mk 0 f fr0).cs.toArray 52)) hlit ?_)
            | (obtain ⟨v', w', ha, hF⟩ := happ 48; refine wpList_app rfl (.tmp 61) (.tmp 65) 48 48 rfl (some 66) rfl _ (.slice (some ⟨w3.heap.size, 0, none⟩) 1 1) rfl rfl v' w' ha ?_; clear happ ha))
          go_ret
          exact ⟨_, rfl, hF⟩
end Go.Proofs.YtmbjlondehcheaaGreatDoor
end
