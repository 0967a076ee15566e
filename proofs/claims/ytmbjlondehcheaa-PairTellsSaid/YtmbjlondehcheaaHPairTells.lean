/- PairTells, walked: whatever framing and acts, it answers true: the program's notes and open requests are the document's at each step. -/
import Derived.Test.YtmbjlondehcheaaProg
import Derived.Below
import Derived.OneCell
import Derived.WalkKit
import Derived.KernelRfl
import Derived.RowKit3
import Derived.Deep.LoopGhost
import Derived.Deep.QuietTactic
import Derived.BigQuiet
import Derived.Deep.DeepCutAuto
import Derived.Deep.CutBlock
import Derived.Deep.RegionWith
import Derived.OwnWalk
import Derived.Laws.Tables
import Derived.Laws.AppendOwn
import Derived.Shelf.SlSortCmp.KitK
import Derived.Shelf.RegionOpenPlain
import Derived.Sort.WalkB2
import Derived.Deep.MidRow
import Derived.Great.Walk
import Derived.Test.YtmbjlondehcheaaWWords
import Derived.Test.YtmbjlondehcheaaWLast
import Derived.Laws.StructEq
import Derived.Maps.Own
import Derived.Maps.RangeRun
import Derived.Test.YtmbjlondehcheaaHPairAwake
import Derived.Test.YtmbjlondehcheaaHPairFew
import Derived.Test.YtmbjlondehcheaaHPairRTakb
import Derived.Test.YtmbjlondehcheaaHPairNotes
set_option linter.unusedSimpArgs false
set_option linter.unusedVariables false
namespace Go.Proofs.Ytmbjlondehcheaa
open Go.Shelf Go.RowKit Go.Lib Go.Sort Go.Proofs.YtmbjlondehcheaaW.PrintWords Go.Proofs.YtmbjlondehcheaaW.PrintLast Go.Proofs.Ytmbjlondehcheaa.PFW

theorem step_few {net : Bool} {L : List Ent} {all : Nat} {dir : Int} {f : Fr} (h : net = false → L.length ≤ 1) : (step net L all dir f).1.length ≤ 16 ∧ (step net L all dir f).2.2 ≤ all + 1 := by
  unfold step
  split
  · unfold ask
    split
    · split <;> simp
    · split
      · simp
      · have := h (by simpa using ‹¬ net = true›)
        simp
        omega
  · split
    · unfold ans
      split <;> simp
    · simp
theorem step_good {G : Fr → Prop} {net : Bool} {L : List Ent} {all : Nat} {dir : Int} {f : Fr} (h0 : G fr0) (hf : G f) (hL : ∀ e ∈ L, G e.f) : (∀ n ∈ (step net L all dir f).1, G n.ask ∧ G n.ans) ∧ ∀ e ∈ (step net L all dir f).2.1, G e.f := by
  unfold step
  split
  · unfold ask
    split
    · split
      · exact ⟨fun n hn => by simp at hn; subst hn; exact ⟨hf, h0⟩, hL⟩
      · refine ⟨fun n hn => by simp at hn; subst hn; exact ⟨hf, h0⟩, fun e he => ?_⟩
        simp at he
        rcases he with he | rfl
        · exact hL e he
        · exact hf
    · split
      · exact ⟨fun n hn => by simp at hn; subst hn; exact ⟨hf, h0⟩, hL⟩
      · refine ⟨fun n hn => ?_, fun e he => by simp at he; subst he; exact hf⟩
        simp at hn
        rcases hn with ⟨x, hx, rfl⟩ | rfl
        · exact ⟨hL x hx, h0⟩
        · exact ⟨hf, h0⟩
  · split
    · unfold ans
      split
      · rename_i x hx
        refine ⟨fun n hn => ?_, fun e he => hL e (List.mem_of_mem_eraseP he)⟩
        simp at hn
        subst hn
        exact ⟨hL x (List.mem_of_find?_eq_some hx), hf⟩
      · exact ⟨fun n hn => by simp at hn; subst hn; exact ⟨h0, hf⟩, hL⟩
    · exact ⟨fun n hn => by simp at hn, hL⟩

theorem rtake_calls (w : World) (rb : Nat) (net : Bool) (L : List Ent) (v : Value) (all : Nat) (dir : Int) (f : Fr) (R : RefV w rb net L v) (h1 : net = false → L.length ≤ 1) (hL : L.length ≤ 16) :
    Calls Try.prog 13 #[.pointer (some ⟨rb, 0, none⟩), .int .i64 dir, .agg f.cs.toArray] w fun r w' => ∃ v', r = .returned v' ∧ RRes w w' rb net v' (step net L all dir f).1 (step net L all dir f).2.1 := by
  unfold step
  by_cases h0 : dir = 0
  · subst h0
    rw [if_pos rfl]
    unfold ask
    cases net with
    | true =>
      rw [if_pos rfl]
      by_cases h16 : L.length = 16
      · rw [if_pos h16]; exact rtake_over w rb L v f R h16
      · rw [if_neg h16]; exact rtake_net w rb L v f all R h16 hL
    | false =>
      rw [if_neg (by simp)]
      by_cases hu : f.u = 0
      · rw [if_pos hu]; exact rtake_all w rb L v f R hu
      · rw [if_neg hu]
        match L, h1 rfl, R with
        | [], _, R => exact rtake_first w rb v f all R hu
        | [x], _, R => exact rtake_next w rb x v f all R hu
        | _ :: _ :: _, h, _ => simp at h
  · rw [if_neg h0]
    by_cases hd1 : dir = 1
    · subst hd1
      rw [if_pos rfl]
      exact rtake_ans w rb net L v f all R h1 hL
    · rw [if_neg hd1]
      exact rtake_none w rb net L v dir f R h0 hd1

theorem new_none (fr : Int) (h0 : ¬ fr = 0) (h1 : ¬ fr = 1) (h2 : ¬ fr = 2) (w : World) : Calls Try.prog 11 #[.int .i64 fr] w fun r w' => r = .returned (.pointer none) ∧ w' = w := by
  have q0 : (fr != 0) = true := by simpa using h0
  have q1 : (fr != 1) = true := by simpa using h1
  have q2 : (fr != 2) = true := by simpa using h2
  go_enter Try.func11, Try.ntmps11
  go_wp2
  go_ret
  exact ⟨rfl, rfl⟩

/-- What stands between two rounds: the document's list is the program's. -/
structure TlAt (w wr : World) (pb rb : Nat) (net : Bool) (L : List Ent) (all i : Nat) : Prop where
  own : ∃ F, Own wr pb net L all F ∧ (∀ b, F b → w.heap.size ≤ b)
  ref : RefAt wr rb net L
  new : w.heap.size ≤ rb
  kept : Kept w wr (fun _ => False)
  good : ∀ e ∈ L, Good w e.f
  all_ : all ≤ i
theorem TlAt.keep {w wr w' : World} {pb rb : Nat} {net : Bool} {L : List Ent} {all i : Nat} (h : TlAt w wr pb rb net L all i) (k : Kept wr w' (fun _ => False)) : TlAt w w' pb rb net L all i := by
  obtain ⟨F, O, hF⟩ := h.own
  obtain ⟨v, R⟩ := h.ref
  exact ⟨⟨F, O.kept k (fun _ _ h => h), hF⟩, ⟨v, R.keep k⟩, h.new, h.kept.trans k (fun _ _ h => h) (fun _ _ h => h), h.good, h.all_⟩
theorem TlAt.one {w wr : World} {pb rb : Nat} {net : Bool} {L : List Ent} {all i : Nat} (h : TlAt w wr pb rb net L all i) : (net = false → L.length ≤ 1) ∧ L.length ≤ 16 := by
  obtain ⟨F, O, hF⟩ := h.own
  exact ⟨O.one, O.few⟩
/-- Behind the program's Take. -/
structure TlA (w wr : World) (pb rb : Nat) (net : Bool) (L : List Ent) (ns : List Nt) (L' : List Ent) (all' : Nat) (v : Value) : Prop where
  own : ∃ F, Own wr pb net L' all' F ∧ (∀ b, F b → w.heap.size ≤ b)
  row : wr.ownsRow 0 55 49 v ns.length (nts ns)
  ref : RefAt wr rb net L
  new : w.heap.size ≤ rb
  kept : Kept w wr (fun _ => False)
theorem TlA.keep {w wr w' : World} {pb rb : Nat} {net : Bool} {L : List Ent} {ns : List Nt} {L' : List Ent} {all' : Nat} {v : Value} (h : TlA w wr pb rb net L ns L' all' v) (k : Kept wr w' (fun _ => False)) : TlA w w' pb rb net L ns L' all' v := by
  obtain ⟨F, O, hF⟩ := h.own
  obtain ⟨v, R⟩ := h.ref
  exact ⟨⟨F, O.kept k (fun _ _ h => h), hF⟩, k.owns h.row (fun _ _ h => h), ⟨v, R.keep k⟩, h.new, h.kept.trans k (fun _ _ h => h) (fun _ _ h => h)⟩
theorem TlAt.take {w wr : World} {pb rb : Nat} {net : Bool} {L : List Ent} {all i : Nat} (h : TlAt w wr pb rb net L all i) (hi : i ≤ 60) (dir : Int) (f : Fr) {ns : List Nt} {L' : List Ent} {all' : Nat} (hst : step net L all dir f = (ns, L', all')) :
    Calls Try.prog 12 #[.pointer (some ⟨pb, 0, none⟩), .int .i64 dir, .agg f.cs.toArray] wr fun r w' => ∃ v, r = .returned v ∧ TlA w w' pb rb net L ns L' all' v := by
  obtain ⟨F, O, hF⟩ := h.own
  obtain ⟨vR, R⟩ := h.ref
  have hall := h.all_
  refine (O.take_ (by omega) dir f hst).mono fun r w' ⟨v, F', he, O', Rs, ft, k⟩ => ?_
  refine ⟨v, he, ⟨F', O', fun b hb => ?_⟩, Rs.row, ⟨vR, R.own O k⟩, h.new, h.kept.trans k (fun _ _ h => h) (fun b hb h' => by have := hF b h'; omega)⟩
  rcases ft b hb with h' | h'
  · exact hF b h'
  · have := h.kept.size; omega
/-- Behind the document's Take. -/
structure TlB (w wr : World) (pb rb : Nat) (net : Bool) (ns : List Nt) (L' : List Ent) (all' : Nat) (v v2 : Value) : Prop where
  own : ∃ F, Own wr pb net L' all' F ∧ (∀ b, F b → w.heap.size ≤ b)
  row : wr.ownsRow 0 55 49 v ns.length (nts ns)
  rrow : wr.ownsRow 0 70 49 v2 ns.length (nts ns)
  ref : RefAt wr rb net L'
  new : w.heap.size ≤ rb
  kept : Kept w wr (fun _ => False)
theorem TlB.keep {w wr w' : World} {pb rb : Nat} {net : Bool} {ns : List Nt} {L' : List Ent} {all' : Nat} {v v2 : Value} (h : TlB w wr pb rb net ns L' all' v v2) (k : Kept wr w' (fun _ => False)) : TlB w w' pb rb net ns L' all' v v2 := by
  obtain ⟨F, O, hF⟩ := h.own
  obtain ⟨v, R⟩ := h.ref
  exact ⟨⟨F, O.kept k (fun _ _ h => h), hF⟩, k.owns h.row (fun _ _ h => h), k.owns h.rrow (fun _ _ h => h), ⟨v, R.keep k⟩, h.new, h.kept.trans k (fun _ _ h => h) (fun _ _ h => h)⟩
theorem TlA.rtake {w wr : World} {pb rb : Nat} {net : Bool} {L : List Ent} {ns : List Nt} {L' : List Ent} {all' : Nat} {v : Value} (h : TlA w wr pb rb net L ns L' all' v) (h1 : net = false → L.length ≤ 1) (hL : L.length ≤ 16) (dir : Int) (f : Fr) {all : Nat} (hst : step net L all dir f = (ns, L', all')) :
    Calls Try.prog 13 #[.pointer (some ⟨rb, 0, none⟩), .int .i64 dir, .agg f.cs.toArray] wr fun r w' => ∃ v2, r = .returned v2 ∧ TlB w w' pb rb net ns L' all' v v2 := by
  obtain ⟨F, O, hF⟩ := h.own
  obtain ⟨vR, R⟩ := h.ref
  have T := rtake_calls wr rb net L vR all dir f R h1 hL
  rw [hst] at T
  refine T.mono fun r w' ⟨v2, he, RR⟩ => ⟨v2, he, ⟨F, O.kept RR.kept (fun b hb e => O.cell_apart R.cell (by decide) (e ▸ hb)), hF⟩, RR.kept.owns h.row (fun g hg e => row_ne h.row R.cell (by decide) hg e), RR.row, RR.ref, h.new, h.kept.trans RR.kept (fun _ _ h => h) (fun b hb e => by have := h.new; omega)⟩
theorem TlB.notes {w wr : World} {pb rb : Nat} {net : Bool} {ns : List Nt} {L' : List Ent} {all' : Nat} {v v2 : Value} (h : TlB w wr pb rb net ns L' all' v v2) (hG : ∀ n ∈ ns, Good w n.ask ∧ Good w n.ans) (hn : ns.length ≤ 16) :
    Calls Try.prog 14 #[v, v2] wr fun r w' => r = .returned (.bool true) ∧ Kept wr w' (fun _ => False) :=
  notes_calls wr ns v v2 h.row h.rrow (fun n hn => ⟨(hG n hn).1.keep h.kept, (hG n hn).2.keep h.kept⟩) hn
theorem TlB.open_ {w wr : World} {pb rb : Nat} {net : Bool} {ns : List Nt} {L' : List Ent} {all' : Nat} {v v2 : Value} (h : TlB w wr pb rb net ns L' all' v v2) :
    Calls Try.prog 16 #[.pointer (some ⟨pb, 0, none⟩)] wr fun r w' => ∃ vo, r = .returned vo ∧ w'.ownsRow 0 44 24 vo L'.length (frs L') ∧ Kept wr w' (fun _ => False) := by
  obtain ⟨F, O, hF⟩ := h.own
  exact O.open_.mono fun r w' ⟨a, cap, he, ho, _, k⟩ => ⟨_, he, ho, k⟩
theorem TlAt.open_ {w wr : World} {pb rb : Nat} {net : Bool} {L : List Ent} {all i : Nat} (h : TlAt w wr pb rb net L all i) :
    Calls Try.prog 16 #[.pointer (some ⟨pb, 0, none⟩)] wr fun r w' => ∃ a cap, r = .returned (.slice a L.length cap) ∧ Kept wr w' (fun _ => False) := by
  obtain ⟨F, O, hF⟩ := h.own
  exact O.open_.mono fun r w' ⟨a, cap, he, ho, _, k⟩ => ⟨a, cap, he, k⟩
theorem TlB.next {w wr : World} {pb rb : Nat} {net : Bool} {ns : List Nt} {L' : List Ent} {all' : Nat} {v v2 : Value} (h : TlB w wr pb rb net ns L' all' v v2) {i : Nat} (hG : ∀ e ∈ L', Good w e.f) (ha : all' ≤ i) : TlAt w wr pb rb net L' all' i := ⟨h.own, h.ref, h.new, h.kept, hG, ha⟩

theorem tl_start {w w1 w2 : World} {pb : Nat} {net : Bool} {F : Nat → Prop} (O : Own w2 pb net [] 0 F) (hF : ∀ b, F b → w1.heap.size ≤ b) (k : Kept w w1 (fun _ => False)) (k2 : Kept w1 w2 (fun _ => False)) :
    TlAt w (w2.alloc (.cells #[.bool net, .slice none 0 0] 30)) pb w2.heap.size net [] 0 0 :=
  ⟨⟨F, O.kept (Kept.alloc w2 _ (fun _ => False)) (fun _ _ h => h), fun b hb => Nat.le_trans k.size (hF b hb)⟩, ⟨_, heap_alloc_new _ _, World.ownsRow_nil _ _ _ _⟩, Nat.le_trans k.size k2.size,
    (k.trans k2 (fun _ _ h => h) (fun _ _ h => h)).trans (Kept.alloc w2 _ (fun _ => False)) (fun _ _ h => h) (fun _ _ h => h), fun e he => by simp at he, Nat.le_refl _⟩

set_option maxHeartbeats 16000000 in
set_option maxRecDepth 1000000 in
theorem tells_calls (fr : Int) (hfr : (Lit.int .i64 fr).wf = true) (A : Option Addr) (c : Nat) (l : List S46) (w : World) (hC : Kd.C k46 w A l.length l) (hc : l.length ≤ c)
    (hB : ∀ x ∈ l, (Lit.int .i64 x.f0).wf = true ∧ (0 ≤ x.f1.f0.f0 ∧ x.f1.f0.f0 < 256) ∧ (0 ≤ x.f1.f0.f1 ∧ x.f1.f0.f1 < 65536) ∧ (0 ≤ x.f1.f1.f0 ∧ x.f1.f1.f0 < 256)) :
    Calls Try.prog 3 #[.int .i64 fr, .slice A l.length c] w fun r w' => r = .returned (.bool true) ∧ Kept w w' (fun _ => False) := by
  have haw := awake_calls w
  have HC : Aside0 (Kd.C k46 w A l.length l) := ⟨hC⟩
  have HB : Aside0 _ := ⟨hB⟩
  clear hC hB hfr
  by_cases hgood : fr = 0 ∨ fr = 1 ∨ fr = 2
  · have hnew := new_calls fr hgood
    have hl0 : ¬ (fr < 0) := by omega
    have hl2 : ¬ (2 < fr) := by omega
    obtain ⟨net, hnet⟩ : ∃ net : Bool, decide (fr = 2) = net := ⟨_, rfl⟩
    rw [hnet] at hnew
    have hnet2 : (fr == 2) = net := by rw [← hnet]; rfl
    clear hgood
    go_enter Try.func3, Try.ntmps3
    go_upto_region 11 with (first
      | (go_at_call 9; with_reducible refine haw.mono ?_; rintro e w0 ⟨rfl, k0⟩; have hfew := few_calls A c l w0 (Kd.C_below HC.out k0.toBelow) hc; clear haw)
      | (go_at_call 10; with_reducible refine hfew.mono ?_; rintro e w1 hcase; clear hfew; rcases hcase with ⟨rfl, k1⟩ | ⟨rfl, h60, k1⟩)
      | (go_at_call 11; with_reducible refine (hnew _).mono ?_; rintro e w2 ⟨pb, F, rfl, O1, hF, k2⟩; clear hnew))
    · go_ret
      exact ⟨rfl, k0.trans k1 (fun _ _ h => h) (fun _ _ h => h)⟩
    · have k01 := k0.trans k1 (fun _ _ h => h) (fun _ _ h => h)
      have HH : Aside0 _ := ⟨h60⟩
      have ST : Aside0 _ := ⟨tl_start O1 hF k01 k2⟩
      clear h60 O1 hF k01 k0 k1 k2 hnet hnet2 hl0 hl2
      generalize w2.alloc (.cells #[.bool net, .slice none 0 0] 30) = w3 at *
      generalize w2.heap.size = rb at *
      go_wp2
      go_loopg [9] l.length (fun kx s9 wr => ∃ i : Nat, s9 = .int .i64 i ∧ i ≤ l.length ∧ l.length - i ≤ kx ∧ ∃ L all, Aside0 (TlAt w wr pb rb net L all i))
      case atStart => exact ⟨0, rfl, Nat.zero_le _, Nat.le_refl _, [], 0, ST⟩
      case round =>
        clear ST
        obtain ⟨i, rfl, hi, hkx, L, all, D⟩ := hrel
        have h60 := HH.out
        by_cases hlt : i < l.length
        · obtain ⟨ad, cs, rfl, hK, c0, hr⟩ := acts_at HC.out hlt
          obtain ⟨b0, b1, b2, b3⟩ := HB.out l[i] (List.getElem_mem hlt)
          obtain ⟨f, rfl⟩ := frame_of hK b1 b2 b3
          obtain ⟨d, hd⟩ : ∃ d, d = l[i].f0 := ⟨_, rfl⟩
          rw [← hd] at c0
          have hG : Good w f := ⟨_, hK⟩
          have hiz : (i : Int) < (l.length : Int) := by omega
          have hi60 : (i : Int) ≤ 60 := by omega
          have h1 := D.out.one
          obtain ⟨st, hst⟩ : ∃ st, step net L all d f = st := ⟨_, rfl⟩
          have hfew := step_few (all := all) (dir := d) (f := f) h1.1
          have hgood := step_good (G := Good w) (net := net) (all := all) (dir := d) (good0 w) hG D.out.good
          rw [hst] at hfew hgood
          obtain ⟨ns, L', all'⟩ := st
          have hall : all' ≤ i + 1 := by have := D.out.all_; have := hfew.2; simp only at this; omega
          have NG : Aside0 _ := ⟨And.intro hgood.1 hfew.1⟩
          have GL : Aside0 (∀ e ∈ L', Good w e.f) := ⟨hgood.2⟩
          have kd := Kept.drew wr (fun _ => False)
          have T := (D.out.keep kd).take (by omega) d f hst
          have CC : Aside0 _ := ⟨c0⟩
          have HR : Aside0 _ := ⟨hr⟩
          have SH : wr.drew.cell? (ad.add (i * 25)) = some (.int .i64 d) ∧ wr.drew.rangeAt (ad.add (i * 25)).block ((ad.add (i * 25)).off + 1) f.cs := ⟨(D.out.kept.trans kd (fun _ _ h => h) (fun _ _ h => h)).cell c0, (D.out.kept.trans kd (fun _ _ h => h) (fun _ _ h => h)).range hr⟩
          have HST : Aside0 _ := ⟨hst⟩
          have H1 : Aside0 _ := ⟨h1⟩
          have HAL : Aside0 _ := ⟨hall⟩
          clear hK c0 hr b0 b1 b2 b3 hd hG hfew hgood hst h1 hall kd D h60
          go_upto_region 14 with fail
          refine start_ (n := 13) (S := fun w' => w'.cell? (ad.add (i * 25)) = some (.int .i64 d) ∧ w'.rangeAt (ad.add (i * 25)).block ((ad.add (i * 25)).off + 1) f.cs) (ds := []) #[false, false, false, false, false, false, false, false, false, false, false, false, false] (by kernel_rfl) rfl rfl SH (fun hHeld => ?_)
          clear hHeld
          refine pure_ (i := 0) (N := (some 43)) (v := ?_) (a' := ?_) #[true, false, false, false, false, false, false, false, false, false, false, false, false] rfl rfl (by kernel_rfl) (fun _ _ _ h => h) (Or.inl ⟨by rfl, ?_⟩) ?_ ?_
          rotate_left
          · intro w'
            go_simp
            with_reducible rfl
          rotate_left
          · (try simp only [Act.put, List.setIfInBounds_toArray, List.set_cons_zero, List.set_cons_succ]); rfl
          refine pure_ (i := 1) (N := (some 44)) (v := ?_) (a' := ?_) #[true, true, false, false, false, false, false, false, false, false, false, false, false] rfl rfl (by kernel_rfl) (fun _ _ _ h => h) (Or.inl ⟨by rfl, ?_⟩) ?_ ?_
          rotate_left
          · intro w'
            go_simp
            with_reducible rfl
          rotate_left
          · (try simp only [Act.put, List.setIfInBounds_toArray, List.set_cons_zero, List.set_cons_succ]); rfl
          refine pure_ (i := 2) (N := (some 45)) (v := ?_) (a' := ?_) #[true, true, true, false, false, false, false, false, false, false, false, false, false] rfl rfl (by kernel_rfl) (fun _ _ _ h => h) (Or.inl ⟨by rfl, ?_⟩) ?_ ?_
          rotate_left
          · intro w'
            go_simp
            with_reducible rfl
          rotate_left
          · (try simp only [Act.put, List.setIfInBounds_toArray, List.set_cons_zero, List.set_cons_succ]); rfl
          refine pure_ (i := 3) (N := (some 46)) (v := ?_) (a' := ?_) #[true, true, true, true, false, false, false, false, false, false, false, false, false] rfl rfl (by kernel_rfl) (fun _ _ _ h => h) (Or.inl ⟨by rfl, ?_⟩) ?_ ?_
          rotate_left
          · intro w'
            go_simp
            with_reducible rfl
          rotate_left
          · (try simp only [Act.put, List.setIfInBounds_toArray, List.set_cons_zero, List.set_cons_succ]); rfl
          refine pure_ (i := 4) (N := (some 47)) (v := ?_) (a' := ?_) #[true, true, true, true, true, false, false, false, false, false, false, false, false] rfl rfl (by kernel_rfl) (fun _ _ _ h => h) (Or.inl ⟨by rfl, ?_⟩) ?_ ?_
          rotate_left
          · intro w'
            go_simp
            with_reducible rfl
          rotate_left
          · (try simp only [Act.put, List.setIfInBounds_toArray, List.set_cons_zero, List.set_cons_succ]); rfl
          refine take_ (i := 5) (N := (some 48)) (v := ?_) (a' := ?_) #[true, true, true, true, true, true, false, false, false, false, false, false, false] rfl rfl (by kernel_rfl) (fun _ _ _ h => h) (Or.inl ⟨by rfl, ?_⟩) SH ?_ ?_
          rotate_left
          · intro w' hS
            have q0 := hS.1
            go_simp
            with_reducible rfl
          rotate_left
          · (try simp only [Act.put, List.setIfInBounds_toArray, List.set_cons_zero, List.set_cons_succ]); rfl
          refine pure_ (i := 6) (N := (some 49)) (v := ?_) (a' := ?_) #[true, true, true, true, true, true, true, false, false, false, false, false, false] rfl rfl (by kernel_rfl) (fun _ _ _ h => h) (Or.inl ⟨by rfl, ?_⟩) ?_ ?_
          rotate_left
          · intro w'
            go_simp
            with_reducible rfl
          rotate_left
          · (try simp only [Act.put, List.setIfInBounds_toArray, List.set_cons_zero, List.set_cons_succ]); rfl
          refine pure_ (i := 7) (N := (some 50)) (v := ?_) (a' := ?_) #[true, true, true, true, true, true, true, true, false, false, false, false, false] rfl rfl (by kernel_rfl) (fun _ _ _ h => h) (Or.inl ⟨by rfl, ?_⟩) ?_ ?_
          rotate_left
          · intro w'
            go_simp
            with_reducible rfl
          rotate_left
          · (try simp only [Act.put, List.setIfInBounds_toArray, List.set_cons_zero, List.set_cons_succ]); rfl
          refine pure_ (i := 8) (N := (some 51)) (v := ?_) (a' := ?_) #[true, true, true, true, true, true, true, true, true, false, false, false, false] rfl rfl (by kernel_rfl) (fun _ _ _ h => h) (Or.inl ⟨by rfl, ?_⟩) ?_ ?_
          rotate_left
          · intro w'
            go_simp
            with_reducible rfl
          rotate_left
          · (try simp only [Act.put, List.setIfInBounds_toArray, List.set_cons_zero, List.set_cons_succ]); rfl
          refine pure_ (i := 9) (N := (some 52)) (v := ?_) (a' := ?_) #[true, true, true, true, true, true, true, true, true, true, false, false, false] rfl rfl (by kernel_rfl) (fun _ _ _ h => h) (Or.inl ⟨by rfl, ?_⟩) ?_ ?_
          rotate_left
          · intro w'
            go_simp
            with_reducible rfl
          rotate_left
          · (try simp only [Act.put, List.setIfInBounds_toArray, List.set_cons_zero, List.set_cons_succ]); rfl
          refine take_ (i := 10) (N := (some 53)) (v := .agg f.cs.toArray) (a' := ?_) #[true, true, true, true, true, true, true, true, true, true, true, false, false] rfl rfl (by kernel_rfl) (fun _ _ _ h => h) (yieldsIf_load_mid (by kernel_rfl) 44 (.tmp 52) rfl (ad.add (i * 25)).block ((ad.add (i * 25)).off + 1) rfl f.cs _ (fun w' hS => hS.2) Try.underlying44 rfl (by kernel_rfl)) SH ?_ ?_
          rotate_left
          · (try simp only [Act.put, List.setIfInBounds_toArray, List.set_cons_zero, List.set_cons_succ]); rfl
          refine one_ (i := 11) (N := some 54) #[true, true, true, true, true, true, true, true, true, true, true, true, false] rfl rfl (by kernel_rfl) (by decide) (fun K hK => ?_)
          refine goes_ (f := 12) (fn := Try.f12) Try.func12 rfl rfl #[.pointer (some ⟨pb, 0, none⟩), .int .i64 d, .agg f.cs.toArray] (by kernel_rfl) rfl rfl (by simp only [List.map_toArray, List.map_cons, List.map_nil]; rfl) ?_
          refine T.mono ?_
          rintro e w2 ⟨va, rfl, TA⟩
          refine ⟨_, rfl, hK.out _ _ (⟨TA.kept.cell CC.out, TA.kept.range HR.out⟩ : w2.cell? (ad.add (i * 25)) = some (.int .i64 d) ∧ w2.rangeAt (ad.add (i * 25)).block ((ad.add (i * 25)).off + 1) f.cs) (fun hHeld => ?_)⟩
          clear hHeld hK K
          refine norm_ (a' := ?_) ?_ ?_
          rotate_left
          · (try simp only [Act.put, List.setIfInBounds_toArray, List.set_cons_zero, List.set_cons_succ]); rfl
          refine pure_ (i := 12) (N := (some 10)) (v := ?_) (a' := ?_) #[true, true, true, true, true, true, true, true, true, true, true, true, true] rfl rfl (by kernel_rfl) (fun _ _ _ h => h) (Or.inl ⟨by rfl, ?_⟩) ?_ ?_
          rotate_left
          · intro w'
            go_simp
            with_reducible rfl
          rotate_left
          · (try simp only [Act.put, List.setIfInBounds_toArray, List.set_cons_zero, List.set_cons_succ]); rfl
          refine done_ (by kernel_rfl) ?_
          clear T SH
          go_upto_region 15 with fail
          have kd := Kept.drew w2 (fun _ => False)
          have TA2 := TA.keep kd
          have T2 := TA2.rtake H1.out.1 H1.out.2 d f HST.out
          have SH : w2.drew.cell? (ad.add (i * 25)) = some (.int .i64 d) ∧ w2.drew.rangeAt (ad.add (i * 25)).block ((ad.add (i * 25)).off + 1) f.cs := ⟨TA2.kept.cell CC.out, TA2.kept.range HR.out⟩
          clear kd TA TA2
          refine start_ (n := 13) (S := fun w' => w'.cell? (ad.add (i * 25)) = some (.int .i64 d) ∧ w'.rangeAt (ad.add (i * 25)).block ((ad.add (i * 25)).off + 1) f.cs) (ds := []) #[false, false, false, false, false, false, false, false, false, false, false, false, false] (by kernel_rfl) rfl rfl SH (fun hHeld => ?_)
          clear hHeld
          refine pure_ (i := 0) (N := (some 55)) (v := ?_) (a' := ?_) #[true, false, false, false, false, false, false, false, false, false, false, false, false] rfl rfl (by kernel_rfl) (fun _ _ _ h => h) (Or.inl ⟨by rfl, ?_⟩) ?_ ?_
          rotate_left
          · intro w'
            go_simp
            with_reducible rfl
          rotate_left
          · (try simp only [Act.put, List.setIfInBounds_toArray, List.set_cons_zero, List.set_cons_succ]); rfl
          refine pure_ (i := 1) (N := (some 56)) (v := ?_) (a' := ?_) #[true, true, false, false, false, false, false, false, false, false, false, false, false] rfl rfl (by kernel_rfl) (fun _ _ _ h => h) (Or.inl ⟨by rfl, ?_⟩) ?_ ?_
          rotate_left
          · intro w'
            go_simp
            with_reducible rfl
          rotate_left
          · (try simp only [Act.put, List.setIfInBounds_toArray, List.set_cons_zero, List.set_cons_succ]); rfl
          refine pure_ (i := 2) (N := (some 57)) (v := ?_) (a' := ?_) #[true, true, true, false, false, false, false, false, false, false, false, false, false] rfl rfl (by kernel_rfl) (fun _ _ _ h => h) (Or.inl ⟨by rfl, ?_⟩) ?_ ?_
          rotate_left
          · intro w'
            go_simp
            with_reducible rfl
          rotate_left
          · (try simp only [Act.put, List.setIfInBounds_toArray, List.set_cons_zero, List.set_cons_succ]); rfl
          refine pure_ (i := 3) (N := (some 58)) (v := ?_) (a' := ?_) #[true, true, true, true, false, false, false, false, false, false, false, false, false] rfl rfl (by kernel_rfl) (fun _ _ _ h => h) (Or.inl ⟨by rfl, ?_⟩) ?_ ?_
          rotate_left
          · intro w'
            go_simp
            with_reducible rfl
          rotate_left
          · (try simp only [Act.put, List.setIfInBounds_toArray, List.set_cons_zero, List.set_cons_succ]); rfl
          refine pure_ (i := 4) (N := (some 59)) (v := ?_) (a' := ?_) #[true, true, true, true, true, false, false, false, false, false, false, false, false] rfl rfl (by kernel_rfl) (fun _ _ _ h => h) (Or.inl ⟨by rfl, ?_⟩) ?_ ?_
          rotate_left
          · intro w'
            go_simp
            with_reducible rfl
          rotate_left
          · (try simp only [Act.put, List.setIfInBounds_toArray, List.set_cons_zero, List.set_cons_succ]); rfl
          refine take_ (i := 5) (N := (some 60)) (v := ?_) (a' := ?_) #[true, true, true, true, true, true, false, false, false, false, false, false, false] rfl rfl (by kernel_rfl) (fun _ _ _ h => h) (Or.inl ⟨by rfl, ?_⟩) SH ?_ ?_
          rotate_left
          · intro w' hS
            have q0 := hS.1
            go_simp
            with_reducible rfl
          rotate_left
          · (try simp only [Act.put, List.setIfInBounds_toArray, List.set_cons_zero, List.set_cons_succ]); rfl
          refine pure_ (i := 6) (N := (some 61)) (v := ?_) (a' := ?_) #[true, true, true, true, true, true, true, false, false, false, false, false, false] rfl rfl (by kernel_rfl) (fun _ _ _ h => h) (Or.inl ⟨by rfl, ?_⟩) ?_ ?_
          rotate_left
          · intro w'
            go_simp
            with_reducible rfl
          rotate_left
          · (try simp only [Act.put, List.setIfInBounds_toArray, List.set_cons_zero, List.set_cons_succ]); rfl
          refine pure_ (i := 7) (N := (some 62)) (v := ?_) (a' := ?_) #[true, true, true, true, true, true, true, true, false, false, false, false, false] rfl rfl (by kernel_rfl) (fun _ _ _ h => h) (Or.inl ⟨by rfl, ?_⟩) ?_ ?_
          rotate_left
          · intro w'
            go_simp
            with_reducible rfl
          rotate_left
          · (try simp only [Act.put, List.setIfInBounds_toArray, List.set_cons_zero, List.set_cons_succ]); rfl
          refine pure_ (i := 8) (N := (some 63)) (v := ?_) (a' := ?_) #[true, true, true, true, true, true, true, true, true, false, false, false, false] rfl rfl (by kernel_rfl) (fun _ _ _ h => h) (Or.inl ⟨by rfl, ?_⟩) ?_ ?_
          rotate_left
          · intro w'
            go_simp
            with_reducible rfl
          rotate_left
          · (try simp only [Act.put, List.setIfInBounds_toArray, List.set_cons_zero, List.set_cons_succ]); rfl
          refine pure_ (i := 9) (N := (some 64)) (v := ?_) (a' := ?_) #[true, true, true, true, true, true, true, true, true, true, false, false, false] rfl rfl (by kernel_rfl) (fun _ _ _ h => h) (Or.inl ⟨by rfl, ?_⟩) ?_ ?_
          rotate_left
          · intro w'
            go_simp
            with_reducible rfl
          rotate_left
          · (try simp only [Act.put, List.setIfInBounds_toArray, List.set_cons_zero, List.set_cons_succ]); rfl
          refine take_ (i := 10) (N := (some 65)) (v := .agg f.cs.toArray) (a' := ?_) #[true, true, true, true, true, true, true, true, true, true, true, false, false] rfl rfl (by kernel_rfl) (fun _ _ _ h => h) (yieldsIf_load_mid (by kernel_rfl) 44 (.tmp 64) rfl (ad.add (i * 25)).block ((ad.add (i * 25)).off + 1) rfl f.cs _ (fun w' hS => hS.2) Try.underlying44 rfl (by kernel_rfl)) SH ?_ ?_
          rotate_left
          · (try simp only [Act.put, List.setIfInBounds_toArray, List.set_cons_zero, List.set_cons_succ]); rfl
          refine one_ (i := 11) (N := some 66) #[true, true, true, true, true, true, true, true, true, true, true, true, false] rfl rfl (by kernel_rfl) (by decide) (fun K hK => ?_)
          refine goes_ (f := 13) (fn := Try.f13) Try.func13 rfl rfl #[.pointer (some ⟨rb, 0, none⟩), .int .i64 d, .agg f.cs.toArray] (by kernel_rfl) rfl rfl (by simp only [List.map_toArray, List.map_cons, List.map_nil]; rfl) ?_
          refine T2.mono ?_
          rintro e w3 ⟨vb, rfl, TB⟩
          refine ⟨_, rfl, hK.out _ _ (⟨TB.kept.cell CC.out, TB.kept.range HR.out⟩ : w3.cell? (ad.add (i * 25)) = some (.int .i64 d) ∧ w3.rangeAt (ad.add (i * 25)).block ((ad.add (i * 25)).off + 1) f.cs) (fun hHeld => ?_)⟩
          clear hHeld hK K
          refine norm_ (a' := ?_) ?_ ?_
          rotate_left
          · (try simp only [Act.put, List.setIfInBounds_toArray, List.set_cons_zero, List.set_cons_succ]); rfl
          refine pure_ (i := 12) (N := (some 11)) (v := ?_) (a' := ?_) #[true, true, true, true, true, true, true, true, true, true, true, true, true] rfl rfl (by kernel_rfl) (fun _ _ _ h => h) (Or.inl ⟨by rfl, ?_⟩) ?_ ?_
          rotate_left
          · intro w'
            go_simp
            with_reducible rfl
          rotate_left
          · (try simp only [Act.put, List.setIfInBounds_toArray, List.set_cons_zero, List.set_cons_succ]); rfl
          refine done_ (by kernel_rfl) ?_
          clear T2 SH
          go_upto_region 16 with fail
          have TB1 := TB.keep (Kept.drew w3 (fun _ => False))
          have TN := TB1.notes NG.out.1 NG.out.2
          obtain ⟨vR, hRV⟩ := TB1.ref
          obtain ⟨xa, xc, rfl⟩ := owns_len hRV.row
          have SH := hRV.c1
          have RV : Aside0 _ := ⟨hRV⟩
          have TB4 : Aside0 _ := ⟨TB1⟩
          have hL' : L'.length ≤ 16 := by obtain ⟨F, O, _⟩ := TB1.own; exact O.few
          clear TB TB1 hRV
          refine start_ (n := 14) (S := fun w' => w'.cell? ⟨rb, 1, none⟩ = some (.slice xa L'.length xc)) (ds := []) #[false, false, false, false, false, false, false, false, false, false, false, false, false, false] (by kernel_rfl) rfl rfl SH (fun hHeld => ?_)
          clear hHeld
          refine pure_ (i := 0) (N := (some 67)) (v := ?_) (a' := ?_) #[true, false, false, false, false, false, false, false, false, false, false, false, false, false] rfl rfl (by kernel_rfl) (fun _ _ _ h => h) (Or.inl ⟨by rfl, ?_⟩) ?_ ?_
          rotate_left
          · intro w'
            go_simp
            with_reducible rfl
          rotate_left
          · (try simp only [Act.put, List.setIfInBounds_toArray, List.set_cons_zero, List.set_cons_succ]); rfl
          refine pure_ (i := 1) (N := (some 68)) (v := ?_) (a' := ?_) #[true, true, false, false, false, false, false, false, false, false, false, false, false, false] rfl rfl (by kernel_rfl) (fun _ _ _ h => h) (Or.inl ⟨by rfl, ?_⟩) ?_ ?_
          rotate_left
          · intro w'
            go_simp
            with_reducible rfl
          rotate_left
          · (try simp only [Act.put, List.setIfInBounds_toArray, List.set_cons_zero, List.set_cons_succ]); rfl
          refine one_ (i := 2) (N := some 69) #[true, true, true, false, false, false, false, false, false, false, false, false, false, false] rfl rfl (by kernel_rfl) (by decide) (fun K hK => ?_)
          refine goes_ (f := 14) (fn := Try.f14) Try.func14 rfl rfl #[va, vb] (by kernel_rfl) rfl rfl (by simp only [List.map_toArray, List.map_cons, List.map_nil]; rfl) ?_
          refine TN.mono ?_
          rintro e w5 ⟨rfl, k5⟩
          have SH5 : w5.cell? ⟨rb, 1, none⟩ = some (.slice xa L'.length xc) := k5.cell SH
          refine ⟨_, rfl, hK.out _ _ SH5 (fun hHeld => ?_)⟩
          clear hHeld hK K
          refine norm_ (a' := ?_) ?_ ?_
          rotate_left
          · (try simp only [Act.put, List.setIfInBounds_toArray, List.set_cons_zero, List.set_cons_succ]); rfl
          refine pure_ (i := 3) (N := (some 70)) (v := ?_) (a' := ?_) #[true, true, true, true, false, false, false, false, false, false, false, false, false, false] rfl rfl (by kernel_rfl) (fun _ _ _ h => h) (Or.inl ⟨by rfl, ?_⟩) ?_ ?_
          rotate_left
          · intro w'
            go_simp
            with_reducible rfl
          rotate_left
          · (try simp only [Act.put, List.setIfInBounds_toArray, List.set_cons_zero, List.set_cons_succ]); rfl
          refine pure_ (i := 4) (N := (some 71)) (v := ?_) (a' := ?_) #[true, true, true, true, true, false, false, false, false, false, false, false, false, false] rfl rfl (by kernel_rfl) (fun _ _ _ h => h) (Or.inl ⟨by rfl, ?_⟩) ?_ ?_
          rotate_left
          · intro w'
            go_simp
            with_reducible rfl
          rotate_left
          · (try simp only [Act.put, List.setIfInBounds_toArray, List.set_cons_zero, List.set_cons_succ]); rfl
          refine pure_ (i := 5) (N := (some 72)) (v := ?_) (a' := ?_) #[true, true, true, true, true, true, false, false, false, false, false, false, false, false] rfl rfl (by kernel_rfl) (fun _ _ _ h => h) (Or.inl ⟨by rfl, ?_⟩) ?_ ?_
          rotate_left
          · intro w'
            go_simp
            with_reducible rfl
          rotate_left
          · (try simp only [Act.put, List.setIfInBounds_toArray, List.set_cons_zero, List.set_cons_succ]); rfl
          refine pure_ (i := 7) (N := (some 74)) (v := ?_) (a' := ?_) #[true, true, true, true, true, true, false, true, false, false, false, false, false, false] rfl rfl (by kernel_rfl) (fun _ _ _ h => h) (Or.inl ⟨by rfl, ?_⟩) ?_ ?_
          rotate_left
          · intro w'
            go_simp
            with_reducible rfl
          rotate_left
          · (try simp only [Act.put, List.setIfInBounds_toArray, List.set_cons_zero, List.set_cons_succ]); rfl
          refine pure_ (i := 8) (N := (some 75)) (v := ?_) (a' := ?_) #[true, true, true, true, true, true, false, true, true, false, false, false, false, false] rfl rfl (by kernel_rfl) (fun _ _ _ h => h) (Or.inl ⟨by rfl, ?_⟩) ?_ ?_
          rotate_left
          · intro w'
            go_simp
            with_reducible rfl
          rotate_left
          · (try simp only [Act.put, List.setIfInBounds_toArray, List.set_cons_zero, List.set_cons_succ]); rfl
          refine pure_ (i := 9) (N := (some 76)) (v := ?_) (a' := ?_) #[true, true, true, true, true, true, false, true, true, true, false, false, false, false] rfl rfl (by kernel_rfl) (fun _ _ _ h => h) (Or.inl ⟨by rfl, ?_⟩) ?_ ?_
          rotate_left
          · intro w'
            go_simp
            with_reducible rfl
          rotate_left
          · (try simp only [Act.put, List.setIfInBounds_toArray, List.set_cons_zero, List.set_cons_succ]); rfl
          refine take_ (i := 10) (N := (some 77)) (v := ?_) (a' := ?_) #[true, true, true, true, true, true, false, true, true, true, true, false, false, false] rfl rfl (by kernel_rfl) (fun _ _ _ h => h) (Or.inl ⟨by rfl, ?_⟩) SH5 ?_ ?_
          rotate_left
          · intro w' hS
            have q0 := hS
            go_simp
            with_reducible rfl
          rotate_left
          · (try simp only [Act.put, List.setIfInBounds_toArray, List.set_cons_zero, List.set_cons_succ]); rfl
          refine one_ (i := 6) (N := some 73) #[true, true, true, true, true, true, true, true, true, true, true, false, false, false] rfl rfl (by kernel_rfl) (by decide) (fun K hK => ?_)
          refine goes_ (f := 16) (fn := Try.f16) Try.func16 rfl rfl #[.pointer (some ⟨pb, 0, none⟩)] (by kernel_rfl) rfl rfl (by simp only [List.map_toArray, List.map_cons, List.map_nil]; rfl) ?_
          refine ((TB4.out.keep k5).open_).mono ?_
          rintro e w6 ⟨vo, rfl, ho, k6⟩
          refine ⟨_, rfl, hK.out _ _ (k6.cell SH5 : w6.cell? ⟨rb, 1, none⟩ = some (.slice xa L'.length xc)) (fun hHeld => ?_)⟩
          clear hHeld hK K
          refine norm_ (a' := ?_) ?_ ?_
          rotate_left
          · (try simp only [Act.put, List.setIfInBounds_toArray, List.set_cons_zero, List.set_cons_succ]); rfl
          refine one_ (i := 11) (N := some 78) #[true, true, true, true, true, true, true, true, true, true, true, true, false, false] rfl rfl (by kernel_rfl) (by decide) (fun K hK => ?_)
          refine goes_ (f := 15) (fn := Try.f15) Try.func15 rfl rfl #[vo, .slice xa L'.length xc] (by kernel_rfl) rfl rfl (by simp only [List.map_toArray, List.map_cons, List.map_nil]; rfl) ?_
          refine (frames_calls w6 L' vo _ ho (RV.out.keep (k5.trans k6 (fun _ _ h => h) (fun _ _ h => h))).row (fun e he => (GL.out e he).keep (TB4.out.kept.trans (k5.trans k6 (fun _ _ h => h) (fun _ _ h => h)) (fun _ _ h => h) (fun _ _ h => h))) hL').mono ?_
          rintro e w7 ⟨rfl, k7⟩
          refine ⟨_, rfl, hK.out _ _ (k7.cell (k6.cell SH5) : w7.cell? ⟨rb, 1, none⟩ = some (.slice xa L'.length xc)) (fun hHeld => ?_)⟩
          clear hHeld hK K
          refine norm_ (a' := ?_) ?_ ?_
          rotate_left
          · (try simp only [Act.put, List.setIfInBounds_toArray, List.set_cons_zero, List.set_cons_succ]); rfl
          refine pure_ (i := 12) (N := (some 79)) (v := ?_) (a' := ?_) #[true, true, true, true, true, true, true, true, true, true, true, true, true, false] rfl rfl (by kernel_rfl) (fun _ _ _ h => h) (Or.inl ⟨by rfl, ?_⟩) ?_ ?_
          rotate_left
          · intro w'
            go_simp
            with_reducible rfl
          rotate_left
          · (try simp only [Act.put, List.setIfInBounds_toArray, List.set_cons_zero, List.set_cons_succ]); rfl
          refine pure_ (i := 13) (N := (some 80)) (v := ?_) (a' := ?_) #[true, true, true, true, true, true, true, true, true, true, true, true, true, true] rfl rfl (by kernel_rfl) (fun _ _ _ h => h) (Or.inl ⟨by rfl, ?_⟩) ?_ ?_
          rotate_left
          · intro w'
            go_simp
            with_reducible rfl
          rotate_left
          · (try simp only [Act.put, List.setIfInBounds_toArray, List.set_cons_zero, List.set_cons_succ]); rfl
          refine done_ (by kernel_rfl) ?_
          have D2 : Aside0 _ := ⟨(((TB4.out.keep k5).keep k6).keep k7).next GL.out HAL.out⟩
          clear SH SH5 TN RV TB4 ho k5 k6 k7 hL'
          go_wp2
          go_roundg (l.length - (i + 1))
          case measure => omega
          case rel => exact ⟨i + 1, by go_num, by omega, Nat.le_refl _, L', all', D2⟩
        · have hge : ¬ ((i : Int) < (l.length : Int)) := by omega
          have kd := Kept.drew wr (fun _ => False)
          have D1 := D.out.keep kd
          have TO := D1.open_
          obtain ⟨vR, hRV⟩ := D1.ref
          obtain ⟨xa, xc, rfl⟩ := owns_len hRV.row
          have SH := hRV.c1
          have K1 : Aside0 _ := ⟨D1.kept⟩
          clear kd D1 hRV D h60
          go_upto_region 18 with fail
          refine start_ (n := 13) (S := fun w' => w'.cell? ⟨rb, 1, none⟩ = some (.slice xa L.length xc)) (ds := []) #[false, false, false, false, false, false, false, false, false, false, false, false, false] (by kernel_rfl) rfl rfl SH (fun hHeld => ?_)
          clear hHeld
          refine pure_ (i := 0) (N := (some 81)) (v := ?_) (a' := ?_) #[true, false, false, false, false, false, false, false, false, false, false, false, false] rfl rfl (by kernel_rfl) (fun _ _ _ h => h) (Or.inl ⟨by rfl, ?_⟩) ?_ ?_
          rotate_left
          · intro w'
            go_simp
            with_reducible rfl
          rotate_left
          · (try simp only [Act.put, List.setIfInBounds_toArray, List.set_cons_zero, List.set_cons_succ]); rfl
          refine pure_ (i := 1) (N := (some 82)) (v := ?_) (a' := ?_) #[true, true, false, false, false, false, false, false, false, false, false, false, false] rfl rfl (by kernel_rfl) (fun _ _ _ h => h) (Or.inl ⟨by rfl, ?_⟩) ?_ ?_
          rotate_left
          · intro w'
            go_simp
            with_reducible rfl
          rotate_left
          · (try simp only [Act.put, List.setIfInBounds_toArray, List.set_cons_zero, List.set_cons_succ]); rfl
          refine pure_ (i := 2) (N := (some 83)) (v := ?_) (a' := ?_) #[true, true, true, false, false, false, false, false, false, false, false, false, false] rfl rfl (by kernel_rfl) (fun _ _ _ h => h) (Or.inl ⟨by rfl, ?_⟩) ?_ ?_
          rotate_left
          · intro w'
            go_simp
            with_reducible rfl
          rotate_left
          · (try simp only [Act.put, List.setIfInBounds_toArray, List.set_cons_zero, List.set_cons_succ]); rfl
          refine pure_ (i := 5) (N := (some 86)) (v := ?_) (a' := ?_) #[true, true, true, false, false, true, false, false, false, false, false, false, false] rfl rfl (by kernel_rfl) (fun _ _ _ h => h) (Or.inl ⟨by rfl, ?_⟩) ?_ ?_
          rotate_left
          · intro w'
            go_simp
            with_reducible rfl
          rotate_left
          · (try simp only [Act.put, List.setIfInBounds_toArray, List.set_cons_zero, List.set_cons_succ]); rfl
          refine pure_ (i := 6) (N := (some 87)) (v := ?_) (a' := ?_) #[true, true, true, false, false, true, true, false, false, false, false, false, false] rfl rfl (by kernel_rfl) (fun _ _ _ h => h) (Or.inl ⟨by rfl, ?_⟩) ?_ ?_
          rotate_left
          · intro w'
            go_simp
            with_reducible rfl
          rotate_left
          · (try simp only [Act.put, List.setIfInBounds_toArray, List.set_cons_zero, List.set_cons_succ]); rfl
          refine pure_ (i := 7) (N := (some 88)) (v := ?_) (a' := ?_) #[true, true, true, false, false, true, true, true, false, false, false, false, false] rfl rfl (by kernel_rfl) (fun _ _ _ h => h) (Or.inl ⟨by rfl, ?_⟩) ?_ ?_
          rotate_left
          · intro w'
            go_simp
            with_reducible rfl
          rotate_left
          · (try simp only [Act.put, List.setIfInBounds_toArray, List.set_cons_zero, List.set_cons_succ]); rfl
          refine take_ (i := 8) (N := (some 89)) (v := ?_) (a' := ?_) #[true, true, true, false, false, true, true, true, true, false, false, false, false] rfl rfl (by kernel_rfl) (fun _ _ _ h => h) (Or.inl ⟨by rfl, ?_⟩) SH ?_ ?_
          rotate_left
          · intro w' hS
            have q0 := hS
            go_simp
            with_reducible rfl
          rotate_left
          · (try simp only [Act.put, List.setIfInBounds_toArray, List.set_cons_zero, List.set_cons_succ]); rfl
          refine pure_ (i := 9) (N := (some 90)) (v := ?_) (a' := ?_) #[true, true, true, false, false, true, true, true, true, true, false, false, false] rfl rfl (by kernel_rfl) (fun _ _ _ h => h) (Or.inl ⟨by rfl, ?_⟩) ?_ ?_
          rotate_left
          · intro w'
            go_simp
            with_reducible rfl
          rotate_left
          · (try simp only [Act.put, List.setIfInBounds_toArray, List.set_cons_zero, List.set_cons_succ]); rfl
          refine one_ (i := 3) (N := some 84) #[true, true, true, true, false, true, true, true, true, true, false, false, false] rfl rfl (by kernel_rfl) (by decide) (fun K hK => ?_)
          refine goes_ (f := 16) (fn := Try.f16) Try.func16 rfl rfl #[.pointer (some ⟨pb, 0, none⟩)] (by kernel_rfl) rfl rfl (by simp only [List.map_toArray, List.map_cons, List.map_nil]; rfl) ?_
          refine TO.mono ?_
          rintro e w6 ⟨oa, oc, rfl, k6⟩
          refine ⟨_, rfl, hK.out _ _ (k6.cell SH : w6.cell? ⟨rb, 1, none⟩ = some (.slice xa L.length xc)) (fun hHeld => ?_)⟩
          clear hHeld hK K
          refine norm_ (a' := ?_) ?_ ?_
          rotate_left
          · (try simp only [Act.put, List.setIfInBounds_toArray, List.set_cons_zero, List.set_cons_succ]); rfl
          refine pure_ (i := 4) (N := (some 85)) (v := ?_) (a' := ?_) #[true, true, true, true, true, true, true, true, true, true, false, false, false] rfl rfl (by kernel_rfl) (fun _ _ _ h => h) (Or.inl ⟨by rfl, ?_⟩) ?_ ?_
          rotate_left
          · intro w'
            go_simp
            with_reducible rfl
          rotate_left
          · (try simp only [Act.put, List.setIfInBounds_toArray, List.set_cons_zero, List.set_cons_succ]); rfl
          refine pure_ (i := 10) (N := (some 91)) (v := ?_) (a' := ?_) #[true, true, true, true, true, true, true, true, true, true, true, false, false] rfl rfl (by kernel_rfl) (fun _ _ _ h => h) (Or.inl ⟨by rfl, ?_⟩) ?_ ?_
          rotate_left
          · intro w'
            go_simp
            with_reducible rfl
          rotate_left
          · (try simp only [Act.put, List.setIfInBounds_toArray, List.set_cons_zero, List.set_cons_succ]); rfl
          refine pure_ (i := 11) (N := (some 92)) (v := ?_) (a' := ?_) #[true, true, true, true, true, true, true, true, true, true, true, true, false] rfl rfl (by kernel_rfl) (fun _ _ _ h => h) (Or.inl ⟨by rfl, ?_⟩) ?_ ?_
          rotate_left
          · intro w'
            go_simp
            with_reducible rfl
          rotate_left
          · (try simp only [Act.put, List.setIfInBounds_toArray, List.set_cons_zero, List.set_cons_succ]); rfl
          refine pure_ (i := 12) (N := (some 4)) (v := ?_) (a' := ?_) #[true, true, true, true, true, true, true, true, true, true, true, true, true] rfl rfl (by kernel_rfl) (fun _ _ _ h => h) (Or.inl ⟨by rfl, ?_⟩) ?_ ?_
          rotate_left
          · intro w'
            go_simp
            with_reducible rfl
          rotate_left
          · (try simp only [Act.put, List.setIfInBounds_toArray, List.set_cons_zero, List.set_cons_succ]); rfl
          refine done_ (by kernel_rfl) ?_
          have K2 : Aside0 _ := ⟨K1.out.trans k6 (fun _ _ h => h) (fun _ _ h => h)⟩
          clear SH TO k6 K1
          go_wp2
          go_ret
          exact ⟨rfl, K2.out⟩
  · have h0 : ¬ fr = 0 := fun h => hgood (.inl h)
    have h1 : ¬ fr = 1 := fun h => hgood (.inr (.inl h))
    have h2 : ¬ fr = 2 := fun h => hgood (.inr (.inr h))
    have hnew := new_none fr h0 h1 h2
    have hb : fr < 0 ∨ (¬ fr < 0 ∧ 2 < fr) := by omega
    clear hgood h0 h1 h2
    rcases hb with hb | ⟨hb, hb2⟩
    · go_enter Try.func3, Try.ntmps3
      go_wp2_with (first
        | (go_at_call 9; with_reducible refine haw.mono ?_; rintro e w0 ⟨rfl, k0⟩; have hfew := few_calls A c l w0 (Kd.C_below HC.out k0.toBelow) hc; clear haw)
        | (go_at_call 10; with_reducible refine hfew.mono ?_; rintro e w1 hcase; clear hfew; rcases hcase with ⟨rfl, k1⟩ | ⟨rfl, h60, k1⟩)
        | (go_at_call 11; with_reducible refine (hnew _).mono ?_; rintro e w2 ⟨rfl, rfl⟩; clear hnew))
      all_goals (go_ret; exact ⟨rfl, k0.trans k1 (fun _ _ h => h) (fun _ _ h => h)⟩)
    · go_enter Try.func3, Try.ntmps3
      go_wp2_with (first
        | (go_at_call 9; with_reducible refine haw.mono ?_; rintro e w0 ⟨rfl, k0⟩; have hfew := few_calls A c l w0 (Kd.C_below HC.out k0.toBelow) hc; clear haw)
        | (go_at_call 10; with_reducible refine hfew.mono ?_; rintro e w1 hcase; clear hfew; rcases hcase with ⟨rfl, k1⟩ | ⟨rfl, h60, k1⟩)
        | (go_at_call 11; with_reducible refine (hnew _).mono ?_; rintro e w2 ⟨rfl, rfl⟩; clear hnew))
      all_goals (go_ret; exact ⟨rfl, k0.trans k1 (fun _ _ h => h) (fun _ _ h => h)⟩)

end Go.Proofs.Ytmbjlondehcheaa
