/- PairTells: notes and frames of the statement's package answer true for rows that hold the same notes, the same frames. -/
import Derived.Test.YtmbjlondehcheaaProg
import Derived.Below
import Derived.OneCell
import Derived.WalkKit
import Derived.KernelRfl
import Derived.RowKit3
import Derived.Deep.LoopGhost
import Derived.Deep.QuietTactic
import Derived.BigQuiet
import Derived.Deep.DeepCutAuto
import Derived.Deep.CutBlock
import Derived.Deep.RegionWith
import Derived.OwnWalk
import Derived.Laws.Tables
import Derived.Laws.AppendOwn
import Derived.Shelf.SlSortCmp.KitK
import Derived.Shelf.RegionOpenPlain
import Derived.Sort.WalkB2
import Derived.Deep.MidRow
import Derived.Great.Walk
import Derived.Test.YtmbjlondehcheaaWWords
import Derived.Test.YtmbjlondehcheaaWLast
import Derived.Laws.StructEq
import Derived.Maps.Own
import Derived.Maps.RangeRun
import Derived.Test.YtmbjlondehcheaaHPairRef
set_option linter.unusedSimpArgs false
set_option linter.unusedVariables false
namespace Go.Proofs.Ytmbjlondehcheaa
open Go.Shelf Go.RowKit Go.Lib Go.Sort Go.Proofs.YtmbjlondehcheaaW.PrintWords Go.Proofs.YtmbjlondehcheaaW.PrintLast Go.Proofs.Ytmbjlondehcheaa.PFW

/-- A frame whose lists lie in memory. -/
def Good (w : World) (f : Fr) : Prop := ∃ x, k44.K w x f.cs
theorem Good.keep {w w' : World} {f : Fr} (h : Good w f) (k : Kept w w' (fun _ => False)) : Good w' f := by
  obtain ⟨x, hx⟩ := h
  exact ⟨x, k44.K_below k.toBelow hx⟩
theorem good0 (w : World) : Good w fr0 := ⟨_, fr0_K w⟩

/-- A note, where it lies in a row of notes. -/
theorem nt_cells {w : World} {e : TypeId} {v : Value} {ns : List Nt} (h : w.ownsRow 0 e 49 v ns.length (nts ns)) (h0 : 0 < ns.length) : ∃ g cap, v = .slice (some ⟨g, 0, none⟩) ns.length cap ∧ ∀ i n j u, ns[i]? = some n → n.cs[j]? = some u → w.cell? ⟨g, i * 49 + j, none⟩ = some u := by
  rcases h.2 with ⟨_, h1⟩ | ⟨g, cap, cur, hv, _, hg, hnc, hcm, hcs, htake⟩
  · omega
  · refine ⟨g, cap, hv, fun i n j u hn hu => ?_⟩
    have hi : i < ns.length := (List.getElem?_eq_some_iff.1 hn).1
    have hj : j < 49 := by have := (List.getElem?_eq_some_iff.1 hu).1; rwa [Nt.len] at this
    have hlen : ∀ l : List Nt, (nts l).length = l.length * 49 := fun l => by
      induction l with
      | nil => rfl
      | cons a l ih => simp only [nts, List.flatMap_cons, List.length_append, List.length_cons] at *; rw [ih, Nt.len]; omega
    have key : (nts ns)[i * 49 + j]? = some u := by
      have hsplit : ns = ns.take i ++ n :: ns.drop (i + 1) := by
        have e : n = ns[i] := by rw [List.getElem?_eq_getElem hi] at hn; simpa using hn.symm
        rw [e, ← List.drop_eq_getElem_cons hi, List.take_append_drop]
      have e : nts (ns.take i ++ n :: ns.drop (i + 1)) = nts (ns.take i) ++ (n.cs ++ nts (ns.drop (i + 1))) := by
        unfold nts; rw [List.flatMap_append, List.flatMap_cons]
      rw [← hsplit] at e
      have hl := hlen (ns.take i)
      rw [List.length_take, Nat.min_eq_left (Nat.le_of_lt hi)] at hl
      rw [e, List.getElem?_append_right (by omega), hl, Nat.add_sub_cancel_left, List.getElem?_append_left (by rw [Nt.len]; exact hj)]
      exact hu
    have hc := h.cells (g := g) (by rw [hv]; rfl) (i * 49 + j) u key
    rw [Addr.add_mid, Nat.zero_add] at hc
    exact hc
theorem nt_at {w : World} {e : TypeId} {v : Value} {ns : List Nt} (h : w.ownsRow 0 e 49 v ns.length (nts ns)) {i : Nat} (hi : i < ns.length) : ∃ g cap, v = .slice (some ⟨g, 0, none⟩) ns.length cap ∧
    w.cell? ⟨g, i * 49, none⟩ = some (.int .i64 ns[i].kind) ∧ w.rangeAt g (i * 49 + 1) ns[i].ask.cs ∧ w.rangeAt g (i * 49 + 25) ns[i].ans.cs := by
  obtain ⟨g, cap, hv, hc⟩ := nt_cells h (by omega)
  have hn := List.getElem?_eq_getElem hi
  refine ⟨g, cap, hv, hc i _ 0 _ hn rfl, fun j u hu => ?_, fun j u hu => ?_⟩
  · have hj : j < 24 := by have := (List.getElem?_eq_some_iff.1 hu).1; rwa [Fr.len] at this
    have := hc i _ (1 + j) u hn (by
      show (Value.int .i64 _ :: (ns[i].ask.cs ++ ns[i].ans.cs))[1 + j]? = some u
      rw [Nat.add_comm, List.getElem?_cons_succ, List.getElem?_append_left (by rw [Fr.len]; exact hj)]
      exact hu)
    rwa [← Nat.add_assoc] at this
  · have := hc i _ (25 + j) u hn (by
      show (Value.int .i64 _ :: (ns[i].ask.cs ++ ns[i].ans.cs))[25 + j]? = some u
      rw [show 25 + j = (24 + j) + 1 by omega, List.getElem?_cons_succ, List.getElem?_append_right (by rw [Fr.len]; omega), Fr.len, Nat.add_sub_cancel_left]
      exact hu)
    rwa [← Nat.add_assoc] at this

set_option maxHeartbeats 4000000 in
set_option maxRecDepth 1000000 in
theorem frames_calls (w : World) (L : List Ent) (v v2 : Value) (oa : w.ownsRow 0 44 24 v L.length (frs L)) (ob : w.ownsRow 0 44 24 v2 L.length (frs L)) (hG : ∀ e ∈ L, Good w e.f) (hL : L.length ≤ 16) :
    Calls Try.prog 15 #[v, v2] w fun r w' => r = .returned (.bool true) ∧ Kept w w' (fun _ => False) := by
  obtain ⟨a, c, rfl⟩ := owns_len oa
  obtain ⟨b, d, rfl⟩ := owns_len ob
  have OA : Aside0 _ := ⟨oa⟩
  have OB : Aside0 _ := ⟨ob⟩
  have GG : Aside0 _ := ⟨hG⟩
  clear oa ob hG
  go_enter Try.func15, Try.ntmps15
  go_wp2
  go_loopg [5] L.length (fun kx s5 wr => ∃ i : Nat, s5 = .int .i64 i ∧ i ≤ L.length ∧ L.length - i ≤ kx ∧ Aside0 (Kept w wr (fun _ => False)))
  case atStart => exact ⟨0, rfl, Nat.zero_le _, Nat.le_refl _, ⟨Kept.refl _ _⟩⟩
  case round =>
    obtain ⟨i, rfl, hi, hkx, D⟩ := hrel
    by_cases hlt : i < L.length
    · have kq := D.out.trans (Kept.drew wr (fun _ => False)) (fun _ _ h => h) (fun _ _ h => h)
      obtain ⟨g, cap', hv, hr⟩ := fr_at (kq.owns OA.out (fun _ _ h => h)) hlt
      obtain ⟨h, cap2, hv2, hr2⟩ := fr_at (kq.owns OB.out (fun _ _ h => h)) hlt
      injection hv with ha hb hc
      subst ha hc
      injection hv2 with ha2 hb2 hc2
      subst ha2 hc2
      obtain ⟨e, he⟩ : ∃ e, e = L[i]! := ⟨_, rfl⟩
      obtain ⟨x, KF⟩ := (GG.out e (by rw [he, getElem!_pos L i hlt]; exact List.getElem_mem hlt)).keep kq
      rw [← he] at hr hr2
      have hiz : (i : Int) < (L.length : Int) := by omega
      have hLz : (L.length : Int) ≤ 16 := by omega
      have SH : wr.drew.rangeAt g (i * 24) e.f.cs ∧ wr.drew.rangeAt h (i * 24) e.f.cs := ⟨hr, hr2⟩
      have KQ : Aside0 _ := ⟨kq⟩
      clear hr hr2 he kq D
      go_upto_region 6 with fail
      refine start_ (n := 10) (S := fun w' => w'.rangeAt g (i * 24) e.f.cs ∧ w'.rangeAt h (i * 24) e.f.cs) (ds := []) #[false, false, false, false, false, false, false, false, false, false] (by kernel_rfl) rfl rfl SH (fun hHeld => ?_)
      clear hHeld
      refine pure_ (i := 0) (N := (some 17)) (v := ?_) (a' := ?_) #[true, false, false, false, false, false, false, false, false, false] rfl rfl (by kernel_rfl) (fun _ _ _ h => h) (Or.inl ⟨by rfl, ?_⟩) ?_ ?_
      rotate_left
      · intro w'
        go_simp
        with_reducible rfl
      rotate_left
      · (try simp only [Act.put, List.setIfInBounds_toArray, List.set_cons_zero, List.set_cons_succ]); rfl
      refine pure_ (i := 1) (N := (some 18)) (v := ?_) (a' := ?_) #[true, true, false, false, false, false, false, false, false, false] rfl rfl (by kernel_rfl) (fun _ _ _ h => h) (Or.inl ⟨by rfl, ?_⟩) ?_ ?_
      rotate_left
      · intro w'
        go_simp
        with_reducible rfl
      rotate_left
      · (try simp only [Act.put, List.setIfInBounds_toArray, List.set_cons_zero, List.set_cons_succ]); rfl
      refine pure_ (i := 2) (N := (some 19)) (v := ?_) (a' := ?_) #[true, true, true, false, false, false, false, false, false, false] rfl rfl (by kernel_rfl) (fun _ _ _ h => h) (Or.inl ⟨by rfl, ?_⟩) ?_ ?_
      rotate_left
      · intro w'
        go_simp
        with_reducible rfl
      rotate_left
      · (try simp only [Act.put, List.setIfInBounds_toArray, List.set_cons_zero, List.set_cons_succ]); rfl
      refine take_ (i := 3) (N := (some 20)) (v := .agg e.f.cs.toArray) (a' := ?_) #[true, true, true, true, false, false, false, false, false, false] rfl rfl (by kernel_rfl) (fun _ _ _ h => h) (yieldsIf_load_mid (by kernel_rfl) 44 (.tmp 19) rfl g (i * 24) rfl e.f.cs _ (fun w' hS => hS.1) Try.underlying44 rfl (by kernel_rfl)) SH ?_ ?_
      rotate_left
      · (try simp only [Act.put, List.setIfInBounds_toArray, List.set_cons_zero, List.set_cons_succ]); rfl
      refine pure_ (i := 4) (N := (some 21)) (v := ?_) (a' := ?_) #[true, true, true, true, true, false, false, false, false, false] rfl rfl (by kernel_rfl) (fun _ _ _ h => h) (Or.inl ⟨by rfl, ?_⟩) ?_ ?_
      rotate_left
      · intro w'
        go_simp
        with_reducible rfl
      rotate_left
      · (try simp only [Act.put, List.setIfInBounds_toArray, List.set_cons_zero, List.set_cons_succ]); rfl
      refine pure_ (i := 5) (N := (some 22)) (v := ?_) (a' := ?_) #[true, true, true, true, true, true, false, false, false, false] rfl rfl (by kernel_rfl) (fun _ _ _ h => h) (Or.inl ⟨by rfl, ?_⟩) ?_ ?_
      rotate_left
      · intro w'
        go_simp
        with_reducible rfl
      rotate_left
      · (try simp only [Act.put, List.setIfInBounds_toArray, List.set_cons_zero, List.set_cons_succ]); rfl
      refine pure_ (i := 6) (N := (some 23)) (v := ?_) (a' := ?_) #[true, true, true, true, true, true, true, false, false, false] rfl rfl (by kernel_rfl) (fun _ _ _ h => h) (Or.inl ⟨by rfl, ?_⟩) ?_ ?_
      rotate_left
      · intro w'
        go_simp
        with_reducible rfl
      rotate_left
      · (try simp only [Act.put, List.setIfInBounds_toArray, List.set_cons_zero, List.set_cons_succ]); rfl
      refine take_ (i := 7) (N := (some 24)) (v := .agg e.f.cs.toArray) (a' := ?_) #[true, true, true, true, true, true, true, true, false, false] rfl rfl (by kernel_rfl) (fun _ _ _ h => h) (yieldsIf_load_mid (by kernel_rfl) 44 (.tmp 23) rfl h (i * 24) rfl e.f.cs _ (fun w' hS => hS.2) Try.underlying44 rfl (by kernel_rfl)) SH ?_ ?_
      rotate_left
      · (try simp only [Act.put, List.setIfInBounds_toArray, List.set_cons_zero, List.set_cons_succ]); rfl
      refine one_ (i := 8) (N := some 25) #[true, true, true, true, true, true, true, true, true, false] rfl rfl (by kernel_rfl) (by decide) (fun K hK => ?_)
      refine goes_ (f := 17) (fn := Try.f17) Try.func17 rfl rfl #[.agg e.f.cs.toArray, .agg e.f.cs.toArray] (by kernel_rfl) rfl rfl (by simp only [List.map_toArray, List.map_cons, List.map_nil]; rfl) ?_
      refine (same_fr e.f x _ KF).mono ?_
      rintro e' w5 ⟨rfl, k5⟩
      refine ⟨_, rfl, hK.out _ _ (⟨k5.range SH.1, k5.range SH.2⟩ : w5.rangeAt g (i * 24) e.f.cs ∧ w5.rangeAt h (i * 24) e.f.cs) (fun hHeld => ?_)⟩
      clear hHeld hK K
      refine norm_ (a' := ?_) ?_ ?_
      rotate_left
      · (try simp only [Act.put, List.setIfInBounds_toArray, List.set_cons_zero, List.set_cons_succ]); rfl
      refine pure_ (i := 9) (N := (some 26)) (v := ?_) (a' := ?_) #[true, true, true, true, true, true, true, true, true, true] rfl rfl (by kernel_rfl) (fun _ _ _ h => h) (Or.inl ⟨by rfl, ?_⟩) ?_ ?_
      rotate_left
      · intro w'
        go_simp
        with_reducible rfl
      rotate_left
      · (try simp only [Act.put, List.setIfInBounds_toArray, List.set_cons_zero, List.set_cons_succ]); rfl
      refine done_ (by kernel_rfl) ?_
      have D2 : Aside0 _ := ⟨KQ.out.trans k5 (fun _ _ h => h) (fun _ _ h => h)⟩
      clear SH KF k5 KQ
      go_wp2
      go_roundg (L.length - (i + 1))
      case measure => omega
      case rel => exact ⟨i + 1, by go_num, by omega, Nat.le_refl _, D2⟩
    · have hge : ¬ ((i : Int) < (L.length : Int)) := by omega
      go_wp2
      go_ret
      exact ⟨rfl, D.out⟩

set_option maxHeartbeats 8000000 in
set_option maxRecDepth 1000000 in
theorem notes_calls (w : World) (ns : List Nt) (v v2 : Value) (oa : w.ownsRow 0 55 49 v ns.length (nts ns)) (ob : w.ownsRow 0 70 49 v2 ns.length (nts ns)) (hG : ∀ n ∈ ns, Good w n.ask ∧ Good w n.ans) (hL : ns.length ≤ 16) :
    Calls Try.prog 14 #[v, v2] w fun r w' => r = .returned (.bool true) ∧ Kept w w' (fun _ => False) := by
  obtain ⟨a, c, rfl⟩ := owns_len oa
  obtain ⟨b, d, rfl⟩ := owns_len ob
  have OA : Aside0 _ := ⟨oa⟩
  have OB : Aside0 _ := ⟨ob⟩
  have GG : Aside0 _ := ⟨hG⟩
  clear oa ob hG
  go_enter Try.func14, Try.ntmps14
  go_wp2
  go_loopg [5] ns.length (fun kx s5 wr => ∃ i : Nat, s5 = .int .i64 i ∧ i ≤ ns.length ∧ ns.length - i ≤ kx ∧ Aside0 (Kept w wr (fun _ => False)))
  case atStart => exact ⟨0, rfl, Nat.zero_le _, Nat.le_refl _, ⟨Kept.refl _ _⟩⟩
  case round =>
    obtain ⟨i, rfl, hi, hkx, D⟩ := hrel
    by_cases hlt : i < ns.length
    · have kq := D.out.trans (Kept.drew wr (fun _ => False)) (fun _ _ h => h) (fun _ _ h => h)
      obtain ⟨g, cap', hv, hr0, hr1, hr2⟩ := nt_at (kq.owns OA.out (fun _ _ h => h)) hlt
      obtain ⟨h, cap2, hv2, hs0, hs1, hs2⟩ := nt_at (kq.owns OB.out (fun _ _ h => h)) hlt
      injection hv with ha hb hc
      subst ha hc
      injection hv2 with ha2 hb2 hc2
      subst ha2 hc2
      obtain ⟨n, hn⟩ : ∃ n, n = ns[i] := ⟨_, rfl⟩
      obtain ⟨⟨x, KX⟩, ⟨y, KY⟩⟩ := GG.out n (by rw [hn]; exact List.getElem_mem hlt)
      replace KX := k44.K_below kq.toBelow KX
      replace KY := k44.K_below kq.toBelow KY
      rw [← hn] at hr0 hr1 hr2 hs0 hs1 hs2
      have hiz : (i : Int) < (ns.length : Int) := by omega
      have hLz : (ns.length : Int) ≤ 16 := by omega
      have SH : wr.drew.cell? ⟨g, i * 49, none⟩ = some (.int .i64 n.kind) ∧ wr.drew.cell? ⟨h, i * 49, none⟩ = some (.int .i64 n.kind) ∧ wr.drew.rangeAt g (i * 49 + 1) n.ask.cs ∧ wr.drew.rangeAt h (i * 49 + 1) n.ask.cs ∧ wr.drew.rangeAt g (i * 49 + 25) n.ans.cs ∧ wr.drew.rangeAt h (i * 49 + 25) n.ans.cs := ⟨hr0, hs0, hr1, hs1, hr2, hs2⟩
      have KQ : Aside0 _ := ⟨kq⟩
      clear hr0 hr1 hr2 hs0 hs1 hs2 hn kq D
      go_upto_region 6 with fail
      refine start_ (n := 39) (S := fun w' => w'.cell? ⟨g, i * 49, none⟩ = some (.int .i64 n.kind) ∧ w'.cell? ⟨h, i * 49, none⟩ = some (.int .i64 n.kind) ∧ w'.rangeAt g (i * 49 + 1) n.ask.cs ∧ w'.rangeAt h (i * 49 + 1) n.ask.cs ∧ w'.rangeAt g (i * 49 + 25) n.ans.cs ∧ w'.rangeAt h (i * 49 + 25) n.ans.cs) (ds := []) #[false, false, false, false, false, false, false, false, false, false, false, false, false, false, false, false, false, false, false, false, false, false, false, false, false, false, false, false, false, false, false, false, false, false, false, false, false, false, false] (by kernel_rfl) rfl rfl SH (fun hHeld => ?_)
      clear hHeld
      refine pure_ (i := 0) (N := (some 17)) (v := ?_) (a' := ?_) #[true, false, false, false, false, false, false, false, false, false, false, false, false, false, false, false, false, false, false, false, false, false, false, false, false, false, false, false, false, false, false, false, false, false, false, false, false, false, false] rfl rfl (by kernel_rfl) (fun _ _ _ h => h) (Or.inl ⟨by rfl, ?_⟩) ?_ ?_
      rotate_left
      · intro w'
        go_simp
        with_reducible rfl
      rotate_left
      · (try simp only [Act.put, List.setIfInBounds_toArray, List.set_cons_zero, List.set_cons_succ]); rfl
      refine pure_ (i := 1) (N := (some 18)) (v := ?_) (a' := ?_) #[true, true, false, false, false, false, false, false, false, false, false, false, false, false, false, false, false, false, false, false, false, false, false, false, false, false, false, false, false, false, false, false, false, false, false, false, false, false, false] rfl rfl (by kernel_rfl) (fun _ _ _ h => h) (Or.inl ⟨by rfl, ?_⟩) ?_ ?_
      rotate_left
      · intro w'
        go_simp
        with_reducible rfl
      rotate_left
      · (try simp only [Act.put, List.setIfInBounds_toArray, List.set_cons_zero, List.set_cons_succ]); rfl
      refine pure_ (i := 2) (N := (some 19)) (v := ?_) (a' := ?_) #[true, true, true, false, false, false, false, false, false, false, false, false, false, false, false, false, false, false, false, false, false, false, false, false, false, false, false, false, false, false, false, false, false, false, false, false, false, false, false] rfl rfl (by kernel_rfl) (fun _ _ _ h => h) (Or.inl ⟨by rfl, ?_⟩) ?_ ?_
      rotate_left
      · intro w'
        go_simp
        with_reducible rfl
      rotate_left
      · (try simp only [Act.put, List.setIfInBounds_toArray, List.set_cons_zero, List.set_cons_succ]); rfl
      refine pure_ (i := 3) (N := (some 20)) (v := ?_) (a' := ?_) #[true, true, true, true, false, false, false, false, false, false, false, false, false, false, false, false, false, false, false, false, false, false, false, false, false, false, false, false, false, false, false, false, false, false, false, false, false, false, false] rfl rfl (by kernel_rfl) (fun _ _ _ h => h) (Or.inl ⟨by rfl, ?_⟩) ?_ ?_
      rotate_left
      · intro w'
        go_simp
        with_reducible rfl
      rotate_left
      · (try simp only [Act.put, List.setIfInBounds_toArray, List.set_cons_zero, List.set_cons_succ]); rfl
      refine take_ (i := 4) (N := (some 21)) (v := ?_) (a' := ?_) #[true, true, true, true, true, false, false, false, false, false, false, false, false, false, false, false, false, false, false, false, false, false, false, false, false, false, false, false, false, false, false, false, false, false, false, false, false, false, false] rfl rfl (by kernel_rfl) (fun _ _ _ h => h) (Or.inl ⟨by rfl, ?_⟩) SH ?_ ?_
      rotate_left
      · intro w' hS
        have q0 := hS.1
        go_simp
        with_reducible rfl
      rotate_left
      · (try simp only [Act.put, List.setIfInBounds_toArray, List.set_cons_zero, List.set_cons_succ]); rfl
      refine pure_ (i := 5) (N := (some 22)) (v := ?_) (a' := ?_) #[true, true, true, true, true, true, false, false, false, false, false, false, false, false, false, false, false, false, false, false, false, false, false, false, false, false, false, false, false, false, false, false, false, false, false, false, false, false, false] rfl rfl (by kernel_rfl) (fun _ _ _ h => h) (Or.inl ⟨by rfl, ?_⟩) ?_ ?_
      rotate_left
      · intro w'
        go_simp
        with_reducible rfl
      rotate_left
      · (try simp only [Act.put, List.setIfInBounds_toArray, List.set_cons_zero, List.set_cons_succ]); rfl
      refine pure_ (i := 6) (N := (some 23)) (v := ?_) (a' := ?_) #[true, true, true, true, true, true, true, false, false, false, false, false, false, false, false, false, false, false, false, false, false, false, false, false, false, false, false, false, false, false, false, false, false, false, false, false, false, false, false] rfl rfl (by kernel_rfl) (fun _ _ _ h => h) (Or.inl ⟨by rfl, ?_⟩) ?_ ?_
      rotate_left
      · intro w'
        go_simp
        with_reducible rfl
      rotate_left
      · (try simp only [Act.put, List.setIfInBounds_toArray, List.set_cons_zero, List.set_cons_succ]); rfl
      refine pure_ (i := 7) (N := (some 24)) (v := ?_) (a' := ?_) #[true, true, true, true, true, true, true, true, false, false, false, false, false, false, false, false, false, false, false, false, false, false, false, false, false, false, false, false, false, false, false, false, false, false, false, false, false, false, false] rfl rfl (by kernel_rfl) (fun _ _ _ h => h) (Or.inl ⟨by rfl, ?_⟩) ?_ ?_
      rotate_left
      · intro w'
        go_simp
        with_reducible rfl
      rotate_left
      · (try simp only [Act.put, List.setIfInBounds_toArray, List.set_cons_zero, List.set_cons_succ]); rfl
      refine pure_ (i := 8) (N := (some 25)) (v := ?_) (a' := ?_) #[true, true, true, true, true, true, true, true, true, false, false, false, false, false, false, false, false, false, false, false, false, false, false, false, false, false, false, false, false, false, false, false, false, false, false, false, false, false, false] rfl rfl (by kernel_rfl) (fun _ _ _ h => h) (Or.inl ⟨by rfl, ?_⟩) ?_ ?_
      rotate_left
      · intro w'
        go_simp
        with_reducible rfl
      rotate_left
      · (try simp only [Act.put, List.setIfInBounds_toArray, List.set_cons_zero, List.set_cons_succ]); rfl
      refine take_ (i := 9) (N := (some 26)) (v := ?_) (a' := ?_) #[true, true, true, true, true, true, true, true, true, true, false, false, false, false, false, false, false, false, false, false, false, false, false, false, false, false, false, false, false, false, false, false, false, false, false, false, false, false, false] rfl rfl (by kernel_rfl) (fun _ _ _ h => h) (Or.inl ⟨by rfl, ?_⟩) SH ?_ ?_
      rotate_left
      · intro w' hS
        have q0 := hS.2.1
        go_simp
        with_reducible rfl
      rotate_left
      · (try simp only [Act.put, List.setIfInBounds_toArray, List.set_cons_zero, List.set_cons_succ]); rfl
      refine pure_ (i := 10) (N := (some 27)) (v := ?_) (a' := ?_) #[true, true, true, true, true, true, true, true, true, true, true, false, false, false, false, false, false, false, false, false, false, false, false, false, false, false, false, false, false, false, false, false, false, false, false, false, false, false, false] rfl rfl (by kernel_rfl) (fun _ _ _ h => h) (Or.inl ⟨by rfl, ?_⟩) ?_ ?_
      rotate_left
      · intro w'
        go_simp
        with_reducible rfl
      rotate_left
      · (try simp only [Act.put, List.setIfInBounds_toArray, List.set_cons_zero, List.set_cons_succ]); rfl
      refine pure_ (i := 11) (N := (some 28)) (v := ?_) (a' := ?_) #[true, true, true, true, true, true, true, true, true, true, true, true, false, false, false, false, false, false, false, false, false, false, false, false, false, false, false, false, false, false, false, false, false, false, false, false, false, false, false] rfl rfl (by kernel_rfl) (fun _ _ _ h => h) (Or.inl ⟨by rfl, ?_⟩) ?_ ?_
      rotate_left
      · intro w'
        go_simp
        with_reducible rfl
      rotate_left
      · (try simp only [Act.put, List.setIfInBounds_toArray, List.set_cons_zero, List.set_cons_succ]); rfl
      refine pure_ (i := 12) (N := (some 29)) (v := ?_) (a' := ?_) #[true, true, true, true, true, true, true, true, true, true, true, true, true, false, false, false, false, false, false, false, false, false, false, false, false, false, false, false, false, false, false, false, false, false, false, false, false, false, false] rfl rfl (by kernel_rfl) (fun _ _ _ h => h) (Or.inl ⟨by rfl, ?_⟩) ?_ ?_
      rotate_left
      · intro w'
        go_simp
        with_reducible rfl
      rotate_left
      · (try simp only [Act.put, List.setIfInBounds_toArray, List.set_cons_zero, List.set_cons_succ]); rfl
      refine pure_ (i := 13) (N := (some 30)) (v := ?_) (a' := ?_) #[true, true, true, true, true, true, true, true, true, true, true, true, true, true, false, false, false, false, false, false, false, false, false, false, false, false, false, false, false, false, false, false, false, false, false, false, false, false, false] rfl rfl (by kernel_rfl) (fun _ _ _ h => h) (Or.inl ⟨by rfl, ?_⟩) ?_ ?_
      rotate_left
      · intro w'
        go_simp
        with_reducible rfl
      rotate_left
      · (try simp only [Act.put, List.setIfInBounds_toArray, List.set_cons_zero, List.set_cons_succ]); rfl
      refine pure_ (i := 14) (N := (some 31)) (v := ?_) (a' := ?_) #[true, true, true, true, true, true, true, true, true, true, true, true, true, true, true, false, false, false, false, false, false, false, false, false, false, false, false, false, false, false, false, false, false, false, false, false, false, false, false] rfl rfl (by kernel_rfl) (fun _ _ _ h => h) (Or.inl ⟨by rfl, ?_⟩) ?_ ?_
      rotate_left
      · intro w'
        go_simp
        with_reducible rfl
      rotate_left
      · (try simp only [Act.put, List.setIfInBounds_toArray, List.set_cons_zero, List.set_cons_succ]); rfl
      refine pure_ (i := 15) (N := (some 32)) (v := ?_) (a' := ?_) #[true, true, true, true, true, true, true, true, true, true, true, true, true, true, true, true, false, false, false, false, false, false, false, false, false, false, false, false, false, false, false, false, false, false, false, false, false, false, false] rfl rfl (by kernel_rfl) (fun _ _ _ h => h) (Or.inl ⟨by rfl, ?_⟩) ?_ ?_
      rotate_left
      · intro w'
        go_simp
        with_reducible rfl
      rotate_left
      · (try simp only [Act.put, List.setIfInBounds_toArray, List.set_cons_zero, List.set_cons_succ]); rfl
      refine take_ (i := 16) (N := (some 33)) (v := .agg n.ask.cs.toArray) (a' := ?_) #[true, true, true, true, true, true, true, true, true, true, true, true, true, true, true, true, true, false, false, false, false, false, false, false, false, false, false, false, false, false, false, false, false, false, false, false, false, false, false] rfl rfl (by kernel_rfl) (fun _ _ _ h => h) (yieldsIf_load_mid (by kernel_rfl) 44 (.tmp 32) rfl g (i * 49 + 1) rfl n.ask.cs _ (fun w' hS => hS.2.2.1) Try.underlying44 rfl (by kernel_rfl)) SH ?_ ?_
      rotate_left
      · (try simp only [Act.put, List.setIfInBounds_toArray, List.set_cons_zero, List.set_cons_succ]); rfl
      refine pure_ (i := 17) (N := (some 34)) (v := ?_) (a' := ?_) #[true, true, true, true, true, true, true, true, true, true, true, true, true, true, true, true, true, true, false, false, false, false, false, false, false, false, false, false, false, false, false, false, false, false, false, false, false, false, false] rfl rfl (by kernel_rfl) (fun _ _ _ h => h) (Or.inl ⟨by rfl, ?_⟩) ?_ ?_
      rotate_left
      · intro w'
        go_simp
        with_reducible rfl
      rotate_left
      · (try simp only [Act.put, List.setIfInBounds_toArray, List.set_cons_zero, List.set_cons_succ]); rfl
      refine pure_ (i := 18) (N := (some 35)) (v := ?_) (a' := ?_) #[true, true, true, true, true, true, true, true, true, true, true, true, true, true, true, true, true, true, true, false, false, false, false, false, false, false, false, false, false, false, false, false, false, false, false, false, false, false, false] rfl rfl (by kernel_rfl) (fun _ _ _ h => h) (Or.inl ⟨by rfl, ?_⟩) ?_ ?_
      rotate_left
      · intro w'
        go_simp
        with_reducible rfl
      rotate_left
      · (try simp only [Act.put, List.setIfInBounds_toArray, List.set_cons_zero, List.set_cons_succ]); rfl
      refine pure_ (i := 19) (N := (some 36)) (v := ?_) (a' := ?_) #[true, true, true, true, true, true, true, true, true, true, true, true, true, true, true, true, true, true, true, true, false, false, false, false, false, false, false, false, false, false, false, false, false, false, false, false, false, false, false] rfl rfl (by kernel_rfl) (fun _ _ _ h => h) (Or.inl ⟨by rfl, ?_⟩) ?_ ?_
      rotate_left
      · intro w'
        go_simp
        with_reducible rfl
      rotate_left
      · (try simp only [Act.put, List.setIfInBounds_toArray, List.set_cons_zero, List.set_cons_succ]); rfl
      refine pure_ (i := 20) (N := (some 37)) (v := ?_) (a' := ?_) #[true, true, true, true, true, true, true, true, true, true, true, true, true, true, true, true, true, true, true, true, true, false, false, false, false, false, false, false, false, false, false, false, false, false, false, false, false, false, false] rfl rfl (by kernel_rfl) (fun _ _ _ h => h) (Or.inl ⟨by rfl, ?_⟩) ?_ ?_
      rotate_left
      · intro w'
        go_simp
        with_reducible rfl
      rotate_left
      · (try simp only [Act.put, List.setIfInBounds_toArray, List.set_cons_zero, List.set_cons_succ]); rfl
      refine take_ (i := 21) (N := (some 38)) (v := .agg n.ask.cs.toArray) (a' := ?_) #[true, true, true, true, true, true, true, true, true, true, true, true, true, true, true, true, true, true, true, true, true, true, false, false, false, false, false, false, false, false, false, false, false, false, false, false, false, false, false] rfl rfl (by kernel_rfl) (fun _ _ _ h => h) (yieldsIf_load_mid (by kernel_rfl) 44 (.tmp 37) rfl h (i * 49 + 1) rfl n.ask.cs _ (fun w' hS => hS.2.2.2.1) Try.underlying44 rfl (by kernel_rfl)) SH ?_ ?_
      rotate_left
      · (try simp only [Act.put, List.setIfInBounds_toArray, List.set_cons_zero, List.set_cons_succ]); rfl
      refine one_ (i := 22) (N := some 39) #[true, true, true, true, true, true, true, true, true, true, true, true, true, true, true, true, true, true, true, true, true, true, true, false, false, false, false, false, false, false, false, false, false, false, false, false, false, false, false] rfl rfl (by kernel_rfl) (by decide) (fun K hK => ?_)
      refine goes_ (f := 17) (fn := Try.f17) Try.func17 rfl rfl #[.agg n.ask.cs.toArray, .agg n.ask.cs.toArray] (by kernel_rfl) rfl rfl (by simp only [List.map_toArray, List.map_cons, List.map_nil]; rfl) ?_
      refine (same_fr n.ask x _ KX).mono ?_
      rintro e' w5 ⟨rfl, k5⟩
      have SH5 : w5.cell? ⟨g, i * 49, none⟩ = some (.int .i64 n.kind) ∧ w5.cell? ⟨h, i * 49, none⟩ = some (.int .i64 n.kind) ∧ w5.rangeAt g (i * 49 + 1) n.ask.cs ∧ w5.rangeAt h (i * 49 + 1) n.ask.cs ∧ w5.rangeAt g (i * 49 + 25) n.ans.cs ∧ w5.rangeAt h (i * 49 + 25) n.ans.cs := ⟨k5.cell SH.1, k5.cell SH.2.1, k5.range SH.2.2.1, k5.range SH.2.2.2.1, k5.range SH.2.2.2.2.1, k5.range SH.2.2.2.2.2⟩
      have KY5 := k44.K_below k5.toBelow KY
      refine ⟨_, rfl, hK.out _ _ SH5 (fun hHeld => ?_)⟩
      clear hHeld hK K
      refine norm_ (a' := ?_) ?_ ?_
      rotate_left
      · (try simp only [Act.put, List.setIfInBounds_toArray, List.set_cons_zero, List.set_cons_succ]); rfl
      refine pure_ (i := 23) (N := (some 40)) (v := ?_) (a' := ?_) #[true, true, true, true, true, true, true, true, true, true, true, true, true, true, true, true, true, true, true, true, true, true, true, true, false, false, false, false, false, false, false, false, false, false, false, false, false, false, false] rfl rfl (by kernel_rfl) (fun _ _ _ h => h) (Or.inl ⟨by rfl, ?_⟩) ?_ ?_
      rotate_left
      · intro w'
        go_simp
        with_reducible rfl
      rotate_left
      · (try simp only [Act.put, List.setIfInBounds_toArray, List.set_cons_zero, List.set_cons_succ]); rfl
      refine pure_ (i := 24) (N := (some 41)) (v := ?_) (a' := ?_) #[true, true, true, true, true, true, true, true, true, true, true, true, true, true, true, true, true, true, true, true, true, true, true, true, true, false, false, false, false, false, false, false, false, false, false, false, false, false, false] rfl rfl (by kernel_rfl) (fun _ _ _ h => h) (Or.inl ⟨by rfl, ?_⟩) ?_ ?_
      rotate_left
      · intro w'
        go_simp
        with_reducible rfl
      rotate_left
      · (try simp only [Act.put, List.setIfInBounds_toArray, List.set_cons_zero, List.set_cons_succ]); rfl
      refine pure_ (i := 25) (N := (some 42)) (v := ?_) (a' := ?_) #[true, true, true, true, true, true, true, true, true, true, true, true, true, true, true, true, true, true, true, true, true, true, true, true, true, true, false, false, false, false, false, false, false, false, false, false, false, false, false] rfl rfl (by kernel_rfl) (fun _ _ _ h => h) (Or.inl ⟨by rfl, ?_⟩) ?_ ?_
      rotate_left
      · intro w'
        go_simp
        with_reducible rfl
      rotate_left
      · (try simp only [Act.put, List.setIfInBounds_toArray, List.set_cons_zero, List.set_cons_succ]); rfl
      refine pure_ (i := 26) (N := (some 43)) (v := ?_) (a' := ?_) #[true, true, true, true, true, true, true, true, true, true, true, true, true, true, true, true, true, true, true, true, true, true, true, true, true, true, true, false, false, false, false, false, false, false, false, false, false, false, false] rfl rfl (by kernel_rfl) (fun _ _ _ h => h) (Or.inl ⟨by rfl, ?_⟩) ?_ ?_
      rotate_left
      · intro w'
        go_simp
        with_reducible rfl
      rotate_left
      · (try simp only [Act.put, List.setIfInBounds_toArray, List.set_cons_zero, List.set_cons_succ]); rfl
      refine pure_ (i := 27) (N := (some 44)) (v := ?_) (a' := ?_) #[true, true, true, true, true, true, true, true, true, true, true, true, true, true, true, true, true, true, true, true, true, true, true, true, true, true, true, true, false, false, false, false, false, false, false, false, false, false, false] rfl rfl (by kernel_rfl) (fun _ _ _ h => h) (Or.inl ⟨by rfl, ?_⟩) ?_ ?_
      rotate_left
      · intro w'
        go_simp
        with_reducible rfl
      rotate_left
      · (try simp only [Act.put, List.setIfInBounds_toArray, List.set_cons_zero, List.set_cons_succ]); rfl
      refine pure_ (i := 28) (N := (some 45)) (v := ?_) (a' := ?_) #[true, true, true, true, true, true, true, true, true, true, true, true, true, true, true, true, true, true, true, true, true, true, true, true, true, true, true, true, true, false, false, false, false, false, false, false, false, false, false] rfl rfl (by kernel_rfl) (fun _ _ _ h => h) (Or.inl ⟨by rfl, ?_⟩) ?_ ?_
      rotate_left
      · intro w'
        go_simp
        with_reducible rfl
      rotate_left
      · (try simp only [Act.put, List.setIfInBounds_toArray, List.set_cons_zero, List.set_cons_succ]); rfl
      refine pure_ (i := 29) (N := (some 46)) (v := ?_) (a' := ?_) #[true, true, true, true, true, true, true, true, true, true, true, true, true, true, true, true, true, true, true, true, true, true, true, true, true, true, true, true, true, true, false, false, false, false, false, false, false, false, false] rfl rfl (by kernel_rfl) (fun _ _ _ h => h) (Or.inl ⟨by rfl, ?_⟩) ?_ ?_
      rotate_left
      · intro w'
        go_simp
        with_reducible rfl
      rotate_left
      · (try simp only [Act.put, List.setIfInBounds_toArray, List.set_cons_zero, List.set_cons_succ]); rfl
      refine take_ (i := 30) (N := (some 47)) (v := .agg n.ans.cs.toArray) (a' := ?_) #[true, true, true, true, true, true, true, true, true, true, true, true, true, true, true, true, true, true, true, true, true, true, true, true, true, true, true, true, true, true, true, false, false, false, false, false, false, false, false] rfl rfl (by kernel_rfl) (fun _ _ _ h => h) (yieldsIf_load_mid (by kernel_rfl) 44 (.tmp 46) rfl g (i * 49 + 25) rfl n.ans.cs _ (fun w' hS => hS.2.2.2.2.1) Try.underlying44 rfl (by kernel_rfl)) SH5 ?_ ?_
      rotate_left
      · (try simp only [Act.put, List.setIfInBounds_toArray, List.set_cons_zero, List.set_cons_succ]); rfl
      refine pure_ (i := 31) (N := (some 48)) (v := ?_) (a' := ?_) #[true, true, true, true, true, true, true, true, true, true, true, true, true, true, true, true, true, true, true, true, true, true, true, true, true, true, true, true, true, true, true, true, false, false, false, false, false, false, false] rfl rfl (by kernel_rfl) (fun _ _ _ h => h) (Or.inl ⟨by rfl, ?_⟩) ?_ ?_
      rotate_left
      · intro w'
        go_simp
        with_reducible rfl
      rotate_left
      · (try simp only [Act.put, List.setIfInBounds_toArray, List.set_cons_zero, List.set_cons_succ]); rfl
      refine pure_ (i := 32) (N := (some 49)) (v := ?_) (a' := ?_) #[true, true, true, true, true, true, true, true, true, true, true, true, true, true, true, true, true, true, true, true, true, true, true, true, true, true, true, true, true, true, true, true, true, false, false, false, false, false, false] rfl rfl (by kernel_rfl) (fun _ _ _ h => h) (Or.inl ⟨by rfl, ?_⟩) ?_ ?_
      rotate_left
      · intro w'
        go_simp
        with_reducible rfl
      rotate_left
      · (try simp only [Act.put, List.setIfInBounds_toArray, List.set_cons_zero, List.set_cons_succ]); rfl
      refine pure_ (i := 33) (N := (some 50)) (v := ?_) (a' := ?_) #[true, true, true, true, true, true, true, true, true, true, true, true, true, true, true, true, true, true, true, true, true, true, true, true, true, true, true, true, true, true, true, true, true, true, false, false, false, false, false] rfl rfl (by kernel_rfl) (fun _ _ _ h => h) (Or.inl ⟨by rfl, ?_⟩) ?_ ?_
      rotate_left
      · intro w'
        go_simp
        with_reducible rfl
      rotate_left
      · (try simp only [Act.put, List.setIfInBounds_toArray, List.set_cons_zero, List.set_cons_succ]); rfl
      refine pure_ (i := 34) (N := (some 51)) (v := ?_) (a' := ?_) #[true, true, true, true, true, true, true, true, true, true, true, true, true, true, true, true, true, true, true, true, true, true, true, true, true, true, true, true, true, true, true, true, true, true, true, false, false, false, false] rfl rfl (by kernel_rfl) (fun _ _ _ h => h) (Or.inl ⟨by rfl, ?_⟩) ?_ ?_
      rotate_left
      · intro w'
        go_simp
        with_reducible rfl
      rotate_left
      · (try simp only [Act.put, List.setIfInBounds_toArray, List.set_cons_zero, List.set_cons_succ]); rfl
      refine take_ (i := 35) (N := (some 52)) (v := .agg n.ans.cs.toArray) (a' := ?_) #[true, true, true, true, true, true, true, true, true, true, true, true, true, true, true, true, true, true, true, true, true, true, true, true, true, true, true, true, true, true, true, true, true, true, true, true, false, false, false] rfl rfl (by kernel_rfl) (fun _ _ _ h => h) (yieldsIf_load_mid (by kernel_rfl) 44 (.tmp 51) rfl h (i * 49 + 25) rfl n.ans.cs _ (fun w' hS => hS.2.2.2.2.2) Try.underlying44 rfl (by kernel_rfl)) SH5 ?_ ?_
      rotate_left
      · (try simp only [Act.put, List.setIfInBounds_toArray, List.set_cons_zero, List.set_cons_succ]); rfl
      refine one_ (i := 36) (N := some 53) #[true, true, true, true, true, true, true, true, true, true, true, true, true, true, true, true, true, true, true, true, true, true, true, true, true, true, true, true, true, true, true, true, true, true, true, true, true, false, false] rfl rfl (by kernel_rfl) (by decide) (fun K hK => ?_)
      refine goes_ (f := 17) (fn := Try.f17) Try.func17 rfl rfl #[.agg n.ans.cs.toArray, .agg n.ans.cs.toArray] (by kernel_rfl) rfl rfl (by simp only [List.map_toArray, List.map_cons, List.map_nil]; rfl) ?_
      refine (same_fr n.ans y _ KY5).mono ?_
      rintro e' w6 ⟨rfl, k6⟩
      refine ⟨_, rfl, hK.out _ _ (⟨k6.cell SH5.1, k6.cell SH5.2.1, k6.range SH5.2.2.1, k6.range SH5.2.2.2.1, k6.range SH5.2.2.2.2.1, k6.range SH5.2.2.2.2.2⟩ : w6.cell? ⟨g, i * 49, none⟩ = some (.int .i64 n.kind) ∧ w6.cell? ⟨h, i * 49, none⟩ = some (.int .i64 n.kind) ∧ w6.rangeAt g (i * 49 + 1) n.ask.cs ∧ w6.rangeAt h (i * 49 + 1) n.ask.cs ∧ w6.rangeAt g (i * 49 + 25) n.ans.cs ∧ w6.rangeAt h (i * 49 + 25) n.ans.cs) (fun hHeld => ?_)⟩
      clear hHeld hK K
      refine norm_ (a' := ?_) ?_ ?_
      rotate_left
      · (try simp only [Act.put, List.setIfInBounds_toArray, List.set_cons_zero, List.set_cons_succ]); rfl
      refine pure_ (i := 37) (N := (some 54)) (v := ?_) (a' := ?_) #[true, true, true, true, true, true, true, true, true, true, true, true, true, true, true, true, true, true, true, true, true, true, true, true, true, true, true, true, true, true, true, true, true, true, true, true, true, true, false] rfl rfl (by kernel_rfl) (fun _ _ _ h => h) (Or.inl ⟨by rfl, ?_⟩) ?_ ?_
      rotate_left
      · intro w'
        go_simp
        with_reducible rfl
      rotate_left
      · (try simp only [Act.put, List.setIfInBounds_toArray, List.set_cons_zero, List.set_cons_succ]); rfl
      refine pure_ (i := 38) (N := (some 55)) (v := ?_) (a' := ?_) #[true, true, true, true, true, true, true, true, true, true, true, true, true, true, true, true, true, true, true, true, true, true, true, true, true, true, true, true, true, true, true, true, true, true, true, true, true, true, true] rfl rfl (by kernel_rfl) (fun _ _ _ h => h) (Or.inl ⟨by rfl, ?_⟩) ?_ ?_
      rotate_left
      · intro w'
        go_simp
        with_reducible rfl
      rotate_left
      · (try simp only [Act.put, List.setIfInBounds_toArray, List.set_cons_zero, List.set_cons_succ]); rfl
      refine done_ (by kernel_rfl) ?_
      have D2 : Aside0 _ := ⟨(KQ.out.trans k5 (fun _ _ h => h) (fun _ _ h => h)).trans k6 (fun _ _ h => h) (fun _ _ h => h)⟩
      clear SH KX KY KY5 SH5 k5 k6 KQ
      go_wp2
      go_roundg (ns.length - (i + 1))
      case measure => omega
      case rel => exact ⟨i + 1, by go_num, by omega, Nat.le_refl _, D2⟩
    · have hge : ¬ ((i : Int) < (ns.length : Int)) := by omega
      go_wp2
      go_ret
      exact ⟨rfl, D.out⟩

end Go.Proofs.Ytmbjlondehcheaa
