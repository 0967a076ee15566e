/- TopTalk: part 25 of the walks: of HFpar. -/
import Derived.Test.YtmbjlondehcheaaGreatDoorM24
section
set_option linter.unusedSimpArgs false
set_option linter.unusedVariables false
namespace Go.Proofs.YtmbjlondehcheaaGreatDoor
open Go.Shelf Go.RowKit Go.Lib Go.Sort Go.Proofs.YtmbjlondehcheaaGreatDoorW.PrintWords Go.Proofs.YtmbjlondehcheaaGreatDoorW.PrintLast Go.Proofs.YtmbjlondehcheaaGreatDoor.PTopTalk
def OneC (fo : FuncId) (cpt : Nat → Array Value) (step : St → Int → S67 × St × Int) : Prop := ∀ (w : World) (G : Nat → Prop) (cb sb : Nat) (s : St) (n : Int), Cur w G cb s → s.b.length ≤ 100000 → w.heap[sb]? = some (.cells #[.int .i64 n] 3 (0, 0)) → G sb → sb ≠ cb → Calls Tryz.prog fo (#[(.pointer (some ⟨cb, 0, none⟩))] ++ cpt sb) w fun r w' =>
  ∃ cs, r = .returned (.agg cs.toArray) ∧ cs.length = 4 ∧ (∀ W, Kept w' W G → k67.K W (step s n).1 cs) ∧ Cur w' G cb (step s n).2.1 ∧ w'.heap[sb]? = some (.cells #[.int .i64 (step s n).2.2] 3 (0, 0)) ∧ Kept w w' (fun b => b = cb ∨ b = sb)
theorem one20 : OneC 187 (fun sb => #[(.pointer (some ⟨sb, 0, none⟩))]) askedS := fun w G cb sb s n h hl hs hG hne => (asked_calls w G cb sb s n h hl hs hG hne).mono fun r w' ⟨e, hC, hh, k⟩ =>
  ⟨_, e, rfl, fun W _ => k67_mk W (askedS s n).1 (A3 := none) (c3 := 0) (Nat.le_refl _) (Kd.C_nil _ W), hC, hh, k⟩
theorem one21 : OneC 193 (fun sb => #[]) (fun s n => ((writtenS s).1, (writtenS s).2, n)) := fun w G cb sb s n h hl hs hG hne => (written_calls w G cb s h hl).mono fun r w' ⟨A, cp, e, hS, hC, k⟩ => by
  refine ⟨_, e, rfl, fun W q => ?_, hC, k.heap hs (fun e => hne e), k.mono (fun _ _ h => .inl h)⟩
  obtain ⟨A', c', he, hc, hC'⟩ := hS W q
  injection he with e1 e2 e3
  subst e1 e3
  exact k67_mk W (writtenS s).1 hc hC'
theorem k67_one {w : World} {x : S67} {cs : List Value} (h : k67.K w x cs) : ∀ u ∈ cs, u.oneCell' = true := fun u hu => k67.K_one h u hu
def filesF (c : Int) (may : Int → Bool) (step : St → Int → S67 × St × Int) (l : List Int) : S35 × Int :=
  let s0 : St := ⟨l, false, 0⟩
  let s1 := s0.byte.2.need (may s0.byte.1) 5
  let b : St := ⟨(s1.bytes s0.byte.1).1, false, 0⟩
  let R := fullF step b.b.length [] b 0
  fin ((s1.bytes s0.byte.1).2.need (R.2.1.e == 0) (withinE R.2.1.e)) { z35 with f0 := c, f15 := R.1 }
abbrev Gv (cb sb mb rb l : Nat) (v : Value) : Nat → Prop := fun b => b = cb ∨ b = sb ∨ b = mb ∨ b ≤ rb ∨ (b = l ∨ b + 1 = l) ∨ v.ownBlock = some b
def cs35v (c : Int) (v : Value) : List Value := (cs35 c).set 15 v
structure LpI (W0 W : World) (cb sb mb rb : Nat) (rc : Loop) (c : Int) (s : St) (n : Int) (v : Value) (ps : List (S67 × List Value)) : Prop where
  kept : Kept W0 W (fun b => b = cb ∨ b = sb ∨ b = mb)
  loop : W.heap[W0.heap.size + 1]? = some (.loop rc)
  defr : W.heap[W0.heap.size]? = some (.deferred (some []))
  msg : W.heap[mb]? = some (.cells (cs35v c v).toArray 35 (0, 0))
  recs : Recs W (Gv cb sb mb rb (W0.heap.size + 1) v) v ps
  own : ∀ b, v.ownBlock = some b → W0.heap.size + 1 < b
  cur : Cur W (Gv cb sb mb rb (W0.heap.size + 1) v) cb s
  sum : W.heap[sb]? = some (.cells #[.int .i64 n] 3 (0, 0))
  few : ps.length + s.b.length ≤ 100000
structure Low (W0 : World) (cb sb mb rb : Nat) : Prop where
  cb_ : cb < W0.heap.size
  sb_ : sb < W0.heap.size
  mb_ : mb < W0.heap.size
  rb_ : rb < W0.heap.size
  cs : cb ≠ sb
  cm : cb ≠ mb
  sm : sb ≠ mb
theorem LpI.keep0 {W0 W W' : World} {cb sb mb rb : Nat} {rc : Loop} {c : Int} {s : St} {n : Int} {v : Value} {ps : List (S67 × List Value)} (h : LpI W0 W cb sb mb rb rc c s n v ps) (q : Kept W W' (fun _ => False)) : LpI W0 W' cb sb mb rb rc c s n v ps :=
  ⟨h.kept.trans q (fun _ _ h => h) (fun _ _ h => h.elim), q.heap h.loop (fun h => h), q.heap h.defr (fun h => h), q.heap h.msg (fun h => h), h.recs.keep q (fun _ h => h.elim) (fun _ _ h => h), h.own, h.cur.keep0 q, q.heap h.sum (fun h => h), h.few⟩
theorem LpI.read {W0 W W' : World} {cb sb mb rb : Nat} (hL : Low W0 cb sb mb rb) {rc : Loop} {c : Int} {s s' : St} {n n' : Int} {v : Value} {ps : List (S67 × List Value)} (h : LpI W0 W cb sb mb rb rc c s n v ps) (q : Kept W W' (fun b => b = cb ∨ b = sb)) (hC : Cur W' (Gv cb sb mb rb (W0.heap.size + 1) v) cb s') (hs : W'.heap[sb]? = some (.cells #[.int .i64 n'] 3 (0, 0))) (hf : s'.b.length ≤ s.b.length) : LpI W0 W' cb sb mb rb rc c s' n' v ps :=
  have := hL.cb_
  have := hL.sb_
  have := h.few
  ⟨h.kept.trans q (fun _ _ h => h) (fun _ _ h => h.elim .inl fun h => .inr (.inl h)), q.heap h.loop (fun h => by omega), q.heap h.defr (fun h => by omega), q.heap h.msg (fun e => e.elim (fun e => hL.cm e.symm) (fun e => hL.sm e.symm)),
    h.recs.keep q (fun b e => e.elim .inl fun e => .inr (.inl e)) (fun b hb e => by have := h.own b hb; omega), h.own, hC, hs, by omega⟩
theorem Cur.turn {w w' : World} {G G' F : Nat → Prop} {cb : Nat} {s : St} (h : Cur w G cb s) (q : Kept w w' F) (hF : ∀ b, b < w.heap.size → F b → G b ∧ b ≠ cb) (hG : ∀ b, b < w.heap.size → G' b → G b) (hc : G' cb) (hl : ∀ b, G' b → b < w'.heap.size) : Cur w' G' cb s := by
  obtain ⟨v, hv, hb⟩ := h.out
  exact ⟨hc, hl, v, q.heap hv (fun f => (hF _ (heap_lt hv) f).2 rfl), fun w2 k => hb w2 (q.trans k (fun b hb f => (hF b hb f).1) (fun b hb g => hG b hb g))⟩
theorem LpI.put {W0 W W' : World} {cb sb mb rb : Nat} (hL : Low W0 cb sb mb rb) {rc : Loop} {c : Int} {s : St} {n : Int} {v v' : Value} {ps : List (S67 × List Value)} (h : LpI W0 W cb sb mb rb rc c s n v ps) (q : Kept W W' (fun b => b = mb ∨ b = W0.heap.size + 1 ∨ v.ownBlock = some b))
    (hl : W'.heap[W0.heap.size + 1]? = some (.loop rc)) (hm : W'.heap[mb]? = some (.cells (cs35v c v').toArray 35 (0, 0))) {x : S67} {cs : List Value} (hrow : W'.ownsRow 0 67 4 v' (ps.length + 1) (ps.flatMap Prod.snd ++ cs)) (hv : v'.ownBlock = v.ownBlock ∨ ∃ b, v'.ownBlock = some b ∧ W.heap.size ≤ b)
    (h4 : cs.length = 4) (hK : ∀ W2, Kept W W2 (Gv cb sb mb rb (W0.heap.size + 1) v) → k67.K W2 x cs) (hf : ps.length + 1 + s.b.length ≤ 100000) : LpI W0 W' cb sb mb rb rc c s n v' (ps ++ [(x, cs)]) := by
  have h1 := hL.cb_
  have h2 := hL.sb_
  have h3 := hL.mb_
  have hF : ∀ b, (b = mb ∨ b = W0.heap.size + 1 ∨ v.ownBlock = some b) → Gv cb sb mb rb (W0.heap.size + 1) v b := fun b h => by
    rcases h with h | h | h
    · exact .inr (.inr (.inl h))
    · exact .inr (.inr (.inr (.inr (.inl (.inl h)))))
    · exact .inr (.inr (.inr (.inr (.inr h))))
  have hG : ∀ b, b < W.heap.size → Gv cb sb mb rb (W0.heap.size + 1) v' b → Gv cb sb mb rb (W0.heap.size + 1) v b := fun b hb h => by
    rcases h with h | h | h | h | h | h
    · exact .inl h
    · exact .inr (.inl h)
    · exact .inr (.inr (.inl h))
    · exact .inr (.inr (.inr (.inl h)))
    · exact .inr (.inr (.inr (.inr (.inl h))))
    · rcases hv with hv | ⟨b', hv, hb'⟩
      · rw [hv] at h; exact .inr (.inr (.inr (.inr (.inr h))))
      · rw [hv] at h; injection h with h; omega
  have hW : W0.heap.size + 1 < W.heap.size := heap_lt h.loop
  have hown : ∀ b, v'.ownBlock = some b → W0.heap.size + 1 < b := fun b hb => by
    rcases hv with hv | ⟨b', hv, hb'⟩
    · exact h.own b (hv.symm.trans hb)
    · rw [hv] at hb; injection hb with hb; omega
  have hsz := q.size
  refine ⟨h.kept.trans q (fun _ _ h => h) (fun b hb e => ?_), hl, q.heap h.defr (fun e => ?_), hm, ⟨?_, fun p hp => ?_⟩, hown, ?_, q.heap h.sum (fun e => ?_), ?_⟩
  · rcases e with e | e | e
    · exact .inr (.inr e)
    · omega
    · have := h.own b e; omega
  · rcases e with e | e | e
    · omega
    · omega
    · have := h.own _ e; omega
  · simpa using hrow
  · rcases List.mem_append.1 hp with hp | hp
    · exact ⟨(h.recs.each p hp).1, fun W2 k => (h.recs.each p hp).2 W2 (q.trans k (fun b _ f => hF b f) (fun b hb g => hG b hb g))⟩
    · obtain rfl : p = (x, cs) := by simpa using hp
      exact ⟨h4, fun W2 k => hK W2 (q.trans k (fun b _ f => hF b f) (fun b hb g => hG b hb g))⟩
  · refine h.cur.turn q (fun b _ f => ⟨hF b f, fun e => ?_⟩) hG (.inl rfl) (fun b g => ?_)
    · have := hL.cm
      rcases f with f | f | f
      · omega
      · omega
      · have := h.own b f; omega
    · have hr := hL.rb_
      rcases g with g | g | g | g | g | g
      · omega
      · omega
      · omega
      · omega
      · omega
      · exact (hrow.lt b g).2
  · have := hL.sm
    rcases e with e | e | e
    · omega
    · omega
    · have := h.own _ e; omega
  · simp only [List.length_append, List.length_cons, List.length_nil]; omega
set_option maxHeartbeats 3000000 in
set_option maxRecDepth 1000000 in
theorem filesP_gen (c : Int) (fm fo : FuncId) (cpt : Nat → Array Value) (may : Int → Bool) (step : St → Int → S67 × St × Int) (hR : Rule c fm fo cpt) (hO : OneC fo cpt step)
    (hM : ∀ (w : World) n, Calls Tryz.prog fm #[.int .i64 n] w fun r w' => r = .returned (.bool (may n)) ∧ w' = w) (em : ∀ args w, (callFunc fm args).run Tryz.prog w = .ok (.enter fm args) w) (eo : ∀ args w, (callFunc fo args).run Tryz.prog w = .ok (.enter fo args) w)
    (hdec : ∀ s n, 0 < s.b.length → s.e = 0 → (step s n).2.1.e = 0 → (step s n).2.1.b.length < s.b.length) (hle : ∀ s n, (step s n).2.1.b.length ≤ s.b.length) (l : List Int) (ho : Oct l) : Parses 127 c l (filesF c may step l) := by
  intro w v h hl
  have hz := zero35
  have hz2 := zero247
  have f6 := heap_alloc_new w (.cells (cs35 0).toArray 35)
  have q6 := Kept.alloc w (.cells (cs35 0).toArray 35) (fun _ => False)
  have hB1 := h.keep q6
  clear h
  obtain ⟨r0, hr0⟩ : ∃ r0, filesF c may step l = r0 := ⟨_, rfl⟩
  rw [hr0]
  have HR0 : Aside0 _ := ⟨hr0⟩
  clear hr0
  refine (callsIn_wide (n := 9)).1 (callsIn_of_wp_marks Tryz.func127 rfl trivial (wpIn_wide.2 ?_) rfl)
  simp only [Tryz.ntmps127, List.size_toArray, List.length_cons, List.length_nil, Nat.reduceAdd, Nat.reduceSub, Array.replicate_succ, Array.replicate_zero, List.push_toArray, List.append_toArray, List.nil_append, List.cons_append]
  go_upto_region 3 with fail
  have HSZ := asz w (.cells (cs35 0).toArray 35)
  generalize w.alloc (.cells (cs35 0).toArray 35) = w1 at *
  generalize hrb : w.heap.size = rb at *
  have hr := hR w1
  go_upto_region 4 with (first
    | (go_at_call 148; with_reducible refine hr.mono ?_; rintro e w2 ⟨sb, rfl, hsb, gs2, k2⟩; have N2 := new_row w2 #[.nilFunc, .nilFunc] (ruleC fm fo (cpt sb)) 247)
    | (refine wpList_store_rowTo rfl 247 (.tmp 8) (.tmp 27) rfl rfl w2.heap.size (ruleC fm fo (cpt sb)) rfl rfl 247 #[.nilFunc, .nilFunc] (heap_alloc_new _ _) (size247 _ _) rfl (by kernel_rfl) ?_))
  obtain ⟨fu, k3⟩ := N2
  have k13 := k2.trans k3 (H := fun _ => False) (fun _ _ h => h) (fun _ _ h => h)
  have gs := k3.heap gs2 (fun h => h)
  have hB3 := hB1.keep k13
  have g6 := k13.heap f6 (fun h => h)
  have hub : sb < w2.heap.size := heap_lt gs2
  have K3 := q6.trans k13 (H := fun _ => False) (fun _ _ h => h) (fun _ _ h => h)
  clear hr k2 k3 k13 gs2 hB1 f6 q6 hz2
  generalize (w2.alloc (.cells #[.nilFunc, .nilFunc] 247)).setRow w2.heap.size (ruleC fm fo (cpt sb)) = w3 at *
  generalize w2.heap.size = ub at *
  have hnc := new_cur w3 v l hB3 hl
  go_upto_region 7 with (go_at_call 133; with_reducible refine hnc.mono ?_; rintro e w4 ⟨c0, rfl, hc0, hC, k4⟩)
  have hus : ub < w3.heap.size := heap_lt fu
  have C4 := hC (fun b => b = c0 ∨ b = sb) (fun b => ⟨fun h => h.elim .inl fun h => .inr ⟨by omega, .inr h⟩, fun h => h.elim .inl fun h => h.2⟩) (.inl rfl)
  have K4 := K3.trans k4 (H := fun _ => False) (fun _ _ h => h) (fun _ _ h => h)
  replace fu := k4.heap fu (fun h => h)
  replace gs := k4.heap gs (fun h => h)
  replace g6 := k4.heap g6 (fun h => h)
  have hcu : ¬ ub = c0 := by omega
  have hcs : ¬ sb = c0 := by omega
  have hcr : ¬ rb = c0 := by omega
  have hsr : ¬ sb = rb := by omega
  have hur : ¬ ub = rb := by omega
  clear hnc hC k4 K3 hB3
  have hby := byte_calls w4 c0 _ C4 hl
  have hle1 := byte_b (⟨l, false, 0⟩ : St)
  obtain ⟨hk, ho1⟩ := byte_oct (s := (⟨l, false, 0⟩ : St)) ho
  unfold filesF at HR0
  simp only at HR0
  generalize hs0 : (⟨l, false, 0⟩ : St).byte = p at *
  obtain ⟨k, s0⟩ := p
  simp only at *
  clear hs0
  go_upto_region 8 with (go_at_call 149; with_reducible refine hby.mono ?_; rintro e w5 ⟨rfl, C5, k5⟩; clear hby)
  have K5 := K4.trans k5 (H := fun b => b = c0) (fun _ _ h => h.elim) (fun _ _ h => h)
  replace fu := k5.heap fu hcu
  replace gs := k5.heap gs hcs
  replace g6 := k5.heap g6 hcr
  clear k5 K4 C4
  have cu0 : w5.cell? ⟨ub, 0, none⟩ = some (.func (.func fm) #[] #[]) := by rw [cell_of_row w5 ub 0 _ 247 (0, 0) fu]; rfl
  have hnd := need_calls w5 c0 s0 (may k) 5 C5
  go_upto_region 9 with (first
    | (with_reducible refine (hM _ _).mono ?_; rintro e w6 ⟨rfl, rfl⟩)
    | (go_at_call 150; with_reducible refine hnd.mono ?_; rintro e w6 ⟨rfl, C6, k6⟩; clear hnd))
  have K6 := K5.trans k6 (H := fun b => b = c0) (fun _ _ h => h) (fun _ _ h => h)
  replace fu := k6.heap fu hcu
  replace gs := k6.heap gs hcs
  replace g6 := k6.heap g6 hcr
  have hl6 : (s0.need (may k) 5).b.length ≤ 100000 := by rw [St.need_b]; have : (⟨l, false, 0⟩ : St).b.length = l.length := rfl; omega
  clear k6 K5 C5 cu0
  generalize s0.need (may k) 5 = s1 at *
  have hbt := bytes_calls w6 c0 s1 k C6 hl6
  have hbl := (s1.bytes_le k).1
  generalize hs2 : s1.bytes k = p at *
  obtain ⟨bl, s2⟩ := p
  simp only at *
  clear hs2
  go_upto_region 10 with (first
    | (go_at_call 151; with_reducible refine hbt.mono ?_; rintro e w7 ⟨A7, c7, rfl, hS7, C7, k7⟩; have hnc := new_cur w7 _ bl hS7.now (by omega))
    | (go_at_call 133; with_reducible refine hnc.mono ?_; rintro e w8 ⟨cb, rfl, hcb, hC, k8⟩))
  have hsz7 : sb < w7.heap.size ∧ rb < w7.heap.size ∧ c0 < w7.heap.size := ⟨C7.low sb (.inr rfl), heap_lt (k7.heap g6 hcr), C7.low c0 C7.hot⟩
  have C8 := hC (fun b => b = cb ∨ b = sb ∨ b ≤ c0) (fun b => ⟨fun h => h.elim .inl fun h => .inr ⟨by omega, .inr h⟩, fun h => h.elim .inl fun h => h.2⟩) (.inl rfl)
  have K8 := (K6.trans k7 (H := fun b => b = c0) (fun _ _ h => h) (fun _ _ h => h)).trans k8 (H := fun b => b = c0) (fun _ _ h => h) (fun _ _ h => h.elim)
  replace fu := k8.heap (k7.heap fu hcu) (fun h => h)
  replace gs := k8.heap (k7.heap gs hcs) (fun h => h)
  replace g6 := k8.heap (k7.heap g6 hcr) (fun h => h)
  have hcc : c0 < cb := by omega
  have hbc : ¬ cb = c0 := by omega
  have hbs : ¬ cb = sb := by omega
  have hbr : ¬ cb = rb := by omega
  have D8 := C7.grow (xb := cb) k8 hcb (heap_lt (show w8.heap[cb]? = _ from (C8.out.choose_spec.1)))
  clear hnc hbt hC k7 k8 hS7 C7 K6 C6 hsz7
  have N9 := new_row w8 (cs35 0).toArray (cs35 c).toArray 35
  go_upto_region 11 with (first
    | (refine wpList_buildTo rfl 35 _ rfl (some 48) rfl (cs35 c).toArray ?_ ?_; (simp only [List.map_toArray, List.map_cons, List.map_nil]; exact built35 c))
    | (refine wpList_store_rowTo rfl 35 (.tmp 13) (.tmp 48) rfl rfl w8.heap.size (cs35 c).toArray rfl rfl 35 (cs35 0).toArray (heap_alloc_new _ _) (sizeM _ rfl) rfl (by kernel_rfl) ?_))
  obtain ⟨f9, k9⟩ := N9
  have hmb := heap_lt f9
  have D9 := D8.grow (xb := w8.heap.size) k9 (Nat.le_refl _) hmb
  have C9 := C8.grow (xb := w8.heap.size) k9 (Nat.le_refl _) hmb
  have h8 : ub < w8.heap.size ∧ sb < w8.heap.size ∧ c0 < w8.heap.size ∧ cb < w8.heap.size ∧ rb < w8.heap.size := ⟨heap_lt fu, heap_lt gs, D8.low _ D8.hot, C8.low _ C8.hot, heap_lt g6⟩
  have K9 := K8.trans k9 (H := fun b => b = c0) (fun _ _ h => h) (fun _ _ h => h.elim)
  replace fu := k9.heap fu (fun h => h)
  replace gs := k9.heap gs (fun h => h)
  replace g6 := k9.heap g6 (fun h => h)
  clear k9 K8 D8 C8
  generalize (w8.alloc (.cells (cs35 0).toArray 35)).setRow w8.heap.size (cs35 c).toArray = w9 at *
  generalize w8.heap.size = mb at *
  have cu1 : w9.cell? ⟨ub, 1, none⟩ = some (.func (.func fo) #[] (cpt sb)) := by rw [cell_of_row w9 ub 1 _ 247 (0, 0) fu]; rfl
  have hfl := full0_calls w9 cb fo (cpt sb)
  go_wp2_with (go_at_call 152; with_reducible refine hfl.mono ?_; rintro e w10 ⟨b1, b2, rfl, hb1, hb2, e1, e2, k10⟩; clear hfl)
  have hs10 := k10.size
  have hLow : Low w10 cb sb mb c0 := ⟨by omega, by omega, by omega, by omega, hbs, by omega, by omega⟩
  have K10 := K9.trans k10 (H := fun b => b = c0) (fun _ _ h => h) (fun _ _ h => h.elim)
  have D10 := D9.keep0 k10
  have C10 : Cur w10 (fun b => b = cb ∨ b = sb ∨ b = mb ∨ b ≤ c0) cb ⟨bl, false, 0⟩ := (C9.keep0 k10).less (fun b h => by
    rcases h with h | h | h | h
    · exact .inl (.inl h)
    · exact .inl (.inr (.inl h))
    · exact .inr h
    · exact .inl (.inr (.inr h))) (.inl rfl)
  have m10 := k10.heap f9 (fun h => h)
  have s10 := k10.heap gs (fun h => h)
  have g10 := k10.heap g6 (fun h => h)
  have hbx : (b1 ≠ cb ∧ b1 ≠ sb ∧ b1 ≠ mb) ∧ (b2 ≠ cb ∧ b2 ≠ sb ∧ b2 ≠ mb) := ⟨⟨by omega, by omega, by omega⟩, by omega, by omega, by omega⟩
  have hwx : w.heap.size ≤ sb ∧ w.heap.size ≤ c0 ∧ w.heap.size ≤ cb ∧ w.heap.size ≤ mb := ⟨by omega, by omega, by omega, by omega⟩
  have hc0x : c0 ≠ cb ∧ c0 ≠ sb ∧ c0 ≠ mb ∧ c0 ≠ rb := ⟨by omega, by omega, by omega, by omega⟩
  have hrx : rb ≠ cb ∧ rb ≠ sb ∧ rb ≠ mb := ⟨by omega, by omega, by omega⟩
  have hbl2 : bl.length ≤ 100000 := by omega
  clear k10 K9 D9 C9 f9 gs g6 fu cu1 h8 hmb hb1 hb2 hs10 hcb hc0 hus hub hsb HSZ hcu hcs hcr hsr hur hbc hbs hbr hle1 hbl hl6 ho1 hR hM em
  have eg194 : ∀ args w, (callFunc 194 args).run Tryz.prog w = .ok (.enter 194 args) w := enters_of Tryz.func194 (by kernel_rfl) rfl
  refine range_wp (gf := 194) (lb := #[(.pointer (some ⟨b1, 0, none⟩)), (.pointer (some ⟨b2, 0, none⟩))]) rfl eg194 fun fn => ?_
  generalize hrc : lrec fn _ _ _ _ w10.heap.size .ready = rc
  refine (full_calls (w10.heap.size + 1) 9 fo (cpt sb) eo cb b1 b2 step (fun pre s n W => ∃ v ps, pre = ps.map Prod.fst ∧ LpI w10 W cb sb mb c0 rc c s n v ps)
    (fun pre x cs s n W => ∃ v ps, pre = ps.map Prod.fst ∧ LpI w10 W cb sb mb c0 rc c s n v ps ∧ (s.e = 0 → ps.length + 1 + s.b.length ≤ 100000) ∧ cs.length = 4 ∧ ∀ W', Kept W W' (Gv cb sb mb c0 (w10.heap.size + 1) v) → k67.K W' x cs) ?box ?one ?keep ?drop hdec ?round ⟨bl, false, 0⟩ 0 _ ?start).mono ?after
  case box =>
    rintro pre s n W ⟨v2, ps, rfl, L⟩
    refine ⟨?_, ?_, ⟨_, L.cur⟩, by have := L.few; omega⟩
    · rw [cell_of_row W b1 0 _ 232 (0, 0) (L.kept.heap e1 (fun h => by rcases h with h | h | h; exact hbx.1.1 h; exact hbx.1.2.1 h; exact hbx.1.2.2 h))]; rfl
    · rw [cell_of_row W b2 0 _ 245 (0, 0) (L.kept.heap e2 (fun h => by rcases h with h | h | h; exact hbx.2.1 h; exact hbx.2.2.1 h; exact hbx.2.2.2 h))]; rfl
  case one =>
    rintro pre s n W ⟨v2, ps, rfl, L⟩ hp he
    refine (hO W _ cb sb s n L.cur (by have := L.few; omega) L.sum (.inr (.inl rfl)) hLow.cs.symm).mono ?_
    rintro r W' ⟨cs, rfl, h4, hK, hC, hs, q⟩
    have hfew := L.few
    have hle2 := hle s n
    refine ⟨cs, rfl, h4, all_oneCell_toArray (k67_one (hK W' (Kept.refl _ _))), v2, ps, rfl, L.read hLow q hC hs hle2, fun he' => ?_, h4, hK⟩
    have := hdec s n hp he he'
    omega
  case keep =>
    rintro pre x cs s n W W' ⟨v2, ps, rfl, L, hf, h4, hK⟩ q
    exact ⟨v2, ps, rfl, L.keep0 q, hf, h4, fun W2 k => hK W2 (q.trans k (fun _ _ h => h.elim) (fun _ _ h => h))⟩
  case drop =>
    rintro pre x cs s n W ⟨v2, ps, rfl, L, _⟩
    exact ⟨v2, ps, rfl, L⟩
  case start =>
    have q1 := (Kept.alloc w10 (.deferred (some [])) (fun _ => False)).trans (Kept.alloc (w10.alloc (.deferred (some []))) (.loop rc) (fun _ => False)) (H := fun _ => False) (fun _ _ h => h) (fun _ _ h => h)
    have h1 := heap_alloc_new w10 (.deferred (some []))
    have h2 := heap_alloc_new (w10.alloc (.deferred (some []))) (.loop rc)
    rw [asz] at h2
    exact ⟨.slice none 0 0, [], rfl, q1.mono (fun _ _ h => h.elim), h2, (Kept.alloc (w10.alloc (.deferred (some []))) (.loop rc) (fun _ => False)).heap h1 (fun h => h), q1.heap m10 (fun h => h), Recs.nil _ _, (fun b h => by simp [Value.ownBlock] at h), (C10.more q1 (fun b hb h => by
      rcases h with h | h | h | h | h | h
      · exact .inl h
      · exact .inr (.inl h)
      · exact .inr (.inr (.inl h))
      · exact .inr (.inr (.inr h))
      · omega
      · simp [Value.ownBlock] at h) (.inl rfl) (fun b h => by
      have := heap_lt h2
      have := hLow.cb_
      have := hLow.sb_
      have := hLow.mb_
      have := hLow.rb_
      rcases h with h | h | h | h | h | h
      · omega
      · omega
      · omega
      · omega
      · omega
      · simp [Value.ownBlock] at h)), q1.heap s10 (fun h => h), by simpa using hbl2⟩
  case after =>
    rintro e w3 ⟨⟨u, rfl⟩, v2, ps, hpre, L⟩
    refine ⟨u, rfl, L.loop, fun w4 k4 => ?_⟩
    dsimp only
    generalize hRR : fullF step ({ b := bl, short := false, e := 0 } : St).b.length [] { b := bl, short := false, e := 0 } 0 = RR at *
    obtain ⟨xs, sE, nE⟩ := RR
    simp only at hpre L HR0
    subst hpre
    have HE := HR0.out
    have hb1 := hLow.cb_
    have hb2 := hLow.mb_
    have hb3 := hLow.sb_
    have hb4 := hLow.rb_
    have m4 := k4.heap L.msg (by omega)
    have d4 := k4.heap L.defr (by omega)
    have C4 := L.cur.keep k4 (fun b e => ⟨.inr (.inr (.inr (.inr (.inl (.inl e))))), by omega⟩)
    have D4 : Cur w4 (fun b => b = c0) c0 s2 := D10.turn (L.kept.trans k4 (H := fun b => b = cb ∨ b = sb ∨ b = mb ∨ b = w10.heap.size + 1) (fun _ _ h => by rcases h with h | h | h; exact .inl h; exact .inr (.inl h); exact .inr (.inr (.inl h))) (fun _ _ h => .inr (.inr (.inr h)))) (fun b hb f => by
      rcases f with f | f | f | f
      · exact ⟨.inl (.inr f), by have := hc0x.1; omega⟩
      · exact ⟨.inl (.inl (.inr f)), by have := hc0x.2.1; omega⟩
      · exact ⟨.inr f, by have := hc0x.2.2.1; omega⟩
      · omega) (fun b _ e => .inl (.inl (.inl e))) rfl (fun b e => by have := L.kept.size; have := k4.size; have : b = c0 := e; omega)
    have g4 := k4.heap (L.kept.heap g10 (fun h => by rcases h with h | h | h; exact hrx.1 h; exact hrx.2.1 h; exact hrx.2.2 h)) (by have := heap_lt g10; omega)
    have hrc0 : rb ≤ c0 := by have := hwx.2.1; omega
    have KW : ∀ W F, Kept w3 W F → (∀ b, F b → b = w10.heap.size + 1 ∨ b = c0 ∨ b = rb ∨ b = w10.heap.size) → Kept w W (fun _ => False) := fun W F q hF => (K10.trans L.kept (H := fun b => b = c0 ∨ b = cb ∨ b = sb ∨ b = mb) (fun _ _ h => .inl h) (fun _ _ h => .inr h)).trans q (fun b hb h => by have := hwx; rcases h with h | h | h | h <;> omega) (fun b hb h => by have := hwx; rcases hF b h with h | h | h | h <;> omega)
    have hfew := L.few
    obtain ⟨A, cc, hv2, hcc, hC67⟩ := L.recs.reads (by omega)
    have hown := L.own
    have KREC : ∀ W, Kept w3 W (Gv cb sb mb c0 (w10.heap.size + 1) v2) → (∀ b, v2.ownBlock = some b → W.heap[b]? = w3.heap[b]?) → k35.K W { z35 with f0 := c, f15 := ps.map Prod.fst } (cs35v c v2) := fun W q hb => by
      have := hC67 W q hb
      rw [hv2]
      exact k35_mk W { z35 with f0 := c, f15 := ps.map Prod.fst } (A12 := none) (c12 := 0) (Nat.le_refl _) (Kd.C_nil _ W) (A13 := none) (c13 := 0) (Nat.le_refl _) (Kd.C_nil _ W) (A14 := none) (c14 := 0) (Nat.le_refl _) (Kd.C_nil _ W) hcc this (A21 := none) (c21 := 0) (Nat.le_refl _) (Kd.C_nil _ W)
    have hrow3 := L.recs.row
    have HV : Aside0 _ := ⟨hv2⟩
    clear hv2
    have HK : Aside0 _ := ⟨And.intro KW (And.intro KREC (And.intro hown hrow3))⟩
    clear KW KREC hC67 hRR L hrow3 D10 C10 K10 m10 s10 g10 e1 e2 hO hdec hle hbx hcc
    have herr := err_calls w4 cb sE C4
    have hnd := need_calls w4 c0 s2 (sE.e == 0) (withinE sE.e) D4
    have hwe := withinE_calls w4 sE.e
    generalize sE.e = eE at *
    go_upto_region 15 with (first
      | (go_at_call 140; with_reducible refine herr.mono ?_; rintro e w5 ⟨rfl, rfl⟩)
      | (go_at_call 153; with_reducible refine hwe.mono ?_; rintro e w5 ⟨rfl, rfl⟩)
      | (go_at_call 150; with_reducible refine hnd.mono ?_; rintro e w6 ⟨rfl, D6, k6⟩))
    have kz6 := k4.trans k6 (H := fun b => b = w10.heap.size + 1 ∨ b = c0) (fun _ _ h => .inl h) (fun _ _ h => .inr h)
    replace m4 := k6.heap m4 (by omega)
    replace d4 := k6.heap d4 (by omega)
    replace g4 := k6.heap g4 (fun h => hc0x.2.2.2 h.symm)
    clear herr hnd hwe C4 D4 k6 k4
    generalize s2.need (eE == 0) (withinE eE) = s3 at *
    have hend := end_calls w6 c0 s3 D6
    go_upto_region 16 with (go_at_call 139; with_reducible refine hend.mono ?_; rintro e z6 ⟨rfl, D7, k7⟩; clear hend)
    have kz := kz6.trans k7 (H := fun b => b = w10.heap.size + 1 ∨ b = c0) (fun _ _ h => h) (fun _ _ h => .inr h)
    replace m4 := k7.heap m4 (by omega)
    replace d4 := k7.heap d4 (by omega)
    replace g4 := k7.heap g4 (fun h => hc0x.2.2.2 h.symm)
    have herr := err_calls z6 c0 s3.end_ D7
    clear kz6 k7 D6 D7
    go_upto_region 17 with (go_at_call 140; with_reducible refine herr.mono ?_; rintro e z7 ⟨rfl, rfl⟩; clear herr)
    have hlen : (cs35v c v2).toArray.size = 22 := rfl
    have R1 : Kept z7 (z7.setRow rb (cs35v c v2).toArray) (fun b => b = rb) := Kept.setRow z7 rb _ rfl
    have R2 : Kept z7 (z7.setRow rb (cs35 0).toArray) (fun b => b = rb) := Kept.setRow z7 rb _ rfl
    have P1 : ∀ o, Kept (z7.setRow rb (cs35v c v2).toArray) ((z7.setRow rb (cs35v c v2).toArray).putObj w10.heap.size o) (fun b => b = w10.heap.size) := fun o => Kept.block' _ _ _ rfl
    have P2 : ∀ o, Kept (z7.setRow rb (cs35 0).toArray) ((z7.setRow rb (cs35 0).toArray).putObj w10.heap.size o) (fun b => b = w10.heap.size) := fun o => Kept.block' _ _ _ rfl
    have hone : (cs35v c v2).toArray.all (·.oneCell') = true := by rw [HV.out]; kernel_rfl
    have hrw : rb ≠ w10.heap.size := by omega
    by_cases he : s3.end_.e = 0
    · have hP : r0 = ({ z35 with f0 := c, f15 := ps.map Prod.fst }, 0) := by rw [← HE, fin, if_pos he]
      have HP : Aside0 _ := ⟨hP⟩
      rw [he]
      clear HE hP he R2 P2
      go_wp2_with (first
        | (refine wpList_load_row rfl 35 (.tmp 13) rfl mb rfl 35 (cs35v c v2).toArray (0, 0) _ m4 Tryz.underlying35 rfl (sizeM _ hlen) ?_)
        | (refine wpList_store_row rfl 35 (.tmp 6) (.tmp 76) rfl rb (cs35v c v2).toArray rfl rfl 35 (cs35 0).toArray g4 (sizeM _ hlen) rfl hone ?_))
      refine ⟨by simp, .inl ⟨_, _, rfl, run_takeDeferred (R1.heap d4 (fun h => hrw h.symm)), ?_⟩⟩
      have P := P1 (.deferred none)
      have q := (kz.trans R1 (H := fun b => b = w10.heap.size + 1 ∨ b = c0 ∨ b = rb ∨ b = w10.heap.size) (fun _ _ h => h.elim .inl fun h => .inr (.inl h)) (fun _ _ h => .inr (.inr (.inl h)))).trans P (H := fun b => b = w10.heap.size + 1 ∨ b = c0 ∨ b = rb ∨ b = w10.heap.size) (fun _ _ h => h) (fun _ _ h => .inr (.inr (.inr h)))
      refine ⟨_, results_ct (p := 6) (u := 7) (ty := 35) Tryz.results127 _ _ rb 35 (cs35v c v2).toArray (0, 0) _ rfl (P.heap (setRow_heap _ _ _ _ 35 _ g4) hrw) Tryz.underlying35 rfl (sizeM _ hlen), ?_⟩
      rw [HP.out]
      refine ⟨cs35v c v2, rfl, fun W qq => ?_, HK.out.1 _ _ q (fun _ h => h)⟩
      have qt := q.trans qq (H := fun b => b = w10.heap.size + 1 ∨ b = c0 ∨ b = rb ∨ b = w10.heap.size ∨ b < rb) (fun _ _ h => by rcases h with h | h | h | h; exact .inl h; exact .inr (.inl h); exact .inr (.inr (.inl h)); exact .inr (.inr (.inr (.inl h)))) (fun _ _ h => .inr (.inr (.inr (.inr h))))
      refine HK.out.2.1 W (qt.mono fun b _ h => ?_) (fun b hb => qt.block b (HK.out.2.2.2.lt b hb).2 (fun h => ?_))
      · rcases h with h | h | h | h | h
        · exact .inr (.inr (.inr (.inr (.inl (.inl h)))))
        · exact .inr (.inr (.inr (.inl (Nat.le_of_eq h))))
        · exact .inr (.inr (.inr (.inl (by omega))))
        · exact .inr (.inr (.inr (.inr (.inl (.inr (by omega))))))
        · exact .inr (.inr (.inr (.inl (by omega))))
      · have := HK.out.2.2.1 b hb
        rcases h with h | h | h | h | h <;> omega
    · have hP : r0 = (z35, s3.end_.e) := by rw [← HE, fin, if_neg he]
      have heb : (s3.end_.e != 0) = true := by simpa using he
      have HP : Aside0 _ := ⟨hP⟩
      clear HE hP R1 P1
      go_wp2_with (first
        | (refine wpList_buildTo rfl 35 _ rfl (some 74) rfl (cs35 0).toArray ?_ ?_; (simp only [List.map_toArray, List.map_nil]; exact built35z))
        | (refine wpList_store_row rfl 35 (.tmp 6) (.tmp 74) rfl rb (cs35 0).toArray rfl rfl 35 (cs35 0).toArray g4 (sizeM _ rfl) rfl (all_cs35 0) ?_))
      refine ⟨by simp, .inl ⟨_, _, rfl, run_takeDeferred (R2.heap d4 (fun h => hrw h.symm)), ?_⟩⟩
      have P := P2 (.deferred none)
      have q := (kz.trans R2 (H := fun b => b = w10.heap.size + 1 ∨ b = c0 ∨ b = rb ∨ b = w10.heap.size) (fun _ _ h => h.elim .inl fun h => .inr (.inl h)) (fun _ _ h => .inr (.inr (.inl h)))).trans P (H := fun b => b = w10.heap.size + 1 ∨ b = c0 ∨ b = rb ∨ b = w10.heap.size) (fun _ _ h => h) (fun _ _ h => .inr (.inr (.inr h)))
      refine ⟨_, results_ct (p := 6) (u := 7) (ty := 35) Tryz.results127 _ _ rb 35 (cs35 0).toArray (0, 0) _ rfl (P.heap (setRow_heap _ _ _ _ 35 _ g4) hrw) Tryz.underlying35 rfl (sizeM _ rfl), ?_⟩
      rw [HP.out]
      exact ⟨cs35 0, rfl, fun W _ => cs35_K 0 W, HK.out.1 _ _ q (fun _ h => h)⟩
  case round =>
    rintro _ x cs s n W ⟨v2, ps, rfl, L, hf, h4, hK⟩ he
    have hone := all_oneCell_toArray (k67_one (hK W (Kept.refl _ _)))
    have hst : rc.state = .ready := by rw [← hrc]
    have hpe : rc.pending = none := by rw [← hrc]
    refine yield_two (rc := rc) (i1 := 12) (i2 := 13) (b := 1) L.loop hst hpe (by rw [← hrc]; rfl) (by rw [← hrc]) (by rw [← hrc]) (by rw [← hrc]) (by rw [← hrc]) (by simp) (by simp) ?_
    simp only [lrec, List.zip_toArray, List.zip_cons_cons, List.zip_nil_left, List.foldl_toArray, List.foldl_cons, List.foldl_nil, List.setIfInBounds_toArray, List.set_cons_zero, List.set_cons_succ]
    clear hst hpe
    have hz7 := zero67
    have N1 := new_row W (r67 0 0 0 (.slice none 0 0)).toArray cs.toArray 67
    have hf2 := hf he
    go_wp2_with (refine wpList_store_rowTo rfl 67 (.tmp 14) (.tmp 53) rfl rfl W.heap.size cs.toArray rfl rfl 67 (r67 0 0 0 (.slice none 0 0)).toArray (heap_alloc_new _ _) (size67 _ h4) (by simp [h4]) hone ?_)
    obtain ⟨fx, kx⟩ := N1
    have L2 := L.keep0 kx
    have hK2 : ∀ W', Kept ((W.alloc (.cells (r67 0 0 0 (.slice none 0 0)).toArray 67)).setRow W.heap.size cs.toArray) W' (Gv cb sb mb c0 (w10.heap.size + 1) v2) → k67.K W' x cs := fun W' q => hK W' (kx.trans q (fun _ _ h => h.elim) (fun _ _ h => h))
    have hlx : w10.heap.size + 1 < W.heap.size := heap_lt L.loop
    clear L hK kx
    generalize (W.alloc (.cells (r67 0 0 0 (.slice none 0 0)).toArray 67)).setRow W.heap.size cs.toArray = W1 at *
    generalize W.heap.size = xb at *
    refine ⟨rfl, L2.loop, ?_⟩
    have kb : Kept W1 (W1.putObj (w10.heap.size + 1) (.loop { rc with state := .busy })) (fun b => b = w10.heap.size + 1) := Kept.block' W1 _ _ rfl
    have hlt : w10.heap.size + 1 < W1.heap.size := heap_lt L2.loop
    have hlb : (W1.putObj (w10.heap.size + 1) (.loop { rc with state := .busy })).heap[w10.heap.size + 1]? = some (.loop { rc with state := .busy }) := World.putObj_heap_same hlt
    have hsz2 : (W1.putObj (w10.heap.size + 1) (.loop { rc with state := .busy })).heap.size = W1.heap.size := by have := kb.size; simp [World.putObj]
    have hmn : mb ≠ w10.heap.size + 1 := by have := hLow.mb_; omega
    have m2 := kb.heap L2.msg hmn
    have x2 := kb.heap fx (fun h : xb = _ => by omega)
    have r2 := kb.owns L2.recs.row (fun g hg (e : g = _) => by have := L2.own g hg; omega)
    generalize hW2 : W1.putObj (w10.heap.size + 1) (.loop { rc with state := .busy }) = W2 at *
    clear hW2 fx hrc
    have HL2 : Aside0 _ := ⟨And.intro L2 (And.intro hK2 kb)⟩
    obtain ⟨A, cc, rfl⟩ : ∃ A cc, v2 = .slice A ps.length cc := by
      rcases r2.2 with ⟨h, h0⟩ | ⟨g, cap, cur, h, _⟩
      · exact ⟨none, 0, by rw [h, h0]⟩
      · exact ⟨_, _, h⟩
    have c15 : W2.cell? ⟨mb, 15, none⟩ = some (.slice A ps.length cc) := by rw [cell_of_row W2 mb 15 _ 35 (0, 0) m2]; rfl
    have q3 := Kept.alloc W2 (.cells cs.toArray 67) (fun _ => False)
    have hlit := lit_67 W2 cs h4
    have hps : ps.length < 1000000 := by omega
    obtain ⟨v4, W4, ha4, r4, g4, o4⟩ := app_one (ts := 32) Tryz.underlying32 info67 (by omega) (by omega) _ 32 (.slice A ps.length cc) ps.length _ (q3.owns r2 (fun _ _ h => h)) cs h4 (k67_one (hK2 W1 (Kept.refl _ _))) W2.heap.size (heap_alloc_new W2 _) hps
    obtain ⟨A4, c4, rfl⟩ : ∃ A4 c4, v4 = .slice A4 (ps.length + 1) c4 := by
      rcases r4.2 with ⟨h, h0⟩ | ⟨g, cap, cur, h, _⟩
      · omega
      · exact ⟨_, _, h⟩
    have k4 := q3.trans (Kept.grown g4 (F := fun b => (Value.slice A ps.length cc).ownBlock = some b) (fun _ h => h.symm)) (H := fun b => (Value.slice A ps.length cc).ownBlock = some b) (fun _ _ h => h.elim) (fun _ _ h => h)
    rw [asz] at o4
    have hown2 := L2.own
    have m4 := k4.heap m2 (fun h => by have := hown2 _ h; have := hLow.mb_; omega)
    have l4 := k4.heap hlb (fun h => by have := hown2 _ h; omega)
    have m5 := setCell_row (i := 15) (v := .slice A4 (ps.length + 1) c4) m4
    have k5 := Kept.setCell W4 mb 15 (.slice A4 (ps.length + 1) c4) (F := fun b => b = mb) rfl
    have FIN : Aside0 ((W4.setCell ⟨mb, 15, none⟩ (.slice A4 (ps.length + 1) c4)).heap[w10.heap.size + 1]? = some (.loop { rc with state := .busy }) ∧ LpI w10 ((W4.setCell ⟨mb, 15, none⟩ (.slice A4 (ps.length + 1) c4)).putObj (w10.heap.size + 1) (.loop rc)) cb sb mb c0 rc c s n (.slice A4 (ps.length + 1) c4) (ps ++ [(x, cs)])) := by
      have l5 := k5.heap l4 (fun h : _ = mb => hmn h.symm)
      have k6 : Kept (W4.setCell ⟨mb, 15, none⟩ (.slice A4 (ps.length + 1) c4)) ((W4.setCell ⟨mb, 15, none⟩ (.slice A4 (ps.length + 1) c4)).putObj (w10.heap.size + 1) (.loop rc)) (fun b => b = w10.heap.size + 1) := Kept.block' _ _ _ rfl
      refine ⟨l5, HL2.out.1.put hLow ?_ (World.putObj_heap_same (heap_lt l5)) (k6.heap m5 hmn) ?_ ?_ h4 HL2.out.2.1 hf2⟩
      · exact (((HL2.out.2.2.trans k4 (H := fun b => b = mb ∨ b = w10.heap.size + 1 ∨ (Value.slice A ps.length cc).ownBlock = some b) (fun _ _ h => .inr (.inl h)) (fun _ _ h => .inr (.inr h))).trans k5 (fun _ _ h => h) (fun _ _ h => .inl h)).trans k6 (fun _ _ h => h) (fun _ _ h => .inr (.inl h)))
      · refine k6.owns (k5.owns r4 (fun g hg (e : g = mb) => ?_)) (fun g hg (e : g = _) => ?_)
        · have := hLow.mb_
          rcases o4 with o | o
          · have := hown2 g (o.symm.trans hg); omega
          · rw [o] at hg; injection hg with hg; omega
        · rcases o4 with o | o
          · have := hown2 g (o.symm.trans hg); omega
          · rw [o] at hg; injection hg with hg; omega
      · rcases o4 with o | o
        · exact .inl o
        · exact .inr ⟨_, o, by omega⟩
    clear r2 r4 g4 o4 k4 k5 m5 hown2 q3 L2 hK2 kb HL2 l4 hlb
    generalize ps.length = np at *
    go_wp2_with (first
      | (refine wpList_load_row rfl 67 (.tmp 14) rfl xb rfl 67 cs.toArray (0, 0) _ x2 Tryz.underlying67 rfl (size67 _ h4) ?_)
      | (refine wpList_lit1 rfl 32 (.tmp 56) rfl (some 57) rfl (.agg cs.toArray) rfl (.slice (some ⟨W2.heap.size, 0, none⟩) 1 1) (W2.alloc (.cells cs.toArray 67)) ?_ ?_; exact hlit)
      | (refine wpList_app rfl (.tmp 55) (.tmp 57) 32 32 rfl (some 58) rfl (.slice A np cc) (.slice (some ⟨W2.heap.size, 0, none⟩) 1 1) rfl rfl (.slice A4 (np + 1) c4) W4 ha4 ?_)
      | (refine wpList_plain rfl fun _ hK => wp_store_cell 32 (.tmp 59) (.tmp 58) rfl mb 15 (.slice A4 (np + 1) c4) rfl rfl rfl 35 _ m4 (show 15 < 22 by decide) (by kernel_rfl) (hK _ _ ?_)))
    exact ⟨rfl, FIN.out.1, _, _, by simp, FIN.out.2⟩
theorem need_e0 {s : St} {ok : Bool} {e : Int} (h : (s.need ok e).e = 0) : s.e = 0 := by
  unfold St.need at h
  split at h
  · rename_i h1; exact h1.1
  · exact h
theorem bytes_e0 {s : St} {n : Int} (h : (s.bytes n).2.e = 0) : s.e = 0 ∧ s.short = false ∧ 0 ≤ n ∧ n ≤ (s.b.length : Int) := by
  unfold St.bytes at h
  split at h
  · by_cases he : s.e = 0 <;> simp [he] at h
  · rename_i h1
    refine ⟨h, ?_, by omega, by omega⟩
    cases hh : s.short <;> simp_all
theorem word_e0 {s : St} (h : s.word.2.e = 0) : s.e = 0 := by
  unfold St.word St.words at h
  split at h
  · exact (bytes_e0 h).1
  · exact (bytes_e0 h).1
theorem byte_lt {s : St} (h : s.byte.2.e = 0) : s.byte.2.b.length < s.b.length := by
  obtain ⟨_, h2, h3, h4⟩ := bytes_e0 h
  have h5 : ¬ (s.short = true ∨ (1 : Int) < 0 ∨ (s.b.length : Int) < 1) := by simp [h2]; omega
  unfold St.byte St.bytes
  rw [if_neg h5]
  simp [List.length_drop]
  omega
theorem headS_lt {s : St} (h : (headS s).2.e = 0) : (headS s).2.b.length < s.b.length := by
  unfold headS at h ⊢
  simp only at h ⊢
  refine Nat.lt_of_le_of_lt ?_ (byte_lt (need_e0 (word_e0 (need_e0 (word_e0 (need_e0 (word_e0 (need_e0 h))))))))
  rw [St.need_b]
  refine Nat.le_trans (St.word_le _) ?_
  rw [St.need_b]
  refine Nat.le_trans (St.word_le _) ?_
  rw [St.need_b]
  refine Nat.le_trans (St.word_le _) ?_
  rw [St.need_b]
  exact Nat.le_refl _
theorem askedS_le (s : St) (n : Int) : (askedS s n).2.1.b.length ≤ s.b.length := by unfold askedS; simp only; rw [St.need_b]; exact headS_le s
theorem askedS_lt (s : St) (n : Int) (h : (askedS s n).2.1.e = 0) : (askedS s n).2.1.b.length < s.b.length := by
  unfold askedS at h ⊢
  simp only at h ⊢
  rw [St.need_b]
  exact headS_lt (need_e0 h)
theorem writtenS_le (s : St) : (writtenS s).2.b.length ≤ s.b.length := by
  unfold writtenS
  simp only
  refine Nat.le_trans (St.words_le _ _) ?_
  rw [St.need_b]
  exact headS_le s
theorem words_e0 {s : St} {n : Int} (h : (s.words n).2.e = 0) : s.e = 0 := by
  unfold St.words at h
  split at h
  · exact (bytes_e0 h).1
  · exact (bytes_e0 h).1
theorem writtenS_lt (s : St) (h : (writtenS s).2.e = 0) : (writtenS s).2.b.length < s.b.length := by
  unfold writtenS at h ⊢
  simp only at h ⊢
  refine Nat.lt_of_le_of_lt (St.words_le _ _) ?_
  rw [St.need_b]
  exact headS_lt (need_e0 (words_e0 h))
def filesP (c : Int) : List Int → S35 × Int := if c = 20 then filesF 20 mayA askedS else filesF 21 mayW (fun s n => ((writtenS s).1, (writtenS s).2, n))
theorem filesP_calls (c : Int) (hc : c = 20 ∨ c = 21) (l : List Int) (ho : Oct l) : Parses 127 c l (filesP c l) := by
  rcases hc with rfl | rfl
  · exact filesP_gen 20 189 187 _ mayA askedS rule20 one20 mayA_calls (enters_of Tryz.func189 (by kernel_rfl) rfl) (enters_of Tryz.func187 (by kernel_rfl) rfl) (fun s n _ _ h => askedS_lt s n h) askedS_le l ho
  · exact filesP_gen 21 192 193 _ mayW _ rule21 one21 mayW_calls (enters_of Tryz.func192 (by kernel_rfl) rfl) (enters_of Tryz.func193 (by kernel_rfl) rfl) (fun s n _ _ h => writtenS_lt s h) (fun s n => writtenS_le s) l ho
theorem fullF_few (step : St → Int → S67 × St × Int) (hle : ∀ s n, (step s n).2.1.b.length ≤ s.b.length) (hw : ∀ s n, (step s n).1.f3.length ≤ s.b.length) : ∀ (k : Nat) (pre : List S67) (s : St) (n : Int), (fullF step k pre s n).1.length ≤ pre.length + k ∧ ∀ r ∈ (fullF step k pre s n).1, r ∈ pre ∨ r.f3.length ≤ s.b.length
  | 0, pre, s, n => ⟨by simp [fullF], fun r hr => .inl hr⟩
  | k + 1, pre, s, n => by
    rw [fullF]
    split
    · split
      · obtain ⟨h1, h2⟩ := fullF_few step hle hw k (pre ++ [(step s n).1]) (step s n).2.1 (step s n).2.2
        refine ⟨by simp at h1; omega, fun r hr => ?_⟩
        rcases h2 r hr with h | h
        · rcases List.mem_append.1 h with h | h
          · exact .inl h
          · obtain rfl : r = (step s n).1 := by simpa using h
            exact .inr (hw s n)
        · exact .inr (Nat.le_trans h (hle s n))
      · exact ⟨by simp, fun r hr => .inl hr⟩
    · exact ⟨by simp, fun r hr => .inl hr⟩
theorem filesF_fit (c : Int) (hc : 0 ≤ c ∧ c < 256) (may : Int → Bool) (step : St → Int → S67 × St × Int) (hle : ∀ s n, (step s n).2.1.b.length ≤ s.b.length) (hw : ∀ s n, (step s n).1.f3.length ≤ s.b.length) (l : List Int) (hl : l.length ≤ 90000) : Fit (filesF c may step l).1 ∧ (filesF c may step l).1.f21 = [] := by
  unfold filesF
  simp only
  refine fin_fit ?_
  generalize hb : (((⟨l, false, 0⟩ : St).byte.2.need (may (⟨l, false, 0⟩ : St).byte.1) 5).bytes (⟨l, false, 0⟩ : St).byte.1).1 = bl
  have hbl : bl.length ≤ 90000 := by
    rw [← hb]
    refine Nat.le_trans (St.bytes_le _ _).1 ?_
    rw [St.need_b]
    exact Nat.le_trans (byte_b _) hl
  obtain ⟨h1, h2⟩ := fullF_few step hle hw bl.length [] ⟨bl, false, 0⟩ 0
  refine ⟨⟨hc, by simp [z35], by simp [z35], by simp [z35], by simp [z35], by simp [z35], by simp [z35], (fun x hx => by simp [z35] at hx), by simp [z35], by simp [z35], ⟨?_, fun r hr => ?_⟩⟩, rfl⟩
  · show (fullF step bl.length [] ⟨bl, false, 0⟩ 0).1.length ≤ 100000
    simp at h1
    omega
  · rcases h2 r hr with h | h
    · cases h
    · have : (⟨bl, false, 0⟩ : St).b.length = bl.length := rfl
      omega
theorem filesP_fit (c : Int) (hc : c = 20 ∨ c = 21) (l : List Int) (hl : l.length ≤ 90000) : Fit (filesP c l).1 ∧ (filesP c l).1.f21 = [] := by
  rcases hc with rfl | rfl
  · exact filesF_fit 20 (by omega) mayA askedS askedS_le (fun s n => by simp [askedS]) l hl
  · refine filesF_fit 21 (by omega) mayW _ (fun s n => writtenS_le s) (fun s n => ?_) l hl
    show (writtenS s).1.f3.length ≤ _
    unfold writtenS
    simp only
    refine Nat.le_trans (words_len _ _) ?_
    rw [St.need_b]
    exact headS_le s
end Go.Proofs.YtmbjlondehcheaaGreatDoor
end
