/- TopTalk: part 19 of the walks: of HFile, HFull, HFrec. -/
import Derived.Test.YtmbjlondehcheaaGreatDoorM15
import Derived.OrdersIn
import Derived.OwnWalkIn
import Derived.RangeFuncCalls
import Derived.RangeFuncKeeps
import Derived.RangeFuncLeaves
import Derived.TacticsInMore
section
set_option linter.unusedSimpArgs false
set_option linter.unusedVariables false
namespace Go.Proofs.YtmbjlondehcheaaGreatDoor
open Go.Shelf Go.RowKit Go.Lib Go.Sort Go.Proofs.YtmbjlondehcheaaGreatDoorW.PrintWords Go.Proofs.YtmbjlondehcheaaGreatDoorW.PrintLast Go.Proofs.YtmbjlondehcheaaGreatDoor.PTopTalk
theorem Cur.grow {w w1 : World} {G : Nat → Prop} {cb xb : Nat} {s : St} (h : Cur w G cb s) (q : Kept w w1 (fun _ => False)) (h1 : w.heap.size ≤ xb) (h2 : xb < w1.heap.size) : Cur w1 (fun b => G b ∨ b = xb) cb s :=
  h.more q (fun b hb g => g.elim id fun e => by omega) (.inl h.hot) (fun b g => g.elim (fun g => Nat.lt_of_lt_of_le (h.low b g) q.size) fun e => by omega)
theorem Cur.less {w : World} {G G' : Nat → Prop} {cb : Nat} {s : St} (h : Cur w G' cb s) (hG : ∀ b, G b → G' b) (hc : G cb) : Cur w G cb s := by
  obtain ⟨v, hv, hb⟩ := h.out
  exact ⟨hc, fun b g => h.low b (hG b g), v, hv, fun w' k => hb w' (k.mono fun b _ g => hG b g)⟩
abbrev r67 (a b c : Int) (v : Value) : List Value := [.int .u16 a, .int .u16 b, .int .u16 c, v]
theorem set67 {w : World} {xb : Nat} {cs : Array Value} (h : w.heap[xb]? = some (.cells cs 67 (0, 0))) (i : Nat) (v : Value) : (w.setCell ⟨xb, i, none⟩ v).heap[xb]? = some (.cells (cs.setIfInBounds i v) 67 (0, 0)) ∧ Kept w (w.setCell ⟨xb, i, none⟩ v) (fun b => b = xb) :=
  ⟨setCell_row h, Kept.setCell w xb i v rfl⟩
theorem zero67 (w : World) : (zeroValue 67).run Tryz.prog w = .ok (.agg (r67 0 0 0 (.slice none 0 0)).toArray) w := by kernel_rfl
theorem size67 (cs : List Value) (h : cs.length = 4) : (Tryz.prog.info? 67).map (·.size) = some cs.toArray.size := by rw [List.size_toArray, h]; kernel_rfl
def headS (s : St) : (Int × Int × Int) × St :=
  let s1 := s.byte.2.need (s.byte.1 == 6) 9
  let s2 := s1.word.2.need (s1.word.1 != 0) 6
  let s3 := s2.word.2.need (decide (s2.word.1 ≤ 9999)) 7
  let s4 := s3.word.2.need (s3.word.1 != 0) 5
  ((s1.word.1, s2.word.1, s3.word.1), s4)
set_option maxHeartbeats 1000000 in
set_option maxRecDepth 1000000 in
theorem head_calls (w : World) (G : Nat → Prop) (cb : Nat) (s : St) (h : Cur w G cb s) (hl : s.b.length ≤ 100000) : Calls Tryz.prog 188 #[(.pointer (some ⟨cb, 0, none⟩))] w fun r w' => r = .returned (.agg (r67 (headS s).1.1 (headS s).1.2.1 (headS s).1.2.2 (.slice none 0 0)).toArray) ∧ Cur w' G cb (headS s).2 ∧ Kept w w' (fun b => b = cb) := by
  have hz := zero67
  have f0 := heap_alloc_new w (.cells (r67 0 0 0 (.slice none 0 0)).toArray 67)
  have q0 := Kept.alloc w (.cells (r67 0 0 0 (.slice none 0 0)).toArray 67) (fun _ => False)
  have C0 := h.grow (xb := w.heap.size) q0 (Nat.le_refl _) (by rw [asz]; omega)
  obtain ⟨r0, hr0⟩ : ∃ r0, headS s = r0 := ⟨_, rfl⟩
  rw [hr0]
  unfold headS at hr0
  have HR : Aside0 _ := ⟨hr0⟩
  have HG : Aside0 _ := ⟨And.intro h.hot h.low⟩
  clear hr0 h
  go_enter Tryz.func188, Tryz.ntmps188
  go_upto_region 1 with fail
  generalize w.alloc (.cells (r67 0 0 0 (.slice none 0 0)).toArray 67) = w0 at *
  generalize hrb : w.heap.size = rb at *
  have HRB : Aside0 _ := ⟨hrb⟩
  have hrc : ¬ rb = cb := by have := HG.out.2 cb HG.out.1; omega
  clear hrb
  have hby := byte_calls w0 cb s C0 hl
  have hle := byte_b s
  generalize hs1 : s.byte = p at *
  obtain ⟨k, s0⟩ := p
  simp only at *
  have HS1 : Aside0 _ := ⟨hs1⟩
  clear hs1
  go_upto_region 2 with (first
    | (go_at_call 149; with_reducible refine hby.mono ?_; rintro e w1 ⟨rfl, C1, k1⟩; have hnd := need_calls w1 cb s0 (k == 6) 9 C1; clear hby)
    | (go_at_call 150; with_reducible refine hnd.mono ?_; rintro e w2 ⟨rfl, C2, k2⟩; clear hnd))
  have k12 := k1.trans k2 (H := fun b => b = cb) (fun _ _ h => h) (fun _ _ h => h)
  have hl1 : (s0.need (k == 6) 9).b.length ≤ 100000 := by rw [St.need_b]; omega
  generalize hs : s0.need (k == 6) 9 = s1 at *
  have HN0 : Aside0 _ := ⟨hs⟩
  have f2 := k12.heap f0 hrc
  have K2 := (q0.trans k12 (H := fun b => b = cb) (fun _ _ h => h.elim) (fun _ _ h => h))
  clear hs hle hl C0 C1 k1 k2 k12 f0 q0
  go_upto_region 3 with fail
  have fx := heap_alloc_new w2 (.cells (r67 0 0 0 (.slice none 0 0)).toArray 67)
  have q := Kept.alloc w2 (.cells (r67 0 0 0 (.slice none 0 0)).toArray 67) (fun _ => False)
  have C3 := C2.grow (xb := w2.heap.size) q (Nat.le_refl _) (by rw [asz]; omega)
  have f3 := q.heap f2 (fun h => h)
  have hxc : ¬ w2.heap.size = cb := by have := C2.low cb C2.hot; omega
  have hxr : ¬ rb = w2.heap.size := by have := heap_lt f2; omega
  have K0 := (K2.trans q (H := fun b => b = cb ∨ b = w2.heap.size) (fun _ _ h => .inl h) (fun _ _ h => h.elim))
  have hxw : w.heap.size ≤ w2.heap.size := K2.size
  clear q C2 f2 K2
  generalize hX : w2.alloc (.cells (r67 0 0 0 (.slice none 0 0)).toArray 67) = w3 at *
  generalize hY : w2.heap.size = xb at *
  clear hX hY
  have f3' : ∀ W, Kept w3 W (fun b => b = cb ∨ b = xb) → W.heap[rb]? = some (.cells (r67 0 0 0 (.slice none 0 0)).toArray 67 (0, 0)) := fun W q => q.heap f3 (fun h => h.elim hrc hxr)
  have K0' := K0
  clear K0
  have K0 := Kept.refl w3 (fun b => b = cb ∨ b = xb)
  have hwd := word_calls w3 cb s1 C3 hl1
  have hle := s1.word_le
  generalize hs : s1.word = p at *
  obtain ⟨a1, t1⟩ := p
  simp only at *
  have HW1 : Aside0 _ := ⟨hs⟩
  clear hs
  go_upto_region 4 with (first
    | (go_at_call 160; with_reducible refine hwd.mono ?_; rintro e v1 ⟨rfl, D1, k1⟩; have g1 := k1.heap fx hxc; clear hwd)
    | (refine wpList_plain rfl fun _ hK => wp_store_cell 27 (.tmp 11) (.tmp 10) rfl xb 0 (.int .u16 a1) rfl rfl rfl 67 #[.int .u16 0, .int .u16 0, .int .u16 0, .slice none 0 0] g1 (show 0 < 4 by decide) (by kernel_rfl) (hK _ _ ?_)))
  obtain ⟨fx, q⟩ := set67 g1 0 (.int .u16 a1)
  replace fx : (v1.setCell ⟨xb, 0, none⟩ (.int .u16 a1)).heap[xb]? = some (.cells #[.int .u16 a1, .int .u16 0, .int .u16 0, .slice none 0 0] 67 (0, 0)) := fx
  have E1 := D1.keep q (fun b e => ⟨.inr e, fun h => hxc (e.symm.trans h)⟩)
  have K1 := (K0.trans k1 (H := fun b => b = cb ∨ b = xb) (fun _ _ h => h) (fun _ _ h => .inl h)).trans q (H := fun b => b = cb ∨ b = xb) (fun _ _ h => h) (fun _ _ h => .inr h)
  clear q g1 D1 k1 C3 K0
  generalize v1.setCell ⟨xb, 0, none⟩ (.int .u16 a1) = u1 at *
  have hnd := need_calls u1 cb t1 (a1 != 0) 6 E1
  have cx : u1.cell? ⟨xb, 0, none⟩ = some (.int .u16 a1) := by rw [cell_of_row u1 xb 0 _ 67 (0, 0) fx]; rfl
  go_upto_region 5 with (go_at_call 150; with_reducible refine hnd.mono ?_; rintro e w4 ⟨rfl, C4, k1⟩; clear hnd)
  replace fx := k1.heap fx hxc
  replace K1 := K1.trans k1 (H := fun b => b = cb ∨ b = xb) (fun _ _ h => h) (fun _ _ h => .inl h)
  clear k1 E1 cx
  have hl2 : (t1.need (a1 != 0) 6).b.length ≤ 100000 := by rw [St.need_b]; omega
  generalize hs : t1.need (a1 != 0) 6 = s2 at *
  have HN1 : Aside0 _ := ⟨hs⟩
  clear hs hle
  have hwd := word_calls w4 cb s2 C4 hl2
  have hle := s2.word_le
  generalize hs : s2.word = p at *
  obtain ⟨a2, t2⟩ := p
  simp only at *
  have HW2 : Aside0 _ := ⟨hs⟩
  clear hs
  go_upto_region 6 with (first
    | (go_at_call 160; with_reducible refine hwd.mono ?_; rintro e v2 ⟨rfl, D2, k2⟩; have g2 := k2.heap fx hxc; clear hwd)
    | (refine wpList_plain rfl fun _ hK => wp_store_cell 27 (.tmp 19) (.tmp 18) rfl xb 1 (.int .u16 a2) rfl rfl rfl 67 #[.int .u16 a1, .int .u16 0, .int .u16 0, .slice none 0 0] g2 (show 1 < 4 by decide) (by kernel_rfl) (hK _ _ ?_)))
  obtain ⟨fx, q⟩ := set67 g2 1 (.int .u16 a2)
  replace fx : (v2.setCell ⟨xb, 1, none⟩ (.int .u16 a2)).heap[xb]? = some (.cells #[.int .u16 a1, .int .u16 a2, .int .u16 0, .slice none 0 0] 67 (0, 0)) := fx
  have E2 := D2.keep q (fun b e => ⟨.inr e, fun h => hxc (e.symm.trans h)⟩)
  have K2 := (K1.trans k2 (H := fun b => b = cb ∨ b = xb) (fun _ _ h => h) (fun _ _ h => .inl h)).trans q (H := fun b => b = cb ∨ b = xb) (fun _ _ h => h) (fun _ _ h => .inr h)
  clear q g2 D2 k2 C4 K1
  generalize v2.setCell ⟨xb, 1, none⟩ (.int .u16 a2) = u2 at *
  have hnd := need_calls u2 cb t2 (decide (a2 ≤ 9999)) 7 E2
  have cx : u2.cell? ⟨xb, 1, none⟩ = some (.int .u16 a2) := by rw [cell_of_row u2 xb 1 _ 67 (0, 0) fx]; rfl
  go_upto_region 7 with (go_at_call 150; with_reducible refine hnd.mono ?_; rintro e w5 ⟨rfl, C5, k2⟩; clear hnd)
  replace fx := k2.heap fx hxc
  replace K2 := K2.trans k2 (H := fun b => b = cb ∨ b = xb) (fun _ _ h => h) (fun _ _ h => .inl h)
  clear k2 E2 cx
  have hl3 : (t2.need (decide (a2 ≤ 9999)) 7).b.length ≤ 100000 := by rw [St.need_b]; omega
  generalize hs : t2.need (decide (a2 ≤ 9999)) 7 = s3 at *
  have HN2 : Aside0 _ := ⟨hs⟩
  clear hs hle
  have hwd := word_calls w5 cb s3 C5 hl3
  have hle := s3.word_le
  generalize hs : s3.word = p at *
  obtain ⟨a3, t3⟩ := p
  simp only at *
  have HW3 : Aside0 _ := ⟨hs⟩
  clear hs
  go_upto_region 8 with (first
    | (go_at_call 160; with_reducible refine hwd.mono ?_; rintro e v3 ⟨rfl, D3, k3⟩; have g3 := k3.heap fx hxc; clear hwd)
    | (refine wpList_plain rfl fun _ hK => wp_store_cell 27 (.tmp 27) (.tmp 26) rfl xb 2 (.int .u16 a3) rfl rfl rfl 67 #[.int .u16 a1, .int .u16 a2, .int .u16 0, .slice none 0 0] g3 (show 2 < 4 by decide) (by kernel_rfl) (hK _ _ ?_)))
  obtain ⟨fx, q⟩ := set67 g3 2 (.int .u16 a3)
  replace fx : (v3.setCell ⟨xb, 2, none⟩ (.int .u16 a3)).heap[xb]? = some (.cells #[.int .u16 a1, .int .u16 a2, .int .u16 a3, .slice none 0 0] 67 (0, 0)) := fx
  have E3 := D3.keep q (fun b e => ⟨.inr e, fun h => hxc (e.symm.trans h)⟩)
  have K3 := (K2.trans k3 (H := fun b => b = cb ∨ b = xb) (fun _ _ h => h) (fun _ _ h => .inl h)).trans q (H := fun b => b = cb ∨ b = xb) (fun _ _ h => h) (fun _ _ h => .inr h)
  clear q g3 D3 k3 C5 K2
  generalize v3.setCell ⟨xb, 2, none⟩ (.int .u16 a3) = u3 at *
  have hnd := need_calls u3 cb t3 (a3 != 0) 5 E3
  have cx : u3.cell? ⟨xb, 2, none⟩ = some (.int .u16 a3) := by rw [cell_of_row u3 xb 2 _ 67 (0, 0) fx]; rfl
  go_upto_region 9 with (go_at_call 150; with_reducible refine hnd.mono ?_; rintro e w6 ⟨rfl, C6, k3⟩; clear hnd)
  replace fx := k3.heap fx hxc
  replace K3 := K3.trans k3 (H := fun b => b = cb ∨ b = xb) (fun _ _ h => h) (fun _ _ h => .inl h)
  clear k3 E3 cx
  have hl4 : (t3.need (a3 != 0) 5).b.length ≤ 100000 := by rw [St.need_b]; omega
  generalize hs : t3.need (a3 != 0) 5 = s4 at *
  have HN3 : Aside0 _ := ⟨hs⟩
  clear hs hle
  have fr := f3' _ K3
  have KK := K0'.trans K3 (H := fun b => b = cb ∨ b = xb) (fun _ _ h => h) (fun _ _ h => h)
  have hone : (r67 a1 a2 a3 (.slice none 0 0)).toArray.all (·.oneCell') = true := by kernel_rfl
  have R1 : Kept w6 (w6.setRow rb (r67 a1 a2 a3 (.slice none 0 0)).toArray) (fun b => b = rb) := Kept.setRow w6 rb _ rfl
  have FIN : Aside0 (Cur (w6.setRow rb (r67 a1 a2 a3 (.slice none 0 0)).toArray) G cb s4 ∧ Kept w (w6.setRow rb (r67 a1 a2 a3 (.slice none 0 0)).toArray) (fun b => b = cb)) :=
    ⟨(C6.keep R1 (fun b e => ⟨.inl (.inr e), fun h => hrc (e.symm.trans h)⟩)).less (fun _ h => .inl (.inl h)) HG.out.1, (KK.trans R1 (H := fun b => b = cb) (fun b hb h => h.elim id fun e => by omega) (fun b hb (e : b = rb) => by have := HRB.out; omega))⟩
  clear R1 KK K3 C6 f3 f3' K0'
  go_wp2_with (first
    | (refine wpList_load_row rfl 67 (.tmp 3) rfl xb rfl 67 (r67 a1 a2 a3 (.slice none 0 0)).toArray (0, 0) _ fx Tryz.underlying67 rfl (size67 _ rfl) ?_)
    | (refine wpList_store_row rfl 67 (.tmp 2) (.tmp 33) rfl rb (r67 a1 a2 a3 (.slice none 0 0)).toArray rfl rfl 67 (r67 0 0 0 (.slice none 0 0)).toArray fr (size67 _ rfl) rfl hone ?_))
  refine bodyPost_ret (results_cell_row (p := 2) (ty := 67) Tryz.results188 _ _ rb 67 (r67 a1 a2 a3 (.slice none 0 0)).toArray (0, 0) _ rfl (setRow_heap _ _ _ _ 67 _ fr) Tryz.underlying67 rfl (size67 _ rfl)) rfl ?_
  rw [← HR.out]
  exact ⟨rfl, FIN.out⟩
theorem headS_le (s : St) : (headS s).2.b.length ≤ s.b.length := by
  unfold headS
  simp only
  rw [St.need_b]
  refine Nat.le_trans (St.word_le _) ?_
  rw [St.need_b]
  refine Nat.le_trans (St.word_le _) ?_
  rw [St.need_b]
  refine Nat.le_trans (St.word_le _) ?_
  rw [St.need_b]
  exact byte_b s
theorem headS_c (s : St) : 0 ≤ (headS s).1.2.2 ∧ (headS s).1.2.2 < 65536 := St.word_lt _
def askedS (s : St) (n : Int) : S67 × St × Int :=
  let m := wrap64 (n + (2 + 2 * (headS s).1.2.2))
  (⟨(headS s).1.1, (headS s).1.2.1, (headS s).1.2.2, []⟩, (headS s).2.need (decide (m ≤ 245)) 5, m)
set_option maxHeartbeats 1000000 in
set_option maxRecDepth 1000000 in
theorem asked_calls (w : World) (G : Nat → Prop) (cb sb : Nat) (s : St) (n : Int) (h : Cur w G cb s) (hl : s.b.length ≤ 100000) (hs : w.heap[sb]? = some (.cells #[.int .i64 n] 3 (0, 0))) (hG : G sb) (hne : sb ≠ cb) : Calls Tryz.prog 187 #[(.pointer (some ⟨cb, 0, none⟩)), (.pointer (some ⟨sb, 0, none⟩))] w fun r w' =>
    r = .returned (.agg (r67 (askedS s n).1.f0 (askedS s n).1.f1 (askedS s n).1.f2 (.slice none 0 0)).toArray) ∧ Cur w' G cb (askedS s n).2.1 ∧ w'.heap[sb]? = some (.cells #[.int .i64 (askedS s n).2.2] 3 (0, 0)) ∧ Kept w w' (fun b => b = cb ∨ b = sb) := by
  have hz := zero67
  have f0 := heap_alloc_new w (.cells (r67 0 0 0 (.slice none 0 0)).toArray 67)
  have q0 := Kept.alloc w (.cells (r67 0 0 0 (.slice none 0 0)).toArray 67) (fun _ => False)
  have C0 := h.grow (xb := w.heap.size) q0 (Nat.le_refl _) (by rw [asz]; omega)
  have hs0 := q0.heap hs (fun h => h)
  obtain ⟨r0, hr0⟩ : ∃ r0, askedS s n = r0 := ⟨_, rfl⟩
  rw [hr0]
  unfold askedS at hr0
  have HG : Aside0 _ := ⟨And.intro h.hot h.low⟩
  have HG2 : Aside0 _ := ⟨hG⟩
  have hd := headS_le s
  have hcz := headS_c s
  generalize hp : headS s = p at *
  obtain ⟨⟨a, b, c⟩, s1⟩ := p
  simp only at *
  have hh := head_calls _ _ cb s C0 hl
  rw [hp] at hh
  simp only at hh
  have HR : Aside0 _ := ⟨hr0⟩
  clear hr0 h hp hs hG
  go_enter Tryz.func187, Tryz.ntmps187
  go_upto_region 1 with fail
  generalize w.alloc (.cells (r67 0 0 0 (.slice none 0 0)).toArray 67) = w0 at *
  generalize hrb : w.heap.size = rb at *
  have HRB : Aside0 _ := ⟨hrb⟩
  have hrc : ¬ rb = cb := by have := HG.out.2 cb HG.out.1; omega
  have hrs : ¬ rb = sb := by have := HG.out.2 sb HG2.out; omega
  clear hrb
  go_upto_region 2 with (first
    | (go_at_call 188; with_reducible refine hh.mono ?_; rintro e w1 ⟨rfl, C1, k1⟩; have N1 := new_row w1 (r67 0 0 0 (.slice none 0 0)).toArray (r67 a b c (.slice none 0 0)).toArray 67)
    | (refine wpList_store_rowTo rfl 67 (.tmp 4) (.tmp 6) rfl rfl w1.heap.size (r67 a b c (.slice none 0 0)).toArray rfl rfl 67 (r67 0 0 0 (.slice none 0 0)).toArray (heap_alloc_new _ _) (size67 _ rfl) rfl (by kernel_rfl) ?_))
  obtain ⟨fx, k2⟩ := N1
  have k12 := k1.trans k2 (H := fun b => b = cb) (fun _ _ h => h) (fun _ _ h => h.elim)
  have C2 := C1.keep0 k2
  have hs2 := k12.heap hs0 (fun h => hne h)
  have f2 := k12.heap f0 hrc
  have hxc : ¬ w1.heap.size = cb := by have := C1.low cb C1.hot; omega
  have hxr : ¬ rb = w1.heap.size := by have := C1.low rb (.inr rfl); omega
  have hxs : ¬ sb = w1.heap.size := by have := C1.low sb (.inl HG2.out); omega
  have K2 := q0.trans k12 (H := fun b => b = cb) (fun _ _ h => h.elim) (fun _ _ h => h)
  clear hh k1 k2 k12 f0 C1 C0 q0 hs0
  generalize (w1.alloc (.cells (r67 0 0 0 (.slice none 0 0)).toArray 67)).setRow w1.heap.size (r67 a b c (.slice none 0 0)).toArray = w2 at *
  generalize w1.heap.size = xb at *
  have c2 : w2.cell? ⟨xb, 2, none⟩ = some (.int .u16 c) := by rw [cell_of_row w2 xb 2 _ 67 (0, 0) fx]; rfl
  have cs0 : w2.cell? ⟨sb, 0, none⟩ = some (.int .i64 n) := by rw [cell_of_row w2 sb 0 _ 3 (0, 0) hs2]; rfl
  go_upto_region 3 with (refine wpList_plain rfl fun _ hK => wp_store_cell 3 (.tmp 1) (.tmp 13) rfl sb 0 (.int .i64 (wrap64 (n + (2 + 2 * c)))) rfl rfl rfl 3 _ hs2 (show 0 < 1 by decide) (by kernel_rfl) (hK _ _ ?_))
  have hs3 := setCell_row (i := 0) (v := .int .i64 (wrap64 (n + (2 + 2 * c)))) hs2
  replace hs3 : (w2.setCell ⟨sb, 0, none⟩ (.int .i64 (wrap64 (n + (2 + 2 * c))))).heap[sb]? = some (.cells #[.int .i64 (wrap64 (n + (2 + 2 * c)))] 3 (0, 0)) := hs3
  have q3 := Kept.setCell w2 sb 0 (.int .i64 (wrap64 (n + (2 + 2 * c)))) (F := fun b => b = sb) rfl
  have C3 := C2.keep q3 (fun b e => ⟨.inl (e ▸ HG2.out), fun h => hne (e.symm.trans h)⟩)
  have f3 := q3.heap f2 hrs
  have x3 := q3.heap fx (fun e => hxs e.symm)
  have K3 := K2.trans q3 (H := fun b => b = cb ∨ b = sb) (fun _ _ h => .inl h) (fun _ _ h => .inr h)
  clear q3 f2 fx K2 C2 hs2 c2 cs0
  generalize wrap64 (n + (2 + 2 * c)) = m at *
  generalize w2.setCell ⟨sb, 0, none⟩ (.int .i64 m) = w3 at *
  have cs3 : w3.cell? ⟨sb, 0, none⟩ = some (.int .i64 m) := by rw [cell_of_row w3 sb 0 _ 3 (0, 0) hs3]; rfl
  have hnd := need_calls w3 cb s1 (decide (m ≤ 245)) 5 C3
  go_upto_region 4 with (go_at_call 150; with_reducible refine hnd.mono ?_; rintro e w4 ⟨rfl, C4, k4⟩; clear hnd)
  have hs4 := k4.heap hs3 (fun h => hne h)
  have f4 := k4.heap f3 hrc
  have x4 := k4.heap x3 hxc
  have K4 := K3.trans k4 (H := fun b => b = cb ∨ b = sb) (fun _ _ h => h) (fun _ _ h => .inl h)
  clear hs3 f3 x3 k4 K3 C3 cs3
  have R1 : Kept w4 (w4.setRow rb (r67 a b c (.slice none 0 0)).toArray) (fun b => b = rb) := Kept.setRow w4 rb _ rfl
  have FIN : Aside0 (Cur (w4.setRow rb (r67 a b c (.slice none 0 0)).toArray) G cb (s1.need (decide (m ≤ 245)) 5) ∧ (w4.setRow rb (r67 a b c (.slice none 0 0)).toArray).heap[sb]? = some (.cells #[.int .i64 m] 3 (0, 0)) ∧ Kept w (w4.setRow rb (r67 a b c (.slice none 0 0)).toArray) (fun b => b = cb ∨ b = sb)) :=
    ⟨(C4.keep R1 (fun b e => ⟨.inr e, fun h => hrc (e.symm.trans h)⟩)).less (fun _ h => .inl h) HG.out.1, R1.heap hs4 (fun h => hrs h.symm), K4.trans R1 (fun _ _ h => h) (fun b hb (e : b = rb) => by have := HRB.out; omega)⟩
  have hone : (r67 a b c (.slice none 0 0)).toArray.all (·.oneCell') = true := by kernel_rfl
  clear R1 K4 C4 hs4
  go_wp2_with (first
    | (refine wpList_load_row rfl 67 (.tmp 4) rfl xb rfl 67 (r67 a b c (.slice none 0 0)).toArray (0, 0) _ x4 Tryz.underlying67 rfl (size67 _ rfl) ?_)
    | (refine wpList_store_row rfl 67 (.tmp 3) (.tmp 18) rfl rb (r67 a b c (.slice none 0 0)).toArray rfl rfl 67 (r67 0 0 0 (.slice none 0 0)).toArray f4 (size67 _ rfl) rfl hone ?_))
  refine bodyPost_ret (results_cell_row (p := 3) (ty := 67) Tryz.results187 _ _ rb 67 (r67 a b c (.slice none 0 0)).toArray (0, 0) _ rfl (setRow_heap _ _ _ _ 67 _ f4) Tryz.underlying67 rfl (size67 _ rfl)) rfl ?_
  rw [← HR.out]
  exact ⟨rfl, FIN.out⟩
def writtenS (s : St) : S67 × St :=
  let s2 := (headS s).2.need (decide (IntKind.i64.wrap (2 * IntKind.i64.wrap (headS s).1.2.2) ≤ ((headS s).2.b.length : Int))) 5
  (⟨(headS s).1.1, (headS s).1.2.1, (headS s).1.2.2, (s2.words (headS s).1.2.2).1⟩, (s2.words (headS s).1.2.2).2)
set_option maxHeartbeats 1000000 in
set_option maxRecDepth 1000000 in
theorem written_calls (w : World) (G : Nat → Prop) (cb : Nat) (s : St) (h : Cur w G cb s) (hl : s.b.length ≤ 100000) : Calls Tryz.prog 193 #[(.pointer (some ⟨cb, 0, none⟩))] w fun r w' =>
    ∃ A cp, r = .returned (.agg (r67 (writtenS s).1.f0 (writtenS s).1.f1 (writtenS s).1.f2 (.slice A (writtenS s).1.f3.length cp)).toArray) ∧ Stay .u16 w' G (.slice A (writtenS s).1.f3.length cp) (writtenS s).1.f3 ∧ Cur w' G cb (writtenS s).2 ∧ Kept w w' (fun b => b = cb) := by
  have hz := zero67
  have f0 := heap_alloc_new w (.cells (r67 0 0 0 (.slice none 0 0)).toArray 67)
  have q0 := Kept.alloc w (.cells (r67 0 0 0 (.slice none 0 0)).toArray 67) (fun _ => False)
  have C0 := h.grow (xb := w.heap.size) q0 (Nat.le_refl _) (by rw [asz]; omega)
  obtain ⟨r0, hr0⟩ : ∃ r0, writtenS s = r0 := ⟨_, rfl⟩
  rw [hr0]
  unfold writtenS at hr0
  have HG : Aside0 _ := ⟨And.intro h.hot h.low⟩
  have hd := headS_le s
  have hcz := headS_c s
  generalize hp : headS s = p at *
  obtain ⟨⟨a, b, c⟩, s1⟩ := p
  simp only at *
  have hh := head_calls _ _ cb s C0 hl
  rw [hp] at hh
  simp only at hh
  have HR : Aside0 _ := ⟨hr0⟩
  clear hr0 h hp
  go_enter Tryz.func193, Tryz.ntmps193
  go_upto_region 1 with fail
  generalize w.alloc (.cells (r67 0 0 0 (.slice none 0 0)).toArray 67) = w0 at *
  generalize hrb : w.heap.size = rb at *
  have HRB : Aside0 _ := ⟨hrb⟩
  have hrc : ¬ rb = cb := by have := HG.out.2 cb HG.out.1; omega
  clear hrb
  go_upto_region 2 with (first
    | (go_at_call 188; with_reducible refine hh.mono ?_; rintro e w1 ⟨rfl, C1, k1⟩; have N1 := new_row w1 (r67 0 0 0 (.slice none 0 0)).toArray (r67 a b c (.slice none 0 0)).toArray 67)
    | (refine wpList_store_rowTo rfl 67 (.tmp 3) (.tmp 5) rfl rfl w1.heap.size (r67 a b c (.slice none 0 0)).toArray rfl rfl 67 (r67 0 0 0 (.slice none 0 0)).toArray (heap_alloc_new _ _) (size67 _ rfl) rfl (by kernel_rfl) ?_))
  obtain ⟨fx, k2⟩ := N1
  have k12 := k1.trans k2 (H := fun b => b = cb) (fun _ _ h => h) (fun _ _ h => h.elim)
  have C2 := C1.grow (xb := w1.heap.size) k2 (Nat.le_refl _) (heap_lt fx)
  have f2 := k12.heap f0 hrc
  have hxc : ¬ w1.heap.size = cb := by have := C1.low cb C1.hot; omega
  have hxr : ¬ rb = w1.heap.size := by have := C1.low rb (.inr rfl); omega
  have K2 := q0.trans k12 (H := fun b => b = cb) (fun _ _ h => h.elim) (fun _ _ h => h)
  have hwx : w.heap.size ≤ w1.heap.size := by have := q0.size; have := k1.size; omega
  clear hh k1 k2 k12 f0 C1 C0 q0
  generalize (w1.alloc (.cells (r67 0 0 0 (.slice none 0 0)).toArray 67)).setRow w1.heap.size (r67 a b c (.slice none 0 0)).toArray = w2 at *
  generalize w1.heap.size = xb at *
  have SS : w2.drew.cell? ⟨xb, 2, none⟩ = some (.int .u16 c) := by rw [(Kept.drew w2 (fun _ => False)).cell (v := .int .u16 c)]; rw [cell_of_row w2 xb 2 _ 67 (0, 0) fx]; rfl
  have CD := C2.keep0 (Kept.drew w2 _)
  generalize hk : s1.b.length = k at *
  have HK : Aside0 _ := ⟨hk⟩
  have hkz : (k : Int) ≤ 100000 := by omega
  refine st 9 (fun w' => w'.cell? ⟨xb, 2, none⟩ = some (.int .u16 c)) [8] SS ?_
  refine pu 0 (some 6) (mk 9 1) ?_
  refine pu 1 (some 7) (mk 9 3) ?_
  refine ld 2 (some 8) (mk 9 7) SS ?_
  refine pu 3 (some 9) (mk 9 15) ?_
  refine pu 4 (some 10) (mk 9 31) ?_
  refine pu 5 (some 11) (mk 9 63) ?_
  refine cl 6 (some 12) (mk 9 127) Tryz.func155 (args := #[(.pointer (some ⟨cb, 0, none⟩))]) (left_calls _ cb s1 CD) ?_
  rintro e w3 ⟨rfl, rfl⟩
  rw [hk]
  refine ⟨_, rfl, SS, nm ?_⟩
  refine pu 7 (some 13) (mk 9 255) ?_
  refine cll 8 (some 14) (mk 9 511) Tryz.func150 (args := #[(.pointer (some ⟨cb, 0, none⟩)), .bool (decide (IntKind.i64.wrap (2 * IntKind.i64.wrap c) ≤ (k : Int))), .int .i64 5]) (need_calls _ cb s1 (decide (IntKind.i64.wrap (2 * IntKind.i64.wrap c) ≤ (k : Int))) 5 CD) ?_
  rintro e w4 ⟨rfl, C4, k4⟩
  refine ⟨_, rfl, nm ?_⟩
  refine done_ (by kernel_rfl) ?_
  replace fx := k4.heap (show w2.drew.heap[xb]? = _ from fx) hxc
  replace f2 := k4.heap (show w2.drew.heap[rb]? = _ from f2) hrc
  have K4 := (K2.trans (Kept.drew w2 (fun _ => False)) (H := fun b => b = cb) (fun _ _ h => h) (fun _ _ h => h.elim)).trans k4 (H := fun b => b = cb) (fun _ _ h => h) (fun _ _ h => h)
  have hl2 : (s1.need (decide (IntKind.i64.wrap (2 * IntKind.i64.wrap c) ≤ (k : Int))) 5).b.length ≤ 100000 := by rw [St.need_b, HK.out]; omega
  clear SS CD C2 K2 k4 hkz
  generalize s1.need (decide (IntKind.i64.wrap (2 * IntKind.i64.wrap c) ≤ (k : Int))) 5 = s2 at *
  have hwd := words_calls w4 cb s2 c C4 hl2
  have c2 : w4.cell? ⟨xb, 2, none⟩ = some (.int .u16 c) := by rw [cell_of_row w4 xb 2 _ 67 (0, 0) fx]; rfl
  generalize hp : s2.words c = p at *
  obtain ⟨l, s3⟩ := p
  simp only at *
  have HP : Aside0 _ := ⟨hp⟩
  clear hp C4
  obtain ⟨n, hn⟩ : ∃ n, l.length = n := ⟨_, rfl⟩
  rw [hn] at hwd
  have HN : Aside0 _ := ⟨hn⟩
  clear hn
  go_upto_region 4 with (first
    | (go_at_call 176; with_reducible refine hwd.mono ?_; rintro e w5 ⟨A, cp, rfl, hS, C5, k5⟩; have g5 := k5.heap fx hxc; clear hwd)
    | (refine wpList_plain rfl fun _ hK => wp_store_cell 30 (.tmp 20) (.tmp 19) rfl xb 3 (.slice A n cp) rfl rfl rfl 67 (r67 a b c (.slice none 0 0)).toArray g5 (show 3 < 4 by decide) (by kernel_rfl) (hK _ _ ?_)))
  have f5 := k5.heap f2 hrc
  obtain ⟨fy, q⟩ := set67 g5 3 (.slice A n cp)
  replace fy : (w5.setCell ⟨xb, 3, none⟩ (.slice A n cp)).heap[xb]? = some (.cells (r67 a b c (.slice A n cp)).toArray 67 (0, 0)) := fy
  have f6 := q.heap f5 (show ¬ rb = xb from hxr)
  have K6 := (K4.trans k5 (H := fun b => b = cb ∨ b = xb) (fun _ _ h => .inl h) (fun _ _ h => .inl h)).trans q (H := fun b => b = cb ∨ b = xb) (fun _ _ h => h) (fun _ _ h => .inr h)
  have C6 := C5.keep q (fun b e => ⟨.inr e, fun h => hxc (e.symm.trans h)⟩)
  have S6 := hS.next q (fun b e => .inr e)
  clear hS q g5 fx f2 f5 k5 K4 C5
  generalize w5.setCell ⟨xb, 3, none⟩ (.slice A n cp) = w6 at *
  have R1 : Kept w6 (w6.setRow rb (r67 a b c (.slice A n cp)).toArray) (fun b => b = rb) := Kept.setRow w6 rb _ rfl
  have FIN : Aside0 (Stay .u16 (w6.setRow rb (r67 a b c (.slice A n cp)).toArray) G (.slice A n cp) l ∧ Cur (w6.setRow rb (r67 a b c (.slice A n cp)).toArray) G cb s3 ∧ Kept w (w6.setRow rb (r67 a b c (.slice A n cp)).toArray) (fun b => b = cb)) :=
    ⟨fun W qq => S6 W (R1.trans qq (fun b _ e => .inl (.inr e)) (fun b _ g => .inl (.inl g))), (C6.keep R1 (fun b e => ⟨.inl (.inr e), fun h => hrc (e.symm.trans h)⟩)).less (fun _ h => .inl (.inl h)) HG.out.1, (K6.trans R1 (H := fun b => b = cb) (fun b hb h => h.elim id fun e => by omega) (fun b hb (e : b = rb) => by have := HRB.out; omega))⟩
  have hone : (r67 a b c (.slice A n cp)).toArray.all (·.oneCell') = true := by simp [r67, Value.oneCell']
  clear R1 K6 C6 S6
  go_wp2_with (first
    | (refine wpList_load_row rfl 67 (.tmp 3) rfl xb rfl 67 (r67 a b c (.slice A n cp)).toArray (0, 0) _ fy Tryz.underlying67 rfl (size67 _ rfl) ?_)
    | (refine wpList_store_row rfl 67 (.tmp 2) (.tmp 21) rfl rb (r67 a b c (.slice A n cp)).toArray rfl rfl 67 (r67 0 0 0 (.slice none 0 0)).toArray f6 (size67 _ rfl) rfl hone ?_))
  refine bodyPost_ret (results_cell_row (p := 2) (ty := 67) Tryz.results193 _ _ rb 67 (r67 a b c (.slice A n cp)).toArray (0, 0) _ rfl (setRow_heap _ _ _ _ 67 _ f6) Tryz.underlying67 rfl (size67 _ rfl)) rfl ?_
  rw [← HR.out]
  simp only
  rw [HN.out]
  exact ⟨A, cp, rfl, FIN.out⟩
end Go.Proofs.YtmbjlondehcheaaGreatDoor
end
section
set_option linter.unusedSimpArgs false
set_option linter.unusedVariables false
namespace Go.Proofs.YtmbjlondehcheaaGreatDoor
open Go.Shelf Go.RowKit Go.Lib Go.Sort Go.Proofs.YtmbjlondehcheaaGreatDoorW.PrintWords Go.Proofs.YtmbjlondehcheaaGreatDoorW.PrintLast Go.Proofs.YtmbjlondehcheaaGreatDoor.PTopTalk
def fullF (step : St → Int → S67 × St × Int) : Nat → List S67 → St → Int → List S67 × St × Int
  | 0, pre, s, n => (pre, s, n)
  | k + 1, pre, s, n => if 0 < s.b.length ∧ s.e = 0 then (if (step s n).2.1.e = 0 then fullF step k (pre ++ [(step s n).1]) (step s n).2.1 (step s n).2.2 else (pre, (step s n).2.1, (step s n).2.2)) else (pre, s, n)
theorem fullF_stop (step : St → Int → S67 × St × Int) (k : Nat) (pre : List S67) (s : St) (n : Int) (h : ¬ (0 < s.b.length ∧ s.e = 0)) : fullF step k pre s n = (pre, s, n) := by
  cases k with
  | zero => rfl
  | succ k => rw [fullF, if_neg h]
theorem list4 {α : Type} (l : List α) (h : l.length = 4) : ∃ a b c d, l = [a, b, c, d] := by
  match l, h with
  | [a, b, c, d], _ => exact ⟨a, b, c, d, rfl⟩
set_option maxHeartbeats 1000000 in
set_option maxRecDepth 1000000 in
theorem full_calls (l m : Nat) (g : FuncId) (cpt : Array Value) (eg : ∀ args w, (callFunc g args).run Tryz.prog w = .ok (.enter g args) w) (cb b1 b2 : Nat) (step : St → Int → S67 × St × Int)
    (J : List S67 → St → Int → World → Prop) (J' : List S67 → S67 → List Value → St → Int → World → Prop)
    (hBox : ∀ pre s n W, J pre s n W → W.cell? ⟨b1, 0, none⟩ = some (.pointer (some ⟨cb, 0, none⟩)) ∧ W.cell? ⟨b2, 0, none⟩ = some (.func (.func g) #[] cpt) ∧ (∃ G, Cur W G cb s) ∧ s.b.length ≤ 100000)
    (hOne : ∀ pre s n W, J pre s n W → 0 < s.b.length → s.e = 0 → Calls Tryz.prog g (#[(.pointer (some ⟨cb, 0, none⟩))] ++ cpt) W fun r W' => ∃ cs, r = .returned (.agg cs.toArray) ∧ cs.length = 4 ∧ cs.toArray.all (·.oneCell') = true ∧ J' pre (step s n).1 cs (step s n).2.1 (step s n).2.2 W')
    (hKeep : ∀ pre x cs s n W W', J' pre x cs s n W → Kept W W' (fun _ => False) → J' pre x cs s n W')
    (hDrop : ∀ pre x cs s n W, J' pre x cs s n W → J pre s n W)
    (hdec : ∀ s n, 0 < s.b.length → s.e = 0 → (step s n).2.1.e = 0 → (step s n).2.1.b.length < s.b.length)
    (hY : ∀ pre x cs s n W, J' pre x cs s n W → s.e = 0 → YieldAt Fence.wide m Tryz.prog l #[.agg cs.toArray] W fun e W' => e = .returned (.bool true) ∧ J (pre ++ [x]) s n W')
    (s0 : St) (n0 : Int) (W : World) (h0 : J [] s0 n0 W) :
    Calls Tryz.prog 194 #[.func (.yield l) #[] #[], (.pointer (some ⟨b1, 0, none⟩)), (.pointer (some ⟨b2, 0, none⟩))] W fun e W' => (∃ v, e = .returned v) ∧ J (fullF step s0.b.length [] s0 n0).1 (fullF step s0.b.length [] s0 n0).2.1 (fullF step s0.b.length [] s0 n0).2.2 W' := by
  obtain ⟨R, hR⟩ : ∃ R, fullF step s0.b.length [] s0 n0 = R := ⟨_, rfl⟩
  rw [hR]
  have HS : Aside0 _ := ⟨And.intro hR h0⟩
  clear hR h0
  go_enter Tryz.func194, Tryz.ntmps194
  go_wp2
  go_loopg [] s0.b.length (fun kx wr => ∃ pre s n, Aside0 (J pre s n wr) ∧ s.b.length ≤ kx ∧ fullF step kx pre s n = R)
  case atStart => exact ⟨[], s0, n0, ⟨HS.out.2⟩, Nat.le_refl _, HS.out.1⟩
  case round =>
    obtain ⟨pre, s, n, HJ, hk, hF⟩ := hrel
    obtain ⟨c1, c2, ⟨G, hC⟩, hl⟩ := hBox _ _ _ _ HJ.out
    have hlf := left_calls wr cb s hC
    have her := err_calls wr cb s hC
    by_cases hgo : 0 < s.b.length ∧ s.e = 0
    · obtain ⟨hp, he⟩ := hgo
      rw [he] at her
      have hz : (0 : Int) < (s.b.length : Int) := by omega
      have h1 := hOne _ _ _ _ HJ.out hp he
      generalize hkk : s.b.length = kk at *
      go_upto_region 1 with (first
        | (go_at_call 155; with_reducible refine hlf.mono ?_; rintro e w1 ⟨rfl, rfl⟩)
        | (go_at_call 140; with_reducible refine her.mono ?_; rintro e w1 ⟨rfl, rfl⟩))
      clear hlf her hC
      have hz7 := zero67
      go_upto_region 2 with (first
        | (with_reducible refine h1.mono ?_; rintro e w2 ⟨cs, rfl, hcs, hone, HJ'⟩; have N2 := new_row w2 (r67 0 0 0 (.slice none 0 0)).toArray cs.toArray 67)
        | (refine wpList_store_rowTo rfl 67 (.tmp 4) (.tmp 15) rfl rfl w2.heap.size cs.toArray rfl rfl 67 (r67 0 0 0 (.slice none 0 0)).toArray (heap_alloc_new _ _) (size67 _ hcs) (by simp [hcs]) hone ?_))
      obtain ⟨f2, k2⟩ := N2
      have HJ3 := hKeep _ _ _ _ _ _ _ HJ' k2
      clear HJ' k2 c1 c2 h1
      generalize (w2.alloc (.cells (r67 0 0 0 (.slice none 0 0)).toArray 67)).setRow w2.heap.size cs.toArray = w3 at *
      generalize w2.heap.size = tb at *
      have hd := hdec s n (by omega) he
      have hstep : fullF step gk pre s n = if (step s n).2.1.e = 0 then fullF step (gk - 1) (pre ++ [(step s n).1]) (step s n).2.1 (step s n).2.2 else (pre, (step s n).2.1, (step s n).2.2) := by
        obtain ⟨k, rfl⟩ : ∃ k, gk = k + 1 := ⟨gk - 1, by omega⟩
        rw [fullF, if_pos ⟨by omega, he⟩]
        rfl
      rw [hF] at hstep
      generalize hst : step s n = p at *
      obtain ⟨x, s', n'⟩ := p
      simp only at *
      obtain ⟨c1, c2, ⟨G2, hC2⟩, hl2⟩ := hBox _ _ _ _ (hDrop _ _ _ _ _ _ HJ3)
      have her := err_calls w3 cb s' hC2
      by_cases he' : s'.e = 0
      · rw [he'] at her
        obtain ⟨fn, tmps, assign, body, hy, hRd⟩ := hY _ _ _ _ _ _ HJ3 he'
        obtain ⟨d0, d1, d2, d3, rfl⟩ := list4 cs hcs
        have e0 : w3.cell? ⟨tb, 0, none⟩ = some d0 := by rw [cell_of_row w3 tb 0 _ 67 (0, 0) f2]; rfl
        have e1 : w3.cell? ⟨tb, 1, none⟩ = some d1 := by rw [cell_of_row w3 tb 1 _ 67 (0, 0) f2]; rfl
        have e2 : w3.cell? ⟨tb, 2, none⟩ = some d2 := by rw [cell_of_row w3 tb 2 _ 67 (0, 0) f2]; rfl
        have e3 : w3.cell? ⟨tb, 3, none⟩ = some d3 := by rw [cell_of_row w3 tb 3 _ 67 (0, 0) f2]; rfl
        rw [if_pos he'] at hstep
        clear hst hC2 c2 f2 hone
        refine (wpIn_wide (n := m + 1)).1 ?_
        refine wpIn_region_lit ?_
        gi_wp2_with (refine ⟨trivial, ?_⟩; gi_at_call 140; refine (callsIn_wide.2 her).mono ?_; rintro e w4 ⟨rfl, rfl⟩; clear her)
        refine hRd.mono ?_
        rintro e w5 ⟨rfl, HJ5⟩
        have H5 : Aside0 _ := ⟨HJ5⟩
        clear HJ5 hRd hy e0 e1 e2 e3 HJ3 c1
        gi_wp2
        go_wp2
        go_roundg (gk - 1)
        case measure => omega
        case rel => exact ⟨_, _, _, H5, by omega, hstep.symm⟩
      · rw [if_neg he'] at hstep
        have HE : Aside0 _ := ⟨And.intro hstep (hDrop _ _ _ _ _ _ HJ3)⟩
        have hb : (s'.e != 0) = true := by simpa using he'
        have hb2 : (s'.e == 0) = false := by simpa using he'
        generalize s'.e = e' at *
        clear hstep HJ3 hst hC2 hd
        go_wp2_with (go_at_call 140; with_reducible refine her.mono ?_; rintro e w4 ⟨rfl, rfl⟩; clear her)
        refine bodyPost_ret (results_none rfl _ _ _) rfl ?_
        rw [HE.out.1]
        exact ⟨⟨_, rfl⟩, HE.out.2⟩
    · have hE : (pre, s, n) = R := by rw [← hF, fullF_stop _ _ _ _ _ hgo]
      have HE : Aside0 _ := ⟨hE⟩
      clear hE
      by_cases h0 : s.b.length = 0
      · rw [h0] at hlf
        go_wp2_with (go_at_call 155; with_reducible refine hlf.mono ?_; rintro e w1 ⟨rfl, rfl⟩)
        go_end0
        rw [← HE.out]
        exact ⟨⟨_, rfl⟩, HJ.out⟩
      · have he : ¬ s.e = 0 := fun h => hgo ⟨by omega, h⟩
        have hz : (0 : Int) < (s.b.length : Int) := by omega
        have hb2 : (s.e == 0) = false := by simpa using he
        generalize s.b.length = kk at *
        go_wp2_with (first
          | (go_at_call 155; with_reducible refine hlf.mono ?_; rintro e w1 ⟨rfl, rfl⟩)
          | (go_at_call 140; with_reducible refine her.mono ?_; rintro e w1 ⟨rfl, rfl⟩))
        go_end0
        rw [← HE.out]
        exact ⟨⟨_, rfl⟩, HJ.out⟩
end Go.Proofs.YtmbjlondehcheaaGreatDoor
end
section
set_option linter.unusedSimpArgs false
set_option linter.unusedVariables false
namespace Go.Proofs.YtmbjlondehcheaaGreatDoor
open Go.Shelf Go.RowKit Go.Lib Go.Sort Go.Proofs.YtmbjlondehcheaaGreatDoorW.PrintWords Go.Proofs.YtmbjlondehcheaaGreatDoorW.PrintLast Go.Proofs.YtmbjlondehcheaaGreatDoor.PTopTalk
theorem in_round {n r : Nat} {P : Program} {ops : Array Oper} {Q : Exit → Act → World → Prop} (hQ : ¬ LetsOut Q) (l : List Oper) (hd : ∀ o ∈ l, ∀ c, o.op ≠ .defer c) : ∀ (a : Act) (w : World), wpList P ops Q l a w → wpListIn (Fence.wide.inRound r) n P ops Q l a w := by
  induction l with
  | nil => exact fun a w h => h
  | cons o t ih =>
    intro a w h
    have ih' := ih (fun o ho => hd o (List.mem_cons_of_mem _ ho))
    unfold wpListIn
    unfold wpList at h
    split
    · rename_i hw
      rw [if_pos hw] at h
      rcases h with h | h
      · refine ⟨fun _ _ => trivial, ?_⟩
        rw [show (Oper.semAt (Fence.wide.inRound r).round a.eval o) = execOp a.eval o from Oper.semAt_some r _ _ (hd o (List.mem_cons_self ..))]
        unfold Oper.wp at h
        generalize (execOp a.eval o).run P w = res at h
        have no : (Fence.wide.inRound r).depth.isSome = true → 1 ≤ n := fun h => by simp [Fence.wide, Fence.inRound] at h
        match res, h with
        | .ok (.value v) w', h => exact ih' _ _ h
        | .ok .skip w', h => exact ih' _ _ h
        | .ok (.defer d) w', h => exact ih' _ _ h
        | .ok (.enter f args) w', h =>
          refine ⟨no, CallsIn.inRound r (callsIn_wide.2 (Calls.mono h fun e w2 he => ?_))⟩
          match e, he with
          | .returned v, he => exact ih' _ _ he
          | .panicked chain, he => exact he
          | .outgrown, he => exact he
        | .ok (.row row args) w', h =>
          refine ⟨no, fun c cs _ => ?_⟩
          obtain ⟨v, w2, hr, hs⟩ := h c cs
          exact ⟨v, w2, ih' _ _ hr, stepsIn_wide.2 hs⟩
        | .halt (.panic v) w', h => exact h
      · exact absurd h.2 hQ
    · rename_i hw
      rw [if_neg hw] at h
      exact ⟨fun _ _ => trivial, ih' _ _ h⟩
theorem region_in_round {n r id : Nat} {P : Program} {Q : Exit → Act → World → Prop} {l : List Oper} {a : Act} {w : World} (hQ : ¬ LetsOut Q) (hd : ∀ o ∈ l, ∀ c, o.op ≠ .defer c) (h : wpList P l.toArray Q l a w) : (Code.region id l.toArray false).wpIn (Fence.wide.inRound r) n P Q a w :=
  wpIn_region_lit (in_round hQ l hd a w h)
theorem app_one {ts te : TypeId} {k bytes : Nat} (ht : Tryz.prog.underlying ts = some (.slice te)) (hi : ∃ ie z, Tryz.prog.info? te = some ie ∧ ie.zero = some z ∧ ie.size = k ∧ z.cells.size = k ∧ ie.bytes = bytes) (hk : 0 < k) (hb : bytes ≤ 1000) (w : World) (ty : TypeId) (v : Value) (n : Nat) (xs : List Value) (ho : w.ownsRow 0 te k v n xs) (cs : List Value) (hcs : cs.length = k) (h1 : ∀ u ∈ cs, u.oneCell' = true) (g : Nat) (hg : w.heap[g]? = some (.cells cs.toArray te (0, 0))) (hn : n < 1000000) :
    ∃ v' w', (Builtin.append_ #[ts, ts] ty #[v, .slice (some ⟨g, 0, none⟩) 1 1]).run Tryz.prog w = .ok v' w' ∧ w'.ownsRow 0 te k v' (n + 1) (xs ++ cs) ∧ w.grownBy w' v.ownBlock ∧ (v'.ownBlock = v.ownBlock ∨ v'.ownBlock = some w.heap.size) := by
  obtain ⟨ie, z, h1', h2, h3, h4, h5⟩ := hi
  obtain ⟨v', w', q1, q2, q3, _, q5⟩ := run_append_own_at (P := Tryz.prog) w 0 ts ty te ie z k bytes ht h1' h2 h3 h5 h4 hk v n xs ho ⟨g, 0, none⟩ 1 1 cs (by omega)
    (fun j u hu => by rw [Addr.add_mid, cell_of_row w g (0 + j) _ te (0, 0) hg]; simpa using hu) h1 (by unfold maxLen; omega) (by have := Nat.mul_le_mul (show n + 1 ≤ 1000000 by omega) hb; omega) (Nat.zero_le _)
  exact ⟨v', w', q1, q2, q3, q5⟩
theorem info67 : ∃ ie z, Tryz.prog.info? 67 = some ie ∧ ie.zero = some z ∧ ie.size = 4 ∧ z.cells.size = 4 ∧ ie.bytes = 32 := by
  have h : ((Tryz.prog.info? 67).bind fun ie => ie.zero.map fun z => (ie.size, z.cells.size, ie.bytes)) = some (4, 4, 32) := by kernel_rfl
  cases hi : Tryz.prog.info? 67 with
  | none => rw [hi] at h; cases h
  | some ie =>
    rw [hi] at h
    cases hz : ie.zero with
    | none => simp [hz] at h
    | some z => simp [hz] at h; exact ⟨ie, z, rfl, hz, h.1, h.2.1, h.2.2⟩
theorem lit_67 (w : World) (cs : List Value) (h : cs.length = 4) : (Instr.buildSlice 32 1 #[(0, .agg cs.toArray)]).run Tryz.prog w = .ok (.slice (some ⟨w.heap.size, 0, none⟩) 1 1) (w.alloc (.cells cs.toArray 67)) := by
  obtain ⟨ie, z, h1, h2, h3, h4, _⟩ := info67
  exact run_lit1 w 32 67 cs ie z 4 Tryz.underlying32 h1 h2 h3 h4 h (by omega) (by omega)
structure Recs (w : World) (G : Nat → Prop) (v : Value) (ps : List (S67 × List Value)) : Prop where
  row : w.ownsRow 0 67 4 v ps.length (ps.flatMap Prod.snd)
  each : ∀ p ∈ ps, p.2.length = 4 ∧ ∀ W, Kept w W G → k67.K W p.1 p.2
theorem Recs.nil (w : World) (G : Nat → Prop) : Recs w G (.slice none 0 0) [] := ⟨World.ownsRow_nil _ _ _ _, fun _ h => by cases h⟩
theorem Recs.keep {w w' : World} {G F : Nat → Prop} {v : Value} {ps : List (S67 × List Value)} (h : Recs w G v ps) (q : Kept w w' F) (hF : ∀ b, F b → G b) (hv : ∀ b, v.ownBlock = some b → ¬ F b) : Recs w' G v ps :=
  ⟨q.owns h.row hv, fun p hp => ⟨(h.each p hp).1, fun W k => (h.each p hp).2 W (q.trans k (fun b _ f => hF b f) (fun _ _ g => g))⟩⟩
theorem flat4 : ∀ (ps : List (S67 × List Value)), (∀ p ∈ ps, p.2.length = 4) → ∀ j (p : S67 × List Value), ps[j]? = some p → ∀ i u, p.2[i]? = some u → (ps.flatMap Prod.snd)[j * 4 + i]? = some u
  | [], _, j, p, h, _, _, _ => by simp at h
  | a :: t, hl, 0, p, h, i, u, hu => by
    have ha := hl a (by simp)
    simp at h
    subst h
    have : i < 4 := by
      rcases Nat.lt_or_ge i 4 with h | h
      · exact h
      · rw [List.getElem?_eq_none (by omega)] at hu; cases hu
    rw [List.flatMap_cons, List.getElem?_append_left (by omega)]
    simpa using hu
  | a :: t, hl, j + 1, p, h, i, u, hu => by
    have ha := hl a (by simp)
    rw [List.flatMap_cons, List.getElem?_append_right (by omega), ha, show (j + 1) * 4 + i - 4 = j * 4 + i by omega]
    exact flat4 t (fun p hp => hl p (by simp [hp])) j p (by simpa using h) i u hu
theorem Recs.reads {w : World} {G : Nat → Prop} {v : Value} {ps : List (S67 × List Value)} (h : Recs w G v ps) (hl : ps.length ≤ 1000000) : ∃ A c, v = .slice A (ps.map Prod.fst).length c ∧ (ps.map Prod.fst).length ≤ c ∧ ∀ W, Kept w W G → (∀ b, v.ownBlock = some b → W.heap[b]? = w.heap[b]?) → k67.C W A (ps.map Prod.fst).length (ps.map Prod.fst) := by
  rcases h.row.2 with ⟨rfl, h0⟩ | ⟨g, cap, cur, rfl, _, hg, hnc, hcm, hcs, htake⟩
  · obtain rfl : ps = [] := List.eq_nil_of_length_eq_zero h0
    exact ⟨none, 0, rfl, Nat.le_refl _, fun W _ _ => Kd.C_nil _ W⟩
  · refine ⟨_, cap, by rw [List.length_map], by rw [List.length_map]; exact hnc, fun W k hb => ⟨rfl, by rw [List.length_map]; omega, fun hn => ⟨_, rfl, fun j x hx => ?_⟩⟩⟩
    rw [List.getElem?_map] at hx
    obtain ⟨p, hp, rfl⟩ : ∃ p, ps[j]? = some p ∧ p.1 = x := by
      cases hq : ps[j]? with
      | none => rw [hq] at hx; simp at hx
      | some p => rw [hq] at hx; exact ⟨p, rfl, by simpa using hx⟩
    obtain ⟨h4, hK⟩ := h.each p (List.mem_of_getElem? hp)
    refine ⟨p.2, h4, hK W k, fun i u hu => ?_⟩
    have h1 := flat4 ps (fun p hp => (h.each p hp).1) j p hp i u hu
    have h2 := h.row.cells (g := g) rfl _ _ h1
    have e : (⟨g, 0, none⟩ : Addr).add (j * k67.sz + i) = ⟨g, j * 4 + i, none⟩ := by
      have : k67.sz = 4 := rfl
      rw [this, Addr.add_mid]; simp
    rw [e]
    rw [show (⟨g, 0, none⟩ : Addr).add (j * 4 + i) = ⟨g, j * 4 + i, none⟩ by rw [Addr.add_mid]; simp] at h2
    rw [← World.cell?_of_block (w := w) (w' := W) (a := ⟨g, j * 4 + i, none⟩) (hb g rfl)] at h2
    exact h2
def mayA (n : Int) : Bool := decide (7 ≤ n) && decide (n ≤ 245) && (n % 7 == 0)
def mayW (n : Int) : Bool := decide (9 ≤ n) && decide (n ≤ 251)
set_option maxRecDepth 1000000 in
theorem mayA_calls (w : World) (n : Int) : Calls Tryz.prog 189 #[.int .i64 n] w fun r w' => r = .returned (.bool (mayA n)) ∧ w' = w := by
  by_cases h1 : 7 ≤ n
  · by_cases h2 : n ≤ 245
    · have e : mayA n = (n % 7 == 0) := by simp [mayA, h1, h2]
      rw [e]
      go_enter Tryz.func189, Tryz.ntmps189
      go_wp2
      go_ret
      exact ⟨rfl, rfl⟩
    · have e : mayA n = false := by simp [mayA, h2]
      rw [e]
      go_enter Tryz.func189, Tryz.ntmps189
      go_wp2
      go_ret
      exact ⟨rfl, rfl⟩
  · have e : mayA n = false := by simp [mayA, h1]
    rw [e]
    go_enter Tryz.func189, Tryz.ntmps189
    go_wp2
    go_ret
    exact ⟨rfl, rfl⟩
set_option maxRecDepth 1000000 in
theorem mayW_calls (w : World) (n : Int) : Calls Tryz.prog 192 #[.int .i64 n] w fun r w' => r = .returned (.bool (mayW n)) ∧ w' = w := by
  by_cases h1 : 9 ≤ n
  · have e : mayW n = decide (n ≤ 251) := by simp [mayW, h1]
    rw [e]
    go_enter Tryz.func192, Tryz.ntmps192
    go_wp2
    go_ret
    exact ⟨rfl, rfl⟩
  · have e : mayW n = false := by simp [mayW, h1]
    rw [e]
    go_enter Tryz.func192, Tryz.ntmps192
    go_wp2
    go_ret
    exact ⟨rfl, rfl⟩
def withinE (e : Int) : Int := if e = 2 then 5 else e
set_option maxRecDepth 1000000 in
theorem withinE_calls (w : World) (e : Int) : Calls Tryz.prog 153 #[.int .i64 e] w fun r w' => r = .returned (.int .i64 (withinE e)) ∧ w' = w := by
  by_cases h : e = 2
  · subst h
    go_enter Tryz.func153, Tryz.ntmps153
    go_wp2
    go_ret
    exact ⟨rfl, rfl⟩
  · have hb : (e == 2) = false := by simpa using h
    have he : withinE e = e := by simp [withinE, h]
    rw [he]
    go_enter Tryz.func153, Tryz.ntmps153
    go_wp2
    go_ret
    exact ⟨rfl, rfl⟩
set_option maxRecDepth 1000000 in
theorem full0_calls (w : World) (cb : Nat) (gf : FuncId) (cpt : Array Value) : Calls Tryz.prog 152 #[(.pointer (some ⟨cb, 0, none⟩)), .func (.func gf) #[] cpt] w fun r w' => ∃ b1 b2, r = .returned (.func (.func 194) #[] #[(.pointer (some ⟨b1, 0, none⟩)), (.pointer (some ⟨b2, 0, none⟩))]) ∧ w.heap.size ≤ b1 ∧ w.heap.size ≤ b2 ∧ w'.heap[b1]? = some (.cells #[(.pointer (some ⟨cb, 0, none⟩))] 232 (0, 0)) ∧ w'.heap[b2]? = some (.cells #[.func (.func gf) #[] cpt] 245 (0, 0)) ∧ Kept w w' (fun _ => False) := by
  have q1 := Kept.alloc w (.cells #[(.pointer (some ⟨cb, 0, none⟩))] 232) (fun _ => False)
  have f1 := heap_alloc_new w (.cells #[(.pointer (some ⟨cb, 0, none⟩))] 232)
  have q2 := Kept.alloc (w.alloc (.cells #[(.pointer (some ⟨cb, 0, none⟩))] 232)) (.cells #[.func (.func gf) #[] cpt] 245) (fun _ => False)
  have f2 := heap_alloc_new (w.alloc (.cells #[(.pointer (some ⟨cb, 0, none⟩))] 232)) (.cells #[.func (.func gf) #[] cpt] 245)
  rw [asz] at f2
  have FIN : Aside0 _ := ⟨And.intro (q2.heap f1 (fun h => h)) (And.intro f2 (q1.trans q2 (H := fun _ => False) (fun _ _ h => h) (fun _ _ h => h)))⟩
  clear q1 f1 q2 f2
  go_enter Tryz.func152, Tryz.ntmps152
  go_wp2
  go_ret
  exact ⟨_, _, rfl, Nat.le_refl _, by simp, FIN.out⟩
abbrev ruleC (fm fo : FuncId) (cpt : Array Value) : Array Value := #[.func (.func fm) #[] #[], .func (.func fo) #[] cpt]
theorem zero247 (w : World) : (zeroValue 247).run Tryz.prog w = .ok (.agg #[.nilFunc, .nilFunc]) w := by kernel_rfl
theorem size247 (a b : Value) : (Tryz.prog.info? 247).map (·.size) = some (#[a, b] : Array Value).size := by kernel_rfl
theorem built247 (fm fo : FuncId) (cpt : Array Value) : Tryz.prog.built 247 [(0, .func (.func fm) #[] #[]), (1, .func (.func fo) #[] cpt)] = some (ruleC fm fo cpt) := by kernel_rfl
def Rule (c : Int) (fm fo : FuncId) (cpt : Nat → Array Value) : Prop := ∀ w : World, Calls Tryz.prog 148 #[.int .i64 0, .int .u8 c] w fun r w' => ∃ sb, r = .returned (.tuple #[.agg (ruleC fm fo (cpt sb)), .bool true]) ∧ w.heap.size ≤ sb ∧ w'.heap[sb]? = some (.cells #[.int .i64 0] 3 (0, 0)) ∧ Kept w w' (fun _ => False)
set_option maxRecDepth 1000000 in
set_option maxHeartbeats 400000 in
theorem rule20 : Rule 20 189 187 (fun sb => #[(.pointer (some ⟨sb, 0, none⟩))]) := fun w => by
  have hz := zero247
  have f0 := heap_alloc_new w (.cells #[.nilFunc, .nilFunc] 247)
  have q0 := Kept.alloc w (.cells #[.nilFunc, .nilFunc] 247) (fun _ => False)
  have HSZ := asz w (.cells #[.nilFunc, .nilFunc] 247)
  go_enter Tryz.func148, Tryz.ntmps148
  go_upto_region 1 with fail
  generalize w.alloc (.cells #[.nilFunc, .nilFunc] 247) = w1 at *
  generalize hrb : w.heap.size = rb at *
  have f1 := heap_alloc_new w1 (.cells #[.int .i64 0] 3)
  have q1 := Kept.alloc w1 (.cells #[.int .i64 0] 3) (fun _ => False)
  have f01 := q1.heap f0 (fun h => h)
  have FIN : Aside0 (w1.heap.size ≠ rb ∧ Kept w w1 (fun _ => False) ∧ w.heap.size = rb) := ⟨by omega, q0, hrb⟩
  clear q0 hrb HSZ f0
  go_upto_region 2 with fail
  generalize w1.alloc (.cells #[.int .i64 0] 3) = w2 at *
  generalize hsb : w1.heap.size = sb at *
  go_wp2_with (first
    | (refine wpList_buildTo rfl 247 _ rfl (some 17) rfl (ruleC 189 187 #[(.pointer (some ⟨sb, 0, none⟩))]) ?_ ?_; (simp only [List.map_toArray, List.map_cons, List.map_nil]; exact built247 _ _ _))
    | (refine wpList_store_rowTo rfl 247 (.tmp 4) (.tmp 17) rfl rfl rb (ruleC 189 187 #[(.pointer (some ⟨sb, 0, none⟩))]) rfl rfl 247 #[.nilFunc, .nilFunc] f01 (size247 _ _) rfl (by kernel_rfl) ?_))
  refine bodyPost_ret (results_ct (p := 4) (u := 5) (ty := 247) Tryz.results148 _ _ rb 247 (ruleC 189 187 #[(.pointer (some ⟨sb, 0, none⟩))]) (0, 0) _ rfl (setRow_heap _ _ _ _ 247 _ f01) Tryz.underlying247 rfl (size247 _ _)) rfl ?_
  have k := Kept.setRow w2 rb (ruleC 189 187 #[(.pointer (some ⟨sb, 0, none⟩))]) (F := fun b => b = rb) rfl
  exact ⟨sb, rfl, by have := FIN.out.2.1.size; rw [← hsb]; omega, k.heap f1 (fun e => FIN.out.1 e), (FIN.out.2.1.trans q1 (H := fun _ => False) (fun _ _ h => h) (fun _ _ h => h)).trans k (fun _ _ h => h) (fun b hb e => by have := FIN.out.2.2; omega)⟩
set_option maxRecDepth 1000000 in
set_option maxHeartbeats 400000 in
theorem rule21 : Rule 21 192 193 (fun sb => #[]) := fun w => by
  have hz := zero247
  have f0 := heap_alloc_new w (.cells #[.nilFunc, .nilFunc] 247)
  have q0 := Kept.alloc w (.cells #[.nilFunc, .nilFunc] 247) (fun _ => False)
  have HSZ := asz w (.cells #[.nilFunc, .nilFunc] 247)
  go_enter Tryz.func148, Tryz.ntmps148
  go_upto_region 1 with fail
  generalize w.alloc (.cells #[.nilFunc, .nilFunc] 247) = w1 at *
  generalize hrb : w.heap.size = rb at *
  have f1 := heap_alloc_new w1 (.cells #[.int .i64 0] 3)
  have q1 := Kept.alloc w1 (.cells #[.int .i64 0] 3) (fun _ => False)
  have f01 := q1.heap f0 (fun h => h)
  have FIN : Aside0 (w1.heap.size ≠ rb ∧ Kept w w1 (fun _ => False) ∧ w.heap.size = rb) := ⟨by omega, q0, hrb⟩
  clear q0 hrb HSZ f0
  go_upto_region 2 with fail
  generalize w1.alloc (.cells #[.int .i64 0] 3) = w2 at *
  generalize hsb : w1.heap.size = sb at *
  go_wp2_with (first
    | (refine wpList_buildTo rfl 247 _ rfl (some 25) rfl (ruleC 192 193 #[]) ?_ ?_; (simp only [List.map_toArray, List.map_cons, List.map_nil]; exact built247 _ _ _))
    | (refine wpList_store_rowTo rfl 247 (.tmp 4) (.tmp 25) rfl rfl rb (ruleC 192 193 #[]) rfl rfl 247 #[.nilFunc, .nilFunc] f01 (size247 _ _) rfl (by kernel_rfl) ?_))
  refine bodyPost_ret (results_ct (p := 4) (u := 5) (ty := 247) Tryz.results148 _ _ rb 247 (ruleC 192 193 #[]) (0, 0) _ rfl (setRow_heap _ _ _ _ 247 _ f01) Tryz.underlying247 rfl (size247 _ _)) rfl ?_
  have k := Kept.setRow w2 rb (ruleC 192 193 #[]) (F := fun b => b = rb) rfl
  exact ⟨sb, rfl, by have := FIN.out.2.1.size; rw [← hsb]; omega, k.heap f1 (fun e => FIN.out.1 e), (FIN.out.2.1.trans q1 (H := fun _ => False) (fun _ _ h => h) (fun _ _ h => h)).trans k (fun _ _ h => h) (fun b hb e => by have := FIN.out.2.2; omega)⟩
end Go.Proofs.YtmbjlondehcheaaGreatDoor
end
