/- TopTalk: part 15 of the walks: of HMei, HRegL, HFit, HPdp. -/
import Derived.Test.YtmbjlondehcheaaGreatDoorM14
section
set_option linter.unusedSimpArgs false
set_option linter.unusedVariables false
namespace Go.Proofs.YtmbjlondehcheaaGreatDoor
open Go.Shelf Go.RowKit Go.Lib Go.Sort Go.Proofs.YtmbjlondehcheaaGreatDoorW.PrintWords Go.Proofs.YtmbjlondehcheaaGreatDoorW.PrintLast Go.Proofs.YtmbjlondehcheaaGreatDoor.PTopTalk
theorem Stay.more {k : IntKind} {w w1 : World} {G G' : Nat → Prop} {v : Value} {l : List Int} (h : Stay k w G v l) (q : Kept w w1 (fun _ => False)) (hG : ∀ b, b < w.heap.size → G' b → G b) : Stay k w1 G' v l := fun w' k' => h w' (q.trans k' (fun _ _ h => h.elim) (fun b hb g => hG b hb g))
theorem Cur.more {w w1 : World} {G G' : Nat → Prop} {cb : Nat} {s : St} (h : Cur w G cb s) (q : Kept w w1 (fun _ => False)) (hG : ∀ b, b < w.heap.size → G' b → G b) (hc : G' cb) (hl : ∀ b, G' b → b < w1.heap.size) : Cur w1 G' cb s := by
  obtain ⟨v, hv, hb⟩ := h.out
  exact ⟨hc, hl, v, q.heap hv (fun h => h), hb.more q hG⟩
def cs35m (c a : Int) : List Value := [.int .u8 c, .int .u8 0, .int .u16 0, .int .u16 0, .int .u16 0, .int .u16 0, .int .u16 0, .int .u16 0, .int .u16 0, .int .u16 0, .int .u16 0, .int .u16 0, .slice none 0 0, .slice none 0 0, .slice none 0 0, .slice none 0 0, .int .u8 a, .int .u8 0, .int .u8 0, .int .u8 0, .int .u8 0, .slice none 0 0]
theorem cs35m_K (c a : Int) (w : World) : k35.K w { z35 with f0 := c, f16 := a } (cs35m c a) :=
  k35_mk w { z35 with f0 := c, f16 := a } (A12 := none) (c12 := 0) (Nat.le_refl _) (Kd.C_nil _ w) (A13 := none) (c13 := 0) (Nat.le_refl _) (Kd.C_nil _ w) (A14 := none) (c14 := 0) (Nat.le_refl _) (Kd.C_nil _ w) (A15 := none) (c15 := 0) (Nat.le_refl _) (Kd.C_nil _ w) (A21 := none) (c21 := 0) (Nat.le_refl _) (Kd.C_nil _ w)
theorem built35m (c a : Int) : Tryz.prog.built 35 [(0, .int .u8 c), (16, .int .u8 a)] = some (cs35m c a).toArray := by kernel_rfl
def meiF (s : St) (x : S35) : St × S35 :=
  let s2 := s.need (x.f16 == 13 || x.f16 == 14) 8
  if x.f16 = 13 then
    let s3 := s2.need (decide ((s2.b.length : Int) ≤ 251)) 5
    ((s3.bytes s3.b.length).2, { x with f14 := (s3.bytes s3.b.length).1 })
  else
    let s3 := s2.byte.2.need (decide (1 ≤ s2.byte.1) && decide (s2.byte.1 ≤ 4)) 6
    (s3.byte.2, { x with f17 := s2.byte.1, f20 := s3.byte.1 })
def meiP (l : List Int) : S35 × Int := fin (meiF (⟨l, false, 0⟩ : St).byte.2 { z35 with f0 := 43, f16 := (⟨l, false, 0⟩ : St).byte.1 }).1 (meiF (⟨l, false, 0⟩ : St).byte.2 { z35 with f0 := 43, f16 := (⟨l, false, 0⟩ : St).byte.1 }).2
set_option maxHeartbeats 3000000 in
set_option maxRecDepth 1000000 in
theorem meiP_calls (l : List Int) : Parses 129 43 l (meiP l) := by
  intro w v h hl
  have hz := zero35
  have f6 := heap_alloc_new w (.cells (cs35 0).toArray 35)
  have q6 := Kept.alloc w (.cells (cs35 0).toArray 35) (fun _ => False)
  have hB1 := h.keep q6
  clear h
  obtain ⟨r0, hr0⟩ : ∃ r0, meiP l = r0 := ⟨_, rfl⟩
  rw [hr0]
  have HR0 : Aside0 _ := ⟨hr0⟩
  clear hr0
  go_enter Tryz.func129, Tryz.ntmps129
  go_upto_region 5 with fail
  have hsz := asz w (.cells (cs35 0).toArray 35)
  generalize w.alloc (.cells (cs35 0).toArray 35) = w1 at *
  generalize hrb : w.heap.size = rb at *
  have HZ : Aside0 _ := ⟨And.intro hsz hrb⟩
  clear hsz hrb
  have hnc := new_cur w1 v l hB1 hl
  go_upto_region 6 with (go_at_call 133; with_reducible refine hnc.mono ?_; rintro e w3 ⟨cb, rfl, hcb, hC, k3⟩)
  have hC0 := hC (fun b => b = cb ∨ b ≤ rb) (fun b => ⟨fun h => h.elim .inl fun h => .inr ⟨by have := HZ.out; omega, .inr h⟩, fun h => h.elim .inl fun h => h.2⟩) (.inl rfl)
  have g6 := k3.heap f6 (fun h => h)
  have hby := byte_calls w3 cb _ hC0 hl
  have hrc : ¬ rb = cb := by have := HZ.out; omega
  have hle := ((⟨l, false, 0⟩ : St).bytes_le 1).2
  unfold meiP at HR0
  generalize hs0 : (⟨l, false, 0⟩ : St).byte = p0' at *
  have hle' : p0'.2.b.length ≤ l.length := by rw [← hs0]; exact hle
  obtain ⟨a, s1⟩ := p0'
  simp only at *
  clear hnc hC hC0 hle hs0 f6 hB1
  go_upto_region 7 with (first
    | (go_at_call 149; with_reducible refine hby.mono ?_; rintro e w4 ⟨rfl, hC4, k4⟩; have N5 := new_row w4 (cs35 0).toArray (cs35m 43 a).toArray 35)
    | (refine wpList_buildTo rfl 35 _ rfl (some 28) rfl (cs35m 43 a).toArray ?_ ?_; (simp only [List.map_toArray, List.map_cons, List.map_nil]; exact built35m 43 a))
    | (refine wpList_store_rowTo rfl 35 (.tmp 9) (.tmp 28) rfl rfl w4.heap.size (cs35m 43 a).toArray rfl rfl 35 (cs35 0).toArray (heap_alloc_new _ _) (sizeM _ rfl) rfl (by kernel_rfl) ?_))
  obtain ⟨f5, k5⟩ := N5
  have hmb0 : w4.heap.size < ((w4.alloc (.cells (cs35 0).toArray 35)).setRow w4.heap.size (cs35m 43 a).toArray).heap.size := heap_lt f5
  generalize ((w4.alloc (.cells (cs35 0).toArray 35)).setRow w4.heap.size (cs35m 43 a).toArray) = w5 at *
  have hcbl := hC4.low cb hC4.hot
  have hrbl := hC4.low rb (.inr (Nat.le_refl _))
  have hC5 : Cur w5 (fun b => b = cb ∨ b = w4.heap.size ∨ b ≤ rb) cb s1 := hC4.more k5 (fun b hb h => by rcases h with h | h | h; exact .inl h; omega; exact .inr h) (.inl rfl) (fun b h => by rcases h with h | h | h <;> have := k5.size <;> omega)
  have hwm : w.heap.size ≤ w4.heap.size := Nat.le_trans (Nat.le_trans q6.size k3.size) k4.size
  generalize hmb : w4.heap.size = mb at *
  have PM : PC w5 (fun b => b = cb ∨ b = mb ∨ b ≤ rb) cb mb s1 { z35 with f0 := 43, f16 := a } := ⟨hC5, ⟨.inr (.inl rfl), _, f5, fun w' _ => cs35m_K 43 a w'⟩, by omega, by omega⟩
  have hR2 : ¬ Two cb mb rb := fun h => by rcases h with h | h; exact hrc h; omega
  have P3 : Q w5 w5 (fun b => b = cb ∨ b = mb ∨ b ≤ rb) cb mb (fun w' => w'.heap[rb]? = some (.cells (cs35 0).toArray 35 (0, 0))) s1 { z35 with f0 := 43, f16 := a } := Q.start PM (k5.heap (k4.heap g6 hrc) (fun h => h)) (fun _ _ h k => k.heap h hR2)
  have hwc : w.heap.size ≤ cb := Nat.le_trans q6.size hcb
  have K5 := ((q6.trans k3 (H := fun _ => False) (fun _ _ h => h) (fun _ _ h => h)).trans k4 (H := fun _ => False) (fun _ _ h => h) (fun b hb e => by omega)).trans k5 (H := fun _ => False) (fun _ _ h => h) (fun _ _ h => h)
  have KB : Aside0 (∀ W, Kept w5 W (fun b => b = cb ∨ b = mb ∨ b = rb) → Kept w W (fun _ => False)) := ⟨fun W k => K5.trans k (H := fun _ => False) (fun _ _ h => h) (fun b hb e => by have := HZ.out; rcases e with e | e | e <;> omega)⟩
  have HRB2 := HZ.out.2
  clear PM K5 k3 k4 k5 q6 g6 f5 hby hC4 hC5 hmb0 hmb hcbl hrbl hwm hwc hcb hrc hle' HZ
  generalize hx : ({ z35 with f0 := 43, f16 := a } : S35) = x at *
  have hxa : x.f16 = a := by rw [← hx]
  have HX : Aside0 _ := ⟨hxa⟩
  clear hx hxa
  unfold meiF at HR0
  have g16 : ∀ W s, Q w5 W (fun b => b = cb ∨ b = mb ∨ b ≤ rb) cb mb (fun w' => w'.heap[rb]? = some (.cells (cs35 0).toArray 35 (0, 0))) s x → W.cell? ⟨mb, 16, none⟩ = some (.int .u8 a) := fun W s h => by rw [← HX.out]; exact h.m.g16
  by_cases ha : a = 13
  · subst ha
    have hE : r0 = fin (((s1.need true 8).need (decide (((s1.need true 8).b.length : Int) ≤ 251)) 5).bytes ((s1.need true 8).need (decide (((s1.need true 8).b.length : Int) ≤ 251)) 5).b.length).2 { x with f14 := (((s1.need true 8).need (decide (((s1.need true 8).b.length : Int) ≤ 251)) 5).bytes ((s1.need true 8).need (decide (((s1.need true 8).b.length : Int) ≤ 251)) 5).b.length).1 } := by
      rw [← HR0.out, if_pos HX.out, HX.out]; rfl
    have HE : Aside0 _ := ⟨hE⟩
    clear hE
    have hnd := P3.need true 8
    have c16 := g16 _ _ P3
    go_upto_region 8 with (go_at_call 150; with_reducible refine hnd.mono ?_; rintro e w6 ⟨rfl, P4⟩)
    clear hnd P3 c16
    have c16 := g16 _ _ P4
    generalize s1.need true 8 = s2 at *
    have hlf := P4.left
    have hnd := fun ok => P4.need ok 5
    generalize hn : s2.b.length = n at *
    have hn2 : n ≤ 100000 := by rw [← hn]; exact P4.pc.few
    have HN : Aside0 _ := ⟨hn⟩
    clear hn
    go_upto_region 10 with (first
      | (go_at_call 155; with_reducible refine hlf.mono ?_; rintro e w7 ⟨rfl, rfl⟩)
      | (go_at_call 150; with_reducible refine (hnd _).mono ?_; rintro e w8 ⟨rfl, P5⟩))
    clear hlf hnd c16 P4 g16
    generalize s2.need (decide ((n : Int) ≤ 251)) 5 = s3 at *
    have hlf := P5.left
    have hby := P5.bytes s3.b.length
    generalize hm : s3.b.length = m at *
    clear hm
    go_upto_region 16 with (first
      | (go_at_call 155; with_reducible refine hlf.mono ?_; rintro e w7 ⟨rfl, rfl⟩)
      | (go_at_call 151; with_reducible refine hby.mono ?_; rintro e w9 ⟨A, c, rfl, hS, P6⟩; have P7 := P6.put (P6.m.s14 hS))
      | (refine wpList_plain rfl fun _ hK => wp_store_msg 23 (.tmp 51) (.tmp 50) rfl mb 14 (.slice A _ c) rfl rfl rfl P6.m (by decide) (by kernel_rfl) (hK _ _ ?_)))
    generalize w9.setCell ⟨mb, 14, none⟩ (.slice A (s3.bytes m).1.length c) = W at *
    clear hlf hby P5 P6 hS
    have hend := P7.end_
    go_upto_region 17 with (go_at_call 139; with_reducible refine hend.mono ?_; rintro e wy ⟨rfl, PY⟩)
    clear hend P7
    have herr := PY.pc.err
    go_upto_region 18 with (go_at_call 140; with_reducible refine herr.mono ?_; rintro e wz ⟨rfl, rfl⟩)
    clear herr
    obtain ⟨cs, hcs, hK⟩ := PY.m.out
    have hlen : cs.toArray.size = 22 := by rw [List.size_toArray, k35.K_len (hK wz (Kept.refl _ _))]; exact sz35
    have hone := all_oneCell_toArray (k35.K_one (hK wz (Kept.refl _ _)))
    have grb := PY.e
    have R1 : Kept wz (wz.setRow rb cs.toArray) (fun b => b = rb) := Kept.setRow wz rb _ rfl
    have R2 : Kept wz (wz.setRow rb (cs35 0).toArray) (fun b => b = rb) := Kept.setRow wz rb _ rfl
    have KF : ∀ W, Kept wz W (fun b => b = rb) → Kept w W (fun _ => False) := fun W q => KB.out W (PY.k.trans q (fun _ _ h => h.elim .inl fun h => .inr (.inl h)) (fun _ _ h => .inr (.inr h)))
    have hs0 : (cs35 0).toArray.size = cs.toArray.size := by rw [hlen]; rfl
    generalize hS : ((s3.bytes m).2).end_ = sz at *
    by_cases he : sz.e = 0
    · have hP : fin ((s3.bytes m).2) ({ x with f14 := (s3.bytes m).1 }) = (({ x with f14 := (s3.bytes m).1 }), 0) := by rw [fin, hS, if_pos he]
      have FIN : Aside0 _ := ⟨And.intro hP (And.intro (fun W (q : Kept _ W (fun b => b < w.heap.size)) => hK W (R1.trans q (fun b _ e => .inr (.inr (Nat.le_of_eq e))) (fun b _ h => .inr (.inr (by omega))))) (KF _ R1))⟩
      clear PY hK R1 R2 KF hP hS
      go_wp2_with (first
        | (refine wpList_load_row rfl 35 (.tmp 9) rfl mb rfl 35 cs.toArray (0, 0) _ hcs Tryz.underlying35 rfl (sizeM _ hlen) ?_)
        | (refine wpList_store_row rfl 35 (.tmp 6) (.tmp 80) rfl rb cs.toArray rfl rfl 35 (cs35 0).toArray grb (sizeM _ hlen) hs0 hone ?_))
      (try simp only [Exit.inBlock, Exit.then])
      refine bodyPost_ret (results_ct (p := 6) (u := 7) (ty := 35) Tryz.results129 _ _ rb 35 cs.toArray (0, 0) _ rfl (setRow_heap _ _ _ _ 35 _ grb) Tryz.underlying35 rfl (sizeM _ hlen)) rfl ?_
      rw [HE.out, FIN.out.1]
      exact ⟨cs, rfl, FIN.out.2⟩
    · have hP : fin ((s3.bytes m).2) ({ x with f14 := (s3.bytes m).1 }) = (z35, sz.e) := by rw [fin, hS, if_neg he]
      have heb : (sz.e != 0) = true := by simpa using he
      have FIN : Aside0 _ := ⟨And.intro hP (KF _ R2)⟩
      clear PY hK R1 R2 KF hP hS
      go_wp2_with (first
        | (refine wpList_buildTo rfl 35 _ rfl (some 78) rfl (cs35 0).toArray ?_ ?_; (simp only [List.map_toArray, List.map_nil]; exact built35z))
        | (refine wpList_store_row rfl 35 (.tmp 6) (.tmp 78) rfl rb (cs35 0).toArray rfl rfl 35 (cs35 0).toArray grb (sizeM _ rfl) rfl (all_cs35 0) ?_))
      (try simp only [Exit.inBlock, Exit.then])
      refine bodyPost_ret (results_ct (p := 6) (u := 7) (ty := 35) Tryz.results129 _ _ rb 35 (cs35 0).toArray (0, 0) _ rfl (setRow_heap _ _ _ _ 35 _ grb) Tryz.underlying35 rfl (sizeM _ rfl)) rfl ?_
      rw [HE.out, FIN.out.1]
      exact ⟨cs35 0, rfl, fun W _ => cs35_K 0 W, FIN.out.2⟩
  · have hb : (a == 13) = false := by simpa using ha
    have hE : r0 = fin (((s1.need (a == 14) 8).byte.2.need (decide (1 ≤ (s1.need (a == 14) 8).byte.1) && decide ((s1.need (a == 14) 8).byte.1 ≤ 4)) 6).byte.2) { x with f17 := (s1.need (a == 14) 8).byte.1, f20 := ((s1.need (a == 14) 8).byte.2.need (decide (1 ≤ (s1.need (a == 14) 8).byte.1) && decide ((s1.need (a == 14) 8).byte.1 ≤ 4)) 6).byte.1 } := by
      rw [← HR0.out, if_neg (by rw [HX.out]; exact ha), HX.out, hb, Bool.false_or]
    have HE : Aside0 _ := ⟨hE⟩
    clear hE
    have hnd := P3.need (a == 14) 8
    have c16 := g16 _ _ P3
    go_upto_region 8 with (go_at_call 150; with_reducible refine hnd.mono ?_; rintro e w6 ⟨rfl, P4⟩)
    clear hnd P3 c16
    have c16 := g16 _ _ P4
    generalize s1.need (a == 14) 8 = s2 at *
    have hby := P4.byte
    generalize hk : s2.byte = p1' at *
    obtain ⟨k, s3⟩ := p1'
    simp only at *
    clear hk
    go_upto_region 12 with (first
      | (go_at_call 149; with_reducible refine hby.mono ?_; rintro e w7 ⟨rfl, P5⟩; have P6 := P5.put (P5.m.s17 k))
      | (refine wpList_plain rfl fun _ hK => wp_store_msg 5 (.tmp 54) (.tmp 53) rfl mb 17 (.int .u8 k) rfl rfl rfl P5.m (by decide) (by kernel_rfl) (hK _ _ ?_)))
    simp only [p2]
    generalize w7.setCell ⟨mb, 17, none⟩ (.int .u8 k) = w8 at *
    clear hby P5 P4 c16 g16
    have c17 := P6.m.g17
    simp only at c17
    have hnd := fun ok => P6.need ok 6
    go_cut [] (fun wx => Aside0 (Q w5 wx (fun b => b = cb ∨ b = mb ∨ b ≤ rb) cb mb (fun w' => w'.heap[rb]? = some (.cells (cs35 0).toArray 35 (0, 0))) (s3.need (decide (1 ≤ k) && decide (k ≤ 4)) 6) { x with f17 := k }))
    case first =>
      by_cases a1 : 1 ≤ k
      · have HB : Aside0 ((decide (1 ≤ k) && decide (k ≤ 4)) = decide (k ≤ 4)) := ⟨by simp [a1]⟩
        go_wp2_with (go_at_call 150; with_reducible refine (hnd _).mono ?_; rintro e w9 ⟨rfl, P7⟩)
        all_goals
          go_meet
          exact ⟨by rw [HB.out]; exact P7⟩
      · have HB : Aside0 ((decide (1 ≤ k) && decide (k ≤ 4)) = false) := ⟨by simp [a1]⟩
        go_wp2_with (go_at_call 150; with_reducible refine (hnd _).mono ?_; rintro e w9 ⟨rfl, P7⟩)
        all_goals
          go_meet
          exact ⟨by rw [HB.out]; exact P7⟩
    case rest =>
      have P7 := hcut.out
      clear hcut P6 c17 hnd
      generalize s3.need (decide (1 ≤ k) && decide (k ≤ 4)) 6 = s4 at *
      have hby := P7.byte
      go_upto_region 16 with (first
        | (go_at_call 149; with_reducible refine hby.mono ?_; rintro e w10 ⟨rfl, P8⟩; have P9 := P8.put (P8.m.s20 s4.byte.1))
        | (refine wpList_plain rfl fun _ hK => wp_store_msg 5 (.tmp 71) (.tmp 70) rfl mb 20 (.int .u8 s4.byte.1) rfl rfl rfl P8.m (by decide) (by kernel_rfl) (hK _ _ ?_)))
      generalize w10.setCell ⟨mb, 20, none⟩ (.int .u8 s4.byte.1) = W at *
      clear hby P7 P8
      have hend := P9.end_
      go_upto_region 17 with (go_at_call 139; with_reducible refine hend.mono ?_; rintro e wy ⟨rfl, PY⟩)
      clear hend P9
      have herr := PY.pc.err
      go_upto_region 18 with (go_at_call 140; with_reducible refine herr.mono ?_; rintro e wz ⟨rfl, rfl⟩)
      clear herr
      obtain ⟨cs, hcs, hK⟩ := PY.m.out
      have hlen : cs.toArray.size = 22 := by rw [List.size_toArray, k35.K_len (hK wz (Kept.refl _ _))]; exact sz35
      have hone := all_oneCell_toArray (k35.K_one (hK wz (Kept.refl _ _)))
      have grb := PY.e
      have R1 : Kept wz (wz.setRow rb cs.toArray) (fun b => b = rb) := Kept.setRow wz rb _ rfl
      have R2 : Kept wz (wz.setRow rb (cs35 0).toArray) (fun b => b = rb) := Kept.setRow wz rb _ rfl
      have KF : ∀ W, Kept wz W (fun b => b = rb) → Kept w W (fun _ => False) := fun W q => KB.out W (PY.k.trans q (fun _ _ h => h.elim .inl fun h => .inr (.inl h)) (fun _ _ h => .inr (.inr h)))
      have hs0 : (cs35 0).toArray.size = cs.toArray.size := by rw [hlen]; rfl
      generalize hS : (s4.byte.2).end_ = sz at *
      by_cases he : sz.e = 0
      · have hP : fin (s4.byte.2) ({ x with f17 := k, f20 := s4.byte.1 }) = (({ x with f17 := k, f20 := s4.byte.1 }), 0) := by rw [fin, hS, if_pos he]
        have FIN : Aside0 _ := ⟨And.intro hP (And.intro (fun W (q : Kept _ W (fun b => b < w.heap.size)) => hK W (R1.trans q (fun b _ e => .inr (.inr (Nat.le_of_eq e))) (fun b _ h => .inr (.inr (by omega))))) (KF _ R1))⟩
        clear PY hK R1 R2 KF hP hS
        go_wp2_with (first
          | (refine wpList_load_row rfl 35 (.tmp 9) rfl mb rfl 35 cs.toArray (0, 0) _ hcs Tryz.underlying35 rfl (sizeM _ hlen) ?_)
          | (refine wpList_store_row rfl 35 (.tmp 6) (.tmp 80) rfl rb cs.toArray rfl rfl 35 (cs35 0).toArray grb (sizeM _ hlen) hs0 hone ?_))
        (try simp only [Exit.inBlock, Exit.then])
        refine bodyPost_ret (results_ct (p := 6) (u := 7) (ty := 35) Tryz.results129 _ _ rb 35 cs.toArray (0, 0) _ rfl (setRow_heap _ _ _ _ 35 _ grb) Tryz.underlying35 rfl (sizeM _ hlen)) rfl ?_
        rw [HE.out, FIN.out.1]
        exact ⟨cs, rfl, FIN.out.2⟩
      · have hP : fin (s4.byte.2) ({ x with f17 := k, f20 := s4.byte.1 }) = (z35, sz.e) := by rw [fin, hS, if_neg he]
        have heb : (sz.e != 0) = true := by simpa using he
        have FIN : Aside0 _ := ⟨And.intro hP (KF _ R2)⟩
        clear PY hK R1 R2 KF hP hS
        go_wp2_with (first
          | (refine wpList_buildTo rfl 35 _ rfl (some 78) rfl (cs35 0).toArray ?_ ?_; (simp only [List.map_toArray, List.map_nil]; exact built35z))
          | (refine wpList_store_row rfl 35 (.tmp 6) (.tmp 78) rfl rb (cs35 0).toArray rfl rfl 35 (cs35 0).toArray grb (sizeM _ rfl) rfl (all_cs35 0) ?_))
        (try simp only [Exit.inBlock, Exit.then])
        refine bodyPost_ret (results_ct (p := 6) (u := 7) (ty := 35) Tryz.results129 _ _ rb 35 (cs35 0).toArray (0, 0) _ rfl (setRow_heap _ _ _ _ 35 _ grb) Tryz.underlying35 rfl (sizeM _ rfl)) rfl ?_
        rw [HE.out, FIN.out.1]
        exact ⟨cs35 0, rfl, fun W _ => cs35_K 0 W, FIN.out.2⟩
set_option maxHeartbeats 1000000 in
set_option maxRecDepth 1000000 in
theorem meiLay_calls (x : S35) (fx : Fit x) (h14 : x.f14.length ≤ 10000) : Laid 157 x Oct := by
  intro w cs hK
  have M := MsgAt.box hK
  have K1 := Kept.alloc w (.cells cs.toArray 35) (fun _ => False)
  have hs := cons35 hK
  have c16 := M.g16
  have c17 := M.g17
  have c20 := M.g20
  obtain ⟨A, c, c14, hL⟩ := M.l14
  have hBy : By (w.alloc (.cells cs.toArray 35)) (.slice A x.f14.length c) x.f14 := ⟨A, c, rfl, hL _ (Kept.refl _ _)⟩
  have FX : Aside0 _ := ⟨fx⟩
  clear hL M hK fx
  go_enter Tryz.func157, Tryz.ntmps157
  go_upto_region 1 with fail
  generalize w.alloc (.cells cs.toArray 35) = w1 at *
  generalize w.heap.size = mb at *
  by_cases h13 : x.f16 = 13
  · rw [h13] at c16
    have hO1 : OB w1 (w1.alloc (.cells #[.int .u8 13] 5)) (.slice (some ⟨w1.heap.size, 0, none⟩) 1 1) [13] := Ow.lit (k := .u8) (te := 5) (Kept.refl w1 _) [13] (by simp) (by simp)
    have q2 := Kept.alloc w1 (.cells #[.int .u8 13] 5) (fun _ => False)
    obtain ⟨v4, w4, ha4, hO4, -⟩ := hO1.app 23 (hBy.keep q2) (by simp; omega)
    have c14' := q2.cell c14
    have FIN : Aside0 _ := ⟨Ow.base K1 hO4⟩
    have HN : Aside0 (x.f14.length ≤ 10000) := ⟨h14⟩
    clear hBy hO1 hO4 q2 K1 c17 c20
    generalize hn : x.f14.length = n at *
    have HN2 : Aside0 _ := ⟨hn⟩
    clear hn
    go_wp2_with (refine wpList_app rfl (.tmp 14) (.tmp 16) 23 23 rfl (some 17) rfl (.slice (some ⟨w1.heap.size, 0, none⟩) 1 1) (.slice A n c) rfl rfl v4 w4 ha4 ?_)
    go_ret
    refine ⟨_, _, rfl, FIN.out, fun a ha => ?_, by have := HN.out; have := HN2.out; simp; omega⟩
    rcases List.mem_append.1 ha with h | h
    · simp at h; omega
    · exact FX.out.oct a h
  · have hb : (x.f16 == 13) = false := by simpa using h13
    clear hBy
    go_wp2
    go_ret
    refine ⟨_, [x.f16, x.f17, x.f20], rfl, Ow.base K1 (Ow.lit (k := .u8) (te := 5) (Kept.refl w1 _) [x.f16, x.f17, x.f20] (by simp) (by simp)), fun a ha => ?_, by simp⟩
    rcases List.mem_cons.1 ha with rfl | ha
    · exact FX.out.c16
    rcases List.mem_cons.1 ha with rfl | ha
    · exact FX.out.c17
    rcases List.mem_cons.1 ha with rfl | ha
    · exact FX.out.c20
    · cases ha
end Go.Proofs.YtmbjlondehcheaaGreatDoor
end
section
set_option linter.unusedSimpArgs false
set_option linter.unusedVariables false
namespace Go.Proofs.YtmbjlondehcheaaGreatDoor
open Go.Shelf Go.RowKit Go.Lib Go.Sort Go.Proofs.YtmbjlondehcheaaGreatDoorW.PrintWords Go.Proofs.YtmbjlondehcheaaGreatDoorW.PrintLast Go.Proofs.YtmbjlondehcheaaGreatDoor.PTopTalk
set_option maxHeartbeats 1000000 in
set_option maxRecDepth 1000000 in
theorem regsLay_calls (x : S35) (hc : x.f0 = 3 ∨ x.f0 = 4 ∨ x.f0 = 6 ∨ x.f0 = 16 ∨ x.f0 = 22 ∨ x.f0 = 23 ∨ x.f0 = 24) (h12 : x.f12.length ≤ 10000) : Laid 144 x Oct := by
  intro w cs hK
  have M := MsgAt.box hK
  have K1 := Kept.alloc w (.cells cs.toArray 35) (fun _ => False)
  have hs := cons35 hK
  go_enter Tryz.func144, Tryz.ntmps144
  go_upto_region 1 with fail
  generalize hw1 : w.alloc (.cells cs.toArray 35) = w1 at *
  generalize w.heap.size = mb at *
  clear hK hw1
  obtain ⟨A, c, c12, hL⟩ := M.l12
  have hWo : Wo w1 (.slice A x.f12.length c) x.f12 := ⟨A, c, rfl, hL w1 (Kept.refl _ _)⟩
  have hn : x.f12.length ≤ 10000 := h12
  have lw := wPut_len x.f12
  generalize hk : x.f12.length = k at *
  go_upto_region 2 with fail
  have q1 := Kept.alloc w1 (.cells #[.int .u8 ((2 * (k : Int)) % 256)] 5) (fun _ => False)
  have c12' := q1.cell c12
  have hS0 := one_rd .u8 w1 ((2 * (k : Int)) % 256) 5
  have P0 := wput_calls _ _ _ (hWo.keep q1) (by omega)
  generalize hsb : w1.heap.size = sb at *
  clear hWo hL
  go_upto_region 3 with (go_at_call 163; with_reducible refine P0.mono ?_; rintro e wq ⟨uw, rfl, hO⟩)
  have q2 := q1.trans hO.kept (H := fun _ => False) (fun _ _ h => h) (fun _ _ h => h)
  have hS := hS0.keep hO.kept
  have hW := hO.rd (by omega)
  obtain ⟨A2, c2', rfl, -⟩ := hW.len
  generalize hk2 : (wPut x.f12).length = k2 at *
  have Kq := K1.trans q2 (H := fun _ => False) (fun _ _ h => h) (fun _ _ h => h)
  have Mq := M.keep0 q2
  have c0 := Mq.g0
  have c2 := Mq.g2
  have c3 := Mq.g3
  have c4 := Mq.g4
  have c5 := Mq.g5
  have c6 := Mq.g6
  have c7 := Mq.g7
  have H12 : Aside0 (x.f12.length ≤ 10000) := ⟨by omega⟩
  have hkz : (k : Int) ≤ 10000 := by omega
  clear P0 hO q1 q2 hS0 K1 M Mq c12 c12' hsb lw hk hk2 h12 hn
  rcases hc with hc | hc | hc | hc | hc | hc | hc
  all_goals
    rw [hc] at c0
    clear hc
  · have P := wput_calls (wq.alloc (.cells #[.int .u16 x.f2, .int .u16 x.f3] 27)) (.slice (some ⟨wq.heap.size, 0, none⟩) 2 2) [x.f2, x.f3] ((Ow.lit (k := .u16) (te := 27) (Kept.refl wq _) [x.f2, x.f3] (by simp) (by simp)).rd (by simp)) (by simp)
    have kq := Kept.alloc wq (.cells #[.int .u16 x.f2, .int .u16 x.f3] 27) (fun _ => False)
    have AS : Aside0 _ := ⟨Kq.trans kq (H := fun _ => False) (fun _ _ h => h) (fun _ _ h => h)⟩
    clear Kq kq hS hW
    go_wp2_with (go_at_call 163; with_reducible refine P.mono ?_; rintro e w2 ⟨u, rfl, hO⟩)
    go_ret
    exact ⟨_, _, rfl, Ow.base AS.out hO, wPut_oct _, by simp [wPut_len]⟩
  · have P := wput_calls (wq.alloc (.cells #[.int .u16 x.f2, .int .u16 x.f3] 27)) (.slice (some ⟨wq.heap.size, 0, none⟩) 2 2) [x.f2, x.f3] ((Ow.lit (k := .u16) (te := 27) (Kept.refl wq _) [x.f2, x.f3] (by simp) (by simp)).rd (by simp)) (by simp)
    have kq := Kept.alloc wq (.cells #[.int .u16 x.f2, .int .u16 x.f3] 27) (fun _ => False)
    have AS : Aside0 _ := ⟨Kq.trans kq (H := fun _ => False) (fun _ _ h => h) (fun _ _ h => h)⟩
    clear Kq kq hS hW
    go_wp2_with (go_at_call 163; with_reducible refine P.mono ?_; rintro e w2 ⟨u, rfl, hO⟩)
    go_ret
    exact ⟨_, _, rfl, Ow.base AS.out hO, wPut_oct _, by simp [wPut_len]⟩
  · have P := wput_calls (wq.alloc (.cells #[.int .u16 x.f2, .int .u16 x.f4] 27)) (.slice (some ⟨wq.heap.size, 0, none⟩) 2 2) [x.f2, x.f4] ((Ow.lit (k := .u16) (te := 27) (Kept.refl wq _) [x.f2, x.f4] (by simp) (by simp)).rd (by simp)) (by simp)
    have kq := Kept.alloc wq (.cells #[.int .u16 x.f2, .int .u16 x.f4] 27) (fun _ => False)
    have AS : Aside0 _ := ⟨Kq.trans kq (H := fun _ => False) (fun _ _ h => h) (fun _ _ h => h)⟩
    clear Kq kq hS hW
    go_wp2_with (go_at_call 163; with_reducible refine P.mono ?_; rintro e w2 ⟨u, rfl, hO⟩)
    go_ret
    exact ⟨_, _, rfl, Ow.base AS.out hO, wPut_oct _, by simp [wPut_len]⟩
  · have P := wput_calls (wq.alloc (.cells #[.int .u16 x.f2, .int .u16 x.f3] 27)) (.slice (some ⟨wq.heap.size, 0, none⟩) 2 2) [x.f2, x.f3] ((Ow.lit (k := .u16) (te := 27) (Kept.refl wq _) [x.f2, x.f3] (by simp) (by simp)).rd (by simp)) (by simp)
    have kq := Kept.alloc wq (.cells #[.int .u16 x.f2, .int .u16 x.f3] 27) (fun _ => False)
    have AS : Aside0 _ := ⟨And.intro (Kq.trans kq (H := fun _ => False) (fun _ _ h => h) (fun _ _ h => h)) (And.intro (hS.keep kq) (hW.keep kq))⟩
    clear Kq kq hS hW
    go_wp2_with (first
      | (go_at_call 163; with_reducible refine P.mono ?_; rintro e w3 ⟨u, rfl, hO⟩; obtain ⟨v4, w4, ha, hO4, k4⟩ := OB.app hO 23 (AS.out.2.1.keep hO.kept) (by simp [wPut_len]); obtain ⟨v5, w5, ha5, hO5, -⟩ := OB.app hO4 23 (AS.out.2.2.keep hO4.kept) (by have := H12.out; simp [wPut_len]; omega); have FIN : Aside0 _ := ⟨hO5⟩; clear P hO hO4 hO5 k4)
      | (refine wpList_app rfl (.tmp 73) (.tmp 74) 23 23 rfl (some 75) rfl u (.slice (some ⟨sb, 0, none⟩) 1 1) rfl rfl v4 w4 ha ?_)
      | (refine wpList_app rfl (.tmp 75) (.tmp 76) 23 23 rfl (some 77) rfl v4 (.slice A2 k2 c2') rfl rfl v5 w5 ha5 ?_))
    go_ret
    exact ⟨_, _, rfl, Ow.base AS.out.1 FIN.out, ((wPut_oct _).app (Oct.one _)).app (wPut_oct _), by have := H12.out; simp [wPut_len]; omega⟩
  · have P := wput_calls (wq.alloc (.cells #[.int .u16 x.f2, .int .u16 x.f5, .int .u16 x.f6] 27)) (.slice (some ⟨wq.heap.size, 0, none⟩) 3 3) [x.f2, x.f5, x.f6] ((Ow.lit (k := .u16) (te := 27) (Kept.refl wq _) [x.f2, x.f5, x.f6] (by simp) (by simp)).rd (by simp)) (by simp)
    have kq := Kept.alloc wq (.cells #[.int .u16 x.f2, .int .u16 x.f5, .int .u16 x.f6] 27) (fun _ => False)
    have AS : Aside0 _ := ⟨Kq.trans kq (H := fun _ => False) (fun _ _ h => h) (fun _ _ h => h)⟩
    clear Kq kq hS hW
    go_wp2_with (go_at_call 163; with_reducible refine P.mono ?_; rintro e w2 ⟨u, rfl, hO⟩)
    go_ret
    exact ⟨_, _, rfl, Ow.base AS.out hO, wPut_oct _, by simp [wPut_len]⟩
  · have P := wput_calls (wq.alloc (.cells #[.int .u16 x.f2, .int .u16 x.f3, .int .u16 x.f7, .int .u16 ((k : Int))] 27)) (.slice (some ⟨wq.heap.size, 0, none⟩) 4 4) [x.f2, x.f3, x.f7, (k : Int)] ((Ow.lit (k := .u16) (te := 27) (Kept.refl wq _) [x.f2, x.f3, x.f7, (k : Int)] (by simp) (by simp)).rd (by simp)) (by simp)
    have kq := Kept.alloc wq (.cells #[.int .u16 x.f2, .int .u16 x.f3, .int .u16 x.f7, .int .u16 ((k : Int))] 27) (fun _ => False)
    have AS : Aside0 _ := ⟨And.intro (Kq.trans kq (H := fun _ => False) (fun _ _ h => h) (fun _ _ h => h)) (And.intro (hS.keep kq) (hW.keep kq))⟩
    clear Kq kq hS hW
    go_wp2_with (first
      | (go_at_call 163; with_reducible refine P.mono ?_; rintro e w3 ⟨u, rfl, hO⟩; obtain ⟨v4, w4, ha, hO4, k4⟩ := OB.app hO 23 (AS.out.2.1.keep hO.kept) (by simp [wPut_len]); obtain ⟨v5, w5, ha5, hO5, -⟩ := OB.app hO4 23 (AS.out.2.2.keep hO4.kept) (by have := H12.out; simp [wPut_len]; omega); have FIN : Aside0 _ := ⟨hO5⟩; clear P hO hO4 hO5 k4)
      | (refine wpList_app rfl (.tmp 90) (.tmp 91) 23 23 rfl (some 92) rfl u (.slice (some ⟨sb, 0, none⟩) 1 1) rfl rfl v4 w4 ha ?_)
      | (refine wpList_app rfl (.tmp 92) (.tmp 93) 23 23 rfl (some 94) rfl v4 (.slice A2 k2 c2') rfl rfl v5 w5 ha5 ?_))
    go_ret
    exact ⟨_, _, rfl, Ow.base AS.out.1 FIN.out, ((wPut_oct _).app (Oct.one _)).app (wPut_oct _), by have := H12.out; simp [wPut_len]; omega⟩
  · have P := wput_calls (wq.alloc (.cells #[.int .u16 x.f2] 27)) (.slice (some ⟨wq.heap.size, 0, none⟩) 1 1) [x.f2] ((Ow.lit (k := .u16) (te := 27) (Kept.refl wq _) [x.f2] (by simp) (by simp)).rd (by simp)) (by simp)
    have kq := Kept.alloc wq (.cells #[.int .u16 x.f2] 27) (fun _ => False)
    have AS : Aside0 _ := ⟨Kq.trans kq (H := fun _ => False) (fun _ _ h => h) (fun _ _ h => h)⟩
    clear Kq kq hS hW
    go_wp2_with (go_at_call 163; with_reducible refine P.mono ?_; rintro e w2 ⟨u, rfl, hO⟩)
    go_ret
    exact ⟨_, _, rfl, Ow.base AS.out hO, wPut_oct _, by simp [wPut_len]⟩
end Go.Proofs.YtmbjlondehcheaaGreatDoor
end
section
set_option linter.unusedSimpArgs false
set_option linter.unusedVariables false
namespace Go.Proofs.YtmbjlondehcheaaGreatDoor
open Go.Shelf Go.RowKit Go.Lib Go.Sort Go.Proofs.YtmbjlondehcheaaGreatDoorW.PrintWords Go.Proofs.YtmbjlondehcheaaGreatDoorW.PrintLast Go.Proofs.YtmbjlondehcheaaGreatDoor.PTopTalk
theorem fit_plain {x : S35} (h0 : 0 ≤ x.f0 ∧ x.f0 < 256) (h : x.f1 = 0 ∧ x.f16 = 0 ∧ x.f17 = 0 ∧ x.f18 = 0 ∧ x.f19 = 0 ∧ x.f20 = 0 ∧ x.f14 = [] ∧ x.f15 = []) (h12 : x.f12.length ≤ 100000) (h13 : x.f13.length ≤ 100000) : Fit x := by
  obtain ⟨a, b, c, d, e, f, g, k⟩ := h
  exact ⟨h0, by omega, by omega, by omega, by omega, by omega, by omega, by rw [g]; exact (fun x hx => by cases hx), h12, h13, by rw [k]; exact ⟨by simp, (fun r hr => by cases hr)⟩⟩
theorem fit_z35 : Fit z35 ∧ z35.f21 = [] := ⟨fit_plain (by simp [z35]) (by simp [z35]) (by simp [z35]) (by simp [z35]), rfl⟩
theorem fin_fit {s : St} {x : S35} (h : Fit x ∧ x.f21 = []) : Fit (fin s x).1 ∧ (fin s x).1.f21 = [] := by
  unfold fin
  split
  · exact h
  · exact fit_z35
theorem wTake_le : ∀ l : List Int, (wTake l).length ≤ l.length
  | [] => Nat.le_refl _
  | [_] => by simp [wTake]
  | a :: b :: t => by have := wTake_le t; simp [wTake]; omega
theorem words_len (s : St) (n : Int) : (s.words n).1.length ≤ s.b.length := by
  unfold St.words
  split
  · simp
  · exact Nat.le_trans (wTake_le _) (s.bytes_le _).1
theorem unpk_len (l : List Int) (n : Int) : (unpk l n).1.length ≤ n.toNat := by
  unfold unpk
  split
  · simp
  · split
    · simp [upRow]
    · simp
theorem coilsP_fit (c : Int) (l : List Int) (hc : 0 ≤ c ∧ c < 256) : Fit (coilsP c l).1 ∧ (coilsP c l).1.f21 = [] := by
  unfold coilsP
  simp only
  split
  · exact fin_fit ⟨fit_plain hc (by simp [spanMsg, z35]) (by simp [spanMsg, z35]) (by simp [spanMsg, z35]), rfl⟩
  split
  · exact fin_fit ⟨fit_plain hc (by simp [setsMsg, z35]) (by simp [setsMsg, z35]) (by simp [setsMsg, z35]), rfl⟩
  split
  · refine fin_fit ⟨fit_plain hc (by simp [manyMsg, spanMsg, z35]) (by simp [manyMsg, spanMsg, z35]) ?_, rfl⟩
    exact Nat.le_trans (unpk_len _ _) (by have := (⟨l, false, 0⟩ : St).word.2.word_lt; omega)
  · exact fit_z35
theorem byte_b (s : St) : s.byte.2.b.length ≤ s.b.length := (s.bytes_le 1).2
theorem whereF_b (most : Int) (s : St) (x : S35) : (whereF most s x).1.b.length ≤ s.b.length := Nat.le_trans (rspan_le _ _ _) s.word_le
theorem counted_len (s : St) (n : Int) : (counted s n).1.length ≤ s.b.length := by
  unfold counted
  refine Nat.le_trans (words_len _ _) ?_
  rw [St.need_b]
  exact byte_b s
theorem regsP_fit (c : Int) (l : List Int) (hc : 0 ≤ c ∧ c < 256) (hl : l.length ≤ 90000) : Fit (regsP c l).1 ∧ (regsP c l).1.f21 = [] := by
  unfold regsP
  refine fin_fit ?_
  unfold regF
  split
  · exact ⟨fit_plain hc (by simp [whereF, z35]) (by simp [whereF, z35]) (by simp [whereF, z35]), rfl⟩
  split
  · exact ⟨fit_plain hc (by simp [oneF, z35]) (by simp [oneF, z35]) (by simp [oneF, z35]), rfl⟩
  split
  · refine ⟨fit_plain hc (by simp [manywF, whereF, z35]) ?_ (by simp [manywF, whereF, z35]), rfl⟩
    have := Nat.le_trans (counted_len (whereF 123 ⟨l, false, 0⟩ { z35 with f0 := c }).1 (whereF 123 ⟨l, false, 0⟩ { z35 with f0 := c }).2.f3) (whereF_b 123 ⟨l, false, 0⟩ { z35 with f0 := c })
    exact Nat.le_trans this (by show l.length ≤ 100000; omega)
  split
  · exact ⟨fit_plain hc (by simp [maskF, z35]) (by simp [maskF, z35]) (by simp [maskF, z35]), rfl⟩
  split
  · refine ⟨fit_plain hc (by simp [bothF, whereF, z35]) ?_ (by simp [bothF, whereF, z35]), rfl⟩
    refine Nat.le_trans (counted_len _ _) (Nat.le_trans (rspan_le _ _ _) (Nat.le_trans (St.word_le _) (Nat.le_trans (whereF_b _ _ _) ?_)))
    show l.length ≤ 100000
    omega
  · exact ⟨fit_plain hc (by simp [queueF, z35]) (by simp [queueF, z35]) (by simp [queueF, z35]), rfl⟩
theorem diagP_fit (c : Int) (l : List Int) (hc : 0 ≤ c ∧ c < 256) (hl : l.length ≤ 90000) : Fit (diagP c l).1 ∧ (diagP c l).1.f21 = [] := by
  unfold diagP
  split
  · refine fin_fit ?_
    unfold lineF
    simp only
    split
    · refine ⟨fit_plain hc (by simp [z35]) ?_ (by simp [z35]), rfl⟩
      refine Nat.le_trans (words_len _ _) ?_
      rw [St.need_b, St.need_b]
      exact Nat.le_trans (St.word_le _) (by show l.length ≤ 100000; omega)
    · refine ⟨fit_plain hc (by simp [z35]) ?_ (by simp [z35]), rfl⟩
      refine Nat.le_trans (words_len _ _) ?_
      rw [St.need_b]
      exact Nat.le_trans (St.word_le _) (by show l.length ≤ 100000; omega)
  · exact fin_fit ⟨fit_plain hc (by simp [z35]) (by simp [z35]) (by simp [z35]), rfl⟩
theorem bytes_oct {s : St} (h : Oct s.b) (n : Int) : Oct (s.bytes n).1 ∧ Oct (s.bytes n).2.b := by
  unfold St.bytes
  split
  · exact ⟨(fun x hx => by cases hx), (fun x hx => by cases hx)⟩
  · exact ⟨fun x hx => h x (List.mem_of_mem_take hx), fun x hx => h x (List.mem_of_mem_drop hx)⟩
theorem byte_oct {s : St} (h : Oct s.b) : (0 ≤ s.byte.1 ∧ s.byte.1 < 256) ∧ Oct s.byte.2.b := by
  refine ⟨?_, (bytes_oct h 1).2⟩
  have := (bytes_oct h 1).1
  unfold St.byte
  cases hb : (s.bytes 1).1 with
  | nil => simp
  | cons a t => rw [hb] at this; exact this a (by simp)
theorem need_oct {s : St} (h : Oct s.b) (ok : Bool) (e : Int) : Oct (s.need ok e).b := by rw [St.need_b]; exact h
theorem meiP_fit (l : List Int) (ho : Oct l) (hl : l.length ≤ 90000) : Fit (meiP l).1 ∧ (meiP l).1.f21 = [] := by
  unfold meiP
  refine fin_fit ?_
  have h0 : Oct (⟨l, false, 0⟩ : St).b := ho
  obtain ⟨ha, h1⟩ := byte_oct h0
  generalize (⟨l, false, 0⟩ : St).byte = p at *
  obtain ⟨a, s1⟩ := p
  simp only at *
  unfold meiF
  simp only
  split
  · exact ⟨⟨by simp, by simp [z35], ha, by simp [z35], by simp [z35], by simp [z35], by simp [z35], (bytes_oct (need_oct (need_oct h1 _ _) _ _) _).1, by simp [z35], by simp [z35], by simp [z35]⟩, rfl⟩
  · obtain ⟨hk, h2⟩ := byte_oct (need_oct h1 (a == 13 || a == 14) 8)
    obtain ⟨hn, h3⟩ := byte_oct (need_oct h2 (decide (1 ≤ ((s1.need (a == 13 || a == 14) 8).byte.1)) && decide ((s1.need (a == 13 || a == 14) 8).byte.1 ≤ 4)) 6)
    exact ⟨⟨by simp, by simp [z35], ha, hk, by simp [z35], by simp [z35], hn, fun x hx => by simp [z35] at hx, by simp [z35], by simp [z35], by simp [z35]⟩, rfl⟩
end Go.Proofs.YtmbjlondehcheaaGreatDoor
end
section
set_option linter.unusedSimpArgs false
set_option linter.unusedVariables false
namespace Go.Proofs.YtmbjlondehcheaaGreatDoor
open Go.Shelf Go.RowKit Go.Lib Go.Sort Go.Proofs.YtmbjlondehcheaaGreatDoorW.PrintWords Go.Proofs.YtmbjlondehcheaaGreatDoorW.PrintLast Go.Proofs.YtmbjlondehcheaaGreatDoor.PTopTalk
theorem clv {P : Program} {ops : Array Oper} {Q : Exit → Act → World → Prop} {md : Region.Mode} {S : World → Prop} {ds : List Nat} (i : Nat) (N : Option Tmp) (l' : Array Bool) {f : FuncId} {args : Array Value} {T : Ending → World → Prop} {a : Act} {w : World} (he : (callFunc f args).run P w = .ok (.enter f args) w) (hC : Calls P f args w T) {oi : Oper} {fuel : Nat} {l : Array Bool} {x : Operand} {xs : Array Operand} {ts : Array TypeId} {cpt : Array Value}
    (h : ∀ e w', T e w' → ∃ v, e = .returned v ∧ S w' ∧ wpAnyLast P md ops Q S ds fuel l' (a.put N v) w')
    (hi : ops[i]? = some oi := by rfl) (hN : oi.dst = N := by rfl) (hop : oi.op = .call { callee := .value x, args := xs, argTypes := ts } := by rfl) (hx : a.eval x = .func (.func f) #[] cpt := by rfl) (hargs : xs.map a.eval ++ cpt = args := by (simp only [List.map_toArray, List.map_cons, List.map_nil, List.append_toArray, List.append_nil]; rfl))
    (hc : readyB md ops l l' i = true := by kernel_rfl) (hd : i ∉ ds := by decide) (hw : Region.wanted oi (yielded ops a.tmps) = true := by kernel_rfl) : wpAnyLast P md ops Q S ds (fuel + 1) l a w := by
  refine one_ l' hi hN hc hd fun K hK => ?_
  refine call_ f args hw hN ?_ (hC.mono fun e w' ht => ?_)
  · unfold execOp
    simp [hop, resolve, Deferred.ofValue, invoke, hx, hargs, he]
  · obtain ⟨v, he, hS, hh⟩ := h e w' ht
    exact ⟨v, he, hK.out _ _ hS fun _ => hh⟩
structure Parsed (dir : Int) (p : List Int) (y : S35) : Prop where
  some_ : 0 < p.length
  few : p.length ≤ 253
  calls : ∀ (w : World) (v : Value), By w v p → Calls Tryz.prog 112 #[.int .i64 dir, v] w fun r w' => ∃ cs, r = .returned (.tuple #[.agg cs.toArray, .int .i64 0]) ∧ (∀ W, Kept w' W (fun b => b < w.heap.size) → k35.K W y cs) ∧ Kept w w' (fun _ => False)
set_option maxHeartbeats 2000000 in
set_option maxRecDepth 1000000 in
theorem parsed_code (dir : Int) (hdir : dir = 0 ∨ dir = 1) (c : Int) (b : List Int) (y : S35) (hc0 : 0 ≤ c) (hc : c < 128) (hbl : b.length < 253) {n m : FuncId} (hm : PofHit c n m) (eg : ∀ args w, (callFunc n args).run Tryz.prog w = .ok (.enter n args) w)
    (hP : ∀ (w : World) (v : Value), By w v b → Calls Tryz.prog n #[.int .i64 dir, .int .u8 c, v] w fun r w' => ∃ cs, r = .returned (.tuple #[.agg cs.toArray, .int .i64 0]) ∧ (∀ W, Kept w' W (fun b => b < w.heap.size) → k35.K W y cs) ∧ Kept w w' (fun _ => False)) : Parsed dir (c :: b) y := by
  refine ⟨by simp, by simp; omega, fun w v h => ?_⟩
  obtain ⟨A, cap, rfl, hcap⟩ := h.len
  have hd := h.drop (m := 1) (by simp)
  simp only [List.length_cons, Nat.add_sub_cancel, List.drop_succ_cons, List.drop_zero] at hd
  obtain ⟨ad, rfl, -, ca⟩ := h.at_ (i := 0) (by simp)
  replace ca : w.cell? ad = some (.int .u8 c) := by simpa [Addr.add] using ca
  clear h
  have hz := zero35
  have g0 := heap_alloc_new w (.cells (cs35 0).toArray 35)
  have q0 := Kept.alloc w (.cells (cs35 0).toArray 35) (fun _ => False)
  have hp := fun W => pof_hit W hm
  have sz : (Tryz.prog.info? 220).map (·.size) = some (codC n m).size := by kernel_rfl
  generalize hk : b.length = k at *
  have hcap2 : k + 1 ≤ cap := by simpa [hk] using hcap
  have hkz : (k : Int) < 253 := by omega
  have hcz : (k : Int) + 1 ≤ (cap : Int) := by omega
  have hlen : (c :: b).length = k + 1 := by simp [hk]
  rw [hlen]
  have HK : Aside0 _ := ⟨And.intro hk hm⟩
  clear hm hk hlen hcap hbl
  replace ca := q0.cell ca
  replace hd := hd.keep q0
  rcases hdir with rfl | rfl
  all_goals
    go_enter Tryz.func112, Tryz.ntmps112
    go_upto_region 9 with fail
    generalize w.alloc (.cells (cs35 0).toArray 35) = w1 at *
    generalize hrb : w.heap.size = rb at *
    have HRB : Aside0 _ := ⟨hrb⟩
    clear hrb
    go_upto_region 10 with (first
      | (go_at_call 116; with_reducible refine (hp _).mono ?_; rintro e w2 ⟨rfl, k2⟩; have N2 := new_row w2 #[.nilFunc, .nilFunc] (codC n m) 220)
      | (refine wpList_store_rowTo rfl 220 (.tmp 6) (.tmp 44) rfl rfl w2.heap.size (codC n m) rfl rfl 220 #[.nilFunc, .nilFunc] (heap_alloc_new _ _) sz rfl (by kernel_rfl) ?_))
    obtain ⟨f2, k3⟩ := N2
    have k23 := k2.trans k3 (H := fun _ => False) (fun _ _ h => h) (fun _ _ h => h)
    have K3 := q0.trans k23 (H := fun _ => False) (fun _ _ h => h) (fun _ _ h => h)
    replace g0 := k23.heap g0 (fun h => h)
    replace ca := k23.cell ca
    replace hd := hd.keep k23
    generalize (w2.alloc (.cells #[.nilFunc, .nilFunc] 220)).setRow w2.heap.size (codC n m) = w3 at *
    generalize w2.heap.size = tb at *
    have hf : w3.cell? ⟨tb, 0, none⟩ = some (.func (.func n) #[] #[]) := by rw [cell_of_row w3 tb 0 _ 220 (0, 0) f2]; rfl
    clear q0 k2 k3 k23 f2 hp
    go_upto_region 12 with fail
    have S0 := Kept.drew w3 (fun _ => False)
    by_cases h1 : cap = 1
    · subst h1
      obtain rfl : k = 0 := by omega
      have hB2 : By w3.drew (.slice (some ad) 0 0) b := by simpa using hd.keep S0
      clear hd
      refine st 13 (fun w' => Kept w3 w' (fun _ => False)) [11] S0 ?_
      refine pu 0 (some 49) (mk 13 1) ?_
      refine ld 1 (some 50) (mk 13 3) S0 ?_ (hy := .inl ⟨by rfl, by intro w' hS; have q1 := hS.cell hf; have q2 := hS.cell ca; go_simp; with_reducible rfl⟩)
      refine pu 2 (some 51) (mk 13 7) ?_
      refine pu 3 (some 52) (mk 13 15) ?_
      refine pu 4 (some 53) (mk 13 31) ?_
      refine ld 5 (some 54) (mk 13 63) S0 ?_ (hy := .inl ⟨by rfl, by intro w' hS; have q1 := hS.cell hf; have q2 := hS.cell ca; go_simp; with_reducible rfl⟩)
      refine pu 6 (some 55) (mk 13 127) ?_
      refine pu 7 (some 56) (mk 13 255) ?_
      refine clv 8 (some 57) (mk 13 511) (eg _ _) (hP w3.drew (.slice (some ad) 0 0) hB2) ?_
      rintro e w4 ⟨ds, rfl, hDW, k4⟩
      have hD := hDW w4 (Kept.refl _ _)
      have S1 := S0.trans k4 (H := fun _ => False) (fun _ _ h => h) (fun _ _ h => h)
      have hds := cons35 hD
      refine ⟨_, rfl, S1, nm ?_⟩
      refine pu 9 (some 58) (mk 13 1023) ?_
      refine pu 10 (some 59) (mk 13 2047) ?_
      refine la 11 none (mk 13 4095) fun K hK => ?_
      refine wp_store_row 35 (.tmp 4) (.tmp 58) rfl rb ds.toArray rfl rfl 35 (cs35 0).toArray (S1.heap g0 (fun h => h)) (sizeM _ hds) (by rw [hds]; rfl) (all_oneCell_toArray (k35.K_one hD)) ?_
      refine hK _ _ (nm ?_)
      clear hK K
      refine pu 12 (some 5) (mk 13 8191) ?_
      refine done_ (by kernel_rfl) ?_
      have g1 := S1.heap g0 (fun h => h)
      have FIN : Aside0 (Kept w (w4.setRow rb ds.toArray) (fun _ => False)) := ⟨(K3.trans S1 (H := fun _ => False) (fun _ _ h => h) (fun _ _ h => h)).trans (Kept.setRow w4 rb _ (F := fun b => b = rb) rfl) (fun _ _ h => h) (fun b hb e => by have := HRB.out; omega)⟩
      have hDF : Aside0 (∀ W, Kept (w4.setRow rb ds.toArray) W (fun b => b < w.heap.size) → k35.K W y ds) := ⟨fun W q => hDW W ((Kept.setRow w4 rb _ (F := fun b => b = rb) rfl).trans q (fun b _ e => by have := heap_lt g0; simp only [e]; exact this) (fun b _ h => Nat.lt_of_lt_of_le h K3.size))⟩
      clear S0 S1 k4 g0 ca hf hB2 hD
      go_wp2
      refine bodyPost_ret (results_ct (p := 4) (u := 5) (ty := 35) Tryz.results112 _ _ rb 35 ds.toArray (0, 0) _ rfl (setRow_heap _ _ _ _ 35 _ g1) Tryz.underlying35 rfl (sizeM _ hds)) rfl ?_
      exact ⟨ds, rfl, hDF.out, FIN.out⟩
    · have hc2 : 2 ≤ cap := by omega
      have hcn : ¬ (cap : Int) = 1 := by omega
      have h1k : (1 : Int) ≤ (k : Int) + 1 := by omega
      have hB2 : By w3.drew (.slice (some ⟨ad.block, ad.off + 1, none⟩) k (cap - 1)) b := by have := hd.keep S0; rw [if_neg h1] at this; simpa [Addr.add] using this
      clear hd
      refine st 13 (fun w' => Kept w3 w' (fun _ => False)) [11] S0 ?_
      refine pu 0 (some 49) (mk 13 1) ?_
      refine ld 1 (some 50) (mk 13 3) S0 ?_ (hy := .inl ⟨by rfl, by intro w' hS; have q1 := hS.cell hf; have q2 := hS.cell ca; go_simp; with_reducible rfl⟩)
      refine pu 2 (some 51) (mk 13 7) ?_
      refine pu 3 (some 52) (mk 13 15) ?_
      refine pu 4 (some 53) (mk 13 31) ?_
      refine ld 5 (some 54) (mk 13 63) S0 ?_ (hy := .inl ⟨by rfl, by intro w' hS; have q1 := hS.cell hf; have q2 := hS.cell ca; go_simp; with_reducible rfl⟩)
      refine pu 6 (some 55) (mk 13 127) ?_
      refine pu 7 (some 56) (mk 13 255) ?_
      refine clv 8 (some 57) (mk 13 511) (eg _ _) (hP w3.drew (.slice (some ⟨ad.block, ad.off + 1, none⟩) k (cap - 1)) hB2) ?_
      rintro e w4 ⟨ds, rfl, hDW, k4⟩
      have hD := hDW w4 (Kept.refl _ _)
      have S1 := S0.trans k4 (H := fun _ => False) (fun _ _ h => h) (fun _ _ h => h)
      have hds := cons35 hD
      refine ⟨_, rfl, S1, nm ?_⟩
      refine pu 9 (some 58) (mk 13 1023) ?_
      refine pu 10 (some 59) (mk 13 2047) ?_
      refine la 11 none (mk 13 4095) fun K hK => ?_
      refine wp_store_row 35 (.tmp 4) (.tmp 58) rfl rb ds.toArray rfl rfl 35 (cs35 0).toArray (S1.heap g0 (fun h => h)) (sizeM _ hds) (by rw [hds]; rfl) (all_oneCell_toArray (k35.K_one hD)) ?_
      refine hK _ _ (nm ?_)
      clear hK K
      refine pu 12 (some 5) (mk 13 8191) ?_
      refine done_ (by kernel_rfl) ?_
      have g1 := S1.heap g0 (fun h => h)
      have FIN : Aside0 (Kept w (w4.setRow rb ds.toArray) (fun _ => False)) := ⟨(K3.trans S1 (H := fun _ => False) (fun _ _ h => h) (fun _ _ h => h)).trans (Kept.setRow w4 rb _ (F := fun b => b = rb) rfl) (fun _ _ h => h) (fun b hb e => by have := HRB.out; omega)⟩
      have hDF : Aside0 (∀ W, Kept (w4.setRow rb ds.toArray) W (fun b => b < w.heap.size) → k35.K W y ds) := ⟨fun W q => hDW W ((Kept.setRow w4 rb _ (F := fun b => b = rb) rfl).trans q (fun b _ e => by have := heap_lt g0; simp only [e]; exact this) (fun b _ h => Nat.lt_of_lt_of_le h K3.size))⟩
      clear S0 S1 k4 g0 ca hf hB2 hD
      go_wp2
      refine bodyPost_ret (results_ct (p := 4) (u := 5) (ty := 35) Tryz.results112 _ _ rb 35 ds.toArray (0, 0) _ rfl (setRow_heap _ _ _ _ 35 _ g1) Tryz.underlying35 rfl (sizeM _ hds)) rfl ?_
      exact ⟨ds, rfl, hDF.out, FIN.out⟩
end Go.Proofs.YtmbjlondehcheaaGreatDoor
end
