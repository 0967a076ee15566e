/- TopTalk: part 11 of the walks: of HEq, HPof. -/
import Derived.Test.YtmbjlondehcheaaGreatDoorM10
import Derived.ChangeKeysEq
section
set_option linter.unusedSimpArgs false
set_option linter.unusedVariables false
namespace Go.Proofs.YtmbjlondehcheaaGreatDoor
open Go.Shelf Go.RowKit Go.Lib Go.Sort Go.Proofs.YtmbjlondehcheaaGreatDoorW.PrintWords Go.Proofs.YtmbjlondehcheaaGreatDoorW.PrintLast Go.Proofs.YtmbjlondehcheaaGreatDoor.PTopTalk
theorem part27 (cs : Array Value) (j : Nat) (v : Value) (w : World) (h : cs[j]? = some v) : (part 27 cs j).run Tryz.prog w = .ok v w := run_part_plain w (e := 27) (by kernel_rfl) h
theorem items27 (d : Nat) (w : World) (xs ys : List Int) : ∀ is : List Nat, (∀ i ∈ is, i < xs.length ∧ i < ys.length) →
    (Op.eqItems (d + 1) 27 1 (xs.map (Value.int .u16)).toArray (ys.map (Value.int .u16)).toArray is).run Tryz.prog w = .ok (is.all fun i => xs.getD i 0 == ys.getD i 0) w
  | [], _ => by simp [Op.eqItems]
  | i :: is, h => by
    obtain ⟨h1, h2⟩ := h i (by simp)
    have ih := items27 d w xs ys is (fun j hj => h j (by simp [hj]))
    have p1 := part27 (xs.map (Value.int .u16)).toArray (i * 1) (.int .u16 xs[i]) w (by simp [h1])
    have p2 := part27 (ys.map (Value.int .u16)).toArray (i * 1) (.int .u16 ys[i]) w (by simp [h2])
    have e := run_equalIn_int (P := Tryz.prog) w d 27 .u16 .u16 xs[i] ys[i] Tryz.underlying27
    simp only [Op.eqItems, Sem.run_bind, p1, p2, e, Result.andThen_ok, List.all_cons]
    have q1 : xs.getD i 0 = xs[i] := by simp [h1]
    have q2 : ys.getD i 0 = ys[i] := by simp [h2]
    rw [q1, q2]
    cases xs[i] == ys[i]
    · simp
    · simpa using ih
theorem eq15 (w : World) (xs ys : List Int) (hx : xs.length = 15) (hy : ys.length = 15) : (binOp .eql 266 (.agg (xs.map (Value.int .u16)).toArray) (.agg (ys.map (Value.int .u16)).toArray)).run Tryz.prog w = .ok (.bool (decide (xs = ys))) w := by
  obtain ⟨i, hi⟩ : ∃ i, Tryz.prog.info? 27 = some i := by
    obtain ⟨i, z, h, _⟩ := info27
    exact ⟨i, h⟩
  have hu : Tryz.prog.underlying 266 = some (.array 15 27) := Tryz.underlying266
  have hc : Tryz.prog.cellsOf 27 = 1 := by kernel_rfl
  rw [run_eql_struct, show 10000 = 9998 + 1 + 1 from rfl, run_equalIn_array w (9998 + 1) _ _ hu hi, hc, items27 9998 w xs ys (List.range 15) (fun i h => by have := List.mem_range.1 h; omega)]
  have : ((List.range 15).all fun i => xs.getD i 0 == ys.getD i 0) = decide (xs = ys) := by
    rw [Bool.eq_iff_iff]
    simp only [List.all_eq_true, List.mem_range, beq_iff_eq, decide_eq_true_eq]
    constructor
    · intro h
      apply List.ext_getElem (by omega)
      intro j h1 h2
      have := h j (by omega)
      rw [List.getD_eq_getElem?_getD, List.getD_eq_getElem?_getD, List.getElem?_eq_getElem h1, List.getElem?_eq_getElem h2] at this
      simpa using this
    · intro h j _
      rw [h]
  rw [this]
  rfl
def plainL (x : S35) : List Int := [IntKind.u16.wrap x.f0, IntKind.u16.wrap x.f1, x.f2, x.f3, x.f4, x.f5, x.f6, x.f7, x.f8, x.f9, x.f10, x.f11, w2 x.f16 x.f17, w2 x.f18 x.f19, IntKind.u16.wrap x.f20]
abbrev plainV (x : S35) : Array Value := #[.int .u16 (IntKind.u16.wrap x.f0), .int .u16 (IntKind.u16.wrap x.f1), .int .u16 x.f2, .int .u16 x.f3, .int .u16 x.f4, .int .u16 x.f5, .int .u16 x.f6, .int .u16 x.f7, .int .u16 x.f8, .int .u16 x.f9, .int .u16 x.f10, .int .u16 x.f11, .int .u16 (w2 x.f16 x.f17), .int .u16 (w2 x.f18 x.f19), .int .u16 (IntKind.u16.wrap x.f20)]
set_option maxHeartbeats 1000000 in
set_option maxRecDepth 1000000 in
theorem plain_calls (w : World) (x : S35) (cs : List Value) (h : k35.K w x cs) : Calls Tryz.prog 165 #[.agg cs.toArray] w fun r w' => r = .returned (.agg ((plainL x).map (Value.int .u16)).toArray) ∧ Kept w w' (fun _ => False) := by
  have M := MsgAt.box h
  have K1 := Kept.alloc w (.cells cs.toArray 35) (fun _ => False)
  have hs := cons35 h
  go_enter Tryz.func165, Tryz.ntmps165
  go_upto_region 1 with fail
  have hsz := asz w (.cells cs.toArray 35)
  generalize w.alloc (.cells cs.toArray 35) = w1 at *
  generalize hmb : w.heap.size = mb at *
  have hlow : w.heap.size ≤ mb := by omega
  have f2 := heap_alloc_new w1 (.cells #[.int .u16 0, .int .u16 0, .int .u16 0, .int .u16 0, .int .u16 0, .int .u16 0, .int .u16 0, .int .u16 0, .int .u16 0, .int .u16 0, .int .u16 0, .int .u16 0, .int .u16 0, .int .u16 0, .int .u16 0] 266)
  have K2 := Kept.alloc w1 (.cells #[.int .u16 0, .int .u16 0, .int .u16 0, .int .u16 0, .int .u16 0, .int .u16 0, .int .u16 0, .int .u16 0, .int .u16 0, .int .u16 0, .int .u16 0, .int .u16 0, .int .u16 0, .int .u16 0, .int .u16 0] 266) (fun _ => False)
  rw [hsz] at f2
  have M2 := M.keep0 K2
  have K3 := K1.trans K2 (fun _ _ h => h) (fun _ _ h => h)
  have hsz2 := hsz
  generalize w1.alloc (.cells #[.int .u16 0, .int .u16 0, .int .u16 0, .int .u16 0, .int .u16 0, .int .u16 0, .int .u16 0, .int .u16 0, .int .u16 0, .int .u16 0, .int .u16 0, .int .u16 0, .int .u16 0, .int .u16 0, .int .u16 0] 266) = w2 at *
  have R : Aside0 (Kept w (w2.setRow (mb + 1) (plainV x)) (fun _ => False)) := ⟨K3.trans (Kept.setRow w2 (mb + 1) _ (F := fun b => b = mb + 1) rfl) (H := fun _ => False) (fun _ _ h => h) (fun b hb e => by have := K1.size; have := hlow; omega)⟩
  clear h K1 K2 K3 M hsz hsz2 hmb hlow
  have c0 := M2.g0
  have c1 := M2.g1
  have c2 := M2.g2
  have c3 := M2.g3
  have c4 := M2.g4
  have c5 := M2.g5
  have c6 := M2.g6
  have c7 := M2.g7
  have c8 := M2.g8
  have c9 := M2.g9
  have c10 := M2.g10
  have c11 := M2.g11
  have c16 := M2.g16
  have c17 := M2.g17
  have c18 := M2.g18
  have c19 := M2.g19
  have c20 := M2.g20
  have sz : (Tryz.prog.info? 266).map (·.size) = some (plainV x).size := by kernel_rfl
  have one : (plainV x).all (·.oneCell') = true := by kernel_rfl
  clear M2
  go_wp2_with (first
    | (refine wpList_buildTo rfl 266 _ rfl (some 48) rfl (plainV x) ?_ ?_; (simp only [List.map_toArray, List.map_cons, List.map_nil]; kernel_rfl))
    | (refine wpList_store_rowTo rfl 266 (.tmp 2) (.tmp 48) rfl rfl (mb + 1) (plainV x) rfl rfl 266 #[.int .u16 0, .int .u16 0, .int .u16 0, .int .u16 0, .int .u16 0, .int .u16 0, .int .u16 0, .int .u16 0, .int .u16 0, .int .u16 0, .int .u16 0, .int .u16 0, .int .u16 0, .int .u16 0, .int .u16 0] f2 sz rfl one ?_))
  exact bodyPost_ret (results_cell_row (p := 2) (ty := 266) Tryz.results165 _ _ (mb + 1) 266 _ (0, 0) _ rfl (setRow_heap _ _ _ _ 266 _ f2) Tryz.underlying266 rfl sz) rfl ⟨rfl, R.out⟩
set_option maxHeartbeats 1000000 in
set_option maxRecDepth 1000000 in
theorem eqw_calls (w : World) (a b : Value) (l m : List Int) (ha : Wo w a l) (hb : Wo w b m) (hl : l.length ≤ 100000) : Calls Tryz.prog 166 #[a, b] w fun r w' => r = .returned (.bool (decide (l = m))) ∧ Kept w w' (fun _ => False) := by
  obtain ⟨A, c, rfl, hc, -⟩ := id ha
  obtain ⟨B, c', rfl, hc', -⟩ := id hb
  by_cases hlen : l.length = m.length
  · obtain ⟨n, hn⟩ : ∃ n, l.length = n := ⟨_, rfl⟩
    have hm : m.length = n := by omega
    rw [hn] at ha hc hl ⊢
    rw [hm] at hb hc' ⊢
    have HA : Aside0 _ := ⟨And.intro hn ha⟩
    have HB : Aside0 _ := ⟨And.intro hm hb⟩
    clear ha hb hn hm hlen
    go_enter Tryz.func166, Tryz.ntmps166
    go_wp2
    go_loopg [13] n (fun kx s13 wr => ∃ i : Nat, s13 = .int .i64 i ∧ i ≤ n ∧ n - i ≤ kx ∧ Aside0 (l.take i = m.take i ∧ Kept w wr (fun _ => False)))
    case atStart => exact ⟨0, rfl, Nat.zero_le _, Nat.le_refl _, ⟨rfl, Kept.refl _ _⟩⟩
    case round =>
      obtain ⟨i, rfl, hi, hkx, D⟩ := hrel
      by_cases hlt : i < n
      · obtain ⟨ad, rfl, -, ca⟩ := HA.out.2.at_ (i := i) (by rw [HA.out.1]; exact hlt)
        obtain ⟨bd, rfl, -, cb⟩ := HB.out.2.at_ (i := i) (by rw [HB.out.1]; exact hlt)
        obtain ⟨x, hx⟩ : ∃ x, l[i]'(by rw [HA.out.1]; exact hlt) = x := ⟨_, rfl⟩
        obtain ⟨y, hy⟩ : ∃ y, m[i]'(by rw [HB.out.1]; exact hlt) = y := ⟨_, rfl⟩
        rw [hx] at ca
        rw [hy] at cb
        replace ca := D.out.2.cell ca
        replace cb := D.out.2.cell cb
        have hiz : (i : Int) < (n : Int) := by omega
        have hnz : (n : Int) ≤ 100000 := by omega
        by_cases hxy : x = y
        · subst hxy
          have D2 : Aside0 (l.take (i + 1) = m.take (i + 1) ∧ ∀ q, Kept w (wr.drewN q) (fun _ => False)) := ⟨by rw [List.take_add_one, List.take_add_one, D.out.1, List.getElem?_eq_getElem (by rw [HA.out.1]; exact hlt), List.getElem?_eq_getElem (by rw [HB.out.1]; exact hlt), hx, hy], fun q => D.out.2.trans (Kept.drewN wr q _) (fun _ _ h => h) (fun _ _ h => h)⟩
          clear D hx hy
          go_upto_region 6 with fail
          go_quiet (fail)
          go_wp2
          go_roundg (n - (i + 1))
          case measure => omega
          case rel => exact ⟨i + 1, by go_num, by omega, Nat.le_refl _, D2.out.1, D2.out.2 _⟩
        · have hne : (x != y) = true := by simpa using hxy
          have F : Aside0 (decide (l = m) = false ∧ ∀ q, Kept w (wr.drewN q) (fun _ => False)) := ⟨by
            rw [decide_eq_false_iff_not]
            intro e
            subst e
            exact hxy (hx.symm.trans hy), fun q => D.out.2.trans (Kept.drewN wr q _) (fun _ _ h => h) (fun _ _ h => h)⟩
          clear D hx hy hxy
          go_upto_region 6 with fail
          go_quiet (fail)
          go_wp2
          go_ret
          exact ⟨by rw [F.out.1]; rfl, F.out.2 _⟩
      · have hge : ¬ ((i : Int) < (n : Int)) := by omega
        have hin : i = n := by omega
        have F : Aside0 (decide (l = m) = true ∧ Kept w wr (fun _ => False)) := ⟨by
          have := D.out.1
          rw [hin, List.take_of_length_le (Nat.le_of_eq HA.out.1), List.take_of_length_le (Nat.le_of_eq HB.out.1)] at this
          simpa using this, D.out.2⟩
        clear D hin
        go_wp2
        go_ret
        exact ⟨by rw [F.out.1]; rfl, F.out.2⟩
  · have hd : Aside0 (decide (l = m) = false) := ⟨decide_eq_false fun e => hlen (by rw [e])⟩
    have hz : ((l.length : Int) != (m.length : Int)) = true := by simp; omega
    have hz2 : ¬ ((l.length : Int) = (m.length : Int)) := by omega
    clear ha hb
    go_enter Tryz.func166, Tryz.ntmps166
    go_wp2
    go_ret
    exact ⟨by rw [hd.out]; rfl, Kept.refl _ _⟩
set_option maxHeartbeats 1000000 in
set_option maxRecDepth 1000000 in
theorem eqb_calls (w : World) (a b : Value) (l m : List Bool) (ha : Bo w a l) (hb : Bo w b m) (hl : l.length ≤ 100000) : Calls Tryz.prog 167 #[a, b] w fun r w' => r = .returned (.bool (decide (l = m))) ∧ Kept w w' (fun _ => False) := by
  obtain ⟨A, c, rfl, hc, -⟩ := id ha
  obtain ⟨B, c', rfl, hc', -⟩ := id hb
  by_cases hlen : l.length = m.length
  · obtain ⟨n, hn⟩ : ∃ n, l.length = n := ⟨_, rfl⟩
    have hm : m.length = n := by omega
    rw [hn] at ha hc hl ⊢
    rw [hm] at hb hc' ⊢
    have HA : Aside0 _ := ⟨And.intro hn ha⟩
    have HB : Aside0 _ := ⟨And.intro hm hb⟩
    clear ha hb hn hm hlen
    go_enter Tryz.func167, Tryz.ntmps167
    go_wp2
    go_loopg [13] n (fun kx s13 wr => ∃ i : Nat, s13 = .int .i64 i ∧ i ≤ n ∧ n - i ≤ kx ∧ Aside0 (l.take i = m.take i ∧ Kept w wr (fun _ => False)))
    case atStart => exact ⟨0, rfl, Nat.zero_le _, Nat.le_refl _, ⟨rfl, Kept.refl _ _⟩⟩
    case round =>
      obtain ⟨i, rfl, hi, hkx, D⟩ := hrel
      by_cases hlt : i < n
      · obtain ⟨ad, rfl, -, ca⟩ := HA.out.2.at_ (i := i) (by rw [HA.out.1]; exact hlt)
        obtain ⟨bd, rfl, -, cb⟩ := HB.out.2.at_ (i := i) (by rw [HB.out.1]; exact hlt)
        obtain ⟨x, hx⟩ : ∃ x, l[i]'(by rw [HA.out.1]; exact hlt) = x := ⟨_, rfl⟩
        obtain ⟨y, hy⟩ : ∃ y, m[i]'(by rw [HB.out.1]; exact hlt) = y := ⟨_, rfl⟩
        rw [hx] at ca
        rw [hy] at cb
        replace ca := D.out.2.cell ca
        replace cb := D.out.2.cell cb
        have hiz : (i : Int) < (n : Int) := by omega
        have hnz : (n : Int) ≤ 100000 := by omega
        by_cases hxy : x = y
        · subst hxy
          have D2 : Aside0 (l.take (i + 1) = m.take (i + 1) ∧ ∀ q, Kept w (wr.drewN q) (fun _ => False)) := ⟨by rw [List.take_add_one, List.take_add_one, D.out.1, List.getElem?_eq_getElem (by rw [HA.out.1]; exact hlt), List.getElem?_eq_getElem (by rw [HB.out.1]; exact hlt), hx, hy], fun q => D.out.2.trans (Kept.drewN wr q _) (fun _ _ h => h) (fun _ _ h => h)⟩
          have heq : (x == x) = true := by cases x <;> rfl
          clear D hx hy
          go_upto_region 6 with fail
          go_quiet (fail)
          go_wp2
          go_roundg (n - (i + 1))
          case measure => omega
          case rel => exact ⟨i + 1, by go_num, by omega, Nat.le_refl _, D2.out.1, D2.out.2 _⟩
        · have hne : (x == y) = false := by simpa using hxy
          have F : Aside0 (decide (l = m) = false ∧ ∀ q, Kept w (wr.drewN q) (fun _ => False)) := ⟨by
            rw [decide_eq_false_iff_not]
            intro e
            subst e
            exact hxy (hx.symm.trans hy), fun q => D.out.2.trans (Kept.drewN wr q _) (fun _ _ h => h) (fun _ _ h => h)⟩
          clear D hx hy hxy
          go_upto_region 6 with fail
          go_quiet (fail)
          go_wp2
          go_ret
          exact ⟨by rw [F.out.1]; rfl, F.out.2 _⟩
      · have hge : ¬ ((i : Int) < (n : Int)) := by omega
        have hin : i = n := by omega
        have F : Aside0 (decide (l = m) = true ∧ Kept w wr (fun _ => False)) := ⟨by
          have := D.out.1
          rw [hin, List.take_of_length_le (Nat.le_of_eq HA.out.1), List.take_of_length_le (Nat.le_of_eq HB.out.1)] at this
          simpa using this, D.out.2⟩
        clear D hin
        go_wp2
        go_ret
        exact ⟨by rw [F.out.1]; rfl, F.out.2⟩
  · have hd : Aside0 (decide (l = m) = false) := ⟨decide_eq_false fun e => hlen (by rw [e])⟩
    have hz : ((l.length : Int) != (m.length : Int)) = true := by simp; omega
    have hz2 : ¬ ((l.length : Int) = (m.length : Int)) := by omega
    clear ha hb
    go_enter Tryz.func167, Tryz.ntmps167
    go_wp2
    go_ret
    exact ⟨by rw [hd.out]; rfl, Kept.refl _ _⟩
theorem str_by (w : World) (v : Value) (l : List Int) (h : By w v l) : (convert 23 9 v).run Tryz.prog w = .ok (.string (strOfNums l)) w := by
  obtain ⟨A, c, rfl, hc, hC⟩ := id h
  cases A with
  | none =>
    have hn : l = [] := by
      cases l with
      | nil => rfl
      | cons x t => obtain ⟨ad, h, _⟩ := hC.2.2 (by simp); cases h
    subst hn
    exact run_convert_bytes_nil w 23 5 Tryz.underlying23 Tryz.underlying5 _ _ 9 Tryz.underlying9
  | some ad =>
    have hl : (loadCells ad l.length).run Tryz.prog w = .ok (l.map (Value.int .u8)).toArray w := by
      have := run_loadCells_list (P := Tryz.prog) w ad (l.map (Value.int .u8)) (fun j v hj => by
        have hjl : j < l.length := by
          rcases Nat.lt_or_ge j l.length with h | h
          · exact h
          · rw [List.getElem?_eq_none (by simpa using h)] at hj; cases hj
        obtain ⟨ad', e, _, hcell⟩ := h.at_ hjl
        injection e with e
        subst e
        rw [List.getElem?_map, List.getElem?_eq_getElem hjl] at hj
        rw [hcell]
        exact hj)
      simpa using this
    rw [run_convert_bytes_string w 23 9 5 _ l.length c Tryz.underlying23 Tryz.underlying5 Tryz.underlying9, run_bytesToString w _ l.length c l hl, foldl_push_bytes]
    simp [strOfNums, ByteArray.empty, ByteArray.emptyWithCapacity]
    rfl
theorem oct_inj : ∀ (l m : List Int), Oct l → Oct m → l.map (fun n => UInt8.ofNat n.toNat) = m.map (fun n => UInt8.ofNat n.toNat) → l = m
  | [], [], _, _, _ => rfl
  | [], _ :: _, _, _, h => by simp at h
  | _ :: _, [], _, _, h => by simp at h
  | a :: l, b :: m, hl, hm, h => by
    simp only [List.map_cons, List.cons.injEq] at h
    have h1 := hl a (by simp)
    have h2 := hm b (by simp)
    have := congrArg UInt8.toNat h.1
    simp at this
    have hab : a = b := by omega
    rw [hab, oct_inj l m (fun x hx => hl x (by simp [hx])) (fun x hx => hm x (by simp [hx])) h.2]
theorem str_eq (l m : List Int) (hl : Oct l) (hm : Oct m) : ((strOfNums l).toList == (strOfNums m).toList) = decide (l = m) := by
  rw [ByteArray.toList_eq, ByteArray.toList_eq, Bool.eq_iff_iff]
  simp only [beq_iff_eq, decide_eq_true_eq]
  constructor
  · intro h
    apply oct_inj l m hl hm
    simpa [strOfNums] using h
  · intro h; rw [h]
instance : DecidableEq S67 := fun a b => decidable_of_iff (a.f0 = b.f0 ∧ a.f1 = b.f1 ∧ a.f2 = b.f2 ∧ a.f3 = b.f3) (by cases a; cases b; simp)
instance : DecidableEq S69 := fun a b => decidable_of_iff (a.f0 = b.f0 ∧ a.f1 = b.f1) (by cases a; cases b; simp)
instance : DecidableEq S35 := fun a b => decidable_of_iff (a.f0 = b.f0 ∧ a.f1 = b.f1 ∧ a.f2 = b.f2 ∧ a.f3 = b.f3 ∧ a.f4 = b.f4 ∧ a.f5 = b.f5 ∧ a.f6 = b.f6 ∧ a.f7 = b.f7 ∧ a.f8 = b.f8 ∧ a.f9 = b.f9 ∧ a.f10 = b.f10 ∧ a.f11 = b.f11 ∧ a.f12 = b.f12 ∧ a.f13 = b.f13 ∧ a.f14 = b.f14 ∧ a.f15 = b.f15 ∧ a.f16 = b.f16 ∧ a.f17 = b.f17 ∧ a.f18 = b.f18 ∧ a.f19 = b.f19 ∧ a.f20 = b.f20 ∧ a.f21 = b.f21) (by cases a; cases b; simp)
set_option maxHeartbeats 1000000 in
set_option maxRecDepth 1000000 in
theorem rec_calls (w : World) (x y : S67) (A B : Option Addr) (c c' : Nat) (hx : Wo w (.slice A x.f3.length c) x.f3) (hy : Wo w (.slice B y.f3.length c') y.f3) (hl : x.f3.length ≤ 100000) :
    Calls Tryz.prog 169 #[.agg #[.int .u16 x.f0, .int .u16 x.f1, .int .u16 x.f2, .slice A x.f3.length c], .agg #[.int .u16 y.f0, .int .u16 y.f1, .int .u16 y.f2, .slice B y.f3.length c']] w fun r w' => r = .returned (.bool (decide (x = y))) ∧ Kept w w' (fun _ => False) := by
  have k1 := Kept.alloc w (.cells #[.int .u16 x.f0, .int .u16 x.f1, .int .u16 x.f2, .slice A x.f3.length c] 67) (fun _ => False)
  have k2 := Kept.alloc (w.alloc (.cells #[.int .u16 x.f0, .int .u16 x.f1, .int .u16 x.f2, .slice A x.f3.length c] 67)) (.cells #[.int .u16 y.f0, .int .u16 y.f1, .int .u16 y.f2, .slice B y.f3.length c'] 67) (fun _ => False)
  have K := k1.trans k2 (fun _ _ h => h) (fun _ _ h => h)
  have f1 := k2.heap (heap_alloc_new w (.cells #[.int .u16 x.f0, .int .u16 x.f1, .int .u16 x.f2, .slice A x.f3.length c] 67)) (fun h => h)
  have f2 := heap_alloc_new (w.alloc (.cells #[.int .u16 x.f0, .int .u16 x.f1, .int .u16 x.f2, .slice A x.f3.length c] 67)) (.cells #[.int .u16 y.f0, .int .u16 y.f1, .int .u16 y.f2, .slice B y.f3.length c'] 67)
  rw [asz] at f2
  have hx2 := hx.keep K
  have hy2 := hy.keep K
  obtain ⟨bx, hbx⟩ : ∃ bx, w.heap.size = bx := ⟨_, rfl⟩
  rw [hbx] at f1 f2
  have HD : Aside0 ((x.f0 = y.f0 → x.f1 = y.f1 → x.f2 = y.f2 → decide (x = y) = decide (x.f3 = y.f3)) ∧ (¬ x.f0 = y.f0 → decide (x = y) = false) ∧ (¬ x.f1 = y.f1 → decide (x = y) = false) ∧ (¬ x.f2 = y.f2 → decide (x = y) = false)) := ⟨by
    refine ⟨fun a b c => ?_, fun h => decide_eq_false (fun e => h (by rw [e])), fun h => decide_eq_false (fun e => h (by rw [e])), fun h => decide_eq_false (fun e => h (by rw [e]))⟩
    rw [Bool.eq_iff_iff, decide_eq_true_eq, decide_eq_true_eq]
    refine ⟨fun e => by rw [e], fun e => ?_⟩
    cases x; cases y; simp_all⟩
  clear hx hy k1 k2
  generalize hW : (w.alloc (.cells #[.int .u16 x.f0, .int .u16 x.f1, .int .u16 x.f2, .slice A x.f3.length c] 67)).alloc (.cells #[.int .u16 y.f0, .int .u16 y.f1, .int .u16 y.f2, .slice B y.f3.length c'] 67) = W at *
  have a0 : W.cell? ⟨bx, 0, none⟩ = some (.int .u16 x.f0) := by rw [cell_of_row W bx 0 _ 67 (0, 0) f1]; rfl
  have a1 : W.cell? ⟨bx, 1, none⟩ = some (.int .u16 x.f1) := by rw [cell_of_row W bx 1 _ 67 (0, 0) f1]; rfl
  have a2 : W.cell? ⟨bx, 2, none⟩ = some (.int .u16 x.f2) := by rw [cell_of_row W bx 2 _ 67 (0, 0) f1]; rfl
  have a3 : W.cell? ⟨bx, 3, none⟩ = some (.slice A x.f3.length c) := by rw [cell_of_row W bx 3 _ 67 (0, 0) f1]; rfl
  have b0 : W.cell? ⟨bx + 1, 0, none⟩ = some (.int .u16 y.f0) := by rw [cell_of_row W (bx + 1) 0 _ 67 (0, 0) f2]; rfl
  have b1 : W.cell? ⟨bx + 1, 1, none⟩ = some (.int .u16 y.f1) := by rw [cell_of_row W (bx + 1) 1 _ 67 (0, 0) f2]; rfl
  have b2 : W.cell? ⟨bx + 1, 2, none⟩ = some (.int .u16 y.f2) := by rw [cell_of_row W (bx + 1) 2 _ 67 (0, 0) f2]; rfl
  have b3 : W.cell? ⟨bx + 1, 3, none⟩ = some (.slice B y.f3.length c') := by rw [cell_of_row W (bx + 1) 3 _ 67 (0, 0) f2]; rfl
  clear f1 f2
  have hw := eqw_calls W _ _ _ _ hx2 hy2 hl
  have HW : Aside0 _ := ⟨hw⟩
  clear hw hx2 hy2
  obtain ⟨p, hp⟩ : ∃ p, p = decide (x = y) := ⟨_, rfl⟩
  rw [← hp] at HD ⊢
  clear hp
  go_enter Tryz.func169, Tryz.ntmps169
  go_upto_region 1 with fail
  clear hW hbx
  by_cases h0 : x.f0 = y.f0
  · by_cases h1 : x.f1 = y.f1
    · by_cases h2 : x.f2 = y.f2
      · have e := HD.out.1 h0 h1 h2
        subst e
        rw [← h0] at b0
        rw [← h1] at b1
        rw [← h2] at b2
        clear HD h0 h1 h2
        go_wp2_with (go_at_call 166; with_reducible refine HW.out.mono ?_; rintro e w2 ⟨rfl, k2⟩)
        go_ret
        exact ⟨rfl, K.trans k2 (fun _ _ h => h) (fun _ _ h => h)⟩
      · have e := HD.out.2.2.2 h2
        subst e
        rw [← h0] at b0
        rw [← h1] at b1
        have hb : (x.f2 == y.f2) = false := by simpa using h2
        clear HD h0 h1
        go_wp2
        go_ret
        exact ⟨rfl, K⟩
    · have e := HD.out.2.2.1 h1
      subst e
      rw [← h0] at b0
      have hb : (x.f1 == y.f1) = false := by simpa using h1
      clear HD h0
      go_wp2
      go_ret
      exact ⟨rfl, K⟩
  · have e := HD.out.2.1 h0
    subst e
    have hb : (x.f0 == y.f0) = false := by simpa using h0
    clear HD
    go_wp2
    go_ret
    exact ⟨rfl, K⟩
theorem new_row (w : World) (Z C : Array Value) (t : TypeId) : ((w.alloc (.cells Z t)).setRow w.heap.size C).heap[w.heap.size]? = some (.cells C t (0, 0)) ∧ Kept w ((w.alloc (.cells Z t)).setRow w.heap.size C) (fun _ => False) :=
  ⟨setRow_heap (w.alloc (.cells Z t)) w.heap.size Z C t _ (heap_alloc_new _ _), (Kept.alloc w _ (fun _ => False)).trans (Kept.setRow _ w.heap.size _ (F := fun b => b = w.heap.size) rfl) (fun _ _ h => h) (fun k hk h => by omega)⟩
def Rc (w : World) (v : Value) (l : List S67) : Prop := ∃ A c, v = .slice A l.length c ∧ l.length ≤ c ∧ k67.C w A l.length l
theorem rd67 (l : List S67) (i : Nat) (h : i < l.length) : rd_T67 l (i : Int) = l[i] := by simp [rd_T67, h]
set_option maxHeartbeats 2000000 in
set_option maxRecDepth 1000000 in
theorem eqr_calls (w : World) (a b : Value) (l m : List S67) (ha : Rc w a l) (hb : Rc w b m) (hl : l.length ≤ 100000) (h3 : ∀ x ∈ l, x.f3.length ≤ 100000) : Calls Tryz.prog 168 #[a, b, .func (.func 169) #[] #[]] w fun r w' => r = .returned (.bool (decide (l = m))) ∧ Kept w w' (fun _ => False) := by
  obtain ⟨A, c, rfl, hc, hA⟩ := id ha
  obtain ⟨B, c', rfl, hc', hB⟩ := id hb
  have eg : ∀ args w, (callFunc 169 args).run Tryz.prog w = .ok (.enter 169 args) w := enters_of Tryz.func169 (by kernel_rfl) rfl
  by_cases hlen : l.length = m.length
  · obtain ⟨n, hn⟩ : ∃ n, l.length = n := ⟨_, rfl⟩
    have hm : m.length = n := by omega
    rw [hn] at hc hl hA ⊢
    rw [hm] at hc' hB ⊢
    have HA : Aside0 _ := ⟨And.intro hn hA⟩
    have HB : Aside0 _ := ⟨And.intro hm hB⟩
    have H3 : Aside0 _ := ⟨h3⟩
    clear hA hB hn hm hlen ha hb h3
    go_enter Tryz.func168, Tryz.ntmps168
    go_wp2
    go_loopg [17] n (fun kx s17 wr => ∃ i : Nat, s17 = .int .i64 i ∧ i ≤ n ∧ n - i ≤ kx ∧ Aside0 (l.take i = m.take i ∧ Kept w wr (fun _ => False)))
    case atStart => exact ⟨0, rfl, Nat.zero_le _, Nat.le_refl _, ⟨rfl, Kept.refl _ _⟩⟩
    case round =>
      obtain ⟨i, rfl, hi, hkx, D⟩ := hrel
      by_cases hlt : i < n
      · have hCA := Kd.C_below HA.out.2 D.out.2.toBelow
        have hCB := Kd.C_below HB.out.2 D.out.2.toBelow
        have hiz : (i : Int) < (n : Int) := by omega
        have hnz : (n : Int) ≤ 100000 := by omega
        obtain ⟨ad, A3, c3, rfl, r0, r1, r2, r3, l3, g3⟩ := at_T67 hCA (i : Int) (by omega) (by omega)
        obtain ⟨bd, B3, d3, rfl, s0, s1, s2, s3, m3, g4⟩ := at_T67 hCB (i : Int) (by omega) (by omega)
        rw [Int.toNat_natCast] at r0 r1 r2 r3 s0 s1 s2 s3
        obtain ⟨x, hx⟩ : ∃ x, rd_T67 l (i : Int) = x := ⟨_, rfl⟩
        obtain ⟨y, hy⟩ : ∃ y, rd_T67 m (i : Int) = y := ⟨_, rfl⟩
        rw [hx] at r0 r1 r2 r3 l3 g3
        rw [hy] at s0 s1 s2 s3 m3 g4
        rw [rd67 l i (by rw [HA.out.1]; exact hlt)] at hx
        rw [rd67 m i (by rw [HB.out.1]; exact hlt)] at hy
        have hx3 : x.f3.length ≤ 100000 := H3.out x (by rw [← hx]; simp)
        have hwx : Wo wr (.slice A3 x.f3.length c3) x.f3 := ⟨_, _, rfl, l3, g3⟩
        have hwy : Wo wr (.slice B3 y.f3.length d3) y.f3 := ⟨_, _, rfl, m3, g4⟩
        have D2 : Aside0 ((x = y → l.take (i + 1) = m.take (i + 1)) ∧ (¬ x = y → decide (l = m) = false)) := ⟨fun e => by rw [List.take_add_one, List.take_add_one, D.out.1, List.getElem?_eq_getElem (by rw [HA.out.1]; exact hlt), List.getElem?_eq_getElem (by rw [HB.out.1]; exact hlt), hx, hy, e], fun hne => decide_eq_false fun e => by
          subst e
          exact hne (hx.symm.trans hy)⟩
        have EX : Aside0 _ := ⟨And.intro hwx hwy⟩
        clear hCA hCB g3 g4 l3 m3 hx hy hwx hwy
        have sz : (Tryz.prog.info? 67).map (·.size) = some (#[.int .u16 x.f0, .int .u16 x.f1, .int .u16 x.f2, .slice A3 x.f3.length c3] : Array Value).size := by kernel_rfl
        have sz' : (Tryz.prog.info? 67).map (·.size) = some (#[.int .u16 y.f0, .int .u16 y.f1, .int .u16 y.f2, .slice B3 y.f3.length d3] : Array Value).size := by kernel_rfl
        have N1 := new_row wr #[.int .u16 0, .int .u16 0, .int .u16 0, .slice none 0 0] #[.int .u16 x.f0, .int .u16 x.f1, .int .u16 x.f2, .slice A3 x.f3.length c3] 67
        go_upto_region 6 with (refine wpList_store_rowTo rfl 67 (.tmp 8) (.tmp 21) rfl rfl wr.heap.size #[.int .u16 x.f0, .int .u16 x.f1, .int .u16 x.f2, .slice A3 x.f3.length c3] rfl rfl 67 #[.int .u16 0, .int .u16 0, .int .u16 0, .slice none 0 0] (heap_alloc_new _ _) sz rfl (by kernel_rfl) ?_)
        obtain ⟨f1, k1⟩ := N1
        generalize (wr.alloc (.cells #[.int .u16 0, .int .u16 0, .int .u16 0, .slice none 0 0] 67)).setRow wr.heap.size #[.int .u16 x.f0, .int .u16 x.f1, .int .u16 x.f2, .slice A3 x.f3.length c3] = W1 at *
        generalize wr.heap.size = x1 at *
        clear r0 r1 r2 r3
        replace s0 := k1.cell s0
        replace s1 := k1.cell s1
        replace s2 := k1.cell s2
        replace s3 := k1.cell s3
        have N2 := new_row W1 #[.int .u16 0, .int .u16 0, .int .u16 0, .slice none 0 0] #[.int .u16 y.f0, .int .u16 y.f1, .int .u16 y.f2, .slice B3 y.f3.length d3] 67
        go_upto_region 7 with (refine wpList_store_rowTo rfl 67 (.tmp 9) (.tmp 25) rfl rfl W1.heap.size #[.int .u16 y.f0, .int .u16 y.f1, .int .u16 y.f2, .slice B3 y.f3.length d3] rfl rfl 67 #[.int .u16 0, .int .u16 0, .int .u16 0, .slice none 0 0] (heap_alloc_new _ _) sz' rfl (by kernel_rfl) ?_)
        obtain ⟨f2, k2⟩ := N2
        replace f1 := k2.heap f1 (fun h => h)
        have K2 := k1.trans k2 (H := fun _ => False) (fun _ _ h => h) (fun _ _ h => h)
        generalize (W1.alloc (.cells #[.int .u16 0, .int .u16 0, .int .u16 0, .slice none 0 0] 67)).setRow W1.heap.size #[.int .u16 y.f0, .int .u16 y.f1, .int .u16 y.f2, .slice B3 y.f3.length d3] = W2 at *
        generalize W1.heap.size = x2 at *
        have hr := rec_calls W2 x y A3 B3 c3 d3 (EX.out.1.keep K2) (EX.out.2.keep K2) hx3
        have DK : Aside0 _ := ⟨D.out.2.trans K2 (H := fun _ => False) (fun _ _ h => h) (fun _ _ h => h)⟩
        clear s0 s1 s2 s3 k1 k2 K2 D EX
        by_cases hxy : x = y
        · have hd : decide (x = y) = true := decide_eq_true hxy
          rw [hd] at hr
          have D3 : Aside0 _ := ⟨D2.out.1 hxy⟩
          clear hxy hd D2
          go_wp2_with (first
            | (refine wpList_load_row rfl 67 (.tmp 8) rfl x1 rfl 67 #[.int .u16 x.f0, .int .u16 x.f1, .int .u16 x.f2, .slice A3 x.f3.length c3] (0, 0) _ f1 Tryz.underlying67 rfl sz ?_)
            | (refine wpList_load_row rfl 67 (.tmp 9) rfl x2 rfl 67 #[.int .u16 y.f0, .int .u16 y.f1, .int .u16 y.f2, .slice B3 y.f3.length d3] (0, 0) _ f2 Tryz.underlying67 rfl sz' ?_)
            | (go_at_fn 169; with_reducible refine hr.mono ?_; rintro e w3 ⟨rfl, k3⟩))
          have D4 : Aside0 (l.take (i + 1) = m.take (i + 1) ∧ Kept w w3 (fun _ => False)) := ⟨D3.out, DK.out.trans k3 (fun _ _ h => h) (fun _ _ h => h)⟩
          go_roundg (n - (i + 1))
          case measure => omega
          case rel => exact ⟨i + 1, by go_num, by omega, Nat.le_refl _, D4⟩
        · have hd : decide (x = y) = false := decide_eq_false hxy
          rw [hd] at hr
          have D3 : Aside0 _ := ⟨D2.out.2 hxy⟩
          clear hxy hd D2
          go_wp2_with (first
            | (refine wpList_load_row rfl 67 (.tmp 8) rfl x1 rfl 67 #[.int .u16 x.f0, .int .u16 x.f1, .int .u16 x.f2, .slice A3 x.f3.length c3] (0, 0) _ f1 Tryz.underlying67 rfl sz ?_)
            | (refine wpList_load_row rfl 67 (.tmp 9) rfl x2 rfl 67 #[.int .u16 y.f0, .int .u16 y.f1, .int .u16 y.f2, .slice B3 y.f3.length d3] (0, 0) _ f2 Tryz.underlying67 rfl sz' ?_)
            | (go_at_fn 169; with_reducible refine hr.mono ?_; rintro e w3 ⟨rfl, k3⟩))
          go_ret
          exact ⟨by rw [D3.out]; rfl, DK.out.trans k3 (fun _ _ h => h) (fun _ _ h => h)⟩
      · have hge : ¬ ((i : Int) < (n : Int)) := by omega
        have hin : i = n := by omega
        have F : Aside0 (decide (l = m) = true ∧ Kept w wr (fun _ => False)) := ⟨by
          have := D.out.1
          rw [hin, List.take_of_length_le (Nat.le_of_eq HA.out.1), List.take_of_length_le (Nat.le_of_eq HB.out.1)] at this
          simpa using this, D.out.2⟩
        clear D hin
        go_wp2
        go_ret
        exact ⟨by rw [F.out.1]; rfl, F.out.2⟩
  · have hd : Aside0 (decide (l = m) = false) := ⟨decide_eq_false fun e => hlen (by rw [e])⟩
    have hz : ((l.length : Int) != (m.length : Int)) = true := by simp; omega
    have hz2 : ¬ ((l.length : Int) = (m.length : Int)) := by omega
    clear ha hb hA hB
    go_enter Tryz.func168, Tryz.ntmps168
    go_wp2
    go_ret
    exact ⟨by rw [hd.out]; rfl, Kept.refl _ _⟩
set_option maxHeartbeats 1000000 in
set_option maxRecDepth 1000000 in
theorem eqo_calls (w : World) (A B : Option Addr) (n c c' : Nat) (f : Value) : Calls Tryz.prog 170 #[.slice A 0 c, .slice B n c', f] w fun r w' => r = .returned (.bool (decide (n = 0))) ∧ Kept w w' (fun _ => False) := by
  by_cases hn : n = 0
  · subst hn
    go_enter Tryz.func170, Tryz.ntmps170
    go_wp2
    go_loopg [17] 1 (fun kx s17 wr => s17 = .int .i64 0 ∧ wr = w)
    case atStart => exact ⟨rfl, rfl⟩
    case round =>
      obtain ⟨rfl, rfl⟩ := hrel
      go_wp2
      go_ret
      exact ⟨rfl, Kept.refl _ _⟩
  · have hz : ((0 : Int) != (n : Int)) = true := by simp; omega
    have hz2 : ¬ ((0 : Int) = (n : Int)) := by omega
    have hz3 : ((0 : Int) == (n : Int)) = false := by simp; omega
    have hd : Aside0 (decide (n = 0) = false) := ⟨decide_eq_false hn⟩
    go_enter Tryz.func170, Tryz.ntmps170
    go_wp2
    go_ret
    exact ⟨by rw [hd.out]; rfl, Kept.refl _ _⟩
end Go.Proofs.YtmbjlondehcheaaGreatDoor
end
section
set_option linter.unusedSimpArgs false
set_option linter.unusedVariables false
namespace Go.Proofs.YtmbjlondehcheaaGreatDoor
open Go.Shelf Go.RowKit Go.Lib Go.Sort Go.Proofs.YtmbjlondehcheaaGreatDoorW.PrintWords Go.Proofs.YtmbjlondehcheaaGreatDoorW.PrintLast Go.Proofs.YtmbjlondehcheaaGreatDoor.PTopTalk
abbrev codC (n m : FuncId) : Array Value := #[.func (.func n) #[] #[], .func (.func m) #[] #[]]
abbrev codV (n m : FuncId) : Value := .agg (codC n m)
def pofT : List (Int × Value) := [(1, codV 121 122), (2, codV 121 122), (5, codV 121 122), (15, codV 121 122), (3, codV 123 124), (4, codV 123 124), (6, codV 123 124), (16, codV 123 124), (22, codV 123 124), (23, codV 123 124), (24, codV 123 124), (7, codV 125 126), (8, codV 125 126), (11, codV 125 126), (12, codV 125 126), (17, codV 125 126), (20, codV 127 128), (21, codV 127 128), (43, codV 129 130)]
theorem two_rows (w : World) (Z C D : Array Value) (t : TypeId) : ∃ W n, (((w.alloc (.cells Z t)).alloc (.cells Z t)).setRow w.heap.size C).setRow (w.heap.size + 1) D = W ∧ w.heap.size = n ∧ W.heap[n]? = some (.cells C t (0, 0)) ∧ W.heap[n + 1]? = some (.cells D t (0, 0)) ∧ Kept w W (fun _ => False) ∧ n + 1 < W.heap.size := by
  have g1 := (Kept.alloc (w.alloc (.cells Z t)) (.cells Z t) (fun _ => False)).heap (heap_alloc_new w (.cells Z t)) (fun h => h)
  have g2 := heap_alloc_new (w.alloc (.cells Z t)) (.cells Z t)
  rw [asz] at g2
  have h1 := setRow_heap _ w.heap.size Z C t _ g1
  have q := Kept.setRow ((w.alloc (.cells Z t)).alloc (.cells Z t)) w.heap.size C (F := fun b => b = w.heap.size) rfl
  have h2 := q.heap g2 (by omega)
  have h3 := setRow_heap _ (w.heap.size + 1) Z D t _ h2
  have q2 := Kept.setRow (((w.alloc (.cells Z t)).alloc (.cells Z t)).setRow w.heap.size C) (w.heap.size + 1) D (F := fun b => b = w.heap.size + 1) rfl
  refine ⟨_, _, rfl, rfl, q2.heap h1 (by omega), h3, ?_, ?_⟩
  · have q0 : Kept w ((w.alloc (.cells Z t)).alloc (.cells Z t)) (fun _ => False) := (Kept.alloc w _ _).trans (Kept.alloc _ _ (fun _ => False)) (fun _ _ h => h) (fun _ _ h => h)
    exact (q0.trans q (H := fun _ => False) (fun _ _ h => h) (fun b hb e => by omega)).trans q2 (fun _ _ h => h) (fun b hb e => by omega)
  · exact heap_lt h3
theorem wp_makeMap {P : Program} {a : Act} {w : World} {K : Act → World → Prop} {Q : Exit → Act → World → Prop} {op : Oper} (t : TypeId) (ho : op.op = .makeMap t none) (h : K (a.put op.dst (.map (some w.heap.size))) (w.alloc (.map #[] 0))) : op.wp P a w K Q := by
  unfold Oper.wp execOp
  simp [ho, run_makeMap]
  exact h
theorem nl {P : Program} {ops : Array Oper} {Q : Exit → Act → World → Prop} {l : List Oper} {a a' : Act} {w : World} {d : Option Tmp} {v : Value} (N : Option Tmp) (h : wpList P ops Q l a' w) (hN : d = N := by rfl) (ha : a.put N v = a' := by (try simp only [pt, p0, p1, p2]); rfl) : wpList P ops Q l (a.put d v) w := by subst hN; exact ha ▸ h
theorem put_in {w : World} {B : Nat} {es : List (Int × Value)} (hb : w.heap[B]? = some (.map (ments .u8 es).toArray es.length)) (a : Int) (v : Value) (hn : ∀ e ∈ es, ¬ e.1 = a) :
    ∃ w', (Instr.mapUpdate 227 (.map (some B)) (.int .u8 a) v).run Tryz.prog w = .ok () w' ∧ w'.heap[B]? = some (.map (ments .u8 (es ++ [(a, v)])).toArray (es ++ [(a, v)]).length) ∧ Kept w w' (fun b => b = B) := by
  have q := Kept.block' w B (.map (ments .u8 (es ++ [(a, v)])).toArray (es ++ [(a, v)]).length) (F := fun b => b = B) rfl
  exact ⟨_, map_put Tryz.underlying227 Tryz.underlying5 hb a v hn, ChangeMaps.heap_setBlock_same hb _, q⟩
set_option maxHeartbeats 1500000 in
set_option maxRecDepth 1000000 in
theorem pof_calls (w : World) (c : Int) (ua ub : Value) (ok : Bool) (h1 : ua.oneCell' = true) (h2 : ub.oneCell' = true) (hl : ∀ W B, W.heap[B]? = some (.map (ments .u8 pofT).toArray pofT.length) → (Instr.lookup 227 (.map (some B)) (.int .u8 c) true).run Tryz.prog W = .ok (.tuple #[.agg #[ua, ub], .bool ok]) W) :
    Calls Tryz.prog 116 #[.int .u8 c] w fun r w' => r = .returned (.tuple #[.agg #[ua, ub], .bool ok]) ∧ Kept w w' (fun _ => False) := by
  have f2 := heap_alloc_new w (.cells #[.nilFunc, .nilFunc] 220)
  have q2 := Kept.alloc w (.cells #[.nilFunc, .nilFunc] 220) (fun _ => False)
  have HL : Aside0 _ := ⟨hl⟩
  have sz : ∀ n m : FuncId, (Tryz.prog.info? 220).map (·.size) = some (codC n m).size := fun _ _ => by kernel_rfl
  have szp : (Tryz.prog.info? 220).map (·.size) = some (#[ua, ub] : Array Value).size := by kernel_rfl
  have hone : (#[ua, ub] : Array Value).all (·.oneCell') = true := by simp [h1, h2]
  have H1 : Aside0 _ := ⟨hone⟩
  clear hl h1 h2 hone
  go_enter Tryz.func116, Tryz.ntmps116
  go_upto_region 1 with fail
  generalize w.alloc (.cells #[.nilFunc, .nilFunc] 220) = w1 at *
  generalize hrb : w.heap.size = rb at *
  have HRB : Aside0 _ := ⟨hrb⟩
  clear hrb
  obtain ⟨w3, b4, e1, e2, f4, f5, k3, l3⟩ := two_rows w1 #[.nilFunc, .nilFunc] (codC 121 122) (codC 123 124) 220
  have g4 := heap_alloc_new w1 (.cells #[.nilFunc, .nilFunc] 220)
  have g4' := (Kept.alloc (w1.alloc (.cells #[.nilFunc, .nilFunc] 220)) (.cells #[.nilFunc, .nilFunc] 220) (fun _ => False)).heap g4 (fun h => h)
  have g5 := heap_alloc_new (w1.alloc (.cells #[.nilFunc, .nilFunc] 220)) (.cells #[.nilFunc, .nilFunc] 220)
  rw [asz] at g5
  have g5' := (Kept.setRow ((w1.alloc (.cells #[.nilFunc, .nilFunc] 220)).alloc (.cells #[.nilFunc, .nilFunc] 220)) w1.heap.size (codC 121 122) (F := fun b => b = w1.heap.size) rfl).heap g5 (by omega)
  have E : Aside0 _ := ⟨And.intro e1 e2⟩
  clear e1 e2 g4 g5
  go_upto_region 2 with (first
    | (refine wpList_buildTo rfl 220 _ rfl (some 11) rfl (codC 121 122) ?_ ?_; (simp only [List.map_toArray, List.map_cons, List.map_nil]; kernel_rfl))
    | (refine wpList_buildTo rfl 220 _ rfl (some 12) rfl (codC 123 124) ?_ ?_; (simp only [List.map_toArray, List.map_cons, List.map_nil]; kernel_rfl))
    | (refine wpList_store_rowTo rfl 220 (.tmp 4) (.tmp 11) rfl rfl w1.heap.size (codC 121 122) rfl rfl 220 #[.nilFunc, .nilFunc] g4' (sz _ _) rfl (by kernel_rfl) ?_)
    | (refine wpList_store_rowTo rfl 220 (.tmp 5) (.tmp 12) rfl rfl (w1.heap.size + 1) (codC 123 124) rfl rfl 220 #[.nilFunc, .nilFunc] g5' (sz _ _) rfl (by kernel_rfl) ?_))
  rw [E.out.1, E.out.2]
  clear g4' g5' E
  obtain ⟨w4, b6, e1, e2, f6, f7, k4, l4⟩ := two_rows w3 #[.nilFunc, .nilFunc] (codC 125 126) (codC 127 128) 220
  have g4 := heap_alloc_new w3 (.cells #[.nilFunc, .nilFunc] 220)
  have g4' := (Kept.alloc (w3.alloc (.cells #[.nilFunc, .nilFunc] 220)) (.cells #[.nilFunc, .nilFunc] 220) (fun _ => False)).heap g4 (fun h => h)
  have g5 := heap_alloc_new (w3.alloc (.cells #[.nilFunc, .nilFunc] 220)) (.cells #[.nilFunc, .nilFunc] 220)
  rw [asz] at g5
  have g5' := (Kept.setRow ((w3.alloc (.cells #[.nilFunc, .nilFunc] 220)).alloc (.cells #[.nilFunc, .nilFunc] 220)) w3.heap.size (codC 125 126) (F := fun b => b = w3.heap.size) rfl).heap g5 (by omega)
  have E : Aside0 _ := ⟨And.intro e1 e2⟩
  clear e1 e2 g4 g5
  go_upto_region 3 with (first
    | (refine wpList_buildTo rfl 220 _ rfl (some 13) rfl (codC 125 126) ?_ ?_; (simp only [List.map_toArray, List.map_cons, List.map_nil]; kernel_rfl))
    | (refine wpList_buildTo rfl 220 _ rfl (some 14) rfl (codC 127 128) ?_ ?_; (simp only [List.map_toArray, List.map_cons, List.map_nil]; kernel_rfl))
    | (refine wpList_store_rowTo rfl 220 (.tmp 6) (.tmp 13) rfl rfl w3.heap.size (codC 125 126) rfl rfl 220 #[.nilFunc, .nilFunc] g4' (sz _ _) rfl (by kernel_rfl) ?_)
    | (refine wpList_store_rowTo rfl 220 (.tmp 7) (.tmp 14) rfl rfl (w3.heap.size + 1) (codC 127 128) rfl rfl 220 #[.nilFunc, .nilFunc] g5' (sz _ _) rfl (by kernel_rfl) ?_))
  rw [E.out.1, E.out.2]
  have lb6 : b4 + 1 < b6 := by have := E.out.2; omega
  clear g4' g5' E
  replace f4 := k4.heap f4 (fun h => h)
  replace f5 := k4.heap f5 (fun h => h)
  have f2' := (k3.trans k4 (H := fun _ => False) (fun _ _ h => h) (fun _ _ h => h)).heap f2 (fun h => h)
  have Q4 := (q2.trans k3 (H := fun _ => False) (fun _ _ h => h) (fun _ _ h => h)).trans k4 (H := fun _ => False) (fun _ _ h => h) (fun _ _ h => h)
  clear q2 k3 k4 f2
  have hmm := @run_makeMap Tryz.prog
  have hb0 : (w4.alloc (.map #[] 0)).heap[w4.heap.size]? = some (.map (ments .u8 []).toArray ([] : List (Int × Value)).length) := heap_alloc_new _ _
  have q5 := Kept.alloc w4 (.map #[] 0) (fun _ => False)
  have F4 := q5.heap f4 (fun h => h)
  have F5 := q5.heap f5 (fun h => h)
  have F6 := q5.heap f6 (fun h => h)
  have F7 := q5.heap f7 (fun h => h)
  have F2 := q5.heap f2' (fun h => h)
  have Q5 := Q4.trans q5 (H := fun _ => False) (fun _ _ h => h) (fun _ _ h => h)
  have n4 : ¬ b4 = w4.heap.size := by omega
  have n5 : ¬ b4 + 1 = w4.heap.size := by omega
  have n6 : ¬ b6 = w4.heap.size := by omega
  have n7 : ¬ b6 + 1 = w4.heap.size := by omega
  have n2 : ¬ rb = w4.heap.size := fun e => by have := heap_lt f2'; omega
  have nB : w.heap.size ≤ w4.heap.size := Q4.size
  generalize hB : w4.heap.size = B at *
  generalize hv0 : w4.alloc (.map #[] 0) = v0 at *
  have HV : Aside0 _ := ⟨And.intro hB hv0⟩
  clear f4 f5 f6 f7 f2' q5 Q4 l3 l4 lb6
  obtain ⟨v1, r0, hb1, m0⟩ := put_in hb0 1 (codV 121 122) (by simp)
  simp only [List.nil_append, List.cons_append] at hb1
  have M1 : Kept v0 v1 (fun b => b = B) := m0
  have d0 : v0.heap[b4]? = some (.cells (codC 121 122) 220 (0, 0)) := F4
  obtain ⟨v2, r1, hb2, m1⟩ := put_in hb1 2 (codV 121 122) (by simp)
  simp only [List.nil_append, List.cons_append] at hb2
  have M2 : Kept v0 v2 (fun b => b = B) := M1.trans m1 (fun _ _ h => h) (fun _ _ h => h)
  have d1 : v1.heap[b4]? = some (.cells (codC 121 122) 220 (0, 0)) := M1.heap F4 n4
  obtain ⟨v3, r2, hb3, m2⟩ := put_in hb2 5 (codV 121 122) (by simp)
  simp only [List.nil_append, List.cons_append] at hb3
  have M3 : Kept v0 v3 (fun b => b = B) := M2.trans m2 (fun _ _ h => h) (fun _ _ h => h)
  have d2 : v2.heap[b4]? = some (.cells (codC 121 122) 220 (0, 0)) := M2.heap F4 n4
  obtain ⟨v4, r3, hb4, m3⟩ := put_in hb3 15 (codV 121 122) (by simp)
  simp only [List.nil_append, List.cons_append] at hb4
  have M4 : Kept v0 v4 (fun b => b = B) := M3.trans m3 (fun _ _ h => h) (fun _ _ h => h)
  have d3 : v3.heap[b4]? = some (.cells (codC 121 122) 220 (0, 0)) := M3.heap F4 n4
  obtain ⟨v5, r4, hb5, m4⟩ := put_in hb4 3 (codV 123 124) (by simp)
  simp only [List.nil_append, List.cons_append] at hb5
  have M5 : Kept v0 v5 (fun b => b = B) := M4.trans m4 (fun _ _ h => h) (fun _ _ h => h)
  have d4 : v4.heap[(b4 + 1)]? = some (.cells (codC 123 124) 220 (0, 0)) := M4.heap F5 n5
  obtain ⟨v6, r5, hb6, m5⟩ := put_in hb5 4 (codV 123 124) (by simp)
  simp only [List.nil_append, List.cons_append] at hb6
  have M6 : Kept v0 v6 (fun b => b = B) := M5.trans m5 (fun _ _ h => h) (fun _ _ h => h)
  have d5 : v5.heap[(b4 + 1)]? = some (.cells (codC 123 124) 220 (0, 0)) := M5.heap F5 n5
  obtain ⟨v7, r6, hb7, m6⟩ := put_in hb6 6 (codV 123 124) (by simp)
  simp only [List.nil_append, List.cons_append] at hb7
  have M7 : Kept v0 v7 (fun b => b = B) := M6.trans m6 (fun _ _ h => h) (fun _ _ h => h)
  have d6 : v6.heap[(b4 + 1)]? = some (.cells (codC 123 124) 220 (0, 0)) := M6.heap F5 n5
  obtain ⟨v8, r7, hb8, m7⟩ := put_in hb7 16 (codV 123 124) (by simp)
  simp only [List.nil_append, List.cons_append] at hb8
  have M8 : Kept v0 v8 (fun b => b = B) := M7.trans m7 (fun _ _ h => h) (fun _ _ h => h)
  have d7 : v7.heap[(b4 + 1)]? = some (.cells (codC 123 124) 220 (0, 0)) := M7.heap F5 n5
  obtain ⟨v9, r8, hb9, m8⟩ := put_in hb8 22 (codV 123 124) (by simp)
  simp only [List.nil_append, List.cons_append] at hb9
  have M9 : Kept v0 v9 (fun b => b = B) := M8.trans m8 (fun _ _ h => h) (fun _ _ h => h)
  have d8 : v8.heap[(b4 + 1)]? = some (.cells (codC 123 124) 220 (0, 0)) := M8.heap F5 n5
  obtain ⟨v10, r9, hb10, m9⟩ := put_in hb9 23 (codV 123 124) (by simp)
  simp only [List.nil_append, List.cons_append] at hb10
  have M10 : Kept v0 v10 (fun b => b = B) := M9.trans m9 (fun _ _ h => h) (fun _ _ h => h)
  have d9 : v9.heap[(b4 + 1)]? = some (.cells (codC 123 124) 220 (0, 0)) := M9.heap F5 n5
  obtain ⟨v11, r10, hb11, m10⟩ := put_in hb10 24 (codV 123 124) (by simp)
  simp only [List.nil_append, List.cons_append] at hb11
  have M11 : Kept v0 v11 (fun b => b = B) := M10.trans m10 (fun _ _ h => h) (fun _ _ h => h)
  have d10 : v10.heap[(b4 + 1)]? = some (.cells (codC 123 124) 220 (0, 0)) := M10.heap F5 n5
  obtain ⟨v12, r11, hb12, m11⟩ := put_in hb11 7 (codV 125 126) (by simp)
  simp only [List.nil_append, List.cons_append] at hb12
  have M12 : Kept v0 v12 (fun b => b = B) := M11.trans m11 (fun _ _ h => h) (fun _ _ h => h)
  have d11 : v11.heap[b6]? = some (.cells (codC 125 126) 220 (0, 0)) := M11.heap F6 n6
  obtain ⟨v13, r12, hb13, m12⟩ := put_in hb12 8 (codV 125 126) (by simp)
  simp only [List.nil_append, List.cons_append] at hb13
  have M13 : Kept v0 v13 (fun b => b = B) := M12.trans m12 (fun _ _ h => h) (fun _ _ h => h)
  have d12 : v12.heap[b6]? = some (.cells (codC 125 126) 220 (0, 0)) := M12.heap F6 n6
  obtain ⟨v14, r13, hb14, m13⟩ := put_in hb13 11 (codV 125 126) (by simp)
  simp only [List.nil_append, List.cons_append] at hb14
  have M14 : Kept v0 v14 (fun b => b = B) := M13.trans m13 (fun _ _ h => h) (fun _ _ h => h)
  have d13 : v13.heap[b6]? = some (.cells (codC 125 126) 220 (0, 0)) := M13.heap F6 n6
  obtain ⟨v15, r14, hb15, m14⟩ := put_in hb14 12 (codV 125 126) (by simp)
  simp only [List.nil_append, List.cons_append] at hb15
  have M15 : Kept v0 v15 (fun b => b = B) := M14.trans m14 (fun _ _ h => h) (fun _ _ h => h)
  have d14 : v14.heap[b6]? = some (.cells (codC 125 126) 220 (0, 0)) := M14.heap F6 n6
  obtain ⟨v16, r15, hb16, m15⟩ := put_in hb15 17 (codV 125 126) (by simp)
  simp only [List.nil_append, List.cons_append] at hb16
  have M16 : Kept v0 v16 (fun b => b = B) := M15.trans m15 (fun _ _ h => h) (fun _ _ h => h)
  have d15 : v15.heap[b6]? = some (.cells (codC 125 126) 220 (0, 0)) := M15.heap F6 n6
  obtain ⟨v17, r16, hb17, m16⟩ := put_in hb16 20 (codV 127 128) (by simp)
  simp only [List.nil_append, List.cons_append] at hb17
  have M17 : Kept v0 v17 (fun b => b = B) := M16.trans m16 (fun _ _ h => h) (fun _ _ h => h)
  have d16 : v16.heap[(b6 + 1)]? = some (.cells (codC 127 128) 220 (0, 0)) := M16.heap F7 n7
  obtain ⟨v18, r17, hb18, m17⟩ := put_in hb17 21 (codV 127 128) (by simp)
  simp only [List.nil_append, List.cons_append] at hb18
  have M18 : Kept v0 v18 (fun b => b = B) := M17.trans m17 (fun _ _ h => h) (fun _ _ h => h)
  have d17 : v17.heap[(b6 + 1)]? = some (.cells (codC 127 128) 220 (0, 0)) := M17.heap F7 n7
  obtain ⟨v19, r18, hb19, m18⟩ := put_in hb18 43 (codV 129 130) (by simp)
  simp only [List.nil_append, List.cons_append] at hb19
  have M19 : Kept v0 v19 (fun b => b = B) := M18.trans m18 (fun _ _ h => h) (fun _ _ h => h)
  clear m0 m1 m2 m3 m4 m5 m6 m7 m8 m9 m10 m11 m12 m13 m14 m15 m16 m17 m18
  have f2 := M19.heap F2 n2
  have QQ : Kept w v19 (fun _ => False) := Q5.trans M19 (H := fun _ => False) (fun _ _ h => h) (fun b hb e => by omega)
  have hlk := HL.out v19 B hb19
  clear F2 F4 F5 F6 F7 n2 n4 n5 n6 n7 Q5 nB HL M1 hb1 M2 hb2 M3 hb3 M4 hb4 M5 hb5 M6 hb6 M7 hb7 M8 hb8 M9 hb9 M10 hb10 M11 hb11 M12 hb12 M13 hb13 M14 hb14 M15 hb15 M16 hb16 M17 hb17 M18 hb18 M19 hb19 hb0
  refine wp_region_lit ?_
  refine wpList_plain rfl fun _ hK => wp_makeMap 227 rfl (hK _ _ (nl (some 15) ?_))
  rw [HV.out.1, HV.out.2]
  refine wpList_load_row rfl 220 (.tmp 4) rfl b4 rfl 220 (codC 121 122) (0, 0) _ d0 Tryz.underlying220 rfl (sz _ _) (nl (some 16) ?_)
  refine wpList_plain rfl fun _ hK => wp_insert 227 (.tmp 15) (.const (.int .u8 1)) (.tmp 16) rfl (.map (some B)) (.int .u8 1) (codV 121 122) rfl rfl rfl _ r0 (hK _ _ (nl none ?_))
  refine wpList_load_row rfl 220 (.tmp 4) rfl b4 rfl 220 (codC 121 122) (0, 0) _ d1 Tryz.underlying220 rfl (sz _ _) (nl (some 17) ?_)
  refine wpList_plain rfl fun _ hK => wp_insert 227 (.tmp 15) (.const (.int .u8 2)) (.tmp 17) rfl (.map (some B)) (.int .u8 2) (codV 121 122) rfl rfl rfl _ r1 (hK _ _ (nl none ?_))
  refine wpList_load_row rfl 220 (.tmp 4) rfl b4 rfl 220 (codC 121 122) (0, 0) _ d2 Tryz.underlying220 rfl (sz _ _) (nl (some 18) ?_)
  refine wpList_plain rfl fun _ hK => wp_insert 227 (.tmp 15) (.const (.int .u8 5)) (.tmp 18) rfl (.map (some B)) (.int .u8 5) (codV 121 122) rfl rfl rfl _ r2 (hK _ _ (nl none ?_))
  refine wpList_load_row rfl 220 (.tmp 4) rfl b4 rfl 220 (codC 121 122) (0, 0) _ d3 Tryz.underlying220 rfl (sz _ _) (nl (some 19) ?_)
  refine wpList_plain rfl fun _ hK => wp_insert 227 (.tmp 15) (.const (.int .u8 15)) (.tmp 19) rfl (.map (some B)) (.int .u8 15) (codV 121 122) rfl rfl rfl _ r3 (hK _ _ (nl none ?_))
  refine wpList_load_row rfl 220 (.tmp 5) rfl (b4 + 1) rfl 220 (codC 123 124) (0, 0) _ d4 Tryz.underlying220 rfl (sz _ _) (nl (some 20) ?_)
  refine wpList_plain rfl fun _ hK => wp_insert 227 (.tmp 15) (.const (.int .u8 3)) (.tmp 20) rfl (.map (some B)) (.int .u8 3) (codV 123 124) rfl rfl rfl _ r4 (hK _ _ (nl none ?_))
  refine wpList_load_row rfl 220 (.tmp 5) rfl (b4 + 1) rfl 220 (codC 123 124) (0, 0) _ d5 Tryz.underlying220 rfl (sz _ _) (nl (some 21) ?_)
  refine wpList_plain rfl fun _ hK => wp_insert 227 (.tmp 15) (.const (.int .u8 4)) (.tmp 21) rfl (.map (some B)) (.int .u8 4) (codV 123 124) rfl rfl rfl _ r5 (hK _ _ (nl none ?_))
  refine wpList_load_row rfl 220 (.tmp 5) rfl (b4 + 1) rfl 220 (codC 123 124) (0, 0) _ d6 Tryz.underlying220 rfl (sz _ _) (nl (some 22) ?_)
  refine wpList_plain rfl fun _ hK => wp_insert 227 (.tmp 15) (.const (.int .u8 6)) (.tmp 22) rfl (.map (some B)) (.int .u8 6) (codV 123 124) rfl rfl rfl _ r6 (hK _ _ (nl none ?_))
  refine wpList_load_row rfl 220 (.tmp 5) rfl (b4 + 1) rfl 220 (codC 123 124) (0, 0) _ d7 Tryz.underlying220 rfl (sz _ _) (nl (some 23) ?_)
  refine wpList_plain rfl fun _ hK => wp_insert 227 (.tmp 15) (.const (.int .u8 16)) (.tmp 23) rfl (.map (some B)) (.int .u8 16) (codV 123 124) rfl rfl rfl _ r7 (hK _ _ (nl none ?_))
  refine wpList_load_row rfl 220 (.tmp 5) rfl (b4 + 1) rfl 220 (codC 123 124) (0, 0) _ d8 Tryz.underlying220 rfl (sz _ _) (nl (some 24) ?_)
  refine wpList_plain rfl fun _ hK => wp_insert 227 (.tmp 15) (.const (.int .u8 22)) (.tmp 24) rfl (.map (some B)) (.int .u8 22) (codV 123 124) rfl rfl rfl _ r8 (hK _ _ (nl none ?_))
  refine wpList_load_row rfl 220 (.tmp 5) rfl (b4 + 1) rfl 220 (codC 123 124) (0, 0) _ d9 Tryz.underlying220 rfl (sz _ _) (nl (some 25) ?_)
  refine wpList_plain rfl fun _ hK => wp_insert 227 (.tmp 15) (.const (.int .u8 23)) (.tmp 25) rfl (.map (some B)) (.int .u8 23) (codV 123 124) rfl rfl rfl _ r9 (hK _ _ (nl none ?_))
  refine wpList_load_row rfl 220 (.tmp 5) rfl (b4 + 1) rfl 220 (codC 123 124) (0, 0) _ d10 Tryz.underlying220 rfl (sz _ _) (nl (some 26) ?_)
  refine wpList_plain rfl fun _ hK => wp_insert 227 (.tmp 15) (.const (.int .u8 24)) (.tmp 26) rfl (.map (some B)) (.int .u8 24) (codV 123 124) rfl rfl rfl _ r10 (hK _ _ (nl none ?_))
  refine wpList_load_row rfl 220 (.tmp 6) rfl b6 rfl 220 (codC 125 126) (0, 0) _ d11 Tryz.underlying220 rfl (sz _ _) (nl (some 27) ?_)
  refine wpList_plain rfl fun _ hK => wp_insert 227 (.tmp 15) (.const (.int .u8 7)) (.tmp 27) rfl (.map (some B)) (.int .u8 7) (codV 125 126) rfl rfl rfl _ r11 (hK _ _ (nl none ?_))
  refine wpList_load_row rfl 220 (.tmp 6) rfl b6 rfl 220 (codC 125 126) (0, 0) _ d12 Tryz.underlying220 rfl (sz _ _) (nl (some 28) ?_)
  refine wpList_plain rfl fun _ hK => wp_insert 227 (.tmp 15) (.const (.int .u8 8)) (.tmp 28) rfl (.map (some B)) (.int .u8 8) (codV 125 126) rfl rfl rfl _ r12 (hK _ _ (nl none ?_))
  refine wpList_load_row rfl 220 (.tmp 6) rfl b6 rfl 220 (codC 125 126) (0, 0) _ d13 Tryz.underlying220 rfl (sz _ _) (nl (some 29) ?_)
  refine wpList_plain rfl fun _ hK => wp_insert 227 (.tmp 15) (.const (.int .u8 11)) (.tmp 29) rfl (.map (some B)) (.int .u8 11) (codV 125 126) rfl rfl rfl _ r13 (hK _ _ (nl none ?_))
  refine wpList_load_row rfl 220 (.tmp 6) rfl b6 rfl 220 (codC 125 126) (0, 0) _ d14 Tryz.underlying220 rfl (sz _ _) (nl (some 30) ?_)
  refine wpList_plain rfl fun _ hK => wp_insert 227 (.tmp 15) (.const (.int .u8 12)) (.tmp 30) rfl (.map (some B)) (.int .u8 12) (codV 125 126) rfl rfl rfl _ r14 (hK _ _ (nl none ?_))
  refine wpList_load_row rfl 220 (.tmp 6) rfl b6 rfl 220 (codC 125 126) (0, 0) _ d15 Tryz.underlying220 rfl (sz _ _) (nl (some 31) ?_)
  refine wpList_plain rfl fun _ hK => wp_insert 227 (.tmp 15) (.const (.int .u8 17)) (.tmp 31) rfl (.map (some B)) (.int .u8 17) (codV 125 126) rfl rfl rfl _ r15 (hK _ _ (nl none ?_))
  refine wpList_load_row rfl 220 (.tmp 7) rfl (b6 + 1) rfl 220 (codC 127 128) (0, 0) _ d16 Tryz.underlying220 rfl (sz _ _) (nl (some 32) ?_)
  refine wpList_plain rfl fun _ hK => wp_insert 227 (.tmp 15) (.const (.int .u8 20)) (.tmp 32) rfl (.map (some B)) (.int .u8 20) (codV 127 128) rfl rfl rfl _ r16 (hK _ _ (nl none ?_))
  refine wpList_load_row rfl 220 (.tmp 7) rfl (b6 + 1) rfl 220 (codC 127 128) (0, 0) _ d17 Tryz.underlying220 rfl (sz _ _) (nl (some 33) ?_)
  refine wpList_plain rfl fun _ hK => wp_insert 227 (.tmp 15) (.const (.int .u8 21)) (.tmp 33) rfl (.map (some B)) (.int .u8 21) (codV 127 128) rfl rfl rfl _ r17 (hK _ _ (nl none ?_))
  refine wpList_buildTo rfl 220 _ rfl (some 34) rfl (codC 129 130) (by simp only [List.map_toArray, List.map_cons, List.map_nil]; kernel_rfl) (nl (some 34) ?_)
  refine wpList_plain rfl fun _ hK => wp_insert 227 (.tmp 15) (.const (.int .u8 43)) (.tmp 34) rfl (.map (some B)) (.int .u8 43) (codV 129 130) rfl rfl rfl _ r18 (hK _ _ (nl none ?_))
  go_upto_region 4 with fail
  clear r0 r1 r2 r3 r4 r5 r6 r7 r8 r9 r10 r11 r12 r13 r14 r15 r16 r17 r18 d0 d1 d2 d3 d4 d5 d6 d7 d8 d9 d10 d11 d12 d13 d14 d15 d16 d17 hmm
  generalize v19 = v at *
  have N9 := new_row v #[.nilFunc, .nilFunc] #[ua, ub] 220
  go_upto_region 5 with (refine wpList_store_rowTo rfl 220 (.tmp 9) (.tmp 40) rfl rfl v.heap.size #[ua, ub] rfl rfl 220 #[.nilFunc, .nilFunc] (heap_alloc_new _ _) szp rfl H1.out ?_)
  obtain ⟨f9, k9⟩ := N9
  replace f2 := k9.heap f2 (fun h => h)
  have QR := QQ.trans k9 (H := fun _ => False) (fun _ _ h => h) (fun _ _ h => h)
  clear QQ k9 hlk
  generalize (v.alloc (.cells #[.nilFunc, .nilFunc] 220)).setRow v.heap.size #[ua, ub] = v' at *
  generalize v.heap.size = b9 at *
  have FIN : Aside0 (Kept w (v'.setRow rb #[ua, ub]) (fun _ => False)) := ⟨QR.trans (Kept.setRow v' rb _ (F := fun b => b = rb) rfl) (fun _ _ h => h) (fun b hb e => by have := HRB.out; omega)⟩
  clear QR
  go_wp2_with (first
    | (refine wpList_load_row rfl 220 (.tmp 9) rfl b9 rfl 220 #[ua, ub] (0, 0) _ f9 Tryz.underlying220 rfl szp ?_)
    | (refine wpList_store_rowTo rfl 220 (.tmp 2) (.tmp 42) rfl rfl rb #[ua, ub] rfl rfl 220 #[.nilFunc, .nilFunc] f2 szp rfl H1.out ?_))
  refine bodyPost_ret (results_ct (p := 2) (u := 3) (ty := 220) Tryz.results116 _ _ rb 220 #[ua, ub] (0, 0) _ rfl (setRow_heap _ _ _ _ 220 _ f2) Tryz.underlying220 rfl szp) rfl ?_
  exact ⟨rfl, FIN.out⟩
end Go.Proofs.YtmbjlondehcheaaGreatDoor
end
