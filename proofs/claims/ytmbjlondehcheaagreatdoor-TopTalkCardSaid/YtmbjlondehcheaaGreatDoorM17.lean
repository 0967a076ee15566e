/- TopTalk: part 17 of the walks: of HHexa, HHexaPut, HAsc, HTake, HDigs, HAscP. -/
import Derived.Test.YtmbjlondehcheaaGreatDoorM16
import Derived.Shelf.Strings.Builder1
section
namespace Go.Proofs.YtmbjlondehcheaaGreatDoor.HHexa
open Go.RowKit Go.Proofs.YtmbjlondehcheaaGreatDoorW.PrintWords Go.Proofs.YtmbjlondehcheaaGreatDoorW.PrintLast
def sign (n : Nat) : Int := if n < 10 then 48 + (n : Int) else 55 + (n : Int)
def dig : Array Value := ((List.range 16).map fun i => Value.int .u8 (sign i)).toArray
theorem dig_size : dig.size = 16 := by simp [dig]
theorem dig_get (i : Nat) (h : i < 16) : dig[i]? = some (.int .u8 (sign i)) := by simp [dig, h]
theorem zero293 (w : World) : (zeroValue 293).run Tryz.prog w = .ok (.agg #[.int .u8 0, .int .u8 0, .int .u8 0, .int .u8 0, .int .u8 0, .int .u8 0, .int .u8 0, .int .u8 0, .int .u8 0, .int .u8 0, .int .u8 0, .int .u8 0, .int .u8 0, .int .u8 0, .int .u8 0, .int .u8 0]) w := by kernel_rfl
theorem info293 : (Tryz.prog.info? 293).map (·.size) = some 16 := by kernel_rfl
theorem below_setRow {B g : Nat} {w : World} (h : B ≤ g) (cs : Array Value) : Below B w (w.setRow g cs) :=
  ⟨rfl, rfl, rfl, by simp, fun k hk => setRow_other w g k cs (by omega)⟩
set_option maxRecDepth 100000 in
theorem digits_calls (w : World) :
    Calls Tryz.prog 215 #[] w fun e w' => e = .returned (.agg dig) ∧ Below w.heap.size w w' := by
  have hz := zero293
  go_enter Tryz.func215, Tryz.ntmps215
  go_wp2
  have hd : #[.int .u8 48, .int .u8 49, .int .u8 50, .int .u8 51, .int .u8 52, .int .u8 53, .int .u8 54, .int .u8 55, .int .u8 56, .int .u8 57, .int .u8 65, .int .u8 66, .int .u8 67, .int .u8 68, .int .u8 69, .int .u8 70] = dig := by kernel_rfl
  rw [hd]
  exact bodyPost_ret (v := .agg dig) (results_cell_row (p := 0) (ty := 293) Tryz.results215 _ _ w.heap.size _ dig _ _ rfl (heap_alloc_new _ _) Tryz.underlying293 rfl (by rw [dig_size]; exact info293)) rfl ⟨rfl, (Below.refl _ _).alloc (Nat.le_refl _) _⟩
def digit (c : Int) : Int := if 48 ≤ c ∧ c ≤ 57 then c - 48 else if 65 ≤ c ∧ c ≤ 70 then c - 55 else -1
theorem digit_sign (n : Nat) (h : n < 16) : digit (sign n) = n := by
  unfold digit sign; split <;> split <;> omega
theorem digit_none (c : Int) (h : ∀ n : Nat, n < 16 → sign n ≠ c) : digit c = -1 := by
  unfold digit
  split
  · exact absurd (by unfold sign; rw [if_pos (by omega)]; omega) (h (c - 48).toNat (by omega))
  · split
    · exact absurd (by unfold sign; rw [if_neg (by omega)]; omega) (h (c - 55).toNat (by omega))
    · rfl
theorem index293 : ∀ (k : Nat), k < 16 → ∀ (w : World), (Instr.index 293 (.agg dig) (.int .i64 (k : Int))).run Tryz.prog w = .ok (.int .u8 (sign k)) w
  | 0, _, _ => by kernel_rfl
  | 1, _, _ => by kernel_rfl
  | 2, _, _ => by kernel_rfl
  | 3, _, _ => by kernel_rfl
  | 4, _, _ => by kernel_rfl
  | 5, _, _ => by kernel_rfl
  | 6, _, _ => by kernel_rfl
  | 7, _, _ => by kernel_rfl
  | 8, _, _ => by kernel_rfl
  | 9, _, _ => by kernel_rfl
  | 10, _, _ => by kernel_rfl
  | 11, _, _ => by kernel_rfl
  | 12, _, _ => by kernel_rfl
  | 13, _, _ => by kernel_rfl
  | 14, _, _ => by kernel_rfl
  | 15, _, _ => by kernel_rfl
  | n + 16, h, _ => absurd h (by omega)
set_option maxRecDepth 100000 in
theorem digit_calls (c : Int) (w : World) :
    Calls Tryz.prog 212 #[.int .u8 c] w fun e w' => e = .returned (.int .i64 (digit c)) ∧ Below w.heap.size w w' := by
  go_enter Tryz.func212, Tryz.ntmps212
  go_wp2_with (go_at_call 215; (with_reducible refine (digits_calls _).mono ?_); rintro e w1 ⟨rfl, hb⟩; have HB := Aside0.mk hb; clear hb)
  go_loop [6] (fun v6 => ∃ (k : Nat), v6 = .int .i64 k ∧ k ≤ 16 ∧ Aside0 (∀ n : Nat, n < k → sign n ≠ c)) (fun v6 => 16 - (intOf v6).toNat)
  case atStart => exact ⟨0, rfl, by omega, ⟨fun n h => by omega⟩⟩
  case round =>
    obtain ⟨k, rfl, hk, HN⟩ := hrel
    by_cases hlt : k < 16
    · have hi := index293 k hlt
      by_cases he : sign k = c
      · have hb : (sign k == c) = true := beq_iff_eq.mpr he
        have hd : digit c = k := by rw [← he]; exact digit_sign k hlt
        have HD := Aside0.mk hd
        clear hd he
        go_wp2
        go_ret
        exact ⟨by rw [HD.out]; rfl, HB.out⟩
      · have hb : (sign k == c) = false := beq_eq_false_iff_ne.mpr he
        have HN' : Aside0 (∀ n : Nat, n < k + 1 → sign n ≠ c) := ⟨fun n h => by
          by_cases e : n = k
          · subst e; exact he
          · exact HN.out n (by omega)⟩
        clear he
        go_wp2
        go_round
        case rel => exact ⟨k + 1, by go_num, by omega, HN'⟩
        case measure => simp [intOf]; omega
    · have hd : digit c = -1 := digit_none c (fun n h => HN.out n (by omega))
      have HD := Aside0.mk hd
      clear hd
      go_wp2
      go_ret
      exact ⟨by rw [HD.out]; rfl, HB.out⟩
theorem sizeBuilder : (Tryz.prog.info? 85).map (·.size) = some 2 := by kernel_rfl
theorem liesBuilder : liesAt Tryz.prog Tryz.prog.depth 85 (2 / Tryz.prog.cellsOf 85) 0 85 1 = true := by kernel_rfl
theorem infoByte : (Tryz.prog.info? 5).map (fun i => (i.zero, i.size, i.bytes)) = some (some (.int .u8 0), 1, 1) := by kernel_rfl
set_option maxRecDepth 100000 in
theorem copyCheck_used (b : Nat) (w : World) (h0 : w.cell? ⟨b, 0, none⟩ = some (.pointer (some ⟨b, 0, none⟩))) :
    Calls Tryz.prog 45 #[.pointer (some ⟨b, 0, none⟩)] w fun e w' => e = .returned (.tuple #[]) ∧ w' = w := by
  obtain ⟨j, hj, _⟩ := Option.map_eq_some_iff.1 sizeBuilder
  go_enter Tryz.func45, Tryz.ntmps45
  go_wp2
  rw [Lib.run_neq_ptr_same w _ Tryz.underlying83 hj]
  go_wp2
  go_end0
  exact ⟨rfl, rfl⟩
set_option maxRecDepth 100000 in
theorem copyCheck_fresh (b : Nat) (w : World) (h0 : w.cell? ⟨b, 0, none⟩ = some (.pointer none)) (hsh : w.shape? b = some (85, 2)) (hfz : w.frozen? ⟨b, 0, none⟩ = false) :
    Calls Tryz.prog 45 #[.pointer (some ⟨b, 0, none⟩)] w fun e w' => e = .returned (.tuple #[]) ∧ w' = w.setCell ⟨b, 0, none⟩ (.pointer (some ⟨b, 0, none⟩)) := by
  obtain ⟨j, hj, hjs⟩ := Option.map_eq_some_iff.1 sizeBuilder
  go_enter Tryz.func45, Tryz.ntmps45
  go_wp2
  rw [Lib.run_to_unsafe w ⟨b, 0, none⟩ Tryz.underlying83 Tryz.underlying155 hj (by rw [hjs]; decide) hsh (Nat.zero_lt_succ 1)]
  simp only [Result.andThen]
  rw [Oper.upon_value]
  go_wp2
  rw [run_callFunc_extern Tryz.func55 (by kernel_rfl) (by kernel_rfl) (by kernel_rfl) (e := Extern.AbiNoEscape.same) (by kernel_rfl)]
  rw [Lib.run_noEscape]
  simp only [Result.andThen]
  rw [Oper.upon_value]
  go_wp2
  rw [Lib.run_from_unsafe w ⟨b, 0, none⟩ Tryz.underlying155 Tryz.underlying83 hj hsh liesBuilder]
  simp only [Result.andThen]
  rw [Oper.upon_value]
  go_wp2
  go_end0
  exact ⟨rfl, rfl⟩
def Others (b : Nat) (w w' : World) : Prop := ∀ k cs T fr, w.heap[k]? = some (.cells cs T fr) → T ≠ 5 → k ≠ b → w'.heap[k]? = some (.cells cs T fr)
theorem Others.trans {b : Nat} {w w1 w2 : World} (h : Others b w w1) (k : Others b w1 w2) : Others b w w2 := fun j cs T fr hj hT hb => k j cs T fr (h j cs T fr hj hT hb) hT hb
theorem copyCheck (B b : Nat) (bs : List Value) (w : World) (h : Lib.IsBuilder 85 5 B b bs w) :
    Calls Tryz.prog 45 #[.pointer (some ⟨b, 0, none⟩)] w fun e w' => e = .returned (.tuple #[]) ∧ (Lib.BuilderAt 85 5 B b (.pointer (some ⟨b, 0, none⟩)) bs w' ∧ Below B w w' ∧ Others b w w') := by
  rcases h with h | h
  · refine (copyCheck_fresh b w h.cell0 h.shape h.frozen0).mono ?_
    rintro e w' ⟨rfl, rfl⟩
    exact ⟨rfl, h.used _, (Below.refl B w).setCell (p := ⟨b, 0, none⟩) h.1 _, fun k cs T fr hk _ hb => (Below.heap_setCell _ _ _ _ hb).trans hk⟩
  · refine (copyCheck_used b w h.cell0).mono ?_
    rintro e w' ⟨rfl, rfl⟩
    exact ⟨rfl, h, Below.refl B _, fun _ _ _ _ hk _ _ => hk⟩
set_option maxHeartbeats 1000000 in
set_option maxRecDepth 100000 in
theorem writeByte (B b : Nat) (bs : List Value) (c : Int) (w : World) (h : Lib.IsBuilder 85 5 B b bs w) (hlen : bs.length + 1 ≤ 140737488355328) (hBw : B ≤ w.heap.size) :
    Calls Tryz.prog 26 #[.pointer (some ⟨b, 0, none⟩), .int .u8 c] w fun e w' => e = .returned .nilIface ∧ (Lib.BuilderAt 85 5 B b (.pointer (some ⟨b, 0, none⟩)) (bs ++ [.int .u8 c]) w' ∧ Below B w w' ∧ Others b w w') := by
  obtain ⟨i0, hi, hz0, hz1, hz2⟩ := info_parts infoByte
  go_enter Tryz.func26, Tryz.ntmps26
  go_wp2_with (go_at_call 45; refine (copyCheck B b bs _ h).mono ?_)
  rintro e w1 ⟨rfl, h1, hb1, ho1⟩
  have HO := Aside0.mk ho1
  clear ho1
  obtain ⟨hB, v, hbk, hown, hne⟩ := h1
  have c0 : w1.cell? ⟨b, 0, none⟩ = some (.pointer (some ⟨b, 0, none⟩)) := by rw [Lib.cell_of_heap hbk]; rfl
  have c1 : w1.cell? ⟨b, 1, none⟩ = some v := by rw [Lib.cell_of_heap hbk]; rfl
  go_wp2_with (at_builtin; refine wpList_append_own _ rfl _ _ 23 rfl B 5 i0 (.int .u8 0) 1 1 Tryz.underlying23 hi hz0 hz1 hz2 rfl (by decide) _ _ _ rfl (hown.alloc _) ⟨w1.heap.size, 0, none⟩ 1 1 [.int .u8 c] rfl rfl ?c1 ?c2 ?c3 ?c4 ?c5 ?_)
  case c1 =>
    intro j u hj
    match j, hj with
    | 0, hj => simp at hj; subst hj; simp [Addr.add]
  case c2 => intro u hu; simp at hu; subst hu; rfl
  case c3 => unfold maxLen; omega
  case c4 => omega
  case c5 => have := hb1.size; simp; omega
  intro v' w2 hown' hgrow _
  have hlt : b < w1.heap.size := by
    rcases Nat.lt_or_ge b w1.heap.size with h' | h'
    · exact h'
    · simp [Array.getElem?_eq_none h'] at hbk
  have hb2 : w2.heap[b]? = some (.cells #[.pointer (some ⟨b, 0, none⟩), v] 85 (0, 0)) := by
    rw [hgrow.block b (by simp; omega) (fun e => hne e.symm), Lib.alloc_old w1 _ b hlt]
    exact hbk
  have d0 : w2.cell? ⟨b, 0, none⟩ = some (.pointer (some ⟨b, 0, none⟩)) := by rw [Lib.cell_of_heap hb2]; rfl
  have d1 : w2.cell? ⟨b, 1, none⟩ = some v := by rw [Lib.cell_of_heap hb2]; rfl
  have f1 : w2.frozen? ⟨b, 1, none⟩ = false := Lib.frozen_of_heap hb2 1
  obtain ⟨g, cap, rfl⟩ : ∃ g cap, v' = .slice (some ⟨g, 0, none⟩) (bs.length + 1) cap := by
    rcases hown'.2 with ⟨_, h0⟩ | ⟨g, cap, cur, hv, _⟩
    · omega
    · exact ⟨g, cap, hv⟩
  go_wp2
  go_ret
  refine ⟨rfl, ?_, ?_, ?_⟩
  · exact Lib.BuilderAt.put (T := 85) (e := 5) hB hb2 (bs' := bs ++ [.int .u8 c]) (by simpa using hown') (by decide)
  · exact ((hb1.alloc (by have := hb1.size; omega) _).grown hgrow (by have := hb1.size; simp; omega) (fun k hk => (hown.lt k hk).1)).setCell (p := ⟨b, 1, none⟩) hB _
  · intro k cs T fr hk hT hb
    have k1 := HO.out k cs T fr hk hT hb
    have kl : k < w1.heap.size := lt_of_block k1
    rw [Below.heap_setCell _ _ _ _ hb, hgrow.block k (by simp; omega) (fun e => Lib.ownBlock_ne hown k1 hT e.symm), Lib.alloc_old w1 _ k kl]
    exact k1
def ren169 : Go.Shelf.Ren := ⟨fun | 169 => 28 | n => n, fun | 70 => 83 | 9 => 9 | 0 => 0 | 72 => 85 | 37 => 23 | 127 => 140 | 3 => 3 | 5 => 5 | n => n, fun | n => n⟩
theorem lays169 : Go.Proofs.Lays.n169 Tryz.prog ren169 := {
  mixed := by kernel_rfl
  f169 := Tryz.func28.trans (congrArg some (by kernel_rfl))
  t0 := Tryz.underlying0
  a0 := Tryz.isAgg0
  z0 := Tryz.sizeOf0
  v0 := Tryz.zeroValue0
  t3 := Tryz.underlying3
  a3 := Tryz.isAgg3
  z3 := Tryz.sizeOf3
  v3 := Tryz.zeroValue3
  t9 := Tryz.underlying9
  a9 := Tryz.isAgg9
  z9 := Tryz.sizeOf9
  v9 := Tryz.zeroValue9
  t37 := Tryz.underlying23
  a37 := Tryz.isAgg23
  z37 := Tryz.sizeOf23
  v37 := Tryz.zeroValue23
  t70 := Tryz.underlying83
  a70 := Tryz.isAgg83
  z70 := Tryz.sizeOf83
  v70 := Tryz.zeroValue83
  t72 := Tryz.underlying85
  a72 := Tryz.isAgg85
  z72 := Tryz.sizeOf85
  v72 := Tryz.zeroValue85
  t127 := Tryz.underlying140
  a127 := Tryz.isAgg140
  z127 := Tryz.sizeOf140
  v127 := Tryz.zeroValue140 }
theorem extra169 : Builder.Extra Tryz.prog ren169 := {
  sizeBuilder := by kernel_rfl
  liesBuilder := by kernel_rfl
  t5 := Tryz.underlying5
  a5 := Tryz.isAgg5
  z5 := Tryz.sizeOf5
  v5 := Tryz.zeroValue5
  infoByte := by kernel_rfl
  cellsByte := by kernel_rfl
  sizeByte := by kernel_rfl
  neB5 := by decide }
theorem string_any (B b : Nat) (l : List UInt8) (w : World) (h : Lib.IsBuilder 85 5 B b (Lib.byteCells l) w) (hBw : B ≤ w.heap.size) :
    Calls Tryz.prog 28 #[.pointer (some ⟨b, 0, none⟩)] w fun e w' => e = .returned (.string ⟨l.toArray⟩) ∧ Below B w w' := Any.Builder_String_any lays169 extra169 B b l w h hBw
end Go.Proofs.YtmbjlondehcheaaGreatDoor.HHexa
end
section
namespace Go.Proofs.YtmbjlondehcheaaGreatDoor.HHexa
open Go.RowKit Go.Proofs.YtmbjlondehcheaaGreatDoorW.PrintWords Go.Proofs.YtmbjlondehcheaaGreatDoorW.PrintLast
def hexL (l : List Int) : List Int := l.flatMap fun c => [sign (c / 16).toNat, sign (c % 16).toNat]
def cellsOf (l : List Int) : List Value := l.map (Value.int .u8)
theorem hexL_append (a b : List Int) : hexL (a ++ b) = hexL a ++ hexL b := by simp [hexL]
theorem hexL_length (l : List Int) : (hexL l).length = 2 * l.length := by
  induction l with
  | nil => rfl
  | cons a l ih => simp only [hexL, List.flatMap_cons, List.length_append, List.length_cons, List.length_nil]; have : (List.flatMap (fun c => [sign (c / 16).toNat, sign (c % 16).toNat]) l).length = 2 * l.length := ih; omega
theorem sign_range (n : Nat) (h : n < 16) : 48 ≤ sign n ∧ sign n < 71 := by unfold sign; split <;> omega
theorem hexL_range (l : List Int) (h : ∀ x ∈ l, 0 ≤ x ∧ x < 256) : ∀ y ∈ hexL l, 48 ≤ y ∧ y < 71 := by
  intro y hy
  simp only [hexL, List.mem_flatMap] at hy
  obtain ⟨c, hc, hy⟩ := hy
  have := h c hc
  have h1 := sign_range (c / 16).toNat (by omega)
  have h2 := sign_range (c % 16).toNat (by omega)
  simp at hy
  rcases hy with rfl | rfl <;> assumption
theorem hexL_take (l : List Int) (i : Nat) (h : i < l.length) : hexL (l.take (i + 1)) = hexL (l.take i) ++ [sign (l[i] / 16).toNat, sign (l[i] % 16).toNat] := by
  rw [List.take_succ_eq_append_getElem h, hexL_append]; rfl
theorem cells_bytes (l : List Int) (h : ∀ y ∈ l, 0 ≤ y ∧ y < 256) : cellsOf l = Lib.byteCells (l.map fun n => UInt8.ofNat n.toNat) := by
  unfold cellsOf Lib.byteCells
  rw [List.map_map]
  apply List.map_congr_left
  intro y hy
  have := h y hy
  simp
  omega
theorem rd_get (l : List Int) (i : Nat) (h : i < l.length) : rd l (i : Int) = l[i] := by simp [rd, h]
set_option maxHeartbeats 1000000 in
set_option maxRecDepth 100000 in
theorem put_calls (A0 : Option Addr) (c0 : Nat) (l0 : List Int) (w : World) (hr0 : Kd.C (Kd.int .u8) w A0 l0.length l0) (hw : ∀ x ∈ l0, 0 ≤ x ∧ x < 256) (hl : l0.length < 1000000) :
    Calls Tryz.prog 239 #[.slice A0 l0.length c0] w fun e w' => e = .returned (.string (strOfNums (hexL l0))) ∧ Below w.heap.size w w' := by
  have hz := zero293
  have HR0 := Aside0.mk hr0
  clear hr0
  go_enter Tryz.func239, Tryz.ntmps239
  go_wp2_with (first | (go_at_call 215; (with_reducible refine (digits_calls _).mono ?_); rintro e w1 ⟨rfl, hb⟩; have HB := Aside0.mk hb; clear hb) | ((with_reducible refine wpList_store_row rfl 293 _ _ rfl w1.heap.size dig rfl rfl _ _ (heap_alloc_new _ _) ?_ ?_ ?_ ?_); (rw [dig_size]; exact info293); (rw [dig_size]; rfl); (simp [dig, Value.oneCell'])))
  have hlt1 : w.heap.size + 1 ≤ w1.heap.size := by have := HB.out.size; simpa using this
  have HI : Aside0 (Lib.IsBuilder 85 5 w.heap.size w.heap.size (cellsOf (hexL (l0.take 0))) ((w1.alloc (.cells #[.int .u8 0, .int .u8 0, .int .u8 0, .int .u8 0, .int .u8 0, .int .u8 0, .int .u8 0, .int .u8 0, .int .u8 0, .int .u8 0, .int .u8 0, .int .u8 0, .int .u8 0, .int .u8 0, .int .u8 0, .int .u8 0] 293)).setRow w1.heap.size dig)) := ⟨Or.inl ⟨Nat.le_refl _, .slice none 0 0, by
    rw [setRow_other _ _ _ _ (by omega), Lib.alloc_old _ _ _ (by omega), HB.out.block _ (by simp)]
    exact heap_alloc_new _ _, World.ownsRow_nil _ _ _ _, by simp [Value.ownBlock]⟩⟩
  have HT : Aside0 (((w1.alloc (.cells #[.int .u8 0, .int .u8 0, .int .u8 0, .int .u8 0, .int .u8 0, .int .u8 0, .int .u8 0, .int .u8 0, .int .u8 0, .int .u8 0, .int .u8 0, .int .u8 0, .int .u8 0, .int .u8 0, .int .u8 0, .int .u8 0] 293)).setRow w1.heap.size dig).heap[w1.heap.size]? = some (.cells dig 293 (0, 0))) := ⟨setRow_heap _ _ _ _ _ _ (heap_alloc_new _ _)⟩
  have HW : Aside0 (Below w.heap.size w ((w1.alloc (.cells #[.int .u8 0, .int .u8 0, .int .u8 0, .int .u8 0, .int .u8 0, .int .u8 0, .int .u8 0, .int .u8 0, .int .u8 0, .int .u8 0, .int .u8 0, .int .u8 0, .int .u8 0, .int .u8 0, .int .u8 0, .int .u8 0] 293)).setRow w1.heap.size dig)) := ⟨(below_step ((Below.refl _ _).alloc (Nat.le_refl _) _) HB.out |>.alloc (by omega) _).trans (below_setRow (by omega) _)⟩
  generalize (w1.alloc (.cells #[.int .u8 0, .int .u8 0, .int .u8 0, .int .u8 0, .int .u8 0, .int .u8 0, .int .u8 0, .int .u8 0, .int .u8 0, .int .u8 0, .int .u8 0, .int .u8 0, .int .u8 0, .int .u8 0, .int .u8 0, .int .u8 0] 293)).setRow w1.heap.size dig = W at HI HT HW ⊢
  clear HB hz
  generalize w1.heap.size = g at HT hlt1 ⊢
  clear w1
  have HG := Aside0.mk hlt1
  clear hlt1
  go_loopw [10] (fun v10 wr => ∃ (i : Nat), v10 = .int .i64 i ∧ i ≤ l0.length ∧ Aside0 (Lib.IsBuilder 85 5 w.heap.size w.heap.size (cellsOf (hexL (l0.take i))) wr) ∧ Aside0 (wr.heap[g]? = some (.cells dig 293 (0, 0))) ∧ Aside0 (Below w.heap.size w wr)) (fun v10 _ => l0.length - (intOf v10).toNat)
  case atStart => exact ⟨0, rfl, Nat.zero_le _, HI, HT, HW⟩
  case round =>
    clear HI HT HW
    obtain ⟨i, rfl, hi, HI, HT, HW⟩ := hrel
    by_cases hlt : i < l0.length
    · obtain ⟨ad, ead, hx⟩ := Kd.at_int HR0.out (i : Int) (by omega) (by omega)
      cases ead
      replace hx := (HW.out.cell (World.block_lt_of_cell? w _ hx)).trans hx
      simp only [Int.toNat_natCast] at hx
      obtain ⟨hb0, hb1⟩ := hw l0[i] (List.getElem_mem hlt)
      have HX := Aside0.mk (hexL_take l0 i hlt)
      have HL : Aside0 ((cellsOf (hexL (l0.take i))).length + 2 ≤ 140737488355328) := ⟨by simp [cellsOf, hexL_length]; omega⟩
      rw [rd_get l0 i hlt] at hx
      generalize l0[i] = c at hx hb0 hb1 HX
      have ct := cell_of_row wr g (c / 16).toNat _ _ _ HT.out
      rw [dig_get _ (by omega)] at ct
      go_wp2_with (first
        | (go_at_call 26; (with_reducible refine (writeByte w.heap.size w.heap.size (cellsOf (hexL (l0.take i))) (sign (c / 16).toNat) wr HI.out ?s1 ?s2).mono ?_); (case s1 => (have h9 := HL.out; omega)); (case s2 => exact HW.out.size); rintro e w3 ⟨rfl, h3, hb3, ho3⟩; have HI3 := Aside0.mk (show Lib.IsBuilder 85 5 _ _ _ _ from Or.inr h3); have HB3 := Aside0.mk hb3; have HT3 := Aside0.mk (ho3 g _ _ _ HT.out (by decide) (by have := HG.out; omega)); clear h3 hb3 ho3; have ct3 := cell_of_row w3 g (c % 16).toNat _ _ _ HT3.out; rw [dig_get _ (by omega)] at ct3)
        | (go_at_call 26; (with_reducible refine (writeByte w.heap.size w.heap.size (cellsOf (hexL (l0.take i)) ++ [.int .u8 (sign (c / 16).toNat)]) (sign (c % 16).toNat) w3 HI3.out ?s1 ?s2).mono ?_); (case s1 => (have h9 := HL.out; rw [List.length_append, List.length_singleton]; omega)); (case s2 => exact Nat.le_trans HW.out.size HB3.out.size); rintro e w4 ⟨rfl, h4, hb4, ho4⟩; have HI4 := Aside0.mk h4; have HB4 := Aside0.mk hb4; have HT4 := Aside0.mk (ho4 g _ _ _ HT3.out (by decide) (by have := HG.out; omega)); clear h4 hb4 ho4))
      go_wp2
      go_roundw
      case rel =>
        refine ⟨i + 1, by go_num, by omega, ⟨Or.inr ?_⟩, HT4, ⟨(HW.out.trans HB3.out).trans HB4.out⟩⟩
        have e : cellsOf (hexL (l0.take (i + 1))) = cellsOf (hexL (l0.take i)) ++ [.int .u8 (sign (c / 16).toNat)] ++ [.int .u8 (sign (c % 16).toNat)] := by rw [HX.out]; simp [cellsOf]
        rw [e]
        exact HI4.out
      case measure => simp [intOf]; omega
    · obtain rfl : i = l0.length := by omega
      have hr := hexL_range l0 hw
      have hs : Aside0 (cellsOf (hexL (l0.take l0.length)) = Lib.byteCells ((hexL l0).map fun n => UInt8.ofNat n.toNat)) := ⟨by rw [List.take_length, cells_bytes _ (fun y hy => by have := hr y hy; omega)]⟩
      have HI' := Aside0.mk (hs.out ▸ HI.out)
      clear HI hs
      go_wp2_with (go_at_call 28; (with_reducible refine (string_any w.heap.size w.heap.size ((hexL l0).map fun n => UInt8.ofNat n.toNat) wr HI'.out ?s1).mono ?_); (case s1 => exact HW.out.size); rintro e w5 ⟨rfl, hb5⟩; have HB5 := Aside0.mk hb5; clear hb5)
      go_ret
      exact ⟨rfl, HW.out.trans HB5.out⟩
end Go.Proofs.YtmbjlondehcheaaGreatDoor.HHexa
end
section
set_option linter.unusedSimpArgs false
set_option linter.unusedVariables false
namespace Go.Proofs.YtmbjlondehcheaaGreatDoor
open Go.Shelf Go.RowKit Go.Lib Go.Sort Go.Proofs.YtmbjlondehcheaaGreatDoorW.PrintWords Go.Proofs.YtmbjlondehcheaaGreatDoorW.PrintLast Go.Proofs.YtmbjlondehcheaaGreatDoor.PTopTalk
abbrev lrcL (l : List Int) : Int := HLrc.ofL l
abbrev hexL (l : List Int) : List Int := HHexa.hexL l
theorem lrcL_oct (l : List Int) : 0 ≤ lrcL l ∧ lrcL l < 256 := by show 0 ≤ (0 - HLrc.sumL l) % 256 ∧ (0 - HLrc.sumL l) % 256 < 256; omega
theorem lrcL_zero (l : List Int) : lrcL (l ++ [lrcL l]) = 0 := by
  show (0 - HLrc.sumL (l ++ [(0 - HLrc.sumL l) % 256])) % 256 = 0
  rw [HLrc.sumL_append, HLrc.sumL_cons]
  show (0 - (HLrc.sumL l + ((0 - HLrc.sumL l) % 256 + 0))) % 256 = 0
  omega
theorem hexL_oct (l : List Int) (h : Oct l) : Oct (hexL l) := fun y hy => by have := HHexa.hexL_range l h y hy; omega
theorem lrcOf_calls (w : World) (v : Value) (l : List Int) (h : By w v l) (hl : l.length ≤ 100000) : Calls Tryz.prog 213 #[v] w fun r w' => r = .returned (.int .u8 (lrcL l)) ∧ Kept w w' (fun _ => False) := by
  obtain ⟨A, c, rfl, hc, hC⟩ := h
  exact (HLrc.of_calls A c l w hC (by omega)).mono fun e w' ⟨h1, h2⟩ => ⟨h1, kept_of_below h2 _⟩
theorem hexPut_calls (w : World) (v : Value) (l : List Int) (h : By w v l) (ho : Oct l) (hl : l.length ≤ 100000) : Calls Tryz.prog 239 #[v] w fun r w' => r = .returned (.string (strOfNums (hexL l))) ∧ Kept w w' (fun _ => False) := by
  obtain ⟨A, c, rfl, hc, hC⟩ := h
  exact (HHexa.put_calls A c l w hC ho (by omega)).mono fun e w' ⟨h1, h2⟩ => ⟨h1, kept_of_below h2 _⟩
set_option maxRecDepth 1000000 in
theorem lrcIs_calls (w : World) (v : Value) (l : List Int) (h : By w v (l ++ [lrcL l])) (hl : l.length ≤ 1000) : Calls Tryz.prog 210 #[v] w fun r w' => r = .returned (.bool true) ∧ Kept w w' (fun _ => False) := by
  have ho := lrcOf_calls w v _ h (by simp; omega)
  rw [lrcL_zero] at ho
  obtain ⟨A, c, rfl, hc⟩ := h.len
  have hlen : (l ++ [lrcL l]).length = l.length + 1 := by simp
  rw [hlen] at ho ⊢
  have h1 : (0 : Int) < (l.length : Int) + 1 := by omega
  clear hc hlen h
  generalize l.length = n at *
  go_enter Tryz.func210, Tryz.ntmps210
  go_wp2_with (go_at_call 213; with_reducible refine ho.mono ?_; rintro e w1 ⟨rfl, k1⟩; clear ho)
  go_ret
  exact ⟨rfl, k1⟩
theorem conv_by (w : World) (l : List Int) (hl : Oct l) (hn : l.length ≤ 100000) : ∃ c, (convert 9 23 (.string (strOfNums l))).run Tryz.prog w = .ok (.slice (some ⟨w.heap.size, 0, none⟩) l.length c) (Lib.bytesWorld w 5 (strOfNums l)) ∧ By (Lib.bytesWorld w 5 (strOfNums l)) (.slice (some ⟨w.heap.size, 0, none⟩) l.length c) l ∧ Kept w (Lib.bytesWorld w 5 (strOfNums l)) (fun _ => False) := by
  have h := Lib.run_convert_string_bytes w 9 23 5 (strOfNums l) Tryz.underlying9 Tryz.underlying23 Tryz.underlying5
  have hcap : (strOfNums l).size ≤ grownCap w (strOfNums l).size 0 5 := by
    exact grownCap_ge _ _ _ _
  rw [strOfNums_size] at h hcap
  refine ⟨_, h, ⟨_, _, rfl, hcap, rfl, by omega, fun h0 => ⟨_, rfl, fun j p hp => ⟨[.int .u8 p], rfl, rfl, fun i u hu => ?_⟩⟩⟩, ⟨rfl, rfl, rfl, by rw [Lib.bytesWorld_size]; omega, fun k hk _ => Lib.bytesWorld_at_old w 5 _ k hk⟩⟩
  have hi : i < 1 := (List.getElem?_eq_some_iff.1 hu).1
  obtain rfl : i = 0 := by omega
  have hu' : u = .int .u8 p := by simpa using hu.symm
  subst hu'
  have hj : j < l.length := (List.getElem?_eq_some_iff.1 hp).1
  have hpo := hl p (List.mem_of_getElem? hp)
  have := Lib.bytesWorld_cell w 5 (strOfNums l) j (by rw [strOfNums_size]; exact hj)
  simp only [Kd.int, Kd.scalar, Addr.add, Nat.mul_one, Nat.add_zero, Nat.zero_add] at *
  have e : (if j = 0 then (⟨w.heap.size, 0, none⟩ : Addr) else ⟨w.heap.size, j, none⟩) = ⟨w.heap.size, j, none⟩ := by split <;> simp_all
  rw [e, this, strOfNums_data]
  simp [List.getD, hp]
  omega
theorem wp_conv {oi : Oper} {a : Act} {w : World} {K : Act → World → Prop} {Q : Exit → Act → World → Prop} (s d : TypeId) (x : Operand) (ho : oi.op = .convert s d x) (vx v : Value) (hx : a.eval x = vx) (w' : World) (hr : (convert s d vx).run Tryz.prog w = .ok v w') (h : K (a.put oi.dst v) w') : Oper.wp Tryz.prog oi a w K Q := by
  unfold Oper.wp execOp
  simp only [ho, hx, Sem.run_bind, Sem.run_pure, Result.andThen_ok, hr]
  exact h
theorem wp_add {oi : Oper} {a : Act} {w : World} {K : Act → World → Prop} {Q : Exit → Act → World → Prop} (t r : TypeId) (x y : Operand) (ho : oi.op = .binOp .add t x y r) (vx vy v : Value) (hx : a.eval x = vx) (hy : a.eval y = vy) (hr : (binOp .add t vx vy).run Tryz.prog w = .ok v w) (h : K (a.put oi.dst v) w) : Oper.wp Tryz.prog oi a w K Q := by
  unfold Oper.wp execOp
  simp only [ho, hx, hy, Sem.run_bind, Sem.run_pure, Result.andThen_ok, hr, eqGuard, Bool.not_false, if_true]
  exact h
def ascB (u t : Int) (p : List Int) : List Int := 58 :: hexL (u :: p ++ [lrcL (u :: p)]) ++ [13, 10]
theorem ascB_len (u t : Int) (p : List Int) : (ascB u t p).length = 2 * p.length + 7 := by simp [ascB, hexL, HHexa.hexL_length]; omega
theorem strOfNums_append (a b : List Int) : strOfNums a ++ strOfNums b = strOfNums (a ++ b) := by
  unfold strOfNums
  rw [ByteArray.mk_append_mk]
  simp
theorem add_str (t : TypeId) (a b : List Int) (ha : a.length ≤ 100000) (hb : b.length ≤ 100000) (w : World) : (binOp .add t (.string (strOfNums a)) (.string (strOfNums b))).run Tryz.prog w = .ok (.string (strOfNums (a ++ b))) w := by
  rw [binOp_string_add, run_string_add w _ _ (by rw [strOfNums_size]; omega) (by rw [strOfNums_size]; omega), strOfNums_append]
set_option maxHeartbeats 2000000 in
set_option maxRecDepth 1000000 in
theorem ascW_calls {dir u : Int} (hu : 0 ≤ u ∧ u < 256) {x : S35} {may : Prop} {E : List Int → Prop} (h : PdG dir x may E) : FrW 238 ascB dir u 0 x may E := by
  intro w cs hK
  have hs := cons35 hK
  have q1 := Kept.alloc w (.cells (fr u 0 cs).toArray 37) (fun _ => False)
  have f1 := heap_alloc_new w (.cells (fr u 0 cs).toArray 37)
  have hp := h _ cs (k35.K_below q1.toBelow hK)
  have szm : (Tryz.prog.info? 35).map (·.size) = some cs.length := by rw [k35.K_len hK]; kernel_rfl
  clear h hK
  go_enter Tryz.func238, Tryz.ntmps238
  go_upto_region 1 with fail
  generalize w.alloc (.cells (fr u 0 cs).toArray 37) = w1 at *
  generalize w.heap.size = fb at *
  have rm : w1.rangeAt fb 2 cs := fun j v hj => by rw [cell_of_row w1 fb (2 + j) _ 37 (0, 0) f1, Nat.add_comm]; simpa using hj
  go_upto_region 2 with (first
    | (refine wpList_load_mid rfl 35 (.tmp 11) rfl fb 2 rfl cs _ rm Tryz.underlying35 rfl szm ?_)
    | (go_at_call 232; with_reducible refine hp.mono ?_; rintro e w2 ⟨k2, A, k, c, e0, rfl, hR⟩))
  clear hp rm
  replace f1 := k2.heap f1 (fun h => h)
  have Q2 := q1.trans k2 (H := fun _ => False) (fun _ _ h => h) (fun _ _ h => h)
  have c0 : w2.cell? ⟨fb, 0, none⟩ = some (.int .u8 u) := by rw [cell_of_row w2 fb 0 _ 37 (0, 0) f1]; rfl
  have c1 : w2.cell? ⟨fb, 1, none⟩ = some (.int .u16 0) := by rw [cell_of_row w2 fb 1 _ 37 (0, 0) f1]; rfl
  rcases hR with ⟨hm, rfl, rfl, rfl, rfl⟩ | ⟨rfl, p, hk, hB, hP, hO, hE⟩
  · have HM : Aside0 _ := ⟨And.intro hm Q2⟩
    clear hm Q2 k2 q1 f1
    go_wp2
    go_ret2
    exact ⟨HM.out.2, _, _, _, _, rfl, .inl ⟨HM.out.1, rfl, rfl, rfl, rfl⟩⟩
  · have HX : Aside0 _ := ⟨And.intro hP (And.intro hO hE)⟩
    have hpl := hP.few
    have hO1 : OB w2 (w2.alloc (.cells #[.int .u8 u] 5)) (.slice (some ⟨w2.heap.size, 0, none⟩) 1 1) [u] := Ow.lit (k := .u8) (te := 5) (Kept.refl w2 _) [u] (by simp) (by simp)
    obtain ⟨v5, w5, ha5, hO5, -⟩ := hO1.app 23 (hB.keep (Kept.alloc w2 (.cells #[.int .u8 u] 5) (fun _ => False))) (by simp; omega)
    have hR5 := hO5.rd (by simp; omega)
    obtain ⟨A5, c5, rfl, -⟩ := hR5.len
    have hl5 : ([u] ++ p).length = k + 1 := by simp [hk]
    have hcr := lrcOf_calls w5 _ _ hR5 (by simp; omega)
    have HY : Aside0 _ := ⟨And.intro hk (And.intro hO5 Q2)⟩
    have hoc : Oct ([u] ++ p ++ [lrcL ([u] ++ p)]) := fun y hy => by
      have := lrcL_oct ([u] ++ p)
      simp only [List.mem_append, List.mem_singleton] at hy
      rcases hy with (rfl | hy) | rfl
      · omega
      · exact hO y hy
      · omega
    rw [hl5] at ha5 hcr
    generalize hz : lrcL ([u] ++ p) = z at *
    have HZ : Aside0 _ := ⟨And.intro hz hoc⟩
    clear hP hO hE hO1 hO5 hR5 hB hk hz hl5 Q2 k2 q1 f1 hoc
    go_upto_region 5 with (first
      | (refine wpList_app rfl (.tmp 27) (.tmp 28) 23 23 rfl (some 29) rfl (.slice (some ⟨w2.heap.size, 0, none⟩) 1 1) (.slice A k c) rfl rfl _ w5 ha5 ?_))
    have hkk : p.length = k := HY.out.1
    have hfin : ∀ W, Kept w5 W (fun _ => False) → ∃ v8 w8, (Builtin.append_ #[23, 23] 23 #[.slice A5 (k + 1) c5, .slice (some ⟨W.heap.size, 0, none⟩) 1 1]).run Tryz.prog (W.alloc (.cells #[.int .u8 z] 5)) = .ok v8 w8 ∧ OB w2 w8 v8 ([u] ++ p ++ [z]) := fun W h2 => by
      have h1 := HY.out.2.1
      have hk := HY.out.1
      have hl5 : ([u] ++ p).length = k + 1 := by simp [hk]
      rw [hl5] at h1
      obtain ⟨v7, w7, a7, o7, -⟩ := OB.app ((h1.keep h2).keep (Kept.alloc W (.cells #[.int .u8 z] 5) (fun _ => False))) 23 (one_rd .u8 W z 5) (by simp; omega)
      exact ⟨v7, w7, a7, o7⟩
    have hx : ∀ W v8, By W v8 ([u] ++ p ++ [z]) → Calls Tryz.prog 239 #[v8] W fun r w' => r = .returned (.string (strOfNums (hexL ([u] ++ p ++ [z])))) ∧ Kept W w' (fun _ => False) := fun W v8 h => hexPut_calls W v8 _ h HZ.out.2 (by simp; omega)
    have hHl : (hexL ([u] ++ p ++ [z])).length = 2 * k + 4 := by have := HY.out.1; simp [hexL, HHexa.hexL_length]; omega
    have hHo := hexL_oct _ HZ.out.2
    generalize hH : hexL ([u] ++ p ++ [z]) = H at *
    have a1 := fun W => add_str 9 [58] H (by simp) (by omega) W
    have a2 := fun W => add_str 9 ([58] ++ H) [13, 10] (by simp; omega) (by simp) W
    have hS0 : ([58] ++ H ++ [13, 10]).length = 2 * k + 7 := by simp; omega
    have hS1 : Oct ([58] ++ H ++ [13, 10]) := fun y hy => by
      simp only [List.mem_append, List.mem_cons, List.not_mem_nil, or_false] at hy
      rcases hy with (rfl | hy) | rfl | rfl
      · omega
      · exact hHo y hy
      · omega
      · omega
    have hcv := fun W => conv_by W ([58] ++ H ++ [13, 10]) hS1 (by omega)
    rw [hS0] at hcv
    have HF : Aside0 _ := ⟨And.intro hfin (And.intro hx hcv)⟩
    have HS : Aside0 _ := ⟨And.intro hS0 hH⟩
    clear hfin ha5 hx hHl hHo hH hS0 hS1 hcv
    go_upto_region 6 with (first
      | (go_at_call 213; with_reducible refine hcr.mono ?_; rintro e w6 ⟨rfl, k6⟩; obtain ⟨v8, w8, ha8, hO8⟩ := HF.out.1 w6 k6; have hx8 := HF.out.2.1 w8 v8 (hO8.rd (by simp; omega)); clear hcr)
      | (refine wpList_app rfl (.tmp 30) (.tmp 33) 23 23 rfl (some 34) rfl (.slice A5 (k + 1) c5) (.slice (some ⟨w6.heap.size, 0, none⟩) 1 1) rfl rfl v8 w8 ha8 ?_)
      | (go_at_call 239; with_reducible refine hx8.mono ?_; rintro e w9 ⟨rfl, k9⟩; obtain ⟨cF, hcF, hBF, kF⟩ := HF.out.2.2 w9; clear hx8)
      | (refine wpList_plain rfl fun _ hK => wp_add 9 9 (.const (.string ⟨#[58]⟩)) (.tmp 35) rfl _ _ _ rfl rfl (a1 _) (hK _ _ ?_))
      | (refine wpList_plain rfl fun _ hK => wp_add 9 9 (.tmp 36) (.const (.string ⟨#[13, 10]⟩)) rfl _ _ _ rfl rfl (a2 _) (hK _ _ ?_))
      | (refine wpList_plain rfl fun _ hK => wp_conv 9 23 (.tmp 37) rfl _ _ rfl _ hcF (hK _ _ ?_)))
    all_goals
      have hN : ∀ ad : Addr, some (⟨w9.heap.size, 0, none⟩ : Addr) = some ad → w.heap.size ≤ ad.block := fun ad e => by injection e with e; rw [← e]; exact (HY.out.2.2.trans (hO8.kept.trans k9 (H := fun _ => False) (fun _ _ h => h) (fun _ _ h => h)) (H := fun _ => False) (fun _ _ h => h) (fun _ _ h => h)).size
      have FIN : Aside0 _ := ⟨And.intro (And.intro hBF hN) ((HY.out.2.2).trans ((hO8.kept.trans k9 (H := fun _ => False) (fun _ _ h => h) (fun _ _ h => h)).trans kF (H := fun _ => False) (fun _ _ h => h) (fun _ _ h => h)) (H := fun _ => False) (fun _ _ h => h) (fun _ _ h => h))⟩
      clear hBF hN hO8 k6 k9 kF ha8 hcF a1 a2 HF
      go_wp2
      go_ret2
      have e : ascB u 0 p = [58] ++ H ++ [13, 10] := by
        rw [← HS.out.2, ← HZ.out.1]
        rfl
      refine ⟨FIN.out.2, _, _, _, _, rfl, .inr ⟨rfl, p, ?_, ?_, HX.out.1, HX.out.2.1, HX.out.2.2⟩⟩
      · rw [e, HS.out.1]
      · refine ⟨?_, FIN.out.1.2⟩
        rw [e]; exact FIN.out.1.1
end Go.Proofs.YtmbjlondehcheaaGreatDoor
end
section
set_option linter.unusedSimpArgs false
set_option linter.unusedVariables false
namespace Go.Proofs.YtmbjlondehcheaaGreatDoor
open Go.Shelf Go.RowKit Go.Lib Go.Sort Go.Proofs.YtmbjlondehcheaaGreatDoorW.PrintWords Go.Proofs.YtmbjlondehcheaaGreatDoorW.PrintLast Go.Proofs.YtmbjlondehcheaaGreatDoor.PTopTalk
theorem hexL_get : ∀ (m : List Int) (j : Nat) (h : j < m.length), (hexL m)[2 * j]? = some (HHexa.sign (m[j] / 16).toNat) ∧ (hexL m)[2 * j + 1]? = some (HHexa.sign (m[j] % 16).toNat)
  | c :: m, 0, _ => ⟨rfl, rfl⟩
  | c :: m, j + 1, h => by
    have := hexL_get m j (by simpa using h)
    have e : hexL (c :: m) = [HHexa.sign (c / 16).toNat, HHexa.sign (c % 16).toNat] ++ hexL m := rfl
    rw [e, show 2 * (j + 1) = 2 * j + 1 + 1 by omega]
    simpa using this
theorem str_at (l : List Int) (i : Nat) (x : Int) (h : l[i]? = some x) (hx : 0 ≤ x ∧ x < 256) (w : World) : (Instr.index 9 (.string (strOfNums l)) (.int .i64 (i : Int))).run Tryz.prog w = .ok (.int .u8 x) w := by
  have hi : i < l.length := (List.getElem?_eq_some_iff.1 h).1
  have e : l[i] = x := (List.getElem?_eq_some_iff.1 h).2
  rw [run_index_string w 9 _ _ _ Tryz.underlying9, dif_pos ⟨by omega, by rw [strOfNums_size]; omega⟩]
  have : ((strOfNums l)[(i : Int).toNat]'(by rw [strOfNums_size]; simpa using hi)).toNat = x.toNat := by
    show ((l.map fun n => UInt8.ofNat n.toNat).toArray[(i : Int).toNat]'(by simpa using hi)).toNat = x.toNat
    simp [e]
    omega
  simp only [this]
  rw [Int.toNat_of_nonneg hx.1]
theorem ex_ix {oi : Oper} {a : Act} {w : World} (t : TypeId) (x y : Operand) (ho : oi.op = .index t x y) {v : Value} (h : (Instr.index t (a.eval x) (a.eval y)).run Tryz.prog w = .ok v w) : (execOp a.eval oi).run Tryz.prog w = .ok (.value v) w := by
  unfold execOp
  simp [ho, h]
theorem digit_kept (n : Nat) (hn : n < 16) (w : World) : Calls Tryz.prog 212 #[.int .u8 (HHexa.sign n)] w fun e w' => e = .returned (.int .i64 (n : Int)) ∧ Kept w w' (fun _ => False) :=
  (HHexa.digit_calls (HHexa.sign n) w).mono fun e w' ⟨h1, h2⟩ => ⟨by rw [h1, HHexa.digit_sign n hn], kept_of_below h2 _⟩
set_option maxHeartbeats 2000000 in
set_option maxRecDepth 1000000 in
theorem hexTake_calls (w : World) (m : List Int) (ho : Oct m) (hl : m.length ≤ 10000) : Calls Tryz.prog 209 #[.string (strOfNums (hexL m))] w fun r w' => ∃ v, r = .returned (.tuple #[v, .int .i64 0]) ∧ By w' v m ∧ New w (match v with | .slice A _ _ => A | _ => none) ∧ Kept w w' (fun _ => False) := by
  have hsz : (strOfNums (hexL m)).size = 2 * m.length := by rw [strOfNums_size]; simp [hexL, HHexa.hexL_length]
  have hix : Aside0 (∀ j (h : j < m.length), ∃ a b : Nat, a < 16 ∧ b < 16 ∧ 16 * a + b = m[j] ∧ (∀ w, (Instr.index 9 (.string (strOfNums (hexL m))) (.int .i64 ((2 * j : Nat) : Int))).run Tryz.prog w = .ok (.int .u8 (HHexa.sign a)) w) ∧ (∀ w, (Instr.index 9 (.string (strOfNums (hexL m))) (.int .i64 ((2 * j + 1 : Nat) : Int))).run Tryz.prog w = .ok (.int .u8 (HHexa.sign b)) w)) := ⟨fun j h => by
    obtain ⟨h1, h2⟩ := hexL_get m j h
    have hb := ho m[j] (List.getElem_mem h)
    have s1 := HHexa.sign_range (m[j] / 16).toNat (by omega)
    have s2 := HHexa.sign_range (m[j] % 16).toNat (by omega)
    exact ⟨_, _, by omega, by omega, by omega, str_at _ _ _ h1 (by omega), str_at _ _ _ h2 (by omega)⟩⟩
  obtain ⟨n, hn⟩ : ∃ n, m.length = n := ⟨_, rfl⟩
  have HN : Aside0 _ := ⟨hn⟩
  rw [hn] at hsz hl
  generalize strOfNums (hexL m) = S at *
  have hev : ((2 * (n : Int)).tmod 2) = 0 := by rw [Int.tmod_eq_emod_of_nonneg (by omega)]; omega
  have hszi : ((S.size : Nat) : Int) = 2 * (n : Int) := by omega
  have hnz : (n : Int) ≤ 10000 := by omega
  clear hn
  go_enter Tryz.func209, Tryz.ntmps209
  go_wp2
  go_loopg [4, 5] n (fun kx s4 s5 wr => ∃ i : Nat, s5 = .int .i64 (2 * (i : Int)) ∧ i ≤ n ∧ n - i ≤ kx ∧ Aside0 (OB w wr s4 (m.take i)))
  case atStart => exact ⟨0, rfl, Nat.zero_le _, by omega, ⟨Ow.nil (Kept.refl _ _)⟩⟩
  case round =>
    obtain ⟨i, rfl, hi, hkx, D⟩ := hrel
    by_cases hlt : i < n
    · obtain ⟨a, b, ha, hb, hab, hia, hib⟩ := hix.out i (by rw [HN.out]; exact hlt)
      have hiz : 2 * (i : Int) < 2 * (n : Int) := by omega
      have hi1 : IntKind.i64.wrap (2 * (i : Int) + 1) = 2 * (i : Int) + 1 := wrapi _ (by omega)
      have hi0 : ((2 * i : Nat) : Int) = 2 * (i : Int) := by omega
      rw [hi0] at hia
      have hda := fun W => digit_kept a ha W
      have hdb := fun W => digit_kept b hb W
      have haz : (0 : Int) ≤ (a : Int) ∧ (a : Int) < 16 := by omega
      have hbz : (0 : Int) ≤ (b : Int) ∧ (b : Int) < 16 := by omega
      have HAB : Aside0 _ := ⟨hab⟩
      clear hab hi0
      go_upto_region 7 with fail
      generalize wr = W at *
      have S0 := Kept.drew W (fun _ => False)
      have hib' : ∀ W, (Instr.index 9 (.string S) (.int .i64 (2 * (i : Int) + 1))).run Tryz.prog W = .ok (.int .u8 (HHexa.sign b)) W := fun W => by rw [← hib W]; congr 3
      refine st 11 (fun w' => Kept W w' (fun _ => False)) [] S0 ?_
      refine pu 0 (some 18) (mk 11 1) ?_
      refine pu 1 (some 19) (mk 11 3) ?_
      refine pu 4 (some 22) (mk 11 19) ?_
      refine pu 5 (some 23) (mk 11 51) ?_
      refine pu 6 (some 24) (mk 11 115) ?_
      refine pu 2 (some 20) (mk 11 119) (v := .int .u8 (HHexa.sign a)) ?_ (hy := .inl ⟨by rfl, fun w' => ex_ix 9 (.tmp 18) (.tmp 19) (by rfl) (hia w')⟩)
      refine pu 7 (some 25) (mk 11 247) (v := .int .u8 (HHexa.sign b)) ?_ (hy := .inl ⟨by rfl, fun w' => ex_ix 9 (.tmp 22) (.tmp 24) (by rfl) (hib' w')⟩)
      refine cl 3 (some 21) (mk 11 255) Tryz.func212 (args := #[.int .u8 (HHexa.sign a)]) (hda _) ?_
      rintro e w1 ⟨rfl, k1⟩
      have S1 := S0.trans k1 (H := fun _ => False) (fun _ _ h => h) (fun _ _ h => h)
      refine ⟨_, rfl, S1, nm ?_⟩
      refine cl 8 (some 26) (mk 11 511) Tryz.func212 (args := #[.int .u8 (HHexa.sign b)]) (hdb _) ?_
      rintro e w2 ⟨rfl, k2⟩
      have S2 := S1.trans k2 (H := fun _ => False) (fun _ _ h => h) (fun _ _ h => h)
      refine ⟨_, rfl, S2, nm ?_⟩
      refine pu 9 (some 6) (mk 11 1023) ?_
      refine pu 10 (some 7) (mk 11 2047) ?_
      refine done_ (by kernel_rfl) ?_
      have D2 := D.out.keep S2
      have hlit := one_rd .u8 w2 (16 * (a : Int) + b) 5
      obtain ⟨v8, w8, ha8, hO8, -⟩ := OB.app (D2.keep (Kept.alloc w2 (.cells #[.int .u8 (16 * (a : Int) + b)] 5) (fun _ => False))) 23 hlit (by rw [List.length_take, HN.out]; simp; omega)
      have e8 : m.take i ++ [16 * (a : Int) + b] = m.take (i + 1) := by rw [List.take_add_one, List.getElem?_eq_getElem (by rw [HN.out]; omega), HAB.out]; rfl
      rw [e8] at hO8
      have D3 : Aside0 _ := ⟨hO8⟩
      clear hO8 D2 S0 S1 S2 k1 k2 D e8 hlit
      go_wp2_with (refine wpList_app rfl (.tmp 33) (.tmp 39) 23 23 rfl (some 40) rfl u4 (.slice (some ⟨w2.heap.size, 0, none⟩) 1 1) rfl rfl v8 w8 ha8 ?_)
      go_roundg (n - (i + 1))
      case measure => omega
      case rel => exact ⟨i + 1, by go_num, by omega, by omega, D3⟩
    · have hge : ¬ (2 * (i : Int) < 2 * (n : Int)) := by omega
      have hin : i = n := by omega
      have h1 := D.out
      rw [hin, List.take_of_length_le (Nat.le_of_eq HN.out)] at h1
      have h2 := h1.rd (by rw [HN.out]; omega)
      obtain ⟨a, c', rfl, -⟩ := h2.len
      have hN : New w a := fun ad e => by subst e; exact h1.new _ rfl
      have FIN : Aside0 _ := ⟨And.intro h2 (And.intro hN h1.kept)⟩
      clear h1 h2 D hN
      go_wp2
      go_ret2
      exact ⟨_, rfl, FIN.out⟩
end Go.Proofs.YtmbjlondehcheaaGreatDoor
end
section
set_option linter.unusedSimpArgs false
set_option linter.unusedVariables false
namespace Go.Proofs.YtmbjlondehcheaaGreatDoor
open Go.Shelf Go.RowKit Go.Lib Go.Sort Go.Proofs.YtmbjlondehcheaaGreatDoorW.PrintWords Go.Proofs.YtmbjlondehcheaaGreatDoorW.PrintLast Go.Proofs.YtmbjlondehcheaaGreatDoor.PTopTalk
theorem ext_drop (l : List Int) (k : Nat) : (strOfNums l).extract k l.length = strOfNums (l.drop k) := by
  unfold strOfNums
  ext1
  simp [ByteArray.data_extract, List.extract_eq_take_drop]
  rw [List.take_of_length_le (by simp)]
theorem ext_take (l : List Int) (k : Nat) : (strOfNums l).extract 0 k = strOfNums (l.take k) := by
  unfold strOfNums
  ext1
  simp [ByteArray.data_extract, List.extract_eq_take_drop]
set_option maxRecDepth 1000000 in
theorem hasSuffix_calls (a b : List Int) (hl : a.length + b.length ≤ 100000) (w : World) : Calls Tryz.prog 218 #[.string (strOfNums (a ++ b)), .string (strOfNums b)] w fun e w' => e = .returned (.bool true) ∧ w' = w := by
  have h1 : (strOfNums (a ++ b)).size = a.length + b.length := by rw [strOfNums_size]; simp
  have h2 : (strOfNums b).size = b.length := strOfNums_size b
  have h3 : (strOfNums (a ++ b)).extract a.length (a.length + b.length) = strOfNums b := by
    have := ext_drop (a ++ b) a.length
    rwa [List.length_append, List.drop_left] at this
  generalize strOfNums (a ++ b) = S at *
  generalize strOfNums b = T at *
  generalize a.length = la at *
  generalize b.length = lb at *
  have hz1 : ((S.size : Nat) : Int) = (la : Int) + lb := by omega
  have hz2 : ((T.size : Nat) : Int) = (lb : Int) := by omega
  have hz3 : (la : Int) + lb - lb = (la : Int) := by omega
  go_enter Tryz.func218, Tryz.ntmps218
  go_wp2
  go_ret
  exact ⟨rfl, rfl⟩
set_option maxRecDepth 1000000 in
theorem cut_calls (a b : List Int) (hl : a.length + b.length ≤ 100000) (w : World) : Calls Tryz.prog 214 #[.string (strOfNums (a ++ b)), .string (strOfNums b)] w fun e w' => e = .returned (.tuple #[.string (strOfNums a), .bool true]) ∧ w' = w := by
  have hs := hasSuffix_calls a b hl w
  have h1 : (strOfNums (a ++ b)).size = a.length + b.length := by rw [strOfNums_size]; simp
  have h2 : (strOfNums b).size = b.length := strOfNums_size b
  have h3 : (strOfNums (a ++ b)).extract 0 a.length = strOfNums a := by rw [ext_take, List.take_left]
  generalize strOfNums (a ++ b) = S at *
  generalize strOfNums b = T at *
  generalize strOfNums a = U at *
  generalize a.length = la at *
  generalize b.length = lb at *
  have hz1 : ((S.size : Nat) : Int) = (la : Int) + lb := by omega
  have hz2 : ((T.size : Nat) : Int) = (lb : Int) := by omega
  have hz3 : (la : Int) + lb - lb = (la : Int) := by omega
  go_enter Tryz.func214, Tryz.ntmps214
  go_wp2_with (go_at_call 218; with_reducible refine hs.mono ?_; rintro e w1 ⟨rfl, rfl⟩; clear hs)
  go_ret2
  exact ⟨rfl, rfl⟩
set_option maxRecDepth 1000000 in
theorem cut2_calls (a b : List Int) (hl : a.length + b.length ≤ 100000) (w : World) : Calls Tryz.prog 211 #[.string (strOfNums (a ++ b)), .string (strOfNums b)] w fun e w' => e = .returned (.tuple #[.string (strOfNums a), .bool true]) ∧ w' = w := by
  have hs := cut_calls a b hl w
  generalize strOfNums (a ++ b) = S at *
  generalize strOfNums b = T at *
  generalize strOfNums a = U at *
  go_enter Tryz.func211, Tryz.ntmps211
  go_wp2_with (go_at_call 214; with_reducible refine hs.mono ?_; rintro e w1 ⟨rfl, rfl⟩; clear hs)
  go_ret2
  exact ⟨rfl, rfl⟩
theorem wp_next {oi : Oper} {a : Act} {w : World} {K : Act → World → Prop} {Q : Exit → Act → World → Prop} (x : Operand) (b : Bool) (ho : oi.op = .next x b) (vx v : Value) (hx : a.eval x = vx) (w' : World) (hr : (Instr.next vx b oi.type).run Tryz.prog w = .ok v w') (h : K (a.put oi.dst v) w') : Oper.wp Tryz.prog oi a w K Q := by
  unfold Oper.wp execOp
  simp only [ho, hx, Sem.run_bind, Sem.run_pure, Result.andThen_ok, hr]
  exact h
set_option maxRecDepth 1000000 in
theorem digits_calls (H : List Int) (hl : H.length ≤ 1000) (w : World) : Calls Tryz.prog 208 #[.string (strOfNums (58 :: H ++ [13, 10]))] w fun e w' => e = .returned (.tuple #[.string (strOfNums H), .bool true]) ∧ Kept w w' (fun _ => False) := by
  have hs : ∀ W, Calls Tryz.prog 211 #[.string (strOfNums (H ++ [13, 10])), .string ⟨#[13, 10]⟩] W fun e w' => e = .returned (.tuple #[.string (strOfNums H), .bool true]) ∧ w' = W := fun W => cut2_calls H [13, 10] (by simp; omega) W
  have h3 : (strOfNums (58 :: H ++ [13, 10])).extract 1 (H.length + 3) = strOfNums (H ++ [13, 10]) := by
    have := ext_drop (58 :: H ++ [13, 10]) 1
    have e : (58 :: H ++ [13, 10]).length = H.length + 3 := by simp
    rwa [e] at this
  have h1 : (strOfNums (58 :: H ++ [13, 10])).size = H.length + 3 := by rw [strOfNums_size]; simp
  have h58 : ∀ h, ((strOfNums (58 :: H ++ [13, 10]))[0]'h).toNat = 58 := fun _ => rfl
  generalize strOfNums (58 :: H ++ [13, 10]) = S at *
  generalize strOfNums (H ++ [13, 10]) = T at *
  generalize strOfNums H = U at *
  have hz1 : ((S.size : Nat) : Int) = (H.length : Int) + 3 := by omega
  generalize H.length = n at *
  have hnx : ∀ ty, (Instr.next (.pointer (some ⟨w.heap.size, 0, none⟩)) true ty).run Tryz.prog (w.iter S 0) = .ok (.tuple #[.bool true, .int .i64 0, .int .i32 58]) (w.iter S 1) := fun ty => by
    rw [run_next_ascii w S 0 ty (by omega) (by rw [h58]; omega), h58]
    rfl
  have KF : Aside0 (Kept w (w.iter S 1) (fun _ => False)) := ⟨Kept.alloc w _ _⟩
  clear h58
  go_enter Tryz.func208, Tryz.ntmps208
  go_wp2
  go_loopg [5] 1 (fun kx s5 wr => wr = w.iter S 0)
  case atStart => rfl
  case round =>
    subst hrel
    generalize w.iter S 0 = w1 at *
    generalize w.iter S 1 = w2 at *
    generalize w.heap.size = g at *
    go_wp2_with (first | (refine wpList_plain rfl fun _ hK => wp_next (.tmp 7) true rfl _ _ rfl _ (hnx _) (hK _ _ ?_)) | (go_at_call 211; with_reducible refine (hs _).mono ?_; rintro e w3 ⟨rfl, rfl⟩))
    all_goals
      go_ret2
      exact ⟨rfl, KF.out⟩
end Go.Proofs.YtmbjlondehcheaaGreatDoor
end
section
set_option linter.unusedSimpArgs false
set_option linter.unusedVariables false
namespace Go.Proofs.YtmbjlondehcheaaGreatDoor
open Go.Shelf Go.RowKit Go.Lib Go.Sort Go.Proofs.YtmbjlondehcheaaGreatDoorW.PrintWords Go.Proofs.YtmbjlondehcheaaGreatDoorW.PrintLast Go.Proofs.YtmbjlondehcheaaGreatDoor.PTopTalk
set_option maxHeartbeats 2000000 in
set_option maxRecDepth 1000000 in
theorem ascP_calls {dir u : Int} (hdir : dir = 0 ∨ dir = 1) (hu : 0 ≤ u ∧ u < 256) {p : List Int} (hO : Oct p) {x : S35} (h : Parsed dir p x) : FrP 206 ascB dir u 0 p x := by
  intro w v hB
  have hlen := ascB_len u 0 p
  have hp0 := h.some_
  have hp1 := h.few
  obtain ⟨A, c, rfl, hc⟩ := hB.len
  have hcv := fun W (k : Kept w W (fun _ => False)) => str_by W _ _ (hB.keep k)
  have hoc : Oct (u :: p ++ [lrcL (u :: p)]) := fun y hy => by
    have := lrcL_oct (u :: p)
    simp only [List.cons_append, List.mem_cons, List.mem_append, List.mem_singleton, List.not_mem_nil, or_false] at hy
    rcases hy with rfl | hy | rfl
    · omega
    · exact hO y hy
    · omega
  have hdg : ∀ W, Calls Tryz.prog 208 #[.string (strOfNums (ascB u 0 p))] W fun e w' => e = .returned (.tuple #[.string (strOfNums (hexL (u :: p ++ [lrcL (u :: p)]))), .bool true]) ∧ Kept W w' (fun _ => False) := fun W => digits_calls _ (by simp [hexL, HHexa.hexL_length]; omega) W
  have htk : ∀ W, _ := fun W => hexTake_calls W (u :: p ++ [lrcL (u :: p)]) hoc (by simp; omega)
  have his : ∀ W v, By W v (u :: p ++ [lrcL (u :: p)]) → _ := fun W v h => lrcIs_calls W v (u :: p) h (by simp; omega)
  rw [hlen] at hcv ⊢
  have hcalls := h.calls
  have hz := zero35
  have hz7 : ∀ w, (zeroValue 37).run Tryz.prog w = .ok (.agg (fr 0 0 (cs35 0)).toArray) w := fun w => by kernel_rfl
  have g0 := heap_alloc_new w (.cells (fr 0 0 (cs35 0)).toArray 37)
  have q0 := Kept.alloc w (.cells (fr 0 0 (cs35 0)).toArray 37) (fun _ => False)
  generalize ascB u 0 p = L at *
  have hml : (u :: p ++ [lrcL (u :: p)]).length = p.length + 2 := by simp
  have hmu : (u :: p ++ [lrcL (u :: p)])[0]? = some u := rfl
  have hmp : ((u :: p ++ [lrcL (u :: p)]).take (p.length + 1)).drop 1 = p := by simp
  generalize u :: p ++ [lrcL (u :: p)] = m at *
  generalize strOfNums (hexL m) = S2 at *
  generalize strOfNums L = S1 at *
  generalize hk : p.length = k at *
  have hkz : (k : Int) ≤ 253 := by omega
  have hk1 : (1 : Int) ≤ (k : Int) := by omega
  have HK : Aside0 _ := ⟨And.intro hcalls (And.intro his (And.intro hml (And.intro hmu hmp)))⟩
  have hcv1 := hcv _ q0
  clear hB hc hlen h hk hcalls his hml hmu hmp hoc hO hcv
  rcases hdir with rfl | rfl
  all_goals
    go_enter Tryz.func206, Tryz.ntmps206
    go_upto_region 7 with fail
    generalize w.alloc (.cells (fr 0 0 (cs35 0)).toArray 37) = w1 at *
    generalize hrb : w.heap.size = rb at *
    have HRB : Aside0 _ := ⟨hrb⟩
    clear hrb
    go_upto_region 8 with (first
      | (refine wpList_plain rfl fun _ hK => wp_conv 23 9 (.tmp 30) rfl _ _ rfl _ hcv1 (hK _ _ ?_))
      | (go_at_call 208; with_reducible refine (hdg _).mono ?_; rintro e w2 ⟨rfl, k2⟩; have ht := htk w2))
    clear hcv1 hdg htk
    go_upto_region 11 with (go_at_call 209; with_reducible refine ht.mono ?_; rintro e w3 ⟨v3, rfl, hB3, -, k3⟩; clear ht)
    have hml := HK.out.2.2.1
    have hv3 : ∃ A3 c3, v3 = .slice A3 (k + 2) c3 ∧ k + 2 ≤ c3 := by
      obtain ⟨A3, c3, e, hh⟩ := hB3.len
      rw [hml] at e hh
      exact ⟨A3, c3, e, hh⟩
    obtain ⟨A3, c3, rfl, hc3⟩ := hv3
    have hi := HK.out.2.1 w3 _ hB3
    obtain ⟨ad, rfl, -, ca⟩ := hB3.at_ (i := 0) (by omega)
    replace ca : w3.cell? ad = some (.int .u8 u) := by
      obtain ⟨_, e⟩ := List.getElem?_eq_some_iff.1 HK.out.2.2.2.1
      rw [e] at ca
      simpa [Addr.add] using ca
    have hd := (hB3.take (m := k + 1) (by omega)).drop (m := 1) (by rw [List.length_take]; omega)
    have hmid : By w3 (.slice (some ⟨ad.block, ad.off + 1, none⟩) k (c3 - 1)) p := by
      rw [HK.out.2.2.2.2, if_neg (by omega)] at hd
      simpa [Addr.add] using hd
    have hcz : (k : Int) + 2 ≤ (c3 : Int) := by omega
    have hk3 : (0 : Int) < (k : Int) + 2 := by omega
    have K3 := (q0.trans k2 (H := fun _ => False) (fun _ _ h => h) (fun _ _ h => h)).trans k3 (H := fun _ => False) (fun _ _ h => h) (fun _ _ h => h)
    replace g0 := k3.heap (k2.heap g0 (fun h => h)) (fun h => h)
    clear hd hB3 k2 k3 hc3 hml q0
    go_upto_region 15 with (go_at_call 210; with_reducible refine hi.mono ?_; rintro e wi ⟨rfl, k4⟩; clear hi)
    replace g0 := k4.heap g0 (fun h => h)
    have hrl := heap_lt g0
    replace ca := k4.cell ca
    have Q2 := K3.trans k4 (H := fun _ => False) (fun _ _ h => h) (fun _ _ h => h)
    have hp := HK.out.1 wi _ (hmid.keep k4)
    clear K3 k4 hmid
    go_upto_region 16 with (first
      | (go_at_call 112; with_reducible refine hp.mono ?_; rintro e w5 ⟨ds, rfl, hD, k5⟩; have hds := cons35 (hD w5 (Kept.refl _ _)); have N3 := new_row w5 (cs35 0).toArray ds.toArray 35; have hone := all_oneCell_toArray (k35.K_one (hD w5 (Kept.refl _ _))))
      | (refine wpList_store_rowTo rfl 35 (.tmp 10) (.tmp 59) rfl rfl w5.heap.size ds.toArray rfl rfl 35 (cs35 0).toArray (heap_alloc_new _ _) (sizeM _ hds) (by rw [hds]; rfl) hone ?_))
    obtain ⟨f3, k6⟩ := N3
    have k34 := k5.trans k6 (H := fun _ => False) (fun _ _ h => h) (fun _ _ h => h)
    replace g0 := k34.heap g0 (fun h => h)
    replace ca := k34.cell ca
    have Q4 := Q2.trans k34 (H := fun _ => False) (fun _ _ h => h) (fun _ _ h => h)
    have hw23 := Q2.size
    have hD4 : Aside0 (∀ W, Kept ((w5.alloc (.cells (cs35 0).toArray 35)).setRow w5.heap.size ds.toArray) W (fun b => b < wi.heap.size) → k35.K W x ds) := ⟨fun W q => hD W (k6.trans q (fun _ _ h => h.elim) (fun _ _ h => h))⟩
    generalize (w5.alloc (.cells (cs35 0).toArray 35)).setRow w5.heap.size ds.toArray = w4 at *
    generalize w5.heap.size = yb at *
    have szd : (Tryz.prog.info? 35).map (·.size) = some ds.length := by simpa using sizeM ds.toArray hds
    have rd : w4.rangeAt yb 0 ds := fun j u hu => by rw [cell_of_row w4 yb (0 + j) _ 35 (0, 0) f3]; simpa using hu
    have gl := heap_lt g0
    clear hp k5 k6 k34 Q2 hD HK
    go_upto_region 18 with fail
    have S0 := Kept.drew w4 (fun _ => False)
    refine st 8 (fun w' => Kept w4 w' (fun _ => False)) [6] S0 ?_
    refine pu 0 (some 65) (mk 8 1) ?_
    refine pu 1 (some 66) (mk 8 3) ?_
    refine ld 2 (some 67) (mk 8 7) S0 (v := .int .u8 u) ?_ (hy := .inl ⟨by rfl, by intro w' hS; have q1 := hS.cell ca; go_simp; try with_reducible rfl⟩)
    refine pu 3 (some 68) (mk 8 15) (v := .agg #[.int .u8 u, .int .u16 0]) ?_ (hy := yields_build (by kernel_rfl) 29 #[(0, .tmp 67)] (by rfl) [(0, .int .u8 u)] (by (simp only [List.map_toArray, List.map_cons, List.map_nil]; rfl)) #[.int .u8 u, .int .u16 0] (by kernel_rfl))
    refine ld 4 (some 69) (mk 8 31) S0 (v := .agg ds.toArray) ?_ (hy := (yieldsIf_load_mid (by kernel_rfl) 35 (.tmp 10) rfl yb 0 rfl ds _ (fun w' hS => hS.range rd) Tryz.underlying35 rfl szd))
    refine pu 5 (some 70) (mk 8 63) (v := .agg (fr u 0 ds).toArray) ?_ (hy := yields_build (by kernel_rfl) 37 #[(0, .tmp 68), (1, .tmp 69)] (by rfl) [(0, .agg #[.int .u8 u, .int .u16 0]), (1, .agg ds.toArray)] (by (simp only [List.map_toArray, List.map_cons, List.map_nil]; rfl)) (fr u 0 ds).toArray (built37 u 0 ds hds))
    refine la 6 none (mk 8 127) fun K hK => ?_
    refine wp_store_row 37 (.tmp 4) (.tmp 70) rfl rb (fr u 0 ds).toArray rfl rfl 37 (fr 0 0 (cs35 0)).toArray (S0.heap g0 (fun h => h)) (sizeF hds u 0) (by simp at hds; simp [hds, cs35]) (oneFr hone u 0) ?_
    refine hK _ _ (nm ?_)
    clear hK K
    refine pu 7 (some 5) (mk 8 255) ?_
    refine done_ (by kernel_rfl) ?_
    have FIN : Aside0 ((∀ W, Kept (w4.drew.setRow rb (fr u 0 ds).toArray) W (fun b => b < w.heap.size) → k35.K W x ds) ∧ Kept w (w4.drew.setRow rb (fr u 0 ds).toArray) (fun _ => False)) := ⟨fun W q => hD4.out W ((S0.trans (Kept.setRow w4.drew rb _ (F := fun b => b = rb) rfl) (H := fun b => b = rb) (fun _ _ h => h.elim) (fun _ _ h => h)).trans q (fun b _ e => by have e2 : b = rb := e; show b < _; omega) (fun b _ h => by have h2 : b < w.heap.size := h; show b < _; omega)), (Q4.trans S0 (H := fun _ => False) (fun _ _ h => h) (fun _ _ h => h)).trans (Kept.setRow w4.drew rb _ (F := fun b => b = rb) rfl) (fun _ _ h => h) (fun b hb e => by have := HRB.out; omega)⟩
    have g9 := S0.heap g0 (fun h => h)
    clear S0 ca rd f3 Q4 hD4
    go_wp2
    refine bodyPost_ret (results_ct (p := 4) (u := 5) (ty := 37) Tryz.results206 _ _ rb 37 (fr u 0 ds).toArray (0, 0) _ rfl (setRow_heap _ _ _ _ 37 _ g9) Tryz.underlying37 rfl (sizeF hds u 0)) rfl ?_
    exact ⟨ds, rfl, FIN.out.1, FIN.out.2⟩
end Go.Proofs.YtmbjlondehcheaaGreatDoor
end
