/- TopTalk: part 30 of the walks: of HLine, HAwk, HAwake. -/
import Derived.Test.YtmbjlondehcheaaGreatDoorM29
section
set_option linter.unusedSimpArgs false
set_option linter.unusedVariables false
namespace Go.Proofs.YtmbjlondehcheaaGreatDoor.HHexa
open Go.Shelf Go.RowKit Go.Lib Go.Proofs.YtmbjlondehcheaaGreatDoor Go.Proofs.YtmbjlondehcheaaGreatDoorW.PrintWords Go.Proofs.YtmbjlondehcheaaGreatDoorW.PrintLast
theorem heap_lt' {w : World} {g : Nat} {o : Obj} (h : w.heap[g]? = some o) : g < w.heap.size := (Array.getElem?_eq_some_iff.1 h).1
theorem isb_lt {T e : TypeId} {B b : Nat} {bs : List Value} {w : World} (h : Lib.IsBuilder T e B b bs w) : b < w.heap.size := by
  rcases h with h | h <;> exact h.lt
theorem builder_keep {B b : Nat} {bs : List Value} {w w' : World} (h : Lib.IsBuilder 85 5 B b bs w) (k : Kept w w' (fun _ => False)) : Lib.IsBuilder 85 5 B b bs w' := by
  rcases h with ⟨hB, v, hb, ho, hne⟩ | ⟨hB, v, hb, ho, hne⟩
  · exact .inl ⟨hB, v, k.heap hb (fun h => h), k.owns ho (fun _ _ h => h), hne⟩
  · exact .inr ⟨hB, v, k.heap hb (fun h => h), k.owns ho (fun _ _ h => h), hne⟩
theorem new_row' (w : World) (Z C : Array Value) (t : TypeId) : ((w.alloc (.cells Z t)).setRow w.heap.size C).heap[w.heap.size]? = some (.cells C t (0, 0)) ∧ Kept w ((w.alloc (.cells Z t)).setRow w.heap.size C) (fun _ => False) :=
  ⟨setRow_heap (w.alloc (.cells Z t)) w.heap.size Z C t _ (heap_alloc_new _ _), (Kept.alloc w _ (fun _ => False)).trans (Kept.setRow _ w.heap.size _ (F := fun b => b = w.heap.size) rfl) (fun _ _ h => h) (fun k hk h => by omega)⟩
theorem bel_mono {B C : Nat} {w w' : World} (h : Below B w w') (hC : C ≤ B) : Below C w w' := ⟨h.os, h.tape, h.output, h.size, fun k hk => h.block k (by omega)⟩
theorem Dg.wrap {n : Int} {d : UInt8} (h : Dg n d) : IntKind.i64.wrap n = n := by rcases h with ⟨rfl, -⟩ | ⟨rfl, -⟩ | ⟨rfl, -⟩ | ⟨rfl, -⟩ <;> rfl
set_option maxHeartbeats 400000 in
set_option maxRecDepth 1000000 in
theorem letter_calls {k : Int} {d : Int} (h : k = 0 ∧ d = 97 ∨ k = 4 ∧ d = 121) (w : World) : Calls Tryz.prog 27 #[.int .i64 k] w fun e w' => e = .returned (.int .u8 d) ∧ w' = w := by
  rcases h with ⟨rfl, rfl⟩ | ⟨rfl, rfl⟩
  all_goals
    go_enter Tryz.func27, Tryz.ntmps27
    go_wp2
    go_ret
    exact ⟨rfl, rfl⟩
set_option maxHeartbeats 2000000 in
set_option maxRecDepth 1000000 in
theorem line0 {n u t c : Int} {dn du dt dc : UInt8} (hn : Dg n dn) (hu : Dg u du) (ht : Dg t dt) (hc : Dg c dc) (w : World) (fs : List Value) (v : Value) (hf : fs.length = 24) (h1 : ∀ y ∈ fs, y.oneCell' = true) (f0 : fs[0]? = some (.int .u8 u)) (f1' : fs[1]? = some (.int .u16 t)) (f2 : fs[2]? = some (.int .u8 c)) (f3 : fs[3]? = some (.int .u8 0))
    (vg ca : Nat) (hv : v = .slice (some ⟨vg, 0, none⟩) 1 ca) (ns : List Value) (hns : ns.length = 49) (hn1 : ∀ y ∈ ns, y.oneCell' = true) (hn0 : ns[0]? = some (.int .i64 0)) (hr : w.rangeAt vg 0 ns) :
    Calls Tryz.prog 12 #[.agg (.int .i64 n :: .int .i64 0 :: .int .i64 0 :: (fs ++ [v])).toArray] w fun e w' => e = .returned (.string ⟨#[dn, 32, 81, 32, du, 46, dt, 32, dc, 32, 97]⟩) ∧ Below w.heap.size w w' := by
  have eg : ∀ args w, (callFunc 23 args).run Tryz.prog w = .ok (.enter 23 args) w := enters_of Tryz.func23 (by kernel_rfl) rfl
  have q1 := (Below.refl w.heap.size w).alloc (Nat.le_refl _) (.cells (.int .i64 n :: .int .i64 0 :: .int .i64 0 :: (fs ++ [v]) : List Value).toArray 50)
  have hrow := heap_alloc_new w (.cells (.int .i64 n :: .int .i64 0 :: .int .i64 0 :: (fs ++ [v]) : List Value).toArray 50)
  obtain ⟨rs, hrs⟩ : ∃ rs, (.int .i64 n :: .int .i64 0 :: .int .i64 0 :: (fs ++ [v]) : List Value) = rs := ⟨_, rfl⟩
  rw [hrs] at q1 hrow ⊢
  have g0 : rs[0]? = some (.int .i64 n) := by rw [← hrs]; rfl
  have g1 : rs[1]? = some (.int .i64 0) := by rw [← hrs]; rfl
  have g2 : rs[2]? = some (.int .i64 0) := by rw [← hrs]; rfl
  have g3 : ∀ j y, fs[j]? = some y → rs[3 + j]? = some y := fun j y hy => by
    have hj := (List.getElem?_eq_some_iff.1 hy).1
    rw [← hrs, Nat.add_comm]; show (fs ++ [v])[j]? = some y
    rw [List.getElem?_append_left hj]; exact hy
  have g27 : rs[27]? = some v := by
    rw [← hrs]; show (fs ++ [v])[24]? = some v
    rw [List.getElem?_append_right (by omega), hf]; rfl
  have HV : Aside0 _ := ⟨And.intro hrs hv⟩
  clear hrs
  go_enter Tryz.func12, Tryz.ntmps12
  go_upto_region 1 with fail
  generalize w.alloc (.cells rs.toArray 50) = w1 at *
  have e1 := q1.size
  generalize hrb0 : w.heap.size = rb at *
  have HRB : Aside0 _ := ⟨hrb0⟩
  clear hrb0
  have I2 : Lib.IsBuilder 85 5 w1.heap.size w1.heap.size (Lib.byteCells []) (w1.alloc (.cells #[.pointer none, .slice none 0 0] 85)) := Or.inl ⟨Nat.le_refl _, .slice none 0 0, heap_alloc_new _ _, World.ownsRow_nil _ _ _ _, by simp [Value.ownBlock]⟩
  have hrb : rb < w1.heap.size := heap_lt' hrow
  have BB2 := (Below.refl w1.heap.size w1).alloc (Nat.le_refl _) (.cells #[.pointer none, .slice none 0 0] 85)
  replace hrow := (BB2.block rb hrb).trans hrow
  go_upto_region 2 with fail
  generalize w1.alloc (.cells #[.pointer none, .slice none 0 0] 85) = w2 at *
  have e2 := BB2.size
  generalize hb : w1.heap.size = b at *
  have c0 : w2.cell? ⟨rb, 0, none⟩ = some (.int .i64 n) := by rw [cell_of_row w2 rb 0 _ 50 (0, 0) hrow]; simpa using g0
  have hw3 := number_calls b b [] ⟨#[]⟩ hn w2 I2 (by simp) (by decide) (by have := isb_lt I2; omega) (l' := [dn]) rfl
  go_upto_region 4 with (first | (go_at_fn 23; with_reducible refine hw3.mono ?_; rintro e w3 ⟨rfl, I3, b3, o3⟩; clear hw3))
  have BB3 := BB2.trans b3
  replace hrow := (b3.block rb hrb).trans hrow
  clear b3 o3
  have c1 : w3.cell? ⟨rb, 1, none⟩ = some (.int .i64 0) := by rw [cell_of_row w3 rb 1 _ 50 (0, 0) hrow]; simpa using g1
  have c2 : w3.cell? ⟨rb, 3, none⟩ = some (.int .u8 u) := by rw [cell_of_row w3 rb 3 _ 50 (0, 0) hrow]; have := g3 0 _ f0; simpa using this
  have c3 : w3.cell? ⟨rb, 2, none⟩ = some (.int .i64 0) := by rw [cell_of_row w3 rb 2 _ 50 (0, 0) hrow]; simpa using g2
  go_upto_region 8 with fail
  clear c0 c1
  have rg3 : w3.rangeAt rb 3 fs := fun j y hy => by rw [cell_of_row w3 rb (3 + j) _ 50 (0, 0) hrow]; have := g3 j y hy; simpa using this
  have sz37 : (Tryz.prog.info? 37).map (·.size) = some fs.length := by rw [hf]; kernel_rfl
  have sz37' : (Tryz.prog.info? 37).map (·.size) = some fs.toArray.size := by rw [List.size_toArray]; exact sz37
  have hl37 : (#[.int .u8 0, .int .u16 0, .int .u8 0, .int .u8 0, .int .u16 0, .int .u16 0, .int .u16 0, .int .u16 0, .int .u16 0, .int .u16 0, .int .u16 0, .int .u16 0, .int .u16 0, .int .u16 0, .slice none 0 0, .slice none 0 0, .slice none 0 0, .slice none 0 0, .int .u8 0, .int .u8 0, .int .u8 0, .int .u8 0, .int .u8 0, .slice none 0 0] : Array Value).size = fs.toArray.size := by simp [hf]
  have on37 := all_oneCell_toArray h1
  go_upto_region 9 with (first
    | (refine wpList_load_mid rfl 37 (.tmp 22) rfl rb 3 rfl fs _ rg3 Tryz.underlying37 rfl sz37 ?_)
    | (refine wpList_store_row rfl 37 (.tmp 6) (.tmp 23) rfl w3.heap.size fs.toArray rfl rfl 37 #[.int .u8 0, .int .u16 0, .int .u8 0, .int .u8 0, .int .u16 0, .int .u16 0, .int .u16 0, .int .u16 0, .int .u16 0, .int .u16 0, .int .u16 0, .int .u16 0, .int .u16 0, .int .u16 0, .slice none 0 0, .slice none 0 0, .slice none 0 0, .slice none 0 0, .int .u8 0, .int .u8 0, .int .u8 0, .int .u8 0, .int .u8 0, .slice none 0 0] (heap_alloc_new _ _) sz37' hl37 on37 ?_))
  clear rg3 sz37 sz37' hl37 on37 c2 c3
  obtain ⟨f1, k4⟩ := new_row' w3 #[.int .u8 0, .int .u16 0, .int .u8 0, .int .u8 0, .int .u16 0, .int .u16 0, .int .u16 0, .int .u16 0, .int .u16 0, .int .u16 0, .int .u16 0, .int .u16 0, .int .u16 0, .int .u16 0, .slice none 0 0, .slice none 0 0, .slice none 0 0, .slice none 0 0, .int .u8 0, .int .u8 0, .int .u8 0, .int .u8 0, .int .u8 0, .slice none 0 0] fs.toArray 37
  have e3 := BB3.size
  have hbb : b < w3.heap.size := isb_lt I3
  generalize (w3.alloc (.cells #[.int .u8 0, .int .u16 0, .int .u8 0, .int .u8 0, .int .u16 0, .int .u16 0, .int .u16 0, .int .u16 0, .int .u16 0, .int .u16 0, .int .u16 0, .int .u16 0, .int .u16 0, .int .u16 0, .slice none 0 0, .slice none 0 0, .slice none 0 0, .slice none 0 0, .int .u8 0, .int .u8 0, .int .u8 0, .int .u8 0, .int .u8 0, .slice none 0 0] 37)).setRow w3.heap.size fs.toArray = w4 at *
  obtain ⟨vb, hvb⟩ : ∃ vb, w3.heap.size = vb := ⟨_, rfl⟩
  have hvb2 : ¬ vb = b := by omega
  have hvb3 : vb < w4.heap.size := heap_lt' (hvb ▸ f1)
  have I4 := builder_keep I3 k4
  have BB4 := BB3.trans (k4.below (B := b) (by omega) (fun _ _ h => h))
  replace hrow := k4.heap hrow (fun h => h)
  rw [hvb] at f1 ⊢
  clear k4 I3 BB3 BB2
  have hwu : IntKind.i64.wrap u = u := hu.wrap
  have hwt : IntKind.i64.wrap t = t := ht.wrap
  have hwc : IntKind.i64.wrap c = c := hc.wrap
  have c0 : w4.cell? ⟨vb, 0, none⟩ = some (.int .u8 u) := by rw [cell_of_row w4 vb 0 _ 37 (0, 0) f1]; simpa using f0
  have hw5 := number_calls b b [dn] ⟨#[32, 81, 32]⟩ hu w4 I4 (by simp) (by decide) (by have := isb_lt I4; omega) (l' := [dn, 32, 81, 32, du]) rfl
  go_upto_region 10 with (first | (go_at_fn 23; with_reducible refine hw5.mono ?_; rintro e w5 ⟨rfl, I5, b5, o5⟩; clear hw5))
  have BB5 := BB4.trans b5
  replace hrow := (b5.block rb hrb).trans hrow
  replace f1 := o5 vb _ _ _ f1 (by decide) (by omega)
  clear b5 o5
  clear c0
  have c0 : w5.cell? ⟨vb, 1, none⟩ = some (.int .u16 t) := by rw [cell_of_row w5 vb 1 _ 37 (0, 0) f1]; simpa using f1'
  have hw6 := number_calls b b [dn, 32, 81, 32, du] ⟨#[46]⟩ ht w5 I5 (by simp) (by decide) (by have := isb_lt I5; omega) (l' := [dn, 32, 81, 32, du, 46, dt]) rfl
  go_upto_region 11 with (first | (go_at_fn 23; with_reducible refine hw6.mono ?_; rintro e w6 ⟨rfl, I6, b6, o6⟩; clear hw6))
  have BB6 := BB5.trans b6
  replace hrow := (b6.block rb hrb).trans hrow
  replace f1 := o6 vb _ _ _ f1 (by decide) (by omega)
  clear b6 o6
  clear c0
  have c0 : w6.cell? ⟨vb, 2, none⟩ = some (.int .u8 c) := by rw [cell_of_row w6 vb 2 _ 37 (0, 0) f1]; simpa using f2
  have hw7 := number_calls b b [dn, 32, 81, 32, du, 46, dt] ⟨#[32]⟩ hc w6 I6 (by simp) (by decide) (by have := isb_lt I6; omega) (l' := [dn, 32, 81, 32, du, 46, dt, 32, dc]) rfl
  go_upto_region 12 with (first | (go_at_fn 23; with_reducible refine hw7.mono ?_; rintro e w7 ⟨rfl, I7, b7, o7⟩; clear hw7))
  have BB7 := BB6.trans b7
  replace hrow := (b7.block rb hrb).trans hrow
  replace f1 := o7 vb _ _ _ f1 (by decide) (by omega)
  clear b7 o7
  clear c0
  have c0 : w7.cell? ⟨vb, 3, none⟩ = some (.int .u8 0) := by rw [cell_of_row w7 vb 3 _ 37 (0, 0) f1]; simpa using f3
  have c27 : w7.cell? ⟨rb, 27, none⟩ = some (.slice (some ⟨vg, 0, none⟩) 1 ca) := by rw [cell_of_row w7 rb 27 _ 50 (0, 0) hrow, ← hv]; simpa using g27
  have BA : Aside0 (Below rb w w7) := ⟨(bel_mono q1 (by omega)).trans (bel_mono BB7 (by omega))⟩
  have IA : Aside0 _ := ⟨I7⟩
  have rvg : w7.rangeAt vg 0 ns := fun j y hy => by have h := hr j y hy; have h2 : vg < w.heap.size := World.block_lt_of_cell? _ _ h; have h4 := HRB.out; exact (BA.out.cell (show (⟨vg, 0 + j, none⟩ : Addr).block < rb by show vg < rb; omega)).trans h
  have e7 := BB7.size
  clear hrow f1 I7 q1 BB4 BB5 BB6 BB7
  go_wp2
  go_loopg [63] 1 (fun kx s63 wr => (s63 = .int .i64 0 ∧ 1 ≤ kx ∧ wr = w7) ∨ (s63 = .int .i64 1 ∧ Aside0 (Lib.IsBuilder 85 5 b b (Lib.byteCells [dn, 32, 81, 32, du, 46, dt, 32, dc, 32, 97]) wr ∧ Below b w7 wr)))
  case atStart => exact .inl ⟨rfl, Nat.le_refl _, rfl⟩
  case round =>
    rcases hrel with ⟨rfl, hkx, rfl⟩ | ⟨rfl, D⟩
    · have sz52 : (Tryz.prog.info? 52).map (·.size) = some ns.length := by rw [hns]; kernel_rfl
      have sz52' : (Tryz.prog.info? 52).map (·.size) = some ns.toArray.size := by rw [List.size_toArray]; exact sz52
      have hl52 : (#[.int .i64 0, .int .u8 0, .int .u16 0, .int .u8 0, .int .u8 0, .int .u16 0, .int .u16 0, .int .u16 0, .int .u16 0, .int .u16 0, .int .u16 0, .int .u16 0, .int .u16 0, .int .u16 0, .int .u16 0, .slice none 0 0, .slice none 0 0, .slice none 0 0, .slice none 0 0, .int .u8 0, .int .u8 0, .int .u8 0, .int .u8 0, .int .u8 0, .slice none 0 0, .int .u8 0, .int .u16 0, .int .u8 0, .int .u8 0, .int .u16 0, .int .u16 0, .int .u16 0, .int .u16 0, .int .u16 0, .int .u16 0, .int .u16 0, .int .u16 0, .int .u16 0, .int .u16 0, .slice none 0 0, .slice none 0 0, .slice none 0 0, .slice none 0 0, .int .u8 0, .int .u8 0, .int .u8 0, .int .u8 0, .int .u8 0, .slice none 0 0] : Array Value).size = ns.toArray.size := by simp [hns]
      have on52 := all_oneCell_toArray hn1
      obtain ⟨f2n, k8⟩ := new_row' wr #[.int .i64 0, .int .u8 0, .int .u16 0, .int .u8 0, .int .u8 0, .int .u16 0, .int .u16 0, .int .u16 0, .int .u16 0, .int .u16 0, .int .u16 0, .int .u16 0, .int .u16 0, .int .u16 0, .int .u16 0, .slice none 0 0, .slice none 0 0, .slice none 0 0, .slice none 0 0, .int .u8 0, .int .u8 0, .int .u8 0, .int .u8 0, .int .u8 0, .slice none 0 0, .int .u8 0, .int .u16 0, .int .u8 0, .int .u8 0, .int .u16 0, .int .u16 0, .int .u16 0, .int .u16 0, .int .u16 0, .int .u16 0, .int .u16 0, .int .u16 0, .int .u16 0, .int .u16 0, .slice none 0 0, .slice none 0 0, .slice none 0 0, .slice none 0 0, .int .u8 0, .int .u8 0, .int .u8 0, .int .u8 0, .int .u8 0, .slice none 0 0] ns.toArray 52
      go_upto_region 18 with (first
        | (refine wpList_load_mid rfl 52 (.tmp 66) rfl vg 0 rfl ns _ rvg Tryz.underlying52 rfl sz52 ?_)
        | (refine wpList_store_row rfl 52 (.tmp 8) (.tmp 67) rfl wr.heap.size ns.toArray rfl rfl 52 #[.int .i64 0, .int .u8 0, .int .u16 0, .int .u8 0, .int .u8 0, .int .u16 0, .int .u16 0, .int .u16 0, .int .u16 0, .int .u16 0, .int .u16 0, .int .u16 0, .int .u16 0, .int .u16 0, .int .u16 0, .slice none 0 0, .slice none 0 0, .slice none 0 0, .slice none 0 0, .int .u8 0, .int .u8 0, .int .u8 0, .int .u8 0, .int .u8 0, .slice none 0 0, .int .u8 0, .int .u16 0, .int .u8 0, .int .u8 0, .int .u16 0, .int .u16 0, .int .u16 0, .int .u16 0, .int .u16 0, .int .u16 0, .int .u16 0, .int .u16 0, .int .u16 0, .int .u16 0, .slice none 0 0, .slice none 0 0, .slice none 0 0, .slice none 0 0, .int .u8 0, .int .u8 0, .int .u8 0, .int .u8 0, .int .u8 0, .slice none 0 0] (heap_alloc_new _ _) sz52' hl52 on52 ?_))
      have hbw := isb_lt IA.out
      generalize (wr.alloc (.cells #[.int .i64 0, .int .u8 0, .int .u16 0, .int .u8 0, .int .u8 0, .int .u16 0, .int .u16 0, .int .u16 0, .int .u16 0, .int .u16 0, .int .u16 0, .int .u16 0, .int .u16 0, .int .u16 0, .int .u16 0, .slice none 0 0, .slice none 0 0, .slice none 0 0, .slice none 0 0, .int .u8 0, .int .u8 0, .int .u8 0, .int .u8 0, .int .u8 0, .slice none 0 0, .int .u8 0, .int .u16 0, .int .u8 0, .int .u8 0, .int .u16 0, .int .u16 0, .int .u16 0, .int .u16 0, .int .u16 0, .int .u16 0, .int .u16 0, .int .u16 0, .int .u16 0, .int .u16 0, .slice none 0 0, .slice none 0 0, .slice none 0 0, .slice none 0 0, .int .u8 0, .int .u8 0, .int .u8 0, .int .u8 0, .int .u8 0, .slice none 0 0] 52)).setRow wr.heap.size ns.toArray = w8 at *
      obtain ⟨nb, hnb⟩ : ∃ nb, wr.heap.size = nb := ⟨_, rfl⟩
      rw [hnb] at f2n ⊢
      have hnb2 : ¬ nb = b := by omega
      have e8 := k8.size
      have hw8 := writeByte b b (Lib.byteCells [dn, 32, 81, 32, du, 46, dt, 32, dc]) 32 w8 (builder_keep IA.out k8) (by simp [Lib.byteCells]) (by omega)
      have B8 : Aside0 (Below b wr w8) := ⟨k8.below (by omega) (fun _ _ h => h)⟩
      clear k8 sz52 sz52' hl52 on52
      go_upto_region 20 with (first | (go_at_call 26; with_reducible refine hw8.mono ?_; rintro e w9 ⟨rfl, I9, b9, o9⟩; clear hw8))
      replace f2n := o9 nb _ _ _ f2n (by decide) hnb2
      have cn : w9.cell? ⟨nb, 0, none⟩ = some (.int .i64 0) := by rw [cell_of_row w9 nb 0 _ 52 (0, 0) f2n]; simpa using hn0
      have hlet := fun W => letter_calls (k := 0) (d := 97) (by decide) W
      have e9 := b9.size
      have hw9 := fun W (h : W = w9) => (h ▸ writeByte b b (Lib.byteCells [dn, 32, 81, 32, du, 46, dt, 32, dc] ++ [Value.int .u8 32]) 97 w9 (.inr I9) (by simp [Lib.byteCells]) (by omega) : Calls Tryz.prog 26 #[.pointer (some ⟨b, 0, none⟩), .int .u8 97] W _)
      have B9 : Aside0 (Below b wr w9) := ⟨B8.out.trans b9⟩
      clear I9 b9 o9 f2n
      go_upto_region 21 with (first
        | (go_at_call 27; with_reducible refine (hlet _).mono ?_; rintro e w10 ⟨rfl, rfl⟩)
        | (go_at_call 26; with_reducible refine (hw9 _ rfl).mono ?_; rintro e w11 ⟨rfl, I11, b11, o11⟩; clear hw9))
      have D2 : Aside0 (Lib.IsBuilder 85 5 b b (Lib.byteCells [dn, 32, 81, 32, du, 46, dt, 32, dc, 32, 97]) w11 ∧ Below b wr w11) := ⟨.inr I11, B9.out.trans b11⟩
      clear I11 b11 o11
      go_wp2
      go_roundg 0
      · exact .inr ⟨rfl, D2⟩
      · exact hkx
    · have hst := string_any b b [dn, 32, 81, 32, du, 46, dt, 32, dc, 32, 97] wr D.out.1 (by have := isb_lt D.out.1; omega)
      go_wp2_with (first | (go_at_call 28; with_reducible refine hst.mono ?_; rintro e w12 ⟨rfl, b12⟩; clear hst))
      go_ret
      exact ⟨rfl, by rw [HRB.out]; exact BA.out.trans (bel_mono (D.out.2.trans b12) (by omega))⟩
set_option maxHeartbeats 2000000 in
set_option maxRecDepth 1000000 in
theorem line1 {n u t c : Int} {dn du dt dc : UInt8} (hn : Dg n dn) (hu : Dg u du) (ht : Dg t dt) (hc : Dg c dc) (w : World) (fs : List Value) (v : Value) (hf : fs.length = 24) (h1 : ∀ y ∈ fs, y.oneCell' = true) (f0 : fs[0]? = some (.int .u8 u)) (f1' : fs[1]? = some (.int .u16 t)) (f2 : fs[2]? = some (.int .u8 c)) (f3 : fs[3]? = some (.int .u8 0))
    (vg ca : Nat) (hv : v = .slice (some ⟨vg, 0, none⟩) 1 ca) (ns : List Value) (hns : ns.length = 49) (hn1 : ∀ y ∈ ns, y.oneCell' = true) (hn0 : ns[0]? = some (.int .i64 4)) (hr : w.rangeAt vg 0 ns) :
    Calls Tryz.prog 12 #[.agg (.int .i64 n :: .int .i64 1 :: .int .i64 0 :: (fs ++ [v])).toArray] w fun e w' => e = .returned (.string ⟨#[dn, 32, 65, 32, du, 46, dt, 32, dc, 32, 121]⟩) ∧ Below w.heap.size w w' := by
  have eg : ∀ args w, (callFunc 23 args).run Tryz.prog w = .ok (.enter 23 args) w := enters_of Tryz.func23 (by kernel_rfl) rfl
  have q1 := (Below.refl w.heap.size w).alloc (Nat.le_refl _) (.cells (.int .i64 n :: .int .i64 1 :: .int .i64 0 :: (fs ++ [v]) : List Value).toArray 50)
  have hrow := heap_alloc_new w (.cells (.int .i64 n :: .int .i64 1 :: .int .i64 0 :: (fs ++ [v]) : List Value).toArray 50)
  obtain ⟨rs, hrs⟩ : ∃ rs, (.int .i64 n :: .int .i64 1 :: .int .i64 0 :: (fs ++ [v]) : List Value) = rs := ⟨_, rfl⟩
  rw [hrs] at q1 hrow ⊢
  have g0 : rs[0]? = some (.int .i64 n) := by rw [← hrs]; rfl
  have g1 : rs[1]? = some (.int .i64 1) := by rw [← hrs]; rfl
  have g2 : rs[2]? = some (.int .i64 0) := by rw [← hrs]; rfl
  have g3 : ∀ j y, fs[j]? = some y → rs[3 + j]? = some y := fun j y hy => by
    have hj := (List.getElem?_eq_some_iff.1 hy).1
    rw [← hrs, Nat.add_comm]; show (fs ++ [v])[j]? = some y
    rw [List.getElem?_append_left hj]; exact hy
  have g27 : rs[27]? = some v := by
    rw [← hrs]; show (fs ++ [v])[24]? = some v
    rw [List.getElem?_append_right (by omega), hf]; rfl
  have HV : Aside0 _ := ⟨And.intro hrs hv⟩
  clear hrs
  go_enter Tryz.func12, Tryz.ntmps12
  go_upto_region 1 with fail
  generalize w.alloc (.cells rs.toArray 50) = w1 at *
  have e1 := q1.size
  generalize hrb0 : w.heap.size = rb at *
  have HRB : Aside0 _ := ⟨hrb0⟩
  clear hrb0
  have I2 : Lib.IsBuilder 85 5 w1.heap.size w1.heap.size (Lib.byteCells []) (w1.alloc (.cells #[.pointer none, .slice none 0 0] 85)) := Or.inl ⟨Nat.le_refl _, .slice none 0 0, heap_alloc_new _ _, World.ownsRow_nil _ _ _ _, by simp [Value.ownBlock]⟩
  have hrb : rb < w1.heap.size := heap_lt' hrow
  have BB2 := (Below.refl w1.heap.size w1).alloc (Nat.le_refl _) (.cells #[.pointer none, .slice none 0 0] 85)
  replace hrow := (BB2.block rb hrb).trans hrow
  go_upto_region 2 with fail
  generalize w1.alloc (.cells #[.pointer none, .slice none 0 0] 85) = w2 at *
  have e2 := BB2.size
  generalize hb : w1.heap.size = b at *
  have c0 : w2.cell? ⟨rb, 0, none⟩ = some (.int .i64 n) := by rw [cell_of_row w2 rb 0 _ 50 (0, 0) hrow]; simpa using g0
  have hw3 := number_calls b b [] ⟨#[]⟩ hn w2 I2 (by simp) (by decide) (by have := isb_lt I2; omega) (l' := [dn]) rfl
  go_upto_region 4 with (first | (go_at_fn 23; with_reducible refine hw3.mono ?_; rintro e w3 ⟨rfl, I3, b3, o3⟩; clear hw3))
  have BB3 := BB2.trans b3
  replace hrow := (b3.block rb hrb).trans hrow
  clear b3 o3
  have c1 : w3.cell? ⟨rb, 1, none⟩ = some (.int .i64 1) := by rw [cell_of_row w3 rb 1 _ 50 (0, 0) hrow]; simpa using g1
  have c2 : w3.cell? ⟨rb, 3, none⟩ = some (.int .u8 u) := by rw [cell_of_row w3 rb 3 _ 50 (0, 0) hrow]; have := g3 0 _ f0; simpa using this
  have c3 : w3.cell? ⟨rb, 2, none⟩ = some (.int .i64 0) := by rw [cell_of_row w3 rb 2 _ 50 (0, 0) hrow]; simpa using g2
  go_upto_region 8 with fail
  clear c0 c1
  have rg3 : w3.rangeAt rb 3 fs := fun j y hy => by rw [cell_of_row w3 rb (3 + j) _ 50 (0, 0) hrow]; have := g3 j y hy; simpa using this
  have sz37 : (Tryz.prog.info? 37).map (·.size) = some fs.length := by rw [hf]; kernel_rfl
  have sz37' : (Tryz.prog.info? 37).map (·.size) = some fs.toArray.size := by rw [List.size_toArray]; exact sz37
  have hl37 : (#[.int .u8 0, .int .u16 0, .int .u8 0, .int .u8 0, .int .u16 0, .int .u16 0, .int .u16 0, .int .u16 0, .int .u16 0, .int .u16 0, .int .u16 0, .int .u16 0, .int .u16 0, .int .u16 0, .slice none 0 0, .slice none 0 0, .slice none 0 0, .slice none 0 0, .int .u8 0, .int .u8 0, .int .u8 0, .int .u8 0, .int .u8 0, .slice none 0 0] : Array Value).size = fs.toArray.size := by simp [hf]
  have on37 := all_oneCell_toArray h1
  go_upto_region 9 with (first
    | (refine wpList_load_mid rfl 37 (.tmp 22) rfl rb 3 rfl fs _ rg3 Tryz.underlying37 rfl sz37 ?_)
    | (refine wpList_store_row rfl 37 (.tmp 6) (.tmp 23) rfl w3.heap.size fs.toArray rfl rfl 37 #[.int .u8 0, .int .u16 0, .int .u8 0, .int .u8 0, .int .u16 0, .int .u16 0, .int .u16 0, .int .u16 0, .int .u16 0, .int .u16 0, .int .u16 0, .int .u16 0, .int .u16 0, .int .u16 0, .slice none 0 0, .slice none 0 0, .slice none 0 0, .slice none 0 0, .int .u8 0, .int .u8 0, .int .u8 0, .int .u8 0, .int .u8 0, .slice none 0 0] (heap_alloc_new _ _) sz37' hl37 on37 ?_))
  clear rg3 sz37 sz37' hl37 on37 c2 c3
  obtain ⟨f1, k4⟩ := new_row' w3 #[.int .u8 0, .int .u16 0, .int .u8 0, .int .u8 0, .int .u16 0, .int .u16 0, .int .u16 0, .int .u16 0, .int .u16 0, .int .u16 0, .int .u16 0, .int .u16 0, .int .u16 0, .int .u16 0, .slice none 0 0, .slice none 0 0, .slice none 0 0, .slice none 0 0, .int .u8 0, .int .u8 0, .int .u8 0, .int .u8 0, .int .u8 0, .slice none 0 0] fs.toArray 37
  have e3 := BB3.size
  have hbb : b < w3.heap.size := isb_lt I3
  generalize (w3.alloc (.cells #[.int .u8 0, .int .u16 0, .int .u8 0, .int .u8 0, .int .u16 0, .int .u16 0, .int .u16 0, .int .u16 0, .int .u16 0, .int .u16 0, .int .u16 0, .int .u16 0, .int .u16 0, .int .u16 0, .slice none 0 0, .slice none 0 0, .slice none 0 0, .slice none 0 0, .int .u8 0, .int .u8 0, .int .u8 0, .int .u8 0, .int .u8 0, .slice none 0 0] 37)).setRow w3.heap.size fs.toArray = w4 at *
  obtain ⟨vb, hvb⟩ : ∃ vb, w3.heap.size = vb := ⟨_, rfl⟩
  have hvb2 : ¬ vb = b := by omega
  have hvb3 : vb < w4.heap.size := heap_lt' (hvb ▸ f1)
  have I4 := builder_keep I3 k4
  have BB4 := BB3.trans (k4.below (B := b) (by omega) (fun _ _ h => h))
  replace hrow := k4.heap hrow (fun h => h)
  rw [hvb] at f1 ⊢
  clear k4 I3 BB3 BB2
  have hwu : IntKind.i64.wrap u = u := hu.wrap
  have hwt : IntKind.i64.wrap t = t := ht.wrap
  have hwc : IntKind.i64.wrap c = c := hc.wrap
  have c0 : w4.cell? ⟨vb, 0, none⟩ = some (.int .u8 u) := by rw [cell_of_row w4 vb 0 _ 37 (0, 0) f1]; simpa using f0
  have hw5 := number_calls b b [dn] ⟨#[32, 65, 32]⟩ hu w4 I4 (by simp) (by decide) (by have := isb_lt I4; omega) (l' := [dn, 32, 65, 32, du]) rfl
  go_upto_region 10 with (first | (go_at_fn 23; with_reducible refine hw5.mono ?_; rintro e w5 ⟨rfl, I5, b5, o5⟩; clear hw5))
  have BB5 := BB4.trans b5
  replace hrow := (b5.block rb hrb).trans hrow
  replace f1 := o5 vb _ _ _ f1 (by decide) (by omega)
  clear b5 o5
  clear c0
  have c0 : w5.cell? ⟨vb, 1, none⟩ = some (.int .u16 t) := by rw [cell_of_row w5 vb 1 _ 37 (0, 0) f1]; simpa using f1'
  have hw6 := number_calls b b [dn, 32, 65, 32, du] ⟨#[46]⟩ ht w5 I5 (by simp) (by decide) (by have := isb_lt I5; omega) (l' := [dn, 32, 65, 32, du, 46, dt]) rfl
  go_upto_region 11 with (first | (go_at_fn 23; with_reducible refine hw6.mono ?_; rintro e w6 ⟨rfl, I6, b6, o6⟩; clear hw6))
  have BB6 := BB5.trans b6
  replace hrow := (b6.block rb hrb).trans hrow
  replace f1 := o6 vb _ _ _ f1 (by decide) (by omega)
  clear b6 o6
  clear c0
  have c0 : w6.cell? ⟨vb, 2, none⟩ = some (.int .u8 c) := by rw [cell_of_row w6 vb 2 _ 37 (0, 0) f1]; simpa using f2
  have hw7 := number_calls b b [dn, 32, 65, 32, du, 46, dt] ⟨#[32]⟩ hc w6 I6 (by simp) (by decide) (by have := isb_lt I6; omega) (l' := [dn, 32, 65, 32, du, 46, dt, 32, dc]) rfl
  go_upto_region 12 with (first | (go_at_fn 23; with_reducible refine hw7.mono ?_; rintro e w7 ⟨rfl, I7, b7, o7⟩; clear hw7))
  have BB7 := BB6.trans b7
  replace hrow := (b7.block rb hrb).trans hrow
  replace f1 := o7 vb _ _ _ f1 (by decide) (by omega)
  clear b7 o7
  clear c0
  have c0 : w7.cell? ⟨vb, 3, none⟩ = some (.int .u8 0) := by rw [cell_of_row w7 vb 3 _ 37 (0, 0) f1]; simpa using f3
  have c27 : w7.cell? ⟨rb, 27, none⟩ = some (.slice (some ⟨vg, 0, none⟩) 1 ca) := by rw [cell_of_row w7 rb 27 _ 50 (0, 0) hrow, ← hv]; simpa using g27
  have BA : Aside0 (Below rb w w7) := ⟨(bel_mono q1 (by omega)).trans (bel_mono BB7 (by omega))⟩
  have IA : Aside0 _ := ⟨I7⟩
  have rvg : w7.rangeAt vg 0 ns := fun j y hy => by have h := hr j y hy; have h2 : vg < w.heap.size := World.block_lt_of_cell? _ _ h; have h4 := HRB.out; exact (BA.out.cell (show (⟨vg, 0 + j, none⟩ : Addr).block < rb by show vg < rb; omega)).trans h
  have e7 := BB7.size
  clear hrow f1 I7 q1 BB4 BB5 BB6 BB7
  go_wp2
  go_loopg [63] 1 (fun kx s63 wr => (s63 = .int .i64 0 ∧ 1 ≤ kx ∧ wr = w7) ∨ (s63 = .int .i64 1 ∧ Aside0 (Lib.IsBuilder 85 5 b b (Lib.byteCells [dn, 32, 65, 32, du, 46, dt, 32, dc, 32, 121]) wr ∧ Below b w7 wr)))
  case atStart => exact .inl ⟨rfl, Nat.le_refl _, rfl⟩
  case round =>
    rcases hrel with ⟨rfl, hkx, rfl⟩ | ⟨rfl, D⟩
    · have sz52 : (Tryz.prog.info? 52).map (·.size) = some ns.length := by rw [hns]; kernel_rfl
      have sz52' : (Tryz.prog.info? 52).map (·.size) = some ns.toArray.size := by rw [List.size_toArray]; exact sz52
      have hl52 : (#[.int .i64 0, .int .u8 0, .int .u16 0, .int .u8 0, .int .u8 0, .int .u16 0, .int .u16 0, .int .u16 0, .int .u16 0, .int .u16 0, .int .u16 0, .int .u16 0, .int .u16 0, .int .u16 0, .int .u16 0, .slice none 0 0, .slice none 0 0, .slice none 0 0, .slice none 0 0, .int .u8 0, .int .u8 0, .int .u8 0, .int .u8 0, .int .u8 0, .slice none 0 0, .int .u8 0, .int .u16 0, .int .u8 0, .int .u8 0, .int .u16 0, .int .u16 0, .int .u16 0, .int .u16 0, .int .u16 0, .int .u16 0, .int .u16 0, .int .u16 0, .int .u16 0, .int .u16 0, .slice none 0 0, .slice none 0 0, .slice none 0 0, .slice none 0 0, .int .u8 0, .int .u8 0, .int .u8 0, .int .u8 0, .int .u8 0, .slice none 0 0] : Array Value).size = ns.toArray.size := by simp [hns]
      have on52 := all_oneCell_toArray hn1
      obtain ⟨f2n, k8⟩ := new_row' wr #[.int .i64 0, .int .u8 0, .int .u16 0, .int .u8 0, .int .u8 0, .int .u16 0, .int .u16 0, .int .u16 0, .int .u16 0, .int .u16 0, .int .u16 0, .int .u16 0, .int .u16 0, .int .u16 0, .int .u16 0, .slice none 0 0, .slice none 0 0, .slice none 0 0, .slice none 0 0, .int .u8 0, .int .u8 0, .int .u8 0, .int .u8 0, .int .u8 0, .slice none 0 0, .int .u8 0, .int .u16 0, .int .u8 0, .int .u8 0, .int .u16 0, .int .u16 0, .int .u16 0, .int .u16 0, .int .u16 0, .int .u16 0, .int .u16 0, .int .u16 0, .int .u16 0, .int .u16 0, .slice none 0 0, .slice none 0 0, .slice none 0 0, .slice none 0 0, .int .u8 0, .int .u8 0, .int .u8 0, .int .u8 0, .int .u8 0, .slice none 0 0] ns.toArray 52
      go_upto_region 18 with (first
        | (refine wpList_load_mid rfl 52 (.tmp 66) rfl vg 0 rfl ns _ rvg Tryz.underlying52 rfl sz52 ?_)
        | (refine wpList_store_row rfl 52 (.tmp 8) (.tmp 67) rfl wr.heap.size ns.toArray rfl rfl 52 #[.int .i64 0, .int .u8 0, .int .u16 0, .int .u8 0, .int .u8 0, .int .u16 0, .int .u16 0, .int .u16 0, .int .u16 0, .int .u16 0, .int .u16 0, .int .u16 0, .int .u16 0, .int .u16 0, .int .u16 0, .slice none 0 0, .slice none 0 0, .slice none 0 0, .slice none 0 0, .int .u8 0, .int .u8 0, .int .u8 0, .int .u8 0, .int .u8 0, .slice none 0 0, .int .u8 0, .int .u16 0, .int .u8 0, .int .u8 0, .int .u16 0, .int .u16 0, .int .u16 0, .int .u16 0, .int .u16 0, .int .u16 0, .int .u16 0, .int .u16 0, .int .u16 0, .int .u16 0, .slice none 0 0, .slice none 0 0, .slice none 0 0, .slice none 0 0, .int .u8 0, .int .u8 0, .int .u8 0, .int .u8 0, .int .u8 0, .slice none 0 0] (heap_alloc_new _ _) sz52' hl52 on52 ?_))
      have hbw := isb_lt IA.out
      generalize (wr.alloc (.cells #[.int .i64 0, .int .u8 0, .int .u16 0, .int .u8 0, .int .u8 0, .int .u16 0, .int .u16 0, .int .u16 0, .int .u16 0, .int .u16 0, .int .u16 0, .int .u16 0, .int .u16 0, .int .u16 0, .int .u16 0, .slice none 0 0, .slice none 0 0, .slice none 0 0, .slice none 0 0, .int .u8 0, .int .u8 0, .int .u8 0, .int .u8 0, .int .u8 0, .slice none 0 0, .int .u8 0, .int .u16 0, .int .u8 0, .int .u8 0, .int .u16 0, .int .u16 0, .int .u16 0, .int .u16 0, .int .u16 0, .int .u16 0, .int .u16 0, .int .u16 0, .int .u16 0, .int .u16 0, .slice none 0 0, .slice none 0 0, .slice none 0 0, .slice none 0 0, .int .u8 0, .int .u8 0, .int .u8 0, .int .u8 0, .int .u8 0, .slice none 0 0] 52)).setRow wr.heap.size ns.toArray = w8 at *
      obtain ⟨nb, hnb⟩ : ∃ nb, wr.heap.size = nb := ⟨_, rfl⟩
      rw [hnb] at f2n ⊢
      have hnb2 : ¬ nb = b := by omega
      have e8 := k8.size
      have hw8 := writeByte b b (Lib.byteCells [dn, 32, 65, 32, du, 46, dt, 32, dc]) 32 w8 (builder_keep IA.out k8) (by simp [Lib.byteCells]) (by omega)
      have B8 : Aside0 (Below b wr w8) := ⟨k8.below (by omega) (fun _ _ h => h)⟩
      clear k8 sz52 sz52' hl52 on52
      go_upto_region 20 with (first | (go_at_call 26; with_reducible refine hw8.mono ?_; rintro e w9 ⟨rfl, I9, b9, o9⟩; clear hw8))
      replace f2n := o9 nb _ _ _ f2n (by decide) hnb2
      have cn : w9.cell? ⟨nb, 0, none⟩ = some (.int .i64 4) := by rw [cell_of_row w9 nb 0 _ 52 (0, 0) f2n]; simpa using hn0
      have hlet := fun W => letter_calls (k := 4) (d := 121) (by decide) W
      have e9 := b9.size
      have hw9 := fun W (h : W = w9) => (h ▸ writeByte b b (Lib.byteCells [dn, 32, 65, 32, du, 46, dt, 32, dc] ++ [Value.int .u8 32]) 121 w9 (.inr I9) (by simp [Lib.byteCells]) (by omega) : Calls Tryz.prog 26 #[.pointer (some ⟨b, 0, none⟩), .int .u8 121] W _)
      have B9 : Aside0 (Below b wr w9) := ⟨B8.out.trans b9⟩
      clear I9 b9 o9 f2n
      go_upto_region 21 with (first
        | (go_at_call 27; with_reducible refine (hlet _).mono ?_; rintro e w10 ⟨rfl, rfl⟩)
        | (go_at_call 26; with_reducible refine (hw9 _ rfl).mono ?_; rintro e w11 ⟨rfl, I11, b11, o11⟩; clear hw9))
      have D2 : Aside0 (Lib.IsBuilder 85 5 b b (Lib.byteCells [dn, 32, 65, 32, du, 46, dt, 32, dc, 32, 121]) w11 ∧ Below b wr w11) := ⟨.inr I11, B9.out.trans b11⟩
      clear I11 b11 o11
      go_wp2
      go_roundg 0
      · exact .inr ⟨rfl, D2⟩
      · exact hkx
    · have hst := string_any b b [dn, 32, 65, 32, du, 46, dt, 32, dc, 32, 121] wr D.out.1 (by have := isb_lt D.out.1; omega)
      go_wp2_with (first | (go_at_call 28; with_reducible refine hst.mono ?_; rintro e w12 ⟨rfl, b12⟩; clear hst))
      go_ret
      exact ⟨rfl, by rw [HRB.out]; exact BA.out.trans (bel_mono (D.out.2.trans b12) (by omega))⟩
end Go.Proofs.YtmbjlondehcheaaGreatDoor.HHexa
end
section
set_option linter.unusedSimpArgs false
set_option linter.unusedVariables false
namespace Go.Proofs.YtmbjlondehcheaaGreatDoor
open Go.Shelf Go.RowKit Go.Lib Go.Sort Go.Proofs.YtmbjlondehcheaaGreatDoorW.PrintWords Go.Proofs.YtmbjlondehcheaaGreatDoorW.PrintLast Go.Proofs.YtmbjlondehcheaaGreatDoor.PTopTalk
theorem take2f {dir u t : Int} {x : S35} {p : List Int} (hd : dir = 0 ∨ dir = 1) (ht : 0 ≤ t ∧ t < 65536) (hP : Parsed dir p x) (h0 : 0 < p.length) (h1 : p.length ≤ 253) (w : World) (stb sb : Nat) (hI : StrI 107 147 (cs2 dir) w stb sb) (hn : stb ≠ sb) (A : Option Addr) (n c : Nat) (hB : By w (.slice A n c) (mbapB u t p)) (hA : ∀ ad, A = some ad → ad.block ≠ sb) (τ : Bool) :
    Calls Tryz.prog 16 #[(.pointer (some ⟨stb, 0, none⟩)), .agg #[.slice A n c, .bool τ]] w fun r w' => Piece w w' r u t x (fun b => b = sb) ∧ StrI 107 147 (cs2 dir) w' stb sb :=
  strTake2 (fun W b hs v hB hv => smbapFeed (mbapP_calls hd ht hP) ⟨h0, h1⟩ W b hs v hB hv) w stb sb hI hn _ hB (fun A' n' c' ad e h => by injection e with e1; exact hA ad (e1 ▸ h)) τ
theorem take1f {dir u : Int} {x : S35} {p : List Int} (hd : dir = 0 ∨ dir = 1) (hu0 : 0 < u) (hu : u < 256) (hP : Parsed dir p x) (hO : Oct p) (h0 : 0 < p.length) (h1 : p.length ≤ 253) (w : World) (stb sb : Nat) (hI : StrI 105 145 (cs1 dir) w stb sb) (hn : stb ≠ sb) (A : Option Addr) (n c : Nat) (hB : By w (.slice A n c) (ascB u 0 p)) (hA : ∀ ad, A = some ad → ad.block ≠ sb) (τ : Bool) :
    Calls Tryz.prog 16 #[(.pointer (some ⟨stb, 0, none⟩)), .agg #[.slice A n c, .bool τ]] w fun r w' => Piece w w' r u 0 x (fun b => b = sb) ∧ StrI 105 145 (cs1 dir) w' stb sb := by
  have hl := ascB_len u 0 p
  have ho : Oct (u :: p ++ [lrcL (u :: p)]) := fun y hy => by
    rcases List.mem_append.1 hy with hy | hy
    · rcases List.mem_cons.1 hy with rfl | hy
      · omega
      · exact hO y hy
    · rw [List.mem_singleton.1 hy]; exact lrcL_oct _
  have hoL : Oct (ascB u 0 p) := fun y hy => by
    rcases List.mem_append.1 hy with hy | hy
    · rcases List.mem_cons.1 hy with rfl | hy
      · omega
      · exact hexL_oct _ ho y hy
    · simp at hy; omega
  have hE : 2 < (ascB u 0 p).length ∧ (ascB u 0 p).drop ((ascB u 0 p).length - 2) = [13, 10] := ⟨by omega, by
    have e : (ascB u 0 p).length - 2 = (58 :: hexL (u :: p ++ [lrcL (u :: p)])).length := by rw [hl]; simp [hexL, HHexa.hexL_length]; omega
    rw [e]; unfold ascB; rw [List.drop_left]⟩
  exact strTake1 (fun W b hs v hB hv => sascFeed (ascP_calls hd ⟨by omega, hu⟩ hO hP) (fun j y h => line_at _ (hexL_no _ ho) j y h) hE hoL (by omega) W b hs v hB hv) w stb sb hI hn _ hB (fun A' n' c' ad e h => by injection e with e1; exact hA ad (e1 ▸ h)) τ
theorem nt_len (n : Nt) : n.cs.length = 49 := rfl
theorem fr_at0 {u t c : Int} {x : S35} {ds : List Value} {w : World} (hK : k35.K w x ds) (h0 : x.f0 = c) (h1 : x.f1 = 0) : (fr u t ds).length = 24 ∧ (∀ y ∈ fr u t ds, y.oneCell' = true) ∧ (fr u t ds)[0]? = some (.int .u8 u) ∧ (fr u t ds)[1]? = some (.int .u16 t) ∧ (fr u t ds)[2]? = some (.int .u8 c) ∧ (fr u t ds)[3]? = some (.int .u8 0) := by
  have hone := all_oneCell_toArray (k35.K_one hK)
  have on := fun y hy => pcl_one (u := u) (t := t) hone y (List.mem_cons_of_mem _ hy)
  obtain ⟨A12, c12, A13, c13, A14, c14, A15, c15, A21, c21, e, -⟩ := k35_open hK
  refine ⟨by subst e; rfl, on, rfl, rfl, by subst e; rw [← h0]; rfl, by subst e; rw [← h1]; rfl⟩
theorem noteLine0 {W : World} {g : Nat} {n u t c : Int} {dn du dt dc : UInt8} (hn : HHexa.Dg n dn) (hu : HHexa.Dg u du) (ht : HHexa.Dg t dt) (hc : HHexa.Dg c dc) {x : S35} {ds : List Value} {vn : Value} {F : Nat → Prop} {f f' : Fr} (hK : k35.K W x ds) (h0 : x.f0 = c) (h1 : x.f1 = 0) (hR : Res W F vn [⟨0, f, f'⟩]) :
    Calls Tryz.prog 12 #[.agg (nrow n 0 u t ds vn).toArray] W fun e w' => e = .returned (.string ⟨#[dn, 32, 81, 32, du, 46, dt, 32, dc, 32, 97]⟩) ∧ Kept W w' (fun _ => False) := by
  obtain ⟨hl, ho, a0, a1, a2, a3⟩ := fr_at0 (u := u) (t := t) hK h0 h1
  obtain ⟨vg, ca, rfl, -, hcs⟩ := hR.one
  have := HHexa.line0 hn hu ht hc W (fr u t ds) (.slice (some ⟨vg, 0, none⟩) 1 ca) hl ho a0 a1 a2 a3 vg ca rfl (Nt.cs ⟨0, f, f'⟩) (nt_len _) (Nt.one _) rfl (fun j y hy => by rw [Nat.zero_add]; exact hcs j y hy)
  exact this.mono fun e w' ⟨h, k⟩ => ⟨h, kept_of_below k _⟩
theorem noteLine1 {W : World} {g : Nat} {n u t c : Int} {dn du dt dc : UInt8} (hn : HHexa.Dg n dn) (hu : HHexa.Dg u du) (ht : HHexa.Dg t dt) (hc : HHexa.Dg c dc) {x : S35} {ds : List Value} {vn : Value} {F : Nat → Prop} {f f' : Fr} (hK : k35.K W x ds) (h0 : x.f0 = c) (h1 : x.f1 = 0) (hR : Res W F vn [⟨4, f, f'⟩]) :
    Calls Tryz.prog 12 #[.agg (nrow n 1 u t ds vn).toArray] W fun e w' => e = .returned (.string ⟨#[dn, 32, 65, 32, du, 46, dt, 32, dc, 32, 121]⟩) ∧ Kept W w' (fun _ => False) := by
  obtain ⟨hl, ho, a0, a1, a2, a3⟩ := fr_at0 (u := u) (t := t) hK h0 h1
  obtain ⟨vg, ca, rfl, -, hcs⟩ := hR.one
  have := HHexa.line1 hn hu ht hc W (fr u t ds) (.slice (some ⟨vg, 0, none⟩) 1 ca) hl ho a0 a1 a2 a3 vg ca rfl (Nt.cs ⟨4, f, f'⟩) (nt_len _) (Nt.one _) rfl (fun j y hy => by rw [Nat.zero_add]; exact hcs j y hy)
  exact this.mono fun e w' ⟨h, k⟩ => ⟨h, kept_of_below k _⟩
end Go.Proofs.YtmbjlondehcheaaGreatDoor
end
section
set_option linter.unusedSimpArgs false
set_option linter.unusedVariables false
namespace Go.Proofs.YtmbjlondehcheaaGreatDoor
open Go.Shelf Go.RowKit Go.Lib Go.Sort Go.Proofs.YtmbjlondehcheaaGreatDoorW.PrintWords Go.Proofs.YtmbjlondehcheaaGreatDoorW.PrintLast Go.Proofs.YtmbjlondehcheaaGreatDoor.PTopTalk
theorem mb_a : mbapB 1 5 [3, 0, 107, 0, 1] = [0, 5, 0, 0, 0, 6, 1, 3, 0, 107, 0, 1] := by kernel_rfl
theorem mb_b : mbapB 1 5 [3, 2, 0, 7] = [0, 5, 0, 0, 0, 5, 1, 3, 2, 0, 7] := by kernel_rfl
theorem asc_c : ascB 1 0 [7] = [58, 48, 49, 48, 55, 70, 56, 13, 10] := by kernel_rfl
theorem rtu_c : rtuB 1 0 [7] = [1, 7, 65, 226] := by kernel_rfl
theorem built45a (A : Option Addr) (n c : Nat) : Tryz.prog.built 45 [(0, .slice A n c)] = some #[.slice A n c, .bool false] := by kernel_rfl
theorem lit_pcs (w : World) (A : Option Addr) (n c : Nat) : (Instr.buildSlice 57 1 #[(0, .agg #[.slice A n c, .bool false])]).run Tryz.prog w = .ok (.slice (some ⟨w.heap.size, 0, none⟩) 1 1) (w.alloc (.cells #[.slice A n c, .bool false] 45)) := by kernel_rfl
theorem str_c : strOfNums [1, 7, 65, 226] = ⟨#[1, 7, 65, 226]⟩ := by kernel_rfl
set_option maxHeartbeats 4000000 in
set_option maxRecDepth 1000000 in
theorem awake_calls (w : World) : Calls Tryz.prog 4 #[] w fun r w' => r = .returned (.bool true) ∧ Kept w w' (fun _ => False) := by
  have hn := fun W => inspNew (.inr (.inr rfl)) (fun dir hd w => strNew2 hd w) W
  go_enter Tryz.func4, Tryz.ntmps4
  go_upto_region 4 with (first
    | (go_at_call 5; with_reducible refine (hn _).mono ?_; rintro e w1 ⟨ib, s0, b0, s1, b1, pb, F, rfl, hI, g1, g2, g3, g4, k1⟩; clear hn))
  generalize hnet : (decide True) = net at hI
  have NA := heap_alloc_new w1 (.cells #[.int .u8 0, .int .u8 5, .int .u8 0, .int .u8 0, .int .u8 0, .int .u8 6, .int .u8 1, .int .u8 3, .int .u8 0, .int .u8 107, .int .u8 0, .int .u8 1] 5)
  have qA := Kept.alloc w1 (.cells #[.int .u8 0, .int .u8 5, .int .u8 0, .int .u8 0, .int .u8 0, .int .u8 6, .int .u8 1, .int .u8 3, .int .u8 0, .int .u8 107, .int .u8 0, .int .u8 1] 5) (fun _ => False)
  have hBA : By (w1.alloc (.cells #[.int .u8 0, .int .u8 5, .int .u8 0, .int .u8 0, .int .u8 0, .int .u8 6, .int .u8 1, .int .u8 3, .int .u8 0, .int .u8 107, .int .u8 0, .int .u8 1] 5)) (.slice (some ⟨w1.heap.size, 0, none⟩) 12 12) (mbapB 1 5 [3, 0, 107, 0, 1]) := by rw [mb_a]; exact rd_block (l := [0, 5, 0, 0, 0, 6, 1, 3, 0, 107, 0, 1]) NA (by simp) (by simp)
  have hIA := hI.kept0 qA
  have hb0l := heap_lt hI.i0.str
  have hb1l := heap_lt hI.i1.str
  have hibl := heap_lt hI.box
  have hFl : ∀ b, F b → b < w1.heap.size := fun b => hI.own.lt
  have hT1 := inspTake0 hIA (by decide) (show 0 < 1000000 by omega) (n := 0) (show 0 < 1000000 by omega) (sd := s0) (bd := b0) ⟨rfl, rfl⟩ (u := 1) (t := 5) (x := xa) (by omega) (by omega) (by decide) (v := .slice (some ⟨w1.heap.size, 0, none⟩) 12 12) rfl (τ := false) (fun W k => take2f (.inl rfl) (by omega) parsed_a (by decide) (by decide) W s0 b0 (hIA.i0.kept k (fun h => h) (fun h => h)) hIA.n0.1 _ _ _ (hBA.keep k) (fun ad e => by injection e with e; rw [← e]; show ¬ w1.heap.size = b0; omega) false)
  have HI : Aside0 _ := ⟨And.intro hIA (And.intro qA (And.intro k1 (And.intro g1 (And.intro g2 (And.intro g3 g4)))))⟩
  have HL : Aside0 _ := ⟨And.intro hb0l (And.intro hb1l (And.intro hibl hFl))⟩
  clear NA hBA hIA qA k1 g1 g2 g3 g4 hI hb0l hb1l hibl hFl hnet
  go_upto_region 5 with (first
    | (refine wpList_buildTo rfl 45 _ rfl (some 10) rfl #[.slice (some ⟨w1.heap.size, 0, none⟩) 12 12, .bool false] ?_ ?_; (simp only [List.map_toArray, List.map_cons, List.map_nil]; exact built45a _ _ _))
    | (go_at_call 8; with_reducible refine hT1.mono ?_; rintro e w2 ⟨s1', rfl, hNo⟩; obtain ⟨ds1, f1, g1, cc1, m1, vn1, F1, rfl, hf1, hI2, hr1, hg1, hgF1, hRes1, hF1, hm1, hK1, hk1⟩ := hNo.out; clear hT1 hNo))
  obtain ⟨hf1, hfu, hft, hfc⟩ := hf1
  rw [step_ask net 0 f1 (by rw [hfu]; decide)] at hI2 hRes1
  have NB := heap_alloc_new w2 (.cells #[.int .u8 0, .int .u8 5, .int .u8 0, .int .u8 0, .int .u8 0, .int .u8 5, .int .u8 1, .int .u8 3, .int .u8 2, .int .u8 0, .int .u8 7] 5)
  have qB := Kept.alloc w2 (.cells #[.int .u8 0, .int .u8 5, .int .u8 0, .int .u8 0, .int .u8 0, .int .u8 5, .int .u8 1, .int .u8 3, .int .u8 2, .int .u8 0, .int .u8 7] 5) (fun _ => False)
  have hBB : By (w2.alloc (.cells #[.int .u8 0, .int .u8 5, .int .u8 0, .int .u8 0, .int .u8 0, .int .u8 5, .int .u8 1, .int .u8 3, .int .u8 2, .int .u8 0, .int .u8 7] 5)) (.slice (some ⟨w2.heap.size, 0, none⟩) 11 11) (mbapB 1 5 [3, 2, 0, 7]) := by rw [mb_b]; exact rd_block (l := [0, 5, 0, 0, 0, 5, 1, 3, 2, 0, 7]) NB (by simp) (by simp)
  have hIB : InspI 107 147 cs2 net (w2.alloc (.cells #[.int .u8 0, .int .u8 5, .int .u8 0, .int .u8 0, .int .u8 0, .int .u8 5, .int .u8 1, .int .u8 3, .int .u8 2, .int .u8 0, .int .u8 7] 5)) ib s0 b0 s1 b1 pb F1 [⟨((0 : Nat) : Int), f1⟩] 1 ((1 : Nat) : Int) := hI2.kept0 qB
  have hb1l := heap_lt hI2.i1.str
  have hT1 := inspTake1 hIB (by decide) (show 1 < 1000000 by omega) (n := 1) (show 1 < 1000000 by omega) (sd := s1) (bd := b1) ⟨rfl, rfl⟩ (u := 1) (t := 5) (x := xb) (by omega) (by omega) (by decide) (v := .slice (some ⟨w2.heap.size, 0, none⟩) 11 11) rfl (τ := false) (fun W k => take2f (.inr rfl) (by omega) parsed_b (by decide) (by decide) W s1 b1 (hIB.i1.kept k (fun h => h) (fun h => h)) hIB.n0.2.2.2.1 _ _ _ (hBB.keep k) (fun ad e => by injection e with e; rw [← e]; show ¬ w2.heap.size = b1; omega) false)
  have HI2 : Aside0 _ := ⟨And.intro hI2 (And.intro hr1 (And.intro hg1 (And.intro hgF1 (And.intro hRes1 (And.intro hF1 (And.intro hm1 (And.intro hK1 hk1)))))))⟩
  have HF1 : Aside0 _ := ⟨And.intro hf1 (And.intro hfu (And.intro hft hfc))⟩
  have HB : Aside0 _ := ⟨And.intro qB hIB⟩
  clear NB hBB hIB qB hb1l hI2 hr1 hg1 hgF1 hRes1 hF1 hm1 hK1 hk1 hf1 hfu hft hfc
  go_upto_region 6 with (first
    | (refine wpList_buildTo rfl 45 _ rfl (some 14) rfl #[.slice (some ⟨w2.heap.size, 0, none⟩) 11 11, .bool false] ?_ ?_; (simp only [List.map_toArray, List.map_cons, List.map_nil]; exact built45a _ _ _))
    | (go_at_call 8; with_reducible refine hT1.mono ?_; rintro e w3 ⟨s2', rfl, hNo⟩; obtain ⟨ds2, f2, g2, cc2, m2, vn2, F2, rfl, hf2, hI3, hr2, hg2, hgF2, hRes2, hF2, hm2, hK2, hk2⟩ := hNo.out; clear hT1 hNo))
  obtain ⟨hf2, hfu2, hft2, hfc2⟩ := hf2
  obtain ⟨hI2, hr1, hg1, hgF1, hRes1, hF1, hm1, hK1, hk1⟩ := id HI2.out
  obtain ⟨hf1, hfu, hft, hfc⟩ := id HF1.out
  rw [step_ans net ((0 : Nat) : Int) f1 f2 1 (by rw [hfu2, hfu]) (by rw [hft2, hft]) (by rw [hfc2, hfc])] at hI3 hRes2
  obtain ⟨hIA, qA, k1, ng1, ng2, ng3, ng4⟩ := id HI.out
  obtain ⟨hb0l, hb1l, hibl, hFl⟩ := id HL.out
  obtain ⟨qB, hIB⟩ := id HB.out
  have eA := qA.size
  have eB := qB.size
  have e1 := hk1.size
  have hR1B : Res (w2.alloc (.cells #[.int .u8 0, .int .u8 5, .int .u8 0, .int .u8 0, .int .u8 0, .int .u8 5, .int .u8 1, .int .u8 3, .int .u8 2, .int .u8 0, .int .u8 7] 5)) F1 vn1 [⟨0, f1, fr0⟩] := hRes1.kept qB (fun _ _ h => h) (fun b hb => .inl hb)
  have hR1 : Res w3 F1 vn1 [⟨0, f1, fr0⟩] := hR1B.kept hk2 (fun g hg h => by
    obtain ⟨c, hc⟩ := hR1B.ty hg
    rcases h with rfl | rfl | h
    · rw [hIB.i1.str] at hc; injection hc with hc; injection hc with _ h2 _; exact absurd h2 (by decide)
    · rw [hIB.box] at hc; injection hc with hc; injection hc with _ h2 _; exact absurd h2 (by decide)
    · exact hR1B.apart g hg h) (fun b hb => .inl hb)
  have r1 : w3.rangeAt g1 0 (nrow ((0 : Nat) : Int) 0 1 5 ds1 vn1) := fun j y hy => hk2.cellN (fun h => by
    have h : g1 = b1 ∨ g1 = ib ∨ F1 g1 := h
    rcases h with h | h | h
    · omega
    · omega
    · exact hgF1 h) (qB.cell (hr1 j y hy))
  have k12 := qB.trans hk2 (H := fun b => b = b1 ∨ b = ib ∨ F1 b) (fun _ _ h => h.elim) (fun _ _ h => h)
  have hKa : ∀ W, Kept w3 W (fun _ => False) → k35.K W xa ds1 := fun W k => hK1 W (k12.trans k (fun b _ h => by
    rcases h with h | h | h
    · left; omega
    · left; omega
    · rcases hF1 b h with h | h
      · have := hFl _ h; left; omega
      · exact .inr h) (fun _ _ h => h.elim))
  have hKb : ∀ W, Kept w3 W (fun _ => False) → k35.K W xb ds2 := fun W k => hK2 W (k.mono (fun _ _ h => h.elim))
  have K3 : Aside0 (Kept w w3 (fun _ => False)) := ⟨(((k1.trans qA (H := fun _ => False) (fun _ _ h => h) (fun _ _ h => h)).trans hk1 (H := fun _ => False) (fun _ _ h => h) (fun b hb h => by rcases h with h | h | h <;> first | omega | (have := ng4 _ h; omega))).trans k12 (fun _ _ h => h) (fun b hb h => by
    have := k1.size
    rcases h with h | h | h
    · omega
    · omega
    · rcases hF1 b h with h | h
      · have := ng4 _ h; omega
      · omega))⟩
  have hd1 := cons35 (hKa w3 (Kept.refl _ _))
  have hd2 := cons35 (hKb w3 (Kept.refl _ _))
  have sz1 := size50 (n := ((0 : Nat) : Int)) (dir := 0) (u := 1) (t := 5) (v := vn1) hd1
  have sz2 := size50 (n := ((1 : Nat) : Int)) (dir := 1) (u := 1) (t := 5) (v := vn2) hd2
  rw [List.size_toArray] at sz1 sz2
  have hline0 : ∀ W, Kept w3 W (fun _ => False) → Calls Tryz.prog 12 #[.agg (nrow ((0 : Nat) : Int) 0 1 5 ds1 vn1).toArray] W fun e w' => e = .returned (.string ⟨#[48, 32, 81, 32, 49, 46, 53, 32, 51, 32, 97]⟩) ∧ Kept W w' (fun _ => False) := fun W k =>
    noteLine0 (.inl ⟨rfl, rfl⟩) (.inr (.inl ⟨rfl, rfl⟩)) (.inr (.inr (.inr ⟨rfl, rfl⟩))) (.inr (.inr (.inl ⟨rfl, rfl⟩))) (g := 0) (hKa W k) rfl rfl (hR1.kept k (fun _ _ h => h) (fun b hb => .inl hb))
  have hline1 : ∀ W, Kept w3 W (fun _ => False) → Calls Tryz.prog 12 #[.agg (nrow ((1 : Nat) : Int) 1 1 5 ds2 vn2).toArray] W fun e w' => e = .returned (.string ⟨#[49, 32, 65, 32, 49, 46, 53, 32, 51, 32, 121]⟩) ∧ Kept W w' (fun _ => False) := fun W k =>
    noteLine1 (.inr (.inl ⟨rfl, rfl⟩)) (.inr (.inl ⟨rfl, rfl⟩)) (.inr (.inr (.inr ⟨rfl, rfl⟩))) (.inr (.inr (.inl ⟨rfl, rfl⟩))) (g := 0) (hKb W k) rfl rfl (hRes2.kept k (fun _ _ h => h) (fun b hb => .inl hb))
  have r2 := hr2
  obtain ⟨N1, hN1⟩ : ∃ N, nrow ((0 : Nat) : Int) 0 1 5 ds1 vn1 = N := ⟨_, rfl⟩
  obtain ⟨N2, hN2⟩ : ∃ N, nrow ((1 : Nat) : Int) 1 1 5 ds2 vn2 = N := ⟨_, rfl⟩
  rw [hN1] at sz1 r1
  rw [hN2] at sz2 r2
  simp only [hN1] at hline0
  simp only [hN2] at hline1
  clear hN1 hN2 hd1 hd2 hKa hKb k12 hR1 hR1B eA eB e1 hIA qA k1 ng1 ng2 ng3 ng4 hb0l hb1l hibl hFl qB hIB hI2 hr1 hg1 hgF1 hRes1 hF1 hm1 hK1 hk1 hf1 hfu hft hfc hf2 hfu2 hft2 hfc2 hI3 hr2 hg2 hgF2 hRes2 hF2 hm2 hK2 hk2
  go_upto_region 8 with fail
  have hcv : (convert 23 23 (.slice (some ⟨w3.heap.size, 0, none⟩) 9 9)).run Tryz.prog (w3.alloc (.cells #[.int .u8 58, .int .u8 48, .int .u8 49, .int .u8 48, .int .u8 55, .int .u8 70, .int .u8 56, .int .u8 13, .int .u8 10] 5)) = .ok (.slice (some ⟨w3.heap.size, 0, none⟩) 9 9) (w3.alloc (.cells #[.int .u8 58, .int .u8 48, .int .u8 49, .int .u8 48, .int .u8 55, .int .u8 70, .int .u8 56, .int .u8 13, .int .u8 10] 5 (9, 10))) := Lib.run_convert_bytes_const w3 23 5 #[.int .u8 58, .int .u8 48, .int .u8 49, .int .u8 48, .int .u8 55, .int .u8 70, .int .u8 56, .int .u8 13, .int .u8 10] 9 9 Tryz.underlying23 Tryz.underlying5
  have N4 := heap_alloc_new w3 (.cells #[.int .u8 58, .int .u8 48, .int .u8 49, .int .u8 48, .int .u8 55, .int .u8 70, .int .u8 56, .int .u8 13, .int .u8 10] 5 (9, 10))
  have q4 := Kept.alloc w3 (.cells #[.int .u8 58, .int .u8 48, .int .u8 49, .int .u8 48, .int .u8 55, .int .u8 70, .int .u8 56, .int .u8 13, .int .u8 10] 5 (9, 10)) (fun _ => False)
  have hB4 : By (w3.alloc (.cells #[.int .u8 58, .int .u8 48, .int .u8 49, .int .u8 48, .int .u8 55, .int .u8 70, .int .u8 56, .int .u8 13, .int .u8 10] 5 (9, 10))) (.slice (some ⟨w3.heap.size, 0, none⟩) 9 9) (ascB 1 0 [7]) := by rw [asc_c]; exact rd_block (l := [58, 48, 49, 48, 55, 70, 56, 13, 10]) N4 (by simp) (by simp)
  have h34 : w3.heap.size < (w3.alloc (.cells #[.int .u8 58, .int .u8 48, .int .u8 49, .int .u8 48, .int .u8 55, .int .u8 70, .int .u8 56, .int .u8 13, .int .u8 10] 5 (9, 10))).heap.size := by simp
  generalize w3.alloc (.cells #[.int .u8 58, .int .u8 48, .int .u8 49, .int .u8 48, .int .u8 55, .int .u8 70, .int .u8 56, .int .u8 13, .int .u8 10] 5 (9, 10)) = w4 at *
  have hlit := lit_pcs w4 (some ⟨w3.heap.size, 0, none⟩) 9 9
  have N5 := heap_alloc_new w4 (.cells #[.slice (some ⟨w3.heap.size, 0, none⟩) 9 9, .bool false] 45)
  have q5 := Kept.alloc w4 (.cells #[.slice (some ⟨w3.heap.size, 0, none⟩) 9 9, .bool false] 45) (fun _ => False)
  have hG := gateRun (w4.alloc (.cells #[.slice (some ⟨w3.heap.size, 0, none⟩) 9 9, .bool false] 45)) w4.heap.size 1 (u := 1) (t := 0) (x := xc) (v := .slice (some ⟨w3.heap.size, 0, none⟩) 9 9) rfl (τ := false)
    (fun j y hy => by rw [cell_of_row _ w4.heap.size (0 + j) _ 45 (0, 0) N5]; simpa using hy)
    (fun W stb sb k hI hne hsb => take1f (.inl rfl) (by decide) (by decide) parsed_c (fun y hy => by rw [List.mem_singleton.1 hy]; decide) (by decide) (by decide) W stb sb hI hne _ _ _ ((hB4.keep q5).keep k) (fun ad e => by injection e with e; rw [← e]; have := q5.size; show ¬ w3.heap.size = sb; omega) false)
    (L := rtuB 1 0 [7]) (n := 4) (by rw [rtu_c]; rfl) (by decide) (by decide)
    (fun W ds hK => (fram0.write 0 1 0 xc False (fun p => p = [7]) ⟨by decide, by decide, rfl⟩ reqC_G W ds hK).mono fun r w' ⟨k, A, n, c, e0, e, h⟩ => ⟨k, by
      rcases h with ⟨hf, -⟩ | ⟨rfl, p, hl, ⟨hB, -⟩, -, -, rfl⟩
      · exact hf.elim
      · have hn4 : n = 4 := by rw [← hl, rtu_c]; rfl
        subst hn4
        exact ⟨A, c, e, hB⟩⟩)
  have q45 := q4.trans q5 (H := fun _ => False) (fun _ _ h => h) (fun _ _ h => h)
  clear N4 N5 hB4 h34 q4 q5
  go_upto_region 9 with (first
    | (refine wpList_buildTo rfl 45 _ rfl (some 26) rfl #[.slice (some ⟨w3.heap.size, 0, none⟩) 9 9, .bool false] ?_ ?_; (simp only [List.map_toArray, List.map_cons, List.map_nil]; exact built45a _ _ _))
    | (refine wpList_lit1 rfl 57 (.tmp 26) rfl (some 27) rfl (.agg #[.slice (some ⟨w3.heap.size, 0, none⟩) 9 9, .bool false]) rfl (.slice (some ⟨w4.heap.size, 0, none⟩) 1 1) (w4.alloc (.cells #[.slice (some ⟨w3.heap.size, 0, none⟩) 9 9, .bool false] 45)) hlit ?_)
    | (go_at_call 11; with_reducible refine hG.mono ?_; rintro e w6 ⟨A6, c6, rfl, hB6, k6⟩; clear hG))
  have k36 := q45.trans k6 (H := fun _ => False) (fun _ _ h => h) (fun _ _ h => h)
  rw [rtu_c] at hB6
  have r1 := k36.range r1
  have r2 := k36.range r2
  have hl0 := hline0 w6 k36
  have K6 : Aside0 _ := ⟨k36⟩
  have HL1 : Aside0 _ := ⟨hline1⟩
  clear q45 k6 k36 hline0 hline1 hcv hlit
  go_wp2_with (first
    | (refine wpList_load_mid rfl 50 (.tmp 30) rfl g1 0 rfl N1 _ r1 Tryz.underlying50 rfl sz1 ?_)
    | (go_at_call 12; with_reducible refine hl0.mono ?_; rintro e w7 ⟨rfl, k7⟩; have r2 := k7.range r2; have hB7 := hB6.keep k7; have hl1 := HL1.out _ (K6.out.trans k7 (H := fun _ => False) (fun _ _ h => h) (fun _ _ h => h)); clear hl0)
    | (refine gate_guard (by rfl) ?_; dsimp only; refine wpList_load_mid rfl 50 (.tmp 36) rfl g2 0 rfl N2 _ r2 Tryz.underlying50 rfl sz2 ?_)
    | (go_at_call 12; with_reducible refine hl1.mono ?_; rintro e w8 ⟨rfl, k8⟩; have hst := str_by _ _ _ (hB7.keep k8); rw [str_c] at hst; clear hl1))
  go_ret
  exact ⟨rfl, ((K3.out.trans K6.out (H := fun _ => False) (fun _ _ h => h) (fun _ _ h => h)).trans k7 (H := fun _ => False) (fun _ _ h => h) (fun _ _ h => h)).trans k8 (fun _ _ h => h) (fun _ _ h => h)⟩
end Go.Proofs.YtmbjlondehcheaaGreatDoor
end
