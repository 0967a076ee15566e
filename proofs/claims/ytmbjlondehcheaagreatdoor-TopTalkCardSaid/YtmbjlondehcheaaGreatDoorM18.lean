/- TopTalk: part 18 of the walks: of HMbap, HAdu. -/
import Derived.Test.YtmbjlondehcheaaGreatDoorM17
section
set_option linter.unusedSimpArgs false
set_option linter.unusedVariables false
namespace Go.Proofs.YtmbjlondehcheaaGreatDoor
open Go.Shelf Go.RowKit Go.Lib Go.Sort Go.Proofs.YtmbjlondehcheaaGreatDoorW.PrintWords Go.Proofs.YtmbjlondehcheaaGreatDoorW.PrintLast Go.Proofs.YtmbjlondehcheaaGreatDoor.PTopTalk
def mbapB (u t : Int) (p : List Int) : List Int := wPut [t, 0, (p.length : Int) + 1] ++ [u] ++ p
theorem mbapB_len (u t : Int) (p : List Int) : (mbapB u t p).length = p.length + 7 := by simp [mbapB, wPut_len]; omega
theorem word_cons (a b : Int) (r : List Int) : (⟨a :: b :: r, false, 0⟩ : St).word = (w2 a b, ⟨r, false, 0⟩) := by
  have h1 : ¬ ((1 : Int) < 0 ∨ (((a :: b :: r).length : Nat) : Int) < 1) := by simp; omega
  have h2 : ¬ ((false : Bool) = true ∨ (2 : Int) * 1 < 0 ∨ (((a :: b :: r).length : Nat) : Int) < 2 * 1) := by simp; omega
  unfold St.word St.words
  rw [if_neg h1]
  unfold St.bytes
  rw [if_neg h2]
  simp [wTake]
theorem byte_cons (a : Int) (r : List Int) : (⟨a :: r, false, 0⟩ : St).byte = (a, ⟨r, false, 0⟩) := by
  have h2 : ¬ ((false : Bool) = true ∨ (1 : Int) < 0 ∨ (((a :: r).length : Nat) : Int) < 1) := by simp; omega
  unfold St.byte St.bytes
  rw [if_neg h2]
  simp
theorem bytes_rest (l : List Int) : (⟨l, false, 0⟩ : St).bytes (l.length : Nat) = (l, ⟨[], false, 0⟩) := by
  unfold St.bytes
  rw [if_neg (by simp)]
  simp
theorem mbapB_cons (u t : Int) (p : List Int) : mbapB u t p = t / 256 % 256 :: t % 256 :: 0 :: 0 :: ((p.length : Int) + 1) / 256 % 256 :: ((p.length : Int) + 1) % 256 :: u :: p := by simp [mbapB, wPut]
set_option maxHeartbeats 2000000 in
set_option maxRecDepth 1000000 in
theorem mbapW_calls {dir u t : Int} {x : S35} {may : Prop} {E : List Int → Prop} (h : PdG dir x may E) : FrW 243 mbapB dir u t x may E := by
  intro w cs hK
  have hs := cons35 hK
  have q1 := Kept.alloc w (.cells (fr u t cs).toArray 37) (fun _ => False)
  have f1 := heap_alloc_new w (.cells (fr u t cs).toArray 37)
  have hp := h _ cs (k35.K_below q1.toBelow hK)
  have szm : (Tryz.prog.info? 35).map (·.size) = some cs.length := by rw [k35.K_len hK]; kernel_rfl
  clear h hK
  go_enter Tryz.func243, Tryz.ntmps243
  go_upto_region 1 with fail
  generalize w.alloc (.cells (fr u t cs).toArray 37) = w1 at *
  generalize w.heap.size = fb at *
  have rm : w1.rangeAt fb 2 cs := fun j v hj => by rw [cell_of_row w1 fb (2 + j) _ 37 (0, 0) f1, Nat.add_comm]; simpa using hj
  go_upto_region 2 with (first
    | (refine wpList_load_mid rfl 35 (.tmp 11) rfl fb 2 rfl cs _ rm Tryz.underlying35 rfl szm ?_)
    | (go_at_call 232; with_reducible refine hp.mono ?_; rintro e w2 ⟨k2, A, k, c, e0, rfl, hR⟩))
  clear hp rm
  replace f1 := k2.heap f1 (fun h => h)
  have Q2 := q1.trans k2 (H := fun _ => False) (fun _ _ h => h) (fun _ _ h => h)
  have c0 : w2.cell? ⟨fb, 0, none⟩ = some (.int .u8 u) := by rw [cell_of_row w2 fb 0 _ 37 (0, 0) f1]; rfl
  have c1 : w2.cell? ⟨fb, 1, none⟩ = some (.int .u16 t) := by rw [cell_of_row w2 fb 1 _ 37 (0, 0) f1]; rfl
  rcases hR with ⟨hm, rfl, rfl, rfl, rfl⟩ | ⟨rfl, p, hk, hB, hP, hO, hE⟩
  · have HM : Aside0 _ := ⟨And.intro hm Q2⟩
    clear hm Q2 k2 q1 f1
    go_wp2
    go_ret2
    exact ⟨HM.out.2, _, _, _, _, rfl, .inl ⟨HM.out.1, rfl, rfl, rfl, rfl⟩⟩
  · have HX : Aside0 _ := ⟨And.intro hP (And.intro hO hE)⟩
    have hpl := hP.few
    have q3 := Kept.alloc w2 (.cells #[.int .u16 t, .int .u16 0, .int .u16 ((k : Int) + 1)] 27) (fun _ => False)
    have P := wput_calls (w2.alloc (.cells #[.int .u16 t, .int .u16 0, .int .u16 ((k : Int) + 1)] 27)) (.slice (some ⟨w2.heap.size, 0, none⟩) 3 3) [t, 0, (k : Int) + 1] ((Ow.lit (k := .u16) (te := 27) (Kept.refl w2 _) [t, 0, (k : Int) + 1] (by simp) (by simp)).rd (by simp)) (by simp)
    have Q3 := Q2.trans q3 (H := fun _ => False) (fun _ _ h => h) (fun _ _ h => h)
    have hB3 := hB.keep q3
    have c03 := q3.cell c0
    have HY : Aside0 _ := ⟨And.intro hk (And.intro Q3 hB3)⟩
    have hkz : (k : Int) ≤ 253 := by omega
    clear hP hO hE hB Q2 k2 q1 f1 q3 hk hB3 Q3
    go_upto_region 5 with (go_at_call 163; with_reducible refine P.mono ?_; rintro e w3 ⟨v, rfl, hO3⟩; clear P)
    replace c03 := hO3.kept.cell c03
    have q4 := Kept.alloc w3 (.cells #[.int .u8 u] 5) (fun _ => False)
    obtain ⟨v4, w4, ha4, hO4, -⟩ := OB.app (hO3.keep q4) 23 (one_rd .u8 w3 u 5) (by simp [wPut_len])
    obtain ⟨v5, w5, ha5, hO5, -⟩ := OB.app hO4 23 (HY.out.2.2.keep hO4.kept) (by have := HY.out.1; simp [wPut_len]; omega)
    have FIN : Aside0 _ := ⟨hO5⟩
    clear hO3 hO4 hO5 q4
    go_upto_region 6 with (first
      | (refine wpList_app rfl (.tmp 27) (.tmp 31) 23 23 rfl (some 32) rfl v (.slice (some ⟨w3.heap.size, 0, none⟩) 1 1) rfl rfl v4 w4 ha4 ?_)
      | (refine wpList_app rfl (.tmp 32) (.tmp 33) 23 23 rfl (some 34) rfl v4 (.slice A k c) rfl rfl v5 w5 ha5 ?_))
    all_goals
      have hR8 := FIN.out.rd (by have := HY.out.1; simp [wPut_len]; omega)
      obtain ⟨A8, c8, rfl, -⟩ := hR8.len
      have hN : ∀ ad : Addr, A8 = some ad → w.heap.size ≤ ad.block := fun ad e => Nat.le_trans HY.out.2.1.size (FIN.out.fresh ad e)
      have FIN2 : Aside0 _ := ⟨And.intro (And.intro hR8 hN) (HY.out.2.1.trans FIN.out.kept (H := fun _ => False) (fun _ _ h => h) (fun _ _ h => h))⟩
      clear hR8 hN FIN
      go_wp2
      go_ret2
      refine ⟨FIN2.out.2, _, _, _, _, rfl, .inr ⟨rfl, p, ?_, ?_, HX.out.1, HX.out.2.1, HX.out.2.2⟩⟩
      · rw [mbapB, HY.out.1]
      · refine ⟨?_, FIN2.out.1.2⟩
        rw [mbapB, HY.out.1]; exact FIN2.out.1.1
theorem word_cur (w : World) (cb : Nat) (a b : Int) (r : List Int) (n : Int) {G : Nat → Prop} (h : Cur w G cb ⟨a :: b :: r, false, 0⟩) (hl : r.length ≤ 1000) (hn : w2 a b = n) : Calls Tryz.prog 160 #[.pointer (some ⟨cb, 0, none⟩)] w fun e w' => e = .returned (.int .u16 n) ∧ Cur w' G cb ⟨r, false, 0⟩ ∧ Kept w w' (fun b => b = cb) := by
  have := word_calls w cb _ h (by simp; omega)
  rw [word_cons, hn] at this
  exact this
theorem byte_cur (w : World) (cb : Nat) (a : Int) (r : List Int) {G : Nat → Prop} (h : Cur w G cb ⟨a :: r, false, 0⟩) (hl : r.length ≤ 1000) : Calls Tryz.prog 149 #[.pointer (some ⟨cb, 0, none⟩)] w fun e w' => e = .returned (.int .u8 a) ∧ Cur w' G cb ⟨r, false, 0⟩ ∧ Kept w w' (fun b => b = cb) := by
  have := byte_calls w cb _ h (by simp; omega)
  rw [byte_cons] at this
  exact this
theorem rest_cur (w : World) (cb : Nat) (p : List Int) (k : Nat) (hk : p.length = k) {G : Nat → Prop} (h : Cur w G cb ⟨p, false, 0⟩) (hl : k ≤ 1000) : Calls Tryz.prog 151 #[.pointer (some ⟨cb, 0, none⟩), .int .i64 (k : Int)] w fun e w' => ∃ A c, e = .returned (.slice A k c) ∧ By w' (.slice A k c) p ∧ Kept w w' (fun b => b = cb) := by
  subst hk
  have := bytes_calls w cb _ (p.length : Nat) h (by simp; omega)
  rw [bytes_rest] at this
  exact this.mono fun e w' ⟨A, c, e1, e2, _, e4⟩ => ⟨A, c, e1, e2.now, e4⟩
set_option maxHeartbeats 2000000 in
set_option maxRecDepth 1000000 in
theorem mbapP_calls {dir u t : Int} (hdir : dir = 0 ∨ dir = 1) (ht : 0 ≤ t ∧ t < 65536) {p : List Int} {x : S35} (h : Parsed dir p x) : FrP 227 mbapB dir u t p x := by
  intro w v hB
  have hlen := mbapB_len u t p
  have hp0 := h.some_
  have hp1 := h.few
  obtain ⟨A, c, rfl, hc⟩ := hB.len
  rw [hlen] at hB ⊢
  rw [mbapB_cons] at hB
  have h1 : w2 (t / 256 % 256) (t % 256) = t := by rw [w2_byte _ _ (by omega) (by omega)]; omega
  have h2 : w2 0 0 = 0 := by rw [w2_byte _ _ (by omega) (by omega)]; rfl
  have h3 : w2 (((p.length : Int) + 1) / 256 % 256) (((p.length : Int) + 1) % 256) = (p.length : Int) + 1 := by rw [w2_byte _ _ (by omega) (by omega)]; omega
  have hll : (t / 256 % 256 :: t % 256 :: 0 :: 0 :: ((p.length : Int) + 1) / 256 % 256 :: ((p.length : Int) + 1) % 256 :: u :: p).length ≤ 100000 := by simp; omega
  have hcalls := h.calls
  have hz := zero35
  have hz7 : ∀ w, (zeroValue 37).run Tryz.prog w = .ok (.agg (fr 0 0 (cs35 0)).toArray) w := fun w => by kernel_rfl
  have g0 := heap_alloc_new w (.cells (fr 0 0 (cs35 0)).toArray 37)
  have q0 := Kept.alloc w (.cells (fr 0 0 (cs35 0)).toArray 37) (fun _ => False)
  have HK : Aside0 _ := ⟨hcalls⟩
  have hcl : p.length + 7 ≤ c := by rw [hlen] at hc; exact hc
  clear hlen h hcalls hc
  generalize hk : p.length = k at *
  have hkz : (k : Int) ≤ 253 := by omega
  have hk1 : (1 : Int) ≤ (k : Int) := by omega
  have HL : Aside0 _ := ⟨hk⟩
  have hB1 := hB.keep q0
  have hp2 : p.length ≤ 253 := by omega
  clear hB hk
  rcases hdir with rfl | rfl
  all_goals
    go_enter Tryz.func227, Tryz.ntmps227
    go_upto_region 7 with fail
    generalize w.alloc (.cells (fr 0 0 (cs35 0)).toArray 37) = w1 at *
    generalize hrb : w.heap.size = rb at *
    have HRB : Aside0 _ := ⟨hrb⟩
    clear hrb
    have hnc := new_cur w1 _ _ hB1 hll
    go_upto_region 9 with (go_at_call 133; with_reducible refine hnc.mono ?_; rintro e w3 ⟨cb, rfl, hcb, hC, k3⟩; clear hnc)
    have C3 := hC (fun b => b = cb) (fun b => ⟨fun h => .inl h, fun h => h.elim id And.right⟩) rfl
    have hw1 := word_cur w3 cb _ _ _ _ C3 (by simp; omega) h1
    clear hC C3 hB1 hll
    go_upto_region 10 with (first
      | (with_reducible refine hw1.mono ?_; rintro e w4 ⟨rfl, C4, k4⟩; clear hw1; have hw2 := word_cur w4 cb _ _ _ _ C4 (by simp; omega) h2; clear C4)
      | (with_reducible refine hw2.mono ?_; rintro e w5 ⟨rfl, C5, k5⟩; clear hw2; have hw3 := word_cur w5 cb _ _ _ _ C5 (by simp; omega) h3; clear C5)
      | (with_reducible refine hw3.mono ?_; rintro e w6 ⟨rfl, C6, k6⟩; clear hw3))
    have K1 : Kept w1 w6 (fun b => b = cb) := ((k3.trans k4 (H := fun b => b = cb) (fun _ _ h => h.elim) (fun _ _ h => h)).trans k5 (fun _ _ h => h) (fun _ _ h => h)).trans k6 (fun _ _ h => h) (fun _ _ h => h)
    have hby := byte_cur w6 cb u p C6 (by omega)
    clear k3 k4 k5 k6 C6
    go_upto_region 15 with (go_at_call 149; with_reducible refine hby.mono ?_; rintro e w7 ⟨rfl, C7, k7⟩; clear hby)
    have hleft : Calls Tryz.prog 155 #[.pointer (some ⟨cb, 0, none⟩)] w7 fun r w' => r = .returned (.int .i64 (k : Int)) ∧ w' = w7 := by
      have := left_calls w7 cb _ C7
      simp only [HL.out] at this
      exact this
    have hrest := rest_cur w7 cb p k HL.out C7 (by omega)
    have K2 := K1.trans k7 (H := fun b => b = cb) (fun _ _ h => h) (fun _ _ h => h)
    have hrl := heap_lt g0
    have hrc : ¬ rb = cb := by omega
    have hwc : w.heap.size ≤ cb := by have := HRB.out; omega
    have HC : Aside0 _ := ⟨hwc⟩
    clear C7 K1 k7
    go_upto_region 16 with (first
      | (go_at_call 155; with_reducible refine hleft.mono ?_; rintro e w7 ⟨rfl, rfl⟩; clear hleft)
      | (go_at_call 151; with_reducible refine hrest.mono ?_; rintro e w8 ⟨A8, c8, rfl, hB8, k8⟩; clear hrest; have hp := HK.out w8 _ hB8; clear hB8)
      | (go_at_call 112; with_reducible refine hp.mono ?_; rintro e w9 ⟨ds, rfl, hD, k9⟩; have hds := cons35 (hD w9 (Kept.refl _ _)); have N3 := new_row w9 (cs35 0).toArray ds.toArray 35; have hone := all_oneCell_toArray (k35.K_one (hD w9 (Kept.refl _ _))))
      | (refine wpList_store_rowTo rfl 35 (.tmp 12) (.tmp 64) rfl rfl w9.heap.size ds.toArray rfl rfl 35 (cs35 0).toArray (heap_alloc_new _ _) (sizeM _ hds) (by rw [hds]; rfl) hone ?_))
    obtain ⟨f3, k4⟩ := N3
    have k34 := k9.trans k4 (H := fun _ => False) (fun _ _ h => h) (fun _ _ h => h)
    have K4 : Kept w1 _ (fun b => b = cb) := ((K2.trans k8 (H := fun b => b = cb) (fun _ _ h => h) (fun _ _ h => h))).trans k34 (fun _ _ h => h) (fun _ _ h => h.elim)
    replace g0 := K4.heap g0 hrc
    have Q4 := q0.trans K4 (H := fun _ => False) (fun _ _ h => h) (fun b hb e => by have := HC.out; have e2 : b = cb := e; omega)
    have hw8 : w.heap.size ≤ w8.heap.size := Nat.le_trans q0.size (Nat.le_trans K2.size k8.size)
    have hrw8 : rb < w8.heap.size := Nat.lt_of_lt_of_le hrl (Nat.le_trans K2.size k8.size)
    have hD4 : Aside0 (∀ W, Kept ((w9.alloc (.cells (cs35 0).toArray 35)).setRow w9.heap.size ds.toArray) W (fun b => b < w8.heap.size) → k35.K W x ds) := ⟨fun W q => hD W (k4.trans q (fun _ _ h => h.elim) (fun _ _ h => h))⟩
    generalize (w9.alloc (.cells (cs35 0).toArray 35)).setRow w9.heap.size ds.toArray = wA at *
    generalize w9.heap.size = yb at *
    have szd : (Tryz.prog.info? 35).map (·.size) = some ds.length := by simpa using sizeM ds.toArray hds
    have rd : wA.rangeAt yb 0 ds := fun j u hu => by rw [cell_of_row wA yb (0 + j) _ 35 (0, 0) f3]; simpa using hu
    clear hp k8 k9 k4 k34 K2 K4 hD HK f3
    have FIN : Aside0 ((∀ W, Kept (wA.setRow rb (fr u t ds).toArray) W (fun b => b < w.heap.size) → k35.K W x ds) ∧ Kept w (wA.setRow rb (fr u t ds).toArray) (fun _ => False)) := ⟨fun W q => hD4.out W ((Kept.setRow wA rb _ (F := fun b => b = rb) rfl).trans q (fun b _ e => by have e2 : b = rb := e; show b < _; omega) (fun b _ h => by have h2 : b < w.heap.size := h; show b < _; omega)), Q4.trans (Kept.setRow wA rb _ (F := fun b => b = rb) rfl) (fun _ _ h => h) (fun b hb e => by have := HRB.out; have e2 : b = rb := e; omega)⟩
    have szf := sizeF hds u t
    have onef := oneFr hone u t
    have szf2 : (fr 0 0 (cs35 0)).toArray.size = (fr u t ds).toArray.size := by simp at hds; simp [hds, cs35]
    clear Q4 hD4
    go_upto_region 18 with fail
    go_wp2_with (first
      | (refine wpList_buildTo rfl 29 _ rfl (some 72) rfl #[.int .u8 u, .int .u16 t] ?_ ?_; (simp only [List.map_toArray, List.map_cons, List.map_nil]; kernel_rfl))
      | (refine wpList_load_mid rfl 35 (.tmp 12) rfl yb 0 rfl ds _ rd Tryz.underlying35 rfl szd ?_)
      | (refine wpList_buildTo rfl 37 _ rfl (some 74) rfl (fr u t ds).toArray ?_ ?_; (simp only [List.map_toArray, List.map_cons, List.map_nil]; exact built37 u t ds hds))
      | (refine wpList_store_rowTo rfl 37 (.tmp 4) (.tmp 74) rfl rfl rb (fr u t ds).toArray rfl rfl 37 (fr 0 0 (cs35 0)).toArray g0 szf szf2 onef ?_))
    refine bodyPost_ret (results_ct (p := 4) (u := 5) (ty := 37) Tryz.results227 _ _ rb 37 (fr u t ds).toArray (0, 0) _ rfl (setRow_heap _ _ _ _ 37 _ g0) Tryz.underlying37 rfl szf) rfl ?_
    exact ⟨ds, rfl, FIN.out.1, FIN.out.2⟩
end Go.Proofs.YtmbjlondehcheaaGreatDoor
end
section
set_option linter.unusedSimpArgs false
set_option linter.unusedVariables false
namespace Go.Proofs.YtmbjlondehcheaaGreatDoor
open Go.Shelf Go.RowKit Go.Lib Go.Sort Go.Proofs.YtmbjlondehcheaaGreatDoorW.PrintWords Go.Proofs.YtmbjlondehcheaaGreatDoorW.PrintLast Go.Proofs.YtmbjlondehcheaaGreatDoor.PTopTalk
set_option maxRecDepth 1000000 in
theorem aduOf0 (w : World) : Calls Tryz.prog 15 #[.int .i64 0] w fun r w' => r = .returned (.iface 110 (.agg #[])) ∧ w' = w := by
  go_enter Tryz.func15, Tryz.ntmps15
  go_wp2
  go_ret
  exact ⟨rfl, rfl⟩
set_option maxRecDepth 1000000 in
theorem aduMeth0 (w : World) : Calls Tryz.prog 228 #[.agg #[]] w fun r w' => r = .returned (.int .i64 256) ∧ Kept w w' (fun _ => False) := by
  have q := Kept.alloc w (.cells #[] 110) (fun _ => False)
  go_enter Tryz.func228, Tryz.ntmps228
  go_wp2
  go_ret
  exact ⟨rfl, q⟩
set_option maxRecDepth 1000000 in
theorem aduMost0 (w : World) : Calls Tryz.prog 29 #[.int .i64 0] w fun r w' => r = .returned (.int .i64 256) ∧ Kept w w' (fun _ => False) := by
  have h15 := aduOf0 w
  have hmt := fun w => aduMeth0 w
  have hm : ∀ w, (method 402 110 (.agg #[]) "busbar/adu.most").run Tryz.prog w = .ok (228, .agg #[]) w := fun w => by kernel_rfl
  have eg : ∀ args w, (callFunc 228 args).run Tryz.prog w = .ok (.enter 228 args) w := enters_of Tryz.func228 (by kernel_rfl) rfl
  go_enter Tryz.func29, Tryz.ntmps29
  go_wp2_with (first | (go_at_call 15; with_reducible refine h15.mono ?_; rintro e w1 ⟨rfl, rfl⟩; clear h15) | (with_reducible refine (hmt _).mono ?_; rintro e w2 ⟨rfl, k2⟩))
  go_ret
  exact ⟨rfl, k2⟩
set_option maxRecDepth 1000000 in
theorem aduOf1 (w : World) : Calls Tryz.prog 15 #[.int .i64 1] w fun r w' => r = .returned (.iface 111 (.agg #[])) ∧ w' = w := by
  go_enter Tryz.func15, Tryz.ntmps15
  go_wp2
  go_ret
  exact ⟨rfl, rfl⟩
set_option maxRecDepth 1000000 in
theorem aduMeth1 (w : World) : Calls Tryz.prog 235 #[.agg #[]] w fun r w' => r = .returned (.int .i64 513) ∧ Kept w w' (fun _ => False) := by
  have q := Kept.alloc w (.cells #[] 111) (fun _ => False)
  go_enter Tryz.func235, Tryz.ntmps235
  go_wp2
  go_ret
  exact ⟨rfl, q⟩
set_option maxRecDepth 1000000 in
theorem aduMost1 (w : World) : Calls Tryz.prog 29 #[.int .i64 1] w fun r w' => r = .returned (.int .i64 513) ∧ Kept w w' (fun _ => False) := by
  have h15 := aduOf1 w
  have hmt := fun w => aduMeth1 w
  have hm : ∀ w, (method 402 111 (.agg #[]) "busbar/adu.most").run Tryz.prog w = .ok (235, .agg #[]) w := fun w => by kernel_rfl
  have eg : ∀ args w, (callFunc 235 args).run Tryz.prog w = .ok (.enter 235 args) w := enters_of Tryz.func235 (by kernel_rfl) rfl
  go_enter Tryz.func29, Tryz.ntmps29
  go_wp2_with (first | (go_at_call 15; with_reducible refine h15.mono ?_; rintro e w1 ⟨rfl, rfl⟩; clear h15) | (with_reducible refine (hmt _).mono ?_; rintro e w2 ⟨rfl, k2⟩))
  go_ret
  exact ⟨rfl, k2⟩
set_option maxRecDepth 1000000 in
theorem aduOf2 (w : World) : Calls Tryz.prog 15 #[.int .i64 2] w fun r w' => r = .returned (.iface 112 (.agg #[])) ∧ w' = w := by
  go_enter Tryz.func15, Tryz.ntmps15
  go_wp2
  go_ret
  exact ⟨rfl, rfl⟩
set_option maxRecDepth 1000000 in
theorem aduMeth2 (w : World) : Calls Tryz.prog 240 #[.agg #[]] w fun r w' => r = .returned (.int .i64 260) ∧ Kept w w' (fun _ => False) := by
  have q := Kept.alloc w (.cells #[] 112) (fun _ => False)
  go_enter Tryz.func240, Tryz.ntmps240
  go_wp2
  go_ret
  exact ⟨rfl, q⟩
set_option maxRecDepth 1000000 in
theorem aduMost2 (w : World) : Calls Tryz.prog 29 #[.int .i64 2] w fun r w' => r = .returned (.int .i64 260) ∧ Kept w w' (fun _ => False) := by
  have h15 := aduOf2 w
  have hmt := fun w => aduMeth2 w
  have hm : ∀ w, (method 402 112 (.agg #[]) "busbar/adu.most").run Tryz.prog w = .ok (240, .agg #[]) w := fun w => by kernel_rfl
  have eg : ∀ args w, (callFunc 240 args).run Tryz.prog w = .ok (.enter 240 args) w := enters_of Tryz.func240 (by kernel_rfl) rfl
  go_enter Tryz.func29, Tryz.ntmps29
  go_wp2_with (first | (go_at_call 15; with_reducible refine h15.mono ?_; rintro e w1 ⟨rfl, rfl⟩; clear h15) | (with_reducible refine (hmt _).mono ?_; rintro e w2 ⟨rfl, k2⟩))
  go_ret
  exact ⟨rfl, k2⟩
theorem ex_invoke {P : Program} {oi : Oper} {a : Act} {w : World} {name : String} {t : TypeId} {v r : Value} {f : FuncId} {args : Array Value} (x : Operand) (xs : Array Operand) (ts : Array TypeId) (ho : oi.op = .call { callee := .invoke x name, args := xs, argTypes := ts }) (hx : a.eval x = .iface t v) (hargs : xs.map a.eval = args)
    (hm : (method (P.types.size + Made.depth) t v name).run P w = .ok (f, r) w) (he : (callFunc f (#[r] ++ args)).run P w = .ok (.enter f (#[r] ++ args)) w) : (execOp a.eval oi).run P w = .ok (.enter f (#[r] ++ args)) w := by
  have e1 : (#[Value.iface t v] ++ args)[0]? = some (.iface t v) := by rw [Array.getElem?_append_left (by simp)]; rfl
  have e2 : (#[Value.iface t v] ++ args).extract 1 (#[Value.iface t v] ++ args).size = args := by
    cases args
    simp
  unfold execOp
  simp only [ho, resolve, hx, hargs, Sem.run_bind, Sem.run_pure, Result.andThen_ok, invoke, e1, e2, callMethod, run_program, hm, he]
section
variable {P : Program} {ops : Array Oper} {Q : Exit → Act → World → Prop} {md : Region.Mode} {S : World → Prop} {ds : List Nat}
theorem cli (i : Nat) (N : Option Tmp) (l' : Array Bool) {f : FuncId} {args : Array Value} {T : Ending → World → Prop} {a : Act} {w : World} (hC : Calls P f args w T) {oi : Oper} {fuel : Nat} {l : Array Bool} {x : Operand} {name : String} {xs : Array Operand} {ts : Array TypeId} {t : TypeId} {v r : Value} {args0 : Array Value}
    (hm : (method (P.types.size + Made.depth) t v name).run P w = .ok (f, r) w) (he : (callFunc f (#[r] ++ args0)).run P w = .ok (.enter f (#[r] ++ args0)) w)
    (h : ∀ e w', T e w' → ∃ v, e = .returned v ∧ S w' ∧ wpAnyLast P md ops Q S ds fuel l' (a.put N v) w')
    (hi : ops[i]? = some oi := by rfl) (hN : oi.dst = N := by rfl) (hop : oi.op = .call { callee := .invoke x name, args := xs, argTypes := ts } := by rfl) (hx : a.eval x = .iface t v := by rfl) (hargs : xs.map a.eval = args0 := by (simp only [List.map_toArray, List.map_cons, List.map_nil]; rfl)) (hA : args = #[r] ++ args0 := by rfl)
    (hc : readyB md ops l l' i = true := by kernel_rfl) (hd : i ∉ ds := by decide) (hw : Region.wanted oi (yielded ops a.tmps) = true := by kernel_rfl) : wpAnyLast P md ops Q S ds (fuel + 1) l a w := by
  subst hA
  refine one_ l' hi hN hc hd fun K hK => ?_
  refine call_ f _ hw hN (ex_invoke x xs ts hop hx hargs hm he) (hC.mono fun e w' ht => ?_)
  obtain ⟨v, he, hS, hh⟩ := h e w' ht
  exact ⟨v, he, hK.out _ _ hS fun _ => hh⟩
end
set_option maxHeartbeats 1000000 in
set_option maxRecDepth 1000000 in
theorem aduMw0 {dir u t : Int} {x : S35} {may : Prop} {E : List Int → Prop} (h : FrW 231 rtuB dir u t x may E) (w : World) (cs : List Value) (hK : k35.K w x cs) : Calls Tryz.prog 230 #[.agg #[], .int .i64 dir, .agg (fr u t cs).toArray] w fun r w' =>
    Kept w w' (fun _ => False) ∧ ∃ A k c e0, r = .returned (.tuple #[.slice A k c, .int .i64 e0]) ∧ ((may ∧ e0 = 1 ∧ A = none ∧ k = 0 ∧ c = 0) ∨ e0 = 0 ∧ ∃ p : List Int, (rtuB u t p).length = k ∧ (By w' (.slice A k c) (rtuB u t p) ∧ ∀ ad : Addr, A = some ad → w.heap.size ≤ ad.block) ∧ Parsed dir p x ∧ Oct p ∧ E p) := by
  have hs := cons35 hK
  have q1 := (Kept.alloc w (.cells #[] 110) (fun _ => False)).trans (Kept.alloc _ (.cells (fr u t cs).toArray 37) (fun _ => False)) (H := fun _ => False) (fun _ _ h => h) (fun _ _ h => h)
  have f1 := heap_alloc_new (w.alloc (.cells #[] 110)) (.cells (fr u t cs).toArray 37)
  have hp := h _ cs (k35.K_below q1.toBelow hK)
  have szm : (Tryz.prog.info? 37).map (·.size) = some (fr u t cs).length := by have := sizeF hs u t; simpa using this
  clear h hK
  go_enter Tryz.func230, Tryz.ntmps230
  go_upto_region 1 with fail
  generalize (w.alloc (.cells #[] 110)).alloc (.cells (fr u t cs).toArray 37) = w1 at *
  rw [show (w.alloc (.cells #[] 110)).heap.size = w.heap.size + 1 by simp] at f1
  generalize w.heap.size + 1 = fb at *
  have rm : w1.rangeAt fb 0 (fr u t cs) := fun j v hj => by rw [cell_of_row w1 fb (0 + j) _ 37 (0, 0) f1]; simpa using hj
  go_wp2_with (first
    | (refine wpList_load_mid rfl 37 (.tmp 5) rfl fb 0 rfl (fr u t cs) _ rm Tryz.underlying37 rfl szm ?_)
    | (go_at_call 231; with_reducible refine hp.mono ?_; rintro e w2 ⟨k2, A, k, c, e0, rfl, hR⟩))
  go_ret2
  exact ⟨q1.trans k2 (fun _ _ h => h) (fun _ _ h => h), A, k, c, e0, rfl, fresh_le q1.size hR⟩
set_option maxHeartbeats 1000000 in
set_option maxRecDepth 1000000 in
theorem aduW0 {dir u t : Int} {x : S35} {may : Prop} {E : List Int → Prop} (h : FrW 231 rtuB dir u t x may E) (w : World) (cs : List Value) (hK : k35.K w x cs) : Calls Tryz.prog 7 #[.int .i64 0, .int .i64 dir, .agg (fr u t cs).toArray] w fun r w' =>
    Kept w w' (fun _ => False) ∧ ∃ A k c e0, r = .returned (.tuple #[.slice A k c, .int .i64 e0]) ∧ ((may ∧ e0 = 1 ∧ A = none ∧ k = 0 ∧ c = 0) ∨ e0 = 0 ∧ ∃ p : List Int, (rtuB u t p).length = k ∧ (By w' (.slice A k c) (rtuB u t p) ∧ ∀ ad : Addr, A = some ad → w.heap.size ≤ ad.block) ∧ Parsed dir p x ∧ Oct p ∧ E p) := by
  have hs := cons35 hK
  have q1 := Kept.alloc w (.cells (fr u t cs).toArray 37) (fun _ => False)
  have f1 := heap_alloc_new w (.cells (fr u t cs).toArray 37)
  have hp := fun W (q : Kept (w.alloc (.cells (fr u t cs).toArray 37)) W (fun _ => False)) => aduMw0 h W cs (k35.K_below q.toBelow (k35.K_below q1.toBelow hK))
  have szm : (Tryz.prog.info? 37).map (·.size) = some (fr u t cs).length := by have := sizeF hs u t; simpa using this
  have hm : ∀ w, (method (Tryz.prog.types.size + Made.depth) 110 (.agg #[]) "busbar/adu.write").run Tryz.prog w = .ok (230, .agg #[]) w := fun w => by kernel_rfl
  have eg : ∀ args w, (callFunc 230 args).run Tryz.prog w = .ok (.enter 230 args) w := enters_of Tryz.func230 (by kernel_rfl) rfl
  clear h hK
  go_enter Tryz.func7, Tryz.ntmps7
  go_upto_region 1 with fail
  generalize w.alloc (.cells (fr u t cs).toArray 37) = w1 at *
  generalize w.heap.size = fb at *
  have rm : w1.rangeAt fb 0 (fr u t cs) := fun j v hj => by rw [cell_of_row w1 fb (0 + j) _ 37 (0, 0) f1]; simpa using hj
  have S0 := Kept.drew w1 (fun _ => False)
  refine st 9 (fun w' => Kept w1 w' (fun _ => False)) [] S0 ?_
  refine pu 0 (some 8) (mk 9 1) ?_
  refine pu 2 (some 10) (mk 9 5) ?_
  refine ld 3 (some 11) (mk 9 13) S0 (v := .agg (fr u t cs).toArray) ?_ (hy := (yieldsIf_load_mid (by kernel_rfl) 37 (.tmp 5) rfl fb 0 rfl (fr u t cs) _ (fun w' hS => hS.range rm) Tryz.underlying37 rfl szm))
  refine cl 1 (some 9) (mk 9 15) Tryz.func15 (args := #[.int .i64 0]) (aduOf0 _) ?_
  rintro e wx ⟨rfl, rfl⟩
  refine ⟨_, rfl, S0, nm ?_⟩
  refine cli 4 (some 12) (mk 9 31) (hp _ S0) (hm _) (eg _ _) ?_
  rintro e w2 ⟨k2, A, k, c, e0, rfl, hR⟩
  have S1 := S0.trans k2 (H := fun _ => False) (fun _ _ h => h) (fun _ _ h => h)
  refine ⟨_, rfl, S1, nm ?_⟩
  refine pu 5 (some 13) (mk 9 63) ?_
  refine pu 6 (some 14) (mk 9 127) ?_
  refine pu 7 (some 6) (mk 9 255) ?_
  refine pu 8 (some 7) (mk 9 511) ?_
  refine done_ (by kernel_rfl) ?_
  have F : Aside0 _ := ⟨And.intro (q1.trans S1 (fun _ _ h => h) (fun _ _ h => h)) (fresh_le q1.size hR)⟩
  clear S0 S1 k2 hp hR
  go_wp2
  go_ret2
  exact ⟨F.out.1, A, k, c, e0, rfl, F.out.2⟩
set_option maxHeartbeats 1000000 in
set_option maxRecDepth 1000000 in
theorem aduMw1 {dir u t : Int} {x : S35} {may : Prop} {E : List Int → Prop} (h : FrW 238 ascB dir u t x may E) (w : World) (cs : List Value) (hK : k35.K w x cs) : Calls Tryz.prog 237 #[.agg #[], .int .i64 dir, .agg (fr u t cs).toArray] w fun r w' =>
    Kept w w' (fun _ => False) ∧ ∃ A k c e0, r = .returned (.tuple #[.slice A k c, .int .i64 e0]) ∧ ((may ∧ e0 = 1 ∧ A = none ∧ k = 0 ∧ c = 0) ∨ e0 = 0 ∧ ∃ p : List Int, (ascB u t p).length = k ∧ (By w' (.slice A k c) (ascB u t p) ∧ ∀ ad : Addr, A = some ad → w.heap.size ≤ ad.block) ∧ Parsed dir p x ∧ Oct p ∧ E p) := by
  have hs := cons35 hK
  have q1 := (Kept.alloc w (.cells #[] 111) (fun _ => False)).trans (Kept.alloc _ (.cells (fr u t cs).toArray 37) (fun _ => False)) (H := fun _ => False) (fun _ _ h => h) (fun _ _ h => h)
  have f1 := heap_alloc_new (w.alloc (.cells #[] 111)) (.cells (fr u t cs).toArray 37)
  have hp := h _ cs (k35.K_below q1.toBelow hK)
  have szm : (Tryz.prog.info? 37).map (·.size) = some (fr u t cs).length := by have := sizeF hs u t; simpa using this
  clear h hK
  go_enter Tryz.func237, Tryz.ntmps237
  go_upto_region 1 with fail
  generalize (w.alloc (.cells #[] 111)).alloc (.cells (fr u t cs).toArray 37) = w1 at *
  rw [show (w.alloc (.cells #[] 111)).heap.size = w.heap.size + 1 by simp] at f1
  generalize w.heap.size + 1 = fb at *
  have rm : w1.rangeAt fb 0 (fr u t cs) := fun j v hj => by rw [cell_of_row w1 fb (0 + j) _ 37 (0, 0) f1]; simpa using hj
  go_wp2_with (first
    | (refine wpList_load_mid rfl 37 (.tmp 5) rfl fb 0 rfl (fr u t cs) _ rm Tryz.underlying37 rfl szm ?_)
    | (go_at_call 238; with_reducible refine hp.mono ?_; rintro e w2 ⟨k2, A, k, c, e0, rfl, hR⟩))
  go_ret2
  exact ⟨q1.trans k2 (fun _ _ h => h) (fun _ _ h => h), A, k, c, e0, rfl, fresh_le q1.size hR⟩
set_option maxHeartbeats 1000000 in
set_option maxRecDepth 1000000 in
theorem aduW1 {dir u t : Int} {x : S35} {may : Prop} {E : List Int → Prop} (h : FrW 238 ascB dir u t x may E) (w : World) (cs : List Value) (hK : k35.K w x cs) : Calls Tryz.prog 7 #[.int .i64 1, .int .i64 dir, .agg (fr u t cs).toArray] w fun r w' =>
    Kept w w' (fun _ => False) ∧ ∃ A k c e0, r = .returned (.tuple #[.slice A k c, .int .i64 e0]) ∧ ((may ∧ e0 = 1 ∧ A = none ∧ k = 0 ∧ c = 0) ∨ e0 = 0 ∧ ∃ p : List Int, (ascB u t p).length = k ∧ (By w' (.slice A k c) (ascB u t p) ∧ ∀ ad : Addr, A = some ad → w.heap.size ≤ ad.block) ∧ Parsed dir p x ∧ Oct p ∧ E p) := by
  have hs := cons35 hK
  have q1 := Kept.alloc w (.cells (fr u t cs).toArray 37) (fun _ => False)
  have f1 := heap_alloc_new w (.cells (fr u t cs).toArray 37)
  have hp := fun W (q : Kept (w.alloc (.cells (fr u t cs).toArray 37)) W (fun _ => False)) => aduMw1 h W cs (k35.K_below q.toBelow (k35.K_below q1.toBelow hK))
  have szm : (Tryz.prog.info? 37).map (·.size) = some (fr u t cs).length := by have := sizeF hs u t; simpa using this
  have hm : ∀ w, (method (Tryz.prog.types.size + Made.depth) 111 (.agg #[]) "busbar/adu.write").run Tryz.prog w = .ok (237, .agg #[]) w := fun w => by kernel_rfl
  have eg : ∀ args w, (callFunc 237 args).run Tryz.prog w = .ok (.enter 237 args) w := enters_of Tryz.func237 (by kernel_rfl) rfl
  clear h hK
  go_enter Tryz.func7, Tryz.ntmps7
  go_upto_region 1 with fail
  generalize w.alloc (.cells (fr u t cs).toArray 37) = w1 at *
  generalize w.heap.size = fb at *
  have rm : w1.rangeAt fb 0 (fr u t cs) := fun j v hj => by rw [cell_of_row w1 fb (0 + j) _ 37 (0, 0) f1]; simpa using hj
  have S0 := Kept.drew w1 (fun _ => False)
  refine st 9 (fun w' => Kept w1 w' (fun _ => False)) [] S0 ?_
  refine pu 0 (some 8) (mk 9 1) ?_
  refine pu 2 (some 10) (mk 9 5) ?_
  refine ld 3 (some 11) (mk 9 13) S0 (v := .agg (fr u t cs).toArray) ?_ (hy := (yieldsIf_load_mid (by kernel_rfl) 37 (.tmp 5) rfl fb 0 rfl (fr u t cs) _ (fun w' hS => hS.range rm) Tryz.underlying37 rfl szm))
  refine cl 1 (some 9) (mk 9 15) Tryz.func15 (args := #[.int .i64 1]) (aduOf1 _) ?_
  rintro e wx ⟨rfl, rfl⟩
  refine ⟨_, rfl, S0, nm ?_⟩
  refine cli 4 (some 12) (mk 9 31) (hp _ S0) (hm _) (eg _ _) ?_
  rintro e w2 ⟨k2, A, k, c, e0, rfl, hR⟩
  have S1 := S0.trans k2 (H := fun _ => False) (fun _ _ h => h) (fun _ _ h => h)
  refine ⟨_, rfl, S1, nm ?_⟩
  refine pu 5 (some 13) (mk 9 63) ?_
  refine pu 6 (some 14) (mk 9 127) ?_
  refine pu 7 (some 6) (mk 9 255) ?_
  refine pu 8 (some 7) (mk 9 511) ?_
  refine done_ (by kernel_rfl) ?_
  have F : Aside0 _ := ⟨And.intro (q1.trans S1 (fun _ _ h => h) (fun _ _ h => h)) (fresh_le q1.size hR)⟩
  clear S0 S1 k2 hp hR
  go_wp2
  go_ret2
  exact ⟨F.out.1, A, k, c, e0, rfl, F.out.2⟩
set_option maxHeartbeats 1000000 in
set_option maxRecDepth 1000000 in
theorem aduMw2 {dir u t : Int} {x : S35} {may : Prop} {E : List Int → Prop} (h : FrW 243 mbapB dir u t x may E) (w : World) (cs : List Value) (hK : k35.K w x cs) : Calls Tryz.prog 242 #[.agg #[], .int .i64 dir, .agg (fr u t cs).toArray] w fun r w' =>
    Kept w w' (fun _ => False) ∧ ∃ A k c e0, r = .returned (.tuple #[.slice A k c, .int .i64 e0]) ∧ ((may ∧ e0 = 1 ∧ A = none ∧ k = 0 ∧ c = 0) ∨ e0 = 0 ∧ ∃ p : List Int, (mbapB u t p).length = k ∧ (By w' (.slice A k c) (mbapB u t p) ∧ ∀ ad : Addr, A = some ad → w.heap.size ≤ ad.block) ∧ Parsed dir p x ∧ Oct p ∧ E p) := by
  have hs := cons35 hK
  have q1 := (Kept.alloc w (.cells #[] 112) (fun _ => False)).trans (Kept.alloc _ (.cells (fr u t cs).toArray 37) (fun _ => False)) (H := fun _ => False) (fun _ _ h => h) (fun _ _ h => h)
  have f1 := heap_alloc_new (w.alloc (.cells #[] 112)) (.cells (fr u t cs).toArray 37)
  have hp := h _ cs (k35.K_below q1.toBelow hK)
  have szm : (Tryz.prog.info? 37).map (·.size) = some (fr u t cs).length := by have := sizeF hs u t; simpa using this
  clear h hK
  go_enter Tryz.func242, Tryz.ntmps242
  go_upto_region 1 with fail
  generalize (w.alloc (.cells #[] 112)).alloc (.cells (fr u t cs).toArray 37) = w1 at *
  rw [show (w.alloc (.cells #[] 112)).heap.size = w.heap.size + 1 by simp] at f1
  generalize w.heap.size + 1 = fb at *
  have rm : w1.rangeAt fb 0 (fr u t cs) := fun j v hj => by rw [cell_of_row w1 fb (0 + j) _ 37 (0, 0) f1]; simpa using hj
  go_wp2_with (first
    | (refine wpList_load_mid rfl 37 (.tmp 5) rfl fb 0 rfl (fr u t cs) _ rm Tryz.underlying37 rfl szm ?_)
    | (go_at_call 243; with_reducible refine hp.mono ?_; rintro e w2 ⟨k2, A, k, c, e0, rfl, hR⟩))
  go_ret2
  exact ⟨q1.trans k2 (fun _ _ h => h) (fun _ _ h => h), A, k, c, e0, rfl, fresh_le q1.size hR⟩
set_option maxHeartbeats 1000000 in
set_option maxRecDepth 1000000 in
theorem aduW2 {dir u t : Int} {x : S35} {may : Prop} {E : List Int → Prop} (h : FrW 243 mbapB dir u t x may E) (w : World) (cs : List Value) (hK : k35.K w x cs) : Calls Tryz.prog 7 #[.int .i64 2, .int .i64 dir, .agg (fr u t cs).toArray] w fun r w' =>
    Kept w w' (fun _ => False) ∧ ∃ A k c e0, r = .returned (.tuple #[.slice A k c, .int .i64 e0]) ∧ ((may ∧ e0 = 1 ∧ A = none ∧ k = 0 ∧ c = 0) ∨ e0 = 0 ∧ ∃ p : List Int, (mbapB u t p).length = k ∧ (By w' (.slice A k c) (mbapB u t p) ∧ ∀ ad : Addr, A = some ad → w.heap.size ≤ ad.block) ∧ Parsed dir p x ∧ Oct p ∧ E p) := by
  have hs := cons35 hK
  have q1 := Kept.alloc w (.cells (fr u t cs).toArray 37) (fun _ => False)
  have f1 := heap_alloc_new w (.cells (fr u t cs).toArray 37)
  have hp := fun W (q : Kept (w.alloc (.cells (fr u t cs).toArray 37)) W (fun _ => False)) => aduMw2 h W cs (k35.K_below q.toBelow (k35.K_below q1.toBelow hK))
  have szm : (Tryz.prog.info? 37).map (·.size) = some (fr u t cs).length := by have := sizeF hs u t; simpa using this
  have hm : ∀ w, (method (Tryz.prog.types.size + Made.depth) 112 (.agg #[]) "busbar/adu.write").run Tryz.prog w = .ok (242, .agg #[]) w := fun w => by kernel_rfl
  have eg : ∀ args w, (callFunc 242 args).run Tryz.prog w = .ok (.enter 242 args) w := enters_of Tryz.func242 (by kernel_rfl) rfl
  clear h hK
  go_enter Tryz.func7, Tryz.ntmps7
  go_upto_region 1 with fail
  generalize w.alloc (.cells (fr u t cs).toArray 37) = w1 at *
  generalize w.heap.size = fb at *
  have rm : w1.rangeAt fb 0 (fr u t cs) := fun j v hj => by rw [cell_of_row w1 fb (0 + j) _ 37 (0, 0) f1]; simpa using hj
  have S0 := Kept.drew w1 (fun _ => False)
  refine st 9 (fun w' => Kept w1 w' (fun _ => False)) [] S0 ?_
  refine pu 0 (some 8) (mk 9 1) ?_
  refine pu 2 (some 10) (mk 9 5) ?_
  refine ld 3 (some 11) (mk 9 13) S0 (v := .agg (fr u t cs).toArray) ?_ (hy := (yieldsIf_load_mid (by kernel_rfl) 37 (.tmp 5) rfl fb 0 rfl (fr u t cs) _ (fun w' hS => hS.range rm) Tryz.underlying37 rfl szm))
  refine cl 1 (some 9) (mk 9 15) Tryz.func15 (args := #[.int .i64 2]) (aduOf2 _) ?_
  rintro e wx ⟨rfl, rfl⟩
  refine ⟨_, rfl, S0, nm ?_⟩
  refine cli 4 (some 12) (mk 9 31) (hp _ S0) (hm _) (eg _ _) ?_
  rintro e w2 ⟨k2, A, k, c, e0, rfl, hR⟩
  have S1 := S0.trans k2 (H := fun _ => False) (fun _ _ h => h) (fun _ _ h => h)
  refine ⟨_, rfl, S1, nm ?_⟩
  refine pu 5 (some 13) (mk 9 63) ?_
  refine pu 6 (some 14) (mk 9 127) ?_
  refine pu 7 (some 6) (mk 9 255) ?_
  refine pu 8 (some 7) (mk 9 511) ?_
  refine done_ (by kernel_rfl) ?_
  have F : Aside0 _ := ⟨And.intro (q1.trans S1 (fun _ _ h => h) (fun _ _ h => h)) (fresh_le q1.size hR)⟩
  clear S0 S1 k2 hp hR
  go_wp2
  go_ret2
  exact ⟨F.out.1, A, k, c, e0, rfl, F.out.2⟩
end Go.Proofs.YtmbjlondehcheaaGreatDoor
end
