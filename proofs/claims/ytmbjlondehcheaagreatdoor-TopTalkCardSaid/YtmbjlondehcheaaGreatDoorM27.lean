/- TopTalk: part 27 of the walks: of HSam, HFram, HTalk. -/
import Derived.Test.YtmbjlondehcheaaGreatDoorM26
section
set_option linter.unusedSimpArgs false
set_option linter.unusedVariables false
namespace Go.Proofs.YtmbjlondehcheaaGreatDoor
open Go.Shelf Go.RowKit Go.Lib Go.Sort Go.Proofs.YtmbjlondehcheaaGreatDoorW.PrintWords Go.Proofs.YtmbjlondehcheaaGreatDoorW.PrintLast Go.Proofs.YtmbjlondehcheaaGreatDoor.PTopTalk
theorem words_l0 (l : List Int) (hl : l.length ≤ 9223372036854775807) : ∀ (n i : Nat), l.length - i ≤ n → busbarref01_Words.l0 (n + 1) l l (i : Int) = some true := by
  intro n
  induction n with
  | zero => intro i h1; unfold busbarref01_Words.l0; rw [if_neg (by omega)]
  | succ n ih =>
    intro i h1
    unfold busbarref01_Words.l0
    by_cases hi : (i : Int) < (l.length : Int)
    · rw [if_pos hi, if_pos (by omega), if_pos hi, if_pos rfl, Go.IntWalk.wrap64_in _ (by omega)]
      exact ih (i + 1) (by omega)
    · rw [if_neg hi]
theorem bools_l0 (l : List Bool) (hl : l.length ≤ 9223372036854775807) : ∀ (n i : Nat), l.length - i ≤ n → busbarref01_Bools.l0 (n + 1) l l (i : Int) = some true := by
  intro n
  induction n with
  | zero => intro i h1; unfold busbarref01_Bools.l0; rw [if_neg (by omega)]
  | succ n ih =>
    intro i h1
    unfold busbarref01_Bools.l0
    by_cases hi : (i : Int) < (l.length : Int)
    · rw [if_pos hi, if_pos (by omega), if_pos hi, if_neg (by simp), Go.IntWalk.wrap64_in _ (by omega)]
      exact ih (i + 1) (by omega)
    · rw [if_neg hi]
theorem words_same {A B : Option Addr} {c d : Nat} {l : List Int} {w : World} (h : (Kd.int .u16).C w A l.length l) (hc : l.length ≤ c) (h2 : (Kd.int .u16).C w B l.length l) (hd : l.length ≤ d) : Calls Tryz.prog 36 #[.slice A l.length c, .slice B l.length d] w fun e w' => e = .returned (.bool true) ∧ Kept w w' (fun _ => False) := by
  have e : busbarref01_Words.f (l.length + 1) l l = some true := by
    unfold busbarref01_Words.f; rw [if_pos rfl]; exact words_l0 l h.2.1 l.length 0 (by omega)
  exact (busbarref01_Words.calls (l.length + 1) A c l B d l true w h hc h2 hd e).mono fun e w' ⟨he, hd⟩ => ⟨he, kept_of_below hd.below _⟩
theorem bools_same {A B : Option Addr} {c d : Nat} {l : List Bool} {w : World} (h : Kd.bool.C w A l.length l) (hc : l.length ≤ c) (h2 : Kd.bool.C w B l.length l) (hd : l.length ≤ d) : Calls Tryz.prog 37 #[.slice A l.length c, .slice B l.length d] w fun e w' => e = .returned (.bool true) ∧ Kept w w' (fun _ => False) := by
  have e : busbarref01_Bools.f (l.length + 1) l l = some true := by
    unfold busbarref01_Bools.f; rw [if_pos rfl]; exact bools_l0 l h.2.1 l.length 0 (by omega)
  exact (busbarref01_Bools.calls (l.length + 1) A c l B d l true w h hc h2 hd e).mono fun e w' ⟨he, hd⟩ => ⟨he, kept_of_below hd.below _⟩
theorem bytes_drawn {A B : Option Addr} {c d : Nat} {l : List Int} {w : World} (h : (Kd.int .u8).C w A l.length l) (hc : l.length ≤ c) (h2 : (Kd.int .u8).C w B l.length l) (hd : l.length ≤ d) : Calls Tryz.prog 38 #[.slice A l.length c, .slice B l.length d] w fun e w' => e = .returned (.bool true) ∧ Drawn0 w w' := by
  have e : busbarref01_Same.f l l = some true := by unfold busbarref01_Same.f; simp
  exact busbarref01_Same.calls A c l B d l true w h hc h2 hd e
theorem bytes_same {A B : Option Addr} {c d : Nat} {l : List Int} {w : World} (h : (Kd.int .u8).C w A l.length l) (hc : l.length ≤ c) (h2 : (Kd.int .u8).C w B l.length l) (hd : l.length ≤ d) : Calls Tryz.prog 38 #[.slice A l.length c, .slice B l.length d] w fun e w' => e = .returned (.bool true) ∧ Kept w w' (fun _ => False) :=
  (bytes_drawn h hc h2 hd).mono fun e w' ⟨he, hd⟩ => ⟨he, kept_of_below hd.below _⟩
structure SmAt (w wr : World) (cs ds : List Value) : Prop where
  a : wr.heap[w.heap.size]? = some (.cells cs.toArray 35 (0, 0))
  b : wr.heap[w.heap.size + 1]? = some (.cells ds.toArray 35 (0, 0))
  kept : Kept w wr (fun _ => False)
theorem SmAt.keep {w wr w' : World} {cs ds : List Value} (h : SmAt w wr cs ds) (k : Kept wr w' (fun _ => False)) : SmAt w w' cs ds := ⟨k.heap h.a (fun h => h), k.heap h.b (fun h => h), h.kept.trans k (fun _ _ h => h) (fun _ _ h => h)⟩
theorem SmAt.ca {w wr : World} {cs ds : List Value} (h : SmAt w wr cs ds) (j : Nat) {v : Value} (hv : cs.toArray[j]? = some v) : wr.cell? ⟨w.heap.size, j, none⟩ = some v := by rw [cell_of_row wr _ j _ 35 (0, 0) h.a]; exact hv
theorem SmAt.cb {w wr : World} {cs ds : List Value} (h : SmAt w wr cs ds) (j : Nat) {v : Value} (hv : ds.toArray[j]? = some v) : wr.cell? ⟨w.heap.size + 1, j, none⟩ = some v := by rw [cell_of_row wr _ j _ 35 (0, 0) h.b]; exact hv
set_option maxHeartbeats 8000000 in
set_option maxRecDepth 1000000 in
theorem same_msg (x : S35) (cs ds : List Value) (w : World) (h : k35.K w x cs) (h' : k35.K w x ds) : Calls Tryz.prog 18 #[.agg cs.toArray, .agg ds.toArray] w fun e w' => e = .returned (.bool true) ∧ Kept w w' (fun _ => False) := by
  have hlen := k35.K_len h
  have hlen2 := k35.K_len h'
  obtain ⟨A12, c12, A13, c13, A14, c14, A15, c15, A21, c21, rfl, l12, g12', l13, g13', l14, g14', l15, g15', l21, g21'⟩ := k35_open h
  obtain ⟨B12, d12, B13, d13, B14, d14, B15, d15, B21, d21, rfl, m12, e12', m13, e13', m14, e14', m15, e15', m21, e21'⟩ := k35_open h'
  have g12 : Aside0 _ := ⟨g12'⟩
  have e12 : Aside0 _ := ⟨e12'⟩
  have g13 : Aside0 _ := ⟨g13'⟩
  have e13 : Aside0 _ := ⟨e13'⟩
  have g14 : Aside0 _ := ⟨g14'⟩
  have e14 : Aside0 _ := ⟨e14'⟩
  have g15 : Aside0 _ := ⟨g15'⟩
  have e15 : Aside0 _ := ⟨e15'⟩
  have g21 : Aside0 _ := ⟨g21'⟩
  have e21 : Aside0 _ := ⟨e21'⟩
  clear g12' g13' g14' g15' g21' h e12' e13' e14' e15' e21' h'
  obtain ⟨cs, hcs⟩ : ∃ cs : List Value, cs = [.int .u8 x.f0, .int .u8 x.f1, .int .u16 x.f2, .int .u16 x.f3, .int .u16 x.f4, .int .u16 x.f5, .int .u16 x.f6, .int .u16 x.f7, .int .u16 x.f8, .int .u16 x.f9, .int .u16 x.f10, .int .u16 x.f11, .slice A12 x.f12.length c12, .slice A13 x.f13.length c13, .slice A14 x.f14.length c14, .slice A15 x.f15.length c15, .int .u8 x.f16, .int .u8 x.f17, .int .u8 x.f18, .int .u8 x.f19, .int .u8 x.f20, .slice A21 x.f21.length c21] := ⟨_, rfl⟩
  obtain ⟨ds, hds⟩ : ∃ ds : List Value, ds = [.int .u8 x.f0, .int .u8 x.f1, .int .u16 x.f2, .int .u16 x.f3, .int .u16 x.f4, .int .u16 x.f5, .int .u16 x.f6, .int .u16 x.f7, .int .u16 x.f8, .int .u16 x.f9, .int .u16 x.f10, .int .u16 x.f11, .slice B12 x.f12.length d12, .slice B13 x.f13.length d13, .slice B14 x.f14.length d14, .slice B15 x.f15.length d15, .int .u8 x.f16, .int .u8 x.f17, .int .u8 x.f18, .int .u8 x.f19, .int .u8 x.f20, .slice B21 x.f21.length d21] := ⟨_, rfl⟩
  rw [← hcs, ← hds]
  rw [← hcs] at hlen
  rw [← hds] at hlen2
  have HCS : Aside0 _ := ⟨hcs⟩
  have HDS : Aside0 _ := ⟨hds⟩
  have SM0 : SmAt w ((w.alloc (.cells cs.toArray 35)).alloc (.cells ds.toArray 35)) cs ds := ⟨by rw [heap_alloc_old _ _ (by simp)]; exact heap_alloc_new _ _, by have := heap_alloc_new (w.alloc (.cells cs.toArray 35)) (.cells ds.toArray 35); simpa using this, (Kept.alloc w _ _).trans (Kept.alloc _ _ (fun _ => False)) (fun _ _ h => h) (fun _ _ h => h)⟩
  have SM : Aside0 _ := ⟨SM0⟩
  clear SM0 hcs hds
  go_enter Tryz.func18, Tryz.ntmps18
  go_upto_region 1 with fail
  generalize ((w.alloc (.cells cs.toArray 35)).alloc (.cells ds.toArray 35)) = w1 at *
  have a0 := SM.out.ca 0 (v := .int .u8 x.f0) (by rw [HCS.out]; rfl)
  have b0 := SM.out.cb 0 (v := .int .u8 x.f0) (by rw [HDS.out]; rfl)
  have a1 := SM.out.ca 1 (v := .int .u8 x.f1) (by rw [HCS.out]; rfl)
  have b1 := SM.out.cb 1 (v := .int .u8 x.f1) (by rw [HDS.out]; rfl)
  have a2 := SM.out.ca 2 (v := .int .u16 x.f2) (by rw [HCS.out]; rfl)
  have b2 := SM.out.cb 2 (v := .int .u16 x.f2) (by rw [HDS.out]; rfl)
  have a3 := SM.out.ca 3 (v := .int .u16 x.f3) (by rw [HCS.out]; rfl)
  have b3 := SM.out.cb 3 (v := .int .u16 x.f3) (by rw [HDS.out]; rfl)
  have a4 := SM.out.ca 4 (v := .int .u16 x.f4) (by rw [HCS.out]; rfl)
  have b4 := SM.out.cb 4 (v := .int .u16 x.f4) (by rw [HDS.out]; rfl)
  have a5 := SM.out.ca 5 (v := .int .u16 x.f5) (by rw [HCS.out]; rfl)
  have b5 := SM.out.cb 5 (v := .int .u16 x.f5) (by rw [HDS.out]; rfl)
  have a6 := SM.out.ca 6 (v := .int .u16 x.f6) (by rw [HCS.out]; rfl)
  have b6 := SM.out.cb 6 (v := .int .u16 x.f6) (by rw [HDS.out]; rfl)
  have a7 := SM.out.ca 7 (v := .int .u16 x.f7) (by rw [HCS.out]; rfl)
  have b7 := SM.out.cb 7 (v := .int .u16 x.f7) (by rw [HDS.out]; rfl)
  have a8 := SM.out.ca 8 (v := .int .u16 x.f8) (by rw [HCS.out]; rfl)
  have b8 := SM.out.cb 8 (v := .int .u16 x.f8) (by rw [HDS.out]; rfl)
  have a9 := SM.out.ca 9 (v := .int .u16 x.f9) (by rw [HCS.out]; rfl)
  have b9 := SM.out.cb 9 (v := .int .u16 x.f9) (by rw [HDS.out]; rfl)
  have a10 := SM.out.ca 10 (v := .int .u16 x.f10) (by rw [HCS.out]; rfl)
  have b10 := SM.out.cb 10 (v := .int .u16 x.f10) (by rw [HDS.out]; rfl)
  have a11 := SM.out.ca 11 (v := .int .u16 x.f11) (by rw [HCS.out]; rfl)
  have b11 := SM.out.cb 11 (v := .int .u16 x.f11) (by rw [HDS.out]; rfl)
  go_upto_region 3 with fail
  clear a0 b0 a1 b1 a2 b2 a3 b3 a4 b4 a5 b5 a6 b6 a7 b7 a8 b8 a9 b9 a10 b10 a11 b11
  have a16 := SM.out.ca 16 (v := .int .u8 x.f16) (by rw [HCS.out]; rfl)
  have b16 := SM.out.cb 16 (v := .int .u8 x.f16) (by rw [HDS.out]; rfl)
  have a17 := SM.out.ca 17 (v := .int .u8 x.f17) (by rw [HCS.out]; rfl)
  have b17 := SM.out.cb 17 (v := .int .u8 x.f17) (by rw [HDS.out]; rfl)
  have a18 := SM.out.ca 18 (v := .int .u8 x.f18) (by rw [HCS.out]; rfl)
  have b18 := SM.out.cb 18 (v := .int .u8 x.f18) (by rw [HDS.out]; rfl)
  have a19 := SM.out.ca 19 (v := .int .u8 x.f19) (by rw [HCS.out]; rfl)
  have b19 := SM.out.cb 19 (v := .int .u8 x.f19) (by rw [HDS.out]; rfl)
  have a20 := SM.out.ca 20 (v := .int .u8 x.f20) (by rw [HCS.out]; rfl)
  have b20 := SM.out.cb 20 (v := .int .u8 x.f20) (by rw [HDS.out]; rfl)
  go_upto_region 5 with fail
  clear a16 b16 a17 b17 a18 b18 a19 b19 a20 b20
  have a12 := SM.out.ca 12 (v := .slice A12 x.f12.length c12) (by rw [HCS.out]; rfl)
  have b12 := SM.out.cb 12 (v := .slice B12 x.f12.length d12) (by rw [HDS.out]; rfl)
  go_upto_region 6 with (go_at_call 36; with_reducible refine (words_same (Kd.C_below g12.out SM.out.kept.toBelow) l12 (Kd.C_below e12.out SM.out.kept.toBelow) m12).mono ?_; rintro e w2 ⟨rfl, k2⟩; have SM2 : Aside0 _ := ⟨SM.out.keep k2⟩; clear k2 SM)
  clear a12 b12
  have a13 := SM2.out.ca 13 (v := .slice A13 x.f13.length c13) (by rw [HCS.out]; rfl)
  have b13 := SM2.out.cb 13 (v := .slice B13 x.f13.length d13) (by rw [HDS.out]; rfl)
  go_upto_region 7 with (go_at_call 37; with_reducible refine (bools_same (Kd.C_below g13.out SM2.out.kept.toBelow) l13 (Kd.C_below e13.out SM2.out.kept.toBelow) m13).mono ?_; rintro e w3 ⟨rfl, k2⟩; have SM3 : Aside0 _ := ⟨SM2.out.keep k2⟩; clear k2 SM2)
  clear a13 b13
  have a14 := SM3.out.ca 14 (v := .slice A14 x.f14.length c14) (by rw [HCS.out]; rfl)
  have b14 := SM3.out.cb 14 (v := .slice B14 x.f14.length d14) (by rw [HDS.out]; rfl)
  go_upto_region 8 with (go_at_call 38; with_reducible refine (bytes_same (Kd.C_below g14.out SM3.out.kept.toBelow) l14 (Kd.C_below e14.out SM3.out.kept.toBelow) m14).mono ?_; rintro e w4 ⟨rfl, k2⟩; have SM4 : Aside0 _ := ⟨SM3.out.keep k2⟩; clear k2 SM3)
  clear a14 b14
  have a15 := SM4.out.ca 15 (v := .slice A15 x.f15.length c15) (by rw [HCS.out]; rfl)
  have b15 := SM4.out.cb 15 (v := .slice B15 x.f15.length d15) (by rw [HDS.out]; rfl)
  have a21 := SM4.out.ca 21 (v := .slice A21 x.f21.length c21) (by rw [HCS.out]; rfl)
  have b21 := SM4.out.cb 21 (v := .slice B21 x.f21.length d21) (by rw [HDS.out]; rfl)
  go_wp2
  clear a15 b15 a21 b21
  go_loopg [8] x.f15.length (fun kx s8 wr => ∃ i : Nat, s8 = .int .i64 i ∧ i ≤ x.f15.length ∧ x.f15.length - i ≤ kx ∧ Aside0 (SmAt w wr cs ds))
  case atStart => exact ⟨0, rfl, Nat.zero_le _, Nat.le_refl _, SM4⟩
  case round =>
    clear SM4
    obtain ⟨i, rfl, hi, hkx, SM5⟩ := hrel
    have hbig : x.f15.length ≤ 9223372036854775807 := g15.out.2.1
    have a15 := SM5.out.ca 15 (v := .slice A15 x.f15.length c15) (by rw [HCS.out]; rfl)
    have b15 := SM5.out.cb 15 (v := .slice B15 x.f15.length d15) (by rw [HDS.out]; rfl)
    by_cases hlt : i < x.f15.length
    · have hiz : (i : Int) < (x.f15.length : Int) := by omega
      have hC := Kd.C_below g15.out SM5.out.kept.toBelow
      have hC2 := Kd.C_below e15.out SM5.out.kept.toBelow
      obtain ⟨ad, A3, c3, rfl, r0, r1, r2, r3, l3, hC3⟩ := at_T67 hC (i : Int) (by omega) hiz
      obtain ⟨bd, B3, d3, rfl, u0, u1, u2, u3, m3, hD3⟩ := at_T67 hC2 (i : Int) (by omega) hiz
      rw [Int.toNat_natCast] at r0 r1 r2 r3 u0 u1 u2 u3
      obtain ⟨y, hy⟩ : ∃ y, y = rd_T67 x.f15 (i : Int) := ⟨_, rfl⟩
      rw [← hy] at r0 r1 r2 r3 l3 hC3 u0 u1 u2 u3 m3 hD3
      clear hC hC2 hy
      have UU : Aside0 _ := ⟨And.intro u0 (And.intro u1 (And.intro u2 u3))⟩
      clear u0 u1 u2 u3
      go_upto_region 14 with fail
      have q1 : Kept wr (wr.alloc (.cells #[.int .u16 y.f0, .int .u16 y.f1, .int .u16 y.f2, .slice A3 y.f3.length c3] 67)) (fun _ => False) := Kept.alloc wr _ _
      have SM6 : Aside0 (SmAt w (wr.alloc (.cells #[.int .u16 y.f0, .int .u16 y.f1, .int .u16 y.f2, .slice A3 y.f3.length c3] 67)) cs ds) := ⟨SM5.out.keep q1⟩
      have R1 : (wr.alloc (.cells #[.int .u16 y.f0, .int .u16 y.f1, .int .u16 y.f2, .slice A3 y.f3.length c3] 67)).heap[wr.heap.size]? = some (.cells #[.int .u16 y.f0, .int .u16 y.f1, .int .u16 y.f2, .slice A3 y.f3.length c3] 67 (0, 0)) := heap_alloc_new _ _
      obtain ⟨u0, u1, u2, u3⟩ := UU.out
      replace u0 := q1.cell u0
      replace u1 := q1.cell u1
      replace u2 := q1.cell u2
      replace u3 := q1.cell u3
      replace hC3 := Kd.C_below hC3 q1.toBelow
      replace hD3 := Kd.C_below hD3 q1.toBelow
      have ZR : Aside0 (wr.heap.size < (wr.alloc (.cells #[.int .u16 y.f0, .int .u16 y.f1, .int .u16 y.f2, .slice A3 y.f3.length c3] 67)).heap.size) := ⟨by simp⟩
      clear a15 b15 q1 r0 r1 r2 r3
      generalize wr.alloc (.cells #[.int .u16 y.f0, .int .u16 y.f1, .int .u16 y.f2, .slice A3 y.f3.length c3] 67) = W1 at *
      have b15 := SM6.out.cb 15 (v := .slice (some bd) x.f15.length d15) (by rw [HDS.out]; rfl)
      go_upto_region 15 with fail
      have q1 : Kept W1 (W1.alloc (.cells #[.int .u16 y.f0, .int .u16 y.f1, .int .u16 y.f2, .slice B3 y.f3.length d3] 67)) (fun _ => False) := Kept.alloc W1 _ _
      have SM7 : Aside0 (SmAt w (W1.alloc (.cells #[.int .u16 y.f0, .int .u16 y.f1, .int .u16 y.f2, .slice B3 y.f3.length d3] 67)) cs ds) := ⟨SM6.out.keep q1⟩
      have R2 : (W1.alloc (.cells #[.int .u16 y.f0, .int .u16 y.f1, .int .u16 y.f2, .slice B3 y.f3.length d3] 67)).heap[W1.heap.size]? = some (.cells #[.int .u16 y.f0, .int .u16 y.f1, .int .u16 y.f2, .slice B3 y.f3.length d3] 67 (0, 0)) := heap_alloc_new _ _
      replace R1 := q1.heap R1 (fun h => h)
      replace hC3 := Kd.C_below hC3 q1.toBelow
      replace hD3 := Kd.C_below hD3 q1.toBelow
      clear u0 u1 u2 u3 b15 q1 SM6 SM5 UU
      generalize W1.alloc (.cells #[.int .u16 y.f0, .int .u16 y.f1, .int .u16 y.f2, .slice B3 y.f3.length d3] 67) = W2 at *
      have s0 : W2.cell? ⟨wr.heap.size, 0, none⟩ = some (.int .u16 y.f0) := by rw [cell_of_row W2 _ 0 _ 67 (0, 0) R1]; rfl
      have s1 : W2.cell? ⟨wr.heap.size, 1, none⟩ = some (.int .u16 y.f1) := by rw [cell_of_row W2 _ 1 _ 67 (0, 0) R1]; rfl
      have s2 : W2.cell? ⟨wr.heap.size, 2, none⟩ = some (.int .u16 y.f2) := by rw [cell_of_row W2 _ 2 _ 67 (0, 0) R1]; rfl
      have s3 : W2.cell? ⟨wr.heap.size, 3, none⟩ = some (.slice A3 y.f3.length c3) := by rw [cell_of_row W2 _ 3 _ 67 (0, 0) R1]; rfl
      have t0 : W2.cell? ⟨W1.heap.size, 0, none⟩ = some (.int .u16 y.f0) := by rw [cell_of_row W2 _ 0 _ 67 (0, 0) R2]; rfl
      have t1 : W2.cell? ⟨W1.heap.size, 1, none⟩ = some (.int .u16 y.f1) := by rw [cell_of_row W2 _ 1 _ 67 (0, 0) R2]; rfl
      have t2 : W2.cell? ⟨W1.heap.size, 2, none⟩ = some (.int .u16 y.f2) := by rw [cell_of_row W2 _ 2 _ 67 (0, 0) R2]; rfl
      have t3 : W2.cell? ⟨W1.heap.size, 3, none⟩ = some (.slice B3 y.f3.length d3) := by rw [cell_of_row W2 _ 3 _ 67 (0, 0) R2]; rfl
      go_upto_region 16 with (go_at_call 36; with_reducible refine (words_same hC3 l3 hD3 m3).mono ?_; rintro e w8 ⟨rfl, k2⟩; have SM8 : Aside0 _ := ⟨SM7.out.keep k2⟩; replace R1 := k2.heap R1 (fun h => h); replace R2 := k2.heap R2 (fun h => h); clear k2 SM7 hC3 hD3)
      clear s0 s1 s2 s3 t0 t1 t2 t3
      have s0 : w8.cell? ⟨wr.heap.size, 0, none⟩ = some (.int .u16 y.f0) := by rw [cell_of_row w8 _ 0 _ 67 (0, 0) R1]; rfl
      have s1 : w8.cell? ⟨wr.heap.size, 1, none⟩ = some (.int .u16 y.f1) := by rw [cell_of_row w8 _ 1 _ 67 (0, 0) R1]; rfl
      have s2 : w8.cell? ⟨wr.heap.size, 2, none⟩ = some (.int .u16 y.f2) := by rw [cell_of_row w8 _ 2 _ 67 (0, 0) R1]; rfl
      have s3 : w8.cell? ⟨wr.heap.size, 3, none⟩ = some (.slice A3 y.f3.length c3) := by rw [cell_of_row w8 _ 3 _ 67 (0, 0) R1]; rfl
      have t0 : w8.cell? ⟨W1.heap.size, 0, none⟩ = some (.int .u16 y.f0) := by rw [cell_of_row w8 _ 0 _ 67 (0, 0) R2]; rfl
      have t1 : w8.cell? ⟨W1.heap.size, 1, none⟩ = some (.int .u16 y.f1) := by rw [cell_of_row w8 _ 1 _ 67 (0, 0) R2]; rfl
      have t2 : w8.cell? ⟨W1.heap.size, 2, none⟩ = some (.int .u16 y.f2) := by rw [cell_of_row w8 _ 2 _ 67 (0, 0) R2]; rfl
      have t3 : w8.cell? ⟨W1.heap.size, 3, none⟩ = some (.slice B3 y.f3.length d3) := by rw [cell_of_row w8 _ 3 _ 67 (0, 0) R2]; rfl
      go_wp2
      go_roundg (x.f15.length - (i + 1))
      case measure => omega
      case rel => exact ⟨i + 1, by go_num, by omega, Nat.le_refl _, SM8⟩
    · have hge : ¬ ((i : Int) < (x.f15.length : Int)) := by omega
      have SM6 := SM5
      go_wp2
      clear a15 b15
      clear hbig SM5 hge hlt hkx hi
      have a21 := SM6.out.ca 21 (v := .slice A21 x.f21.length c21) (by rw [HCS.out]; rfl)
      have b21 := SM6.out.cb 21 (v := .slice B21 x.f21.length d21) (by rw [HDS.out]; rfl)
      go_wp2
      clear a21 b21
      go_loopg [12] x.f21.length (fun kx s12 wr => ∃ i : Nat, s12 = .int .i64 i ∧ i ≤ x.f21.length ∧ x.f21.length - i ≤ kx ∧ Aside0 (SmAt w wr cs ds))
      case atStart => exact ⟨0, rfl, Nat.zero_le _, Nat.le_refl _, SM6⟩
      case round =>
        clear SM6
        obtain ⟨i, rfl, hi, hkx, SM7⟩ := hrel
        have hbig : x.f21.length ≤ 9223372036854775807 := g21.out.2.1
        have a21 := SM7.out.ca 21 (v := .slice A21 x.f21.length c21) (by rw [HCS.out]; rfl)
        have b21 := SM7.out.cb 21 (v := .slice B21 x.f21.length d21) (by rw [HDS.out]; rfl)
        by_cases hlt : i < x.f21.length
        · have hiz : (i : Int) < (x.f21.length : Int) := by omega
          have hC := Kd.C_below g21.out SM7.out.kept.toBelow
          have hC2 := Kd.C_below e21.out SM7.out.kept.toBelow
          obtain ⟨ad, A1, c1, rfl, r0, r1, l1, hC1⟩ := at_T69 hC (i : Int) (by omega) hiz
          obtain ⟨bd, B1, d1, rfl, u0, u1, m1, hD1⟩ := at_T69 hC2 (i : Int) (by omega) hiz
          rw [Int.toNat_natCast] at r0 r1 u0 u1
          obtain ⟨y, hy⟩ : ∃ y, y = rd_T69 x.f21 (i : Int) := ⟨_, rfl⟩
          rw [← hy] at r0 r1 l1 hC1 u0 u1 m1 hD1
          have HC1 : Aside0 _ := ⟨hC1⟩
          have HD1 : Aside0 _ := ⟨hD1⟩
          clear hC hC2 hy hC1 hD1
          go_wp2
          go_quiet (first | (go_at_call 38; refine Calls.quiet_of ((bytes_drawn (Kd.C_drewN HC1.out _) l1 (Kd.C_drewN HD1.out _) m1).mono fun e w' ⟨he, hd⟩ => ⟨he, hd.out⟩)))
          go_wp2
          go_quiet (fail)
          go_wp2
          go_roundg (x.f21.length - (i + 1))
          case measure => omega
          case rel => exact ⟨i + 1, by go_num, by omega, Nat.le_refl _, ⟨SM7.out.keep (by repeat (first | exact Kept.refl _ _ | exact Kept.drewN _ _ _ | exact Kept.drew _ _))⟩⟩
        · have hge : ¬ ((i : Int) < (x.f21.length : Int)) := by omega
          have SM8 := SM7
          clear SM7
          go_wp2
          go_ret
          exact ⟨rfl, SM8.out.kept⟩
theorem eqA29 (d : Nat) (w : World) (x0 y0 x1 y1 : Int) :
    (Op.equalIn (d + 2) 29 (.agg #[.int .u8 x0, .int .u16 x1]) (.agg #[.int .u8 y0, .int .u16 y1])).run Tryz.prog w = .ok (x0 == y0 && (x1 == y1)) w := by
  refine eqA_of Tryz.underlying29 (by kernel_rfl) ?_
  refine eqf_cons (by rfl) (by go_simp; rfl) (by go_simp; rfl) (by go_simp) ?_
  exact eqf_last (by rfl) (by go_simp; rfl) (by go_simp; rfl) (by go_simp)
theorem eq29 (w : World) (x0 x1 : Int) : (binOp .eql 29 (.agg #[.int .u8 x0, .int .u16 x1]) (.agg #[.int .u8 x0, .int .u16 x1])).run Tryz.prog w = .ok (.bool true) w := by
  have e := eqA29 9998 w x0 x0 x1 x1
  rw [run_eql_struct, show 10000 = 9998 + 2 from rfl, e]
  simp
set_option maxHeartbeats 4000000 in
set_option maxRecDepth 1000000 in
theorem same_fr (u t : Int) (x : S35) (cs ds : List Value) (w : World) (h : k35.K w x cs) (h' : k35.K w x ds) : Calls Tryz.prog 9 #[.agg (fr u t cs).toArray, .agg (fr u t ds).toArray] w fun e w' => e = .returned (.bool true) ∧ Kept w w' (fun _ => False) := by
  have heq := fun w => eq29 w u t
  have k1 : Kept w ((w.alloc (.cells (fr u t cs).toArray 37)).alloc (.cells (fr u t ds).toArray 37)) (fun _ => False) := (Kept.alloc w _ _).trans (Kept.alloc _ _ (fun _ => False)) (fun _ _ h => h) (fun _ _ h => h)
  have B1 : ((w.alloc (.cells (fr u t cs).toArray 37)).alloc (.cells (fr u t ds).toArray 37)).heap[w.heap.size]? = some (.cells (fr u t cs).toArray 37 (0, 0)) := by rw [heap_alloc_old _ _ (by simp)]; exact heap_alloc_new _ _
  have B2 : ((w.alloc (.cells (fr u t cs).toArray 37)).alloc (.cells (fr u t ds).toArray 37)).heap[w.heap.size + 1]? = some (.cells (fr u t ds).toArray 37 (0, 0)) := by
    have := heap_alloc_new (w.alloc (.cells (fr u t cs).toArray 37)) (.cells (fr u t ds).toArray 37)
    simpa using this
  have szc : (Tryz.prog.info? 35).map (·.size) = some cs.length := by rw [k35.K_len h]; kernel_rfl
  have szd : (Tryz.prog.info? 35).map (·.size) = some ds.length := by rw [k35.K_len h']; kernel_rfl
  have ra : ((w.alloc (.cells (fr u t cs).toArray 37)).alloc (.cells (fr u t ds).toArray 37)).rangeAt w.heap.size 0 (fr u t cs) := fun j y hy => by rw [cell_of_row _ w.heap.size (0 + j) _ 37 (0, 0) B1]; simpa using hy
  have rb : ((w.alloc (.cells (fr u t cs).toArray 37)).alloc (.cells (fr u t ds).toArray 37)).rangeAt (w.heap.size + 1) 0 (fr u t ds) := fun j y hy => by rw [cell_of_row _ (w.heap.size + 1) (0 + j) _ 37 (0, 0) B2]; simpa using hy
  have hS := same_msg x cs ds _ (k35.K_below k1.toBelow h) (k35.K_below k1.toBelow h')
  clear h h' B1 B2
  go_enter Tryz.func9, Tryz.ntmps9
  go_upto_region 1 with fail
  generalize ((w.alloc (.cells (fr u t cs).toArray 37)).alloc (.cells (fr u t ds).toArray 37)) = w1 at *
  have a0 : w1.cell? ⟨w.heap.size, 0, none⟩ = some (.int .u8 u) := ra 0 _ rfl
  have a1 : w1.cell? ⟨w.heap.size, 1, none⟩ = some (.int .u16 t) := ra 1 _ rfl
  have b0 : w1.cell? ⟨w.heap.size + 1, 0, none⟩ = some (.int .u8 u) := rb 0 _ rfl
  have b1 : w1.cell? ⟨w.heap.size + 1, 1, none⟩ = some (.int .u16 t) := rb 1 _ rfl
  have am : w1.rangeAt w.heap.size 2 cs := fun j y hy => by have := ra (2 + j) y (by rw [Nat.add_comm]; exact hy); rwa [Nat.zero_add] at this
  have bm : w1.rangeAt (w.heap.size + 1) 2 ds := fun j y hy => by have := rb (2 + j) y (by rw [Nat.add_comm]; exact hy); rwa [Nat.zero_add] at this
  clear ra rb
  go_wp2_with (first
    | (refine gate_guard (by rfl) ?_; dsimp only; refine wpList_load_mid rfl 35 (.tmp 11) rfl w.heap.size 2 rfl cs _ am Tryz.underlying35 rfl szc ?_)
    | (refine gate_guard (by rfl) ?_; dsimp only; refine wpList_load_mid rfl 35 (.tmp 13) rfl (w.heap.size + 1) 2 rfl ds _ bm Tryz.underlying35 rfl szd ?_)
    | (go_at_call 18; with_reducible refine hS.mono ?_; rintro e w2 ⟨rfl, k2⟩; clear hS))
  go_ret
  exact ⟨rfl, k1.trans k2 (fun _ _ h => h) (fun _ _ h => h)⟩
end Go.Proofs.YtmbjlondehcheaaGreatDoor
end
section
set_option linter.unusedSimpArgs false
set_option linter.unusedVariables false
namespace Go.Proofs.YtmbjlondehcheaaGreatDoor
open Go.Shelf Go.RowKit Go.Lib Go.Sort Go.Proofs.YtmbjlondehcheaaGreatDoorW.PrintWords Go.Proofs.YtmbjlondehcheaaGreatDoorW.PrintLast Go.Proofs.YtmbjlondehcheaaGreatDoor.PTopTalk
abbrev ReqE (x : S35) (p : List Int) : Prop := x.f0 ∈ publicL ∧ x.f1 = 0 ∧ 0 < p.length ∧ p.length ≤ 253
theorem codec_G {x : S35} {n m : FuncId} (h : Codec x n m) (h1 : x.f1 = 0) (hc : x.f0 ∈ publicL) : PdG 0 x True (ReqE x) := by
  intro w cs hK
  obtain ⟨P, hW, hP, hH, en, em⟩ := h
  have hb := public_le hc
  refine (pduW_some w x cs hK h1 Oct P hH em hW).mono fun r w' ⟨k, hr⟩ => ⟨k, ?_⟩
  rcases hr with ⟨-, rfl⟩ | ⟨v, b, rfl, hB, hbl, hPb, hO⟩
  · exact ⟨none, 0, 0, 1, rfl, .inl ⟨trivial, rfl, rfl, rfl, rfl⟩⟩
  · obtain ⟨A, c, rfl, -⟩ := hB.len
    refine ⟨A, (x.f0 :: b).length, c, 0, rfl, .inr ⟨rfl, x.f0 :: b, rfl, hB, parsed_code 0 (.inl rfl) x.f0 b x (by omega) (by omega) hbl hH en (fun W u hu => ?_), fun a ha => ?_, hc, h1, by simp, by simp; omega⟩⟩
    · have := hP b hO W u hu (by omega)
      rw [hPb] at this
      exact this
    · rcases List.mem_cons.1 ha with rfl | ha
      · omega
      · exact hO a ha
theorem request_G {x : S35} (h : Small x) (hf : x.f0 = 20 ∨ x.f0 = 21 → Codec x 127 128) : PdG 0 x True (ReqE x) := by
  by_cases h1 : x.f1 = 0
  · by_cases hc : x.f0 ∈ publicL
    · have hc2 := hc
      simp only [publicL, List.mem_cons, List.not_mem_nil, or_false] at hc2
      have hcod : ∃ n m, Codec x n m := by
        rcases hc2 with e | e | e | e | e | e | e | e | e | e | e | e | e | e | e | e | e | e | e <;>
          first | exact ⟨_, _, coils_codec h (by omega)⟩ | exact ⟨_, _, regs_codec h (by omega)⟩ | exact ⟨_, _, diag_codec h (by omega)⟩ | exact ⟨_, _, hf (by omega)⟩ | exact ⟨_, _, mei_codec h (by omega)⟩
      obtain ⟨n, m, hcd⟩ := hcod
      exact codec_G hcd h1 hc
    · intro w cs hK
      exact (pduW_none w x cs hK h1 (pof_public hc) Oct (fun _ => (x, 1))).mono fun r w' ⟨k, hr⟩ => ⟨k, by
        rcases hr with hr | ⟨v, b, _, _, _, hP, _⟩
        · exact ⟨none, 0, 0, 1, hr.2, .inl ⟨trivial, rfl, rfl, rfl, rfl⟩⟩
        · exact absurd (congrArg Prod.snd hP) (by simp)⟩
  · intro w cs hK
    exact (pduW_fail w x cs hK h1 Oct (fun _ => (x, 1))).mono fun r w' ⟨k, hr⟩ => ⟨k, by
      rcases hr with hr | ⟨v, b, _, _, _, hP, _⟩
      · exact ⟨none, 0, 0, 1, hr.2, .inl ⟨trivial, rfl, rfl, rfl, rfl⟩⟩
      · exact absurd (congrArg Prod.snd hP) (by simp)⟩
structure Fram (k : Int) (ty T : Nat) (cs : Int → Array Value) (B : Int → Int → List Int → List Int) (ok : Int → Int → Prop) : Prop where
  is : k = 0 ∨ k = 1 ∨ k = 2
  t52 : T ≠ 52
  new : ∀ dir : Int, dir = 0 ∨ dir = 1 → ∀ w : World, Calls Tryz.prog 14 #[.int .i64 k, .int .i64 dir] w fun r w' => ∃ stb sb, r = .returned (.pointer (some ⟨stb, 0, none⟩)) ∧ StrI ty T (cs dir) w' stb sb ∧ w.heap.size ≤ sb ∧ w.heap.size ≤ stb ∧ stb ≠ sb ∧ Kept w w' (fun _ => False)
  write : ∀ (dir u t : Int) (x : S35) (may : Prop) (E : List Int → Prop), ok u t → PdG dir x may E → ∀ (w : World) (ds : List Value), k35.K w x ds → Calls Tryz.prog 7 #[.int .i64 k, .int .i64 dir, .agg (fr u t ds).toArray] w fun r w' =>
    Kept w w' (fun _ => False) ∧ ∃ A n c e0, r = .returned (.tuple #[.slice A n c, .int .i64 e0]) ∧ ((may ∧ e0 = 1 ∧ A = none ∧ n = 0 ∧ c = 0) ∨ e0 = 0 ∧ ∃ p : List Int, (B u t p).length = n ∧ (By w' (.slice A n c) (B u t p) ∧ ∀ ad : Addr, A = some ad → w.heap.size ≤ ad.block) ∧ Parsed dir p x ∧ Oct p ∧ E p)
  take : ∀ (dir u t : Int) (x : S35) (p : List Int), dir = 0 ∨ dir = 1 → ok u t → Parsed dir p x → Oct p → 0 < p.length → p.length ≤ 253 → ∀ (w : World) (stb sb : Nat), StrI ty T (cs dir) w stb sb → stb ≠ sb → ∀ (A : Option Addr) (n c : Nat), By w (.slice A n c) (B u t p) → (∀ ad, A = some ad → ad.block ≠ sb) →
    Calls Tryz.prog 16 #[(.pointer (some ⟨stb, 0, none⟩)), .agg #[.slice A n c, .bool true]] w fun r w' => Piece w w' r u t x (fun b => b = sb) ∧ StrI ty T (cs dir) w' stb sb
theorem fram0 : Fram 0 99 143 cs0 rtuB (fun u t => 0 < u ∧ u < 256 ∧ t = 0) where
  is := .inl rfl
  t52 := by decide
  new := fun dir h w => strNew0 h w
  write := fun dir u t x may E hok h w ds hK => by
    obtain ⟨-, -, rfl⟩ := hok
    exact aduW0 (rtuW_calls h) w ds hK
  take := fun dir u t x p hd hok hP hO h0 h1 w stb sb hI hn A n c hB hA => by
    obtain ⟨-, -, rfl⟩ := hok
    exact strTake0 (rtuP_calls hd hP) h1 w stb sb hI hn _ hB
theorem fram2 : Fram 2 107 147 cs2 mbapB (fun u t => 0 < u ∧ u < 256 ∧ 0 ≤ t ∧ t < 65536) where
  is := .inr (.inr rfl)
  t52 := by decide
  new := fun dir h w => strNew2 h w
  write := fun dir u t x may E hok h w ds hK => aduW2 (mbapW_calls h) w ds hK
  take := fun dir u t x p hd hok hP hO h0 h1 w stb sb hI hn A n c hB hA => by
    obtain ⟨-, -, ht⟩ := hok
    exact strTake2 (fun W b hs v hB hv => smbapFeed (mbapP_calls hd ht hP) ⟨h0, h1⟩ W b hs v hB hv) w stb sb hI hn _ hB (fun A' n' c' ad e h => by injection e with e1; exact hA ad (e1 ▸ h)) true
theorem fram1 : Fram 1 105 145 cs1 ascB (fun u t => 0 < u ∧ u < 256 ∧ t = 0) where
  is := .inr (.inl rfl)
  t52 := by decide
  new := fun dir h w => strNew1 h w
  write := fun dir u t x may E hok h w ds hK => by
    obtain ⟨h1, h2, rfl⟩ := hok
    exact aduW1 (ascW_calls ⟨by omega, h2⟩ h) w ds hK
  take := fun dir u t x p hd hok hP hO h0 h1 w stb sb hI hn A n c hB hA => by
    obtain ⟨hu0, hu, rfl⟩ := hok
    have hl := ascB_len u 0 p
    have ho : Oct (u :: p ++ [lrcL (u :: p)]) := fun y hy => by
      rcases List.mem_append.1 hy with hy | hy
      · rcases List.mem_cons.1 hy with rfl | hy
        · omega
        · exact hO y hy
      · rw [List.mem_singleton.1 hy]; exact lrcL_oct _
    have hoL : Oct (ascB u 0 p) := fun y hy => by
      rcases List.mem_append.1 hy with hy | hy
      · rcases List.mem_cons.1 hy with rfl | hy
        · omega
        · exact hexL_oct _ ho y hy
      · simp at hy; omega
    have hE : 2 < (ascB u 0 p).length ∧ (ascB u 0 p).drop ((ascB u 0 p).length - 2) = [13, 10] := ⟨by omega, by
      have e : (ascB u 0 p).length - 2 = (58 :: hexL (u :: p ++ [lrcL (u :: p)])).length := by rw [hl]; simp [hexL, HHexa.hexL_length]; omega
      rw [e]; unfold ascB; rw [List.drop_left]⟩
    exact strTake1 (fun W b hs v hB hv => sascFeed (ascP_calls hd ⟨by omega, hu⟩ hO hP) (fun j y h => line_at _ (hexL_no _ ho) j y h) hE hoL (by omega) W b hs v hB hv) w stb sb hI hn _ hB (fun A' n' c' ad e h => by injection e with e1; exact hA ad (e1 ▸ h)) true
end Go.Proofs.YtmbjlondehcheaaGreatDoor
end
section
set_option linter.unusedSimpArgs false
set_option linter.unusedVariables false
namespace Go.Proofs.YtmbjlondehcheaaGreatDoor
open Go.Shelf Go.RowKit Go.Lib Go.Sort Go.Proofs.YtmbjlondehcheaaGreatDoorW.PrintWords Go.Proofs.YtmbjlondehcheaaGreatDoorW.PrintLast Go.Proofs.YtmbjlondehcheaaGreatDoor.PTopTalk
theorem wpList_load_addr {ops : Array Oper} {rest : List Oper} {op : Oper} {a : Act} {w : World} {Q : Exit → Act → World → Prop} (hgd : op.guard = none) (ty : TypeId) (x : Operand) (ho : op.op = .load ty x)
    (a0 : Addr) (hx : a.eval x = .pointer (some a0)) (cs : List Value) (d : TypeDesc) (hc : ∀ j v, cs[j]? = some v → w.cell? (a0.add j) = some v)
    (hu : Tryz.prog.underlying ty = some d) (hd : d.isRow = true) (hi : (Tryz.prog.info? ty).map (·.size) = some cs.length)
    (h : wpList Tryz.prog ops Q rest (a.put op.dst (.agg cs.toArray)) w) : wpList Tryz.prog ops Q (op :: rest) a w := by
  have hl : (loadCells a0 cs.length).run Tryz.prog w = .ok cs.toArray w := run_loadCells_list (P := Tryz.prog) w a0 cs hc
  have hr : (loadVar ty a0).run Tryz.prog w = .ok (.agg cs.toArray) w := by
    cases hq : Tryz.prog.info? ty with
    | none => simp [hq] at hi
    | some i =>
      have hs : i.size = cs.length := by simpa [hq] using hi
      have hagg : (isAgg ty).run Tryz.prog w = .ok true w := by
        unfold isAgg
        rw [Sem.run_bind, run_underlying hu w]
        cases d <;> simp_all
      simp [loadVar, Sem.run_bind, hagg, sizeOf, typeInfo, hq, hs, hl]
  refine wpList_plain hgd fun _ hK => ?_
  unfold Oper.wp execOp
  simp only [ho, hx, Instr.loadAt, Instr.sureAddr, Sem.run_bind, Sem.run_pure, Result.andThen_ok, hr]
  exact hK _ _ h
theorem addr_aa (a : Addr) (m n : Nat) : (a.add m).add n = a.add (m + n) := by
  unfold Addr.add
  by_cases hm : m = 0 <;> by_cases hn : n = 0 <;> simp [hm, hn, Nat.add_assoc]
theorem at_frm {w : World} {A : Option Addr} {l : List S37} (h : Kd.C k37 w A l.length l) {i : Nat} (hi : i < l.length) :
    ∃ ad ms, A = some ad ∧ k35.K w (l[i]).f1 ms ∧ ∀ j v, (fr (l[i]).f0.f0 (l[i]).f0.f1 ms)[j]? = some v → w.cell? ((ad.add (i * 24)).add j) = some v := by
  obtain ⟨ad, c, rfl, hl, hK, hc⟩ := Kd.C_get h z37 i (by omega) (by omega)
  have e : l.getD (i : Int).toNat z37 = l[i] := by simp [List.getD, hi]
  rw [e] at hK
  obtain ⟨c0, cs, rfl, h0, h1⟩ := hK
  have h0' := k29_open h0
  subst h0'
  have hz : k37.sz = 24 := by kernel_rfl
  rw [hz, Int.toNat_natCast] at hc
  refine ⟨ad, cs, rfl, h1, fun j v hv => ?_⟩
  rw [addr_aa]
  exact hc j v hv
theorem few_res {x : S35} {e : Ending} (h : e = .returned (.bool false) ∨ e = .returned (.bool true) ∧ FewP x) : ∃ bb : Bool, e = .returned (.bool bb) ∧ (bb = true → FewP x) := by
  rcases h with rfl | ⟨rfl, h⟩
  · exact ⟨false, rfl, fun h => by cases h⟩
  · exact ⟨true, rfl, fun _ => h⟩
theorem rem200 (n : Int) (h : 0 ≤ n ∧ n < 256) : ∃ m : Int, n.tmod 200 = m ∧ 0 ≤ m ∧ m < 200 := ⟨_, rfl, Int.tmod_nonneg 200 h.1, Int.tmod_lt_of_pos n (by decide)⟩
theorem rem9 (n : Int) (h : 0 ≤ n ∧ n < 256) : ∃ m : Nat, n.tmod 9 = m ∧ m < 9 := ⟨(n.tmod 9).toNat, by have := Int.tmod_nonneg 9 h.1; omega, by have := Int.tmod_lt_of_pos n (show (0 : Int) < 9 by decide); omega⟩
theorem ansG (c f : Int) (hf : f ∈ failureL) : PdG 1 (ref35 c f) (¬ c ∈ publicL) (fun p => p.length = 2) := by
  by_cases hc : c ∈ publicL
  · exact fun w cs hK => (refG hc hf w cs hK).mono fun r w' ⟨k, A, n, c', e0, e, h⟩ => ⟨k, A, n, c', e0, e, h.imp (fun h => h.1.elim) (fun ⟨h0, p, h1, h2, h3, h4, h5⟩ => ⟨h0, p, h1, h2, h3, h4, by rw [h5]; rfl⟩)⟩
  · exact fun w cs hK => (refG_no hc (by have := failure_le hf; omega) w cs hK).mono fun r w' ⟨k, A, n, c', e0, e, h⟩ => ⟨k, A, n, c', e0, e, h.imp (fun h => ⟨hc, h.2⟩) (fun ⟨h0, p, h1, h2, h3, h4, h5⟩ => h5.elim)⟩
structure WfM (x : S35) : Prop where
  c0 : 0 ≤ x.f0 ∧ x.f0 < 256
  c1 : 0 ≤ x.f1 ∧ x.f1 < 256
  c16 : 0 ≤ x.f16 ∧ x.f16 < 256
  c17 : 0 ≤ x.f17 ∧ x.f17 < 256
  c18 : 0 ≤ x.f18 ∧ x.f18 < 256
  c19 : 0 ≤ x.f19 ∧ x.f19 < 256
  c20 : 0 ≤ x.f20 ∧ x.f20 < 256
  oct : Oct x.f14
theorem few_mem {x : S35} (h : FewP x) : ∀ r ∈ x.f15, r.f3.length ≤ 200 := fun r hr => by
  obtain ⟨i, hi, rfl⟩ := List.getElem_of_mem hr
  exact h.r15 i hi
theorem reqG {x : S35} (hw : WfM x) (h : FewP x) : PdG 0 x True (ReqE x) := by
  have hf : Fit x := ⟨hw.c0, hw.c1, hw.c16, hw.c17, hw.c18, hw.c19, hw.c20, hw.oct, by have := h.l12; omega, by have := h.l13; omega, by have := h.l15; omega, fun r hr => by have := few_mem h r hr; omega⟩
  have hs : Small x := ⟨hf, by have := h.l12; omega, by have := h.l14; omega⟩
  exact request_G hs fun hc => files_codec hs hc (by have := h.l15; omega) (fun r hr => by have := few_mem h r hr; omega)
theorem step_ask (net : Bool) (all : Nat) (f : Fr) (hu : ¬ f.u = 0) : step net [] all 0 f = ([⟨0, f, fr0⟩], [⟨all, f⟩], all + 1) := by
  unfold step ask; cases net <;> simp [hu]
theorem step_ans (net : Bool) (a : Int) (f g : Fr) (all : Nat) (hu : g.u = f.u) (ht : g.t = f.t) (hc : g.c = f.c) : step net [⟨a, f⟩] all 1 g = ([⟨4, f, g⟩], [], all) := by
  unfold step ans hdOf hd; cases net <;> simp [hu, ht, hc]
theorem InspI.kept0 {ty T : Nat} {cs : Int → Array Value} {net : Bool} {w w' : World} {ib s0 b0 s1 b1 pb : Nat} {F : Nat → Prop} {L : List Ent} {all : Nat} {n : Int} (h : InspI ty T cs net w ib s0 b0 s1 b1 pb F L all n) (k : Kept w w' (fun _ => False)) : InspI ty T cs net w' ib s0 b0 s1 b1 pb F L all n :=
  ⟨k.heap h.box (fun h => h), h.i0.kept k (fun h => h) (fun h => h), h.i1.kept k (fun h => h) (fun h => h), h.own.kept k (fun _ _ h => h), h.n0, h.ni, h.nf⟩
theorem nrow_27 {n dir u t : Int} {ds : List Value} (h : ds.toArray.size = 22) (v : Value) : (nrow n dir u t ds v)[27]? = some v := by
  have h' : ds.length = 22 := by simpa using h
  obtain ⟨d0, d1, d2, d3, d4, d5, d6, d7, d8, d9, d10, d11, d12, d13, d14, d15, d16, d17, d18, d19, d20, d21, rfl⟩ := list22 ds h'
  rfl
structure TalkAt (ty T : Nat) (cs : Int → Array Value) (net : Bool) (w wr : World) (ib s0 b0 s1 b1 pb i : Nat) : Prop where
  out : ∃ F all n, InspI ty T cs net wr ib s0 b0 s1 b1 pb F [] all ((n : Nat) : Int) ∧ all ≤ i ∧ n ≤ 2 * i ∧ (∀ b, F b → w.heap.size ≤ b)
  new : w.heap.size ≤ ib ∧ w.heap.size ≤ b0 ∧ w.heap.size ≤ b1
  kept : Kept w wr (fun _ => False)
theorem TalkAt.next {ty T : Nat} {cs : Int → Array Value} {net : Bool} {w wr w' : World} {ib s0 b0 s1 b1 pb i : Nat} (h : TalkAt ty T cs net w wr ib s0 b0 s1 b1 pb i) (k : Kept wr w' (fun _ => False)) : TalkAt ty T cs net w w' ib s0 b0 s1 b1 pb (i + 1) := by
  obtain ⟨F, all, n, hI, h1, h2, h3⟩ := h.out
  exact ⟨⟨F, all, n, hI.kept0 k, by omega, by omega, h3⟩, h.new, h.kept.trans k (fun _ _ h => h) (fun _ _ h => h)⟩
theorem two_notes {ty T : Nat} {cs : Int → Array Value} {net : Bool} {w5 w6 w7 : World} {ib s0 b0 s1 b1 pb g1 g2 m1 : Nat} {F F1 F2 : Nat → Prop} {L : List Ent} {all a1 : Nat} {n n1 nb u t : Int} {x y : S35} {ds1 ds2 : List Value} {f gf : Fr} {vn1 vn2 : Value} {L1 : List Ent}
    (hI : InspI ty T cs net w5 ib s0 b0 s1 b1 pb F L all n) (hT52 : T ≠ 52) (hI6 : InspI ty T cs net w6 ib s0 b0 s1 b1 pb F1 L1 a1 n1) (hr1 : w6.rangeAt g1 0 (nrow n 0 u t ds1 vn1)) (hg1 : w5.heap.size ≤ g1) (hgF1 : ¬ F1 g1) (hR1 : Res w6 F1 vn1 [⟨0, f, fr0⟩]) (hF1 : ∀ b, F1 b → F b ∨ m1 ≤ b)
    (hK1 : ∀ W, Kept w6 W (fun b => b < w5.heap.size ∨ m1 ≤ b) → k35.K W x ds1) (k7 : Kept w6 w7 (fun b => b = b1 ∨ b = ib ∨ F1 b)) (hr2 : w7.rangeAt g2 0 (nrow nb 1 u t ds2 vn2)) (hR2 : Res w7 F2 vn2 [⟨4, f, gf⟩]) (hK2 : k35.K w7 y ds2) :
    ∃ vg1 ca vg2 cb, vn1 = .slice (some ⟨vg1, 0, none⟩) 1 ca ∧ vn2 = .slice (some ⟨vg2, 0, none⟩) 1 cb ∧ w7.cell? ⟨g1, 27, none⟩ = some vn1 ∧ w7.cell? ⟨g2, 27, none⟩ = some vn2 ∧ w7.cell? ⟨vg1, 0, none⟩ = some (.int .i64 0) ∧ w7.cell? ⟨vg2, 0, none⟩ = some (.int .i64 4) ∧
      w7.rangeAt vg2 1 f.cs ∧ w7.rangeAt vg2 25 gf.cs ∧ k35.K w7 x ds1 := by
  have hb1 := heap_lt hI.i1.str
  have hib := heap_lt hI.box
  have hFl : ∀ b, F b → b < w5.heap.size := fun b => hI.own.lt
  have hds1 := cons35 (hK1 w6 (Kept.refl _ _))
  have hds2 := cons35 hK2
  have hR1' : Res w7 F1 vn1 [⟨0, f, fr0⟩] := hR1.kept k7 (fun g hg h => by
    obtain ⟨c, hc⟩ := hR1.ty hg
    rcases h with rfl | rfl | h
    · rw [hI6.i1.str] at hc; injection hc with hc; injection hc with _ h2 _; exact hT52 h2
    · rw [hI6.box] at hc; injection hc with hc; injection hc with _ h2 _; exact absurd h2 (by decide)
    · exact hR1.apart g hg h) (fun b hb => .inl hb)
  obtain ⟨vg1, ca, e1, -, c1⟩ := hR1'.one
  obtain ⟨vg2, cb, e2, -, c2⟩ := hR2.one
  refine ⟨vg1, ca, vg2, cb, e1, e2, ?_, ?_, c1 0 _ rfl, c2 0 _ rfl, fun j v hv => c2 (1 + j) v ?_, fun j v hv => c2 (25 + j) v ?_, hK1 w7 (k7.mono fun b hb h => ?_)⟩
  · have := hr1 27 _ (nrow_27 hds1 vn1)
    rw [Nat.zero_add] at this
    exact k7.cellN (fun h => by rcases h with h | h | h <;> first | exact hgF1 h | (have h : g1 = _ := h; omega)) this
  · have := hr2 27 _ (nrow_27 hds2 vn2)
    rwa [Nat.zero_add] at this
  · have hj := (List.getElem?_eq_some_iff.1 hv).1
    rw [Nat.add_comm]
    show (f.cs ++ gf.cs)[j]? = some v
    rw [List.getElem?_append_left hj]; exact hv
  · rw [show 25 + j = (24 + j) + 1 by omega]
    show (f.cs ++ gf.cs)[24 + j]? = some v
    rw [List.getElem?_append_right (by rw [Fr.len]; omega), Fr.len, Nat.add_sub_cancel_left]; exact hv
  · rcases h with h | h | h
    · left; omega
    · left; omega
    · rcases hF1 b h with h | h
      · exact .inl (hFl b h)
      · exact .inr h
end Go.Proofs.YtmbjlondehcheaaGreatDoor
end
