/- Proves nothing by itself but how the Go functions of the claim PFW run: each call comes to what the plain Lean function of the same name tells, where that tells anything. Written by wip/inject.py, a program of this session. -/
import Derived.Test.YtmbjlondehcheaaPFWx0
namespace Go.Proofs.Ytmbjlondehcheaa.PFW
open Go.RowKit Go.Proofs.YtmbjlondehcheaaW.PrintWords Go.Proofs.YtmbjlondehcheaaW.PrintLast Go.Proofs.YtmbjlondehcheaaW.PrintMore
attribute [local go_sem] max2_int min2_int max_two min_two max_three min_three max_four min_four   -- for this text's walks alone
set_option linter.unusedVariables false
set_option linter.unusedSimpArgs false

/-! ### busbarref07_Few: function 18 -/
mutual
def busbarref07_Few.j0 : Nat → Bool → Int → Int → Int → Int → Int → Int → Int → Int → Int → Int → Int → Int → List Int → List Bool → List Int → List (S82) → Int → Int → Int → Int → Int → List (S84) → Option (Bool)
  | 0, _, _, _, _, _, _, _, _, _, _, _, _, _, _, _, _, _, _, _, _, _, _, _ => none
  | k + 1, x32, x104000, x104001, x104002, x104003, x104004, x104005, x104006, x104007, x104008, x104009, x104010, x104011, x104012, x104013, x104014, x104015, x104016, x104017, x104018, x104019, x104020, x104021 => if x32 = true then (some false) else (busbarref07_Few.l0 k 0 x104000 x104001 x104002 x104003 x104004 x104005 x104006 x104007 x104008 x104009 x104010 x104011 x104012 x104013 x104014 x104015 x104016 x104017 x104018 x104019 x104020 x104021)
def busbarref07_Few.l0 : Nat → Int → Int → Int → Int → Int → Int → Int → Int → Int → Int → Int → Int → Int → List Int → List Bool → List Int → List (S82) → Int → Int → Int → Int → Int → List (S84) → Option (Bool)
  | 0, _, _, _, _, _, _, _, _, _, _, _, _, _, _, _, _, _, _, _, _, _, _, _ => none
  | k + 1, x3, x104000, x104001, x104002, x104003, x104004, x104005, x104006, x104007, x104008, x104009, x104010, x104011, x104012, x104013, x104014, x104015, x104016, x104017, x104018, x104019, x104020, x104021 => if x3 < (x104015.length : Int) then (if 0 ≤ x3 then (if (((rd_T82 x104015 x3).f3).length : Int) > 200 then (some false) else (busbarref07_Few.l0 k (wrap64 (x3 + 1)) x104000 x104001 x104002 x104003 x104004 x104005 x104006 x104007 x104008 x104009 x104010 x104011 x104012 x104013 x104014 x104015 x104016 x104017 x104018 x104019 x104020 x104021)) else (none)) else (busbarref07_Few.l1 k 0 x104000 x104001 x104002 x104003 x104004 x104005 x104006 x104007 x104008 x104009 x104010 x104011 x104012 x104013 x104014 x104015 x104016 x104017 x104018 x104019 x104020 x104021)
def busbarref07_Few.l1 : Nat → Int → Int → Int → Int → Int → Int → Int → Int → Int → Int → Int → Int → Int → List Int → List Bool → List Int → List (S82) → Int → Int → Int → Int → Int → List (S84) → Option (Bool)
  | 0, _, _, _, _, _, _, _, _, _, _, _, _, _, _, _, _, _, _, _, _, _, _, _ => none
  | k + 1, x4, x104000, x104001, x104002, x104003, x104004, x104005, x104006, x104007, x104008, x104009, x104010, x104011, x104012, x104013, x104014, x104015, x104016, x104017, x104018, x104019, x104020, x104021 => if x4 < (x104021.length : Int) then (if 0 ≤ x4 then (if (((rd_T84 x104021 x4).f1).length : Int) > 300 then (some false) else (busbarref07_Few.l1 k (wrap64 (x4 + 1)) x104000 x104001 x104002 x104003 x104004 x104005 x104006 x104007 x104008 x104009 x104010 x104011 x104012 x104013 x104014 x104015 x104016 x104017 x104018 x104019 x104020 x104021)) else (none)) else (some true)
end
def busbarref07_Few.f (k : Nat) (a0_0 : Int) (a0_1 : Int) (a0_2 : Int) (a0_3 : Int) (a0_4 : Int) (a0_5 : Int) (a0_6 : Int) (a0_7 : Int) (a0_8 : Int) (a0_9 : Int) (a0_10 : Int) (a0_11 : Int) (l0_12 : List Int) (l0_13 : List Bool) (l0_14 : List Int) (l0_15 : List (S82)) (a0_16 : Int) (a0_17 : Int) (a0_18 : Int) (a0_19 : Int) (a0_20 : Int) (l0_21 : List (S84)) : Option (Bool) := if (l0_12.length : Int) > 300 then (busbarref07_Few.j0 k true a0_0 a0_1 a0_2 a0_3 a0_4 a0_5 a0_6 a0_7 a0_8 a0_9 a0_10 a0_11 l0_12 l0_13 l0_14 l0_15 a0_16 a0_17 a0_18 a0_19 a0_20 l0_21) else (if (l0_13.length : Int) > 2500 then (busbarref07_Few.j0 k true a0_0 a0_1 a0_2 a0_3 a0_4 a0_5 a0_6 a0_7 a0_8 a0_9 a0_10 a0_11 l0_12 l0_13 l0_14 l0_15 a0_16 a0_17 a0_18 a0_19 a0_20 l0_21) else (if (l0_14.length : Int) > 300 then (busbarref07_Few.j0 k true a0_0 a0_1 a0_2 a0_3 a0_4 a0_5 a0_6 a0_7 a0_8 a0_9 a0_10 a0_11 l0_12 l0_13 l0_14 l0_15 a0_16 a0_17 a0_18 a0_19 a0_20 l0_21) else (if (l0_15.length : Int) > 50 then (busbarref07_Few.j0 k true a0_0 a0_1 a0_2 a0_3 a0_4 a0_5 a0_6 a0_7 a0_8 a0_9 a0_10 a0_11 l0_12 l0_13 l0_14 l0_15 a0_16 a0_17 a0_18 a0_19 a0_20 l0_21) else (busbarref07_Few.j0 k (decide ((l0_21.length : Int) > 100)) a0_0 a0_1 a0_2 a0_3 a0_4 a0_5 a0_6 a0_7 a0_8 a0_9 a0_10 a0_11 l0_12 l0_13 l0_14 l0_15 a0_16 a0_17 a0_18 a0_19 a0_20 l0_21))))
theorem busbarref07_Few.mono_l : ∀ k, (∀ y0 y1 y2 y3 y4 y5 y6 y7 y8 y9 y10 y11 y12 y13 y14 y15 y16 y17 y18 y19 y20 y21 y22, LeO (busbarref07_Few.j0 k y0 y1 y2 y3 y4 y5 y6 y7 y8 y9 y10 y11 y12 y13 y14 y15 y16 y17 y18 y19 y20 y21 y22) (busbarref07_Few.j0 (k + 1) y0 y1 y2 y3 y4 y5 y6 y7 y8 y9 y10 y11 y12 y13 y14 y15 y16 y17 y18 y19 y20 y21 y22)) ∧ (∀ y0 y1 y2 y3 y4 y5 y6 y7 y8 y9 y10 y11 y12 y13 y14 y15 y16 y17 y18 y19 y20 y21 y22, LeO (busbarref07_Few.l0 k y0 y1 y2 y3 y4 y5 y6 y7 y8 y9 y10 y11 y12 y13 y14 y15 y16 y17 y18 y19 y20 y21 y22) (busbarref07_Few.l0 (k + 1) y0 y1 y2 y3 y4 y5 y6 y7 y8 y9 y10 y11 y12 y13 y14 y15 y16 y17 y18 y19 y20 y21 y22)) ∧ (∀ y0 y1 y2 y3 y4 y5 y6 y7 y8 y9 y10 y11 y12 y13 y14 y15 y16 y17 y18 y19 y20 y21 y22, LeO (busbarref07_Few.l1 k y0 y1 y2 y3 y4 y5 y6 y7 y8 y9 y10 y11 y12 y13 y14 y15 y16 y17 y18 y19 y20 y21 y22) (busbarref07_Few.l1 (k + 1) y0 y1 y2 y3 y4 y5 y6 y7 y8 y9 y10 y11 y12 y13 y14 y15 y16 y17 y18 y19 y20 y21 y22))
  | 0 => ⟨fun _ _ _ _ _ _ _ _ _ _ _ _ _ _ _ _ _ _ _ _ _ _ _ r h => by simp [busbarref07_Few.j0] at h, fun _ _ _ _ _ _ _ _ _ _ _ _ _ _ _ _ _ _ _ _ _ _ _ r h => by simp [busbarref07_Few.l0] at h, fun _ _ _ _ _ _ _ _ _ _ _ _ _ _ _ _ _ _ _ _ _ _ _ r h => by simp [busbarref07_Few.l1] at h⟩
  | k + 1 => by
    obtain ⟨ih0, ih1, ih2⟩ := busbarref07_Few.mono_l k
    refine ⟨?_, ?_, ?_⟩
    · intro y0 y1 y2 y3 y4 y5 y6 y7 y8 y9 y10 y11 y12 y13 y14 y15 y16 y17 y18 y19 y20 y21 y22
      unfold busbarref07_Few.j0
      repeat' first
      | (with_reducible exact ih0 _ _ _ _ _ _ _ _ _ _ _ _ _ _ _ _ _ _ _ _ _ _ _)
      | (with_reducible exact ih1 _ _ _ _ _ _ _ _ _ _ _ _ _ _ _ _ _ _ _ _ _ _ _)
      | (with_reducible exact ih2 _ _ _ _ _ _ _ _ _ _ _ _ _ _ _ _ _ _ _ _ _ _ _)
      | (with_reducible exact LeO.refl _)
      | (with_reducible exact LeO.none _)
      | (with_reducible refine LeO.ite ?_ ?_)
      | (with_reducible refine LeO.bind ?_ (fun _ => ?_))
      | exact ih0 _ _ _ _ _ _ _ _ _ _ _ _ _ _ _ _ _ _ _ _ _ _ _
      | exact ih1 _ _ _ _ _ _ _ _ _ _ _ _ _ _ _ _ _ _ _ _ _ _ _
      | exact ih2 _ _ _ _ _ _ _ _ _ _ _ _ _ _ _ _ _ _ _ _ _ _ _
      | exact LeO.none _
      | refine LeO.ite ?_ ?_
      | refine LeO.bind ?_ (fun _ => ?_)
    · intro y0 y1 y2 y3 y4 y5 y6 y7 y8 y9 y10 y11 y12 y13 y14 y15 y16 y17 y18 y19 y20 y21 y22
      unfold busbarref07_Few.l0
      repeat' first
      | (with_reducible exact ih0 _ _ _ _ _ _ _ _ _ _ _ _ _ _ _ _ _ _ _ _ _ _ _)
      | (with_reducible exact ih1 _ _ _ _ _ _ _ _ _ _ _ _ _ _ _ _ _ _ _ _ _ _ _)
      | (with_reducible exact ih2 _ _ _ _ _ _ _ _ _ _ _ _ _ _ _ _ _ _ _ _ _ _ _)
      | (with_reducible exact LeO.refl _)
      | (with_reducible exact LeO.none _)
      | (with_reducible refine LeO.ite ?_ ?_)
      | (with_reducible refine LeO.bind ?_ (fun _ => ?_))
      | exact ih0 _ _ _ _ _ _ _ _ _ _ _ _ _ _ _ _ _ _ _ _ _ _ _
      | exact ih1 _ _ _ _ _ _ _ _ _ _ _ _ _ _ _ _ _ _ _ _ _ _ _
      | exact ih2 _ _ _ _ _ _ _ _ _ _ _ _ _ _ _ _ _ _ _ _ _ _ _
      | exact LeO.none _
      | refine LeO.ite ?_ ?_
      | refine LeO.bind ?_ (fun _ => ?_)
    · intro y0 y1 y2 y3 y4 y5 y6 y7 y8 y9 y10 y11 y12 y13 y14 y15 y16 y17 y18 y19 y20 y21 y22
      unfold busbarref07_Few.l1
      repeat' first
      | (with_reducible exact ih0 _ _ _ _ _ _ _ _ _ _ _ _ _ _ _ _ _ _ _ _ _ _ _)
      | (with_reducible exact ih1 _ _ _ _ _ _ _ _ _ _ _ _ _ _ _ _ _ _ _ _ _ _ _)
      | (with_reducible exact ih2 _ _ _ _ _ _ _ _ _ _ _ _ _ _ _ _ _ _ _ _ _ _ _)
      | (with_reducible exact LeO.refl _)
      | (with_reducible exact LeO.none _)
      | (with_reducible refine LeO.ite ?_ ?_)
      | (with_reducible refine LeO.bind ?_ (fun _ => ?_))
      | exact ih0 _ _ _ _ _ _ _ _ _ _ _ _ _ _ _ _ _ _ _ _ _ _ _
      | exact ih1 _ _ _ _ _ _ _ _ _ _ _ _ _ _ _ _ _ _ _ _ _ _ _
      | exact ih2 _ _ _ _ _ _ _ _ _ _ _ _ _ _ _ _ _ _ _ _ _ _ _
      | exact LeO.none _
      | refine LeO.ite ?_ ?_
      | refine LeO.bind ?_ (fun _ => ?_)
theorem busbarref07_Few.mono : ∀ a0 a1 a2 a3 a4 a5 a6 a7 a8 a9 a10 a11 a12 a13 a14 a15 a16 a17 a18 a19 a20 a21 k, LeO (busbarref07_Few.f k a0 a1 a2 a3 a4 a5 a6 a7 a8 a9 a10 a11 a12 a13 a14 a15 a16 a17 a18 a19 a20 a21) (busbarref07_Few.f (k + 1) a0 a1 a2 a3 a4 a5 a6 a7 a8 a9 a10 a11 a12 a13 a14 a15 a16 a17 a18 a19 a20 a21) := by
  intro a0 a1 a2 a3 a4 a5 a6 a7 a8 a9 a10 a11 a12 a13 a14 a15 a16 a17 a18 a19 a20 a21 k
  obtain ⟨ih0, ih1, ih2⟩ := busbarref07_Few.mono_l k
  unfold busbarref07_Few.f
  repeat' first
      | (with_reducible exact ih0 _ _ _ _ _ _ _ _ _ _ _ _ _ _ _ _ _ _ _ _ _ _ _)
      | (with_reducible exact ih1 _ _ _ _ _ _ _ _ _ _ _ _ _ _ _ _ _ _ _ _ _ _ _)
      | (with_reducible exact ih2 _ _ _ _ _ _ _ _ _ _ _ _ _ _ _ _ _ _ _ _ _ _ _)
      | (with_reducible exact LeO.refl _)
      | (with_reducible exact LeO.none _)
      | (with_reducible refine LeO.ite ?_ ?_)
      | (with_reducible refine LeO.bind ?_ (fun _ => ?_))
      | exact ih0 _ _ _ _ _ _ _ _ _ _ _ _ _ _ _ _ _ _ _ _ _ _ _
      | exact ih1 _ _ _ _ _ _ _ _ _ _ _ _ _ _ _ _ _ _ _ _ _ _ _
      | exact ih2 _ _ _ _ _ _ _ _ _ _ _ _ _ _ _ _ _ _ _ _ _ _ _
      | exact LeO.none _
      | refine LeO.ite ?_ ?_
      | refine LeO.bind ?_ (fun _ => ?_)
set_option maxHeartbeats 8000000 in
set_option maxRecDepth 100000 in
theorem busbarref07_Few.calls (k : Nat) (a0_0 : Int) (a0_1 : Int) (a0_2 : Int) (a0_3 : Int) (a0_4 : Int) (a0_5 : Int) (a0_6 : Int) (a0_7 : Int) (a0_8 : Int) (a0_9 : Int) (a0_10 : Int) (a0_11 : Int) (A0_12 : Option Addr) (c0_12 : Nat) (l0_12 : List Int) (A0_13 : Option Addr) (c0_13 : Nat) (l0_13 : List Bool) (A0_14 : Option Addr) (c0_14 : Nat) (l0_14 : List Int) (A0_15 : Option Addr) (c0_15 : Nat) (l0_15 : List (S82)) (a0_16 : Int) (a0_17 : Int) (a0_18 : Int) (a0_19 : Int) (a0_20 : Int) (A0_21 : Option Addr) (c0_21 : Nat) (l0_21 : List (S84)) (r : Bool) (w : World) (hr0_12 : Kd.C (Kd.int .u16) w A0_12 l0_12.length l0_12) (hc0_12 : l0_12.length ≤ c0_12) (hr0_13 : Kd.C Kd.bool w A0_13 l0_13.length l0_13) (hc0_13 : l0_13.length ≤ c0_13) (hr0_14 : Kd.C (Kd.int .u8) w A0_14 l0_14.length l0_14) (hc0_14 : l0_14.length ≤ c0_14) (hr0_15 : Kd.C k82 w A0_15 l0_15.length l0_15) (hc0_15 : l0_15.length ≤ c0_15) (hr0_21 : Kd.C k84 w A0_21 l0_21.length l0_21) (hc0_21 : l0_21.length ≤ c0_21) (h : busbarref07_Few.f k a0_0 a0_1 a0_2 a0_3 a0_4 a0_5 a0_6 a0_7 a0_8 a0_9 a0_10 a0_11 l0_12 l0_13 l0_14 l0_15 a0_16 a0_17 a0_18 a0_19 a0_20 l0_21 = some r) :
    Calls Try.prog 18 #[.agg #[.int .u8 a0_0, .int .u8 a0_1, .int .u16 a0_2, .int .u16 a0_3, .int .u16 a0_4, .int .u16 a0_5, .int .u16 a0_6, .int .u16 a0_7, .int .u16 a0_8, .int .u16 a0_9, .int .u16 a0_10, .int .u16 a0_11, .slice A0_12 l0_12.length c0_12, .slice A0_13 l0_13.length c0_13, .slice A0_14 l0_14.length c0_14, .slice A0_15 l0_15.length c0_15, .int .u8 a0_16, .int .u8 a0_17, .int .u8 a0_18, .int .u8 a0_19, .int .u8 a0_20, .slice A0_21 l0_21.length c0_21]] w fun e w' => e = .returned (.bool r) ∧ Below w.heap.size w w' := by
  have hu42 := Try.underlying42
  have HR0_12 := Aside0.mk hr0_12
  have HC0_12 := Aside0.mk hc0_12
  clear hr0_12 hc0_12
  have HR0_13 := Aside0.mk hr0_13
  have HC0_13 := Aside0.mk hc0_13
  clear hr0_13 hc0_13
  have HR0_14 := Aside0.mk hr0_14
  have HC0_14 := Aside0.mk hc0_14
  clear hr0_14 hc0_14
  have HR0_15 := Aside0.mk hr0_15
  have HC0_15 := Aside0.mk hc0_15
  clear hr0_15 hc0_15
  have HR0_21 := Aside0.mk hr0_21
  have HC0_21 := Aside0.mk hc0_21
  clear hr0_21 hc0_21
  have HB := Aside0.mk (Below.refl w.heap.size w)
  have H : (if (l0_12.length : Int) > 300 then (busbarref07_Few.j0 k true a0_0 a0_1 a0_2 a0_3 a0_4 a0_5 a0_6 a0_7 a0_8 a0_9 a0_10 a0_11 l0_12 l0_13 l0_14 l0_15 a0_16 a0_17 a0_18 a0_19 a0_20 l0_21) else (if (l0_13.length : Int) > 2500 then (busbarref07_Few.j0 k true a0_0 a0_1 a0_2 a0_3 a0_4 a0_5 a0_6 a0_7 a0_8 a0_9 a0_10 a0_11 l0_12 l0_13 l0_14 l0_15 a0_16 a0_17 a0_18 a0_19 a0_20 l0_21) else (if (l0_14.length : Int) > 300 then (busbarref07_Few.j0 k true a0_0 a0_1 a0_2 a0_3 a0_4 a0_5 a0_6 a0_7 a0_8 a0_9 a0_10 a0_11 l0_12 l0_13 l0_14 l0_15 a0_16 a0_17 a0_18 a0_19 a0_20 l0_21) else (if (l0_15.length : Int) > 50 then (busbarref07_Few.j0 k true a0_0 a0_1 a0_2 a0_3 a0_4 a0_5 a0_6 a0_7 a0_8 a0_9 a0_10 a0_11 l0_12 l0_13 l0_14 l0_15 a0_16 a0_17 a0_18 a0_19 a0_20 l0_21) else (busbarref07_Few.j0 k (decide ((l0_21.length : Int) > 100)) a0_0 a0_1 a0_2 a0_3 a0_4 a0_5 a0_6 a0_7 a0_8 a0_9 a0_10 a0_11 l0_12 l0_13 l0_14 l0_15 a0_16 a0_17 a0_18 a0_19 a0_20 l0_21))))) = some r := h
  clear h
  have HC2 := Aside0.mk H
  clear H
  go_enter Try.func18, Try.ntmps18
  go_upto_region 1 with (first | ((with_reducible refine gate_dst (N := 1) rfl ?_); (try (refine gate_guard (by rfl) ?_; dsimp only)); refine box_event ?hg (N := 1) ?hd (cs := #[.int .u8 a0_0, .int .u8 a0_1, .int .u16 a0_2, .int .u16 a0_3, .int .u16 a0_4, .int .u16 a0_5, .int .u16 a0_6, .int .u16 a0_7, .int .u16 a0_8, .int .u16 a0_9, .int .u16 a0_10, .int .u16 a0_11, .slice A0_12 l0_12.length c0_12, .slice A0_13 l0_13.length c0_13, .slice A0_14 l0_14.length c0_14, .slice A0_15 l0_15.length c0_15, .int .u8 a0_16, .int .u8 a0_17, .int .u8 a0_18, .int .u8 a0_19, .int .u8 a0_20, .slice A0_21 l0_21.length c0_21]) (t := 42) ?hr ?_; (case hd => rfl); (case hg => rfl); (case hr => first | (go_simp; done) | (go_simp; rfl)); intro gb103 hg w3 hbox hb; have n0_ := Aside0.mk (below_step (by repeat (first | (with_reducible first | exact HB.out | apply below_alloc | apply pw_below_drewN | apply below_drew1) | exact HB.out)) hb); have n1_ := Aside0.mk (hbox); have n2_ := Aside0.mk ((by rw [hg]; exact (below_size (by repeat (first | (with_reducible first | exact HB.out | apply below_alloc | apply pw_below_drewN | apply below_drew1) | exact HB.out))) : w.heap.size ≤ gb103)); have n3_ := Aside0.mk ((by rw [hg]; exact (below_size (by repeat (first | (with_reducible first | exact HB.out | apply below_alloc | apply pw_below_drewN | apply below_drew1) | exact HB.out))) : w.heap.size ≤ gb103)); clear HB; have HB := n0_; have BK103 := n1_; have GW103 := n2_; have GE103 := n3_; clear n0_ n1_ n2_ n3_; clear hb hbox hg))
  (try simp only [Act.put, List.setIfInBounds_toArray, List.set_cons_zero, List.set_cons_succ])
  go_cut [32] (fun v32 wc => ∃ (kq : Nat) (x32_1 : Bool), v32 = .bool x32_1 ∧ Aside0 (busbarref07_Few.j0 kq x32_1 a0_0 a0_1 a0_2 a0_3 a0_4 a0_5 a0_6 a0_7 a0_8 a0_9 a0_10 a0_11 l0_12 l0_13 l0_14 l0_15 a0_16 a0_17 a0_18 a0_19 a0_20 l0_21 = some r) ∧ Aside0 (kq ≤ k) ∧ Aside0 (wc.heap[gb103]? = some (.cells #[.int .u8 a0_0, .int .u8 a0_1, .int .u16 a0_2, .int .u16 a0_3, .int .u16 a0_4, .int .u16 a0_5, .int .u16 a0_6, .int .u16 a0_7, .int .u16 a0_8, .int .u16 a0_9, .int .u16 a0_10, .int .u16 a0_11, (.slice A0_12 l0_12.length c0_12), (.slice A0_13 l0_13.length c0_13), (.slice A0_14 l0_14.length c0_14), (.slice A0_15 l0_15.length c0_15), .int .u8 a0_16, .int .u8 a0_17, .int .u8 a0_18, .int .u8 a0_19, .int .u8 a0_20, (.slice A0_21 l0_21.length c0_21)] 42 (0, 0))) ∧ Aside0 (Below w.heap.size w wc))
  case first =>
    have H := HC2.out
    clear HC2
    by_cases c4 : (l0_12.length : Int) > 300
    · rw [if_pos c4] at H
      have c4b0 : decide (300 < (l0_12.length : Int)) = true := decide_eq_true c4
      have c4b1 : decide (300 < l0_12.length) = true := decide_eq_true (by omega)
      clear c4
      (first | rw [c4b0] | (simp only [i64_w, i32_w]; rw [c4b0]) | skip)
      have H' := Aside0.mk H
      clear H
      have hcz5_0 : w3.cell? ⟨gb103, 0, none⟩ = some (.int .u8 a0_0) := (blk_cell BK103.out 0).trans rfl
      have hcz5_1 : w3.cell? ⟨gb103, 1, none⟩ = some (.int .u8 a0_1) := (blk_cell BK103.out 1).trans rfl
      have hcz5_2 : w3.cell? ⟨gb103, 2, none⟩ = some (.int .u16 a0_2) := (blk_cell BK103.out 2).trans rfl
      have hcz5_3 : w3.cell? ⟨gb103, 3, none⟩ = some (.int .u16 a0_3) := (blk_cell BK103.out 3).trans rfl
      have hcz5_4 : w3.cell? ⟨gb103, 4, none⟩ = some (.int .u16 a0_4) := (blk_cell BK103.out 4).trans rfl
      have hcz5_5 : w3.cell? ⟨gb103, 5, none⟩ = some (.int .u16 a0_5) := (blk_cell BK103.out 5).trans rfl
      have hcz5_6 : w3.cell? ⟨gb103, 6, none⟩ = some (.int .u16 a0_6) := (blk_cell BK103.out 6).trans rfl
      have hcz5_7 : w3.cell? ⟨gb103, 7, none⟩ = some (.int .u16 a0_7) := (blk_cell BK103.out 7).trans rfl
      have hcz5_8 : w3.cell? ⟨gb103, 8, none⟩ = some (.int .u16 a0_8) := (blk_cell BK103.out 8).trans rfl
      have hcz5_9 : w3.cell? ⟨gb103, 9, none⟩ = some (.int .u16 a0_9) := (blk_cell BK103.out 9).trans rfl
      have hcz5_10 : w3.cell? ⟨gb103, 10, none⟩ = some (.int .u16 a0_10) := (blk_cell BK103.out 10).trans rfl
      have hcz5_11 : w3.cell? ⟨gb103, 11, none⟩ = some (.int .u16 a0_11) := (blk_cell BK103.out 11).trans rfl
      have hcz5_12 : w3.cell? ⟨gb103, 12, none⟩ = some (.slice A0_12 l0_12.length c0_12) := (blk_cell BK103.out 12).trans rfl
      have hcz5_13 : w3.cell? ⟨gb103, 13, none⟩ = some (.slice A0_13 l0_13.length c0_13) := (blk_cell BK103.out 13).trans rfl
      have hcz5_14 : w3.cell? ⟨gb103, 14, none⟩ = some (.slice A0_14 l0_14.length c0_14) := (blk_cell BK103.out 14).trans rfl
      have hcz5_15 : w3.cell? ⟨gb103, 15, none⟩ = some (.slice A0_15 l0_15.length c0_15) := (blk_cell BK103.out 15).trans rfl
      have hcz5_16 : w3.cell? ⟨gb103, 16, none⟩ = some (.int .u8 a0_16) := (blk_cell BK103.out 16).trans rfl
      have hcz5_17 : w3.cell? ⟨gb103, 17, none⟩ = some (.int .u8 a0_17) := (blk_cell BK103.out 17).trans rfl
      have hcz5_18 : w3.cell? ⟨gb103, 18, none⟩ = some (.int .u8 a0_18) := (blk_cell BK103.out 18).trans rfl
      have hcz5_19 : w3.cell? ⟨gb103, 19, none⟩ = some (.int .u8 a0_19) := (blk_cell BK103.out 19).trans rfl
      have hcz5_20 : w3.cell? ⟨gb103, 20, none⟩ = some (.int .u8 a0_20) := (blk_cell BK103.out 20).trans rfl
      have hcz5_21 : w3.cell? ⟨gb103, 21, none⟩ = some (.slice A0_21 l0_21.length c0_21) := (blk_cell BK103.out 21).trans rfl
      have hfz5_0 := blk_frozen BK103.out 0
      have hfz5_1 := blk_frozen BK103.out 1
      have hfz5_2 := blk_frozen BK103.out 2
      have hfz5_3 := blk_frozen BK103.out 3
      have hfz5_4 := blk_frozen BK103.out 4
      have hfz5_5 := blk_frozen BK103.out 5
      have hfz5_6 := blk_frozen BK103.out 6
      have hfz5_7 := blk_frozen BK103.out 7
      have hfz5_8 := blk_frozen BK103.out 8
      have hfz5_9 := blk_frozen BK103.out 9
      have hfz5_10 := blk_frozen BK103.out 10
      have hfz5_11 := blk_frozen BK103.out 11
      have hfz5_12 := blk_frozen BK103.out 12
      have hfz5_13 := blk_frozen BK103.out 13
      have hfz5_14 := blk_frozen BK103.out 14
      have hfz5_15 := blk_frozen BK103.out 15
      have hfz5_16 := blk_frozen BK103.out 16
      have hfz5_17 := blk_frozen BK103.out 17
      have hfz5_18 := blk_frozen BK103.out 18
      have hfz5_19 := blk_frozen BK103.out 19
      have hfz5_20 := blk_frozen BK103.out 20
      have hfz5_21 := blk_frozen BK103.out 21
      go_wp2
      go_meet
      case rel => exact ⟨_, (true), (by first | rfl | (simp; done) | (simp [*]; done)), H', ⟨by first | omega | exact Nat.le_refl _⟩, ⟨by (with_reducible repeat (first | refine blk_drewN ?_ _ | refine blk_drew ?_ | refine blk_alloc ?_ _)); exact BK103.out⟩, ⟨by repeat (first | (with_reducible first | exact HB.out | apply below_alloc | apply pw_below_drewN | apply below_drew1 | refine below_set ?_ GE103.out) | exact HB.out)⟩⟩
    · rw [if_neg c4] at H
      have c4b0 : decide (300 < (l0_12.length : Int)) = false := decide_eq_false c4
      have c4b1 : decide (300 < l0_12.length) = false := decide_eq_false (by omega)
      clear c4
      (first | rw [c4b0] | (simp only [i64_w, i32_w]; rw [c4b0]) | skip)
      by_cases c6 : (l0_13.length : Int) > 2500
      · rw [if_pos c6] at H
        have c6b0 : decide (2500 < (l0_13.length : Int)) = true := decide_eq_true c6
        have c6b1 : decide (2500 < l0_13.length) = true := decide_eq_true (by omega)
        clear c6
        have H' := Aside0.mk H
        clear H
        have hcz7_0 : w3.cell? ⟨gb103, 0, none⟩ = some (.int .u8 a0_0) := (blk_cell BK103.out 0).trans rfl
        have hcz7_1 : w3.cell? ⟨gb103, 1, none⟩ = some (.int .u8 a0_1) := (blk_cell BK103.out 1).trans rfl
        have hcz7_2 : w3.cell? ⟨gb103, 2, none⟩ = some (.int .u16 a0_2) := (blk_cell BK103.out 2).trans rfl
        have hcz7_3 : w3.cell? ⟨gb103, 3, none⟩ = some (.int .u16 a0_3) := (blk_cell BK103.out 3).trans rfl
        have hcz7_4 : w3.cell? ⟨gb103, 4, none⟩ = some (.int .u16 a0_4) := (blk_cell BK103.out 4).trans rfl
        have hcz7_5 : w3.cell? ⟨gb103, 5, none⟩ = some (.int .u16 a0_5) := (blk_cell BK103.out 5).trans rfl
        have hcz7_6 : w3.cell? ⟨gb103, 6, none⟩ = some (.int .u16 a0_6) := (blk_cell BK103.out 6).trans rfl
        have hcz7_7 : w3.cell? ⟨gb103, 7, none⟩ = some (.int .u16 a0_7) := (blk_cell BK103.out 7).trans rfl
        have hcz7_8 : w3.cell? ⟨gb103, 8, none⟩ = some (.int .u16 a0_8) := (blk_cell BK103.out 8).trans rfl
        have hcz7_9 : w3.cell? ⟨gb103, 9, none⟩ = some (.int .u16 a0_9) := (blk_cell BK103.out 9).trans rfl
        have hcz7_10 : w3.cell? ⟨gb103, 10, none⟩ = some (.int .u16 a0_10) := (blk_cell BK103.out 10).trans rfl
        have hcz7_11 : w3.cell? ⟨gb103, 11, none⟩ = some (.int .u16 a0_11) := (blk_cell BK103.out 11).trans rfl
        have hcz7_12 : w3.cell? ⟨gb103, 12, none⟩ = some (.slice A0_12 l0_12.length c0_12) := (blk_cell BK103.out 12).trans rfl
        have hcz7_13 : w3.cell? ⟨gb103, 13, none⟩ = some (.slice A0_13 l0_13.length c0_13) := (blk_cell BK103.out 13).trans rfl
        have hcz7_14 : w3.cell? ⟨gb103, 14, none⟩ = some (.slice A0_14 l0_14.length c0_14) := (blk_cell BK103.out 14).trans rfl
        have hcz7_15 : w3.cell? ⟨gb103, 15, none⟩ = some (.slice A0_15 l0_15.length c0_15) := (blk_cell BK103.out 15).trans rfl
        have hcz7_16 : w3.cell? ⟨gb103, 16, none⟩ = some (.int .u8 a0_16) := (blk_cell BK103.out 16).trans rfl
        have hcz7_17 : w3.cell? ⟨gb103, 17, none⟩ = some (.int .u8 a0_17) := (blk_cell BK103.out 17).trans rfl
        have hcz7_18 : w3.cell? ⟨gb103, 18, none⟩ = some (.int .u8 a0_18) := (blk_cell BK103.out 18).trans rfl
        have hcz7_19 : w3.cell? ⟨gb103, 19, none⟩ = some (.int .u8 a0_19) := (blk_cell BK103.out 19).trans rfl
        have hcz7_20 : w3.cell? ⟨gb103, 20, none⟩ = some (.int .u8 a0_20) := (blk_cell BK103.out 20).trans rfl
        have hcz7_21 : w3.cell? ⟨gb103, 21, none⟩ = some (.slice A0_21 l0_21.length c0_21) := (blk_cell BK103.out 21).trans rfl
        have hfz7_0 := blk_frozen BK103.out 0
        have hfz7_1 := blk_frozen BK103.out 1
        have hfz7_2 := blk_frozen BK103.out 2
        have hfz7_3 := blk_frozen BK103.out 3
        have hfz7_4 := blk_frozen BK103.out 4
        have hfz7_5 := blk_frozen BK103.out 5
        have hfz7_6 := blk_frozen BK103.out 6
        have hfz7_7 := blk_frozen BK103.out 7
        have hfz7_8 := blk_frozen BK103.out 8
        have hfz7_9 := blk_frozen BK103.out 9
        have hfz7_10 := blk_frozen BK103.out 10
        have hfz7_11 := blk_frozen BK103.out 11
        have hfz7_12 := blk_frozen BK103.out 12
        have hfz7_13 := blk_frozen BK103.out 13
        have hfz7_14 := blk_frozen BK103.out 14
        have hfz7_15 := blk_frozen BK103.out 15
        have hfz7_16 := blk_frozen BK103.out 16
        have hfz7_17 := blk_frozen BK103.out 17
        have hfz7_18 := blk_frozen BK103.out 18
        have hfz7_19 := blk_frozen BK103.out 19
        have hfz7_20 := blk_frozen BK103.out 20
        have hfz7_21 := blk_frozen BK103.out 21
        go_wp2
        go_meet
        case rel => exact ⟨_, (true), (by first | rfl | (simp; done) | (simp [*]; done)), H', ⟨by first | omega | exact Nat.le_refl _⟩, ⟨by (with_reducible repeat (first | refine blk_drewN ?_ _ | refine blk_drew ?_ | refine blk_alloc ?_ _)); exact BK103.out⟩, ⟨by repeat (first | (with_reducible first | exact HB.out | apply below_alloc | apply pw_below_drewN | apply below_drew1 | refine below_set ?_ GE103.out) | exact HB.out)⟩⟩
      · rw [if_neg c6] at H
        have c6b0 : decide (2500 < (l0_13.length : Int)) = false := decide_eq_false c6
        have c6b1 : decide (2500 < l0_13.length) = false := decide_eq_false (by omega)
        clear c6
        by_cases c8 : (l0_14.length : Int) > 300
        · rw [if_pos c8] at H
          have c8b0 : decide (300 < (l0_14.length : Int)) = true := decide_eq_true c8
          have c8b1 : decide (300 < l0_14.length) = true := decide_eq_true (by omega)
          clear c8
          have H' := Aside0.mk H
          clear H
          have hcz9_0 : w3.cell? ⟨gb103, 0, none⟩ = some (.int .u8 a0_0) := (blk_cell BK103.out 0).trans rfl
          have hcz9_1 : w3.cell? ⟨gb103, 1, none⟩ = some (.int .u8 a0_1) := (blk_cell BK103.out 1).trans rfl
          have hcz9_2 : w3.cell? ⟨gb103, 2, none⟩ = some (.int .u16 a0_2) := (blk_cell BK103.out 2).trans rfl
          have hcz9_3 : w3.cell? ⟨gb103, 3, none⟩ = some (.int .u16 a0_3) := (blk_cell BK103.out 3).trans rfl
          have hcz9_4 : w3.cell? ⟨gb103, 4, none⟩ = some (.int .u16 a0_4) := (blk_cell BK103.out 4).trans rfl
          have hcz9_5 : w3.cell? ⟨gb103, 5, none⟩ = some (.int .u16 a0_5) := (blk_cell BK103.out 5).trans rfl
          have hcz9_6 : w3.cell? ⟨gb103, 6, none⟩ = some (.int .u16 a0_6) := (blk_cell BK103.out 6).trans rfl
          have hcz9_7 : w3.cell? ⟨gb103, 7, none⟩ = some (.int .u16 a0_7) := (blk_cell BK103.out 7).trans rfl
          have hcz9_8 : w3.cell? ⟨gb103, 8, none⟩ = some (.int .u16 a0_8) := (blk_cell BK103.out 8).trans rfl
          have hcz9_9 : w3.cell? ⟨gb103, 9, none⟩ = some (.int .u16 a0_9) := (blk_cell BK103.out 9).trans rfl
          have hcz9_10 : w3.cell? ⟨gb103, 10, none⟩ = some (.int .u16 a0_10) := (blk_cell BK103.out 10).trans rfl
          have hcz9_11 : w3.cell? ⟨gb103, 11, none⟩ = some (.int .u16 a0_11) := (blk_cell BK103.out 11).trans rfl
          have hcz9_12 : w3.cell? ⟨gb103, 12, none⟩ = some (.slice A0_12 l0_12.length c0_12) := (blk_cell BK103.out 12).trans rfl
          have hcz9_13 : w3.cell? ⟨gb103, 13, none⟩ = some (.slice A0_13 l0_13.length c0_13) := (blk_cell BK103.out 13).trans rfl
          have hcz9_14 : w3.cell? ⟨gb103, 14, none⟩ = some (.slice A0_14 l0_14.length c0_14) := (blk_cell BK103.out 14).trans rfl
          have hcz9_15 : w3.cell? ⟨gb103, 15, none⟩ = some (.slice A0_15 l0_15.length c0_15) := (blk_cell BK103.out 15).trans rfl
          have hcz9_16 : w3.cell? ⟨gb103, 16, none⟩ = some (.int .u8 a0_16) := (blk_cell BK103.out 16).trans rfl
          have hcz9_17 : w3.cell? ⟨gb103, 17, none⟩ = some (.int .u8 a0_17) := (blk_cell BK103.out 17).trans rfl
          have hcz9_18 : w3.cell? ⟨gb103, 18, none⟩ = some (.int .u8 a0_18) := (blk_cell BK103.out 18).trans rfl
          have hcz9_19 : w3.cell? ⟨gb103, 19, none⟩ = some (.int .u8 a0_19) := (blk_cell BK103.out 19).trans rfl
          have hcz9_20 : w3.cell? ⟨gb103, 20, none⟩ = some (.int .u8 a0_20) := (blk_cell BK103.out 20).trans rfl
          have hcz9_21 : w3.cell? ⟨gb103, 21, none⟩ = some (.slice A0_21 l0_21.length c0_21) := (blk_cell BK103.out 21).trans rfl
          have hfz9_0 := blk_frozen BK103.out 0
          have hfz9_1 := blk_frozen BK103.out 1
          have hfz9_2 := blk_frozen BK103.out 2
          have hfz9_3 := blk_frozen BK103.out 3
          have hfz9_4 := blk_frozen BK103.out 4
          have hfz9_5 := blk_frozen BK103.out 5
          have hfz9_6 := blk_frozen BK103.out 6
          have hfz9_7 := blk_frozen BK103.out 7
          have hfz9_8 := blk_frozen BK103.out 8
          have hfz9_9 := blk_frozen BK103.out 9
          have hfz9_10 := blk_frozen BK103.out 10
          have hfz9_11 := blk_frozen BK103.out 11
          have hfz9_12 := blk_frozen BK103.out 12
          have hfz9_13 := blk_frozen BK103.out 13
          have hfz9_14 := blk_frozen BK103.out 14
          have hfz9_15 := blk_frozen BK103.out 15
          have hfz9_16 := blk_frozen BK103.out 16
          have hfz9_17 := blk_frozen BK103.out 17
          have hfz9_18 := blk_frozen BK103.out 18
          have hfz9_19 := blk_frozen BK103.out 19
          have hfz9_20 := blk_frozen BK103.out 20
          have hfz9_21 := blk_frozen BK103.out 21
          go_wp2
          go_meet
          case rel => exact ⟨_, (true), (by first | rfl | (simp; done) | (simp [*]; done)), H', ⟨by first | omega | exact Nat.le_refl _⟩, ⟨by (with_reducible repeat (first | refine blk_drewN ?_ _ | refine blk_drew ?_ | refine blk_alloc ?_ _)); exact BK103.out⟩, ⟨by repeat (first | (with_reducible first | exact HB.out | apply below_alloc | apply pw_below_drewN | apply below_drew1 | refine below_set ?_ GE103.out) | exact HB.out)⟩⟩
        · rw [if_neg c8] at H
          have c8b0 : decide (300 < (l0_14.length : Int)) = false := decide_eq_false c8
          have c8b1 : decide (300 < l0_14.length) = false := decide_eq_false (by omega)
          clear c8
          by_cases c10 : (l0_15.length : Int) > 50
          · rw [if_pos c10] at H
            have c10b0 : decide (50 < (l0_15.length : Int)) = true := decide_eq_true c10
            have c10b1 : decide (50 < l0_15.length) = true := decide_eq_true (by omega)
            clear c10
            have H' := Aside0.mk H
            clear H
            have hcz11_0 : w3.cell? ⟨gb103, 0, none⟩ = some (.int .u8 a0_0) := (blk_cell BK103.out 0).trans rfl
            have hcz11_1 : w3.cell? ⟨gb103, 1, none⟩ = some (.int .u8 a0_1) := (blk_cell BK103.out 1).trans rfl
            have hcz11_2 : w3.cell? ⟨gb103, 2, none⟩ = some (.int .u16 a0_2) := (blk_cell BK103.out 2).trans rfl
            have hcz11_3 : w3.cell? ⟨gb103, 3, none⟩ = some (.int .u16 a0_3) := (blk_cell BK103.out 3).trans rfl
            have hcz11_4 : w3.cell? ⟨gb103, 4, none⟩ = some (.int .u16 a0_4) := (blk_cell BK103.out 4).trans rfl
            have hcz11_5 : w3.cell? ⟨gb103, 5, none⟩ = some (.int .u16 a0_5) := (blk_cell BK103.out 5).trans rfl
            have hcz11_6 : w3.cell? ⟨gb103, 6, none⟩ = some (.int .u16 a0_6) := (blk_cell BK103.out 6).trans rfl
            have hcz11_7 : w3.cell? ⟨gb103, 7, none⟩ = some (.int .u16 a0_7) := (blk_cell BK103.out 7).trans rfl
            have hcz11_8 : w3.cell? ⟨gb103, 8, none⟩ = some (.int .u16 a0_8) := (blk_cell BK103.out 8).trans rfl
            have hcz11_9 : w3.cell? ⟨gb103, 9, none⟩ = some (.int .u16 a0_9) := (blk_cell BK103.out 9).trans rfl
            have hcz11_10 : w3.cell? ⟨gb103, 10, none⟩ = some (.int .u16 a0_10) := (blk_cell BK103.out 10).trans rfl
            have hcz11_11 : w3.cell? ⟨gb103, 11, none⟩ = some (.int .u16 a0_11) := (blk_cell BK103.out 11).trans rfl
            have hcz11_12 : w3.cell? ⟨gb103, 12, none⟩ = some (.slice A0_12 l0_12.length c0_12) := (blk_cell BK103.out 12).trans rfl
            have hcz11_13 : w3.cell? ⟨gb103, 13, none⟩ = some (.slice A0_13 l0_13.length c0_13) := (blk_cell BK103.out 13).trans rfl
            have hcz11_14 : w3.cell? ⟨gb103, 14, none⟩ = some (.slice A0_14 l0_14.length c0_14) := (blk_cell BK103.out 14).trans rfl
            have hcz11_15 : w3.cell? ⟨gb103, 15, none⟩ = some (.slice A0_15 l0_15.length c0_15) := (blk_cell BK103.out 15).trans rfl
            have hcz11_16 : w3.cell? ⟨gb103, 16, none⟩ = some (.int .u8 a0_16) := (blk_cell BK103.out 16).trans rfl
            have hcz11_17 : w3.cell? ⟨gb103, 17, none⟩ = some (.int .u8 a0_17) := (blk_cell BK103.out 17).trans rfl
            have hcz11_18 : w3.cell? ⟨gb103, 18, none⟩ = some (.int .u8 a0_18) := (blk_cell BK103.out 18).trans rfl
            have hcz11_19 : w3.cell? ⟨gb103, 19, none⟩ = some (.int .u8 a0_19) := (blk_cell BK103.out 19).trans rfl
            have hcz11_20 : w3.cell? ⟨gb103, 20, none⟩ = some (.int .u8 a0_20) := (blk_cell BK103.out 20).trans rfl
            have hcz11_21 : w3.cell? ⟨gb103, 21, none⟩ = some (.slice A0_21 l0_21.length c0_21) := (blk_cell BK103.out 21).trans rfl
            have hfz11_0 := blk_frozen BK103.out 0
            have hfz11_1 := blk_frozen BK103.out 1
            have hfz11_2 := blk_frozen BK103.out 2
            have hfz11_3 := blk_frozen BK103.out 3
            have hfz11_4 := blk_frozen BK103.out 4
            have hfz11_5 := blk_frozen BK103.out 5
            have hfz11_6 := blk_frozen BK103.out 6
            have hfz11_7 := blk_frozen BK103.out 7
            have hfz11_8 := blk_frozen BK103.out 8
            have hfz11_9 := blk_frozen BK103.out 9
            have hfz11_10 := blk_frozen BK103.out 10
            have hfz11_11 := blk_frozen BK103.out 11
            have hfz11_12 := blk_frozen BK103.out 12
            have hfz11_13 := blk_frozen BK103.out 13
            have hfz11_14 := blk_frozen BK103.out 14
            have hfz11_15 := blk_frozen BK103.out 15
            have hfz11_16 := blk_frozen BK103.out 16
            have hfz11_17 := blk_frozen BK103.out 17
            have hfz11_18 := blk_frozen BK103.out 18
            have hfz11_19 := blk_frozen BK103.out 19
            have hfz11_20 := blk_frozen BK103.out 20
            have hfz11_21 := blk_frozen BK103.out 21
            go_wp2
            go_meet
            case rel => exact ⟨_, (true), (by first | rfl | (simp; done) | (simp [*]; done)), H', ⟨by first | omega | exact Nat.le_refl _⟩, ⟨by (with_reducible repeat (first | refine blk_drewN ?_ _ | refine blk_drew ?_ | refine blk_alloc ?_ _)); exact BK103.out⟩, ⟨by repeat (first | (with_reducible first | exact HB.out | apply below_alloc | apply pw_below_drewN | apply below_drew1 | refine below_set ?_ GE103.out) | exact HB.out)⟩⟩
          · rw [if_neg c10] at H
            have c10b0 : decide (50 < (l0_15.length : Int)) = false := decide_eq_false c10
            have c10b1 : decide (50 < l0_15.length) = false := decide_eq_false (by omega)
            clear c10
            have H' := Aside0.mk H
            clear H
            have hcz12_0 : w3.cell? ⟨gb103, 0, none⟩ = some (.int .u8 a0_0) := (blk_cell BK103.out 0).trans rfl
            have hcz12_1 : w3.cell? ⟨gb103, 1, none⟩ = some (.int .u8 a0_1) := (blk_cell BK103.out 1).trans rfl
            have hcz12_2 : w3.cell? ⟨gb103, 2, none⟩ = some (.int .u16 a0_2) := (blk_cell BK103.out 2).trans rfl
            have hcz12_3 : w3.cell? ⟨gb103, 3, none⟩ = some (.int .u16 a0_3) := (blk_cell BK103.out 3).trans rfl
            have hcz12_4 : w3.cell? ⟨gb103, 4, none⟩ = some (.int .u16 a0_4) := (blk_cell BK103.out 4).trans rfl
            have hcz12_5 : w3.cell? ⟨gb103, 5, none⟩ = some (.int .u16 a0_5) := (blk_cell BK103.out 5).trans rfl
            have hcz12_6 : w3.cell? ⟨gb103, 6, none⟩ = some (.int .u16 a0_6) := (blk_cell BK103.out 6).trans rfl
            have hcz12_7 : w3.cell? ⟨gb103, 7, none⟩ = some (.int .u16 a0_7) := (blk_cell BK103.out 7).trans rfl
            have hcz12_8 : w3.cell? ⟨gb103, 8, none⟩ = some (.int .u16 a0_8) := (blk_cell BK103.out 8).trans rfl
            have hcz12_9 : w3.cell? ⟨gb103, 9, none⟩ = some (.int .u16 a0_9) := (blk_cell BK103.out 9).trans rfl
            have hcz12_10 : w3.cell? ⟨gb103, 10, none⟩ = some (.int .u16 a0_10) := (blk_cell BK103.out 10).trans rfl
            have hcz12_11 : w3.cell? ⟨gb103, 11, none⟩ = some (.int .u16 a0_11) := (blk_cell BK103.out 11).trans rfl
            have hcz12_12 : w3.cell? ⟨gb103, 12, none⟩ = some (.slice A0_12 l0_12.length c0_12) := (blk_cell BK103.out 12).trans rfl
            have hcz12_13 : w3.cell? ⟨gb103, 13, none⟩ = some (.slice A0_13 l0_13.length c0_13) := (blk_cell BK103.out 13).trans rfl
            have hcz12_14 : w3.cell? ⟨gb103, 14, none⟩ = some (.slice A0_14 l0_14.length c0_14) := (blk_cell BK103.out 14).trans rfl
            have hcz12_15 : w3.cell? ⟨gb103, 15, none⟩ = some (.slice A0_15 l0_15.length c0_15) := (blk_cell BK103.out 15).trans rfl
            have hcz12_16 : w3.cell? ⟨gb103, 16, none⟩ = some (.int .u8 a0_16) := (blk_cell BK103.out 16).trans rfl
            have hcz12_17 : w3.cell? ⟨gb103, 17, none⟩ = some (.int .u8 a0_17) := (blk_cell BK103.out 17).trans rfl
            have hcz12_18 : w3.cell? ⟨gb103, 18, none⟩ = some (.int .u8 a0_18) := (blk_cell BK103.out 18).trans rfl
            have hcz12_19 : w3.cell? ⟨gb103, 19, none⟩ = some (.int .u8 a0_19) := (blk_cell BK103.out 19).trans rfl
            have hcz12_20 : w3.cell? ⟨gb103, 20, none⟩ = some (.int .u8 a0_20) := (blk_cell BK103.out 20).trans rfl
            have hcz12_21 : w3.cell? ⟨gb103, 21, none⟩ = some (.slice A0_21 l0_21.length c0_21) := (blk_cell BK103.out 21).trans rfl
            have hfz12_0 := blk_frozen BK103.out 0
            have hfz12_1 := blk_frozen BK103.out 1
            have hfz12_2 := blk_frozen BK103.out 2
            have hfz12_3 := blk_frozen BK103.out 3
            have hfz12_4 := blk_frozen BK103.out 4
            have hfz12_5 := blk_frozen BK103.out 5
            have hfz12_6 := blk_frozen BK103.out 6
            have hfz12_7 := blk_frozen BK103.out 7
            have hfz12_8 := blk_frozen BK103.out 8
            have hfz12_9 := blk_frozen BK103.out 9
            have hfz12_10 := blk_frozen BK103.out 10
            have hfz12_11 := blk_frozen BK103.out 11
            have hfz12_12 := blk_frozen BK103.out 12
            have hfz12_13 := blk_frozen BK103.out 13
            have hfz12_14 := blk_frozen BK103.out 14
            have hfz12_15 := blk_frozen BK103.out 15
            have hfz12_16 := blk_frozen BK103.out 16
            have hfz12_17 := blk_frozen BK103.out 17
            have hfz12_18 := blk_frozen BK103.out 18
            have hfz12_19 := blk_frozen BK103.out 19
            have hfz12_20 := blk_frozen BK103.out 20
            have hfz12_21 := blk_frozen BK103.out 21
            go_wp2
            go_meet
            case rel => exact ⟨_, (decide ((l0_21.length : Int) > 100)), (by first | rfl | (simp; done) | (simp [*]; done)), H', ⟨by first | omega | exact Nat.le_refl _⟩, ⟨by (with_reducible repeat (first | refine blk_drewN ?_ _ | refine blk_drew ?_ | refine blk_alloc ?_ _)); exact BK103.out⟩, ⟨by repeat (first | (with_reducible first | exact HB.out | apply below_alloc | apply pw_below_drewN | apply below_drew1 | refine below_set ?_ GE103.out) | exact HB.out)⟩⟩
  case rest =>
    clear HC2
    try clear c1
    try clear p2
    try clear c4
    try clear c4b0
    try clear c4b1
    try clear c6
    try clear c6b0
    try clear c6b1
    try clear c8
    try clear c8b0
    try clear c8b1
    try clear c10
    try clear c10b0
    try clear c10b1
    try clear hcz11_0
    try clear hcz11_1
    try clear hcz11_10
    try clear hcz11_11
    try clear hcz11_12
    try clear hcz11_13
    try clear hcz11_14
    try clear hcz11_15
    try clear hcz11_16
    try clear hcz11_17
    try clear hcz11_18
    try clear hcz11_19
    try clear hcz11_2
    try clear hcz11_20
    try clear hcz11_21
    try clear hcz11_3
    try clear hcz11_4
    try clear hcz11_5
    try clear hcz11_6
    try clear hcz11_7
    try clear hcz11_8
    try clear hcz11_9
    try clear hcz12_0
    try clear hcz12_1
    try clear hcz12_10
    try clear hcz12_11
    try clear hcz12_12
    try clear hcz12_13
    try clear hcz12_14
    try clear hcz12_15
    try clear hcz12_16
    try clear hcz12_17
    try clear hcz12_18
    try clear hcz12_19
    try clear hcz12_2
    try clear hcz12_20
    try clear hcz12_21
    try clear hcz12_3
    try clear hcz12_4
    try clear hcz12_5
    try clear hcz12_6
    try clear hcz12_7
    try clear hcz12_8
    try clear hcz12_9
    try clear hcz5_0
    try clear hcz5_1
    try clear hcz5_10
    try clear hcz5_11
    try clear hcz5_12
    try clear hcz5_13
    try clear hcz5_14
    try clear hcz5_15
    try clear hcz5_16
    try clear hcz5_17
    try clear hcz5_18
    try clear hcz5_19
    try clear hcz5_2
    try clear hcz5_20
    try clear hcz5_21
    try clear hcz5_3
    try clear hcz5_4
    try clear hcz5_5
    try clear hcz5_6
    try clear hcz5_7
    try clear hcz5_8
    try clear hcz5_9
    try clear hcz7_0
    try clear hcz7_1
    try clear hcz7_10
    try clear hcz7_11
    try clear hcz7_12
    try clear hcz7_13
    try clear hcz7_14
    try clear hcz7_15
    try clear hcz7_16
    try clear hcz7_17
    try clear hcz7_18
    try clear hcz7_19
    try clear hcz7_2
    try clear hcz7_20
    try clear hcz7_21
    try clear hcz7_3
    try clear hcz7_4
    try clear hcz7_5
    try clear hcz7_6
    try clear hcz7_7
    try clear hcz7_8
    try clear hcz7_9
    try clear hcz9_0
    try clear hcz9_1
    try clear hcz9_10
    try clear hcz9_11
    try clear hcz9_12
    try clear hcz9_13
    try clear hcz9_14
    try clear hcz9_15
    try clear hcz9_16
    try clear hcz9_17
    try clear hcz9_18
    try clear hcz9_19
    try clear hcz9_2
    try clear hcz9_20
    try clear hcz9_21
    try clear hcz9_3
    try clear hcz9_4
    try clear hcz9_5
    try clear hcz9_6
    try clear hcz9_7
    try clear hcz9_8
    try clear hcz9_9
    try clear hfz11_0
    try clear hfz11_1
    try clear hfz11_10
    try clear hfz11_11
    try clear hfz11_12
    try clear hfz11_13
    try clear hfz11_14
    try clear hfz11_15
    try clear hfz11_16
    try clear hfz11_17
    try clear hfz11_18
    try clear hfz11_19
    try clear hfz11_2
    try clear hfz11_20
    try clear hfz11_21
    try clear hfz11_3
    try clear hfz11_4
    try clear hfz11_5
    try clear hfz11_6
    try clear hfz11_7
    try clear hfz11_8
    try clear hfz11_9
    try clear hfz12_0
    try clear hfz12_1
    try clear hfz12_10
    try clear hfz12_11
    try clear hfz12_12
    try clear hfz12_13
    try clear hfz12_14
    try clear hfz12_15
    try clear hfz12_16
    try clear hfz12_17
    try clear hfz12_18
    try clear hfz12_19
    try clear hfz12_2
    try clear hfz12_20
    try clear hfz12_21
    try clear hfz12_3
    try clear hfz12_4
    try clear hfz12_5
    try clear hfz12_6
    try clear hfz12_7
    try clear hfz12_8
    try clear hfz12_9
    try clear hfz5_0
    try clear hfz5_1
    try clear hfz5_10
    try clear hfz5_11
    try clear hfz5_12
    try clear hfz5_13
    try clear hfz5_14
    try clear hfz5_15
    try clear hfz5_16
    try clear hfz5_17
    try clear hfz5_18
    try clear hfz5_19
    try clear hfz5_2
    try clear hfz5_20
    try clear hfz5_21
    try clear hfz5_3
    try clear hfz5_4
    try clear hfz5_5
    try clear hfz5_6
    try clear hfz5_7
    try clear hfz5_8
    try clear hfz5_9
    try clear hfz7_0
    try clear hfz7_1
    try clear hfz7_10
    try clear hfz7_11
    try clear hfz7_12
    try clear hfz7_13
    try clear hfz7_14
    try clear hfz7_15
    try clear hfz7_16
    try clear hfz7_17
    try clear hfz7_18
    try clear hfz7_19
    try clear hfz7_2
    try clear hfz7_20
    try clear hfz7_21
    try clear hfz7_3
    try clear hfz7_4
    try clear hfz7_5
    try clear hfz7_6
    try clear hfz7_7
    try clear hfz7_8
    try clear hfz7_9
    try clear hfz9_0
    try clear hfz9_1
    try clear hfz9_10
    try clear hfz9_11
    try clear hfz9_12
    try clear hfz9_13
    try clear hfz9_14
    try clear hfz9_15
    try clear hfz9_16
    try clear hfz9_17
    try clear hfz9_18
    try clear hfz9_19
    try clear hfz9_2
    try clear hfz9_20
    try clear hfz9_21
    try clear hfz9_3
    try clear hfz9_4
    try clear hfz9_5
    try clear hfz9_6
    try clear hfz9_7
    try clear hfz9_8
    try clear hfz9_9
    obtain ⟨kq, x32_1, rfl, HA, HJ1, BK103, HB⟩ := hcut
    cases kq with
    | zero => exact absurd HA.out (by simp [busbarref07_Few.j0])
    | succ kj1 =>
      have H := HA.out
      clear HA
      simp only [busbarref07_Few.j0] at H
      by_cases c13 : x32_1 = true
      · subst c13
        have H1 : (some false) = some r := by rw [if_pos rfl] at H; exact H
        clear H
        have H := H1
        clear H1
        obtain rfl := Option.some.inj H
        go_wp2
        go_ret
        exact ⟨by first | rfl | (simp [errW_none, errW_some] <;> rfl) | (simp [*, errW_none, errW_some] <;> rfl), by repeat (first | (with_reducible first | exact HB.out | apply below_alloc | apply pw_below_drewN | apply below_drew1 | refine below_set ?_ GE103.out) | exact HB.out)⟩
      · replace c13 := Bool.eq_false_iff.mpr c13
        subst c13
        have H1 : (busbarref07_Few.l0 kj1 0 a0_0 a0_1 a0_2 a0_3 a0_4 a0_5 a0_6 a0_7 a0_8 a0_9 a0_10 a0_11 l0_12 l0_13 l0_14 l0_15 a0_16 a0_17 a0_18 a0_19 a0_20 l0_21) = some r := by rw [if_neg (show ¬ (false = true) by decide)] at H; exact H
        clear H
        have H := H1
        clear H1
        have H' := Aside0.mk H
        clear H
        go_wp2
        go_loopg [3] kj1 (fun kq v3 w' => ∃ (x3_2 : Int), v3 = .int .i64 x3_2 ∧ Aside0 (busbarref07_Few.l0 kq x3_2 a0_0 a0_1 a0_2 a0_3 a0_4 a0_5 a0_6 a0_7 a0_8 a0_9 a0_10 a0_11 l0_12 l0_13 l0_14 l0_15 a0_16 a0_17 a0_18 a0_19 a0_20 l0_21 = some r) ∧ Aside0 (kq ≤ kj1) ∧ Aside0 (w'.heap[gb103]? = some (.cells #[.int .u8 a0_0, .int .u8 a0_1, .int .u16 a0_2, .int .u16 a0_3, .int .u16 a0_4, .int .u16 a0_5, .int .u16 a0_6, .int .u16 a0_7, .int .u16 a0_8, .int .u16 a0_9, .int .u16 a0_10, .int .u16 a0_11, (.slice A0_12 l0_12.length c0_12), (.slice A0_13 l0_13.length c0_13), (.slice A0_14 l0_14.length c0_14), (.slice A0_15 l0_15.length c0_15), .int .u8 a0_16, .int .u8 a0_17, .int .u8 a0_18, .int .u8 a0_19, .int .u8 a0_20, (.slice A0_21 l0_21.length c0_21)] 42 (0, 0))) ∧ Aside0 (Below w.heap.size w w'))
        case atStart => exact ⟨(0), (by first | rfl | (simp; done) | (simp [*]; done)), H', ⟨Nat.le_refl _⟩, ⟨by (with_reducible repeat (first | refine blk_drewN ?_ _ | refine blk_drew ?_ | refine blk_alloc ?_ _)); exact BK103.out⟩, ⟨by repeat (first | (with_reducible first | exact HB.out | apply below_alloc | apply pw_below_drewN | apply below_drew1 | refine below_set ?_ GE103.out) | exact HB.out)⟩⟩
        case round =>
          clear H'
          try clear c1
          try clear p2
          try clear c4
          try clear c4b0
          try clear c4b1
          try clear c6
          try clear c6b0
          try clear c6b1
          try clear c8
          try clear c8b0
          try clear c8b1
          try clear c10
          try clear c10b0
          try clear c10b1
          try clear c13
          try clear hcz11_0
          try clear hcz11_1
          try clear hcz11_10
          try clear hcz11_11
          try clear hcz11_12
          try clear hcz11_13
          try clear hcz11_14
          try clear hcz11_15
          try clear hcz11_16
          try clear hcz11_17
          try clear hcz11_18
          try clear hcz11_19
          try clear hcz11_2
          try clear hcz11_20
          try clear hcz11_21
          try clear hcz11_3
          try clear hcz11_4
          try clear hcz11_5
          try clear hcz11_6
          try clear hcz11_7
          try clear hcz11_8
          try clear hcz11_9
          try clear hcz12_0
          try clear hcz12_1
          try clear hcz12_10
          try clear hcz12_11
          try clear hcz12_12
          try clear hcz12_13
          try clear hcz12_14
          try clear hcz12_15
          try clear hcz12_16
          try clear hcz12_17
          try clear hcz12_18
          try clear hcz12_19
          try clear hcz12_2
          try clear hcz12_20
          try clear hcz12_21
          try clear hcz12_3
          try clear hcz12_4
          try clear hcz12_5
          try clear hcz12_6
          try clear hcz12_7
          try clear hcz12_8
          try clear hcz12_9
          try clear hcz5_0
          try clear hcz5_1
          try clear hcz5_10
          try clear hcz5_11
          try clear hcz5_12
          try clear hcz5_13
          try clear hcz5_14
          try clear hcz5_15
          try clear hcz5_16
          try clear hcz5_17
          try clear hcz5_18
          try clear hcz5_19
          try clear hcz5_2
          try clear hcz5_20
          try clear hcz5_21
          try clear hcz5_3
          try clear hcz5_4
          try clear hcz5_5
          try clear hcz5_6
          try clear hcz5_7
          try clear hcz5_8
          try clear hcz5_9
          try clear hcz7_0
          try clear hcz7_1
          try clear hcz7_10
          try clear hcz7_11
          try clear hcz7_12
          try clear hcz7_13
          try clear hcz7_14
          try clear hcz7_15
          try clear hcz7_16
          try clear hcz7_17
          try clear hcz7_18
          try clear hcz7_19
          try clear hcz7_2
          try clear hcz7_20
          try clear hcz7_21
          try clear hcz7_3
          try clear hcz7_4
          try clear hcz7_5
          try clear hcz7_6
          try clear hcz7_7
          try clear hcz7_8
          try clear hcz7_9
          try clear hcz9_0
          try clear hcz9_1
          try clear hcz9_10
          try clear hcz9_11
          try clear hcz9_12
          try clear hcz9_13
          try clear hcz9_14
          try clear hcz9_15
          try clear hcz9_16
          try clear hcz9_17
          try clear hcz9_18
          try clear hcz9_19
          try clear hcz9_2
          try clear hcz9_20
          try clear hcz9_21
          try clear hcz9_3
          try clear hcz9_4
          try clear hcz9_5
          try clear hcz9_6
          try clear hcz9_7
          try clear hcz9_8
          try clear hcz9_9
          try clear hfz11_0
          try clear hfz11_1
          try clear hfz11_10
          try clear hfz11_11
          try clear hfz11_12
          try clear hfz11_13
          try clear hfz11_14
          try clear hfz11_15
          try clear hfz11_16
          try clear hfz11_17
          try clear hfz11_18
          try clear hfz11_19
          try clear hfz11_2
          try clear hfz11_20
          try clear hfz11_21
          try clear hfz11_3
          try clear hfz11_4
          try clear hfz11_5
          try clear hfz11_6
          try clear hfz11_7
          try clear hfz11_8
          try clear hfz11_9
          try clear hfz12_0
          try clear hfz12_1
          try clear hfz12_10
          try clear hfz12_11
          try clear hfz12_12
          try clear hfz12_13
          try clear hfz12_14
          try clear hfz12_15
          try clear hfz12_16
          try clear hfz12_17
          try clear hfz12_18
          try clear hfz12_19
          try clear hfz12_2
          try clear hfz12_20
          try clear hfz12_21
          try clear hfz12_3
          try clear hfz12_4
          try clear hfz12_5
          try clear hfz12_6
          try clear hfz12_7
          try clear hfz12_8
          try clear hfz12_9
          try clear hfz5_0
          try clear hfz5_1
          try clear hfz5_10
          try clear hfz5_11
          try clear hfz5_12
          try clear hfz5_13
          try clear hfz5_14
          try clear hfz5_15
          try clear hfz5_16
          try clear hfz5_17
          try clear hfz5_18
          try clear hfz5_19
          try clear hfz5_2
          try clear hfz5_20
          try clear hfz5_21
          try clear hfz5_3
          try clear hfz5_4
          try clear hfz5_5
          try clear hfz5_6
          try clear hfz5_7
          try clear hfz5_8
          try clear hfz5_9
          try clear hfz7_0
          try clear hfz7_1
          try clear hfz7_10
          try clear hfz7_11
          try clear hfz7_12
          try clear hfz7_13
          try clear hfz7_14
          try clear hfz7_15
          try clear hfz7_16
          try clear hfz7_17
          try clear hfz7_18
          try clear hfz7_19
          try clear hfz7_2
          try clear hfz7_20
          try clear hfz7_21
          try clear hfz7_3
          try clear hfz7_4
          try clear hfz7_5
          try clear hfz7_6
          try clear hfz7_7
          try clear hfz7_8
          try clear hfz7_9
          try clear hfz9_0
          try clear hfz9_1
          try clear hfz9_10
          try clear hfz9_11
          try clear hfz9_12
          try clear hfz9_13
          try clear hfz9_14
          try clear hfz9_15
          try clear hfz9_16
          try clear hfz9_17
          try clear hfz9_18
          try clear hfz9_19
          try clear hfz9_2
          try clear hfz9_20
          try clear hfz9_21
          try clear hfz9_3
          try clear hfz9_4
          try clear hfz9_5
          try clear hfz9_6
          try clear hfz9_7
          try clear hfz9_8
          try clear hfz9_9
          try clear p2
          obtain ⟨x3_2, rfl, HA, HK2, BK103, HB⟩ := hrel
          cases gk with
          | zero => exact absurd HA.out (by simp [busbarref07_Few.l0])
          | succ k2 =>
            have H := HA.out
            clear HA
            simp only [busbarref07_Few.l0] at H
            by_cases c14 : x3_2 < (l0_15.length : Int)
            · rw [if_pos c14] at H
              have c14b0 : decide (x3_2 < (l0_15.length : Int)) = true := decide_eq_true c14
              clear c14
              by_cases c15 : 0 ≤ x3_2
              · rw [if_pos c15] at H
                have c15b0 : decide (0 ≤ x3_2) = true := decide_eq_true c15
                clear c15
                by_cases c16 : (((rd_T82 l0_15 x3_2).f3).length : Int) > 200
                · rw [if_pos c16] at H
                  have c16b0 : decide (200 < (((rd_T82 l0_15 x3_2).f3).length : Int)) = true := decide_eq_true c16
                  have c16b1 : decide (200 < ((rd_T82 l0_15 x3_2).f3).length) = true := decide_eq_true (by omega)
                  clear c16
                  obtain rfl := Option.some.inj H
                  have hcz17_0 : wr.cell? ⟨gb103, 0, none⟩ = some (.int .u8 a0_0) := (blk_cell BK103.out 0).trans rfl
                  have hcz17_1 : wr.cell? ⟨gb103, 1, none⟩ = some (.int .u8 a0_1) := (blk_cell BK103.out 1).trans rfl
                  have hcz17_2 : wr.cell? ⟨gb103, 2, none⟩ = some (.int .u16 a0_2) := (blk_cell BK103.out 2).trans rfl
                  have hcz17_3 : wr.cell? ⟨gb103, 3, none⟩ = some (.int .u16 a0_3) := (blk_cell BK103.out 3).trans rfl
                  have hcz17_4 : wr.cell? ⟨gb103, 4, none⟩ = some (.int .u16 a0_4) := (blk_cell BK103.out 4).trans rfl
                  have hcz17_5 : wr.cell? ⟨gb103, 5, none⟩ = some (.int .u16 a0_5) := (blk_cell BK103.out 5).trans rfl
                  have hcz17_6 : wr.cell? ⟨gb103, 6, none⟩ = some (.int .u16 a0_6) := (blk_cell BK103.out 6).trans rfl
                  have hcz17_7 : wr.cell? ⟨gb103, 7, none⟩ = some (.int .u16 a0_7) := (blk_cell BK103.out 7).trans rfl
                  have hcz17_8 : wr.cell? ⟨gb103, 8, none⟩ = some (.int .u16 a0_8) := (blk_cell BK103.out 8).trans rfl
                  have hcz17_9 : wr.cell? ⟨gb103, 9, none⟩ = some (.int .u16 a0_9) := (blk_cell BK103.out 9).trans rfl
                  have hcz17_10 : wr.cell? ⟨gb103, 10, none⟩ = some (.int .u16 a0_10) := (blk_cell BK103.out 10).trans rfl
                  have hcz17_11 : wr.cell? ⟨gb103, 11, none⟩ = some (.int .u16 a0_11) := (blk_cell BK103.out 11).trans rfl
                  have hcz17_12 : wr.cell? ⟨gb103, 12, none⟩ = some (.slice A0_12 l0_12.length c0_12) := (blk_cell BK103.out 12).trans rfl
                  have hcz17_13 : wr.cell? ⟨gb103, 13, none⟩ = some (.slice A0_13 l0_13.length c0_13) := (blk_cell BK103.out 13).trans rfl
                  have hcz17_14 : wr.cell? ⟨gb103, 14, none⟩ = some (.slice A0_14 l0_14.length c0_14) := (blk_cell BK103.out 14).trans rfl
                  have hcz17_15 : wr.cell? ⟨gb103, 15, none⟩ = some (.slice A0_15 l0_15.length c0_15) := (blk_cell BK103.out 15).trans rfl
                  have hcz17_16 : wr.cell? ⟨gb103, 16, none⟩ = some (.int .u8 a0_16) := (blk_cell BK103.out 16).trans rfl
                  have hcz17_17 : wr.cell? ⟨gb103, 17, none⟩ = some (.int .u8 a0_17) := (blk_cell BK103.out 17).trans rfl
                  have hcz17_18 : wr.cell? ⟨gb103, 18, none⟩ = some (.int .u8 a0_18) := (blk_cell BK103.out 18).trans rfl
                  have hcz17_19 : wr.cell? ⟨gb103, 19, none⟩ = some (.int .u8 a0_19) := (blk_cell BK103.out 19).trans rfl
                  have hcz17_20 : wr.cell? ⟨gb103, 20, none⟩ = some (.int .u8 a0_20) := (blk_cell BK103.out 20).trans rfl
                  have hcz17_21 : wr.cell? ⟨gb103, 21, none⟩ = some (.slice A0_21 l0_21.length c0_21) := (blk_cell BK103.out 21).trans rfl
                  have hfz17_0 := blk_frozen BK103.out 0
                  have hfz17_1 := blk_frozen BK103.out 1
                  have hfz17_2 := blk_frozen BK103.out 2
                  have hfz17_3 := blk_frozen BK103.out 3
                  have hfz17_4 := blk_frozen BK103.out 4
                  have hfz17_5 := blk_frozen BK103.out 5
                  have hfz17_6 := blk_frozen BK103.out 6
                  have hfz17_7 := blk_frozen BK103.out 7
                  have hfz17_8 := blk_frozen BK103.out 8
                  have hfz17_9 := blk_frozen BK103.out 9
                  have hfz17_10 := blk_frozen BK103.out 10
                  have hfz17_11 := blk_frozen BK103.out 11
                  have hfz17_12 := blk_frozen BK103.out 12
                  have hfz17_13 := blk_frozen BK103.out 13
                  have hfz17_14 := blk_frozen BK103.out 14
                  have hfz17_15 := blk_frozen BK103.out 15
                  have hfz17_16 := blk_frozen BK103.out 16
                  have hfz17_17 := blk_frozen BK103.out 17
                  have hfz17_18 := blk_frozen BK103.out 18
                  have hfz17_19 := blk_frozen BK103.out 19
                  have hfz17_20 := blk_frozen BK103.out 20
                  have hfz17_21 := blk_frozen BK103.out 21
                  have p104 : 0 ≤ (x3_2 : Int) := of_decide_eq_true (by first | (with_reducible assumption) | assumption)
                  have q104 : x3_2 < (l0_15.length : Int) := of_decide_eq_true (by first | (with_reducible assumption) | assumption)
                  obtain ⟨ad104, A104_3, c104_3, e104, hx104_0, hx104_1, hx104_2, hx104_3, hl104_3, hi104_3⟩ := at_T82 HR0_15.out x3_2 p104 q104
                  cases e104
                  replace hx104_0 := (HB.out.cell (World.block_lt_of_cell? w _ hx104_0)).trans hx104_0
                  replace hx104_1 := (HB.out.cell (World.block_lt_of_cell? w _ hx104_1)).trans hx104_1
                  replace hx104_2 := (HB.out.cell (World.block_lt_of_cell? w _ hx104_2)).trans hx104_2
                  replace hx104_3 := (HB.out.cell (World.block_lt_of_cell? w _ hx104_3)).trans hx104_3
                  have HR104_3 := Aside0.mk hi104_3
                  have HC104_3 := Aside0.mk hl104_3
                  clear hi104_3 hl104_3
                  replace p104 := eq_true p104
                  replace q104 := eq_true q104
                  go_wp2
                  go_ret
                  exact ⟨by first | rfl | (simp [errW_none, errW_some] <;> rfl) | (simp [*, errW_none, errW_some] <;> rfl), by repeat (first | (with_reducible first | exact HB.out | apply below_alloc | apply pw_below_drewN | apply below_drew1 | refine below_set ?_ GE103.out) | exact HB.out)⟩
                · rw [if_neg c16] at H
                  have c16b0 : decide (200 < (((rd_T82 l0_15 x3_2).f3).length : Int)) = false := decide_eq_false c16
                  have c16b1 : decide (200 < ((rd_T82 l0_15 x3_2).f3).length) = false := decide_eq_false (by omega)
                  clear c16
                  have H' := Aside0.mk H
                  clear H
                  have hcz18_0 : wr.cell? ⟨gb103, 0, none⟩ = some (.int .u8 a0_0) := (blk_cell BK103.out 0).trans rfl
                  have hcz18_1 : wr.cell? ⟨gb103, 1, none⟩ = some (.int .u8 a0_1) := (blk_cell BK103.out 1).trans rfl
                  have hcz18_2 : wr.cell? ⟨gb103, 2, none⟩ = some (.int .u16 a0_2) := (blk_cell BK103.out 2).trans rfl
                  have hcz18_3 : wr.cell? ⟨gb103, 3, none⟩ = some (.int .u16 a0_3) := (blk_cell BK103.out 3).trans rfl
                  have hcz18_4 : wr.cell? ⟨gb103, 4, none⟩ = some (.int .u16 a0_4) := (blk_cell BK103.out 4).trans rfl
                  have hcz18_5 : wr.cell? ⟨gb103, 5, none⟩ = some (.int .u16 a0_5) := (blk_cell BK103.out 5).trans rfl
                  have hcz18_6 : wr.cell? ⟨gb103, 6, none⟩ = some (.int .u16 a0_6) := (blk_cell BK103.out 6).trans rfl
                  have hcz18_7 : wr.cell? ⟨gb103, 7, none⟩ = some (.int .u16 a0_7) := (blk_cell BK103.out 7).trans rfl
                  have hcz18_8 : wr.cell? ⟨gb103, 8, none⟩ = some (.int .u16 a0_8) := (blk_cell BK103.out 8).trans rfl
                  have hcz18_9 : wr.cell? ⟨gb103, 9, none⟩ = some (.int .u16 a0_9) := (blk_cell BK103.out 9).trans rfl
                  have hcz18_10 : wr.cell? ⟨gb103, 10, none⟩ = some (.int .u16 a0_10) := (blk_cell BK103.out 10).trans rfl
                  have hcz18_11 : wr.cell? ⟨gb103, 11, none⟩ = some (.int .u16 a0_11) := (blk_cell BK103.out 11).trans rfl
                  have hcz18_12 : wr.cell? ⟨gb103, 12, none⟩ = some (.slice A0_12 l0_12.length c0_12) := (blk_cell BK103.out 12).trans rfl
                  have hcz18_13 : wr.cell? ⟨gb103, 13, none⟩ = some (.slice A0_13 l0_13.length c0_13) := (blk_cell BK103.out 13).trans rfl
                  have hcz18_14 : wr.cell? ⟨gb103, 14, none⟩ = some (.slice A0_14 l0_14.length c0_14) := (blk_cell BK103.out 14).trans rfl
                  have hcz18_15 : wr.cell? ⟨gb103, 15, none⟩ = some (.slice A0_15 l0_15.length c0_15) := (blk_cell BK103.out 15).trans rfl
                  have hcz18_16 : wr.cell? ⟨gb103, 16, none⟩ = some (.int .u8 a0_16) := (blk_cell BK103.out 16).trans rfl
                  have hcz18_17 : wr.cell? ⟨gb103, 17, none⟩ = some (.int .u8 a0_17) := (blk_cell BK103.out 17).trans rfl
                  have hcz18_18 : wr.cell? ⟨gb103, 18, none⟩ = some (.int .u8 a0_18) := (blk_cell BK103.out 18).trans rfl
                  have hcz18_19 : wr.cell? ⟨gb103, 19, none⟩ = some (.int .u8 a0_19) := (blk_cell BK103.out 19).trans rfl
                  have hcz18_20 : wr.cell? ⟨gb103, 20, none⟩ = some (.int .u8 a0_20) := (blk_cell BK103.out 20).trans rfl
                  have hcz18_21 : wr.cell? ⟨gb103, 21, none⟩ = some (.slice A0_21 l0_21.length c0_21) := (blk_cell BK103.out 21).trans rfl
                  have hfz18_0 := blk_frozen BK103.out 0
                  have hfz18_1 := blk_frozen BK103.out 1
                  have hfz18_2 := blk_frozen BK103.out 2
                  have hfz18_3 := blk_frozen BK103.out 3
                  have hfz18_4 := blk_frozen BK103.out 4
                  have hfz18_5 := blk_frozen BK103.out 5
                  have hfz18_6 := blk_frozen BK103.out 6
                  have hfz18_7 := blk_frozen BK103.out 7
                  have hfz18_8 := blk_frozen BK103.out 8
                  have hfz18_9 := blk_frozen BK103.out 9
                  have hfz18_10 := blk_frozen BK103.out 10
                  have hfz18_11 := blk_frozen BK103.out 11
                  have hfz18_12 := blk_frozen BK103.out 12
                  have hfz18_13 := blk_frozen BK103.out 13
                  have hfz18_14 := blk_frozen BK103.out 14
                  have hfz18_15 := blk_frozen BK103.out 15
                  have hfz18_16 := blk_frozen BK103.out 16
                  have hfz18_17 := blk_frozen BK103.out 17
                  have hfz18_18 := blk_frozen BK103.out 18
                  have hfz18_19 := blk_frozen BK103.out 19
                  have hfz18_20 := blk_frozen BK103.out 20
                  have hfz18_21 := blk_frozen BK103.out 21
                  have p104 : 0 ≤ (x3_2 : Int) := of_decide_eq_true (by first | (with_reducible assumption) | assumption)
                  have q104 : x3_2 < (l0_15.length : Int) := of_decide_eq_true (by first | (with_reducible assumption) | assumption)
                  obtain ⟨ad104, A104_3, c104_3, e104, hx104_0, hx104_1, hx104_2, hx104_3, hl104_3, hi104_3⟩ := at_T82 HR0_15.out x3_2 p104 q104
                  cases e104
                  replace hx104_0 := (HB.out.cell (World.block_lt_of_cell? w _ hx104_0)).trans hx104_0
                  replace hx104_1 := (HB.out.cell (World.block_lt_of_cell? w _ hx104_1)).trans hx104_1
                  replace hx104_2 := (HB.out.cell (World.block_lt_of_cell? w _ hx104_2)).trans hx104_2
                  replace hx104_3 := (HB.out.cell (World.block_lt_of_cell? w _ hx104_3)).trans hx104_3
                  have HR104_3 := Aside0.mk hi104_3
                  have HC104_3 := Aside0.mk hl104_3
                  clear hi104_3 hl104_3
                  replace p104 := eq_true p104
                  replace q104 := eq_true q104
                  go_wp2
                  go_roundg k2
                  case measure => have := HJ1.out; have := HK2.out; omega
                  case rel => exact ⟨(wrap64 (x3_2 + 1)), (by first | rfl | (simp; done) | (simp [*]; done)), H', ⟨by have := HJ1.out; have := HK2.out; omega⟩, ⟨by (with_reducible repeat (first | refine blk_drewN ?_ _ | refine blk_drew ?_ | refine blk_alloc ?_ _)); exact BK103.out⟩, ⟨by repeat (first | (with_reducible first | exact HB.out | apply below_alloc | apply pw_below_drewN | apply below_drew1 | refine below_set ?_ GE103.out) | exact HB.out)⟩⟩
              · rw [if_neg c15] at H
                exact absurd H (by simp)
            · rw [if_neg c14] at H
              have c14b0 : decide (x3_2 < (l0_15.length : Int)) = false := decide_eq_false c14
              clear c14
              have H' := Aside0.mk H
              clear H
              have hcz19_0 : wr.cell? ⟨gb103, 0, none⟩ = some (.int .u8 a0_0) := (blk_cell BK103.out 0).trans rfl
              have hcz19_1 : wr.cell? ⟨gb103, 1, none⟩ = some (.int .u8 a0_1) := (blk_cell BK103.out 1).trans rfl
              have hcz19_2 : wr.cell? ⟨gb103, 2, none⟩ = some (.int .u16 a0_2) := (blk_cell BK103.out 2).trans rfl
              have hcz19_3 : wr.cell? ⟨gb103, 3, none⟩ = some (.int .u16 a0_3) := (blk_cell BK103.out 3).trans rfl
              have hcz19_4 : wr.cell? ⟨gb103, 4, none⟩ = some (.int .u16 a0_4) := (blk_cell BK103.out 4).trans rfl
              have hcz19_5 : wr.cell? ⟨gb103, 5, none⟩ = some (.int .u16 a0_5) := (blk_cell BK103.out 5).trans rfl
              have hcz19_6 : wr.cell? ⟨gb103, 6, none⟩ = some (.int .u16 a0_6) := (blk_cell BK103.out 6).trans rfl
              have hcz19_7 : wr.cell? ⟨gb103, 7, none⟩ = some (.int .u16 a0_7) := (blk_cell BK103.out 7).trans rfl
              have hcz19_8 : wr.cell? ⟨gb103, 8, none⟩ = some (.int .u16 a0_8) := (blk_cell BK103.out 8).trans rfl
              have hcz19_9 : wr.cell? ⟨gb103, 9, none⟩ = some (.int .u16 a0_9) := (blk_cell BK103.out 9).trans rfl
              have hcz19_10 : wr.cell? ⟨gb103, 10, none⟩ = some (.int .u16 a0_10) := (blk_cell BK103.out 10).trans rfl
              have hcz19_11 : wr.cell? ⟨gb103, 11, none⟩ = some (.int .u16 a0_11) := (blk_cell BK103.out 11).trans rfl
              have hcz19_12 : wr.cell? ⟨gb103, 12, none⟩ = some (.slice A0_12 l0_12.length c0_12) := (blk_cell BK103.out 12).trans rfl
              have hcz19_13 : wr.cell? ⟨gb103, 13, none⟩ = some (.slice A0_13 l0_13.length c0_13) := (blk_cell BK103.out 13).trans rfl
              have hcz19_14 : wr.cell? ⟨gb103, 14, none⟩ = some (.slice A0_14 l0_14.length c0_14) := (blk_cell BK103.out 14).trans rfl
              have hcz19_15 : wr.cell? ⟨gb103, 15, none⟩ = some (.slice A0_15 l0_15.length c0_15) := (blk_cell BK103.out 15).trans rfl
              have hcz19_16 : wr.cell? ⟨gb103, 16, none⟩ = some (.int .u8 a0_16) := (blk_cell BK103.out 16).trans rfl
              have hcz19_17 : wr.cell? ⟨gb103, 17, none⟩ = some (.int .u8 a0_17) := (blk_cell BK103.out 17).trans rfl
              have hcz19_18 : wr.cell? ⟨gb103, 18, none⟩ = some (.int .u8 a0_18) := (blk_cell BK103.out 18).trans rfl
              have hcz19_19 : wr.cell? ⟨gb103, 19, none⟩ = some (.int .u8 a0_19) := (blk_cell BK103.out 19).trans rfl
              have hcz19_20 : wr.cell? ⟨gb103, 20, none⟩ = some (.int .u8 a0_20) := (blk_cell BK103.out 20).trans rfl
              have hcz19_21 : wr.cell? ⟨gb103, 21, none⟩ = some (.slice A0_21 l0_21.length c0_21) := (blk_cell BK103.out 21).trans rfl
              have hfz19_0 := blk_frozen BK103.out 0
              have hfz19_1 := blk_frozen BK103.out 1
              have hfz19_2 := blk_frozen BK103.out 2
              have hfz19_3 := blk_frozen BK103.out 3
              have hfz19_4 := blk_frozen BK103.out 4
              have hfz19_5 := blk_frozen BK103.out 5
              have hfz19_6 := blk_frozen BK103.out 6
              have hfz19_7 := blk_frozen BK103.out 7
              have hfz19_8 := blk_frozen BK103.out 8
              have hfz19_9 := blk_frozen BK103.out 9
              have hfz19_10 := blk_frozen BK103.out 10
              have hfz19_11 := blk_frozen BK103.out 11
              have hfz19_12 := blk_frozen BK103.out 12
              have hfz19_13 := blk_frozen BK103.out 13
              have hfz19_14 := blk_frozen BK103.out 14
              have hfz19_15 := blk_frozen BK103.out 15
              have hfz19_16 := blk_frozen BK103.out 16
              have hfz19_17 := blk_frozen BK103.out 17
              have hfz19_18 := blk_frozen BK103.out 18
              have hfz19_19 := blk_frozen BK103.out 19
              have hfz19_20 := blk_frozen BK103.out 20
              have hfz19_21 := blk_frozen BK103.out 21
              go_wp2
              go_loopg [4] k2 (fun kq v4 w' => ∃ (x4_3 : Int), v4 = .int .i64 x4_3 ∧ Aside0 (busbarref07_Few.l1 kq x4_3 a0_0 a0_1 a0_2 a0_3 a0_4 a0_5 a0_6 a0_7 a0_8 a0_9 a0_10 a0_11 l0_12 l0_13 l0_14 l0_15 a0_16 a0_17 a0_18 a0_19 a0_20 l0_21 = some r) ∧ Aside0 (kq ≤ k2) ∧ Aside0 (w'.heap[gb103]? = some (.cells #[.int .u8 a0_0, .int .u8 a0_1, .int .u16 a0_2, .int .u16 a0_3, .int .u16 a0_4, .int .u16 a0_5, .int .u16 a0_6, .int .u16 a0_7, .int .u16 a0_8, .int .u16 a0_9, .int .u16 a0_10, .int .u16 a0_11, (.slice A0_12 l0_12.length c0_12), (.slice A0_13 l0_13.length c0_13), (.slice A0_14 l0_14.length c0_14), (.slice A0_15 l0_15.length c0_15), .int .u8 a0_16, .int .u8 a0_17, .int .u8 a0_18, .int .u8 a0_19, .int .u8 a0_20, (.slice A0_21 l0_21.length c0_21)] 42 (0, 0))) ∧ Aside0 (Below w.heap.size w w'))
              case atStart => exact ⟨(0), (by first | rfl | (simp; done) | (simp [*]; done)), H', ⟨Nat.le_refl _⟩, ⟨by (with_reducible repeat (first | refine blk_drewN ?_ _ | refine blk_drew ?_ | refine blk_alloc ?_ _)); exact BK103.out⟩, ⟨by repeat (first | (with_reducible first | exact HB.out | apply below_alloc | apply pw_below_drewN | apply below_drew1 | refine below_set ?_ GE103.out) | exact HB.out)⟩⟩
              case round =>
                clear H'
                try clear c1
                try clear p1
                try clear q1
                try clear hx1
                try clear p2
                try clear c4
                try clear c4b0
                try clear c4b1
                try clear c6
                try clear c6b0
                try clear c6b1
                try clear p6
                try clear c8
                try clear c8b0
                try clear c8b1
                try clear c10
                try clear c10b0
                try clear c10b1
                try clear p10
                try clear q10
                try clear hx10
                try clear c13
                try clear c14
                try clear c14b0
                try clear c15
                try clear c15b0
                try clear c16
                try clear c16b0
                try clear c16b1
                try clear hcz11_0
                try clear hcz11_1
                try clear hcz11_10
                try clear hcz11_11
                try clear hcz11_12
                try clear hcz11_13
                try clear hcz11_14
                try clear hcz11_15
                try clear hcz11_16
                try clear hcz11_17
                try clear hcz11_18
                try clear hcz11_19
                try clear hcz11_2
                try clear hcz11_20
                try clear hcz11_21
                try clear hcz11_3
                try clear hcz11_4
                try clear hcz11_5
                try clear hcz11_6
                try clear hcz11_7
                try clear hcz11_8
                try clear hcz11_9
                try clear hcz12_0
                try clear hcz12_1
                try clear hcz12_10
                try clear hcz12_11
                try clear hcz12_12
                try clear hcz12_13
                try clear hcz12_14
                try clear hcz12_15
                try clear hcz12_16
                try clear hcz12_17
                try clear hcz12_18
                try clear hcz12_19
                try clear hcz12_2
                try clear hcz12_20
                try clear hcz12_21
                try clear hcz12_3
                try clear hcz12_4
                try clear hcz12_5
                try clear hcz12_6
                try clear hcz12_7
                try clear hcz12_8
                try clear hcz12_9
                try clear hcz17_0
                try clear hcz17_1
                try clear hcz17_10
                try clear hcz17_11
                try clear hcz17_12
                try clear hcz17_13
                try clear hcz17_14
                try clear hcz17_15
                try clear hcz17_16
                try clear hcz17_17
                try clear hcz17_18
                try clear hcz17_19
                try clear hcz17_2
                try clear hcz17_20
                try clear hcz17_21
                try clear hcz17_3
                try clear hcz17_4
                try clear hcz17_5
                try clear hcz17_6
                try clear hcz17_7
                try clear hcz17_8
                try clear hcz17_9
                try clear hcz18_0
                try clear hcz18_1
                try clear hcz18_10
                try clear hcz18_11
                try clear hcz18_12
                try clear hcz18_13
                try clear hcz18_14
                try clear hcz18_15
                try clear hcz18_16
                try clear hcz18_17
                try clear hcz18_18
                try clear hcz18_19
                try clear hcz18_2
                try clear hcz18_20
                try clear hcz18_21
                try clear hcz18_3
                try clear hcz18_4
                try clear hcz18_5
                try clear hcz18_6
                try clear hcz18_7
                try clear hcz18_8
                try clear hcz18_9
                try clear hcz19_0
                try clear hcz19_1
                try clear hcz19_10
                try clear hcz19_11
                try clear hcz19_12
                try clear hcz19_13
                try clear hcz19_14
                try clear hcz19_15
                try clear hcz19_16
                try clear hcz19_17
                try clear hcz19_18
                try clear hcz19_19
                try clear hcz19_2
                try clear hcz19_20
                try clear hcz19_21
                try clear hcz19_3
                try clear hcz19_4
                try clear hcz19_5
                try clear hcz19_6
                try clear hcz19_7
                try clear hcz19_8
                try clear hcz19_9
                try clear hcz5_0
                try clear hcz5_1
                try clear hcz5_10
                try clear hcz5_11
                try clear hcz5_12
                try clear hcz5_13
                try clear hcz5_14
                try clear hcz5_15
                try clear hcz5_16
                try clear hcz5_17
                try clear hcz5_18
                try clear hcz5_19
                try clear hcz5_2
                try clear hcz5_20
                try clear hcz5_21
                try clear hcz5_3
                try clear hcz5_4
                try clear hcz5_5
                try clear hcz5_6
                try clear hcz5_7
                try clear hcz5_8
                try clear hcz5_9
                try clear hcz7_0
                try clear hcz7_1
                try clear hcz7_10
                try clear hcz7_11
                try clear hcz7_12
                try clear hcz7_13
                try clear hcz7_14
                try clear hcz7_15
                try clear hcz7_16
                try clear hcz7_17
                try clear hcz7_18
                try clear hcz7_19
                try clear hcz7_2
                try clear hcz7_20
                try clear hcz7_21
                try clear hcz7_3
                try clear hcz7_4
                try clear hcz7_5
                try clear hcz7_6
                try clear hcz7_7
                try clear hcz7_8
                try clear hcz7_9
                try clear hcz9_0
                try clear hcz9_1
                try clear hcz9_10
                try clear hcz9_11
                try clear hcz9_12
                try clear hcz9_13
                try clear hcz9_14
                try clear hcz9_15
                try clear hcz9_16
                try clear hcz9_17
                try clear hcz9_18
                try clear hcz9_19
                try clear hcz9_2
                try clear hcz9_20
                try clear hcz9_21
                try clear hcz9_3
                try clear hcz9_4
                try clear hcz9_5
                try clear hcz9_6
                try clear hcz9_7
                try clear hcz9_8
                try clear hcz9_9
                try clear hfz11_0
                try clear hfz11_1
                try clear hfz11_10
                try clear hfz11_11
                try clear hfz11_12
                try clear hfz11_13
                try clear hfz11_14
                try clear hfz11_15
                try clear hfz11_16
                try clear hfz11_17
                try clear hfz11_18
                try clear hfz11_19
                try clear hfz11_2
                try clear hfz11_20
                try clear hfz11_21
                try clear hfz11_3
                try clear hfz11_4
                try clear hfz11_5
                try clear hfz11_6
                try clear hfz11_7
                try clear hfz11_8
                try clear hfz11_9
                try clear hfz12_0
                try clear hfz12_1
                try clear hfz12_10
                try clear hfz12_11
                try clear hfz12_12
                try clear hfz12_13
                try clear hfz12_14
                try clear hfz12_15
                try clear hfz12_16
                try clear hfz12_17
                try clear hfz12_18
                try clear hfz12_19
                try clear hfz12_2
                try clear hfz12_20
                try clear hfz12_21
                try clear hfz12_3
                try clear hfz12_4
                try clear hfz12_5
                try clear hfz12_6
                try clear hfz12_7
                try clear hfz12_8
                try clear hfz12_9
                try clear hfz17_0
                try clear hfz17_1
                try clear hfz17_10
                try clear hfz17_11
                try clear hfz17_12
                try clear hfz17_13
                try clear hfz17_14
                try clear hfz17_15
                try clear hfz17_16
                try clear hfz17_17
                try clear hfz17_18
                try clear hfz17_19
                try clear hfz17_2
                try clear hfz17_20
                try clear hfz17_21
                try clear hfz17_3
                try clear hfz17_4
                try clear hfz17_5
                try clear hfz17_6
                try clear hfz17_7
                try clear hfz17_8
                try clear hfz17_9
                try clear hfz18_0
                try clear hfz18_1
                try clear hfz18_10
                try clear hfz18_11
                try clear hfz18_12
                try clear hfz18_13
                try clear hfz18_14
                try clear hfz18_15
                try clear hfz18_16
                try clear hfz18_17
                try clear hfz18_18
                try clear hfz18_19
                try clear hfz18_2
                try clear hfz18_20
                try clear hfz18_21
                try clear hfz18_3
                try clear hfz18_4
                try clear hfz18_5
                try clear hfz18_6
                try clear hfz18_7
                try clear hfz18_8
                try clear hfz18_9
                try clear hfz19_0
                try clear hfz19_1
                try clear hfz19_10
                try clear hfz19_11
                try clear hfz19_12
                try clear hfz19_13
                try clear hfz19_14
                try clear hfz19_15
                try clear hfz19_16
                try clear hfz19_17
                try clear hfz19_18
                try clear hfz19_19
                try clear hfz19_2
                try clear hfz19_20
                try clear hfz19_21
                try clear hfz19_3
                try clear hfz19_4
                try clear hfz19_5
                try clear hfz19_6
                try clear hfz19_7
                try clear hfz19_8
                try clear hfz19_9
                try clear hfz5_0
                try clear hfz5_1
                try clear hfz5_10
                try clear hfz5_11
                try clear hfz5_12
                try clear hfz5_13
                try clear hfz5_14
                try clear hfz5_15
                try clear hfz5_16
                try clear hfz5_17
                try clear hfz5_18
                try clear hfz5_19
                try clear hfz5_2
                try clear hfz5_20
                try clear hfz5_21
                try clear hfz5_3
                try clear hfz5_4
                try clear hfz5_5
                try clear hfz5_6
                try clear hfz5_7
                try clear hfz5_8
                try clear hfz5_9
                try clear hfz7_0
                try clear hfz7_1
                try clear hfz7_10
                try clear hfz7_11
                try clear hfz7_12
                try clear hfz7_13
                try clear hfz7_14
                try clear hfz7_15
                try clear hfz7_16
                try clear hfz7_17
                try clear hfz7_18
                try clear hfz7_19
                try clear hfz7_2
                try clear hfz7_20
                try clear hfz7_21
                try clear hfz7_3
                try clear hfz7_4
                try clear hfz7_5
                try clear hfz7_6
                try clear hfz7_7
                try clear hfz7_8
                try clear hfz7_9
                try clear hfz9_0
                try clear hfz9_1
                try clear hfz9_10
                try clear hfz9_11
                try clear hfz9_12
                try clear hfz9_13
                try clear hfz9_14
                try clear hfz9_15
                try clear hfz9_16
                try clear hfz9_17
                try clear hfz9_18
                try clear hfz9_19
                try clear hfz9_2
                try clear hfz9_20
                try clear hfz9_21
                try clear hfz9_3
                try clear hfz9_4
                try clear hfz9_5
                try clear hfz9_6
                try clear hfz9_7
                try clear hfz9_8
                try clear hfz9_9
                try clear hx104_0
                try clear hx104_1
                try clear hx104_2
                try clear hx104_3
                try clear p104
                try clear p2
                try clear q104
                obtain ⟨x4_3, rfl, HA, HK3, BK103, HB⟩ := hrel
                cases gk with
                | zero => exact absurd HA.out (by simp [busbarref07_Few.l1])
                | succ k3 =>
                  have H := HA.out
                  clear HA
                  simp only [busbarref07_Few.l1] at H
                  by_cases c20 : x4_3 < (l0_21.length : Int)
                  · rw [if_pos c20] at H
                    have c20b0 : decide (x4_3 < (l0_21.length : Int)) = true := decide_eq_true c20
                    clear c20
                    by_cases c21 : 0 ≤ x4_3
                    · rw [if_pos c21] at H
                      have c21b0 : decide (0 ≤ x4_3) = true := decide_eq_true c21
                      clear c21
                      by_cases c22 : (((rd_T84 l0_21 x4_3).f1).length : Int) > 300
                      · rw [if_pos c22] at H
                        have c22b0 : decide (300 < (((rd_T84 l0_21 x4_3).f1).length : Int)) = true := decide_eq_true c22
                        have c22b1 : decide (300 < ((rd_T84 l0_21 x4_3).f1).length) = true := decide_eq_true (by omega)
                        clear c22
                        obtain rfl := Option.some.inj H
                        have hcz23_0 : wr.cell? ⟨gb103, 0, none⟩ = some (.int .u8 a0_0) := (blk_cell BK103.out 0).trans rfl
                        have hcz23_1 : wr.cell? ⟨gb103, 1, none⟩ = some (.int .u8 a0_1) := (blk_cell BK103.out 1).trans rfl
                        have hcz23_2 : wr.cell? ⟨gb103, 2, none⟩ = some (.int .u16 a0_2) := (blk_cell BK103.out 2).trans rfl
                        have hcz23_3 : wr.cell? ⟨gb103, 3, none⟩ = some (.int .u16 a0_3) := (blk_cell BK103.out 3).trans rfl
                        have hcz23_4 : wr.cell? ⟨gb103, 4, none⟩ = some (.int .u16 a0_4) := (blk_cell BK103.out 4).trans rfl
                        have hcz23_5 : wr.cell? ⟨gb103, 5, none⟩ = some (.int .u16 a0_5) := (blk_cell BK103.out 5).trans rfl
                        have hcz23_6 : wr.cell? ⟨gb103, 6, none⟩ = some (.int .u16 a0_6) := (blk_cell BK103.out 6).trans rfl
                        have hcz23_7 : wr.cell? ⟨gb103, 7, none⟩ = some (.int .u16 a0_7) := (blk_cell BK103.out 7).trans rfl
                        have hcz23_8 : wr.cell? ⟨gb103, 8, none⟩ = some (.int .u16 a0_8) := (blk_cell BK103.out 8).trans rfl
                        have hcz23_9 : wr.cell? ⟨gb103, 9, none⟩ = some (.int .u16 a0_9) := (blk_cell BK103.out 9).trans rfl
                        have hcz23_10 : wr.cell? ⟨gb103, 10, none⟩ = some (.int .u16 a0_10) := (blk_cell BK103.out 10).trans rfl
                        have hcz23_11 : wr.cell? ⟨gb103, 11, none⟩ = some (.int .u16 a0_11) := (blk_cell BK103.out 11).trans rfl
                        have hcz23_12 : wr.cell? ⟨gb103, 12, none⟩ = some (.slice A0_12 l0_12.length c0_12) := (blk_cell BK103.out 12).trans rfl
                        have hcz23_13 : wr.cell? ⟨gb103, 13, none⟩ = some (.slice A0_13 l0_13.length c0_13) := (blk_cell BK103.out 13).trans rfl
                        have hcz23_14 : wr.cell? ⟨gb103, 14, none⟩ = some (.slice A0_14 l0_14.length c0_14) := (blk_cell BK103.out 14).trans rfl
                        have hcz23_15 : wr.cell? ⟨gb103, 15, none⟩ = some (.slice A0_15 l0_15.length c0_15) := (blk_cell BK103.out 15).trans rfl
                        have hcz23_16 : wr.cell? ⟨gb103, 16, none⟩ = some (.int .u8 a0_16) := (blk_cell BK103.out 16).trans rfl
                        have hcz23_17 : wr.cell? ⟨gb103, 17, none⟩ = some (.int .u8 a0_17) := (blk_cell BK103.out 17).trans rfl
                        have hcz23_18 : wr.cell? ⟨gb103, 18, none⟩ = some (.int .u8 a0_18) := (blk_cell BK103.out 18).trans rfl
                        have hcz23_19 : wr.cell? ⟨gb103, 19, none⟩ = some (.int .u8 a0_19) := (blk_cell BK103.out 19).trans rfl
                        have hcz23_20 : wr.cell? ⟨gb103, 20, none⟩ = some (.int .u8 a0_20) := (blk_cell BK103.out 20).trans rfl
                        have hcz23_21 : wr.cell? ⟨gb103, 21, none⟩ = some (.slice A0_21 l0_21.length c0_21) := (blk_cell BK103.out 21).trans rfl
                        have hfz23_0 := blk_frozen BK103.out 0
                        have hfz23_1 := blk_frozen BK103.out 1
                        have hfz23_2 := blk_frozen BK103.out 2
                        have hfz23_3 := blk_frozen BK103.out 3
                        have hfz23_4 := blk_frozen BK103.out 4
                        have hfz23_5 := blk_frozen BK103.out 5
                        have hfz23_6 := blk_frozen BK103.out 6
                        have hfz23_7 := blk_frozen BK103.out 7
                        have hfz23_8 := blk_frozen BK103.out 8
                        have hfz23_9 := blk_frozen BK103.out 9
                        have hfz23_10 := blk_frozen BK103.out 10
                        have hfz23_11 := blk_frozen BK103.out 11
                        have hfz23_12 := blk_frozen BK103.out 12
                        have hfz23_13 := blk_frozen BK103.out 13
                        have hfz23_14 := blk_frozen BK103.out 14
                        have hfz23_15 := blk_frozen BK103.out 15
                        have hfz23_16 := blk_frozen BK103.out 16
                        have hfz23_17 := blk_frozen BK103.out 17
                        have hfz23_18 := blk_frozen BK103.out 18
                        have hfz23_19 := blk_frozen BK103.out 19
                        have hfz23_20 := blk_frozen BK103.out 20
                        have hfz23_21 := blk_frozen BK103.out 21
                        have p105 : 0 ≤ (x4_3 : Int) := of_decide_eq_true (by first | (with_reducible assumption) | assumption)
                        have q105 : x4_3 < (l0_21.length : Int) := of_decide_eq_true (by first | (with_reducible assumption) | assumption)
                        obtain ⟨ad105, A105_1, c105_1, e105, hx105_0, hx105_1, hl105_1, hi105_1⟩ := at_T84 HR0_21.out x4_3 p105 q105
                        cases e105
                        replace hx105_0 := (HB.out.cell (World.block_lt_of_cell? w _ hx105_0)).trans hx105_0
                        replace hx105_1 := (HB.out.cell (World.block_lt_of_cell? w _ hx105_1)).trans hx105_1
                        have HR105_1 := Aside0.mk hi105_1
                        have HC105_1 := Aside0.mk hl105_1
                        clear hi105_1 hl105_1
                        replace p105 := eq_true p105
                        replace q105 := eq_true q105
                        go_wp2
                        go_ret
                        exact ⟨by first | rfl | (simp [errW_none, errW_some] <;> rfl) | (simp [*, errW_none, errW_some] <;> rfl), by repeat (first | (with_reducible first | exact HB.out | apply below_alloc | apply pw_below_drewN | apply below_drew1 | refine below_set ?_ GE103.out) | exact HB.out)⟩
                      · rw [if_neg c22] at H
                        have c22b0 : decide (300 < (((rd_T84 l0_21 x4_3).f1).length : Int)) = false := decide_eq_false c22
                        have c22b1 : decide (300 < ((rd_T84 l0_21 x4_3).f1).length) = false := decide_eq_false (by omega)
                        clear c22
                        have H' := Aside0.mk H
                        clear H
                        have hcz24_0 : wr.cell? ⟨gb103, 0, none⟩ = some (.int .u8 a0_0) := (blk_cell BK103.out 0).trans rfl
                        have hcz24_1 : wr.cell? ⟨gb103, 1, none⟩ = some (.int .u8 a0_1) := (blk_cell BK103.out 1).trans rfl
                        have hcz24_2 : wr.cell? ⟨gb103, 2, none⟩ = some (.int .u16 a0_2) := (blk_cell BK103.out 2).trans rfl
                        have hcz24_3 : wr.cell? ⟨gb103, 3, none⟩ = some (.int .u16 a0_3) := (blk_cell BK103.out 3).trans rfl
                        have hcz24_4 : wr.cell? ⟨gb103, 4, none⟩ = some (.int .u16 a0_4) := (blk_cell BK103.out 4).trans rfl
                        have hcz24_5 : wr.cell? ⟨gb103, 5, none⟩ = some (.int .u16 a0_5) := (blk_cell BK103.out 5).trans rfl
                        have hcz24_6 : wr.cell? ⟨gb103, 6, none⟩ = some (.int .u16 a0_6) := (blk_cell BK103.out 6).trans rfl
                        have hcz24_7 : wr.cell? ⟨gb103, 7, none⟩ = some (.int .u16 a0_7) := (blk_cell BK103.out 7).trans rfl
                        have hcz24_8 : wr.cell? ⟨gb103, 8, none⟩ = some (.int .u16 a0_8) := (blk_cell BK103.out 8).trans rfl
                        have hcz24_9 : wr.cell? ⟨gb103, 9, none⟩ = some (.int .u16 a0_9) := (blk_cell BK103.out 9).trans rfl
                        have hcz24_10 : wr.cell? ⟨gb103, 10, none⟩ = some (.int .u16 a0_10) := (blk_cell BK103.out 10).trans rfl
                        have hcz24_11 : wr.cell? ⟨gb103, 11, none⟩ = some (.int .u16 a0_11) := (blk_cell BK103.out 11).trans rfl
                        have hcz24_12 : wr.cell? ⟨gb103, 12, none⟩ = some (.slice A0_12 l0_12.length c0_12) := (blk_cell BK103.out 12).trans rfl
                        have hcz24_13 : wr.cell? ⟨gb103, 13, none⟩ = some (.slice A0_13 l0_13.length c0_13) := (blk_cell BK103.out 13).trans rfl
                        have hcz24_14 : wr.cell? ⟨gb103, 14, none⟩ = some (.slice A0_14 l0_14.length c0_14) := (blk_cell BK103.out 14).trans rfl
                        have hcz24_15 : wr.cell? ⟨gb103, 15, none⟩ = some (.slice A0_15 l0_15.length c0_15) := (blk_cell BK103.out 15).trans rfl
                        have hcz24_16 : wr.cell? ⟨gb103, 16, none⟩ = some (.int .u8 a0_16) := (blk_cell BK103.out 16).trans rfl
                        have hcz24_17 : wr.cell? ⟨gb103, 17, none⟩ = some (.int .u8 a0_17) := (blk_cell BK103.out 17).trans rfl
                        have hcz24_18 : wr.cell? ⟨gb103, 18, none⟩ = some (.int .u8 a0_18) := (blk_cell BK103.out 18).trans rfl
                        have hcz24_19 : wr.cell? ⟨gb103, 19, none⟩ = some (.int .u8 a0_19) := (blk_cell BK103.out 19).trans rfl
                        have hcz24_20 : wr.cell? ⟨gb103, 20, none⟩ = some (.int .u8 a0_20) := (blk_cell BK103.out 20).trans rfl
                        have hcz24_21 : wr.cell? ⟨gb103, 21, none⟩ = some (.slice A0_21 l0_21.length c0_21) := (blk_cell BK103.out 21).trans rfl
                        have hfz24_0 := blk_frozen BK103.out 0
                        have hfz24_1 := blk_frozen BK103.out 1
                        have hfz24_2 := blk_frozen BK103.out 2
                        have hfz24_3 := blk_frozen BK103.out 3
                        have hfz24_4 := blk_frozen BK103.out 4
                        have hfz24_5 := blk_frozen BK103.out 5
                        have hfz24_6 := blk_frozen BK103.out 6
                        have hfz24_7 := blk_frozen BK103.out 7
                        have hfz24_8 := blk_frozen BK103.out 8
                        have hfz24_9 := blk_frozen BK103.out 9
                        have hfz24_10 := blk_frozen BK103.out 10
                        have hfz24_11 := blk_frozen BK103.out 11
                        have hfz24_12 := blk_frozen BK103.out 12
                        have hfz24_13 := blk_frozen BK103.out 13
                        have hfz24_14 := blk_frozen BK103.out 14
                        have hfz24_15 := blk_frozen BK103.out 15
                        have hfz24_16 := blk_frozen BK103.out 16
                        have hfz24_17 := blk_frozen BK103.out 17
                        have hfz24_18 := blk_frozen BK103.out 18
                        have hfz24_19 := blk_frozen BK103.out 19
                        have hfz24_20 := blk_frozen BK103.out 20
                        have hfz24_21 := blk_frozen BK103.out 21
                        have p105 : 0 ≤ (x4_3 : Int) := of_decide_eq_true (by first | (with_reducible assumption) | assumption)
                        have q105 : x4_3 < (l0_21.length : Int) := of_decide_eq_true (by first | (with_reducible assumption) | assumption)
                        obtain ⟨ad105, A105_1, c105_1, e105, hx105_0, hx105_1, hl105_1, hi105_1⟩ := at_T84 HR0_21.out x4_3 p105 q105
                        cases e105
                        replace hx105_0 := (HB.out.cell (World.block_lt_of_cell? w _ hx105_0)).trans hx105_0
                        replace hx105_1 := (HB.out.cell (World.block_lt_of_cell? w _ hx105_1)).trans hx105_1
                        have HR105_1 := Aside0.mk hi105_1
                        have HC105_1 := Aside0.mk hl105_1
                        clear hi105_1 hl105_1
                        replace p105 := eq_true p105
                        replace q105 := eq_true q105
                        go_wp2
                        go_roundg k3
                        case measure => have := HJ1.out; have := HK2.out; have := HK3.out; omega
                        case rel => exact ⟨(wrap64 (x4_3 + 1)), (by first | rfl | (simp; done) | (simp [*]; done)), H', ⟨by have := HJ1.out; have := HK2.out; have := HK3.out; omega⟩, ⟨by (with_reducible repeat (first | refine blk_drewN ?_ _ | refine blk_drew ?_ | refine blk_alloc ?_ _)); exact BK103.out⟩, ⟨by repeat (first | (with_reducible first | exact HB.out | apply below_alloc | apply pw_below_drewN | apply below_drew1 | refine below_set ?_ GE103.out) | exact HB.out)⟩⟩
                    · rw [if_neg c21] at H
                      exact absurd H (by simp)
                  · rw [if_neg c20] at H
                    have c20b0 : decide (x4_3 < (l0_21.length : Int)) = false := decide_eq_false c20
                    clear c20
                    obtain rfl := Option.some.inj H
                    have hcz25_0 : wr.cell? ⟨gb103, 0, none⟩ = some (.int .u8 a0_0) := (blk_cell BK103.out 0).trans rfl
                    have hcz25_1 : wr.cell? ⟨gb103, 1, none⟩ = some (.int .u8 a0_1) := (blk_cell BK103.out 1).trans rfl
                    have hcz25_2 : wr.cell? ⟨gb103, 2, none⟩ = some (.int .u16 a0_2) := (blk_cell BK103.out 2).trans rfl
                    have hcz25_3 : wr.cell? ⟨gb103, 3, none⟩ = some (.int .u16 a0_3) := (blk_cell BK103.out 3).trans rfl
                    have hcz25_4 : wr.cell? ⟨gb103, 4, none⟩ = some (.int .u16 a0_4) := (blk_cell BK103.out 4).trans rfl
                    have hcz25_5 : wr.cell? ⟨gb103, 5, none⟩ = some (.int .u16 a0_5) := (blk_cell BK103.out 5).trans rfl
                    have hcz25_6 : wr.cell? ⟨gb103, 6, none⟩ = some (.int .u16 a0_6) := (blk_cell BK103.out 6).trans rfl
                    have hcz25_7 : wr.cell? ⟨gb103, 7, none⟩ = some (.int .u16 a0_7) := (blk_cell BK103.out 7).trans rfl
                    have hcz25_8 : wr.cell? ⟨gb103, 8, none⟩ = some (.int .u16 a0_8) := (blk_cell BK103.out 8).trans rfl
                    have hcz25_9 : wr.cell? ⟨gb103, 9, none⟩ = some (.int .u16 a0_9) := (blk_cell BK103.out 9).trans rfl
                    have hcz25_10 : wr.cell? ⟨gb103, 10, none⟩ = some (.int .u16 a0_10) := (blk_cell BK103.out 10).trans rfl
                    have hcz25_11 : wr.cell? ⟨gb103, 11, none⟩ = some (.int .u16 a0_11) := (blk_cell BK103.out 11).trans rfl
                    have hcz25_12 : wr.cell? ⟨gb103, 12, none⟩ = some (.slice A0_12 l0_12.length c0_12) := (blk_cell BK103.out 12).trans rfl
                    have hcz25_13 : wr.cell? ⟨gb103, 13, none⟩ = some (.slice A0_13 l0_13.length c0_13) := (blk_cell BK103.out 13).trans rfl
                    have hcz25_14 : wr.cell? ⟨gb103, 14, none⟩ = some (.slice A0_14 l0_14.length c0_14) := (blk_cell BK103.out 14).trans rfl
                    have hcz25_15 : wr.cell? ⟨gb103, 15, none⟩ = some (.slice A0_15 l0_15.length c0_15) := (blk_cell BK103.out 15).trans rfl
                    have hcz25_16 : wr.cell? ⟨gb103, 16, none⟩ = some (.int .u8 a0_16) := (blk_cell BK103.out 16).trans rfl
                    have hcz25_17 : wr.cell? ⟨gb103, 17, none⟩ = some (.int .u8 a0_17) := (blk_cell BK103.out 17).trans rfl
                    have hcz25_18 : wr.cell? ⟨gb103, 18, none⟩ = some (.int .u8 a0_18) := (blk_cell BK103.out 18).trans rfl
                    have hcz25_19 : wr.cell? ⟨gb103, 19, none⟩ = some (.int .u8 a0_19) := (blk_cell BK103.out 19).trans rfl
                    have hcz25_20 : wr.cell? ⟨gb103, 20, none⟩ = some (.int .u8 a0_20) := (blk_cell BK103.out 20).trans rfl
                    have hcz25_21 : wr.cell? ⟨gb103, 21, none⟩ = some (.slice A0_21 l0_21.length c0_21) := (blk_cell BK103.out 21).trans rfl
                    have hfz25_0 := blk_frozen BK103.out 0
                    have hfz25_1 := blk_frozen BK103.out 1
                    have hfz25_2 := blk_frozen BK103.out 2
                    have hfz25_3 := blk_frozen BK103.out 3
                    have hfz25_4 := blk_frozen BK103.out 4
                    have hfz25_5 := blk_frozen BK103.out 5
                    have hfz25_6 := blk_frozen BK103.out 6
                    have hfz25_7 := blk_frozen BK103.out 7
                    have hfz25_8 := blk_frozen BK103.out 8
                    have hfz25_9 := blk_frozen BK103.out 9
                    have hfz25_10 := blk_frozen BK103.out 10
                    have hfz25_11 := blk_frozen BK103.out 11
                    have hfz25_12 := blk_frozen BK103.out 12
                    have hfz25_13 := blk_frozen BK103.out 13
                    have hfz25_14 := blk_frozen BK103.out 14
                    have hfz25_15 := blk_frozen BK103.out 15
                    have hfz25_16 := blk_frozen BK103.out 16
                    have hfz25_17 := blk_frozen BK103.out 17
                    have hfz25_18 := blk_frozen BK103.out 18
                    have hfz25_19 := blk_frozen BK103.out 19
                    have hfz25_20 := blk_frozen BK103.out 20
                    have hfz25_21 := blk_frozen BK103.out 21
                    go_wp2
                    go_ret
                    exact ⟨by first | rfl | (simp [errW_none, errW_some] <;> rfl) | (simp [*, errW_none, errW_some] <;> rfl), by repeat (first | (with_reducible first | exact HB.out | apply below_alloc | apply pw_below_drewN | apply below_drew1 | refine below_set ?_ GE103.out) | exact HB.out)⟩

end Go.Proofs.Ytmbjlondehcheaa.PFW
