/- TopTalk: the law's row and card: whatever framing, frames and reasons come in, TopTalk returns true, and each argument reads behind the call as it read before. -/
import Derived.Test.YtmbjlondehcheaaGreatDoorM30
import Derived.Test.YtmbjlondehcheaaGreatDoorM31
import Derived.Test.YtmbjlondehcheaaGreatDoorCards
import Derived.Test.YtmbjlondehcheaaGreatDoorTie
import Derived.ProofKit
import Derived.ShutString
import Derived.ChangeOld
import Derived.SizedLaws
import Derived.Lib.SmallJoins
import Derived.LaidMore
import Derived.Stop.Joined
import Derived.SevenTiedAt
section
set_option linter.unusedVariables false
namespace Go.Proofs.YtmbjlondehcheaaGreatDoor.topTalk
open Go.ChangeShapes Go.WideShapes Go.ChangeAt Go.RowKit Go.Joins Go.Proofs.YtmbjlondehcheaaGreatDoorW.PrintWords Go.Proofs.YtmbjlondehcheaaGreatDoorW.PrintLast Go.Proofs.YtmbjlondehcheaaGreatDoor.PTopTalk
theorem own : ownKnob Tryz.prog.godebug = none := by kernel_rfl
theorem laidOut : laidOutB Tryz.prog = true := by kernel_rfl
theorem wf_u8 {a : Int} (h : (Lit.int .u8 a).wf = true) : 0 ≤ a ∧ a < 256 := ⟨(bounds_u8 h).1, by have := (bounds_u8 h).2; omega⟩
theorem walk (a0 : Int) (ha0 : 0 ≤ a0 ∧ a0 < 256) (w : World) (A1 : Option Addr) (c1 : Nat) (l : List S37) (A2 : Option Addr) (c2 : Nat) (b : List Int) (hl : Kd.C k37 w A1 l.length l) (hb : By w (.slice A2 b.length c2) b) (hbO : Oct b)
    (hwf : ∀ i (h : i < l.length), (0 ≤ l[i].f0.f0 ∧ l[i].f0.f0 < 256) ∧ (0 ≤ l[i].f0.f1 ∧ l[i].f0.f1 < 65536) ∧ WfM l[i].f1) :
    Calls Tryz.prog 3 #[.int .u8 a0, .slice A1 l.length c1, .slice A2 b.length c2] w fun r w' => r = .returned (.bool true) ∧ Kept w w' (fun _ => False) := by
  have h0 := Int.tmod_nonneg 3 ha0.1
  have h1 := Int.tmod_lt_of_pos a0 (show (0 : Int) < 3 by decide)
  have hk : a0.tmod 3 = 0 ∨ a0.tmod 3 = 1 ∨ a0.tmod 3 = 2 := by omega
  rcases hk with hk | hk | hk
  · exact talk_calls fram0 (fun u t h1 h2 h3 => ⟨h1, h2, if_neg (by decide)⟩) awake_calls a0 ha0 hk w A1 c1 l A2 c2 b hl hb hbO hwf
  · exact talk_calls fram1 (fun u t h1 h2 h3 => ⟨h1, h2, if_neg (by decide)⟩) awake_calls a0 ha0 hk w A1 c1 l A2 c2 b hl hb hbO hwf
  · exact talk_calls fram2 (fun u t h1 h2 h3 => by rw [if_pos rfl]; exact ⟨h1, h2, h3⟩) awake_calls a0 ha0 hk w A1 c1 l A2 c2 b hl hb hbO hwf
theorem door_met (os : Os) (args : Array Value) : laidMetH Tryz.prog Rows.topTalkRow.laid ((World.doorLaid Tryz.prog 400 os).forCall (fun _ _ => 0) ⟨#[], args, []⟩).memory :=
  laidMetH_of_parts3 (fuel := 8) (laidMet_of_run' 8 (by kernel_rfl) (by kernel_rfl)) (by kernel_rfl) (by kernel_rfl)
set_option maxRecDepth 100000 in
theorem lifted (os : Os) (started : os.Started) (H : Type) (enc : TypeId × Value → H) :
    ReturnsInHanded {} Tryz.checked os 3 .any (fun w args => (Rows.topTalkSpec.pre enc Tryz.prog Tryz.f3 [] false w args ∧ laidMetH Tryz.prog Rows.topTalkRow.laid w) ∧ sizedMet enc Tryz.prog Tryz.f3 (OpenSpec.ofChange Rows.topTalkSpec) false w args)
      (Rows.topTalkSpec.post enc Tryz.prog Tryz.f3 false true false false) := by
  refine returnsInHanded_of_change_and (C := Tryz.checked) (X := fun w _ => laidMetH Tryz.prog Rows.topTalkRow.laid w) (fun _ _ _ hh h => h.of_heap hh) own started (by kernel_rfl) Tryz.func3
    (ChangeSpec.witness_shaped (enc := enc) (C := Tryz.checked) (os := os) (X := fun w _ => laidMetH Tryz.prog Rows.topTalkRow.laid w) false (World.doorLaid Tryz.prog 400 os) #[.int .u8 0, .slice none 0 0, .slice none 0 0] 8 rfl (World.shaped_of_RefB (by kernel_rfl) (by kernel_rfl)) (by kernel_rfl) (by kernel_rfl) (by kernel_rfl) (door_met os _)) ?_
  intro W base args ds gs before hval0 hW _ _ hL _
  have hval : ∀ (j : Nat) t v, Tryz.f3.params[j]? = some t → args[j]? = some v → Value.okWide Tryz.prog W .any base t v := hval0
  have hW' := hW
  obtain ⟨p, q, hA0, hV, rfl, hfz, hnd⟩ := hW
  have hA : DataW.TrodAll enc Tryz.prog W 0 (fun _ => true) true Tryz.f3.params.toList args.toList ds p := hA0
  rw [Tryz.params3] at hA hval
  obtain ⟨v0, vs0, d0, ds0, p0, q0, hargs, rfl, rfl, h0, r0⟩ := trodAll_cons hA
  obtain ⟨v1, vs1, d1, ds1, p1, q1, rfl, rfl, rfl, h1, r1⟩ := trodAll_cons r0
  obtain ⟨v2, vs2, d2, ds2, p2, q2, rfl, rfl, rfl, h2, r2⟩ := trodAll_cons r1
  obtain ⟨rfl, rfl, rfl⟩ := trodAll_nil r2
  obtain rfl : args = #[v0, v1, v2] := by cases args; simp_all
  obtain ⟨rfl, rfl⟩ := trodVars_none hV
  have k0 := h0
  have lt0 : ∀ x ∈ p0, x.block < W.heap.size := by obtain ⟨m, hm⟩ := k0; exact DataW.trod_lt m _ _ _ hm
  obtain ⟨a0, rfl, hd0, hp0, w0⟩ := open_int Tryz.underlying5 (hval 0 5 v0 rfl rfl) h0
  have k1 := h1
  have lt1 : ∀ x ∈ p1, x.block < W.heap.size := by obtain ⟨m, hm⟩ := k1; exact DataW.trod_lt m _ _ _ hm
  obtain ⟨a1, len1, cap1, rfl⟩ := okWide_slice Tryz.underlying22 (hval 1 22 v1 rfl rfl)
  obtain ⟨l1, rfl, hle1, hC1, hB1⟩ := open_frames h1
  have k2 := h2
  have lt2 : ∀ x ∈ p2, x.block < W.heap.size := by obtain ⟨m, hm⟩ := k2; exact DataW.trod_lt m _ _ _ hm
  obtain ⟨a2, len2, cap2, rfl⟩ := okWide_slice Tryz.underlying23 (hval 2 23 v2 rfl rfl)
  obtain ⟨l2, rfl, hb2, ho2⟩ := open_bytes h2
  clear hA0 hval0 hL
  refine (walk a0 (wf_u8 w0) W a1 cap1 l1 a2 cap2 l2 hC1 hb2 ho2 hB1).mono fun e W' ⟨he, kept⟩ => ?_
  subst he
  have bel := kept.below (Nat.le_refl _) (fun _ _ h => h)
  exact ⟨_, rfl, _, _, _, [], _, [], hW', trodAll_mk1 (shut_bool Tryz.underlying4 _), (trodAll_cons_mk (Below.trod laidOut (by kernel_rfl) (of_decide_eq_true (by kernel_rfl)) k0 bel lt0) (trodAll_cons_mk (Below.trod laidOut (by kernel_rfl) (of_decide_eq_true (by kernel_rfl)) k1 bel lt1) (trodAll_cons_mk (Below.trod laidOut (by kernel_rfl) (of_decide_eq_true (by kernel_rfl)) k2 bel lt2) trodAll_mk0))), rfl, bel.frame _, fun h => by cases h⟩
theorem over : Rows.topTalkRow.holds Tryz.pinned (OpenSpec.ofChange Rows.topTalkSpec) :=
  OpenClaim.holds_of_wide 3 Tryz.f3 rfl rfl rfl rfl rfl rfl rfl ⟨rfl, rfl, rfl, rfl, rfl⟩ rfl rfl rfl rfl rfl (by kernel_rfl) Tryz.func3 (by kernel_rfl)
    (of_decide_eq_true (by kernel_rfl)) (by unfold Func.isWrapper; first | (rw [if_pos (by decide +kernel)]; kernel_rfl) | (rw [if_neg (by decide +kernel)]; exact ⟨rfl, rfl⟩))
    (fun os started H enc _ => lifted os started H enc)
theorem proved : Rows.TopTalkSaid := over
theorem card : Rows.TopTalkCardSaid :=
  Claim7.holds_tied_plain_at .later [] [.data, .data, .data] true (true, "e1bdbd59e088869df4076884200c9cd75142ed87bbaf7d968ccd235766ae3a9b") true
    proved (fun _ h => by cases h) (by kernel_rfl) (fun _ h => by cases h) topTalk_row_tie rfl ⟨rfl, rfl⟩ (by kernel_rfl) rfl
    (fun f fn hf hfn => by
      obtain rfl : f = 3 := Option.some.inj ((show Tryz.prog.funcNamed "busbar/busbartop.TopTalk" = some 3 by kernel_rfl).symm.trans hf) |>.symm
      obtain rfl : fn = Tryz.f3 := (Option.some.inj (Tryz.func3.symm.trans hfn)).symm
      exact ⟨by kernel_rfl, fun j t ht => by
        rw [Tryz.params3] at ht
        have hm : t ∈ [5, 22, 23] := by simpa using Array.mem_of_getElem? ht
        have hall : ([5, 22, 23].all fun u => !Tryz.prog.wantsStandIn u) = true := by kernel_rfl
        exact (show Tryz.prog.wantsStandIn t = false by simpa using List.all_eq_true.1 hall t hm)⟩)
    (by kernel_rfl)
end Go.Proofs.YtmbjlondehcheaaGreatDoor.topTalk
namespace Go.Proofs.YtmbjlondehcheaaGreatDoor
theorem topTalk_holds : Rows.TopTalkCardSaid := topTalk.card
end Go.Proofs.YtmbjlondehcheaaGreatDoor
end
