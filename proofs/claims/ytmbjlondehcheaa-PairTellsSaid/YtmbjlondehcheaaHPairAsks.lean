/- (*Pairs).asks: what asking comes to. -/
import Derived.Test.YtmbjlondehcheaaProg
import Derived.Below
import Derived.OneCell
import Derived.WalkKit
import Derived.KernelRfl
import Derived.RowKit3
import Derived.Deep.LoopGhost
import Derived.Deep.QuietTactic
import Derived.BigQuiet
import Derived.Deep.DeepCutAuto
import Derived.Deep.CutBlock
import Derived.Deep.RegionWith
import Derived.OwnWalk
import Derived.Laws.Tables
import Derived.Laws.AppendOwn
import Derived.Shelf.SlSortCmp.KitK
import Derived.Shelf.RegionOpenPlain
import Derived.Sort.WalkB2
import Derived.Deep.MidRow
import Derived.Great.Walk
import Derived.Test.YtmbjlondehcheaaWWords
import Derived.Test.YtmbjlondehcheaaWLast
import Derived.Laws.StructEq
import Derived.Maps.Own
import Derived.Maps.RangeRun
import Derived.Test.YtmbjlondehcheaaHPairNote
set_option linter.unusedSimpArgs false
set_option linter.unusedVariables false
namespace Go.Proofs.Ytmbjlondehcheaa
open Go.Shelf Go.RowKit Go.Lib Go.Sort Go.Proofs.YtmbjlondehcheaaW.PrintWords Go.Proofs.YtmbjlondehcheaaW.PrintLast

set_option maxHeartbeats 400000 in
set_option maxRecDepth 1000000 in
theorem asks_calls (w : World) (pb : Nat) (net : Bool) (B : Nat) (S : List Slot) (L : List Ent) (all : Nat) (f : Fr) (hP : PS w pb net B S L all) (h1 : net = false → L.length ≤ 1) (hy : all < 1000000) :
    Calls Try.prog 19 #[.pointer (some ⟨pb, 0, none⟩), .agg f.cs.toArray] w fun r w' => ∃ v, r = .returned v ∧ Fin w w' pb net B S v (ask net L all f).1 (ask net L all f).2.1 (ask net L all f).2.2 := by
  have k1 : Kept w (w.alloc (.cells f.cs.toArray 44)) (fun _ => False) := Kept.alloc w _ _
  have F1 : (w.alloc (.cells f.cs.toArray 44)).heap[w.heap.size]? = some (.cells f.cs.toArray 44 (0, 0)) := heap_alloc_new _ _
  have P1 := hP.kept k1 (fun _ _ h => h)
  have hs1 : (w.alloc (.cells f.cs.toArray 44)).heap.size = w.heap.size + 1 := by simp
  have c0 := P1.c0
  have c2 := P1.c2
  have cu : (w.alloc (.cells f.cs.toArray 44)).cell? ⟨w.heap.size, 0, none⟩ = some (.int .u8 f.u) := by rw [cell_of_row _ w.heap.size 0 _ 44 (0, 0) F1]; rfl
  have SZ44 := size44 f.cs.toArray rfl
  have hfew := hP.few
  have one (n : Nt) (W : World) (kW : Kept w W (fun _ => False)) (hsW : w.heap.size ≤ W.heap.size) : Fin w (W.alloc (.cells n.cs.toArray 55)) pb net B S (.slice (some ⟨W.heap.size, 0, none⟩) 1 1) [n] L all := by
    have q := kW.trans (Kept.alloc W (.cells n.cs.toArray 55) (fun _ => False)) (fun _ _ h => h) (fun _ _ h => h)
    exact ⟨one_nt W n, fun g hg => by simp [Value.ownBlock] at hg; omega, ⟨S, hP.kept q (fun _ _ h => h), fun b hb => .inl hb⟩, q.mono (fun _ _ h => h.elim)⟩
  have ONE : Aside0 _ := ⟨one⟩
  clear one
  cases net with
  | true =>
    by_cases h16 : L.length = 16
    · have hask : ask true L all f = ([⟨3, f, fr0⟩], L, all) := by simp [ask, h16]
      rw [hask]
      rw [h16, show ((16 : Nat) : Int) = 16 from rfl] at c2
      have hlit := lit_nt (w.alloc (.cells f.cs.toArray 44)) ⟨3, f, fr0⟩
      have FIN0 := ONE.out ⟨3, f, fr0⟩ _ k1 (by omega)
      rw [hs1] at FIN0 hlit
      have FIN : Aside0 _ := ⟨FIN0⟩
      clear FIN0
      clear ONE P1 hP hask h16 hs1
      go_enter Try.func19, Try.ntmps19
      go_wp2_with (first
        | (refine wpList_load_row rfl 44 (.tmp 3) rfl w.heap.size rfl 44 f.cs.toArray (0, 0) _ F1 Try.underlying44 rfl SZ44 ?_)
        | (refine wpList_buildTo rfl 55 _ rfl (some 21) rfl (Nt.mk 3 f fr0).cs.toArray ?_ ?_; (simp only [List.map_toArray, List.map_cons, List.map_nil]; exact nt_ask 3 f))
        | (have hl0 := hlit; refine wpList_lit1 rfl 31 (.tmp 21) rfl (some 22) rfl (.agg (Nt.mk 3 f fr0).cs.toArray) rfl _ _ hl0 ?_; clear hlit hl0))
      go_ret
      exact ⟨_, rfl, FIN.out⟩
    · have hask : ask true L all f = ([⟨0, f, fr0⟩], L ++ [⟨all, f⟩], all + 1) := by simp [ask, h16]
      rw [hask]
      have hne : ¬ ((L.length : Int) = 16) := by omega
      have hend := put_end w _ pb true B S S L all f P1 (by omega) hy (fun b hb => .inl hb) (k1.mono (fun _ _ h => h.elim)) (.slice none 0 0) [] (World.ownsRow_nil _ _ _ _) (fun g hg => by simp [Value.ownBlock] at hg) (by simp)
      clear ONE P1 hP hask h16 hs1
      go_enter Try.func19, Try.ntmps19
      go_wp2_with (first
        | (refine wpList_load_row rfl 44 (.tmp 3) rfl w.heap.size rfl 44 f.cs.toArray (0, 0) _ F1 Try.underlying44 rfl SZ44 ?_)
        | (go_at_call 28; with_reducible refine hend.mono ?_; rintro e w3 ⟨rfl, hlit, happ⟩)
        | (refine wpList_lit1 rfl 31 (.tmp 64) rfl (some 65) rfl (.agg (Nt.mk 0 f fr0).cs.toArray) rfl (.slice (some ⟨w3.heap.size, 0, none⟩) 1 1) (w3.alloc (.cells (Nt.mk 0 f fr0).cs.toArray 55)) hlit ?_)
        | (obtain ⟨v', w', ha, hF⟩ := happ 31; refine wpList_app rfl (.tmp 61) (.tmp 65) 31 31 rfl (some 66) rfl (.slice none 0 0) (.slice (some ⟨w3.heap.size, 0, none⟩) 1 1) rfl rfl v' w' ha ?_; clear happ ha))
      go_ret
      exact ⟨_, rfl, hF⟩
  | false =>
    have hlen := h1 rfl
    by_cases hu : f.u = 0
    · have hask : ask false L all f = ([⟨1, f, fr0⟩], L, all) := by simp [ask, hu]
      rw [hask]
      have hb := bcast_calls f.u (w.alloc (.cells f.cs.toArray 44))
      rw [decide_eq_true hu] at hb
      have hlit := lit_nt (w.alloc (.cells f.cs.toArray 44)) ⟨1, f, fr0⟩
      have FIN0 := ONE.out ⟨1, f, fr0⟩ _ k1 (by omega)
      rw [hs1] at FIN0 hlit
      have FIN : Aside0 _ := ⟨FIN0⟩
      clear FIN0
      clear ONE P1 hP hask hs1 hu
      go_enter Try.func19, Try.ntmps19
      go_wp2_with (first
        | (go_at_call 27; with_reducible refine hb.mono ?_; rintro e w3 ⟨rfl, rfl⟩)
        | (refine wpList_load_row rfl 44 (.tmp 3) rfl w.heap.size rfl 44 f.cs.toArray (0, 0) _ F1 Try.underlying44 rfl SZ44 ?_)
        | (refine wpList_buildTo rfl 55 _ rfl (some 36) rfl (Nt.mk 1 f fr0).cs.toArray ?_ ?_; (simp only [List.map_toArray, List.map_cons, List.map_nil]; exact nt_ask 1 f))
        | (have hl0 := hlit; refine wpList_lit1 rfl 31 (.tmp 36) rfl (some 37) rfl (.agg (Nt.mk 1 f fr0).cs.toArray) rfl _ _ hl0 ?_; clear hlit hl0))
      go_ret
      exact ⟨_, rfl, FIN.out⟩
    · have hask : ask false L all f = (L.map (fun x => ⟨2, x.f, fr0⟩) ++ [⟨0, f, fr0⟩], [⟨all, f⟩], all + 1) := by simp [ask, hu]
      rw [hask]
      have hb := bcast_calls f.u (w.alloc (.cells f.cs.toArray 44))
      rw [decide_eq_false hu] at hb
      have hop := open_calls _ pb false B S L all P1
      have START : Aside0 (∀ v w2, w2.ownsRow 0 44 24 v L.length (frs L) → (∀ g, some g = v.ownBlock → (w.alloc (.cells f.cs.toArray 44)).heap.size ≤ g) → Kept (w.alloc (.cells f.cs.toArray 44)) w2 (fun _ => False) → ∃ a cap, v = .slice a L.length cap ∧ Drop w w2 pb B S L all f a cap 0 (.slice none 0 0)) := ⟨fun v w2 ho hn k2 => by
        obtain ⟨a, cap, rfl⟩ := owns_len ho
        exact ⟨a, cap, rfl, ⟨⟨S, P1.kept k2 (fun _ _ h => h), fun b hb => .inl hb⟩, (k1.trans k2 (fun _ _ h => h) (fun _ _ h => h)).mono (fun _ _ h => h.elim), k2.heap F1 (fun h => h), ho, fun g hg => by have := hn g hg; omega, World.ownsRow_nil _ _ _ _, fun g hg => by simp [Value.ownBlock] at hg⟩⟩⟩
      clear ONE P1 hP hask hs1 hu k1 F1
      go_enter Try.func19, Try.ntmps19
      go_wp2_with (first
        | (go_at_call 27; with_reducible refine hb.mono ?_; rintro e w3 ⟨rfl, rfl⟩)
        | (go_at_call 16; with_reducible refine hop.mono ?_; rintro e w2 ⟨v, rfl, ho, hfr, k2⟩; obtain ⟨a, cap, rfl, hD⟩ := START.out v w2 ho hfr k2; have HD : Aside0 _ := ⟨hD⟩; clear hD ho hfr k2 START hop hb))
      go_loopg [5, 47] L.length (fun kx s5 s47 wr => ∃ i : Nat, s47 = .int .i64 i ∧ i ≤ L.length ∧ L.length - i ≤ kx ∧ Aside0 (Drop w wr pb B S L all f a cap i s5))
      case atStart => exact ⟨0, rfl, Nat.zero_le _, Nat.le_refl _, HD⟩
      case round =>
        clear HD c0 c2 cu
        obtain ⟨i, rfl, hi, hkx, ⟨hD⟩⟩ := hrel
        by_cases hlt : i < L.length
        · obtain ⟨g, x, W2, rfl, hr, hW2, rx, htake⟩ := hD.step hlen hlt
          have hiz : (i : Int) < (L.length : Int) := by omega
          have hLz : (L.length : Int) ≤ 16 := by omega
          have sz44 := size44 x.f.cs.toArray rfl
          have szl44 : (Try.prog.info? 44).map (·.size) = some x.f.cs.length := by rw [Fr.len]; kernel_rfl
          have hone := all_oneCell_toArray x.f.one
          have hZc : fr0.cs.toArray.size = x.f.cs.toArray.size := rfl
          have szl35 : (Try.prog.info? 35).map (·.size) = some [Value.int .u8 x.f.u, Value.int .u16 x.f.t].length := by kernel_rfl
          have W2e : Aside0 (W2 = (wr.alloc (.cells fr0.cs.toArray 44)).setRow wr.heap.size x.f.cs.toArray) := ⟨hW2⟩
          have hz := fr0_zero
          clear hD hW2
          go_wp2_with (first
            | (refine wpList_load_mid rfl 44 (.tmp 49) rfl g (i * 24) rfl x.f.cs _ hr Try.underlying44 rfl szl44 ?_)
            | (have q44 := hZc; refine wpList_store_row rfl 44 (.tmp 7) (.tmp 50) rfl wr.heap.size x.f.cs.toArray rfl rfl 44 fr0.cs.toArray (heap_alloc_new _ _) sz44 hZc hone ?_; rw [← W2e.out]; clear hr hZc q44)
            | (refine wpList_load_mid rfl 35 (.tmp 52) rfl wr.heap.size 0 rfl [.int .u8 x.f.u, .int .u16 x.f.t] _ rx Try.underlying35 rfl szl35 ?_)
            | (go_at_call 20; with_reducible refine htake.mono ?_; rintro e w3 ⟨y, z, rfl, hx3, hlit, happ⟩; clear htake rx)
            | (refine wpList_load_row rfl 44 (.tmp 7) rfl wr.heap.size rfl 44 x.f.cs.toArray (0, 0) _ hx3 Try.underlying44 rfl sz44 ?_)
            | (refine wpList_buildTo rfl 55 _ rfl (some 57) rfl (Nt.mk 2 x.f fr0).cs.toArray ?_ ?_; (simp only [List.map_toArray, List.map_cons, List.map_nil]; exact nt_ask 2 x.f))
            | (refine wpList_lit1 rfl 31 (.tmp 57) rfl (some 58) rfl (.agg (Nt.mk 2 x.f fr0).cs.toArray) rfl (.slice (some ⟨w3.heap.size, 0, none⟩) 1 1) (w3.alloc (.cells (Nt.mk 2 x.f fr0).cs.toArray 55)) hlit ?_)
            | (obtain ⟨v', w', ha, hO⟩ := happ 31; refine wpList_app rfl (.tmp 55) (.tmp 58) 31 31 rfl (some 59) rfl _ (.slice (some ⟨w3.heap.size, 0, none⟩) 1 1) rfl rfl v' w' ha ?_; clear happ ha))
          go_roundg (L.length - (i + 1))
          case measure => omega
          case rel => exact ⟨i + 1, by go_num, by omega, Nat.le_refl _, ⟨hO⟩⟩
        · have hge : ¬ ((i : Int) < (L.length : Int)) := by omega
          obtain rfl : i = L.length := by omega
          obtain ⟨S1, PD, ftD⟩ := hD.ps
          have F1 := hD.fr
          rw [List.drop_length] at PD
          have hrow := hD.row
          rw [List.take_length] at hrow
          have hend := put_end w wr pb false B S S1 [] all f PD (by simp) hy ftD hD.kept _ (L.map fun x => ⟨2, x.f, fr0⟩) (by rw [List.length_map]; exact hrow) (fun g hg => Nat.le_of_lt (hD.new g hg).1) (by rw [List.length_map]; omega)
          rw [List.nil_append] at hend
          clear hD PD ftD hrow
          go_wp2_with (first
            | (refine wpList_load_row rfl 44 (.tmp 3) rfl w.heap.size rfl 44 f.cs.toArray (0, 0) _ F1 Try.underlying44 rfl SZ44 ?_)
            | (go_at_call 28; with_reducible refine hend.mono ?_; rintro e w3 ⟨rfl, hlit, happ⟩)
            | (refine wpList_lit1 rfl 31 (.tmp 64) rfl (some 65) rfl (.agg (Nt.mk 0 f fr0).cs.toArray) rfl (.slice (some ⟨w3.heap.size, 0, none⟩) 1 1) (w3.alloc (.cells (Nt.mk 0 f fr0).cs.toArray 55)) hlit ?_)
            | (obtain ⟨v', w', ha, hF⟩ := happ 31; refine wpList_app rfl (.tmp 61) (.tmp 65) 31 31 rfl (some 66) rfl _ (.slice (some ⟨w3.heap.size, 0, none⟩) 1 1) rfl rfl v' w' ha ?_; clear happ ha))
          go_ret
          exact ⟨_, rfl, hF⟩

end Go.Proofs.Ytmbjlondehcheaa
