/- slices.SortFunc over requests, by age: the library contract, laid at this program. -/
import Derived.Test.YtmbjlondehcheaaProg
import Derived.Below
import Derived.OneCell
import Derived.WalkKit
import Derived.KernelRfl
import Derived.RowKit3
import Derived.Deep.LoopGhost
import Derived.Deep.QuietTactic
import Derived.BigQuiet
import Derived.Deep.DeepCutAuto
import Derived.Deep.CutBlock
import Derived.Deep.RegionWith
import Derived.OwnWalk
import Derived.Laws.Tables
import Derived.Laws.AppendOwn
import Derived.Shelf.SlSortCmp.KitK
import Derived.Shelf.RegionOpenPlain
import Derived.Sort.WalkB2
import Derived.Deep.MidRow
import Derived.Great.Walk
import Derived.Test.YtmbjlondehcheaaWWords
import Derived.Test.YtmbjlondehcheaaWLast
import Derived.Laws.StructEq
import Derived.Maps.Own
import Derived.Maps.RangeRun
import Derived.Shelf.SlSortCmp.NoneTotal
import Derived.Shelf.SlicesG.Cmp
import Derived.Shelf.SlLaysC2
import Derived.Shelf.SlLaysF0
import Derived.Test.YtmbjlondehcheaaHPairTake
set_option linter.unusedSimpArgs false
set_option linter.unusedVariables false
namespace Go.Proofs.Ytmbjlondehcheaa
open Go.Shelf Go.RowKit Go.Lib Go.Sort Go.Proofs.YtmbjlondehcheaaW.PrintWords Go.Proofs.YtmbjlondehcheaaW.PrintLast

def sortEnt_ren : Go.Shelf.Ren := ⟨fun | 6 => 23 | 15 => 32 | 14 => 31 | 28 => 47 | 29 => 48 | 20 => 39 | 21 => 40 | 22 => 41 | 23 => 42 | 24 => 43 | 25 => 44 | 26 => 45 | 27 => 46 | 46 => 50 | 47 => 51 | 48 => 52 | 49 => 53 | 50 => 54 | 57 => 55 | n => n, fun | 22 => 72 | 24 => 77 | 25 => 79 | 3 => 3 | 39 => 91 | 0 => 0 | 53 => 111 | 55 => 113 | 4 => 4 | 46 => 104 | 45 => 103 | 50 => 108 | 5 => 5 | 9 => 9 | 66 => 117 | 70 => 121 | 76 => 123 | 77 => 124 | n => n, fun | n => n⟩
theorem sortEnt : Go.Proofs.SlLaysF0.n6 Try.prog sortEnt_ren := {
  mixed := (by kernel_rfl),
  f6 := ⟨Try.f23.name, by decide, Try.func23.trans (congrArg some (by kernel_rfl))⟩,
  f14 := ⟨Try.f31.name, by decide, Try.func31.trans (congrArg some (by kernel_rfl))⟩,
  f15 := Try.func32.trans (congrArg some (by kernel_rfl)),
  f20 := ⟨Try.f39.name, by decide, Try.func39.trans (congrArg some (by kernel_rfl))⟩,
  f21 := ⟨Try.f40.name, by decide, Try.func40.trans (congrArg some (by kernel_rfl))⟩,
  f22 := ⟨Try.f41.name, by decide, Try.func41.trans (congrArg some (by kernel_rfl))⟩,
  f23 := ⟨Try.f42.name, by decide, Try.func42.trans (congrArg some (by kernel_rfl))⟩,
  f24 := ⟨Try.f43.name, by decide, Try.func43.trans (congrArg some (by kernel_rfl))⟩,
  f25 := ⟨Try.f44.name, by decide, Try.func44.trans (congrArg some (by kernel_rfl))⟩,
  f26 := ⟨Try.f45.name, by decide, Try.func45.trans (congrArg some (by kernel_rfl))⟩,
  f27 := ⟨Try.f46.name, by decide, Try.func46.trans (congrArg some (by kernel_rfl))⟩,
  f28 := Try.func47.trans (congrArg some (by kernel_rfl)),
  f29 := Try.func48.trans (congrArg some (by kernel_rfl)),
  f46 := ⟨Try.f50.name, by decide, Try.func50.trans (congrArg some (by kernel_rfl))⟩,
  f47 := Try.func51.trans (congrArg some (by kernel_rfl)),
  f48 := Try.func52.trans (congrArg some (by kernel_rfl)),
  f49 := ⟨Try.f53.name, by decide, Try.func53.trans (congrArg some (by kernel_rfl))⟩,
  f50 := ⟨Try.f54.name, by decide, Try.func54.trans (congrArg some (by kernel_rfl))⟩,
  f57 := ⟨Try.f55.name, by decide, Try.func55.trans (congrArg some (by kernel_rfl))⟩,
  t0 := Try.underlying0,
  a0 := Try.isAgg0,
  z0 := Try.sizeOf0,
  v0 := Try.zeroValue0,
  t3 := Try.underlying3,
  a3 := Try.isAgg3,
  z3 := Try.sizeOf3,
  v3 := Try.zeroValue3,
  t4 := Try.underlying4,
  a4 := Try.isAgg4,
  z4 := Try.sizeOf4,
  v4 := Try.zeroValue4,
  t5 := Try.underlying5,
  a5 := Try.isAgg5,
  z5 := Try.sizeOf5,
  v5 := Try.zeroValue5,
  t9 := Try.underlying9,
  a9 := Try.isAgg9,
  z9 := Try.sizeOf9,
  v9 := Try.zeroValue9,
  t22 := Try.underlying72,
  a22 := Try.isAgg72,
  z22 := Try.sizeOf72,
  v22 := Try.zeroValue72,
  t25 := Try.underlying79,
  a25 := Try.isAgg79,
  z25 := Try.sizeOf79,
  v25 := Try.zeroValue79,
  t39 := Try.underlying91,
  a39 := Try.isAgg91,
  z39 := Try.sizeOf91,
  v39 := Try.zeroValue91,
  t45 := Try.underlying103,
  a45 := Try.isAgg103,
  z45 := Try.sizeOf103,
  v45 := Try.zeroValue103,
  t46 := Try.underlying104,
  a46 := Try.isAgg104,
  z46 := Try.sizeOf104,
  v46 := Try.zeroValue104,
  t50 := Try.underlying108,
  a50 := Try.isAgg108,
  z50 := Try.sizeOf108,
  v50 := Try.zeroValue108,
  t53 := Try.underlying111,
  a53 := Try.isAgg111,
  z53 := Try.sizeOf111,
  v53 := Try.zeroValue111,
  t55 := Try.underlying113,
  a55 := Try.isAgg113,
  z55 := Try.sizeOf113,
  v55 := Try.zeroValue113,
  t66 := Try.underlying117,
  a66 := Try.isAgg117,
  z66 := Try.sizeOf117,
  v66 := Try.zeroValue117,
  t70 := Try.underlying121,
  a70 := Try.isAgg121,
  z70 := Try.sizeOf121,
  v70 := Try.zeroValue121,
  t76 := Try.underlying123,
  a76 := Try.isAgg123,
  z76 := Try.sizeOf123,
  v76 := Try.zeroValue123,
  t77 := Try.underlying124,
  a77 := Try.isAgg124,
  z77 := Try.sizeOf124,
  v77 := Try.zeroValue124 }
def cmpInt_ren : Go.Shelf.Ren := ⟨fun | 5 => 25 | 7 => 33 | n => n, fun | 22 => 3 | 3 => 3 | 4 => 4 | n => n, fun | n => n⟩
theorem cmpInt : Go.Proofs.SlLaysC2.n5 Try.prog cmpInt_ren := {
  mixed := (by kernel_rfl),
  f5 := ⟨Try.f25.name, by decide, Try.func25.trans (congrArg some (by kernel_rfl))⟩,
  f7 := ⟨Try.f33.name, by decide, Try.func33.trans (congrArg some (by kernel_rfl))⟩,
  t3 := Try.underlying3,
  a3 := Try.isAgg3,
  z3 := Try.sizeOf3,
  v3 := Try.zeroValue3,
  t4 := Try.underlying4,
  a4 := Try.isAgg4,
  z4 := Try.sizeOf4,
  v4 := Try.zeroValue4,
  t22 := Try.underlying3,
  a22 := Try.isAgg3,
  z22 := Try.sizeOf3,
  v22 := Try.zeroValue3 }
/-- Two requests, compared by age. -/
def cf (x y : Ent) : Int := Lib.compareInt x.n y.n

theorem cf_lt (x y : Ent) : ltOf cf x y = decide (x.n < y.n) := by
  unfold ltOf cf Lib.compareInt
  by_cases h1 : x.n < y.n
  · simp [h1]
  · by_cases h2 : y.n < x.n <;> simp [h1, h2]

theorem cf_swo : SWO (ltOf cf) where
  irrefl x := by rw [cf_lt]; simp
  trans x y z h1 h2 := by rw [cf_lt] at *; simp at *; omega
  ntrans x y z h1 h2 := by rw [cf_lt] at *; simp at *; omega

set_option maxHeartbeats 1000000 in
theorem cmp_calls (x y : Ent) (W : World) : Calls Try.prog 24 #[.agg x.cs.toArray, .agg y.cs.toArray] W fun e w' => e = .returned (.int .i64 (cf x y)) ∧ ∃ q os', w' = grow (W.drewN q) os' := by
  have hcon := fun W' => AnyG.cmp_Compare_int cmpInt x.n y.n W'
  change ∀ W', Calls Try.prog 25 _ _ _ at hcon
  show Calls _ _ _ _ fun e w' => e = .returned (.int .i64 (Lib.compareInt x.n y.n)) ∧ _
  generalize Lib.compareInt x.n y.n = r at hcon ⊢
  have hx : x.cs[0]? = some (.int .i64 x.n) := rfl
  have hy : y.cs[0]? = some (.int .i64 y.n) := rfl
  generalize x.cs = cx at hx ⊢
  generalize y.cs = cy at hy ⊢
  go_enter Try.func24, Try.ntmps24
  go_wp2_with (go_at_call 25; refine (hcon _).mono ?_; rintro e w' ⟨rfl, rfl⟩)
  go_ret
  exact ⟨rfl, 0, _, by rw [alloc_eq_grow, alloc_eq_grow, grow_grow]; rfl⟩

theorem cmp_lays (blk off size : Nat) (w : World) : CmpLays Try.prog 24 #[] Ent.cs 25 cf blk off size w := fun _ _ _ _ x y => cmp_calls x y _

/-- slices.SortFunc over requests: the same ones, in the order of age. -/
theorem sort_calls (w : World) (v : Value) (d : Array Ent) (ho : w.ownsRow 0 77 25 v d.size (flat d)) (hsz : d.size ≤ 1000) :
    Calls Try.prog 23 #[v, .func (.func 24) #[] #[]] w fun r w' => r = .returned (.tuple #[]) ∧ ∃ d' : Array Ent, d'.toList.Perm d.toList ∧ d'.toList.Pairwise (fun a b => a.n ≤ b.n) ∧ w'.ownsRow 0 77 25 v d.size (flat d') ∧ Kept w w' (fun b => some b = v.ownBlock) := by
  have eg : ∀ args w, (callFunc 24 args).run Try.prog w = .ok (.enter 24 args) w := enters_of Try.func24 (by kernel_rfl) rfl
  have none_ : ∀ p cap, v = .slice p 0 cap → d.size = 0 → Calls Try.prog 23 #[v, .func (.func 24) #[] #[]] w fun r w' => r = .returned (.tuple #[]) ∧ ∃ d' : Array Ent, d'.toList.Perm d.toList ∧ d'.toList.Pairwise (fun a b => a.n ≤ b.n) ∧ w'.ownsRow 0 77 25 v d.size (flat d') ∧ Kept w w' (fun b => some b = v.ownBlock) := by
    intro p cap hv h0
    have hcon := AnyF.slices_SortFunc_none { sortEnt with } p cap (.func (.func 24) #[] #[]) w
    change Calls Try.prog 23 _ _ _ at hcon
    rw [← hv] at hcon
    have hd : d = #[] := Array.eq_empty_of_size_eq_zero h0
    exact hcon.mono fun e w' ⟨he, hw⟩ => ⟨he, d, List.Perm.refl _, by rw [hd]; simp, by rw [hw]; exact ho, by rw [hw]; exact Kept.refl _ _⟩
  by_cases h0 : d.size = 0
  · rcases ho.2 with ⟨h1, _⟩ | ⟨g, cap, cur, h1, _⟩
    · exact none_ _ _ h1 h0
    · rw [h0] at h1; exact none_ _ _ h1 h0
  rcases ho.2 with ⟨_, h1⟩ | ⟨g, cap, cur, rfl, _, hg, hnc, hcm, hcs, _⟩
  · exact absurd h1 h0
  · obtain ⟨H, _, _, _⟩ := holds_of_owns ho (by omega)
    have hgl := heap_lt hg
    have hcon := AnyQ.slices_SortFunc sortEnt 25 Try.isAgg77 Try.sizeOf77 Ent.cs Ent.len Ent.one cf cf_swo 24 #[] g 0 cap d w eg (cmp_lays g 0 d.size w) H hgl (by omega)
    change Calls Try.prog 23 _ _ _ at hcon
    refine hcon.mono fun e w' ⟨he, d', n, os, hp, hs, hw⟩ => ⟨he, d', ?_, ?_, ?_, ?_⟩
    · have := hp.2.2
      rw [show d'.extract 0 d.size = d' by rw [← hp.1]; exact Array.extract_size, Array.extract_size] at this
      exact this
    · rw [List.pairwise_iff_getElem]
      intro i j hi hj hij
      have := hs i j (Nat.zero_le _) hij (by rw [← hp.1]; simpa using hj)
      rw [cf_lt] at this
      rw [getElem!_pos d' j (by simpa using hj), getElem!_pos d' i (by simpa using hi)] at this
      simp at this ⊢
      exact this
    · have S : SWK Ent.cs 25 w g 0 d' w' := ⟨n, os, hw⟩
      obtain ⟨cur', hg', hcs'⟩ := swk_block S hg
      have := owns_of_holds (n := d.size) hg' (by rw [hcs', hcs]) (by rw [hp.1]; exact hnc) hcm (S.holds hgl H hp.1)
      rw [hp.1] at this
      exact this
    · have S : SWK Ent.cs 25 w g 0 d' w' := ⟨n, os, hw⟩
      exact (swk_kept S hgl).mono fun k _ h => by rw [h]; rfl

end Go.Proofs.Ytmbjlondehcheaa
