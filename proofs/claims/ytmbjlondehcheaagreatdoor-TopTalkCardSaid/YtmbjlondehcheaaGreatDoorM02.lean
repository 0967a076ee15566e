/- TopTalk: part 2 of the walks: of WLast, HPairMath, HPairMem. -/
import Derived.Test.YtmbjlondehcheaaGreatDoorM01
import Derived.OrdersHeld
import Derived.Laws.BitsLemmas
import Derived.Deep.MidRow
import Derived.Deep.RegionWith
import Derived.Great.Walk
import Derived.Laws.AppendOwn
import Derived.Laws.Tables
import Derived.OneCell
import Derived.Shelf.RegionOpenPlain
import Derived.Shelf.SlSortCmp.KitK
import Derived.Sort.LotB
import Derived.Sort.WalkB2
import Derived.Test.YtmbjlondehcheaaGreatDoorProg
section
namespace Go.Proofs.YtmbjlondehcheaaGreatDoorW.PrintLast
section
variable {P : Program} {ops : Array Oper} {Q : Exit → Act → World → Prop} {md : Region.Mode} {S : World → Prop} {ds : List Nat}
def Region.reachB (md : Region.Mode) (ops : Array Oper) (i : Nat) : Nat → Nat → Bool
  | 0, _ => false
  | fuel + 1, d => match ops[d]? with
    | some o => o.after.any fun e => Region.binds md e && (e.on == i || Region.reachB md ops i fuel e.on)
    | none => false
def Region.closedB (md : Region.Mode) (ops : Array Oper) (listed : Array Bool) : Bool :=
  (List.range ops.size).all fun j => !listed.getD j false || match ops[j]? with
    | some o => o.after.all fun e => !Region.binds md e || listed.getD e.on false
    | none => true
def Region.lastB (md : Region.Mode) (ops : Array Oper) (listed : Array Bool) (ds : List Nat) (i : Nat) : Bool :=
  ds.all fun d => listed.getD d true || Region.reachB md ops i ops.size d
def ListedClosed (md : Region.Mode) (ops : Array Oper) (listed : Array Bool) : Prop :=
  ∀ j oj, ops[j]? = some oj → listed.getD j false = true → ∀ e ∈ oj.after, Region.binds md e = true → listed.getD e.on false = true
theorem Region.closedB_spec {listed : Array Bool} (h : Region.closedB md ops listed = true) : ListedClosed md ops listed := by
  intro j oj hj hl e he hb
  have hlt : j < ops.size := (Array.getElem?_eq_some_iff.1 hj).1
  have h1 := List.all_eq_true.1 h j (List.mem_range.2 hlt)
  simp only [hl, hj, Bool.not_true, Bool.false_or] at h1
  have h2 := Array.all_eq_true_iff_forall_mem.1 h1 e he
  simpa [hb] using h2
theorem ListedClosed.set {listed : Array Bool} {i : Nat} (h : ListedClosed md ops listed) (hi : i ∈ Region.ready md ops listed) : ListedClosed md ops (listed.setIfInBounds i true) := by
  obtain ⟨_, oi, hoi, hall⟩ := mem_ready.1 hi
  intro j oj hj hl e he hb
  by_cases hij : i = j
  · subst hij
    have : oj = oi := Option.some.inj (hj.symm.trans hoi)
    subst this
    exact getD_set_true (hall e he hb)
  · rw [getD_set_ne false hij] at hl
    exact getD_set_true (h j oj hj hl e he hb)
theorem Region.reach_listed {listed : Array Bool} {i : Nat} (hc : ListedClosed md ops listed) : ∀ (fuel d : Nat), Region.reachB md ops i fuel d = true → listed.getD d false = true → listed.getD i false = true
  | 0, _, h, _ => by simp [Region.reachB] at h
  | fuel + 1, d, h, hl => by
    unfold Region.reachB at h
    cases ho : ops[d]? with
    | none => rw [ho] at h; simp at h
    | some o =>
      rw [ho] at h
      obtain ⟨e, he, h1⟩ := Array.any_eq_true'.1 h
      simp only [Bool.and_eq_true, Bool.or_eq_true, beq_iff_eq] at h1
      have hle := hc d o ho hl e he h1.1
      rcases h1.2 with h2 | h2
      · rw [← h2]; exact hle
      · exact Region.reach_listed hc fuel e.on h2 hle
theorem Region.reach_not_ready {listed : Array Bool} {i d fuel : Nat} (hc : ListedClosed md ops listed) (hr : Region.reachB md ops i fuel d = true) (hun : listed.getD i true = false) : d ∉ Region.ready md ops listed := by
  intro hd
  obtain ⟨_, o, ho, hall⟩ := mem_ready.1 hd
  have hi : listed.getD i false = true := by
    cases fuel with
    | zero => simp [Region.reachB] at hr
    | succ n =>
      unfold Region.reachB at hr
      rw [ho] at hr
      obtain ⟨e, he, h1⟩ := Array.any_eq_true'.1 hr
      simp only [Bool.and_eq_true, Bool.or_eq_true, beq_iff_eq] at h1
      have hle := hall e he h1.1
      rcases h1.2 with h2 | h2
      · rw [← h2]; exact hle
      · exact Region.reach_listed hc n e.on h2 hle
  rcases Nat.lt_or_ge i listed.size with h' | h'
  · simp [h'] at hun hi
    rw [hun] at hi
    cases hi
  · simp [Array.getElem?_eq_none h'] at hun
def wpAnyLast (P : Program) (md : Region.Mode) (ops : Array Oper) (Q : Exit → Act → World → Prop) (S : World → Prop) (ds : List Nat) : Nat → Array Bool → Act → World → Prop
  | 0, listed, a, w => Region.ready md ops listed = [] ∧ Q .normal a w
  | fuel + 1, listed, a, w =>
    (Region.ready md ops listed = [] → Q .normal a w) ∧
    ∀ i ∈ Region.ready md ops listed, wpOp P ops Q i (fun a' w' => (i ∉ ds → S w → S w') ∧ wpAnyLast P md ops Q S ds fuel (listed.setIfInBounds i true) a' w') a w
theorem wpAny_of_last : ∀ (fuel : Nat) (listed : Array Bool) (a : Act) (w : World), wpAnyLast P md ops Q S ds fuel listed a w → wpAny P md ops Q fuel listed a w
  | 0, _, _, _, h => h
  | fuel + 1, _, _, _, h => ⟨h.1, fun i hi => wpOp_mono (fun a' w' h' => wpAny_of_last fuel _ a' w' h'.2) (h.2 i hi)⟩
theorem wpAnyLast_first {i : Nat} {oi : Oper} {v : Value} (hi : ops[i]? = some oi) (hsel : ∀ (j : Nat) (o : Oper) cs b, ops[j]? = some o → o.op ≠ .select cs b)
    (hQ : ∀ c a w, Q (.panic c) (a.put oi.dst v) w → Q (.panic c) a w) (n : Nat) :
    ∀ (fuel : Nat) (listed : Array Bool) (a : Act) (w : World),
      (∀ j oj, ops[j]? = some oj → j ≠ i → listed.getD j true = false → (∀ e ∈ oj.after, Region.binds md e = true → e.on ≠ i) → oi.apart ops oj = true) →
      ListedClosed md ops listed → (∀ d ∈ ds, listed.getD d true = false → Region.reachB md ops i n d = true) →
      i ∈ Region.ready md ops listed → YieldsIf P ops S oi v a → S w →
      wpAnyLast P md ops Q S ds fuel (listed.setIfInBounds i true) (a.put oi.dst v) w → wpAnyLast P md ops Q S ds (fuel + 1) listed a w := by
  intro fuel
  induction fuel with
  | zero =>
    intro listed a w _ _ _ hr hy hS H
    refine ⟨fun h => (by rw [h] at hr; cases hr), fun j hj => ?_⟩
    by_cases hji : j = i
    · subst hji; exact hy.wpOp hi hS ⟨fun _ h => h, H⟩
    · have := ready_mono hj hji
      rw [H.1] at this
      cases this
  | succ fuel ih =>
    intro listed a w hfree hc hd hr hy hS H
    refine ⟨fun h => (by rw [h] at hr; cases hr), fun j hj => ?_⟩
    by_cases hji : j = i
    · subst hji; exact hy.wpOp hi hS ⟨fun _ h => h, H⟩
    · have h1 := H.2 j (ready_mono hj hji)
      obtain ⟨hjun, oj, hoj, hall⟩ := mem_ready.1 hj
      have hiun := (mem_ready.1 hr).1
      have hnot : ∀ e ∈ oj.after, Region.binds md e = true → e.on ≠ i := fun e he hb heq => by
        have h1 := hall e he hb
        rw [heq] at h1
        rcases Nat.lt_or_ge i listed.size with h' | h'
        · simp [h'] at hiun h1; rw [hiun] at h1; cases h1
        · simp [Array.getElem?_eq_none h'] at h1
      have hjd : j ∉ ds := fun hm => Region.reach_not_ready hc (hd j hm hjun) hiun hj
      have h2 := wpOp_putIf hoj (hfree j oj hoj hji hjun hnot) (fun cs b => hsel i oi cs b hi) (fun cs b => hsel j oj cs b hoj) hQ hy h1
      have hfree' : ∀ k ok, ops[k]? = some ok → k ≠ i → (listed.setIfInBounds j true).getD k true = false →
          (∀ e ∈ ok.after, Region.binds md e = true → e.on ≠ i) → oi.apart ops ok = true := fun k ok hk hki hun hno => by
        refine hfree k ok hk hki ?_ hno
        by_cases hjk : j = k
        · subst hjk; exact hjun
        · rw [getD_set_ne true hjk] at hun; exact hun
      have hd' : ∀ d ∈ ds, (listed.setIfInBounds j true).getD d true = false → Region.reachB md ops i n d = true := fun d hm hun => by
        refine hd d hm ?_
        by_cases hjk : j = d
        · subst hjk; exact hjun
        · rw [getD_set_ne true hjk] at hun; exact hun
      refine wpOp_mono (fun a' w' h3 => ⟨h3.2.1, ih (listed.setIfInBounds j true) a' w' hfree' (hc.set hj) hd' (ready_mono hr (Ne.symm hji)) h3.1 (h3.2.1 hjd hS) ?_⟩) h2
      rw [Array.setIfInBounds_comm _ _ hji]
      exact h3.2.2
theorem wpAnyLast_any {i : Nat} {oi : Oper} {v : Value} (hi : ops[i]? = some oi) (hsel : ∀ (j : Nat) (o : Oper) cs b, ops[j]? = some o → o.op ≠ .select cs b)
    (hQ : ∀ c a w, Q (.panic c) (a.put oi.dst v) w → Q (.panic c) a w) :
    ∀ (fuel : Nat) (listed : Array Bool) (a : Act) (w : World),
      (∀ j oj, ops[j]? = some oj → j ≠ i → listed.getD j true = false → (∀ e ∈ oj.after, Region.binds md e = true → e.on ≠ i) → oi.apart ops oj = true) →
      i ∈ Region.ready md ops listed → Yields P ops oi v a →
      wpAnyLast P md ops Q S ds fuel (listed.setIfInBounds i true) (a.put oi.dst v) w → wpAnyLast P md ops Q S ds (fuel + 1) listed a w := by
  intro fuel
  induction fuel with
  | zero =>
    intro listed a w _ hr hy H
    refine ⟨fun h => (by rw [h] at hr; cases hr), fun j hj => ?_⟩
    by_cases hji : j = i
    · subst hji; exact (hy.yieldsIf (S := fun _ => True)).wpOp hi trivial ⟨fun _ h => h, H⟩
    · have := ready_mono hj hji
      rw [H.1] at this
      cases this
  | succ fuel ih =>
    intro listed a w hfree hr hy H
    refine ⟨fun h => (by rw [h] at hr; cases hr), fun j hj => ?_⟩
    by_cases hji : j = i
    · subst hji; exact (hy.yieldsIf (S := fun _ => True)).wpOp hi trivial ⟨fun _ h => h, H⟩
    · have h1 := H.2 j (ready_mono hj hji)
      obtain ⟨hjun, oj, hoj, hall⟩ := mem_ready.1 hj
      have hiun := (mem_ready.1 hr).1
      have hnot : ∀ e ∈ oj.after, Region.binds md e = true → e.on ≠ i := fun e he hb heq => by
        have h1 := hall e he hb
        rw [heq] at h1
        rcases Nat.lt_or_ge i listed.size with h' | h'
        · simp [h'] at hiun h1; rw [hiun] at h1; cases h1
        · simp [Array.getElem?_eq_none h'] at h1
      have h2 := wpOp_put hoj (hfree j oj hoj hji hjun hnot) (fun cs b => hsel i oi cs b hi) (fun cs b => hsel j oj cs b hoj) hQ hy h1
      have hfree' : ∀ k ok, ops[k]? = some ok → k ≠ i → (listed.setIfInBounds j true).getD k true = false →
          (∀ e ∈ ok.after, Region.binds md e = true → e.on ≠ i) → oi.apart ops ok = true := fun k ok hk hki hun hno => by
        refine hfree k ok hk hki ?_ hno
        by_cases hjk : j = k
        · subst hjk; exact hjun
        · rw [getD_set_ne true hjk] at hun; exact hun
      refine wpOp_mono (fun a' w' h3 => ⟨h3.2.1, ih (listed.setIfInBounds j true) a' w' hfree' (ready_mono hr (Ne.symm hji)) h3.1 ?_⟩) h2
      rw [Array.setIfInBounds_comm _ _ hji]
      exact h3.2.2
theorem wpAnyLast_take {i : Nat} {oi : Oper} {v : Value} {fuel : Nat} {listed : Array Bool} {a : Act} {w : World} (hi : ops[i]? = some oi)
    (hs : Region.noSelect ops = true) (hf : Region.free md ops listed i = true) (hr : (Region.ready md ops listed).contains i = true)
    (hc : Region.closedB md ops listed = true) (hl : Region.lastB md ops listed ds i = true)
    (hQ : ∀ c a w, Q (.panic c) (a.put oi.dst v) w → Q (.panic c) a w) (hy : YieldsIf P ops S oi v a) (hS : S w)
    (h : wpAnyLast P md ops Q S ds fuel (listed.setIfInBounds i true) (a.put oi.dst v) w) : wpAnyLast P md ops Q S ds (fuel + 1) listed a w :=
  wpAnyLast_first hi (Region.noSelect_spec hs) hQ ops.size fuel listed a w (Region.free_spec hi hf) (Region.closedB_spec hc)
    (fun d hm hun => by have := List.all_eq_true.1 hl d hm; rw [hun] at this; simpa using this) (by simpa using hr) hy hS h
theorem wpAnyLast_all {rs : List Nat} {fuel : Nat} {listed : Array Bool} {a : Act} {w : World} (hr : Region.ready md ops listed = rs) (hne : rs ≠ [])
    (h : ∀ i ∈ rs, wpOp P ops Q i (fun a' w' => (i ∉ ds → S w → S w') ∧ wpAnyLast P md ops Q S ds fuel (listed.setIfInBounds i true) a' w') a w) : wpAnyLast P md ops Q S ds (fuel + 1) listed a w :=
  ⟨fun h0 => absurd (hr ▸ h0) hne, hr ▸ h⟩
theorem wpAnyLast_done {listed : Array Bool} {a : Act} {w : World} (hr : Region.ready md ops listed = []) (h : Q .normal a w) :
    ∀ fuel, wpAnyLast P md ops Q S ds fuel listed a w
  | 0 => ⟨hr, h⟩
  | _ + 1 => ⟨fun _ => h, by rw [hr]; simp⟩
theorem wp_region_last {id : Nat} {a : Act} {w : World} (hm : P.follows .mixedOrders = true)
    (h : wpAnyLast P .any ops Q S ds ops.size (Array.replicate ops.size false) a { w with drawn := w.drawn + 1 }) : (Code.region id ops true).wp P Q a w :=
  wp_region_any hm (wpAny_of_last _ _ _ _ h)
end
section
variable {P : Program} {ops : Array Oper} {Q : Exit → Act → World → Prop} {md : Region.Mode} {S : World → Prop} {ds : List Nat}
def AllReadyL (P : Program) (md : Region.Mode) (ops : Array Oper) (Q : Exit → Act → World → Prop) (S : World → Prop) (ds : List Nat) (fuel : Nat) (listed : Array Bool) (a : Act) (w : World) (rs : List Nat) : Prop :=
  ∀ i ∈ rs, wpOp P ops Q i (fun a' w' => (i ∉ ds → S w → S w') ∧ wpAnyLast P md ops Q S ds fuel (listed.setIfInBounds i true) a' w') a w
theorem AllReadyL.nil {fuel : Nat} {listed : Array Bool} {a : Act} {w : World} : AllReadyL P md ops Q S ds fuel listed a w [] := fun _ h => by cases h
theorem AllReadyL.cons {fuel : Nat} {listed : Array Bool} {a : Act} {w : World} {i : Nat} {o : Oper} {rs : List Nat} (ho : ops[i]? = some o) (hd : i ∉ ds)
    (h : ∀ K' : Act → World → Prop, Shut (∀ a w, S w → (S w → wpAnyLast P md ops Q S ds fuel (listed.setIfInBounds i true) a w) → K' a w) → if Region.wanted o (yielded ops a.tmps) = true then Oper.wp P o a w K' Q else K' (a.put o.dst undef) w)
    (hs : AllReadyL P md ops Q S ds fuel listed a w rs) : AllReadyL P md ops Q S ds fuel listed a w (i :: rs) := fun j hj => by
  rcases List.mem_cons.1 hj with rfl | hj
  · exact wpOp_step ho (fun K' hK => h K' (fun a w hS hW => hK a w ⟨fun _ _ => hS, hW hS⟩))
  · exact hs j hj
theorem AllReadyL.cons_last {fuel : Nat} {listed : Array Bool} {a : Act} {w : World} {i : Nat} {o : Oper} {rs : List Nat} (ho : ops[i]? = some o) (hd : i ∈ ds)
    (h : ∀ K' : Act → World → Prop, Shut (∀ a w, wpAnyLast P md ops Q S ds fuel (listed.setIfInBounds i true) a w → K' a w) → if Region.wanted o (yielded ops a.tmps) = true then Oper.wp P o a w K' Q else K' (a.put o.dst undef) w)
    (hs : AllReadyL P md ops Q S ds fuel listed a w rs) : AllReadyL P md ops Q S ds fuel listed a w (i :: rs) := fun j hj => by
  rcases List.mem_cons.1 hj with rfl | hj
  · exact wpOp_step ho (fun K' hK => h K' (fun a w hW => hK a w ⟨fun hn => absurd hd hn, hW⟩))
  · exact hs j hj
theorem wpAnyLast_ready {rs : List Nat} {fuel : Nat} {listed : Array Bool} {a : Act} {w : World} (hr : Region.ready md ops listed = rs) (hne : rs ≠ [])
    (h : AllReadyL P md ops Q S ds fuel listed a w rs) : wpAnyLast P md ops Q S ds (fuel + 1) listed a w := wpAnyLast_all hr hne h
theorem start_ {id n : Nat} {a : Act} {w : World} (l : Array Bool) (hm : P.follows .mixedOrders = true) (hn : ops.size = n) (hl : Array.replicate n false = l) (hS : S w.drew)
    (h : S w.drew → wpAnyLast P .any ops Q S ds n l a w.drew) : (Code.region id ops true).wp P Q a w := by
  subst hn
  subst hl
  exact wp_region_last hm (h hS)
def takeB (md : Region.Mode) (ops : Array Oper) (ds : List Nat) (l l' : Array Bool) (i : Nat) : Bool :=
  Region.noSelect ops && Region.free md ops l i && (Region.ready md ops l).contains i && Region.closedB md ops l && Region.lastB md ops l ds i && (l.setIfInBounds i true == l')
theorem take_ {i : Nat} {N : Option Tmp} {oi : Oper} {v : Value} {fuel : Nat} {l : Array Bool} {a : Act} {w : World} (l' : Array Bool) (hi : ops[i]? = some oi) (hN : oi.dst = N) (hc : takeB md ops ds l l' i = true)
    (hQ : ∀ c a w, Q (.panic c) (a.put oi.dst v) w → Q (.panic c) a w) (hy : YieldsIf P ops S oi v a) (hS : S w) {a' : Act} (ha : a.put N v = a')
    (h : wpAnyLast P md ops Q S ds fuel l' a' w) : wpAnyLast P md ops Q S ds (fuel + 1) l a w := by
  subst ha
  subst hN
  simp only [takeB, Bool.and_eq_true, beq_iff_eq] at hc
  obtain ⟨⟨⟨⟨⟨h1, h2⟩, h3⟩, h4⟩, h5⟩, h6⟩ := hc
  subst h6
  exact wpAnyLast_take hi h1 h2 h3 h4 h5 hQ hy hS h
def anyB (md : Region.Mode) (ops : Array Oper) (l l' : Array Bool) (i : Nat) : Bool :=
  Region.noSelect ops && Region.free md ops l i && (Region.ready md ops l).contains i && (l.setIfInBounds i true == l')
theorem pure_ {i : Nat} {N : Option Tmp} {oi : Oper} {v : Value} {fuel : Nat} {l : Array Bool} {a : Act} {w : World} (l' : Array Bool) (hi : ops[i]? = some oi) (hN : oi.dst = N) (hc : anyB md ops l l' i = true)
    (hQ : ∀ c a w, Q (.panic c) (a.put oi.dst v) w → Q (.panic c) a w) (hy : Yields P ops oi v a) {a' : Act} (ha : a.put N v = a')
    (h : wpAnyLast P md ops Q S ds fuel l' a' w) : wpAnyLast P md ops Q S ds (fuel + 1) l a w := by
  subst ha
  subst hN
  simp only [anyB, Bool.and_eq_true, beq_iff_eq] at hc
  obtain ⟨⟨⟨h1, h2⟩, h3⟩, h6⟩ := hc
  subst h6
  exact wpAnyLast_any hi (Region.noSelect_spec h1) hQ fuel l a w (Region.free_spec hi h2) (by simpa using h3) hy h
def readyB (md : Region.Mode) (ops : Array Oper) (l l' : Array Bool) (i : Nat) : Bool := (Region.ready md ops l == [i]) && (l.setIfInBounds i true == l')
theorem one_ {i : Nat} {N : Option Tmp} {oi : Oper} {fuel : Nat} {l : Array Bool} {a : Act} {w : World} (l' : Array Bool) (hi : ops[i]? = some oi) (hN : oi.dst = N) (hc : readyB md ops l l' i = true) (hd : i ∉ ds)
    (h : ∀ K : Act → World → Prop, Shut (∀ a' w', S w' → (S w' → wpAnyLast P md ops Q S ds fuel l' a' w') → K a' w') → if Region.wanted oi (yielded ops a.tmps) = true then Oper.wp P oi a w K Q else K (a.put N undef) w) :
    wpAnyLast P md ops Q S ds (fuel + 1) l a w := by
  subst hN
  simp only [readyB, Bool.and_eq_true, beq_iff_eq] at hc
  obtain ⟨h1, h2⟩ := hc
  subst h2
  exact wpAnyLast_ready h1 (by simp) (AllReadyL.cons hi hd (fun K hK => h K hK) AllReadyL.nil)
theorem last_ {i : Nat} {N : Option Tmp} {oi : Oper} {fuel : Nat} {l : Array Bool} {a : Act} {w : World} (l' : Array Bool) (hi : ops[i]? = some oi) (hN : oi.dst = N) (hc : readyB md ops l l' i = true) (hd : i ∈ ds)
    (h : ∀ K : Act → World → Prop, Shut (∀ a' w', wpAnyLast P md ops Q S ds fuel l' a' w' → K a' w') → if Region.wanted oi (yielded ops a.tmps) = true then Oper.wp P oi a w K Q else K (a.put N undef) w) :
    wpAnyLast P md ops Q S ds (fuel + 1) l a w := by
  subst hN
  simp only [readyB, Bool.and_eq_true, beq_iff_eq] at hc
  obtain ⟨h1, h2⟩ := hc
  subst h2
  exact wpAnyLast_ready h1 (by simp) (AllReadyL.cons_last hi hd (fun K hK => h K hK) AllReadyL.nil)
theorem done_ {l : Array Bool} {a : Act} {w : World} {n : Nat} (hr : (Region.ready md ops l == []) = true) (h : Q .normal a w) : wpAnyLast P md ops Q S ds n l a w := wpAnyLast_done (by simpa using hr) h n
theorem two_ {i j : Nat} {Ni Nj : Option Tmp} {oi oj : Oper} {fuel : Nat} {l : Array Bool} {a : Act} {w : World} (li lj : Array Bool) (hi : ops[i]? = some oi) (hj : ops[j]? = some oj) (hNi : oi.dst = Ni) (hNj : oj.dst = Nj)
    (hc : (Region.ready md ops l == [i, j] && l.setIfInBounds i true == li && l.setIfInBounds j true == lj) = true) (hdi : i ∉ ds) (hdj : j ∉ ds)
    (h1 : ∀ K : Act → World → Prop, Shut (∀ a' w', S w' → (S w' → wpAnyLast P md ops Q S ds fuel li a' w') → K a' w') → if Region.wanted oi (yielded ops a.tmps) = true then Oper.wp P oi a w K Q else K (a.put Ni undef) w)
    (h2 : ∀ K : Act → World → Prop, Shut (∀ a' w', S w' → (S w' → wpAnyLast P md ops Q S ds fuel lj a' w') → K a' w') → if Region.wanted oj (yielded ops a.tmps) = true then Oper.wp P oj a w K Q else K (a.put Nj undef) w) :
    wpAnyLast P md ops Q S ds (fuel + 1) l a w := by
  subst hNi
  subst hNj
  simp only [Bool.and_eq_true, beq_iff_eq] at hc
  obtain ⟨⟨h3, h4⟩, h5⟩ := hc
  subst h4
  subst h5
  exact wpAnyLast_ready h3 (by simp) (AllReadyL.cons hi hdi (fun K hK => h1 K hK) (AllReadyL.cons hj hdj (fun K hK => h2 K hK) AllReadyL.nil))
def putAll : Act → List (Tmp × Value) → Act
  | a, [] => a
  | a, (n, v) :: r => putAll (a.put (some n) v) r
theorem join_ {σ : Type} {fuel : Nat} {l : Array Bool} {a : Act} {w : World} (fuel' : Nat) (l' : Array Bool) (ns : σ → List (Tmp × Value)) (F : σ → World → Prop)
    (hcont : ∀ s w', F s w' → wpAnyLast P md ops Q S ds fuel' l' (putAll a (ns s)) w')
    (h : (∀ s w', F s w' → wpAnyLast P md ops Q S ds fuel' l' (putAll a (ns s)) w') → wpAnyLast P md ops Q S ds fuel l a w) : wpAnyLast P md ops Q S ds fuel l a w := h hcont
theorem norm_ {fuel : Nat} {l : Array Bool} {a a' : Act} {w : World} (ha : a = a') (h : wpAnyLast P md ops Q S ds fuel l a' w) : wpAnyLast P md ops Q S ds fuel l a w := by
  subst ha
  exact h
theorem call_ {oi : Oper} {N : Option Tmp} {a : Act} {w : World} {K : Act → World → Prop} (f : FuncId) (args : Array Value) (hw : Region.wanted oi (yielded ops a.tmps) = true) (hN : oi.dst = N) (hrun : (execOp a.eval oi).run P w = .ok (.enter f args) w)
    (h : Calls P f args w fun e w' => ∃ v, e = .returned v ∧ K (a.put N v) w') : if Region.wanted oi (yielded ops a.tmps) = true then Oper.wp P oi a w K Q else K (a.put N undef) w := by
  rw [if_pos hw]
  subst hN
  unfold Oper.wp
  rw [hrun, Oper.upon_enter]
  refine h.mono fun e w'' hh => ?_
  obtain ⟨v, rfl, hk⟩ := hh
  exact hk
theorem enters_ {f : FuncId} {fn : Func} (hf : P.funcs[f]? = some fn) (hname : (fn.name == "runtime.NumGoroutine") = false) (hb : fn.body.isSome = true) (args : Array Value) (w : World) : (callFunc f args).run P w = .ok (.enter f args) w := by
  have h1 : fn.name ≠ "runtime.NumGoroutine" := by simpa using hname
  obtain ⟨c, hc⟩ := Option.isSome_iff_exists.1 hb
  simp [callFunc, hf, h1, hc]
theorem goes_ {oi : Oper} {N : Option Tmp} {a : Act} {w : World} {K : Act → World → Prop} {f : FuncId} {fn : Func} {as0 : Array Operand} {ts : Array TypeId} (hf : P.funcs[f]? = some fn) (hname : (fn.name == "runtime.NumGoroutine") = false) (hb : fn.body.isSome = true) (args : Array Value)
    (hw : Region.wanted oi (yielded ops a.tmps) = true) (hN : oi.dst = N) (hop : oi.op = .call { callee := .value (.func f), args := as0, argTypes := ts }) (hargs : as0.map a.eval = args)
    (h : Calls P f args w fun e w' => ∃ v, e = .returned v ∧ K (a.put N v) w') : if Region.wanted oi (yielded ops a.tmps) = true then Oper.wp P oi a w K Q else K (a.put N undef) w := by
  refine call_ f args hw hN ?_ h
  have he := enters_ hf hname hb args w
  unfold execOp
  simp [hop, resolve, Deferred.ofValue, invoke, Act.eval, hargs, he]
end
end Go.Proofs.YtmbjlondehcheaaGreatDoorW.PrintLast
end
section
namespace Go.Proofs.YtmbjlondehcheaaGreatDoor
open Go.Sort
structure Fr where
  u : Int
  t : Int
  c : Int
  r : Nat → Value
  hu : 0 ≤ u ∧ u < 256
  ht : 0 ≤ t ∧ t < 65536
  hc : 0 ≤ c ∧ c < 256
  h1 : ∀ i, (r i).oneCell' = true
instance : Inhabited Fr := ⟨⟨0, 0, 0, fun _ => .int .u8 0, by decide, by decide, by decide, fun _ => rfl⟩⟩
def Fr.cs (f : Fr) : List Value := [.int .u8 f.u, .int .u16 f.t, .int .u8 f.c, f.r 0, f.r 1, f.r 2, f.r 3, f.r 4, f.r 5, f.r 6, f.r 7, f.r 8, f.r 9, f.r 10, f.r 11, f.r 12, f.r 13, f.r 14, f.r 15, f.r 16, f.r 17, f.r 18, f.r 19, f.r 20]
theorem Fr.len (f : Fr) : f.cs.length = 24 := rfl
theorem Fr.one (f : Fr) : ∀ v ∈ f.cs, v.oneCell' = true := by
  intro v hv
  simp only [Fr.cs, List.mem_cons, List.not_mem_nil, or_false] at hv
  rcases hv with h | h | h | h | h | h | h | h | h | h | h | h | h | h | h | h | h | h | h | h | h | h | h | h <;> subst h <;> first | rfl | exact f.h1 _
structure Ent where
  n : Int
  f : Fr
instance : Inhabited Ent := ⟨⟨0, default⟩⟩
def Ent.cs (e : Ent) : List Value := .int .i64 e.n :: e.f.cs
theorem Ent.len (e : Ent) : e.cs.length = 25 := rfl
theorem Ent.one (e : Ent) : ∀ v ∈ e.cs, v.oneCell' = true := by
  intro v hv
  rcases List.mem_cons.1 hv with h | h
  · subst h; rfl
  · exact e.f.one v h
def yg (x y : Ent) : Bool := decide (y.n < x.n)
theorem yg_swo : SWO yg where
  irrefl x := by simp [yg]
  trans x y z h1 h2 := by simp [yg] at *; omega
  ntrans x y z h1 h2 := by simp [yg] at *; omega
def Hp (d : Array Ent) : Prop := ∀ i, i < d.size → Ok yg 0 d.size d i
theorem Hp.push {d : Array Ent} (h : Hp d) (x : Ent) (hx : ∀ e ∈ d.toList, e.n < x.n) : Hp (d.push x) := by
  intro i hi k hk hkh
  simp only [Nat.zero_add, Array.size_push] at *
  rcases Nat.lt_or_ge k d.size with hlt | hge
  · have hi' : i < d.size := by omega
    have := h i hi' k hk hlt
    simp only [Nat.zero_add] at this
    rw [getElem!_pos (d.push x) i (by simp; omega), getElem!_pos (d.push x) k (by simp; omega), Array.getElem_push_lt hi', Array.getElem_push_lt hlt]
    rw [getElem!_pos d i hi', getElem!_pos d k hlt] at this
    exact this
  · have hke : k = d.size := by omega
    subst hke
    have hi' : i < d.size := by omega
    rw [getElem!_pos (d.push x) i (by simp; omega), getElem!_pos (d.push x) d.size (by simp), Array.getElem_push_lt hi', Array.getElem_push_eq]
    have := hx d[i] (by simp)
    simp [yg]; omega
theorem Hp.root {d : Array Ent} (h : Hp d) (i : Nat) (hi : i < d.size) : (d[0]!).n ≤ (d[i]!).n := by
  have := root_max yg_swo (F := 0) (hi := d.size) h i i (Nat.le_refl _) hi
  simp [yg] at this
  exact this
theorem Hp.pop {d : Array Ent} {m : Nat} (h : Hp d) (hm : d.size = m + 1) :
    let d2 := siftDown yg m 0 0 (swp d 0 m)
    d2.size = m + 1 ∧ d2[m]! = d[0]! ∧ Hp (d2.extract 0 m) ∧ (d2.toList.take m ++ [d[0]!]).Perm d.toList := by
  intro d2
  have hs1 : (swp d 0 m).size = m + 1 := by rw [size_swp]; exact hm
  have g1o : ∀ j, j ≠ 0 → j ≠ m → (swp d 0 m)[j]! = d[j]! := fun j h1 h2 => swp_other d _ _ _ h1 h2
  have hh : ∀ i, i < m + 1 → Ok yg 0 (m + 1) d i := by
    intro i hi; have := h i (by omega); rw [hm] at this; exact this
  obtain ⟨R1, R2⟩ := sift yg_swo m 0 0 m 0 (swp d 0 m) (by omega) (by rw [hs1]; omega) (Nat.le_refl _)
    (fun i _ h2 h3 kk hkk hkkh => by
      simp only [Nat.zero_add]
      rw [g1o i h3 (by omega), g1o kk (by omega) (by omega)]
      have := hh i (by omega) kk hkk (by omega)
      simpa using this)
    (fun p _ hp => by omega)
  have hsz : d2.size = m + 1 := by rw [show d2.size = _ from R2.1]; exact hs1
  have hlast : d2[m]! = d[0]! := by
    rw [show d2[m]! = _ from R2.2.1 m (Or.inr (by omega))]
    exact swp_right d 0 m (by omega)
  refine ⟨hsz, hlast, ?_, ?_⟩
  · intro i hi k hk hkh
    have hes : (d2.extract 0 m).size = m := by simp [hsz]
    rw [hes] at hi hkh
    have := R1 i (Nat.zero_le _) hi k hk hkh
    simp only [Nat.zero_add] at *
    rw [getElem!_pos (d2.extract 0 m) i (by omega), getElem!_pos (d2.extract 0 m) k (by omega)]
    rw [getElem!_pos _ i (by show i < d2.size; omega), getElem!_pos _ k (by show k < d2.size; omega)] at this
    simpa using this
  · have p1 : PermIn 0 (m + 1) d (swp d 0 m) := swp_permIn d 0 (m + 1) 0 m (by omega) (by omega) (by omega) (by omega) (by omega)
    have p2 : PermIn 0 (m + 1) (swp d 0 m) d2 := permIn_mono _ _ 0 (0 + m) 0 (m + 1) (Nat.le_refl _) (by omega) (by rw [hs1]; exact Nat.le_refl _) R2
    have p3 := (permIn_trans _ _ _ _ _ p1 p2).2.2
    rw [show d2.extract 0 (m + 1) = d2 by rw [← hsz]; exact Array.extract_size, show d.extract 0 (m + 1) = d by rw [← hm]; exact Array.extract_size] at p3
    refine List.Perm.trans ?_ p3
    have e1 : d2.toList = d2.toList.take m ++ [d[0]!] := by
      conv => lhs; rw [← List.take_append_drop m d2.toList]
      congr 1
      rw [List.drop_eq_getElem_cons (by simp [hsz]), List.drop_of_length_le (by simp [hsz])]
      congr 1
      rw [← hlast, getElem!_pos d2 m (by omega)]
      simp
    rw [← e1]
theorem eq_of_age : ∀ {l l' : List Ent}, l.Perm l' → l.Pairwise (fun a b => a.n ≤ b.n) → l'.Pairwise (fun a b => a.n < b.n) → l = l'
  | [], l', hp, _, _ => (List.nil_perm.1 hp).symm
  | a :: l, [], hp, _, _ => absurd hp.symm (by simp)
  | a :: l, b :: l', hp, h1, h2 => by
    obtain ⟨ha, h1'⟩ := List.pairwise_cons.1 h1
    obtain ⟨hb, h2'⟩ := List.pairwise_cons.1 h2
    have hab : a = b := by
      have ma : a ∈ b :: l' := hp.mem_iff.1 (by simp)
      have mb : b ∈ a :: l := hp.mem_iff.2 (by simp)
      rcases List.mem_cons.1 ma with e | ma'
      · exact e
      rcases List.mem_cons.1 mb with e | mb'
      · exact e.symm
      have := ha b mb'
      have := hb a ma'
      omega
    subst hab
    rw [eq_of_age (List.perm_cons a |>.1 hp) h1' h2']
structure Slot where
  u : Int
  t : Int
  c : Nat
  v : Value
  d : Array Ent
def hd (u t : Int) (e : Ent) : Bool := decide (e.f.u = u ∧ e.f.t = t)
structure Book (S : List Slot) (L : List Ent) (all : Nat) : Prop where
  keys : S.Pairwise fun a b => ¬ (a.u = b.u ∧ a.t = b.t)
  heap : ∀ s ∈ S, Hp s.d
  heads : ∀ s ∈ S, ∀ e ∈ s.d.toList, e.f.u = s.u ∧ e.f.t = s.t
  perm : L.Perm (S.flatMap fun s => s.d.toList)
  age : L.Pairwise fun a b => a.n < b.n
  old : ∀ e ∈ L, 0 ≤ e.n ∧ e.n < all
theorem Book.zero : Book [] [] 0 := ⟨by simp, by simp, by simp, by simp, by simp, by simp⟩
theorem Book.mem {S : List Slot} {L : List Ent} {all : Nat} (h : Book S L all) {e : Ent} (he : e ∈ L) : ∃ s ∈ S, e ∈ s.d.toList := by
  have := h.perm.mem_iff.1 he
  rw [List.mem_flatMap] at this
  exact this
theorem Book.mem' {S : List Slot} {L : List Ent} {all : Nat} (h : Book S L all) {s : Slot} (hs : s ∈ S) {e : Ent} (he : e ∈ s.d.toList) : e ∈ L :=
  h.perm.mem_iff.2 (List.mem_flatMap.2 ⟨s, hs, he⟩)
theorem Book.own {A B : List Slot} {s : Slot} {L : List Ent} {all : Nat} (h : Book (A ++ s :: B) L all) {e : Ent} (he : e ∈ L) (hh : hd s.u s.t e = true) : e ∈ s.d.toList := by
  obtain ⟨s', hs', hm⟩ := h.mem he
  have hk := h.heads s' hs' e hm
  simp only [hd, decide_eq_true_eq] at hh
  have hkey := h.keys
  rw [List.pairwise_append] at hkey
  obtain ⟨_, h2, h3⟩ := hkey
  rw [List.pairwise_cons] at h2
  rcases List.mem_append.1 hs' with ha | hb
  · exact absurd ⟨hk.1.symm.trans hh.1, hk.2.symm.trans hh.2⟩ (h3 s' ha s (by simp))
  · rcases List.mem_cons.1 hb with rfl | hb
    · exact hm
    · exact absurd ⟨hh.1.symm.trans hk.1, hh.2.symm.trans hk.2⟩ (h2.1 s' hb)
theorem Book.none1 {S : List Slot} {L : List Ent} {all : Nat} (h : Book S L all) {u t : Int} (hn : ∀ s ∈ S, ¬ (s.u = u ∧ s.t = t)) : L.find? (hd u t) = none := by
  rw [List.find?_eq_none]
  intro e he hh
  obtain ⟨s, hs, hm⟩ := h.mem he
  have hk := h.heads s hs e hm
  simp only [hd, decide_eq_true_eq] at hh
  exact hn s hs ⟨hk.1.symm.trans hh.1, hk.2.symm.trans hh.2⟩
theorem Book.none2 {A B : List Slot} {s : Slot} {L : List Ent} {all : Nat} (h : Book (A ++ s :: B) L all) (hz : s.d.size = 0) : L.find? (hd s.u s.t) = none := by
  rw [List.find?_eq_none]
  intro e he hh
  have := h.own he hh
  rw [Array.eq_empty_of_size_eq_zero hz] at this
  simp at this
theorem Book.slot {S : List Slot} {L : List Ent} {all : Nat} (h : Book S L all) (s : Slot) (hn : ∀ s' ∈ S, ¬ (s'.u = s.u ∧ s'.t = s.t)) (hz : s.d = #[]) : Book (S ++ [s]) L all where
  keys := by rw [List.pairwise_append]; exact ⟨h.keys, by simp, fun a ha b hb => by simp at hb; subst hb; exact hn a ha⟩
  heap s' hs' := by
    rcases List.mem_append.1 hs' with h1 | h1
    · exact h.heap s' h1
    · simp at h1; subst h1; rw [hz]; intro i hi; simp at hi
  heads s' hs' e he := by
    rcases List.mem_append.1 hs' with h1 | h1
    · exact h.heads s' h1 e he
    · simp at h1; subst h1; rw [hz] at he; simp at he
  perm := by simpa [hz] using h.perm
  age := h.age
  old := h.old
theorem flat_mid (A B : List Slot) (s : Slot) : ((A ++ s :: B).flatMap fun s => s.d.toList) = (A.flatMap fun s => s.d.toList) ++ (s.d.toList ++ B.flatMap fun s => s.d.toList) := by
  simp [List.flatMap_append, List.flatMap_cons]
theorem mem_mid {A B : List Slot} {s s' x : Slot} (h : x ∈ A ++ s' :: B) : x = s' ∨ x ∈ A ++ s :: B := by
  rcases List.mem_append.1 h with h | h
  · exact .inr (List.mem_append.2 (.inl h))
  · rcases List.mem_cons.1 h with h | h
    · exact .inl h
    · exact .inr (List.mem_append.2 (.inr (List.mem_cons.2 (.inr h))))
theorem keys_mid {A B : List Slot} {s s' : Slot} (h : (A ++ s :: B).Pairwise fun a b => ¬ (a.u = b.u ∧ a.t = b.t)) (hu : s'.u = s.u) (ht : s'.t = s.t) : (A ++ s' :: B).Pairwise fun a b => ¬ (a.u = b.u ∧ a.t = b.t) := by
  rw [List.pairwise_append, List.pairwise_cons] at *
  obtain ⟨h1, ⟨h2, h3⟩, h4⟩ := h
  refine ⟨h1, ⟨fun b hb => by rw [hu, ht]; exact h2 b hb, h3⟩, fun a ha b hb => ?_⟩
  rcases List.mem_cons.1 hb with rfl | hb
  · rw [hu, ht]; exact h4 a ha s (by simp)
  · exact h4 a ha b (by simp [hb])
theorem Book.put {A B : List Slot} {s : Slot} {L : List Ent} {all : Nat} (h : Book (A ++ s :: B) L all) (x : Ent) (hu : x.f.u = s.u) (ht : x.f.t = s.t) (hn : x.n = all) (s' : Slot) (hs : s'.u = s.u ∧ s'.t = s.t ∧ s'.d = s.d.push x) :
    Book (A ++ s' :: B) (L ++ [x]) (all + 1) where
  keys := keys_mid h.keys hs.1 hs.2.1
  heap y hy := by
    rcases mem_mid (s := s) hy with rfl | hy
    · rw [hs.2.2]
      exact (h.heap s (by simp)).push x fun e he => by rw [hn]; exact (h.old e (h.mem' (by simp) he)).2
    · exact h.heap y hy
  heads y hy e he := by
    rcases mem_mid (s := s) hy with rfl | hy
    · rw [hs.2.2] at he
      rw [hs.1, hs.2.1]
      simp only [Array.toList_push, List.mem_append, List.mem_singleton] at he
      rcases he with he | rfl
      · exact h.heads s (by simp) e he
      · exact ⟨hu, ht⟩
    · exact h.heads y hy e he
  perm := by
    have hp := h.perm
    rw [flat_mid] at hp ⊢
    rw [hs.2.2, Array.toList_push]
    refine (hp.append_right [x]).trans ?_
    simp only [List.append_assoc]
    refine List.Perm.append_left _ (List.Perm.append_left _ ?_)
    exact List.perm_append_comm
  age := by
    rw [List.pairwise_append]
    exact ⟨h.age, by simp, fun a ha b hb => by simp at hb; subst hb; rw [hn]; exact (h.old a ha).2⟩
  old e he := by
    rcases List.mem_append.1 he with he | he
    · have := h.old e he; omega
    · simp at he; subst he; omega
theorem Book.take {A B : List Slot} {s : Slot} {L : List Ent} {all m : Nat} (h : Book (A ++ s :: B) L all) (hm : s.d.size = m + 1) (s' : Slot) (hs : s'.u = s.u ∧ s'.t = s.t ∧ s'.d = (siftDown yg m 0 0 (swp s.d 0 m)).extract 0 m) :
    L.find? (hd s.u s.t) = some s.d[0]! ∧ Book (A ++ s' :: B) (L.eraseP (hd s.u s.t)) all ∧ L.length = (L.eraseP (hd s.u s.t)).length + 1 := by
  obtain ⟨q1, q2, q3, q4⟩ := (h.heap s (by simp)).pop hm
  have hel : s.d[0]! ∈ s.d.toList := by rw [getElem!_pos s.d 0 (by omega)]; simp
  have heL := h.mem' (by simp) hel
  have heh : hd s.u s.t s.d[0]! = true := by
    have := h.heads s (by simp) _ hel
    simp [hd, this]
  obtain ⟨x, hx⟩ : ∃ x, L.find? (hd s.u s.t) = some x := by
    cases hf : L.find? (hd s.u s.t) with
    | some x => exact ⟨x, rfl⟩
    | none => rw [List.find?_eq_none] at hf; exact absurd heh (hf _ heL)
  obtain ⟨hxh, l1, l2, hL, hl1⟩ := List.find?_eq_some_iff_append.1 hx
  have hxe : x = s.d[0]! := by
    have hxL : x ∈ L := by rw [hL]; simp
    have hxs := h.own hxL hxh
    obtain ⟨i, hi, hix⟩ := List.getElem_of_mem hxs
    have hmin := (h.heap s (by simp)).root i (by simpa using hi)
    rw [getElem!_pos s.d i (by simpa using hi)] at hmin
    simp only [Array.getElem_toList] at hix
    rw [hix] at hmin
    have hage := h.age
    rw [hL] at heL hage
    rw [List.pairwise_append, List.pairwise_cons] at hage
    rcases List.mem_append.1 heL with h1 | h1
    · exact absurd heh (by simpa using hl1 _ h1)
    · rcases List.mem_cons.1 h1 with h1 | h1
      · exact h1.symm
      · have := hage.2.1.1 _ h1; omega
  have her : L.eraseP (hd s.u s.t) = l1 ++ l2 := by
    rw [hL, List.eraseP_append_right _ (fun b hb => by simpa using hl1 b hb), List.eraseP_cons_of_pos (by simpa using hxh)]
  refine ⟨by rw [hx, hxe], ?_, by rw [her, hL]; simp; omega⟩
  have hsub : ∀ e ∈ l1 ++ l2, e ∈ L := fun e he => by rw [hL]; simp at he ⊢; rcases he with he | he <;> simp [he]
  rw [her]
  have hd' : s'.d.toList = (siftDown yg m 0 0 (swp s.d 0 m)).toList.take m := by rw [hs.2.2]; simp
  refine ⟨keys_mid h.keys hs.1 hs.2.1, fun y hy => ?_, fun y hy e he => ?_, ?_, ?_, fun e he => h.old e (hsub e he)⟩
  · rcases mem_mid (s := s) hy with rfl | hy
    · rw [hs.2.2]; exact q3
    · exact h.heap y hy
  · rcases mem_mid (s := s) hy with rfl | hy
    · rw [hs.1, hs.2.1]
      rw [hd'] at he
      exact h.heads s (by simp) e (q4.mem_iff.1 (List.mem_append.2 (.inl he)))
    · exact h.heads y hy e he
  · have hp := h.perm
    rw [flat_mid] at hp ⊢
    rw [hd']
    have p1 : (x :: (l1 ++ l2)).Perm L := by rw [hL]; exact List.perm_middle.symm
    have p2 := p1.trans hp
    rw [hxe] at p2
    refine (List.perm_cons s.d[0]!).1 (p2.trans ?_)
    have p3 : (s.d.toList ++ (B.flatMap fun s => s.d.toList)).Perm (s.d[0]! :: ((siftDown yg m 0 0 (swp s.d 0 m)).toList.take m ++ B.flatMap fun s => s.d.toList)) := by
      refine (q4.symm.append_right _).trans ?_
      rw [List.append_assoc]
      exact List.perm_middle
    refine (List.Perm.append_left _ p3).trans ?_
    exact List.perm_middle
  · have hage := h.age
    rw [hL] at hage
    exact hage.sublist (List.Sublist.append_left (List.sublist_cons_self _ _) _)
theorem Book.size_le {A B : List Slot} {s : Slot} {L : List Ent} {all : Nat} (h : Book (A ++ s :: B) L all) : s.d.size ≤ L.length := by
  have := h.perm.length_eq
  rw [flat_mid] at this
  simp at this
  omega
end Go.Proofs.YtmbjlondehcheaaGreatDoor
end
section
namespace Go.Proofs.YtmbjlondehcheaaGreatDoor
open Go.Shelf Go.RowKit Go.Lib Go.Sort
structure Kept (w w' : World) (F : Nat → Prop) : Prop where
  os : w'.os = w.os
  tape : w'.tape = w.tape
  output : w'.output = w.output
  size : w.heap.size ≤ w'.heap.size
  block : ∀ k, k < w.heap.size → ¬ F k → w'.heap[k]? = w.heap[k]?
theorem Kept.refl (w : World) (F : Nat → Prop) : Kept w w F := ⟨rfl, rfl, rfl, Nat.le_refl _, fun _ _ _ => rfl⟩
theorem Kept.trans {w w1 w2 : World} {F G H : Nat → Prop} (h : Kept w w1 F) (h' : Kept w1 w2 G) (hF : ∀ k, k < w.heap.size → F k → H k) (hG : ∀ k, k < w.heap.size → G k → H k) : Kept w w2 H :=
  ⟨h'.os.trans h.os, h'.tape.trans h.tape, h'.output.trans h.output, Nat.le_trans h.size h'.size, fun k hk hn =>
    (h'.block k (Nat.lt_of_lt_of_le hk h.size) (fun hg => hn (hG k hk hg))).trans (h.block k hk (fun hf => hn (hF k hk hf)))⟩
theorem Kept.mono {w w' : World} {F G : Nat → Prop} (h : Kept w w' F) (hF : ∀ k, k < w.heap.size → F k → G k) : Kept w w' G :=
  ⟨h.os, h.tape, h.output, h.size, fun k hk hn => h.block k hk (fun hf => hn (hF k hk hf))⟩
theorem Kept.alloc (w : World) (o : Obj) (F : Nat → Prop) : Kept w (w.alloc o) F := ⟨rfl, rfl, rfl, by simp, fun k hk _ => heap_alloc_old w o hk⟩
theorem Kept.drewN (w : World) (q : Nat) (F : Nat → Prop) : Kept w (w.drewN q) F := ⟨rfl, rfl, rfl, Nat.le_refl _, fun _ _ _ => rfl⟩
theorem Kept.drew (w : World) (F : Nat → Prop) : Kept w w.drew F := ⟨rfl, rfl, rfl, Nat.le_refl _, fun _ _ _ => rfl⟩
theorem Kept.setRow (w : World) (g : Nat) (cs : Array Value) {F : Nat → Prop} (hF : F g) : Kept w (w.setRow g cs) F :=
  ⟨rfl, rfl, rfl, by simp, fun k _ hn => setRow_other w g k cs (fun e => hn (e ▸ hF))⟩
theorem Kept.grown {w w' : World} {row : Option Nat} (h : w.grownBy w' row) {F : Nat → Prop} (hF : ∀ k, some k = row → F k) : Kept w w' F :=
  ⟨h.os, h.tape, h.output, h.size, fun k hk hn => h.block k hk (fun e => hn (hF k e))⟩
theorem Kept.below {w w' : World} {F : Nat → Prop} (h : Kept w w' F) {B : Nat} (hB : B ≤ w.heap.size) (hF : ∀ k, k < B → ¬ F k) : Below B w w' :=
  ⟨h.os, h.tape, h.output, h.size, fun k hk => h.block k (by omega) (hF k hk)⟩
theorem heap_lt {w : World} {g : Nat} {o : Obj} (h : w.heap[g]? = some o) : g < w.heap.size := (Array.getElem?_eq_some_iff.1 h).1
theorem Kept.heap {w w' : World} {F : Nat → Prop} (h : Kept w w' F) {g : Nat} {o : Obj} (hg : w.heap[g]? = some o) (hn : ¬ F g) : w'.heap[g]? = some o := (h.block g (heap_lt hg) hn).trans hg
theorem Kept.owns {w w' : World} {F : Nat → Prop} (h : Kept w w' F) {base : Nat} {e : TypeId} {size : Nat} {v : Value} {n : Nat} {xs : List Value} (ho : w.ownsRow base e size v n xs) (hn : ∀ g, v.ownBlock = some g → ¬ F g) : w'.ownsRow base e size v n xs := by
  refine ⟨ho.1, ?_⟩
  rcases ho.2 with hn' | ⟨g, cap, cur, rfl, hb, hgg, rest⟩
  · exact .inl hn'
  · exact .inr ⟨g, cap, cur, rfl, hb, h.heap hgg (hn g rfl), rest⟩
section
variable {P : Program} {a : Act} {w : World} {K : Act → World → Prop} {Q : Exit → Act → World → Prop} {op : Oper}
theorem wp_append (s x : Operand) (t1 t2 : TypeId) (ho : op.op = .call { callee := .builtin .append, args := #[s, x], argTypes := #[t1, t2] }) (v u : Value) (hs : a.eval s = v) (hx : a.eval x = u) (v' : Value) (w' : World)
    (hr : (Builtin.append_ #[t1, t2] op.type #[v, u]).run P w = .ok v' w') (h : K (a.put op.dst v') w') : op.wp P a w K Q := by
  unfold Oper.wp execOp
  simp only [ho, resolve, invoke, builtin, Sem.run_bind, Sem.run_pure, Result.andThen_ok, List.map_toArray, List.map_cons, List.map_nil, hs, hx, hr]
  exact h
theorem wp_lit1 (t : TypeId) (x : Operand) (ho : op.op = .buildSlice t 1 #[(0, x)]) (u : Value) (hx : a.eval x = u) (v' : Value) (w' : World)
    (hr : (Instr.buildSlice t 1 #[(0, u)]).run P w = .ok v' w') (h : K (a.put op.dst v') w') : op.wp P a w K Q := by
  unfold Oper.wp execOp
  simp only [ho, Sem.run_bind, Sem.run_pure, Result.andThen_ok, List.map_toArray, List.map_cons, List.map_nil, hx, hr]
  exact h
theorem wp_store_one (ty : TypeId) (x y : Operand) (ho : op.op = .store ty x y) (g : Nat) (v : Value) (hx : a.eval x = .pointer (some ⟨g, 0, none⟩)) (hy : a.eval y = v) (h1 : v.oneCell' = true)
    (t : TypeId) (old : Value) (hg : w.heap[g]? = some (.cells #[old] t (0, 0))) (hi : (P.info? ty).map (·.size) = some 1) (h : K (a.put op.dst undef) (w.setRow g #[v])) : op.wp P a w K Q := by
  unfold Oper.wp execOp
  simp only [ho, hx, hy, Instr.storeAt, Instr.sureAddr, Sem.run_bind, Sem.run_pure, Result.andThen_ok, run_storeVar_one w g t ty old _ hg hi h1]
  exact h
end
theorem owns_one {w : World} {base : Nat} {e : TypeId} {size : Nat} {v : Value} {n : Nat} {xs : List Value} (h : w.ownsRow base e size v n xs) : v.oneCell' = true := by
  rcases h.2 with ⟨rfl, _⟩ | ⟨g, cap, cur, rfl, _⟩ <;> rfl
theorem info77 : ∃ ie z, Tryz.prog.info? 131 = some ie ∧ ie.zero = some z ∧ ie.size = 25 ∧ z.cells.size = 25 ∧ ie.bytes = 168 := by
  have h : ((Tryz.prog.info? 131).bind fun ie => ie.zero.map fun z => (ie.size, z.cells.size, ie.bytes)) = some (25, 25, 168) := by kernel_rfl
  cases hi : Tryz.prog.info? 131 with
  | none => rw [hi] at h; cases h
  | some ie =>
    rw [hi] at h
    cases hz : ie.zero with
    | none => simp [hz] at h
    | some z => simp [hz] at h; exact ⟨ie, z, rfl, hz, h.1, h.2.1, h.2.2⟩
theorem run_lit1 {P : Program} (w : World) (t e : TypeId) (cs : List Value) (ie : TypeInfo) (z : Value) (k : Nat) (hu : P.underlying t = some (.slice e)) (hie : P.info? e = some ie) (hz : ie.zero = some z)
    (hk : ie.size = k) (hzk : z.cells.size = k) (hl : cs.length = k) (h0 : 0 < k) (hs : k ≤ 2 ^ 24) :
    (Instr.buildSlice t 1 #[(0, .agg cs.toArray)]).run P w = .ok (.slice (some ⟨w.heap.size, 0, none⟩) 1 1) (w.alloc (.cells cs.toArray e)) := by
  refine run_buildSlice w t e 1 _ cs.toArray ie z hu hie hz (by rw [hk]; omega) (by rw [hk]; omega) ?_
  have := Great.fill_whole (s := k) h0 [.agg cs.toArray] ((Array.range (1 * k)).map (z.cells[· % z.cells.size]!)) (fun v hv => by simp at hv; subst hv; simpa [Value.cells] using hl) (by simp)
  rw [hk, show (#[(0, Value.agg cs.toArray)] : Array (Nat × Value)).toList = ([Value.agg cs.toArray].zipIdx 0).map fun x => (x.2, x.1) from rfl, this]
  simp [Value.cells]
theorem lit_ent (w : World) (e : Ent) : (Instr.buildSlice 128 1 #[(0, .agg e.cs.toArray)]).run Tryz.prog w = .ok (.slice (some ⟨w.heap.size, 0, none⟩) 1 1) (w.alloc (.cells e.cs.toArray 131)) := by
  obtain ⟨ie, z, h1, h2, h3, h4, _⟩ := info77
  exact run_lit1 w 128 131 e.cs ie z 25 Tryz.underlying128 h1 h2 h3 h4 rfl (by omega) (by omega)
theorem app_ent (w : World) (ty : TypeId) (v : Value) (n : Nat) (xs : List Value) (e : Ent) (ho : w.ownsRow 0 131 25 v n xs) (g : Nat) (hg : w.heap[g]? = some (.cells e.cs.toArray 131 (0, 0))) (hn : n < 1000000) :
    ∃ v' w', (Builtin.append_ #[128, 128] ty #[v, .slice (some ⟨g, 0, none⟩) 1 1]).run Tryz.prog w = .ok v' w' ∧ w'.ownsRow 0 131 25 v' (n + 1) (xs ++ e.cs) ∧ w.grownBy w' v.ownBlock ∧
      (v'.ownBlock = v.ownBlock ∨ v'.ownBlock = some w.heap.size) := by
  obtain ⟨ie, z, h1, h2, h3, h4, h5⟩ := info77
  obtain ⟨v', w', q1, q2, q3, _, q5⟩ := run_append_own_at (P := Tryz.prog) w 0 128 ty 131 ie z 25 168 Tryz.underlying128 h1 h2 h3 h5 h4 (by omega) v n xs ho ⟨g, 0, none⟩ 1 1 e.cs rfl
    (fun j u hu => by rw [Addr.add_mid, cell_of_row w g (0 + j) _ 131 (0, 0) hg]; simpa using hu) e.one (by unfold maxLen; omega) (by omega) (Nat.zero_le _)
  exact ⟨v', w', q1, q2, q3, q5⟩
end Go.Proofs.YtmbjlondehcheaaGreatDoor
end
