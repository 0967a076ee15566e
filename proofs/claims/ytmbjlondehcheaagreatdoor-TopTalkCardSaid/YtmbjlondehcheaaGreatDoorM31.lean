/- TopTalk: part 31 of the walks: of HArg. -/
import Derived.Test.YtmbjlondehcheaaGreatDoorM27
import Derived.OpenShut
import Derived.Deep.Slices
section
set_option linter.unusedSimpArgs false
set_option linter.unusedVariables false
namespace Go.Proofs.YtmbjlondehcheaaGreatDoor
open Go.ChangeShapes Go.RowKit Go.Proofs.YtmbjlondehcheaaGreatDoorW.PrintWords Go.Proofs.YtmbjlondehcheaaGreatDoorW.PrintLast Go.Proofs.YtmbjlondehcheaaGreatDoor.PTopTalk
def Op {α : Type} (d : Kd α) (Q : α → Prop) (t : TypeId) : Prop :=
  ∀ (H : Type) (enc : TypeId × Value → H) (w : World) (base : Nat) (sp : Nat → Bool) (held : Bool) (fuel : Nat) (cs : List Value) (x : DataW H × List MemPlace),
    DataW.trod enc Tryz.prog w base sp held fuel t cs = some x → ∃ y, d.K w y cs ∧ Q y
def Opf {α : Type} (d : Kd α) (Q : α → Prop) (fs : List Field) (N off : Nat) : Prop :=
  ∀ (H : Type) (enc : TypeId × Value → H) (w : World) (base : Nat) (sp : Nat → Bool) (held : Bool) (n : Nat) (cs : List Value), cs.length = N →
    (∀ f ∈ fs, ∃ x, DataW.trod enc Tryz.prog w base sp held n f.type ((cs.drop f.offset).take (Tryz.prog.cellsOf f.type)) = some x) → ∃ y, d.K w y (cs.drop off) ∧ Q y
theorem op_int {t : TypeId} (k : IntKind) (h : Tryz.prog.underlying t = some (.int k)) : Op (Kd.int k) (fun n => (Lit.int k n).wf = true) t := by
  intro H enc w base sp held fuel cs x hx
  obtain ⟨n, rfl, -, hw⟩ := DataW.trod_int h hx
  exact ⟨n, rfl, hw⟩
theorem op_bool {t : TypeId} (h : Tryz.prog.underlying t = some .bool) : Op Kd.bool (fun _ => True) t := by
  intro H enc w base sp held fuel cs x hx
  obtain ⟨b, rfl, -⟩ := DataW.trod_bool h hx
  exact ⟨b, rfl, trivial⟩
theorem op_slice {α : Type} [Inhabited α] {d : Kd α} {Q : α → Prop} {t e : TypeId} (h : Tryz.prog.underlying t = some (.slice e)) (hc : Tryz.prog.cellsOf e = d.sz) (ho : Op d Q e) : Op (Kd.slice e d) (fun xs => ∀ x ∈ xs, Q x) t := by
  intro H enc w base sp held fuel cs x hx
  rcases Go.Deep.open_slice h hx with ⟨rfl, -⟩ | ⟨a, len, cap, m, n, D, Pl, rfl, hb, hl, hcap, hm, -, hel⟩
  · exact ⟨[], ⟨none, 0, rfl, Nat.le_refl _, Kd.C_nil d w⟩, by simp⟩
  · have hlm : len ≤ m := by rw [hm]; split <;> omega
    have hall : ∀ i, i < len → ∃ y : α, (∃ c, w.cells? base (a.add (i * d.sz)) d.sz = some c ∧ d.K w y c) ∧ Q y := by
      intro i hi
      obtain ⟨c, h1, h2⟩ := hel i (by omega)
      rw [hc] at h1
      obtain ⟨y, k1, k2⟩ := ho H enc w base sp held n c _ h2
      exact ⟨y, ⟨c, h1, k1⟩, k2⟩
    obtain ⟨f, hf⟩ := Go.Deep.choose_lt hall
    refine ⟨(List.range len).map f, ⟨some a, cap, by simp, by simpa using hl, by simp, ?_, fun hpos => ⟨a, rfl, fun j p hp => ?_⟩⟩, ?_⟩
    · simp only [List.length_map, List.length_range]
      have : maxLen ≤ 9223372036854775807 := by decide
      omega
    · have hj : j < len := by
        have := (List.getElem?_eq_some_iff.1 hp).1
        simpa using this
      rw [List.getElem?_map, List.getElem?_range hj] at hp
      obtain rfl := Option.some.inj hp
      obtain ⟨⟨c, hcs, hk⟩, -⟩ := hf j hj
      obtain ⟨-, hlen, hcell⟩ := World.cells?_some hcs
      refine ⟨c, hlen, hk, fun i u hu => ?_⟩
      have hi : i < d.sz := by rw [← hlen]; exact (List.getElem?_eq_some_iff.1 hu).1
      rw [← Go.Deep.add_add, hcell i hi]
      exact hu
    · intro y hy
      obtain ⟨i, hi, rfl⟩ := List.mem_map.1 hy
      exact (hf i (List.mem_range.1 hi)).2
theorem opf_last {α : Type} {d : Kd α} {Q : α → Prop} {f : Field} {N off : Nat} (ho : Op d Q f.type) (h1 : f.offset = off) (h2 : N = off + Tryz.prog.cellsOf f.type) : Opf d Q [f] N off := by
  intro H enc w base sp held n cs hl hf
  obtain ⟨x, hx⟩ := hf f (by simp)
  rw [h1, List.take_of_length_le (by rw [List.length_drop]; omega)] at hx
  exact ho H enc w base sp held n _ x hx
theorem opf_cons {α β : Type} {d : Kd α} {Q : α → Prop} {d' : Kd β} {Q' : β → Prop} {f : Field} {fs : List Field} {N off off' : Nat} (ho : Op d Q f.type) (h1 : f.offset = off) (h2 : off' = off + Tryz.prog.cellsOf f.type) (hr : Opf d' Q' fs N off') :
    Opf (Kd.pair d d') (fun y => Q y.1 ∧ Q' y.2) (f :: fs) N off := by
  intro H enc w base sp held n cs hl hf
  obtain ⟨x, hx⟩ := hf f (by simp)
  obtain ⟨y, k1, q1⟩ := ho H enc w base sp held n _ x hx
  obtain ⟨y', k2, q2⟩ := hr H enc w base sp held n cs hl (fun g hg => hf g (List.mem_cons_of_mem _ hg))
  refine ⟨(y, y'), ⟨_, _, ?_, k1, k2⟩, q1, q2⟩
  rw [h1, h2, ← List.drop_drop, List.take_append_drop]
theorem op_struct {α β : Type} {d : Kd α} {Q : α → Prop} {t : TypeId} {fs : Array Field} {l : List Field} (f : β → α) (g : α → β) (hg : ∀ y, f (g y) = y) (h : Tryz.prog.underlying t = some (.struct fs)) (hl : fs.toList = l) (ho : Opf d Q l (Tryz.prog.cellsOf t) 0) :
    Op (Kd.iso d f) (fun b => Q (f b)) t := by
  intro H enc w base sp held fuel cs x hx
  obtain ⟨xs, n, -, -, hlen, hsz, hf⟩ := DataW.trod_struct h hx
  obtain ⟨y, k, q⟩ := ho H enc w base sp held n cs hlen (fun fl hfl => by
    obtain ⟨i, hi, rfl⟩ := List.getElem_of_mem (hl ▸ hfl : fl ∈ fs.toList)
    have e := hf i (fs.toList[i]) (by simp at hi ⊢)
    have hix : i < xs.length := by rw [hsz]; simpa using hi
    exact ⟨xs[i], by rw [e, List.getElem?_eq_getElem hix]⟩)
  refine ⟨g y, ?_, by show Q (f (g y)); rw [hg]; exact q⟩
  show d.K w (f (g y)) cs
  rw [hg]
  simpa using k
instance : Inhabited S67 := ⟨z67⟩
instance : Inhabited S69 := ⟨z69⟩
instance : Inhabited S37 := ⟨z37⟩
def Q5 : Int → Prop := fun n => (Lit.int .u8 n).wf = true
def Q27 : Int → Prop := fun n => (Lit.int .u16 n).wf = true
def Q4 : Bool → Prop := fun _ => True
def Q30 : List Int → Prop := fun xs => ∀ x ∈ xs, Q27 x
def Q31 : List Bool → Prop := fun xs => ∀ x ∈ xs, Q4 x
def Q23 : List Int → Prop := fun xs => ∀ x ∈ xs, Q5 x
theorem o5 : Op (Kd.int .u8) Q5 5 := op_int .u8 Tryz.underlying5
theorem o27 : Op (Kd.int .u16) Q27 27 := op_int .u16 Tryz.underlying27
theorem o4 : Op Kd.bool Q4 4 := op_bool Tryz.underlying4
theorem o30 : Op (Kd.slice 27 (Kd.int .u16)) Q30 30 := op_slice Tryz.underlying30 (by kernel_rfl) o27
theorem o31 : Op (Kd.slice 4 Kd.bool) Q31 31 := op_slice Tryz.underlying31 (by kernel_rfl) o4
theorem o23 : Op (Kd.slice 5 (Kd.int .u8)) Q23 23 := op_slice Tryz.underlying23 (by kernel_rfl) o5
def Q67 : S67 → Prop := fun x => Q27 x.f0 ∧ Q27 x.f1 ∧ Q27 x.f2 ∧ Q30 x.f3
theorem o67 : Op k67 Q67 67 := by
  have h3 := opf_last (f := { name := "Words", type := 30, offset := 3, embedded := false, tag := "", pkgPath := "", byteOffset := 8 }) (N := 4) (off := 3) o30 rfl (by kernel_rfl)
  have h2 := opf_cons (f := { name := "Count", type := 27, offset := 2, embedded := false, tag := "", pkgPath := "", byteOffset := 4 }) (N := 4) (off := 2) (off' := 3) o27 rfl (by kernel_rfl) h3
  have h1 := opf_cons (f := { name := "Record", type := 27, offset := 1, embedded := false, tag := "", pkgPath := "", byteOffset := 2 }) (N := 4) (off := 1) (off' := 2) o27 rfl (by kernel_rfl) h2
  have h0 := opf_cons (f := { name := "File", type := 27, offset := 0, embedded := false, tag := "", pkgPath := "", byteOffset := 0 }) (N := 4) (off := 0) (off' := 1) o27 rfl (by kernel_rfl) h1
  have hc : Tryz.prog.cellsOf 67 = 4 := by kernel_rfl
  exact op_struct (fun x : S67 => (x.f0, x.f1, x.f2, x.f3)) (fun y => ⟨y.1, y.2.1, y.2.2.1, y.2.2.2⟩) (fun _ => rfl) Tryz.underlying67 rfl (by rw [hc]; exact h0)
def Q32 : List S67 → Prop := fun xs => ∀ x ∈ xs, Q67 x
theorem o32 : Op (Kd.slice 67 k67) Q32 32 := op_slice Tryz.underlying32 (by kernel_rfl) o67
def Q69 : S69 → Prop := fun x => Q5 x.f0 ∧ Q23 x.f1
theorem o69 : Op k69 Q69 69 := by
  have h1 := opf_last (f := { name := "Value", type := 23, offset := 1, embedded := false, tag := "", pkgPath := "", byteOffset := 8 }) (N := 2) (off := 1) o23 rfl (by kernel_rfl)
  have h0 := opf_cons (f := { name := "ID", type := 5, offset := 0, embedded := false, tag := "", pkgPath := "", byteOffset := 0 }) (N := 2) (off := 0) (off' := 1) o5 rfl (by kernel_rfl) h1
  have hc : Tryz.prog.cellsOf 69 = 2 := by kernel_rfl
  exact op_struct (fun x : S69 => (x.f0, x.f1)) (fun y => ⟨y.1, y.2⟩) (fun _ => rfl) Tryz.underlying69 rfl (by rw [hc]; exact h0)
def Q33 : List S69 → Prop := fun xs => ∀ x ∈ xs, Q69 x
theorem o33 : Op (Kd.slice 69 k69) Q33 33 := op_slice Tryz.underlying33 (by kernel_rfl) o69
def Q29 : S29 → Prop := fun x => Q5 x.f0 ∧ Q27 x.f1
theorem o29 : Op k29 Q29 29 := by
  have h1 := opf_last (f := { name := "Tid", type := 27, offset := 1, embedded := false, tag := "", pkgPath := "", byteOffset := 2 }) (N := 2) (off := 1) o27 rfl (by kernel_rfl)
  have h0 := opf_cons (f := { name := "Unit", type := 5, offset := 0, embedded := false, tag := "", pkgPath := "", byteOffset := 0 }) (N := 2) (off := 0) (off' := 1) o5 rfl (by kernel_rfl) h1
  have hc : Tryz.prog.cellsOf 29 = 2 := by kernel_rfl
  exact op_struct (fun x : S29 => (x.f0, x.f1)) (fun y => ⟨y.1, y.2⟩) (fun _ => rfl) Tryz.underlying29 rfl (by rw [hc]; exact h0)
def Q35 : S35 → Prop := fun x => Q5 x.f0 ∧ Q5 x.f1 ∧ Q27 x.f2 ∧ Q27 x.f3 ∧ Q27 x.f4 ∧ Q27 x.f5 ∧ Q27 x.f6 ∧ Q27 x.f7 ∧ Q27 x.f8 ∧ Q27 x.f9 ∧ Q27 x.f10 ∧ Q27 x.f11 ∧ Q30 x.f12 ∧ Q31 x.f13 ∧ Q23 x.f14 ∧ Q32 x.f15 ∧ Q5 x.f16 ∧ Q5 x.f17 ∧ Q5 x.f18 ∧ Q5 x.f19 ∧ Q5 x.f20 ∧ Q33 x.f21
theorem o35 : Op k35 Q35 35 := by
  have h21 := opf_last (f := { name := "Objects", type := 33, offset := 21, embedded := false, tag := "", pkgPath := "", byteOffset := 128 }) (N := 22) (off := 21) o33 rfl (by kernel_rfl)
  have h20 := opf_cons (f := { name := "Next", type := 5, offset := 20, embedded := false, tag := "", pkgPath := "", byteOffset := 124 }) (N := 22) (off := 20) (off' := 21) o5 rfl (by kernel_rfl) h21
  have h19 := opf_cons (f := { name := "More", type := 5, offset := 19, embedded := false, tag := "", pkgPath := "", byteOffset := 123 }) (N := 22) (off := 19) (off' := 20) o5 rfl (by kernel_rfl) h20
  have h18 := opf_cons (f := { name := "Level", type := 5, offset := 18, embedded := false, tag := "", pkgPath := "", byteOffset := 122 }) (N := 22) (off := 18) (off' := 19) o5 rfl (by kernel_rfl) h19
  have h17 := opf_cons (f := { name := "Kind", type := 5, offset := 17, embedded := false, tag := "", pkgPath := "", byteOffset := 121 }) (N := 22) (off := 17) (off' := 18) o5 rfl (by kernel_rfl) h18
  have h16 := opf_cons (f := { name := "Mei", type := 5, offset := 16, embedded := false, tag := "", pkgPath := "", byteOffset := 120 }) (N := 22) (off := 16) (off' := 17) o5 rfl (by kernel_rfl) h17
  have h15 := opf_cons (f := { name := "Recs", type := 32, offset := 15, embedded := false, tag := "", pkgPath := "", byteOffset := 96 }) (N := 22) (off := 15) (off' := 16) o32 rfl (by kernel_rfl) h16
  have h14 := opf_cons (f := { name := "Data", type := 23, offset := 14, embedded := false, tag := "", pkgPath := "", byteOffset := 72 }) (N := 22) (off := 14) (off' := 15) o23 rfl (by kernel_rfl) h15
  have h13 := opf_cons (f := { name := "Bits", type := 31, offset := 13, embedded := false, tag := "", pkgPath := "", byteOffset := 48 }) (N := 22) (off := 13) (off' := 14) o31 rfl (by kernel_rfl) h14
  have h12 := opf_cons (f := { name := "Words", type := 30, offset := 12, embedded := false, tag := "", pkgPath := "", byteOffset := 24 }) (N := 22) (off := 12) (off' := 13) o30 rfl (by kernel_rfl) h13
  have h11 := opf_cons (f := { name := "Messages", type := 27, offset := 11, embedded := false, tag := "", pkgPath := "", byteOffset := 20 }) (N := 22) (off := 11) (off' := 12) o27 rfl (by kernel_rfl) h12
  have h10 := opf_cons (f := { name := "Events", type := 27, offset := 10, embedded := false, tag := "", pkgPath := "", byteOffset := 18 }) (N := 22) (off := 10) (off' := 11) o27 rfl (by kernel_rfl) h11
  have h9 := opf_cons (f := { name := "Status", type := 27, offset := 9, embedded := false, tag := "", pkgPath := "", byteOffset := 16 }) (N := 22) (off := 9) (off' := 10) o27 rfl (by kernel_rfl) h10
  have h8 := opf_cons (f := { name := "Sub", type := 27, offset := 8, embedded := false, tag := "", pkgPath := "", byteOffset := 14 }) (N := 22) (off := 8) (off' := 9) o27 rfl (by kernel_rfl) h9
  have h7 := opf_cons (f := { name := "Addr2", type := 27, offset := 7, embedded := false, tag := "", pkgPath := "", byteOffset := 12 }) (N := 22) (off := 7) (off' := 8) o27 rfl (by kernel_rfl) h8
  have h6 := opf_cons (f := { name := "Or", type := 27, offset := 6, embedded := false, tag := "", pkgPath := "", byteOffset := 10 }) (N := 22) (off := 6) (off' := 7) o27 rfl (by kernel_rfl) h7
  have h5 := opf_cons (f := { name := "And", type := 27, offset := 5, embedded := false, tag := "", pkgPath := "", byteOffset := 8 }) (N := 22) (off := 5) (off' := 6) o27 rfl (by kernel_rfl) h6
  have h4 := opf_cons (f := { name := "Value", type := 27, offset := 4, embedded := false, tag := "", pkgPath := "", byteOffset := 6 }) (N := 22) (off := 4) (off' := 5) o27 rfl (by kernel_rfl) h5
  have h3 := opf_cons (f := { name := "Count", type := 27, offset := 3, embedded := false, tag := "", pkgPath := "", byteOffset := 4 }) (N := 22) (off := 3) (off' := 4) o27 rfl (by kernel_rfl) h4
  have h2 := opf_cons (f := { name := "Addr", type := 27, offset := 2, embedded := false, tag := "", pkgPath := "", byteOffset := 2 }) (N := 22) (off := 2) (off' := 3) o27 rfl (by kernel_rfl) h3
  have h1 := opf_cons (f := { name := "Fail", type := 5, offset := 1, embedded := false, tag := "", pkgPath := "", byteOffset := 1 }) (N := 22) (off := 1) (off' := 2) o5 rfl (by kernel_rfl) h2
  have h0 := opf_cons (f := { name := "Code", type := 5, offset := 0, embedded := false, tag := "", pkgPath := "", byteOffset := 0 }) (N := 22) (off := 0) (off' := 1) o5 rfl (by kernel_rfl) h1
  have hc : Tryz.prog.cellsOf 35 = 22 := by kernel_rfl
  exact op_struct (fun x : S35 => (x.f0, x.f1, x.f2, x.f3, x.f4, x.f5, x.f6, x.f7, x.f8, x.f9, x.f10, x.f11, x.f12, x.f13, x.f14, x.f15, x.f16, x.f17, x.f18, x.f19, x.f20, x.f21)) (fun y => ⟨y.1, y.2.1, y.2.2.1, y.2.2.2.1, y.2.2.2.2.1, y.2.2.2.2.2.1, y.2.2.2.2.2.2.1, y.2.2.2.2.2.2.2.1, y.2.2.2.2.2.2.2.2.1, y.2.2.2.2.2.2.2.2.2.1, y.2.2.2.2.2.2.2.2.2.2.1, y.2.2.2.2.2.2.2.2.2.2.2.1, y.2.2.2.2.2.2.2.2.2.2.2.2.1, y.2.2.2.2.2.2.2.2.2.2.2.2.2.1, y.2.2.2.2.2.2.2.2.2.2.2.2.2.2.1, y.2.2.2.2.2.2.2.2.2.2.2.2.2.2.2.1, y.2.2.2.2.2.2.2.2.2.2.2.2.2.2.2.2.1, y.2.2.2.2.2.2.2.2.2.2.2.2.2.2.2.2.2.1, y.2.2.2.2.2.2.2.2.2.2.2.2.2.2.2.2.2.2.1, y.2.2.2.2.2.2.2.2.2.2.2.2.2.2.2.2.2.2.2.1, y.2.2.2.2.2.2.2.2.2.2.2.2.2.2.2.2.2.2.2.2.1, y.2.2.2.2.2.2.2.2.2.2.2.2.2.2.2.2.2.2.2.2.2⟩) (fun _ => rfl) Tryz.underlying35 rfl (by rw [hc]; exact h0)
def Q37 : S37 → Prop := fun x => Q29 x.f0 ∧ Q35 x.f1
theorem o37 : Op k37 Q37 37 := by
  have h1 := opf_last (f := { name := "Msg", type := 35, offset := 2, embedded := false, tag := "", pkgPath := "", byteOffset := 8 }) (N := 24) (off := 2) o35 rfl (by kernel_rfl)
  have h0 := opf_cons (f := { name := "Head", type := 29, offset := 0, embedded := false, tag := "", pkgPath := "", byteOffset := 0 }) (N := 24) (off := 0) (off' := 2) o29 rfl (by kernel_rfl) h1
  have hc : Tryz.prog.cellsOf 37 = 24 := by kernel_rfl
  exact op_struct (fun x : S37 => (x.f0, x.f1)) (fun y => ⟨y.1, y.2⟩) (fun _ => rfl) Tryz.underlying37 rfl (by rw [hc]; exact h0)
theorem o22 : Op (Kd.slice 37 k37) (fun xs => ∀ x ∈ xs, Q37 x) 22 := op_slice Tryz.underlying22 (by kernel_rfl) o37
theorem wf8 {a : Int} (h : Q5 a) : 0 ≤ a ∧ a < 256 := ⟨(bounds_u8 h).1, by have := (bounds_u8 h).2; omega⟩
theorem open_frames {H : Type} {enc : TypeId × Value → H} {w : World} {base : Nat} {sp : Nat → Bool} {held : Bool} {a : Option Addr} {len cap : Nat} {d : DataW H} {p : List MemPlace} (h : DataW.Trod enc Tryz.prog w base sp held 22 (.slice a len cap) d p) :
    ∃ l : List S37, len = l.length ∧ len ≤ cap ∧ Kd.C k37 w a l.length l ∧ ∀ i (h : i < l.length), (0 ≤ l[i].f0.f0 ∧ l[i].f0.f0 < 256) ∧ (0 ≤ l[i].f0.f1 ∧ l[i].f0.f1 < 65536) ∧ WfM l[i].f1 := by
  obtain ⟨fuel, hf⟩ := h
  obtain ⟨l, ⟨A, c, he, hl, hC⟩, hq⟩ := o22 _ _ _ _ _ _ _ _ _ hf
  have he' : (Value.slice a len cap) = .slice A l.length c := by simpa [Value.cells] using he
  injection he' with e1 e2 e3
  subst e1 e2 e3
  refine ⟨l, rfl, hl, hC, fun i hi => ?_⟩
  obtain ⟨⟨q1, q2⟩, q3, q4, -, -, -, -, -, -, -, -, -, -, -, -, q14, -, q16, q17, q18, q19, q20, -⟩ := hq _ (List.getElem_mem hi)
  have b2 := bounds_u16 q2
  exact ⟨wf8 q1, ⟨b2.1, by omega⟩, ⟨wf8 q3, wf8 q4, wf8 q16, wf8 q17, wf8 q18, wf8 q19, wf8 q20, fun y hy => wf8 (q14 y hy)⟩⟩
theorem open_bytes {H : Type} {enc : TypeId × Value → H} {w : World} {base : Nat} {sp : Nat → Bool} {held : Bool} {a : Option Addr} {len cap : Nat} {d : DataW H} {p : List MemPlace} (h : DataW.Trod enc Tryz.prog w base sp held 23 (.slice a len cap) d p) :
    ∃ l : List Int, len = l.length ∧ By w (.slice a l.length cap) l ∧ Oct l := by
  obtain ⟨fuel, hf⟩ := h
  obtain ⟨l, ⟨A, c, he, hl, hC⟩, hq⟩ := o23 _ _ _ _ _ _ _ _ _ hf
  have he' : (Value.slice a len cap) = .slice A l.length c := by simpa [Value.cells] using he
  injection he' with e1 e2 e3
  subst e1 e2 e3
  exact ⟨l, rfl, ⟨_, _, rfl, hl, hC⟩, fun y hy => wf8 (hq y hy)⟩
end Go.Proofs.YtmbjlondehcheaaGreatDoor
end
