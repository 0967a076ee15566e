/- An argument of requests and answers, opened: what can be read as a slice of acts is a row of them, each with its direction, its head's numbers and its message's lists. -/
import Derived.Test.YtmbjlondehcheaaPFWx0
import Derived.Test.YtmbjlondehcheaaHPairMem
import Derived.OpenShut
import Derived.Deep.Slices
set_option linter.unusedVariables false
namespace Go.Proofs.Ytmbjlondehcheaa
open Go.ChangeShapes Go.RowKit Go.Proofs.YtmbjlondehcheaaW.PrintWords Go.Proofs.YtmbjlondehcheaaW.PrintLast Go.Proofs.Ytmbjlondehcheaa.PFW

/-- What can be read at a type is of a kind, and of a property. -/
def Op {α : Type} (d : Kd α) (Q : α → Prop) (t : TypeId) : Prop :=
  ∀ (H : Type) (enc : TypeId × Value → H) (w : World) (base : Nat) (sp : Nat → Bool) (held : Bool) (fuel : Nat) (cs : List Value) (x : DataW H × List MemPlace),
    DataW.trod enc Try.prog w base sp held fuel t cs = some x → ∃ y, d.K w y cs ∧ Q y

/-- The same of a struct's fields from some offset on. -/
def Opf {α : Type} (d : Kd α) (Q : α → Prop) (fs : List Field) (N off : Nat) : Prop :=
  ∀ (H : Type) (enc : TypeId × Value → H) (w : World) (base : Nat) (sp : Nat → Bool) (held : Bool) (n : Nat) (cs : List Value), cs.length = N →
    (∀ f ∈ fs, ∃ x, DataW.trod enc Try.prog w base sp held n f.type ((cs.drop f.offset).take (Try.prog.cellsOf f.type)) = some x) → ∃ y, d.K w y (cs.drop off) ∧ Q y

theorem op_int {t : TypeId} (k : IntKind) (h : Try.prog.underlying t = some (.int k)) : Op (Kd.int k) (fun n => (Lit.int k n).wf = true) t := by
  intro H enc w base sp held fuel cs x hx
  obtain ⟨n, rfl, -, hw⟩ := DataW.trod_int h hx
  exact ⟨n, rfl, hw⟩

theorem op_bool {t : TypeId} (h : Try.prog.underlying t = some .bool) : Op Kd.bool (fun _ => True) t := by
  intro H enc w base sp held fuel cs x hx
  obtain ⟨b, rfl, -⟩ := DataW.trod_bool h hx
  exact ⟨b, rfl, trivial⟩

theorem op_slice {α : Type} [Inhabited α] {d : Kd α} {Q : α → Prop} {t e : TypeId} (h : Try.prog.underlying t = some (.slice e)) (hc : Try.prog.cellsOf e = d.sz) (ho : Op d Q e) : Op (Kd.slice e d) (fun xs => ∀ x ∈ xs, Q x) t := by
  intro H enc w base sp held fuel cs x hx
  rcases Go.Deep.open_slice h hx with ⟨rfl, -⟩ | ⟨a, len, cap, m, n, D, Pl, rfl, hb, hl, hcap, hm, -, hel⟩
  · exact ⟨[], ⟨none, 0, rfl, Nat.le_refl _, Kd.C_nil d w⟩, by simp⟩
  · have hlm : len ≤ m := by rw [hm]; split <;> omega
    have hall : ∀ i, i < len → ∃ y : α, (∃ c, w.cells? base (a.add (i * d.sz)) d.sz = some c ∧ d.K w y c) ∧ Q y := by
      intro i hi
      obtain ⟨c, h1, h2⟩ := hel i (by omega)
      rw [hc] at h1
      obtain ⟨y, k1, k2⟩ := ho H enc w base sp held n c _ h2
      exact ⟨y, ⟨c, h1, k1⟩, k2⟩
    obtain ⟨f, hf⟩ := Go.Deep.choose_lt hall
    refine ⟨(List.range len).map f, ⟨some a, cap, by simp, by simpa using hl, by simp, ?_, fun hpos => ⟨a, rfl, fun j p hp => ?_⟩⟩, ?_⟩
    · simp only [List.length_map, List.length_range]
      have : maxLen ≤ 9223372036854775807 := by decide
      omega
    · have hj : j < len := by
        have := (List.getElem?_eq_some_iff.1 hp).1
        simpa using this
      rw [List.getElem?_map, List.getElem?_range hj] at hp
      obtain rfl := Option.some.inj hp
      obtain ⟨⟨c, hcs, hk⟩, -⟩ := hf j hj
      obtain ⟨-, hlen, hcell⟩ := World.cells?_some hcs
      refine ⟨c, hlen, hk, fun i u hu => ?_⟩
      have hi : i < d.sz := by rw [← hlen]; exact (List.getElem?_eq_some_iff.1 hu).1
      rw [← Go.Deep.add_add, hcell i hi]
      exact hu
    · intro y hy
      obtain ⟨i, hi, rfl⟩ := List.mem_map.1 hy
      exact (hf i (List.mem_range.1 hi)).2

theorem opf_last {α : Type} {d : Kd α} {Q : α → Prop} {f : Field} {N off : Nat} (ho : Op d Q f.type) (h1 : f.offset = off) (h2 : N = off + Try.prog.cellsOf f.type) : Opf d Q [f] N off := by
  intro H enc w base sp held n cs hl hf
  obtain ⟨x, hx⟩ := hf f (by simp)
  rw [h1, List.take_of_length_le (by rw [List.length_drop]; omega)] at hx
  exact ho H enc w base sp held n _ x hx

theorem opf_cons {α β : Type} {d : Kd α} {Q : α → Prop} {d' : Kd β} {Q' : β → Prop} {f : Field} {fs : List Field} {N off off' : Nat} (ho : Op d Q f.type) (h1 : f.offset = off) (h2 : off' = off + Try.prog.cellsOf f.type) (hr : Opf d' Q' fs N off') :
    Opf (Kd.pair d d') (fun y => Q y.1 ∧ Q' y.2) (f :: fs) N off := by
  intro H enc w base sp held n cs hl hf
  obtain ⟨x, hx⟩ := hf f (by simp)
  obtain ⟨y, k1, q1⟩ := ho H enc w base sp held n _ x hx
  obtain ⟨y', k2, q2⟩ := hr H enc w base sp held n cs hl (fun g hg => hf g (List.mem_cons_of_mem _ hg))
  refine ⟨(y, y'), ⟨_, _, ?_, k1, k2⟩, q1, q2⟩
  rw [h1, h2, ← List.drop_drop, List.take_append_drop]

theorem op_struct {α β : Type} {d : Kd α} {Q : α → Prop} {t : TypeId} {fs : Array Field} {l : List Field} (f : β → α) (g : α → β) (hg : ∀ y, f (g y) = y) (h : Try.prog.underlying t = some (.struct fs)) (hl : fs.toList = l) (ho : Opf d Q l (Try.prog.cellsOf t) 0) :
    Op (Kd.iso d f) (fun b => Q (f b)) t := by
  intro H enc w base sp held fuel cs x hx
  obtain ⟨xs, n, -, -, hlen, hsz, hf⟩ := DataW.trod_struct h hx
  obtain ⟨y, k, q⟩ := ho H enc w base sp held n cs hlen (fun fl hfl => by
    obtain ⟨i, hi, rfl⟩ := List.getElem_of_mem (hl ▸ hfl : fl ∈ fs.toList)
    have e := hf i (fs.toList[i]) (by simp at hi ⊢)
    have hix : i < xs.length := by rw [hsz]; simpa using hi
    exact ⟨xs[i], by rw [e, List.getElem?_eq_getElem hix]⟩)
  refine ⟨g y, ?_, by show Q (f (g y)); rw [hg]; exact q⟩
  show d.K w (f (g y)) cs
  rw [hg]
  simpa using k

/-- An act: its direction, its frame. -/
structure S46 where
  f0 : Int
  f1 : S44
def z46 : S46 := ⟨0, z44⟩
def k46 : Kd S46 := Kd.iso (Kd.pair (Kd.int .i64) k44) (fun x : S46 => (x.f0, x.f1))
instance : Inhabited S82 := ⟨z82⟩
instance : Inhabited S84 := ⟨z84⟩
instance : Inhabited S46 := ⟨z46⟩
def Q5 : Int → Prop := fun n => (Lit.int .u8 n).wf = true
def Q33 : Int → Prop := fun n => (Lit.int .u16 n).wf = true
def Q3 : Int → Prop := fun n => (Lit.int .i64 n).wf = true
def Q4 : Bool → Prop := fun _ => True
def Q36 : List Int → Prop := fun xs => ∀ x ∈ xs, Q33 x
def Q37 : List Bool → Prop := fun xs => ∀ x ∈ xs, Q4 x
def Q38 : List Int → Prop := fun xs => ∀ x ∈ xs, Q5 x
theorem o5 : Op (Kd.int .u8) Q5 5 := op_int .u8 Try.underlying5
theorem o33 : Op (Kd.int .u16) Q33 33 := op_int .u16 Try.underlying33
theorem o3 : Op (Kd.int .i64) Q3 3 := op_int .i64 Try.underlying3
theorem o4 : Op Kd.bool Q4 4 := op_bool Try.underlying4
theorem o36 : Op (Kd.slice 33 (Kd.int .u16)) Q36 36 := op_slice Try.underlying36 (by kernel_rfl) o33
theorem o37 : Op (Kd.slice 4 Kd.bool) Q37 37 := op_slice Try.underlying37 (by kernel_rfl) o4
theorem o38 : Op (Kd.slice 5 (Kd.int .u8)) Q38 38 := op_slice Try.underlying38 (by kernel_rfl) o5
def Q82 : S82 → Prop := fun x => Q33 x.f0 ∧ Q33 x.f1 ∧ Q33 x.f2 ∧ Q36 x.f3
theorem o82 : Op k82 Q82 82 := by
  have h3 := opf_last (f := { name := "Words", type := 36, offset := 3, embedded := false, tag := "", pkgPath := "", byteOffset := 8 }) (N := 4) (off := 3) o36 rfl (by kernel_rfl)
  have h2 := opf_cons (f := { name := "Count", type := 33, offset := 2, embedded := false, tag := "", pkgPath := "", byteOffset := 4 }) (N := 4) (off := 2) (off' := 3) o33 rfl (by kernel_rfl) h3
  have h1 := opf_cons (f := { name := "Record", type := 33, offset := 1, embedded := false, tag := "", pkgPath := "", byteOffset := 2 }) (N := 4) (off := 1) (off' := 2) o33 rfl (by kernel_rfl) h2
  have h0 := opf_cons (f := { name := "File", type := 33, offset := 0, embedded := false, tag := "", pkgPath := "", byteOffset := 0 }) (N := 4) (off := 0) (off' := 1) o33 rfl (by kernel_rfl) h1
  have hc : Try.prog.cellsOf 82 = 4 := by kernel_rfl
  exact op_struct (fun x : S82 => (x.f0, x.f1, x.f2, x.f3)) (fun y => ⟨y.1, y.2.1, y.2.2.1, y.2.2.2⟩) (fun _ => rfl) Try.underlying82 rfl (by rw [hc]; exact h0)
def Q39 : List S82 → Prop := fun xs => ∀ x ∈ xs, Q82 x
theorem o39 : Op (Kd.slice 82 k82) Q39 39 := op_slice Try.underlying39 (by kernel_rfl) o82
def Q84 : S84 → Prop := fun x => Q5 x.f0 ∧ Q38 x.f1
theorem o84 : Op k84 Q84 84 := by
  have h1 := opf_last (f := { name := "Value", type := 38, offset := 1, embedded := false, tag := "", pkgPath := "", byteOffset := 8 }) (N := 2) (off := 1) o38 rfl (by kernel_rfl)
  have h0 := opf_cons (f := { name := "ID", type := 5, offset := 0, embedded := false, tag := "", pkgPath := "", byteOffset := 0 }) (N := 2) (off := 0) (off' := 1) o5 rfl (by kernel_rfl) h1
  have hc : Try.prog.cellsOf 84 = 2 := by kernel_rfl
  exact op_struct (fun x : S84 => (x.f0, x.f1)) (fun y => ⟨y.1, y.2⟩) (fun _ => rfl) Try.underlying84 rfl (by rw [hc]; exact h0)
def Q40 : List S84 → Prop := fun xs => ∀ x ∈ xs, Q84 x
theorem o40 : Op (Kd.slice 84 k84) Q40 40 := op_slice Try.underlying40 (by kernel_rfl) o84
def Q35 : S35 → Prop := fun x => Q5 x.f0 ∧ Q33 x.f1
theorem o35 : Op k35 Q35 35 := by
  have h1 := opf_last (f := { name := "Tid", type := 33, offset := 1, embedded := false, tag := "", pkgPath := "", byteOffset := 2 }) (N := 2) (off := 1) o33 rfl (by kernel_rfl)
  have h0 := opf_cons (f := { name := "Unit", type := 5, offset := 0, embedded := false, tag := "", pkgPath := "", byteOffset := 0 }) (N := 2) (off := 0) (off' := 1) o5 rfl (by kernel_rfl) h1
  have hc : Try.prog.cellsOf 35 = 2 := by kernel_rfl
  exact op_struct (fun x : S35 => (x.f0, x.f1)) (fun y => ⟨y.1, y.2⟩) (fun _ => rfl) Try.underlying35 rfl (by rw [hc]; exact h0)
def Q42 : S42 → Prop := fun x => Q5 x.f0 ∧ Q5 x.f1 ∧ Q33 x.f2 ∧ Q33 x.f3 ∧ Q33 x.f4 ∧ Q33 x.f5 ∧ Q33 x.f6 ∧ Q33 x.f7 ∧ Q33 x.f8 ∧ Q33 x.f9 ∧ Q33 x.f10 ∧ Q33 x.f11 ∧ Q36 x.f12 ∧ Q37 x.f13 ∧ Q38 x.f14 ∧ Q39 x.f15 ∧ Q5 x.f16 ∧ Q5 x.f17 ∧ Q5 x.f18 ∧ Q5 x.f19 ∧ Q5 x.f20 ∧ Q40 x.f21
theorem o42 : Op k42 Q42 42 := by
  have h21 := opf_last (f := { name := "Objects", type := 40, offset := 21, embedded := false, tag := "", pkgPath := "", byteOffset := 128 }) (N := 22) (off := 21) o40 rfl (by kernel_rfl)
  have h20 := opf_cons (f := { name := "Next", type := 5, offset := 20, embedded := false, tag := "", pkgPath := "", byteOffset := 124 }) (N := 22) (off := 20) (off' := 21) o5 rfl (by kernel_rfl) h21
  have h19 := opf_cons (f := { name := "More", type := 5, offset := 19, embedded := false, tag := "", pkgPath := "", byteOffset := 123 }) (N := 22) (off := 19) (off' := 20) o5 rfl (by kernel_rfl) h20
  have h18 := opf_cons (f := { name := "Level", type := 5, offset := 18, embedded := false, tag := "", pkgPath := "", byteOffset := 122 }) (N := 22) (off := 18) (off' := 19) o5 rfl (by kernel_rfl) h19
  have h17 := opf_cons (f := { name := "Kind", type := 5, offset := 17, embedded := false, tag := "", pkgPath := "", byteOffset := 121 }) (N := 22) (off := 17) (off' := 18) o5 rfl (by kernel_rfl) h18
  have h16 := opf_cons (f := { name := "Mei", type := 5, offset := 16, embedded := false, tag := "", pkgPath := "", byteOffset := 120 }) (N := 22) (off := 16) (off' := 17) o5 rfl (by kernel_rfl) h17
  have h15 := opf_cons (f := { name := "Recs", type := 39, offset := 15, embedded := false, tag := "", pkgPath := "", byteOffset := 96 }) (N := 22) (off := 15) (off' := 16) o39 rfl (by kernel_rfl) h16
  have h14 := opf_cons (f := { name := "Data", type := 38, offset := 14, embedded := false, tag := "", pkgPath := "", byteOffset := 72 }) (N := 22) (off := 14) (off' := 15) o38 rfl (by kernel_rfl) h15
  have h13 := opf_cons (f := { name := "Bits", type := 37, offset := 13, embedded := false, tag := "", pkgPath := "", byteOffset := 48 }) (N := 22) (off := 13) (off' := 14) o37 rfl (by kernel_rfl) h14
  have h12 := opf_cons (f := { name := "Words", type := 36, offset := 12, embedded := false, tag := "", pkgPath := "", byteOffset := 24 }) (N := 22) (off := 12) (off' := 13) o36 rfl (by kernel_rfl) h13
  have h11 := opf_cons (f := { name := "Messages", type := 33, offset := 11, embedded := false, tag := "", pkgPath := "", byteOffset := 20 }) (N := 22) (off := 11) (off' := 12) o33 rfl (by kernel_rfl) h12
  have h10 := opf_cons (f := { name := "Events", type := 33, offset := 10, embedded := false, tag := "", pkgPath := "", byteOffset := 18 }) (N := 22) (off := 10) (off' := 11) o33 rfl (by kernel_rfl) h11
  have h9 := opf_cons (f := { name := "Status", type := 33, offset := 9, embedded := false, tag := "", pkgPath := "", byteOffset := 16 }) (N := 22) (off := 9) (off' := 10) o33 rfl (by kernel_rfl) h10
  have h8 := opf_cons (f := { name := "Sub", type := 33, offset := 8, embedded := false, tag := "", pkgPath := "", byteOffset := 14 }) (N := 22) (off := 8) (off' := 9) o33 rfl (by kernel_rfl) h9
  have h7 := opf_cons (f := { name := "Addr2", type := 33, offset := 7, embedded := false, tag := "", pkgPath := "", byteOffset := 12 }) (N := 22) (off := 7) (off' := 8) o33 rfl (by kernel_rfl) h8
  have h6 := opf_cons (f := { name := "Or", type := 33, offset := 6, embedded := false, tag := "", pkgPath := "", byteOffset := 10 }) (N := 22) (off := 6) (off' := 7) o33 rfl (by kernel_rfl) h7
  have h5 := opf_cons (f := { name := "And", type := 33, offset := 5, embedded := false, tag := "", pkgPath := "", byteOffset := 8 }) (N := 22) (off := 5) (off' := 6) o33 rfl (by kernel_rfl) h6
  have h4 := opf_cons (f := { name := "Value", type := 33, offset := 4, embedded := false, tag := "", pkgPath := "", byteOffset := 6 }) (N := 22) (off := 4) (off' := 5) o33 rfl (by kernel_rfl) h5
  have h3 := opf_cons (f := { name := "Count", type := 33, offset := 3, embedded := false, tag := "", pkgPath := "", byteOffset := 4 }) (N := 22) (off := 3) (off' := 4) o33 rfl (by kernel_rfl) h4
  have h2 := opf_cons (f := { name := "Addr", type := 33, offset := 2, embedded := false, tag := "", pkgPath := "", byteOffset := 2 }) (N := 22) (off := 2) (off' := 3) o33 rfl (by kernel_rfl) h3
  have h1 := opf_cons (f := { name := "Fail", type := 5, offset := 1, embedded := false, tag := "", pkgPath := "", byteOffset := 1 }) (N := 22) (off := 1) (off' := 2) o5 rfl (by kernel_rfl) h2
  have h0 := opf_cons (f := { name := "Code", type := 5, offset := 0, embedded := false, tag := "", pkgPath := "", byteOffset := 0 }) (N := 22) (off := 0) (off' := 1) o5 rfl (by kernel_rfl) h1
  have hc : Try.prog.cellsOf 42 = 22 := by kernel_rfl
  exact op_struct (fun x : S42 => (x.f0, x.f1, x.f2, x.f3, x.f4, x.f5, x.f6, x.f7, x.f8, x.f9, x.f10, x.f11, x.f12, x.f13, x.f14, x.f15, x.f16, x.f17, x.f18, x.f19, x.f20, x.f21)) (fun y => ⟨y.1, y.2.1, y.2.2.1, y.2.2.2.1, y.2.2.2.2.1, y.2.2.2.2.2.1, y.2.2.2.2.2.2.1, y.2.2.2.2.2.2.2.1, y.2.2.2.2.2.2.2.2.1, y.2.2.2.2.2.2.2.2.2.1, y.2.2.2.2.2.2.2.2.2.2.1, y.2.2.2.2.2.2.2.2.2.2.2.1, y.2.2.2.2.2.2.2.2.2.2.2.2.1, y.2.2.2.2.2.2.2.2.2.2.2.2.2.1, y.2.2.2.2.2.2.2.2.2.2.2.2.2.2.1, y.2.2.2.2.2.2.2.2.2.2.2.2.2.2.2.1, y.2.2.2.2.2.2.2.2.2.2.2.2.2.2.2.2.1, y.2.2.2.2.2.2.2.2.2.2.2.2.2.2.2.2.2.1, y.2.2.2.2.2.2.2.2.2.2.2.2.2.2.2.2.2.2.1, y.2.2.2.2.2.2.2.2.2.2.2.2.2.2.2.2.2.2.2.1, y.2.2.2.2.2.2.2.2.2.2.2.2.2.2.2.2.2.2.2.2.1, y.2.2.2.2.2.2.2.2.2.2.2.2.2.2.2.2.2.2.2.2.2⟩) (fun _ => rfl) Try.underlying42 rfl (by rw [hc]; exact h0)
def Q44 : S44 → Prop := fun x => Q35 x.f0 ∧ Q42 x.f1
theorem o44 : Op k44 Q44 44 := by
  have h1 := opf_last (f := { name := "Msg", type := 42, offset := 2, embedded := false, tag := "", pkgPath := "", byteOffset := 8 }) (N := 24) (off := 2) o42 rfl (by kernel_rfl)
  have h0 := opf_cons (f := { name := "Head", type := 35, offset := 0, embedded := false, tag := "", pkgPath := "", byteOffset := 0 }) (N := 24) (off := 0) (off' := 2) o35 rfl (by kernel_rfl) h1
  have hc : Try.prog.cellsOf 44 = 24 := by kernel_rfl
  exact op_struct (fun x : S44 => (x.f0, x.f1)) (fun y => ⟨y.1, y.2⟩) (fun _ => rfl) Try.underlying44 rfl (by rw [hc]; exact h0)
def Q46 : S46 → Prop := fun x => Q3 x.f0 ∧ Q44 x.f1
theorem o46 : Op k46 Q46 46 := by
  have h1 := opf_last (f := { name := "Frame", type := 44, offset := 1, embedded := false, tag := "", pkgPath := "", byteOffset := 8 }) (N := 25) (off := 1) o44 rfl (by kernel_rfl)
  have h0 := opf_cons (f := { name := "Dir", type := 3, offset := 0, embedded := false, tag := "", pkgPath := "", byteOffset := 0 }) (N := 25) (off := 0) (off' := 1) o3 rfl (by kernel_rfl) h1
  have hc : Try.prog.cellsOf 46 = 25 := by kernel_rfl
  exact op_struct (fun x : S46 => (x.f0, x.f1)) (fun y => ⟨y.1, y.2⟩) (fun _ => rfl) Try.underlying46 rfl (by rw [hc]; exact h0)
theorem o22 : Op (Kd.slice 46 k46) (fun xs => ∀ x ∈ xs, Q46 x) 22 := op_slice Try.underlying22 (by kernel_rfl) o46

/-- A slice of acts, opened. -/
theorem open_acts {H : Type} {enc : TypeId × Value → H} {w : World} {base : Nat} {sp : Nat → Bool} {held : Bool} {a : Option Addr} {len cap : Nat} {d : DataW H} {p : List MemPlace} (h : DataW.Trod enc Try.prog w base sp held 22 (.slice a len cap) d p) :
    ∃ l : List S46, len = l.length ∧ len ≤ cap ∧ Kd.C k46 w a l.length l ∧ ∀ x ∈ l, (Lit.int .i64 x.f0).wf = true ∧ (0 ≤ x.f1.f0.f0 ∧ x.f1.f0.f0 < 256) ∧ (0 ≤ x.f1.f0.f1 ∧ x.f1.f0.f1 < 65536) ∧ (0 ≤ x.f1.f1.f0 ∧ x.f1.f1.f0 < 256) := by
  obtain ⟨fuel, hf⟩ := h
  obtain ⟨l, ⟨A, c, he, hl, hC⟩, hq⟩ := o22 _ _ _ _ _ _ _ _ _ hf
  have he' : (Value.slice a len cap) = .slice A l.length c := by simpa [Value.cells] using he
  injection he' with e1 e2 e3
  subst e1 e2 e3
  refine ⟨l, rfl, hl, hC, fun x hx => ?_⟩
  obtain ⟨q0, ⟨q1, q2⟩, q3, -⟩ := hq x hx
  have b1 := bounds_u8 q1
  have b2 := bounds_u16 q2
  have b3 := bounds_u8 q3
  exact ⟨q0, ⟨b1.1, by omega⟩, ⟨b2.1, by omega⟩, ⟨b3.1, by omega⟩⟩

theorem Kept.ofBelow {w w' : World} (h : Below w.heap.size w w') (F : Nat → Prop) : Kept w w' F := ⟨h.os, h.tape, h.output, h.size, fun k hk _ => h.block k hk⟩
theorem Kept.toBelow {w w' : World} (h : Kept w w' (fun _ => False)) : Below w.heap.size w w' := h.below (Nat.le_refl _) (fun _ _ h => h)

/-- An act where it lies: its direction's cell, its frame's cells. -/
theorem acts_at {w : World} {A : Option Addr} {l : List S46} (h : Kd.C k46 w A l.length l) {i : Nat} (hi : i < l.length) :
    ∃ ad cs, A = some ad ∧ k44.K w l[i].f1 cs ∧ w.cell? (ad.add (i * 25)) = some (.int .i64 l[i].f0) ∧ w.rangeAt (ad.add (i * 25)).block ((ad.add (i * 25)).off + 1) cs := by
  obtain ⟨ad, c, rfl, hl, hK, hc⟩ := Kd.C_get h z46 i (by omega) (by omega)
  have e : l.getD (i : Int).toNat z46 = l[i] := by simp [List.getD, hi]
  rw [e] at hK
  obtain ⟨c0, cs, rfl, h0, h1⟩ := hK
  have h0' : c0 = [.int .i64 l[i].f0] := h0
  subst h0'
  have hz : k46.sz = 25 := by kernel_rfl
  rw [hz, Int.toNat_natCast] at hc
  refine ⟨ad, cs, rfl, h1, hc 0 _ rfl, fun j u hu => ?_⟩
  have := hc (j + 1) u (by simpa using hu)
  rw [add_field _ _ (j + 1) (by omega)] at this
  rw [show (ad.add (i * 25)).off + 1 + j = (ad.add (i * 25)).off + (j + 1) by omega]
  exact this

/-- A frame's message, where it lies. -/
theorem msg_of {w : World} {x : S44} {cs : List Value} (h : k44.K w x cs) : ∃ hd ms, cs = hd ++ ms ∧ hd = [.int .u8 x.f0.f0, .int .u16 x.f0.f1] ∧ k42.K w x.f1 ms := by
  obtain ⟨hd, ms, rfl, h1, h2⟩ := h
  exact ⟨hd, ms, rfl, k35_open h1, h2⟩

end Go.Proofs.Ytmbjlondehcheaa
