/- The heap of open requests and the list of all of them, in plain Lean: what is pushed behind a heap, as the youngest, leaves a heap; what is popped is the oldest, and a heap is left; a list in the order of age is told by what it holds. -/
import Derived.WalkKit
import Derived.Sort.LotB
namespace Go.Proofs.Ytmbjlondehcheaa
open Go.Sort

/-- A frame: its head's two numbers, its message's code, and the other cells. -/
structure Fr where
  u : Int
  t : Int
  c : Int
  r : Nat → Value
  hu : 0 ≤ u ∧ u < 256
  ht : 0 ≤ t ∧ t < 65536
  hc : 0 ≤ c ∧ c < 256
  h1 : ∀ i, (r i).oneCell' = true

instance : Inhabited Fr := ⟨⟨0, 0, 0, fun _ => .int .u8 0, by decide, by decide, by decide, fun _ => rfl⟩⟩

/-- A frame's cells. -/
def Fr.cs (f : Fr) : List Value := [.int .u8 f.u, .int .u16 f.t, .int .u8 f.c, f.r 0, f.r 1, f.r 2, f.r 3, f.r 4, f.r 5, f.r 6, f.r 7, f.r 8, f.r 9, f.r 10, f.r 11, f.r 12, f.r 13, f.r 14, f.r 15, f.r 16, f.r 17, f.r 18, f.r 19, f.r 20]

theorem Fr.len (f : Fr) : f.cs.length = 24 := rfl
theorem Fr.one (f : Fr) : ∀ v ∈ f.cs, v.oneCell' = true := by
  intro v hv
  simp only [Fr.cs, List.mem_cons, List.not_mem_nil, or_false] at hv
  rcases hv with h | h | h | h | h | h | h | h | h | h | h | h | h | h | h | h | h | h | h | h | h | h | h | h <;> subst h <;> first | rfl | exact f.h1 _

/-- An open request: when it was asked, and its frame. -/
structure Ent where
  n : Int
  f : Fr

instance : Inhabited Ent := ⟨⟨0, default⟩⟩

def Ent.cs (e : Ent) : List Value := .int .i64 e.n :: e.f.cs
theorem Ent.len (e : Ent) : e.cs.length = 25 := rfl
theorem Ent.one (e : Ent) : ∀ v ∈ e.cs, v.oneCell' = true := by
  intro v hv
  rcases List.mem_cons.1 hv with h | h
  · subst h; rfl
  · exact e.f.one v h

/-- The younger one is the less: so a heap by it has the oldest one first. -/
def yg (x y : Ent) : Bool := decide (y.n < x.n)

theorem yg_swo : SWO yg where
  irrefl x := by simp [yg]
  trans x y z h1 h2 := by simp [yg] at *; omega
  ntrans x y z h1 h2 := by simp [yg] at *; omega

/-- A heap. -/
def Hp (d : Array Ent) : Prop := ∀ i, i < d.size → Ok yg 0 d.size d i

theorem Hp.push {d : Array Ent} (h : Hp d) (x : Ent) (hx : ∀ e ∈ d.toList, e.n < x.n) : Hp (d.push x) := by
  intro i hi k hk hkh
  simp only [Nat.zero_add, Array.size_push] at *
  rcases Nat.lt_or_ge k d.size with hlt | hge
  · have hi' : i < d.size := by omega
    have := h i hi' k hk hlt
    simp only [Nat.zero_add] at this
    rw [getElem!_pos (d.push x) i (by simp; omega), getElem!_pos (d.push x) k (by simp; omega), Array.getElem_push_lt hi', Array.getElem_push_lt hlt]
    rw [getElem!_pos d i hi', getElem!_pos d k hlt] at this
    exact this
  · have hke : k = d.size := by omega
    subst hke
    have hi' : i < d.size := by omega
    rw [getElem!_pos (d.push x) i (by simp; omega), getElem!_pos (d.push x) d.size (by simp), Array.getElem_push_lt hi', Array.getElem_push_eq]
    have := hx d[i] (by simp)
    simp [yg]; omega

/-- The root is the oldest. -/
theorem Hp.root {d : Array Ent} (h : Hp d) (i : Nat) (hi : i < d.size) : (d[0]!).n ≤ (d[i]!).n := by
  have := root_max yg_swo (F := 0) (hi := d.size) h i i (Nat.le_refl _) hi
  simp [yg] at this
  exact this

/-- What is left behind a pop. -/
theorem Hp.pop {d : Array Ent} {m : Nat} (h : Hp d) (hm : d.size = m + 1) :
    let d2 := siftDown yg m 0 0 (swp d 0 m)
    d2.size = m + 1 ∧ d2[m]! = d[0]! ∧ Hp (d2.extract 0 m) ∧ (d2.toList.take m ++ [d[0]!]).Perm d.toList := by
  intro d2
  have hs1 : (swp d 0 m).size = m + 1 := by rw [size_swp]; exact hm
  have g1o : ∀ j, j ≠ 0 → j ≠ m → (swp d 0 m)[j]! = d[j]! := fun j h1 h2 => swp_other d _ _ _ h1 h2
  have hh : ∀ i, i < m + 1 → Ok yg 0 (m + 1) d i := by
    intro i hi; have := h i (by omega); rw [hm] at this; exact this
  obtain ⟨R1, R2⟩ := sift yg_swo m 0 0 m 0 (swp d 0 m) (by omega) (by rw [hs1]; omega) (Nat.le_refl _)
    (fun i _ h2 h3 kk hkk hkkh => by
      simp only [Nat.zero_add]
      rw [g1o i h3 (by omega), g1o kk (by omega) (by omega)]
      have := hh i (by omega) kk hkk (by omega)
      simpa using this)
    (fun p _ hp => by omega)
  have hsz : d2.size = m + 1 := by rw [show d2.size = _ from R2.1]; exact hs1
  have hlast : d2[m]! = d[0]! := by
    rw [show d2[m]! = _ from R2.2.1 m (Or.inr (by omega))]
    exact swp_right d 0 m (by omega)
  refine ⟨hsz, hlast, ?_, ?_⟩
  · intro i hi k hk hkh
    have hes : (d2.extract 0 m).size = m := by simp [hsz]
    rw [hes] at hi hkh
    have := R1 i (Nat.zero_le _) hi k hk hkh
    simp only [Nat.zero_add] at *
    rw [getElem!_pos (d2.extract 0 m) i (by omega), getElem!_pos (d2.extract 0 m) k (by omega)]
    rw [getElem!_pos _ i (by show i < d2.size; omega), getElem!_pos _ k (by show k < d2.size; omega)] at this
    simpa using this
  · have p1 : PermIn 0 (m + 1) d (swp d 0 m) := swp_permIn d 0 (m + 1) 0 m (by omega) (by omega) (by omega) (by omega) (by omega)
    have p2 : PermIn 0 (m + 1) (swp d 0 m) d2 := permIn_mono _ _ 0 (0 + m) 0 (m + 1) (Nat.le_refl _) (by omega) (by rw [hs1]; exact Nat.le_refl _) R2
    have p3 := (permIn_trans _ _ _ _ _ p1 p2).2.2
    rw [show d2.extract 0 (m + 1) = d2 by rw [← hsz]; exact Array.extract_size, show d.extract 0 (m + 1) = d by rw [← hm]; exact Array.extract_size] at p3
    refine List.Perm.trans ?_ p3
    have e1 : d2.toList = d2.toList.take m ++ [d[0]!] := by
      conv => lhs; rw [← List.take_append_drop m d2.toList]
      congr 1
      rw [List.drop_eq_getElem_cons (by simp [hsz]), List.drop_of_length_le (by simp [hsz])]
      congr 1
      rw [← hlast, getElem!_pos d2 m (by omega)]
      simp
    rw [← e1]

/-- Two lists of the same, in the order of age, one of them strictly, are one. -/
theorem eq_of_age : ∀ {l l' : List Ent}, l.Perm l' → l.Pairwise (fun a b => a.n ≤ b.n) → l'.Pairwise (fun a b => a.n < b.n) → l = l'
  | [], l', hp, _, _ => (List.nil_perm.1 hp).symm
  | a :: l, [], hp, _, _ => absurd hp.symm (by simp)
  | a :: l, b :: l', hp, h1, h2 => by
    obtain ⟨ha, h1'⟩ := List.pairwise_cons.1 h1
    obtain ⟨hb, h2'⟩ := List.pairwise_cons.1 h2
    have hab : a = b := by
      have ma : a ∈ b :: l' := hp.mem_iff.1 (by simp)
      have mb : b ∈ a :: l := hp.mem_iff.2 (by simp)
      rcases List.mem_cons.1 ma with e | ma'
      · exact e
      rcases List.mem_cons.1 mb with e | mb'
      · exact e.symm
      have := ha b mb'
      have := hb a ma'
      omega
    subst hab
    rw [eq_of_age (List.perm_cons a |>.1 hp) h1' h2']


/-- The requests of one head: in which block the pointer to them points, what lies there, and what it holds. -/
structure Slot where
  u : Int
  t : Int
  c : Nat
  v : Value
  d : Array Ent

/-- Has a request this head? -/
def hd (u t : Int) (e : Ent) : Bool := decide (e.f.u = u ∧ e.f.t = t)

/-- What the slots hold, and the list of all in the order of age, are one. -/
structure Book (S : List Slot) (L : List Ent) (all : Nat) : Prop where
  keys : S.Pairwise fun a b => ¬ (a.u = b.u ∧ a.t = b.t)
  heap : ∀ s ∈ S, Hp s.d
  heads : ∀ s ∈ S, ∀ e ∈ s.d.toList, e.f.u = s.u ∧ e.f.t = s.t
  perm : L.Perm (S.flatMap fun s => s.d.toList)
  age : L.Pairwise fun a b => a.n < b.n
  old : ∀ e ∈ L, 0 ≤ e.n ∧ e.n < all

theorem Book.zero : Book [] [] 0 := ⟨by simp, by simp, by simp, by simp, by simp, by simp⟩

theorem Book.mem {S : List Slot} {L : List Ent} {all : Nat} (h : Book S L all) {e : Ent} (he : e ∈ L) : ∃ s ∈ S, e ∈ s.d.toList := by
  have := h.perm.mem_iff.1 he
  rw [List.mem_flatMap] at this
  exact this

theorem Book.mem' {S : List Slot} {L : List Ent} {all : Nat} (h : Book S L all) {s : Slot} (hs : s ∈ S) {e : Ent} (he : e ∈ s.d.toList) : e ∈ L :=
  h.perm.mem_iff.2 (List.mem_flatMap.2 ⟨s, hs, he⟩)

/-- What has a slot's head lies in it. -/
theorem Book.own {A B : List Slot} {s : Slot} {L : List Ent} {all : Nat} (h : Book (A ++ s :: B) L all) {e : Ent} (he : e ∈ L) (hh : hd s.u s.t e = true) : e ∈ s.d.toList := by
  obtain ⟨s', hs', hm⟩ := h.mem he
  have hk := h.heads s' hs' e hm
  simp only [hd, decide_eq_true_eq] at hh
  have hkey := h.keys
  rw [List.pairwise_append] at hkey
  obtain ⟨_, h2, h3⟩ := hkey
  rw [List.pairwise_cons] at h2
  rcases List.mem_append.1 hs' with ha | hb
  · exact absurd ⟨hk.1.symm.trans hh.1, hk.2.symm.trans hh.2⟩ (h3 s' ha s (by simp))
  · rcases List.mem_cons.1 hb with rfl | hb
    · exact hm
    · exact absurd ⟨hh.1.symm.trans hk.1, hh.2.symm.trans hk.2⟩ (h2.1 s' hb)

theorem Book.none1 {S : List Slot} {L : List Ent} {all : Nat} (h : Book S L all) {u t : Int} (hn : ∀ s ∈ S, ¬ (s.u = u ∧ s.t = t)) : L.find? (hd u t) = none := by
  rw [List.find?_eq_none]
  intro e he hh
  obtain ⟨s, hs, hm⟩ := h.mem he
  have hk := h.heads s hs e hm
  simp only [hd, decide_eq_true_eq] at hh
  exact hn s hs ⟨hk.1.symm.trans hh.1, hk.2.symm.trans hh.2⟩

theorem Book.none2 {A B : List Slot} {s : Slot} {L : List Ent} {all : Nat} (h : Book (A ++ s :: B) L all) (hz : s.d.size = 0) : L.find? (hd s.u s.t) = none := by
  rw [List.find?_eq_none]
  intro e he hh
  have := h.own he hh
  rw [Array.eq_empty_of_size_eq_zero hz] at this
  simp at this

/-- A new head's slot, empty. -/
theorem Book.slot {S : List Slot} {L : List Ent} {all : Nat} (h : Book S L all) (s : Slot) (hn : ∀ s' ∈ S, ¬ (s'.u = s.u ∧ s'.t = s.t)) (hz : s.d = #[]) : Book (S ++ [s]) L all where
  keys := by rw [List.pairwise_append]; exact ⟨h.keys, by simp, fun a ha b hb => by simp at hb; subst hb; exact hn a ha⟩
  heap s' hs' := by
    rcases List.mem_append.1 hs' with h1 | h1
    · exact h.heap s' h1
    · simp at h1; subst h1; rw [hz]; intro i hi; simp at hi
  heads s' hs' e he := by
    rcases List.mem_append.1 hs' with h1 | h1
    · exact h.heads s' h1 e he
    · simp at h1; subst h1; rw [hz] at he; simp at he
  perm := by simpa [hz] using h.perm
  age := h.age
  old := h.old

theorem flat_mid (A B : List Slot) (s : Slot) : ((A ++ s :: B).flatMap fun s => s.d.toList) = (A.flatMap fun s => s.d.toList) ++ (s.d.toList ++ B.flatMap fun s => s.d.toList) := by
  simp [List.flatMap_append, List.flatMap_cons]

theorem mem_mid {A B : List Slot} {s s' x : Slot} (h : x ∈ A ++ s' :: B) : x = s' ∨ x ∈ A ++ s :: B := by
  rcases List.mem_append.1 h with h | h
  · exact .inr (List.mem_append.2 (.inl h))
  · rcases List.mem_cons.1 h with h | h
    · exact .inl h
    · exact .inr (List.mem_append.2 (.inr (List.mem_cons.2 (.inr h))))

theorem keys_mid {A B : List Slot} {s s' : Slot} (h : (A ++ s :: B).Pairwise fun a b => ¬ (a.u = b.u ∧ a.t = b.t)) (hu : s'.u = s.u) (ht : s'.t = s.t) : (A ++ s' :: B).Pairwise fun a b => ¬ (a.u = b.u ∧ a.t = b.t) := by
  rw [List.pairwise_append, List.pairwise_cons] at *
  obtain ⟨h1, ⟨h2, h3⟩, h4⟩ := h
  refine ⟨h1, ⟨fun b hb => by rw [hu, ht]; exact h2 b hb, h3⟩, fun a ha b hb => ?_⟩
  rcases List.mem_cons.1 hb with rfl | hb
  · rw [hu, ht]; exact h4 a ha s (by simp)
  · exact h4 a ha b (by simp [hb])

/-- A request is put. -/
theorem Book.put {A B : List Slot} {s : Slot} {L : List Ent} {all : Nat} (h : Book (A ++ s :: B) L all) (x : Ent) (hu : x.f.u = s.u) (ht : x.f.t = s.t) (hn : x.n = all) (s' : Slot) (hs : s'.u = s.u ∧ s'.t = s.t ∧ s'.d = s.d.push x) :
    Book (A ++ s' :: B) (L ++ [x]) (all + 1) where
  keys := keys_mid h.keys hs.1 hs.2.1
  heap y hy := by
    rcases mem_mid (s := s) hy with rfl | hy
    · rw [hs.2.2]
      exact (h.heap s (by simp)).push x fun e he => by rw [hn]; exact (h.old e (h.mem' (by simp) he)).2
    · exact h.heap y hy
  heads y hy e he := by
    rcases mem_mid (s := s) hy with rfl | hy
    · rw [hs.2.2] at he
      rw [hs.1, hs.2.1]
      simp only [Array.toList_push, List.mem_append, List.mem_singleton] at he
      rcases he with he | rfl
      · exact h.heads s (by simp) e he
      · exact ⟨hu, ht⟩
    · exact h.heads y hy e he
  perm := by
    have hp := h.perm
    rw [flat_mid] at hp ⊢
    rw [hs.2.2, Array.toList_push]
    refine (hp.append_right [x]).trans ?_
    simp only [List.append_assoc]
    refine List.Perm.append_left _ (List.Perm.append_left _ ?_)
    exact List.perm_append_comm
  age := by
    rw [List.pairwise_append]
    exact ⟨h.age, by simp, fun a ha b hb => by simp at hb; subst hb; rw [hn]; exact (h.old a ha).2⟩
  old e he := by
    rcases List.mem_append.1 he with he | he
    · have := h.old e he; omega
    · simp at he; subst he; omega

/-- The oldest request of a head is taken. -/
theorem Book.take {A B : List Slot} {s : Slot} {L : List Ent} {all m : Nat} (h : Book (A ++ s :: B) L all) (hm : s.d.size = m + 1) (s' : Slot) (hs : s'.u = s.u ∧ s'.t = s.t ∧ s'.d = (siftDown yg m 0 0 (swp s.d 0 m)).extract 0 m) :
    L.find? (hd s.u s.t) = some s.d[0]! ∧ Book (A ++ s' :: B) (L.eraseP (hd s.u s.t)) all ∧ L.length = (L.eraseP (hd s.u s.t)).length + 1 := by
  obtain ⟨q1, q2, q3, q4⟩ := (h.heap s (by simp)).pop hm
  have hel : s.d[0]! ∈ s.d.toList := by rw [getElem!_pos s.d 0 (by omega)]; simp
  have heL := h.mem' (by simp) hel
  have heh : hd s.u s.t s.d[0]! = true := by
    have := h.heads s (by simp) _ hel
    simp [hd, this]
  -- what is found first
  obtain ⟨x, hx⟩ : ∃ x, L.find? (hd s.u s.t) = some x := by
    cases hf : L.find? (hd s.u s.t) with
    | some x => exact ⟨x, rfl⟩
    | none => rw [List.find?_eq_none] at hf; exact absurd heh (hf _ heL)
  obtain ⟨hxh, l1, l2, hL, hl1⟩ := List.find?_eq_some_iff_append.1 hx
  have hxe : x = s.d[0]! := by
    have hxL : x ∈ L := by rw [hL]; simp
    have hxs := h.own hxL hxh
    obtain ⟨i, hi, hix⟩ := List.getElem_of_mem hxs
    have hmin := (h.heap s (by simp)).root i (by simpa using hi)
    rw [getElem!_pos s.d i (by simpa using hi)] at hmin
    simp only [Array.getElem_toList] at hix
    rw [hix] at hmin
    have hage := h.age
    rw [hL] at heL hage
    rw [List.pairwise_append, List.pairwise_cons] at hage
    rcases List.mem_append.1 heL with h1 | h1
    · exact absurd heh (by simpa using hl1 _ h1)
    · rcases List.mem_cons.1 h1 with h1 | h1
      · exact h1.symm
      · have := hage.2.1.1 _ h1; omega
  have her : L.eraseP (hd s.u s.t) = l1 ++ l2 := by
    rw [hL, List.eraseP_append_right _ (fun b hb => by simpa using hl1 b hb), List.eraseP_cons_of_pos (by simpa using hxh)]
  refine ⟨by rw [hx, hxe], ?_, by rw [her, hL]; simp; omega⟩
  have hsub : ∀ e ∈ l1 ++ l2, e ∈ L := fun e he => by rw [hL]; simp at he ⊢; rcases he with he | he <;> simp [he]
  rw [her]
  have hd' : s'.d.toList = (siftDown yg m 0 0 (swp s.d 0 m)).toList.take m := by rw [hs.2.2]; simp
  refine ⟨keys_mid h.keys hs.1 hs.2.1, fun y hy => ?_, fun y hy e he => ?_, ?_, ?_, fun e he => h.old e (hsub e he)⟩
  · rcases mem_mid (s := s) hy with rfl | hy
    · rw [hs.2.2]; exact q3
    · exact h.heap y hy
  · rcases mem_mid (s := s) hy with rfl | hy
    · rw [hs.1, hs.2.1]
      rw [hd'] at he
      exact h.heads s (by simp) e (q4.mem_iff.1 (List.mem_append.2 (.inl he)))
    · exact h.heads y hy e he
  · have hp := h.perm
    rw [flat_mid] at hp ⊢
    rw [hd']
    have p1 : (x :: (l1 ++ l2)).Perm L := by rw [hL]; exact List.perm_middle.symm
    have p2 := p1.trans hp
    rw [hxe] at p2
    refine (List.perm_cons s.d[0]!).1 (p2.trans ?_)
    have p3 : (s.d.toList ++ (B.flatMap fun s => s.d.toList)).Perm (s.d[0]! :: ((siftDown yg m 0 0 (swp s.d 0 m)).toList.take m ++ B.flatMap fun s => s.d.toList)) := by
      refine (q4.symm.append_right _).trans ?_
      rw [List.append_assoc]
      exact List.perm_middle
    refine (List.Perm.append_left _ p3).trans ?_
    exact List.perm_middle
  · have hage := h.age
    rw [hL] at hage
    exact hage.sublist (List.Sublist.append_left (List.sublist_cons_self _ _) _)

theorem Book.size_le {A B : List Slot} {s : Slot} {L : List Ent} {all : Nat} (h : Book (A ++ s :: B) L all) : s.d.size ≤ L.length := by
  have := h.perm.length_eq
  rw [flat_mid] at this
  simp at this
  omega

end Go.Proofs.Ytmbjlondehcheaa
