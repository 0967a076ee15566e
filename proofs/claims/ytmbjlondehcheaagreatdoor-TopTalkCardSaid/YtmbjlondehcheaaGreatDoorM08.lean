/- TopTalk: part 8 of the walks: of PTopTalkx0, HMsg, HCoil. -/
import Derived.Test.YtmbjlondehcheaaGreatDoorM07
section
namespace Go.Proofs.YtmbjlondehcheaaGreatDoor.PTopTalk
open Go.RowKit Go.Proofs.YtmbjlondehcheaaGreatDoorW.PrintWords Go.Proofs.YtmbjlondehcheaaGreatDoorW.PrintLast
set_option linter.unusedVariables false
set_option linter.unusedSimpArgs false
structure S29 where
  f0 : Int
  f1 : Int
def z29 : S29 := ⟨(0 : Int), (0 : Int)⟩
def k29 : Kd S29 := Kd.iso (Kd.pair (Kd.int .u8) (Kd.int .u16)) (fun x : S29 => (x.f0, x.f1))
theorem k29_open {w : World} {x : S29} {cs : List Value} (h : k29.K w x cs) : cs = [.int .u8 x.f0, .int .u16 x.f1] := by
  obtain ⟨_, _, rfl, rfl, rfl⟩ := h
  exact rfl
structure S67 where
  f0 : Int
  f1 : Int
  f2 : Int
  f3 : (List Int)
def z67 : S67 := ⟨(0 : Int), (0 : Int), (0 : Int), ([] : List Int)⟩
def k67 : Kd S67 := Kd.iso (Kd.pair (Kd.int .u16) (Kd.pair (Kd.int .u16) (Kd.pair (Kd.int .u16) (Kd.slice 27 (Kd.int .u16))))) (fun x : S67 => (x.f0, x.f1, x.f2, x.f3))
theorem k67_open {w : World} {x : S67} {cs : List Value} (h : k67.K w x cs) : ∃ A3 c3, cs = [.int .u16 x.f0, .int .u16 x.f1, .int .u16 x.f2, .slice A3 x.f3.length c3] ∧ x.f3.length ≤ c3 ∧ (Kd.int .u16).C w A3 x.f3.length x.f3 := by
  obtain ⟨_, _, rfl, rfl, ⟨_, _, rfl, rfl, ⟨_, _, rfl, rfl, ⟨A3, c3, rfl, l3, g3⟩⟩⟩⟩ := h
  exact ⟨A3, c3, rfl, l3, g3⟩
theorem k67_mk (w : World) (x : S67) {A3 : Option Addr} {c3 : Nat} (l3 : x.f3.length ≤ c3) (g3 : (Kd.int .u16).C w A3 x.f3.length x.f3) : k67.K w x [.int .u16 x.f0, .int .u16 x.f1, .int .u16 x.f2, .slice A3 x.f3.length c3] := ⟨[.int .u16 x.f0], [.int .u16 x.f1, .int .u16 x.f2, .slice A3 x.f3.length c3], rfl, rfl, ⟨[.int .u16 x.f1], [.int .u16 x.f2, .slice A3 x.f3.length c3], rfl, rfl, ⟨[.int .u16 x.f2], [.slice A3 x.f3.length c3], rfl, rfl, ⟨A3, c3, rfl, l3, g3⟩⟩⟩⟩
def rd_T67 (xs : List S67) (i : Int) : S67 := xs.getD i.toNat z67
theorem at_T67 {w : World} {A : Option Addr} {n : Nat} {xs : List S67} (h : Kd.C k67 w A n xs) (i : Int) (h0 : 0 ≤ i) (h1 : i < n) : ∃ ad A3 c3, A = some ad ∧ w.cell? (ad.add (i.toNat * 4)) = some (.int .u16 (rd_T67 xs i).f0) ∧ w.cell? ⟨(ad.add (i.toNat * 4)).block, (ad.add (i.toNat * 4)).off + 1, none⟩ = some (.int .u16 (rd_T67 xs i).f1) ∧ w.cell? ⟨(ad.add (i.toNat * 4)).block, (ad.add (i.toNat * 4)).off + 2, none⟩ = some (.int .u16 (rd_T67 xs i).f2) ∧ w.cell? ⟨(ad.add (i.toNat * 4)).block, (ad.add (i.toNat * 4)).off + 3, none⟩ = some (.slice A3 (rd_T67 xs i).f3.length c3) ∧ (rd_T67 xs i).f3.length ≤ c3 ∧ (Kd.int .u16).C w A3 (rd_T67 xs i).f3.length (rd_T67 xs i).f3 := by
  obtain ⟨ad, c, e, _, hK, hc0⟩ := Kd.C_get h z67 i h0 h1
  have hc : ∀ j u, c[j]? = some u → w.cell? (ad.add (i.toNat * 4 + j)) = some u := hc0
  obtain ⟨A3, c3, rfl, l3, g3⟩ := k67_open hK
  exact ⟨ad, A3, c3, e, hc 0 _ rfl, by rw [← add_field _ _ 1 (by omega)]; exact hc 1 _ rfl, by rw [← add_field _ _ 2 (by omega)]; exact hc 2 _ rfl, by rw [← add_field _ _ 3 (by omega)]; exact hc 3 _ rfl, l3, g3⟩
structure S69 where
  f0 : Int
  f1 : (List Int)
def z69 : S69 := ⟨(0 : Int), ([] : List Int)⟩
def k69 : Kd S69 := Kd.iso (Kd.pair (Kd.int .u8) (Kd.slice 5 (Kd.int .u8))) (fun x : S69 => (x.f0, x.f1))
theorem k69_open {w : World} {x : S69} {cs : List Value} (h : k69.K w x cs) : ∃ A1 c1, cs = [.int .u8 x.f0, .slice A1 x.f1.length c1] ∧ x.f1.length ≤ c1 ∧ (Kd.int .u8).C w A1 x.f1.length x.f1 := by
  obtain ⟨_, _, rfl, rfl, ⟨A1, c1, rfl, l1, g1⟩⟩ := h
  exact ⟨A1, c1, rfl, l1, g1⟩
def rd_T69 (xs : List S69) (i : Int) : S69 := xs.getD i.toNat z69
theorem at_T69 {w : World} {A : Option Addr} {n : Nat} {xs : List S69} (h : Kd.C k69 w A n xs) (i : Int) (h0 : 0 ≤ i) (h1 : i < n) : ∃ ad A1 c1, A = some ad ∧ w.cell? (ad.add (i.toNat * 2)) = some (.int .u8 (rd_T69 xs i).f0) ∧ w.cell? ⟨(ad.add (i.toNat * 2)).block, (ad.add (i.toNat * 2)).off + 1, none⟩ = some (.slice A1 (rd_T69 xs i).f1.length c1) ∧ (rd_T69 xs i).f1.length ≤ c1 ∧ (Kd.int .u8).C w A1 (rd_T69 xs i).f1.length (rd_T69 xs i).f1 := by
  obtain ⟨ad, c, e, _, hK, hc0⟩ := Kd.C_get h z69 i h0 h1
  have hc : ∀ j u, c[j]? = some u → w.cell? (ad.add (i.toNat * 2 + j)) = some u := hc0
  obtain ⟨A1, c1, rfl, l1, g1⟩ := k69_open hK
  exact ⟨ad, A1, c1, e, hc 0 _ rfl, by rw [← add_field _ _ 1 (by omega)]; exact hc 1 _ rfl, l1, g1⟩
structure S35 where
  f0 : Int
  f1 : Int
  f2 : Int
  f3 : Int
  f4 : Int
  f5 : Int
  f6 : Int
  f7 : Int
  f8 : Int
  f9 : Int
  f10 : Int
  f11 : Int
  f12 : (List Int)
  f13 : (List Bool)
  f14 : (List Int)
  f15 : (List S67)
  f16 : Int
  f17 : Int
  f18 : Int
  f19 : Int
  f20 : Int
  f21 : (List S69)
def z35 : S35 := ⟨(0 : Int), (0 : Int), (0 : Int), (0 : Int), (0 : Int), (0 : Int), (0 : Int), (0 : Int), (0 : Int), (0 : Int), (0 : Int), (0 : Int), ([] : List Int), ([] : List Bool), ([] : List Int), ([] : List S67), (0 : Int), (0 : Int), (0 : Int), (0 : Int), (0 : Int), ([] : List S69)⟩
def k35 : Kd S35 := Kd.iso (Kd.pair (Kd.int .u8) (Kd.pair (Kd.int .u8) (Kd.pair (Kd.int .u16) (Kd.pair (Kd.int .u16) (Kd.pair (Kd.int .u16) (Kd.pair (Kd.int .u16) (Kd.pair (Kd.int .u16) (Kd.pair (Kd.int .u16) (Kd.pair (Kd.int .u16) (Kd.pair (Kd.int .u16) (Kd.pair (Kd.int .u16) (Kd.pair (Kd.int .u16) (Kd.pair (Kd.slice 27 (Kd.int .u16)) (Kd.pair (Kd.slice 4 Kd.bool) (Kd.pair (Kd.slice 5 (Kd.int .u8)) (Kd.pair (Kd.slice 67 k67) (Kd.pair (Kd.int .u8) (Kd.pair (Kd.int .u8) (Kd.pair (Kd.int .u8) (Kd.pair (Kd.int .u8) (Kd.pair (Kd.int .u8) (Kd.slice 69 k69)))))))))))))))))))))) (fun x : S35 => (x.f0, x.f1, x.f2, x.f3, x.f4, x.f5, x.f6, x.f7, x.f8, x.f9, x.f10, x.f11, x.f12, x.f13, x.f14, x.f15, x.f16, x.f17, x.f18, x.f19, x.f20, x.f21))
theorem k35_open {w : World} {x : S35} {cs : List Value} (h : k35.K w x cs) : ∃ A12 c12 A13 c13 A14 c14 A15 c15 A21 c21, cs = [.int .u8 x.f0, .int .u8 x.f1, .int .u16 x.f2, .int .u16 x.f3, .int .u16 x.f4, .int .u16 x.f5, .int .u16 x.f6, .int .u16 x.f7, .int .u16 x.f8, .int .u16 x.f9, .int .u16 x.f10, .int .u16 x.f11, .slice A12 x.f12.length c12, .slice A13 x.f13.length c13, .slice A14 x.f14.length c14, .slice A15 x.f15.length c15, .int .u8 x.f16, .int .u8 x.f17, .int .u8 x.f18, .int .u8 x.f19, .int .u8 x.f20, .slice A21 x.f21.length c21] ∧ x.f12.length ≤ c12 ∧ (Kd.int .u16).C w A12 x.f12.length x.f12 ∧ x.f13.length ≤ c13 ∧ Kd.bool.C w A13 x.f13.length x.f13 ∧ x.f14.length ≤ c14 ∧ (Kd.int .u8).C w A14 x.f14.length x.f14 ∧ x.f15.length ≤ c15 ∧ k67.C w A15 x.f15.length x.f15 ∧ x.f21.length ≤ c21 ∧ k69.C w A21 x.f21.length x.f21 := by
  obtain ⟨_, _, rfl, rfl, ⟨_, _, rfl, rfl, ⟨_, _, rfl, rfl, ⟨_, _, rfl, rfl, ⟨_, _, rfl, rfl, ⟨_, _, rfl, rfl, ⟨_, _, rfl, rfl, ⟨_, _, rfl, rfl, ⟨_, _, rfl, rfl, ⟨_, _, rfl, rfl, ⟨_, _, rfl, rfl, ⟨_, _, rfl, rfl, ⟨_, _, rfl, ⟨A12, c12, rfl, l12, g12⟩, ⟨_, _, rfl, ⟨A13, c13, rfl, l13, g13⟩, ⟨_, _, rfl, ⟨A14, c14, rfl, l14, g14⟩, ⟨_, _, rfl, ⟨A15, c15, rfl, l15, g15⟩, ⟨_, _, rfl, rfl, ⟨_, _, rfl, rfl, ⟨_, _, rfl, rfl, ⟨_, _, rfl, rfl, ⟨_, _, rfl, rfl, ⟨A21, c21, rfl, l21, g21⟩⟩⟩⟩⟩⟩⟩⟩⟩⟩⟩⟩⟩⟩⟩⟩⟩⟩⟩⟩⟩⟩ := h
  exact ⟨A12, c12, A13, c13, A14, c14, A15, c15, A21, c21, rfl, l12, g12, l13, g13, l14, g14, l15, g15, l21, g21⟩
theorem k35_mk (w : World) (x : S35) {A12 : Option Addr} {c12 : Nat} (l12 : x.f12.length ≤ c12) (g12 : (Kd.int .u16).C w A12 x.f12.length x.f12) {A13 : Option Addr} {c13 : Nat} (l13 : x.f13.length ≤ c13) (g13 : Kd.bool.C w A13 x.f13.length x.f13) {A14 : Option Addr} {c14 : Nat} (l14 : x.f14.length ≤ c14) (g14 : (Kd.int .u8).C w A14 x.f14.length x.f14) {A15 : Option Addr} {c15 : Nat} (l15 : x.f15.length ≤ c15) (g15 : k67.C w A15 x.f15.length x.f15) {A21 : Option Addr} {c21 : Nat} (l21 : x.f21.length ≤ c21) (g21 : k69.C w A21 x.f21.length x.f21) : k35.K w x [.int .u8 x.f0, .int .u8 x.f1, .int .u16 x.f2, .int .u16 x.f3, .int .u16 x.f4, .int .u16 x.f5, .int .u16 x.f6, .int .u16 x.f7, .int .u16 x.f8, .int .u16 x.f9, .int .u16 x.f10, .int .u16 x.f11, .slice A12 x.f12.length c12, .slice A13 x.f13.length c13, .slice A14 x.f14.length c14, .slice A15 x.f15.length c15, .int .u8 x.f16, .int .u8 x.f17, .int .u8 x.f18, .int .u8 x.f19, .int .u8 x.f20, .slice A21 x.f21.length c21] := ⟨[.int .u8 x.f0], [.int .u8 x.f1, .int .u16 x.f2, .int .u16 x.f3, .int .u16 x.f4, .int .u16 x.f5, .int .u16 x.f6, .int .u16 x.f7, .int .u16 x.f8, .int .u16 x.f9, .int .u16 x.f10, .int .u16 x.f11, .slice A12 x.f12.length c12, .slice A13 x.f13.length c13, .slice A14 x.f14.length c14, .slice A15 x.f15.length c15, .int .u8 x.f16, .int .u8 x.f17, .int .u8 x.f18, .int .u8 x.f19, .int .u8 x.f20, .slice A21 x.f21.length c21], rfl, rfl, ⟨[.int .u8 x.f1], [.int .u16 x.f2, .int .u16 x.f3, .int .u16 x.f4, .int .u16 x.f5, .int .u16 x.f6, .int .u16 x.f7, .int .u16 x.f8, .int .u16 x.f9, .int .u16 x.f10, .int .u16 x.f11, .slice A12 x.f12.length c12, .slice A13 x.f13.length c13, .slice A14 x.f14.length c14, .slice A15 x.f15.length c15, .int .u8 x.f16, .int .u8 x.f17, .int .u8 x.f18, .int .u8 x.f19, .int .u8 x.f20, .slice A21 x.f21.length c21], rfl, rfl, ⟨[.int .u16 x.f2], [.int .u16 x.f3, .int .u16 x.f4, .int .u16 x.f5, .int .u16 x.f6, .int .u16 x.f7, .int .u16 x.f8, .int .u16 x.f9, .int .u16 x.f10, .int .u16 x.f11, .slice A12 x.f12.length c12, .slice A13 x.f13.length c13, .slice A14 x.f14.length c14, .slice A15 x.f15.length c15, .int .u8 x.f16, .int .u8 x.f17, .int .u8 x.f18, .int .u8 x.f19, .int .u8 x.f20, .slice A21 x.f21.length c21], rfl, rfl, ⟨[.int .u16 x.f3], [.int .u16 x.f4, .int .u16 x.f5, .int .u16 x.f6, .int .u16 x.f7, .int .u16 x.f8, .int .u16 x.f9, .int .u16 x.f10, .int .u16 x.f11, .slice A12 x.f12.length c12, .slice A13 x.f13.length c13, .slice A14 x.f14.length c14, .slice A15 x.f15.length c15, .int .u8 x.f16, .int .u8 x.f17, .int .u8 x.f18, .int .u8 x.f19, .int .u8 x.f20, .slice A21 x.f21.length c21], rfl, rfl, ⟨[.int .u16 x.f4], [.int .u16 x.f5, .int .u16 x.f6, .int .u16 x.f7, .int .u16 x.f8, .int .u16 x.f9, .int .u16 x.f10, .int .u16 x.f11, .slice A12 x.f12.length c12, .slice A13 x.f13.length c13, .slice A14 x.f14.length c14, .slice A15 x.f15.length c15, .int .u8 x.f16, .int .u8 x.f17, .int .u8 x.f18, .int .u8 x.f19, .int .u8 x.f20, .slice A21 x.f21.length c21], rfl, rfl, ⟨[.int .u16 x.f5], [.int .u16 x.f6, .int .u16 x.f7, .int .u16 x.f8, .int .u16 x.f9, .int .u16 x.f10, .int .u16 x.f11, .slice A12 x.f12.length c12, .slice A13 x.f13.length c13, .slice A14 x.f14.length c14, .slice A15 x.f15.length c15, .int .u8 x.f16, .int .u8 x.f17, .int .u8 x.f18, .int .u8 x.f19, .int .u8 x.f20, .slice A21 x.f21.length c21], rfl, rfl, ⟨[.int .u16 x.f6], [.int .u16 x.f7, .int .u16 x.f8, .int .u16 x.f9, .int .u16 x.f10, .int .u16 x.f11, .slice A12 x.f12.length c12, .slice A13 x.f13.length c13, .slice A14 x.f14.length c14, .slice A15 x.f15.length c15, .int .u8 x.f16, .int .u8 x.f17, .int .u8 x.f18, .int .u8 x.f19, .int .u8 x.f20, .slice A21 x.f21.length c21], rfl, rfl, ⟨[.int .u16 x.f7], [.int .u16 x.f8, .int .u16 x.f9, .int .u16 x.f10, .int .u16 x.f11, .slice A12 x.f12.length c12, .slice A13 x.f13.length c13, .slice A14 x.f14.length c14, .slice A15 x.f15.length c15, .int .u8 x.f16, .int .u8 x.f17, .int .u8 x.f18, .int .u8 x.f19, .int .u8 x.f20, .slice A21 x.f21.length c21], rfl, rfl, ⟨[.int .u16 x.f8], [.int .u16 x.f9, .int .u16 x.f10, .int .u16 x.f11, .slice A12 x.f12.length c12, .slice A13 x.f13.length c13, .slice A14 x.f14.length c14, .slice A15 x.f15.length c15, .int .u8 x.f16, .int .u8 x.f17, .int .u8 x.f18, .int .u8 x.f19, .int .u8 x.f20, .slice A21 x.f21.length c21], rfl, rfl, ⟨[.int .u16 x.f9], [.int .u16 x.f10, .int .u16 x.f11, .slice A12 x.f12.length c12, .slice A13 x.f13.length c13, .slice A14 x.f14.length c14, .slice A15 x.f15.length c15, .int .u8 x.f16, .int .u8 x.f17, .int .u8 x.f18, .int .u8 x.f19, .int .u8 x.f20, .slice A21 x.f21.length c21], rfl, rfl, ⟨[.int .u16 x.f10], [.int .u16 x.f11, .slice A12 x.f12.length c12, .slice A13 x.f13.length c13, .slice A14 x.f14.length c14, .slice A15 x.f15.length c15, .int .u8 x.f16, .int .u8 x.f17, .int .u8 x.f18, .int .u8 x.f19, .int .u8 x.f20, .slice A21 x.f21.length c21], rfl, rfl, ⟨[.int .u16 x.f11], [.slice A12 x.f12.length c12, .slice A13 x.f13.length c13, .slice A14 x.f14.length c14, .slice A15 x.f15.length c15, .int .u8 x.f16, .int .u8 x.f17, .int .u8 x.f18, .int .u8 x.f19, .int .u8 x.f20, .slice A21 x.f21.length c21], rfl, rfl, ⟨[.slice A12 x.f12.length c12], [.slice A13 x.f13.length c13, .slice A14 x.f14.length c14, .slice A15 x.f15.length c15, .int .u8 x.f16, .int .u8 x.f17, .int .u8 x.f18, .int .u8 x.f19, .int .u8 x.f20, .slice A21 x.f21.length c21], rfl, ⟨A12, c12, rfl, l12, g12⟩, ⟨[.slice A13 x.f13.length c13], [.slice A14 x.f14.length c14, .slice A15 x.f15.length c15, .int .u8 x.f16, .int .u8 x.f17, .int .u8 x.f18, .int .u8 x.f19, .int .u8 x.f20, .slice A21 x.f21.length c21], rfl, ⟨A13, c13, rfl, l13, g13⟩, ⟨[.slice A14 x.f14.length c14], [.slice A15 x.f15.length c15, .int .u8 x.f16, .int .u8 x.f17, .int .u8 x.f18, .int .u8 x.f19, .int .u8 x.f20, .slice A21 x.f21.length c21], rfl, ⟨A14, c14, rfl, l14, g14⟩, ⟨[.slice A15 x.f15.length c15], [.int .u8 x.f16, .int .u8 x.f17, .int .u8 x.f18, .int .u8 x.f19, .int .u8 x.f20, .slice A21 x.f21.length c21], rfl, ⟨A15, c15, rfl, l15, g15⟩, ⟨[.int .u8 x.f16], [.int .u8 x.f17, .int .u8 x.f18, .int .u8 x.f19, .int .u8 x.f20, .slice A21 x.f21.length c21], rfl, rfl, ⟨[.int .u8 x.f17], [.int .u8 x.f18, .int .u8 x.f19, .int .u8 x.f20, .slice A21 x.f21.length c21], rfl, rfl, ⟨[.int .u8 x.f18], [.int .u8 x.f19, .int .u8 x.f20, .slice A21 x.f21.length c21], rfl, rfl, ⟨[.int .u8 x.f19], [.int .u8 x.f20, .slice A21 x.f21.length c21], rfl, rfl, ⟨[.int .u8 x.f20], [.slice A21 x.f21.length c21], rfl, rfl, ⟨A21, c21, rfl, l21, g21⟩⟩⟩⟩⟩⟩⟩⟩⟩⟩⟩⟩⟩⟩⟩⟩⟩⟩⟩⟩⟩⟩
structure S37 where
  f0 : S29
  f1 : S35
def z37 : S37 := ⟨z29, z35⟩
def k37 : Kd S37 := Kd.iso (Kd.pair k29 k35) (fun x : S37 => (x.f0, x.f1))
end Go.Proofs.YtmbjlondehcheaaGreatDoor.PTopTalk
end
section
set_option linter.unusedSimpArgs false
set_option linter.unusedVariables false
namespace Go.Proofs.YtmbjlondehcheaaGreatDoor
open Go.Shelf Go.RowKit Go.Lib Go.Sort Go.Proofs.YtmbjlondehcheaaGreatDoorW.PrintWords Go.Proofs.YtmbjlondehcheaaGreatDoorW.PrintLast Go.Proofs.YtmbjlondehcheaaGreatDoor.PTopTalk
structure MsgAt (w : World) (G : Nat → Prop) (mb : Nat) (x : S35) : Prop where
  hot : G mb
  out : ∃ cs, w.heap[mb]? = some (.cells cs.toArray 35 (0, 0)) ∧ ∀ w', Kept w w' G → k35.K w' x cs
theorem MsgAt.keep {w w' : World} {G : Nat → Prop} {mb : Nat} {x : S35} (h : MsgAt w G mb x) {F : Nat → Prop} (q : Kept w w' F) (hF : ∀ b, F b → G b ∧ b ≠ mb) : MsgAt w' G mb x := by
  obtain ⟨cs, hc, hK⟩ := h.out
  exact ⟨h.hot, cs, q.heap hc (fun h => (hF _ h).2 rfl), fun w2 k => hK w2 (q.trans k (fun b _ h => (hF b h).1) (fun _ _ h => h))⟩
theorem MsgAt.keep0 {w w' : World} {G : Nat → Prop} {mb : Nat} {x : S35} (h : MsgAt w G mb x) (q : Kept w w' (fun _ => False)) : MsgAt w' G mb x := h.keep q (fun _ h => h.elim)
theorem MsgAt.set {w : World} {G : Nat → Prop} {mb : Nat} {x : S35} (h : MsgAt w G mb x) (i : Nat) (u : Value) (x' : S35) (hx : ∀ w' cs, Kept w w' G → k35.K w' x cs → k35.K w' x' (cs.set i u)) : MsgAt (w.setCell ⟨mb, i, none⟩ u) G mb x' ∧ Kept w (w.setCell ⟨mb, i, none⟩ u) (fun b => b = mb) := by
  have q := Kept.setCell w mb i u (F := fun b => b = mb) rfl
  obtain ⟨cs, hc, hK⟩ := h.out
  refine ⟨⟨h.hot, cs.set i u, ?_, fun w' k => ?_⟩, q⟩
  · have := setCell_row (i := i) (v := u) hc
    rw [this]
    simp
  · have q2 := q.trans k (H := G) (fun b _ e => e ▸ h.hot) (fun _ _ h => h)
    exact hx w' cs q2 (hK w' q2)
theorem MsgAt.cell {w : World} {G : Nat → Prop} {mb : Nat} {x : S35} (h : MsgAt w G mb x) : ∃ cs, w.heap[mb]? = some (.cells cs.toArray 35 (0, 0)) ∧ k35.K w x cs ∧ ∀ i u, cs[i]? = some u → w.cell? ⟨mb, i, none⟩ = some u := by
  obtain ⟨cs, hc, hK⟩ := h.out
  exact ⟨cs, hc, hK w (Kept.refl _ _), fun i u hu => by rw [cell_of_row w mb i _ 35 (0, 0) hc]; simpa using hu⟩
theorem MsgAt.g0 {w : World} {G : Nat → Prop} {mb : Nat} {x : S35} (h : MsgAt w G mb x) : w.cell? ⟨mb, 0, none⟩ = some (.int .u8 x.f0) := by
  obtain ⟨cs, _, hK, hc⟩ := h.cell
  obtain ⟨A12, c12, A13, c13, A14, c14, A15, c15, A21, c21, rfl, l12, g12, l13, g13, l14, g14, l15, g15, l21, g21⟩ := k35_open hK
  exact hc 0 _ rfl
theorem MsgAt.g1 {w : World} {G : Nat → Prop} {mb : Nat} {x : S35} (h : MsgAt w G mb x) : w.cell? ⟨mb, 1, none⟩ = some (.int .u8 x.f1) := by
  obtain ⟨cs, _, hK, hc⟩ := h.cell
  obtain ⟨A12, c12, A13, c13, A14, c14, A15, c15, A21, c21, rfl, l12, g12, l13, g13, l14, g14, l15, g15, l21, g21⟩ := k35_open hK
  exact hc 1 _ rfl
theorem MsgAt.g2 {w : World} {G : Nat → Prop} {mb : Nat} {x : S35} (h : MsgAt w G mb x) : w.cell? ⟨mb, 2, none⟩ = some (.int .u16 x.f2) := by
  obtain ⟨cs, _, hK, hc⟩ := h.cell
  obtain ⟨A12, c12, A13, c13, A14, c14, A15, c15, A21, c21, rfl, l12, g12, l13, g13, l14, g14, l15, g15, l21, g21⟩ := k35_open hK
  exact hc 2 _ rfl
theorem MsgAt.s2 {w : World} {G : Nat → Prop} {mb : Nat} {x : S35} (h : MsgAt w G mb x) (a : Int) : MsgAt (w.setCell ⟨mb, 2, none⟩ (.int .u16 a)) G mb { x with f2 := a } ∧ Kept w (w.setCell ⟨mb, 2, none⟩ (.int .u16 a)) (fun b => b = mb) :=
  h.set 2 _ _ fun w' cs k hK => by
    obtain ⟨A12, c12, A13, c13, A14, c14, A15, c15, A21, c21, rfl, l12, g12, l13, g13, l14, g14, l15, g15, l21, g21⟩ := k35_open hK
    exact k35_mk w' { x with f2 := a } l12 g12 l13 g13 l14 g14 l15 g15 l21 g21
theorem MsgAt.g3 {w : World} {G : Nat → Prop} {mb : Nat} {x : S35} (h : MsgAt w G mb x) : w.cell? ⟨mb, 3, none⟩ = some (.int .u16 x.f3) := by
  obtain ⟨cs, _, hK, hc⟩ := h.cell
  obtain ⟨A12, c12, A13, c13, A14, c14, A15, c15, A21, c21, rfl, l12, g12, l13, g13, l14, g14, l15, g15, l21, g21⟩ := k35_open hK
  exact hc 3 _ rfl
theorem MsgAt.s3 {w : World} {G : Nat → Prop} {mb : Nat} {x : S35} (h : MsgAt w G mb x) (a : Int) : MsgAt (w.setCell ⟨mb, 3, none⟩ (.int .u16 a)) G mb { x with f3 := a } ∧ Kept w (w.setCell ⟨mb, 3, none⟩ (.int .u16 a)) (fun b => b = mb) :=
  h.set 3 _ _ fun w' cs k hK => by
    obtain ⟨A12, c12, A13, c13, A14, c14, A15, c15, A21, c21, rfl, l12, g12, l13, g13, l14, g14, l15, g15, l21, g21⟩ := k35_open hK
    exact k35_mk w' { x with f3 := a } l12 g12 l13 g13 l14 g14 l15 g15 l21 g21
theorem MsgAt.g4 {w : World} {G : Nat → Prop} {mb : Nat} {x : S35} (h : MsgAt w G mb x) : w.cell? ⟨mb, 4, none⟩ = some (.int .u16 x.f4) := by
  obtain ⟨cs, _, hK, hc⟩ := h.cell
  obtain ⟨A12, c12, A13, c13, A14, c14, A15, c15, A21, c21, rfl, l12, g12, l13, g13, l14, g14, l15, g15, l21, g21⟩ := k35_open hK
  exact hc 4 _ rfl
theorem MsgAt.s4 {w : World} {G : Nat → Prop} {mb : Nat} {x : S35} (h : MsgAt w G mb x) (a : Int) : MsgAt (w.setCell ⟨mb, 4, none⟩ (.int .u16 a)) G mb { x with f4 := a } ∧ Kept w (w.setCell ⟨mb, 4, none⟩ (.int .u16 a)) (fun b => b = mb) :=
  h.set 4 _ _ fun w' cs k hK => by
    obtain ⟨A12, c12, A13, c13, A14, c14, A15, c15, A21, c21, rfl, l12, g12, l13, g13, l14, g14, l15, g15, l21, g21⟩ := k35_open hK
    exact k35_mk w' { x with f4 := a } l12 g12 l13 g13 l14 g14 l15 g15 l21 g21
theorem MsgAt.g5 {w : World} {G : Nat → Prop} {mb : Nat} {x : S35} (h : MsgAt w G mb x) : w.cell? ⟨mb, 5, none⟩ = some (.int .u16 x.f5) := by
  obtain ⟨cs, _, hK, hc⟩ := h.cell
  obtain ⟨A12, c12, A13, c13, A14, c14, A15, c15, A21, c21, rfl, l12, g12, l13, g13, l14, g14, l15, g15, l21, g21⟩ := k35_open hK
  exact hc 5 _ rfl
theorem MsgAt.s5 {w : World} {G : Nat → Prop} {mb : Nat} {x : S35} (h : MsgAt w G mb x) (a : Int) : MsgAt (w.setCell ⟨mb, 5, none⟩ (.int .u16 a)) G mb { x with f5 := a } ∧ Kept w (w.setCell ⟨mb, 5, none⟩ (.int .u16 a)) (fun b => b = mb) :=
  h.set 5 _ _ fun w' cs k hK => by
    obtain ⟨A12, c12, A13, c13, A14, c14, A15, c15, A21, c21, rfl, l12, g12, l13, g13, l14, g14, l15, g15, l21, g21⟩ := k35_open hK
    exact k35_mk w' { x with f5 := a } l12 g12 l13 g13 l14 g14 l15 g15 l21 g21
theorem MsgAt.g6 {w : World} {G : Nat → Prop} {mb : Nat} {x : S35} (h : MsgAt w G mb x) : w.cell? ⟨mb, 6, none⟩ = some (.int .u16 x.f6) := by
  obtain ⟨cs, _, hK, hc⟩ := h.cell
  obtain ⟨A12, c12, A13, c13, A14, c14, A15, c15, A21, c21, rfl, l12, g12, l13, g13, l14, g14, l15, g15, l21, g21⟩ := k35_open hK
  exact hc 6 _ rfl
theorem MsgAt.s6 {w : World} {G : Nat → Prop} {mb : Nat} {x : S35} (h : MsgAt w G mb x) (a : Int) : MsgAt (w.setCell ⟨mb, 6, none⟩ (.int .u16 a)) G mb { x with f6 := a } ∧ Kept w (w.setCell ⟨mb, 6, none⟩ (.int .u16 a)) (fun b => b = mb) :=
  h.set 6 _ _ fun w' cs k hK => by
    obtain ⟨A12, c12, A13, c13, A14, c14, A15, c15, A21, c21, rfl, l12, g12, l13, g13, l14, g14, l15, g15, l21, g21⟩ := k35_open hK
    exact k35_mk w' { x with f6 := a } l12 g12 l13 g13 l14 g14 l15 g15 l21 g21
theorem MsgAt.g7 {w : World} {G : Nat → Prop} {mb : Nat} {x : S35} (h : MsgAt w G mb x) : w.cell? ⟨mb, 7, none⟩ = some (.int .u16 x.f7) := by
  obtain ⟨cs, _, hK, hc⟩ := h.cell
  obtain ⟨A12, c12, A13, c13, A14, c14, A15, c15, A21, c21, rfl, l12, g12, l13, g13, l14, g14, l15, g15, l21, g21⟩ := k35_open hK
  exact hc 7 _ rfl
theorem MsgAt.s7 {w : World} {G : Nat → Prop} {mb : Nat} {x : S35} (h : MsgAt w G mb x) (a : Int) : MsgAt (w.setCell ⟨mb, 7, none⟩ (.int .u16 a)) G mb { x with f7 := a } ∧ Kept w (w.setCell ⟨mb, 7, none⟩ (.int .u16 a)) (fun b => b = mb) :=
  h.set 7 _ _ fun w' cs k hK => by
    obtain ⟨A12, c12, A13, c13, A14, c14, A15, c15, A21, c21, rfl, l12, g12, l13, g13, l14, g14, l15, g15, l21, g21⟩ := k35_open hK
    exact k35_mk w' { x with f7 := a } l12 g12 l13 g13 l14 g14 l15 g15 l21 g21
theorem MsgAt.g8 {w : World} {G : Nat → Prop} {mb : Nat} {x : S35} (h : MsgAt w G mb x) : w.cell? ⟨mb, 8, none⟩ = some (.int .u16 x.f8) := by
  obtain ⟨cs, _, hK, hc⟩ := h.cell
  obtain ⟨A12, c12, A13, c13, A14, c14, A15, c15, A21, c21, rfl, l12, g12, l13, g13, l14, g14, l15, g15, l21, g21⟩ := k35_open hK
  exact hc 8 _ rfl
theorem MsgAt.s8 {w : World} {G : Nat → Prop} {mb : Nat} {x : S35} (h : MsgAt w G mb x) (a : Int) : MsgAt (w.setCell ⟨mb, 8, none⟩ (.int .u16 a)) G mb { x with f8 := a } ∧ Kept w (w.setCell ⟨mb, 8, none⟩ (.int .u16 a)) (fun b => b = mb) :=
  h.set 8 _ _ fun w' cs k hK => by
    obtain ⟨A12, c12, A13, c13, A14, c14, A15, c15, A21, c21, rfl, l12, g12, l13, g13, l14, g14, l15, g15, l21, g21⟩ := k35_open hK
    exact k35_mk w' { x with f8 := a } l12 g12 l13 g13 l14 g14 l15 g15 l21 g21
theorem MsgAt.g9 {w : World} {G : Nat → Prop} {mb : Nat} {x : S35} (h : MsgAt w G mb x) : w.cell? ⟨mb, 9, none⟩ = some (.int .u16 x.f9) := by
  obtain ⟨cs, _, hK, hc⟩ := h.cell
  obtain ⟨A12, c12, A13, c13, A14, c14, A15, c15, A21, c21, rfl, l12, g12, l13, g13, l14, g14, l15, g15, l21, g21⟩ := k35_open hK
  exact hc 9 _ rfl
theorem MsgAt.g10 {w : World} {G : Nat → Prop} {mb : Nat} {x : S35} (h : MsgAt w G mb x) : w.cell? ⟨mb, 10, none⟩ = some (.int .u16 x.f10) := by
  obtain ⟨cs, _, hK, hc⟩ := h.cell
  obtain ⟨A12, c12, A13, c13, A14, c14, A15, c15, A21, c21, rfl, l12, g12, l13, g13, l14, g14, l15, g15, l21, g21⟩ := k35_open hK
  exact hc 10 _ rfl
theorem MsgAt.g11 {w : World} {G : Nat → Prop} {mb : Nat} {x : S35} (h : MsgAt w G mb x) : w.cell? ⟨mb, 11, none⟩ = some (.int .u16 x.f11) := by
  obtain ⟨cs, _, hK, hc⟩ := h.cell
  obtain ⟨A12, c12, A13, c13, A14, c14, A15, c15, A21, c21, rfl, l12, g12, l13, g13, l14, g14, l15, g15, l21, g21⟩ := k35_open hK
  exact hc 11 _ rfl
theorem MsgAt.g16 {w : World} {G : Nat → Prop} {mb : Nat} {x : S35} (h : MsgAt w G mb x) : w.cell? ⟨mb, 16, none⟩ = some (.int .u8 x.f16) := by
  obtain ⟨cs, _, hK, hc⟩ := h.cell
  obtain ⟨A12, c12, A13, c13, A14, c14, A15, c15, A21, c21, rfl, l12, g12, l13, g13, l14, g14, l15, g15, l21, g21⟩ := k35_open hK
  exact hc 16 _ rfl
theorem MsgAt.g17 {w : World} {G : Nat → Prop} {mb : Nat} {x : S35} (h : MsgAt w G mb x) : w.cell? ⟨mb, 17, none⟩ = some (.int .u8 x.f17) := by
  obtain ⟨cs, _, hK, hc⟩ := h.cell
  obtain ⟨A12, c12, A13, c13, A14, c14, A15, c15, A21, c21, rfl, l12, g12, l13, g13, l14, g14, l15, g15, l21, g21⟩ := k35_open hK
  exact hc 17 _ rfl
theorem MsgAt.s17 {w : World} {G : Nat → Prop} {mb : Nat} {x : S35} (h : MsgAt w G mb x) (a : Int) : MsgAt (w.setCell ⟨mb, 17, none⟩ (.int .u8 a)) G mb { x with f17 := a } ∧ Kept w (w.setCell ⟨mb, 17, none⟩ (.int .u8 a)) (fun b => b = mb) :=
  h.set 17 _ _ fun w' cs k hK => by
    obtain ⟨A12, c12, A13, c13, A14, c14, A15, c15, A21, c21, rfl, l12, g12, l13, g13, l14, g14, l15, g15, l21, g21⟩ := k35_open hK
    exact k35_mk w' { x with f17 := a } l12 g12 l13 g13 l14 g14 l15 g15 l21 g21
theorem MsgAt.g18 {w : World} {G : Nat → Prop} {mb : Nat} {x : S35} (h : MsgAt w G mb x) : w.cell? ⟨mb, 18, none⟩ = some (.int .u8 x.f18) := by
  obtain ⟨cs, _, hK, hc⟩ := h.cell
  obtain ⟨A12, c12, A13, c13, A14, c14, A15, c15, A21, c21, rfl, l12, g12, l13, g13, l14, g14, l15, g15, l21, g21⟩ := k35_open hK
  exact hc 18 _ rfl
theorem MsgAt.g19 {w : World} {G : Nat → Prop} {mb : Nat} {x : S35} (h : MsgAt w G mb x) : w.cell? ⟨mb, 19, none⟩ = some (.int .u8 x.f19) := by
  obtain ⟨cs, _, hK, hc⟩ := h.cell
  obtain ⟨A12, c12, A13, c13, A14, c14, A15, c15, A21, c21, rfl, l12, g12, l13, g13, l14, g14, l15, g15, l21, g21⟩ := k35_open hK
  exact hc 19 _ rfl
theorem MsgAt.g20 {w : World} {G : Nat → Prop} {mb : Nat} {x : S35} (h : MsgAt w G mb x) : w.cell? ⟨mb, 20, none⟩ = some (.int .u8 x.f20) := by
  obtain ⟨cs, _, hK, hc⟩ := h.cell
  obtain ⟨A12, c12, A13, c13, A14, c14, A15, c15, A21, c21, rfl, l12, g12, l13, g13, l14, g14, l15, g15, l21, g21⟩ := k35_open hK
  exact hc 20 _ rfl
theorem MsgAt.s20 {w : World} {G : Nat → Prop} {mb : Nat} {x : S35} (h : MsgAt w G mb x) (a : Int) : MsgAt (w.setCell ⟨mb, 20, none⟩ (.int .u8 a)) G mb { x with f20 := a } ∧ Kept w (w.setCell ⟨mb, 20, none⟩ (.int .u8 a)) (fun b => b = mb) :=
  h.set 20 _ _ fun w' cs k hK => by
    obtain ⟨A12, c12, A13, c13, A14, c14, A15, c15, A21, c21, rfl, l12, g12, l13, g13, l14, g14, l15, g15, l21, g21⟩ := k35_open hK
    exact k35_mk w' { x with f20 := a } l12 g12 l13 g13 l14 g14 l15 g15 l21 g21
theorem MsgAt.s12 {w : World} {G : Nat → Prop} {mb : Nat} {x : S35} (h : MsgAt w G mb x) {A : Option Addr} {c : Nat} {l : List Int} (hl : Stay .u16 w G (.slice A l.length c) l) : MsgAt (w.setCell ⟨mb, 12, none⟩ (.slice A l.length c)) G mb { x with f12 := l } ∧ Kept w (w.setCell ⟨mb, 12, none⟩ (.slice A l.length c)) (fun b => b = mb) :=
  h.set 12 _ _ fun w' cs k hK => by
    obtain ⟨A12, c12, A13, c13, A14, c14, A15, c15, A21, c21, rfl, l12, g12, l13, g13, l14, g14, l15, g15, l21, g21⟩ := k35_open hK
    obtain ⟨A', c', e, hc, hC⟩ := hl w' k
    injection e with e1 e2 e3
    subst e1 e3
    exact k35_mk w' { x with f12 := l } hc hC l13 g13 l14 g14 l15 g15 l21 g21
theorem MsgAt.s14 {w : World} {G : Nat → Prop} {mb : Nat} {x : S35} (h : MsgAt w G mb x) {A : Option Addr} {c : Nat} {l : List Int} (hl : Stay .u8 w G (.slice A l.length c) l) : MsgAt (w.setCell ⟨mb, 14, none⟩ (.slice A l.length c)) G mb { x with f14 := l } ∧ Kept w (w.setCell ⟨mb, 14, none⟩ (.slice A l.length c)) (fun b => b = mb) :=
  h.set 14 _ _ fun w' cs k hK => by
    obtain ⟨A12, c12, A13, c13, A14, c14, A15, c15, A21, c21, rfl, l12, g12, l13, g13, l14, g14, l15, g15, l21, g21⟩ := k35_open hK
    obtain ⟨A', c', e, hc, hC⟩ := hl w' k
    injection e with e1 e2 e3
    subst e1 e3
    exact k35_mk w' { x with f14 := l } l12 g12 l13 g13 hc hC l15 g15 l21 g21
end Go.Proofs.YtmbjlondehcheaaGreatDoor
end
section
set_option linter.unusedSimpArgs false
set_option linter.unusedVariables false
namespace Go.Proofs.YtmbjlondehcheaaGreatDoor
open Go.Shelf Go.RowKit Go.Lib Go.Sort Go.Proofs.YtmbjlondehcheaaGreatDoorW.PrintWords Go.Proofs.YtmbjlondehcheaaGreatDoorW.PrintLast Go.Proofs.YtmbjlondehcheaaGreatDoor.PTopTalk
structure PC (w : World) (G : Nat → Prop) (cb mb : Nat) (s : St) (x : S35) : Prop where
  c : Cur w G cb s
  m : MsgAt w G mb x
  ne : cb ≠ mb
  few : s.b.length ≤ 100000
theorem PC.keep0 {w w' : World} {G : Nat → Prop} {cb mb : Nat} {s : St} {x : S35} (h : PC w G cb mb s x) (q : Kept w w' (fun _ => False)) : PC w' G cb mb s x := ⟨h.c.keep0 q, h.m.keep0 q, h.ne, h.few⟩
theorem PC.step {w w' : World} {G : Nat → Prop} {cb mb : Nat} {s s' : St} {x : S35} (h : PC w G cb mb s x) (hC : Cur w' G cb s') (q : Kept w w' (fun b => b = cb)) (hl : s'.b.length ≤ s.b.length) : PC w' G cb mb s' x :=
  ⟨hC, h.m.keep q (fun b e => ⟨e ▸ h.c.hot, e ▸ h.ne⟩), h.ne, Nat.le_trans hl h.few⟩
theorem PC.put {w w' : World} {G : Nat → Prop} {cb mb : Nat} {s : St} {x x' : S35} (h : PC w G cb mb s x) (hM : MsgAt w' G mb x' ∧ Kept w w' (fun b => b = mb)) : PC w' G cb mb s x' :=
  ⟨h.c.keep hM.2 (fun b e => ⟨e ▸ h.m.hot, e ▸ h.ne.symm⟩), hM.1, h.ne, h.few⟩
theorem St.word_le (s : St) : s.word.2.b.length ≤ s.b.length := s.words_le 1
theorem St.need_b (s : St) (ok : Bool) (e : Int) : (s.need ok e).b = s.b := by unfold St.need; split <;> rfl
theorem PC.word {w : World} {G : Nat → Prop} {cb mb : Nat} {s : St} {x : S35} (h : PC w G cb mb s x) : Calls Tryz.prog 160 #[.pointer (some ⟨cb, 0, none⟩)] w fun r w' => r = .returned (.int .u16 s.word.1) ∧ PC w' G cb mb s.word.2 x ∧ Kept w w' (fun b => b = cb) :=
  (word_calls w cb s h.c h.few).mono fun r w' ⟨he, hC, k⟩ => ⟨he, h.step hC k s.word_le, k⟩
theorem PC.need {w : World} {G : Nat → Prop} {cb mb : Nat} {s : St} {x : S35} (h : PC w G cb mb s x) (ok : Bool) (e : Int) : Calls Tryz.prog 150 #[.pointer (some ⟨cb, 0, none⟩), .bool ok, .int .i64 e] w fun r w' => r = .returned (.tuple #[]) ∧ PC w' G cb mb (s.need ok e) x ∧ Kept w w' (fun b => b = cb) :=
  (need_calls w cb s ok e h.c).mono fun r w' ⟨he, hC, k⟩ => ⟨he, h.step hC k (by rw [St.need_b]; exact Nat.le_refl _), k⟩
theorem Kept.cellN {w w' : World} {F : Nat → Prop} (k : Kept w w' F) {a : Addr} {v : Value} (hn : ¬ F a.block) (h : w.cell? a = some v) : w'.cell? a = some v := (World.cell?_of_block (k.block _ (World.block_lt_of_cell? _ _ h) hn)).trans h
theorem wp_store_cell {P : Program} {a : Act} {w : World} {K : Act → World → Prop} {Q : Exit → Act → World → Prop} {op : Oper} (ty : TypeId) (x y : Operand) (ho : op.op = .store ty x y) (b o : Nat) (v : Value) (hx : a.eval x = .pointer (some ⟨b, o, none⟩)) (hy : a.eval y = v) (h1 : v.oneCell' = true)
    (t : TypeId) (cs : Array Value) (hb : w.heap[b]? = some (.cells cs t (0, 0))) (hlt : o < cs.size) (hi : (P.info? ty).map (·.size) = some 1) (h : K (a.put op.dst undef) (w.setCell ⟨b, o, none⟩ v)) : op.wp P a w K Q := by
  have hrun : (storeVar ty ⟨b, o, none⟩ v).run P w = .ok () (w.setCell ⟨b, o, none⟩ v) := by
    have := run_storeCells_cells (P := P) b o [v] 0 w (fun j hj => by
        obtain rfl : j = 0 := by simpa using hj
        simp only [Nat.add_zero]
        rw [cell_of_row w b o _ t (0, 0) hb]
        simp [hlt]) (fun j hj => by
        obtain rfl : j = 0 := by simpa using hj
        simp [World.frozen?, hb]) (fun x hx => by simp at hx; subst hx; exact h1)
    have hc : v.cells = #[v] := by cases v <;> first | rfl | cases h1
    cases hq : P.info? ty with
    | none => simp [hq] at hi
    | some i =>
      have hs : i.size = 1 := by simpa [hq] using hi
      simp [storeVar, sizeOf, typeInfo, hq, hc, hs, this]
      rfl
  unfold Oper.wp execOp
  simp only [ho, hx, hy, Instr.storeAt, Instr.sureAddr, Sem.run_bind, Sem.run_pure, Result.andThen_ok, hrun]
  exact h
theorem bx_keep {w w' : World} {bx cb mb b0 : Nat} (k : Kept w w' (fun b => b = b0)) (hn : ¬ bx = b0) (h : w.cell? ⟨bx, 0, none⟩ = some (.pointer (some ⟨cb, 0, none⟩)) ∧ w.cell? ⟨bx, 1, none⟩ = some (.pointer (some ⟨mb, 0, none⟩))) :
    w'.cell? ⟨bx, 0, none⟩ = some (.pointer (some ⟨cb, 0, none⟩)) ∧ w'.cell? ⟨bx, 1, none⟩ = some (.pointer (some ⟨mb, 0, none⟩)) := ⟨k.cellN hn h.1, k.cellN hn h.2⟩
theorem wp_store_msg {P : Program} {a : Act} {w : World} {K : Act → World → Prop} {Q : Exit → Act → World → Prop} {op : Oper} (ty : TypeId) (x y : Operand) (ho : op.op = .store ty x y) (mb o : Nat) (v : Value) (hx : a.eval x = .pointer (some ⟨mb, o, none⟩)) (hy : a.eval y = v) (h1 : v.oneCell' = true)
    {G : Nat → Prop} {m : S35} (h : MsgAt w G mb m) (hlt : o < 22) (hi : (P.info? ty).map (·.size) = some 1) (hK : K (a.put op.dst undef) (w.setCell ⟨mb, o, none⟩ v)) : op.wp P a w K Q := by
  obtain ⟨cs, hc, hk, -⟩ := h.cell
  exact wp_store_cell ty x y ho mb o v hx hy h1 35 cs.toArray hc (by have := k35.K_len hk; simp; rw [this]; exact hlt) hi hK
theorem form_start {w : World} {G : Nat → Prop} {cb mb : Nat} {s : St} {x : S35} (h : PC w G cb mb s x) : ∃ bx, w.heap.size = bx ∧ PC (w.alloc (.cells #[.pointer (some ⟨cb, 0, none⟩), .pointer (some ⟨mb, 0, none⟩)] 236)) G cb mb s x ∧ ¬ bx = cb ∧ ¬ bx = mb ∧
    ((w.alloc (.cells #[.pointer (some ⟨cb, 0, none⟩), .pointer (some ⟨mb, 0, none⟩)] 236)).cell? ⟨bx, 0, none⟩ = some (.pointer (some ⟨cb, 0, none⟩)) ∧ (w.alloc (.cells #[.pointer (some ⟨cb, 0, none⟩), .pointer (some ⟨mb, 0, none⟩)] 236)).cell? ⟨bx, 1, none⟩ = some (.pointer (some ⟨mb, 0, none⟩))) := by
  have f1 := heap_alloc_new w (.cells #[.pointer (some ⟨cb, 0, none⟩), .pointer (some ⟨mb, 0, none⟩)] 236)
  exact ⟨_, rfl, h.keep0 (Kept.alloc w _ _), fun e => by have := h.c.low cb h.c.hot; omega, fun e => by have := h.c.low mb h.m.hot; omega, by rw [cell_of_row _ w.heap.size 0 _ 236 (0, 0) f1]; rfl, by rw [cell_of_row _ w.heap.size 1 _ 236 (0, 0) f1]; rfl⟩
def within (a n : Int) : Bool := decide (0 < n) && decide (n ≤ wrap64 (65536 - wrap64 a))
set_option maxRecDepth 1000000 in
theorem within_calls (a n : Int) (w : World) : Calls Tryz.prog 196 #[.int .u16 a, .int .i64 n] w fun r w' => r = .returned (.bool (within a n)) ∧ w' = w := by
  by_cases h : 0 < n
  · have hw : within a n = decide (n ≤ wrap64 (65536 - wrap64 a)) := by simp [within, h]
    rw [hw]
    go_enter Tryz.func196, Tryz.ntmps196
    go_wp2
    go_ret
    exact ⟨rfl, rfl⟩
  · have hw : within a n = false := by simp [within, h]
    rw [hw]
    go_enter Tryz.func196, Tryz.ntmps196
    go_wp2
    go_ret
    exact ⟨rfl, rfl⟩
def spanSt (s : St) (most : Int) : St := ((s.word.2.word.2.need (decide (1 ≤ s.word.2.word.1) && decide (s.word.2.word.1 ≤ most)) 5).need (within s.word.1 (IntKind.i64.wrap s.word.2.word.1)) 7)
def spanMsg (s : St) (x : S35) : S35 := { x with f2 := s.word.1, f3 := s.word.2.word.1 }
set_option maxHeartbeats 2000000 in
set_option maxRecDepth 1000000 in
theorem span_calls (w : World) (G : Nat → Prop) (cb mb : Nat) (s : St) (x : S35) (most : Int) (h : PC w G cb mb s x) :
    Calls Tryz.prog 159 #[.agg #[.pointer (some ⟨cb, 0, none⟩), .pointer (some ⟨mb, 0, none⟩)], .int .u16 most] w fun r w' => r = .returned (.tuple #[]) ∧ PC w' G cb mb (spanSt s most) (spanMsg s x) ∧ Kept w w' (fun b => b = cb ∨ b = mb) := by
  obtain ⟨bx, hbx, P0, hbc, hbm, SB0⟩ := form_start h
  have K0 : Kept w (w.alloc (.cells #[.pointer (some ⟨cb, 0, none⟩), .pointer (some ⟨mb, 0, none⟩)] 236)) (fun b => b = cb ∨ b = mb) := Kept.alloc w _ _
  clear h
  unfold spanSt spanMsg
  go_enter Tryz.func159, Tryz.ntmps159
  go_upto_region 1 with fail
  rw [hbx] at *
  generalize w.alloc (.cells #[.pointer (some ⟨cb, 0, none⟩), .pointer (some ⟨mb, 0, none⟩)] 236) = w0 at *
  have P1 := P0.keep0 (Kept.drew w0 _)
  have SB := bx_keep (Kept.drew w0 _) hbc SB0
  refine st 8 (fun w' => w'.cell? ⟨bx, 0, none⟩ = some (.pointer (some ⟨cb, 0, none⟩)) ∧ w'.cell? ⟨bx, 1, none⟩ = some (.pointer (some ⟨mb, 0, none⟩))) [7] SB ?_
  refine pu 0 (some 4) (mk 8 1) ?_
  refine ld 1 (some 5) (mk 8 3) SB ?_
  refine pu 2 (some 6) (mk 8 7) ?_
  refine ld 3 (some 7) (mk 8 15) SB ?_
  refine cl 4 (some 8) (mk 8 31) Tryz.func160 (args := #[.pointer (some ⟨cb, 0, none⟩)]) P1.word ?_
  rintro e w1 ⟨rfl, P2, k1⟩
  have SB := bx_keep k1 hbc SB
  refine ⟨_, rfl, SB, nm ?_⟩
  refine pu 5 (some 9) (mk 8 63) ?_
  refine pu 6 (some 10) (mk 8 127) ?_
  refine la 7 none (mk 8 255) fun K hK => ?_
  refine wp_store_msg 27 (.tmp 10) (.tmp 8) rfl mb 2 (.int .u16 s.word.1) rfl rfl rfl P2.m (by decide) (by kernel_rfl) ?_
  refine hK _ _ (nm ?_)
  clear hK K
  refine done_ (by kernel_rfl) ?_
  have P3 := P2.put (P2.m.s2 s.word.1)
  have SB3 := bx_keep (P2.m.s2 s.word.1).2 hbm SB
  have K1 : Kept w (w1.setCell ⟨mb, 2, none⟩ (.int .u16 s.word.1)) (fun b => b = cb ∨ b = mb) := ((K0.trans (Kept.drew w0 (fun _ => False)) (fun _ _ h => h) (fun _ _ h => h.elim)).trans k1 (fun _ _ h => h) (fun _ _ h => .inl h)).trans (P2.m.s2 s.word.1).2 (fun _ _ h => h) (fun _ _ h => .inr h)
  clear P1 P2 SB SB0 P0 k1 K0
  generalize w1.setCell ⟨mb, 2, none⟩ (.int .u16 s.word.1) = w2 at *
  generalize hA : s.word.1 = a at *
  generalize hS1 : s.word.2 = s1 at *
  have EA : Aside0 _ := ⟨And.intro hA hS1⟩
  clear hA hS1
  go_upto_region 2 with fail
  have P4 := P3.keep0 (Kept.drew w2 _)
  have SB := bx_keep (Kept.drew w2 _) hbc SB3
  refine st 8 (fun w' => w'.cell? ⟨bx, 0, none⟩ = some (.pointer (some ⟨cb, 0, none⟩)) ∧ w'.cell? ⟨bx, 1, none⟩ = some (.pointer (some ⟨mb, 0, none⟩))) [7] SB ?_
  refine pu 0 (some 11) (mk 8 1) ?_
  refine ld 1 (some 12) (mk 8 3) SB ?_
  refine pu 2 (some 13) (mk 8 7) ?_
  refine ld 3 (some 14) (mk 8 15) SB ?_
  refine cl 4 (some 15) (mk 8 31) Tryz.func160 (args := #[.pointer (some ⟨cb, 0, none⟩)]) P4.word ?_
  rintro e w3 ⟨rfl, P5, k1⟩
  have SB := bx_keep k1 hbc SB
  refine ⟨_, rfl, SB, nm ?_⟩
  refine pu 5 (some 16) (mk 8 63) ?_
  refine pu 6 (some 17) (mk 8 127) ?_
  refine la 7 none (mk 8 255) fun K hK => ?_
  refine wp_store_msg 27 (.tmp 17) (.tmp 15) rfl mb 3 (.int .u16 s1.word.1) rfl rfl rfl P5.m (by decide) (by kernel_rfl) ?_
  refine hK _ _ (nm ?_)
  clear hK K
  refine done_ (by kernel_rfl) ?_
  have P6 := P5.put (P5.m.s3 s1.word.1)
  have SB6 := bx_keep (P5.m.s3 s1.word.1).2 hbm SB
  have K2 : Kept w (w3.setCell ⟨mb, 3, none⟩ (.int .u16 s1.word.1)) (fun b => b = cb ∨ b = mb) := ((K1.trans (Kept.drew w2 (fun _ => False)) (fun _ _ h => h) (fun _ _ h => h.elim)).trans k1 (fun _ _ h => h) (fun _ _ h => .inl h)).trans (P5.m.s3 s1.word.1).2 (fun _ _ h => h) (fun _ _ h => .inr h)
  clear P3 P4 P5 SB SB3 k1 K1
  generalize w3.setCell ⟨mb, 3, none⟩ (.int .u16 s1.word.1) = w4 at *
  generalize hA : s1.word.1 = n at *
  generalize hS1 : s1.word.2 = s2 at *
  have EB : Aside0 _ := ⟨And.intro hA hS1⟩
  clear hA hS1
  go_upto_region 3 with fail
  have PC0 := P6.keep0 (Kept.drew w4 _)
  have SB := bx_keep (Kept.drew w4 _) hbc SB6
  have K3 := K2.trans (Kept.drew w4 (fun _ => False)) (fun _ _ h => h) (fun _ _ h => h.elim)
  clear P6 SB6 K2
  have KK : Aside0 _ := ⟨K3⟩
  clear K3
  go_cut [] (fun wx => Aside0 (PC wx G cb mb (s2.need (decide (1 ≤ n) && decide (n ≤ most)) 5) { x with f2 := a, f3 := n } ∧ (wx.cell? ⟨bx, 0, none⟩ = some (.pointer (some ⟨cb, 0, none⟩)) ∧ wx.cell? ⟨bx, 1, none⟩ = some (.pointer (some ⟨mb, 0, none⟩))) ∧ Kept w wx (fun b => b = cb ∨ b = mb)))
  case first =>
    by_cases hn : 1 ≤ n
    · have hn' : (decide (1 ≤ n) && decide (n ≤ most)) = decide (n ≤ most) := by simp [hn]
      have HN : Aside0 _ := ⟨hn'⟩
      clear hn'
      refine st 18 (fun w' => (w'.cell? ⟨bx, 0, none⟩ = some (.pointer (some ⟨cb, 0, none⟩)) ∧ w'.cell? ⟨bx, 1, none⟩ = some (.pointer (some ⟨mb, 0, none⟩))) ∧ w'.cell? ⟨mb, 3, none⟩ = some (.int .u16 n)) [] (⟨SB, PC0.m.g3⟩) ?_
      refine pu 0 (some 18) (mk 18 1) ?_
      refine ld 1 (some 19) (mk 18 3) (⟨SB, PC0.m.g3⟩) ?_
      refine pu 2 (some 20) (mk 18 7) ?_
      refine ld 3 (some 21) (mk 18 15) (⟨SB, PC0.m.g3⟩) ?_
      refine pu 4 (some 22) (mk 18 31) ?_
      refine pu 5 (some 23) (mk 18 63) ?_
      refine ld 6 (some 24) (mk 18 127) (⟨SB, PC0.m.g3⟩) ?_
      refine pu 7 (some 25) (mk 18 255) ?_
      refine pu 8 (some 26) (mk 18 511) ?_
      refine pu 9 (some 27) (mk 18 1023) ?_
      refine ld 10 (some 28) (mk 18 2047) (⟨SB, PC0.m.g3⟩) ?_
      refine pu 11 (some 29) (mk 18 4095) ?_
      refine pu 12 (some 30) (mk 18 8191) ?_
      refine ld 13 (some 31) (mk 18 16383) (⟨SB, PC0.m.g3⟩) ?_
      refine pu 14 (some 32) (mk 18 32767) ?_
      refine pu 15 (some 33) (mk 18 65535) ?_
      refine pu 16 (some 34) (mk 18 131071) ?_
      refine cl 17 (some 35) (mk 18 262143) Tryz.func150 (args := #[.pointer (some ⟨cb, 0, none⟩), .bool (decide (n ≤ most)), .int .i64 5]) (PC0.need (decide (n ≤ most)) 5) ?_
      rintro e w5 ⟨rfl, PC1, k1⟩
      have SB := bx_keep k1 hbc SB
      refine ⟨_, rfl, (⟨SB, PC1.m.g3⟩ : (w5.cell? ⟨bx, 0, none⟩ = some (.pointer (some ⟨cb, 0, none⟩)) ∧ w5.cell? ⟨bx, 1, none⟩ = some (.pointer (some ⟨mb, 0, none⟩))) ∧ w5.cell? ⟨mb, 3, none⟩ = some (.int .u16 n)), nm ?_⟩
      refine done_ (by kernel_rfl) ?_
      go_wp2_with fail
      go_meet
      exact ⟨by rw [HN.out]; exact PC1, SB, KK.out.trans k1 (fun _ _ h => h) (fun _ _ h => .inl h)⟩
    · have hn' : (decide (1 ≤ n) && decide (n ≤ most)) = false := by simp [hn]
      have HN : Aside0 _ := ⟨hn'⟩
      clear hn'
      refine st 18 (fun w' => (w'.cell? ⟨bx, 0, none⟩ = some (.pointer (some ⟨cb, 0, none⟩)) ∧ w'.cell? ⟨bx, 1, none⟩ = some (.pointer (some ⟨mb, 0, none⟩))) ∧ w'.cell? ⟨mb, 3, none⟩ = some (.int .u16 n)) [] (⟨SB, PC0.m.g3⟩) ?_
      refine pu 0 (some 18) (mk 18 1) ?_
      refine ld 1 (some 19) (mk 18 3) (⟨SB, PC0.m.g3⟩) ?_
      refine pu 2 (some 20) (mk 18 7) ?_
      refine ld 3 (some 21) (mk 18 15) (⟨SB, PC0.m.g3⟩) ?_
      refine pu 4 (some 22) (mk 18 31) ?_
      refine pu 5 (some 23) (mk 18 63) ?_
      refine ld 6 (some 24) (mk 18 127) (⟨SB, PC0.m.g3⟩) ?_
      refine pu 7 (some 25) (mk 18 255) ?_
      refine pu 8 (some 26) (mk 18 511) ?_
      refine pu 9 (some 27) (mk 18 1023) ?_ (v := undef) (hy := Or.inr ⟨by rfl, rfl⟩)
      refine pu 10 (some 28) (mk 18 2047) ?_ (v := undef) (hy := Or.inr ⟨by rfl, rfl⟩)
      refine pu 11 (some 29) (mk 18 4095) ?_ (v := undef) (hy := Or.inr ⟨by rfl, rfl⟩)
      refine pu 12 (some 30) (mk 18 8191) ?_ (v := undef) (hy := Or.inr ⟨by rfl, rfl⟩)
      refine pu 13 (some 31) (mk 18 16383) ?_ (v := undef) (hy := Or.inr ⟨by rfl, rfl⟩)
      refine pu 14 (some 32) (mk 18 32767) ?_ (v := undef) (hy := Or.inr ⟨by rfl, rfl⟩)
      refine pu 15 (some 33) (mk 18 65535) ?_ (v := undef) (hy := Or.inr ⟨by rfl, rfl⟩)
      refine pu 16 (some 34) (mk 18 131071) ?_
      refine cl 17 (some 35) (mk 18 262143) Tryz.func150 (args := #[.pointer (some ⟨cb, 0, none⟩), .bool (false), .int .i64 5]) (PC0.need (false) 5) ?_
      rintro e w5 ⟨rfl, PC1, k1⟩
      have SB := bx_keep k1 hbc SB
      refine ⟨_, rfl, (⟨SB, PC1.m.g3⟩ : (w5.cell? ⟨bx, 0, none⟩ = some (.pointer (some ⟨cb, 0, none⟩)) ∧ w5.cell? ⟨bx, 1, none⟩ = some (.pointer (some ⟨mb, 0, none⟩))) ∧ w5.cell? ⟨mb, 3, none⟩ = some (.int .u16 n)), nm ?_⟩
      refine done_ (by kernel_rfl) ?_
      go_wp2_with fail
      go_meet
      exact ⟨by rw [HN.out]; exact PC1, SB, KK.out.trans k1 (fun _ _ h => h) (fun _ _ h => .inl h)⟩
  case rest =>
    obtain ⟨PC1, SB5, K5⟩ := hcut.out
    clear hcut PC0 SB KK
    go_upto_region 4 with fail
    have PC2 := PC1.keep0 (Kept.drew wc _)
    have SB := bx_keep (Kept.drew wc _) hbc SB5
    refine st 15 (fun w' => (w'.cell? ⟨bx, 0, none⟩ = some (.pointer (some ⟨cb, 0, none⟩)) ∧ w'.cell? ⟨bx, 1, none⟩ = some (.pointer (some ⟨mb, 0, none⟩))) ∧ w'.cell? ⟨mb, 3, none⟩ = some (.int .u16 n) ∧ w'.cell? ⟨mb, 2, none⟩ = some (.int .u16 a)) [] (⟨SB, PC2.m.g3, PC2.m.g2⟩) ?_
    refine pu 0 (some 36) (mk 15 1) ?_
    refine ld 1 (some 37) (mk 15 3) (⟨SB, PC2.m.g3, PC2.m.g2⟩) ?_
    refine pu 2 (some 38) (mk 15 7) ?_
    refine ld 3 (some 39) (mk 15 15) (⟨SB, PC2.m.g3, PC2.m.g2⟩) ?_
    refine pu 4 (some 40) (mk 15 31) ?_
    refine pu 5 (some 41) (mk 15 63) ?_
    refine ld 6 (some 42) (mk 15 127) (⟨SB, PC2.m.g3, PC2.m.g2⟩) ?_
    refine pu 7 (some 43) (mk 15 255) ?_
    refine ld 8 (some 44) (mk 15 511) (⟨SB, PC2.m.g3, PC2.m.g2⟩) ?_
    refine pu 9 (some 45) (mk 15 1023) ?_
    refine pu 10 (some 46) (mk 15 2047) ?_
    refine ld 11 (some 47) (mk 15 4095) (⟨SB, PC2.m.g3, PC2.m.g2⟩) ?_
    refine pu 12 (some 48) (mk 15 8191) ?_
    refine cl 13 (some 49) (mk 15 16383) Tryz.func196 (args := #[.int .u16 a, .int .i64 (IntKind.i64.wrap n)]) (within_calls a (IntKind.i64.wrap n) _) ?_
    rintro e w6 ⟨rfl, rfl⟩
    refine ⟨_, rfl, ⟨SB, PC2.m.g3, PC2.m.g2⟩, nm ?_⟩
    refine cl 14 (some 50) (mk 15 32767) Tryz.func150 (args := #[.pointer (some ⟨cb, 0, none⟩), .bool (within a (IntKind.i64.wrap n)), .int .i64 7]) (PC2.need (within a (IntKind.i64.wrap n)) 7) ?_
    rintro e w7 ⟨rfl, PC3, k1⟩
    have SB := bx_keep k1 hbc SB
    refine ⟨_, rfl, (⟨SB, PC3.m.g3, PC3.m.g2⟩ : (w7.cell? ⟨bx, 0, none⟩ = some (.pointer (some ⟨cb, 0, none⟩)) ∧ w7.cell? ⟨bx, 1, none⟩ = some (.pointer (some ⟨mb, 0, none⟩))) ∧ w7.cell? ⟨mb, 3, none⟩ = some (.int .u16 n) ∧ w7.cell? ⟨mb, 2, none⟩ = some (.int .u16 a)), nm ?_⟩
    refine done_ (by kernel_rfl) ?_
    have KK2 : Aside0 _ := ⟨(K5.trans (Kept.drew wc (fun _ => False)) (fun _ _ h => h) (fun _ _ h => h.elim)).trans k1 (fun _ _ h => h) (fun _ _ h => .inl h)⟩
    have PP : Aside0 _ := ⟨PC3⟩
    clear PC1 PC2 PC3 SB K5 k1
    go_end0
    refine ⟨rfl, ?_, KK2.out⟩
    rw [EA.out.1, EA.out.2, EB.out.1, EB.out.2]
    exact PP.out
set_option maxRecDepth 1000000 in
theorem asks_form (w : World) (G : Nat → Prop) (cb mb : Nat) (s : St) (x : S35) (h : PC w G cb mb s x) :
    Calls Tryz.prog 134 #[.agg #[.pointer (some ⟨cb, 0, none⟩), .pointer (some ⟨mb, 0, none⟩)]] w fun r w' => r = .returned (.tuple #[]) ∧ PC w' G cb mb (spanSt s 2000) (spanMsg s x) ∧ Kept w w' (fun b => b = cb ∨ b = mb) := by
  have q := Kept.alloc w (.cells #[.pointer (some ⟨cb, 0, none⟩), .pointer (some ⟨mb, 0, none⟩)] 236) (fun _ => False)
  have hs := span_calls _ G cb mb s x 2000 (h.keep0 q)
  have f1 := heap_alloc_new w (.cells #[.pointer (some ⟨cb, 0, none⟩), .pointer (some ⟨mb, 0, none⟩)] 236)
  have sz : (Tryz.prog.info? 236).map (·.size) = some (#[Value.pointer (some ⟨cb, 0, none⟩), Value.pointer (some ⟨mb, 0, none⟩)] : Array Value).size := by kernel_rfl
  clear h
  go_enter Tryz.func134, Tryz.ntmps134
  go_wp2_with (first
    | (refine wpList_load_row rfl 236 (.tmp 1) rfl w.heap.size rfl 236 #[.pointer (some ⟨cb, 0, none⟩), .pointer (some ⟨mb, 0, none⟩)] (0, 0) _ f1 Tryz.underlying236 rfl sz ?_)
    | (go_at_call 159; with_reducible refine hs.mono ?_; rintro e w1 ⟨rfl, P, k1⟩))
  go_end0
  exact ⟨rfl, P, q.trans k1 (fun _ _ h => h.elim) (fun _ _ h => h)⟩
def setsSt (s : St) : St := s.word.2.word.2.need (s.word.2.word.1 == 0 || s.word.2.word.1 == 65280) 6
def setsMsg (s : St) (x : S35) : S35 := { x with f2 := s.word.1, f4 := s.word.2.word.1 }
set_option maxHeartbeats 2000000 in
set_option maxRecDepth 1000000 in
theorem sets_calls (w : World) (G : Nat → Prop) (cb mb : Nat) (s : St) (x : S35) (h : PC w G cb mb s x) :
    Calls Tryz.prog 136 #[.agg #[.pointer (some ⟨cb, 0, none⟩), .pointer (some ⟨mb, 0, none⟩)]] w fun r w' => r = .returned (.tuple #[]) ∧ PC w' G cb mb (setsSt s) (setsMsg s x) ∧ Kept w w' (fun b => b = cb ∨ b = mb) := by
  obtain ⟨bx, hbx, P0, hbc, hbm, SB0⟩ := form_start h
  have K0 : Kept w (w.alloc (.cells #[.pointer (some ⟨cb, 0, none⟩), .pointer (some ⟨mb, 0, none⟩)] 236)) (fun b => b = cb ∨ b = mb) := Kept.alloc w _ _
  clear h
  unfold setsSt setsMsg
  go_enter Tryz.func136, Tryz.ntmps136
  go_upto_region 1 with fail
  rw [hbx] at *
  generalize w.alloc (.cells #[.pointer (some ⟨cb, 0, none⟩), .pointer (some ⟨mb, 0, none⟩)] 236) = w0 at *
  have P1 := P0.keep0 (Kept.drew w0 _)
  have SB := bx_keep (Kept.drew w0 _) hbc SB0
  refine st 8 (fun w' => w'.cell? ⟨bx, 0, none⟩ = some (.pointer (some ⟨cb, 0, none⟩)) ∧ w'.cell? ⟨bx, 1, none⟩ = some (.pointer (some ⟨mb, 0, none⟩))) [7] SB ?_
  refine pu 0 (some 2) (mk 8 1) ?_
  refine ld 1 (some 3) (mk 8 3) SB ?_
  refine pu 2 (some 4) (mk 8 7) ?_
  refine ld 3 (some 5) (mk 8 15) SB ?_
  refine cl 4 (some 6) (mk 8 31) Tryz.func160 (args := #[.pointer (some ⟨cb, 0, none⟩)]) P1.word ?_
  rintro e w1 ⟨rfl, P2, k1⟩
  have SB := bx_keep k1 hbc SB
  refine ⟨_, rfl, SB, nm ?_⟩
  refine pu 5 (some 7) (mk 8 63) ?_
  refine pu 6 (some 8) (mk 8 127) ?_
  refine la 7 none (mk 8 255) fun K hK => ?_
  refine wp_store_msg 27 (.tmp 8) (.tmp 6) rfl mb 2 (.int .u16 s.word.1) rfl rfl rfl P2.m (by decide) (by kernel_rfl) ?_
  refine hK _ _ (nm ?_)
  clear hK K
  refine done_ (by kernel_rfl) ?_
  have P3 := P2.put (P2.m.s2 s.word.1)
  have SB3 := bx_keep (P2.m.s2 s.word.1).2 hbm SB
  have K1 : Kept w (w1.setCell ⟨mb, 2, none⟩ (.int .u16 s.word.1)) (fun b => b = cb ∨ b = mb) := ((K0.trans (Kept.drew w0 (fun _ => False)) (fun _ _ h => h) (fun _ _ h => h.elim)).trans k1 (fun _ _ h => h) (fun _ _ h => .inl h)).trans (P2.m.s2 s.word.1).2 (fun _ _ h => h) (fun _ _ h => .inr h)
  clear P1 P2 SB SB0 P0 k1 K0
  generalize w1.setCell ⟨mb, 2, none⟩ (.int .u16 s.word.1) = w2 at *
  generalize hA : s.word.1 = a at *
  generalize hS1 : s.word.2 = s1 at *
  have EA : Aside0 _ := ⟨And.intro hA hS1⟩
  clear hA hS1
  go_upto_region 2 with fail
  have P4 := P3.keep0 (Kept.drew w2 _)
  have SB := bx_keep (Kept.drew w2 _) hbc SB3
  refine st 8 (fun w' => w'.cell? ⟨bx, 0, none⟩ = some (.pointer (some ⟨cb, 0, none⟩)) ∧ w'.cell? ⟨bx, 1, none⟩ = some (.pointer (some ⟨mb, 0, none⟩))) [7] SB ?_
  refine pu 0 (some 9) (mk 8 1) ?_
  refine ld 1 (some 10) (mk 8 3) SB ?_
  refine pu 2 (some 11) (mk 8 7) ?_
  refine ld 3 (some 12) (mk 8 15) SB ?_
  refine cl 4 (some 13) (mk 8 31) Tryz.func160 (args := #[.pointer (some ⟨cb, 0, none⟩)]) P4.word ?_
  rintro e w3 ⟨rfl, P5, k1⟩
  have SB := bx_keep k1 hbc SB
  refine ⟨_, rfl, SB, nm ?_⟩
  refine pu 5 (some 14) (mk 8 63) ?_
  refine pu 6 (some 15) (mk 8 127) ?_
  refine la 7 none (mk 8 255) fun K hK => ?_
  refine wp_store_msg 27 (.tmp 15) (.tmp 13) rfl mb 4 (.int .u16 s1.word.1) rfl rfl rfl P5.m (by decide) (by kernel_rfl) ?_
  refine hK _ _ (nm ?_)
  clear hK K
  refine done_ (by kernel_rfl) ?_
  have P6 := P5.put (P5.m.s4 s1.word.1)
  have SB6 := bx_keep (P5.m.s4 s1.word.1).2 hbm SB
  have K2 : Kept w (w3.setCell ⟨mb, 4, none⟩ (.int .u16 s1.word.1)) (fun b => b = cb ∨ b = mb) := ((K1.trans (Kept.drew w2 (fun _ => False)) (fun _ _ h => h) (fun _ _ h => h.elim)).trans k1 (fun _ _ h => h) (fun _ _ h => .inl h)).trans (P5.m.s4 s1.word.1).2 (fun _ _ h => h) (fun _ _ h => .inr h)
  clear P3 P4 P5 SB SB3 k1 K1
  generalize w3.setCell ⟨mb, 4, none⟩ (.int .u16 s1.word.1) = w4 at *
  generalize hA : s1.word.1 = n at *
  generalize hS1 : s1.word.2 = s2 at *
  have EB : Aside0 _ := ⟨And.intro hA hS1⟩
  clear hA hS1
  go_upto_region 3 with fail
  have PC0 := P6.keep0 (Kept.drew w4 _)
  have SB := bx_keep (Kept.drew w4 _) hbc SB6
  have KK : Aside0 _ := ⟨K2.trans (Kept.drew w4 (fun _ => False)) (fun _ _ h => h) (fun _ _ h => h.elim)⟩
  clear P6 SB6 K2
  by_cases hn : n = 0
  · subst hn
    refine st 17 (fun w' => (w'.cell? ⟨bx, 0, none⟩ = some (.pointer (some ⟨cb, 0, none⟩)) ∧ w'.cell? ⟨bx, 1, none⟩ = some (.pointer (some ⟨mb, 0, none⟩))) ∧ w'.cell? ⟨mb, 4, none⟩ = some (.int .u16 0)) [] (⟨SB, PC0.m.g4⟩) ?_
    refine pu 0 (some 16) (mk 17 1) ?_
    refine ld 1 (some 17) (mk 17 3) (⟨SB, PC0.m.g4⟩) ?_
    refine pu 2 (some 18) (mk 17 7) ?_
    refine ld 3 (some 19) (mk 17 15) (⟨SB, PC0.m.g4⟩) ?_
    refine pu 4 (some 20) (mk 17 31) ?_
    refine pu 5 (some 21) (mk 17 63) ?_
    refine ld 6 (some 22) (mk 17 127) (⟨SB, PC0.m.g4⟩) ?_
    refine pu 7 (some 23) (mk 17 255) ?_
    refine pu 8 (some 24) (mk 17 511) ?_
    refine pu 9 (some 25) (mk 17 1023) ?_ (v := undef) (hy := Or.inr ⟨by rfl, rfl⟩)
    refine pu 10 (some 26) (mk 17 2047) ?_ (v := undef) (hy := Or.inr ⟨by rfl, rfl⟩)
    refine pu 11 (some 27) (mk 17 4095) ?_ (v := undef) (hy := Or.inr ⟨by rfl, rfl⟩)
    refine pu 12 (some 28) (mk 17 8191) ?_ (v := undef) (hy := Or.inr ⟨by rfl, rfl⟩)
    refine pu 13 (some 29) (mk 17 16383) ?_ (v := undef) (hy := Or.inr ⟨by rfl, rfl⟩)
    refine pu 14 (some 30) (mk 17 32767) ?_ (v := undef) (hy := Or.inr ⟨by rfl, rfl⟩)
    refine pu 15 (some 31) (mk 17 65535) ?_
    refine cl 16 (some 32) (mk 17 131071) Tryz.func150 (args := #[.pointer (some ⟨cb, 0, none⟩), .bool (true), .int .i64 6]) (PC0.need (true) 6) ?_
    rintro e w5 ⟨rfl, PC1, k1⟩
    have SB := bx_keep k1 hbc SB
    refine ⟨_, rfl, (⟨SB, PC1.m.g4⟩ : (w5.cell? ⟨bx, 0, none⟩ = some (.pointer (some ⟨cb, 0, none⟩)) ∧ w5.cell? ⟨bx, 1, none⟩ = some (.pointer (some ⟨mb, 0, none⟩))) ∧ w5.cell? ⟨mb, 4, none⟩ = some (.int .u16 0)), nm ?_⟩
    refine done_ (by kernel_rfl) ?_
    have KK1 : Aside0 _ := ⟨KK.out.trans k1 (fun _ _ h => h) (fun _ _ h => .inl h)⟩
    have PP : Aside0 _ := ⟨PC1⟩
    clear PC0 PC1 SB KK k1
    go_end0
    refine ⟨rfl, ?_, KK1.out⟩
    rw [EA.out.1, EA.out.2, EB.out.1, EB.out.2]
    exact PP.out
  · have hn' : (n == 0) = false := by simpa using hn
    refine st 17 (fun w' => (w'.cell? ⟨bx, 0, none⟩ = some (.pointer (some ⟨cb, 0, none⟩)) ∧ w'.cell? ⟨bx, 1, none⟩ = some (.pointer (some ⟨mb, 0, none⟩))) ∧ w'.cell? ⟨mb, 4, none⟩ = some (.int .u16 n)) [] (⟨SB, PC0.m.g4⟩) ?_
    refine pu 0 (some 16) (mk 17 1) ?_
    refine ld 1 (some 17) (mk 17 3) (⟨SB, PC0.m.g4⟩) ?_
    refine pu 2 (some 18) (mk 17 7) ?_
    refine ld 3 (some 19) (mk 17 15) (⟨SB, PC0.m.g4⟩) ?_
    refine pu 4 (some 20) (mk 17 31) ?_
    refine pu 5 (some 21) (mk 17 63) ?_
    refine ld 6 (some 22) (mk 17 127) (⟨SB, PC0.m.g4⟩) ?_
    refine pu 7 (some 23) (mk 17 255) ?_
    refine pu 8 (some 24) (mk 17 511) ?_
    refine pu 9 (some 25) (mk 17 1023) ?_
    refine ld 10 (some 26) (mk 17 2047) (⟨SB, PC0.m.g4⟩) ?_
    refine pu 11 (some 27) (mk 17 4095) ?_
    refine pu 12 (some 28) (mk 17 8191) ?_
    refine ld 13 (some 29) (mk 17 16383) (⟨SB, PC0.m.g4⟩) ?_
    refine pu 14 (some 30) (mk 17 32767) ?_
    refine pu 15 (some 31) (mk 17 65535) ?_
    refine cl 16 (some 32) (mk 17 131071) Tryz.func150 (args := #[.pointer (some ⟨cb, 0, none⟩), .bool (n == 65280), .int .i64 6]) (PC0.need (n == 65280) 6) ?_
    rintro e w5 ⟨rfl, PC1, k1⟩
    have SB := bx_keep k1 hbc SB
    refine ⟨_, rfl, (⟨SB, PC1.m.g4⟩ : (w5.cell? ⟨bx, 0, none⟩ = some (.pointer (some ⟨cb, 0, none⟩)) ∧ w5.cell? ⟨bx, 1, none⟩ = some (.pointer (some ⟨mb, 0, none⟩))) ∧ w5.cell? ⟨mb, 4, none⟩ = some (.int .u16 n)), nm ?_⟩
    refine done_ (by kernel_rfl) ?_
    have KK1 : Aside0 _ := ⟨KK.out.trans k1 (fun _ _ h => h) (fun _ _ h => .inl h)⟩
    have PP : Aside0 _ := ⟨PC1⟩
    have HN : Aside0 _ := ⟨hn'⟩
    clear PC0 PC1 SB KK k1
    go_end0
    refine ⟨rfl, ?_, KK1.out⟩
    rw [EA.out.1, EA.out.2, EB.out.1, EB.out.2, HN.out, Bool.false_or]
    exact PP.out
end Go.Proofs.YtmbjlondehcheaaGreatDoor
end
