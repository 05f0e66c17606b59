/- Parts of a proof about the given program, in build order: CalP. No condition. -/
import Derived.Test.YtbjibkjenleloaaGreatDoorMg29
import Derived.Test.YtbjibkjenleloaaGreatDoorMg06
section
namespace Go.Proofs.YtbjibkjenleloaaGreatDoor
set_option linter.unusedVariables false
open Go.ChangeShapes Go.WideShapes Go.RowKit
def Cf.cells (s : Cf) : List Value := [.int .i64 s.cl, .int .i64 s.de, .int .i64 s.ne, .int .i64 s.li, .int .i64 s.pr, .int .i64 s.qu, .int .i64 s.ho]
section
variable {H : Type} {enc : TypeId × Value → H} {w : World} {base : Nat} {spare : Nat → Bool} {held : Bool}
theorem conf_of {c : List Value} (h : Dat enc Tryz.prog w base spare held 23 c) : ∃ x : Cf, c = x.cells := by
  obtain ⟨hl, hf⟩ := h.fields [(3, 0, 1), (3, 1, 1), (3, 2, 1), (3, 3, 1), (3, 4, 1), (3, 5, 1), (3, 6, 1)] Tryz.underlying23 (by kernel_rfl) 7 (by kernel_rfl)
  match c, hl with
  | [c0, c1, c2, c3, c4, c5, c6], _ =>
    have f0 := hf 0 _ _ _ rfl
    have f1 := hf 1 _ _ _ rfl
    have f2 := hf 2 _ _ _ rfl
    have f3 := hf 3 _ _ _ rfl
    have f4 := hf 4 _ _ _ rfl
    have f5 := hf 5 _ _ _ rfl
    have f6 := hf 6 _ _ _ rfl
    simp only [List.drop_zero, List.drop_succ_cons, List.take_succ_cons, List.take_zero] at f0 f1 f2 f3 f4 f5 f6
    obtain ⟨k0, e0, _⟩ := f0.int Tryz.underlying3
    obtain ⟨k1, e1, _⟩ := f1.int Tryz.underlying3
    obtain ⟨k2, e2, _⟩ := f2.int Tryz.underlying3
    obtain ⟨k3, e3, _⟩ := f3.int Tryz.underlying3
    obtain ⟨k4, e4, _⟩ := f4.int Tryz.underlying3
    obtain ⟨k5, e5, _⟩ := f5.int Tryz.underlying3
    obtain ⟨k6, e6, _⟩ := f6.int Tryz.underlying3
    simp only [List.cons.injEq, and_true] at e0 e1 e2 e3 e4 e5 e6
    subst e0 e1 e2 e3 e4 e5 e6
    exact ⟨⟨k0, k1, k2, k3, k4, k5, k6⟩, rfl⟩
end
end Go.Proofs.YtbjibkjenleloaaGreatDoor

end
