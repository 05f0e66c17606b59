import Derived.Test.YtdolaiejkobaiaaBagH
import Derived.Test.YtdolaiejkobaiaaLibR
namespace Go.Proofs.Ytdolaiejkobaiaa
set_option linter.unusedVariables false
set_option linter.unusedSimpArgs false
open Go.RowKit

theorem bys_of {css : List (List Value)} (h : ∀ c ∈ css, ∃ n, c = [.int .u8 n]) : ∃ l : List Int, css.flatten = bys l ∧ css.length = l.length := by
  obtain ⟨S, rfl, hq⟩ := list_of_cells (f := fun n => [.int .u8 n]) (Q := fun _ => True) (css := css) fun c hc => by obtain ⟨n, hn⟩ := h c hc; exact ⟨n, hn, trivial⟩
  refine ⟨S, ?_, by simp⟩
  clear h hq
  induction S with
  | nil => rfl
  | cons x S ih => rw [List.map_cons, List.flatten_cons, ih]; rfl

section
variable {H : Type} {enc : TypeId × Value → H} {w : World} {base : Nat} {spare : Nat → Bool} {held : Bool}

theorem bytes_of {a : Option Addr} {n c : Nat} (h : Dat enc Try.prog w base spare held 29 [.slice a n c]) : ∃ l : List Int, n = l.length ∧ Rd w (.slice a n c) l.length (bys l) ∧ l.length ≤ 140737488351232 := by
  obtain ⟨css, hl, _, hr, hb, hd⟩ := h.slice (sz := 1) (by_ := 1) Try.underlying29 (by kernel_rfl) (by decide) (by kernel_rfl)
  obtain ⟨l, h1, h2⟩ := bys_of fun c hc => by obtain ⟨n, hn, _⟩ := (hd c hc).int Try.underlying5; exact ⟨n, hn⟩
  have h3 : n = l.length := by omega
  subst h3
  refine ⟨l, rfl, by rw [← h1]; exact hr, ?_⟩
  unfold reachBytes at hb; omega

theorem op_of {c : List Value} (h : Dat enc Try.prog w base spare held 31 c) : ∃ x : Sop, c = x.cells ∧ Rd w x.v x.bs.length (bys x.bs) ∧ x.bs.length ≤ 140737488351232 := by
  obtain ⟨hl, hf⟩ := h.fields [(3, 0, 1), (3, 1, 1), (3, 2, 1), (29, 3, 1)] Try.underlying31 (by kernel_rfl) 4 (by kernel_rfl)
  match c, hl with
  | [c0, c1, c2, c3], _ =>
    have f0 := hf 0 _ _ _ rfl
    have f1 := hf 1 _ _ _ rfl
    have f2 := hf 2 _ _ _ rfl
    have f3 := hf 3 _ _ _ rfl
    simp only [List.drop_zero, List.drop_succ_cons, List.take_succ_cons, List.take_zero] at f0 f1 f2 f3
    obtain ⟨k, e0, _⟩ := f0.int Try.underlying3
    obtain ⟨at_, e1, _⟩ := f1.int Try.underlying3
    obtain ⟨t, e2, _⟩ := f2.int Try.underlying3
    obtain ⟨a, n, c, e3⟩ := f3.sl Try.underlying29
    rw [e3] at f3
    obtain ⟨l, rfl, hr, hll⟩ := bytes_of f3
    simp only [List.cons.injEq, and_true] at e0 e1 e2 e3
    subst e0 e1 e2 e3
    exact ⟨⟨k, at_, t, a, c, l⟩, rfl, hr, hll⟩

theorem script_of {a : Option Addr} {n c : Nat} (h : Dat enc Try.prog w base spare held 22 [.slice a n c]) :
    ∃ S : List Sop, n = S.length ∧ ScrAt w (.slice a S.length c) S ∧ S.length * 48 ≤ 140737488351232 ∧ ∀ x ∈ S, x.bs.length ≤ 140737488351232 := by
  obtain ⟨css, hl, _, hr, hb, hd⟩ := h.slice (sz := 4) (by_ := 48) Try.underlying22 (by kernel_rfl) (by decide) (by kernel_rfl)
  obtain ⟨S, rfl, hS⟩ := list_of_cells (f := Sop.cells) (Q := fun x => Rd w x.v x.bs.length (bys x.bs) ∧ x.bs.length ≤ 140737488351232) fun c hc => op_of (hd c hc)
  rw [List.length_map] at hl
  subst hl
  refine ⟨S, rfl, ⟨?_, fun x hx => (hS x hx).1⟩, by unfold reachBytes at hb; omega, fun x hx => (hS x hx).2⟩
  rw [scs, List.flatMap_def]; exact hr
end
end Go.Proofs.Ytdolaiejkobaiaa
