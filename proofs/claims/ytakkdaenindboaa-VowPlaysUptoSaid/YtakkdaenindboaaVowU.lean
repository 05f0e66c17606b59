import Derived.Test.YtakkdaenindboaaVowP
import Derived.Test.YtakkdaenindboaaLibR
namespace Go.Proofs.Ytakkdaenindboaa
set_option linter.unusedVariables false
set_option linter.unusedSimpArgs false
open Go.RowKit

/-- a call of a script -/
structure Vop where
  kind : Int
  ver : Int
  ep : Int
  num : Int
  a : Option Addr
  c : Nat
  ks : List Ky

def Vop.kv (x : Vop) : Value := .slice x.a x.ks.length x.c
def Vop.cells (x : Vop) : List Value := [.int .i64 x.kind, .int .i64 x.ver, .int .i64 x.ep, .int .i64 x.num, .slice x.a x.ks.length x.c]
def vcs (S : List Vop) : List Value := S.flatMap Vop.cells
theorem vcs_len (S : List Vop) : (vcs S).length = S.length * 5 := flatMap_len (f := Vop.cells) (sz := 5) (fun _ => rfl) S

/-- a script in memory -/
structure ScrV (w : World) (v : Value) (S : List Vop) : Prop where
  row : Rd w v S.length (vcs S)
  each : ∀ x ∈ S, Rd w x.kv x.ks.length (kyc x.ks)

theorem ScrV.below {w w' : World} {v : Value} {S : List Vop} (h : ScrV w v S) (hb : Below w.heap.size w w') : ScrV w' v S := ⟨h.row.below hb, fun x hx => (h.each x hx).below hb⟩
theorem ScrV.loc {w : World} {sa : Option Addr} {sc : Nat} {S : List Vop} (h : ScrV w (.slice sa S.length sc) S) (hS : 0 < S.length) : ∃ b off, sa = some ⟨b, off, none⟩ := by
  obtain ⟨b, off, cap, hv, _⟩ := h.row.form (by rw [vcs_len]; omega)
  simp only [Value.slice.injEq] at hv
  exact ⟨b, off, hv.1⟩

theorem scrV_at {w wr : World} {b off sc : Nat} {S : List Vop} (h : ScrV w (.slice (some ⟨b, off, none⟩) S.length sc) S) (hb : Below w.heap.size w wr) {k : Nat} {x : Vop} (hx : S[k]? = some x) :
    wr.cell? ⟨b, off + k * 5, none⟩ = some (.int .i64 x.kind) ∧ wr.cell? ⟨b, off + k * 5 + 1, none⟩ = some (.int .i64 x.ver) ∧ wr.cell? ⟨b, off + k * 5 + 2, none⟩ = some (.int .i64 x.ep) ∧ wr.cell? ⟨b, off + k * 5 + 3, none⟩ = some (.int .i64 x.num) ∧ wr.cell? ⟨b, off + k * 5 + 4, none⟩ = some (.slice x.a x.ks.length x.c) := by
  have g : ∀ (j : Nat) (v : Value), x.cells[j]? = some v → wr.cell? ⟨b, off + k * 5 + j, none⟩ = some v := fun j v hj => by
    rw [Nat.add_assoc]; exact h.row.cellB hb (flatMap_at (f := Vop.cells) (sz := 5) (fun _ => rfl) hx hj)
  exact ⟨g 0 _ rfl, g 1 _ rfl, g 2 _ rfl, g 3 _ rfl, g 4 _ rfl⟩

section
variable {H : Type} {enc : TypeId × Value → H} {w : World} {base : Nat} {spare : Nat → Bool} {held : Bool}
theorem vop_of {c : List Value} (h : Dat enc Try.prog w base spare held 30 c) : ∃ x : Vop, c = x.cells ∧ Rd w x.kv x.ks.length (kyc x.ks) ∧ x.ks.length * 24 ≤ 140737488351232 := by
  obtain ⟨hl, hf⟩ := h.fields [(3, 0, 1), (3, 1, 1), (3, 2, 1), (3, 3, 1), (28, 4, 1)] Try.underlying30 (by kernel_rfl) 5 (by kernel_rfl)
  match c, hl with
  | [c0, c1, c2, c3, c4], _ =>
    have f0 := hf 0 _ _ _ rfl
    have f1 := hf 1 _ _ _ rfl
    have f2 := hf 2 _ _ _ rfl
    have f3 := hf 3 _ _ _ rfl
    have f4 := hf 4 _ _ _ rfl
    simp only [List.drop_zero, List.drop_succ_cons, List.take_succ_cons, List.take_zero] at f0 f1 f2 f3 f4
    obtain ⟨k, e0, _⟩ := f0.int Try.underlying3
    obtain ⟨v, e1, _⟩ := f1.int Try.underlying3
    obtain ⟨p, e2, _⟩ := f2.int Try.underlying3
    obtain ⟨m, e3, _⟩ := f3.int Try.underlying3
    obtain ⟨a, n, c, e4⟩ := f4.sl Try.underlying28
    rw [e4] at f4
    obtain ⟨ks, rfl, hr, hk⟩ := keys_of f4
    simp only [List.cons.injEq, and_true] at e0 e1 e2 e3 e4
    subst e0 e1 e2 e3 e4
    exact ⟨⟨k, v, p, m, a, c, ks⟩, rfl, hr, hk⟩

theorem vscript_of {a : Option Addr} {n c : Nat} (h : Dat enc Try.prog w base spare held 22 [.slice a n c]) :
    ∃ S : List Vop, n = S.length ∧ ScrV w (.slice a S.length c) S ∧ S.length * 56 ≤ 140737488351232 ∧ ∀ x ∈ S, x.ks.length * 24 ≤ 140737488351232 := by
  obtain ⟨css, hl, _, hr, hb, hd⟩ := h.slice (sz := 5) (by_ := 56) Try.underlying22 (by kernel_rfl) (by decide) (by kernel_rfl)
  obtain ⟨S, rfl, hS⟩ := list_of_cells (f := Vop.cells) (Q := fun x => Rd w x.kv x.ks.length (kyc x.ks) ∧ x.ks.length * 24 ≤ 140737488351232) fun c hc => vop_of (hd c hc)
  rw [List.length_map] at hl
  subst hl
  refine ⟨S, rfl, ⟨?_, fun x hx => (hS x hx).1⟩, by unfold reachBytes at hb; omega, fun x hx => (hS x hx).2⟩
  rw [vcs, List.flatMap_def]; exact hr
end
end Go.Proofs.Ytakkdaenindboaa
