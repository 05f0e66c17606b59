import Derived.Test.YtmhogjecfgbchaaDentJ
namespace Go.Proofs.Ytmhogjecfgbchaa
set_option linter.unusedVariables false
set_option linter.unusedSimpArgs false
open Go.RowKit

/-- a call of a script -/
structure Dop where
  kind : Int
  dir : Int
  e : En
  a : Option Addr
  c : Nat
  ks : List Ky

def Dop.kv (x : Dop) : Value := .slice x.a x.ks.length x.c
def Dop.cells (x : Dop) : List Value := [.int .i64 x.kind, .int .i64 x.dir, .int .i64 x.e.key.dir, .string x.e.key.name, .bool x.e.neg, .int .i64 x.e.node.id, .int .i64 x.e.node.kind, .int .i64 x.e.node.mode, .string x.e.node.target, x.kv]
def dcs (S : List Dop) : List Value := S.flatMap Dop.cells

theorem flatMap_len {α : Type} {f : α → List Value} {sz : Nat} (hf : ∀ x, (f x).length = sz) (S : List α) : (S.flatMap f).length = S.length * sz := by
  induction S with
  | nil => simp
  | cons x S ih => rw [List.flatMap_cons, List.length_append, ih, hf, List.length_cons, Nat.add_mul]; omega
theorem flatMap_at {α : Type} {f : α → List Value} {sz : Nat} (hf : ∀ x, (f x).length = sz) {S : List α} {k : Nat} {x : α} (h : S[k]? = some x) {j : Nat} {v : Value} (hj : (f x)[j]? = some v) : (S.flatMap f)[k * sz + j]? = some v := by
  rw [List.flatMap_def]
  exact flatten_at (fun c hc => by obtain ⟨y, _, rfl⟩ := List.mem_map.1 hc; exact hf y) (by rw [List.getElem?_map, h]; rfl) hj
theorem dcs_len (S : List Dop) : (dcs S).length = S.length * 10 := flatMap_len (f := Dop.cells) (sz := 10) (fun _ => rfl) S
theorem dcs_one (S : List Dop) : ∀ u ∈ dcs S, u.oneCell' = true := by
  intro u hu
  simp only [dcs, List.mem_flatMap, Dop.cells] at hu
  obtain ⟨x, _, hx⟩ := hu
  simp at hx
  rcases hx with rfl | rfl | rfl | rfl | rfl | rfl | rfl | rfl | rfl | rfl <;> rfl

/-- a script in memory -/
structure ScrD (w : World) (v : Value) (S : List Dop) : Prop where
  row : Rd w v S.length (dcs S)
  each : ∀ x ∈ S, Rd w x.kv x.ks.length (kyc x.ks)

theorem ScrD.loc {w : World} {sa : Option Addr} {sc : Nat} {S : List Dop} (h : ScrD w (.slice sa S.length sc) S) (hS : 0 < S.length) : ∃ b off, sa = some ⟨b, off, none⟩ := by
  obtain ⟨b, off, cap, hv, _⟩ := h.row.form (by rw [dcs_len]; omega)
  simp only [Value.slice.injEq] at hv
  exact ⟨b, off, hv.1⟩

theorem Rd.cellB {w wr : World} {b off n c m : Nat} {cs : List Value} (h : Rd w (.slice (some ⟨b, off, none⟩) n c) m cs) (hb : Below w.heap.size w wr) {i : Nat} {v : Value} (hi : cs[i]? = some v) : wr.cell? ⟨b, off + i, none⟩ = some v :=
  below_cell hb (Nat.le_refl _) (h.at _ _ hi)

theorem scrD_at {w wr : World} {b off sc : Nat} {S : List Dop} (h : ScrD w (.slice (some ⟨b, off, none⟩) S.length sc) S) (hb : Below w.heap.size w wr) {k : Nat} {x : Dop} (hx : S[k]? = some x) :
    wr.cell? ⟨b, off + k * 10, none⟩ = some (.int .i64 x.kind) ∧ wr.cell? ⟨b, off + k * 10 + 1, none⟩ = some (.int .i64 x.dir) ∧ wr.cell? ⟨b, off + k * 10 + 2, none⟩ = some (.int .i64 x.e.key.dir) ∧ wr.cell? ⟨b, off + k * 10 + 3, none⟩ = some (.string x.e.key.name) ∧ wr.cell? ⟨b, off + k * 10 + 4, none⟩ = some (.bool x.e.neg) ∧
    wr.cell? ⟨b, off + k * 10 + 5, none⟩ = some (.int .i64 x.e.node.id) ∧ wr.cell? ⟨b, off + k * 10 + 6, none⟩ = some (.int .i64 x.e.node.kind) ∧ wr.cell? ⟨b, off + k * 10 + 7, none⟩ = some (.int .i64 x.e.node.mode) ∧ wr.cell? ⟨b, off + k * 10 + 8, none⟩ = some (.string x.e.node.target) ∧ wr.cell? ⟨b, off + k * 10 + 9, none⟩ = some (.slice x.a x.ks.length x.c) := by
  have g : ∀ (j : Nat) (v : Value), x.cells[j]? = some v → wr.cell? ⟨b, off + k * 10 + j, none⟩ = some v := fun j v hj => by
    rw [Nat.add_assoc]; exact h.row.cellB hb (flatMap_at (f := Dop.cells) (sz := 10) (fun _ => rfl) hx hj)
  exact ⟨g 0 _ rfl, g 1 _ rfl, g 2 _ rfl, g 3 _ rfl, g 4 _ rfl, g 5 _ rfl, g 6 _ rfl, g 7 _ rfl, g 8 _ rfl, g 9 _ rfl⟩

/-- key k of a call of a script -/
theorem ks_at {w wr : World} {b off n c m : Nat} {ks : List Ky} (h : Rd w (.slice (some ⟨b, off, none⟩) n c) m (kyc ks)) (hb : Below w.heap.size w wr) {k : Nat} {x : Ky} (hx : ks[k]? = some x) :
    wr.cell? ⟨b, off + k * 2, none⟩ = some (.int .i64 x.dir) ∧ wr.cell? ⟨b, off + k * 2 + 1, none⟩ = some (.string x.name) := by
  have h2 := kyc_at hx
  exact ⟨h.cellB hb h2.1, by rw [Nat.add_assoc]; exact h.cellB hb h2.2⟩
theorem ks_loc {w : World} {sa : Option Addr} {n c : Nat} {ks : List Ky} (h : Rd w (.slice sa n c) n (kyc ks)) (hS : 0 < ks.length) : ∃ b off, sa = some ⟨b, off, none⟩ := by
  obtain ⟨b, off, cap, hv, _⟩ := h.form (by rw [kyc_len]; omega)
  simp only [Value.slice.injEq] at hv
  exact ⟨b, off, hv.1⟩

section
variable {H : Type} {enc : TypeId × Value → H} {w : World} {base : Nat} {spare : Nat → Bool} {held : Bool}

theorem key_of {c : List Value} (h : Dat enc Try.prog w base spare held 26 c) : ∃ x : Ky, c = x.cells ∧ x.name.size ≤ reachBytes := by
  obtain ⟨hl, hf⟩ := h.fields [(3, 0, 1), (9, 1, 1)] Try.underlying26 (by kernel_rfl) 2 (by kernel_rfl)
  match c, hl with
  | [c0, c1], _ =>
    have f0 := hf 0 _ _ _ rfl
    have f1 := hf 1 _ _ _ rfl
    simp only [List.drop_zero, List.drop_succ_cons, List.take_succ_cons, List.take_zero] at f0 f1
    obtain ⟨k, e0, _⟩ := f0.int Try.underlying3
    obtain ⟨s, e1, h1⟩ := f1.str Try.underlying9
    simp only [List.cons.injEq, and_true] at e0 e1
    subst e0 e1
    exact ⟨⟨k, s⟩, rfl, h1⟩

theorem node_of {c : List Value} (h : Dat enc Try.prog w base spare held 28 c) : ∃ x : Nd, c = [.int .i64 x.id, .int .i64 x.kind, .int .i64 x.mode, .string x.target] := by
  obtain ⟨hl, hf⟩ := h.fields [(3, 0, 1), (3, 1, 1), (3, 2, 1), (9, 3, 1)] Try.underlying28 (by kernel_rfl) 4 (by kernel_rfl)
  match c, hl with
  | [c0, c1, c2, c3], _ =>
    have f0 := hf 0 _ _ _ rfl
    have f1 := hf 1 _ _ _ rfl
    have f2 := hf 2 _ _ _ rfl
    have f3 := hf 3 _ _ _ rfl
    simp only [List.drop_zero, List.drop_succ_cons, List.take_succ_cons, List.take_zero] at f0 f1 f2 f3
    obtain ⟨k, e0, _⟩ := f0.int Try.underlying3
    obtain ⟨k1, e1, _⟩ := f1.int Try.underlying3
    obtain ⟨k2, e2, _⟩ := f2.int Try.underlying3
    obtain ⟨s, e3, h1⟩ := f3.str Try.underlying9
    simp only [List.cons.injEq, and_true] at e0 e1 e2 e3
    subst e0 e1 e2 e3
    exact ⟨⟨k, k1, k2, s⟩, rfl⟩

theorem entry_of {c : List Value} (h : Dat enc Try.prog w base spare held 30 c) : ∃ x : En, c = x.cells := by
  obtain ⟨hl, hf⟩ := h.fields [(26, 0, 2), (4, 2, 1), (28, 3, 4)] Try.underlying30 (by kernel_rfl) 7 (by kernel_rfl)
  match c, hl with
  | [c0, c1, c2, c3, c4, c5, c6], _ =>
    have f0 := hf 0 _ _ _ rfl
    have f1 := hf 1 _ _ _ rfl
    have f2 := hf 2 _ _ _ rfl
    simp only [List.drop_zero, List.drop_succ_cons, List.take_succ_cons, List.take_zero] at f0 f1 f2
    obtain ⟨k, e0, _⟩ := key_of f0
    obtain ⟨b, e1⟩ := f1.bool Try.underlying4
    obtain ⟨n, e2⟩ := node_of f2
    simp only [Ky.cells, List.cons.injEq, and_true] at e0 e1 e2
    obtain ⟨e0, e0'⟩ := e0
    obtain ⟨e2, e3, e4, e5⟩ := e2
    subst e0 e0' e1 e2 e3 e4 e5
    exact ⟨⟨k, b, n⟩, rfl⟩

theorem keys_of {a : Option Addr} {n c : Nat} (h : Dat enc Try.prog w base spare held 31 [.slice a n c]) : ∃ ks : List Ky, n = ks.length ∧ Rd w (.slice a n c) ks.length (kyc ks) ∧ ks.length * 24 ≤ 140737488351232 := by
  obtain ⟨css, hl, _, hr, hb, hd⟩ := h.slice (sz := 2) (by_ := 24) Try.underlying31 (by kernel_rfl) (by decide) (by kernel_rfl)
  obtain ⟨S, rfl, hS⟩ := list_of_cells (f := Ky.cells) (Q := fun _ => True) fun c hc => by obtain ⟨x, hx, _⟩ := key_of (hd c hc); exact ⟨x, hx, trivial⟩
  rw [List.length_map] at hl
  subst hl
  refine ⟨S, rfl, ?_, by unfold reachBytes at hb; omega⟩
  rw [kyc, List.flatMap_def]; exact hr

theorem dop_of {c : List Value} (h : Dat enc Try.prog w base spare held 33 c) : ∃ x : Dop, c = x.cells ∧ Rd w x.kv x.ks.length (kyc x.ks) ∧ x.ks.length * 24 ≤ 140737488351232 := by
  obtain ⟨hl, hf⟩ := h.fields [(3, 0, 1), (3, 1, 1), (30, 2, 7), (31, 9, 1)] Try.underlying33 (by kernel_rfl) 10 (by kernel_rfl)
  match c, hl with
  | [c0, c1, c2, c3, c4, c5, c6, c7, c8, c9], _ =>
    have f0 := hf 0 _ _ _ rfl
    have f1 := hf 1 _ _ _ rfl
    have f2 := hf 2 _ _ _ rfl
    have f3 := hf 3 _ _ _ rfl
    simp only [List.drop_zero, List.drop_succ_cons, List.take_succ_cons, List.take_zero] at f0 f1 f2 f3
    obtain ⟨k, e0, _⟩ := f0.int Try.underlying3
    obtain ⟨d, e1, _⟩ := f1.int Try.underlying3
    obtain ⟨en, e2⟩ := entry_of f2
    obtain ⟨a, n, c, e3⟩ := f3.sl Try.underlying31
    rw [e3] at f3
    obtain ⟨ks, rfl, hr, hk⟩ := keys_of f3
    simp only [En.cells, List.cons.injEq, and_true] at e0 e1 e2 e3
    obtain ⟨g0, g1, g2, g3, g4, g5, g6⟩ := e2
    subst e0 e1 e3 g0 g1 g2 g3 g4 g5 g6
    exact ⟨⟨k, d, en, a, c, ks⟩, rfl, hr, hk⟩

theorem dscript_of {a : Option Addr} {n c : Nat} (h : Dat enc Try.prog w base spare held 22 [.slice a n c]) :
    ∃ S : List Dop, n = S.length ∧ ScrD w (.slice a S.length c) S ∧ S.length * 112 ≤ 140737488351232 ∧ ∀ x ∈ S, x.ks.length * 24 ≤ 140737488351232 := by
  obtain ⟨css, hl, _, hr, hb, hd⟩ := h.slice (sz := 10) (by_ := 112) Try.underlying22 (by kernel_rfl) (by decide) (by kernel_rfl)
  obtain ⟨S, rfl, hS⟩ := list_of_cells (f := Dop.cells) (Q := fun x => Rd w x.kv x.ks.length (kyc x.ks) ∧ x.ks.length * 24 ≤ 140737488351232) fun c hc => dop_of (hd c hc)
  rw [List.length_map] at hl
  subst hl
  refine ⟨S, rfl, ⟨?_, fun x hx => (hS x hx).1⟩, by unfold reachBytes at hb; omega, fun x hx => (hS x hx).2⟩
  rw [dcs, List.flatMap_def]; exact hr
end
end Go.Proofs.Ytmhogjecfgbchaa
