/- What the bound on an argument's bulk gives: a script's length. -/
import Derived.Test.YtakkdaenindboaaRows
import Derived.Test.YtakkdaenindboaaVowU
namespace Go.Proofs.Ytakkdaenindboaa
set_option linter.unusedVariables false
set_option linter.unusedSimpArgs false
open Go.RowKit Go.ChangeShapes Go.WideShapes

section
variable {H : Type} {enc : TypeId × Value → H} {P : Program} {w : World} {base : Nat} {spare : Nat → Bool} {held : Bool}

theorem bulk_part {d : DataW H} {l : List (DataW H)} (h : d ∈ l) : Rows.uptoBulk d ≤ Rows.uptoBulkAll l := by
  induction l with
  | nil => cases h
  | cons x r ih =>
    simp only [Rows.uptoBulkAll]
    rcases List.mem_cons.1 h with e | e
    · subst e; omega
    · have := ih e; omega
theorem bulk_one (d : DataW H) : 1 ≤ Rows.uptoBulk d := by
  cases d with
  | lit l => cases l <;> simp [Rows.uptoBulk]
  | nil => simp [Rows.uptoBulk]
  | ptr d => simp [Rows.uptoBulk]
  | slice elems spare => simp [Rows.uptoBulk]
  | agg parts => simp [Rows.uptoBulk]
  | iface t d => simp [Rows.uptoBulk]
  | map entries => simp [Rows.uptoBulk]
  | held h => simp [Rows.uptoBulk]
theorem bulk_len (l : List (DataW H)) : l.length ≤ Rows.uptoBulkAll l := by
  induction l with
  | nil => simp [Rows.uptoBulkAll]
  | cons x r ih => have := bulk_one x; simp only [Rows.uptoBulkAll, List.length_cons]; omega

/-- a slice's elements, each with its reading -/
theorem trod_elems {fuel : Nat} {t e : TypeId} {sz : Nat} {a : Option Addr} {len cap : Nat} {x : DataW H × List MemPlace} (ht : P.underlying t = some (.slice e)) (hsz : P.cellsOf e = sz) (hpos : 0 < sz) (hx : DataW.trod enc P w base spare held fuel t [.slice a len cap] = some x) :
    ∃ (css : List (List Value)) (ds : List (DataW H)), css.length = len ∧ ds.length = len ∧ Rd w (.slice a len cap) len css.flatten ∧ (∀ c ∈ css, c.length = sz) ∧ Rows.uptoBulkAll ds + 1 ≤ Rows.uptoBulk x.1 ∧ ∀ (i : Nat) c d, css[i]? = some c → ds[i]? = some d → ∃ n pl, DataW.trod enc P w base spare held n e c = some (d, pl) := by
  rcases Go.Deep.open_slice ht hx with ⟨hcs, _⟩ | ⟨ad, len', cap', m, n, D, Pl, hcs, hb, hl, hm, hme, rfl, hel⟩
  · simp only [List.cons.injEq, Value.slice.injEq, and_true] at hcs
    obtain ⟨rfl, rfl, rfl⟩ := hcs
    exact ⟨[], [], rfl, rfl, .inl ⟨rfl, rfl, rfl⟩, by simp, by have := bulk_one x.1; simpa [Rows.uptoBulkAll] using this, by simp⟩
  · simp only [List.cons.injEq, Value.slice.injEq, and_true] at hcs
    obtain ⟨rfl, rfl, rfl⟩ := hcs
    have hlm : len ≤ m := by rw [hme]; split <;> omega
    obtain ⟨css, hlen, hcss⟩ := list_of_index (n := len) (p := fun i c => w.cells? base (ad.add (i * P.cellsOf e)) (P.cellsOf e) = some c ∧ DataW.trod enc P w base spare held n e c = some (D i, Pl i)) fun i hi => hel i (by omega)
    have hc1 : ∀ c ∈ css, c.length = sz := fun c hc => by
      obtain ⟨i, hi⟩ := List.mem_iff_getElem?.1 hc
      rw [← hsz]; exact (World.cells?_some (hcss i c hi).1).2.1
    refine ⟨css, (List.range len).map D, hlen, by simp, .inr ⟨ad, cap, rfl, hl, hm, fun k v hk => ?_⟩, hc1, ?_, fun i c d hc hd => ?_⟩
    · obtain ⟨i, j, c, rfl, hc, hj⟩ := at_flatten hpos hc1 hk
      have h1 := World.cells?_some (hcss i c hc).1
      have h2 := h1.2.2 j (by have := (List.getElem?_eq_some_iff.1 hj).1; have := hc1 c (List.mem_of_getElem? hc); omega)
      rw [hsz, Addr.add_add] at h2
      rw [h2]; exact hj
    · simp only [Rows.uptoBulk]; omega
    · have hil : i < len := by rw [← hlen]; exact (List.getElem?_eq_some_iff.1 hc).1
      rw [List.getElem?_map, List.getElem?_range hil] at hd
      simp only [Option.map_some, Option.some.injEq] at hd
      subst hd
      exact ⟨n, _, (hcss i c hc).2⟩

theorem script_len {d : DataW H} {a : Option Addr} {n c : Nat} {ps : List MemPlace} (h : DataW.Trod enc Try.prog w base spare held 22 (.slice a n c) d ps) : n ≤ Rows.uptoBulk d := by
  obtain ⟨fuel, hf⟩ := h
  obtain ⟨css, dl, _, hdl, _, _, hb, _⟩ := trod_elems Try.underlying22 (sz := 5) (by kernel_rfl) (by decide) (x := (d, ps)) hf
  have h1 := bulk_len dl
  have hb : Rows.uptoBulkAll dl + 1 ≤ Rows.uptoBulk d := hb
  omega
end
end Go.Proofs.Ytakkdaenindboaa
