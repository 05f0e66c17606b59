/- What a law's arguments read as: slices and structs opened into lists, with the row's own bound on their weight. -/
import Derived.Test.YtdolaiejkobaiaaLib
import Derived.ProofKit
import Derived.OpenShut
import Derived.ShutString
import Derived.ChangeOld
import Derived.Below
import Derived.SizedLaws
import Derived.Deep.Slices
namespace Go.Proofs.Ytdolaiejkobaiaa
set_option linter.unusedVariables false
set_option linter.unusedSimpArgs false
open Go.RowKit Go.ChangeShapes Go.WideShapes

section
variable {H : Type} {enc : TypeId × Value → H} {P : Program} {w : World} {base : Nat} {spare : Nat → Bool} {held : Bool}

/-- a datum, read from cells, no part of it beyond the reach -/
def Dat (enc : TypeId × Value → H) (P : Program) (w : World) (base : Nat) (spare : Nat → Bool) (held : Bool) (t : TypeId) (cs : List Value) : Prop :=
  ∃ fuel x, DataW.trod enc P w base spare held fuel t cs = some x ∧ ∀ n ∈ x.1.weights P t, n ≤ reachBytes

theorem weights_all {e : TypeId} {D : Nat → DataW H} {n i : Nat} (hi : i < n) {m : Nat} (hm : m ∈ (D i).weights P e) : m ∈ DataW.weightsAll P e ((List.range n).map D) := by
  induction n with
  | zero => omega
  | succ n ih =>
    have happ : ∀ (a b : List (DataW H)), DataW.weightsAll P e (a ++ b) = DataW.weightsAll P e a ++ DataW.weightsAll P e b := by
      intro a b
      induction a with
      | nil => rfl
      | cons x a ih => simp [DataW.weightsAll, ih]
    rw [List.range_succ, List.map_append, happ, List.mem_append]
    by_cases h : i = n
    · subst h; right; simp [DataW.weightsAll, hm]
    · exact .inl (ih (by omega))

theorem list_of_index {α : Type} {n : Nat} {p : Nat → α → Prop} (h : ∀ i, i < n → ∃ x, p i x) : ∃ l : List α, l.length = n ∧ ∀ i x, l[i]? = some x → p i x := by
  induction n with
  | zero => exact ⟨[], rfl, by simp⟩
  | succ n ih =>
    obtain ⟨l, hl, hp⟩ := ih fun i hi => h i (by omega)
    obtain ⟨x, hx⟩ := h n (by omega)
    refine ⟨l ++ [x], by simp [hl], fun i y hy => ?_⟩
    by_cases hi : i < n
    · rw [List.getElem?_append_left (by omega)] at hy; exact hp i y hy
    · have hin : i = n := by
        have := (List.getElem?_eq_some_iff.1 hy).1; simp at this; omega
      subst hin
      rw [List.getElem?_append_right (by omega)] at hy
      simp [hl] at hy; subst hy; exact hx

theorem flatten_at {α : Type} {sz : Nat} : ∀ {css : List (List α)}, (∀ c ∈ css, c.length = sz) → ∀ {i : Nat} {c : List α}, css[i]? = some c → ∀ {j : Nat} {v : α}, c[j]? = some v → css.flatten[i * sz + j]? = some v
  | [], _, i, c, hi, j, v, hj => by simp at hi
  | c0 :: css, hl, 0, c, hi, j, v, hj => by
    simp at hi; subst hi
    simp only [Nat.zero_mul, Nat.zero_add, List.flatten_cons]
    rw [List.getElem?_append_left (List.getElem?_eq_some_iff.1 hj).1]; exact hj
  | c0 :: css, hl, i + 1, c, hi, j, v, hj => by
    have h0 : c0.length = sz := hl c0 (by simp)
    have := flatten_at (fun c hc => hl c (List.mem_cons_of_mem _ hc)) (by simpa using hi) hj
    rw [List.flatten_cons, List.getElem?_append_right (by rw [h0, Nat.add_mul]; omega)]
    rw [h0, show (i + 1) * sz + j - sz = i * sz + j by rw [Nat.add_mul]; omega]
    exact this

theorem at_flatten {α : Type} {sz : Nat} (hsz : 0 < sz) : ∀ {css : List (List α)}, (∀ c ∈ css, c.length = sz) → ∀ {k : Nat} {v : α}, css.flatten[k]? = some v → ∃ i j c, k = i * sz + j ∧ css[i]? = some c ∧ c[j]? = some v
  | [], _, k, v, h => by simp at h
  | c0 :: css, hl, k, v, h => by
    have h0 : c0.length = sz := hl c0 (by simp)
    by_cases hk : k < sz
    · rw [List.flatten_cons, List.getElem?_append_left (by omega)] at h
      exact ⟨0, k, c0, by omega, rfl, h⟩
    · rw [List.flatten_cons, List.getElem?_append_right (by omega)] at h
      obtain ⟨i, j, c, hk', hc, hj⟩ := at_flatten hsz (fun c hc => hl c (List.mem_cons_of_mem _ hc)) h
      exact ⟨i + 1, j, c, by rw [Nat.add_mul]; omega, by simpa using hc, hj⟩

/-- A SLICE: its elements' cells, each a datum of its own. -/
theorem Dat.slice {t e : TypeId} {sz by_ : Nat} {a : Option Addr} {len cap : Nat} (ht : P.underlying t = some (.slice e)) (hsz : P.cellsOf e = sz) (hpos : 0 < sz) (hby : P.bytesOf e = by_) (h : Dat enc P w base spare held t [.slice a len cap]) :
    ∃ css : List (List Value), css.length = len ∧ (∀ c ∈ css, c.length = sz) ∧ Rd w (.slice a len cap) len css.flatten ∧ len * by_ ≤ reachBytes ∧ ∀ c ∈ css, Dat enc P w base spare held e c := by
  obtain ⟨fuel, x, hx, hwt⟩ := h
  rcases Go.Deep.open_slice ht hx with ⟨hcs, _⟩ | ⟨ad, len', cap', m, n, D, Pl, hcs, hb, hl, hm, hme, rfl, hel⟩
  · simp only [List.cons.injEq, Value.slice.injEq, and_true] at hcs
    obtain ⟨rfl, rfl, rfl⟩ := hcs
    exact ⟨[], rfl, by simp, .inl ⟨rfl, rfl, rfl⟩, by simp, by simp⟩
  · simp only [List.cons.injEq, Value.slice.injEq, and_true] at hcs
    obtain ⟨rfl, rfl, rfl⟩ := hcs
    have hlm : len ≤ m := by rw [hme]; split <;> omega
    obtain ⟨css, hlen, hcss⟩ := list_of_index (n := len) (p := fun i c => w.cells? base (ad.add (i * P.cellsOf e)) (P.cellsOf e) = some c ∧ DataW.trod enc P w base spare held n e c = some (D i, Pl i)) fun i hi => hel i (by omega)
    have hc1 : ∀ c ∈ css, c.length = sz := fun c hc => by
      obtain ⟨i, hi⟩ := List.mem_iff_getElem?.1 hc
      rw [← hsz]; exact (World.cells?_some (hcss i c hi).1).2.1
    refine ⟨css, hlen, hc1, .inr ⟨ad, cap, rfl, hl, hm, fun k v hk => ?_⟩, ?_, fun c hc => ?_⟩
    · obtain ⟨i, j, c, rfl, hc, hj⟩ := at_flatten hpos hc1 hk
      have h1 := World.cells?_some (hcss i c hc).1
      have h2 := h1.2.2 j (by have := (List.getElem?_eq_some_iff.1 hj).1; have := hc1 c (List.mem_of_getElem? hc); omega)
      rw [hsz, Addr.add_add] at h2
      rw [h2]; exact hj
    · have := hwt ((((List.range len).map D).length + ((List.range (m - len)).map fun j => D (len + j)).length) * P.bytesOf e) (by simp [DataW.weights, ht])
      rw [hby] at this
      refine Nat.le_trans ?_ this
      refine Nat.mul_le_mul_right _ ?_
      simp
    · obtain ⟨i, hi⟩ := List.mem_iff_getElem?.1 hc
      have hil : i < len := by rw [← hlen]; exact (List.getElem?_eq_some_iff.1 hi).1
      refine ⟨n, _, (hcss i c hi).2, fun q hq => hwt q ?_⟩
      simp only [DataW.weights, ht, List.mem_cons, List.mem_append]
      exact .inr (.inl (weights_all hil hq))

theorem Dat.int {t : TypeId} {k : IntKind} {cs : List Value} (ht : P.underlying t = some (.int k)) (h : Dat enc P w base spare held t cs) : ∃ n, cs = [.int k n] ∧ (Lit.int k n).wf = true := by
  obtain ⟨fuel, x, hx, _⟩ := h
  obtain ⟨n, h1, _, h2⟩ := DataW.trod_int ht hx
  exact ⟨n, h1, h2⟩
theorem Dat.bool {t : TypeId} {cs : List Value} (ht : P.underlying t = some .bool) (h : Dat enc P w base spare held t cs) : ∃ b, cs = [.bool b] := by
  obtain ⟨fuel, x, hx, _⟩ := h
  obtain ⟨n, h1, _⟩ := DataW.trod_bool ht hx
  exact ⟨n, h1⟩
theorem Dat.str {t : TypeId} {cs : List Value} (ht : P.underlying t = some .string) (h : Dat enc P w base spare held t cs) : ∃ s : ByteArray, cs = [.string s] ∧ s.size ≤ reachBytes := by
  obtain ⟨fuel, x, hx, hw⟩ := h
  obtain ⟨s, h1, rfl, _⟩ := DataW.trod_string ht hx
  exact ⟨s, h1, by simpa using hw s.data.toList.length (by simp [DataW.weights])⟩

theorem Dat.sl {t e : TypeId} {cs : List Value} (ht : P.underlying t = some (.slice e)) (h : Dat enc P w base spare held t cs) : ∃ a n c, cs = [.slice a n c] := by
  obtain ⟨fuel, x, hx, _⟩ := h
  rcases Go.Deep.open_slice ht hx with ⟨hcs, _⟩ | ⟨ad, len', cap', m, n, D, Pl, hcs, _⟩
  · exact ⟨_, _, _, hcs⟩
  · exact ⟨_, _, _, hcs⟩

/-- A STRUCT: each field's cells, a datum of its own. -/
theorem Dat.field {t : TypeId} {fs : Array Field} {cs : List Value} (ht : P.underlying t = some (.struct fs)) (h : Dat enc P w base spare held t cs) :
    cs.length = P.cellsOf t ∧ ∀ (i : Nat) (f : Field), fs[i]? = some f → Dat enc P w base spare held f.type ((cs.drop f.offset).take (P.cellsOf f.type)) := by
  obtain ⟨fuel, x, hx, hw⟩ := h
  obtain ⟨xs, n, rfl, rfl, hl, hlen, hf⟩ := DataW.trod_struct ht hx
  refine ⟨hl, fun i f hi => ?_⟩
  have hil : i < xs.length := by rw [hlen]; exact (Array.getElem?_eq_some_iff.1 hi).1
  obtain ⟨y, hy⟩ : ∃ y, xs[i]? = some y := ⟨_, List.getElem?_eq_getElem hil⟩
  refine ⟨n, y, (hf i f hi).trans hy, fun m hm => hw m ?_⟩
  simp only [DataW.weights, ht]
  exact DataW.weights_mem_each (j := i) (t := f.type) (d := y.1) (by simp [hi]) (by simp [hy]) m hm

theorem Dat.fields {t : TypeId} {fs : Array Field} {cs : List Value} (tys : List (TypeId × Nat × Nat)) (ht : P.underlying t = some (.struct fs)) (hty : fs.toList.map (fun f => (f.type, f.offset, P.cellsOf f.type)) = tys) (N : Nat) (hN : P.cellsOf t = N) (h : Dat enc P w base spare held t cs) :
    cs.length = N ∧ ∀ (i : Nat) (t' o n : Nat), tys[i]? = some (t', o, n) → Dat enc P w base spare held t' ((cs.drop o).take n) := by
  obtain ⟨hl, hf⟩ := h.field ht
  refine ⟨hl.trans hN, fun i t' o n hi => ?_⟩
  rw [← hty, List.getElem?_map] at hi
  obtain ⟨f, hfi, he⟩ := Option.map_eq_some_iff.1 hi
  simp only [Prod.mk.injEq] at he
  obtain ⟨rfl, rfl, rfl⟩ := he
  exact hf i f (by simpa using hfi)

/-- an argument's reading, and the row's weights -/
theorem Dat.arg {ts : List TypeId} {ds : List (DataW H)} {j : Nat} {t : TypeId} {d : DataW H} {v : Value} {ps : List MemPlace} (hsz : (DataW.weightsEach P ts ds).all (· ≤ reachBytes) = true) (ht : ts[j]? = some t) (hd : ds[j]? = some d)
    (h : DataW.Trod enc P w base spare held t v d ps) : Dat enc P w base spare held t v.cells.toList := by
  obtain ⟨fuel, hf⟩ := h
  exact ⟨fuel, _, hf, fun n hn => by simpa using List.all_eq_true.1 hsz _ (DataW.weights_mem_each ht hd n hn)⟩

/-- a list of cells as the cells of a list -/
theorem list_of_cells {α : Type} {f : α → List Value} {Q : α → Prop} {css : List (List Value)} (h : ∀ c ∈ css, ∃ x, c = f x ∧ Q x) : ∃ S : List α, css = S.map f ∧ ∀ x ∈ S, Q x := by
  induction css with
  | nil => exact ⟨[], rfl, by simp⟩
  | cons c css ih =>
    obtain ⟨S, hS, hQ⟩ := ih fun c hc => h c (by simp [hc])
    obtain ⟨x, hx, hq⟩ := h c (by simp)
    refine ⟨x :: S, by simp [hS, hx], fun y hy => ?_⟩
    rcases List.mem_cons.1 hy with rfl | hy
    · exact hq
    · exact hQ y hy
end
end Go.Proofs.Ytdolaiejkobaiaa
