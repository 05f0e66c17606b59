/- Parts of a proof about the given program, in build order: WlkA, LibR, DentJ, DentK, DentL, ShelfSortKept, ShelfSortEnt, ShelfCmpInt, Shelf, DentM, DentN, WlkB, LibG. No condition. -/
import Derived.Test.YtbjibkjenleloaaGreatDoorMg02
import Derived.Test.YtbjibkjenleloaaGreatDoorMg00
import Derived.ProofKit
import Derived.OpenShut
import Derived.ShutString
import Derived.ChangeOld
import Derived.Below
import Derived.SizedLaws
import Derived.Deep.Slices
import Derived.Shelf.SlSortCmp.NoneTotal
import Derived.Ground.SlsfProg
import Derived.Ground.SlgcProg
import Derived.Shelf.SlicesG.Cmp
import Derived.Test.YtbjibkjenleloaaGreatDoorProg
import Derived.WalkKit
import Derived.Deep.RegionHeld3
section
namespace Go.Proofs.YtbjibkjenleloaaGreatDoor
set_option linter.unusedVariables false
set_option linter.unusedSimpArgs false
open Go.RowKit
attribute [local go_sem ↓] Go.wp_at_zero Go.wp_at_succ

/-! ### a row of nodes -/
def Nd.cells (x : Nd) : List Value := [.int .i64 x.id, .int .i64 x.kind, .int .i64 x.mode, .string x.target]
def Nd.v (x : Nd) : Value := .agg #[.int .i64 x.id, .int .i64 x.kind, .int .i64 x.mode, .string x.target]
def ncs (L : List Nd) : List Value := L.flatMap Nd.cells
theorem ncs_len (L : List Nd) : (ncs L).length = L.length * 4 := by
  induction L with
  | nil => rfl
  | cons x L ih => simp only [ncs, List.flatMap_cons, List.length_append] at ih ⊢; rw [ih]; simp [Nd.cells]; omega
theorem ncs_snoc (L : List Nd) (x : Nd) : ncs (L ++ [x]) = ncs L ++ [.int .i64 x.id, .int .i64 x.kind, .int .i64 x.mode, .string x.target] := by simp [ncs, Nd.cells]
theorem ncs_at : ∀ {L : List Nd} {k : Nat} {x : Nd}, L[k]? = some x → (ncs L)[k * 4]? = some (.int .i64 x.id) ∧ (ncs L)[k * 4 + 1]? = some (.int .i64 x.kind) ∧ (ncs L)[k * 4 + 2]? = some (.int .i64 x.mode) ∧ (ncs L)[k * 4 + 3]? = some (.string x.target)
  | [], k, x, h => by simp at h
  | y :: L, 0, x, h => by
    simp only [List.getElem?_cons_zero, Option.some.injEq] at h
    subst h
    simp [ncs, Nd.cells]
  | y :: L, k + 1, x, h => by
    have ih := ncs_at (L := L) (k := k) (x := x) (by simpa using h)
    have e : ∀ j, (ncs (y :: L))[(k + 1) * 4 + j]? = (ncs L)[k * 4 + j]? := fun j => by
      rw [show (k + 1) * 4 + j = 4 + (k * 4 + j) by omega]
      simp only [ncs, List.flatMap_cons]
      rw [List.getElem?_append_right (by simp [Nd.cells])]
      simp [Nd.cells]
    have e0 := e 0
    simp only [Nat.add_zero] at e0
    rw [e0, e 1, e 2, e 3]
    exact ih
theorem nd_at {w : World} {g n c m : Nat} {L : List Nd} (h : Rd w (.slice (some ⟨g, 0, none⟩) n c) m (ncs L)) {k : Nat} {x : Nd} (hk : L[k]? = some x) :
    w.cell? ⟨g, k * 4, none⟩ = some (.int .i64 x.id) ∧ w.cell? ⟨g, k * 4 + 1, none⟩ = some (.int .i64 x.kind) ∧ w.cell? ⟨g, k * 4 + 2, none⟩ = some (.int .i64 x.mode) ∧ w.cell? ⟨g, k * 4 + 3, none⟩ = some (.string x.target) := by
  obtain ⟨h0, h1, h2, h3⟩ := ncs_at hk
  have a0 := h.at _ _ h0; have a1 := h.at _ _ h1; have a2 := h.at _ _ h2; have a3 := h.at _ _ h3
  simp only [Nat.zero_add] at a0 a1 a2 a3
  exact ⟨a0, a1, a2, a3⟩
theorem infoNd : (Tryz.prog.info? 40).map (fun i => (i.zero, i.size, i.bytes)) = some (some (.agg #[.int .i64 0, .int .i64 0, .int .i64 0, .string ByteArray.empty]), 4, 40) := by kernel_rfl
theorem row_loc {w : World} {B e sz n : Nat} {a : Option Addr} {m c : Nat} {xs : List Value} (h : w.ownsRow B e sz (.slice a m c) n xs) (hL : 0 < n) : ∃ g, a = some ⟨g, 0, none⟩ ∧ B ≤ g ∧ g < w.heap.size ∧ n ≤ c ∧ c ≤ maxLen := by
  rcases h.2 with ⟨hv, h0⟩ | ⟨g, cap, cur, hv, hB, hg, h1, h2, _⟩
  · omega
  · simp only [Value.slice.injEq] at hv
    obtain ⟨rfl, _, rfl⟩ := hv
    exact ⟨g, rfl, hB, blk_lt hg, h1, h2⟩
theorem row_prefix {w : World} {B e sz n m g c : Nat} {xs : List Value} (h : w.ownsRow B e sz (.slice (some ⟨g, 0, none⟩) n c) n xs) (hm : m ≤ n) : w.ownsRow B e sz (.slice (some ⟨g, 0, none⟩) m c) m (xs.take (m * sz)) := by
  have hl := h.1
  have hmn : m * sz ≤ n * sz := Nat.mul_le_mul_right _ hm
  refine ⟨by rw [List.length_take]; omega, .inr ?_⟩
  rcases h.2 with ⟨hv, _⟩ | ⟨g', cap, cur, hv, hb, hg, h1, h2, h3, h4⟩
  · cases hv
  · simp only [Value.slice.injEq, Option.some.injEq, Addr.mk.injEq] at hv
    obtain ⟨⟨rfl, _⟩, _, rfl⟩ := hv
    refine ⟨g, c, cur, rfl, hb, hg, by omega, h2, h3, ?_⟩
    rw [← h4, List.take_take, Nat.min_eq_left hmn]
theorem ncs_take (L : List Nd) (n : Nat) : (ncs L).take (n * 4) = ncs (L.take n) := by
  induction L generalizing n with
  | nil => simp [ncs]
  | cons x L ih =>
    cases n with
    | zero => simp [ncs]
    | succ n =>
      have h := ih n
      simp only [ncs, List.flatMap_cons, List.take_succ_cons] at h ⊢
      rw [show (n + 1) * 4 = (Nd.cells x).length + n * 4 by simp [Nd.cells]; omega, List.take_append, List.take_of_length_le (by omega), Nat.add_sub_cancel_left, h]

/-- the root -/
def rootNd : Nd := ⟨1, 1, 0, ByteArray.empty⟩
set_option maxHeartbeats 400000 in
theorem root_any (w : World) : Calls Tryz.prog 142 #[] w fun e w' => e = .returned (.slice (some ⟨w.heap.size, 0, none⟩) 1 1) ∧ w'.ownsRow w.heap.size 40 4 (.slice (some ⟨w.heap.size, 0, none⟩) 1 1) 1 (ncs [rootNd]) ∧ Below w.heap.size w w' := by
  go_enter Tryz.func142, Tryz.ntmps142
  go_wp2
  go_ret
  exact ⟨rfl, ownsRow_of_whole (heap_new w _) rfl (Nat.le_refl _) (by simp [maxLen]), bl1 w _⟩

set_option maxHeartbeats 400000 in
theorem node_any (w : World) (B g c : Nat) (L1 : List Nd) (y : Nd) (h : w.ownsRow B 40 4 (.slice (some ⟨g, 0, none⟩) (L1.length + 1) c) (L1.length + 1) (ncs (L1 ++ [y]))) :
    Calls Tryz.prog 143 #[.slice (some ⟨g, 0, none⟩) (L1.length + 1) c] w fun e w' => e = .returned y.v ∧ Below w.heap.size w w' := by
  obtain ⟨m, hm⟩ : ∃ m, m = L1.length := ⟨_, rfl⟩
  have c1 := nd_at (Rd.own (own_alloc h (.cells #[.int .i64 0, .int .i64 0, .int .i64 0, .string { data := #[] }] 40))) (show (L1 ++ [y])[m]? = some y by rw [hm]; simp)
  have hl := (Rd.own h).len
  unfold maxLen at hl
  rw [← hm] at hl ⊢
  have hm0 : (0 : Int) ≤ (m : Int) := by omega
  have hm1 : (m : Int) < ((m + 1 : Nat) : Int) := by omega
  have hm2 : (m : Int) ≤ 9223372036854775806 := by omega
  have hw1 : IntKind.i64.wrap (((m + 1 : Nat) : Int) - 1) = (m : Int) := by rw [IntWalk.i64_in _ (by omega)]; omega
  clear h hm
  go_enter Tryz.func143, Tryz.ntmps143
  go_wp2
  refine bodyPost_ret (v := y.v) (by simp [results, Tryz.results143, go_sem, Nd.v]) rfl ⟨rfl, ?_⟩
  exact bl1 w _

set_option maxHeartbeats 400000 in
theorem up_any (w : World) (B g c : Nat) (L : List Nd) (h : w.ownsRow B 40 4 (.slice (some ⟨g, 0, none⟩) L.length c) L.length (ncs L)) (hL : 0 < L.length) :
    Calls Tryz.prog 144 #[.slice (some ⟨g, 0, none⟩) L.length c] w fun e w' => e = .returned (.slice (some ⟨g, 0, none⟩) (max 1 (L.length - 1)) c) ∧ w = w' := by
  obtain ⟨n, hn⟩ : ∃ n, n = L.length := ⟨_, rfl⟩
  have hl := (Rd.own h).len
  unfold maxLen at hl
  have hc : L.length ≤ c := by
    rcases h.2 with ⟨hv, _⟩ | ⟨g', cap, cur, hv, _, _, h1, _⟩
    · cases hv
    · simp only [Value.slice.injEq] at hv; obtain ⟨_, _, rfl⟩ := hv; exact h1
  rw [← hn] at hl hL hc ⊢
  clear h hn
  by_cases h1 : n = 1
  · subst h1
    go_enter Tryz.func144, Tryz.ntmps144
    go_wp2
    go_ret
    exact ⟨rfl, rfl⟩
  · obtain ⟨m, rfl⟩ : ∃ m, n = m + 2 := ⟨n - 2, by omega⟩
    have hw1 : IntKind.i64.wrap (((m + 2 : Nat) : Int) - 1) = ((m + 1 : Nat) : Int) := by rw [IntWalk.i64_in _ (by omega)]; omega
    have hm2 : (m : Int) + 1 ≤ 9223372036854775806 := by omega
    have hm0 : (0 : Int) ≤ (m : Int) := by omega
    have hmx : max (1 : Int) ((m : Int) + 1) = (m : Int) + 1 := by omega
    have hc1 : (m : Int) + 1 ≤ (c : Int) := by omega
    have hmn : max 1 (m + 2 - 1) = m + 1 := by omega
    have HMN := hid hmn
    clear hmn h1
    go_enter Tryz.func144, Tryz.ntmps144
    go_wp2
    go_ret
    rw [HMN.out]
    exact ⟨by show Ending.returned (Value.slice _ (max 1 ((m : Int) + 2 - 1)).toNat c) = _; rw [show (max 1 ((m : Int) + 2 - 1)).toNat = m + 1 by omega], rfl⟩

end Go.Proofs.YtbjibkjenleloaaGreatDoor

end

/- What a law's arguments read as: slices and structs opened into lists, with the row's own bound on their weight. -/
section
namespace Go.Proofs.YtbjibkjenleloaaGreatDoor
set_option linter.unusedVariables false
set_option linter.unusedSimpArgs false
open Go.RowKit Go.ChangeShapes Go.WideShapes

section
variable {H : Type} {enc : TypeId × Value → H} {P : Program} {w : World} {base : Nat} {spare : Nat → Bool} {held : Bool}

/-- a datum, read from cells, no part of it beyond the reach -/
def Dat (enc : TypeId × Value → H) (P : Program) (w : World) (base : Nat) (spare : Nat → Bool) (held : Bool) (t : TypeId) (cs : List Value) : Prop :=
  ∃ fuel x, DataW.trod enc P w base spare held fuel t cs = some x ∧ ∀ n ∈ x.1.weights P t, n ≤ reachBytes

theorem weights_all {e : TypeId} {D : Nat → DataW H} {n i : Nat} (hi : i < n) {m : Nat} (hm : m ∈ (D i).weights P e) : m ∈ DataW.weightsAll P e ((List.range n).map D) := by
  induction n with
  | zero => omega
  | succ n ih =>
    have happ : ∀ (a b : List (DataW H)), DataW.weightsAll P e (a ++ b) = DataW.weightsAll P e a ++ DataW.weightsAll P e b := by
      intro a b
      induction a with
      | nil => rfl
      | cons x a ih => simp [DataW.weightsAll, ih]
    rw [List.range_succ, List.map_append, happ, List.mem_append]
    by_cases h : i = n
    · subst h; right; simp [DataW.weightsAll, hm]
    · exact .inl (ih (by omega))

theorem list_of_index {α : Type} {n : Nat} {p : Nat → α → Prop} (h : ∀ i, i < n → ∃ x, p i x) : ∃ l : List α, l.length = n ∧ ∀ i x, l[i]? = some x → p i x := by
  induction n with
  | zero => exact ⟨[], rfl, by simp⟩
  | succ n ih =>
    obtain ⟨l, hl, hp⟩ := ih fun i hi => h i (by omega)
    obtain ⟨x, hx⟩ := h n (by omega)
    refine ⟨l ++ [x], by simp [hl], fun i y hy => ?_⟩
    by_cases hi : i < n
    · rw [List.getElem?_append_left (by omega)] at hy; exact hp i y hy
    · have hin : i = n := by
        have := (List.getElem?_eq_some_iff.1 hy).1; simp at this; omega
      subst hin
      rw [List.getElem?_append_right (by omega)] at hy
      simp [hl] at hy; subst hy; exact hx

theorem flatten_at {α : Type} {sz : Nat} : ∀ {css : List (List α)}, (∀ c ∈ css, c.length = sz) → ∀ {i : Nat} {c : List α}, css[i]? = some c → ∀ {j : Nat} {v : α}, c[j]? = some v → css.flatten[i * sz + j]? = some v
  | [], _, i, c, hi, j, v, hj => by simp at hi
  | c0 :: css, hl, 0, c, hi, j, v, hj => by
    simp at hi; subst hi
    simp only [Nat.zero_mul, Nat.zero_add, List.flatten_cons]
    rw [List.getElem?_append_left (List.getElem?_eq_some_iff.1 hj).1]; exact hj
  | c0 :: css, hl, i + 1, c, hi, j, v, hj => by
    have h0 : c0.length = sz := hl c0 (by simp)
    have := flatten_at (fun c hc => hl c (List.mem_cons_of_mem _ hc)) (by simpa using hi) hj
    rw [List.flatten_cons, List.getElem?_append_right (by rw [h0, Nat.add_mul]; omega)]
    rw [h0, show (i + 1) * sz + j - sz = i * sz + j by rw [Nat.add_mul]; omega]
    exact this

theorem at_flatten {α : Type} {sz : Nat} (hsz : 0 < sz) : ∀ {css : List (List α)}, (∀ c ∈ css, c.length = sz) → ∀ {k : Nat} {v : α}, css.flatten[k]? = some v → ∃ i j c, k = i * sz + j ∧ css[i]? = some c ∧ c[j]? = some v
  | [], _, k, v, h => by simp at h
  | c0 :: css, hl, k, v, h => by
    have h0 : c0.length = sz := hl c0 (by simp)
    by_cases hk : k < sz
    · rw [List.flatten_cons, List.getElem?_append_left (by omega)] at h
      exact ⟨0, k, c0, by omega, rfl, h⟩
    · rw [List.flatten_cons, List.getElem?_append_right (by omega)] at h
      obtain ⟨i, j, c, hk', hc, hj⟩ := at_flatten hsz (fun c hc => hl c (List.mem_cons_of_mem _ hc)) h
      exact ⟨i + 1, j, c, by rw [Nat.add_mul]; omega, by simpa using hc, hj⟩

/-- A SLICE: its elements' cells, each a datum of its own. -/
theorem Dat.slice {t e : TypeId} {sz by_ : Nat} {a : Option Addr} {len cap : Nat} (ht : P.underlying t = some (.slice e)) (hsz : P.cellsOf e = sz) (hpos : 0 < sz) (hby : P.bytesOf e = by_) (h : Dat enc P w base spare held t [.slice a len cap]) :
    ∃ css : List (List Value), css.length = len ∧ (∀ c ∈ css, c.length = sz) ∧ Rd w (.slice a len cap) len css.flatten ∧ len * by_ ≤ reachBytes ∧ ∀ c ∈ css, Dat enc P w base spare held e c := by
  obtain ⟨fuel, x, hx, hwt⟩ := h
  rcases Go.Deep.open_slice ht hx with ⟨hcs, _⟩ | ⟨ad, len', cap', m, n, D, Pl, hcs, hb, hl, hm, hme, rfl, hel⟩
  · simp only [List.cons.injEq, Value.slice.injEq, and_true] at hcs
    obtain ⟨rfl, rfl, rfl⟩ := hcs
    exact ⟨[], rfl, by simp, .inl ⟨rfl, rfl, rfl⟩, by simp, by simp⟩
  · simp only [List.cons.injEq, Value.slice.injEq, and_true] at hcs
    obtain ⟨rfl, rfl, rfl⟩ := hcs
    have hlm : len ≤ m := by rw [hme]; split <;> omega
    obtain ⟨css, hlen, hcss⟩ := list_of_index (n := len) (p := fun i c => w.cells? base (ad.add (i * P.cellsOf e)) (P.cellsOf e) = some c ∧ DataW.trod enc P w base spare held n e c = some (D i, Pl i)) fun i hi => hel i (by omega)
    have hc1 : ∀ c ∈ css, c.length = sz := fun c hc => by
      obtain ⟨i, hi⟩ := List.mem_iff_getElem?.1 hc
      rw [← hsz]; exact (World.cells?_some (hcss i c hi).1).2.1
    refine ⟨css, hlen, hc1, .inr ⟨ad, cap, rfl, hl, hm, fun k v hk => ?_⟩, ?_, fun c hc => ?_⟩
    · obtain ⟨i, j, c, rfl, hc, hj⟩ := at_flatten hpos hc1 hk
      have h1 := World.cells?_some (hcss i c hc).1
      have h2 := h1.2.2 j (by have := (List.getElem?_eq_some_iff.1 hj).1; have := hc1 c (List.mem_of_getElem? hc); omega)
      rw [hsz, Addr.add_add] at h2
      rw [h2]; exact hj
    · have := hwt ((((List.range len).map D).length + ((List.range (m - len)).map fun j => D (len + j)).length) * P.bytesOf e) (by simp [DataW.weights, ht])
      rw [hby] at this
      refine Nat.le_trans ?_ this
      refine Nat.mul_le_mul_right _ ?_
      simp
    · obtain ⟨i, hi⟩ := List.mem_iff_getElem?.1 hc
      have hil : i < len := by rw [← hlen]; exact (List.getElem?_eq_some_iff.1 hi).1
      refine ⟨n, _, (hcss i c hi).2, fun q hq => hwt q ?_⟩
      simp only [DataW.weights, ht, List.mem_cons, List.mem_append]
      exact .inr (.inl (weights_all hil hq))

theorem Dat.int {t : TypeId} {k : IntKind} {cs : List Value} (ht : P.underlying t = some (.int k)) (h : Dat enc P w base spare held t cs) : ∃ n, cs = [.int k n] ∧ (Lit.int k n).wf = true := by
  obtain ⟨fuel, x, hx, _⟩ := h
  obtain ⟨n, h1, _, h2⟩ := DataW.trod_int ht hx
  exact ⟨n, h1, h2⟩
theorem Dat.bool {t : TypeId} {cs : List Value} (ht : P.underlying t = some .bool) (h : Dat enc P w base spare held t cs) : ∃ b, cs = [.bool b] := by
  obtain ⟨fuel, x, hx, _⟩ := h
  obtain ⟨n, h1, _⟩ := DataW.trod_bool ht hx
  exact ⟨n, h1⟩
theorem Dat.str {t : TypeId} {cs : List Value} (ht : P.underlying t = some .string) (h : Dat enc P w base spare held t cs) : ∃ s : ByteArray, cs = [.string s] ∧ s.size ≤ reachBytes := by
  obtain ⟨fuel, x, hx, hw⟩ := h
  obtain ⟨s, h1, rfl, _⟩ := DataW.trod_string ht hx
  exact ⟨s, h1, by simpa using hw s.data.toList.length (by simp [DataW.weights])⟩

theorem Dat.sl {t e : TypeId} {cs : List Value} (ht : P.underlying t = some (.slice e)) (h : Dat enc P w base spare held t cs) : ∃ a n c, cs = [.slice a n c] := by
  obtain ⟨fuel, x, hx, _⟩ := h
  rcases Go.Deep.open_slice ht hx with ⟨hcs, _⟩ | ⟨ad, len', cap', m, n, D, Pl, hcs, _⟩
  · exact ⟨_, _, _, hcs⟩
  · exact ⟨_, _, _, hcs⟩

/-- A STRUCT: each field's cells, a datum of its own. -/
theorem Dat.field {t : TypeId} {fs : Array Field} {cs : List Value} (ht : P.underlying t = some (.struct fs)) (h : Dat enc P w base spare held t cs) :
    cs.length = P.cellsOf t ∧ ∀ (i : Nat) (f : Field), fs[i]? = some f → Dat enc P w base spare held f.type ((cs.drop f.offset).take (P.cellsOf f.type)) := by
  obtain ⟨fuel, x, hx, hw⟩ := h
  obtain ⟨xs, n, rfl, rfl, hl, hlen, hf⟩ := DataW.trod_struct ht hx
  refine ⟨hl, fun i f hi => ?_⟩
  have hil : i < xs.length := by rw [hlen]; exact (Array.getElem?_eq_some_iff.1 hi).1
  obtain ⟨y, hy⟩ : ∃ y, xs[i]? = some y := ⟨_, List.getElem?_eq_getElem hil⟩
  refine ⟨n, y, (hf i f hi).trans hy, fun m hm => hw m ?_⟩
  simp only [DataW.weights, ht]
  exact DataW.weights_mem_each (j := i) (t := f.type) (d := y.1) (by simp [hi]) (by simp [hy]) m hm

theorem Dat.fields {t : TypeId} {fs : Array Field} {cs : List Value} (tys : List (TypeId × Nat × Nat)) (ht : P.underlying t = some (.struct fs)) (hty : fs.toList.map (fun f => (f.type, f.offset, P.cellsOf f.type)) = tys) (N : Nat) (hN : P.cellsOf t = N) (h : Dat enc P w base spare held t cs) :
    cs.length = N ∧ ∀ (i : Nat) (t' o n : Nat), tys[i]? = some (t', o, n) → Dat enc P w base spare held t' ((cs.drop o).take n) := by
  obtain ⟨hl, hf⟩ := h.field ht
  refine ⟨hl.trans hN, fun i t' o n hi => ?_⟩
  rw [← hty, List.getElem?_map] at hi
  obtain ⟨f, hfi, he⟩ := Option.map_eq_some_iff.1 hi
  simp only [Prod.mk.injEq] at he
  obtain ⟨rfl, rfl, rfl⟩ := he
  exact hf i f (by simpa using hfi)

/-- an argument's reading, and the row's weights -/
theorem Dat.arg {ts : List TypeId} {ds : List (DataW H)} {j : Nat} {t : TypeId} {d : DataW H} {v : Value} {ps : List MemPlace} (hsz : (DataW.weightsEach P ts ds).all (· ≤ reachBytes) = true) (ht : ts[j]? = some t) (hd : ds[j]? = some d)
    (h : DataW.Trod enc P w base spare held t v d ps) : Dat enc P w base spare held t v.cells.toList := by
  obtain ⟨fuel, hf⟩ := h
  exact ⟨fuel, _, hf, fun n hn => by simpa using List.all_eq_true.1 hsz _ (DataW.weights_mem_each ht hd n hn)⟩

/-- a list of cells as the cells of a list -/
theorem list_of_cells {α : Type} {f : α → List Value} {Q : α → Prop} {css : List (List Value)} (h : ∀ c ∈ css, ∃ x, c = f x ∧ Q x) : ∃ S : List α, css = S.map f ∧ ∀ x ∈ S, Q x := by
  induction css with
  | nil => exact ⟨[], rfl, by simp⟩
  | cons c css ih =>
    obtain ⟨S, hS, hQ⟩ := ih fun c hc => h c (by simp [hc])
    obtain ⟨x, hx, hq⟩ := h c (by simp)
    refine ⟨x :: S, by simp [hS, hx], fun y hy => ?_⟩
    rcases List.mem_cons.1 hy with rfl | hy
    · exact hq
    · exact hQ y hy
end
end Go.Proofs.YtbjibkjenleloaaGreatDoor

end

section
namespace Go.Proofs.YtbjibkjenleloaaGreatDoor
set_option linter.unusedVariables false
set_option linter.unusedSimpArgs false
open Go.RowKit
attribute [local go_sem ↓] Go.wp_at_zero Go.wp_at_succ

def nA : ByteArray := { data := #[97] }
def E0 : En := ⟨⟨1, nA⟩, false, ⟨2, 1, 0, ByteArray.empty⟩⟩
theorem e0v : E0.v = .agg #[.int .i64 1, .string { data := #[97] }, .bool false, .int .i64 2, .int .i64 1, .int .i64 0, .string { data := #[] }] := rfl
theorem zev : zeroE.v = .agg #[.int .i64 0, .string { data := #[] }, .bool false, .int .i64 0, .int .i64 0, .int .i64 0, .string { data := #[] }] := rfl
theorem getn : getE E0.key [] = zeroE := by kernel_rfl
theorem findn : (findL E0.key []).isSome = false := by kernel_rfl
theorem cutw0 : cutWh [E0.key] (fun d' => (fun _ => false) d' || (1 : Int) == d') 1 = false := by kernel_rfl
theorem put0 : putL E0 [] = [E0] := by kernel_rfl
theorem find0 : (findL E0.key [E0]).isSome = true := by kernel_rfl
theorem get0 : getE E0.key [E0] = E0 := by kernel_rfl
theorem cut0 : cutE [E0.key] [E0] = [] := by kernel_rfl

def e0c : Obj := .cells #[.int .i64 1, .string { data := #[97] }, .bool false, .int .i64 2, .int .i64 1, .int .i64 0, .string { data := #[] }] 55

end Go.Proofs.YtbjibkjenleloaaGreatDoor

end

section
namespace Go.Proofs.YtbjibkjenleloaaGreatDoor
set_option linter.unusedVariables false
set_option linter.unusedSimpArgs false
open Go.RowKit

/-- a call of a script -/
structure Dop where
  kind : Int
  dir : Int
  e : En
  a : Option Addr
  c : Nat
  ks : List Ky

def Dop.kv (x : Dop) : Value := .slice x.a x.ks.length x.c
def Dop.cells (x : Dop) : List Value := [.int .i64 x.kind, .int .i64 x.dir, .int .i64 x.e.key.dir, .string x.e.key.name, .bool x.e.neg, .int .i64 x.e.node.id, .int .i64 x.e.node.kind, .int .i64 x.e.node.mode, .string x.e.node.target, x.kv]
def dcs (S : List Dop) : List Value := S.flatMap Dop.cells

theorem flatMap_len {α : Type} {f : α → List Value} {sz : Nat} (hf : ∀ x, (f x).length = sz) (S : List α) : (S.flatMap f).length = S.length * sz := by
  induction S with
  | nil => simp
  | cons x S ih => rw [List.flatMap_cons, List.length_append, ih, hf, List.length_cons, Nat.add_mul]; omega
theorem flatMap_at {α : Type} {f : α → List Value} {sz : Nat} (hf : ∀ x, (f x).length = sz) {S : List α} {k : Nat} {x : α} (h : S[k]? = some x) {j : Nat} {v : Value} (hj : (f x)[j]? = some v) : (S.flatMap f)[k * sz + j]? = some v := by
  rw [List.flatMap_def]
  exact flatten_at (fun c hc => by obtain ⟨y, _, rfl⟩ := List.mem_map.1 hc; exact hf y) (by rw [List.getElem?_map, h]; rfl) hj
theorem dcs_len (S : List Dop) : (dcs S).length = S.length * 10 := flatMap_len (f := Dop.cells) (sz := 10) (fun _ => rfl) S
theorem dcs_one (S : List Dop) : ∀ u ∈ dcs S, u.oneCell' = true := by
  intro u hu
  simp only [dcs, List.mem_flatMap, Dop.cells] at hu
  obtain ⟨x, _, hx⟩ := hu
  simp at hx
  rcases hx with rfl | rfl | rfl | rfl | rfl | rfl | rfl | rfl | rfl | rfl <;> rfl

/-- a script in memory -/
structure ScrD (w : World) (v : Value) (S : List Dop) : Prop where
  row : Rd w v S.length (dcs S)
  each : ∀ x ∈ S, Rd w x.kv x.ks.length (kyc x.ks)

theorem ScrD.loc {w : World} {sa : Option Addr} {sc : Nat} {S : List Dop} (h : ScrD w (.slice sa S.length sc) S) (hS : 0 < S.length) : ∃ b off, sa = some ⟨b, off, none⟩ := by
  obtain ⟨b, off, cap, hv, _⟩ := h.row.form (by rw [dcs_len]; omega)
  simp only [Value.slice.injEq] at hv
  exact ⟨b, off, hv.1⟩

theorem Rd.cellB {w wr : World} {b off n c m : Nat} {cs : List Value} (h : Rd w (.slice (some ⟨b, off, none⟩) n c) m cs) (hb : Below w.heap.size w wr) {i : Nat} {v : Value} (hi : cs[i]? = some v) : wr.cell? ⟨b, off + i, none⟩ = some v :=
  below_cell hb (Nat.le_refl _) (h.at _ _ hi)

theorem scrD_at {w wr : World} {b off sc : Nat} {S : List Dop} (h : ScrD w (.slice (some ⟨b, off, none⟩) S.length sc) S) (hb : Below w.heap.size w wr) {k : Nat} {x : Dop} (hx : S[k]? = some x) :
    wr.cell? ⟨b, off + k * 10, none⟩ = some (.int .i64 x.kind) ∧ wr.cell? ⟨b, off + k * 10 + 1, none⟩ = some (.int .i64 x.dir) ∧ wr.cell? ⟨b, off + k * 10 + 2, none⟩ = some (.int .i64 x.e.key.dir) ∧ wr.cell? ⟨b, off + k * 10 + 3, none⟩ = some (.string x.e.key.name) ∧ wr.cell? ⟨b, off + k * 10 + 4, none⟩ = some (.bool x.e.neg) ∧
    wr.cell? ⟨b, off + k * 10 + 5, none⟩ = some (.int .i64 x.e.node.id) ∧ wr.cell? ⟨b, off + k * 10 + 6, none⟩ = some (.int .i64 x.e.node.kind) ∧ wr.cell? ⟨b, off + k * 10 + 7, none⟩ = some (.int .i64 x.e.node.mode) ∧ wr.cell? ⟨b, off + k * 10 + 8, none⟩ = some (.string x.e.node.target) ∧ wr.cell? ⟨b, off + k * 10 + 9, none⟩ = some (.slice x.a x.ks.length x.c) := by
  have g : ∀ (j : Nat) (v : Value), x.cells[j]? = some v → wr.cell? ⟨b, off + k * 10 + j, none⟩ = some v := fun j v hj => by
    rw [Nat.add_assoc]; exact h.row.cellB hb (flatMap_at (f := Dop.cells) (sz := 10) (fun _ => rfl) hx hj)
  exact ⟨g 0 _ rfl, g 1 _ rfl, g 2 _ rfl, g 3 _ rfl, g 4 _ rfl, g 5 _ rfl, g 6 _ rfl, g 7 _ rfl, g 8 _ rfl, g 9 _ rfl⟩

/-- key k of a call of a script -/
theorem ks_at {w wr : World} {b off n c m : Nat} {ks : List Ky} (h : Rd w (.slice (some ⟨b, off, none⟩) n c) m (kyc ks)) (hb : Below w.heap.size w wr) {k : Nat} {x : Ky} (hx : ks[k]? = some x) :
    wr.cell? ⟨b, off + k * 2, none⟩ = some (.int .i64 x.dir) ∧ wr.cell? ⟨b, off + k * 2 + 1, none⟩ = some (.string x.name) := by
  have h2 := kyc_at hx
  exact ⟨h.cellB hb h2.1, by rw [Nat.add_assoc]; exact h.cellB hb h2.2⟩
theorem ks_loc {w : World} {sa : Option Addr} {n c : Nat} {ks : List Ky} (h : Rd w (.slice sa n c) n (kyc ks)) (hS : 0 < ks.length) : ∃ b off, sa = some ⟨b, off, none⟩ := by
  obtain ⟨b, off, cap, hv, _⟩ := h.form (by rw [kyc_len]; omega)
  simp only [Value.slice.injEq] at hv
  exact ⟨b, off, hv.1⟩

section
variable {H : Type} {enc : TypeId × Value → H} {w : World} {base : Nat} {spare : Nat → Bool} {held : Bool}

theorem key_of {c : List Value} (h : Dat enc Tryz.prog w base spare held 53 c) : ∃ x : Ky, c = x.cells ∧ x.name.size ≤ reachBytes := by
  obtain ⟨hl, hf⟩ := h.fields [(3, 0, 1), (9, 1, 1)] Tryz.underlying53 (by kernel_rfl) 2 (by kernel_rfl)
  match c, hl with
  | [c0, c1], _ =>
    have f0 := hf 0 _ _ _ rfl
    have f1 := hf 1 _ _ _ rfl
    simp only [List.drop_zero, List.drop_succ_cons, List.take_succ_cons, List.take_zero] at f0 f1
    obtain ⟨k, e0, _⟩ := f0.int Tryz.underlying3
    obtain ⟨s, e1, h1⟩ := f1.str Tryz.underlying9
    simp only [List.cons.injEq, and_true] at e0 e1
    subst e0 e1
    exact ⟨⟨k, s⟩, rfl, h1⟩

theorem node_of {c : List Value} (h : Dat enc Tryz.prog w base spare held 40 c) : ∃ x : Nd, c = [.int .i64 x.id, .int .i64 x.kind, .int .i64 x.mode, .string x.target] := by
  obtain ⟨hl, hf⟩ := h.fields [(3, 0, 1), (3, 1, 1), (3, 2, 1), (9, 3, 1)] Tryz.underlying40 (by kernel_rfl) 4 (by kernel_rfl)
  match c, hl with
  | [c0, c1, c2, c3], _ =>
    have f0 := hf 0 _ _ _ rfl
    have f1 := hf 1 _ _ _ rfl
    have f2 := hf 2 _ _ _ rfl
    have f3 := hf 3 _ _ _ rfl
    simp only [List.drop_zero, List.drop_succ_cons, List.take_succ_cons, List.take_zero] at f0 f1 f2 f3
    obtain ⟨k, e0, _⟩ := f0.int Tryz.underlying3
    obtain ⟨k1, e1, _⟩ := f1.int Tryz.underlying3
    obtain ⟨k2, e2, _⟩ := f2.int Tryz.underlying3
    obtain ⟨s, e3, h1⟩ := f3.str Tryz.underlying9
    simp only [List.cons.injEq, and_true] at e0 e1 e2 e3
    subst e0 e1 e2 e3
    exact ⟨⟨k, k1, k2, s⟩, rfl⟩

theorem entry_of {c : List Value} (h : Dat enc Tryz.prog w base spare held 55 c) : ∃ x : En, c = x.cells := by
  obtain ⟨hl, hf⟩ := h.fields [(53, 0, 2), (4, 2, 1), (40, 3, 4)] Tryz.underlying55 (by kernel_rfl) 7 (by kernel_rfl)
  match c, hl with
  | [c0, c1, c2, c3, c4, c5, c6], _ =>
    have f0 := hf 0 _ _ _ rfl
    have f1 := hf 1 _ _ _ rfl
    have f2 := hf 2 _ _ _ rfl
    simp only [List.drop_zero, List.drop_succ_cons, List.take_succ_cons, List.take_zero] at f0 f1 f2
    obtain ⟨k, e0, _⟩ := key_of f0
    obtain ⟨b, e1⟩ := f1.bool Tryz.underlying4
    obtain ⟨n, e2⟩ := node_of f2
    simp only [Ky.cells, List.cons.injEq, and_true] at e0 e1 e2
    obtain ⟨e0, e0'⟩ := e0
    obtain ⟨e2, e3, e4, e5⟩ := e2
    subst e0 e0' e1 e2 e3 e4 e5
    exact ⟨⟨k, b, n⟩, rfl⟩

theorem keys_of {a : Option Addr} {n c : Nat} (h : Dat enc Tryz.prog w base spare held 48 [.slice a n c]) : ∃ ks : List Ky, n = ks.length ∧ Rd w (.slice a n c) ks.length (kyc ks) ∧ ks.length * 24 ≤ 140737488351232 := by
  obtain ⟨css, hl, _, hr, hb, hd⟩ := h.slice (sz := 2) (by_ := 24) Tryz.underlying48 (by kernel_rfl) (by decide) (by kernel_rfl)
  obtain ⟨S, rfl, hS⟩ := list_of_cells (f := Ky.cells) (Q := fun _ => True) fun c hc => by obtain ⟨x, hx, _⟩ := key_of (hd c hc); exact ⟨x, hx, trivial⟩
  rw [List.length_map] at hl
  subst hl
  refine ⟨S, rfl, ?_, by unfold reachBytes at hb; omega⟩
  rw [kyc, List.flatMap_def]; exact hr


end
end Go.Proofs.YtbjibkjenleloaaGreatDoor

end

section
namespace Go.Proofs.YtbjibkjenleloaaGreatDoor
set_option linter.unusedVariables false
set_option linter.unusedSimpArgs false
open Go.RowKit
attribute [local go_sem ↓] Go.wp_at_zero Go.wp_at_succ

theorem blk10 {w : World} {k t : Nat} {x0 x1 x2 x3 x4 x5 x6 x7 x8 x9 : Value} (h : w.heap[k]? = some (.cells #[x0, x1, x2, x3, x4, x5, x6, x7, x8, x9] t (0, 0))) :
    w.cell? ⟨k, 0, none⟩ = some x0 ∧ w.cell? ⟨k, 1, none⟩ = some x1 ∧ w.cell? ⟨k, 2, none⟩ = some x2 ∧ w.cell? ⟨k, 3, none⟩ = some x3 ∧ w.cell? ⟨k, 4, none⟩ = some x4 ∧ w.cell? ⟨k, 5, none⟩ = some x5 ∧ w.cell? ⟨k, 6, none⟩ = some x6 ∧ w.cell? ⟨k, 7, none⟩ = some x7 ∧ w.cell? ⟨k, 8, none⟩ = some x8 ∧ w.cell? ⟨k, 9, none⟩ = some x9 ∧ w.frozen? ⟨k, 0, none⟩ = false ∧ w.frozen? ⟨k, 1, none⟩ = false ∧ w.frozen? ⟨k, 2, none⟩ = false ∧ w.frozen? ⟨k, 3, none⟩ = false ∧ w.frozen? ⟨k, 4, none⟩ = false ∧ w.frozen? ⟨k, 5, none⟩ = false ∧ w.frozen? ⟨k, 6, none⟩ = false ∧ w.frozen? ⟨k, 7, none⟩ = false ∧ w.frozen? ⟨k, 8, none⟩ = false ∧ w.frozen? ⟨k, 9, none⟩ = false := by
  simp [World.cell?, World.frozen?, h]

theorem box_keep {w w' : World} {B p k : Nat} {o : Obj} (hg : Chg (CF B p) w w') (hk : p < k) (h : w.heap[k]? = some o) : w'.heap[k]? = some o := heap_chg hg h (fun e => by have := e.2; omega)
theorem CF.low {B p : Nat} : ∀ i, i < B → ¬ CF B p i := fun i hi h => by have := h.1; omega


end Go.Proofs.YtbjibkjenleloaaGreatDoor

end

/- A contract of the library's at this program, laid by the shelf's tool (lay-plain.mjs): slices.SortFunc[[]vista/dent.kept,vista/dent.kept]. -/
section
namespace Go.Proofs
open Go.Shelf
def Tryz.sortKept_ren : Go.Shelf.Ren := ⟨fun | 6 => 69 | 15 => 107 | 14 => 106 | 28 => 131 | 29 => 132 | 20 => 123 | 21 => 124 | 22 => 125 | 23 => 126 | 24 => 127 | 25 => 128 | 26 => 129 | 27 => 130 | 46 => 148 | 47 => 149 | 48 => 150 | 49 => 151 | 50 => 152 | 57 => 160 | n => n, fun | 22 => 140 | 24 => 142 | 25 => 144 | 3 => 3 | 39 => 168 | 0 => 0 | 53 => 191 | 55 => 193 | 4 => 4 | 46 => 184 | 45 => 183 | 50 => 188 | 5 => 5 | 9 => 9 | 66 => 214 | 70 => 218 | 76 => 225 | 77 => 226 | n => n, fun | n => n⟩
theorem Tryz.sortKept : Go.Proofs.SlLaysF0.n6 Tryz.prog Tryz.sortKept_ren := {
  mixed := by kernel_rfl
  f6 := ⟨Tryz.f69.name, by decide, Tryz.func69.trans (congrArg some (by kernel_rfl))⟩
  f14 := ⟨Tryz.f106.name, by decide, Tryz.func106.trans (congrArg some (by kernel_rfl))⟩
  f15 := Tryz.func107.trans (congrArg some (by kernel_rfl))
  f20 := ⟨Tryz.f123.name, by decide, Tryz.func123.trans (congrArg some (by kernel_rfl))⟩
  f21 := ⟨Tryz.f124.name, by decide, Tryz.func124.trans (congrArg some (by kernel_rfl))⟩
  f22 := ⟨Tryz.f125.name, by decide, Tryz.func125.trans (congrArg some (by kernel_rfl))⟩
  f23 := ⟨Tryz.f126.name, by decide, Tryz.func126.trans (congrArg some (by kernel_rfl))⟩
  f24 := ⟨Tryz.f127.name, by decide, Tryz.func127.trans (congrArg some (by kernel_rfl))⟩
  f25 := ⟨Tryz.f128.name, by decide, Tryz.func128.trans (congrArg some (by kernel_rfl))⟩
  f26 := ⟨Tryz.f129.name, by decide, Tryz.func129.trans (congrArg some (by kernel_rfl))⟩
  f27 := ⟨Tryz.f130.name, by decide, Tryz.func130.trans (congrArg some (by kernel_rfl))⟩
  f28 := Tryz.func131.trans (congrArg some (by kernel_rfl))
  f29 := Tryz.func132.trans (congrArg some (by kernel_rfl))
  f46 := ⟨Tryz.f148.name, by decide, Tryz.func148.trans (congrArg some (by kernel_rfl))⟩
  f47 := Tryz.func149.trans (congrArg some (by kernel_rfl))
  f48 := Tryz.func150.trans (congrArg some (by kernel_rfl))
  f49 := ⟨Tryz.f151.name, by decide, Tryz.func151.trans (congrArg some (by kernel_rfl))⟩
  f50 := ⟨Tryz.f152.name, by decide, Tryz.func152.trans (congrArg some (by kernel_rfl))⟩
  f57 := ⟨Tryz.f160.name, by decide, Tryz.func160.trans (congrArg some (by kernel_rfl))⟩
  t0 := Tryz.underlying0
  a0 := Tryz.isAgg0
  z0 := Tryz.sizeOf0
  v0 := Tryz.zeroValue0
  t3 := Tryz.underlying3
  a3 := Tryz.isAgg3
  z3 := Tryz.sizeOf3
  v3 := Tryz.zeroValue3
  t4 := Tryz.underlying4
  a4 := Tryz.isAgg4
  z4 := Tryz.sizeOf4
  v4 := Tryz.zeroValue4
  t5 := Tryz.underlying5
  a5 := Tryz.isAgg5
  z5 := Tryz.sizeOf5
  v5 := Tryz.zeroValue5
  t9 := Tryz.underlying9
  a9 := Tryz.isAgg9
  z9 := Tryz.sizeOf9
  v9 := Tryz.zeroValue9
  t22 := Tryz.underlying140
  a22 := Tryz.isAgg140
  z22 := Tryz.sizeOf140
  v22 := Tryz.zeroValue140
  t25 := Tryz.underlying144
  a25 := Tryz.isAgg144
  z25 := Tryz.sizeOf144
  v25 := Tryz.zeroValue144
  t39 := Tryz.underlying168
  a39 := Tryz.isAgg168
  z39 := Tryz.sizeOf168
  v39 := Tryz.zeroValue168
  t45 := Tryz.underlying183
  a45 := Tryz.isAgg183
  z45 := Tryz.sizeOf183
  v45 := Tryz.zeroValue183
  t46 := Tryz.underlying184
  a46 := Tryz.isAgg184
  z46 := Tryz.sizeOf184
  v46 := Tryz.zeroValue184
  t50 := Tryz.underlying188
  a50 := Tryz.isAgg188
  z50 := Tryz.sizeOf188
  v50 := Tryz.zeroValue188
  t53 := Tryz.underlying191
  a53 := Tryz.isAgg191
  z53 := Tryz.sizeOf191
  v53 := Tryz.zeroValue191
  t55 := Tryz.underlying193
  a55 := Tryz.isAgg193
  z55 := Tryz.sizeOf193
  v55 := Tryz.zeroValue193
  t66 := Tryz.underlying214
  a66 := Tryz.isAgg214
  z66 := Tryz.sizeOf214
  v66 := Tryz.zeroValue214
  t70 := Tryz.underlying218
  a70 := Tryz.isAgg218
  z70 := Tryz.sizeOf218
  v70 := Tryz.zeroValue218
  t76 := Tryz.underlying225
  a76 := Tryz.isAgg225
  z76 := Tryz.sizeOf225
  v76 := Tryz.zeroValue225
  t77 := Tryz.underlying226
  a77 := Tryz.isAgg226
  z77 := Tryz.sizeOf226
  v77 := Tryz.zeroValue226 }
end Go.Proofs

end

/- A contract of the library's at this program, laid by the shelf's tool (lay-plain.mjs): slices.SortFunc[[]vista/api.Entry,vista/api.Entry]. -/
section
namespace Go.Proofs
open Go.Shelf
def Tryz.sortEnt_ren : Go.Shelf.Ren := ⟨fun | 6 => 137 | 15 => 107 | 14 => 158 | 28 => 131 | 29 => 132 | 20 => 169 | 21 => 170 | 22 => 171 | 23 => 172 | 24 => 173 | 25 => 174 | 26 => 175 | 27 => 176 | 46 => 182 | 47 => 149 | 48 => 150 | 49 => 183 | 50 => 184 | 57 => 187 | n => n, fun | 22 => 47 | 24 => 55 | 25 => 199 | 3 => 3 | 39 => 168 | 0 => 0 | 53 => 191 | 55 => 193 | 4 => 4 | 46 => 184 | 45 => 183 | 50 => 188 | 5 => 5 | 9 => 9 | 66 => 214 | 70 => 218 | 76 => 225 | 77 => 226 | n => n, fun | n => n⟩
theorem Tryz.sortEnt : Go.Proofs.SlLaysF0.n6 Tryz.prog Tryz.sortEnt_ren := {
  mixed := by kernel_rfl
  f6 := ⟨Tryz.f137.name, by decide, Tryz.func137.trans (congrArg some (by kernel_rfl))⟩
  f14 := ⟨Tryz.f158.name, by decide, Tryz.func158.trans (congrArg some (by kernel_rfl))⟩
  f15 := Tryz.func107.trans (congrArg some (by kernel_rfl))
  f20 := ⟨Tryz.f169.name, by decide, Tryz.func169.trans (congrArg some (by kernel_rfl))⟩
  f21 := ⟨Tryz.f170.name, by decide, Tryz.func170.trans (congrArg some (by kernel_rfl))⟩
  f22 := ⟨Tryz.f171.name, by decide, Tryz.func171.trans (congrArg some (by kernel_rfl))⟩
  f23 := ⟨Tryz.f172.name, by decide, Tryz.func172.trans (congrArg some (by kernel_rfl))⟩
  f24 := ⟨Tryz.f173.name, by decide, Tryz.func173.trans (congrArg some (by kernel_rfl))⟩
  f25 := ⟨Tryz.f174.name, by decide, Tryz.func174.trans (congrArg some (by kernel_rfl))⟩
  f26 := ⟨Tryz.f175.name, by decide, Tryz.func175.trans (congrArg some (by kernel_rfl))⟩
  f27 := ⟨Tryz.f176.name, by decide, Tryz.func176.trans (congrArg some (by kernel_rfl))⟩
  f28 := Tryz.func131.trans (congrArg some (by kernel_rfl))
  f29 := Tryz.func132.trans (congrArg some (by kernel_rfl))
  f46 := ⟨Tryz.f182.name, by decide, Tryz.func182.trans (congrArg some (by kernel_rfl))⟩
  f47 := Tryz.func149.trans (congrArg some (by kernel_rfl))
  f48 := Tryz.func150.trans (congrArg some (by kernel_rfl))
  f49 := ⟨Tryz.f183.name, by decide, Tryz.func183.trans (congrArg some (by kernel_rfl))⟩
  f50 := ⟨Tryz.f184.name, by decide, Tryz.func184.trans (congrArg some (by kernel_rfl))⟩
  f57 := ⟨Tryz.f187.name, by decide, Tryz.func187.trans (congrArg some (by kernel_rfl))⟩
  t0 := Tryz.underlying0
  a0 := Tryz.isAgg0
  z0 := Tryz.sizeOf0
  v0 := Tryz.zeroValue0
  t3 := Tryz.underlying3
  a3 := Tryz.isAgg3
  z3 := Tryz.sizeOf3
  v3 := Tryz.zeroValue3
  t4 := Tryz.underlying4
  a4 := Tryz.isAgg4
  z4 := Tryz.sizeOf4
  v4 := Tryz.zeroValue4
  t5 := Tryz.underlying5
  a5 := Tryz.isAgg5
  z5 := Tryz.sizeOf5
  v5 := Tryz.zeroValue5
  t9 := Tryz.underlying9
  a9 := Tryz.isAgg9
  z9 := Tryz.sizeOf9
  v9 := Tryz.zeroValue9
  t22 := Tryz.underlying47
  a22 := Tryz.isAgg47
  z22 := Tryz.sizeOf47
  v22 := Tryz.zeroValue47
  t25 := Tryz.underlying199
  a25 := Tryz.isAgg199
  z25 := Tryz.sizeOf199
  v25 := Tryz.zeroValue199
  t39 := Tryz.underlying168
  a39 := Tryz.isAgg168
  z39 := Tryz.sizeOf168
  v39 := Tryz.zeroValue168
  t45 := Tryz.underlying183
  a45 := Tryz.isAgg183
  z45 := Tryz.sizeOf183
  v45 := Tryz.zeroValue183
  t46 := Tryz.underlying184
  a46 := Tryz.isAgg184
  z46 := Tryz.sizeOf184
  v46 := Tryz.zeroValue184
  t50 := Tryz.underlying188
  a50 := Tryz.isAgg188
  z50 := Tryz.sizeOf188
  v50 := Tryz.zeroValue188
  t53 := Tryz.underlying191
  a53 := Tryz.isAgg191
  z53 := Tryz.sizeOf191
  v53 := Tryz.zeroValue191
  t55 := Tryz.underlying193
  a55 := Tryz.isAgg193
  z55 := Tryz.sizeOf193
  v55 := Tryz.zeroValue193
  t66 := Tryz.underlying214
  a66 := Tryz.isAgg214
  z66 := Tryz.sizeOf214
  v66 := Tryz.zeroValue214
  t70 := Tryz.underlying218
  a70 := Tryz.isAgg218
  z70 := Tryz.sizeOf218
  v70 := Tryz.zeroValue218
  t76 := Tryz.underlying225
  a76 := Tryz.isAgg225
  z76 := Tryz.sizeOf225
  v76 := Tryz.zeroValue225
  t77 := Tryz.underlying226
  a77 := Tryz.isAgg226
  z77 := Tryz.sizeOf226
  v77 := Tryz.zeroValue226 }
end Go.Proofs

end

/- A contract of the library's at this program, laid by the shelf's tool (lay-plain.mjs): cmp.Compare[int]. -/
section
namespace Go.Proofs
open Go.Shelf
def Tryz.cmpInt_ren : Go.Shelf.Ren := ⟨fun | 5 => 71 | 7 => 108 | n => n, fun | 22 => 3 | 3 => 3 | 4 => 4 | n => n, fun | n => n⟩
theorem Tryz.cmpInt : Go.Proofs.SlLaysC2.n5 Tryz.prog Tryz.cmpInt_ren := {
  mixed := by kernel_rfl
  f5 := ⟨Tryz.f71.name, by decide, Tryz.func71.trans (congrArg some (by kernel_rfl))⟩
  f7 := ⟨Tryz.f108.name, by decide, Tryz.func108.trans (congrArg some (by kernel_rfl))⟩
  t3 := Tryz.underlying3
  a3 := Tryz.isAgg3
  z3 := Tryz.sizeOf3
  v3 := Tryz.zeroValue3
  t4 := Tryz.underlying4
  a4 := Tryz.isAgg4
  z4 := Tryz.sizeOf4
  v4 := Tryz.zeroValue4
  t22 := Tryz.underlying3
  a22 := Tryz.isAgg3
  z22 := Tryz.sizeOf3
  v22 := Tryz.zeroValue3 }
end Go.Proofs

end

/- The library's contracts that the dent texts lean on. -/
section
end

section
namespace Go.Proofs.YtbjibkjenleloaaGreatDoor
set_option linter.unusedVariables false
set_option linter.unusedSimpArgs false
open Go.RowKit
open Go.Sort (PermIn SortedIn grow grow_grow alloc_eq_grow putCells mapBlock onCells flatK get_flatK size_flatK HoldsK putRowK)
attribute [local go_sem ↓] Go.wp_at_zero Go.wp_at_succ

/-! ### a sorted row -/

theorem flatK_list {α : Type} [Inhabited α] {f : α → List Value} {sz : Nat} (hf : ∀ x, (f x).length = sz) (d : List α) : (flatK f sz d.toArray).toList = d.flatMap f := by
  apply List.ext_getElem?
  intro t
  by_cases ht : t < d.length * sz
  · have hsz : 0 < sz := by
      rcases Nat.eq_zero_or_pos sz with h | h
      · subst h; omega
      · exact h
    have hi : t / sz < d.length := Nat.div_lt_of_lt_mul (by rw [Nat.mul_comm]; exact ht)
    have hj : t % sz < (f d[t / sz]).length := by rw [hf]; exact Nat.mod_lt _ hsz
    have e : t / sz * sz + t % sz = t := Nat.div_add_mod' t sz
    have h1 := flatMap_at hf (List.getElem?_eq_getElem hi) (List.getElem?_eq_getElem hj)
    rw [e] at h1
    rw [h1]
    have h2 := get_flatK f sz d.toArray t (by simpa using ht)
    have h3 : t < (flatK f sz d.toArray).size := by simpa using ht
    rw [getElem!_pos (flatK f sz d.toArray) t h3] at h2
    rw [Array.getElem?_toList, Array.getElem?_eq_getElem h3, h2]
    have h4 : (d.toArray[t / sz]!) = d[t / sz] := by simp [hi]
    rw [h4]
    congr 1
    rw [getElem!_pos (f d[t / sz]) (t % sz) hj]
  · rw [List.getElem?_eq_none (by simp; omega), List.getElem?_eq_none (by rw [flatMap_len hf]; omega)]

theorem take_putCells (F cur : Array Value) (h : F.size ≤ cur.size) : (putCells id 0 F cur).toList.take F.size = F.toList := by
  apply List.ext_getElem?
  intro t
  by_cases ht : t < F.size
  · rw [List.getElem?_take_of_lt ht, Array.getElem?_toList, Array.getElem?_toList]
    unfold putCells
    have h1 : t < cur.size := by omega
    simp [h1, ht]
  · rw [List.getElem?_eq_none (by simp; omega), List.getElem?_eq_none (by simp; omega)]

theorem holdsK_own {α : Type} [Inhabited α] {f : α → List Value} {sz : Nat} (hf : ∀ x, (f x).length = sz) {w : World} {B e n c g : Nat} {L : List α} (h : w.ownsRow B e sz (.slice (some ⟨g, 0, none⟩) n c) n (L.flatMap f)) : HoldsK f sz w g 0 L.toArray := by
  intro j hj
  rw [size_flatK] at hj
  have hl : (L.flatMap f).length = L.length * sz := flatMap_len hf L
  have hr := Rd.own h
  have h1 := hr.at j ((L.flatMap f)[j]'(by rw [hl]; simpa using hj)) (List.getElem?_eq_getElem _)
  refine ⟨?_, ?_⟩
  · rw [h1]
    congr 1
    have h3 : j < (flatK f sz L.toArray).size := by simpa using hj
    rw [getElem!_pos (flatK f sz L.toArray) j h3]
    have h4 := flatK_list hf L
    have h5 : (flatK f sz L.toArray)[j] = (flatK f sz L.toArray).toList[j]'(by simpa using h3) := by simp
    rw [id, h5]; simp only [h4, id]
    rw [hl]
  · rcases h.2 with ⟨hv, _⟩ | ⟨g', cap, cur, hv, hB, hg, _⟩
    · simp at hv
    · simp only [Value.slice.injEq, Option.some.injEq, Addr.mk.injEq] at hv
      obtain ⟨⟨rfl, _⟩, _⟩ := hv
      exact blk_free hg _

theorem own_sort {α : Type} [Inhabited α] {f : α → List Value} {sz : Nat} (hf : ∀ x, (f x).length = sz) {w : World} {B e n c g m : Nat} {L M : List α} {os : Array Obj} (h : w.ownsRow B e sz (.slice (some ⟨g, 0, none⟩) n c) n (L.flatMap f)) (hM : M.length = L.length) :
    (sortWorldK f sz w g 0 m M.toArray os).ownsRow B e sz (.slice (some ⟨g, 0, none⟩) n c) n (M.flatMap f) ∧ Chg (fun k => k = g) w (sortWorldK f sz w g 0 m M.toArray os) := by
  have hlL : (L.flatMap f).length = L.length * sz := flatMap_len hf L
  have hlM : (M.flatMap f).length = M.length * sz := flatMap_len hf M
  rcases h.2 with ⟨hv, _⟩ | ⟨g', cap, cur, hv, hB, hg, h1, h2, h3, h4⟩
  · simp at hv
  · simp only [Value.slice.injEq, Option.some.injEq, Addr.mk.injEq] at hv
    obtain ⟨⟨rfl, _⟩, _, rfl⟩ := hv
    have hlt := blk_lt hg
    have hn : L.length * sz = n * sz := by rw [← hlL]; exact h.1
    have hcur : n * sz ≤ cur.size := by rw [h3]; exact Nat.mul_le_mul_right _ h1
    have hmod : ∀ k, (sortWorldK f sz w g 0 m M.toArray os).heap[k]? = if k < w.heap.size then (w.heap.modify g (onCells (putCells id 0 (flatK f sz M.toArray))))[k]? else os[k - w.heap.size]? := by
      intro k
      unfold sortWorldK putRowK Go.Sort.putRow mapBlock grow Go.Sort.ahead
      simp only
      rw [Array.getElem?_append]
      simp
    refine ⟨⟨by rw [hlM, hM]; exact hn, .inr ⟨g, c, putCells id 0 (flatK f sz M.toArray) cur, rfl, hB, ?_, h1, h2, ?_, ?_⟩⟩, ⟨rfl, rfl, rfl, ?_, ?_⟩⟩
    · rw [hmod g, if_pos hlt, Array.getElem?_modify, if_pos rfl, hg]; rfl
    · unfold putCells; simp [h3]
    · rw [← flatK_list hf M, ← take_putCells (flatK f sz M.toArray) cur (by simp [hM]; omega)]
      congr 1
      simp [hM]; exact hn.symm
    · exact size_sortWorldK_c f sz w g 0 m M.toArray os
    · intro k hk hne
      rw [hmod k, if_pos hk, Array.getElem?_modify, if_neg (fun e => hne e.symm)]

theorem perm_sorted {α : Type} [Inhabited α] {lt : α → α → Bool} {L : List α} {d' : Array α} (hp : PermIn 0 L.toArray.size L.toArray d') (hs : SortedIn lt 0 L.toArray.size d') : d'.toList.Perm L ∧ d'.toList.Pairwise (fun x y => lt y x = false) := by
  obtain ⟨h1, _, h3⟩ := hp
  refine ⟨?_, ?_⟩
  · have e1 : d'.extract 0 L.toArray.size = d' := by rw [← h1]; simp
    have e2 : L.toArray.extract 0 L.toArray.size = L.toArray := by simp
    rw [e1, e2] at h3; simpa using h3
  · rw [List.pairwise_iff_getElem]
    intro i j hi hj hij
    have := hs i j (Nat.zero_le _) hij (by rw [← h1]; simpa using hj)
    rw [getElem!_pos _ _ (by simpa using hj), getElem!_pos _ _ (by simpa using hi)] at this
    simpa using this

end Go.Proofs.YtbjibkjenleloaaGreatDoor

end

section
namespace Go.Proofs.YtbjibkjenleloaaGreatDoor
set_option linter.unusedVariables false
set_option linter.unusedSimpArgs false
open Go.RowKit
open Go.Sort (PermIn SortedIn grow grow_grow alloc_eq_grow SWO)
attribute [local go_sem ↓] Go.wp_at_zero Go.wp_at_succ

instance : Inhabited Ke := ⟨⟨zeroE, 0, 0⟩⟩
instance : Inhabited En := ⟨zeroE⟩

def Ke.cells (x : Ke) : List Value := [.int .i64 x.e.key.dir, .string x.e.key.name, .bool x.e.neg, .int .i64 x.e.node.id, .int .i64 x.e.node.kind, .int .i64 x.e.node.mode, .string x.e.node.target, .int .i64 x.used]
def kvs (L : List Ke) : List Value := L.flatMap Ke.cells
def ecs (L : List En) : List Value := L.flatMap En.cells
theorem kvs_len (L : List Ke) : (kvs L).length = L.length * 8 := flatMap_len (f := Ke.cells) (sz := 8) (fun _ => rfl) L
theorem ecs_len (L : List En) : (ecs L).length = L.length * 7 := flatMap_len (f := En.cells) (sz := 7) (fun _ => rfl) L
theorem kvs_snoc (L : List Ke) (x : Ke) : kvs (L ++ [x]) = kvs L ++ x.cells := by simp [kvs]
theorem ecs_snoc (L : List En) (x : En) : ecs (L ++ [x]) = ecs L ++ x.cells := by simp [ecs]
theorem Ke.one (x : Ke) : ∀ u ∈ x.cells, u.oneCell' = true := by
  intro u hu; simp [Ke.cells] at hu; rcases hu with rfl | rfl | rfl | rfl | rfl | rfl | rfl | rfl <;> rfl
theorem En.one (x : En) : ∀ u ∈ x.cells, u.oneCell' = true := by
  intro u hu; simp [En.cells] at hu; rcases hu with rfl | rfl | rfl | rfl | rfl | rfl | rfl <;> rfl
theorem infoKe : (Tryz.prog.info? 142).map (fun i => (i.zero, i.size, i.bytes)) = some (some (.agg #[.int .i64 0, .string ByteArray.empty, .bool false, .int .i64 0, .int .i64 0, .int .i64 0, .string ByteArray.empty, .int .i64 0]), 8, 80) := by kernel_rfl
theorem infoEn : (Tryz.prog.info? 55).map (fun i => (i.zero, i.size, i.bytes)) = some (some (.agg #[.int .i64 0, .string ByteArray.empty, .bool false, .int .i64 0, .int .i64 0, .int .i64 0, .string ByteArray.empty]), 7, 72) := by kernel_rfl

/-! ### the two comparisons -/
def cmpU (x y : Ke) : Int := Lib.compareInt x.used y.used
theorem ltU (x y : Ke) : ltOf cmpU x y = decide (x.used < y.used) := by
  unfold ltOf cmpU Lib.compareInt
  by_cases h1 : x.used < y.used
  · simp [h1]
  · by_cases h2 : y.used < x.used <;> simp [h1, h2]
theorem swoU : SWO (ltOf cmpU) where
  irrefl x := by rw [ltU]; simp
  trans x y z h1 h2 := by rw [ltU] at *; simp at *; omega
  ntrans x y z h1 h2 := by rw [ltU] at *; simp at *; omega

set_option maxHeartbeats 1000000 in
theorem closeU (x y : Ke) (W : World) : Calls Tryz.prog 70 #[.agg #[.int .i64 x.e.key.dir, .string x.e.key.name, .bool x.e.neg, .int .i64 x.e.node.id, .int .i64 x.e.node.kind, .int .i64 x.e.node.mode, .string x.e.node.target, .int .i64 x.used], .agg #[.int .i64 y.e.key.dir, .string y.e.key.name, .bool y.e.neg, .int .i64 y.e.node.id, .int .i64 y.e.node.kind, .int .i64 y.e.node.mode, .string y.e.node.target, .int .i64 y.used]] W
    fun e w' => e = .returned (.int .i64 (cmpU x y)) ∧ ∃ q os', w' = grow (W.drewN q) os' := by
  have hcon := fun W' => AnyG.cmp_Compare_int Tryz.cmpInt x.used y.used W'
  change ∀ W', Calls Tryz.prog 71 _ _ _ at hcon
  unfold cmpU
  generalize Lib.compareInt x.used y.used = r at hcon ⊢
  go_enter Tryz.func70, Tryz.ntmps70
  go_wp2_with (go_at_call 71; refine (hcon _).mono ?_; rintro e w' ⟨rfl, rfl⟩)
  go_ret
  exact ⟨rfl, 0, _, by rw [alloc_eq_grow, alloc_eq_grow, grow_grow]; rfl⟩

/-! ### names -/
def nmLt (a b : ByteArray) : Bool := Op.bytesLess a.toList b.toList
theorem bl_irrefl : ∀ l : List UInt8, Op.bytesLess l l = false
  | [] => rfl
  | a :: l => by simp [Op.bytesLess, bl_irrefl l]
theorem bl_total : ∀ l m : List UInt8, Op.bytesLess l m = false → Op.bytesLess m l = false → l = m
  | [], [], _, _ => rfl
  | [], _ :: _, h, _ => by simp [Op.bytesLess] at h
  | _ :: _, [], _, h => by simp [Op.bytesLess] at h
  | a :: l, b :: m, h1, h2 => by
    simp only [Op.bytesLess, Bool.or_eq_false_iff, Bool.and_eq_false_iff, decide_eq_false_iff_not, beq_eq_false_iff_ne] at h1 h2
    have hab : a = b := by
      apply UInt8.le_antisymm
      · exact UInt8.not_lt.1 h2.1
      · exact UInt8.not_lt.1 h1.1
    subst hab
    have h3 := h1.2; have h4 := h2.2
    simp at h3 h4
    rw [bl_total l m h3 h4]
theorem bl_trans : ∀ l m n : List UInt8, Op.bytesLess l m = true → Op.bytesLess m n = true → Op.bytesLess l n = true
  | l, m, [], _, h => by cases m <;> simp [Op.bytesLess] at h
  | [], _, _ :: _, _, _ => rfl
  | a :: l, [], _ :: _, h, _ => by simp [Op.bytesLess] at h
  | a :: l, b :: m, c :: n, h1, h2 => by
    simp only [Op.bytesLess, Bool.or_eq_true, Bool.and_eq_true, decide_eq_true_eq, beq_iff_eq] at h1 h2 ⊢
    rcases h1 with h1 | ⟨rfl, h1⟩ <;> rcases h2 with h2 | ⟨rfl, h2⟩
    · exact .inl (UInt8.lt_trans h1 h2)
    · exact .inl h1
    · exact .inl h2
    · exact .inr ⟨rfl, bl_trans l m n h1 h2⟩
theorem nm_irrefl (a : ByteArray) : nmLt a a = false := bl_irrefl _
theorem nm_trans {a b c : ByteArray} (h1 : nmLt a b = true) (h2 : nmLt b c = true) : nmLt a c = true := bl_trans _ _ _ h1 h2
theorem toList_inj {a b : ByteArray} (h : a.toList = b.toList) : a = b := by
  have := bytes_beq a b
  rw [h] at this
  simpa using this.symm
theorem nm_total {a b : ByteArray} (h1 : nmLt a b = false) (h2 : nmLt b a = false) : a = b := toList_inj (bl_total _ _ h1 h2)
theorem nm_asymm {a b : ByteArray} (h : nmLt a b = true) : nmLt b a = false := by
  cases h2 : nmLt b a with
  | false => rfl
  | true => have := nm_trans h h2; rw [nm_irrefl] at this; cases this

def cmpS (a b : ByteArray) : Int := if nmLt a b = true then -1 else if (nmLt a b || a.toList == b.toList) = true then 0 else 1
def cmpN (x y : En) : Int := cmpS x.key.name y.key.name
theorem ltN (x y : En) : ltOf cmpN x y = nmLt x.key.name y.key.name := by
  unfold ltOf cmpN cmpS
  cases h1 : nmLt x.key.name y.key.name
  · by_cases h2 : (x.key.name.toList == y.key.name.toList) = true <;> simp [h2]
  · simp
theorem swoN : SWO (ltOf cmpN) where
  irrefl x := by rw [ltN]; exact nm_irrefl _
  trans x y z h1 h2 := by rw [ltN] at *; exact nm_trans h1 h2
  ntrans x y z h1 h2 := by
    rw [ltN] at *
    cases h3 : nmLt x.key.name z.key.name with
    | false => rfl
    | true =>
      cases h4 : nmLt y.key.name x.key.name with
      | true => have := nm_trans h4 h3; rw [h2] at this; cases this
      | false => have := nm_total h1 h4; rw [this, h2] at h3; cases h3

set_option maxHeartbeats 1000000 in
theorem cmp_string (a b : ByteArray) (w : World) : Calls Tryz.prog 139 #[.string a, .string b] w fun e w' => e = .returned (.int .i64 (cmpS a b)) ∧ w = w' := by
  unfold cmpS nmLt
  have hnan : ∀ (s : ByteArray) (w : World), Calls Tryz.prog 159 #[.string s] w fun e w' => e = .returned (.bool false) ∧ w = w' := by
    intro s w
    have hs : (s.toList == s.toList) = true := by simp
    go_enter Tryz.func159, Tryz.ntmps159
    go_wp2
    go_ret
    exact ⟨by simp, rfl⟩
  cases h1 : Op.bytesLess a.toList b.toList with
  | true =>
    go_enter Tryz.func139, Tryz.ntmps139
    go_wp2_with (go_at_call 159; refine (hnan _ _).mono ?_; rintro e wx ⟨rfl, rfl⟩)
    go_ret
    exact ⟨rfl, rfl⟩
  | false =>
    cases h2 : (a.toList == b.toList) with
    | true =>
      go_enter Tryz.func139, Tryz.ntmps139
      go_wp2_with (go_at_call 159; refine (hnan _ _).mono ?_; rintro e wx ⟨rfl, rfl⟩)
      go_ret
      exact ⟨rfl, rfl⟩
    | false =>
      go_enter Tryz.func139, Tryz.ntmps139
      go_wp2_with (go_at_call 159; refine (hnan _ _).mono ?_; rintro e wx ⟨rfl, rfl⟩)
      go_ret
      exact ⟨rfl, rfl⟩

set_option maxHeartbeats 1000000 in
theorem closeN (x y : En) (W : World) : Calls Tryz.prog 138 #[.agg #[.int .i64 x.key.dir, .string x.key.name, .bool x.neg, .int .i64 x.node.id, .int .i64 x.node.kind, .int .i64 x.node.mode, .string x.node.target], .agg #[.int .i64 y.key.dir, .string y.key.name, .bool y.neg, .int .i64 y.node.id, .int .i64 y.node.kind, .int .i64 y.node.mode, .string y.node.target]] W
    fun e w' => e = .returned (.int .i64 (cmpN x y)) ∧ ∃ q os', w' = grow (W.drewN q) os' := by
  unfold cmpN
  go_enter Tryz.func138, Tryz.ntmps138
  go_wp2_with (go_at_call 139; refine (cmp_string _ _ _).mono ?_; rintro e w' ⟨rfl, rfl⟩)
  go_ret
  exact ⟨rfl, 0, _, by rw [alloc_eq_grow, alloc_eq_grow, grow_grow]; rfl⟩

/-! ### sorting a row -/
theorem Chg.of_eq {F : Nat → Prop} {w w' : World} (h : w = w') : Chg F w w' := h ▸ Chg.refl _ _

theorem sort_used (w : World) (B : Nat) (a : Option Addr) (c : Nat) (L : List Ke) (h : w.ownsRow B 142 8 (.slice a L.length c) L.length (kvs L)) (hn : L.length < 4611686018427387904) :
    Calls Tryz.prog 69 #[.slice a L.length c, .func (.func 70) #[] #[]] w fun e w' => e = .returned (.tuple #[]) ∧ ∃ M : List Ke, M.Perm L ∧ M.Pairwise (fun x y => ¬ y.used < x.used) ∧ w'.ownsRow B 142 8 (.slice a M.length c) M.length (kvs M) ∧ Chg (fun k => B ≤ k) w w' := by
  by_cases h0 : 0 < L.length
  · obtain ⟨g, rfl, hBg, hgz, _, _⟩ := own_loc h h0
    have eg : ∀ args w, (callFunc 70 args).run Tryz.prog w = .ok (.enter 70 args) w := enters_of Tryz.func70 (by kernel_rfl) rfl
    have hcon := AnyQ.slices_SortFunc Tryz.sortKept 8 Tryz.isAgg142 Tryz.sizeOf142 Ke.cells (fun _ => rfl) (fun x => Ke.one x) cmpU swoU 70 #[] g 0 c L.toArray w eg (fun _ _ _ _ x y => closeU x y _) (holdsK_own (f := Ke.cells) (sz := 8) (fun _ => rfl) h) hgz (by simpa using hn)
    change Calls Tryz.prog 69 _ _ _ at hcon
    have e1 : (L.toArray.size) = L.length := by simp
    rw [e1] at hcon
    refine hcon.mono ?_
    rintro e w' ⟨rfl, d', n, os, hp, hs, rfl⟩
    have hp' : PermIn 0 L.toArray.size L.toArray d' := by rw [e1]; exact hp
    have hs' : SortedIn (ltOf cmpU) 0 L.toArray.size d' := by rw [e1]; exact hs
    obtain ⟨p1, p2⟩ := perm_sorted hp' hs'
    have hlen := p1.length_eq
    obtain ⟨o1, o2⟩ := own_sort (M := d'.toList) (m := n) (os := os) (f := Ke.cells) (sz := 8) (fun _ => rfl) h hlen
    refine ⟨rfl, d'.toList, p1, p2.imp (fun {x y} hxy => by rw [ltU] at hxy; simpa using hxy), ?_, o2.mono (fun i _ hi => by subst hi; exact hBg)⟩
    rw [hlen]; exact o1
  · have hl : L.length = 0 := by omega
    have hcon := AnyF.slices_SortFunc_none { Tryz.sortKept with } a c (.func (.func 70) #[] #[]) w
    change Calls Tryz.prog 69 _ _ _ at hcon
    rw [hl]
    refine hcon.mono ?_
    rintro e w' ⟨rfl, rfl⟩
    exact ⟨rfl, L, List.Perm.refl _, by rw [List.length_eq_zero_iff.1 hl]; exact List.Pairwise.nil, h, Chg.refl _ _⟩

theorem sort_names (w : World) (B : Nat) (a : Option Addr) (c : Nat) (L : List En) (h : w.ownsRow B 55 7 (.slice a L.length c) L.length (ecs L)) (hn : L.length < 4611686018427387904) :
    Calls Tryz.prog 137 #[.slice a L.length c, .func (.func 138) #[] #[]] w fun e w' => e = .returned (.tuple #[]) ∧ ∃ M : List En, M.Perm L ∧ M.Pairwise (fun x y => nmLt y.key.name x.key.name = false) ∧ w'.ownsRow B 55 7 (.slice a M.length c) M.length (ecs M) ∧ Chg (fun k => B ≤ k) w w' := by
  by_cases h0 : 0 < L.length
  · obtain ⟨g, rfl, hBg, hgz, _, _⟩ := own_loc h h0
    have eg : ∀ args w, (callFunc 138 args).run Tryz.prog w = .ok (.enter 138 args) w := enters_of Tryz.func138 (by kernel_rfl) rfl
    have hcon := AnyQ.slices_SortFunc Tryz.sortEnt 7 Tryz.isAgg55 Tryz.sizeOf55 En.cells (fun _ => rfl) (fun x => En.one x) cmpN swoN 138 #[] g 0 c L.toArray w eg (fun _ _ _ _ x y => closeN x y _) (holdsK_own (f := En.cells) (sz := 7) (fun _ => rfl) h) hgz (by simpa using hn)
    change Calls Tryz.prog 137 _ _ _ at hcon
    have e1 : (L.toArray.size) = L.length := by simp
    rw [e1] at hcon
    refine hcon.mono ?_
    rintro e w' ⟨rfl, d', n, os, hp, hs, rfl⟩
    have hp' : PermIn 0 L.toArray.size L.toArray d' := by rw [e1]; exact hp
    have hs' : SortedIn (ltOf cmpN) 0 L.toArray.size d' := by rw [e1]; exact hs
    obtain ⟨p1, p2⟩ := perm_sorted hp' hs'
    have hlen := p1.length_eq
    obtain ⟨o1, o2⟩ := own_sort (M := d'.toList) (m := n) (os := os) (f := En.cells) (sz := 7) (fun _ => rfl) h hlen
    refine ⟨rfl, d'.toList, p1, p2.imp (fun {x y} hxy => by rw [ltN] at hxy; exact hxy), ?_, o2.mono (fun i _ hi => by subst hi; exact hBg)⟩
    rw [hlen]; exact o1
  · have hl : L.length = 0 := by omega
    have hcon := AnyF.slices_SortFunc_none { Tryz.sortEnt with } a c (.func (.func 138) #[] #[]) w
    change Calls Tryz.prog 137 _ _ _ at hcon
    rw [hl]
    refine hcon.mono ?_
    rintro e w' ⟨rfl, rfl⟩
    exact ⟨rfl, L, List.Perm.refl _, by rw [List.length_eq_zero_iff.1 hl]; exact List.Pairwise.nil, h, Chg.refl _ _⟩

theorem uniq_sorted {α : Type} {r : α → α → Prop} : ∀ {M M0 : List α}, M.Perm M0 → M0.Pairwise r → M.Pairwise (fun x y => ¬ r y x) → M = M0
  | M, [], hp, _, _ => by simpa using hp
  | [], x :: T, hp, _, _ => by have := hp.length_eq; simp at this
  | y :: M, x :: T, hp, h0, h1 => by
    rw [List.pairwise_cons] at h0 h1
    have hxy : y = x := by
      rcases List.mem_cons.1 (hp.mem_iff.2 (List.mem_cons_self (a := x) (l := T))) with h | h
      · exact h.symm
      · rcases List.mem_cons.1 (hp.mem_iff.1 (List.mem_cons_self (a := y) (l := M))) with h2 | h2
        · exact h2
        · exact absurd (h0.1 y h2) (h1.1 x h)
    subst hxy
    rw [uniq_sorted (List.Perm.cons_inv hp) h0.2 h1.2]

end Go.Proofs.YtbjibkjenleloaaGreatDoor

end

section
namespace Go.Proofs.YtbjibkjenleloaaGreatDoor
set_option linter.unusedVariables false
set_option linter.unusedSimpArgs false
open Go.RowKit
attribute [local go_sem ↓] Go.wp_at_zero Go.wp_at_succ

set_option maxHeartbeats 400000 in
theorem close_key (q : Nat) (k : Ky) (x : En) (w : World) (hq : w.heap[q]? = some (.cells #[.int .i64 k.dir, .string k.name] 53 (0, 0))) :
    Calls Tryz.prog 213 #[x.v, .pointer (some ⟨q, 0, none⟩)] w fun e w' => e = .returned (.bool (isK k x)) ∧ Below w.heap.size w w' := by
  have bx := blk7 (heap_new w (.cells #[.int .i64 x.key.dir, .string x.key.name, .bool x.neg, .int .i64 x.node.id, .int .i64 x.node.kind, .int .i64 x.node.mode, .string x.node.target] 55))
  have b0 := blk2 (heap_old hq (.cells #[.int .i64 x.key.dir, .string x.key.name, .bool x.neg, .int .i64 x.node.id, .int .i64 x.node.kind, .int .i64 x.node.mode, .string x.node.target] 55))
  have heq := fun W => eqIn_key x.key.dir k.dir x.key.name k.name W
  have HI := hid (show isK k x = (decide (x.key.dir = k.dir) && decide (x.key.name = k.name)) by
    unfold isK
    rw [Bool.eq_iff_iff, Bool.and_eq_true, decide_eq_true_iff, decide_eq_true_iff, decide_eq_true_iff]
    exact ⟨fun h => by rw [h]; exact ⟨rfl, rfl⟩, fun ⟨h1, h2⟩ => by cases k; cases hx : x.key; rw [hx] at h1 h2; simp only at h1 h2; rw [h1, h2]⟩)
  unfold En.v
  clear hq
  go_enter Tryz.func213, Tryz.ntmps213
  go_wp2_with fail
  go_ret
  exact ⟨by rw [HI.out]; rfl, bl1 w _⟩

/-- a row of entries, at any place -/
theorem ens_at {w wr : World} {b off n c m : Nat} {L : List En} (h : Rd w (.slice (some ⟨b, off, none⟩) n c) m (ecs L)) (hb : Below w.heap.size w wr) {k : Nat} {x : En} (hx : L[k]? = some x) :
    wr.cell? ⟨b, off + k * 7, none⟩ = some (.int .i64 x.key.dir) ∧ wr.cell? ⟨b, off + k * 7 + 1, none⟩ = some (.string x.key.name) ∧ wr.cell? ⟨b, off + k * 7 + 2, none⟩ = some (.bool x.neg) ∧ wr.cell? ⟨b, off + k * 7 + 3, none⟩ = some (.int .i64 x.node.id) ∧ wr.cell? ⟨b, off + k * 7 + 4, none⟩ = some (.int .i64 x.node.kind) ∧ wr.cell? ⟨b, off + k * 7 + 5, none⟩ = some (.int .i64 x.node.mode) ∧ wr.cell? ⟨b, off + k * 7 + 6, none⟩ = some (.string x.node.target) := by
  have g0 : ∀ (i : Nat) (v : Value), x.cells[i]? = some v → wr.cell? ⟨b, off + k * 7 + i, none⟩ = some v := fun i v hi => by
    have := (h.below hb).at _ _ (flatMap_at (f := En.cells) (sz := 7) (fun _ => rfl) hx hi)
    rw [← Nat.add_assoc] at this
    exact this
  exact ⟨g0 0 _ rfl, g0 1 _ rfl, g0 2 _ rfl, g0 3 _ rfl, g0 4 _ rfl, g0 5 _ rfl, g0 6 _ rfl⟩
theorem ens_len (L : List En) : (ecs L).length = L.length * 7 := flatMap_len (f := En.cells) (sz := 7) (fun _ => rfl) L
theorem ens_loc {w : World} {a : Option Addr} {n c m : Nat} {L : List En} (h : Rd w (.slice a n c) m (ecs L)) (hl : 0 < L.length) : ∃ b o, a = some ⟨b, o, none⟩ := by
  obtain ⟨b, o, c', hv, _⟩ := h.form (by rw [ens_len]; omega)
  simp only [Value.slice.injEq] at hv
  exact ⟨b, o, hv.1⟩

set_option maxHeartbeats 1000000 in
theorem index_list (v : Value) (L : List En) (k0 : Ky) (q : Nat) (w : World) (hv : Rd w v L.length (ecs L)) (hq : w.heap[q]? = some (.cells #[.int .i64 k0.dir, .string k0.name] 53 (0, 0))) :
    Calls Tryz.prog 212 #[v, .func (.func 213) #[] #[.pointer (some ⟨q, 0, none⟩)]] w fun e w' => Hid ((∃ (k : Nat) (x : En), L[k]? = some x ∧ e = .returned (.int .i64 k) ∧ findL k0 L = some x) ∨ (e = .returned (.int .i64 (-1)) ∧ findL k0 L = none)) ∧ Below w.heap.size w w' := by
  have hlen := hv.len
  unfold maxLen at hlen
  obtain ⟨a, c, rfl, _, _⟩ := hv.shape
  have HV := hid hv
  have HQ := hid hq
  clear hv hq
  go_enter Tryz.func212, Tryz.ntmps212
  go_wp2_with fail
  go_loopw [8] (fun v8 wr => ∃ k : Nat, k ≤ L.length ∧ v8 = .int .i64 k ∧ Hid ((L.take k).find? (isK k0) = none) ∧ Hid (Below w.heap.size w wr)) (fun v8 _ => L.length - (intOf v8).toNat)
  case atStart => exact ⟨0, Nat.zero_le _, rfl, hid (by simp), hid (Below.refl _ _)⟩
  case round =>
    obtain ⟨k, hk, rfl, HT, HB⟩ := hrel
    by_cases hlt : k < L.length
    · obtain ⟨b, off, rfl⟩ := ens_loc HV.out (by omega)
      obtain ⟨x, hx⟩ : ∃ x, L[k]? = some x := ⟨_, List.getElem?_eq_getElem hlt⟩
      have c1 := ens_at HV.out HB.out hx
      have HX := hid hx
      have HQr := hid (heap_below HB.out HQ.out (blk_lt HQ.out))
      have hk0 : (0 : Int) ≤ (k : Int) := by omega
      have hk1 : (k : Int) < (L.length : Int) := by omega
      have HSP := hid (show L = L.take k ++ x :: L.drop (k + 1) by
        obtain ⟨hl, hz⟩ := List.getElem?_eq_some_iff.1 hx
        rw [← hz, ← List.drop_eq_getElem_cons hl, List.take_append_drop])
      clear hx
      cases hd : isK k0 x with
      | true =>
        have HD := hid hd
        have HF := hid (show findL k0 L = some x by unfold findL; rw [HSP.out, List.find?_append, HT.out]; simp [hd])
        clear hd
        go_wp2_with (go_at_call 213; refine (close_key q k0 x _ HQr.out).mono ?_; rintro e w1 ⟨rfl, hb1⟩; rw [HD.out])
        go_ret
        exact ⟨hid (.inl ⟨k, x, HX.out, rfl, HF.out⟩), HB.out.trans (hb1.mono HB.out.size)⟩
      | false =>
        have HD := hid hd
        have HN := hid (show (L.take (k + 1)).find? (isK k0) = none by rw [List.take_add_one, HX.out, List.find?_append, HT.out]; simp [hd])
        clear hd
        go_wp2_with (go_at_call 213; refine (close_key q k0 x _ HQr.out).mono ?_; rintro e w1 ⟨rfl, hb1⟩; rw [HD.out])
        exact ⟨⟨k + 1, by omega, by go_num, HN, hid (HB.out.trans (hb1.mono HB.out.size))⟩, by simp [intOf]; omega⟩
    · have HE := hid (show findL k0 L = none by have := HT.out; rwa [List.take_of_length_le (by omega)] at this)
      go_wp2
      go_ret
      exact ⟨hid (.inr ⟨rfl, HE.out⟩), HB.out⟩

set_option maxHeartbeats 1000000 in
theorem list_get (v : Value) (L : List En) (k : Ky) (w : World) (hv : Rd w v L.length (ecs L)) :
    Calls Tryz.prog 211 #[v, .agg #[.int .i64 k.dir, .string k.name]] w fun r w' => r = .returned (.tuple #[(getE k L).v, .bool (findL k L).isSome]) ∧ Below w.heap.size w w' := by
  have HV := hid hv
  obtain ⟨a, c, rfl, _, _⟩ := hv.shape
  have HB2 := hid (bl2 w (.cells #[.int .i64 k.dir, .string k.name] 53) (.cells #[.int .i64 0, .string { data := #[] }, .bool false, .int .i64 0, .int .i64 0, .int .i64 0, .string { data := #[] }] 55))
  have HK := hid (heap_old (heap_new w (.cells #[.int .i64 k.dir, .string k.name] 53)) (.cells #[.int .i64 0, .string { data := #[] }, .bool false, .int .i64 0, .int .i64 0, .int .i64 0, .string { data := #[] }] 55))
  have HE4 := hid (heap_new (w.alloc (.cells #[.int .i64 k.dir, .string k.name] 53)) (.cells #[.int .i64 0, .string { data := #[] }, .bool false, .int .i64 0, .int .i64 0, .int .i64 0, .string { data := #[] }] 55))
  clear hv
  go_enter Tryz.func211, Tryz.ntmps211
  go_wp2_with fail
  refine (index_list _ L k w.heap.size _ (HV.out.below HB2.out) HK.out).mono ?_; rintro e w2 ⟨hc, hb2⟩
  have HB3 := hid (HB2.out.trans (hb2.mono (by simp only [World.size_alloc]; omega)))
  have H4 := hid (heap_below hb2 HE4.out (by simp))
  have b4 := blk7 H4.out
  simp only [World.size_alloc] at b4
  rcases hc.out with ⟨j, x, hx, rfl, hf⟩ | ⟨rfl, hf⟩
  · have HG := hid (show getE k L = x by rw [getE, hf]; rfl)
    have HF := hid (show (findL k L).isSome = true by rw [hf]; rfl)
    have hj : j < L.length := (List.getElem?_eq_some_iff.1 hx).1
    obtain ⟨b, o, rfl⟩ := ens_loc HV.out (by omega)
    have c1 := ens_at HV.out HB3.out hx
    have hlen := HV.out.len
    unfold maxLen at hlen
    have hj0 : (0 : Int) ≤ (j : Int) := by omega
    have hj1 : (j : Int) < (L.length : Int) := by omega
    obtain ⟨cur, hcur⟩ : ∃ cur, w2.heap[w.heap.size + 1]? = some (.cells cur 55 (0, 0)) := ⟨_, by have := H4.out; simpa using this⟩
    have hfz := fun i => blk_free hcur i
    clear hx hf hc hb2 hcur
    go_wp2_with fail
    rw [HG.out, HF.out]
    refine bodyPost_ret (v := .tuple #[x.v, .bool true]) (by simp [results, Tryz.results211, go_sem, En.v, b4]) rfl ⟨rfl, ?_⟩
    exact ((((((HB3.out.setCell (by simp) _).setCell (by simp) _).setCell (by simp) _).setCell (by simp) _).setCell (by simp) _).setCell (by simp) _).setCell (by simp) _
  · have HG := hid (show getE k L = zeroE by rw [getE, hf]; rfl)
    have HF := hid (show (findL k L).isSome = false by rw [hf]; rfl)
    obtain ⟨cur, hcur⟩ : ∃ cur, w2.heap[w.heap.size + 1]? = some (.cells cur 55 (0, 0)) := ⟨_, by have := H4.out; simpa using this⟩
    have hfz := fun i => blk_free hcur i
    clear hf hc hb2 hcur
    go_wp2_with fail
    rw [HG.out, HF.out]
    refine bodyPost_ret (v := .tuple #[zeroE.v, .bool false]) (by simp [results, Tryz.results211, go_sem, En.v, zeroE, b4]; rfl) rfl ⟨rfl, ?_⟩
    exact ((((((HB3.out.setCell (by simp) _).setCell (by simp) _).setCell (by simp) _).setCell (by simp) _).setCell (by simp) _).setCell (by simp) _).setCell (by simp) _

end Go.Proofs.YtbjibkjenleloaaGreatDoor

end

/- The moves of a region that draws its order, one by one: for guards that are false, and calls that make memory. -/
section
namespace Go.Proofs.YtbjibkjenleloaaGreatDoor
set_option linter.unusedVariables false
set_option linter.unusedSimpArgs false

section
variable {P : Program} {ol : List Oper} {Q : Exit → Act → World → Prop} {md : Region.Mode} {S : World → Prop}

theorem at_of_drop {i : Nat} {oi : Oper} {rest : List Oper} (h : ol.drop i = oi :: rest) : ol.toArray[i]? = some oi := by
  have h1 : (ol.drop i)[0]? = some oi := by rw [h]; rfl
  rw [List.getElem?_drop, Nat.add_zero] at h1
  simpa using h1

theorem held_take (i : Nat) {oi : Oper} {rest : List Oper} {v : Value} {fuel : Nat} {listed : Array Bool} {a : Act} {w : World} (hi : ol.drop i = oi :: rest)
    (hs : Region.noSelect ol.toArray = true) (hf : Region.free md ol.toArray listed i = true) (hr : (Region.ready md ol.toArray listed).contains i = true)
    (hQ : ∀ c a w, Q (.panic c) (a.put oi.dst v) w → Q (.panic c) a w) (hS : S w) (hw : Region.wanted oi (yielded ol.toArray a.tmps) = true)
    (hy : ∀ w, S w → (execOp a.eval oi).run P w = .ok (.value v) w)
    (h : wpAnyH P md ol.toArray Q S fuel (listed.setIfInBounds i true) (a.put oi.dst v) w) : wpAnyH P md ol.toArray Q S (fuel + 1) listed a w :=
  wpAnyH_take (at_of_drop hi) hs hf hr hQ (.inl ⟨hw, hy⟩) hS h

theorem held_skip (i : Nat) {oi : Oper} {rest : List Oper} {fuel : Nat} {listed : Array Bool} {a : Act} {w : World} (hi : ol.drop i = oi :: rest)
    (hs : Region.noSelect ol.toArray = true) (hf : Region.free md ol.toArray listed i = true) (hr : (Region.ready md ol.toArray listed).contains i = true)
    (hQ : ∀ c a w, Q (.panic c) (a.put oi.dst undef) w → Q (.panic c) a w) (hS : S w) (hw : Region.wanted oi (yielded ol.toArray a.tmps) = false)
    (h : wpAnyH P md ol.toArray Q S fuel (listed.setIfInBounds i true) (a.put oi.dst undef) w) : wpAnyH P md ol.toArray Q S (fuel + 1) listed a w :=
  wpAnyH_take (at_of_drop hi) hs hf hr hQ (.inr ⟨hw, rfl⟩) hS h

/-- what has an effect, where nothing else may come up -/
theorem held_step (i : Nat) {oi : Oper} {rest : List Oper} {fuel : Nat} {listed : Array Bool} {a : Act} {w : World} (hi : ol.drop i = oi :: rest) (hr : Region.ready md ol.toArray listed = [i])
    (hw : Region.wanted oi (yielded ol.toArray a.tmps) = true)
    (h : ∀ K' : Act → World → Prop, Shut (∀ a w, S w → (S w → wpAnyH P md ol.toArray Q S fuel (listed.setIfInBounds i true) a w) → K' a w) → Oper.wp P oi a w K' Q) : wpAnyH P md ol.toArray Q S (fuel + 1) listed a w :=
  wpAnyH_ready hr (by simp) (AllReadyH.cons (at_of_drop hi) (fun K' hK => by rw [if_pos hw]; exact h K' hK) AllReadyH.nil)

theorem held_start {id : Nat} (S : World → Prop) {a : Act} {w : World} (hm : P.follows .mixedOrders = true) (hS : S w.drew)
    (h : S w.drew → wpAnyH P .any ol.toArray Q S ol.toArray.size (Array.replicate ol.toArray.size false) a w.drew) : (Code.region id ol.toArray true).wp P Q a w :=
  wp_region_held_drew hm hS h
end
end Go.Proofs.YtbjibkjenleloaaGreatDoor

end
