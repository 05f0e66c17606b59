/- The moves of a region that draws its order, one by one: for guards that are false, and calls that make memory. -/
import Derived.WalkKit
import Derived.Deep.RegionHeld3
namespace Go.Proofs.Ytakkdaenindboaa
set_option linter.unusedVariables false
set_option linter.unusedSimpArgs false

section
variable {P : Program} {ol : List Oper} {Q : Exit → Act → World → Prop} {md : Region.Mode} {S : World → Prop}

theorem at_of_drop {i : Nat} {oi : Oper} {rest : List Oper} (h : ol.drop i = oi :: rest) : ol.toArray[i]? = some oi := by
  have h1 : (ol.drop i)[0]? = some oi := by rw [h]; rfl
  rw [List.getElem?_drop, Nat.add_zero] at h1
  simpa using h1

theorem held_take (i : Nat) {oi : Oper} {rest : List Oper} {v : Value} {fuel : Nat} {listed : Array Bool} {a : Act} {w : World} (hi : ol.drop i = oi :: rest)
    (hs : Region.noSelect ol.toArray = true) (hf : Region.free md ol.toArray listed i = true) (hr : (Region.ready md ol.toArray listed).contains i = true)
    (hQ : ∀ c a w, Q (.panic c) (a.put oi.dst v) w → Q (.panic c) a w) (hS : S w) (hw : Region.wanted oi (yielded ol.toArray a.tmps) = true)
    (hy : ∀ w, S w → (execOp a.eval oi).run P w = .ok (.value v) w)
    (h : wpAnyH P md ol.toArray Q S fuel (listed.setIfInBounds i true) (a.put oi.dst v) w) : wpAnyH P md ol.toArray Q S (fuel + 1) listed a w :=
  wpAnyH_take (at_of_drop hi) hs hf hr hQ (.inl ⟨hw, hy⟩) hS h

theorem held_skip (i : Nat) {oi : Oper} {rest : List Oper} {fuel : Nat} {listed : Array Bool} {a : Act} {w : World} (hi : ol.drop i = oi :: rest)
    (hs : Region.noSelect ol.toArray = true) (hf : Region.free md ol.toArray listed i = true) (hr : (Region.ready md ol.toArray listed).contains i = true)
    (hQ : ∀ c a w, Q (.panic c) (a.put oi.dst undef) w → Q (.panic c) a w) (hS : S w) (hw : Region.wanted oi (yielded ol.toArray a.tmps) = false)
    (h : wpAnyH P md ol.toArray Q S fuel (listed.setIfInBounds i true) (a.put oi.dst undef) w) : wpAnyH P md ol.toArray Q S (fuel + 1) listed a w :=
  wpAnyH_take (at_of_drop hi) hs hf hr hQ (.inr ⟨hw, rfl⟩) hS h

/-- what has an effect, where nothing else may come up -/
theorem held_step (i : Nat) {oi : Oper} {rest : List Oper} {fuel : Nat} {listed : Array Bool} {a : Act} {w : World} (hi : ol.drop i = oi :: rest) (hr : Region.ready md ol.toArray listed = [i])
    (hw : Region.wanted oi (yielded ol.toArray a.tmps) = true)
    (h : ∀ K' : Act → World → Prop, Shut (∀ a w, S w → (S w → wpAnyH P md ol.toArray Q S fuel (listed.setIfInBounds i true) a w) → K' a w) → Oper.wp P oi a w K' Q) : wpAnyH P md ol.toArray Q S (fuel + 1) listed a w :=
  wpAnyH_ready hr (by simp) (AllReadyH.cons (at_of_drop hi) (fun K' hK => by rw [if_pos hw]; exact h K' hK) AllReadyH.nil)

theorem held_start {id : Nat} (S : World → Prop) {a : Act} {w : World} (hm : P.follows .mixedOrders = true) (hS : S w.drew)
    (h : S w.drew → wpAnyH P .any ol.toArray Q S ol.toArray.size (Array.replicate ol.toArray.size false) a w.drew) : (Code.region id ol.toArray true).wp P Q a w :=
  wp_region_held_drew hm hS h
end
end Go.Proofs.Ytakkdaenindboaa
