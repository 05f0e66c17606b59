/- What the bound on an argument's bulk gives: the keys of a whole script. -/
import Derived.Test.YtmhogjecfgbchaaRows
import Derived.Test.YtmhogjecfgbchaaRefE
namespace Go.Proofs.Ytmhogjecfgbchaa
set_option linter.unusedVariables false
set_option linter.unusedSimpArgs false
open Go.RowKit Go.ChangeShapes Go.WideShapes

section
variable {H : Type} {enc : TypeId × Value → H} {P : Program} {w : World} {base : Nat} {spare : Nat → Bool} {held : Bool}

theorem bulk_part {d : DataW H} {l : List (DataW H)} (h : d ∈ l) : Rows.uptoBulk d ≤ Rows.uptoBulkAll l := by
  induction l with
  | nil => cases h
  | cons x r ih =>
    simp only [Rows.uptoBulkAll]
    rcases List.mem_cons.1 h with e | e
    · subst e; omega
    · have := ih e; omega
theorem bulk_one (d : DataW H) : 1 ≤ Rows.uptoBulk d := by
  cases d with
  | lit l => cases l <;> simp [Rows.uptoBulk]
  | nil => simp [Rows.uptoBulk]
  | ptr d => simp [Rows.uptoBulk]
  | slice elems spare => simp [Rows.uptoBulk]
  | agg parts => simp [Rows.uptoBulk]
  | iface t d => simp [Rows.uptoBulk]
  | map entries => simp [Rows.uptoBulk]
  | held h => simp [Rows.uptoBulk]
theorem bulk_len (l : List (DataW H)) : l.length ≤ Rows.uptoBulkAll l := by
  induction l with
  | nil => simp [Rows.uptoBulkAll]
  | cons x r ih => have := bulk_one x; simp only [Rows.uptoBulkAll, List.length_cons]; omega

/-- a slice's elements, each with its reading -/
theorem trod_elems {fuel : Nat} {t e : TypeId} {sz : Nat} {a : Option Addr} {len cap : Nat} {x : DataW H × List MemPlace} (ht : P.underlying t = some (.slice e)) (hsz : P.cellsOf e = sz) (hpos : 0 < sz) (hx : DataW.trod enc P w base spare held fuel t [.slice a len cap] = some x) :
    ∃ (css : List (List Value)) (ds : List (DataW H)), css.length = len ∧ ds.length = len ∧ Rd w (.slice a len cap) len css.flatten ∧ (∀ c ∈ css, c.length = sz) ∧ Rows.uptoBulkAll ds + 1 ≤ Rows.uptoBulk x.1 ∧ ∀ (i : Nat) c d, css[i]? = some c → ds[i]? = some d → ∃ n pl, DataW.trod enc P w base spare held n e c = some (d, pl) := by
  rcases Go.Deep.open_slice ht hx with ⟨hcs, _⟩ | ⟨ad, len', cap', m, n, D, Pl, hcs, hb, hl, hm, hme, rfl, hel⟩
  · simp only [List.cons.injEq, Value.slice.injEq, and_true] at hcs
    obtain ⟨rfl, rfl, rfl⟩ := hcs
    exact ⟨[], [], rfl, rfl, .inl ⟨rfl, rfl, rfl⟩, by simp, by have := bulk_one x.1; simpa [Rows.uptoBulkAll] using this, by simp⟩
  · simp only [List.cons.injEq, Value.slice.injEq, and_true] at hcs
    obtain ⟨rfl, rfl, rfl⟩ := hcs
    have hlm : len ≤ m := by rw [hme]; split <;> omega
    obtain ⟨css, hlen, hcss⟩ := list_of_index (n := len) (p := fun i c => w.cells? base (ad.add (i * P.cellsOf e)) (P.cellsOf e) = some c ∧ DataW.trod enc P w base spare held n e c = some (D i, Pl i)) fun i hi => hel i (by omega)
    have hc1 : ∀ c ∈ css, c.length = sz := fun c hc => by
      obtain ⟨i, hi⟩ := List.mem_iff_getElem?.1 hc
      rw [← hsz]; exact (World.cells?_some (hcss i c hi).1).2.1
    refine ⟨css, (List.range len).map D, hlen, by simp, .inr ⟨ad, cap, rfl, hl, hm, fun k v hk => ?_⟩, hc1, ?_, fun i c d hc hd => ?_⟩
    · obtain ⟨i, j, c, rfl, hc, hj⟩ := at_flatten hpos hc1 hk
      have h1 := World.cells?_some (hcss i c hc).1
      have h2 := h1.2.2 j (by have := (List.getElem?_eq_some_iff.1 hj).1; have := hc1 c (List.mem_of_getElem? hc); omega)
      rw [hsz, Addr.add_add] at h2
      rw [h2]; exact hj
    · simp only [Rows.uptoBulk]; omega
    · have hil : i < len := by rw [← hlen]; exact (List.getElem?_eq_some_iff.1 hc).1
      rw [List.getElem?_map, List.getElem?_range hil] at hd
      simp only [Option.map_some, Option.some.injEq] at hd
      subst hd
      exact ⟨n, _, (hcss i c hc).2⟩

theorem op_bulk {fuel : Nat} {x : Dop} {d : DataW H} {pl : List MemPlace} (h : DataW.trod enc Try.prog w base spare held fuel 33 x.cells = some (d, pl)) : x.ks.length + 2 ≤ Rows.uptoBulk d := by
  obtain ⟨xs, n, _, he, hl, hlen, hf⟩ := DataW.trod_struct Try.underlying33 h
  have h3 := hf 3 _ rfl
  obtain ⟨y, hy⟩ : ∃ y, xs[3]? = some y := ⟨_, List.getElem?_eq_getElem (by rw [hlen]; decide)⟩
  rw [hy] at h3
  have hcs : (List.take (Try.prog.cellsOf 31) (List.drop 9 x.cells)) = [.slice x.a x.ks.length x.c] := by
    rw [show Try.prog.cellsOf 31 = 1 by kernel_rfl]; rfl
  have h4 : DataW.trod enc Try.prog w base spare held n 31 [.slice x.a x.ks.length x.c] = some y := by rw [← hcs]; exact h3
  obtain ⟨css, ds, _, hd, _, _, hb, _⟩ := trod_elems Try.underlying31 (sz := 2) (by kernel_rfl) (by decide) h4
  have h5 := bulk_len ds
  have hm : y.1 ∈ xs.map (fun x => x.fst) := List.mem_map.2 ⟨y, List.mem_of_getElem? hy, rfl⟩
  have h6 := bulk_part hm
  simp only [Prod.mk.injEq] at he
  obtain ⟨rfl, rfl⟩ := he
  simp only [Rows.uptoBulk]
  omega

theorem ops_bulk : ∀ (css : List (List Value)) (ds : List (DataW H)) (S : List Dop), css = S.map Dop.cells → css.length = ds.length → (∀ (i : Nat) c d, css[i]? = some c → ds[i]? = some d → ∃ n pl, DataW.trod enc Try.prog w base spare held n 33 c = some (d, pl)) → (keysL S).length ≤ 2 * Rows.uptoBulkAll ds
  | _, [], [], rfl, _, _ => by simp [keysL]
  | _, d :: ds, [], rfl, h, _ => by simp at h
  | _, [], x :: S, rfl, h, _ => by simp at h
  | _, d :: ds, x :: S, rfl, h, hp => by
    obtain ⟨n, pl, h0⟩ := hp 0 x.cells d rfl rfl
    have h1 := op_bulk h0
    have h2 := ops_bulk (S.map Dop.cells) ds S rfl (by simpa using h) fun i c d hc hd => hp (i + 1) c d (by simpa using hc) (by simpa using hd)
    have h3 : (keysL (x :: S)).length = 3 + x.ks.length + (keysL S).length := by simp [keysL, k3]; omega
    simp only [Rows.uptoBulkAll]
    omega

/-- a script that is short in all its parts -/
theorem dscript_bulk {ts : List TypeId} {ds : List (DataW H)} {d : DataW H} {a : Option Addr} {n c : Nat} {ps : List MemPlace} (hsz : (DataW.weightsEach Try.prog ts ds).all (· ≤ reachBytes) = true) {j : Nat} (ht : ts[j]? = some 22) (hd : ds[j]? = some d)
    (h : DataW.Trod enc Try.prog w base spare held 22 (.slice a n c) d ps) :
    ∃ S : List Dop, n = S.length ∧ ScrD w (.slice a S.length c) S ∧ S.length * 112 ≤ 140737488351232 ∧ (∀ x ∈ S, x.ks.length * 24 ≤ 140737488351232) ∧ (keysL S).length ≤ 2 * Rows.uptoBulk d := by
  obtain ⟨fuel, hf⟩ := h
  have hwt : ∀ n ∈ d.weights Try.prog 22, n ≤ reachBytes := fun n hn => by simpa using List.all_eq_true.1 hsz _ (DataW.weights_mem_each ht hd n hn)
  have hdat : Dat enc Try.prog w base spare held 22 [.slice a n c] := ⟨fuel, _, hf, hwt⟩
  obtain ⟨css, dl, hl, hdl, hr, hc, hb, hp⟩ := trod_elems Try.underlying22 (sz := 10) (by kernel_rfl) (by decide) (x := (d, ps)) hf
  obtain ⟨S, hS1, hS2, hS3, hS4⟩ := dscript_of hdat
  subst hS1
  have hfl : css.flatten = dcs S := by
    have l1 : css.flatten.length = S.length * 10 := by
      rw [List.length_flatten]
      have : css.map List.length = List.replicate S.length 10 := by
        rw [← hl]; exact List.eq_replicate_iff.2 ⟨by simp, fun b hb => by obtain ⟨c, hc2, rfl⟩ := List.mem_map.1 hb; exact hc c hc2⟩
      rw [this]; simp
    apply List.ext_getElem?
    intro k
    by_cases hk : k < S.length * 10
    · obtain ⟨v1, e1⟩ : ∃ v, css.flatten[k]? = some v := ⟨_, List.getElem?_eq_getElem (by omega)⟩
      obtain ⟨v2, e2⟩ : ∃ v, (dcs S)[k]? = some v := ⟨_, List.getElem?_eq_getElem (by rw [dcs_len]; omega)⟩
      obtain ⟨b, off, cap, hv, _, _, _, q1⟩ := hr.form (by omega)
      obtain ⟨b', off', cap', hv', _, _, _, q2⟩ := hS2.row.form (by rw [dcs_len]; omega)
      simp only [Value.slice.injEq] at hv hv'
      obtain ⟨h1, _, _⟩ := hv
      obtain ⟨h2, _, _⟩ := hv'
      rw [h1] at h2
      simp only [Option.some.injEq, Addr.mk.injEq] at h2
      obtain ⟨rfl, rfl, _⟩ := h2
      have e3 := q1 k v1 e1
      have e4 := q2 k v2 e2
      rw [e3] at e4
      rw [e1, e2, e4]
    · rw [List.getElem?_eq_none (by omega), List.getElem?_eq_none (by rw [dcs_len]; omega)]
  have hcss : css = S.map Dop.cells := by
    apply List.ext_getElem?
    intro i
    by_cases hi : i < S.length
    · obtain ⟨c, hci⟩ : ∃ c, css[i]? = some c := ⟨_, List.getElem?_eq_getElem (by omega)⟩
      rw [hci, List.getElem?_map, List.getElem?_eq_getElem hi, Option.map_some]
      congr 1
      have hcl := hc c (List.mem_of_getElem? hci)
      apply List.ext_getElem?
      intro j
      by_cases hj : j < 10
      · obtain ⟨v1, e1⟩ : ∃ v, c[j]? = some v := ⟨_, List.getElem?_eq_getElem (by omega)⟩
        have g1 := flatten_at hc hci e1
        obtain ⟨v2, e2⟩ : ∃ v, (Dop.cells S[i])[j]? = some v := ⟨_, List.getElem?_eq_getElem (show j < (Dop.cells S[i]).length from hj)⟩
        have g2 := flatMap_at (f := Dop.cells) (sz := 10) (fun _ => rfl) (List.getElem?_eq_getElem hi) e2
        rw [hfl] at g1
        rw [e1, e2]
        exact g1.symm.trans g2
      · rw [List.getElem?_eq_none (by omega), List.getElem?_eq_none (by simp [Dop.cells]; omega)]
    · rw [List.getElem?_eq_none (by omega), List.getElem?_eq_none (by simp; omega)]
  have h9 := ops_bulk css dl S hcss (by omega) hp
  have hb : Rows.uptoBulkAll dl + 1 ≤ Rows.uptoBulk d := hb
  exact ⟨S, rfl, hS2, hS3, hS4, by omega⟩
end
end Go.Proofs.Ytmhogjecfgbchaa
