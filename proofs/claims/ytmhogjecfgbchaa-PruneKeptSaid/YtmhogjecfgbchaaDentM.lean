import Derived.Test.YtmhogjecfgbchaaDentL
import Derived.Test.YtmhogjecfgbchaaShelf
namespace Go.Proofs.Ytmhogjecfgbchaa
set_option linter.unusedVariables false
set_option linter.unusedSimpArgs false
open Go.RowKit
open Go.Sort (PermIn SortedIn grow grow_grow alloc_eq_grow putCells mapBlock onCells flatK get_flatK size_flatK HoldsK putRowK)
attribute [local go_sem ↓] Go.wp_at_zero Go.wp_at_succ

/-! ### a sorted row -/

theorem flatK_list {α : Type} [Inhabited α] {f : α → List Value} {sz : Nat} (hf : ∀ x, (f x).length = sz) (d : List α) : (flatK f sz d.toArray).toList = d.flatMap f := by
  apply List.ext_getElem?
  intro t
  by_cases ht : t < d.length * sz
  · have hsz : 0 < sz := by
      rcases Nat.eq_zero_or_pos sz with h | h
      · subst h; omega
      · exact h
    have hi : t / sz < d.length := Nat.div_lt_of_lt_mul (by rw [Nat.mul_comm]; exact ht)
    have hj : t % sz < (f d[t / sz]).length := by rw [hf]; exact Nat.mod_lt _ hsz
    have e : t / sz * sz + t % sz = t := Nat.div_add_mod' t sz
    have h1 := flatMap_at hf (List.getElem?_eq_getElem hi) (List.getElem?_eq_getElem hj)
    rw [e] at h1
    rw [h1]
    have h2 := get_flatK f sz d.toArray t (by simpa using ht)
    have h3 : t < (flatK f sz d.toArray).size := by simpa using ht
    rw [getElem!_pos (flatK f sz d.toArray) t h3] at h2
    rw [Array.getElem?_toList, Array.getElem?_eq_getElem h3, h2]
    have h4 : (d.toArray[t / sz]!) = d[t / sz] := by simp [hi]
    rw [h4]
    congr 1
    rw [getElem!_pos (f d[t / sz]) (t % sz) hj]
  · rw [List.getElem?_eq_none (by simp; omega), List.getElem?_eq_none (by rw [flatMap_len hf]; omega)]

theorem take_putCells (F cur : Array Value) (h : F.size ≤ cur.size) : (putCells id 0 F cur).toList.take F.size = F.toList := by
  apply List.ext_getElem?
  intro t
  by_cases ht : t < F.size
  · rw [List.getElem?_take_of_lt ht, Array.getElem?_toList, Array.getElem?_toList]
    unfold putCells
    have h1 : t < cur.size := by omega
    simp [h1, ht]
  · rw [List.getElem?_eq_none (by simp; omega), List.getElem?_eq_none (by simp; omega)]

theorem holdsK_own {α : Type} [Inhabited α] {f : α → List Value} {sz : Nat} (hf : ∀ x, (f x).length = sz) {w : World} {B e n c g : Nat} {L : List α} (h : w.ownsRow B e sz (.slice (some ⟨g, 0, none⟩) n c) n (L.flatMap f)) : HoldsK f sz w g 0 L.toArray := by
  intro j hj
  rw [size_flatK] at hj
  have hl : (L.flatMap f).length = L.length * sz := flatMap_len hf L
  have hr := Rd.own h
  have h1 := hr.at j ((L.flatMap f)[j]'(by rw [hl]; simpa using hj)) (List.getElem?_eq_getElem _)
  refine ⟨?_, ?_⟩
  · rw [h1]
    congr 1
    have h3 : j < (flatK f sz L.toArray).size := by simpa using hj
    rw [getElem!_pos (flatK f sz L.toArray) j h3]
    have h4 := flatK_list hf L
    have h5 : (flatK f sz L.toArray)[j] = (flatK f sz L.toArray).toList[j]'(by simpa using h3) := by simp
    rw [id, h5]; simp only [h4, id]
    rw [hl]
  · rcases h.2 with ⟨hv, _⟩ | ⟨g', cap, cur, hv, hB, hg, _⟩
    · simp at hv
    · simp only [Value.slice.injEq, Option.some.injEq, Addr.mk.injEq] at hv
      obtain ⟨⟨rfl, _⟩, _⟩ := hv
      exact blk_free hg _

theorem own_sort {α : Type} [Inhabited α] {f : α → List Value} {sz : Nat} (hf : ∀ x, (f x).length = sz) {w : World} {B e n c g m : Nat} {L M : List α} {os : Array Obj} (h : w.ownsRow B e sz (.slice (some ⟨g, 0, none⟩) n c) n (L.flatMap f)) (hM : M.length = L.length) :
    (sortWorldK f sz w g 0 m M.toArray os).ownsRow B e sz (.slice (some ⟨g, 0, none⟩) n c) n (M.flatMap f) ∧ Chg (fun k => k = g) w (sortWorldK f sz w g 0 m M.toArray os) := by
  have hlL : (L.flatMap f).length = L.length * sz := flatMap_len hf L
  have hlM : (M.flatMap f).length = M.length * sz := flatMap_len hf M
  rcases h.2 with ⟨hv, _⟩ | ⟨g', cap, cur, hv, hB, hg, h1, h2, h3, h4⟩
  · simp at hv
  · simp only [Value.slice.injEq, Option.some.injEq, Addr.mk.injEq] at hv
    obtain ⟨⟨rfl, _⟩, _, rfl⟩ := hv
    have hlt := blk_lt hg
    have hn : L.length * sz = n * sz := by rw [← hlL]; exact h.1
    have hcur : n * sz ≤ cur.size := by rw [h3]; exact Nat.mul_le_mul_right _ h1
    have hmod : ∀ k, (sortWorldK f sz w g 0 m M.toArray os).heap[k]? = if k < w.heap.size then (w.heap.modify g (onCells (putCells id 0 (flatK f sz M.toArray))))[k]? else os[k - w.heap.size]? := by
      intro k
      unfold sortWorldK putRowK Go.Sort.putRow mapBlock grow Go.Sort.ahead
      simp only
      rw [Array.getElem?_append]
      simp
    refine ⟨⟨by rw [hlM, hM]; exact hn, .inr ⟨g, c, putCells id 0 (flatK f sz M.toArray) cur, rfl, hB, ?_, h1, h2, ?_, ?_⟩⟩, ⟨rfl, rfl, rfl, ?_, ?_⟩⟩
    · rw [hmod g, if_pos hlt, Array.getElem?_modify, if_pos rfl, hg]; rfl
    · unfold putCells; simp [h3]
    · rw [← flatK_list hf M, ← take_putCells (flatK f sz M.toArray) cur (by simp [hM]; omega)]
      congr 1
      simp [hM]; exact hn.symm
    · exact size_sortWorldK_c f sz w g 0 m M.toArray os
    · intro k hk hne
      rw [hmod k, if_pos hk, Array.getElem?_modify, if_neg (fun e => hne e.symm)]

theorem perm_sorted {α : Type} [Inhabited α] {lt : α → α → Bool} {L : List α} {d' : Array α} (hp : PermIn 0 L.toArray.size L.toArray d') (hs : SortedIn lt 0 L.toArray.size d') : d'.toList.Perm L ∧ d'.toList.Pairwise (fun x y => lt y x = false) := by
  obtain ⟨h1, _, h3⟩ := hp
  refine ⟨?_, ?_⟩
  · have e1 : d'.extract 0 L.toArray.size = d' := by rw [← h1]; simp
    have e2 : L.toArray.extract 0 L.toArray.size = L.toArray := by simp
    rw [e1, e2] at h3; simpa using h3
  · rw [List.pairwise_iff_getElem]
    intro i j hi hj hij
    have := hs i j (Nat.zero_le _) hij (by rw [← h1]; simpa using hj)
    rw [getElem!_pos _ _ (by simpa using hj), getElem!_pos _ _ (by simpa using hi)] at this
    simpa using this

end Go.Proofs.Ytmhogjecfgbchaa
