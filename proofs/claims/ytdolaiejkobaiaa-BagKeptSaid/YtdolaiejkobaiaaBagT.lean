import Derived.Test.YtdolaiejkobaiaaBagH
namespace Go.Proofs.Ytdolaiejkobaiaa
set_option linter.unusedVariables false
set_option linter.unusedSimpArgs false
open Go.RowKit
attribute [local go_sem ↓] Go.wp_at_zero Go.wp_at_succ

/-! ### rows of letters whose bytes are written over -/
theorem own_setc {w : World} {B e sz n g c : Nat} {xs : List Value} (h : w.ownsRow B e sz (.slice (some ⟨g, 0, none⟩) n c) n xs) (i : Nat) (u : Value) : (w.setCell ⟨g, i, none⟩ u).ownsRow B e sz (.slice (some ⟨g, 0, none⟩) n c) n (xs.set i u) := by
  refine ⟨by rw [List.length_set]; exact h.1, .inr ?_⟩
  rcases h.2 with ⟨hv, _⟩ | ⟨g', cap, cur, hv, hb, hg, h1, h2, h3, h4⟩
  · cases hv
  · simp only [Value.slice.injEq, Option.some.injEq, Addr.mk.injEq] at hv
    obtain ⟨⟨rfl, _⟩, _, rfl⟩ := hv
    refine ⟨g, c, _, rfl, hb, heap_set hg i u, h1, h2, by simp [h3], ?_⟩
    rw [← h4]; simp [List.take_set]
theorem own_loc {w : World} {B e sz n : Nat} {a : Option Addr} {m c : Nat} {xs : List Value} (h : w.ownsRow B e sz (.slice a m c) n xs) (hL : 0 < n) : ∃ g, a = some ⟨g, 0, none⟩ ∧ B ≤ g ∧ g < w.heap.size ∧ n ≤ c ∧ c ≤ maxLen := by
  rcases h.2 with ⟨hv, h0⟩ | ⟨g, cap, cur, hv, hB, hg, h1, h2, _⟩
  · omega
  · simp only [Value.slice.injEq] at hv
    obtain ⟨rfl, _, rfl⟩ := hv
    exact ⟨g, rfl, hB, blk_lt hg, h1, h2⟩
theorem own_prefix {w : World} {B e sz n m g c : Nat} {xs : List Value} (h : w.ownsRow B e sz (.slice (some ⟨g, 0, none⟩) n c) n xs) (hm : m ≤ n) : w.ownsRow B e sz (.slice (some ⟨g, 0, none⟩) m c) m (xs.take (m * sz)) := by
  have hl := h.1
  have hmn : m * sz ≤ n * sz := Nat.mul_le_mul_right _ hm
  refine ⟨by rw [List.length_take]; omega, .inr ?_⟩
  rcases h.2 with ⟨hv, _⟩ | ⟨g', cap, cur, hv, hb, hg, h1, h2, h3, h4⟩
  · cases hv
  · simp only [Value.slice.injEq, Option.some.injEq, Addr.mk.injEq] at hv
    obtain ⟨⟨rfl, _⟩, _, rfl⟩ := hv
    refine ⟨g, c, cur, rfl, hb, hg, by omega, h2, h3, ?_⟩
    rw [← h4, List.take_take, Nat.min_eq_left hmn]
theorem own_none {w : World} {B e sz n g : Nat} {v : Value} {xs : List Value} (h : w.ownsRow B e sz v n xs) (hg : v.ownBlock = some g) : ∃ c, v = .slice (some ⟨g, 0, none⟩) n c := by
  rcases h.2 with ⟨rfl, _⟩ | ⟨g', cap, cur, rfl, _⟩
  · simp [Value.ownBlock] at hg
  · simp only [ownBlock_slice, Option.map_some, Option.some.injEq] at hg
    subst hg
    exact ⟨cap, rfl⟩
theorem flat_set {α : Type} (f : α → List Value) (sz : Nat) (hf : ∀ x, (f x).length = sz) : ∀ (L : List α) (k j : Nat) (x y : α) (v : Value), L[k]? = some x → j < sz → f y = (f x).set j v → (L.flatMap f).set (k * sz + j) v = (L.set k y).flatMap f
  | [], k, j, x, y, v, hx, _, _ => by simp at hx
  | a :: L, 0, j, x, y, v, hx, hj, hy => by
    simp only [List.getElem?_cons_zero, Option.some.injEq] at hx
    subst hx
    simp only [List.flatMap_cons, Nat.zero_mul, Nat.zero_add, List.set_cons_zero]
    rw [List.set_append_left _ _ (by rw [hf]; exact hj), hy]
  | a :: L, k + 1, j, x, y, v, hx, hj, hy => by
    have ih := flat_set f sz hf L k j x y v (by simpa using hx) hj hy
    simp only [List.flatMap_cons, List.set_cons_succ]
    rw [List.set_append_right _ _ (by rw [hf, Nat.succ_mul]; omega), hf, ← ih]
    congr 2
    rw [Nat.succ_mul]; omega
theorem bys_set (l : List Int) (i : Nat) (v : Int) : (bys l).set i (.int .u8 v) = bys (l.set i v) := by simp [bys, List.map_set]
theorem bys_len (l : List Int) : (bys l).length = l.length := by simp [bys]
theorem own_byte {w : World} {B n g c : Nat} {l : List Int} (i : Nat) (v : Int) (h : w.ownsRow B 5 1 (.slice (some ⟨g, 0, none⟩) n c) n (bys l)) : (w.setCell ⟨g, i, none⟩ (.int .u8 v)).ownsRow B 5 1 (.slice (some ⟨g, 0, none⟩) n c) n (bys (l.set i v)) := by
  have h2 := own_setc h i (.int .u8 v)
  rw [bys_set] at h2
  exact h2

def wrL (L : List Lt) (g j : Nat) (v : Int) : List Lt := L.map fun x => if x.v.ownBlock = some g then { x with bs := x.bs.set j v } else x
theorem wrL_len (L : List Lt) (g j : Nat) (v : Int) : (wrL L g j v).length = L.length := by simp [wrL]
theorem wrL_lcs (L : List Lt) (g j : Nat) (v : Int) : lcs (wrL L g j v) = lcs L := by
  unfold lcs wrL
  induction L with
  | nil => rfl
  | cons x L ih =>
    simp only [List.map_cons, List.flatMap_cons]
    rw [ih]
    congr 1
    split
    · simp [Lt.cells, Lt.v]
    · rfl
theorem wrL_at {L : List Lt} {g j k : Nat} {v : Int} {x : Lt} (h : L[k]? = some x) (hb : x.v.ownBlock = some g) : (wrL L g j v)[k]? = some { x with bs := x.bs.set j v } := by
  rw [wrL, List.getElem?_map, h, Option.map_some, if_pos hb]
theorem wrL_v {L : List Lt} {g j : Nat} {v : Int} {x : Lt} (h : x ∈ wrL L g j v) : ∃ x0 ∈ L, x.v = x0.v ∧ x.bs.length = x0.bs.length ∧ (x0.v.ownBlock = some g → x.bs = x0.bs.set j v) ∧ (x0.v.ownBlock ≠ some g → x = x0) := by
  obtain ⟨x0, h0, rfl⟩ := List.mem_map.1 h
  refine ⟨x0, h0, ?_⟩
  split
  · rename_i hb; exact ⟨by simp [Lt.v], by simp, fun _ => rfl, fun hn => absurd hb hn⟩
  · rename_i hb; exact ⟨rfl, rfl, fun hn => absurd hn hb, fun _ => rfl⟩
theorem LetsAt.byte {w : World} {B : Nat} {a : Option Addr} {c : Nat} {L : List Lt} (h : LetsAt w B a c L) {g j : Nat} (v : Int) {x : Lt} (hx : x ∈ L) (hg : x.v.ownBlock = some g) : LetsAt (w.setCell ⟨g, j, none⟩ (.int .u8 v)) B a c (wrL L g j v) := by
  have hc : Chg (fun k => k = g) w (w.setCell ⟨g, j, none⟩ (.int .u8 v)) := (Chg.refl _ w).setCell _ _ (.inl rfl)
  refine ⟨?_, fun x' hx' => ?_⟩
  · rw [wrL_len, wrL_lcs]
    exact ownsRow_chg h.row fun k hk hl => hc.block k hl (fun e => by subst e; exact own_ne2 h.row (h.each x hx) (by decide) _ hk hg)
  · obtain ⟨x0, h0, hv, hl, hy, hn⟩ := wrL_v hx'
    by_cases hb : x0.v.ownBlock = some g
    · obtain ⟨c0, hc0⟩ := own_none (h.each x0 h0) hb
      have h2 := h.each x0 h0
      rw [hc0] at h2
      have h3 := own_byte j v h2
      rw [hv, hl, hy hb, hc0]
      exact h3
    · rw [hn hb]
      exact ownsRow_chg (h.each x0 h0) fun k hk hl => hc.block k hl (fun e => by subst e; exact hb hk)
theorem LetsAt.put {w : World} {B g : Nat} {c : Nat} {L : List Lt} (h : LetsAt w B (some ⟨g, 0, none⟩) c L) {k j : Nat} {x y : Lt} {u : Value} (hx : L[k]? = some x) (hj : j < 2) (hy : y.cells = x.cells.set j u) (hv : y.v = x.v) (hk : y.bs = x.bs) : LetsAt (w.setCell ⟨g, k * 2 + j, none⟩ u) B (some ⟨g, 0, none⟩) c (L.set k y) := by
  have hm := List.mem_of_getElem? hx
  refine ⟨?_, fun z hz => ?_⟩
  · have h2 := own_setc h.row (k * 2 + j) u
    rw [show (lcs L).set (k * 2 + j) u = lcs (L.set k y) from flat_set Lt.cells 2 (fun _ => rfl) L k j x y u hx hj hy] at h2
    rw [List.length_set]
    exact h2
  · have hcg : Chg (fun i => i = g) w (w.setCell ⟨g, k * 2 + j, none⟩ u) := (Chg.refl _ w).setCell _ _ (.inl rfl)
    have hz' : w.ownsRow B 5 1 z.v z.bs.length (bys z.bs) := by
      rcases List.mem_or_eq_of_mem_set hz with h1 | rfl
      · exact h.each z h1
      · rw [hv, hk]; exact h.each x hm
    exact ownsRow_chg hz' fun b hb hl => hcg.block b hl (fun e => by subst e; exact own_ne2 h.row hz' (by decide) _ rfl hb)

/-! ### the blocks of a bag -/
def BagIn (p : Nat) (a : Option Addr) (L : List Lt) (k : Nat) : Prop := k = p ∨ a.map (·.block) = some k ∨ ∃ x ∈ L, x.v.ownBlock = some k
section
variable {T : Nat} {w w' : World} {B p : Nat} {limit : Int} {a : Option Addr} {c : Nat} {L : List Lt}
theorem BagAt.lt (h : BagAt T w B p limit a c L) : ∀ k, BagIn p a L k → B ≤ k ∧ k < w.heap.size := by
  rintro k (rfl | h1 | ⟨x, hx, h1⟩)
  · exact ⟨h.hB, blk_lt h.hp⟩
  · exact own_lt h.row (by rw [ownBlock_slice]; exact h1)
  · exact own_lt (h.each x hx) h1
theorem BagAt.away (h : BagAt T w B p limit a c L) {H : Nat → Prop} (hc : Chg H w w') (hH : ∀ k, BagIn p a L k → ¬ H k) : BagAt T w' B p limit a c L :=
  h.chg hc (hH p (.inl rfl)) (fun k hk => hH k (.inr (.inl hk))) fun x hx k hk => hH k (.inr (.inr ⟨x, hx, hk⟩))
end
/-- letters whose bytes lie apart -/
def Nd (L : List Lt) : Prop := L.Pairwise fun x y => ∀ k, x.v.ownBlock = some k → y.v.ownBlock ≠ some k
theorem Nd.snoc {L : List Lt} {x : Lt} {n : Nat} (h : Nd L) (h1 : ∀ y ∈ L, ∀ k, y.v.ownBlock = some k → k < n) (h2 : ∀ k, x.v.ownBlock = some k → n ≤ k) : Nd (L ++ [x]) := by
  refine List.pairwise_append.2 ⟨h, List.pairwise_singleton _ _, fun y hy z hz k hk hk2 => ?_⟩
  obtain rfl := List.mem_singleton.1 hz
  have := h1 y hy k hk; have := h2 k hk2; omega
/-- all letters say the same -/
def Alike (tw : Int) (l : List Int) (L : List Lt) : Prop := ∀ x ∈ L, x.tw = tw ∧ x.bs = l
theorem Alike.snoc {tw : Int} {l : List Int} {L : List Lt} {x : Lt} (h : Alike tw l L) (h1 : x.tw = tw) (h2 : x.bs = l) : Alike tw l (L ++ [x]) := fun y hy => by
  rcases List.mem_append.1 hy with hy | hy
  · exact h y hy
  · obtain rfl := List.mem_singleton.1 hy; exact ⟨h1, h2⟩
theorem Alike.cons {tw : Int} {l : List Int} {L M : List Lt} (h : Alike tw l L) (hM : cons_ M = cons_ L) : Alike tw l M := fun y hy => by
  have h1 : y.con ∈ cons_ L := by rw [← hM]; exact List.mem_map_of_mem hy
  obtain ⟨x, hx, hxy⟩ := List.mem_map.1 h1
  have h2 := h x hx
  simp only [Lt.con, Prod.mk.injEq] at hxy
  exact ⟨by rw [← hxy.1]; exact h2.1, by rw [← hxy.2]; exact h2.2⟩
theorem cons_len {L M : List Lt} (hM : cons_ M = cons_ L) : M.length = L.length := by have := congrArg List.length hM; simpa [cons_] using this

end Go.Proofs.Ytdolaiejkobaiaa
