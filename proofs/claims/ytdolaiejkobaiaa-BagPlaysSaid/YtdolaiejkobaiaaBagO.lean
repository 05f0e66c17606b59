import Derived.Test.YtdolaiejkobaiaaBagN
namespace Go.Proofs.Ytdolaiejkobaiaa
set_option linter.unusedVariables false
set_option linter.unusedSimpArgs false
open Go.RowKit
attribute [local go_sem ↓] Go.wp_at_zero Go.wp_at_succ

theorem BagAt.drew {T : Nat} {w : World} {B p : Nat} {limit : Int} {a : Option Addr} {c : Nat} {L : List Lt} (h : BagAt T w B p limit a c L) : BagAt T w.drew B p limit a c L := ⟨h.hB, h.hp, h.row, h.each⟩

/-- the bag and the document's, side by side -/
structure StP (w wr : World) (B p q : Nat) (limit : Int) (a : Option Addr) (c : Nat) (L : List Lt) (a2 : Option Addr) (c2 : Nat) (M : List Lt) : Prop where
  bag : BagAt 62 wr B p limit a c L
  rb : BagAt 54 wr B q limit a2 c2 M
  ne : ∀ k, a.map (·.block) = some k → a2.map (·.block) ≠ some k
  below : Below B w wr
  sz : B ≤ wr.heap.size

section
variable {w wr : World} {B p q : Nat} {limit : Int} {a : Option Addr} {c : Nat} {L : List Lt} {a2 : Option Addr} {c2 : Nat} {M : List Lt}

theorem StP.alloc (h : StP w wr B p q limit a c L a2 c2 M) {wr' : World} (hb : Below wr.heap.size wr wr') : StP w wr' B p q limit a c L a2 c2 M :=
  ⟨h.bag.below hb, h.rb.below hb, h.ne, h.below.trans (hb.mono h.sz), Nat.le_trans h.sz hb.size⟩
theorem StP.drew (h : StP w wr B p q limit a c L a2 c2 M) : StP w wr.drew B p q limit a c L a2 c2 M :=
  h.alloc (below_drewN (Below.refl _ _) 1)
theorem StP.drewN (h : StP w wr B p q limit a c L a2 c2 M) (n : Nat) : StP w (wr.drewN n) B p q limit a c L a2 c2 M :=
  h.alloc (below_drewN (Below.refl _ _) n)

theorem bag_apart {T T' : Nat} (hTT : T ≠ T') (hT : T ≠ 35) (hT' : T' ≠ 35) (hT8 : T ≠ 5)  (h : BagAt T wr B p limit a c L) (h' : BagAt T' wr B q limit a2 c2 M) (hne : ∀ k, a.map (·.block) = some k → a2.map (·.block) ≠ some k) :
    ¬ BagF p a q ∧ (∀ k, a2.map (·.block) = some k → ¬ BagF p a k) ∧ (∀ x ∈ M, ∀ k, x.v.ownBlock = some k → ¬ BagF p a k) := by
  refine ⟨?_, ?_, ?_⟩
  · rintro (h1 | h1)
    · subst h1; have h2 := h.hp; rw [h'.hp] at h2; simp only [Option.some.injEq, Obj.cells.injEq] at h2; exact hTT h2.2.1.symm
    · exact own_ne h.row h'.hp hT' (by rw [ownBlock_slice]; exact h1)
  · intro k hk; rintro (h1 | h1)
    · subst h1; exact own_ne h'.row h.hp hT (by rw [ownBlock_slice]; exact hk)
    · exact hne k h1 hk
  · intro x hx k hk; exact h.notF hT8 (h'.each x hx) hk

theorem StP.apart (h : StP w wr B p q limit a c L a2 c2 M) : ¬ BagF p a q ∧ (∀ k, a2.map (·.block) = some k → ¬ BagF p a k) ∧ (∀ x ∈ M, ∀ k, x.v.ownBlock = some k → ¬ BagF p a k) := bag_apart (by decide) (by decide) (by decide) (by decide) h.bag h.rb h.ne
theorem StP.apart' (h : StP w wr B p q limit a c L a2 c2 M) : ¬ BagF q a2 p ∧ (∀ k, a.map (·.block) = some k → ¬ BagF q a2 k) ∧ (∀ x ∈ L, ∀ k, x.v.ownBlock = some k → ¬ BagF q a2 k) := bag_apart (by decide) (by decide) (by decide) (by decide) h.rb h.bag (fun k hk h1 => h.ne k h1 hk)

theorem StP.left (h : StP w wr B p q limit a c L a2 c2 M) {wr' : World} {a' : Option Addr} {c' : Nat} {L' : List Lt} (hc : Chg (BagF p a) wr wr') (hbag : BagAt 62 wr' B p limit a' c' L')
    (ha : a'.map (·.block) = a.map (·.block) ∨ ∃ g, a'.map (·.block) = some g ∧ wr.heap.size ≤ g) : StP w wr' B p q limit a' c' L' a2 c2 M := by
  obtain ⟨p1, p2, p3⟩ := h.apart
  refine ⟨hbag, h.rb.chg hc p1 p2 p3, fun k hk h1 => ?_, h.below.trans (hc.toBelow h.sz h.bag.low), Nat.le_trans h.sz hc.size⟩
  rcases ha with ha | ⟨g, ha, hg⟩
  · exact h.ne k (by rw [← ha]; exact hk) h1
  · have := (own_lt h.rb.row (k := k) (by rw [ownBlock_slice]; exact h1)).2
    rw [ha] at hk; have := Option.some.inj hk; omega

theorem StP.right (h : StP w wr B p q limit a c L a2 c2 M) {wr' : World} {a' : Option Addr} {c' : Nat} {M' : List Lt} (hc : Chg (BagF q a2) wr wr') (hrb : BagAt 54 wr' B q limit a' c' M')
    (ha : ∀ k, a'.map (·.block) = some k → a2.map (·.block) = some k ∨ wr.heap.size ≤ k) : StP w wr' B p q limit a c L a' c' M' := by
  obtain ⟨p1, p2, p3⟩ := h.apart'
  refine ⟨h.bag.chg hc p1 p2 p3, hrb, fun k hk h1 => ?_, h.below.trans (hc.toBelow h.sz h.rb.low), Nat.le_trans h.sz hc.size⟩
  rcases ha k h1 with h2 | h2
  · exact h.ne k hk h2
  · have := (own_lt h.bag.row (k := k) (by rw [ownBlock_slice]; exact hk)).2; omega

theorem or_of {wr : World} {a' a2 : Option Addr} (h : a'.map (·.block) = a2.map (·.block) ∨ ∃ g, a'.map (·.block) = some g ∧ wr.heap.size ≤ g) : ∀ k, a'.map (·.block) = some k → a2.map (·.block) = some k ∨ wr.heap.size ≤ k := by
  intro k hk
  rcases h with h | ⟨g, h, hg⟩
  · exact .inl (h ▸ hk)
  · rw [h] at hk; have := Option.some.inj hk; exact .inr (by omega)

theorem StP.low (h : StP w wr B p q limit a c L a2 c2 M) {k : Nat} (hk : wr.heap.size ≤ k) : ¬ BagF p a k ∧ ¬ BagF q a2 k := ⟨h.bag.old hk, h.rb.old hk⟩

/-- the bytes of a letter that is in the bag stay when the document's bag is turned -/
theorem StP.bytes (h : StP w wr B p q limit a c L a2 c2 M) {wr' : World} (hc : Chg (BagF q a2) wr wr') {B' n : Nat} {v : Value} {xs : List Value} (ho : wr.ownsRow B' 5 1 v n xs) : wr'.ownsRow B' 5 1 v n xs :=
  ownsRow_chg ho fun k hk hl => hc.block k hl (h.rb.notF (by decide) ho hk)
theorem StP.bytes' (h : StP w wr B p q limit a c L a2 c2 M) {wr' : World} (hc : Chg (BagF p a) wr wr') {B' n : Nat} {v : Value} {xs : List Value} (ho : wr.ownsRow B' 5 1 v n xs) : wr'.ownsRow B' 5 1 v n xs :=
  ownsRow_chg ho fun k hk hl => hc.block k hl (h.bag.notF (by decide) ho hk)
end

theorem cons_snoc {L M : List Lt} (h : cons_ L = cons_ M) {x y : Lt} (hc : x.con = y.con) : cons_ (L ++ [x]) = cons_ (M ++ [y]) := by
  simp only [cons_, List.map_append, List.map_cons, List.map_nil] at h ⊢; rw [h, hc]
theorem cons_erase {L M : List Lt} (h : cons_ L = cons_ M) (i : Nat) : cons_ (L.eraseIdx i) = cons_ (M.eraseIdx i) := by
  have hm : ∀ (L : List Lt) (i : Nat), cons_ (L.eraseIdx i) = (cons_ L).eraseIdx i := by
    intro L; induction L with
    | nil => intro i; rfl
    | cons x L ih => intro i; cases i with
      | zero => rfl
      | succ i => simp only [List.eraseIdx_cons_succ, cons_, List.map_cons] at ih ⊢; rw [ih]
  rw [hm, hm, h]
theorem cons_len {L M : List Lt} (h : cons_ L = cons_ M) : L.length = M.length := by
  have := congrArg List.length h; simpa [cons_] using this
theorem cons_get {L M : List Lt} (h : cons_ L = cons_ M) {i : Nat} {x : Lt} (hx : L[i]? = some x) : ∃ y, M[i]? = some y ∧ y.con = x.con := by
  have h1 : (cons_ M)[i]? = some x.con := by rw [← h, cons_, List.getElem?_map, hx]; rfl
  rw [cons_, List.getElem?_map] at h1
  obtain ⟨y, hy, hc⟩ := Option.map_eq_some_iff.1 h1
  exact ⟨y, hy, hc⟩

theorem rb_drop_in (w : World) (B p : Nat) (limit : Int) (a : Option Addr) (c : Nat) (L : List Lt) (i : Int) (h : BagAt 54 w B p limit a c L) (h0 : 0 ≤ i) (hi : i < (L.length : Int)) (hm : L.length ≤ 64) (hB : B ≤ w.heap.size) :
    Calls Try.prog 22 #[.pointer (some ⟨p, 0, none⟩), .int .i64 i] w fun e w' => e = .returned (.int .i64 0) ∧ ∃ a' c', BagAt 54 w' B p limit a' c' (L.eraseIdx i.toNat) ∧ (∀ k, a'.map (·.block) = some k → w.heap.size ≤ k) ∧ Chg (BagF p a) w w' := by
  obtain ⟨n, rfl⟩ := Int.eq_ofNat_of_zero_le h0
  rw [Int.toNat_natCast]
  exact rb_drop_yes w B p limit a c L n h (by omega) hm hB
theorem rb_take_in (w : World) (B p : Nat) (limit : Int) (a : Option Addr) (c : Nat) (L : List Lt) (i : Int) (y : Lt) (h : BagAt 54 w B p limit a c L) (h0 : 0 ≤ i) (hi : L[i.toNat]? = some y) (hm : L.length ≤ 64) (hB : B ≤ w.heap.size) (hy : y.bs.length ≤ 140737488351232) :
    Calls Try.prog 21 #[.pointer (some ⟨p, 0, none⟩), .int .i64 i] w fun e w' => ∃ ya yc, e = .returned (.tuple #[.agg #[.int .i64 y.tw, .slice ya y.bs.length yc], .int .i64 0]) ∧ w'.ownsRow w.heap.size 5 1 (.slice ya y.bs.length yc) y.bs.length (bys y.bs) ∧
      ∃ a' c', BagAt 54 w' B p limit a' c' (L.eraseIdx i.toNat) ∧ (∀ k, a'.map (·.block) = some k → w.heap.size ≤ k) ∧ Chg (BagF p a) w w' := by
  obtain ⟨n, rfl⟩ := Int.eq_ofNat_of_zero_le h0
  rw [Int.toNat_natCast] at hi ⊢
  exact rb_take_yes w B p limit a c L n y h hi hm hB hy
theorem rb_double_full_in (w : World) (B p : Nat) (limit : Int) (a : Option Addr) (c : Nat) (L : List Lt) (i : Int) (h : BagAt 54 w B p limit a c L) (h0 : 0 ≤ i) (hi : i < (L.length : Int)) (hl : limit ≤ L.length) :
    Calls Try.prog 23 #[.pointer (some ⟨p, 0, none⟩), .int .i64 i] w fun e w' => e = .returned (.int .i64 2) ∧ Below w.heap.size w w' := by
  obtain ⟨n, rfl⟩ := Int.eq_ofNat_of_zero_le h0
  exact rb_double_full w B p limit a c L n h (by omega) hl
theorem rb_double_in (w : World) (B p : Nat) (limit : Int) (a : Option Addr) (c : Nat) (L : List Lt) (i : Int) (y : Lt) (h : BagAt 54 w B p limit a c L) (h0 : 0 ≤ i) (hi : L[i.toNat]? = some y) (hl : L.length < limit) (hm : limit ≤ 64) (hBw : B ≤ w.heap.size)
    (hy : y.bs.length ≤ 140737488351232) :
    Calls Try.prog 23 #[.pointer (some ⟨p, 0, none⟩), .int .i64 i] w fun e w' => e = .returned (.int .i64 0) ∧ ∃ a' c' x, x.tw = y.tw ∧ x.bs = y.bs ∧ BagAt 54 w' B p limit a' c' (L ++ [x]) ∧
      w'.ownsRow w.heap.size 5 1 x.v y.bs.length (bys y.bs) ∧ (a'.map (·.block) = a.map (·.block) ∨ ∃ g, a'.map (·.block) = some g ∧ w.heap.size ≤ g) ∧ Chg (BagF p a) w w' := by
  obtain ⟨n, rfl⟩ := Int.eq_ofNat_of_zero_le h0
  rw [Int.toNat_natCast] at hi
  exact rb_double_ok w B p limit a c L n y h hi hl hm hBw hy

end Go.Proofs.Ytdolaiejkobaiaa
