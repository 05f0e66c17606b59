import Derived.Test.YtakkdaenindboaaVowT
namespace Go.Proofs.Ytakkdaenindboaa
set_option linter.unusedVariables false
set_option linter.unusedSimpArgs false
open Go.RowKit
attribute [local go_sem ↓] Go.wp_at_zero Go.wp_at_succ
attribute [local go_sem] run_store_complex run_store_float

/-! ### rows of breaks whose keys, versions, marks are written over -/
theorem flat_set {α : Type} (f : α → List Value) (sz : Nat) (hf : ∀ x, (f x).length = sz) : ∀ (L : List α) (k j : Nat) (x y : α) (v : Value), L[k]? = some x → j < sz → f y = (f x).set j v → (L.flatMap f).set (k * sz + j) v = (L.set k y).flatMap f
  | [], k, j, x, y, v, hx, _, _ => by simp at hx
  | a :: L, 0, j, x, y, v, hx, hj, hy => by
    simp only [List.getElem?_cons_zero, Option.some.injEq] at hx
    subst hx
    simp only [List.flatMap_cons, Nat.zero_mul, Nat.zero_add, List.set_cons_zero]
    rw [List.set_append_left _ _ (by rw [hf]; exact hj), hy]
  | a :: L, k + 1, j, x, y, v, hx, hj, hy => by
    have ih := flat_set f sz hf L k j x y v (by simpa using hx) hj hy
    simp only [List.flatMap_cons, List.set_cons_succ]
    rw [List.set_append_right _ _ (by rw [hf, Nat.succ_mul]; omega), hf, ← ih]
    congr 2
    rw [Nat.succ_mul]; omega
theorem ky_set' (X : List Ky) (k : Nat) (y : Ky) : ((kyc X).set (k * 2) (.int .i64 y.dir)).set (k * 2 + 1) (.string y.name) = kyc (X.set k y) := by
  by_cases h : k < X.length
  · exact ky_set X k y h
  · rw [List.set_eq_of_length_le (l := kyc X) (i := k * 2) (by rw [kyc_len]; omega), List.set_eq_of_length_le (by rw [kyc_len]; omega), List.set_eq_of_length_le (by omega)]

/-- a key stored -/
def set2at (w : World) (g o : Nat) (y : Ky) : World := (w.setCell ⟨g, o, none⟩ (.int .i64 y.dir)).setCell ⟨g, o + 1, none⟩ (.string y.name)
theorem set2at_chg (w : World) (g o : Nat) (y : Ky) : Chg (fun k => k = g) w (set2at w g o y) := ((Chg.refl (fun k => k = g) w).setCell ⟨g, o, none⟩ _ (.inl rfl)).setCell ⟨g, o + 1, none⟩ _ (.inl rfl)
theorem own_set2 {w : World} {B n g c : Nat} {L : List Ky} (k : Nat) (y : Ky) (h : w.ownsRow B 37 2 (.slice (some ⟨g, 0, none⟩) n c) n (kyc L)) : (set2at w g (k * 2) y).ownsRow B 37 2 (.slice (some ⟨g, 0, none⟩) n c) n (kyc (L.set k y)) := by
  have h2 := own_setc (own_setc h (k * 2) (.int .i64 y.dir)) (k * 2 + 1) (.string y.name)
  rw [ky_set'] at h2
  exact h2
theorem own_none {w : World} {B e sz n g : Nat} {v : Value} {xs : List Value} (h : w.ownsRow B e sz v n xs) (hg : v.ownBlock = some g) : ∃ c, v = .slice (some ⟨g, 0, none⟩) n c := by
  rcases h.2 with ⟨rfl, _⟩ | ⟨g', cap, cur, rfl, _⟩
  · simp [Value.ownBlock] at hg
  · simp only [ownBlock_slice, Option.map_some, Option.some.injEq] at hg
    subst hg
    exact ⟨cap, rfl⟩

/-- breaks behind a key that was written into block g -/
def wrB (R : List Bk) (g j : Nat) (y : Ky) : List Bk := R.map fun x => if x.v.ownBlock = some g then { x with ks := x.ks.set j y } else x
theorem wrB_len (R : List Bk) (g j : Nat) (y : Ky) : (wrB R g j y).length = R.length := by simp [wrB]
theorem wrB_bkc (R : List Bk) (g j : Nat) (y : Ky) : bkc (wrB R g j y) = bkc R := by
  unfold bkc wrB
  induction R with
  | nil => rfl
  | cons x R ih =>
    simp only [List.map_cons, List.flatMap_cons]
    rw [ih]
    congr 1
    split
    · simp [Bk.cells]
    · rfl
theorem wrB_at {R : List Bk} {g j k : Nat} {y : Ky} {x : Bk} (h : R[k]? = some x) (hb : x.v.ownBlock = some g) : (wrB R g j y)[k]? = some { x with ks := x.ks.set j y } := by
  rw [wrB, List.getElem?_map, h, Option.map_some, if_pos hb]
theorem wrB_v {R : List Bk} {g j : Nat} {y : Ky} {x : Bk} (h : x ∈ wrB R g j y) : ∃ x0 ∈ R, x.v = x0.v ∧ x.ks.length = x0.ks.length ∧ (x0.v.ownBlock = some g → x.ks = x0.ks.set j y) ∧ (x0.v.ownBlock ≠ some g → x = x0) := by
  obtain ⟨x0, h0, rfl⟩ := List.mem_map.1 h
  refine ⟨x0, h0, ?_⟩
  split
  · rename_i hb; exact ⟨by simp [Bk.v], by simp, fun _ => rfl, fun hn => absurd hb hn⟩
  · rename_i hb; exact ⟨rfl, rfl, fun hn => absurd hn hb, fun _ => rfl⟩
theorem BrsOut.key {a : Option Addr} {R : List Bk} {F : Nat → Prop} (h : BrsOut a R F) (g j : Nat) (y : Ky) : BrsOut a (wrB R g j y) F :=
  ⟨h.1, fun x hx k hk => by obtain ⟨x0, h0, hv, _⟩ := wrB_v hx; exact h.2 x0 h0 k (by rw [← hv]; exact hk)⟩
theorem BrsAt.key {w : World} {B : Nat} {a : Option Addr} {c : Nat} {R : List Bk} (h : BrsAt w B a c R) {g j : Nat} (y : Ky) {x : Bk} (hx : x ∈ R) (hg : x.v.ownBlock = some g) : BrsAt (set2at w g (j * 2) y) B a c (wrB R g j y) := by
  have hc := set2at_chg w g (j * 2) y
  refine ⟨?_, fun x' hx' => ?_⟩
  · rw [wrB_len, wrB_bkc]
    exact ownsRow_chg h.row fun k hk hl => hc.block k hl (fun e => by subst e; exact own_ne2 h.row (h.each x hx) (by decide) _ hk hg)
  · obtain ⟨x0, h0, hv, hl, hy, hn⟩ := wrB_v hx'
    by_cases hb : x0.v.ownBlock = some g
    · obtain ⟨c0, hc0⟩ := own_none (h.each x0 h0) hb
      have h2 := h.each x0 h0
      rw [hc0] at h2
      have h3 := own_set2 j y h2
      rw [hv, hl, hy hb, hc0]
      exact h3
    · rw [hn hb]
      exact ownsRow_chg (h.each x0 h0) fun k hk hl => hc.block k hl (fun e => by subst e; exact hb hk)
theorem BrsOut.put {a : Option Addr} {R : List Bk} {F : Nat → Prop} (h : BrsOut a R F) {k : Nat} {x y : Bk} (hx : R[k]? = some x) (hv : y.v = x.v) : BrsOut a (R.set k y) F :=
  ⟨h.1, fun z hz b hb => by
    rcases List.mem_or_eq_of_mem_set hz with h1 | rfl
    · exact h.2 z h1 b hb
    · exact h.2 x (List.mem_of_getElem? hx) b (by rw [← hv]; exact hb)⟩
theorem BrsAt.put {w : World} {B g : Nat} {c : Nat} {R : List Bk} (h : BrsAt w B (some ⟨g, 0, none⟩) c R) {k j : Nat} {x y : Bk} {u : Value} (hx : R[k]? = some x) (hj : j < 4) (hy : y.cells = x.cells.set j u) (hv : y.v = x.v) (hk : y.ks = x.ks) : BrsAt (w.setCell ⟨g, k * 4 + j, none⟩ u) B (some ⟨g, 0, none⟩) c (R.set k y) := by
  have hm := List.mem_of_getElem? hx
  refine ⟨?_, fun z hz => ?_⟩
  · have h2 := own_setc h.row (k * 4 + j) u
    rw [show (bkc R).set (k * 4 + j) u = bkc (R.set k y) from flat_set Bk.cells 4 (fun _ => rfl) R k j x y u hx hj hy] at h2
    rw [List.length_set]
    exact h2
  · have hcg : Chg (fun i => i = g) w (w.setCell ⟨g, k * 4 + j, none⟩ u) := (Chg.refl _ w).setCell _ _ (.inl rfl)
    have hz' : w.ownsRow B 37 2 z.v z.ks.length (kyc z.ks) := by
      rcases List.mem_or_eq_of_mem_set hz with h1 | rfl
      · exact h.each z h1
      · rw [hv, hk]; exact h.each x hm
    exact ownsRow_chg hz' fun b hb hl => hcg.block b hl (fun e => by subst e; exact own_ne2 h.row hz' (by decide) _ rfl hb)
theorem BrsAt.low {w : World} {B B' : Nat} {a : Option Addr} {c : Nat} {R : List Bk} (h : BrsAt w B a c R) (hB : B' ≤ B) : BrsAt w B' a c R := ⟨ownsRow_mono h.row hB, fun x hx => ownsRow_mono (h.each x hx) hB⟩
theorem BrsAt.out {w : World} {B : Nat} {a : Option Addr} {c : Nat} {R : List Bk} (h : BrsAt w B a c R) {F : Nat → Prop} (hF : ∀ k, F k → k < B) : BrsOut a R F :=
  ⟨fun k hk hf => by have h1 := (own_lt h.row (by rw [ownBlock_slice]; exact hk)).1; have := hF k hf; omega, fun x hx k hk hf => by have h1 := (own_lt (h.each x hx) hk).1; have := hF k hf; omega⟩
theorem BrsAt.move {w w' : World} {B : Nat} {a : Option Addr} {c : Nat} {R : List Bk} {G : Nat → Prop} (h : BrsAt w B a c R) (hc : Chg G w w') (hG : BrsOut a R G) : BrsAt w' B a c R :=
  ⟨ownsRow_chg h.row fun k hk hl => hc.block k hl (hG.1 k (by rw [← ownBlock_slice]; exact hk)), fun x hx => ownsRow_chg (h.each x hx) fun k hk hl => hc.block k hl (hG.2 x hx k hk)⟩
theorem BrsOut.grow {w : World} {B : Nat} {a : Option Addr} {c : Nat} {R : List Bk} {G G' : Nat → Prop} (h : BrsOut a R G) (hb : BrsAt w B a c R) (hg : Fgrow w G G') : BrsOut a R G' :=
  ⟨fun k hk hf => by
    rcases hg k hf with h1 | h1
    · exact h.1 k hk h1
    · have := (own_lt hb.row (by rw [ownBlock_slice]; exact hk)).2; omega, fun x hx k hk hf => by
    rcases hg k hf with h1 | h1
    · exact h.2 x hx k hk h1
    · have := (own_lt (hb.each x hx) hk).2; omega⟩

/-! ### two tables -/
section
variable {w wr w' : World} {F G : Nat → Prop} {p q : Nat} {t u : Ts}
theorem V2.chg (h : V2 w wr F p t G q u) {H : Nat → Prop} (hc : Chg H wr w') (hF : ∀ k, H k → ¬ F k ∧ ¬ G k ∧ w.heap.size ≤ k) : V2 w w' F p t G q u :=
  ⟨⟨h.a.v.chg hc (fun k hk hh => (hF k hh).1 hk), h.a.lo, h.a.below.trans (hc.toBelow h.a.sz fun i hi hh => by have := (hF i hh).2.2; omega)⟩,
   ⟨h.b.v.chg hc (fun k hk hh => (hF k hh).2.1 hk), h.b.lo, h.b.below.trans (hc.toBelow h.b.sz fun i hi hh => by have := (hF i hh).2.2; omega)⟩, h.apart⟩
theorem V2.sz (h : V2 w wr F p t G q u) : w.heap.size ≤ wr.heap.size := h.a.sz
theorem V2.two1 (h : V2 w wr F p t G q u) {r : Ts × List Bp} {e : Ending} (hp : BrkPost wr F p r e w') : ∃ (F' : Nat → Prop) (a : Option Addr) (c : Nat) (R : List Bk), e = .returned (.slice a R.length c) ∧ V2 w w' F' p r.1 G q u ∧ R.map Bk.pl = r.2 ∧ BrsAt w' wr.heap.size a c R ∧ BrsOut a R F' ∧ Chg F wr w' ∧ Fgrow wr F F' := by
  obtain ⟨F', a, c, R, he, hs, hR, hB, hO, hC, hF⟩ := h.a.brk hp
  refine ⟨F', a, c, R, he, ⟨hs, ⟨h.b.v.chg hC (fun k hg hf => h.apart k hf hg), h.b.lo, hs.below⟩, fun k hk hg => ?_⟩, hR, hB, hO, hC, hF⟩
  rcases hF k hk with h1 | h1
  · exact h.apart k h1 hg
  · have := h.b.v.lt k hg; omega
theorem V2.two2 (h : V2 w wr F p t G q u) {r : Ts × List Bp} {e : Ending} (hp : BrkPost wr G q r e w') : ∃ (G' : Nat → Prop) (a : Option Addr) (c : Nat) (R : List Bk), e = .returned (.slice a R.length c) ∧ V2 w w' F p t G' q r.1 ∧ R.map Bk.pl = r.2 ∧ BrsAt w' wr.heap.size a c R ∧ BrsOut a R G' ∧ Chg G wr w' ∧ Fgrow wr G G' := by
  obtain ⟨F', a, c, R, he, hs, r1⟩ := h.flip.two1 hp
  exact ⟨F', a, c, R, he, hs.flip, r1⟩
end

/-- a row of keys of the caller's own, beside two tables -/
structure Mn (w wr : World) (F G : Nat → Prop) (g c : Nat) (M : List Ky) : Prop where
  row : wr.ownsRow w.heap.size 37 2 (.slice (some ⟨g, 0, none⟩) M.length c) M.length (kyc M)
  nf : ¬ F g
  ng : ¬ G g
section
variable {w wr w' : World} {F F' G G' : Nat → Prop} {p q g c : Nat} {t u : Ts} {M : List Ky}
theorem Mn.lt (h : Mn w wr F G g c M) : w.heap.size ≤ g ∧ g < wr.heap.size := own_lt h.row rfl
theorem Mn.chg (h : Mn w wr F G g c M) {H : Nat → Prop} (hc : Chg H wr w') (hn : ¬ H g) : Mn w w' F G g c M :=
  ⟨ownsRow_chg h.row fun k hk hl => hc.block k hl (by simp only [ownBlock_slice, Option.map_some, Option.some.injEq] at hk; subst hk; exact hn), h.nf, h.ng⟩
theorem Mn.below (h : Mn w wr F G g c M) (hb : Below wr.heap.size wr w') : Mn w w' F G g c M := h.chg (Chg.below hb) fun h => h
theorem Mn.grow1 (h : Mn w wr F G g c M) (hg : Fgrow wr F F') : Mn w wr F' G g c M := ⟨h.row, fun hf => by rcases hg g hf with h1 | h1; exact h.nf h1; have := h.lt.2; omega, h.ng⟩
theorem Mn.grow2 (h : Mn w wr F G g c M) (hg : Fgrow wr G G') : Mn w wr F G' g c M := ⟨h.row, h.nf, fun hf => by rcases hg g hf with h1 | h1; exact h.ng h1; have := h.lt.2; omega⟩
end

/-- two tables, breaks that were told, and a row of the caller's own -/
structure KT (w wr : World) (F : Nat → Prop) (p : Nat) (t : Ts) (G : Nat → Prop) (q : Nat) (u : Ts) (g c : Nat) (M : List Ky) (a : Option Addr) (d : Nat) (R : List Bk) : Prop where
  v : V2 w wr F p t G q u
  m : Mn w wr F G g c M
  at_ : BrsAt wr w.heap.size a d R
  of : BrsOut a R F
  og : BrsOut a R G
  om : BrsOut a R fun k => k = g
section
variable {w wr w' : World} {F F' G G' : Nat → Prop} {p q g c : Nat} {t u : Ts} {M : List Ky} {a : Option Addr} {d : Nat} {R : List Bk}
theorem KT.chg (h : KT w wr F p t G q u g c M a d R) {H : Nat → Prop} (hc : Chg H wr w') (hF : ∀ k, H k → ¬ F k ∧ ¬ G k ∧ w.heap.size ≤ k ∧ k ≠ g) (hb : BrsOut a R H) : KT w w' F p t G q u g c M a d R :=
  ⟨h.v.chg hc (fun k hk => ⟨(hF k hk).1, (hF k hk).2.1, (hF k hk).2.2.1⟩), h.m.chg hc (fun hh => (hF g hh).2.2.2 rfl), h.at_.move hc hb, h.of, h.og, h.om⟩
theorem KT.below (h : KT w wr F p t G q u g c M a d R) (hb : Below wr.heap.size wr w') : KT w w' F p t G q u g c M a d R :=
  h.chg (Chg.below hb) (fun k hk => hk.elim) ⟨fun _ _ h => h, fun _ _ _ _ h => h⟩
theorem KT.key (h : KT w wr F p t G q u g c M a d R) {b j : Nat} (y : Ky) {x : Bk} (hx : x ∈ R) (hg : x.v.ownBlock = some b) : KT w (set2at wr b (j * 2) y) F p t G q u g c M a d (wrB R b j y) := by
  have hc := set2at_chg wr b (j * 2) y
  have h3 := h.om.2 x hx b hg
  refine ⟨h.v.chg hc (fun k hk => ?_), h.m.chg hc (fun e => h3 e.symm), h.at_.key y hx hg, h.of.key _ _ _, h.og.key _ _ _, h.om.key _ _ _⟩
  subst hk
  exact ⟨h.of.2 x hx _ hg, h.og.2 x hx _ hg, (own_lt (h.at_.each x hx) hg).1⟩
theorem KT.put {e : Nat} (h : KT w wr F p t G q u g c M (some ⟨e, 0, none⟩) d R) {k j : Nat} {x y : Bk} {z : Value} (hx : R[k]? = some x) (hj : j < 4) (hy : y.cells = x.cells.set j z) (hv : y.v = x.v) (hk : y.ks = x.ks) : KT w (wr.setCell ⟨e, k * 4 + j, none⟩ z) F p t G q u g c M (some ⟨e, 0, none⟩) d (R.set k y) := by
  have hc : Chg (fun i => i = e) wr (wr.setCell ⟨e, k * 4 + j, none⟩ z) := (Chg.refl _ wr).setCell _ _ (.inl rfl)
  refine ⟨h.v.chg hc (fun i hi => ?_), h.m.chg hc (fun e' => h.om.1 e rfl e'.symm), h.at_.put hx hj hy hv hk, h.of.put hx hv, h.og.put hx hv, h.om.put hx hv⟩
  subst hi
  exact ⟨h.of.1 _ rfl, h.og.1 _ rfl, (own_lt h.at_.row rfl).1⟩
theorem KT.mine (h : KT w wr F p t G q u g c M a d R) (i : Nat) (y : Ky) : KT w (set2at wr g (i * 2) y) F p t G q u g c (M.set i y) a d R := by
  have hc := set2at_chg wr g (i * 2) y
  refine ⟨h.v.chg hc (fun k hk => ?_), ⟨by rw [List.length_set]; exact own_set2 i y h.m.row, h.m.nf, h.m.ng⟩, h.at_.move hc h.om, h.of, h.og, h.om⟩
  subst hk
  exact ⟨h.m.nf, h.m.ng, h.m.lt.1⟩
/-- a break of t, then one of u -/
theorem KT.of1 (hv : V2 w wr F p t G q u) (hm : Mn w wr F G g c M) {r : Ts × List Bp} {e : Ending} (hp : BrkPost wr F p r e w') : ∃ (F' : Nat → Prop) (a : Option Addr) (d : Nat) (R : List Bk), e = .returned (.slice a R.length d) ∧ KT w w' F' p r.1 G q u g c M a d R ∧ R.map Bk.pl = r.2 ∧ Chg F wr w' := by
  obtain ⟨F', a, d, R, he, hv', hR, hB, hO, hC, hF⟩ := hv.two1 hp
  exact ⟨F', a, d, R, he, ⟨hv', (hm.grow1 hF).chg hC hm.nf, hB.low hv.sz, hO, hB.out hv.b.v.lt, hB.out (fun k hk => by subst hk; exact hm.lt.2)⟩, hR, hC⟩
theorem KT.of2 (h : KT w wr F p t G q u g c M a d R) {r : Ts × List Bp} {e : Ending} (hp : BrkPost wr G q r e w') : ∃ (G' : Nat → Prop) (b : Option Addr) (k : Nat) (S : List Bk), e = .returned (.slice b S.length k) ∧ KT w w' F p t G' q r.1 g c M a d R ∧ Chg G wr w' := by
  obtain ⟨G', b, k, S, he, hv', hR, hB, hO, hC, hG⟩ := h.v.two2 hp
  exact ⟨G', b, k, S, he, ⟨hv', (h.m.grow2 hG).chg hC h.m.ng, h.at_.move hC h.og, h.of, h.og.grow h.at_ hG, h.om⟩, hC⟩
/-- new breaks told -/
theorem KT.fresh (hv : V2 w wr F p t G q u) (hm : Mn w wr F G g c M) (hb : Below wr.heap.size wr w') (hB : BrsAt w' wr.heap.size a d R) : KT w w' F p t G q u g c M a d R :=
  ⟨hv.alloc hb, hm.below hb, hB.low hv.sz, hB.out hv.a.v.lt, hB.out hv.b.v.lt, hB.out (fun k hk => by subst hk; exact hm.lt.2)⟩
end

end Go.Proofs.Ytakkdaenindboaa
