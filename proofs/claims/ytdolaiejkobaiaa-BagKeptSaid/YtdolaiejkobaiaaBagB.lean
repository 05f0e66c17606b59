import Derived.Test.YtdolaiejkobaiaaBagA
namespace Go.Proofs.Ytdolaiejkobaiaa
set_option linter.unusedVariables false
set_option linter.unusedSimpArgs false
open Go.RowKit
attribute [local go_sem ↓] Go.wp_at_zero Go.wp_at_succ

/-- a letter: tw whom, the slice of its bytes, the bytes -/
structure Lt where
  tw : Int
  a : Option Addr
  c : Nat
  bs : List Int

def Lt.v (x : Lt) : Value := .slice x.a x.bs.length x.c
def Lt.cells (x : Lt) : List Value := [.int .i64 x.tw, x.v]
def lcs (L : List Lt) : List Value := L.flatMap Lt.cells

theorem lcs_len (L : List Lt) : (lcs L).length = L.length * 2 := by
  induction L with
  | nil => rfl
  | cons x L ih => simp [lcs, Lt.cells] at ih ⊢; omega

theorem lcs_snoc (L : List Lt) (x : Lt) : lcs (L ++ [x]) = lcs L ++ [.int .i64 x.tw, x.v] := by simp [lcs, Lt.cells]

theorem lcs_at {L : List Lt} {k : Nat} {x : Lt} (h : L[k]? = some x) : (lcs L)[k * 2]? = some (.int .i64 x.tw) ∧ (lcs L)[k * 2 + 1]? = some x.v := by
  induction L generalizing k with
  | nil => simp at h
  | cons y L ih =>
    cases k with
    | zero => simp at h; subst h; simp [lcs, Lt.cells]
    | succ k =>
      have := ih (by simpa using h)
      have e1 : (k + 1) * 2 = k * 2 + 1 + 1 := by omega
      have e2 : (k + 1) * 2 + 1 = k * 2 + 1 + 1 + 1 := by omega
      simp only [lcs, List.flatMap_cons, Lt.cells, List.cons_append, List.nil_append, e1, e2, List.getElem?_cons_succ] at this ⊢
      exact this

theorem lcs_one (L : List Lt) : ∀ u ∈ lcs L, u.oneCell' = true := by
  intro u hu
  simp only [lcs, List.mem_flatMap, Lt.cells] at hu
  obtain ⟨x, _, hx⟩ := hu
  simp at hx
  rcases hx with rfl | rfl <;> rfl

/-- a bag in memory, at block p, of letters L; all of it lies from B on -/
structure BagAt (T : Nat) (w : World) (B p : Nat) (limit : Int) (a : Option Addr) (c : Nat) (L : List Lt) : Prop where
  hB : B ≤ p
  hp : w.heap[p]? = some (.cells #[.int .i64 limit, .slice a L.length c] T (0, 0))
  row : w.ownsRow B 35 2 (.slice a L.length c) L.length (lcs L)
  each : ∀ x ∈ L, w.ownsRow B 5 1 x.v x.bs.length (bys x.bs)

theorem BagAt.ne {T : Nat} {w : World} {B p : Nat} {limit : Int} {a : Option Addr} {c : Nat} {L : List Lt} (h : BagAt T w B p limit a c L) (hT : T ≠ 35) : some p ≠ (Value.slice a L.length c).ownBlock := by
  intro e
  obtain ⟨cur, h1⟩ := own_type h.row e.symm
  rw [h.hp] at h1
  simp only [Option.some.injEq, Obj.cells.injEq] at h1
  exact hT h1.2.1

/-- the blocks that a bag writes tw -/
def BagF (p : Nat) (a : Option Addr) (k : Nat) : Prop := k = p ∨ a.map (·.block) = some k

theorem BagAt.chg {T : Nat} {w w' : World} {B p : Nat} {limit : Int} {a : Option Addr} {c : Nat} {L : List Lt} (h : BagAt T w B p limit a c L) {F : Nat → Prop} (hc : Chg F w w')
    (h1 : ¬ F p) (h2 : ∀ k, a.map (·.block) = some k → ¬ F k) (h3 : ∀ x ∈ L, ∀ k, x.v.ownBlock = some k → ¬ F k) : BagAt T w' B p limit a c L := by
  refine ⟨h.hB, heap_chg hc h.hp h1, ownsRow_chg h.row fun k hk hl => hc.block k hl (h2 k ?_), fun x hx => ownsRow_chg (h.each x hx) fun k hk hl => hc.block k hl (h3 x hx k hk)⟩
  cases a <;> simp_all [Value.ownBlock]

theorem BagAt.below {T : Nat} {w w' : World} {B p : Nat} {limit : Int} {a : Option Addr} {c : Nat} {L : List Lt} (h : BagAt T w B p limit a c L) (hb : Below w.heap.size w w') : BagAt T w' B p limit a c L :=
  h.chg (Chg.below hb) (fun h => h) (fun _ _ h => h) (fun _ _ _ _ h => h)


theorem post_fin {T : Nat} (hT : T ≠ 35) (hT5 : T ≠ 5) {w w1 w2 : World} {B p : Nat} {limit : Int} {a : Option Addr} {c : Nat} {L : List Lt} {tw : Int} {l : List Int} {a' a2 : Option Addr} {c' c2 : Nat} {box o : Obj} {q : Nat}
    (h : BagAt T w B p limit a c L) (hBw : B ≤ w.heap.size) (hb : Below (w.alloc box).heap.size ((w.alloc box).drewN q) w1) (hown : w1.ownsRow (w.alloc box).heap.size 5 1 (.slice a' l.length c') l.length (bys l))
    (hgrow : (w1.alloc o).grownBy w2 (Value.slice a L.length c).ownBlock) (hown2 : w2.ownsRow B 35 2 (.slice a2 (L.length + 1) c2) (L.length + 1) (lcs L ++ [.int .i64 tw, .slice a' l.length c']))
    (hat : (Value.slice a2 (L.length + 1) c2).ownBlock = (Value.slice a L.length c).ownBlock ∨ (Value.slice a2 (L.length + 1) c2).ownBlock = some (w1.alloc o).heap.size) :
    ∃ a' c' x, x.tw = tw ∧ x.bs = l ∧ BagAt T (w2.setCell ⟨p, 1, none⟩ (.slice a2 (L.length + 1) c2)) B p limit a' c' (L ++ [x]) ∧
      (w2.setCell ⟨p, 1, none⟩ (.slice a2 (L.length + 1) c2)).ownsRow w.heap.size 5 1 x.v l.length (bys l) ∧ (a'.map (·.block) = a.map (·.block) ∨ ∃ g, a'.map (·.block) = some g ∧ w.heap.size ≤ g) ∧
      Chg (BagF p a) w (w2.setCell ⟨p, 1, none⟩ (.slice a2 (L.length + 1) c2)) := by
  have hsz : w.heap.size ≤ (w.alloc box).heap.size := by simp
  have hb1 : Below w.heap.size w w1 := (below_drewN (bl1 w box) q).trans (hb.mono hsz)
  have hs1 := hb1.size
  have hp1 := heap_old (heap_below hb1 h.hp (blk_lt h.hp)) o
  have hne := h.ne hT
  have hp2 := heap_grown hgrow hp1 hne
  have hrow1 := own_below h.row hb1
  have hrow1' := own_alloc hrow1 o
  have hx2 := own_grown (own_alloc hown o) hgrow fun k hk => own_ne2 (own_alloc hown o) hrow1' (by decide) k hk
  refine ⟨a2, c2, ⟨tw, a', c', l⟩, rfl, rfl, ⟨h.hB, ?_, ?_, ?_⟩, ?_, ?_, ?_⟩
  · rw [List.length_append]; exact heap_set hp2 1 _
  · rw [lcs_snoc, List.length_append]; exact own_set hown2 (own_ne hown2 hp2 hT) _ _
  · intro x hx
    rcases List.mem_append.1 hx with hx | hx
    · have h1 := own_alloc (own_below (h.each x hx) hb1) o
      have h2 := own_grown h1 hgrow fun k hk => own_ne2 h1 hrow1' (by decide) k hk
      exact own_set h2 (own_ne h2 hp2 hT5) _ _
    · obtain rfl := List.mem_singleton.1 hx
      exact own_set (ownsRow_mono hx2 (by omega)) (own_ne hx2 hp2 hT5) _ _
  · exact own_set (ownsRow_mono hx2 hsz) (own_ne hx2 hp2 hT5) _ _
  · simp only [ownBlock_slice] at hat
    rcases hat with hat | hat
    · exact .inl hat
    · exact .inr ⟨_, hat, by simp; omega⟩
  · refine Chg.setCell (Chg.grown ((Chg.mono (Chg.below hb1) (fun _ _ h => h.elim)).alloc o) hgrow ?_) _ _ (.inl (.inl rfl))
    intro k hk
    rw [ownBlock_slice] at hk
    exact .inl (.inr hk)

set_option maxHeartbeats 400000 in
theorem bag_post_full (w : World) (B p : Nat) (limit : Int) (a : Option Addr) (c : Nat) (L : List Lt) (tw : Int) (lv : Value) (h : BagAt 62 w B p limit a c L) (hl : limit ≤ L.length) :
    Calls Try.prog 11 #[.pointer (some ⟨p, 0, none⟩), .agg #[.int .i64 tw, lv]] w fun e w' => e = .returned (.int .i64 2) ∧ Below w.heap.size w w' := by
  have hlen : L.length ≤ maxLen := (Rd.own h.row).len
  unfold maxLen at hlen
  have hpz := blk_lt h.hp
  have b0 := blk2 h.hp
  clear h
  go_enter Try.func11, Try.ntmps11
  go_wp2_with fail
  go_quiet (fail)
  go_wp2
  go_ret
  exact ⟨rfl, below_drewN (bl1 w _) _⟩

set_option maxHeartbeats 1000000 in
theorem bag_post_ok (w : World) (B p : Nat) (limit : Int) (a : Option Addr) (c : Nat) (L : List Lt) (tw : Int) (lv : Value) (l : List Int) (h : BagAt 62 w B p limit a c L) (hl : L.length < limit) (hm : limit ≤ 64)
    (hv : Rd w lv l.length (bys l)) (hll : l.length ≤ 140737488351232) (hBw : B ≤ w.heap.size) :
    Calls Try.prog 11 #[.pointer (some ⟨p, 0, none⟩), .agg #[.int .i64 tw, lv]] w fun e w' => e = .returned (.int .i64 0) ∧ ∃ a' c' x, x.tw = tw ∧ x.bs = l ∧ BagAt 62 w' B p limit a' c' (L ++ [x]) ∧
      w'.ownsRow w.heap.size 5 1 x.v l.length (bys l) ∧ (a'.map (·.block) = a.map (·.block) ∨ ∃ g, a'.map (·.block) = some g ∧ w.heap.size ≤ g) ∧ Chg (BagF p a) w w' := by
  obtain ⟨va, vc, rfl, _, _⟩ := hv.shape
  have hpz := blk_lt h.hp
  have b0 := blk2 h.hp
  have hBp := h.hB
  have hne := h.ne (by decide)
  obtain ⟨i1, hi1, hy0, hy1, hy2⟩ := info_parts infoLt
  have HI := hid hi1
  have HR := hid h.row
  have HH := hid h
  have HV := hid hv
  have hn0 : (0 : Int) ≤ L.length := by omega
  clear h hv hi1
  go_enter Try.func11, Try.ntmps11
  go_wp2_with fail
  go_quiet (fail)
  go_wp2_with fail
  go_region_law (first
      | (refine step_append_rd (by rfl) _ _ 28 (by rfl) B 35 i1 _ 2 32 Try.underlying28 HI.out hy0 hy1 hy2 rfl (by decide) (.slice a L.length c) L.length (lcs L) (by rfl) (own_alloc hrow.out _) (.slice (some ⟨w1.heap.size, 0, none⟩) 1 1) 1 [.int .i64 tw, .slice a' l.length c'] (by rfl) (rd_blk (heap_new w1 _) (by unfold maxLen; omega)) rfl (by intro u hu; simp at hu; rcases hu with rfl | rfl <;> rfl) (by unfold maxLen; omega) (by omega) (by simp; omega) ?_; intro a2 c2 w2 hown2 hgrow2 hat2; (have kp := heap_grown hgrow2 (heap_old K1.out _) hne); (have b3 := blk2 kp); (have KP := hid kp); clear kp)
      | (go_simp; go_at_call 28; refine (own_any' _ _ l _ ((HV.out.alloc _).drewN _) hll).mono ?_; rintro e w1 ⟨a', c', rfl, hown, hb⟩; (have k0 := heap_below hb (heap_new w _) (by first | (simp; done) | (simp; omega))); (have b1 := blk2 k0); (have k1 := heap_below hb (heap_old HH.out.hp _) (by first | (simp; done) | (simp; omega))); (have b2 := blk2 k1); (have hz := blk_lt k0); (have hz2 := blk_lt k1); (have hrow := hid (own_below (own_drewN (own_alloc HR.out _) _) hb)); (have K1 := hid k1); clear k0 k1))
  all_goals (go_wp2; go_ret; exact ⟨rfl, post_fin (by decide) (by decide) HH.out hBw hb hown hgrow2 hown2 hat2⟩)

end Go.Proofs.Ytdolaiejkobaiaa
