import Derived.Test.YtakkdaenindboaaVowT
import Derived.Test.YtakkdaenindboaaVowS
namespace Go.Proofs.Ytakkdaenindboaa
set_option linter.unusedVariables false
set_option linter.unusedSimpArgs false
open Go.RowKit
attribute [local go_sem ↓] Go.wp_at_zero Go.wp_at_succ
attribute [local go_sem] run_store_complex run_store_float

/-- what a call of a table does to it, and tells -/
structure Stp (t : Ts) (ver : Int) (t' : Ts) (L : List Bp) : Prop where
  P : t'.P = t.P
  Q : t'.Q = t.Q
  e : t'.e = t.e
  or : (L = [] ∧ t'.n = t.n ∧ ∀ k ∈ t.ks, k ∈ t'.ks) ∨ (∃ (al : Bool) (bks : List Ky) (q0 : List Bp), L = [⟨t.e, t.n + 1, ver, al, bks⟩] ∧ t'.n = t.n + 1 ∧ t'.qs = q0 ++ [⟨t.e, t.n + 1, ver, al, bks⟩] ∧ al = decide (bks = []) ∧ ∀ k ∈ t.ks, k ∉ t'.ks → al = true ∨ k ∈ bks)

theorem brk_stp {t0 t : Ts} {K : List Ky} {ver : Int} (hn : t.n < 1099511627776) (he : t.e = t0.e) (hnn : t.n = t0.n) (hP : t.P = t0.P) (hQ : t.Q = t0.Q) (hK : K ≠ []) (hk : ∀ k ∈ t0.ks, k ∈ t.ks ∨ k ∈ K) : Stp t0 ver (brkT t K ver).1 (brkT t K ver).2 := by
  by_cases hq : t.Q ≤ (t.qs.length : Int)
  · rw [brkT_all hn hq]
    exact ⟨hP, hQ, he, .inr ⟨true, [], [], by rw [he, hnn], by show t.n + 1 = _; rw [hnn], by rw [he, hnn]; rfl, rfl, fun k _ _ => .inl rfl⟩⟩
  · rw [brkT_add hn hq]
    refine ⟨hP, hQ, he, .inr ⟨false, sortK K, t.qs, by rw [he, hnn], by show t.n + 1 = _; rw [hnn], by rw [he, hnn], ?_, fun k h1 h2 => .inr ?_⟩⟩
    · have : sortK K ≠ [] := by
        intro h
        obtain ⟨y, ys, rfl⟩ := List.exists_cons_of_ne_nil hK
        have := ((sortK_is (y :: ys)).2 y).2 (List.mem_cons_self ..)
        rw [h] at this; cases this
      exact (decide_eq_false this).symm
    · rw [(sortK_is K).2]
      rcases hk k h1 with h | h
      · exact absurd h h2
      · exact h
theorem touch_stp {t : Ts} {K : List Ky} {ver : Int} (hn : t.n < 1099511627776) : Stp t ver (touchT t K ver).1 (touchT t K ver).2 := by
  unfold touchT
  by_cases hT : K.filter (tellB t.ks) = []
  · rw [if_pos hT]; exact ⟨rfl, rfl, rfl, .inl ⟨rfl, rfl, fun _ h => h⟩⟩
  · rw [if_neg hT]
    refine brk_stp hn rfl rfl rfl rfl hT fun k hk => ?_
    by_cases h : k ∈ K.filter (tellB t.ks)
    · exact .inr h
    · exact .inl ((relAll_mem _ _ _).2 ⟨hk, h⟩)
theorem grant_stp {t : Ts} {k : Ky} {ver : Int} (hn : t.n < 1099511627776) : Stp t ver (grantT t k ver).1 (grantT t k ver).2 := by
  have h1 : ∀ y ∈ t.ks, y ∈ relL t.ks k ++ [k] := fun y hy => by
    rw [List.mem_append, relL_mem, List.mem_singleton]
    by_cases h : y = k
    · exact .inr h
    · exact .inl ⟨hy, h⟩
  unfold grantT
  split
  · exact ⟨rfl, rfl, rfl, .inl ⟨rfl, rfl, h1⟩⟩
  · refine brk_stp hn rfl rfl rfl rfl (by simp) fun y hy => ?_
    by_cases h : y = (relL t.ks k ++ [k]).headD k
    · exact .inr (by rw [h]; exact List.mem_singleton.2 rfl)
    · exact .inl ((relL_mem _ _ _).2 ⟨h1 y hy, h⟩)
theorem ack_stp {t : Ts} {ver : Int} {qs : List Bp} : Stp t ver { t with qs := qs } [] := ⟨rfl, rfl, rfl, .inl ⟨rfl, rfl, fun _ h => h⟩⟩
theorem Stp.n_le {t t' : Ts} {ver : Int} {L : List Bp} (h : Stp t ver t' L) : t.n ≤ t'.n ∧ t'.n ≤ t.n + 1 := by
  rcases h.or with ⟨_, h1, _⟩ | ⟨_, _, _, _, h1, _⟩ <;> omega

theorem BrsAt.weak {w : World} {B : Nat} {a : Option Addr} {c : Nat} {R : List Bk} (h : BrsAt w B a c R) : BrsAt w 0 a c R := ⟨ownsRow_mono h.row (Nat.zero_le _), fun x hx => ownsRow_mono (h.each x hx) (Nat.zero_le _)⟩
theorem brs_nil (w : World) (B : Nat) : BrsAt w B none 0 [] := ⟨World.ownsRow_nil _ _ _ _, by simp⟩
theorem VS.named {w wr : World} {F : Nat → Prop} {p : Nat} {t : Ts} (h : VS w wr F p t) : ∃ W, W = wr := ⟨_, rfl⟩

theorem keep2 {w w' : World} {l1 l2 : Addr} {u1 u2 : Value} (h : w.cell? l1 = some u1 ∧ w.cell? l2 = some u2) (hb : Below w.heap.size w w') : w'.cell? l1 = some u1 ∧ w'.cell? l2 = some u2 :=
  ⟨below_cell hb (Nat.le_refl _) h.1, below_cell hb (Nat.le_refl _) h.2⟩
theorem keep5 {w w' : World} {l1 l2 l3 l4 l5 : Addr} {u1 u2 u3 u4 u5 : Value} (h : w.cell? l1 = some u1 ∧ w.cell? l2 = some u2 ∧ w.cell? l3 = some u3 ∧ w.cell? l4 = some u4 ∧ w.cell? l5 = some u5) (hb : Below w.heap.size w w') :
    w'.cell? l1 = some u1 ∧ w'.cell? l2 = some u2 ∧ w'.cell? l3 = some u3 ∧ w'.cell? l4 = some u4 ∧ w'.cell? l5 = some u5 :=
  ⟨below_cell hb (Nat.le_refl _) h.1, below_cell hb (Nat.le_refl _) h.2.1, below_cell hb (Nat.le_refl _) h.2.2.1, below_cell hb (Nat.le_refl _) h.2.2.2.1, below_cell hb (Nat.le_refl _) h.2.2.2.2⟩

section
variable {H : Type} {enc : TypeId × Value → H} {w : World} {base : Nat} {spare : Nat → Bool} {held : Bool}
theorem vop_of2 {c : List Value} (h : Dat enc Try.prog w base spare held 30 c) : ∃ x : Vop, c = x.cells ∧ (Rd w x.kv x.ks.length (kyc x.ks) ∧ x.ks.length * 24 ≤ 140737488351232) ∧ I64 x.ep ∧ I64 x.num := by
  obtain ⟨hl, hf⟩ := h.fields [(3, 0, 1), (3, 1, 1), (3, 2, 1), (3, 3, 1), (28, 4, 1)] Try.underlying30 (by kernel_rfl) 5 (by kernel_rfl)
  match c, hl with
  | [c0, c1, c2, c3, c4], _ =>
    have f0 := hf 0 _ _ _ rfl
    have f1 := hf 1 _ _ _ rfl
    have f2 := hf 2 _ _ _ rfl
    have f3 := hf 3 _ _ _ rfl
    have f4 := hf 4 _ _ _ rfl
    simp only [List.drop_zero, List.drop_succ_cons, List.take_succ_cons, List.take_zero] at f0 f1 f2 f3 f4
    obtain ⟨k, e0, _⟩ := f0.int Try.underlying3
    obtain ⟨v, e1, _⟩ := f1.int Try.underlying3
    obtain ⟨p, e2, hp⟩ := f2.int Try.underlying3
    obtain ⟨m, e3, hm⟩ := f3.int Try.underlying3
    obtain ⟨a, n, c, e4⟩ := f4.sl Try.underlying28
    rw [e4] at f4
    obtain ⟨ks, rfl, hr, hk⟩ := keys_of f4
    simp only [List.cons.injEq, and_true] at e0 e1 e2 e3 e4
    subst e0 e1 e2 e3 e4
    refine ⟨⟨k, v, p, m, a, c, ks⟩, rfl, ⟨hr, hk⟩, ?_, ?_⟩
    · simp only [Lit.wf, IntKind.min, IntKind.max, Bool.and_eq_true] at hp
      exact ⟨of_decide_eq_true hp.1, of_decide_eq_true hp.2⟩
    · simp only [Lit.wf, IntKind.min, IntKind.max, Bool.and_eq_true] at hm
      exact ⟨of_decide_eq_true hm.1, of_decide_eq_true hm.2⟩
theorem vscript_of2 {a : Option Addr} {n c : Nat} (h : Dat enc Try.prog w base spare held 22 [.slice a n c]) :
    ∃ S : List Vop, n = S.length ∧ ScrV w (.slice a S.length c) S ∧ S.length * 56 ≤ 140737488351232 ∧ (∀ x ∈ S, x.ks.length * 24 ≤ 140737488351232) ∧ ∀ x ∈ S, I64 x.ep ∧ I64 x.num := by
  obtain ⟨css, hl, _, hr, hb, hd⟩ := h.slice (sz := 5) (by_ := 56) Try.underlying22 (by kernel_rfl) (by decide) (by kernel_rfl)
  obtain ⟨S, rfl, hS⟩ := list_of_cells (f := Vop.cells) (Q := fun x => (Rd w x.kv x.ks.length (kyc x.ks) ∧ x.ks.length * 24 ≤ 140737488351232) ∧ I64 x.ep ∧ I64 x.num) fun c hc => vop_of2 (hd c hc)
  rw [List.length_map] at hl
  subst hl
  refine ⟨S, rfl, ⟨?_, fun x hx => (hS x hx).1.1⟩, by unfold reachBytes at hb; omega, fun x hx => (hS x hx).1.2, fun x hx => (hS x hx).2⟩
  rw [vcs, List.flatMap_def]; exact hr
end

end Go.Proofs.Ytakkdaenindboaa
