/- Parts of a proof about the given program, in build order: CmuC. No condition. -/
import Derived.Test.YtbjibkjenleloaaGreatDoorMg18
section
namespace Go.Proofs.YtbjibkjenleloaaGreatDoor
set_option linter.unusedVariables false
set_option linter.unusedSimpArgs false
open Go.RowKit
attribute [local go_sem ↓] Go.wp_at_zero Go.wp_at_succ
attribute [local go_sem] run_store_complex run_store_float


theorem wp_scope_one {P : Program} {a : Act} {w : World} {Q : Exit → Act → World → Prop} {c r : Code} (J : Nat → Act → World → Prop) (μ : Nat → Act → World → Nat) (hJ : ∀ l a w, J l a w → l = 0) (h0 : findLabel c 0 = some (Code.skip.seq r))
    (first : (∀ a w, J 0 a w → r.wp P (jumpM J Q) a w) → c.wp P (jumpM J Q) a w)
    (pass : ∀ a w, J 0 a w → r.wp P (jumpM (fun l' a' w' => J l' a' w' ∧ μ l' a' w' < μ 0 a w) Q) a w) : (Code.scope c).wp P Q a w := by
  refine wp_scope_multi J μ (fun _ => Code.skip.seq r) (fun l a w h => ?_) (first fun a w h => wp_mono (pass a w h) fun e a w hq => ?_) (fun l a w h => ?_)
  · rw [hJ l a w h]; exact h0
  · cases e with
    | goto l => exact hq.1
    | _ => exact hq
  · have := hJ l a w h
    subst this
    exact skip_seq (pass a w h)
set_option maxRecDepth 100000 in
set_option maxHeartbeats 8000000 in
theorem cli_change (w : World) (c t B p n q : Nat) (s : Cl) (td : Td) (L F : List En) (wh : Int → Bool) (tn : Tn) (h : CliAt w c t B p n s td L wh) (hq : w.heap[q]? = some (.cells (tnC tn) 90 (0, 0))) (hnq : ¬ CF B p q)
    (hF : ∀ W, Chg (fun j => j = q ∨ CF B p j) w W → Rd W (.slice tn.fa tn.fl tn.fc) F.length (ecs F)) (hte : tn.err = 0) (hpar : parErr s.cp = 0) (hco : s.ck = 10 → parErr s.co = 0) (hck : 5 ≤ s.ck ∧ s.ck ≤ 11) (hl0 : 0 ≤ s.cf.li) (hl8 : s.cf.li ≤ 8) (hn : n < 100000000000) :
    Calls Tryz.prog 84 #[.pointer (some ⟨c, 0, none⟩), .pointer (some ⟨q, 0, none⟩)] w fun e w' => ∃ o er L' m, Co F wh s [] s.cp L o er L' m ∧ m ≤ 2000 ∧ e = .returned (.tuple #[]) ∧ CliAt w' c t B p (n + m) s td L' wh ∧ w'.heap[q]? = some (.cells (tnC { tn with op := o.getD tn.op, err := er }) 90 (0, 0)) ∧ Chg (fun j => j = q ∨ CF B p j) w w' := by
  have hpz : p < w.heap.size ∧ c < w.heap.size ∧ t < w.heap.size ∧ q < w.heap.size := ⟨h.hp.lt, blk_lt h.hc, h.ht.lt, blk_lt hq⟩
  have hfin : FinC (bodyPost Tryz.prog Tryz.f84 fun e w' => ∃ o er L' m, Co F wh s [] s.cp L o er L' m ∧ m ≤ 2000 ∧ e = .returned (.tuple #[]) ∧ CliAt w' c t B p (n + m) s td L' wh ∧ w'.heap[q]? = some (.cells (tnC { tn with op := o.getD tn.op, err := er }) 90 (0, 0)) ∧ Chg (fun j => j = q ∨ CF B p j) w w') F L wh w c t B p n q s td tn := by
    intro e1 a w3 o e L' m he hd hco hm hc hq hx
    rcases he with rfl | rfl
    · exact bodyPost_end (results_none rfl _ _ _) hd ⟨o, e, L', m, hco, hm, rfl, hc, hq, hx⟩
    · exact bodyPost_ret (results_none rfl _ _ _) hd ⟨o, e, L', m, hco, hm, rfl, hc, hq, hx⟩
  have HALL := hid (And.intro h (And.intro hq (And.intro hnq (And.intro hF (And.intro hte (And.intro hpar (And.intro hco (And.intro hck (And.intro hl0 (And.intro hl8 hn))))))))))
  have HFI := hid hfin
  have HPZ := hid hpz
  have e14 := cell_of h.hc 14 (.string s.cp) rfl
  clear h hq hnq hF hte hpar hco hck hl0 hl8 hn hfin hpz
  go_enter Tryz.func84, Tryz.ntmps84
  refine wp_scope_one (r := cgRest) (Jcg F L wh w c t B p n q s td tn) muC (fun l a w1 h => h.1) ?h0 ?f ?p0
  case h0 => exact rfl
  case f =>
    intro hpass
    have HP := hid hpass
    clear hpass
    go_wp2_with fail
    (try go_step3)
    (try simp only [Exit.then])
    (try go_step)
    refine HP.out _ _ ?_
    refine ⟨rfl, w.heap.size, [], s.cp, L, none, 0, 0, ⟨rfl, rfl⟩, ⟨rfl, rfl, rfl, rfl, rfl⟩, hid ⟨HALL.out.1.below (bl1 w (.cells #[.int .i64 0, .int .i64 0, .int .i64 0, .string { data := #[] }] 40)), heap_old HALL.out.2.1 _, ⟨_, _, _, _, heap_new w (.cells #[.int .i64 0, .int .i64 0, .int .i64 0, .string { data := #[] }] 40)⟩, World.ownsRow_nil _ _ _ _, (Chg.below (bl1 w (.cells #[.int .i64 0, .int .i64 0, .int .i64 0, .string { data := #[] }] 40))).mono fun _ _ h => h.elim⟩, Nat.le_refl _, by simp, HALL.out.2.2.2.2.2.1, by simp, by simp, hid ?_⟩
    intro o e L' m hco
    rw [Nat.zero_add]
    exact hco
  case p0 =>
    intro a w1 hj
    exact cg_pass F L wh w c t B p n q s td tn _ _ a w1 _ hj rfl HFI.out (fun a w2 h1 h2 => ⟨h1, h2⟩) HALL.out.2.2.2.1 HALL.out.2.2.1 HALL.out.2.2.2.2.1 HPZ.out HALL.out.2.2.2.2.2.2.1 HALL.out.2.2.2.2.2.2.2.1 HALL.out.2.2.2.2.2.2.2.2.1 HALL.out.2.2.2.2.2.2.2.2.2.1 HALL.out.2.2.2.2.2.2.2.2.2.2
end Go.Proofs.YtbjibkjenleloaaGreatDoor

end
