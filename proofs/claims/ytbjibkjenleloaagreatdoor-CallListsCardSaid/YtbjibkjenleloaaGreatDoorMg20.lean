/- Parts of a proof about the given program, in build order: CalG. No condition. -/
import Derived.Test.YtbjibkjenleloaaGreatDoorMg15
section
namespace Go.Proofs.YtbjibkjenleloaaGreatDoor
set_option linter.unusedVariables false
set_option linter.unusedSimpArgs false
open Go.RowKit
attribute [local go_sem ↓] Go.wp_at_zero Go.wp_at_succ
attribute [local go_sem] run_store_complex run_store_float


set_option maxRecDepth 100000 in
set_option maxHeartbeats 4000000 in
theorem cli_lookup (w : World) (c t B p n q : Nat) (s : Cl) (td : Td) (L F : List En) (wh : Int → Bool) (tn : Tn) (h : CliAt w c t B p n s td L wh) (hq : w.heap[q]? = some (.cells (tnC tn) 90 (0, 0))) (hnq : ¬ CF B p q)
    (hF : Rd w (.slice tn.fa tn.fl tn.fc) F.length (ecs F)) (hs : pathErr s.cp = 0) (hl0 : 0 ≤ s.cf.li) (hl8 : s.cf.li ≤ 8) (hn : n < 1000000000000) :
    Calls Tryz.prog 80 #[.pointer (some ⟨c, 0, none⟩), .pointer (some ⟨q, 0, none⟩)] w fun e w' => ∃ z, Wk F L wh true [] rootNd (stepsL s.cp) (dirB s.cp) s.cf.li [] z ∧ e = .returned (.tuple #[]) ∧ CliAt w' c t B p (n + z.used.length) s td (useAll z.used L) wh ∧
      w'.heap[q]? = some (.cells (tnC { tn with op := if z.need then lookOp z.key else tn.op, err := z.err, nd := z.node }) 90 (0, 0)) ∧ Chg (fun j => j = q ∨ CF B p j) w w' := by
  have HRD := hid (cli_read w c t B p n q s td L F wh tn true h hq hnq hF hs hl0 hl8 hn)
  have HNE := hid (And.intro (heap_ty h.hc hq (by decide)) (And.intro (heap_ty h.ht hq (by decide)) hnq))
  clear h hq hnq hF hs hl0 hl8 hn
  go_enter Tryz.func80, Tryz.ntmps80
  go_wp2_with fail
  refine HRD.out.mono ?_; rintro e w2 ⟨z, hwk, rfl, hc2, hq2, hg2⟩
  have HWK := hid hwk; have HC2 := hid hc2; have HQ2 := hid hq2; have HG2 := hid hg2
  have q11 := cell_of hq2 11 (.int .i64 tn.nd.id) rfl
  have q12 := cell_of hq2 12 (.int .i64 tn.nd.kind) rfl
  have q13 := cell_of hq2 13 (.int .i64 tn.nd.mode) rfl
  have q14 := cell_of hq2 14 (.string tn.nd.target) rfl
  clear hwk hc2 hq2 hg2 HRD
  unfold Nd.v
  go_wp2
  (try simp only [Exit.inBlock, Exit.then])
  refine gen_w (P := fun w' => bodyPost _ _ _ _ _ w') (S := fun w4 => Chg (fun j => j = q) w2 w4 ∧ w4.heap[q]? = some (.cells (tnC { tn with op := if z.need then lookOp z.key else tn.op, err := z.err, nd := z.node }) 90 (0, 0))) _ ⟨?_, ?_⟩ ?_
  · iterate 4 refine Chg.set1 ?_ _ _ rfl
    exact Chg.refl _ _
  · have h9 := (heap_set (heap_set (heap_set (heap_set HQ2.out 11 (.int .i64 z.node.id)) 12 (.int .i64 z.node.kind)) 13 (.int .i64 z.node.mode)) 14 (.string z.node.target))
    simp only [tnC, List.setIfInBounds_toArray, List.set_cons_zero, List.set_cons_succ] at h9
    exact h9
  rintro w4 ⟨hc4, hq4⟩
  refine bodyPost_end (results_none rfl _ _ _) rfl ⟨z, HWK.out, rfl, ?_, hq4, chg_new HG2.out hc4 (by intro j hj; exact .inl (.inl hj))⟩
  exact HC2.out.chg hc4 HNE.out.1 HNE.out.2.1 (HC2.out.hp.chg hc4 (fun k hk e => HNE.out.2.2 (e ▸ hk)))

/-- an answer -/
structure An where
  err : Int
  nd : Nd
  na : Option Addr
  nl : Nat
  nc : Nat
  ver : Int
def An.v (a : An) : Value := .agg #[.int .i64 a.err, .int .i64 a.nd.id, .int .i64 a.nd.kind, .int .i64 a.nd.mode, .string a.nd.target, .slice a.na a.nl a.nc, .int .i64 a.ver]
set_option maxRecDepth 100000 in
set_option maxHeartbeats 4000000 in
theorem cli_end (w : World) (c t B p n : Nat) (s : Cl) (td : Td) (L : List En) (wh : Int → Bool) (a : An) (h : CliAt w c t B p n s td L wh) :
    Calls Tryz.prog 44 #[.pointer (some ⟨c, 0, none⟩), a.v] w fun e w' => e = .returned (.tuple #[.bool true, { a with ver := td.ver }.v]) ∧ CliAt w' c t B p n { s with busy := false, am := ms0 } td L wh ∧ Chg (fun j => j = c) w w' := by
  have HA := hid (heap_old (heap_new w (.cells #[.int .i64 a.err, .int .i64 a.nd.id, .int .i64 a.nd.kind, .int .i64 a.nd.mode, .string a.nd.target, .slice a.na a.nl a.nc, .int .i64 a.ver] 43)) (.cells #[.int .i64 0, .int .i64 0, .int .i64 0, .int .i64 0, .string { data := #[] }, .slice none 0 0, .int .i64 0] 43))
  have hR := heap_new (w.alloc (.cells #[.int .i64 a.err, .int .i64 a.nd.id, .int .i64 a.nd.kind, .int .i64 a.nd.mode, .string a.nd.target, .slice a.na a.nl a.nc, .int .i64 a.ver] 43)) (.cells #[.int .i64 0, .int .i64 0, .int .i64 0, .int .i64 0, .string { data := #[] }, .slice none 0 0, .int .i64 0] 43)
  rw [World.size_alloc] at hR
  have HR := hid hR
  have bb := bl2 w (.cells #[.int .i64 a.err, .int .i64 a.nd.id, .int .i64 a.nd.kind, .int .i64 a.nd.mode, .string a.nd.target, .slice a.na a.nl a.nc, .int .i64 a.ver] 43) (.cells #[.int .i64 0, .int .i64 0, .int .i64 0, .int .i64 0, .string { data := #[] }, .slice none 0 0, .int .i64 0] 43)
  have HW := hid bb
  have HC := hid (h.below bb)
  have hcz := blk_lt h.hc
  have htz := h.ht.lt
  have hpz := h.hp.lt
  obtain ⟨w0, hw0⟩ : ∃ w0, w0 = (w.alloc (.cells #[.int .i64 a.err, .int .i64 a.nd.id, .int .i64 a.nd.kind, .int .i64 a.nd.mode, .string a.nd.target, .slice a.na a.nl a.nc, .int .i64 a.ver] 43)).alloc (.cells #[.int .i64 0, .int .i64 0, .int .i64 0, .int .i64 0, .string { data := #[] }, .slice none 0 0, .int .i64 0] 43) := ⟨_, rfl⟩
  rw [← hw0] at HA HR HW HC
  have HW0 := hid hw0
  have e12 := cell_of HC.out.hc 12 (.bool s.busy) rfl
  have e17 := cell_of HC.out.hc 17 (.int .i64 s.am.kind) rfl
  have e18 := cell_of HC.out.hc 18 (.int .i64 s.am.client) rfl
  have e19 := cell_of HC.out.hc 19 (.int .i64 s.am.life) rfl
  have e20 := cell_of HC.out.hc 20 (.int .i64 s.am.seq) rfl
  have e21 := cell_of HC.out.hc 21 (.complex .f64 (fl s.am.me) (fl s.am.mn)) rfl
  have e22 := cell_of HC.out.hc 22 (.int .i64 s.am.ver) rfl
  have e23 := cell_of HC.out.hc 23 (.int .i64 s.am.err) rfl
  have e24 := cell_of HC.out.hc 24 (.int .i64 s.am.op.kind) rfl
  have e25 := cell_of HC.out.hc 25 (.int .i64 s.am.op.dir) rfl
  have e26 := cell_of HC.out.hc 26 (.string s.am.op.name) rfl
  have e27 := cell_of HC.out.hc 27 (.int .i64 s.am.op.to_) rfl
  have e28 := cell_of HC.out.hc 28 (.string s.am.op.new_) rfl
  have e29 := cell_of HC.out.hc 29 (.int .i64 s.am.op.mode) rfl
  have e30 := cell_of HC.out.hc 30 (.string s.am.op.target) rfl
  have e31 := cell_of HC.out.hc 31 (.slice none 0 0) rfl
  have e32 := cell_of HC.out.hc 32 (.slice none 0 0) rfl
  clear h hR bb hw0
  unfold An.v
  go_enter Tryz.func44, Tryz.ntmps44
  refine wp_seq_k fun K0 hK0 => ?_
  have HK0 := hid hK0
  clear hK0
  go_wp2
  refine HK0.out _ _ ?_
  rw [← HW0.out]
  clear HK0 HW0
  refine wp_seq_k fun K1 hK1 => ?_
  have HK1 := hid hK1
  clear hK1
  go_wp2
  refine HK1.out _ _ ?_
  refine gen_w (P := fun w' => Code.wp _ _ _ _ w') (S := fun w1 => Chg (fun j => j = c) w0 w1 ∧ w1.heap[c]? = some (.cells (cli t p { s with busy := false, am := ms0 }) 86 (0, 0))) _ ⟨?_, ?_⟩ ?_
  · iterate 17 refine Chg.set1 ?_ _ _ rfl
    exact Chg.refl _ _
  · have h9 := (heap_set (heap_set (heap_set (heap_set (heap_set (heap_set (heap_set (heap_set (heap_set (heap_set (heap_set (heap_set (heap_set (heap_set (heap_set (heap_set (heap_set HC.out.hc 12 (.bool false)) 17 (.int .i64 0)) 18 (.int .i64 0)) 19 (.int .i64 0)) 20 (.int .i64 0)) 21 (.complex .f64 0 0)) 22 (.int .i64 0)) 23 (.int .i64 0)) 24 (.int .i64 0)) 25 (.int .i64 0)) 26 (.string { data := #[] })) 27 (.int .i64 0)) 28 (.string { data := #[] })) 29 (.int .i64 0)) 30 (.string { data := #[] })) 31 (.slice none 0 0)) 32 (.slice none 0 0))
    simp only [cli, List.setIfInBounds_toArray, List.set_cons_zero, List.set_cons_succ] at h9
    exact h9
  rintro w1 ⟨hc1, hh1⟩
  clear e12 e17 e18 e19 e20 e21 e22 e23 e24 e25 e26 e27 e28 e29 e30 e31 e32
  have HC1 := hid (show CliAt w1 c t B p n { s with busy := false, am := ms0 } td L wh from ⟨hh1, HC.out.ht.chg hc1 (heap_ty HC.out.ht HC.out.hc (by decide)), HC.out.hp.chg hc1 (fun k hk e => HC.out.ncp (e ▸ hk)), HC.out.ncp, HC.out.ntp⟩)
  have ha1 := heap_chg hc1 HA.out (by omega)
  have HA1 := hid ha1
  have HR1 := hid (heap_chg hc1 HR.out (by omega))
  have HG1 := hid hc1
  have b1 := blk7 ha1
  clear hc1 hh1 ha1 HK1
  go_wp2_with fail
  refine (cli_version _ c t B p n _ td L wh HC1.out).mono ?_; rintro e w2 ⟨rfl, rfl⟩
  have br := blk7 HR1.out
  have hzz : w.heap.size ≠ w.heap.size + 1 := by omega
  go_wp2_with fail
  go_region
  all_goals
    refine gen_w (P := fun w' => Exit.then _ _ _ _ w') (S := fun w4 => Chg (fun j => j = w.heap.size ∨ j = w.heap.size + 1) w1 w4 ∧ w4.heap[w.heap.size + 1]? = some (.cells #[.int .i64 a.err, .int .i64 a.nd.id, .int .i64 a.nd.kind, .int .i64 a.nd.mode, .string a.nd.target, .slice a.na a.nl a.nc, .int .i64 td.ver] 43 (0, 0))) _ ⟨?_, ?_⟩ ?_
    · refine Chg.drew ?_
      iterate 7 refine Chg.set1 ?_ _ _ (.inr rfl)
      exact Chg.set1 (Chg.refl _ _) _ _ (.inl rfl)
    · refine heap_drew ?_
      have h8 := heap_set_ne (j := w.heap.size) HR1.out 6 (.int .i64 td.ver) (by omega)
      have h9 := (heap_set (heap_set (heap_set (heap_set (heap_set (heap_set (heap_set h8 0 (.int .i64 a.err)) 1 (.int .i64 a.nd.id)) 2 (.int .i64 a.nd.kind)) 3 (.int .i64 a.nd.mode)) 4 (.string a.nd.target)) 5 (.slice a.na a.nl a.nc)) 6 (.int .i64 td.ver))
      simp only [List.setIfInBounds_toArray, List.set_cons_zero, List.set_cons_succ] at h9
      exact h9
    rintro w4 ⟨hc4, hr4⟩
    have b4 := blk7 hr4
    have HCA := hid (HC1.out.chg hc4 (by omega) (by omega) (HC1.out.hp.chg hc4 (fun k hk e => by have := hk.2; omega)))
    have HCX := hid (show Chg (fun j => j = c) w w4 from chg_new (chg_new (Chg.below (HW.out.mono (Nat.le_refl _)) |>.mono (fun _ _ h => h.elim)) HG1.out (fun j hj => .inl hj)) hc4 (by intro j hj; right; omega))
    clear b1 br hc4 hr4
    go_wp2
    all_goals (try simp only [Exit.inBlock, Exit.then])
    all_goals refine bodyPost_ret (v := .tuple #[.bool true, { a with ver := td.ver }.v]) (by simp [results, Tryz.results44, go_sem, b4, An.v]) rfl ⟨rfl, HCA.out, HCX.out⟩
end Go.Proofs.YtbjibkjenleloaaGreatDoor

end
