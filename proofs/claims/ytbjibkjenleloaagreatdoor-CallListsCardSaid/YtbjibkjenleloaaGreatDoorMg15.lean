/- Parts of a proof about the given program, in build order: CalF. No condition. -/
import Derived.Test.YtbjibkjenleloaaGreatDoorMg14
section
namespace Go.Proofs.YtbjibkjenleloaaGreatDoor
set_option linter.unusedVariables false
set_option linter.unusedSimpArgs false
open Go.RowKit
attribute [local go_sem ↓] Go.wp_at_zero Go.wp_at_succ
attribute [local go_sem] run_store_complex run_store_float


theorem wk_used {fresh L : List En} {wh : Int → Bool} {follow : Bool} {A : List Nd} {y : Nd} {T : List ByteArray} {dir : Bool} {k : Int} {U : List Ky} {z : Ow} (h : Wk fresh L wh follow A y T dir k U z) : z.used.length ≤ U.length + T.length + 100 * k.toNat := by
  induction h with
  | wrong | done => simp
  | notdir | need => simp; omega
  | dot _ _ _ _ _ _ _ _ _ _ _ ih => simp; omega
  | upRoot _ _ _ _ _ _ _ _ _ _ ih => simp; omega
  | up _ _ _ _ _ _ _ _ _ _ _ _ ih => simp; omega
  | neg | loop | bad => simp; omega
  | go _ _ _ _ _ _ _ _ _ _ _ _ _ _ _ _ ih => simp at ih ⊢; omega
  | link _ _ _ _ _ _ _ _ _ _ _ _ _ _ _ hk ht _ _ ih => have := tgt_small ht; simp at ih ⊢; omega
  | linkRoot _ _ _ _ _ _ _ _ _ _ _ _ _ _ _ hk ht _ _ ih => have := tgt_small ht; simp at ih ⊢; omega
set_option maxRecDepth 100000 in
set_option maxHeartbeats 4000000 in
theorem cli_read (w : World) (c t B p n q : Nat) (s : Cl) (td : Td) (L F : List En) (wh : Int → Bool) (tn : Tn) (follow : Bool) (h : CliAt w c t B p n s td L wh) (hq : w.heap[q]? = some (.cells (tnC tn) 90 (0, 0))) (hnq : ¬ CF B p q)
    (hF : Rd w (.slice tn.fa tn.fl tn.fc) F.length (ecs F)) (hs : pathErr s.cp = 0) (hl0 : 0 ≤ s.cf.li) (hl8 : s.cf.li ≤ 8) (hn : n < 1000000000000) :
    Calls Tryz.prog 113 #[.pointer (some ⟨c, 0, none⟩), .pointer (some ⟨q, 0, none⟩), .bool follow] w fun e w' => ∃ z, Wk F L wh follow [] rootNd (stepsL s.cp) (dirB s.cp) s.cf.li [] z ∧ e = .returned (.tuple #[z.node.v, .bool (!z.need && z.err == 0)]) ∧ CliAt w' c t B p (n + z.used.length) s td (useAll z.used L) wh ∧
      w'.heap[q]? = some (.cells (tnC { tn with op := if z.need then lookOp z.key else tn.op, err := z.err }) 90 (0, 0)) ∧ Chg (fun j => j = q ∨ CF B p j) w w' := by
  have HR := hid (heap_new w (.cells #[.int .i64 0, .int .i64 0, .int .i64 0, .string { data := #[] }] 40))
  have bb := bl1 w (.cells #[.int .i64 0, .int .i64 0, .int .i64 0, .string { data := #[] }] 40)
  have HW := hid bb
  have HC := hid (h.below bb)
  have hqa := heap_below bb hq (blk_lt hq)
  have HQ := hid hqa
  have HF := hid (hF.below bb)
  have hpz := h.hp.lt
  have hcz := blk_lt h.hc
  have hqz := blk_lt hq
  have htz := h.ht.lt
  have HN := hid (And.intro hn (And.intro hnq (And.intro hs (And.intro hl0 hl8))))
  have KR : (w.alloc (.cells #[.int .i64 0, .int .i64 0, .int .i64 0, .string { data := #[] }] 40)).cell? ⟨c, 10, none⟩ = some (.pointer (some ⟨p, 0, none⟩)) ∧ (w.alloc (.cells #[.int .i64 0, .int .i64 0, .int .i64 0, .string { data := #[] }] 40)).cell? ⟨c, 14, none⟩ = some (.string s.cp) ∧ (w.alloc (.cells #[.int .i64 0, .int .i64 0, .int .i64 0, .string { data := #[] }] 40)).cell? ⟨c, 5, none⟩ = some (.int .i64 s.cf.li) ∧ (w.alloc (.cells #[.int .i64 0, .int .i64 0, .int .i64 0, .string { data := #[] }] 40)).cell? ⟨q, 0, none⟩ = some (.slice tn.fa tn.fl tn.fc) := ⟨(cell_of HC.out.hc 10 (.pointer (some ⟨p, 0, none⟩)) rfl).1, (cell_of HC.out.hc 14 (.string s.cp) rfl).1, (cell_of HC.out.hc 5 (.int .i64 s.cf.li) rfl).1, (cell_of HQ.out 0 (.slice tn.fa tn.fl tn.fc) rfl).1⟩
  have KRd : (w.alloc (.cells #[.int .i64 0, .int .i64 0, .int .i64 0, .string { data := #[] }] 40)).drew.cell? ⟨c, 10, none⟩ = some (.pointer (some ⟨p, 0, none⟩)) ∧ (w.alloc (.cells #[.int .i64 0, .int .i64 0, .int .i64 0, .string { data := #[] }] 40)).drew.cell? ⟨c, 14, none⟩ = some (.string s.cp) ∧ (w.alloc (.cells #[.int .i64 0, .int .i64 0, .int .i64 0, .string { data := #[] }] 40)).drew.cell? ⟨c, 5, none⟩ = some (.int .i64 s.cf.li) ∧ (w.alloc (.cells #[.int .i64 0, .int .i64 0, .int .i64 0, .string { data := #[] }] 40)).drew.cell? ⟨q, 0, none⟩ = some (.slice tn.fa tn.fl tn.fc) := KR
  clear h hq hnq hF hs hl0 hl8 hn bb hqa
  go_enter Tryz.func113, Tryz.ntmps113
  go_wp2_with fail
  obtain ⟨w0, hw0⟩ : ∃ w0, w0 = w.alloc (.cells #[.int .i64 0, .int .i64 0, .int .i64 0, .string { data := #[] }] 40) := ⟨_, rfl⟩
  have hwz : w.heap.size + 1 = w0.heap.size := by rw [hw0]; simp
  rw [← hw0] at HR HW HC HQ HF KR KRd ⊢
  have b0 := blk4 HR.out
  clear hw0
  go_region_held3 (fun w' => w'.cell? ⟨c, 10, none⟩ = some (.pointer (some ⟨p, 0, none⟩)) ∧ w'.cell? ⟨c, 14, none⟩ = some (.string s.cp) ∧ w'.cell? ⟨c, 5, none⟩ = some (.int .i64 s.cf.li) ∧ w'.cell? ⟨q, 0, none⟩ = some (.slice tn.fa tn.fl tn.fc))
    (first | with_reducible exact KR | with_reducible exact KRd | with_reducible exact K2 | with_reducible exact K3 | exact KS _ KC.out)
    (first
      | (go_at_call 136; refine (walk_any _ B p n L F wh _ s.cp follow s.cf.li HC.out.drew.hp HF.out.drew HN.out.2.2.1 HN.out.2.2.2.1 HN.out.2.2.2.2).mono ?_; rintro e w2 ⟨z, ua, uc, rfl, hwk, hu2, hb2⟩; (have HWK := hid hwk); (have HU2 := hid hu2); (have HB2 := hid hb2); (have HC2 := hid (CliAt.below HC.out.drew hb2)); (have HQ2 := hid (heap_below (w := w0.drew) hb2 HQ.out (blk_lt HQ.out))); (have HR2 := hid (heap_below (w := w0.drew) hb2 HR.out (blk_lt HR.out))); (have K2 : w2.cell? ⟨c, 10, none⟩ = some (.pointer (some ⟨p, 0, none⟩)) ∧ w2.cell? ⟨c, 14, none⟩ = some (.string s.cp) ∧ w2.cell? ⟨c, 5, none⟩ = some (.int .i64 s.cf.li) ∧ w2.cell? ⟨q, 0, none⟩ = some (.slice tn.fa tn.fl tn.fc) := ⟨(cell_of HC2.out.hc 10 (.pointer (some ⟨p, 0, none⟩)) rfl).1, (cell_of HC2.out.hc 14 (.string s.cp) rfl).1, (cell_of HC2.out.hc 5 (.int .i64 s.cf.li) rfl).1, (cell_of HQ2.out 0 (.slice tn.fa tn.fl tn.fc) rfl).1⟩); clear hwk hu2 hb2)
      | (go_at_call 115; refine (cli_came _ c t B p n q w0.drew.heap.size s td L wh tn z ua uc HC2.out HQ2.out HU2.out (by show p < w0.heap.size; omega) HN.out.2.1 (by have := wk_used HWK.out; have := path_small HN.out.2.2.1; have := HN.out.1; have := HN.out.2.2.2.2; simp at *; omega) (by have := wk_used HWK.out; have := path_small HN.out.2.2.1; have := HN.out.2.2.2.2; simp at *; omega)).mono ?_; rintro e w3 ⟨rfl, hc3, hq3, hg3⟩; (have HC3 := hid hc3); (have HQ3 := hid hq3); (have HG3 := hid hg3); (have hr3 := heap_chg hg3 HR2.out (fun hf => by rcases hf with hf | hf; (have := hwz; omega); (have := hf.2; omega))); (have HR3 := hid hr3); (have br := blk4 hr3); (have K3 : w3.cell? ⟨c, 10, none⟩ = some (.pointer (some ⟨p, 0, none⟩)) ∧ w3.cell? ⟨c, 14, none⟩ = some (.string s.cp) ∧ w3.cell? ⟨c, 5, none⟩ = some (.int .i64 s.cf.li) ∧ w3.cell? ⟨q, 0, none⟩ = some (.slice tn.fa tn.fl tn.fc) := ⟨(cell_of hc3.hc 10 (.pointer (some ⟨p, 0, none⟩)) rfl).1, (cell_of hc3.hc 14 (.string s.cp) rfl).1, (cell_of hc3.hc 5 (.int .i64 s.cf.li) rfl).1, (cell_of hq3 0 (.slice tn.fa tn.fl tn.fc) rfl).1⟩); (have KS : ∀ W : World, Chg (fun j => j = w.heap.size) w3 W → W.cell? ⟨c, 10, none⟩ = some (.pointer (some ⟨p, 0, none⟩)) ∧ W.cell? ⟨c, 14, none⟩ = some (.string s.cp) ∧ W.cell? ⟨c, 5, none⟩ = some (.int .i64 s.cf.li) ∧ W.cell? ⟨q, 0, none⟩ = some (.slice tn.fa tn.fl tn.fc) := fun W hW => ⟨(cell_of (heap_chg hW HC3.out.hc (by omega)) 10 (.pointer (some ⟨p, 0, none⟩)) rfl).1, (cell_of (heap_chg hW HC3.out.hc (by omega)) 14 (.string s.cp) rfl).1, (cell_of (heap_chg hW HC3.out.hc (by omega)) 5 (.int .i64 s.cf.li) rfl).1, (cell_of (heap_chg hW HQ3.out (by omega)) 0 (.slice tn.fa tn.fl tn.fc) rfl).1⟩); (have KC := hid (show Chg (fun j => j = w.heap.size) w3 (((((w3.setCell ⟨w.heap.size, 0, none⟩ (.int .i64 z.node.id)).setCell ⟨w.heap.size, 1, none⟩ (.int .i64 z.node.kind)).setCell ⟨w.heap.size, 2, none⟩ (.int .i64 z.node.mode)).setCell ⟨w.heap.size, 3, none⟩ (.string z.node.target))) from (by (iterate 4 refine Chg.set1 ?_ _ _ rfl); exact Chg.refl _ _))); unfold Nd.v; clear hc3 hq3 hg3 hr3 b0))
  all_goals
    refine gen_w (P := fun w' => Exit.then _ _ _ _ w') (S := fun w4 => Chg (fun j => j = w.heap.size) w3 w4 ∧ w4.heap[w.heap.size]? = some (.cells #[.int .i64 z.node.id, .int .i64 z.node.kind, .int .i64 z.node.mode, .string z.node.target] 40 (0, 0))) _ ⟨?_, ?_⟩ ?_
    · first | exact KC.out | exact Chg.drew KC.out
    · (try refine heap_drew ?_)
      have h9 := (heap_set (heap_set (heap_set (heap_set HR3.out 0 (.int .i64 z.node.id)) 1 (.int .i64 z.node.kind)) 2 (.int .i64 z.node.mode)) 3 (.string z.node.target))
      simp only [List.setIfInBounds_toArray, List.set_cons_zero, List.set_cons_succ] at h9
      exact h9
    rintro w4 ⟨hc4, hr4⟩
    have b4 := blk4 hr4
    have HCX := hid (show Chg (fun j => j = q ∨ CF B p j) w w4 from chg_new (chg_new (chg_new (Chg.below (HW.out.mono (Nat.le_refl _)) |>.mono (fun _ _ h => h.elim)) (Chg.drew (Chg.below HB2.out) |> fun h => (show Chg NoB w0 w2 from ⟨h.os, h.tape, h.output, h.size, h.block⟩)) (fun j hj => hj.elim)) HG3.out (fun j hj => .inl hj)) hc4 (by intro j hj; right; omega))
    have HCA := hid (HC3.out.chg hc4 (by omega) (by omega) (HC3.out.hp.chg hc4 (fun k hk e => by have := hk.2; omega)))
    have HQ4 := hid (heap_chg hc4 HQ3.out (by omega))
    clear KR KRd K2 K3 KS KC hc4 hr4 br
    go_wp2
    all_goals (try simp only [Exit.inBlock, Exit.then])
    all_goals refine bodyPost_ret (v := .tuple #[z.node.v, .bool (!z.need && z.err == 0)]) (by simp [results, Tryz.results113, go_sem, b4, Nd.v]) rfl ⟨z, HWK.out, rfl, HCA.out, HQ4.out, HCX.out⟩
end Go.Proofs.YtbjibkjenleloaaGreatDoor

end
