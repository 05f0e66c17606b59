/- Parts of a proof about the given program, in build order: LstB. No condition. -/
import Derived.Test.YtbjibkjenleloaaGreatDoorMg27
section
namespace Go.Proofs.YtbjibkjenleloaaGreatDoor
set_option linter.unusedVariables false
set_option linter.unusedSimpArgs false
open Go.RowKit
attribute [local go_sem ↓] Go.wp_at_zero Go.wp_at_succ
attribute [local go_sem] run_store_complex run_store_float


/-- what a readdir comes to -/
def RdO (F L : List En) (wh : Int → Bool) (tn : Tn) (z : Ow) (b : Nat) (w' : World) (tn' : Tn) : Prop :=
  ((!z.need && z.err == 0) = false ∧ tn' = { tn with op := if z.need then lookOp z.key else tn.op, err := z.err }) ∨
  ((!z.need && z.err == 0) = true ∧ z.node.kind ≠ 1 ∧ tn' = { tn with err := 42 }) ∨
  ((!z.need && z.err == 0) = true ∧ z.node.kind = 1 ∧ ∃ (N : List En) (na : Option Addr) (nc : Nat), ((wh z.node.id = true ∧ N.Perm (L.filter (inDir z.node.id)) ∧ N.Pairwise fun x y => nmLt x.key.name y.key.name = true) ∨ (wh z.node.id = false ∧ tn.whole = true ∧ tn.dir = z.node.id ∧ N = F)) ∧ tn' = { tn with err := 0, na := na, nl := N.length, nc := nc } ∧ w'.ownsRow b 9 1 (.slice na N.length nc) N.length (srow (nmsL N))) ∨
  ((!z.need && z.err == 0) = true ∧ z.node.kind = 1 ∧ wh z.node.id = false ∧ (tn.whole = true → tn.dir ≠ z.node.id) ∧ ∃ (na : Option Addr) (nc : Nat), tn' = { tn with op := ⟨2, z.node.id, { data := #[] }, 0, { data := #[] }, 0, { data := #[] }⟩, err := 0, na := na, nl := 0, nc := nc })
set_option maxRecDepth 100000 in
set_option maxHeartbeats 8000000 in
theorem cli_readdir (w : World) (c t B p n q Bf : Nat) (s : Cl) (td : Td) (L F : List En) (wh : Int → Bool) (tn : Tn) (h : CliAt w c t B p n s td L wh) (hq : w.heap[q]? = some (.cells (tnC tn) 90 (0, 0))) (hnq : ¬ CF B p q) (hpf : p < Bf)
    (hF : w.ownsRow Bf 55 7 (.slice tn.fa F.length tn.fc) F.length (ecs F)) (hfl : tn.fl = F.length) (hna : tn.na = none ∧ tn.nl = 0 ∧ tn.nc = 0) (hFl : F.length ≤ 1000000) (hs : pathErr s.cp = 0) (hl0 : 0 ≤ s.cf.li) (hl8 : s.cf.li ≤ 8) (hn : n < 900000) :
    Calls Tryz.prog 83 #[.pointer (some ⟨c, 0, none⟩), .pointer (some ⟨q, 0, none⟩)] w fun e w' => ∃ z tn', Wk F L wh true [] rootNd (stepsL s.cp) (dirB s.cp) s.cf.li [] z ∧ z.used.length ≤ 1000 ∧ e = .returned (.tuple #[]) ∧ CliAt w' c t B p (n + z.used.length) s td (useAll z.used L) wh ∧ w'.heap[q]? = some (.cells (tnC tn') 90 (0, 0)) ∧ RdO F (useAll z.used L) wh tn z w.heap.size w' tn' ∧ Chg (fun j => j = q ∨ CF B p j) w w' := by
  have HNE := hid (And.intro (heap_ty h.hc hq (by decide)) (And.intro (heap_ty h.ht hq (by decide)) hnq))
  have hpz := h.hp.lt
  have hcz := blk_lt h.hc
  have hqz := blk_lt hq
  have htz := h.ht.lt
  have HRD := hid (cli_read w c t B p n q s td L F wh tn true h hq hnq (by rw [hfl]; exact Rd.own hF) hs hl0 hl8 (by omega))
  have HF := hid hF
  have HFQ := hid (fun (W : World) (hW : Chg (fun j => j = q ∨ CF B p j) w W) => ownsRow_chg hF fun j hj hl => hW.block j hl (fun hf => by
    rcases hf with hf | hf
    · subst hf; exact own_ne hF hq (by decide) hj
    · have h1 := (own_lt hF hj).1; have h2 := hf.2; omega))
  have HN := hid (And.intro hfl (And.intro hna (And.intro hFl (And.intro hn (And.intro hl8 hs)))))
  clear h hq hnq hF hfl hna hFl hs hl0 hl8 hn hpf
  go_enter Tryz.func83, Tryz.ntmps83
  refine wp_seq_k fun K0 hK0 => ?_
  have HK0 := hid hK0
  clear hK0
  go_wp2_with fail
  refine HRD.out.mono ?_; rintro e w2 ⟨z, hwk, he2, hc2, hq2, hg2⟩
  generalize hok : (!z.need && z.err == 0) = ok at he2
  subst he2
  have HOK := hid hok
  have hul := wk_used hwk
  have hul2 : z.used.length ≤ 1000 := by have h1 := path_small HN.out.2.2.2.2.2; have h2 := HN.out.2.2.2.2.1; simp at hul; omega
  have HWK := hid (And.intro hwk hul2)
  have HC2 := hid (hc2.below (bl1 w2 (.cells #[.int .i64 z.node.id, .int .i64 z.node.kind, .int .i64 z.node.mode, .string z.node.target] 40)))
  have HQ2 := hid (heap_old hq2 (.cells #[.int .i64 z.node.id, .int .i64 z.node.kind, .int .i64 z.node.mode, .string z.node.target] 40))
  have HX2 := hid (Chg.alloc hg2 (.cells #[.int .i64 z.node.id, .int .i64 z.node.kind, .int .i64 z.node.mode, .string z.node.target] 40))
  have HNB := hid (heap_new w2 (.cells #[.int .i64 z.node.id, .int .i64 z.node.kind, .int .i64 z.node.mode, .string z.node.target] 40))
  have hz2 := hg2.size
  unfold Nd.v
  clear hwk hc2 hq2 hg2 hok hul hul2 HRD
  go_wp2
  refine HK0.out _ _ ?_
  clear HK0
  refine gen_w (P := fun w' => Code.wp _ _ _ _ w') (S := fun w3 => CliAt w3 c t B p (n + z.used.length) s td (useAll z.used L) wh ∧ w3.heap[q]? = some (.cells (tnC { tn with op := if z.need then lookOp z.key else tn.op, err := z.err }) 90 (0, 0)) ∧ Chg (fun j => j = q ∨ CF B p j) w w3 ∧ w3.heap[w2.heap.size]? = some (.cells #[.int .i64 z.node.id, .int .i64 z.node.kind, .int .i64 z.node.mode, .string z.node.target] 40 (0, 0))) _ ⟨HC2.out, HQ2.out, HX2.out, HNB.out⟩ ?_
  rintro w3 ⟨hc3, hq3, hx3, hnb3⟩
  have HC3 := hid hc3
  have HQ3 := hid hq3
  have HX3 := hid hx3
  have HN3 := hid hnb3
  have hz3 := hx3.size
  have hnz := blk_lt hnb3
  have bn := blk4 hnb3
  have q10 := cell_of hq3 10 (.int .i64 z.err) rfl
  clear hc3 hx3 hnb3 HC2 HQ2 HX2 HNB
  refine wp_seq_k fun K1 hK1 => ?_
  have HK1 := hid hK1
  clear hK1
  go_wp2
  refine HK1.out _ _ ?_
  clear HK1
  refine wp_seq_k fun K2 hK2 => ?_
  have HK2 := hid hK2
  clear hK2
  cases ok with
  | false =>
    go_wp2
    (try simp only [Exit.inBlock, Exit.then])
    exact bodyPost_ret (results_none rfl _ _ _) rfl ⟨z, _, HWK.out.1, HWK.out.2, rfl, HC3.out, HQ3.out, .inl ⟨HOK.out, rfl⟩, HX3.out⟩
  | true =>
    have hnd : z.need = false ∧ z.err = 0 := by have := HOK.out; simpa using this
    have hq4 : w3.heap[q]? = some (.cells (tnC { tn with err := 0 }) 90 (0, 0)) := by rw [hq3, hnd.1, hnd.2]; rfl
    have HQ4 := hid hq4
    have HND := hid hnd
    clear hq3 hq4 hnd q10
    have q10 := cell_of HQ4.out 10 (.int .i64 0) rfl
    by_cases hk : z.node.kind = 1
    · have HK := hid hk
      rw [hk] at bn
      clear hk
      have KR : w3.cell? ⟨c, 10, none⟩ = some (.pointer (some ⟨p, 0, none⟩)) ∧ w3.cell? ⟨w2.heap.size, 0, none⟩ = some (.int .i64 z.node.id) := ⟨(cell_of HC3.out.hc 10 (.pointer (some ⟨p, 0, none⟩)) rfl).1, bn.1⟩
      have KRd : w3.drew.cell? ⟨c, 10, none⟩ = some (.pointer (some ⟨p, 0, none⟩)) ∧ w3.drew.cell? ⟨w2.heap.size, 0, none⟩ = some (.int .i64 z.node.id) := KR
      go_wp2_with fail
      go_region_held3 (fun w' => w'.cell? ⟨c, 10, none⟩ = some (.pointer (some ⟨p, 0, none⟩)) ∧ w'.cell? ⟨w2.heap.size, 0, none⟩ = some (.int .i64 z.node.id))
        (first | with_reducible exact KR | with_reducible exact KRd)
        (first | (go_at_call 37; refine (c_whole _ B p _ _ wh z.node.id HC3.out.drew.hp).mono ?_; rintro e4 w4 ⟨rfl, rfl⟩))
      clear KR KRd
      (try simp only [Exit.then])
      have HC4 := hid HC3.out.drew
      have HQ5 := hid (show w3.drew.heap[q]? = some (.cells (tnC { tn with err := 0 }) 90 (0, 0)) from HQ4.out)
      have HX4 := hid HX3.out.drew
      have HN4 := hid (show w3.drew.heap[w2.heap.size]? = some (.cells #[.int .i64 z.node.id, .int .i64 z.node.kind, .int .i64 z.node.mode, .string z.node.target] 40 (0, 0)) from HN3.out)
      have hz4 : w.heap.size ≤ w3.drew.heap.size := by simp; omega
      have HLEN := hid (show (useAll z.used L).length ≤ 1000000 by have h1 := HC3.out.hp.len; have h2 := HWK.out.2; have h3 := HN.out.2.2.2.1; omega)
      generalize w3.drew = w4 at HC4 HQ5 HX4 HN4 hz4
      have HZ4 := hid hz4
      clear HC3 HQ3 HX3 HN3 HQ4 bn q10 hz4 hnz hz3
      have HFIN := hid (fun (w5 : World) (hx : Chg (fun j => j = q) w4 w5) => And.intro (HC4.out.chg hx HNE.out.1 HNE.out.2.1 (HC4.out.hp.chg hx (fun k hk e => HNE.out.2.2 (e ▸ hk)))) (show Chg (fun j => j = q ∨ CF B p j) w w5 from chg_new HX4.out hx (fun j hj => .inl (.inl hj))))
      cases hw : wh z.node.id with
      | true =>
        have HWH := hid hw
        have b4 := blk4 HN4.out
        have KR : w4.cell? ⟨c, 10, none⟩ = some (.pointer (some ⟨p, 0, none⟩)) ∧ w4.cell? ⟨w2.heap.size, 0, none⟩ = some (.int .i64 z.node.id) := ⟨(cell_of HC4.out.hc 10 (.pointer (some ⟨p, 0, none⟩)) rfl).1, b4.1⟩
        have KRd : w4.drew.cell? ⟨c, 10, none⟩ = some (.pointer (some ⟨p, 0, none⟩)) ∧ w4.drew.cell? ⟨w2.heap.size, 0, none⟩ = some (.int .i64 z.node.id) := KR
        clear hw
        go_wp2_with fail
        go_region_held3 (fun w' => w'.cell? ⟨c, 10, none⟩ = some (.pointer (some ⟨p, 0, none⟩)) ∧ w'.cell? ⟨w2.heap.size, 0, none⟩ = some (.int .i64 z.node.id))
          (first | with_reducible exact KR | with_reducible exact KRd | with_reducible exact K5)
          (first | (go_at_call 114; refine (c_names _ B p _ _ wh z.node.id HC4.out.drew.hp (by have h2 := HWK.out.2; have h3 := HN.out.2.2.2.1; omega)).mono ?_; rintro e5 w5 ⟨N, na, nc, rfl, hpm, hpw, hown, hb5⟩; (have HPM := hid (And.intro hpm hpw)); (have HOW := hid hown); (have HB5 := hid hb5); (have K5 : w5.cell? ⟨c, 10, none⟩ = some (.pointer (some ⟨p, 0, none⟩)) ∧ w5.cell? ⟨w2.heap.size, 0, none⟩ = some (.int .i64 z.node.id) := ⟨(cell_of (HC4.out.drew.below hb5).hc 10 (.pointer (some ⟨p, 0, none⟩)) rfl).1, (blk4 (heap_below (w := w4.drew) hb5 HN4.out (blk_lt HN4.out))).1⟩); clear hpm hpw hown hb5))
        (try simp only [Exit.inBlock, Exit.then])
        refine HK2.out _ _ ?_
        have hx5 : Chg (fun j => j = q) w4 w5 := (Chg.drew (Chg.refl _ _)).trans (Chg.below HB5.out) (fun _ _ h => h) (fun _ _ h => h.elim)
        have hq5 := heap_below (w := w4.drew) HB5.out HQ5.out (blk_lt HQ5.out)
        have hNl : N.length ≤ 1000000 := by rw [HPM.out.1.length_eq]; exact Nat.le_trans (List.length_filter_le _ _) HLEN.out
        have hz5 : w.heap.size ≤ w5.heap.size := Nat.le_trans HZ4.out hx5.size
        refine rd_names w w5 _ q _ N na nc { tn with err := 0 } _ ?_ ?_ ?_ ?_ hq5 HN.out.2.1 hqz hz5 HOW.out hNl ?_
        iterate 4 rfl
        intro w6 na6 nc6 hq6 ho6 hx6
        have hF := HFIN.out w6 (hx5.trans hx6 (fun _ _ h => h) (fun _ _ h => h))
        exact ⟨z, _, HWK.out.1, HWK.out.2, rfl, hF.1, hq6, .inr (.inr (.inl ⟨HOK.out, HK.out, N, na6, nc6, .inl ⟨HWH.out, HPM.out.1, HPM.out.2⟩, rfl, ho6⟩)), hF.2⟩
      | false =>
        have HWH := hid hw
        have b4 := blk4 HN4.out
        have q0 := cell_of HQ5.out 0 (.slice tn.fa tn.fl tn.fc) rfl
        have q1 := cell_of HQ5.out 1 (.bool tn.whole) rfl
        have q2 := cell_of HQ5.out 2 (.int .i64 tn.dir) rfl
        have q3 := cell_of HQ5.out 3 (.int .i64 tn.op.kind) rfl
        have q4 := cell_of HQ5.out 4 (.int .i64 tn.op.dir) rfl
        have q5 := cell_of HQ5.out 5 (.string tn.op.name) rfl
        have q6 := cell_of HQ5.out 6 (.int .i64 tn.op.to_) rfl
        have q7 := cell_of HQ5.out 7 (.string tn.op.new_) rfl
        have q8 := cell_of HQ5.out 8 (.int .i64 tn.op.mode) rfl
        have q9 := cell_of HQ5.out 9 (.string tn.op.target) rfl
        clear hw
        cases htw : tn.whole with
        | true =>
          rw [htw] at q1
          have HTW := hid htw
          clear htw
          by_cases hdi : tn.dir = z.node.id
          · have HDI := hid hdi
            rw [hdi] at q2
            clear hdi
            go_wp2_with fail
            go_quiet (fail)
            go_wp2
            (try simp only [Exit.inBlock, Exit.then])
            refine HK2.out _ _ ?_
            rw [HN.out.1]
            refine gen_w (P := fun w' => Code.wp _ _ _ _ w') (S := fun w5 => Chg (fun j => j = q) w4 w5 ∧ w5.heap[q]? = some (.cells (tnC { tn with err := 0 }) 90 (0, 0))) _ ⟨Chg.drewN (Chg.refl _ _) _, HQ5.out⟩ ?_
            rintro w5 ⟨hx5, hq5⟩
            have hown := HFQ.out w5 (chg_new HX4.out hx5 (fun j hj => .inl (.inl hj)))
            refine rd_names w w5 _ q _ F tn.fa tn.fc { tn with err := 0 } _ ?_ ?_ ?_ ?_ hq5 HN.out.2.1 hqz (Nat.le_trans HZ4.out hx5.size) hown HN.out.2.2.1 ?_
            iterate 4 rfl
            intro w6 na6 nc6 hq6 ho6 hx6
            have hF := HFIN.out w6 (hx5.trans hx6 (fun _ _ h => h) (fun _ _ h => h))
            exact ⟨z, _, HWK.out.1, HWK.out.2, rfl, hF.1, hq6, .inr (.inr (.inl ⟨HOK.out, HK.out, F, na6, nc6, .inr ⟨HWH.out, HTW.out, HDI.out, rfl⟩, rfl, ho6⟩)), hF.2⟩
          · have t1 : (tn.dir == z.node.id) = false := by simp [hdi]
            have t2 : decide (tn.dir = z.node.id) = false := by simp [hdi]
            have HDI := hid hdi
            clear hdi
            go_wp2_with fail
            go_quiet (fail)
            rename_i nq
            go_wp2
            (try simp only [Exit.inBlock, Exit.then])
            refine HK2.out _ _ ?_
            refine gen_w (P := fun w' => Code.wp _ _ _ _ w') (S := fun w5 => Chg (fun j => j = q) w4 w5 ∧ w5.heap[q]? = some (.cells (tnC { tn with op := ⟨2, z.node.id, { data := #[] }, 0, { data := #[] }, 0, { data := #[] }⟩, err := 0 }) 90 (0, 0))) _ ⟨?_, ?_⟩ ?_
            · iterate 7 refine Chg.set1 ?_ _ _ rfl
              exact Chg.drewN (Chg.refl _ _) _
            · have h9 := heap_set (heap_set (heap_set (heap_set (heap_set (heap_set (heap_set (show (w4.drewN nq).heap[q]? = _ from HQ5.out) 3 (.int .i64 2)) 4 (.int .i64 z.node.id)) 5 (.string { data := #[] })) 6 (.int .i64 0)) 7 (.string { data := #[] })) 8 (.int .i64 0)) 9 (.string { data := #[] })
              simp only [tnC, List.setIfInBounds_toArray, List.set_cons_zero, List.set_cons_succ] at h9
              exact h9
            rintro w5 ⟨hx5, hq5⟩
            refine rd_names w w5 _ q 0 [] none 0 { tn with op := ⟨2, z.node.id, { data := #[] }, 0, { data := #[] }, 0, { data := #[] }⟩, err := 0 } _ ?_ ?_ ?_ ?_ hq5 HN.out.2.1 hqz (Nat.le_trans HZ4.out hx5.size) (World.ownsRow_nil _ _ _ _) (by simp) ?_
            iterate 4 rfl
            intro w6 na6 nc6 hq6 ho6 hx6
            have hF := HFIN.out w6 (hx5.trans hx6 (fun _ _ h => h) (fun _ _ h => h))
            exact ⟨z, _, HWK.out.1, HWK.out.2, rfl, hF.1, hq6, .inr (.inr (.inr ⟨HOK.out, HK.out, HWH.out, fun _ => HDI.out, na6, nc6, rfl⟩)), hF.2⟩
        | false =>
          rw [htw] at q1
          have HTW := hid htw
          clear htw
          go_wp2_with fail
          go_quiet (fail)
          rename_i nq
          go_wp2
          (try simp only [Exit.inBlock, Exit.then])
          refine HK2.out _ _ ?_
          refine gen_w (P := fun w' => Code.wp _ _ _ _ w') (S := fun w5 => Chg (fun j => j = q) w4 w5 ∧ w5.heap[q]? = some (.cells (tnC { tn with op := ⟨2, z.node.id, { data := #[] }, 0, { data := #[] }, 0, { data := #[] }⟩, err := 0 }) 90 (0, 0))) _ ⟨?_, ?_⟩ ?_
          · iterate 7 refine Chg.set1 ?_ _ _ rfl
            exact Chg.drewN (Chg.refl _ _) _
          · have h9 := heap_set (heap_set (heap_set (heap_set (heap_set (heap_set (heap_set (show (w4.drewN nq).heap[q]? = _ from HQ5.out) 3 (.int .i64 2)) 4 (.int .i64 z.node.id)) 5 (.string { data := #[] })) 6 (.int .i64 0)) 7 (.string { data := #[] })) 8 (.int .i64 0)) 9 (.string { data := #[] })
            simp only [tnC, List.setIfInBounds_toArray, List.set_cons_zero, List.set_cons_succ] at h9
            exact h9
          rintro w5 ⟨hx5, hq5⟩
          refine rd_names w w5 _ q 0 [] none 0 { tn with op := ⟨2, z.node.id, { data := #[] }, 0, { data := #[] }, 0, { data := #[] }⟩, err := 0 } _ ?_ ?_ ?_ ?_ hq5 HN.out.2.1 hqz (Nat.le_trans HZ4.out hx5.size) (World.ownsRow_nil _ _ _ _) (by simp) ?_
          iterate 4 rfl
          intro w6 na6 nc6 hq6 ho6 hx6
          have hF := HFIN.out w6 (hx5.trans hx6 (fun _ _ h => h) (fun _ _ h => h))
          exact ⟨z, _, HWK.out.1, HWK.out.2, rfl, hF.1, hq6, .inr (.inr (.inr ⟨HOK.out, HK.out, HWH.out, (fun h => by rw [HTW.out] at h; cases h), na6, nc6, rfl⟩)), hF.2⟩
    · have t1 : (z.node.kind != 1) = true := by simp [hk]
      have t2 : decide (z.node.kind = 1) = false := by simp [hk]
      have t3 : (z.node.kind == 1) = false := by simp [hk]
      have HK := hid hk
      clear hk
      go_wp2
      (try simp only [Exit.inBlock, Exit.then])
      refine gen_w (P := fun w' => bodyPost _ _ _ _ _ w') (S := fun w4 => Chg (fun j => j = q) w3 w4 ∧ w4.heap[q]? = some (.cells (tnC { tn with err := 42 }) 90 (0, 0))) _ ⟨?_, ?_⟩ ?_
      · exact Chg.set1 (Chg.refl _ _) _ _ rfl
      · have h9 := heap_set HQ4.out 10 (.int .i64 42)
        simp only [tnC, List.setIfInBounds_toArray, List.set_cons_zero, List.set_cons_succ] at h9
        exact h9
      rintro w4 ⟨hc4, hq4⟩
      exact bodyPost_ret (results_none rfl _ _ _) rfl ⟨z, _, HWK.out.1, HWK.out.2, rfl, HC3.out.chg hc4 HNE.out.1 HNE.out.2.1 (HC3.out.hp.chg hc4 (fun k hk e => HNE.out.2.2 (e ▸ hk))), hq4, .inr (.inl ⟨HOK.out, HK.out, rfl⟩), chg_new HX3.out hc4 (fun j hj => .inl (.inl hj))⟩
end Go.Proofs.YtbjibkjenleloaaGreatDoor

end
