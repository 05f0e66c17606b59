/- Parts of a proof about the given program, in build order: CalI, CalJ. No condition. -/
import Derived.Test.YtbjibkjenleloaaGreatDoorMg21
section
namespace Go.Proofs.YtbjibkjenleloaaGreatDoor
set_option linter.unusedVariables false
set_option linter.unusedSimpArgs false
open Go.RowKit
attribute [local go_sem ↓] Go.wp_at_zero Go.wp_at_succ
attribute [local go_sem] run_store_complex run_store_float


def tnA (tn : Tn) (ver : Int) : An := ⟨tn.err, tn.nd, tn.na, tn.nl, tn.nc, ver⟩
set_option maxRecDepth 100000 in
set_option maxHeartbeats 4000000 in
theorem drive_done (a : Act) (w : World) (c t B p n q r : Nat) (s : Cl) (td : Td) (L : List En) (wh : Int → Bool) (tn : Tn) (hs : a.tmps.size = 69) (hd : a.defers = []) (f0 : a.tmps.getD 0 undef = .pointer (some ⟨c, 0, none⟩)) (f1 : a.tmps.getD 1 undef = .pointer (some ⟨q, 0, none⟩)) (f4 : a.tmps.getD 4 undef = .slice none 0 0) (f5 : a.tmps.getD 5 undef = .bool false) (f6 : a.tmps.getD 6 undef = .pointer (some ⟨r, 0, none⟩)) (h : CliAt w c t B p n s td L wh) (hq : w.heap[q]? = some (.cells (tnC tn) 90 (0, 0))) (hr : w.heap[r]? = some (.cells #[.int .i64 0, .int .i64 0, .int .i64 0, .int .i64 0, .string { data := #[] }, .slice none 0 0, .int .i64 0] 43 (0, 0))) (hk : tn.op.kind = 0) (hrp : ¬ CF B p r)
    (Q : Exit → Act → World → Prop) (hQ : ∀ a' w', a'.defers = [] → a'.tmps.getD 4 undef = .slice none 0 0 → a'.tmps.getD 5 undef = .bool true → a'.tmps.getD 6 undef = .pointer (some ⟨r, 0, none⟩) → w'.heap[r]? = some (.cells #[.int .i64 tn.err, .int .i64 tn.nd.id, .int .i64 tn.nd.kind, .int .i64 tn.nd.mode, .string tn.nd.target, .slice tn.na tn.nl tn.nc, .int .i64 td.ver] 43 (0, 0)) →
      CliAt w' c t B p n { s with busy := false, am := ms0 } td L wh → Chg (fun j => j = c ∨ j = r) w w' → Q .ret a' w') : dTail.wp Tryz.prog Q a w := by
  conv => pattern dTail; whnf
  obtain ⟨u, rfl⟩ := open69 a c q r hs hd f0 f1 f4 f5 f6
  clear hs hd f0 f1 f4 f5 f6
  have hno : (tn.op.kind == 0) = true := by simp [hk]
  have HC := hid h
  have HR := hid hr
  have HQQ := hid hQ
  have HRP := hid hrp
  have hne2 := heap_ty h.hc hr (by decide)
  have hne4 := heap_ty h.ht hr (by decide)
  have HNE := hid (And.intro hne2 hne4)
  have q3 := cell_of hq 3 (.int .i64 tn.op.kind) rfl
  have q10 := cell_of hq 10 (.int .i64 tn.err) rfl
  have q11 := cell_of hq 11 (.int .i64 tn.nd.id) rfl
  have q12 := cell_of hq 12 (.int .i64 tn.nd.kind) rfl
  have q13 := cell_of hq 13 (.int .i64 tn.nd.mode) rfl
  have q14 := cell_of hq 14 (.string tn.nd.target) rfl
  have q15 := cell_of hq 15 (.slice tn.na tn.nl tn.nc) rfl
  have q16 := cell_of hq 16 (.int .i64 tn.ver) rfl
  clear h hq hr hk hQ hrp hne2 hne4
  go_wp2_with fail
  refine (cli_end _ c t B p n s td L wh (tnA tn tn.ver) HC.out).mono ?_; rintro e w2 ⟨rfl, hc2, hg2⟩
  have HC2 := hid hc2
  have HG2 := hid hg2
  have hr2 := heap_chg hg2 HR.out (fun e => HNE.out.1 e.symm)
  have HR2 := hid hr2
  have br := blk7 hr2
  unfold An.v tnA
  clear hc2 hg2 hr2 q3 q10 q11 q12 q13 q14 q15 q16
  go_wp2_with fail
  refine gen_w (P := fun w' => Code.wp _ _ _ _ w') (S := fun w3 => Chg (fun j => j = r) w2 w3 ∧ w3.heap[r]? = some (.cells #[.int .i64 tn.err, .int .i64 tn.nd.id, .int .i64 tn.nd.kind, .int .i64 tn.nd.mode, .string tn.nd.target, .slice tn.na tn.nl tn.nc, .int .i64 td.ver] 43 (0, 0))) _ ⟨?_, ?_⟩ ?_
  · iterate 7 refine Chg.set1 ?_ _ _ rfl
    exact Chg.refl _ _
  · have h9 := (heap_set (heap_set (heap_set (heap_set (heap_set (heap_set (heap_set HR2.out 0 (.int .i64 tn.err)) 1 (.int .i64 tn.nd.id)) 2 (.int .i64 tn.nd.kind)) 3 (.int .i64 tn.nd.mode)) 4 (.string tn.nd.target)) 5 (.slice tn.na tn.nl tn.nc)) 6 (.int .i64 td.ver))
    simp only [List.setIfInBounds_toArray, List.set_cons_zero, List.set_cons_succ] at h9
    exact h9
  rintro w3 ⟨hc3, hr3⟩
  have HC3 := hid hc3
  have HR3 := hid hr3
  clear br hc3
  have br := blk7 hr3
  clear hr3
  go_region
  all_goals
    refine gen_w (P := fun w' => Exit.then _ _ _ _ w') (S := fun w4 => Chg (fun j => j = r) w3 w4 ∧ w4.heap[r]? = some (.cells #[.int .i64 tn.err, .int .i64 tn.nd.id, .int .i64 tn.nd.kind, .int .i64 tn.nd.mode, .string tn.nd.target, .slice tn.na tn.nl tn.nc, .int .i64 td.ver] 43 (0, 0))) _ ⟨?_, ?_⟩ ?_
    · refine Chg.drew ?_
      iterate 7 refine Chg.set1 ?_ _ _ rfl
      exact Chg.refl _ _
    · refine heap_drew ?_
      have h9 := (heap_set (heap_set (heap_set (heap_set (heap_set (heap_set (heap_set HR3.out 0 (.int .i64 tn.err)) 1 (.int .i64 tn.nd.id)) 2 (.int .i64 tn.nd.kind)) 3 (.int .i64 tn.nd.mode)) 4 (.string tn.nd.target)) 5 (.slice tn.na tn.nl tn.nc)) 6 (.int .i64 td.ver))
      simp only [List.setIfInBounds_toArray, List.set_cons_zero, List.set_cons_succ] at h9
      exact h9
    rintro w4 ⟨hc4, hr4⟩
    have hc34 : Chg (fun j => j = r) w2 w4 := chg_new HC3.out hc4 (by intro j hj; exact .inl hj)
    have HC4 := hid (HC2.out.chg hc34 (fun e => HNE.out.1 e) (fun e => HNE.out.2 e) (HC2.out.hp.chg hc34 (fun k hk e => HRP.out (e ▸ hk))))
    have HX4 := hid (show Chg (fun j => j = c ∨ j = r) w w4 from chg_new (HG2.out.mono (fun _ _ h => .inl h)) hc34 (by intro j hj; exact .inl (.inr hj)))
    clear hc34 br
    go_wp2
    all_goals (try simp only [Exit.inBlock, Exit.then])
    all_goals exact HQQ.out _ _ rfl rfl rfl rfl hr4 HC4.out HX4.out
end Go.Proofs.YtbjibkjenleloaaGreatDoor

end

section
namespace Go.Proofs.YtbjibkjenleloaaGreatDoor
set_option linter.unusedVariables false
set_option linter.unusedSimpArgs false
open Go.RowKit
attribute [local go_sem ↓] Go.wp_at_zero Go.wp_at_succ
attribute [local go_sem] run_store_complex run_store_float


/-- what a drive of a look-up comes to -/
def drvLook (w : World) (c t B p n q : Nat) (s : Cl) (td : Td) (L F : List En) (wh : Int → Bool) (tn : Tn) (e : Ending) (w' : World) : Prop :=
  ∃ z n', n' ≤ n + 1000 ∧ Wk F L wh true [] rootNd (stepsL s.cp) (dirB s.cp) s.cf.li [] z ∧
    (z.need = true ∧ (∃ g, e = .returned (.tuple #[.slice (some ⟨g, 0, none⟩) 1 1, .bool false, .agg #[.int .i64 0, .int .i64 0, .int .i64 0, .int .i64 0, .string { data := #[] }, .slice none 0 0, .int .i64 0]]) ∧ w'.ownsRow w.heap.size 50 16 (.slice (some ⟨g, 0, none⟩) 1 1) 1 (askMs s td (s.seq + 1) (lookOp z.key)).cs.toList) ∧ CliAt w' c t B p n' (askedS s td (lookOp z.key)) { td with asked := s.seq + 1 } (useAll z.used L) wh ∨
     z.need = false ∧ e = .returned (.tuple #[.slice none 0 0, .bool true, (An.mk z.err z.node tn.na tn.nl tn.nc td.ver).v]) ∧ CliAt w' c t B p n' { s with busy := false, am := ms0 } td (useAll z.used L) wh) ∧
    Chg (fun j => j = c ∨ j = t ∨ j = q ∨ CF B p j) w w'
set_option maxRecDepth 100000 in
set_option maxHeartbeats 4000000 in
theorem drive_look (w : World) (c t B p n q : Nat) (s : Cl) (td : Td) (L F : List En) (wh : Int → Bool) (tn : Tn) (h : CliAt w c t B p n s td L wh) (hq : w.heap[q]? = some (.cells (tnC tn) 90 (0, 0))) (hnq : ¬ CF B p q)
    (hF : Rd w (.slice tn.fa tn.fl tn.fc) F.length (ecs F)) (hs : pathErr s.cp = 0) (hl0 : 0 ≤ s.cf.li) (hl8 : s.cf.li ≤ 8) (hn : n < 1000000000000) (hck : s.ck = 1) (hop : tn.op.kind = 0) (hs0 : 0 ≤ s.seq) (hs1 : s.seq < 1000000000000) :
    Calls Tryz.prog 31 #[.pointer (some ⟨c, 0, none⟩), .pointer (some ⟨q, 0, none⟩)] w (drvLook w c t B p n q s td L F wh tn) := by
  have hR := heap_new w (.cells #[.int .i64 0, .int .i64 0, .int .i64 0, .int .i64 0, .string { data := #[] }, .slice none 0 0, .int .i64 0] 43)
  have HR := hid hR
  have bb := bl1 w (.cells #[.int .i64 0, .int .i64 0, .int .i64 0, .int .i64 0, .string { data := #[] }, .slice none 0 0, .int .i64 0] 43)
  have HW := hid bb
  have HC := hid (h.below bb)
  have HQ := hid (heap_below bb hq (blk_lt hq))
  have HF := hid (hF.below bb)
  have hpz := h.hp.lt
  have hcz := blk_lt h.hc
  have hqz := blk_lt hq
  have htz := h.ht.lt
  have HN := hid (And.intro hn (And.intro hnq (And.intro hs (And.intro hl0 (And.intro hl8 (And.intro hck (And.intro hop (And.intro hs0 hs1))))))))
  obtain ⟨w0, hw0⟩ : ∃ w0, w0 = w.alloc (.cells #[.int .i64 0, .int .i64 0, .int .i64 0, .int .i64 0, .string { data := #[] }, .slice none 0 0, .int .i64 0] 43) := ⟨_, rfl⟩
  have hwz : w.heap.size + 1 = w0.heap.size := by rw [hw0]; simp
  have HW0 := hid hw0
  rw [← hw0] at HR HW HC HQ HF
  have e13 := cell_of HC.out.hc 13 (.int .i64 s.ck) rfl
  rw [hck] at e13
  have KR : w0.cell? ⟨c, 13, none⟩ = some (.int .i64 1) := e13.1
  have KRd : w0.drew.cell? ⟨c, 13, none⟩ = some (.int .i64 1) := KR
  clear h hq hnq hF hs hl0 hl8 hn hck hop hs0 hs1 bb hR hw0 e13
  go_enter Tryz.func31, Tryz.ntmps31
  refine wp_seq_k fun K0 hK0 => ?_
  have HK0 := hid hK0
  clear hK0
  go_wp2
  refine HK0.out _ _ ?_
  rw [← HW0.out]
  clear HK0 HW0
  refine wp_seq_k fun K1 hK1 => ?_
  have HK1 := hid hK1
  clear hK1
  go_region_held3 (fun w' => w'.cell? ⟨c, 13, none⟩ = some (.int .i64 1))
    (first | with_reducible exact KR | with_reducible exact KRd | with_reducible exact K2 | with_reducible exact K3)
    (first
      | (go_at_call 57; refine (cli_kinds _ c).mono ?_; rintro e w2 ⟨rfl, hm2, hb2⟩; (have hlk : (Instr.lookup 123 (.map (some w0.heap.size)) (.int .i64 1) false).run Tryz.prog w2 = .ok (.func (Fn.func 80) #[.pointer (some ⟨c, 0, none⟩)] #[]) w2 := run_lookf (w := w2) (mw := w0.heap.size) (F := kindsF c) (d := 1) (j := 0) (x := ⟨1, .func (Fn.func 80) #[.pointer (some ⟨c, 0, none⟩)] #[], 0⟩) hm2 (by rfl) (by rfl)); (have HB2 := hid hb2); (have HC2 := hid (CliAt.below HC.out.drew hb2)); (have HQ2 := hid (heap_below (w := w0.drew) hb2 HQ.out (blk_lt HQ.out))); (have HR2 := hid (heap_below (w := w0.drew) hb2 HR.out (blk_lt HR.out))); (have HF2 := hid (Rd.below HF.out.drew hb2)); (have K2 : w2.cell? ⟨c, 13, none⟩ = some (.int .i64 1) := by rw [← HN.out.2.2.2.2.2.1]; exact (cell_of HC2.out.hc 13 (.int .i64 s.ck) rfl).1); clear hm2 hb2)
      | (go_at_call 80; refine (cli_lookup _ c t B p n q s td L F wh tn HC2.out HQ2.out HN.out.2.1 HF2.out HN.out.2.2.1 HN.out.2.2.2.1 HN.out.2.2.2.2.1 HN.out.1).mono ?_; rintro e w3 ⟨z, hwk, rfl, hc3, hq3, hg3⟩; (have HWK := hid hwk); (have HC3 := hid hc3); (have HQ3 := hid hq3); (have HG3 := hid hg3); (have hr3 := heap_chg hg3 HR2.out (fun hf => by rcases hf with hf | hf; (have := hwz; omega); (have := hf.2; omega))); (have HR3 := hid hr3); (have K3 : w3.cell? ⟨c, 13, none⟩ = some (.int .i64 1) := by rw [← HN.out.2.2.2.2.2.1]; exact (cell_of HC3.out.hc 13 (.int .i64 s.ck) rfl).1); clear hwk hc3 hq3 hg3 hr3))
  simp only [Exit.then]
  refine HK1.out _ _ ?_
  have hus := wk_used HWK.out
  have hps := path_small HN.out.2.2.1
  have hX3 : Chg (fun j => j = c ∨ j = t ∨ j = q ∨ CF B p j) w w3 := chg_new (chg_new (Chg.below (HW.out.mono (Nat.le_refl _)) |>.mono (fun _ _ h => h.elim)) (show Chg NoB w0 w2 from (Chg.below HB2.out |> fun h => ⟨h.os, h.tape, h.output, h.size, h.block⟩)) (fun j hj => hj.elim)) HG3.out (by intro j hj; rcases hj with hj | hj; exact .inl (.inr (.inr (.inl hj))); exact .inl (.inr (.inr (.inr hj))))
  have HX3 := hid hX3
  have hnn : n + z.used.length ≤ n + 1000 := by have := HN.out.2.2.2.2.1; simp at hus; omega
  have hrp : ¬ CF B p w.heap.size := fun hf => by have := hf.2; omega
  have hz3 := HX3.out.size
  have HRZ := hid (And.intro hnn (And.intro hrp hz3))
  clear K2 K3 KR KRd hus hps hX3 hnn hrp hz3 HK1
  cases hnd : z.need with
  | true =>
    have hq3 := HQ3.out
    rw [if_pos hnd] at hq3
    refine drive_ask _ w3 0 c t B p (n + z.used.length) q w.heap.size s td _ wh _ rfl rfl rfl rfl rfl rfl rfl HC3.out hq3 HR3.out (show (1 : Int) ≠ 0 by decide) HN.out.2.2.2.2.2.2.2.1 HN.out.2.2.2.2.2.2.2.2 HRZ.out.2.1 _ ?_
    intro a' w' b hd h4 h5 h6 hr' hown hcl hch
    have br := blk7 hr'
    have h4' : a'.tmps[4]?.getD undef = .slice (some ⟨b, 0, none⟩) 1 1 := by simpa using h4
    have h5' : a'.tmps[5]?.getD undef = .bool false := by simpa using h5
    have h6' : a'.tmps[6]?.getD undef = .pointer (some ⟨w.heap.size, 0, none⟩) := by simpa using h6
    have HOC := hid (And.intro hown (And.intro hcl hch))
    clear hown hcl hch hr' h4 h5 h6
    refine bodyPost_ret (v := .tuple #[.slice (some ⟨b, 0, none⟩) 1 1, .bool false, .agg #[.int .i64 0, .int .i64 0, .int .i64 0, .int .i64 0, .string { data := #[] }, .slice none 0 0, .int .i64 0]]) (by simp [results, Tryz.results31, h4', h5', h6', go_sem, br]) hd ⟨z, n + z.used.length, HRZ.out.1, HWK.out, .inl ⟨hnd, ⟨b, rfl, ownsRow_mono HOC.out.1 HRZ.out.2.2⟩, HOC.out.2.1⟩, chg_new HX3.out HOC.out.2.2 ?_⟩
    intro j hj
    rcases hj with hj | hj | hj
    · exact .inl (.inl hj)
    · exact .inl (.inr (.inl hj))
    · subst hj; exact .inr (Nat.le_refl _)
  | false =>
    have hq3 := HQ3.out
    rw [if_neg (by rw [hnd]; decide)] at hq3
    refine drive_done _ w3 c t B p (n + z.used.length) q w.heap.size s td _ wh _ rfl rfl rfl rfl rfl rfl rfl HC3.out hq3 HR3.out HN.out.2.2.2.2.2.2.1 HRZ.out.2.1 _ ?_
    intro a' w' hd h4 h5 h6 hr' hcl hch
    have br := blk7 hr'
    have h4' : a'.tmps[4]?.getD undef = .slice none 0 0 := by simpa using h4
    have h5' : a'.tmps[5]?.getD undef = .bool true := by simpa using h5
    have h6' : a'.tmps[6]?.getD undef = .pointer (some ⟨w.heap.size, 0, none⟩) := by simpa using h6
    have HOC := hid (And.intro hcl hch)
    clear hcl hch hr' h4 h5 h6
    refine bodyPost_ret (v := .tuple #[.slice none 0 0, .bool true, (An.mk z.err z.node tn.na tn.nl tn.nc td.ver).v]) (by simp [results, Tryz.results31, h4', h5', h6', go_sem, br, An.v]) hd ⟨z, n + z.used.length, HRZ.out.1, HWK.out, .inr ⟨hnd, rfl, HOC.out.1⟩, chg_new HX3.out HOC.out.2 ?_⟩
    intro j hj
    rcases hj with hj | hj
    · exact .inl (.inl hj)
    · subst hj; exact .inr (Nat.le_refl _)
end Go.Proofs.YtbjibkjenleloaaGreatDoor

end
