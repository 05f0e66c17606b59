/- Parts of a proof about the given program, in build order: LstT. No condition. -/
import Derived.Test.YtbjibkjenleloaaGreatDoorMg38
section
namespace Go.Proofs.YtbjibkjenleloaaGreatDoor
set_option linter.unusedVariables false
set_option linter.unusedSimpArgs false
open Go.RowKit
attribute [local go_sem ↓] Go.wp_at_zero Go.wp_at_succ
attribute [local go_sem] run_store_complex run_store_float


set_option maxRecDepth 100000 in
set_option maxHeartbeats 8000000 in
theorem take_cut (w : World) (c t B p n : Nat) (s : Cl) (td td2 : Td) (L : List En) (wh : Int → Bool) (m : Ms) (F : List Ky) (h : CliAt w c t B p n s td L wh) (hn : n < 1000000) (hFl : F.length ≤ 1000)
    (htake : ∀ w1, TidAt w1 t td → Below w.heap.size w w1 → Calls Tryz.prog 32 #[.pointer (some ⟨t, 0, none⟩), m.v] w1 fun e w' => ∃ aa ca a cc, e = .returned (.slice aa 1 ca) ∧ w'.ownsRow w1.heap.size 94 7 (.slice aa 1 ca) 1 [.bool false, .bool false, .bool false, .bool false, .slice a F.length cc, .int .i64 0, .slice none 0 0] ∧ w'.ownsRow w1.heap.size 53 2 (.slice a F.length cc) F.length (kyc F) ∧ TidAt w' t td2 ∧ Chg (fun j => j = t) w1 w') :
    Calls Tryz.prog 13 #[.pointer (some ⟨c, 0, none⟩), m.v] w fun e w' => e = .returned (.tuple #[.slice none 0 0, .bool false, .agg #[.int .i64 0, .int .i64 0, .int .i64 0, .int .i64 0, .string { data := #[] }, .slice none 0 0, .int .i64 0]]) ∧ CliAt w' c t B p n s td2 (cutE F L) (cutWh F wh) ∧ Chg (fun j => j = c ∨ j = t ∨ CF B p j) w w' := by
  have HM := hid (heap_old (heap_new w (.cells m.cs 50)) (.cells #[.int .i64 0, .int .i64 0, .int .i64 0, .int .i64 0, .string { data := #[] }, .slice none 0 0, .int .i64 0] 43))
  have hR := heap_new (w.alloc (.cells m.cs 50)) (.cells #[.int .i64 0, .int .i64 0, .int .i64 0, .int .i64 0, .string { data := #[] }, .slice none 0 0, .int .i64 0] 43)
  rw [World.size_alloc] at hR
  have HR := hid hR
  have bb := bl2 w (.cells m.cs 50) (.cells #[.int .i64 0, .int .i64 0, .int .i64 0, .int .i64 0, .string { data := #[] }, .slice none 0 0, .int .i64 0] 43)
  have HW := hid bb
  have HC := hid (h.below bb)
  have hpz := h.hp.lt
  have hcz := blk_lt h.hc
  have htz := h.ht.lt
  have HNE := hid (heap_ty h.hc h.ht (by decide))
  have HTK := hid htake
  have HFL := hid (And.intro hn hFl)
  obtain ⟨w0, hw0⟩ : ∃ w0, w0 = (w.alloc (.cells m.cs 50)).alloc (.cells #[.int .i64 0, .int .i64 0, .int .i64 0, .int .i64 0, .string { data := #[] }, .slice none 0 0, .int .i64 0] 43) := ⟨_, rfl⟩
  have hwz : w.heap.size + 2 = w0.heap.size := by rw [hw0]; simp
  have HW0 := hid hw0
  rw [← hw0] at HM HR HW HC
  have bm := (blk16 HM.out).1
  have KR : w0.cell? ⟨c, 9, none⟩ = some (.pointer (some ⟨t, 0, none⟩)) ∧ w0.cell? ⟨w.heap.size, 0, none⟩ = some (.int .i64 m.kind) ∧ w0.cell? ⟨w.heap.size, 1, none⟩ = some (.int .i64 m.client) ∧ w0.cell? ⟨w.heap.size, 2, none⟩ = some (.int .i64 m.life) ∧ w0.cell? ⟨w.heap.size, 3, none⟩ = some (.int .i64 m.seq) ∧ w0.cell? ⟨w.heap.size, 4, none⟩ = some (.complex .f64 (fl m.me) (fl m.mn)) ∧ w0.cell? ⟨w.heap.size, 5, none⟩ = some (.int .i64 m.ver) ∧ w0.cell? ⟨w.heap.size, 6, none⟩ = some (.int .i64 m.err) ∧ w0.cell? ⟨w.heap.size, 7, none⟩ = some (.int .i64 m.op.kind) ∧ w0.cell? ⟨w.heap.size, 8, none⟩ = some (.int .i64 m.op.dir) ∧ w0.cell? ⟨w.heap.size, 9, none⟩ = some (.string m.op.name) ∧ w0.cell? ⟨w.heap.size, 10, none⟩ = some (.int .i64 m.op.to_) ∧ w0.cell? ⟨w.heap.size, 11, none⟩ = some (.string m.op.new_) ∧ w0.cell? ⟨w.heap.size, 12, none⟩ = some (.int .i64 m.op.mode) ∧ w0.cell? ⟨w.heap.size, 13, none⟩ = some (.string m.op.target) ∧ w0.cell? ⟨w.heap.size, 14, none⟩ = some (.slice m.ea m.el m.ec) ∧ w0.cell? ⟨w.heap.size, 15, none⟩ = some (.slice m.ka m.kl m.kc) := ⟨(cell_of HC.out.hc 9 (.pointer (some ⟨t, 0, none⟩)) rfl).1, bm.1, bm.2.1, bm.2.2.1, bm.2.2.2.1, bm.2.2.2.2.1, bm.2.2.2.2.2.1, bm.2.2.2.2.2.2.1, bm.2.2.2.2.2.2.2.1, bm.2.2.2.2.2.2.2.2.1, bm.2.2.2.2.2.2.2.2.2.1, bm.2.2.2.2.2.2.2.2.2.2.1, bm.2.2.2.2.2.2.2.2.2.2.2.1, bm.2.2.2.2.2.2.2.2.2.2.2.2.1, bm.2.2.2.2.2.2.2.2.2.2.2.2.2.1, bm.2.2.2.2.2.2.2.2.2.2.2.2.2.2.1, bm.2.2.2.2.2.2.2.2.2.2.2.2.2.2.2⟩
  have KRd : w0.drew.cell? ⟨c, 9, none⟩ = some (.pointer (some ⟨t, 0, none⟩)) ∧ w0.drew.cell? ⟨w.heap.size, 0, none⟩ = some (.int .i64 m.kind) ∧ w0.drew.cell? ⟨w.heap.size, 1, none⟩ = some (.int .i64 m.client) ∧ w0.drew.cell? ⟨w.heap.size, 2, none⟩ = some (.int .i64 m.life) ∧ w0.drew.cell? ⟨w.heap.size, 3, none⟩ = some (.int .i64 m.seq) ∧ w0.drew.cell? ⟨w.heap.size, 4, none⟩ = some (.complex .f64 (fl m.me) (fl m.mn)) ∧ w0.drew.cell? ⟨w.heap.size, 5, none⟩ = some (.int .i64 m.ver) ∧ w0.drew.cell? ⟨w.heap.size, 6, none⟩ = some (.int .i64 m.err) ∧ w0.drew.cell? ⟨w.heap.size, 7, none⟩ = some (.int .i64 m.op.kind) ∧ w0.drew.cell? ⟨w.heap.size, 8, none⟩ = some (.int .i64 m.op.dir) ∧ w0.drew.cell? ⟨w.heap.size, 9, none⟩ = some (.string m.op.name) ∧ w0.drew.cell? ⟨w.heap.size, 10, none⟩ = some (.int .i64 m.op.to_) ∧ w0.drew.cell? ⟨w.heap.size, 11, none⟩ = some (.string m.op.new_) ∧ w0.drew.cell? ⟨w.heap.size, 12, none⟩ = some (.int .i64 m.op.mode) ∧ w0.drew.cell? ⟨w.heap.size, 13, none⟩ = some (.string m.op.target) ∧ w0.drew.cell? ⟨w.heap.size, 14, none⟩ = some (.slice m.ea m.el m.ec) ∧ w0.drew.cell? ⟨w.heap.size, 15, none⟩ = some (.slice m.ka m.kl m.kc) := KR
  clear h bb hR hw0 htake hn hFl bm
  unfold Ms.v at HTK ⊢
  unfold Ms.cs at HTK HW0 HM ⊢
  go_enter Tryz.func13, Tryz.ntmps13
  refine wp_seq_k fun K0 hK0 => ?_
  have HK0 := hid hK0
  clear hK0
  go_wp2
  refine HK0.out _ _ ?_
  rw [← HW0.out]
  clear HK0 HW0
  go_wp2_with fail
  go_region_held3 (fun w' => w'.cell? ⟨c, 9, none⟩ = some (.pointer (some ⟨t, 0, none⟩)) ∧ w'.cell? ⟨w.heap.size, 0, none⟩ = some (.int .i64 m.kind) ∧ w'.cell? ⟨w.heap.size, 1, none⟩ = some (.int .i64 m.client) ∧ w'.cell? ⟨w.heap.size, 2, none⟩ = some (.int .i64 m.life) ∧ w'.cell? ⟨w.heap.size, 3, none⟩ = some (.int .i64 m.seq) ∧ w'.cell? ⟨w.heap.size, 4, none⟩ = some (.complex .f64 (fl m.me) (fl m.mn)) ∧ w'.cell? ⟨w.heap.size, 5, none⟩ = some (.int .i64 m.ver) ∧ w'.cell? ⟨w.heap.size, 6, none⟩ = some (.int .i64 m.err) ∧ w'.cell? ⟨w.heap.size, 7, none⟩ = some (.int .i64 m.op.kind) ∧ w'.cell? ⟨w.heap.size, 8, none⟩ = some (.int .i64 m.op.dir) ∧ w'.cell? ⟨w.heap.size, 9, none⟩ = some (.string m.op.name) ∧ w'.cell? ⟨w.heap.size, 10, none⟩ = some (.int .i64 m.op.to_) ∧ w'.cell? ⟨w.heap.size, 11, none⟩ = some (.string m.op.new_) ∧ w'.cell? ⟨w.heap.size, 12, none⟩ = some (.int .i64 m.op.mode) ∧ w'.cell? ⟨w.heap.size, 13, none⟩ = some (.string m.op.target) ∧ w'.cell? ⟨w.heap.size, 14, none⟩ = some (.slice m.ea m.el m.ec) ∧ w'.cell? ⟨w.heap.size, 15, none⟩ = some (.slice m.ka m.kl m.kc))
    (first | with_reducible exact KR | with_reducible exact KRd | with_reducible exact K1)
    (first | (go_at_call 32; refine (HTK.out _ HC.out.drew.ht HW.out.drew).mono ?_; rintro e w1 ⟨aa, ca, a, cc, rfl, ho1, hE1, ht1, hg1⟩; (have HO1 := hid ho1); (have HE1 := hid hE1); (have HG1 := hid (show Chg (fun j => j = t) w0 w1 from ⟨hg1.os, hg1.tape, hg1.output, hg1.size, hg1.block⟩)); (have HC1 := hid (show CliAt w1 c t B p n s td2 L wh from ⟨heap_chg hg1 HC.out.drew.hc (fun e => HNE.out e), ht1, HC.out.drew.hp.chg hg1 (fun k hk e => HC.out.ntp (e ▸ hk)), HC.out.ncp, HC.out.ntp⟩)); (have hr1 := heap_chg hg1 (show w0.drew.heap[w.heap.size + 1]? = _ from HR.out) (by omega)); (have HR1 := hid hr1); (have bm1 := (blk16 (heap_chg hg1 (show w0.drew.heap[w.heap.size]? = _ from HM.out) (by omega))).1); (have K1 : w1.cell? ⟨c, 9, none⟩ = some (.pointer (some ⟨t, 0, none⟩)) ∧ w1.cell? ⟨w.heap.size, 0, none⟩ = some (.int .i64 m.kind) ∧ w1.cell? ⟨w.heap.size, 1, none⟩ = some (.int .i64 m.client) ∧ w1.cell? ⟨w.heap.size, 2, none⟩ = some (.int .i64 m.life) ∧ w1.cell? ⟨w.heap.size, 3, none⟩ = some (.int .i64 m.seq) ∧ w1.cell? ⟨w.heap.size, 4, none⟩ = some (.complex .f64 (fl m.me) (fl m.mn)) ∧ w1.cell? ⟨w.heap.size, 5, none⟩ = some (.int .i64 m.ver) ∧ w1.cell? ⟨w.heap.size, 6, none⟩ = some (.int .i64 m.err) ∧ w1.cell? ⟨w.heap.size, 7, none⟩ = some (.int .i64 m.op.kind) ∧ w1.cell? ⟨w.heap.size, 8, none⟩ = some (.int .i64 m.op.dir) ∧ w1.cell? ⟨w.heap.size, 9, none⟩ = some (.string m.op.name) ∧ w1.cell? ⟨w.heap.size, 10, none⟩ = some (.int .i64 m.op.to_) ∧ w1.cell? ⟨w.heap.size, 11, none⟩ = some (.string m.op.new_) ∧ w1.cell? ⟨w.heap.size, 12, none⟩ = some (.int .i64 m.op.mode) ∧ w1.cell? ⟨w.heap.size, 13, none⟩ = some (.string m.op.target) ∧ w1.cell? ⟨w.heap.size, 14, none⟩ = some (.slice m.ea m.el m.ec) ∧ w1.cell? ⟨w.heap.size, 15, none⟩ = some (.slice m.ka m.kl m.kc) := ⟨(cell_of HC1.out.hc 9 (.pointer (some ⟨t, 0, none⟩)) rfl).1, bm1.1, bm1.2.1, bm1.2.2.1, bm1.2.2.2.1, bm1.2.2.2.2.1, bm1.2.2.2.2.2.1, bm1.2.2.2.2.2.2.1, bm1.2.2.2.2.2.2.2.1, bm1.2.2.2.2.2.2.2.2.1, bm1.2.2.2.2.2.2.2.2.2.1, bm1.2.2.2.2.2.2.2.2.2.2.1, bm1.2.2.2.2.2.2.2.2.2.2.2.1, bm1.2.2.2.2.2.2.2.2.2.2.2.2.1, bm1.2.2.2.2.2.2.2.2.2.2.2.2.2.1, bm1.2.2.2.2.2.2.2.2.2.2.2.2.2.2.1, bm1.2.2.2.2.2.2.2.2.2.2.2.2.2.2.2⟩); clear ho1 hE1 ht1 hg1 hr1 bm1))
  clear KR KRd K1
  go_wp2_with fail
  have hz1 : w0.heap.size ≤ w1.heap.size := HG1.out.size
  obtain ⟨g, hag, hBg, hgz, hca, hcm⟩ := own_loc HO1.out (by omega)
  subst hag
  have hw0z : w0.drew.heap.size = w0.heap.size := rfl
  rw [hw0z] at hBg
  have HT1 := hid (show CliAt w1 c t B p n s td2 L wh from HC1.out)
  go_loopw [4, 5, 8, 9, 17] (fun v4 v5 _ _ v17 wr => (v17 = .int .i64 0 ∧ v4 = .slice none 0 0 ∧ v5 = .bool false ∧ wr = w1) ∨ (v17 = .int .i64 1 ∧ v4 = .slice none 0 0 ∧ v5 = .bool false ∧ Hid (CliAt wr c t B p n s td2 (cutE F L) (cutWh F wh)) ∧ Hid (Chg (CF B p) w1 wr))) (fun _ _ _ _ v17 _ => 1 - (intOf v17).toNat)
  case atStart => exact .inl ⟨rfl, rfl, rfl, rfl⟩
  case round =>
    rcases hrel with ⟨rfl, rfl, rfl, rfl⟩ | ⟨rfl, rfl, rfl, HP, HG⟩
    · have A := Rd.own HO1.out
      have x0 := A.at 0 (.bool false) rfl
      have x1 := A.at 1 (.bool false) rfl
      have x2 := A.at 2 (.bool false) rfl
      have x3 := A.at 3 (.bool false) rfl
      have x4 := A.at 4 (.slice a F.length cc) rfl
      have x5 := A.at 5 (.int .i64 0) rfl
      have x6 := A.at 6 (.slice none 0 0) rfl
      simp only [Nat.zero_add] at x0 x1 x2 x3 x4 x5 x6
      have e10 := cell_of (heap_old HC1.out.hc (.cells #[.bool false, .bool false, .bool false, .bool false, .slice a F.length cc, .int .i64 0, .slice none 0 0] 94)) 10 (.pointer (some ⟨p, 0, none⟩)) rfl
      have HPA := hid (HC1.out.hp.below (bl1 wr (.cells #[.bool false, .bool false, .bool false, .bool false, .slice a F.length cc, .int .i64 0, .slice none 0 0] 94)))
      have HEA := hid (own_alloc HE1.out (.cells #[.bool false, .bool false, .bool false, .bool false, .slice a F.length cc, .int .i64 0, .slice none 0 0] 94))
      have KR : (wr.alloc (.cells #[.bool false, .bool false, .bool false, .bool false, .slice a F.length cc, .int .i64 0, .slice none 0 0] 94)).cell? ⟨c, 10, none⟩ = some (.pointer (some ⟨p, 0, none⟩)) ∧ (wr.alloc (.cells #[.bool false, .bool false, .bool false, .bool false, .slice a F.length cc, .int .i64 0, .slice none 0 0] 94)).cell? ⟨wr.heap.size, 4, none⟩ = some (.slice a F.length cc) := ⟨e10.1, (blk7 (heap_new wr (.cells #[.bool false, .bool false, .bool false, .bool false, .slice a F.length cc, .int .i64 0, .slice none 0 0] 94))).2.2.2.2.1⟩
      have KRd : (wr.alloc (.cells #[.bool false, .bool false, .bool false, .bool false, .slice a F.length cc, .int .i64 0, .slice none 0 0] 94)).drew.cell? ⟨c, 10, none⟩ = some (.pointer (some ⟨p, 0, none⟩)) ∧ (wr.alloc (.cells #[.bool false, .bool false, .bool false, .bool false, .slice a F.length cc, .int .i64 0, .slice none 0 0] 94)).drew.cell? ⟨wr.heap.size, 4, none⟩ = some (.slice a F.length cc) := KR
      have HC1x := hid (HC1.out.below (bl1 wr (.cells #[.bool false, .bool false, .bool false, .bool false, .slice a F.length cc, .int .i64 0, .slice none 0 0] 94)))
      have HNB := hid (heap_new wr (.cells #[.bool false, .bool false, .bool false, .bool false, .slice a F.length cc, .int .i64 0, .slice none 0 0] 94))
      have hxp : p < wr.heap.size := HC1.out.hp.lt
      have hxc : c < wr.heap.size := blk_lt HC1.out.hc
      clear A
      go_wp2_with fail
      go_region_held3 (fun w' => w'.cell? ⟨c, 10, none⟩ = some (.pointer (some ⟨p, 0, none⟩)) ∧ w'.cell? ⟨wr.heap.size, 4, none⟩ = some (.slice a F.length cc))
        (first | with_reducible exact KR | with_reducible exact KRd | with_reducible exact K2)
        (first | (go_at_call 35; refine (c_cut _ B p n L wh F a cc _ HC1x.out.drew.hp (own_drew HEA.out) (by rw [hw0z]; omega) (by have := HFL.out.2; omega)).mono ?_; rintro e w2 ⟨rfl, hp2, hg2⟩; (have HC2 := hid (show CliAt w2 c t B p n s td2 (cutE F L) (cutWh F wh) from HC1x.out.drew.chg hg2 HC1.out.ncp HC1.out.ntp hp2)); (have HG2 := hid (Chg.trans (Chg.below (bl1 wr (.cells #[.bool false, .bool false, .bool false, .bool false, .slice a F.length cc, .int .i64 0, .slice none 0 0] 94))).drew hg2 (fun _ _ h => h.elim) (fun _ _ h => h))); (have K2 : w2.cell? ⟨c, 10, none⟩ = some (.pointer (some ⟨p, 0, none⟩)) ∧ w2.cell? ⟨wr.heap.size, 4, none⟩ = some (.slice a F.length cc) := ⟨(cell_of HC2.out.hc 10 (.pointer (some ⟨p, 0, none⟩)) rfl).1, (blk7 (heap_chg hg2 (heap_drew HNB.out) (fun hf => by have := hf.2; omega))).2.2.2.2.1⟩); clear hp2 hg2))
      all_goals
        (try simp only [Exit.inBlock, Exit.then])
        (try go_wp2)
        exact ⟨.inr ⟨rfl, rfl, rfl, HC2, HG2⟩, by decide⟩
    · have br := blk7 (heap_chg HG.out HR1.out (fun hf => by have := hf.2; omega))
      have HRr := hid (heap_chg HG.out HR1.out (fun hf => by have := hf.2; omega))
      have HGX := hid (show Chg (fun j => j = c ∨ j = t ∨ CF B p j) w wr from chg_new (chg_new (Chg.below (HW.out.mono (Nat.le_refl _)) |>.mono (fun _ _ h => h.elim)) HG1.out (by intro j hj; exact .inl (.inr (.inl hj)))) HG.out (by intro j hj; exact .inl (.inr (.inr hj))))
      go_wp2_with fail
      go_region
      all_goals
        refine gen_w (P := fun w' => Exit.then _ _ _ _ w') (S := fun w4 => Chg (fun j => j = w.heap.size + 1) wr w4 ∧ w4.heap[w.heap.size + 1]? = some (.cells #[.int .i64 0, .int .i64 0, .int .i64 0, .int .i64 0, .string { data := #[] }, .slice none 0 0, .int .i64 0] 43 (0, 0))) _ ⟨?_, ?_⟩ ?_
        · refine Chg.drew ?_
          iterate 7 refine Chg.set1 ?_ _ _ rfl
          exact Chg.refl _ _
        · refine heap_drew ?_
          have h9 := (heap_set (heap_set (heap_set (heap_set (heap_set (heap_set (heap_set HRr.out 0 (.int .i64 0)) 1 (.int .i64 0)) 2 (.int .i64 0)) 3 (.int .i64 0)) 4 (.string { data := #[] })) 5 (.slice none 0 0)) 6 (.int .i64 0))
          simp only [List.setIfInBounds_toArray, List.set_cons_zero, List.set_cons_succ] at h9
          exact h9
        rintro w4 ⟨hc4, hr4⟩
        have b4 := blk7 hr4
        have HC4 := hid (HP.out.chg hc4 (by omega) (by omega) (HP.out.hp.chg hc4 (fun k hk e => by have := hk.2; omega)))
        have HX4 := hid (show Chg (fun j => j = c ∨ j = t ∨ CF B p j) w w4 from chg_new HGX.out hc4 (by intro j hj; right; omega))
        clear br hc4 hr4
        go_wp2
        all_goals (try simp only [Exit.inBlock, Exit.then])
        all_goals refine bodyPost_ret (v := .tuple #[.slice none 0 0, .bool false, .agg #[.int .i64 0, .int .i64 0, .int .i64 0, .int .i64 0, .string { data := #[] }, .slice none 0 0, .int .i64 0]]) (by simp [results, Tryz.results13, go_sem, b4]) rfl ⟨rfl, HC4.out, HX4.out⟩
end Go.Proofs.YtbjibkjenleloaaGreatDoor

end
