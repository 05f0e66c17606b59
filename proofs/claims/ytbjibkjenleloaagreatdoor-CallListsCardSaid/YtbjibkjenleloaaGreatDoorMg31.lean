/- Parts of a proof about the given program, in build order: CmuH. No condition. -/
import Derived.Test.YtbjibkjenleloaaGreatDoorMg30
section
namespace Go.Proofs.YtbjibkjenleloaaGreatDoor
set_option linter.unusedVariables false
set_option linter.unusedSimpArgs false
open Go.RowKit
attribute [local go_sem ↓] Go.wp_at_zero Go.wp_at_succ
attribute [local go_sem] run_store_complex run_store_float


set_option maxRecDepth 100000 in
set_option maxHeartbeats 8000000 in
theorem rp_end_mut (w w3 : World) (a : Act) (c t B p n A O R Bu : Nat) (s : Cl) (td : Td) (L F : List En) (wh : Int → Bool) (ea : Option Addr) (ec : Nat) (wb : Bool) (er : Int) (op : Op7) (hs : a.tmps.size = 111) (hd : a.defers = []) (f0 : a.tmps.getD 0 undef = .pointer (some ⟨c, 0, none⟩)) (f3 : a.tmps.getD 3 undef = .pointer (some ⟨A, 0, none⟩)) (f4 : a.tmps.getD 4 undef = .slice none 0 0) (f5 : a.tmps.getD 5 undef = .bool false) (f6 : a.tmps.getD 6 undef = .pointer (some ⟨R, 0, none⟩)) (f7 : a.tmps.getD 7 undef = .pointer (some ⟨O, 0, none⟩))
    (h : RpI w w3 c t B p n A O R s td L wh F ea ec wb er op Bu) (hn : n < 1000000000) (hAR : A ≠ R ∧ O ≠ R) (hk : 4 ≤ op.kind) (hcA : c < w.heap.size ∧ t < w.heap.size) :
    (sndN 6 rpBody).wp Tryz.prog (bodyPost Tryz.prog Tryz.f34 (fun e w' => e = .returned (.tuple #[.slice none 0 0, .bool true, (An.mk er nd0 none 0 0 td.ver).v]) ∧ CliAt w' c t B p n { s with busy := false, am := ms0 } td (trimT s.cf.de s.cf.ne ⟨L, wh, []⟩).L (trimT s.cf.de s.cf.ne ⟨L, wh, []⟩).wh ∧ Chg (fun j => j = c ∨ CF B p j) w w')) a w3 := by
  obtain ⟨v, rfl⟩ := open111 a c A R O hs hd f0 f3 f4 f5 f6 f7
  have HN := hid (And.intro hn (And.intro hAR hcA))
  have HC3 := hid h.at_
  have HI := hid h
  have HLO := hid h.lo
  have d1 : (op.kind == 1) = false := by simp; omega
  have d2 : (op.kind == 2) = false := by simp; omega
  have d3 : (op.kind == 3) = false := by simp; omega
  have g1 : decide (op.kind = 1) = false := by simp; omega
  have g2 : decide (op.kind = 2) = false := by simp; omega
  have g3 : decide (op.kind = 3) = false := by simp; omega
  have k3 : (op.kind != 3) = true := by simp; omega
  have bo := blk7 h.O_
  have hcp : ∀ k, p < k → ¬ CF B p k := fun k hk hf => by have := hf.2; omega
  have HCP := hid hcp
  have KR : w3.cell? ⟨c, 10, none⟩ = some (.pointer (some ⟨p, 0, none⟩)) ∧ w3.cell? ⟨c, 3, none⟩ = some (.int .i64 s.cf.de) ∧ w3.cell? ⟨c, 4, none⟩ = some (.int .i64 s.cf.ne) := ⟨(cell_of HC3.out.hc 10 (.pointer (some ⟨p, 0, none⟩)) rfl).1, (cell_of HC3.out.hc 3 (.int .i64 s.cf.de) rfl).1, (cell_of HC3.out.hc 4 (.int .i64 s.cf.ne) rfl).1⟩
  have KRd : w3.drew.cell? ⟨c, 10, none⟩ = some (.pointer (some ⟨p, 0, none⟩)) ∧ w3.drew.cell? ⟨c, 3, none⟩ = some (.int .i64 s.cf.de) ∧ w3.drew.cell? ⟨c, 4, none⟩ = some (.int .i64 s.cf.ne) := KR
  clear hs hd f0 f3 f4 f5 f6 f7 h hn hAR hk hcA hcp
  conv => pattern (sndN 6 rpBody); whnf
  go_wp2_with fail
  go_region_held3 (fun w' => w'.cell? ⟨c, 10, none⟩ = some (.pointer (some ⟨p, 0, none⟩)) ∧ w'.cell? ⟨c, 3, none⟩ = some (.int .i64 s.cf.de) ∧ w'.cell? ⟨c, 4, none⟩ = some (.int .i64 s.cf.ne))
    (first | with_reducible exact KR | with_reducible exact KRd | with_reducible exact K5)
    (first | (go_at_call 68; refine (c_trim _ B p _ _ wh s.cf.de s.cf.ne HC3.out.drew.hp (by have := HN.out.1; omega)).mono ?_; rintro e w5 ⟨sT, a5, c5, rfl, hsT, ho5, hp5, hl5, hg5⟩; (have HS5 := hid hsT); (have HG5 := hid hg5); (have HC5 := hid (HC3.out.drew.chg hg5 HC3.out.ncp HC3.out.ntp hp5)); (have K5 : w5.cell? ⟨c, 10, none⟩ = some (.pointer (some ⟨p, 0, none⟩)) ∧ w5.cell? ⟨c, 3, none⟩ = some (.int .i64 s.cf.de) ∧ w5.cell? ⟨c, 4, none⟩ = some (.int .i64 s.cf.ne) := ⟨(cell_of HC5.out.hc 10 (.pointer (some ⟨p, 0, none⟩)) rfl).1, (cell_of HC5.out.hc 3 (.int .i64 s.cf.de) rfl).1, (cell_of HC5.out.hc 4 (.int .i64 s.cf.ne) rfl).1⟩); clear hsT ho5 hp5 hl5 hg5))
  have HX5 := hid (show Chg (fun j => j = c ∨ CF B p j) w w5 from chg_new (Chg.drew HI.out.ch) HG5.out (by intro j hj; exact .inl (.inr hj)))
  have HA5 := hid (heap_chg HG5.out (heap_drew HI.out.A_) (HCP.out _ HLO.out.1))
  have HO5 := hid (heap_chg HG5.out (heap_drew HI.out.O_) (HCP.out _ HLO.out.2.1))
  have HR5 := hid (heap_chg HG5.out (heap_drew HI.out.R_) (HCP.out _ HLO.out.2.2.1))
  clear KR KRd K5 bo
  have bo := blk7 HO5.out
  have ba := blk7 HA5.out
  go_wp2_with fail
  refine (cli_end _ c t B p n s td sT.L sT.wh (An.mk er nd0 none 0 0 0) HC5.out).mono ?_; rintro e w6 ⟨rfl, hc6, hg6⟩
  have hcA : c ≠ R := by have h1 := HLO.out.2.2.2.2.2.2; have h2 := HN.out.2.2.1; omega
  have hr6 := heap_chg hg6 HR5.out (fun h => hcA h.symm)
  have HR6 := hid hr6
  have HC6 := hid hc6
  have HX6 := hid (chg_new HX5.out hg6 (by intro j hj; exact .inl (.inl hj)))
  have br := blk7 hr6
  unfold An.v nd0
  clear hr6 hc6 hg6 bo ba
  go_wp2_with fail
  refine gen_w (P := fun w' => Code.wp _ _ _ _ w') (S := fun w7 => Chg (fun j => j = R) w6 w7 ∧ w7.heap[R]? = some (.cells #[.int .i64 er, .int .i64 0, .int .i64 0, .int .i64 0, .string { data := #[] }, .slice none 0 0, .int .i64 td.ver] 43 (0, 0))) _ ⟨?_, ?_⟩ ?_
  · iterate 7 refine Chg.set1 ?_ _ _ rfl
    exact Chg.refl _ _
  · have h9 := (heap_set (heap_set (heap_set (heap_set (heap_set (heap_set (heap_set HR6.out 0 (.int .i64 er)) 1 (.int .i64 0)) 2 (.int .i64 0)) 3 (.int .i64 0)) 4 (.string { data := #[] })) 5 (.slice none 0 0)) 6 (.int .i64 td.ver))
    simp only [List.setIfInBounds_toArray, List.set_cons_zero, List.set_cons_succ] at h9
    exact h9
  rintro w7 ⟨hc7, hr7⟩
  have HR7 := hid hr7
  have HG7 := hid hc7
  clear br hc7
  have br := blk7 hr7
  clear hr7
  go_region
  all_goals
    (try simp only [Exit.then])
    (try go_wp2)
    (try simp only [Exit.inBlock, Exit.then])
    refine gen_w (P := fun w' => bodyPost _ _ _ _ _ w') (S := fun w8 => Chg (fun j => j = R) w7 w8 ∧ w8.heap[R]? = some (.cells #[.int .i64 er, .int .i64 0, .int .i64 0, .int .i64 0, .string { data := #[] }, .slice none 0 0, .int .i64 td.ver] 43 (0, 0))) _ ⟨?_, ?_⟩ ?_
    · refine Chg.drew ?_
      iterate 7 refine Chg.set1 ?_ _ _ rfl
      exact Chg.refl _ _
    · refine heap_drew ?_
      have h9 := (heap_set (heap_set (heap_set (heap_set (heap_set (heap_set (heap_set HR7.out 0 (.int .i64 er)) 1 (.int .i64 0)) 2 (.int .i64 0)) 3 (.int .i64 0)) 4 (.string { data := #[] })) 5 (.slice none 0 0)) 6 (.int .i64 td.ver))
      simp only [List.setIfInBounds_toArray, List.set_cons_zero, List.set_cons_succ] at h9
      exact h9
    rintro w8 ⟨hc8, hr8⟩
    have b8 := blk7 hr8
    have HG8 := hid (chg_new HG7.out hc8 (fun j hj => .inl hj))
    have hlo3 := HLO.out
    have hltc := HN.out.2.2
    have HC8 := hid (HC6.out.chg HG8.out hcA (by omega) (HC6.out.hp.chg HG8.out (fun k hk e => by have := hk.2; omega)))
    have HX8 := hid (chg_new HX6.out HG8.out (by intro j hj; right; omega))
    clear br hc8 hr8
    refine bodyPost_ret (v := .tuple #[.slice none 0 0, .bool true, .agg #[.int .i64 er, .int .i64 0, .int .i64 0, .int .i64 0, .string { data := #[] }, .slice none 0 0, .int .i64 td.ver]]) (by simp [results, Tryz.results34, go_sem, b8]) rfl ⟨rfl, ?_, HX8.out⟩
    rw [← HS5.out]
    exact HC8.out
set_option maxRecDepth 100000 in
set_option maxHeartbeats 8000000 in
theorem reply_mut (w : World) (c t B p n Bu : Nat) (s : Cl) (td : Td) (L F : List En) (wh : Int → Bool) (ea : Option Addr) (ec : Nat) (wb : Bool) (er : Int) (h : CliAt w c t B p n s td L wh) (hE : w.ownsRow Bu 55 7 (.slice ea F.length ec) F.length (ecs F)) (hBu : p < Bu) (hk : 4 ≤ s.am.op.kind) (hn : n + F.length < 1000000000) :
    Calls Tryz.prog 34 #[.pointer (some ⟨c, 0, none⟩), actV false false true wb none 0 0 er ea F.length ec] w fun e w' => e = .returned (.tuple #[.slice none 0 0, .bool true, (An.mk er nd0 none 0 0 td.ver).v]) ∧ CliAt w' c t B p (n + (if er = 0 then F else []).length) { s with busy := false, am := ms0 } td (trimT s.cf.de s.cf.ne ⟨putAll (if er = 0 then F else []) L, wh, []⟩).L (trimT s.cf.de s.cf.ne ⟨putAll (if er = 0 then F else []) L, wh, []⟩).wh ∧ Chg (fun j => j = c ∨ CF B p j) w w' := by
  have hlt : c < w.heap.size ∧ t < w.heap.size := ⟨blk_lt h.hc, h.ht.lt⟩
  have hl : (if er = 0 then F else []).length ≤ F.length := by split <;> simp
  go_enter Tryz.func34, Tryz.ntmps34
  refine rp_front w c t B p n Bu s td L F wh ea ec wb er (cutN 2 (sndN 4 rpBody) (sndN 6 rpBody)) _ h hE hBu ?_
  intro a w2 A O R F' ea' ec' hF' hs hd f0 f3 f4 f5 f6 f7 hI
  subst hF'
  refine rp_put w w2 a c t B p n A O R Bu _ td L _ wh ea' ec' wb er s.am.op _ _ hs hd f0 f3 f4 f5 f6 f7 hI (by omega) ?_
  intro a3 w3 q hs3 hd3 g0 g3 g4 g5 g6 g7 _ hI3 _ _ _
  exact rp_end_mut w w3 a3 c t B p _ A O R Bu { s with am := ms0 } td _ _ wh ea' ec' wb er s.am.op hs3 hd3 g0 g3 g4 g5 g6 g7 hI3 (by omega) ⟨heap_ty hI3.A_ hI3.R_ (by decide), heap_ty hI3.O_ hI3.R_ (by decide)⟩ hk hlt
end Go.Proofs.YtbjibkjenleloaaGreatDoor

end
