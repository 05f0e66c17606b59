/- Parts of a proof about the given program, in build order: LstE, LstF. No condition. -/
import Derived.Test.YtbjibkjenleloaaGreatDoorMg29
import Derived.Test.YtbjibkjenleloaaGreatDoorMg34
section
namespace Go.Proofs.YtbjibkjenleloaaGreatDoor
set_option linter.unusedVariables false
set_option linter.unusedSimpArgs false
open Go.RowKit
attribute [local go_sem ↓] Go.wp_at_zero Go.wp_at_succ
attribute [local go_sem] run_store_complex run_store_float


def setWh (d : Int) (wh : Int → Bool) (e : Int) : Bool := wh e || d == e
theorem open111b (a : Act) (c A R O q : Nat) (hs : a.tmps.size = 111) (hd : a.defers = []) (f0 : a.tmps.getD 0 undef = .pointer (some ⟨c, 0, none⟩)) (f3 : a.tmps.getD 3 undef = .pointer (some ⟨A, 0, none⟩)) (f4 : a.tmps.getD 4 undef = .slice none 0 0) (f5 : a.tmps.getD 5 undef = .bool false) (f6 : a.tmps.getD 6 undef = .pointer (some ⟨R, 0, none⟩)) (f7 : a.tmps.getD 7 undef = .pointer (some ⟨O, 0, none⟩)) (f10 : a.tmps.getD 10 undef = .pointer (some ⟨q, 0, none⟩)) : ∃ v : Nat → Value, a = { tmps := #[.pointer (some ⟨c, 0, none⟩), v 1, v 2, .pointer (some ⟨A, 0, none⟩), .slice none 0 0, .bool false, .pointer (some ⟨R, 0, none⟩), .pointer (some ⟨O, 0, none⟩), v 8, v 9, .pointer (some ⟨q, 0, none⟩), v 11, v 12, v 13, v 14, v 15, v 16, v 17, v 18, v 19, v 20, v 21, v 22, v 23, v 24, v 25, v 26, v 27, v 28, v 29, v 30, v 31, v 32, v 33, v 34, v 35, v 36, v 37, v 38, v 39, v 40, v 41, v 42, v 43, v 44, v 45, v 46, v 47, v 48, v 49, v 50, v 51, v 52, v 53, v 54, v 55, v 56, v 57, v 58, v 59, v 60, v 61, v 62, v 63, v 64, v 65, v 66, v 67, v 68, v 69, v 70, v 71, v 72, v 73, v 74, v 75, v 76, v 77, v 78, v 79, v 80, v 81, v 82, v 83, v 84, v 85, v 86, v 87, v 88, v 89, v 90, v 91, v 92, v 93, v 94, v 95, v 96, v 97, v 98, v 99, v 100, v 101, v 102, v 103, v 104, v 105, v 106, v 107, v 108, v 109, v 110], defers := [] } := by
  refine ⟨fun i => a.tmps.getD i undef, ?_⟩
  have h9 := frame111 a hs hd
  rw [f0, f3, f4, f5, f6, f7, f10] at h9
  exact h9
set_option maxRecDepth 100000 in
set_option maxHeartbeats 8000000 in
theorem rp_end_list (w w3 : World) (a : Act) (c t B p n A O R Bu q : Nat) (s : Cl) (td : Td) (L F : List En) (wh : Int → Bool) (ea : Option Addr) (ec : Nat) (op : Op7) (hs : a.tmps.size = 111) (hd : a.defers = []) (f0 : a.tmps.getD 0 undef = .pointer (some ⟨c, 0, none⟩)) (f3 : a.tmps.getD 3 undef = .pointer (some ⟨A, 0, none⟩)) (f4 : a.tmps.getD 4 undef = .slice none 0 0) (f5 : a.tmps.getD 5 undef = .bool false) (f6 : a.tmps.getD 6 undef = .pointer (some ⟨R, 0, none⟩)) (f7 : a.tmps.getD 7 undef = .pointer (some ⟨O, 0, none⟩)) (f10 : a.tmps.getD 10 undef = .pointer (some ⟨q, 0, none⟩))
    (h : RpI w w3 c t B p n A O R s td L wh F ea ec true 0 op Bu) (hq : w3.heap[q]? = some (.cells (tnC (tnF ea F.length ec)) 90 (0, 0))) (hqz : w.heap.size ≤ q) (hpq : p < q) (hn : n < 800000) (hFl : F.length ≤ 1000000) (hk : op.kind = 2) (hcA : c < w.heap.size ∧ t < w.heap.size) (hs0 : 0 ≤ s.seq) (hs1 : s.seq < 1000000000000) (hl0 : 0 ≤ s.cf.li) (hl8 : s.cf.li ≤ 8) (hcp : pathErr s.cp = 0) (hck : s.ck = 4) :
    (sndN 6 rpBody).wp Tryz.prog (bodyPost Tryz.prog Tryz.f34 fun e w' => ∃ (ea' : Option Addr) (ec' : Nat) (W : World) (a : Option Addr) (l cc : Nat) (d : Bool) (an : An) (w4 : World) (R' : Nat), w.heap.size ≤ R' ∧ e = .returned (.tuple #[.slice a l cc, .bool d, an.v]) ∧ drvR W c t B p n s td (trimT s.cf.de s.cf.ne ⟨L, setWh op.dir wh, []⟩).L F (trimT s.cf.de s.cf.ne ⟨L, setWh op.dir wh, []⟩).wh { tnF ea' F.length ec' with whole := true, dir := op.dir } a l cc d an w4 ∧ w.heap.size ≤ W.heap.size ∧ w4.heap[R']? = some (.cells #[.int .i64 0, .int .i64 0, .int .i64 0, .int .i64 0, .string { data := #[] }, .slice none 0 0, .int .i64 0] 43 (0, 0)) ∧ Chg (fun j => j = R') w4 w' ∧ Chg (fun j => j = c ∨ j = t ∨ CF B p j) w w') a w3 := by
  obtain ⟨v, rfl⟩ := open111b a c A R O q hs hd f0 f3 f4 f5 f6 f7 f10
  have hRA : A ≠ R ∧ O ≠ R ∧ q ≠ R ∧ q ≠ O ∧ q ≠ A ∧ q ≠ c ∧ q ≠ t := ⟨heap_ty h.A_ h.R_ (by decide), heap_ty h.O_ h.R_ (by decide), heap_ty hq h.R_ (by decide), heap_ty hq h.O_ (by decide), heap_ty hq h.A_ (by decide), heap_ty hq h.at_.hc (by decide), heap_ty hq h.at_.ht (by decide)⟩
  have HRA := hid hRA
  have HN := hid (And.intro hn (And.intro hFl (And.intro hcA (And.intro hs0 (And.intro hs1 (And.intro hl0 (And.intro hl8 (And.intro hcp hck))))))))
  have HQZ := hid (And.intro hqz hpq)
  have HC3 := hid h.at_
  have HI := hid h
  have HQ3 := hid hq
  have HLO := hid h.lo
  have hO := h.O_
  rw [hk] at hO
  have HO3 := hid hO
  have bo := blk7 hO
  have ba := blk7 h.A_
  have hcf : ∀ k, p < k → ¬ CF B p k := fun k hk hf => by have := hf.2; omega
  have HCP := hid hcf
  have KR : w3.cell? ⟨c, 10, none⟩ = some (.pointer (some ⟨p, 0, none⟩)) ∧ w3.cell? ⟨O, 1, none⟩ = some (.int .i64 op.dir) := ⟨(cell_of HC3.out.hc 10 (.pointer (some ⟨p, 0, none⟩)) rfl).1, (blk7 HO3.out).2.1⟩
  have KRd : w3.drew.cell? ⟨c, 10, none⟩ = some (.pointer (some ⟨p, 0, none⟩)) ∧ w3.drew.cell? ⟨O, 1, none⟩ = some (.int .i64 op.dir) := KR
  clear hs hd f0 f3 f4 f5 f6 f7 f10 h hn hFl hcA hs0 hs1 hl0 hl8 hcp hck hcf hqz hpq hq hO hRA
  conv => pattern (sndN 6 rpBody); whnf
  refine wp_seq_k fun K0 hK0 => ?_
  have HK0 := hid hK0
  clear hK0
  go_wp2_with fail
  go_region_held3 (fun w' => w'.cell? ⟨c, 10, none⟩ = some (.pointer (some ⟨p, 0, none⟩)) ∧ w'.cell? ⟨O, 1, none⟩ = some (.int .i64 op.dir))
    (first | with_reducible exact KR | with_reducible exact KRd | with_reducible exact K4)
    (first | (go_at_call 67; refine (c_setwhole _ B p _ _ wh op.dir HC3.out.drew.hp).mono ?_; rintro e w4 ⟨rfl, hp4, hg4⟩; (have HG4 := hid hg4); (have HC4 := hid (show CliAt w4 c t B p n s td L (setWh op.dir wh) from HC3.out.drew.chg hg4 HC3.out.ncp HC3.out.ntp hp4)); (have HO4 := hid (heap_chg hg4 (heap_drew HO3.out) (HCP.out _ HLO.out.2.1))); (have K4 : w4.cell? ⟨c, 10, none⟩ = some (.pointer (some ⟨p, 0, none⟩)) ∧ w4.cell? ⟨O, 1, none⟩ = some (.int .i64 op.dir) := ⟨(cell_of HC4.out.hc 10 (.pointer (some ⟨p, 0, none⟩)) rfl).1, (blk7 HO4.out).2.1⟩); clear hp4 hg4))
  (try simp only [Exit.then])
  have HQ4 := hid (heap_chg HG4.out (heap_drew HQ3.out) (HCP.out _ HQZ.out.2))
  have HR4 := hid (heap_chg HG4.out (heap_drew HI.out.R_) (HCP.out _ HLO.out.2.2.1))
  have HF4 := hid (ownsRow_chg (own_drew HI.out.F_) fun j hj hl => HG4.out.block j hl (HCP.out _ (by have h1 := (own_lt HI.out.F_ hj).1; have h2 := HLO.out.2.2.2.1; omega)))
  have HX4 := hid (show Chg (fun j => j = c ∨ CF B p j) w w4 from chg_new (Chg.drew HI.out.ch) HG4.out (by intro j hj; exact .inl (.inr hj)))
  clear KR KRd K4 bo ba
  have bo := blk7 HO4.out
  have q1 := cell_of HQ4.out 1 (.bool false) rfl
  have q2 := cell_of HQ4.out 2 (.int .i64 0) rfl
  have hqO := HRA.out.2.2.2.1
  have hOq := hqO.symm
  (try go_wp2_with fail)
  go_region
  (try simp only [Exit.then])
  (try go_wp2)
  refine HK0.out _ _ ?_
  clear HK0 hqO hOq
  refine gen_w (P := fun w' => Code.wp _ _ _ _ w') (S := fun w5 => Chg (fun j => j = q) w4 w5 ∧ w5.heap[q]? = some (.cells (tnC { tnF ea F.length ec with whole := true, dir := op.dir }) 90 (0, 0))) _ ⟨?_, ?_⟩ ?_
  · refine Chg.drew ?_
    iterate 2 refine Chg.set1 ?_ _ _ rfl
    exact Chg.refl _ _
  · refine heap_drew ?_
    have h9 := heap_set (heap_set HQ4.out 1 (.bool true)) 2 (.int .i64 op.dir)
    simp only [tnC, tnF, List.setIfInBounds_toArray, List.set_cons_zero, List.set_cons_succ] at h9
    exact h9
  rintro w5 ⟨hc5, hq5⟩
  have hlo := HLO.out
  have hra := HRA.out
  have HC5 := hid (HC4.out.chg hc5 (fun e => hra.2.2.2.2.2.1 e.symm) (fun e => hra.2.2.2.2.2.2 e.symm) (HC4.out.hp.chg hc5 (fun k hk e => by have := hk.2; have := HQZ.out.2; omega)))
  have HQ5 := hid hq5
  have HO5 := hid (heap_chg hc5 HO4.out (fun e => hra.2.2.2.1 e.symm))
  have HR5 := hid (heap_chg hc5 HR4.out (fun e => hra.2.2.1 e.symm))
  have HF5 := hid (ownsRow_chg HF4.out fun j hj hl => hc5.block j hl fun e1 => by subst e1; exact own_ne HF4.out HQ4.out (by decide) hj)
  have HX5 := hid (chg_new HX4.out hc5 (by intro j hj; right; have := HQZ.out.1; omega))
  clear bo q1 q2 hc5 hq5 hlo hra HC3 HQ3 HO3 HI HC4 HQ4 HO4 HR4 HF4 HG4
  have bo := blk7 HO5.out
  have KR : w5.cell? ⟨c, 10, none⟩ = some (.pointer (some ⟨p, 0, none⟩)) ∧ w5.cell? ⟨c, 3, none⟩ = some (.int .i64 s.cf.de) ∧ w5.cell? ⟨c, 4, none⟩ = some (.int .i64 s.cf.ne) := ⟨(cell_of HC5.out.hc 10 (.pointer (some ⟨p, 0, none⟩)) rfl).1, (cell_of HC5.out.hc 3 (.int .i64 s.cf.de) rfl).1, (cell_of HC5.out.hc 4 (.int .i64 s.cf.ne) rfl).1⟩
  have KRd : w5.drew.cell? ⟨c, 10, none⟩ = some (.pointer (some ⟨p, 0, none⟩)) ∧ w5.drew.cell? ⟨c, 3, none⟩ = some (.int .i64 s.cf.de) ∧ w5.drew.cell? ⟨c, 4, none⟩ = some (.int .i64 s.cf.ne) := KR
  go_wp2_with fail
  go_region_held3 (fun w' => w'.cell? ⟨c, 10, none⟩ = some (.pointer (some ⟨p, 0, none⟩)) ∧ w'.cell? ⟨c, 3, none⟩ = some (.int .i64 s.cf.de) ∧ w'.cell? ⟨c, 4, none⟩ = some (.int .i64 s.cf.ne))
    (first | with_reducible exact KR | with_reducible exact KRd | with_reducible exact K6)
    (first | (go_at_call 68; refine (c_trim _ B p _ _ _ s.cf.de s.cf.ne HC5.out.drew.hp (by have := HN.out.1; omega)).mono ?_; rintro e w6 ⟨sT, a6, c6, rfl, hsT, ho6, hp6, hl6, hg6⟩; (have HS6 := hid hsT); (have HG6 := hid hg6); (have HC6 := hid (HC5.out.drew.chg hg6 HC5.out.ncp HC5.out.ntp hp6)); (have K6 : w6.cell? ⟨c, 10, none⟩ = some (.pointer (some ⟨p, 0, none⟩)) ∧ w6.cell? ⟨c, 3, none⟩ = some (.int .i64 s.cf.de) ∧ w6.cell? ⟨c, 4, none⟩ = some (.int .i64 s.cf.ne) := ⟨(cell_of HC6.out.hc 10 (.pointer (some ⟨p, 0, none⟩)) rfl).1, (cell_of HC6.out.hc 3 (.int .i64 s.cf.de) rfl).1, (cell_of HC6.out.hc 4 (.int .i64 s.cf.ne) rfl).1⟩); clear hsT ho6 hp6 hl6 hg6))
  have HX6 := hid (show Chg (fun j => j = c ∨ CF B p j) w w6 from chg_new (Chg.drew HX5.out) HG6.out (by intro j hj; exact .inl (.inr hj)))
  have HO6 := hid (heap_chg HG6.out (heap_drew HO5.out) (HCP.out _ HLO.out.2.1))
  have HR6 := hid (heap_chg HG6.out (heap_drew HR5.out) (HCP.out _ HLO.out.2.2.1))
  have HQ6 := hid (heap_chg HG6.out (heap_drew HQ5.out) (HCP.out _ HQZ.out.2))
  have HF6 := hid (ownsRow_chg (own_drew HF5.out) fun j hj hl => HG6.out.block j hl (HCP.out _ (by have h1 := (own_lt HF5.out hj).1; have h2 := HLO.out.2.2.2.1; omega)))
  clear KR KRd K6 bo
  have bo := blk7 HO6.out
  go_wp2_with fail
  refine (drive_rd _ c t B p n q Bu s td sT.L F sT.wh { tnF ea F.length ec with whole := true, dir := op.dir } HC6.out HQ6.out (HCP.out _ HQZ.out.2) HLO.out.2.2.2.1 HF6.out rfl ⟨rfl, rfl, rfl⟩ HN.out.2.1 HN.out.2.2.2.2.2.2.2.1 HN.out.2.2.2.2.2.2.2.2 HN.out.2.2.2.2.2.1 HN.out.2.2.2.2.2.2.1 (by have := HN.out.1; omega) HN.out.2.2.2.1 HN.out.2.2.2.2.1).mono ?_
  rintro e w7 ⟨a7, l7, c7, d7, an, rfl, hdr, hx7⟩
  have hr7 := heap_chg hx7 HR6.out (fun hf => by
    have h1 := HN.out.2.2.1; have h2 := HLO.out.2.2.2.2.2.2; have h3 := HRA.out.2.2.1
    rcases hf with hf | hf | hf | hf
    · omega
    · omega
    · exact h3 hf.symm
    · exact HCP.out _ HLO.out.2.2.1 hf)
  have HR7 := hid hr7
  have HDR := hid hdr
  have HX7 := hid (show Chg (fun j => j = c ∨ j = t ∨ CF B p j) w w7 from chg_new (HX6.out.mono (fun _ _ h => by rcases h with h | h; exact .inl h; exact .inr (.inr h))) hx7 (by intro j hj; rcases hj with hj | hj | hj | hj; exact .inl (.inl hj); exact .inl (.inr (.inl hj)); (right; have := HQZ.out.1; omega); exact .inl (.inr (.inr hj))))
  have br := blk7 hr7
  unfold An.v
  clear hdr hx7 hr7 bo
  go_wp2
  (try simp only [Exit.inBlock, Exit.then])
  refine gen_w (P := fun w' => bodyPost _ _ _ _ _ w') (S := fun w8 => Chg (fun j => j = R) w7 w8 ∧ w8.heap[R]? = some (.cells #[.int .i64 an.err, .int .i64 an.nd.id, .int .i64 an.nd.kind, .int .i64 an.nd.mode, .string an.nd.target, .slice an.na an.nl an.nc, .int .i64 an.ver] 43 (0, 0))) _ ⟨?_, ?_⟩ ?_
  · iterate 7 refine Chg.set1 ?_ _ _ rfl
    exact Chg.refl _ _
  · have h9 := (heap_set (heap_set (heap_set (heap_set (heap_set (heap_set (heap_set HR7.out 0 (.int .i64 an.err)) 1 (.int .i64 an.nd.id)) 2 (.int .i64 an.nd.kind)) 3 (.int .i64 an.nd.mode)) 4 (.string an.nd.target)) 5 (.slice an.na an.nl an.nc)) 6 (.int .i64 an.ver))
    simp only [List.setIfInBounds_toArray, List.set_cons_zero, List.set_cons_succ] at h9
    exact h9
  rintro w8 ⟨hc8, hr8⟩
  have b8 := blk7 hr8
  have HG8 := hid hc8
  clear br hc8 hr8
  refine bodyPost_ret (v := .tuple #[.slice a7 l7 c7, .bool d7, .agg #[.int .i64 an.err, .int .i64 an.nd.id, .int .i64 an.nd.kind, .int .i64 an.nd.mode, .string an.nd.target, .slice an.na an.nl an.nc, .int .i64 an.ver]]) (by simp [results, Tryz.results34, go_sem, b8]) rfl ⟨ea, ec, w6, a7, l7, c7, d7, an, w7, R, HLO.out.2.2.2.2.2.2, rfl, ?_, HX6.out.size, HR7.out, HG8.out, chg_new HX7.out HG8.out (by intro j hj; right; have := HLO.out.2.2.2.2.2.2; omega)⟩
  rw [← HS6.out]
  exact HDR.out
end Go.Proofs.YtbjibkjenleloaaGreatDoor

end

section
namespace Go.Proofs.YtbjibkjenleloaaGreatDoor
set_option linter.unusedVariables false
set_option linter.unusedSimpArgs false
open Go.RowKit
attribute [local go_sem ↓] Go.wp_at_zero Go.wp_at_succ
attribute [local go_sem] run_store_complex run_store_float


set_option maxRecDepth 100000 in
set_option maxHeartbeats 8000000 in
theorem reply_list (w : World) (c t B p n Bu : Nat) (s : Cl) (td : Td) (L F : List En) (wh : Int → Bool) (ea : Option Addr) (ec : Nat) (h : CliAt w c t B p n s td L wh) (hE : w.ownsRow Bu 55 7 (.slice ea F.length ec) F.length (ecs F)) (hBu : p < Bu) (hk : s.am.op.kind = 2) (hn : n + F.length < 800000) (hck : s.ck = 4) (hcp : pathErr s.cp = 0) (hs0 : 0 ≤ s.seq) (hs1 : s.seq < 1000000000000) (hl0 : 0 ≤ s.cf.li) (hl8 : s.cf.li ≤ 8) :
    Calls Tryz.prog 34 #[.pointer (some ⟨c, 0, none⟩), actV false false true true none 0 0 0 ea F.length ec] w fun e w' => ∃ (ea' : Option Addr) (ec' : Nat) (W : World) (a : Option Addr) (l cc : Nat) (d : Bool) (an : An) (w4 : World) (R' : Nat), w.heap.size ≤ R' ∧ e = .returned (.tuple #[.slice a l cc, .bool d, an.v]) ∧ drvR W c t B p (n + F.length) { s with am := ms0 } td (trimT s.cf.de s.cf.ne ⟨putAll F L, setWh s.am.op.dir wh, []⟩).L F (trimT s.cf.de s.cf.ne ⟨putAll F L, setWh s.am.op.dir wh, []⟩).wh { tnF ea' F.length ec' with whole := true, dir := s.am.op.dir } a l cc d an w4 ∧ w.heap.size ≤ W.heap.size ∧ w4.heap[R']? = some (.cells #[.int .i64 0, .int .i64 0, .int .i64 0, .int .i64 0, .string { data := #[] }, .slice none 0 0, .int .i64 0] 43 (0, 0)) ∧ Chg (fun j => j = R') w4 w' ∧ Chg (fun j => j = c ∨ j = t ∨ CF B p j) w w' := by
  have hlt : c < w.heap.size ∧ t < w.heap.size := ⟨blk_lt h.hc, h.ht.lt⟩
  have hpz := h.hp.lt
  go_enter Tryz.func34, Tryz.ntmps34
  refine rp_front w c t B p n Bu s td L F wh ea ec true 0 (cutN 2 (sndN 4 rpBody) (sndN 6 rpBody)) _ h hE hBu ?_
  intro a w2 A O R F' ea' ec' hF' hs hd f0 f3 f4 f5 f6 f7 hI
  rw [if_pos rfl] at hF'
  subst hF'
  refine rp_put w w2 a c t B p n A O R Bu _ td L _ wh ea' ec' true 0 s.am.op _ _ hs hd f0 f3 f4 f5 f6 f7 hI (by omega) ?_
  intro a3 w3 q hs3 hd3 g0 g3 g4 g5 g6 g7 g10 hI3 hq3 hqz hpq
  exact rp_end_list w w3 a3 c t B p _ A O R Bu q { s with am := ms0 } td _ _ wh ea' ec' s.am.op hs3 hd3 g0 g3 g4 g5 g6 g7 g10 hI3 hq3 hqz hpq hn (by omega) hk hlt hs0 hs1 hl0 hl8 hcp hck
set_option maxRecDepth 100000 in
set_option maxHeartbeats 8000000 in
theorem reply_root (w : World) (c t B p n Bu : Nat) (s : Cl) (td : Td) (L F : List En) (wh : Int → Bool) (ea : Option Addr) (ec : Nat) (h : CliAt w c t B p n s td L wh) (hE : w.ownsRow Bu 55 7 (.slice ea F.length ec) F.length (ecs F)) (hBu : p < Bu) (hk : s.am.op.kind = 2) (hd1 : s.am.op.dir = 1) (hn : n + F.length < 800000) (hck : s.ck = 4) (hcp : s.cp = { data := #[47] }) (hs0 : 0 ≤ s.seq) (hs1 : s.seq < 1000000000000) (hl0 : 0 ≤ s.cf.li) (hl8 : s.cf.li ≤ 8) :
    Calls Tryz.prog 34 #[.pointer (some ⟨c, 0, none⟩), actV false false true true none 0 0 0 ea F.length ec] w fun e w' => ∃ (N : List En) (na : Option Addr) (nc : Nat), (((trimT s.cf.de s.cf.ne ⟨putAll F L, setWh 1 wh, []⟩).wh 1 = true ∧ N.Perm ((trimT s.cf.de s.cf.ne ⟨putAll F L, setWh 1 wh, []⟩).L.filter (inDir 1)) ∧ N.Pairwise fun x y => nmLt x.key.name y.key.name = true) ∨ ((trimT s.cf.de s.cf.ne ⟨putAll F L, setWh 1 wh, []⟩).wh 1 = false ∧ N = F)) ∧
      e = .returned (.tuple #[.slice none 0 0, .bool true, (An.mk 0 nd0 na N.length nc td.ver).v]) ∧ w'.ownsRow w.heap.size 9 1 (.slice na N.length nc) N.length (srow (nmsL N)) ∧ CliAt w' c t B p (n + F.length) { s with busy := false, am := ms0 } td (trimT s.cf.de s.cf.ne ⟨putAll F L, setWh 1 wh, []⟩).L (trimT s.cf.de s.cf.ne ⟨putAll F L, setWh 1 wh, []⟩).wh ∧ Chg (fun j => j = c ∨ j = t ∨ CF B p j) w w' := by
  have hcz := blk_lt h.hc
  have htz := h.ht.lt
  have hpz := h.hp.lt
  refine (reply_list w c t B p n Bu s td L F wh ea ec h hE hBu hk hn hck (by rw [hcp]; exact path_root.1) hs0 hs1 hl0 hl8).mono ?_
  rintro e w' ⟨ea', ec', W, a6, l, cc, d, an, w4, R', hRz, rfl, ⟨z, tn', hwk, hul, hro, hcase⟩, hz, hR, hgc, hxc⟩
  have hwk' : Wk F (trimT s.cf.de s.cf.ne ⟨putAll F L, setWh s.am.op.dir wh, []⟩).L (trimT s.cf.de s.cf.ne ⟨putAll F L, setWh s.am.op.dir wh, []⟩).wh true [] rootNd (stepsL s.cp) (dirB s.cp) s.cf.li [] z := hwk
  rw [hcp, path_root.2.1, path_root.2.2] at hwk'
  have hzz := wk_nil hwk'
  subst hzz
  have hcl : ∀ {s2 : Cl} {td2 : Td} {L2 : List En} {wh2 : Int → Bool} {n2 : Nat}, CliAt w4 c t B p n2 s2 td2 L2 wh2 → CliAt w' c t B p n2 s2 td2 L2 wh2 := fun hc => hc.chg hgc (by omega) (by omega) (hc.hp.chg hgc (fun k hk e => by have := hk.2; omega))
  have hro2 := hro.move2 hz hgc hR (by decide)
  rw [hd1] at hro2 hcase
  rcases hro2 with ⟨h1, _⟩ | ⟨_, h2, _⟩ | ⟨_, _, N, na, nc, h3, h4, h5⟩ | ⟨_, _, _, h3, _⟩
  · exact absurd h1 (by decide)
  · exact absurd rfl h2
  · subst h4
    rcases hcase with ⟨g, hk9, _⟩ | ⟨_, rfl, rfl, rfl, rfl, rfl, hc3⟩
    · exact absurd rfl hk9
    · refine ⟨N, na, nc, ?_, rfl, h5, hcl hc3, hxc⟩
      rcases h3 with h3 | ⟨h3, _, _, h6⟩
      · exact .inl h3
      · exact .inr ⟨h3, h6⟩
  · exact absurd rfl (h3 rfl)
end Go.Proofs.YtbjibkjenleloaaGreatDoor

end
