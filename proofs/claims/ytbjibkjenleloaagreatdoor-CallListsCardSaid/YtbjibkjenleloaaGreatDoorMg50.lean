/- Parts of a proof about the given program, in build order: LsaC, LsaD, LsaE, LsaF. No condition. -/
import Derived.Test.YtbjibkjenleloaaGreatDoorMg49
section
namespace Go.Proofs.YtbjibkjenleloaaGreatDoor
set_option linter.unusedVariables false
set_option linter.unusedSimpArgs false
open Go.RowKit
attribute [local go_sem ↓] Go.wp_at_zero Go.wp_at_succ
attribute [local go_sem] run_store_complex run_store_float


theorem nms_len (F : List En) : (nmsL F).length = F.length := by simp [nmsL]
set_option maxRecDepth 100000 in
set_option maxHeartbeats 8000000 in
theorem ls_again (w w2 : World) (a : Act) (c t B p n o q ab b1 : Nat) (c2 : Cf) (s : Cl) (td : Td) (F : List En) (wh : Int → Bool) (last other : ByteArray) (v : Int) (th : Bool) (na : Option Addr) (nc : Nat) (K : Code) (hs : a.tmps.size = 310) (hd : a.defers = []) (f2 : a.tmps.getD 2 undef = .string other) (f9 : a.tmps.getD 9 undef = .pointer (some ⟨o, 0, none⟩)) (f17 : a.tmps.getD 17 undef = .int .i64 v) (f18 : a.tmps.getD 18 undef = .pointer (some ⟨ab, 0, none⟩)) (f19 : a.tmps.getD 19 undef = .bool th)
    (hI : LsI w w2 c t B p n o q c2 s td F wh) (hn : n ≤ 100) (hbu : s.busy = false) (hli : 0 ≤ s.cf.li ∧ s.cf.li ≤ 8) (hsq : 0 ≤ s.seq ∧ s.seq < 1000000) (hv : td.ver = v) (hw : wh 1 = true) (hNl : Nl F last) (hA : w2.heap[ab]? = some (.cells #[.int .i64 0, .int .i64 0, .int .i64 0, .int .i64 0, .string ByteArray.empty, .slice na F.length nc, .int .i64 v] 43 (0, 0))) (hab : c < ab ∧ t < ab ∧ p < ab) (hN : w2.ownsRow b1 9 1 (.slice na F.length nc) F.length (srow (nmsL F))) (hb1 : c < b1 ∧ t < b1 ∧ p < b1)
    (hK : ∀ (a : Act) (w3 : World) (bb : Nat) (nb : Option Addr) (nd : Nat), a.tmps.size = 310 → a.defers = [] → a.tmps.getD 2 undef = .string other → a.tmps.getD 9 undef = .pointer (some ⟨o, 0, none⟩) → a.tmps.getD 17 undef = .int .i64 v → a.tmps.getD 19 undef = .bool th → a.tmps.getD 21 undef = .pointer (some ⟨bb, 0, none⟩) →
      LsI w w3 c t B p n o q c2 { { s with busy := true, ck := 4, cp := { data := #[47] }, co := { data := #[] }, cm := 0 } with busy := false, am := ms0 } td F wh → w3.heap[bb]? = some (.cells #[.int .i64 0, .int .i64 0, .int .i64 0, .int .i64 0, .string ByteArray.empty, .slice nb F.length nd, .int .i64 v] 43 (0, 0)) → w2.heap.size ≤ bb → K.wp Tryz.prog (bodyPost Tryz.prog Tryz.f4 fun e w' => e = .returned (.bool true) ∧ Below w.heap.size w w') a w3) :
    (cutN 2 (sndN 14 lsBody) K).wp Tryz.prog (bodyPost Tryz.prog Tryz.f4 fun e w' => e = .returned (.bool true) ∧ Below w.heap.size w w') a w2 := by
  conv => pattern (sndN 14 lsBody); whnf
  simp only [cutN]
  have HKK := hid hK
  have HI := hid hI
  have HA := hid hA
  have HN := hid hN
  have HLO := hid (And.intro hab hb1)
  have h9 := frame310 a hs hd
  rw [f2, f9, f17, f18, f19] at h9
  generalize a.tmps = u at h9
  subst h9
  have bo := blk2 hI.o_
  have hst := start_rd w2 c t B p n s td F wh hI.at_ hbu hli.1 hli.2 (by omega) hsq.1 (by omega)
  have HST := hid hst
  have HWH := hid (fun (W : World) (hC : CliAt W c t B p n { { s with busy := true, ck := 4, cp := { data := #[47] }, co := { data := #[] }, cm := 0 } with busy := false, am := ms0 } td F wh) => (cli_whole W c t B p n _ td F wh 1 hC).mono (R' := fun e w' => e = .returned (.bool true) ∧ W = w') (fun e w' h => by rw [← hw]; exact h))
  have HSM := hid (fun (W : World) (nb : Option Addr) (nd Bb : Nat) (ha : W.ownsRow b1 9 1 (.slice na F.length nc) F.length (srow (nmsL F))) (hb : W.ownsRow Bb 9 1 (.slice nb F.length nd) F.length (srow (nmsL F))) => by
    have h := same_texts W (nmsL F) na nb nc nd b1 Bb
    rw [nms_len] at h
    exact h ha hb)
  have HNL := hid hNl
  have HV := hid hv
  clear hs hd f2 f9 f17 f18 f19 hK hI hA hN hab hb1 hst hv hNl
  go_wp2_with fail
  refine HST.out.mono ?_; rintro e w3 ⟨hcase, hx3⟩
  rcases hcase with ⟨h1, _⟩ | ⟨_, ⟨N, nb, nd, hp, hpw, rfl, ho3⟩, hc3⟩
  · rw [hw] at h1; cases h1
  · have hNF := (root_same HNL.out ⟨hp, hpw⟩).symm
    subst hNF
    have HI3 := hid ((HI.out.step hc3 hx3).below (bl1 w3 (.cells #[.int .i64 0, .int .i64 0, .int .i64 0, .int .i64 0, .string ByteArray.empty, .slice nb F.length nd, .int .i64 v] 43)))
    have HB3 := hid (heap_new w3 (.cells #[.int .i64 0, .int .i64 0, .int .i64 0, .int .i64 0, .string ByteArray.empty, .slice nb F.length nd, .int .i64 v] 43))
    have HO3 := hid (own_alloc ho3 (.cells #[.int .i64 0, .int .i64 0, .int .i64 0, .int .i64 0, .string ByteArray.empty, .slice nb F.length nd, .int .i64 v] 43))
    have HA3 := hid (heap_old (heap_chg hx3 HA.out (HI.out.far ab HLO.out.1)) (.cells #[.int .i64 0, .int .i64 0, .int .i64 0, .int .i64 0, .string ByteArray.empty, .slice nb F.length nd, .int .i64 v] 43))
    have HN3 := hid (own_alloc (HI.out.row hx3 HN.out HLO.out.2) (.cells #[.int .i64 0, .int .i64 0, .int .i64 0, .int .i64 0, .string ByteArray.empty, .slice nb F.length nd, .int .i64 v] 43))
    have hz3 : w2.heap.size ≤ w3.heap.size := hx3.size
    unfold An.v nd0
    rw [HV.out]
    have ba := blk7 HA3.out
    have bb := blk7 HB3.out
    have bo3 := blk2 HI3.out.o_
    have haz := blk_lt HA3.out
    clear hp hpw ho3 hc3 hx3 bo
    go_wp2_with fail
    refine (HSM.out _ nb nd _ HN3.out HO3.out).mono ?_; rintro e w5 ⟨rfl, hb5⟩
    have HI5 := hid (HI3.out.below hb5)
    have HB5 := hid (heap_below hb5 HB3.out (blk_lt HB3.out))
    have bo5 := blk2 HI5.out.o_
    clear hb5 ba bb bo3
    go_wp2_with fail
    refine (HWH.out _ HI5.out.at_).mono ?_; rintro e7 w6 ⟨rfl, rfl⟩
    go_wp2
    refine HKK.out _ _ w3.heap.size nb nd ?_ ?_ ?_ ?_ ?_ ?_ ?_ HI5.out (HB5.out) hz3
    iterate 7 rfl
end Go.Proofs.YtbjibkjenleloaaGreatDoor

end

section
namespace Go.Proofs.YtbjibkjenleloaaGreatDoor
set_option linter.unusedVariables false
set_option linter.unusedSimpArgs false
open Go.RowKit
attribute [local go_sem ↓] Go.wp_at_zero Go.wp_at_succ
attribute [local go_sem] run_store_complex run_store_float


set_option maxRecDepth 100000 in
set_option maxHeartbeats 8000000 in
theorem ls_look (w w2 : World) (a : Act) (c t B p n o q bb m : Nat) (c2 : Cf) (s : Cl) (td : Td) (F : List En) (wh : Int → Bool) (other : ByteArray) (v : Int) (th : Bool) (nb : Option Addr) (nd : Nat) (K : Code) (hs : a.tmps.size = 310) (hd : a.defers = []) (f2 : a.tmps.getD 2 undef = .string other) (f9 : a.tmps.getD 9 undef = .pointer (some ⟨o, 0, none⟩)) (f17 : a.tmps.getD 17 undef = .int .i64 v) (f19 : a.tmps.getD 19 undef = .bool th) (f21 : a.tmps.getD 21 undef = .pointer (some ⟨bb, 0, none⟩))
    (hI : LsI w w2 c t B p n o q c2 s td F wh) (hn : n ≤ 10000) (hbu : s.busy = false) (hli : 0 ≤ s.cf.li ∧ s.cf.li ≤ 8) (hsq : 0 ≤ s.seq ∧ s.seq < 1000000) (hw : wh 1 = true) (hf : ∀ e ∈ F, FlatE e) (hk2 : ∀ e ∈ F, e.node.kind = 2) (hth : th = hasN F other) (hck : chkErr other = 0) (hB : w2.heap[bb]? = some (.cells #[.int .i64 0, .int .i64 0, .int .i64 0, .int .i64 0, .string ByteArray.empty, .slice nb m nd, .int .i64 v] 43 (0, 0))) (hbb : c < bb ∧ t < bb ∧ p < bb ∧ o < bb ∧ w.heap.size ≤ bb ∧ bb ≠ q)
    (hK : ∀ (a : Act) (w3 : World) (n' : Nat), a.tmps.size = 310 → a.defers = [] → a.tmps.getD 2 undef = .string other → a.tmps.getD 9 undef = .pointer (some ⟨o, 0, none⟩) → a.tmps.getD 17 undef = .int .i64 v →
      LsI w w3 c t B p n' o q c2 { { s with busy := true, ck := 1, cp := (({ data := #[47] } : ByteArray) ++ other), co := { data := #[] }, cm := 0 } with busy := false, am := ms0 } td (useAll [⟨1, other⟩] F) wh → n' ≤ n + 1000 → K.wp Tryz.prog (bodyPost Tryz.prog Tryz.f4 fun e w' => e = .returned (.bool true) ∧ Below w.heap.size w w') a w3) :
    (cutN 2 (sndN 16 lsBody) K).wp Tryz.prog (bodyPost Tryz.prog Tryz.f4 fun e w' => e = .returned (.bool true) ∧ Below w.heap.size w w') a w2 := by
  conv => pattern (sndN 16 lsBody); whnf
  simp only [cutN]
  have HKK := hid hK
  have HI := hid hI
  have HB := hid hB
  have HLO := hid hbb
  have h9 := frame310 a hs hd
  rw [f2, f9, f17, f19, f21] at h9
  generalize a.tmps = u at h9
  subst h9
  have bo := blk2 hI.o_
  obtain ⟨g1, g2, g3, g4, g5, g6⟩ := path_other (p := (({ data := #[47] } : ByteArray) ++ other)) hck (by simp)
  have hst := start_look w2 c t B p n s td F wh 0 (({ data := #[47] } : ByteArray) ++ other) { data := #[] } hI.at_ hbu g1 hli.1 hli.2 (by omega) hsq.1 (by omega)
  have HST := hid hst
  have HWK := hid (fun (z : Ow) (h : Wk [] F wh true [] rootNd (stepsL (({ data := #[47] } : ByteArray) ++ other)) (dirB (({ data := #[47] } : ByteArray) ++ other)) s.cf.li [] z) => by
    rw [g2, g3] at h
    exact wk_flat hf hk2 hw g4 g5 h)
  have hsz := (chk_yes hck).1
  have hsz1 : (other.size : Int) ≤ 12 := by omega
  have hsz2 : 1 + (other.size : Int) ≤ 9223372036854775807 := by omega
  have HTH := hid hth
  clear hs hd f2 f9 f17 f19 f21 hK hI hB hbb hst g1 g2 g3 g4 g5 g6 hw hf hk2 hck hbu hli hsq hth
  refine wp_seq_k fun K0 hK0 => ?_
  have HK0 := hid hK0
  clear hK0
  go_wp2_with fail
  refine HST.out.mono ?_; rintro e w3 ⟨z, n', hn', hwk, hcase, hx3⟩
  obtain ⟨hz1, hz2, hz3⟩ := HWK.out z hwk
  rcases hcase with ⟨h1, _⟩ | ⟨_, rfl, hc3⟩
  · rw [hz1] at h1; cases h1
  · rw [hz2] at hc3
    rw [← HTH.out] at hz3
    have HI3 := hid (HI.out.step hc3 hx3)
    have HB3 := hid (heap_chg hx3 HB.out (HI.out.far bb ⟨HLO.out.1, HLO.out.2.1, HLO.out.2.2.1⟩))
    have HN3 := hid hn'
    obtain ⟨ee, hee⟩ : ∃ ee, ee = z.err := ⟨_, rfl⟩
    rw [← hee] at hz3
    unfold An.v
    rw [← hee]
    have bbb := blk7 HB3.out
    have HEE := hid hz3
    clear hn' hwk hz1 hz2 hz3 hc3 hx3 bo hee
    go_wp2
    refine HK0.out _ _ ?_
    clear HK0
    refine gen_w (P := fun w' => Code.wp _ _ _ _ w') (S := fun w5 => Chg (fun j => j = bb) w3 w5 ∧ w5.heap[bb]? = some (.cells #[.int .i64 ee, .int .i64 z.node.id, .int .i64 z.node.kind, .int .i64 z.node.mode, .string z.node.target, .slice none 0 0, .int .i64 td.ver] 43 (0, 0))) _ ⟨?_, ?_⟩ ?_
    · iterate 7 refine Chg.set1 ?_ _ _ rfl
      exact Chg.refl _ _
    · have h9 := heap_set (heap_set (heap_set (heap_set (heap_set (heap_set (heap_set HB3.out 0 (.int .i64 ee)) 1 (.int .i64 z.node.id)) 2 (.int .i64 z.node.kind)) 3 (.int .i64 z.node.mode)) 4 (.string z.node.target)) 5 (.slice none 0 0)) 6 (.int .i64 td.ver)
      simp only [List.setIfInBounds_toArray, List.set_cons_zero, List.set_cons_succ] at h9
      exact h9
    rintro w5 ⟨hc5, hb5⟩
    have hlo := HLO.out
    have HI5 := hid (HI3.out.new hc5 ⟨hlo.1, hlo.2.1, hlo.2.2.1⟩ hlo.2.2.2.2.1 (by omega) hlo.2.2.2.2.2)
    have b5 := blk7 hb5
    clear bbb hc5 hb5 hlo
    cases th with
    | true =>
      obtain rfl : ee = 0 := HEE.out
      go_wp2
      refine HKK.out _ w5 n' ?_ ?_ ?_ ?_ ?_ HI5.out HN3.out
      iterate 5 rfl
    | false =>
      obtain rfl : ee = 40 := HEE.out
      go_wp2
      refine HKK.out _ w5 n' ?_ ?_ ?_ ?_ ?_ HI5.out HN3.out
      iterate 5 rfl
end Go.Proofs.YtbjibkjenleloaaGreatDoor

end

section
namespace Go.Proofs.YtbjibkjenleloaaGreatDoor
set_option linter.unusedVariables false
set_option linter.unusedSimpArgs false
open Go.RowKit
attribute [local go_sem ↓] Go.wp_at_zero Go.wp_at_succ
attribute [local go_sem] run_store_complex run_store_float


set_option maxRecDepth 100000 in
set_option maxHeartbeats 8000000 in
theorem ls_break (w w2 : World) (a : Act) (c t B p n o q : Nat) (c2 : Cf) (s : Cl) (ho : Int) (L : List En) (wh : Int → Bool) (other : ByteArray) (v : Int) (K : Code) (hs : a.tmps.size = 310) (hd : a.defers = []) (f2 : a.tmps.getD 2 undef = .string other) (f9 : a.tmps.getD 9 undef = .pointer (some ⟨o, 0, none⟩)) (f17 : a.tmps.getD 17 undef = .int .i64 v)
    (hI : LsI w w2 c t B p n o q c2 s ⟨1, 1, ho, 1, 0, v, 0⟩ L wh) (hn : n ≤ 100000) (hv0 : 0 ≤ v) (hv1 : v ≤ 1000) (hne : other ≠ { data := #[] })
    (hK : ∀ (a : Act) (w3 : World), a.tmps.size = 310 → a.defers = [] → a.tmps.getD 2 undef = .string other → a.tmps.getD 9 undef = .pointer (some ⟨o, 0, none⟩) →
      LsI w w3 c t B p n o q c2 s ⟨1, 1, ho, 1, 1, v + 1, 0⟩ (cutE [⟨1, other⟩] L) (cutWh [⟨1, other⟩] wh) → K.wp Tryz.prog (bodyPost Tryz.prog Tryz.f4 fun e w' => e = .returned (.bool true) ∧ Below w.heap.size w w') a w3) :
    (cutN 2 (sndN 18 lsBody) K).wp Tryz.prog (bodyPost Tryz.prog Tryz.f4 fun e w' => e = .returned (.bool true) ∧ Below w.heap.size w w') a w2 := by
  conv => pattern (sndN 18 lsBody); whnf
  simp only [cutN]
  have HKK := hid hK
  have HI := hid hI
  have h9 := frame310 a hs hd
  rw [f2, f9, f17] at h9
  generalize a.tmps = u at h9
  subst h9
  have bo := blk2 hI.o_
  have hoz := blk_lt hI.o_
  have htz := hI.at_.ht.lt
  have hm1 : InM 1 := by unfold InM; omega
  have hm0 : InM 0 := by unfold InM; omega
  have hmx : max v (v + 1) = v + 1 := by omega
  have hst := take_cut (w2.alloc (.cells #[.int .i64 1, .string other] 53)) c t B p n s ⟨1, 1, ho, 1, 0, v, 0⟩ ⟨1, 1, ho, 1, 1, v + 1, 0⟩ L wh (⟨3, 1, 1, 0, 1, 1, v + 1, 0, op0, none, 0, 0, some ⟨w2.heap.size, 0, none⟩, 1, 1⟩ : Ms) [⟨1, other⟩] (hI.alloc _).at_ (by omega) (by simp) (fun w1 ht1 hb1 => by
    have h1 := tide_break w1 t ⟨1, 1, ho, 1, 0, v, 0⟩ (⟨3, 1, 1, 0, 1, 1, v + 1, 0, op0, none, 0, 0, some ⟨w2.heap.size, 0, none⟩, 1, 1⟩ : Ms) [⟨1, other⟩] ht1 rfl rfl rfl hm1 hm1 hm1 hm0 rfl rfl rfl rfl (rd_blk (cs := kyc [⟨1, other⟩]) (heap_below hb1 (heap_new w2 (.cells #[.int .i64 1, .string other] 53)) (by simp)) (by show 1 ≤ maxLen; unfold maxLen; omega)) (by simp) (by simp; omega)
    refine h1.mono fun e w' hh => ?_
    obtain ⟨aa, ca, a, cc, g1, g2, g3, g4, g5⟩ := hh
    refine ⟨aa, ca, a, cc, g1, g2, g3, ?_, g5⟩
    simp only at g4
    rw [hmx] at g4
    exact g4)
  simp only [Ms.v, Ms.cs, op0, fl_one, fl_0] at hst
  have HST := hid hst
  have HWH := hid (fun (W : World) (hC : CliAt W c t B p n s ⟨1, 1, ho, 1, 1, v + 1, 0⟩ (cutE [⟨1, other⟩] L) (cutWh [⟨1, other⟩] wh)) => (cli_whole W c t B p n _ _ _ _ 1 hC).mono (R' := fun e w' => e = .returned (.bool false) ∧ W = w') (fun e w' h => by rw [(cut_kn L wh hne).2] at h; exact h))
  have hw1 : wrap64 (v + 1) = v + 1 := by unfold wrap64; omega
  clear hs hd f2 f9 f17 hK hI hst hm1 hm0 hmx hne
  go_wp2_with fail
  refine HST.out.mono ?_; rintro e w3 ⟨rfl, hc3, hx3⟩
  have HI3 := hid ((HI.out.alloc (.cells #[.int .i64 1, .string other] 53)).step hc3 hx3)
  have bo3 := blk2 HI3.out.o_
  clear hc3 hx3 bo
  go_wp2_with fail
  refine (HWH.out _ HI3.out.at_).mono ?_; rintro e7 w6 ⟨rfl, rfl⟩
  go_wp2
  refine HKK.out _ _ ?_ ?_ ?_ ?_ HI3.out
  iterate 4 rfl
end Go.Proofs.YtbjibkjenleloaaGreatDoor

end

section
namespace Go.Proofs.YtbjibkjenleloaaGreatDoor
set_option linter.unusedVariables false
set_option linter.unusedSimpArgs false
open Go.RowKit
attribute [local go_sem ↓] Go.wp_at_zero Go.wp_at_succ
attribute [local go_sem] run_store_complex run_store_float


set_option maxRecDepth 100000 in
set_option maxHeartbeats 8000000 in
theorem ls_end (w w2 : World) (a : Act) (c t B p n o q : Nat) (c2 : Cf) (s : Cl) (td : Td) (L : List En) (wh : Int → Bool) (other : ByteArray) (hs : a.tmps.size = 310) (hd : a.defers = []) (f2 : a.tmps.getD 2 undef = .string other) (f9 : a.tmps.getD 9 undef = .pointer (some ⟨o, 0, none⟩))
    (hI : LsI w w2 c t B p n o q c2 s td (cutE [⟨1, other⟩] L) (cutWh [⟨1, other⟩] wh)) (hn : n ≤ 1000000) (hbu : s.busy = false) (hli : 0 ≤ s.cf.li ∧ s.cf.li ≤ 8) (hsq : 0 ≤ s.seq ∧ s.seq < 1000000) (hck : chkErr other = 0) :
    (sndN 20 lsBody).wp Tryz.prog (bodyPost Tryz.prog Tryz.f4 fun e w' => e = .returned (.bool true) ∧ Below w.heap.size w w') a w2 := by
  conv => pattern (sndN 20 lsBody); whnf
  have HI := hid hI
  have h9 := frame310 a hs hd
  rw [f2, f9] at h9
  generalize a.tmps = u at h9
  subst h9
  have bo := blk2 hI.o_
  obtain ⟨g1, g2, g3, g4, g5, g6⟩ := path_other (p := (({ data := #[47] } : ByteArray) ++ other)) hck (by simp)
  have hst := start_look w2 c t B p n s td _ _ 0 (({ data := #[47] } : ByteArray) ++ other) { data := #[] } hI.at_ hbu g1 hli.1 hli.2 (by omega) hsq.1 (by omega)
  have HST := hid hst
  have HWK := hid (fun (z : Ow) (h : Wk [] (cutE [⟨1, other⟩] L) (cutWh [⟨1, other⟩] wh) true [] rootNd (stepsL (({ data := #[47] } : ByteArray) ++ other)) (dirB (({ data := #[47] } : ByteArray) ++ other)) s.cf.li [] z) => by
    rw [g2, g3] at h
    exact wk_one_none h rfl g4 g5 (cut_kn L wh g6).1)
  have hsz := (chk_yes hck).1
  have hsz1 : (other.size : Int) ≤ 12 := by omega
  have hsz2 : 1 + (other.size : Int) ≤ 9223372036854775807 := by omega
  clear hs hd f2 f9 hI hst g1 g2 g3 g4 g5 g6 hck hbu hli hsq
  go_wp2_with fail
  refine HST.out.mono ?_; rintro e w3 ⟨z, n', hn', hwk, hcase, hx3⟩
  have hz := HWK.out z hwk
  subst hz
  rcases hcase with ⟨_, ⟨g, rfl, ho3⟩, hc3⟩ | ⟨h1, _⟩
  · have HI3 := hid (HI.out.step hc3 hx3)
    have HR3 := hid ho3
    have heq := fun W => eqIn_op 1 1 0 0 other { data := #[] } { data := #[] } W
    have ha := Rd.own HR3.out
    have a7 := ha.at 7 (.int .i64 1) rfl
    have a8 := ha.at 8 (.int .i64 1) rfl
    have a9 := ha.at 9 (.string other) rfl
    have a10 := ha.at 10 (.int .i64 0) rfl
    have a11 := ha.at 11 (.string { data := #[] }) rfl
    have a12 := ha.at 12 (.int .i64 0) rfl
    have a13 := ha.at 13 (.string { data := #[] }) rfl
    simp only [Nat.zero_add] at a7 a8 a9 a10 a11 a12 a13
    clear ha ho3 hc3 hx3 bo hwk hn'
    go_wp2_with fail
    refine (call_awake _).mono ?_; rintro e w6 ⟨rfl, hb6⟩
    have HB6 := hid (HI3.out.below hb6).bel
    clear hb6
    go_wp2
    go_ret
    exact ⟨rfl, HB6.out⟩
  · cases h1
set_option maxRecDepth 100000 in
set_option maxHeartbeats 4000000 in
theorem callLists_walk (cf : Cf) (M : List ByteArray) (na : Option Addr) (nc : Nat) (other : ByteArray) (ve : Int) (w : World) (hN : Rd w (.slice na M.length nc) M.length (srow M)) (hML : M.length ≤ 1000000000000000) : Calls Tryz.prog 4 #[cf.v, .slice na M.length nc, .string other, .int .i64 ve] w fun e w' => e = .returned (.bool true) ∧ Below w.heap.size w w' := by
  go_enter Tryz.func4, Tryz.ntmps4
  refine ls_front cf (.slice na M.length nc) other ve w (cutN 3 (sndN 3 lsBody) (cutN 2 (sndN 6 lsBody) (cutN 2 (sndN 8 lsBody) (cutN 3 (sndN 10 lsBody) (cutN 1 (sndN 13 lsBody) (cutN 2 (sndN 14 lsBody) (cutN 2 (sndN 16 lsBody) (cutN 2 (sndN 18 lsBody) (sndN 20 lsBody))))))))) ?_
  intro a w2 c t B p o q c2 hs hd f1 f2 f3 f9 hck hR hI
  refine ls_list w w2 a M na nc o other ve _ hs hd f1 f2 f3 f9 (hN.below hI.bel) hML ?_
  intro a w3 F la lc last hs hd f2 f3 f9 f11 hL
  have htop := hI.top
  have hI3 := hI.below hL.bel
  refine ls_ask w w3 a c t B p o q w2.heap.size c2 F la lc other ve _ hs hd f2 f3 f9 f11 hR hI3 hL.own htop ?_
  intro a w4 hs hd f2 f3 f9 f11 hI4 hF4
  refine ls_take w w4 a c t B p o q w2.heap.size c2 F la lc other ve _ hs hd f2 f3 f9 f11 hR hI4 hF4 htop hL.le ?_
  intro a w5 ab a0 c0 N nb nd hs hd f2 f9 f11 f14 f15 f17 f18 hcs hA hN5 hI5 hF5 hab
  obtain ⟨hNF, hroom⟩ := root_case hL.nl hR.2.1.1 hcs
  subst hNF
  refine ls_cmp w w5 a o ab w2.heap.size w4.heap.size N la lc a0 c0 nb nd other (ve % 99) _ hs hd f2 f9 f11 f14 f15 f17 f18 hA hN5 hF5 hL.le ?_
  intro a w6 hs hd f2 f9 f11 f17 f18 f19 hb6
  have hI6 := hI5.below hb6
  have hle := hL.le
  refine ls_full w w6 a c t B p (0 + N.length) o q ab c2 _ _ _ N _ la lc other (ve % 99) (hasN N other) _ hs hd f2 f9 f11 f17 f18 f19 hI6 (by omega) ?_ ?_
  · rcases hroom with h | h
    · exact .inl h.1
    · exact .inr h
  intro a hs hd f2 f9 f17 f18 f19 hroom1
  obtain ⟨hr1, hr2⟩ : (trimT c2.de c2.ne ⟨putAll N [], setWh 1 (fun _ => false), []⟩).L = N ∧ (trimT c2.de c2.ne ⟨putAll N [], setWh 1 (fun _ => false), []⟩).wh = setWh 1 (fun _ => false) := by
    rcases hroom with h | h
    · exact h.2
    · omega
  rw [hr1, hr2] at hI6
  have hA6 := heap_below hb6 hA (blk_lt hA)
  have hN6 := own_below hN5 hb6
  have h44 := hI4.top
  have hw6 : w4.heap.size ≤ w6.heap.size := by have := hb6.size; have := (blk_lt hA); omega
  refine ls_again w w6 a c t B p (0 + N.length) o q ab w4.heap.size c2 _ _ N _ last other (ve % 99) (hasN N other) nb nd _ hs hd f2 f9 f17 f18 f19 hI6 (by omega) rfl hR.2.2.2.1 ⟨show (0 : Int) ≤ 1 by decide, show (1 : Int) < 1000000 by decide⟩ rfl rfl hL.nl hA6 ⟨by omega, by omega, by omega⟩ hN6 h44 ?_
  intro a w7 bb nb' nd' hs hd f2 f9 f17 f19 f21 hI7 hB7 hbb
  have h66 := hI6.top
  have ho6 := blk_lt hI6.o_
  have hq6 : q < w6.heap.size := World.block_lt_of_cell? w6 _ hI6.q_
  have hw66 := hI6.bel.size
  refine ls_look w w7 a c t B p (0 + N.length) o q bb N.length c2 _ _ N _ other (ve % 99) (hasN N other) nb' nd' _ hs hd f2 f9 f17 f19 f21 hI7 (by omega) rfl hR.2.2.2.1 ⟨show (0 : Int) ≤ 1 by decide, show (1 : Int) < 1000000 by decide⟩ rfl hL.nl.flat hL.kd rfl hck hB7 ⟨by omega, by omega, by omega, by omega, by omega, by omega⟩ ?_
  intro a w8 n' hs hd f2 f9 f17 hI8 hn8
  have hv0 := Int.emod_nonneg ve (show (99 : Int) ≠ 0 by decide); have hv1 := Int.emod_lt_of_pos ve (show (0 : Int) < 99 by decide)
  refine ls_break w w8 a c t B p n' o q c2 _ c2.ho _ _ other (ve % 99) _ hs hd f2 f9 f17 hI8 (by omega) hv0 (by omega) (fun e => (chk_yes hck).2.1 (by rw [e])) ?_
  intro a w9 hs hd f2 f9 hI9
  exact ls_end w w9 a c t B p n' o q c2 _ _ _ _ other hs hd f2 f9 hI9 (by omega) rfl hR.2.2.2.1 ⟨show (0 : Int) ≤ 1 by decide, show (1 : Int) < 1000000 by decide⟩ hck
end Go.Proofs.YtbjibkjenleloaaGreatDoor

end
