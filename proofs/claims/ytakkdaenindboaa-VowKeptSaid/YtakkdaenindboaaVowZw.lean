import Derived.Test.YtakkdaenindboaaVowZ
namespace Go.Proofs.Ytakkdaenindboaa
set_option linter.unusedVariables false
set_option linter.unusedSimpArgs false
open Go.RowKit
attribute [local go_sem ↓] Go.wp_at_zero Go.wp_at_succ
attribute [local go_sem] run_store_complex run_store_float

def kM : Ky := ⟨-8, { data := #[109] }⟩
theorem mine_take (ks : List Ky) (i : Nat) : (kyc (ks ++ List.replicate i kM)).take (ks.length * 2) = kyc ks := by
  rw [kyc_append, ← kyc_len, List.take_left]
theorem mine_snoc (ks : List Ky) (i : Nat) : ks ++ List.replicate (i + 1) kM = (ks ++ List.replicate i kM) ++ [kM] := by
  rw [List.replicate_succ', List.append_assoc]
theorem mine_lo {ks : List Ky} {i n : Nat} {k : Ky} (h : ks[i]? = some k) : (ks ++ List.replicate n kM)[i]? = some k := by
  rw [List.getElem?_append_left (List.getElem?_eq_some_iff.1 h).1]; exact h
theorem mine_hi {ks : List Ky} {m n : Nat} (h : m < n) : (ks ++ List.replicate n kM)[ks.length + m]? = some kM := by
  rw [List.getElem?_append_right (by omega), Nat.add_sub_cancel_left, List.getElem?_replicate, if_pos h]
theorem mine_len (ks : List Ky) (n : Nat) : (ks ++ List.replicate n kM).length = ks.length + n := by simp
theorem below_drewN' {B : Nat} (w : World) (n : Nat) : Below B w (w.drewN n) := below_drewN (Below.refl B w) n
theorem q_in {R : List Bk} {t : Ts} (hok : TOk t) (h : R.map Bk.pl = t.qs) : ∀ x ∈ R, InM x.ep ∧ InM x.n := fun x hx => by
  have h1 := hok.each x.pl (by rw [← h]; exact List.mem_map_of_mem hx)
  have h2 := hok.he
  have h3 := hok.hn
  exact ⟨by rw [show x.ep = t.e from h1.1]; exact h2, ⟨h1.2.1, Int.le_trans h1.2.2.1 h3.2⟩⟩

set_option maxRecDepth 100000 in
set_option maxHeartbeats 16000000 in
theorem vowKept_walk (ka : Option Addr) (kc : Nat) (ks : List Ky) (ver : Int) (w : World) (hr : Rd w (.slice ka ks.length kc) ks.length (kyc ks)) (hkl : ks.length * 24 ≤ 140737488351232) :
    Calls Try.prog 6 #[.slice ka ks.length kc, .int .i64 ver] w fun e w' => e = .returned (.bool true) ∧ Below w.heap.size w w' := by
  have HK := hid hr
  obtain ⟨i2, hi2, p2, q2, r2⟩ := info_parts infoKy
  have HI2 := hid hi2
  clear hr hi2
  go_enter Try.func6, Try.ntmps6
  go_wp2_with fail
  refine (v_new_yes _ 1 3 9 ⟨⟨by decide, by decide⟩, ⟨by omega, by omega⟩, by omega, by omega⟩).mono ?_
  rintro e w1 ⟨rfl, hv1, hb1⟩
  have HS1 := hid (show VS w w1 (fun k => k = w.heap.size) w.heap.size ⟨1, 0, 3, 9, [], []⟩ from ⟨hv1, fun k hk => by omega, hb1⟩)
  clear hv1 hb1
  go_wp2_with fail
  refine (v_new_yes _ 1 3 9 ⟨⟨by decide, by decide⟩, ⟨by omega, by omega⟩, by omega, by omega⟩).mono ?_
  rintro e w2 ⟨rfl, hv2, hb2⟩
  have HV := hid (show V2 w w2 (fun k => k = w.heap.size) w.heap.size ⟨1, 0, 3, 9, [], []⟩ (fun k => k = w1.heap.size) w1.heap.size ⟨1, 0, 3, 9, [], []⟩ from
    ⟨HS1.out.alloc hb2, ⟨hv2, fun k hk => by have := HS1.out.sz; omega, HS1.out.below.trans (hb2.mono HS1.out.sz)⟩, fun k h1 h2 => by have := HS1.out.v.lt _ rfl; omega⟩)
  obtain ⟨q0, hq0⟩ : ∃ q0, q0 = w1.heap.size := ⟨_, rfl⟩
  rw [← hq0] at HV
  rw [← hq0]
  obtain ⟨F0, hF0⟩ : ∃ F0 : Nat → Prop, F0 = fun k => k = w.heap.size := ⟨_, rfl⟩
  obtain ⟨G0, hG0⟩ : ∃ G0 : Nat → Prop, G0 = fun k => k = q0 := ⟨_, rfl⟩
  rw [← hF0, ← hG0] at HV
  clear hv2 hb2 hq0 hF0 hG0
  go_wp2_with fail
  refine (copyKeys_any (.slice ka ks.length kc) ks _ (HK.out.below HV.out.a.below) hkl).mono ?_; rintro e w3 ⟨ca, cc, rfl, ho3, hb3⟩
  have HV3 := hid (HV.out.alloc hb3)
  have HO3 := hid ho3
  have HLT := hid (show w.heap.size ≤ w2.heap.size from HV.out.sz)
  have HF2 := hid HV.out.a.v.lt
  have HG2 := hid HV.out.b.v.lt
  have hsz3 := hb3.size
  clear ho3 hb3
  go_wp2_with fail
  go_loopw [9, 10] (fun v9 v10 wr => ∃ (i : Nat) (a3 : Option Addr) (c3 : Nat), i ≤ 70 ∧ v10 = .int .i64 i ∧ v9 = .slice a3 (ks.length + i) c3 ∧ Hid (w2.heap.size ≤ wr.heap.size) ∧ Hid (V2 w wr F0 w.heap.size ⟨1, 0, 3, 9, [], []⟩ G0 q0 ⟨1, 0, 3, 9, [], []⟩) ∧ Hid (wr.ownsRow w2.heap.size 37 2 (.slice a3 (ks.length + i) c3) (ks.length + i) (kyc (ks ++ List.replicate i kM)))) (fun _ v10 _ => 70 - (intOf v10).toNat)
  case atStart => exact ⟨0, ca, cc, Nat.zero_le _, rfl, rfl, hid hsz3, HV3, hid (by simpa using HO3.out)⟩
  case round =>
    obtain ⟨i, a3, c3, hi, rfl, rfl, HZ, HVr, HO⟩ := hrel
    have hzz := HZ.out
    by_cases hlt : i < 70
    · have hi1 : decide ((i : Int) < 70) = true := decide_eq_true (by omega)
      go_wp2_with (at_builtin; refine wpList_append_rd rfl _ _ 28 rfl w2.heap.size 37 i2 _ 2 24 Try.underlying28 HI2.out p2 q2 r2 rfl (by decide) (.slice a3 (ks.length + i) c3) (ks.length + i) (kyc (ks ++ List.replicate i kM)) rfl (own_alloc HO.out _) (.slice (some ⟨wr.heap.size, 0, none⟩) 1 1) 1 [.int .i64 (-8), .string { data := #[109] }] rfl (rd_blk (heap_new wr (.cells #[.int .i64 (-8), .string { data := #[109] }] 37)) (by unfold maxLen; omega)) rfl (Ky.one kM) (by unfold maxLen; omega) (by omega) (Nat.le_trans hzz (by simp)) ?_; intro a6 c6 w6 hown6 hgrow6 hat6)
      have hB := (((Below.refl w2.heap.size wr).alloc hzz (.cells #[.int .i64 (-8), .string { data := #[109] }] 37)).grown hgrow6 (Nat.le_trans hzz (by simp)) (fun k hk => (own_lt HO.out hk).1))
      have HB := hid hB
      refine ⟨⟨i + 1, a6, c6, by omega, by go_num, rfl, hid (Nat.le_trans HZ.out HB.out.size), hid (HVr.out.chg ((Chg.refl (fun k => (Value.slice a3 (ks.length + i) c3).ownBlock = some k) wr).alloc (.cells #[.int .i64 (-8), .string { data := #[109] }] 37) |>.grown hgrow6 (fun k hk => .inl hk)) (fun k hk => ⟨fun hf => ?_, fun hf => ?_, ?_⟩)), hid (by rw [mine_snoc, kyc_append]; exact hown6)⟩, by simp [intOf]; omega⟩
      · have h1 := (own_lt HO.out hk).1; have h2 := HF2.out k hf; omega
      · have h1 := (own_lt HO.out hk).1; have h2 := HG2.out k hf; omega
      · have h1 := (own_lt HO.out hk).1; have h2 := HLT.out; omega
    · have hi70 : i = 70 := by omega
      subst hi70
      have hi1 : decide (((70 : Nat) : Int) < 70) = false := by decide
      obtain ⟨gm, hag, hBg, hgz, hg1, hg2⟩ := own_loc HO.out (by omega)
      subst hag
      have hM9 : ks.length + 70 ≤ 9223372036854775807 := by omega
      have hm1 : (ks.length : Int) ≤ (ks.length : Int) + 70 := by omega
      have hm2 : (ks.length : Int) ≤ (c3 : Int) := by omega
      have hm3 : (ks.length : Int) + 70 ≤ (c3 : Int) := by omega
      have hm0 : (0 : Int) ≤ (ks.length : Int) := by omega
      have HMN := hid (show Mn w wr F0 G0 gm c3 (ks ++ List.replicate 70 kM) from ⟨by rw [mine_len]; exact ownsRow_mono HO.out HLT.out, fun hf => by have := HF2.out gm hf; omega, fun hf => by have := HG2.out gm hf; omega⟩)
      clear hgz hBg hsz3 hzz
      go_wp2_with fail
      go_loopw [11] (fun v11 wr => ∃ (i : Nat) (F G : Nat → Prop) (t : Ts), i ≤ ks.length ∧ i ≤ 5 ∧ v11 = .int .i64 i ∧ Hid (V2 w wr F w.heap.size t G q0 t) ∧ Hid (Mn w wr F G gm c3 (ks ++ List.replicate 70 kM))) (fun v11 _ => 5 - (intOf v11).toNat)
      case atStart => exact ⟨0, F0, G0, _, by omega, by omega, rfl, HVr, HMN⟩
      case round =>
        obtain ⟨i, F, G, t, hi, hi5, rfl, HV, HMN⟩ := hrel
        obtain ⟨wo, hwo⟩ : ∃ wo, wo = wr := ⟨_, rfl⟩
        subst hwo
        by_cases hlt : i < ks.length
        · have hi0 : (0 : Int) ≤ (i : Int) := by omega
          have hi1 : (i : Int) < (ks.length : Int) := by omega
          by_cases hl5 : i < 5
          · have hi2 : (i : Int) < 5 := by omega
            obtain ⟨kb, ko, rfl⟩ := ks_loc HK.out (by omega)
            obtain ⟨x, hx⟩ : ∃ x, ks[i]? = some x := ⟨_, List.getElem?_eq_getElem hlt⟩
            have HXK := hid hx
            have c1 := ks_at HK.out HV.out.a.below hx
            clear hx
            go_wp2_with fail
            refine (t_grant _ _ _ _ x.dir x.name ver HV.out.a.v).mono ?_; rintro e w4 hp; obtain ⟨F1, a1, d1, R1, rfl, hK1, hR1, hC1⟩ := KT.of1 HV.out HMN.out hp
            have HK1 := hid hK1
            have c2 := ks_at HK.out hK1.v.a.below HXK.out
            clear hp hK1 hR1 hC1 c1
            go_wp2_with fail
            refine (t_grant _ _ _ _ x.dir x.name ver HK1.out.v.b.v).mono ?_; rintro e w5 hp; obtain ⟨G2, b2, k2, S2, rfl, hK2, hC2⟩ := HK1.out.of2 hp
            obtain ⟨n, hn⟩ : ∃ n, n = R1.length := ⟨_, rfl⟩
            obtain ⟨t', ht'⟩ : ∃ t', t' = (grantT t ⟨x.dir, x.name⟩ ver).1 := ⟨_, rfl⟩
            rw [← ht'] at hK2
            have HK2 := hid hK2
            have HN1 := hid hn.symm
            rw [← hn]
            clear hp hK2 hC2 c2 hn ht'
            go_wp2_with fail
            go_loopw [13] (fun v13 wr => ∃ (k : Nat) (R : List Bk), k ≤ n ∧ v13 = .int .i64 k ∧ Hid (R.length = n) ∧ Hid (KT w wr F1 w.heap.size t' G2 q0 t' gm c3 (ks ++ List.replicate 70 kM) a1 d1 R)) (fun v13 _ => n - (intOf v13).toNat)
            case atStart => exact ⟨0, _, by omega, rfl, HN1, HK2⟩
            case round =>
              obtain ⟨k, R, hk, rfl, HRN, HT⟩ := hrel
              obtain ⟨wk, hwk⟩ : ∃ wk, wk = wr := ⟨_, rfl⟩
              subst hwk
              by_cases hlt : k < n
              · obtain ⟨ga, haa, hga1, hga2, hga3, hga4⟩ := own_loc HT.out.at_.row (by have := HRN.out; omega)
                subst haa
                obtain ⟨x, hx⟩ : ∃ x, R[k]? = some x := ⟨_, List.getElem?_eq_getElem (by have := HRN.out; omega)⟩
                have HX := hid hx
                have hk0 : (0 : Int) ≤ (k : Int) := by omega
                have hk1 : (k : Int) < (n : Int) := by omega
                have hN9 : n ≤ 9223372036854775807 := by have := HRN.out; unfold maxLen at hga4; omega
                obtain ⟨cur, hcur⟩ := own_type HT.out.at_.row rfl
                have hfz := fun i => blk_free hcur i
                have c0 := bks_at (Rd.own HT.out.at_.row) (Below.refl _ _) hx
                simp only [Nat.zero_add] at c0
                obtain ⟨m, hm⟩ : ∃ m, m = x.ks.length := ⟨_, rfl⟩
                rw [← hm] at c0
                have HM' := hid hm
                clear hcur hx hga1 hga2 hga3 hga4 hm
                go_wp2_with fail
                obtain ⟨x2, hx2⟩ : ∃ x2 : Bk, x2 = { x with ver := -3 } := ⟨_, rfl⟩
                have HT2 := hid (show KT w (wk.setCell ⟨ga, k * 4 + 1, none⟩ (.int .i64 (-3))) F1 w.heap.size t' G2 q0 t' gm c3 (ks ++ List.replicate 70 kM) (some ⟨ga, 0, none⟩) d1 (R.set k x2) from HT.out.put HX.out (by decide) (by rw [hx2]; rfl) (by rw [hx2]; rfl) (by rw [hx2]))
                have HX2 := hid (show (R.set k x2)[k]? = some x2 by rw [List.getElem?_set_self (by have := HRN.out; omega)])
                have HR2 := hid (show (R.set k x2).length = n by rw [List.length_set]; exact HRN.out)
                have HM2 := hid (show m = x2.ks.length by rw [hx2]; exact HM'.out)
                clear hfz c0 hx2
                go_loopw [14] (fun v14 wr => ∃ (j : Nat) (R : List Bk), j ≤ m ∧ v14 = .int .i64 j ∧ Hid (R.length = n) ∧ Hid (KT w wr F1 w.heap.size t' G2 q0 t' gm c3 (ks ++ List.replicate 70 kM) (some ⟨ga, 0, none⟩) d1 R) ∧ Hid (∃ x : Bk, R[k]? = some x ∧ x.ks.length = m)) (fun v14 _ => m - (intOf v14).toNat)
                case atStart => exact ⟨0, _, by omega, rfl, HR2, HT2, hid ⟨_, HX2.out, HM2.out.symm⟩⟩
                case round =>
                  obtain ⟨j, R, hj, rfl, HRN, HT, HXE⟩ := hrel
                  obtain ⟨wj, hwj⟩ : ∃ wj, wj = wr := ⟨_, rfl⟩
                  subst hwj
                  obtain ⟨x, hx, hxm⟩ := HXE.out
                  have c0 := bks_at (Rd.own HT.out.at_.row) (Below.refl _ _) hx
                  simp only [Nat.zero_add] at c0
                  rw [hxm] at c0
                  have HX := hid hx
                  have HXM := hid hxm
                  by_cases hlt : j < m
                  · have hme := List.mem_of_getElem? hx
                    obtain ⟨gk, hxa, hb1, hb2, hb3, hb4⟩ := own_loc (a := x.a) (m := x.ks.length) (c := x.c) (HT.out.at_.each x hme) (by omega)
                    rw [hxm] at hb3
                    have HXA := hid hxa
                    have hj0 : (0 : Int) ≤ (j : Int) := by omega
                    have hj1 : (j : Int) < (m : Int) := by omega
                    have hm9 : m ≤ 9223372036854775807 := by unfold maxLen at hb4; omega
                    rw [hxa] at c0
                    have HOB := hid (show x.v.ownBlock = some gk by unfold Bk.v; rw [hxa]; rfl)
                    obtain ⟨cur, hcur⟩ := own_type (HT.out.at_.each x hme) HOB.out
                    have hfz := fun i => blk_free hcur i
                    have HME := hid hme
                    obtain ⟨y, hy⟩ : ∃ y, x.ks[j]? = some y := ⟨_, List.getElem?_eq_getElem (by omega)⟩
                    have ce := HT.out.at_.each x hme
                    unfold Bk.v at ce
                    rw [hxa] at ce
                    have c5 := ks_at (Rd.own ce) (Below.refl _ _) hy
                    simp only [Nat.zero_add] at c5
                    clear hy ce hcur hx hme hxa hb1 hb2 hb3 hb4 hxm
                    go_wp2
                    have HT2 := hid (HT.out.key (j := j) ⟨77, { data := #[] }⟩ HME.out HOB.out)
                    exact ⟨⟨j + 1, _, by omega, by go_num, hid (by rw [wrB_len]; exact HRN.out), HT2, hid ⟨_, wrB_at HX.out HOB.out, by simp [HXM.out]⟩⟩, by simp [intOf]; omega⟩
                  · have hjm : j = m := by omega
                    clear hx hxm
                    go_wp2
                    exact ⟨⟨k + 1, _, by omega, by go_num, HRN, HT⟩, by simp [intOf]; omega⟩
              · go_wp2
                refine ⟨?_, ?_⟩
                · (repeat apply Exists.intro)
                  refine ⟨?_, rfl⟩
                  exact ⟨i + 1, F1, G2, t', by omega, by omega, by go_num, hid HT.out.v, hid HT.out.m⟩
                · simp [intOf]; omega
          · have hi2 : ¬ (i : Int) < 5 := by omega
            have HRM := hid (show Rd wo (.slice (some ⟨gm, 0, none⟩) ks.length c3) ks.length (kyc ks) by
              have h1 := own_prefix (m := ks.length) HMN.out.row (by rw [mine_len]; omega)
              rw [mine_take] at h1
              exact Rd.own h1)
            go_wp2_with fail
            refine (t_touch _ _ _ _ _ ks ver HV.out.a.v HRM.out (by omega)).mono ?_; rintro e w4 hp; obtain ⟨F1, a1, d1, R1, rfl, hK1, hR1, hC1⟩ := KT.of1 HV.out HMN.out hp
            have HK1 := hid hK1
            clear hp hK1 hR1 hC1
            go_wp2_with fail
            refine (copyKeys_any (.slice ka ks.length kc) ks _ (HK.out.below HK1.out.v.a.below) hkl).mono ?_; rintro e w5 ⟨cb, cd, rfl, ho5, hb5⟩
            have HK5 := hid (HK1.out.below hb5)
            have HO5 := hid ho5
            clear ho5 hb5
            go_wp2_with fail
            refine (t_touch _ _ _ _ _ ks ver HK5.out.v.b.v (Rd.own HO5.out) (by omega)).mono ?_; rintro e w6 hp; obtain ⟨G2, b2, k2, S2, rfl, hK2, hC2⟩ := HK5.out.of2 hp
            obtain ⟨n, hn⟩ : ∃ n, n = R1.length := ⟨_, rfl⟩
            obtain ⟨t', ht'⟩ : ∃ t', t' = (touchT t ks ver).1 := ⟨_, rfl⟩
            rw [← ht'] at hK2
            have HK2 := hid hK2
            have HN1 := hid hn.symm
            rw [← hn]
            clear hp hK2 hC2 hn ht'
            go_wp2_with fail
            go_loopw [16] (fun v16 wr => ∃ (i : Nat) (M : List Ky), i ≤ ks.length + 70 ∧ v16 = .int .i64 i ∧ Hid (M.length = ks.length + 70) ∧ Hid (∀ j, i ≤ j → M[j]? = (ks ++ List.replicate 70 kM)[j]?) ∧ Hid (KT w wr F1 w.heap.size t' G2 q0 t' gm c3 M a1 d1 R1)) (fun v16 _ => ks.length + 70 - (intOf v16).toNat)
            case atStart => exact ⟨0, _, by omega, rfl, hid (mine_len _ _), hid (fun _ _ => rfl), HK2⟩
            case round =>
              obtain ⟨i8, M, hi8, rfl, HML, HMJ, HT⟩ := hrel
              obtain ⟨w8, hw8⟩ : ∃ w8, w8 = wr := ⟨_, rfl⟩
              subst hw8
              by_cases hlt8 : i8 < ks.length + 70
              · have hi80 : (0 : Int) ≤ (i8 : Int) := by omega
                have hi81 : (i8 : Int) < (ks.length : Int) + 70 := by omega
                obtain ⟨cur, hcur⟩ := own_type HT.out.m.row rfl
                have hfz := fun i => blk_free hcur i
                have HMG := HMJ.out i8 (Nat.le_refl _)
                clear hcur
                by_cases hik : i8 < ks.length
                · have hi82 : (i8 : Int) < (ks.length : Int) := by omega
                  have t1 : decide ((i8 : Int) < (ks.length : Int)) = true := decide_eq_true hi82
                  have t2 : decide ((i8 : Int) ≥ (ks.length : Int)) = false := decide_eq_false (by omega)
                  have t3 : decide ((ks.length : Int) ≤ (i8 : Int)) = false := decide_eq_false (by omega)
                  have t4 : decide (i8 < ks.length) = true := decide_eq_true hik
                  have t5 : decide (ks.length ≤ i8) = false := decide_eq_false (by omega)
                  obtain ⟨k, hk⟩ : ∃ k, ks[i8]? = some k := ⟨_, List.getElem?_eq_getElem hik⟩
                  obtain ⟨kg, ko, rfl⟩ := ks_loc HK.out (by omega)
                  have c1 := ks_at HK.out HT.out.v.a.below hk
                  have c2 := ks_at (Rd.own HT.out.m.row) (Below.refl _ _) (HMG.trans (mine_lo (n := 70) hk))
                  simp only [Nat.zero_add] at c2
                  have heq := fun W => eqIn_key k.dir k.dir k.name k.name W
                  simp only [decide_true] at heq
                  clear hk HMG
                  go_wp2_with fail
                  go_quiet (fail)
                  go_wp2
                  exact ⟨⟨i8 + 1, _, by omega, by go_num, hid (by rw [List.length_set]; exact HML.out), hid (fun j hj => by rw [List.getElem?_set_ne (by omega)]; exact HMJ.out j (by omega)), hid ((HT.out.below (below_drewN' _ _)).mine i8 ⟨66, { data := #[] }⟩)⟩, by simp [intOf]; omega⟩
                · obtain ⟨m, hmm⟩ : ∃ m, i8 = ks.length + m := ⟨i8 - ks.length, by omega⟩
                  have t1 : decide ((i8 : Int) < (ks.length : Int)) = false := decide_eq_false (by omega)
                  have t2 : decide ((i8 : Int) ≥ (ks.length : Int)) = true := decide_eq_true (by omega)
                  have t3 : decide ((ks.length : Int) ≤ (i8 : Int)) = true := decide_eq_true (by omega)
                  have t4 : decide (i8 < ks.length) = false := decide_eq_false (by omega)
                  have t5 : decide (ks.length ≤ i8) = true := decide_eq_true (by omega)
                  have c2 := ks_at (Rd.own HT.out.m.row) (Below.refl _ _) (show M[i8]? = some kM by rw [HMG, hmm]; exact mine_hi (by omega))
                  simp only [Nat.zero_add] at c2
                  simp only [kM] at c2
                  have heq := fun W => eqIn_key (-8) (-8) { data := #[109] } { data := #[109] } W
                  simp only [decide_true] at heq
                  clear hmm hik HMG
                  go_wp2_with fail
                  go_quiet (fail)
                  go_wp2
                  exact ⟨⟨i8 + 1, _, by omega, by go_num, hid (by rw [List.length_set]; exact HML.out), hid (fun j hj => by rw [List.getElem?_set_ne (by omega)]; exact HMJ.out j (by omega)), hid ((HT.out.below (below_drewN' _ _)).mine i8 ⟨66, { data := #[] }⟩)⟩, by simp [intOf]; omega⟩
              · go_wp2_with fail
                go_loopw [17] (fun v13 wr => ∃ (k : Nat) (R : List Bk), k ≤ n ∧ v13 = .int .i64 k ∧ Hid (R.length = n) ∧ Hid (KT w wr F1 w.heap.size t' G2 q0 t' gm c3 M a1 d1 R)) (fun v13 _ => n - (intOf v13).toNat)
                case atStart => exact ⟨0, _, by omega, rfl, HN1, HT⟩
                case round =>
                  obtain ⟨k, R, hk, rfl, HRN, HT⟩ := hrel
                  obtain ⟨wk, hwk⟩ : ∃ wk, wk = wr := ⟨_, rfl⟩
                  subst hwk
                  by_cases hlt : k < n
                  · obtain ⟨ga, haa, hga1, hga2, hga3, hga4⟩ := own_loc HT.out.at_.row (by have := HRN.out; omega)
                    subst haa
                    obtain ⟨x, hx⟩ : ∃ x, R[k]? = some x := ⟨_, List.getElem?_eq_getElem (by have := HRN.out; omega)⟩
                    have HX := hid hx
                    have hk0 : (0 : Int) ≤ (k : Int) := by omega
                    have hk1 : (k : Int) < (n : Int) := by omega
                    have hN9 : n ≤ 9223372036854775807 := by have := HRN.out; unfold maxLen at hga4; omega
                    obtain ⟨cur, hcur⟩ := own_type HT.out.at_.row rfl
                    have hfz := fun i => blk_free hcur i
                    have c0 := bks_at (Rd.own HT.out.at_.row) (Below.refl _ _) hx
                    simp only [Nat.zero_add] at c0
                    obtain ⟨m, hm⟩ : ∃ m, m = x.ks.length := ⟨_, rfl⟩
                    rw [← hm] at c0
                    have HM' := hid hm
                    clear hcur hx hga1 hga2 hga3 hga4 hm
                    clear hfz c0
                    go_wp2_with fail
                    go_loopw [18] (fun v14 wr => ∃ (j : Nat) (R : List Bk), j ≤ m ∧ v14 = .int .i64 j ∧ Hid (R.length = n) ∧ Hid (KT w wr F1 w.heap.size t' G2 q0 t' gm c3 M (some ⟨ga, 0, none⟩) d1 R) ∧ Hid (∃ x : Bk, R[k]? = some x ∧ x.ks.length = m)) (fun v14 _ => m - (intOf v14).toNat)
                    case atStart => exact ⟨0, _, by omega, rfl, HRN, HT, hid ⟨_, HX.out, HM'.out.symm⟩⟩
                    case round =>
                      obtain ⟨j, R, hj, rfl, HRN, HT, HXE⟩ := hrel
                      obtain ⟨wj, hwj⟩ : ∃ wj, wj = wr := ⟨_, rfl⟩
                      subst hwj
                      obtain ⟨x, hx, hxm⟩ := HXE.out
                      have c0 := bks_at (Rd.own HT.out.at_.row) (Below.refl _ _) hx
                      simp only [Nat.zero_add] at c0
                      rw [hxm] at c0
                      have HX := hid hx
                      have HXM := hid hxm
                      by_cases hlt : j < m
                      · have hme := List.mem_of_getElem? hx
                        obtain ⟨gk, hxa, hb1, hb2, hb3, hb4⟩ := own_loc (a := x.a) (m := x.ks.length) (c := x.c) (HT.out.at_.each x hme) (by omega)
                        rw [hxm] at hb3
                        have HXA := hid hxa
                        have hj0 : (0 : Int) ≤ (j : Int) := by omega
                        have hj1 : (j : Int) < (m : Int) := by omega
                        have hm9 : m ≤ 9223372036854775807 := by unfold maxLen at hb4; omega
                        rw [hxa] at c0
                        have HOB := hid (show x.v.ownBlock = some gk by unfold Bk.v; rw [hxa]; rfl)
                        obtain ⟨cur, hcur⟩ := own_type (HT.out.at_.each x hme) HOB.out
                        have hfz := fun i => blk_free hcur i
                        have HME := hid hme
                        obtain ⟨y, hy⟩ : ∃ y, x.ks[j]? = some y := ⟨_, List.getElem?_eq_getElem (by omega)⟩
                        have ce := HT.out.at_.each x hme
                        unfold Bk.v at ce
                        rw [hxa] at ce
                        have c5 := ks_at (Rd.own ce) (Below.refl _ _) hy
                        simp only [Nat.zero_add] at c5
                        clear hy ce hcur hx hme hxa hb1 hb2 hb3 hb4 hxm
                        go_wp2
                        have HT2 := hid (HT.out.key (j := j) ⟨55, { data := #[] }⟩ HME.out HOB.out)
                        exact ⟨⟨j + 1, _, by omega, by go_num, hid (by rw [wrB_len]; exact HRN.out), HT2, hid ⟨_, wrB_at HX.out HOB.out, by simp [HXM.out]⟩⟩, by simp [intOf]; omega⟩
                      · have hjm : j = m := by omega
                        clear hx hxm
                        go_wp2
                        exact ⟨⟨k + 1, _, by omega, by go_num, HRN, HT⟩, by simp [intOf]; omega⟩
                  · go_wp2_with fail
                    refine (v_promises _ _ _ _ HT.out.v.a.v).mono ?_; rintro e wp ⟨ap, cp, rfl, hop, hbp⟩
                    obtain ⟨np, hnp⟩ : ∃ np, np = t'.ks.length := ⟨_, rfl⟩
                    rw [← hnp] at hop
                    rw [← hnp]
                    have HNP := hid hnp.symm
                    have HVP := hid (HT.out.v.alloc hbp)
                    have HMP := hid (HT.out.m.below hbp)
                    have HOP := hid hop
                    have HFK := hid HT.out.v.a.v.lt
                    have HGK := hid HT.out.v.b.v.lt
                    have HMK := hid HT.out.m.lt
                    have HSK := hid HT.out.v.sz
                    clear hop hbp hnp
                    go_wp2_with fail
                    go_loopw [20] (fun v20 wr => ∃ (i : Nat) (P : List Ky), i ≤ np ∧ v20 = .int .i64 i ∧ Hid (P.length = np) ∧ Hid (V2 w wr F1 w.heap.size t' G2 q0 t') ∧ Hid (Mn w wr F1 G2 gm c3 M) ∧ Hid (wr.ownsRow wk.heap.size 37 2 (.slice ap np cp) np (kyc P))) (fun v20 _ => np - (intOf v20).toNat)
                    case atStart => exact ⟨0, _, by omega, rfl, HNP, HVP, HMP, HOP⟩
                    case round =>
                      obtain ⟨i9, P, hi9, rfl, HPN, HV9, HM9, HO9⟩ := hrel
                      by_cases hlt9 : i9 < np
                      · obtain ⟨gp, hgp, hg1', hg2', hg3', hg4'⟩ := own_loc HO9.out (by omega)
                        subst hgp
                        have hi90 : (0 : Int) ≤ (i9 : Int) := by omega
                        have hi91 : (i9 : Int) < (np : Int) := by omega
                        have hnp9 : np ≤ 9223372036854775807 := by unfold maxLen at hg4'; omega
                        obtain ⟨y9, hy9⟩ : ∃ y, P[i9]? = some y := ⟨_, List.getElem?_eq_getElem (by have := HPN.out; omega)⟩
                        have c9 := ks_at (Rd.own HO9.out) (Below.refl _ _) hy9
                        simp only [Nat.zero_add] at c9
                        obtain ⟨cur, hcur⟩ := own_type HO9.out rfl
                        have hfz := fun i => blk_free hcur i
                        have HG9 := hid hg1'
                        clear hcur hy9 hg1' hg2' hg3' hg4'
                        go_wp2
                        have hc9 := set2at_chg wr gp (i9 * 2) ⟨44, { data := #[] }⟩
                        have HV10 := hid (HV9.out.chg hc9 (fun k hk => by
                          subst hk
                          exact ⟨fun hf => by have := HFK.out k hf; have := HG9.out; omega, fun hf => by have := HGK.out k hf; have := HG9.out; omega, by have := HSK.out; have := HG9.out; omega⟩))
                        have HM10 := hid (HM9.out.chg hc9 (fun e => by have := HMK.out; have := HG9.out; omega))
                        have HO10 := hid (own_set2 i9 ⟨44, { data := #[] }⟩ HO9.out)
                        exact ⟨⟨i9 + 1, _, by omega, by go_num, hid (by rw [List.length_set]; exact HPN.out), HV10, HM10, HO10⟩, by simp [intOf]; omega⟩
                      · go_wp2_with fail
                        refine (v_queue _ _ _ _ HV9.out.a.v).mono ?_; rintro e wq ⟨aq, cq, RQ, rfl, hRq, hBq, hbq⟩
                        obtain ⟨nq, hnq⟩ : ∃ nq, nq = RQ.length := ⟨_, rfl⟩
                        rw [← hnq]
                        have HNQ := hid hnq.symm
                        have HKQ := hid (KT.fresh HV9.out HM9.out hbq hBq)
                        clear hRq hBq hbq hnq
                        go_wp2_with fail
                        go_loopw [22] (fun v13 wr => ∃ (k : Nat) (R : List Bk), k ≤ nq ∧ v13 = .int .i64 k ∧ Hid (R.length = nq) ∧ Hid (KT w wr F1 w.heap.size t' G2 q0 t' gm c3 M aq cq R)) (fun v13 _ => nq - (intOf v13).toNat)
                        case atStart => exact ⟨0, _, by omega, rfl, HNQ, HKQ⟩
                        case round =>
                          obtain ⟨k, R, hk, rfl, HRN, HT⟩ := hrel
                          obtain ⟨wk, hwk⟩ : ∃ wk, wk = wr := ⟨_, rfl⟩
                          subst hwk
                          by_cases hlt : k < nq
                          · obtain ⟨ga, haa, hga1, hga2, hga3, hga4⟩ := own_loc HT.out.at_.row (by have := HRN.out; omega)
                            subst haa
                            obtain ⟨x, hx⟩ : ∃ x, R[k]? = some x := ⟨_, List.getElem?_eq_getElem (by have := HRN.out; omega)⟩
                            have HX := hid hx
                            have hk0 : (0 : Int) ≤ (k : Int) := by omega
                            have hk1 : (k : Int) < (nq : Int) := by omega
                            have hN9 : nq ≤ 9223372036854775807 := by have := HRN.out; unfold maxLen at hga4; omega
                            obtain ⟨cur, hcur⟩ := own_type HT.out.at_.row rfl
                            have hfz := fun i => blk_free hcur i
                            have c0 := bks_at (Rd.own HT.out.at_.row) (Below.refl _ _) hx
                            simp only [Nat.zero_add] at c0
                            obtain ⟨m, hm⟩ : ∃ m, m = x.ks.length := ⟨_, rfl⟩
                            rw [← hm] at c0
                            have HM' := hid hm
                            clear hcur hx hga1 hga2 hga3 hga4 hm
                            clear hfz c0
                            go_wp2_with fail
                            go_loopw [23] (fun v14 wr => ∃ (j : Nat) (R : List Bk), j ≤ m ∧ v14 = .int .i64 j ∧ Hid (R.length = nq) ∧ Hid (KT w wr F1 w.heap.size t' G2 q0 t' gm c3 M (some ⟨ga, 0, none⟩) cq R) ∧ Hid (∃ x : Bk, R[k]? = some x ∧ x.ks.length = m)) (fun v14 _ => m - (intOf v14).toNat)
                            case atStart => exact ⟨0, _, by omega, rfl, HRN, HT, hid ⟨_, HX.out, HM'.out.symm⟩⟩
                            case round =>
                              obtain ⟨j, R, hj, rfl, HRN, HT, HXE⟩ := hrel
                              obtain ⟨wj, hwj⟩ : ∃ wj, wj = wr := ⟨_, rfl⟩
                              subst hwj
                              obtain ⟨x, hx, hxm⟩ := HXE.out
                              have c0 := bks_at (Rd.own HT.out.at_.row) (Below.refl _ _) hx
                              simp only [Nat.zero_add] at c0
                              rw [hxm] at c0
                              have HX := hid hx
                              have HXM := hid hxm
                              by_cases hlt : j < m
                              · have hme := List.mem_of_getElem? hx
                                obtain ⟨gk, hxa, hb1, hb2, hb3, hb4⟩ := own_loc (a := x.a) (m := x.ks.length) (c := x.c) (HT.out.at_.each x hme) (by omega)
                                rw [hxm] at hb3
                                have HXA := hid hxa
                                have hj0 : (0 : Int) ≤ (j : Int) := by omega
                                have hj1 : (j : Int) < (m : Int) := by omega
                                have hm9 : m ≤ 9223372036854775807 := by unfold maxLen at hb4; omega
                                rw [hxa] at c0
                                have HOB := hid (show x.v.ownBlock = some gk by unfold Bk.v; rw [hxa]; rfl)
                                obtain ⟨cur, hcur⟩ := own_type (HT.out.at_.each x hme) HOB.out
                                have hfz := fun i => blk_free hcur i
                                have HME := hid hme
                                obtain ⟨y, hy⟩ : ∃ y, x.ks[j]? = some y := ⟨_, List.getElem?_eq_getElem (by omega)⟩
                                have ce := HT.out.at_.each x hme
                                unfold Bk.v at ce
                                rw [hxa] at ce
                                have c5 := ks_at (Rd.own ce) (Below.refl _ _) hy
                                simp only [Nat.zero_add] at c5
                                clear hy ce hcur hx hme hxa hb1 hb2 hb3 hb4 hxm
                                go_wp2
                                have HT2 := hid (HT.out.key (j := j) ⟨33, { data := #[] }⟩ HME.out HOB.out)
                                exact ⟨⟨j + 1, _, by omega, by go_num, hid (by rw [wrB_len]; exact HRN.out), HT2, hid ⟨_, wrB_at HX.out HOB.out, by simp [HXM.out]⟩⟩, by simp [intOf]; omega⟩
                              · have hjm : j = m := by omega
                                subst hjm
                                obtain ⟨cur, hcur⟩ := own_type HT.out.at_.row rfl
                                have hfz := fun i => blk_free hcur i
                                clear hcur hx hxm
                                go_wp2_with fail
                                obtain ⟨x2, hx2⟩ : ∃ x2 : Bk, x2 = { x with ep := 0, n := 0 } := ⟨_, rfl⟩
                                have HT2 := hid (show KT w (wj.setCell ⟨ga, k * 4 + 0, none⟩ (.complex .f64 0 0)) F1 w.heap.size t' G2 q0 t' gm c3 M (some ⟨ga, 0, none⟩) cq (R.set k x2) from HT.out.put HX.out (by decide) (by rw [hx2]; rfl) (by rw [hx2]; rfl) (by rw [hx2]))
                                exact ⟨⟨k + 1, _, by omega, by go_num, hid (by rw [List.length_set]; exact HRN.out), HT2⟩, by simp [intOf]; omega⟩
                          · obtain ⟨we, hwe⟩ : ∃ we, we = wk := ⟨_, rfl⟩
                            subst hwe
                            have t1 : (FloatKind.f64.format.order (fl t'.e) (fl t'.e) == some .eq) = true := by rw [ord_M HT.out.v.a.v.ok.he HT.out.v.a.v.ok.he, cmp_eq]; rfl
                            have t2 : (FloatKind.f64.format.order (fl t'.n) (fl t'.n) == some .eq) = true := by rw [ord_M HT.out.v.a.v.ok.hn HT.out.v.a.v.ok.hn, cmp_eq]; rfl
                            have HW0 := hid HT.out.v
                            go_wp2_with fail
                            refine (v_promises _ _ _ _ HW0.out.a.v).mono ?_; rintro e w11 ⟨a11, c11, rfl, ho11, hb11⟩
                            have HW1 := hid (HW0.out.alloc hb11)
                            have HO1 := hid ho11
                            clear ho11 hb11
                            go_wp2_with fail
                            refine (v_promises _ _ _ _ HW1.out.b.v).mono ?_; rintro e w12 ⟨a12, c12, rfl, ho12, hb12⟩
                            have HW2 := hid (HW1.out.alloc hb12)
                            have HO2 := hid ho12
                            have HO1' := hid (own_below HO1.out hb12)
                            clear ho12 hb12
                            go_wp2_with fail
                            refine (same_keys _ _ _ _ _ _ _ (Rd.own HO1'.out) (Rd.own HO2.out) rfl).mono ?_; rintro e w13 ⟨rfl, hb13⟩
                            have HW3 := hid (HW2.out.alloc hb13)
                            clear hb13
                            go_wp2_with fail
                            refine (v_queue _ _ _ _ HW3.out.a.v).mono ?_; rintro e w14 ⟨a14, c14, R14, rfl, hR14, hB14, hb14⟩
                            have HW4 := hid (HW3.out.alloc hb14)
                            have HB14 := hid hB14
                            clear hb14 hB14
                            go_wp2_with fail
                            refine (v_queue _ _ _ _ HW4.out.b.v).mono ?_; rintro e w15 ⟨a15, c15, R15, rfl, hR15, hB15, hb15⟩
                            have HW5 := hid (HW4.out.alloc hb15)
                            have HB15 := hid hB15
                            have HB14' := hid (HB14.out.below hb15)
                            clear hb15 hB15
                            go_wp2_with fail
                            refine (same_brks _ _ R14 R15 _ HB14'.out.rd HB15.out.rd (hR14.out.trans hR15.out.symm) (q_in HW5.out.a.v.ok hR14.out)).mono ?_; rintro e w16 ⟨rfl, n16, rfl⟩
                            have HW6 := hid (HW5.out.alloc (below_drewN' _ n16))
                            go_wp2_with fail
                            refine (v_mark _ _ _ _ HW6.out.a.v).mono ?_; rintro e wx ⟨rfl, rfl⟩
                            go_wp2_with fail
                            refine (v_mark _ _ _ _ HW6.out.b.v).mono ?_; rintro e wx ⟨rfl, rfl⟩
                            go_wp2_with fail
                            refine (v_awake _).mono ?_; rintro e w9 ⟨rfl, hb9⟩
                            have HB9 := hid (HW6.out.a.below.trans (hb9.mono HW6.out.a.sz))
                            clear hb9
                            go_wp2
                            go_ret
                            exact ⟨rfl, HB9.out⟩


        · have hi1 : ¬ (i : Int) < (ks.length : Int) := by omega
          have HRM := hid (show Rd wo (.slice (some ⟨gm, 0, none⟩) ks.length c3) ks.length (kyc ks) by
            have h1 := own_prefix (m := ks.length) HMN.out.row (by rw [mine_len]; omega)
            rw [mine_take] at h1
            exact Rd.own h1)
          go_wp2_with fail
          refine (t_touch _ _ _ _ _ ks ver HV.out.a.v HRM.out (by omega)).mono ?_; rintro e w4 hp; obtain ⟨F1, a1, d1, R1, rfl, hK1, hR1, hC1⟩ := KT.of1 HV.out HMN.out hp
          have HK1 := hid hK1
          clear hp hK1 hR1 hC1
          go_wp2_with fail
          refine (copyKeys_any (.slice ka ks.length kc) ks _ (HK.out.below HK1.out.v.a.below) hkl).mono ?_; rintro e w5 ⟨cb, cd, rfl, ho5, hb5⟩
          have HK5 := hid (HK1.out.below hb5)
          have HO5 := hid ho5
          clear ho5 hb5
          go_wp2_with fail
          refine (t_touch _ _ _ _ _ ks ver HK5.out.v.b.v (Rd.own HO5.out) (by omega)).mono ?_; rintro e w6 hp; obtain ⟨G2, b2, k2, S2, rfl, hK2, hC2⟩ := HK5.out.of2 hp
          obtain ⟨n, hn⟩ : ∃ n, n = R1.length := ⟨_, rfl⟩
          obtain ⟨t', ht'⟩ : ∃ t', t' = (touchT t ks ver).1 := ⟨_, rfl⟩
          rw [← ht'] at hK2
          have HK2 := hid hK2
          have HN1 := hid hn.symm
          rw [← hn]
          clear hp hK2 hC2 hn ht'
          go_wp2_with fail
          go_loopw [16] (fun v16 wr => ∃ (i : Nat) (M : List Ky), i ≤ ks.length + 70 ∧ v16 = .int .i64 i ∧ Hid (M.length = ks.length + 70) ∧ Hid (∀ j, i ≤ j → M[j]? = (ks ++ List.replicate 70 kM)[j]?) ∧ Hid (KT w wr F1 w.heap.size t' G2 q0 t' gm c3 M a1 d1 R1)) (fun v16 _ => ks.length + 70 - (intOf v16).toNat)
          case atStart => exact ⟨0, _, by omega, rfl, hid (mine_len _ _), hid (fun _ _ => rfl), HK2⟩
          case round =>
            obtain ⟨i8, M, hi8, rfl, HML, HMJ, HT⟩ := hrel
            obtain ⟨w8, hw8⟩ : ∃ w8, w8 = wr := ⟨_, rfl⟩
            subst hw8
            by_cases hlt8 : i8 < ks.length + 70
            · have hi80 : (0 : Int) ≤ (i8 : Int) := by omega
              have hi81 : (i8 : Int) < (ks.length : Int) + 70 := by omega
              obtain ⟨cur, hcur⟩ := own_type HT.out.m.row rfl
              have hfz := fun i => blk_free hcur i
              have HMG := HMJ.out i8 (Nat.le_refl _)
              clear hcur
              by_cases hik : i8 < ks.length
              · have hi82 : (i8 : Int) < (ks.length : Int) := by omega
                have t1 : decide ((i8 : Int) < (ks.length : Int)) = true := decide_eq_true hi82
                have t2 : decide ((i8 : Int) ≥ (ks.length : Int)) = false := decide_eq_false (by omega)
                have t3 : decide ((ks.length : Int) ≤ (i8 : Int)) = false := decide_eq_false (by omega)
                have t4 : decide (i8 < ks.length) = true := decide_eq_true hik
                have t5 : decide (ks.length ≤ i8) = false := decide_eq_false (by omega)
                obtain ⟨k, hk⟩ : ∃ k, ks[i8]? = some k := ⟨_, List.getElem?_eq_getElem hik⟩
                obtain ⟨kg, ko, rfl⟩ := ks_loc HK.out (by omega)
                have c1 := ks_at HK.out HT.out.v.a.below hk
                have c2 := ks_at (Rd.own HT.out.m.row) (Below.refl _ _) (HMG.trans (mine_lo (n := 70) hk))
                simp only [Nat.zero_add] at c2
                have heq := fun W => eqIn_key k.dir k.dir k.name k.name W
                simp only [decide_true] at heq
                clear hk HMG
                go_wp2_with fail
                go_quiet (fail)
                go_wp2
                exact ⟨⟨i8 + 1, _, by omega, by go_num, hid (by rw [List.length_set]; exact HML.out), hid (fun j hj => by rw [List.getElem?_set_ne (by omega)]; exact HMJ.out j (by omega)), hid ((HT.out.below (below_drewN' _ _)).mine i8 ⟨66, { data := #[] }⟩)⟩, by simp [intOf]; omega⟩
              · obtain ⟨m, hmm⟩ : ∃ m, i8 = ks.length + m := ⟨i8 - ks.length, by omega⟩
                have t1 : decide ((i8 : Int) < (ks.length : Int)) = false := decide_eq_false (by omega)
                have t2 : decide ((i8 : Int) ≥ (ks.length : Int)) = true := decide_eq_true (by omega)
                have t3 : decide ((ks.length : Int) ≤ (i8 : Int)) = true := decide_eq_true (by omega)
                have t4 : decide (i8 < ks.length) = false := decide_eq_false (by omega)
                have t5 : decide (ks.length ≤ i8) = true := decide_eq_true (by omega)
                have c2 := ks_at (Rd.own HT.out.m.row) (Below.refl _ _) (show M[i8]? = some kM by rw [HMG, hmm]; exact mine_hi (by omega))
                simp only [Nat.zero_add] at c2
                simp only [kM] at c2
                have heq := fun W => eqIn_key (-8) (-8) { data := #[109] } { data := #[109] } W
                simp only [decide_true] at heq
                clear hmm hik HMG
                go_wp2_with fail
                go_quiet (fail)
                go_wp2
                exact ⟨⟨i8 + 1, _, by omega, by go_num, hid (by rw [List.length_set]; exact HML.out), hid (fun j hj => by rw [List.getElem?_set_ne (by omega)]; exact HMJ.out j (by omega)), hid ((HT.out.below (below_drewN' _ _)).mine i8 ⟨66, { data := #[] }⟩)⟩, by simp [intOf]; omega⟩
            · go_wp2_with fail
              go_loopw [17] (fun v13 wr => ∃ (k : Nat) (R : List Bk), k ≤ n ∧ v13 = .int .i64 k ∧ Hid (R.length = n) ∧ Hid (KT w wr F1 w.heap.size t' G2 q0 t' gm c3 M a1 d1 R)) (fun v13 _ => n - (intOf v13).toNat)
              case atStart => exact ⟨0, _, by omega, rfl, HN1, HT⟩
              case round =>
                obtain ⟨k, R, hk, rfl, HRN, HT⟩ := hrel
                obtain ⟨wk, hwk⟩ : ∃ wk, wk = wr := ⟨_, rfl⟩
                subst hwk
                by_cases hlt : k < n
                · obtain ⟨ga, haa, hga1, hga2, hga3, hga4⟩ := own_loc HT.out.at_.row (by have := HRN.out; omega)
                  subst haa
                  obtain ⟨x, hx⟩ : ∃ x, R[k]? = some x := ⟨_, List.getElem?_eq_getElem (by have := HRN.out; omega)⟩
                  have HX := hid hx
                  have hk0 : (0 : Int) ≤ (k : Int) := by omega
                  have hk1 : (k : Int) < (n : Int) := by omega
                  have hN9 : n ≤ 9223372036854775807 := by have := HRN.out; unfold maxLen at hga4; omega
                  obtain ⟨cur, hcur⟩ := own_type HT.out.at_.row rfl
                  have hfz := fun i => blk_free hcur i
                  have c0 := bks_at (Rd.own HT.out.at_.row) (Below.refl _ _) hx
                  simp only [Nat.zero_add] at c0
                  obtain ⟨m, hm⟩ : ∃ m, m = x.ks.length := ⟨_, rfl⟩
                  rw [← hm] at c0
                  have HM' := hid hm
                  clear hcur hx hga1 hga2 hga3 hga4 hm
                  clear hfz c0
                  go_wp2_with fail
                  go_loopw [18] (fun v14 wr => ∃ (j : Nat) (R : List Bk), j ≤ m ∧ v14 = .int .i64 j ∧ Hid (R.length = n) ∧ Hid (KT w wr F1 w.heap.size t' G2 q0 t' gm c3 M (some ⟨ga, 0, none⟩) d1 R) ∧ Hid (∃ x : Bk, R[k]? = some x ∧ x.ks.length = m)) (fun v14 _ => m - (intOf v14).toNat)
                  case atStart => exact ⟨0, _, by omega, rfl, HRN, HT, hid ⟨_, HX.out, HM'.out.symm⟩⟩
                  case round =>
                    obtain ⟨j, R, hj, rfl, HRN, HT, HXE⟩ := hrel
                    obtain ⟨wj, hwj⟩ : ∃ wj, wj = wr := ⟨_, rfl⟩
                    subst hwj
                    obtain ⟨x, hx, hxm⟩ := HXE.out
                    have c0 := bks_at (Rd.own HT.out.at_.row) (Below.refl _ _) hx
                    simp only [Nat.zero_add] at c0
                    rw [hxm] at c0
                    have HX := hid hx
                    have HXM := hid hxm
                    by_cases hlt : j < m
                    · have hme := List.mem_of_getElem? hx
                      obtain ⟨gk, hxa, hb1, hb2, hb3, hb4⟩ := own_loc (a := x.a) (m := x.ks.length) (c := x.c) (HT.out.at_.each x hme) (by omega)
                      rw [hxm] at hb3
                      have HXA := hid hxa
                      have hj0 : (0 : Int) ≤ (j : Int) := by omega
                      have hj1 : (j : Int) < (m : Int) := by omega
                      have hm9 : m ≤ 9223372036854775807 := by unfold maxLen at hb4; omega
                      rw [hxa] at c0
                      have HOB := hid (show x.v.ownBlock = some gk by unfold Bk.v; rw [hxa]; rfl)
                      obtain ⟨cur, hcur⟩ := own_type (HT.out.at_.each x hme) HOB.out
                      have hfz := fun i => blk_free hcur i
                      have HME := hid hme
                      obtain ⟨y, hy⟩ : ∃ y, x.ks[j]? = some y := ⟨_, List.getElem?_eq_getElem (by omega)⟩
                      have ce := HT.out.at_.each x hme
                      unfold Bk.v at ce
                      rw [hxa] at ce
                      have c5 := ks_at (Rd.own ce) (Below.refl _ _) hy
                      simp only [Nat.zero_add] at c5
                      clear hy ce hcur hx hme hxa hb1 hb2 hb3 hb4 hxm
                      go_wp2
                      have HT2 := hid (HT.out.key (j := j) ⟨55, { data := #[] }⟩ HME.out HOB.out)
                      exact ⟨⟨j + 1, _, by omega, by go_num, hid (by rw [wrB_len]; exact HRN.out), HT2, hid ⟨_, wrB_at HX.out HOB.out, by simp [HXM.out]⟩⟩, by simp [intOf]; omega⟩
                    · have hjm : j = m := by omega
                      clear hx hxm
                      go_wp2
                      exact ⟨⟨k + 1, _, by omega, by go_num, HRN, HT⟩, by simp [intOf]; omega⟩
                · go_wp2_with fail
                  refine (v_promises _ _ _ _ HT.out.v.a.v).mono ?_; rintro e wp ⟨ap, cp, rfl, hop, hbp⟩
                  obtain ⟨np, hnp⟩ : ∃ np, np = t'.ks.length := ⟨_, rfl⟩
                  rw [← hnp] at hop
                  rw [← hnp]
                  have HNP := hid hnp.symm
                  have HVP := hid (HT.out.v.alloc hbp)
                  have HMP := hid (HT.out.m.below hbp)
                  have HOP := hid hop
                  have HFK := hid HT.out.v.a.v.lt
                  have HGK := hid HT.out.v.b.v.lt
                  have HMK := hid HT.out.m.lt
                  have HSK := hid HT.out.v.sz
                  clear hop hbp hnp
                  go_wp2_with fail
                  go_loopw [20] (fun v20 wr => ∃ (i : Nat) (P : List Ky), i ≤ np ∧ v20 = .int .i64 i ∧ Hid (P.length = np) ∧ Hid (V2 w wr F1 w.heap.size t' G2 q0 t') ∧ Hid (Mn w wr F1 G2 gm c3 M) ∧ Hid (wr.ownsRow wk.heap.size 37 2 (.slice ap np cp) np (kyc P))) (fun v20 _ => np - (intOf v20).toNat)
                  case atStart => exact ⟨0, _, by omega, rfl, HNP, HVP, HMP, HOP⟩
                  case round =>
                    obtain ⟨i9, P, hi9, rfl, HPN, HV9, HM9, HO9⟩ := hrel
                    by_cases hlt9 : i9 < np
                    · obtain ⟨gp, hgp, hg1', hg2', hg3', hg4'⟩ := own_loc HO9.out (by omega)
                      subst hgp
                      have hi90 : (0 : Int) ≤ (i9 : Int) := by omega
                      have hi91 : (i9 : Int) < (np : Int) := by omega
                      have hnp9 : np ≤ 9223372036854775807 := by unfold maxLen at hg4'; omega
                      obtain ⟨y9, hy9⟩ : ∃ y, P[i9]? = some y := ⟨_, List.getElem?_eq_getElem (by have := HPN.out; omega)⟩
                      have c9 := ks_at (Rd.own HO9.out) (Below.refl _ _) hy9
                      simp only [Nat.zero_add] at c9
                      obtain ⟨cur, hcur⟩ := own_type HO9.out rfl
                      have hfz := fun i => blk_free hcur i
                      have HG9 := hid hg1'
                      clear hcur hy9 hg1' hg2' hg3' hg4'
                      go_wp2
                      have hc9 := set2at_chg wr gp (i9 * 2) ⟨44, { data := #[] }⟩
                      have HV10 := hid (HV9.out.chg hc9 (fun k hk => by
                        subst hk
                        exact ⟨fun hf => by have := HFK.out k hf; have := HG9.out; omega, fun hf => by have := HGK.out k hf; have := HG9.out; omega, by have := HSK.out; have := HG9.out; omega⟩))
                      have HM10 := hid (HM9.out.chg hc9 (fun e => by have := HMK.out; have := HG9.out; omega))
                      have HO10 := hid (own_set2 i9 ⟨44, { data := #[] }⟩ HO9.out)
                      exact ⟨⟨i9 + 1, _, by omega, by go_num, hid (by rw [List.length_set]; exact HPN.out), HV10, HM10, HO10⟩, by simp [intOf]; omega⟩
                    · go_wp2_with fail
                      refine (v_queue _ _ _ _ HV9.out.a.v).mono ?_; rintro e wq ⟨aq, cq, RQ, rfl, hRq, hBq, hbq⟩
                      obtain ⟨nq, hnq⟩ : ∃ nq, nq = RQ.length := ⟨_, rfl⟩
                      rw [← hnq]
                      have HNQ := hid hnq.symm
                      have HKQ := hid (KT.fresh HV9.out HM9.out hbq hBq)
                      clear hRq hBq hbq hnq
                      go_wp2_with fail
                      go_loopw [22] (fun v13 wr => ∃ (k : Nat) (R : List Bk), k ≤ nq ∧ v13 = .int .i64 k ∧ Hid (R.length = nq) ∧ Hid (KT w wr F1 w.heap.size t' G2 q0 t' gm c3 M aq cq R)) (fun v13 _ => nq - (intOf v13).toNat)
                      case atStart => exact ⟨0, _, by omega, rfl, HNQ, HKQ⟩
                      case round =>
                        obtain ⟨k, R, hk, rfl, HRN, HT⟩ := hrel
                        obtain ⟨wk, hwk⟩ : ∃ wk, wk = wr := ⟨_, rfl⟩
                        subst hwk
                        by_cases hlt : k < nq
                        · obtain ⟨ga, haa, hga1, hga2, hga3, hga4⟩ := own_loc HT.out.at_.row (by have := HRN.out; omega)
                          subst haa
                          obtain ⟨x, hx⟩ : ∃ x, R[k]? = some x := ⟨_, List.getElem?_eq_getElem (by have := HRN.out; omega)⟩
                          have HX := hid hx
                          have hk0 : (0 : Int) ≤ (k : Int) := by omega
                          have hk1 : (k : Int) < (nq : Int) := by omega
                          have hN9 : nq ≤ 9223372036854775807 := by have := HRN.out; unfold maxLen at hga4; omega
                          obtain ⟨cur, hcur⟩ := own_type HT.out.at_.row rfl
                          have hfz := fun i => blk_free hcur i
                          have c0 := bks_at (Rd.own HT.out.at_.row) (Below.refl _ _) hx
                          simp only [Nat.zero_add] at c0
                          obtain ⟨m, hm⟩ : ∃ m, m = x.ks.length := ⟨_, rfl⟩
                          rw [← hm] at c0
                          have HM' := hid hm
                          clear hcur hx hga1 hga2 hga3 hga4 hm
                          clear hfz c0
                          go_wp2_with fail
                          go_loopw [23] (fun v14 wr => ∃ (j : Nat) (R : List Bk), j ≤ m ∧ v14 = .int .i64 j ∧ Hid (R.length = nq) ∧ Hid (KT w wr F1 w.heap.size t' G2 q0 t' gm c3 M (some ⟨ga, 0, none⟩) cq R) ∧ Hid (∃ x : Bk, R[k]? = some x ∧ x.ks.length = m)) (fun v14 _ => m - (intOf v14).toNat)
                          case atStart => exact ⟨0, _, by omega, rfl, HRN, HT, hid ⟨_, HX.out, HM'.out.symm⟩⟩
                          case round =>
                            obtain ⟨j, R, hj, rfl, HRN, HT, HXE⟩ := hrel
                            obtain ⟨wj, hwj⟩ : ∃ wj, wj = wr := ⟨_, rfl⟩
                            subst hwj
                            obtain ⟨x, hx, hxm⟩ := HXE.out
                            have c0 := bks_at (Rd.own HT.out.at_.row) (Below.refl _ _) hx
                            simp only [Nat.zero_add] at c0
                            rw [hxm] at c0
                            have HX := hid hx
                            have HXM := hid hxm
                            by_cases hlt : j < m
                            · have hme := List.mem_of_getElem? hx
                              obtain ⟨gk, hxa, hb1, hb2, hb3, hb4⟩ := own_loc (a := x.a) (m := x.ks.length) (c := x.c) (HT.out.at_.each x hme) (by omega)
                              rw [hxm] at hb3
                              have HXA := hid hxa
                              have hj0 : (0 : Int) ≤ (j : Int) := by omega
                              have hj1 : (j : Int) < (m : Int) := by omega
                              have hm9 : m ≤ 9223372036854775807 := by unfold maxLen at hb4; omega
                              rw [hxa] at c0
                              have HOB := hid (show x.v.ownBlock = some gk by unfold Bk.v; rw [hxa]; rfl)
                              obtain ⟨cur, hcur⟩ := own_type (HT.out.at_.each x hme) HOB.out
                              have hfz := fun i => blk_free hcur i
                              have HME := hid hme
                              obtain ⟨y, hy⟩ : ∃ y, x.ks[j]? = some y := ⟨_, List.getElem?_eq_getElem (by omega)⟩
                              have ce := HT.out.at_.each x hme
                              unfold Bk.v at ce
                              rw [hxa] at ce
                              have c5 := ks_at (Rd.own ce) (Below.refl _ _) hy
                              simp only [Nat.zero_add] at c5
                              clear hy ce hcur hx hme hxa hb1 hb2 hb3 hb4 hxm
                              go_wp2
                              have HT2 := hid (HT.out.key (j := j) ⟨33, { data := #[] }⟩ HME.out HOB.out)
                              exact ⟨⟨j + 1, _, by omega, by go_num, hid (by rw [wrB_len]; exact HRN.out), HT2, hid ⟨_, wrB_at HX.out HOB.out, by simp [HXM.out]⟩⟩, by simp [intOf]; omega⟩
                            · have hjm : j = m := by omega
                              subst hjm
                              obtain ⟨cur, hcur⟩ := own_type HT.out.at_.row rfl
                              have hfz := fun i => blk_free hcur i
                              clear hcur hx hxm
                              go_wp2_with fail
                              obtain ⟨x2, hx2⟩ : ∃ x2 : Bk, x2 = { x with ep := 0, n := 0 } := ⟨_, rfl⟩
                              have HT2 := hid (show KT w (wj.setCell ⟨ga, k * 4 + 0, none⟩ (.complex .f64 0 0)) F1 w.heap.size t' G2 q0 t' gm c3 M (some ⟨ga, 0, none⟩) cq (R.set k x2) from HT.out.put HX.out (by decide) (by rw [hx2]; rfl) (by rw [hx2]; rfl) (by rw [hx2]))
                              exact ⟨⟨k + 1, _, by omega, by go_num, hid (by rw [List.length_set]; exact HRN.out), HT2⟩, by simp [intOf]; omega⟩
                        · obtain ⟨we, hwe⟩ : ∃ we, we = wk := ⟨_, rfl⟩
                          subst hwe
                          have t1 : (FloatKind.f64.format.order (fl t'.e) (fl t'.e) == some .eq) = true := by rw [ord_M HT.out.v.a.v.ok.he HT.out.v.a.v.ok.he, cmp_eq]; rfl
                          have t2 : (FloatKind.f64.format.order (fl t'.n) (fl t'.n) == some .eq) = true := by rw [ord_M HT.out.v.a.v.ok.hn HT.out.v.a.v.ok.hn, cmp_eq]; rfl
                          have HW0 := hid HT.out.v
                          go_wp2_with fail
                          refine (v_promises _ _ _ _ HW0.out.a.v).mono ?_; rintro e w11 ⟨a11, c11, rfl, ho11, hb11⟩
                          have HW1 := hid (HW0.out.alloc hb11)
                          have HO1 := hid ho11
                          clear ho11 hb11
                          go_wp2_with fail
                          refine (v_promises _ _ _ _ HW1.out.b.v).mono ?_; rintro e w12 ⟨a12, c12, rfl, ho12, hb12⟩
                          have HW2 := hid (HW1.out.alloc hb12)
                          have HO2 := hid ho12
                          have HO1' := hid (own_below HO1.out hb12)
                          clear ho12 hb12
                          go_wp2_with fail
                          refine (same_keys _ _ _ _ _ _ _ (Rd.own HO1'.out) (Rd.own HO2.out) rfl).mono ?_; rintro e w13 ⟨rfl, hb13⟩
                          have HW3 := hid (HW2.out.alloc hb13)
                          clear hb13
                          go_wp2_with fail
                          refine (v_queue _ _ _ _ HW3.out.a.v).mono ?_; rintro e w14 ⟨a14, c14, R14, rfl, hR14, hB14, hb14⟩
                          have HW4 := hid (HW3.out.alloc hb14)
                          have HB14 := hid hB14
                          clear hb14 hB14
                          go_wp2_with fail
                          refine (v_queue _ _ _ _ HW4.out.b.v).mono ?_; rintro e w15 ⟨a15, c15, R15, rfl, hR15, hB15, hb15⟩
                          have HW5 := hid (HW4.out.alloc hb15)
                          have HB15 := hid hB15
                          have HB14' := hid (HB14.out.below hb15)
                          clear hb15 hB15
                          go_wp2_with fail
                          refine (same_brks _ _ R14 R15 _ HB14'.out.rd HB15.out.rd (hR14.out.trans hR15.out.symm) (q_in HW5.out.a.v.ok hR14.out)).mono ?_; rintro e w16 ⟨rfl, n16, rfl⟩
                          have HW6 := hid (HW5.out.alloc (below_drewN' _ n16))
                          go_wp2_with fail
                          refine (v_mark _ _ _ _ HW6.out.a.v).mono ?_; rintro e wx ⟨rfl, rfl⟩
                          go_wp2_with fail
                          refine (v_mark _ _ _ _ HW6.out.b.v).mono ?_; rintro e wx ⟨rfl, rfl⟩
                          go_wp2_with fail
                          refine (v_awake _).mono ?_; rintro e w9 ⟨rfl, hb9⟩
                          have HB9 := hid (HW6.out.a.below.trans (hb9.mono HW6.out.a.sz))
                          clear hb9
                          go_wp2
                          go_ret
                          exact ⟨rfl, HB9.out⟩



end Go.Proofs.Ytakkdaenindboaa
