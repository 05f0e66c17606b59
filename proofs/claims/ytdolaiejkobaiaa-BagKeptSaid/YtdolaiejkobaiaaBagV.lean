import Derived.Test.YtdolaiejkobaiaaBagU
import Derived.Test.YtdolaiejkobaiaaBagG
namespace Go.Proofs.Ytdolaiejkobaiaa
set_option linter.unusedVariables false
set_option linter.unusedSimpArgs false
open Go.RowKit
attribute [local go_sem ↓] Go.wp_at_zero Go.wp_at_succ

set_option maxRecDepth 100000 in
set_option maxHeartbeats 16000000 in
theorem bagKept_walk (tw : Int) (va : Option Addr) (vc : Nat) (l : List Int) (tm : Int) (w : World) (hv : Rd w (.slice va l.length vc) l.length (bys l)) (hl : l.length ≤ 140737488351232) :
    Calls Try.prog 6 #[.int .i64 tw, .slice va l.length vc, .int .i64 tm] w fun e w' => e = .returned (.bool true) ∧ Below w.heap.size w w' := by
  have HV := hid hv
  obtain ⟨nn, hnn⟩ : ∃ nn : Nat, tm % 4 = (nn : Int) := ⟨(tm % 4).toNat, by have := Int.emod_nonneg tm (show (4 : Int) ≠ 0 by omega); omega⟩
  have hn4 : nn < 4 := by have := Int.emod_lt_of_pos tm (show (0 : Int) < 4 by omega); omega
  have HNN := hid hnn
  clear hv hnn
  go_enter Try.func6, Try.ntmps6
  go_wp2_with fail
  refine (bag_new_yes _ 64 (by omega) (by omega)).mono ?_; rintro e w1 ⟨rfl, hbag1, hb1⟩
  have HG1 := hid hbag1
  have HB1 := hid hb1
  clear hbag1 hb1
  go_wp2_with fail
  refine (lend_any _ l _ (HV.out.below HB1.out) hl).mono ?_; rintro e w2 ⟨g, c, rfl, ho2, hb2⟩
  have HO2 := hid ho2
  have HB2 := hid (HB1.out.trans (hb2.mono HB1.out.size))
  have HG2 := hid (HG1.out.below hb2)
  have HRL := hid (show Rd w2 (.slice (some ⟨g, 0, none⟩) l.length c) l.length (bys l) by
    have h1 := own_prefix (m := l.length) ho2 (by omega)
    rw [Nat.mul_one, bys_take, List.take_left] at h1
    exact Rd.own h1)
  have HGL := hid (show w.heap.size < g from Nat.lt_of_lt_of_le (blk_lt HG1.out.hp) (own_lt ho2 rfl).1)
  clear ho2 hb2
  go_wp2_with fail
  refine (bag_post_ok _ _ _ 64 none 0 [] tw _ l HG2.out (by simp) (by omega) HRL.out hl HB2.out.size).mono ?_; rintro e w3 ⟨rfl, a3, c3, x, hx1, hx2, hbag3, hown3, hat3, hchg3⟩
  simp only [List.nil_append] at hbag3
  have HG3 := hid hbag3
  have HB3 := hid (HB2.out.trans (hchg3.toBelow HB2.out.size (fun i hi hf => by rcases hf with rfl | hf; omega; cases hf)))
  have HO3 := hid (ownsRow_chg HO2.out fun k hk hl => hchg3.block k hl (by
    simp only [ownBlock_slice, Option.map_some, Option.some.injEq] at hk
    subst hk
    rintro (h1 | h1)
    · have := HGL.out; omega
    · cases h1))
  have HAL := hid (show Alike tw l [x] from fun y hy => by obtain rfl := List.mem_singleton.1 hy; exact ⟨hx1, hx2⟩)
  have HNG := hid (show ∀ k, BagIn w.heap.size a3 [x] k → k ≠ g by
    rintro k hk rfl
    rcases hk with h1 | h1 | ⟨y, hy, h1⟩
    · have := HGL.out; omega
    · exact own_ne2 HG3.out.row HO3.out (by decide) _ (by rw [ownBlock_slice]; exact h1) rfl
    · obtain rfl := List.mem_singleton.1 hy
      have h2 := (own_lt hown3 h1).1
      have h3 := (own_lt HO2.out (k := k) rfl).2
      omega)
  have HN0 := hid (show Nd [x] from List.pairwise_singleton _ _)
  clear hbag3 hown3 hat3 hchg3 hx1 hx2
  go_wp2_with fail
  refine (back_any _ _ l _ (HV.out.below HB3.out) (Rd.own HO3.out) hl).mono ?_; rintro e w4 ⟨rfl, q4, rfl⟩
  have HG4 := hid (HG3.out.below (below_drewN (Below.refl _ _) q4))
  have HB4 := hid (below_drewN HB3.out q4)
  have HO4 := hid (own_drewN HO3.out q4)
  go_wp2_with fail
  go_loopw [11] (fun v11 wr => ∃ (i : Nat) (M : List Int), i ≤ l.length + 70 ∧ v11 = .int .i64 i ∧ Hid (M.length = l.length + 70) ∧ Hid (wr.ownsRow w1.heap.size 5 1 (.slice (some ⟨g, 0, none⟩) (l.length + 70) c) (l.length + 70) (bys M)) ∧ Hid (BagAt 62 wr w.heap.size w.heap.size 64 a3 c3 [x]) ∧ Hid (Below w.heap.size w wr)) (fun v11 _ => l.length + 70 - (intOf v11).toNat)
  case atStart => exact ⟨0, _, Nat.zero_le _, rfl, hid (by rw [List.length_append, mks_len]), HO4, HG4, HB4⟩
  case round =>
    obtain ⟨i, M, hi, rfl, HML, HO, HG, HB⟩ := hrel
    by_cases hlt : i < l.length + 70
    · have hi0 : (0 : Int) ≤ (i : Int) := by omega
      have hi1 : (i : Int) < (l.length : Int) + 70 := by omega
      obtain ⟨y, hy⟩ : ∃ y, M[i]? = some y := ⟨_, List.getElem?_eq_getElem (by have := HML.out; omega)⟩
      have c1 := byte_at (Rd.own HO.out) hy
      obtain ⟨cur, hcur⟩ := own_type HO.out rfl
      have hfz := fun i => blk_free hcur i
      clear hcur hy
      go_wp2
      have hc := fun u => (Chg.refl (fun k => k = g) wr).setCell ⟨g, i, none⟩ u (.inl rfl)
      exact ⟨⟨i + 1, _, by omega, by go_num, hid (by rw [List.length_set]; exact HML.out), hid (own_byte i _ HO.out), hid (HG.out.away (hc _) HNG.out), hid (HB.out.trans ((hc _).toBelow HB.out.size (fun k hk e => by have := HGL.out; omega)))⟩, by simp [intOf]; omega⟩
    · go_wp2_with fail
      refine (place_pos tm 4 _ (by omega) (by omega)).mono ?_; rintro e wx ⟨rfl, rfl⟩
      rw [HNN.out]
      go_wp2_with fail
      go_loopw [13] (fun v13 wr => ∃ (i : Nat) (L : List Lt) (a : Option Addr) (c : Nat), i ≤ nn ∧ v13 = .int .i64 i ∧ Hid (L.length = i + 1) ∧ Hid (Alike tw l L) ∧ Hid (Nd L) ∧ Hid (BagAt 62 wr w.heap.size w.heap.size 64 a c L) ∧ Hid (Below w.heap.size w wr)) (fun v13 _ => nn - (intOf v13).toNat)
      case atStart => exact ⟨0, [x], a3, c3, Nat.zero_le _, rfl, hid rfl, HAL, HN0, HG, HB⟩
      case round =>
        obtain ⟨i, L, a, c', hi, rfl, HLL, HAL, HND, HG, HB⟩ := hrel
        obtain ⟨wo, hwo⟩ : ∃ wo, wo = wr := ⟨_, rfl⟩
        subst hwo
        by_cases hlt : i < nn
        · have hi0 : (0 : Int) ≤ (i : Int) := by omega
          have hi1 : (i : Int) < (nn : Int) := by omega
          obtain ⟨y, hy⟩ : ∃ y, L[(i : Int).toNat]? = some y := ⟨_, List.getElem?_eq_getElem (by have := HLL.out; omega)⟩
          have HY := hid hy
          have HYA := hid (HAL.out y (List.mem_of_getElem? hy))
          clear hy
          go_wp2_with fail
          refine (bag_double_in _ _ _ 64 a c' L (i : Int) y HG.out hi0 HY.out (by have := HLL.out; omega) (by omega) HB.out.size (by rw [HYA.out.2]; exact hl)).mono ?_
          rintro e w5 ⟨rfl, a5, c5, x5, hx1, hx2, hbag5, hown5, hat5, hchg5⟩
          have HG5 := hid hbag5
          have HB5 := hid (HB.out.trans (hchg5.toBelow HB.out.size (fun k hk => HG.out.low k hk)))
          have HA5 := hid (HAL.out.snoc (hx1.trans HYA.out.1) (hx2.trans HYA.out.2))
          have HN5 := hid (HND.out.snoc (n := wo.heap.size) (fun z hz k hk => (own_lt (HG.out.each z hz) hk).2) (fun k hk => (own_lt hown5 hk).1))
          clear hbag5 hown5 hat5 hchg5 hx1 hx2
          go_wp2
          exact ⟨⟨i + 1, _, a5, c5, by omega, by go_num, hid (by rw [List.length_append, HLL.out]; rfl), HA5, HN5, HG5, HB5⟩, by simp [intOf]; omega⟩
        · have hin : i = nn := by omega
          subst hin
          go_wp2_with fail
          refine (bag_letters_any _ _ _ 64 a c' L HG.out (by have := HLL.out; omega) (fun z hz => by rw [(HAL.out z hz).2]; exact hl)).mono ?_; rintro e w6 ⟨a6, c6, M6, rfl, hcm6, hlets6, hb6⟩
          have HM6 := hid (show M6.length = i + 1 by rw [cons_len hcm6]; exact HLL.out)
          have HL6 := hid hlets6
          have HG6 := hid (HG.out.below hb6)
          have HB6 := hid (HB.out.trans (hb6.mono HB.out.size))
          have HIN := hid (fun k hk => (HG.out.lt k hk).2)
          have HWS := hid (show w.heap.size ≤ wo.heap.size from HB.out.size)
          rw [HM6.out]
          clear hcm6 hlets6 hb6
          go_wp2_with fail
          go_loopw [15] (fun v15 wr => ∃ (k : Nat) (M : List Lt), k ≤ i + 1 ∧ v15 = .int .i64 k ∧ Hid (M.length = i + 1) ∧ Hid (LetsAt wr wo.heap.size a6 c6 M) ∧ Hid (BagAt 62 wr w.heap.size w.heap.size 64 a c' L) ∧ Hid (Below w.heap.size w wr)) (fun v15 _ => i + 1 - (intOf v15).toNat)
          case atStart => exact ⟨0, _, by omega, rfl, HM6, HL6, HG6, HB6⟩
          case round =>
            obtain ⟨k, M, hk, rfl, HMN, HLT, HG, HB⟩ := hrel
            obtain ⟨wk, hwk⟩ : ∃ wk, wk = wr := ⟨_, rfl⟩
            subst hwk
            by_cases hlt : k < i + 1
            · obtain ⟨ga, haa, hga1, hga2, hga3, hga4⟩ := own_loc HLT.out.row (by have := HMN.out; omega)
              subst haa
              obtain ⟨x6, hx⟩ : ∃ x, M[k]? = some x := ⟨_, List.getElem?_eq_getElem (by have := HMN.out; omega)⟩
              have HX := hid hx
              have hk0 : (0 : Int) ≤ (k : Int) := by omega
              have hk1 : (k : Int) < (i : Int) + 1 := by omega
              obtain ⟨m, hm⟩ : ∃ m, m = x6.bs.length := ⟨_, rfl⟩
              have HM' := hid hm
              have HGA := hid hga1
              clear hx hga1 hga2 hga3 hga4 hm
              go_wp2_with fail
              go_loopw [16] (fun v16 wr => ∃ (j : Nat) (M : List Lt), j ≤ m ∧ v16 = .int .i64 j ∧ Hid (M.length = i + 1) ∧ Hid (LetsAt wr wo.heap.size (some ⟨ga, 0, none⟩) c6 M) ∧ Hid (∃ x : Lt, M[k]? = some x ∧ x.bs.length = m) ∧ Hid (BagAt 62 wr w.heap.size w.heap.size 64 a c' L) ∧ Hid (Below w.heap.size w wr)) (fun v16 _ => m - (intOf v16).toNat)
              case atStart => exact ⟨0, _, by omega, rfl, HMN, HLT, hid ⟨_, HX.out, HM'.out.symm⟩, HG, HB⟩
              case round =>
                obtain ⟨j, M, hj, rfl, HMN, HLT, HXE, HG, HB⟩ := hrel
                obtain ⟨wj, hwj⟩ : ∃ wj, wj = wr := ⟨_, rfl⟩
                subst hwj
                obtain ⟨x6, hx, hxm⟩ := HXE.out
                have c0 := HLT.out.at hx
                rw [hxm] at c0
                have HX := hid hx
                have HXM := hid hxm
                by_cases hlt : j < m
                · have hme := List.mem_of_getElem? hx
                  obtain ⟨gk, hxa, hb1, hb2, hb3, hb4⟩ := own_loc (a := x6.a) (m := x6.bs.length) (c := x6.c) (HLT.out.each x6 hme) (by omega)
                  have hj0 : (0 : Int) ≤ (j : Int) := by omega
                  have hj1 : (j : Int) < (m : Int) := by omega
                  have hm9 : m ≤ 9223372036854775807 := by unfold maxLen at hb4; omega
                  rw [hxa] at c0
                  have HOB := hid (show x6.v.ownBlock = some gk by unfold Lt.v; rw [hxa]; rfl)
                  obtain ⟨cur, hcur⟩ := own_type (HLT.out.each x6 hme) HOB.out
                  have hfz := fun i => blk_free hcur i
                  have HME := hid hme
                  have HGK := hid hb1
                  obtain ⟨y, hy⟩ : ∃ y, x6.bs[j]? = some y := ⟨_, List.getElem?_eq_getElem (by omega)⟩
                  have ce := HLT.out.each x6 hme
                  unfold Lt.v at ce
                  rw [hxa] at ce
                  have c5 := byte_at (Rd.own ce) hy
                  have hw60 : IntKind.i64.wrap ((k : Int) + 60) = (k : Int) + 60 := IntWalk.i64_in _ (by omega)
                  have hw61 : IntKind.u8.wrap ((k : Int) + 60) = (k : Int) + 60 := IntWalk.u8_in _ (by omega)
                  clear hy ce hcur hx hme hxa hb1 hb2 hb3 hb4 hxm
                  go_wp2
                  have hc := fun u => (Chg.refl (fun k => k = gk) wj).setCell ⟨gk, j, none⟩ u (.inl rfl)
                  have HGW := hid (show ∀ q, BagIn w.heap.size a L q → ¬ q = gk from fun q hq e => by have := HIN.out q hq; have := HGK.out; omega)
                  have HWG := hid (show w.heap.size ≤ gk by have := HWS.out; have := HGK.out; omega)
                  exact ⟨⟨j + 1, _, by omega, by go_num, hid (by rw [wrL_len]; exact HMN.out), hid (HLT.out.byte (j := j) _ HME.out HOB.out), hid ⟨_, wrL_at HX.out HOB.out, by simp [HXM.out]⟩, hid (HG.out.away (hc _) HGW.out), hid (HB.out.trans ((hc _).toBelow HB.out.size (fun q hq e => by have := HWG.out; omega)))⟩, by simp [intOf]; omega⟩
                · have hjm : j = m := by omega
                  subst hjm
                  obtain ⟨cur, hcur⟩ := own_type HLT.out.row rfl
                  have hfz := fun i => blk_free hcur i
                  clear hcur hx hxm
                  go_wp2
                  obtain ⟨x2, hx2⟩ : ∃ x2 : Lt, x2 = { x6 with tw := -5 } := ⟨_, rfl⟩
                  have HT2 := hid (show LetsAt (wj.setCell ⟨ga, k * 2 + 0, none⟩ (.int .i64 (-5))) wo.heap.size (some ⟨ga, 0, none⟩) c6 (M.set k x2) from HLT.out.put HX.out (by decide) (by rw [hx2]; rfl) (by rw [hx2]; rfl) (by rw [hx2]))
                  have hc := (Chg.refl (fun k => k = ga) wj).setCell ⟨ga, k * 2 + 0, none⟩ (.int .i64 (-5)) (.inl rfl)
                  have HGW := hid (show ∀ q, BagIn w.heap.size a L q → ¬ q = ga from fun q hq e => by have := HIN.out q hq; have := HGA.out; omega)
                  have HWG := hid (show w.heap.size ≤ ga by have := HWS.out; have := HGA.out; omega)
                  exact ⟨⟨k + 1, _, by omega, by go_num, hid (by rw [List.length_set]; exact HMN.out), HT2, hid (HG.out.away hc HGW.out), hid (HB.out.trans (hc.toBelow HB.out.size (fun q hq e => by have := HWG.out; omega)))⟩, by simp [intOf]; omega⟩
            · obtain ⟨y, L', hLe⟩ : ∃ y L', L = y :: L' := by
                cases L with
                | nil => have := HLL.out; simp at this
                | cons y L' => exact ⟨y, L', rfl⟩
              subst hLe
              have HYA := hid (HAL.out y (List.mem_cons_self ..))
              have HAL' := hid (show Alike tw l L' from fun z hz => HAL.out z (List.mem_cons_of_mem _ hz))
              have HND' := hid (List.pairwise_cons.1 HND.out).1
              have HLL' := hid (show L'.length = i by have := HLL.out; simp at this; exact this)
              go_wp2_with fail
              refine (bag_take_in _ _ _ 64 a c' (y :: L') 0 y HG.out (by omega) rfl HB.out.size).mono ?_; rintro e w7 ⟨rfl, hbag7, hchg7⟩
              have HOY := hid (ownsRow_chg (HG.out.each y (List.mem_cons_self ..)) fun k hk hl => hchg7.block k hl (HG.out.notF (by decide) (HG.out.each y (List.mem_cons_self ..)) hk))
              have HB7 := hid (HB.out.trans (hchg7.toBelow HB.out.size (fun k hk => HG.out.low k hk)))
              have hbx := heap_new w7 (.cells #[.int .i64 tw, .slice y.a l.length y.c] 35)
              have HBX := hid hbx
              have bx := blk2 hbx
              have HOY2 := hid (own_alloc HOY.out (.cells #[.int .i64 tw, .slice y.a l.length y.c] 35))
              have HB8 := hid (HB7.out.alloc HB7.out.size (.cells #[.int .i64 tw, .slice y.a l.length y.c] 35))
              have HG8 := hid (show BagAt 62 (w7.alloc (.cells #[.int .i64 tw, .slice y.a l.length y.c] 35)) w.heap.size w.heap.size 64 a c' L' from (show BagAt 62 w7 w.heap.size w.heap.size 64 a c' L' from hbag7).below (bl1 w7 _))
              have HYN := hid (show ∀ k, y.v.ownBlock = some k → ∀ q, BagIn w.heap.size a L' q → ¬ q = k from fun k hk q hq e => by
                subst e
                rcases hq with h1 | h1 | ⟨z, hz, h1⟩
                · subst h1; exact own_ne HOY.out hbag7.hp (by decide) hk
                · exact own_ne2 HOY.out hbag7.row (by decide) _ hk (by rw [ownBlock_slice]; exact h1)
                · exact HND'.out z hz _ hk h1)
              have HYW := hid (show ∀ k, y.v.ownBlock = some k → w.heap.size ≤ k from fun k hk => (own_lt HOY.out hk).1)
              rw [HYA.out.1, HYA.out.2]
              clear hbag7 hchg7 hbx
              go_wp2_with fail
              refine (sameBytes_any (.slice y.a l.length y.c) _ l l _ (by have h1 := Rd.own HOY2.out; unfold Lt.v at h1; rw [HYA.out.2] at h1; exact h1) (HV.out.below HB8.out)).mono ?_; rintro e w9 ⟨rfl, q9, rfl⟩
              rw [show decide (l = l) = true from decide_eq_true rfl]
              have HBX9 := hid (show ((w7.alloc (.cells #[.int .i64 tw, .slice y.a l.length y.c] 35)).drewN q9).heap[w7.heap.size]? = some (.cells #[.int .i64 tw, .slice y.a l.length y.c] 35 (0, 0)) from HBX.out)
              have HOY9 := hid (show ((w7.alloc (.cells #[.int .i64 tw, .slice y.a l.length y.c] 35)).drewN q9).ownsRow w.heap.size 5 1 (.slice y.a l.length y.c) l.length (bys l) by
                have h1 := own_drewN HOY2.out q9; unfold Lt.v at h1; rw [HYA.out.2] at h1; exact h1)
              have HG9 := hid (HG8.out.below (below_drewN (Below.refl _ _) q9))
              have HB9 := hid (below_drewN HB8.out q9)
              have HYV := hid (show ∀ k, (Value.slice y.a l.length y.c).ownBlock = some k → (∀ q, BagIn w.heap.size a L' q → ¬ q = k) ∧ w.heap.size ≤ k from fun k hk => by
                have h1 : y.v.ownBlock = some k := by unfold Lt.v; rw [HYA.out.2]; exact hk
                exact ⟨HYN.out k h1, HYW.out k h1⟩)
              have hl9 : l.length ≤ 9223372036854775807 := by omega
              clear bx
              go_wp2_with fail
              go_loopw [19] (fun v19 wr => ∃ (j : Nat) (bs : List Int), j ≤ l.length ∧ v19 = .int .i64 j ∧ Hid (bs.length = l.length) ∧ Hid (wr.ownsRow w.heap.size 5 1 (.slice y.a l.length y.c) l.length (bys bs)) ∧ Hid (wr.heap[w7.heap.size]? = some (.cells #[.int .i64 tw, .slice y.a l.length y.c] 35 (0, 0))) ∧ Hid (BagAt 62 wr w.heap.size w.heap.size 64 a c' L') ∧ Hid (Below w.heap.size w wr)) (fun v19 _ => l.length - (intOf v19).toNat)
              case atStart => exact ⟨0, l, Nat.zero_le _, rfl, hid rfl, HOY9, HBX9, HG9, HB9⟩
              case round =>
                obtain ⟨j, bs, hj, rfl, HBL, HO, HBX, HG, HB⟩ := hrel
                obtain ⟨wj, hwj⟩ : ∃ wj, wj = wr := ⟨_, rfl⟩
                subst hwj
                have bx := blk2 HBX.out
                by_cases hlt : j < l.length
                · obtain ⟨gy, hya, hb1, hb2, hb3, hb4⟩ := own_loc HO.out (by omega)
                  have hj0 : (0 : Int) ≤ (j : Int) := by omega
                  have hj1 : (j : Int) < (l.length : Int) := by omega
                  have HYB := hid (HYV.out gy (by rw [hya]; rfl))
                  have HO' := hid (show wj.ownsRow w.heap.size 5 1 (.slice (some ⟨gy, 0, none⟩) l.length y.c) l.length (bys bs) by rw [← hya]; exact HO.out)
                  have HBN := hid (show w7.heap.size ≠ gy from fun e => own_ne HO'.out HBX.out (by decide) (by rw [e]; rfl))
                  rw [hya] at bx
                  obtain ⟨z, hz⟩ : ∃ z, bs[j]? = some z := ⟨_, List.getElem?_eq_getElem (by have := HBL.out; omega)⟩
                  have c1 := byte_at (Rd.own HO'.out) hz
                  obtain ⟨cur, hcur⟩ := own_type HO'.out rfl
                  have hfz := fun i => blk_free hcur i
                  have HYA' := hid hya
                  clear hcur hz hb1 hb2 hb3 hb4 hya
                  go_wp2_with fail
                  go_region
                  all_goals
                    go_wp2
                    have hc := fun u => ((Chg.refl (fun k => k = gy) wj).setCell ⟨gy, j, none⟩ u (.inl rfl)).drew
                    exact ⟨⟨j + 1, bs.set j (IntKind.u8.wrap (z + 5)), by omega, by go_num, hid (by rw [List.length_set]; exact HBL.out), hid (by rw [HYA'.out]; exact own_drew (own_byte j _ HO'.out)), hid (show (World.drew _).heap[_]? = _ from heap_set_ne HBX.out _ _ HBN.out), hid (HG.out.away (hc _) HYB.out.1), hid (HB.out.trans ((hc _).toBelow HB.out.size (fun q hq e => by have := HYB.out.2; omega)))⟩, by simp [intOf]; omega⟩
                · go_wp2_with fail
                  refine (bag_letters_any _ _ _ 64 a c' L' HG.out (by have := HLL'.out; omega) (fun z hz => by rw [(HAL'.out z hz).2]; exact hl)).mono ?_; rintro e w10 ⟨a10, c10, M10, rfl, hcm10, hlets10, hb10⟩
                  have HM10 := hid (show M10.length = i by rw [cons_len hcm10]; exact HLL'.out)
                  have HL10 := hid hlets10
                  have HA10 := hid (HAL'.out.cons hcm10)
                  have HB10 := hid (HB.out.trans (hb10.mono HB.out.size))
                  rw [HM10.out]
                  clear hcm10 hlets10 hb10 bx
                  go_wp2_with fail
                  go_loopw [21] (fun v21 wr => ∃ k : Nat, k ≤ i ∧ v21 = .int .i64 k ∧ Hid (Dr w10 wr)) (fun v21 _ => i - (intOf v21).toNat)
                  case atStart => exact ⟨0, Nat.zero_le _, rfl, hid (Dr.refl _)⟩
                  case round =>
                    obtain ⟨k, hk, rfl, HDR⟩ := hrel
                    by_cases hlt : k < i
                    · obtain ⟨g10, haa⟩ := HL10.out.loc (by have := HM10.out; omega)
                      subst haa
                      obtain ⟨x, hx⟩ : ∃ x, M10[k]? = some x := ⟨_, List.getElem?_eq_getElem (by have := HM10.out; omega)⟩
                      have hxa := HA10.out x (List.mem_of_getElem? hx)
                      have HRX := hid (show Rd w10 (.slice x.a l.length x.c) l.length (bys l) by have h1 := Rd.own (HL10.out.each x (List.mem_of_getElem? hx)); unfold Lt.v at h1; rw [hxa.2] at h1; exact h1)
                      have c1 := (HL10.out.below (HDR.out.below _)).at hx
                      rw [hxa.1, hxa.2] at c1
                      have hk0 : (0 : Int) ≤ (k : Int) := by omega
                      have hk1 : (k : Int) < (i : Int) := by omega
                      clear hx hxa
                      go_wp2_with fail
                      refine (sameBytes_any (.slice x.a l.length x.c) _ l l _ (HDR.out.rd HRX.out) (HDR.out.rd (HV.out.below HB10.out))).mono ?_; rintro e w12 ⟨rfl, q12, rfl⟩
                      rw [show decide (l = l) = true from decide_eq_true rfl]
                      clear c1
                      go_wp2
                      exact ⟨⟨k + 1, by omega, by go_num, hid (HDR.out.drewN _)⟩, by simp [intOf]; omega⟩
                    · have HBZ := hid (HB10.out.trans (HDR.out.below _))
                      have hii : ((i : Int) == (i : Int)) = true := by simp
                      go_wp2_with fail
                      refine (bag_awake _).mono ?_; rintro e w13 ⟨rfl, hb13⟩
                      have HBE := hid (HBZ.out.trans (hb13.mono HBZ.out.size))
                      clear hb13
                      go_wp2
                      go_ret
                      exact ⟨rfl, HBE.out⟩

end Go.Proofs.Ytdolaiejkobaiaa
