import Derived.Test.YtmhogjecfgbchaaDentK
import Derived.Test.YtmhogjecfgbchaaLibP
namespace Go.Proofs.Ytmhogjecfgbchaa
set_option linter.unusedVariables false
set_option linter.unusedSimpArgs false
open Go.RowKit
attribute [local go_sem ↓] Go.wp_at_zero Go.wp_at_succ

theorem blk10 {w : World} {k t : Nat} {x0 x1 x2 x3 x4 x5 x6 x7 x8 x9 : Value} (h : w.heap[k]? = some (.cells #[x0, x1, x2, x3, x4, x5, x6, x7, x8, x9] t (0, 0))) :
    w.cell? ⟨k, 0, none⟩ = some x0 ∧ w.cell? ⟨k, 1, none⟩ = some x1 ∧ w.cell? ⟨k, 2, none⟩ = some x2 ∧ w.cell? ⟨k, 3, none⟩ = some x3 ∧ w.cell? ⟨k, 4, none⟩ = some x4 ∧ w.cell? ⟨k, 5, none⟩ = some x5 ∧ w.cell? ⟨k, 6, none⟩ = some x6 ∧ w.cell? ⟨k, 7, none⟩ = some x7 ∧ w.cell? ⟨k, 8, none⟩ = some x8 ∧ w.cell? ⟨k, 9, none⟩ = some x9 ∧ w.frozen? ⟨k, 0, none⟩ = false ∧ w.frozen? ⟨k, 1, none⟩ = false ∧ w.frozen? ⟨k, 2, none⟩ = false ∧ w.frozen? ⟨k, 3, none⟩ = false ∧ w.frozen? ⟨k, 4, none⟩ = false ∧ w.frozen? ⟨k, 5, none⟩ = false ∧ w.frozen? ⟨k, 6, none⟩ = false ∧ w.frozen? ⟨k, 7, none⟩ = false ∧ w.frozen? ⟨k, 8, none⟩ = false ∧ w.frozen? ⟨k, 9, none⟩ = false := by
  simp [World.cell?, World.frozen?, h]

theorem box_keep {w w' : World} {B p k : Nat} {o : Obj} (hg : Chg (CF B p) w w') (hk : p < k) (h : w.heap[k]? = some o) : w'.heap[k]? = some o := heap_chg hg h (fun e => by have := e.2; omega)
theorem CF.low {B p : Nat} : ∀ i, i < B → ¬ CF B p i := fun i hi h => by have := h.1; omega

set_option maxRecDepth 100000 in
set_option maxHeartbeats 4000000 in
theorem dentWhole_walk (sa : Option Addr) (sc : Nat) (S : List Dop) (dir : Int) (w : World) (hS : ScrD w (.slice sa S.length sc) S) (hz : S.length * 112 ≤ 140737488351232) (hkz : ∀ x ∈ S, x.ks.length * 24 ≤ 140737488351232) :
    Calls Try.prog 3 #[.slice sa S.length sc, .int .i64 dir] w fun e w' => e = .returned (.bool true) ∧ Below w.heap.size w w' := by
  have HS := hid hS
  have HZ := hid hkz
  have hn : S.length ≤ 9223372036854775807 := by omega
  clear hS hkz
  go_enter Try.func3, Try.ntmps3
  go_wp2_with (go_at_call 19; refine (c_new _).mono ?_; rintro e w1 ⟨rfl, hc1, hb1⟩)
  go_loopw [6, 7] (fun v6 v7 wr => ∃ (k : Nat) (L : List En) (wh : Int → Bool), k ≤ S.length ∧ v6 = .bool (wh dir) ∧ v7 = .int .i64 k ∧ Hid (CAt wr w.heap.size (w.heap.size + 2) k L wh) ∧ Hid (Below w.heap.size w wr)) (fun _ v7 _ => S.length - (intOf v7).toNat)
  case atStart => exact ⟨0, [], fun _ => false, Nat.zero_le _, rfl, rfl, hid hc1, hid hb1⟩
  case round =>
    obtain ⟨k, L, wh, hk, rfl, rfl, HC, HB⟩ := hrel
    by_cases hlt : k < S.length
    · obtain ⟨x, hx⟩ : ∃ x, S[k]? = some x := ⟨_, List.getElem?_eq_getElem hlt⟩
      obtain ⟨b, off, rfl⟩ := HS.out.loc (by omega)
      have CE := scrD_at HS.out HB.out hx
      have hkl := HZ.out x (List.mem_of_getElem? hx)
      have hkr := HS.out.each x (List.mem_of_getElem? hx)
      have HKR := hid hkr
      have HX := hid hx
      have hk0 : (0 : Int) ≤ (k : Int) := by omega
      have hk1 : (k : Int) < (S.length : Int) := by omega
      have h4 : x.kind % 6 = 0 ∨ x.kind % 6 = 1 ∨ x.kind % 6 = 2 ∨ x.kind % 6 = 3 ∨ x.kind % 6 = 4 ∨ x.kind % 6 = 5 := by omega
      have HQ := hid h4
      clear hx hkr h4
      go_upto_block 2 with (first
        | (go_at_call 20; refine (place_pos _ 6 _ (by omega) (by omega)).mono ?_; rintro e wx ⟨rfl, rfl⟩))
      go_cut [6] (fun v6 wx => ∃ (L : List En) (wh : Int → Bool), v6 = .bool (wh dir) ∧ Hid (CAt wx w.heap.size (w.heap.size + 2) (k + 1) L wh) ∧ Hid (Below w.heap.size w wx))
      case first =>
        have hbox := heap_new wr (.cells #[.int .i64 x.kind, .int .i64 x.dir, .int .i64 x.e.key.dir, .string x.e.key.name, .bool x.e.neg, .int .i64 x.e.node.id, .int .i64 x.e.node.kind, .int .i64 x.e.node.mode, .string x.e.node.target, .slice x.a x.ks.length x.c] 33)
        have BX := blk10 hbox
        have KX := hid hbox
        have HC1 := hid (HC.out.below (bl1 wr (.cells #[.int .i64 x.kind, .int .i64 x.dir, .int .i64 x.e.key.dir, .string x.e.key.name, .bool x.e.neg, .int .i64 x.e.node.id, .int .i64 x.e.node.kind, .int .i64 x.e.node.mode, .string x.e.node.target, .slice x.a x.ks.length x.c] 33)))
        have HB1 := hid (HB.out.trans ((bl1 wr (.cells #[.int .i64 x.kind, .int .i64 x.dir, .int .i64 x.e.key.dir, .string x.e.key.name, .bool x.e.neg, .int .i64 x.e.node.id, .int .i64 x.e.node.kind, .int .i64 x.e.node.mode, .string x.e.node.target, .slice x.a x.ks.length x.c] 33)).mono HB.out.size))
        have hplt := HC.out.lt
        have hsz := HB.out.size
        clear hbox CE
        rcases HQ.out with hq | hq | hq | hq | hq | hq
        ·
            have ht0 : (x.kind % 6 == 0) = true := by simp [hq]
            clear hq
            go_wp2_with fail
            refine (c_put _ w.heap.size (w.heap.size + 2) k L wh x.e HC1.out (by omega)).mono ?_
            rintro e w2 ⟨rfl, hc2, hg2⟩
            generalize (if x.e.key.name = ByteArray.empty then (1 : Int) else 0) = r0
            have HC2 := hid hc2
            have HG2 := hid hg2
            clear hc2 hg2
            go_wp2_with fail
            go_meet
            case rel => exact ⟨_, wh, rfl, hid HC2.out, hid (HB1.out.trans (HG2.out.toBelow HB1.out.size CF.low))⟩
        ·
            have ht0 : (x.kind % 6 == 0) = false := by simp [hq]
            have ht1 : (x.kind % 6 == 1) = true := by simp [hq]
            clear hq
            go_wp2_with fail
            refine (c_use _ w.heap.size (w.heap.size + 2) k L wh x.e.key HC1.out (by omega)).mono ?_
            rintro e w2 ⟨rfl, hc2, hg2⟩
            have HC2 := hid hc2
            have HG2 := hid hg2
            clear hc2 hg2
            go_wp2_with fail
            go_meet
            case rel => exact ⟨_, wh, rfl, hid HC2.out, hid (HB1.out.trans (HG2.out.toBelow HB1.out.size CF.low))⟩
        ·
            have ht0 : (x.kind % 6 == 0) = false := by simp [hq]
            have ht1 : (x.kind % 6 == 1) = false := by simp [hq]
            have ht2 : (x.kind % 6 == 2) = true := by simp [hq]
            clear hq
            go_wp2_with fail
            refine (copyKeys_any _ x.ks _ (HKR.out.below ((Below.refl _ _).trans HB1.out)) hkl).mono ?_
            rintro e w2 ⟨a2, c2, rfl, hown2, hb2⟩
            have HC2 := hid (HC1.out.below hb2)
            have kx2 := heap_below hb2 KX.out (blk_lt KX.out)
            have KX2 := hid kx2
            have HOW := hid hown2
            have HB2 := hid (HB1.out.trans (hb2.mono HB1.out.size))
            clear kx2 hown2 BX
            go_wp2_with fail
            refine (c_cut _ w.heap.size (w.heap.size + 2) k L wh x.ks a2 c2 _ HC2.out HOW.out (by simp; omega) (by omega)).mono ?_
            rintro e w3 ⟨rfl, hc3, hg3⟩
            have kx3 := box_keep hg3 hplt KX2.out
            have BX3 := blk10 kx3
            have HC3 := hid hc3
            have HB3 := hid (HB2.out.trans (hg3.toBelow HB2.out.size CF.low))
            clear kx3 hc3 hg3
            go_wp2_with fail
            go_loopw [6, 9] (fun v6 v9 wi => ∃ (j : Nat), j ≤ x.ks.length ∧ v6 = .bool (cutWh (x.ks.take j) wh dir) ∧ v9 = .int .i64 j ∧ wi = w3) (fun _ v9 _ => x.ks.length - (intOf v9).toNat)
            case atStart => exact ⟨0, Nat.zero_le _, by simp [cutWh], rfl, rfl⟩
            case round =>
              obtain ⟨j, hj, rfl, rfl, rfl⟩ := hrel
              by_cases hlt2 : j < x.ks.length
              · have hj0 : (0 : Int) ≤ (j : Int) := by omega
                have hj1 : (j : Int) < (x.ks.length : Int) := by omega
                have hkk1 : x.ks.length ≤ 9223372036854775807 := by omega
                obtain ⟨y, hy⟩ : ∃ y, x.ks[j]? = some y := ⟨_, List.getElem?_eq_getElem hlt2⟩
                obtain ⟨g, o2, hg⟩ := ks_loc (sa := x.a) HKR.out (by omega)
                have hkr2 := HKR.out
                unfold Dop.kv at hkr2
                rw [hg] at hkr2 BX3
                have P2 := ks_at hkr2 ((Below.refl _ _).trans HB3.out) hy
                have hstep : cutWh (x.ks.take (j + 1)) wh dir = (cutWh (x.ks.take j) wh dir && !(y.dir == dir)) := by
                  rw [List.take_add_one, hy]; simp [cutWh, Bool.and_assoc]
                have HST := hid hstep
                clear hg hy hkr2 hstep
                cases hcw : cutWh (x.ks.take j) wh dir with
                | true =>
                  rw [hcw] at HST
                  go_wp2
                  exact ⟨⟨j + 1, by omega, by rw [HST.out]; simp [bne], by go_num, trivial⟩, by simp [intOf]; omega⟩
                | false =>
                  rw [hcw] at HST
                  go_wp2
                  exact ⟨⟨j + 1, by omega, by rw [HST.out]; rfl, by go_num, trivial⟩, by simp [intOf]; omega⟩
              · have hjj : x.ks.take j = x.ks := List.take_of_length_le (by omega)
                rw [hjj]
                have hkk1 : x.ks.length ≤ 9223372036854775807 := by omega
                clear hjj
                go_wp2
                go_meet
                case rel => exact ⟨_, _, rfl, hid (HC3.out.le (Nat.le_succ _)), HB3⟩
        ·
            have ht0 : (x.kind % 6 == 0) = false := by simp [hq]
            have ht1 : (x.kind % 6 == 1) = false := by simp [hq]
            have ht2 : (x.kind % 6 == 2) = false := by simp [hq]
            have ht3 : (x.kind % 6 == 3) = true := by simp [hq]
            clear hq
            go_wp2_with fail
            refine (c_clear _ w.heap.size (w.heap.size + 2) k L wh HC1.out).mono ?_
            rintro e w2 ⟨rfl, hc2, hg2⟩
            have HC2 := hid hc2
            have HG2 := hid hg2
            clear hc2 hg2
            go_wp2_with fail
            go_meet
            case rel => exact ⟨_, fun _ => false, rfl, hid (HC2.out.le (Nat.le_succ _)), hid (HB1.out.trans (HG2.out.toBelow HB1.out.size CF.low))⟩
        ·
            have ht0 : (x.kind % 6 == 0) = false := by simp [hq]
            have ht1 : (x.kind % 6 == 1) = false := by simp [hq]
            have ht2 : (x.kind % 6 == 2) = false := by simp [hq]
            have ht3 : (x.kind % 6 == 3) = false := by simp [hq]
            have ht4 : (x.kind % 6 == 4) = true := by simp [hq]
            clear hq
            go_wp2_with fail
            refine (c_get _ w.heap.size (w.heap.size + 2) k L wh x.e.key HC1.out).mono ?_
            rintro e w2 ⟨rfl, hb2⟩
            have hbox2 := heap_new w2 (.cells #[.int .i64 (getE x.e.key L).key.dir, .string (getE x.e.key L).key.name, .bool (getE x.e.key L).neg, .int .i64 (getE x.e.key L).node.id, .int .i64 (getE x.e.key L).node.kind, .int .i64 (getE x.e.key L).node.mode, .string (getE x.e.key L).node.target] 30)
            have HC2 := hid ((HC1.out.below hb2).below (bl1 w2 (.cells #[.int .i64 (getE x.e.key L).key.dir, .string (getE x.e.key L).key.name, .bool (getE x.e.key L).neg, .int .i64 (getE x.e.key L).node.id, .int .i64 (getE x.e.key L).node.kind, .int .i64 (getE x.e.key L).node.mode, .string (getE x.e.key L).node.target] 30)))
            have kx2 := heap_old (heap_below hb2 KX.out (blk_lt KX.out)) (.cells #[.int .i64 (getE x.e.key L).key.dir, .string (getE x.e.key L).key.name, .bool (getE x.e.key L).neg, .int .i64 (getE x.e.key L).node.id, .int .i64 (getE x.e.key L).node.kind, .int .i64 (getE x.e.key L).node.mode, .string (getE x.e.key L).node.target] 30)
            have KX2 := hid kx2
            have KE2 := hid hbox2
            have BX2 := blk10 kx2
            have BE2 := blk7 hbox2
            have HB2 := hid (HB1.out.trans ((hb2.mono HB1.out.size).trans ((bl1 w2 (.cells #[.int .i64 (getE x.e.key L).key.dir, .string (getE x.e.key L).key.name, .bool (getE x.e.key L).neg, .int .i64 (getE x.e.key L).node.id, .int .i64 (getE x.e.key L).node.kind, .int .i64 (getE x.e.key L).node.mode, .string (getE x.e.key L).node.target] 30)).mono (by have := HB1.out.size; have := hb2.size; omega))))
            have hlt2 := HC2.out.lt
            clear kx2 hbox2 BX
            unfold En.v
            go_wp2_with fail
            refine (c_evict _ w.heap.size (w.heap.size + 2) k L wh x.e.key HC2.out).mono ?_
            rintro e w3 ⟨rfl, hc3, hg3⟩
            have hz2 : w.heap.size + 2 < w2.heap.size := by have := hb2.size; simp at this; omega
            have BX3 := blk10 (box_keep hg3 hplt KX2.out)
            have BE3 := blk7 (box_keep hg3 hz2 KE2.out)
            have HC3 := hid hc3
            have HB3 := hid (HB2.out.trans (hg3.toBelow HB2.out.size CF.low))
            clear hc3 hg3 BX2 BE2
            cases hf : findL x.e.key L with
            | none =>
              have HE := hid (show evictWh x.e.key L wh dir = wh dir by simp [evictWh, hf])
              simp only [Option.isSome_none]
              clear hf
              go_wp2_with fail
              go_meet
              case rel => exact ⟨_, _, by rw [HE.out], hid (HC3.out.le (Nat.le_succ _)), HB3⟩
            | some y =>
              have hge : getE x.e.key L = y := by simp [getE, hf]
              simp only [Option.isSome_some]
              simp only [hge] at BE3
              cases hng : y.neg with
              | true =>
                have HE := hid (show evictWh x.e.key L wh dir = wh dir by simp [evictWh, hf, hng])
                rw [hng] at BE3
                clear hf hge
                go_wp2_with fail
                go_meet
                case rel => exact ⟨_, _, by rw [HE.out], hid (HC3.out.le (Nat.le_succ _)), HB3⟩
              | false =>
                rw [hng] at BE3
                by_cases hd : x.e.key.dir = dir
                · have hd' : (x.e.key.dir == dir) = true := by simpa using hd
                  have HE := hid (show evictWh x.e.key L wh dir = false by simp [evictWh, hf, hng, hd])
                  clear hf hge hd
                  go_wp2_with fail
                  go_meet
                  case rel => exact ⟨_, _, by rw [HE.out], hid (HC3.out.le (Nat.le_succ _)), HB3⟩
                · have hd' : (x.e.key.dir == dir) = false := by simpa using hd
                  have HE := hid (show evictWh x.e.key L wh dir = wh dir by simp [evictWh, hd])
                  clear hf hge hd
                  go_wp2_with fail
                  go_meet
                  case rel => exact ⟨_, _, by rw [HE.out], hid (HC3.out.le (Nat.le_succ _)), HB3⟩
        ·
            have ht0 : (x.kind % 6 == 0) = false := by simp [hq]
            have ht1 : (x.kind % 6 == 1) = false := by simp [hq]
            have ht2 : (x.kind % 6 == 2) = false := by simp [hq]
            have ht3 : (x.kind % 6 == 3) = false := by simp [hq]
            have ht4 : (x.kind % 6 == 4) = false := by simp [hq]
            have ht5 : (x.kind % 6 == 5) = true := by simp [hq]
            clear hq
            go_wp2_with fail
            refine (c_setwhole _ w.heap.size (w.heap.size + 2) k L wh x.dir HC1.out).mono ?_
            rintro e w2 ⟨rfl, hc2, hg2⟩
            have BX2 := blk10 (box_keep hg2 hplt KX.out)
            have HC2 := hid hc2
            have HG2 := hid hg2
            clear hc2 hg2 BX
            cases hwd : wh dir with
            | true =>
              have HE := hid (show (wh dir || x.dir == dir) = true by rw [hwd]; rfl)
              clear hwd
              go_wp2_with fail
              go_meet
              case rel => exact ⟨_, _, by rw [HE.out], hid (HC2.out.le (Nat.le_succ _)), hid (HB1.out.trans (HG2.out.toBelow HB1.out.size CF.low))⟩
            | false =>
              have HE := hid (show (wh dir || x.dir == dir) = (x.dir == dir) by rw [hwd]; rfl)
              clear hwd
              go_wp2_with fail
              go_meet
              case rel => exact ⟨_, _, by rw [HE.out], hid (HC2.out.le (Nat.le_succ _)), hid (HB1.out.trans (HG2.out.toBelow HB1.out.size CF.low))⟩
      case rest =>
        obtain ⟨L2, wh2, rfl, HC2, HB2⟩ := hcut
        clear CE
        go_wp2_with (first
          | (go_at_call 29; refine (c_whole _ _ _ _ _ _ dir HC2.out).mono ?_; rintro e w5 ⟨rfl, rfl⟩))
        exact ⟨⟨k + 1, L2, wh2, by omega, rfl, by go_num, HC2, HB2⟩, by simp [intOf]; omega⟩
    · go_wp2_with (go_at_call 30; refine (d_awake _).mono ?_; rintro e w5 ⟨rfl, hb5⟩)
      go_ret
      exact ⟨rfl, HB.out.trans (hb5.mono HB.out.size)⟩

end Go.Proofs.Ytmhogjecfgbchaa
