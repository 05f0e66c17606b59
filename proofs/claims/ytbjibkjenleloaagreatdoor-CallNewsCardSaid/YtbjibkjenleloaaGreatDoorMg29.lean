/- Parts of a proof about the given program, in build order: CalO. No condition. -/
import Derived.Test.YtbjibkjenleloaaGreatDoorMg28
section
namespace Go.Proofs.YtbjibkjenleloaaGreatDoor
set_option linter.unusedVariables false
set_option linter.unusedSimpArgs false
open Go.RowKit
attribute [local go_sem ↓] Go.wp_at_zero Go.wp_at_succ
attribute [local go_sem] run_store_complex run_store_float


set_option maxRecDepth 100000 in
set_option maxHeartbeats 40000000 in
theorem callNews_no (id life : Int) (cf : Cf) (h : ¬ (newOK id life cf.ho ∧ rightP cf ∧ id ≤ cf.cl)) (w : World) : Calls Tryz.prog 6 #[.int .i64 id, .int .i64 life, cf.v] w fun e w' => e = .returned (.bool true) ∧ Below w.heap.size w w' := by
  have HNO := hid (call_new_no id life cf h)
  have b := blk7 (heap_new w (.cells #[.int .i64 cf.cl, .int .i64 cf.de, .int .i64 cf.ne, .int .i64 cf.li, .int .i64 cf.pr, .int .i64 cf.qu, .int .i64 cf.ho] 23))
  have HN := hid (heap_new w (.cells #[.int .i64 cf.cl, .int .i64 cf.de, .int .i64 cf.ne, .int .i64 cf.li, .int .i64 cf.pr, .int .i64 cf.qu, .int .i64 cf.ho] 23))
  have HB := hid (bl1 w (.cells #[.int .i64 cf.cl, .int .i64 cf.de, .int .i64 cf.ne, .int .i64 cf.li, .int .i64 cf.pr, .int .i64 cf.qu, .int .i64 cf.ho] 23))
  by_cases c0 : 1 ≤ cf.cl
  · by_cases c1 : cf.cl ≤ 4
    · by_cases c2 : 1 ≤ cf.de
      · by_cases c3 : cf.de ≤ 64
        · by_cases c4 : 1 ≤ cf.ne
          · by_cases c5 : cf.ne ≤ 16
            · by_cases c6 : 0 ≤ cf.li
              · by_cases c7 : cf.li ≤ 8
                · by_cases c8 : 1 ≤ cf.pr
                  · by_cases c9 : cf.pr ≤ 32
                    · by_cases c10 : 1 ≤ cf.qu
                      · by_cases c11 : cf.qu ≤ 16
                        · by_cases c12 : 0 ≤ cf.ho
                          · by_cases c13 : cf.ho ≤ 8
                            · by_cases v0 : id < 1
                              · have g0 : decide (cf.cl ≥ 1) = true := by simp; omega
                                have k0 : decide (1 ≤ cf.cl) = true := by simp; omega
                                have g1 : decide (cf.cl ≤ 4) = true := by simp; omega
                                have k1 : decide (cf.cl ≤ 4) = true := by simp; omega
                                have g2 : decide (cf.de ≥ 1) = true := by simp; omega
                                have k2 : decide (1 ≤ cf.de) = true := by simp; omega
                                have g3 : decide (cf.de ≤ 64) = true := by simp; omega
                                have k3 : decide (cf.de ≤ 64) = true := by simp; omega
                                have g4 : decide (cf.ne ≥ 1) = true := by simp; omega
                                have k4 : decide (1 ≤ cf.ne) = true := by simp; omega
                                have g5 : decide (cf.ne ≤ 16) = true := by simp; omega
                                have k5 : decide (cf.ne ≤ 16) = true := by simp; omega
                                have g6 : decide (cf.li ≥ 0) = true := by simp; omega
                                have k6 : decide (0 ≤ cf.li) = true := by simp; omega
                                have g7 : decide (cf.li ≤ 8) = true := by simp; omega
                                have k7 : decide (cf.li ≤ 8) = true := by simp; omega
                                have g8 : decide (cf.pr ≥ 1) = true := by simp; omega
                                have k8 : decide (1 ≤ cf.pr) = true := by simp; omega
                                have g9 : decide (cf.pr ≤ 32) = true := by simp; omega
                                have k9 : decide (cf.pr ≤ 32) = true := by simp; omega
                                have g10 : decide (cf.qu ≥ 1) = true := by simp; omega
                                have k10 : decide (1 ≤ cf.qu) = true := by simp; omega
                                have g11 : decide (cf.qu ≤ 16) = true := by simp; omega
                                have k11 : decide (cf.qu ≤ 16) = true := by simp; omega
                                have g12 : decide (cf.ho ≥ 0) = true := by simp; omega
                                have k12 : decide (0 ≤ cf.ho) = true := by simp; omega
                                have g13 : decide (cf.ho ≤ 8) = true := by simp; omega
                                have k13 : decide (cf.ho ≤ 8) = true := by simp; omega
                                have l0 : decide (id < 1) = true := by simp; omega
                                have m0 : decide (id < 1) = true := by simp; omega
                                clear h c0 c1 c2 c3 c4 c5 c6 c7 c8 c9 c10 c11 c12 c13 v0
                                unfold Cf.v at HNO ⊢
                                go_enter Tryz.func6, Tryz.ntmps6
                                go_wp2_with fail
                                refine (HNO.out _).mono ?_; rintro e w1 ⟨rfl, hb1⟩
                                have b1 := blk7 (heap_below hb1 HN.out (blk_lt HN.out))
                                have HB1 := hid (HB.out.trans (hb1.mono HB.out.size))
                                clear b hb1
                                go_wp2_with fail
                                refine (call_awake _).mono ?_; rintro e w2 ⟨rfl, hb2⟩
                                have HB2 := hid (HB1.out.trans (hb2.mono HB1.out.size))
                                clear b1 hb2
                                go_wp2
                                go_ret
                                exact ⟨rfl, HB2.out⟩
                              · by_cases v1 : cf.cl < id
                                · have g0 : decide (cf.cl ≥ 1) = true := by simp; omega
                                  have k0 : decide (1 ≤ cf.cl) = true := by simp; omega
                                  have g1 : decide (cf.cl ≤ 4) = true := by simp; omega
                                  have k1 : decide (cf.cl ≤ 4) = true := by simp; omega
                                  have g2 : decide (cf.de ≥ 1) = true := by simp; omega
                                  have k2 : decide (1 ≤ cf.de) = true := by simp; omega
                                  have g3 : decide (cf.de ≤ 64) = true := by simp; omega
                                  have k3 : decide (cf.de ≤ 64) = true := by simp; omega
                                  have g4 : decide (cf.ne ≥ 1) = true := by simp; omega
                                  have k4 : decide (1 ≤ cf.ne) = true := by simp; omega
                                  have g5 : decide (cf.ne ≤ 16) = true := by simp; omega
                                  have k5 : decide (cf.ne ≤ 16) = true := by simp; omega
                                  have g6 : decide (cf.li ≥ 0) = true := by simp; omega
                                  have k6 : decide (0 ≤ cf.li) = true := by simp; omega
                                  have g7 : decide (cf.li ≤ 8) = true := by simp; omega
                                  have k7 : decide (cf.li ≤ 8) = true := by simp; omega
                                  have g8 : decide (cf.pr ≥ 1) = true := by simp; omega
                                  have k8 : decide (1 ≤ cf.pr) = true := by simp; omega
                                  have g9 : decide (cf.pr ≤ 32) = true := by simp; omega
                                  have k9 : decide (cf.pr ≤ 32) = true := by simp; omega
                                  have g10 : decide (cf.qu ≥ 1) = true := by simp; omega
                                  have k10 : decide (1 ≤ cf.qu) = true := by simp; omega
                                  have g11 : decide (cf.qu ≤ 16) = true := by simp; omega
                                  have k11 : decide (cf.qu ≤ 16) = true := by simp; omega
                                  have g12 : decide (cf.ho ≥ 0) = true := by simp; omega
                                  have k12 : decide (0 ≤ cf.ho) = true := by simp; omega
                                  have g13 : decide (cf.ho ≤ 8) = true := by simp; omega
                                  have k13 : decide (cf.ho ≤ 8) = true := by simp; omega
                                  have l0 : decide (id < 1) = false := by simp; omega
                                  have m0 : decide (id < 1) = false := by simp; omega
                                  have l1 : decide (id > cf.cl) = true := by simp; omega
                                  have m1 : decide (cf.cl < id) = true := by simp; omega
                                  clear h c0 c1 c2 c3 c4 c5 c6 c7 c8 c9 c10 c11 c12 c13 v0 v1
                                  unfold Cf.v at HNO ⊢
                                  go_enter Tryz.func6, Tryz.ntmps6
                                  go_wp2_with fail
                                  refine (HNO.out _).mono ?_; rintro e w1 ⟨rfl, hb1⟩
                                  have b1 := blk7 (heap_below hb1 HN.out (blk_lt HN.out))
                                  have HB1 := hid (HB.out.trans (hb1.mono HB.out.size))
                                  clear b hb1
                                  go_wp2_with fail
                                  refine (call_awake _).mono ?_; rintro e w2 ⟨rfl, hb2⟩
                                  have HB2 := hid (HB1.out.trans (hb2.mono HB1.out.size))
                                  clear b1 hb2
                                  go_wp2
                                  go_ret
                                  exact ⟨rfl, HB2.out⟩
                                · by_cases v2 : life < 1
                                  · have g0 : decide (cf.cl ≥ 1) = true := by simp; omega
                                    have k0 : decide (1 ≤ cf.cl) = true := by simp; omega
                                    have g1 : decide (cf.cl ≤ 4) = true := by simp; omega
                                    have k1 : decide (cf.cl ≤ 4) = true := by simp; omega
                                    have g2 : decide (cf.de ≥ 1) = true := by simp; omega
                                    have k2 : decide (1 ≤ cf.de) = true := by simp; omega
                                    have g3 : decide (cf.de ≤ 64) = true := by simp; omega
                                    have k3 : decide (cf.de ≤ 64) = true := by simp; omega
                                    have g4 : decide (cf.ne ≥ 1) = true := by simp; omega
                                    have k4 : decide (1 ≤ cf.ne) = true := by simp; omega
                                    have g5 : decide (cf.ne ≤ 16) = true := by simp; omega
                                    have k5 : decide (cf.ne ≤ 16) = true := by simp; omega
                                    have g6 : decide (cf.li ≥ 0) = true := by simp; omega
                                    have k6 : decide (0 ≤ cf.li) = true := by simp; omega
                                    have g7 : decide (cf.li ≤ 8) = true := by simp; omega
                                    have k7 : decide (cf.li ≤ 8) = true := by simp; omega
                                    have g8 : decide (cf.pr ≥ 1) = true := by simp; omega
                                    have k8 : decide (1 ≤ cf.pr) = true := by simp; omega
                                    have g9 : decide (cf.pr ≤ 32) = true := by simp; omega
                                    have k9 : decide (cf.pr ≤ 32) = true := by simp; omega
                                    have g10 : decide (cf.qu ≥ 1) = true := by simp; omega
                                    have k10 : decide (1 ≤ cf.qu) = true := by simp; omega
                                    have g11 : decide (cf.qu ≤ 16) = true := by simp; omega
                                    have k11 : decide (cf.qu ≤ 16) = true := by simp; omega
                                    have g12 : decide (cf.ho ≥ 0) = true := by simp; omega
                                    have k12 : decide (0 ≤ cf.ho) = true := by simp; omega
                                    have g13 : decide (cf.ho ≤ 8) = true := by simp; omega
                                    have k13 : decide (cf.ho ≤ 8) = true := by simp; omega
                                    have l0 : decide (id < 1) = false := by simp; omega
                                    have m0 : decide (id < 1) = false := by simp; omega
                                    have l1 : decide (id > cf.cl) = false := by simp; omega
                                    have m1 : decide (cf.cl < id) = false := by simp; omega
                                    have l2 : decide (life < 1) = true := by simp; omega
                                    have m2 : decide (life < 1) = true := by simp; omega
                                    clear h c0 c1 c2 c3 c4 c5 c6 c7 c8 c9 c10 c11 c12 c13 v0 v1 v2
                                    unfold Cf.v at HNO ⊢
                                    go_enter Tryz.func6, Tryz.ntmps6
                                    go_wp2_with fail
                                    refine (HNO.out _).mono ?_; rintro e w1 ⟨rfl, hb1⟩
                                    have b1 := blk7 (heap_below hb1 HN.out (blk_lt HN.out))
                                    have HB1 := hid (HB.out.trans (hb1.mono HB.out.size))
                                    clear b hb1
                                    go_wp2_with fail
                                    refine (call_awake _).mono ?_; rintro e w2 ⟨rfl, hb2⟩
                                    have HB2 := hid (HB1.out.trans (hb2.mono HB1.out.size))
                                    clear b1 hb2
                                    go_wp2
                                    go_ret
                                    exact ⟨rfl, HB2.out⟩
                                  · by_cases v3 : 1099511627776 < life
                                    · have g0 : decide (cf.cl ≥ 1) = true := by simp; omega
                                      have k0 : decide (1 ≤ cf.cl) = true := by simp; omega
                                      have g1 : decide (cf.cl ≤ 4) = true := by simp; omega
                                      have k1 : decide (cf.cl ≤ 4) = true := by simp; omega
                                      have g2 : decide (cf.de ≥ 1) = true := by simp; omega
                                      have k2 : decide (1 ≤ cf.de) = true := by simp; omega
                                      have g3 : decide (cf.de ≤ 64) = true := by simp; omega
                                      have k3 : decide (cf.de ≤ 64) = true := by simp; omega
                                      have g4 : decide (cf.ne ≥ 1) = true := by simp; omega
                                      have k4 : decide (1 ≤ cf.ne) = true := by simp; omega
                                      have g5 : decide (cf.ne ≤ 16) = true := by simp; omega
                                      have k5 : decide (cf.ne ≤ 16) = true := by simp; omega
                                      have g6 : decide (cf.li ≥ 0) = true := by simp; omega
                                      have k6 : decide (0 ≤ cf.li) = true := by simp; omega
                                      have g7 : decide (cf.li ≤ 8) = true := by simp; omega
                                      have k7 : decide (cf.li ≤ 8) = true := by simp; omega
                                      have g8 : decide (cf.pr ≥ 1) = true := by simp; omega
                                      have k8 : decide (1 ≤ cf.pr) = true := by simp; omega
                                      have g9 : decide (cf.pr ≤ 32) = true := by simp; omega
                                      have k9 : decide (cf.pr ≤ 32) = true := by simp; omega
                                      have g10 : decide (cf.qu ≥ 1) = true := by simp; omega
                                      have k10 : decide (1 ≤ cf.qu) = true := by simp; omega
                                      have g11 : decide (cf.qu ≤ 16) = true := by simp; omega
                                      have k11 : decide (cf.qu ≤ 16) = true := by simp; omega
                                      have g12 : decide (cf.ho ≥ 0) = true := by simp; omega
                                      have k12 : decide (0 ≤ cf.ho) = true := by simp; omega
                                      have g13 : decide (cf.ho ≤ 8) = true := by simp; omega
                                      have k13 : decide (cf.ho ≤ 8) = true := by simp; omega
                                      have l0 : decide (id < 1) = false := by simp; omega
                                      have m0 : decide (id < 1) = false := by simp; omega
                                      have l1 : decide (id > cf.cl) = false := by simp; omega
                                      have m1 : decide (cf.cl < id) = false := by simp; omega
                                      have l2 : decide (life < 1) = false := by simp; omega
                                      have m2 : decide (life < 1) = false := by simp; omega
                                      have l3 : decide (life > 1099511627776) = true := by simp; omega
                                      have m3 : decide (1099511627776 < life) = true := by simp; omega
                                      clear h c0 c1 c2 c3 c4 c5 c6 c7 c8 c9 c10 c11 c12 c13 v0 v1 v2 v3
                                      unfold Cf.v at HNO ⊢
                                      go_enter Tryz.func6, Tryz.ntmps6
                                      go_wp2_with fail
                                      refine (HNO.out _).mono ?_; rintro e w1 ⟨rfl, hb1⟩
                                      have b1 := blk7 (heap_below hb1 HN.out (blk_lt HN.out))
                                      have HB1 := hid (HB.out.trans (hb1.mono HB.out.size))
                                      clear b hb1
                                      go_wp2_with fail
                                      refine (call_awake _).mono ?_; rintro e w2 ⟨rfl, hb2⟩
                                      have HB2 := hid (HB1.out.trans (hb2.mono HB1.out.size))
                                      clear b1 hb2
                                      go_wp2
                                      go_ret
                                      exact ⟨rfl, HB2.out⟩
                                    · exact absurd ⟨by unfold newOK; omega, by unfold rightP; omega, by omega⟩ h
                            · have g0 : decide (cf.cl ≥ 1) = true := by simp; omega
                              have k0 : decide (1 ≤ cf.cl) = true := by simp; omega
                              have g1 : decide (cf.cl ≤ 4) = true := by simp; omega
                              have k1 : decide (cf.cl ≤ 4) = true := by simp; omega
                              have g2 : decide (cf.de ≥ 1) = true := by simp; omega
                              have k2 : decide (1 ≤ cf.de) = true := by simp; omega
                              have g3 : decide (cf.de ≤ 64) = true := by simp; omega
                              have k3 : decide (cf.de ≤ 64) = true := by simp; omega
                              have g4 : decide (cf.ne ≥ 1) = true := by simp; omega
                              have k4 : decide (1 ≤ cf.ne) = true := by simp; omega
                              have g5 : decide (cf.ne ≤ 16) = true := by simp; omega
                              have k5 : decide (cf.ne ≤ 16) = true := by simp; omega
                              have g6 : decide (cf.li ≥ 0) = true := by simp; omega
                              have k6 : decide (0 ≤ cf.li) = true := by simp; omega
                              have g7 : decide (cf.li ≤ 8) = true := by simp; omega
                              have k7 : decide (cf.li ≤ 8) = true := by simp; omega
                              have g8 : decide (cf.pr ≥ 1) = true := by simp; omega
                              have k8 : decide (1 ≤ cf.pr) = true := by simp; omega
                              have g9 : decide (cf.pr ≤ 32) = true := by simp; omega
                              have k9 : decide (cf.pr ≤ 32) = true := by simp; omega
                              have g10 : decide (cf.qu ≥ 1) = true := by simp; omega
                              have k10 : decide (1 ≤ cf.qu) = true := by simp; omega
                              have g11 : decide (cf.qu ≤ 16) = true := by simp; omega
                              have k11 : decide (cf.qu ≤ 16) = true := by simp; omega
                              have g12 : decide (cf.ho ≥ 0) = true := by simp; omega
                              have k12 : decide (0 ≤ cf.ho) = true := by simp; omega
                              have g13 : decide (cf.ho ≤ 8) = false := by simp; omega
                              have k13 : decide (cf.ho ≤ 8) = false := by simp; omega
                              clear h c0 c1 c2 c3 c4 c5 c6 c7 c8 c9 c10 c11 c12 c13
                              unfold Cf.v at HNO ⊢
                              go_enter Tryz.func6, Tryz.ntmps6
                              go_wp2_with fail
                              refine (HNO.out _).mono ?_; rintro e w1 ⟨rfl, hb1⟩
                              have b1 := blk7 (heap_below hb1 HN.out (blk_lt HN.out))
                              have HB1 := hid (HB.out.trans (hb1.mono HB.out.size))
                              clear b hb1
                              go_wp2_with fail
                              refine (call_awake _).mono ?_; rintro e w2 ⟨rfl, hb2⟩
                              have HB2 := hid (HB1.out.trans (hb2.mono HB1.out.size))
                              clear b1 hb2
                              go_wp2
                              go_ret
                              exact ⟨rfl, HB2.out⟩
                          · have g0 : decide (cf.cl ≥ 1) = true := by simp; omega
                            have k0 : decide (1 ≤ cf.cl) = true := by simp; omega
                            have g1 : decide (cf.cl ≤ 4) = true := by simp; omega
                            have k1 : decide (cf.cl ≤ 4) = true := by simp; omega
                            have g2 : decide (cf.de ≥ 1) = true := by simp; omega
                            have k2 : decide (1 ≤ cf.de) = true := by simp; omega
                            have g3 : decide (cf.de ≤ 64) = true := by simp; omega
                            have k3 : decide (cf.de ≤ 64) = true := by simp; omega
                            have g4 : decide (cf.ne ≥ 1) = true := by simp; omega
                            have k4 : decide (1 ≤ cf.ne) = true := by simp; omega
                            have g5 : decide (cf.ne ≤ 16) = true := by simp; omega
                            have k5 : decide (cf.ne ≤ 16) = true := by simp; omega
                            have g6 : decide (cf.li ≥ 0) = true := by simp; omega
                            have k6 : decide (0 ≤ cf.li) = true := by simp; omega
                            have g7 : decide (cf.li ≤ 8) = true := by simp; omega
                            have k7 : decide (cf.li ≤ 8) = true := by simp; omega
                            have g8 : decide (cf.pr ≥ 1) = true := by simp; omega
                            have k8 : decide (1 ≤ cf.pr) = true := by simp; omega
                            have g9 : decide (cf.pr ≤ 32) = true := by simp; omega
                            have k9 : decide (cf.pr ≤ 32) = true := by simp; omega
                            have g10 : decide (cf.qu ≥ 1) = true := by simp; omega
                            have k10 : decide (1 ≤ cf.qu) = true := by simp; omega
                            have g11 : decide (cf.qu ≤ 16) = true := by simp; omega
                            have k11 : decide (cf.qu ≤ 16) = true := by simp; omega
                            have g12 : decide (cf.ho ≥ 0) = false := by simp; omega
                            have k12 : decide (0 ≤ cf.ho) = false := by simp; omega
                            clear h c0 c1 c2 c3 c4 c5 c6 c7 c8 c9 c10 c11 c12
                            unfold Cf.v at HNO ⊢
                            go_enter Tryz.func6, Tryz.ntmps6
                            go_wp2_with fail
                            refine (HNO.out _).mono ?_; rintro e w1 ⟨rfl, hb1⟩
                            have b1 := blk7 (heap_below hb1 HN.out (blk_lt HN.out))
                            have HB1 := hid (HB.out.trans (hb1.mono HB.out.size))
                            clear b hb1
                            go_wp2_with fail
                            refine (call_awake _).mono ?_; rintro e w2 ⟨rfl, hb2⟩
                            have HB2 := hid (HB1.out.trans (hb2.mono HB1.out.size))
                            clear b1 hb2
                            go_wp2
                            go_ret
                            exact ⟨rfl, HB2.out⟩
                        · have g0 : decide (cf.cl ≥ 1) = true := by simp; omega
                          have k0 : decide (1 ≤ cf.cl) = true := by simp; omega
                          have g1 : decide (cf.cl ≤ 4) = true := by simp; omega
                          have k1 : decide (cf.cl ≤ 4) = true := by simp; omega
                          have g2 : decide (cf.de ≥ 1) = true := by simp; omega
                          have k2 : decide (1 ≤ cf.de) = true := by simp; omega
                          have g3 : decide (cf.de ≤ 64) = true := by simp; omega
                          have k3 : decide (cf.de ≤ 64) = true := by simp; omega
                          have g4 : decide (cf.ne ≥ 1) = true := by simp; omega
                          have k4 : decide (1 ≤ cf.ne) = true := by simp; omega
                          have g5 : decide (cf.ne ≤ 16) = true := by simp; omega
                          have k5 : decide (cf.ne ≤ 16) = true := by simp; omega
                          have g6 : decide (cf.li ≥ 0) = true := by simp; omega
                          have k6 : decide (0 ≤ cf.li) = true := by simp; omega
                          have g7 : decide (cf.li ≤ 8) = true := by simp; omega
                          have k7 : decide (cf.li ≤ 8) = true := by simp; omega
                          have g8 : decide (cf.pr ≥ 1) = true := by simp; omega
                          have k8 : decide (1 ≤ cf.pr) = true := by simp; omega
                          have g9 : decide (cf.pr ≤ 32) = true := by simp; omega
                          have k9 : decide (cf.pr ≤ 32) = true := by simp; omega
                          have g10 : decide (cf.qu ≥ 1) = true := by simp; omega
                          have k10 : decide (1 ≤ cf.qu) = true := by simp; omega
                          have g11 : decide (cf.qu ≤ 16) = false := by simp; omega
                          have k11 : decide (cf.qu ≤ 16) = false := by simp; omega
                          clear h c0 c1 c2 c3 c4 c5 c6 c7 c8 c9 c10 c11
                          unfold Cf.v at HNO ⊢
                          go_enter Tryz.func6, Tryz.ntmps6
                          go_wp2_with fail
                          refine (HNO.out _).mono ?_; rintro e w1 ⟨rfl, hb1⟩
                          have b1 := blk7 (heap_below hb1 HN.out (blk_lt HN.out))
                          have HB1 := hid (HB.out.trans (hb1.mono HB.out.size))
                          clear b hb1
                          go_wp2_with fail
                          refine (call_awake _).mono ?_; rintro e w2 ⟨rfl, hb2⟩
                          have HB2 := hid (HB1.out.trans (hb2.mono HB1.out.size))
                          clear b1 hb2
                          go_wp2
                          go_ret
                          exact ⟨rfl, HB2.out⟩
                      · have g0 : decide (cf.cl ≥ 1) = true := by simp; omega
                        have k0 : decide (1 ≤ cf.cl) = true := by simp; omega
                        have g1 : decide (cf.cl ≤ 4) = true := by simp; omega
                        have k1 : decide (cf.cl ≤ 4) = true := by simp; omega
                        have g2 : decide (cf.de ≥ 1) = true := by simp; omega
                        have k2 : decide (1 ≤ cf.de) = true := by simp; omega
                        have g3 : decide (cf.de ≤ 64) = true := by simp; omega
                        have k3 : decide (cf.de ≤ 64) = true := by simp; omega
                        have g4 : decide (cf.ne ≥ 1) = true := by simp; omega
                        have k4 : decide (1 ≤ cf.ne) = true := by simp; omega
                        have g5 : decide (cf.ne ≤ 16) = true := by simp; omega
                        have k5 : decide (cf.ne ≤ 16) = true := by simp; omega
                        have g6 : decide (cf.li ≥ 0) = true := by simp; omega
                        have k6 : decide (0 ≤ cf.li) = true := by simp; omega
                        have g7 : decide (cf.li ≤ 8) = true := by simp; omega
                        have k7 : decide (cf.li ≤ 8) = true := by simp; omega
                        have g8 : decide (cf.pr ≥ 1) = true := by simp; omega
                        have k8 : decide (1 ≤ cf.pr) = true := by simp; omega
                        have g9 : decide (cf.pr ≤ 32) = true := by simp; omega
                        have k9 : decide (cf.pr ≤ 32) = true := by simp; omega
                        have g10 : decide (cf.qu ≥ 1) = false := by simp; omega
                        have k10 : decide (1 ≤ cf.qu) = false := by simp; omega
                        clear h c0 c1 c2 c3 c4 c5 c6 c7 c8 c9 c10
                        unfold Cf.v at HNO ⊢
                        go_enter Tryz.func6, Tryz.ntmps6
                        go_wp2_with fail
                        refine (HNO.out _).mono ?_; rintro e w1 ⟨rfl, hb1⟩
                        have b1 := blk7 (heap_below hb1 HN.out (blk_lt HN.out))
                        have HB1 := hid (HB.out.trans (hb1.mono HB.out.size))
                        clear b hb1
                        go_wp2_with fail
                        refine (call_awake _).mono ?_; rintro e w2 ⟨rfl, hb2⟩
                        have HB2 := hid (HB1.out.trans (hb2.mono HB1.out.size))
                        clear b1 hb2
                        go_wp2
                        go_ret
                        exact ⟨rfl, HB2.out⟩
                    · have g0 : decide (cf.cl ≥ 1) = true := by simp; omega
                      have k0 : decide (1 ≤ cf.cl) = true := by simp; omega
                      have g1 : decide (cf.cl ≤ 4) = true := by simp; omega
                      have k1 : decide (cf.cl ≤ 4) = true := by simp; omega
                      have g2 : decide (cf.de ≥ 1) = true := by simp; omega
                      have k2 : decide (1 ≤ cf.de) = true := by simp; omega
                      have g3 : decide (cf.de ≤ 64) = true := by simp; omega
                      have k3 : decide (cf.de ≤ 64) = true := by simp; omega
                      have g4 : decide (cf.ne ≥ 1) = true := by simp; omega
                      have k4 : decide (1 ≤ cf.ne) = true := by simp; omega
                      have g5 : decide (cf.ne ≤ 16) = true := by simp; omega
                      have k5 : decide (cf.ne ≤ 16) = true := by simp; omega
                      have g6 : decide (cf.li ≥ 0) = true := by simp; omega
                      have k6 : decide (0 ≤ cf.li) = true := by simp; omega
                      have g7 : decide (cf.li ≤ 8) = true := by simp; omega
                      have k7 : decide (cf.li ≤ 8) = true := by simp; omega
                      have g8 : decide (cf.pr ≥ 1) = true := by simp; omega
                      have k8 : decide (1 ≤ cf.pr) = true := by simp; omega
                      have g9 : decide (cf.pr ≤ 32) = false := by simp; omega
                      have k9 : decide (cf.pr ≤ 32) = false := by simp; omega
                      clear h c0 c1 c2 c3 c4 c5 c6 c7 c8 c9
                      unfold Cf.v at HNO ⊢
                      go_enter Tryz.func6, Tryz.ntmps6
                      go_wp2_with fail
                      refine (HNO.out _).mono ?_; rintro e w1 ⟨rfl, hb1⟩
                      have b1 := blk7 (heap_below hb1 HN.out (blk_lt HN.out))
                      have HB1 := hid (HB.out.trans (hb1.mono HB.out.size))
                      clear b hb1
                      go_wp2_with fail
                      refine (call_awake _).mono ?_; rintro e w2 ⟨rfl, hb2⟩
                      have HB2 := hid (HB1.out.trans (hb2.mono HB1.out.size))
                      clear b1 hb2
                      go_wp2
                      go_ret
                      exact ⟨rfl, HB2.out⟩
                  · have g0 : decide (cf.cl ≥ 1) = true := by simp; omega
                    have k0 : decide (1 ≤ cf.cl) = true := by simp; omega
                    have g1 : decide (cf.cl ≤ 4) = true := by simp; omega
                    have k1 : decide (cf.cl ≤ 4) = true := by simp; omega
                    have g2 : decide (cf.de ≥ 1) = true := by simp; omega
                    have k2 : decide (1 ≤ cf.de) = true := by simp; omega
                    have g3 : decide (cf.de ≤ 64) = true := by simp; omega
                    have k3 : decide (cf.de ≤ 64) = true := by simp; omega
                    have g4 : decide (cf.ne ≥ 1) = true := by simp; omega
                    have k4 : decide (1 ≤ cf.ne) = true := by simp; omega
                    have g5 : decide (cf.ne ≤ 16) = true := by simp; omega
                    have k5 : decide (cf.ne ≤ 16) = true := by simp; omega
                    have g6 : decide (cf.li ≥ 0) = true := by simp; omega
                    have k6 : decide (0 ≤ cf.li) = true := by simp; omega
                    have g7 : decide (cf.li ≤ 8) = true := by simp; omega
                    have k7 : decide (cf.li ≤ 8) = true := by simp; omega
                    have g8 : decide (cf.pr ≥ 1) = false := by simp; omega
                    have k8 : decide (1 ≤ cf.pr) = false := by simp; omega
                    clear h c0 c1 c2 c3 c4 c5 c6 c7 c8
                    unfold Cf.v at HNO ⊢
                    go_enter Tryz.func6, Tryz.ntmps6
                    go_wp2_with fail
                    refine (HNO.out _).mono ?_; rintro e w1 ⟨rfl, hb1⟩
                    have b1 := blk7 (heap_below hb1 HN.out (blk_lt HN.out))
                    have HB1 := hid (HB.out.trans (hb1.mono HB.out.size))
                    clear b hb1
                    go_wp2_with fail
                    refine (call_awake _).mono ?_; rintro e w2 ⟨rfl, hb2⟩
                    have HB2 := hid (HB1.out.trans (hb2.mono HB1.out.size))
                    clear b1 hb2
                    go_wp2
                    go_ret
                    exact ⟨rfl, HB2.out⟩
                · have g0 : decide (cf.cl ≥ 1) = true := by simp; omega
                  have k0 : decide (1 ≤ cf.cl) = true := by simp; omega
                  have g1 : decide (cf.cl ≤ 4) = true := by simp; omega
                  have k1 : decide (cf.cl ≤ 4) = true := by simp; omega
                  have g2 : decide (cf.de ≥ 1) = true := by simp; omega
                  have k2 : decide (1 ≤ cf.de) = true := by simp; omega
                  have g3 : decide (cf.de ≤ 64) = true := by simp; omega
                  have k3 : decide (cf.de ≤ 64) = true := by simp; omega
                  have g4 : decide (cf.ne ≥ 1) = true := by simp; omega
                  have k4 : decide (1 ≤ cf.ne) = true := by simp; omega
                  have g5 : decide (cf.ne ≤ 16) = true := by simp; omega
                  have k5 : decide (cf.ne ≤ 16) = true := by simp; omega
                  have g6 : decide (cf.li ≥ 0) = true := by simp; omega
                  have k6 : decide (0 ≤ cf.li) = true := by simp; omega
                  have g7 : decide (cf.li ≤ 8) = false := by simp; omega
                  have k7 : decide (cf.li ≤ 8) = false := by simp; omega
                  clear h c0 c1 c2 c3 c4 c5 c6 c7
                  unfold Cf.v at HNO ⊢
                  go_enter Tryz.func6, Tryz.ntmps6
                  go_wp2_with fail
                  refine (HNO.out _).mono ?_; rintro e w1 ⟨rfl, hb1⟩
                  have b1 := blk7 (heap_below hb1 HN.out (blk_lt HN.out))
                  have HB1 := hid (HB.out.trans (hb1.mono HB.out.size))
                  clear b hb1
                  go_wp2_with fail
                  refine (call_awake _).mono ?_; rintro e w2 ⟨rfl, hb2⟩
                  have HB2 := hid (HB1.out.trans (hb2.mono HB1.out.size))
                  clear b1 hb2
                  go_wp2
                  go_ret
                  exact ⟨rfl, HB2.out⟩
              · have g0 : decide (cf.cl ≥ 1) = true := by simp; omega
                have k0 : decide (1 ≤ cf.cl) = true := by simp; omega
                have g1 : decide (cf.cl ≤ 4) = true := by simp; omega
                have k1 : decide (cf.cl ≤ 4) = true := by simp; omega
                have g2 : decide (cf.de ≥ 1) = true := by simp; omega
                have k2 : decide (1 ≤ cf.de) = true := by simp; omega
                have g3 : decide (cf.de ≤ 64) = true := by simp; omega
                have k3 : decide (cf.de ≤ 64) = true := by simp; omega
                have g4 : decide (cf.ne ≥ 1) = true := by simp; omega
                have k4 : decide (1 ≤ cf.ne) = true := by simp; omega
                have g5 : decide (cf.ne ≤ 16) = true := by simp; omega
                have k5 : decide (cf.ne ≤ 16) = true := by simp; omega
                have g6 : decide (cf.li ≥ 0) = false := by simp; omega
                have k6 : decide (0 ≤ cf.li) = false := by simp; omega
                clear h c0 c1 c2 c3 c4 c5 c6
                unfold Cf.v at HNO ⊢
                go_enter Tryz.func6, Tryz.ntmps6
                go_wp2_with fail
                refine (HNO.out _).mono ?_; rintro e w1 ⟨rfl, hb1⟩
                have b1 := blk7 (heap_below hb1 HN.out (blk_lt HN.out))
                have HB1 := hid (HB.out.trans (hb1.mono HB.out.size))
                clear b hb1
                go_wp2_with fail
                refine (call_awake _).mono ?_; rintro e w2 ⟨rfl, hb2⟩
                have HB2 := hid (HB1.out.trans (hb2.mono HB1.out.size))
                clear b1 hb2
                go_wp2
                go_ret
                exact ⟨rfl, HB2.out⟩
            · have g0 : decide (cf.cl ≥ 1) = true := by simp; omega
              have k0 : decide (1 ≤ cf.cl) = true := by simp; omega
              have g1 : decide (cf.cl ≤ 4) = true := by simp; omega
              have k1 : decide (cf.cl ≤ 4) = true := by simp; omega
              have g2 : decide (cf.de ≥ 1) = true := by simp; omega
              have k2 : decide (1 ≤ cf.de) = true := by simp; omega
              have g3 : decide (cf.de ≤ 64) = true := by simp; omega
              have k3 : decide (cf.de ≤ 64) = true := by simp; omega
              have g4 : decide (cf.ne ≥ 1) = true := by simp; omega
              have k4 : decide (1 ≤ cf.ne) = true := by simp; omega
              have g5 : decide (cf.ne ≤ 16) = false := by simp; omega
              have k5 : decide (cf.ne ≤ 16) = false := by simp; omega
              clear h c0 c1 c2 c3 c4 c5
              unfold Cf.v at HNO ⊢
              go_enter Tryz.func6, Tryz.ntmps6
              go_wp2_with fail
              refine (HNO.out _).mono ?_; rintro e w1 ⟨rfl, hb1⟩
              have b1 := blk7 (heap_below hb1 HN.out (blk_lt HN.out))
              have HB1 := hid (HB.out.trans (hb1.mono HB.out.size))
              clear b hb1
              go_wp2_with fail
              refine (call_awake _).mono ?_; rintro e w2 ⟨rfl, hb2⟩
              have HB2 := hid (HB1.out.trans (hb2.mono HB1.out.size))
              clear b1 hb2
              go_wp2
              go_ret
              exact ⟨rfl, HB2.out⟩
          · have g0 : decide (cf.cl ≥ 1) = true := by simp; omega
            have k0 : decide (1 ≤ cf.cl) = true := by simp; omega
            have g1 : decide (cf.cl ≤ 4) = true := by simp; omega
            have k1 : decide (cf.cl ≤ 4) = true := by simp; omega
            have g2 : decide (cf.de ≥ 1) = true := by simp; omega
            have k2 : decide (1 ≤ cf.de) = true := by simp; omega
            have g3 : decide (cf.de ≤ 64) = true := by simp; omega
            have k3 : decide (cf.de ≤ 64) = true := by simp; omega
            have g4 : decide (cf.ne ≥ 1) = false := by simp; omega
            have k4 : decide (1 ≤ cf.ne) = false := by simp; omega
            clear h c0 c1 c2 c3 c4
            unfold Cf.v at HNO ⊢
            go_enter Tryz.func6, Tryz.ntmps6
            go_wp2_with fail
            refine (HNO.out _).mono ?_; rintro e w1 ⟨rfl, hb1⟩
            have b1 := blk7 (heap_below hb1 HN.out (blk_lt HN.out))
            have HB1 := hid (HB.out.trans (hb1.mono HB.out.size))
            clear b hb1
            go_wp2_with fail
            refine (call_awake _).mono ?_; rintro e w2 ⟨rfl, hb2⟩
            have HB2 := hid (HB1.out.trans (hb2.mono HB1.out.size))
            clear b1 hb2
            go_wp2
            go_ret
            exact ⟨rfl, HB2.out⟩
        · have g0 : decide (cf.cl ≥ 1) = true := by simp; omega
          have k0 : decide (1 ≤ cf.cl) = true := by simp; omega
          have g1 : decide (cf.cl ≤ 4) = true := by simp; omega
          have k1 : decide (cf.cl ≤ 4) = true := by simp; omega
          have g2 : decide (cf.de ≥ 1) = true := by simp; omega
          have k2 : decide (1 ≤ cf.de) = true := by simp; omega
          have g3 : decide (cf.de ≤ 64) = false := by simp; omega
          have k3 : decide (cf.de ≤ 64) = false := by simp; omega
          clear h c0 c1 c2 c3
          unfold Cf.v at HNO ⊢
          go_enter Tryz.func6, Tryz.ntmps6
          go_wp2_with fail
          refine (HNO.out _).mono ?_; rintro e w1 ⟨rfl, hb1⟩
          have b1 := blk7 (heap_below hb1 HN.out (blk_lt HN.out))
          have HB1 := hid (HB.out.trans (hb1.mono HB.out.size))
          clear b hb1
          go_wp2_with fail
          refine (call_awake _).mono ?_; rintro e w2 ⟨rfl, hb2⟩
          have HB2 := hid (HB1.out.trans (hb2.mono HB1.out.size))
          clear b1 hb2
          go_wp2
          go_ret
          exact ⟨rfl, HB2.out⟩
      · have g0 : decide (cf.cl ≥ 1) = true := by simp; omega
        have k0 : decide (1 ≤ cf.cl) = true := by simp; omega
        have g1 : decide (cf.cl ≤ 4) = true := by simp; omega
        have k1 : decide (cf.cl ≤ 4) = true := by simp; omega
        have g2 : decide (cf.de ≥ 1) = false := by simp; omega
        have k2 : decide (1 ≤ cf.de) = false := by simp; omega
        clear h c0 c1 c2
        unfold Cf.v at HNO ⊢
        go_enter Tryz.func6, Tryz.ntmps6
        go_wp2_with fail
        refine (HNO.out _).mono ?_; rintro e w1 ⟨rfl, hb1⟩
        have b1 := blk7 (heap_below hb1 HN.out (blk_lt HN.out))
        have HB1 := hid (HB.out.trans (hb1.mono HB.out.size))
        clear b hb1
        go_wp2_with fail
        refine (call_awake _).mono ?_; rintro e w2 ⟨rfl, hb2⟩
        have HB2 := hid (HB1.out.trans (hb2.mono HB1.out.size))
        clear b1 hb2
        go_wp2
        go_ret
        exact ⟨rfl, HB2.out⟩
    · have g0 : decide (cf.cl ≥ 1) = true := by simp; omega
      have k0 : decide (1 ≤ cf.cl) = true := by simp; omega
      have g1 : decide (cf.cl ≤ 4) = false := by simp; omega
      have k1 : decide (cf.cl ≤ 4) = false := by simp; omega
      clear h c0 c1
      unfold Cf.v at HNO ⊢
      go_enter Tryz.func6, Tryz.ntmps6
      go_wp2_with fail
      refine (HNO.out _).mono ?_; rintro e w1 ⟨rfl, hb1⟩
      have b1 := blk7 (heap_below hb1 HN.out (blk_lt HN.out))
      have HB1 := hid (HB.out.trans (hb1.mono HB.out.size))
      clear b hb1
      go_wp2_with fail
      refine (call_awake _).mono ?_; rintro e w2 ⟨rfl, hb2⟩
      have HB2 := hid (HB1.out.trans (hb2.mono HB1.out.size))
      clear b1 hb2
      go_wp2
      go_ret
      exact ⟨rfl, HB2.out⟩
  · have g0 : decide (cf.cl ≥ 1) = false := by simp; omega
    have k0 : decide (1 ≤ cf.cl) = false := by simp; omega
    clear h c0
    unfold Cf.v at HNO ⊢
    go_enter Tryz.func6, Tryz.ntmps6
    go_wp2_with fail
    refine (HNO.out _).mono ?_; rintro e w1 ⟨rfl, hb1⟩
    have b1 := blk7 (heap_below hb1 HN.out (blk_lt HN.out))
    have HB1 := hid (HB.out.trans (hb1.mono HB.out.size))
    clear b hb1
    go_wp2_with fail
    refine (call_awake _).mono ?_; rintro e w2 ⟨rfl, hb2⟩
    have HB2 := hid (HB1.out.trans (hb2.mono HB1.out.size))
    clear b1 hb2
    go_wp2
    go_ret
    exact ⟨rfl, HB2.out⟩
set_option maxRecDepth 100000 in
set_option maxHeartbeats 8000000 in
theorem callNews_yes (id life : Int) (cf : Cf) (h1 : newOK id life cf.ho) (h2 : rightP cf) (h3 : id ≤ cf.cl) (w : World) : Calls Tryz.prog 6 #[.int .i64 id, .int .i64 life, cf.v] w fun e w' => e = .returned (.bool true) ∧ Below w.heap.size w w' := by
  have HYES := hid (call_new id life cf h1 h2 h3)
  have b := blk7 (heap_new w (.cells #[.int .i64 cf.cl, .int .i64 cf.de, .int .i64 cf.ne, .int .i64 cf.li, .int .i64 cf.pr, .int .i64 cf.qu, .int .i64 cf.ho] 23))
  have HN := hid (heap_new w (.cells #[.int .i64 cf.cl, .int .i64 cf.de, .int .i64 cf.ne, .int .i64 cf.li, .int .i64 cf.pr, .int .i64 cf.qu, .int .i64 cf.ho] 23))
  have HB := hid (bl1 w (.cells #[.int .i64 cf.cl, .int .i64 cf.de, .int .i64 cf.ne, .int .i64 cf.li, .int .i64 cf.pr, .int .i64 cf.qu, .int .i64 cf.ho] 23))
  unfold newOK at h1
  unfold rightP at h2
  have g0 : decide (cf.cl ≥ 1) = true := by simp; omega
  have k0 : decide (1 ≤ cf.cl) = true := by simp; omega
  have g1 : decide (cf.cl ≤ 4) = true := by simp; omega
  have k1 : decide (cf.cl ≤ 4) = true := by simp; omega
  have g2 : decide (cf.de ≥ 1) = true := by simp; omega
  have k2 : decide (1 ≤ cf.de) = true := by simp; omega
  have g3 : decide (cf.de ≤ 64) = true := by simp; omega
  have k3 : decide (cf.de ≤ 64) = true := by simp; omega
  have g4 : decide (cf.ne ≥ 1) = true := by simp; omega
  have k4 : decide (1 ≤ cf.ne) = true := by simp; omega
  have g5 : decide (cf.ne ≤ 16) = true := by simp; omega
  have k5 : decide (cf.ne ≤ 16) = true := by simp; omega
  have g6 : decide (cf.li ≥ 0) = true := by simp; omega
  have k6 : decide (0 ≤ cf.li) = true := by simp; omega
  have g7 : decide (cf.li ≤ 8) = true := by simp; omega
  have k7 : decide (cf.li ≤ 8) = true := by simp; omega
  have g8 : decide (cf.pr ≥ 1) = true := by simp; omega
  have k8 : decide (1 ≤ cf.pr) = true := by simp; omega
  have g9 : decide (cf.pr ≤ 32) = true := by simp; omega
  have k9 : decide (cf.pr ≤ 32) = true := by simp; omega
  have g10 : decide (cf.qu ≥ 1) = true := by simp; omega
  have k10 : decide (1 ≤ cf.qu) = true := by simp; omega
  have g11 : decide (cf.qu ≤ 16) = true := by simp; omega
  have k11 : decide (cf.qu ≤ 16) = true := by simp; omega
  have g12 : decide (cf.ho ≥ 0) = true := by simp; omega
  have k12 : decide (0 ≤ cf.ho) = true := by simp; omega
  have g13 : decide (cf.ho ≤ 8) = true := by simp; omega
  have k13 : decide (cf.ho ≤ 8) = true := by simp; omega
  have l0 : decide (id < 1) = false := by simp; omega
  have m0 : decide (id < 1) = false := by simp; omega
  have l1 : decide (id > cf.cl) = false := by simp; omega
  have m1 : decide (cf.cl < id) = false := by simp; omega
  have l2 : decide (life < 1) = false := by simp; omega
  have m2 : decide (life < 1) = false := by simp; omega
  have l3 : decide (life > 1099511627776) = false := by simp; omega
  have m3 : decide (1099511627776 < life) = false := by simp; omega
  clear h1 h2 h3
  unfold Cf.v at HYES ⊢
  go_enter Tryz.func6, Tryz.ntmps6
  go_wp2_with fail
  refine (HYES.out _).mono ?_; rintro e w1 ⟨c, t, B, p, rfl, hC1, hcz, htz, hBz, hb1⟩
  have b1 := blk7 (heap_below hb1 HN.out (blk_lt HN.out))
  have HC1 := hid hC1
  have HB1 := hid (HB.out.trans (hb1.mono HB.out.size))
  clear b hC1 hb1 hcz htz hBz
  go_wp2_with fail
  refine (show Calls _ _ _ w1 (fun e w' => e = .returned (.bool false) ∧ w1 = w') from cli_busy w1 c t B p 0 _ _ [] _ HC1.out).mono ?_; rintro e w2 ⟨rfl, rfl⟩
  go_wp2_with fail
  refine (show Calls _ _ _ w1 (fun e w' => e = .returned (.int .i64 0) ∧ w1 = w') from cli_version w1 c t B p 0 _ _ [] _ HC1.out).mono ?_; rintro e w2 ⟨rfl, rfl⟩
  have hce : ∀ W : World, (binOp .eql 46 (.complex .f64 0 0) (.complex .f64 0 0)).run Tryz.prog W = .ok (.bool true) W := fun W => by kernel_rfl
  go_wp2_with fail
  refine (show Calls _ _ _ w1 (fun e w' => e = .returned (.complex .f64 0 0) ∧ w1 = w') from cli_mark w1 c t B p 0 _ _ [] _ HC1.out).mono ?_; rintro e w2 ⟨rfl, rfl⟩
  go_wp2_with fail
  refine (cli_entries w1 c t B p 0 _ _ [] _ HC1.out (by decide)).mono ?_; rintro e w2 ⟨ae, ce, rfl, _, hb2⟩
  have HC2 := hid (HC1.out.below hb2)
  have HB2 := hid (HB1.out.trans (hb2.mono HB1.out.size))
  clear hb2 b1
  go_wp2_with fail
  refine (cli_whole w2 c t B p 0 _ _ [] _ 1 HC2.out).mono ?_; rintro e w3 ⟨rfl, rfl⟩
  go_wp2_with fail
  refine (cli_held w2 c t B p 0 _ _ [] _ HC2.out).mono ?_; rintro e w3 ⟨rfl, rfl⟩
  go_wp2_with fail
  refine (tick_none w2 c t B p 0 _ _ [] _ HC2.out rfl rfl rfl).mono ?_; rintro e w3 ⟨rfl, rfl⟩
  go_wp2_with fail
  refine (call_awake _).mono ?_; rintro e w3 ⟨rfl, hb3⟩
  have HB3 := hid (HB2.out.trans (hb3.mono HB2.out.size))
  clear hb3
  go_wp2
  go_ret
  exact ⟨rfl, HB3.out⟩
theorem callNews_walk (id life : Int) (cf : Cf) (w : World) : Calls Tryz.prog 6 #[.int .i64 id, .int .i64 life, cf.v] w fun e w' => e = .returned (.bool true) ∧ Below w.heap.size w w' := by
  by_cases h : newOK id life cf.ho ∧ rightP cf ∧ id ≤ cf.cl
  · exact callNews_yes id life cf h.1 h.2.1 h.2.2 w
  · exact callNews_no id life cf h w
end Go.Proofs.YtbjibkjenleloaaGreatDoor

end
