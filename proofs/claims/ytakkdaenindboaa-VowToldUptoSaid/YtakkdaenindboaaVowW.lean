import Derived.Test.YtakkdaenindboaaVowV
namespace Go.Proofs.Ytakkdaenindboaa
set_option linter.unusedVariables false
set_option linter.unusedSimpArgs false
open Go.RowKit
attribute [local go_sem ↓] Go.wp_at_zero Go.wp_at_succ
attribute [local go_sem] run_store_complex run_store_float

theorem box2 {w w' : World} {B : Nat} {T : TypeId} {v0 v1 v2 v3 v4 : Value} (h : w.heap[B]? = some (.cells #[v0, v1, v2, v3, v4] T (0, 0))) (hb : Below w.heap.size w w') : w'.cell? ⟨B, 4, none⟩ = some v4 ∧ w'.cell? ⟨B, 1, none⟩ = some v1 := by
  obtain ⟨_, c1, _, _, c4, _⟩ := blk5 (heap_below hb h (blk_lt h))
  exact ⟨c4, c1⟩
theorem BrsAt.drew1 {w : World} {B : Nat} {a : Option Addr} {c : Nat} {R : List Bk} (h : BrsAt w B a c R) : BrsAt w.drew B a c R := ⟨h.row, h.each⟩
theorem ks4 {w : World} {l1 l2 l3 l4 l5 : Addr} {u1 u2 u3 u4 u5 : Value} (h : w.cell? l1 = some u1 ∧ w.cell? l2 = some u2) (h3 : w.cell? l3 = some u3) (h4 : w.cell? l4 = some u4) (h5 : w.cell? l5 = some u5) : w.cell? l1 = some u1 ∧ w.cell? l2 = some u2 ∧ w.cell? l3 = some u3 ∧ w.cell? l4 = some u4 ∧ w.cell? l5 = some u5 := ⟨h.1, h.2, h3, h4, h5⟩
theorem boxc {w wc wd : World} {F : Nat → Prop} {B : Nat} {T : TypeId} {v0 v1 v2 v3 v4 : Value} (h : w.heap[B]? = some (.cells #[v0, v1, v2, v3, v4] T (0, 0))) (hb : Below w.drew.heap.size w.drew wc) (hc : Chg F wc wd) (hF : ∀ k, F k → k < B) : wd.cell? ⟨B, 4, none⟩ = some v4 ∧ wd.cell? ⟨B, 1, none⟩ = some v1 := by
  have h1 : w.drew.heap[B]? = _ := h
  obtain ⟨_, c1, _, _, c4, _⟩ := blk5 (heap_chg hc (heap_below hb h1 (blk_lt h1)) (fun hf => by have := hF _ hf; omega))
  exact ⟨c4, c1⟩

set_option maxRecDepth 100000 in
set_option maxHeartbeats 16000000 in
theorem vowBounds_walk (pr qu : Int) (sa : Option Addr) (sc : Nat) (S : List Vop) (w : World) (hS : ScrV w (.slice sa S.length sc) S) (hz : S.length ≤ 1048576) (hkz : ∀ x ∈ S, x.ks.length * 24 ≤ 140737488351232) (h64 : ∀ x ∈ S, I64 x.ep ∧ I64 x.num) :
    Calls Try.prog 9 #[.int .i64 pr, .int .i64 qu, .slice sa S.length sc] w fun e w' => e = .returned (.bool true) ∧ Below w.heap.size w w' := by
  have HS := hid hS
  have HKZ := hid hkz
  have H64 := hid h64
  clear hS hkz h64
  go_enter Try.func9, Try.ntmps9
  go_wp2_with fail
  by_cases hE : NewOk 1 pr qu
  · have HEOK := hid hE
    refine (v_new_yes _ 1 pr qu hE).mono ?_
    rintro e w1 ⟨rfl, hv1, hb1⟩
    have HS1 := hid (show VS w w1 (fun k => k = w.heap.size) w.heap.size ⟨1, 0, pr, qu, [], []⟩ from ⟨hv1, fun k hk => by omega, hb1⟩)
    clear hv1 hb1
    go_wp2_with fail
    go_loopw [9] (fun v9 wr => ∃ (i : Nat) (F : Nat → Prop) (t : Ts), i ≤ S.length ∧ v9 = .int .i64 i ∧ Hid (VS w wr F w.heap.size t) ∧ Hid (t.n ≤ (i : Int) ∧ t.P = pr ∧ t.Q = qu)) (fun v9 _ => S.length - (intOf v9).toNat)
    case atStart => exact ⟨0, _, _, by omega, rfl, HS1, hid ⟨Int.le_refl _, rfl, rfl⟩⟩
    case round =>
      obtain ⟨i, F, t, hi, rfl, HV, HT⟩ := hrel
      obtain ⟨wo, hwo⟩ : ∃ wo, wo = wr := ⟨_, rfl⟩
      subst hwo
      by_cases hlt : i < S.length
      · obtain ⟨b, off, rfl⟩ := HS.out.loc (by omega)
        obtain ⟨x, hx⟩ : ∃ x, S[i]? = some x := ⟨_, List.getElem?_eq_getElem hlt⟩
        have hmem : x ∈ S := List.mem_of_getElem? hx
        have CE := scrV_at HS.out HV.out.below hx
        have HKL := hid (HKZ.out x hmem)
        have HI64 := hid (H64.out x hmem)
        have HKR := hid (show Rd wo (.slice x.a x.ks.length x.c) x.ks.length (kyc x.ks) from (show Rd w (.slice x.a x.ks.length x.c) x.ks.length (kyc x.ks) from HS.out.each x hmem).below HV.out.below)
        have HN40 := hid (show t.n < 1099511627776 by have := HT.out.1; omega)
        have hi0 : (0 : Int) ≤ (i : Int) := by omega
        have hi1 : (i : Int) < (S.length : Int) := by omega
        have hbox := heap_new wo (.cells #[.int .i64 x.kind, .int .i64 x.ver, .int .i64 x.ep, .int .i64 x.num, .slice x.a x.ks.length x.c] 30)
        have HBOX := hid hbox
        have BX := blk5 hbox
        have hB1 := bl1 wo (.cells #[.int .i64 x.kind, .int .i64 x.ver, .int .i64 x.ep, .int .i64 x.num, .slice x.a x.ks.length x.c] 30)
        have HV1 := hid (HV.out.alloc hB1)
        have HKR1 := hid (HKR.out.below hB1)
        have HFW := hid (HV.out.v.lt)
        have HBW := hid hB1
        clear hx hmem hbox hB1
        go_wp2_with fail
        refine (v_promises _ _ _ _ HV1.out.v).mono ?_; rintro e w3 ⟨pa, pc, rfl, ho3, hb3⟩
        have HV3 := hid (HV1.out.alloc hb3)
        have HO3 := hid (Rd.own ho3)
        have HOL := hid ho3
        have hk3 := heap_below hb3 HBOX.out (blk_lt HBOX.out)
        have HBOX3 := hid hk3
        have BX3 := blk5 hk3
        have HKR3 := hid (HKR1.out.below hb3)
        have HB13 := hid hb3
        clear ho3 hb3 hk3 BX
        go_wp2_with fail
        refine (v_mark _ _ _ _ HV3.out.v).mono ?_; rintro e wx ⟨rfl, rfl⟩
        go_wp2_with fail
        refine (place_pos _ 3 _ (by omega) (by omega)).mono ?_; rintro e wx ⟨rfl, rfl⟩
        have h4 : x.kind % 3 = 0 ∨ x.kind % 3 = 1 ∨ x.kind % 3 = 2 := by omega
        have HQ := hid h4
        clear h4 CE
        go_upto_block 2 with (fail)
        go_cut [13] (fun v13 wx => ∃ (F' : Nat → Prop) (t' : Ts) (a : Option Addr) (c : Nat) (R : List Bk), v13 = .slice a R.length c ∧ Hid (VS w wx F' w.heap.size t') ∧ Hid (BrsAt wx 0 a c R) ∧ Hid (Stp t x.ver t' (R.map Bk.pl)) ∧ Hid (Chg F w3 wx))
        case first =>
          as_aux_lemma =>
            rcases HQ.out with hq | hq | hq
            · have ht0 : (x.kind % 3 == 0) = true := by simp [hq]
              clear hq
              go_wp2_with fail
              have hV0 := HV3.out.alloc (below_drew1 _)
              have hS0 := box2 HBOX3.out (below_drew1 _)
              refine held_start (fun w' => w'.cell? ⟨wo.heap.size, 4, none⟩ = some (.slice x.a x.ks.length x.c) ∧ w'.cell? ⟨wo.heap.size, 1, none⟩ = some (.int .i64 x.ver)) (by kernel_rfl) ?_ (fun hHeld => ?_)
              · first | exact hS0 | exact hSA | exact boxc HBOX3.out hb1 hC2 HFW.out
              refine held_take 0 rfl (by kernel_rfl) (by kernel_rfl) (by kernel_rfl) (fun _ _ _ h => h) hHeld (by rfl) (v := ?_) ?_ ?_
              rotate_left
              · intro w hSw; (try dsimp only at hSw); (try go_simp); (try with_reducible rfl)
              try simp only [Act.put, List.setIfInBounds_toArray, List.set_cons_zero, List.set_cons_succ]
              refine held_take 1 rfl (by kernel_rfl) (by kernel_rfl) (by kernel_rfl) (fun _ _ _ h => h) hHeld (by rfl) (v := ?_) ?_ ?_
              rotate_left
              · intro w hSw; (try dsimp only at hSw); (try go_simp); (try with_reducible rfl)
              try simp only [Act.put, List.setIfInBounds_toArray, List.set_cons_zero, List.set_cons_succ]
              refine held_take 2 rfl (by kernel_rfl) (by kernel_rfl) (by kernel_rfl) (fun _ _ _ h => h) hHeld (by rfl) (v := ?_) ?_ ?_
              rotate_left
              · intro w hSw; (try dsimp only at hSw); (try go_simp); (try with_reducible rfl)
              try simp only [Act.put, List.setIfInBounds_toArray, List.set_cons_zero, List.set_cons_succ]
              refine held_take 4 rfl (by kernel_rfl) (by kernel_rfl) (by kernel_rfl) (fun _ _ _ h => h) hHeld (by rfl) (v := ?_) ?_ ?_
              rotate_left
              · intro w hSw; (try dsimp only at hSw); (try go_simp); (try with_reducible rfl)
              try simp only [Act.put, List.setIfInBounds_toArray, List.set_cons_zero, List.set_cons_succ]
              refine held_take 5 rfl (by kernel_rfl) (by kernel_rfl) (by kernel_rfl) (fun _ _ _ h => h) hHeld (by rfl) (v := ?_) ?_ ?_
              rotate_left
              · intro w hSw; (try dsimp only at hSw); (try go_simp); (try with_reducible rfl)
              try simp only [Act.put, List.setIfInBounds_toArray, List.set_cons_zero, List.set_cons_succ]
              refine held_step 3 rfl (by kernel_rfl) (by rfl) (fun Kx hK => ?_)
              go_simp
              go_at_call 17; refine (first_key (.slice x.a x.ks.length x.c) x.ks _ (HKR3.out.below (below_drew1 _))).mono ?_; rintro e wc ⟨rfl, hb1⟩; have hV1 := hV0.alloc hb1; have hSA := keep2 hS0 hb1
              refine hK.out _ _ ?_ (fun hHeld2 => ?_)
              · (try dsimp only); first | exact hS0 | exact hSA | exact boxc HBOX3.out hb1 hC2 HFW.out
              clear hK Kx hHeld
              have hHeld := hHeld2
              clear hHeld2
              try simp only [Act.put, List.setIfInBounds_toArray, List.set_cons_zero, List.set_cons_succ]
              refine held_step 6 rfl (by kernel_rfl) (by rfl) (fun Kx hK => ?_)
              go_simp
              go_at_call 16; refine (t_grant _ _ _ _ (firstK x.ks).dir (firstK x.ks).name x.ver hV1.v).mono ?_; rintro e wd hp; obtain ⟨F2, a2, c2, R2, rfl, hV2, hR2, hB2, hO2', hC2, hF2⟩ := hV1.brk hp; clear hp hO2' hF2; have hSB := trivial
              refine hK.out _ _ ?_ (fun hHeld2 => ?_)
              · (try dsimp only); first | exact hS0 | exact hSA | exact boxc HBOX3.out hb1 hC2 HFW.out
              clear hK Kx hHeld
              have hHeld := hHeld2
              clear hHeld2
              try simp only [Act.put, List.setIfInBounds_toArray, List.set_cons_zero, List.set_cons_succ]
              refine held_take 7 rfl (by kernel_rfl) (by kernel_rfl) (by kernel_rfl) (fun _ _ _ h => h) hHeld (by rfl) (v := ?_) ?_ ?_
              rotate_left
              · intro w hSw; (try dsimp only at hSw); (try go_simp); (try with_reducible rfl)
              try simp only [Act.put, List.setIfInBounds_toArray, List.set_cons_zero, List.set_cons_succ]
              refine wpAnyH_done (by kernel_rfl) ?_ _
              go_wp2_with fail
              go_meet
              case rel => exact ⟨_, _, _, _, _, rfl, hid hV2, hid hB2.weak, hid (by rw [hR2]; exact grant_stp HN40.out), hid (((Chg.below ((below_drew1 _).trans (hb1.mono (Nat.le_refl _)))).mono (fun _ _ h => h.elim)).trans hC2 (fun _ _ h => h) (fun _ _ h => h))⟩
            · have ht0 : (x.kind % 3 == 0) = false := by simp [hq]
              have ht1 : (x.kind % 3 == 1) = true := by simp [hq]
              clear hq
              go_wp2_with fail
              have hV0 := HV3.out.alloc (below_drew1 _)
              have hS0 := box2 HBOX3.out (below_drew1 _)
              refine held_start (fun w' => w'.cell? ⟨wo.heap.size, 4, none⟩ = some (.slice x.a x.ks.length x.c) ∧ w'.cell? ⟨wo.heap.size, 1, none⟩ = some (.int .i64 x.ver)) (by kernel_rfl) ?_ (fun hHeld => ?_)
              · first | exact hS0 | exact hSA | exact boxc HBOX3.out hb1 hC2 HFW.out
              refine held_take 0 rfl (by kernel_rfl) (by kernel_rfl) (by kernel_rfl) (fun _ _ _ h => h) hHeld (by rfl) (v := ?_) ?_ ?_
              rotate_left
              · intro w hSw; (try dsimp only at hSw); (try go_simp); (try with_reducible rfl)
              try simp only [Act.put, List.setIfInBounds_toArray, List.set_cons_zero, List.set_cons_succ]
              refine held_take 1 rfl (by kernel_rfl) (by kernel_rfl) (by kernel_rfl) (fun _ _ _ h => h) hHeld (by rfl) (v := ?_) ?_ ?_
              rotate_left
              · intro w hSw; (try dsimp only at hSw); (try go_simp); (try with_reducible rfl)
              try simp only [Act.put, List.setIfInBounds_toArray, List.set_cons_zero, List.set_cons_succ]
              refine held_take 2 rfl (by kernel_rfl) (by kernel_rfl) (by kernel_rfl) (fun _ _ _ h => h) hHeld (by rfl) (v := ?_) ?_ ?_
              rotate_left
              · intro w hSw; (try dsimp only at hSw); (try go_simp); (try with_reducible rfl)
              try simp only [Act.put, List.setIfInBounds_toArray, List.set_cons_zero, List.set_cons_succ]
              refine held_take 4 rfl (by kernel_rfl) (by kernel_rfl) (by kernel_rfl) (fun _ _ _ h => h) hHeld (by rfl) (v := ?_) ?_ ?_
              rotate_left
              · intro w hSw; (try dsimp only at hSw); (try go_simp); (try with_reducible rfl)
              try simp only [Act.put, List.setIfInBounds_toArray, List.set_cons_zero, List.set_cons_succ]
              refine held_take 5 rfl (by kernel_rfl) (by kernel_rfl) (by kernel_rfl) (fun _ _ _ h => h) hHeld (by rfl) (v := ?_) ?_ ?_
              rotate_left
              · intro w hSw; (try dsimp only at hSw); (try go_simp); (try with_reducible rfl)
              try simp only [Act.put, List.setIfInBounds_toArray, List.set_cons_zero, List.set_cons_succ]
              refine held_step 3 rfl (by kernel_rfl) (by rfl) (fun Kx hK => ?_)
              go_simp
              go_at_call 15; refine (copyKeys_any (.slice x.a x.ks.length x.c) x.ks _ (HKR3.out.below (below_drew1 _)) HKL.out).mono ?_; rintro e wc ⟨ca, cc, rfl, ho1, hb1⟩; have hV1 := hV0.alloc hb1; have hO1 := hid (Rd.own ho1); clear ho1; have hSA := keep2 hS0 hb1
              refine hK.out _ _ ?_ (fun hHeld2 => ?_)
              · (try dsimp only); first | exact hS0 | exact hSA | exact boxc HBOX3.out hb1 hC2 HFW.out
              clear hK Kx hHeld
              have hHeld := hHeld2
              clear hHeld2
              try simp only [Act.put, List.setIfInBounds_toArray, List.set_cons_zero, List.set_cons_succ]
              refine held_step 6 rfl (by kernel_rfl) (by rfl) (fun Kx hK => ?_)
              go_simp
              go_at_call 14; refine (t_touch _ _ _ _ _ x.ks x.ver hV1.v hO1.out (by have := HKL.out; omega)).mono ?_; rintro e wd hp; obtain ⟨F2, a2, c2, R2, rfl, hV2, hR2, hB2, hO2', hC2, hF2⟩ := hV1.brk hp; clear hp hO2' hF2; have hSB := trivial
              refine hK.out _ _ ?_ (fun hHeld2 => ?_)
              · (try dsimp only); first | exact hS0 | exact hSA | exact boxc HBOX3.out hb1 hC2 HFW.out
              clear hK Kx hHeld
              have hHeld := hHeld2
              clear hHeld2
              try simp only [Act.put, List.setIfInBounds_toArray, List.set_cons_zero, List.set_cons_succ]
              refine held_take 7 rfl (by kernel_rfl) (by kernel_rfl) (by kernel_rfl) (fun _ _ _ h => h) hHeld (by rfl) (v := ?_) ?_ ?_
              rotate_left
              · intro w hSw; (try dsimp only at hSw); (try go_simp); (try with_reducible rfl)
              try simp only [Act.put, List.setIfInBounds_toArray, List.set_cons_zero, List.set_cons_succ]
              refine wpAnyH_done (by kernel_rfl) ?_ _
              go_wp2_with fail
              go_meet
              case rel => exact ⟨_, _, _, _, _, rfl, hid hV2, hid hB2.weak, hid (by rw [hR2]; exact touch_stp HN40.out), hid (((Chg.below ((below_drew1 _).trans (hb1.mono (Nat.le_refl _)))).mono (fun _ _ h => h.elim)).trans hC2 (fun _ _ h => h) (fun _ _ h => h))⟩
            · have ht0 : (x.kind % 3 == 0) = false := by simp [hq]
              have ht1 : (x.kind % 3 == 1) = false := by simp [hq]
              have ht2 : (x.kind % 3 == 2) = true := by simp [hq]
              clear hq
              go_wp2_with fail
              refine (law_mark _ _ _).mono ?_; rintro e wx ⟨rfl, rfl⟩
              go_wp2_with fail
              by_cases hak : AckOk t x.ep x.num
              · refine (v_ack_yes _ _ _ _ _ _ HV3.out.v hak).mono ?_; rintro e w12 ⟨rfl, hv12, hch12⟩
                have HV12 := hid (HV3.out.turn hv12 hch12)
                have HCH := hid hch12
                clear hv12 hch12 hak
                go_wp2_with fail
                go_meet
                case rel => exact ⟨_, _, none, 0, [], rfl, HV12, hid (brs_nil _ _), hid ack_stp, HCH⟩
              · refine (v_ack_no _ _ _ _ _ _ HI64.out.1 HI64.out.2 HV3.out.v hak).mono ?_; rintro e w12 ⟨rfl, hb12⟩
                have HV12 := hid (HV3.out.alloc hb12)
                have HCH := hid ((Chg.below hb12).mono (G := F) (fun _ _ h => h.elim))
                clear hb12 hak
                go_wp2_with fail
                go_meet
                case rel => exact ⟨_, _, none, 0, [], rfl, HV12, hid (brs_nil _ _), hid (show Stp t x.ver t [] from ⟨rfl, rfl, rfl, .inl ⟨rfl, rfl, fun _ h => h⟩⟩), HCH⟩
        case rest =>
          obtain ⟨F', t', a5, c5, R5, rfl, HV5, HB5, HST, HC5⟩ := hcut
          obtain ⟨w5, hw5⟩ := VS.named HV5.out
          subst hw5
          have HBX5 := hid (heap_chg HC5.out HBOX3.out (fun hf => by have := HFW.out _ hf; omega))
          have HO5 := hid (Rd.own (ownsRow_chg HOL.out fun k hk hl => HC5.out.block k hl (fun hf => by have h1 := HFW.out _ hf; have h2 := (own_lt HOL.out hk).1; simp at h2; omega)))
          have hk32 : t.ks.length ≤ 32 := by have h1 := HV3.out.v.ok.hk; have h2 := HV3.out.v.ok.hP; omega
          have hq16 : qu ≤ 16 := HEOK.out.2.2.2
          have hok := HV5.out.v.ok
          have hkq : (t'.ks.length : Int) ≤ pr := by have := hok.hk; rw [HST.out.P, HT.out.2.1] at this; exact this
          have n1 : decide ((t'.ks.length : Int) > pr) = false := decide_eq_false (by omega)
          have n1' : decide (pr < (t'.ks.length : Int)) = false := decide_eq_false (by omega)
          have HQL := hid (show (t'.qs.length : Int) ≤ qu by have := hok.hq; rw [HST.out.Q, HT.out.2.2] at this; exact this)
          have HM1 := hid (show InM t.e ∧ InM t.n from ⟨HV3.out.v.ok.he, HV3.out.v.ok.hn⟩)
          clear hok
          go_wp2_with fail
          refine (v_promises _ _ _ _ HV5.out.v).mono ?_; rintro e w6 ⟨a6, c6, rfl, ho6, hb6⟩
          have HV6 := hid (HV5.out.alloc hb6)
          have HB6 := hid hb6
          clear ho6 hb6
          go_wp2_with fail
          refine (v_queue _ _ _ _ HV6.out.v).mono ?_; rintro e w7 ⟨qa, qc, Rq, rfl, HRq, hBRq, hb7⟩
          obtain ⟨M, hM⟩ : ∃ M, M = Rq.length := ⟨_, rfl⟩
          have hMq : (M : Int) ≤ qu := by have := HQL.out; have h2 := map_len HRq.out; omega
          have n2 : decide ((M : Int) > qu) = false := decide_eq_false (by omega)
          have n2' : decide (qu < (M : Int)) = false := decide_eq_false (by omega)
          rw [← hM]
          have HV7 := hid (HV6.out.alloc hb7)
          have HB57 := hid (HB6.out.trans (hb7.mono HB6.out.size))
          have HBQ := hid hBRq
          have HMD := hid hM
          have HE' := hid HST.out.e
          clear hBRq hb7 hM
          rcases HST.out.or with ⟨hL, hn', hkk⟩ | ⟨al, bks, q0, hL, hn', hqs, hal, hkk⟩
          · as_aux_lemma =>
              have hRn : R5 = [] := by simpa using hL
              subst hRn
              have z1 : decide (((0 : Nat) : Int) > 1) = false := by decide
              have z2 : (((0 : Nat) : Int) == 1) = false := by decide
              have z3 : (((0 : Nat) : Int) == 0) = true := by decide
              have t1 := ord_same HM1.out.1
              have t2 := ord_same HM1.out.2
              have HKK := hid hkk
              have HN' := hid hn'
              clear hL hn' hkk
              go_wp2_with fail
              refine (v_mark _ _ _ _ HV7.out.v).mono ?_; rintro e wx ⟨rfl, rfl⟩
              rw [HE'.out, HN'.out]
              go_wp2_with fail
              go_loopw [18] (fun v18 wr => ∃ k : Nat, k ≤ t.ks.length ∧ v18 = .int .i64 k ∧ Hid (Below w7.heap.size w7 wr)) (fun v18 _ => t.ks.length - (intOf v18).toNat)
              case atStart => exact ⟨0, by omega, rfl, hid (Below.refl _ _)⟩
              case round =>
                as_aux_lemma =>
                  obtain ⟨k, hk, rfl, HBK⟩ := hrel
                  by_cases hlt2 : k < t.ks.length
                  · obtain ⟨g0, o0, rfl⟩ := ks_loc HO5.out (by omega)
                    obtain ⟨y, hy⟩ : ∃ y, t.ks[k]? = some y := ⟨_, List.getElem?_eq_getElem hlt2⟩
                    have HYT := hid (HKK.out y (List.mem_of_getElem? hy))
                    have HYI := hid hy
                    have hk0 : (0 : Int) ≤ (k : Int) := by omega
                    have hk1 : (k : Int) < (t.ks.length : Int) := by omega
                    have HB5K := hid (HB57.out.trans (HBK.out.mono HB57.out.size))
                    clear hy
                    go_wp2_with fail
                    have hS0 := ks_at HO5.out (HB5K.out.trans ((below_drew1 _).mono HB5K.out.size)) HYI.out
                    refine held_start (fun w' => w'.cell? ⟨g0, o0 + k * 2, none⟩ = some (.int .i64 y.dir) ∧ w'.cell? ⟨g0, o0 + k * 2 + 1, none⟩ = some (.string y.name)) (by kernel_rfl) ?_ (fun hHeld => ?_)
                    · first | exact hS0 | exact hSA
                    refine held_take 0 rfl (by kernel_rfl) (by kernel_rfl) (by kernel_rfl) (fun _ _ _ h => h) hHeld (by rfl) (v := ?_) ?_ ?_
                    rotate_left
                    · intro w hSw; (try dsimp only at hSw); (try go_simp); (try with_reducible rfl)
                    try simp only [Act.put, List.setIfInBounds_toArray, List.set_cons_zero, List.set_cons_succ]
                    refine held_take 1 rfl (by kernel_rfl) (by kernel_rfl) (by kernel_rfl) (fun _ _ _ h => h) hHeld (by rfl) (v := ?_) ?_ ?_
                    rotate_left
                    · intro w hSw; (try dsimp only at hSw); (try go_simp); (try with_reducible rfl)
                    try simp only [Act.put, List.setIfInBounds_toArray, List.set_cons_zero, List.set_cons_succ]
                    refine held_take 2 rfl (by kernel_rfl) (by kernel_rfl) (by kernel_rfl) (fun _ _ _ h => h) hHeld (by rfl) (v := ?_) ?_ ?_
                    rotate_left
                    · intro w hSw; (try dsimp only at hSw); (try go_simp); (try with_reducible rfl)
                    try simp only [Act.put, List.setIfInBounds_toArray, List.set_cons_zero, List.set_cons_succ]
                    refine held_take 3 rfl (by kernel_rfl) (by kernel_rfl) (by kernel_rfl) (fun _ _ _ h => h) hHeld (by rfl) (v := ?_) ?_ ?_
                    rotate_left
                    · intro w hSw; (try dsimp only at hSw); (try go_simp); (try with_reducible rfl)
                    try simp only [Act.put, List.setIfInBounds_toArray, List.set_cons_zero, List.set_cons_succ]
                    refine held_take 4 rfl (by kernel_rfl) (by kernel_rfl) (by kernel_rfl) (fun _ _ _ h => h) hHeld (by rfl) (v := ?_) ?_ ?_
                    rotate_left
                    · intro w hSw; (try dsimp only at hSw); (try go_simp); (try with_reducible rfl)
                    try simp only [Act.put, List.setIfInBounds_toArray, List.set_cons_zero, List.set_cons_succ]
                    refine held_step 5 rfl (by kernel_rfl) (by rfl) (fun Kx hK => ?_)
                    go_simp
                    go_at_call 19; refine (v_holds _ F' _ t' y.dir y.name ((HV7.out.v.below HBK.out).below (below_drew1 _))).mono ?_; rintro e wh ⟨rfl, hbh⟩; rw [show decide ((⟨y.dir, y.name⟩ : Ky) ∈ t'.ks) = true from decide_eq_true HYT.out]; have hSA := keep2 hS0 hbh
                    refine hK.out _ _ ?_ (fun hHeld2 => ?_)
                    · (try dsimp only); first | exact hS0 | exact hSA
                    clear hK Kx hHeld
                    have hHeld := hHeld2
                    clear hHeld2
                    try simp only [Act.put, List.setIfInBounds_toArray, List.set_cons_zero, List.set_cons_succ]
                    refine held_take 6 rfl (by kernel_rfl) (by kernel_rfl) (by kernel_rfl) (fun _ _ _ h => h) hHeld (by rfl) (v := ?_) ?_ ?_
                    rotate_left
                    · intro w hSw; (try dsimp only at hSw); (try go_simp); (try with_reducible rfl)
                    try simp only [Act.put, List.setIfInBounds_toArray, List.set_cons_zero, List.set_cons_succ]
                    refine held_take 7 rfl (by kernel_rfl) (by kernel_rfl) (by kernel_rfl) (fun _ _ _ h => h) hHeld (by rfl) (v := ?_) ?_ ?_
                    rotate_left
                    · intro w hSw; (try dsimp only at hSw); (try go_simp); (try with_reducible rfl)
                    try simp only [Act.put, List.setIfInBounds_toArray, List.set_cons_zero, List.set_cons_succ]
                    refine held_skip 8 rfl (by kernel_rfl) (by kernel_rfl) (by kernel_rfl) (fun _ _ _ h => h) hHeld (by rfl) ?_
                    try simp only [Act.put, List.setIfInBounds_toArray, List.set_cons_zero, List.set_cons_succ]
                    refine held_skip 9 rfl (by kernel_rfl) (by kernel_rfl) (by kernel_rfl) (fun _ _ _ h => h) hHeld (by rfl) ?_
                    try simp only [Act.put, List.setIfInBounds_toArray, List.set_cons_zero, List.set_cons_succ]
                    refine held_skip 10 rfl (by kernel_rfl) (by kernel_rfl) (by kernel_rfl) (fun _ _ _ h => h) hHeld (by rfl) ?_
                    try simp only [Act.put, List.setIfInBounds_toArray, List.set_cons_zero, List.set_cons_succ]
                    refine held_skip 11 rfl (by kernel_rfl) (by kernel_rfl) (by kernel_rfl) (fun _ _ _ h => h) hHeld (by rfl) ?_
                    try simp only [Act.put, List.setIfInBounds_toArray, List.set_cons_zero, List.set_cons_succ]
                    refine held_skip 12 rfl (by kernel_rfl) (by kernel_rfl) (by kernel_rfl) (fun _ _ _ h => h) hHeld (by rfl) ?_
                    try simp only [Act.put, List.setIfInBounds_toArray, List.set_cons_zero, List.set_cons_succ]
                    refine held_skip 13 rfl (by kernel_rfl) (by kernel_rfl) (by kernel_rfl) (fun _ _ _ h => h) hHeld (by rfl) ?_
                    try simp only [Act.put, List.setIfInBounds_toArray, List.set_cons_zero, List.set_cons_succ]
                    refine held_skip 14 rfl (by kernel_rfl) (by kernel_rfl) (by kernel_rfl) (fun _ _ _ h => h) hHeld (by rfl) ?_
                    try simp only [Act.put, List.setIfInBounds_toArray, List.set_cons_zero, List.set_cons_succ]
                    refine held_skip 15 rfl (by kernel_rfl) (by kernel_rfl) (by kernel_rfl) (fun _ _ _ h => h) hHeld (by rfl) ?_
                    try simp only [Act.put, List.setIfInBounds_toArray, List.set_cons_zero, List.set_cons_succ]
                    refine held_skip 16 rfl (by kernel_rfl) (by kernel_rfl) (by kernel_rfl) (fun _ _ _ h => h) hHeld (by rfl) ?_
                    try simp only [Act.put, List.setIfInBounds_toArray, List.set_cons_zero, List.set_cons_succ]
                    refine held_skip 17 rfl (by kernel_rfl) (by kernel_rfl) (by kernel_rfl) (fun _ _ _ h => h) hHeld (by rfl) ?_
                    try simp only [Act.put, List.setIfInBounds_toArray, List.set_cons_zero, List.set_cons_succ]
                    refine held_skip 18 rfl (by kernel_rfl) (by kernel_rfl) (by kernel_rfl) (fun _ _ _ h => h) hHeld (by rfl) ?_
                    try simp only [Act.put, List.setIfInBounds_toArray, List.set_cons_zero, List.set_cons_succ]
                    refine held_skip 19 rfl (by kernel_rfl) (by kernel_rfl) (by kernel_rfl) (fun _ _ _ h => h) hHeld (by rfl) ?_
                    try simp only [Act.put, List.setIfInBounds_toArray, List.set_cons_zero, List.set_cons_succ]
                    refine held_skip 20 rfl (by kernel_rfl) (by kernel_rfl) (by kernel_rfl) (fun _ _ _ h => h) hHeld (by rfl) ?_
                    try simp only [Act.put, List.setIfInBounds_toArray, List.set_cons_zero, List.set_cons_succ]
                    refine held_skip 21 rfl (by kernel_rfl) (by kernel_rfl) (by kernel_rfl) (fun _ _ _ h => h) hHeld (by rfl) ?_
                    try simp only [Act.put, List.setIfInBounds_toArray, List.set_cons_zero, List.set_cons_succ]
                    refine held_skip 22 rfl (by kernel_rfl) (by kernel_rfl) (by kernel_rfl) (fun _ _ _ h => h) hHeld (by rfl) ?_
                    try simp only [Act.put, List.setIfInBounds_toArray, List.set_cons_zero, List.set_cons_succ]
                    refine held_skip 23 rfl (by kernel_rfl) (by kernel_rfl) (by kernel_rfl) (fun _ _ _ h => h) hHeld (by rfl) ?_
                    try simp only [Act.put, List.setIfInBounds_toArray, List.set_cons_zero, List.set_cons_succ]
                    refine held_skip 24 rfl (by kernel_rfl) (by kernel_rfl) (by kernel_rfl) (fun _ _ _ h => h) hHeld (by rfl) ?_
                    try simp only [Act.put, List.setIfInBounds_toArray, List.set_cons_zero, List.set_cons_succ]
                    refine held_skip 25 rfl (by kernel_rfl) (by kernel_rfl) (by kernel_rfl) (fun _ _ _ h => h) hHeld (by rfl) ?_
                    try simp only [Act.put, List.setIfInBounds_toArray, List.set_cons_zero, List.set_cons_succ]
                    refine held_skip 26 rfl (by kernel_rfl) (by kernel_rfl) (by kernel_rfl) (fun _ _ _ h => h) hHeld (by rfl) ?_
                    try simp only [Act.put, List.setIfInBounds_toArray, List.set_cons_zero, List.set_cons_succ]
                    refine held_skip 27 rfl (by kernel_rfl) (by kernel_rfl) (by kernel_rfl) (fun _ _ _ h => h) hHeld (by rfl) ?_
                    try simp only [Act.put, List.setIfInBounds_toArray, List.set_cons_zero, List.set_cons_succ]
                    refine held_skip 28 rfl (by kernel_rfl) (by kernel_rfl) (by kernel_rfl) (fun _ _ _ h => h) hHeld (by rfl) ?_
                    try simp only [Act.put, List.setIfInBounds_toArray, List.set_cons_zero, List.set_cons_succ]
                    refine held_skip 29 rfl (by kernel_rfl) (by kernel_rfl) (by kernel_rfl) (fun _ _ _ h => h) hHeld (by rfl) ?_
                    try simp only [Act.put, List.setIfInBounds_toArray, List.set_cons_zero, List.set_cons_succ]
                    refine held_take 30 rfl (by kernel_rfl) (by kernel_rfl) (by kernel_rfl) (fun _ _ _ h => h) hHeld (by rfl) (v := ?_) ?_ ?_
                    rotate_left
                    · intro w hSw; (try dsimp only at hSw); (try go_simp); (try with_reducible rfl)
                    try simp only [Act.put, List.setIfInBounds_toArray, List.set_cons_zero, List.set_cons_succ]
                    refine wpAnyH_done (by kernel_rfl) ?_ _
                    have HBK2 := hid (HBK.out.trans (((below_drew1 _).trans hbh).mono HBK.out.size))
                    clear hHeld hS0 hSA hbh
                    go_wp2
                    exact ⟨⟨k + 1, by omega, by go_num, HBK2⟩, by simp [intOf]; omega⟩
                  · have HIN := hid (show t'.n ≤ ((i + 1 : Nat) : Int) ∧ t'.P = pr ∧ t'.Q = qu from ⟨by have := HT.out.1; have h2 := HN'.out; omega, by rw [HST.out.P]; exact HT.out.2.1, by rw [HST.out.Q]; exact HT.out.2.2⟩)
                    have HVN := hid (HV7.out.alloc HBK.out)
                    clear t1 t2
                    go_wp2
                    exact ⟨⟨i + 1, F', t', by omega, by go_num, HVN, HIN⟩, by simp [intOf]; omega⟩
          · as_aux_lemma =>
              have hR5 : R5.map Bk.pl = [⟨t.e, t.n + 1, x.ver, al, bks⟩] := hL
              obtain ⟨g, kb, kd, rfl, rfl, hgz, p0, p1, p2, p3, q4⟩ := one_brk HB5.out hR5
              have HPS := hid (And.intro p0 (And.intro p1 (And.intro p2 p3)))
              have HQ4 := hid (Rd.own q4)
              obtain ⟨m0, hm0⟩ : ∃ m0, m0 = q0.length := ⟨_, rfl⟩
              have hMm : M = m0 + 1 := by rw [HMD.out, map_len HRq.out, hqs, hm0]; simp
              have hsl := fun w => run_slice_from 31 41 4 qa M qc m0 Try.underlying31 (fun w => Try.sizeOf41 w) (by omega) w
              have hmk : ∀ W, BrsAt W w6.heap.size qa qc Rq → BrAt W (Value.slice (if qc = m0 then qa else qa.map (·.add (m0 * 4))) (M - m0) (qc - m0)) (Rq.drop m0) := fun W hW => by
                have := br_from (l := m0) hW.rd (by rw [← HMD.out]; omega)
                rwa [← HMD.out] at this
              generalize hsv : (Value.slice (if qc = m0 then qa else qa.map (·.add (m0 * 4))) (M - m0) (qc - m0)) = sv at hsl hmk
              have HMK := hid hmk
              have hw0 : IntKind.i64.wrap ((M : Int) - 1) = (m0 : Int) := by
                have h1 : (M : Int) - 1 = (m0 : Int) := by omega
                rw [h1]; exact IntWalk.i64_in _ (by omega)
              have hz0 : 0 ≤ (M : Int) - 1 := by omega
              have z1 : decide (((1 : Nat) : Int) > 1) = false := by decide
              have z2 : (((1 : Nat) : Int) == 1) = true := by decide
              have z3 : (((1 : Nat) : Int) == 0) = false := by decide
              have zM : ((M : Int) == 0) = false := by rw [beq_eq_false_iff_ne]; omega
              have zM' : (M == 0) = false := by rw [beq_eq_false_iff_ne]; omega
              have zl : ((bks.length : Int) == 0) = al := by rw [hal]; cases bks <;> simp; omega
              have zl' : (bks.length == 0) = al := by rw [hal]; cases bks <;> simp
              have HDR := hid (show (Rq.drop m0).map Bk.pl = [⟨t.e, t.n + 1, x.ver, al, bks⟩] by rw [List.map_drop, HRq.out, hqs, hm0, List.drop_left])
              have HN1 := hid (show InM (t.n + 1) from ⟨by have := HM1.out.2.1; omega, by have := HN40.out; omega⟩)
              have t1 := ord_same HM1.out.1
              have t3 := ord_same HN1.out
              have HKK := hid hkk
              have HN' := hid hn'
              have HAL := hid hal
              clear hL hR5 hn' hkk hqs hal hgz p0 p1 p2 p3 q4 hmk hsv hm0 hMm
              go_wp2_with fail
              refine (next_yes t.e t.n HM1.out.1 HM1.out.2 HN40.out _).mono ?_; rintro e wx ⟨rfl, rfl⟩
              go_wp2_with fail
              have hbd := HB57.out.trans ((below_drew1 _).mono HB57.out.size)
              have HBD := hid hbd
              have hS0 : w7.drew.cell? ⟨g, 0, none⟩ = some (.complex .f64 (fl t.e) (fl (t.n + 1))) ∧ w7.drew.cell? ⟨g, 1, none⟩ = some (.int .i64 x.ver) ∧ w7.drew.cell? ⟨g, 2, none⟩ = some (.bool al) ∧ w7.drew.cell? ⟨g, 3, none⟩ = some (.slice kb bks.length kd) ∧ w7.drew.cell? ⟨wo.heap.size, 1, none⟩ = some (.int .i64 x.ver) := ⟨below_cell hbd (Nat.le_refl _) HPS.out.1, below_cell hbd (Nat.le_refl _) HPS.out.2.1, below_cell hbd (Nat.le_refl _) HPS.out.2.2.1, below_cell hbd (Nat.le_refl _) HPS.out.2.2.2, below_cell hbd (Nat.le_refl _) (blk5 HBX5.out).2.1⟩
              clear hbd
              refine held_start (fun w' => w'.cell? ⟨g, 0, none⟩ = some (.complex .f64 (fl t.e) (fl (t.n + 1))) ∧ w'.cell? ⟨g, 1, none⟩ = some (.int .i64 x.ver) ∧ w'.cell? ⟨g, 2, none⟩ = some (.bool al) ∧ w'.cell? ⟨g, 3, none⟩ = some (.slice kb bks.length kd) ∧ w'.cell? ⟨wo.heap.size, 1, none⟩ = some (.int .i64 x.ver)) (by kernel_rfl) ?_ (fun hHeld => ?_)
              · first | exact hS0 | exact hSB
              refine held_take 0 rfl (by kernel_rfl) (by kernel_rfl) (by kernel_rfl) (fun _ _ _ h => h) hHeld (by rfl) (v := ?_) ?_ ?_
              rotate_left
              · intro w hSw; (try dsimp only at hSw); (try go_simp); (try with_reducible rfl)
              try simp only [Act.put, List.setIfInBounds_toArray, List.set_cons_zero, List.set_cons_succ]
              refine held_take 1 rfl (by kernel_rfl) (by kernel_rfl) (by kernel_rfl) (fun _ _ _ h => h) hHeld (by rfl) (v := ?_) ?_ ?_
              rotate_left
              · intro w hSw; (try dsimp only at hSw); (try go_simp); (try with_reducible rfl)
              try simp only [Act.put, List.setIfInBounds_toArray, List.set_cons_zero, List.set_cons_succ]
              refine held_take 2 rfl (by kernel_rfl) (by kernel_rfl) (by kernel_rfl) (fun _ _ _ h => h) hHeld (by rfl) (v := ?_) ?_ ?_
              rotate_left
              · intro w hSw; (try dsimp only at hSw); (try go_simp); (try with_reducible rfl)
              try simp only [Act.put, List.setIfInBounds_toArray, List.set_cons_zero, List.set_cons_succ]
              refine held_take 3 rfl (by kernel_rfl) (by kernel_rfl) (by kernel_rfl) (fun _ _ _ h => h) hHeld (by rfl) (v := ?_) ?_ ?_
              rotate_left
              · intro w hSw; (try dsimp only at hSw); (try go_simp); (try with_reducible rfl)
              try simp only [Act.put, List.setIfInBounds_toArray, List.set_cons_zero, List.set_cons_succ]
              refine held_take 4 rfl (by kernel_rfl) (by kernel_rfl) (by kernel_rfl) (fun _ _ _ h => h) hHeld (by rfl) (v := ?_) ?_ ?_
              rotate_left
              · intro w hSw; (try dsimp only at hSw); (try go_simp); (try with_reducible rfl)
              try simp only [Act.put, List.setIfInBounds_toArray, List.set_cons_zero, List.set_cons_succ]
              refine held_take 5 rfl (by kernel_rfl) (by kernel_rfl) (by kernel_rfl) (fun _ _ _ h => h) hHeld (by rfl) (v := ?_) ?_ ?_
              rotate_left
              · intro w hSw; (try dsimp only at hSw); (try go_simp); (try with_reducible rfl)
              try simp only [Act.put, List.setIfInBounds_toArray, List.set_cons_zero, List.set_cons_succ]
              refine held_take 6 rfl (by kernel_rfl) (by kernel_rfl) (by kernel_rfl) (fun _ _ _ h => h) hHeld (by rfl) (v := ?_) ?_ ?_
              rotate_left
              · intro w hSw; (try dsimp only at hSw); (try go_simp); (try with_reducible rfl)
              try simp only [Act.put, List.setIfInBounds_toArray, List.set_cons_zero, List.set_cons_succ]
              refine held_take 7 rfl (by kernel_rfl) (by kernel_rfl) (by kernel_rfl) (fun _ _ _ h => h) hHeld (by rfl) (v := ?_) ?_ ?_
              rotate_left
              · intro w hSw; (try dsimp only at hSw); (try go_simp); (try with_reducible rfl)
              try simp only [Act.put, List.setIfInBounds_toArray, List.set_cons_zero, List.set_cons_succ]
              refine held_take 8 rfl (by kernel_rfl) (by kernel_rfl) (by kernel_rfl) (fun _ _ _ h => h) hHeld (by rfl) (v := ?_) ?_ ?_
              rotate_left
              · intro w hSw; (try dsimp only at hSw); (try go_simp); (try with_reducible rfl)
              try simp only [Act.put, List.setIfInBounds_toArray, List.set_cons_zero, List.set_cons_succ]
              refine held_take 9 rfl (by kernel_rfl) (by kernel_rfl) (by kernel_rfl) (fun _ _ _ h => h) hHeld (by rfl) (v := ?_) ?_ ?_
              rotate_left
              · intro w hSw; (try dsimp only at hSw); (try go_simp); (try with_reducible rfl)
              try simp only [Act.put, List.setIfInBounds_toArray, List.set_cons_zero, List.set_cons_succ]
              refine held_take 10 rfl (by kernel_rfl) (by kernel_rfl) (by kernel_rfl) (fun _ _ _ h => h) hHeld (by rfl) (v := ?_) ?_ ?_
              rotate_left
              · intro w hSw; (try dsimp only at hSw); (try go_simp); (try with_reducible rfl)
              try simp only [Act.put, List.setIfInBounds_toArray, List.set_cons_zero, List.set_cons_succ]
              refine held_take 11 rfl (by kernel_rfl) (by kernel_rfl) (by kernel_rfl) (fun _ _ _ h => h) hHeld (by rfl) (v := ?_) ?_ ?_
              rotate_left
              · intro w hSw; (try dsimp only at hSw); (try go_simp); (try with_reducible rfl)
              try simp only [Act.put, List.setIfInBounds_toArray, List.set_cons_zero, List.set_cons_succ]
              refine held_take 13 rfl (by kernel_rfl) (by kernel_rfl) (by kernel_rfl) (fun _ _ _ h => h) hHeld (by rfl) (v := ?_) ?_ ?_
              rotate_left
              · intro w hSw; (try dsimp only at hSw); (try go_simp); (try with_reducible rfl)
              try simp only [Act.put, List.setIfInBounds_toArray, List.set_cons_zero, List.set_cons_succ]
              refine held_step 12 rfl (by kernel_rfl) (by rfl) (fun Kx hK => ?_)
              go_simp
              go_at_call 20; refine (v_mark _ _ _ _ (HV7.out.v.below (below_drew1 _))).mono ?_; rintro e wx ⟨rfl, rfl⟩; rw [HE'.out, HN'.out]
              refine hK.out _ _ ?_ (fun hHeld2 => ?_)
              · (try dsimp only); first | exact hS0 | exact hSB
              clear hK Kx hHeld
              have hHeld := hHeld2
              clear hHeld2
              try simp only [Act.put, List.setIfInBounds_toArray, List.set_cons_zero, List.set_cons_succ]
              refine held_take 14 rfl (by kernel_rfl) (by kernel_rfl) (by kernel_rfl) (fun _ _ _ h => h) hHeld (by rfl) (v := ?_) ?_ ?_
              rotate_left
              · intro w hSw; (try dsimp only at hSw); (try go_simp); (try with_reducible rfl)
              try simp only [Act.put, List.setIfInBounds_toArray, List.set_cons_zero, List.set_cons_succ]
              refine held_take 15 rfl (by kernel_rfl) (by kernel_rfl) (by kernel_rfl) (fun _ _ _ h => h) hHeld (by rfl) (v := ?_) ?_ ?_
              rotate_left
              · intro w hSw; (try dsimp only at hSw); (try go_simp); (try with_reducible rfl)
              try simp only [Act.put, List.setIfInBounds_toArray, List.set_cons_zero, List.set_cons_succ]
              refine held_take 16 rfl (by kernel_rfl) (by kernel_rfl) (by kernel_rfl) (fun _ _ _ h => h) hHeld (by rfl) (v := ?_) ?_ ?_
              rotate_left
              · intro w hSw; (try dsimp only at hSw); (try go_simp); (try with_reducible rfl)
              try simp only [Act.put, List.setIfInBounds_toArray, List.set_cons_zero, List.set_cons_succ]
              refine held_take 17 rfl (by kernel_rfl) (by kernel_rfl) (by kernel_rfl) (fun _ _ _ h => h) hHeld (by rfl) (v := ?_) ?_ ?_
              rotate_left
              · intro w hSw; (try dsimp only at hSw); (try go_simp); (try with_reducible rfl)
              try simp only [Act.put, List.setIfInBounds_toArray, List.set_cons_zero, List.set_cons_succ]
              refine held_take 18 rfl (by kernel_rfl) (by kernel_rfl) (by kernel_rfl) (fun _ _ _ h => h) hHeld (by rfl) (v := ?_) ?_ ?_
              rotate_left
              · intro w hSw; (try dsimp only at hSw); (try go_simp); (try with_reducible rfl)
              try simp only [Act.put, List.setIfInBounds_toArray, List.set_cons_zero, List.set_cons_succ]
              refine held_take 19 rfl (by kernel_rfl) (by kernel_rfl) (by kernel_rfl) (fun _ _ _ h => h) hHeld (by rfl) (v := ?_) ?_ ?_
              rotate_left
              · intro w hSw; (try dsimp only at hSw); (try go_simp); (try with_reducible rfl)
              try simp only [Act.put, List.setIfInBounds_toArray, List.set_cons_zero, List.set_cons_succ]
              refine held_take 20 rfl (by kernel_rfl) (by kernel_rfl) (by kernel_rfl) (fun _ _ _ h => h) hHeld (by rfl) (v := ?_) ?_ ?_
              rotate_left
              · intro w hSw; (try dsimp only at hSw); (try go_simp); (try with_reducible rfl)
              try simp only [Act.put, List.setIfInBounds_toArray, List.set_cons_zero, List.set_cons_succ]
              refine held_take 21 rfl (by kernel_rfl) (by kernel_rfl) (by kernel_rfl) (fun _ _ _ h => h) hHeld (by rfl) (v := ?_) ?_ ?_
              rotate_left
              · intro w hSw; (try dsimp only at hSw); (try go_simp); (try with_reducible rfl)
              try simp only [Act.put, List.setIfInBounds_toArray, List.set_cons_zero, List.set_cons_succ]
              refine held_take 22 rfl (by kernel_rfl) (by kernel_rfl) (by kernel_rfl) (fun _ _ _ h => h) hHeld (by rfl) (v := ?_) ?_ ?_
              rotate_left
              · intro w hSw; (try dsimp only at hSw); (try go_simp); (try with_reducible rfl)
              try simp only [Act.put, List.setIfInBounds_toArray, List.set_cons_zero, List.set_cons_succ]
              refine held_take 23 rfl (by kernel_rfl) (by kernel_rfl) (by kernel_rfl) (fun _ _ _ h => h) hHeld (by rfl) (v := ?_) ?_ ?_
              rotate_left
              · intro w hSw; (try dsimp only at hSw); (try go_simp); (try with_reducible rfl)
              try simp only [Act.put, List.setIfInBounds_toArray, List.set_cons_zero, List.set_cons_succ]
              refine held_take 24 rfl (by kernel_rfl) (by kernel_rfl) (by kernel_rfl) (fun _ _ _ h => h) hHeld (by rfl) (v := ?_) ?_ ?_
              rotate_left
              · intro w hSw; (try dsimp only at hSw); (try go_simp); (try with_reducible rfl)
              try simp only [Act.put, List.setIfInBounds_toArray, List.set_cons_zero, List.set_cons_succ]
              refine held_take 25 rfl (by kernel_rfl) (by kernel_rfl) (by kernel_rfl) (fun _ _ _ h => h) hHeld (by rfl) (v := ?_) ?_ ?_
              rotate_left
              · intro w hSw; (try dsimp only at hSw); (try go_simp); (try with_reducible rfl)
              try simp only [Act.put, List.setIfInBounds_toArray, List.set_cons_zero, List.set_cons_succ]
              refine held_take 26 rfl (by kernel_rfl) (by kernel_rfl) (by kernel_rfl) (fun _ _ _ h => h) hHeld (by rfl) (v := ?_) ?_ ?_
              rotate_left
              · intro w hSw; (try dsimp only at hSw); (try go_simp); (try with_reducible rfl)
              try simp only [Act.put, List.setIfInBounds_toArray, List.set_cons_zero, List.set_cons_succ]
              refine held_take 27 rfl (by kernel_rfl) (by kernel_rfl) (by kernel_rfl) (fun _ _ _ h => h) hHeld (by rfl) (v := ?_) ?_ ?_
              rotate_left
              · intro w hSw; (try dsimp only at hSw); (try go_simp); (try with_reducible rfl)
              try simp only [Act.put, List.setIfInBounds_toArray, List.set_cons_zero, List.set_cons_succ]
              refine held_take 28 rfl (by kernel_rfl) (by kernel_rfl) (by kernel_rfl) (fun _ _ _ h => h) hHeld (by rfl) (v := ?_) ?_ ?_
              rotate_left
              · intro w hSw; (try dsimp only at hSw); (try go_simp); (try with_reducible rfl)
              try simp only [Act.put, List.setIfInBounds_toArray, List.set_cons_zero, List.set_cons_succ]
              refine held_take 29 rfl (by kernel_rfl) (by kernel_rfl) (by kernel_rfl) (fun _ _ _ h => h) hHeld (by rfl) (v := ?_) ?_ ?_
              rotate_left
              · intro w hSw; (try dsimp only at hSw); (try go_simp); (try with_reducible rfl)
              try simp only [Act.put, List.setIfInBounds_toArray, List.set_cons_zero, List.set_cons_succ]
              refine held_take 30 rfl (by kernel_rfl) (by kernel_rfl) (by kernel_rfl) (fun _ _ _ h => h) hHeld (by rfl) (v := ?_) ?_ ?_
              rotate_left
              · intro w hSw; (try dsimp only at hSw); (try go_simp); (try with_reducible rfl)
              try simp only [Act.put, List.setIfInBounds_toArray, List.set_cons_zero, List.set_cons_succ]
              refine held_take 31 rfl (by kernel_rfl) (by kernel_rfl) (by kernel_rfl) (fun _ _ _ h => h) hHeld (by rfl) (v := ?_) ?_ ?_
              rotate_left
              · intro w hSw; (try dsimp only at hSw); (try go_simp); (try with_reducible rfl)
              try simp only [Act.put, List.setIfInBounds_toArray, List.set_cons_zero, List.set_cons_succ]
              refine held_take 32 rfl (by kernel_rfl) (by kernel_rfl) (by kernel_rfl) (fun _ _ _ h => h) hHeld (by rfl) (v := ?_) ?_ ?_
              rotate_left
              · intro w hSw; (try dsimp only at hSw); (try go_simp); (try with_reducible rfl)
              try simp only [Act.put, List.setIfInBounds_toArray, List.set_cons_zero, List.set_cons_succ]
              refine held_take 33 rfl (by kernel_rfl) (by kernel_rfl) (by kernel_rfl) (fun _ _ _ h => h) hHeld (by rfl) (v := ?_) ?_ ?_
              rotate_left
              · intro w hSw; (try dsimp only at hSw); (try go_simp); (try with_reducible rfl)
              try simp only [Act.put, List.setIfInBounds_toArray, List.set_cons_zero, List.set_cons_succ]
              refine held_take 34 rfl (by kernel_rfl) (by kernel_rfl) (by kernel_rfl) (fun _ _ _ h => h) hHeld (by rfl) (v := ?_) ?_ ?_
              rotate_left
              · intro w hSw; (try dsimp only at hSw); (try go_simp); (try with_reducible rfl)
              try simp only [Act.put, List.setIfInBounds_toArray, List.set_cons_zero, List.set_cons_succ]
              refine held_take 35 rfl (by kernel_rfl) (by kernel_rfl) (by kernel_rfl) (fun _ _ _ h => h) hHeld (by rfl) (v := ?_) ?_ ?_
              rotate_left
              · intro w hSw; (try dsimp only at hSw); (try go_simp); (try with_reducible rfl)
              try simp only [Act.put, List.setIfInBounds_toArray, List.set_cons_zero, List.set_cons_succ]
              refine held_take 36 rfl (by kernel_rfl) (by kernel_rfl) (by kernel_rfl) (fun _ _ _ h => h) hHeld (by rfl) (v := ?_) ?_ ?_
              rotate_left
              · intro w hSw; (try dsimp only at hSw); (try go_simp); (try with_reducible rfl)
              try simp only [Act.put, List.setIfInBounds_toArray, List.set_cons_zero, List.set_cons_succ]
              refine held_step 37 rfl (by kernel_rfl) (by rfl) (fun Kx hK => ?_)
              go_simp
              go_at_call 26; refine (same_brks _ _ (Rq.drop m0) [⟨t.e, t.n + 1, x.ver, al, kb, kd, bks⟩] _ (HMK.out _ (HBQ.out.drew1)) ((HB5.out.below HBD.out).rd) (by rw [HDR.out]; rfl) (marks_in HDR.out (fun y hy => by obtain rfl := List.mem_singleton.1 hy; exact ⟨HM1.out.1, HN1.out⟩))).mono ?_; rintro e wS ⟨rfl, nS, rfl⟩; have hSB := keep5 hS0 (below_drewN (Below.refl _ _) nS)
              refine hK.out _ _ ?_ (fun hHeld2 => ?_)
              · (try dsimp only); first | exact hS0 | exact hSB
              clear hK Kx hHeld
              have hHeld := hHeld2
              clear hHeld2
              try simp only [Act.put, List.setIfInBounds_toArray, List.set_cons_zero, List.set_cons_succ]
              refine held_take 38 rfl (by kernel_rfl) (by kernel_rfl) (by kernel_rfl) (fun _ _ _ h => h) hHeld (by rfl) (v := ?_) ?_ ?_
              rotate_left
              · intro w hSw; (try dsimp only at hSw); (try go_simp); (try with_reducible rfl)
              try simp only [Act.put, List.setIfInBounds_toArray, List.set_cons_zero, List.set_cons_succ]
              refine held_take 39 rfl (by kernel_rfl) (by kernel_rfl) (by kernel_rfl) (fun _ _ _ h => h) hHeld (by rfl) (v := ?_) ?_ ?_
              rotate_left
              · intro w hSw; (try dsimp only at hSw); (try go_simp); (try with_reducible rfl)
              try simp only [Act.put, List.setIfInBounds_toArray, List.set_cons_zero, List.set_cons_succ]
              refine held_take 40 rfl (by kernel_rfl) (by kernel_rfl) (by kernel_rfl) (fun _ _ _ h => h) hHeld (by rfl) (v := ?_) ?_ ?_
              rotate_left
              · intro w hSw; (try dsimp only at hSw); (try go_simp); (try with_reducible rfl)
              try simp only [Act.put, List.setIfInBounds_toArray, List.set_cons_zero, List.set_cons_succ]
              refine held_take 41 rfl (by kernel_rfl) (by kernel_rfl) (by kernel_rfl) (fun _ _ _ h => h) hHeld (by rfl) (v := ?_) ?_ ?_
              rotate_left
              · intro w hSw; (try dsimp only at hSw); (try go_simp); (try with_reducible rfl)
              try simp only [Act.put, List.setIfInBounds_toArray, List.set_cons_zero, List.set_cons_succ]
              refine held_take 42 rfl (by kernel_rfl) (by kernel_rfl) (by kernel_rfl) (fun _ _ _ h => h) hHeld (by rfl) (v := ?_) ?_ ?_
              rotate_left
              · intro w hSw; (try dsimp only at hSw); (try go_simp); (try with_reducible rfl)
              try simp only [Act.put, List.setIfInBounds_toArray, List.set_cons_zero, List.set_cons_succ]
              refine held_take 43 rfl (by kernel_rfl) (by kernel_rfl) (by kernel_rfl) (fun _ _ _ h => h) hHeld (by rfl) (v := ?_) ?_ ?_
              rotate_left
              · intro w hSw; (try dsimp only at hSw); (try go_simp); (try with_reducible rfl)
              try simp only [Act.put, List.setIfInBounds_toArray, List.set_cons_zero, List.set_cons_succ]
              refine held_take 44 rfl (by kernel_rfl) (by kernel_rfl) (by kernel_rfl) (fun _ _ _ h => h) hHeld (by rfl) (v := ?_) ?_ ?_
              rotate_left
              · intro w hSw; (try dsimp only at hSw); (try go_simp); (try with_reducible rfl)
              try simp only [Act.put, List.setIfInBounds_toArray, List.set_cons_zero, List.set_cons_succ]
              refine held_take 45 rfl (by kernel_rfl) (by kernel_rfl) (by kernel_rfl) (fun _ _ _ h => h) hHeld (by rfl) (v := ?_) ?_ ?_
              rotate_left
              · intro w hSw; (try dsimp only at hSw); (try go_simp); (try with_reducible rfl)
              try simp only [Act.put, List.setIfInBounds_toArray, List.set_cons_zero, List.set_cons_succ]
              refine held_take 46 rfl (by kernel_rfl) (by kernel_rfl) (by kernel_rfl) (fun _ _ _ h => h) hHeld (by rfl) (v := ?_) ?_ ?_
              rotate_left
              · intro w hSw; (try dsimp only at hSw); (try go_simp); (try with_reducible rfl)
              try simp only [Act.put, List.setIfInBounds_toArray, List.set_cons_zero, List.set_cons_succ]
              refine held_take 47 rfl (by kernel_rfl) (by kernel_rfl) (by kernel_rfl) (fun _ _ _ h => h) hHeld (by rfl) (v := ?_) ?_ ?_
              rotate_left
              · intro w hSw; (try dsimp only at hSw); (try go_simp); (try with_reducible rfl)
              try simp only [Act.put, List.setIfInBounds_toArray, List.set_cons_zero, List.set_cons_succ]
              refine held_take 48 rfl (by kernel_rfl) (by kernel_rfl) (by kernel_rfl) (fun _ _ _ h => h) hHeld (by rfl) (v := ?_) ?_ ?_
              rotate_left
              · intro w hSw; (try dsimp only at hSw); (try go_simp); (try with_reducible rfl)
              try simp only [Act.put, List.setIfInBounds_toArray, List.set_cons_zero, List.set_cons_succ]
              refine held_take 49 rfl (by kernel_rfl) (by kernel_rfl) (by kernel_rfl) (fun _ _ _ h => h) hHeld (by rfl) (v := ?_) ?_ ?_
              rotate_left
              · intro w hSw; (try dsimp only at hSw); (try go_simp); (try with_reducible rfl)
              try simp only [Act.put, List.setIfInBounds_toArray, List.set_cons_zero, List.set_cons_succ]
              refine held_take 50 rfl (by kernel_rfl) (by kernel_rfl) (by kernel_rfl) (fun _ _ _ h => h) hHeld (by rfl) (v := ?_) ?_ ?_
              rotate_left
              · intro w hSw; (try dsimp only at hSw); (try go_simp); (try with_reducible rfl)
              try simp only [Act.put, List.setIfInBounds_toArray, List.set_cons_zero, List.set_cons_succ]
              refine held_take 51 rfl (by kernel_rfl) (by kernel_rfl) (by kernel_rfl) (fun _ _ _ h => h) hHeld (by rfl) (v := ?_) ?_ ?_
              rotate_left
              · intro w hSw; (try dsimp only at hSw); (try go_simp); (try with_reducible rfl)
              try simp only [Act.put, List.setIfInBounds_toArray, List.set_cons_zero, List.set_cons_succ]
              refine held_take 52 rfl (by kernel_rfl) (by kernel_rfl) (by kernel_rfl) (fun _ _ _ h => h) hHeld (by rfl) (v := ?_) ?_ ?_
              rotate_left
              · intro w hSw; (try dsimp only at hSw); (try go_simp); (try with_reducible rfl)
              try simp only [Act.put, List.setIfInBounds_toArray, List.set_cons_zero, List.set_cons_succ]
              refine wpAnyH_done (by kernel_rfl) ?_ _
              clear hHeld hS0 hSB hsl hw0 hz0 zM zM' t1 t3
              go_wp2_with fail
              go_loopw [18] (fun v18 wr => ∃ k : Nat, k ≤ t.ks.length ∧ v18 = .int .i64 k ∧ Hid (Below w7.heap.size w7 wr)) (fun v18 _ => t.ks.length - (intOf v18).toNat)
              case atStart => exact ⟨0, by omega, rfl, hid (below_drewN (below_drew1 _) _)⟩
              case round =>
                as_aux_lemma =>
                  obtain ⟨k, hk, rfl, HBK⟩ := hrel
                  by_cases hlt2 : k < t.ks.length
                  · obtain ⟨g0, o0, rfl⟩ := ks_loc HO5.out (by omega)
                    obtain ⟨y, hy⟩ : ∃ y, t.ks[k]? = some y := ⟨_, List.getElem?_eq_getElem hlt2⟩
                    have HYK := hid (HKK.out y (List.mem_of_getElem? hy))
                    have HYI := hid hy
                    have hk0 : (0 : Int) ≤ (k : Int) := by omega
                    have hk1 : (k : Int) < (t.ks.length : Int) := by omega
                    have HB5K := hid (HB57.out.trans (HBK.out.mono HB57.out.size))
                    have HBDK := hid (HB5K.out.trans ((below_drew1 _).mono HB5K.out.size))
                    clear hy
                    by_cases hyt : y ∈ t'.ks
                    · as_aux_lemma =>
                        have HYT := hid hyt
                        clear hyt
                        go_wp2_with fail
                        have hS0 := ks4 (ks_at HO5.out HBDK.out HYI.out) (below_cell HBDK.out (Nat.le_refl _) HPS.out.1) (below_cell HBDK.out (Nat.le_refl _) HPS.out.2.2.1) (below_cell HBDK.out (Nat.le_refl _) HPS.out.2.2.2)
                        refine held_start (fun w' => w'.cell? ⟨g0, o0 + k * 2, none⟩ = some (.int .i64 y.dir) ∧ w'.cell? ⟨g0, o0 + k * 2 + 1, none⟩ = some (.string y.name) ∧ w'.cell? ⟨g, 0, none⟩ = some (.complex .f64 (fl t.e) (fl (t.n + 1))) ∧ w'.cell? ⟨g, 2, none⟩ = some (.bool al) ∧ w'.cell? ⟨g, 3, none⟩ = some (.slice kb bks.length kd)) (by kernel_rfl) ?_ (fun hHeld => ?_)
                        · first | exact hS0 | exact hSA
                        refine held_take 0 rfl (by kernel_rfl) (by kernel_rfl) (by kernel_rfl) (fun _ _ _ h => h) hHeld (by rfl) (v := ?_) ?_ ?_
                        rotate_left
                        · intro w hSw; (try dsimp only at hSw); (try go_simp); (try with_reducible rfl)
                        try simp only [Act.put, List.setIfInBounds_toArray, List.set_cons_zero, List.set_cons_succ]
                        refine held_take 1 rfl (by kernel_rfl) (by kernel_rfl) (by kernel_rfl) (fun _ _ _ h => h) hHeld (by rfl) (v := ?_) ?_ ?_
                        rotate_left
                        · intro w hSw; (try dsimp only at hSw); (try go_simp); (try with_reducible rfl)
                        try simp only [Act.put, List.setIfInBounds_toArray, List.set_cons_zero, List.set_cons_succ]
                        refine held_take 2 rfl (by kernel_rfl) (by kernel_rfl) (by kernel_rfl) (fun _ _ _ h => h) hHeld (by rfl) (v := ?_) ?_ ?_
                        rotate_left
                        · intro w hSw; (try dsimp only at hSw); (try go_simp); (try with_reducible rfl)
                        try simp only [Act.put, List.setIfInBounds_toArray, List.set_cons_zero, List.set_cons_succ]
                        refine held_take 3 rfl (by kernel_rfl) (by kernel_rfl) (by kernel_rfl) (fun _ _ _ h => h) hHeld (by rfl) (v := ?_) ?_ ?_
                        rotate_left
                        · intro w hSw; (try dsimp only at hSw); (try go_simp); (try with_reducible rfl)
                        try simp only [Act.put, List.setIfInBounds_toArray, List.set_cons_zero, List.set_cons_succ]
                        refine held_take 4 rfl (by kernel_rfl) (by kernel_rfl) (by kernel_rfl) (fun _ _ _ h => h) hHeld (by rfl) (v := ?_) ?_ ?_
                        rotate_left
                        · intro w hSw; (try dsimp only at hSw); (try go_simp); (try with_reducible rfl)
                        try simp only [Act.put, List.setIfInBounds_toArray, List.set_cons_zero, List.set_cons_succ]
                        refine held_step 5 rfl (by kernel_rfl) (by rfl) (fun Kx hK => ?_)
                        go_simp
                        go_at_call 19; refine (v_holds _ F' _ t' y.dir y.name ((HV7.out.v.below HBK.out).below (below_drew1 _))).mono ?_; rintro e wh ⟨rfl, hbh⟩; rw [show decide ((⟨y.dir, y.name⟩ : Ky) ∈ t'.ks) = true from decide_eq_true HYT.out]; have hSA := keep5 hS0 hbh
                        refine hK.out _ _ ?_ (fun hHeld2 => ?_)
                        · (try dsimp only); first | exact hS0 | exact hSA
                        clear hK Kx hHeld
                        have hHeld := hHeld2
                        clear hHeld2
                        try simp only [Act.put, List.setIfInBounds_toArray, List.set_cons_zero, List.set_cons_succ]
                        refine held_take 6 rfl (by kernel_rfl) (by kernel_rfl) (by kernel_rfl) (fun _ _ _ h => h) hHeld (by rfl) (v := ?_) ?_ ?_
                        rotate_left
                        · intro w hSw; (try dsimp only at hSw); (try go_simp); (try with_reducible rfl)
                        try simp only [Act.put, List.setIfInBounds_toArray, List.set_cons_zero, List.set_cons_succ]
                        refine held_take 7 rfl (by kernel_rfl) (by kernel_rfl) (by kernel_rfl) (fun _ _ _ h => h) hHeld (by rfl) (v := ?_) ?_ ?_
                        rotate_left
                        · intro w hSw; (try dsimp only at hSw); (try go_simp); (try with_reducible rfl)
                        try simp only [Act.put, List.setIfInBounds_toArray, List.set_cons_zero, List.set_cons_succ]
                        refine held_skip 8 rfl (by kernel_rfl) (by kernel_rfl) (by kernel_rfl) (fun _ _ _ h => h) hHeld (by rfl) ?_
                        try simp only [Act.put, List.setIfInBounds_toArray, List.set_cons_zero, List.set_cons_succ]
                        refine held_skip 9 rfl (by kernel_rfl) (by kernel_rfl) (by kernel_rfl) (fun _ _ _ h => h) hHeld (by rfl) ?_
                        try simp only [Act.put, List.setIfInBounds_toArray, List.set_cons_zero, List.set_cons_succ]
                        refine held_skip 10 rfl (by kernel_rfl) (by kernel_rfl) (by kernel_rfl) (fun _ _ _ h => h) hHeld (by rfl) ?_
                        try simp only [Act.put, List.setIfInBounds_toArray, List.set_cons_zero, List.set_cons_succ]
                        refine held_skip 11 rfl (by kernel_rfl) (by kernel_rfl) (by kernel_rfl) (fun _ _ _ h => h) hHeld (by rfl) ?_
                        try simp only [Act.put, List.setIfInBounds_toArray, List.set_cons_zero, List.set_cons_succ]
                        refine held_skip 12 rfl (by kernel_rfl) (by kernel_rfl) (by kernel_rfl) (fun _ _ _ h => h) hHeld (by rfl) ?_
                        try simp only [Act.put, List.setIfInBounds_toArray, List.set_cons_zero, List.set_cons_succ]
                        refine held_skip 13 rfl (by kernel_rfl) (by kernel_rfl) (by kernel_rfl) (fun _ _ _ h => h) hHeld (by rfl) ?_
                        try simp only [Act.put, List.setIfInBounds_toArray, List.set_cons_zero, List.set_cons_succ]
                        refine held_skip 14 rfl (by kernel_rfl) (by kernel_rfl) (by kernel_rfl) (fun _ _ _ h => h) hHeld (by rfl) ?_
                        try simp only [Act.put, List.setIfInBounds_toArray, List.set_cons_zero, List.set_cons_succ]
                        refine held_skip 15 rfl (by kernel_rfl) (by kernel_rfl) (by kernel_rfl) (fun _ _ _ h => h) hHeld (by rfl) ?_
                        try simp only [Act.put, List.setIfInBounds_toArray, List.set_cons_zero, List.set_cons_succ]
                        refine held_skip 16 rfl (by kernel_rfl) (by kernel_rfl) (by kernel_rfl) (fun _ _ _ h => h) hHeld (by rfl) ?_
                        try simp only [Act.put, List.setIfInBounds_toArray, List.set_cons_zero, List.set_cons_succ]
                        refine held_skip 17 rfl (by kernel_rfl) (by kernel_rfl) (by kernel_rfl) (fun _ _ _ h => h) hHeld (by rfl) ?_
                        try simp only [Act.put, List.setIfInBounds_toArray, List.set_cons_zero, List.set_cons_succ]
                        refine held_skip 18 rfl (by kernel_rfl) (by kernel_rfl) (by kernel_rfl) (fun _ _ _ h => h) hHeld (by rfl) ?_
                        try simp only [Act.put, List.setIfInBounds_toArray, List.set_cons_zero, List.set_cons_succ]
                        refine held_skip 19 rfl (by kernel_rfl) (by kernel_rfl) (by kernel_rfl) (fun _ _ _ h => h) hHeld (by rfl) ?_
                        try simp only [Act.put, List.setIfInBounds_toArray, List.set_cons_zero, List.set_cons_succ]
                        refine held_skip 20 rfl (by kernel_rfl) (by kernel_rfl) (by kernel_rfl) (fun _ _ _ h => h) hHeld (by rfl) ?_
                        try simp only [Act.put, List.setIfInBounds_toArray, List.set_cons_zero, List.set_cons_succ]
                        refine held_skip 21 rfl (by kernel_rfl) (by kernel_rfl) (by kernel_rfl) (fun _ _ _ h => h) hHeld (by rfl) ?_
                        try simp only [Act.put, List.setIfInBounds_toArray, List.set_cons_zero, List.set_cons_succ]
                        refine held_skip 22 rfl (by kernel_rfl) (by kernel_rfl) (by kernel_rfl) (fun _ _ _ h => h) hHeld (by rfl) ?_
                        try simp only [Act.put, List.setIfInBounds_toArray, List.set_cons_zero, List.set_cons_succ]
                        refine held_skip 23 rfl (by kernel_rfl) (by kernel_rfl) (by kernel_rfl) (fun _ _ _ h => h) hHeld (by rfl) ?_
                        try simp only [Act.put, List.setIfInBounds_toArray, List.set_cons_zero, List.set_cons_succ]
                        refine held_skip 24 rfl (by kernel_rfl) (by kernel_rfl) (by kernel_rfl) (fun _ _ _ h => h) hHeld (by rfl) ?_
                        try simp only [Act.put, List.setIfInBounds_toArray, List.set_cons_zero, List.set_cons_succ]
                        refine held_skip 25 rfl (by kernel_rfl) (by kernel_rfl) (by kernel_rfl) (fun _ _ _ h => h) hHeld (by rfl) ?_
                        try simp only [Act.put, List.setIfInBounds_toArray, List.set_cons_zero, List.set_cons_succ]
                        refine held_skip 26 rfl (by kernel_rfl) (by kernel_rfl) (by kernel_rfl) (fun _ _ _ h => h) hHeld (by rfl) ?_
                        try simp only [Act.put, List.setIfInBounds_toArray, List.set_cons_zero, List.set_cons_succ]
                        refine held_skip 27 rfl (by kernel_rfl) (by kernel_rfl) (by kernel_rfl) (fun _ _ _ h => h) hHeld (by rfl) ?_
                        try simp only [Act.put, List.setIfInBounds_toArray, List.set_cons_zero, List.set_cons_succ]
                        refine held_skip 28 rfl (by kernel_rfl) (by kernel_rfl) (by kernel_rfl) (fun _ _ _ h => h) hHeld (by rfl) ?_
                        try simp only [Act.put, List.setIfInBounds_toArray, List.set_cons_zero, List.set_cons_succ]
                        refine held_skip 29 rfl (by kernel_rfl) (by kernel_rfl) (by kernel_rfl) (fun _ _ _ h => h) hHeld (by rfl) ?_
                        try simp only [Act.put, List.setIfInBounds_toArray, List.set_cons_zero, List.set_cons_succ]
                        refine held_take 30 rfl (by kernel_rfl) (by kernel_rfl) (by kernel_rfl) (fun _ _ _ h => h) hHeld (by rfl) (v := ?_) ?_ ?_
                        rotate_left
                        · intro w hSw; (try dsimp only at hSw); (try go_simp); (try with_reducible rfl)
                        try simp only [Act.put, List.setIfInBounds_toArray, List.set_cons_zero, List.set_cons_succ]
                        refine wpAnyH_done (by kernel_rfl) ?_ _
                        have HBK2 := hid (HBK.out.trans (((below_drew1 _).trans hbh).mono HBK.out.size))
                        clear hHeld hS0 hSA hbh
                        go_wp2
                        exact ⟨⟨k + 1, by omega, by go_num, HBK2⟩, by simp [intOf]; omega⟩
                    · as_aux_lemma =>
                        have HYT := hid hyt
                        rcases HYK.out hyt with ha | hb
                        · as_aux_lemma =>
                            subst ha
                            clear hyt
                            go_wp2_with fail
                            have hS0 := ks4 (ks_at HO5.out HBDK.out HYI.out) (below_cell HBDK.out (Nat.le_refl _) HPS.out.1) (below_cell HBDK.out (Nat.le_refl _) HPS.out.2.2.1) (below_cell HBDK.out (Nat.le_refl _) HPS.out.2.2.2)
                            refine held_start (fun w' => w'.cell? ⟨g0, o0 + k * 2, none⟩ = some (.int .i64 y.dir) ∧ w'.cell? ⟨g0, o0 + k * 2 + 1, none⟩ = some (.string y.name) ∧ w'.cell? ⟨g, 0, none⟩ = some (.complex .f64 (fl t.e) (fl (t.n + 1))) ∧ w'.cell? ⟨g, 2, none⟩ = some (.bool true) ∧ w'.cell? ⟨g, 3, none⟩ = some (.slice kb bks.length kd)) (by kernel_rfl) ?_ (fun hHeld => ?_)
                            · first | exact hS0 | exact hSA
                            refine held_take 0 rfl (by kernel_rfl) (by kernel_rfl) (by kernel_rfl) (fun _ _ _ h => h) hHeld (by rfl) (v := ?_) ?_ ?_
                            rotate_left
                            · intro w hSw; (try dsimp only at hSw); (try go_simp); (try with_reducible rfl)
                            try simp only [Act.put, List.setIfInBounds_toArray, List.set_cons_zero, List.set_cons_succ]
                            refine held_take 1 rfl (by kernel_rfl) (by kernel_rfl) (by kernel_rfl) (fun _ _ _ h => h) hHeld (by rfl) (v := ?_) ?_ ?_
                            rotate_left
                            · intro w hSw; (try dsimp only at hSw); (try go_simp); (try with_reducible rfl)
                            try simp only [Act.put, List.setIfInBounds_toArray, List.set_cons_zero, List.set_cons_succ]
                            refine held_take 2 rfl (by kernel_rfl) (by kernel_rfl) (by kernel_rfl) (fun _ _ _ h => h) hHeld (by rfl) (v := ?_) ?_ ?_
                            rotate_left
                            · intro w hSw; (try dsimp only at hSw); (try go_simp); (try with_reducible rfl)
                            try simp only [Act.put, List.setIfInBounds_toArray, List.set_cons_zero, List.set_cons_succ]
                            refine held_take 3 rfl (by kernel_rfl) (by kernel_rfl) (by kernel_rfl) (fun _ _ _ h => h) hHeld (by rfl) (v := ?_) ?_ ?_
                            rotate_left
                            · intro w hSw; (try dsimp only at hSw); (try go_simp); (try with_reducible rfl)
                            try simp only [Act.put, List.setIfInBounds_toArray, List.set_cons_zero, List.set_cons_succ]
                            refine held_take 4 rfl (by kernel_rfl) (by kernel_rfl) (by kernel_rfl) (fun _ _ _ h => h) hHeld (by rfl) (v := ?_) ?_ ?_
                            rotate_left
                            · intro w hSw; (try dsimp only at hSw); (try go_simp); (try with_reducible rfl)
                            try simp only [Act.put, List.setIfInBounds_toArray, List.set_cons_zero, List.set_cons_succ]
                            refine held_step 5 rfl (by kernel_rfl) (by rfl) (fun Kx hK => ?_)
                            go_simp
                            go_at_call 19; refine (v_holds _ F' _ t' y.dir y.name ((HV7.out.v.below HBK.out).below (below_drew1 _))).mono ?_; rintro e wh ⟨rfl, hbh⟩; rw [show decide ((⟨y.dir, y.name⟩ : Ky) ∈ t'.ks) = false from decide_eq_false HYT.out]; have hSA := keep5 hS0 hbh
                            refine hK.out _ _ ?_ (fun hHeld2 => ?_)
                            · (try dsimp only); first | exact hS0 | exact hSA
                            clear hK Kx hHeld
                            have hHeld := hHeld2
                            clear hHeld2
                            try simp only [Act.put, List.setIfInBounds_toArray, List.set_cons_zero, List.set_cons_succ]
                            refine held_take 6 rfl (by kernel_rfl) (by kernel_rfl) (by kernel_rfl) (fun _ _ _ h => h) hHeld (by rfl) (v := ?_) ?_ ?_
                            rotate_left
                            · intro w hSw; (try dsimp only at hSw); (try go_simp); (try with_reducible rfl)
                            try simp only [Act.put, List.setIfInBounds_toArray, List.set_cons_zero, List.set_cons_succ]
                            refine held_take 7 rfl (by kernel_rfl) (by kernel_rfl) (by kernel_rfl) (fun _ _ _ h => h) hHeld (by rfl) (v := ?_) ?_ ?_
                            rotate_left
                            · intro w hSw; (try dsimp only at hSw); (try go_simp); (try with_reducible rfl)
                            try simp only [Act.put, List.setIfInBounds_toArray, List.set_cons_zero, List.set_cons_succ]
                            refine held_take 8 rfl (by kernel_rfl) (by kernel_rfl) (by kernel_rfl) (fun _ _ _ h => h) hHeld (by rfl) (v := ?_) ?_ ?_
                            rotate_left
                            · intro w hSw; (try dsimp only at hSw); (try go_simp); (try with_reducible rfl)
                            try simp only [Act.put, List.setIfInBounds_toArray, List.set_cons_zero, List.set_cons_succ]
                            refine held_take 9 rfl (by kernel_rfl) (by kernel_rfl) (by kernel_rfl) (fun _ _ _ h => h) hHeld (by rfl) (v := ?_) ?_ ?_
                            rotate_left
                            · intro w hSw; (try dsimp only at hSw); (try go_simp); (try with_reducible rfl)
                            try simp only [Act.put, List.setIfInBounds_toArray, List.set_cons_zero, List.set_cons_succ]
                            refine held_take 10 rfl (by kernel_rfl) (by kernel_rfl) (by kernel_rfl) (fun _ _ _ h => h) hHeld (by rfl) (v := ?_) ?_ ?_
                            rotate_left
                            · intro w hSw; (try dsimp only at hSw); (try go_simp); (try with_reducible rfl)
                            try simp only [Act.put, List.setIfInBounds_toArray, List.set_cons_zero, List.set_cons_succ]
                            refine held_take 11 rfl (by kernel_rfl) (by kernel_rfl) (by kernel_rfl) (fun _ _ _ h => h) hHeld (by rfl) (v := ?_) ?_ ?_
                            rotate_left
                            · intro w hSw; (try dsimp only at hSw); (try go_simp); (try with_reducible rfl)
                            try simp only [Act.put, List.setIfInBounds_toArray, List.set_cons_zero, List.set_cons_succ]
                            refine held_take 12 rfl (by kernel_rfl) (by kernel_rfl) (by kernel_rfl) (fun _ _ _ h => h) hHeld (by rfl) (v := ?_) ?_ ?_
                            rotate_left
                            · intro w hSw; (try dsimp only at hSw); (try go_simp); (try with_reducible rfl)
                            try simp only [Act.put, List.setIfInBounds_toArray, List.set_cons_zero, List.set_cons_succ]
                            refine held_take 13 rfl (by kernel_rfl) (by kernel_rfl) (by kernel_rfl) (fun _ _ _ h => h) hHeld (by rfl) (v := ?_) ?_ ?_
                            rotate_left
                            · intro w hSw; (try dsimp only at hSw); (try go_simp); (try with_reducible rfl)
                            try simp only [Act.put, List.setIfInBounds_toArray, List.set_cons_zero, List.set_cons_succ]
                            refine held_take 14 rfl (by kernel_rfl) (by kernel_rfl) (by kernel_rfl) (fun _ _ _ h => h) hHeld (by rfl) (v := ?_) ?_ ?_
                            rotate_left
                            · intro w hSw; (try dsimp only at hSw); (try go_simp); (try with_reducible rfl)
                            try simp only [Act.put, List.setIfInBounds_toArray, List.set_cons_zero, List.set_cons_succ]
                            refine held_take 15 rfl (by kernel_rfl) (by kernel_rfl) (by kernel_rfl) (fun _ _ _ h => h) hHeld (by rfl) (v := ?_) ?_ ?_
                            rotate_left
                            · intro w hSw; (try dsimp only at hSw); (try go_simp); (try with_reducible rfl)
                            try simp only [Act.put, List.setIfInBounds_toArray, List.set_cons_zero, List.set_cons_succ]
                            refine held_take 16 rfl (by kernel_rfl) (by kernel_rfl) (by kernel_rfl) (fun _ _ _ h => h) hHeld (by rfl) (v := ?_) ?_ ?_
                            rotate_left
                            · intro w hSw; (try dsimp only at hSw); (try go_simp); (try with_reducible rfl)
                            try simp only [Act.put, List.setIfInBounds_toArray, List.set_cons_zero, List.set_cons_succ]
                            refine held_take 17 rfl (by kernel_rfl) (by kernel_rfl) (by kernel_rfl) (fun _ _ _ h => h) hHeld (by rfl) (v := ?_) ?_ ?_
                            rotate_left
                            · intro w hSw; (try dsimp only at hSw); (try go_simp); (try with_reducible rfl)
                            try simp only [Act.put, List.setIfInBounds_toArray, List.set_cons_zero, List.set_cons_succ]
                            refine held_skip 18 rfl (by kernel_rfl) (by kernel_rfl) (by kernel_rfl) (fun _ _ _ h => h) hHeld (by rfl) ?_
                            try simp only [Act.put, List.setIfInBounds_toArray, List.set_cons_zero, List.set_cons_succ]
                            refine held_skip 19 rfl (by kernel_rfl) (by kernel_rfl) (by kernel_rfl) (fun _ _ _ h => h) hHeld (by rfl) ?_
                            try simp only [Act.put, List.setIfInBounds_toArray, List.set_cons_zero, List.set_cons_succ]
                            refine held_skip 20 rfl (by kernel_rfl) (by kernel_rfl) (by kernel_rfl) (fun _ _ _ h => h) hHeld (by rfl) ?_
                            try simp only [Act.put, List.setIfInBounds_toArray, List.set_cons_zero, List.set_cons_succ]
                            refine held_skip 21 rfl (by kernel_rfl) (by kernel_rfl) (by kernel_rfl) (fun _ _ _ h => h) hHeld (by rfl) ?_
                            try simp only [Act.put, List.setIfInBounds_toArray, List.set_cons_zero, List.set_cons_succ]
                            refine held_skip 22 rfl (by kernel_rfl) (by kernel_rfl) (by kernel_rfl) (fun _ _ _ h => h) hHeld (by rfl) ?_
                            try simp only [Act.put, List.setIfInBounds_toArray, List.set_cons_zero, List.set_cons_succ]
                            refine held_skip 23 rfl (by kernel_rfl) (by kernel_rfl) (by kernel_rfl) (fun _ _ _ h => h) hHeld (by rfl) ?_
                            try simp only [Act.put, List.setIfInBounds_toArray, List.set_cons_zero, List.set_cons_succ]
                            refine held_skip 24 rfl (by kernel_rfl) (by kernel_rfl) (by kernel_rfl) (fun _ _ _ h => h) hHeld (by rfl) ?_
                            try simp only [Act.put, List.setIfInBounds_toArray, List.set_cons_zero, List.set_cons_succ]
                            refine held_skip 25 rfl (by kernel_rfl) (by kernel_rfl) (by kernel_rfl) (fun _ _ _ h => h) hHeld (by rfl) ?_
                            try simp only [Act.put, List.setIfInBounds_toArray, List.set_cons_zero, List.set_cons_succ]
                            refine held_skip 26 rfl (by kernel_rfl) (by kernel_rfl) (by kernel_rfl) (fun _ _ _ h => h) hHeld (by rfl) ?_
                            try simp only [Act.put, List.setIfInBounds_toArray, List.set_cons_zero, List.set_cons_succ]
                            refine held_skip 27 rfl (by kernel_rfl) (by kernel_rfl) (by kernel_rfl) (fun _ _ _ h => h) hHeld (by rfl) ?_
                            try simp only [Act.put, List.setIfInBounds_toArray, List.set_cons_zero, List.set_cons_succ]
                            refine held_take 28 rfl (by kernel_rfl) (by kernel_rfl) (by kernel_rfl) (fun _ _ _ h => h) hHeld (by rfl) (v := ?_) ?_ ?_
                            rotate_left
                            · intro w hSw; (try dsimp only at hSw); (try go_simp); (try with_reducible rfl)
                            try simp only [Act.put, List.setIfInBounds_toArray, List.set_cons_zero, List.set_cons_succ]
                            refine held_take 29 rfl (by kernel_rfl) (by kernel_rfl) (by kernel_rfl) (fun _ _ _ h => h) hHeld (by rfl) (v := ?_) ?_ ?_
                            rotate_left
                            · intro w hSw; (try dsimp only at hSw); (try go_simp); (try with_reducible rfl)
                            try simp only [Act.put, List.setIfInBounds_toArray, List.set_cons_zero, List.set_cons_succ]
                            refine held_take 30 rfl (by kernel_rfl) (by kernel_rfl) (by kernel_rfl) (fun _ _ _ h => h) hHeld (by rfl) (v := ?_) ?_ ?_
                            rotate_left
                            · intro w hSw; (try dsimp only at hSw); (try go_simp); (try with_reducible rfl)
                            try simp only [Act.put, List.setIfInBounds_toArray, List.set_cons_zero, List.set_cons_succ]
                            refine wpAnyH_done (by kernel_rfl) ?_ _
                            have HBK2 := hid (HBK.out.trans (((below_drew1 _).trans hbh).mono HBK.out.size))
                            clear hHeld hS0 hSA hbh
                            go_wp2
                            exact ⟨⟨k + 1, by omega, by go_num, HBK2⟩, by simp [intOf]; omega⟩
                        · as_aux_lemma =>
                            have hal0 : al = false := by rw [HAL.out]; exact decide_eq_false (fun h => by rw [h] at hb; cases hb)
                            have HYB := hid hb
                            subst hal0
                            clear hyt hb
                            go_wp2_with fail
                            have hS0 := ks4 (ks_at HO5.out HBDK.out HYI.out) (below_cell HBDK.out (Nat.le_refl _) HPS.out.1) (below_cell HBDK.out (Nat.le_refl _) HPS.out.2.2.1) (below_cell HBDK.out (Nat.le_refl _) HPS.out.2.2.2)
                            refine held_start (fun w' => w'.cell? ⟨g0, o0 + k * 2, none⟩ = some (.int .i64 y.dir) ∧ w'.cell? ⟨g0, o0 + k * 2 + 1, none⟩ = some (.string y.name) ∧ w'.cell? ⟨g, 0, none⟩ = some (.complex .f64 (fl t.e) (fl (t.n + 1))) ∧ w'.cell? ⟨g, 2, none⟩ = some (.bool false) ∧ w'.cell? ⟨g, 3, none⟩ = some (.slice kb bks.length kd)) (by kernel_rfl) ?_ (fun hHeld => ?_)
                            · first | exact hS0 | exact hSA | exact hSB
                            refine held_take 0 rfl (by kernel_rfl) (by kernel_rfl) (by kernel_rfl) (fun _ _ _ h => h) hHeld (by rfl) (v := ?_) ?_ ?_
                            rotate_left
                            · intro w hSw; (try dsimp only at hSw); (try go_simp); (try with_reducible rfl)
                            try simp only [Act.put, List.setIfInBounds_toArray, List.set_cons_zero, List.set_cons_succ]
                            refine held_take 1 rfl (by kernel_rfl) (by kernel_rfl) (by kernel_rfl) (fun _ _ _ h => h) hHeld (by rfl) (v := ?_) ?_ ?_
                            rotate_left
                            · intro w hSw; (try dsimp only at hSw); (try go_simp); (try with_reducible rfl)
                            try simp only [Act.put, List.setIfInBounds_toArray, List.set_cons_zero, List.set_cons_succ]
                            refine held_take 2 rfl (by kernel_rfl) (by kernel_rfl) (by kernel_rfl) (fun _ _ _ h => h) hHeld (by rfl) (v := ?_) ?_ ?_
                            rotate_left
                            · intro w hSw; (try dsimp only at hSw); (try go_simp); (try with_reducible rfl)
                            try simp only [Act.put, List.setIfInBounds_toArray, List.set_cons_zero, List.set_cons_succ]
                            refine held_take 3 rfl (by kernel_rfl) (by kernel_rfl) (by kernel_rfl) (fun _ _ _ h => h) hHeld (by rfl) (v := ?_) ?_ ?_
                            rotate_left
                            · intro w hSw; (try dsimp only at hSw); (try go_simp); (try with_reducible rfl)
                            try simp only [Act.put, List.setIfInBounds_toArray, List.set_cons_zero, List.set_cons_succ]
                            refine held_take 4 rfl (by kernel_rfl) (by kernel_rfl) (by kernel_rfl) (fun _ _ _ h => h) hHeld (by rfl) (v := ?_) ?_ ?_
                            rotate_left
                            · intro w hSw; (try dsimp only at hSw); (try go_simp); (try with_reducible rfl)
                            try simp only [Act.put, List.setIfInBounds_toArray, List.set_cons_zero, List.set_cons_succ]
                            refine held_step 5 rfl (by kernel_rfl) (by rfl) (fun Kx hK => ?_)
                            go_simp
                            go_at_call 19; refine (v_holds _ F' _ t' y.dir y.name ((HV7.out.v.below HBK.out).below (below_drew1 _))).mono ?_; rintro e wh ⟨rfl, hbh⟩; rw [show decide ((⟨y.dir, y.name⟩ : Ky) ∈ t'.ks) = false from decide_eq_false HYT.out]; have hSA := keep5 hS0 hbh
                            refine hK.out _ _ ?_ (fun hHeld2 => ?_)
                            · (try dsimp only); first | exact hS0 | exact hSA | exact hSB
                            clear hK Kx hHeld
                            have hHeld := hHeld2
                            clear hHeld2
                            try simp only [Act.put, List.setIfInBounds_toArray, List.set_cons_zero, List.set_cons_succ]
                            refine held_take 6 rfl (by kernel_rfl) (by kernel_rfl) (by kernel_rfl) (fun _ _ _ h => h) hHeld (by rfl) (v := ?_) ?_ ?_
                            rotate_left
                            · intro w hSw; (try dsimp only at hSw); (try go_simp); (try with_reducible rfl)
                            try simp only [Act.put, List.setIfInBounds_toArray, List.set_cons_zero, List.set_cons_succ]
                            refine held_take 7 rfl (by kernel_rfl) (by kernel_rfl) (by kernel_rfl) (fun _ _ _ h => h) hHeld (by rfl) (v := ?_) ?_ ?_
                            rotate_left
                            · intro w hSw; (try dsimp only at hSw); (try go_simp); (try with_reducible rfl)
                            try simp only [Act.put, List.setIfInBounds_toArray, List.set_cons_zero, List.set_cons_succ]
                            refine held_take 8 rfl (by kernel_rfl) (by kernel_rfl) (by kernel_rfl) (fun _ _ _ h => h) hHeld (by rfl) (v := ?_) ?_ ?_
                            rotate_left
                            · intro w hSw; (try dsimp only at hSw); (try go_simp); (try with_reducible rfl)
                            try simp only [Act.put, List.setIfInBounds_toArray, List.set_cons_zero, List.set_cons_succ]
                            refine held_take 9 rfl (by kernel_rfl) (by kernel_rfl) (by kernel_rfl) (fun _ _ _ h => h) hHeld (by rfl) (v := ?_) ?_ ?_
                            rotate_left
                            · intro w hSw; (try dsimp only at hSw); (try go_simp); (try with_reducible rfl)
                            try simp only [Act.put, List.setIfInBounds_toArray, List.set_cons_zero, List.set_cons_succ]
                            refine held_take 10 rfl (by kernel_rfl) (by kernel_rfl) (by kernel_rfl) (fun _ _ _ h => h) hHeld (by rfl) (v := ?_) ?_ ?_
                            rotate_left
                            · intro w hSw; (try dsimp only at hSw); (try go_simp); (try with_reducible rfl)
                            try simp only [Act.put, List.setIfInBounds_toArray, List.set_cons_zero, List.set_cons_succ]
                            refine held_take 11 rfl (by kernel_rfl) (by kernel_rfl) (by kernel_rfl) (fun _ _ _ h => h) hHeld (by rfl) (v := ?_) ?_ ?_
                            rotate_left
                            · intro w hSw; (try dsimp only at hSw); (try go_simp); (try with_reducible rfl)
                            try simp only [Act.put, List.setIfInBounds_toArray, List.set_cons_zero, List.set_cons_succ]
                            refine held_take 12 rfl (by kernel_rfl) (by kernel_rfl) (by kernel_rfl) (fun _ _ _ h => h) hHeld (by rfl) (v := ?_) ?_ ?_
                            rotate_left
                            · intro w hSw; (try dsimp only at hSw); (try go_simp); (try with_reducible rfl)
                            try simp only [Act.put, List.setIfInBounds_toArray, List.set_cons_zero, List.set_cons_succ]
                            refine held_take 13 rfl (by kernel_rfl) (by kernel_rfl) (by kernel_rfl) (fun _ _ _ h => h) hHeld (by rfl) (v := ?_) ?_ ?_
                            rotate_left
                            · intro w hSw; (try dsimp only at hSw); (try go_simp); (try with_reducible rfl)
                            try simp only [Act.put, List.setIfInBounds_toArray, List.set_cons_zero, List.set_cons_succ]
                            refine held_take 14 rfl (by kernel_rfl) (by kernel_rfl) (by kernel_rfl) (fun _ _ _ h => h) hHeld (by rfl) (v := ?_) ?_ ?_
                            rotate_left
                            · intro w hSw; (try dsimp only at hSw); (try go_simp); (try with_reducible rfl)
                            try simp only [Act.put, List.setIfInBounds_toArray, List.set_cons_zero, List.set_cons_succ]
                            refine held_take 15 rfl (by kernel_rfl) (by kernel_rfl) (by kernel_rfl) (fun _ _ _ h => h) hHeld (by rfl) (v := ?_) ?_ ?_
                            rotate_left
                            · intro w hSw; (try dsimp only at hSw); (try go_simp); (try with_reducible rfl)
                            try simp only [Act.put, List.setIfInBounds_toArray, List.set_cons_zero, List.set_cons_succ]
                            refine held_take 16 rfl (by kernel_rfl) (by kernel_rfl) (by kernel_rfl) (fun _ _ _ h => h) hHeld (by rfl) (v := ?_) ?_ ?_
                            rotate_left
                            · intro w hSw; (try dsimp only at hSw); (try go_simp); (try with_reducible rfl)
                            try simp only [Act.put, List.setIfInBounds_toArray, List.set_cons_zero, List.set_cons_succ]
                            refine held_take 17 rfl (by kernel_rfl) (by kernel_rfl) (by kernel_rfl) (fun _ _ _ h => h) hHeld (by rfl) (v := ?_) ?_ ?_
                            rotate_left
                            · intro w hSw; (try dsimp only at hSw); (try go_simp); (try with_reducible rfl)
                            try simp only [Act.put, List.setIfInBounds_toArray, List.set_cons_zero, List.set_cons_succ]
                            refine held_take 18 rfl (by kernel_rfl) (by kernel_rfl) (by kernel_rfl) (fun _ _ _ h => h) hHeld (by rfl) (v := ?_) ?_ ?_
                            rotate_left
                            · intro w hSw; (try dsimp only at hSw); (try go_simp); (try with_reducible rfl)
                            try simp only [Act.put, List.setIfInBounds_toArray, List.set_cons_zero, List.set_cons_succ]
                            refine held_take 19 rfl (by kernel_rfl) (by kernel_rfl) (by kernel_rfl) (fun _ _ _ h => h) hHeld (by rfl) (v := ?_) ?_ ?_
                            rotate_left
                            · intro w hSw; (try dsimp only at hSw); (try go_simp); (try with_reducible rfl)
                            try simp only [Act.put, List.setIfInBounds_toArray, List.set_cons_zero, List.set_cons_succ]
                            refine held_take 20 rfl (by kernel_rfl) (by kernel_rfl) (by kernel_rfl) (fun _ _ _ h => h) hHeld (by rfl) (v := ?_) ?_ ?_
                            rotate_left
                            · intro w hSw; (try dsimp only at hSw); (try go_simp); (try with_reducible rfl)
                            try simp only [Act.put, List.setIfInBounds_toArray, List.set_cons_zero, List.set_cons_succ]
                            refine held_take 21 rfl (by kernel_rfl) (by kernel_rfl) (by kernel_rfl) (fun _ _ _ h => h) hHeld (by rfl) (v := ?_) ?_ ?_
                            rotate_left
                            · intro w hSw; (try dsimp only at hSw); (try go_simp); (try with_reducible rfl)
                            try simp only [Act.put, List.setIfInBounds_toArray, List.set_cons_zero, List.set_cons_succ]
                            refine held_take 22 rfl (by kernel_rfl) (by kernel_rfl) (by kernel_rfl) (fun _ _ _ h => h) hHeld (by rfl) (v := ?_) ?_ ?_
                            rotate_left
                            · intro w hSw; (try dsimp only at hSw); (try go_simp); (try with_reducible rfl)
                            try simp only [Act.put, List.setIfInBounds_toArray, List.set_cons_zero, List.set_cons_succ]
                            refine held_take 23 rfl (by kernel_rfl) (by kernel_rfl) (by kernel_rfl) (fun _ _ _ h => h) hHeld (by rfl) (v := ?_) ?_ ?_
                            rotate_left
                            · intro w hSw; (try dsimp only at hSw); (try go_simp); (try with_reducible rfl)
                            try simp only [Act.put, List.setIfInBounds_toArray, List.set_cons_zero, List.set_cons_succ]
                            refine held_take 24 rfl (by kernel_rfl) (by kernel_rfl) (by kernel_rfl) (fun _ _ _ h => h) hHeld (by rfl) (v := ?_) ?_ ?_
                            rotate_left
                            · intro w hSw; (try dsimp only at hSw); (try go_simp); (try with_reducible rfl)
                            try simp only [Act.put, List.setIfInBounds_toArray, List.set_cons_zero, List.set_cons_succ]
                            refine held_take 25 rfl (by kernel_rfl) (by kernel_rfl) (by kernel_rfl) (fun _ _ _ h => h) hHeld (by rfl) (v := ?_) ?_ ?_
                            rotate_left
                            · intro w hSw; (try dsimp only at hSw); (try go_simp); (try with_reducible rfl)
                            try simp only [Act.put, List.setIfInBounds_toArray, List.set_cons_zero, List.set_cons_succ]
                            refine held_step 26 rfl (by kernel_rfl) (by rfl) (fun Kx hK => ?_)
                            go_simp
                            go_at_call 18; refine (in_key (.slice kb bks.length kd) bks y.dir y.name _ (HQ4.out.below (HBDK.out.trans (hbh.mono HBDK.out.size)))).mono ?_; rintro e wi ⟨rfl, hbi⟩; rw [show decide ((⟨y.dir, y.name⟩ : Ky) ∈ bks) = true from decide_eq_true HYB.out]; have hSB := keep5 hSA hbi
                            refine hK.out _ _ ?_ (fun hHeld2 => ?_)
                            · (try dsimp only); first | exact hS0 | exact hSA | exact hSB
                            clear hK Kx hHeld
                            have hHeld := hHeld2
                            clear hHeld2
                            try simp only [Act.put, List.setIfInBounds_toArray, List.set_cons_zero, List.set_cons_succ]
                            refine held_take 27 rfl (by kernel_rfl) (by kernel_rfl) (by kernel_rfl) (fun _ _ _ h => h) hHeld (by rfl) (v := ?_) ?_ ?_
                            rotate_left
                            · intro w hSw; (try dsimp only at hSw); (try go_simp); (try with_reducible rfl)
                            try simp only [Act.put, List.setIfInBounds_toArray, List.set_cons_zero, List.set_cons_succ]
                            refine held_take 28 rfl (by kernel_rfl) (by kernel_rfl) (by kernel_rfl) (fun _ _ _ h => h) hHeld (by rfl) (v := ?_) ?_ ?_
                            rotate_left
                            · intro w hSw; (try dsimp only at hSw); (try go_simp); (try with_reducible rfl)
                            try simp only [Act.put, List.setIfInBounds_toArray, List.set_cons_zero, List.set_cons_succ]
                            refine held_take 29 rfl (by kernel_rfl) (by kernel_rfl) (by kernel_rfl) (fun _ _ _ h => h) hHeld (by rfl) (v := ?_) ?_ ?_
                            rotate_left
                            · intro w hSw; (try dsimp only at hSw); (try go_simp); (try with_reducible rfl)
                            try simp only [Act.put, List.setIfInBounds_toArray, List.set_cons_zero, List.set_cons_succ]
                            refine held_take 30 rfl (by kernel_rfl) (by kernel_rfl) (by kernel_rfl) (fun _ _ _ h => h) hHeld (by rfl) (v := ?_) ?_ ?_
                            rotate_left
                            · intro w hSw; (try dsimp only at hSw); (try go_simp); (try with_reducible rfl)
                            try simp only [Act.put, List.setIfInBounds_toArray, List.set_cons_zero, List.set_cons_succ]
                            refine wpAnyH_done (by kernel_rfl) ?_ _
                            have HBK2 := hid (HBK.out.trans ((((below_drew1 _).trans hbh).trans (hbi.mono ((below_drew1 _).trans hbh).size)).mono HBK.out.size))
                            clear hHeld hS0 hSA hSB hbh hbi
                            go_wp2
                            exact ⟨⟨k + 1, by omega, by go_num, HBK2⟩, by simp [intOf]; omega⟩
                  · have HIN := hid (show t'.n ≤ ((i + 1 : Nat) : Int) ∧ t'.P = pr ∧ t'.Q = qu from ⟨by have := HT.out.1; have h2 := HN'.out; omega, by rw [HST.out.P]; exact HT.out.2.1, by rw [HST.out.Q]; exact HT.out.2.2⟩)
                    have HVN := hid (HV7.out.alloc HBK.out)
                    go_wp2
                    exact ⟨⟨i + 1, F', t', by omega, by go_num, HVN, HIN⟩, by simp [intOf]; omega⟩
      · go_wp2_with fail
        refine (v_awake _).mono ?_; rintro e w9 ⟨rfl, hb9⟩
        have HB9 := hid (HV.out.below.trans (hb9.mono HV.out.sz))
        clear hb9
        go_wp2
        go_ret
        exact ⟨rfl, HB9.out⟩
  · refine (v_new_no _ 1 pr qu hE).mono ?_
    rintro e wx ⟨rfl, rfl⟩
    have HNO := hid hE
    clear hE
    by_cases g1 : pr < 1
    · go_wp2_with fail
      refine (v_awake _).mono ?_; rintro e w9 ⟨rfl, hb9⟩
      have HB9 := hid hb9
      clear hb9
      go_wp2
      go_ret
      exact ⟨rfl, HB9.out⟩
    by_cases g2 : pr > 32
    · go_wp2_with fail
      refine (v_awake _).mono ?_; rintro e w9 ⟨rfl, hb9⟩
      have HB9 := hid hb9
      clear hb9
      go_wp2
      go_ret
      exact ⟨rfl, HB9.out⟩
    by_cases g3 : qu < 1
    · go_wp2_with fail
      refine (v_awake _).mono ?_; rintro e w9 ⟨rfl, hb9⟩
      have HB9 := hid hb9
      clear hb9
      go_wp2
      go_ret
      exact ⟨rfl, HB9.out⟩
    by_cases g4 : qu > 16
    · go_wp2_with fail
      refine (v_awake _).mono ?_; rintro e w9 ⟨rfl, hb9⟩
      have HB9 := hid hb9
      clear hb9
      go_wp2
      go_ret
      exact ⟨rfl, HB9.out⟩
    exact absurd ⟨⟨by decide, by decide⟩, ⟨by omega, by omega⟩, by omega, by omega⟩ HNO.out

end Go.Proofs.Ytakkdaenindboaa
