import Derived.Test.YtakkdaenindboaaVowW
namespace Go.Proofs.Ytakkdaenindboaa
set_option linter.unusedVariables false
set_option linter.unusedSimpArgs false
open Go.RowKit
attribute [local go_sem ↓] Go.wp_at_zero Go.wp_at_succ
attribute [local go_sem] run_store_complex run_store_float

def goneB (al : Bool) (bks : List Ky) (y : Ky) : Bool := al || decide (y ∈ bks) || decide ((⟨y.dir, ByteArray.empty⟩ : Ky) ∈ bks)
/-- what is known is promised, or its directory is -/
def KnI (ks K : List Ky) : Prop := ∀ y ∈ K, y ∈ ks ∨ (⟨y.dir, ByteArray.empty⟩ : Ky) ∈ ks
theorem knI_none {t t' : Ts} {K : List Ky} (h : KnI t.ks K) (hk : ∀ k ∈ t.ks, k ∈ t'.ks) : KnI t'.ks K := fun y hy => (h y hy).imp (hk _) (hk _)
theorem knI_some {ks ks' K bks : List Ky} {al : Bool} (h : KnI ks K) (hk : ∀ k ∈ ks, k ∉ ks' → al = true ∨ k ∈ bks) : KnI ks' (K.filter fun y => !goneB al bks y) := by
  intro y hy
  obtain ⟨h1, h2⟩ := List.mem_filter.1 hy
  simp only [goneB, Bool.not_eq_true', Bool.or_eq_false_iff, decide_eq_false_iff_not] at h2
  obtain ⟨⟨h3, h4⟩, h5⟩ := h2
  have hg : ∀ k, k ∈ ks → k ∉ bks → k ∈ ks' := fun k hk1 hk2 => Decidable.byContradiction fun hn => by
    rcases hk k hk1 hn with h6 | h6
    · rw [h3] at h6; cases h6
    · exact hk2 h6
  exact (h y h1).imp (fun h => hg _ h h4) (fun h => hg _ h h5)
theorem knI_one {ks K : List Ky} (h : KnI ks K) {f : Ky} (hf : f ∈ ks) : KnI ks (K ++ [f]) := fun y hy => by
  rcases List.mem_append.1 hy with h1 | h1
  · exact h y h1
  · obtain rfl := List.mem_singleton.1 h1; exact .inl hf
theorem knI_two {ks K : List Ky} (h : KnI ks K) {f : Ky} (hf : f ∈ ks) (hn : f.name = ByteArray.empty) (s : ByteArray) : KnI ks (K ++ [f] ++ [⟨f.dir, s⟩]) := fun y hy => by
  rcases List.mem_append.1 hy with h1 | h1
  · exact knI_one h hf y h1
  · obtain rfl := List.mem_singleton.1 h1
    refine .inr ?_
    have : f = ⟨f.dir, ByteArray.empty⟩ := by cases f; simp only at hn; subst hn; rfl
    rw [← this]; exact hf
theorem filter_len_le (K : List Ky) (p : Ky → Bool) (k : Nat) : ((K.take k).filter p).length ≤ k := Nat.le_trans (List.length_filter_le _ _) (by simp; omega)

theorem nm_empty (s : ByteArray) : s = ByteArray.empty ↔ s.toList = [] := by
  have h := bytes_beq s ByteArray.empty
  rw [Bool.eq_iff_iff, beq_iff_eq, decide_eq_true_iff] at h
  rw [← h]
  simp [ByteArray.toList_eq]
theorem fgrow_le {w w' : World} {F F' : Nat → Prop} (h : Fgrow w' F F') (hs : w.heap.size ≤ w'.heap.size) : Fgrow w F F' := fun k hk => (h k hk).imp id fun h => by omega

set_option maxRecDepth 100000 in
set_option maxHeartbeats 16000000 in
theorem vowTold_walk (pr qu : Int) (sa : Option Addr) (sc : Nat) (S : List Vop) (w : World) (hS : ScrV w (.slice sa S.length sc) S) (hz : S.length ≤ 1048576) (hkz : ∀ x ∈ S, x.ks.length * 24 ≤ 140737488351232) :
    Calls Try.prog 3 #[.int .i64 pr, .int .i64 qu, .slice sa S.length sc] w fun e w' => e = .returned (.bool true) ∧ Below w.heap.size w w' := by
  have HS := hid hS
  have HKZ := hid hkz
  obtain ⟨i1, hin, hy0, hy1, hy2⟩ := info_parts infoKy
  have HI := hid hin
  clear hS hkz hin
  go_enter Try.func3, Try.ntmps3
  go_wp2_with fail
  by_cases hE : NewOk 1 pr qu
  · have HEOK := hid hE
    refine (v_new_yes _ 1 pr qu hE).mono ?_
    rintro e w1 ⟨rfl, hv1, hb1⟩
    have HS1 := hid (show VS w w1 (fun k => k = w.heap.size) w.heap.size ⟨1, 0, pr, qu, [], []⟩ from ⟨hv1, fun k hk => by omega, hb1⟩)
    clear hv1 hb1
    go_wp2_with fail
    go_loopw [9, 10] (fun v9 v10 wr => ∃ (i : Nat) (F : Nat → Prop) (t : Ts) (ka : Option Addr) (kc : Nat) (K : List Ky), i ≤ S.length ∧ v10 = .int .i64 i ∧ v9 = .slice ka K.length kc ∧ K.length ≤ 2 * i ∧ Hid (VS w wr F w.heap.size t) ∧ Hid (t.n ≤ (i : Int) ∧ t.P = pr ∧ t.Q = qu) ∧
      Hid (wr.ownsRow w.heap.size 37 2 (.slice ka K.length kc) K.length (kyc K)) ∧ Hid (∀ k, (Value.slice ka K.length kc).ownBlock = some k → ¬ F k) ∧ Hid (KnI t.ks K)) (fun _ v10 _ => S.length - (intOf v10).toNat)
    case atStart => exact ⟨0, _, _, none, 0, [], by omega, rfl, rfl, by simp, HS1, hid ⟨Int.le_refl _, rfl, rfl⟩, hid (World.ownsRow_nil _ _ _ _), hid (by simp [Value.ownBlock]), hid (fun _ h => by cases h)⟩
    case round =>
      obtain ⟨i, F, t, ka, kc, K, hi, rfl, rfl, hKl, HV, HT, HKN, HKF, HKI⟩ := hrel
      obtain ⟨wo, hwo⟩ : ∃ wo, wo = wr := ⟨_, rfl⟩
      subst hwo
      by_cases hlt : i < S.length
      · obtain ⟨b, off, rfl⟩ := HS.out.loc (by omega)
        obtain ⟨x, hx⟩ : ∃ x, S[i]? = some x := ⟨_, List.getElem?_eq_getElem hlt⟩
        have hmem : x ∈ S := List.mem_of_getElem? hx
        have CE := scrV_at HS.out HV.out.below hx
        have HKL := hid (HKZ.out x hmem)
        have HKR := hid (show Rd wo (.slice x.a x.ks.length x.c) x.ks.length (kyc x.ks) from (show Rd w (.slice x.a x.ks.length x.c) x.ks.length (kyc x.ks) from HS.out.each x hmem).below HV.out.below)
        have HKRW := hid (show Rd w (.slice x.a x.ks.length x.c) x.ks.length (kyc x.ks) from HS.out.each x hmem)
        have HN40 := hid (show t.n < 1099511627776 by have := HT.out.1; omega)
        have hi0 : (0 : Int) ≤ (i : Int) := by omega
        have hi1 : (i : Int) < (S.length : Int) := by omega
        have hbox := heap_new wo (.cells #[.int .i64 x.kind, .int .i64 x.ver, .int .i64 x.ep, .int .i64 x.num, .slice x.a x.ks.length x.c] 30)
        have HBOX := hid hbox
        have BX := blk5 hbox
        have hB1 := bl1 wo (.cells #[.int .i64 x.kind, .int .i64 x.ver, .int .i64 x.ep, .int .i64 x.num, .slice x.a x.ks.length x.c] 30)
        have HV3 := hid (HV.out.alloc hB1)
        have HKR3 := hid (HKR.out.below hB1)
        have HFW := hid (HV.out.v.lt)
        have HKN3 := hid (own_alloc HKN.out (.cells #[.int .i64 x.kind, .int .i64 x.ver, .int .i64 x.ep, .int .i64 x.num, .slice x.a x.ks.length x.c] 30))
        clear hx hmem hbox hB1
        go_upto_if 60 with (first
          | (go_at_call 13; refine (place_pos _ 3 _ (by omega) (by omega)).mono ?_; rintro e wx ⟨rfl, rfl⟩))
        go_cut [12] (fun v12 wx => ∃ (F' : Nat → Prop) (t' : Ts) (a : Option Addr) (c : Nat) (R : List Bk), v12 = .slice a R.length c ∧ Hid (VS w wx F' w.heap.size t') ∧ Hid (BrsAt wx 0 a c R) ∧ Hid (Stp t x.ver t' (R.map Bk.pl)) ∧ Hid (Chg F (wo.alloc (.cells #[.int .i64 x.kind, .int .i64 x.ver, .int .i64 x.ep, .int .i64 x.num, .slice x.a x.ks.length x.c] 30)) wx) ∧ Hid (Fgrow (wo.alloc (.cells #[.int .i64 x.kind, .int .i64 x.ver, .int .i64 x.ep, .int .i64 x.num, .slice x.a x.ks.length x.c] 30)) F F'))
        case first =>
          as_aux_lemma =>
            by_cases hq : x.kind % 3 = 1
            · have ht0 : (x.kind % 3 == 1) = true := by simp [hq]
              clear hq
              go_wp2_with fail
              have hV0 := HV3.out.alloc (below_drew1 _)
              have hS0 := box2 HBOX.out (below_drew1 _)
              refine held_start (fun w' => w'.cell? ⟨wo.heap.size, 4, none⟩ = some (.slice x.a x.ks.length x.c) ∧ w'.cell? ⟨wo.heap.size, 1, none⟩ = some (.int .i64 x.ver)) (by kernel_rfl) ?_ (fun hHeld => ?_)
              · first | exact hS0 | exact hSA | exact boxc HBOX.out hb1 hC2 HFW.out
              refine held_take 0 rfl (by kernel_rfl) (by kernel_rfl) (by kernel_rfl) (fun _ _ _ h => h) hHeld (by rfl) (v := ?_) ?_ ?_
              rotate_left
              · intro w hSw; (try dsimp only at hSw); (try go_simp); (try with_reducible rfl)
              try simp only [Act.put, List.setIfInBounds_toArray, List.set_cons_zero, List.set_cons_succ]
              refine held_take 1 rfl (by kernel_rfl) (by kernel_rfl) (by kernel_rfl) (fun _ _ _ h => h) hHeld (by rfl) (v := ?_) ?_ ?_
              rotate_left
              · intro w hSw; (try dsimp only at hSw); (try go_simp); (try with_reducible rfl)
              try simp only [Act.put, List.setIfInBounds_toArray, List.set_cons_zero, List.set_cons_succ]
              refine held_take 2 rfl (by kernel_rfl) (by kernel_rfl) (by kernel_rfl) (fun _ _ _ h => h) hHeld (by rfl) (v := ?_) ?_ ?_
              rotate_left
              · intro w hSw; (try dsimp only at hSw); (try go_simp); (try with_reducible rfl)
              try simp only [Act.put, List.setIfInBounds_toArray, List.set_cons_zero, List.set_cons_succ]
              refine held_take 4 rfl (by kernel_rfl) (by kernel_rfl) (by kernel_rfl) (fun _ _ _ h => h) hHeld (by rfl) (v := ?_) ?_ ?_
              rotate_left
              · intro w hSw; (try dsimp only at hSw); (try go_simp); (try with_reducible rfl)
              try simp only [Act.put, List.setIfInBounds_toArray, List.set_cons_zero, List.set_cons_succ]
              refine held_take 5 rfl (by kernel_rfl) (by kernel_rfl) (by kernel_rfl) (fun _ _ _ h => h) hHeld (by rfl) (v := ?_) ?_ ?_
              rotate_left
              · intro w hSw; (try dsimp only at hSw); (try go_simp); (try with_reducible rfl)
              try simp only [Act.put, List.setIfInBounds_toArray, List.set_cons_zero, List.set_cons_succ]
              refine held_step 3 rfl (by kernel_rfl) (by rfl) (fun Kx hK => ?_)
              go_simp
              go_at_call 15; refine (copyKeys_any (.slice x.a x.ks.length x.c) x.ks _ (HKR3.out.below (below_drew1 _)) HKL.out).mono ?_; rintro e wc ⟨ca, cc, rfl, ho1, hb1⟩; have hV1 := hV0.alloc hb1; have hO1 := hid (Rd.own ho1); clear ho1; have hSA := keep2 hS0 hb1
              refine hK.out _ _ ?_ (fun hHeld2 => ?_)
              · (try dsimp only); first | exact hS0 | exact hSA | exact boxc HBOX.out hb1 hC2 HFW.out
              clear hK Kx hHeld
              have hHeld := hHeld2
              clear hHeld2
              try simp only [Act.put, List.setIfInBounds_toArray, List.set_cons_zero, List.set_cons_succ]
              refine held_step 6 rfl (by kernel_rfl) (by rfl) (fun Kx hK => ?_)
              go_simp
              go_at_call 14; refine (t_touch _ _ _ _ _ x.ks x.ver hV1.v hO1.out (by have := HKL.out; omega)).mono ?_; rintro e wd hp; obtain ⟨F2, a2, c2, R2, rfl, hV2, hR2, hB2, hO2', hC2, hF2⟩ := hV1.brk hp; clear hp hO2'
              refine hK.out _ _ ?_ (fun hHeld2 => ?_)
              · (try dsimp only); first | exact hS0 | exact hSA | exact boxc HBOX.out hb1 hC2 HFW.out
              clear hK Kx hHeld
              have hHeld := hHeld2
              clear hHeld2
              try simp only [Act.put, List.setIfInBounds_toArray, List.set_cons_zero, List.set_cons_succ]
              refine held_take 7 rfl (by kernel_rfl) (by kernel_rfl) (by kernel_rfl) (fun _ _ _ h => h) hHeld (by rfl) (v := ?_) ?_ ?_
              rotate_left
              · intro w hSw; (try dsimp only at hSw); (try go_simp); (try with_reducible rfl)
              try simp only [Act.put, List.setIfInBounds_toArray, List.set_cons_zero, List.set_cons_succ]
              refine wpAnyH_done (by kernel_rfl) ?_ _
              go_wp2_with fail
              go_meet
              case rel => exact ⟨_, _, _, _, _, rfl, hid hV2, hid hB2.weak, hid (by rw [hR2]; exact touch_stp HN40.out), hid (((Chg.below ((below_drew1 _).trans (hb1.mono (Nat.le_refl _)))).mono (fun _ _ h => h.elim)).trans hC2 (fun _ _ h => h) (fun _ _ h => h)), hid (fgrow_le hF2 ((below_drew1 _).trans (hb1.mono (Nat.le_refl _))).size)⟩
            · have ht0 : (x.kind % 3 == 1) = false := by simp [hq]
              clear hq
              go_wp2_with fail
              have hV0 := HV3.out.alloc (below_drew1 _)
              have hS0 := box2 HBOX.out (below_drew1 _)
              refine held_start (fun w' => w'.cell? ⟨wo.heap.size, 4, none⟩ = some (.slice x.a x.ks.length x.c) ∧ w'.cell? ⟨wo.heap.size, 1, none⟩ = some (.int .i64 x.ver)) (by kernel_rfl) ?_ (fun hHeld => ?_)
              · first | exact hS0 | exact hSA | exact boxc HBOX.out hb1 hC2 HFW.out
              refine held_take 0 rfl (by kernel_rfl) (by kernel_rfl) (by kernel_rfl) (fun _ _ _ h => h) hHeld (by rfl) (v := ?_) ?_ ?_
              rotate_left
              · intro w hSw; (try dsimp only at hSw); (try go_simp); (try with_reducible rfl)
              try simp only [Act.put, List.setIfInBounds_toArray, List.set_cons_zero, List.set_cons_succ]
              refine held_take 1 rfl (by kernel_rfl) (by kernel_rfl) (by kernel_rfl) (fun _ _ _ h => h) hHeld (by rfl) (v := ?_) ?_ ?_
              rotate_left
              · intro w hSw; (try dsimp only at hSw); (try go_simp); (try with_reducible rfl)
              try simp only [Act.put, List.setIfInBounds_toArray, List.set_cons_zero, List.set_cons_succ]
              refine held_take 2 rfl (by kernel_rfl) (by kernel_rfl) (by kernel_rfl) (fun _ _ _ h => h) hHeld (by rfl) (v := ?_) ?_ ?_
              rotate_left
              · intro w hSw; (try dsimp only at hSw); (try go_simp); (try with_reducible rfl)
              try simp only [Act.put, List.setIfInBounds_toArray, List.set_cons_zero, List.set_cons_succ]
              refine held_take 4 rfl (by kernel_rfl) (by kernel_rfl) (by kernel_rfl) (fun _ _ _ h => h) hHeld (by rfl) (v := ?_) ?_ ?_
              rotate_left
              · intro w hSw; (try dsimp only at hSw); (try go_simp); (try with_reducible rfl)
              try simp only [Act.put, List.setIfInBounds_toArray, List.set_cons_zero, List.set_cons_succ]
              refine held_take 5 rfl (by kernel_rfl) (by kernel_rfl) (by kernel_rfl) (fun _ _ _ h => h) hHeld (by rfl) (v := ?_) ?_ ?_
              rotate_left
              · intro w hSw; (try dsimp only at hSw); (try go_simp); (try with_reducible rfl)
              try simp only [Act.put, List.setIfInBounds_toArray, List.set_cons_zero, List.set_cons_succ]
              refine held_step 3 rfl (by kernel_rfl) (by rfl) (fun Kx hK => ?_)
              go_simp
              go_at_call 17; refine (first_key (.slice x.a x.ks.length x.c) x.ks _ (HKR3.out.below (below_drew1 _))).mono ?_; rintro e wc ⟨rfl, hb1⟩; have hV1 := hV0.alloc hb1; have hSA := keep2 hS0 hb1
              refine hK.out _ _ ?_ (fun hHeld2 => ?_)
              · (try dsimp only); first | exact hS0 | exact hSA | exact boxc HBOX.out hb1 hC2 HFW.out
              clear hK Kx hHeld
              have hHeld := hHeld2
              clear hHeld2
              try simp only [Act.put, List.setIfInBounds_toArray, List.set_cons_zero, List.set_cons_succ]
              refine held_step 6 rfl (by kernel_rfl) (by rfl) (fun Kx hK => ?_)
              go_simp
              go_at_call 16; refine (t_grant _ _ _ _ (firstK x.ks).dir (firstK x.ks).name x.ver hV1.v).mono ?_; rintro e wd hp; obtain ⟨F2, a2, c2, R2, rfl, hV2, hR2, hB2, hO2', hC2, hF2⟩ := hV1.brk hp; clear hp hO2'
              refine hK.out _ _ ?_ (fun hHeld2 => ?_)
              · (try dsimp only); first | exact hS0 | exact hSA | exact boxc HBOX.out hb1 hC2 HFW.out
              clear hK Kx hHeld
              have hHeld := hHeld2
              clear hHeld2
              try simp only [Act.put, List.setIfInBounds_toArray, List.set_cons_zero, List.set_cons_succ]
              refine held_take 7 rfl (by kernel_rfl) (by kernel_rfl) (by kernel_rfl) (fun _ _ _ h => h) hHeld (by rfl) (v := ?_) ?_ ?_
              rotate_left
              · intro w hSw; (try dsimp only at hSw); (try go_simp); (try with_reducible rfl)
              try simp only [Act.put, List.setIfInBounds_toArray, List.set_cons_zero, List.set_cons_succ]
              refine wpAnyH_done (by kernel_rfl) ?_ _
              go_wp2_with fail
              go_meet
              case rel => exact ⟨_, _, _, _, _, rfl, hid hV2, hid hB2.weak, hid (by rw [hR2]; exact grant_stp HN40.out), hid (((Chg.below ((below_drew1 _).trans (hb1.mono (Nat.le_refl _)))).mono (fun _ _ h => h.elim)).trans hC2 (fun _ _ h => h) (fun _ _ h => h)), hid (fgrow_le hF2 ((below_drew1 _).trans (hb1.mono (Nat.le_refl _))).size)⟩
        case rest =>
          obtain ⟨F', t', a5, c5, R5, rfl, HV5, HB5, HST, HC5, HFG⟩ := hcut
          obtain ⟨w5, hw5⟩ := VS.named HV5.out
          subst hw5
          have HBX5 := hid (heap_chg HC5.out HBOX.out (fun hf => by have := HFW.out _ hf; omega))
          have HKN5 := hid (ownsRow_chg HKN3.out fun k hk hl => HC5.out.block k hl (HKF.out k hk))
          have HSZ := hid HC5.out.size
          clear BX CE
          go_wp2_with fail
          rcases HST.out.or with ⟨hL, hn', hkk⟩ | ⟨al, bks, q0, hL, hn', hqs, hal, hkk⟩
          · have hRn : R5 = [] := by simpa using hL
            subst hRn
            have HN' := hid hn'
            have HKK := hid hkk
            have HKI' := hid (knI_none HKI.out hkk)
            clear hL hn' hkk
            go_loopw [13, 14] (fun v13 v14 wr => ∃ (k : Nat) (la : Option Addr) (lc : Nat) (LF : List Ky), k ≤ K.length ∧ v14 = .int .i64 k ∧ v13 = .slice la LF.length lc ∧ LF.length ≤ k ∧ Hid (LF = K.take k) ∧
              Hid (wr.ownsRow w5.heap.size 37 2 (.slice la LF.length lc) LF.length (kyc LF)) ∧ Hid (Below w5.heap.size w5 wr)) (fun _ v14 _ => K.length - (intOf v14).toNat)
            case atStart => exact ⟨0, none, 0, [], by omega, rfl, rfl, by simp, hid (by simp), hid (World.ownsRow_nil _ _ _ _), hid (Below.refl _ _)⟩
            case round =>
              as_aux_lemma =>
                obtain ⟨k, la, lc, LF, hk, rfl, rfl, hLk, HLD, HLO, HBK⟩ := hrel
                obtain ⟨wk, hwk⟩ : ∃ wk, wk = wr := ⟨_, rfl⟩
                subst hwk
                by_cases hlt2 : k < K.length
                · obtain ⟨g0, o0, rfl⟩ := ks_loc (Rd.own HKN5.out) (by omega)
                  obtain ⟨y, hy⟩ : ∃ y, K[k]? = some y := ⟨_, List.getElem?_eq_getElem hlt2⟩
                  have HYI := hid hy
                  have hk0 : (0 : Int) ≤ (k : Int) := by omega
                  have hk1 : (k : Int) < (K.length : Int) := by omega
                  clear hy
                  go_wp2_with fail
                  go_loopw [15, 16] (fun v15 v16 wi => ∃ (j : Nat) (gg : Bool), v16 = .int .i64 j ∧ v15 = .bool gg ∧ Hid (j = 0 ∧ gg = false) ∧ Hid (Below wk.heap.size wk wi)) (fun _ v16 _ => 1 - (intOf v16).toNat)
                  case atStart => exact ⟨0, false, rfl, rfl, hid ⟨rfl, rfl⟩, hid (Below.refl _ _)⟩
                  case round =>
                    as_aux_lemma =>
                      obtain ⟨j, gg, rfl, rfl, HJ, HBJ⟩ := hrel
                      obtain ⟨rfl, rfl⟩ := HJ.out
                      have HBI := hid (HBK.out.trans (HBJ.out.mono HBK.out.size))
                      have HOI := hid (own_below HLO.out HBJ.out)
                      have z1 : decide ((0 : Int) < ((0 : Nat) : Int)) = false := by decide
                      have c1 := ks_at (Rd.own HKN5.out) HBI.out HYI.out
                      have hsz3 := HBI.out.size
                      go_wp2_with (at_builtin; refine wpList_append_rd rfl _ _ 28 rfl w5.heap.size 37 i1 _ 2 24 Try.underlying28 HI.out hy0 hy1 hy2 rfl (by decide) (.slice la LF.length lc) LF.length (kyc LF) rfl (own_alloc HOI.out _) (.slice (some ⟨wr.heap.size, 0, none⟩) 1 1) 1 [.int .i64 y.dir, .string y.name] rfl (rd_blk (heap_new wr _) (by unfold maxLen; omega)) rfl (by intro u hu; simp at hu; rcases hu with rfl | rfl <;> rfl) (by unfold maxLen; omega) (by omega) (by simp; omega) ?_; intro a2 c2 w2 hown2 hgrow2 hat2)
                      have HB2 := hid ((HBI.out.alloc hsz3 _).grown hgrow2 (by simp; omega) fun k hk => (own_lt HOI.out hk).1)
                      have hlen2 : LF.length + 1 = (LF ++ [y]).length := by rw [List.length_append]; rfl
                      have HLD2 := hid (show LF ++ [y] = K.take (k + 1) from by rw [HLD.out, List.take_add_one, HYI.out]; rfl)
                      have HOW2 := hid (show w2.ownsRow w5.heap.size 37 2 (.slice a2 (LF ++ [y]).length c2) (LF ++ [y]).length (kyc (LF ++ [y])) by rw [List.length_append, kyc_snoc]; exact hown2)
                      exact ⟨⟨k + 1, by omega, by go_num, a2, c2, LF ++ [y], ⟨rfl, hlen2, rfl⟩, by rw [← hlen2]; omega, HLD2, HOW2, HB2⟩, by simp [intOf]; omega⟩
                · have hLn : LF.length ≤ 2 * i := by omega
                  have HLI := hid (show KnI t'.ks LF by rw [HLD.out, List.take_of_length_le (by omega)]; exact HKI'.out)
                  clear hLk
                  have BXK := blk5 (heap_below HBK.out HBX5.out (blk_lt HBX5.out))
                  have HBW := hid (HV5.out.below.trans (HBK.out.mono HV5.out.sz))
                  have HVK := hid (HV5.out.alloc HBK.out)
                  go_wp2_with fail
                  refine (place_pos _ 3 _ (by omega) (by omega)).mono ?_; rintro e wx ⟨rfl, rfl⟩
                  by_cases hq : x.kind % 3 = 1
                  · have ht0 : (x.kind % 3 == 1) = true := by simp [hq]
                    have ht1 : (x.kind % 3 != 1) = false := by simp [hq]
                    have HKXL := hid (show LF.length ≤ 2 * i + 2 by omega)
                    clear hq
                    have hKX : LF.length ≤ 2 * i + 2 := HKXL.out
                    have HKF' := hid (show ∀ k, (Value.slice la LF.length lc).ownBlock = some k → ¬ F' k from fun k hk hf => by have h1 := (own_lt HLO.out hk).1; have h2 := HV5.out.v.lt k hf; omega)
                    have HVZ := hid HVK.out
                    have HWZ := hid (show w.heap.size ≤ w5.heap.size from HV5.out.sz)
                    go_wp2_with fail
                    go_loopw [17] (fun v17 wr => ∃ k4 : Nat, k4 ≤ LF.length ∧ v17 = .int .i64 k4 ∧ Hid (Below wk.heap.size wk wr)) (fun v17 _ => LF.length - (intOf v17).toNat)
                    case atStart => exact ⟨0, by omega, rfl, hid (Below.refl _ _)⟩
                    case round =>
                      as_aux_lemma =>
                        obtain ⟨k4, hk4, rfl, HB4⟩ := hrel
                        by_cases hlt4 : k4 < LF.length
                        · obtain ⟨g4, o4, rfl⟩ := ks_loc (Rd.own HLO.out) (by omega)
                          obtain ⟨y4, hy4⟩ : ∃ y4, LF[k4]? = some y4 := ⟨_, List.getElem?_eq_getElem hlt4⟩
                          have HYN := hid (HLI.out y4 (List.mem_of_getElem? hy4))
                          have c1 := ks_at (Rd.own HLO.out) HB4.out hy4
                          have HY4 := hid hy4
                          have hk40 : (0 : Int) ≤ (k4 : Int) := by omega
                          have hk41 : (k4 : Int) < (LF.length : Int) := by omega
                          have HV4 := hid (HVZ.out.alloc HB4.out)
                          clear hy4
                          go_wp2_with fail
                          refine (v_holds _ _ _ _ y4.dir y4.name HV4.out.v).mono ?_; rintro e wh4 ⟨rfl, hbh4⟩
                          have HB5' := hid (HB4.out.trans (hbh4.mono HB4.out.size))
                          have HV4' := hid (HV4.out.alloc hbh4)
                          clear hbh4
                          by_cases hm : y4 ∈ t'.ks
                          · rw [show decide ((⟨y4.dir, y4.name⟩ : Ky) ∈ t'.ks) = true from decide_eq_true hm]
                            clear hm c1
                            go_wp2
                            exact ⟨⟨k4 + 1, by omega, by go_num, HB5'⟩, by simp [intOf]; omega⟩
                          · have HDM := hid (HYN.out.resolve_left hm)
                            rw [show decide ((⟨y4.dir, y4.name⟩ : Ky) ∈ t'.ks) = false from decide_eq_false hm]
                            have c2 := ks_at (Rd.own HLO.out) HB5'.out HY4.out
                            clear hm c1
                            go_wp2_with fail
                            refine (v_holds _ _ _ _ y4.dir _ HV4'.out.v).mono ?_; rintro e wh5 ⟨rfl, hbh5⟩
                            rw [show decide ((⟨y4.dir, { data := #[] }⟩ : Ky) ∈ t'.ks) = true from decide_eq_true HDM.out]
                            have HB6' := hid (HB5'.out.trans (hbh5.mono HB5'.out.size))
                            clear hbh5
                            go_wp2
                            exact ⟨⟨k4 + 1, by omega, by go_num, HB6'⟩, by simp [intOf]; omega⟩
                        · have HIN := hid (show t'.n ≤ ((i + 1 : Nat) : Int) ∧ t'.P = pr ∧ t'.Q = qu from ⟨by have := HT.out.1; have h2 := HN'.out; omega, by rw [HST.out.P]; exact HT.out.2.1, by rw [HST.out.Q]; exact HT.out.2.2⟩)
                          have HVN := hid (HVZ.out.alloc HB4.out)
                          have HON := hid (ownsRow_mono (own_below HLO.out HB4.out) HWZ.out)
                          go_wp2
                          exact ⟨⟨i + 1, F', t', _, _, LF, by omega, by go_num, rfl, by omega, HVN, HIN, HON, HKF', HLI⟩, by simp [intOf]; omega⟩
                  · have ht0 : (x.kind % 3 == 1) = false := by simp [hq]
                    have ht1 : (x.kind % 3 != 1) = true := by simp [hq]
                    clear hq
                    obtain ⟨f, hf⟩ : ∃ f, f = firstK x.ks := ⟨_, rfl⟩
                    have HFD := hid hf
                    have hfd1 : ∀ w : World, (Instr.field 37 (.agg #[.int .i64 f.dir, .string f.name]) 1).run Try.prog w = .ok (.string f.name) w := fun _ => by kernel_rfl
                    have hfd0 : ∀ w : World, (Instr.field 37 (.agg #[.int .i64 f.dir, .string f.name]) 0).run Try.prog w = .ok (.int .i64 f.dir) w := fun _ => by kernel_rfl
                    clear hf
                    go_wp2_with fail
                    refine (first_key (.slice x.a x.ks.length x.c) x.ks _ (HKRW.out.below HBW.out)).mono ?_; rintro e wf ⟨rfl, hbf⟩
                    rw [← HFD.out]
                    have HBF := hid (HBK.out.trans (hbf.mono HBK.out.size))
                    have HVF := hid (HVK.out.alloc hbf)
                    have HLF1 := hid (own_below HLO.out hbf)
                    clear hbf BXK
                    go_wp2_with fail
                    refine (v_holds _ F' _ t' f.dir f.name HVF.out.v).mono ?_; rintro e wh ⟨rfl, hbh⟩
                    have HBH := hid (HBF.out.trans (hbh.mono HBF.out.size))
                    have HVH := hid (HVF.out.alloc hbh)
                    have HLH := hid (own_below HLF1.out hbh)
                    have BXH := blk5 (heap_below HBH.out HBX5.out (blk_lt HBX5.out))
                    clear hbh
                    by_cases hm : f ∈ t'.ks
                    · rw [show decide ((⟨f.dir, f.name⟩ : Ky) ∈ t'.ks) = true from decide_eq_true hm]
                      have HMF := hid hm
                      clear hm
                      go_wp2_with fail
                      refine (first_key (.slice x.a x.ks.length x.c) x.ks _ (HKRW.out.below (HV5.out.below.trans (HBH.out.mono HV5.out.sz)))).mono ?_; rintro e wg ⟨rfl, hbg⟩
                      rw [← HFD.out]
                      have HBG := hid (HBH.out.trans (hbg.mono HBH.out.size))
                      have HLG := hid (own_below HLH.out hbg)
                      have hgz1 := HBG.out.size
                      clear hbg BXH
                      go_wp2_with (at_builtin; refine wpList_append_rd rfl _ _ 28 rfl w5.heap.size 37 i1 _ 2 24 Try.underlying28 HI.out hy0 hy1 hy2 rfl (by decide) (.slice la LF.length lc) LF.length (kyc LF) rfl (own_alloc HLG.out _) (.slice (some ⟨wg.heap.size, 0, none⟩) 1 1) 1 [.int .i64 f.dir, .string f.name] rfl (rd_blk (heap_new wg _) (by unfold maxLen; omega)) rfl (by intro u hu; simp at hu; rcases hu with rfl | rfl <;> rfl) (by unfold maxLen; omega) (by omega) (by simp; omega) ?_; intro a2 c2 w2 hown2 hgrow2 hat2; have hB2q := (HBG.out.alloc hgz1 _).grown hgrow2 (by simp; omega) (fun k hk => (own_lt HLG.out hk).1); have BX2 := blk5 (heap_below hB2q HBX5.out (blk_lt HBX5.out)))
                      have HB2 := hid hB2q
                      have HV2 := hid (HV5.out.alloc HB2.out)
                      clear hB2q
                      obtain ⟨K2, hK2⟩ : ∃ K2, K2 = LF ++ [f] := ⟨_, rfl⟩
                      have hK2l : K2.length = LF.length + 1 := by rw [hK2, List.length_append]; rfl
                      have HL2 := hid (show w2.ownsRow w5.heap.size 37 2 (.slice a2 K2.length c2) K2.length (kyc K2) by rw [hK2l, hK2, kyc_snoc]; exact hown2)
                      have HI2 := hid (show KnI t'.ks K2 by rw [hK2]; exact knI_one HLI.out HMF.out)
                      have HK2 := hid hK2
                      have hK2b : K2.length ≤ 2 * i + 1 := by omega
                      rw [← hK2l]
                      clear hown2 hgrow2 hat2 hgz1 hK2 hK2l
                      go_wp2_with fail
                      refine (first_key (.slice x.a x.ks.length x.c) x.ks _ (HKRW.out.below (HV5.out.below.trans (HB2.out.mono HV5.out.sz)))).mono ?_; rintro e w3 ⟨rfl, hb3⟩
                      rw [← HFD.out]
                      have HB3 := hid (HB2.out.trans (hb3.mono HB2.out.size))
                      have HV3' := hid (HV2.out.alloc hb3)
                      have HL3 := hid (own_below HL2.out hb3)
                      clear hb3 BX2
                      by_cases hnm : f.name = ByteArray.empty
                      · have HNM := hid hnm
                        have hn1 := (nm_empty _).1 hnm
                        have hn0 : f.name.toList.isEmpty = true := by simp [hn1]
                        have BX3' := blk5 (heap_below HB3.out HBX5.out (blk_lt HBX5.out))
                        clear hnm
                        go_wp2_with fail
                        refine (first_key (.slice x.a x.ks.length x.c) x.ks _ (HKRW.out.below (HV5.out.below.trans (HB3.out.mono HV5.out.sz)))).mono ?_; rintro e w6 ⟨rfl, hb6⟩
                        rw [← HFD.out]
                        have HB6 := hid (HB3.out.trans (hb6.mono HB3.out.size))
                        have HL6 := hid (own_below HL3.out hb6)
                        have hgz6 := HB6.out.size
                        clear hb6 BX3' hn0 hn1
                        go_wp2_with (at_builtin; refine wpList_append_rd rfl _ _ 28 rfl w5.heap.size 37 i1 _ 2 24 Try.underlying28 HI.out hy0 hy1 hy2 rfl (by decide) (.slice a2 K2.length c2) K2.length (kyc K2) rfl (own_alloc HL6.out _) (.slice (some ⟨w6.heap.size, 0, none⟩) 1 1) 1 [.int .i64 f.dir, .string { data := #[97, 110, 121] }] rfl (rd_blk (heap_new w6 _) (by unfold maxLen; omega)) rfl (by intro u hu; simp at hu; rcases hu with rfl | rfl <;> rfl) (by unfold maxLen; omega) (by omega) (by simp; omega) ?_; intro a7 c7 w7 hown7 hgrow7 hat7)
                        have HB7 := hid ((HB6.out.alloc hgz6 _).grown hgrow7 (by simp; omega) fun k hk => (own_lt HL6.out hk).1)
                        have HV7 := hid (HV5.out.alloc HB7.out)
                        obtain ⟨K7, hK7⟩ : ∃ K7 : List Ky, K7 = K2 ++ [⟨f.dir, { data := #[97, 110, 121] }⟩] := ⟨_, rfl⟩
                        have hK7l : K7.length = K2.length + 1 := by rw [hK7, List.length_append]; rfl
                        have HL7 := hid (show w7.ownsRow w5.heap.size 37 2 (.slice a7 K7.length c7) K7.length (kyc K7) by rw [hK7l, hK7, kyc_snoc]; exact hown7)
                        have HI7 := hid (show KnI t'.ks K7 by rw [hK7, HK2.out]; exact knI_two HLI.out HMF.out HNM.out _)
                        have HKXL := hid (show K7.length ≤ 2 * i + 2 by omega)
                        rw [← hK7l]
                        clear hown7 hgrow7 hat7 hgz6 hK7 hK7l
                        have hKX : K7.length ≤ 2 * i + 2 := HKXL.out
                        have HKF' := hid (show ∀ k, (Value.slice a7 K7.length c7).ownBlock = some k → ¬ F' k from fun k hk hf => by have h1 := (own_lt HL7.out hk).1; have h2 := HV5.out.v.lt k hf; omega)
                        have HVZ := hid HV7.out
                        have HWZ := hid (show w.heap.size ≤ w5.heap.size from HV5.out.sz)
                        go_wp2_with fail
                        go_loopw [17] (fun v17 wr => ∃ k4 : Nat, k4 ≤ K7.length ∧ v17 = .int .i64 k4 ∧ Hid (Below w7.heap.size w7 wr)) (fun v17 _ => K7.length - (intOf v17).toNat)
                        case atStart => exact ⟨0, by omega, rfl, hid (Below.refl _ _)⟩
                        case round =>
                          as_aux_lemma =>
                            obtain ⟨k4, hk4, rfl, HB4⟩ := hrel
                            by_cases hlt4 : k4 < K7.length
                            · obtain ⟨g4, o4, rfl⟩ := ks_loc (Rd.own HL7.out) (by omega)
                              obtain ⟨y4, hy4⟩ : ∃ y4, K7[k4]? = some y4 := ⟨_, List.getElem?_eq_getElem hlt4⟩
                              have HYN := hid (HI7.out y4 (List.mem_of_getElem? hy4))
                              have c1 := ks_at (Rd.own HL7.out) HB4.out hy4
                              have HY4 := hid hy4
                              have hk40 : (0 : Int) ≤ (k4 : Int) := by omega
                              have hk41 : (k4 : Int) < (K7.length : Int) := by omega
                              have HV4 := hid (HVZ.out.alloc HB4.out)
                              clear hy4
                              go_wp2_with fail
                              refine (v_holds _ _ _ _ y4.dir y4.name HV4.out.v).mono ?_; rintro e wh4 ⟨rfl, hbh4⟩
                              have HB5' := hid (HB4.out.trans (hbh4.mono HB4.out.size))
                              have HV4' := hid (HV4.out.alloc hbh4)
                              clear hbh4
                              by_cases hm : y4 ∈ t'.ks
                              · rw [show decide ((⟨y4.dir, y4.name⟩ : Ky) ∈ t'.ks) = true from decide_eq_true hm]
                                clear hm c1
                                go_wp2
                                exact ⟨⟨k4 + 1, by omega, by go_num, HB5'⟩, by simp [intOf]; omega⟩
                              · have HDM := hid (HYN.out.resolve_left hm)
                                rw [show decide ((⟨y4.dir, y4.name⟩ : Ky) ∈ t'.ks) = false from decide_eq_false hm]
                                have c2 := ks_at (Rd.own HL7.out) HB5'.out HY4.out
                                clear hm c1
                                go_wp2_with fail
                                refine (v_holds _ _ _ _ y4.dir _ HV4'.out.v).mono ?_; rintro e wh5 ⟨rfl, hbh5⟩
                                rw [show decide ((⟨y4.dir, { data := #[] }⟩ : Ky) ∈ t'.ks) = true from decide_eq_true HDM.out]
                                have HB6' := hid (HB5'.out.trans (hbh5.mono HB5'.out.size))
                                clear hbh5
                                go_wp2
                                exact ⟨⟨k4 + 1, by omega, by go_num, HB6'⟩, by simp [intOf]; omega⟩
                            · have HIN := hid (show t'.n ≤ ((i + 1 : Nat) : Int) ∧ t'.P = pr ∧ t'.Q = qu from ⟨by have := HT.out.1; have h2 := HN'.out; omega, by rw [HST.out.P]; exact HT.out.2.1, by rw [HST.out.Q]; exact HT.out.2.2⟩)
                              have HVN := hid (HVZ.out.alloc HB4.out)
                              have HON := hid (ownsRow_mono (own_below HL7.out HB4.out) HWZ.out)
                              go_wp2
                              exact ⟨⟨i + 1, F', t', _, _, K7, by omega, by go_num, rfl, by omega, HVN, HIN, HON, HKF', HI7⟩, by simp [intOf]; omega⟩
                      · have hn1 : f.name.toList ≠ [] := fun h3 => hnm ((nm_empty _).2 h3)
                        have hn0 : f.name.toList.isEmpty = false := by simpa using hn1
                        have HKXL := hid (show K2.length ≤ 2 * i + 2 by omega)
                        clear hnm hn1
                        have hKX : K2.length ≤ 2 * i + 2 := HKXL.out
                        have HKF' := hid (show ∀ k, (Value.slice a2 K2.length c2).ownBlock = some k → ¬ F' k from fun k hk hf => by have h1 := (own_lt HL3.out hk).1; have h2 := HV5.out.v.lt k hf; omega)
                        have HVZ := hid HV3'.out
                        have HWZ := hid (show w.heap.size ≤ w5.heap.size from HV5.out.sz)
                        go_wp2_with fail
                        go_loopw [17] (fun v17 wr => ∃ k4 : Nat, k4 ≤ K2.length ∧ v17 = .int .i64 k4 ∧ Hid (Below w3.heap.size w3 wr)) (fun v17 _ => K2.length - (intOf v17).toNat)
                        case atStart => exact ⟨0, by omega, rfl, hid (Below.refl _ _)⟩
                        case round =>
                          as_aux_lemma =>
                            obtain ⟨k4, hk4, rfl, HB4⟩ := hrel
                            by_cases hlt4 : k4 < K2.length
                            · obtain ⟨g4, o4, rfl⟩ := ks_loc (Rd.own HL3.out) (by omega)
                              obtain ⟨y4, hy4⟩ : ∃ y4, K2[k4]? = some y4 := ⟨_, List.getElem?_eq_getElem hlt4⟩
                              have HYN := hid (HI2.out y4 (List.mem_of_getElem? hy4))
                              have c1 := ks_at (Rd.own HL3.out) HB4.out hy4
                              have HY4 := hid hy4
                              have hk40 : (0 : Int) ≤ (k4 : Int) := by omega
                              have hk41 : (k4 : Int) < (K2.length : Int) := by omega
                              have HV4 := hid (HVZ.out.alloc HB4.out)
                              clear hy4
                              go_wp2_with fail
                              refine (v_holds _ _ _ _ y4.dir y4.name HV4.out.v).mono ?_; rintro e wh4 ⟨rfl, hbh4⟩
                              have HB5' := hid (HB4.out.trans (hbh4.mono HB4.out.size))
                              have HV4' := hid (HV4.out.alloc hbh4)
                              clear hbh4
                              by_cases hm : y4 ∈ t'.ks
                              · rw [show decide ((⟨y4.dir, y4.name⟩ : Ky) ∈ t'.ks) = true from decide_eq_true hm]
                                clear hm c1
                                go_wp2
                                exact ⟨⟨k4 + 1, by omega, by go_num, HB5'⟩, by simp [intOf]; omega⟩
                              · have HDM := hid (HYN.out.resolve_left hm)
                                rw [show decide ((⟨y4.dir, y4.name⟩ : Ky) ∈ t'.ks) = false from decide_eq_false hm]
                                have c2 := ks_at (Rd.own HL3.out) HB5'.out HY4.out
                                clear hm c1
                                go_wp2_with fail
                                refine (v_holds _ _ _ _ y4.dir _ HV4'.out.v).mono ?_; rintro e wh5 ⟨rfl, hbh5⟩
                                rw [show decide ((⟨y4.dir, { data := #[] }⟩ : Ky) ∈ t'.ks) = true from decide_eq_true HDM.out]
                                have HB6' := hid (HB5'.out.trans (hbh5.mono HB5'.out.size))
                                clear hbh5
                                go_wp2
                                exact ⟨⟨k4 + 1, by omega, by go_num, HB6'⟩, by simp [intOf]; omega⟩
                            · have HIN := hid (show t'.n ≤ ((i + 1 : Nat) : Int) ∧ t'.P = pr ∧ t'.Q = qu from ⟨by have := HT.out.1; have h2 := HN'.out; omega, by rw [HST.out.P]; exact HT.out.2.1, by rw [HST.out.Q]; exact HT.out.2.2⟩)
                              have HVN := hid (HVZ.out.alloc HB4.out)
                              have HON := hid (ownsRow_mono (own_below HL3.out HB4.out) HWZ.out)
                              go_wp2
                              exact ⟨⟨i + 1, F', t', _, _, K2, by omega, by go_num, rfl, by omega, HVN, HIN, HON, HKF', HI2⟩, by simp [intOf]; omega⟩
                    · rw [show decide ((⟨f.dir, f.name⟩ : Ky) ∈ t'.ks) = false from decide_eq_false hm]
                      have HKXL := hid (show LF.length ≤ 2 * i + 2 by omega)
                      clear hm BXH
                      have hKX : LF.length ≤ 2 * i + 2 := HKXL.out
                      have HKF' := hid (show ∀ k, (Value.slice la LF.length lc).ownBlock = some k → ¬ F' k from fun k hk hf => by have h1 := (own_lt HLH.out hk).1; have h2 := HV5.out.v.lt k hf; omega)
                      have HVZ := hid HVH.out
                      have HWZ := hid (show w.heap.size ≤ w5.heap.size from HV5.out.sz)
                      go_wp2_with fail
                      go_loopw [17] (fun v17 wr => ∃ k4 : Nat, k4 ≤ LF.length ∧ v17 = .int .i64 k4 ∧ Hid (Below wh.heap.size wh wr)) (fun v17 _ => LF.length - (intOf v17).toNat)
                      case atStart => exact ⟨0, by omega, rfl, hid (Below.refl _ _)⟩
                      case round =>
                        as_aux_lemma =>
                          obtain ⟨k4, hk4, rfl, HB4⟩ := hrel
                          by_cases hlt4 : k4 < LF.length
                          · obtain ⟨g4, o4, rfl⟩ := ks_loc (Rd.own HLH.out) (by omega)
                            obtain ⟨y4, hy4⟩ : ∃ y4, LF[k4]? = some y4 := ⟨_, List.getElem?_eq_getElem hlt4⟩
                            have HYN := hid (HLI.out y4 (List.mem_of_getElem? hy4))
                            have c1 := ks_at (Rd.own HLH.out) HB4.out hy4
                            have HY4 := hid hy4
                            have hk40 : (0 : Int) ≤ (k4 : Int) := by omega
                            have hk41 : (k4 : Int) < (LF.length : Int) := by omega
                            have HV4 := hid (HVZ.out.alloc HB4.out)
                            clear hy4
                            go_wp2_with fail
                            refine (v_holds _ _ _ _ y4.dir y4.name HV4.out.v).mono ?_; rintro e wh4 ⟨rfl, hbh4⟩
                            have HB5' := hid (HB4.out.trans (hbh4.mono HB4.out.size))
                            have HV4' := hid (HV4.out.alloc hbh4)
                            clear hbh4
                            by_cases hm : y4 ∈ t'.ks
                            · rw [show decide ((⟨y4.dir, y4.name⟩ : Ky) ∈ t'.ks) = true from decide_eq_true hm]
                              clear hm c1
                              go_wp2
                              exact ⟨⟨k4 + 1, by omega, by go_num, HB5'⟩, by simp [intOf]; omega⟩
                            · have HDM := hid (HYN.out.resolve_left hm)
                              rw [show decide ((⟨y4.dir, y4.name⟩ : Ky) ∈ t'.ks) = false from decide_eq_false hm]
                              have c2 := ks_at (Rd.own HLH.out) HB5'.out HY4.out
                              clear hm c1
                              go_wp2_with fail
                              refine (v_holds _ _ _ _ y4.dir _ HV4'.out.v).mono ?_; rintro e wh5 ⟨rfl, hbh5⟩
                              rw [show decide ((⟨y4.dir, { data := #[] }⟩ : Ky) ∈ t'.ks) = true from decide_eq_true HDM.out]
                              have HB6' := hid (HB5'.out.trans (hbh5.mono HB5'.out.size))
                              clear hbh5
                              go_wp2
                              exact ⟨⟨k4 + 1, by omega, by go_num, HB6'⟩, by simp [intOf]; omega⟩
                          · have HIN := hid (show t'.n ≤ ((i + 1 : Nat) : Int) ∧ t'.P = pr ∧ t'.Q = qu from ⟨by have := HT.out.1; have h2 := HN'.out; omega, by rw [HST.out.P]; exact HT.out.2.1, by rw [HST.out.Q]; exact HT.out.2.2⟩)
                            have HVN := hid (HVZ.out.alloc HB4.out)
                            have HON := hid (ownsRow_mono (own_below HLH.out HB4.out) HWZ.out)
                            go_wp2
                            exact ⟨⟨i + 1, F', t', _, _, LF, by omega, by go_num, rfl, by omega, HVN, HIN, HON, HKF', HLI⟩, by simp [intOf]; omega⟩
          · have hR5 : R5.map Bk.pl = [⟨t.e, t.n + 1, x.ver, al, bks⟩] := hL
            obtain ⟨g, kb, kd, rfl, rfl, hgz, p0, p1, p2, p3, q4⟩ := one_brk HB5.out hR5
            have HPS := hid (And.intro p0 (And.intro p1 (And.intro p2 p3)))
            have HQ4 := hid (Rd.own q4)
            have HN' := hid hn'
            have HKK := hid hkk
            have HKI' := hid (knI_some HKI.out hkk)
            clear hL hR5 hn' hkk hqs hal hgz p0 p1 p2 p3 q4
            go_loopw [13, 14] (fun v13 v14 wr => ∃ (k : Nat) (la : Option Addr) (lc : Nat) (LF : List Ky), k ≤ K.length ∧ v14 = .int .i64 k ∧ v13 = .slice la LF.length lc ∧ LF.length ≤ k ∧ Hid (LF = (K.take k).filter fun y => !goneB al bks y) ∧
              Hid (wr.ownsRow w5.heap.size 37 2 (.slice la LF.length lc) LF.length (kyc LF)) ∧ Hid (Below w5.heap.size w5 wr)) (fun _ v14 _ => K.length - (intOf v14).toNat)
            case atStart => exact ⟨0, none, 0, [], by omega, rfl, rfl, by simp, hid (by simp), hid (World.ownsRow_nil _ _ _ _), hid (Below.refl _ _)⟩
            case round =>
              as_aux_lemma =>
                obtain ⟨k, la, lc, LF, hk, rfl, rfl, hLk, HLD, HLO, HBK⟩ := hrel
                obtain ⟨wk, hwk⟩ : ∃ wk, wk = wr := ⟨_, rfl⟩
                subst hwk
                by_cases hlt2 : k < K.length
                · obtain ⟨g0, o0, rfl⟩ := ks_loc (Rd.own HKN5.out) (by omega)
                  obtain ⟨y, hy⟩ : ∃ y, K[k]? = some y := ⟨_, List.getElem?_eq_getElem hlt2⟩
                  have HYI := hid hy
                  have hk0 : (0 : Int) ≤ (k : Int) := by omega
                  have hk1 : (k : Int) < (K.length : Int) := by omega
                  clear hy
                  go_wp2_with fail
                  go_loopw [15, 16] (fun v15 v16 wi => ∃ (j : Nat) (gg : Bool), v16 = .int .i64 j ∧ v15 = .bool gg ∧ Hid ((j = 0 ∧ gg = false) ∨ (j = 1 ∧ gg = goneB al bks y)) ∧ Hid (Below wk.heap.size wk wi)) (fun _ v16 _ => 1 - (intOf v16).toNat)
                  case atStart => exact ⟨0, false, rfl, rfl, hid (.inl ⟨rfl, rfl⟩), hid (Below.refl _ _)⟩
                  case round =>
                    as_aux_lemma =>
                      obtain ⟨j, gg, rfl, rfl, HJ, HB3⟩ := hrel
                      rcases HJ.out with ⟨rfl, rfl⟩ | ⟨rfl, hgg⟩
                      · have HBD := hid ((HBK.out.trans (HB3.out.mono HBK.out.size)).drew)
                        have HZD := hid (HB3.out.drew)
                        cases hA : al with
                        | true =>
                          subst hA
                          go_wp2_with fail
                          have hS0 := ks4 (ks_at (Rd.own HKN5.out) HBD.out HYI.out) (below_cell HBD.out (Nat.le_refl _) HPS.out.1) (below_cell HBD.out (Nat.le_refl _) HPS.out.2.2.1) (below_cell HBD.out (Nat.le_refl _) HPS.out.2.2.2)
                          refine held_start (fun w' => w'.cell? ⟨g0, o0 + k * 2, none⟩ = some (.int .i64 y.dir) ∧ w'.cell? ⟨g0, o0 + k * 2 + 1, none⟩ = some (.string y.name) ∧ w'.cell? ⟨g, 0, none⟩ = some (.complex .f64 (fl t.e) (fl (t.n + 1))) ∧ w'.cell? ⟨g, 2, none⟩ = some (.bool true) ∧ w'.cell? ⟨g, 3, none⟩ = some (.slice kb bks.length kd)) (by kernel_rfl) ?_ (fun hHeld => ?_)
                          · first | exact hS0
                          refine held_take 0 rfl (by kernel_rfl) (by kernel_rfl) (by kernel_rfl) (fun _ _ _ h => h) hHeld (by rfl) (v := ?_) ?_ ?_
                          rotate_left
                          · intro w hSw; (try dsimp only at hSw); (try go_simp); (try with_reducible rfl)
                          try simp only [Act.put, List.setIfInBounds_toArray, List.set_cons_zero, List.set_cons_succ]
                          refine held_take 1 rfl (by kernel_rfl) (by kernel_rfl) (by kernel_rfl) (fun _ _ _ h => h) hHeld (by rfl) (v := ?_) ?_ ?_
                          rotate_left
                          · intro w hSw; (try dsimp only at hSw); (try go_simp); (try with_reducible rfl)
                          try simp only [Act.put, List.setIfInBounds_toArray, List.set_cons_zero, List.set_cons_succ]
                          refine held_take 2 rfl (by kernel_rfl) (by kernel_rfl) (by kernel_rfl) (fun _ _ _ h => h) hHeld (by rfl) (v := ?_) ?_ ?_
                          rotate_left
                          · intro w hSw; (try dsimp only at hSw); (try go_simp); (try with_reducible rfl)
                          try simp only [Act.put, List.setIfInBounds_toArray, List.set_cons_zero, List.set_cons_succ]
                          refine held_take 3 rfl (by kernel_rfl) (by kernel_rfl) (by kernel_rfl) (fun _ _ _ h => h) hHeld (by rfl) (v := ?_) ?_ ?_
                          rotate_left
                          · intro w hSw; (try dsimp only at hSw); (try go_simp); (try with_reducible rfl)
                          try simp only [Act.put, List.setIfInBounds_toArray, List.set_cons_zero, List.set_cons_succ]
                          refine held_take 4 rfl (by kernel_rfl) (by kernel_rfl) (by kernel_rfl) (fun _ _ _ h => h) hHeld (by rfl) (v := ?_) ?_ ?_
                          rotate_left
                          · intro w hSw; (try dsimp only at hSw); (try go_simp); (try with_reducible rfl)
                          try simp only [Act.put, List.setIfInBounds_toArray, List.set_cons_zero, List.set_cons_succ]
                          refine held_take 5 rfl (by kernel_rfl) (by kernel_rfl) (by kernel_rfl) (fun _ _ _ h => h) hHeld (by rfl) (v := ?_) ?_ ?_
                          rotate_left
                          · intro w hSw; (try dsimp only at hSw); (try go_simp); (try with_reducible rfl)
                          try simp only [Act.put, List.setIfInBounds_toArray, List.set_cons_zero, List.set_cons_succ]
                          refine held_take 6 rfl (by kernel_rfl) (by kernel_rfl) (by kernel_rfl) (fun _ _ _ h => h) hHeld (by rfl) (v := ?_) ?_ ?_
                          rotate_left
                          · intro w hSw; (try dsimp only at hSw); (try go_simp); (try with_reducible rfl)
                          try simp only [Act.put, List.setIfInBounds_toArray, List.set_cons_zero, List.set_cons_succ]
                          refine held_take 7 rfl (by kernel_rfl) (by kernel_rfl) (by kernel_rfl) (fun _ _ _ h => h) hHeld (by rfl) (v := ?_) ?_ ?_
                          rotate_left
                          · intro w hSw; (try dsimp only at hSw); (try go_simp); (try with_reducible rfl)
                          try simp only [Act.put, List.setIfInBounds_toArray, List.set_cons_zero, List.set_cons_succ]
                          refine held_take 8 rfl (by kernel_rfl) (by kernel_rfl) (by kernel_rfl) (fun _ _ _ h => h) hHeld (by rfl) (v := ?_) ?_ ?_
                          rotate_left
                          · intro w hSw; (try dsimp only at hSw); (try go_simp); (try with_reducible rfl)
                          try simp only [Act.put, List.setIfInBounds_toArray, List.set_cons_zero, List.set_cons_succ]
                          refine held_skip 9 rfl (by kernel_rfl) (by kernel_rfl) (by kernel_rfl) (fun _ _ _ h => h) hHeld (by rfl) ?_
                          try simp only [Act.put, List.setIfInBounds_toArray, List.set_cons_zero, List.set_cons_succ]
                          refine held_skip 10 rfl (by kernel_rfl) (by kernel_rfl) (by kernel_rfl) (fun _ _ _ h => h) hHeld (by rfl) ?_
                          try simp only [Act.put, List.setIfInBounds_toArray, List.set_cons_zero, List.set_cons_succ]
                          refine held_skip 11 rfl (by kernel_rfl) (by kernel_rfl) (by kernel_rfl) (fun _ _ _ h => h) hHeld (by rfl) ?_
                          try simp only [Act.put, List.setIfInBounds_toArray, List.set_cons_zero, List.set_cons_succ]
                          refine held_skip 12 rfl (by kernel_rfl) (by kernel_rfl) (by kernel_rfl) (fun _ _ _ h => h) hHeld (by rfl) ?_
                          try simp only [Act.put, List.setIfInBounds_toArray, List.set_cons_zero, List.set_cons_succ]
                          refine held_skip 13 rfl (by kernel_rfl) (by kernel_rfl) (by kernel_rfl) (fun _ _ _ h => h) hHeld (by rfl) ?_
                          try simp only [Act.put, List.setIfInBounds_toArray, List.set_cons_zero, List.set_cons_succ]
                          refine held_skip 14 rfl (by kernel_rfl) (by kernel_rfl) (by kernel_rfl) (fun _ _ _ h => h) hHeld (by rfl) ?_
                          try simp only [Act.put, List.setIfInBounds_toArray, List.set_cons_zero, List.set_cons_succ]
                          refine held_skip 15 rfl (by kernel_rfl) (by kernel_rfl) (by kernel_rfl) (fun _ _ _ h => h) hHeld (by rfl) ?_
                          try simp only [Act.put, List.setIfInBounds_toArray, List.set_cons_zero, List.set_cons_succ]
                          refine held_skip 16 rfl (by kernel_rfl) (by kernel_rfl) (by kernel_rfl) (fun _ _ _ h => h) hHeld (by rfl) ?_
                          try simp only [Act.put, List.setIfInBounds_toArray, List.set_cons_zero, List.set_cons_succ]
                          refine held_skip 17 rfl (by kernel_rfl) (by kernel_rfl) (by kernel_rfl) (fun _ _ _ h => h) hHeld (by rfl) ?_
                          try simp only [Act.put, List.setIfInBounds_toArray, List.set_cons_zero, List.set_cons_succ]
                          refine held_skip 18 rfl (by kernel_rfl) (by kernel_rfl) (by kernel_rfl) (fun _ _ _ h => h) hHeld (by rfl) ?_
                          try simp only [Act.put, List.setIfInBounds_toArray, List.set_cons_zero, List.set_cons_succ]
                          refine held_take 19 rfl (by kernel_rfl) (by kernel_rfl) (by kernel_rfl) (fun _ _ _ h => h) hHeld (by rfl) (v := ?_) ?_ ?_
                          rotate_left
                          · intro w hSw; (try dsimp only at hSw); (try go_simp); (try with_reducible rfl)
                          try simp only [Act.put, List.setIfInBounds_toArray, List.set_cons_zero, List.set_cons_succ]
                          refine held_take 20 rfl (by kernel_rfl) (by kernel_rfl) (by kernel_rfl) (fun _ _ _ h => h) hHeld (by rfl) (v := ?_) ?_ ?_
                          rotate_left
                          · intro w hSw; (try dsimp only at hSw); (try go_simp); (try with_reducible rfl)
                          try simp only [Act.put, List.setIfInBounds_toArray, List.set_cons_zero, List.set_cons_succ]
                          refine held_skip 21 rfl (by kernel_rfl) (by kernel_rfl) (by kernel_rfl) (fun _ _ _ h => h) hHeld (by rfl) ?_
                          try simp only [Act.put, List.setIfInBounds_toArray, List.set_cons_zero, List.set_cons_succ]
                          refine held_skip 22 rfl (by kernel_rfl) (by kernel_rfl) (by kernel_rfl) (fun _ _ _ h => h) hHeld (by rfl) ?_
                          try simp only [Act.put, List.setIfInBounds_toArray, List.set_cons_zero, List.set_cons_succ]
                          refine held_skip 23 rfl (by kernel_rfl) (by kernel_rfl) (by kernel_rfl) (fun _ _ _ h => h) hHeld (by rfl) ?_
                          try simp only [Act.put, List.setIfInBounds_toArray, List.set_cons_zero, List.set_cons_succ]
                          refine held_skip 24 rfl (by kernel_rfl) (by kernel_rfl) (by kernel_rfl) (fun _ _ _ h => h) hHeld (by rfl) ?_
                          try simp only [Act.put, List.setIfInBounds_toArray, List.set_cons_zero, List.set_cons_succ]
                          refine held_skip 25 rfl (by kernel_rfl) (by kernel_rfl) (by kernel_rfl) (fun _ _ _ h => h) hHeld (by rfl) ?_
                          try simp only [Act.put, List.setIfInBounds_toArray, List.set_cons_zero, List.set_cons_succ]
                          refine held_skip 26 rfl (by kernel_rfl) (by kernel_rfl) (by kernel_rfl) (fun _ _ _ h => h) hHeld (by rfl) ?_
                          try simp only [Act.put, List.setIfInBounds_toArray, List.set_cons_zero, List.set_cons_succ]
                          refine held_skip 27 rfl (by kernel_rfl) (by kernel_rfl) (by kernel_rfl) (fun _ _ _ h => h) hHeld (by rfl) ?_
                          try simp only [Act.put, List.setIfInBounds_toArray, List.set_cons_zero, List.set_cons_succ]
                          refine held_skip 28 rfl (by kernel_rfl) (by kernel_rfl) (by kernel_rfl) (fun _ _ _ h => h) hHeld (by rfl) ?_
                          try simp only [Act.put, List.setIfInBounds_toArray, List.set_cons_zero, List.set_cons_succ]
                          refine held_skip 29 rfl (by kernel_rfl) (by kernel_rfl) (by kernel_rfl) (fun _ _ _ h => h) hHeld (by rfl) ?_
                          try simp only [Act.put, List.setIfInBounds_toArray, List.set_cons_zero, List.set_cons_succ]
                          refine held_skip 30 rfl (by kernel_rfl) (by kernel_rfl) (by kernel_rfl) (fun _ _ _ h => h) hHeld (by rfl) ?_
                          try simp only [Act.put, List.setIfInBounds_toArray, List.set_cons_zero, List.set_cons_succ]
                          refine held_skip 31 rfl (by kernel_rfl) (by kernel_rfl) (by kernel_rfl) (fun _ _ _ h => h) hHeld (by rfl) ?_
                          try simp only [Act.put, List.setIfInBounds_toArray, List.set_cons_zero, List.set_cons_succ]
                          refine held_skip 32 rfl (by kernel_rfl) (by kernel_rfl) (by kernel_rfl) (fun _ _ _ h => h) hHeld (by rfl) ?_
                          try simp only [Act.put, List.setIfInBounds_toArray, List.set_cons_zero, List.set_cons_succ]
                          refine held_take 33 rfl (by kernel_rfl) (by kernel_rfl) (by kernel_rfl) (fun _ _ _ h => h) hHeld (by rfl) (v := ?_) ?_ ?_
                          rotate_left
                          · intro w hSw; (try dsimp only at hSw); (try go_simp); (try with_reducible rfl)
                          try simp only [Act.put, List.setIfInBounds_toArray, List.set_cons_zero, List.set_cons_succ]
                          refine held_take 34 rfl (by kernel_rfl) (by kernel_rfl) (by kernel_rfl) (fun _ _ _ h => h) hHeld (by rfl) (v := ?_) ?_ ?_
                          rotate_left
                          · intro w hSw; (try dsimp only at hSw); (try go_simp); (try with_reducible rfl)
                          try simp only [Act.put, List.setIfInBounds_toArray, List.set_cons_zero, List.set_cons_succ]
                          refine wpAnyH_done (by kernel_rfl) ?_ _
                          clear hHeld hS0
                          go_wp2
                          exact ⟨⟨1, true, by go_num, rfl, hid (.inr ⟨rfl, by simp [goneB]⟩), hid (HZD.out)⟩, by simp [intOf]⟩
                        | false =>
                          subst hA
                          by_cases hyb : y ∈ bks
                          · have HYB := hid hyb
                            clear hyb
                            go_wp2_with fail
                            have hS0 := ks4 (ks_at (Rd.own HKN5.out) HBD.out HYI.out) (below_cell HBD.out (Nat.le_refl _) HPS.out.1) (below_cell HBD.out (Nat.le_refl _) HPS.out.2.2.1) (below_cell HBD.out (Nat.le_refl _) HPS.out.2.2.2)
                            refine held_start (fun w' => w'.cell? ⟨g0, o0 + k * 2, none⟩ = some (.int .i64 y.dir) ∧ w'.cell? ⟨g0, o0 + k * 2 + 1, none⟩ = some (.string y.name) ∧ w'.cell? ⟨g, 0, none⟩ = some (.complex .f64 (fl t.e) (fl (t.n + 1))) ∧ w'.cell? ⟨g, 2, none⟩ = some (.bool false) ∧ w'.cell? ⟨g, 3, none⟩ = some (.slice kb bks.length kd)) (by kernel_rfl) ?_ (fun hHeld => ?_)
                            · first | exact hS0 | exact hSA
                            refine held_take 0 rfl (by kernel_rfl) (by kernel_rfl) (by kernel_rfl) (fun _ _ _ h => h) hHeld (by rfl) (v := ?_) ?_ ?_
                            rotate_left
                            · intro w hSw; (try dsimp only at hSw); (try go_simp); (try with_reducible rfl)
                            try simp only [Act.put, List.setIfInBounds_toArray, List.set_cons_zero, List.set_cons_succ]
                            refine held_take 1 rfl (by kernel_rfl) (by kernel_rfl) (by kernel_rfl) (fun _ _ _ h => h) hHeld (by rfl) (v := ?_) ?_ ?_
                            rotate_left
                            · intro w hSw; (try dsimp only at hSw); (try go_simp); (try with_reducible rfl)
                            try simp only [Act.put, List.setIfInBounds_toArray, List.set_cons_zero, List.set_cons_succ]
                            refine held_take 2 rfl (by kernel_rfl) (by kernel_rfl) (by kernel_rfl) (fun _ _ _ h => h) hHeld (by rfl) (v := ?_) ?_ ?_
                            rotate_left
                            · intro w hSw; (try dsimp only at hSw); (try go_simp); (try with_reducible rfl)
                            try simp only [Act.put, List.setIfInBounds_toArray, List.set_cons_zero, List.set_cons_succ]
                            refine held_take 3 rfl (by kernel_rfl) (by kernel_rfl) (by kernel_rfl) (fun _ _ _ h => h) hHeld (by rfl) (v := ?_) ?_ ?_
                            rotate_left
                            · intro w hSw; (try dsimp only at hSw); (try go_simp); (try with_reducible rfl)
                            try simp only [Act.put, List.setIfInBounds_toArray, List.set_cons_zero, List.set_cons_succ]
                            refine held_take 4 rfl (by kernel_rfl) (by kernel_rfl) (by kernel_rfl) (fun _ _ _ h => h) hHeld (by rfl) (v := ?_) ?_ ?_
                            rotate_left
                            · intro w hSw; (try dsimp only at hSw); (try go_simp); (try with_reducible rfl)
                            try simp only [Act.put, List.setIfInBounds_toArray, List.set_cons_zero, List.set_cons_succ]
                            refine held_take 5 rfl (by kernel_rfl) (by kernel_rfl) (by kernel_rfl) (fun _ _ _ h => h) hHeld (by rfl) (v := ?_) ?_ ?_
                            rotate_left
                            · intro w hSw; (try dsimp only at hSw); (try go_simp); (try with_reducible rfl)
                            try simp only [Act.put, List.setIfInBounds_toArray, List.set_cons_zero, List.set_cons_succ]
                            refine held_take 6 rfl (by kernel_rfl) (by kernel_rfl) (by kernel_rfl) (fun _ _ _ h => h) hHeld (by rfl) (v := ?_) ?_ ?_
                            rotate_left
                            · intro w hSw; (try dsimp only at hSw); (try go_simp); (try with_reducible rfl)
                            try simp only [Act.put, List.setIfInBounds_toArray, List.set_cons_zero, List.set_cons_succ]
                            refine held_take 7 rfl (by kernel_rfl) (by kernel_rfl) (by kernel_rfl) (fun _ _ _ h => h) hHeld (by rfl) (v := ?_) ?_ ?_
                            rotate_left
                            · intro w hSw; (try dsimp only at hSw); (try go_simp); (try with_reducible rfl)
                            try simp only [Act.put, List.setIfInBounds_toArray, List.set_cons_zero, List.set_cons_succ]
                            refine held_take 8 rfl (by kernel_rfl) (by kernel_rfl) (by kernel_rfl) (fun _ _ _ h => h) hHeld (by rfl) (v := ?_) ?_ ?_
                            rotate_left
                            · intro w hSw; (try dsimp only at hSw); (try go_simp); (try with_reducible rfl)
                            try simp only [Act.put, List.setIfInBounds_toArray, List.set_cons_zero, List.set_cons_succ]
                            refine held_take 9 rfl (by kernel_rfl) (by kernel_rfl) (by kernel_rfl) (fun _ _ _ h => h) hHeld (by rfl) (v := ?_) ?_ ?_
                            rotate_left
                            · intro w hSw; (try dsimp only at hSw); (try go_simp); (try with_reducible rfl)
                            try simp only [Act.put, List.setIfInBounds_toArray, List.set_cons_zero, List.set_cons_succ]
                            refine held_take 10 rfl (by kernel_rfl) (by kernel_rfl) (by kernel_rfl) (fun _ _ _ h => h) hHeld (by rfl) (v := ?_) ?_ ?_
                            rotate_left
                            · intro w hSw; (try dsimp only at hSw); (try go_simp); (try with_reducible rfl)
                            try simp only [Act.put, List.setIfInBounds_toArray, List.set_cons_zero, List.set_cons_succ]
                            refine held_take 11 rfl (by kernel_rfl) (by kernel_rfl) (by kernel_rfl) (fun _ _ _ h => h) hHeld (by rfl) (v := ?_) ?_ ?_
                            rotate_left
                            · intro w hSw; (try dsimp only at hSw); (try go_simp); (try with_reducible rfl)
                            try simp only [Act.put, List.setIfInBounds_toArray, List.set_cons_zero, List.set_cons_succ]
                            refine held_take 12 rfl (by kernel_rfl) (by kernel_rfl) (by kernel_rfl) (fun _ _ _ h => h) hHeld (by rfl) (v := ?_) ?_ ?_
                            rotate_left
                            · intro w hSw; (try dsimp only at hSw); (try go_simp); (try with_reducible rfl)
                            try simp only [Act.put, List.setIfInBounds_toArray, List.set_cons_zero, List.set_cons_succ]
                            refine held_take 13 rfl (by kernel_rfl) (by kernel_rfl) (by kernel_rfl) (fun _ _ _ h => h) hHeld (by rfl) (v := ?_) ?_ ?_
                            rotate_left
                            · intro w hSw; (try dsimp only at hSw); (try go_simp); (try with_reducible rfl)
                            try simp only [Act.put, List.setIfInBounds_toArray, List.set_cons_zero, List.set_cons_succ]
                            refine held_take 14 rfl (by kernel_rfl) (by kernel_rfl) (by kernel_rfl) (fun _ _ _ h => h) hHeld (by rfl) (v := ?_) ?_ ?_
                            rotate_left
                            · intro w hSw; (try dsimp only at hSw); (try go_simp); (try with_reducible rfl)
                            try simp only [Act.put, List.setIfInBounds_toArray, List.set_cons_zero, List.set_cons_succ]
                            refine held_take 15 rfl (by kernel_rfl) (by kernel_rfl) (by kernel_rfl) (fun _ _ _ h => h) hHeld (by rfl) (v := ?_) ?_ ?_
                            rotate_left
                            · intro w hSw; (try dsimp only at hSw); (try go_simp); (try with_reducible rfl)
                            try simp only [Act.put, List.setIfInBounds_toArray, List.set_cons_zero, List.set_cons_succ]
                            refine held_take 16 rfl (by kernel_rfl) (by kernel_rfl) (by kernel_rfl) (fun _ _ _ h => h) hHeld (by rfl) (v := ?_) ?_ ?_
                            rotate_left
                            · intro w hSw; (try dsimp only at hSw); (try go_simp); (try with_reducible rfl)
                            try simp only [Act.put, List.setIfInBounds_toArray, List.set_cons_zero, List.set_cons_succ]
                            refine held_take 17 rfl (by kernel_rfl) (by kernel_rfl) (by kernel_rfl) (fun _ _ _ h => h) hHeld (by rfl) (v := ?_) ?_ ?_
                            rotate_left
                            · intro w hSw; (try dsimp only at hSw); (try go_simp); (try with_reducible rfl)
                            try simp only [Act.put, List.setIfInBounds_toArray, List.set_cons_zero, List.set_cons_succ]
                            refine held_step 18 rfl (by kernel_rfl) (by rfl) (fun Kx hK => ?_)
                            go_simp
                            go_at_call 18; refine (in_key (.slice kb bks.length kd) bks y.dir y.name _ (HQ4.out.below HBD.out)).mono ?_; rintro e wi ⟨rfl, hbi⟩; rw [show decide ((⟨y.dir, y.name⟩ : Ky) ∈ bks) = true from decide_eq_true HYB.out]; have hSA := keep5 hS0 hbi
                            refine hK.out _ _ ?_ (fun hHeld2 => ?_)
                            · (try dsimp only); first | exact hS0 | exact hSA
                            clear hK Kx hHeld
                            have hHeld := hHeld2
                            clear hHeld2
                            try simp only [Act.put, List.setIfInBounds_toArray, List.set_cons_zero, List.set_cons_succ]
                            refine held_take 19 rfl (by kernel_rfl) (by kernel_rfl) (by kernel_rfl) (fun _ _ _ h => h) hHeld (by rfl) (v := ?_) ?_ ?_
                            rotate_left
                            · intro w hSw; (try dsimp only at hSw); (try go_simp); (try with_reducible rfl)
                            try simp only [Act.put, List.setIfInBounds_toArray, List.set_cons_zero, List.set_cons_succ]
                            refine held_take 20 rfl (by kernel_rfl) (by kernel_rfl) (by kernel_rfl) (fun _ _ _ h => h) hHeld (by rfl) (v := ?_) ?_ ?_
                            rotate_left
                            · intro w hSw; (try dsimp only at hSw); (try go_simp); (try with_reducible rfl)
                            try simp only [Act.put, List.setIfInBounds_toArray, List.set_cons_zero, List.set_cons_succ]
                            refine held_skip 21 rfl (by kernel_rfl) (by kernel_rfl) (by kernel_rfl) (fun _ _ _ h => h) hHeld (by rfl) ?_
                            try simp only [Act.put, List.setIfInBounds_toArray, List.set_cons_zero, List.set_cons_succ]
                            refine held_skip 22 rfl (by kernel_rfl) (by kernel_rfl) (by kernel_rfl) (fun _ _ _ h => h) hHeld (by rfl) ?_
                            try simp only [Act.put, List.setIfInBounds_toArray, List.set_cons_zero, List.set_cons_succ]
                            refine held_skip 23 rfl (by kernel_rfl) (by kernel_rfl) (by kernel_rfl) (fun _ _ _ h => h) hHeld (by rfl) ?_
                            try simp only [Act.put, List.setIfInBounds_toArray, List.set_cons_zero, List.set_cons_succ]
                            refine held_skip 24 rfl (by kernel_rfl) (by kernel_rfl) (by kernel_rfl) (fun _ _ _ h => h) hHeld (by rfl) ?_
                            try simp only [Act.put, List.setIfInBounds_toArray, List.set_cons_zero, List.set_cons_succ]
                            refine held_skip 25 rfl (by kernel_rfl) (by kernel_rfl) (by kernel_rfl) (fun _ _ _ h => h) hHeld (by rfl) ?_
                            try simp only [Act.put, List.setIfInBounds_toArray, List.set_cons_zero, List.set_cons_succ]
                            refine held_skip 26 rfl (by kernel_rfl) (by kernel_rfl) (by kernel_rfl) (fun _ _ _ h => h) hHeld (by rfl) ?_
                            try simp only [Act.put, List.setIfInBounds_toArray, List.set_cons_zero, List.set_cons_succ]
                            refine held_skip 27 rfl (by kernel_rfl) (by kernel_rfl) (by kernel_rfl) (fun _ _ _ h => h) hHeld (by rfl) ?_
                            try simp only [Act.put, List.setIfInBounds_toArray, List.set_cons_zero, List.set_cons_succ]
                            refine held_skip 28 rfl (by kernel_rfl) (by kernel_rfl) (by kernel_rfl) (fun _ _ _ h => h) hHeld (by rfl) ?_
                            try simp only [Act.put, List.setIfInBounds_toArray, List.set_cons_zero, List.set_cons_succ]
                            refine held_skip 29 rfl (by kernel_rfl) (by kernel_rfl) (by kernel_rfl) (fun _ _ _ h => h) hHeld (by rfl) ?_
                            try simp only [Act.put, List.setIfInBounds_toArray, List.set_cons_zero, List.set_cons_succ]
                            refine held_skip 30 rfl (by kernel_rfl) (by kernel_rfl) (by kernel_rfl) (fun _ _ _ h => h) hHeld (by rfl) ?_
                            try simp only [Act.put, List.setIfInBounds_toArray, List.set_cons_zero, List.set_cons_succ]
                            refine held_skip 31 rfl (by kernel_rfl) (by kernel_rfl) (by kernel_rfl) (fun _ _ _ h => h) hHeld (by rfl) ?_
                            try simp only [Act.put, List.setIfInBounds_toArray, List.set_cons_zero, List.set_cons_succ]
                            refine held_skip 32 rfl (by kernel_rfl) (by kernel_rfl) (by kernel_rfl) (fun _ _ _ h => h) hHeld (by rfl) ?_
                            try simp only [Act.put, List.setIfInBounds_toArray, List.set_cons_zero, List.set_cons_succ]
                            refine held_take 33 rfl (by kernel_rfl) (by kernel_rfl) (by kernel_rfl) (fun _ _ _ h => h) hHeld (by rfl) (v := ?_) ?_ ?_
                            rotate_left
                            · intro w hSw; (try dsimp only at hSw); (try go_simp); (try with_reducible rfl)
                            try simp only [Act.put, List.setIfInBounds_toArray, List.set_cons_zero, List.set_cons_succ]
                            refine held_take 34 rfl (by kernel_rfl) (by kernel_rfl) (by kernel_rfl) (fun _ _ _ h => h) hHeld (by rfl) (v := ?_) ?_ ?_
                            rotate_left
                            · intro w hSw; (try dsimp only at hSw); (try go_simp); (try with_reducible rfl)
                            try simp only [Act.put, List.setIfInBounds_toArray, List.set_cons_zero, List.set_cons_succ]
                            refine wpAnyH_done (by kernel_rfl) ?_ _
                            clear hHeld hS0 hSA
                            go_wp2
                            exact ⟨⟨1, true, by go_num, rfl, hid (.inr ⟨rfl, by simp [goneB, HYB.out]⟩), hid (HZD.out.trans (hbi.mono HZD.out.size))⟩, by simp [intOf]⟩
                          · have HYB := hid hyb
                            obtain ⟨d2, hd2⟩ : ∃ d2, decide ((⟨y.dir, ByteArray.empty⟩ : Ky) ∈ bks) = d2 := ⟨_, rfl⟩
                            have HD2 := hid hd2
                            clear hyb hd2
                            go_wp2_with fail
                            have hS0 := ks4 (ks_at (Rd.own HKN5.out) HBD.out HYI.out) (below_cell HBD.out (Nat.le_refl _) HPS.out.1) (below_cell HBD.out (Nat.le_refl _) HPS.out.2.2.1) (below_cell HBD.out (Nat.le_refl _) HPS.out.2.2.2)
                            refine held_start (fun w' => w'.cell? ⟨g0, o0 + k * 2, none⟩ = some (.int .i64 y.dir) ∧ w'.cell? ⟨g0, o0 + k * 2 + 1, none⟩ = some (.string y.name) ∧ w'.cell? ⟨g, 0, none⟩ = some (.complex .f64 (fl t.e) (fl (t.n + 1))) ∧ w'.cell? ⟨g, 2, none⟩ = some (.bool false) ∧ w'.cell? ⟨g, 3, none⟩ = some (.slice kb bks.length kd)) (by kernel_rfl) ?_ (fun hHeld => ?_)
                            · first | exact hS0 | exact hSA | exact hSB
                            refine held_take 0 rfl (by kernel_rfl) (by kernel_rfl) (by kernel_rfl) (fun _ _ _ h => h) hHeld (by rfl) (v := ?_) ?_ ?_
                            rotate_left
                            · intro w hSw; (try dsimp only at hSw); (try go_simp); (try with_reducible rfl)
                            try simp only [Act.put, List.setIfInBounds_toArray, List.set_cons_zero, List.set_cons_succ]
                            refine held_take 1 rfl (by kernel_rfl) (by kernel_rfl) (by kernel_rfl) (fun _ _ _ h => h) hHeld (by rfl) (v := ?_) ?_ ?_
                            rotate_left
                            · intro w hSw; (try dsimp only at hSw); (try go_simp); (try with_reducible rfl)
                            try simp only [Act.put, List.setIfInBounds_toArray, List.set_cons_zero, List.set_cons_succ]
                            refine held_take 2 rfl (by kernel_rfl) (by kernel_rfl) (by kernel_rfl) (fun _ _ _ h => h) hHeld (by rfl) (v := ?_) ?_ ?_
                            rotate_left
                            · intro w hSw; (try dsimp only at hSw); (try go_simp); (try with_reducible rfl)
                            try simp only [Act.put, List.setIfInBounds_toArray, List.set_cons_zero, List.set_cons_succ]
                            refine held_take 3 rfl (by kernel_rfl) (by kernel_rfl) (by kernel_rfl) (fun _ _ _ h => h) hHeld (by rfl) (v := ?_) ?_ ?_
                            rotate_left
                            · intro w hSw; (try dsimp only at hSw); (try go_simp); (try with_reducible rfl)
                            try simp only [Act.put, List.setIfInBounds_toArray, List.set_cons_zero, List.set_cons_succ]
                            refine held_take 4 rfl (by kernel_rfl) (by kernel_rfl) (by kernel_rfl) (fun _ _ _ h => h) hHeld (by rfl) (v := ?_) ?_ ?_
                            rotate_left
                            · intro w hSw; (try dsimp only at hSw); (try go_simp); (try with_reducible rfl)
                            try simp only [Act.put, List.setIfInBounds_toArray, List.set_cons_zero, List.set_cons_succ]
                            refine held_take 5 rfl (by kernel_rfl) (by kernel_rfl) (by kernel_rfl) (fun _ _ _ h => h) hHeld (by rfl) (v := ?_) ?_ ?_
                            rotate_left
                            · intro w hSw; (try dsimp only at hSw); (try go_simp); (try with_reducible rfl)
                            try simp only [Act.put, List.setIfInBounds_toArray, List.set_cons_zero, List.set_cons_succ]
                            refine held_take 6 rfl (by kernel_rfl) (by kernel_rfl) (by kernel_rfl) (fun _ _ _ h => h) hHeld (by rfl) (v := ?_) ?_ ?_
                            rotate_left
                            · intro w hSw; (try dsimp only at hSw); (try go_simp); (try with_reducible rfl)
                            try simp only [Act.put, List.setIfInBounds_toArray, List.set_cons_zero, List.set_cons_succ]
                            refine held_take 7 rfl (by kernel_rfl) (by kernel_rfl) (by kernel_rfl) (fun _ _ _ h => h) hHeld (by rfl) (v := ?_) ?_ ?_
                            rotate_left
                            · intro w hSw; (try dsimp only at hSw); (try go_simp); (try with_reducible rfl)
                            try simp only [Act.put, List.setIfInBounds_toArray, List.set_cons_zero, List.set_cons_succ]
                            refine held_take 8 rfl (by kernel_rfl) (by kernel_rfl) (by kernel_rfl) (fun _ _ _ h => h) hHeld (by rfl) (v := ?_) ?_ ?_
                            rotate_left
                            · intro w hSw; (try dsimp only at hSw); (try go_simp); (try with_reducible rfl)
                            try simp only [Act.put, List.setIfInBounds_toArray, List.set_cons_zero, List.set_cons_succ]
                            refine held_take 9 rfl (by kernel_rfl) (by kernel_rfl) (by kernel_rfl) (fun _ _ _ h => h) hHeld (by rfl) (v := ?_) ?_ ?_
                            rotate_left
                            · intro w hSw; (try dsimp only at hSw); (try go_simp); (try with_reducible rfl)
                            try simp only [Act.put, List.setIfInBounds_toArray, List.set_cons_zero, List.set_cons_succ]
                            refine held_take 10 rfl (by kernel_rfl) (by kernel_rfl) (by kernel_rfl) (fun _ _ _ h => h) hHeld (by rfl) (v := ?_) ?_ ?_
                            rotate_left
                            · intro w hSw; (try dsimp only at hSw); (try go_simp); (try with_reducible rfl)
                            try simp only [Act.put, List.setIfInBounds_toArray, List.set_cons_zero, List.set_cons_succ]
                            refine held_take 11 rfl (by kernel_rfl) (by kernel_rfl) (by kernel_rfl) (fun _ _ _ h => h) hHeld (by rfl) (v := ?_) ?_ ?_
                            rotate_left
                            · intro w hSw; (try dsimp only at hSw); (try go_simp); (try with_reducible rfl)
                            try simp only [Act.put, List.setIfInBounds_toArray, List.set_cons_zero, List.set_cons_succ]
                            refine held_take 12 rfl (by kernel_rfl) (by kernel_rfl) (by kernel_rfl) (fun _ _ _ h => h) hHeld (by rfl) (v := ?_) ?_ ?_
                            rotate_left
                            · intro w hSw; (try dsimp only at hSw); (try go_simp); (try with_reducible rfl)
                            try simp only [Act.put, List.setIfInBounds_toArray, List.set_cons_zero, List.set_cons_succ]
                            refine held_take 13 rfl (by kernel_rfl) (by kernel_rfl) (by kernel_rfl) (fun _ _ _ h => h) hHeld (by rfl) (v := ?_) ?_ ?_
                            rotate_left
                            · intro w hSw; (try dsimp only at hSw); (try go_simp); (try with_reducible rfl)
                            try simp only [Act.put, List.setIfInBounds_toArray, List.set_cons_zero, List.set_cons_succ]
                            refine held_take 14 rfl (by kernel_rfl) (by kernel_rfl) (by kernel_rfl) (fun _ _ _ h => h) hHeld (by rfl) (v := ?_) ?_ ?_
                            rotate_left
                            · intro w hSw; (try dsimp only at hSw); (try go_simp); (try with_reducible rfl)
                            try simp only [Act.put, List.setIfInBounds_toArray, List.set_cons_zero, List.set_cons_succ]
                            refine held_take 15 rfl (by kernel_rfl) (by kernel_rfl) (by kernel_rfl) (fun _ _ _ h => h) hHeld (by rfl) (v := ?_) ?_ ?_
                            rotate_left
                            · intro w hSw; (try dsimp only at hSw); (try go_simp); (try with_reducible rfl)
                            try simp only [Act.put, List.setIfInBounds_toArray, List.set_cons_zero, List.set_cons_succ]
                            refine held_take 16 rfl (by kernel_rfl) (by kernel_rfl) (by kernel_rfl) (fun _ _ _ h => h) hHeld (by rfl) (v := ?_) ?_ ?_
                            rotate_left
                            · intro w hSw; (try dsimp only at hSw); (try go_simp); (try with_reducible rfl)
                            try simp only [Act.put, List.setIfInBounds_toArray, List.set_cons_zero, List.set_cons_succ]
                            refine held_take 17 rfl (by kernel_rfl) (by kernel_rfl) (by kernel_rfl) (fun _ _ _ h => h) hHeld (by rfl) (v := ?_) ?_ ?_
                            rotate_left
                            · intro w hSw; (try dsimp only at hSw); (try go_simp); (try with_reducible rfl)
                            try simp only [Act.put, List.setIfInBounds_toArray, List.set_cons_zero, List.set_cons_succ]
                            refine held_step 18 rfl (by kernel_rfl) (by rfl) (fun Kx hK => ?_)
                            go_simp
                            go_at_call 18; refine (in_key (.slice kb bks.length kd) bks y.dir y.name _ (HQ4.out.below HBD.out)).mono ?_; rintro e wi ⟨rfl, hbi⟩; rw [show decide ((⟨y.dir, y.name⟩ : Ky) ∈ bks) = false from decide_eq_false HYB.out]; have hSA := keep5 hS0 hbi
                            refine hK.out _ _ ?_ (fun hHeld2 => ?_)
                            · (try dsimp only); first | exact hS0 | exact hSA | exact hSB
                            clear hK Kx hHeld
                            have hHeld := hHeld2
                            clear hHeld2
                            try simp only [Act.put, List.setIfInBounds_toArray, List.set_cons_zero, List.set_cons_succ]
                            refine held_take 19 rfl (by kernel_rfl) (by kernel_rfl) (by kernel_rfl) (fun _ _ _ h => h) hHeld (by rfl) (v := ?_) ?_ ?_
                            rotate_left
                            · intro w hSw; (try dsimp only at hSw); (try go_simp); (try with_reducible rfl)
                            try simp only [Act.put, List.setIfInBounds_toArray, List.set_cons_zero, List.set_cons_succ]
                            refine held_take 20 rfl (by kernel_rfl) (by kernel_rfl) (by kernel_rfl) (fun _ _ _ h => h) hHeld (by rfl) (v := ?_) ?_ ?_
                            rotate_left
                            · intro w hSw; (try dsimp only at hSw); (try go_simp); (try with_reducible rfl)
                            try simp only [Act.put, List.setIfInBounds_toArray, List.set_cons_zero, List.set_cons_succ]
                            refine held_take 21 rfl (by kernel_rfl) (by kernel_rfl) (by kernel_rfl) (fun _ _ _ h => h) hHeld (by rfl) (v := ?_) ?_ ?_
                            rotate_left
                            · intro w hSw; (try dsimp only at hSw); (try go_simp); (try with_reducible rfl)
                            try simp only [Act.put, List.setIfInBounds_toArray, List.set_cons_zero, List.set_cons_succ]
                            refine held_take 22 rfl (by kernel_rfl) (by kernel_rfl) (by kernel_rfl) (fun _ _ _ h => h) hHeld (by rfl) (v := ?_) ?_ ?_
                            rotate_left
                            · intro w hSw; (try dsimp only at hSw); (try go_simp); (try with_reducible rfl)
                            try simp only [Act.put, List.setIfInBounds_toArray, List.set_cons_zero, List.set_cons_succ]
                            refine held_take 23 rfl (by kernel_rfl) (by kernel_rfl) (by kernel_rfl) (fun _ _ _ h => h) hHeld (by rfl) (v := ?_) ?_ ?_
                            rotate_left
                            · intro w hSw; (try dsimp only at hSw); (try go_simp); (try with_reducible rfl)
                            try simp only [Act.put, List.setIfInBounds_toArray, List.set_cons_zero, List.set_cons_succ]
                            refine held_take 24 rfl (by kernel_rfl) (by kernel_rfl) (by kernel_rfl) (fun _ _ _ h => h) hHeld (by rfl) (v := ?_) ?_ ?_
                            rotate_left
                            · intro w hSw; (try dsimp only at hSw); (try go_simp); (try with_reducible rfl)
                            try simp only [Act.put, List.setIfInBounds_toArray, List.set_cons_zero, List.set_cons_succ]
                            refine held_take 25 rfl (by kernel_rfl) (by kernel_rfl) (by kernel_rfl) (fun _ _ _ h => h) hHeld (by rfl) (v := ?_) ?_ ?_
                            rotate_left
                            · intro w hSw; (try dsimp only at hSw); (try go_simp); (try with_reducible rfl)
                            try simp only [Act.put, List.setIfInBounds_toArray, List.set_cons_zero, List.set_cons_succ]
                            refine held_take 26 rfl (by kernel_rfl) (by kernel_rfl) (by kernel_rfl) (fun _ _ _ h => h) hHeld (by rfl) (v := ?_) ?_ ?_
                            rotate_left
                            · intro w hSw; (try dsimp only at hSw); (try go_simp); (try with_reducible rfl)
                            try simp only [Act.put, List.setIfInBounds_toArray, List.set_cons_zero, List.set_cons_succ]
                            refine held_take 27 rfl (by kernel_rfl) (by kernel_rfl) (by kernel_rfl) (fun _ _ _ h => h) hHeld (by rfl) (v := ?_) ?_ ?_
                            rotate_left
                            · intro w hSw; (try dsimp only at hSw); (try go_simp); (try with_reducible rfl)
                            try simp only [Act.put, List.setIfInBounds_toArray, List.set_cons_zero, List.set_cons_succ]
                            refine held_take 28 rfl (by kernel_rfl) (by kernel_rfl) (by kernel_rfl) (fun _ _ _ h => h) hHeld (by rfl) (v := ?_) ?_ ?_
                            rotate_left
                            · intro w hSw; (try dsimp only at hSw); (try go_simp); (try with_reducible rfl)
                            try simp only [Act.put, List.setIfInBounds_toArray, List.set_cons_zero, List.set_cons_succ]
                            refine held_take 29 rfl (by kernel_rfl) (by kernel_rfl) (by kernel_rfl) (fun _ _ _ h => h) hHeld (by rfl) (v := ?_) ?_ ?_
                            rotate_left
                            · intro w hSw; (try dsimp only at hSw); (try go_simp); (try with_reducible rfl)
                            try simp only [Act.put, List.setIfInBounds_toArray, List.set_cons_zero, List.set_cons_succ]
                            refine held_take 30 rfl (by kernel_rfl) (by kernel_rfl) (by kernel_rfl) (fun _ _ _ h => h) hHeld (by rfl) (v := ?_) ?_ ?_
                            rotate_left
                            · intro w hSw; (try dsimp only at hSw); (try go_simp); (try with_reducible rfl)
                            try simp only [Act.put, List.setIfInBounds_toArray, List.set_cons_zero, List.set_cons_succ]
                            refine held_take 31 rfl (by kernel_rfl) (by kernel_rfl) (by kernel_rfl) (fun _ _ _ h => h) hHeld (by rfl) (v := ?_) ?_ ?_
                            rotate_left
                            · intro w hSw; (try dsimp only at hSw); (try go_simp); (try with_reducible rfl)
                            try simp only [Act.put, List.setIfInBounds_toArray, List.set_cons_zero, List.set_cons_succ]
                            refine held_step 32 rfl (by kernel_rfl) (by rfl) (fun Kx hK => ?_)
                            go_simp
                            go_at_call 18; refine (in_key (.slice kb bks.length kd) bks y.dir _ _ (HQ4.out.below (HBD.out.trans (hbi.mono HBD.out.size)))).mono ?_; rintro e wj ⟨rfl, hbj⟩; rw [show decide ((⟨y.dir, { data := #[] }⟩ : Ky) ∈ bks) = d2 from HD2.out]; have hSB := keep5 hSA hbj
                            refine hK.out _ _ ?_ (fun hHeld2 => ?_)
                            · (try dsimp only); first | exact hS0 | exact hSA | exact hSB
                            clear hK Kx hHeld
                            have hHeld := hHeld2
                            clear hHeld2
                            try simp only [Act.put, List.setIfInBounds_toArray, List.set_cons_zero, List.set_cons_succ]
                            refine held_take 33 rfl (by kernel_rfl) (by kernel_rfl) (by kernel_rfl) (fun _ _ _ h => h) hHeld (by rfl) (v := ?_) ?_ ?_
                            rotate_left
                            · intro w hSw; (try dsimp only at hSw); (try go_simp); (try with_reducible rfl)
                            try simp only [Act.put, List.setIfInBounds_toArray, List.set_cons_zero, List.set_cons_succ]
                            refine held_take 34 rfl (by kernel_rfl) (by kernel_rfl) (by kernel_rfl) (fun _ _ _ h => h) hHeld (by rfl) (v := ?_) ?_ ?_
                            rotate_left
                            · intro w hSw; (try dsimp only at hSw); (try go_simp); (try with_reducible rfl)
                            try simp only [Act.put, List.setIfInBounds_toArray, List.set_cons_zero, List.set_cons_succ]
                            refine wpAnyH_done (by kernel_rfl) ?_ _
                            clear hHeld hS0 hSA hSB
                            go_wp2
                            exact ⟨⟨1, d2, by go_num, rfl, hid (.inr ⟨rfl, by simp [goneB, HYB.out, HD2.out]⟩), hid ((HZD.out.trans (hbi.mono HZD.out.size)).trans (hbj.mono (HZD.out.trans (hbi.mono HZD.out.size)).size))⟩, by simp [intOf]⟩
                      · have HGG := hid hgg
                        have HBI := hid (HBK.out.trans (HB3.out.mono HBK.out.size))
                        have HOI := hid (own_below HLO.out HB3.out)
                        clear hgg
                        cases gg with
                        | true =>
                          go_wp2
                          exact ⟨⟨k + 1, by omega, by go_num, la, lc, LF, ⟨rfl, rfl, rfl⟩, by omega, hid (by rw [filter_snoc_no HYI.out (by rw [← HGG.out]; rfl)]; exact HLD.out), HOI⟩, by simp [intOf]; omega⟩
                        | false =>
                          have c1 := ks_at (Rd.own HKN5.out) HBI.out HYI.out
                          have hsz3 := HBI.out.size
                          go_wp2_with (at_builtin; refine wpList_append_rd rfl _ _ 28 rfl w5.heap.size 37 i1 _ 2 24 Try.underlying28 HI.out hy0 hy1 hy2 rfl (by decide) (.slice la LF.length lc) LF.length (kyc LF) rfl (own_alloc HOI.out _) (.slice (some ⟨wr.heap.size, 0, none⟩) 1 1) 1 [.int .i64 y.dir, .string y.name] rfl (rd_blk (heap_new wr _) (by unfold maxLen; omega)) rfl (by intro u hu; simp at hu; rcases hu with rfl | rfl <;> rfl) (by unfold maxLen; omega) (by omega) (by simp; omega) ?_; intro a2 c2 w2 hown2 hgrow2 hat2)
                          have HB2 := hid ((HBI.out.alloc hsz3 _).grown hgrow2 (by simp; omega) fun k hk => (own_lt HOI.out hk).1)
                          have hlen2 : LF.length + 1 = (LF ++ [y]).length := by rw [List.length_append]; rfl
                          have HLD2 := hid (show LF ++ [y] = (K.take (k + 1)).filter fun y => !goneB al bks y from by rw [filter_snoc_yes HYI.out (by rw [← HGG.out]; rfl), ← HLD.out])
                          have HOW2 := hid (show w2.ownsRow w5.heap.size 37 2 (.slice a2 (LF ++ [y]).length c2) (LF ++ [y]).length (kyc (LF ++ [y])) by rw [List.length_append, kyc_snoc]; exact hown2)
                          exact ⟨⟨k + 1, by omega, by go_num, a2, c2, LF ++ [y], ⟨rfl, hlen2, rfl⟩, by rw [← hlen2]; omega, HLD2, HOW2, HB2⟩, by simp [intOf]; omega⟩
                · have hLn : LF.length ≤ 2 * i := by omega
                  have HLI := hid (show KnI t'.ks LF by rw [HLD.out, List.take_of_length_le (by omega)]; exact HKI'.out)
                  clear hLk
                  have BXK := blk5 (heap_below HBK.out HBX5.out (blk_lt HBX5.out))
                  have HBW := hid (HV5.out.below.trans (HBK.out.mono HV5.out.sz))
                  have HVK := hid (HV5.out.alloc HBK.out)
                  go_wp2_with fail
                  refine (place_pos _ 3 _ (by omega) (by omega)).mono ?_; rintro e wx ⟨rfl, rfl⟩
                  by_cases hq : x.kind % 3 = 1
                  · have ht0 : (x.kind % 3 == 1) = true := by simp [hq]
                    have ht1 : (x.kind % 3 != 1) = false := by simp [hq]
                    have HKXL := hid (show LF.length ≤ 2 * i + 2 by omega)
                    clear hq
                    have hKX : LF.length ≤ 2 * i + 2 := HKXL.out
                    have HKF' := hid (show ∀ k, (Value.slice la LF.length lc).ownBlock = some k → ¬ F' k from fun k hk hf => by have h1 := (own_lt HLO.out hk).1; have h2 := HV5.out.v.lt k hf; omega)
                    have HVZ := hid HVK.out
                    have HWZ := hid (show w.heap.size ≤ w5.heap.size from HV5.out.sz)
                    go_wp2_with fail
                    go_loopw [17] (fun v17 wr => ∃ k4 : Nat, k4 ≤ LF.length ∧ v17 = .int .i64 k4 ∧ Hid (Below wk.heap.size wk wr)) (fun v17 _ => LF.length - (intOf v17).toNat)
                    case atStart => exact ⟨0, by omega, rfl, hid (Below.refl _ _)⟩
                    case round =>
                      as_aux_lemma =>
                        obtain ⟨k4, hk4, rfl, HB4⟩ := hrel
                        by_cases hlt4 : k4 < LF.length
                        · obtain ⟨g4, o4, rfl⟩ := ks_loc (Rd.own HLO.out) (by omega)
                          obtain ⟨y4, hy4⟩ : ∃ y4, LF[k4]? = some y4 := ⟨_, List.getElem?_eq_getElem hlt4⟩
                          have HYN := hid (HLI.out y4 (List.mem_of_getElem? hy4))
                          have c1 := ks_at (Rd.own HLO.out) HB4.out hy4
                          have HY4 := hid hy4
                          have hk40 : (0 : Int) ≤ (k4 : Int) := by omega
                          have hk41 : (k4 : Int) < (LF.length : Int) := by omega
                          have HV4 := hid (HVZ.out.alloc HB4.out)
                          clear hy4
                          go_wp2_with fail
                          refine (v_holds _ _ _ _ y4.dir y4.name HV4.out.v).mono ?_; rintro e wh4 ⟨rfl, hbh4⟩
                          have HB5' := hid (HB4.out.trans (hbh4.mono HB4.out.size))
                          have HV4' := hid (HV4.out.alloc hbh4)
                          clear hbh4
                          by_cases hm : y4 ∈ t'.ks
                          · rw [show decide ((⟨y4.dir, y4.name⟩ : Ky) ∈ t'.ks) = true from decide_eq_true hm]
                            clear hm c1
                            go_wp2
                            exact ⟨⟨k4 + 1, by omega, by go_num, HB5'⟩, by simp [intOf]; omega⟩
                          · have HDM := hid (HYN.out.resolve_left hm)
                            rw [show decide ((⟨y4.dir, y4.name⟩ : Ky) ∈ t'.ks) = false from decide_eq_false hm]
                            have c2 := ks_at (Rd.own HLO.out) HB5'.out HY4.out
                            clear hm c1
                            go_wp2_with fail
                            refine (v_holds _ _ _ _ y4.dir _ HV4'.out.v).mono ?_; rintro e wh5 ⟨rfl, hbh5⟩
                            rw [show decide ((⟨y4.dir, { data := #[] }⟩ : Ky) ∈ t'.ks) = true from decide_eq_true HDM.out]
                            have HB6' := hid (HB5'.out.trans (hbh5.mono HB5'.out.size))
                            clear hbh5
                            go_wp2
                            exact ⟨⟨k4 + 1, by omega, by go_num, HB6'⟩, by simp [intOf]; omega⟩
                        · have HIN := hid (show t'.n ≤ ((i + 1 : Nat) : Int) ∧ t'.P = pr ∧ t'.Q = qu from ⟨by have := HT.out.1; have h2 := HN'.out; omega, by rw [HST.out.P]; exact HT.out.2.1, by rw [HST.out.Q]; exact HT.out.2.2⟩)
                          have HVN := hid (HVZ.out.alloc HB4.out)
                          have HON := hid (ownsRow_mono (own_below HLO.out HB4.out) HWZ.out)
                          go_wp2
                          exact ⟨⟨i + 1, F', t', _, _, LF, by omega, by go_num, rfl, by omega, HVN, HIN, HON, HKF', HLI⟩, by simp [intOf]; omega⟩
                  · have ht0 : (x.kind % 3 == 1) = false := by simp [hq]
                    have ht1 : (x.kind % 3 != 1) = true := by simp [hq]
                    clear hq
                    obtain ⟨f, hf⟩ : ∃ f, f = firstK x.ks := ⟨_, rfl⟩
                    have HFD := hid hf
                    have hfd1 : ∀ w : World, (Instr.field 37 (.agg #[.int .i64 f.dir, .string f.name]) 1).run Try.prog w = .ok (.string f.name) w := fun _ => by kernel_rfl
                    have hfd0 : ∀ w : World, (Instr.field 37 (.agg #[.int .i64 f.dir, .string f.name]) 0).run Try.prog w = .ok (.int .i64 f.dir) w := fun _ => by kernel_rfl
                    clear hf
                    go_wp2_with fail
                    refine (first_key (.slice x.a x.ks.length x.c) x.ks _ (HKRW.out.below HBW.out)).mono ?_; rintro e wf ⟨rfl, hbf⟩
                    rw [← HFD.out]
                    have HBF := hid (HBK.out.trans (hbf.mono HBK.out.size))
                    have HVF := hid (HVK.out.alloc hbf)
                    have HLF1 := hid (own_below HLO.out hbf)
                    clear hbf BXK
                    go_wp2_with fail
                    refine (v_holds _ F' _ t' f.dir f.name HVF.out.v).mono ?_; rintro e wh ⟨rfl, hbh⟩
                    have HBH := hid (HBF.out.trans (hbh.mono HBF.out.size))
                    have HVH := hid (HVF.out.alloc hbh)
                    have HLH := hid (own_below HLF1.out hbh)
                    have BXH := blk5 (heap_below HBH.out HBX5.out (blk_lt HBX5.out))
                    clear hbh
                    by_cases hm : f ∈ t'.ks
                    · rw [show decide ((⟨f.dir, f.name⟩ : Ky) ∈ t'.ks) = true from decide_eq_true hm]
                      have HMF := hid hm
                      clear hm
                      go_wp2_with fail
                      refine (first_key (.slice x.a x.ks.length x.c) x.ks _ (HKRW.out.below (HV5.out.below.trans (HBH.out.mono HV5.out.sz)))).mono ?_; rintro e wg ⟨rfl, hbg⟩
                      rw [← HFD.out]
                      have HBG := hid (HBH.out.trans (hbg.mono HBH.out.size))
                      have HLG := hid (own_below HLH.out hbg)
                      have hgz1 := HBG.out.size
                      clear hbg BXH
                      go_wp2_with (at_builtin; refine wpList_append_rd rfl _ _ 28 rfl w5.heap.size 37 i1 _ 2 24 Try.underlying28 HI.out hy0 hy1 hy2 rfl (by decide) (.slice la LF.length lc) LF.length (kyc LF) rfl (own_alloc HLG.out _) (.slice (some ⟨wg.heap.size, 0, none⟩) 1 1) 1 [.int .i64 f.dir, .string f.name] rfl (rd_blk (heap_new wg _) (by unfold maxLen; omega)) rfl (by intro u hu; simp at hu; rcases hu with rfl | rfl <;> rfl) (by unfold maxLen; omega) (by omega) (by simp; omega) ?_; intro a2 c2 w2 hown2 hgrow2 hat2; have hB2q := (HBG.out.alloc hgz1 _).grown hgrow2 (by simp; omega) (fun k hk => (own_lt HLG.out hk).1); have BX2 := blk5 (heap_below hB2q HBX5.out (blk_lt HBX5.out)))
                      have HB2 := hid hB2q
                      have HV2 := hid (HV5.out.alloc HB2.out)
                      clear hB2q
                      obtain ⟨K2, hK2⟩ : ∃ K2, K2 = LF ++ [f] := ⟨_, rfl⟩
                      have hK2l : K2.length = LF.length + 1 := by rw [hK2, List.length_append]; rfl
                      have HL2 := hid (show w2.ownsRow w5.heap.size 37 2 (.slice a2 K2.length c2) K2.length (kyc K2) by rw [hK2l, hK2, kyc_snoc]; exact hown2)
                      have HI2 := hid (show KnI t'.ks K2 by rw [hK2]; exact knI_one HLI.out HMF.out)
                      have HK2 := hid hK2
                      have hK2b : K2.length ≤ 2 * i + 1 := by omega
                      rw [← hK2l]
                      clear hown2 hgrow2 hat2 hgz1 hK2 hK2l
                      go_wp2_with fail
                      refine (first_key (.slice x.a x.ks.length x.c) x.ks _ (HKRW.out.below (HV5.out.below.trans (HB2.out.mono HV5.out.sz)))).mono ?_; rintro e w3 ⟨rfl, hb3⟩
                      rw [← HFD.out]
                      have HB3 := hid (HB2.out.trans (hb3.mono HB2.out.size))
                      have HV3' := hid (HV2.out.alloc hb3)
                      have HL3 := hid (own_below HL2.out hb3)
                      clear hb3 BX2
                      by_cases hnm : f.name = ByteArray.empty
                      · have HNM := hid hnm
                        have hn1 := (nm_empty _).1 hnm
                        have hn0 : f.name.toList.isEmpty = true := by simp [hn1]
                        have BX3' := blk5 (heap_below HB3.out HBX5.out (blk_lt HBX5.out))
                        clear hnm
                        go_wp2_with fail
                        refine (first_key (.slice x.a x.ks.length x.c) x.ks _ (HKRW.out.below (HV5.out.below.trans (HB3.out.mono HV5.out.sz)))).mono ?_; rintro e w6 ⟨rfl, hb6⟩
                        rw [← HFD.out]
                        have HB6 := hid (HB3.out.trans (hb6.mono HB3.out.size))
                        have HL6 := hid (own_below HL3.out hb6)
                        have hgz6 := HB6.out.size
                        clear hb6 BX3' hn0 hn1
                        go_wp2_with (at_builtin; refine wpList_append_rd rfl _ _ 28 rfl w5.heap.size 37 i1 _ 2 24 Try.underlying28 HI.out hy0 hy1 hy2 rfl (by decide) (.slice a2 K2.length c2) K2.length (kyc K2) rfl (own_alloc HL6.out _) (.slice (some ⟨w6.heap.size, 0, none⟩) 1 1) 1 [.int .i64 f.dir, .string { data := #[97, 110, 121] }] rfl (rd_blk (heap_new w6 _) (by unfold maxLen; omega)) rfl (by intro u hu; simp at hu; rcases hu with rfl | rfl <;> rfl) (by unfold maxLen; omega) (by omega) (by simp; omega) ?_; intro a7 c7 w7 hown7 hgrow7 hat7)
                        have HB7 := hid ((HB6.out.alloc hgz6 _).grown hgrow7 (by simp; omega) fun k hk => (own_lt HL6.out hk).1)
                        have HV7 := hid (HV5.out.alloc HB7.out)
                        obtain ⟨K7, hK7⟩ : ∃ K7 : List Ky, K7 = K2 ++ [⟨f.dir, { data := #[97, 110, 121] }⟩] := ⟨_, rfl⟩
                        have hK7l : K7.length = K2.length + 1 := by rw [hK7, List.length_append]; rfl
                        have HL7 := hid (show w7.ownsRow w5.heap.size 37 2 (.slice a7 K7.length c7) K7.length (kyc K7) by rw [hK7l, hK7, kyc_snoc]; exact hown7)
                        have HI7 := hid (show KnI t'.ks K7 by rw [hK7, HK2.out]; exact knI_two HLI.out HMF.out HNM.out _)
                        have HKXL := hid (show K7.length ≤ 2 * i + 2 by omega)
                        rw [← hK7l]
                        clear hown7 hgrow7 hat7 hgz6 hK7 hK7l
                        have hKX : K7.length ≤ 2 * i + 2 := HKXL.out
                        have HKF' := hid (show ∀ k, (Value.slice a7 K7.length c7).ownBlock = some k → ¬ F' k from fun k hk hf => by have h1 := (own_lt HL7.out hk).1; have h2 := HV5.out.v.lt k hf; omega)
                        have HVZ := hid HV7.out
                        have HWZ := hid (show w.heap.size ≤ w5.heap.size from HV5.out.sz)
                        go_wp2_with fail
                        go_loopw [17] (fun v17 wr => ∃ k4 : Nat, k4 ≤ K7.length ∧ v17 = .int .i64 k4 ∧ Hid (Below w7.heap.size w7 wr)) (fun v17 _ => K7.length - (intOf v17).toNat)
                        case atStart => exact ⟨0, by omega, rfl, hid (Below.refl _ _)⟩
                        case round =>
                          as_aux_lemma =>
                            obtain ⟨k4, hk4, rfl, HB4⟩ := hrel
                            by_cases hlt4 : k4 < K7.length
                            · obtain ⟨g4, o4, rfl⟩ := ks_loc (Rd.own HL7.out) (by omega)
                              obtain ⟨y4, hy4⟩ : ∃ y4, K7[k4]? = some y4 := ⟨_, List.getElem?_eq_getElem hlt4⟩
                              have HYN := hid (HI7.out y4 (List.mem_of_getElem? hy4))
                              have c1 := ks_at (Rd.own HL7.out) HB4.out hy4
                              have HY4 := hid hy4
                              have hk40 : (0 : Int) ≤ (k4 : Int) := by omega
                              have hk41 : (k4 : Int) < (K7.length : Int) := by omega
                              have HV4 := hid (HVZ.out.alloc HB4.out)
                              clear hy4
                              go_wp2_with fail
                              refine (v_holds _ _ _ _ y4.dir y4.name HV4.out.v).mono ?_; rintro e wh4 ⟨rfl, hbh4⟩
                              have HB5' := hid (HB4.out.trans (hbh4.mono HB4.out.size))
                              have HV4' := hid (HV4.out.alloc hbh4)
                              clear hbh4
                              by_cases hm : y4 ∈ t'.ks
                              · rw [show decide ((⟨y4.dir, y4.name⟩ : Ky) ∈ t'.ks) = true from decide_eq_true hm]
                                clear hm c1
                                go_wp2
                                exact ⟨⟨k4 + 1, by omega, by go_num, HB5'⟩, by simp [intOf]; omega⟩
                              · have HDM := hid (HYN.out.resolve_left hm)
                                rw [show decide ((⟨y4.dir, y4.name⟩ : Ky) ∈ t'.ks) = false from decide_eq_false hm]
                                have c2 := ks_at (Rd.own HL7.out) HB5'.out HY4.out
                                clear hm c1
                                go_wp2_with fail
                                refine (v_holds _ _ _ _ y4.dir _ HV4'.out.v).mono ?_; rintro e wh5 ⟨rfl, hbh5⟩
                                rw [show decide ((⟨y4.dir, { data := #[] }⟩ : Ky) ∈ t'.ks) = true from decide_eq_true HDM.out]
                                have HB6' := hid (HB5'.out.trans (hbh5.mono HB5'.out.size))
                                clear hbh5
                                go_wp2
                                exact ⟨⟨k4 + 1, by omega, by go_num, HB6'⟩, by simp [intOf]; omega⟩
                            · have HIN := hid (show t'.n ≤ ((i + 1 : Nat) : Int) ∧ t'.P = pr ∧ t'.Q = qu from ⟨by have := HT.out.1; have h2 := HN'.out; omega, by rw [HST.out.P]; exact HT.out.2.1, by rw [HST.out.Q]; exact HT.out.2.2⟩)
                              have HVN := hid (HVZ.out.alloc HB4.out)
                              have HON := hid (ownsRow_mono (own_below HL7.out HB4.out) HWZ.out)
                              go_wp2
                              exact ⟨⟨i + 1, F', t', _, _, K7, by omega, by go_num, rfl, by omega, HVN, HIN, HON, HKF', HI7⟩, by simp [intOf]; omega⟩
                      · have hn1 : f.name.toList ≠ [] := fun h3 => hnm ((nm_empty _).2 h3)
                        have hn0 : f.name.toList.isEmpty = false := by simpa using hn1
                        have HKXL := hid (show K2.length ≤ 2 * i + 2 by omega)
                        clear hnm hn1
                        have hKX : K2.length ≤ 2 * i + 2 := HKXL.out
                        have HKF' := hid (show ∀ k, (Value.slice a2 K2.length c2).ownBlock = some k → ¬ F' k from fun k hk hf => by have h1 := (own_lt HL3.out hk).1; have h2 := HV5.out.v.lt k hf; omega)
                        have HVZ := hid HV3'.out
                        have HWZ := hid (show w.heap.size ≤ w5.heap.size from HV5.out.sz)
                        go_wp2_with fail
                        go_loopw [17] (fun v17 wr => ∃ k4 : Nat, k4 ≤ K2.length ∧ v17 = .int .i64 k4 ∧ Hid (Below w3.heap.size w3 wr)) (fun v17 _ => K2.length - (intOf v17).toNat)
                        case atStart => exact ⟨0, by omega, rfl, hid (Below.refl _ _)⟩
                        case round =>
                          as_aux_lemma =>
                            obtain ⟨k4, hk4, rfl, HB4⟩ := hrel
                            by_cases hlt4 : k4 < K2.length
                            · obtain ⟨g4, o4, rfl⟩ := ks_loc (Rd.own HL3.out) (by omega)
                              obtain ⟨y4, hy4⟩ : ∃ y4, K2[k4]? = some y4 := ⟨_, List.getElem?_eq_getElem hlt4⟩
                              have HYN := hid (HI2.out y4 (List.mem_of_getElem? hy4))
                              have c1 := ks_at (Rd.own HL3.out) HB4.out hy4
                              have HY4 := hid hy4
                              have hk40 : (0 : Int) ≤ (k4 : Int) := by omega
                              have hk41 : (k4 : Int) < (K2.length : Int) := by omega
                              have HV4 := hid (HVZ.out.alloc HB4.out)
                              clear hy4
                              go_wp2_with fail
                              refine (v_holds _ _ _ _ y4.dir y4.name HV4.out.v).mono ?_; rintro e wh4 ⟨rfl, hbh4⟩
                              have HB5' := hid (HB4.out.trans (hbh4.mono HB4.out.size))
                              have HV4' := hid (HV4.out.alloc hbh4)
                              clear hbh4
                              by_cases hm : y4 ∈ t'.ks
                              · rw [show decide ((⟨y4.dir, y4.name⟩ : Ky) ∈ t'.ks) = true from decide_eq_true hm]
                                clear hm c1
                                go_wp2
                                exact ⟨⟨k4 + 1, by omega, by go_num, HB5'⟩, by simp [intOf]; omega⟩
                              · have HDM := hid (HYN.out.resolve_left hm)
                                rw [show decide ((⟨y4.dir, y4.name⟩ : Ky) ∈ t'.ks) = false from decide_eq_false hm]
                                have c2 := ks_at (Rd.own HL3.out) HB5'.out HY4.out
                                clear hm c1
                                go_wp2_with fail
                                refine (v_holds _ _ _ _ y4.dir _ HV4'.out.v).mono ?_; rintro e wh5 ⟨rfl, hbh5⟩
                                rw [show decide ((⟨y4.dir, { data := #[] }⟩ : Ky) ∈ t'.ks) = true from decide_eq_true HDM.out]
                                have HB6' := hid (HB5'.out.trans (hbh5.mono HB5'.out.size))
                                clear hbh5
                                go_wp2
                                exact ⟨⟨k4 + 1, by omega, by go_num, HB6'⟩, by simp [intOf]; omega⟩
                            · have HIN := hid (show t'.n ≤ ((i + 1 : Nat) : Int) ∧ t'.P = pr ∧ t'.Q = qu from ⟨by have := HT.out.1; have h2 := HN'.out; omega, by rw [HST.out.P]; exact HT.out.2.1, by rw [HST.out.Q]; exact HT.out.2.2⟩)
                              have HVN := hid (HVZ.out.alloc HB4.out)
                              have HON := hid (ownsRow_mono (own_below HL3.out HB4.out) HWZ.out)
                              go_wp2
                              exact ⟨⟨i + 1, F', t', _, _, K2, by omega, by go_num, rfl, by omega, HVN, HIN, HON, HKF', HI2⟩, by simp [intOf]; omega⟩
                    · rw [show decide ((⟨f.dir, f.name⟩ : Ky) ∈ t'.ks) = false from decide_eq_false hm]
                      have HKXL := hid (show LF.length ≤ 2 * i + 2 by omega)
                      clear hm BXH
                      have hKX : LF.length ≤ 2 * i + 2 := HKXL.out
                      have HKF' := hid (show ∀ k, (Value.slice la LF.length lc).ownBlock = some k → ¬ F' k from fun k hk hf => by have h1 := (own_lt HLH.out hk).1; have h2 := HV5.out.v.lt k hf; omega)
                      have HVZ := hid HVH.out
                      have HWZ := hid (show w.heap.size ≤ w5.heap.size from HV5.out.sz)
                      go_wp2_with fail
                      go_loopw [17] (fun v17 wr => ∃ k4 : Nat, k4 ≤ LF.length ∧ v17 = .int .i64 k4 ∧ Hid (Below wh.heap.size wh wr)) (fun v17 _ => LF.length - (intOf v17).toNat)
                      case atStart => exact ⟨0, by omega, rfl, hid (Below.refl _ _)⟩
                      case round =>
                        as_aux_lemma =>
                          obtain ⟨k4, hk4, rfl, HB4⟩ := hrel
                          by_cases hlt4 : k4 < LF.length
                          · obtain ⟨g4, o4, rfl⟩ := ks_loc (Rd.own HLH.out) (by omega)
                            obtain ⟨y4, hy4⟩ : ∃ y4, LF[k4]? = some y4 := ⟨_, List.getElem?_eq_getElem hlt4⟩
                            have HYN := hid (HLI.out y4 (List.mem_of_getElem? hy4))
                            have c1 := ks_at (Rd.own HLH.out) HB4.out hy4
                            have HY4 := hid hy4
                            have hk40 : (0 : Int) ≤ (k4 : Int) := by omega
                            have hk41 : (k4 : Int) < (LF.length : Int) := by omega
                            have HV4 := hid (HVZ.out.alloc HB4.out)
                            clear hy4
                            go_wp2_with fail
                            refine (v_holds _ _ _ _ y4.dir y4.name HV4.out.v).mono ?_; rintro e wh4 ⟨rfl, hbh4⟩
                            have HB5' := hid (HB4.out.trans (hbh4.mono HB4.out.size))
                            have HV4' := hid (HV4.out.alloc hbh4)
                            clear hbh4
                            by_cases hm : y4 ∈ t'.ks
                            · rw [show decide ((⟨y4.dir, y4.name⟩ : Ky) ∈ t'.ks) = true from decide_eq_true hm]
                              clear hm c1
                              go_wp2
                              exact ⟨⟨k4 + 1, by omega, by go_num, HB5'⟩, by simp [intOf]; omega⟩
                            · have HDM := hid (HYN.out.resolve_left hm)
                              rw [show decide ((⟨y4.dir, y4.name⟩ : Ky) ∈ t'.ks) = false from decide_eq_false hm]
                              have c2 := ks_at (Rd.own HLH.out) HB5'.out HY4.out
                              clear hm c1
                              go_wp2_with fail
                              refine (v_holds _ _ _ _ y4.dir _ HV4'.out.v).mono ?_; rintro e wh5 ⟨rfl, hbh5⟩
                              rw [show decide ((⟨y4.dir, { data := #[] }⟩ : Ky) ∈ t'.ks) = true from decide_eq_true HDM.out]
                              have HB6' := hid (HB5'.out.trans (hbh5.mono HB5'.out.size))
                              clear hbh5
                              go_wp2
                              exact ⟨⟨k4 + 1, by omega, by go_num, HB6'⟩, by simp [intOf]; omega⟩
                          · have HIN := hid (show t'.n ≤ ((i + 1 : Nat) : Int) ∧ t'.P = pr ∧ t'.Q = qu from ⟨by have := HT.out.1; have h2 := HN'.out; omega, by rw [HST.out.P]; exact HT.out.2.1, by rw [HST.out.Q]; exact HT.out.2.2⟩)
                            have HVN := hid (HVZ.out.alloc HB4.out)
                            have HON := hid (ownsRow_mono (own_below HLH.out HB4.out) HWZ.out)
                            go_wp2
                            exact ⟨⟨i + 1, F', t', _, _, LF, by omega, by go_num, rfl, by omega, HVN, HIN, HON, HKF', HLI⟩, by simp [intOf]; omega⟩
      · go_wp2_with fail
        refine (v_awake _).mono ?_; rintro e w9 ⟨rfl, hb9⟩
        have HB9 := hid (HV.out.below.trans (hb9.mono HV.out.sz))
        clear hb9
        go_wp2
        go_ret
        exact ⟨rfl, HB9.out⟩
  · refine (v_new_no _ 1 pr qu hE).mono ?_
    rintro e wx ⟨rfl, rfl⟩
    have HNO := hid hE
    clear hE
    by_cases g1 : pr < 1
    · go_wp2_with fail
      refine (v_awake _).mono ?_; rintro e w9 ⟨rfl, hb9⟩
      have HB9 := hid hb9
      clear hb9
      go_wp2
      go_ret
      exact ⟨rfl, HB9.out⟩
    by_cases g2 : pr > 32
    · go_wp2_with fail
      refine (v_awake _).mono ?_; rintro e w9 ⟨rfl, hb9⟩
      have HB9 := hid hb9
      clear hb9
      go_wp2
      go_ret
      exact ⟨rfl, HB9.out⟩
    by_cases g3 : qu < 1
    · go_wp2_with fail
      refine (v_awake _).mono ?_; rintro e w9 ⟨rfl, hb9⟩
      have HB9 := hid hb9
      clear hb9
      go_wp2
      go_ret
      exact ⟨rfl, HB9.out⟩
    by_cases g4 : qu > 16
    · go_wp2_with fail
      refine (v_awake _).mono ?_; rintro e w9 ⟨rfl, hb9⟩
      have HB9 := hid hb9
      clear hb9
      go_wp2
      go_ret
      exact ⟨rfl, HB9.out⟩
    exact absurd ⟨⟨by decide, by decide⟩, ⟨by omega, by omega⟩, by omega, by omega⟩ HNO.out

end Go.Proofs.Ytakkdaenindboaa
