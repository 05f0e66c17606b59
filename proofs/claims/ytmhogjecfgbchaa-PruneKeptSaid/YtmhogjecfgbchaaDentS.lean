import Derived.Test.YtmhogjecfgbchaaDentR
namespace Go.Proofs.Ytmhogjecfgbchaa
set_option linter.unusedVariables false
set_option linter.unusedSimpArgs false
open Go.RowKit
attribute [local go_sem ↓] Go.wp_at_zero Go.wp_at_succ

def keepE (k : Ky) (L : List En) : List En := L.filter fun e => !hitE k e
def cutWs (ks : List Ky) (ws : List Int) : List Int := ks.foldl (fun ws k => partL k.dir ws) ws
theorem keepE_yes {k : Ky} {L : List En} {y : En} (h : hitE k y = false) : keepE k (L ++ [y]) = keepE k L ++ [y] := by simp [keepE, h]
theorem keepE_no {k : Ky} {L : List En} {y : En} (h : hitE k y = true) : keepE k (L ++ [y]) = keepE k L := by simp [keepE, h]
theorem keepE_le (k : Ky) (L : List En) : (keepE k L).length ≤ L.length := List.length_filter_le _ _
theorem cutE_le (ks : List Ky) (L : List En) : (cutE ks L).length ≤ L.length := List.length_filter_le _ _
theorem cutE_take {ks : List Ky} {j : Nat} {x : Ky} (L : List En) (hx : ks[j]? = some x) : cutE (ks.take (j + 1)) L = keepE x (cutE (ks.take j) L) := by
  unfold cutE keepE
  rw [List.take_add_one, hx, List.filter_filter]
  apply List.filter_congr; intro e _
  simp [Bool.and_comm]
theorem cutWs_take {ks : List Ky} {j : Nat} {x : Ky} (ws : List Int) (hx : ks[j]? = some x) : cutWs (ks.take (j + 1)) ws = partL x.dir (cutWs (ks.take j) ws) := by
  unfold cutWs; rw [List.take_add_one, hx]; simp
theorem cutWs_le (ks : List Ky) : ∀ ws, (cutWs ks ws).length ≤ ws.length := by
  induction ks with
  | nil => intro ws; exact Nat.le_refl _
  | cons k ks ih => intro ws; exact Nat.le_trans (ih (partL k.dir ws)) (partL_le _ _)

set_option maxRecDepth 100000 in
set_option maxHeartbeats 4000000 in
theorem r_cut (w : World) (p : Nat) (L : List En) (ws : List Int) (ka : Option Addr) (kc : Nat) (ks : List Ky) (h : RAt w p L ws) (hr : Rd w (.slice ka ks.length kc) ks.length (kyc ks)) (hkp : ∀ b, 0 < ks.length → (Value.slice ka ks.length kc).ownBlock = some b → b ≠ p) (hn : L.length * 72 ≤ 140737488351232) (hnw : ws.length * 8 ≤ 140737488351232) (hks : ks.length ≤ 140737488351232) :
    Calls Try.prog 40 #[.pointer (some ⟨p, 0, none⟩), .slice ka ks.length kc] w fun r w' => r = .returned (.tuple #[]) ∧ RAt w' p (cutE ks L) (cutWs ks ws) ∧ Chg (fun k => k = p) w w' := by
  obtain ⟨i7, hi7, p7, q7, r7⟩ := info_parts infoEn
  have HI7 := hid hi7
  have HH := hid h
  have HKR := hid hr
  have HKP := hid hkp
  have hp := h.lt
  have hkn : ks.length ≤ 9223372036854775807 := by omega
  clear h hr hkp hi7
  go_enter Try.func40, Try.ntmps40
  go_wp2_with fail
  go_loopw [4] (fun v wr => ∃ (j : Nat), j ≤ ks.length ∧ v = .int .i64 j ∧ Hid (RAt wr p (cutE (ks.take j) L) (cutWs (ks.take j) ws)) ∧ Hid (Chg (fun k => k = p) w wr)) (fun v _ => ks.length - (intOf v).toNat)
  case atStart => exact ⟨0, Nat.zero_le _, rfl, hid (by rw [List.take_zero, show cutE [] L = L from List.filter_eq_self.2 (fun _ _ => rfl)]; exact HH.out), hid (Chg.refl _ _)⟩
  case round =>
    obtain ⟨j, hj, rfl, HR, HC⟩ := hrel
    obtain ⟨W0, hW0⟩ : ∃ W0, W0 = wr := ⟨_, rfl⟩
    subst hW0
    by_cases hlt : j < ks.length
    · have hk0 : (0 : Int) ≤ (j : Int) := by omega
      have hk1 : (j : Int) < (ks.length : Int) := by omega
      obtain ⟨x, hx⟩ : ∃ x, ks[j]? = some x := ⟨_, List.getElem?_eq_getElem hlt⟩
      have HCE := hid (cutE_take L hx)
      have HCW := hid (cutWs_take ws hx)
      have hKR2 := HKR.out.chg (w' := W0) (fun b hb hlt => HC.out.block b hlt (HKP.out b (by omega) hb))
      obtain ⟨kg, ko, rfl⟩ := ks_loc hKR2 (by omega)
      have KR2 := hid hKR2
      have HX := hid hx
      obtain ⟨L1, hL1⟩ : ∃ L1, L1 = cutE (ks.take j) L := ⟨_, rfl⟩
      obtain ⟨W1, hW1⟩ : ∃ W1, W1 = cutWs (ks.take j) ws := ⟨_, rfl⟩
      rw [← hL1, ← hW1] at HR
      rw [← hL1] at HCE
      rw [← hW1] at HCW
      have hLl : L1.length ≤ L.length := by rw [hL1]; exact cutE_le _ _
      have hWl : W1.length ≤ ws.length := by rw [hW1]; exact cutWs_le _ _
      have hwz := HC.out.size
      have hln : L1.length ≤ 9223372036854775807 := by omega
      obtain ⟨aL, cL, aW, cW, K, O, Wd⟩ := HR.out.ex
      have HK := hid K
      have HO1 := hid O
      have HWd := hid Wd
      have hp1 := blk_lt K
      clear hKR2 hx hL1 hW1 K O Wd
      go_wp2_with fail
      go_loopw [5, 6] (fun v5 v6 wr => ∃ (i : Nat) (a2 : Option Addr) (c2 : Nat), i ≤ L1.length ∧ v6 = .int .i64 i ∧ v5 = .slice a2 (keepE x (L1.take i)).length c2 ∧ Hid (Below W0.heap.size W0 wr) ∧ Hid (wr.ownsRow W0.heap.size 30 7 (.slice a2 (keepE x (L1.take i)).length c2) (keepE x (L1.take i)).length (ecs (keepE x (L1.take i))))) (fun _ v6 _ => L1.length - (intOf v6).toNat)
      case atStart => exact ⟨0, none, 0, Nat.zero_le _, rfl, rfl, hid (Below.refl _ _), hid (World.ownsRow_nil _ _ _ _)⟩
      case round =>
        obtain ⟨i, a2, c2, hi, rfl, rfl, HB, HO⟩ := hrel
        have hzz := HB.out.size
        have b0 := blk2 (heap_below HB.out HK.out hp1)
        have hpl : (keepE x (L1.take i)).length ≤ i := Nat.le_trans (keepE_le _ _) (by simp; omega)
        by_cases hlt2 : i < L1.length
        · have hi0 : (0 : Int) ≤ (i : Int) := by omega
          have hi1 : (i : Int) < (L1.length : Int) := by omega
          have O2 := hid (own_below HO1.out HB.out)
          obtain ⟨g, hag, hBg, hgz, hc1, hc2⟩ := own_loc O2.out (by omega)
          obtain ⟨y, hy⟩ : ∃ y, L1[i]? = some y := ⟨_, List.getElem?_eq_getElem hlt2⟩
          subst hag
          have b1 := ecs_at (Rd.own O2.out) hy
          have BY := blk2 (heap_new wr (.cells #[.int .i64 y.key.dir, .string y.key.name] 26))
          have b2 := ecs_at (Rd.own (own_alloc O2.out (.cells #[.int .i64 y.key.dir, .string y.key.name] 26))) hy
          have b3 := blk2 (heap_old (heap_below HB.out HK.out hp1) (.cells #[.int .i64 y.key.dir, .string y.key.name] 26))
          have P2 := ks_at (KR2.out.below HB.out) ((Below.refl _ _).trans (bl1 wr (.cells #[.int .i64 y.key.dir, .string y.key.name] 26))) HX.out
          have htk : L1.take (i + 1) = L1.take i ++ [y] := by rw [List.take_add_one, hy]; rfl
          have HTK := hid htk
          clear hy htk
          by_cases hd : y.key.dir = x.dir
          · have hd' : (y.key.dir != x.dir) = false := by simpa using hd
            by_cases hnm : x.name = ByteArray.empty
            · have hn1 : x.name.toList = [] := (name_empty _).1 hnm
              have hn2 : x.name.toList.isEmpty = true := by simp [hn1]
              have HF := hid (keepE_no (L := L1.take i) (show hitE x y = true by simp [hitE, hnm, hd]))
              clear hnm hd
              go_wp2_with fail
              go_quiet (fail)
              go_wp2
              exact ⟨⟨i + 1, a2, c2, by omega, by go_num, by rw [HTK.out, HF.out], hid (below_drewN (HB.out.alloc hzz _) _), hid (by rw [HTK.out, HF.out]; exact own_drewN (own_alloc HO.out _) _)⟩, by simp [intOf]; omega⟩
            · have hn1 : ¬ (x.name.toList = []) := fun h3 => hnm ((name_empty _).2 h3)
              have hn2 : x.name.toList.isEmpty = false := by simpa using hn1
              by_cases hnn : y.key.name = x.name
              · have hn3 : (y.key.name.toList == x.name.toList) = true := by simp [hnn]
                have HF := hid (keepE_no (L := L1.take i) (show hitE x y = true by simp [hitE, hnm, isK]; cases hyk : y.key; cases hxk : x; simp_all))
                clear hnm hnn hd
                go_wp2_with fail
                go_quiet (fail)
                go_wp2
                exact ⟨⟨i + 1, a2, c2, by omega, by go_num, by rw [HTK.out, HF.out], hid (below_drewN (HB.out.alloc hzz _) _), hid (by rw [HTK.out, HF.out]; exact own_drewN (own_alloc HO.out _) _)⟩, by simp [intOf]; omega⟩
              · have hn3 : (y.key.name.toList == x.name.toList) = false := by simpa using fun e => hnn (toList_inj e)
                have HF := hid (keepE_yes (L := L1.take i) (show hitE x y = false by simp [hitE, hnm, isK]; intro e; exact hnn (by rw [e])))
                clear hnm hnn hd
                go_wp2_with fail
                go_quiet (fail)
                have HO3 := hid (own_drewN (own_alloc HO.out (.cells #[.int .i64 y.key.dir, .string y.key.name] 26)) nq)
                have hz3 : ((wr.alloc (.cells #[.int .i64 y.key.dir, .string y.key.name] 26)).drewN nq).heap.size = wr.heap.size + 1 := by simp
                go_wp2_with (at_builtin; refine wpList_append_rd rfl _ _ 49 rfl W0.heap.size 30 i7 _ 7 72 Try.underlying49 HI7.out p7 q7 r7 rfl (by decide) (.slice a2 (keepE x (L1.take i)).length c2) (keepE x (L1.take i)).length (ecs (keepE x (L1.take i))) rfl (own_alloc HO3.out _) (.slice (some ⟨wr.heap.size + 1, 0, none⟩) 1 1) 1 [.int .i64 y.key.dir, .string y.key.name, .bool y.neg, .int .i64 y.node.id, .int .i64 y.node.kind, .int .i64 y.node.mode, .string y.node.target] rfl (rd_blk (by have e := heap_new (((wr.alloc (.cells #[.int .i64 y.key.dir, .string y.key.name] 26)).drewN nq)) (.cells #[.int .i64 y.key.dir, .string y.key.name, .bool y.neg, .int .i64 y.node.id, .int .i64 y.node.kind, .int .i64 y.node.mode, .string y.node.target] 30); rw [hz3] at e; exact e) (by unfold maxLen; omega)) rfl (En.one y) (by unfold maxLen; omega) (by omega) (by simp; omega) ?_; intro a5 c5 w5 hown5 hgrow5 hat5)
                refine ⟨⟨i + 1, a5, c5, by omega, by go_num, by rw [HTK.out, HF.out, List.length_append]; rfl, hid ?_, hid (by rw [HTK.out, HF.out, ecs_snoc, List.length_append]; exact hown5)⟩, by simp [intOf]; omega⟩
                have hb1 := (HB.out.alloc hzz (.cells #[.int .i64 y.key.dir, .string y.key.name] 26))
                have hb2 := below_drewN hb1 nq
                exact (hb2.alloc (by simp; omega) _).grown hgrow5 (by simp; omega) (fun k hk => (own_lt HO.out hk).1)
          · have hd' : (y.key.dir != x.dir) = true := by simpa using hd
            have HF := hid (keepE_yes (L := L1.take i) (show hitE x y = false by by_cases hq : x.name = ByteArray.empty <;> simp [hitE, hq, hd, isK]; intro e; exact hd (by rw [e])))
            clear hd
            go_wp2_with fail
            go_quiet (fail)
            have HO3 := hid (own_drewN (own_alloc HO.out (.cells #[.int .i64 y.key.dir, .string y.key.name] 26)) nq)
            have hz3 : ((wr.alloc (.cells #[.int .i64 y.key.dir, .string y.key.name] 26)).drewN nq).heap.size = wr.heap.size + 1 := by simp
            go_wp2_with (at_builtin; refine wpList_append_rd rfl _ _ 49 rfl W0.heap.size 30 i7 _ 7 72 Try.underlying49 HI7.out p7 q7 r7 rfl (by decide) (.slice a2 (keepE x (L1.take i)).length c2) (keepE x (L1.take i)).length (ecs (keepE x (L1.take i))) rfl (own_alloc HO3.out _) (.slice (some ⟨wr.heap.size + 1, 0, none⟩) 1 1) 1 [.int .i64 y.key.dir, .string y.key.name, .bool y.neg, .int .i64 y.node.id, .int .i64 y.node.kind, .int .i64 y.node.mode, .string y.node.target] rfl (rd_blk (by have e := heap_new (((wr.alloc (.cells #[.int .i64 y.key.dir, .string y.key.name] 26)).drewN nq)) (.cells #[.int .i64 y.key.dir, .string y.key.name, .bool y.neg, .int .i64 y.node.id, .int .i64 y.node.kind, .int .i64 y.node.mode, .string y.node.target] 30); rw [hz3] at e; exact e) (by unfold maxLen; omega)) rfl (En.one y) (by unfold maxLen; omega) (by omega) (by simp; omega) ?_; intro a5 c5 w5 hown5 hgrow5 hat5)
            refine ⟨⟨i + 1, a5, c5, by omega, by go_num, by rw [HTK.out, HF.out, List.length_append]; rfl, hid ?_, hid (by rw [HTK.out, HF.out, ecs_snoc, List.length_append]; exact hown5)⟩, by simp [intOf]; omega⟩
            have hb1 := (HB.out.alloc hzz (.cells #[.int .i64 y.key.dir, .string y.key.name] 26))
            have hb2 := below_drewN hb1 nq
            exact (hb2.alloc (by simp; omega) _).grown hgrow5 (by simp; omega) (fun k hk => (own_lt HO.out hk).1)
        · have hje : L1.take i = L1 := List.take_of_length_le (by omega)
          rw [hje] at HO ⊢
          clear hje
          have k2 := heap_below HB.out HK.out hp1
          have K2 := hid k2
          have hk3 := heap_set k2 0 (.slice a2 (keepE x L1).length c2)
          have hR3 : RAt (wr.setCell ⟨p, 0, none⟩ (.slice a2 (keepE x L1).length c2)) p (keepE x L1) W1 := ⟨a2, c2, aW, cW, by simpa using hk3, own_set (ownsRow_mono HO.out (by omega)) (own_ne (ownsRow_mono (B' := p + 1) HO.out (by omega)) k2 (by decide)) _ _, own_set (own_below HWd.out HB.out) (own_ne (own_below HWd.out HB.out) k2 (by decide)) _ _⟩
          have HR3 := hid hR3
          have hb := HB.out
          have hC3 : Chg (fun k => k = p) W0 (wr.setCell ⟨p, 0, none⟩ (.slice a2 (keepE x L1).length c2)) := (Chg.mono (Chg.below hb) fun _ _ h => h.elim).setCell ⟨p, 0, none⟩ _ (.inl rfl)
          have HC3 := hid hC3
          have hKR4 := KR2.out.chg (w' := wr.setCell ⟨p, 0, none⟩ (.slice a2 (keepE x L1).length c2)) (fun b hb hlt => HC3.out.block b hlt (HKP.out b (by omega) hb))
          have P4 := ks_at hKR4 (Below.refl _ _) HX.out
          clear hk3 hR3 hC3 k2 hKR4
          go_wp2_with (go_at_call 66; refine (r_part _ p _ W1 x.dir HR3.out (by omega)).mono ?_; rintro r w6 ⟨rfl, hr6, hg6⟩)
          exact ⟨⟨j + 1, by omega, by go_num, hid (by rw [HCE.out, HCW.out]; exact hr6), hid (Chg.trans (Chg.trans HC.out HC3.out (fun _ _ h => h) (fun _ _ h => h)) hg6 (fun _ _ h => h) (fun _ _ h => h))⟩, by simp [intOf]; omega⟩
    · have hje : ks.take j = ks := List.take_of_length_le (by omega)
      rw [hje] at HR
      clear hje
      go_wp2
      go_end0
      exact ⟨rfl, HR.out, HC.out⟩

end Go.Proofs.Ytmhogjecfgbchaa
