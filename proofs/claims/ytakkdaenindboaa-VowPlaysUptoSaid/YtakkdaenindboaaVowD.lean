import Derived.Test.YtakkdaenindboaaVowC
namespace Go.Proofs.Ytakkdaenindboaa
set_option linter.unusedVariables false
set_option linter.unusedSimpArgs false
open Go.RowKit
attribute [local go_sem ↓] Go.wp_at_zero Go.wp_at_succ
attribute [local go_sem] run_store_complex run_store_float

/-- a list without what stands behind its like -/
def ded (L : List Ky) : Nat → List Ky
  | 0 => []
  | j + 1 => match L[j]? with
    | none => ded L j
    | some x => if 0 < j ∧ L[j - 1]? = some x then ded L j else ded L j ++ [x]

theorem ded_keep {L : List Ky} {j : Nat} {x : Ky} (hx : L[j]? = some x) (h : j = 0 ∨ L[j - 1]? ≠ some x) : ded L (j + 1) = ded L j ++ [x] := by
  rw [ded, hx]
  simp only
  rw [if_neg]
  rintro ⟨h1, h2⟩
  rcases h with h | h
  · omega
  · exact h h2
theorem ded_drop {L : List Ky} {j : Nat} {x : Ky} (hx : L[j]? = some x) (h : 0 < j) (h2 : L[j - 1]? = some x) : ded L (j + 1) = ded L j := by
  rw [ded, hx]
  simp only
  rw [if_pos ⟨h, h2⟩]

theorem ded_len (L : List Ky) : ∀ j, (ded L j).length ≤ j
  | 0 => by simp [ded]
  | j + 1 => by
    have ih := ded_len L j
    rw [ded]
    split
    · omega
    · split
      · omega
      · rw [List.length_append]; simp; omega

set_option maxHeartbeats 2000000 in
theorem compact_keys (w : World) (B : Nat) (a : Option Addr) (c : Nat) (L : List Ky) (h : w.ownsRow B 37 2 (.slice a L.length c) L.length (kyc L)) :
    Calls Try.prog 66 #[.slice a L.length c] w fun e w' => ∃ M, M = ded L L.length ∧ e = .returned (.slice a M.length c) ∧ Hid (w'.ownsRow B 37 2 (.slice a M.length c) M.length (kyc M)) ∧ Chg (fun k => a.map (·.block) = some k) w w' := by
  have hlen := (Rd.own h).len
  unfold maxLen at hlen
  by_cases h2 : L.length < 2
  · have HH := hid h
    have hd : L = ded L L.length := by
      match L, h2 with
      | [], _ => rfl
      | [x], _ => rfl
    have HD := hid hd
    clear h hd
    go_enter Try.func66, Try.ntmps66
    go_wp2
    go_ret
    exact ⟨L, HD.out, rfl, HH, Chg.refl _ _⟩
  · obtain ⟨g, rfl, hBg, hgz, hc1, hc2⟩ := own_loc h (by omega)
    unfold maxLen at hc2
    have HH := hid h
    have hnl : ¬ ((L.length : Int) < 2) := by omega
    have ht1 : ded L 1 = L.take 1 := by
      obtain ⟨x, hx⟩ : ∃ x, L[0]? = some x := ⟨_, List.getElem?_eq_getElem (by omega)⟩
      rw [ded_keep hx (.inl rfl), ded, List.take_add_one, hx]; rfl
    have HT1 := hid ht1
    clear h ht1
    go_enter Try.func66, Try.ntmps66
    go_wp2_with fail
    go_loopw [3] (fun v3 wr => ∃ m : Nat, m + 1 ≤ L.length ∧ v3 = .int .i64 ((m : Int) + 1) ∧ Hid (ded L (m + 1) = L.take (m + 1)) ∧ Hid (Dr w wr)) (fun v3 _ => L.length - (intOf v3).toNat)
    case atStart => exact ⟨0, by omega, by go_num, HT1, hid (Dr.refl _)⟩
    case round =>
      obtain ⟨m, hm, rfl, HT, HDR⟩ := hrel
      have HO := hid (own_below HH.out (HDR.out.below _))
      by_cases hlt : m + 1 < L.length
      · obtain ⟨x, hx⟩ : ∃ x, L[m + 1]? = some x := ⟨_, List.getElem?_eq_getElem hlt⟩
        obtain ⟨y, hy⟩ : ∃ y, L[m]? = some y := ⟨_, List.getElem?_eq_getElem (by omega)⟩
        have c1 := ks_at (Rd.own HO.out) (Below.refl _ _) hx
        have c2 := ks_at (Rd.own HO.out) (Below.refl _ _) hy
        simp only [Nat.zero_add] at c1 c2
        have HX := hid hx
        have HY := hid hy
        have hm0 : (0 : Int) ≤ (m : Int) := by omega
        have hm1 : (0 : Int) ≤ (m : Int) + 1 := by omega
        have hm2 : (m : Int) + 1 < (L.length : Int) := by omega
        have hm3 : (m : Int) < (L.length : Int) := by omega
        have hm4 : ((m : Int) + 1).toNat = m + 1 := by omega
        have hm5 : (L.length : Int) ≤ (c : Int) := by omega
        have hm6 : (m : Int) + 1 ≤ (c : Int) := by omega
        have hm7 : (m : Int) + 1 ≤ (L.length : Int) := by omega
        have hm8 : ¬ c = m + 1 := by omega
        have heq := fun W => eqIn_key x.dir y.dir x.name y.name W
        clear hx hy
        by_cases he : x = y
        · subst he
          simp only [decide_true] at heq
          have HK := hid (ded_drop (L := L) (j := m + 1) HX.out (by omega) HY.out)
          go_wp2_with fail
          go_quiet (fail)
          have HO1 := hid (own_drewN HO.out nq)
          have HDR1 := hid (HDR.out.drewN nq)
          obtain ⟨W1, hW1⟩ : ∃ W1, W1 = wr.drewN nq := ⟨_, rfl⟩
          rw [← hW1] at HO1 HDR1 ⊢
          have CH1 := hid (show Chg (fun k => k = g) w W1 from Chg.mono (Chg.below (HDR1.out.below w.heap.size)) (fun _ _ h => h.elim))
          have HT0 := hid (show L.take (m + 1) = ded L (m + 2) by rw [HK.out, HT.out])
          have hlt0 := ded_len L (m + 2)
          clear hW1 heq c1 c2
          go_wp2_with fail
          go_loopw [3, 5] (fun v3 v5 wi => ∃ (i q : Nat) (X : List Ky), m + 2 + i ≤ L.length ∧ q + 1 ≤ m + 2 + i ∧ v5 = .int .i64 ((i : Int) + 1) ∧ v3 = .int .i64 q ∧ Hid (q = (ded L (m + 2 + i)).length) ∧ Hid (X.length = L.length) ∧ Hid (X.take q = ded L (m + 2 + i)) ∧ Hid (X.drop (m + 1 + i) = L.drop (m + 1 + i)) ∧
            Hid (wi.ownsRow B 37 2 (.slice (some ⟨g, 0, none⟩) L.length c) L.length (kyc X)) ∧ Hid (Chg (fun k => k = g) w wi)) (fun _ v5 _ => L.length - (intOf v5).toNat)
          case atStart => exact ⟨0, m + 1, L, by omega, by omega, by go_num, by go_num, hid (by rw [Nat.add_zero, ← HT0.out, List.length_take]; omega), hid rfl, hid HT0.out, hid rfl, HO1, CH1⟩
          case round =>
            obtain ⟨i, q, X, hi, hqi, rfl, rfl, HQ, HXL, HTK, HDR2, HOI, HCH⟩ := hrel
            have hq0 : (0 : Int) ≤ (q : Int) := by omega
            have hq1 : (q : Int) < (L.length : Int) := by omega
            have hq2 : (q : Int) ≤ (L.length : Int) := by omega
            have hq3 : (q : Int) ≤ (c : Int) := by omega
            have hcq : ¬ c = q := by omega
            have hlq : (((L.length - (m + 1) : Nat)) : Int) = (L.length : Int) - ((m : Int) + 1) := by omega
            have HLQ := hid hlq
            by_cases hlt2 : m + 2 + i < L.length
            · obtain ⟨x2, hx2⟩ : ∃ x, L[m + 2 + i]? = some x := ⟨_, List.getElem?_eq_getElem hlt2⟩
              obtain ⟨y2, hy2⟩ : ∃ y, L[m + 1 + i]? = some y := ⟨_, List.getElem?_eq_getElem (by omega)⟩
              have hxX : X[m + 2 + i]? = some x2 := by
                have h1 : (X.drop (m + 1 + i))[1]? = (L.drop (m + 1 + i))[1]? := by rw [HDR2.out]
                rw [List.getElem?_drop, List.getElem?_drop, show m + 1 + i + 1 = m + 2 + i from by omega] at h1
                rw [h1, hx2]
              have hyX : X[m + 1 + i]? = some y2 := by
                have h1 : (X.drop (m + 1 + i))[0]? = (L.drop (m + 1 + i))[0]? := by rw [HDR2.out]
                rw [List.getElem?_drop, List.getElem?_drop, Nat.add_zero] at h1
                rw [h1, hy2]
              have c1 := ks_at (Rd.own HOI.out) (Below.refl _ _) hxX
              have c2 := ks_at (Rd.own HOI.out) (Below.refl _ _) hyX
              simp only [Nat.zero_add] at c1 c2
              rw [show (m + 2 + i) * 2 = (m + 1) * 2 + (i + 1) * 2 from by omega] at c1
              rw [show (m + 1 + i) * 2 = (m + 1) * 2 + i * 2 from by omega] at c2
              have HX2 := hid hx2
              have HY2 := hid hy2
              have hi0 : (0 : Int) ≤ (i : Int) := by omega
              have hi1 : (0 : Int) ≤ (i : Int) + 1 := by omega
              have hi4 : ((i : Int) + 1).toNat = i + 1 := by omega
              have hi5 : (i : Int) + 1 < ((L.length - (m + 1) : Nat) : Int) := by omega
              have hi6 : (i : Int) < ((L.length - (m + 1) : Nat) : Int) := by omega
              have heq := fun W => eqIn_key x2.dir y2.dir x2.name y2.name W
              clear hx2 hy2 hxX hyX hlq
              by_cases he : x2 = y2
              · subst he
                simp only [decide_true] at heq
                have HK2 := hid (ded_drop (L := L) (j := m + 2 + i) HX2.out (by omega) (by rw [show m + 2 + i - 1 = m + 1 + i from by omega]; exact HY2.out))
                go_wp2_with fail
                go_quiet (fail)
                go_wp2
                refine ⟨⟨i + 1, q, X, by omega, by omega, by go_num, rfl, hid ?_, HXL, hid ?_, hid ?_, hid (own_drewN HOI.out _), hid (HCH.out.drewN _)⟩, by simp [intOf]; omega⟩
                · rw [show m + 2 + (i + 1) = m + 2 + i + 1 from by omega, HK2.out]; exact HQ.out
                · rw [show m + 2 + (i + 1) = m + 2 + i + 1 from by omega, HK2.out]; exact HTK.out
                · rw [show m + 1 + (i + 1) = m + 1 + i + 1 from by omega, ← List.drop_drop, HDR2.out, List.drop_drop]
              · have he' : ¬ ((⟨x2.dir, x2.name⟩ : Ky) = ⟨y2.dir, y2.name⟩) := he
                simp only [decide_eq_false he'] at heq
                have HK2 := hid (ded_keep (L := L) (j := m + 2 + i) HX2.out (.inr (by rw [show m + 2 + i - 1 = m + 1 + i from by omega, HY2.out]; intro h; exact he (Option.some.inj h).symm)))
                clear he he'
                go_wp2_with fail
                go_quiet (fail)
                obtain ⟨cur, hcur⟩ := own_type (own_drewN HOI.out nq) rfl
                have hfz := fun i => blk_free hcur i
                have hcs := fun (i : Nat) (hi : i < L.length * 2) => (Rd.own HOI.out).at i _ (List.getElem?_eq_getElem (show i < (kyc X).length by rw [kyc_len, HXL.out]; exact hi))
                have e0 := hcs (q * 2) (by omega)
                have e1 := hcs (q * 2 + 1) (by omega)
                simp only [Nat.zero_add] at e0 e1
                have HNQ := hid (own_drewN HOI.out nq)
                have HCQ := hid (HCH.out.drewN nq)
                clear hcur hcs
                go_wp2
                have o3 := own_setc (own_setc HNQ.out (q * 2) (.int .i64 x2.dir)) (q * 2 + 1) (.string x2.name)
                rw [ky_set X q x2 (by have := HXL.out; omega)] at o3
                refine ⟨⟨i + 1, q + 1, X.set q x2, by omega, by omega, by go_num, by go_num, hid ?_, hid (by rw [List.length_set]; exact HXL.out), hid ?_, hid ?_, hid o3, hid ((HCQ.out.setCell _ _ (.inl rfl)).setCell _ _ (.inl rfl))⟩, by simp [intOf]; omega⟩
                · rw [show m + 2 + (i + 1) = m + 2 + i + 1 from by omega, HK2.out, List.length_append, ← HQ.out]; rfl
                · rw [show m + 2 + (i + 1) = m + 2 + i + 1 from by omega, HK2.out, take_set_snoc (by have := HXL.out; omega), HTK.out]
                · rw [drop_set_lt (by omega), show m + 1 + (i + 1) = m + 1 + i + 1 from by omega, ← List.drop_drop, HDR2.out, List.drop_drop]
            · have hjL : m + 2 + i = L.length := by omega
              have HF := hid (show X.take q = ded L L.length by rw [HTK.out, hjL])
              have hi7 : ¬ ((i : Int) + 1 < ((L.length - (m + 1) : Nat) : Int)) := by omega
              clear hlq
              go_wp2_with (refine wpList_clear_own rfl (.tmp 56) 28 rfl 37 _ 2 Try.underlying28 Try.zeroValue37 rfl (by decide) B g L.length c q (kyc X) HOI.out (by omega) _ _ _ rfl rfl (fun _ => rfl) ?_; intro w5 HO5 HCH5)
              go_ret
              have hMl : (ded L L.length).length = q := by rw [← HF.out, List.length_take]; have := HXL.out; omega
              refine ⟨by rw [hMl]; rfl, hid ?_, ?_⟩
              · rw [hMl, ← HF.out]
                have h5 := HO5.out
                rw [show (kyc X).take (q * 2) = kyc (X.take q) from flat_take Ky.cells 2 (fun _ => rfl) _ _] at h5
                exact h5
              · have h6 := HCH.out.trans HCH5 (H := fun k => k = g) (fun _ _ h => h) (fun _ _ h => h)
                exact h6.mono (fun i _ hi => by subst hi; rfl)
        · have he' : ¬ ((⟨x.dir, x.name⟩ : Ky) = ⟨y.dir, y.name⟩) := he
          simp only [decide_eq_false he'] at heq
          have HK := hid (ded_keep (L := L) (j := m + 1) HX.out (.inr (by rw [show m + 1 - 1 = m from rfl, HY.out]; intro h; exact he (Option.some.inj h).symm)))
          clear he he'
          go_wp2_with fail
          go_quiet (fail)
          go_wp2
          exact ⟨⟨m + 1, by omega, by go_num, hid (by rw [HK.out, HT.out, List.take_add_one (i := m + 1), HX.out]; rfl), hid (HDR.out.drewN _)⟩, by simp [intOf]; omega⟩
      · have hmL : m + 1 = L.length := by omega
        have HF := hid (show L = ded L L.length by rw [← hmL, HT.out, List.take_of_length_le (by omega)])
        go_wp2
        go_ret
        exact ⟨L, HF.out, rfl, HO, Chg.mono (Chg.below (HDR.out.below _)) (fun _ _ h => h.elim)⟩

/-! ### sorted, each once -/
theorem ded_mem_le (L : List Ky) : ∀ j, ∀ x ∈ ded L j, x ∈ L.take j
  | 0, x, h => by simp [ded] at h
  | j + 1, x, h => by
    cases hj : L[j]? with
    | none =>
      rw [ded, hj] at h
      have := ded_mem_le L j x h
      exact List.take_subset_take_left _ (Nat.le_succ _) this
    | some y =>
      by_cases hc : 0 < j ∧ L[j - 1]? = some y
      · rw [ded_drop hj hc.1 hc.2] at h
        exact List.take_subset_take_left _ (Nat.le_succ _) (ded_mem_le L j x h)
      · rw [ded_keep hj (by by_cases h0 : j = 0; exact .inl h0; exact .inr (fun h2 => hc ⟨by omega, h2⟩))] at h
        rcases List.mem_append.1 h with h | h
        · exact List.take_subset_take_left _ (Nat.le_succ _) (ded_mem_le L j x h)
        · rw [List.mem_singleton.1 h, List.take_add_one, hj]; simp

theorem ded_last (L : List Ky) : ∀ j, 0 < j → j ≤ L.length → ∃ z, L[j - 1]? = some z ∧ ∃ P, ded L j = P ++ [z]
  | 0, h, _ => by omega
  | j + 1, _, hl => by
    obtain ⟨x, hx⟩ : ∃ x, L[j]? = some x := ⟨_, List.getElem?_eq_getElem (by omega)⟩
    by_cases hc : 0 < j ∧ L[j - 1]? = some x
    · rw [ded_drop hx hc.1 hc.2]
      obtain ⟨z, hz, P, hP⟩ := ded_last L j hc.1 (by omega)
      rw [hc.2] at hz
      exact ⟨x, hx, P, by rw [hP, ← Option.some.inj hz]⟩
    · rw [ded_keep hx (by by_cases h0 : j = 0; exact .inl h0; exact .inr (fun h2 => hc ⟨by omega, h2⟩))]
      exact ⟨x, hx, _, rfl⟩

theorem ded_mem_ge (L : List Ky) : ∀ j, j ≤ L.length → ∀ x ∈ L.take j, x ∈ ded L j
  | 0, _, x, h => by simp at h
  | j + 1, hl, x, h => by
    obtain ⟨y, hy⟩ : ∃ y, L[j]? = some y := ⟨_, List.getElem?_eq_getElem (by omega)⟩
    rw [List.take_add_one, hy] at h
    have ih := ded_mem_ge L j (by omega)
    by_cases hc : 0 < j ∧ L[j - 1]? = some y
    · rw [ded_drop hy hc.1 hc.2]
      rcases List.mem_append.1 h with h | h
      · exact ih x h
      · simp at h; subst h
        obtain ⟨z, hz, P, hP⟩ := ded_last L j hc.1 (by omega)
        rw [hc.2] at hz
        rw [hP, ← Option.some.inj hz]; simp
    · rw [ded_keep hy (by by_cases h0 : j = 0; exact .inl h0; exact .inr (fun h2 => hc ⟨by omega, h2⟩))]
      rcases List.mem_append.1 h with h | h
      · exact List.mem_append_left _ (ih x h)
      · simp at h; subst h; simp

theorem ded_sorted (L : List Ky) (hs : L.Pairwise (fun x y => lessK y x = false)) : ∀ j, j ≤ L.length → (ded L j).Pairwise (fun x y => lessK x y = true)
  | 0, _ => by simp [ded]
  | j + 1, hl => by
    have ih := ded_sorted L hs j (by omega)
    obtain ⟨y, hy⟩ : ∃ y, L[j]? = some y := ⟨_, List.getElem?_eq_getElem (by omega)⟩
    by_cases hc : 0 < j ∧ L[j - 1]? = some y
    · rw [ded_drop hy hc.1 hc.2]; exact ih
    · rw [ded_keep hy (by by_cases h0 : j = 0; exact .inl h0; exact .inr (fun h2 => hc ⟨by omega, h2⟩))]
      rw [List.pairwise_append]
      refine ⟨ih, by simp, fun x hx z hz => ?_⟩
      rw [List.mem_singleton.1 hz]
      have hj0 : 0 < j := by
        rcases Nat.eq_zero_or_pos j with h | h
        · subst h; simp [ded] at hx
        · exact h
      obtain ⟨u, hu, P, hP⟩ := ded_last L j hj0 (by omega)
      have hlt : ∀ a b : Nat, a < b → ∀ p q, L[a]? = some p → L[b]? = some q → lessK q p = false := by
        intro a b hab p q hp hq
        obtain ⟨ha, rfl⟩ := List.getElem?_eq_some_iff.1 hp
        obtain ⟨hb, rfl⟩ := List.getElem?_eq_some_iff.1 hq
        exact List.pairwise_iff_getElem.1 hs a b ha hb hab
      have huy : lessK u y = true := by
        have h1 := hlt (j - 1) j (by omega) u y hu hy
        cases h2 : lessK u y with
        | true => rfl
        | false => exact absurd ⟨hj0, by rw [hu, lessK_total h2 h1]⟩ hc
      rw [hP] at hx ih
      rcases List.mem_append.1 hx with hx | hx
      · exact lessK_trans ((List.pairwise_append.1 ih).2.2 x hx u (by simp)) huy
      · rw [List.mem_singleton.1 hx]; exact huy

/-- the keys of a list, rising, each once -/
def IsSort (M ks : List Ky) : Prop := M.Pairwise (fun x y => lessK x y = true) ∧ ∀ x, x ∈ M ↔ x ∈ ks

theorem isSort_uniq {ks : List Ky} : ∀ {M N : List Ky}, IsSort M ks → IsSort N ks → M = N := by
  intro M N h1 h2
  have hn : ∀ {M : List Ky}, M.Pairwise (fun x y => lessK x y = true) → M.Nodup := fun h => h.imp (fun {x y} hxy e => by subst e; rw [lessK_irrefl] at hxy; cases hxy)
  have hp : M.Perm N := (List.perm_ext_iff_of_nodup (hn h1.1) (hn h2.1)).2 fun x => (h1.2 x).trans (h2.2 x).symm
  exact uniq_sorted (r := fun x y => lessK x y = true) hp h2.1 (h1.1.imp fun {x y} hxy hyx => by rw [lessK_asymm hxy] at hyx; cases hyx)

def insK (x : Ky) : List Ky → List Ky
  | [] => [x]
  | y :: l => if lessK x y then x :: y :: l else if lessK y x then y :: insK x l else y :: l
def sortK : List Ky → List Ky
  | [] => []
  | x :: l => insK x (sortK l)

theorem insK_mem (x y : Ky) : ∀ l, y ∈ insK x l ↔ y = x ∨ y ∈ l
  | [] => by simp [insK]
  | z :: l => by
    have ih := insK_mem x y l
    rw [insK]
    split
    · simp
    · split
      · simp only [List.mem_cons, ih]
        constructor
        · rintro (h | h | h)
          · exact .inr (.inl h)
          · exact .inl h
          · exact .inr (.inr h)
        · rintro (h | h | h)
          · exact .inr (.inl h)
          · exact .inl h
          · exact .inr (.inr h)
      · rename_i h1 h2
        have e : x = z := lessK_total (by simpa using h1) (by simpa using h2)
        subst e; simp
theorem insK_sorted (x : Ky) : ∀ l, l.Pairwise (fun x y => lessK x y = true) → (insK x l).Pairwise (fun x y => lessK x y = true)
  | [], _ => by simp [insK]
  | z :: l, h => by
    rw [insK]
    rw [List.pairwise_cons] at h
    split
    · rename_i h1
      rw [List.pairwise_cons]
      refine ⟨fun y hy => ?_, by rw [List.pairwise_cons]; exact h⟩
      rcases List.mem_cons.1 hy with rfl | hy
      · exact h1
      · exact lessK_trans h1 (h.1 y hy)
    · split
      · rename_i h1 h2
        rw [List.pairwise_cons]
        refine ⟨fun y hy => ?_, insK_sorted x l h.2⟩
        rcases (insK_mem x y l).1 hy with rfl | hy
        · exact h2
        · exact h.1 y hy
      · rw [List.pairwise_cons]; exact h
theorem sortK_is : ∀ ks : List Ky, IsSort (sortK ks) ks
  | [] => ⟨by simp [sortK], by simp [sortK]⟩
  | x :: l => ⟨insK_sorted x _ (sortK_is l).1, fun y => by rw [sortK, insK_mem, (sortK_is l).2, List.mem_cons]⟩

theorem sort_ded {L M : List Ky} (hp : M.Perm L) (hs : M.Pairwise (fun x y => lessK y x = false)) : ded M M.length = sortK L :=
  isSort_uniq (ks := L) ⟨ded_sorted M hs _ (Nat.le_refl _), fun x => by
    refine Iff.trans ⟨fun h => ?_, fun h => ded_mem_ge M M.length (Nat.le_refl _) x (by rw [List.take_length]; exact h)⟩ hp.mem_iff
    have := ded_mem_le M M.length x h
    rwa [List.take_length] at this⟩ (sortK_is L)

theorem sortK_len (L : List Ky) : (sortK L).length ≤ L.length := by
  have h : ∀ x l, (insK x l).length ≤ l.length + 1 := by
    intro x l
    induction l with
    | nil => simp [insK]
    | cons y l ih =>
      rw [insK]; split
      · simp
      · split <;> simp <;> omega
  induction L with
  | nil => simp [sortK]
  | cons x L ih => rw [sortK]; have := h x (sortK L); simp; omega

end Go.Proofs.Ytakkdaenindboaa
