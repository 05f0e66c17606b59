import Derived.Test.YtakkdaenindboaaVowK
namespace Go.Proofs.Ytakkdaenindboaa
set_option linter.unusedVariables false
set_option linter.unusedSimpArgs false
open Go.RowKit
attribute [local go_sem ↓] Go.wp_at_zero Go.wp_at_succ
attribute [local go_sem] run_store_complex run_store_float

/-- is a touched key told? -/
def tellB (ks : List Ky) (k : Ky) : Bool := decide (k ∈ ks) || decide ((⟨k.dir, ByteArray.empty⟩ : Ky) ∈ ks)
def relAll (ks told : List Ky) : List Ky := told.foldl relL ks
/-- what a touch comes to -/
def touchT (t : Ts) (keys : List Ky) (ver : Int) : Ts × List Bp :=
  if keys.filter (tellB t.ks) = [] then (t, [])
  else brkT { t with ks := relAll t.ks (keys.filter (tellB t.ks)) } (keys.filter (tellB t.ks)) ver

theorem relAll_snoc (ks told : List Ky) (k : Ky) : relAll ks (told ++ [k]) = relL (relAll ks told) k := by simp [relAll]
theorem relAll_len (ks : List Ky) : ∀ told, (relAll ks told).length ≤ ks.length := by
  intro told
  induction told generalizing ks with
  | nil => exact Nat.le_refl _
  | cons k told ih => exact Nat.le_trans (ih (relL ks k)) (List.length_filter_le _ _)

theorem v_release (w : World) (F : Nat → Prop) (p : Nat) (t : Ts) (kd : Int) (kn : ByteArray) (h : VAt w F p t) :
    Calls Try.prog 36 #[.pointer (some ⟨p, 0, none⟩), .agg #[.int .i64 kd, .string kn]] w fun e w' => e = .returned (.tuple #[]) ∧ VAt w' F p { t with ks := relL t.ks ⟨kd, kn⟩ } ∧ Chg F w w' := by
  obtain ⟨s, h, rfl⟩ := h
  refine (t_release w F p s kd kn h.toTMem).mono ?_
  rintro e w' ⟨he, hm, hc⟩
  have o := h.ok
  have h9 : (s.ks.length : Int) ≤ s.P := o.hk
  have h8 : (relL s.ks ⟨kd, kn⟩).length ≤ s.ks.length := List.length_filter_le _ _
  exact ⟨he, ⟨_, ⟨hm, ⟨o.he, o.hn, o.hP, o.hQ, by show ((relL s.ks ⟨kd, kn⟩).length : Int) ≤ s.P; omega, o.hq, o.each⟩⟩, rfl⟩, hc⟩

theorem v_broken (w : World) (F : Nat → Prop) (p : Nat) (t : Ts) (v : Value) (keys : List Ky) (ver : Int) (h : VAt w F p t) (hv : w.ownsRow 0 37 2 v keys.length (kyc keys)) (hl : keys.length * 24 ≤ 140737488355328) :
    Calls Try.prog 37 #[.pointer (some ⟨p, 0, none⟩), v, .int .i64 ver] w (BrkPost w F p (brkT t keys ver)) := by
  obtain ⟨s, h, rfl⟩ := h
  exact t_broken w F p s v keys ver h hv hl

set_option maxRecDepth 100000 in
set_option maxHeartbeats 2000000 in
theorem t_touch (w : World) (F : Nat → Prop) (p : Nat) (t : Ts) (v : Value) (keys : List Ky) (ver : Int) (h : VAt w F p t) (hv : Rd w v keys.length (kyc keys)) (hl : keys.length * 24 ≤ 140737488355328) :
    Calls Try.prog 14 #[.pointer (some ⟨p, 0, none⟩), v, .int .i64 ver] w (BrkPost w F p (touchT t keys ver)) := by
  obtain ⟨a, c, rfl, _, hcm⟩ := hv.shape
  obtain ⟨i1, hi1, hy0, hy1, hy2⟩ := info_parts infoKy
  have HI := hid hi1
  have HH := hid h
  have HV := hid hv
  obtain ⟨T, hT⟩ : ∃ T, T = keys.filter (tellB t.ks) := ⟨_, rfl⟩
  have HTD := hid hT
  have hTl : T.length ≤ keys.length := by rw [hT]; exact List.length_filter_le _ _
  clear h hv hi1 hT
  go_enter Try.func14, Try.ntmps14
  go_wp2_with fail
  go_loopw [7, 14] (fun v7 v14 wr => ∃ (k : Nat) (M : List Ky) (a1 : Option Addr) (c1 : Nat), k ≤ keys.length ∧ v14 = .int .i64 k ∧ v7 = .slice a1 M.length c1 ∧ Hid (M = (keys.take k).filter (tellB t.ks)) ∧ M.length ≤ k ∧ Hid (wr.ownsRow w.heap.size 37 2 (.slice a1 M.length c1) M.length (kyc M)) ∧ Hid (Below w.heap.size w wr)) (fun _ v14 _ => keys.length - (intOf v14).toNat)
  case atStart => exact ⟨0, [], none, 0, Nat.zero_le _, rfl, rfl, hid rfl, by simp, hid (World.ownsRow_nil _ _ _ _), hid (Below.refl _ _)⟩
  case round =>
    obtain ⟨k, M, a1, c1, hk, rfl, rfl, HM, hMk, HO, HB⟩ := hrel
    have hsz := HB.out.size
    by_cases hlt : k < keys.length
    · obtain ⟨b, off, rfl⟩ := ks_loc HV.out (by omega)
      obtain ⟨x, hx⟩ : ∃ x, keys[k]? = some x := ⟨_, List.getElem?_eq_getElem hlt⟩
      have c1' := ks_at HV.out HB.out hx
      have hbx := heap_new wr (.cells #[.int .i64 x.dir, .string x.name] 37)
      have bx := blk2 hbx
      have HBX := hid hbx
      have HX := hid hx
      have HTr := hid ((HH.out.below ((Below.refl w.heap.size w).trans HB.out)).below (bl1 wr (.cells #[.int .i64 x.dir, .string x.name] 37)))
      have hk0 : (0 : Int) ≤ (k : Int) := by omega
      have hk1 : (k : Int) < (keys.length : Int) := by omega
      clear hx hbx
      cases ht1 : decide (x ∈ t.ks) with
      | true =>
        have H1 := hid ht1
        have HN := hid (filter_snoc_yes (p := tellB t.ks) HX.out (by simp only [tellB, ht1, Bool.true_or]))
        clear ht1
        go_wp2_with (first
          | (go_at_call 19; refine (v_holds _ F p t x.dir x.name HTr.out).mono ?_; rintro e w1 ⟨rfl, hb1⟩; rw [show decide ((⟨x.dir, x.name⟩ : Ky) ∈ t.ks) = true from H1.out]; (have bx1 := blk2 (heap_below hb1 HBX.out (by simp))))
          | (at_builtin; refine wpList_append_rd rfl _ _ 28 rfl w.heap.size 37 i1 _ 2 24 Try.underlying28 HI.out hy0 hy1 hy2 rfl (by decide) (.slice a1 M.length c1) M.length (kyc M) rfl (own_alloc (own_below (own_alloc HO.out _) hb1) _) (.slice (some ⟨w1.heap.size, 0, none⟩) 1 1) 1 [.int .i64 x.dir, .string x.name] rfl (rd_blk (heap_new w1 _) (by unfold maxLen; omega)) rfl (by intro u hu; simp at hu; rcases hu with rfl | rfl <;> rfl) (by unfold maxLen; omega) (by omega) (by have := hb1.size; simp at this ⊢; omega) ?_; intro a2 c2 w2 hown2 hgrow2 hat2))
        have hbb : Below w.heap.size w w1 := (HB.out.alloc hsz _).trans (hb1.mono (by simp; omega))
        have hs1 := hbb.size
        refine ⟨⟨k + 1, M ++ [x], a2, c2, by omega, by go_num, by rw [List.length_append]; rfl, hid (by rw [HN.out, ← HM.out]), by rw [List.length_append]; simp; omega, hid (by rw [List.length_append, kyc_snoc]; exact hown2), hid ?_⟩, by simp [intOf]; omega⟩
        exact (hbb.alloc hs1 _).grown hgrow2 (by simp; omega) fun k hk => (own_lt HO.out hk).1
      | false =>
        have H1 := hid ht1
        cases ht2 : decide ((⟨x.dir, ByteArray.empty⟩ : Ky) ∈ t.ks) with
        | true =>
          have H2 := hid ht2
          have HN := hid (filter_snoc_yes (p := tellB t.ks) HX.out (by simp only [tellB, ht1, ht2, Bool.or_true]))
          clear ht1 ht2
          go_wp2_with fail
          refine (v_holds _ F p t x.dir x.name HTr.out).mono ?_; rintro e w1 ⟨rfl, hb1⟩; rw [show decide ((⟨x.dir, x.name⟩ : Ky) ∈ t.ks) = false from H1.out]
          have hkx1 := heap_below hb1 HBX.out (by simp)
          have bx1 := blk2 hkx1
          have HTr1 := hid (HTr.out.below hb1)
          have HBX1 := hid hkx1
          clear hkx1
          go_wp2_with fail
          refine (v_holds _ F p t x.dir _ HTr1.out).mono ?_; rintro e w2 ⟨rfl, hb2⟩; rw [show decide ((⟨x.dir, { data := #[] }⟩ : Ky) ∈ t.ks) = true from H2.out]
          have hkx2 := heap_below hb2 HBX1.out (blk_lt HBX1.out)
          have bx2 := blk2 hkx2
          have HB2 := hid (show Below w.heap.size w w2 from ((HB.out.alloc hsz _).trans (hb1.mono (by simp; omega))).trans (hb2.mono (by have := hb1.size; simp at this; omega)))
          have HO2 := hid (own_below (own_below (own_alloc HO.out (.cells #[.int .i64 x.dir, .string x.name] 37)) hb1) hb2)
          have hs2 := HB2.out.size
          clear hkx2 bx1 bx
          go_wp2_with (at_builtin; refine wpList_append_rd rfl _ _ 28 rfl w.heap.size 37 i1 _ 2 24 Try.underlying28 HI.out hy0 hy1 hy2 rfl (by decide) (.slice a1 M.length c1) M.length (kyc M) rfl (own_alloc HO2.out _) (.slice (some ⟨w2.heap.size, 0, none⟩) 1 1) 1 [.int .i64 x.dir, .string x.name] rfl (rd_blk (heap_new w2 _) (by unfold maxLen; omega)) rfl (by intro u hu; simp at hu; rcases hu with rfl | rfl <;> rfl) (by unfold maxLen; omega) (by omega) (by simp; omega) ?_; intro a2 c2 w3 hown2 hgrow2 hat2)
          refine ⟨⟨k + 1, M ++ [x], a2, c2, by omega, by go_num, by rw [List.length_append]; rfl, hid (by rw [HN.out, ← HM.out]), by rw [List.length_append]; simp; omega, hid (by rw [List.length_append, kyc_snoc]; exact hown2), hid ?_⟩, by simp [intOf]; omega⟩
          exact (HB2.out.alloc hs2 _).grown hgrow2 (by simp; omega) fun k hk => (own_lt HO.out hk).1
        | false =>
          have H2 := hid ht2
          have HN := hid (filter_snoc_no (p := tellB t.ks) HX.out (by simp only [tellB, ht1, ht2, Bool.or_false]))
          clear ht1 ht2
          go_wp2_with fail
          refine (v_holds _ F p t x.dir x.name HTr.out).mono ?_; rintro e w1 ⟨rfl, hb1⟩; rw [show decide ((⟨x.dir, x.name⟩ : Ky) ∈ t.ks) = false from H1.out]
          have hkx1 := heap_below hb1 HBX.out (by simp)
          have bx1 := blk2 hkx1
          have HTr1 := hid (HTr.out.below hb1)
          clear hkx1
          go_wp2_with fail
          refine (v_holds _ F p t x.dir _ HTr1.out).mono ?_; rintro e w2 ⟨rfl, hb2⟩; rw [show decide ((⟨x.dir, { data := #[] }⟩ : Ky) ∈ t.ks) = false from H2.out]
          have HB2 := hid (show Below w.heap.size w w2 from ((HB.out.alloc hsz _).trans (hb1.mono (by simp; omega))).trans (hb2.mono (by have := hb1.size; simp at this; omega)))
          have HO2 := hid (own_below (own_below (own_alloc HO.out (.cells #[.int .i64 x.dir, .string x.name] 37)) hb1) hb2)
          clear bx1 bx
          go_wp2
          exact ⟨⟨k + 1, M, a1, c1, by omega, by go_num, rfl, hid (by rw [HN.out, ← HM.out]), by omega, HO2, HB2⟩, by simp [intOf]; omega⟩
    · have hkL : k = keys.length := by omega
      have HMT := hid (show M = T by rw [HM.out, HTD.out, List.take_of_length_le (by omega)])
      have HV2 := hid (HH.out.below ((Below.refl w.heap.size w).trans HB.out))
      subst hkL
      obtain rfl := HMT.out
      clear HM HMT hMk hk
      by_cases hT0 : M = []
      · have hM0 := hT0
        subst hM0
        have HPL := hid (show touchT t keys ver = (t, []) by unfold touchT; rw [if_pos HTD.out.symm])
        go_wp2
        go_ret
        rw [HPL.out]
        exact ⟨F, none, 0, [], rfl, HV2.out, rfl, fun k hk => .inl hk, Chg.mono (Chg.below HB.out) (fun _ _ h => h.elim), ⟨World.ownsRow_nil _ _ _ _, by simp⟩, by simp [BrsOut]⟩
      · have HPL := hid (show touchT t keys ver = brkT { t with ks := relAll t.ks M } M ver by unfold touchT; rw [if_neg (by rw [← HTD.out]; exact hT0), ← HTD.out])
        have hpos : 0 < M.length := List.length_pos_iff.2 hT0
        have hne0 : ((M.length : Int) == 0) = false := by rw [beq_eq_false_iff_ne]; omega
        have hne0' : (M.length == 0) = false := by rw [beq_eq_false_iff_ne]; omega
        obtain ⟨g, hag, hBg, hgz, hg1, hg2⟩ := own_loc HO.out hpos
        subst hag
        obtain ⟨wo, hwo⟩ : ∃ wo, wo = wr := ⟨_, rfl⟩
        subst hwo
        have hFg : ¬ F g := fun hf => by have := HH.out.lt g hf; omega
        have HFG := hid hFg
        have hML : M.length ≤ 9223372036854775807 := by omega
        clear hT0 hFg
        go_wp2_with fail
        go_loopw [38] (fun v38 wi => ∃ (i : Nat), i ≤ M.length ∧ v38 = .int .i64 i ∧ Hid (VAt wi F p { t with ks := relAll t.ks (M.take i) }) ∧ Hid (Chg F wo wi)) (fun v38 _ => M.length - (intOf v38).toNat)
        case atStart => exact ⟨0, Nat.zero_le _, rfl, HV2, hid (Chg.refl _ _)⟩
        case round =>
          obtain ⟨i, hi, rfl, HVI, HCI⟩ := hrel
          have HOI := hid (ownsRow_chg HO.out fun k hk hl => HCI.out.block k hl (by
            have e : g = k := by simpa [Value.ownBlock] using hk
            subst e; exact HFG.out))
          by_cases hlt2 : i < M.length
          · obtain ⟨x, hx⟩ : ∃ x, M[i]? = some x := ⟨_, List.getElem?_eq_getElem hlt2⟩
            have c1' := keys_at (Rd.own HOI.out) hx
            have bx := blk2 (heap_new wr (.cells #[.int .i64 x.dir, .string x.name] 37))
            have HX := hid hx
            have HVI2 := hid (HVI.out.below (bl1 wr (.cells #[.int .i64 x.dir, .string x.name] 37)))
            have hi0 : (0 : Int) ≤ (i : Int) := by omega
            have hi1 : (i : Int) < (M.length : Int) := by omega
            clear hx
            go_wp2_with (go_at_call 36; refine (v_release _ F p _ x.dir x.name HVI2.out).mono ?_; rintro e w3 ⟨rfl, hv3, hch3⟩)
            have htk : M.take (i + 1) = M.take i ++ [x] := by rw [List.take_add_one, HX.out]; rfl
            refine ⟨⟨i + 1, by omega, by go_num, hid ?_, hid ((HCI.out.alloc _).trans hch3 (fun _ _ h => h) (fun _ _ h => h))⟩, by simp [intOf]; omega⟩
            rw [htk, relAll_snoc]; exact hv3
          · have hiL : i = M.length := by omega
            have HVL := hid (show VAt wr F p { t with ks := relAll t.ks M } by have := HVI.out; rwa [List.take_of_length_le (by omega)] at this)
            have HCW := hid (show Chg F w wr from (Chg.mono (Chg.below HB.out) (fun _ _ h => h.elim)).trans HCI.out (fun _ _ h => h) (fun _ _ h => h))
            have HOJ := hid (ownsRow_mono HOI.out (Nat.zero_le _))
            clear hiL
            go_wp2_with (go_at_call 37; refine (v_broken _ F p _ _ M ver HVL.out HOJ.out (by omega)).mono ?_; rintro e w9 hpost; (have HPO := hid (BrkPost.lift hpost (fun k hk => .inl hk) HCW.out)); clear hpost; obtain ⟨FF, aa, cc, RR, rfl, h1, h2, h3, h4, h5, h6⟩ := HPO.out; (have HR := hid (show BrkPost w F p (touchT t keys ver) (.returned (.slice aa RR.length cc)) w9 by rw [HPL.out]; exact ⟨FF, aa, cc, RR, rfl, h1, h2, h3, h4, h5, h6⟩)); clear h1 h2 h3 h4 h5 h6 HPO)
            go_ret
            exact HR.out

end Go.Proofs.Ytakkdaenindboaa
