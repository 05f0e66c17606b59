import Derived.Test.YtakkdaenindboaaRvC
namespace Go.Proofs.Ytakkdaenindboaa
set_option linter.unusedVariables false
set_option linter.unusedSimpArgs false
open Go.RowKit
attribute [local go_sem ↓] Go.wp_at_zero Go.wp_at_succ
attribute [local go_sem] run_store_complex run_store_float

theorem rapp_fin {w W w4 : World} {F : Nat → Prop} {p : Nat} {s : Tb} {a2 : Option Addr} {c2 : Nat} {k : Ky} {o : Obj} (h : RMem W F p s) (hw : w.heap.size ≤ W.heap.size) (hc : Chg F w W)
    (hg : (W.alloc o).grownBy w4 (Value.slice s.ka s.ks.length s.kc).ownBlock)
    (hown4 : w4.ownsRow 0 37 2 (.slice a2 (s.ks.length + 1) c2) (s.ks.length + 1) (kyc s.ks ++ [.int .i64 k.dir, .string k.name]))
    (hat : (Value.slice a2 (s.ks.length + 1) c2).ownBlock = (Value.slice s.ka s.ks.length s.kc).ownBlock ∨ (Value.slice a2 (s.ks.length + 1) c2).ownBlock = some (W.alloc o).heap.size) :
    ∃ F' : Nat → Prop, RMem (w4.setCell ⟨p, 2, none⟩ (.slice a2 (s.ks.length + 1) c2)) F' p { s with ka := a2, kc := c2, ks := s.ks ++ [k] } ∧ Fgrow w F F' ∧ Chg F w (w4.setCell ⟨p, 2, none⟩ (.slice a2 (s.ks.length + 1) c2)) := by
  have hkp : some p ≠ (Value.slice s.ka s.ks.length s.kc).ownBlock := fun e => own_ne h.row h.hp (by decide) e.symm
  have kp4 := heap_grown hg (heap_old h.hp o) hkp
  have hC : Chg (fun k => k = p ∨ s.ka.map (·.block) = some k) W (w4.setCell ⟨p, 2, none⟩ (.slice a2 (s.ks.length + 1) c2)) :=
    (Chg.grown ((Chg.refl _ W).alloc o) hg (fun k hk => .inl (.inr (by rw [← ownBlock_slice]; exact hk)))).setCell _ _ (.inl (.inl rfl))
  have hr4 := own_set hown4 (own_ne hown4 kp4 (by decide)) 2 (.slice a2 (s.ks.length + 1) c2)
  have hsz := hC.size
  have hat' : ∀ j, a2.map (·.block) = some j → s.ka.map (·.block) = some j ∨ W.heap.size ≤ j := by
    intro j hj
    rw [ownBlock_slice, ownBlock_slice] at hat
    rcases hat with hat | hat
    · exact .inl (by rw [← hat]; exact hj)
    · rw [hj] at hat; have := Option.some.inj hat; right; simp at this; omega
  refine ⟨fun k => F k ∨ a2.map (·.block) = some k, ⟨?_, .inl h.Fp, ?_, fun k hk => .inr hk, ?_, fun k hk => .inl (h.Fq k hk), ?_, fun x hx k hk => .inl (h.Fe x hx k hk), ?_, ?_⟩, ?_, ?_⟩
  · show _ = some (Obj.cells #[_, _, .slice a2 (s.ks ++ [k]).length c2, _, _] _ _)
    rw [List.length_append]; exact heap_set kp4 2 _
  · show World.ownsRow _ _ _ _ (.slice a2 (s.ks ++ [k]).length c2) (s.ks ++ [k]).length (kyc (s.ks ++ [k]))
    rw [List.length_append, kyc_snoc]; exact hr4
  · refine ownsRow_chg h.qrow fun k hk hl => hC.block k hl ?_
    rintro (rfl | h1)
    · exact own_ne h.qrow h.hp (by decide) hk
    · exact own_ne2 h.qrow h.row (by decide) k hk (by rw [ownBlock_slice]; exact h1)
  · intro x hx
    refine ownsRow_chg (h.each x hx) fun k hk hl => hC.block k hl ?_
    rintro (rfl | h1)
    · exact own_ne (h.each x hx) h.hp (by decide) hk
    · exact h.apart x hx k hk h1
  · intro x hx k hk hk2
    rcases hat' k hk2 with h1 | h1
    · exact h.apart x hx k hk h1
    · have := (own_lt (h.each x hx) hk).2; omega
  · rintro k (hk | hk)
    · exact Nat.lt_of_lt_of_le (h.Flt k hk) hC.size
    · exact (own_lt hr4 (k := k) (by rw [ownBlock_slice]; exact hk)).2
  · rintro k (hk | hk)
    · exact .inl hk
    · rcases hat' k hk with h1 | h1
      · exact .inl (h.Fk k h1)
      · exact .inr (by omega)
  · refine hc.trans hC (fun _ _ h => h) (fun i hi h1 => ?_)
    rcases h1 with rfl | h1
    · exact h.Fp
    · exact h.Fk i h1

theorem fg_trans {w w1 : World} {F F1 F2 : Nat → Prop} (h1 : Fgrow w F F1) (c1 : Chg F w w1) (h2 : Fgrow w1 F1 F2) : Fgrow w F F2 := fun k hk => by
  rcases h2 k hk with h | h
  · exact h1 k h
  · have := c1.size; exact .inr (by omega)
theorem ch_trans {w w1 w2 : World} {F F1 : Nat → Prop} (h1 : Fgrow w F F1) (c1 : Chg F w w1) (c2 : Chg F1 w1 w2) : Chg F w w2 :=
  c1.trans c2 (fun _ _ h => h) (fun i hi h => by
    rcases h1 i h with h | h
    · exact h
    · omega)
theorem fg_refl (w : World) (F : Nat → Prop) : Fgrow w F F := fun k h => .inl h
theorem fg_low {w w' : World} {F F' : Nat → Prop} (h : Fgrow w' F F') (hs : w.heap.size ≤ w'.heap.size) : Fgrow w F F' := fun k hk => (h k hk).imp id fun h => by omega

/-- the document's table, its bounds aside -/
def XM (w : World) (F : Nat → Prop) (p : Nat) (t : Ts) : Prop := ∃ s, RMem w F p s ∧ s.pl = t
theorem XAt.m {w : World} {F : Nat → Prop} {p : Nat} {t : Ts} (h : XAt w F p t) : XM w F p t := by obtain ⟨s, h1, h2⟩ := h; exact ⟨s, h1.toRMem, h2⟩
theorem XM.at_ {w : World} {F : Nat → Prop} {p : Nat} {t : Ts} (h : XM w F p t) (ho : TOk t) : XAt w F p t := by obtain ⟨s, h1, rfl⟩ := h; exact ⟨s, ⟨h1, ho⟩, rfl⟩
theorem XM.below {w w' : World} {F : Nat → Prop} {p : Nat} {t : Ts} (h : XM w F p t) (hb : Below w.heap.size w w') : XM w' F p t := by obtain ⟨s, h1, h2⟩ := h; exact ⟨s, h1.below hb, h2⟩
theorem TOk.fewer {t : Ts} {L : List Ky} (h : TOk t) (hL : L.length ≤ t.ks.length) : TOk { t with ks := L } :=
  ⟨h.he, h.hn, h.hP, h.hQ, by have := h.hk; show (L.length : Int) ≤ t.P; omega, h.hq, h.each⟩
theorem x_without (w : World) (F : Nat → Prop) (p : Nat) (t : Ts) (kd : Int) (kn : ByteArray) (h : XM w F p t) (hl : t.ks.length ≤ 9000000000) :
    Calls Try.prog 47 #[.pointer (some ⟨p, 0, none⟩), .agg #[.int .i64 kd, .string kn]] w fun e w' => e = .returned (.tuple #[]) ∧ ∃ F' : Nat → Prop, XM w' F' p { t with ks := relL t.ks ⟨kd, kn⟩ } ∧ Fgrow w F F' ∧ Chg F w w' := by
  obtain ⟨s, h, rfl⟩ := h
  refine (r_without w F p s kd kn h hl).mono ?_
  rintro e w' ⟨he, F', a, c, h1, h2, h3⟩
  exact ⟨he, F', ⟨_, h1, rfl⟩, h2, h3⟩
theorem x_holds (w : World) (F : Nat → Prop) (p : Nat) (t : Ts) (kd : Int) (kn : ByteArray) (h : XM w F p t) (hl : t.ks.length ≤ 9000000000) :
    Calls Try.prog 29 #[.pointer (some ⟨p, 0, none⟩), .agg #[.int .i64 kd, .string kn]] w fun e w' => e = .returned (.bool (decide ((⟨kd, kn⟩ : Ky) ∈ t.ks))) ∧ Below w.heap.size w w' := by
  obtain ⟨s, h, rfl⟩ := h
  exact r_holds w F p s kd kn h hl
theorem XAt.rowlt {w : World} {F : Nat → Prop} {p : Nat} {t : Ts} (h : XAt w F p t) : t.ks.length ≤ 32 := by
  obtain ⟨s, h1, rfl⟩ := h; exact h1.rowlt
theorem x_broken (w : World) (F : Nat → Prop) (p : Nat) (t : Ts) (v : Value) (keys : List Ky) (ver : Int) (h : XAt w F p t) (hv : w.ownsRow 0 37 2 v keys.length (kyc keys)) (hl : keys.length * 24 ≤ 140737488355328) (hn : t.n < 1099511627776) :
    Calls Try.prog 48 #[.pointer (some ⟨p, 0, none⟩), v, .int .i64 ver] w (RPost w F p (brkT t keys ver)) := by
  obtain ⟨s, h, rfl⟩ := h
  by_cases hq : (s.qs.length : Int) < s.Q
  · exact r_broken_add w F p s v keys ver h hv hl hn hq
  · exact r_broken_all w F p s v keys ver h hv hl hn (by omega)

set_option maxRecDepth 100000 in
set_option maxHeartbeats 2000000 in
theorem r_grant (w : World) (F : Nat → Prop) (p : Nat) (t : Ts) (kd : Int) (kn : ByteArray) (ver : Int) (h : XAt w F p t) (hn : t.n < 1099511627776) :
    Calls Try.prog 30 #[.pointer (some ⟨p, 0, none⟩), .agg #[.int .i64 kd, .string kn], .int .i64 ver] w (RPost w F p (grantT t ⟨kd, kn⟩ ver)) := by
  obtain ⟨k, hk⟩ : ∃ k : Ky, k = ⟨kd, kn⟩ := ⟨_, rfl⟩
  obtain ⟨rfl, rfl⟩ : kd = k.dir ∧ kn = k.name := by rw [hk]; exact ⟨rfl, rfl⟩
  rw [← hk]
  clear hk
  obtain ⟨s, h, rfl⟩ := h
  obtain ⟨i1, hi1, hy0, hy1, hy2⟩ := info_parts infoKy
  have HI := hid hi1
  have hkl := h.rowlt
  have hrl : (relL s.ks k).length ≤ s.ks.length := List.length_filter_le _ _
  have bx := blk2 (heap_new w (.cells #[.int .i64 k.dir, .string k.name] 37))
  have HBX := hid (heap_new w (.cells #[.int .i64 k.dir, .string k.name] 37))
  have HOK := hid h.ok
  have HM1 := hid (h.toRMem.below (bl1 w (.cells #[.int .i64 k.dir, .string k.name] 37)))
  have HFW := hid (show ¬ F w.heap.size from fun hf => by have := h.Flt _ hf; omega)
  have HB0 := hid (bl1 w (.cells #[.int .i64 k.dir, .string k.name] 37))
  clear h hi1
  go_enter Try.func30, Try.ntmps30
  go_wp2_with fail
  refine (r_holds _ F p s k.dir k.name HM1.out (by omega)).mono ?_; rintro e w1 ⟨rfl, hb1⟩
  have HB1 := hid (HB0.out.trans (hb1.mono (by simp)))
  have HM2 := hid (HM1.out.below hb1)
  have hk1 := heap_below hb1 HBX.out (blk_lt HBX.out)
  have bx1 := blk2 hk1
  have HBX1 := hid hk1
  clear hb1 hk1 bx
  go_wp2_with fail
  refine (r_without _ F p s k.dir k.name HM2.out (by omega)).mono ?_; rintro e w2 ⟨rfl, F1, a1, c1, hm3, hfg3, hch3⟩
  have HM3 := hid hm3
  have HFG3 := hid (fg_low hfg3 HB1.out.size)
  have HCH3 := hid (((Chg.below HB1.out).mono (fun _ _ h => h.elim)).trans hch3 (fun _ _ h => h) (fun _ _ h => h))
  have hk3 := heap_chg hch3 HBX1.out HFW.out
  have bx3 := blk2 hk3
  have b3 := blk5 hm3.hp
  have hpl3 := blk_lt hm3.hp
  have hkz := blk_lt hk3
  have hkp : some p ≠ (Value.slice a1 (relL s.ks k).length c1).ownBlock := fun e => own_ne hm3.row hm3.hp (by decide) e.symm
  have HKP := hid hkp
  have hw2 := HCH3.out.size
  clear hm3 hfg3 hch3 hk3 bx1 hkp
  go_wp2_with fail
  go_region_law (first
      | (refine step_append_rd (by rfl) _ _ 28 (by rfl) 0 37 i1 _ 2 24 Try.underlying28 HI.out hy0 hy1 hy2 rfl (by decide) (.slice a1 (relL s.ks k).length c1) (relL s.ks k).length (kyc (relL s.ks k)) (by rfl) (own_alloc HM3.out.row _) (.slice (some ⟨w2.heap.size, 0, none⟩) 1 1) 1 [.int .i64 k.dir, .string k.name] (by rfl) (rd_blk (heap_new w2 _) (by unfold maxLen; omega)) rfl (by intro u hu; simp at hu; rcases hu with rfl | rfl <;> rfl) (by unfold maxLen; omega) (by omega) (by simp) ?_; intro a2 c2 w4 hown4 hgrow4 hat4; (have kp4 := heap_grown hgrow4 (heap_old HM3.out.hp _) HKP.out); (have b4 := blk5 kp4)))
  all_goals
    have hg4 : (w2.alloc (.cells #[.int .i64 k.dir, .string k.name] 37)).grownBy w4 (Value.slice a1 (relL s.ks k).length c1).ownBlock := ⟨hgrow4.os, hgrow4.tape, hgrow4.output, hgrow4.size, hgrow4.block⟩
    obtain ⟨F', hT, hFg, hCh⟩ := rapp_fin (k := k) HM3.out (Nat.le_refl _) (Chg.refl _ _) hg4 hown4 hat4
    have b5 := blk5 hT.hp
    have HT := hid hT
    have HFG := hid (fg_trans HFG3.out HCH3.out hFg)
    have HCH := hid (ch_trans HFG3.out HCH3.out hCh)
    clear hT hFg hCh b3 bx3 kp4 b4
    simp only [List.length_append, List.length_singleton] at b5
    by_cases hm : k ∈ s.ks
    · have hlt : (relL s.ks k).length + 1 ≤ s.ks.length := List.length_filter_lt_length_iff_exists.2 ⟨k, hm, by simp⟩
      have hle0 : (((relL s.ks k ++ [k]).length : Nat) : Int) ≤ s.P := by have := HOK.out.hk; have e1 : s.pl.ks = s.ks := rfl; have e2 : s.pl.P = s.P := rfl; rw [e1, e2] at this; rw [List.length_append]; simp; omega
      have HLE := hid hle0
      have hdm : decide ((⟨k.dir, k.name⟩ : Ky) ∈ s.ks) = true := decide_eq_true hm
      rw [hdm]
      clear hm hlt hle0 hdm
      go_wp2_with fail
      go_quiet (fail)
      go_wp2
      go_ret
      have hok := HOK.out
      have hV : XAt (w4.setCell ⟨p, 2, none⟩ (.slice a2 ((relL s.ks k).length + 1) c2)) F' p { s.pl with ks := relL s.ks k ++ [k] } :=
        ⟨_, ⟨HT.out, ⟨hok.he, hok.hn, hok.hP, hok.hQ, HLE.out, hok.hq, hok.each⟩⟩, rfl⟩
      have hgt : grantT s.pl k ver = ({ s.pl with ks := relL s.ks k ++ [k] }, []) := by
        unfold grantT; rw [if_pos]; · rfl
        · exact HLE.out
      rw [hgt]
      exact ⟨F', _, [], rfl, hV.below (below_drewN (Below.refl _ _) _), rfl, HFG.out, HCH.out.drewN _, ⟨Rd.nil _, by simp⟩⟩
    · have hdm : decide ((⟨k.dir, k.name⟩ : Ky) ∈ s.ks) = false := decide_eq_false hm
      rw [hdm]
      clear hm hdm
      by_cases hP : (((relL s.ks k ++ [k]).length : Nat) : Int) ≤ s.P
      · have hle : decide (((relL s.ks k).length : Int) + 1 ≤ s.P) = true := decide_eq_true (by rw [List.length_append] at hP; simp at hP; omega)
        have HLE := hid hP
        clear hP
        go_wp2_with fail
        go_quiet (fail)
        go_wp2
        go_ret
        have hok := HOK.out
        have hV : XAt (w4.setCell ⟨p, 2, none⟩ (.slice a2 ((relL s.ks k).length + 1) c2)) F' p { s.pl with ks := relL s.ks k ++ [k] } :=
          ⟨_, ⟨HT.out, ⟨hok.he, hok.hn, hok.hP, hok.hQ, HLE.out, hok.hq, hok.each⟩⟩, rfl⟩
        have hgt : grantT s.pl k ver = ({ s.pl with ks := relL s.ks k ++ [k] }, []) := by
          unfold grantT; rw [if_pos]; · rfl
          · exact HLE.out
        rw [hgt]
        exact ⟨F', _, [], rfl, hV.below (below_drewN (Below.refl _ _) _), rfl, HFG.out, HCH.out.drewN _, ⟨Rd.nil _, by simp⟩⟩
      · have hle : decide (((relL s.ks k).length : Int) + 1 ≤ s.P) = false := decide_eq_false (by rw [List.length_append] at hP; simp at hP; omega)
        obtain ⟨old, hold⟩ : ∃ old, old = (relL s.ks k ++ [k]).headD k := ⟨_, rfl⟩
        have HGT := hid (show grantT s.pl k ver = brkT { s.pl with ks := relL (relL s.ks k ++ [k]) old } [old] ver by
          unfold grantT; rw [if_neg]; · rw [hold]; rfl
          · exact hP)
        have HOLD := hid (show (relL s.ks k ++ [k])[0]? = some old by rw [hold]; cases relL s.ks k <;> rfl)
        clear hP hold
        obtain ⟨g2, hg2, _, hg2z, hg2a, hg2b⟩ := own_loc HT.out.row (by show 0 < (relL s.ks k ++ [k]).length; rw [List.length_append]; simp)
        have hg2' : a2 = some ⟨g2, 0, none⟩ := hg2
        subst hg2'
        go_wp2_with fail
        go_quiet (fail)
        obtain ⟨W6, hW6⟩ : ∃ W6, W6 = (w4.setCell ⟨p, 2, none⟩ (.slice (some ⟨g2, 0, none⟩) ((relL s.ks k).length + 1) c2)).drewN nq := ⟨_, rfl⟩
        have HT6 := hid (show RMem W6 F' p _ by rw [hW6]; exact HT.out.below (below_drewN (Below.refl _ _) _))
        have HCH6 := hid (show Chg F w W6 by rw [hW6]; exact HCH.out.drewN _)
        rw [← hW6]
        have c6 := keys_at (show Rd W6 (.slice (some ⟨g2, 0, none⟩) (relL s.ks k ++ [k]).length c2) (relL s.ks k ++ [k]).length (kyc (relL s.ks k ++ [k])) from Rd.own HT6.out.row) HOLD.out
        have b6 := blk5 HT6.out.hp
        simp only [List.length_append, List.length_singleton] at b6
        have hbx7 := heap_new W6 (.cells #[.int .i64 old.dir, .string old.name] 37)
        have bx7 := blk2 hbx7
        have HBX7 := hid hbx7
        have HM7 := hid (HT6.out.below (bl1 W6 (.cells #[.int .i64 old.dir, .string old.name] 37)))
        have HF6 := hid (show ¬ F' W6.heap.size from fun hf => by have := HT6.out.Flt _ hf; omega)
        have hl7 : (relL s.ks k ++ [k]).length ≤ 9000000000 := by rw [List.length_append]; simp; omega
        clear hW6 hbx7 b5
        go_wp2_with fail
        refine (r_without _ F' p _ old.dir old.name HM7.out hl7).mono ?_
        rintro e w8 ⟨rfl, F8, a8, c8, hm8, hfg8, hch8⟩
        have hk8 := heap_chg hch8 HBX7.out HF6.out
        have bx8 := blk2 hk8
        have HM8 := hid hm8
        have HCH7 := hid (HCH6.out.alloc (.cells #[.int .i64 old.dir, .string old.name] 37))
        have HFG8 := hid (fg_trans HFG.out HCH7.out hfg8)
        have HCH8 := hid (ch_trans HFG.out HCH7.out hch8)
        have HOV := hid (ownsRow_of_whole (B := 0) (sz := 2) (n := 1) (heap_new w8 (.cells #[.int .i64 old.dir, .string old.name] 37)) rfl (Nat.zero_le _) (by simp [maxLen]))
        have hlen8 : (relL (relL s.ks k ++ [k]) old).length ≤ s.ks.length := by
          have hmem : old ∈ relL s.ks k ++ [k] := List.mem_of_getElem? HOLD.out
          have h1 : (relL (relL s.ks k ++ [k]) old).length < (relL s.ks k ++ [k]).length := by
            unfold relL at hmem ⊢
            exact List.length_filter_lt_length_iff_exists.2 ⟨old, hmem, by simp⟩
          rw [List.length_append] at h1; simp at h1 ⊢; omega
        have hTA : XAt w8 F8 p { s.pl with ks := relL (relL s.ks k ++ [k]) old } := XM.at_ ⟨_, HM8.out, rfl⟩ (HOK.out.fewer hlen8)
        have HTA := hid (hTA.below (bl1 w8 (.cells #[.int .i64 old.dir, .string old.name] 37)))
        clear hm8 hfg8 hch8 hk8 hlen8 hTA bx7 c6 b6
        go_wp2_with fail
        refine (x_broken _ F8 p _ _ [old] ver HTA.out HOV.out (by simp) hn).mono ?_
        rintro e w9 hpost
        have hpost2 := RPost.lift hpost HFG8.out (HCH8.out.alloc _)
        rw [← HGT.out] at hpost2
        have HPO := hid hpost2
        clear hpost hpost2
        obtain ⟨FF, vv, RR, rfl, h1⟩ := HPO.out
        have HR := hid (show RPost w F p (grantT s.pl k ver) (.returned vv) w9 from ⟨FF, vv, RR, rfl, h1⟩)
        clear h1 HPO
        go_wp2
        go_ret
        exact HR.out

set_option maxRecDepth 100000 in
set_option maxHeartbeats 2000000 in
theorem r_touch (w : World) (F : Nat → Prop) (p : Nat) (t : Ts) (v : Value) (keys : List Ky) (ver : Int) (h : XAt w F p t) (hv : Rd w v keys.length (kyc keys)) (hl : keys.length * 24 ≤ 140737488355328) (hn : t.n < 1099511627776) :
    Calls Try.prog 31 #[.pointer (some ⟨p, 0, none⟩), v, .int .i64 ver] w (RPost w F p (touchT t keys ver)) := by
  obtain ⟨a, c, rfl, _, hcm⟩ := hv.shape
  obtain ⟨i1, hi1, hy0, hy1, hy2⟩ := info_parts infoKy
  have HI := hid hi1
  have HH := hid h
  have HV := hid hv
  have hkl := h.rowlt
  obtain ⟨T, hT⟩ : ∃ T, T = keys.filter (tellB t.ks) := ⟨_, rfl⟩
  have HTD := hid hT
  have hTl : T.length ≤ keys.length := by rw [hT]; exact List.length_filter_le _ _
  clear h hv hi1 hT
  go_enter Try.func31, Try.ntmps31
  go_wp2_with fail
  go_loopw [7, 8] (fun v7 v14 wr => ∃ (k : Nat) (M : List Ky) (a1 : Option Addr) (c1 : Nat), k ≤ keys.length ∧ v14 = .int .i64 k ∧ v7 = .slice a1 M.length c1 ∧ Hid (M = (keys.take k).filter (tellB t.ks)) ∧ M.length ≤ k ∧ Hid (wr.ownsRow w.heap.size 37 2 (.slice a1 M.length c1) M.length (kyc M)) ∧ Hid (Below w.heap.size w wr)) (fun _ v14 _ => keys.length - (intOf v14).toNat)
  case atStart => exact ⟨0, [], none, 0, Nat.zero_le _, rfl, rfl, hid rfl, by simp, hid (World.ownsRow_nil _ _ _ _), hid (Below.refl _ _)⟩
  case round =>
    obtain ⟨k, M, a1, c1, hk, rfl, rfl, HM, hMk, HO, HB⟩ := hrel
    obtain ⟨wo, hwo⟩ : ∃ wo, wo = wr := ⟨_, rfl⟩
    subst hwo
    have hsz := HB.out.size
    by_cases hlt : k < keys.length
    · obtain ⟨b, off, rfl⟩ := ks_loc HV.out (by omega)
      obtain ⟨x, hx⟩ : ∃ x, keys[k]? = some x := ⟨_, List.getElem?_eq_getElem hlt⟩
      have c1' := ks_at HV.out HB.out hx
      have HX := hid hx
      have HTr := hid (HH.out.m.below HB.out)
      have hk0 : (0 : Int) ≤ (k : Int) := by omega
      have hk1 : (k : Int) < (keys.length : Int) := by omega
      clear hx
      go_wp2_with fail
      refine (x_holds _ F p t x.dir x.name HTr.out (by omega)).mono ?_; rintro e w1 ⟨rfl, hb1⟩
      have HB1 := hid (HB.out.trans (hb1.mono HB.out.size))
      have HT1 := hid (HTr.out.below hb1)
      have HO1 := hid (own_below HO.out hb1)
      have c2' := ks_at HV.out HB1.out HX.out
      clear hb1 c1'
      cases ht1 : decide (x ∈ t.ks) with
      | true =>
        have HN := hid (filter_snoc_yes (p := tellB t.ks) HX.out (by simp only [tellB, ht1, Bool.true_or]))
        (try rw [show decide ((⟨x.dir, x.name⟩ : Ky) ∈ t.ks) = true from ht1])
        have hs1 := HB1.out.size
        clear ht1
        go_wp2_with (at_builtin; refine wpList_append_rd rfl _ _ 28 rfl w.heap.size 37 i1 _ 2 24 Try.underlying28 HI.out hy0 hy1 hy2 rfl (by decide) (.slice a1 M.length c1) M.length (kyc M) rfl (own_alloc HO1.out _) (.slice (some ⟨w1.heap.size, 0, none⟩) 1 1) 1 [.int .i64 x.dir, .string x.name] rfl (rd_blk (heap_new w1 _) (by unfold maxLen; omega)) rfl (by intro u hu; simp at hu; rcases hu with rfl | rfl <;> rfl) (by unfold maxLen; omega) (by omega) (by simp; omega) ?_; intro a2 c2 w3 hown2 hgrow2 hat2)
        refine ⟨⟨k + 1, M ++ [x], a2, c2, by omega, by go_num, by rw [List.length_append]; rfl, hid (by rw [HN.out, ← HM.out]), by rw [List.length_append]; simp; omega, hid (by rw [List.length_append, kyc_snoc]; exact hown2), hid ?_⟩, by simp [intOf]; omega⟩
        exact (HB1.out.alloc hs1 _).grown hgrow2 (by simp; omega) fun k hk => (own_lt HO.out hk).1
      | false =>
        (try rw [show decide ((⟨x.dir, x.name⟩ : Ky) ∈ t.ks) = false from ht1])
        have H1 := hid ht1
        clear ht1
        go_wp2_with fail
        refine (x_holds _ F p t x.dir _ HT1.out (by omega)).mono ?_; rintro e w2 ⟨rfl, hb2⟩
        have HB2 := hid (HB1.out.trans (hb2.mono HB1.out.size))
        have HO2 := hid (own_below HO1.out hb2)
        have c3' := ks_at HV.out HB2.out HX.out
        have hs2 := HB2.out.size
        clear hb2 c2'
        cases ht2 : decide ((⟨x.dir, ByteArray.empty⟩ : Ky) ∈ t.ks) with
        | true =>
          have HN := hid (filter_snoc_yes (p := tellB t.ks) HX.out (by simp only [tellB, H1.out, ht2, Bool.or_true]))
          (try rw [show decide ((⟨x.dir, { data := #[] }⟩ : Ky) ∈ t.ks) = true from ht2])
          clear ht2
          go_wp2_with (at_builtin; refine wpList_append_rd rfl _ _ 28 rfl w.heap.size 37 i1 _ 2 24 Try.underlying28 HI.out hy0 hy1 hy2 rfl (by decide) (.slice a1 M.length c1) M.length (kyc M) rfl (own_alloc HO2.out _) (.slice (some ⟨w2.heap.size, 0, none⟩) 1 1) 1 [.int .i64 x.dir, .string x.name] rfl (rd_blk (heap_new w2 _) (by unfold maxLen; omega)) rfl (by intro u hu; simp at hu; rcases hu with rfl | rfl <;> rfl) (by unfold maxLen; omega) (by omega) (by simp; omega) ?_; intro a2 c2 w3 hown2 hgrow2 hat2)
          refine ⟨⟨k + 1, M ++ [x], a2, c2, by omega, by go_num, by rw [List.length_append]; rfl, hid (by rw [HN.out, ← HM.out]), by rw [List.length_append]; simp; omega, hid (by rw [List.length_append, kyc_snoc]; exact hown2), hid ?_⟩, by simp [intOf]; omega⟩
          exact (HB2.out.alloc hs2 _).grown hgrow2 (by simp; omega) fun k hk => (own_lt HO.out hk).1
        | false =>
          have HN := hid (filter_snoc_no (p := tellB t.ks) HX.out (by simp only [tellB, H1.out, ht2, Bool.or_false]))
          (try rw [show decide ((⟨x.dir, { data := #[] }⟩ : Ky) ∈ t.ks) = false from ht2])
          clear ht2
          go_wp2
          exact ⟨⟨k + 1, M, a1, c1, by omega, by go_num, rfl, hid (by rw [HN.out, ← HM.out]), by omega, HO2, HB2⟩, by simp [intOf]; omega⟩
    · have hkL : k = keys.length := by omega
      have HMT := hid (show M = T by rw [HM.out, HTD.out, List.take_of_length_le (by omega)])
      have HV2 := hid (HH.out.m.below HB.out)
      have HFL := hid HH.out.lt
      subst hkL
      obtain rfl := HMT.out
      clear HM HMT hMk hk
      have hML : M.length ≤ 9223372036854775807 := by omega
      go_wp2_with fail
      go_loopw [9] (fun v9 wi => ∃ (i : Nat) (F1 : Nat → Prop), i ≤ M.length ∧ v9 = .int .i64 i ∧ Hid (XM wi F1 p { t with ks := relAll t.ks (M.take i) }) ∧ Hid (Fgrow wo F F1) ∧ Hid (Chg F wo wi)) (fun v9 _ => M.length - (intOf v9).toNat)
      case atStart => exact ⟨0, F, Nat.zero_le _, rfl, HV2, hid (fg_refl _ _), hid (Chg.refl _ _)⟩
      case round =>
        obtain ⟨i, F1, hi, rfl, HVI, HFI, HCI⟩ := hrel
        have HOI := hid (ownsRow_chg HO.out fun k hk hl => HCI.out.block k hl fun hf => by have h1 := (own_lt HO.out hk).1; have h2 := HFL.out k hf; omega)
        by_cases hlt2 : i < M.length
        · obtain ⟨g, hag, hBg, hgz, hg1, hg2⟩ := own_loc HO.out (by omega)
          subst hag
          obtain ⟨x, hx⟩ : ∃ x, M[i]? = some x := ⟨_, List.getElem?_eq_getElem hlt2⟩
          have c1' := keys_at (Rd.own HOI.out) hx
          have HX := hid hx
          have hi0 : (0 : Int) ≤ (i : Int) := by omega
          have hi1 : (i : Int) < (M.length : Int) := by omega
          have hrl := relAll_len t.ks (M.take i)
          clear hx
          go_wp2_with fail
          refine (x_without _ F1 p _ x.dir x.name HVI.out (by show (relAll t.ks (M.take i)).length ≤ _; omega)).mono ?_; rintro e w3 ⟨rfl, F2, hv3, hf3, hch3⟩
          have htk : M.take (i + 1) = M.take i ++ [x] := by rw [List.take_add_one, HX.out]; rfl
          have HV3 := hid (show XM w3 F2 p { t with ks := relAll t.ks (M.take (i + 1)) } by rw [htk, relAll_snoc]; exact hv3)
          have HF3 := hid (fg_trans HFI.out HCI.out hf3)
          have HC3 := hid (ch_trans HFI.out HCI.out hch3)
          clear hv3 hf3 hch3 htk c1'
          go_wp2
          exact ⟨⟨i + 1, F2, by omega, by go_num, HV3, HF3, HC3⟩, by simp [intOf]; omega⟩
        · have HVL := hid (show XM wr F1 p { t with ks := relAll t.ks M } by have := HVI.out; rwa [List.take_of_length_le (by omega)] at this)
          have HCW := hid (show Chg F w wr from (Chg.mono (Chg.below HB.out) (fun _ _ h => h.elim)).trans HCI.out (fun _ _ h => h) (fun _ _ h => h))
          have HFW := hid (fg_low HFI.out HB.out.size)
          have HOJ := hid (ownsRow_mono HOI.out (Nat.zero_le _))
          by_cases hT0 : M = []
          · have HPL := hid (show touchT t keys ver = (t, []) by unfold touchT; rw [if_pos (by rw [← HTD.out]; exact hT0)])
            have HXL := hid (show XAt wr F1 p t by have h1 := HVL.out; rw [hT0] at h1; exact h1.at_ HH.out.ok)
            subst hT0
            go_wp2
            go_ret
            rw [HPL.out]
            exact ⟨F1, _, [], rfl, HXL.out, rfl, HFW.out, HCW.out, ⟨Rd.nil _, by simp⟩⟩
          · have HPL := hid (show touchT t keys ver = brkT { t with ks := relAll t.ks M } M ver by unfold touchT; rw [if_neg (by rw [← HTD.out]; exact hT0), ← HTD.out])
            have hpos : 0 < M.length := List.length_pos_iff.2 hT0
            have hne0 : ((M.length : Int) == 0) = false := by rw [beq_eq_false_iff_ne]; omega
            have hne0' : (M.length == 0) = false := by rw [beq_eq_false_iff_ne]; omega
            have HXL := hid (HVL.out.at_ (HH.out.ok.fewer (relAll_len t.ks M)))
            clear hT0
            go_wp2_with fail
            refine (x_broken _ F1 p _ _ M ver HXL.out HOJ.out (by omega) hn).mono ?_
            rintro e w9 hpost
            have hpost2 := RPost.lift hpost HFW.out HCW.out
            rw [← HPL.out] at hpost2
            have HPO := hid hpost2
            clear hpost hpost2
            obtain ⟨FF, vv, RR, rfl, h1⟩ := HPO.out
            have HR := hid (show RPost w F p (touchT t keys ver) (.returned vv) w9 from ⟨FF, vv, RR, rfl, h1⟩)
            clear h1 HPO
            go_wp2
            go_ret
            exact HR.out

end Go.Proofs.Ytakkdaenindboaa
