import Derived.Test.YtakkdaenindboaaVowJ
namespace Go.Proofs.Ytakkdaenindboaa
set_option linter.unusedVariables false
set_option linter.unusedSimpArgs false
open Go.RowKit
attribute [local go_sem ↓] Go.wp_at_zero Go.wp_at_succ
attribute [local go_sem] run_store_complex run_store_float

theorem t_broken (w : World) (F : Nat → Prop) (p : Nat) (s : Tb) (v : Value) (keys : List Ky) (ver : Int) (h : TAt w F p s) (hv : w.ownsRow 0 37 2 v keys.length (kyc keys)) (hl : keys.length * 24 ≤ 140737488355328) :
    Calls Try.prog 37 #[.pointer (some ⟨p, 0, none⟩), v, .int .i64 ver] w (BrkPost w F p (brkT s.pl keys ver)) := by
  by_cases hn : s.n < 1099511627776
  · by_cases hq : s.Q ≤ (s.qs.length : Int)
    · exact t_broken_all w F p s v keys ver h hv hl hn hq
    · exact t_broken_add w F p s v keys ver h hv hl hn (by omega)
  · exact t_broken_end w F p s v keys ver h hn

theorem BrkPost.lift {w w1 w' : World} {F F1 : Nat → Prop} {p : Nat} {r : Ts × List Bp} {e : Ending} (h : BrkPost w1 F1 p r e w') (hF : Fgrow w F F1) (hC : Chg F w w1) : BrkPost w F p r e w' := by
  obtain ⟨F', a, c, R, he, hV, hR, hFg, hCh, hB, hO⟩ := h
  have hs := hC.size
  refine ⟨F', a, c, R, he, hV, hR, fun k hk => ?_, ?_, ⟨ownsRow_mono hB.row hs, fun x hx => ownsRow_mono (hB.each x hx) hs⟩, hO⟩
  · rcases hFg k hk with h1 | h1
    · exact hF k h1
    · exact .inr (by omega)
  · refine hC.trans hCh (fun _ _ h => h) (fun i hi h1 => ?_)
    rcases hF i h1 with h2 | h2
    · exact h2
    · omega

/-- what a promise comes to -/
def grantT (t : Ts) (k : Ky) (ver : Int) : Ts × List Bp :=
  if (((relL t.ks k ++ [k]).length : Nat) : Int) ≤ t.P then ({ t with ks := relL t.ks k ++ [k] }, [])
  else brkT { t with ks := relL (relL t.ks k ++ [k]) ((relL t.ks k ++ [k]).headD k) } [(relL t.ks k ++ [k]).headD k] ver

theorem app_fin {w W w4 : World} {F : Nat → Prop} {p : Nat} {s : Tb} {a2 : Option Addr} {c2 : Nat} {k : Ky} {o : Obj} (h : TMem W F p s) (hw : w.heap.size ≤ W.heap.size) (hc : Chg F w W)
    (hg : (W.alloc o).grownBy w4 (Value.slice s.ka s.ks.length s.kc).ownBlock)
    (hown4 : w4.ownsRow 0 37 2 (.slice a2 (s.ks.length + 1) c2) (s.ks.length + 1) (kyc s.ks ++ [.int .i64 k.dir, .string k.name]))
    (hat : (Value.slice a2 (s.ks.length + 1) c2).ownBlock = (Value.slice s.ka s.ks.length s.kc).ownBlock ∨ (Value.slice a2 (s.ks.length + 1) c2).ownBlock = some (W.alloc o).heap.size) :
    ∃ F' : Nat → Prop, TMem (w4.setCell ⟨p, 3, none⟩ (.slice a2 (s.ks.length + 1) c2)) F' p { s with ka := a2, kc := c2, ks := s.ks ++ [k] } ∧ Fgrow w F F' ∧ Chg F w (w4.setCell ⟨p, 3, none⟩ (.slice a2 (s.ks.length + 1) c2)) := by
  have hkp : some p ≠ (Value.slice s.ka s.ks.length s.kc).ownBlock := fun e => own_ne h.row h.hp (by decide) e.symm
  have kp4 := heap_grown hg (heap_old h.hp o) hkp
  have hC : Chg (fun k => k = p ∨ s.ka.map (·.block) = some k) W (w4.setCell ⟨p, 3, none⟩ (.slice a2 (s.ks.length + 1) c2)) :=
    (Chg.grown ((Chg.refl _ W).alloc o) hg (fun k hk => .inl (.inr (by rw [← ownBlock_slice]; exact hk)))).setCell _ _ (.inl (.inl rfl))
  have hr4 := own_set hown4 (own_ne hown4 kp4 (by decide)) 3 (.slice a2 (s.ks.length + 1) c2)
  have hsz := hC.size
  have hat' : ∀ j, a2.map (·.block) = some j → s.ka.map (·.block) = some j ∨ W.heap.size ≤ j := by
    intro j hj
    rw [ownBlock_slice, ownBlock_slice] at hat
    rcases hat with hat | hat
    · exact .inl (by rw [← hat]; exact hj)
    · rw [hj] at hat; have := Option.some.inj hat; right; simp at this; omega
  refine ⟨fun k => F k ∨ a2.map (·.block) = some k, ⟨?_, .inl h.Fp, ?_, fun k hk => .inr hk, ?_, fun k hk => .inl (h.Fq k hk), ?_, fun x hx k hk => .inl (h.Fe x hx k hk), ?_, ?_⟩, ?_, ?_⟩
  · show _ = some (Obj.cells #[_, _, _, .slice a2 (s.ks ++ [k]).length c2, _] _ _)
    rw [List.length_append]; exact heap_set kp4 3 _
  · show World.ownsRow _ _ _ _ (.slice a2 (s.ks ++ [k]).length c2) (s.ks ++ [k]).length (kyc (s.ks ++ [k]))
    rw [List.length_append, kyc_snoc]; exact hr4
  · refine ownsRow_chg h.qrow fun k hk hl => hC.block k hl ?_
    rintro (rfl | h1)
    · exact own_ne h.qrow h.hp (by decide) hk
    · exact own_ne2 h.qrow h.row (by decide) k hk (by rw [ownBlock_slice]; exact h1)
  · intro x hx
    refine ownsRow_chg (h.each x hx) fun k hk hl => hC.block k hl ?_
    rintro (rfl | h1)
    · exact own_ne (h.each x hx) h.hp (by decide) hk
    · exact h.apart x hx k hk h1
  · intro x hx k hk hk2
    rcases hat' k hk2 with h1 | h1
    · exact h.apart x hx k hk h1
    · have := (own_lt (h.each x hx) hk).2; omega
  · rintro k (hk | hk)
    · exact Nat.lt_of_lt_of_le (h.Flt k hk) hC.size
    · exact (own_lt hr4 (k := k) (by rw [ownBlock_slice]; exact hk)).2
  · rintro k (hk | hk)
    · exact .inl hk
    · rcases hat' k hk with h1 | h1
      · exact .inl (h.Fk k h1)
      · exact .inr (by omega)
  · refine hc.trans hC (fun _ _ h => h) (fun i hi h1 => ?_)
    rcases h1 with rfl | h1
    · exact h.Fp
    · exact h.Fk i h1

set_option maxRecDepth 100000 in
set_option maxHeartbeats 2000000 in
theorem t_grant_stay (w : World) (F : Nat → Prop) (p : Nat) (s : Tb) (k : Ky) (ver : Int) (h : TAt w F p s) (hP : (((relL s.ks k ++ [k]).length : Nat) : Int) ≤ s.P) :
    Calls Try.prog 16 #[.pointer (some ⟨p, 0, none⟩), .agg #[.int .i64 k.dir, .string k.name], .int .i64 ver] w (BrkPost w F p (grantT s.pl k ver)) := by
  have hgt : grantT s.pl k ver = ({ s.pl with ks := relL s.ks k ++ [k] }, []) := by
    unfold grantT; rw [if_pos]; · rfl
    · exact hP
  rw [hgt]
  obtain ⟨i1, hi1, hy0, hy1, hy2⟩ := info_parts infoKy
  have HI := hid hi1
  have hpl := blk_lt h.hp
  have hkl := h.rowlt
  have hrl : (relL s.ks k).length ≤ s.ks.length := List.length_filter_le _ _
  have bx := blk2 (heap_new w (.cells #[.int .i64 k.dir, .string k.name] 37))
  have HBX := hid (heap_new w (.cells #[.int .i64 k.dir, .string k.name] 37))
  have HH := hid h
  have HM1 := hid (h.toTMem.below (bl1 w (.cells #[.int .i64 k.dir, .string k.name] 37)))
  have HPP := hid hP
  have hFw : ¬ F w.heap.size := fun hf => by have := h.Flt _ hf; omega
  clear h hi1 hgt hP
  go_enter Try.func16, Try.ntmps16
  go_wp2_with fail
  refine (t_release _ F p s k.dir k.name HM1.out).mono ?_
  rintro e w1 ⟨rfl, hm1, hch1⟩
  have hw1 := hch1.size
  simp only [World.size_alloc] at hw1
  have hk1 := heap_chg hch1 HBX.out hFw
  have bx1 := blk2 hk1
  have b1 := blk5 hm1.hp
  have HM2 := hid hm1
  have hpl1 := blk_lt hm1.hp
  have hkp : some p ≠ (Value.slice s.ka (relL s.ks k).length s.kc).ownBlock := fun e => own_ne hm1.row hm1.hp (by decide) e.symm
  have HKP := hid hkp
  have HC1 := hid (show Chg F w w1 from ((Chg.refl F w).alloc _).trans hch1 (fun _ _ h => h) (fun _ _ h => h))
  have hkz := blk_lt hk1
  clear hm1 hch1 hk1 hkp bx
  go_wp2_with fail
  go_region_law (first
      | (refine step_append_rd (by rfl) _ _ 28 (by rfl) 0 37 i1 _ 2 24 Try.underlying28 HI.out hy0 hy1 hy2 rfl (by decide) (.slice s.ka (relL s.ks k).length s.kc) (relL s.ks k).length (kyc (relL s.ks k)) (by rfl) (own_alloc HM2.out.row _) (.slice (some ⟨w1.heap.size, 0, none⟩) 1 1) 1 [.int .i64 k.dir, .string k.name] (by rfl) (rd_blk (heap_new w1 _) (by unfold maxLen; omega)) rfl (by intro u hu; simp at hu; rcases hu with rfl | rfl <;> rfl) (by unfold maxLen; omega) (by omega) (by simp) ?_; intro a2 c2 w4 hown4 hgrow4 hat4; (have kp4 := heap_grown hgrow4 (heap_old HM2.out.hp _) HKP.out); (have b4 := blk5 kp4)))
  all_goals
    have hg4 : (w1.alloc (.cells #[.int .i64 k.dir, .string k.name] 37)).grownBy w4 (Value.slice s.ka (relL s.ks k).length s.kc).ownBlock := ⟨hgrow4.os, hgrow4.tape, hgrow4.output, hgrow4.size, hgrow4.block⟩
    obtain ⟨F', hT, hFg, hCh⟩ := app_fin (k := k) HM2.out (by omega) HC1.out hg4 hown4 hat4
    have b5 := blk5 hT.hp
    have HT := hid hT
    have HFG := hid hFg
    have HCH := hid hCh
    have hle : decide (((relL s.ks k).length : Int) + 1 ≤ s.P) = true := decide_eq_true (by have := HPP.out; rw [List.length_append] at this; simp at this; omega)
    clear hT hFg hCh b1 bx1 kp4
    simp only [List.length_append, List.length_singleton] at b5
    go_wp2_with fail
    go_quiet (fail)
    go_wp2
    go_ret
    have hok := HH.out.ok
    have hV : VAt (w4.setCell ⟨p, 3, none⟩ (.slice a2 ((relL s.ks k).length + 1) c2)) F' p { s.pl with ks := relL s.ks k ++ [k] } :=
      ⟨_, ⟨HT.out, ⟨hok.he, hok.hn, hok.hP, hok.hQ, HPP.out, hok.hq, hok.each⟩⟩, rfl⟩
    exact ⟨F', none, 0, [], rfl, hV.below (below_drewN (Below.refl _ _) _), rfl, HFG.out, HCH.out.drewN _, ⟨World.ownsRow_nil _ _ _ _, by simp⟩, by simp [BrsOut]⟩

set_option maxRecDepth 100000 in
set_option maxHeartbeats 2000000 in
theorem t_grant_break (w : World) (F : Nat → Prop) (p : Nat) (s : Tb) (k : Ky) (ver : Int) (h : TAt w F p s) (hP : ¬ (((relL s.ks k ++ [k]).length : Nat) : Int) ≤ s.P) :
    Calls Try.prog 16 #[.pointer (some ⟨p, 0, none⟩), .agg #[.int .i64 k.dir, .string k.name], .int .i64 ver] w (BrkPost w F p (grantT s.pl k ver)) := by
  obtain ⟨old, hold⟩ : ∃ old, old = (relL s.ks k ++ [k]).headD k := ⟨_, rfl⟩
  have hgt : grantT s.pl k ver = brkT { s.pl with ks := relL (relL s.ks k ++ [k]) old } [old] ver := by
    unfold grantT; rw [if_neg]; · rw [hold]; rfl
    · exact hP
  rw [hgt]
  have hold0 : (relL s.ks k ++ [k])[0]? = some old := by
    rw [hold]; cases relL s.ks k <;> rfl
  have HOLD := hid hold0
  obtain ⟨i1, hi1, hy0, hy1, hy2⟩ := info_parts infoKy
  have HI := hid hi1
  have hpl := blk_lt h.hp
  have hkl := h.rowlt
  have hrl : (relL s.ks k).length ≤ s.ks.length := List.length_filter_le _ _
  have bx := blk2 (heap_new w (.cells #[.int .i64 k.dir, .string k.name] 37))
  have HBX := hid (heap_new w (.cells #[.int .i64 k.dir, .string k.name] 37))
  have HH := hid h
  have HM1 := hid (h.toTMem.below (bl1 w (.cells #[.int .i64 k.dir, .string k.name] 37)))
  have HPP := hid hP
  have hFw : ¬ F w.heap.size := fun hf => by have := h.Flt _ hf; omega
  clear h hi1 hgt hP hold hold0
  go_enter Try.func16, Try.ntmps16
  go_wp2_with fail
  refine (t_release _ F p s k.dir k.name HM1.out).mono ?_
  rintro e w1 ⟨rfl, hm1, hch1⟩
  have hw1 := hch1.size
  simp only [World.size_alloc] at hw1
  have hk1 := heap_chg hch1 HBX.out hFw
  have bx1 := blk2 hk1
  have b1 := blk5 hm1.hp
  have HM2 := hid hm1
  have hpl1 := blk_lt hm1.hp
  have hkp : some p ≠ (Value.slice s.ka (relL s.ks k).length s.kc).ownBlock := fun e => own_ne hm1.row hm1.hp (by decide) e.symm
  have HKP := hid hkp
  have HC1 := hid (show Chg F w w1 from ((Chg.refl F w).alloc _).trans hch1 (fun _ _ h => h) (fun _ _ h => h))
  have hkz := blk_lt hk1
  clear hm1 hch1 hk1 hkp bx
  go_wp2_with fail
  go_region_law (first
      | (refine step_append_rd (by rfl) _ _ 28 (by rfl) 0 37 i1 _ 2 24 Try.underlying28 HI.out hy0 hy1 hy2 rfl (by decide) (.slice s.ka (relL s.ks k).length s.kc) (relL s.ks k).length (kyc (relL s.ks k)) (by rfl) (own_alloc HM2.out.row _) (.slice (some ⟨w1.heap.size, 0, none⟩) 1 1) 1 [.int .i64 k.dir, .string k.name] (by rfl) (rd_blk (heap_new w1 _) (by unfold maxLen; omega)) rfl (by intro u hu; simp at hu; rcases hu with rfl | rfl <;> rfl) (by unfold maxLen; omega) (by omega) (by simp) ?_; intro a2 c2 w4 hown4 hgrow4 hat4; (have kp4 := heap_grown hgrow4 (heap_old HM2.out.hp _) HKP.out); (have b4 := blk5 kp4)))
  all_goals
    have hg4 : (w1.alloc (.cells #[.int .i64 k.dir, .string k.name] 37)).grownBy w4 (Value.slice s.ka (relL s.ks k).length s.kc).ownBlock := ⟨hgrow4.os, hgrow4.tape, hgrow4.output, hgrow4.size, hgrow4.block⟩
    obtain ⟨F', hT, hFg, hCh⟩ := app_fin (k := k) HM2.out (by omega) HC1.out hg4 hown4 hat4
    have b5 := blk5 hT.hp
    have HT := hid hT
    have HFG := hid hFg
    have HCH := hid hCh
    have hle : decide (((relL s.ks k).length : Int) + 1 ≤ s.P) = false := decide_eq_false (by have := HPP.out; rw [List.length_append] at this; simp at this; omega)
    clear hT hFg hCh b1 bx1 kp4
    simp only [List.length_append, List.length_singleton] at b5
    obtain ⟨g2, hg2, _, hg2z, hg2a, hg2b⟩ := own_loc HT.out.row (by show 0 < (relL s.ks k ++ [k]).length; rw [List.length_append]; simp)
    have hg2' : a2 = some ⟨g2, 0, none⟩ := hg2
    subst hg2'
    go_wp2_with fail
    go_quiet (fail)
    obtain ⟨W6, hW6⟩ : ∃ W6, W6 = (w4.setCell ⟨p, 3, none⟩ (.slice (some ⟨g2, 0, none⟩) ((relL s.ks k).length + 1) c2)).drewN nq := ⟨_, rfl⟩
    have HT6 := hid (show TMem W6 F' p _ by rw [hW6]; exact HT.out.below (below_drewN (Below.refl _ _) _))
    have HCH6 := hid (show Chg F w W6 by rw [hW6]; exact HCH.out.drewN _)
    have hz6 : w.heap.size ≤ W6.heap.size := HCH6.out.size
    rw [← hW6]
    have c6 := keys_at (show Rd W6 (.slice (some ⟨g2, 0, none⟩) (relL s.ks k ++ [k]).length c2) (relL s.ks k ++ [k]).length (kyc (relL s.ks k ++ [k])) from Rd.own HT6.out.row) HOLD.out
    have b6 := blk5 HT6.out.hp
    simp only [List.length_append, List.length_singleton] at b6
    have hbx7 := heap_new W6 (.cells #[.int .i64 old.dir, .string old.name] 37)
    have bx7 := blk2 hbx7
    have HBX7 := hid hbx7
    have HT7 := hid (HT6.out.below (bl1 W6 (.cells #[.int .i64 old.dir, .string old.name] 37)))
    have hF6 : ¬ F' W6.heap.size := fun hf => by have := HT6.out.Flt _ hf; omega
    have HF6 := hid hF6
    clear hW6 hbx7 hF6 b4 b5
    go_wp2_with fail
    refine (t_release _ F' p _ old.dir old.name HT7.out).mono ?_
    rintro e w8 ⟨rfl, hm8, hch8⟩
    have hk8 := heap_chg hch8 HBX7.out HF6.out
    have bx8 := blk2 hk8
    have hz8 := hch8.size
    simp only [World.size_alloc] at hz8
    have HM8 := hid hm8
    have HC8 := hid (show Chg F w w8 from (HCH6.out.alloc _).trans hch8 (fun _ _ h => h) (fun i hi h1 => by
      rcases HFG.out i h1 with h2 | h2
      · exact h2
      · omega))
    have hov := ownsRow_of_whole (B := 0) (sz := 2) (n := 1) (heap_new w8 (.cells #[.int .i64 old.dir, .string old.name] 37)) rfl (Nat.zero_le _) (by simp [maxLen])
    have HOV := hid hov
    have hok := HH.out.ok
    have hlen8 : (relL (relL s.ks k ++ [k]) old).length ≤ (relL s.ks k).length := by
      have hmem : old ∈ relL s.ks k ++ [k] := List.mem_of_getElem? HOLD.out
      have h1 : (relL (relL s.ks k ++ [k]) old).length < (relL s.ks k ++ [k]).length := by
        unfold relL at hmem ⊢
        exact List.length_filter_lt_length_iff_exists.2 ⟨old, hmem, by simp⟩
      rw [List.length_append] at h1; simp at h1 ⊢; omega
    have hrk : (relL s.ks k).length ≤ s.ks.length := hrl
    have hTok : TOk (Tb.pl ⟨s.e, s.n, s.P, s.Q, some ⟨g2, 0, none⟩, c2, relL (relL s.ks k ++ [k]) old, s.qa, s.qc, s.qs⟩) := by
      have h9 : (s.ks.length : Int) ≤ s.P := hok.hk
      exact ⟨hok.he, hok.hn, hok.hP, hok.hQ, by show ((relL (relL s.ks k ++ [k]) old).length : Int) ≤ s.P; omega, hok.hq, hok.each⟩
    have hTA : TAt w8 F' p ⟨s.e, s.n, s.P, s.Q, some ⟨g2, 0, none⟩, c2, relL (relL s.ks k ++ [k]) old, s.qa, s.qc, s.qs⟩ := ⟨HM8.out, hTok⟩
    have HTA := hid (hTA.below (bl1 w8 (.cells #[.int .i64 old.dir, .string old.name] 37)))
    clear hm8 hch8 hk8 hov hok hlen8 hTok hTA bx7 c6 b6
    go_wp2_with fail
    refine (t_broken _ F' p _ _ [old] ver HTA.out HOV.out (by simp)).mono ?_
    rintro e w9 hpost
    have hpost2 := BrkPost.lift hpost HFG.out (HC8.out.alloc _)
    have HPO := hid hpost2
    clear hpost hpost2
    obtain ⟨FF, aa, cc, RR, rfl, h1, h2, h3, h4, h5, h6⟩ := HPO.out
    have HR := hid (show BrkPost w F p (brkT { s.pl with ks := relL (relL s.ks k ++ [k]) old } [old] ver) (.returned (.slice aa RR.length cc)) w9 from ⟨FF, aa, cc, RR, rfl, h1, h2, h3, h4, h5, h6⟩)
    clear h1 h2 h3 h4 h5 h6 HPO
    go_wp2
    go_ret
    exact HR.out

theorem t_grant (w : World) (F : Nat → Prop) (p : Nat) (t : Ts) (kd : Int) (kn : ByteArray) (ver : Int) (h : VAt w F p t) :
    Calls Try.prog 16 #[.pointer (some ⟨p, 0, none⟩), .agg #[.int .i64 kd, .string kn], .int .i64 ver] w (BrkPost w F p (grantT t ⟨kd, kn⟩ ver)) := by
  obtain ⟨s, h, rfl⟩ := h
  by_cases hP : (((relL s.ks ⟨kd, kn⟩ ++ [(⟨kd, kn⟩ : Ky)]).length : Nat) : Int) ≤ s.P
  · exact t_grant_stay w F p s ⟨kd, kn⟩ ver h hP
  · exact t_grant_break w F p s ⟨kd, kn⟩ ver h hP

end Go.Proofs.Ytakkdaenindboaa
