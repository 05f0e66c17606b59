import Derived.Test.YtakkdaenindboaaVowH
namespace Go.Proofs.Ytakkdaenindboaa
set_option linter.unusedVariables false
set_option linter.unusedSimpArgs false
open Go.RowKit
attribute [local go_sem ↓] Go.wp_at_zero Go.wp_at_succ
attribute [local go_sem] run_store_complex run_store_float

/-- what a break comes to -/
def brkT (t : Ts) (keys : List Ky) (ver : Int) : Ts × List Bp :=
  if t.n < 1099511627776 then
    if t.Q ≤ (t.qs.length : Int) then ({ t with n := t.n + 1, ks := [], qs := [⟨t.e, t.n + 1, ver, true, []⟩] }, [⟨t.e, t.n + 1, ver, true, []⟩])
    else ({ t with n := t.n + 1, qs := t.qs ++ [⟨t.e, t.n + 1, ver, false, sortK keys⟩] }, [⟨t.e, t.n + 1, ver, false, sortK keys⟩])
  else ({ t with ks := [], qs := [] }, [])

/-- the blocks of breaks that are told are none of a table's -/
def BrsOut (a : Option Addr) (R : List Bk) (F : Nat → Prop) : Prop := (∀ k, a.map (·.block) = some k → ¬ F k) ∧ ∀ x ∈ R, ∀ k, x.v.ownBlock = some k → ¬ F k

/-- what a call of a table leaves: its new state and the breaks that it tells, in memory of their own -/
def BrkPost (w : World) (F : Nat → Prop) (p : Nat) (r : Ts × List Bp) (e : Ending) (w' : World) : Prop :=
  ∃ (F' : Nat → Prop) (a : Option Addr) (c : Nat) (R : List Bk), e = .returned (.slice a R.length c) ∧ VAt w' F' p r.1 ∧ R.map Bk.pl = r.2 ∧ Fgrow w F F' ∧ Chg F w w' ∧ BrsAt w' w.heap.size a c R ∧ BrsOut a R F'

theorem brkT_add {t : Ts} {keys : List Ky} {ver : Int} (hn : t.n < 1099511627776) (hq : ¬ t.Q ≤ (t.qs.length : Int)) : brkT t keys ver = ({ t with n := t.n + 1, qs := t.qs ++ [⟨t.e, t.n + 1, ver, false, sortK keys⟩] }, [⟨t.e, t.n + 1, ver, false, sortK keys⟩]) := by
  unfold brkT; rw [if_pos hn, if_neg hq]
theorem brkT_all {t : Ts} {keys : List Ky} {ver : Int} (hn : t.n < 1099511627776) (hq : t.Q ≤ (t.qs.length : Int)) : brkT t keys ver = ({ t with n := t.n + 1, ks := [], qs := [⟨t.e, t.n + 1, ver, true, []⟩] }, [⟨t.e, t.n + 1, ver, true, []⟩]) := by
  unfold brkT; rw [if_pos hn, if_pos hq]
theorem brkT_end {t : Ts} {keys : List Ky} {ver : Int} (hn : ¬ t.n < 1099511627776) : brkT t keys ver = ({ t with ks := [], qs := [] }, []) := by
  unfold brkT; rw [if_neg hn]

theorem brk_add_fin {w W3 w4 : World} {F : Nat → Prop} {p : Nat} {s : Tb} {a1 a2 : Option Addr} {c1 c2 : Nat} {ver : Int} {M : List Ky} {o : Obj} (h : TAt w F p s) (hc : Chg (fun k => k = p) w W3)
    (hk3 : W3.heap[p]? = some (.cells #[.complex .f64 (fl s.e) (fl (s.n + 1)), .int .i64 s.P, .int .i64 s.Q, .slice s.ka s.ks.length s.kc, .slice s.qa s.qs.length s.qc] 66 (0, 0)))
    (ho3 : W3.ownsRow w.heap.size 37 2 (.slice a1 M.length c1) M.length (kyc M)) (hg : (W3.alloc o).grownBy w4 (Value.slice s.qa s.qs.length s.qc).ownBlock)
    (hown4 : w4.ownsRow 0 41 4 (.slice a2 (s.qs.length + 1) c2) (s.qs.length + 1) (bkc s.qs ++ [.complex .f64 (fl s.e) (fl (s.n + 1)), .int .i64 ver, .bool false, .slice a1 M.length c1]))
    (hat : (Value.slice a2 (s.qs.length + 1) c2).ownBlock = (Value.slice s.qa s.qs.length s.qc).ownBlock ∨ (Value.slice a2 (s.qs.length + 1) c2).ownBlock = some (W3.alloc o).heap.size)
    (hn : s.n < 1099511627776) (hq : (s.qs.length : Int) < s.Q) (hM : M.length * 24 ≤ 140737488355328) :
    ∃ F' : Nat → Prop, TAt (w4.setCell ⟨p, 4, none⟩ (.slice a2 (s.qs.length + 1) c2)) F' p { s with n := s.n + 1, qa := a2, qc := c2, qs := s.qs ++ [⟨s.e, s.n + 1, ver, false, a1, c1, M⟩] } ∧ Fgrow w F F' ∧ Chg F w (w4.setCell ⟨p, 4, none⟩ (.slice a2 (s.qs.length + 1) c2)) ∧
      (w4.setCell ⟨p, 4, none⟩ (.slice a2 (s.qs.length + 1) c2)).ownsRow w.heap.size 37 2 (.slice a1 M.length c1) M.length (kyc M) := by
  have hqp : some p ≠ (Value.slice s.qa s.qs.length s.qc).ownBlock := fun e => own_ne h.qrow h.hp (by decide) e.symm
  have kp4 := heap_grown hg (heap_old hk3 o) hqp
  have hC : Chg (fun k => k = p ∨ s.qa.map (·.block) = some k) w (w4.setCell ⟨p, 4, none⟩ (.slice a2 (s.qs.length + 1) c2)) :=
    (Chg.grown ((hc.mono (fun _ _ h => .inl h)).alloc o) hg (fun k hk => .inl (.inr (by rw [← ownBlock_slice]; exact hk)))).setCell _ _ (.inl (.inl rfl))
  have hkey : ∀ {B n : Nat} {v : Value} {xs : List Value}, w.ownsRow B 37 2 v n xs → (w4.setCell ⟨p, 4, none⟩ (.slice a2 (s.qs.length + 1) c2)).ownsRow B 37 2 v n xs := by
    intro B n v xs hx
    refine ownsRow_chg hx fun k hk hl => hC.block k hl ?_
    rintro (rfl | h1)
    · exact own_ne hx h.hp (by decide) hk
    · exact own_ne2 hx h.qrow (by decide) k hk (by rw [ownBlock_slice]; exact h1)
  have hq4 := own_set hown4 (own_ne hown4 kp4 (by decide)) 4 (.slice a2 (s.qs.length + 1) c2)
  have ho4 := own_set (own_grown (own_alloc ho3 o) hg fun k hk => own_ne2 (own_alloc ho3 o) (own_alloc (ownsRow_chg h.qrow fun k hk hl => hc.block k hl (fun e => hqp (by rw [hk, e]))) o) (by decide) k hk) (own_ne ho3 hk3 (by decide)) 4 (.slice a2 (s.qs.length + 1) c2)
  have hsz : (W3.alloc o).heap.size ≤ w4.heap.size := hg.size
  have hw3 := hc.size
  refine ⟨fun k => F k ∨ a2.map (·.block) = some k ∨ a1.map (·.block) = some k, ⟨⟨?_, .inl h.Fp, hkey h.row, fun k hk => .inl (h.Fk k hk), ?_, fun k hk => .inr (.inl hk), ?_, ?_, ?_, ?_⟩, ?_⟩, ?_, ?_, ho4⟩
  · show _ = some (Obj.cells #[_, _, _, _, .slice a2 (s.qs ++ [_]).length c2] _ _)
    rw [List.length_append]; exact heap_set kp4 4 _
  · show World.ownsRow _ _ _ _ (.slice a2 (s.qs ++ [_]).length c2) (s.qs ++ [_]).length (bkc (s.qs ++ [_]))
    rw [List.length_append, bkc_snoc]; exact hq4
  · intro x hx
    rcases List.mem_append.1 hx with hx | hx
    · exact hkey (h.each x hx)
    · obtain rfl := List.mem_singleton.1 hx
      exact ownsRow_mono ho4 (Nat.zero_le _)
  · intro x hx k hk
    rcases List.mem_append.1 hx with hx | hx
    · exact .inl (h.Fe x hx k hk)
    · obtain rfl := List.mem_singleton.1 hx
      exact .inr (.inr (by rw [← ownBlock_slice a1 M.length c1]; exact hk))
  · intro x hx k hk
    rcases List.mem_append.1 hx with hx | hx
    · exact h.apart x hx k hk
    · obtain rfl := List.mem_singleton.1 hx
      intro hk2
      have h1 := (own_lt ho3 (k := k) hk).1
      have h2 := h.Flt k (h.Fk k hk2)
      omega
  · rintro k (hk | hk | hk)
    · exact Nat.lt_of_lt_of_le (h.Flt k hk) hC.size
    · exact (own_lt hq4 (k := k) (by rw [ownBlock_slice]; exact hk)).2
    · exact (own_lt ho4 (k := k) (by rw [ownBlock_slice]; exact hk)).2
  · have o := h.ok
    have e1 := o.hn.1
    have e2 : s.pl.n = s.n := rfl
    refine ⟨o.he, ⟨by show 0 ≤ s.n + 1; omega, by show s.n + 1 ≤ 1099511627776; omega⟩, o.hP, o.hQ, o.hk, ?_, ?_⟩
    · show (((s.qs ++ [_]).map Bk.pl).length : Int) ≤ s.Q
      rw [List.length_map, List.length_append]; simp; omega
    · intro x hx
      have hx' : x ∈ (s.qs ++ [(⟨s.e, s.n + 1, ver, false, a1, c1, M⟩ : Bk)]).map Bk.pl := hx
      rw [List.map_append] at hx'
      rcases List.mem_append.1 hx' with hx | hx
      · obtain ⟨q1, q2, q3, q4⟩ := o.each x hx
        exact ⟨q1, q2, by show x.n ≤ s.n + 1; omega, q4⟩
      · obtain rfl := List.mem_singleton.1 hx
        exact ⟨rfl, by show 0 ≤ s.n + 1; omega, Int.le_refl _, hM⟩
  · rintro k (hk | hk | hk)
    · exact .inl hk
    · rw [ownBlock_slice, ownBlock_slice] at hat
      rcases hat with hat | hat
      · exact .inl (h.Fq k (by rw [← hat]; exact hk))
      · rw [hk] at hat; have := Option.some.inj hat; right; simp at this; omega
    · exact .inr (own_lt ho3 (k := k) (by rw [ownBlock_slice]; exact hk)).1
  · exact hC.mono fun i _ hi => by
      rcases hi with rfl | hi
      · exact h.Fp
      · exact h.Fq i hi

/-- the end of a break: what is told is a copy -/
theorem brk_fin {w W5 w6 : World} {F F' : Nat → Prop} {p : Nat} {t : Ts} {b : Bp} {a5 : Option Addr} {c5 : Nat} (h : VAt W5 F' p t) (hF : Fgrow w F F') (hC : Chg F w W5) (hb : Below W5.heap.size W5 w6)
    (hown : w6.ownsRow W5.heap.size 37 2 (.slice a5 b.ks.length c5) b.ks.length (kyc b.ks)) :
    BrkPost w F p (t, [b]) (.returned (.slice (some ⟨w6.heap.size, 0, none⟩) 1 1)) (w6.alloc (.cells #[.complex .f64 (fl b.ep) (fl b.n), .int .i64 b.ver, .bool b.all, .slice a5 b.ks.length c5] 41)) := by
  have h1 := hC.size
  have h2 := hb.size
  refine ⟨F', some ⟨w6.heap.size, 0, none⟩, 1, [⟨b.ep, b.n, b.ver, b.all, a5, c5, b.ks⟩], rfl, (h.below hb).below (bl1 w6 _), rfl, hF, ?_, ⟨?_, ?_⟩, ?_, ?_⟩
  · exact (hC.trans (Chg.below hb) (fun _ _ h => h) (fun _ _ h => h.elim)).alloc _
  · exact ownsRow_of_whole (heap_new w6 _) rfl (by omega) (by simp [maxLen])
  · intro x hx
    obtain rfl := List.mem_singleton.1 hx
    exact own_alloc (ownsRow_mono hown h1) _
  · intro k hk hf
    have := h.lt k hf
    have := Option.some.inj hk
    simp only at this; omega
  · intro x hx k hk hf
    obtain rfl := List.mem_singleton.1 hx
    have := h.lt k hf
    have := (own_lt hown (k := k) hk).1
    omega

set_option maxRecDepth 100000 in
set_option maxHeartbeats 2000000 in
theorem t_broken_add (w : World) (F : Nat → Prop) (p : Nat) (s : Tb) (v : Value) (keys : List Ky) (ver : Int) (h : TAt w F p s) (hv : w.ownsRow 0 37 2 v keys.length (kyc keys)) (hl : keys.length * 24 ≤ 140737488355328) (hn : s.n < 1099511627776) (hq : (s.qs.length : Int) < s.Q) :
    Calls Try.prog 37 #[.pointer (some ⟨p, 0, none⟩), v, .int .i64 ver] w (BrkPost w F p (brkT s.pl keys ver)) := by
  rw [brkT_add (t := s.pl) hn (by show ¬ s.Q ≤ ((s.qs.map Bk.pl).length : Int); rw [List.length_map]; omega)]
  obtain ⟨va, vc, rfl⟩ := ownsRow_shape hv
  obtain ⟨i1, hi1, hy0, hy1, hy2⟩ := info_parts infoBk
  have HI := hid hi1
  have hpl := blk_lt h.hp
  have b0 := blk5 h.hp
  have hql := h.qlt
  have hok := h.ok
  have HN := hid (show InM s.n from hok.hn)
  have HE := hid (show InM s.e from hok.he)
  have HN1 := hid (show InM (s.n + 1) from ⟨by have := hok.hn.1; have e : s.pl.n = s.n := rfl; omega, by omega⟩)
  have t1 : decide ((s.qs.length : Int) ≥ s.Q) = false := decide_eq_false (by omega)
  have t1' : decide (s.Q ≤ (s.qs.length : Int)) = false := t1
  have HH := hid h
  have hne : some p ≠ (Value.slice va keys.length vc).ownBlock := fun e => own_ne hv h.hp (by decide) e.symm
  have hk1 : (w.setCell ⟨p, 0, none⟩ (.complex .f64 (fl s.e) (fl (s.n + 1)))).heap[p]? = _ := heap_set h.hp 0 (.complex .f64 (fl s.e) (fl (s.n + 1)))
  have HK1 := hid hk1
  have HV1 := hid (own_set hv (fun e => hne e.symm) 0 (.complex .f64 (fl s.e) (fl (s.n + 1))))
  have hqne := own_ne h.qrow h.hp (by decide)
  have hqb : some p ≠ (Value.slice s.qa s.qs.length s.qc).ownBlock := fun e => hqne e.symm
  have HQ1 := hid (own_set h.qrow hqne 0 (.complex .f64 (fl s.e) (fl (s.n + 1))))
  clear h hv hi1 hok hk1 hne hqne
  go_enter Try.func37, Try.ntmps37
  go_wp2_with fail
  refine (next_yes s.e s.n HE.out HN.out hn _).mono ?_; rintro e w1 ⟨rfl, rfl⟩
  go_wp2_with fail
  refine (sorted_keys _ keys _ (Rd.own HV1.out) hl).mono ?_
  rintro e w2 ⟨a1, c1, rfl, hown2, hb2⟩
  have hk2 := heap_below hb2 HK1.out (by simpa using hpl)
  simp only [List.setIfInBounds_toArray, List.set_cons_zero] at hk2
  have b2 := blk5 hk2
  have HK2 := hid hk2
  have HO2 := hid hown2
  have HB2 := hid hb2
  have HQ2 := hid (own_below HQ1.out hb2)
  have hz2 := hb2.size
  simp only [World.size_setCell] at hz2
  clear b0 hk2 hown2 hb2
  have hbx := heap_new w2 (.cells #[.complex .f64 (fl s.e) (fl (s.n + 1)), .int .i64 ver, .bool false, .slice a1 (sortK keys).length c1] 41)
  have bbx := blk4 hbx
  have HBX := hid hbx
  have b2a := blk5 (heap_old HK2.out (.cells #[.complex .f64 (fl s.e) (fl (s.n + 1)), .int .i64 ver, .bool false, .slice a1 (sortK keys).length c1] 41))
  clear hbx
  go_wp2_with fail
  go_quiet (fail)
  obtain ⟨W3, hW3⟩ : ∃ W3, W3 = (w2.alloc (.cells #[.complex .f64 (fl s.e) (fl (s.n + 1)), .int .i64 ver, .bool false, .slice a1 (sortK keys).length c1] 41)).drewN nq := ⟨_, rfl⟩
  have HW3 := hid hW3
  have HK3 := hid (show W3.heap[p]? = some (.cells #[.complex .f64 (fl s.e) (fl (s.n + 1)), .int .i64 s.P, .int .i64 s.Q, .slice s.ka s.ks.length s.kc, .slice s.qa s.qs.length s.qc] 66 (0, 0)) by rw [hW3]; exact heap_old HK2.out _)
  have HBX3 := hid (show W3.heap[w2.heap.size]? = some (.cells #[.complex .f64 (fl s.e) (fl (s.n + 1)), .int .i64 ver, .bool false, .slice a1 (sortK keys).length c1] 41 (0, 0)) by rw [hW3]; exact HBX.out)
  have HQ3 := hid (show W3.ownsRow 0 41 4 (.slice s.qa s.qs.length s.qc) s.qs.length (bkc s.qs) by rw [hW3]; exact own_drewN (own_alloc HQ2.out _) _)
  have hz3 : W3.heap.size = w2.heap.size + 1 := by rw [hW3]; simp
  have hz3' := Nat.le_of_eq hz3.symm
  have HZ3 := hid hz3
  have HB3 := hid (show Below w2.heap.size w2 W3 by rw [hW3]; exact below_drewN (bl1 w2 _) _)
  have b3 := blk5 HK3.out
  have hpl3 := blk_lt HK3.out
  have hbl3 := blk_lt HBX3.out
  have bx3 := blk4 HBX3.out
  rw [← hW3]
  clear hW3 hz3 b2 b2a bbx
  go_wp2_with fail
  go_region_law (first
      | (refine step_append_rd (by rfl) _ _ 31 (by rfl) 0 41 i1 _ 4 56 Try.underlying31 HI.out hy0 hy1 hy2 rfl (by decide) (.slice s.qa s.qs.length s.qc) s.qs.length (bkc s.qs) (by rfl) (own_alloc HQ3.out _) (.slice (some ⟨W3.heap.size, 0, none⟩) 1 1) 1 [.complex .f64 (fl s.e) (fl (s.n + 1)), .int .i64 ver, .bool false, .slice a1 (sortK keys).length c1] (by rfl) (rd_blk (heap_new W3 _) (by unfold maxLen; omega)) rfl (by intro u hu; simp at hu; rcases hu with rfl | rfl | rfl | rfl <;> rfl) (by unfold maxLen; omega) (by omega) (by simp) ?_; intro a2 c2 w4 hown4 hgrow4 hat4; (have kp4 := heap_grown hgrow4 (heap_old HK3.out _) hqb); (have b4 := blk5 kp4)))
  all_goals
    have hC3 : Chg (fun k => k = p) w W3 := by
      have e1 := (Chg.refl (fun k => k = p) w).setCell ⟨p, 0, none⟩ (.complex .f64 (fl s.e) (fl (s.n + 1))) (.inl rfl)
      exact (e1.trans (Chg.below HB2.out) (fun _ _ h => h) (fun _ _ h => h.elim)).trans (Chg.below HB3.out) (fun _ _ h => h) (fun _ _ h => h.elim)
    have hML : (sortK keys).length * 24 ≤ 140737488355328 := by have := sortK_len keys; omega
    have ho3 : W3.ownsRow w.heap.size 37 2 (.slice a1 (sortK keys).length c1) (sortK keys).length (kyc (sortK keys)) := own_below (ownsRow_mono HO2.out (by simp)) HB3.out
    have hg4 : (W3.alloc (.cells #[.complex .f64 (fl s.e) (fl (s.n + 1)), .int .i64 ver, .bool false, .slice a1 (sortK keys).length c1] 41)).grownBy w4 (Value.slice s.qa s.qs.length s.qc).ownBlock := ⟨hgrow4.os, hgrow4.tape, hgrow4.output, hgrow4.size, hgrow4.block⟩
    obtain ⟨F', hT, hFg, hCh, hoM⟩ := brk_add_fin HH.out hC3 HK3.out ho3 hg4 hown4 hat4 hn hq hML
    have HV5 := hid (show VAt _ F' p _ from ⟨_, hT, rfl⟩)
    have HFG := hid hFg
    have HCH := hid hCh
    have HOM := hid hoM
    have hbx4 := heap_set_ne (heap_grown hg4 (heap_old HBX3.out _) (fun e => by
      have e2 := HH.out.Flt _ (HH.out.Fq w2.heap.size (by rw [← ownBlock_slice]; exact e.symm)); omega)) (j := p) 4 (.slice a2 (s.qs.length + 1) c2) (by omega)
    have bx4 := blk4 hbx4
    clear hT hFg hCh hoM hbx4 hC3 ho3 b3 bx3
    go_wp2_with fail
    refine (own_brk s.e (s.n + 1) ver false _ (sortK keys) _ (Rd.own HOM.out) hML).mono ?_
    rintro e w6 ⟨a5, c5, rfl, hown6, hb6⟩
    have hfin := brk_fin (b := ⟨s.e, s.n + 1, ver, false, sortK keys⟩) HV5.out HFG.out HCH.out hb6 hown6
    have HFIN := hid hfin
    clear hfin
    go_wp2
    go_ret
    have h9 := HFIN.out
    have e9 : (s.qs ++ [(⟨s.e, s.n + 1, ver, false, a1, c1, sortK keys⟩ : Bk)]).map Bk.pl = s.pl.qs ++ [⟨s.pl.e, s.pl.n + 1, ver, false, sortK keys⟩] := by rw [List.map_append]; rfl
    simp only [Tb.pl, e9] at h9
    exact h9

end Go.Proofs.Ytakkdaenindboaa
