import Derived.Test.YtakkdaenindboaaVowI
namespace Go.Proofs.Ytakkdaenindboaa
set_option linter.unusedVariables false
set_option linter.unusedSimpArgs false
open Go.RowKit
attribute [local go_sem ↓] Go.wp_at_zero Go.wp_at_succ
attribute [local go_sem] run_store_complex run_store_float

theorem tat_clear {w w' : World} {F : Nat → Prop} {p : Nat} {s : Tb} (n : Int) (h : TAt w F p s) (hc : Chg (fun k => k = p) w w') (hn : s.n ≤ n) (hn2 : n ≤ 1099511627776)
    (hk : w'.heap[p]? = some (.cells #[.complex .f64 (fl s.e) (fl n), .int .i64 s.P, .int .i64 s.Q, .slice none 0 0, .slice none 0 0] 66 (0, 0))) :
    TAt w' F p { s with n := n, ka := none, kc := 0, ks := [], qa := none, qc := 0, qs := [] } := by
  have o := h.ok
  have o1 := o.hP
  have o2 := o.hQ
  refine ⟨⟨hk, h.Fp, World.ownsRow_nil _ _ _ _, by simp, World.ownsRow_nil _ _ _ _, by simp, by simp, by simp, by simp, fun k hk => Nat.lt_of_lt_of_le (h.Flt k hk) hc.size⟩, o.he, ⟨by have e2 : s.pl.n = s.n := rfl; have := o.hn.1; show 0 ≤ n; omega, hn2⟩, o.hP, o.hQ, ?_, ?_, by simp [Tb.pl]⟩
  · show (0 : Int) ≤ s.P; have e : s.pl.P = s.P := rfl; omega
  · show (0 : Int) ≤ s.Q; have e : s.pl.Q = s.Q := rfl; omega

set_option maxHeartbeats 1000000 in
theorem t_broken_end (w : World) (F : Nat → Prop) (p : Nat) (s : Tb) (v : Value) (keys : List Ky) (ver : Int) (h : TAt w F p s) (hn : ¬ s.n < 1099511627776) :
    Calls Try.prog 37 #[.pointer (some ⟨p, 0, none⟩), v, .int .i64 ver] w (BrkPost w F p (brkT s.pl keys ver)) := by
  rw [brkT_end (t := s.pl) hn]
  have hok := h.ok
  have hne : s.n = 1099511627776 := by have := hok.hn.2; have e : s.pl.n = s.n := rfl; omega
  have b0 := blk5 h.hp
  rw [hne] at b0
  have HE := hid (show InM s.e from hok.he)
  have HH := hid h
  have HNE := hid hne
  clear h hok hne hn
  generalize hq2 : fl 1099511627776 = fb0 at b0
  have HQ2 := hid hq2
  clear hq2
  go_enter Try.func37, Try.ntmps37
  go_wp2_with fail
  rw [← HQ2.out]
  refine (next_end s.e HE.out _).mono ?_; rintro e w1 ⟨rfl, rfl⟩
  go_wp2
  go_ret
  have hC : Chg (fun k => k = p) w ((w.setCell ⟨p, 3, none⟩ (.slice none 0 0)).setCell ⟨p, 4, none⟩ (.slice none 0 0)) := chg_set2 w p 3 4 _ _
  have hT := tat_clear s.n HH.out hC (Int.le_refl _) (by have := HNE.out; omega) (heap_set (heap_set HH.out.hp 3 (.slice none 0 0)) 4 (.slice none 0 0))
  exact ⟨F, none, 0, [], rfl, ⟨_, hT, rfl⟩, rfl, fun k hk => .inl hk, hC.mono (fun i _ hi => by subst hi; exact HH.out.Fp), ⟨World.ownsRow_nil _ _ _ _, by simp⟩, by simp [BrsOut]⟩

theorem brk_all_fin {w W3 w4 : World} {F : Nat → Prop} {p : Nat} {s : Tb} {a2 : Option Addr} {c2 : Nat} {ver : Int} {o : Obj} (h : TAt w F p s) (hc : Chg (fun k => k = p) w W3)
    (hk3 : W3.heap[p]? = some (.cells #[.complex .f64 (fl s.e) (fl (s.n + 1)), .int .i64 s.P, .int .i64 s.Q, .slice none 0 0, .slice none 0 0] 66 (0, 0)))
    (hg : (W3.alloc o).grownBy w4 (Value.slice none 0 0).ownBlock)
    (hown4 : w4.ownsRow 0 41 4 (.slice a2 (0 + 1) c2) (0 + 1) ([] ++ [.complex .f64 (fl s.e) (fl (s.n + 1)), .int .i64 ver, .bool true, .slice none 0 0]))
    (hat : (Value.slice a2 (0 + 1) c2).ownBlock = (Value.slice none 0 0).ownBlock ∨ (Value.slice a2 (0 + 1) c2).ownBlock = some (W3.alloc o).heap.size)
    (hn : s.n < 1099511627776) :
    ∃ F' : Nat → Prop, TAt (w4.setCell ⟨p, 4, none⟩ (.slice a2 (0 + 1) c2)) F' p { s with n := s.n + 1, ka := none, kc := 0, ks := [], qa := a2, qc := c2, qs := [⟨s.e, s.n + 1, ver, true, none, 0, []⟩] } ∧ Fgrow w F F' ∧ Chg F w (w4.setCell ⟨p, 4, none⟩ (.slice a2 (0 + 1) c2)) := by
  have kp4 := heap_grown hg (heap_old hk3 o) (by simp [Value.ownBlock])
  have hC : Chg (fun k => k = p) w (w4.setCell ⟨p, 4, none⟩ (.slice a2 (0 + 1) c2)) :=
    (Chg.grown (hc.alloc o) hg (fun k hk => by simp [Value.ownBlock] at hk)).setCell _ _ (.inl rfl)
  have hq4 := own_set hown4 (own_ne hown4 kp4 (by decide)) 4 (.slice a2 (0 + 1) c2)
  have hw3 := hc.size
  have o1 := h.ok
  have o2 := o1.hP
  have o3 := o1.hQ
  have o4 := o1.hn.1
  have e2 : s.pl.n = s.n := rfl
  have e3 : s.pl.P = s.P := rfl
  have e4 : s.pl.Q = s.Q := rfl
  refine ⟨fun k => F k ∨ a2.map (·.block) = some k, ⟨⟨heap_set kp4 4 _, .inl h.Fp, World.ownsRow_nil _ _ _ _, by simp, hq4, fun k hk => .inr hk, ?_, ?_, by simp, ?_⟩, ⟨o1.he, ⟨by show 0 ≤ s.n + 1; omega, by show s.n + 1 ≤ 1099511627776; omega⟩, o1.hP, o1.hQ, by show (0 : Int) ≤ s.P; omega, by show (1 : Int) ≤ s.Q; omega, ?_⟩⟩, ?_, ?_⟩
  · intro x hx
    obtain rfl := List.mem_singleton.1 hx
    exact World.ownsRow_nil _ _ _ _
  · intro x hx k hk
    obtain rfl := List.mem_singleton.1 hx
    simp [Bk.v, Value.ownBlock] at hk
  · rintro k (hk | hk)
    · exact Nat.lt_of_lt_of_le (h.Flt k hk) hC.size
    · exact (own_lt hq4 (k := k) (by rw [ownBlock_slice]; exact hk)).2
  · intro x hx
    have hx' : x ∈ [(⟨s.e, s.n + 1, ver, true, []⟩ : Bp)] := hx
    obtain rfl := List.mem_singleton.1 hx'
    exact ⟨rfl, by show 0 ≤ s.n + 1; omega, Int.le_refl _, by simp⟩
  · rintro k (hk | hk)
    · exact .inl hk
    · rw [ownBlock_slice] at hat
      rcases hat with hat | hat
      · rw [hk] at hat; simp [Value.ownBlock] at hat
      · rw [hk] at hat; have := Option.some.inj hat; right; simp at this; omega
  · exact hC.mono fun i _ hi => by subst hi; exact h.Fp

set_option maxRecDepth 100000 in
set_option maxHeartbeats 2000000 in
theorem t_broken_all (w : World) (F : Nat → Prop) (p : Nat) (s : Tb) (v : Value) (keys : List Ky) (ver : Int) (h : TAt w F p s) (hv : w.ownsRow 0 37 2 v keys.length (kyc keys)) (hl : keys.length * 24 ≤ 140737488355328) (hn : s.n < 1099511627776) (hq : s.Q ≤ (s.qs.length : Int)) :
    Calls Try.prog 37 #[.pointer (some ⟨p, 0, none⟩), v, .int .i64 ver] w (BrkPost w F p (brkT s.pl keys ver)) := by
  rw [brkT_all (t := s.pl) hn (by show s.Q ≤ ((s.qs.map Bk.pl).length : Int); rw [List.length_map]; omega)]
  obtain ⟨va, vc, rfl⟩ := ownsRow_shape hv
  obtain ⟨i1, hi1, hy0, hy1, hy2⟩ := info_parts infoBk
  have HI := hid hi1
  have hpl := blk_lt h.hp
  have b0 := blk5 h.hp
  have hql := h.qlt
  have hok := h.ok
  have HN := hid (show InM s.n from hok.hn)
  have HE := hid (show InM s.e from hok.he)
  have t1 : decide ((s.qs.length : Int) ≥ s.Q) = true := decide_eq_true (by omega)
  have t1' : decide (s.Q ≤ (s.qs.length : Int)) = true := t1
  have HH := hid h
  have hne : some p ≠ (Value.slice va keys.length vc).ownBlock := fun e => own_ne hv h.hp (by decide) e.symm
  have hk1 : (w.setCell ⟨p, 0, none⟩ (.complex .f64 (fl s.e) (fl (s.n + 1)))).heap[p]? = _ := heap_set h.hp 0 (.complex .f64 (fl s.e) (fl (s.n + 1)))
  have HK1 := hid hk1
  have HV1 := hid (own_set hv (fun e => hne e.symm) 0 (.complex .f64 (fl s.e) (fl (s.n + 1))))
  clear h hv hi1 hok hk1 hne
  go_enter Try.func37, Try.ntmps37
  go_wp2_with fail
  refine (next_yes s.e s.n HE.out HN.out hn _).mono ?_; rintro e w1 ⟨rfl, rfl⟩
  go_wp2_with fail
  refine (sorted_keys _ keys _ (Rd.own HV1.out) hl).mono ?_
  rintro e w2 ⟨a1, c1, rfl, hown2, hb2⟩
  have hk2 := heap_below hb2 HK1.out (by simpa using hpl)
  simp only [List.setIfInBounds_toArray, List.set_cons_zero] at hk2
  have b2 := blk5 hk2
  have HK2 := hid hk2
  have HB2 := hid hb2
  have hz2 := hb2.size
  simp only [World.size_setCell] at hz2
  have hbx := heap_new w2 (.cells #[.complex .f64 (fl s.e) (fl (s.n + 1)), .int .i64 ver, .bool false, .slice a1 (sortK keys).length c1] 41)
  have bbx := blk4 hbx
  have HBX := hid hbx
  have b2a := blk5 (heap_old HK2.out (.cells #[.complex .f64 (fl s.e) (fl (s.n + 1)), .int .i64 ver, .bool false, .slice a1 (sortK keys).length c1] 41))
  have hpw2 : ¬ p = w2.heap.size := by omega
  clear hbx hk2 hown2 hb2 b0
  go_wp2_with fail
  go_quiet (fail)
  obtain ⟨W3, hW3⟩ : ∃ W3, W3 = (w2.alloc (.cells #[.complex .f64 (fl s.e) (fl (s.n + 1)), .int .i64 ver, .bool false, .slice a1 (sortK keys).length c1] 41)).drewN nq := ⟨_, rfl⟩
  have HK3 := hid (show W3.heap[p]? = some (.cells #[.complex .f64 (fl s.e) (fl (s.n + 1)), .int .i64 s.P, .int .i64 s.Q, .slice s.ka s.ks.length s.kc, .slice s.qa s.qs.length s.qc] 66 (0, 0)) by rw [hW3]; exact heap_old HK2.out _)
  have HBX3 := hid (show W3.heap[w2.heap.size]? = some (.cells #[.complex .f64 (fl s.e) (fl (s.n + 1)), .int .i64 ver, .bool false, .slice a1 (sortK keys).length c1] 41 (0, 0)) by rw [hW3]; exact HBX.out)
  have HB3 := hid (show Below w2.heap.size w2 W3 by rw [hW3]; exact below_drewN (bl1 w2 _) _)
  have b3 := blk5 HK3.out
  have bx3 := blk4 HBX3.out
  have hpl3 := blk_lt HK3.out
  have hbl3 := blk_lt HBX3.out
  rw [← hW3]
  clear hW3 b2 b2a bbx
  go_wp2_with fail
  obtain ⟨W4, hW4⟩ : ∃ W4, W4 = ((((W3.setCell ⟨p, 3, none⟩ (.slice none 0 0)).setCell ⟨p, 4, none⟩ (.slice none 0 0)).setCell ⟨w2.heap.size, 2, none⟩ (.bool true)).setCell ⟨w2.heap.size, 3, none⟩ (.slice none 0 0)) := ⟨_, rfl⟩
  have HK4 := hid (show W4.heap[p]? = some (.cells #[.complex .f64 (fl s.e) (fl (s.n + 1)), .int .i64 s.P, .int .i64 s.Q, .slice none 0 0, .slice none 0 0] 66 (0, 0)) by rw [hW4]; exact heap_set_ne (heap_set_ne (heap_set (heap_set HK3.out 3 _) 4 _) 2 _ hpw2) 3 _ hpw2)
  have HBX4 := hid (show W4.heap[w2.heap.size]? = some (.cells #[.complex .f64 (fl s.e) (fl (s.n + 1)), .int .i64 ver, .bool true, .slice none 0 0] 41 (0, 0)) by rw [hW4]; exact heap_set (heap_set (heap_set_ne (heap_set_ne HBX3.out 3 _ (by omega)) 4 _ (by omega)) 2 _) 3 _)
  have hz4 : W4.heap.size = W3.heap.size := by rw [hW4]; simp
  have hpl4 : p < W4.heap.size := by omega
  have hbl4 : w2.heap.size < W4.heap.size := by omega
  have b4 := blk5 HK4.out
  have bx4 := blk4 HBX4.out
  have hC4 : Chg (fun k => k = p) w W4 := by
    rw [hW4]
    have e1 := (Chg.refl (fun k => k = p) w).setCell ⟨p, 0, none⟩ (.complex .f64 (fl s.e) (fl (s.n + 1))) (.inl rfl)
    have e2 := (e1.trans (Chg.below HB2.out) (fun _ _ h => h) (fun _ _ h => h.elim)).trans (Chg.below HB3.out) (fun _ _ h => h) (fun _ _ h => h.elim)
    have hww : w.heap.size ≤ w2.heap.size := hz2
    exact (((e2.setCell ⟨p, 3, none⟩ _ (.inl rfl)).setCell ⟨p, 4, none⟩ _ (.inl rfl)).setCell ⟨w2.heap.size, 2, none⟩ _ (.inr hww)).setCell ⟨w2.heap.size, 3, none⟩ _ (.inr hww)
  have HC4 := hid hC4
  rw [← hW4]
  clear hW4 hC4 hz4 b3 bx3 hpl3 hbl3
  go_region_law (first
      | (refine step_append_rd (by rfl) _ _ 31 (by rfl) 0 41 i1 _ 4 56 Try.underlying31 HI.out hy0 hy1 hy2 rfl (by decide) (.slice none 0 0) 0 [] (by rfl) (World.ownsRow_nil _ _ _ _) (.slice (some ⟨W4.heap.size, 0, none⟩) 1 1) 1 [.complex .f64 (fl s.e) (fl (s.n + 1)), .int .i64 ver, .bool true, .slice none 0 0] (by rfl) (rd_blk (heap_new W4 _) (by unfold maxLen; omega)) rfl (by intro u hu; simp at hu; rcases hu with rfl | rfl | rfl | rfl <;> rfl) (by unfold maxLen; omega) (by omega) (by simp) ?_; intro a2 c2 w4 hown4 hgrow4 hat4; (have kp4 := heap_grown hgrow4 (heap_old HK4.out _) (by simp [Value.ownBlock])); (have b5 := blk5 kp4)))
  all_goals
    have hg4 : (W4.alloc (.cells #[.complex .f64 (fl s.e) (fl (s.n + 1)), .int .i64 ver, .bool true, .slice none 0 0] 41)).grownBy w4 (Value.slice none 0 0).ownBlock := ⟨hgrow4.os, hgrow4.tape, hgrow4.output, hgrow4.size, hgrow4.block⟩
    obtain ⟨F', hT, hFg, hCh⟩ := brk_all_fin HH.out HC4.out HK4.out hg4 hown4 hat4 hn
    have HV5 := hid (show VAt _ F' p _ from ⟨_, hT, rfl⟩)
    have HFG := hid hFg
    have HCH := hid hCh
    have hbx5 := heap_set_ne (heap_grown hg4 (heap_old HBX4.out _) (by simp [Value.ownBlock])) (j := p) 4 (.slice a2 (0 + 1) c2) (by omega)
    have bx5 := blk4 hbx5
    clear hT hFg hCh hbx5 b4 bx4
    go_wp2_with fail
    refine (own_brk s.e (s.n + 1) ver true _ [] _ (Rd.nil _) (by simp)).mono ?_
    rintro e w6 ⟨a5, c5, rfl, hown6, hb6⟩
    have HFIN := hid (brk_fin (b := ⟨s.e, s.n + 1, ver, true, []⟩) HV5.out HFG.out HCH.out hb6 hown6)
    go_wp2
    go_ret
    exact HFIN.out

end Go.Proofs.Ytakkdaenindboaa
