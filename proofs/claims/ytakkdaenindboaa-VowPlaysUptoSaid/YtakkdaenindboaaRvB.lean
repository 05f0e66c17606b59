import Derived.Test.YtakkdaenindboaaRvA
namespace Go.Proofs.Ytakkdaenindboaa
set_option linter.unusedVariables false
set_option linter.unusedSimpArgs false
open Go.RowKit
attribute [local go_sem ↓] Go.wp_at_zero Go.wp_at_succ
attribute [local go_sem] run_store_complex run_store_float

/-- the document's table in memory at p, all of its blocks among F -/
structure RMem (w : World) (F : Nat → Prop) (p : Nat) (s : Tb) : Prop where
  hp : w.heap[p]? = some (.cells #[.int .i64 s.P, .int .i64 s.Q, .slice s.ka s.ks.length s.kc, .complex .f64 (fl s.e) (fl s.n), .slice s.qa s.qs.length s.qc] 78 (0, 0))
  Fp : F p
  row : w.ownsRow 0 37 2 (.slice s.ka s.ks.length s.kc) s.ks.length (kyc s.ks)
  Fk : ∀ k, s.ka.map (·.block) = some k → F k
  qrow : w.ownsRow 0 41 4 (.slice s.qa s.qs.length s.qc) s.qs.length (bkc s.qs)
  Fq : ∀ k, s.qa.map (·.block) = some k → F k
  each : ∀ x ∈ s.qs, w.ownsRow 0 37 2 x.v x.ks.length (kyc x.ks)
  Fe : ∀ x ∈ s.qs, ∀ k, x.v.ownBlock = some k → F k
  apart : ∀ x ∈ s.qs, ∀ k, x.v.ownBlock = some k → s.ka.map (·.block) ≠ some k
  Flt : ∀ k, F k → k < w.heap.size
structure RAt (w : World) (F : Nat → Prop) (p : Nat) (s : Tb) : Prop extends RMem w F p s where
  ok : TOk s.pl
theorem RMem.chg {w w' : World} {F G : Nat → Prop} {p : Nat} {s : Tb} (h : RMem w F p s) (hc : Chg G w w') (hG : ∀ k, F k → ¬ G k) : RMem w' F p s :=
  ⟨heap_chg hc h.hp (hG _ h.Fp), h.Fp, ownsRow_chg h.row fun k hk hl => hc.block k hl (hG k (h.Fk k (by rw [← hk, ownBlock_slice]))), h.Fk,
   ownsRow_chg h.qrow fun k hk hl => hc.block k hl (hG k (h.Fq k (by rw [← hk, ownBlock_slice]))), h.Fq,
   fun x hx => ownsRow_chg (h.each x hx) fun k hk hl => hc.block k hl (hG k (h.Fe x hx k hk)), h.Fe, h.apart, fun k hk => Nat.lt_of_lt_of_le (h.Flt k hk) hc.size⟩
theorem RMem.below {w w' : World} {F : Nat → Prop} {p : Nat} {s : Tb} (h : RMem w F p s) (hb : Below w.heap.size w w') : RMem w' F p s :=
  h.chg (Chg.below hb) fun _ _ h => h
theorem RAt.chg {w w' : World} {F G : Nat → Prop} {p : Nat} {s : Tb} (h : RAt w F p s) (hc : Chg G w w') (hG : ∀ k, F k → ¬ G k) : RAt w' F p s := ⟨h.toRMem.chg hc hG, h.ok⟩
theorem RAt.rowlt {w : World} {F : Nat → Prop} {p : Nat} {s : Tb} (h : RAt w F p s) : s.ks.length ≤ 32 := by
  have h1 := h.ok.hk; have h2 := h.ok.hP
  have e1 : s.pl.ks = s.ks := rfl
  rw [e1] at h1; omega
theorem RAt.qlt {w : World} {F : Nat → Prop} {p : Nat} {s : Tb} (h : RAt w F p s) : s.qs.length ≤ 16 := by
  have h1 := h.ok.hq; have h2 := h.ok.hQ
  have e1 : s.pl.qs = s.qs.map Bk.pl := rfl
  rw [e1, List.length_map] at h1; omega
/-- the document's table in plain words, in memory -/
def XAt (w : World) (F : Nat → Prop) (p : Nat) (t : Ts) : Prop := ∃ s, RAt w F p s ∧ s.pl = t
theorem XAt.chg {w w' : World} {F G : Nat → Prop} {p : Nat} {t : Ts} (h : XAt w F p t) (hc : Chg G w w') (hG : ∀ k, F k → ¬ G k) : XAt w' F p t := by
  obtain ⟨s, h1, h2⟩ := h; exact ⟨s, h1.chg hc hG, h2⟩
theorem XAt.below {w w' : World} {F : Nat → Prop} {p : Nat} {t : Ts} (h : XAt w F p t) (hb : Below w.heap.size w w') : XAt w' F p t :=
  h.chg (Chg.below hb) fun _ _ h => h
theorem XAt.lt {w : World} {F : Nat → Prop} {p : Nat} {t : Ts} (h : XAt w F p t) : ∀ k, F k → k < w.heap.size := by obtain ⟨s, h1, h2⟩ := h; exact h1.Flt
theorem XAt.ok {w : World} {F : Nat → Prop} {p : Nat} {t : Ts} (h : XAt w F p t) : TOk t := by obtain ⟨s, h1, rfl⟩ := h; exact h1.ok

/-- another row of keys is stored -/
theorem RMem.setk {w W : World} {F : Nat → Prop} {p : Nat} {s : Tb} {a : Option Addr} {c : Nat} {M : List Ky} (h : RMem w F p s) (hb : Below w.heap.size w W) (hr : W.ownsRow w.heap.size 37 2 (.slice a M.length c) M.length (kyc M)) :
    ∃ F' : Nat → Prop, RMem (W.setCell ⟨p, 2, none⟩ (.slice a M.length c)) F' p { s with ka := a, kc := c, ks := M } ∧ Fgrow w F F' ∧ Chg F w (W.setCell ⟨p, 2, none⟩ (.slice a M.length c)) := by
  have hp := heap_below hb h.hp (blk_lt h.hp)
  have hC : Chg (fun k => k = p) w (W.setCell ⟨p, 2, none⟩ (.slice a M.length c)) := ((Chg.below hb).mono (fun _ _ h => h.elim)).setCell _ _ (.inl rfl)
  have hr2 := own_set hr (own_ne hr hp (by decide)) 2 (.slice a M.length c)
  refine ⟨fun k => F k ∨ a.map (·.block) = some k, ⟨heap_set hp 2 _, .inl h.Fp, ownsRow_mono hr2 (Nat.zero_le _), fun k hk => .inr hk, ?_, fun k hk => .inl (h.Fq k hk), ?_, fun x hx k hk => .inl (h.Fe x hx k hk), ?_, ?_⟩, ?_, hC.mono fun i _ hi => by subst hi; exact h.Fp⟩
  · exact ownsRow_chg h.qrow fun k hk hl => hC.block k hl fun e => by subst e; exact own_ne h.qrow h.hp (by decide) hk
  · exact fun x hx => ownsRow_chg (h.each x hx) fun k hk hl => hC.block k hl fun e => by subst e; exact own_ne (h.each x hx) h.hp (by decide) hk
  · intro x hx k hk hk2
    have h1 := (own_lt (h.each x hx) hk).2
    have h2 := (own_lt hr (k := k) (by rw [ownBlock_slice]; exact hk2)).1
    omega
  · rintro k (hk | hk)
    · exact Nat.lt_of_lt_of_le (h.Flt k hk) hC.size
    · exact (own_lt hr2 (k := k) (by rw [ownBlock_slice]; exact hk)).2
  · rintro k (hk | hk)
    · exact .inl hk
    · exact .inr (own_lt hr (k := k) (by rw [ownBlock_slice]; exact hk)).1
/-- other breaks are stored, all of which were there -/
theorem RMem.setq {w W : World} {F : Nat → Prop} {p : Nat} {s : Tb} {a : Option Addr} {c : Nat} {R : List Bk} (h : RMem w F p s) (hb : Below w.heap.size w W) (hr : W.ownsRow w.heap.size 41 4 (.slice a R.length c) R.length (bkc R)) (hR : ∀ x ∈ R, x ∈ s.qs) :
    ∃ F' : Nat → Prop, RMem (W.setCell ⟨p, 4, none⟩ (.slice a R.length c)) F' p { s with qa := a, qc := c, qs := R } ∧ Fgrow w F F' ∧ Chg F w (W.setCell ⟨p, 4, none⟩ (.slice a R.length c)) := by
  have hp := heap_below hb h.hp (blk_lt h.hp)
  have hC : Chg (fun k => k = p) w (W.setCell ⟨p, 4, none⟩ (.slice a R.length c)) := ((Chg.below hb).mono (fun _ _ h => h.elim)).setCell _ _ (.inl rfl)
  have hr2 := own_set hr (own_ne hr hp (by decide)) 4 (.slice a R.length c)
  refine ⟨fun k => F k ∨ a.map (·.block) = some k, ⟨heap_set hp 4 _, .inl h.Fp, ?_, fun k hk => .inl (h.Fk k hk), ownsRow_mono hr2 (Nat.zero_le _), fun k hk => .inr hk, ?_, fun x hx k hk => .inl (h.Fe x (hR x hx) k hk), fun x hx => h.apart x (hR x hx), ?_⟩, ?_, hC.mono fun i _ hi => by subst hi; exact h.Fp⟩
  · exact ownsRow_chg h.row fun k hk hl => hC.block k hl fun e => by subst e; exact own_ne h.row h.hp (by decide) hk
  · exact fun x hx => ownsRow_chg (h.each x (hR x hx)) fun k hk hl => hC.block k hl fun e => by subst e; exact own_ne (h.each x (hR x hx)) h.hp (by decide) hk
  · rintro k (hk | hk)
    · exact Nat.lt_of_lt_of_le (h.Flt k hk) hC.size
    · exact (own_lt hr2 (k := k) (by rw [ownBlock_slice]; exact hk)).2
  · rintro k (hk | hk)
    · exact .inl hk
    · exact .inr (own_lt hr (k := k) (by rw [ownBlock_slice]; exact hk)).1

set_option maxHeartbeats 1000000 in
theorem r_holds (w : World) (F : Nat → Prop) (p : Nat) (s : Tb) (kd : Int) (kn : ByteArray) (h : RMem w F p s) (hl : s.ks.length ≤ 9000000000) :
    Calls Try.prog 29 #[.pointer (some ⟨p, 0, none⟩), .agg #[.int .i64 kd, .string kn]] w fun e w' => e = .returned (.bool (decide ((⟨kd, kn⟩ : Ky) ∈ s.ks))) ∧ Below w.heap.size w w' := by
  have HBX := hid (heap_new w (.cells #[.int .i64 kd, .string kn] 37))
  have HP := hid (heap_old h.hp (.cells #[.int .i64 kd, .string kn] 37))
  have HR := hid (Rd.own (own_alloc h.row (.cells #[.int .i64 kd, .string kn] 37)))
  clear h
  go_enter Try.func29, Try.ntmps29
  go_wp2_with fail
  go_loopw [5] (fun v8 wr => ∃ k : Nat, k ≤ s.ks.length ∧ v8 = .int .i64 k ∧ Hid (⟨kd, kn⟩ ∉ s.ks.take k) ∧ Hid (Dr (w.alloc (.cells #[.int .i64 kd, .string kn] 37)) wr)) (fun v8 _ => s.ks.length - (intOf v8).toNat)
  case atStart => exact ⟨0, Nat.zero_le _, rfl, hid (by simp), hid (Dr.refl _)⟩
  case round =>
    obtain ⟨k, hk, rfl, HT, HDR⟩ := hrel
    have b0 := blk5 (show wr.heap[p]? = some (.cells #[.int .i64 s.P, .int .i64 s.Q, .slice s.ka s.ks.length s.kc, .complex .f64 (fl s.e) (fl s.n), .slice s.qa s.qs.length s.qc] 78 (0, 0)) by rw [HDR.out.heap]; exact HP.out)
    by_cases hlt : k < s.ks.length
    · obtain ⟨b, off, hba⟩ := ks_loc HR.out (by omega)
      obtain ⟨x, hx⟩ : ∃ x, s.ks[k]? = some x := ⟨_, List.getElem?_eq_getElem hlt⟩
      have c1 := ks_at (show Rd wr (.slice (some ⟨b, off, none⟩) s.ks.length s.kc) s.ks.length (kyc s.ks) by rw [← hba]; exact HDR.out.rd HR.out) (Below.refl _ _) hx
      rw [hba] at b0
      have q0 := HDR.out.cell (blk2 HBX.out).1
      have q1 := HDR.out.cell (blk2 HBX.out).2.1
      have heq := fun W => eqIn_key x.dir kd x.name kn W
      have HX := hid hx
      have hk0 : (0 : Int) ≤ (k : Int) := by omega
      have hk1 : (k : Int) < (s.ks.length : Int) := by omega
      clear hx hba
      by_cases he : (⟨x.dir, x.name⟩ : Ky) = ⟨kd, kn⟩
      · have HE := hid (decide_eq_true (show (⟨kd, kn⟩ : Ky) ∈ s.ks by rw [← he]; exact List.mem_of_getElem? HX.out))
        simp only [decide_eq_true he] at heq
        clear he
        go_wp2_with fail
        go_quiet (fail)
        go_wp2
        go_ret
        exact ⟨by rw [HE.out]; rfl, below_drewN ((bl1 w _).trans (HDR.out.below _)) _⟩
      · have HE := hid (show (⟨kd, kn⟩ : Ky) ∉ s.ks.take (k + 1) by
          rw [List.take_add_one, HX.out]; simp only [Option.toList_some, List.mem_append, List.mem_singleton, not_or]; exact ⟨HT.out, fun h => he h.symm⟩)
        simp only [decide_eq_false he] at heq
        clear he
        go_wp2_with fail
        go_quiet (fail)
        go_wp2
        exact ⟨⟨k + 1, by omega, by go_num, HE, hid (HDR.out.drewN _)⟩, by simp [intOf]; omega⟩
    · have HE := hid (decide_eq_false (show (⟨kd, kn⟩ : Ky) ∉ s.ks by have := HT.out; rwa [List.take_of_length_le (by omega)] at this))
      go_wp2
      go_ret
      exact ⟨by rw [HE.out]; rfl, (bl1 w _).trans (HDR.out.below _)⟩

set_option maxHeartbeats 1000000 in
theorem r_without (w : World) (F : Nat → Prop) (p : Nat) (s : Tb) (kd : Int) (kn : ByteArray) (h : RMem w F p s) (hl : s.ks.length ≤ 9000000000) :
    Calls Try.prog 47 #[.pointer (some ⟨p, 0, none⟩), .agg #[.int .i64 kd, .string kn]] w fun e w' => e = .returned (.tuple #[]) ∧ ∃ (F' : Nat → Prop) (a : Option Addr) (c : Nat), RMem w' F' p { s with ka := a, kc := c, ks := relL s.ks ⟨kd, kn⟩ } ∧ Fgrow w F F' ∧ Chg F w w' := by
  have HBX := hid (heap_new w (.cells #[.int .i64 kd, .string kn] 37))
  have HH := hid h
  have hpl := blk_lt h.hp
  obtain ⟨i2, hi2, p2, q2, r2⟩ := info_parts infoKy
  have HI2 := hid hi2
  clear h hi2
  go_enter Try.func47, Try.ntmps47
  go_wp2_with fail
  go_loopw [4, 5] (fun v4 v5 wr => ∃ (k : Nat) (la : Option Addr) (lc : Nat) (LF : List Ky), k ≤ s.ks.length ∧ v5 = .int .i64 k ∧ v4 = .slice la LF.length lc ∧ LF.length ≤ k ∧ Hid (LF = relL (s.ks.take k) ⟨kd, kn⟩) ∧ Hid (Below w.heap.size w wr) ∧ Hid (wr.heap[w.heap.size]? = some (.cells #[.int .i64 kd, .string kn] 37 (0, 0))) ∧
    Hid (wr.ownsRow (w.heap.size + 1) 37 2 (.slice la LF.length lc) LF.length (kyc LF))) (fun _ v5 _ => s.ks.length - (intOf v5).toNat)
  case atStart => exact ⟨0, none, 0, [], Nat.zero_le _, rfl, rfl, by simp, hid (by simp [relL]), hid (bl1 w _), HBX, hid (World.ownsRow_nil _ _ _ _)⟩
  case round =>
    obtain ⟨k, la, lc, LF, hk, rfl, rfl, hLk, HLD, HB, HBR, HO⟩ := hrel
    obtain ⟨wk, hwk⟩ : ∃ wk, wk = wr := ⟨_, rfl⟩
    subst hwk
    have b0 := blk5 (heap_below HB.out HH.out.hp hpl)
    have hsz := blk_lt HBR.out
    by_cases hlt : k < s.ks.length
    · obtain ⟨b, off, hba⟩ := ks_loc (Rd.own HH.out.row) (by omega)
      obtain ⟨x, hx⟩ : ∃ x, s.ks[k]? = some x := ⟨_, List.getElem?_eq_getElem hlt⟩
      have HRD := hid (show Rd w (.slice (some ⟨b, off, none⟩) s.ks.length s.kc) s.ks.length (kyc s.ks) by rw [← hba]; exact Rd.own HH.out.row)
      have c1 := ks_at HRD.out HB.out hx
      rw [hba] at b0
      have HBA := hid hba
      have q0 := (blk2 HBR.out).1
      have q1 := (blk2 HBR.out).2.1
      have heq := fun W => eqIn_key x.dir kd x.name kn W
      have HX := hid hx
      have hk0 : (0 : Int) ≤ (k : Int) := by omega
      have hk1 : (k : Int) < (s.ks.length : Int) := by omega
      clear hx hba
      by_cases he : (⟨x.dir, x.name⟩ : Ky) = ⟨kd, kn⟩
      · have HE := hid (show LF = relL (s.ks.take (k + 1)) ⟨kd, kn⟩ by rw [relL, filter_snoc_no HX.out (by simp [show x = (⟨kd, kn⟩ : Ky) from he])]; exact HLD.out)
        simp only [decide_eq_true he] at heq
        clear he
        go_wp2_with fail
        go_quiet (fail)
        go_wp2
        exact ⟨⟨k + 1, la, lc, LF, by omega, by go_num, rfl, by omega, HE, hid (below_drewN HB.out _), hid HBR.out, hid (own_drewN HO.out _)⟩, by simp [intOf]; omega⟩
      · have HE := hid (show LF ++ [x] = relL (s.ks.take (k + 1)) ⟨kd, kn⟩ by rw [relL, filter_snoc_yes HX.out (by simp [show ¬ x = (⟨kd, kn⟩ : Ky) from he]), HLD.out]; rfl)
        simp only [decide_eq_false he] at heq
        clear he
        go_wp2_with fail
        go_quiet (fail)
        obtain ⟨w5, hw5⟩ : ∃ w5, w5 = wk.drewN nq := ⟨_, rfl⟩
        rw [← hw5]
        have HB5 := hid (show Below w.heap.size w w5 by rw [hw5]; exact below_drewN HB.out _)
        have HO5 := hid (show w5.ownsRow (w.heap.size + 1) 37 2 (.slice la LF.length lc) LF.length (kyc LF) by rw [hw5]; exact own_drewN HO.out _)
        have HBR5 := hid (show w5.heap[w.heap.size]? = some (.cells #[.int .i64 kd, .string kn] 37 (0, 0)) by rw [hw5]; exact HBR.out)
        have b5 := blk5 (heap_below HB5.out HH.out.hp hpl)
        have c5 := ks_at HRD.out HB5.out HX.out
        have hsz5 := blk_lt HBR5.out
        have hlen2 : LF.length + 1 = (LF ++ [x]).length := by rw [List.length_append]; rfl
        have HLN := hid hlen2
        rw [HBA.out] at b5
        clear b0 c1 q0 q1 heq hw5 hlen2
        go_wp2_with (at_builtin; refine wpList_append_rd rfl _ _ 28 rfl (w.heap.size + 1) 37 i2 _ 2 24 Try.underlying28 HI2.out p2 q2 r2 rfl (by decide) (.slice la LF.length lc) LF.length (kyc LF) rfl (own_alloc HO5.out _) (.slice (some ⟨w5.heap.size, 0, none⟩) 1 1) 1 [.int .i64 x.dir, .string x.name] rfl (rd_blk (heap_new w5 _) (by unfold maxLen; omega)) rfl (by intro u hu; simp at hu; rcases hu with rfl | rfl <;> rfl) (by unfold maxLen; omega) (by omega) (by simp; omega) ?_; intro a2 c2 w2 hown2 hgrow2 hat2)
        have HB2 := hid ((HB5.out.alloc (by omega) (.cells #[.int .i64 x.dir, .string x.name] 37)).grown hgrow2 (by simp; omega) fun k hk => by have := (own_lt HO5.out hk).1; omega)
        have HBR2 := hid (heap_grown hgrow2 (heap_old HBR5.out (.cells #[.int .i64 x.dir, .string x.name] 37)) (fun e => by have := (own_lt HO5.out e.symm).1; omega))
        exact ⟨⟨k + 1, a2, c2, LF ++ [x], by omega, by go_num, by rw [← HLN.out], by rw [← HLN.out]; omega, HE, HB2, HBR2, hid (by rw [List.length_append, kyc_snoc]; exact hown2)⟩, by simp [intOf]; omega⟩
    · have HE := hid (show LF = relL s.ks ⟨kd, kn⟩ by have := HLD.out; rwa [List.take_of_length_le (by omega)] at this)
      go_wp2
      go_end0
      obtain ⟨F', h1, h2, h3⟩ := HH.out.setk HB.out (ownsRow_mono HO.out (Nat.le_succ _))
      refine ⟨rfl, F', la, lc, ?_, h2, h3⟩
      rw [← HE.out]; exact h1

end Go.Proofs.Ytakkdaenindboaa
