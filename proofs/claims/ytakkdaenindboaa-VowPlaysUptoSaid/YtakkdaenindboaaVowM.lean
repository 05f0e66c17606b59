import Derived.Test.YtakkdaenindboaaVowL
namespace Go.Proofs.Ytakkdaenindboaa
set_option linter.unusedVariables false
set_option linter.unusedSimpArgs false
open Go.RowKit
attribute [local go_sem ↓] Go.wp_at_zero Go.wp_at_succ
attribute [local go_sem] run_store_complex run_store_float

def AckOk (t : Ts) (a b : Int) : Prop := InM a ∧ InM b ∧ a = t.e ∧ b ≤ t.n

set_option maxHeartbeats 1000000 in
theorem v_ack_no (w : World) (F : Nat → Prop) (p : Nat) (t : Ts) (a b : Int) (ha : I64 a) (hb : I64 b) (h : VAt w F p t) (hn : ¬ AckOk t a b) :
    Calls Try.prog 27 #[.pointer (some ⟨p, 0, none⟩), .complex .f64 (fl a) (fl b)] w fun e w' => e = .returned (.bool false) ∧ Below w.heap.size w w' := by
  obtain ⟨s, h, rfl⟩ := h
  have b0 := blk5 (heap_old h.hp (.cells #[.complex .f64 (fl a) (fl b)] 39))
  have bx := blk1 (heap_new w (.cells #[.complex .f64 (fl a) (fl b)] 39))
  have HA := hid ha
  have HB := hid hb
  have HE := hid (show InM s.e from h.ok.he)
  have HN := hid (show InM s.n from h.ok.hn)
  have HNO := hid hn
  clear h ha hb hn
  go_enter Try.func27, Try.ntmps27
  go_wp2_with fail
  go_region_held3 (fun w' => w'.cell? ⟨p, 0, none⟩ = some (.complex .f64 (fl s.e) (fl s.n)) ∧ w'.cell? ⟨w.heap.size, 0, none⟩ = some (.complex .f64 (fl a) (fl b)))
    (first | go_keep | exact ⟨by assumption, by assumption⟩)
    (first
      | (go_at_call 42; refine (gap_no a b s.e s.n HA.out HB.out HE.out HN.out (fun h => HNO.out ⟨h.1, h.2.1, h.2.2.1, h.2.2.2⟩) _).mono ?_; rintro e w1 ⟨rfl, rfl⟩))
  go_wp2
  go_ret
  exact ⟨rfl, (bl1 w _).drew⟩

theorem filter_map_pl (qs : List Bk) (b : Int) : (qs.filter fun x => !(!decide (b < x.n))).map Bk.pl = (qs.map Bk.pl).filter fun x => decide (b < x.n) := by
  rw [List.filter_map]
  congr 1
  apply List.filter_congr
  intro x _
  show (!(!decide (b < x.n))) = decide (b < (Bk.pl x).n)
  rw [Bool.not_not]; rfl

set_option maxHeartbeats 1000000 in
theorem v_ack_yes (w : World) (F : Nat → Prop) (p : Nat) (t : Ts) (a b : Int) (h : VAt w F p t) (hn : AckOk t a b) :
    Calls Try.prog 27 #[.pointer (some ⟨p, 0, none⟩), .complex .f64 (fl a) (fl b)] w fun e w' => e = .returned (.bool true) ∧ VAt w' F p { t with qs := t.qs.filter fun x => decide (b < x.n) } ∧ Chg F w w' := by
  obtain ⟨s, h, rfl⟩ := h
  obtain ⟨ha, hb, hae, hbn⟩ := hn
  have hae' : a = s.e := hae
  have hbn' : b ≤ s.n := hbn
  subst hae'
  have b0 := blk5 (heap_old h.hp (.cells #[.complex .f64 (fl s.e) (fl b)] 39))
  have hbx := heap_new w (.cells #[.complex .f64 (fl s.e) (fl b)] 39)
  have bx := blk1 hbx
  have HA := hid ha
  have HB := hid hb
  have HN := hid (show InM s.n from h.ok.hn)
  have HH := hid h
  have HBX := hid (show (World.drew (w.alloc (.cells #[.complex .f64 (fl s.e) (fl b)] 39))).heap[w.heap.size]? = some (.cells #[.complex .f64 (fl s.e) (fl b)] 39 (0, 0)) from hbx)
  have hpl := blk_lt h.hp
  have hql := h.qlt
  have hcl : ∀ (x : Bk) (W : World), x ∈ s.qs → W.heap[w.heap.size]? = some (.cells #[.complex .f64 (fl s.e) (fl b)] 39 (0, 0)) → Calls Try.prog 44 #[.agg #[.complex .f64 (fl x.ep) (fl x.n), .int .i64 x.ver, .bool x.all, .slice x.a x.ks.length x.c], .pointer (some ⟨w.heap.size, 0, none⟩)] W fun e w' => e = .returned (.bool (!decide (b < x.n))) ∧ Below W.heap.size W w' := by
    intro x W hx hq
    obtain ⟨o1, o2, o3, _⟩ := HH.out.ok.each x.pl (List.mem_map.2 ⟨x, hx, rfl⟩)
    have o4 : x.n ≤ s.n := o3
    have o5 : 0 ≤ x.n := o2
    exact ack_close w.heap.size s.e b x W o1 HA.out HB.out ⟨o5, by have := HN.out.2; omega⟩ hq
  have HCL := hid hcl
  have hqa : s.qa.map (·.block) ≠ some w.heap.size := fun e => by have := h.Flt _ (h.Fq _ e); omega
  have HQA := hid hqa
  have hpq : s.qa.map (·.block) ≠ some p := fun e => own_ne h.qrow h.hp (by decide) (by rw [ownBlock_slice]; exact e)
  have HPQ := hid hpq
  clear h ha hb hcl hqa hpq hae hbx
  go_enter Try.func27, Try.ntmps27
  go_wp2_with fail
  go_region_held3 (fun w' => w'.cell? ⟨p, 0, none⟩ = some (.complex .f64 (fl s.e) (fl s.n)) ∧ w'.cell? ⟨w.heap.size, 0, none⟩ = some (.complex .f64 (fl s.e) (fl b)))
    (first | go_keep | exact ⟨by assumption, by assumption⟩)
    (first
      | (go_at_call 42; refine (gap_yes s.e b s.n HA.out HB.out HN.out hbn' _).mono ?_; rintro e w1 ⟨rfl, rfl⟩))
  go_wp2_with fail
  refine (deleteFunc_brk 0 s.qa s.qc s.qs _ w.heap.size _ _ (own_drew (own_alloc HH.out.qrow _)) HBX.out HQA.out (Nat.zero_le _) HCL.out).mono ?_
  rintro e w1 ⟨M, hM, rfl, HO, hch⟩
  have hp1 := heap_chg hch (show (World.drew _).heap[p]? = _ from heap_old HH.out.hp _) HPQ.out
  have b1 := blk5 hp1
  have HP1 := hid hp1
  have HCH := hid hch
  have HM := hid hM
  clear b0 hp1 hch hM
  go_wp2
  go_ret
  have hhp := HH.out
  have hMk := HM.out
  have hsub : ∀ x ∈ M, x ∈ s.qs := fun x hx => by rw [hMk] at hx; exact (List.mem_filter.1 hx).1
  have hlen : M.length ≤ s.qs.length := by rw [hMk]; exact List.length_filter_le _ _
  have hC : Chg (fun k => s.qa.map (·.block) = some k ∨ k = p) w (w1.setCell ⟨p, 4, none⟩ (.slice s.qa M.length s.qc)) :=
    (((((Chg.refl _ w).alloc _).drew).trans HCH.out (fun _ _ h => h) (fun _ _ h => .inl h)).setCell _ _ (.inl (.inr rfl)))
  refine ⟨rfl, ⟨⟨s.e, s.n, s.P, s.Q, s.ka, s.kc, s.ks, s.qa, s.qc, M⟩, ⟨⟨heap_set HP1.out 4 _, hhp.Fp, ?_, hhp.Fk, own_set HO.out (by rw [ownBlock_slice]; exact HPQ.out) _ _, hhp.Fq, fun x hx => ?_, fun x hx => hhp.Fe x (hsub x hx), fun x hx => hhp.apart x (hsub x hx), fun k hk => Nat.lt_of_lt_of_le (hhp.Flt k hk) hC.size⟩, ?_⟩, ?_⟩, hC.mono (fun i _ hi => by rcases hi with hi | rfl; exact hhp.Fq _ hi; exact hhp.Fp)⟩
  · refine ownsRow_chg hhp.row fun k hk hl => hC.block k hl ?_
    rintro (h1 | rfl)
    · exact own_ne2 hhp.row hhp.qrow (by decide) k hk (by rw [ownBlock_slice]; exact h1)
    · exact own_ne hhp.row hhp.hp (by decide) hk
  · have hx0 := hhp.each x (hsub x hx)
    refine ownsRow_chg hx0 fun k hk hl => hC.block k hl ?_
    rintro (h1 | rfl)
    · exact own_ne2 hx0 hhp.qrow (by decide) k hk (by rw [ownBlock_slice]; exact h1)
    · exact own_ne hx0 hhp.hp (by decide) hk
  · have o := hhp.ok
    have h9 : ((s.qs.map Bk.pl).length : Int) ≤ s.Q := o.hq
    rw [List.length_map] at h9
    refine ⟨o.he, o.hn, o.hP, o.hQ, o.hk, by show ((M.map Bk.pl).length : Int) ≤ s.Q; rw [List.length_map]; omega, fun x hx => ?_⟩
    obtain ⟨y, hy, rfl⟩ := List.mem_map.1 (show x ∈ M.map Bk.pl from hx)
    exact o.each _ (List.mem_map.2 ⟨y, hsub y hy, rfl⟩)
  · show (⟨s.e, s.n, s.P, s.Q, s.ks, M.map Bk.pl⟩ : Ts) = _
    rw [hMk, filter_map_pl]; rfl

end Go.Proofs.Ytakkdaenindboaa
