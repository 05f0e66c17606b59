import Derived.Test.YtakkdaenindboaaRvD
import Derived.Test.YtakkdaenindboaaLibG
import Derived.Test.YtakkdaenindboaaVowM
namespace Go.Proofs.Ytakkdaenindboaa
set_option linter.unusedVariables false
set_option linter.unusedSimpArgs false
open Go.RowKit
attribute [local go_sem ↓] Go.wp_at_zero Go.wp_at_succ
attribute [local go_sem] run_store_complex run_store_float

set_option maxHeartbeats 400000 in
theorem r_new_yes (w : World) (e P Q : Int) (h : NewOk e P Q) :
    Calls Try.prog 28 #[.int .i64 e, .int .i64 P, .int .i64 Q] w fun r w' => r = .returned (.tuple #[.pointer (some ⟨w.heap.size, 0, none⟩), .int .i64 0]) ∧ XAt w' (fun k => k = w.heap.size) w.heap.size ⟨e, 0, P, Q, [], []⟩ ∧ Below w.heap.size w w' := by
  have HH := hid h
  obtain ⟨he, ⟨p1, p2⟩, q1, q2⟩ := h
  have t1 : decide (P < 1) = false := decide_eq_false (by omega)
  have t2 : decide (P > 32) = false := decide_eq_false (by omega)
  have t2' : decide (32 < P) = false := t2
  have t3 : decide (Q < 1) = false := decide_eq_false (by omega)
  have t4 : decide (Q > 16) = false := decide_eq_false (by omega)
  have t4' : decide (16 < Q) = false := t4
  have HE := hid he
  clear he
  go_enter Try.func28, Try.ntmps28
  go_wp2_with fail
  refine (r_at_yes e 0 HE.out ⟨by decide, by decide⟩ _).mono ?_; rintro r w1 ⟨rfl, rfl⟩
  go_wp2
  go_ret2
  have hh := HH.out
  refine ⟨rfl, ⟨⟨e, 0, P, Q, none, 0, [], none, 0, []⟩, ⟨⟨heap_new w _, rfl, World.ownsRow_nil _ _ _ _, by simp, World.ownsRow_nil _ _ _ _, by simp, by simp, by simp, by simp, by simp⟩, ⟨hh.1, ⟨by show (0:Int) ≤ 0; omega, by show (0:Int) ≤ 1099511627776; omega⟩, hh.2.1, hh.2.2, by show (0 : Int) ≤ P; omega, by show (0 : Int) ≤ Q; omega, by simp [Tb.pl]⟩⟩, rfl⟩, bl1 w _⟩

set_option maxHeartbeats 400000 in
theorem r_new_no (w : World) (e P Q : Int) (h : ¬ NewOk e P Q) :
    Calls Try.prog 28 #[.int .i64 e, .int .i64 P, .int .i64 Q] w fun r w' => r = .returned (.tuple #[.pointer none, .int .i64 1]) ∧ w = w' := by
  by_cases he : InM e
  · have HE := hid he
    unfold NewOk at h
    by_cases p1 : P < 1
    · have t1 : decide (P < 1) = true := decide_eq_true p1
      clear h he p1
      go_enter Try.func28, Try.ntmps28
      go_wp2_with fail
      refine (r_at_yes e 0 HE.out ⟨by decide, by decide⟩ _).mono ?_; rintro r w1 ⟨rfl, rfl⟩
      go_wp2
      go_ret2
      exact ⟨rfl, rfl⟩
    · have t1 : decide (P < 1) = false := decide_eq_false p1
      by_cases p2 : P > 32
      · have t2 : decide (P > 32) = true := decide_eq_true p2
        have t2' : decide (32 < P) = true := t2
        clear h he p1 p2
        go_enter Try.func28, Try.ntmps28
        go_wp2_with fail
        refine (r_at_yes e 0 HE.out ⟨by decide, by decide⟩ _).mono ?_; rintro r w1 ⟨rfl, rfl⟩
        go_wp2
        go_ret2
        exact ⟨rfl, rfl⟩
      · have t2 : decide (P > 32) = false := decide_eq_false p2
        have t2' : decide (32 < P) = false := t2
        by_cases q1 : Q < 1
        · have t3 : decide (Q < 1) = true := decide_eq_true q1
          clear h he p1 p2 q1
          go_enter Try.func28, Try.ntmps28
          go_wp2_with fail
          refine (r_at_yes e 0 HE.out ⟨by decide, by decide⟩ _).mono ?_; rintro r w1 ⟨rfl, rfl⟩
          go_wp2
          go_ret2
          exact ⟨rfl, rfl⟩
        · have t3 : decide (Q < 1) = false := decide_eq_false q1
          have q2 : Q > 16 := by
            rcases Int.lt_or_le 16 Q with h2 | h2
            · exact h2
            · exact absurd ⟨he, ⟨by omega, by omega⟩, by omega, by omega⟩ h
          have t4 : decide (Q > 16) = true := decide_eq_true q2
          have t4' : decide (16 < Q) = true := t4
          clear h he p1 p2 q1 q2
          go_enter Try.func28, Try.ntmps28
          go_wp2_with fail
          refine (r_at_yes e 0 HE.out ⟨by decide, by decide⟩ _).mono ?_; rintro r w1 ⟨rfl, rfl⟩
          go_wp2
          go_ret2
          exact ⟨rfl, rfl⟩
  · have HE := hid (show ¬ (InM e ∧ InM 0) from fun h => he h.1)
    clear h he
    go_enter Try.func28, Try.ntmps28
    go_wp2_with fail
    refine (r_at_no e 0 HE.out _).mono ?_; rintro r w1 ⟨rfl, rfl⟩
    go_wp2
    go_ret2
    exact ⟨rfl, rfl⟩


set_option maxHeartbeats 1000000 in
theorem r_ack_no (w : World) (F : Nat → Prop) (p : Nat) (t : Ts) (a b : Int) (ha : I64 a) (hb : I64 b) (h : XAt w F p t) (hn : ¬ AckOk t a b) :
    Calls Try.prog 32 #[.pointer (some ⟨p, 0, none⟩), .complex .f64 (fl a) (fl b)] w fun e w' => e = .returned (.bool false) ∧ Below w.heap.size w w' := by
  obtain ⟨s, h, rfl⟩ := h
  have b0 := blk5 h.hp
  have HE := hid (show InM s.e from h.ok.he)
  have HN := hid (show InM s.n from h.ok.hn)
  have HA := hid ha
  have HB := hid hb
  clear h ha hb
  by_cases hi : InM a ∧ InM b
  · have HI := hid hi
    by_cases he : a = s.e
    · have hgt : s.n < b := by
        rcases Int.lt_or_le s.n b with h | h
        · exact h
        · exact absurd ⟨hi.1, hi.2, he, h⟩ hn
      have t1 : (a != s.e) = false := by simp [he]
      have t2 : (a == s.e) = true := by simp [he]
      have t3 : decide (b > s.n) = true := decide_eq_true hgt
      have t4 : decide (s.n < b) = true := t3
      clear hn hi he
      go_enter Try.func32, Try.ntmps32
      go_wp2_with fail
      refine (parts_yes a b HI.out.1 HI.out.2 _).mono ?_; rintro e w1 ⟨rfl, rfl⟩
      go_wp2_with fail
      refine (parts_yes s.e s.n HE.out HN.out _).mono ?_; rintro e w1 ⟨rfl, rfl⟩
      go_wp2
      go_ret
      exact ⟨rfl, Below.refl _ _⟩
    · have t1 : (a != s.e) = true := by simp [he]
      have t2 : (a == s.e) = false := by simp [he]
      clear hn hi he
      go_enter Try.func32, Try.ntmps32
      go_wp2_with fail
      refine (parts_yes a b HI.out.1 HI.out.2 _).mono ?_; rintro e w1 ⟨rfl, rfl⟩
      go_wp2_with fail
      refine (parts_yes s.e s.n HE.out HN.out _).mono ?_; rintro e w1 ⟨rfl, rfl⟩
      go_wp2
      go_ret
      exact ⟨rfl, Below.refl _ _⟩
  · have HI := hid hi
    clear hn hi
    go_enter Try.func32, Try.ntmps32
    go_wp2_with fail
    refine (parts_no a b HA.out HB.out HI.out _).mono ?_; rintro e w1 ⟨rfl, rfl⟩
    go_wp2_with fail
    refine (parts_yes s.e s.n HE.out HN.out _).mono ?_; rintro e w1 ⟨rfl, rfl⟩
    go_wp2
    go_ret
    exact ⟨rfl, Below.refl _ _⟩

theorem filter_pl (qs : List Bk) (b : Int) : (qs.filter fun x => decide (b < x.n)).map Bk.pl = (qs.map Bk.pl).filter fun x => decide (b < x.n) := by
  rw [List.filter_map]; rfl

set_option maxHeartbeats 1000000 in
theorem r_ack_yes (w : World) (F : Nat → Prop) (p : Nat) (t : Ts) (a b : Int) (h : XAt w F p t) (hn : AckOk t a b) :
    Calls Try.prog 32 #[.pointer (some ⟨p, 0, none⟩), .complex .f64 (fl a) (fl b)] w fun e w' => e = .returned (.bool true) ∧ ∃ F' : Nat → Prop, XAt w' F' p { t with qs := t.qs.filter fun x => decide (b < x.n) } ∧ Fgrow w F F' ∧ Chg F w w' := by
  obtain ⟨s, h, rfl⟩ := h
  obtain ⟨ha, hb, hae, hbn⟩ := hn
  have hae' : a = s.e := hae
  have hbn' : b ≤ s.n := hbn
  subst hae'
  have b0 := blk5 h.hp
  have HA := hid ha
  have HB := hid hb
  have HN := hid (show InM s.n from h.ok.hn)
  have HH := hid h
  have hpl := blk_lt h.hp
  have hql := h.qlt
  obtain ⟨i1, hi1, hy0, hy1, hy2⟩ := info_parts infoBk
  have HI := hid hi1
  have t1 : (s.e != s.e) = false := by simp
  have t3 : decide (b > s.n) = false := decide_eq_false (by omega)
  have t4 : decide (s.n < b) = false := t3
  clear h ha hb hae hbn hi1
  go_enter Try.func32, Try.ntmps32
  go_wp2_with fail
  refine (parts_yes s.e b HA.out HB.out _).mono ?_; rintro e w1 ⟨rfl, rfl⟩
  go_wp2_with fail
  refine (parts_yes s.e s.n HA.out HN.out _).mono ?_; rintro e w1 ⟨rfl, rfl⟩
  go_wp2_with fail
  clear b0
  go_loopw [11, 12] (fun v4 v5 wr => ∃ (k : Nat) (la : Option Addr) (lc : Nat) (LF : List Bk), k ≤ s.qs.length ∧ v5 = .int .i64 k ∧ v4 = .slice la LF.length lc ∧ LF.length ≤ k ∧ Hid (LF = (s.qs.take k).filter fun x => decide (b < x.n)) ∧ Hid (Below w.heap.size w wr) ∧
    Hid (wr.ownsRow w.heap.size 41 4 (.slice la LF.length lc) LF.length (bkc LF))) (fun _ v5 _ => s.qs.length - (intOf v5).toNat)
  case atStart => exact ⟨0, none, 0, [], Nat.zero_le _, rfl, rfl, by simp, hid (by simp), hid (Below.refl _ _), hid (World.ownsRow_nil _ _ _ _)⟩
  case round =>
    obtain ⟨k, la, lc, LF, hk, rfl, rfl, hLk, HLD, HB', HO⟩ := hrel
    obtain ⟨wk, hwk⟩ : ∃ wk, wk = wr := ⟨_, rfl⟩
    subst hwk
    have b0 := blk5 (heap_below HB'.out HH.out.hp hpl)
    have hsz := HB'.out.size
    by_cases hlt : k < s.qs.length
    · obtain ⟨g, hga, _, _, hgc, hgm⟩ := own_loc HH.out.qrow (by omega)
      obtain ⟨x, hx⟩ : ∃ x, s.qs[k]? = some x := ⟨_, List.getElem?_eq_getElem hlt⟩
      have HRD := hid (show Rd w (.slice (some ⟨g, 0, none⟩) s.qs.length s.qc) s.qs.length (bkc s.qs) by rw [← hga]; exact Rd.own HH.out.qrow)
      have c1 := bks_at HRD.out HB'.out hx
      simp only [Nat.zero_add] at c1
      rw [hga] at b0
      have HGA := hid hga
      have HX := hid hx
      have hoe := HH.out.ok.each x.pl (List.mem_map.2 ⟨x, List.mem_of_getElem? hx, rfl⟩)
      have HXE := hid (show InM x.ep by rw [show x.ep = s.e from hoe.1]; exact HA.out)
      have HXN := hid (show InM x.n from ⟨hoe.2.1, Int.le_trans hoe.2.2.1 HN.out.2⟩)
      have hk0 : (0 : Int) ≤ (k : Int) := by omega
      have hk1 : (k : Int) < (s.qs.length : Int) := by omega
      clear hx hga hoe hgc hgm
      go_wp2_with fail
      refine (parts_yes x.ep x.n HXE.out HXN.out _).mono ?_; rintro e w1 ⟨rfl, rfl⟩
      by_cases hbx : b < x.n
      · have HE := hid (show LF ++ [x] = (s.qs.take (k + 1)).filter fun x => decide (b < x.n) by rw [filter_snoc_yes HX.out (by simp [hbx]), HLD.out])
        have t5 : decide (x.n > b) = true := decide_eq_true hbx
        have t6 : decide (b < x.n) = true := t5
        clear hbx
        go_wp2_with (at_builtin; refine wpList_append_rd rfl _ _ 31 rfl w.heap.size 41 i1 _ 4 56 Try.underlying31 HI.out hy0 hy1 hy2 rfl (by decide) (.slice la LF.length lc) LF.length (bkc LF) rfl (own_alloc HO.out _) (.slice (some ⟨wk.heap.size, 0, none⟩) 1 1) 1 [.complex .f64 (fl x.ep) (fl x.n), .int .i64 x.ver, .bool x.all, .slice x.a x.ks.length x.c] rfl (rd_blk (heap_new wk _) (by unfold maxLen; omega)) rfl (by intro u hu; simp at hu; rcases hu with rfl | rfl | rfl | rfl <;> rfl) (by unfold maxLen; omega) (by omega) (by simp; omega) ?_; intro a2 c2 w2 hown2 hgrow2 hat2)
        have HB2 := hid ((HB'.out.alloc hsz (.cells #[.complex .f64 (fl x.ep) (fl x.n), .int .i64 x.ver, .bool x.all, .slice x.a x.ks.length x.c] 41)).grown hgrow2 (by simp; omega) fun k hk => (own_lt HO.out hk).1)
        exact ⟨⟨k + 1, a2, c2, LF ++ [x], by omega, by go_num, by rw [List.length_append]; rfl, by rw [List.length_append]; simp; omega, HE, HB2, hid (by rw [List.length_append, bkc_snoc]; exact hown2)⟩, by simp [intOf]; omega⟩
      · have HE := hid (show LF = (s.qs.take (k + 1)).filter fun x => decide (b < x.n) by rw [filter_snoc_no HX.out (by simp [hbx])]; exact HLD.out)
        have t5 : decide (x.n > b) = false := decide_eq_false hbx
        have t6 : decide (b < x.n) = false := t5
        clear hbx
        go_wp2
        exact ⟨⟨k + 1, la, lc, LF, by omega, by go_num, rfl, by omega, HE, HB', HO⟩, by simp [intOf]; omega⟩
    · have HE := hid (show LF = s.qs.filter fun x => decide (b < x.n) by have := HLD.out; rwa [List.take_of_length_le (by omega)] at this)
      go_wp2
      go_ret
      obtain ⟨F', h1, h2, h3⟩ := HH.out.toRMem.setq HB'.out HO.out (fun x hx => by rw [HE.out] at hx; exact (List.mem_filter.1 hx).1)
      have hok := HH.out.ok
      refine ⟨rfl, F', ⟨_, ⟨h1, ⟨hok.he, hok.hn, hok.hP, hok.hQ, hok.hk, ?_, ?_⟩⟩, ?_⟩, h2, h3⟩
      · have h4 : s.qs.length ≤ s.qs.length := Nat.le_refl _
        have h5 := hok.hq
        show ((LF.map Bk.pl).length : Int) ≤ s.Q
        have e1 : s.pl.qs = s.qs.map Bk.pl := rfl
        have e2 : s.pl.Q = s.Q := rfl
        rw [e1, e2, List.length_map] at h5
        rw [List.length_map]; omega
      · intro z hz
        have hz' : z ∈ LF.map Bk.pl := hz
        rw [HE.out, filter_pl] at hz'
        exact hok.each z (List.mem_filter.1 hz').1
      · show Ts.mk s.e s.n s.P s.Q s.ks (LF.map Bk.pl) = _
        rw [HE.out, filter_pl]; rfl

theorem q_in {R : List Bk} {t : Ts} (hok : TOk t) (h : R.map Bk.pl = t.qs) : ∀ x ∈ R, InM x.ep ∧ InM x.n := fun x hx => by
  have h1 := hok.each x.pl (by rw [← h]; exact List.mem_map_of_mem hx)
  have h2 := hok.he
  have h3 := hok.hn
  exact ⟨by rw [show x.ep = t.e from h1.1]; exact h2, ⟨h1.2.1, Int.le_trans h1.2.2.1 h3.2⟩⟩
theorem xcells {w w' : World} {q : Nat} {T : TypeId} {v0 v1 v2 v3 v4 : Value} (h : w.heap[q]? = some (.cells #[v0, v1, v2, v3, v4] T (0, 0))) (hb : Below w.heap.size w w') : w'.cell? ⟨q, 2, none⟩ = some v2 ∧ w'.cell? ⟨q, 3, none⟩ = some v3 ∧ w'.cell? ⟨q, 4, none⟩ = some v4 := by
  obtain ⟨_, _, c2, c3, c4, _⟩ := blk5 (heap_below hb h (blk_lt h))
  exact ⟨c2, c3, c4⟩

set_option maxRecDepth 100000 in
set_option maxHeartbeats 4000000 in
theorem like_yes (w : World) (F G : Nat → Prop) (p q : Nat) (t : Ts) (hv : VAt w F p t) (hx : XAt w G q t) :
    Calls Try.prog 33 #[.pointer (some ⟨p, 0, none⟩), .pointer (some ⟨q, 0, none⟩)] w fun e w' => e = .returned (.bool true) ∧ Below w.heap.size w w' := by
  obtain ⟨s, hx, hst⟩ := hx
  have HST := hid hst
  have HV := hid hv
  have HX := hid hx
  have t1 : (FloatKind.f64.format.order (fl s.e) (fl s.e) == some .eq) = true := by rw [ord_M (show InM s.e from hx.ok.he) (show InM s.e from hx.ok.he), cmp_eq]; rfl
  have t2 : (FloatKind.f64.format.order (fl s.n) (fl s.n) == some .eq) = true := by rw [ord_M (show InM s.n from hx.ok.hn) (show InM s.n from hx.ok.hn), cmp_eq]; rfl
  have te : t.e = s.e := by rw [← hst]; rfl
  have tn : t.n = s.n := by rw [← hst]; rfl
  have TE := hid te
  have TN := hid tn
  clear hv hx hst te tn
  go_enter Try.func33, Try.ntmps33
  go_wp2_with fail
  have HD := hid (below_drew1 w)
  have hS0 := xcells HX.out.hp HD.out
  refine held_start (fun w' => w'.cell? ⟨q, 2, none⟩ = some (.slice s.ka s.ks.length s.kc) ∧ w'.cell? ⟨q, 3, none⟩ = some (.complex .f64 (fl s.e) (fl s.n)) ∧ w'.cell? ⟨q, 4, none⟩ = some (.slice s.qa s.qs.length s.qc)) (by kernel_rfl) ?_ (fun hHeld => ?_)
  · first | exact hS0 | exact hSA | exact hSB | exact hSC | exact hSD
  refine held_take 0 rfl (by kernel_rfl) (by kernel_rfl) (by kernel_rfl) (fun _ _ _ h => h) hHeld (by rfl) (v := ?_) ?_ ?_
  rotate_left
  · intro w hSw; (try dsimp only at hSw); (try go_simp); (try with_reducible rfl)
  try simp only [Act.put, List.setIfInBounds_toArray, List.set_cons_zero, List.set_cons_succ]
  refine held_take 2 rfl (by kernel_rfl) (by kernel_rfl) (by kernel_rfl) (fun _ _ _ h => h) hHeld (by rfl) (v := ?_) ?_ ?_
  rotate_left
  · intro w hSw; (try dsimp only at hSw); (try go_simp); (try with_reducible rfl)
  try simp only [Act.put, List.setIfInBounds_toArray, List.set_cons_zero, List.set_cons_succ]
  refine held_take 3 rfl (by kernel_rfl) (by kernel_rfl) (by kernel_rfl) (fun _ _ _ h => h) hHeld (by rfl) (v := ?_) ?_ ?_
  rotate_left
  · intro w hSw; (try dsimp only at hSw); (try go_simp); (try with_reducible rfl)
  try simp only [Act.put, List.setIfInBounds_toArray, List.set_cons_zero, List.set_cons_succ]
  refine held_take 4 rfl (by kernel_rfl) (by kernel_rfl) (by kernel_rfl) (fun _ _ _ h => h) hHeld (by rfl) (v := ?_) ?_ ?_
  rotate_left
  · intro w hSw; (try dsimp only at hSw); (try go_simp); (try with_reducible rfl)
  try simp only [Act.put, List.setIfInBounds_toArray, List.set_cons_zero, List.set_cons_succ]
  refine held_take 5 rfl (by kernel_rfl) (by kernel_rfl) (by kernel_rfl) (fun _ _ _ h => h) hHeld (by rfl) (v := ?_) ?_ ?_
  rotate_left
  · intro w hSw; (try dsimp only at hSw); (try go_simp); (try with_reducible rfl)
  try simp only [Act.put, List.setIfInBounds_toArray, List.set_cons_zero, List.set_cons_succ]
  refine held_step 1 rfl (by kernel_rfl) (by rfl) (fun Kx hK => ?_)
  go_simp
  go_at_call 20; refine (v_mark _ _ _ _ (HV.out.below HD.out)).mono ?_; rintro e wx ⟨rfl, rfl⟩; rw [TE.out, TN.out]
  refine hK.out _ _ ?_ (fun hHeld2 => ?_)
  · (try dsimp only); first | exact hS0 | exact hSA | exact hSB | exact hSC | exact hSD
  clear hK Kx hHeld
  have hHeld := hHeld2
  clear hHeld2
  try simp only [Act.put, List.setIfInBounds_toArray, List.set_cons_zero, List.set_cons_succ]
  refine held_take 6 rfl (by kernel_rfl) (by kernel_rfl) (by kernel_rfl) (fun _ _ _ h => h) hHeld (by rfl) (v := ?_) ?_ ?_
  rotate_left
  · intro w hSw; (try dsimp only at hSw); (try go_simp); (try with_reducible rfl)
  try simp only [Act.put, List.setIfInBounds_toArray, List.set_cons_zero, List.set_cons_succ]
  refine held_take 7 rfl (by kernel_rfl) (by kernel_rfl) (by kernel_rfl) (fun _ _ _ h => h) hHeld (by rfl) (v := ?_) ?_ ?_
  rotate_left
  · intro w hSw; (try dsimp only at hSw); (try go_simp); (try with_reducible rfl)
  try simp only [Act.put, List.setIfInBounds_toArray, List.set_cons_zero, List.set_cons_succ]
  refine held_take 8 rfl (by kernel_rfl) (by kernel_rfl) (by kernel_rfl) (fun _ _ _ h => h) hHeld (by rfl) (v := ?_) ?_ ?_
  rotate_left
  · intro w hSw; (try dsimp only at hSw); (try go_simp); (try with_reducible rfl)
  try simp only [Act.put, List.setIfInBounds_toArray, List.set_cons_zero, List.set_cons_succ]
  refine held_take 10 rfl (by kernel_rfl) (by kernel_rfl) (by kernel_rfl) (fun _ _ _ h => h) hHeld (by rfl) (v := ?_) ?_ ?_
  rotate_left
  · intro w hSw; (try dsimp only at hSw); (try go_simp); (try with_reducible rfl)
  try simp only [Act.put, List.setIfInBounds_toArray, List.set_cons_zero, List.set_cons_succ]
  refine held_take 11 rfl (by kernel_rfl) (by kernel_rfl) (by kernel_rfl) (fun _ _ _ h => h) hHeld (by rfl) (v := ?_) ?_ ?_
  rotate_left
  · intro w hSw; (try dsimp only at hSw); (try go_simp); (try with_reducible rfl)
  try simp only [Act.put, List.setIfInBounds_toArray, List.set_cons_zero, List.set_cons_succ]
  refine held_take 12 rfl (by kernel_rfl) (by kernel_rfl) (by kernel_rfl) (fun _ _ _ h => h) hHeld (by rfl) (v := ?_) ?_ ?_
  rotate_left
  · intro w hSw; (try dsimp only at hSw); (try go_simp); (try with_reducible rfl)
  try simp only [Act.put, List.setIfInBounds_toArray, List.set_cons_zero, List.set_cons_succ]
  refine held_take 13 rfl (by kernel_rfl) (by kernel_rfl) (by kernel_rfl) (fun _ _ _ h => h) hHeld (by rfl) (v := ?_) ?_ ?_
  rotate_left
  · intro w hSw; (try dsimp only at hSw); (try go_simp); (try with_reducible rfl)
  try simp only [Act.put, List.setIfInBounds_toArray, List.set_cons_zero, List.set_cons_succ]
  refine held_step 9 rfl (by kernel_rfl) (by rfl) (fun Kx hK => ?_)
  go_simp
  go_at_call 23; refine (v_promises _ _ _ _ (HV.out.below HD.out)).mono ?_; rintro e w2 ⟨a2, c2, rfl, ho2, hb2⟩; have HO2 := hid (Rd.own ho2); have HB2 := hid (HD.out.trans (hb2.mono HD.out.size)); clear ho2 hb2; have hSA := xcells HX.out.hp HB2.out
  refine hK.out _ _ ?_ (fun hHeld2 => ?_)
  · (try dsimp only); first | exact hS0 | exact hSA | exact hSB | exact hSC | exact hSD
  clear hK Kx hHeld
  have hHeld := hHeld2
  clear hHeld2
  try simp only [Act.put, List.setIfInBounds_toArray, List.set_cons_zero, List.set_cons_succ]
  refine held_step 14 rfl (by kernel_rfl) (by rfl) (fun Kx hK => ?_)
  go_simp
  go_at_call 22; refine (same_keys_q _ _ _ _ _ _ _ HO2.out ((Rd.own HX.out.row).below HB2.out) (by rw [← HST.out]; rfl)).mono ?_; rintro e w3 ⟨rfl, n3, rfl⟩; have HB3 := hid (below_drewN HB2.out n3); have hSB := xcells HX.out.hp HB3.out
  refine hK.out _ _ ?_ (fun hHeld2 => ?_)
  · (try dsimp only); first | exact hS0 | exact hSA | exact hSB | exact hSC | exact hSD
  clear hK Kx hHeld
  have hHeld := hHeld2
  clear hHeld2
  try simp only [Act.put, List.setIfInBounds_toArray, List.set_cons_zero, List.set_cons_succ]
  refine held_take 15 rfl (by kernel_rfl) (by kernel_rfl) (by kernel_rfl) (fun _ _ _ h => h) hHeld (by rfl) (v := ?_) ?_ ?_
  rotate_left
  · intro w hSw; (try dsimp only at hSw); (try go_simp); (try with_reducible rfl)
  try simp only [Act.put, List.setIfInBounds_toArray, List.set_cons_zero, List.set_cons_succ]
  refine held_take 16 rfl (by kernel_rfl) (by kernel_rfl) (by kernel_rfl) (fun _ _ _ h => h) hHeld (by rfl) (v := ?_) ?_ ?_
  rotate_left
  · intro w hSw; (try dsimp only at hSw); (try go_simp); (try with_reducible rfl)
  try simp only [Act.put, List.setIfInBounds_toArray, List.set_cons_zero, List.set_cons_succ]
  refine held_take 17 rfl (by kernel_rfl) (by kernel_rfl) (by kernel_rfl) (fun _ _ _ h => h) hHeld (by rfl) (v := ?_) ?_ ?_
  rotate_left
  · intro w hSw; (try dsimp only at hSw); (try go_simp); (try with_reducible rfl)
  try simp only [Act.put, List.setIfInBounds_toArray, List.set_cons_zero, List.set_cons_succ]
  refine held_take 19 rfl (by kernel_rfl) (by kernel_rfl) (by kernel_rfl) (fun _ _ _ h => h) hHeld (by rfl) (v := ?_) ?_ ?_
  rotate_left
  · intro w hSw; (try dsimp only at hSw); (try go_simp); (try with_reducible rfl)
  try simp only [Act.put, List.setIfInBounds_toArray, List.set_cons_zero, List.set_cons_succ]
  refine held_take 20 rfl (by kernel_rfl) (by kernel_rfl) (by kernel_rfl) (fun _ _ _ h => h) hHeld (by rfl) (v := ?_) ?_ ?_
  rotate_left
  · intro w hSw; (try dsimp only at hSw); (try go_simp); (try with_reducible rfl)
  try simp only [Act.put, List.setIfInBounds_toArray, List.set_cons_zero, List.set_cons_succ]
  refine held_take 21 rfl (by kernel_rfl) (by kernel_rfl) (by kernel_rfl) (fun _ _ _ h => h) hHeld (by rfl) (v := ?_) ?_ ?_
  rotate_left
  · intro w hSw; (try dsimp only at hSw); (try go_simp); (try with_reducible rfl)
  try simp only [Act.put, List.setIfInBounds_toArray, List.set_cons_zero, List.set_cons_succ]
  refine held_take 22 rfl (by kernel_rfl) (by kernel_rfl) (by kernel_rfl) (fun _ _ _ h => h) hHeld (by rfl) (v := ?_) ?_ ?_
  rotate_left
  · intro w hSw; (try dsimp only at hSw); (try go_simp); (try with_reducible rfl)
  try simp only [Act.put, List.setIfInBounds_toArray, List.set_cons_zero, List.set_cons_succ]
  refine held_step 18 rfl (by kernel_rfl) (by rfl) (fun Kx hK => ?_)
  go_simp
  go_at_call 25; refine (v_queue _ _ _ _ (HV.out.below HB3.out)).mono ?_; rintro e w4 ⟨a4, c4, R4, rfl, hR4, hB4, hb4⟩; have HB4 := hid (HB3.out.trans (hb4.mono HB3.out.size)); have HR4 := hid hB4.rd; clear hB4 hb4; have hSC := xcells HX.out.hp HB4.out
  refine hK.out _ _ ?_ (fun hHeld2 => ?_)
  · (try dsimp only); first | exact hS0 | exact hSA | exact hSB | exact hSC | exact hSD
  clear hK Kx hHeld
  have hHeld := hHeld2
  clear hHeld2
  try simp only [Act.put, List.setIfInBounds_toArray, List.set_cons_zero, List.set_cons_succ]
  refine held_step 23 rfl (by kernel_rfl) (by rfl) (fun Kx hK => ?_)
  go_simp
  go_at_call 26; refine (same_brks _ _ R4 s.qs _ HR4.out ((show BrAt w _ s.qs from ⟨Rd.own HX.out.qrow, fun x hx => Rd.own (HX.out.each x hx)⟩).below HB4.out) (hR4.out.trans (by rw [← HST.out]; rfl)) (q_in HV.out.ok hR4.out)).mono ?_; rintro e w5 ⟨rfl, n5, rfl⟩; have HB5 := hid (below_drewN HB4.out n5); have hSD := xcells HX.out.hp HB5.out
  refine hK.out _ _ ?_ (fun hHeld2 => ?_)
  · (try dsimp only); first | exact hS0 | exact hSA | exact hSB | exact hSC | exact hSD
  clear hK Kx hHeld
  have hHeld := hHeld2
  clear hHeld2
  try simp only [Act.put, List.setIfInBounds_toArray, List.set_cons_zero, List.set_cons_succ]
  refine held_take 24 rfl (by kernel_rfl) (by kernel_rfl) (by kernel_rfl) (fun _ _ _ h => h) hHeld (by rfl) (v := ?_) ?_ ?_
  rotate_left
  · intro w hSw; (try dsimp only at hSw); (try go_simp); (try with_reducible rfl)
  try simp only [Act.put, List.setIfInBounds_toArray, List.set_cons_zero, List.set_cons_succ]
  refine held_take 25 rfl (by kernel_rfl) (by kernel_rfl) (by kernel_rfl) (fun _ _ _ h => h) hHeld (by rfl) (v := ?_) ?_ ?_
  rotate_left
  · intro w hSw; (try dsimp only at hSw); (try go_simp); (try with_reducible rfl)
  try simp only [Act.put, List.setIfInBounds_toArray, List.set_cons_zero, List.set_cons_succ]
  refine wpAnyH_done (by kernel_rfl) ?_ _
  clear hHeld
  go_wp2
  go_ret
  exact ⟨rfl, HB5.out⟩

end Go.Proofs.Ytakkdaenindboaa
