import Derived.Test.YtakkdaenindboaaVowF
namespace Go.Proofs.Ytakkdaenindboaa
set_option linter.unusedVariables false
set_option linter.unusedSimpArgs false
open Go.RowKit
attribute [local go_sem ↓] Go.wp_at_zero Go.wp_at_succ
attribute [local go_sem] run_store_complex run_store_float

set_option maxHeartbeats 400000 in
theorem v_mark (w : World) (F : Nat → Prop) (p : Nat) (t : Ts) (h : VAt w F p t) :
    Calls Try.prog 20 #[.pointer (some ⟨p, 0, none⟩)] w fun e w' => e = .returned (.complex .f64 (fl t.e) (fl t.n)) ∧ w = w' := by
  obtain ⟨s, h, rfl⟩ := h
  have b0 := blk5 h.hp
  clear h
  go_enter Try.func20, Try.ntmps20
  go_wp2
  go_ret
  exact ⟨rfl, rfl⟩

set_option maxHeartbeats 400000 in
theorem v_holds (w : World) (F : Nat → Prop) (p : Nat) (t : Ts) (kd : Int) (kn : ByteArray) (h : VAt w F p t) :
    Calls Try.prog 19 #[.pointer (some ⟨p, 0, none⟩), .agg #[.int .i64 kd, .string kn]] w fun e w' => e = .returned (.bool (decide ((⟨kd, kn⟩ : Ky) ∈ t.ks))) ∧ Below w.heap.size w w' := by
  obtain ⟨s, h, rfl⟩ := h
  have b0 := blk5 (heap_old h.hp (.cells #[.int .i64 kd, .string kn] 37))
  have bx := blk2 (heap_new w (.cells #[.int .i64 kd, .string kn] 37))
  have HR := hid (Rd.own (own_alloc h.row (.cells #[.int .i64 kd, .string kn] 37)))
  clear h
  go_enter Try.func19, Try.ntmps19
  go_wp2_with fail
  go_region_held3 (fun w' => w'.cell? ⟨p, 3, none⟩ = some (.slice s.ka s.ks.length s.kc) ∧ w'.cell? ⟨w.heap.size, 0, none⟩ = some (.int .i64 kd) ∧ w'.cell? ⟨w.heap.size, 1, none⟩ = some (.string kn))
    (first | go_keep | exact ⟨by assumption, by assumption, by assumption⟩)
    (first
      | (go_at_call 38; refine (contains_key _ s.ks kd kn _ (HR.out.drew)).mono ?_; rintro e w1 ⟨rfl, hb1⟩; (have q0 := below_cell hb1 (Nat.le_refl _) (show (World.drew _).cell? ⟨p, 3, none⟩ = some (.slice s.ka s.ks.length s.kc) from b0.2.2.2.1)); (have q1 := below_cell hb1 (Nat.le_refl _) (show (World.drew _).cell? ⟨w.heap.size, 0, none⟩ = some (.int .i64 kd) from bx.1)); (have q2 := below_cell hb1 (Nat.le_refl _) (show (World.drew _).cell? ⟨w.heap.size, 1, none⟩ = some (.string kn) from bx.2.1))))
  go_wp2
  go_ret
  exact ⟨rfl, (bl1 w _).drew.trans (hb1.mono (by simp))⟩

set_option maxHeartbeats 400000 in
theorem v_promises (w : World) (F : Nat → Prop) (p : Nat) (t : Ts) (h : VAt w F p t) :
    Calls Try.prog 23 #[.pointer (some ⟨p, 0, none⟩)] w fun e w' => ∃ a c, e = .returned (.slice a t.ks.length c) ∧ w'.ownsRow w.heap.size 37 2 (.slice a t.ks.length c) t.ks.length (kyc t.ks) ∧ Below w.heap.size w w' := by
  obtain ⟨s, h, rfl⟩ := h
  have b0 := blk5 h.hp
  have hl := h.rowlt
  have HR := hid (Rd.own h.row)
  clear h
  go_enter Try.func23, Try.ntmps23
  go_wp2_with fail
  refine (clone_keys _ s.ks _ HR.out (by omega)).mono ?_
  rintro e w1 ⟨a, c, rfl, hown, hb⟩
  go_wp2
  go_ret
  exact ⟨a, c, rfl, hown, hb⟩

theorem bkc_snoc (L : List Bk) (x : Bk) : bkc (L ++ [x]) = bkc L ++ [.complex .f64 (fl x.ep) (fl x.n), .int .i64 x.ver, .bool x.all, .slice x.a x.ks.length x.c] := by simp [bkc, Bk.cells]

theorem brs_snoc {w w2 : World} {B : Nat} {a a2 : Option Addr} {c c2 : Nat} {L : List Bk} {x : Bk} {o : Obj}
    (h : BrsAt w B a c L) (hown : w.ownsRow B 37 2 x.v x.ks.length (kyc x.ks)) (hgrow : (w.alloc o).grownBy w2 (Value.slice a L.length c).ownBlock)
    (hown2 : w2.ownsRow B 41 4 (.slice a2 (L.length + 1) c2) (L.length + 1) (bkc L ++ [.complex .f64 (fl x.ep) (fl x.n), .int .i64 x.ver, .bool x.all, .slice x.a x.ks.length x.c])) : BrsAt w2 B a2 c2 (L ++ [x]) := by
  have hr := own_alloc h.row o
  refine ⟨by rw [bkc_snoc, List.length_append]; exact hown2, fun y hy => ?_⟩
  rcases List.mem_append.1 hy with hy | hy
  · exact own_grown (own_alloc (h.each y hy) o) hgrow fun k hk => own_ne2 (own_alloc (h.each y hy) o) hr (by decide) k hk
  · obtain rfl := List.mem_singleton.1 hy
    exact own_grown (own_alloc hown o) hgrow fun k hk => own_ne2 (own_alloc hown o) hr (by decide) k hk

theorem map_take_snoc {α β : Type} {f : α → β} {L : List α} {M : List α} {k : Nat} {x y : α} (hM : M.map f = (L.map f).take k) (hx : L[k]? = some x) (hy : f y = f x) : (M ++ [y]).map f = (L.map f).take (k + 1) := by
  have h1 : (L.map f)[k]? = some (f x) := by rw [List.getElem?_map, hx]; rfl
  rw [List.take_add_one, h1, List.map_append, hM, List.map_cons, List.map_nil, hy]; rfl

set_option maxHeartbeats 1000000 in
theorem v_queue (w : World) (F : Nat → Prop) (p : Nat) (t : Ts) (h : VAt w F p t) :
    Calls Try.prog 25 #[.pointer (some ⟨p, 0, none⟩)] w fun e w' => ∃ a c R, e = .returned (.slice a R.length c) ∧ Hid (R.map Bk.pl = t.qs) ∧ BrsAt w' w.heap.size a c R ∧ Below w.heap.size w w' := by
  obtain ⟨s, h, rfl⟩ := h
  obtain ⟨i1, hi1, hy0, hy1, hy2⟩ := info_parts infoBk
  have b0 := blk5 h.hp
  have HI := hid hi1
  have HH := hid h
  have hl := h.qlt
  have hoks := h.ok.each
  have HOK := hid hoks
  clear h hi1 hoks
  go_enter Try.func25, Try.ntmps25
  go_wp2_with fail
  go_loopw [3, 10] (fun v3 v10 wr => ∃ (k : Nat) (M : List Bk) (a1 : Option Addr) (c1 : Nat), k ≤ s.qs.length ∧ v10 = .int .i64 k ∧ v3 = .slice a1 M.length c1 ∧ Hid (M.map Bk.pl = (s.qs.map Bk.pl).take k) ∧ Hid (M.length = k) ∧ Hid (BrsAt wr w.heap.size a1 c1 M) ∧ Below w.heap.size w wr) (fun _ v10 _ => s.qs.length - (intOf v10).toNat)
  case atStart => exact ⟨0, [], none, 0, Nat.zero_le _, rfl, rfl, hid rfl, hid rfl, hid ⟨World.ownsRow_nil _ _ _ _, by simp⟩, Below.refl _ _⟩
  case round =>
    obtain ⟨k, M, a1, c1, hk, rfl, rfl, HM, HK, HBR, hb⟩ := hrel
    have hsz := hb.size
    by_cases hlt : k < s.qs.length
    · have hk0 : (0 : Int) ≤ (k : Int) := by omega
      have hk1 : (k : Int) < (s.qs.length : Int) := by omega
      obtain ⟨x, hx⟩ : ∃ x, s.qs[k]? = some x := ⟨_, List.getElem?_eq_getElem hlt⟩
      have TB := hid (HH.out.below hb)
      obtain ⟨g, hag, hBg, hgz, hg1, hg2⟩ := own_loc TB.out.qrow (by omega)
      have b1 := blk5 TB.out.hp
      rw [hag] at b1
      have hxm := List.mem_of_getElem? hx
      have c1' : _ := bks_at (by have := Rd.own TB.out.qrow; rw [hag] at this; exact this) (Below.refl _ _) hx
      simp only [Nat.zero_add] at c1'
      have HX := hid hx
      have HXO := hid (Rd.own (TB.out.each x hxm))
      have hxl : x.ks.length * 24 ≤ 140737488355328 := (HOK.out x.pl (List.mem_map.2 ⟨x, hxm, rfl⟩)).2.2.2
      clear hx hxm hag
      go_wp2_with (first
        | (go_at_call 41; refine (own_brk x.ep x.n x.ver x.all _ x.ks _ HXO.out hxl).mono ?_; rintro e w1 ⟨a', c', rfl, hown, hb1⟩)
        | (at_builtin; refine wpList_append_rd rfl _ _ 31 rfl w.heap.size 41 i1 _ 4 56 Try.underlying31 HI.out hy0 hy1 hy2 rfl (by decide) (.slice a1 M.length c1) M.length (bkc M) rfl (own_alloc (own_below HBR.out.row hb1) _) (.slice (some ⟨w1.heap.size, 0, none⟩) 1 1) 1 [.complex .f64 (fl x.ep) (fl x.n), .int .i64 x.ver, .bool x.all, .slice a' x.ks.length c'] rfl (rd_blk (heap_new w1 _) (by unfold maxLen; omega)) rfl (by intro u hu; simp at hu; rcases hu with rfl | rfl | rfl | rfl <;> rfl) (by have := HK.out; unfold maxLen; omega) (by have := HK.out; omega) (by have := hb1.size; simp at this ⊢; omega) ?_; intro a2 c2 w2 hown2 hgrow2 hat2))
      have hbb : Below w.heap.size w w1 := hb.trans (hb1.mono hsz)
      have hs1 := hbb.size
      refine ⟨⟨k + 1, M ++ [⟨x.ep, x.n, x.ver, x.all, a', c', x.ks⟩], a2, c2, by omega, by go_num, by rw [List.length_append]; rfl, hid (map_take_snoc HM.out HX.out rfl), hid (by rw [List.length_append, HK.out]; rfl), hid (brs_snoc (x := ⟨x.ep, x.n, x.ver, x.all, a', c', x.ks⟩) (HBR.out.below hb1) (ownsRow_mono hown hsz) hgrow2 hown2), ?_⟩, by simp [intOf]; omega⟩
      exact (hbb.alloc hs1 _).grown hgrow2 (by simp; omega) fun k hk => (own_lt HBR.out.row hk).1
    · have HF := hid (show M.map Bk.pl = s.qs.map Bk.pl by rw [HM.out, List.take_of_length_le (by simp; omega)])
      go_wp2
      go_ret
      exact ⟨_, _, M, rfl, HF, HBR.out, hb⟩

end Go.Proofs.Ytakkdaenindboaa
