import Derived.Test.YtmhogjecfgbchaaDentV
namespace Go.Proofs.Ytmhogjecfgbchaa
set_option linter.unusedVariables false
set_option linter.unusedSimpArgs false
open Go.RowKit
attribute [local go_sem ↓] Go.wp_at_zero Go.wp_at_succ

/-- an entry as of a tree that has grown -/
def upE (e : En) : Prop := 0 < e.key.dir ∧ (e.neg = true ∧ e.node = ⟨0, 0, 0, ByteArray.empty⟩ ∨ e.neg = false ∧ e.key.dir < e.node.id)
instance (e : En) : Decidable (upE e) := by unfold upE; infer_instance
def ups (S : List Dop) : List Dop := S.filter fun x => decide (upE x.e)
theorem ups_yes {S : List Dop} {x : Dop} (h : upE x.e) : ups (S ++ [x]) = ups S ++ [x] := by simp [ups, h]
theorem ups_no {S : List Dop} {x : Dop} (h : ¬ upE x.e) : ups (S ++ [x]) = ups S := by simp [ups, h]
theorem ups_le (S : List Dop) : (ups S).length ≤ S.length := List.length_filter_le _ _
theorem ups_mem {S : List Dop} {x : Dop} (h : x ∈ ups S) : x ∈ S := (List.mem_filter.1 h).1
theorem dcs_snoc (S : List Dop) (x : Dop) : dcs (S ++ [x]) = dcs S ++ x.cells := by simp [dcs]

theorem step_up {x : Dop} {L : List En} (h : ∀ e ∈ L, upE e) (hx : upE x.e) : ∀ e ∈ stepE x L, upE e := by
  intro e he
  unfold stepE at he
  split at he
  · unfold putL at he
    split at he
    · exact h e he
    · rcases List.mem_append.1 he with he | he
      · exact h e (List.mem_filter.1 he).1
      · simp at he; subst he; exact hx
  split at he
  · unfold useL at he
    split at he
    · rename_i y hf
      rcases List.mem_append.1 he with he | he
      · exact h e (List.mem_filter.1 he).1
      · simp at he; subst he; exact h _ (List.mem_of_find?_eq_some hf)
    · exact h e he
  split at he
  · exact h e (List.mem_filter.1 he).1
  split at he
  · simp at he
  split at he
  · exact h e (List.mem_filter.1 he).1
  · exact h e he
theorem foldl_up (S : List Dop) : ∀ L : List En, (∀ e ∈ L, upE e) → (∀ x ∈ S, upE x.e) → ∀ e ∈ S.foldl (fun L x => stepE x L) L, upE e := by
  induction S with
  | nil => intro L h _; exact h
  | cons x S ih => intro L h hS; exact ih _ (step_up h (hS x (by simp))) (fun y hy => hS y (by simp [hy]))
theorem play_up (S : List Dop) : ∀ e ∈ playE (ups S), upE e := foldl_up _ _ (by simp) (fun x hx => of_decide_eq_true (List.mem_filter.1 hx).2)

theorem find_mem {L : List En} {e : En} (hn : (L.map En.key).Nodup) (he : e ∈ L) : findL e.key L = some e := by
  cases hf : findL e.key L with
  | none => rw [findL, List.find?_eq_none] at hf; have := hf e he; simp [isK] at this
  | some y =>
    have h1 := List.mem_of_find?_eq_some hf
    have h2 := List.find?_some hf
    simp only [isK, decide_eq_true_eq] at h2
    rw [map_inj hn h1 he h2.symm]
theorem max_dir : ∀ L : List En, L ≠ [] → ∃ e ∈ L, ∀ x ∈ L, x.key.dir ≤ e.key.dir := by
  intro L
  induction L with
  | nil => intro h; exact absurd rfl h
  | cons y L ih =>
    intro _
    by_cases hL : L = []
    · subst hL; exact ⟨y, by simp, by simp⟩
    · obtain ⟨e, he, h⟩ := ih hL
      by_cases hy : e.key.dir ≤ y.key.dir
      · exact ⟨y, by simp, fun x hx => by
          rcases List.mem_cons.1 hx with rfl | hx
          · exact Int.le_refl _
          · exact Int.le_trans (h x hx) hy⟩
      · exact ⟨e, by simp [he], fun x hx => by
          rcases List.mem_cons.1 hx with rfl | hx
          · omega
          · exact h x hx⟩
theorem some_leaf {L : List En} (hn : (L.map En.key).Nodup) (hu : ∀ e ∈ L, upE e) (hL : L ≠ []) : ∃ e ∈ L, leafL e.key L = true := by
  obtain ⟨e, he, h⟩ := max_dir L hL
  refine ⟨e, he, ?_⟩
  unfold leafL
  rw [find_mem hn he]
  simp only [Bool.not_eq_true', List.any_eq_false, beq_iff_eq]
  intro x hx hd
  obtain ⟨h1, h2⟩ := hu e he
  have h3 := (hu x hx).1
  have h4 := h x hx
  rcases h2 with ⟨h5, _⟩ | ⟨h5, h6⟩
  · rw [h5] at hd; simp at hd; omega
  · rw [h5] at hd; simp at hd; omega

theorem eqIn_node' (i k m i' k' m' : Int) (t t' : ByteArray) (w : World) : (Op.equalIn 10000 28 (.agg #[.int .i64 i, .int .i64 k, .int .i64 m, .string t]) (.agg #[.int .i64 i', .int .i64 k', .int .i64 m', .string t'])).run Try.prog w = .ok (decide ((⟨i, k, m, t⟩ : Nd) = ⟨i', k', m', t'⟩)) w := by
  rw [run_equalIn_agg w 9999 28 _ _ (by kernel_rfl) (by kernel_rfl)]
  have hu := Try.underlying28
  have hu3 := Try.underlying3
  have hu9 := Try.underlying9
  have hi : (Try.prog.fieldsOf 28) = (match Try.prog.underlying 28 with | some (.struct fs) => fs | _ => #[]) := by kernel_rfl
  rw [hi, hu]
  simp only [Op.eqFields]
  simp [go_sem, hu3, hu9, bytes_beq]
  by_cases h1 : i = i' <;> by_cases h2 : k = k' <;> by_cases h3 : m = m' <;> by_cases h4 : t = t' <;> simp [h1, h2, h3, h4]

theorem infoOp : (Try.prog.info? 33).map (fun i => (i.zero, i.size, i.bytes)) = some (some (.agg #[.int .i64 0, .int .i64 0, .int .i64 0, .string ByteArray.empty, .bool false, .int .i64 0, .int .i64 0, .int .i64 0, .string ByteArray.empty, .slice none 0 0]), 10, 112) := by kernel_rfl
theorem Dop.one (x : Dop) : ∀ u ∈ x.cells, u.oneCell' = true := by
  intro u hu; simp [Dop.cells] at hu; rcases hu with rfl | rfl | rfl | rfl | rfl | rfl | rfl | rfl | rfl | rfl <;> rfl
theorem upE_iff (x : Dop) : upE x.e ↔ 0 < x.e.key.dir ∧ (x.e.neg = true ∧ x.e.node = ⟨0, 0, 0, ByteArray.empty⟩ ∨ x.e.neg = false ∧ x.e.key.dir < x.e.node.id) := Iff.rfl

set_option maxRecDepth 100000 in
set_option maxHeartbeats 4000000 in
theorem dentLeaves_walk (sa : Option Addr) (sc : Nat) (S : List Dop) (w : World) (hS : ScrD w (.slice sa S.length sc) S) (hz : S.length * 112 ≤ 140737488351232) (hkz : ∀ x ∈ S, x.ks.length * 24 ≤ 140737488351232) :
    Calls Try.prog 7 #[.slice sa S.length sc] w fun r w' => r = .returned (.bool true) ∧ Below w.heap.size w w' := by
  have HS := hid hS
  have HZ := hid hkz
  obtain ⟨i10, hi10, p10, q10, r10⟩ := info_parts infoOp
  have HI10 := hid hi10
  have hn : S.length ≤ 9223372036854775807 := by omega
  clear hS hkz hi10
  go_enter Try.func7, Try.ntmps7
  go_wp2_with fail
  go_loopw [3, 4] (fun v3 v4 wr => ∃ (i : Nat) (a5 : Option Addr) (c5 : Nat), i ≤ S.length ∧ v4 = .int .i64 i ∧ v3 = .slice a5 (ups (S.take i)).length c5 ∧ Hid (Below w.heap.size w wr) ∧ Hid (wr.ownsRow w.heap.size 33 10 (.slice a5 (ups (S.take i)).length c5) (ups (S.take i)).length (dcs (ups (S.take i))))) (fun _ v4 _ => S.length - (intOf v4).toNat)
  case atStart => exact ⟨0, none, 0, Nat.zero_le _, rfl, rfl, hid (Below.refl _ _), hid (World.ownsRow_nil _ _ _ _)⟩
  case round =>
    obtain ⟨i, a5, c5, hi, rfl, rfl, HB, HO⟩ := hrel
    have hzz := HB.out.size
    have hpl : (ups (S.take i)).length ≤ i := Nat.le_trans (ups_le _) (by simp; omega)
    by_cases hlt : i < S.length
    · have hi0 : (0 : Int) ≤ (i : Int) := by omega
      have hi1 : (i : Int) < (S.length : Int) := by omega
      obtain ⟨x, hx⟩ : ∃ x, S[i]? = some x := ⟨_, List.getElem?_eq_getElem hlt⟩
      obtain ⟨b, off, rfl⟩ := HS.out.loc (by omega)
      have CE := scrD_at HS.out (HB.out) hx
      have CE2 := scrD_at HS.out (HB.out.alloc hzz (.cells #[.int .i64 x.e.node.id, .int .i64 x.e.node.kind, .int .i64 x.e.node.mode, .string x.e.node.target] 28)) hx
      have BN := blk4 (heap_new wr (.cells #[.int .i64 x.e.node.id, .int .i64 x.e.node.kind, .int .i64 x.e.node.mode, .string x.e.node.target] 28))
      have htk : S.take (i + 1) = S.take i ++ [x] := by rw [List.take_add_one, hx]; rfl
      have HTK := hid htk
      have heq := fun W => eqIn_node' x.e.node.id x.e.node.kind x.e.node.mode 0 0 0 x.e.node.target { data := #[] } W
      have HUP := hid (upE_iff x)
      clear hx htk
      by_cases hup : upE x.e
      · have HYES := hid (ups_yes (S := S.take i) hup)
        obtain ⟨u1, u2⟩ := HUP.out.1 hup
        have t1 : decide (x.e.key.dir > 0) = true := decide_eq_true u1
        clear hup HUP
        rcases u2 with ⟨u2, u3⟩ | ⟨u2, u3⟩
        · rw [show decide ((⟨x.e.node.id, x.e.node.kind, x.e.node.mode, x.e.node.target⟩ : Nd) = ⟨0, 0, 0, { data := #[] }⟩) = true from decide_eq_true u3] at heq
          rw [u2] at CE CE2
          clear u3
          have HCE := hid (show x.cells = [.int .i64 x.kind, .int .i64 x.dir, .int .i64 x.e.key.dir, .string x.e.key.name, .bool true, .int .i64 x.e.node.id, .int .i64 x.e.node.kind, .int .i64 x.e.node.mode, .string x.e.node.target, .slice x.a x.ks.length x.c] by rw [← u2]; rfl)
          have HONE := hid (Dop.one x)
          rw [HCE.out] at HONE
          clear u2
          go_wp2_with fail
          go_quiet (fail)
          have HO3 := hid (own_drewN (own_alloc HO.out (.cells #[.int .i64 x.e.node.id, .int .i64 x.e.node.kind, .int .i64 x.e.node.mode, .string x.e.node.target] 28)) nq)
          have hz3 : ((wr.alloc (.cells #[.int .i64 x.e.node.id, .int .i64 x.e.node.kind, .int .i64 x.e.node.mode, .string x.e.node.target] 28)).drewN nq).heap.size = wr.heap.size + 1 := by simp
          go_wp2_with (at_builtin; refine wpList_append_rd rfl _ _ 22 rfl w.heap.size 33 i10 _ 10 112 Try.underlying22 HI10.out p10 q10 r10 rfl (by decide) (.slice a5 (ups (S.take i)).length c5) (ups (S.take i)).length (dcs (ups (S.take i))) rfl (own_alloc HO3.out _) (.slice (some ⟨wr.heap.size + 1, 0, none⟩) 1 1) 1 [.int .i64 x.kind, .int .i64 x.dir, .int .i64 x.e.key.dir, .string x.e.key.name, .bool true, .int .i64 x.e.node.id, .int .i64 x.e.node.kind, .int .i64 x.e.node.mode, .string x.e.node.target, .slice x.a x.ks.length x.c] rfl (rd_blk (by have e := heap_new ((wr.alloc (.cells #[.int .i64 x.e.node.id, .int .i64 x.e.node.kind, .int .i64 x.e.node.mode, .string x.e.node.target] 28)).drewN nq) (.cells #[.int .i64 x.kind, .int .i64 x.dir, .int .i64 x.e.key.dir, .string x.e.key.name, .bool true, .int .i64 x.e.node.id, .int .i64 x.e.node.kind, .int .i64 x.e.node.mode, .string x.e.node.target, .slice x.a x.ks.length x.c] 33); rw [hz3] at e; exact e) (by unfold maxLen; omega)) rfl HONE.out (by unfold maxLen; omega) (by omega) (by simp; omega) ?_; intro a6 c6 w6 hown6 hgrow6 hat6)
          refine ⟨⟨i + 1, a6, c6, by omega, by go_num, by rw [HTK.out, HYES.out, List.length_append]; rfl, hid ?_, hid (by rw [HTK.out, HYES.out, dcs_snoc, List.length_append, HCE.out]; exact hown6)⟩, by simp [intOf]; omega⟩
          exact ((below_drewN (HB.out.alloc hzz _) nq).alloc (by simp; omega) _).grown hgrow6 (by simp; omega) (fun k hk => (own_lt HO.out hk).1)
        · have t2 : decide (x.e.node.id > x.e.key.dir) = true := decide_eq_true u3
          rw [u2] at CE CE2
          clear u3
          have HCE := hid (show x.cells = [.int .i64 x.kind, .int .i64 x.dir, .int .i64 x.e.key.dir, .string x.e.key.name, .bool false, .int .i64 x.e.node.id, .int .i64 x.e.node.kind, .int .i64 x.e.node.mode, .string x.e.node.target, .slice x.a x.ks.length x.c] by rw [← u2]; rfl)
          have HONE := hid (Dop.one x)
          rw [HCE.out] at HONE
          clear u2
          go_wp2_with fail
          go_quiet (fail)
          have HO3 := hid (own_drewN (own_alloc HO.out (.cells #[.int .i64 x.e.node.id, .int .i64 x.e.node.kind, .int .i64 x.e.node.mode, .string x.e.node.target] 28)) nq)
          have hz3 : ((wr.alloc (.cells #[.int .i64 x.e.node.id, .int .i64 x.e.node.kind, .int .i64 x.e.node.mode, .string x.e.node.target] 28)).drewN nq).heap.size = wr.heap.size + 1 := by simp
          go_wp2_with (at_builtin; refine wpList_append_rd rfl _ _ 22 rfl w.heap.size 33 i10 _ 10 112 Try.underlying22 HI10.out p10 q10 r10 rfl (by decide) (.slice a5 (ups (S.take i)).length c5) (ups (S.take i)).length (dcs (ups (S.take i))) rfl (own_alloc HO3.out _) (.slice (some ⟨wr.heap.size + 1, 0, none⟩) 1 1) 1 [.int .i64 x.kind, .int .i64 x.dir, .int .i64 x.e.key.dir, .string x.e.key.name, .bool false, .int .i64 x.e.node.id, .int .i64 x.e.node.kind, .int .i64 x.e.node.mode, .string x.e.node.target, .slice x.a x.ks.length x.c] rfl (rd_blk (by have e := heap_new ((wr.alloc (.cells #[.int .i64 x.e.node.id, .int .i64 x.e.node.kind, .int .i64 x.e.node.mode, .string x.e.node.target] 28)).drewN nq) (.cells #[.int .i64 x.kind, .int .i64 x.dir, .int .i64 x.e.key.dir, .string x.e.key.name, .bool false, .int .i64 x.e.node.id, .int .i64 x.e.node.kind, .int .i64 x.e.node.mode, .string x.e.node.target, .slice x.a x.ks.length x.c] 33); rw [hz3] at e; exact e) (by unfold maxLen; omega)) rfl HONE.out (by unfold maxLen; omega) (by omega) (by simp; omega) ?_; intro a6 c6 w6 hown6 hgrow6 hat6)
          refine ⟨⟨i + 1, a6, c6, by omega, by go_num, by rw [HTK.out, HYES.out, List.length_append]; rfl, hid ?_, hid (by rw [HTK.out, HYES.out, dcs_snoc, List.length_append, HCE.out]; exact hown6)⟩, by simp [intOf]; omega⟩
          exact ((below_drewN (HB.out.alloc hzz _) nq).alloc (by simp; omega) _).grown hgrow6 (by simp; omega) (fun k hk => (own_lt HO.out hk).1)
      · have HNO := hid (ups_no (S := S.take i) hup)
        have hnu := fun h1 h2 => hup (HUP.out.2 ⟨h1, h2⟩)
        clear hup HUP
        by_cases u1 : 0 < x.e.key.dir
        · have t1 : decide (x.e.key.dir > 0) = true := decide_eq_true u1
          have hnu2 := hnu u1
          clear hnu
          cases hng : x.e.neg with
          | true =>
            rw [show decide ((⟨x.e.node.id, x.e.node.kind, x.e.node.mode, x.e.node.target⟩ : Nd) = ⟨0, 0, 0, { data := #[] }⟩) = false from decide_eq_false fun e => hnu2 (.inl ⟨hng, e⟩)] at heq
            rw [hng] at CE CE2
            clear hnu2 hng
            go_wp2_with fail
            go_quiet (fail)
            go_wp2
            exact ⟨⟨i + 1, a5, c5, by omega, by go_num, by rw [HTK.out, HNO.out], hid (below_drewN (HB.out.alloc hzz _) _), hid (by rw [HTK.out, HNO.out]; exact own_drewN (own_alloc HO.out _) _)⟩, by simp [intOf]; omega⟩
          | false =>
            have t2 : decide (x.e.node.id > x.e.key.dir) = false := decide_eq_false fun e => hnu2 (.inr ⟨hng, e⟩)
            rw [hng] at CE CE2
            clear hnu2 hng
            go_wp2_with fail
            go_quiet (fail)
            go_wp2
            exact ⟨⟨i + 1, a5, c5, by omega, by go_num, by rw [HTK.out, HNO.out], hid (below_drewN (HB.out.alloc hzz _) _), hid (by rw [HTK.out, HNO.out]; exact own_drewN (own_alloc HO.out _) _)⟩, by simp [intOf]; omega⟩
        · have t1 : decide (x.e.key.dir > 0) = false := decide_eq_false u1
          clear hnu u1
          go_wp2_with fail
          go_quiet (fail)
          go_wp2
          exact ⟨⟨i + 1, a5, c5, by omega, by go_num, by rw [HTK.out, HNO.out], hid (below_drewN (HB.out.alloc hzz _) _), hid (by rw [HTK.out, HNO.out]; exact own_drewN (own_alloc HO.out _) _)⟩, by simp [intOf]; omega⟩
    · have hje : S.take i = S := List.take_of_length_le (by omega)
      rw [hje] at HO ⊢
      clear hje
      have HU := hid (show ScrD wr (.slice a5 (ups S).length c5) (ups S) from ⟨Rd.own HO.out, fun x hx => (HS.out.each x (ups_mem hx)).below HB.out⟩)
      have hul := ups_le S
      have hzu : (ups S).length * 112 ≤ 140737488351232 := by omega
      have HZU := hid (fun x hx => HZ.out x (ups_mem (S := S) hx))
      have BB0 := HB
      have HUPS := hid (play_up S)
      obtain ⟨W0, hW0⟩ : ∃ W0, W0 = wr := ⟨_, rfl⟩
      subst hW0
      go_wp2_with (first
        | (go_at_call 31; refine (d_of' a5 c5 (ups S) _ HU.out hzu HZU.out).mono ?_; rintro r w1 ⟨p, pr, wh, ws, rfl, hp, -, hc1, -, -, -, hb1⟩; (have BB1 := hid (BB0.out.trans (hb1.mono BB0.out.size))); (have HC1 := hid hc1); (have hL := hc1.len); (have HK := hid hc1.keys); (have hl1 := hc1.lt); (have hw1 := hb1.size); clear hc1 hb1)
        | (go_at_call 32; refine (c_entries _ _ p _ _ _ HC1.out (by omega)).mono ?_; rintro r w2 ⟨a2, c2, rfl, hown2, hb2⟩; (have BB2 := hid (BB1.out.trans (hb2.mono BB1.out.size))); (have HC2 := hid (HC1.out.below hb2)); (have OW2 := hid hown2); (have hw2 := hb2.size); clear hown2 hb2)
        )
      go_loopw [10] (fun v10 wr => ∃ (i : Nat), i ≤ (playE (ups S)).length ∧ v10 = .int .i64 i ∧ Hid (Below w2.heap.size w2 wr) ∧ Hid (∀ x ∈ (playE (ups S)).take i, leafL x.key (playE (ups S)) = false)) (fun v10 _ => (playE (ups S)).length - (intOf v10).toNat)
      case atStart => exact ⟨0, Nat.zero_le _, rfl, hid (Below.refl _ _), hid (by simp)⟩
      case round =>
        obtain ⟨j, hj, rfl, HB3, HNL⟩ := hrel
        by_cases hlt2 : j < (playE (ups S)).length
        · have hj0 : (0 : Int) ≤ (j : Int) := by omega
          have hj1 : (j : Int) < ((playE (ups S)).length : Int) := by omega
          have OWr := hid (own_below OW2.out HB3.out)
          obtain ⟨g, hag, hBg, hgz, hc1, hc2⟩ := own_loc OWr.out (by omega)
          obtain ⟨y, hy⟩ : ∃ y, (playE (ups S))[j]? = some y := ⟨_, List.getElem?_eq_getElem hlt2⟩
          subst hag
          have b1 := ecs_at (Rd.own OWr.out) hy
          have HY := hid hy
          have BBr := hid (BB2.out.trans (HB3.out.mono BB2.out.size))
          clear hy
          cases hlf : leafL y.key (playE (ups S)) with
          | true =>
            have HLF := hid hlf
            clear hlf
            go_wp2_with (first
              | (go_at_call 35; refine (c_leaf _ _ _ _ _ _ y.key (HC2.out.below HB3.out)).mono ?_; rintro r w3 ⟨rfl, hb3⟩; rw [HLF.out]; (have BB3 := hid (BBr.out.trans (hb3.mono BBr.out.size))); clear hb3)
              | (go_at_call 30; refine (d_awake _).mono ?_; rintro r w4 ⟨rfl, hb4⟩; (have BB4 := hid (BB3.out.trans (hb4.mono BB3.out.size))); clear hb4))
            go_ret
            exact ⟨rfl, BB4.out⟩
          | false =>
            have HLF := hid hlf
            clear hlf
            go_wp2_with (go_at_call 35; refine (c_leaf _ _ _ _ _ _ y.key (HC2.out.below HB3.out)).mono ?_; rintro r w3 ⟨rfl, hb3⟩; rw [HLF.out]; (have HB4 := hid (HB3.out.trans (hb3.mono HB3.out.size))); clear hb3)
            exact ⟨⟨j + 1, by omega, by go_num, HB4, hid (fun x hx => by
              rw [List.take_add_one, HY.out] at hx
              rcases List.mem_append.1 hx with hx | hx
              · exact HNL.out x hx
              · simp at hx; subst hx; exact HLF.out)⟩, by simp [intOf]; omega⟩
        · have hL0 : playE (ups S) = [] := by
            refine Classical.byContradiction fun hL => ?_
            obtain ⟨e, he, hl⟩ := some_leaf HK.out HUPS.out hL
            have := HNL.out e (by rw [List.take_of_length_le (by omega)]; exact he)
            rw [hl] at this; cases this
          have hl0 : (playE (ups S)).length = 0 := by rw [hL0]; rfl
          have hl1 : (((playE (ups S)).length : Int) == 0) = true := by simp [hl0]
          have BBr := hid (BB2.out.trans (HB3.out.mono BB2.out.size))
          clear hL0
          go_wp2_with (go_at_call 30; refine (d_awake _).mono ?_; rintro r w4 ⟨rfl, hb4⟩; (have BB4 := hid (BBr.out.trans (hb4.mono BBr.out.size))); clear hb4)
          go_ret
          exact ⟨rfl, BB4.out⟩

end Go.Proofs.Ytmhogjecfgbchaa
