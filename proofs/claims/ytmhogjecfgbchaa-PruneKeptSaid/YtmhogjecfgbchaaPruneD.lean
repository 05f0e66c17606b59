import Derived.Test.YtmhogjecfgbchaaPruneC
namespace Go.Proofs.Ytmhogjecfgbchaa
set_option linter.unusedVariables false
set_option linter.unusedSimpArgs false
open Go.RowKit
attribute [local go_sem ↓] Go.wp_at_zero Go.wp_at_succ

def nB : ByteArray := { data := #[98] }
def E1 : En := ⟨⟨2, nB⟩, false, ⟨3, 2, 0, ByteArray.empty⟩⟩
theorem put1 : putL E1 [E0] = [E0, E1] := by kernel_rfl
theorem trim01L : (trimT 1 9 ⟨[E0, E1], fun _ => false, []⟩).L = [E0] := by kernel_rfl
theorem trim01G : (trimT 1 9 ⟨[E0, E1], fun _ => false, []⟩).G = [⟨2, nB⟩] := by kernel_rfl

theorem c_trim01 (w : World) (B p : Nat) (h : CAt w B p 2 [E0, E1] (fun _ => false)) :
    Calls Try.prog 42 #[.pointer (some ⟨p, 0, none⟩), .int .i64 1, .int .i64 9] w fun r w' => ∃ (g c : Nat) (wh : Int → Bool), r = .returned (.slice (some ⟨g, 0, none⟩) 1 c) ∧ 1 ≤ c ∧ w'.cell? ⟨g, 0, none⟩ = some (.int .i64 2) ∧ w'.cell? ⟨g, 1, none⟩ = some (.string { data := #[98] }) ∧ CAt w' B p 2 [E0] wh ∧ Chg (CF B p) w w' := by
  refine (c_trim w B p 2 [E0, E1] (fun _ => false) 1 9 h (by omega)).mono ?_
  rintro r w4 ⟨s, a4, c4, rfl, hs, hown4, hc4, hgl4, hg4⟩
  have hG : s.G = [⟨2, nB⟩] := by rw [hs, trim01G]
  have hL : s.L = [E0] := by rw [hs, trim01L]
  clear hs
  rw [hG] at hown4
  rw [hL] at hc4
  rw [hG]
  obtain ⟨g, hag, hBg, hgz, hc1, hc2⟩ := own_loc hown4 (by simp)
  subst hag
  have h0 := (Rd.own hown4).at 0 _ rfl
  have h1 := (Rd.own hown4).at 1 _ rfl
  exact ⟨g, c4, s.wh, rfl, hc1, by simpa using h0, by have := h1; simp at this; exact this, hc4, hg4⟩

set_option maxRecDepth 100000 in
set_option maxHeartbeats 1000000 in
theorem p_awake (w : World) : Calls Try.prog 43 #[] w fun e w' => e = .returned (.bool true) ∧ Below w.heap.size w w' := by
  have heq := fun W => eqIn_key 2 2 nB nB W
  simp only [decide_true] at heq
  unfold nB at heq
  go_enter Try.func43, Try.ntmps43
  go_wp2_with (first
    | (go_at_call 19; refine (c_new _).mono ?_; rintro e w1 ⟨rfl, hc1, hb1⟩; (have HC1 := hid hc1); (have BB1 := hid hb1); clear hc1 hb1)
    | (go_at_call 21; (fail_if_success (have hxx := HC2)); refine (c_put _ w.heap.size (w.heap.size + 2) 0 [] (fun _ => false) E0 HC1.out (by omega)).mono ?_; rintro e w2 ⟨rfl, hc2, hg2⟩; rw [put0] at hc2; (have HC2 := hid hc2); (have BB2 := hid (BB1.out.trans (hg2.toBelow BB1.out.size CF.low))); clear hc2 hg2)
    | (go_at_call 21; refine (c_put _ w.heap.size (w.heap.size + 2) 1 [E0] (fun _ => false) E1 HC2.out (by omega)).mono ?_; rintro e w3 ⟨rfl, hc3, hg3⟩; rw [put1] at hc3; (have HC3 := hid hc3); (have BB3 := hid (BB2.out.trans (hg3.toBelow BB2.out.size CF.low))); clear hc3 hg3)
    | (go_at_call 42; refine (c_trim01 _ w.heap.size (w.heap.size + 2) HC3.out).mono ?_; rintro r w4 ⟨g, c4, wh4, rfl, hcc, hk1, hk2, hc4, hg4⟩; (have HC4 := hid hc4); (have BB4 := hid (BB3.out.trans (hg4.toBelow BB3.out.size CF.low))); clear hc4 hg4)
    | (go_at_call 34; refine (c_len _ _ _ _ _ _ HC4.out).mono ?_; rintro e w5 ⟨rfl, rfl⟩))
  go_ret
  exact ⟨rfl, BB4.out⟩

theorem any_isK_take {L : List En} {k : Ky} {i : Nat} {x : En} (h : L[i]? = some x) : (L.take (i + 1)).any (isK k) = ((L.take i).any (isK k) || isK k x) := by
  rw [List.take_add_one, h]; simp

set_option maxHeartbeats 1000000 in
theorem p_has (w : World) (L : List En) (a : Option Addr) (c : Nat) (k : Ky) (h : Rd w (.slice a L.length c) L.length (ecs L)) :
    Calls Try.prog 44 #[.slice a L.length c, .agg #[.int .i64 k.dir, .string k.name]] w fun e w' => e = .returned (.bool (L.any (isK k))) ∧ Below w.heap.size w w' := by
  have HR := hid (h.below (bl1 w (.cells #[.int .i64 k.dir, .string k.name] 26)))
  have KB0 := hid (heap_new w (.cells #[.int .i64 k.dir, .string k.name] 26))
  have hl1 := h.len
  unfold maxLen at hl1
  clear h
  go_enter Try.func44, Try.ntmps44
  go_wp2_with fail
  go_loopw [5] (fun v wr => ∃ (i : Nat), i ≤ L.length ∧ v = .int .i64 i ∧ Hid ((L.take i).any (isK k) = false) ∧ Hid (Below (w.alloc (.cells #[.int .i64 k.dir, .string k.name] 26)).heap.size (w.alloc (.cells #[.int .i64 k.dir, .string k.name] 26)) wr)) (fun v _ => L.length - (intOf v).toNat)
  case atStart => exact ⟨0, Nat.zero_le _, rfl, hid (by simp), hid (Below.refl _ _)⟩
  case round =>
    obtain ⟨i, hi, rfl, HN, HB⟩ := hrel
    have BBr := hid ((bl1 w (.cells #[.int .i64 k.dir, .string k.name] 26)).trans (HB.out.mono (by simp)))
    by_cases hlt : i < L.length
    · have hk0 : (0 : Int) ≤ (i : Int) := by omega
      have hk1 : (i : Int) < (L.length : Int) := by omega
      obtain ⟨b1, o1, rfl⟩ := ecs_loc HR.out (by omega)
      obtain ⟨x, hx⟩ : ∃ x, L[i]? = some x := ⟨_, List.getElem?_eq_getElem hlt⟩
      have P1 := ecs_cells (HR.out.below HB.out) hx
      have bk := blk2 (heap_below HB.out KB0.out (blk_lt KB0.out))
      have HST := hid (any_isK_take (k := k) hx)
      have HX := hid hx
      have heq := fun W => eqIn_key x.key.dir k.dir x.key.name k.name W
      clear hx
      by_cases hk : x.key = k
      · rw [show decide ((⟨x.key.dir, x.key.name⟩ : Ky) = ⟨k.dir, k.name⟩) = true by rw [hk]; simp] at heq
        have HF := hid (show L.any (isK k) = true from List.any_eq_true.2 ⟨x, List.mem_of_getElem? HX.out, by simp [isK, hk]⟩)
        clear hk
        go_wp2_with fail
        go_quiet (fail)
        go_wp2
        go_ret
        exact ⟨by rw [HF.out]; rfl, below_drewN BBr.out _⟩
      · have hne : ¬ ((⟨x.key.dir, x.key.name⟩ : Ky) = ⟨k.dir, k.name⟩) := hk
        simp only [hne, decide_false] at heq
        have HF := hid (show isK k x = false by simp [isK]; exact fun e => hk e.symm)
        clear hk hne
        go_wp2_with fail
        go_quiet (fail)
        go_wp2
        exact ⟨⟨i + 1, by omega, by go_num, hid (by rw [HST.out, HN.out, HF.out]; rfl), hid (below_drewN HB.out _)⟩, by simp [intOf]; omega⟩
    · have HF := hid (show L.any (isK k) = false by have := HN.out; rw [List.take_of_length_le (by omega)] at this; exact this)
      go_wp2
      go_ret
      exact ⟨by rw [HF.out]; rfl, BBr.out⟩

set_option maxRecDepth 100000 in
set_option maxHeartbeats 4000000 in
theorem p_tree (sa : Option Addr) (sc : Nat) (S : List Dop) (w : World) (hS : ScrD w (.slice sa S.length sc) S) (hz : S.length * 112 ≤ 140737488351232) (hkz : ∀ x ∈ S, x.ks.length * 24 ≤ 140737488351232) :
    Calls Try.prog 41 #[.slice sa S.length sc] w fun r w' => ∃ (B p : Nat) (wh : Int → Bool) (L : List En), r = .returned (.tuple #[.pointer (some ⟨p, 0, none⟩), .bool true]) ∧ w.heap.size ≤ B ∧ CAt w' B p (ups S).length L wh ∧ L = playE (ups S) ∧ Below w.heap.size w w' := by
  have HS := hid hS
  have HZ := hid hkz
  obtain ⟨i10, hi10, p10, q10, r10⟩ := info_parts infoOp
  have HI10 := hid hi10
  have hn : S.length ≤ 9223372036854775807 := by omega
  clear hS hkz hi10
  go_enter Try.func41, Try.ntmps41
  go_wp2_with fail
  go_loopw [4, 5] (fun v3 v4 wr => ∃ (i : Nat) (a5 : Option Addr) (c5 : Nat), i ≤ S.length ∧ v4 = .int .i64 i ∧ v3 = .slice a5 (ups (S.take i)).length c5 ∧ Hid (Below w.heap.size w wr) ∧ Hid (wr.ownsRow w.heap.size 33 10 (.slice a5 (ups (S.take i)).length c5) (ups (S.take i)).length (dcs (ups (S.take i))))) (fun _ v4 _ => S.length - (intOf v4).toNat)
  case atStart => exact ⟨0, none, 0, Nat.zero_le _, rfl, rfl, hid (Below.refl _ _), hid (World.ownsRow_nil _ _ _ _)⟩
  case round =>
    obtain ⟨i, a5, c5, hi, rfl, rfl, HB, HO⟩ := hrel
    have hzz := HB.out.size
    have hpl : (ups (S.take i)).length ≤ i := Nat.le_trans (ups_le _) (by simp; omega)
    by_cases hlt : i < S.length
    · have hi0 : (0 : Int) ≤ (i : Int) := by omega
      have hi1 : (i : Int) < (S.length : Int) := by omega
      obtain ⟨x, hx⟩ : ∃ x, S[i]? = some x := ⟨_, List.getElem?_eq_getElem hlt⟩
      obtain ⟨b, off, rfl⟩ := HS.out.loc (by omega)
      have CE := scrD_at HS.out (HB.out) hx
      have htk : S.take (i + 1) = S.take i ++ [x] := by rw [List.take_add_one, hx]; rfl
      have HTK := hid htk
      have heq := fun W => eqIn_node' x.e.node.id x.e.node.kind x.e.node.mode 0 0 0 x.e.node.target { data := #[] } W
      have HUP := hid (upE_iff x)
      by_cases hup : upE x.e
      · have HYES := hid (ups_yes (S := S.take i) hup)
        obtain ⟨u1, u2⟩ := HUP.out.1 hup
        have t1 : decide (x.e.key.dir > 0) = true := decide_eq_true u1
        clear hup HUP htk
        rcases u2 with ⟨u2, u3⟩ | ⟨u2, u3⟩
        · rw [show decide ((⟨x.e.node.id, x.e.node.kind, x.e.node.mode, x.e.node.target⟩ : Nd) = ⟨0, 0, 0, { data := #[] }⟩) = true from decide_eq_true u3] at heq
          have CE2 := scrD_at HS.out (HB.out.alloc hzz (.cells #[.int .i64 x.e.key.dir, .string x.e.key.name, .bool true, .int .i64 x.e.node.id, .int .i64 x.e.node.kind, .int .i64 x.e.node.mode, .string x.e.node.target] 30)) hx
          have BN := blk7 (heap_new wr (.cells #[.int .i64 x.e.key.dir, .string x.e.key.name, .bool true, .int .i64 x.e.node.id, .int .i64 x.e.node.kind, .int .i64 x.e.node.mode, .string x.e.node.target] 30))
          rw [u2] at CE CE2
          have HCE := hid (show x.cells = [.int .i64 x.kind, .int .i64 x.dir, .int .i64 x.e.key.dir, .string x.e.key.name, .bool true, .int .i64 x.e.node.id, .int .i64 x.e.node.kind, .int .i64 x.e.node.mode, .string x.e.node.target, .slice x.a x.ks.length x.c] by rw [← u2]; rfl)
          have HONE := hid (Dop.one x)
          rw [HCE.out] at HONE
          clear u2 u3 hx
          go_wp2_with (at_builtin; refine wpList_append_rd rfl _ _ 22 rfl w.heap.size 33 i10 _ 10 112 Try.underlying22 HI10.out p10 q10 r10 rfl (by decide) (.slice a5 (ups (S.take i)).length c5) (ups (S.take i)).length (dcs (ups (S.take i))) rfl (own_alloc (own_alloc HO.out _) _) (.slice (some ⟨wr.heap.size + 1, 0, none⟩) 1 1) 1 [.int .i64 x.kind, .int .i64 x.dir, .int .i64 x.e.key.dir, .string x.e.key.name, .bool true, .int .i64 x.e.node.id, .int .i64 x.e.node.kind, .int .i64 x.e.node.mode, .string x.e.node.target, .slice x.a x.ks.length x.c] rfl (rd_blk (by have e := heap_new (wr.alloc (.cells #[.int .i64 x.e.key.dir, .string x.e.key.name, .bool true, .int .i64 x.e.node.id, .int .i64 x.e.node.kind, .int .i64 x.e.node.mode, .string x.e.node.target] 30)) (.cells #[.int .i64 x.kind, .int .i64 x.dir, .int .i64 x.e.key.dir, .string x.e.key.name, .bool true, .int .i64 x.e.node.id, .int .i64 x.e.node.kind, .int .i64 x.e.node.mode, .string x.e.node.target, .slice x.a x.ks.length x.c] 33); rw [World.size_alloc] at e; exact e) (by unfold maxLen; omega)) rfl HONE.out (by unfold maxLen; omega) (by omega) (by simp; omega) ?_; intro a6 c6 w6 hown6 hgrow6 hat6)
          refine ⟨⟨i + 1, a6, c6, by omega, by go_num, by rw [HTK.out, HYES.out, List.length_append]; rfl, hid ?_, hid (by rw [HTK.out, HYES.out, dcs_snoc, List.length_append, HCE.out]; exact hown6)⟩, by simp [intOf]; omega⟩
          exact ((HB.out.alloc hzz _).alloc (by simp; omega) _).grown hgrow6 (by simp; omega) (fun k hk => (own_lt HO.out hk).1)
        · have t2 : decide (x.e.node.id > x.e.key.dir) = true := decide_eq_true u3
          have CE2 := scrD_at HS.out (HB.out.alloc hzz (.cells #[.int .i64 x.e.key.dir, .string x.e.key.name, .bool false, .int .i64 x.e.node.id, .int .i64 x.e.node.kind, .int .i64 x.e.node.mode, .string x.e.node.target] 30)) hx
          have BN := blk7 (heap_new wr (.cells #[.int .i64 x.e.key.dir, .string x.e.key.name, .bool false, .int .i64 x.e.node.id, .int .i64 x.e.node.kind, .int .i64 x.e.node.mode, .string x.e.node.target] 30))
          rw [u2] at CE CE2
          have HCE := hid (show x.cells = [.int .i64 x.kind, .int .i64 x.dir, .int .i64 x.e.key.dir, .string x.e.key.name, .bool false, .int .i64 x.e.node.id, .int .i64 x.e.node.kind, .int .i64 x.e.node.mode, .string x.e.node.target, .slice x.a x.ks.length x.c] by rw [← u2]; rfl)
          have HONE := hid (Dop.one x)
          rw [HCE.out] at HONE
          clear u2 u3 hx
          go_wp2_with (at_builtin; refine wpList_append_rd rfl _ _ 22 rfl w.heap.size 33 i10 _ 10 112 Try.underlying22 HI10.out p10 q10 r10 rfl (by decide) (.slice a5 (ups (S.take i)).length c5) (ups (S.take i)).length (dcs (ups (S.take i))) rfl (own_alloc (own_alloc HO.out _) _) (.slice (some ⟨wr.heap.size + 1, 0, none⟩) 1 1) 1 [.int .i64 x.kind, .int .i64 x.dir, .int .i64 x.e.key.dir, .string x.e.key.name, .bool false, .int .i64 x.e.node.id, .int .i64 x.e.node.kind, .int .i64 x.e.node.mode, .string x.e.node.target, .slice x.a x.ks.length x.c] rfl (rd_blk (by have e := heap_new (wr.alloc (.cells #[.int .i64 x.e.key.dir, .string x.e.key.name, .bool false, .int .i64 x.e.node.id, .int .i64 x.e.node.kind, .int .i64 x.e.node.mode, .string x.e.node.target] 30)) (.cells #[.int .i64 x.kind, .int .i64 x.dir, .int .i64 x.e.key.dir, .string x.e.key.name, .bool false, .int .i64 x.e.node.id, .int .i64 x.e.node.kind, .int .i64 x.e.node.mode, .string x.e.node.target, .slice x.a x.ks.length x.c] 33); rw [World.size_alloc] at e; exact e) (by unfold maxLen; omega)) rfl HONE.out (by unfold maxLen; omega) (by omega) (by simp; omega) ?_; intro a6 c6 w6 hown6 hgrow6 hat6)
          refine ⟨⟨i + 1, a6, c6, by omega, by go_num, by rw [HTK.out, HYES.out, List.length_append]; rfl, hid ?_, hid (by rw [HTK.out, HYES.out, dcs_snoc, List.length_append, HCE.out]; exact hown6)⟩, by simp [intOf]; omega⟩
          exact ((HB.out.alloc hzz _).alloc (by simp; omega) _).grown hgrow6 (by simp; omega) (fun k hk => (own_lt HO.out hk).1)
      · have HNO := hid (ups_no (S := S.take i) hup)
        have hnu := fun h1 h2 => hup (HUP.out.2 ⟨h1, h2⟩)
        clear hup HUP htk
        by_cases u1 : 0 < x.e.key.dir
        · have t1 : decide (x.e.key.dir > 0) = true := decide_eq_true u1
          have hnu2 := hnu u1
          clear hnu
          cases hng : x.e.neg with
          | true =>
            rw [show decide ((⟨x.e.node.id, x.e.node.kind, x.e.node.mode, x.e.node.target⟩ : Nd) = ⟨0, 0, 0, { data := #[] }⟩) = false from decide_eq_false fun e => hnu2 (.inl ⟨hng, e⟩)] at heq
            clear hnu2
            have BN := blk7 (heap_new wr (.cells #[.int .i64 x.e.key.dir, .string x.e.key.name, .bool true, .int .i64 x.e.node.id, .int .i64 x.e.node.kind, .int .i64 x.e.node.mode, .string x.e.node.target] 30))
            rw [hng] at CE
            clear hng
            clear hx
            go_wp2
            exact ⟨⟨i + 1, a5, c5, by omega, by go_num, by rw [HTK.out, HNO.out], hid (HB.out.alloc hzz _), hid (by rw [HTK.out, HNO.out]; exact own_alloc HO.out _)⟩, by simp [intOf]; omega⟩
          | false =>
            have t2 : decide (x.e.node.id > x.e.key.dir) = false := decide_eq_false fun e => hnu2 (.inr ⟨hng, e⟩)
            clear hnu2
            have BN := blk7 (heap_new wr (.cells #[.int .i64 x.e.key.dir, .string x.e.key.name, .bool false, .int .i64 x.e.node.id, .int .i64 x.e.node.kind, .int .i64 x.e.node.mode, .string x.e.node.target] 30))
            rw [hng] at CE
            clear hng
            clear hx
            go_wp2
            exact ⟨⟨i + 1, a5, c5, by omega, by go_num, by rw [HTK.out, HNO.out], hid (HB.out.alloc hzz _), hid (by rw [HTK.out, HNO.out]; exact own_alloc HO.out _)⟩, by simp [intOf]; omega⟩
        · have t1 : decide (x.e.key.dir > 0) = false := decide_eq_false u1
          clear hnu u1
          have BN := blk7 (heap_new wr (.cells #[.int .i64 x.e.key.dir, .string x.e.key.name, .bool x.e.neg, .int .i64 x.e.node.id, .int .i64 x.e.node.kind, .int .i64 x.e.node.mode, .string x.e.node.target] 30))
          clear hx
          go_wp2
          exact ⟨⟨i + 1, a5, c5, by omega, by go_num, by rw [HTK.out, HNO.out], hid (HB.out.alloc hzz _), hid (by rw [HTK.out, HNO.out]; exact own_alloc HO.out _)⟩, by simp [intOf]; omega⟩
    · have hje : S.take i = S := List.take_of_length_le (by omega)
      rw [hje] at HO ⊢
      clear hje
      have HU := hid (show ScrD wr (.slice a5 (ups S).length c5) (ups S) from ⟨Rd.own HO.out, fun x hx => (HS.out.each x (ups_mem hx)).below HB.out⟩)
      have hul := ups_le S
      have hzu : (ups S).length * 112 ≤ 140737488351232 := by omega
      have HZU := hid (fun x hx => HZ.out x (ups_mem (S := S) hx))
      go_wp2_with (go_at_call 31; refine (d_of' a5 c5 (ups S) _ HU.out hzu HZU.out).mono ?_; rintro r w1 ⟨p, pr, wh, ws, rfl, hp, -, hc1, -, -, -, hb1⟩)
      go_ret2
      exact ⟨wr.heap.size, p, wh, _, rfl, hzz, hc1, rfl, HB.out.trans (hb1.mono hzz)⟩

end Go.Proofs.Ytmhogjecfgbchaa
