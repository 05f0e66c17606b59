/- Parts of a proof about the given program, in build order: LstH, LstP, LstQ, LstR. No condition. -/
import Derived.Test.YtbjibkjenleloaaGreatDoorMg36
section
namespace Go.Proofs.YtbjibkjenleloaaGreatDoor
set_option linter.unusedVariables false
set_option linter.unusedSimpArgs false
open Go.RowKit
attribute [local go_sem ↓] Go.wp_at_zero Go.wp_at_succ
attribute [local go_sem] run_store_complex run_store_float


/-- the reply to a list -/
def msL (ea : Option Addr) (el ec : Nat) (v : Int) : Ms := ⟨2, 1, 1, 1, 1, 0, v, 0, op0, ea, el, ec, none, 0, 0⟩
set_option maxRecDepth 100000 in
set_option maxHeartbeats 4000000 in
theorem take_root (w : World) (c t B p n Bu : Nat) (s : Cl) (ho v : Int) (F : List En) (ea : Option Addr) (ec : Nat) (h : CliAt w c t B p n s { td0 1 1 ho with asked := 1 } [] (fun _ => false)) (hk : s.am.op.kind = 2) (hd : s.am.op.dir = 1) (hck : s.ck = 4) (hcp : s.cp = { data := #[47] }) (hv : 0 ≤ v) (hn : n + F.length < 800000) (hs0 : 0 ≤ s.seq) (hs1 : s.seq < 1000000000000) (hl0 : 0 ≤ s.cf.li) (hl8 : s.cf.li ≤ 8)
    (hF : w.ownsRow Bu 55 7 (.slice ea F.length ec) F.length (ecs F)) :
    Calls Tryz.prog 13 #[.pointer (some ⟨c, 0, none⟩), (msL ea F.length ec v).v] w fun r w' => ∃ (a0 : Option Addr) (c0 : Nat) (N : List En) (na : Option Addr) (nc : Nat), (((trimT s.cf.de s.cf.ne ⟨putAll F [], setWh 1 (fun _ => false), []⟩).wh 1 = true ∧ N.Perm ((trimT s.cf.de s.cf.ne ⟨putAll F [], setWh 1 (fun _ => false), []⟩).L.filter (inDir 1)) ∧ N.Pairwise fun x y => nmLt x.key.name y.key.name = true) ∨ ((trimT s.cf.de s.cf.ne ⟨putAll F [], setWh 1 (fun _ => false), []⟩).wh 1 = false ∧ N = F)) ∧ w'.ownsRow w.heap.size 9 1 (.slice na N.length nc) N.length (srow (nmsL N)) ∧
      r = .returned (.tuple #[.slice a0 0 c0, .bool true, (An.mk 0 nd0 na N.length nc v).v]) ∧ CliAt w' c t B p (n + F.length) { s with busy := false, am := ms0 } ⟨1, 1, ho, 1, 0, v, 0⟩ (trimT s.cf.de s.cf.ne ⟨putAll F [], setWh 1 (fun _ => false), []⟩).L (trimT s.cf.de s.cf.ne ⟨putAll F [], setWh 1 (fun _ => false), []⟩).wh ∧ Chg (fun j => j = c ∨ j = t ∨ CF B p j) w w' := by
  have hm1 : InM 1 := by unfold InM; omega
  have hm0 : InM 0 := by unfold InM; omega
  have hmx : max (0 : Int) v = v := by omega
  have hT := take_names w c t B p n (n + F.length) s { s with busy := false, am := ms0 } { td0 1 1 ho with asked := 1 } ⟨1, 1, ho, 1, 0, v, 0⟩ [] (trimT s.cf.de s.cf.ne ⟨putAll F [], setWh 1 (fun _ => false), []⟩).L (fun _ => false) (trimT s.cf.de s.cf.ne ⟨putAll F [], setWh 1 (fun _ => false), []⟩).wh (msL ea F.length ec v) F true 0
    (fun an NM => ∃ (N : List En) (na : Option Addr) (nc : Nat), NM = nmsL N ∧ an = ⟨0, nd0, na, N.length, nc, v⟩ ∧ (((trimT s.cf.de s.cf.ne ⟨putAll F [], setWh 1 (fun _ => false), []⟩).wh 1 = true ∧ N.Perm ((trimT s.cf.de s.cf.ne ⟨putAll F [], setWh 1 (fun _ => false), []⟩).L.filter (inDir 1)) ∧ N.Pairwise fun x y => nmLt x.key.name y.key.name = true) ∨ ((trimT s.cf.de s.cf.ne ⟨putAll F [], setWh 1 (fun _ => false), []⟩).wh 1 = false ∧ N = F))) h
    (fun w1 ht1 hb1 => tide_take w1 t { td0 1 1 ho with asked := 1 } ⟨1, 1, ho, 1, 0, v, 0⟩ (msL ea F.length ec v) F false true true 0 ht1 rfl rfl rfl hm1 hm0 hm0 (show (0 : Int) < 1 by decide) rfl rfl (show (0 : Int) < 1 by decide) fun w2 ht2 hc2 => by
      have hF1 := own_below hF hb1
      have hne := own_ne hF1 ht1 (by decide)
      have h1 := tide_use w2 t _ (msL ea F.length ec v) F ht2 (show (0 : Int) ≠ 70 by decide) rfl (Rd.own (ownsRow_chg hF1 fun j hj hl => hc2.block j hl fun e1 => by subst e1; exact hne hj)) (by omega) (by rw [ownBlock_slice] at hne; exact hne)
      exact h1.mono fun e w' hh => by
        obtain ⟨a, c, g1, g2, g3, g4⟩ := hh
        refine ⟨a, c, g1, g2, ?_, g4⟩
        simp only [td0, msL] at g3
        rw [hmx] at g3
        exact g3)
    (fun w1 Bu1 a cc hC hE hB => (reply_root w1 c t B p n Bu1 s ⟨1, 1, ho, 1, 0, v, 0⟩ [] F (fun _ => false) a cc hC hE hB hk hd hn hck hcp hs0 hs1 hl0 hl8).mono fun e w' hh => by
      obtain ⟨N, na, nc, h1, h2, h3, h4, h5⟩ := hh
      exact ⟨⟨0, nd0, na, N.length, nc, v⟩, nmsL N, ⟨N, na, nc, rfl, rfl, h1⟩, h3, h2, h4, h5⟩)
  refine hT.mono ?_
  rintro r w' ⟨a0, c0, an, NM, ⟨N, na, nc, rfl, rfl, h1⟩, h2, h3, h4, h5⟩
  exact ⟨a0, c0, N, na, nc, h1, h2, h3, h4, h5⟩
end Go.Proofs.YtbjibkjenleloaaGreatDoor

end

section
namespace Go.Proofs.YtbjibkjenleloaaGreatDoor
set_option linter.unusedVariables false
set_option linter.unusedSimpArgs false
open Go.RowKit

/-! ### a flat list of entries, rising by names: what putting and trimming make of it -/
def FlatE (e : En) : Prop := e.key.dir = 1 ∧ e.neg = false ∧ 1 < e.node.id ∧ e.key.name ≠ ByteArray.empty
def riseE (x y : En) : Prop := nmLt x.key.name y.key.name = true
theorem nm_irr (a : ByteArray) : nmLt a a = false := bl_irrefl _
theorem rise_ne {x y : En} (h : riseE x y) : x.key ≠ y.key := by
  intro e
  unfold riseE at h
  rw [e, nm_irr] at h
  cases h
theorem bl_asym : ∀ l m : List UInt8, Op.bytesLess l m = true → Op.bytesLess m l = false
  | [], [], h => by simp [Op.bytesLess] at h
  | [], _ :: _, _ => rfl
  | _ :: _, [], h => by simp [Op.bytesLess] at h
  | a :: l, b :: m, h => by
    simp only [Op.bytesLess, Bool.or_eq_true, Bool.and_eq_true, decide_eq_true_eq, beq_iff_eq] at h
    simp only [Op.bytesLess, Bool.or_eq_false_iff, Bool.and_eq_false_imp, decide_eq_false_iff_not, beq_iff_eq]
    rcases h with h | ⟨rfl, h⟩
    · exact ⟨fun h2 => absurd (UInt8.lt_trans h h2) (UInt8.lt_irrefl _), fun e => by subst e; exact absurd h (UInt8.lt_irrefl _)⟩
    · exact ⟨UInt8.lt_irrefl _, fun _ => bl_asym l m h⟩
theorem rise_asym {x y : En} (h : riseE x y) : ¬ riseE y x := by
  unfold riseE nmLt at *
  rw [bl_asym _ _ h]
  simp
theorem perm_eq : ∀ {L M : List En}, L.Perm M → L.Pairwise riseE → M.Pairwise riseE → L = M
  | [], M, hp, _, _ => (hp.nil_eq)
  | a :: l, M, hp, hL, hM => by
    cases M with
    | nil => exact absurd hp.symm.nil_eq (by simp)
    | cons b m =>
      by_cases hab : a = b
      · subst hab
        rw [perm_eq (List.Perm.cons_inv hp) (List.pairwise_cons.1 hL).2 (List.pairwise_cons.1 hM).2]
      · have h1 : a ∈ m := by
          rcases List.mem_cons.1 (hp.mem_iff.1 (List.mem_cons_self ..)) with h | h
          · exact absurd h hab
          · exact h
        have h2 : b ∈ l := by
          rcases List.mem_cons.1 (hp.mem_iff.2 (List.mem_cons_self ..)) with h | h
          · exact absurd h.symm hab
          · exact h
        exact absurd ((List.pairwise_cons.1 hL).1 b h2) (rise_asym ((List.pairwise_cons.1 hM).1 a h1))
theorem drop_no {k : Ky} {L : List En} (h : ∀ x ∈ L, x.key ≠ k) : dropL k L = L := by
  unfold dropL
  rw [List.filter_eq_self]
  intro x hx
  have h1 : ¬ k = x.key := fun e => h x hx e.symm
  simp [isK, h1]
theorem put_rise : ∀ (F L : List En), (∀ e ∈ F, FlatE e) → F.Pairwise riseE → (∀ x ∈ L, ∀ y ∈ F, x.key ≠ y.key) → putAll F L = L ++ F
  | [], L, _, _, _ => by simp [putAll]
  | e :: F, L, hf, hr, hd => by
    have h1 : putL e L = L ++ [e] := by
      unfold putL
      rw [if_neg (hf e (List.mem_cons_self ..)).2.2.2, drop_no (fun x hx => hd x hx e (List.mem_cons_self ..))]
    show putAll F (putL e L) = _
    rw [h1, put_rise F (L ++ [e]) (fun x hx => hf x (List.mem_cons_of_mem _ hx)) (List.pairwise_cons.1 hr).2 ?_]
    · simp
    · intro x hx y hy
      rcases List.mem_append.1 hx with h | h
      · exact hd x h y (List.mem_cons_of_mem _ hy)
      · have : x = e := by simpa using h
        subst this
        exact rise_ne ((List.pairwise_cons.1 hr).1 y hy)
theorem put_flat {F : List En} (hf : ∀ e ∈ F, FlatE e) (hr : F.Pairwise riseE) : putAll F [] = F := by
  rw [put_rise F [] hf hr (by simp)]
  rfl
theorem flat_neg {L : List En} (hf : ∀ e ∈ L, FlatE e) : negL L = 0 := by
  unfold negL
  rw [List.countP_eq_zero]
  intro e he
  rw [(hf e he).2.1]
  decide
theorem flat_leaf {L : List En} (hf : ∀ e ∈ L, FlatE e) {x : En} (hx : x ∈ L) : leafL x.key L = true := by
  unfold leafL
  cases hfi : findL x.key L with
  | none =>
    have h1 := List.find?_eq_none.1 hfi x hx
    simp [isK] at h1
  | some e =>
    have he : e ∈ L := List.mem_of_find?_eq_some hfi
    have h2 := hf e he
    simp only [h2.2.1, Bool.false_eq_true, if_false, Bool.not_eq_true', List.any_eq_false, beq_iff_eq]
    intro y hy
    rw [(hf y hy).1]
    have := h2.2.2.1
    omega
theorem flat_vic {v : En} {L : List En} (hf : ∀ e ∈ v :: L, FlatE e) : vicL false (v :: L) = some v := by
  unfold vicL
  rw [List.find?_cons_of_pos]
  show leafL v.key (v :: L) = true
  exact flat_leaf hf (List.mem_cons_self ..)
theorem trM_end0 {most : Int} (k : Nat) (s : Ts) (h : ¬ (s.L.length : Int) > max most 0) : trM most k s = s := by
  cases k with
  | zero => rfl
  | succ k => unfold trM; rw [if_neg h]
theorem trM_flat {de : Int} (hde : 1 ≤ de) : ∀ (k : Nat) (s : Ts), s.L.length ≤ k → (∀ e ∈ s.L, FlatE e) → s.L.Pairwise riseE → (s.L.length : Int) > de → ((trM de k s).L.length : Int) = de ∧ (trM de k s).wh 1 = false
  | 0, s, h, _, _, hg => by omega
  | k + 1, s, h, hf, hr, hg => by
    obtain ⟨L, wh, G⟩ := s
    cases L with
    | nil => simp at hg; omega
    | cons v L =>
      simp only at h hf hr hg
      have hv := flat_vic hf
      have hdr : dropL v.key (v :: L) = L := by
        unfold dropL
        have h1 : isK v.key v = true := by simp [isK]
        rw [List.filter_cons_of_neg (by simp [h1])]
        exact drop_no fun x hx => (rise_ne ((List.pairwise_cons.1 hr).1 x hx)).symm
      have hev : evT false ⟨v :: L, wh, G⟩ = ⟨L, evictWh v.key (v :: L) wh, G ++ [v.key]⟩ := by rw [evT_some hv]; simp only; rw [hdr]
      have hwh : evictWh v.key (v :: L) wh 1 = false := by
        unfold evictWh
        have h2 : findL v.key (v :: L) = some v := by unfold findL; rw [List.find?_cons_of_pos]; simp [isK]
        have h3 := hf v (List.mem_cons_self ..)
        simp [h2, h3.1, h3.2.1]
      unfold trM
      rw [if_pos (show ((v :: L).length : Int) > max de 0 by omega), hv, Option.isSome_some, if_pos rfl, hev]
      simp only [List.length_cons] at h hg
      by_cases hl : (L.length : Int) > de
      · exact trM_flat hde k _ (by show L.length ≤ k; omega) (fun e he => hf e (List.mem_cons_of_mem _ he)) (List.pairwise_cons.1 hr).2 hl
      · rw [trM_end0 k _ (show ¬ (L.length : Int) > max de 0 by omega)]
        exact ⟨by show (L.length : Int) = de; omega, hwh⟩
theorem trim_flat_room {F : List En} (hf : ∀ e ∈ F, FlatE e) (wh : Int → Bool) (de ne : Int) (h : (F.length : Int) ≤ de) : trimT de ne ⟨F, wh, []⟩ = ⟨F, wh, []⟩ :=
  trim_same wh de ne (by omega) (by rw [flat_neg hf]; omega)
theorem trim_flat_full {F : List En} (hf : ∀ e ∈ F, FlatE e) (hr : F.Pairwise riseE) (wh : Int → Bool) (de ne : Int) (hde : 1 ≤ de) (h : (F.length : Int) > de) : ((trimT de ne ⟨F, wh, []⟩).L.length : Int) = de ∧ (trimT de ne ⟨F, wh, []⟩).wh 1 = false := by
  have h1 : trN ne F.length ⟨F, wh, []⟩ = ⟨F, wh, []⟩ := trN_stop (s := ⟨F, wh, []⟩) (by show ¬ (negL F : Int) > max ne 0; rw [flat_neg hf]; omega)
  unfold trimT
  rw [h1]
  exact trM_flat hde F.length ⟨F, wh, []⟩ (Nat.le_refl _) hf hr h
theorem flat_dir {F : List En} (hf : ∀ e ∈ F, FlatE e) : F.filter (inDir 1) = F := by
  rw [List.filter_eq_self]
  intro e he
  have := hf e he
  simp [inDir, this.1, this.2.1]
end Go.Proofs.YtbjibkjenleloaaGreatDoor

end

section
namespace Go.Proofs.YtbjibkjenleloaaGreatDoor
set_option linter.unusedVariables false
set_option linter.unusedSimpArgs false
open Go.RowKit
attribute [local go_sem ↓] Go.wp_at_zero Go.wp_at_succ

set_option maxHeartbeats 1000000 in
theorem copy_entries (w : World) (F : List En) (la : Option Addr) (lc Bn : Nat) (h : w.ownsRow Bn 55 7 (.slice la F.length lc) F.length (ecs F)) (hl : F.length ≤ 1000) :
    Calls Tryz.prog 15 #[.slice la F.length lc] w fun e w' => ∃ a c, e = .returned (.slice a F.length c) ∧ w'.ownsRow w.heap.size 55 7 (.slice a F.length c) F.length (ecs F) ∧ Below w.heap.size w w' := by
  obtain ⟨i0, hi, z0, z1, z2⟩ := info_parts infoEn
  have HI := hid hi
  have HR := hid (Rd.own h)
  obtain ⟨m, hm⟩ : ∃ m, m = F.length := ⟨_, rfl⟩
  have HLN := hid (show (ecs F).length = m * 7 by rw [ecs_len, hm])
  have HON := hid (ecs_one F)
  rw [← hm] at HR hl ⊢
  clear hi h hm
  go_enter Tryz.func15, Tryz.ntmps15
  go_wp2_with (at_builtin; refine wpList_append_rd rfl _ _ 47 rfl w.heap.size 55 i0 _ 7 72 Tryz.underlying47 HI.out z0 z1 z2 rfl (by decide) (.slice none 0 0) 0 [] rfl (World.ownsRow_nil _ _ _ _) _ m (ecs F) rfl HR.out HLN.out HON.out (by unfold maxLen; omega) (by omega) (Nat.le_refl _) ?_; intro a' c' w1 hown hgrow hat)
  go_ret
  simp only [Nat.zero_add, List.nil_append] at hown
  exact ⟨_, _, rfl, hown, (Below.refl _ _).grown hgrow (Nat.le_refl _) (by simp [Value.ownBlock])⟩
set_option maxHeartbeats 2000000 in
theorem same_texts (w : World) (L : List ByteArray) (aa ab : Option Addr) (ca cb Ba Bb : Nat) (ha : w.ownsRow Ba 9 1 (.slice aa L.length ca) L.length (srow L)) (hb : w.ownsRow Bb 9 1 (.slice ab L.length cb) L.length (srow L)) :
    Calls Tryz.prog 17 #[.slice aa L.length ca, .slice ab L.length cb] w fun e w' => e = .returned (.bool true) ∧ Below w.heap.size w w' := by
  obtain ⟨m, hm⟩ : ∃ m, m = L.length := ⟨_, rfl⟩
  have HA := hid ha
  have HB := hid hb
  have HM := hid hm
  have hmx := (Rd.own ha).len
  unfold maxLen at hmx
  rw [← hm] at hmx ⊢
  clear ha hb hm
  go_enter Tryz.func17, Tryz.ntmps17
  go_wp2_with fail
  go_loopw [5] (fun v wr => ∃ i : Nat, i ≤ m ∧ v = .int .i64 i ∧ Hid (Below w.heap.size w wr)) (fun v _ => m - (intOf v).toNat)
  case atStart => exact ⟨0, Nat.zero_le _, rfl, hid (Below.refl _ _)⟩
  case round =>
    obtain ⟨i, hi, rfl, HW⟩ := hrel
    by_cases hlt : i < m
    · have hk0 : (0 : Int) ≤ (i : Int) := by omega
      have hk1 : (i : Int) < (m : Int) := by omega
      have hlL : i < L.length := by rw [← HM.out]; exact hlt
      obtain ⟨x, hx⟩ : ∃ x, L[i]? = some x := ⟨_, List.getElem?_eq_getElem hlL⟩
      have ha := own_below HA.out HW.out
      have hb := own_below HB.out HW.out
      obtain ⟨ga, hga, _⟩ := own_loc ha (by omega)
      obtain ⟨gb, hgb, _⟩ := own_loc hb (by omega)
      subst hga hgb
      have x1 := st_at (Rd.own ha) hx
      have x2 := st_at (Rd.own hb) hx
      clear ha hb hx
      go_wp2_with fail
      go_quiet (fail)
      go_wp2
      exact ⟨⟨i + 1, by omega, by go_num, hid (below_drewN HW.out _)⟩, by simp [intOf]; omega⟩
    · have hnl : ¬ ((i : Int) < (m : Int)) := by omega
      go_wp2
      go_ret
      exact ⟨rfl, HW.out⟩
end Go.Proofs.YtbjibkjenleloaaGreatDoor

end

section
namespace Go.Proofs.YtbjibkjenleloaaGreatDoor
set_option linter.unusedVariables false
set_option linter.unusedSimpArgs false
open Go.RowKit
attribute [local go_sem ↓] Go.wp_at_zero Go.wp_at_succ
attribute [local go_sem] run_store_complex run_store_float

set_option maxHeartbeats 400000 in
theorem clone_keys (v : Value) (L : List Ky) (w : World) (hv : Rd w v L.length (kyc L)) (hl : L.length * 24 ≤ 140737488355328) :
    Calls Tryz.prog 86 #[v] w fun e w' => ∃ a c, e = .returned (.slice a L.length c) ∧ w'.ownsRow w.heap.size 53 2 (.slice a L.length c) L.length (kyc L) ∧ Below w.heap.size w w' := by
  obtain ⟨i0, hi, hz0, hz1, hz2⟩ := info_parts infoKy
  rcases id hv with ⟨rfl, hn, _⟩ | ⟨ad, cap, rfl, h1, h2, h3⟩
  · have hnil := fun (w : World) => Lib.run_eql_slice_nil (P := Tryz.prog) w 48 53 none 0 0 0 0 Tryz.underlying48
    have hL := List.eq_nil_of_length_eq_zero hn
    subst hL
    clear hv hl hn
    go_enter Tryz.func86, Tryz.ntmps86
    go_wp2
    go_ret
    exact ⟨none, 0, rfl, World.ownsRow_nil _ _ _ _, Below.refl _ _⟩
  · obtain ⟨n, hn⟩ : ∃ n, n = L.length := ⟨_, rfl⟩
    rw [← hn] at hv hl h1 ⊢
    have hnil := fun (w : World) => Lib.run_eql_slice_nil (P := Tryz.prog) w 48 53 (some ad) n cap 0 0 Tryz.underlying48
    have HV := hid hv
    have HN := hid (show (kyc L).length = n * 2 by rw [kyc_len, hn])
    have HB := hid (kyc_one L)
    have HI := hid hi
    have hem : (w.alloc (.cells #[] 53)).ownsRow w.heap.size 53 2 (.slice (some ⟨w.heap.size, 0, none⟩) 0 0) 0 [] := ownsRow_of_whole (heap_new w _) rfl (Nat.le_refl _) (by unfold maxLen; omega)
    have HE := hid hem
    clear hv hi h3 hn hem
    go_enter Tryz.func86, Tryz.ntmps86
    go_wp2_with (at_builtin; go_loud (refine wpList_append_rd rfl _ _ 48 rfl w.heap.size 53 i0 _ 2 24 Tryz.underlying48 HI.out hz0 hz1 hz2 rfl (by decide) (.slice (some ⟨w.heap.size, 0, none⟩) 0 0) 0 [] rfl HE.out _ n (kyc L) rfl (HV.out.alloc _) HN.out HB.out (by unfold maxLen; omega) (by omega) (by simp) ?_; intro a' c' w1 hown hgrow hat))
    go_ret
    simp only [Nat.zero_add, List.nil_append] at hown
    exact ⟨_, _, rfl, hown, (bl1 w _).grown hgrow (by simp) (by simp [Value.ownBlock])⟩


set_option maxRecDepth 100000 in
set_option maxHeartbeats 4000000 in
theorem tide_apply (w : World) (t : Nat) (s : Td) (m : Ms) (L : List Ky) (h : TidAt w t s) (ha : s.asked = 0) (hk : m.kind = 3) (hL : m.kl = L.length) (hE : Rd w (.slice m.ka m.kl m.kc) L.length (kyc L)) (hl : L.length * 24 ≤ 140737488355328) (hne : m.ka.map (·.block) ≠ some t) :
    Calls Tryz.prog 62 #[.pointer (some ⟨t, 0, none⟩), m.v] w fun e w' => ∃ a c, e = .returned (actV false false false false a L.length c 0 none 0 0) ∧ w'.ownsRow w.heap.size 53 2 (.slice a L.length c) L.length (kyc L) ∧ TidAt w' t { s with me := m.me, mn := m.mn, ver := max s.ver m.ver } ∧ Chg (fun j => j = t) w w' := by
  have ht := h.lt
  obtain ⟨v1, hv1⟩ : ∃ v1, v1 = max s.ver m.ver := ⟨_, rfl⟩
  have hmx : max s.ver m.ver = v1 := hv1.symm
  have HV := hid hv1
  have HM := hid (heap_old (heap_new w (.cells m.cs 50)) (.cells #[.bool false, .bool false, .bool false, .bool false, .slice none 0 0, .int .i64 0, .slice none 0 0] 94))
  have hR := heap_new (w.alloc (.cells m.cs 50)) (.cells #[.bool false, .bool false, .bool false, .bool false, .slice none 0 0, .int .i64 0, .slice none 0 0] 94)
  rw [World.size_alloc] at hR
  have HR := hid hR
  have bb := bl2 w (.cells m.cs 50) (.cells #[.bool false, .bool false, .bool false, .bool false, .slice none 0 0, .int .i64 0, .slice none 0 0] 94)
  have HW := hid bb
  have HT := hid (h.below bb)
  obtain ⟨w0, hw0⟩ : ∃ w0, w0 = (w.alloc (.cells m.cs 50)).alloc (.cells #[.bool false, .bool false, .bool false, .bool false, .slice none 0 0, .int .i64 0, .slice none 0 0] 94) := ⟨_, rfl⟩
  have hwz : w.heap.size + 2 = w0.heap.size := by rw [hw0]; simp
  have HW0 := hid hw0
  rw [← hw0] at HM HR HW HT
  have b0 := blk8 HT.out
  have HL := hid (And.intro ha (And.intro hL (And.intro hE (And.intro hl hne))))
  rw [ha] at b0
  have HK := hid hk
  unfold Ms.v
  unfold Ms.cs at HM HW0 ⊢
  rw [hk] at HM HW0 ⊢
  have bm := (blk16 HM.out).1
  clear h hR hv1 hL hE hl hne ha hk bb hw0
  go_enter Tryz.func62, Tryz.ntmps62
  refine wp_seq_k fun K0 hK0 => ?_
  have HK0 := hid hK0
  clear hK0
  go_wp2
  refine HK0.out _ _ ?_
  rw [← HW0.out]
  clear HK0 HW0
  refine wp_seq_k fun K1 hK1 => ?_
  have HK1 := hid hK1
  clear hK1
  go_region
  all_goals
    simp only [Exit.then]
    refine HK1.out _ _ ?_
    refine gen_w (P := fun w' => Code.wp _ _ _ _ w') (S := fun w1 => TidAt w1 t { s with me := m.me, mn := m.mn, ver := v1 } ∧ Chg (fun j => j = t) w0 w1) _ ⟨?_, ?_⟩ ?_
    · refine heap_drew ?_
      have h9 := heap_set (heap_set HT.out 3 (.complex .f64 (fl m.me) (fl m.mn))) 4 (.int .i64 v1)
      simp only [List.setIfInBounds_toArray, List.set_cons_zero, List.set_cons_succ] at h9
      exact h9
    · refine Chg.drew ?_
      iterate 2 refine Chg.set1 ?_ _ _ rfl
      exact Chg.refl _ _
    rintro w1 ⟨ht1, hc1⟩
    have HT1 := hid ht1
    have HC1 := hid hc1
    have hm1 := heap_chg hc1 HM.out (by omega)
    have hr1 := heap_chg hc1 HR.out (by omega)
    have HR1 := hid hr1
    have b1 := blk8 ht1
    have ha0 := HL.out.1
    simp only [ha0] at b1
    have bm1 := (blk16 hm1).1
    have HXW := hid (show Chg (fun j => j = t) w w1 from chg_new (Chg.below (HW.out.mono (Nat.le_refl _)) |>.mono (fun _ _ h => h.elim)) hc1 (fun j hj => .inl hj))
    clear b0 bm ht1 hc1 hm1 hr1 HK1 ha0
    go_wp2_with fail
    have HRD := hid (show Rd w1 (.slice m.ka m.kl m.kc) L.length (kyc L) from HL.out.2.2.1.chg fun k hk hlt => HXW.out.block k hlt (fun e2 => HL.out.2.2.2.2 (by rw [← ownBlock_slice (n := m.kl) (c := m.kc), hk, e2])))
    refine (clone_keys _ L _ HRD.out HL.out.2.2.2.1).mono ?_; rintro e2 w2 ⟨a2, c2, rfl, ho2, hb2⟩
    have HO2 := hid ho2
    have HT2 := hid (HT1.out.below hb2)
    have hr2 := heap_below hb2 HR1.out (blk_lt HR1.out)
    have HR2 := hid hr2
    have HX2 := hid (chg_new HXW.out (Chg.below hb2) (fun j hj => hj.elim))
    have hz1 := HXW.out.size
    have br := blk7 hr2
    clear ho2 hb2 hr2 b1 bm1
    go_wp2
    (try simp only [Exit.inBlock, Exit.then])
    refine gen_w (P := fun w' => bodyPost _ _ _ _ _ w') (S := fun w3 => Chg (fun j => j = w.heap.size + 1) w2 w3 ∧ w3.heap[w.heap.size + 1]? = some (.cells #[.bool false, .bool false, .bool false, .bool false, .slice a2 L.length c2, .int .i64 0, .slice none 0 0] 94 (0, 0))) _ ⟨?_, ?_⟩ ?_
    · iterate 7 refine Chg.set1 ?_ _ _ rfl
      exact Chg.refl _ _
    · have h9 := heap_set (heap_set (heap_set (heap_set (heap_set (heap_set (heap_set HR2.out 0 (.bool false)) 1 (.bool false)) 2 (.bool false)) 3 (.bool false)) 4 (.slice a2 L.length c2)) 5 (.int .i64 0)) 6 (.slice none 0 0)
      simp only [List.setIfInBounds_toArray, List.set_cons_zero, List.set_cons_succ] at h9
      exact h9
    rintro w3 ⟨hc3, hr3⟩
    have b3 := blk7 hr3
    have hown := ownsRow_mono (ownsRow_chg HO2.out fun j hj hl => hc3.block j hl fun e1 => by subst e1; exact own_ne HO2.out HR2.out (by decide) hj) hz1
    have HFI := hid (And.intro hown (And.intro (HT2.out.chg hc3 (by omega)) (chg_new HX2.out hc3 (by intro j hj; right; omega))))
    clear br hc3 hr3 hown
    rw [hmx]
    refine bodyPost_ret (v := .agg #[.bool false, .bool false, .bool false, .bool false, .slice a2 L.length c2, .int .i64 0, .slice none 0 0]) (by simp [results, Tryz.results62, go_sem, b3]) rfl ⟨a2, c2, rfl, HFI.out.1, HFI.out.2.1, HFI.out.2.2⟩
end Go.Proofs.YtbjibkjenleloaaGreatDoor

end
