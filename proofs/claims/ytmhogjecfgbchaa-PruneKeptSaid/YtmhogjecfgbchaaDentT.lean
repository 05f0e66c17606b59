import Derived.Test.YtmhogjecfgbchaaDentS
import Derived.OwnWalk
namespace Go.Proofs.Ytmhogjecfgbchaa
set_option linter.unusedVariables false
set_option linter.unusedSimpArgs false
open Go.RowKit
attribute [local go_sem ↓] Go.wp_at_zero Go.wp_at_succ

/-- a call, in plain words -/
def stepE (x : Dop) (L : List En) : List En :=
  if x.kind % 6 = 0 then putL x.e L else if x.kind % 6 = 1 then useL x.e.key L else if x.kind % 6 = 2 then cutE x.ks L else if x.kind % 6 = 3 then [] else if x.kind % 6 = 4 then dropL x.e.key L else L
/-- a script, in plain words -/
def playE (S : List Dop) : List En := S.foldl (fun L x => stepE x L) []
theorem playE_take {S : List Dop} {k : Nat} {x : Dop} (h : S[k]? = some x) : playE (S.take (k + 1)) = stepE x (playE (S.take k)) := by
  unfold playE; rw [List.take_add_one, h]; simp

/-- two ways to tell the whole directories -/
def WhR (wh : Int → Bool) (ws : List Int) : Prop := ∀ d, wh d = ws.contains d
theorem partL_has (d d' : Int) (ws : List Int) : (partL d ws).contains d' = (ws.contains d' && !(d == d')) := by
  rw [Bool.eq_iff_iff, Bool.and_eq_true, List.contains_iff_mem, List.contains_iff_mem, partL, List.mem_filter]
  simp only [bne_iff_ne, ne_eq, Bool.not_eq_true', beq_eq_false_iff_ne]
  exact and_congr Iff.rfl ⟨fun h e => h e.symm, fun h e => h e.symm⟩
theorem WhR.part {wh : Int → Bool} {ws : List Int} (h : WhR wh ws) (d : Int) : WhR (fun d' => wh d' && !(d == d')) (partL d ws) := fun d' => by show (wh d' && !(d == d')) = _; rw [partL_has, h d']
theorem WhR.set {wh : Int → Bool} {ws : List Int} (h : WhR wh ws) (d : Int) : WhR (fun d' => wh d' || d == d') (setL d ws) := fun d' => by
  show (wh d' || d == d') = _
  rw [h d', setL]
  by_cases hc : ws.contains d = true
  · rw [if_pos hc]
    by_cases hd : d = d'
    · subst hd; rw [hc]; rfl
    · simp [hd]
  · rw [if_neg hc, Bool.eq_iff_iff, Bool.or_eq_true, List.contains_iff_mem, List.contains_iff_mem, List.mem_append, beq_iff_eq]
    simp only [List.mem_singleton]
    exact or_congr Iff.rfl ⟨fun h => h.symm, fun h => h.symm⟩
theorem WhR.cut (ks : List Ky) : ∀ {wh : Int → Bool} {ws : List Int}, WhR wh ws → WhR (cutWh ks wh) (cutWs ks ws) := by
  induction ks with
  | nil => intro wh ws h d; simp [cutWh, cutWs, h d]
  | cons k ks ih =>
    intro wh ws h d
    have := ih (h.part k.dir) d
    rw [show cutWs (k :: ks) ws = cutWs ks (partL k.dir ws) from rfl, ← this]
    simp [cutWh, Bool.and_assoc]
theorem WhR.evict {wh : Int → Bool} {ws : List Int} (h : WhR wh ws) (k : Ky) (L : List En) : WhR (evictWh k L wh) (evictWs k L ws) := fun d => by
  unfold evictWh evictWs
  cases hf : (findL k L).any fun e => !e.neg
  · simp [h d]
  · simp only [if_true]
    have := h.part k.dir d
    rw [← this]; simp
theorem setL_le (d : Int) (ws : List Int) : (setL d ws).length ≤ ws.length + 1 := by unfold setL; split <;> simp
theorem evictWs_le (k : Ky) (L : List En) (ws : List Int) : (evictWs k L ws).length ≤ ws.length := by
  unfold evictWs; split
  · exact partL_le _ _
  · exact Nat.le_refl _

theorem CAt.drew {w : World} {B p n : Nat} {L : List En} {wh : Int → Bool} (h : CAt w B p n L wh) : CAt w.drew B p n L wh := h.below (below_drew0 w)
theorem RAt.drew {w : World} {p : Nat} {L : List En} {ws : List Int} (h : RAt w p L ws) : RAt w.drew p L ws := h.below (below_drew0 w)
theorem And.intro7 {a b c d e f g : Prop} (h1 : a) (h2 : b) (h3 : c) (h4 : d) (h5 : e) (h6 : f) (h7 : g) : a ∧ b ∧ c ∧ d ∧ e ∧ f ∧ g := ⟨h1, h2, h3, h4, h5, h6, h7⟩
theorem below2 {w W w1 w2 : World} {B : Nat} (hb : Below w.heap.size w W) {F : Nat → Prop} (h1 : Chg (CF w.heap.size B) W w1) (h2 : Chg F w1 w2) (hF : ∀ i, i < w.heap.size → ¬ F i) : Below w.heap.size w w2 :=
  (hb.trans (h1.toBelow hb.size CF.low)).trans (h2.toBelow (Nat.le_trans hb.size h1.size) hF)

theorem rd_lt {w : World} {a : Option Addr} {n c m q : Nat} {ks : List Ky} (h : Rd w (.slice a n c) m (kyc ks)) (hp : 0 < ks.length) (hq : (Value.slice a n c).ownBlock = some q) : q < w.heap.size := by
  obtain ⟨b, off, cap, hv, _, _, hb, _⟩ := h.form (by rw [kyc_len]; omega)
  simp only [Value.slice.injEq] at hv
  obtain ⟨rfl, _, _⟩ := hv
  simp only [Value.ownBlock, Option.some.injEq] at hq
  omega

set_option maxRecDepth 100000 in
set_option maxHeartbeats 4000000 in
theorem d_of (sa : Option Addr) (sc : Nat) (S : List Dop) (w : World) (hS : ScrD w (.slice sa S.length sc) S) (hz : S.length * 112 ≤ 140737488351232) (hkz : ∀ x ∈ S, x.ks.length * 24 ≤ 140737488351232) :
    Calls Try.prog 31 #[.slice sa S.length sc] w fun e w' => ∃ (pr : Nat) (wh : Int → Bool) (ws : List Int), e = .returned (.tuple #[.pointer (some ⟨w.heap.size + 2, 0, none⟩), .pointer (some ⟨pr, 0, none⟩), .bool true]) ∧ w.heap.size + 2 < pr ∧ CAt w' w.heap.size (w.heap.size + 2) S.length (playE S) wh ∧ RAt w' pr (playE S) ws ∧ WhR wh ws ∧ ws.length ≤ S.length ∧ Below w.heap.size w w' := by
  have HS := hid hS
  have HZ := hid hkz
  have hn : S.length ≤ 9223372036854775807 := by omega
  clear hS hkz
  go_enter Try.func31, Try.ntmps31
  go_wp2_with (go_at_call 19; refine (c_new _).mono ?_; rintro e wn ⟨rfl, hc1, hb1⟩)
  have hlt0 := hc1.lt
  have hprl : w.heap.size + 2 < wn.heap.size := by omega
  have HR0 : RAt (wn.alloc (.cells #[.slice none 0 0, .slice none 0 0] 82)) wn.heap.size [] [] := ⟨none, 0, none, 0, heap_new wn _, World.ownsRow_nil _ _ _ _, World.ownsRow_nil _ _ _ _⟩
  have HR0' := hid HR0
  have HC0 := hid (hc1.below (bl1 wn (.cells #[.slice none 0 0, .slice none 0 0] 82)))
  have HB0 := hid (hb1.alloc hb1.size (.cells #[.slice none 0 0, .slice none 0 0] 82))
  clear HR0 hc1 hb1
  go_loopw [7] (fun v wr => ∃ (k : Nat) (wh : Int → Bool) (ws : List Int), k ≤ S.length ∧ v = .int .i64 k ∧ Hid (CAt wr w.heap.size (w.heap.size + 2) k (playE (S.take k)) wh) ∧ Hid (RAt wr wn.heap.size (playE (S.take k)) ws) ∧ Hid (WhR wh ws) ∧ ws.length ≤ k ∧ Hid (Below w.heap.size w wr)) (fun v _ => S.length - (intOf v).toNat)
  case atStart => exact ⟨0, fun _ => false, [], Nat.zero_le _, rfl, HC0, HR0', hid (fun d => rfl), Nat.zero_le _, HB0⟩
  case round =>
    obtain ⟨k, wh, ws, hk, rfl, HC, HR, HW, hwl, HB⟩ := hrel
    by_cases hlt : k < S.length
    · obtain ⟨x, hx⟩ : ∃ x, S[k]? = some x := ⟨_, List.getElem?_eq_getElem hlt⟩
      obtain ⟨b, off, rfl⟩ := HS.out.loc (by omega)
      have CE := scrD_at HS.out HB.out hx
      have hkl := HZ.out x (List.mem_of_getElem? hx)
      have HKR := hid (HS.out.each x (List.mem_of_getElem? hx))
      have HPT := hid (playE_take hx)
      have hk0 : (0 : Int) ≤ (k : Int) := by omega
      have hk1 : (k : Int) < (S.length : Int) := by omega
      have h4 : x.kind % 6 = 0 ∨ x.kind % 6 = 1 ∨ x.kind % 6 = 2 ∨ x.kind % 6 = 3 ∨ x.kind % 6 = 4 ∨ x.kind % 6 = 5 := by omega
      have HQ := hid h4
      have HNK := hid HC.out.keys
      have hLl := HC.out.len
      obtain ⟨L, hL⟩ : ∃ L, L = playE (S.take k) := ⟨_, rfl⟩
      rw [← hL] at HC HR HPT HNK hLl
      have hprr := HR.out.lt
      clear hx h4 hL
      go_upto_block 2 with (first
        | (go_at_call 20; refine (place_pos _ 6 _ (by omega) (by omega)).mono ?_; rintro e wx ⟨rfl, rfl⟩))
      go_cut [9] (fun v9 wx => ∃ (wh : Int → Bool) (ws : List Int), v9 = .bool true ∧ Hid (CAt wx w.heap.size (w.heap.size + 2) (k + 1) (stepE x L) wh) ∧ Hid (RAt wx wn.heap.size (stepE x L) ws) ∧ Hid (WhR wh ws) ∧ ws.length ≤ k + 1 ∧ Hid (Below w.heap.size w wx))
      case first =>
        have hbox := heap_new wr (.cells #[.int .i64 x.kind, .int .i64 x.dir, .int .i64 x.e.key.dir, .string x.e.key.name, .bool x.e.neg, .int .i64 x.e.node.id, .int .i64 x.e.node.kind, .int .i64 x.e.node.mode, .string x.e.node.target, .slice x.a x.ks.length x.c] 33)
        have BX := blk10 hbox
        have KX := hid hbox
        have KR := And.intro7 BX.2.2.1 BX.2.2.2.1 BX.2.2.2.2.1 BX.2.2.2.2.2.1 BX.2.2.2.2.2.2.1 BX.2.2.2.2.2.2.2.1 BX.2.2.2.2.2.2.2.2.1
        have KRd : (wr.alloc (.cells #[.int .i64 x.kind, .int .i64 x.dir, .int .i64 x.e.key.dir, .string x.e.key.name, .bool x.e.neg, .int .i64 x.e.node.id, .int .i64 x.e.node.kind, .int .i64 x.e.node.mode, .string x.e.node.target, .slice x.a x.ks.length x.c] 33)).drew.cell? ⟨wr.heap.size, 2, none⟩ = some (.int .i64 x.e.key.dir) ∧ (wr.alloc (.cells #[.int .i64 x.kind, .int .i64 x.dir, .int .i64 x.e.key.dir, .string x.e.key.name, .bool x.e.neg, .int .i64 x.e.node.id, .int .i64 x.e.node.kind, .int .i64 x.e.node.mode, .string x.e.node.target, .slice x.a x.ks.length x.c] 33)).drew.cell? ⟨wr.heap.size, 3, none⟩ = some (.string x.e.key.name) ∧ (wr.alloc (.cells #[.int .i64 x.kind, .int .i64 x.dir, .int .i64 x.e.key.dir, .string x.e.key.name, .bool x.e.neg, .int .i64 x.e.node.id, .int .i64 x.e.node.kind, .int .i64 x.e.node.mode, .string x.e.node.target, .slice x.a x.ks.length x.c] 33)).drew.cell? ⟨wr.heap.size, 4, none⟩ = some (.bool x.e.neg) ∧ (wr.alloc (.cells #[.int .i64 x.kind, .int .i64 x.dir, .int .i64 x.e.key.dir, .string x.e.key.name, .bool x.e.neg, .int .i64 x.e.node.id, .int .i64 x.e.node.kind, .int .i64 x.e.node.mode, .string x.e.node.target, .slice x.a x.ks.length x.c] 33)).drew.cell? ⟨wr.heap.size, 5, none⟩ = some (.int .i64 x.e.node.id) ∧ (wr.alloc (.cells #[.int .i64 x.kind, .int .i64 x.dir, .int .i64 x.e.key.dir, .string x.e.key.name, .bool x.e.neg, .int .i64 x.e.node.id, .int .i64 x.e.node.kind, .int .i64 x.e.node.mode, .string x.e.node.target, .slice x.a x.ks.length x.c] 33)).drew.cell? ⟨wr.heap.size, 6, none⟩ = some (.int .i64 x.e.node.kind) ∧ (wr.alloc (.cells #[.int .i64 x.kind, .int .i64 x.dir, .int .i64 x.e.key.dir, .string x.e.key.name, .bool x.e.neg, .int .i64 x.e.node.id, .int .i64 x.e.node.kind, .int .i64 x.e.node.mode, .string x.e.node.target, .slice x.a x.ks.length x.c] 33)).drew.cell? ⟨wr.heap.size, 7, none⟩ = some (.int .i64 x.e.node.mode) ∧ (wr.alloc (.cells #[.int .i64 x.kind, .int .i64 x.dir, .int .i64 x.e.key.dir, .string x.e.key.name, .bool x.e.neg, .int .i64 x.e.node.id, .int .i64 x.e.node.kind, .int .i64 x.e.node.mode, .string x.e.node.target, .slice x.a x.ks.length x.c] 33)).drew.cell? ⟨wr.heap.size, 8, none⟩ = some (.string x.e.node.target) := KR
        have HC1 := hid (HC.out.below (bl1 wr (.cells #[.int .i64 x.kind, .int .i64 x.dir, .int .i64 x.e.key.dir, .string x.e.key.name, .bool x.e.neg, .int .i64 x.e.node.id, .int .i64 x.e.node.kind, .int .i64 x.e.node.mode, .string x.e.node.target, .slice x.a x.ks.length x.c] 33)))
        have HR1 := hid (HR.out.below (bl1 wr (.cells #[.int .i64 x.kind, .int .i64 x.dir, .int .i64 x.e.key.dir, .string x.e.key.name, .bool x.e.neg, .int .i64 x.e.node.id, .int .i64 x.e.node.kind, .int .i64 x.e.node.mode, .string x.e.node.target, .slice x.a x.ks.length x.c] 33)))
        have HB1 := hid (HB.out.trans ((bl1 wr (.cells #[.int .i64 x.kind, .int .i64 x.dir, .int .i64 x.e.key.dir, .string x.e.key.name, .bool x.e.neg, .int .i64 x.e.node.id, .int .i64 x.e.node.kind, .int .i64 x.e.node.mode, .string x.e.node.target, .slice x.a x.ks.length x.c] 33)).mono HB.out.size))
        have hplt := HC.out.lt
        have hsz := HB.out.size
        clear hbox CE
        rcases HQ.out with hq | hq | hq | hq | hq | hq
        ·
            have ht0 : (x.kind % 6 == 0) = true := by simp [hq]
            have hst0 : stepE x L = putL x.e L := by simp [stepE, hq]
            have HST := hid hst0
            clear hq hst0
            obtain ⟨r0, hr0⟩ : ∃ r0, r0 = (if x.e.key.name = ByteArray.empty then (1 : Int) else 0) := ⟨_, rfl⟩
            have HRR := hid hr0
            clear hr0
            go_wp2_with fail
            go_region_held3 (fun w' => w'.cell? ⟨wr.heap.size, 2, none⟩ = some (.int .i64 x.e.key.dir) ∧ w'.cell? ⟨wr.heap.size, 3, none⟩ = some (.string x.e.key.name) ∧ w'.cell? ⟨wr.heap.size, 4, none⟩ = some (.bool x.e.neg) ∧ w'.cell? ⟨wr.heap.size, 5, none⟩ = some (.int .i64 x.e.node.id) ∧ w'.cell? ⟨wr.heap.size, 6, none⟩ = some (.int .i64 x.e.node.kind) ∧ w'.cell? ⟨wr.heap.size, 7, none⟩ = some (.int .i64 x.e.node.mode) ∧ w'.cell? ⟨wr.heap.size, 8, none⟩ = some (.string x.e.node.target))
              (first | with_reducible exact KR | with_reducible exact KRd | with_reducible exact KS | with_reducible exact KT)
              (first | (go_at_call 21; refine (c_put _ w.heap.size (w.heap.size + 2) k L wh x.e HC1.out.drew (by omega)).mono ?_; rintro r w1 ⟨rfl, hc2, hg2⟩; rw [← HRR.out]; (have kx1 := box_keep hg2 hplt KX.out); (have q1 := blk10 kx1); (have KS := And.intro7 q1.2.2.1 q1.2.2.2.1 q1.2.2.2.2.1 q1.2.2.2.2.2.1 q1.2.2.2.2.2.2.1 q1.2.2.2.2.2.2.2.1 q1.2.2.2.2.2.2.2.2.1); (have HC2 := hid hc2); (have HG2 := hid hg2); (have KX1 := hid kx1); clear q1 kx1 hc2 hg2) | (go_at_call 51; refine (r_put _ wn.heap.size L ws x.e ((HR1.out.drew).chg HG2.out (fun k hk _ h => by have := h.2; omega)) HNK.out (by omega)).mono ?_; rintro r w2 ⟨rfl, hr3, hg3⟩; rw [← HRR.out]; (have kx2 := heap_chg hg3 KX1.out (RF.not (by omega) KX1.out (by decide) (by decide))); (have q2 := blk10 kx2); (have KT := And.intro7 q2.2.2.1 q2.2.2.2.1 q2.2.2.2.2.1 q2.2.2.2.2.2.1 q2.2.2.2.2.2.2.1 q2.2.2.2.2.2.2.2.1 q2.2.2.2.2.2.2.2.2.1); (have HR3 := hid hr3); (have HC3 := hid (HC2.out.chg hg3 (fun k hk h => by have := RF.ge h; have := hk.2; omega))); (have HG3 := hid hg3); clear q2 kx2 hr3 hg3))
            all_goals
              go_wp2_with fail
              go_meet
              case rel => exact ⟨_, _, rfl, hid (by rw [HST.out]; exact HC3.out), hid (by rw [HST.out]; exact HR3.out), hid HW.out, by omega, hid (below2 HB1.out.drew HG2.out HG3.out (fun i hi h => by have := RF.ge h; omega))⟩
        ·
            have ht0 : (x.kind % 6 == 0) = false := by simp [hq]
            have ht1 : (x.kind % 6 == 1) = true := by simp [hq]
            have hst1 : stepE x L = useL x.e.key L := by simp [stepE, hq]
            have HST := hid hst1
            clear hq hst1
            go_wp2_with fail
            go_region_held3 (fun w' => w'.cell? ⟨wr.heap.size, 2, none⟩ = some (.int .i64 x.e.key.dir) ∧ w'.cell? ⟨wr.heap.size, 3, none⟩ = some (.string x.e.key.name) ∧ w'.cell? ⟨wr.heap.size, 4, none⟩ = some (.bool x.e.neg) ∧ w'.cell? ⟨wr.heap.size, 5, none⟩ = some (.int .i64 x.e.node.id) ∧ w'.cell? ⟨wr.heap.size, 6, none⟩ = some (.int .i64 x.e.node.kind) ∧ w'.cell? ⟨wr.heap.size, 7, none⟩ = some (.int .i64 x.e.node.mode) ∧ w'.cell? ⟨wr.heap.size, 8, none⟩ = some (.string x.e.node.target))
              (first | with_reducible exact KR | with_reducible exact KRd | with_reducible exact KS | with_reducible exact KT)
              (first | (go_at_call 22; refine (c_use _ w.heap.size (w.heap.size + 2) k L wh x.e.key HC1.out.drew (by omega)).mono ?_; rintro r w1 ⟨rfl, hc2, hg2⟩; (have kx1 := box_keep hg2 hplt KX.out); (have q1 := blk10 kx1); (have KS := And.intro7 q1.2.2.1 q1.2.2.2.1 q1.2.2.2.2.1 q1.2.2.2.2.2.1 q1.2.2.2.2.2.2.1 q1.2.2.2.2.2.2.2.1 q1.2.2.2.2.2.2.2.2.1); (have HC2 := hid hc2); (have HG2 := hid hg2); (have KX1 := hid kx1); clear q1 kx1 hc2 hg2) | (go_at_call 52; refine (r_use _ wn.heap.size L ws x.e.key ((HR1.out.drew).chg HG2.out (fun k hk _ h => by have := h.2; omega)) HNK.out (by omega)).mono ?_; rintro r w2 ⟨rfl, hr3, hg3⟩; (have kx2 := heap_chg hg3 KX1.out (RF.not (by omega) KX1.out (by decide) (by decide))); (have q2 := blk10 kx2); (have KT := And.intro7 q2.2.2.1 q2.2.2.2.1 q2.2.2.2.2.1 q2.2.2.2.2.2.1 q2.2.2.2.2.2.2.1 q2.2.2.2.2.2.2.2.1 q2.2.2.2.2.2.2.2.2.1); (have HR3 := hid hr3); (have HC3 := hid (HC2.out.chg hg3 (fun k hk h => by have := RF.ge h; have := hk.2; omega))); (have HG3 := hid hg3); clear q2 kx2 hr3 hg3))
            all_goals
              go_wp2_with fail
              go_meet
              case rel => exact ⟨_, _, rfl, hid (by rw [HST.out]; exact HC3.out), hid (by rw [HST.out]; exact HR3.out), hid HW.out, by omega, hid (below2 HB1.out.drew HG2.out HG3.out (fun i hi h => by have := RF.ge h; omega))⟩
        ·
            have ht0 : (x.kind % 6 == 0) = false := by simp [hq]
            have ht1 : (x.kind % 6 == 1) = false := by simp [hq]
            have ht2 : (x.kind % 6 == 2) = true := by simp [hq]
            have hst2 : stepE x L = cutE x.ks L := by simp [stepE, hq]
            have HST := hid hst2
            clear hq hst2
            go_wp2_with fail
            refine (copyKeys_any _ x.ks _ (HKR.out.below ((Below.refl _ _).trans HB1.out)) hkl).mono ?_
            rintro r w1 ⟨a2, c2, rfl, hown2, hb2⟩
            have HC2 := hid (HC1.out.below hb2)
            have HR2 := hid (HR1.out.below hb2)
            have kx2 := heap_below hb2 KX.out (blk_lt KX.out)
            have KX2 := hid kx2
            have HOW := hid hown2
            have HB2 := hid (HB1.out.trans (hb2.mono HB1.out.size))
            clear kx2 hown2 BX
            go_wp2_with fail
            refine (c_cut _ w.heap.size (w.heap.size + 2) k L wh x.ks a2 c2 _ HC2.out HOW.out (by simp; omega) (by omega)).mono ?_
            rintro r w2 ⟨rfl, hc3, hg3⟩
            have kx3 := box_keep hg3 hplt KX2.out
            have BX3 := blk10 kx3
            have HC3 := hid hc3
            have HB3 := hid (HB2.out.trans (hg3.toBelow HB2.out.size CF.low))
            have HR3 := hid (HR2.out.chg hg3 (fun k hk _ h => by have := h.2; omega))
            clear kx3 hc3 hg3
            go_wp2_with fail
            have hkr := HKR.out
            unfold Dop.kv at hkr
            refine (r_cut _ wn.heap.size L ws x.a x.c x.ks HR3.out (hkr.below ((Below.refl _ _).trans HB3.out)) (fun q h0 hq e => by have := rd_lt hkr h0 hq; omega) (by omega) (by omega) (by omega)).mono ?_
            rintro r w4 ⟨rfl, hr4, hg4⟩
            have HR4 := hid hr4
            have HC4 := hid (HC3.out.chg hg4 (fun k hk h => by have := hk.2; omega))
            have HB4 := hid (HB3.out.trans (hg4.toBelow HB3.out.size (fun i hi h => by omega)))
            clear hr4 hg4 hkr
            go_wp2_with fail
            go_meet
            case rel => exact ⟨_, _, rfl, hid (by rw [HST.out]; exact HC4.out.le (Nat.le_succ _)), hid (by rw [HST.out]; exact HR4.out), hid (HW.out.cut x.ks), Nat.le_trans (cutWs_le _ _) (by omega), HB4⟩
        ·
            have ht0 : (x.kind % 6 == 0) = false := by simp [hq]
            have ht1 : (x.kind % 6 == 1) = false := by simp [hq]
            have ht2 : (x.kind % 6 == 2) = false := by simp [hq]
            have ht3 : (x.kind % 6 == 3) = true := by simp [hq]
            have hst3 : stepE x L = [] := by simp [stepE, hq]
            have HST := hid hst3
            clear hq hst3
            go_wp2_with fail
            refine (c_clear _ w.heap.size (w.heap.size + 2) k L wh HC1.out).mono ?_
            rintro r w1 ⟨rfl, hc2, hg2⟩
            have HC2 := hid hc2
            have HG2 := hid hg2
            clear hc2 hg2
            go_wp2_with fail
            refine (r_clear _ wn.heap.size L ws (HR1.out.chg HG2.out (fun k hk _ h => by have := h.2; omega))).mono ?_
            rintro r w2 ⟨rfl, hr3, hg3⟩
            have HR3 := hid hr3
            have HG3 := hid hg3
            have HC3 := hid (HC2.out.chg hg3 (fun k hk h => by have := hk.2; omega))
            clear hr3 hg3
            go_wp2_with fail
            go_meet
            case rel => exact ⟨fun _ => false, [], rfl, hid (by rw [HST.out]; exact HC3.out.le (Nat.le_succ _)), hid (by rw [HST.out]; exact HR3.out), hid (fun d => rfl), Nat.zero_le _, hid (below2 HB1.out HG2.out HG3.out (fun i hi h => by omega))⟩
        ·
            have ht0 : (x.kind % 6 == 0) = false := by simp [hq]
            have ht1 : (x.kind % 6 == 1) = false := by simp [hq]
            have ht2 : (x.kind % 6 == 2) = false := by simp [hq]
            have ht3 : (x.kind % 6 == 3) = false := by simp [hq]
            have ht4 : (x.kind % 6 == 4) = true := by simp [hq]
            have hst4 : stepE x L = dropL x.e.key L := by simp [stepE, hq]
            have HST := hid hst4
            clear hq hst4
            go_wp2_with fail
            go_region_held3 (fun w' => w'.cell? ⟨wr.heap.size, 2, none⟩ = some (.int .i64 x.e.key.dir) ∧ w'.cell? ⟨wr.heap.size, 3, none⟩ = some (.string x.e.key.name) ∧ w'.cell? ⟨wr.heap.size, 4, none⟩ = some (.bool x.e.neg) ∧ w'.cell? ⟨wr.heap.size, 5, none⟩ = some (.int .i64 x.e.node.id) ∧ w'.cell? ⟨wr.heap.size, 6, none⟩ = some (.int .i64 x.e.node.kind) ∧ w'.cell? ⟨wr.heap.size, 7, none⟩ = some (.int .i64 x.e.node.mode) ∧ w'.cell? ⟨wr.heap.size, 8, none⟩ = some (.string x.e.node.target))
              (first | with_reducible exact KR | with_reducible exact KRd | with_reducible exact KS | with_reducible exact KT)
              (first | (go_at_call 27; refine (c_evict _ w.heap.size (w.heap.size + 2) k L wh x.e.key HC1.out.drew).mono ?_; rintro r w1 ⟨rfl, hc2, hg2⟩; (have kx1 := box_keep hg2 hplt KX.out); (have q1 := blk10 kx1); (have KS := And.intro7 q1.2.2.1 q1.2.2.2.1 q1.2.2.2.2.1 q1.2.2.2.2.2.1 q1.2.2.2.2.2.2.1 q1.2.2.2.2.2.2.2.1 q1.2.2.2.2.2.2.2.2.1); (have HC2 := hid hc2); (have HG2 := hid hg2); (have KX1 := hid kx1); clear q1 kx1 hc2 hg2) | (go_at_call 49; refine (r_evict _ wn.heap.size L ws x.e.key ((HR1.out.drew).chg HG2.out (fun k hk _ h => by have := h.2; omega)) HNK.out (by omega) (by omega)).mono ?_; rintro r w2 ⟨rfl, hr3, hg3⟩; (have kx2 := heap_chg hg3 KX1.out (by omega)); (have q2 := blk10 kx2); (have KT := And.intro7 q2.2.2.1 q2.2.2.2.1 q2.2.2.2.2.1 q2.2.2.2.2.2.1 q2.2.2.2.2.2.2.1 q2.2.2.2.2.2.2.2.1 q2.2.2.2.2.2.2.2.2.1); (have HR3 := hid hr3); (have HC3 := hid (HC2.out.chg hg3 (fun k hk h => by have := hk.2; omega))); (have HG3 := hid hg3); clear q2 kx2 hr3 hg3))
            all_goals
              go_wp2_with fail
              go_meet
              case rel => exact ⟨_, _, rfl, hid (by rw [HST.out]; exact (HC3.out.le (Nat.le_succ _))), hid (by rw [HST.out]; exact HR3.out), hid (HW.out.evict x.e.key L), (Nat.le_trans (evictWs_le _ _ _) (by omega)), hid (below2 HB1.out.drew HG2.out HG3.out (fun i hi h => by have := h; omega))⟩
        ·
            have ht0 : (x.kind % 6 == 0) = false := by simp [hq]
            have ht1 : (x.kind % 6 == 1) = false := by simp [hq]
            have ht2 : (x.kind % 6 == 2) = false := by simp [hq]
            have ht3 : (x.kind % 6 == 3) = false := by simp [hq]
            have ht4 : (x.kind % 6 == 4) = false := by simp [hq]
            have ht5 : (x.kind % 6 == 5) = true := by simp [hq]
            have hst5 : stepE x L = L := by simp [stepE, hq]
            have HST := hid hst5
            clear hq hst5
            go_wp2_with fail
            refine (c_setwhole _ w.heap.size (w.heap.size + 2) k L wh x.dir HC1.out).mono ?_
            rintro r w1 ⟨rfl, hc2, hg2⟩
            have BX2 := blk10 (box_keep hg2 hplt KX.out)
            have HC2 := hid hc2
            have HG2 := hid hg2
            clear hc2 hg2 BX
            go_wp2_with fail
            refine (r_setwhole _ wn.heap.size L ws x.dir (HR1.out.chg HG2.out (fun k hk _ h => by have := h.2; omega)) (by omega)).mono ?_
            rintro r w2 ⟨rfl, hr3, hg3⟩
            have HR3 := hid hr3
            have HG3 := hid hg3
            have HC3 := hid (HC2.out.chg hg3 (fun k hk h => by have := RF.ge h; have := hk.2; omega))
            clear hr3 hg3
            go_wp2_with fail
            go_meet
            case rel => exact ⟨_, _, rfl, hid (by rw [HST.out]; exact HC3.out.le (Nat.le_succ _)), hid (by rw [HST.out]; exact HR3.out), hid (HW.out.set x.dir), Nat.le_trans (setL_le _ _) (by omega), hid (below2 HB1.out HG2.out HG3.out (fun i hi h => by have := RF.ge h; omega))⟩
      case rest =>
        obtain ⟨wh2, ws2, rfl, HC2, HR2, HW2, hwl2, HB2⟩ := hcut
        rw [← HPT.out] at HC2 HR2
        clear CE
        go_wp2_with fail
        exact ⟨⟨k + 1, wh2, ws2, by omega, by go_num, HC2, HR2, HW2, hwl2, HB2⟩, by simp [intOf]; omega⟩
    · have hjj : S.take k = S := List.take_of_length_le (by omega)
      have hkk : k = S.length := by omega
      rw [hjj] at HC HR
      rw [hkk] at HC
      clear hjj
      go_wp2
      go_ret3
      exact ⟨wn.heap.size, wh, ws, rfl, hprl, HC.out, HR.out, HW.out, by omega, HB.out⟩

end Go.Proofs.Ytmhogjecfgbchaa
