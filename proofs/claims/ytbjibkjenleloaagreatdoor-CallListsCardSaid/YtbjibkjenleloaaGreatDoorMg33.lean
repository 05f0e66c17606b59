/- Parts of a proof about the given program, in build order: CalN. No condition. -/
import Derived.Test.YtbjibkjenleloaaGreatDoorMg32
section
namespace Go.Proofs.YtbjibkjenleloaaGreatDoor
set_option linter.unusedVariables false
set_option linter.unusedSimpArgs false
open Go.RowKit
attribute [local go_sem ↓] Go.wp_at_zero Go.wp_at_succ
attribute [local go_sem] run_store_complex run_store_float


set_option maxHeartbeats 1000000 in
theorem tick_none (w : World) (c t B p n : Nat) (s : Cl) (td : Td) (L : List En) (wh : Int → Bool) (h : CliAt w c t B p n s td L wh) (h1 : td.me = 0) (h2 : td.mn = 0) (h3 : s.am.kind = 0) : Calls Tryz.prog 18 #[.pointer (some ⟨c, 0, none⟩)] w fun e w' => e = .returned (.slice none 0 0) ∧ w = w' := by
  have e17 := cell_of h.hc 17 (.int .i64 s.am.kind) rfl
  rw [h3] at e17
  have HC := hid h
  have hm0 : InM 0 := by unfold InM; omega
  have HM := hid hm0
  have H12 := hid (And.intro h1 h2)
  clear h h1 h2 h3 hm0
  go_enter Tryz.func18, Tryz.ntmps18
  go_wp2_with fail
  refine (cli_mark _ c t B p n s td L wh HC.out).mono ?_; rintro e w1 ⟨rfl, rfl⟩
  rw [H12.out.1, H12.out.2]
  go_wp2_with fail
  refine (epoch_any _ _ HM.out HM.out _).mono ?_; rintro e w1 ⟨rfl, rfl⟩
  go_wp2
  go_ret
  exact ⟨rfl, rfl⟩
theorem wk_one_none {fresh L : List En} {wh : Int → Bool} {follow : Bool} {A : List Nd} {y : Nd} {s : ByteArray} {T : List ByteArray} {dir : Bool} {k : Int} {U : List Ky} {z : Ow} (h : Wk fresh L wh follow A y (s :: T) dir k U z) (hk : y.kind = 1) (h1 : dotT s = false) (h2 : dot2T s = false) (hn : knW fresh L wh ⟨y.id, s⟩ = none) : z = ⟨true, ⟨y.id, s⟩, 0, nd0, U⟩ := by
  cases h <;> simp_all
theorem wk_one_neg {fresh L : List En} {wh : Int → Bool} {follow : Bool} {A : List Nd} {y : Nd} {s : ByteArray} {T : List ByteArray} {dir : Bool} {k : Int} {U : List Ky} {z : Ow} {x : En} (h : Wk fresh L wh follow A y (s :: T) dir k U z) (hk : y.kind = 1) (h1 : dotT s = false) (h2 : dot2T s = false) (hn : knW fresh L wh ⟨y.id, s⟩ = some x) (hx : x.neg = true) : z = ⟨false, ky0, 40, nd0, U ++ [⟨y.id, s⟩]⟩ := by
  cases h <;> simp_all
theorem path_a : pathErr { data := #[47, 97] } = 0 ∧ stepsL { data := #[47, 97] } = [{ data := #[97] }] ∧ dirB { data := #[47, 97] } = false := by decide +kernel

def cfA : Cf := ⟨1, 9, 4, 3, 2, 4, 2⟩
def enA : En := ⟨⟨1, { data := #[97] }⟩, true, ⟨0, 0, 0, ByteArray.empty⟩⟩
def msA (b : Nat) : Ms := ⟨2, 1, 1, 1, 1, 0, 3, 0, op0, some ⟨b, 0, none⟩, 1, 1, none, 0, 0⟩
def s1A : Cl := { cl0 1 1 cfA with busy := true, ck := 1, cp := { data := #[47, 97] }, co := { data := #[] }, cm := 0 }
def td1A : Td := { td0 1 1 2 with asked := 1 }
def td2A : Td := ⟨1, 1, 2, 1, 0, 3, 0⟩
def cutA : Ts := trimT 9 4 ⟨putAll [enA] [], (fun _ => false), []⟩
set_option maxRecDepth 100000 in
set_option maxHeartbeats 4000000 in
theorem take_awake (w : World) (c t B p n b : Nat) (h : CliAt w c t B p n (askedS s1A (td0 1 1 2) (lookOp ⟨1, { data := #[97] }⟩)) td1A [] (fun _ => false)) (hn : n ≤ 1000) (hb : w.heap[b]? = some (.cells #[.int .i64 1, .string { data := #[97] }, .bool true, .int .i64 0, .int .i64 0, .int .i64 0, .string { data := #[] }] 55 (0, 0))) :
    Calls Tryz.prog 13 #[.pointer (some ⟨c, 0, none⟩), (msA b).v] w fun e w' => ∃ a0 c0 n2 s2, e = .returned (.tuple #[.slice a0 0 c0, .bool true, (An.mk 40 nd0 none 0 0 3).v]) ∧ CliAt w' c t B p n2 s2 td2A (useAll [⟨1, { data := #[97] }⟩] cutA.L) cutA.wh ∧ Chg (fun j => j = c ∨ j = t ∨ CF B p j) w w' := by
  have hm1 : InM 1 := by unfold InM; omega
  have hm0 : InM 0 := by unfold InM; omega
  have hrd : Rd w (.slice (some ⟨b, 0, none⟩) 1 1) [enA].length (ecs [enA]) := rd_blk hb (by simp [maxLen])
  have hbt : t ≠ b := heap_ty h.ht hb (by decide)
  have hT := take_reply w c t B p n (n + 1 + 1000) (askedS s1A (td0 1 1 2) (lookOp ⟨1, { data := #[97] }⟩)) { { askedS s1A (td0 1 1 2) (lookOp ⟨1, { data := #[97] }⟩) with am := ms0 } with busy := false, am := ms0 } td1A td2A [] (useAll [⟨1, { data := #[97] }⟩] cutA.L) (fun _ => false) cutA.wh (msA b) [enA] true 0 (An.mk 40 nd0 none 0 0 3) h
    (fun w1 ht1 hb1 => tide_take w1 t td1A td2A (msA b) [enA] false true true 0 ht1 rfl rfl rfl hm1 hm0 hm0 (show (0 : Int) < 1 by decide) rfl rfl (by decide) fun w2 ht2 hc2 => tide_use w2 t _ (msA b) [enA] ht2 (show (0 : Int) ≠ 70 by decide) rfl ((hrd.below hb1).chg fun k hk hl => hc2.block k hl fun e1 => by subst e1; simp [Value.ownBlock] at hk; exact hbt hk.symm) (by decide) (by simp [msA]; exact fun e1 => hbt e1.symm))
    (fun w1 Bu a cc hC hE hB => (reply_look w1 c t B p n Bu _ td2A [] [enA] (fun _ => false) a cc hC hE hB rfl path_a.1 (by decide) (by decide) (by simp; omega) rfl (by decide) (by decide)).mono ?_)
  · refine hT.mono ?_
    rintro e w' ⟨a0, c0, he, hC, hg⟩
    exact ⟨a0, c0, _, _, he, hC, hg⟩
  · rintro e w' ⟨z, n', hn', hwk, hcase, hg⟩
    have hwk' : Wk [enA] cutA.L cutA.wh true [] rootNd (stepsL { data := #[47, 97] }) (dirB { data := #[47, 97] }) 3 [] z := hwk
    rw [path_a.2.1] at hwk'
    have hz := wk_one_neg (x := enA) hwk' rfl (by decide +kernel) (by decide +kernel) (by rfl) rfl
    subst hz
    rcases hcase with ⟨h1, _⟩ | ⟨_, he, hc⟩
    · exact absurd h1 (by decide)
    · exact ⟨he, ⟨hc.hc, hc.ht, hc.hp.le (by simpa using hn'), hc.ncp, hc.ntp⟩, hg⟩
set_option maxRecDepth 100000 in
set_option maxHeartbeats 4000000 in
theorem call_awake (w : World) : Calls Tryz.prog 9 #[] w fun e w' => e = .returned (.bool true) ∧ Below w.heap.size w w' := by
  have HNEW := hid (call_new 1 1 cfA (by unfold newOK; decide) (by unfold rightP; decide) (by decide) w)
  unfold Cf.v at HNEW
  go_enter Tryz.func9, Tryz.ntmps9
  go_wp2_with fail
  refine HNEW.out.mono ?_; rintro e w1 ⟨c, t, B, p, rfl, hC1, hcz, htz, hBz, hb1⟩
  have HC1 := hid hC1
  have HB1 := hid hb1
  have HZ := hid (And.intro hcz (And.intro htz hBz))
  clear hC1 hb1 HNEW hcz htz hBz
  go_wp2_with fail
  refine (start_look w1 c t B p 0 (cl0 1 1 cfA) (td0 1 1 2) [] (fun _ => false) 0 { data := #[47, 97] } { data := #[] } HC1.out rfl path_a.1 (by decide) (by decide) (by decide) (by decide) (by decide)).mono ?_
  rintro e w2 ⟨z, n', hn', hwk, hcase, hx⟩
  have hwk' : Wk [] [] (fun _ => false) true [] rootNd (stepsL { data := #[47, 97] }) (dirB { data := #[47, 97] }) 3 [] z := hwk
  rw [path_a.2.1] at hwk'
  have hz := wk_one_none hwk' rfl (by decide +kernel) (by decide +kernel) (by rfl)
  subst hz
  rcases hcase with ⟨_, ⟨g, rfl, ho⟩, hc2⟩ | ⟨h1, _⟩
  · have HO := hid ho
    have HC2 := hid (show CliAt w2 c t B p n' (askedS s1A (td0 1 1 2) (lookOp ⟨1, { data := #[97] }⟩)) td1A [] (fun _ => false) from hc2)
    have HX2 := hid hx
    have HN2 := hid hn'
    clear ho hc2 hx hn' hwk hwk'
    have hz2 := HX2.out.size
    have ha := Rd.own (own_alloc HO.out (.cells #[.int .i64 0, .int .i64 0, .int .i64 0, .int .i64 0, .string { data := #[] }, .slice none 0 0, .int .i64 0] 43))
    have a3 := ha.at 3 (.int .i64 1) rfl
    have a7 := ha.at 7 (.int .i64 1) rfl
    have a8 := ha.at 8 (.int .i64 1) rfl
    have a9 := ha.at 9 (.string { data := #[97] }) rfl
    have a10 := ha.at 10 (.int .i64 0) rfl
    have a11 := ha.at 11 (.string { data := #[] }) rfl
    have a12 := ha.at 12 (.int .i64 0) rfl
    have a13 := ha.at 13 (.string { data := #[] }) rfl
    simp only [Nat.zero_add] at a3 a7 a8 a9 a10 a11 a12 a13
    have heq : ∀ W : World, (Op.equalIn 10000 37 (.agg #[.int .i64 1, .int .i64 1, .string { data := #[97] }, .int .i64 0, .string { data := #[] }, .int .i64 0, .string { data := #[] }]) (.agg #[.int .i64 1, .int .i64 1, .string { data := #[97] }, .int .i64 0, .string { data := #[] }, .int .i64 0, .string { data := #[] }])).run Tryz.prog W = .ok true W := fun W => by kernel_rfl
    clear ha
    go_wp2_with fail
    have hent := heap_new (w2.alloc (.cells #[.int .i64 0, .int .i64 0, .int .i64 0, .int .i64 0, .string { data := #[] }, .slice none 0 0, .int .i64 0] 43)) (.cells #[.int .i64 1, .string { data := #[97] }, .bool true, .int .i64 0, .int .i64 0, .int .i64 0, .string { data := #[] }] 55)
    rw [World.size_alloc] at hent
    have hT := take_awake _ c t B p n' (w2.heap.size + 1) (HC2.out.below (bl2 w2 (.cells #[.int .i64 0, .int .i64 0, .int .i64 0, .int .i64 0, .string { data := #[] }, .slice none 0 0, .int .i64 0] 43) (.cells #[.int .i64 1, .string { data := #[97] }, .bool true, .int .i64 0, .int .i64 0, .int .i64 0, .string { data := #[] }] 55))) (by have := HN2.out; omega) hent
    simp only [Ms.v, Ms.cs, msA, op0, fl_one, fl_0] at hT
    refine hT.mono ?_; rintro e w3 ⟨a0, c0, n2, s2, rfl, hC3, hg3⟩
    have hlow : ∀ i, i < w.heap.size → ¬ (i = c ∨ i = t ∨ CF B p i) := fun i hi hf => by
      have := HZ.out
      rcases hf with hf | hf | hf
      · omega
      · omega
      · have := hf.1; omega
    have hb2 := HB1.out.trans (HX2.out.toBelow HB1.out.size hlow)
    have hb3 := hb2.trans ((bl2 w2 (.cells #[.int .i64 0, .int .i64 0, .int .i64 0, .int .i64 0, .string { data := #[] }, .slice none 0 0, .int .i64 0] 43) (.cells #[.int .i64 1, .string { data := #[97] }, .bool true, .int .i64 0, .int .i64 0, .int .i64 0, .string { data := #[] }] 55)).mono hb2.size)
    have hb4 := hb3.trans (hg3.toBelow hb3.size hlow)
    have HB4 := hid hb4
    clear a3 a7 a8 a9 a10 a11 a12 a13 hT hent hC3 hg3 hlow hb2 hb3 hb4
    unfold An.v nd0
    go_wp2
    go_ret
    exact ⟨rfl, HB4.out.trans ((bl1 w3 _).mono HB4.out.size)⟩
  · exact absurd h1 (by decide)
end Go.Proofs.YtbjibkjenleloaaGreatDoor

end
