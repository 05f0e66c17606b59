/- Parts of a proof about the given program, in build order: LsaB. No condition. -/
import Derived.Test.YtbjibkjenleloaaGreatDoorMg48
section
namespace Go.Proofs.YtbjibkjenleloaaGreatDoor
set_option linter.unusedVariables false
set_option linter.unusedSimpArgs false
open Go.RowKit
attribute [local go_sem ↓] Go.wp_at_zero Go.wp_at_succ
attribute [local go_sem] run_store_complex run_store_float


set_option maxRecDepth 100000 in
set_option maxHeartbeats 4000000 in
theorem ls_full (w w2 : World) (a : Act) (c t B p n o q ab : Nat) (c2 : Cf) (s : Cl) (td : Td) (L F : List En) (wh : Int → Bool) (la : Option Addr) (lc : Nat) (other : ByteArray) (v : Int) (th : Bool) (K : Code) (hs : a.tmps.size = 310) (hd : a.defers = []) (f2 : a.tmps.getD 2 undef = .string other) (f9 : a.tmps.getD 9 undef = .pointer (some ⟨o, 0, none⟩)) (f11 : a.tmps.getD 11 undef = .slice la F.length lc) (f17 : a.tmps.getD 17 undef = .int .i64 v) (f18 : a.tmps.getD 18 undef = .pointer (some ⟨ab, 0, none⟩)) (f19 : a.tmps.getD 19 undef = .bool th)
    (hI : LsI w w2 c t B p n o q c2 s td L wh) (hn : n ≤ 100) (hcase : (F.length : Int) ≤ c2.de ∨ ((F.length : Int) > c2.de ∧ (L.length : Int) = c2.de ∧ wh 1 = false))
    (hK : ∀ (a : Act), a.tmps.size = 310 → a.defers = [] → a.tmps.getD 2 undef = .string other → a.tmps.getD 9 undef = .pointer (some ⟨o, 0, none⟩) → a.tmps.getD 17 undef = .int .i64 v → a.tmps.getD 18 undef = .pointer (some ⟨ab, 0, none⟩) → a.tmps.getD 19 undef = .bool th → (F.length : Int) ≤ c2.de → K.wp Tryz.prog (bodyPost Tryz.prog Tryz.f4 fun e w' => e = .returned (.bool true) ∧ Below w.heap.size w w') a w2) :
    (cutN 1 (sndN 13 lsBody) K).wp Tryz.prog (bodyPost Tryz.prog Tryz.f4 fun e w' => e = .returned (.bool true) ∧ Below w.heap.size w w') a w2 := by
  conv => pattern (sndN 13 lsBody); whnf
  simp only [cutN]
  have HKK := hid hK
  have HI := hid hI
  have h9 := frame310 a hs hd
  rw [f2, f9, f11, f17, f18, f19] at h9
  generalize a.tmps = u at h9
  subst h9
  have bo := blk2 hI.o_
  have bq := hI.q_
  clear hs hd f2 f9 f11 f17 f18 f19 hI hK
  rcases hcase with hle | ⟨hgt, hL, hw⟩
  · have HLE := hid hle
    have hng : ¬ ((F.length : Int) > c2.de) := by omega
    have hng2 : ¬ (c2.de < (F.length : Int)) := by omega
    clear hle
    go_wp2_with fail
    go_wp2
    refine HKK.out _ ?_ ?_ ?_ ?_ ?_ ?_ ?_ HLE.out
    iterate 7 rfl
  · have HWH := hid (fun (W : World) (hC : CliAt W c t B p n s td L wh) => (cli_whole W c t B p n s td L wh 1 hC).mono (R' := fun e w' => e = .returned (.bool false) ∧ W = w') (fun e w' h => by rw [← hw]; exact h))
    have HEN := hid (fun (W : World) (hC : CliAt W c t B p n s td L wh) => cli_entries W c t B p n s td L wh hC (by omega))
    have KR : w2.cell? ⟨o, 0, none⟩ = some (.pointer (some ⟨c, 0, none⟩)) ∧ w2.cell? ⟨o, 1, none⟩ = some (.pointer (some ⟨q, 0, none⟩)) ∧ w2.cell? ⟨q, 3, none⟩ = some (.int .i64 c2.de) := ⟨(blk2 HI.out.o_).1, (blk2 HI.out.o_).2.1, HI.out.q_⟩
    have KRd : w2.drew.cell? ⟨o, 0, none⟩ = some (.pointer (some ⟨c, 0, none⟩)) ∧ w2.drew.cell? ⟨o, 1, none⟩ = some (.pointer (some ⟨q, 0, none⟩)) ∧ w2.drew.cell? ⟨q, 3, none⟩ = some (.int .i64 c2.de) := KR
    have hlt : c2.de < (F.length : Int) := by omega
    clear hw
    go_wp2_with fail
    go_region_held3 (fun w' => w'.cell? ⟨o, 0, none⟩ = some (.pointer (some ⟨c, 0, none⟩)) ∧ w'.cell? ⟨o, 1, none⟩ = some (.pointer (some ⟨q, 0, none⟩)) ∧ w'.cell? ⟨q, 3, none⟩ = some (.int .i64 c2.de))
      (first | with_reducible exact KR | with_reducible exact KRd | with_reducible exact K1 | with_reducible exact K2)
      (first | (go_at_call 16; refine (HWH.out _ HI.out.drew.at_).mono ?_; rintro e7 w4 ⟨rfl, rfl⟩)
             | (go_at_call 14; refine (HEN.out _ HI.out.drew.at_).mono ?_; rintro e8 w5 ⟨a8, c8, rfl, _, hb5⟩; (have HI5 := hid (HI.out.drew.below hb5)); (have K1 : w5.cell? ⟨o, 0, none⟩ = some (.pointer (some ⟨c, 0, none⟩)) ∧ w5.cell? ⟨o, 1, none⟩ = some (.pointer (some ⟨q, 0, none⟩)) ∧ w5.cell? ⟨q, 3, none⟩ = some (.int .i64 c2.de) := ⟨(blk2 HI5.out.o_).1, (blk2 HI5.out.o_).2.1, HI5.out.q_⟩); clear hb5)
             | (go_at_call 9; refine (call_awake _).mono ?_; rintro e9 w6 ⟨rfl, hb6⟩; (have HI6 := hid (HI5.out.below hb6)); (have K2 : w6.cell? ⟨o, 0, none⟩ = some (.pointer (some ⟨c, 0, none⟩)) ∧ w6.cell? ⟨o, 1, none⟩ = some (.pointer (some ⟨q, 0, none⟩)) ∧ w6.cell? ⟨q, 3, none⟩ = some (.int .i64 c2.de) := ⟨(blk2 HI6.out.o_).1, (blk2 HI6.out.o_).2.1, HI6.out.q_⟩); clear hb6))
    all_goals
      (try simp only [Exit.inBlock, Exit.then])
      (try go_wp2)
      go_ret
      exact ⟨rfl, HI6.out.bel⟩
end Go.Proofs.YtbjibkjenleloaaGreatDoor

end
