/- Parts of a proof about the given program, in build order: CmuI. No condition. -/
import Derived.Test.YtbjibkjenleloaaGreatDoorMg31
import Derived.Test.YtbjibkjenleloaaGreatDoorMg33
section
namespace Go.Proofs.YtbjibkjenleloaaGreatDoor
set_option linter.unusedVariables false
set_option linter.unusedSimpArgs false
open Go.RowKit
attribute [local go_sem ↓] Go.wp_at_zero Go.wp_at_succ
attribute [local go_sem] run_store_complex run_store_float


theorem trim_same {L : List En} (wh : Int → Bool) (most neg : Int) (h1 : (L.length : Int) ≤ max most 0) (h2 : (negL L : Int) ≤ max neg 0) : trimT most neg ⟨L, wh, []⟩ = ⟨L, wh, []⟩ := by
  unfold trimT
  rw [trN_stop (s := ⟨L, wh, []⟩) (by show ¬ (negL L : Int) > max neg 0; omega)]
  exact trM_stop (s := ⟨L, wh, []⟩) (by show ¬ (L.length : Int) > max most 0; omega)
theorem put_one (x : En) (hx : x.key.name ≠ ByteArray.empty) : putAll [x] [] = [x] := by
  show putL x [] = [x]
  unfold putL
  rw [if_neg hx]
  rfl
theorem trim_one (x : En) (hx : x.key.name ≠ ByteArray.empty) (e : Int) (wh : Int → Bool) (de ne : Int) (h1 : 1 ≤ de) (h2 : 1 ≤ ne) : trimT de ne ⟨putAll (if e = 0 then [x] else []) [], wh, []⟩ = ⟨if e = 0 then [x] else [], wh, []⟩ := by
  by_cases he : e = 0
  · rw [if_pos he, put_one x hx]
    have hc : negL [x] ≤ 1 := by unfold negL; exact Nat.le_trans List.countP_le_length (by simp)
    exact trim_same wh de ne (by simp; omega) (by omega)
  · rw [if_neg he]
    exact trim_same (L := []) wh de ne (by simp; omega) (by unfold negL; simp; omega)
/-- the reply to a mutation -/
def msM (b : Nat) (v e : Int) : Ms := ⟨2, 1, 1, 1, 1, 0, v, e, op0, some ⟨b, 0, none⟩, 1, 1, none, 0, 0⟩
set_option maxRecDepth 100000 in
set_option maxHeartbeats 4000000 in
theorem take_mut (w : World) (c t B p n b : Nat) (s : Cl) (ho v er : Int) (x : En) (h : CliAt w c t B p n s { td0 1 1 ho with asked := 1 } [] (fun _ => false)) (hk : 4 ≤ s.am.op.kind) (he : er ≠ 70) (hv : 0 ≤ v) (hn : n ≤ 1000) (hxn : x.key.name ≠ ByteArray.empty) (hde : 1 ≤ s.cf.de) (hne : 1 ≤ s.cf.ne)
    (hb : w.heap[b]? = some (.cells #[.int .i64 x.key.dir, .string x.key.name, .bool x.neg, .int .i64 x.node.id, .int .i64 x.node.kind, .int .i64 x.node.mode, .string x.node.target] 55 (0, 0))) :
    Calls Tryz.prog 13 #[.pointer (some ⟨c, 0, none⟩), (msM b v er).v] w fun r w' => ∃ a0 c0, r = .returned (.tuple #[.slice a0 0 c0, .bool true, (An.mk er nd0 none 0 0 v).v]) ∧ CliAt w' c t B p (n + (if er = 0 then [x] else []).length) { s with busy := false, am := ms0 } ⟨1, 1, ho, 1, 0, v, 0⟩ (if er = 0 then [x] else []) (fun _ => false) ∧ Chg (fun j => j = c ∨ j = t ∨ CF B p j) w w' := by
  have hm1 : InM 1 := by unfold InM; omega
  have hm0 : InM 0 := by unfold InM; omega
  have hmx : max (0 : Int) v = v := by omega
  have hrd : Rd w (.slice (some ⟨b, 0, none⟩) 1 1) [x].length (ecs [x]) := rd_blk hb (by simp [maxLen])
  have hbt : t ≠ b := heap_ty h.ht hb (by decide)
  have hT := take_reply w c t B p n (n + (if er = 0 then [x] else []).length) s { s with busy := false, am := ms0 } { td0 1 1 ho with asked := 1 } ⟨1, 1, ho, 1, 0, v, 0⟩ [] (if er = 0 then [x] else []) (fun _ => false) (fun _ => false) (msM b v er) [x] true er (An.mk er nd0 none 0 0 v) h
    (fun w1 ht1 hb1 => tide_take w1 t { td0 1 1 ho with asked := 1 } ⟨1, 1, ho, 1, 0, v, 0⟩ (msM b v er) [x] false true true er ht1 rfl rfl rfl hm1 hm0 hm0 (show (0 : Int) < 1 by decide) rfl rfl (show (0 : Int) < 1 by decide) fun w2 ht2 hc2 => by
      have h1 := tide_use w2 t _ (msM b v er) [x] ht2 he rfl ((hrd.below hb1).chg fun k hk hl => hc2.block k hl fun e1 => by subst e1; simp [Value.ownBlock] at hk; exact hbt hk.symm) (show 1 * 72 ≤ 140737488355328 by decide) (by simp [msM]; exact fun e1 => hbt e1.symm)
      have h2 : max ({ td0 1 1 ho with asked := 1 } : Td).ver (msM b v er).ver = v := hmx
      exact h1.mono fun e w' hh => by
        obtain ⟨a, c, g1, g2, g3, g4⟩ := hh
        refine ⟨a, c, g1, g2, ?_, g4⟩
        have h3 : max (0 : Int) v = v := hmx
        simp only [td0, msM] at g3
        rw [h3] at g3
        exact g3)
    (fun w1 Bu a cc hC hE hB => (reply_mut w1 c t B p n Bu s ⟨1, 1, ho, 1, 0, v, 0⟩ [] [x] (fun _ => false) a cc true er hC hE hB hk (by simp; omega)).mono ?_)
  · exact hT
  · rintro e w' ⟨h1, h2, h3⟩
    rw [trim_one x hxn er (fun _ => false) s.cf.de s.cf.ne hde hne] at h2
    exact ⟨h1, h2, h3.mono fun j w hj => by rcases hj with hj | hj; exact .inl hj; exact .inr (.inr hj)⟩
end Go.Proofs.YtbjibkjenleloaaGreatDoor

end
