/- Parts of a proof about the given program, in build order: CalZb. No condition. -/
import Derived.Test.YtbjibkjenleloaaGreatDoorMg31
section
namespace Go.Proofs.YtbjibkjenleloaaGreatDoor
set_option linter.unusedVariables false
set_option linter.unusedSimpArgs false
open Go.RowKit
attribute [local go_sem ↓] Go.wp_at_zero Go.wp_at_succ
attribute [local go_sem] run_store_complex run_store_float


set_option maxRecDepth 100000 in
set_option maxHeartbeats 8000000 in
theorem ag_end (w w11 : World) (a : Act) (c t B p n o q : Nat) (s : Cl) (td : Td) (L : List En) (wh : Int → Bool) (hs : a.tmps.size = 201) (hd : a.defers = []) (f9 : a.tmps.getD 9 undef = .pointer (some ⟨o, 0, none⟩))
    (hC : CliAt w11 c t B p n s td L wh) (hb : s.busy = true) (he : InM td.me) (hn : InM td.mn) (he1 : 1 ≤ td.me) (hi : s.id = 1) (hl : s.life = 1) (hO : w11.heap[o]? = some (.cells #[.pointer (some ⟨c, 0, none⟩), .pointer (some ⟨q, 0, none⟩)] 29 (0, 0))) (hlo : w.heap.size ≤ c ∧ w.heap.size ≤ t) (hB : Below w.heap.size w w11) :
    (sndN 14 agBody).wp Tryz.prog (bodyPost Tryz.prog Tryz.f5 fun e w' => e = .returned (.bool true) ∧ Below w.heap.size w w') a w11 := by
  conv => pattern (sndN 14 agBody); whnf
  have h9 := frame201 a hs hd
  rw [f9] at h9
  generalize a.tmps = u at h9
  subst h9
  have HC := hid hC
  have HO := hid hO
  have HB := hid hB
  have HN := hid (And.intro hb (And.intro he (And.intro hn (And.intro he1 (And.intro hi hl)))))
  have HLO := hid hlo
  have hcz := blk_lt hC.hc
  have HNE := hid (And.intro (heap_ty hC.hc hO (by decide)) (heap_ty hC.ht hO (by decide)))
  have bo := blk2 hO
  have hoz := blk_lt hO
  clear hs hd f9 hC hb he hn he1 hi hl hO hlo hB
  go_wp2_with fail
  refine (cancel_yes _ c t B p n s td L wh HC.out HN.out.1).mono ?_; rintro e1 w12 ⟨rfl, hc12, hx12⟩
  have HO12 := hid (heap_chg hx12 HO.out (fun h9 => by rcases h9 with h9 | h9; exact HNE.out.1 h9.symm; exact HNE.out.2 h9.symm))
  have HB12 := hid (HB.out.trans (hx12.toBelow HB.out.size fun i hi hf => by have := HLO.out; omega))
  have HCA := hid (hc12.below (bl1 w12 (.cells #[.int .i64 81, .int .i64 0, .int .i64 0, .int .i64 0, .string { data := #[] }, .slice none 0 0, .int .i64 td.ver] 43)))
  have HOA := hid (heap_old HO12.out (.cells #[.int .i64 81, .int .i64 0, .int .i64 0, .int .i64 0, .string { data := #[] }, .slice none 0 0, .int .i64 td.ver] 43))
  have HBA := hid (HB12.out.trans ((bl1 w12 (.cells #[.int .i64 81, .int .i64 0, .int .i64 0, .int .i64 0, .string { data := #[] }, .slice none 0 0, .int .i64 td.ver] 43)).mono HB12.out.size))
  have HA := hid (heap_new w12 (.cells #[.int .i64 81, .int .i64 0, .int .i64 0, .int .i64 0, .string { data := #[] }, .slice none 0 0, .int .i64 td.ver] 43))
  clear bo hoz hc12 hx12
  have bo := blk2 HOA.out
  go_wp2_with fail
  refine (tick_again _ c t B p n _ _ L wh HCA.out HN.out.2.1 HN.out.2.2.1 HN.out.2.2.2.1 rfl).mono ?_; rintro e2 w13 ⟨a3, c3, rfl, ho13, hc13, hx13⟩
  obtain ⟨g, hg, _, hgz, _, _⟩ := own_loc ho13 (by omega)
  subst hg
  have HC13 := hid hc13
  have HO13 := hid (heap_chg hx13 HOA.out (fun h9 => HNE.out.1 h9.symm))
  have HA13 := hid (heap_chg hx13 HA.out (fun h9 => by have h1 := heap_ty HCA.out.hc HA.out (by decide); exact h1 h9.symm))
  have HB13 := hid (HBA.out.trans (hx13.toBelow HBA.out.size fun i hi hf => by have := HLO.out; omega))
  have P13 := Rd.own ho13
  have x7 := P13.at 7 (.int .i64 4) rfl
  simp only [Nat.zero_add] at x7
  clear bo ho13 hc13 hx13 P13
  have bo := blk2 HO13.out
  have ba := blk7 HA13.out
  go_wp2_with fail
  refine (cli_busy _ c t B p n _ _ L wh HC13.out).mono ?_; rintro e3 w14 ⟨rfl, rfl⟩
  go_wp2_with fail
  refine (cancel_no _ c t B p n _ _ L wh HC13.out rfl).mono ?_; rintro e4 w15 ⟨rfl, hb15⟩
  have HO15 := hid (heap_below hb15 HO13.out (blk_lt HO13.out))
  have hA15 := heap_below hb15 HA13.out (blk_lt HA13.out)
  have HA15 := hid hA15
  have HB15 := hid (HB13.out.trans (hb15.mono HB13.out.size))
  clear bo ba x7 hb15
  have ba := blk7 hA15
  clear hA15
  go_wp2_with fail
  refine gen_w (P := fun w' => Calls _ _ _ w' _) (S := fun w16 => w16.heap[w12.heap.size]? = some (.cells #[.int .i64 0, .int .i64 0, .int .i64 0, .int .i64 0, .string { data := #[] }, .slice none 0 0, .int .i64 0] 43 (0, 0)) ∧ Below w.heap.size w w16) _ ⟨?_, ?_⟩ ?_
  · have h9 := (heap_set (heap_set (heap_set (heap_set (heap_set (heap_set (heap_set HA15.out 0 (.int .i64 0)) 1 (.int .i64 0)) 2 (.int .i64 0)) 3 (.int .i64 0)) 4 (.string { data := #[] })) 5 (.slice none 0 0)) 6 (.int .i64 0))
    simp only [List.setIfInBounds_toArray, List.set_cons_zero, List.set_cons_succ] at h9
    exact h9
  · exact HB15.out.trans (Chg.toBelow (F := fun j => j = w12.heap.size) (by (iterate 7 refine Chg.set1 ?_ _ _ rfl); exact Chg.refl _ _) HB15.out.size fun i hi hf => by have := HB12.out.size; omega)
  rintro w16 ⟨hA16, hb16⟩
  have HB16 := hid hb16
  clear ba hA16 hb16
  refine (same_answer_zero _).mono ?_; rintro e5 w17 ⟨rfl, hb17⟩
  have HB17 := hid (HB16.out.trans (hb17.mono HB16.out.size))
  clear hb17
  go_wp2_with fail
  refine (call_awake _).mono ?_; rintro e6 w18 ⟨rfl, hb18⟩
  have HB18 := hid (HB17.out.trans (hb18.mono HB17.out.size))
  clear hb18
  go_wp2
  go_ret
  exact ⟨rfl, HB18.out⟩
end Go.Proofs.YtbjibkjenleloaaGreatDoor

end
