import Derived.Test.YtmhogjecfgbchaaRefJ
namespace Go.Proofs.Ytmhogjecfgbchaa
set_option linter.unusedVariables false
set_option linter.unusedSimpArgs false
open Go.RowKit
attribute [local go_sem ↓] Go.wp_at_zero Go.wp_at_succ

set_option maxRecDepth 100000 in
set_option maxHeartbeats 4000000 in
theorem pruneTrims_walk (sa : Option Addr) (sc : Nat) (S : List Dop) (most neg : Int) (w : World) (hS : ScrD w (.slice sa S.length sc) S) (hz : S.length * 112 ≤ 140737488351232) (hkz : ∀ x ∈ S, x.ks.length * 24 ≤ 140737488351232) :
    Calls Try.prog 17 #[.slice sa S.length sc, .int .i64 most, .int .i64 neg] w fun r w' => r = .returned (.bool true) ∧ Below w.heap.size w w' := by
  have HS := hid hS
  have HZ := hid hkz
  have BB0 := hid (Below.refl w.heap.size w)
  have hn80 : S.length * 80 ≤ 140737488351232 := by omega
  clear hS hkz
  go_enter Try.func17, Try.ntmps17
  go_wp2_with (go_at_call 31; refine (d_of' sa sc S _ HS.out hz HZ.out).mono ?_; rintro r w1 ⟨p, pr, wh, ws, rfl, hp, hppr, hc1, hr1, hwr1, hwl1, hb1⟩; (have BB1 := hid hb1); (have HC1 := hid hc1); (have HR1 := hid hr1); (have HW1 := hid hwr1); (have hL := hc1.len); (have HKN := hid hc1.keys); (have hl1 := hc1.lt); (have hl2 := hr1.lt); (have hw1 := hb1.size); clear hc1 hr1 hwr1 hb1)
  go_loopw [10] (fun v10 wr => ∃ (i : Nat), i ≤ 2 ∧ v10 = .int .i64 i ∧ Hid (Below w1.heap.size w1 wr)) (fun v10 _ => 2 - (intOf v10).toNat)
  case atStart => exact ⟨0, Nat.zero_le _, rfl, hid (Below.refl _ _)⟩
  case round =>
    obtain ⟨i, hi, rfl, HB⟩ := hrel
    have HCr := hid (HC1.out.below HB.out)
    have HRr := hid (HR1.out.below HB.out)
    rcases (show i = 0 ∨ i = 1 ∨ i = 2 by omega) with rfl | rfl | rfl
    · obtain ⟨k, hk⟩ : ∃ k, k = vicK true (playE S) := ⟨_, rfl⟩
      obtain ⟨b, hb⟩ : ∃ b, b = (vicL true (playE S)).isSome := ⟨_, rfl⟩
      have HVK := hid hk
      have HVB := hid hb
      have heq := fun W => eqIn_key k.dir k.dir k.name k.name W
      simp only [decide_true] at heq
      clear hk hb
      go_wp2_with (first
        | (go_at_call 45; refine (c_victim _ _ p _ _ _ true HCr.out hn80).mono ?_; rintro r w2 ⟨rfl, hb2⟩; rw [← HVK.out, ← HVB.out]; (have KB2 := hid (heap_new w2 (.cells #[.int .i64 k.dir, .string k.name] 26))); (have HR2 := hid ((HRr.out.below hb2).below (bl1 w2 (.cells #[.int .i64 k.dir, .string k.name] 26)))); (have HB2 := hid ((HB.out.trans (hb2.mono HB.out.size)).alloc (by have := HB.out.size; have := hb2.size; omega) (.cells #[.int .i64 k.dir, .string k.name] 26))); clear hb2)
        | (go_at_call 46; refine (r_victim _ pr _ ws true HR2.out (by omega)).mono ?_; rintro r w3 ⟨rfl, hb3⟩; rw [← HVK.out, ← HVB.out]; (have b_KB2 := blk2 (heap_old (heap_below hb3 KB2.out (blk_lt KB2.out)) (.cells #[.int .i64 k.dir, .string k.name] 26))); (have b_KB3 := blk2 (heap_new w3 (.cells #[.int .i64 k.dir, .string k.name] 26))); (have HB3 := hid ((HB2.out.trans (hb3.mono HB2.out.size)).alloc (by have := HB2.out.size; have := hb3.size; omega) (.cells #[.int .i64 k.dir, .string k.name] 26))); clear hb3))
      exact ⟨⟨1, by omega, rfl, HB3⟩, by simp [intOf]⟩
    · obtain ⟨k, hk⟩ : ∃ k, k = vicK false (playE S) := ⟨_, rfl⟩
      obtain ⟨b, hb⟩ : ∃ b, b = (vicL false (playE S)).isSome := ⟨_, rfl⟩
      have HVK := hid hk
      have HVB := hid hb
      have heq := fun W => eqIn_key k.dir k.dir k.name k.name W
      simp only [decide_true] at heq
      clear hk hb
      go_wp2_with (first
        | (go_at_call 45; refine (c_victim _ _ p _ _ _ false HCr.out hn80).mono ?_; rintro r w2 ⟨rfl, hb2⟩; rw [← HVK.out, ← HVB.out]; (have KB2 := hid (heap_new w2 (.cells #[.int .i64 k.dir, .string k.name] 26))); (have HR2 := hid ((HRr.out.below hb2).below (bl1 w2 (.cells #[.int .i64 k.dir, .string k.name] 26)))); (have HB2 := hid ((HB.out.trans (hb2.mono HB.out.size)).alloc (by have := HB.out.size; have := hb2.size; omega) (.cells #[.int .i64 k.dir, .string k.name] 26))); clear hb2)
        | (go_at_call 46; refine (r_victim _ pr _ ws false HR2.out (by omega)).mono ?_; rintro r w3 ⟨rfl, hb3⟩; rw [← HVK.out, ← HVB.out]; (have b_KB2 := blk2 (heap_old (heap_below hb3 KB2.out (blk_lt KB2.out)) (.cells #[.int .i64 k.dir, .string k.name] 26))); (have b_KB3 := blk2 (heap_new w3 (.cells #[.int .i64 k.dir, .string k.name] 26))); (have HB3 := hid ((HB2.out.trans (hb3.mono HB2.out.size)).alloc (by have := HB2.out.size; have := hb3.size; omega) (.cells #[.int .i64 k.dir, .string k.name] 26))); clear hb3))
      exact ⟨⟨2, by omega, rfl, HB3⟩, by simp [intOf]⟩
    · have HBB := hid (BB1.out.trans (HB.out.mono BB1.out.size))
      have hzz := HB.out.size
      go_wp2_with (first
        | (go_at_call 42; refine (c_trim _ _ p _ _ _ most neg HCr.out hn80).mono ?_; rintro r w2 ⟨s, a2, c2, rfl, hs, hown2, hc2, hgl2, hg2⟩; (have HS2 := hid hs); (have HC2 := hid hc2); (have HO2 := hid hown2); (have HR2 := hid (HRr.out.chg hg2 (fun k hk _ h => by have := h.2; omega))); (have BB2 := hid (HBB.out.trans (hg2.toBelow HBB.out.size (fun i hi h => by have := h.1; omega)))); (have hw2 := hg2.size); clear hs hown2 hc2 hg2)
        | (go_at_call 48; refine (r_trim _ pr (playE S) wh ws most neg HR2.out HW1.out HKN.out (by omega) (by omega)).mono ?_; rintro r w3 ⟨s', a3, c3, rfl, hs', ht3⟩; rw [← HS2.out] at hs'; subst hs'; (have HC3 := hid (HC2.out.chg ht3.chg (fun k hk h => by have := hk.2; omega))); (have HO3 := hid (ownsRow_chg HO2.out (fun k hk hlt => ht3.chg.block k hlt (fun h => by have := (own_lt HO2.out hk).1; omega)))); (have BB3 := hid (BB2.out.trans (ht3.chg.toBelow BB2.out.size (fun i hi h => by omega)))); (have HT3 := hid ht3); clear ht3)
        | (go_at_call 47; refine (same_keys _ s'.G s'.G _ _ _ _ (Rd.own HO3.out) (Rd.own HT3.out.own) rfl).mono ?_; rintro r w4 ⟨rfl, hb4⟩; (have HC4 := hid (HC3.out.below hb4)); (have BB4 := hid (BB3.out.trans (hb4.mono BB3.out.size))); obtain ⟨ws4, hr4, hwr4, hwl4⟩ := HT3.out.ex; (have HR4 := hid (hr4.below hb4)); (have HW4 := hid hwr4); clear hb4 hr4 hwr4)
        | (go_at_call 38; refine (like_walk _ _ _ _ _ s'.wh _ ws4 none 0 [] HC4.out HR4.out HW4.out (Rd.nil _) hn80 (by simp) (by omega)).mono ?_; rintro r w5 ⟨rfl, hb5⟩; (have BB5 := hid (BB4.out.trans (hb5.mono BB4.out.size))); clear hb5)
        | (go_at_call 43; refine (p_awake _).mono ?_; rintro r w6 ⟨rfl, hb6⟩; (have BB6 := hid (BB5.out.trans (hb6.mono BB5.out.size))); clear hb6))
      go_ret
      exact ⟨rfl, BB6.out⟩

/-- evicted one after the other -/
def evP (x : List En × (Int → Bool)) (k : Ky) : List En × (Int → Bool) := (dropL k x.1, evictWh k x.1 x.2)
theorem trim_evs (most neg : Int) (L : List En) (wh : Int → Bool) : ((trimT most neg ⟨L, wh, []⟩).L, (trimT most neg ⟨L, wh, []⟩).wh) = (trimT most neg ⟨L, wh, []⟩).G.foldl evP (L, wh) := by
  refine trim_ind (P := fun s => (s.L, s.wh) = s.G.foldl evP (L, wh)) rfl ?_
  intro b s v h hv
  rw [evT_some hv]
  show (dropL v.key s.L, evictWh v.key s.L s.wh) = (s.G ++ [v.key]).foldl evP (L, wh)
  rw [List.foldl_append, ← h]; rfl
theorem evP_take {G : List Ky} {i : Nat} {k : Ky} (x : List En × (Int → Bool)) (h : G[i]? = some k) : (G.take (i + 1)).foldl evP x = evP ((G.take i).foldl evP x) k := by
  rw [List.take_add_one, h, List.foldl_append]; rfl
theorem RAt.setKey {w : World} {p g i : Nat} {L : List En} {ws : List Int} {cur : Array Value} (u : Value) (h : RAt w p L ws) (hg : w.heap[g]? = some (.cells cur 26 (0, 0))) : RAt (w.setCell ⟨g, i, none⟩ u) p L ws := by
  obtain ⟨aL, cL, aW, cW, K, O, Wd⟩ := h.ex
  have hpg : p ≠ g := fun e => by rw [e, hg] at K; simp only [Option.some.injEq, Obj.cells.injEq] at K; exact absurd K.2.1 (by decide)
  exact ⟨aL, cL, aW, cW, heap_set_ne K i u hpg, own_set O (own_ne O hg (by decide)) i u, own_set Wd (own_ne Wd hg (by decide)) i u⟩

set_option maxRecDepth 100000 in
set_option maxHeartbeats 4000000 in
theorem pruneKept_walk (sa : Option Addr) (sc : Nat) (S : List Dop) (most neg : Int) (w : World) (hS : ScrD w (.slice sa S.length sc) S) (hz : S.length * 112 ≤ 140737488351232) (hkz : ∀ x ∈ S, x.ks.length * 24 ≤ 140737488351232) :
    Calls Try.prog 18 #[.slice sa S.length sc, .int .i64 most, .int .i64 neg] w fun r w' => r = .returned (.bool true) ∧ Below w.heap.size w w' := by
  have HS := hid hS
  have HZ := hid hkz
  have hn80 : S.length * 80 ≤ 140737488351232 := by omega
  clear hS hkz
  go_enter Try.func18, Try.ntmps18
  go_wp2_with (first
    | (go_at_call 31; refine (d_of' sa sc S _ HS.out hz HZ.out).mono ?_; rintro r w1 ⟨p, pr, wh, ws, rfl, hp, hppr, hc1, hr1, hwr1, hwl1, hb1⟩; (have BB1 := hid hb1); (have HC1 := hid hc1); (have HR1 := hid hr1); (have HW1 := hid hwr1); (have hL := hc1.len); (have HKN := hid hc1.keys); (have hl1 := hc1.lt); (have hl2 := hr1.lt); (have hw1 := hb1.size); clear hc1 hr1 hwr1 hb1)
    | (go_at_call 42; refine (c_trim _ _ p _ _ _ most neg HC1.out hn80).mono ?_; rintro r w2 ⟨s, a2, c2, rfl, hs, hown2, hc2, hgl2, hg2⟩; (have HEV := hid (show (s.L, s.wh) = s.G.foldl evP ((playE S), wh) by rw [hs]; exact trim_evs _ _ _ _)); (have HC2 := hid hc2); (have HO2 := hid hown2); (have HR2 := hid (HR1.out.chg hg2 (fun k hk _ h => by have := h.2; omega))); (have BB2 := hid (BB1.out.trans (hg2.toBelow BB1.out.size (fun i hi h => by have := h.1; omega)))); (have hw2 := hg2.size); clear hs hown2 hc2 hg2))
  go_loopw [11] (fun v11 wr => ∃ (i : Nat) (L' : List En) (wh' : Int → Bool) (ws' : List Int), i ≤ s.G.length ∧ v11 = .int .i64 i ∧ Hid ((L', wh') = (s.G.take i).foldl evP ((playE S), wh)) ∧ Hid (RAt wr pr L' ws') ∧ Hid (WhR wh' ws') ∧ ws'.length ≤ ws.length ∧ Hid ((L'.map En.key).Nodup) ∧ L'.length ≤ S.length ∧ Hid (Chg (fun k => k = pr) w2 wr)) (fun v11 _ => s.G.length - (intOf v11).toNat)
  case atStart => exact ⟨0, (playE S), wh, ws, Nat.zero_le _, rfl, hid rfl, HR2, HW1, Nat.le_refl _, HKN, hL, hid (Chg.refl _ _)⟩
  case round =>
    obtain ⟨i, L', wh', ws', hi, rfl, HE, HR, HW, hwl, HN, hLl, HG⟩ := hrel
    have HOr := hid (ownsRow_chg HO2.out (fun k hk hlt => HG.out.block k hlt (fun h => by have := (own_lt HO2.out hk).1; omega)))
    have hzz := HG.out.size
    by_cases hlt : i < s.G.length
    · have hi0 : (0 : Int) ≤ (i : Int) := by omega
      have hi1 : (i : Int) < (s.G.length : Int) := by omega
      obtain ⟨k, hk⟩ : ∃ k, s.G[i]? = some k := ⟨_, List.getElem?_eq_getElem hlt⟩
      obtain ⟨g, hag, hBg, hgz, hg1, hg2⟩ := own_loc HOr.out (by omega)
      subst hag
      have P2 := ks_at (Rd.own HOr.out) (Below.refl _ _) hk
      simp only [Nat.zero_add] at P2
      have HST := hid (evP_take ((playE S), wh) hk)
      clear hk
      go_wp2_with (go_at_call 49; refine (r_evict _ pr L' ws' k HR.out HN.out (by omega) (by omega)).mono ?_; rintro r w4 ⟨rfl, hr4, hg4⟩)
      exact ⟨⟨i + 1, dropL k L', evictWh k L' wh', evictWs k L' ws', by omega, by go_num, hid (by rw [HST.out, ← HE.out]; rfl), hid hr4, hid (HW.out.evict k L'), Nat.le_trans (evictWs_le _ _ _) hwl, hid (HN.out.sublist ((List.filter_sublist ..).map _)), Nat.le_trans (dropL_le _ _) hLl, hid (Chg.trans HG.out hg4 (fun _ _ h => h) (fun _ _ h => h))⟩, by simp [intOf]; omega⟩
    · have hjj : s.G.take i = s.G := List.take_of_length_le (by omega)
      rw [hjj, ← HEV.out] at HE
      have hE1 : L' = s.L := (Prod.mk.inj HE.out).1
      have hE2 : wh' = s.wh := (Prod.mk.inj HE.out).2
      subst hE1 hE2
      have hll : s.G.length ≤ 9223372036854775807 := by omega
      have HC3 := hid (HC2.out.chg HG.out (fun k hk h => by have := hk.2; omega))
      have BB3 := hid (BB2.out.trans (HG.out.toBelow BB2.out.size (fun i hi h => by omega)))
      clear hjj
      go_wp2_with fail
      go_loopw [12] (fun v12 wr => ∃ (i : Nat) (xs : List Value), i ≤ s.G.length ∧ v12 = .int .i64 i ∧ Hid (xs.length = s.G.length * 2) ∧ Hid (CAt wr w.heap.size p S.length s.L s.wh) ∧ Hid (RAt wr pr s.L ws') ∧ Hid (wr.ownsRow w1.heap.size 26 2 (.slice a2 s.G.length c2) s.G.length xs) ∧ Hid (Below w.heap.size w wr)) (fun v12 _ => s.G.length - (intOf v12).toNat)
      case atStart => exact ⟨0, _, Nat.zero_le _, rfl, hid (kyc_len s.G), HC3, HR, HOr, BB3⟩
      case round =>
        obtain ⟨i, xs, hi, rfl, HX, HC, HR5, HO, HB⟩ := hrel
        by_cases hlt : i < s.G.length
        · have hi0 : (0 : Int) ≤ (i : Int) := by omega
          have hi1 : (i : Int) < (s.G.length : Int) := by omega
          obtain ⟨g, hag, hBg, hgz, hg1, hg2⟩ := own_loc HO.out (by omega)
          subst hag
          obtain ⟨x0, hx0⟩ : ∃ x, xs[i * 2]? = some x := ⟨_, List.getElem?_eq_getElem (by have := HX.out; omega)⟩
          obtain ⟨x1, hx1⟩ : ∃ x, xs[i * 2 + 1]? = some x := ⟨_, List.getElem?_eq_getElem (by have := HX.out; omega)⟩
          have c0 := (Rd.own HO.out).at _ _ hx0
          have c1 := (Rd.own HO.out).at _ _ hx1
          simp only [Nat.zero_add] at c0 c1
          obtain ⟨cur, hcur⟩ := own_type HO.out rfl
          have hfz := fun i => blk_free hcur i
          have HCU := hid hcur
          have hgl : w1.heap.size ≤ g := (own_lt HO.out rfl).1
          clear hcur hx0 hx1 hBg
          go_wp2
          have o1 := own_setc (own_setc HO.out (i * 2) (.int .i64 (-5))) (i * 2 + 1) (.string { data := #[] })
          have k1 := heap_set HCU.out (i * 2) (.int .i64 (-5))
          have r1 := (HR5.out.setKey (i := i * 2) (.int .i64 (-5)) HCU.out).setKey (i := i * 2 + 1) (.string { data := #[] }) k1
          have ch : Chg (fun k => k = g) wr ((wr.setCell ⟨g, i * 2, none⟩ (.int .i64 (-5))).setCell ⟨g, i * 2 + 1, none⟩ (.string { data := #[] })) := ((Chg.refl (fun k => k = g) wr).setCell ⟨g, i * 2, none⟩ _ (.inl rfl)).setCell ⟨g, i * 2 + 1, none⟩ _ (.inl rfl)
          exact ⟨⟨i + 1, _, by omega, by go_num, hid (by rw [List.length_set, List.length_set]; exact HX.out), hid (HC.out.chg ch (fun k hk h => by have := hk.2; omega)), hid r1, hid o1, hid (HB.out.trans (ch.toBelow HB.out.size (fun k hk h => by omega)))⟩, by simp [intOf]; omega⟩
        · go_wp2_with (first
            | (go_at_call 38; refine (like_walk _ _ _ _ _ s.wh _ ws' none 0 [] HC.out HR5.out HW.out (Rd.nil _) hn80 (by simp) (by omega)).mono ?_; rintro r w5 ⟨rfl, hb5⟩; (have BB5 := hid (HB.out.trans (hb5.mono HB.out.size))); clear hb5)
            | (go_at_call 43; refine (p_awake _).mono ?_; rintro r w6 ⟨rfl, hb6⟩; (have BB6 := hid (BB5.out.trans (hb6.mono BB5.out.size))); clear hb6))
          go_ret
          exact ⟨rfl, BB6.out⟩

end Go.Proofs.Ytmhogjecfgbchaa
