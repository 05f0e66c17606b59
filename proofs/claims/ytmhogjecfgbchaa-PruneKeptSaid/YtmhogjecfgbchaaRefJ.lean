import Derived.Test.YtmhogjecfgbchaaRefI
namespace Go.Proofs.Ytmhogjecfgbchaa
set_option linter.unusedVariables false
set_option linter.unusedSimpArgs false
open Go.RowKit
attribute [local go_sem ↓] Go.wp_at_zero Go.wp_at_succ

def slLen (v : Value) : Nat := match v with | .slice _ n _ => n | _ => 0

/-- the document's Trim at work -/
structure RTrim (w0 w : World) (p : Nat) (ws0 : List Int) (N : Nat) (s : Ts) (a : Option Addr) (c : Nat) : Prop where
  ex : ∃ ws, RAt w p s.L ws ∧ WhR s.wh ws ∧ ws.length ≤ ws0.length
  own : w.ownsRow w0.heap.size 26 2 (.slice a s.G.length c) s.G.length (kyc s.G)
  chg : Chg (fun k => k = p) w0 w
  gl : s.G.length + s.L.length ≤ N
  nod : (s.L.map En.key).Nodup
theorem RTrim.below {w0 w w' : World} {p N : Nat} {ws0 : List Int} {s : Ts} {a : Option Addr} {c : Nat} (h : RTrim w0 w p ws0 N s a c) (hb : Below w.heap.size w w') : RTrim w0 w' p ws0 N s a c := by
  obtain ⟨ws, h1, h2, h3⟩ := h.ex
  exact ⟨⟨ws, h1.below hb, h2, h3⟩, own_below h.own hb, Chg.trans h.chg (Chg.below hb) (fun _ _ h => h) (fun _ _ h => h.elim), h.gl, h.nod⟩

set_option maxRecDepth 100000 in
set_option maxHeartbeats 4000000 in
theorem r_trim (w : World) (p : Nat) (L : List En) (wh : Int → Bool) (ws0 : List Int) (most neg : Int) (h : RAt w p L ws0) (hW : WhR wh ws0) (hk : (L.map En.key).Nodup) (hn : (L.length + 1) * 72 ≤ 140737488351232) (hnw : ws0.length * 8 ≤ 140737488351232) :
    Calls Try.prog 48 #[.pointer (some ⟨p, 0, none⟩), .int .i64 most, .int .i64 neg] w fun r w' => ∃ (s : Ts) (a : Option Addr) (c : Nat), r = .returned (.slice a s.G.length c) ∧ s = trimT most neg ⟨L, wh, []⟩ ∧ RTrim w w' p ws0 L.length s a c := by
  obtain ⟨i2, hi2, p2, q2, r2⟩ := info_parts infoKy
  have HI2 := hid hi2
  have hp := h.lt
  obtain ⟨s0, hs0⟩ : ∃ s0 : Ts, s0 = ⟨L, wh, []⟩ := ⟨_, rfl⟩
  have HT0 := hid (show RTrim w w p ws0 L.length s0 none 0 by rw [hs0]; exact ⟨⟨ws0, h, hW, Nat.le_refl _⟩, World.ownsRow_nil _ _ _ _, Chg.refl _ _, by simp, hk⟩)
  have HG0 := hid (show s0.G.length = 0 by rw [hs0]; rfl)
  rw [← hs0]
  clear h hW hk hi2 hs0
  go_enter Try.func48, Try.ntmps48
  go_wp2_with fail
  go_loopw [7] (fun v7 wr => ∃ (s : Ts) (a5 : Option Addr) (c5 : Nat), v7 = .slice a5 s.G.length c5 ∧ Hid (RTrim w wr p ws0 L.length s a5 c5) ∧ Hid (trN neg s.L.length s = trN neg s0.L.length s0)) (fun v7 _ => L.length - slLen v7)
  case atStart => exact ⟨s0, none, 0, by rw [HG0.out], HT0, hid rfl⟩
  case round =>
    obtain ⟨s, a5, c5, rfl, HT, HE⟩ := hrel
    obtain ⟨ws, HR, HW, hwl⟩ : ∃ ws, Hid (RAt wr p s.L ws) ∧ Hid (WhR s.wh ws) ∧ ws.length ≤ ws0.length := HT.out.ex
    have hgl := HT.out.gl
    have hnl := negL_le s.L
    by_cases hc : (negL s.L : Int) > max neg 0
    · obtain ⟨v, hv⟩ := vic_some (L := s.L) (by omega)
      have HV := hid hv
      have HVK := hid (show vicK true s.L = v.key by simp [vicK, hv])
      have HEV := hid (evT_some hv)
      have HST := hid (trN_step HT.out.nod hc hv)
      have hdr := drop_len HT.out.nod (vic_mem hv)
      have d1 : decide ((negL s.L : Int) > 0) = true := decide_eq_true (by omega)
      have d2 : decide (0 < negL s.L) = true := decide_eq_true (by omega)
      have d3 : decide ((negL s.L : Int) > neg) = true := decide_eq_true (by omega)
      clear hc hv
      go_wp2_with (first
        | (go_at_call 61; refine (r_negatives _ p s.L ws HR.out (by omega)).mono ?_; rintro r wx ⟨rfl, rfl⟩)
        | (go_at_call 46; refine (r_victim _ p s.L ws true HR.out (by omega)).mono ?_; rintro r w1 ⟨rfl, hb1⟩; rw [HVK.out, HV.out]; simp only [Option.isSome_some]; (have HT1 := hid (HT.out.below (hb1.alloc hb1.size (.cells #[.int .i64 v.key.dir, .string v.key.name] 26)))); (have HR1 := hid (HR.out.below (hb1.alloc hb1.size (.cells #[.int .i64 v.key.dir, .string v.key.name] 26)))); (have KB1 := hid (heap_new w1 (.cells #[.int .i64 v.key.dir, .string v.key.name] 26))); (have b_KB1 := blk2 KB1.out); (have hw1 := hb1.size); clear hb1)
        | (go_at_call 49; refine (r_evict _ p s.L ws v.key HR1.out HT.out.nod (by omega) (by omega)).mono ?_; rintro r w2 ⟨rfl, hr2, hg2⟩; (have HR2 := hid hr2); (have hpw := HR1.out.lt); (have hpw0 := HR.out.lt); (have b_KB2 := blk2 (heap_chg hg2 KB1.out (fun e => by omega))); (have HO2 := hid (ownsRow_chg HT1.out.own (fun k hk hlt => hg2.block k hlt (fun e => by have := (own_lt HT1.out.own hk).1; omega)))); (have HG2 := hid (Chg.trans HT1.out.chg hg2 (fun _ _ h => h) (fun _ _ h => h))); (have hw2 := HG2.out.size); clear hr2 hg2)
        | (at_builtin; refine wpList_append_rd rfl _ _ 31 rfl w.heap.size 26 i2 _ 2 24 Try.underlying31 HI2.out p2 q2 r2 rfl (by decide) (.slice a5 s.G.length c5) s.G.length (kyc s.G) rfl (own_alloc HO2.out _) (.slice (some ⟨w2.heap.size, 0, none⟩) 1 1) 1 [.int .i64 v.key.dir, .string v.key.name] rfl (rd_blk (heap_new w2 (.cells #[.int .i64 v.key.dir, .string v.key.name] 26)) (by unfold maxLen; omega)) rfl (Ky.one v.key) (by unfold maxLen; omega) (by omega) (by simp; omega) ?_; intro a6 c6 w6 hown6 hgrow6 hat6; (have HO6 := hid hown6); (have HGR := hid hgrow6); clear hown6 hgrow6 hat6)
        )
      have hch6 : Chg (fun k => k = p) w w6 := (HG2.out.alloc (.cells #[.int .i64 v.key.dir, .string v.key.name] 26)).grown HGR.out (fun k hk => .inr (own_lt HO2.out hk).1)
      have hcw6 : Chg (fun k => w.heap.size ≤ k) w2 w6 := ((Chg.refl _ w2).alloc (.cells #[.int .i64 v.key.dir, .string v.key.name] 26)).grown HGR.out (fun k hk => .inl (own_lt HO2.out hk).1)
      have hR6 : RAt w6 p (dropL v.key s.L) (evictWs v.key s.L ws) := by
        obtain ⟨aL, cL, aW, cW, K, O, Wd⟩ := (HR2.out.below (bl1 w2 (.cells #[.int .i64 v.key.dir, .string v.key.name] 26))).ex
        exact ⟨aL, cL, aW, cW, heap_grown HGR.out K (fun e => by have := (own_lt HO2.out e.symm).1; omega), own_grown O HGR.out (fun k hk e => own_ne2 O (own_alloc HO2.out _) (by decide) k hk e), own_grown Wd HGR.out (fun k hk e => own_ne2 Wd (own_alloc HO2.out _) (by decide) k hk e)⟩
      have HT6 : RTrim w w6 p ws0 L.length (evT true s) a6 c6 := by
        rw [HEV.out]
        refine ⟨⟨_, hR6, HW.out.evict v.key s.L, Nat.le_trans (evictWs_le _ _ _) hwl⟩, ?_, hch6, ?_, HT.out.nod.sublist ((List.filter_sublist ..).map _)⟩
        · show World.ownsRow _ _ _ _ (.slice a6 (s.G ++ [v.key]).length c6) (s.G ++ [v.key]).length (kyc (s.G ++ [v.key]))
          rw [kyc_append, List.length_append]; exact HO6.out
        · show (s.G ++ [v.key]).length + (dropL v.key s.L).length ≤ L.length
          rw [List.length_append, List.length_singleton]; omega
      have hle : (evT true s).G.length = s.G.length + 1 := by rw [HEV.out]; simp
      exact ⟨⟨evT true s, a6, c6, by rw [HEV.out]; simp [List.length_append], hid HT6, hid (by rw [← HST.out]; exact HE.out)⟩, by simp [slLen]; omega⟩
    · have HST := hid (trN_stop (s := s) hc)
      have HE1 := hid (show s = trN neg s0.L.length s0 by rw [← HE.out, HST.out])
      by_cases hc0 : 0 < negL s.L
      all_goals
        have d3 : decide ((negL s.L : Int) > neg) = false ∨ ¬ 0 < negL s.L := by by_cases h : (negL s.L : Int) > neg; right; omega; left; exact decide_eq_false h
      · have d1 : decide ((negL s.L : Int) > 0) = true := decide_eq_true (by omega)
        have d2 : decide (0 < negL s.L) = true := decide_eq_true (by omega)
        have d4 : decide ((negL s.L : Int) > neg) = false := d3.resolve_right (by omega)
        clear hc hc0 d3
        go_wp2_with (go_at_call 61; refine (r_negatives _ p s.L ws HR.out (by omega)).mono ?_; rintro r wx ⟨rfl, rfl⟩)
        clear HST HE
        obtain ⟨s1, hs1⟩ : ∃ s1, s1 = s := ⟨_, rfl⟩
        have HS1 := hid hs1
        have HT1 := HT
        rw [← hs1] at HE1
        clear hs1
        go_loopw [7] (fun v7 wr => ∃ (s : Ts) (a5 : Option Addr) (c5 : Nat), v7 = .slice a5 s.G.length c5 ∧ Hid (RTrim w wr p ws0 L.length s a5 c5) ∧ Hid (trM most s.L.length s = trM most s1.L.length s1)) (fun v7 _ => L.length - slLen v7)
        case atStart => exact ⟨s, a5, c5, rfl, HT1, hid (by rw [HS1.out])⟩
        case round =>
          clear HR HW hgl hnl hwl HT
          obtain ⟨s, a5, c5, rfl, HT, HE⟩ := hrel
          obtain ⟨ws, HR, HW, hwl⟩ : ∃ ws, Hid (RAt wr p s.L ws) ∧ Hid (WhR s.wh ws) ∧ ws.length ≤ ws0.length := HT.out.ex
          have hgl := HT.out.gl
          obtain ⟨aL, cL, aW, cW, K0, O0, Wd0⟩ := HR.out.ex
          have b0 := blk2 K0
          clear K0 O0 Wd0
          by_cases hc : (s.L.length : Int) > max most 0
          · have d1 : decide ((s.L.length : Int) > 0) = true := decide_eq_true (by omega)
            have d2 : decide (0 < s.L.length) = true := decide_eq_true (by omega)
            have d3 : decide ((s.L.length : Int) > most) = true := decide_eq_true (by omega)
            cases hv : vicL false s.L with
            | some v =>
              have HV := hid hv
              have HVK := hid (show vicK false s.L = v.key by simp [vicK, hv])
              have HEV := hid (evT_some hv)
              have HST := hid (trM_step HT.out.nod hc hv)
              have hdr := drop_len HT.out.nod (vic_mem hv)
              clear hc hv
              go_wp2_with (first
                | (go_at_call 46; refine (r_victim _ p s.L ws false HR.out (by omega)).mono ?_; rintro r w1 ⟨rfl, hb1⟩; rw [HVK.out, HV.out]; simp only [Option.isSome_some]; (have HT1 := hid (HT.out.below (hb1.alloc hb1.size (.cells #[.int .i64 v.key.dir, .string v.key.name] 26)))); (have HR1 := hid (HR.out.below (hb1.alloc hb1.size (.cells #[.int .i64 v.key.dir, .string v.key.name] 26)))); (have KB1 := hid (heap_new w1 (.cells #[.int .i64 v.key.dir, .string v.key.name] 26))); (have b_KB1 := blk2 KB1.out); (have hw1 := hb1.size); clear hb1)
                | (go_at_call 49; refine (r_evict _ p s.L ws v.key HR1.out HT.out.nod (by omega) (by omega)).mono ?_; rintro r w2 ⟨rfl, hr2, hg2⟩; (have HR2 := hid hr2); (have hpw := HR1.out.lt); (have hpw0 := HR.out.lt); (have b_KB2 := blk2 (heap_chg hg2 KB1.out (fun e => by omega))); (have HO2 := hid (ownsRow_chg HT1.out.own (fun k hk hlt => hg2.block k hlt (fun e => by have := (own_lt HT1.out.own hk).1; omega)))); (have HG2 := hid (Chg.trans HT1.out.chg hg2 (fun _ _ h => h) (fun _ _ h => h))); (have hw2 := HG2.out.size); clear hr2 hg2)
                | (at_builtin; refine wpList_append_rd rfl _ _ 31 rfl w.heap.size 26 i2 _ 2 24 Try.underlying31 HI2.out p2 q2 r2 rfl (by decide) (.slice a5 s.G.length c5) s.G.length (kyc s.G) rfl (own_alloc HO2.out _) (.slice (some ⟨w2.heap.size, 0, none⟩) 1 1) 1 [.int .i64 v.key.dir, .string v.key.name] rfl (rd_blk (heap_new w2 (.cells #[.int .i64 v.key.dir, .string v.key.name] 26)) (by unfold maxLen; omega)) rfl (Ky.one v.key) (by unfold maxLen; omega) (by omega) (by simp; omega) ?_; intro a6 c6 w6 hown6 hgrow6 hat6; (have HO6 := hid hown6); (have HGR := hid hgrow6); clear hown6 hgrow6 hat6)
                )
              have hch6 : Chg (fun k => k = p) w w6 := (HG2.out.alloc (.cells #[.int .i64 v.key.dir, .string v.key.name] 26)).grown HGR.out (fun k hk => .inr (own_lt HO2.out hk).1)
              have hcw6 : Chg (fun k => w.heap.size ≤ k) w2 w6 := ((Chg.refl _ w2).alloc (.cells #[.int .i64 v.key.dir, .string v.key.name] 26)).grown HGR.out (fun k hk => .inl (own_lt HO2.out hk).1)
              have hR6 : RAt w6 p (dropL v.key s.L) (evictWs v.key s.L ws) := by
                obtain ⟨aL, cL, aW, cW, K, O, Wd⟩ := (HR2.out.below (bl1 w2 (.cells #[.int .i64 v.key.dir, .string v.key.name] 26))).ex
                exact ⟨aL, cL, aW, cW, heap_grown HGR.out K (fun e => by have := (own_lt HO2.out e.symm).1; omega), own_grown O HGR.out (fun k hk e => own_ne2 O (own_alloc HO2.out _) (by decide) k hk e), own_grown Wd HGR.out (fun k hk e => own_ne2 Wd (own_alloc HO2.out _) (by decide) k hk e)⟩
              have HT6 : RTrim w w6 p ws0 L.length (evT false s) a6 c6 := by
                rw [HEV.out]
                refine ⟨⟨_, hR6, HW.out.evict v.key s.L, Nat.le_trans (evictWs_le _ _ _) hwl⟩, ?_, hch6, ?_, HT.out.nod.sublist ((List.filter_sublist ..).map _)⟩
                · show World.ownsRow _ _ _ _ (.slice a6 (s.G ++ [v.key]).length c6) (s.G ++ [v.key]).length (kyc (s.G ++ [v.key]))
                  rw [kyc_append, List.length_append]; exact HO6.out
                · show (s.G ++ [v.key]).length + (dropL v.key s.L).length ≤ L.length
                  rw [List.length_append, List.length_singleton]; omega
              have hle : (evT false s).G.length = s.G.length + 1 := by rw [HEV.out]; simp
              exact ⟨⟨evT false s, a6, c6, by rw [HEV.out]; simp [List.length_append], hid HT6, hid (by rw [← HST.out]; exact HE.out)⟩, by simp [slLen]; omega⟩
            | none =>
              have HV := hid hv
              have HVK := hid (show vicK false s.L = ⟨0, ByteArray.empty⟩ by simp [vicK, hv])
              have HST := hid (trM_none (most := most) hv)
              clear hc hv
              rw [HST.out] at HE
              go_wp2_with (go_at_call 46; refine (r_victim _ p s.L ws false HR.out (by omega)).mono ?_; rintro r w1 ⟨rfl, hb1⟩; rw [HVK.out, HV.out]; simp only [Option.isSome_none]; (have HT1 := hid ((HT.out.below hb1).below (bl1 w1 (.cells #[.int .i64 0, .string { data := #[] }] 26)))); clear hb1)
              go_ret
              exact ⟨s, a5, c5, rfl, by rw [HE.out, HE1.out]; rfl, HT1.out⟩
          · have HST := hid (trM_stop (s := s) hc)
            rw [HST.out] at HE
            by_cases hc0 : 0 < s.L.length
            · have d1 : decide ((s.L.length : Int) > 0) = true := decide_eq_true (by omega)
              have d2 : decide (0 < s.L.length) = true := decide_eq_true (by omega)
              have d3 : decide ((s.L.length : Int) > most) = false := decide_eq_false (by omega)
              clear hc hc0
              go_wp2
              go_ret
              exact ⟨s, a5, c5, rfl, by rw [HE.out, HE1.out]; rfl, HT.out⟩
            · have d1 : decide ((s.L.length : Int) > 0) = false := decide_eq_false (by omega)
              have d2 : decide (0 < s.L.length) = false := decide_eq_false (by omega)
              clear hc hc0
              go_wp2
              go_ret
              exact ⟨s, a5, c5, rfl, by rw [HE.out, HE1.out]; rfl, HT.out⟩
      · have d1 : decide ((negL s.L : Int) > 0) = false := decide_eq_false (by omega)
        have d2 : decide (0 < negL s.L) = false := decide_eq_false (by omega)
        clear hc hc0 d3
        go_wp2_with (go_at_call 61; refine (r_negatives _ p s.L ws HR.out (by omega)).mono ?_; rintro r wx ⟨rfl, rfl⟩)
        clear HST HE
        obtain ⟨s1, hs1⟩ : ∃ s1, s1 = s := ⟨_, rfl⟩
        have HS1 := hid hs1
        have HT1 := HT
        rw [← hs1] at HE1
        clear hs1
        go_loopw [7] (fun v7 wr => ∃ (s : Ts) (a5 : Option Addr) (c5 : Nat), v7 = .slice a5 s.G.length c5 ∧ Hid (RTrim w wr p ws0 L.length s a5 c5) ∧ Hid (trM most s.L.length s = trM most s1.L.length s1)) (fun v7 _ => L.length - slLen v7)
        case atStart => exact ⟨s, a5, c5, rfl, HT1, hid (by rw [HS1.out])⟩
        case round =>
          clear HR HW hgl hnl hwl HT
          obtain ⟨s, a5, c5, rfl, HT, HE⟩ := hrel
          obtain ⟨ws, HR, HW, hwl⟩ : ∃ ws, Hid (RAt wr p s.L ws) ∧ Hid (WhR s.wh ws) ∧ ws.length ≤ ws0.length := HT.out.ex
          have hgl := HT.out.gl
          obtain ⟨aL, cL, aW, cW, K0, O0, Wd0⟩ := HR.out.ex
          have b0 := blk2 K0
          clear K0 O0 Wd0
          by_cases hc : (s.L.length : Int) > max most 0
          · have d1 : decide ((s.L.length : Int) > 0) = true := decide_eq_true (by omega)
            have d2 : decide (0 < s.L.length) = true := decide_eq_true (by omega)
            have d3 : decide ((s.L.length : Int) > most) = true := decide_eq_true (by omega)
            cases hv : vicL false s.L with
            | some v =>
              have HV := hid hv
              have HVK := hid (show vicK false s.L = v.key by simp [vicK, hv])
              have HEV := hid (evT_some hv)
              have HST := hid (trM_step HT.out.nod hc hv)
              have hdr := drop_len HT.out.nod (vic_mem hv)
              clear hc hv
              go_wp2_with (first
                | (go_at_call 46; refine (r_victim _ p s.L ws false HR.out (by omega)).mono ?_; rintro r w1 ⟨rfl, hb1⟩; rw [HVK.out, HV.out]; simp only [Option.isSome_some]; (have HT1 := hid (HT.out.below (hb1.alloc hb1.size (.cells #[.int .i64 v.key.dir, .string v.key.name] 26)))); (have HR1 := hid (HR.out.below (hb1.alloc hb1.size (.cells #[.int .i64 v.key.dir, .string v.key.name] 26)))); (have KB1 := hid (heap_new w1 (.cells #[.int .i64 v.key.dir, .string v.key.name] 26))); (have b_KB1 := blk2 KB1.out); (have hw1 := hb1.size); clear hb1)
                | (go_at_call 49; refine (r_evict _ p s.L ws v.key HR1.out HT.out.nod (by omega) (by omega)).mono ?_; rintro r w2 ⟨rfl, hr2, hg2⟩; (have HR2 := hid hr2); (have hpw := HR1.out.lt); (have hpw0 := HR.out.lt); (have b_KB2 := blk2 (heap_chg hg2 KB1.out (fun e => by omega))); (have HO2 := hid (ownsRow_chg HT1.out.own (fun k hk hlt => hg2.block k hlt (fun e => by have := (own_lt HT1.out.own hk).1; omega)))); (have HG2 := hid (Chg.trans HT1.out.chg hg2 (fun _ _ h => h) (fun _ _ h => h))); (have hw2 := HG2.out.size); clear hr2 hg2)
                | (at_builtin; refine wpList_append_rd rfl _ _ 31 rfl w.heap.size 26 i2 _ 2 24 Try.underlying31 HI2.out p2 q2 r2 rfl (by decide) (.slice a5 s.G.length c5) s.G.length (kyc s.G) rfl (own_alloc HO2.out _) (.slice (some ⟨w2.heap.size, 0, none⟩) 1 1) 1 [.int .i64 v.key.dir, .string v.key.name] rfl (rd_blk (heap_new w2 (.cells #[.int .i64 v.key.dir, .string v.key.name] 26)) (by unfold maxLen; omega)) rfl (Ky.one v.key) (by unfold maxLen; omega) (by omega) (by simp; omega) ?_; intro a6 c6 w6 hown6 hgrow6 hat6; (have HO6 := hid hown6); (have HGR := hid hgrow6); clear hown6 hgrow6 hat6)
                )
              have hch6 : Chg (fun k => k = p) w w6 := (HG2.out.alloc (.cells #[.int .i64 v.key.dir, .string v.key.name] 26)).grown HGR.out (fun k hk => .inr (own_lt HO2.out hk).1)
              have hcw6 : Chg (fun k => w.heap.size ≤ k) w2 w6 := ((Chg.refl _ w2).alloc (.cells #[.int .i64 v.key.dir, .string v.key.name] 26)).grown HGR.out (fun k hk => .inl (own_lt HO2.out hk).1)
              have hR6 : RAt w6 p (dropL v.key s.L) (evictWs v.key s.L ws) := by
                obtain ⟨aL, cL, aW, cW, K, O, Wd⟩ := (HR2.out.below (bl1 w2 (.cells #[.int .i64 v.key.dir, .string v.key.name] 26))).ex
                exact ⟨aL, cL, aW, cW, heap_grown HGR.out K (fun e => by have := (own_lt HO2.out e.symm).1; omega), own_grown O HGR.out (fun k hk e => own_ne2 O (own_alloc HO2.out _) (by decide) k hk e), own_grown Wd HGR.out (fun k hk e => own_ne2 Wd (own_alloc HO2.out _) (by decide) k hk e)⟩
              have HT6 : RTrim w w6 p ws0 L.length (evT false s) a6 c6 := by
                rw [HEV.out]
                refine ⟨⟨_, hR6, HW.out.evict v.key s.L, Nat.le_trans (evictWs_le _ _ _) hwl⟩, ?_, hch6, ?_, HT.out.nod.sublist ((List.filter_sublist ..).map _)⟩
                · show World.ownsRow _ _ _ _ (.slice a6 (s.G ++ [v.key]).length c6) (s.G ++ [v.key]).length (kyc (s.G ++ [v.key]))
                  rw [kyc_append, List.length_append]; exact HO6.out
                · show (s.G ++ [v.key]).length + (dropL v.key s.L).length ≤ L.length
                  rw [List.length_append, List.length_singleton]; omega
              have hle : (evT false s).G.length = s.G.length + 1 := by rw [HEV.out]; simp
              exact ⟨⟨evT false s, a6, c6, by rw [HEV.out]; simp [List.length_append], hid HT6, hid (by rw [← HST.out]; exact HE.out)⟩, by simp [slLen]; omega⟩
            | none =>
              have HV := hid hv
              have HVK := hid (show vicK false s.L = ⟨0, ByteArray.empty⟩ by simp [vicK, hv])
              have HST := hid (trM_none (most := most) hv)
              clear hc hv
              rw [HST.out] at HE
              go_wp2_with (go_at_call 46; refine (r_victim _ p s.L ws false HR.out (by omega)).mono ?_; rintro r w1 ⟨rfl, hb1⟩; rw [HVK.out, HV.out]; simp only [Option.isSome_none]; (have HT1 := hid ((HT.out.below hb1).below (bl1 w1 (.cells #[.int .i64 0, .string { data := #[] }] 26)))); clear hb1)
              go_ret
              exact ⟨s, a5, c5, rfl, by rw [HE.out, HE1.out]; rfl, HT1.out⟩
          · have HST := hid (trM_stop (s := s) hc)
            rw [HST.out] at HE
            by_cases hc0 : 0 < s.L.length
            · have d1 : decide ((s.L.length : Int) > 0) = true := decide_eq_true (by omega)
              have d2 : decide (0 < s.L.length) = true := decide_eq_true (by omega)
              have d3 : decide ((s.L.length : Int) > most) = false := decide_eq_false (by omega)
              clear hc hc0
              go_wp2
              go_ret
              exact ⟨s, a5, c5, rfl, by rw [HE.out, HE1.out]; rfl, HT.out⟩
            · have d1 : decide ((s.L.length : Int) > 0) = false := decide_eq_false (by omega)
              have d2 : decide (0 < s.L.length) = false := decide_eq_false (by omega)
              clear hc hc0
              go_wp2
              go_ret
              exact ⟨s, a5, c5, rfl, by rw [HE.out, HE1.out]; rfl, HT.out⟩

end Go.Proofs.Ytmhogjecfgbchaa
