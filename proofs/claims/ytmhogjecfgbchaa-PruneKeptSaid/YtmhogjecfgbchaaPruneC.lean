import Derived.Test.YtmhogjecfgbchaaPruneB
import Derived.Test.YtmhogjecfgbchaaDentY
namespace Go.Proofs.Ytmhogjecfgbchaa
set_option linter.unusedVariables false
set_option linter.unusedSimpArgs false
open Go.RowKit
attribute [local go_sem ↓] Go.wp_at_zero Go.wp_at_succ

theorem trimFrame {w W w' : World} {B p : Nat} (hp : p < w.heap.size) (hb : Below w.heap.size w W) (hg : Chg (TF B p w.heap.size) W w') : Chg (CF B p) w w' :=
  Chg.trans (Chg.below hb) hg (fun _ _ h => h.elim) (fun i hi h => by rcases h with h | h; exact h; omega)
theorem TrimAt.len {w : World} {B p n q : Nat} {s : Ts} (h : TrimAt w B p n q s) : s.L.length ≤ n := h.cat.len

set_option maxHeartbeats 2000000 in
theorem c_trim (w : World) (B p n : Nat) (L : List En) (wh : Int → Bool) (most neg : Int) (h : CAt w B p n L wh) (hn : n * 80 ≤ 140737488351232) :
    Calls Try.prog 42 #[.pointer (some ⟨p, 0, none⟩), .int .i64 most, .int .i64 neg] w fun r w' => ∃ (s : Ts) (a : Option Addr) (c : Nat), r = .returned (.slice a s.G.length c) ∧ s = trimT most neg ⟨L, wh, []⟩ ∧ w'.ownsRow w.heap.size 26 2 (.slice a s.G.length c) s.G.length (kyc s.G) ∧ CAt w' B p n s.L s.wh ∧ s.G.length + s.L.length ≤ n ∧ Chg (CF B p) w w' := by
  have hp := h.lt
  have HT0 := hid (show TrimAt ((w.alloc (.cells #[.pointer (some ⟨p, 0, none⟩)] 23)).alloc (.cells #[.slice none 0 0] 31)) B p n w.heap.size ⟨L, wh, []⟩ from ⟨(h.below (bl1 w (.cells #[.pointer (some ⟨p, 0, none⟩)] 23))).below (bl1 _ (.cells #[.slice none 0 0] 31)), hp, heap_old (heap_new w (.cells #[.pointer (some ⟨p, 0, none⟩)] 23)) (.cells #[.slice none 0 0] 31), ⟨none, 0, by have e := heap_new (w.alloc (.cells #[.pointer (some ⟨p, 0, none⟩)] 23)) (.cells #[.slice none 0 0] 31); rw [World.size_alloc] at e; exact e, World.ownsRow_nil _ _ _ _⟩, by simpa using h.len⟩)
  have HB0 := hid (bl2 w (.cells #[.pointer (some ⟨p, 0, none⟩)] 23) (.cells #[.slice none 0 0] 31))
  obtain ⟨s0, hs0⟩ : ∃ s0 : Ts, s0 = ⟨L, wh, []⟩ := ⟨_, rfl⟩
  rw [← hs0] at HT0 ⊢
  have b1 := blk1 HT0.out.b1
  clear h hs0
  go_enter Try.func42, Try.ntmps42
  go_wp2_with fail
  go_loopw [18] (fun v18 wr => ∃ s : Ts, Hid (TrimAt wr B p n w.heap.size s) ∧ Hid (trN neg s.L.length s = trN neg s0.L.length s0) ∧ Hid (Chg (TF B p w.heap.size) ((w.alloc (.cells #[.pointer (some ⟨p, 0, none⟩)] 23)).alloc (.cells #[.slice none 0 0] 31)) wr)) (fun _ wr => n - glen wr (w.heap.size + 1))
  case atStart => exact ⟨s0, HT0, hid rfl, hid (Chg.refl _ _)⟩
  case round =>
    obtain ⟨s, HT, HE, HG⟩ := hrel
    clear b1
    have b1 := blk1 HT.out.b1
    have hsl := HT.out.len
    have hgl := HT.out.gl
    have hnl := negL_le s.L
    by_cases hc : (negL s.L : Int) > max neg 0
    · obtain ⟨v, hv⟩ := vic_some (L := s.L) (by omega)
      have HV := hid hv
      have HEV := hid (evT_some hv)
      have HST := hid (trN_step HT.out.cat.keys hc hv)
      have hcd : decide ((negL s.L : Int) > max neg 0) = true := decide_eq_true hc
      clear hv hc
      go_wp2_with (first
        | (go_at_call 37; refine (c_negatives _ _ _ _ _ _ HT.out.cat (by omega)).mono ?_; rintro r w3 ⟨rfl, hb3⟩; (have HT3 := hid (HT.out.below hb3)); (have b3 := blk1 HT3.out.b1); (have HB3 := hid hb3); clear hb3 b1)
        | (go_at_call 67; refine (trim_evict _ B p n w.heap.size s true HT3.out hn).mono ?_; rintro r w4 ⟨rfl, ht4, hg4⟩; rw [HV.out]; simp only [Option.isSome_some]; (have HT4 := hid ht4); (have HG4 := hid hg4); clear ht4 hg4))
      have hle : (evT true s).G.length = s.G.length + 1 := by rw [HEV.out]; simp
      have hge := HT4.out.gl
      exact ⟨⟨evT true s, HT4, hid (by rw [← HST.out]; exact HE.out), hid (Chg.trans (Chg.trans HG.out (Chg.below HB3.out) (fun _ _ h => h) (fun _ _ h => h.elim)) HG4.out (fun _ _ h => h) (fun _ _ h => h))⟩, by rw [HT4.out.glen, HT.out.glen]; omega⟩
    · have HC := hid hc
      have hcd : decide ((negL s.L : Int) > max neg 0) = false := decide_eq_false hc
      have HST := hid (trN_stop (s := s) hc)
      clear hc
      rw [HST.out] at HE
      go_wp2_with (go_at_call 37; refine (c_negatives _ _ _ _ _ _ HT.out.cat (by omega)).mono ?_; rintro r w3 ⟨rfl, hb3⟩; (have HT3 := hid (HT.out.below hb3)); (have b3 := blk1 HT3.out.b1); (have HG3 := hid (Chg.trans HG.out (Chg.below hb3) (fun _ _ h => h) (fun _ _ h => h.elim))); clear hb3 b1)
      clear HG HT HST
      obtain ⟨s1, hs1⟩ : ∃ s1, s1 = s := ⟨_, rfl⟩
      clear hnl hsl hgl
      rw [← hs1] at HE HT3
      clear hs1
      have HE1 := hid HE.out
      go_loopw [27] (fun v27 wr => ∃ s : Ts, Hid (TrimAt wr B p n w.heap.size s) ∧ Hid (trM most s.L.length s = trM most s1.L.length s1) ∧ Hid (Chg (TF B p w.heap.size) ((w.alloc (.cells #[.pointer (some ⟨p, 0, none⟩)] 23)).alloc (.cells #[.slice none 0 0] 31)) wr)) (fun _ wr => n - glen wr (w.heap.size + 1))
      case atStart => exact ⟨s1, HT3, hid rfl, HG3⟩
      case round =>
        obtain ⟨s, HT, HE, HG⟩ := hrel
        have b1 := blk1 HT.out.b1
        have hsl := HT.out.len
        have hgl := HT.out.gl
        clear b3
        by_cases hc : (s.L.length : Int) > max most 0
        · cases hv : vicL false s.L with
          | some v =>
            have HV := hid hv
            have HEV := hid (evT_some hv)
            have HST := hid (trM_step HT.out.cat.keys hc hv)
            have hcd : decide ((s.L.length : Int) > max most 0) = true := decide_eq_true hc
            clear hv hc
            go_wp2_with (first
              | (go_at_call 34; refine (c_len _ _ _ _ _ _ HT.out.cat).mono ?_; rintro r w3 ⟨rfl, rfl⟩)
              | (go_at_call 67; refine (trim_evict _ B p n w.heap.size s false HT.out hn).mono ?_; rintro r w4 ⟨rfl, ht4, hg4⟩; rw [HV.out]; simp only [Option.isSome_some]; (have HT4 := hid ht4); (have HG4 := hid hg4); clear ht4 hg4))
            have hle : (evT false s).G.length = s.G.length + 1 := by rw [HEV.out]; simp
            have hge := HT4.out.gl
            exact ⟨⟨evT false s, HT4, hid (by rw [← HST.out]; exact HE.out), hid (Chg.trans HG.out HG4.out (fun _ _ h => h) (fun _ _ h => h))⟩, by rw [HT4.out.glen, HT.out.glen]; omega⟩
          | none =>
            have HV := hid hv
            have HEV := hid (evT_none hv)
            have HST := hid (trM_none (most := most) hv)
            have hcd : decide ((s.L.length : Int) > max most 0) = true := decide_eq_true hc
            clear hv hc
            rw [HST.out] at HE
            go_wp2_with (first
              | (go_at_call 34; refine (c_len _ _ _ _ _ _ HT.out.cat).mono ?_; rintro r w3 ⟨rfl, rfl⟩)
              | (go_at_call 67; refine (trim_evict _ B p n w.heap.size s false HT.out hn).mono ?_; rintro r w4 ⟨rfl, ht4, hg4⟩; rw [HV.out]; simp only [Option.isSome_none]; rw [HEV.out] at ht4; obtain ⟨a4, c4, hb4, ho4⟩ := ht4.b2; (have bg4 := blk1 hb4); (have HC4 := hid ht4.cat); (have HO4 := hid ho4); (have HG4 := hid (Chg.trans HG.out hg4 (fun _ _ h => h) (fun _ _ h => h))); clear ht4 hg4 hb4 ho4))
            go_ret
            exact ⟨s, a4, c4, rfl, by rw [HE.out, HE1.out]; rfl, ownsRow_mono HO4.out (by omega), HC4.out, hgl, trimFrame hp HB0.out HG4.out⟩
        · have HC := hid hc
          have hcd : decide ((s.L.length : Int) > max most 0) = false := decide_eq_false hc
          have HST := hid (trM_stop (s := s) hc)
          clear hc
          rw [HST.out] at HE
          obtain ⟨a4, c4, hb4, ho4⟩ := HT.out.b2
          have bg4 := blk1 hb4
          have HO4 := hid ho4
          clear hb4 ho4
          go_wp2_with (go_at_call 34; refine (c_len _ _ _ _ _ _ HT.out.cat).mono ?_; rintro r w3 ⟨rfl, rfl⟩)
          go_ret
          exact ⟨s, a4, c4, rfl, by rw [HE.out, HE1.out]; rfl, ownsRow_mono HO4.out (by omega), HT.out.cat, hgl, trimFrame hp HB0.out HG.out⟩

end Go.Proofs.Ytmhogjecfgbchaa
