import Derived.Test.YtdolaiejkobaiaaBagO
import Derived.Deep.RegionHeld3
import Derived.Deep.DeepCutAuto
import Derived.Deep.CutBlock
namespace Go.Proofs.Ytdolaiejkobaiaa
set_option linter.unusedVariables false
set_option linter.unusedSimpArgs false
open Go.RowKit
attribute [local go_sem ↓] Go.wp_at_zero Go.wp_at_succ

set_option maxRecDepth 100000 in
set_option maxHeartbeats 4000000 in
theorem bagPlays_walk (limit : Int) (sa : Option Addr) (sc : Nat) (S : List Sop) (w : World) (hS : ScrAt w (.slice sa S.length sc) S) (hz : S.length * 48 ≤ 140737488351232) (hbz : ∀ x ∈ S, x.bs.length ≤ 140737488351232) :
    Calls Try.prog 5 #[.int .i64 limit, .slice sa S.length sc] w fun e w' => e = .returned (.bool true) ∧ Below w.heap.size w w' := by
  by_cases hlim : limit < 1 ∨ 64 < limit
  · have HL := hid hlim
    clear hlim
    go_enter Try.func5, Try.ntmps5
    go_wp2_with (first
      | (go_at_call 8; refine (bag_new_no _ limit HL.out).mono ?_; rintro e w1 ⟨rfl, rfl⟩)
      | (go_at_call 19; refine (rb_new_no _ limit HL.out).mono ?_; rintro e w1 ⟨rfl, rfl⟩)
      | (go_at_call 9; refine (bag_awake _).mono ?_; rintro e w1 ⟨rfl, hb1⟩))
    go_ret
    exact ⟨rfl, hb1⟩
  · have h1 : 1 ≤ limit := by omega
    have h2 : limit ≤ 64 := by omega
    have HS := hid hS
    have HZ := hid hbz
    have hn : S.length ≤ 9223372036854775807 := by omega
    clear hlim hS hbz
    go_enter Try.func5, Try.ntmps5
    go_wp2_with (first
      | (go_at_call 8; refine (bag_new_yes _ limit h1 h2).mono ?_; rintro e w1 ⟨rfl, hbag, hb1⟩)
      | (go_at_call 19; refine (rb_new_yes _ limit h1 h2).mono ?_; rintro e w2 ⟨rfl, hrb, hb2⟩))
    have hst0 : StP w w2 w.heap.size w.heap.size w1.heap.size limit none 0 [] none 0 [] :=
      ⟨hbag.below hb2, ⟨hb1.size, hrb.hp, World.ownsRow_nil _ _ _ _, by simp⟩, by simp, hb1.trans (hb2.mono hb1.size), Nat.le_trans hb1.size hb2.size⟩
    have ST0 := hid hst0
    have hp1 := blk_lt hbag.hp
    obtain ⟨Q, hQ⟩ : ∃ Q, Q = w1.heap.size := ⟨_, rfl⟩
    rw [← hQ] at ST0 ⊢
    clear hbag hrb hb1 hb2 hst0 hQ
    go_loopw [9] (fun v9 wr => ∃ (k : Nat) (a : Option Addr) (c : Nat) (L : List Lt) (a2 : Option Addr) (c2 : Nat) (M : List Lt), k ≤ S.length ∧ v9 = .int .i64 k ∧
      (L.length : Int) ≤ limit ∧ StP w wr w.heap.size w.heap.size Q limit a c L a2 c2 M ∧ Hid (cons_ L = cons_ M) ∧ Hid (∀ x ∈ L, x.bs.length ≤ 140737488351232)) (fun v9 _ => S.length - (intOf v9).toNat)
    case atStart => exact ⟨0, none, 0, [], none, 0, [], Nat.zero_le _, rfl, by simp; omega, ST0.out, hid rfl, hid (by simp)⟩
    case round =>
      obtain ⟨k, a, c, L, a2, c2, M, hk, rfl, g1, hst, HC, HLB⟩ := hrel
      have ST := hid hst
      clear hst
      by_cases hlt : k < S.length
      · obtain ⟨x, hx⟩ : ∃ x, S[k]? = some x := ⟨_, List.getElem?_eq_getElem hlt⟩
        obtain ⟨b, off, rfl⟩ := HS.out.loc (by omega)
        have hxr := HS.out.each x (List.mem_of_getElem? hx)
        have hxl := HZ.out x (List.mem_of_getElem? hx)
        obtain ⟨f0, f1, f2, f3⟩ := scr_at HS.out ST.out.below hx
        have HX := hid hx
        have hk0 : (0 : Int) ≤ (k : Int) := by omega
        have hk1 : (k : Int) < (S.length : Int) := by omega
        clear hx hxr
        have h4 : x.kind % 4 = 0 ∨ x.kind % 4 = 1 ∨ x.kind % 4 = 2 ∨ x.kind % 4 = 3 := by omega
        have HQ := hid h4
        clear h4
        go_upto_block 2 with (first
          | (go_at_call 10; refine (place_pos _ 4 _ (by omega) (by omega)).mono ?_; rintro e wx ⟨rfl, rfl⟩))
        go_cut [11] (fun v11 wx => ∃ (a : Option Addr) (c : Nat) (L : List Lt) (a2 : Option Addr) (c2 : Nat) (M : List Lt), v11 = .bool true ∧
          (L.length : Int) ≤ limit ∧ StP w wx w.heap.size w.heap.size Q limit a c L a2 c2 M ∧ Hid (cons_ L = cons_ M) ∧ Hid (∀ x ∈ L, x.bs.length ≤ 140737488351232))
        case first =>
          have ST1 := hid (ST.out.alloc (bl1 wr (.cells #[.int .i64 x.kind, .int .i64 x.at_, .int .i64 x.tw, .slice x.a x.bs.length x.c] 31)))
          have BX := hid (heap_new wr (.cells #[.int .i64 x.kind, .int .i64 x.at_, .int .i64 x.tw, .slice x.a x.bs.length x.c] 31))
          have hRx : ∀ W, Below w.heap.size w W → Rd W (.slice x.a x.bs.length x.c) x.bs.length (bys x.bs) := fun W hW => (HS.out.each x (List.mem_of_getElem? HX.out)).below hW
          have RX := hid hRx
          have RX1 := hid (hRx _ ST1.out.below)
          have hlm := cons_len HC.out
          have HLM := hid hlm
          clear hRx hlm
          rcases HQ.out with hq | hq | hq | hq
          · have hb0 : (x.kind % 4 == 0) = true := by simp [hq]
            clear hq
            by_cases hfull : limit ≤ (L.length : Int)
            · have hfull2 : limit ≤ (M.length : Int) := by rw [← HLM.out]; exact hfull
              go_wp2_with fail
              go_region_held3 (fun w' => w'.cell? ⟨wr.heap.size, 0, none⟩ = some (.int .i64 x.kind) ∧ w'.cell? ⟨wr.heap.size, 1, none⟩ = some (.int .i64 x.at_) ∧ w'.cell? ⟨wr.heap.size, 2, none⟩ = some (.int .i64 x.tw) ∧ w'.cell? ⟨wr.heap.size, 3, none⟩ = some (.slice x.a x.bs.length x.c))
                (first | go_keep | exact ⟨by assumption, by assumption, by assumption, by assumption⟩)
                (first
                  | (go_at_call 12; (fail_if_success (have hxx := ST2)); refine (letter_any _ _ _ _ x.bs _ (RX1.out.drew) hxl).mono ?_; rintro e w2 ⟨a', c', rfl, hown, hb2⟩; (have ST2 := hid (ST1.out.drew.alloc hb2)); (have K2 := hid (heap_below hb2 BX.out (blk_lt BX.out))); (have b2 := blk4 K2.out); (have RX2 := hid (RX1.out.drew.below hb2)); (have RO := hid (Rd.own hown)); clear hown hb2)
                  | (go_at_call 11; refine (bag_post_full _ w.heap.size _ limit a c L _ _ ST2.out.bag hfull).mono ?_; rintro e w3 ⟨rfl, hb3⟩; (have ST3 := hid (ST2.out.alloc hb3)); (have K3 := hid (heap_below hb3 K2.out (blk_lt K2.out))); (have b3 := blk4 K3.out); (have RX3 := hid (RX2.out.below hb3)); clear hb3)
                  | (go_at_call 12; (fail_if_success (have hxx := ST4)); refine (letter_any _ _ _ _ x.bs _ RX3.out hxl).mono ?_; rintro e w4 ⟨a4, c4, rfl, hown4, hb4⟩; (have ST4 := hid (ST3.out.alloc hb4)); (have K4 := hid (heap_below hb4 K3.out (blk_lt K3.out))); (have b4 := blk4 K4.out); (have RO4 := hid (Rd.own hown4)); clear hown4 hb4)
                  | (go_at_call 20; refine (rb_post_full _ w.heap.size _ limit a2 c2 M _ _ ST4.out.rb hfull2).mono ?_; rintro e w5 ⟨rfl, hb5⟩; (have ST5 := hid (ST4.out.alloc hb5)); (have K5 := hid (heap_below hb5 K4.out (blk_lt K4.out))); (have b5 := blk4 K5.out); clear hb5)
                )
              go_wp2_with fail
              go_meet
              case rel => exact ⟨a, c, L, a2, c2, M, rfl, g1, ST5.out, HC, HLB⟩
            · have hlt2 : (L.length : Int) < limit := by omega
              have hlt3 : (M.length : Int) < limit := by rw [← HLM.out]; exact hlt2
              go_wp2_with fail
              go_region_held3 (fun w' => w'.cell? ⟨wr.heap.size, 0, none⟩ = some (.int .i64 x.kind) ∧ w'.cell? ⟨wr.heap.size, 1, none⟩ = some (.int .i64 x.at_) ∧ w'.cell? ⟨wr.heap.size, 2, none⟩ = some (.int .i64 x.tw) ∧ w'.cell? ⟨wr.heap.size, 3, none⟩ = some (.slice x.a x.bs.length x.c))
                (first | go_keep | exact ⟨by assumption, by assumption, by assumption, by assumption⟩)
                (first
                  | (go_at_call 12; (fail_if_success (have hxx := ST2)); refine (letter_any _ _ _ _ x.bs _ (RX1.out.drew) hxl).mono ?_; rintro e w2 ⟨a', c', rfl, hown, hb2⟩; (have ST2 := hid (ST1.out.drew.alloc hb2)); (have K2 := hid (heap_below hb2 BX.out (blk_lt BX.out))); (have b2 := blk4 K2.out); (have RX2 := hid (RX1.out.drew.below hb2)); (have RO := hid (Rd.own hown)); clear hown hb2)
                  | (go_at_call 11; refine (bag_post_ok _ w.heap.size _ limit a c L _ _ x.bs ST2.out.bag hlt2 h2 RO.out hxl ST2.out.sz).mono ?_; rintro e w3 ⟨rfl, a3, c3, ⟨yt, ya, yc, yb⟩, rfl, rfl, hbag3, hown3, hat3, hchg3⟩; (have ST3 := hid (ST2.out.left hchg3 hbag3 hat3)); (have K3 := hid (heap_chg hchg3 K2.out (ST.out.low (Nat.le_refl _)).1)); (have b3 := blk4 K3.out); (have RX3 := hid (RX.out _ ST3.out.below)); clear hbag3 hown3 hat3 hchg3)
                  | (go_at_call 12; (fail_if_success (have hxx := ST4)); refine (letter_any _ _ _ _ x.bs _ RX3.out hxl).mono ?_; rintro e w4 ⟨a4, c4, rfl, hown4, hb4⟩; (have ST4 := hid (ST3.out.alloc hb4)); (have K4 := hid (heap_below hb4 K3.out (blk_lt K3.out))); (have b4 := blk4 K4.out); (have RO4 := hid (Rd.own hown4)); clear hown4 hb4)
                  | (go_at_call 20; refine (rb_post_ok _ w.heap.size _ limit a2 c2 M _ _ x.bs ST4.out.rb hlt3 h2 RO4.out hxl ST4.out.sz).mono ?_; rintro e w5 ⟨rfl, a5, c5, ⟨zt, za, zc, zb⟩, hzt, hzb, hbag5, hown5, hat5, hchg5⟩; simp only at hzt hzb; subst hzt; subst hzb; (have ST5 := hid (ST4.out.right hchg5 hbag5 (or_of hat5))); (have K5 := hid (heap_chg hchg5 K4.out (ST.out.low (Nat.le_refl _)).2)); (have b5 := blk4 K5.out); clear hbag5 hown5 hat5 hchg5)
                )
              go_wp2_with fail
              go_meet
              case rel => exact ⟨a3, c3, _, a5, c5, _, rfl, by rw [List.length_append]; simp; omega, ST5.out, hid (cons_snoc HC.out rfl), hid (fun z hz => by
                rcases List.mem_append.1 hz with hz | hz
                · exact HLB.out z hz
                · obtain rfl := List.mem_singleton.1 hz; exact hxl)⟩
          · have hb0 : (x.kind % 4 == 0) = false := by simp [hq]
            have hb1 : (x.kind % 4 == 1) = true := by simp [hq]
            clear hq
            by_cases hr : 0 ≤ x.at_ ∧ x.at_ < (L.length : Int)
            · obtain ⟨i, hi⟩ : ∃ i, i = x.at_.toNat := ⟨_, rfl⟩
              have hil : i < L.length := by omega
              obtain ⟨hr0, hr1⟩ := hr
              have hm64 : M.length ≤ 64 := by have := HLM.out; omega
              have HIi := hid hi
              obtain ⟨y, hy⟩ : ∃ y, L[i]? = some y := ⟨_, List.getElem?_eq_getElem hil⟩
              obtain ⟨y2, hy2, hyc⟩ := cons_get HC.out hy
              have HY := hid hy
              have HY2 := hid hy2
              have hyt : y2.tw = y.tw := congrArg Prod.fst hyc
              have hyb : y2.bs = y.bs := congrArg Prod.snd hyc
              have hyl2 : y2.bs.length ≤ 140737488351232 := by rw [hyb]; exact HLB.out y (List.mem_of_getElem? hy)
              have HYT := hid hyt
              have HYB := hid hyb
              have hbx := blk4 BX.out
              clear hi hy hy2 hyc hyt hyb
              go_wp2_with fail
              refine (bag_take_in _ w.heap.size _ limit a c L _ y ST1.out.bag hr0 (HIi.out ▸ HY.out) ST1.out.sz).mono ?_
              rintro e w3 ⟨rfl, hbag3, hchg3⟩
              rw [← HIi.out] at hbag3
              have ST3 := hid (ST1.out.left hchg3 hbag3 (.inl rfl))
              have KB3 := hid (heap_chg hchg3 BX.out (ST.out.low (Nat.le_refl _)).1)
              have hyo := ST1.out.bytes' hchg3 (ST1.out.bag.each y (List.mem_of_getElem? HY.out))
              have HYO := hid hyo
              have ST3a := hid (ST3.out.alloc (bl1 w3 (.cells #[.int .i64 y.tw, .slice y.a y.bs.length y.c] 35)))
              have KB3a := hid (heap_old KB3.out (.cells #[.int .i64 y.tw, .slice y.a y.bs.length y.c] 35))
              have KL3 := hid (heap_new w3 (.cells #[.int .i64 y.tw, .slice y.a y.bs.length y.c] 35))
              have bkb := blk4 KB3a.out
              clear hbag3 hchg3 hyo hbx
              go_wp2_with fail
              refine (rb_take_in _ w.heap.size _ limit a2 c2 M _ y2 ST3a.out.rb hr0 (HIi.out ▸ HY2.out) hm64 ST3a.out.sz hyl2).mono ?_
              rintro e w5 ⟨y5a, y5c, rfl, hown5, a5, c5, hrb5, hat5, hchg5⟩
              rw [← HIi.out] at hrb5
              have ST5 := hid (ST3a.out.right hchg5 hrb5 (fun k hk => .inr (hat5 k hk)))
              have hw3 : ¬ BagF Q a2 w3.heap.size := (ST3.out.low (Nat.le_refl _)).2
              have KL5 := hid (heap_old (heap_chg hchg5 KL3.out hw3) (.cells #[.int .i64 y2.tw, .slice y5a y2.bs.length y5c] 35))
              have KM5 := hid (heap_new w5 (.cells #[.int .i64 y2.tw, .slice y5a y2.bs.length y5c] 35))
              have ST6 := hid (ST5.out.alloc (bl1 w5 (.cells #[.int .i64 y2.tw, .slice y5a y2.bs.length y5c] 35)))
              have RA := hid ((Rd.own (ST3a.out.bytes hchg5 (own_alloc HYO.out (.cells #[.int .i64 y.tw, .slice y.a y.bs.length y.c] 35)))).alloc (.cells #[.int .i64 y2.tw, .slice y5a y2.bs.length y5c] 35))
              have RB := hid ((Rd.own hown5).alloc (.cells #[.int .i64 y2.tw, .slice y5a y2.bs.length y5c] 35))
              have q1 := blk2 KL5.out
              have q2 := blk2 KM5.out
              have hte : (y.tw == y2.tw) = true := by rw [HYT.out]; simp
              have hde : decide (y.bs = y2.bs) = true := by rw [HYB.out]; simp
              clear hown5 hrb5 hat5 hchg5 hw3 bkb
              go_wp2_with (go_at_call 14; refine (sameBytes_any _ _ y.bs y2.bs _ RA.out RB.out).mono ?_; rintro e w7 ⟨rfl, q7, rfl⟩)
              have ST7 := hid (ST6.out.drewN q7)
              go_meet
              case rel => exact ⟨a, c, _, a5, c5, _, rfl, by have := List.length_eraseIdx_le L i; omega, ST7.out, hid (cons_erase HC.out i), hid (fun z hz => HLB.out z (List.mem_of_mem_eraseIdx hz))⟩
            · have hr' : x.at_ < 0 ∨ (L.length : Int) ≤ x.at_ := by omega
              have hr2' : x.at_ < 0 ∨ (M.length : Int) ≤ x.at_ := by rw [← HLM.out]; exact hr'
              have HR' := hid hr'
              have HR2' := hid hr2'
              have hbx := blk4 BX.out
              clear hr hr' hr2'
              go_wp2_with fail
              refine (bag_take_no _ w.heap.size _ limit a c L x.at_ ST1.out.bag HR'.out).mono ?_
              rintro e w3 ⟨rfl, hb3⟩
              have ST3 := hid ((ST1.out.alloc hb3).alloc (bl1 w3 (.cells #[.int .i64 0, .slice none 0 0] 35)))
              have KB3 := hid (heap_old (heap_below hb3 BX.out (blk_lt BX.out)) (.cells #[.int .i64 0, .slice none 0 0] 35))
              have KL3 := hid (heap_new w3 (.cells #[.int .i64 0, .slice none 0 0] 35))
              have bkb := blk4 KB3.out
              clear hb3 hbx
              go_wp2_with fail
              refine (rb_take_no _ w.heap.size _ limit a2 c2 M x.at_ ST3.out.rb HR2'.out).mono ?_
              rintro e w5 ⟨rfl, hb5⟩
              have ST5 := hid ((ST3.out.alloc hb5).alloc (bl1 w5 (.cells #[.int .i64 0, .slice none 0 0] 35)))
              have KL5 := hid (heap_old (heap_below hb5 KL3.out (blk_lt KL3.out)) (.cells #[.int .i64 0, .slice none 0 0] 35))
              have KM5 := hid (heap_new w5 (.cells #[.int .i64 0, .slice none 0 0] 35))
              have q1 := blk2 KL5.out
              have q2 := blk2 KM5.out
              clear hb5 bkb
              go_wp2_with (go_at_call 14; refine (sameBytes_any _ _ [] [] _ (Rd.nil _) (Rd.nil _)).mono ?_; rintro e w7 ⟨rfl, q7, rfl⟩)
              have ST7 := hid (ST5.out.drewN q7)
              go_meet
              case rel => exact ⟨a, c, L, a2, c2, M, by simp, g1, ST7.out, HC, HLB⟩
          · have hb0 : (x.kind % 4 == 0) = false := by simp [hq]
            have hb1 : (x.kind % 4 == 1) = false := by simp [hq]
            have hb2 : (x.kind % 4 == 2) = true := by simp [hq]
            clear hq
            by_cases hr : 0 ≤ x.at_ ∧ x.at_ < (L.length : Int)
            · obtain ⟨i, hi⟩ : ∃ i, i = x.at_.toNat := ⟨_, rfl⟩
              have hil : i < L.length := by omega
              obtain ⟨hr0, hr1⟩ := hr
              have hr2 : x.at_ < (M.length : Int) := by rw [← HLM.out]; exact hr1
              have hm64 : M.length ≤ 64 := by have := HLM.out; omega
              have HIi := hid hi
              have hbx := blk4 BX.out
              clear hi
              go_wp2_with fail
              go_region_held3 (fun w' => w'.cell? ⟨wr.heap.size, 0, none⟩ = some (.int .i64 x.kind) ∧ w'.cell? ⟨wr.heap.size, 1, none⟩ = some (.int .i64 x.at_) ∧ w'.cell? ⟨wr.heap.size, 2, none⟩ = some (.int .i64 x.tw) ∧ w'.cell? ⟨wr.heap.size, 3, none⟩ = some (.slice x.a x.bs.length x.c))
                (first | go_keep | exact ⟨by assumption, by assumption, by assumption, by assumption⟩)
                (first
                  | (go_at_call 15; refine (bag_drop_in _ w.heap.size _ limit a c L _ ST1.out.drew.bag hr0 hr1).mono ?_; rintro e w3 ⟨rfl, hbag3, hchg3⟩; rw [← HIi.out] at hbag3; (have ST3 := hid (ST1.out.drew.left hchg3 hbag3 (.inl rfl))); (have K3 := hid (heap_chg hchg3 BX.out (ST.out.low (Nat.le_refl _)).1)); (have b3 := blk4 K3.out); clear hbag3 hchg3)
                  | (go_at_call 22; refine (rb_drop_in _ w.heap.size _ limit a2 c2 M _ ST3.out.rb hr0 hr2 hm64 ST3.out.sz).mono ?_; rintro e w5 ⟨rfl, a5, c5, hbag5, hat5, hchg5⟩; rw [← HIi.out] at hbag5; (have ST5 := hid (ST3.out.right hchg5 hbag5 (fun k hk => .inr (hat5 k hk)))); (have K5 := hid (heap_chg hchg5 K3.out (ST.out.low (Nat.le_refl _)).2)); (have b5 := blk4 K5.out); clear hbag5 hat5 hchg5)
                )
              go_wp2_with fail
              go_meet
              case rel => exact ⟨a, c, _, a5, c5, _, rfl, by have := List.length_eraseIdx_le L i; omega, ST5.out, hid (cons_erase HC.out i), hid (fun z hz => HLB.out z (List.mem_of_mem_eraseIdx hz))⟩
            · have hr' : x.at_ < 0 ∨ (L.length : Int) ≤ x.at_ := by omega
              have hr2' : x.at_ < 0 ∨ (M.length : Int) ≤ x.at_ := by rw [← HLM.out]; exact hr'
              have HR' := hid hr'
              have HR2' := hid hr2'
              have hbx := blk4 BX.out
              clear hr hr' hr2'
              go_wp2_with fail
              go_region_held3 (fun w' => w'.cell? ⟨wr.heap.size, 0, none⟩ = some (.int .i64 x.kind) ∧ w'.cell? ⟨wr.heap.size, 1, none⟩ = some (.int .i64 x.at_) ∧ w'.cell? ⟨wr.heap.size, 2, none⟩ = some (.int .i64 x.tw) ∧ w'.cell? ⟨wr.heap.size, 3, none⟩ = some (.slice x.a x.bs.length x.c))
                (first | go_keep | exact ⟨by assumption, by assumption, by assumption, by assumption⟩)
                (first
                  | (go_at_call 15; refine (bag_drop_no _ w.heap.size _ limit a c L x.at_ ST1.out.drew.bag HR'.out).mono ?_; rintro e w3 ⟨rfl, rfl⟩; (have bq := blk4 BX.out))
                  | (go_at_call 22; refine (rb_drop_no _ w.heap.size _ limit a2 c2 M x.at_ ST1.out.drew.rb HR2'.out).mono ?_; rintro e w5 ⟨rfl, rfl⟩; (have bq := blk4 BX.out))
                )
              have ST7 := hid (ST1.out.drew)
              go_wp2_with fail
              go_meet
              case rel => exact ⟨a, c, L, a2, c2, M, rfl, g1, ST7.out, HC, HLB⟩
          · have hb0 : (x.kind % 4 == 0) = false := by simp [hq]
            have hb1 : (x.kind % 4 == 1) = false := by simp [hq]
            have hb2 : (x.kind % 4 == 2) = false := by simp [hq]
            have hb3 : (x.kind % 4 == 3) = true := by simp [hq]
            clear hq
            by_cases hr : 0 ≤ x.at_ ∧ x.at_ < (L.length : Int)
            · obtain ⟨i, hi⟩ : ∃ i, i = x.at_.toNat := ⟨_, rfl⟩
              have hil : i < L.length := by omega
              obtain ⟨hr0, hr1⟩ := hr
              have hr2 : x.at_ < (M.length : Int) := by rw [← HLM.out]; exact hr1
              have hm64 : M.length ≤ 64 := by have := HLM.out; omega
              have HIi := hid hi
              have hbx := blk4 BX.out
              obtain ⟨y, hy⟩ : ∃ y, L[i]? = some y := ⟨_, List.getElem?_eq_getElem hil⟩
              obtain ⟨y2, hy2, hyc⟩ := cons_get HC.out hy
              have hyl := HLB.out y (List.mem_of_getElem? hy)
              have HY := hid hy
              have HY2 := hid hy2
              have HYC := hid hyc
              have hyl2 : y2.bs.length ≤ 140737488351232 := by rw [show y2.bs = y.bs from congrArg Prod.snd hyc]; exact hyl
              clear hi hy hy2 hyc
              by_cases hfull : limit ≤ (L.length : Int)
              · have hfull2 : limit ≤ (M.length : Int) := by rw [← HLM.out]; exact hfull
                go_wp2_with fail
                go_region_held3 (fun w' => w'.cell? ⟨wr.heap.size, 0, none⟩ = some (.int .i64 x.kind) ∧ w'.cell? ⟨wr.heap.size, 1, none⟩ = some (.int .i64 x.at_) ∧ w'.cell? ⟨wr.heap.size, 2, none⟩ = some (.int .i64 x.tw) ∧ w'.cell? ⟨wr.heap.size, 3, none⟩ = some (.slice x.a x.bs.length x.c))
                (first | go_keep | exact ⟨by assumption, by assumption, by assumption, by assumption⟩)
                (first
                  | (go_at_call 16; refine (bag_double_full_in _ w.heap.size _ limit a c L _ ST1.out.drew.bag hr0 hr1 hfull).mono ?_; rintro e w3 ⟨rfl, hb3⟩; (have ST3 := hid (ST1.out.drew.alloc hb3)); (have K3 := hid (heap_below hb3 BX.out (blk_lt BX.out))); (have b3 := blk4 K3.out); clear hb3)
                  | (go_at_call 23; refine (rb_double_full_in _ w.heap.size _ limit a2 c2 M _ ST3.out.rb hr0 hr2 hfull2).mono ?_; rintro e w5 ⟨rfl, hb5⟩; (have ST5 := hid (ST3.out.alloc hb5)); (have K5 := hid (heap_below hb5 K3.out (blk_lt K3.out))); (have b5 := blk4 K5.out); clear hb5)
                )
                go_wp2_with fail
                go_meet
                case rel => exact ⟨a, c, L, a2, c2, M, rfl, g1, ST5.out, HC, HLB⟩
              · have hlt2 : (L.length : Int) < limit := by omega
                have hlt3 : (M.length : Int) < limit := by rw [← HLM.out]; exact hlt2
                go_wp2_with fail
                go_region_held3 (fun w' => w'.cell? ⟨wr.heap.size, 0, none⟩ = some (.int .i64 x.kind) ∧ w'.cell? ⟨wr.heap.size, 1, none⟩ = some (.int .i64 x.at_) ∧ w'.cell? ⟨wr.heap.size, 2, none⟩ = some (.int .i64 x.tw) ∧ w'.cell? ⟨wr.heap.size, 3, none⟩ = some (.slice x.a x.bs.length x.c))
                (first | go_keep | exact ⟨by assumption, by assumption, by assumption, by assumption⟩)
                (first
                  | (go_at_call 16; refine (bag_double_in _ w.heap.size _ limit a c L _ y ST1.out.drew.bag hr0 (HIi.out ▸ HY.out) hlt2 h2 ST1.out.drew.sz hyl).mono ?_; rintro e w3 ⟨rfl, a3, c3, z3, hz31, hz32, hbag3, hown3, hat3, hchg3⟩; (have ST3 := hid (ST1.out.drew.left hchg3 hbag3 hat3)); (have K3 := hid (heap_chg hchg3 BX.out (ST.out.low (Nat.le_refl _)).1)); (have b3 := blk4 K3.out); (have HZ3 := hid (show z3.con = y.con by simp [Lt.con, hz31, hz32])); clear hbag3 hown3 hat3 hchg3 hz31 hz32)
                  | (go_at_call 23; refine (rb_double_in _ w.heap.size _ limit a2 c2 M _ y2 ST3.out.rb hr0 (HIi.out ▸ HY2.out) hlt3 h2 ST3.out.sz hyl2).mono ?_; rintro e w5 ⟨rfl, a5, c5, z5, hz51, hz52, hbag5, hown5, hat5, hchg5⟩; (have ST5 := hid (ST3.out.right hchg5 hbag5 (or_of hat5))); (have K5 := hid (heap_chg hchg5 K3.out (ST.out.low (Nat.le_refl _)).2)); (have b5 := blk4 K5.out); (have HZ5 := hid (show z5.con = y2.con by simp [Lt.con, hz51, hz52])); clear hbag5 hown5 hat5 hchg5 hz51 hz52)
                )
                go_wp2_with fail
                go_meet
                case rel => exact ⟨a3, c3, _, a5, c5, _, rfl, by rw [List.length_append]; simp; omega, ST5.out, hid (cons_snoc HC.out (by rw [HZ3.out, HZ5.out, HYC.out])), hid (fun z hz => by
                  rcases List.mem_append.1 hz with hz | hz
                  · exact HLB.out z hz
                  · obtain rfl := List.mem_singleton.1 hz
                    rw [show z.bs = y.bs from congrArg Prod.snd HZ3.out]; exact hyl)⟩
            · have hr' : x.at_ < 0 ∨ (L.length : Int) ≤ x.at_ := by omega
              have hr2' : x.at_ < 0 ∨ (M.length : Int) ≤ x.at_ := by rw [← HLM.out]; exact hr'
              have HR' := hid hr'
              have HR2' := hid hr2'
              have hbx := blk4 BX.out
              clear hr hr' hr2'
              go_wp2_with fail
              go_region_held3 (fun w' => w'.cell? ⟨wr.heap.size, 0, none⟩ = some (.int .i64 x.kind) ∧ w'.cell? ⟨wr.heap.size, 1, none⟩ = some (.int .i64 x.at_) ∧ w'.cell? ⟨wr.heap.size, 2, none⟩ = some (.int .i64 x.tw) ∧ w'.cell? ⟨wr.heap.size, 3, none⟩ = some (.slice x.a x.bs.length x.c))
                (first | go_keep | exact ⟨by assumption, by assumption, by assumption, by assumption⟩)
                (first
                  | (go_at_call 16; refine (bag_double_no _ w.heap.size _ limit a c L x.at_ ST1.out.drew.bag HR'.out).mono ?_; rintro e w3 ⟨rfl, rfl⟩; (have bq := blk4 BX.out))
                  | (go_at_call 23; refine (rb_double_no _ w.heap.size _ limit a2 c2 M x.at_ ST1.out.drew.rb HR2'.out).mono ?_; rintro e w5 ⟨rfl, rfl⟩; (have bq := blk4 BX.out))
                )
              have ST7 := hid (ST1.out.drew)
              go_wp2_with fail
              go_meet
              case rel => exact ⟨a, c, L, a2, c2, M, rfl, g1, ST7.out, HC, HLB⟩
        case rest =>
          clear ST f0 f1 f2 f3 g1 HC HLB
          obtain ⟨a', c', L', a2', c2', M', rfl, g1, hst, HC, HLB⟩ := hcut
          have ST := hid hst
          have hlm := cons_len HC.out
          have hL64 : L'.length ≤ 64 := by omega
          have hlr := hst.rb.lr
          rw [← hlm] at hlr
          have HM := hid hlr
          clear hlr
          have b1 := blk2 hst.rb.hp
          rw [← hlm] at b1
          have bb := hst.bag.hp
          have BB := hid bb
          have HLM := hid hlm
          clear hst hlm bb
          go_wp2_with fail
          go_region_held3 (fun w' => w'.cell? ⟨Q, 0, none⟩ = some (.int .i64 limit) ∧ w'.cell? ⟨Q, 1, none⟩ = some (.slice a2' L'.length c2'))
            (first | go_keep | exact ⟨by assumption, by assumption⟩)
            (first
              | (go_at_call 17; refine (bag_len w.heap.size limit a' L'.length c' _ (blk_cell ST.out.drew.bag.hp (i := 1) rfl)).mono ?_; rintro e w4 ⟨rfl, rfl⟩)
              | (go_at_call 25; refine (bag_letters_any _ w.heap.size _ limit a' c' L' ST.out.drew.bag hL64 HLB.out).mono ?_; rintro e w5 ⟨a5, c5, N, rfl, hcn, hlets, hb5⟩; (have ST5 := hid (ST.out.drew.alloc hb5)); (have HN := hid hlets.lr); (have HCN := hid (hcn.trans HC.out)); (have HM5 := hid (LrAt.below (w := World.drew _) ⟨HM.out.row, HM.out.each⟩ hb5)); (have b5 := blk2 ST5.out.rb.hp); rw [← HLM.out] at b5; clear hcn hlets hb5)
              | (go_at_call 24; refine (sameLetters_yes _ _ N M' _ HN.out HM5.out HCN.out).mono ?_; rintro e w6 ⟨rfl, q6, rfl⟩; (have ST6 := hid (ST5.out.drewN q6)); (have b6 := blk2 ST6.out.rb.hp); rw [← HLM.out] at b6))
          go_wp2
          exact ⟨⟨k + 1, a', c', L', a2', c2', M', by omega, by go_num, g1, ST6.out, HC, HLB⟩, by simp [intOf]; omega⟩
      · go_wp2_with (go_at_call 9; refine (bag_awake _).mono ?_; rintro e w3 ⟨rfl, hb3⟩)
        go_ret
        exact ⟨rfl, ST.out.below.trans (hb3.mono ST.out.sz)⟩

end Go.Proofs.Ytdolaiejkobaiaa
