import Derived.Test.YtdolaiejkobaiaaBagI
import Derived.Test.YtdolaiejkobaiaaBagS
namespace Go.Proofs.Ytdolaiejkobaiaa
open Go.RowKit
attribute [local go_sem ↓] Go.wp_at_zero Go.wp_at_succ

/-- a row of bytes -/
structure Brow where
  a : Option Addr
  c : Nat
  bs : List Int
  deriving Inhabited

def Brow.v (x : Brow) : Value := .slice x.a x.bs.length x.c
def brs (R : List Brow) : List Value := R.flatMap fun x => [x.v]
theorem brs_map (R : List Brow) : brs R = R.map Brow.v := by
  induction R with
  | nil => rfl
  | cons x R ih => simp [brs] at ih ⊢; exact ih

structure RowsAt (w : World) (v : Value) (R : List Brow) : Prop where
  row : Rd w v R.length (brs R)
  each : ∀ x ∈ R, Rd w x.v x.bs.length (bys x.bs)

theorem RowsAt.loc {w : World} {sa : Option Addr} {sc : Nat} {S : List Brow} (h : RowsAt w (.slice sa S.length sc) S) (hS : 0 < S.length) : ∃ b off, sa = some ⟨b, off, none⟩ := by
  obtain ⟨b, off, cap, hv, _⟩ := h.row.form (by rw [brs_map, List.length_map]; omega)
  simp only [Value.slice.injEq] at hv
  exact ⟨b, off, hv.1⟩

theorem RowsAt.at {w wr : World} {b off sc : Nat} {S : List Brow} (h : RowsAt w (.slice (some ⟨b, off, none⟩) S.length sc) S) (hb : Below w.heap.size w wr) {k : Nat} {x : Brow} (hx : S[k]? = some x) :
    wr.cell? ⟨b, off + k, none⟩ = some (.slice x.a x.bs.length x.c) :=
  below_cell hb (Nat.le_refl _) (h.row.at _ _ (by rw [brs_map, List.getElem?_map, hx]; rfl))

section
variable {H : Type} {enc : TypeId × Value → H} {w : World} {base : Nat} {spare : Nat → Bool} {held : Bool}
theorem rows_of {a : Option Addr} {n c : Nat} (h : Dat enc Try.prog w base spare held 43 [.slice a n c]) :
    ∃ R : List Brow, n = R.length ∧ RowsAt w (.slice a R.length c) R ∧ R.length * 24 ≤ 140737488351232 ∧ ∀ x ∈ R, x.bs.length ≤ 140737488351232 := by
  obtain ⟨css, hl, _, hr, hb, hd⟩ := h.slice (sz := 1) (by_ := 24) Try.underlying43 (by kernel_rfl) (by decide) (by kernel_rfl)
  obtain ⟨S, rfl, hS⟩ := list_of_cells (f := fun x : Brow => [x.v]) (Q := fun x => Rd w x.v x.bs.length (bys x.bs) ∧ x.bs.length ≤ 140737488351232) fun c hc => by
    obtain ⟨a, n, c, e3⟩ := (hd c hc).sl Try.underlying29
    have f3 := hd _ hc
    rw [e3] at f3
    obtain ⟨l, rfl, hr, hll⟩ := bytes_of f3
    exact ⟨⟨a, c, l⟩, e3, hr, hll⟩
  rw [List.length_map] at hl
  subst hl
  refine ⟨S, rfl, ⟨?_, fun x hx => (hS x hx).1⟩, by unfold reachBytes at hb; omega, fun x hx => (hS x hx).2⟩
  rw [brs, List.flatMap_def]; exact hr
end

theorem sameBytes_eq (u v : Value) (a b : List Int) (w : World) (hab : a = b) (hu : Rd w u a.length (bys a)) (hv : Rd w v b.length (bys b)) :
    Calls Try.prog 14 #[u, v] w fun e w' => e = .returned (.bool true) ∧ ∃ n, w' = w.drewN n :=
  (sameBytes_any u v a b w hu hv).mono fun _ _ ⟨h1, h2⟩ => ⟨by rw [h1]; simp [hab], h2⟩

def rowsL (R : List Brow) (n : Nat) : List (Int × List Int) := (List.range n).map fun (i : Nat) => ((i : Int), (R.getD i default).bs)
theorem rowsL_succ (R : List Brow) (n : Nat) : rowsL R (n + 1) = rowsL R n ++ [((n : Int), (R.getD n default).bs)] := by simp [rowsL, List.range_succ]
theorem rowsL_at {R : List Brow} {n i : Nat} (h : i < n) : (rowsL R n)[i]? = some ((i : Int), (R.getD i default).bs) := by simp [rowsL, h]
theorem rowsL_len (R : List Brow) (n : Nat) : (rowsL R n).length = n := by simp [rowsL]

theorem cons_tail {L : List Lt} {E : List (Int × List Int)} {i : Nat} (h : cons_ L = E.drop i) : cons_ (L.eraseIdx 0) = E.drop (i + 1) := by
  rw [← List.drop_drop, ← h]
  cases L <;> simp [cons_]

theorem cons_len {L : List Lt} {E : List (Int × List Int)} (h : cons_ L = E) : L.length = E.length := by
  rw [← h]; simp [cons_]

set_option maxRecDepth 100000 in
set_option maxHeartbeats 2000000 in
theorem bagOrder_walk (sa : Option Addr) (sc : Nat) (R : List Brow) (twice : Int) (w : World) (hS : RowsAt w (.slice sa R.length sc) R) (hz : R.length * 24 ≤ 140737488351232) (hbz : ∀ x ∈ R, x.bs.length ≤ 140737488351232) :
    Calls Try.prog 4 #[.slice sa R.length sc, .int .i64 twice] w fun e w' => e = .returned (.bool true) ∧ Below w.heap.size w w' := by
  have HS := hid hS
  have HZ := hid hbz
  have hRn : R.length ≤ 9223372036854775807 := by omega
  obtain ⟨n, hn⟩ : ∃ n, n = min R.length 63 := ⟨_, rfl⟩
  have hnR : n ≤ R.length := by omega
  have hn63 : n ≤ 63 := by omega
  have HN := hid hn
  clear hS hbz hn
  go_enter Try.func4, Try.ntmps4
  go_upto_if 29 with (go_at_call 8; refine (bag_new_yes _ 64 (by omega) (by omega)).mono ?_; rintro e w1 ⟨rfl, hbag, hb1⟩)
  go_cut [7] (fun v7 wx => v7 = .int .i64 n ∧ wx = w1)
  case first =>
    by_cases hR : R.length ≤ 63
    · go_wp2_with fail
      go_meet
      case rel => exact ⟨by rw [HN.out]; congr 2; omega, rfl⟩
    · have hR' : ¬ ((R.length : Int) ≤ 63) := by omega
      go_wp2_with fail
      go_meet
      case rel => exact ⟨by rw [HN.out, show min R.length 63 = 63 by omega]; rfl, rfl⟩
  case rest =>
    obtain ⟨rfl, rfl⟩ := hcut
    go_wp2_with fail
    go_loopw [8] (fun v8 wr => ∃ (k : Nat) (a : Option Addr) (c : Nat) (L : List Lt), k ≤ n ∧ v8 = .int .i64 k ∧ L.length ≤ k ∧ k ≤ L.length ∧ Hid (cons_ L = rowsL R k) ∧ StN w wr w.heap.size w.heap.size 64 a c L none 0 []) (fun v8 _ => n - (intOf v8).toNat)
    case atStart => exact ⟨0, none, 0, [], Nat.zero_le _, rfl, by simp, by simp, hid rfl, ⟨hbag, ⟨World.ownsRow_nil _ _ _ _, by simp⟩, by simp, hb1, hb1.size, by simp⟩⟩
    case round =>
      obtain ⟨k, a, c, L, hk, rfl, g1, g2, HC, hst⟩ := hrel
      have ST := hid hst
      clear hst
      by_cases hlt : k < n
      · obtain ⟨x, hx⟩ : ∃ x, R[k]? = some x := ⟨_, List.getElem?_eq_getElem (by omega)⟩
        obtain ⟨b, off, rfl⟩ := HS.out.loc (by omega)
        have f0 := HS.out.at ST.out.below hx
        have hxl := HZ.out x (List.mem_of_getElem? hx)
        have hxr := (HS.out.each x (List.mem_of_getElem? hx)).below ST.out.below
        have hxg : (R.getD k default).bs = x.bs := by rw [List.getD_eq_getElem?_getD, hx]; rfl
        have HXG := hid hxg
        have HXR := hid hxr
        have hk0 : (0 : Int) ≤ (k : Int) := by omega
        have hk1 : (k : Int) < (R.length : Int) := by omega
        have hL : (L.length : Int) < 64 := by omega
        clear hx hxg hxr
        go_wp2_with fail
        refine (copyBytes_any _ x.bs _ HXR.out hxl).mono ?_
        rintro e w2 ⟨a2, c2, rfl, hown2, hb2⟩
        have ST2 := hid (ST.out.alloc hb2)
        go_wp2_with fail
        refine (bag_post_ok _ w.heap.size w.heap.size 64 a c L k _ x.bs ST2.out.bag hL (by omega) (Rd.own hown2) hxl ST2.out.sz).mono ?_
        rintro e w3 ⟨rfl, a3, c3, ⟨yt, ya, yc, yb⟩, rfl, rfl, hbag3, hown3, hat3, hchg3⟩
        go_wp2_with fail
        refine ⟨⟨k + 1, a3, c3, _, by omega, by go_num, by rw [List.length_append]; simp; omega, by rw [List.length_append]; simp; omega, hid ?_, ST2.out.step hchg3 hbag3 hat3 fun z hz => ?_⟩, by simp [intOf]; omega⟩
        · rw [rowsL_succ, ← HC.out, HXG.out]; simp [cons_, Lt.con]
        · rcases List.mem_append.1 hz with hz | hz
          · exact ST2.out.lb z hz
          · obtain rfl := List.mem_singleton.1 hz; exact hxl
      · obtain rfl : k = n := by omega
        by_cases hk0 : k = 0
        · have hk1 : ((k : Int) == 0) = true := by simp [hk0]
          have hL0 : L.length ≤ 0 := by omega
          clear hk0 hlt
          go_wp2_with fail
          refine (bag_double_no _ w.heap.size w.heap.size 64 a c L 0 ST.out.bag (by omega)).mono ?_
          rintro e w5 ⟨rfl, rfl⟩
          go_wp2_with fail
          refine (bag_drop_no _ w.heap.size w.heap.size 64 a c L 0 ST.out.bag (by omega)).mono ?_
          rintro e w5 ⟨rfl, rfl⟩
          go_wp2_with (go_at_call 9; refine (bag_awake _).mono ?_; rintro e w9 ⟨rfl, hb9⟩)
          go_ret
          exact ⟨rfl, ST.out.below.trans (hb9.mono ST.out.sz)⟩
        · have hk1 : ((k : Int) == 0) = false := by simp [hk0]
          have hmx := Int.emod_nonneg twice (show (k : Int) ≠ 0 by omega)
          have hmy := Int.emod_lt_of_pos twice (show (0 : Int) < k by omega)
          obtain ⟨j, hj⟩ : ∃ j : Nat, twice % k = j := ⟨(twice % k).toNat, by omega⟩
          have hjk : j < k := by omega
          have hkp : 0 < k := by omega
          have HJ := hid hj
          clear hj hmx hmy hlt hk0
          go_wp2_with fail
          refine (place_pos _ k _ (by omega) (by omega)).mono ?_
          rintro e w5 ⟨rfl, rfl⟩
          rw [HJ.out]
          obtain ⟨y, hy⟩ : ∃ y, L[j]? = some y := ⟨_, List.getElem?_eq_getElem (by omega)⟩
          have hyc := cons_at HC.out hy
          have hyl := ST.out.lb y (List.mem_of_getElem? hy)
          have hE : ∀ x : Lt, x.tw = y.tw → x.bs = y.bs → cons_ (L ++ [x]) = rowsL R k ++ [((j : Int), (R.getD j default).bs)] := by
            intro x h1 h2
            rw [rowsL_at hjk] at hyc
            simp only [Option.some.injEq, Prod.mk.injEq] at hyc
            rw [cons_, List.map_append]
            show cons_ L ++ [(x.tw, x.bs)] = _
            rw [HC.out, h1, h2, ← hyc.1, ← hyc.2]
          obtain ⟨E, hEE⟩ : ∃ E, E = rowsL R k ++ [((j : Int), (R.getD j default).bs)] := ⟨_, rfl⟩
          rw [← hEE] at hE
          have HE := hid hE
          have HEE := hid hEE
          have HY := hid hy
          clear hy hyc hE hEE
          go_wp2_with fail
          refine (bag_double_ok _ w.heap.size w.heap.size 64 a c L j y ST.out.bag HY.out (by omega) (by omega) ST.out.sz hyl).mono ?_
          rintro e w6 ⟨rfl, a6, c6, x, hx1, hx2, hbag6, hown6, hat6, hchg6⟩
          have ST6 := hid (ST.out.step hchg6 hbag6 hat6 fun z hz => by
            rcases List.mem_append.1 hz with hz | hz
            · exact ST.out.lb z hz
            · obtain rfl := List.mem_singleton.1 hz; rw [hx2]; exact hyl)
          have HC6 := hid (show cons_ (L ++ [x]) = E.drop 0 from HE.out x hx1 hx2)
          have hL6 : (L ++ [x]).length = k + 1 := by rw [List.length_append]; simp; omega
          obtain ⟨L6, hLL⟩ : ∃ L6, L6 = L ++ [x] := ⟨_, rfl⟩
          rw [← hLL] at ST6 HC6 hL6
          have hq : ((L6.length : Int) != (k : Int) + 1) = false := by simp; omega
          have HL6 := hid hL6
          clear hbag6 hown6 hat6 hchg6 hx1 hx2 hLL hL6
          go_wp2_with fail
          refine (bag_len w.heap.size 64 a6 L6.length c6 _ (blk_cell ST6.out.bag.hp (i := 1) rfl)).mono ?_
          rintro e w7 ⟨rfl, rfl⟩
          go_wp2_with fail
          obtain ⟨wo, hwo⟩ : ∃ wo : World, wo = w6 := ⟨_, rfl⟩
          go_loopw [10] (fun v10 wr => ∃ (i : Nat) (a : Option Addr) (c : Nat) (L : List Lt), i ≤ k + 1 ∧ v10 = .int .i64 i ∧ Hid (cons_ L = E.drop i) ∧ StN w wr w.heap.size w.heap.size 64 a c L none 0 []) (fun v10 _ => k + 1 - (intOf v10).toNat)
          case atStart => exact ⟨0, a6, c6, L6, Nat.zero_le _, rfl, HC6, ST6.out⟩
          case round =>
            obtain ⟨i, a7, c7, L7, hi, rfl, HC7, hst7⟩ := hrel
            have ST7 := hid hst7
            have hlen := cons_len HC7.out
            have hEl : E.length = k + 1 := by rw [HEE.out, List.length_append, rowsL_len]; rfl
            rw [List.length_drop, hEl] at hlen
            have HLN := hid hlen
            clear hst7 hlen hEl hwo
            by_cases hik : i < k + 1
            · obtain ⟨z, hz⟩ : ∃ z, L7[0]? = some z := ⟨_, List.getElem?_eq_getElem (by have := HLN.out; omega)⟩
              have hzc := cons_at HC7.out hz
              rw [List.getElem?_drop, Nat.add_zero] at hzc
              have hzo := ST7.out.bag.each z (List.mem_of_getElem? hz)
              obtain ⟨t, ht1, ht2, ht3⟩ : ∃ t : Nat, t < R.length ∧ (if i = k then t = j else t = i) ∧ E[i]? = some ((t : Int), (R.getD t default).bs) := by
                by_cases hik2 : i = k
                · exact ⟨j, by omega, by rw [if_pos hik2], by rw [HEE.out, hik2, List.getElem?_append_right (by rw [rowsL_len]; omega), rowsL_len, Nat.sub_self]; rfl⟩
                · exact ⟨i, by omega, by rw [if_neg hik2], by rw [HEE.out, List.getElem?_append_left (by rw [rowsL_len]; omega), rowsL_at (by omega)]⟩
              rw [ht3] at hzc
              simp only [Option.some.injEq, Prod.mk.injEq] at hzc
              obtain ⟨x, hx⟩ : ∃ x, R[t]? = some x := ⟨_, List.getElem?_eq_getElem ht1⟩
              have hxg : (R.getD t default).bs = x.bs := by rw [List.getD_eq_getElem?_getD, hx]; rfl
              obtain ⟨b, off, rfl⟩ := HS.out.loc (by omega)
              have HZ0 := hid hz
              have HZO := hid hzo
              have HT := hid ht2
              have HZC := hid (show z.bs = x.bs by rw [← hzc.2, hxg])
              have hzt : (z.tw != (t : Int)) = false := by simp [← hzc.1]
              have HX := hid hx
              have ht0 : (0 : Int) ≤ (t : Int) := by omega
              have ht4 : (t : Int) < (R.length : Int) := by omega
              clear hz hzo ht2 ht3 hzc hx hxg
              go_wp2_with fail
              refine (bag_take_yes _ w.heap.size w.heap.size 64 a7 c7 L7 0 z ST7.out.bag HZ0.out ST7.out.sz).mono ?_
              rintro e w8 ⟨rfl, hbag8, hchg8⟩
              have hrz := ((Rd.own HZO.out).chg fun k hk hl => hchg8.block k hl (ST7.out.bag.notF (by decide) HZO.out hk)).alloc (.cells #[.int .i64 z.tw, .slice z.a z.bs.length z.c] 35)
              have ST8 := hid ((ST7.out.step hchg8 hbag8 (.inl rfl) (fun z hz => ST7.out.lb z (List.mem_of_mem_eraseIdx hz))).alloc (bl1 w8 (.cells #[.int .i64 z.tw, .slice z.a z.bs.length z.c] 35)))
              have b8 := blk2 (heap_new w8 (.cells #[.int .i64 z.tw, .slice z.a z.bs.length z.c] 35))
              have f0 := HS.out.at ST8.out.below HX.out
              have HRZ := hid hrz
              have HRX := hid ((HS.out.each x (List.mem_of_getElem? HX.out)).below ST8.out.below)
              have HC8 := hid (cons_tail HC7.out)
              clear hrz hbag8 hchg8
              by_cases hik2 : i = k
              · have htj := HT.out
                rw [if_pos hik2] at htj
                subst htj
                have hb9 : ((i : Int) == (k : Int)) = true := by simp [hik2]
                clear hik2
                go_wp2_with fail
                go_quiet ((go_at_call 14; exact Calls.quiet_of (sameBytes_eq _ _ z.bs x.bs _ HZC.out (HRZ.out.drewN _) (HRX.out.drewN _))))
                go_wp2
                exact ⟨⟨i + 1, a7, c7, _, by omega, by go_num, HC8, ST8.out.alloc (below_drewN (Below.refl _ _) _)⟩, by simp [intOf]; omega⟩
              · have htj := HT.out
                rw [if_neg hik2] at htj
                subst htj
                have hb9 : ((t : Int) == (k : Int)) = false := by simp; omega
                clear hik2
                go_wp2_with fail
                go_quiet ((go_at_call 14; exact Calls.quiet_of (sameBytes_eq _ _ z.bs x.bs _ HZC.out (HRZ.out.drewN _) (HRX.out.drewN _))))
                go_wp2
                exact ⟨⟨t + 1, a7, c7, _, by omega, by go_num, HC8, ST8.out.alloc (below_drewN (Below.refl _ _) _)⟩, by simp [intOf]; omega⟩
            · have hL0 : L7.length ≤ 0 := by have := HLN.out; omega
              have hL1 : ((L7.length : Int) == 0) = true := by simp; exact List.eq_nil_of_length_eq_zero (by omega)
              have HL0 := hid (show ((0 : Int) < 0 ∨ (L7.length : Int) ≤ 0) by omega)
              go_wp2_with fail
              refine (bag_take_no _ w.heap.size w.heap.size 64 a7 c7 L7 0 ST7.out.bag HL0.out).mono ?_
              rintro e w8 ⟨rfl, hb8⟩
              have ST8 := hid ((ST7.out.alloc hb8).alloc (bl1 w8 (.cells #[.int .i64 0, .slice none 0 0] 35)))
              go_wp2_with fail
              refine (bag_len w.heap.size 64 a7 L7.length c7 _ (blk_cell ST8.out.bag.hp (i := 1) rfl)).mono ?_
              rintro e w9 ⟨rfl, rfl⟩
              go_wp2_with (go_at_call 9; refine (bag_awake _).mono ?_; rintro e w9 ⟨rfl, hb9⟩)
              go_ret
              exact ⟨rfl, ST8.out.below.trans (hb9.mono ST8.out.sz)⟩

end Go.Proofs.Ytdolaiejkobaiaa
