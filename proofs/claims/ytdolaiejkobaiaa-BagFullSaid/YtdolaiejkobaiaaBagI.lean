import Derived.Test.YtdolaiejkobaiaaBagH
namespace Go.Proofs.Ytdolaiejkobaiaa
open Go.RowKit
attribute [local go_sem ↓] Go.wp_at_zero Go.wp_at_succ

/-- letters numbered from 0, empty -/
def nums (n : Nat) : List (Int × List Int) := (List.range n).map fun (i : Nat) => ((i : Int), [])

theorem nums_succ (n : Nat) : nums (n + 1) = nums n ++ [((n : Int), [])] := by simp [nums, List.range_succ]
theorem nums_at {n i : Nat} (h : i < n) : (nums n)[i]? = some ((i : Int), []) := by simp [nums, h]

theorem cons_at {L : List Lt} {l : List (Int × List Int)} (h : cons_ L = l) {i : Nat} {x : Lt} (hx : L[i]? = some x) : l[i]? = some (x.tw, x.bs) := by
  rw [← h, cons_, List.getElem?_map, hx]; rfl

set_option maxRecDepth 100000 in
set_option maxHeartbeats 2000000 in
theorem bagFull_walk (limit more : Int) (w : World) :
    Calls Try.prog 7 #[.int .i64 limit, .int .i64 more] w fun e w' => e = .returned (.bool true) ∧ Below w.heap.size w w' := by
  by_cases hlim : limit < 1 ∨ 64 < limit
  · have HL := hid hlim
    by_cases h1 : limit < 1
    · clear hlim
      go_enter Try.func7, Try.ntmps7
      go_wp2_with (first
        | (go_at_call 8; refine (bag_new_no _ limit HL.out).mono ?_; rintro e w1 ⟨rfl, rfl⟩)
        | (go_at_call 9; refine (bag_awake _).mono ?_; rintro e w1 ⟨rfl, hb1⟩))
      go_ret
      exact ⟨rfl, hb1⟩
    · have h2 : 64 < limit := by omega
      clear hlim
      go_enter Try.func7, Try.ntmps7
      go_wp2_with (first
        | (go_at_call 8; refine (bag_new_no _ limit HL.out).mono ?_; rintro e w1 ⟨rfl, rfl⟩)
        | (go_at_call 9; refine (bag_awake _).mono ?_; rintro e w1 ⟨rfl, hb1⟩))
      go_ret
      exact ⟨rfl, hb1⟩
  · obtain ⟨n, rfl⟩ := Int.eq_ofNat_of_zero_le (a := limit) (by omega)
    have h1 : 1 ≤ n := by omega
    have h2 : n ≤ 64 := by omega
    clear hlim
    go_enter Try.func7, Try.ntmps7
    go_wp2_with (go_at_call 8; refine (bag_new_yes _ n (by omega) (by omega)).mono ?_; rintro e w1 ⟨rfl, hbag, hb1⟩)
    go_loopw [7] (fun v7 wr => ∃ (k : Nat) (a : Option Addr) (c : Nat) (L : List Lt), k ≤ n ∧ v7 = .int .i64 k ∧ L.length ≤ k ∧ k ≤ L.length ∧ Hid (cons_ L = nums k) ∧ StN w wr w.heap.size w.heap.size n a c L none 0 []) (fun v7 _ => n - (intOf v7).toNat)
    case atStart => exact ⟨0, none, 0, [], Nat.zero_le _, rfl, by simp, by simp, hid rfl, ⟨hbag, ⟨World.ownsRow_nil _ _ _ _, by simp⟩, by simp, hb1, hb1.size, by simp⟩⟩
    case round =>
      obtain ⟨k, a, c, L, hk, rfl, g1, g2, HC, hst⟩ := hrel
      have ST := hid hst
      clear hst
      by_cases hlt : k < n
      · have hL : (L.length : Int) < n := by omega
        go_wp2_with (go_at_call 11; refine (bag_post_ok _ w.heap.size w.heap.size n a c L k _ [] ST.out.bag hL (by omega) (Rd.nil _) (by simp) ST.out.sz).mono ?_; rintro e w3 ⟨rfl, a3, c3, ⟨yt, ya, yc, yb⟩, rfl, rfl, hbag3, hown3, hat3, hchg3⟩)
        refine ⟨⟨k + 1, a3, c3, _, by omega, by go_num, by rw [List.length_append]; simp; omega, by rw [List.length_append]; simp; omega, hid ?_, ST.out.step hchg3 hbag3 hat3 fun z hz => ?_⟩, by simp [intOf]; omega⟩
        · rw [nums_succ, ← HC.out]; simp [cons_, Lt.con]
        · rcases List.mem_append.1 hz with hz | hz
          · exact ST.out.lb z hz
          · obtain rfl := List.mem_singleton.1 hz; simp
      · obtain rfl : k = n := by omega
        have hfull : (k : Int) ≤ (L.length : Int) := by omega
        have hmx := Int.emod_nonneg more (show (k : Int) ≠ 0 by omega)
        have hmy := Int.emod_lt_of_pos more (show (0 : Int) < k by omega)
        have HFU := hid hfull
        have hki : ((L.length : Int) != (k : Int)) = false := by simp; omega
        obtain ⟨j, hj⟩ : ∃ j : Nat, more % k = j := ⟨(more % k).toNat, by omega⟩
        have hjk : j < k := by omega
        have HJ := hid hj
        clear hj hmx hmy hlt hfull
        go_wp2_with fail
        refine (bag_post_full _ w.heap.size w.heap.size k a c L _ _ ST.out.bag HFU.out).mono ?_
        rintro e w3 ⟨rfl, hb3⟩
        have ST3 := hid (ST.out.alloc hb3)
        go_wp2_with fail
        refine (bag_double_full_in _ w.heap.size w.heap.size k a c L _ ST3.out.bag (by omega) (by omega) HFU.out).mono ?_
        rintro e w4 ⟨rfl, hb4⟩
        have ST4 := hid (ST3.out.alloc hb4)
        go_wp2_with fail
        refine (bag_double_no _ w.heap.size w.heap.size k a c L k ST4.out.bag (by omega)).mono ?_
        rintro e w5 ⟨rfl, rfl⟩
        go_wp2_with fail
        refine (bag_len w.heap.size k a L.length c _ (blk_cell ST4.out.bag.hp (i := 1) rfl)).mono ?_
        rintro e w5 ⟨rfl, rfl⟩
        go_wp2_with fail
        refine (place_pos _ k _ (by omega) (by omega)).mono ?_
        rintro e w5 ⟨rfl, rfl⟩
        rw [HJ.out]
        obtain ⟨y, hy⟩ : ∃ y, L[j]? = some y := ⟨_, List.getElem?_eq_getElem (by omega)⟩
        have hyc := cons_at HC.out hy
        rw [nums_at hjk] at hyc
        have hyt : y.tw = j := by simp at hyc; exact hyc.1.symm
        have HY := hid hy
        have HYT := hid hyt
        clear hy hyc hyt
        go_wp2_with fail
        refine (bag_take_yes _ w.heap.size w.heap.size k a c L j y ST4.out.bag HY.out ST4.out.sz).mono ?_
        rintro e w6 ⟨rfl, hbag6, hchg6⟩
        rw [HYT.out]
        have hle := List.length_eraseIdx_of_lt (l := L) (i := j) (by omega)
        have ST6 := hid ((ST4.out.step hchg6 hbag6 (.inl rfl) (fun z hz => ST4.out.lb z (List.mem_of_mem_eraseIdx hz))).alloc (bl1 _ (.cells #[.int .i64 j, .slice y.a y.bs.length y.c] 35)))
        have hkb := heap_new w6 (.cells #[.int .i64 j, .slice y.a y.bs.length y.c] 35)
        have b6 := blk2 hkb
        have HLE := hid hle
        clear hle hbag6 hchg6 hkb
        go_wp2_with fail
        refine (bag_post_ok _ w.heap.size w.heap.size k a c _ 99 _ [] ST6.out.bag (by rw [HLE.out]; omega) (by omega) (Rd.nil _) (by simp) ST6.out.sz).mono ?_
        rintro e w7 ⟨rfl, a7, c7, ⟨yt, ya, yc, yb⟩, rfl, rfl, hbag7, hown7, hat7, hchg7⟩
        have ST7 := hid (ST6.out.step hchg7 hbag7 hat7 fun z hz => by
          rcases List.mem_append.1 hz with hz | hz
          · exact ST6.out.lb z hz
          · obtain rfl := List.mem_singleton.1 hz; simp)
        clear hbag7 hown7 hat7 hchg7
        go_wp2_with fail
        refine (bag_letters_any _ w.heap.size w.heap.size k a7 c7 _ ST7.out.bag (by rw [List.length_append, HLE.out]; simp; omega) ST7.out.lb).mono ?_
        rintro e w8 ⟨a8, c8, M, rfl, hM, hlets, hb8⟩
        have hMl : M.length = k := by
          have := congrArg List.length hM
          simp only [cons_, List.length_map] at this
          rw [this, List.length_append, HLE.out]; simp; omega
        obtain ⟨g8, rfl⟩ := hlets.loc (by omega)
        have hz : M[k - 1]? = some (M[k - 1]'(by omega)) := List.getElem?_eq_getElem (by omega)
        obtain ⟨z, hzz⟩ : ∃ z, z = M[k - 1]'(by omega) := ⟨_, rfl⟩
        rw [← hzz] at hz
        have hzc := cons_at hM hz
        have hzt : z.tw = 99 := by
          rw [cons_, List.map_append, List.getElem?_append_right (by rw [List.length_map, HLE.out]; omega)] at hzc
          simp only [List.length_map] at hzc
          rw [HLE.out, show k - 1 - (L.length - 1) = 0 by omega] at hzc
          simp [Lt.con] at hzc; exact hzc.1.symm
        have hcell := (hlets.at hz).1
        rw [hzt] at hcell
        have hml1 : ((M.length : Int) == (k : Int)) = true := by simp [hMl]
        have hml2 : (0 : Int) ≤ (k : Int) - 1 := by omega
        have hml3 : (k : Int) - 1 < (M.length : Int) := by omega
        have hml4 : ((k : Int) - 1).toNat = k - 1 := by omega
        have hMx : M.length ≤ 64 := by omega
        clear hM hz hzz hzc hzt hMl hlets
        go_wp2_with (go_at_call 9; refine (bag_awake _).mono ?_; rintro e w9 ⟨rfl, hb9⟩)
        go_ret
        have ST8 := ST7.out.alloc hb8
        exact ⟨rfl, ST8.below.trans (hb9.mono ST8.sz)⟩

end Go.Proofs.Ytdolaiejkobaiaa
