import Derived.Test.YtmhogjecfgbchaaRefH
import Derived.Test.YtmhogjecfgbchaaPruneP
namespace Go.Proofs.Ytmhogjecfgbchaa
set_option linter.unusedVariables false
set_option linter.unusedSimpArgs false
open Go.RowKit
attribute [local go_sem ↓] Go.wp_at_zero Go.wp_at_succ

set_option maxHeartbeats 2000000 in
theorem same_keys (w : World) (L M : List Ky) (a1 a2 : Option Addr) (c1 c2 : Nat) (h1 : Rd w (.slice a1 L.length c1) L.length (kyc L)) (h2 : Rd w (.slice a2 M.length c2) M.length (kyc M)) (hLM : L = M) :
    Calls Try.prog 47 #[.slice a1 L.length c1, .slice a2 M.length c2] w fun e w' => e = .returned (.bool true) ∧ Below w.heap.size w w' := by
  subst hLM
  have H1 := hid h1
  have H2 := hid h2
  have hl1 := h1.len
  unfold maxLen at hl1
  clear h1 h2
  go_enter Try.func47, Try.ntmps47
  go_wp2_with fail
  go_loopw [5] (fun v wr => ∃ (i : Nat), i ≤ L.length ∧ v = .int .i64 i ∧ Hid (Below w.heap.size w wr)) (fun v _ => L.length - (intOf v).toNat)
  case atStart => exact ⟨0, Nat.zero_le _, rfl, hid (Below.refl _ _)⟩
  case round =>
    obtain ⟨i, hi, rfl, HB⟩ := hrel
    by_cases hlt : i < L.length
    · have hk0 : (0 : Int) ≤ (i : Int) := by omega
      have hk1 : (i : Int) < (L.length : Int) := by omega
      obtain ⟨b1, o1, rfl⟩ := ks_loc H1.out (by omega)
      obtain ⟨b2, o2, rfl⟩ := ks_loc H2.out (by omega)
      obtain ⟨x, hx⟩ : ∃ x, L[i]? = some x := ⟨_, List.getElem?_eq_getElem hlt⟩
      have P1 := ks_at H1.out HB.out hx
      have P2 := ks_at H2.out HB.out hx
      have heq := fun W => eqIn_key x.dir x.dir x.name x.name W
      simp only [decide_true] at heq
      clear hx
      go_wp2_with fail
      go_quiet (fail)
      go_wp2
      exact ⟨⟨i + 1, by omega, by go_num, hid (below_drewN HB.out _)⟩, by simp [intOf]; omega⟩
    · go_wp2
      go_ret
      exact ⟨rfl, HB.out⟩

set_option maxRecDepth 100000 in
set_option maxHeartbeats 2000000 in
theorem r_victim (w : World) (p : Nat) (L : List En) (ws : List Int) (neg : Bool) (h : RAt w p L ws) (hn : L.length < 4611686018427387904) :
    Calls Try.prog 46 #[.pointer (some ⟨p, 0, none⟩), .bool neg] w fun r w' => r = .returned (.tuple #[.agg #[.int .i64 (vicK neg L).dir, .string (vicK neg L).name], .bool (vicL neg L).isSome]) ∧ Below w.heap.size w w' := by
  have HR0 := hid (h.below (bl1 w (.cells #[.int .i64 0, .string { data := #[] }] 26)))
  have KZ0 := hid (heap_new w (.cells #[.int .i64 0, .string { data := #[] }] 26))
  have BB0 := hid (bl1 w (.cells #[.int .i64 0, .string { data := #[] }] 26))
  have hnn : L.length ≤ 9223372036854775807 := by omega
  clear h
  cases neg with
  | false =>
    go_enter Try.func46, Try.ntmps46
    go_wp2_with fail
    go_loopw [6] (fun v6 wr => ∃ (i : Nat), i ≤ L.length ∧ v6 = .int .i64 i ∧ Hid (Below (w.alloc (.cells #[.int .i64 0, .string { data := #[] }] 26)).heap.size (w.alloc (.cells #[.int .i64 0, .string { data := #[] }] 26)) wr) ∧ Hid ((L.take i).find? (vicP false L) = none)) (fun v6 _ => L.length - (intOf v6).toNat)
    case atStart => exact ⟨0, Nat.zero_le _, rfl, hid (Below.refl _ _), hid (by simp)⟩
    case round =>
      obtain ⟨i, hi, rfl, HB, HN⟩ := hrel
      have BBr := hid (BB0.out.trans (HB.out.mono BB0.out.size))
      have HRr := hid (HR0.out.below HB.out)
      have KZr := hid (heap_below HB.out KZ0.out (blk_lt KZ0.out))
      have bz := blk2 KZr.out
      obtain ⟨aL, cL, aW, cW, K, O, Wd⟩ := HRr.out.ex
      have b0 := blk2 K
      have HO := hid O
      have HK := hid K
      clear K O Wd
      by_cases hlt : i < L.length
      · have hi0 : (0 : Int) ≤ (i : Int) := by omega
        have hi1 : (i : Int) < (L.length : Int) := by omega
        obtain ⟨g, hag, hBg, hgz, hg1, hg2⟩ := own_loc HO.out (by omega)
        obtain ⟨y, hy⟩ : ∃ y, L[i]? = some y := ⟨_, List.getElem?_eq_getElem hlt⟩
        subst hag
        have b1 := ecs_at (Rd.own HO.out) hy
        have HY := hid hy
        have htk : L.take (i + 1) = L.take i ++ [y] := by rw [List.take_add_one, hy]; rfl
        have HTK := hid htk
        clear hy htk
        cases hv : leafL y.key L with
        | true =>
          have HV := hid hv
          have HF := hid (show vicL false L = some y from find_take HN.out HY.out (by simp [vicP, hv]))
          clear hv
          go_wp2_with (go_at_call 63; refine (r_leaf _ p L ws y.key HRr.out hn).mono ?_; rintro r w4 ⟨rfl, hb4⟩; rw [HV.out]; (have KZ4 := hid (heap_below hb4 KZr.out (blk_lt KZr.out))); (have bz4 := blk2 KZ4.out); (have BB4 := hid (BBr.out.trans (hb4.mono BBr.out.size))); (have HB4 := hid (HB.out.trans (hb4.mono HB.out.size))); obtain ⟨aL4, cL4, aW4, cW4, K4, O4, Wd4⟩ := (HRr.out.below hb4).ex; (have b04 := blk2 K4); (have c4 := heap_below hb4 HK.out (blk_lt HK.out)); rw [K4] at c4; simp only [Option.some.injEq, Obj.cells.injEq, Array.mk.injEq, List.cons.injEq, Value.slice.injEq, and_true, true_and] at c4; obtain ⟨⟨rfl, rfl⟩, _⟩ := c4; (have b14 := ecs_at (Rd.own O4) HY.out); clear hb4 K4 O4 Wd4)
          have hk3 := heap_set (heap_set KZ4.out 0 (.int .i64 y.key.dir)) 1 (.string y.key.name)
          have hz3 := blk2 (x0 := .int .i64 y.key.dir) (x1 := .string y.key.name) (by simpa using hk3)
          refine bodyPost_ret (v := .tuple #[.agg #[.int .i64 y.key.dir, .string y.key.name], .bool true]) (by simp [results, Try.results46, go_sem, hz3]) rfl ⟨by rw [show vicK false L = y.key by simp [vicK, HF.out], HF.out]; rfl, ?_⟩
          exact (BB4.out.setCell (by simp) _).setCell (by simp) _
        | false =>
          have HV := hid hv
          have HF := hid (find_snoc_none HN.out (show vicP false L y = false by simp [vicP, hv]))
          clear hv
          go_wp2_with (go_at_call 63; refine (r_leaf _ p L ws y.key HRr.out hn).mono ?_; rintro r w4 ⟨rfl, hb4⟩; rw [HV.out]; (have KZ4 := hid (heap_below hb4 KZr.out (blk_lt KZr.out))); (have bz4 := blk2 KZ4.out); (have BB4 := hid (BBr.out.trans (hb4.mono BBr.out.size))); (have HB4 := hid (HB.out.trans (hb4.mono HB.out.size))); obtain ⟨aL4, cL4, aW4, cW4, K4, O4, Wd4⟩ := (HRr.out.below hb4).ex; (have b04 := blk2 K4);  clear hb4 K4 O4 Wd4)
          exact ⟨⟨i + 1, by omega, by go_num, HB4, hid (by rw [HTK.out]; exact HF.out)⟩, by simp [intOf]; omega⟩
      · have HF := hid (show vicL false L = none by have := HN.out; rw [List.take_of_length_le (by omega)] at this; exact this)
        go_wp2
        have hk3 := heap_set (heap_set KZr.out 0 (.int .i64 0)) 1 (.string { data := #[] })
        have hz3 := blk2 (x0 := .int .i64 0) (x1 := .string { data := #[] }) (by simpa using hk3)
        refine bodyPost_ret (v := .tuple #[.agg #[.int .i64 0, .string { data := #[] }], .bool false]) (by simp [results, Try.results46, go_sem, hz3]) rfl ⟨by rw [show vicK false L = ⟨0, ByteArray.empty⟩ by simp [vicK, HF.out], HF.out]; rfl, ?_⟩
        exact (BBr.out.setCell (by simp) _).setCell (by simp) _
  | true =>
    go_enter Try.func46, Try.ntmps46
    go_wp2_with fail
    go_loopw [6] (fun v6 wr => ∃ (i : Nat), i ≤ L.length ∧ v6 = .int .i64 i ∧ Hid (Below (w.alloc (.cells #[.int .i64 0, .string { data := #[] }] 26)).heap.size (w.alloc (.cells #[.int .i64 0, .string { data := #[] }] 26)) wr) ∧ Hid ((L.take i).find? (vicP true L) = none)) (fun v6 _ => L.length - (intOf v6).toNat)
    case atStart => exact ⟨0, Nat.zero_le _, rfl, hid (Below.refl _ _), hid (by simp)⟩
    case round =>
      obtain ⟨i, hi, rfl, HB, HN⟩ := hrel
      have BBr := hid (BB0.out.trans (HB.out.mono BB0.out.size))
      have HRr := hid (HR0.out.below HB.out)
      have KZr := hid (heap_below HB.out KZ0.out (blk_lt KZ0.out))
      have bz := blk2 KZr.out
      obtain ⟨aL, cL, aW, cW, K, O, Wd⟩ := HRr.out.ex
      have b0 := blk2 K
      have HO := hid O
      have HK := hid K
      clear K O Wd
      by_cases hlt : i < L.length
      · have hi0 : (0 : Int) ≤ (i : Int) := by omega
        have hi1 : (i : Int) < (L.length : Int) := by omega
        obtain ⟨g, hag, hBg, hgz, hg1, hg2⟩ := own_loc HO.out (by omega)
        obtain ⟨y, hy⟩ : ∃ y, L[i]? = some y := ⟨_, List.getElem?_eq_getElem hlt⟩
        subst hag
        have b1 := ecs_at (Rd.own HO.out) hy
        have HY := hid hy
        have htk : L.take (i + 1) = L.take i ++ [y] := by rw [List.take_add_one, hy]; rfl
        have HTK := hid htk
        clear hy htk
        cases hv : y.neg with
        | true =>
          have HV := hid hv
          have HF := hid (show vicL true L = some y from find_take HN.out HY.out (by simp [vicP, hv]))
          rw [hv] at b1
          clear hv
          go_wp2
          have hk3 := heap_set (heap_set KZr.out 0 (.int .i64 y.key.dir)) 1 (.string y.key.name)
          have hz3 := blk2 (x0 := .int .i64 y.key.dir) (x1 := .string y.key.name) (by simpa using hk3)
          refine bodyPost_ret (v := .tuple #[.agg #[.int .i64 y.key.dir, .string y.key.name], .bool true]) (by simp [results, Try.results46, go_sem, hz3]) rfl ⟨by rw [show vicK true L = y.key by simp [vicK, HF.out], HF.out]; rfl, ?_⟩
          exact (BBr.out.setCell (by simp) _).setCell (by simp) _
        | false =>
          have HV := hid hv
          have HF := hid (find_snoc_none HN.out (show vicP true L y = false by simp [vicP, hv]))
          rw [hv] at b1
          clear hv
          go_wp2
          exact ⟨⟨i + 1, by omega, by go_num, HB, hid (by rw [HTK.out]; exact HF.out)⟩, by simp [intOf]; omega⟩
      · have HF := hid (show vicL true L = none by have := HN.out; rw [List.take_of_length_le (by omega)] at this; exact this)
        go_wp2
        have hk3 := heap_set (heap_set KZr.out 0 (.int .i64 0)) 1 (.string { data := #[] })
        have hz3 := blk2 (x0 := .int .i64 0) (x1 := .string { data := #[] }) (by simpa using hk3)
        refine bodyPost_ret (v := .tuple #[.agg #[.int .i64 0, .string { data := #[] }], .bool false]) (by simp [results, Try.results46, go_sem, hz3]) rfl ⟨by rw [show vicK true L = ⟨0, ByteArray.empty⟩ by simp [vicK, HF.out], HF.out]; rfl, ?_⟩
        exact (BBr.out.setCell (by simp) _).setCell (by simp) _

end Go.Proofs.Ytmhogjecfgbchaa
