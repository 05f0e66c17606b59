import Derived.Test.YtmhogjecfgbchaaDentV
import Derived.Test.YtmhogjecfgbchaaDentY
namespace Go.Proofs.Ytmhogjecfgbchaa
set_option linter.unusedVariables false
set_option linter.unusedSimpArgs false
open Go.RowKit
attribute [local go_sem ↓] Go.wp_at_zero Go.wp_at_succ

set_option maxHeartbeats 1000000 in
theorem r_negatives (w : World) (p : Nat) (L : List En) (ws : List Int) (h : RAt w p L ws) (hn : L.length < 4611686018427387904) :
    Calls Try.prog 61 #[.pointer (some ⟨p, 0, none⟩)] w fun e w' => e = .returned (.int .i64 (negL L)) ∧ w = w' := by
  obtain ⟨aL, cL, aW, cW, h1, h2, h3⟩ := h.ex
  have b0 := blk2 h1
  have O := hid h2
  have hnn : L.length ≤ 9223372036854775807 := by omega
  clear h h1 h2 h3
  go_enter Try.func61, Try.ntmps61
  go_wp2_with fail
  go_loopw [3, 4] (fun v3 v4 wr => ∃ (j : Nat), j ≤ L.length ∧ v3 = .int .i64 (negL (L.take j)) ∧ v4 = .int .i64 j ∧ wr = w) (fun _ v4 _ => L.length - (intOf v4).toNat)
  case atStart => exact ⟨0, Nat.zero_le _, rfl, rfl, rfl⟩
  case round =>
    obtain ⟨j, hj, rfl, rfl, rfl⟩ := hrel
    have hcl : negL (L.take j) ≤ j := Nat.le_trans (negL_le _) (by simp; omega)
    by_cases hlt : j < L.length
    · have hk0 : (0 : Int) ≤ (j : Int) := by omega
      have hk1 : (j : Int) < (L.length : Int) := by omega
      obtain ⟨g, hag, hBg, hgz, hc1, hc2⟩ := own_loc O.out (by omega)
      obtain ⟨x, hx⟩ : ∃ x, L[j]? = some x := ⟨_, List.getElem?_eq_getElem hlt⟩
      subst hag
      have b1 := (ecs_at (Rd.own O.out) hx).2.2.1
      have htk : L.take (j + 1) = L.take j ++ [x] := by rw [List.take_add_one, hx]; rfl
      have HTK := hid htk
      obtain ⟨t, ht⟩ : ∃ t, t = negL (L.take j) := ⟨_, rfl⟩
      rw [← ht] at hcl ⊢
      have HT := hid ht
      clear hx htk ht
      cases hng : x.neg with
      | true =>
        have HF := hid (negL_yes (L := L.take j) hng)
        rw [hng] at b1
        clear hng
        go_wp2
        exact ⟨⟨j + 1, by omega, by rw [HTK.out, HF.out, HT.out]; go_num, by go_num, trivial⟩, by simp [intOf]; omega⟩
      | false =>
        have HF := hid (negL_no (L := L.take j) hng)
        rw [hng] at b1
        clear hng
        go_wp2
        exact ⟨⟨j + 1, by omega, by rw [HTK.out, HF.out, HT.out], by go_num, trivial⟩, by simp [intOf]; omega⟩
    · rw [List.take_of_length_le (by omega)]
      go_wp2
      go_ret
      exact ⟨rfl, rfl⟩

theorem getE_some {k : Ky} {L : List En} {y : En} (h : findL k L = some y) : getE k L = y := by simp [getE, h]
theorem getE_none {k : Ky} {L : List En} (h : findL k L = none) : getE k L = zeroE := by simp [getE, h]

set_option maxHeartbeats 1000000 in
theorem r_get (w : World) (p : Nat) (L : List En) (ws : List Int) (k : Ky) (h : RAt w p L ws) (hn : L.length < 4611686018427387904) :
    Calls Try.prog 62 #[.pointer (some ⟨p, 0, none⟩), .agg #[.int .i64 k.dir, .string k.name]] w fun r w' => r = .returned (.tuple #[(getE k L).v, .bool (findL k L).isSome]) ∧ Below w.heap.size w w' := by
  have HR0 := hid ((h.below (bl1 w (.cells #[.int .i64 k.dir, .string k.name] 26))).below (bl1 _ (.cells #[.int .i64 0, .string { data := #[] }, .bool false, .int .i64 0, .int .i64 0, .int .i64 0, .string { data := #[] }] 30)))
  have bk := blk2 (heap_old (heap_new w (.cells #[.int .i64 k.dir, .string k.name] 26)) (.cells #[.int .i64 0, .string { data := #[] }, .bool false, .int .i64 0, .int .i64 0, .int .i64 0, .string { data := #[] }] 30))
  have KZ0 := hid (show ((w.alloc (.cells #[.int .i64 k.dir, .string k.name] 26)).alloc (.cells #[.int .i64 0, .string { data := #[] }, .bool false, .int .i64 0, .int .i64 0, .int .i64 0, .string { data := #[] }] 30)).heap[w.heap.size + 1]? = some (.cells #[.int .i64 0, .string { data := #[] }, .bool false, .int .i64 0, .int .i64 0, .int .i64 0, .string { data := #[] }] 30) by have e := heap_new (w.alloc (.cells #[.int .i64 k.dir, .string k.name] 26)) (.cells #[.int .i64 0, .string { data := #[] }, .bool false, .int .i64 0, .int .i64 0, .int .i64 0, .string { data := #[] }] 30); rw [World.size_alloc] at e; exact e)
  have BB0 := hid (bl2 w (.cells #[.int .i64 k.dir, .string k.name] 26) (.cells #[.int .i64 0, .string { data := #[] }, .bool false, .int .i64 0, .int .i64 0, .int .i64 0, .string { data := #[] }] 30))
  clear h
  rcases atE_cases k L with ⟨hf, ha⟩ | ⟨j, x, hf, ha, hx, hxk, hjl, hfi⟩
  · rw [hf, getE_none hf, zev]
    have HA := hid ha
    clear hf ha
    go_enter Try.func62, Try.ntmps62
    go_wp2_with (go_at_call 70; refine (r_at _ p L ws k HR0.out hn).mono ?_; rintro r w1 ⟨rfl, hb1⟩; rw [HA.out]; (have KZ1 := hid (heap_below hb1 KZ0.out (blk_lt KZ0.out))); (have bz1 := blk7 KZ1.out); (have BB1 := hid (BB0.out.trans (hb1.mono BB0.out.size))); clear hb1)
    have hg7 := set7_chg w1 (w.heap.size + 1) zeroE
    have hh7 := set7_heap zeroE KZ1.out
    change bodyPost _ _ _ _ _ (set7 w1 (w.heap.size + 1) zeroE)
    generalize set7 w1 (w.heap.size + 1) zeroE = W7 at hg7 hh7 ⊢
    have z7 := blk7 hh7
    simp only [zeroE, show ByteArray.empty = { data := #[] } from rfl] at z7
    refine bodyPost_ret (v := .tuple #[.agg #[.int .i64 0, .string { data := #[] }, .bool false, .int .i64 0, .int .i64 0, .int .i64 0, .string { data := #[] }], .bool false]) (by simp [results, Try.results62, go_sem, z7]) rfl ⟨rfl, ?_⟩
    exact BB1.out.trans (hg7.toBelow BB1.out.size (fun i hi h => by omega))
  · rw [hf, getE_some hf, Option.isSome_some]
    have HA := hid ha
    have HX := hid hx
    have hj0 : (0 : Int) ≤ (j : Int) := by omega
    have hj1 : (j : Int) < (L.length : Int) := by omega
    clear hf ha hx hxk hfi
    unfold En.v
    go_enter Try.func62, Try.ntmps62
    go_wp2_with (go_at_call 70; refine (r_at _ p L ws k HR0.out hn).mono ?_; rintro r w1 ⟨rfl, hb1⟩; rw [HA.out]; (have KZ1 := hid (heap_below hb1 KZ0.out (blk_lt KZ0.out))); (have bz1 := blk7 KZ1.out); (have BB1 := hid (BB0.out.trans (hb1.mono BB0.out.size))); obtain ⟨aL, cL, aW, cW, K, O, Wd⟩ := (HR0.out.below hb1).ex; obtain ⟨g, hag, hBg, hgz, hc1, hc2⟩ := own_loc O (by omega); subst hag; (have b0 := blk2 K); (have b1 := ecs_at (Rd.own O) HX.out); clear hb1 K O Wd)
    have hg7 := set7_chg w1 (w.heap.size + 1) x
    have hh7 := set7_heap x KZ1.out
    change bodyPost _ _ _ _ _ (set7 w1 (w.heap.size + 1) x)
    generalize set7 w1 (w.heap.size + 1) x = W7 at hg7 hh7 ⊢
    have z7 := blk7 hh7
    refine bodyPost_ret (v := .tuple #[.agg #[.int .i64 x.key.dir, .string x.key.name, .bool x.neg, .int .i64 x.node.id, .int .i64 x.node.kind, .int .i64 x.node.mode, .string x.node.target], .bool true]) (by simp [results, Try.results62, go_sem, z7]) rfl ⟨rfl, ?_⟩
    exact BB1.out.trans (hg7.toBelow BB1.out.size (fun i hi h => by omega))

set_option maxHeartbeats 1000000 in
theorem r_leaf (w : World) (p : Nat) (L : List En) (ws : List Int) (k : Ky) (h : RAt w p L ws) (hn : L.length < 4611686018427387904) :
    Calls Try.prog 63 #[.pointer (some ⟨p, 0, none⟩), .agg #[.int .i64 k.dir, .string k.name]] w fun r w' => r = .returned (.bool (leafL k L)) ∧ Below w.heap.size w w' := by
  have HR0 := hid (h.below (bl1 w (.cells #[.int .i64 k.dir, .string k.name] 26)))
  have bk := blk2 (heap_new w (.cells #[.int .i64 k.dir, .string k.name] 26))
  have BB0 := hid (bl1 w (.cells #[.int .i64 k.dir, .string k.name] 26))
  have hnn : L.length ≤ 9223372036854775807 := by omega
  clear h
  rcases atE_cases k L with ⟨hf, ha⟩ | ⟨j, x, hf, ha, hx, hxk, hjl, hfi⟩
  · rw [show leafL k L = false by simp [leafL, hf]]
    have HA := hid ha
    clear hf ha
    go_enter Try.func63, Try.ntmps63
    go_wp2_with (go_at_call 70; refine (r_at _ p L ws k HR0.out hn).mono ?_; rintro r w1 ⟨rfl, hb1⟩; rw [HA.out]; (have BB1 := hid (BB0.out.trans (hb1.mono BB0.out.size))); clear hb1)
    go_ret
    exact ⟨rfl, BB1.out⟩
  · obtain ⟨d, hd⟩ : ∃ d, d = (if x.neg then 0 else x.node.id) := ⟨_, rfl⟩
    have HLF := hid (show leafL k L = !L.any fun y => y.key.dir == d by rw [leafL, hf, hd])
    have HA := hid ha
    have HX := hid hx
    have hj0 : (0 : Int) ≤ (j : Int) := by omega
    have hj1 : (j : Int) < (L.length : Int) := by omega
    clear hf ha hx hxk hfi
    cases hng : x.neg
    all_goals
      rw [hng] at hd
      have HD := hid (show d = _ from hd)
      clear hd
      go_enter Try.func63, Try.ntmps63
      go_wp2_with (go_at_call 70; refine (r_at _ p L ws k HR0.out hn).mono ?_; rintro r w1 ⟨rfl, hb1⟩; rw [HA.out]; (have BB1 := hid (BB0.out.trans (hb1.mono BB0.out.size))); obtain ⟨aL, cL, aW, cW, K, O, Wd⟩ := (HR0.out.below hb1).ex; obtain ⟨g, hag, hBg, hgz, hc1, hc2⟩ := own_loc O (by omega); subst hag; (have b0 := blk2 K); (have b1 := ecs_at (Rd.own O) HX.out); simp only [hng] at b1; (have HO := hid O); clear hb1 K O Wd)
      clear b1 hng
      go_loopw [7] (fun v wr => ∃ (i : Nat), i ≤ L.length ∧ v = .int .i64 i ∧ wr = w1 ∧ Hid ((L.take i).any (fun y => y.key.dir == d) = false)) (fun v _ => L.length - (intOf v).toNat)
      case atStart => exact ⟨0, Nat.zero_le _, rfl, rfl, hid rfl⟩
      case round =>
        obtain ⟨i, hi, rfl, rfl, HN⟩ := hrel
        by_cases hlt : i < L.length
        · have hi0 : (0 : Int) ≤ (i : Int) := by omega
          have hi1 : (i : Int) < (L.length : Int) := by omega
          obtain ⟨y, hy⟩ : ∃ y, L[i]? = some y := ⟨_, List.getElem?_eq_getElem hlt⟩
          have b2 := (ecs_at (Rd.own HO.out) hy).1
          have HY := hid hy
          have hst : (L.take (i + 1)).any (fun y => y.key.dir == d) = ((L.take i).any (fun y => y.key.dir == d) || y.key.dir == d) := by rw [List.take_add_one, hy]; simp
          have HST := hid hst
          clear hy hst
          cases hyd : (y.key.dir == d) with
          | true =>
            have HF := hid (show leafL k L = false by rw [HLF.out, show (L.any fun y => y.key.dir == d) = true from List.any_eq_true.2 ⟨y, List.mem_of_getElem? HY.out, hyd⟩]; rfl)
            rw [hyd] at HST
            rw [HD.out] at hyd
            simp only [if_true, Bool.false_eq_true, if_false] at hyd
            go_wp2
            go_ret
            exact ⟨by rw [HF.out]; rfl, BB1.out⟩
          | false =>
            rw [hyd] at HST
            rw [HD.out] at hyd
            simp only [if_true, Bool.false_eq_true, if_false] at hyd
            go_wp2
            exact ⟨⟨i + 1, by omega, by go_num, trivial, hid (by rw [HST.out, HN.out]; rfl)⟩, by simp [intOf]; omega⟩
        · have HF := hid (show leafL k L = true by rw [HLF.out]; have := HN.out; rw [List.take_of_length_le (by omega)] at this; rw [this]; rfl)
          go_wp2
          go_ret
          exact ⟨by rw [HF.out]; rfl, BB1.out⟩

def lessK (a b : Ky) : Bool := decide (a.dir < b.dir) || (a.dir == b.dir && nmLt a.name b.name)
theorem r_less (w : World) (a b : Ky) :
    Calls Try.prog 96 #[.agg #[.int .i64 a.dir, .string a.name], .agg #[.int .i64 b.dir, .string b.name]] w fun r w' => r = .returned (.bool (lessK a b)) ∧ Below w.heap.size w w' := by
  have ba := blk2 (heap_old (heap_new w (.cells #[.int .i64 a.dir, .string a.name] 26)) (.cells #[.int .i64 b.dir, .string b.name] 26))
  have bb := blk2 (show ((w.alloc (.cells #[.int .i64 a.dir, .string a.name] 26)).alloc (.cells #[.int .i64 b.dir, .string b.name] 26)).heap[w.heap.size + 1]? = some (.cells #[.int .i64 b.dir, .string b.name] 26) by have e := heap_new (w.alloc (.cells #[.int .i64 a.dir, .string a.name] 26)) (.cells #[.int .i64 b.dir, .string b.name] 26); rw [World.size_alloc] at e; exact e)
  have hl : lessK a b = (decide (a.dir < b.dir) || (a.dir == b.dir && Op.bytesLess a.name.toList b.name.toList)) := rfl
  generalize hbl : Op.bytesLess a.name.toList b.name.toList = t at hl
  have HL := hid hl
  clear hl
  cases h1 : decide (a.dir < b.dir) <;> cases h2 : (a.dir == b.dir)
  all_goals
    rw [h1, h2] at HL
    go_enter Try.func96, Try.ntmps96
    go_wp2
    go_ret
    exact ⟨by rw [HL.out]; simp, bl2 w _ _⟩

end Go.Proofs.Ytmhogjecfgbchaa
