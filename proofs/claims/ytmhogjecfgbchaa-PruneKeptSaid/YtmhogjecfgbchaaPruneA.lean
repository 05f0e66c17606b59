import Derived.Test.YtmhogjecfgbchaaDentZ
namespace Go.Proofs.Ytmhogjecfgbchaa
set_option linter.unusedVariables false
set_option linter.unusedSimpArgs false
open Go.RowKit
attribute [local go_sem ↓] Go.wp_at_zero Go.wp_at_succ

def vicP (neg : Bool) (L : List En) (x : En) : Bool := if neg then x.neg else leafL x.key L
/-- the entry that goes next -/
def vicL (neg : Bool) (L : List En) : Option En := L.find? (vicP neg L)
def vicK (neg : Bool) (L : List En) : Ky := ((vicL neg L).map En.key).getD ⟨0, ByteArray.empty⟩

theorem vic_leaf (w : World) (B p n : Nat) (L : List En) (wh : Int → Bool) (q : Nat) (x : En) (h : CAt w B p n L wh) (hq : w.heap[q]? = some (.cells #[.pointer (some ⟨p, 0, none⟩)] 23)) :
    Calls Try.prog 68 #[.agg #[.int .i64 x.key.dir, .string x.key.name, .bool x.neg, .int .i64 x.node.id, .int .i64 x.node.kind, .int .i64 x.node.mode, .string x.node.target], .pointer (some ⟨q, 0, none⟩)] w fun r w' => r = .returned (.bool (leafL x.key L)) ∧ Below w.heap.size w w' := by
  have HC := hid (h.below (bl1 w (.cells #[.int .i64 x.key.dir, .string x.key.name, .bool x.neg, .int .i64 x.node.id, .int .i64 x.node.kind, .int .i64 x.node.mode, .string x.node.target] 30)))
  have bq := blk1 (heap_old hq (.cells #[.int .i64 x.key.dir, .string x.key.name, .bool x.neg, .int .i64 x.node.id, .int .i64 x.node.kind, .int .i64 x.node.mode, .string x.node.target] 30))
  have bx := blk7 (heap_new w (.cells #[.int .i64 x.key.dir, .string x.key.name, .bool x.neg, .int .i64 x.node.id, .int .i64 x.node.kind, .int .i64 x.node.mode, .string x.node.target] 30))
  clear h hq
  go_enter Try.func68, Try.ntmps68
  go_wp2_with (go_at_call 35; refine (c_leaf _ _ _ _ _ _ x.key HC.out).mono ?_; rintro r w3 ⟨rfl, hb3⟩)
  go_ret
  exact ⟨rfl, (bl1 w _).trans (hb3.mono (by simp))⟩

theorem vic_neg (w : World) (x : En) :
    Calls Try.prog 69 #[.agg #[.int .i64 x.key.dir, .string x.key.name, .bool x.neg, .int .i64 x.node.id, .int .i64 x.node.kind, .int .i64 x.node.mode, .string x.node.target]] w fun r w' => r = .returned (.bool x.neg) ∧ Below w.heap.size w w' := by
  have bx := blk7 (heap_new w (.cells #[.int .i64 x.key.dir, .string x.key.name, .bool x.neg, .int .i64 x.node.id, .int .i64 x.node.kind, .int .i64 x.node.mode, .string x.node.target] 30))
  go_enter Try.func69, Try.ntmps69
  go_wp2
  go_ret
  exact ⟨rfl, bl1 w _⟩

theorem find_snoc_none {α : Type} {f : α → Bool} {L : List α} {x : α} (h : L.find? f = none) (hx : f x = false) : (L ++ [x]).find? f = none := by
  rw [List.find?_append, h]; simp [hx]
theorem find_take {α : Type} {f : α → Bool} {L : List α} {i : Nat} {x : α} (h : (L.take i).find? f = none) (hx : L[i]? = some x) (hf : f x = true) : L.find? f = some x := by
  have hlt := (List.getElem?_eq_some_iff.1 hx).1
  rw [← List.take_append_drop i L, List.find?_append, h, List.drop_eq_getElem_cons hlt, (List.getElem?_eq_some_iff.1 hx).2]
  simp [hf]

set_option maxHeartbeats 2000000 in
theorem c_victim (w : World) (B p n : Nat) (L : List En) (wh : Int → Bool) (neg : Bool) (h : CAt w B p n L wh) (hn : n * 80 ≤ 140737488351232) :
    Calls Try.prog 45 #[.pointer (some ⟨p, 0, none⟩), .bool neg] w fun r w' => r = .returned (.tuple #[.agg #[.int .i64 (vicK neg L).dir, .string (vicK neg L).name], .bool (vicL neg L).isSome]) ∧ Below w.heap.size w w' := by
  have hLn := h.len
  have HC0 := hid ((h.below (bl1 w (.cells #[.pointer (some ⟨p, 0, none⟩)] 23))).below (bl1 _ (.cells #[.int .i64 0, .string { data := #[] }] 26)))
  have KP0 := hid (heap_old (heap_new w (.cells #[.pointer (some ⟨p, 0, none⟩)] 23)) (.cells #[.int .i64 0, .string { data := #[] }] 26))
  have KZ0 := hid (show ((w.alloc (.cells #[.pointer (some ⟨p, 0, none⟩)] 23)).alloc (.cells #[.int .i64 0, .string { data := #[] }] 26)).heap[w.heap.size + 1]? = some (.cells #[.int .i64 0, .string { data := #[] }] 26) by have e := heap_new (w.alloc (.cells #[.pointer (some ⟨p, 0, none⟩)] 23)) (.cells #[.int .i64 0, .string { data := #[] }] 26); rw [World.size_alloc] at e; exact e)
  have BB0 := hid (bl2 w (.cells #[.pointer (some ⟨p, 0, none⟩)] 23) (.cells #[.int .i64 0, .string { data := #[] }] 26))
  have b1 := blk1 KP0.out
  clear h
  cases neg with
  | false =>
    go_enter Try.func45, Try.ntmps45
    go_wp2_with (go_at_call 32; refine (c_entries _ _ p _ _ _ HC0.out hn).mono ?_; rintro r w1 ⟨a1, c1, rfl, hown1, hb1⟩; (have HC1 := hid (HC0.out.below hb1)); (have KP1 := hid (heap_below hb1 KP0.out (blk_lt KP0.out))); (have KZ1 := hid (heap_below hb1 KZ0.out (blk_lt KZ0.out))); (have BB1 := hid (BB0.out.trans (hb1.mono BB0.out.size))); (have OW1 := hid hown1); clear hown1 hb1 b1)
    go_loopw [14] (fun v14 wr => ∃ (i : Nat), i ≤ L.length ∧ v14 = .int .i64 i ∧ Hid (Below w1.heap.size w1 wr) ∧ Hid ((L.take i).find? (vicP false L) = none)) (fun v14 _ => L.length - (intOf v14).toNat)
    case atStart => exact ⟨0, Nat.zero_le _, rfl, hid (Below.refl _ _), hid (by simp)⟩
    case round =>
      obtain ⟨i, hi, rfl, HB, HN⟩ := hrel
      have hzz := HB.out.size
      have BBz := hid (BB1.out.trans (HB.out.mono BB1.out.size))
      have KZz := hid (heap_below HB.out KZ1.out (blk_lt KZ1.out))
      by_cases hlt : i < L.length
      · have hi0 : (0 : Int) ≤ (i : Int) := by omega
        have hi1 : (i : Int) < (L.length : Int) := by omega
        have OWr := hid (own_below OW1.out HB.out)
        obtain ⟨g, hag, hBg, hgz, hc1, hc2⟩ := own_loc OWr.out (by omega)
        obtain ⟨y, hy⟩ : ∃ y, L[i]? = some y := ⟨_, List.getElem?_eq_getElem hlt⟩
        subst hag
        have b2 := ecs_at (Rd.own OWr.out) hy
        have bb := blk7 (heap_new wr (.cells #[.int .i64 y.key.dir, .string y.key.name, .bool y.neg, .int .i64 y.node.id, .int .i64 y.node.kind, .int .i64 y.node.mode, .string y.node.target] 30))
        have HY := hid hy
        have KZr := hid (heap_old KZz.out (.cells #[.int .i64 y.key.dir, .string y.key.name, .bool y.neg, .int .i64 y.node.id, .int .i64 y.node.kind, .int .i64 y.node.mode, .string y.node.target] 30))
        have BBr := hid (BBz.out.alloc BBz.out.size (.cells #[.int .i64 y.key.dir, .string y.key.name, .bool y.neg, .int .i64 y.node.id, .int .i64 y.node.kind, .int .i64 y.node.mode, .string y.node.target] 30))
        have HCr := hid ((HC1.out.below HB.out).below (bl1 wr (.cells #[.int .i64 y.key.dir, .string y.key.name, .bool y.neg, .int .i64 y.node.id, .int .i64 y.node.kind, .int .i64 y.node.mode, .string y.node.target] 30)))
        have KPr := hid (heap_old (heap_below HB.out KP1.out (blk_lt KP1.out)) (.cells #[.int .i64 y.key.dir, .string y.key.name, .bool y.neg, .int .i64 y.node.id, .int .i64 y.node.kind, .int .i64 y.node.mode, .string y.node.target] 30))
        have htk : L.take (i + 1) = L.take i ++ [y] := by rw [List.take_add_one, hy]; rfl
        have HTK := hid htk
        clear hy htk
        cases hv : leafL y.key L with
        | true =>
          have HV := hid hv
          have HF := hid (show vicL false L = some y from find_take HN.out HY.out (by simp [vicP, hv]))
          clear hv
          go_wp2_with (go_at_call 68; refine (vic_leaf _ _ p _ L _ w.heap.size y HCr.out KPr.out).mono ?_; rintro r w4 ⟨rfl, hb4⟩; rw [HV.out]; (have KZ4 := hid (heap_below hb4 KZr.out (blk_lt KZr.out))); (have BB4 := hid (BBr.out.trans (hb4.mono BBr.out.size))); (have HB4 := hid (HB.out.trans ((bl1 wr (.cells #[.int .i64 y.key.dir, .string y.key.name, .bool y.neg, .int .i64 y.node.id, .int .i64 y.node.kind, .int .i64 y.node.mode, .string y.node.target] 30)).mono HB.out.size |>.trans (hb4.mono (by simp; omega))))); (have KY4 := hid (heap_below hb4 (heap_new wr (.cells #[.int .i64 y.key.dir, .string y.key.name, .bool y.neg, .int .i64 y.node.id, .int .i64 y.node.kind, .int .i64 y.node.mode, .string y.node.target] 30)) (by simp))); (have bz4 := blk2 KZ4.out); (have by4 := blk7 KY4.out); clear hb4)
          have hk3 := heap_set (heap_set KZ4.out 0 (.int .i64 y.key.dir)) 1 (.string y.key.name)
          have hz3 := blk2 (x0 := .int .i64 y.key.dir) (x1 := .string y.key.name) (by simpa using hk3)
          refine bodyPost_ret (v := .tuple #[.agg #[.int .i64 y.key.dir, .string y.key.name], .bool true]) (by simp [results, Try.results45, go_sem, hz3]) rfl ⟨by rw [show vicK false L = y.key by simp [vicK, HF.out], HF.out]; rfl, ?_⟩
          exact (BB4.out.setCell (by simp) _).setCell (by simp) _
        | false =>
          have HV := hid hv
          have HF := hid (find_snoc_none HN.out (show vicP false L y = false by simp [vicP, hv]))
          clear hv
          go_wp2_with (go_at_call 68; refine (vic_leaf _ _ p _ L _ w.heap.size y HCr.out KPr.out).mono ?_; rintro r w4 ⟨rfl, hb4⟩; rw [HV.out]; (have KZ4 := hid (heap_below hb4 KZr.out (blk_lt KZr.out))); (have BB4 := hid (BBr.out.trans (hb4.mono BBr.out.size))); (have HB4 := hid (HB.out.trans ((bl1 wr (.cells #[.int .i64 y.key.dir, .string y.key.name, .bool y.neg, .int .i64 y.node.id, .int .i64 y.node.kind, .int .i64 y.node.mode, .string y.node.target] 30)).mono HB.out.size |>.trans (hb4.mono (by simp; omega))))); (have KY4 := hid (heap_below hb4 (heap_new wr (.cells #[.int .i64 y.key.dir, .string y.key.name, .bool y.neg, .int .i64 y.node.id, .int .i64 y.node.kind, .int .i64 y.node.mode, .string y.node.target] 30)) (by simp))); (have bz4 := blk2 KZ4.out); (have by4 := blk7 KY4.out); clear hb4)
          exact ⟨⟨i + 1, by omega, by go_num, HB4, hid (by rw [HTK.out]; exact HF.out)⟩, by simp [intOf]; omega⟩
      · have HF := hid (show vicL false L = none by have := HN.out; rw [List.take_of_length_le (by omega)] at this; exact this)
        have bz := blk2 KZz.out
        go_wp2
        have hk3 := heap_set (heap_set KZz.out 0 (.int .i64 0)) 1 (.string { data := #[] })
        have hz3 := blk2 (x0 := .int .i64 0) (x1 := .string { data := #[] }) (by simpa using hk3)
        refine bodyPost_ret (v := .tuple #[.agg #[.int .i64 0, .string { data := #[] }], .bool false]) (by simp [results, Try.results45, go_sem, hz3]) rfl ⟨by rw [show vicK false L = ⟨0, ByteArray.empty⟩ by simp [vicK, HF.out], HF.out]; rfl, ?_⟩
        exact (BBz.out.setCell (by simp) _).setCell (by simp) _
  | true =>
    go_enter Try.func45, Try.ntmps45
    go_wp2_with (go_at_call 32; refine (c_entries _ _ p _ _ _ HC0.out hn).mono ?_; rintro r w1 ⟨a1, c1, rfl, hown1, hb1⟩; (have HC1 := hid (HC0.out.below hb1)); (have KP1 := hid (heap_below hb1 KP0.out (blk_lt KP0.out))); (have KZ1 := hid (heap_below hb1 KZ0.out (blk_lt KZ0.out))); (have BB1 := hid (BB0.out.trans (hb1.mono BB0.out.size))); (have OW1 := hid hown1); clear hown1 hb1 b1)
    go_loopw [14] (fun v14 wr => ∃ (i : Nat), i ≤ L.length ∧ v14 = .int .i64 i ∧ Hid (Below w1.heap.size w1 wr) ∧ Hid ((L.take i).find? (vicP true L) = none)) (fun v14 _ => L.length - (intOf v14).toNat)
    case atStart => exact ⟨0, Nat.zero_le _, rfl, hid (Below.refl _ _), hid (by simp)⟩
    case round =>
      obtain ⟨i, hi, rfl, HB, HN⟩ := hrel
      have hzz := HB.out.size
      have BBz := hid (BB1.out.trans (HB.out.mono BB1.out.size))
      have KZz := hid (heap_below HB.out KZ1.out (blk_lt KZ1.out))
      by_cases hlt : i < L.length
      · have hi0 : (0 : Int) ≤ (i : Int) := by omega
        have hi1 : (i : Int) < (L.length : Int) := by omega
        have OWr := hid (own_below OW1.out HB.out)
        obtain ⟨g, hag, hBg, hgz, hc1, hc2⟩ := own_loc OWr.out (by omega)
        obtain ⟨y, hy⟩ : ∃ y, L[i]? = some y := ⟨_, List.getElem?_eq_getElem hlt⟩
        subst hag
        have b2 := ecs_at (Rd.own OWr.out) hy
        have bb := blk7 (heap_new wr (.cells #[.int .i64 y.key.dir, .string y.key.name, .bool y.neg, .int .i64 y.node.id, .int .i64 y.node.kind, .int .i64 y.node.mode, .string y.node.target] 30))
        have HY := hid hy
        have KZr := hid (heap_old KZz.out (.cells #[.int .i64 y.key.dir, .string y.key.name, .bool y.neg, .int .i64 y.node.id, .int .i64 y.node.kind, .int .i64 y.node.mode, .string y.node.target] 30))
        have BBr := hid (BBz.out.alloc BBz.out.size (.cells #[.int .i64 y.key.dir, .string y.key.name, .bool y.neg, .int .i64 y.node.id, .int .i64 y.node.kind, .int .i64 y.node.mode, .string y.node.target] 30))
        have HCr := hid ((HC1.out.below HB.out).below (bl1 wr (.cells #[.int .i64 y.key.dir, .string y.key.name, .bool y.neg, .int .i64 y.node.id, .int .i64 y.node.kind, .int .i64 y.node.mode, .string y.node.target] 30)))
        have KPr := hid (heap_old (heap_below HB.out KP1.out (blk_lt KP1.out)) (.cells #[.int .i64 y.key.dir, .string y.key.name, .bool y.neg, .int .i64 y.node.id, .int .i64 y.node.kind, .int .i64 y.node.mode, .string y.node.target] 30))
        have htk : L.take (i + 1) = L.take i ++ [y] := by rw [List.take_add_one, hy]; rfl
        have HTK := hid htk
        clear hy htk
        cases hv : y.neg with
        | true =>
          have HV := hid hv
          have HF := hid (show vicL true L = some y from find_take HN.out HY.out (by simp [vicP, hv]))
          clear hv
          go_wp2_with (go_at_call 69; refine (vic_neg _ y).mono ?_; rintro r w4 ⟨rfl, hb4⟩; rw [HV.out]; (have KZ4 := hid (heap_below hb4 KZr.out (blk_lt KZr.out))); (have BB4 := hid (BBr.out.trans (hb4.mono BBr.out.size))); (have HB4 := hid (HB.out.trans ((bl1 wr (.cells #[.int .i64 y.key.dir, .string y.key.name, .bool y.neg, .int .i64 y.node.id, .int .i64 y.node.kind, .int .i64 y.node.mode, .string y.node.target] 30)).mono HB.out.size |>.trans (hb4.mono (by simp; omega))))); (have KY4 := hid (heap_below hb4 (heap_new wr (.cells #[.int .i64 y.key.dir, .string y.key.name, .bool y.neg, .int .i64 y.node.id, .int .i64 y.node.kind, .int .i64 y.node.mode, .string y.node.target] 30)) (by simp))); (have bz4 := blk2 KZ4.out); (have by4 := blk7 KY4.out); clear hb4)
          have hk3 := heap_set (heap_set KZ4.out 0 (.int .i64 y.key.dir)) 1 (.string y.key.name)
          have hz3 := blk2 (x0 := .int .i64 y.key.dir) (x1 := .string y.key.name) (by simpa using hk3)
          refine bodyPost_ret (v := .tuple #[.agg #[.int .i64 y.key.dir, .string y.key.name], .bool true]) (by simp [results, Try.results45, go_sem, hz3]) rfl ⟨by rw [show vicK true L = y.key by simp [vicK, HF.out], HF.out]; rfl, ?_⟩
          exact (BB4.out.setCell (by simp) _).setCell (by simp) _
        | false =>
          have HV := hid hv
          have HF := hid (find_snoc_none HN.out (show vicP true L y = false by simp [vicP, hv]))
          clear hv
          go_wp2_with (go_at_call 69; refine (vic_neg _ y).mono ?_; rintro r w4 ⟨rfl, hb4⟩; rw [HV.out]; (have KZ4 := hid (heap_below hb4 KZr.out (blk_lt KZr.out))); (have BB4 := hid (BBr.out.trans (hb4.mono BBr.out.size))); (have HB4 := hid (HB.out.trans ((bl1 wr (.cells #[.int .i64 y.key.dir, .string y.key.name, .bool y.neg, .int .i64 y.node.id, .int .i64 y.node.kind, .int .i64 y.node.mode, .string y.node.target] 30)).mono HB.out.size |>.trans (hb4.mono (by simp; omega))))); (have KY4 := hid (heap_below hb4 (heap_new wr (.cells #[.int .i64 y.key.dir, .string y.key.name, .bool y.neg, .int .i64 y.node.id, .int .i64 y.node.kind, .int .i64 y.node.mode, .string y.node.target] 30)) (by simp))); (have bz4 := blk2 KZ4.out); (have by4 := blk7 KY4.out); clear hb4)
          exact ⟨⟨i + 1, by omega, by go_num, HB4, hid (by rw [HTK.out]; exact HF.out)⟩, by simp [intOf]; omega⟩
      · have HF := hid (show vicL true L = none by have := HN.out; rw [List.take_of_length_le (by omega)] at this; exact this)
        have bz := blk2 KZz.out
        go_wp2
        have hk3 := heap_set (heap_set KZz.out 0 (.int .i64 0)) 1 (.string { data := #[] })
        have hz3 := blk2 (x0 := .int .i64 0) (x1 := .string { data := #[] }) (by simpa using hk3)
        refine bodyPost_ret (v := .tuple #[.agg #[.int .i64 0, .string { data := #[] }], .bool false]) (by simp [results, Try.results45, go_sem, hz3]) rfl ⟨by rw [show vicK true L = ⟨0, ByteArray.empty⟩ by simp [vicK, HF.out], HF.out]; rfl, ?_⟩
        exact (BBz.out.setCell (by simp) _).setCell (by simp) _

end Go.Proofs.Ytmhogjecfgbchaa
