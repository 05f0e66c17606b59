/- Parts of a proof about the given program, in build order: PruneA, PruneB, PruneC. No condition. -/
import Derived.Test.YtbjibkjenleloaaGreatDoorMg06
section
namespace Go.Proofs.YtbjibkjenleloaaGreatDoor
set_option linter.unusedVariables false
set_option linter.unusedSimpArgs false
open Go.RowKit
attribute [local go_sem ↓] Go.wp_at_zero Go.wp_at_succ

def vicP (neg : Bool) (L : List En) (x : En) : Bool := if neg then x.neg else leafL x.key L
/-- the entry that goes next -/
def vicL (neg : Bool) (L : List En) : Option En := L.find? (vicP neg L)
def vicK (neg : Bool) (L : List En) : Ky := ((vicL neg L).map En.key).getD ⟨0, ByteArray.empty⟩

theorem vic_leaf (w : World) (B p n : Nat) (L : List En) (wh : Int → Bool) (q : Nat) (x : En) (h : CAt w B p n L wh) (hq : w.heap[q]? = some (.cells #[.pointer (some ⟨p, 0, none⟩)] 84)) :
    Calls Tryz.prog 120 #[.agg #[.int .i64 x.key.dir, .string x.key.name, .bool x.neg, .int .i64 x.node.id, .int .i64 x.node.kind, .int .i64 x.node.mode, .string x.node.target], .pointer (some ⟨q, 0, none⟩)] w fun r w' => r = .returned (.bool (leafL x.key L)) ∧ Below w.heap.size w w' := by
  have HC := hid (h.below (bl1 w (.cells #[.int .i64 x.key.dir, .string x.key.name, .bool x.neg, .int .i64 x.node.id, .int .i64 x.node.kind, .int .i64 x.node.mode, .string x.node.target] 55)))
  have bq := blk1 (heap_old hq (.cells #[.int .i64 x.key.dir, .string x.key.name, .bool x.neg, .int .i64 x.node.id, .int .i64 x.node.kind, .int .i64 x.node.mode, .string x.node.target] 55))
  have bx := blk7 (heap_new w (.cells #[.int .i64 x.key.dir, .string x.key.name, .bool x.neg, .int .i64 x.node.id, .int .i64 x.node.kind, .int .i64 x.node.mode, .string x.node.target] 55))
  clear h hq
  go_enter Tryz.func120, Tryz.ntmps120
  go_wp2_with (go_at_call 121; refine (c_leaf _ _ _ _ _ _ x.key HC.out).mono ?_; rintro r w3 ⟨rfl, hb3⟩)
  go_ret
  exact ⟨rfl, (bl1 w _).trans (hb3.mono (by simp))⟩

theorem vic_neg (w : World) (x : En) :
    Calls Tryz.prog 122 #[.agg #[.int .i64 x.key.dir, .string x.key.name, .bool x.neg, .int .i64 x.node.id, .int .i64 x.node.kind, .int .i64 x.node.mode, .string x.node.target]] w fun r w' => r = .returned (.bool x.neg) ∧ Below w.heap.size w w' := by
  have bx := blk7 (heap_new w (.cells #[.int .i64 x.key.dir, .string x.key.name, .bool x.neg, .int .i64 x.node.id, .int .i64 x.node.kind, .int .i64 x.node.mode, .string x.node.target] 55))
  go_enter Tryz.func122, Tryz.ntmps122
  go_wp2
  go_ret
  exact ⟨rfl, bl1 w _⟩

theorem find_snoc_none {α : Type} {f : α → Bool} {L : List α} {x : α} (h : L.find? f = none) (hx : f x = false) : (L ++ [x]).find? f = none := by
  rw [List.find?_append, h]; simp [hx]
theorem find_take {α : Type} {f : α → Bool} {L : List α} {i : Nat} {x : α} (h : (L.take i).find? f = none) (hx : L[i]? = some x) (hf : f x = true) : L.find? f = some x := by
  have hlt := (List.getElem?_eq_some_iff.1 hx).1
  rw [← List.take_append_drop i L, List.find?_append, h, List.drop_eq_getElem_cons hlt, (List.getElem?_eq_some_iff.1 hx).2]
  simp [hf]

set_option maxHeartbeats 2000000 in
theorem c_victim (w : World) (B p n : Nat) (L : List En) (wh : Int → Bool) (neg : Bool) (h : CAt w B p n L wh) (hn : n * 80 ≤ 140737488351232) :
    Calls Tryz.prog 102 #[.pointer (some ⟨p, 0, none⟩), .bool neg] w fun r w' => r = .returned (.tuple #[.agg #[.int .i64 (vicK neg L).dir, .string (vicK neg L).name], .bool (vicL neg L).isSome]) ∧ Below w.heap.size w w' := by
  have hLn := h.len
  have HC0 := hid ((h.below (bl1 w (.cells #[.pointer (some ⟨p, 0, none⟩)] 84))).below (bl1 _ (.cells #[.int .i64 0, .string { data := #[] }] 53)))
  have KP0 := hid (heap_old (heap_new w (.cells #[.pointer (some ⟨p, 0, none⟩)] 84)) (.cells #[.int .i64 0, .string { data := #[] }] 53))
  have KZ0 := hid (show ((w.alloc (.cells #[.pointer (some ⟨p, 0, none⟩)] 84)).alloc (.cells #[.int .i64 0, .string { data := #[] }] 53)).heap[w.heap.size + 1]? = some (.cells #[.int .i64 0, .string { data := #[] }] 53) by have e := heap_new (w.alloc (.cells #[.pointer (some ⟨p, 0, none⟩)] 84)) (.cells #[.int .i64 0, .string { data := #[] }] 53); rw [World.size_alloc] at e; exact e)
  have BB0 := hid (bl2 w (.cells #[.pointer (some ⟨p, 0, none⟩)] 84) (.cells #[.int .i64 0, .string { data := #[] }] 53))
  have b1 := blk1 KP0.out
  clear h
  cases neg with
  | false =>
    go_enter Tryz.func102, Tryz.ntmps102
    go_wp2_with (go_at_call 36; refine (c_entries _ _ p _ _ _ HC0.out hn).mono ?_; rintro r w1 ⟨a1, c1, rfl, hown1, hb1⟩; (have HC1 := hid (HC0.out.below hb1)); (have KP1 := hid (heap_below hb1 KP0.out (blk_lt KP0.out))); (have KZ1 := hid (heap_below hb1 KZ0.out (blk_lt KZ0.out))); (have BB1 := hid (BB0.out.trans (hb1.mono BB0.out.size))); (have OW1 := hid hown1); clear hown1 hb1 b1)
    go_loopw [14] (fun v14 wr => ∃ (i : Nat), i ≤ L.length ∧ v14 = .int .i64 i ∧ Hid (Below w1.heap.size w1 wr) ∧ Hid ((L.take i).find? (vicP false L) = none)) (fun v14 _ => L.length - (intOf v14).toNat)
    case atStart => exact ⟨0, Nat.zero_le _, rfl, hid (Below.refl _ _), hid (by simp)⟩
    case round =>
      obtain ⟨i, hi, rfl, HB, HN⟩ := hrel
      have hzz := HB.out.size
      have BBz := hid (BB1.out.trans (HB.out.mono BB1.out.size))
      have KZz := hid (heap_below HB.out KZ1.out (blk_lt KZ1.out))
      by_cases hlt : i < L.length
      · have hi0 : (0 : Int) ≤ (i : Int) := by omega
        have hi1 : (i : Int) < (L.length : Int) := by omega
        have OWr := hid (own_below OW1.out HB.out)
        obtain ⟨g, hag, hBg, hgz, hc1, hc2⟩ := own_loc OWr.out (by omega)
        obtain ⟨y, hy⟩ : ∃ y, L[i]? = some y := ⟨_, List.getElem?_eq_getElem hlt⟩
        subst hag
        have b2 := ecs_at (Rd.own OWr.out) hy
        have bb := blk7 (heap_new wr (.cells #[.int .i64 y.key.dir, .string y.key.name, .bool y.neg, .int .i64 y.node.id, .int .i64 y.node.kind, .int .i64 y.node.mode, .string y.node.target] 55))
        have HY := hid hy
        have KZr := hid (heap_old KZz.out (.cells #[.int .i64 y.key.dir, .string y.key.name, .bool y.neg, .int .i64 y.node.id, .int .i64 y.node.kind, .int .i64 y.node.mode, .string y.node.target] 55))
        have BBr := hid (BBz.out.alloc BBz.out.size (.cells #[.int .i64 y.key.dir, .string y.key.name, .bool y.neg, .int .i64 y.node.id, .int .i64 y.node.kind, .int .i64 y.node.mode, .string y.node.target] 55))
        have HCr := hid ((HC1.out.below HB.out).below (bl1 wr (.cells #[.int .i64 y.key.dir, .string y.key.name, .bool y.neg, .int .i64 y.node.id, .int .i64 y.node.kind, .int .i64 y.node.mode, .string y.node.target] 55)))
        have KPr := hid (heap_old (heap_below HB.out KP1.out (blk_lt KP1.out)) (.cells #[.int .i64 y.key.dir, .string y.key.name, .bool y.neg, .int .i64 y.node.id, .int .i64 y.node.kind, .int .i64 y.node.mode, .string y.node.target] 55))
        have htk : L.take (i + 1) = L.take i ++ [y] := by rw [List.take_add_one, hy]; rfl
        have HTK := hid htk
        clear hy htk
        cases hv : leafL y.key L with
        | true =>
          have HV := hid hv
          have HF := hid (show vicL false L = some y from find_take HN.out HY.out (by simp [vicP, hv]))
          clear hv
          go_wp2_with (go_at_call 120; refine (vic_leaf _ _ p _ L _ w.heap.size y HCr.out KPr.out).mono ?_; rintro r w4 ⟨rfl, hb4⟩; rw [HV.out]; (have KZ4 := hid (heap_below hb4 KZr.out (blk_lt KZr.out))); (have BB4 := hid (BBr.out.trans (hb4.mono BBr.out.size))); (have HB4 := hid (HB.out.trans ((bl1 wr (.cells #[.int .i64 y.key.dir, .string y.key.name, .bool y.neg, .int .i64 y.node.id, .int .i64 y.node.kind, .int .i64 y.node.mode, .string y.node.target] 55)).mono HB.out.size |>.trans (hb4.mono (by simp; omega))))); (have KY4 := hid (heap_below hb4 (heap_new wr (.cells #[.int .i64 y.key.dir, .string y.key.name, .bool y.neg, .int .i64 y.node.id, .int .i64 y.node.kind, .int .i64 y.node.mode, .string y.node.target] 55)) (by simp))); (have bz4 := blk2 KZ4.out); (have by4 := blk7 KY4.out); clear hb4)
          have hk3 := heap_set (heap_set KZ4.out 0 (.int .i64 y.key.dir)) 1 (.string y.key.name)
          have hz3 := blk2 (x0 := .int .i64 y.key.dir) (x1 := .string y.key.name) (by simpa using hk3)
          refine bodyPost_ret (v := .tuple #[.agg #[.int .i64 y.key.dir, .string y.key.name], .bool true]) (by simp [results, Tryz.results102, go_sem, hz3]) rfl ⟨by rw [show vicK false L = y.key by simp [vicK, HF.out], HF.out]; rfl, ?_⟩
          exact (BB4.out.setCell (by simp) _).setCell (by simp) _
        | false =>
          have HV := hid hv
          have HF := hid (find_snoc_none HN.out (show vicP false L y = false by simp [vicP, hv]))
          clear hv
          go_wp2_with (go_at_call 120; refine (vic_leaf _ _ p _ L _ w.heap.size y HCr.out KPr.out).mono ?_; rintro r w4 ⟨rfl, hb4⟩; rw [HV.out]; (have KZ4 := hid (heap_below hb4 KZr.out (blk_lt KZr.out))); (have BB4 := hid (BBr.out.trans (hb4.mono BBr.out.size))); (have HB4 := hid (HB.out.trans ((bl1 wr (.cells #[.int .i64 y.key.dir, .string y.key.name, .bool y.neg, .int .i64 y.node.id, .int .i64 y.node.kind, .int .i64 y.node.mode, .string y.node.target] 55)).mono HB.out.size |>.trans (hb4.mono (by simp; omega))))); (have KY4 := hid (heap_below hb4 (heap_new wr (.cells #[.int .i64 y.key.dir, .string y.key.name, .bool y.neg, .int .i64 y.node.id, .int .i64 y.node.kind, .int .i64 y.node.mode, .string y.node.target] 55)) (by simp))); (have bz4 := blk2 KZ4.out); (have by4 := blk7 KY4.out); clear hb4)
          exact ⟨⟨i + 1, by omega, by go_num, HB4, hid (by rw [HTK.out]; exact HF.out)⟩, by simp [intOf]; omega⟩
      · have HF := hid (show vicL false L = none by have := HN.out; rw [List.take_of_length_le (by omega)] at this; exact this)
        have bz := blk2 KZz.out
        go_wp2
        have hk3 := heap_set (heap_set KZz.out 0 (.int .i64 0)) 1 (.string { data := #[] })
        have hz3 := blk2 (x0 := .int .i64 0) (x1 := .string { data := #[] }) (by simpa using hk3)
        refine bodyPost_ret (v := .tuple #[.agg #[.int .i64 0, .string { data := #[] }], .bool false]) (by simp [results, Tryz.results102, go_sem, hz3]) rfl ⟨by rw [show vicK false L = ⟨0, ByteArray.empty⟩ by simp [vicK, HF.out], HF.out]; rfl, ?_⟩
        exact (BBz.out.setCell (by simp) _).setCell (by simp) _
  | true =>
    go_enter Tryz.func102, Tryz.ntmps102
    go_wp2_with (go_at_call 36; refine (c_entries _ _ p _ _ _ HC0.out hn).mono ?_; rintro r w1 ⟨a1, c1, rfl, hown1, hb1⟩; (have HC1 := hid (HC0.out.below hb1)); (have KP1 := hid (heap_below hb1 KP0.out (blk_lt KP0.out))); (have KZ1 := hid (heap_below hb1 KZ0.out (blk_lt KZ0.out))); (have BB1 := hid (BB0.out.trans (hb1.mono BB0.out.size))); (have OW1 := hid hown1); clear hown1 hb1 b1)
    go_loopw [14] (fun v14 wr => ∃ (i : Nat), i ≤ L.length ∧ v14 = .int .i64 i ∧ Hid (Below w1.heap.size w1 wr) ∧ Hid ((L.take i).find? (vicP true L) = none)) (fun v14 _ => L.length - (intOf v14).toNat)
    case atStart => exact ⟨0, Nat.zero_le _, rfl, hid (Below.refl _ _), hid (by simp)⟩
    case round =>
      obtain ⟨i, hi, rfl, HB, HN⟩ := hrel
      have hzz := HB.out.size
      have BBz := hid (BB1.out.trans (HB.out.mono BB1.out.size))
      have KZz := hid (heap_below HB.out KZ1.out (blk_lt KZ1.out))
      by_cases hlt : i < L.length
      · have hi0 : (0 : Int) ≤ (i : Int) := by omega
        have hi1 : (i : Int) < (L.length : Int) := by omega
        have OWr := hid (own_below OW1.out HB.out)
        obtain ⟨g, hag, hBg, hgz, hc1, hc2⟩ := own_loc OWr.out (by omega)
        obtain ⟨y, hy⟩ : ∃ y, L[i]? = some y := ⟨_, List.getElem?_eq_getElem hlt⟩
        subst hag
        have b2 := ecs_at (Rd.own OWr.out) hy
        have bb := blk7 (heap_new wr (.cells #[.int .i64 y.key.dir, .string y.key.name, .bool y.neg, .int .i64 y.node.id, .int .i64 y.node.kind, .int .i64 y.node.mode, .string y.node.target] 55))
        have HY := hid hy
        have KZr := hid (heap_old KZz.out (.cells #[.int .i64 y.key.dir, .string y.key.name, .bool y.neg, .int .i64 y.node.id, .int .i64 y.node.kind, .int .i64 y.node.mode, .string y.node.target] 55))
        have BBr := hid (BBz.out.alloc BBz.out.size (.cells #[.int .i64 y.key.dir, .string y.key.name, .bool y.neg, .int .i64 y.node.id, .int .i64 y.node.kind, .int .i64 y.node.mode, .string y.node.target] 55))
        have HCr := hid ((HC1.out.below HB.out).below (bl1 wr (.cells #[.int .i64 y.key.dir, .string y.key.name, .bool y.neg, .int .i64 y.node.id, .int .i64 y.node.kind, .int .i64 y.node.mode, .string y.node.target] 55)))
        have KPr := hid (heap_old (heap_below HB.out KP1.out (blk_lt KP1.out)) (.cells #[.int .i64 y.key.dir, .string y.key.name, .bool y.neg, .int .i64 y.node.id, .int .i64 y.node.kind, .int .i64 y.node.mode, .string y.node.target] 55))
        have htk : L.take (i + 1) = L.take i ++ [y] := by rw [List.take_add_one, hy]; rfl
        have HTK := hid htk
        clear hy htk
        cases hv : y.neg with
        | true =>
          have HV := hid hv
          have HF := hid (show vicL true L = some y from find_take HN.out HY.out (by simp [vicP, hv]))
          clear hv
          go_wp2_with (go_at_call 122; refine (vic_neg _ y).mono ?_; rintro r w4 ⟨rfl, hb4⟩; rw [HV.out]; (have KZ4 := hid (heap_below hb4 KZr.out (blk_lt KZr.out))); (have BB4 := hid (BBr.out.trans (hb4.mono BBr.out.size))); (have HB4 := hid (HB.out.trans ((bl1 wr (.cells #[.int .i64 y.key.dir, .string y.key.name, .bool y.neg, .int .i64 y.node.id, .int .i64 y.node.kind, .int .i64 y.node.mode, .string y.node.target] 55)).mono HB.out.size |>.trans (hb4.mono (by simp; omega))))); (have KY4 := hid (heap_below hb4 (heap_new wr (.cells #[.int .i64 y.key.dir, .string y.key.name, .bool y.neg, .int .i64 y.node.id, .int .i64 y.node.kind, .int .i64 y.node.mode, .string y.node.target] 55)) (by simp))); (have bz4 := blk2 KZ4.out); (have by4 := blk7 KY4.out); clear hb4)
          have hk3 := heap_set (heap_set KZ4.out 0 (.int .i64 y.key.dir)) 1 (.string y.key.name)
          have hz3 := blk2 (x0 := .int .i64 y.key.dir) (x1 := .string y.key.name) (by simpa using hk3)
          refine bodyPost_ret (v := .tuple #[.agg #[.int .i64 y.key.dir, .string y.key.name], .bool true]) (by simp [results, Tryz.results102, go_sem, hz3]) rfl ⟨by rw [show vicK true L = y.key by simp [vicK, HF.out], HF.out]; rfl, ?_⟩
          exact (BB4.out.setCell (by simp) _).setCell (by simp) _
        | false =>
          have HV := hid hv
          have HF := hid (find_snoc_none HN.out (show vicP true L y = false by simp [vicP, hv]))
          clear hv
          go_wp2_with (go_at_call 122; refine (vic_neg _ y).mono ?_; rintro r w4 ⟨rfl, hb4⟩; rw [HV.out]; (have KZ4 := hid (heap_below hb4 KZr.out (blk_lt KZr.out))); (have BB4 := hid (BBr.out.trans (hb4.mono BBr.out.size))); (have HB4 := hid (HB.out.trans ((bl1 wr (.cells #[.int .i64 y.key.dir, .string y.key.name, .bool y.neg, .int .i64 y.node.id, .int .i64 y.node.kind, .int .i64 y.node.mode, .string y.node.target] 55)).mono HB.out.size |>.trans (hb4.mono (by simp; omega))))); (have KY4 := hid (heap_below hb4 (heap_new wr (.cells #[.int .i64 y.key.dir, .string y.key.name, .bool y.neg, .int .i64 y.node.id, .int .i64 y.node.kind, .int .i64 y.node.mode, .string y.node.target] 55)) (by simp))); (have bz4 := blk2 KZ4.out); (have by4 := blk7 KY4.out); clear hb4)
          exact ⟨⟨i + 1, by omega, by go_num, HB4, hid (by rw [HTK.out]; exact HF.out)⟩, by simp [intOf]; omega⟩
      · have HF := hid (show vicL true L = none by have := HN.out; rw [List.take_of_length_le (by omega)] at this; exact this)
        have bz := blk2 KZz.out
        go_wp2
        have hk3 := heap_set (heap_set KZz.out 0 (.int .i64 0)) 1 (.string { data := #[] })
        have hz3 := blk2 (x0 := .int .i64 0) (x1 := .string { data := #[] }) (by simpa using hk3)
        refine bodyPost_ret (v := .tuple #[.agg #[.int .i64 0, .string { data := #[] }], .bool false]) (by simp [results, Tryz.results102, go_sem, hz3]) rfl ⟨by rw [show vicK true L = ⟨0, ByteArray.empty⟩ by simp [vicK, HF.out], HF.out]; rfl, ?_⟩
        exact (BBz.out.setCell (by simp) _).setCell (by simp) _

end Go.Proofs.YtbjibkjenleloaaGreatDoor

end

section
namespace Go.Proofs.YtbjibkjenleloaaGreatDoor
set_option linter.unusedVariables false
set_option linter.unusedSimpArgs false
open Go.RowKit
attribute [local go_sem ↓] Go.wp_at_zero Go.wp_at_succ

/-- what Trim has at hand: the entries, the whole directories, what went -/
structure Ts where
  L : List En
  wh : Int → Bool
  G : List Ky
def evT (neg : Bool) (s : Ts) : Ts := match vicL neg s.L with | none => s | some v => ⟨dropL v.key s.L, evictWh v.key s.L s.wh, s.G ++ [v.key]⟩
def trN (neg : Int) : Nat → Ts → Ts
  | 0, s => s
  | k + 1, s => if (negL s.L : Int) > max neg 0 then trN neg k (evT true s) else s
def trM (most : Int) : Nat → Ts → Ts
  | 0, s => s
  | k + 1, s => if (s.L.length : Int) > max most 0 then (if (vicL false s.L).isSome then trM most k (evT false s) else s) else s
def trimT (most neg : Int) (s : Ts) : Ts := trM most (trN neg s.L.length s).L.length (trN neg s.L.length s)

theorem drop_len {L : List En} {v : En} (hn : (L.map En.key).Nodup) (hv : v ∈ L) : (dropL v.key L).length + 1 = L.length := by
  induction L with
  | nil => simp at hv
  | cons y L ih =>
    simp only [List.map_cons, List.nodup_cons] at hn
    unfold dropL
    by_cases hk : isK v.key y = true
    · have hky : v.key = y.key := by simpa [isK] using hk
      have hno : ∀ e ∈ L, (!isK v.key e) = true := fun e he => by
        have : v.key ≠ e.key := fun h => hn.1 (List.mem_map.2 ⟨e, he, by rw [← h, hky]⟩)
        simp [isK, this]
      rw [List.filter_cons_of_neg (by simp [hk]), List.filter_eq_self.2 hno]; simp
    · have hvL : v ∈ L := by
        rcases List.mem_cons.1 hv with rfl | h
        · exact absurd (by simp [isK]) hk
        · exact h
      rw [List.filter_cons_of_pos (by simp [hk]), List.length_cons, List.length_cons, ← ih hn.2 hvL]; rfl
theorem vic_mem {neg : Bool} {L : List En} {v : En} (h : vicL neg L = some v) : v ∈ L := List.mem_of_find?_eq_some h
theorem vic_some {L : List En} (h : 0 < negL L) : ∃ v, vicL true L = some v := by
  cases hf : vicL true L with
  | some v => exact ⟨v, rfl⟩
  | none =>
    unfold vicL at hf
    rw [List.find?_eq_none] at hf
    have : negL L = 0 := by rw [negL, List.countP_eq_zero]; intro e he; have := hf e he; simpa [vicP] using this
    omega
theorem evT_none {neg : Bool} {s : Ts} (h : vicL neg s.L = none) : evT neg s = s := by simp [evT, h]
theorem evT_some {neg : Bool} {s : Ts} {v : En} (h : vicL neg s.L = some v) : evT neg s = ⟨dropL v.key s.L, evictWh v.key s.L s.wh, s.G ++ [v.key]⟩ := by simp [evT, h]
theorem trN_step {neg : Int} {s : Ts} {v : En} (hn : (s.L.map En.key).Nodup) (h : (negL s.L : Int) > max neg 0) (hv : vicL true s.L = some v) : trN neg s.L.length s = trN neg (evT true s).L.length (evT true s) := by
  have hl := drop_len hn (vic_mem hv)
  rw [← hl, trN, if_pos h]
  rw [evT_some hv]
theorem trN_stop {neg : Int} {s : Ts} (h : ¬ (negL s.L : Int) > max neg 0) : trN neg s.L.length s = s := by
  cases hl : s.L.length with
  | zero => rfl
  | succ k => rw [trN, if_neg h]
theorem trM_step {most : Int} {s : Ts} {v : En} (hn : (s.L.map En.key).Nodup) (h : (s.L.length : Int) > max most 0) (hv : vicL false s.L = some v) : trM most s.L.length s = trM most (evT false s).L.length (evT false s) := by
  have hl := drop_len hn (vic_mem hv)
  obtain ⟨k, hk⟩ : ∃ k, s.L.length = k + 1 := ⟨_, hl.symm⟩
  have hk2 : (evT false s).L.length = k := by rw [evT_some hv]; show (dropL v.key s.L).length = k; omega
  rw [hk2, hk, trM, if_pos h, hv]; rfl
theorem trM_stop {most : Int} {s : Ts} (h : ¬ (s.L.length : Int) > max most 0) : trM most s.L.length s = s := by
  cases hl : s.L.length with
  | zero => rfl
  | succ k => rw [trM, if_neg h]
theorem trM_none {most : Int} {s : Ts} (hv : vicL false s.L = none) : trM most s.L.length s = s := by
  cases hl : s.L.length with
  | zero => rfl
  | succ k => rw [trM, hv]; simp

/-- the blocks of Trim's own variables: q the cache's, q + 1 the slice's; the row of what went above them -/
structure TrimAt (w : World) (B p n q : Nat) (s : Ts) : Prop where
  cat : CAt w B p n s.L s.wh
  pq : p < q
  b1 : w.heap[q]? = some (.cells #[.pointer (some ⟨p, 0, none⟩)] 84)
  b2 : ∃ a c, w.heap[q + 1]? = some (.cells #[.slice a s.G.length c] 48) ∧ w.ownsRow (q + 2) 53 2 (.slice a s.G.length c) s.G.length (kyc s.G)
  gl : s.G.length + s.L.length ≤ n
def TF (B p q k : Nat) : Prop := CF B p k ∨ q ≤ k
def glen (w : World) (k : Nat) : Nat := match w.cell? ⟨k, 0, none⟩ with | some (.slice _ n _) => n | _ => 0
theorem TrimAt.glen {w : World} {B p n q : Nat} {s : Ts} (h : TrimAt w B p n q s) : glen w (q + 1) = s.G.length := by
  obtain ⟨a, c, hb, _⟩ := h.b2
  unfold Go.Proofs.YtbjibkjenleloaaGreatDoor.glen; rw [(blk1 hb).1]
theorem TrimAt.below {w w' : World} {B p n q : Nat} {s : Ts} (h : TrimAt w B p n q s) (hb : Below w.heap.size w w') : TrimAt w' B p n q s := by
  obtain ⟨a, c, h1, h2⟩ := h.b2
  exact ⟨h.cat.below hb, h.pq, heap_below hb h.b1 (blk_lt h.b1), ⟨a, c, heap_below hb h1 (blk_lt h1), own_below h2 hb⟩, h.gl⟩
theorem Ky.one (x : Ky) : ∀ u ∈ x.cells, u.oneCell' = true := by
  intro u hu; simp [Ky.cells] at hu; rcases hu with rfl | rfl <;> rfl

set_option maxHeartbeats 2000000 in
theorem trim_evict (w : World) (B p n q : Nat) (s : Ts) (neg : Bool) (h : TrimAt w B p n q s) (hn : n * 80 ≤ 140737488351232) :
    Calls Tryz.prog 101 #[.bool neg, .pointer (some ⟨q, 0, none⟩), .pointer (some ⟨q + 1, 0, none⟩)] w fun r w' => r = .returned (.bool (vicL neg s.L).isSome) ∧ TrimAt w' B p n q (evT neg s) ∧ Chg (TF B p q) w w' := by
  obtain ⟨a, c, hb2, hown⟩ := h.b2
  obtain ⟨i2, hi2, p2, q2, r2⟩ := info_parts infoKy
  have HI2 := hid hi2
  have HT := hid h
  have HG0 := hid hb2
  have HO0 := hid hown
  have hpq := h.pq
  have hgl := h.gl
  have hqz := blk_lt hb2
  have b1 := blk1 h.b1
  have HKN := hid h.cat.keys
  clear h hb2 hown hi2
  cases hv : vicL neg s.L with
  | none =>
    have HV := hid hv
    have HVK := hid (show vicK neg s.L = ⟨0, ByteArray.empty⟩ by simp [vicK, hv])
    clear hv
    go_enter Tryz.func101, Tryz.ntmps101
    go_wp2_with (go_at_call 102; refine (c_victim _ _ p _ _ _ neg HT.out.cat hn).mono ?_; rintro r w1 ⟨rfl, hb1⟩; rw [HVK.out, HV.out]; simp only [Option.isSome_none])
    go_ret
    exact ⟨rfl, by rw [evT_none HV.out]; exact (HT.out.below hb1).below (bl1 w1 _), (Chg.below (hb1.alloc hb1.size _)).mono (fun _ _ h => h.elim)⟩
  | some v =>
    have HV := hid hv
    have HVK := hid (show vicK neg s.L = v.key by simp [vicK, hv])
    have HVM := hid (vic_mem hv)
    have HEV := hid (evT_some hv)
    have HDL := hid (drop_len HKN.out (vic_mem hv))
    have hnv : 1 ≤ s.L.length := List.length_pos_of_mem (vic_mem hv)
    clear hv
    go_enter Tryz.func101, Tryz.ntmps101
    go_wp2_with (first
      | (go_at_call 102; refine (c_victim _ _ p _ _ _ neg HT.out.cat hn).mono ?_; rintro r w1 ⟨rfl, hb1⟩; rw [HVK.out, HV.out]; simp only [Option.isSome_some]; (have HT1 := hid ((HT.out.below hb1).below (bl1 w1 (.cells #[.int .i64 v.key.dir, .string v.key.name] 53)))); (have bq1 := blk1 HT1.out.b1); (have KB1 := hid (heap_new w1 (.cells #[.int .i64 v.key.dir, .string v.key.name] 53))); (have bk1 := blk2 KB1.out); (have hw1 := hb1.size); (have HBL1 := hid (hb1.alloc hb1.size (.cells #[.int .i64 v.key.dir, .string v.key.name] 53))); clear hb1 b1)
      | (go_at_call 103; refine (c_evict _ _ p _ _ _ v.key HT1.out.cat).mono ?_; rintro r w2 ⟨rfl, hc2, hg2⟩; (have HC2 := hid hc2); (have HP2 := hid (heap_chg hg2 HT1.out.b1 (fun h => by have := h.2; omega))); (have HG2 := hid (heap_chg hg2 (heap_below HBL1.out HG0.out (blk_lt HG0.out)) (fun h => by have := h.2; omega))); (have HO2 := hid (ownsRow_chg (own_below HO0.out HBL1.out) (fun k hk hlt => hg2.block k hlt (fun h => by have := h.2; have := (own_lt HO0.out hk).1; omega)))); (have KB2 := hid (heap_chg hg2 KB1.out (fun h => by have := h.2; omega))); (have bg2 := blk1 HG2.out); (have bk2 := blk2 KB2.out); (have hw2 := hg2.size); simp only [World.size_alloc] at hw2; (have HGG2 := hid hg2); clear hc2 hg2 bk1)
      | (at_builtin; refine wpList_append_rd rfl _ _ 48 rfl (q + 2) 53 i2 _ 2 24 Tryz.underlying48 HI2.out p2 q2 r2 rfl (by decide) (.slice a s.G.length c) s.G.length (kyc s.G) rfl (own_alloc HO2.out _) (.slice (some ⟨w2.heap.size, 0, none⟩) 1 1) 1 [.int .i64 v.key.dir, .string v.key.name] rfl (rd_blk (heap_new w2 (.cells #[.int .i64 v.key.dir, .string v.key.name] 53)) (by unfold maxLen; omega)) rfl (Ky.one v.key) (by unfold maxLen; omega) (by omega) (by simp; omega) ?_; intro a6 c6 w6 hown6 hgrow6 hat6; (have kg6 := heap_grown hgrow6 (heap_old HG2.out (.cells #[.int .i64 v.key.dir, .string v.key.name] 53)) (fun e => by have := (own_lt HO2.out e.symm).1; omega)); (have bg6 := blk1 kg6); (have KG6 := hid kg6); (have HO6 := hid hown6); (have HGR6 := hid hgrow6); clear kg6 hown6 hgrow6 hat6))
    go_ret
    have hgs := HGR6.out.size
    have hch : Chg (fun k => q ≤ k) w2 (w6.setCell ⟨q + 1, 0, none⟩ (.slice a6 (s.G.length + 1) c6)) := (((Chg.refl _ w2).alloc (.cells #[.int .i64 v.key.dir, .string v.key.name] 53)).grown HGR6.out (fun k hk => .inl (by have := (own_lt HO2.out hk).1; omega))).setCell ⟨q + 1, 0, none⟩ _ (.inl (by simp))
    refine ⟨rfl, ?_, ?_⟩
    · rw [HEV.out]
      refine ⟨HC2.out.chg hch (fun k hk h => by have := hk.2; omega), hpq, ?_, ⟨a6, c6, ?_, ?_⟩, ?_⟩
      · exact heap_set_ne (heap_grown HGR6.out (heap_old HP2.out (.cells #[.int .i64 v.key.dir, .string v.key.name] 53)) (fun e => by have := (own_lt HO2.out e.symm).1; omega)) _ _ (by omega)
      · have := heap_set KG6.out 0 (.slice a6 (s.G.length + 1) c6)
        simpa using this
      · have ho := own_set HO6.out (p := q + 1) (fun e => by have := (own_lt HO6.out e).1; omega) 0 (.slice a6 (s.G.length + 1) c6)
        show World.ownsRow _ _ _ _ (.slice a6 (s.G ++ [v.key]).length c6) (s.G ++ [v.key]).length (kyc (s.G ++ [v.key]))
        rw [kyc_snoc, List.length_append]; exact ho
      · have := HDL.out
        show (s.G ++ [v.key]).length + (dropL v.key s.L).length ≤ n
        rw [List.length_append, List.length_singleton]; omega
    · exact Chg.trans (Chg.trans (Chg.below HBL1.out) HGG2.out (fun _ _ h => h.elim) (fun i hi h => .inl h)) hch (fun _ _ h => h) (fun i hi h => .inr h)

end Go.Proofs.YtbjibkjenleloaaGreatDoor

end

section
namespace Go.Proofs.YtbjibkjenleloaaGreatDoor
set_option linter.unusedVariables false
set_option linter.unusedSimpArgs false
open Go.RowKit
attribute [local go_sem ↓] Go.wp_at_zero Go.wp_at_succ

theorem trimFrame {w W w' : World} {B p : Nat} (hp : p < w.heap.size) (hb : Below w.heap.size w W) (hg : Chg (TF B p w.heap.size) W w') : Chg (CF B p) w w' :=
  Chg.trans (Chg.below hb) hg (fun _ _ h => h.elim) (fun i hi h => by rcases h with h | h; exact h; omega)
theorem TrimAt.len {w : World} {B p n q : Nat} {s : Ts} (h : TrimAt w B p n q s) : s.L.length ≤ n := h.cat.len

set_option maxHeartbeats 2000000 in
theorem c_trim (w : World) (B p n : Nat) (L : List En) (wh : Int → Bool) (most neg : Int) (h : CAt w B p n L wh) (hn : n * 80 ≤ 140737488351232) :
    Calls Tryz.prog 68 #[.pointer (some ⟨p, 0, none⟩), .int .i64 most, .int .i64 neg] w fun r w' => ∃ (s : Ts) (a : Option Addr) (c : Nat), r = .returned (.slice a s.G.length c) ∧ s = trimT most neg ⟨L, wh, []⟩ ∧ w'.ownsRow w.heap.size 53 2 (.slice a s.G.length c) s.G.length (kyc s.G) ∧ CAt w' B p n s.L s.wh ∧ s.G.length + s.L.length ≤ n ∧ Chg (CF B p) w w' := by
  have hp := h.lt
  have HT0 := hid (show TrimAt ((w.alloc (.cells #[.pointer (some ⟨p, 0, none⟩)] 84)).alloc (.cells #[.slice none 0 0] 48)) B p n w.heap.size ⟨L, wh, []⟩ from ⟨(h.below (bl1 w (.cells #[.pointer (some ⟨p, 0, none⟩)] 84))).below (bl1 _ (.cells #[.slice none 0 0] 48)), hp, heap_old (heap_new w (.cells #[.pointer (some ⟨p, 0, none⟩)] 84)) (.cells #[.slice none 0 0] 48), ⟨none, 0, by have e := heap_new (w.alloc (.cells #[.pointer (some ⟨p, 0, none⟩)] 84)) (.cells #[.slice none 0 0] 48); rw [World.size_alloc] at e; exact e, World.ownsRow_nil _ _ _ _⟩, by simpa using h.len⟩)
  have HB0 := hid (bl2 w (.cells #[.pointer (some ⟨p, 0, none⟩)] 84) (.cells #[.slice none 0 0] 48))
  obtain ⟨s0, hs0⟩ : ∃ s0 : Ts, s0 = ⟨L, wh, []⟩ := ⟨_, rfl⟩
  rw [← hs0] at HT0 ⊢
  have b1 := blk1 HT0.out.b1
  clear h hs0
  go_enter Tryz.func68, Tryz.ntmps68
  go_wp2_with fail
  go_loopw [18] (fun v18 wr => ∃ s : Ts, Hid (TrimAt wr B p n w.heap.size s) ∧ Hid (trN neg s.L.length s = trN neg s0.L.length s0) ∧ Hid (Chg (TF B p w.heap.size) ((w.alloc (.cells #[.pointer (some ⟨p, 0, none⟩)] 84)).alloc (.cells #[.slice none 0 0] 48)) wr)) (fun _ wr => n - glen wr (w.heap.size + 1))
  case atStart => exact ⟨s0, HT0, hid rfl, hid (Chg.refl _ _)⟩
  case round =>
    obtain ⟨s, HT, HE, HG⟩ := hrel
    clear b1
    have b1 := blk1 HT.out.b1
    have hsl := HT.out.len
    have hgl := HT.out.gl
    have hnl := negL_le s.L
    by_cases hc : (negL s.L : Int) > max neg 0
    · obtain ⟨v, hv⟩ := vic_some (L := s.L) (by omega)
      have HV := hid hv
      have HEV := hid (evT_some hv)
      have HST := hid (trN_step HT.out.cat.keys hc hv)
      have hcd : decide ((negL s.L : Int) > max neg 0) = true := decide_eq_true hc
      clear hv hc
      go_wp2_with (first
        | (go_at_call 104; refine (c_negatives _ _ _ _ _ _ HT.out.cat (by omega)).mono ?_; rintro r w3 ⟨rfl, hb3⟩; (have HT3 := hid (HT.out.below hb3)); (have b3 := blk1 HT3.out.b1); (have HB3 := hid hb3); clear hb3 b1)
        | (go_at_call 101; refine (trim_evict _ B p n w.heap.size s true HT3.out hn).mono ?_; rintro r w4 ⟨rfl, ht4, hg4⟩; rw [HV.out]; simp only [Option.isSome_some]; (have HT4 := hid ht4); (have HG4 := hid hg4); clear ht4 hg4))
      have hle : (evT true s).G.length = s.G.length + 1 := by rw [HEV.out]; simp
      have hge := HT4.out.gl
      exact ⟨⟨evT true s, HT4, hid (by rw [← HST.out]; exact HE.out), hid (Chg.trans (Chg.trans HG.out (Chg.below HB3.out) (fun _ _ h => h) (fun _ _ h => h.elim)) HG4.out (fun _ _ h => h) (fun _ _ h => h))⟩, by rw [HT4.out.glen, HT.out.glen]; omega⟩
    · have HC := hid hc
      have hcd : decide ((negL s.L : Int) > max neg 0) = false := decide_eq_false hc
      have HST := hid (trN_stop (s := s) hc)
      clear hc
      rw [HST.out] at HE
      go_wp2_with (go_at_call 104; refine (c_negatives _ _ _ _ _ _ HT.out.cat (by omega)).mono ?_; rintro r w3 ⟨rfl, hb3⟩; (have HT3 := hid (HT.out.below hb3)); (have b3 := blk1 HT3.out.b1); (have HG3 := hid (Chg.trans HG.out (Chg.below hb3) (fun _ _ h => h) (fun _ _ h => h.elim))); clear hb3 b1)
      clear HG HT HST
      obtain ⟨s1, hs1⟩ : ∃ s1, s1 = s := ⟨_, rfl⟩
      clear hnl hsl hgl
      rw [← hs1] at HE HT3
      clear hs1
      have HE1 := hid HE.out
      go_loopw [27] (fun v27 wr => ∃ s : Ts, Hid (TrimAt wr B p n w.heap.size s) ∧ Hid (trM most s.L.length s = trM most s1.L.length s1) ∧ Hid (Chg (TF B p w.heap.size) ((w.alloc (.cells #[.pointer (some ⟨p, 0, none⟩)] 84)).alloc (.cells #[.slice none 0 0] 48)) wr)) (fun _ wr => n - glen wr (w.heap.size + 1))
      case atStart => exact ⟨s1, HT3, hid rfl, HG3⟩
      case round =>
        obtain ⟨s, HT, HE, HG⟩ := hrel
        have b1 := blk1 HT.out.b1
        have hsl := HT.out.len
        have hgl := HT.out.gl
        clear b3
        by_cases hc : (s.L.length : Int) > max most 0
        · cases hv : vicL false s.L with
          | some v =>
            have HV := hid hv
            have HEV := hid (evT_some hv)
            have HST := hid (trM_step HT.out.cat.keys hc hv)
            have hcd : decide ((s.L.length : Int) > max most 0) = true := decide_eq_true hc
            clear hv hc
            go_wp2_with (first
              | (go_at_call 105; refine (c_len _ _ _ _ _ _ HT.out.cat).mono ?_; rintro r w3 ⟨rfl, rfl⟩)
              | (go_at_call 101; refine (trim_evict _ B p n w.heap.size s false HT.out hn).mono ?_; rintro r w4 ⟨rfl, ht4, hg4⟩; rw [HV.out]; simp only [Option.isSome_some]; (have HT4 := hid ht4); (have HG4 := hid hg4); clear ht4 hg4))
            have hle : (evT false s).G.length = s.G.length + 1 := by rw [HEV.out]; simp
            have hge := HT4.out.gl
            exact ⟨⟨evT false s, HT4, hid (by rw [← HST.out]; exact HE.out), hid (Chg.trans HG.out HG4.out (fun _ _ h => h) (fun _ _ h => h))⟩, by rw [HT4.out.glen, HT.out.glen]; omega⟩
          | none =>
            have HV := hid hv
            have HEV := hid (evT_none hv)
            have HST := hid (trM_none (most := most) hv)
            have hcd : decide ((s.L.length : Int) > max most 0) = true := decide_eq_true hc
            clear hv hc
            rw [HST.out] at HE
            go_wp2_with (first
              | (go_at_call 105; refine (c_len _ _ _ _ _ _ HT.out.cat).mono ?_; rintro r w3 ⟨rfl, rfl⟩)
              | (go_at_call 101; refine (trim_evict _ B p n w.heap.size s false HT.out hn).mono ?_; rintro r w4 ⟨rfl, ht4, hg4⟩; rw [HV.out]; simp only [Option.isSome_none]; rw [HEV.out] at ht4; obtain ⟨a4, c4, hb4, ho4⟩ := ht4.b2; (have bg4 := blk1 hb4); (have HC4 := hid ht4.cat); (have HO4 := hid ho4); (have HG4 := hid (Chg.trans HG.out hg4 (fun _ _ h => h) (fun _ _ h => h))); clear ht4 hg4 hb4 ho4))
            go_ret
            exact ⟨s, a4, c4, rfl, by rw [HE.out, HE1.out]; rfl, ownsRow_mono HO4.out (by omega), HC4.out, hgl, trimFrame hp HB0.out HG4.out⟩
        · have HC := hid hc
          have hcd : decide ((s.L.length : Int) > max most 0) = false := decide_eq_false hc
          have HST := hid (trM_stop (s := s) hc)
          clear hc
          rw [HST.out] at HE
          obtain ⟨a4, c4, hb4, ho4⟩ := HT.out.b2
          have bg4 := blk1 hb4
          have HO4 := hid ho4
          clear hb4 ho4
          go_wp2_with (go_at_call 105; refine (c_len _ _ _ _ _ _ HT.out.cat).mono ?_; rintro r w3 ⟨rfl, rfl⟩)
          go_ret
          exact ⟨s, a4, c4, rfl, by rw [HE.out, HE1.out]; rfl, ownsRow_mono HO4.out (by omega), HT.out.cat, hgl, trimFrame hp HB0.out HG.out⟩

end Go.Proofs.YtbjibkjenleloaaGreatDoor

end
