import Derived.Test.YtdolaiejkobaiaaBagE
namespace Go.Proofs.Ytdolaiejkobaiaa
set_option linter.unusedVariables false
set_option linter.unusedSimpArgs false
open Go.RowKit
attribute [local go_sem ↓] Go.wp_at_zero Go.wp_at_succ

set_option maxHeartbeats 400000 in
theorem bag_new_no (w : World) (limit : Int) (h : limit < 1 ∨ 64 < limit) :
    Calls Try.prog 8 #[.int .i64 limit] w fun e w' => e = .returned (.tuple #[.pointer none, .int .i64 1]) ∧ w = w' := by
  by_cases h1 : limit < 1
  · clear h
    go_enter Try.func8, Try.ntmps8
    go_wp2
    go_ret2
    exact ⟨rfl, rfl⟩
  · have h2 : 64 < limit := by omega
    clear h
    go_enter Try.func8, Try.ntmps8
    go_wp2
    go_ret2
    exact ⟨rfl, rfl⟩

set_option maxHeartbeats 400000 in
theorem bag_new_yes (w : World) (limit : Int) (h1 : 1 ≤ limit) (h2 : limit ≤ 64) :
    Calls Try.prog 8 #[.int .i64 limit] w fun e w' => e = .returned (.tuple #[.pointer (some ⟨w.heap.size, 0, none⟩), .int .i64 0]) ∧
      BagAt 62 w' w.heap.size w.heap.size limit none 0 [] ∧ Below w.heap.size w w' := by
  have h3 : ¬ limit < 1 := by omega
  have h4 : ¬ 64 < limit := by omega
  go_enter Try.func8, Try.ntmps8
  go_wp2
  go_ret2
  exact ⟨rfl, ⟨Nat.le_refl _, heap_new _ _, World.ownsRow_nil _ _ _ _, by simp⟩, bl1 w _⟩

/-- letters in new memory -/
structure LetsAt (w : World) (B : Nat) (a : Option Addr) (c : Nat) (L : List Lt) : Prop where
  row : w.ownsRow B 35 2 (.slice a L.length c) L.length (lcs L)
  each : ∀ x ∈ L, w.ownsRow B 5 1 x.v x.bs.length (bys x.bs)

def Lt.con (x : Lt) : Int × List Int := (x.tw, x.bs)
def cons_ (L : List Lt) : List (Int × List Int) := L.map Lt.con

theorem LetsAt.below {w w' : World} {B : Nat} {a : Option Addr} {c : Nat} {L : List Lt} (h : LetsAt w B a c L) (hb : Below w.heap.size w w') : LetsAt w' B a c L :=
  ⟨own_below h.row hb, fun x hx => own_below (h.each x hx) hb⟩

theorem lets_snoc {w w2 : World} {B : Nat} {a a' a2 : Option Addr} {c c' c2 : Nat} {L : List Lt} {tw : Int} {l : List Int} {o : Obj} 
    (h : LetsAt w B a c L) (hown : w.ownsRow B 5 1 (.slice a' l.length c') l.length (bys l)) (hgrow : (w.alloc o).grownBy w2 (Value.slice a L.length c).ownBlock)
    (hown2 : w2.ownsRow B 35 2 (.slice a2 (L.length + 1) c2) (L.length + 1) (lcs L ++ [.int .i64 tw, .slice a' l.length c'])) : LetsAt w2 B a2 c2 (L ++ [⟨tw, a', c', l⟩]) := by
  have hr := own_alloc h.row o
  refine ⟨by rw [lcs_snoc, List.length_append]; exact hown2, fun x hx => ?_⟩
  rcases List.mem_append.1 hx with hx | hx
  · exact own_grown (own_alloc (h.each x hx) o) hgrow fun k hk => own_ne2 (own_alloc (h.each x hx) o) hr (by decide) k hk
  · obtain rfl := List.mem_singleton.1 hx
    exact own_grown (own_alloc hown o) hgrow fun k hk => own_ne2 (own_alloc hown o) hr (by decide) k hk

theorem cons_take {L M : List Lt} {k : Nat} {x : Lt} (hM : cons_ M = (cons_ L).take k) (hx : L[k]? = some x) {a : Option Addr} {c : Nat} : cons_ (M ++ [⟨x.tw, a, c, x.bs⟩]) = (cons_ L).take (k + 1) := by
  have h1 : (cons_ L)[k]? = some (x.tw, x.bs) := by simp [cons_, List.getElem?_map, hx, Lt.con]
  rw [List.take_add_one, ← hM, h1]
  simp [cons_, Lt.con]

set_option maxHeartbeats 1000000 in
theorem bag_letters_any (w : World) (B p : Nat) (limit : Int) (a : Option Addr) (c : Nat) (L : List Lt) (h : BagAt 62 w B p limit a c L) (hm : L.length ≤ 64) (hL : ∀ x ∈ L, x.bs.length ≤ 140737488351232) :
    Calls Try.prog 25 #[.pointer (some ⟨p, 0, none⟩)] w fun e w' => ∃ a' c' M, e = .returned (.slice a' M.length c') ∧ cons_ M = cons_ L ∧ LetsAt w' w.heap.size a' c' M ∧ Below w.heap.size w w' := by
  obtain ⟨i1, hi1, hy0, hy1, hy2⟩ := info_parts infoLt
  have b0 := blk2 h.hp
  have HI := hid hi1
  have HH := hid h
  have HLL := hid hL
  clear h hi1 hL
  go_enter Try.func25, Try.ntmps25
  go_wp2_with fail
  go_loopw [3, 11] (fun v i wr => ∃ (k : Nat) (M : List Lt) (a1 : Option Addr) (c1 : Nat), k ≤ L.length ∧ i = .int .i64 k ∧ v = .slice a1 M.length c1 ∧ Hid (cons_ M = (cons_ L).take k) ∧ Hid (M.length = k) ∧ LetsAt wr w.heap.size a1 c1 M ∧ Below w.heap.size w wr) (fun _ i _ => L.length - (intOf i).toNat)
  case atStart => exact ⟨0, [], none, 0, Nat.zero_le _, rfl, rfl, hid rfl, hid rfl, ⟨World.ownsRow_nil _ _ _ _, by simp⟩, Below.refl _ _⟩
  case round =>
    obtain ⟨k, M, a1, c1, hk, rfl, rfl, HM, HK, hlets, hb⟩ := hrel
    have HLE := hid hlets
    clear hlets
    by_cases hlt : k < L.length
    · have hk0 : (0 : Int) ≤ (k : Int) := by omega
      have hk1 : (k : Int) < (L.length : Int) := by omega
      obtain ⟨g, hag, hBg, hgz, hc1, hc2⟩ := HH.out.loc (by omega)
      obtain ⟨x, hx⟩ : ∃ x, L[k]? = some x := ⟨_, List.getElem?_eq_getElem hlt⟩
      subst hag
      have hsz := hb.size
      have b1 := (HH.out.below hb).at hx
      have hxo := Rd.own ((HH.out.below hb).each x (List.mem_of_getElem? hx))
      have hxl := HLL.out x (List.mem_of_getElem? hx)
      have HX := hid hx
      have HXO := hid hxo
      clear hx hxo
      go_wp2_with (first
        | (go_at_call 28; refine (own_any' _ _ x.bs _ (HXO.out.alloc _) hxl).mono ?_; rintro e w1 ⟨a', c', rfl, hown, hb1⟩)
        | (at_builtin; refine wpList_append_rd rfl _ _ 28 rfl w.heap.size 35 i1 _ 2 32 Try.underlying28 HI.out hy0 hy1 hy2 rfl (by decide) (.slice a1 M.length c1) M.length (lcs M) rfl (own_alloc (own_below (own_alloc HLE.out.row _) hb1) _) (.slice (some ⟨w1.heap.size, 0, none⟩) 1 1) 1 [.int .i64 x.tw, .slice a' x.bs.length c'] rfl (rd_blk (heap_new w1 _) (by unfold maxLen; omega)) rfl (by intro u hu; simp at hu; rcases hu with rfl | rfl <;> rfl) (by have := HK.out; unfold maxLen; omega) (by have := HK.out; omega) (by have := hb1.size; simp at this ⊢; omega) ?_; intro a2 c2 w2 hown2 hgrow2 hat2))
      have hbb : Below w.heap.size w w1 := (hb.alloc hsz _).trans (hb1.mono (by simp; omega))
      have hrow2 : w.heap.size ≤ w1.heap.size := hbb.size
      refine ⟨⟨k + 1, M ++ [⟨x.tw, a', c', x.bs⟩], a2, c2, by omega, by go_num, by rw [List.length_append]; rfl, hid (cons_take HM.out HX.out), hid (by rw [List.length_append, HK.out]; rfl), lets_snoc ((HLE.out.below (bl1 wr _)).below hb1) (ownsRow_mono hown (by simp; omega)) hgrow2 hown2, ?_⟩, by simp [intOf]; omega⟩
      refine (hbb.alloc hrow2 _).grown hgrow2 (by simp; omega) fun k hk => ?_
      exact (own_lt HLE.out.row hk).1
    · have hkk : k = L.length := by omega
      have HF := hid (show cons_ M = cons_ L by rw [HM.out, List.take_of_length_le (by simp [cons_]; omega)])
      clear hkk
      go_wp2
      go_ret
      exact ⟨_, _, M, rfl, HF.out, HLE.out, hb⟩

end Go.Proofs.Ytdolaiejkobaiaa
