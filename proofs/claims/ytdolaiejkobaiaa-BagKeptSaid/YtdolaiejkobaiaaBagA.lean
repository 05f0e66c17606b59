import Derived.Test.YtdolaiejkobaiaaRows
import Derived.Test.YtdolaiejkobaiaaLib
import Derived.Deep.QuietTactic
import Derived.BigQuiet
import Derived.Deep.DeepMust
import Derived.Deep.RegionHeld3
import Derived.Deep.DrawnRows
import Derived.Deep.RegionLaw

namespace Go.Proofs.Ytdolaiejkobaiaa
set_option linter.unusedVariables false
set_option linter.unusedSimpArgs false
open Go.RowKit
attribute [local go_sem ↓] Go.wp_at_zero Go.wp_at_succ

theorem ret_int {k : IntKind} {a b : Int} (h : a = b) : Ending.returned (.int k a) = .returned (.int k b) := by rw [h]

theorem tmod_neg_emod (v n : Int) (h1 : 1 ≤ n) (h : v.tmod n < 0) : v.tmod n + n = v % n := by
  have h2 := Int.emod_nonneg v (show n ≠ 0 by omega)
  have h3 := Int.emod_lt_of_pos v (show 0 < n by omega)
  rw [Int.tmod_eq_emod] at h ⊢
  split at h <;> split <;> simp_all <;> omega

theorem tmod_pos_emod (v n : Int) (h1 : 1 ≤ n) (h : 0 ≤ v.tmod n) : v.tmod n = v % n := by
  have h2 := Int.emod_nonneg v (show n ≠ 0 by omega)
  have h3 := Int.emod_lt_of_pos v (show 0 < n by omega)
  rw [Int.tmod_eq_emod] at h ⊢
  split at h <;> split <;> simp_all <;> omega

set_option maxHeartbeats 400000 in
theorem place_pos (v n : Int) (w : World) (h1 : 1 ≤ n) (h2 : n ≤ 9223372036854775807) :
    Calls Try.prog 10 #[.int .i64 v, .int .i64 n] w fun e w' => e = .returned (.int .i64 (v % n)) ∧ w = w' := by
  have h3 := Int.emod_nonneg v (show n ≠ 0 by omega)
  have h4 := Int.emod_lt_of_pos v (show 0 < n by omega)
  go_enter Try.func10, Try.ntmps10
  go_wp2
  · rename_i h
    have h5 := tmod_neg_emod v n h1 h
    go_ret
    exact ⟨ret_int (by rw [h5, IntWalk.wrap64_in _ ⟨by omega, by omega⟩]), rfl⟩
  · rename_i h
    have h5 := tmod_pos_emod v n h1 h
    go_ret
    exact ⟨ret_int h5, rfl⟩

set_option maxHeartbeats 400000 in
theorem bag_len (p : Nat) (lim : Int) (sv : Option Addr) (n cap : Nat) (w : World) (h : w.cell? ⟨p, 1, none⟩ = some (.slice sv n cap)) :
    Calls Try.prog 17 #[.pointer (some ⟨p, 0, none⟩)] w fun e w' => e = .returned (.int .i64 n) ∧ w = w' := by
  go_enter Try.func17, Try.ntmps17
  go_wp2
  go_ret
  exact ⟨rfl, rfl⟩

/-- bytes as cells -/
def bys (l : List Int) : List Value := l.map (.int .u8)

theorem take_eq_snoc {α : Type} {a b : List α} {k : Nat} {x : α} (ha : a[k]? = some x) (hb : b[k]? = some x) (h : a.take k = b.take k) : a.take (k + 1) = b.take (k + 1) := by
  rw [List.take_add_one, List.take_add_one, h, ha, hb]

theorem bys_at {w : World} {b o : Nat} {l : List Int} (h : ∀ i c, (bys l)[i]? = some c → w.cell? ⟨b, o + i, none⟩ = some c) {k : Nat} (hk : k < l.length) :
    ∃ x, l[k]? = some x ∧ w.cell? ⟨b, o + k, none⟩ = some (.int .u8 x) :=
  ⟨l[k], List.getElem?_eq_getElem hk, h k _ (by simp [bys, List.getElem?_map, List.getElem?_eq_getElem hk])⟩

theorem ret_bool {a b : Bool} (h : a = b) : Ending.returned (.bool a) = .returned (.bool b) := by rw [h]

set_option maxHeartbeats 400000 in
theorem sameBytes_any (u v : Value) (a b : List Int) (w : World) (hu : Rd w u a.length (bys a)) (hv : Rd w v b.length (bys b)) :
    Calls Try.prog 14 #[u, v] w fun e w' => e = .returned (.bool (decide (a = b))) ∧ ∃ n, w' = w.drewN n := by
  by_cases hl : a.length = b.length
  · by_cases h0 : a.length = 0
    · obtain ⟨a1, c1, rfl, _, _⟩ := hu.shape
      obtain ⟨a2, c2, rfl, _, _⟩ := hv.shape
      have hb0 : b.length = 0 := by omega
      obtain rfl := List.eq_nil_of_length_eq_zero h0
      obtain rfl := List.eq_nil_of_length_eq_zero hb0
      clear hl h0 hb0 hu hv
      go_enter Try.func14, Try.ntmps14
      go_wp2
      go_loop [5] (fun i => i = .int .i64 0) (fun _ => 0)
      case atStart => rfl
      case round =>
        obtain rfl := hrel
        go_wp2
        go_ret
        exact ⟨rfl, 0, rfl⟩
    · obtain ⟨b1, o1, c1, rfl, _, hc1, _, h1⟩ := hu.form (by simp [bys]; omega)
      obtain ⟨b2, o2, c2, rfl, _, hc2, _, h2⟩ := hv.form (by simp [bys]; omega)
      clear hu hv
      obtain ⟨n, hn⟩ : ∃ n, n = b.length := ⟨_, rfl⟩
      have hn1 : a.length = n := by omega
      have HE := hid hn1
      have HB := hid hn
      have hmax : n ≤ 9223372036854775807 := by unfold maxLen at hc1; omega
      rw [hn1, ← hn]
      have E1 := hid h1
      have E2 := hid h2
      clear hn1 hn h1 h2 hl h0
      go_enter Try.func14, Try.ntmps14
      go_wp2
      go_loopw [5] (fun i wr => ∃ k q : Nat, k ≤ n ∧ i = .int .i64 k ∧ wr = w.drewN q ∧ Hid (a.take k = b.take k)) (fun i _ => n - (intOf i).toNat)
      case atStart => exact ⟨0, 0, Nat.zero_le _, rfl, rfl, hid rfl⟩
      case round =>
        obtain ⟨k, q, hk, rfl, rfl, HT⟩ := hrel
        by_cases hlt : k < n
        · obtain ⟨x, hx, f1⟩ := bys_at E1.out (k := k) (by have := HE.out; omega)
          obtain ⟨y, hy, f2⟩ := bys_at E2.out (k := k) (by have := HB.out; omega)
          by_cases heq : x = y
          · subst heq
            have HN := hid (take_eq_snoc hx hy HT.out)
            clear hx hy
            go_wp2_with fail
            go_quiet (fail)
            go_wp2
            exact ⟨⟨k + 1, _, by omega, by go_num, rfl, HN⟩, by simp [intOf]; omega⟩
          · have hne : (x != y) = true := by simpa using heq
            have HN := hid (show decide (a = b) = false by
              rw [decide_eq_false_iff_not]; rintro rfl; rw [hx] at hy; exact heq (Option.some.inj hy))
            clear heq hx hy
            go_wp2_with fail
            go_quiet (fail)
            go_wp2
            go_ret
            exact ⟨by rw [HN.out]; rfl, _, World.drewN_drewN ..⟩
        · have HN := hid (show decide (a = b) = true by
            obtain rfl : k = n := by omega
            have h3 := HT.out
            rw [List.take_of_length_le (by have := HE.out; omega), List.take_of_length_le (by have := HB.out; omega)] at h3
            simpa using h3)
          go_wp2
          go_ret
          exact ⟨by rw [HN.out]; rfl, _, rfl⟩
  · obtain ⟨a1, c1, rfl, hc1, hc1'⟩ := hu.shape
    obtain ⟨a2, c2, rfl, hc2, hc2'⟩ := hv.shape
    have hne : (((a.length : Nat) : Int) != ((b.length : Nat) : Int)) = true := by rw [bne_iff_ne]; omega
    have HN := hid (show decide (a = b) = false by rw [decide_eq_false_iff_not]; rintro rfl; exact hl rfl)
    clear hu hv hl
    go_enter Try.func14, Try.ntmps14
    go_wp2
    go_ret
    exact ⟨by rw [HN.out]; rfl, 0, rfl⟩

theorem info5 : (Try.prog.info? 5).map (fun i => (i.zero, i.size, i.bytes)) = some (some (.int .u8 0), 1, 1) := by kernel_rfl
theorem infoLt : (Try.prog.info? 35).map (fun i => (i.zero, i.size, i.bytes)) = some (some (.agg #[.int .i64 0, .slice none 0 0]), 2, 32) := by kernel_rfl

theorem bys_one (l : List Int) : ∀ u ∈ bys l, u.oneCell' = true := by
  intro u hu; simp [bys] at hu; obtain ⟨a, _, rfl⟩ := hu; rfl

set_option maxHeartbeats 400000 in
theorem copyBytes_any (v : Value) (l : List Int) (w : World) (hv : Rd w v l.length (bys l)) (hl : l.length ≤ 140737488351232) :
    Calls Try.prog 18 #[v] w fun e w' => ∃ a c, e = .returned (.slice a l.length c) ∧ w'.ownsRow w.heap.size 5 1 (.slice a l.length c) l.length (bys l) ∧ Below w.heap.size w w' := by
  obtain ⟨i0, hi, hz0, hz1, hz2⟩ := info_parts info5
  have hb := bys_one l
  have hn : (bys l).length = l.length * 1 := by simp [bys]
  have HV := hid hv
  have HN := hid hn
  have HB := hid hb
  have HI := hid hi
  clear hv hn hb hi
  go_enter Try.func18, Try.ntmps18
  go_wp2_with (at_builtin; refine wpList_append_rd rfl _ _ 29 rfl w.heap.size 5 i0 (.int .u8 0) 1 1 Try.underlying29 HI.out hz0 hz1 hz2 rfl (by decide) (.slice none 0 0) 0 [] rfl (World.ownsRow_nil _ _ _ _) v l.length (bys l) rfl HV.out HN.out HB.out (by unfold maxLen; omega) (by omega) (Nat.le_refl _) ?_; intro a' c' w1 hown hgrow hat)
  go_ret
  simp only [Nat.zero_add, List.nil_append] at hown
  refine ⟨_, _, rfl, ?_, ?_⟩
  · exact hown
  · exact (Below.refl _ _).grown hgrow (Nat.le_refl _) (by simp [Value.ownBlock])

set_option maxHeartbeats 400000 in
theorem own_any (tw : Int) (v : Value) (l : List Int) (w : World) (hv : Rd w v l.length (bys l)) (hl : l.length ≤ 140737488351232) :
    Calls Try.prog 28 #[.agg #[.int .i64 tw, v]] w fun e w' => ∃ g c, e = .returned (.agg #[.int .i64 tw, .slice (some ⟨g, 0, none⟩) l.length c]) ∧ w'.ownsRow w.heap.size 5 1 (.slice (some ⟨g, 0, none⟩) l.length c) l.length (bys l) ∧ Below w.heap.size w w' := by
  obtain ⟨i0, hi, hz0, hz1, hz2⟩ := info_parts info5
  have hb := bys_one l
  have hn : (bys l).length = l.length * 1 := by simp [bys]
  obtain ⟨a, c, rfl, hc1, hc2⟩ := hv.shape
  obtain ⟨n, hnn⟩ : ∃ n, n = l.length := ⟨_, rfl⟩
  rw [← hnn] at hl hc1 hv hn ⊢
  have HNN := hid hnn
  have HV := hid hv
  have HN := hid hn
  have HB := hid hb
  have HI := hid hi
  clear hv hn hb hi hnn
  go_enter Try.func28, Try.ntmps28
  go_wp2_with (at_make; refine wpList_make_full _ rfl _ _ 29 rfl w.heap.size 5 i0 (.int .u8 0) 1 Try.underlying29 HI.out hz0 hz1 .i64 .i64 n n n rfl rfl rfl rfl (by rw [hz2]; omega) (by unfold maxLen; omega) (by simp; omega) ?_)
  intro w1 hown hgrow
  have k0 := heap_grown hgrow (heap_old (heap_new w _) _) (by simp)
  have k1 := heap_grown hgrow (heap_new (w.alloc _) _) (by simp)
  have hsz := hgrow.size
  have kw := ownsRow_whole hown
  have hz := blk_lt kw
  have hlow : Below w.heap.size w w1 := ((Below.refl _ _).alloc (Nat.le_refl _) _ |>.alloc (by simp) _).grown hgrow (by simp; omega) (by simp)
  simp only [World.size_alloc] at k0 k1 hsz hz kw
  have c00 := blk_cell k0 (i := 0) rfl
  have c01 := blk_cell k0 (i := 1) rfl
  have f10 := blk_free k1 0
  have f11 := blk_free k1 1
  have c10 := blk_cell k1 (i := 0) rfl
  have c11 := blk_cell k1 (i := 1) rfl
  have KW := hid kw
  have K1 := hid k1
  have hs2 : w.heap.size + 2 < w1.heap.size := by omega
  clear k0 k1 hown hgrow kw hz hsz
  go_wp2_with (with_reducible refine wpList_copy_splice rfl (.tmp 8) (.tmp 10) _ _ rfl 5 Try.underlying29 ?cs _ _ _ _ _ _ rfl rfl (w.heap.size + 1 + 1) 0 _ 5 KW.out (bys l) ?cn ?cp ?cf HB.out (w.heap.size + 1 + 1) w1 (Below.refl _ _) ?cB ?_)
  case cs => simp [HI.out, hz1]
  case cn => rw [HN.out]; simp
  case cp =>
    intro hp
    obtain ⟨ad, rfl, hs⟩ := HV.out.src hp
    exact ⟨ad, rfl, fun j u hu => below_cell hlow (Nat.le_refl _) (hs j u hu)⟩
  case cf => rw [HN.out]; simp [size_made]
  case cB => omega
  intro w2 kw2 hb2
  have k1' := heap_below hb2 K1.out (by omega)
  have hlow2 : Below w.heap.size w w2 := hlow.trans (hb2.mono (by omega))
  have c00' := (hb2.cell (p := ⟨w.heap.size, 0, none⟩) (by simp; omega)).trans c00
  clear c00 c01 c10 c11 f10 f11
  have f10 := blk_free k1' 0
  have f11 := blk_free k1' 1
  have c10 := blk_cell k1' (i := 0) rfl
  have c11 := blk_cell k1' (i := 1) rfl
  clear k1'
  go_wp2
  refine bodyPost_ret (v := .agg #[.int .i64 tw, .slice (some ⟨w.heap.size + 1 + 1, 0, none⟩) n n]) (by simp [results, Try.results28, go_sem, c10, c11]) rfl ⟨_, _, rfl, ?_, ?_⟩
  · have h := kw2.out
    rw [splice_all _ _ (by rw [HN.out]; simp [size_made])] at h
    refine ownsRow_of_whole ?_ HN.out (by omega) (by unfold maxLen; omega)
    exact heap_set_ne (heap_set_ne h 0 _ (by omega)) 1 _ (by omega)
  · exact (hlow2.setCell (by simp) _).setCell (by simp) _

theorem own_any' (tw : Int) (v : Value) (l : List Int) (w : World) (hv : Rd w v l.length (bys l)) (hl : l.length ≤ 140737488351232) :
    Calls Try.prog 28 #[.agg #[.int .i64 tw, v]] w fun e w' => ∃ a c, e = .returned (.agg #[.int .i64 tw, .slice a l.length c]) ∧ w'.ownsRow w.heap.size 5 1 (.slice a l.length c) l.length (bys l) ∧ Below w.heap.size w w' :=
  (own_any tw v l w hv hl).mono fun _ _ ⟨_, _, h1, h2, h3⟩ => ⟨_, _, h1, h2, h3⟩

set_option maxHeartbeats 400000 in
theorem letter_any (kind at_ tw : Int) (v : Value) (l : List Int) (w : World) (hv : Rd w v l.length (bys l)) (hl : l.length ≤ 140737488351232) :
    Calls Try.prog 12 #[.agg #[.int .i64 kind, .int .i64 at_, .int .i64 tw, v]] w fun e w' => ∃ a c, e = .returned (.agg #[.int .i64 tw, .slice a l.length c]) ∧ w'.ownsRow w.heap.size 5 1 (.slice a l.length c) l.length (bys l) ∧ Below w.heap.size w w' := by
  obtain ⟨a, c, rfl, hc1, hc2⟩ := hv.shape
  have HV := hid hv
  clear hv
  go_enter Try.func12, Try.ntmps12
  go_wp2_with fail
  go_region_held3 (fun w' => w'.cell? ⟨w.heap.size, 2, none⟩ = some (.int .i64 tw) ∧ w'.cell? ⟨w.heap.size, 3, none⟩ = some (.slice a l.length c))
    (first | go_keep | exact ⟨by assumption, by assumption⟩)
    (first | (go_at_call 18; refine (copyBytes_any _ l _ (((HV.out.alloc _).alloc _).drew) hl).mono ?_; rintro e w1 ⟨a', c', rfl, hown, hb⟩; (have k0 := heap_below hb (heap_old (heap_new w _) _) (by first | (simp; done) | (simp; omega))); (have k1 := heap_below hb (heap_new (w.alloc _) _) (by simp)); (have b0 := blk4 k0); clear k0; simp only [World.size_alloc] at k1; (have b1 := blk2 k1); (have hz : w.heap.size + 1 < w1.heap.size := blk_lt k1); clear k1))
  go_wp2
  refine bodyPost_ret (v := .agg #[.int .i64 tw, .slice a' l.length c']) (by simp [results, Try.results12, go_sem, b1]) rfl ⟨_, _, rfl, ?_, ?_⟩
  · have hown2 := ownsRow_mono (B' := w.heap.size) hown (by simp; omega)
    refine ownsRow_chg hown2 fun k hk _ => ?_
    have := (hown.lt k hk).1
    simp at this
    rw [Below.heap_setCell _ _ _ _ (by simp; omega), Below.heap_setCell _ _ _ _ (by simp; omega)]
  · exact (((bl2 w _ _).drew.trans (hb.mono (B' := w.heap.size) (by simp; omega))).setCell (by simp) _).setCell (by simp) _

set_option maxHeartbeats 400000 in
theorem one_any (tw : Int) (v : Value) (l : List Int) (w : World) (hv : Rd w v l.length (bys l)) (hl : l.length ≤ 140737488351232) :
    Calls Try.prog 31 #[.agg #[.int .i64 tw, v]] w fun e w' => ∃ a c, e = .returned (.agg #[.int .i64 tw, .slice a l.length c]) ∧ w'.ownsRow w.heap.size 5 1 (.slice a l.length c) l.length (bys l) ∧ Below w.heap.size w w' := by
  obtain ⟨i0, hi, hz0, hz1, hz2⟩ := info_parts info5
  have hb := bys_one l
  have hn : (bys l).length = l.length * 1 := by simp [bys]
  obtain ⟨a, c, rfl, hc1, hc2⟩ := hv.shape
  have HV := hid hv
  have HN := hid hn
  have HB := hid hb
  have HI := hid hi
  clear hv hn hb hi
  go_enter Try.func31, Try.ntmps31
  go_wp2_with fail
  go_region_held3 (fun w' => w'.cell? ⟨w.heap.size, 0, none⟩ = some (.int .i64 tw) ∧ w'.cell? ⟨w.heap.size, 1, none⟩ = some (.slice a l.length c))
    (first | go_keep | exact ⟨by assumption, by assumption⟩)
    ((refine step_append_rd (by rfl) _ _ 29 (by rfl) w.heap.size 5 i0 (.int .u8 0) 1 1 Try.underlying29 HI.out hz0 hz1 hz2 rfl (by decide) (.slice none 0 0) 0 [] (by rfl) (World.ownsRow_nil _ _ _ _) _ l.length (bys l) (by rfl) (((HV.out.alloc _).alloc _).drew) HN.out HB.out (by unfold maxLen; omega) (by omega) (by simp; omega) ?_; intro a' c' w1 hown hgrow hat; (have k0 := heap_grown hgrow (heap_old (heap_new w _) _) (by simp [Value.ownBlock])); (have k1 := heap_grown hgrow (heap_new (w.alloc _) _) (by simp [Value.ownBlock])); (have b0 := blk2 k0); clear k0; simp only [World.size_alloc] at k1; (have b1 := blk2 k1); (have hz : w.heap.size + 1 < w1.heap.size := blk_lt k1); clear k1))
  simp only [Nat.zero_add, List.nil_append] at hown
  go_wp2
  refine bodyPost_ret (v := .agg #[.int .i64 tw, .slice a' l.length c']) (by simp [results, Try.results31, go_sem, b1]) rfl ⟨_, _, rfl, ?_, ?_⟩
  · refine ownsRow_chg hown fun k hk _ => ?_
    have h3 : k ≠ w.heap.size + 1 := by
      simp only [Nat.zero_add] at hat
      rcases hat with hat | hat
      · rw [hk] at hat; simp [Value.ownBlock] at hat
      · rw [hk] at hat; simp at hat; omega
    rw [Below.heap_setCell _ _ _ _ h3, Below.heap_setCell _ _ _ _ h3]
  · exact (((bl2 w _ _).drew.grown hgrow (by simp; omega) (by simp [Value.ownBlock])).setCell (by simp) _).setCell (by simp) _

end Go.Proofs.Ytdolaiejkobaiaa
