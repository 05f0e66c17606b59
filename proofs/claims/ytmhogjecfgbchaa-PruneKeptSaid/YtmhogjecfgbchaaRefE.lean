import Derived.Test.YtmhogjecfgbchaaRefD
namespace Go.Proofs.Ytmhogjecfgbchaa
set_option linter.unusedVariables false
set_option linter.unusedSimpArgs false
open Go.RowKit
attribute [local go_sem ↓] Go.wp_at_zero Go.wp_at_succ

def k3 (x : Dop) : List Ky := [x.e.key, ⟨x.dir, ByteArray.empty⟩, ⟨x.e.node.id, nA⟩]
def keysL (S : List Dop) : List Ky := S.flatMap fun x => k3 x ++ x.ks
theorem keysL_take {S : List Dop} {i : Nat} {x : Dop} (h : S[i]? = some x) : keysL (S.take (i + 1)) = (keysL (S.take i) ++ k3 x) ++ x.ks := by
  unfold keysL; rw [List.take_add_one, h]; simp
theorem keysL_le (S : List Dop) (i : Nat) : (keysL (S.take i)).length ≤ (keysL S).length := by
  conv => rhs; rw [← List.take_append_drop i S]
  unfold keysL; rw [List.flatMap_append, List.length_append]; omega

set_option maxRecDepth 100000 in
set_option maxHeartbeats 2000000 in
theorem keysOf_walk (sa : Option Addr) (sc : Nat) (S : List Dop) (w : World) (hS : ScrD w (.slice sa S.length sc) S) (hz : S.length * 112 ≤ 140737488355328) (hb : (keysL S).length * 24 ≤ 140737488355328) :
    Calls Try.prog 39 #[.slice sa S.length sc] w fun r w' => ∃ a c, r = .returned (.slice a (keysL S).length c) ∧ w'.ownsRow w.heap.size 26 2 (.slice a (keysL S).length c) (keysL S).length (kyc (keysL S)) ∧ Below w.heap.size w w' := by
  have HS := hid hS
  have hn : S.length ≤ 9223372036854775807 := by omega
  obtain ⟨i2, hi2, p2, q2, r2⟩ := info_parts infoKy
  have HI2 := hid hi2
  clear hS hi2
  go_enter Try.func39, Try.ntmps39
  go_wp2_with fail
  go_loopw [3, 4] (fun v3 v4 wr => ∃ (i : Nat) (a5 : Option Addr) (c5 : Nat), i ≤ S.length ∧ v4 = .int .i64 i ∧ v3 = .slice a5 (keysL (S.take i)).length c5 ∧ Hid (Below w.heap.size w wr) ∧ Hid (wr.ownsRow w.heap.size 26 2 (.slice a5 (keysL (S.take i)).length c5) (keysL (S.take i)).length (kyc (keysL (S.take i))))) (fun _ v4 _ => S.length - (intOf v4).toNat)
  case atStart => exact ⟨0, none, 0, Nat.zero_le _, rfl, rfl, hid (Below.refl _ _), hid (World.ownsRow_nil _ _ _ _)⟩
  case round =>
    obtain ⟨i, a5, c5, hi, rfl, rfl, HB, HO⟩ := hrel
    have hzz := HB.out.size
    by_cases hlt : i < S.length
    · have hi0 : (0 : Int) ≤ (i : Int) := by omega
      have hi1 : (i : Int) < (S.length : Int) := by omega
      obtain ⟨x, hx⟩ : ∃ x, S[i]? = some x := ⟨_, List.getElem?_eq_getElem hlt⟩
      obtain ⟨b, off, rfl⟩ := HS.out.loc (by omega)
      have CE := scrD_at HS.out HB.out hx
      have HX := hid hx
      have HTK := hid (keysL_take hx)
      have hle := keysL_le S (i + 1)
      rw [HTK.out, List.length_append, List.length_append, show (k3 x).length = 3 from rfl] at hle
      have HR := hid (HS.out.each x (List.mem_of_getElem? hx))
      obtain ⟨n0, hn0⟩ : ∃ n0, n0 = (keysL (S.take i)).length := ⟨_, rfl⟩
      obtain ⟨K0, hK0⟩ : ∃ K0, K0 = keysL (S.take i) := ⟨_, rfl⟩
      rw [← hK0] at HO HTK hn0 hle ⊢
      have HN0 := hid hn0
      clear hx hK0 hn0
      go_wp2_with fail
      go_region_law (refine step_append_rd (by rfl) _ _ 31 (by rfl) w.heap.size 26 i2 _ 2 24 Try.underlying31 HI2.out p2 q2 r2 rfl (by decide) (.slice a5 K0.length c5) K0.length (kyc K0) (by rfl) (own_alloc (own_drew HO.out) _) (.slice (some ⟨wr.heap.size, 0, none⟩) 3 3) 3 [.int .i64 x.e.key.dir, .string x.e.key.name, .int .i64 x.dir, .string { data := #[] }, .int .i64 x.e.node.id, .string { data := #[97] }] (by rfl) (rd_blk (heap_new wr.drew (.cells #[.int .i64 x.e.key.dir, .string x.e.key.name, .int .i64 x.dir, .string { data := #[] }, .int .i64 x.e.node.id, .string { data := #[97] }] 26)) (by unfold maxLen; omega)) rfl (kyc_one (k3 x)) (by unfold maxLen; omega) (by omega) (by simp; omega) ?_; intro a6 c6 w6 hown6 hgrow6 hat6; (have hb6 := (HB.out.drew.alloc hzz (.cells #[.int .i64 x.e.key.dir, .string x.e.key.name, .int .i64 x.dir, .string { data := #[] }, .int .i64 x.e.node.id, .string { data := #[97] }] 26)).grown hgrow6 (Nat.le_trans hzz (by simp)) (fun k hk => (own_lt HO.out hk).1)); (have CE6 := scrD_at HS.out hb6 HX.out); (have HB6 := hid hb6); (have HO6 := hid hown6); clear hown6 hgrow6 hat6 hb6)
      all_goals
        have hz6 := HB6.out.size
        go_wp2_with (at_builtin; refine wpList_append_rd rfl _ _ 31 rfl w.heap.size 26 i2 _ 2 24 Try.underlying31 HI2.out p2 q2 r2 rfl (by decide) (.slice a6 (K0.length + 3) c6) (K0.length + 3) _ rfl HO6.out (.slice x.a x.ks.length x.c) x.ks.length (kyc x.ks) rfl (HR.out.below HB6.out) (kyc_len x.ks) (kyc_one x.ks) (by unfold maxLen; omega) (by omega) hz6 ?_; intro a7 c7 w7 hown7 hgrow7 hat7)
        refine ⟨⟨i + 1, a7, c7, by omega, by go_num, by rw [HTK.out, List.length_append, List.length_append]; rfl, hid (HB6.out.grown hgrow7 hz6 (fun k hk => (own_lt HO6.out hk).1)), hid (by rw [HTK.out, kyc_append, kyc_append, List.length_append, List.length_append]; exact hown7)⟩, by simp [intOf]; omega⟩
    · have hje : S.take i = S := List.take_of_length_le (by omega)
      rw [hje] at HO ⊢
      clear hje
      go_wp2
      go_ret
      exact ⟨a5, c5, rfl, HO.out, HB.out⟩

end Go.Proofs.Ytmhogjecfgbchaa
