import Derived.Test.YtmhogjecfgbchaaRefB
namespace Go.Proofs.Ytmhogjecfgbchaa
set_option linter.unusedVariables false
set_option linter.unusedSimpArgs false
open Go.RowKit
attribute [local go_sem ↓] Go.wp_at_zero Go.wp_at_succ

theorem sorted_names {N L : List En} {d : Int} (hp : N.Perm (L.filter (inDir d))) (hs : N.Pairwise RK) (hn : (L.map En.key).Nodup) : N.Pairwise fun x y => nmLt x.key.name y.key.name = true := by
  have hkN : (N.map En.key).Nodup := (hp.map En.key).nodup_iff.2 (hn.sublist ((List.filter_sublist ..).map _))
  have hk2 : N.Pairwise fun x y => x.key ≠ y.key := by rw [List.Nodup, List.pairwise_map] at hkN; exact hkN
  have hd : ∀ e ∈ N, e.key.dir = d := fun e he => by
    have := (List.mem_filter.1 (hp.mem_iff.1 he)).2
    simp [inDir] at this; exact this.1
  refine (hs.and hk2).imp_of_mem ?_
  intro x y hx hy ⟨h1, h2⟩
  cases h : nmLt x.key.name y.key.name with
  | true => rfl
  | false =>
    have hxy : lessK x.key y.key = false := by
      cases h3 : lessK x.key y.key with
      | false => rfl
      | true =>
        rw [lessK_iff] at h3
        rcases h3 with h3 | ⟨_, h3⟩
        · rw [hd x hx, hd y hy] at h3; omega
        · rw [h] at h3; cases h3
    exact absurd (lessK_total hxy h1) h2

def dirF (d : Int) (L : List En) : List En := L.filter (inDir d)
theorem dirF_yes {d : Int} {L : List En} {y : En} (h : inDir d y = true) : dirF d (L ++ [y]) = dirF d L ++ [y] := by simp [dirF, h]
theorem dirF_no {d : Int} {L : List En} {y : En} (h : inDir d y = false) : dirF d (L ++ [y]) = dirF d L := by simp [dirF, h]
theorem dirF_le (d : Int) (L : List En) : (dirF d L).length ≤ L.length := List.length_filter_le _ _

set_option maxRecDepth 100000 in
set_option maxHeartbeats 2000000 in
theorem r_names (w : World) (p : Nat) (L : List En) (ws : List Int) (d : Int) (h : RAt w p L ws) (hk : (L.map En.key).Nodup) (hn : L.length * 72 ≤ 140737488351232) :
    Calls Try.prog 65 #[.pointer (some ⟨p, 0, none⟩), .int .i64 d] w fun e w' => ∃ (N : List En) (a : Option Addr) (c : Nat), e = .returned (.slice a N.length c) ∧ N.Perm (L.filter (inDir d)) ∧ (N.Pairwise fun x y => nmLt x.key.name y.key.name = true) ∧ w'.ownsRow w.heap.size 30 7 (.slice a N.length c) N.length (ecs N) ∧ Below w.heap.size w w' := by
  obtain ⟨aL, cL, aW, cW, h1, h2, h3⟩ := h.ex
  have K0 := hid h1
  have O0 := hid h2
  have hpz := blk_lt h1
  obtain ⟨i7, hi7, p7, q7, r7⟩ := info_parts infoEn
  have HI7 := hid hi7
  have HK := hid hk
  have hnn : L.length ≤ 9223372036854775807 := by omega
  clear h h1 h2 h3 hi7 hk
  go_enter Try.func65, Try.ntmps65
  go_wp2_with fail
  go_loopw [5, 6] (fun v5 v6 wr => ∃ (i : Nat) (a5 : Option Addr) (c5 : Nat), i ≤ L.length ∧ v6 = .int .i64 i ∧ v5 = .slice a5 (dirF d (L.take i)).length c5 ∧ Hid (Below w.heap.size w wr) ∧ Hid (wr.ownsRow w.heap.size 30 7 (.slice a5 (dirF d (L.take i)).length c5) (dirF d (L.take i)).length (ecs (dirF d (L.take i))))) (fun _ v6 _ => L.length - (intOf v6).toNat)
  case atStart => exact ⟨0, none, 0, Nat.zero_le _, rfl, rfl, hid (Below.refl _ _), hid (World.ownsRow_nil _ _ _ _)⟩
  case round =>
    obtain ⟨i, a5, c5, hi, rfl, rfl, HB, HO⟩ := hrel
    have hzz := HB.out.size
    have b0 := blk2 (heap_below HB.out K0.out hpz)
    have hpl : (dirF d (L.take i)).length ≤ i := Nat.le_trans (dirF_le _ _) (by simp; omega)
    by_cases hlt : i < L.length
    · have hi0 : (0 : Int) ≤ (i : Int) := by omega
      have hi1 : (i : Int) < (L.length : Int) := by omega
      have OWr := hid (own_below O0.out HB.out)
      obtain ⟨g, hag, hBg, hgz, hg1, hg2⟩ := own_loc OWr.out (by omega)
      obtain ⟨y, hy⟩ : ∃ y, L[i]? = some y := ⟨_, List.getElem?_eq_getElem hlt⟩
      subst hag
      have b1 := ecs_at (Rd.own OWr.out) hy
      have htk : L.take (i + 1) = L.take i ++ [y] := by rw [List.take_add_one, hy]; rfl
      have HTK := hid htk
      clear hy htk
      by_cases hd : y.key.dir = d
      · have hd1 : (y.key.dir == d) = true := by simpa using hd
        cases hng : y.neg with
        | true =>
          have HF := hid (dirF_no (L := L.take i) (show inDir d y = false by simp [inDir, hng]))
          rw [hng] at b1
          clear hng hd
          go_wp2
          exact ⟨⟨i + 1, a5, c5, by omega, by go_num, by rw [HTK.out, HF.out], HB, hid (by rw [HTK.out, HF.out]; exact HO.out)⟩, by simp [intOf]; omega⟩
        | false =>
          have HF := hid (dirF_yes (L := L.take i) (show inDir d y = true by simp [inDir, hng, hd]))
          have HCE := hid (show y.cells = [.int .i64 y.key.dir, .string y.key.name, .bool false, .int .i64 y.node.id, .int .i64 y.node.kind, .int .i64 y.node.mode, .string y.node.target] by rw [← hng]; rfl)
          have HONE := hid (En.one y)
          rw [HCE.out] at HONE
          rw [hng] at b1
          clear hng hd
          go_wp2_with (at_builtin; refine wpList_append_rd rfl _ _ 49 rfl w.heap.size 30 i7 _ 7 72 Try.underlying49 HI7.out p7 q7 r7 rfl (by decide) (.slice a5 (dirF d (L.take i)).length c5) (dirF d (L.take i)).length (ecs (dirF d (L.take i))) rfl (own_alloc HO.out _) (.slice (some ⟨wr.heap.size, 0, none⟩) 1 1) 1 [.int .i64 y.key.dir, .string y.key.name, .bool false, .int .i64 y.node.id, .int .i64 y.node.kind, .int .i64 y.node.mode, .string y.node.target] rfl (rd_blk (heap_new wr (.cells #[.int .i64 y.key.dir, .string y.key.name, .bool false, .int .i64 y.node.id, .int .i64 y.node.kind, .int .i64 y.node.mode, .string y.node.target] 30)) (by unfold maxLen; omega)) rfl HONE.out (by unfold maxLen; omega) (by omega) (Nat.le_trans hzz (by simp)) ?_; intro a6 c6 w6 hown6 hgrow6 hat6)
          refine ⟨⟨i + 1, a6, c6, by omega, by go_num, by rw [HTK.out, HF.out, List.length_append]; rfl, hid ?_, hid (by rw [HTK.out, HF.out, ecs_snoc, List.length_append, HCE.out]; exact hown6)⟩, by simp [intOf]; omega⟩
          exact (HB.out.alloc hzz _).grown hgrow6 (Nat.le_trans hzz (by simp)) (fun k hk => (own_lt HO.out hk).1)
      · have hd1 : (y.key.dir == d) = false := by simpa using hd
        have HF := hid (dirF_no (L := L.take i) (show inDir d y = false by simp [inDir, hd]))
        clear hd
        go_wp2
        exact ⟨⟨i + 1, a5, c5, by omega, by go_num, by rw [HTK.out, HF.out], HB, hid (by rw [HTK.out, HF.out]; exact HO.out)⟩, by simp [intOf]; omega⟩
    · have hje : L.take i = L := List.take_of_length_le (by omega)
      rw [hje] at HO ⊢
      have hdl := dirF_le d L
      clear hje
      go_wp2_with (go_at_call 77; refine (r_sorted _ (dirF d L) a5 c5 (Rd.own HO.out) (by omega)).mono ?_; rintro r w3 ⟨Q, a7, c7, rfl, hq1, hq2, hq3, hq4⟩)
      go_ret
      exact ⟨Q, a7, c7, rfl, hq1, sorted_names hq1 hq2 HK.out, ownsRow_mono hq3 hzz, HB.out.trans (hq4.mono hzz)⟩

end Go.Proofs.Ytmhogjecfgbchaa
