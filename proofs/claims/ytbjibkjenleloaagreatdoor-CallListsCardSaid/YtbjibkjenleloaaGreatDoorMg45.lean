/- Parts of a proof about the given program, in build order: LstX. No condition. -/
import Derived.Test.YtbjibkjenleloaaGreatDoorMg44
section
namespace Go.Proofs.YtbjibkjenleloaaGreatDoor
set_option linter.unusedVariables false
set_option linter.unusedSimpArgs false
open Go.RowKit
attribute [local go_sem ↓] Go.wp_at_zero Go.wp_at_succ
attribute [local go_sem] run_store_complex run_store_float


theorem chk_yes2 {s : ByteArray} (hs : chkErr s = 0) : s ≠ ByteArray.empty := fun e => (chk_yes hs).2.1 (by rw [e]; rfl)
/-- the list in memory -/
structure LsL (w2 wr : World) (F : List En) (la : Option Addr) (lc : Nat) (last : ByteArray) : Prop where
  nl : Nl F last
  kd : ∀ e ∈ F, e.node.kind = 2
  le : F.length ≤ 20
  own : wr.ownsRow w2.heap.size 55 7 (.slice la F.length lc) F.length (ecs F)
  bel : Below w2.heap.size w2 wr
set_option maxRecDepth 100000 in
set_option maxHeartbeats 4000000 in
theorem ls_list (w w2 : World) (a : Act) (M : List ByteArray) (na : Option Addr) (nc o : Nat) (other : ByteArray) (ve : Int) (K : Code) (hs : a.tmps.size = 310) (hd : a.defers = []) (f1 : a.tmps.getD 1 undef = .slice na M.length nc) (f2 : a.tmps.getD 2 undef = .string other) (f3 : a.tmps.getD 3 undef = .int .i64 ve) (f9 : a.tmps.getD 9 undef = .pointer (some ⟨o, 0, none⟩))
    (hN : Rd w2 (.slice na M.length nc) M.length (srow M)) (hML : M.length ≤ 1000000000000000)
    (hK : ∀ (a : Act) (w3 : World) (F : List En) (la : Option Addr) (lc : Nat) (last : ByteArray), a.tmps.size = 310 → a.defers = [] → a.tmps.getD 2 undef = .string other → a.tmps.getD 3 undef = .int .i64 ve → a.tmps.getD 9 undef = .pointer (some ⟨o, 0, none⟩) → a.tmps.getD 11 undef = .slice la F.length lc → LsL w2 w3 F la lc last → K.wp Tryz.prog (bodyPost Tryz.prog Tryz.f4 fun e w' => e = .returned (.bool true) ∧ Below w.heap.size w w') a w3) :
    (cutN 3 (sndN 3 lsBody) K).wp Tryz.prog (bodyPost Tryz.prog Tryz.f4 fun e w' => e = .returned (.bool true) ∧ Below w.heap.size w w') a w2 := by
  conv => pattern (sndN 3 lsBody); whnf
  simp only [cutN]
  have HKK := hid hK
  have HN := hid hN
  have hml := hN.len
  unfold maxLen at hml
  obtain ⟨i0, hi, z0, z1, z2⟩ := info_parts infoEn
  have HI := hid hi
  have h9 := frame310 a hs hd
  rw [f1, f2, f3, f9] at h9
  generalize a.tmps = u at h9
  subst h9
  clear hs hd f1 f2 f3 f9 hN hK hi
  go_wp2_with fail
  (try simp only [Exit.then])
  refine wp_loop (fun a wr => a.tmps.size = 310 ∧ a.defers = [] ∧ a.tmps.getD 1 undef = .slice na M.length nc ∧ a.tmps.getD 2 undef = .string other ∧ a.tmps.getD 3 undef = .int .i64 ve ∧ a.tmps.getD 9 undef = .pointer (some ⟨o, 0, none⟩) ∧ ∃ (i : Nat) (F : List En) (la : Option Addr) (lc : Nat) (last : ByteArray), i ≤ M.length ∧ a.tmps.getD 11 undef = .slice la F.length lc ∧ a.tmps.getD 12 undef = .string last ∧ a.tmps.getD 13 undef = .int .i64 i ∧ Hid (LsL w2 wr F la lc last)) (fun a _ => M.length - (intOf (a.tmps.getD 13 undef)).toNat) ?_ ?_
  · exact ⟨rfl, rfl, rfl, rfl, rfl, rfl, 0, [], none, 0, { data := #[] }, Nat.zero_le _, rfl, rfl, rfl, hid ⟨Nl.nil, by simp, by simp, World.ownsRow_nil _ _ _ _, Below.refl _ _⟩⟩
  intro a3 wr hI
  obtain ⟨hs, hd, f1, f2, f3, f9, i, F, la, lc, last, him, f11, f12, f13, HL⟩ := hI
  have HMU := hid (show M.length - (intOf (a3.tmps.getD 13 undef)).toNat = M.length - i by rw [f13]; rfl)
  have h9 := frame310 a3 hs hd
  rw [f1, f2, f3, f9, f11, f12, f13] at h9
  generalize a3.tmps = u3 at h9 HMU
  subst h9
  clear hs hd f1 f2 f3 f9 f11 f12 f13
  have hF20 := HL.out.le
  refine wp_seq_k fun K0 hK0 => ?_
  have HK0 := hid hK0
  clear hK0
  by_cases hlt : i < M.length
  · have hk0 : (0 : Int) ≤ (i : Int) := by omega
    have hk1 : (i : Int) < (M.length : Int) := by omega
    by_cases hl20 : F.length < 20
    · have hk2 : (F.length : Int) < 20 := by omega
      obtain ⟨x, hx⟩ : ∃ x, M[i]? = some x := ⟨_, List.getElem?_eq_getElem hlt⟩
      obtain ⟨nb, no, hna⟩ := st_loc HN.out (by omega)
      subst hna
      have HX := hid (fun (W : World) (hb : Below w2.heap.size w2 W) => st_off (HN.out.below hb) hx)
      have x1 := HX.out wr HL.out.bel
      clear hx
      go_wp2
      refine HK0.out _ _ ?_
      clear HK0
      refine wp_seq (wp_block ?_)
      go_wp2_with fail
      refine (check_any x _).mono ?_; rintro e w3 ⟨rfl, hb3⟩
      have HB3 := hid (HL.out.bel.trans (hb3.mono HL.out.bel.size))
      have HO3 := hid (own_below HL.out.own hb3)
      have x3 := HX.out w3 HB3.out
      clear x1 hb3
      by_cases hs : chkErr x = 0
      · rw [hs]
        have HS := hid hs
        clear hs
        by_cases hgt : (!(Op.bytesLess x.toList last.toList || x.toList == last.toList)) = true
        · have HG := hid (gt_of hgt)
          have hg2 : (!(Op.bytesLess x.toList last.toList || x.toList == last.toList)) = true := hgt
          have hw1 : wrap64 (2 + (i : Int)) = 2 + (i : Int) := by unfold wrap64; omega
          have HZ := hid (show w2.heap.size ≤ (w3.alloc (.cells #[.int .i64 1, .string x, .bool false, .int .i64 (2 + (i : Int)), .int .i64 2, .int .i64 0, .string { data := #[] }] 55)).heap.size by have := HB3.out.size; simp; omega)
          have hs3 := HB3.out.size
          clear hgt
          go_wp2_with (at_builtin; refine wpList_append_rd rfl _ _ 47 rfl w2.heap.size 55 i0 _ 7 72 Tryz.underlying47 HI.out z0 z1 z2 rfl (by decide) (.slice la F.length lc) F.length (ecs F) rfl (own_alloc HO3.out _) (.slice (some ⟨w3.heap.size, 0, none⟩) 1 1) 1 ((⟨⟨1, x⟩, false, ⟨2 + (i : Int), 2, 0, { data := #[] }⟩⟩ : En)).cells rfl (rd_blk (heap_new w3 (.cells #[.int .i64 1, .string x, .bool false, .int .i64 (2 + (i : Int)), .int .i64 2, .int .i64 0, .string { data := #[] }] 55)) (by unfold maxLen; omega)) rfl (En.one _) (by unfold maxLen; omega) (by omega) HZ.out ?_; intro a6 c6 w6 hown6 hgrow6 hat6; (have HB6 := hid (((HB3.out.alloc hs3 (.cells #[.int .i64 1, .string x, .bool false, .int .i64 (2 + (i : Int)), .int .i64 2, .int .i64 0, .string { data := #[] }] 55)).grown hgrow6 HZ.out (fun k hk => (own_lt HO3.out hk).1)))); (have x6 := HX.out w6 HB6.out); (have HO6 := hid hown6); clear x3 hown6 hgrow6 hat6)
          (try simp only [Exit.inBlock, Exit.then])
          (try go_wp2)
          refine ⟨⟨rfl, trivial, rfl, rfl, rfl, rfl, i + 1, F ++ [(⟨⟨1, x⟩, false, ⟨2 + (i : Int), 2, 0, { data := #[] }⟩⟩ : En)], a6, c6, x, by omega, ?_, rfl, ?_, hid ⟨HL.out.nl.snoc HG.out (chk_yes2 HS.out) (by omega), ?_, ?_, ?_, HB6.out⟩⟩, ?_⟩
          · rw [List.length_append]; rfl
          · show Value.int .i64 _ = _
            go_num
          · intro e he
            rcases List.mem_append.1 he with h1 | h1
            · exact HL.out.kd e h1
            · have : e = (⟨⟨1, x⟩, false, ⟨2 + (i : Int), 2, 0, { data := #[] }⟩⟩ : En) := by simpa using h1
              subst this
              rfl
          · rw [List.length_append]; show F.length + 1 ≤ 20; omega
          · rw [ecs_snoc, List.length_append]; exact HO6.out
          · rw [HMU.out]
            show M.length - (i + 1) < M.length - i
            omega
        · have hg2 : (!(Op.bytesLess x.toList last.toList || x.toList == last.toList)) = false := by simpa using hgt
          clear hgt
          go_wp2
          (try simp only [Exit.inBlock, Exit.then])
          (try go_wp2)
          refine ⟨⟨rfl, trivial, rfl, rfl, rfl, rfl, i + 1, F, la, lc, last, by omega, rfl, rfl, ?_, hid ⟨HL.out.nl, HL.out.kd, HL.out.le, HO3.out, HB3.out⟩⟩, ?_⟩
          · show Value.int .i64 _ = _
            go_num
          · rw [HMU.out]
            show M.length - (i + 1) < M.length - i
            omega
      · have t1 : (chkErr x == 0) = false := by simp [hs]
        have t2 : decide (chkErr x = 0) = false := by simp [hs]
        clear hs
        go_wp2
        (try simp only [Exit.inBlock, Exit.then])
        (try go_wp2)
        refine ⟨⟨rfl, trivial, rfl, rfl, rfl, rfl, i + 1, F, la, lc, last, by omega, rfl, rfl, ?_, hid ⟨HL.out.nl, HL.out.kd, HL.out.le, HO3.out, HB3.out⟩⟩, ?_⟩
        · show Value.int .i64 _ = _
          go_num
        · rw [HMU.out]
          show M.length - (i + 1) < M.length - i
          omega
    · have hk2 : ¬ ((F.length : Int) < 20) := by omega
      go_wp2
      (try simp only [Exit.inBlock, Exit.then])
      refine HKK.out _ wr F la lc last ?_ ?_ ?_ ?_ ?_ ?_ HL.out
      iterate 6 rfl
  · have hnl : ¬ ((i : Int) < (M.length : Int)) := by omega
    go_wp2
    (try simp only [Exit.inBlock, Exit.then])
    refine HKK.out _ wr F la lc last ?_ ?_ ?_ ?_ ?_ ?_ HL.out
    iterate 6 rfl
end Go.Proofs.YtbjibkjenleloaaGreatDoor

end
