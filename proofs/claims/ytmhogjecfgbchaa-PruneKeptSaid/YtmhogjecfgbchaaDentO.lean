import Derived.Test.YtmhogjecfgbchaaDentN
namespace Go.Proofs.Ytmhogjecfgbchaa
set_option linter.unusedVariables false
set_option linter.unusedSimpArgs false
open Go.RowKit
attribute [local go_sem ↓] Go.wp_at_zero Go.wp_at_succ

theorem kvs_at {w : World} {g n c m : Nat} {M : List Ke} {j : Nat} {x : Ke} (h : Rd w (.slice (some ⟨g, 0, none⟩) n c) m (kvs M)) (hx : M[j]? = some x) :
    w.cell? ⟨g, j * 8, none⟩ = some (.int .i64 x.e.key.dir) ∧ w.cell? ⟨g, j * 8 + 1, none⟩ = some (.string x.e.key.name) ∧ w.cell? ⟨g, j * 8 + 2, none⟩ = some (.bool x.e.neg) ∧ w.cell? ⟨g, j * 8 + 3, none⟩ = some (.int .i64 x.e.node.id) ∧ w.cell? ⟨g, j * 8 + 4, none⟩ = some (.int .i64 x.e.node.kind) ∧ w.cell? ⟨g, j * 8 + 5, none⟩ = some (.int .i64 x.e.node.mode) ∧ w.cell? ⟨g, j * 8 + 6, none⟩ = some (.string x.e.node.target) ∧ w.cell? ⟨g, j * 8 + 7, none⟩ = some (.int .i64 x.used) := by
  have g0 : ∀ (i : Nat) (v : Value), x.cells[i]? = some v → w.cell? ⟨g, j * 8 + i, none⟩ = some v := fun i v hi => by
    have := h.at _ _ (flatMap_at (f := Ke.cells) (sz := 8) (fun _ => rfl) hx hi)
    simpa using this
  exact ⟨g0 0 _ rfl, g0 1 _ rfl, g0 2 _ rfl, g0 3 _ rfl, g0 4 _ rfl, g0 5 _ rfl, g0 6 _ rfl, g0 7 _ rfl⟩

theorem ordd_unique {K M : List Ke} {ck : Int} {L : List En} (h : Ordd K ck L) (hp : M.Perm K) (hs : M.Pairwise fun x y => ¬ y.used < x.used) : M.map Ke.e = L := by
  obtain ⟨M0, h1, h2, h3, rfl⟩ := h.ex
  rw [uniq_sorted (hp.trans h1.symm) h2 hs]

theorem ItAt.own {w W : World} {r me cl : Nat} {K D rest : List Ke} {e sz n : Nat} {v : Value} {xs : List Value} (hg : Chg (fun k => k = r) w W) (h : w.ownsRow (r + 1) e sz v n xs) : W.ownsRow (r + 1) e sz v n xs :=
  ownsRow_chg h fun k hk hlt => hg.block k hlt (fun e => by have := (own_lt h hk).1; omega)

set_option maxHeartbeats 2000000 in
theorem c_entries (w : World) (B p n : Nat) (L : List En) (wh : Int → Bool) (h : CAt w B p n L wh) (hn : n * 80 ≤ 140737488351232) :
    Calls Try.prog 32 #[.pointer (some ⟨p, 0, none⟩)] w fun e w' => ∃ a c, e = .returned (.slice a L.length c) ∧ w'.ownsRow w.heap.size 30 7 (.slice a L.length c) L.length (ecs L) ∧ Below w.heap.size w w' := by
  have hLn := h.len
  obtain ⟨s, h0, rfl, h1, h2, h3, h4, h5, h6⟩ := h.ex
  obtain ⟨i8, hi8, p8, q8, r8⟩ := info_parts infoKe
  obtain ⟨i7, hi7, p7, q7, r7⟩ := info_parts infoEn
  have hKL : s.K.length = L.length := by have := h5.permL.length_eq; simpa using this.symm
  have b0 := blk3 h0.hp
  have hrg := run_range_k h0.he
  have HH := hid h0
  have HO := hid h5
  have HI8 := hid hi8
  have HI7 := hid hi7
  clear h h0 h1 h2 h3 h4 h5 h6 hi8 hi7
  go_enter Try.func32, Try.ntmps32
  go_wp2_with fail
  go_loopw [3] (fun v wr => ∃ (D rest : List Ke) (a1 : Option Addr) (c1 : Nat), v = .slice a1 D.length c1 ∧ Hid (ItAt wr w.heap.size s.me s.c1 s.K D rest) ∧ Hid (wr.ownsRow (w.heap.size + 1) 78 8 (.slice a1 D.length c1) D.length (kvs D)) ∧ Hid (Below w.heap.size w wr) ∧ Hid (w.heap.size + 1 ≤ wr.heap.size)) (fun _ wr => s.K.length - (wr.iterSeen w.heap.size).size)
  case atStart => exact ⟨[], s.K, none, 0, rfl, hid ⟨⟨_, Nat.le_refl _, heap_new w _⟩, List.Perm.refl _⟩, hid (World.ownsRow_nil _ _ _ _), hid (bl1 w _), hid (by simp)⟩
  case round =>
    clear hrg b0
    obtain ⟨D, rest, a1, c1, rfl, HI, HR, HB, HZ⟩ := hrel
    have hh := HH.out.below HB.out
    have hme : w.heap.size ≠ s.me := fun e => by have := blk_lt HH.out.he; omega
    have hDl := HI.out.len
    have hz1 := HZ.out
    rcases next_k HI.out hh.he hme hh.b1 hh.n1 with ⟨h0, hnx⟩ | ⟨x, rest', W, hnx, hen, hit, hchg, hxm, hpm⟩
    · have hDK : D.Perm s.K := by have := HI.out.pm; rw [h0, List.append_nil] at this; exact this
      have HD := hid hDK
      clear h0 hh hDK
      go_wp2_with (go_at_call 55; refine (sort_used _ _ a1 c1 D HR.out (by omega)).mono ?_; rintro e w4 ⟨rfl, M, hMp, hMs, hown4, hg4⟩; (have HMP := hid hMp); (have HMS := hid hMs); (have hml := hMp.length_eq); rw [hml] at hown4; (have HO4 := hid hown4); (have HG4 := hid hg4); clear hMp hMs hown4 hg4)
      have hML := ordd_unique HO.out (HMP.out.trans HD.out) (HMS.out.imp (fun h => by omega))
      have HML := hid hML
      have hb4 := chg_to_below HB.out HG4.out (fun k hk => by omega) (Nat.le_refl _)
      have HB4 := hid hb4
      have hz4 := HG4.out.size
      have hDl2 : D.length ≤ 9223372036854775807 := by omega
      clear hML hb4
      go_loopw [6, 26] (fun v6 v26 wi => ∃ (j : Nat) (a2 : Option Addr) (c2 : Nat), j ≤ D.length ∧ v26 = .int .i64 j ∧ v6 = .slice a2 j c2 ∧ Hid (wi.ownsRow (w.heap.size + 1) 78 8 (.slice a1 D.length c1) D.length (kvs M)) ∧ Hid (wi.ownsRow w.heap.size 30 7 (.slice a2 j c2) j (ecs ((M.map Ke.e).take j))) ∧ Hid (Below w.heap.size w wi) ∧ Hid (w.heap.size ≤ wi.heap.size)) (fun _ v26 _ => D.length - (intOf v26).toNat)
      case atStart => exact ⟨0, none, 0, Nat.zero_le _, rfl, rfl, HO4, hid (World.ownsRow_nil _ _ _ _), HB4, hid (by omega)⟩
      case round =>
        obtain ⟨j, a2, c2, hj, rfl, rfl, HR5, HE5, HB5, HZ5⟩ := hrel
        by_cases hlt : j < D.length
        · have hk0 : (0 : Int) ≤ (j : Int) := by omega
          have hk1 : (j : Int) < (D.length : Int) := by omega
          obtain ⟨g, hag, hBg, hgz, hc1, hc2⟩ := own_loc HR5.out (by omega)
          obtain ⟨x, hx⟩ : ∃ x, M[j]? = some x := ⟨_, List.getElem?_eq_getElem (by omega)⟩
          subst hag
          have b1 := kvs_at (Rd.own HR5.out) hx
          have BX := blk8 (heap_new wr (.cells #[.int .i64 x.e.key.dir, .string x.e.key.name, .bool x.e.neg, .int .i64 x.e.node.id, .int .i64 x.e.node.kind, .int .i64 x.e.node.mode, .string x.e.node.target, .int .i64 x.used] 78))
          have hz5 := HZ5.out
          have hsn : (M.map Ke.e).take (j + 1) = (M.map Ke.e).take j ++ [x.e] := by rw [List.take_add_one, List.getElem?_map, hx]; rfl
          have HSN := hid hsn
          clear hx hsn
          go_wp2_with (at_builtin; refine wpList_append_rd rfl _ _ 49 rfl w.heap.size 30 i7 _ 7 72 Try.underlying49 HI7.out p7 q7 r7 rfl (by decide) (.slice a2 j c2) j (ecs ((M.map Ke.e).take j)) rfl (own_alloc (own_alloc HE5.out _) _) (.slice (some ⟨wr.heap.size + 1, 0, none⟩) 1 1) 1 [.int .i64 x.e.key.dir, .string x.e.key.name, .bool x.e.neg, .int .i64 x.e.node.id, .int .i64 x.e.node.kind, .int .i64 x.e.node.mode, .string x.e.node.target] rfl (rd_blk (by have e := heap_new (wr.alloc (.cells #[.int .i64 x.e.key.dir, .string x.e.key.name, .bool x.e.neg, .int .i64 x.e.node.id, .int .i64 x.e.node.kind, .int .i64 x.e.node.mode, .string x.e.node.target, .int .i64 x.used] 78)) (.cells #[.int .i64 x.e.key.dir, .string x.e.key.name, .bool x.e.neg, .int .i64 x.e.node.id, .int .i64 x.e.node.kind, .int .i64 x.e.node.mode, .string x.e.node.target] 30); simp only [World.size_alloc] at e; exact e) (by unfold maxLen; omega)) rfl (En.one x.e) (by unfold maxLen; omega) (by omega) (by simp; omega) ?_; intro a5 c5 w5 hown5 hgrow5 hat5)
          have HR6 := own_grown (own_alloc (own_alloc HR5.out _) _) hgrow5 (fun k hk => own_ne2 HR5.out HE5.out (by decide) k hk)
          refine ⟨⟨j + 1, a5, c5, by omega, by go_num, rfl, hid HR6, hid ?_, hid ?_, hid ?_⟩, by simp [intOf]; omega⟩
          · rw [HSN.out, ecs_snoc]; exact hown5
          · exact (HB5.out.trans ((bl2 wr _ _).mono HZ5.out)).grown hgrow5 (by simp; omega) (fun k hk => (own_lt HE5.out hk).1)
          · have := hgrow5.size; simp at this; omega
        · have hjj : (M.map Ke.e).take j = L := by rw [← HML.out]; exact List.take_of_length_le (by simp; omega)
          have hje : j = L.length := by have := HD.out.length_eq; omega
          have HE6 := HE5.out
          rw [hjj, hje] at HE6
          have HE7 := hid HE6
          clear HE6 hjj
          subst hje
          go_wp2
          go_ret
          exact ⟨_, _, rfl, HE7.out, HB5.out⟩
    · have HT := hid hit
      have HG := hid hchg
      have HR2 := hid (ItAt.own (K := s.K) (D := D) (rest := rest) (me := s.me) (cl := s.c1) HG.out HR.out)
      have BX := blk8 (heap_new W (.cells #[.int .i64 x.e.key.dir, .string x.e.key.name, .bool x.e.neg, .int .i64 x.e.node.id, .int .i64 x.e.node.kind, .int .i64 x.e.node.mode, .string x.e.node.target, .int .i64 x.used] 78))
      have hz2 := HG.out.size
      have hlt : D.length + 1 ≤ s.K.length := by have := HT.out.len; simp at this; omega
      clear hh hit hchg hxm hpm
      go_wp2_with (at_builtin; refine wpList_append_rd rfl _ _ 84 rfl (w.heap.size + 1) 78 i8 _ 8 80 Try.underlying84 HI8.out p8 q8 r8 rfl (by decide) (.slice a1 D.length c1) D.length (kvs D) rfl (own_alloc (own_alloc HR2.out _) _) (.slice (some ⟨W.heap.size + 1, 0, none⟩) 1 1) 1 [.int .i64 x.e.key.dir, .string x.e.key.name, .bool x.e.neg, .int .i64 x.e.node.id, .int .i64 x.e.node.kind, .int .i64 x.e.node.mode, .string x.e.node.target, .int .i64 x.used] rfl (rd_blk (by have e := heap_new (W.alloc (.cells #[.int .i64 x.e.key.dir, .string x.e.key.name, .bool x.e.neg, .int .i64 x.e.node.id, .int .i64 x.e.node.kind, .int .i64 x.e.node.mode, .string x.e.node.target, .int .i64 x.used] 78)) (.cells #[.int .i64 x.e.key.dir, .string x.e.key.name, .bool x.e.neg, .int .i64 x.e.node.id, .int .i64 x.e.node.kind, .int .i64 x.e.node.mode, .string x.e.node.target, .int .i64 x.used] 78); simp only [World.size_alloc] at e; exact e) (by unfold maxLen; omega)) rfl (Ke.one x) (by unfold maxLen; omega) (by omega) (by simp; omega) ?_; intro a5 c5 w5 hown5 hgrow5 hat5)
      have hgr : ∀ k, (Value.slice a1 D.length c1).ownBlock = some k → w.heap.size + 1 ≤ k := fun k hk => (own_lt HR.out hk).1
      have hbW : Below w.heap.size w ((W.alloc (.cells #[.int .i64 x.e.key.dir, .string x.e.key.name, .bool x.e.neg, .int .i64 x.e.node.id, .int .i64 x.e.node.kind, .int .i64 x.e.node.mode, .string x.e.node.target, .int .i64 x.used] 78)).alloc (.cells #[.int .i64 x.e.key.dir, .string x.e.key.name, .bool x.e.neg, .int .i64 x.e.node.id, .int .i64 x.e.node.kind, .int .i64 x.e.node.mode, .string x.e.node.target, .int .i64 x.used] 78)) := (chg_to_below HB.out HG.out (fun k hk => by omega) (Nat.le_refl _)).trans ((bl2 W _ _).mono (by omega))
      have hI5 : ItAt w5 w.heap.size s.me s.c1 s.K (D ++ [x]) rest' := by
        obtain ⟨⟨c0, hc0, hr⟩, hp⟩ := HT.out.below (bl2 W (.cells #[.int .i64 x.e.key.dir, .string x.e.key.name, .bool x.e.neg, .int .i64 x.e.node.id, .int .i64 x.e.node.kind, .int .i64 x.e.node.mode, .string x.e.node.target, .int .i64 x.used] 78) (.cells #[.int .i64 x.e.key.dir, .string x.e.key.name, .bool x.e.neg, .int .i64 x.e.node.id, .int .i64 x.e.node.kind, .int .i64 x.e.node.mode, .string x.e.node.target, .int .i64 x.used] 78))
        exact ⟨⟨c0, hc0, heap_grown hgrow5 hr (fun e => by have := hgr _ e.symm; omega)⟩, hp⟩
      refine ⟨⟨D ++ [x], rest', a5, c5, by rw [List.length_append]; rfl, hid hI5, hid ?_, hid (hbW.grown hgrow5 (by simp; omega) (fun k hk => by have := hgr k hk; omega)), hid ?_⟩, HI.out.step hI5⟩
      · rw [kvs_snoc, List.length_append]; exact hown5
      · have := hgrow5.size; simp at this; omega

def inDir (d : Int) (e : En) : Bool := e.key.dir == d && !e.neg
def namesOf (d : Int) (D : List Ke) : List En := (D.map Ke.e).filter (inDir d)
theorem namesOf_yes {d : Int} {D : List Ke} {x : Ke} (h : inDir d x.e = true) : namesOf d (D ++ [x]) = namesOf d D ++ [x.e] := by simp [namesOf, h]
theorem namesOf_no {d : Int} {D : List Ke} {x : Ke} (h : inDir d x.e = false) : namesOf d (D ++ [x]) = namesOf d D := by simp [namesOf, h]
theorem namesOf_le (d : Int) (D : List Ke) : (namesOf d D).length ≤ D.length := by
  have := List.length_filter_le (inDir d) (D.map Ke.e)
  rw [List.length_map] at this; exact this
theorem strict_names {N : List En} {d : Int} (hs : N.Pairwise fun x y => nmLt y.key.name x.key.name = false) (hk : (N.map En.key).Nodup) (hd : ∀ e ∈ N, e.key.dir = d) : N.Pairwise fun x y => nmLt x.key.name y.key.name = true := by
  have hk2 : N.Pairwise fun x y => x.key ≠ y.key := by
    have := hk; rw [List.Nodup, List.pairwise_map] at this; exact this
  refine (hs.and hk2).imp_of_mem ?_
  intro x y hx hy ⟨h1, h2⟩
  cases h : nmLt x.key.name y.key.name with
  | true => rfl
  | false =>
    have hn := nm_total h h1
    have hdd : x.key.dir = y.key.dir := by rw [hd x hx, hd y hy]
    exact absurd (by cases hx' : x.key; cases hy' : y.key; rw [hx', hy'] at hn hdd; simp only at hn hdd; rw [hn, hdd]) h2

set_option maxHeartbeats 2000000 in
theorem c_names (w : World) (B p n : Nat) (L : List En) (wh : Int → Bool) (d : Int) (h : CAt w B p n L wh) (hn : n * 80 ≤ 140737488351232) :
    Calls Try.prog 36 #[.pointer (some ⟨p, 0, none⟩), .int .i64 d] w fun e w' => ∃ (N : List En) (a : Option Addr) (c : Nat), e = .returned (.slice a N.length c) ∧ N.Perm (L.filter (inDir d)) ∧ (N.Pairwise fun x y => nmLt x.key.name y.key.name = true) ∧ w'.ownsRow w.heap.size 30 7 (.slice a N.length c) N.length (ecs N) ∧ Below w.heap.size w w' := by
  have hLn := h.len
  have HKEYS := hid h.keys
  obtain ⟨s, h0, rfl, h1, h2, h3, h4, h5, h6⟩ := h.ex
  obtain ⟨i7, hi7, p7, q7, r7⟩ := info_parts infoEn
  have hKL : s.K.length = L.length := by have := h5.permL.length_eq; simpa using this.symm
  have b0 := blk3 h0.hp
  have hrg := run_range_k h0.he
  have HH := hid h0
  have HO := hid h5
  have HI7 := hid hi7
  clear h h0 h1 h2 h3 h4 h5 h6 hi7
  go_enter Try.func36, Try.ntmps36
  go_wp2_with fail
  go_loopw [5] (fun v wr => ∃ (D rest : List Ke) (a2 : Option Addr) (c2 : Nat), v = .slice a2 (namesOf d D).length c2 ∧ Hid (ItAt wr w.heap.size s.me s.c1 s.K D rest) ∧ Hid (wr.ownsRow (w.heap.size + 1) 30 7 (.slice a2 (namesOf d D).length c2) (namesOf d D).length (ecs (namesOf d D))) ∧ Hid (Below w.heap.size w wr) ∧ Hid (w.heap.size + 1 ≤ wr.heap.size)) (fun _ wr => s.K.length - (wr.iterSeen w.heap.size).size)
  case atStart => exact ⟨[], s.K, none, 0, rfl, hid ⟨⟨_, Nat.le_refl _, heap_new w _⟩, List.Perm.refl _⟩, hid (World.ownsRow_nil _ _ _ _), hid (bl1 w _), hid (by simp)⟩
  case round =>
    clear hrg b0
    obtain ⟨D, rest, a2, c2, rfl, HI, HR, HB, HZ⟩ := hrel
    have hh := HH.out.below HB.out
    have hme : w.heap.size ≠ s.me := fun e => by have := blk_lt HH.out.he; omega
    have hDl := HI.out.len
    have hNl := namesOf_le d D
    have hz1 := HZ.out
    rcases next_k HI.out hh.he hme hh.b1 hh.n1 with ⟨h0, hnx⟩ | ⟨x, rest', W, hnx, hen, hit, hchg, hxm, hpm⟩
    · have hDK : D.Perm s.K := by have := HI.out.pm; rw [h0, List.append_nil] at this; exact this
      have HNP := hid (show (namesOf d D).Perm (L.filter (inDir d)) from ((hDK.map Ke.e).trans HO.out.permL.symm).filter _)
      clear h0 hh hDK
      go_wp2_with (go_at_call 58; refine (sort_names _ _ a2 c2 (namesOf d D) HR.out (by omega)).mono ?_; rintro e w4 ⟨rfl, M, hMp, hMs, hown4, hg4⟩; (have HMP := hid hMp); (have HMS := hid hMs); (have hml := hMp.length_eq); (have HO4 := hid hown4); (have HG4 := hid hg4); clear hMp hMs hown4 hg4)
      go_ret
      have hP := HMP.out.trans HNP.out
      have hkN : (M.map En.key).Nodup := (hP.map En.key).nodup_iff.2 (HKEYS.out.sublist ((List.filter_sublist ..).map _))
      refine ⟨M, a2, c2, by rw [hml]; rfl, hP, strict_names (d := d) HMS.out hkN (fun e he => ?_), ownsRow_mono HO4.out (by omega), chg_to_below HB.out HG4.out (fun k hk => by omega) (Nat.le_refl _)⟩
      have := (List.mem_filter.1 (hP.mem_iff.1 he)).2
      simp [inDir] at this; exact this.1
    · have HT := hid hit
      have HG := hid hchg
      have HR2 := hid (ItAt.own (K := s.K) (D := D) (rest := rest) (me := s.me) (cl := s.c1) HG.out HR.out)
      have BX := blk8 (heap_new W (.cells #[.int .i64 x.e.key.dir, .string x.e.key.name, .bool x.e.neg, .int .i64 x.e.node.id, .int .i64 x.e.node.kind, .int .i64 x.e.node.mode, .string x.e.node.target, .int .i64 x.used] 78))
      have hz2 := HG.out.size
      have hlt : D.length + 1 ≤ s.K.length := by have := HT.out.len; simp at this; omega
      by_cases hd : x.e.key.dir = d
      · have hd' : (x.e.key.dir == d) = true := by simpa using hd
        cases hng : x.e.neg with
        | true =>
          have HNO := hid (namesOf_no (d := d) (D := D) (x := x) (by simp [inDir, hng]))
          simp only [hng] at hnx hen BX
          clear hh hit hchg hxm hpm hd hng
          go_wp2
          refine ⟨⟨D ++ [x], rest', a2, c2, by rw [HNO.out], hid (HT.out.below (bl1 W _)), hid (by rw [HNO.out]; exact own_alloc HR2.out _), hid ((chg_to_below HB.out HG.out (fun k hk => by omega) (Nat.le_refl _)).trans ((bl1 W _).mono (by omega))), hid (by simp; omega)⟩, HI.out.step (HT.out.below (bl1 W _))⟩

        | false =>
          have HYES := hid (namesOf_yes (d := d) (D := D) (x := x) (by simp [inDir, hng, hd]))
          have HONE := hid (En.one x.e)
          have HCE := hid (show x.e.cells = [.int .i64 x.e.key.dir, .string x.e.key.name, .bool false, .int .i64 x.e.node.id, .int .i64 x.e.node.kind, .int .i64 x.e.node.mode, .string x.e.node.target] by rw [← hng]; rfl)
          rw [HCE.out] at HONE
          simp only [hng] at hnx hen BX
          clear hh hit hchg hxm hpm hd hng
          go_wp2_with (at_builtin; refine wpList_append_rd rfl _ _ 49 rfl (w.heap.size + 1) 30 i7 _ 7 72 Try.underlying49 HI7.out p7 q7 r7 rfl (by decide) (.slice a2 (namesOf d D).length c2) (namesOf d D).length (ecs (namesOf d D)) rfl (own_alloc (own_alloc HR2.out _) _) (.slice (some ⟨W.heap.size + 1, 0, none⟩) 1 1) 1 [.int .i64 x.e.key.dir, .string x.e.key.name, .bool false, .int .i64 x.e.node.id, .int .i64 x.e.node.kind, .int .i64 x.e.node.mode, .string x.e.node.target] rfl (rd_blk (by have e := heap_new (W.alloc (.cells #[.int .i64 x.e.key.dir, .string x.e.key.name, .bool false, .int .i64 x.e.node.id, .int .i64 x.e.node.kind, .int .i64 x.e.node.mode, .string x.e.node.target, .int .i64 x.used] 78)) (.cells #[.int .i64 x.e.key.dir, .string x.e.key.name, .bool false, .int .i64 x.e.node.id, .int .i64 x.e.node.kind, .int .i64 x.e.node.mode, .string x.e.node.target] 30); simp only [World.size_alloc] at e; exact e) (by unfold maxLen; omega)) rfl HONE.out (by unfold maxLen; omega) (by omega) (by simp; omega) ?_; intro a5 c5 w5 hown5 hgrow5 hat5)
          have hgr : ∀ k, (Value.slice a2 (namesOf d D).length c2).ownBlock = some k → w.heap.size + 1 ≤ k := fun k hk => (own_lt HR.out hk).1
          have hbW : Below w.heap.size w ((W.alloc (.cells #[.int .i64 x.e.key.dir, .string x.e.key.name, .bool false, .int .i64 x.e.node.id, .int .i64 x.e.node.kind, .int .i64 x.e.node.mode, .string x.e.node.target, .int .i64 x.used] 78)).alloc (.cells #[.int .i64 x.e.key.dir, .string x.e.key.name, .bool false, .int .i64 x.e.node.id, .int .i64 x.e.node.kind, .int .i64 x.e.node.mode, .string x.e.node.target] 30)) := (chg_to_below HB.out HG.out (fun k hk => by omega) (Nat.le_refl _)).trans ((bl2 W _ _).mono (by omega))
          have hI5 : ItAt w5 w.heap.size s.me s.c1 s.K (D ++ [x]) rest' := by
            obtain ⟨⟨c0, hc0, hr⟩, hp⟩ := HT.out.below (bl2 W (.cells #[.int .i64 x.e.key.dir, .string x.e.key.name, .bool false, .int .i64 x.e.node.id, .int .i64 x.e.node.kind, .int .i64 x.e.node.mode, .string x.e.node.target, .int .i64 x.used] 78) (.cells #[.int .i64 x.e.key.dir, .string x.e.key.name, .bool false, .int .i64 x.e.node.id, .int .i64 x.e.node.kind, .int .i64 x.e.node.mode, .string x.e.node.target] 30))
            exact ⟨⟨c0, hc0, heap_grown hgrow5 hr (fun e => by have := hgr _ e.symm; omega)⟩, hp⟩
          refine ⟨⟨D ++ [x], rest', a5, c5, by rw [HYES.out, List.length_append]; rfl, hid hI5, hid ?_, hid (hbW.grown hgrow5 (by simp; omega) (fun k hk => by have := hgr k hk; omega)), hid ?_⟩, HI.out.step hI5⟩
          · rw [HYES.out, ecs_snoc, List.length_append, HCE.out]; exact hown5
          · have := hgrow5.size; simp at this; omega
      · have hd' : (x.e.key.dir == d) = false := by simpa using hd
        have HNO := hid (namesOf_no (d := d) (D := D) (x := x) (by simp [inDir, hd]))
        clear hh hit hchg hxm hpm hd
        go_wp2
        refine ⟨⟨D ++ [x], rest', a2, c2, by rw [HNO.out], hid (HT.out.below (bl1 W _)), hid (by rw [HNO.out]; exact own_alloc HR2.out _), hid ((chg_to_below HB.out HG.out (fun k hk => by omega) (Nat.le_refl _)).trans ((bl1 W _).mono (by omega))), hid (by simp; omega)⟩, HI.out.step (HT.out.below (bl1 W _))⟩


/-- does nothing hang below an entry -/
def leafL (k : Ky) (L : List En) : Bool := match findL k L with | none => false | some e => !L.any fun x => x.key.dir == (if e.neg then 0 else e.node.id)
def negL (L : List En) : Nat := L.countP fun e => e.neg
theorem hangs_of {K : List Ke} {ck : Int} {L : List En} (h : Ordd K ck L) (d : Int) : hangs d K = L.any fun x => x.key.dir == d := by
  unfold hangs
  rw [Bool.eq_iff_iff, List.any_eq_true, List.any_eq_true]
  constructor
  · rintro ⟨x, hx, h2⟩; exact ⟨x.e, h.permL.mem_iff.2 (List.mem_map.2 ⟨x, hx, rfl⟩), h2⟩
  · rintro ⟨e, he, h2⟩; obtain ⟨x, hx, rfl⟩ := List.mem_map.1 (h.permL.mem_iff.1 he); exact ⟨x, hx, h2⟩

theorem c_leaf (w : World) (B p n : Nat) (L : List En) (wh : Int → Bool) (k : Ky) (h : CAt w B p n L wh) :
    Calls Try.prog 35 #[.pointer (some ⟨p, 0, none⟩), .agg #[.int .i64 k.dir, .string k.name]] w fun e w' => e = .returned (.bool (leafL k L)) ∧ Below w.heap.size w w' := by
  obtain ⟨s, h0, rfl, h1, h2, h3, h4, h5, h6⟩ := h.ex
  cases hk : atK k s.K with
  | none =>
    have := dent_leaf_no w B s k h0 hk
    rw [show false = leafL k L by simp [leafL, find_none h5 hk]] at this; exact this
  | some j =>
    obtain ⟨x, hx, rfl⟩ := atK_at hk
    have hf := find_some h5 h0.k1 hk hx
    cases hng : x.e.neg with
    | true =>
      have := dent_leaf_neg w B s _ j x h0 hk hx hng
      rw [show (!hangs 0 s.K) = leafL x.e.key L by simp [leafL, hf, hng, hangs_of h5]] at this; exact this
    | false =>
      have := dent_leaf_pos w B s _ j x h0 hk hx hng
      rw [show (!hangs x.e.node.id s.K) = leafL x.e.key L by simp [leafL, hf, hng, hangs_of h5]] at this; exact this

theorem c_negatives (w : World) (B p n : Nat) (L : List En) (wh : Int → Bool) (h : CAt w B p n L wh) (hn : n < 4611686018427387904) :
    Calls Try.prog 37 #[.pointer (some ⟨p, 0, none⟩)] w fun e w' => e = .returned (.int .i64 (negL L)) ∧ Below w.heap.size w w' := by
  have hl := h.len
  obtain ⟨s, h0, rfl, h1, h2, h3, h4, h5, h6⟩ := h.ex
  have := dent_negatives w B s h0 (by have := h5.permL.length_eq; simp at this; omega)
  rw [show negs s.K = negL L by rw [negL, h5.permL.countP_eq, List.countP_map]; rfl] at this; exact this

end Go.Proofs.Ytmhogjecfgbchaa
