/- Parts of a proof about the given program, in build order: CmuF, LstA. No condition. -/
import Derived.Test.YtbjibkjenleloaaGreatDoorMg26
section
namespace Go.Proofs.YtbjibkjenleloaaGreatDoor
set_option linter.unusedVariables false
set_option linter.unusedSimpArgs false
open Go.RowKit
attribute [local go_sem ↓] Go.wp_at_zero Go.wp_at_succ
attribute [local go_sem] run_store_complex run_store_float


theorem wk_nil {F L : List En} {wh : Int → Bool} {k : Int} {z : Ow} (h : Wk F L wh true [] rootNd [] true k [] z) : z = ⟨false, ky0, 0, rootNd, []⟩ := by
  generalize ([] : List Nd) = A at h
  cases h with
  | wrong _ _ _ _ _ h1 => exact absurd h1 (by decide)
  | done => rfl
theorem snoc_one {T : List ByteArray} {x y : ByteArray} (h : [x] = T ++ [y]) : T = [] ∧ y = x := by
  cases T with
  | nil => simp at h; exact ⟨rfl, h.symm⟩
  | cons a T => simp at h
theorem co_root {F : List En} {wh : Int → Bool} {s : Cl} {path x y : ByteArray} (hx : stepsL path = [x]) (hy : s.ck = 10 → stepsL s.co = [y]) {o : Option Op7} {e : Int} {L' : List En} {m : Nat} (h : Co F wh s [] path [] o e L' m) :
    o = some (mutOp s (if s.ck = 10 then [⟨1, x⟩, ⟨1, y⟩] else [⟨1, x⟩])) ∧ e = 0 ∧ L' = [] ∧ m = 0 := by
  cases h with
  | stop _ _ _ T y1 z h1 h2 h3 =>
    rw [hx] at h1
    obtain ⟨rfl, rfl⟩ := snoc_one h1
    rw [wk_nil h2] at h3
    exact absurd h3 (by decide)
  | last _ _ _ T y1 z h1 h2 h3 h4 =>
    rw [hx] at h1
    obtain ⟨rfl, rfl⟩ := snoc_one h1
    have hz := wk_nil h2
    subst hz
    refine ⟨?_, rfl, rfl, rfl⟩
    rw [if_neg (fun h => by have := h4 h; simp at this)]
    rfl
  | more _ _ _ T y1 z o e L' m h1 h2 h3 h4 h5 h6 =>
    rw [hx] at h1
    obtain ⟨rfl, rfl⟩ := snoc_one h1
    have hz := wk_nil h2
    subst hz
    rw [if_pos h4]
    cases h6 with
    | stop _ _ _ T2 y2 z2 g1 g2 g3 =>
      rw [hy h4] at g1
      obtain ⟨rfl, rfl⟩ := snoc_one g1
      rw [wk_nil g2] at g3
      exact absurd g3 (by decide)
    | last _ _ _ T2 y2 z2 g1 g2 g3 g4 =>
      rw [hy h4] at g1
      obtain ⟨rfl, rfl⟩ := snoc_one g1
      have hz2 := wk_nil g2
      subst hz2
      exact ⟨rfl, rfl, rfl, rfl⟩
    | more _ _ _ T2 y2 z2 o e L' m g1 g2 g3 g4 g5 g6 => cases g5
set_option maxHeartbeats 1000000 in
theorem start_mut (w : World) (c t B p n : Nat) (s : Cl) (td : Td) (k mode : Int) (path oth x y : ByteArray) (h : CliAt w c t B p n s td [] (fun _ => false)) (hb : s.busy = false) (h5 : 5 ≤ k) (h11 : k ≤ 11) (hp : parErr path = 0) (hx : stepsL path = [x]) (ho : k = 10 → parErr oth = 0 ∧ stepsL oth = [y]) (hg : k = 7 → tgtErr oth = 0) (hm : k = 5 ∨ k = 6 ∨ k = 11 → 0 ≤ mode ∧ mode ≤ 511) (hl0 : 0 ≤ s.cf.li) (hl8 : s.cf.li ≤ 8) (hn : n < 100000000000) (hs0 : 0 ≤ s.seq) (hs1 : s.seq < 1000000000000) :
    Calls Tryz.prog 11 #[.pointer (some ⟨c, 0, none⟩), .agg #[.int .i64 k, .string path, .string oth, .int .i64 mode]] w fun e w' => ∃ g, e = .returned (.tuple #[.slice (some ⟨g, 0, none⟩) 1 1, .bool false, (An.mk 0 nd0 none 0 0 0).v]) ∧ w'.ownsRow w.heap.size 50 16 (.slice (some ⟨g, 0, none⟩) 1 1) 1 (askMs { s with busy := true, ck := k, cp := path, co := oth, cm := mode } td (s.seq + 1) (mutOp { s with busy := true, ck := k, cp := path, co := oth, cm := mode } (if k = 10 then [⟨1, x⟩, ⟨1, y⟩] else [⟨1, x⟩]))).cs.toList ∧
      CliAt w' c t B p n (askedS { s with busy := true, ck := k, cp := path, co := oth, cm := mode } td (mutOp { s with busy := true, ck := k, cp := path, co := oth, cm := mode } (if k = 10 then [⟨1, x⟩, ⟨1, y⟩] else [⟨1, x⟩]))) { td with asked := s.seq + 1 } [] (fun _ => false) ∧ Chg (fun j => j = c ∨ j = t ∨ CF B p j) w w' := by
  have hcz := blk_lt h.hc
  have htz := h.ht.lt
  have hpz := h.hp.lt
  refine (start_gen w c t B p n s td [] (fun _ => false) k mode path oth h (fun W a l cc d an w3 => drvC W c t B p n { s with busy := true, ck := k, cp := path, co := oth, cm := mode } td [] [] (fun _ => false) tn0 a l cc d an w3) (fun W hC => refused_mut W c t B p n s td [] _ k mode path oth hC hb h5 h11 hp (fun h => (ho h).1) hg hm)
    (fun W q hC hq hnq hz hzq => drive_chg W c t B p n q { s with busy := true, ck := k, cp := path, co := oth, cm := mode } td [] [] (fun _ => false) tn0 hC hq hnq (fun W' _ => rd_none _) rfl hp (fun h => (ho h).1) ⟨h5, h11⟩ hl0 hl8 hn rfl hs0 hs1)).mono ?_
  rintro e w' ⟨W, a, l, cc, d, an, w3, rfl, ⟨o, er, L', m, hco, hm, hcase⟩, hz, hR, hgc, hxc⟩
  obtain ⟨rfl, rfl, rfl, rfl⟩ := co_root (s := { s with busy := true, ck := k, cp := path, co := oth, cm := mode }) hx (fun h => (ho h).2) hco
  rcases hcase with ⟨op, g, hop, rfl, rfl, rfl, rfl, rfl, hown, hcl⟩ | ⟨hop, _⟩
  · cases hop
    refine ⟨g, rfl, ownsRow_mono (ownsRow_chg hown fun j hj hl => hgc.block j hl fun e1 => by subst e1; exact own_ne hown hR (by decide) hj) hz, ?_, hxc⟩
    exact hcl.chg hgc (by omega) (by omega) (hcl.hp.chg hgc (fun k hk e => by have := hk.2; omega))
  · cases hop
end Go.Proofs.YtbjibkjenleloaaGreatDoor

end

section
namespace Go.Proofs.YtbjibkjenleloaaGreatDoor
set_option linter.unusedVariables false
set_option linter.unusedSimpArgs false
open Go.RowKit
attribute [local go_sem ↓] Go.wp_at_zero Go.wp_at_succ
attribute [local go_sem] run_store_complex run_store_float

theorem frame86 (a : Act) (h : a.tmps.size = 86) (hd : a.defers = []) : a = { tmps := #[a.tmps.getD 0 undef, a.tmps.getD 1 undef, a.tmps.getD 2 undef, a.tmps.getD 3 undef, a.tmps.getD 4 undef, a.tmps.getD 5 undef, a.tmps.getD 6 undef, a.tmps.getD 7 undef, a.tmps.getD 8 undef, a.tmps.getD 9 undef, a.tmps.getD 10 undef, a.tmps.getD 11 undef, a.tmps.getD 12 undef, a.tmps.getD 13 undef, a.tmps.getD 14 undef, a.tmps.getD 15 undef, a.tmps.getD 16 undef, a.tmps.getD 17 undef, a.tmps.getD 18 undef, a.tmps.getD 19 undef, a.tmps.getD 20 undef, a.tmps.getD 21 undef, a.tmps.getD 22 undef, a.tmps.getD 23 undef, a.tmps.getD 24 undef, a.tmps.getD 25 undef, a.tmps.getD 26 undef, a.tmps.getD 27 undef, a.tmps.getD 28 undef, a.tmps.getD 29 undef, a.tmps.getD 30 undef, a.tmps.getD 31 undef, a.tmps.getD 32 undef, a.tmps.getD 33 undef, a.tmps.getD 34 undef, a.tmps.getD 35 undef, a.tmps.getD 36 undef, a.tmps.getD 37 undef, a.tmps.getD 38 undef, a.tmps.getD 39 undef, a.tmps.getD 40 undef, a.tmps.getD 41 undef, a.tmps.getD 42 undef, a.tmps.getD 43 undef, a.tmps.getD 44 undef, a.tmps.getD 45 undef, a.tmps.getD 46 undef, a.tmps.getD 47 undef, a.tmps.getD 48 undef, a.tmps.getD 49 undef, a.tmps.getD 50 undef, a.tmps.getD 51 undef, a.tmps.getD 52 undef, a.tmps.getD 53 undef, a.tmps.getD 54 undef, a.tmps.getD 55 undef, a.tmps.getD 56 undef, a.tmps.getD 57 undef, a.tmps.getD 58 undef, a.tmps.getD 59 undef, a.tmps.getD 60 undef, a.tmps.getD 61 undef, a.tmps.getD 62 undef, a.tmps.getD 63 undef, a.tmps.getD 64 undef, a.tmps.getD 65 undef, a.tmps.getD 66 undef, a.tmps.getD 67 undef, a.tmps.getD 68 undef, a.tmps.getD 69 undef, a.tmps.getD 70 undef, a.tmps.getD 71 undef, a.tmps.getD 72 undef, a.tmps.getD 73 undef, a.tmps.getD 74 undef, a.tmps.getD 75 undef, a.tmps.getD 76 undef, a.tmps.getD 77 undef, a.tmps.getD 78 undef, a.tmps.getD 79 undef, a.tmps.getD 80 undef, a.tmps.getD 81 undef, a.tmps.getD 82 undef, a.tmps.getD 83 undef, a.tmps.getD 84 undef, a.tmps.getD 85 undef], defers := [] } := by
  obtain ⟨t, d⟩ := a
  simp only at h hd
  subst hd
  have h1 := arr_range t 86 h
  show Act.mk t [] = _
  have h2 : ((List.range 86).map fun i => t.getD i undef).toArray = #[t.getD 0 undef, t.getD 1 undef, t.getD 2 undef, t.getD 3 undef, t.getD 4 undef, t.getD 5 undef, t.getD 6 undef, t.getD 7 undef, t.getD 8 undef, t.getD 9 undef, t.getD 10 undef, t.getD 11 undef, t.getD 12 undef, t.getD 13 undef, t.getD 14 undef, t.getD 15 undef, t.getD 16 undef, t.getD 17 undef, t.getD 18 undef, t.getD 19 undef, t.getD 20 undef, t.getD 21 undef, t.getD 22 undef, t.getD 23 undef, t.getD 24 undef, t.getD 25 undef, t.getD 26 undef, t.getD 27 undef, t.getD 28 undef, t.getD 29 undef, t.getD 30 undef, t.getD 31 undef, t.getD 32 undef, t.getD 33 undef, t.getD 34 undef, t.getD 35 undef, t.getD 36 undef, t.getD 37 undef, t.getD 38 undef, t.getD 39 undef, t.getD 40 undef, t.getD 41 undef, t.getD 42 undef, t.getD 43 undef, t.getD 44 undef, t.getD 45 undef, t.getD 46 undef, t.getD 47 undef, t.getD 48 undef, t.getD 49 undef, t.getD 50 undef, t.getD 51 undef, t.getD 52 undef, t.getD 53 undef, t.getD 54 undef, t.getD 55 undef, t.getD 56 undef, t.getD 57 undef, t.getD 58 undef, t.getD 59 undef, t.getD 60 undef, t.getD 61 undef, t.getD 62 undef, t.getD 63 undef, t.getD 64 undef, t.getD 65 undef, t.getD 66 undef, t.getD 67 undef, t.getD 68 undef, t.getD 69 undef, t.getD 70 undef, t.getD 71 undef, t.getD 72 undef, t.getD 73 undef, t.getD 74 undef, t.getD 75 undef, t.getD 76 undef, t.getD 77 undef, t.getD 78 undef, t.getD 79 undef, t.getD 80 undef, t.getD 81 undef, t.getD 82 undef, t.getD 83 undef, t.getD 84 undef, t.getD 85 undef] := by kernel_rfl
  rw [← h2, ← h1]

noncomputable def rdBody : Code := match Tryz.f83.body with | some c => c | none => Code.skip
def nmsL (N : List En) : List ByteArray := N.map fun x => x.key.name
theorem open86 (a : Act) (q : Nat) (la : Option Addr) (lc : Nat) (N : List En) (hs : a.tmps.size = 86) (hd : a.defers = []) (f1 : a.tmps.getD 1 undef = .pointer (some ⟨q, 0, none⟩)) (f6 : a.tmps.getD 6 undef = .slice la N.length lc) : ∃ v : Nat → Value, a = { tmps := #[v 0, .pointer (some ⟨q, 0, none⟩), v 2, v 3, v 4, v 5, .slice la N.length lc, v 7, v 8, v 9, v 10, v 11, v 12, v 13, v 14, v 15, v 16, v 17, v 18, v 19, v 20, v 21, v 22, v 23, v 24, v 25, v 26, v 27, v 28, v 29, v 30, v 31, v 32, v 33, v 34, v 35, v 36, v 37, v 38, v 39, v 40, v 41, v 42, v 43, v 44, v 45, v 46, v 47, v 48, v 49, v 50, v 51, v 52, v 53, v 54, v 55, v 56, v 57, v 58, v 59, v 60, v 61, v 62, v 63, v 64, v 65, v 66, v 67, v 68, v 69, v 70, v 71, v 72, v 73, v 74, v 75, v 76, v 77, v 78, v 79, v 80, v 81, v 82, v 83, v 84, v 85], defers := [] } := by
  refine ⟨fun i => a.tmps.getD i undef, ?_⟩
  have h9 := frame86 a hs hd
  rw [f1, f6] at h9
  exact h9
set_option maxRecDepth 100000 in
set_option maxHeartbeats 8000000 in
theorem rd_names (w w3 : World) (a : Act) (q Bn : Nat) (N : List En) (la : Option Addr) (lc : Nat) (tn : Tn) (R : Ending → World → Prop) (hs : a.tmps.size = 86) (hd : a.defers = []) (f1 : a.tmps.getD 1 undef = .pointer (some ⟨q, 0, none⟩)) (f6 : a.tmps.getD 6 undef = .slice la N.length lc)
    (hq : w3.heap[q]? = some (.cells (tnC tn) 90 (0, 0))) (hna : tn.na = none ∧ tn.nl = 0 ∧ tn.nc = 0) (hqz : q < w.heap.size) (hwz : w.heap.size ≤ w3.heap.size) (hN : w3.ownsRow Bn 55 7 (.slice la N.length lc) N.length (ecs N)) (hNl : N.length ≤ 1000000)
    (hQ : ∀ (w' : World) (na : Option Addr) (nc : Nat), w'.heap[q]? = some (.cells (tnC { tn with na := na, nl := N.length, nc := nc }) 90 (0, 0)) → w'.ownsRow w.heap.size 9 1 (.slice na N.length nc) N.length (srow (nmsL N)) → Chg (fun j => j = q) w3 w' → R (.returned (.tuple #[])) w') :
    (sndN 3 rdBody).wp Tryz.prog (bodyPost Tryz.prog Tryz.f83 R) a w3 := by
  obtain ⟨v, rfl⟩ := open86 a q la lc N hs hd f1 f6
  have HQ := hid hQ
  have HQ0 := hid (show w3.heap[q]? = some (.cells (tnC { tn with na := none, nl := 0, nc := 0 }) 90 (0, 0)) by rw [hq]; have h1 : ({ tn with na := none, nl := 0, nc := 0 } : Tn) = tn := (by obtain ⟨h1, h2, h3⟩ := hna; cases tn; simp_all); rw [h1])
  have HNN := hid hN
  have HZ := hid hqz
  obtain ⟨i0, hi, z0, z1, z2⟩ := info_parts infoStr
  have HI := hid hi
  clear hs hd f1 f6 hq hna hN hQ hi
  conv => pattern (sndN 3 rdBody); whnf
  go_wp2_with fail
  go_loopw [8, 67] (fun _ v67 wr => ∃ (i : Nat) (na : Option Addr) (nc : Nat), i ≤ N.length ∧ v67 = .int .i64 i ∧ Hid (wr.heap[q]? = some (.cells (tnC { tn with na := na, nl := i, nc := nc }) 90 (0, 0))) ∧ Hid (wr.ownsRow w3.heap.size 9 1 (.slice na i nc) i (srow (nmsL (N.take i)))) ∧ Hid (Chg (fun j => j = q) w3 wr)) (fun _ v67 _ => N.length - (intOf v67).toNat)
  case atStart => exact ⟨0, none, 0, Nat.zero_le _, rfl, HQ0, hid (World.ownsRow_nil _ _ _ _), hid (Chg.refl _ _)⟩
  case round =>
    obtain ⟨i, na, nc, hi, rfl, HQr, HOr, HXr⟩ := hrel
    by_cases hlt : i < N.length
    · have hk0 : (0 : Int) ≤ (i : Int) := by omega
      have hk1 : (i : Int) < (N.length : Int) := by omega
      have hvr := ownsRow_chg HNN.out fun j hj hl => HXr.out.block j hl (fun e1 => by subst e1; exact own_ne HNN.out HQ0.out (by decide) hj)
      obtain ⟨g, hag, _, hgz, _, _⟩ := own_loc hvr (by omega)
      obtain ⟨x, hx⟩ : ∃ x, N[i]? = some x := ⟨_, List.getElem?_eq_getElem hlt⟩
      subst hag
      have bx := ecs_at (Rd.own hvr) hx
      have HXX := hid hx
      have hz3 := HXr.out.size
      have hqr := blk_lt HQr.out
      have BX := blk7 (heap_new wr (.cells #[.int .i64 x.key.dir, .string x.key.name, .bool x.neg, .int .i64 x.node.id, .int .i64 x.node.kind, .int .i64 x.node.mode, .string x.node.target] 55))
      have e15 := cell_of (heap_old HQr.out (.cells #[.int .i64 x.key.dir, .string x.key.name, .bool x.neg, .int .i64 x.node.id, .int .i64 x.node.kind, .int .i64 x.node.mode, .string x.node.target] 55)) 15 (.slice na i nc) rfl
      have HKX := hid (heap_old HQr.out (.cells #[.int .i64 x.key.dir, .string x.key.name, .bool x.neg, .int .i64 x.node.id, .int .i64 x.node.kind, .int .i64 x.node.mode, .string x.node.target] 55))
      have hxq : wr.heap.size ≠ q := by omega
      have hqx : q ≠ wr.heap.size := by omega
      clear hvr hx
      go_wp2_with fail
      go_region_law (refine step_append_rd (by rfl) _ _ 41 (by rfl) w3.heap.size 9 i0 _ 1 16 Tryz.underlying41 HI.out z0 z1 z2 rfl (by decide) (.slice na i nc) i (srow (nmsL (N.take i))) (by rfl) (own_alloc (own_drew (own_alloc HOr.out (.cells #[.int .i64 x.key.dir, .string x.key.name, .bool x.neg, .int .i64 x.node.id, .int .i64 x.node.kind, .int .i64 x.node.mode, .string x.node.target] 55))) _) (.slice (some ⟨wr.heap.size + 1, 0, none⟩) 1 1) 1 [.string x.key.name] (by rfl) (by have h1 := heap_new (wr.alloc (.cells #[.int .i64 x.key.dir, .string x.key.name, .bool x.neg, .int .i64 x.node.id, .int .i64 x.node.kind, .int .i64 x.node.mode, .string x.node.target] 55)).drew (.cells #[.string x.key.name] 9); simp only [World.size_drew, World.size_alloc] at h1; exact rd_blk h1 (by unfold maxLen; omega)) rfl (by intro u hu; simp at hu; subst hu; rfl) (by unfold maxLen; omega) (by omega) (by simp; omega) ?_; intro a2 c2 w2 hown2 hgrow2 hat2; (have kp := heap_grown hgrow2 (heap_old (heap_drew HKX.out) (.cells #[.string x.key.name] 9)) (fun e => own_ne HOr.out HQr.out (by decide) e.symm)); (have b3 := cell_of kp 15 (.slice na i nc) rfl); (have KP := hid kp); clear kp)
      all_goals
        (try simp only [Exit.inBlock, Exit.then])
        go_wp2
        refine ⟨⟨i + 1, a2, c2, by omega, by go_num, hid ?_, hid ?_, hid ?_⟩, by simp [intOf]; omega⟩
        · have h9 := heap_set KP.out 15 (.slice a2 (i + 1) c2)
          simp only [tnC, List.setIfInBounds_toArray, List.set_cons_zero, List.set_cons_succ] at h9
          exact h9
        · have h1 : nmsL (N.take (i + 1)) = nmsL (N.take i) ++ [x.key.name] := by rw [List.take_add_one, HXX.out]; simp [nmsL]
          rw [h1, srow_snoc]
          exact own_set hown2 (own_ne hown2 KP.out (by decide)) 15 _
        · refine Chg.set1 ?_ _ _ rfl
          exact Chg.grown (Chg.alloc (Chg.drew (Chg.alloc HXr.out (.cells #[.int .i64 x.key.dir, .string x.key.name, .bool x.neg, .int .i64 x.node.id, .int .i64 x.node.kind, .int .i64 x.node.mode, .string x.node.target] 55))) (.cells #[.string x.key.name] 9)) hgrow2 (fun k hk => .inr (own_lt HOr.out hk).1)
    · have hie : i = N.length := by omega
      have hnl : ¬ ((i : Int) < (N.length : Int)) := by omega
      subst hie
      go_wp2
      (try simp only [Exit.inBlock, Exit.then])
      refine bodyPost_end (results_none rfl _ _ _) rfl (HQ.out wr na nc HQr.out ?_ HXr.out)
      have h1 := HOr.out
      rw [List.take_length] at h1
      exact ownsRow_mono h1 hwz
end Go.Proofs.YtbjibkjenleloaaGreatDoor

end
