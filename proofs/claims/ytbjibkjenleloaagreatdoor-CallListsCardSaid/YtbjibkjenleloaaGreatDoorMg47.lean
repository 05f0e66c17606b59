/- Parts of a proof about the given program, in build order: LstZ. No condition. -/
import Derived.Test.YtbjibkjenleloaaGreatDoorMg46
section
namespace Go.Proofs.YtbjibkjenleloaaGreatDoor
set_option linter.unusedVariables false
set_option linter.unusedSimpArgs false
open Go.RowKit
attribute [local go_sem ↓] Go.wp_at_zero Go.wp_at_succ
attribute [local go_sem] run_store_complex run_store_float


theorem LsI.drew {w w2 : World} {c t B p n o q : Nat} {c2 : Cf} {s : Cl} {td : Td} {L : List En} {wh : Int → Bool} (h : LsI w w2 c t B p n o q c2 s td L wh) : LsI w w2.drew c t B p n o q c2 s td L wh := ⟨h.at_.drew, h.o_, h.q_, h.low, h.ab, h.aq, h.bel.drew⟩
theorem LsI.alloc {w w2 : World} {c t B p n o q : Nat} {c2 : Cf} {s : Cl} {td : Td} {L : List En} {wh : Int → Bool} (h : LsI w w2 c t B p n o q c2 s td L wh) (x : Obj) : LsI w (w2.alloc x) c t B p n o q c2 s td L wh := h.below (bl1 w2 x)
theorem LsI.new {w w2 w3 : World} {c t B p n o q r : Nat} {c2 : Cf} {s : Cl} {td : Td} {L : List En} {wh : Int → Bool} (h : LsI w w2 c t B p n o q c2 s td L wh) (hc : Chg (fun j => j = r) w2 w3) (hr : c < r ∧ t < r ∧ p < r) (hrw : w.heap.size ≤ r) (hro : r ≠ o) (hrq : r ≠ q) : LsI w w3 c t B p n o q c2 s td L wh := by
  refine ⟨h.at_.chg hc (by omega) (by omega) (h.at_.hp.chg hc (fun k hk e1 => by have := hk.2; omega)), heap_chg hc h.o_ (fun e => hro e.symm), hc.cell h.q_ (fun e => hrq e.symm), h.low, h.ab, h.aq, h.bel.trans (hc.toBelow h.bel.size fun i hi hf => by omega)⟩
theorem LsI.top {w w2 : World} {c t B p n o q : Nat} {c2 : Cf} {s : Cl} {td : Td} {L : List En} {wh : Int → Bool} (h : LsI w w2 c t B p n o q c2 s td L wh) : c < w2.heap.size ∧ t < w2.heap.size ∧ p < w2.heap.size := ⟨blk_lt h.at_.hc, h.at_.ht.lt, h.at_.hp.lt⟩
set_option maxRecDepth 100000 in
set_option maxHeartbeats 8000000 in
theorem ls_take (w w2 : World) (a : Act) (c t B p o q b0 : Nat) (c2 : Cf) (F : List En) (la : Option Addr) (lc : Nat) (other : ByteArray) (ve : Int) (K : Code) (hs : a.tmps.size = 310) (hd : a.defers = []) (f2 : a.tmps.getD 2 undef = .string other) (f3 : a.tmps.getD 3 undef = .int .i64 ve) (f9 : a.tmps.getD 9 undef = .pointer (some ⟨o, 0, none⟩)) (f11 : a.tmps.getD 11 undef = .slice la F.length lc)
    (hR : rightP c2) (hI : LsI w w2 c t B p 0 o q c2 (askedS { cl0 1 1 c2 with busy := true, ck := 4, cp := { data := #[47] }, co := { data := #[] }, cm := 0 } (td0 1 1 c2.ho) ⟨2, 1, { data := #[] }, 0, { data := #[] }, 0, { data := #[] }⟩) { td0 1 1 c2.ho with asked := 1 } [] (fun _ => false)) (hF : w2.ownsRow b0 55 7 (.slice la F.length lc) F.length (ecs F)) (hb : c < b0 ∧ t < b0 ∧ p < b0) (hl : F.length ≤ 20)
    (hK : ∀ (a : Act) (w5 : World) (ab : Nat) (a0 : Option Addr) (c0 : Nat) (N : List En) (na : Option Addr) (nc : Nat), a.tmps.size = 310 → a.defers = [] → a.tmps.getD 2 undef = .string other → a.tmps.getD 9 undef = .pointer (some ⟨o, 0, none⟩) → a.tmps.getD 11 undef = .slice la F.length lc → a.tmps.getD 14 undef = .slice a0 0 c0 → a.tmps.getD 15 undef = .bool true → a.tmps.getD 17 undef = .int .i64 (ve % 99) → a.tmps.getD 18 undef = .pointer (some ⟨ab, 0, none⟩) →
      ((trimT c2.de c2.ne ⟨putAll F [], setWh 1 (fun _ => false), []⟩).wh 1 = true ∧ N.Perm ((trimT c2.de c2.ne ⟨putAll F [], setWh 1 (fun _ => false), []⟩).L.filter (inDir 1)) ∧ (N.Pairwise fun x y => nmLt x.key.name y.key.name = true) ∨ (trimT c2.de c2.ne ⟨putAll F [], setWh 1 (fun _ => false), []⟩).wh 1 = false ∧ N = F) → w5.heap[ab]? = some (.cells #[.int .i64 0, .int .i64 0, .int .i64 0, .int .i64 0, .string ByteArray.empty, .slice na N.length nc, .int .i64 (ve % 99)] 43 (0, 0)) → w5.ownsRow w2.heap.size 9 1 (.slice na N.length nc) N.length (srow (nmsL N)) →
      LsI w w5 c t B p (0 + F.length) o q c2 { { cl0 1 1 c2 with busy := true, ck := 4, cp := { data := #[47] }, co := { data := #[] }, cm := 0 } with seq := 1, busy := false, am := ms0 } ⟨1, 1, c2.ho, 1, 0, ve % 99, 0⟩ (trimT c2.de c2.ne ⟨putAll F [], setWh 1 (fun _ => false), []⟩).L (trimT c2.de c2.ne ⟨putAll F [], setWh 1 (fun _ => false), []⟩).wh → w5.ownsRow b0 55 7 (.slice la F.length lc) F.length (ecs F) → w2.heap.size ≤ ab → K.wp Tryz.prog (bodyPost Tryz.prog Tryz.f4 fun e w' => e = .returned (.bool true) ∧ Below w.heap.size w w') a w5) :
    (cutN 2 (sndN 8 lsBody) K).wp Tryz.prog (bodyPost Tryz.prog Tryz.f4 fun e w' => e = .returned (.bool true) ∧ Below w.heap.size w w') a w2 := by
  conv => pattern (sndN 8 lsBody); whnf
  simp only [cutN]
  have HK := hid hK
  have h9 := frame310 a hs hd
  rw [f2, f3, f9, f11] at h9
  generalize a.tmps = u at h9
  subst h9
  have HI := hid hI
  have HF := hid hF
  have HLO := hid (And.intro hb (And.intro hI.low (And.intro hI.ab hI.aq)))
  have n1 := Int.emod_nonneg ve (show (99 : Int) ≠ 0 by decide)
  have HT := hid (fun (W : World) (a1 : Option Addr) (c1 Bu : Nat) (hc : CliAt W c t B p 0 (askedS { cl0 1 1 c2 with busy := true, ck := 4, cp := { data := #[47] }, co := { data := #[] }, cm := 0 } (td0 1 1 c2.ho) ⟨2, 1, { data := #[] }, 0, { data := #[] }, 0, { data := #[] }⟩) { td0 1 1 c2.ho with asked := 1 } [] (fun _ => false)) (ho : W.ownsRow Bu 55 7 (.slice a1 F.length c1) F.length (ecs F)) => take_root W c t B p 0 Bu (askedS { cl0 1 1 c2 with busy := true, ck := 4, cp := { data := #[47] }, co := { data := #[] }, cm := 0 } (td0 1 1 c2.ho) ⟨2, 1, { data := #[] }, 0, { data := #[] }, 0, { data := #[] }⟩) c2.ho (ve % 99) F a1 c1 hc rfl rfl rfl rfl n1 (by omega) (show (0 : Int) ≤ 0 + 1 by decide) (show (0 : Int) + 1 < 1000000000000 by decide) hR.2.2.2.1.1 hR.2.2.2.1.2 ho)
  simp only [Ms.v, Ms.cs, msL, op0, fl_one, fl_0, An.v, nd0] at HT
  have bo := blk2 hI.o_
  have hoz := blk_lt hI.o_
  have hqz := World.block_lt_of_cell? w2 _ hI.q_
  clear hs hd f2 f3 f9 f11 hI hF hK hb hR
  refine wp_seq_k fun K0 hK0 => ?_
  have HK0 := hid hK0
  clear hK0
  go_wp2_with fail
  refine (place_pos _ _ _ (by omega) (by omega)).mono ?_; rintro e w1 ⟨rfl, rfl⟩
  go_wp2
  refine HK0.out _ _ ?_
  refine wp_seq_k fun K1 hK1 => ?_
  have HK1 := hid hK1
  clear hK1 HK0
  go_region_law (first
    | ((fail_if_success (have hxx := HE3)); go_simp; go_at_call 15; refine (copy_entries _ F la lc b0 (own_drew HF.out) (by omega)).mono ?_; rintro e w3 ⟨a1, c1, rfl, hE3, hb3⟩; (have HI3 := hid (LsI.below HI.out.drew hb3)); (have HF3 := hid (own_below (own_drew HF.out) hb3)); (have HE3 := hid hE3); (have bo3 := blk2 HI3.out.o_); (have hoz3 := blk_lt HI3.out.o_); (have hz3 : w2.heap.size ≤ w3.heap.size := by have := hb3.size; (try simp at this); omega); clear hE3 hb3)
    | ((fail_if_success (have hxx := HE3)); go_simp; go_at_call 15; refine (copy_entries _ F la lc b0 (own_drew (own_alloc HF.out (.cells #[.int .i64 0, .int .i64 0, .int .i64 0, .int .i64 0, .string { data := #[] }, .slice none 0 0, .int .i64 0] 43))) (by omega)).mono ?_; rintro e w3 ⟨a1, c1, rfl, hE3, hb3⟩; (have HI3 := hid (LsI.below (HI.out.alloc (.cells #[.int .i64 0, .int .i64 0, .int .i64 0, .int .i64 0, .string { data := #[] }, .slice none 0 0, .int .i64 0] 43)).drew hb3)); (have HF3 := hid (own_below (own_drew (own_alloc HF.out (.cells #[.int .i64 0, .int .i64 0, .int .i64 0, .int .i64 0, .string { data := #[] }, .slice none 0 0, .int .i64 0] 43))) hb3)); (have HE3 := hid hE3); (have bo3 := blk2 HI3.out.o_); (have hoz3 := blk_lt HI3.out.o_); (have hz3 : w2.heap.size ≤ w3.heap.size := by have := hb3.size; (try simp at this); omega); (have HZ3 := hid (heap_below hb3 (show (w2.alloc (.cells #[.int .i64 0, .int .i64 0, .int .i64 0, .int .i64 0, .string { data := #[] }, .slice none 0 0, .int .i64 0] 43)).drew.heap[w2.heap.size]? = _ from heap_new w2 (.cells #[.int .i64 0, .int .i64 0, .int .i64 0, .int .i64 0, .string { data := #[] }, .slice none 0 0, .int .i64 0] 43)) (by simp))); clear hE3 hb3)
    | ((have hxx := HE3); (fail_if_success (have hyy := HZ3)); go_simp; go_at_call 13; refine (HT.out _ a1 c1 _ (LsI.at_ HI3.out) HE3.out).mono ?_; rintro e w4 ⟨a0, c0, N, na, nc, hcs, hN4, rfl, hC4, hg4⟩; (have HI4 := hid (LsI.step HI3.out hC4 hg4)); (have HF4 := hid (LsI.row HI3.out hg4 HF3.out HLO.out.1)); (have HN4 := hid hN4); (have HCS := hid hcs); (have HG4 := hid hg4); (have hz4 : w3.heap.size ≤ w4.heap.size := by have := hg4.size; (try simp at this); omega); clear hcs hN4 hC4 hg4)
    | ((have hxx := HE3); (fail_if_success (have hyy := HZ3)); go_simp; go_at_call 13; refine (HT.out _ a1 c1 _ (LsI.at_ (HI3.out.alloc (.cells #[.int .i64 0, .int .i64 0, .int .i64 0, .int .i64 0, .string { data := #[] }, .slice none 0 0, .int .i64 0] 43))) (own_alloc HE3.out (.cells #[.int .i64 0, .int .i64 0, .int .i64 0, .int .i64 0, .string { data := #[] }, .slice none 0 0, .int .i64 0] 43))).mono ?_; rintro e w4 ⟨a0, c0, N, na, nc, hcs, hN4, rfl, hC4, hg4⟩; (have HI4 := hid (LsI.step (HI3.out.alloc (.cells #[.int .i64 0, .int .i64 0, .int .i64 0, .int .i64 0, .string { data := #[] }, .slice none 0 0, .int .i64 0] 43)) hC4 hg4)); (have HF4 := hid (LsI.row (HI3.out.alloc (.cells #[.int .i64 0, .int .i64 0, .int .i64 0, .int .i64 0, .string { data := #[] }, .slice none 0 0, .int .i64 0] 43)) hg4 (own_alloc HF3.out (.cells #[.int .i64 0, .int .i64 0, .int .i64 0, .int .i64 0, .string { data := #[] }, .slice none 0 0, .int .i64 0] 43)) HLO.out.1)); (have HN4 := hid hN4); (have HCS := hid hcs); (have HG4 := hid hg4); (have hz4 : w3.heap.size ≤ w4.heap.size := by have := hg4.size; (try simp at this); omega); (have HZ4 := hid (heap_chg hg4 (heap_new w3 (.cells #[.int .i64 0, .int .i64 0, .int .i64 0, .int .i64 0, .string { data := #[] }, .slice none 0 0, .int .i64 0] 43)) (LsI.far HI3.out w3.heap.size HI3.out.top))); (have bn4 := blk7 HZ4.out); clear hcs hN4 hC4 hg4)
    | ((have hxx := HZ3); go_simp; go_at_call 13; refine (HT.out _ a1 c1 _ (LsI.at_ HI3.out) HE3.out).mono ?_; rintro e w4 ⟨a0, c0, N, na, nc, hcs, hN4, rfl, hC4, hg4⟩; (have HI4 := hid (LsI.step HI3.out hC4 hg4)); (have HF4 := hid (LsI.row HI3.out hg4 HF3.out HLO.out.1)); (have HN4 := hid hN4); (have HCS := hid hcs); (have HG4 := hid hg4); (have hz4 : w3.heap.size ≤ w4.heap.size := by have := hg4.size; (try simp at this); omega); (have HZ4 := hid (heap_chg hg4 HZ3.out (LsI.far HI3.out w2.heap.size HI.out.top))); (have bn4 := blk7 HZ4.out); clear hcs hN4 hC4 hg4))
  all_goals
    simp only [Exit.then]
    refine HK1.out _ _ ?_
    first
    | (fail_if_success (have hxx := HZ4)
       refine HK.out _ _ w4.heap.size a0 c0 N na nc rfl rfl rfl rfl rfl rfl rfl rfl rfl HCS.out (heap_new w4 _) (own_alloc (ownsRow_mono HN4.out (by first | omega | (simp; omega))) _) (HI4.out.alloc _) (own_alloc HF4.out _) (by omega))
    | (have hz : w4.heap[w3.heap.size]? = some (.cells #[.int .i64 0, .int .i64 0, .int .i64 0, .int .i64 0, .string { data := #[] }, .slice none 0 0, .int .i64 0] 43 (0, 0)) := HZ4.out
       refine gen_w (P := fun w' => Code.wp _ _ _ _ w') (S := fun w5 => Chg (fun j => j = w3.heap.size) w4 w5 ∧ w5.heap[w3.heap.size]? = some (.cells #[.int .i64 0, .int .i64 0, .int .i64 0, .int .i64 0, .string ByteArray.empty, .slice na N.length nc, .int .i64 (ve % 99)] 43 (0, 0))) _ ⟨?_, ?_⟩ ?_
       · iterate 7 refine Chg.set1 ?_ _ _ rfl
         exact Chg.refl _ _
       · have h9 := heap_set (heap_set (heap_set (heap_set (heap_set (heap_set (heap_set hz 0 (.int .i64 0)) 1 (.int .i64 0)) 2 (.int .i64 0)) 3 (.int .i64 0)) 4 (.string ByteArray.empty)) 5 (.slice na N.length nc)) 6 (.int .i64 (ve % 99))
         simp only [List.setIfInBounds_toArray, List.set_cons_zero, List.set_cons_succ] at h9
         exact h9
       · rintro w5 ⟨hc5, hb5⟩
         have hlo := HI.out.bel.size
         refine HK.out _ w5 w3.heap.size a0 c0 N na nc rfl rfl rfl rfl rfl rfl rfl rfl rfl HCS.out hb5 (ownsRow_chg (ownsRow_mono HN4.out (by first | omega | (simp; omega))) fun j hj hl => hc5.block j hl fun e1 => by subst e1; exact own_ne HN4.out hz (by decide) hj) (HI4.out.new hc5 HI3.out.top (by omega) (by omega) (by omega)) (ownsRow_chg HF4.out fun j hj hl => hc5.block j hl fun e1 => by subst e1; exact own_ne HF4.out hz (by decide) hj) (by omega))
    | (have hz : w4.heap[w2.heap.size]? = some (.cells #[.int .i64 0, .int .i64 0, .int .i64 0, .int .i64 0, .string { data := #[] }, .slice none 0 0, .int .i64 0] 43 (0, 0)) := HZ4.out
       refine gen_w (P := fun w' => Code.wp _ _ _ _ w') (S := fun w5 => Chg (fun j => j = w2.heap.size) w4 w5 ∧ w5.heap[w2.heap.size]? = some (.cells #[.int .i64 0, .int .i64 0, .int .i64 0, .int .i64 0, .string ByteArray.empty, .slice na N.length nc, .int .i64 (ve % 99)] 43 (0, 0))) _ ⟨?_, ?_⟩ ?_
       · iterate 7 refine Chg.set1 ?_ _ _ rfl
         exact Chg.refl _ _
       · have h9 := heap_set (heap_set (heap_set (heap_set (heap_set (heap_set (heap_set hz 0 (.int .i64 0)) 1 (.int .i64 0)) 2 (.int .i64 0)) 3 (.int .i64 0)) 4 (.string ByteArray.empty)) 5 (.slice na N.length nc)) 6 (.int .i64 (ve % 99))
         simp only [List.setIfInBounds_toArray, List.set_cons_zero, List.set_cons_succ] at h9
         exact h9
       · rintro w5 ⟨hc5, hb5⟩
         have hlo := HI.out.bel.size
         refine HK.out _ w5 w2.heap.size a0 c0 N na nc rfl rfl rfl rfl rfl rfl rfl rfl rfl HCS.out hb5 (ownsRow_chg (ownsRow_mono HN4.out (by first | omega | (simp; omega))) fun j hj hl => hc5.block j hl fun e1 => by subst e1; exact own_ne HN4.out hz (by decide) hj) (HI4.out.new hc5 HI.out.top (by omega) (by omega) (by omega)) (ownsRow_chg HF4.out fun j hj hl => hc5.block j hl fun e1 => by subst e1; exact own_ne HF4.out hz (by decide) hj) (by omega))
end Go.Proofs.YtbjibkjenleloaaGreatDoor

end
