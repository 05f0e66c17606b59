/- Parts of a proof about the given program, in build order: CmuF. No condition. -/
import Derived.Test.YtbjibkjenleloaaGreatDoorMg26
section
namespace Go.Proofs.YtbjibkjenleloaaGreatDoor
set_option linter.unusedVariables false
set_option linter.unusedSimpArgs false
open Go.RowKit
attribute [local go_sem ↓] Go.wp_at_zero Go.wp_at_succ
attribute [local go_sem] run_store_complex run_store_float


theorem wk_nil {F L : List En} {wh : Int → Bool} {k : Int} {z : Ow} (h : Wk F L wh true [] rootNd [] true k [] z) : z = ⟨false, ky0, 0, rootNd, []⟩ := by
  generalize ([] : List Nd) = A at h
  cases h with
  | wrong _ _ _ _ _ h1 => exact absurd h1 (by decide)
  | done => rfl
theorem snoc_one {T : List ByteArray} {x y : ByteArray} (h : [x] = T ++ [y]) : T = [] ∧ y = x := by
  cases T with
  | nil => simp at h; exact ⟨rfl, h.symm⟩
  | cons a T => simp at h
theorem co_root {F : List En} {wh : Int → Bool} {s : Cl} {path x y : ByteArray} (hx : stepsL path = [x]) (hy : s.ck = 10 → stepsL s.co = [y]) {o : Option Op7} {e : Int} {L' : List En} {m : Nat} (h : Co F wh s [] path [] o e L' m) :
    o = some (mutOp s (if s.ck = 10 then [⟨1, x⟩, ⟨1, y⟩] else [⟨1, x⟩])) ∧ e = 0 ∧ L' = [] ∧ m = 0 := by
  cases h with
  | stop _ _ _ T y1 z h1 h2 h3 =>
    rw [hx] at h1
    obtain ⟨rfl, rfl⟩ := snoc_one h1
    rw [wk_nil h2] at h3
    exact absurd h3 (by decide)
  | last _ _ _ T y1 z h1 h2 h3 h4 =>
    rw [hx] at h1
    obtain ⟨rfl, rfl⟩ := snoc_one h1
    have hz := wk_nil h2
    subst hz
    refine ⟨?_, rfl, rfl, rfl⟩
    rw [if_neg (fun h => by have := h4 h; simp at this)]
    rfl
  | more _ _ _ T y1 z o e L' m h1 h2 h3 h4 h5 h6 =>
    rw [hx] at h1
    obtain ⟨rfl, rfl⟩ := snoc_one h1
    have hz := wk_nil h2
    subst hz
    rw [if_pos h4]
    cases h6 with
    | stop _ _ _ T2 y2 z2 g1 g2 g3 =>
      rw [hy h4] at g1
      obtain ⟨rfl, rfl⟩ := snoc_one g1
      rw [wk_nil g2] at g3
      exact absurd g3 (by decide)
    | last _ _ _ T2 y2 z2 g1 g2 g3 g4 =>
      rw [hy h4] at g1
      obtain ⟨rfl, rfl⟩ := snoc_one g1
      have hz2 := wk_nil g2
      subst hz2
      exact ⟨rfl, rfl, rfl, rfl⟩
    | more _ _ _ T2 y2 z2 o e L' m g1 g2 g3 g4 g5 g6 => cases g5
set_option maxHeartbeats 1000000 in
theorem start_mut (w : World) (c t B p n : Nat) (s : Cl) (td : Td) (k mode : Int) (path oth x y : ByteArray) (h : CliAt w c t B p n s td [] (fun _ => false)) (hb : s.busy = false) (h5 : 5 ≤ k) (h11 : k ≤ 11) (hp : parErr path = 0) (hx : stepsL path = [x]) (ho : k = 10 → parErr oth = 0 ∧ stepsL oth = [y]) (hg : k = 7 → tgtErr oth = 0) (hm : k = 5 ∨ k = 6 ∨ k = 11 → 0 ≤ mode ∧ mode ≤ 511) (hl0 : 0 ≤ s.cf.li) (hl8 : s.cf.li ≤ 8) (hn : n < 100000000000) (hs0 : 0 ≤ s.seq) (hs1 : s.seq < 1000000000000) :
    Calls Tryz.prog 11 #[.pointer (some ⟨c, 0, none⟩), .agg #[.int .i64 k, .string path, .string oth, .int .i64 mode]] w fun e w' => ∃ g, e = .returned (.tuple #[.slice (some ⟨g, 0, none⟩) 1 1, .bool false, (An.mk 0 nd0 none 0 0 0).v]) ∧ w'.ownsRow w.heap.size 50 16 (.slice (some ⟨g, 0, none⟩) 1 1) 1 (askMs { s with busy := true, ck := k, cp := path, co := oth, cm := mode } td (s.seq + 1) (mutOp { s with busy := true, ck := k, cp := path, co := oth, cm := mode } (if k = 10 then [⟨1, x⟩, ⟨1, y⟩] else [⟨1, x⟩]))).cs.toList ∧
      CliAt w' c t B p n (askedS { s with busy := true, ck := k, cp := path, co := oth, cm := mode } td (mutOp { s with busy := true, ck := k, cp := path, co := oth, cm := mode } (if k = 10 then [⟨1, x⟩, ⟨1, y⟩] else [⟨1, x⟩]))) { td with asked := s.seq + 1 } [] (fun _ => false) ∧ Chg (fun j => j = c ∨ j = t ∨ CF B p j) w w' := by
  have hcz := blk_lt h.hc
  have htz := h.ht.lt
  have hpz := h.hp.lt
  refine (start_gen w c t B p n s td [] (fun _ => false) k mode path oth h (fun W a l cc d an w3 => drvC W c t B p n { s with busy := true, ck := k, cp := path, co := oth, cm := mode } td [] [] (fun _ => false) tn0 a l cc d an w3) (fun W hC => refused_mut W c t B p n s td [] _ k mode path oth hC hb h5 h11 hp (fun h => (ho h).1) hg hm)
    (fun W q hC hq hnq hz hzq => drive_chg W c t B p n q { s with busy := true, ck := k, cp := path, co := oth, cm := mode } td [] [] (fun _ => false) tn0 hC hq hnq (fun W' _ => rd_none _) rfl hp (fun h => (ho h).1) ⟨h5, h11⟩ hl0 hl8 hn rfl hs0 hs1)).mono ?_
  rintro e w' ⟨W, a, l, cc, d, an, w3, rfl, ⟨o, er, L', m, hco, hm, hcase⟩, hz, hR, hgc, hxc⟩
  obtain ⟨rfl, rfl, rfl, rfl⟩ := co_root (s := { s with busy := true, ck := k, cp := path, co := oth, cm := mode }) hx (fun h => (ho h).2) hco
  rcases hcase with ⟨op, g, hop, rfl, rfl, rfl, rfl, rfl, hown, hcl⟩ | ⟨hop, _⟩
  · cases hop
    refine ⟨g, rfl, ownsRow_mono (ownsRow_chg hown fun j hj hl => hgc.block j hl fun e1 => by subst e1; exact own_ne hown hR (by decide) hj) hz, ?_, hxc⟩
    exact hcl.chg hgc (by omega) (by omega) (hcl.hp.chg hgc (fun k hk e => by have := hk.2; omega))
  · cases hop
end Go.Proofs.YtbjibkjenleloaaGreatDoor

end
