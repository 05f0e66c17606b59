/- Parts of a proof about the given program, in build order: CalY. No condition. -/
import Derived.Test.YtbjibkjenleloaaGreatDoorMg30
section
namespace Go.Proofs.YtbjibkjenleloaaGreatDoor
set_option linter.unusedVariables false
set_option linter.unusedSimpArgs false
open Go.RowKit
attribute [local go_sem ↓] Go.wp_at_zero Go.wp_at_succ
attribute [local go_sem] run_store_complex run_store_float


set_option maxRecDepth 100000 in
set_option maxHeartbeats 8000000 in
theorem ag_mid1 (w w7 : World) (a : Act) (ep tk ho : Int) (c t B p n o g q : Nat) (s : Cl) (L : List En) (wh : Int → Bool) (K : Code) (hs : a.tmps.size = 201) (hd : a.defers = []) (f2 : a.tmps.getD 2 undef = .int .i64 ep) (f3 : a.tmps.getD 3 undef = .int .i64 tk) (f9 : a.tmps.getD 9 undef = .pointer (some ⟨o, 0, none⟩)) (f11 : a.tmps.getD 11 undef = .slice (some ⟨g, 0, none⟩) 1 1)
    (hC : CliAt w7 c t B p n s { td0 1 1 ho with asked := 1 } L wh) (hO : w7.heap[o]? = some (.cells #[.pointer (some ⟨c, 0, none⟩), .pointer (some ⟨q, 0, none⟩)] 29 (0, 0)))
    (hK : ∀ (a' : Act) (w9 : World) (a0 : Option Addr) (c0 : Nat), a'.tmps.size = 201 → a'.defers = [] → a'.tmps.getD 3 undef = .int .i64 tk → a'.tmps.getD 9 undef = .pointer (some ⟨o, 0, none⟩) → a'.tmps.getD 11 undef = .slice (some ⟨g, 0, none⟩) 1 1 → a'.tmps.getD 12 undef = .bool false → a'.tmps.getD 15 undef = .int .i64 (1 + ep % 1000) → a'.tmps.getD 16 undef = .slice a0 1 c0 →
      w9.ownsRow w7.heap.size 50 16 (.slice a0 1 c0) 1 (amL (markAm s.am ⟨1, 1, ho, 1 + ep % 1000, 0, 0, 1⟩)) → CliAt w9 c t B p n { s with am := markAm s.am ⟨1, 1, ho, 1 + ep % 1000, 0, 0, 1⟩ } ⟨1, 1, ho, 1 + ep % 1000, 0, 0, 1⟩ [] (fun _ => false) → Chg (fun j => j = c ∨ j = t ∨ CF B p j) w7 w9 → K.wp Tryz.prog (bodyPost Tryz.prog Tryz.f5 fun e w' => e = .returned (.bool true) ∧ Below w.heap.size w w') a' w9) :
    (cutN 2 (sndN 8 agBody) K).wp Tryz.prog (bodyPost Tryz.prog Tryz.f5 fun e w' => e = .returned (.bool true) ∧ Below w.heap.size w w') a w7 := by
  conv => pattern (sndN 8 agBody); whnf
  simp only [cutN]
  have HK := hid hK
  have h9 := frame201 a hs hd
  rw [f2, f3, f9, f11] at h9
  generalize a.tmps = u at h9
  subst h9
  have HC := hid hC
  have HO := hid hO
  have bo := blk2 hO
  have hoz := blk_lt hO
  have n1 := Int.emod_nonneg ep (show (1000 : Int) ≠ 0 by decide); have m1 := Int.emod_lt_of_pos ep (show (0 : Int) < 1000 by decide)
  have hw1 : IntKind.i64.wrap (1 + ep % 1000) = 1 + ep % 1000 := IntWalk.i64_in _ (by omega)
  clear hs hd f2 f3 f9 f11 hC hO hK
  refine wp_seq_k fun K0 hK0 => ?_
  have HK0 := hid hK0
  clear hK0
  go_wp2_with fail
  refine (place_pos _ _ _ (by omega) (by omega)).mono ?_; rintro e w2 ⟨rfl, rfl⟩
  go_wp2
  refine HK0.out _ _ ?_
  refine wp_seq_k fun K1 hK1 => ?_
  have HK1 := hid hK1
  clear hK1 HK0
  go_region_law (first
    | (go_simp; go_at_call 20; refine (law_mark _ _ _).mono ?_; rintro e8 w8 ⟨rfl, rfl⟩)
    | (go_simp; go_at_call 13; refine (take_epoch _ c t B p n s ho L wh (1 + ep % 1000) HC.out.drew (by omega) (by omega)).mono ?_; rintro e9 w9 ⟨a9, c9, rfl, ho9, hc9, hx9⟩; (have HO9 := hid ho9); (have HC9 := hid hc9); (have HX9 := hid hx9); (have hz9 : w7.heap.size ≤ w9.heap.size := by have := hx9.size; simp at this; omega); clear ho9 hc9 hx9)
    | (go_simp; go_at_call 13; refine (take_epoch _ c t B p n s ho L wh (1 + ep % 1000) (CliAt.drew (HC.out.below (bl1 w7 (.cells #[.int .i64 0, .int .i64 0, .int .i64 0, .int .i64 0, .string { data := #[] }, .slice none 0 0, .int .i64 0] 43)))) (by omega) (by omega)).mono ?_; rintro e9 w9 ⟨a9, c9, rfl, ho9, hc9, hx9⟩; (have HO9 := hid ho9); (have HC9 := hid hc9); (have HX9 := hid hx9); (have hz9 : w7.heap.size ≤ w9.heap.size := by have := hx9.size; simp at this; omega); clear ho9 hc9 hx9; (have hn9 := heap_chg HX9.out (show (w7.alloc (.cells #[.int .i64 0, .int .i64 0, .int .i64 0, .int .i64 0, .string { data := #[] }, .slice none 0 0, .int .i64 0] 43)).drew.heap[w7.heap.size]? = _ from heap_new w7 (.cells #[.int .i64 0, .int .i64 0, .int .i64 0, .int .i64 0, .string { data := #[] }, .slice none 0 0, .int .i64 0] 43)) (fun hf => by have h1 := blk_lt HC.out.hc; have h2 := HC.out.ht.lt; have h3 := HC.out.hp.lt; rcases hf with hf | hf | hf; omega; omega; (have := hf.2; omega))); (have HN9 := hid hn9); (have bn9 := blk7 hn9); clear hn9))
  all_goals
    simp only [Exit.then]
    refine HK1.out _ _ ?_
    first
    | (fail_if_success (have hxx := HN9)
       refine HK.out _ _ a9 c9 rfl rfl rfl rfl rfl rfl rfl rfl (own_alloc (ownsRow_mono HO9.out (Nat.le_refl _)) _) (HC9.out.below (bl1 w9 _)) (Chg.alloc (chg_new (Chg.drew (Chg.refl (fun j => j = c ∨ j = t ∨ CF B p j) w7)) HX9.out (fun j hj => .inl hj)) _))
    | (have hl1 := blk_lt HC.out.hc
       have hl2 := HC.out.ht.lt
       have hl3 := HC.out.hp.lt
       refine gen_w (P := fun w' => Code.wp _ _ _ _ w') (S := fun w8 => Chg (fun j => j = w7.heap.size) w9 w8) _ ?_ ?_
       · iterate 7 refine Chg.set1 ?_ _ _ rfl
         exact Chg.refl _ _
       · intro w8 hc8
         refine HK.out _ _ a9 c9 rfl rfl rfl rfl rfl rfl rfl rfl (ownsRow_chg (ownsRow_mono HO9.out (by show w7.heap.size ≤ (w7.alloc (.cells #[.int .i64 0, .int .i64 0, .int .i64 0, .int .i64 0, .string { data := #[] }, .slice none 0 0, .int .i64 0] 43)).heap.size; simp)) fun j hj hl => hc8.block j hl fun e1 => by subst e1; exact own_ne HO9.out HN9.out (by decide) hj) (HC9.out.chg hc8 (by omega) (by omega) (HC9.out.hp.chg hc8 (fun k hk e1 => by have := hk.2; omega))) (chg_new (chg_new (Chg.drew (Chg.alloc (Chg.refl (fun j => j = c ∨ j = t ∨ CF B p j) w7) (.cells #[.int .i64 0, .int .i64 0, .int .i64 0, .int .i64 0, .string { data := #[] }, .slice none 0 0, .int .i64 0] 43))) HX9.out (fun j hj => .inl hj)) hc8 (by intro j hj; right; omega)))
end Go.Proofs.YtbjibkjenleloaaGreatDoor

end
