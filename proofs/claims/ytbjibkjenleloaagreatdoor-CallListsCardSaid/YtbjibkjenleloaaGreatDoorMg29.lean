/- Parts of a proof about the given program, in build order: LstC, LstD. No condition. -/
import Derived.Test.YtbjibkjenleloaaGreatDoorMg28
section
namespace Go.Proofs.YtbjibkjenleloaaGreatDoor
set_option linter.unusedVariables false
set_option linter.unusedSimpArgs false
open Go.RowKit
attribute [local go_sem ↓] Go.wp_at_zero Go.wp_at_succ
attribute [local go_sem] run_store_complex run_store_float


theorem kinds_readdir (w2 : World) (mw c : Nat) (h : w2.heap[mw]? = some (.map (fes (kindsF c)) 12)) : (Instr.lookup 123 (.map (some mw)) (.int .i64 4) false).run Tryz.prog w2 = .ok (.func (Fn.func 83) #[.pointer (some ⟨c, 0, none⟩)] #[]) w2 :=
  run_lookf (w := w2) (mw := mw) (F := kindsF c) (d := 4) (j := 3) (x := ⟨4, .func (Fn.func 83) #[.pointer (some ⟨c, 0, none⟩)] #[], 3⟩) h (by rfl) (by rfl)
theorem RdO.move {F L : List En} {wh : Int → Bool} {tn : Tn} {z : Ow} {b b' : Nat} {w w' : World} {tn' : Tn} (h : RdO F L wh tn z b w tn') (hb : b' ≤ b) {G : Nat → Prop} (hc : Chg G w w') (hg : ∀ j, b ≤ j → ¬ G j) : RdO F L wh tn z b' w' tn' := by
  rcases h with h | h | ⟨h1, h2, N, na, nc, h3, h4, h5⟩ | h
  · exact .inl h
  · exact .inr (.inl h)
  · exact .inr (.inr (.inl ⟨h1, h2, N, na, nc, h3, h4, ownsRow_mono (ownsRow_chg h5 fun j hj hl => hc.block j hl (hg j (own_lt h5 hj).1)) hb⟩))
  · exact .inr (.inr (.inr h))
/-- what a drive of a readdir comes to -/
def drvR (w : World) (c t B p n : Nat) (s : Cl) (td : Td) (L F : List En) (wh : Int → Bool) (tn : Tn) (a : Option Addr) (l cc : Nat) (d : Bool) (an : An) (w' : World) : Prop :=
  ∃ z tn', Wk F L wh true [] rootNd (stepsL s.cp) (dirB s.cp) s.cf.li [] z ∧ z.used.length ≤ 1000 ∧ RdO F (useAll z.used L) wh tn z w.heap.size w' tn' ∧
    ((∃ g, tn'.op.kind ≠ 0 ∧ a = some ⟨g, 0, none⟩ ∧ l = 1 ∧ cc = 1 ∧ d = false ∧ an = ⟨0, nd0, none, 0, 0, 0⟩ ∧ w'.ownsRow w.heap.size 50 16 (.slice (some ⟨g, 0, none⟩) 1 1) 1 (askMs s td (s.seq + 1) tn'.op).cs.toList ∧ CliAt w' c t B p (n + z.used.length) (askedS s td tn'.op) { td with asked := s.seq + 1 } (useAll z.used L) wh) ∨
     (tn'.op.kind = 0 ∧ a = none ∧ l = 0 ∧ cc = 0 ∧ d = true ∧ an = ⟨tn'.err, tn'.nd, tn'.na, tn'.nl, tn'.nc, td.ver⟩ ∧ CliAt w' c t B p (n + z.used.length) { s with busy := false, am := ms0 } td (useAll z.used L) wh))
set_option maxRecDepth 100000 in
set_option maxHeartbeats 4000000 in
theorem drive_rd (w : World) (c t B p n q Bf : Nat) (s : Cl) (td : Td) (L F : List En) (wh : Int → Bool) (tn : Tn) (h : CliAt w c t B p n s td L wh) (hq : w.heap[q]? = some (.cells (tnC tn) 90 (0, 0))) (hnq : ¬ CF B p q) (hpf : p < Bf)
    (hF : w.ownsRow Bf 55 7 (.slice tn.fa F.length tn.fc) F.length (ecs F)) (hfl : tn.fl = F.length) (hna : tn.na = none ∧ tn.nl = 0 ∧ tn.nc = 0) (hFl : F.length ≤ 1000000) (hs : pathErr s.cp = 0) (hck : s.ck = 4) (hl0 : 0 ≤ s.cf.li) (hl8 : s.cf.li ≤ 8) (hn : n < 900000) (hs0 : 0 ≤ s.seq) (hs1 : s.seq < 1000000000000) :
    Calls Tryz.prog 31 #[.pointer (some ⟨c, 0, none⟩), .pointer (some ⟨q, 0, none⟩)] w fun e w' => ∃ a l cc d an, e = .returned (.tuple #[.slice a l cc, .bool d, an.v]) ∧ drvR w c t B p n s td L F wh tn a l cc d an w' ∧ Chg (fun j => j = c ∨ j = t ∨ j = q ∨ CF B p j) w w' := by
  have hR := heap_new w (.cells #[.int .i64 0, .int .i64 0, .int .i64 0, .int .i64 0, .string { data := #[] }, .slice none 0 0, .int .i64 0] 43)
  have HR := hid hR
  have bb := bl1 w (.cells #[.int .i64 0, .int .i64 0, .int .i64 0, .int .i64 0, .string { data := #[] }, .slice none 0 0, .int .i64 0] 43)
  have HW := hid bb
  have HC := hid (h.below bb)
  have HQ := hid (heap_below bb hq (blk_lt hq))
  have HF := hid (own_below hF bb)
  have hpz := h.hp.lt
  have hcz := blk_lt h.hc
  have hqz := blk_lt hq
  have htz := h.ht.lt
  have HN := hid (And.intro hnq (And.intro hpf (And.intro hfl (And.intro hna (And.intro hFl (And.intro hs (And.intro hl0 (And.intro hl8 (And.intro hn (And.intro hs0 hs1))))))))))
  obtain ⟨w0, hw0⟩ : ∃ w0, w0 = w.alloc (.cells #[.int .i64 0, .int .i64 0, .int .i64 0, .int .i64 0, .string { data := #[] }, .slice none 0 0, .int .i64 0] 43) := ⟨_, rfl⟩
  have hwz : w.heap.size + 1 = w0.heap.size := by rw [hw0]; simp
  have HW0 := hid hw0
  rw [← hw0] at HR HW HC HQ HF
  have e13 := cell_of HC.out.hc 13 (.int .i64 s.ck) rfl
  rw [hck] at e13
  have HCK := hid hck
  have KR : w0.cell? ⟨c, 13, none⟩ = some (.int .i64 4) := e13.1
  have KRd : w0.drew.cell? ⟨c, 13, none⟩ = some (.int .i64 4) := KR
  clear h hq hnq hpf hF hfl hna hFl hs hck hl0 hl8 hn hs0 hs1 bb hR hw0 e13
  go_enter Tryz.func31, Tryz.ntmps31
  refine wp_seq_k fun K0 hK0 => ?_
  have HK0 := hid hK0
  clear hK0
  go_wp2
  refine HK0.out _ _ ?_
  rw [← HW0.out]
  clear HK0 HW0
  refine wp_seq_k fun K1 hK1 => ?_
  have HK1 := hid hK1
  clear hK1
  go_region_held3 (fun w' => w'.cell? ⟨c, 13, none⟩ = some (.int .i64 4))
    (first | with_reducible exact KR | with_reducible exact KRd | with_reducible exact K2 | with_reducible exact K3)
    (first
      | (go_at_call 57; refine (cli_kinds _ c).mono ?_; rintro e w2 ⟨rfl, hm2, hb2⟩; (have hlk := kinds_readdir w2 w0.heap.size c hm2); (have HB2 := hid hb2); (have HC2 := hid (CliAt.below HC.out.drew hb2)); (have HQ2 := hid (heap_below (w := w0.drew) hb2 HQ.out (blk_lt HQ.out))); (have HR2 := hid (heap_below (w := w0.drew) hb2 HR.out (blk_lt HR.out))); (have HF2 := hid (own_below (own_drew HF.out) hb2)); (have HX2 := hid (show Chg NoB w w2 from chg_new (Chg.below (HW.out.mono (Nat.le_refl _)) |>.mono (fun _ _ h => h)) (show Chg NoB w0 w2 from (Chg.below HB2.out |> fun h => ⟨h.os, h.tape, h.output, h.size, h.block⟩)) (fun j hj => hj.elim))); (have K2 : w2.cell? ⟨c, 13, none⟩ = some (.int .i64 4) := by rw [← HCK.out]; exact (cell_of HC2.out.hc 13 (.int .i64 s.ck) rfl).1); clear hm2 hb2)
      | (go_at_call 83; refine (cli_readdir _ c t B p n q Bf s td L F wh tn HC2.out HQ2.out HN.out.1 HN.out.2.1 HF2.out HN.out.2.2.1 HN.out.2.2.2.1 HN.out.2.2.2.2.1 HN.out.2.2.2.2.2.1 HN.out.2.2.2.2.2.2.1 HN.out.2.2.2.2.2.2.2.1 HN.out.2.2.2.2.2.2.2.2.1).mono ?_; rintro e w3 ⟨z, tn', hwk, hul, rfl, hc3, hq3, hro, hg3⟩; (have HWK := hid (And.intro hwk hul)); (have HRO := hid hro); (have HC3 := hid hc3); (have HQ3 := hid hq3); (have HG3 := hid hg3); (have hr3 := heap_chg hg3 HR2.out (fun hf => by rcases hf with hf | hf; (have := hwz; omega); (have := hf.2; omega))); (have HR3 := hid hr3); (have K3 : w3.cell? ⟨c, 13, none⟩ = some (.int .i64 4) := by rw [← HCK.out]; exact (cell_of HC3.out.hc 13 (.int .i64 s.ck) rfl).1); clear hwk hul hro hc3 hq3 hg3 hr3))
  simp only [Exit.then]
  refine HK1.out _ _ ?_
  have hX3 : Chg (fun j => j = c ∨ j = t ∨ j = q ∨ CF B p j) w w3 := chg_new (HX2.out.mono (fun _ _ h => h.elim)) HG3.out (by intro j hj; rcases hj with hj | hj; exact .inl (.inr (.inr (.inl hj))); exact .inl (.inr (.inr (.inr hj))))
  have HX3 := hid hX3
  have hrp : ¬ CF B p w.heap.size := fun hf => by have := hf.2; omega
  have hz3 := HX3.out.size
  have hz2 : w0.heap.size ≤ w2.heap.size := HB2.out.size
  have HRZ := hid (And.intro hrp hz3)
  have HZ2 := hid hz2
  clear K2 K3 KR KRd hX3 hrp hz3 HK1
  by_cases hk : tn'.op.kind = 0
  · have HK := hid hk
    clear hk
    refine drive_done _ w3 c t B p (n + z.used.length) q w.heap.size s td _ wh tn' rfl rfl rfl rfl rfl rfl rfl HC3.out HQ3.out HR3.out HK.out HRZ.out.1 _ ?_
    intro a' w' hd h4 h5 h6 hr' hcl hch
    have br := blk7 hr'
    have h4' : a'.tmps[4]?.getD undef = .slice none 0 0 := by simpa using h4
    have h5' : a'.tmps[5]?.getD undef = .bool true := by simpa using h5
    have h6' : a'.tmps[6]?.getD undef = .pointer (some ⟨w.heap.size, 0, none⟩) := by simpa using h6
    have HOC := hid (And.intro hcl hch)
    clear hcl hch hr' h4 h5 h6
    refine bodyPost_ret (v := .tuple #[.slice none 0 0, .bool true, (An.mk tn'.err tn'.nd tn'.na tn'.nl tn'.nc td.ver).v]) (by simp [results, Tryz.results31, h4', h5', h6', go_sem, br, An.v]) hd ⟨none, 0, 0, true, ⟨tn'.err, tn'.nd, tn'.na, tn'.nl, tn'.nc, td.ver⟩, rfl, ⟨z, tn', HWK.out.1, HWK.out.2, HRO.out.move (by omega) HOC.out.2 (fun j hj hf => by rcases hf with hf | hf <;> omega), .inr ⟨HK.out, rfl, rfl, rfl, rfl, rfl, HOC.out.1⟩⟩, chg_new HX3.out HOC.out.2 ?_⟩
    intro j hj
    rcases hj with hj | hj
    · exact .inl (.inl hj)
    · subst hj; exact .inr (Nat.le_refl _)
  · have HK := hid hk
    clear hk
    refine drive_ask _ w3 0 c t B p (n + z.used.length) q w.heap.size s td _ wh tn' rfl rfl rfl rfl rfl rfl rfl HC3.out HQ3.out HR3.out HK.out HN.out.2.2.2.2.2.2.2.2.2.1 HN.out.2.2.2.2.2.2.2.2.2.2 HRZ.out.1 _ ?_
    intro a' w' b hd h4 h5 h6 hr' hown hcl hch
    have br := blk7 hr'
    have h4' : a'.tmps[4]?.getD undef = .slice (some ⟨b, 0, none⟩) 1 1 := by simpa using h4
    have h5' : a'.tmps[5]?.getD undef = .bool false := by simpa using h5
    have h6' : a'.tmps[6]?.getD undef = .pointer (some ⟨w.heap.size, 0, none⟩) := by simpa using h6
    have HOC := hid (And.intro hown (And.intro hcl hch))
    clear hown hcl hch hr' h4 h5 h6
    refine bodyPost_ret (v := .tuple #[.slice (some ⟨b, 0, none⟩) 1 1, .bool false, .agg #[.int .i64 0, .int .i64 0, .int .i64 0, .int .i64 0, .string { data := #[] }, .slice none 0 0, .int .i64 0]]) (by simp [results, Tryz.results31, h4', h5', h6', go_sem, br]) hd ⟨some ⟨b, 0, none⟩, 1, 1, false, ⟨0, nd0, none, 0, 0, 0⟩, rfl, ⟨z, tn', HWK.out.1, HWK.out.2, HRO.out.move (by omega) HOC.out.2.2 (fun j hj hf => by rcases hf with hf | hf | hf <;> omega), .inl ⟨b, HK.out, rfl, rfl, rfl, rfl, rfl, ownsRow_mono HOC.out.1 HRZ.out.2, HOC.out.2.1⟩⟩, chg_new HX3.out HOC.out.2.2 ?_⟩
    intro j hj
    rcases hj with hj | hj | hj
    · exact .inl (.inl hj)
    · exact .inl (.inr (.inl hj))
    · subst hj; exact .inr (Nat.le_refl _)
end Go.Proofs.YtbjibkjenleloaaGreatDoor

end

section
namespace Go.Proofs.YtbjibkjenleloaaGreatDoor
set_option linter.unusedVariables false
set_option linter.unusedSimpArgs false
open Go.RowKit
attribute [local go_sem ↓] Go.wp_at_zero Go.wp_at_succ
attribute [local go_sem] run_store_complex run_store_float


theorem path_root : pathErr { data := #[47] } = 0 ∧ stepsL { data := #[47] } = [] ∧ dirB { data := #[47] } = true := by decide +kernel
theorem RdO.move2 {F L : List En} {wh : Int → Bool} {tn : Tn} {z : Ow} {b b' r T : Nat} {w w' : World} {tn' : Tn} {cs : Array Value} (h : RdO F L wh tn z b w tn') (hb : b' ≤ b) (hc : Chg (fun j => j = r) w w') (hr : w.heap[r]? = some (.cells cs T (0, 0))) (hT : T ≠ 9) : RdO F L wh tn z b' w' tn' := by
  rcases h with h | h | ⟨h1, h2, N, na, nc, h3, h4, h5⟩ | h
  · exact .inl h
  · exact .inr (.inl h)
  · exact .inr (.inr (.inl ⟨h1, h2, N, na, nc, h3, h4, ownsRow_mono (ownsRow_chg h5 fun j hj hl => hc.block j hl fun e1 => by subst e1; exact own_ne h5 hr hT hj) hb⟩))
  · exact .inr (.inr (.inr h))
/-- the start of a readdir of the root -/
def startRd (w : World) (c t B p n : Nat) (s : Cl) (td : Td) (L : List En) (wh : Int → Bool) (e : Ending) (w' : World) : Prop :=
  (wh 1 = false ∧ (∃ g, e = .returned (.tuple #[.slice (some ⟨g, 0, none⟩) 1 1, .bool false, (An.mk 0 nd0 none 0 0 0).v]) ∧ w'.ownsRow w.heap.size 50 16 (.slice (some ⟨g, 0, none⟩) 1 1) 1 (askMs s td (s.seq + 1) ⟨2, 1, { data := #[] }, 0, { data := #[] }, 0, { data := #[] }⟩).cs.toList) ∧ CliAt w' c t B p n (askedS s td ⟨2, 1, { data := #[] }, 0, { data := #[] }, 0, { data := #[] }⟩) { td with asked := s.seq + 1 } L wh) ∨
  (wh 1 = true ∧ (∃ (N : List En) (na : Option Addr) (nc : Nat), N.Perm (L.filter (inDir 1)) ∧ (N.Pairwise fun x y => nmLt x.key.name y.key.name = true) ∧ e = .returned (.tuple #[.slice none 0 0, .bool true, (An.mk 0 nd0 na N.length nc td.ver).v]) ∧ w'.ownsRow w.heap.size 9 1 (.slice na N.length nc) N.length (srow (nmsL N))) ∧ CliAt w' c t B p n { s with busy := false, am := ms0 } td L wh)
set_option maxHeartbeats 2000000 in
theorem start_rd (w : World) (c t B p n : Nat) (s : Cl) (td : Td) (L : List En) (wh : Int → Bool) (h : CliAt w c t B p n s td L wh) (hb : s.busy = false) (hl0 : 0 ≤ s.cf.li) (hl8 : s.cf.li ≤ 8) (hn : n < 900000) (hs0 : 0 ≤ s.seq) (hs1 : s.seq < 1000000000000) :
    Calls Tryz.prog 11 #[.pointer (some ⟨c, 0, none⟩), .agg #[.int .i64 4, .string { data := #[47] }, .string { data := #[] }, .int .i64 0]] w fun e w' => startRd w c t B p n { s with busy := true, ck := 4, cp := { data := #[47] }, co := { data := #[] }, cm := 0 } td L wh e w' ∧ Chg (fun j => j = c ∨ j = t ∨ CF B p j) w w' := by
  have hcz := blk_lt h.hc
  have htz := h.ht.lt
  have hpz := h.hp.lt
  refine (start_gen w c t B p n s td L wh 4 0 { data := #[47] } { data := #[] } h (fun W a l cc d an w3 => drvR W c t B p n { s with busy := true, ck := 4, cp := { data := #[47] }, co := { data := #[] }, cm := 0 } td L [] wh tn0 a l cc d an w3) (fun W hC => (refused_read W c t B p n s td L wh 4 0 { data := #[47] } { data := #[] } hC hb (by decide) (by decide)).mono fun e w' hh => by rw [path_root.1] at hh; exact hh)
    (fun W q hC hq hnq hz hzq => drive_rd W c t B p n q (p + 1) { s with busy := true, ck := 4, cp := { data := #[47] }, co := { data := #[] }, cm := 0 } td L [] wh tn0 hC hq hnq (Nat.lt_succ_self _) (World.ownsRow_nil _ _ _ _) rfl ⟨rfl, rfl, rfl⟩ (by simp) path_root.1 rfl hl0 hl8 hn hs0 hs1)).mono ?_
  rintro e w' ⟨W, a, l, cc, d, an, w3, rfl, ⟨z, tn', hwk, hul, hro, hcase⟩, hz, hR, hgc, hxc⟩
  have hwk' : Wk [] L wh true [] rootNd (stepsL { data := #[47] }) (dirB { data := #[47] }) s.cf.li [] z := hwk
  rw [path_root.2.1, path_root.2.2] at hwk'
  have hzz := wk_nil hwk'
  subst hzz
  have hcl : ∀ {s2 : Cl} {td2 : Td} {L2 : List En}, CliAt w3 c t B p n s2 td2 L2 wh → CliAt w' c t B p n s2 td2 L2 wh := fun hc => hc.chg hgc (by omega) (by omega) (hc.hp.chg hgc (fun k hk e => by have := hk.2; omega))
  have hro2 := hro.move2 hz hgc hR (by decide)
  refine ⟨?_, hxc⟩
  rcases hro2 with ⟨h1, _⟩ | ⟨_, h2, _⟩ | ⟨_, _, N, na, nc, h3, h4, h5⟩ | ⟨_, _, h3, _, na, nc, h4⟩
  · exact absurd h1 (by decide)
  · exact absurd rfl h2
  · rcases h3 with ⟨h6, h7, h8⟩ | ⟨_, h6, _⟩
    · subst h4
      rcases hcase with ⟨g, hk, _⟩ | ⟨_, rfl, rfl, rfl, rfl, rfl, hc3⟩
      · exact absurd rfl hk
      · exact .inr ⟨h6, ⟨N, na, nc, h7, h8, rfl, h5⟩, hcl hc3⟩
    · exact absurd h6 (by decide)
  · subst h4
    rcases hcase with ⟨g, _, rfl, rfl, rfl, rfl, rfl, hown, hc3⟩ | ⟨hk, _⟩
    · exact .inl ⟨h3, ⟨g, rfl, ownsRow_mono (ownsRow_chg hown fun j hj hl => hgc.block j hl fun e1 => by subst e1; exact own_ne hown hR (by decide) hj) hz⟩, hcl hc3⟩
    · exact absurd hk (show ¬ (2 : Int) = 0 by decide)
end Go.Proofs.YtbjibkjenleloaaGreatDoor

end
