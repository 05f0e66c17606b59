/- Parts of a proof about the given program, in build order: WlkO, CalE. No condition. -/
import Derived.Test.YtbjibkjenleloaaGreatDoorMg05
import Derived.Test.YtbjibkjenleloaaGreatDoorMg13
section
namespace Go.Proofs.YtbjibkjenleloaaGreatDoor
set_option linter.unusedVariables false
set_option linter.unusedSimpArgs false
open Go.RowKit
attribute [local go_sem ↓] Go.wp_at_zero Go.wp_at_succ
attribute [local go_sem] run_store_complex run_store_float


theorem path_small {s : ByteArray} (h : pathErr s = 0) : (stepsL s).length ≤ 97 := by
  have h2 := steps_le s
  have h3 : s.size ≤ 96 := by
    unfold pathErr at h
    by_cases hb : 96 < s.size
    · rw [if_pos hb] at h; exact absurd h (by decide)
    · omega
  omega
set_option maxRecDepth 100000 in
set_option maxHeartbeats 4000000 in
theorem walk_any (w : World) (B p n : Nat) (L fresh : List En) (wh : Int → Bool) (fv : Value) (s : ByteArray) (follow : Bool) (links : Int) (hc : CAt w B p n L wh) (hf : Rd w fv fresh.length (ecs fresh)) (hs : pathErr s = 0) (hl0 : 0 ≤ links) (hl8 : links ≤ 8) :
    Calls Tryz.prog 136 #[.pointer (some ⟨p, 0, none⟩), fv, .string s, .bool follow, .int .i64 links] w (stepsPost w fresh L wh follow (stepsL s) (dirB s) links) := by
  have HR := hid (heap_new w (.cells #[.bool false, .int .i64 0, .string { data := #[] }, .int .i64 0, .int .i64 0, .int .i64 0, .int .i64 0, .string { data := #[] }, .slice none 0 0] 176))
  have HC := hid (hc.below (bl1 w (.cells #[.bool false, .int .i64 0, .string { data := #[] }, .int .i64 0, .int .i64 0, .int .i64 0, .int .i64 0, .string { data := #[] }, .slice none 0 0] 176)))
  have HF := hid (hf.below (bl1 w (.cells #[.bool false, .int .i64 0, .string { data := #[] }, .int .i64 0, .int .i64 0, .int .i64 0, .int .i64 0, .string { data := #[] }, .slice none 0 0] 176)))
  have HS := hid hs
  have HL := hid (And.intro hl0 hl8)
  have hw := bl1 w (.cells #[.bool false, .int .i64 0, .string { data := #[] }, .int .i64 0, .int .i64 0, .int .i64 0, .int .i64 0, .string { data := #[] }, .slice none 0 0] 176)
  have HB := hid hw
  clear hc hf hs hl0 hl8 hw
  go_enter Tryz.func136, Tryz.ntmps136
  go_wp2_with fail
  refine (split_any s _).mono ?_; rintro e w1 hx
  rcases hx.out with ⟨h1, _⟩ | ⟨h1, ⟨a, c, rfl, ho1⟩, hb1⟩
  · exact absurd HS.out h1
  have HO1 := hid ho1
  have HB1 := hid (HB.out.trans (hb1.mono HB.out.size))
  have HC1 := hid (HC.out.below hb1)
  have HF1 := hid (HF.out.below hb1)
  have HR1 := hid (heap_below hb1 HR.out (blk_lt HR.out))
  clear h1 hx ho1 hb1 HR HC HF HB
  go_wp2_with fail
  refine (steps_any w1 B p n L fresh wh fv _ (stepsL s) (dirB s) follow links HC1.out HF1.out (Rd.own HO1.out) (by have := path_small HS.out; omega) HL.out.1 HL.out.2).mono ?_
  rintro e w2 ⟨z, ua, uc, rfl, hwk, hu, hb2⟩
  have HWK := hid hwk
  have HU := hid hu
  have HB2 := hid (HB1.out.trans (hb2.mono HB1.out.size))
  have hr2 := heap_below hb2 HR1.out (blk_lt HR1.out)
  have HR2 := hid hr2
  have br := blk9 hr2
  have hz1 := HB1.out.size
  have HZ1 := hid hz1
  unfold Ow.cv
  clear hwk hu hb2 hr2 HC1 HF1 HR1 hz1
  go_wp2
  (try simp only [Exit.inBlock, Exit.then])
  refine gen_w (P := fun w' => bodyPost _ _ _ _ _ w') (S := fun w4 => Chg (fun j => j = w.heap.size) w2 w4 ∧ w4.heap[w.heap.size]? = some (.cells #[.bool z.need, .int .i64 z.key.dir, .string z.key.name, .int .i64 z.err, .int .i64 z.node.id, .int .i64 z.node.kind, .int .i64 z.node.mode, .string z.node.target, .slice ua z.used.length uc] 176 (0, 0))) _ ⟨?_, ?_⟩ ?_
  · iterate 9 refine Chg.set1 ?_ _ _ rfl
    exact Chg.refl _ _
  · have h9 := (heap_set (heap_set (heap_set (heap_set (heap_set (heap_set (heap_set (heap_set (heap_set HR2.out 0 (.bool z.need)) 1 (.int .i64 z.key.dir)) 2 (.string z.key.name)) 3 (.int .i64 z.err)) 4 (.int .i64 z.node.id)) 5 (.int .i64 z.node.kind)) 6 (.int .i64 z.node.mode)) 7 (.string z.node.target)) 8 (.slice ua z.used.length uc))
    simp only [List.setIfInBounds_toArray, List.set_cons_zero, List.set_cons_succ] at h9
    exact h9
  rintro w4 ⟨hc4, hr4⟩
  have b4 := blk9 hr4
  clear br
  refine bodyPost_ret (v := z.cv ua uc) (by clear hc4 hr4; simp [results, Tryz.results136, go_sem, b4, Ow.cv]) rfl ⟨z, ua, uc, rfl, HWK.out, ?_, ?_⟩
  · exact ownsRow_mono (ownsRow_chg HU.out fun j hj hl => hc4.block j hl fun e1 => by subst e1; exact own_ne HU.out HR2.out (by decide) hj) HZ1.out
  · exact HB2.out.trans (hc4.toBelow HB2.out.size fun i hi hf => by omega)
end Go.Proofs.YtbjibkjenleloaaGreatDoor

end

section
namespace Go.Proofs.YtbjibkjenleloaaGreatDoor
set_option linter.unusedVariables false
set_option linter.unusedSimpArgs false
open Go.RowKit
attribute [local go_sem ↓] Go.wp_at_zero Go.wp_at_succ
attribute [local go_sem] run_store_complex run_store_float


/-- a turn -/
structure Tn where
  fa : Option Addr
  fl : Nat
  fc : Nat
  whole : Bool
  dir : Int
  op : Op7
  err : Int
  nd : Nd
  na : Option Addr
  nl : Nat
  nc : Nat
  ver : Int
def tnC (s : Tn) : Array Value := #[.slice s.fa s.fl s.fc, .bool s.whole, .int .i64 s.dir, .int .i64 s.op.kind, .int .i64 s.op.dir, .string s.op.name, .int .i64 s.op.to_, .string s.op.new_, .int .i64 s.op.mode, .string s.op.target, .int .i64 s.err, .int .i64 s.nd.id, .int .i64 s.nd.kind, .int .i64 s.nd.mode, .string s.nd.target, .slice s.na s.nl s.nc, .int .i64 s.ver]
def useAll (U : List Ky) (L : List En) : List En := U.foldl (fun L k => useL k L) L
theorem useAll_snoc (U : List Ky) (k : Ky) (L : List En) : useAll (U ++ [k]) L = useL k (useAll U L) := by simp [useAll]
def lookOp (k : Ky) : Op7 := ⟨1, k.dir, k.name, 0, ByteArray.empty, 0, ByteArray.empty⟩
theorem CliAt.chg {w w' : World} {c t B p n n' : Nat} {s : Cl} {td : Td} {L L' : List En} {wh wh' : Int → Bool} {F : Nat → Prop} (h : CliAt w c t B p n s td L wh) (hc : Chg F w w') (h1 : ¬ F c) (h2 : ¬ F t) (hp : CAt w' B p n' L' wh') : CliAt w' c t B p n' s td L' wh' :=
  ⟨heap_chg hc h.hc h1, h.ht.chg hc h2, hp, h.ncp, h.ntp⟩
set_option maxRecDepth 100000 in
set_option maxHeartbeats 4000000 in
theorem cli_came (w : World) (c t B p n q Bu : Nat) (s : Cl) (td : Td) (L : List En) (wh : Int → Bool) (tn : Tn) (z : Ow) (ua : Option Addr) (uc : Nat) (h : CliAt w c t B p n s td L wh) (hq : w.heap[q]? = some (.cells (tnC tn) 90 (0, 0)))
    (hu : w.ownsRow Bu 53 2 (.slice ua z.used.length uc) z.used.length (kyc z.used)) (hBu : p < Bu) (hnq : ¬ CF B p q) (hn : n + z.used.length < 4611686018427387904) (hlu : z.used.length ≤ 100000) :
    Calls Tryz.prog 115 #[.pointer (some ⟨c, 0, none⟩), .pointer (some ⟨q, 0, none⟩), z.cv ua uc] w fun e w' => e = .returned (.tuple #[z.node.v, .bool (!z.need && z.err == 0)]) ∧ CliAt w' c t B p (n + z.used.length) s td (useAll z.used L) wh ∧
      w'.heap[q]? = some (.cells (tnC { tn with op := if z.need then lookOp z.key else tn.op, err := z.err }) 90 (0, 0)) ∧ Chg (fun j => j = q ∨ CF B p j) w w' := by
  have HB := hid (heap_old (heap_new w (.cells #[.bool z.need, .int .i64 z.key.dir, .string z.key.name, .int .i64 z.err, .int .i64 z.node.id, .int .i64 z.node.kind, .int .i64 z.node.mode, .string z.node.target, .slice ua z.used.length uc] 176)) (.cells #[.int .i64 0, .int .i64 0, .int .i64 0, .string { data := #[] }] 40))
  have hR := heap_new (w.alloc (.cells #[.bool z.need, .int .i64 z.key.dir, .string z.key.name, .int .i64 z.err, .int .i64 z.node.id, .int .i64 z.node.kind, .int .i64 z.node.mode, .string z.node.target, .slice ua z.used.length uc] 176)) (.cells #[.int .i64 0, .int .i64 0, .int .i64 0, .string { data := #[] }] 40)
  rw [World.size_alloc] at hR
  have HR := hid hR
  have bb := bl2 w (.cells #[.bool z.need, .int .i64 z.key.dir, .string z.key.name, .int .i64 z.err, .int .i64 z.node.id, .int .i64 z.node.kind, .int .i64 z.node.mode, .string z.node.target, .slice ua z.used.length uc] 176) (.cells #[.int .i64 0, .int .i64 0, .int .i64 0, .string { data := #[] }] 40)
  have HW := hid bb
  have HC := hid (h.below bb)
  have hc0 := hid h.hc
  have ht0 := hid h.ht
  have HQ := hid (heap_below bb hq (blk_lt hq))
  have HU := hid (own_below hu bb)
  have hpz := h.hp.lt
  have hcz := blk_lt h.hc
  have hqz := blk_lt hq
  have htz := h.ht.lt
  have HN := hid (And.intro hn (And.intro hBu hnq))
  have b1 := blk9 HB.out
  obtain ⟨w0, hw0⟩ : ∃ w0, w0 = (w.alloc (.cells #[.bool z.need, .int .i64 z.key.dir, .string z.key.name, .int .i64 z.err, .int .i64 z.node.id, .int .i64 z.node.kind, .int .i64 z.node.mode, .string z.node.target, .slice ua z.used.length uc] 176)).alloc (.cells #[.int .i64 0, .int .i64 0, .int .i64 0, .string { data := #[] }] 40) := ⟨_, rfl⟩
  have hwz : w.heap.size + 2 ≤ w0.heap.size := by rw [hw0]; simp
  rw [← hw0] at HB HR HW HC HQ HU b1
  have HW0 := hid hw0
  unfold Ow.cv
  clear h hq hu hBu hnq hn hR bb hw0
  go_enter Tryz.func115, Tryz.ntmps115
  go_wp2_with fail
  rw [← HW0.out]
  go_loopw [9, 13] (fun _ v13 wr => ∃ i : Nat, i ≤ z.used.length ∧ v13 = .int .i64 i ∧ Hid (CAt wr B p (n + i) (useAll (z.used.take i) L) wh) ∧ Hid (Chg (CF B p) w0 wr)) (fun _ v13 _ => z.used.length - (intOf v13).toNat)
  case atStart => exact ⟨0, Nat.zero_le _, rfl, hid HC.out.hp, hid (Chg.refl _ _)⟩
  case round =>
    clear b1
    obtain ⟨i, hi, rfl, HP, HG⟩ := hrel
    by_cases hlt : i < z.used.length
    · have hk0 : (0 : Int) ≤ (i : Int) := by omega
      have hk1 : (i : Int) < (z.used.length : Int) := by omega
      obtain ⟨g, hag, hBg, hgz, hc1, hc2⟩ := own_loc HU.out (by omega)
      obtain ⟨k, hk⟩ : ∃ k, z.used[i]? = some k := ⟨_, List.getElem?_eq_getElem hlt⟩
      subst hag
      have hvr := ownsRow_chg HU.out fun j hj hl => HG.out.block j hl (fun hf => by have := hf.2; have := (own_lt HU.out hj).1; have := HN.out.2.1; omega)
      have bk := keys_at (Rd.own hvr) hk
      have HK := hid hk
      have hcr := heap_chg HG.out HC.out.hc HC.out.ncp
      have HCR := hid hcr
      have e10 := cell_of (heap_old hcr (.cells #[.int .i64 k.dir, .string k.name] 53)) 10 (.pointer (some ⟨p, 0, none⟩)) rfl
      have BX := blk2 (heap_new wr (.cells #[.int .i64 k.dir, .string k.name] 53))
      have KR : (wr.alloc (.cells #[.int .i64 k.dir, .string k.name] 53)).cell? ⟨c, 10, none⟩ = some (.pointer (some ⟨p, 0, none⟩)) ∧ (wr.alloc (.cells #[.int .i64 k.dir, .string k.name] 53)).cell? ⟨wr.heap.size, 0, none⟩ = some (.int .i64 k.dir) ∧ (wr.alloc (.cells #[.int .i64 k.dir, .string k.name] 53)).cell? ⟨wr.heap.size, 1, none⟩ = some (.string k.name) := ⟨e10.1, BX.1, BX.2.1⟩
      have KRd : (wr.alloc (.cells #[.int .i64 k.dir, .string k.name] 53)).drew.cell? ⟨c, 10, none⟩ = some (.pointer (some ⟨p, 0, none⟩)) ∧ (wr.alloc (.cells #[.int .i64 k.dir, .string k.name] 53)).drew.cell? ⟨wr.heap.size, 0, none⟩ = some (.int .i64 k.dir) ∧ (wr.alloc (.cells #[.int .i64 k.dir, .string k.name] 53)).drew.cell? ⟨wr.heap.size, 1, none⟩ = some (.string k.name) := KR
      have HPA := hid ((HP.out.below (bl1 wr (.cells #[.int .i64 k.dir, .string k.name] 53))).below (Below.refl _ _).drew)
      have hpr := HP.out.lt
      have hni : n + i < 4611686018427387904 := by have := HN.out.1; omega
      clear hvr hcr hk e10 BX
      go_wp2_with fail
      go_region_held3 (fun w' => w'.cell? ⟨c, 10, none⟩ = some (.pointer (some ⟨p, 0, none⟩)) ∧ w'.cell? ⟨wr.heap.size, 0, none⟩ = some (.int .i64 k.dir) ∧ w'.cell? ⟨wr.heap.size, 1, none⟩ = some (.string k.name))
        (first | with_reducible exact KR | with_reducible exact KRd | with_reducible exact K2)
        (first | (go_at_call 140; refine (c_use _ B p _ _ wh k HPA.out hni).mono ?_; rintro e w2 ⟨rfl, hp2, hc2⟩; (have HP2 := hid hp2); (have HC2 := hid hc2); (have q0 := cell_of (heap_chg (w := (wr.alloc (.cells #[.int .i64 k.dir, .string k.name] 53)).drew) hc2 (heap_old HCR.out _) HC.out.ncp) 10 (.pointer (some ⟨p, 0, none⟩)) rfl); (have q1 := blk2 (heap_chg (w := (wr.alloc (.cells #[.int .i64 k.dir, .string k.name] 53)).drew) hc2 (heap_new wr (.cells #[.int .i64 k.dir, .string k.name] 53)) (fun hf => by have := hf.2; omega))); (have K2 := And.intro q0.1 (And.intro q1.1 q1.2.1)); clear hp2 hc2 q0 q1))
      all_goals
        go_wp2
        refine ⟨⟨i + 1, by omega, by go_num, hid ?_, hid ?_⟩, by simp [intOf]; omega⟩
        · rw [List.take_add_one, HK.out, Option.toList_some, useAll_snoc]
          exact HP2.out
        · exact Chg.trans (Chg.trans HG.out (Chg.below (bl1 wr _).drew) (fun _ _ h => h) (fun _ _ h => h.elim)) HC2.out (fun _ _ h => h) (fun _ _ h => h)
    · have hie : i = z.used.length := by omega
      have hnl : ¬ ((i : Int) < (z.used.length : Int)) := by omega
      have HP1 := hid (show CAt wr B p (n + z.used.length) (useAll z.used L) wh by have h9 := HP.out; rw [hie, List.take_length] at h9; exact h9)
      have HB2 := hid (heap_chg HG.out HB.out (fun hf => by have := hf.2; omega))
      have HR2 := hid (heap_chg HG.out HR.out (fun hf => by have := hf.2; omega))
      have HQ2 := hid (heap_chg HG.out HQ.out HN.out.2.2)
      have hqw : q < w.heap.size := hqz
      have b1 := blk9 HB2.out
      have br := blk4 HR2.out
      have e10 := cell_of HQ2.out 10 (.int .i64 tn.err) rfl
      have hqb : q ≠ w.heap.size := by omega
      have hqr : q ≠ w.heap.size + 1 := by omega
      have hne1 : c ≠ q := heap_ty HC.out.hc HQ.out (by decide)
      have hne2 : t ≠ q := heap_ty HC.out.ht HQ.out (by decide)
      have HNE := hid (And.intro hne1 hne2)
      have HCT := hid (And.intro hcz htz)
      clear hne1 hne2
      cases hnd : z.need with
      | true =>
        rw [hnd] at b1
        have hnb := HB2.out
        rw [hnd] at hnb
        have HB3 := hid hnb
        clear hnb
        have q3 := cell_of HQ2.out 3 (.int .i64 tn.op.kind) rfl
        have q4 := cell_of HQ2.out 4 (.int .i64 tn.op.dir) rfl
        have q5 := cell_of HQ2.out 5 (.string tn.op.name) rfl
        have q6 := cell_of HQ2.out 6 (.int .i64 tn.op.to_) rfl
        have q7 := cell_of HQ2.out 7 (.string tn.op.new_) rfl
        have q8 := cell_of HQ2.out 8 (.int .i64 tn.op.mode) rfl
        have q9 := cell_of HQ2.out 9 (.string tn.op.target) rfl
        go_wp2_with fail
        refine gen_w (P := fun w' => Code.wp _ _ _ _ w') (S := fun w3 => Chg (fun j => j = q) wr w3 ∧ w3.heap[q]? = some (.cells (tnC { tn with op := lookOp z.key, err := z.err }) 90 (0, 0))) _ ⟨?_, ?_⟩ ?_
        · iterate 8 refine Chg.set1 ?_ _ _ rfl
          exact Chg.refl _ _
        · have h9 := (heap_set (heap_set (heap_set (heap_set (heap_set (heap_set (heap_set (heap_set HQ2.out 3 (.int .i64 1)) 4 (.int .i64 z.key.dir)) 5 (.string z.key.name)) 6 (.int .i64 0)) 7 (.string { data := #[] })) 8 (.int .i64 0)) 9 (.string { data := #[] })) 10 (.int .i64 z.err))
          simp only [tnC, List.setIfInBounds_toArray, List.set_cons_zero, List.set_cons_succ] at h9
          exact h9
        rintro w3 ⟨hc3, hq3⟩
        have hb3 := heap_chg hc3 HB3.out (fun e => hqb e.symm)
        have hr3 := heap_chg hc3 HR2.out (fun e => hqr e.symm)
        have HR3 := hid hr3
        have HC3 := hid hc3
        have HQ3 := hid hq3
        have HP3 := hid (HP1.out.chg hc3 (fun k hk e => HN.out.2.2 (e ▸ hk)))
        clear b1 br e10
        have b1 := blk9 hb3
        have br := blk4 hr3
        clear hb3 hr3 hc3 hq3
        go_region
        all_goals
          refine gen_w (P := fun w' => Exit.then _ _ _ _ w') (S := fun w4 => Chg (fun j => j = w.heap.size + 1) w3 w4 ∧ w4.heap[w.heap.size + 1]? = some (.cells #[.int .i64 z.node.id, .int .i64 z.node.kind, .int .i64 z.node.mode, .string z.node.target] 40 (0, 0))) _ ⟨?_, ?_⟩ ?_
          · refine Chg.drew ?_
            iterate 4 refine Chg.set1 ?_ _ _ rfl
            exact Chg.refl _ _
          · refine heap_drew ?_
            have h9 := (heap_set (heap_set (heap_set (heap_set HR3.out 0 (.int .i64 z.node.id)) 1 (.int .i64 z.node.kind)) 2 (.int .i64 z.node.mode)) 3 (.string z.node.target))
            simp only [List.setIfInBounds_toArray, List.set_cons_zero, List.set_cons_succ] at h9
            exact h9
          rintro w4 ⟨hc4, hr4⟩
          have HC4 := hid hc4
          have b4 := blk4 hr4
          clear b1 br hc4 hr4
          have HP4 := hid (HP3.out.chg HC4.out (fun k hk e => by have := hk.2; omega))
          have HCX := hid (show Chg (fun j => j = q ∨ CF B p j) w w4 from chg_new (chg_new (chg_new (Chg.below (HW.out.mono (Nat.le_refl _)) |>.mono (fun _ _ h => h.elim)) HG.out (fun j hj => .inl (.inr hj))) HC3.out (fun j hj => .inl (.inl hj))) HC4.out (by intro j hj; right; omega))
          have HQ4 := hid (heap_chg HC4.out HQ3.out (by omega))
          have HCA := hid (show CliAt w4 c t B p (n + z.used.length) s td (useAll z.used L) wh from ⟨heap_chg HCX.out hc0.out (fun hf => by rcases hf with hf | hf; exact HNE.out.1 hf; exact HC.out.ncp hf), ht0.out.chg HCX.out (fun hf => by rcases hf with hf | hf; exact HNE.out.2 hf; exact HC.out.ntp hf), HP4.out, HC.out.ncp, HC.out.ntp⟩)
          go_wp2
          all_goals (try simp only [Exit.inBlock, Exit.then])
          all_goals refine bodyPost_ret (v := .tuple #[z.node.v, .bool false]) (by simp [results, Tryz.results115, go_sem, b4, Nd.v]) rfl ⟨by first | rfl | simp, HCA.out, HQ4.out, HCX.out⟩
      | false =>
        rw [hnd] at b1
        have hnb := HB2.out
        rw [hnd] at hnb
        have HB3 := hid hnb
        clear hnb
        go_wp2_with fail
        refine gen_w (P := fun w' => Code.wp _ _ _ _ w') (S := fun w3 => Chg (fun j => j = q) wr w3 ∧ w3.heap[q]? = some (.cells (tnC { tn with err := z.err }) 90 (0, 0))) _ ⟨?_, ?_⟩ ?_
        · iterate 1 refine Chg.set1 ?_ _ _ rfl
          exact Chg.refl _ _
        · have h9 := (heap_set HQ2.out 10 (.int .i64 z.err))
          simp only [tnC, List.setIfInBounds_toArray, List.set_cons_zero, List.set_cons_succ] at h9
          exact h9
        rintro w3 ⟨hc3, hq3⟩
        have hb3 := heap_chg hc3 HB3.out (fun e => hqb e.symm)
        have hr3 := heap_chg hc3 HR2.out (fun e => hqr e.symm)
        have HR3 := hid hr3
        have HC3 := hid hc3
        have HQ3 := hid hq3
        have HP3 := hid (HP1.out.chg hc3 (fun k hk e => HN.out.2.2 (e ▸ hk)))
        clear b1 br e10
        have b1 := blk9 hb3
        have br := blk4 hr3
        clear hb3 hr3 hc3 hq3
        go_region
        all_goals
          refine gen_w (P := fun w' => Exit.then _ _ _ _ w') (S := fun w4 => Chg (fun j => j = w.heap.size + 1) w3 w4 ∧ w4.heap[w.heap.size + 1]? = some (.cells #[.int .i64 z.node.id, .int .i64 z.node.kind, .int .i64 z.node.mode, .string z.node.target] 40 (0, 0))) _ ⟨?_, ?_⟩ ?_
          · refine Chg.drew ?_
            iterate 4 refine Chg.set1 ?_ _ _ rfl
            exact Chg.refl _ _
          · refine heap_drew ?_
            have h9 := (heap_set (heap_set (heap_set (heap_set HR3.out 0 (.int .i64 z.node.id)) 1 (.int .i64 z.node.kind)) 2 (.int .i64 z.node.mode)) 3 (.string z.node.target))
            simp only [List.setIfInBounds_toArray, List.set_cons_zero, List.set_cons_succ] at h9
            exact h9
          rintro w4 ⟨hc4, hr4⟩
          have HC4 := hid hc4
          have b4 := blk4 hr4
          clear b1 br hc4 hr4
          have HP4 := hid (HP3.out.chg HC4.out (fun k hk e => by have := hk.2; omega))
          have HCX := hid (show Chg (fun j => j = q ∨ CF B p j) w w4 from chg_new (chg_new (chg_new (Chg.below (HW.out.mono (Nat.le_refl _)) |>.mono (fun _ _ h => h.elim)) HG.out (fun j hj => .inl (.inr hj))) HC3.out (fun j hj => .inl (.inl hj))) HC4.out (by intro j hj; right; omega))
          have HQ4 := hid (heap_chg HC4.out HQ3.out (by omega))
          have HCA := hid (show CliAt w4 c t B p (n + z.used.length) s td (useAll z.used L) wh from ⟨heap_chg HCX.out hc0.out (fun hf => by rcases hf with hf | hf; exact HNE.out.1 hf; exact HC.out.ncp hf), ht0.out.chg HCX.out (fun hf => by rcases hf with hf | hf; exact HNE.out.2 hf; exact HC.out.ntp hf), HP4.out, HC.out.ncp, HC.out.ntp⟩)
          go_wp2
          all_goals (try simp only [Exit.inBlock, Exit.then])
          all_goals refine bodyPost_ret (v := .tuple #[z.node.v, .bool (z.err == 0)]) (by simp [results, Tryz.results115, go_sem, b4, Nd.v]) rfl ⟨by first | rfl | simp, HCA.out, HQ4.out, HCX.out⟩
end Go.Proofs.YtbjibkjenleloaaGreatDoor

end
