/- Parts of a proof about the given program, in build order: WlkO, CalE, CalF, CalG. No condition. -/
import Derived.Test.YtbjibkjenleloaaGreatDoorMg11
import Derived.Test.YtbjibkjenleloaaGreatDoorMg12
import Derived.Test.YtbjibkjenleloaaGreatDoorMg16
section
namespace Go.Proofs.YtbjibkjenleloaaGreatDoor
set_option linter.unusedVariables false
set_option linter.unusedSimpArgs false
open Go.RowKit
attribute [local go_sem ↓] Go.wp_at_zero Go.wp_at_succ
attribute [local go_sem] run_store_complex run_store_float


theorem path_small {s : ByteArray} (h : pathErr s = 0) : (stepsL s).length ≤ 97 := by
  have h2 := steps_le s
  have h3 : s.size ≤ 96 := by
    unfold pathErr at h
    by_cases hb : 96 < s.size
    · rw [if_pos hb] at h; exact absurd h (by decide)
    · omega
  omega
set_option maxRecDepth 100000 in
set_option maxHeartbeats 4000000 in
theorem walk_any (w : World) (B p n : Nat) (L fresh : List En) (wh : Int → Bool) (fv : Value) (s : ByteArray) (follow : Bool) (links : Int) (hc : CAt w B p n L wh) (hf : Rd w fv fresh.length (ecs fresh)) (hs : pathErr s = 0) (hl0 : 0 ≤ links) (hl8 : links ≤ 8) :
    Calls Tryz.prog 136 #[.pointer (some ⟨p, 0, none⟩), fv, .string s, .bool follow, .int .i64 links] w (stepsPost w fresh L wh follow (stepsL s) (dirB s) links) := by
  have HR := hid (heap_new w (.cells #[.bool false, .int .i64 0, .string { data := #[] }, .int .i64 0, .int .i64 0, .int .i64 0, .int .i64 0, .string { data := #[] }, .slice none 0 0] 176))
  have HC := hid (hc.below (bl1 w (.cells #[.bool false, .int .i64 0, .string { data := #[] }, .int .i64 0, .int .i64 0, .int .i64 0, .int .i64 0, .string { data := #[] }, .slice none 0 0] 176)))
  have HF := hid (hf.below (bl1 w (.cells #[.bool false, .int .i64 0, .string { data := #[] }, .int .i64 0, .int .i64 0, .int .i64 0, .int .i64 0, .string { data := #[] }, .slice none 0 0] 176)))
  have HS := hid hs
  have HL := hid (And.intro hl0 hl8)
  have hw := bl1 w (.cells #[.bool false, .int .i64 0, .string { data := #[] }, .int .i64 0, .int .i64 0, .int .i64 0, .int .i64 0, .string { data := #[] }, .slice none 0 0] 176)
  have HB := hid hw
  clear hc hf hs hl0 hl8 hw
  go_enter Tryz.func136, Tryz.ntmps136
  go_wp2_with fail
  refine (split_any s _).mono ?_; rintro e w1 hx
  rcases hx.out with ⟨h1, _⟩ | ⟨h1, ⟨a, c, rfl, ho1⟩, hb1⟩
  · exact absurd HS.out h1
  have HO1 := hid ho1
  have HB1 := hid (HB.out.trans (hb1.mono HB.out.size))
  have HC1 := hid (HC.out.below hb1)
  have HF1 := hid (HF.out.below hb1)
  have HR1 := hid (heap_below hb1 HR.out (blk_lt HR.out))
  clear h1 hx ho1 hb1 HR HC HF HB
  go_wp2_with fail
  refine (steps_any w1 B p n L fresh wh fv _ (stepsL s) (dirB s) follow links HC1.out HF1.out (Rd.own HO1.out) (by have := path_small HS.out; omega) HL.out.1 HL.out.2).mono ?_
  rintro e w2 ⟨z, ua, uc, rfl, hwk, hu, hb2⟩
  have HWK := hid hwk
  have HU := hid hu
  have HB2 := hid (HB1.out.trans (hb2.mono HB1.out.size))
  have hr2 := heap_below hb2 HR1.out (blk_lt HR1.out)
  have HR2 := hid hr2
  have br := blk9 hr2
  have hz1 := HB1.out.size
  have HZ1 := hid hz1
  unfold Ow.cv
  clear hwk hu hb2 hr2 HC1 HF1 HR1 hz1
  go_wp2
  (try simp only [Exit.inBlock, Exit.then])
  refine gen_w (P := fun w' => bodyPost _ _ _ _ _ w') (S := fun w4 => Chg (fun j => j = w.heap.size) w2 w4 ∧ w4.heap[w.heap.size]? = some (.cells #[.bool z.need, .int .i64 z.key.dir, .string z.key.name, .int .i64 z.err, .int .i64 z.node.id, .int .i64 z.node.kind, .int .i64 z.node.mode, .string z.node.target, .slice ua z.used.length uc] 176 (0, 0))) _ ⟨?_, ?_⟩ ?_
  · iterate 9 refine Chg.set1 ?_ _ _ rfl
    exact Chg.refl _ _
  · have h9 := (heap_set (heap_set (heap_set (heap_set (heap_set (heap_set (heap_set (heap_set (heap_set HR2.out 0 (.bool z.need)) 1 (.int .i64 z.key.dir)) 2 (.string z.key.name)) 3 (.int .i64 z.err)) 4 (.int .i64 z.node.id)) 5 (.int .i64 z.node.kind)) 6 (.int .i64 z.node.mode)) 7 (.string z.node.target)) 8 (.slice ua z.used.length uc))
    simp only [List.setIfInBounds_toArray, List.set_cons_zero, List.set_cons_succ] at h9
    exact h9
  rintro w4 ⟨hc4, hr4⟩
  have b4 := blk9 hr4
  clear br
  refine bodyPost_ret (v := z.cv ua uc) (by clear hc4 hr4; simp [results, Tryz.results136, go_sem, b4, Ow.cv]) rfl ⟨z, ua, uc, rfl, HWK.out, ?_, ?_⟩
  · exact ownsRow_mono (ownsRow_chg HU.out fun j hj hl => hc4.block j hl fun e1 => by subst e1; exact own_ne HU.out HR2.out (by decide) hj) HZ1.out
  · exact HB2.out.trans (hc4.toBelow HB2.out.size fun i hi hf => by omega)
end Go.Proofs.YtbjibkjenleloaaGreatDoor

end

section
namespace Go.Proofs.YtbjibkjenleloaaGreatDoor
set_option linter.unusedVariables false
set_option linter.unusedSimpArgs false
open Go.RowKit
attribute [local go_sem ↓] Go.wp_at_zero Go.wp_at_succ
attribute [local go_sem] run_store_complex run_store_float


/-- a turn -/
structure Tn where
  fa : Option Addr
  fl : Nat
  fc : Nat
  whole : Bool
  dir : Int
  op : Op7
  err : Int
  nd : Nd
  na : Option Addr
  nl : Nat
  nc : Nat
  ver : Int
def tnC (s : Tn) : Array Value := #[.slice s.fa s.fl s.fc, .bool s.whole, .int .i64 s.dir, .int .i64 s.op.kind, .int .i64 s.op.dir, .string s.op.name, .int .i64 s.op.to_, .string s.op.new_, .int .i64 s.op.mode, .string s.op.target, .int .i64 s.err, .int .i64 s.nd.id, .int .i64 s.nd.kind, .int .i64 s.nd.mode, .string s.nd.target, .slice s.na s.nl s.nc, .int .i64 s.ver]
def useAll (U : List Ky) (L : List En) : List En := U.foldl (fun L k => useL k L) L
theorem useAll_snoc (U : List Ky) (k : Ky) (L : List En) : useAll (U ++ [k]) L = useL k (useAll U L) := by simp [useAll]
def lookOp (k : Ky) : Op7 := ⟨1, k.dir, k.name, 0, ByteArray.empty, 0, ByteArray.empty⟩
theorem CliAt.chg {w w' : World} {c t B p n n' : Nat} {s : Cl} {td : Td} {L L' : List En} {wh wh' : Int → Bool} {F : Nat → Prop} (h : CliAt w c t B p n s td L wh) (hc : Chg F w w') (h1 : ¬ F c) (h2 : ¬ F t) (hp : CAt w' B p n' L' wh') : CliAt w' c t B p n' s td L' wh' :=
  ⟨heap_chg hc h.hc h1, h.ht.chg hc h2, hp, h.ncp, h.ntp⟩
set_option maxRecDepth 100000 in
set_option maxHeartbeats 4000000 in
theorem cli_came (w : World) (c t B p n q Bu : Nat) (s : Cl) (td : Td) (L : List En) (wh : Int → Bool) (tn : Tn) (z : Ow) (ua : Option Addr) (uc : Nat) (h : CliAt w c t B p n s td L wh) (hq : w.heap[q]? = some (.cells (tnC tn) 90 (0, 0)))
    (hu : w.ownsRow Bu 53 2 (.slice ua z.used.length uc) z.used.length (kyc z.used)) (hBu : p < Bu) (hnq : ¬ CF B p q) (hn : n + z.used.length < 4611686018427387904) (hlu : z.used.length ≤ 100000) :
    Calls Tryz.prog 115 #[.pointer (some ⟨c, 0, none⟩), .pointer (some ⟨q, 0, none⟩), z.cv ua uc] w fun e w' => e = .returned (.tuple #[z.node.v, .bool (!z.need && z.err == 0)]) ∧ CliAt w' c t B p (n + z.used.length) s td (useAll z.used L) wh ∧
      w'.heap[q]? = some (.cells (tnC { tn with op := if z.need then lookOp z.key else tn.op, err := z.err }) 90 (0, 0)) ∧ Chg (fun j => j = q ∨ CF B p j) w w' := by
  have HB := hid (heap_old (heap_new w (.cells #[.bool z.need, .int .i64 z.key.dir, .string z.key.name, .int .i64 z.err, .int .i64 z.node.id, .int .i64 z.node.kind, .int .i64 z.node.mode, .string z.node.target, .slice ua z.used.length uc] 176)) (.cells #[.int .i64 0, .int .i64 0, .int .i64 0, .string { data := #[] }] 40))
  have hR := heap_new (w.alloc (.cells #[.bool z.need, .int .i64 z.key.dir, .string z.key.name, .int .i64 z.err, .int .i64 z.node.id, .int .i64 z.node.kind, .int .i64 z.node.mode, .string z.node.target, .slice ua z.used.length uc] 176)) (.cells #[.int .i64 0, .int .i64 0, .int .i64 0, .string { data := #[] }] 40)
  rw [World.size_alloc] at hR
  have HR := hid hR
  have bb := bl2 w (.cells #[.bool z.need, .int .i64 z.key.dir, .string z.key.name, .int .i64 z.err, .int .i64 z.node.id, .int .i64 z.node.kind, .int .i64 z.node.mode, .string z.node.target, .slice ua z.used.length uc] 176) (.cells #[.int .i64 0, .int .i64 0, .int .i64 0, .string { data := #[] }] 40)
  have HW := hid bb
  have HC := hid (h.below bb)
  have hc0 := hid h.hc
  have ht0 := hid h.ht
  have HQ := hid (heap_below bb hq (blk_lt hq))
  have HU := hid (own_below hu bb)
  have hpz := h.hp.lt
  have hcz := blk_lt h.hc
  have hqz := blk_lt hq
  have htz := h.ht.lt
  have HN := hid (And.intro hn (And.intro hBu hnq))
  have b1 := blk9 HB.out
  obtain ⟨w0, hw0⟩ : ∃ w0, w0 = (w.alloc (.cells #[.bool z.need, .int .i64 z.key.dir, .string z.key.name, .int .i64 z.err, .int .i64 z.node.id, .int .i64 z.node.kind, .int .i64 z.node.mode, .string z.node.target, .slice ua z.used.length uc] 176)).alloc (.cells #[.int .i64 0, .int .i64 0, .int .i64 0, .string { data := #[] }] 40) := ⟨_, rfl⟩
  have hwz : w.heap.size + 2 ≤ w0.heap.size := by rw [hw0]; simp
  rw [← hw0] at HB HR HW HC HQ HU b1
  have HW0 := hid hw0
  unfold Ow.cv
  clear h hq hu hBu hnq hn hR bb hw0
  go_enter Tryz.func115, Tryz.ntmps115
  go_wp2_with fail
  rw [← HW0.out]
  go_loopw [9, 13] (fun _ v13 wr => ∃ i : Nat, i ≤ z.used.length ∧ v13 = .int .i64 i ∧ Hid (CAt wr B p (n + i) (useAll (z.used.take i) L) wh) ∧ Hid (Chg (CF B p) w0 wr)) (fun _ v13 _ => z.used.length - (intOf v13).toNat)
  case atStart => exact ⟨0, Nat.zero_le _, rfl, hid HC.out.hp, hid (Chg.refl _ _)⟩
  case round =>
    clear b1
    obtain ⟨i, hi, rfl, HP, HG⟩ := hrel
    by_cases hlt : i < z.used.length
    · have hk0 : (0 : Int) ≤ (i : Int) := by omega
      have hk1 : (i : Int) < (z.used.length : Int) := by omega
      obtain ⟨g, hag, hBg, hgz, hc1, hc2⟩ := own_loc HU.out (by omega)
      obtain ⟨k, hk⟩ : ∃ k, z.used[i]? = some k := ⟨_, List.getElem?_eq_getElem hlt⟩
      subst hag
      have hvr := ownsRow_chg HU.out fun j hj hl => HG.out.block j hl (fun hf => by have := hf.2; have := (own_lt HU.out hj).1; have := HN.out.2.1; omega)
      have bk := keys_at (Rd.own hvr) hk
      have HK := hid hk
      have hcr := heap_chg HG.out HC.out.hc HC.out.ncp
      have HCR := hid hcr
      have e10 := cell_of (heap_old hcr (.cells #[.int .i64 k.dir, .string k.name] 53)) 10 (.pointer (some ⟨p, 0, none⟩)) rfl
      have BX := blk2 (heap_new wr (.cells #[.int .i64 k.dir, .string k.name] 53))
      have KR : (wr.alloc (.cells #[.int .i64 k.dir, .string k.name] 53)).cell? ⟨c, 10, none⟩ = some (.pointer (some ⟨p, 0, none⟩)) ∧ (wr.alloc (.cells #[.int .i64 k.dir, .string k.name] 53)).cell? ⟨wr.heap.size, 0, none⟩ = some (.int .i64 k.dir) ∧ (wr.alloc (.cells #[.int .i64 k.dir, .string k.name] 53)).cell? ⟨wr.heap.size, 1, none⟩ = some (.string k.name) := ⟨e10.1, BX.1, BX.2.1⟩
      have KRd : (wr.alloc (.cells #[.int .i64 k.dir, .string k.name] 53)).drew.cell? ⟨c, 10, none⟩ = some (.pointer (some ⟨p, 0, none⟩)) ∧ (wr.alloc (.cells #[.int .i64 k.dir, .string k.name] 53)).drew.cell? ⟨wr.heap.size, 0, none⟩ = some (.int .i64 k.dir) ∧ (wr.alloc (.cells #[.int .i64 k.dir, .string k.name] 53)).drew.cell? ⟨wr.heap.size, 1, none⟩ = some (.string k.name) := KR
      have HPA := hid ((HP.out.below (bl1 wr (.cells #[.int .i64 k.dir, .string k.name] 53))).below (Below.refl _ _).drew)
      have hpr := HP.out.lt
      have hni : n + i < 4611686018427387904 := by have := HN.out.1; omega
      clear hvr hcr hk e10 BX
      go_wp2_with fail
      go_region_held3 (fun w' => w'.cell? ⟨c, 10, none⟩ = some (.pointer (some ⟨p, 0, none⟩)) ∧ w'.cell? ⟨wr.heap.size, 0, none⟩ = some (.int .i64 k.dir) ∧ w'.cell? ⟨wr.heap.size, 1, none⟩ = some (.string k.name))
        (first | with_reducible exact KR | with_reducible exact KRd | with_reducible exact K2)
        (first | (go_at_call 140; refine (c_use _ B p _ _ wh k HPA.out hni).mono ?_; rintro e w2 ⟨rfl, hp2, hc2⟩; (have HP2 := hid hp2); (have HC2 := hid hc2); (have q0 := cell_of (heap_chg (w := (wr.alloc (.cells #[.int .i64 k.dir, .string k.name] 53)).drew) hc2 (heap_old HCR.out _) HC.out.ncp) 10 (.pointer (some ⟨p, 0, none⟩)) rfl); (have q1 := blk2 (heap_chg (w := (wr.alloc (.cells #[.int .i64 k.dir, .string k.name] 53)).drew) hc2 (heap_new wr (.cells #[.int .i64 k.dir, .string k.name] 53)) (fun hf => by have := hf.2; omega))); (have K2 := And.intro q0.1 (And.intro q1.1 q1.2.1)); clear hp2 hc2 q0 q1))
      all_goals
        go_wp2
        refine ⟨⟨i + 1, by omega, by go_num, hid ?_, hid ?_⟩, by simp [intOf]; omega⟩
        · rw [List.take_add_one, HK.out, Option.toList_some, useAll_snoc]
          exact HP2.out
        · exact Chg.trans (Chg.trans HG.out (Chg.below (bl1 wr _).drew) (fun _ _ h => h) (fun _ _ h => h.elim)) HC2.out (fun _ _ h => h) (fun _ _ h => h)
    · have hie : i = z.used.length := by omega
      have hnl : ¬ ((i : Int) < (z.used.length : Int)) := by omega
      have HP1 := hid (show CAt wr B p (n + z.used.length) (useAll z.used L) wh by have h9 := HP.out; rw [hie, List.take_length] at h9; exact h9)
      have HB2 := hid (heap_chg HG.out HB.out (fun hf => by have := hf.2; omega))
      have HR2 := hid (heap_chg HG.out HR.out (fun hf => by have := hf.2; omega))
      have HQ2 := hid (heap_chg HG.out HQ.out HN.out.2.2)
      have hqw : q < w.heap.size := hqz
      have b1 := blk9 HB2.out
      have br := blk4 HR2.out
      have e10 := cell_of HQ2.out 10 (.int .i64 tn.err) rfl
      have hqb : q ≠ w.heap.size := by omega
      have hqr : q ≠ w.heap.size + 1 := by omega
      have hne1 : c ≠ q := heap_ty HC.out.hc HQ.out (by decide)
      have hne2 : t ≠ q := heap_ty HC.out.ht HQ.out (by decide)
      have HNE := hid (And.intro hne1 hne2)
      have HCT := hid (And.intro hcz htz)
      clear hne1 hne2
      cases hnd : z.need with
      | true =>
        rw [hnd] at b1
        have hnb := HB2.out
        rw [hnd] at hnb
        have HB3 := hid hnb
        clear hnb
        have q3 := cell_of HQ2.out 3 (.int .i64 tn.op.kind) rfl
        have q4 := cell_of HQ2.out 4 (.int .i64 tn.op.dir) rfl
        have q5 := cell_of HQ2.out 5 (.string tn.op.name) rfl
        have q6 := cell_of HQ2.out 6 (.int .i64 tn.op.to_) rfl
        have q7 := cell_of HQ2.out 7 (.string tn.op.new_) rfl
        have q8 := cell_of HQ2.out 8 (.int .i64 tn.op.mode) rfl
        have q9 := cell_of HQ2.out 9 (.string tn.op.target) rfl
        go_wp2_with fail
        refine gen_w (P := fun w' => Code.wp _ _ _ _ w') (S := fun w3 => Chg (fun j => j = q) wr w3 ∧ w3.heap[q]? = some (.cells (tnC { tn with op := lookOp z.key, err := z.err }) 90 (0, 0))) _ ⟨?_, ?_⟩ ?_
        · iterate 8 refine Chg.set1 ?_ _ _ rfl
          exact Chg.refl _ _
        · have h9 := (heap_set (heap_set (heap_set (heap_set (heap_set (heap_set (heap_set (heap_set HQ2.out 3 (.int .i64 1)) 4 (.int .i64 z.key.dir)) 5 (.string z.key.name)) 6 (.int .i64 0)) 7 (.string { data := #[] })) 8 (.int .i64 0)) 9 (.string { data := #[] })) 10 (.int .i64 z.err))
          simp only [tnC, List.setIfInBounds_toArray, List.set_cons_zero, List.set_cons_succ] at h9
          exact h9
        rintro w3 ⟨hc3, hq3⟩
        have hb3 := heap_chg hc3 HB3.out (fun e => hqb e.symm)
        have hr3 := heap_chg hc3 HR2.out (fun e => hqr e.symm)
        have HR3 := hid hr3
        have HC3 := hid hc3
        have HQ3 := hid hq3
        have HP3 := hid (HP1.out.chg hc3 (fun k hk e => HN.out.2.2 (e ▸ hk)))
        clear b1 br e10
        have b1 := blk9 hb3
        have br := blk4 hr3
        clear hb3 hr3 hc3 hq3
        go_region
        all_goals
          refine gen_w (P := fun w' => Exit.then _ _ _ _ w') (S := fun w4 => Chg (fun j => j = w.heap.size + 1) w3 w4 ∧ w4.heap[w.heap.size + 1]? = some (.cells #[.int .i64 z.node.id, .int .i64 z.node.kind, .int .i64 z.node.mode, .string z.node.target] 40 (0, 0))) _ ⟨?_, ?_⟩ ?_
          · refine Chg.drew ?_
            iterate 4 refine Chg.set1 ?_ _ _ rfl
            exact Chg.refl _ _
          · refine heap_drew ?_
            have h9 := (heap_set (heap_set (heap_set (heap_set HR3.out 0 (.int .i64 z.node.id)) 1 (.int .i64 z.node.kind)) 2 (.int .i64 z.node.mode)) 3 (.string z.node.target))
            simp only [List.setIfInBounds_toArray, List.set_cons_zero, List.set_cons_succ] at h9
            exact h9
          rintro w4 ⟨hc4, hr4⟩
          have HC4 := hid hc4
          have b4 := blk4 hr4
          clear b1 br hc4 hr4
          have HP4 := hid (HP3.out.chg HC4.out (fun k hk e => by have := hk.2; omega))
          have HCX := hid (show Chg (fun j => j = q ∨ CF B p j) w w4 from chg_new (chg_new (chg_new (Chg.below (HW.out.mono (Nat.le_refl _)) |>.mono (fun _ _ h => h.elim)) HG.out (fun j hj => .inl (.inr hj))) HC3.out (fun j hj => .inl (.inl hj))) HC4.out (by intro j hj; right; omega))
          have HQ4 := hid (heap_chg HC4.out HQ3.out (by omega))
          have HCA := hid (show CliAt w4 c t B p (n + z.used.length) s td (useAll z.used L) wh from ⟨heap_chg HCX.out hc0.out (fun hf => by rcases hf with hf | hf; exact HNE.out.1 hf; exact HC.out.ncp hf), ht0.out.chg HCX.out (fun hf => by rcases hf with hf | hf; exact HNE.out.2 hf; exact HC.out.ntp hf), HP4.out, HC.out.ncp, HC.out.ntp⟩)
          go_wp2
          all_goals (try simp only [Exit.inBlock, Exit.then])
          all_goals refine bodyPost_ret (v := .tuple #[z.node.v, .bool false]) (by simp [results, Tryz.results115, go_sem, b4, Nd.v]) rfl ⟨by first | rfl | simp, HCA.out, HQ4.out, HCX.out⟩
      | false =>
        rw [hnd] at b1
        have hnb := HB2.out
        rw [hnd] at hnb
        have HB3 := hid hnb
        clear hnb
        go_wp2_with fail
        refine gen_w (P := fun w' => Code.wp _ _ _ _ w') (S := fun w3 => Chg (fun j => j = q) wr w3 ∧ w3.heap[q]? = some (.cells (tnC { tn with err := z.err }) 90 (0, 0))) _ ⟨?_, ?_⟩ ?_
        · iterate 1 refine Chg.set1 ?_ _ _ rfl
          exact Chg.refl _ _
        · have h9 := (heap_set HQ2.out 10 (.int .i64 z.err))
          simp only [tnC, List.setIfInBounds_toArray, List.set_cons_zero, List.set_cons_succ] at h9
          exact h9
        rintro w3 ⟨hc3, hq3⟩
        have hb3 := heap_chg hc3 HB3.out (fun e => hqb e.symm)
        have hr3 := heap_chg hc3 HR2.out (fun e => hqr e.symm)
        have HR3 := hid hr3
        have HC3 := hid hc3
        have HQ3 := hid hq3
        have HP3 := hid (HP1.out.chg hc3 (fun k hk e => HN.out.2.2 (e ▸ hk)))
        clear b1 br e10
        have b1 := blk9 hb3
        have br := blk4 hr3
        clear hb3 hr3 hc3 hq3
        go_region
        all_goals
          refine gen_w (P := fun w' => Exit.then _ _ _ _ w') (S := fun w4 => Chg (fun j => j = w.heap.size + 1) w3 w4 ∧ w4.heap[w.heap.size + 1]? = some (.cells #[.int .i64 z.node.id, .int .i64 z.node.kind, .int .i64 z.node.mode, .string z.node.target] 40 (0, 0))) _ ⟨?_, ?_⟩ ?_
          · refine Chg.drew ?_
            iterate 4 refine Chg.set1 ?_ _ _ rfl
            exact Chg.refl _ _
          · refine heap_drew ?_
            have h9 := (heap_set (heap_set (heap_set (heap_set HR3.out 0 (.int .i64 z.node.id)) 1 (.int .i64 z.node.kind)) 2 (.int .i64 z.node.mode)) 3 (.string z.node.target))
            simp only [List.setIfInBounds_toArray, List.set_cons_zero, List.set_cons_succ] at h9
            exact h9
          rintro w4 ⟨hc4, hr4⟩
          have HC4 := hid hc4
          have b4 := blk4 hr4
          clear b1 br hc4 hr4
          have HP4 := hid (HP3.out.chg HC4.out (fun k hk e => by have := hk.2; omega))
          have HCX := hid (show Chg (fun j => j = q ∨ CF B p j) w w4 from chg_new (chg_new (chg_new (Chg.below (HW.out.mono (Nat.le_refl _)) |>.mono (fun _ _ h => h.elim)) HG.out (fun j hj => .inl (.inr hj))) HC3.out (fun j hj => .inl (.inl hj))) HC4.out (by intro j hj; right; omega))
          have HQ4 := hid (heap_chg HC4.out HQ3.out (by omega))
          have HCA := hid (show CliAt w4 c t B p (n + z.used.length) s td (useAll z.used L) wh from ⟨heap_chg HCX.out hc0.out (fun hf => by rcases hf with hf | hf; exact HNE.out.1 hf; exact HC.out.ncp hf), ht0.out.chg HCX.out (fun hf => by rcases hf with hf | hf; exact HNE.out.2 hf; exact HC.out.ntp hf), HP4.out, HC.out.ncp, HC.out.ntp⟩)
          go_wp2
          all_goals (try simp only [Exit.inBlock, Exit.then])
          all_goals refine bodyPost_ret (v := .tuple #[z.node.v, .bool (z.err == 0)]) (by simp [results, Tryz.results115, go_sem, b4, Nd.v]) rfl ⟨by first | rfl | simp, HCA.out, HQ4.out, HCX.out⟩
end Go.Proofs.YtbjibkjenleloaaGreatDoor

end

section
namespace Go.Proofs.YtbjibkjenleloaaGreatDoor
set_option linter.unusedVariables false
set_option linter.unusedSimpArgs false
open Go.RowKit
attribute [local go_sem ↓] Go.wp_at_zero Go.wp_at_succ
attribute [local go_sem] run_store_complex run_store_float


theorem wk_used {fresh L : List En} {wh : Int → Bool} {follow : Bool} {A : List Nd} {y : Nd} {T : List ByteArray} {dir : Bool} {k : Int} {U : List Ky} {z : Ow} (h : Wk fresh L wh follow A y T dir k U z) : z.used.length ≤ U.length + T.length + 100 * k.toNat := by
  induction h with
  | wrong | done => simp
  | notdir | need => simp; omega
  | dot _ _ _ _ _ _ _ _ _ _ _ ih => simp; omega
  | upRoot _ _ _ _ _ _ _ _ _ _ ih => simp; omega
  | up _ _ _ _ _ _ _ _ _ _ _ _ ih => simp; omega
  | neg | loop | bad => simp; omega
  | go _ _ _ _ _ _ _ _ _ _ _ _ _ _ _ _ ih => simp at ih ⊢; omega
  | link _ _ _ _ _ _ _ _ _ _ _ _ _ _ _ hk ht _ _ ih => have := tgt_small ht; simp at ih ⊢; omega
  | linkRoot _ _ _ _ _ _ _ _ _ _ _ _ _ _ _ hk ht _ _ ih => have := tgt_small ht; simp at ih ⊢; omega
set_option maxRecDepth 100000 in
set_option maxHeartbeats 4000000 in
theorem cli_read (w : World) (c t B p n q : Nat) (s : Cl) (td : Td) (L F : List En) (wh : Int → Bool) (tn : Tn) (follow : Bool) (h : CliAt w c t B p n s td L wh) (hq : w.heap[q]? = some (.cells (tnC tn) 90 (0, 0))) (hnq : ¬ CF B p q)
    (hF : Rd w (.slice tn.fa tn.fl tn.fc) F.length (ecs F)) (hs : pathErr s.cp = 0) (hl0 : 0 ≤ s.cf.li) (hl8 : s.cf.li ≤ 8) (hn : n < 1000000000000) :
    Calls Tryz.prog 113 #[.pointer (some ⟨c, 0, none⟩), .pointer (some ⟨q, 0, none⟩), .bool follow] w fun e w' => ∃ z, Wk F L wh follow [] rootNd (stepsL s.cp) (dirB s.cp) s.cf.li [] z ∧ e = .returned (.tuple #[z.node.v, .bool (!z.need && z.err == 0)]) ∧ CliAt w' c t B p (n + z.used.length) s td (useAll z.used L) wh ∧
      w'.heap[q]? = some (.cells (tnC { tn with op := if z.need then lookOp z.key else tn.op, err := z.err }) 90 (0, 0)) ∧ Chg (fun j => j = q ∨ CF B p j) w w' := by
  have HR := hid (heap_new w (.cells #[.int .i64 0, .int .i64 0, .int .i64 0, .string { data := #[] }] 40))
  have bb := bl1 w (.cells #[.int .i64 0, .int .i64 0, .int .i64 0, .string { data := #[] }] 40)
  have HW := hid bb
  have HC := hid (h.below bb)
  have hqa := heap_below bb hq (blk_lt hq)
  have HQ := hid hqa
  have HF := hid (hF.below bb)
  have hpz := h.hp.lt
  have hcz := blk_lt h.hc
  have hqz := blk_lt hq
  have htz := h.ht.lt
  have HN := hid (And.intro hn (And.intro hnq (And.intro hs (And.intro hl0 hl8))))
  have KR : (w.alloc (.cells #[.int .i64 0, .int .i64 0, .int .i64 0, .string { data := #[] }] 40)).cell? ⟨c, 10, none⟩ = some (.pointer (some ⟨p, 0, none⟩)) ∧ (w.alloc (.cells #[.int .i64 0, .int .i64 0, .int .i64 0, .string { data := #[] }] 40)).cell? ⟨c, 14, none⟩ = some (.string s.cp) ∧ (w.alloc (.cells #[.int .i64 0, .int .i64 0, .int .i64 0, .string { data := #[] }] 40)).cell? ⟨c, 5, none⟩ = some (.int .i64 s.cf.li) ∧ (w.alloc (.cells #[.int .i64 0, .int .i64 0, .int .i64 0, .string { data := #[] }] 40)).cell? ⟨q, 0, none⟩ = some (.slice tn.fa tn.fl tn.fc) := ⟨(cell_of HC.out.hc 10 (.pointer (some ⟨p, 0, none⟩)) rfl).1, (cell_of HC.out.hc 14 (.string s.cp) rfl).1, (cell_of HC.out.hc 5 (.int .i64 s.cf.li) rfl).1, (cell_of HQ.out 0 (.slice tn.fa tn.fl tn.fc) rfl).1⟩
  have KRd : (w.alloc (.cells #[.int .i64 0, .int .i64 0, .int .i64 0, .string { data := #[] }] 40)).drew.cell? ⟨c, 10, none⟩ = some (.pointer (some ⟨p, 0, none⟩)) ∧ (w.alloc (.cells #[.int .i64 0, .int .i64 0, .int .i64 0, .string { data := #[] }] 40)).drew.cell? ⟨c, 14, none⟩ = some (.string s.cp) ∧ (w.alloc (.cells #[.int .i64 0, .int .i64 0, .int .i64 0, .string { data := #[] }] 40)).drew.cell? ⟨c, 5, none⟩ = some (.int .i64 s.cf.li) ∧ (w.alloc (.cells #[.int .i64 0, .int .i64 0, .int .i64 0, .string { data := #[] }] 40)).drew.cell? ⟨q, 0, none⟩ = some (.slice tn.fa tn.fl tn.fc) := KR
  clear h hq hnq hF hs hl0 hl8 hn bb hqa
  go_enter Tryz.func113, Tryz.ntmps113
  go_wp2_with fail
  obtain ⟨w0, hw0⟩ : ∃ w0, w0 = w.alloc (.cells #[.int .i64 0, .int .i64 0, .int .i64 0, .string { data := #[] }] 40) := ⟨_, rfl⟩
  have hwz : w.heap.size + 1 = w0.heap.size := by rw [hw0]; simp
  rw [← hw0] at HR HW HC HQ HF KR KRd ⊢
  have b0 := blk4 HR.out
  clear hw0
  go_region_held3 (fun w' => w'.cell? ⟨c, 10, none⟩ = some (.pointer (some ⟨p, 0, none⟩)) ∧ w'.cell? ⟨c, 14, none⟩ = some (.string s.cp) ∧ w'.cell? ⟨c, 5, none⟩ = some (.int .i64 s.cf.li) ∧ w'.cell? ⟨q, 0, none⟩ = some (.slice tn.fa tn.fl tn.fc))
    (first | with_reducible exact KR | with_reducible exact KRd | with_reducible exact K2 | with_reducible exact K3 | exact KS _ KC.out)
    (first
      | (go_at_call 136; refine (walk_any _ B p n L F wh _ s.cp follow s.cf.li HC.out.drew.hp HF.out.drew HN.out.2.2.1 HN.out.2.2.2.1 HN.out.2.2.2.2).mono ?_; rintro e w2 ⟨z, ua, uc, rfl, hwk, hu2, hb2⟩; (have HWK := hid hwk); (have HU2 := hid hu2); (have HB2 := hid hb2); (have HC2 := hid (CliAt.below HC.out.drew hb2)); (have HQ2 := hid (heap_below (w := w0.drew) hb2 HQ.out (blk_lt HQ.out))); (have HR2 := hid (heap_below (w := w0.drew) hb2 HR.out (blk_lt HR.out))); (have K2 : w2.cell? ⟨c, 10, none⟩ = some (.pointer (some ⟨p, 0, none⟩)) ∧ w2.cell? ⟨c, 14, none⟩ = some (.string s.cp) ∧ w2.cell? ⟨c, 5, none⟩ = some (.int .i64 s.cf.li) ∧ w2.cell? ⟨q, 0, none⟩ = some (.slice tn.fa tn.fl tn.fc) := ⟨(cell_of HC2.out.hc 10 (.pointer (some ⟨p, 0, none⟩)) rfl).1, (cell_of HC2.out.hc 14 (.string s.cp) rfl).1, (cell_of HC2.out.hc 5 (.int .i64 s.cf.li) rfl).1, (cell_of HQ2.out 0 (.slice tn.fa tn.fl tn.fc) rfl).1⟩); clear hwk hu2 hb2)
      | (go_at_call 115; refine (cli_came _ c t B p n q w0.drew.heap.size s td L wh tn z ua uc HC2.out HQ2.out HU2.out (by show p < w0.heap.size; omega) HN.out.2.1 (by have := wk_used HWK.out; have := path_small HN.out.2.2.1; have := HN.out.1; have := HN.out.2.2.2.2; simp at *; omega) (by have := wk_used HWK.out; have := path_small HN.out.2.2.1; have := HN.out.2.2.2.2; simp at *; omega)).mono ?_; rintro e w3 ⟨rfl, hc3, hq3, hg3⟩; (have HC3 := hid hc3); (have HQ3 := hid hq3); (have HG3 := hid hg3); (have hr3 := heap_chg hg3 HR2.out (fun hf => by rcases hf with hf | hf; (have := hwz; omega); (have := hf.2; omega))); (have HR3 := hid hr3); (have br := blk4 hr3); (have K3 : w3.cell? ⟨c, 10, none⟩ = some (.pointer (some ⟨p, 0, none⟩)) ∧ w3.cell? ⟨c, 14, none⟩ = some (.string s.cp) ∧ w3.cell? ⟨c, 5, none⟩ = some (.int .i64 s.cf.li) ∧ w3.cell? ⟨q, 0, none⟩ = some (.slice tn.fa tn.fl tn.fc) := ⟨(cell_of hc3.hc 10 (.pointer (some ⟨p, 0, none⟩)) rfl).1, (cell_of hc3.hc 14 (.string s.cp) rfl).1, (cell_of hc3.hc 5 (.int .i64 s.cf.li) rfl).1, (cell_of hq3 0 (.slice tn.fa tn.fl tn.fc) rfl).1⟩); (have KS : ∀ W : World, Chg (fun j => j = w.heap.size) w3 W → W.cell? ⟨c, 10, none⟩ = some (.pointer (some ⟨p, 0, none⟩)) ∧ W.cell? ⟨c, 14, none⟩ = some (.string s.cp) ∧ W.cell? ⟨c, 5, none⟩ = some (.int .i64 s.cf.li) ∧ W.cell? ⟨q, 0, none⟩ = some (.slice tn.fa tn.fl tn.fc) := fun W hW => ⟨(cell_of (heap_chg hW HC3.out.hc (by omega)) 10 (.pointer (some ⟨p, 0, none⟩)) rfl).1, (cell_of (heap_chg hW HC3.out.hc (by omega)) 14 (.string s.cp) rfl).1, (cell_of (heap_chg hW HC3.out.hc (by omega)) 5 (.int .i64 s.cf.li) rfl).1, (cell_of (heap_chg hW HQ3.out (by omega)) 0 (.slice tn.fa tn.fl tn.fc) rfl).1⟩); (have KC := hid (show Chg (fun j => j = w.heap.size) w3 (((((w3.setCell ⟨w.heap.size, 0, none⟩ (.int .i64 z.node.id)).setCell ⟨w.heap.size, 1, none⟩ (.int .i64 z.node.kind)).setCell ⟨w.heap.size, 2, none⟩ (.int .i64 z.node.mode)).setCell ⟨w.heap.size, 3, none⟩ (.string z.node.target))) from (by (iterate 4 refine Chg.set1 ?_ _ _ rfl); exact Chg.refl _ _))); unfold Nd.v; clear hc3 hq3 hg3 hr3 b0))
  all_goals
    refine gen_w (P := fun w' => Exit.then _ _ _ _ w') (S := fun w4 => Chg (fun j => j = w.heap.size) w3 w4 ∧ w4.heap[w.heap.size]? = some (.cells #[.int .i64 z.node.id, .int .i64 z.node.kind, .int .i64 z.node.mode, .string z.node.target] 40 (0, 0))) _ ⟨?_, ?_⟩ ?_
    · first | exact KC.out | exact Chg.drew KC.out
    · (try refine heap_drew ?_)
      have h9 := (heap_set (heap_set (heap_set (heap_set HR3.out 0 (.int .i64 z.node.id)) 1 (.int .i64 z.node.kind)) 2 (.int .i64 z.node.mode)) 3 (.string z.node.target))
      simp only [List.setIfInBounds_toArray, List.set_cons_zero, List.set_cons_succ] at h9
      exact h9
    rintro w4 ⟨hc4, hr4⟩
    have b4 := blk4 hr4
    have HCX := hid (show Chg (fun j => j = q ∨ CF B p j) w w4 from chg_new (chg_new (chg_new (Chg.below (HW.out.mono (Nat.le_refl _)) |>.mono (fun _ _ h => h.elim)) (Chg.drew (Chg.below HB2.out) |> fun h => (show Chg NoB w0 w2 from ⟨h.os, h.tape, h.output, h.size, h.block⟩)) (fun j hj => hj.elim)) HG3.out (fun j hj => .inl hj)) hc4 (by intro j hj; right; omega))
    have HCA := hid (HC3.out.chg hc4 (by omega) (by omega) (HC3.out.hp.chg hc4 (fun k hk e => by have := hk.2; omega)))
    have HQ4 := hid (heap_chg hc4 HQ3.out (by omega))
    clear KR KRd K2 K3 KS KC hc4 hr4 br
    go_wp2
    all_goals (try simp only [Exit.inBlock, Exit.then])
    all_goals refine bodyPost_ret (v := .tuple #[z.node.v, .bool (!z.need && z.err == 0)]) (by simp [results, Tryz.results113, go_sem, b4, Nd.v]) rfl ⟨z, HWK.out, rfl, HCA.out, HQ4.out, HCX.out⟩
end Go.Proofs.YtbjibkjenleloaaGreatDoor

end

section
namespace Go.Proofs.YtbjibkjenleloaaGreatDoor
set_option linter.unusedVariables false
set_option linter.unusedSimpArgs false
open Go.RowKit
attribute [local go_sem ↓] Go.wp_at_zero Go.wp_at_succ
attribute [local go_sem] run_store_complex run_store_float


set_option maxRecDepth 100000 in
set_option maxHeartbeats 4000000 in
theorem cli_lookup (w : World) (c t B p n q : Nat) (s : Cl) (td : Td) (L F : List En) (wh : Int → Bool) (tn : Tn) (h : CliAt w c t B p n s td L wh) (hq : w.heap[q]? = some (.cells (tnC tn) 90 (0, 0))) (hnq : ¬ CF B p q)
    (hF : Rd w (.slice tn.fa tn.fl tn.fc) F.length (ecs F)) (hs : pathErr s.cp = 0) (hl0 : 0 ≤ s.cf.li) (hl8 : s.cf.li ≤ 8) (hn : n < 1000000000000) :
    Calls Tryz.prog 80 #[.pointer (some ⟨c, 0, none⟩), .pointer (some ⟨q, 0, none⟩)] w fun e w' => ∃ z, Wk F L wh true [] rootNd (stepsL s.cp) (dirB s.cp) s.cf.li [] z ∧ e = .returned (.tuple #[]) ∧ CliAt w' c t B p (n + z.used.length) s td (useAll z.used L) wh ∧
      w'.heap[q]? = some (.cells (tnC { tn with op := if z.need then lookOp z.key else tn.op, err := z.err, nd := z.node }) 90 (0, 0)) ∧ Chg (fun j => j = q ∨ CF B p j) w w' := by
  have HRD := hid (cli_read w c t B p n q s td L F wh tn true h hq hnq hF hs hl0 hl8 hn)
  have HNE := hid (And.intro (heap_ty h.hc hq (by decide)) (And.intro (heap_ty h.ht hq (by decide)) hnq))
  clear h hq hnq hF hs hl0 hl8 hn
  go_enter Tryz.func80, Tryz.ntmps80
  go_wp2_with fail
  refine HRD.out.mono ?_; rintro e w2 ⟨z, hwk, rfl, hc2, hq2, hg2⟩
  have HWK := hid hwk; have HC2 := hid hc2; have HQ2 := hid hq2; have HG2 := hid hg2
  have q11 := cell_of hq2 11 (.int .i64 tn.nd.id) rfl
  have q12 := cell_of hq2 12 (.int .i64 tn.nd.kind) rfl
  have q13 := cell_of hq2 13 (.int .i64 tn.nd.mode) rfl
  have q14 := cell_of hq2 14 (.string tn.nd.target) rfl
  clear hwk hc2 hq2 hg2 HRD
  unfold Nd.v
  go_wp2
  (try simp only [Exit.inBlock, Exit.then])
  refine gen_w (P := fun w' => bodyPost _ _ _ _ _ w') (S := fun w4 => Chg (fun j => j = q) w2 w4 ∧ w4.heap[q]? = some (.cells (tnC { tn with op := if z.need then lookOp z.key else tn.op, err := z.err, nd := z.node }) 90 (0, 0))) _ ⟨?_, ?_⟩ ?_
  · iterate 4 refine Chg.set1 ?_ _ _ rfl
    exact Chg.refl _ _
  · have h9 := (heap_set (heap_set (heap_set (heap_set HQ2.out 11 (.int .i64 z.node.id)) 12 (.int .i64 z.node.kind)) 13 (.int .i64 z.node.mode)) 14 (.string z.node.target))
    simp only [tnC, List.setIfInBounds_toArray, List.set_cons_zero, List.set_cons_succ] at h9
    exact h9
  rintro w4 ⟨hc4, hq4⟩
  refine bodyPost_end (results_none rfl _ _ _) rfl ⟨z, HWK.out, rfl, ?_, hq4, chg_new HG2.out hc4 (by intro j hj; exact .inl (.inl hj))⟩
  exact HC2.out.chg hc4 HNE.out.1 HNE.out.2.1 (HC2.out.hp.chg hc4 (fun k hk e => HNE.out.2.2 (e ▸ hk)))

/-- an answer -/
structure An where
  err : Int
  nd : Nd
  na : Option Addr
  nl : Nat
  nc : Nat
  ver : Int
def An.v (a : An) : Value := .agg #[.int .i64 a.err, .int .i64 a.nd.id, .int .i64 a.nd.kind, .int .i64 a.nd.mode, .string a.nd.target, .slice a.na a.nl a.nc, .int .i64 a.ver]
set_option maxRecDepth 100000 in
set_option maxHeartbeats 4000000 in
theorem cli_end (w : World) (c t B p n : Nat) (s : Cl) (td : Td) (L : List En) (wh : Int → Bool) (a : An) (h : CliAt w c t B p n s td L wh) :
    Calls Tryz.prog 44 #[.pointer (some ⟨c, 0, none⟩), a.v] w fun e w' => e = .returned (.tuple #[.bool true, { a with ver := td.ver }.v]) ∧ CliAt w' c t B p n { s with busy := false, am := ms0 } td L wh ∧ Chg (fun j => j = c) w w' := by
  have HA := hid (heap_old (heap_new w (.cells #[.int .i64 a.err, .int .i64 a.nd.id, .int .i64 a.nd.kind, .int .i64 a.nd.mode, .string a.nd.target, .slice a.na a.nl a.nc, .int .i64 a.ver] 43)) (.cells #[.int .i64 0, .int .i64 0, .int .i64 0, .int .i64 0, .string { data := #[] }, .slice none 0 0, .int .i64 0] 43))
  have hR := heap_new (w.alloc (.cells #[.int .i64 a.err, .int .i64 a.nd.id, .int .i64 a.nd.kind, .int .i64 a.nd.mode, .string a.nd.target, .slice a.na a.nl a.nc, .int .i64 a.ver] 43)) (.cells #[.int .i64 0, .int .i64 0, .int .i64 0, .int .i64 0, .string { data := #[] }, .slice none 0 0, .int .i64 0] 43)
  rw [World.size_alloc] at hR
  have HR := hid hR
  have bb := bl2 w (.cells #[.int .i64 a.err, .int .i64 a.nd.id, .int .i64 a.nd.kind, .int .i64 a.nd.mode, .string a.nd.target, .slice a.na a.nl a.nc, .int .i64 a.ver] 43) (.cells #[.int .i64 0, .int .i64 0, .int .i64 0, .int .i64 0, .string { data := #[] }, .slice none 0 0, .int .i64 0] 43)
  have HW := hid bb
  have HC := hid (h.below bb)
  have hcz := blk_lt h.hc
  have htz := h.ht.lt
  have hpz := h.hp.lt
  obtain ⟨w0, hw0⟩ : ∃ w0, w0 = (w.alloc (.cells #[.int .i64 a.err, .int .i64 a.nd.id, .int .i64 a.nd.kind, .int .i64 a.nd.mode, .string a.nd.target, .slice a.na a.nl a.nc, .int .i64 a.ver] 43)).alloc (.cells #[.int .i64 0, .int .i64 0, .int .i64 0, .int .i64 0, .string { data := #[] }, .slice none 0 0, .int .i64 0] 43) := ⟨_, rfl⟩
  rw [← hw0] at HA HR HW HC
  have HW0 := hid hw0
  have e12 := cell_of HC.out.hc 12 (.bool s.busy) rfl
  have e17 := cell_of HC.out.hc 17 (.int .i64 s.am.kind) rfl
  have e18 := cell_of HC.out.hc 18 (.int .i64 s.am.client) rfl
  have e19 := cell_of HC.out.hc 19 (.int .i64 s.am.life) rfl
  have e20 := cell_of HC.out.hc 20 (.int .i64 s.am.seq) rfl
  have e21 := cell_of HC.out.hc 21 (.complex .f64 (fl s.am.me) (fl s.am.mn)) rfl
  have e22 := cell_of HC.out.hc 22 (.int .i64 s.am.ver) rfl
  have e23 := cell_of HC.out.hc 23 (.int .i64 s.am.err) rfl
  have e24 := cell_of HC.out.hc 24 (.int .i64 s.am.op.kind) rfl
  have e25 := cell_of HC.out.hc 25 (.int .i64 s.am.op.dir) rfl
  have e26 := cell_of HC.out.hc 26 (.string s.am.op.name) rfl
  have e27 := cell_of HC.out.hc 27 (.int .i64 s.am.op.to_) rfl
  have e28 := cell_of HC.out.hc 28 (.string s.am.op.new_) rfl
  have e29 := cell_of HC.out.hc 29 (.int .i64 s.am.op.mode) rfl
  have e30 := cell_of HC.out.hc 30 (.string s.am.op.target) rfl
  have e31 := cell_of HC.out.hc 31 (.slice none 0 0) rfl
  have e32 := cell_of HC.out.hc 32 (.slice none 0 0) rfl
  clear h hR bb hw0
  unfold An.v
  go_enter Tryz.func44, Tryz.ntmps44
  refine wp_seq_k fun K0 hK0 => ?_
  have HK0 := hid hK0
  clear hK0
  go_wp2
  refine HK0.out _ _ ?_
  rw [← HW0.out]
  clear HK0 HW0
  refine wp_seq_k fun K1 hK1 => ?_
  have HK1 := hid hK1
  clear hK1
  go_wp2
  refine HK1.out _ _ ?_
  refine gen_w (P := fun w' => Code.wp _ _ _ _ w') (S := fun w1 => Chg (fun j => j = c) w0 w1 ∧ w1.heap[c]? = some (.cells (cli t p { s with busy := false, am := ms0 }) 86 (0, 0))) _ ⟨?_, ?_⟩ ?_
  · iterate 17 refine Chg.set1 ?_ _ _ rfl
    exact Chg.refl _ _
  · have h9 := (heap_set (heap_set (heap_set (heap_set (heap_set (heap_set (heap_set (heap_set (heap_set (heap_set (heap_set (heap_set (heap_set (heap_set (heap_set (heap_set (heap_set HC.out.hc 12 (.bool false)) 17 (.int .i64 0)) 18 (.int .i64 0)) 19 (.int .i64 0)) 20 (.int .i64 0)) 21 (.complex .f64 0 0)) 22 (.int .i64 0)) 23 (.int .i64 0)) 24 (.int .i64 0)) 25 (.int .i64 0)) 26 (.string { data := #[] })) 27 (.int .i64 0)) 28 (.string { data := #[] })) 29 (.int .i64 0)) 30 (.string { data := #[] })) 31 (.slice none 0 0)) 32 (.slice none 0 0))
    simp only [cli, List.setIfInBounds_toArray, List.set_cons_zero, List.set_cons_succ] at h9
    exact h9
  rintro w1 ⟨hc1, hh1⟩
  clear e12 e17 e18 e19 e20 e21 e22 e23 e24 e25 e26 e27 e28 e29 e30 e31 e32
  have HC1 := hid (show CliAt w1 c t B p n { s with busy := false, am := ms0 } td L wh from ⟨hh1, HC.out.ht.chg hc1 (heap_ty HC.out.ht HC.out.hc (by decide)), HC.out.hp.chg hc1 (fun k hk e => HC.out.ncp (e ▸ hk)), HC.out.ncp, HC.out.ntp⟩)
  have ha1 := heap_chg hc1 HA.out (by omega)
  have HA1 := hid ha1
  have HR1 := hid (heap_chg hc1 HR.out (by omega))
  have HG1 := hid hc1
  have b1 := blk7 ha1
  clear hc1 hh1 ha1 HK1
  go_wp2_with fail
  refine (cli_version _ c t B p n _ td L wh HC1.out).mono ?_; rintro e w2 ⟨rfl, rfl⟩
  have br := blk7 HR1.out
  have hzz : w.heap.size ≠ w.heap.size + 1 := by omega
  go_wp2_with fail
  go_region
  all_goals
    refine gen_w (P := fun w' => Exit.then _ _ _ _ w') (S := fun w4 => Chg (fun j => j = w.heap.size ∨ j = w.heap.size + 1) w1 w4 ∧ w4.heap[w.heap.size + 1]? = some (.cells #[.int .i64 a.err, .int .i64 a.nd.id, .int .i64 a.nd.kind, .int .i64 a.nd.mode, .string a.nd.target, .slice a.na a.nl a.nc, .int .i64 td.ver] 43 (0, 0))) _ ⟨?_, ?_⟩ ?_
    · refine Chg.drew ?_
      iterate 7 refine Chg.set1 ?_ _ _ (.inr rfl)
      exact Chg.set1 (Chg.refl _ _) _ _ (.inl rfl)
    · refine heap_drew ?_
      have h8 := heap_set_ne (j := w.heap.size) HR1.out 6 (.int .i64 td.ver) (by omega)
      have h9 := (heap_set (heap_set (heap_set (heap_set (heap_set (heap_set (heap_set h8 0 (.int .i64 a.err)) 1 (.int .i64 a.nd.id)) 2 (.int .i64 a.nd.kind)) 3 (.int .i64 a.nd.mode)) 4 (.string a.nd.target)) 5 (.slice a.na a.nl a.nc)) 6 (.int .i64 td.ver))
      simp only [List.setIfInBounds_toArray, List.set_cons_zero, List.set_cons_succ] at h9
      exact h9
    rintro w4 ⟨hc4, hr4⟩
    have b4 := blk7 hr4
    have HCA := hid (HC1.out.chg hc4 (by omega) (by omega) (HC1.out.hp.chg hc4 (fun k hk e => by have := hk.2; omega)))
    have HCX := hid (show Chg (fun j => j = c) w w4 from chg_new (chg_new (Chg.below (HW.out.mono (Nat.le_refl _)) |>.mono (fun _ _ h => h.elim)) HG1.out (fun j hj => .inl hj)) hc4 (by intro j hj; right; omega))
    clear b1 br hc4 hr4
    go_wp2
    all_goals (try simp only [Exit.inBlock, Exit.then])
    all_goals refine bodyPost_ret (v := .tuple #[.bool true, { a with ver := td.ver }.v]) (by simp [results, Tryz.results44, go_sem, b4, An.v]) rfl ⟨rfl, HCA.out, HCX.out⟩
end Go.Proofs.YtbjibkjenleloaaGreatDoor

end
