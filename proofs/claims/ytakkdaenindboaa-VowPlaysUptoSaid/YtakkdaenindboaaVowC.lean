import Derived.Test.YtakkdaenindboaaVowB
namespace Go.Proofs.Ytakkdaenindboaa
set_option linter.unusedVariables false
set_option linter.unusedSimpArgs false
open Go.RowKit
open Go.Sort (PermIn SortedIn grow grow_grow alloc_eq_grow SWO)
attribute [local go_sem ↓] Go.wp_at_zero Go.wp_at_succ
attribute [local go_sem] run_store_complex run_store_float

set_option maxHeartbeats 400000 in
theorem rel_close (q : Nat) (k x : Ky) (w : World) (hq : w.heap[q]? = some (.cells #[.int .i64 k.dir, .string k.name] 37 (0, 0))) :
    Calls Try.prog 52 #[.agg #[.int .i64 x.dir, .string x.name], .pointer (some ⟨q, 0, none⟩)] w fun e w' => e = .returned (.bool (decide (x = k))) ∧ Below w.heap.size w w' := by
  have b0 := blk2 (heap_old hq (.cells #[.int .i64 x.dir, .string x.name] 37))
  have b1 := blk2 (heap_new w (.cells #[.int .i64 x.dir, .string x.name] 37))
  have heq := fun W => eqIn_key x.dir k.dir x.name k.name W
  change ∀ W, _ = Result.ok (decide (x = k)) W at heq
  clear hq
  go_enter Try.func52, Try.ntmps52
  go_wp2
  go_ret
  exact ⟨rfl, bl1 w _⟩

set_option maxHeartbeats 400000 in
theorem ack_close (q : Nat) (a b : Int) (x : Bk) (w : World) (hx : x.ep = a) (ha : InM a) (hb : InM b) (hn : InM x.n) (hq : w.heap[q]? = some (.cells #[.complex .f64 (fl a) (fl b)] 39 (0, 0))) :
    Calls Try.prog 44 #[.agg #[.complex .f64 (fl x.ep) (fl x.n), .int .i64 x.ver, .bool x.all, .slice x.a x.ks.length x.c], .pointer (some ⟨q, 0, none⟩)] w fun e w' => e = .returned (.bool (!decide (b < x.n))) ∧ Below w.heap.size w w' := by
  obtain ⟨ep, n, ver, al, ad, c, ks⟩ := x
  simp only at hx hn ⊢
  subst hx
  have b0 := blk1 (heap_old hq (.cells #[.complex .f64 (fl ep) (fl n), .int .i64 ver, .bool al, .slice ad ks.length c] 41))
  have b1 := blk4 (heap_new w (.cells #[.complex .f64 (fl ep) (fl n), .int .i64 ver, .bool al, .slice ad ks.length c] 41))
  have HA := hid ha
  have HB := hid hb
  have HN := hid hn
  clear hq ha hb hn
  go_enter Try.func44, Try.ntmps44
  go_wp2_with fail
  refine (later_same ep n b HA.out HN.out HB.out _).mono ?_; rintro e w1 ⟨rfl, rfl⟩
  go_wp2
  go_ret
  exact ⟨rfl, bl1 w _⟩

theorem ret_i {k : IntKind} {a b : Int} (h : a = b) : Ending.returned (.int k a) = .returned (.int k b) := by rw [h]
def orI (a b : Int) : Int := if a = 0 then b else a

set_option maxHeartbeats 400000 in
theorem or_two (g : Nat) (a b : Int) (w : World) (hg : w.heap[g]? = some (.cells #[.int .i64 a, .int .i64 b] 3 (0, 0))) :
    Calls Try.prog 63 #[.slice (some ⟨g, 0, none⟩) 2 2] w fun e w' => e = .returned (.int .i64 (orI a b)) ∧ w = w' := by
  have b0 := blk2 hg
  clear hg
  go_enter Try.func63, Try.ntmps63
  go_wp2_with fail
  go_loop [8] (fun v8 => ∃ k : Nat, k ≤ 2 ∧ v8 = .int .i64 k ∧ (0 < k → a = 0) ∧ (1 < k → b = 0)) (fun v8 => 2 - (intOf v8).toNat)
  case atStart => exact ⟨0, by omega, rfl, by omega, by omega⟩
  case round =>
    obtain ⟨k, hk, rfl, h1, h2⟩ := hrel
    have hk3 : k = 0 ∨ k = 1 ∨ k = 2 := by omega
    rcases hk3 with rfl | rfl | rfl
    · by_cases h0 : a = 0
      · have ht : (a != 0) = false := by simp [h0]
        have H0 := hid h0
        clear h0 h1 h2
        go_wp2
        exact ⟨⟨1, by omega, by go_num, fun _ => H0.out, by omega⟩, by simp [intOf]⟩
      · have ht : (a != 0) = true := by simp [h0]
        have H0 := hid h0
        clear h0 h1 h2
        go_wp2
        go_ret
        exact ⟨ret_i (show a = orI a b by unfold orI; rw [if_neg H0.out]), rfl⟩
    · have H1 := hid (h1 (by omega))
      by_cases h0 : b = 0
      · have ht : (b != 0) = false := by simp [h0]
        have H0 := hid h0
        clear h0 h1 h2
        go_wp2
        exact ⟨⟨2, by omega, by go_num, fun _ => H1.out, fun _ => H0.out⟩, by simp [intOf]⟩
      · have ht : (b != 0) = true := by simp [h0]
        clear h0 h1 h2
        go_wp2
        go_ret
        exact ⟨ret_i (show b = orI a b by unfold orI; rw [if_pos H1.out]), rfl⟩
    · have H1 := hid (h1 (by omega))
      have H2 := hid (h2 (by omega))
      clear h1 h2
      go_wp2
      go_ret
      exact ⟨ret_i (show 0 = orI a b by unfold orI; rw [if_pos H1.out, H2.out]), rfl⟩

def cmpK (x y : Ky) : Int := orI (Lib.compareInt x.dir y.dir) (cmpS x.name y.name)

set_option maxHeartbeats 2000000 in
theorem closeK (x y : Ky) (W : World) : Calls Try.prog 62 #[.agg #[.int .i64 x.dir, .string x.name], .agg #[.int .i64 y.dir, .string y.name]] W
    fun e w' => e = .returned (.int .i64 (cmpK x y)) ∧ ∃ q os', w' = grow (W.drewN q) os' := by
  have hcon := fun W' => AnyG.cmp_Compare_int Try.cmpInt x.dir y.dir W'
  change ∀ W', Calls Try.prog 64 _ _ _ at hcon
  unfold cmpK
  have hcs := fun W' => cmp_string x.name y.name W'
  generalize Lib.compareInt x.dir y.dir = r at hcon ⊢
  generalize cmpS x.name y.name = r2 at hcs ⊢
  have b0 := blk2 (heap_old (heap_new W (.cells #[.int .i64 x.dir, .string x.name] 37)) (.cells #[.int .i64 y.dir, .string y.name] 37))
  have b1 := blk2 (heap_new (W.alloc (.cells #[.int .i64 x.dir, .string x.name] 37)) (.cells #[.int .i64 y.dir, .string y.name] 37))
  have ko := heap_new ((W.alloc (.cells #[.int .i64 x.dir, .string x.name] 37)).alloc (.cells #[.int .i64 y.dir, .string y.name] 37)) (.cells #[.int .i64 r, .int .i64 r2] 3)
  simp only [World.size_alloc] at b1 ko
  have KO := hid (show (World.drew (((W.alloc (.cells #[.int .i64 x.dir, .string x.name] 37)).alloc (.cells #[.int .i64 y.dir, .string y.name] 37)).alloc (.cells #[.int .i64 r, .int .i64 r2] 3))).heap[W.heap.size + 1 + 1]? = some (.cells #[.int .i64 r, .int .i64 r2] 3) from ko)
  clear ko
  go_enter Try.func62, Try.ntmps62
  go_wp2_with fail
  go_region_held3 (fun w' => w'.cell? ⟨W.heap.size, 0, none⟩ = some (.int .i64 x.dir) ∧ w'.cell? ⟨W.heap.size, 1, none⟩ = some (.string x.name) ∧ w'.cell? ⟨W.heap.size + 1, 0, none⟩ = some (.int .i64 y.dir) ∧ w'.cell? ⟨W.heap.size + 1, 1, none⟩ = some (.string y.name))
    (first | go_keep | exact ⟨by assumption, by assumption, by assumption, by assumption⟩)
    (first
      | (go_at_call 64; refine (hcon _).mono ?_; rintro e w' ⟨rfl, rfl⟩)
      | (go_at_call 65; refine (hcs _).mono ?_; rintro e w' ⟨rfl, rfl⟩)
      | (go_at_call 63; refine (or_two _ r r2 _ KO.out).mono ?_; rintro e w' ⟨rfl, rfl⟩))
  go_wp2
  go_ret
  have hx : ∀ A B C : Obj, ∃ os', ((((W.alloc A).alloc B).alloc C).drew) = grow (W.drewN 1) os' := by
    intro A B C
    have h1 : (((W.alloc A).alloc B).alloc C).drew = (((World.drew W).alloc A).alloc B).alloc C := rfl
    exact ⟨_, by rw [h1, alloc_eq_grow, alloc_eq_grow, alloc_eq_grow, grow_grow, grow_grow]; rfl⟩
  exact ⟨rfl, 1, hx _ _ _⟩

theorem cmpK_lt (x y : Ky) : ltOf cmpK x y = lessK x y := by
  unfold ltOf cmpK orI Lib.compareInt cmpS lessK
  by_cases h1 : x.dir < y.dir
  · simp [h1]
  · by_cases h2 : y.dir < x.dir
    · have h3 : ¬ x.dir = y.dir := by omega
      simp [h1, h2, h3]
    · have h3 : x.dir = y.dir := by omega
      cases h4 : nmLt x.name y.name
      · by_cases h5 : (x.name.toList == y.name.toList) = true <;> simp [h3, h5]
      · simp [h3]

theorem swoK : SWO (ltOf cmpK) where
  irrefl x := by rw [cmpK_lt]; exact lessK_irrefl _
  trans x y z h1 h2 := by rw [cmpK_lt] at *; exact lessK_trans h1 h2
  ntrans x y z h1 h2 := by
    rw [cmpK_lt] at *
    cases h3 : lessK x z with
    | false => rfl
    | true =>
      cases h4 : lessK y x with
      | true => have := lessK_trans h4 h3; rw [h2] at this; cases this
      | false => have := lessK_total h1 h4; rw [this, h2] at h3; cases h3

instance : Inhabited Ky := ⟨⟨0, ByteArray.empty⟩⟩

theorem sort_keys (w : World) (B : Nat) (a : Option Addr) (c : Nat) (L : List Ky) (h : w.ownsRow B 37 2 (.slice a L.length c) L.length (kyc L)) (hn : L.length < 4611686018427387904) :
    Calls Try.prog 61 #[.slice a L.length c, .func (.func 62) #[] #[]] w fun e w' => e = .returned (.tuple #[]) ∧ ∃ M : List Ky, M.Perm L ∧ M.Pairwise (fun x y => lessK y x = false) ∧ w'.ownsRow B 37 2 (.slice a M.length c) M.length (kyc M) ∧ Chg (fun k => B ≤ k) w w' := by
  by_cases h0 : 0 < L.length
  · obtain ⟨g, rfl, hBg, hgz, _, _⟩ := own_loc h h0
    have eg : ∀ args w, (callFunc 62 args).run Try.prog w = .ok (.enter 62 args) w := enters_of Try.func62 (by kernel_rfl) rfl
    have hcon := AnyQ.slices_SortFunc Try.sortKey 2 Try.isAgg37 Try.sizeOf37 Ky.cells (fun _ => rfl) (fun x => Ky.one x) cmpK swoK 62 #[] g 0 c L.toArray w eg (fun _ _ _ _ x y => closeK x y _) (holdsK_own (f := Ky.cells) (sz := 2) (fun _ => rfl) h) hgz (by simpa using hn)
    change Calls Try.prog 61 _ _ _ at hcon
    have e1 : (L.toArray.size) = L.length := by simp
    rw [e1] at hcon
    refine hcon.mono ?_
    rintro e w' ⟨rfl, d', n, os, hp, hs, rfl⟩
    have hp' : PermIn 0 L.toArray.size L.toArray d' := by rw [e1]; exact hp
    have hs' : SortedIn (ltOf cmpK) 0 L.toArray.size d' := by rw [e1]; exact hs
    obtain ⟨p1, p2⟩ := perm_sorted hp' hs'
    have hlen := p1.length_eq
    obtain ⟨o1, o2⟩ := own_sort (M := d'.toList) (m := n) (os := os) (f := Ky.cells) (sz := 2) (fun _ => rfl) h hlen
    refine ⟨rfl, d'.toList, p1, p2.imp (fun {x y} hxy => by rw [cmpK_lt] at hxy; exact hxy), ?_, o2.mono (fun i _ hi => by subst hi; exact hBg)⟩
    rw [hlen]; exact o1
  · have hl : L.length = 0 := by omega
    have hcon := AnyF.slices_SortFunc_none { Try.sortKey with } a c (.func (.func 62) #[] #[]) w
    change Calls Try.prog 61 _ _ _ at hcon
    rw [hl]
    refine hcon.mono ?_
    rintro e w' ⟨rfl, rfl⟩
    exact ⟨rfl, L, List.Perm.refl _, by rw [List.length_eq_zero_iff.1 hl]; exact List.Pairwise.nil, h, Chg.refl _ _⟩

end Go.Proofs.Ytakkdaenindboaa
