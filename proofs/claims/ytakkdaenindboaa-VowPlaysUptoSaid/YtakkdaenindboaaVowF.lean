import Derived.Test.YtakkdaenindboaaVowE
namespace Go.Proofs.Ytakkdaenindboaa
set_option linter.unusedVariables false
set_option linter.unusedSimpArgs false
open Go.RowKit
attribute [local go_sem ↓] Go.wp_at_zero Go.wp_at_succ
attribute [local go_sem] run_store_complex run_store_float

/-- a break in plain words -/
structure Bp where
  ep : Int
  n : Int
  ver : Int
  all : Bool
  ks : List Ky
  deriving DecidableEq
def Bk.pl (x : Bk) : Bp := ⟨x.ep, x.n, x.ver, x.all, x.ks⟩

/-- a table in plain words -/
structure Ts where
  e : Int
  n : Int
  P : Int
  Q : Int
  ks : List Ky
  qs : List Bp

/-- a table: where its two rows lie -/
structure Tb where
  e : Int
  n : Int
  P : Int
  Q : Int
  ka : Option Addr
  kc : Nat
  ks : List Ky
  qa : Option Addr
  qc : Nat
  qs : List Bk
def Tb.pl (s : Tb) : Ts := ⟨s.e, s.n, s.P, s.Q, s.ks, s.qs.map Bk.pl⟩

/-- what holds of a table in plain words -/
structure TOk (t : Ts) : Prop where
  he : InM t.e
  hn : InM t.n
  hP : 1 ≤ t.P ∧ t.P ≤ 32
  hQ : 1 ≤ t.Q ∧ t.Q ≤ 16
  hk : (t.ks.length : Int) ≤ t.P
  hq : (t.qs.length : Int) ≤ t.Q
  each : ∀ x ∈ t.qs, x.ep = t.e ∧ 0 ≤ x.n ∧ x.n ≤ t.n ∧ x.ks.length * 24 ≤ 140737488355328

/-- a table in memory at p, all of its blocks among F -/
structure TMem (w : World) (F : Nat → Prop) (p : Nat) (s : Tb) : Prop where
  hp : w.heap[p]? = some (.cells #[.complex .f64 (fl s.e) (fl s.n), .int .i64 s.P, .int .i64 s.Q, .slice s.ka s.ks.length s.kc, .slice s.qa s.qs.length s.qc] 66 (0, 0))
  Fp : F p
  row : w.ownsRow 0 37 2 (.slice s.ka s.ks.length s.kc) s.ks.length (kyc s.ks)
  Fk : ∀ k, s.ka.map (·.block) = some k → F k
  qrow : w.ownsRow 0 41 4 (.slice s.qa s.qs.length s.qc) s.qs.length (bkc s.qs)
  Fq : ∀ k, s.qa.map (·.block) = some k → F k
  each : ∀ x ∈ s.qs, w.ownsRow 0 37 2 x.v x.ks.length (kyc x.ks)
  Fe : ∀ x ∈ s.qs, ∀ k, x.v.ownBlock = some k → F k
  apart : ∀ x ∈ s.qs, ∀ k, x.v.ownBlock = some k → s.ka.map (·.block) ≠ some k
  Flt : ∀ k, F k → k < w.heap.size

structure TAt (w : World) (F : Nat → Prop) (p : Nat) (s : Tb) : Prop extends TMem w F p s where
  ok : TOk s.pl

theorem TMem.chg {w w' : World} {F G : Nat → Prop} {p : Nat} {s : Tb} (h : TMem w F p s) (hc : Chg G w w') (hG : ∀ k, F k → ¬ G k) : TMem w' F p s :=
  ⟨heap_chg hc h.hp (hG _ h.Fp), h.Fp, ownsRow_chg h.row fun k hk hl => hc.block k hl (hG k (h.Fk k (by rw [← hk, ownBlock_slice]))), h.Fk,
   ownsRow_chg h.qrow fun k hk hl => hc.block k hl (hG k (h.Fq k (by rw [← hk, ownBlock_slice]))), h.Fq,
   fun x hx => ownsRow_chg (h.each x hx) fun k hk hl => hc.block k hl (hG k (h.Fe x hx k hk)), h.Fe, h.apart, fun k hk => Nat.lt_of_lt_of_le (h.Flt k hk) hc.size⟩
theorem TMem.below {w w' : World} {F : Nat → Prop} {p : Nat} {s : Tb} (h : TMem w F p s) (hb : Below w.heap.size w w') : TMem w' F p s :=
  h.chg (Chg.below hb) fun _ _ h => h
theorem TAt.chg {w w' : World} {F G : Nat → Prop} {p : Nat} {s : Tb} (h : TAt w F p s) (hc : Chg G w w') (hG : ∀ k, F k → ¬ G k) : TAt w' F p s :=
  ⟨h.toTMem.chg hc hG, h.ok⟩
theorem TAt.below {w w' : World} {F : Nat → Prop} {p : Nat} {s : Tb} (h : TAt w F p s) (hb : Below w.heap.size w w') : TAt w' F p s :=
  h.chg (Chg.below hb) fun _ _ h => h
theorem TMem.mono {w : World} {F G : Nat → Prop} {p : Nat} {s : Tb} (h : TMem w F p s) (hG : ∀ k, F k → G k) (hl : ∀ k, G k → k < w.heap.size) : TMem w G p s :=
  ⟨h.hp, hG _ h.Fp, h.row, fun k hk => hG k (h.Fk k hk), h.qrow, fun k hk => hG k (h.Fq k hk), h.each, fun x hx k hk => hG k (h.Fe x hx k hk), h.apart, hl⟩

/-- a table in plain words, in memory -/
def VAt (w : World) (F : Nat → Prop) (p : Nat) (t : Ts) : Prop := ∃ s, TAt w F p s ∧ s.pl = t

theorem VAt.chg {w w' : World} {F G : Nat → Prop} {p : Nat} {t : Ts} (h : VAt w F p t) (hc : Chg G w w') (hG : ∀ k, F k → ¬ G k) : VAt w' F p t := by
  obtain ⟨s, h1, h2⟩ := h; exact ⟨s, h1.chg hc hG, h2⟩
theorem VAt.below {w w' : World} {F : Nat → Prop} {p : Nat} {t : Ts} (h : VAt w F p t) (hb : Below w.heap.size w w') : VAt w' F p t := by
  obtain ⟨s, h1, h2⟩ := h; exact ⟨s, h1.below hb, h2⟩
theorem VAt.lt {w : World} {F : Nat → Prop} {p : Nat} {t : Ts} (h : VAt w F p t) : ∀ k, F k → k < w.heap.size := by obtain ⟨s, h1, h2⟩ := h; exact h1.Flt
theorem VAt.ok {w : World} {F : Nat → Prop} {p : Nat} {t : Ts} (h : VAt w F p t) : TOk t := by obtain ⟨s, h1, rfl⟩ := h; exact h1.ok

/-- breaks in memory: their row and their keys -/
structure BrsAt (w : World) (B : Nat) (a : Option Addr) (c : Nat) (R : List Bk) : Prop where
  row : w.ownsRow B 41 4 (.slice a R.length c) R.length (bkc R)
  each : ∀ x ∈ R, w.ownsRow B 37 2 x.v x.ks.length (kyc x.ks)
theorem BrsAt.chg {w w' : World} {B : Nat} {a : Option Addr} {c : Nat} {R : List Bk} (h : BrsAt w B a c R) {G : Nat → Prop} (hc : Chg G w w') (hG : ∀ k, B ≤ k → k < w.heap.size → ¬ G k) : BrsAt w' B a c R :=
  ⟨ownsRow_chg h.row fun k hk hl => hc.block k hl (hG k (own_lt h.row hk).1 hl), fun x hx => ownsRow_chg (h.each x hx) fun k hk hl => hc.block k hl (hG k (own_lt (h.each x hx) hk).1 hl)⟩
theorem BrsAt.below {w w' : World} {B : Nat} {a : Option Addr} {c : Nat} {R : List Bk} (h : BrsAt w B a c R) (hb : Below w.heap.size w w') : BrsAt w' B a c R :=
  h.chg (Chg.below hb) fun _ _ _ h => h

def relL (ks : List Ky) (k : Ky) : List Ky := ks.filter fun x => !decide (x = k)

/-- what a contract leaves of the memory: only the table's blocks turned, its blocks are old or new -/
def Fgrow (w : World) (F F' : Nat → Prop) : Prop := ∀ k, F' k → F k ∨ w.heap.size ≤ k

theorem TAt.rowlt {w : World} {F : Nat → Prop} {p : Nat} {s : Tb} (h : TAt w F p s) : s.ks.length ≤ 32 := by
  have h1 := h.ok.hk; have h2 := h.ok.hP
  have e1 : s.pl.ks = s.ks := rfl
  rw [e1] at h1; omega
theorem TAt.qlt {w : World} {F : Nat → Prop} {p : Nat} {s : Tb} (h : TAt w F p s) : s.qs.length ≤ 16 := by
  have h1 := h.ok.hq; have h2 := h.ok.hQ
  have e1 : s.pl.qs = s.qs.map Bk.pl := rfl
  rw [e1, List.length_map] at h1; omega

set_option maxHeartbeats 1000000 in
theorem t_release (w : World) (F : Nat → Prop) (p : Nat) (s : Tb) (kd : Int) (kn : ByteArray) (h : TMem w F p s) :
    Calls Try.prog 36 #[.pointer (some ⟨p, 0, none⟩), .agg #[.int .i64 kd, .string kn]] w fun e w' => e = .returned (.tuple #[]) ∧ TMem w' F p { s with ks := relL s.ks ⟨kd, kn⟩ } ∧ Chg F w w' := by
  have HH := hid h
  have b0 := blk5 (heap_old h.hp (.cells #[.int .i64 kd, .string kn] 37))
  have HQ := hid (heap_new w (.cells #[.int .i64 kd, .string kn] 37))
  have hpl := blk_lt h.hp
  have hcl : ∀ (x : Ky) (W : World), x ∈ s.ks → W.heap[w.heap.size]? = some (.cells #[.int .i64 kd, .string kn] 37 (0, 0)) → Calls Try.prog 52 #[.agg #[.int .i64 x.dir, .string x.name], .pointer (some ⟨w.heap.size, 0, none⟩)] W fun e w' => e = .returned (.bool (decide (x = ⟨kd, kn⟩))) ∧ Below W.heap.size W w' :=
    fun x W _ hq => rel_close w.heap.size ⟨kd, kn⟩ x W hq
  have HCL := hid hcl
  have hka : s.ka.map (·.block) ≠ some w.heap.size := fun e => by have := h.Flt _ (h.Fk _ e); omega
  have HKA := hid hka
  have hpk : s.ka.map (·.block) ≠ some p := fun e => own_ne h.row h.hp (by decide) (by rw [ownBlock_slice]; exact e)
  have HPK := hid hpk
  clear h hcl hka hpk
  go_enter Try.func36, Try.ntmps36
  go_wp2_with fail
  refine (deleteFunc_key 0 s.ka s.kc s.ks _ w.heap.size _ _ (own_alloc HH.out.row _) HQ.out HKA.out (Nat.zero_le _) HCL.out).mono ?_
  rintro e w1 ⟨M, hM, rfl, HO, hch⟩
  have hp1 := heap_chg hch (heap_old HH.out.hp _) HPK.out
  have b1 := blk5 hp1
  have HP1 := hid hp1
  have HCH := hid hch
  have HM := hid hM
  clear b0 hp1 hch hM
  go_wp2
  go_end0
  have hMk : M = relL s.ks ⟨kd, kn⟩ := HM.out
  have hsub : M.length ≤ s.ks.length := by rw [hMk]; exact List.length_filter_le _ _
  have hhp := HH.out
  have hC : Chg (fun k => s.ka.map (·.block) = some k ∨ k = p) w (w1.setCell ⟨p, 3, none⟩ (.slice s.ka M.length s.kc)) :=
    ((((Chg.refl _ w).alloc _).trans HCH.out (fun _ _ h => h) (fun _ _ h => .inl h)).setCell _ _ (.inl (.inr rfl)))
  refine ⟨rfl, ?_, hC.mono (fun i _ hi => by rcases hi with hi | rfl; exact hhp.Fk _ hi; exact hhp.Fp)⟩
  rw [← hMk]
  refine ⟨heap_set HP1.out 3 _, hhp.Fp, own_set HO.out (by rw [ownBlock_slice]; exact HPK.out) _ _, hhp.Fk, ?_, hhp.Fq, fun x hx => ?_, hhp.Fe, hhp.apart, fun k hk => Nat.lt_of_lt_of_le (hhp.Flt k hk) hC.size⟩
  · refine ownsRow_chg hhp.qrow fun k hk hl => hC.block k hl ?_
    rintro (h1 | rfl)
    · exact own_ne2 hhp.qrow hhp.row (by decide) k hk (by rw [ownBlock_slice]; exact h1)
    · exact own_ne hhp.qrow hhp.hp (by decide) hk
  · refine ownsRow_chg (hhp.each x hx) fun k hk hl => hC.block k hl ?_
    rintro (h1 | rfl)
    · exact hhp.apart x hx k hk h1
    · exact own_ne (hhp.each x hx) hhp.hp (by decide) hk

end Go.Proofs.Ytakkdaenindboaa
