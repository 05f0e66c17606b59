import Derived.Test.YtdolaiejkobaiaaBagM
namespace Go.Proofs.Ytdolaiejkobaiaa
set_option linter.unusedVariables false
set_option linter.unusedSimpArgs false
open Go.RowKit
attribute [local go_sem ↓] Go.wp_at_zero Go.wp_at_succ

/-- letters that may be read -/
structure LrAt (w : World) (v : Value) (L : List Lt) : Prop where
  row : Rd w v L.length (lcs L)
  each : ∀ x ∈ L, Rd w x.v x.bs.length (bys x.bs)

theorem LetsAt.lr {w : World} {B : Nat} {a : Option Addr} {c : Nat} {L : List Lt} (h : LetsAt w B a c L) : LrAt w (.slice a L.length c) L :=
  ⟨Rd.own h.row, fun x hx => Rd.own (h.each x hx)⟩
theorem BagAt.lr {T : Nat} {w : World} {B p : Nat} {limit : Int} {a : Option Addr} {c : Nat} {L : List Lt} (h : BagAt T w B p limit a c L) : LrAt w (.slice a L.length c) L :=
  ⟨Rd.own h.row, fun x hx => Rd.own (h.each x hx)⟩
theorem LrAt.drewN {w : World} {v : Value} {L : List Lt} (h : LrAt w v L) (q : Nat) : LrAt (w.drewN q) v L := ⟨h.row, h.each⟩
theorem LrAt.below {w w' : World} {v : Value} {L : List Lt} (h : LrAt w v L) (hb : Below w.heap.size w w') : LrAt w' v L := ⟨h.row.below hb, fun x hx => (h.each x hx).below hb⟩

set_option maxHeartbeats 1000000 in
theorem sameLetters_yes (u v : Value) (L M : List Lt) (w : World) (hu : LrAt w u L) (hv : LrAt w v M) (he : cons_ L = cons_ M) :
    Calls Try.prog 24 #[u, v] w fun e w' => e = .returned (.bool true) ∧ ∃ n, w' = w.drewN n := by
  have hl : L.length = M.length := by have := congrArg List.length he; simpa [cons_] using this
  by_cases h0 : L.length = 0
  · obtain ⟨a1, c1, rfl, _, _⟩ := hu.row.shape
    obtain ⟨a2, c2, rfl, _, _⟩ := hv.row.shape
    have hb0 : M.length = 0 := by omega
    obtain rfl := List.eq_nil_of_length_eq_zero h0
    obtain rfl := List.eq_nil_of_length_eq_zero hb0
    clear hl h0 hb0 hu hv he
    go_enter Try.func24, Try.ntmps24
    go_wp2
    go_loop [5] (fun i => i = .int .i64 0) (fun _ => 0)
    case atStart => rfl
    case round =>
      obtain rfl := hrel
      go_wp2
      go_ret
      exact ⟨rfl, 0, rfl⟩
  · obtain ⟨b1, o1, c1, rfl, _, hc1, _, h1⟩ := hu.row.form (by rw [lcs_len]; omega)
    obtain ⟨b2, o2, c2, rfl, _, hc2, _, h2⟩ := hv.row.form (by rw [lcs_len]; omega)
    obtain ⟨n, hn⟩ : ∃ n, n = L.length := ⟨_, rfl⟩
    have hn2 : M.length = n := by omega
    have hmax : n ≤ 9223372036854775807 := by unfold maxLen at hc1; omega
    have EU := hid hu.each
    have EV := hid hv.each
    rw [hn2, ← hn]
    have E1 := hid h1
    have E2 := hid h2
    have HE := hid he
    have HN := hid hn
    have HN2 := hid hn2
    clear hn hn2 h1 h2 hl h0 hu hv he
    go_enter Try.func24, Try.ntmps24
    go_wp2
    go_loopw [5] (fun i wr => ∃ k : Nat, k ≤ n ∧ i = .int .i64 k ∧ Hid (Dr w wr)) (fun i _ => n - (intOf i).toNat)
    case atStart => exact ⟨0, Nat.zero_le _, rfl, hid (Dr.refl _)⟩
    case round =>
      obtain ⟨k, hk, rfl, HDR⟩ := hrel
      by_cases hlt : k < n
      · obtain ⟨x, hx⟩ : ∃ x, L[k]? = some x := ⟨_, List.getElem?_eq_getElem (by have := HN.out; omega)⟩
        obtain ⟨y, hy⟩ : ∃ y, M[k]? = some y := ⟨_, List.getElem?_eq_getElem (by have := HN2.out; omega)⟩
        have hxy : x.con = y.con := by
          have h3 : (cons_ L)[k]? = (cons_ M)[k]? := by rw [HE.out]
          rw [cons_, cons_, List.getElem?_map, List.getElem?_map, hx, hy] at h3
          simpa using h3
        have ht : x.tw = y.tw := congrArg Prod.fst hxy
        have hbs : x.bs = y.bs := congrArg Prod.snd hxy
        have p1 := lcs_at hx
        have p2 := lcs_at hy
        have f1 := HDR.out.cell (E1.out _ _ p1.1)
        have f2 : wr.cell? ⟨b1, o1 + k * 2 + 1, none⟩ = some x.v := HDR.out.cell (E1.out _ _ p1.2)
        have f3 := HDR.out.cell (E2.out _ _ p2.1)
        have f4 : wr.cell? ⟨b2, o2 + k * 2 + 1, none⟩ = some y.v := HDR.out.cell (E2.out _ _ p2.2)
        have r1 := EU.out x (List.mem_of_getElem? hx)
        have r2 := EV.out y (List.mem_of_getElem? hy)
        obtain ⟨xt, xa, xc, xb⟩ := x
        obtain ⟨yt, ya, yc, yb⟩ := y
        simp only at ht hbs
        subst ht hbs
        simp only [Lt.v] at r1 r2 f1 f2 f3 f4
        have hd : decide (xb = xb) = true := by simp
        have R1 := hid (HDR.out.rd r1)
        have R2 := hid (HDR.out.rd r2)
        have hk0 : (0 : Int) ≤ (k : Int) := by omega
        have hk1 : (k : Int) < (n : Int) := by omega
        clear hx hy hxy p1 p2 r1 r2
        go_wp2_with fail
        go_quiet ((go_at_call 14; exact Calls.quiet_of (sameBytes_any _ _ xb xb _ (R1.out.drewN _) (R2.out.drewN _))))
        go_wp2
        exact ⟨⟨k + 1, by omega, by go_num, hid (HDR.out.drewN _)⟩, by simp [intOf]; omega⟩
      · go_wp2
        go_ret
        exact ⟨rfl, HDR.out⟩

end Go.Proofs.Ytdolaiejkobaiaa
