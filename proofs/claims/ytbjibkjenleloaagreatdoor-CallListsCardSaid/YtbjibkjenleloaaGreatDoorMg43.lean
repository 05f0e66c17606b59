/- Parts of a proof about the given program, in build order: CalT. No condition. -/
import Derived.Test.YtbjibkjenleloaaGreatDoorMg42
section
namespace Go.Proofs.YtbjibkjenleloaaGreatDoor
set_option linter.unusedVariables false
set_option linter.unusedSimpArgs false
open Go.RowKit
attribute [local go_sem ↓] Go.wp_at_zero Go.wp_at_succ
attribute [local go_sem] run_store_complex run_store_float

set_option maxHeartbeats 400000 in
theorem same_entries_nil (w : World) : Calls Tryz.prog 40 #[.slice none 0 0, .slice none 0 0] w fun e w' => e = .returned (.bool true) ∧ w = w' := by
  go_enter Tryz.func40, Tryz.ntmps40
  go_wp2_with fail
  go_loopw [5] (fun v wr => v = .int .i64 0 ∧ wr = w) (fun _ _ => 0)
  case atStart => exact ⟨rfl, rfl⟩
  case round =>
    obtain ⟨rfl, rfl⟩ := hrel
    go_wp2
    go_ret
    exact ⟨rfl, rfl⟩
set_option maxHeartbeats 400000 in
theorem same_keys_nil (w : World) : Calls Tryz.prog 41 #[.slice none 0 0, .slice none 0 0] w fun e w' => e = .returned (.bool true) ∧ w = w' := by
  go_enter Tryz.func41, Tryz.ntmps41
  go_wp2_with fail
  go_loopw [5] (fun v wr => v = .int .i64 0 ∧ wr = w) (fun _ _ => 0)
  case atStart => exact ⟨rfl, rfl⟩
  case round =>
    obtain ⟨rfl, rfl⟩ := hrel
    go_wp2
    go_ret
    exact ⟨rfl, rfl⟩

theorem eqIn_op (k d t m : Int) (n u g : ByteArray) (w : World) : (Op.equalIn 10000 37 (.agg #[.int .i64 k, .int .i64 d, .string n, .int .i64 t, .string u, .int .i64 m, .string g]) (.agg #[.int .i64 k, .int .i64 d, .string n, .int .i64 t, .string u, .int .i64 m, .string g])).run Tryz.prog w = .ok true w := by
  rw [run_equalIn_agg w 9999 37 _ _ (by kernel_rfl) (by kernel_rfl)]
  have hu := Tryz.underlying37
  have hu3 := Tryz.underlying3
  have hu9 := Tryz.underlying9
  have hi : (Tryz.prog.fieldsOf 37) = (match Tryz.prog.underlying 37 with | some (.struct fs) => fs | _ => #[]) := by kernel_rfl
  rw [hi, hu]
  simp only [Op.eqFields]
  simp [go_sem, hu3, hu9, bytes_beq]
theorem run_eq_complex (a b : Int) (ha : InM a) (hb : InM b) (T : TypeId) (w : World) : (binOp .eql T (.complex .f64 (fl a) (fl b)) (.complex .f64 (fl a) (fl b))).run Tryz.prog w = .ok (.bool true) w := by
  have h1 := ord_M ha ha
  have h2 := ord_M hb hb
  rw [cmp_eq] at h1 h2
  simp [binOp, go_sem, Op.complexOp, Op.Complex.cmp, Op.floatCmp, h1, h2, asBool]
set_option maxRecDepth 100000 in
set_option maxHeartbeats 4000000 in
theorem same_msg (w : World) (m : Ms) (h1 : InM m.me) (h2 : InM m.mn) : Calls Tryz.prog 19 #[.agg #[.int .i64 m.kind, .int .i64 m.client, .int .i64 m.life, .int .i64 m.seq, .complex .f64 (fl m.me) (fl m.mn), .int .i64 m.ver, .int .i64 m.err, .int .i64 m.op.kind, .int .i64 m.op.dir, .string m.op.name, .int .i64 m.op.to_, .string m.op.new_, .int .i64 m.op.mode, .string m.op.target, .slice none 0 0, .slice none 0 0], .agg #[.int .i64 m.kind, .int .i64 m.client, .int .i64 m.life, .int .i64 m.seq, .complex .f64 (fl m.me) (fl m.mn), .int .i64 m.ver, .int .i64 m.err, .int .i64 m.op.kind, .int .i64 m.op.dir, .string m.op.name, .int .i64 m.op.to_, .string m.op.new_, .int .i64 m.op.mode, .string m.op.target, .slice none 0 0, .slice none 0 0]] w fun e w' => e = .returned (.bool true) ∧ Below w.heap.size w w' := by
  have heq := fun W => eqIn_op m.op.kind m.op.dir m.op.to_ m.op.mode m.op.name m.op.new_ m.op.target W
  have hce := fun W => run_eq_complex m.me m.mn h1 h2 46 W
  have b1 := (blk16 (heap_old (heap_new w (.cells #[.int .i64 m.kind, .int .i64 m.client, .int .i64 m.life, .int .i64 m.seq, .complex .f64 (fl m.me) (fl m.mn), .int .i64 m.ver, .int .i64 m.err, .int .i64 m.op.kind, .int .i64 m.op.dir, .string m.op.name, .int .i64 m.op.to_, .string m.op.new_, .int .i64 m.op.mode, .string m.op.target, .slice none 0 0, .slice none 0 0] 50)) (.cells #[.int .i64 m.kind, .int .i64 m.client, .int .i64 m.life, .int .i64 m.seq, .complex .f64 (fl m.me) (fl m.mn), .int .i64 m.ver, .int .i64 m.err, .int .i64 m.op.kind, .int .i64 m.op.dir, .string m.op.name, .int .i64 m.op.to_, .string m.op.new_, .int .i64 m.op.mode, .string m.op.target, .slice none 0 0, .slice none 0 0] 50))).1
  have hn := heap_new (w.alloc (.cells #[.int .i64 m.kind, .int .i64 m.client, .int .i64 m.life, .int .i64 m.seq, .complex .f64 (fl m.me) (fl m.mn), .int .i64 m.ver, .int .i64 m.err, .int .i64 m.op.kind, .int .i64 m.op.dir, .string m.op.name, .int .i64 m.op.to_, .string m.op.new_, .int .i64 m.op.mode, .string m.op.target, .slice none 0 0, .slice none 0 0] 50)) (.cells #[.int .i64 m.kind, .int .i64 m.client, .int .i64 m.life, .int .i64 m.seq, .complex .f64 (fl m.me) (fl m.mn), .int .i64 m.ver, .int .i64 m.err, .int .i64 m.op.kind, .int .i64 m.op.dir, .string m.op.name, .int .i64 m.op.to_, .string m.op.new_, .int .i64 m.op.mode, .string m.op.target, .slice none 0 0, .slice none 0 0] 50)
  rw [World.size_alloc] at hn
  have b2 := (blk16 hn).1
  have HB := hid (bl2 w (.cells #[.int .i64 m.kind, .int .i64 m.client, .int .i64 m.life, .int .i64 m.seq, .complex .f64 (fl m.me) (fl m.mn), .int .i64 m.ver, .int .i64 m.err, .int .i64 m.op.kind, .int .i64 m.op.dir, .string m.op.name, .int .i64 m.op.to_, .string m.op.new_, .int .i64 m.op.mode, .string m.op.target, .slice none 0 0, .slice none 0 0] 50) (.cells #[.int .i64 m.kind, .int .i64 m.client, .int .i64 m.life, .int .i64 m.seq, .complex .f64 (fl m.me) (fl m.mn), .int .i64 m.ver, .int .i64 m.err, .int .i64 m.op.kind, .int .i64 m.op.dir, .string m.op.name, .int .i64 m.op.to_, .string m.op.new_, .int .i64 m.op.mode, .string m.op.target, .slice none 0 0, .slice none 0 0] 50))
  clear h1 h2 hn
  go_enter Tryz.func19, Tryz.ntmps19
  go_wp2_with fail
  refine (same_entries_nil _).mono ?_; rintro e w1 ⟨rfl, rfl⟩
  go_wp2_with fail
  refine (same_keys_nil _).mono ?_; rintro e w1 ⟨rfl, rfl⟩
  go_wp2
  go_ret
  exact ⟨rfl, HB.out⟩
end Go.Proofs.YtbjibkjenleloaaGreatDoor

end
