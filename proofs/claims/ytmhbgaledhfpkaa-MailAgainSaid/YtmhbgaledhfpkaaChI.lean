/- The contracts of the box (of numbers) of package mail: what Put, Take do with a channel that has room, or none, or is empty.  Conditions: the box's two blocks are as they are said to be. -/
import Derived.Test.YtmhbgaledhfpkaaTab
import Derived.Test.YtmhbgaledhfpkaaLib
import Derived.Conc.LoneCalls
import Derived.Conc.LoneSelect
import Derived.Conc.LoneSelectN
namespace Go.Proofs.Ytmhbgaledhfpkaa
set_option linter.unusedSimpArgs false
set_option linter.unusedVariables false
open Go Go.RowKit Go.Conc VC
set_option maxRecDepth 100000
theorem put15_room (B C cap s r : Nat) (buf : Array Value) (lost : Int) (x : Value) (w : World) (hB : w.heap[B]? = some (.cells #[.chan (some C), .int .i64 lost] 54 (0, 0)))
    (hC : w.heap[C]? = some (.chan cap buf false s r false)) (hroom : buf.size < cap) :
    Calls Try.prog 15 #[.pointer (some ⟨B, 0, none⟩), x] w fun e w' => e = .returned (.bool true) ∧ w' = w.setChan C cap (buf.push x) false (s + 1) r false := by
  have hc0 : w.cell? ⟨B, 0, none⟩ = some (.chan (some C)) := cellOf hB rfl
  clear hB
  refine calls_of_loneTo fun cs => ?_
  have e : Frame.enter Try.prog 15 #[.pointer (some ⟨B, 0, none⟩), x] .normal = (base 15).at ⟨#[.pointer (some ⟨B, 0, none⟩), x, undef, undef, undef, undef, undef, undef, undef, undef, undef, undef, undef, undef, undef, undef, undef, undef, undef, undef], []⟩ [.code (Try.f15.body.getD .skip)] := by
    simp [Frame.enter, Frame.at, Try.func15, base, Try.f15]
  rw [e]
  refine LoneTo.goes (n := 17) ?_
  simp only [Try.f15, Option.getD_some]
  s_c stepG_seq
  s_reg
  s_op
  s_c stepG_region_end
  s_c stepG_seq
  s_c stepG_seq
  s_reg
  s_op
  s_op
  s_op
  s_op
  s_c stepG_region_end
  s_reg
  s_op
  s_c stepG_region_end
  s_c stepG_seq
  s_reg
  s_stop
  refine LoneTo.step (step_lone_select_send_room (c := C) (v := x) (z' := (.int .i64 0)) (cap := cap) (buf := buf) (s := s) (r := r) (tm := false)
    (stepG_comm (cases := #[scase C x (.int .i64 0)]) (blocking := false) (shape := .select) (w' := w) rfl rfl (by decide) (by simp [go_sem, execOp, scase, Act.eval])) hC hroom) ?_
  rw [Frame.finish_at]
  walk_nrm
  refine LoneTo.goes (n := 10) ?_
  s_op
  s_op
  s_c stepG_region_end
  s_c stepG_block
  s_cond true
  s_c stepG_seq
  s_reg
  s_op
  s_c stepG_region_end
  s_c stepG_ret'
  s_stop
  exact LoneTo.done ⟨.returned (.bool true), _, rfl, ⟨rfl, rfl⟩, rfl, rfl, rfl, rfl, _, Try.func15, by simp [results, Try.f15, Frame.at]⟩
theorem put15_full (B C cap s r : Nat) (buf : Array Value) (lost : Int) (x : Value) (w : World) (hB : w.heap[B]? = some (.cells #[.chan (some C), .int .i64 lost] 54 (0, 0)))
    (hC : w.heap[C]? = some (.chan cap buf false s r false)) (hfull : cap ≤ buf.size) :
    Calls Try.prog 15 #[.pointer (some ⟨B, 0, none⟩), x] w fun e w' => e = .returned (.bool false) ∧ w' = w.setCell ⟨B, 1, none⟩ (.int .i64 (IntKind.i64.wrap (lost + 1))) := by
  have hc0 : w.cell? ⟨B, 0, none⟩ = some (.chan (some C)) := cellOf hB rfl
  have hc1 : w.cell? ⟨B, 1, none⟩ = some (.int .i64 lost) := cellOf hB rfl
  have hf1 : w.frozen? ⟨B, 1, none⟩ = false := freeOf hB
  clear hB
  refine calls_of_loneTo fun cs => ?_
  have e : Frame.enter Try.prog 15 #[.pointer (some ⟨B, 0, none⟩), x] .normal = (base 15).at ⟨#[.pointer (some ⟨B, 0, none⟩), x, undef, undef, undef, undef, undef, undef, undef, undef, undef, undef, undef, undef, undef, undef, undef, undef, undef, undef], []⟩ [.code (Try.f15.body.getD .skip)] := by
    simp [Frame.enter, Frame.at, Try.func15, base, Try.f15]
  rw [e]
  refine LoneTo.goes (n := 17) ?_
  simp only [Try.f15, Option.getD_some]
  s_c stepG_seq
  s_reg
  s_op
  s_c stepG_region_end
  s_c stepG_seq
  s_c stepG_seq
  s_reg
  s_op
  s_op
  s_op
  s_op
  s_c stepG_region_end
  s_reg
  s_op
  s_c stepG_region_end
  s_c stepG_seq
  s_reg
  s_stop
  refine LoneTo.step (step_lone_select_send_full (c := C) (v := x) (z' := (.int .i64 0)) (cap := cap) (buf := buf) (s := s) (r := r) (tm := false)
    (stepG_comm (cases := #[scase C x (.int .i64 0)]) (blocking := false) (shape := .select) (w' := w) rfl rfl (by decide) (by simp [go_sem, execOp, scase, Act.eval])) hC hfull) ?_
  rw [Frame.finish_at]
  walk_nrm
  refine LoneTo.goes (n := 21) ?_
  s_op
  s_op
  s_c stepG_region_end
  s_c stepG_block
  s_cond false
  s_c stepG_seq
  s_reg
  s_op
  s_op
  s_op
  s_op
  s_op
  s_op
  s_op
  s_op
  s_c stepG_region_end
  s_c stepG_seq
  s_reg
  s_op
  s_c stepG_region_end
  s_c stepG_ret'
  s_stop
  exact LoneTo.done ⟨.returned (.bool false), _, rfl, ⟨rfl, rfl⟩, rfl, rfl, rfl, rfl, _, Try.func15, by simp [results, Try.f15, Frame.at]⟩
theorem take17_some (B C cap s r : Nat) (buf : Array Value) (lost : Int) (w : World) (hB : w.heap[B]? = some (.cells #[.chan (some C), .int .i64 lost] 54 (0, 0)))
    (hC : w.heap[C]? = some (.chan cap buf false s r false)) (hsome : 0 < buf.size) :
    Calls Try.prog 17 #[.pointer (some ⟨B, 0, none⟩)] w fun e w' => e = .returned (.tuple #[buf.getD 0 undef, .bool true]) ∧ w' = w.setChan C cap (buf.extract 1 buf.size) false s (r + 1) false := by
  have hc0 : w.cell? ⟨B, 0, none⟩ = some (.chan (some C)) := cellOf hB rfl
  clear hB
  refine calls_of_loneTo fun cs => ?_
  have e : Frame.enter Try.prog 17 #[.pointer (some ⟨B, 0, none⟩)] .normal = (base 17).at ⟨#[.pointer (some ⟨B, 0, none⟩), undef, undef, undef, undef, undef, undef, undef, undef, undef, undef, undef, undef, undef], []⟩ [.code (Try.f17.body.getD .skip)] := by
    simp [Frame.enter, Frame.at, Try.func17, base, Try.f17]
  rw [e]
  generalize hx : buf.getD 0 undef = x
  refine LoneTo.goes (n := 14) ?_
  simp only [Try.f17, Option.getD_some]
  s_c stepG_seq
  s_reg
  s_op
  s_op
  s_c stepG_region_end
  s_c stepG_seq
  s_reg
  s_op
  s_op
  s_op
  s_op
  s_c stepG_region_end
  s_c stepG_seq
  s_reg
  s_stop
  refine LoneTo.step (step_lone_select_recv_buf (c := C) (z := (.int .i64 0)) (cap := cap) (buf := buf) (closed := false) (s := s) (r := r) (tm := false)
    (stepG_comm (cases := #[rcase C (.int .i64 0)]) (blocking := false) (shape := .select) (w' := w) rfl rfl (by decide) (by simp [go_sem, execOp, rcase, Act.eval])) hC hsome) ?_
  rw [Frame.finish_at, hx]
  clear hx hC
  walk_nrm
  refine LoneTo.goes (n := 17) ?_
  s_op
  s_op
  s_c stepG_region_end
  s_c stepG_block
  s_cond true
  s_c stepG_seq
  s_reg
  s_op
  s_op
  s_c stepG_region_end
  s_c stepG_seq
  s_reg
  s_op
  s_op
  s_op
  s_c stepG_region_end
  s_c stepG_ret'
  s_stop
  exact LoneTo.done ⟨.returned (.tuple #[x, .bool true]), _, rfl, ⟨rfl, rfl⟩, rfl, rfl, rfl, rfl, _, Try.func17, by simp [results, Try.f17, Frame.at]⟩
theorem take17_none (B C cap s r : Nat) (lost : Int) (w : World) (hB : w.heap[B]? = some (.cells #[.chan (some C), .int .i64 lost] 54 (0, 0)))
    (hC : w.heap[C]? = some (.chan cap #[] false s r false)) :
    Calls Try.prog 17 #[.pointer (some ⟨B, 0, none⟩)] w fun e w' => e = .returned (.tuple #[(.int .i64 0), .bool false]) ∧ w' = w := by
  have hc0 : w.cell? ⟨B, 0, none⟩ = some (.chan (some C)) := cellOf hB rfl
  clear hB
  refine calls_of_loneTo fun cs => ?_
  have e : Frame.enter Try.prog 17 #[.pointer (some ⟨B, 0, none⟩)] .normal = (base 17).at ⟨#[.pointer (some ⟨B, 0, none⟩), undef, undef, undef, undef, undef, undef, undef, undef, undef, undef, undef, undef, undef], []⟩ [.code (Try.f17.body.getD .skip)] := by
    simp [Frame.enter, Frame.at, Try.func17, base, Try.f17]
  rw [e]
  refine LoneTo.goes (n := 14) ?_
  simp only [Try.f17, Option.getD_some]
  s_c stepG_seq
  s_reg
  s_op
  s_op
  s_c stepG_region_end
  s_c stepG_seq
  s_reg
  s_op
  s_op
  s_op
  s_op
  s_c stepG_region_end
  s_c stepG_seq
  s_reg
  s_stop
  refine LoneTo.step (step_lone_select_default (c := C) (z := (.int .i64 0)) (cap := cap) (s := s) (r := r) (tm := false)
    (stepG_comm (cases := #[rcase C (.int .i64 0)]) (blocking := false) (shape := .select) (w' := w) rfl rfl (by decide) (by simp [go_sem, execOp, rcase, Act.eval])) hC) ?_
  rw [Frame.finish_at]
  walk_nrm
  refine LoneTo.goes (n := 12) ?_
  s_op
  s_op
  s_c stepG_region_end
  s_c stepG_block
  s_cond false
  s_c stepG_seq
  s_reg
  s_op
  s_op
  s_op
  s_c stepG_region_end
  s_c stepG_ret'
  s_stop
  exact LoneTo.done ⟨.returned (.tuple #[(.int .i64 0), .bool false]), _, rfl, ⟨rfl, rfl⟩, rfl, rfl, rfl, rfl, _, Try.func17, by simp [results, Try.f17, Frame.at]⟩
end Go.Proofs.Ytmhbgaledhfpkaa

