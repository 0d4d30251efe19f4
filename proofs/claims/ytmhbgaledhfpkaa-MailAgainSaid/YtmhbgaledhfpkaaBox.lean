/- What a box of package mail is, and what New, Put, Take, Len, Lost do with it.  Conditions: the box lies as it is said to lie. -/
import Derived.Test.YtmhbgaledhfpkaaChS
import Derived.Test.YtmhbgaledhfpkaaChI
import Derived.Test.YtmhbgaledhfpkaaC0
namespace Go.Proofs.Ytmhbgaledhfpkaa
set_option linter.unusedSimpArgs false
set_option linter.unusedVariables false
open Go Go.RowKit Go.Conc VC

/-- A box lies at B, its channel at C: so many places, what lies in it, how many were lost. -/
def BoxAt (T : TypeId) (w : World) (B C cap : Nat) (buf : List Value) (lost : Int) : Prop :=
  w.heap[B]? = some (.cells #[.chan (some C), .int .i64 lost] T (0, 0)) ∧ ∃ s r, w.heap[C]? = some (.chan cap buf.toArray false s r false)
theorem BoxAt.keep {T : TypeId} {w w' : World} {B C cap : Nat} {buf : List Value} {lost : Int} {S : Nat → Prop} (h : BoxAt T w B C cap buf lost) (f : Fm S w w') (hB : ¬ S B) (hC : ¬ S C) : BoxAt T w' B C cap buf lost := by
  obtain ⟨h1, s, r, h2⟩ := h
  exact ⟨f.keep h1 hB, s, r, f.keep h2 hC⟩
theorem Fm.setChan (w : World) (c cap : Nat) (buf : Array Value) (cl : Bool) (s r : Nat) (tm : Bool) : Fm (fun i => i = c) w (w.setChan c cap buf cl s r tm) :=
  ⟨rfl, rfl, rfl, by simp [World.setChan], fun i _ hn => by simp only [World.setChan]; rw [Array.getElem?_setIfInBounds_ne (fun e => hn e.symm)]⟩
def room (size : Int) : Nat := (min (max size 1) 4096).toNat

theorem mkChan (t e : TypeId) (d : ChanDir) (i : TypeInfo) (ht : Try.prog.underlying t = some (.chan d e)) (hi : Try.prog.info? e = some i) (hb : i.bytes ≤ 16) (size : Int) (w : World) :
    (Instr.makeChan t (.int .i64 (min (max size 1) 4096))).run Try.prog w = .ok (.chan (some w.heap.size)) (w.alloc (.chan (room size) #[] false 0 0 false)) := by
  have h0 : min (max size 1) 4096 = (room size : Int) := by unfold room; omega
  rw [h0]
  have h1 : room size ≤ 4096 := by unfold room; omega
  refine run_makeChan ht hi .i64 (room size) (by omega) ?_
  have : (i.bytes : Int) * (room size : Int) ≤ 16 * 4096 := Int.mul_le_mul (by omega) (by omega) (by omega) (by omega)
  omega

theorem new_of {t bt : TypeId} {size : Int} {w : World} {R : Value → World → Prop} (hmk : (Instr.makeChan t (.int .i64 (min (max size 1) 4096))).run Try.prog w = .ok (.chan (some w.heap.size)) (w.alloc (.chan (room size) #[] false 0 0 false)))
    (k : ∀ B C w', w.heap.size ≤ B → w.heap.size ≤ C → BoxAt bt w' B C (room size) [] 0 → Fm none' w w' → R (.pointer (some ⟨B, 0, none⟩)) w') :
    runs Try.prog (Instr.makeChan t (.int .i64 (min (max size 1) 4096))) w fun v0 w1 => rd (gd (Value.oneCell' v0 && true && true)) fun _ =>
      allocC w1 (Obj.cells #[v0, .int .i64 0] bt) fun n2 w3 => R (.pointer (some ⟨n2, 0, none⟩)) w3 := by
  refine ⟨_, _, hmk, ?_⟩
  refine allocC_of fun w' hb hs hf => ?_
  have hC : (w.alloc (.chan (room size) #[] false 0 0 false)).heap[w.heap.size]? = some (.chan (room size) #[] false 0 0 false) := heap_alloc_new w _
  exact k _ w.heap.size _ (by simp) (Nat.le_refl _) ⟨hb, 0, 0, hf.keep hC (fun h => h)⟩ ((Fm.alloc w _).trans hf)
end Go.Proofs.Ytmhbgaledhfpkaa
