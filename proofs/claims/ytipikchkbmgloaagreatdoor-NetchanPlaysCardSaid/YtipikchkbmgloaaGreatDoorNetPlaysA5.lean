/- What NetPlays needs, part 5 of 13: Dec C5 C6.  Conditions: as each part says. -/
import Derived.Test.YtipikchkbmgloaaGreatDoorNetPlaysA4
namespace Go.Proofs.YtipikchkbmgloaaGreatDoor
set_option linter.unusedSimpArgs false
set_option linter.unusedVariables false
open Go Go.RowKit VC
def OwnMsgs (w : World) (base : Nat) (sv : Value) (ms : List Msg) : Prop :=
 ∃ qs : List (Option Addr × Nat), qs.length = ms.length ∧ w.ownsRow base 41 23 sv ms.length ((ms.zip qs).flatMap fun x => msgC x.1 x.2.1 x.2.2) ∧
  ∀ (j : Nat) (m : Msg) (q : Option Addr × Nat), ms[j]? = some m → qs[j]? = some q → w.ownsRow base 5 1 (.slice q.1 m.bytes.length q.2) m.bytes.length (m.bytes.map (Value.int .u8))
theorem OwnMsgs.nil (w : World) (base : Nat) : OwnMsgs w base (.slice none 0 0) [] := ⟨[], rfl, ⟨rfl, .inl ⟨rfl, rfl⟩⟩, fun j m q h => by simp at h⟩
theorem OwnMsgs.keep {w w' : World} {base : Nat} {sv : Value} {ms : List Msg} {S : Nat → Prop} (h : OwnMsgs w base sv ms) (f : Fm S w w') (hS : ∀ i c t, w.heap[i]? = some (.cells c t (0, 0)) → base ≤ i → (t = 41 ∨ t = 5) → ¬ S i) : OwnMsgs w' base sv ms := by
 obtain ⟨qs, h1, h2, h3⟩ := h
 refine ⟨qs, h1, f.owns h2 fun i hi => ?_, fun j m q hj hq => f.owns (h3 j m q hj hq) fun i hi => ?_⟩
 ·obtain ⟨hb, cur, hc⟩ := own_block h2 hi; exact hS i _ _ hc hb (.inl rfl)
 ·obtain ⟨hb, cur, hc⟩ := own_block (h3 j m q hj hq) hi; exact hS i _ _ hc hb (.inr rfl)
def decGo : Nat → RS → List Msg → List Msg × RS
 | 0, s, acc => (acc, s)
 | n + 1, s, acc => if s.e = 0 then
   decGo n (rdF (known (blank (IntKind.i64.wrap (rdW 4 s).1))) (rdFields (IntKind.i64.wrap (rdW 4 s).1) (rdW 4 s).2).2) (acc ++ [(rdFields (IntKind.i64.wrap (rdW 4 s).1) (rdW 4 s).2).1])
  else (acc, s)
def decodeM (ys : List Int) : List Msg × Int :=
 let n := rdW 5 ⟨byteBits ys, 0⟩
 let r := decGo n.1.toNat (rdF (decide (n.1 ≤ 16)) n.2) []
 let s := rdF (restOk r.2.rem && decide (ys.length ≤ 1024)) r.2
 if s.e = 0 then (r.1, 0) else ([], s.e)
def lenOf (v : Value) : Nat := match v with | .slice _ n _ => n | _ => 0
variable {w : World}
set_option maxRecDepth 20000 in
set_option maxHeartbeats 2000000 in
theorem decode18_c {ys : List Int} {p : Option Addr} {c : Nat} (hb : BytesAt w p ys) (hy : ∀ y ∈ ys, 0 ≤ y ∧ y < 256) (hl : ys.length ≤ 1000000) :
  callV Tryz.prog 62 [.slice p ys.length c] w fun v w' => ∃ sv, v = .tuple #[sv, .int .i64 (decodeM ys).2] ∧ OwnMsgs w' w.heap.size sv (decodeM ys).1 ∧ Fm none' w w' := by
 refine vc62 p ys.length c w _ ?_
 refine (reader25_c (base := w.heap.size) hb hy (by omega) (Nat.le_refl _)).mono ?_
 rintro _ w1 ⟨R, g, rfl, hR, hbr, hg, hf1⟩
 simp only [vq, eqV, nilV]
 refine allocC_of fun w4 hb4 hs4 hf4 => allocC_of fun w6 hb6 hs6 hf6 => ?_
 obtain ⟨A, hA⟩ : ∃ A, A = w1.heap.size := ⟨_, rfl⟩
 obtain ⟨N, hN⟩ : ∃ N, N = w4.heap.size := ⟨_, rfl⟩
 rw [← hA] at hb4
 rw [← hN] at hb6
 rw [← hA, ← hN]
 have hRl := hbr.lt
 have hF6 : Fm none' w w6 := (hf1.trans hf4).trans hf6
 have hws := hf1.size
 have hr6 : RdAt w6 w.heap.size A R ⟨byteBits ys, 0⟩ g := ⟨hf6.keep hb4 id, by omega, (fun e => by have := hRl.2 _ e; omega), hbr.keep (hf4.trans hf6) id fun _ _ y => y⟩
 have hgl := getR_lt (k := 5) hr6.2.2.2.bits
 refine (rnum30_c (k := 5) (by omega) hr6 hb6 (i := 0) rfl (by omega) (by omega) (fun e => by have := hRl.2 _ e; omega)).mono ?_
 rintro _ w8 ⟨rfl, hr8, hb8, hf8⟩
 obtain ⟨⟨n, s1⟩, hn⟩ : ∃ r, rdW 5 (⟨byteBits ys, 0⟩ : RS) = r := ⟨_, rfl⟩
 rw [hn] at hr8 hb8
 have hn1 : n = (getR 5 (byteBits ys)).1 := by
  have := congrArg Prod.fst hn
  exact this.symm
 have hnr : 0 ≤ n ∧ n < 32 := by rw [hn1]; exact hgl
 rw [w64 (by show _ ≤ n ∧ n ≤ _; omega)] at hb8
 have hb8' : w8.heap[N]? = some (.cells #[.int .i64 n] 3 (0, 0)) := hb8
 refine rd_of (v := .int .i64 n) (cellOf hb8' rfl) ?_
 simp only [vq, eqV, nilV]
 refine (within31_c _ hr8).mono ?_
 rintro _ w12 ⟨rfl, hr12, hf12⟩
 have hF8 : Fm none' w w8 := hF6.trans' hf8 (by rintro i hi (e | e | e) <;> omega)
 have hF12 : Fm none' w w12 := hF8.trans' hf12 (by rintro i hi e; omega)
 have hb12 := hf12.keep hb8' (by omega)
 obtain ⟨s2, hs2⟩ : ∃ s2, s2 = rdF (decide (n ≤ 16)) s1 := ⟨_, rfl⟩
 have hs2' : rdF (decide (n ≤ 16)) (n, s1).2 = s2 := hs2.symm
 rw [hs2'] at hr12
 obtain ⟨n0, hn0⟩ : ∃ n0 : Nat, n = n0 := ⟨n.toNat, by omega⟩
 subst hn0
 have hdec : decodeM ys = (let r := decGo n0 s2 []
   let s := rdF (restOk r.2.rem && decide (ys.length ≤ 1024)) r.2
   if s.e = 0 then (r.1, 0) else ([], s.e)) := by
  unfold decodeM
  rw [hn, hs2]
  rfl
 refine ⟨fun u w' => ∃ (s' : RS) (acc : List Msg) (sv : Value), u 6 = sv ∧ RdAt w' w.heap.size A R s' g ∧ w'.heap[N]? = some (.cells #[.int .i64 n0] 3 (0, 0)) ∧ OwnMsgs w' w.heap.size sv acc ∧ Fm none' w w' ∧ acc.length ≤ n0 ∧ decGo (n0 - acc.length) s' acc = decGo n0 s2 [],
  fun u _ => n0 - lenOf (u 6), ?_, ?_⟩
 ·exact ⟨s2, [], _, rfl, hr12, hb12, OwnMsgs.nil _ _, hF12, by simp, rfl⟩
 rintro u w16 ⟨s', acc, sv, h6, hr, hbN, hown, hF, hlen, hgo⟩
 change u 6 = sv at h6
 have hown' := hown
 obtain ⟨qs, hq1, hq2, hq3⟩ := hown
 obtain ⟨ps, cs, rfl, -, -⟩ := own_readS hq2
 simp only [h6, vq, eqV, nilV]
 refine rd_of (v := .int .i64 n0) (cellOf hbN rfl) ?_
 simp only [vq, eqV, nilV]
 have hrl := hr.lt
 have hNl := lt_of_blk hbN
 have hws16 := hF.size
 -- the end
 have fin : decGo n0 s2 [] = (acc, s') → ∀ (ok : Bool) (w51 : World), ok = (restOk s'.rem && decide (ys.length ≤ 1024)) → Fm none' w16 w51 →
   callV Tryz.prog 75 [.pointer (some ⟨A, 0, none⟩), .bool ok] w51 fun _ w54 => ∃ e : Int, (w54.heap[A]? = some (.cells #[.pointer (some ⟨R, 0, none⟩), .int .i64 e] 92 (0, 0))) ∧
    (e = 0 → ∃ sv, Value.tuple #[.slice ps acc.length cs, .int .i64 0] = .tuple #[sv, .int .i64 (decodeM ys).2] ∧ OwnMsgs w54 w.heap.size sv (decodeM ys).1 ∧ Fm none' w w54) ∧
    (e ≠ 0 → ∃ sv, Value.tuple #[.slice none 0 0, .int .i64 e] = .tuple #[sv, .int .i64 (decodeM ys).2] ∧ OwnMsgs w54.drew w.heap.size sv (decodeM ys).1 ∧ Fm none' w w54.drew) := by
  intro hd ok w51 hok hf51
  rw [hd] at hdec
  refine (within31_c ok (hr.keep hf51 id id fun _ _ y => y)).mono ?_
  rintro _ w54 ⟨-, h54, hf54⟩
  have hF54 : Fm none' w w54 := (hF.trans hf51).trans' hf54 (by rintro i hi e; omega)
  refine ⟨_, h54.1, fun he => ?_, fun he => ?_⟩
  ·have : decodeM ys = (acc, 0) := by
    rw [hdec]
    simp only []
    rw [← hok, if_pos he]
   rw [this]
   refine ⟨_, rfl, (hown'.keep hf51 fun _ _ _ _ _ _ => id).keep hf54 ?_, hF54⟩
   rintro i c t hc _ ht e
   have hA51 := hf51.keep hr.1 id
   rw [e, hA51] at hc
   cases hc; rcases ht with h | h <;> cases h
  ·have : decodeM ys = ([], (rdF ok s').e) := by
    rw [hdec]
    simp only []
    rw [← hok, if_neg he]
   rw [this]
   exact ⟨_, rfl, OwnMsgs.nil _ _, hF54.trans (Fm.drew w54)⟩
 have fin2 : decGo n0 s2 [] = (acc, s') → rd (w16.cell? ⟨A, 0, none⟩) fun v48 => isP v48 fun o49 => callV Tryz.prog 76 [.pointer o49] w16 fun v50 w51 => isB v50 fun t52 =>
   ∀ ok : Bool, ok = (t52 && decide (ys.length ≤ 1024)) → callV Tryz.prog 75 [.pointer (some ⟨A, 0, none⟩), .bool ok] w51 fun _ w54 => ∃ e : Int, (w54.heap[A]? = some (.cells #[.pointer (some ⟨R, 0, none⟩), .int .i64 e] 92 (0, 0))) ∧
    (e = 0 → ∃ sv, Value.tuple #[.slice ps acc.length cs, .int .i64 0] = .tuple #[sv, .int .i64 (decodeM ys).2] ∧ OwnMsgs w54 w.heap.size sv (decodeM ys).1 ∧ Fm none' w w54) ∧
    (e ≠ 0 → ∃ sv, Value.tuple #[.slice none 0 0, .int .i64 e] = .tuple #[sv, .int .i64 (decodeM ys).2] ∧ OwnMsgs w54.drew w.heap.size sv (decodeM ys).1 ∧ Fm none' w w54.drew) := by
  intro hd
  refine rd_of (v := .pointer (some ⟨R, 0, none⟩)) (cellOf hr.1 rfl) ?_
  simp only [vq, eqV, nilV]
  refine (rest32_c hr.2.2.2).mono ?_
  rintro _ w51 ⟨rfl, hf51⟩
  exact fun ok hok => fin hd ok w51 hok hf51
 have fin3 : decGo n0 s2 [] = (acc, s') → rd (w16.cell? ⟨A, 0, none⟩) fun v48 => isP v48 fun o49 => callV Tryz.prog 76 [.pointer o49] w16 fun v50 w51 => isB v50 fun t52 =>
   br t52 (callV Tryz.prog 75 [.pointer (some ⟨A, 0, none⟩), .bool (decide ((ys.length : Int) ≤ 1024))] w51 fun _ w54 => rd (w54.cell? ⟨A, 1, none⟩) fun v55 => isK .i64 v55 fun i56 =>
    br (!decide (i56 = 0)) (rd (w54.drew.cell? ⟨A, 1, none⟩) fun v57 => isK .i64 v57 fun i58 => ∃ sv, Value.tuple #[.slice none 0 0, .int .i64 i58] = .tuple #[sv, .int .i64 (decodeM ys).2] ∧ OwnMsgs w54.drew w.heap.size sv (decodeM ys).1 ∧ Fm none' w w54.drew)
     (∃ sv, Value.tuple #[.slice ps acc.length cs, .int .i64 0] = .tuple #[sv, .int .i64 (decodeM ys).2] ∧ OwnMsgs w54 w.heap.size sv (decodeM ys).1 ∧ Fm none' w w54))
    (callV Tryz.prog 75 [.pointer (some ⟨A, 0, none⟩), .bool false] w51 fun _ w54 => rd (w54.cell? ⟨A, 1, none⟩) fun v55 => isK .i64 v55 fun i56 =>
    br (!decide (i56 = 0)) (rd (w54.drew.cell? ⟨A, 1, none⟩) fun v57 => isK .i64 v57 fun i58 => ∃ sv, Value.tuple #[.slice none 0 0, .int .i64 i58] = .tuple #[sv, .int .i64 (decodeM ys).2] ∧ OwnMsgs w54.drew w.heap.size sv (decodeM ys).1 ∧ Fm none' w w54.drew)
     (∃ sv, Value.tuple #[.slice ps acc.length cs, .int .i64 0] = .tuple #[sv, .int .i64 (decodeM ys).2] ∧ OwnMsgs w54 w.heap.size sv (decodeM ys).1 ∧ Fm none' w w54)) := by
  intro hd
  have h := fin2 hd
  obtain ⟨v48, hv48, h⟩ := rd_ex h
  refine rd_of hv48 ?_
  cases v48 <;> simp only [isP] at h ⊢
  refine h.mono ?_
  intro v50 w51 h
  obtain ⟨t52, rfl, h⟩ := isB_ex h
  simp only [vq, eqV, nilV]
  have tail : ∀ (w54 : World), (∃ e : Int, (w54.heap[A]? = some (.cells #[.pointer (some ⟨R, 0, none⟩), .int .i64 e] 92 (0, 0))) ∧
    (e = 0 → ∃ sv, Value.tuple #[.slice ps acc.length cs, .int .i64 0] = .tuple #[sv, .int .i64 (decodeM ys).2] ∧ OwnMsgs w54 w.heap.size sv (decodeM ys).1 ∧ Fm none' w w54) ∧
    (e ≠ 0 → ∃ sv, Value.tuple #[.slice none 0 0, .int .i64 e] = .tuple #[sv, .int .i64 (decodeM ys).2] ∧ OwnMsgs w54.drew w.heap.size sv (decodeM ys).1 ∧ Fm none' w w54.drew)) →
    rd (w54.cell? ⟨A, 1, none⟩) fun v55 => isK .i64 v55 fun i56 =>
    br (!decide (i56 = 0)) (rd (w54.drew.cell? ⟨A, 1, none⟩) fun v57 => isK .i64 v57 fun i58 => ∃ sv, Value.tuple #[.slice none 0 0, .int .i64 i58] = .tuple #[sv, .int .i64 (decodeM ys).2] ∧ OwnMsgs w54.drew w.heap.size sv (decodeM ys).1 ∧ Fm none' w w54.drew)
     (∃ sv, Value.tuple #[.slice ps acc.length cs, .int .i64 0] = .tuple #[sv, .int .i64 (decodeM ys).2] ∧ OwnMsgs w54 w.heap.size sv (decodeM ys).1 ∧ Fm none' w w54) := by
   rintro w54 ⟨e, hA54, h0, h1⟩
   refine rd_of (v := .int .i64 e) (cellOf hA54 rfl) ?_
   simp only [vq, eqV, nilV]
   refine br_ndec (fun he => ?_) (fun he => h0 he)
   refine rd_of (v := .int .i64 e) (cellOf (w := w54.drew) (b := A) hA54 rfl) ?_
   simp only [vq, eqV, nilV]
   exact h1 he
  cases t52 with
  | true => exact (h (decide ((ys.length : Int) ≤ 1024)) (by rw [Bool.true_and, decide_eq_decide]; omega)).mono fun _ w54 h => tail w54 h
  | false => exact (h false rfl).mono fun _ w54 h => tail w54 h
 refine br_dec (fun hjn => ?_) (fun hjn => ?_)
 ·refine rd_of (v := .int .i64 s'.e) (cellOf hr.1 rfl) ?_
  simp only [vq, eqV, nilV]
  refine br_dec (fun he => ?_) (fun he => ?_)
  ·obtain ⟨m0, hm0⟩ : ∃ m0, n0 - acc.length = m0 + 1 := ⟨n0 - acc.length - 1, by omega⟩
   obtain ⟨kk, hkk⟩ : ∃ kk, kk = IntKind.i64.wrap (rdW 4 s').1 := ⟨_, rfl⟩
   rw [hm0] at hgo
   simp only [decGo, if_pos he, ← hkk] at hgo
   refine allocC_of fun w26 hb26 hs26 hf26 => ?_
   change w26.heap[w16.heap.size]? = some (.cells (msgC (blank 0) none 0).toArray 41 (0, 0)) at hb26
   obtain ⟨B, hB⟩ : ∃ B, B = w16.heap.size := ⟨_, rfl⟩
   rw [← hB] at hb26 ⊢
   have hr26 := hr.keep hf26 id id fun _ _ y => y
   have hBg : g ≠ some B := fun e => by have := hrl.2.2 _ e; omega
   refine (rnum30_c (k := 4) (i := 0) (x := 0) (by omega) hr26 hb26 rfl (by omega) (by omega) hBg).mono ?_
   rintro _ w28 ⟨rfl, hr28, hb28, hf28⟩
   rw [← hkk] at hb28
   change w28.heap[B]? = some (.cells (msgC (blank kk) none 0).toArray 41 (0, 0)) at hb28
   have hs28 := hf28.size
   refine (rfields22_c (k := kk) hr28 hb28 (by omega) (by omega) hBg (by omega)).mono ?_
   rintro _ w30 ⟨rfl, p30, c30, hr30, hb30, hf30, hown30, hfr30⟩
   simp only [vq, eqV, nilV]
   refine (within31_c _ hr30).mono ?_
   rintro _ w33 ⟨rfl, hr33, hf33⟩
   obtain ⟨m, hm⟩ : ∃ m, m = (rdFields kk (rdW 4 s').2).1 := ⟨_, rfl⟩
   rw [← hm] at hb30 hown30 hgo
   have hb33 := hf33.keep hb30 (by omega)
   refine rd_of (v := msgC m p30 c30) (cells_all hb33 rfl) ?_
   have hs30 := hf30.size
   have hs33 := hf33.size
   have hF33 : Fm (fun i => i = A ∨ i = R ∨ i = B) w16 w33 := ((hf26.none.trans hf28).trans hf30).trans (hf33.mono fun i _ e => .inl e)
   have hFw33 : Fm none' w w33 := hF.trans' hF33 (by rintro i hi (e | e | e) <;> omega)
   have hOR : ∀ i c t, w16.heap[i]? = some (.cells c t (0, 0)) → w.heap.size ≤ i → (t = 41 ∨ t = 5) → ¬ (i = A ∨ i = R ∨ i = B) := by
    rintro i c t hc _ ht (e | e | e)
    ·rw [e, hr.1] at hc; cases hc; rcases ht with h | h <;> cases h
    ·obtain ⟨vR, YR, nR, h1R, _⟩ := hr.2.2.2
     rw [e, h1R] at hc; cases hc; rcases ht with h | h <;> cases h
    ·have := lt_of_blk hc; omega
   have hO33 : OwnMsgs w33 w.heap.size (.slice ps acc.length cs) acc := hown'.keep hF33 hOR
   have hown33 : w33.ownsRow w.heap.size 5 1 (.slice p30 m.bytes.length c30) m.bytes.length (m.bytes.map (Value.int .u8)) := (hf33.owns hown30 (fun i hi e => by
    obtain ⟨_, cur, hc⟩ := own_block hown30 hi
    rw [e, hr30.1] at hc; cases hc))
   obtain ⟨qs', hl', ho', hb'⟩ := hO33
   refine append_S (by rw [row45]) row41 rfl (by omega) (by omega) rfl msgC_one ho' (by omega) (by simp only [maxLen]; omega) (by omega) fun v44 w44 hv44 hf44 hblk => ?_
   obtain ⟨p44, c44, rfl, -⟩ := own_readS hv44
   simp only [vq, eqV, nilV]
   have hlen' : (acc ++ [m]).length = acc.length + 1 := by simp
   have hsl : ∀ i, (Value.slice ps acc.length cs).ownBlock = some i → ∃ cur, w33.heap[i]? = some (.cells cur 41 (0, 0)) := fun i hi => (own_block ho' hi).2
   have hk44 : ∀ {i : Nat} {c : Array Value} {t : TypeId}, w33.heap[i]? = some (.cells c t (0, 0)) → t ≠ 41 → w44.heap[i]? = some (.cells c t (0, 0)) := fun hc ht => hf44.keep hc fun e => by
    obtain ⟨cur, hc'⟩ := hsl _ e
    rw [hc] at hc'; cases hc'; exact ht rfl
   have hF44 : Fm none' w w44 := hFw33.trans' hf44 (fun i hi e => by have := (own_block ho' e).1; omega)
   refine ⟨⟨rdF (known (blank kk)) (rdFields kk (rdW 4 s').2).2, acc ++ [m], _, rfl, ?_, hk44 (hF33.keep hbN (by rintro (e | e | e) <;> omega)) (by decide), ⟨qs' ++ [(p30, c30)], by simp [hl'], ?_, ?_⟩, hF44, by omega, ?_⟩, ?_⟩
   ·refine hr33.keep hf44 (fun e => ?_) (fun e => ?_) (fun i hi e => ?_)
    ·obtain ⟨cur, hc⟩ := hsl _ e
     rw [hr33.1] at hc; cases hc
    ·obtain ⟨cur, hc⟩ := hsl _ e
     obtain ⟨vR, YR, nR, h1R, _⟩ := hr33.2.2.2
     rw [h1R] at hc; cases hc
    ·obtain ⟨cur, hc⟩ := hsl _ e
     obtain ⟨vR, YR, nR, h1R, h2R, h3R, _⟩ := hr33.2.2.2
     obtain ⟨_, cur', hc'⟩ := own_block h2R (h3R.trans hi)
     rw [hc'] at hc; cases hc
   ·rw [hlen', List.zip_append hl'.symm, List.flatMap_append]
    have : [(m, (p30, c30))].flatMap (fun x : Msg × Option Addr × Nat => msgC x.1 x.2.1 x.2.2) = msgC m p30 c30 := by simp
    show w44.ownsRow _ _ _ _ _ (_ ++ [(m, (p30, c30))].flatMap _)
    rw [this]
    exact hv44
   ·intro j m' q' hj hq
    have keep5 : ∀ {q : Option Addr × Nat} {m : Msg}, w33.ownsRow w.heap.size 5 1 (.slice q.1 m.bytes.length q.2) m.bytes.length (m.bytes.map (Value.int .u8)) → w44.ownsRow w.heap.size 5 1 (.slice q.1 m.bytes.length q.2) m.bytes.length (m.bytes.map (Value.int .u8)) := fun h => hf44.owns h fun i hi e => by
     obtain ⟨cur, hc⟩ := hsl _ e
     obtain ⟨_, cur', hc'⟩ := own_block h hi
     rw [hc'] at hc; cases hc
    by_cases hjl : j < acc.length
    ·rw [List.getElem?_append_left hjl] at hj
     rw [List.getElem?_append_left (by omega)] at hq
     exact keep5 (hb' j m' q' hj hq)
    ·have hj1 : j = acc.length := by
      have := (List.getElem?_eq_some_iff.1 hj).1
      simp at this; omega
     subst hj1
     rw [List.getElem?_append_right (by omega)] at hj
     rw [List.getElem?_append_right (by omega)] at hq
     simp at hj
     simp [hl'] at hq
     subst hj hq
     exact keep5 (q := (p30, c30)) hown33
   ·rw [hlen', show n0 - (acc.length + 1) = m0 by omega]
    exact hgo
   ·show n0 - (acc.length + 1) < n0 - acc.length; omega
  ·have hd : decGo n0 s2 [] = (acc, s') := by
    rw [← hgo]
    cases hz : n0 - acc.length with
    | zero => rfl
    | succ z => simp only [decGo]; rw [if_neg he]
   exact fin3 hd
 ·have hd : decGo n0 s2 [] = (acc, s') := by
   rw [← hgo, show n0 - acc.length = 0 by omega]; rfl
  exact fin3 hd
end Go.Proofs.YtipikchkbmgloaaGreatDoor
namespace Go.Proofs.YtipikchkbmgloaaGreatDoor
set_option linter.unusedSimpArgs false
set_option linter.unusedVariables false
open Go VC
theorem vc14 (ap : Option Addr) (an : Nat) (ac : Nat) (bp : Option Addr) (bn : Nat) (bc : Nat) (w : World) (R : Value → World → Prop)
 (h : br (!decide ((↑an : Int) = (↑bn : Int))) (R (Value.bool false) w) (loopC (alist [((5 : Nat), Value.int IntKind.i64 (0 : Int))]) w fun u0 u1 => ∀ (u2 : Nat → Value) (w3 : World), u0 (alist [((5 : Nat), u2 (5 : Nat))]) w3 → isK IntKind.i64 (u2 (5 : Nat)) fun i5 => br (decide (i5 < (↑an : Int))) (isK IntKind.i64 (u2 (5 : Nat)) fun i6 => rd ap fun a7 => ((0 : Int) ≤ i6 ∧ i6 < (↑an : Int)) ∧ rd (cellsAt w3 (Addr.add a7 (Int.toNat i6 * (23 : Nat))) (23 : Nat)) fun l8 => allocC w3 (Obj.cells #[Value.int IntKind.i64 (0 : Int), Value.int IntKind.u16 (0 : Int), Value.int IntKind.u16 (0 : Int), Value.int IntKind.u8 (0 : Int), Value.int IntKind.i8 (0 : Int), Value.int IntKind.i8 (0 : Int), Value.int IntKind.i64 (0 : Int), Value.int IntKind.u16 (0 : Int), Value.int IntKind.i64 (0 : Int), Value.int IntKind.i64 (0 : Int), Value.int IntKind.i64 (0 : Int), Value.int IntKind.i64 (0 : Int), Value.int IntKind.i64 (0 : Int), Value.int IntKind.i64 (0 : Int), Value.int IntKind.i64 (0 : Int), Value.int IntKind.i64 (0 : Int), Value.int IntKind.i64 (0 : Int), Value.int IntKind.i64 (0 : Int), Value.int IntKind.i64 (0 : Int), Value.int IntKind.i64 (0 : Int), Value.int IntKind.u32 (0 : Int), Value.int IntKind.u32 (0 : Int), Value.slice none (0 : Nat) (0 : Nat)] (41 : Nat)) fun n9 w10 => rd (gd (List.length l8 == (23 : Nat))) fun _x => stC w10 { block := n9, off := (0 : Nat) : Addr } l8 fun w11 => isK IntKind.i64 (u2 (5 : Nat)) fun i12 => rd bp fun a13 => ((0 : Int) ≤ i12 ∧ i12 < (↑bn : Int)) ∧ rd (cellsAt w11 (Addr.add a13 (Int.toNat i12 * (23 : Nat))) (23 : Nat)) fun l14 => allocC w11 (Obj.cells #[Value.int IntKind.i64 (0 : Int), Value.int IntKind.u16 (0 : Int), Value.int IntKind.u16 (0 : Int), Value.int IntKind.u8 (0 : Int), Value.int IntKind.i8 (0 : Int), Value.int IntKind.i8 (0 : Int), Value.int IntKind.i64 (0 : Int), Value.int IntKind.u16 (0 : Int), Value.int IntKind.i64 (0 : Int), Value.int IntKind.i64 (0 : Int), Value.int IntKind.i64 (0 : Int), Value.int IntKind.i64 (0 : Int), Value.int IntKind.i64 (0 : Int), Value.int IntKind.i64 (0 : Int), Value.int IntKind.i64 (0 : Int), Value.int IntKind.i64 (0 : Int), Value.int IntKind.i64 (0 : Int), Value.int IntKind.i64 (0 : Int), Value.int IntKind.i64 (0 : Int), Value.int IntKind.i64 (0 : Int), Value.int IntKind.u32 (0 : Int), Value.int IntKind.u32 (0 : Int), Value.slice none (0 : Nat) (0 : Nat)] (41 : Nat)) fun n15 w16 => rd (gd (List.length l14 == (23 : Nat))) fun _x => stC w16 { block := n15, off := (0 : Nat) : Addr } l14 fun w17 => rd (World.cell? w17 { block := n9, off := (0 : Nat) : Addr }) fun v18 => isK IntKind.i64 v18 fun i19 => rd (World.cell? w17 { block := n15, off := (0 : Nat) : Addr }) fun v20 => isK IntKind.i64 v20 fun i21 => br (!decide (i19 = i21)) (R (Value.bool false) w17) (rd (World.cell? w17 { block := n9, off := (1 : Nat) : Addr }) fun v22 => isK IntKind.u16 v22 fun i23 => rd (World.cell? w17 { block := n15, off := (1 : Nat) : Addr }) fun v24 => isK IntKind.u16 v24 fun i25 => br (!decide (i23 = i25)) (R (Value.bool false) w17) (rd (cellsAt w17 { block := n9, off := (2 : Nat) : Addr } (5 : Nat)) fun l26 => rd (cellsAt w17 { block := n15, off := (2 : Nat) : Addr } (5 : Nat)) fun l27 => rd (Option.map (fun b => Value.bool !b) (eqL [(0 : Nat), (1 : Nat), (2 : Nat), (3 : Nat), (4 : Nat)] l26 l27)) fun v28 => isB v28 fun t29 => br t29 (R (Value.bool false) w17) (rd (World.cell? w17 { block := n9, off := (7 : Nat) : Addr }) fun v30 => isK IntKind.u16 v30 fun i31 => rd (World.cell? w17 { block := n15, off := (7 : Nat) : Addr }) fun v32 => isK IntKind.u16 v32 fun i33 => br (!decide (i31 = i33)) (R (Value.bool false) w17) (rd (World.cell? w17 { block := n9, off := (8 : Nat) : Addr }) fun v34 => isK IntKind.i64 v34 fun i35 => rd (World.cell? w17 { block := n15, off := (8 : Nat) : Addr }) fun v36 => isK IntKind.i64 v36 fun i37 => br (!decide (i35 = i37)) (R (Value.bool false) w17) (rd (World.cell? w17 { block := n9, off := (9 : Nat) : Addr }) fun v38 => isK IntKind.i64 v38 fun i39 => rd (World.cell? w17 { block := n15, off := (9 : Nat) : Addr }) fun v40 => isK IntKind.i64 v40 fun i41 => br (!decide (i39 = i41)) (R (Value.bool false) w17) (rd (cellsAt w17 { block := n9, off := (10 : Nat) : Addr } (3 : Nat)) fun l42 => rd (cellsAt w17 { block := n15, off := (10 : Nat) : Addr } (3 : Nat)) fun l43 => rd (Option.map (fun b => Value.bool !b) (eqL [(0 : Nat), (1 : Nat), (2 : Nat)] l42 l43)) fun v44 => isB v44 fun t45 => br t45 (R (Value.bool false) w17) (rd (World.cell? w17 { block := n9, off := (13 : Nat) : Addr }) fun v46 => isK IntKind.i64 v46 fun i47 => rd (World.cell? w17 { block := n15, off := (13 : Nat) : Addr }) fun v48 => isK IntKind.i64 v48 fun i49 => br (!decide (i47 = i49)) (R (Value.bool false) w17) (rd (cellsAt w17 { block := n9, off := (14 : Nat) : Addr } (3 : Nat)) fun l50 => rd (cellsAt w17 { block := n15, off := (14 : Nat) : Addr } (3 : Nat)) fun l51 => rd (Option.map (fun b => Value.bool !b) (eqL [(0 : Nat), (1 : Nat), (2 : Nat)] l50 l51)) fun v52 => isB v52 fun t53 => br t53 (R (Value.bool false) w17) (rd (cellsAt w17 { block := n9, off := (17 : Nat) : Addr } (3 : Nat)) fun l54 => rd (cellsAt w17 { block := n15, off := (17 : Nat) : Addr } (3 : Nat)) fun l55 => rd (Option.map (fun b => Value.bool !b) (eqL [(0 : Nat), (1 : Nat), (2 : Nat)] l54 l55)) fun v56 => isB v56 fun t57 => br t57 (R (Value.bool false) w17) (rd (World.cell? w17 { block := n9, off := (20 : Nat) : Addr }) fun v58 => isK IntKind.u32 v58 fun i59 => rd (World.cell? w17 { block := n15, off := (20 : Nat) : Addr }) fun v60 => isK IntKind.u32 v60 fun i61 => br (!decide (i59 = i61)) (R (Value.bool false) w17) (rd (World.cell? w17 { block := n9, off := (21 : Nat) : Addr }) fun v62 => isK IntKind.u32 v62 fun i63 => rd (World.cell? w17 { block := n15, off := (21 : Nat) : Addr }) fun v64 => isK IntKind.u32 v64 fun i65 => br (!decide (i63 = i65)) (R (Value.bool false) w17) (rd (World.cell? w17 { block := n9, off := (22 : Nat) : Addr }) fun v66 => isSl v66 fun o67 n68 n69 => runs Tryz.prog (convert (39 : Nat) (9 : Nat) (Value.slice o67 n68 n69)) w17 fun v70 w71 => isStr v70 fun x72 => rd (World.cell? w71 { block := n15, off := (22 : Nat) : Addr }) fun v73 => isSl v73 fun o74 n75 n76 => runs Tryz.prog (convert (39 : Nat) (9 : Nat) (Value.slice o74 n75 n76)) w71 fun v77 w78 => isStr v77 fun x79 => br (!decide (x72 = x79)) (R (Value.bool false) w78) (isK IntKind.i64 (u2 (5 : Nat)) fun i80 => again u0 u1 (alist [((5 : Nat), Value.int IntKind.i64 (IntKind.wrap IntKind.i64 (i80 + (1 : Int))))]) w78 (alist [((5 : Nat), u2 (5 : Nat))]) w3)))))))))))))) (R (Value.bool true) w3))) :
 callV Tryz.prog 14 [Value.slice ap an ac, Value.slice bp bn bc] w R :=
 vc_of hm ⟨fun _ => false, fun _ => .done, fun n => match n with | 4 => [5] | _ => []⟩ Tryz.func14 ent14 (by kernel_rfl) h
end Go.Proofs.YtipikchkbmgloaaGreatDoor
namespace Go.Proofs.YtipikchkbmgloaaGreatDoor
set_option linter.unusedSimpArgs false
set_option linter.unusedVariables false
open Go VC
theorem vc42 (a0 : Int) (a1 : Int) (a20 : Int) (a21 : Int) (a22 : Int) (a23 : Int) (a24 : Int) (a3 : Int) (a4 : Int) (a5 : Int) (a60 : Int) (a61 : Int) (a62 : Int) (a7 : Int) (a80 : Int) (a81 : Int) (a82 : Int) (a90 : Int) (a91 : Int) (a92 : Int) (a10 : Int) (a11 : Int) (a12p : Option Addr) (a12n : Nat) (a12c : Nat) (b0 : Int) (b1 : Int) (b20 : Int) (b21 : Int) (b22 : Int) (b23 : Int) (b24 : Int) (b3 : Int) (b4 : Int) (b5 : Int) (b60 : Int) (b61 : Int) (b62 : Int) (b7 : Int) (b80 : Int) (b81 : Int) (b82 : Int) (b90 : Int) (b91 : Int) (b92 : Int) (b10 : Int) (b11 : Int) (b12p : Option Addr) (b12n : Nat) (b12c : Nat) (w : World) (R : Value → World → Prop)
 (h : cutC (fun u0 => allocC w (Obj.cells #[Value.int IntKind.i64 a0, Value.int IntKind.u16 a1, Value.int IntKind.u16 a20, Value.int IntKind.u8 a21, Value.int IntKind.i8 a22, Value.int IntKind.i8 a23, Value.int IntKind.i64 a24, Value.int IntKind.u16 a3, Value.int IntKind.i64 a4, Value.int IntKind.i64 a5, Value.int IntKind.i64 a60, Value.int IntKind.i64 a61, Value.int IntKind.i64 a62, Value.int IntKind.i64 a7, Value.int IntKind.i64 a80, Value.int IntKind.i64 a81, Value.int IntKind.i64 a82, Value.int IntKind.i64 a90, Value.int IntKind.i64 a91, Value.int IntKind.i64 a92, Value.int IntKind.u32 a10, Value.int IntKind.u32 a11, Value.slice a12p a12n a12c] (41 : Nat)) fun n1 w2 => allocC w2 (Obj.cells #[Value.int IntKind.i64 b0, Value.int IntKind.u16 b1, Value.int IntKind.u16 b20, Value.int IntKind.u8 b21, Value.int IntKind.i8 b22, Value.int IntKind.i8 b23, Value.int IntKind.i64 b24, Value.int IntKind.u16 b3, Value.int IntKind.i64 b4, Value.int IntKind.i64 b5, Value.int IntKind.i64 b60, Value.int IntKind.i64 b61, Value.int IntKind.i64 b62, Value.int IntKind.i64 b7, Value.int IntKind.i64 b80, Value.int IntKind.i64 b81, Value.int IntKind.i64 b82, Value.int IntKind.i64 b90, Value.int IntKind.i64 b91, Value.int IntKind.i64 b92, Value.int IntKind.u32 b10, Value.int IntKind.u32 b11, Value.slice b12p b12n b12c] (41 : Nat)) fun n3 w4 => u0 (alist [((2 : Nat), Value.pointer (some { block := n1, off := (0 : Nat) : Addr })), ((3 : Nat), Value.pointer (some { block := n3, off := (0 : Nat) : Addr }))]) w4) fun u5 => ∀ (u6 : Nat → Value) (w7 : World), u5 (alist [((2 : Nat), u6 (2 : Nat)), ((3 : Nat), u6 (3 : Nat))]) w7 → cutC (fun u9 => isPtr (u6 (2 : Nat)) fun a10 => rd (World.cell? w7 a10) fun v11 => isK IntKind.i64 v11 fun i12 => isPtr (u6 (3 : Nat)) fun a13 => rd (World.cell? w7 a13) fun v14 => isK IntKind.i64 v14 fun i15 => br (decide (i12 = i15)) (isPtr (u6 (2 : Nat)) fun a16 => rd (World.cell? w7 (Addr.add a16 (1 : Nat))) fun v17 => isK IntKind.u16 v17 fun i18 => isPtr (u6 (3 : Nat)) fun a19 => rd (World.cell? w7 (Addr.add a19 (1 : Nat))) fun v20 => isK IntKind.u16 v20 fun i21 => br (decide (i18 = i21)) (isPtr (u6 (2 : Nat)) fun a22 => rd (cellsAt w7 (Addr.add a22 (2 : Nat)) (5 : Nat)) fun l23 => isPtr (u6 (3 : Nat)) fun a24 => rd (cellsAt w7 (Addr.add a24 (2 : Nat)) (5 : Nat)) fun l25 => rd (Option.map Value.bool (eqL [(0 : Nat), (1 : Nat), (2 : Nat), (3 : Nat), (4 : Nat)] l23 l25)) fun v26 => isB v26 fun t27 => br t27 (isPtr (u6 (2 : Nat)) fun a28 => rd (World.cell? w7 (Addr.add a28 (7 : Nat))) fun v29 => isK IntKind.u16 v29 fun i30 => isPtr (u6 (3 : Nat)) fun a31 => rd (World.cell? w7 (Addr.add a31 (7 : Nat))) fun v32 => isK IntKind.u16 v32 fun i33 => br (decide (i30 = i33)) (isPtr (u6 (2 : Nat)) fun a34 => rd (World.cell? w7 (Addr.add a34 (8 : Nat))) fun v35 => isK IntKind.i64 v35 fun i36 => isPtr (u6 (3 : Nat)) fun a37 => rd (World.cell? w7 (Addr.add a37 (8 : Nat))) fun v38 => isK IntKind.i64 v38 fun i39 => br (decide (i36 = i39)) (isPtr (u6 (2 : Nat)) fun a40 => rd (World.cell? w7 (Addr.add a40 (9 : Nat))) fun v41 => isK IntKind.i64 v41 fun i42 => isPtr (u6 (3 : Nat)) fun a43 => rd (World.cell? w7 (Addr.add a43 (9 : Nat))) fun v44 => isK IntKind.i64 v44 fun i45 => u9 (alist [((5 : Nat), Value.bool (decide (i42 = i45)))]) w7) (u9 (alist [((5 : Nat), Value.bool false)]) w7)) (u9 (alist [((5 : Nat), Value.bool false)]) w7)) (u9 (alist [((5 : Nat), Value.bool false)]) w7)) (u9 (alist [((5 : Nat), Value.bool false)]) w7)) (u9 (alist [((5 : Nat), Value.bool false)]) w7)) fun u46 => ∀ (u47 : Nat → Value) (w48 : World), u46 (alist [((5 : Nat), u47 (5 : Nat))]) w48 → isPtr (u6 (2 : Nat)) fun a50 => rd (cellsAt w48 (Addr.add a50 (10 : Nat)) (3 : Nat)) fun l51 => isPtr (u6 (3 : Nat)) fun a52 => rd (cellsAt w48 (Addr.add a52 (10 : Nat)) (3 : Nat)) fun l53 => rd (Option.map Value.bool (eqL [(0 : Nat), (1 : Nat), (2 : Nat)] l51 l53)) fun v54 => isB v54 fun t55 => br t55 (isPtr (u6 (2 : Nat)) fun a56 => rd (World.cell? w48 (Addr.add a56 (13 : Nat))) fun v57 => isK IntKind.i64 v57 fun i58 => isPtr (u6 (3 : Nat)) fun a59 => rd (World.cell? w48 (Addr.add a59 (13 : Nat))) fun v60 => isK IntKind.i64 v60 fun i61 => br (decide (i58 = i61)) (isPtr (u6 (2 : Nat)) fun a62 => rd (cellsAt w48 (Addr.add a62 (14 : Nat)) (3 : Nat)) fun l63 => isPtr (u6 (3 : Nat)) fun a64 => rd (cellsAt w48 (Addr.add a64 (14 : Nat)) (3 : Nat)) fun l65 => rd (Option.map Value.bool (eqL [(0 : Nat), (1 : Nat), (2 : Nat)] l63 l65)) fun v66 => isB v66 fun t67 => br t67 (isPtr (u6 (2 : Nat)) fun a68 => rd (cellsAt w48 (Addr.add a68 (17 : Nat)) (3 : Nat)) fun l69 => isPtr (u6 (3 : Nat)) fun a70 => rd (cellsAt w48 (Addr.add a70 (17 : Nat)) (3 : Nat)) fun l71 => rd (Option.map Value.bool (eqL [(0 : Nat), (1 : Nat), (2 : Nat)] l69 l71)) fun v72 => isB v72 fun t73 => br t73 (isPtr (u6 (2 : Nat)) fun a74 => rd (World.cell? w48 (Addr.add a74 (20 : Nat))) fun v75 => isK IntKind.u32 v75 fun i76 => isPtr (u6 (3 : Nat)) fun a77 => rd (World.cell? w48 (Addr.add a77 (20 : Nat))) fun v78 => isK IntKind.u32 v78 fun i79 => br (decide (i76 = i79)) (isPtr (u6 (2 : Nat)) fun a80 => rd (World.cell? w48 (Addr.add a80 (21 : Nat))) fun v81 => isK IntKind.u32 v81 fun i82 => isPtr (u6 (3 : Nat)) fun a83 => rd (World.cell? w48 (Addr.add a83 (21 : Nat))) fun v84 => isK IntKind.u32 v84 fun i85 => isB (u47 (5 : Nat)) fun t86 => br t86 (br (decide (i82 = i85)) (isPtr (u6 (2 : Nat)) fun a87 => rd (World.cell? w48 (Addr.add a87 (22 : Nat))) fun v88 => isSl v88 fun o89 n90 n91 => runs Tryz.prog (convert (39 : Nat) (9 : Nat) (Value.slice o89 n90 n91)) w48 fun v92 w93 => isStr v92 fun x94 => isPtr (u6 (3 : Nat)) fun a95 => rd (World.cell? w93 (Addr.add a95 (22 : Nat))) fun v96 => isSl v96 fun o97 n98 n99 => runs Tryz.prog (convert (39 : Nat) (9 : Nat) (Value.slice o97 n98 n99)) w93 fun v100 w101 => isStr v100 fun x102 => R (Value.bool (decide (x94 = x102))) w101) (R (Value.bool false) w48)) (R (Value.bool false) w48)) (isB (u47 (5 : Nat)) fun t103 => br t103 (R (Value.bool false) w48) (R (Value.bool false) w48))) (isB (u47 (5 : Nat)) fun t104 => br t104 (R (Value.bool false) w48) (R (Value.bool false) w48))) (isB (u47 (5 : Nat)) fun t105 => br t105 (R (Value.bool false) w48) (R (Value.bool false) w48))) (isB (u47 (5 : Nat)) fun t106 => br t106 (R (Value.bool false) w48) (R (Value.bool false) w48))) (isB (u47 (5 : Nat)) fun t107 => br t107 (R (Value.bool false) w48) (R (Value.bool false) w48))) :
 callV Tryz.prog 42 [Value.agg #[Value.int IntKind.i64 a0, Value.int IntKind.u16 a1, Value.int IntKind.u16 a20, Value.int IntKind.u8 a21, Value.int IntKind.i8 a22, Value.int IntKind.i8 a23, Value.int IntKind.i64 a24, Value.int IntKind.u16 a3, Value.int IntKind.i64 a4, Value.int IntKind.i64 a5, Value.int IntKind.i64 a60, Value.int IntKind.i64 a61, Value.int IntKind.i64 a62, Value.int IntKind.i64 a7, Value.int IntKind.i64 a80, Value.int IntKind.i64 a81, Value.int IntKind.i64 a82, Value.int IntKind.i64 a90, Value.int IntKind.i64 a91, Value.int IntKind.i64 a92, Value.int IntKind.u32 a10, Value.int IntKind.u32 a11, Value.slice a12p a12n a12c],
 Value.agg #[Value.int IntKind.i64 b0, Value.int IntKind.u16 b1, Value.int IntKind.u16 b20, Value.int IntKind.u8 b21, Value.int IntKind.i8 b22, Value.int IntKind.i8 b23, Value.int IntKind.i64 b24, Value.int IntKind.u16 b3, Value.int IntKind.i64 b4, Value.int IntKind.i64 b5, Value.int IntKind.i64 b60, Value.int IntKind.i64 b61, Value.int IntKind.i64 b62, Value.int IntKind.i64 b7, Value.int IntKind.i64 b80, Value.int IntKind.i64 b81, Value.int IntKind.i64 b82, Value.int IntKind.i64 b90, Value.int IntKind.i64 b91, Value.int IntKind.i64 b92, Value.int IntKind.u32 b10, Value.int IntKind.u32 b11, Value.slice b12p b12n b12c]] w R :=
 vc_of hm ⟨fun n => match n with | 1 => true | 2 => true | _ => false, fun _ => .done, fun n => match n with | 1 => [2, 3] | 2 => [5] | _ => []⟩ Tryz.func42 ent42 (by kernel_rfl) h
end Go.Proofs.YtipikchkbmgloaaGreatDoor
