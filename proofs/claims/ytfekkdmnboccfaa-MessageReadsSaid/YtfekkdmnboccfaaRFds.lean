/- message: what a reader reads of a message's fields.  Conditions: the reader lies as it is said to lie; the message lies elsewhere, empty but for its kind. -/
import Derived.Test.YtfekkdmnboccfaaRFld
namespace Go.Proofs.Ytfekkdmnboccfaa
set_option linter.unusedSimpArgs false
set_option linter.unusedVariables false
open Go Go.RowKit VC
def blank (k : Int) : Msg := ⟨k, 0, 0, 0, 0, 0, 0, 0, 0, 0, 0, 0, 0, 0, 0, 0, 0, 0, 0, 0, 0, 0, []⟩
def rdCmd (s : RS) : Msg × RS :=
  let a := rdW 16 s
  let b := rdW 2 a.2
  let c := rdS 8 b.2
  let d := rdS 8 c.2
  let t := rdW 3 d.2
  ({ blank 2 with cq := IntKind.u16.wrap a.1, cb := IntKind.u8.wrap b.1, cdx := IntKind.i8.wrap c.1, cdy := IntKind.i8.wrap d.1, ct := IntKind.i64.wrap (IntKind.i64.wrap t.1 + 1) }, t.2)
def rdFire (s : RS) : Msg × RS :=
  let a := rdW 16 s
  let b := rdW 1 a.2
  let x := stepV 18 65536 b.2
  let y := stepV 18 65536 x.2
  let z := stepV 18 65536 y.2
  ({ blank 3 with prov := IntKind.u16.wrap a.1, shot := IntKind.i64.wrap b.1, d0 := x.1, d1 := y.1, d2 := z.1 }, z.2)
def rdMoved (s : RS) : Msg × RS :=
  let a := rdW 16 s
  let x := stepV 32 (-1) a.2
  let y := stepV 32 (-1) x.2
  let z := stepV 32 (-1) y.2
  let x' := stepV 32 (-1) z.2
  let y' := stepV 32 (-1) x'.2
  let z' := stepV 32 (-1) y'.2
  ({ blank 6 with seq := IntKind.u16.wrap a.1, p0 := x.1, p1 := y.1, p2 := z.1, v0 := x'.1, v1 := y'.1, v2 := z'.1 }, z'.2)
def rdBound (s : RS) : Msg × RS :=
  let a := rdW 16 s
  let b := rdId a.2
  ({ blank 7 with prov := IntKind.u16.wrap a.1, id := b.1 }, b.2)
def rdWelcome (s : RS) : Msg × RS := ({ blank 5 with id := (rdId s).1 }, (rdId s).2)
def rdDenied (s : RS) : Msg × RS :=
  let a := rdW 16 s
  let b := rdW 4 a.2
  ({ blank 8 with prov := IntKind.u16.wrap a.1, why := IntKind.i64.wrap b.1 }, rdF (decide (1 ≤ IntKind.i64.wrap b.1) && decide (IntKind.i64.wrap b.1 ≤ 10)) b.2)
def rdSnap (s : RS) : Msg × RS :=
  let a := rdW 32 s
  let b := rdW 32 a.2
  let n := rdW 10 b.2
  let l := rdB n.1.toNat n.2 []
  ({ blank 9 with tick := IntKind.u32.wrap a.1, bse := IntKind.u32.wrap b.1, bytes := l.1 }, l.2)
def rdFields (k : Int) (s : RS) : Msg × RS :=
  if k = 2 then rdCmd s else if k = 3 then rdFire s else if k = 6 then rdMoved s else if k = 7 then rdBound s else if k = 5 then rdWelcome s else if k = 8 then rdDenied s else if k = 9 then rdSnap s else (blank k, s)
theorem vst3 {k : Nat} {d : Int} {s : RS} {C : Array Value} {i : Nat} {x y z : Int} {s1 s2 s3 : RS} (hx : stepV k d s = (x, s1)) (hy : stepV k d s1 = (y, s2)) (hz : stepV k d s2 = (z, s3)) :
    vst k d s C i 3 = (s3, ((C.setIfInBounds i (.int .i64 x)).setIfInBounds (i + 1) (.int .i64 y)).setIfInBounds (i + 2) (.int .i64 z)) := by
  simp only [vst, hx, hy, hz, Nat.add_zero]
variable {w : World} {base A R B tB : Nat} {g : Option Nat} {s : RS}
/-- What fields give: whether the kind is known; the message; the state. -/
def FdR (base A R B tB : Nat) (g : Option Nat) (w : World) (k : Int) (r : Msg × RS) (v : Value) (w' : World) : Prop :=
  v = .bool (known (blank k)) ∧ ∃ p cp, RdAt w' base A R r.2 g ∧ w'.heap[B]? = some (.cells (msgC r.1 p cp).toArray tB (0, 0)) ∧ Fm (fun i => i = A ∨ i = R ∨ i = B) w w' ∧
    w'.ownsRow base 5 1 (.slice p r.1.bytes.length cp) r.1.bytes.length (r.1.bytes.map (Value.int .u8)) ∧ (∀ ad, p = some ad → w.heap.size ≤ ad.block)
theorem FdR.plain {k : Int} {r : Msg × RS} {w' : World} (hk : known (blank k) = true) (hb : r.1.bytes = []) (h : RdAt w' base A R r.2 g) (hB : w'.heap[B]? = some (.cells (msgC r.1 none 0).toArray tB (0, 0))) (hf : Fm (fun i => i = A ∨ i = R ∨ i = B) w w') :
    FdR base A R B tB g w k r (.bool true) w' := ⟨by rw [hk], none, 0, h, hB, hf, by rw [hb]; exact ⟨rfl, .inl ⟨rfl, rfl⟩⟩, fun _ e => by cases e⟩
theorem chainR {f : FuncId} {args : List Value} {C : Array Value} {s' : RS} {Q : Value → World → Prop} (h : callV Try.prog f args w (RdP base A R B tB g w s' C))
    (k : ∀ w1, RdAt w1 base A R s' g → w1.heap[B]? = some (.cells C tB (0, 0)) → Fm (fun i => i = A ∨ i = R ∨ i = B) w w1 → Q (.tuple #[]) w1) : callV Try.prog f args w Q :=
  h.mono fun v w1 ⟨e, h1, h2, h3⟩ => by subst e; exact k w1 h1 h2 h3
set_option maxHeartbeats 4000000 in
set_option maxRecDepth 20000 in
theorem rfields22_c {k : Int} (h : RdAt w base A R s g) (hB : w.heap[B]? = some (.cells (msgC (blank k) none 0).toArray tB (0, 0))) (hBA : B ≠ A) (hBR : B ≠ R) (hBg : g ≠ some B) (hbase : base ≤ w.heap.size) :
    callV Try.prog 22 [rv A, .pointer (some ⟨B, 0, none⟩)] w (FdR base A R B tB g w k (rdFields k s)) := by
  have hBl := lt_of_blk hB
  refine vc22 _ ⟨B, 0, none⟩ w _ (rd_of (v := .int .i64 k) (cellOf hB rfl) ?_)
  simp only [isB_i, isK_i, isP_i, isTup_i, isInt_i, isSl_i, isPtr_i, isCs_i, isStr_i, isFn_i, isIf_i, rd_i, br_t, br_f, orO_s, orO_n, gd_t, bv_add, bv_sub, bv_mul, bv_eql, bv_neq, bv_lss, bv_leq, bv_gtr, bv_geq, bv_quo, bv_rem, bv_shl, bv_shr, bv_seq, bv_sne, bv_ptr, bv_if, bv_map, bv_nf, bv_bool, bv_sl, bv_fn, uv_not, uv_neg, eqV, nilV, nc_ptr, nc_fn, nc_if, Option.map_some, toN, Nat.mul_one, implies_true, true_and, and_true, and_self, addr_add, Nat.zero_add]
  refine ⟨fun _ w' => w = w' ∧ k = 8, ?_, ?_⟩
  · refine br_dec (fun k1 => ?_) (fun k1 => ?_)
    · have : rdFields k s = (blank k, s) := by unfold rdFields; rw [k1]; rfl
      rw [this]
      exact FdR.plain (by rw [k1]; rfl) rfl h hB (Fm.refl _ _)
    refine br_dec (fun k4 => ?_) (fun k4 => ?_)
    · have : rdFields k s = (blank k, s) := by unfold rdFields; rw [k4]; rfl
      rw [this]
      exact FdR.plain (by rw [k4]; rfl) rfl h hB (Fm.refl _ _)
    refine br_dec (fun k2 => ?_) (fun k2 => ?_)
    · subst k2
      obtain ⟨⟨a, s1⟩, ha⟩ : ∃ r, rdW 16 s = r := ⟨_, rfl⟩
      obtain ⟨⟨b, s2⟩, hb⟩ : ∃ r, rdW 2 s1 = r := ⟨_, rfl⟩
      obtain ⟨⟨x, s3⟩, hx⟩ : ∃ r, rdS 8 s2 = r := ⟨_, rfl⟩
      obtain ⟨⟨y, s4⟩, hy⟩ : ∃ r, rdS 8 s3 = r := ⟨_, rfl⟩
      obtain ⟨⟨t, s5⟩, ht⟩ : ∃ r, rdW 3 s4 = r := ⟨_, rfl⟩
      have hr : rdFields 2 s = ({ blank 2 with cq := IntKind.u16.wrap a, cb := IntKind.u8.wrap b, cdx := IntKind.i8.wrap x, cdy := IntKind.i8.wrap y, ct := IntKind.i64.wrap (IntKind.i64.wrap t + 1) }, s5) := by
        show rdCmd s = _
        unfold rdCmd
        simp only [ha, hb, hx, hy, ht]
      rw [hr]
      refine chainR (rcommand40_c (i := 2) h hB rfl rfl rfl rfl rfl hBA hBR hBg) fun w1 h1 hB1 hf1 => ?_
      have hc : ∀ C : Array Value, rdC s C 2 = (s5, ((((C.setIfInBounds 2 (.int .u16 (IntKind.u16.wrap a))).setIfInBounds 3 (.int .u8 (IntKind.u8.wrap b))).setIfInBounds 4 (.int .i8 (IntKind.i8.wrap x))).setIfInBounds 5 (.int .i8 (IntKind.i8.wrap y))).setIfInBounds 6 (.int .i64 (IntKind.i64.wrap (IntKind.i64.wrap t + 1)))) := by
        intro C
        unfold rdC
        simp only [ha, hb, dst, hx, hy, ht, Nat.add_zero, Nat.reduceAdd]
      rw [hc] at h1 hB1
      exact FdR.plain rfl rfl h1 hB1 hf1
    refine br_dec (fun k3 => ?_) (fun k3 => ?_)
    · subst k3
      obtain ⟨⟨a, s1⟩, ha⟩ : ∃ r, rdW 16 s = r := ⟨_, rfl⟩
      obtain ⟨⟨b, s2⟩, hb⟩ : ∃ r, rdW 1 s1 = r := ⟨_, rfl⟩
      obtain ⟨⟨x, s3⟩, hx⟩ : ∃ r, stepV 18 65536 s2 = r := ⟨_, rfl⟩
      obtain ⟨⟨y, s4⟩, hy⟩ : ∃ r, stepV 18 65536 s3 = r := ⟨_, rfl⟩
      obtain ⟨⟨z, s5⟩, hz⟩ : ∃ r, stepV 18 65536 s4 = r := ⟨_, rfl⟩
      have hr : rdFields 3 s = ({ blank 3 with prov := IntKind.u16.wrap a, shot := IntKind.i64.wrap b, d0 := x, d1 := y, d2 := z }, s5) := by
        show rdFire s = _
        unfold rdFire
        simp only [ha, hb, hx, hy, hz]
      rw [hr]
      refine chainR (rnum41_c (k := 16) (by omega) h hB (i := 7) rfl hBA hBR hBg) fun w1 h1 hB1 hf1 => ?_
      rw [ha] at h1 hB1
      refine chainR (rnum30_c (k := 1) (i := 9) (x := 0) (by omega) h1 hB1 rfl hBA hBR hBg) fun w2 h2 hB2 hf2 => ?_
      rw [hb] at h2 hB2
      refine chainR (rvec42_c (k := 18) (d := 65536) (i := 10) (x0 := 0) (x1 := 0) (x2 := 0) (by omega) h2 hB2 rfl rfl rfl hBA hBR hBg) fun w3 h3 hB3 hf3 => ?_
      rw [vst3 hx hy hz] at h3 hB3
      exact FdR.plain rfl rfl h3 hB3 ((hf1.trans hf2).trans hf3)
    refine br_dec (fun k6 => ?_) (fun k6 => ?_)
    · subst k6
      obtain ⟨⟨a, s1⟩, ha⟩ : ∃ r, rdW 16 s = r := ⟨_, rfl⟩
      obtain ⟨⟨x, s3⟩, hx⟩ : ∃ r, stepV 32 (-1) s1 = r := ⟨_, rfl⟩
      obtain ⟨⟨y, s4⟩, hy⟩ : ∃ r, stepV 32 (-1) s3 = r := ⟨_, rfl⟩
      obtain ⟨⟨z, s5⟩, hz⟩ : ∃ r, stepV 32 (-1) s4 = r := ⟨_, rfl⟩
      obtain ⟨⟨x', s6⟩, hx'⟩ : ∃ r, stepV 32 (-1) s5 = r := ⟨_, rfl⟩
      obtain ⟨⟨y', s7⟩, hy'⟩ : ∃ r, stepV 32 (-1) s6 = r := ⟨_, rfl⟩
      obtain ⟨⟨z', s8⟩, hz'⟩ : ∃ r, stepV 32 (-1) s7 = r := ⟨_, rfl⟩
      have hr : rdFields 6 s = ({ blank 6 with seq := IntKind.u16.wrap a, p0 := x, p1 := y, p2 := z, v0 := x', v1 := y', v2 := z' }, s8) := by
        show rdMoved s = _
        unfold rdMoved
        simp only [ha, hx, hy, hz, hx', hy', hz']
      rw [hr]
      refine chainR (rnum41_c (k := 16) (by omega) h hB (i := 1) rfl hBA hBR hBg) fun w1 h1 hB1 hf1 => ?_
      rw [ha] at h1 hB1
      refine chainR (rvec42_c (k := 32) (d := -1) (i := 14) (x0 := 0) (x1 := 0) (x2 := 0) (by omega) h1 hB1 rfl rfl rfl hBA hBR hBg) fun w2 h2 hB2 hf2 => ?_
      rw [vst3 hx hy hz] at h2 hB2
      refine chainR (rvec42_c (k := 32) (d := -1) (i := 17) (x0 := 0) (x1 := 0) (x2 := 0) (by omega) h2 hB2 rfl rfl rfl hBA hBR hBg) fun w3 h3 hB3 hf3 => ?_
      rw [vst3 hx' hy' hz'] at h3 hB3
      exact FdR.plain rfl rfl h3 hB3 ((hf1.trans hf2).trans hf3)
    refine br_dec (fun k7 => ?_) (fun k7 => ?_)
    · subst k7
      refine chainR (rnum41_c (k := 16) (by omega) h hB (i := 7) rfl hBA hBR hBg) fun w1 h1 hB1 hf1 => ?_
      refine chainR (rid43_c (i := 8) (x := 0) h1 hB1 rfl hBA hBR hBg) fun w2 h2 hB2 hf2 => ?_
      exact FdR.plain (r := rdBound s) rfl rfl h2 hB2 (hf1.trans hf2)
    refine br_dec (fun k5 => ?_) (fun k5 => ?_)
    · subst k5
      refine chainR (rid43_c (i := 8) (x := 0) h hB rfl hBA hBR hBg) fun w2 h2 hB2 hf2 => ?_
      exact FdR.plain (r := rdWelcome s) rfl rfl h2 hB2 hf2
    refine br_dec (fun k8 => ⟨rfl, k8⟩) (fun k8 => ?_)
    refine br_dec (fun k9 => ?_) (fun k9 => ?_)
    · subst k9
      refine chainR (rnum45_c (k := 32) (by omega) h hB (i := 20) rfl hBA hBR hBg) fun w1 h1 hB1 hf1 => ?_
      refine chainR (rnum45_c (k := 32) (i := 21) (x := 0) (by omega) h1 hB1 rfl hBA hBR hBg) fun w2 h2 hB2 hf2 => ?_
      have hB2' : w2.drew.heap[B]? = _ := hB2
      have hF2 : Fm (fun i => i = A ∨ i = R ∨ i = B) w w2.drew := (hf1.trans hf2).trans (Fm.drew w2).none
      refine ⟨fun w' => True, trivial, ?_⟩
      simp only [isB_i, isK_i, isP_i, isTup_i, isInt_i, isSl_i, isPtr_i, isCs_i, isStr_i, isFn_i, isIf_i, rd_i, br_t, br_f, orO_s, orO_n, gd_t, bv_add, bv_sub, bv_mul, bv_eql, bv_neq, bv_lss, bv_leq, bv_gtr, bv_geq, bv_quo, bv_rem, bv_shl, bv_shr, bv_seq, bv_sne, bv_ptr, bv_if, bv_map, bv_nf, bv_bool, bv_sl, bv_fn, uv_not, uv_neg, eqV, nilV, nc_ptr, nc_fn, nc_if, Option.map_some, toN, Nat.mul_one, implies_true, true_and, and_true, and_self]
      refine rnila_bytes ⟨fun _ _ => rnila_bytes trivial, rmeth_bytes ?_⟩
      refine (bytes85_c (i := 22) h2.drew hB2' rfl hBA hBR hBg (Nat.le_trans hbase hF2.size)).mono ?_
      rintro v3 w3 ⟨p, cp, ⟨rfl, h3, hB3, hf3⟩, hown, hfr⟩
      exact ⟨rfl, p, cp, h3, hB3, hF2.trans hf3, hown, fun ad e => Nat.le_trans hF2.size (hfr ad e)⟩
    · have : rdFields k s = (blank k, s) := by unfold rdFields; rw [if_neg k2, if_neg k3, if_neg k6, if_neg k7, if_neg k5, if_neg k8, if_neg k9]
      rw [this]
      have hk : known (blank k) = false := by
        unfold known
        rw [Bool.and_eq_false_iff, decide_eq_false_iff_not, decide_eq_false_iff_not]
        show ¬ 1 ≤ k ∨ ¬ k ≤ 9
        omega
      exact ⟨by rw [hk], none, 0, h, hB, Fm.refl _ _, ⟨rfl, .inl ⟨rfl, rfl⟩⟩, fun _ e => by cases e⟩
  · rintro u53 w54 ⟨e0, k8⟩
    subst e0
    subst k8
    refine chainR (rnum41_c (k := 16) (by omega) h hB (i := 7) rfl hBA hBR hBg) fun w1 h1 hB1 hf1 => ?_
    refine chainR (rnum44_c (k := 4) (i := 13) (x := 0) (by omega) h1 hB1 rfl hBA hBR hBg) fun w2 h2 hB2 hf2 => ?_
    have hB2' : w2.drew.heap[B]? = _ := hB2
    have hF2 : Fm (fun i => i = A ∨ i = R ∨ i = B) w w2.drew := (hf1.trans hf2).trans (Fm.drew w2).none
    obtain ⟨y, hy⟩ : ∃ y, IntKind.i64.wrap (rdW 4 (rdW 16 s).2).1 = y := ⟨_, rfl⟩
    rw [hy] at hB2'
    have fin : ∀ b : Bool, b = (decide (1 ≤ y) && decide (y ≤ 10)) → callV Try.prog 31 [.pointer (some ⟨A, 0, none⟩), .bool b] w2.drew fun v w' => w'.heap[B]? = w2.drew.heap[B]? ∧ FdR base A R B tB g w 8 (rdDenied s) (.bool true) w' := by
      intro b hb
      refine (within31_c b h2.drew).mono ?_
      rintro _ w3 ⟨rfl, h3, hf3⟩
      have hB3 := hf3.keep hB2' hBA
      refine ⟨hB3.trans hB2'.symm, FdR.plain (r := rdDenied s) rfl rfl ?_ ?_ (hF2.trans (hf3.mono fun i _ e => .inl e))⟩
      · rw [hb, ← hy] at h3; exact h3
      · rw [← hy] at hB3; exact hB3
    refine ⟨fun w' => w'.heap[B]? = w2.drew.heap[B]?, rfl, ?_⟩
    simp only [isB_i, isK_i, isP_i, isTup_i, isInt_i, isSl_i, isPtr_i, isCs_i, isStr_i, isFn_i, isIf_i, rd_i, br_t, br_f, orO_s, orO_n, gd_t, bv_add, bv_sub, bv_mul, bv_eql, bv_neq, bv_lss, bv_leq, bv_gtr, bv_geq, bv_quo, bv_rem, bv_shl, bv_shr, bv_seq, bv_sne, bv_ptr, bv_if, bv_map, bv_nf, bv_bool, bv_sl, bv_fn, uv_not, uv_neg, eqV, nilV, nc_ptr, nc_fn, nc_if, Option.map_some, toN, Nat.mul_one, implies_true, true_and, and_true, and_self]
    refine rd_of (v := .int .i64 y) (cellOf hB2' rfl) ⟨fun w' hw => rd_of (cellOf (hw.trans hB2') rfl) rfl, ?_⟩
    simp only [isB_i, isK_i, isP_i, isTup_i, isInt_i, isSl_i, isPtr_i, isCs_i, isStr_i, isFn_i, isIf_i, rd_i, br_t, br_f, orO_s, orO_n, gd_t, bv_add, bv_sub, bv_mul, bv_eql, bv_neq, bv_lss, bv_leq, bv_gtr, bv_geq, bv_quo, bv_rem, bv_shl, bv_shr, bv_seq, bv_sne, bv_ptr, bv_if, bv_map, bv_nf, bv_bool, bv_sl, bv_fn, uv_not, uv_neg, eqV, nilV, nc_ptr, nc_fn, nc_if, Option.map_some, toN, Nat.mul_one, implies_true, true_and, and_true, and_self]
    refine br_dec (fun hd1 => ?_) (fun hd1 => ?_)
    · refine rd_of (v := .int .i64 y) (cellOf hB2' rfl) ⟨fun w' hw => rd_of (cellOf (hw.trans hB2') rfl) rfl, ?_⟩
      simp only [isB_i, isK_i, isP_i, isTup_i, isInt_i, isSl_i, isPtr_i, isCs_i, isStr_i, isFn_i, isIf_i, rd_i, br_t, br_f, orO_s, orO_n, gd_t, bv_add, bv_sub, bv_mul, bv_eql, bv_neq, bv_lss, bv_leq, bv_gtr, bv_geq, bv_quo, bv_rem, bv_shl, bv_shr, bv_seq, bv_sne, bv_ptr, bv_if, bv_map, bv_nf, bv_bool, bv_sl, bv_fn, uv_not, uv_neg, eqV, nilV, nc_ptr, nc_fn, nc_if, Option.map_some, toN, Nat.mul_one, implies_true, true_and, and_true, and_self]
      refine rnila_within ⟨fun _ _ => rnila_within trivial, rmeth_within ?_⟩
      exact fin _ (by rw [decide_eq_true hd1]; rfl)
    · refine rnila_within ⟨fun _ _ => rnila_within trivial, rmeth_within ?_⟩
      exact fin false (by rw [decide_eq_false hd1]; rfl)
end Go.Proofs.Ytfekkdmnboccfaa
