/- message: the messages of bytes.  Conditions: the bytes may be read; at most a million. -/
import Derived.Test.YtfekkdmnboccfaaEnc
namespace Go.Proofs.Ytfekkdmnboccfaa
set_option linter.unusedSimpArgs false
set_option linter.unusedVariables false
open Go Go.RowKit VC
/-- Messages that are owned, all in blocks from base on. -/
def OwnMsgs (w : World) (base : Nat) (sv : Value) (ms : List Msg) : Prop :=
  ∃ qs : List (Option Addr × Nat), qs.length = ms.length ∧ w.ownsRow base 40 23 sv ms.length ((ms.zip qs).flatMap fun x => msgC x.1 x.2.1 x.2.2) ∧
    ∀ (j : Nat) (m : Msg) (q : Option Addr × Nat), ms[j]? = some m → qs[j]? = some q → w.ownsRow base 5 1 (.slice q.1 m.bytes.length q.2) m.bytes.length (m.bytes.map (Value.int .u8))
theorem own_tag {w : World} {base e size n : Nat} {v : Value} {xs : List Value} {i t : Nat} {c : Array Value} (h : w.ownsRow base e size v n xs) (hi : w.heap[i]? = some (.cells c t (0, 0))) (hne : t ≠ e) : v.ownBlock ≠ some i := fun ho => by
  obtain ⟨_, cur, hc⟩ := own_block h ho
  rw [hi] at hc
  cases hc; exact hne rfl
theorem OwnMsgs.nil (w : World) (base : Nat) : OwnMsgs w base (.slice none 0 0) [] := ⟨[], rfl, ⟨rfl, .inl ⟨rfl, rfl⟩⟩, fun j m q h => by simp at h⟩
theorem OwnMsgs.keep {w w' : World} {base : Nat} {sv : Value} {ms : List Msg} {S : Nat → Prop} (h : OwnMsgs w base sv ms) (f : Fm S w w') (hS : ∀ i c t, w.heap[i]? = some (.cells c t (0, 0)) → base ≤ i → (t = 40 ∨ t = 5) → ¬ S i) : OwnMsgs w' base sv ms := by
  obtain ⟨qs, h1, h2, h3⟩ := h
  refine ⟨qs, h1, f.owns h2 fun i hi => ?_, fun j m q hj hq => f.owns (h3 j m q hj hq) fun i hi => ?_⟩
  · obtain ⟨hb, cur, hc⟩ := own_block h2 hi; exact hS i _ _ hc hb (.inl rfl)
  · obtain ⟨hb, cur, hc⟩ := own_block (h3 j m q hj hq) hi; exact hS i _ _ hc hb (.inr rfl)
/-- All messages, one behind the other, as long as nothing is wrong. -/
def decGo : Nat → RS → List Msg → List Msg × RS
  | 0, s, acc => (acc, s)
  | n + 1, s, acc => if s.e = 0 then
      decGo n (rdF (known (blank (IntKind.i64.wrap (rdW 4 s).1))) (rdFields (IntKind.i64.wrap (rdW 4 s).1) (rdW 4 s).2).2) (acc ++ [(rdFields (IntKind.i64.wrap (rdW 4 s).1) (rdW 4 s).2).1])
    else (acc, s)
def decodeM (ys : List Int) : List Msg × Int :=
  let n := rdW 5 ⟨byteBits ys, 0⟩
  let r := decGo n.1.toNat (rdF (decide (n.1 ≤ 16)) n.2) []
  let s := rdF (restOk r.2.rem && decide (ys.length ≤ 1024)) r.2
  if s.e = 0 then (r.1, 0) else ([], s.e)
def lenOf (v : Value) : Nat := match v with | .slice _ n _ => n | _ => 0
variable {w : World}
set_option maxRecDepth 20000 in
set_option maxHeartbeats 2000000 in
theorem decode18_c {ys : List Int} {p : Option Addr} {c : Nat} (hb : BytesAt w p ys) (hy : ∀ y ∈ ys, 0 ≤ y ∧ y < 256) (hl : ys.length ≤ 1000000) :
    callV Try.prog 18 [.slice p ys.length c] w fun v w' => ∃ sv, v = .tuple #[sv, .int .i64 (decodeM ys).2] ∧ OwnMsgs w' w.heap.size sv (decodeM ys).1 ∧ Fm none' w w' := by
  refine vc18 p ys.length c w _ ?_
  refine (reader25_c (base := w.heap.size) hb hy (by omega) (Nat.le_refl _)).mono ?_
  rintro _ w1 ⟨R, g, rfl, hR, hbr, hg, hf1⟩
  simp only [isB_i, isK_i, isP_i, isTup_i, isInt_i, isSl_i, isPtr_i, isCs_i, isStr_i, isFn_i, isIf_i, rd_i, br_t, br_f, orO_s, orO_n, gd_t, bv_add, bv_sub, bv_mul, bv_eql, bv_neq, bv_lss, bv_leq, bv_gtr, bv_geq, bv_quo, bv_rem, bv_shl, bv_shr, bv_seq, bv_sne, bv_ptr, bv_if, bv_map, bv_nf, bv_bool, bv_sl, bv_fn, uv_not, uv_neg, eqV, nilV, nc_ptr, nc_fn, nc_if, Option.map_some, toN, Nat.mul_one, implies_true, true_and, and_true, and_self]
  refine allocC_of fun w4 hb4 hs4 hf4 => allocC_of fun w6 hb6 hs6 hf6 => ?_
  obtain ⟨A, hA⟩ : ∃ A, A = w1.heap.size := ⟨_, rfl⟩
  obtain ⟨N, hN⟩ : ∃ N, N = w4.heap.size := ⟨_, rfl⟩
  rw [← hA] at hb4
  rw [← hN] at hb6
  rw [← hA, ← hN]
  have hRl := hbr.lt
  have hF6 : Fm none' w w6 := (hf1.trans hf4).trans hf6
  have hws := hf1.size
  have hr6 : RdAt w6 w.heap.size A R ⟨byteBits ys, 0⟩ g := ⟨hf6.keep hb4 id, by omega, (fun e => by have := hRl.2 _ e; omega), hbr.keep (hf4.trans hf6) id fun _ _ y => y⟩
  have hgl := getR_lt (k := 5) hr6.2.2.2.bits
  refine (rnum30_c (k := 5) (by omega) hr6 hb6 (i := 0) rfl (by omega) (by omega) (fun e => by have := hRl.2 _ e; omega)).mono ?_
  rintro _ w8 ⟨rfl, hr8, hb8, hf8⟩
  obtain ⟨⟨n, s1⟩, hn⟩ : ∃ r, rdW 5 (⟨byteBits ys, 0⟩ : RS) = r := ⟨_, rfl⟩
  rw [hn] at hr8 hb8
  have hn1 : n = (getR 5 (byteBits ys)).1 := by
    have := congrArg Prod.fst hn
    exact this.symm
  have hnr : 0 ≤ n ∧ n < 32 := by rw [hn1]; exact hgl
  rw [w64 (by show _ ≤ n ∧ n ≤ _; omega)] at hb8
  have hb8' : w8.heap[N]? = some (.cells #[.int .i64 n] 3 (0, 0)) := hb8
  refine rd_of (v := .int .i64 n) (cellOf hb8' rfl) ?_
  simp only [isB_i, isK_i, isP_i, isTup_i, isInt_i, isSl_i, isPtr_i, isCs_i, isStr_i, isFn_i, isIf_i, rd_i, br_t, br_f, orO_s, orO_n, gd_t, bv_add, bv_sub, bv_mul, bv_eql, bv_neq, bv_lss, bv_leq, bv_gtr, bv_geq, bv_quo, bv_rem, bv_shl, bv_shr, bv_seq, bv_sne, bv_ptr, bv_if, bv_map, bv_nf, bv_bool, bv_sl, bv_fn, uv_not, uv_neg, eqV, nilV, nc_ptr, nc_fn, nc_if, Option.map_some, toN, Nat.mul_one, implies_true, true_and, and_true, and_self]
  refine (within31_c _ hr8).mono ?_
  rintro _ w12 ⟨rfl, hr12, hf12⟩
  have hF8 : Fm none' w w8 := hF6.trans' hf8 (by rintro i hi (e | e | e) <;> omega)
  have hF12 : Fm none' w w12 := hF8.trans' hf12 (by rintro i hi e; omega)
  have hb12 := hf12.keep hb8' (by omega)
  obtain ⟨s2, hs2⟩ : ∃ s2, s2 = rdF (decide (n ≤ 16)) s1 := ⟨_, rfl⟩
  have hs2' : rdF (decide (n ≤ 16)) (n, s1).2 = s2 := hs2.symm
  rw [hs2'] at hr12
  obtain ⟨n0, hn0⟩ : ∃ n0 : Nat, n = n0 := ⟨n.toNat, by omega⟩
  subst hn0
  have hdec : decodeM ys = (let r := decGo n0 s2 []
      let s := rdF (restOk r.2.rem && decide (ys.length ≤ 1024)) r.2
      if s.e = 0 then (r.1, 0) else ([], s.e)) := by
    unfold decodeM
    rw [hn, hs2]
    rfl
  refine ⟨fun u w' => ∃ (s' : RS) (acc : List Msg) (sv : Value), u 6 = sv ∧ RdAt w' w.heap.size A R s' g ∧ w'.heap[N]? = some (.cells #[.int .i64 n0] 3 (0, 0)) ∧ OwnMsgs w' w.heap.size sv acc ∧ Fm none' w w' ∧ acc.length ≤ n0 ∧ decGo (n0 - acc.length) s' acc = decGo n0 s2 [],
    fun u _ => n0 - lenOf (u 6), ?_, ?_⟩
  · exact ⟨s2, [], _, rfl, hr12, hb12, OwnMsgs.nil _ _, hF12, by simp, rfl⟩
  rintro u w16 ⟨s', acc, sv, h6, hr, hbN, hown, hF, hlen, hgo⟩
  change u 6 = sv at h6
  have hown' := hown
  obtain ⟨qs, hq1, hq2, hq3⟩ := hown
  obtain ⟨ps, cs, rfl, -, -⟩ := own_readS hq2
  simp only [h6, isB_i, isK_i, isP_i, isTup_i, isInt_i, isSl_i, isPtr_i, isCs_i, isStr_i, isFn_i, isIf_i, rd_i, br_t, br_f, orO_s, orO_n, gd_t, bv_add, bv_sub, bv_mul, bv_eql, bv_neq, bv_lss, bv_leq, bv_gtr, bv_geq, bv_quo, bv_rem, bv_shl, bv_shr, bv_seq, bv_sne, bv_ptr, bv_if, bv_map, bv_nf, bv_bool, bv_sl, bv_fn, uv_not, uv_neg, eqV, nilV, nc_ptr, nc_fn, nc_if, Option.map_some, toN, Nat.mul_one, implies_true, true_and, and_true, and_self]
  refine rd_of (v := .int .i64 n0) (cellOf hbN rfl) ?_
  simp only [isB_i, isK_i, isP_i, isTup_i, isInt_i, isSl_i, isPtr_i, isCs_i, isStr_i, isFn_i, isIf_i, rd_i, br_t, br_f, orO_s, orO_n, gd_t, bv_add, bv_sub, bv_mul, bv_eql, bv_neq, bv_lss, bv_leq, bv_gtr, bv_geq, bv_quo, bv_rem, bv_shl, bv_shr, bv_seq, bv_sne, bv_ptr, bv_if, bv_map, bv_nf, bv_bool, bv_sl, bv_fn, uv_not, uv_neg, eqV, nilV, nc_ptr, nc_fn, nc_if, Option.map_some, toN, Nat.mul_one, implies_true, true_and, and_true, and_self]
  have hrl := hr.lt
  have hNl := lt_of_blk hbN
  have hws16 := hF.size
  -- the end
  have fin : decGo n0 s2 [] = (acc, s') → ∀ (ok : Bool) (w51 : World), ok = (restOk s'.rem && decide (ys.length ≤ 1024)) → Fm none' w16 w51 →
      callV Try.prog 31 [.pointer (some ⟨A, 0, none⟩), .bool ok] w51 fun _ w54 => ∃ e : Int, (w54.heap[A]? = some (.cells #[.pointer (some ⟨R, 0, none⟩), .int .i64 e] 69 (0, 0))) ∧
        (e = 0 → ∃ sv, Value.tuple #[.slice ps acc.length cs, .int .i64 0] = .tuple #[sv, .int .i64 (decodeM ys).2] ∧ OwnMsgs w54 w.heap.size sv (decodeM ys).1 ∧ Fm none' w w54) ∧
        (e ≠ 0 → ∃ sv, Value.tuple #[.slice none 0 0, .int .i64 e] = .tuple #[sv, .int .i64 (decodeM ys).2] ∧ OwnMsgs w54.drew w.heap.size sv (decodeM ys).1 ∧ Fm none' w w54.drew) := by
    intro hd ok w51 hok hf51
    rw [hd] at hdec
    refine (within31_c ok (hr.keep hf51 id id fun _ _ y => y)).mono ?_
    rintro _ w54 ⟨-, h54, hf54⟩
    have hF54 : Fm none' w w54 := (hF.trans hf51).trans' hf54 (by rintro i hi e; omega)
    refine ⟨_, h54.1, fun he => ?_, fun he => ?_⟩
    · have : decodeM ys = (acc, 0) := by
        rw [hdec]
        simp only []
        rw [← hok, if_pos he]
      rw [this]
      refine ⟨_, rfl, (hown'.keep hf51 fun _ _ _ _ _ _ => id).keep hf54 ?_, hF54⟩
      rintro i c t hc _ ht e
      have hA51 := hf51.keep hr.1 id
      rw [e, hA51] at hc
      cases hc; rcases ht with h | h <;> cases h
    · have : decodeM ys = ([], (rdF ok s').e) := by
        rw [hdec]
        simp only []
        rw [← hok, if_neg he]
      rw [this]
      exact ⟨_, rfl, OwnMsgs.nil _ _, hF54.trans (Fm.drew w54)⟩
  have fin2 : decGo n0 s2 [] = (acc, s') → rd (w16.cell? ⟨A, 0, none⟩) fun v48 => isP v48 fun o49 => callV Try.prog 32 [.pointer o49] w16 fun v50 w51 => isB v50 fun t52 =>
      ∀ ok : Bool, ok = (t52 && decide (ys.length ≤ 1024)) → callV Try.prog 31 [.pointer (some ⟨A, 0, none⟩), .bool ok] w51 fun _ w54 => ∃ e : Int, (w54.heap[A]? = some (.cells #[.pointer (some ⟨R, 0, none⟩), .int .i64 e] 69 (0, 0))) ∧
        (e = 0 → ∃ sv, Value.tuple #[.slice ps acc.length cs, .int .i64 0] = .tuple #[sv, .int .i64 (decodeM ys).2] ∧ OwnMsgs w54 w.heap.size sv (decodeM ys).1 ∧ Fm none' w w54) ∧
        (e ≠ 0 → ∃ sv, Value.tuple #[.slice none 0 0, .int .i64 e] = .tuple #[sv, .int .i64 (decodeM ys).2] ∧ OwnMsgs w54.drew w.heap.size sv (decodeM ys).1 ∧ Fm none' w w54.drew) := by
    intro hd
    refine rd_of (v := .pointer (some ⟨R, 0, none⟩)) (cellOf hr.1 rfl) ?_
    simp only [isB_i, isK_i, isP_i, isTup_i, isInt_i, isSl_i, isPtr_i, isCs_i, isStr_i, isFn_i, isIf_i, rd_i, br_t, br_f, orO_s, orO_n, gd_t, bv_add, bv_sub, bv_mul, bv_eql, bv_neq, bv_lss, bv_leq, bv_gtr, bv_geq, bv_quo, bv_rem, bv_shl, bv_shr, bv_seq, bv_sne, bv_ptr, bv_if, bv_map, bv_nf, bv_bool, bv_sl, bv_fn, uv_not, uv_neg, eqV, nilV, nc_ptr, nc_fn, nc_if, Option.map_some, toN, Nat.mul_one, implies_true, true_and, and_true, and_self]
    refine (rest32_c hr.2.2.2).mono ?_
    rintro _ w51 ⟨rfl, hf51⟩
    exact fun ok hok => fin hd ok w51 hok hf51
  have fin3 : decGo n0 s2 [] = (acc, s') → rd (w16.cell? ⟨A, 0, none⟩) fun v48 => isP v48 fun o49 => callV Try.prog 32 [.pointer o49] w16 fun v50 w51 => isB v50 fun t52 =>
      br t52 (callV Try.prog 31 [.pointer (some ⟨A, 0, none⟩), .bool (decide ((ys.length : Int) ≤ 1024))] w51 fun _ w54 => rd (w54.cell? ⟨A, 1, none⟩) fun v55 => isK .i64 v55 fun i56 =>
        br (!decide (i56 = 0)) (rd (w54.drew.cell? ⟨A, 1, none⟩) fun v57 => isK .i64 v57 fun i58 => ∃ sv, Value.tuple #[.slice none 0 0, .int .i64 i58] = .tuple #[sv, .int .i64 (decodeM ys).2] ∧ OwnMsgs w54.drew w.heap.size sv (decodeM ys).1 ∧ Fm none' w w54.drew)
          (∃ sv, Value.tuple #[.slice ps acc.length cs, .int .i64 0] = .tuple #[sv, .int .i64 (decodeM ys).2] ∧ OwnMsgs w54 w.heap.size sv (decodeM ys).1 ∧ Fm none' w w54))
       (callV Try.prog 31 [.pointer (some ⟨A, 0, none⟩), .bool false] w51 fun _ w54 => rd (w54.cell? ⟨A, 1, none⟩) fun v55 => isK .i64 v55 fun i56 =>
        br (!decide (i56 = 0)) (rd (w54.drew.cell? ⟨A, 1, none⟩) fun v57 => isK .i64 v57 fun i58 => ∃ sv, Value.tuple #[.slice none 0 0, .int .i64 i58] = .tuple #[sv, .int .i64 (decodeM ys).2] ∧ OwnMsgs w54.drew w.heap.size sv (decodeM ys).1 ∧ Fm none' w w54.drew)
          (∃ sv, Value.tuple #[.slice ps acc.length cs, .int .i64 0] = .tuple #[sv, .int .i64 (decodeM ys).2] ∧ OwnMsgs w54 w.heap.size sv (decodeM ys).1 ∧ Fm none' w w54)) := by
    intro hd
    have h := fin2 hd
    obtain ⟨v48, hv48, h⟩ := rd_ex h
    refine rd_of hv48 ?_
    cases v48 <;> simp only [isP] at h ⊢
    refine h.mono ?_
    intro v50 w51 h
    obtain ⟨t52, rfl, h⟩ := isB_ex h
    simp only [isB_i, isK_i, isP_i, isTup_i, isInt_i, isSl_i, isPtr_i, isCs_i, isStr_i, isFn_i, isIf_i, rd_i, br_t, br_f, orO_s, orO_n, gd_t, bv_add, bv_sub, bv_mul, bv_eql, bv_neq, bv_lss, bv_leq, bv_gtr, bv_geq, bv_quo, bv_rem, bv_shl, bv_shr, bv_seq, bv_sne, bv_ptr, bv_if, bv_map, bv_nf, bv_bool, bv_sl, bv_fn, uv_not, uv_neg, eqV, nilV, nc_ptr, nc_fn, nc_if, Option.map_some, toN, Nat.mul_one, implies_true, true_and, and_true, and_self]
    have tail : ∀ (w54 : World), (∃ e : Int, (w54.heap[A]? = some (.cells #[.pointer (some ⟨R, 0, none⟩), .int .i64 e] 69 (0, 0))) ∧
        (e = 0 → ∃ sv, Value.tuple #[.slice ps acc.length cs, .int .i64 0] = .tuple #[sv, .int .i64 (decodeM ys).2] ∧ OwnMsgs w54 w.heap.size sv (decodeM ys).1 ∧ Fm none' w w54) ∧
        (e ≠ 0 → ∃ sv, Value.tuple #[.slice none 0 0, .int .i64 e] = .tuple #[sv, .int .i64 (decodeM ys).2] ∧ OwnMsgs w54.drew w.heap.size sv (decodeM ys).1 ∧ Fm none' w w54.drew)) →
        rd (w54.cell? ⟨A, 1, none⟩) fun v55 => isK .i64 v55 fun i56 =>
        br (!decide (i56 = 0)) (rd (w54.drew.cell? ⟨A, 1, none⟩) fun v57 => isK .i64 v57 fun i58 => ∃ sv, Value.tuple #[.slice none 0 0, .int .i64 i58] = .tuple #[sv, .int .i64 (decodeM ys).2] ∧ OwnMsgs w54.drew w.heap.size sv (decodeM ys).1 ∧ Fm none' w w54.drew)
          (∃ sv, Value.tuple #[.slice ps acc.length cs, .int .i64 0] = .tuple #[sv, .int .i64 (decodeM ys).2] ∧ OwnMsgs w54 w.heap.size sv (decodeM ys).1 ∧ Fm none' w w54) := by
      rintro w54 ⟨e, hA54, h0, h1⟩
      refine rd_of (v := .int .i64 e) (cellOf hA54 rfl) ?_
      simp only [isB_i, isK_i, isP_i, isTup_i, isInt_i, isSl_i, isPtr_i, isCs_i, isStr_i, isFn_i, isIf_i, rd_i, br_t, br_f, orO_s, orO_n, gd_t, bv_add, bv_sub, bv_mul, bv_eql, bv_neq, bv_lss, bv_leq, bv_gtr, bv_geq, bv_quo, bv_rem, bv_shl, bv_shr, bv_seq, bv_sne, bv_ptr, bv_if, bv_map, bv_nf, bv_bool, bv_sl, bv_fn, uv_not, uv_neg, eqV, nilV, nc_ptr, nc_fn, nc_if, Option.map_some, toN, Nat.mul_one, implies_true, true_and, and_true, and_self]
      refine br_ndec (fun he => ?_) (fun he => h0 he)
      refine rd_of (v := .int .i64 e) (cellOf (w := w54.drew) (b := A) hA54 rfl) ?_
      simp only [isB_i, isK_i, isP_i, isTup_i, isInt_i, isSl_i, isPtr_i, isCs_i, isStr_i, isFn_i, isIf_i, rd_i, br_t, br_f, orO_s, orO_n, gd_t, bv_add, bv_sub, bv_mul, bv_eql, bv_neq, bv_lss, bv_leq, bv_gtr, bv_geq, bv_quo, bv_rem, bv_shl, bv_shr, bv_seq, bv_sne, bv_ptr, bv_if, bv_map, bv_nf, bv_bool, bv_sl, bv_fn, uv_not, uv_neg, eqV, nilV, nc_ptr, nc_fn, nc_if, Option.map_some, toN, Nat.mul_one, implies_true, true_and, and_true, and_self]
      exact h1 he
    cases t52 with
    | true => exact (h (decide ((ys.length : Int) ≤ 1024)) (by rw [Bool.true_and, decide_eq_decide]; omega)).mono fun _ w54 h => tail w54 h
    | false => exact (h false rfl).mono fun _ w54 h => tail w54 h
  refine br_dec (fun hjn => ?_) (fun hjn => ?_)
  · refine rd_of (v := .int .i64 s'.e) (cellOf hr.1 rfl) ?_
    simp only [isB_i, isK_i, isP_i, isTup_i, isInt_i, isSl_i, isPtr_i, isCs_i, isStr_i, isFn_i, isIf_i, rd_i, br_t, br_f, orO_s, orO_n, gd_t, bv_add, bv_sub, bv_mul, bv_eql, bv_neq, bv_lss, bv_leq, bv_gtr, bv_geq, bv_quo, bv_rem, bv_shl, bv_shr, bv_seq, bv_sne, bv_ptr, bv_if, bv_map, bv_nf, bv_bool, bv_sl, bv_fn, uv_not, uv_neg, eqV, nilV, nc_ptr, nc_fn, nc_if, Option.map_some, toN, Nat.mul_one, implies_true, true_and, and_true, and_self]
    refine br_dec (fun he => ?_) (fun he => ?_)
    · obtain ⟨m0, hm0⟩ : ∃ m0, n0 - acc.length = m0 + 1 := ⟨n0 - acc.length - 1, by omega⟩
      obtain ⟨kk, hkk⟩ : ∃ kk, kk = IntKind.i64.wrap (rdW 4 s').1 := ⟨_, rfl⟩
      rw [hm0] at hgo
      simp only [decGo, if_pos he, ← hkk] at hgo
      refine allocC_of fun w26 hb26 hs26 hf26 => ?_
      change w26.heap[w16.heap.size]? = some (.cells (msgC (blank 0) none 0).toArray 40 (0, 0)) at hb26
      obtain ⟨B, hB⟩ : ∃ B, B = w16.heap.size := ⟨_, rfl⟩
      rw [← hB] at hb26 ⊢
      have hr26 := hr.keep hf26 id id fun _ _ y => y
      have hBg : g ≠ some B := fun e => by have := hrl.2.2 _ e; omega
      refine (rnum30_c (k := 4) (i := 0) (x := 0) (by omega) hr26 hb26 rfl (by omega) (by omega) hBg).mono ?_
      rintro _ w28 ⟨rfl, hr28, hb28, hf28⟩
      rw [← hkk] at hb28
      change w28.heap[B]? = some (.cells (msgC (blank kk) none 0).toArray 40 (0, 0)) at hb28
      have hs28 := hf28.size
      refine (rfields22_c (k := kk) hr28 hb28 (by omega) (by omega) hBg (by omega)).mono ?_
      rintro _ w30 ⟨rfl, p30, c30, hr30, hb30, hf30, hown30, hfr30⟩
      simp only [isB_i, isK_i, isP_i, isTup_i, isInt_i, isSl_i, isPtr_i, isCs_i, isStr_i, isFn_i, isIf_i, rd_i, br_t, br_f, orO_s, orO_n, gd_t, bv_add, bv_sub, bv_mul, bv_eql, bv_neq, bv_lss, bv_leq, bv_gtr, bv_geq, bv_quo, bv_rem, bv_shl, bv_shr, bv_seq, bv_sne, bv_ptr, bv_if, bv_map, bv_nf, bv_bool, bv_sl, bv_fn, uv_not, uv_neg, eqV, nilV, nc_ptr, nc_fn, nc_if, Option.map_some, toN, Nat.mul_one, implies_true, true_and, and_true, and_self]
      refine (within31_c _ hr30).mono ?_
      rintro _ w33 ⟨rfl, hr33, hf33⟩
      obtain ⟨m, hm⟩ : ∃ m, m = (rdFields kk (rdW 4 s').2).1 := ⟨_, rfl⟩
      rw [← hm] at hb30 hown30 hgo
      have hb33 := hf33.keep hb30 (by omega)
      refine rd_of (v := msgC m p30 c30) (cells_all hb33 rfl) ?_
      have hs30 := hf30.size
      have hs33 := hf33.size
      have hF33 : Fm (fun i => i = A ∨ i = R ∨ i = B) w16 w33 := ((hf26.none.trans hf28).trans hf30).trans (hf33.mono fun i _ e => .inl e)
      have hFw33 : Fm none' w w33 := hF.trans' hF33 (by rintro i hi (e | e | e) <;> omega)
      have hOR : ∀ i c t, w16.heap[i]? = some (.cells c t (0, 0)) → w.heap.size ≤ i → (t = 40 ∨ t = 5) → ¬ (i = A ∨ i = R ∨ i = B) := by
        rintro i c t hc _ ht (e | e | e)
        · rw [e, hr.1] at hc; cases hc; rcases ht with h | h <;> cases h
        · obtain ⟨vR, YR, nR, h1R, _⟩ := hr.2.2.2
          rw [e, h1R] at hc; cases hc; rcases ht with h | h <;> cases h
        · have := lt_of_blk hc; omega
      have hO33 : OwnMsgs w33 w.heap.size (.slice ps acc.length cs) acc := hown'.keep hF33 hOR
      have hown33 : w33.ownsRow w.heap.size 5 1 (.slice p30 m.bytes.length c30) m.bytes.length (m.bytes.map (Value.int .u8)) := (hf33.owns hown30 (fun i hi e => by
        obtain ⟨_, cur, hc⟩ := own_block hown30 hi
        rw [e, hr30.1] at hc; cases hc))
      obtain ⟨qs', hl', ho', hb'⟩ := hO33
      refine append_S (by rw [row22]) row40 rfl (by omega) (by omega) rfl msgC_one ho' (by omega) (by simp only [maxLen]; omega) (by omega) fun v44 w44 hv44 hf44 hblk => ?_
      obtain ⟨p44, c44, rfl, -⟩ := own_readS hv44
      simp only [isB_i, isK_i, isP_i, isTup_i, isInt_i, isSl_i, isPtr_i, isCs_i, isStr_i, isFn_i, isIf_i, rd_i, br_t, br_f, orO_s, orO_n, gd_t, bv_add, bv_sub, bv_mul, bv_eql, bv_neq, bv_lss, bv_leq, bv_gtr, bv_geq, bv_quo, bv_rem, bv_shl, bv_shr, bv_seq, bv_sne, bv_ptr, bv_if, bv_map, bv_nf, bv_bool, bv_sl, bv_fn, uv_not, uv_neg, eqV, nilV, nc_ptr, nc_fn, nc_if, Option.map_some, toN, Nat.mul_one, implies_true, true_and, and_true, and_self]
      have hlen' : (acc ++ [m]).length = acc.length + 1 := by simp
      have hsl : ∀ i, (Value.slice ps acc.length cs).ownBlock = some i → ∃ cur, w33.heap[i]? = some (.cells cur 40 (0, 0)) := fun i hi => (own_block ho' hi).2
      have hk44 : ∀ {i : Nat} {c : Array Value} {t : TypeId}, w33.heap[i]? = some (.cells c t (0, 0)) → t ≠ 40 → w44.heap[i]? = some (.cells c t (0, 0)) := fun hc ht => hf44.keep hc fun e => by
        obtain ⟨cur, hc'⟩ := hsl _ e
        rw [hc] at hc'; cases hc'; exact ht rfl
      have hF44 : Fm none' w w44 := hFw33.trans' hf44 (fun i hi e => by have := (own_block ho' e).1; omega)
      refine ⟨⟨rdF (known (blank kk)) (rdFields kk (rdW 4 s').2).2, acc ++ [m], _, rfl, ?_, hk44 (hF33.keep hbN (by rintro (e | e | e) <;> omega)) (by decide), ⟨qs' ++ [(p30, c30)], by simp [hl'], ?_, ?_⟩, hF44, by omega, ?_⟩, ?_⟩
      · refine hr33.keep hf44 (fun e => ?_) (fun e => ?_) (fun i hi e => ?_)
        · obtain ⟨cur, hc⟩ := hsl _ e
          rw [hr33.1] at hc; cases hc
        · obtain ⟨cur, hc⟩ := hsl _ e
          obtain ⟨vR, YR, nR, h1R, _⟩ := hr33.2.2.2
          rw [h1R] at hc; cases hc
        · obtain ⟨cur, hc⟩ := hsl _ e
          obtain ⟨vR, YR, nR, h1R, h2R, h3R, _⟩ := hr33.2.2.2
          obtain ⟨_, cur', hc'⟩ := own_block h2R (h3R.trans hi)
          rw [hc'] at hc; cases hc
      · rw [hlen', List.zip_append hl'.symm, List.flatMap_append]
        have : [(m, (p30, c30))].flatMap (fun x : Msg × Option Addr × Nat => msgC x.1 x.2.1 x.2.2) = msgC m p30 c30 := by simp
        show w44.ownsRow _ _ _ _ _ (_ ++ [(m, (p30, c30))].flatMap _)
        rw [this]
        exact hv44
      · intro j m' q' hj hq
        have keep5 : ∀ {q : Option Addr × Nat} {m : Msg}, w33.ownsRow w.heap.size 5 1 (.slice q.1 m.bytes.length q.2) m.bytes.length (m.bytes.map (Value.int .u8)) → w44.ownsRow w.heap.size 5 1 (.slice q.1 m.bytes.length q.2) m.bytes.length (m.bytes.map (Value.int .u8)) := fun h => hf44.owns h fun i hi e => by
          obtain ⟨cur, hc⟩ := hsl _ e
          obtain ⟨_, cur', hc'⟩ := own_block h hi
          rw [hc'] at hc; cases hc
        by_cases hjl : j < acc.length
        · rw [List.getElem?_append_left hjl] at hj
          rw [List.getElem?_append_left (by omega)] at hq
          exact keep5 (hb' j m' q' hj hq)
        · have hj1 : j = acc.length := by
            have := (List.getElem?_eq_some_iff.1 hj).1
            simp at this; omega
          subst hj1
          rw [List.getElem?_append_right (by omega)] at hj
          rw [List.getElem?_append_right (by omega)] at hq
          simp at hj
          simp [hl'] at hq
          subst hj hq
          exact keep5 (q := (p30, c30)) hown33
      · rw [hlen', show n0 - (acc.length + 1) = m0 by omega]
        exact hgo
      · show n0 - (acc.length + 1) < n0 - acc.length; omega
    · have hd : decGo n0 s2 [] = (acc, s') := by
        rw [← hgo]
        cases hz : n0 - acc.length with
        | zero => rfl
        | succ z => simp only [decGo]; rw [if_neg he]
      exact fin3 hd
  · have hd : decGo n0 s2 [] = (acc, s') := by
      rw [← hgo, show n0 - acc.length = 0 by omega]; rfl
    exact fin3 hd
end Go.Proofs.Ytfekkdmnboccfaa
