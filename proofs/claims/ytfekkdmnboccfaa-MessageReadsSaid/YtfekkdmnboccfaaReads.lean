/- message's law 4: what is read is what the reference reads.  Conditions: the bytes may be read. -/
import Derived.Test.YtfekkdmnboccfaaRMs
import Derived.Test.YtfekkdmnboccfaaBack
namespace Go.Proofs.Ytfekkdmnboccfaa
set_option linter.unusedSimpArgs false
set_option linter.unusedVariables false
open Go Go.RowKit VC
variable {w : World} {R : Nat} {s : RS}
theorem own_base {w : World} {base base' : Nat} {e : TypeId} {size n : Nat} {v : Value} {xs : List Value} (h : w.ownsRow base e size v n xs) (hb : base' ≤ base) : w.ownsRow base' e size v n xs := by
  obtain ⟨h1, h2⟩ := h
  refine ⟨h1, ?_⟩
  rcases h2 with h2 | ⟨g, cap, cur, hv, hg, hr⟩
  · exact .inl h2
  · exact .inr ⟨g, cap, cur, hv, Nat.le_trans hb hg, hr⟩
set_option maxRecDepth 20000 in
theorem rest37_c {bs : List Int} (hb : ∀ b ∈ bs, Bit b) (hl : bs.length ≤ 1000000) : callV Try.prog 37 [.string (txt bs)] w fun v w' => v = .bool (restOk bs) ∧ Fm none' w w' := by
  refine vc37 _ w _ ?_
  refine ⟨fun u w' => ∃ j : Nat, j ≤ bs.length ∧ u 3 = .int .i64 (j : Int) ∧ (∀ b ∈ bs.take j, b = 0) ∧ w' = w, fun u _ => bs.length - (intOf (u 3)).toNat, ⟨0, by omega, rfl, by simp, rfl⟩, ?_⟩
  rintro u w5 ⟨j, hj, h3', hz, rfl⟩
  change u 3 = .int .i64 (j : Int) at h3'
  simp only [h3', isB_i, isK_i, isP_i, isTup_i, isInt_i, isSl_i, isPtr_i, isCs_i, isStr_i, isFn_i, isIf_i, rd_i, br_t, br_f, orO_s, orO_n, gd_t, bv_add, bv_sub, bv_mul, bv_eql, bv_neq, bv_lss, bv_leq, bv_gtr, bv_geq, bv_quo, bv_rem, bv_shl, bv_shr, bv_seq, bv_sne, bv_ptr, bv_if, bv_map, bv_nf, bv_bool, bv_sl, bv_fn, uv_not, uv_neg, eqV, nilV, nc_ptr, nc_fn, nc_if, Option.map_some, toN, Nat.mul_one, implies_true, true_and, and_true, and_self, txt_size]
  refine br_dec (fun hjn => ?_) (fun hjn => ?_)
  · obtain ⟨b, hb'⟩ : ∃ b, bs[j]? = some b := ⟨bs[j]'(by omega), by simp⟩
    refine index_str (ys := bs.map (48 + ·)) (j := j) (by rw [row9]) (txt_r hb) (by rw [List.getElem?_map, hb']; rfl) ?_
    simp only [isB_i, isK_i, isP_i, isTup_i, isInt_i, isSl_i, isPtr_i, isCs_i, isStr_i, isFn_i, isIf_i, rd_i, br_t, br_f, orO_s, orO_n, gd_t, bv_add, bv_sub, bv_mul, bv_eql, bv_neq, bv_lss, bv_leq, bv_gtr, bv_geq, bv_quo, bv_rem, bv_shl, bv_shr, bv_seq, bv_sne, bv_ptr, bv_if, bv_map, bv_nf, bv_bool, bv_sl, bv_fn, uv_not, uv_neg, eqV, nilV, nc_ptr, nc_fn, nc_if, Option.map_some, toN, Nat.mul_one, implies_true, true_and, and_true, and_self]
    refine br_ndec (fun he => ?_) (fun he => ?_)
    · refine ⟨?_, Fm.refl _ _⟩
      have : (bs.all fun b => decide (b = 0)) = false := by
        rw [List.all_eq_false]
        exact ⟨b, List.mem_of_getElem? hb', by simp; omega⟩
      unfold restOk; rw [this]; rfl
    · rw [w64 (by omega)]
      refine ⟨⟨j + 1, by omega, ?_, ?_, rfl⟩, ?_⟩
      · show Value.int .i64 _ = _
        congr 1
      · rw [List.take_add_one, hb']
        intro x hx
        rcases List.mem_append.1 hx with hx | hx
        · exact hz x hx
        · simp at hx; omega
      · show bs.length - ((j : Int) + 1).toNat < bs.length - ((j : Nat) : Int).toNat; omega
  · have : j = bs.length := by omega
    subst this
    rw [List.take_length] at hz
    have : (bs.all fun b => decide (b = 0)) = true := by
      rw [List.all_eq_true]
      intro b hb; simp [hz b hb]
    refine ⟨?_, Fm.refl _ _⟩
    unfold restOk; rw [this, Bool.true_and]
    congr 1
    rw [decide_eq_decide]; omega
theorem build_noneS {P : Program} {w : World} {t e : TypeId} {k : K} {b size : Nat} {z : Value} {KK : Value → World → Prop} (ht : (row P t).k = .slice e) (he : row P e = ⟨k, size, b, some z⟩)
    (kk : ∀ s w', w'.ownsRow w.heap.size e size s 0 [] → w.heap.size < w'.heap.size → Fm none' w w' → KK s w') : runs P (Instr.buildSlice t 0 #[]) w KK := by
  obtain ⟨i, hi, hz, hsz, hbt⟩ := info_of_row he
  have hu := slice_of_row ht
  have hr : Array.range 0 = #[] := rfl
  have hbuild : (Instr.buildSlice t 0 #[]).run P w = .ok (.slice (some ⟨w.heap.size, 0, none⟩) 0 0) (w.alloc (.cells #[] e)) := by
    simp [Instr.buildSlice, run_underlying hu, run_size hi, hsz, run_zero hi hz, Instr.fill, newRow, hr]
  refine ⟨_, _, hbuild, kk _ _ ⟨by simp, .inr ⟨_, 0, #[], rfl, Nat.le_refl _, by simpa using heap_alloc_new w (.cells #[] e), Nat.le_refl _, by simp [maxLen], by simp, by simp⟩⟩ (by simp) (Fm.alloc w _)⟩
set_option maxRecDepth 20000 in
set_option maxHeartbeats 4000000 in
theorem decode19_c {ys : List Int} (hy : ∀ y ∈ ys, 0 ≤ y ∧ y < 256) (hl : ys.length ≤ 10000) :
    callV Try.prog 19 [.string (strOfNums ys)] w fun v w' => ∃ sv, v = .tuple #[sv, .int .i64 (decodeM ys).2] ∧ OwnMsgs w' w.heap.size sv (decodeM ys).1 ∧ Fm none' w w' := by
  refine vc19 _ w _ ?_
  refine (of33_c hy (by omega)).mono ?_
  rintro _ w1 ⟨rfl, hf1⟩
  simp only [isB_i, isK_i, isP_i, isTup_i, isInt_i, isSl_i, isPtr_i, isCs_i, isStr_i, isFn_i, isIf_i, rd_i, br_t, br_f, orO_s, orO_n, gd_t, bv_add, bv_sub, bv_mul, bv_eql, bv_neq, bv_lss, bv_leq, bv_gtr, bv_geq, bv_quo, bv_rem, bv_shl, bv_shr, bv_seq, bv_sne, bv_ptr, bv_if, bv_map, bv_nf, bv_bool, bv_sl, bv_fn, uv_not, uv_neg, eqV, nilV, nc_ptr, nc_fn, nc_if, Option.map_some, toN, Nat.mul_one, implies_true, true_and, and_true, and_self]
  refine allocC_of fun w4 hb4 hs4 hf4 => ?_
  obtain ⟨A, hA⟩ : ∃ A, A = w1.heap.size := ⟨_, rfl⟩
  rw [← hA] at hb4 ⊢
  have hws := hf1.size
  have hbl : (byteBits ys).length ≤ 1000000 := by rw [byteBits_length]; omega
  have hbit := byteBits_bit ys
  have hr4 : RefAt w4 A ⟨byteBits ys, 0⟩ := ⟨byteBits ys, hb4, fun _ => rfl, hbit, hbl⟩
  have hF4 : Fm none' w w4 := hf1.trans hf4
  refine (number34_c (k := 5) (by omega) hr4).mono ?_
  rintro _ w6 ⟨n, rfl, hnr, hnv, hr6, hf6⟩
  simp only [isB_i, isK_i, isP_i, isTup_i, isInt_i, isSl_i, isPtr_i, isCs_i, isStr_i, isFn_i, isIf_i, rd_i, br_t, br_f, orO_s, orO_n, gd_t, bv_add, bv_sub, bv_mul, bv_eql, bv_neq, bv_lss, bv_leq, bv_gtr, bv_geq, bv_quo, bv_rem, bv_shl, bv_shr, bv_seq, bv_sne, bv_ptr, bv_if, bv_map, bv_nf, bv_bool, bv_sl, bv_fn, uv_not, uv_neg, eqV, nilV, nc_ptr, nc_fn, nc_if, Option.map_some, toN, Nat.mul_one, implies_true, true_and, and_true, and_self]
  have hnv := hnv rfl
  obtain ⟨⟨n', s1⟩, hn⟩ : ∃ r, rdW 5 (⟨byteBits ys, 0⟩ : RS) = r := ⟨_, rfl⟩
  rw [hn] at hnv hr6
  have hnv : n = n' := hnv
  subst hnv
  have hF6 : Fm none' w w6 := hF4.trans' hf6 (by rintro i hi e; omega)
  refine (must35_c (ok' := decide (n ≤ 16)) (fun _ => rfl) hr6).mono ?_
  rintro _ w9 ⟨-, hr9, hf9⟩
  have hF9 : Fm none' w w9 := hF6.trans' hf9 (by rintro i hi e; omega)
  obtain ⟨s2, hs2⟩ : ∃ s2, s2 = rdF (decide (n ≤ 16)) s1 := ⟨_, rfl⟩
  have hs2' : rdF (decide (n ≤ 16)) (n, s1).2 = s2 := hs2.symm
  rw [hs2'] at hr9
  obtain ⟨n0, hn0⟩ : ∃ n0 : Nat, n = n0 := ⟨n.toNat, by omega⟩
  subst hn0
  have hn32 : (n0 : Int) < 32 := hnr.2
  have hdec : decodeM ys = (let r := decGo n0 s2 []
      let s := rdF (restOk r.2.rem && decide (ys.length ≤ 1024)) r.2
      if s.e = 0 then (r.1, 0) else ([], s.e)) := by
    unfold decodeM
    rw [hn, hs2]
    rfl
  refine build_noneS (by rw [row22]) row40 fun s w11 hs11 hlt11 hf11 => ?_
  have hs11' := hs11
  obtain ⟨ps, cs, rfl, -, -⟩ := own_readS hs11'
  simp only [isB_i, isK_i, isP_i, isTup_i, isInt_i, isSl_i, isPtr_i, isCs_i, isStr_i, isFn_i, isIf_i, rd_i, br_t, br_f, orO_s, orO_n, gd_t, bv_add, bv_sub, bv_mul, bv_eql, bv_neq, bv_lss, bv_leq, bv_gtr, bv_geq, bv_quo, bv_rem, bv_shl, bv_shr, bv_seq, bv_sne, bv_ptr, bv_if, bv_map, bv_nf, bv_bool, bv_sl, bv_fn, uv_not, uv_neg, eqV, nilV, nc_ptr, nc_fn, nc_if, Option.map_some, toN, Nat.mul_one, implies_true, true_and, and_true, and_self]
  have hs9 := hF9.size
  have hs11z := hf11.size
  have hF11 := hF9.trans hf11
  have hr11 := hr9.keep hf11 id
  refine ⟨fun u w' => ∃ (s' : RS) (acc acc' : List Msg) (sv : Value), u 6 = sv ∧ RefAt w' A s' ∧ OwnMsgs w' w.heap.size sv acc' ∧ (s'.e = 0 → acc' = acc) ∧ Fm none' w w' ∧ decGo n0 s2 [] = (acc, s'), ?_, ?_⟩
  · refine ⟨fun u w' => ∃ (s' : RS) (acc acc' : List Msg) (sv : Value), u 6 = sv ∧ RefAt w' A s' ∧ OwnMsgs w' w.heap.size sv acc' ∧ (s'.e = 0 → acc' = acc) ∧ acc'.length = acc.length ∧ Fm none' w w' ∧ acc.length ≤ n0 ∧ decGo (n0 - acc.length) s' acc = decGo n0 s2 [], fun u _ => n0 - lenOf (u 6), ?_, ?_⟩
    · exact ⟨s2, [], [], _, rfl, hr11, ⟨[], rfl, own_base hs11 hs9, by simp⟩, fun _ => rfl, rfl, hF11, by simp, rfl⟩
    rintro u w16 ⟨s', acc, acc', sv, h6, hr, hown, heq, hlen', hF, hlen, hgo⟩
    change u 6 = sv at h6
    have hown' := hown
    obtain ⟨qs, hq1, hq2, hq3⟩ := hown
    obtain ⟨ps, cs, rfl, -, -⟩ := own_readS hq2
    simp only [h6, isB_i, isK_i, isP_i, isTup_i, isInt_i, isSl_i, isPtr_i, isCs_i, isStr_i, isFn_i, isIf_i, rd_i, br_t, br_f, orO_s, orO_n, gd_t, bv_add, bv_sub, bv_mul, bv_eql, bv_neq, bv_lss, bv_leq, bv_gtr, bv_geq, bv_quo, bv_rem, bv_shl, bv_shr, bv_seq, bv_sne, bv_ptr, bv_if, bv_map, bv_nf, bv_bool, bv_sl, bv_fn, uv_not, uv_neg, eqV, nilV, nc_ptr, nc_fn, nc_if, Option.map_some, toN, Nat.mul_one, implies_true, true_and, and_true, and_self]
    obtain ⟨rem, hR, hR0, hRb, hRl⟩ := id hr
    have hRlt := lt_of_blk hR
    have hws16 := hF.size
    have done : decGo n0 s2 [] = (acc, s') → ∃ (s' : RS) (acc acc' : List Msg) (sv : Value), alist [(6, Value.slice ps acc'.length cs)] 6 = sv ∧ RefAt w16 A s' ∧ OwnMsgs w16 w.heap.size sv acc' ∧ (s'.e = 0 → acc' = acc) ∧ Fm none' w w16 ∧ decGo n0 s2 [] = (acc, s') := fun hd =>
      ⟨s', acc, acc', _, rfl, hr, hown', heq, hF, hd⟩
    have done' : decGo n0 s2 [] = (acc, s') → ∃ (s' : RS) (acc : List Msg) (acc'' : List Msg) (sv : Value), alist [(6, Value.slice ps acc'.length cs)] 6 = sv ∧ RefAt w16 A s' ∧ OwnMsgs w16 w.heap.size sv acc'' ∧ (s'.e = 0 → acc'' = acc) ∧ Fm none' w w16 ∧ decGo n0 s2 [] = (acc, s') := fun hd =>
      ⟨s', acc, acc', _, rfl, hr, hown', heq, hF, hd⟩
    refine br_dec (fun hjn => ?_) (fun hjn => ?_)
    · refine rd_of (v := .int .i64 s'.e) (cellOf hR rfl) ?_
      simp only [isB_i, isK_i, isP_i, isTup_i, isInt_i, isSl_i, isPtr_i, isCs_i, isStr_i, isFn_i, isIf_i, rd_i, br_t, br_f, orO_s, orO_n, gd_t, bv_add, bv_sub, bv_mul, bv_eql, bv_neq, bv_lss, bv_leq, bv_gtr, bv_geq, bv_quo, bv_rem, bv_shl, bv_shr, bv_seq, bv_sne, bv_ptr, bv_if, bv_map, bv_nf, bv_bool, bv_sl, bv_fn, uv_not, uv_neg, eqV, nilV, nc_ptr, nc_fn, nc_if, Option.map_some, toN, Nat.mul_one, implies_true, true_and, and_true, and_self]
      refine br_dec (fun he => ?_) (fun he => ?_)
      · obtain ⟨m0, hm0⟩ : ∃ m0, n0 - acc.length = m0 + 1 := ⟨n0 - acc.length - 1, by omega⟩
        rw [hm0] at hgo
        rw [decGo, if_pos he] at hgo
        change decGo m0 (prM s').2 (acc ++ [(prM s').1]) = _ at hgo
        refine (message36_c hr he).mono ?_
        rintro _ w27 ⟨m, q, c, rfl, hr27, hm27, hown27, hrng27, hf27⟩
        refine allocC_of fun w29 hb29 hs29 hf29 => ?_
        refine rd_of (v := ()) rfl ?_
        obtain ⟨B, hB⟩ : ∃ B, B = w27.heap.size := ⟨_, rfl⟩
        rw [← hB] at hb29 ⊢
        refine stC_all (vs := msgC m q c) hb29 rfl msgC_one fun w30 hb30 hf30 => ?_
        refine rd_of (v := msgC m q c) (cells_all hb30 rfl) ?_
        have hs27 := hf27.size
        have hs30 := hf30.size
        have hf30' : Fm (fun i => i = A) w16 w30 := (hf27.trans hf29.none).trans' hf30 (by rintro i hi e; omega)
        have hF30 : Fm none' w w30 := hF.trans' hf30' (by rintro i hi e; omega)
        have hr30 : RefAt w30 A (prM s').2 := (hr27.keep hf29 id).keep hf30 (by omega)
        obtain ⟨remr, hRr, -⟩ := id hr30
        have hO30 : OwnMsgs w30 w.heap.size (.slice ps acc'.length cs) acc' := hown'.keep hf30' (by
          rintro i c t hc _ ht e
          rw [e, hR] at hc; cases hc; rcases ht with h | h <;> cases h)
        have hown30 : w30.ownsRow w.heap.size 5 1 (.slice q m.bytes.length c) m.bytes.length (m.bytes.map (Value.int .u8)) := own_base ((hf29.owns hown27 fun _ _ y => y) |> fun h => hf30.owns h (fun i hi e => by
          obtain ⟨_, cur, hc⟩ := own_block h hi
          rw [e, hb29] at hc; cases hc)) hws16
        obtain ⟨qs', hl', ho', hb'⟩ := hO30
        refine append_S (by rw [row22]) row40 rfl (by omega) (by omega) rfl msgC_one ho' (by omega) (by simp only [maxLen]; omega) (by omega) fun v44 w44 hv44 hf44 hblk => ?_
        obtain ⟨p44, c44, rfl, -⟩ := own_readS hv44
        simp only [isB_i, isK_i, isP_i, isTup_i, isInt_i, isSl_i, isPtr_i, isCs_i, isStr_i, isFn_i, isIf_i, rd_i, br_t, br_f, orO_s, orO_n, gd_t, bv_add, bv_sub, bv_mul, bv_eql, bv_neq, bv_lss, bv_leq, bv_gtr, bv_geq, bv_quo, bv_rem, bv_shl, bv_shr, bv_seq, bv_sne, bv_ptr, bv_if, bv_map, bv_nf, bv_bool, bv_sl, bv_fn, uv_not, uv_neg, eqV, nilV, nc_ptr, nc_fn, nc_if, Option.map_some, toN, Nat.mul_one, implies_true, true_and, and_true, and_self]
        have hlen1 : (acc' ++ [m]).length = acc'.length + 1 := by simp
        have hlen2 : (acc ++ [(prM s').1]).length = acc.length + 1 := by simp
        have hsl : ∀ i, (Value.slice ps acc'.length cs).ownBlock = some i → ∃ cur, w30.heap[i]? = some (.cells cur 40 (0, 0)) := fun i hi => (own_block ho' hi).2
        have hF44 : Fm none' w w44 := hF30.trans' hf44 (fun i hi e => by have := (own_block ho' e).1; omega)
        refine ⟨⟨(prM s').2, acc ++ [(prM s').1], acc' ++ [m], _, rfl, ?_, ⟨qs' ++ [(q, c)], by simp [hl'], ?_, ?_⟩, ?_, by omega, hF44, by omega, ?_⟩, ?_⟩
        · refine hr30.keep hf44 (fun e => ?_)
          obtain ⟨cur, hc⟩ := hsl _ e
          rw [hRr] at hc; cases hc
        · rw [hlen1, List.zip_append hl'.symm, List.flatMap_append]
          have : [(m, (q, c))].flatMap (fun x : Msg × Option Addr × Nat => msgC x.1 x.2.1 x.2.2) = msgC m q c := by simp
          show w44.ownsRow _ _ _ _ _ (_ ++ [(m, (q, c))].flatMap _)
          rw [this]
          exact hv44
        · intro j m' q' hj hq
          have keep5 : ∀ {q : Option Addr × Nat} {m : Msg}, w30.ownsRow w.heap.size 5 1 (.slice q.1 m.bytes.length q.2) m.bytes.length (m.bytes.map (Value.int .u8)) → w44.ownsRow w.heap.size 5 1 (.slice q.1 m.bytes.length q.2) m.bytes.length (m.bytes.map (Value.int .u8)) := fun h => hf44.owns h fun i hi e => by
            obtain ⟨cur, hc⟩ := hsl _ e
            obtain ⟨_, cur', hc'⟩ := own_block h hi
            rw [hc'] at hc; cases hc
          by_cases hjl : j < acc'.length
          · rw [List.getElem?_append_left hjl] at hj
            rw [List.getElem?_append_left (by omega)] at hq
            exact keep5 (hb' j m' q' hj hq)
          · have hj1 : j = acc'.length := by
              have := (List.getElem?_eq_some_iff.1 hj).1
              simp at this; omega
            subst hj1
            rw [List.getElem?_append_right (by omega)] at hj
            rw [List.getElem?_append_right (by omega)] at hq
            simp at hj
            simp [hl'] at hq
            subst hj hq
            exact keep5 (q := (q, c)) hown30
        · intro e
          rw [heq he, hm27 e]
        · rw [hlen2, show n0 - (acc.length + 1) = m0 by omega]
          exact hgo
        · show n0 - (acc'.length + 1) < n0 - acc'.length; omega
      · have hd : decGo n0 s2 [] = (acc, s') := by
          rw [← hgo]
          cases hz : n0 - acc.length with
          | zero => rfl
          | succ z => rw [decGo, if_neg he]
        exact done' hd
    · have hd : decGo n0 s2 [] = (acc, s') := by
        rw [← hgo, show n0 - acc.length = 0 by omega]; rfl
      exact done' hd
  · rintro u w47 ⟨s', acc, acc', sv, h6, hr, hown, heq, hF, hgo⟩
    change u 6 = sv at h6
    obtain ⟨ps, cs, rfl, -⟩ := hown.at
    simp only [h6, isB_i, isK_i, isP_i, isTup_i, isInt_i, isSl_i, isPtr_i, isCs_i, isStr_i, isFn_i, isIf_i, rd_i, br_t, br_f, orO_s, orO_n, gd_t, bv_add, bv_sub, bv_mul, bv_eql, bv_neq, bv_lss, bv_leq, bv_gtr, bv_geq, bv_quo, bv_rem, bv_shl, bv_shr, bv_seq, bv_sne, bv_ptr, bv_if, bv_map, bv_nf, bv_bool, bv_sl, bv_fn, uv_not, uv_neg, eqV, nilV, nc_ptr, nc_fn, nc_if, Option.map_some, toN, Nat.mul_one, implies_true, true_and, and_true, and_self, strOfNums_size]
    obtain ⟨rem, hR, hR0, hRb, hRl⟩ := id hr
    have hRlt := lt_of_blk hR
    refine rd_of (v := .string (txt rem)) (cellOf hR rfl) ?_
    simp only [isB_i, isK_i, isP_i, isTup_i, isInt_i, isSl_i, isPtr_i, isCs_i, isStr_i, isFn_i, isIf_i, rd_i, br_t, br_f, orO_s, orO_n, gd_t, bv_add, bv_sub, bv_mul, bv_eql, bv_neq, bv_lss, bv_leq, bv_gtr, bv_geq, bv_quo, bv_rem, bv_shl, bv_shr, bv_seq, bv_sne, bv_ptr, bv_if, bv_map, bv_nf, bv_bool, bv_sl, bv_fn, uv_not, uv_neg, eqV, nilV, nc_ptr, nc_fn, nc_if, Option.map_some, toN, Nat.mul_one, implies_true, true_and, and_true, and_self]
    refine (rest37_c hRb hRl).mono ?_
    rintro _ w52 ⟨rfl, hf52⟩
    simp only [isB_i, isK_i, isP_i, isTup_i, isInt_i, isSl_i, isPtr_i, isCs_i, isStr_i, isFn_i, isIf_i, rd_i, br_t, br_f, orO_s, orO_n, gd_t, bv_add, bv_sub, bv_mul, bv_eql, bv_neq, bv_lss, bv_leq, bv_gtr, bv_geq, bv_quo, bv_rem, bv_shl, bv_shr, bv_seq, bv_sne, bv_ptr, bv_if, bv_map, bv_nf, bv_bool, bv_sl, bv_fn, uv_not, uv_neg, eqV, nilV, nc_ptr, nc_fn, nc_if, Option.map_some, toN, Nat.mul_one, implies_true, true_and, and_true, and_self]
    have hdec' := hdec
    rw [hgo] at hdec'
    simp only [] at hdec'
    have go : ∀ ok : Bool, (s'.e = 0 → ok = (restOk s'.rem && decide (ys.length ≤ 1024))) → callV Try.prog 35 [.pointer (some ⟨A, 0, none⟩), .bool ok] w52 fun _ w55 => rd (w55.cell? ⟨A, 1, none⟩) fun v56 => isK .i64 v56 fun i57 =>
        br (!decide (i57 = 0)) (rd (w55.drew.cell? ⟨A, 1, none⟩) fun v58 => isK .i64 v58 fun i59 => ∃ sv, Value.tuple #[.slice none 0 0, .int .i64 i59] = .tuple #[sv, .int .i64 (decodeM ys).2] ∧ OwnMsgs w55.drew w.heap.size sv (decodeM ys).1 ∧ Fm none' w w55.drew)
          (∃ sv, Value.tuple #[.slice ps acc'.length cs, .int .i64 0] = .tuple #[sv, .int .i64 (decodeM ys).2] ∧ OwnMsgs w55 w.heap.size sv (decodeM ys).1 ∧ Fm none' w w55) := by
      intro ok hok
      refine (must35_c (ok' := restOk s'.rem && decide (ys.length ≤ 1024)) hok (hr.keep hf52 id)).mono ?_
      rintro _ w55 ⟨-, hr55, hf55⟩
      obtain ⟨rem5, h55, -⟩ := id hr55
      have hF55 : Fm none' w w55 := (hF.trans hf52).trans' hf55 (by rintro i hi e; omega)
      refine rd_of (v := .int .i64 (rdF (restOk s'.rem && decide (ys.length ≤ 1024)) s').e) (cellOf h55 rfl) ?_
      simp only [isB_i, isK_i, isP_i, isTup_i, isInt_i, isSl_i, isPtr_i, isCs_i, isStr_i, isFn_i, isIf_i, rd_i, br_t, br_f, orO_s, orO_n, gd_t, bv_add, bv_sub, bv_mul, bv_eql, bv_neq, bv_lss, bv_leq, bv_gtr, bv_geq, bv_quo, bv_rem, bv_shl, bv_shr, bv_seq, bv_sne, bv_ptr, bv_if, bv_map, bv_nf, bv_bool, bv_sl, bv_fn, uv_not, uv_neg, eqV, nilV, nc_ptr, nc_fn, nc_if, Option.map_some, toN, Nat.mul_one, implies_true, true_and, and_true, and_self]
      refine br_ndec (fun he => ?_) (fun he => ?_)
      · refine rd_of (v := .int .i64 (rdF (restOk s'.rem && decide (ys.length ≤ 1024)) s').e) (cellOf (w := w55.drew) (b := A) h55 rfl) ?_
        simp only [isB_i, isK_i, isP_i, isTup_i, isInt_i, isSl_i, isPtr_i, isCs_i, isStr_i, isFn_i, isIf_i, rd_i, br_t, br_f, orO_s, orO_n, gd_t, bv_add, bv_sub, bv_mul, bv_eql, bv_neq, bv_lss, bv_leq, bv_gtr, bv_geq, bv_quo, bv_rem, bv_shl, bv_shr, bv_seq, bv_sne, bv_ptr, bv_if, bv_map, bv_nf, bv_bool, bv_sl, bv_fn, uv_not, uv_neg, eqV, nilV, nc_ptr, nc_fn, nc_if, Option.map_some, toN, Nat.mul_one, implies_true, true_and, and_true, and_self]
        rw [if_neg he] at hdec'
        rw [hdec']
        exact ⟨_, rfl, OwnMsgs.nil _ _, hF55.trans (Fm.drew w55)⟩
      · rw [if_pos he] at hdec'
        rw [hdec']
        have e0 : s'.e = 0 := (rdF_inv he).2.1
        have := heq e0
        subst this
        refine ⟨_, rfl, (hown.keep hf52 fun _ _ _ _ _ _ => id).keep hf55 ?_, hF55⟩
        rintro i c t hc _ ht e
        rw [e, hf52.keep hR id] at hc; cases hc; rcases ht with h | h <;> cases h
    have hrr : s'.e = 0 → restOk rem = restOk s'.rem := fun e => by rw [hR0 e]
    cases hro : restOk rem with
    | true => exact go _ fun e => by rw [← hrr e, hro, Bool.true_and, decide_eq_decide]; omega
    | false => exact go false fun e => by rw [← hrr e, hro]; rfl
theorem dec_bytes {ys : List Int} (hy : ∀ y ∈ ys, 0 ≤ y ∧ y < 256) : ∀ m ∈ (decodeM ys).1, ∀ y ∈ m.bytes, 0 ≤ y ∧ y < 256 := by
  rcases dec_errs ys with h | ⟨h, -⟩
  · have hd : decodeM ys = ((decodeM ys).1, 0) := by rw [← h]
    obtain ⟨h1, -⟩ := enc_dec hy hd
    exact fun m hm => (h1 m hm).ok.bytes
  · rw [h]; intro m hm; cases hm
theorem dec_len {ys : List Int} (hy : ∀ y ∈ ys, 0 ≤ y ∧ y < 256) : (decodeM ys).1.length ≤ 16 := by
  rcases dec_errs ys with h | ⟨h, -⟩
  · have hd : decodeM ys = ((decodeM ys).1, 0) := by rw [← h]
    obtain ⟨-, h2, -⟩ := enc_dec hy hd
    exact h2
  · rw [h]; exact Nat.zero_le _
theorem dec_own {ys : List Int} {p : Option Addr} {n c : Nat} (hn : n = ys.length) (hb : BytesAt w p ys) (hy : ∀ y ∈ ys, 0 ≤ y ∧ y < 256) (hl : ys.length ≤ 1000000) :
    callV Try.prog 18 [.slice p n c] w fun v w' => ∃ sv, v = .tuple #[sv, .int .i64 (decodeM ys).2] ∧ OwnMsgs w' w.heap.size sv (decodeM ys).1 ∧ Fm none' w w' := by
  subst hn
  exact decode18_c hb hy hl
set_option maxRecDepth 20000 in
set_option maxHeartbeats 1000000 in
theorem reads_c {ys : List Int} {p : Option Addr} {n c : Nat} (hn : n = ys.length) (hnc : n ≤ c) (hby : BytesAt w p ys) (hyr : ∀ y ∈ ys, 0 ≤ y ∧ y < 256) :
    callV Try.prog 4 [.slice p n c] w fun v w' => v = .bool true ∧ Fm none' w w' := by
  refine vc4 p n c w _ ?_
  refine shown12_c.mono ?_
  rintro _ w1 ⟨rfl, hf1⟩
  simp only [isB_i, isK_i, isP_i, isTup_i, isInt_i, isSl_i, isPtr_i, isCs_i, isStr_i, isFn_i, isIf_i, rd_i, br_t, br_f, orO_s, orO_n, gd_t, bv_add, bv_sub, bv_mul, bv_eql, bv_neq, bv_lss, bv_leq, bv_gtr, bv_geq, bv_quo, bv_rem, bv_shl, bv_shr, bv_seq, bv_sne, bv_ptr, bv_if, bv_map, bv_nf, bv_bool, bv_sl, bv_fn, uv_not, uv_neg, eqV, nilV, nc_ptr, nc_fn, nc_if, Option.map_some, toN, Nat.mul_one, implies_true, true_and, and_true, and_self]
  obtain ⟨zs, hzs⟩ : ∃ zs, zs = ys.take 1300 := ⟨_, rfl⟩
  have hzl : zs.length ≤ 1300 := by rw [hzs, List.length_take]; omega
  have hzr : ∀ y ∈ zs, 0 ≤ y ∧ y < 256 := fun y hy => hyr y (List.mem_of_mem_take (hzs ▸ hy))
  refine take_run (k := 1300) hn hnc (hby.keep hf1 fun _ _ => id) fun b hb => ?_
  rw [← hzs] at hb ⊢
  simp only [isB_i, isK_i, isP_i, isTup_i, isInt_i, isSl_i, isPtr_i, isCs_i, isStr_i, isFn_i, isIf_i, rd_i, br_t, br_f, orO_s, orO_n, gd_t, bv_add, bv_sub, bv_mul, bv_eql, bv_neq, bv_lss, bv_leq, bv_gtr, bv_geq, bv_quo, bv_rem, bv_shl, bv_shr, bv_seq, bv_sne, bv_ptr, bv_if, bv_map, bv_nf, bv_bool, bv_sl, bv_fn, uv_not, uv_neg, eqV, nilV, nc_ptr, nc_fn, nc_if, Option.map_some, toN, Nat.mul_one, implies_true, true_and, and_true, and_self]
  refine build_none (by rw [row25]) row5 fun s w9 hs hs9 hf9 => ?_
  obtain ⟨p9, c9, rfl, -⟩ := own_read hs
  simp only [isB_i, isK_i, isP_i, isTup_i, isInt_i, isSl_i, isPtr_i, isCs_i, isStr_i, isFn_i, isIf_i, rd_i, br_t, br_f, orO_s, orO_n, gd_t, bv_add, bv_sub, bv_mul, bv_eql, bv_neq, bv_lss, bv_leq, bv_gtr, bv_geq, bv_quo, bv_rem, bv_shl, bv_shr, bv_seq, bv_sne, bv_ptr, bv_if, bv_map, bv_nf, bv_bool, bv_sl, bv_fn, uv_not, uv_neg, eqV, nilV, nc_ptr, nc_fn, nc_if, Option.map_some, toN, Nat.mul_one, implies_true, true_and, and_true, and_self]
  have hF9 := hf1.trans hf9
  have hb9 := hb.keep hf9 fun _ _ => id
  refine append_b (by rw [row25]) row5 rfl hs rfl hb9 hf9.size (by simp only [maxLen]; omega) (by omega) fun v14 w14 hv14 hf14 hbk14 => ?_
  obtain ⟨o, oc, rfl, -⟩ := own_read hv14
  simp only [isB_i, isK_i, isP_i, isTup_i, isInt_i, isSl_i, isPtr_i, isCs_i, isStr_i, isFn_i, isIf_i, rd_i, br_t, br_f, orO_s, orO_n, gd_t, bv_add, bv_sub, bv_mul, bv_eql, bv_neq, bv_lss, bv_leq, bv_gtr, bv_geq, bv_quo, bv_rem, bv_shl, bv_shr, bv_seq, bv_sne, bv_ptr, bv_if, bv_map, bv_nf, bv_bool, bv_sl, bv_fn, uv_not, uv_neg, eqV, nilV, nc_ptr, nc_fn, nc_if, Option.map_some, toN, Nat.mul_one, implies_true, true_and, and_true, and_self, List.nil_append] at hv14 ⊢
  have hF14 : Fm none' w1 w14 := hf9.trans' hf14 fun i hi e => by have := (own_block hs e).1; omega
  have hb14 := hb.keep hF14 fun _ _ => id
  have hby14 : BytesAt w14 o zs := BytesAt.of_own hv14
  refine (dec_own (by omega) hby14 hzr (by omega)).mono ?_
  rintro _ w19 ⟨sv, rfl, hown19, hf19⟩
  obtain ⟨q19, c19, rfl, -⟩ := hown19.at
  simp only [isB_i, isK_i, isP_i, isTup_i, isInt_i, isSl_i, isPtr_i, isCs_i, isStr_i, isFn_i, isIf_i, rd_i, br_t, br_f, orO_s, orO_n, gd_t, bv_add, bv_sub, bv_mul, bv_eql, bv_neq, bv_lss, bv_leq, bv_gtr, bv_geq, bv_quo, bv_rem, bv_shl, bv_shr, bv_seq, bv_sne, bv_ptr, bv_if, bv_map, bv_nf, bv_bool, bv_sl, bv_fn, uv_not, uv_neg, eqV, nilV, nc_ptr, nc_fn, nc_if, Option.map_some, toN, Nat.mul_one, implies_true, true_and, and_true, and_self, List.getElem?_cons_zero, List.getElem?_cons_succ]
  have hb19 := hb14.keep hf19 fun _ _ => id
  refine conv_run rfl hb19 ?_
  simp only [isB_i, isK_i, isP_i, isTup_i, isInt_i, isSl_i, isPtr_i, isCs_i, isStr_i, isFn_i, isIf_i, rd_i, br_t, br_f, orO_s, orO_n, gd_t, bv_add, bv_sub, bv_mul, bv_eql, bv_neq, bv_lss, bv_leq, bv_gtr, bv_geq, bv_quo, bv_rem, bv_shl, bv_shr, bv_seq, bv_sne, bv_ptr, bv_if, bv_map, bv_nf, bv_bool, bv_sl, bv_fn, uv_not, uv_neg, eqV, nilV, nc_ptr, nc_fn, nc_if, Option.map_some, toN, Nat.mul_one, implies_true, true_and, and_true, and_self]
  refine (decode19_c hzr (by omega)).mono ?_
  rintro _ w32 ⟨sv, rfl, hown32, hf32⟩
  obtain ⟨q32, c32, rfl, -⟩ := hown32.at
  simp only [isB_i, isK_i, isP_i, isTup_i, isInt_i, isSl_i, isPtr_i, isCs_i, isStr_i, isFn_i, isIf_i, rd_i, br_t, br_f, orO_s, orO_n, gd_t, bv_add, bv_sub, bv_mul, bv_eql, bv_neq, bv_lss, bv_leq, bv_gtr, bv_geq, bv_quo, bv_rem, bv_shl, bv_shr, bv_seq, bv_sne, bv_ptr, bv_if, bv_map, bv_nf, bv_bool, bv_sl, bv_fn, uv_not, uv_neg, eqV, nilV, nc_ptr, nc_fn, nc_if, Option.map_some, toN, Nat.mul_one, implies_true, true_and, and_true, and_self, List.getElem?_cons_zero, List.getElem?_cons_succ]
  have hF32 := hf19.trans hf32
  refine conv_run (by omega) (hby14.keep hF32 fun _ _ => id) ?_
  simp only [isB_i, isK_i, isP_i, isTup_i, isInt_i, isSl_i, isPtr_i, isCs_i, isStr_i, isFn_i, isIf_i, rd_i, br_t, br_f, orO_s, orO_n, gd_t, bv_add, bv_sub, bv_mul, bv_eql, bv_neq, bv_lss, bv_leq, bv_gtr, bv_geq, bv_quo, bv_rem, bv_shl, bv_shr, bv_seq, bv_sne, bv_ptr, bv_if, bv_map, bv_nf, bv_bool, bv_sl, bv_fn, uv_not, uv_neg, eqV, nilV, nc_ptr, nc_fn, nc_if, Option.map_some, toN, Nat.mul_one, implies_true, true_and, and_true, and_self]
  refine conv_run rfl (hb19.keep hf32 fun _ _ => id) ?_
  simp only [isB_i, isK_i, isP_i, isTup_i, isInt_i, isSl_i, isPtr_i, isCs_i, isStr_i, isFn_i, isIf_i, rd_i, br_t, br_f, orO_s, orO_n, gd_t, bv_add, bv_sub, bv_mul, bv_eql, bv_neq, bv_lss, bv_leq, bv_gtr, bv_geq, bv_quo, bv_rem, bv_shl, bv_shr, bv_seq, bv_sne, bv_ptr, bv_if, bv_map, bv_nf, bv_bool, bv_sl, bv_fn, uv_not, uv_neg, eqV, nilV, nc_ptr, nc_fn, nc_if, Option.map_some, toN, Nat.mul_one, implies_true, true_and, and_true, and_self]
  have hown32' : w32.ownsRow w1.heap.size 5 1 (.slice o (0 + zs.length) oc) (0 + zs.length) (zs.map (Value.int .u8)) := hF32.owns hv14 fun _ _ h => h
  have hs14 := hF14.size
  have hs19 := hf19.size
  have hs32 := hf32.size
  refine ⟨fun u w' => ∃ (j : Nat) (xs : List Value), j ≤ zs.length ∧ u 10 = .int .i64 j ∧ w'.ownsRow w1.heap.size 5 1 (.slice o (0 + zs.length) oc) (0 + zs.length) xs ∧ Fm (fun i => (Value.slice o (0 + zs.length) oc).ownBlock = some i) w32 w', fun u _ => zs.length - (intOf (u 10)).toNat, ⟨0, _, by omega, rfl, hown32', Fm.refl _ _⟩, ?_⟩
  rintro u w50 ⟨j, xs, hj, h10, hox, hF⟩
  change u 10 = .int .i64 j at h10
  simp only [h10, isB_i, isK_i, isP_i, isTup_i, isInt_i, isSl_i, isPtr_i, isCs_i, isStr_i, isFn_i, isIf_i, rd_i, br_t, br_f, orO_s, orO_n, gd_t, bv_add, bv_sub, bv_mul, bv_eql, bv_neq, bv_lss, bv_leq, bv_gtr, bv_geq, bv_quo, bv_rem, bv_shl, bv_shr, bv_seq, bv_sne, bv_ptr, bv_if, bv_map, bv_nf, bv_bool, bv_sl, bv_fn, uv_not, uv_neg, eqV, nilV, nc_ptr, nc_fn, nc_if, Option.map_some, toN, Nat.mul_one, implies_true, true_and, and_true, and_self]
  refine br_dec (fun hlt => ?_) (fun hlt => ?_)
  · obtain ⟨g, cg, hg, -⟩ := own_set (KK := fun _ => True) (x := .int .u8 63) hox (j := j) (by omega) rfl
    cases hg
    obtain ⟨g2, cg2, hg2, hst⟩ := own_set (x := .int .u8 63) hox (j := j) (by omega) rfl
    cases hg2
    refine rd_of (v := ⟨g, 0, none⟩) rfl ?_
    refine ⟨by omega, ?_⟩
    refine hst fun w55 h55 hf55 => ?_
    refine ⟨⟨j + 1, _, by omega, ?_, h55, hF.trans (hf55.mono fun i _ e => by rw [e]; rfl)⟩, ?_⟩
    · show Value.int .i64 _ = _
      rw [w64 (by omega)]; rfl
    · show zs.length - (IntKind.i64.wrap ((j : Int) + 1)).toNat < zs.length - ((j : Nat) : Int).toNat
      rw [w64 (by omega)]; omega
  · have hblk : ∀ i, (Value.slice o (0 + zs.length) oc).ownBlock = some i → i < w14.heap.size := fun i hi => by
      obtain ⟨_, cur, hc⟩ := own_block hv14 hi
      exact lt_of_blk hc
    have hO50 : OwnMsgs w50 w14.heap.size (.slice q19 (decodeM zs).1.length c19) (decodeM zs).1 := (hown19.keep hf32 fun _ _ _ _ _ _ => id).keep hF (by
      intro i c t hc hi _ e
      have := hblk i e; omega)
    have hP50 : OwnMsgs w50 w19.heap.size (.slice q32 (decodeM zs).1.length c32) (decodeM zs).1 := hown32.keep hF (by
      intro i c t hc hi _ e
      have := hblk i e; omega)
    obtain ⟨_, _, e1, ha1⟩ := hO50.at
    cases e1
    obtain ⟨_, _, e2, ha2⟩ := hP50.at
    cases e2
    have hF50 : Fm none' w w50 := ((hf1.trans hF14).trans hF32).trans' hF fun i hi e => by
      have := (own_block hv14 e).1
      have := hf1.size
      omega
    refine (same20_c ha1 ha2 (dec_bytes hzr) (dec_bytes hzr) (by have := dec_len hzr; omega)).mono ?_
    rintro _ w58 ⟨rfl, hf58⟩
    simp only [decide_true, isB_i, isK_i, isP_i, isTup_i, isInt_i, isSl_i, isPtr_i, isCs_i, isStr_i, isFn_i, isIf_i, rd_i, br_t, br_f, orO_s, orO_n, gd_t, bv_add, bv_sub, bv_mul, bv_eql, bv_neq, bv_lss, bv_leq, bv_gtr, bv_geq, bv_quo, bv_rem, bv_shl, bv_shr, bv_seq, bv_sne, bv_ptr, bv_if, bv_map, bv_nf, bv_bool, bv_sl, bv_fn, uv_not, uv_neg, eqV, nilV, nc_ptr, nc_fn, nc_if, Option.map_some, toN, Nat.mul_one, implies_true, true_and, and_true, and_self]
    exact hF50.trans hf58
end Go.Proofs.Ytfekkdmnboccfaa
