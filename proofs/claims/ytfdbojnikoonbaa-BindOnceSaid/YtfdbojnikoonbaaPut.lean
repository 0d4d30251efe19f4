/- bind: Bind, Deny, Forget and Len, as steps of a plain state.  Conditions: the table lies as it is said to lie. -/
import Derived.Test.YtfdbojnikoonbaaTb
namespace Go.Proofs.Ytfdbojnikoonbaa
set_option linter.unusedSimpArgs false
set_option linter.unusedVariables false
open Go Go.RowKit VC
def oldC (s : St) (who prov : Int) : Cl := (getM who s.cs).getD ⟨prov, []⟩
def usedS (s : St) (id : Int) : List (Int × Bool) := if 0 < id then setM id true s.used else s.used
def putS (s : St) (who prov id : Int) : St :=
  if newer prov (oldC s who prov).newest then dropS (fun p => !reach prov p) who ⟨prov, setM prov id (oldC s who prov).ids⟩ ⟨setM who ⟨prov, setM prov id (oldC s who prov).ids⟩ s.cs, usedS s id⟩
  else ⟨setM who ⟨(oldC s who prov).newest, setM prov id (oldC s who prov).ids⟩ s.cs, usedS s id⟩
variable {T MC MI : Nat} {loc : Int → Nat × Nat} {s : St} {w : World} {B : Nat → Prop}
def fresh (B : Nat → Prop) (w w' : World) (i : Nat) : Prop := B i ∨ (w.heap.size ≤ i ∧ i < w'.heap.size)
theorem InB.of_lt {w' : World} {loc' : Int → Nat × Nat} {s' : St} (h : TabL w' T MC MI loc' s') (hB : InB (fun i => B i ∨ w.heap.size ≤ i) T MC MI loc' s') : InB (fresh B w w') T MC MI loc' s' :=
  (hB.and h.lt).mono fun i x => x.1.elim .inl fun y => .inr ⟨y, x.2⟩
set_option maxHeartbeats 1000000 in
set_option maxRecDepth 20000 in
theorem put14_c (who prov nid : Int) (h : TabL w T MC MI loc s) (hB : InB B T MC MI loc s) :
    callV Try.prog 14 [.pointer (some ⟨T, 0, none⟩), .int .i64 who, .int .u16 prov, .int .i64 nid] w fun v w' =>
      v = .int .i64 (if (askS s who prov).2 = 6 then 0 else 7) ∧ (∃ loc', TabL w' T MC MI loc' (if (askS s who prov).2 = 6 then putS s who prov nid else s) ∧ InB (fresh B w w') T MC MI loc' (if (askS s who prov).2 = 6 then putS s who prov nid else s)) ∧ Fm B w w' := by
  refine vc14 ⟨T, 0, none⟩ who prov nid w _ ?_
  refine (ask11_c who prov h).mono ?_
  rintro _ w1 ⟨rfl, rfl⟩
  simp only [isB_i, isK_i, isP_i, isTup_i, isInt_i, isSl_i, isPtr_i, isCs_i, isStr_i, isFn_i, isIf_i, rd_i, br_t, br_f, orO_s, orO_n, gd_t, bv_add, bv_sub, bv_mul, bv_eql, bv_neq, bv_lss, bv_leq, bv_gtr, bv_geq, bv_quo, bv_rem, bv_shl, bv_shr, bv_seq, bv_sne, bv_ptr, bv_if, bv_map, bv_nf, bv_bool, bv_sl, bv_fn, uv_not, uv_neg, eqV, nilV, nc_ptr, nc_fn, nc_if, Option.map_some, toN, Nat.mul_one, implies_true, true_and, and_true, and_self, List.getElem?_cons_zero, List.getElem?_cons_succ]
  by_cases he : ¬ (askS s who prov).2 = 6
  · rw [if_neg he, if_neg he]
    refine br_ndec (fun _ => ?_) (fun x => absurd x he)
    exact ⟨rfl, ⟨loc, h, InB.of_lt h (hB.mono fun i x => .inl x)⟩, Fm.refl _ _⟩
  have he := Decidable.not_not.1 he
  rw [if_pos he, if_pos he]
  refine br_ndec (fun x => absurd he x) (fun _ => ?_)
  refine rd_of (v := .map (some MC)) (cellOf h.t rfl) ?_
  refine lookup_1 (z := none) (by rw [row40]) (by rw [row3]) (by rw [row44]; rfl) h.mc ?_
  rw [getM_map (f := fun p => some (loc p.1).1)]
  obtain ⟨o, ho⟩ : ∃ o, o = ((getM who s.cs).map fun _ => some (loc who).1).getD none := ⟨_, rfl⟩
  rw [← ho]
  simp only [ptrV, isB_i, isK_i, isP_i, isTup_i, isInt_i, isSl_i, isPtr_i, isCs_i, isStr_i, isFn_i, isIf_i, rd_i, br_t, br_f, orO_s, orO_n, gd_t, bv_add, bv_sub, bv_mul, bv_eql, bv_neq, bv_lss, bv_leq, bv_gtr, bv_geq, bv_quo, bv_rem, bv_shl, bv_shr, bv_seq, bv_sne, bv_ptr, bv_if, bv_map, bv_nf, bv_bool, bv_sl, bv_fn, uv_not, uv_neg, eqV, nilV, nc_ptr, nc_fn, nc_if, Option.map_some, toN, Nat.mul_one, implies_true, true_and, and_true, and_self]
  refine allocC_of fun w13 hb13 hs13 hf13 => ?_
  refine stC_one hb13 (by simp) rfl fun w14 hb14 hf14 => ?_
  have hlt := h.lt
  have hF14 : Fm none' w1 w14 := hf13.trans' hf14 (by rintro i hi rfl; omega)
  have h14 := h.keep (S := none') hlt hF14 (fun i x => x.elim)
  have s14 := hf14.size
  have hgc0 : ∀ s' : St, s'.cs = setM who (oldC s who prov) s.cs → getM who s'.cs = some (oldC s who prov) := fun s' e => by rw [e, getM_setM, if_pos rfl]
  refine ⟨fun _ w' => ∃ loc', TabL w' T MC MI loc' ⟨setM who (oldC s who prov) s.cs, s.used⟩ ∧ InB (fun i => B i ∨ w1.heap.size ≤ i) T MC MI loc' ⟨setM who (oldC s who prov) s.cs, s.used⟩ ∧
      w'.heap[w1.heap.size]? = some (.cells #[.pointer (some ⟨(loc' who).1, 0, none⟩)] 44 (0, 0)) ∧ Fm B w1 w', ?_, ?_⟩
  · refine rd_of (v := .pointer (o.map fun b => ⟨b, 0, none⟩)) (cellOf hb14 rfl) ?_
    simp only [isB_i, isK_i, isP_i, isTup_i, isInt_i, isSl_i, isPtr_i, isCs_i, isStr_i, isFn_i, isIf_i, rd_i, br_t, br_f, orO_s, orO_n, gd_t, bv_add, bv_sub, bv_mul, bv_eql, bv_neq, bv_lss, bv_leq, bv_gtr, bv_geq, bv_quo, bv_rem, bv_shl, bv_shr, bv_seq, bv_sne, bv_ptr, bv_if, bv_map, bv_nf, bv_bool, bv_sl, bv_fn, uv_not, uv_neg, eqV, nilV, nc_ptr, nc_fn, nc_if, Option.map_some, toN, Nat.mul_one, implies_true, true_and, and_true, and_self]
    cases hc : getM who s.cs with
    | some c =>
      rw [hc] at ho
      simp only [Option.map_some, Option.getD_some] at ho
      subst ho
      simp only [Option.map_some, Option.isNone_some, isB_i, isK_i, isP_i, isTup_i, isInt_i, isSl_i, isPtr_i, isCs_i, isStr_i, isFn_i, isIf_i, rd_i, br_t, br_f, orO_s, orO_n, gd_t, bv_add, bv_sub, bv_mul, bv_eql, bv_neq, bv_lss, bv_leq, bv_gtr, bv_geq, bv_quo, bv_rem, bv_shl, bv_shr, bv_seq, bv_sne, bv_ptr, bv_if, bv_map, bv_nf, bv_bool, bv_sl, bv_fn, uv_not, uv_neg, eqV, nilV, nc_ptr, nc_fn, nc_if, Option.map_some, toN, Nat.mul_one, implies_true, true_and, and_true, and_self]
      have : setM who (oldC s who prov) s.cs = s.cs := by unfold oldC; rw [hc]; exact setM_same hc
      rw [this]
      exact ⟨loc, h14, hB.mono fun i x => .inl x, hb14, hF14.mono fun i _ x => x.elim⟩
    | none =>
      rw [hc] at ho
      simp only [Option.map_none, Option.getD_none] at ho
      subst ho
      simp only [Option.map_none, Option.isNone_none, isB_i, isK_i, isP_i, isTup_i, isInt_i, isSl_i, isPtr_i, isCs_i, isStr_i, isFn_i, isIf_i, rd_i, br_t, br_f, orO_s, orO_n, gd_t, bv_add, bv_sub, bv_mul, bv_eql, bv_neq, bv_lss, bv_leq, bv_gtr, bv_geq, bv_quo, bv_rem, bv_shl, bv_shr, bv_seq, bv_sne, bv_ptr, bv_if, bv_map, bv_nf, bv_bool, bv_sl, bv_fn, uv_not, uv_neg, eqV, nilV, nc_ptr, nc_fn, nc_if, Option.map_some, toN, Nat.mul_one, implies_true, true_and, and_true, and_self]
      refine makeM (enc := Value.int .i64) (q := .u16) fun w19 hm19 hs19 hf19 => ?_
      refine allocC_of fun w21 hb21 hs21 hf21 => ?_
      refine stC_one ((hf19.trans hf21).keep hb14 id) (by simp) rfl fun w22 hb22 hf22 => ?_
      have hf922 : Fm none' w14 w19.drew := hf19.trans (Fm.drew _)
      have hb22' : w22.drew.heap[w1.heap.size]? = some (.cells #[.pointer (some ⟨w19.heap.size, 0, none⟩)] 44 (0, 0)) := hb22
      have hF22 : Fm none' w1 w22.drew := ((hF14.trans (hf19.trans hf21)).trans' hf22 (by rintro i hi rfl; omega)).trans (Fm.drew _).none
      have hT22 : w22.drew.heap[T]? = some (.cells #[.map (some MC), .map (some MI)] 43 (0, 0)) := hF22.keep h.t id
      have hMC22 := h.mc.keep hF22 id
      refine ⟨fun w' => w'.heap[T]? = some (.cells #[.map (some MC), .map (some MI)] 43 (0, 0)) ∧ w'.heap[w1.heap.size]? = some (.cells #[.pointer (some ⟨w19.heap.size, 0, none⟩)] 44 (0, 0)), ⟨hT22, hb22'⟩, ?_⟩
      refine rd_of (v := .map (some MC)) (cellOf hT22 rfl) ⟨fun w' hw => rd_of (cellOf hw.1 rfl) rfl, ?_⟩
      refine rd_of (v := .pointer (some ⟨w19.heap.size, 0, none⟩)) (cellOf hb22' rfl) ⟨fun w' hw => rd_of (cellOf hw.2 rfl) rfl, ?_⟩
      simp only [isB_i, isK_i, isP_i, isTup_i, isInt_i, isSl_i, isPtr_i, isCs_i, isStr_i, isFn_i, isIf_i, rd_i, br_t, br_f, orO_s, orO_n, gd_t, bv_add, bv_sub, bv_mul, bv_eql, bv_neq, bv_lss, bv_leq, bv_gtr, bv_geq, bv_quo, bv_rem, bv_shl, bv_shr, bv_seq, bv_sne, bv_ptr, bv_if, bv_map, bv_nf, bv_bool, bv_sl, bv_fn, uv_not, uv_neg, eqV, nilV, nc_ptr, nc_fn, nc_if, Option.map_some, toN, Nat.mul_one, implies_true, true_and, and_true, and_self]
      refine update_ok (enc := ptrV) (v := some w19.heap.size) (by rw [row40]) (by rw [row3]) hMC22 fun w41 hM41 hf41 => ?_
      have hne : w1.heap.size ≠ MC := by have := hlt.2.1; omega
      have hTM : T ≠ MC := by rintro rfl; obtain ⟨es, k, hx, _⟩ := h.mc; rw [h.t] at hx; cases hx
      refine ⟨⟨hf41.keep hT22 hTM, hf41.keep hb22' hne⟩, ?_⟩
      have hold : oldC s who prov = ⟨prov, []⟩ := by unfold oldC; rw [hc]; rfl
      have hA22 : w22.drew.heap[w19.heap.size]? = some (clientRow prov w14.heap.size) := (hf22.trans (Fm.drew _).none).keep hb21 (by omega)
      have hI22 : MapAt (Value.int .i64) .u16 w22.drew w14.heap.size [] := ((hm19.keep hf21 id).keep hf22 (by omega)).keep (Fm.drew _) id
      rw [hold]
      refine ⟨upd loc who (w19.heap.size, w14.heap.size), h.come (c := ⟨prov, []⟩) hc hF22 (by omega) (by omega) (by omega) hA22 hI22 hf41 hM41, ?_, ?_, ?_⟩
      · refine ⟨.inl hB.1, .inl hB.2.1, .inl hB.2.2.1, fun p hp => ?_⟩
        rw [setM_none hc] at hp
        rcases List.mem_append.1 hp with hp | hp
        · have : p.1 ≠ who := fun e => (getM_mem.1 hc) (by rw [← e]; exact List.mem_map_of_mem hp)
          rw [upd_ne this]
          exact ⟨.inl (hB.2.2.2 p hp).1, .inl (hB.2.2.2 p hp).2⟩
        · have : p = (who, ⟨prov, []⟩) := by simpa using hp
          subst this
          rw [upd_at]
          exact ⟨.inr (by dsimp only; omega), .inr (by dsimp only; omega)⟩
      · rw [upd_at]; exact hf41.keep hb22' hne
      · exact (hF22.mono fun i _ x => x.elim).trans' hf41 (by rintro i _ rfl; exact hB.2.1)
  rintro u43 w44 ⟨loc', h44, hB44, hb44, hF44⟩
  have hm44 : (who, oldC s who prov) ∈ setM who (oldC s who prov) s.cs := getM_some (hgc0 ⟨_, s.used⟩ rfl)
  have hcl := h44.cl _ hm44
  have hB' : (B (loc' who).1 ∨ w1.heap.size ≤ (loc' who).1) ∧ (B (loc' who).2 ∨ w1.heap.size ≤ (loc' who).2) := hB44.2.2.2 _ hm44
  have inn : ∀ {w w' : World} {S' : Nat → Prop}, Fm B w1 w → Fm S' w w' → (∀ i, S' i → i = (loc' who).1 ∨ i = (loc' who).2 ∨ i = MI) → Fm B w1 w' := by
    intro w w' S' h1 h2 h3
    refine h1.trans' h2 fun i hi x => ?_
    rcases h3 i x with rfl | rfl | rfl
    · exact hB'.1.elim (fun y => y) fun y => by omega
    · exact hB'.2.elim (fun y => y) fun y => by omega
    · exact hB.2.2.1
  have hAn : (loc' who).1 ≠ w1.heap.size := by
    intro e
    have := hcl.1
    rw [e, hb44] at this
    simp [clientRow] at this
  have hIn : ∀ {M α} {enc : α → Value} {q} {l}, MapAt enc q w44 M l → M ≠ w1.heap.size := by
    rintro M α enc q l ⟨es, c, hx, _⟩ rfl
    rw [hb44] at hx; cases hx
  have hIA : ∀ {M α} {enc : α → Value} {q} {l}, MapAt enc q w44 M l → M ≠ (loc' who).1 := by
    rintro M α enc q l ⟨es, c, hx, _⟩ rfl
    rw [hcl.1] at hx; cases hx
  have hIn1 := hIn hcl.2
  have hMn1 := hIn h44.mi
  have hIA1 := hIA hcl.2
  have hMA1 := hIA h44.mi
  have hIM := (h44.far _ hm44).2.2.1
  refine rd_of (v := .pointer (some ⟨(loc' who).1, 0, none⟩)) (cellOf hb44 rfl) ?_
  simp only [isB_i, isK_i, isP_i, isTup_i, isInt_i, isSl_i, isPtr_i, isCs_i, isStr_i, isFn_i, isIf_i, rd_i, br_t, br_f, orO_s, orO_n, gd_t, bv_add, bv_sub, bv_mul, bv_eql, bv_neq, bv_lss, bv_leq, bv_gtr, bv_geq, bv_quo, bv_rem, bv_shl, bv_shr, bv_seq, bv_sne, bv_ptr, bv_if, bv_map, bv_nf, bv_bool, bv_sl, bv_fn, uv_not, uv_neg, eqV, nilV, nc_ptr, nc_fn, nc_if, Option.map_some, toN, Nat.mul_one, implies_true, true_and, and_true, and_self]
  refine rd_of (v := .map (some (loc' who).2)) (cellOf hcl.1 rfl) ?_
  refine update_ok (v := nid) (by rw [row45]) (by rw [row26]) hcl.2 fun w51 hI51 hf51 => ?_
  have h51 := h44.turn (c' := ⟨(oldC s who prov).newest, setM prov nid (oldC s who prov).ids⟩) (hgc0 ⟨_, s.used⟩ rfl) (hf51.mono fun i _ x => .inr (.inl x)) (hf51.keep hcl.1 fun e => hIA1 e.symm) hI51 (h44.mi.keep hf51 fun e => hIM e.symm)
  have hb51 := hf51.keep hb44 fun e => hIn1 e.symm
  have hF51 := inn hF44 hf51 fun i x => .inr (.inl x)
  refine ⟨fun _ w' => TabL w' T MC MI loc' ⟨setM who ⟨(oldC s who prov).newest, setM prov nid (oldC s who prov).ids⟩ s.cs, usedS s nid⟩ ∧ w'.heap[w1.heap.size]? = some (.cells #[.pointer (some ⟨(loc' who).1, 0, none⟩)] 44 (0, 0)) ∧ Fm B w1 w', ?_, ?_⟩
  · dsimp only at h51
    rw [setM_setM] at h51
    refine br_dec (fun hn => ?_) (fun hn => ?_)
    · refine rd_of (v := .map (some MI)) (cellOf h51.t rfl) ?_
      refine update_ok (v := true) (by rw [row41]) (by rw [row3]) h51.mi fun w54 hM54 hf54 => ?_
      have hgc1 : getM who (setM who ⟨(oldC s who prov).newest, setM prov nid (oldC s who prov).ids⟩ s.cs) = some ⟨(oldC s who prov).newest, setM prov nid (oldC s who prov).ids⟩ := by rw [getM_setM, if_pos rfl]
      have hcl51 := h51.cl _ (getM_some hgc1)
      have h54 := h51.turn hgc1 (hf54.mono fun i _ x => .inr (.inr x)) (hf54.keep hcl51.1 fun e => hMA1 e.symm) (hcl51.2.keep hf54 hIM) hM54
      dsimp only at h54
      rw [setM_setM] at h54
      unfold usedS
      rw [if_pos hn]
      exact ⟨h54, hf54.keep hb51 fun e => hMn1 e.symm, inn hF51 hf54 fun i x => .inr (.inr x)⟩
    · unfold usedS
      rw [if_neg hn]
      exact ⟨h51, hb51, hF51⟩
  rintro u56 w57 ⟨h57, hb57, hF57⟩
  have hgc1 : getM who (setM who ⟨(oldC s who prov).newest, setM prov nid (oldC s who prov).ids⟩ s.cs) = some ⟨(oldC s who prov).newest, setM prov nid (oldC s who prov).ids⟩ := by rw [getM_setM, if_pos rfl]
  have hcl57 := h57.cl _ (getM_some hgc1)
  have hB57 : InB (fun i => B i ∨ w1.heap.size ≤ i) T MC MI loc' ⟨setM who ⟨(oldC s who prov).newest, setM prov nid (oldC s who prov).ids⟩ s.cs, usedS s nid⟩ := by
    have := setM_mem_iff (c' := ⟨(oldC s who prov).newest, setM prov nid (oldC s who prov).ids⟩) (used' := usedS s nid) (hgc0 ⟨_, s.used⟩ rfl) hB44
    dsimp only at this
    rwa [setM_setM] at this
  refine rd_of (v := .pointer (some ⟨(loc' who).1, 0, none⟩)) (cellOf hb57 rfl) ?_
  simp only [isB_i, isK_i, isP_i, isTup_i, isInt_i, isSl_i, isPtr_i, isCs_i, isStr_i, isFn_i, isIf_i, rd_i, br_t, br_f, orO_s, orO_n, gd_t, bv_add, bv_sub, bv_mul, bv_eql, bv_neq, bv_lss, bv_leq, bv_gtr, bv_geq, bv_quo, bv_rem, bv_shl, bv_shr, bv_seq, bv_sne, bv_ptr, bv_if, bv_map, bv_nf, bv_bool, bv_sl, bv_fn, uv_not, uv_neg, eqV, nilV, nc_ptr, nc_fn, nc_if, Option.map_some, toN, Nat.mul_one, implies_true, true_and, and_true, and_self]
  refine rd_of (v := .int .u16 (oldC s who prov).newest) (cellOf hcl57.1 rfl) ?_
  simp only [isB_i, isK_i, isP_i, isTup_i, isInt_i, isSl_i, isPtr_i, isCs_i, isStr_i, isFn_i, isIf_i, rd_i, br_t, br_f, orO_s, orO_n, gd_t, bv_add, bv_sub, bv_mul, bv_eql, bv_neq, bv_lss, bv_leq, bv_gtr, bv_geq, bv_quo, bv_rem, bv_shl, bv_shr, bv_seq, bv_sne, bv_ptr, bv_if, bv_map, bv_nf, bv_bool, bv_sl, bv_fn, uv_not, uv_neg, eqV, nilV, nc_ptr, nc_fn, nc_if, Option.map_some, toN, Nat.mul_one, implies_true, true_and, and_true, and_self]
  refine (newer17_c _ _ _).mono ?_
  rintro _ w66 ⟨rfl, rfl⟩
  simp only [isB_i, isK_i, isP_i, isTup_i, isInt_i, isSl_i, isPtr_i, isCs_i, isStr_i, isFn_i, isIf_i, rd_i, br_t, br_f, orO_s, orO_n, gd_t, bv_add, bv_sub, bv_mul, bv_eql, bv_neq, bv_lss, bv_leq, bv_gtr, bv_geq, bv_quo, bv_rem, bv_shl, bv_shr, bv_seq, bv_sne, bv_ptr, bv_if, bv_map, bv_nf, bv_bool, bv_sl, bv_fn, uv_not, uv_neg, eqV, nilV, nc_ptr, nc_fn, nc_if, Option.map_some, toN, Nat.mul_one, implies_true, true_and, and_true, and_self]
  cases hn : newer prov (oldC s who prov).newest with
  | false =>
    have hput : putS s who prov nid = ⟨setM who ⟨(oldC s who prov).newest, setM prov nid (oldC s who prov).ids⟩ s.cs, usedS s nid⟩ := by unfold putS; rw [hn]; rfl
    simp only [br, hput]
    exact ⟨⟨loc', h57, InB.of_lt h57 hB57⟩, hF57⟩
  | true =>
    simp only [br]
    refine rd_of (v := .pointer (some ⟨(loc' who).1, 0, none⟩)) (cellOf hb57 rfl) ?_
    simp only [isB_i, isK_i, isP_i, isTup_i, isInt_i, isSl_i, isPtr_i, isCs_i, isStr_i, isFn_i, isIf_i, rd_i, br_t, br_f, orO_s, orO_n, gd_t, bv_add, bv_sub, bv_mul, bv_eql, bv_neq, bv_lss, bv_leq, bv_gtr, bv_geq, bv_quo, bv_rem, bv_shl, bv_shr, bv_seq, bv_sne, bv_ptr, bv_if, bv_map, bv_nf, bv_bool, bv_sl, bv_fn, uv_not, uv_neg, eqV, nilV, nc_ptr, nc_fn, nc_if, Option.map_some, toN, Nat.mul_one, implies_true, true_and, and_true, and_self]
    refine stC_one hcl57.1 (by simp) rfl fun w72 hb72 hf72 => ?_
    have hb72' : w72.heap[(loc' who).1]? = some (clientRow prov (loc' who).2) := hb72
    have hf72' : Fm (fun i => i = (loc' who).1) w66 w72 := hf72
    have hIM' : (loc' who).2 ≠ MI := hIM
    have h72 := h57.turn (c' := ⟨prov, setM prov nid (oldC s who prov).ids⟩) hgc1 (hf72'.mono fun i _ x => .inl x) hb72' (hcl57.2.keep hf72' fun e => hIA1 e) (h57.mi.keep hf72' fun e => hMA1 e)
    dsimp only at h72
    rw [setM_setM] at h72
    have hbx72 := hf72'.keep hb57 fun e => hAn e.symm
    have hgc2 : getM who (setM who (⟨prov, setM prov nid (oldC s who prov).ids⟩ : Cl) s.cs) = some ⟨prov, setM prov nid (oldC s who prov).ids⟩ := by rw [getM_setM, if_pos rfl]
    have hcl72 := h72.cl _ (getM_some hgc2)
    refine rd_of (v := .pointer (some ⟨(loc' who).1, 0, none⟩)) (cellOf hbx72 rfl) ?_
    simp only [isB_i, isK_i, isP_i, isTup_i, isInt_i, isSl_i, isPtr_i, isCs_i, isStr_i, isFn_i, isIf_i, rd_i, br_t, br_f, orO_s, orO_n, gd_t, bv_add, bv_sub, bv_mul, bv_eql, bv_neq, bv_lss, bv_leq, bv_gtr, bv_geq, bv_quo, bv_rem, bv_shl, bv_shr, bv_seq, bv_sne, bv_ptr, bv_if, bv_map, bv_nf, bv_bool, bv_sl, bv_fn, uv_not, uv_neg, eqV, nilV, nc_ptr, nc_fn, nc_if, Option.map_some, toN, Nat.mul_one, implies_true, true_and, and_true, and_self]
    refine (drop18_c (c := ⟨prov, setM prov nid (oldC s who prov).ids⟩) (g := fun p => !reach prov p) (n := 19) (fun w' => w'.heap[w1.heap.size]? = some (.cells #[.pointer (some ⟨(loc' who).1, 0, none⟩)] 44 (0, 0)) ∧ w'.heap[(loc' who).1]? = some (clientRow prov (loc' who).2)) h72 hgc2 rfl ⟨hbx72, hb72'⟩ ?_ ?_).mono ?_
    · rintro wa wb ⟨p1, p2⟩ f
      have l1 := lt_of_blk hbx72
      have l2 := lt_of_blk hb72'
      exact ⟨f.keep p1 (by rintro (e | e | e); exact hIn1 e.symm; exact hMn1 e.symm; omega), f.keep p2 (by rintro (e | e | e); exact hIA1 e.symm; exact hMA1 e.symm; omega)⟩
    · rintro wa k ⟨p1, p2⟩
      refine vc19 k ⟨w1.heap.size, 0, none⟩ wa _ ?_
      refine rd_of (v := .pointer (some ⟨(loc' who).1, 0, none⟩)) (cellOf p1 rfl) ?_
      simp only [isB_i, isK_i, isP_i, isTup_i, isInt_i, isSl_i, isPtr_i, isCs_i, isStr_i, isFn_i, isIf_i, rd_i, br_t, br_f, orO_s, orO_n, gd_t, bv_add, bv_sub, bv_mul, bv_eql, bv_neq, bv_lss, bv_leq, bv_gtr, bv_geq, bv_quo, bv_rem, bv_shl, bv_shr, bv_seq, bv_sne, bv_ptr, bv_if, bv_map, bv_nf, bv_bool, bv_sl, bv_fn, uv_not, uv_neg, eqV, nilV, nc_ptr, nc_fn, nc_if, Option.map_some, toN, Nat.mul_one, implies_true, true_and, and_true, and_self]
      refine (reach15_c k p2).mono ?_
      rintro _ wb ⟨rfl, rfl⟩
      simp only [isB_i, isK_i, isP_i, isTup_i, isInt_i, isSl_i, isPtr_i, isCs_i, isStr_i, isFn_i, isIf_i, rd_i, br_t, br_f, orO_s, orO_n, gd_t, bv_add, bv_sub, bv_mul, bv_eql, bv_neq, bv_lss, bv_leq, bv_gtr, bv_geq, bv_quo, bv_rem, bv_shl, bv_shr, bv_seq, bv_sne, bv_ptr, bv_if, bv_map, bv_nf, bv_bool, bv_sl, bv_fn, uv_not, uv_neg, eqV, nilV, nc_ptr, nc_fn, nc_if, Option.map_some, toN, Nat.mul_one, implies_true, true_and, and_true, and_self]
    · rintro _ w76 ⟨rfl, h76, hf76⟩
      have hput : putS s who prov nid = dropS (fun p => !reach prov p) who ⟨prov, setM prov nid (oldC s who prov).ids⟩ ⟨setM who ⟨prov, setM prov nid (oldC s who prov).ids⟩ s.cs, usedS s nid⟩ := by unfold putS; rw [hn]; rfl
      rw [hput]
      have hB72 : InB (fun i => B i ∨ w1.heap.size ≤ i) T MC MI loc' ⟨setM who ⟨prov, setM prov nid (oldC s who prov).ids⟩ s.cs, usedS s nid⟩ := by
        have := setM_mem_iff (c' := ⟨prov, setM prov nid (oldC s who prov).ids⟩) (used' := usedS s nid) hgc1 hB57
        dsimp only at this
        rwa [setM_setM] at this
      exact ⟨⟨loc', h76, InB.of_lt h76 (setM_mem_iff (s := ⟨_, usedS s nid⟩) hgc2 hB72)⟩, inn (inn hF57 hf72' fun i x => .inl x) hf76 fun i x => .inr x⟩
def bindS (s : St) (who prov nid : Int) : Int × St :=
  if nid < 1 ∨ (getM nid s.used).getD false = true then (1, s) else if (askS s who prov).2 = 6 then (0, putS s who prov nid) else (7, s)
def denyS (s : St) (who prov : Int) : Int × St := if (askS s who prov).2 = 6 then (0, putS s who prov 0) else (7, s)
def forgetS (s : St) (who : Int) : St := match getM who s.cs with
  | none => s
  | some c => let t := dropS (fun _ => true) who c s; ⟨delM who t.cs, t.used⟩
/-- What a step of a table gives. -/
def Stp (B : Nat → Prop) (w : World) (T : Nat) (r : Value) (s' : St) (v : Value) (w' : World) : Prop := v = r ∧ TabAt w' (fresh B w w') T s' ∧ Fm B w w'
theorem put_c {s : St} (who prov nid : Int) (h : TabAt w B T s) :
    callV Try.prog 14 [.pointer (some ⟨T, 0, none⟩), .int .i64 who, .int .u16 prov, .int .i64 nid] w (Stp B w T (.int .i64 (if (askS s who prov).2 = 6 then 0 else 7)) (if (askS s who prov).2 = 6 then putS s who prov nid else s)) := by
  obtain ⟨MC, MI, loc, h1, h2⟩ := h
  exact (put14_c who prov nid h1 h2).mono fun v w' ⟨h3, ⟨loc', h4, h5⟩, h6⟩ => ⟨h3, ⟨MC, MI, loc', h4, h5⟩, h6⟩
theorem TabAt.self {w : World} {T : Nat} {s : St} (h : TabAt w B T s) : TabAt w (fresh B w w) T s := h.mono fun i x => .inl x
theorem bind9_c {s : St} (who prov nid : Int) (h : TabAt w B T s) :
    callV Try.prog 9 [.pointer (some ⟨T, 0, none⟩), .int .i64 who, .int .u16 prov, .int .i64 nid] w (Stp B w T (.int .i64 (bindS s who prov nid).1) (bindS s who prov nid).2) := by
  refine vc9 ⟨T, 0, none⟩ who prov nid w _ ?_
  unfold bindS
  refine br_dec (fun hn => ?_) (fun hn => ?_)
  · rw [if_pos (.inl hn)]
    exact ⟨rfl, h.self, Fm.refl _ _⟩
  have h0 := h
  obtain ⟨MC, MI, loc, h1, h2⟩ := h
  refine rd_of (v := .map (some MI)) (cellOf h1.t rfl) ?_
  refine lookup_1 (z := false) (by rw [row41]) (by rw [row3]) (by rw [row4]) h1.mi ?_
  simp only [isB_i, isK_i, isP_i, isTup_i, isInt_i, isSl_i, isPtr_i, isCs_i, isStr_i, isFn_i, isIf_i, rd_i, br_t, br_f, orO_s, orO_n, gd_t, bv_add, bv_sub, bv_mul, bv_eql, bv_neq, bv_lss, bv_leq, bv_gtr, bv_geq, bv_quo, bv_rem, bv_shl, bv_shr, bv_seq, bv_sne, bv_ptr, bv_if, bv_map, bv_nf, bv_bool, bv_sl, bv_fn, uv_not, uv_neg, eqV, nilV, nc_ptr, nc_fn, nc_if, Option.map_some, toN, Nat.mul_one, implies_true, true_and, and_true, and_self]
  cases hu : (getM nid s.used).getD false with
  | true =>
    rw [if_pos (.inr rfl)]
    exact ⟨rfl, h0.self, Fm.refl _ _⟩
  | false =>
    rw [if_neg (by simp; omega)]
    simp only [isB_i, isK_i, isP_i, isTup_i, isInt_i, isSl_i, isPtr_i, isCs_i, isStr_i, isFn_i, isIf_i, rd_i, br_t, br_f, orO_s, orO_n, gd_t, bv_add, bv_sub, bv_mul, bv_eql, bv_neq, bv_lss, bv_leq, bv_gtr, bv_geq, bv_quo, bv_rem, bv_shl, bv_shr, bv_seq, bv_sne, bv_ptr, bv_if, bv_map, bv_nf, bv_bool, bv_sl, bv_fn, uv_not, uv_neg, eqV, nilV, nc_ptr, nc_fn, nc_if, Option.map_some, toN, Nat.mul_one, implies_true, true_and, and_true, and_self]
    refine (put_c who prov nid h0).mono ?_
    rintro _ w5 ⟨rfl, h3, h4⟩
    simp only [isB_i, isK_i, isP_i, isTup_i, isInt_i, isSl_i, isPtr_i, isCs_i, isStr_i, isFn_i, isIf_i, rd_i, br_t, br_f, orO_s, orO_n, gd_t, bv_add, bv_sub, bv_mul, bv_eql, bv_neq, bv_lss, bv_leq, bv_gtr, bv_geq, bv_quo, bv_rem, bv_shl, bv_shr, bv_seq, bv_sne, bv_ptr, bv_if, bv_map, bv_nf, bv_bool, bv_sl, bv_fn, uv_not, uv_neg, eqV, nilV, nc_ptr, nc_fn, nc_if, Option.map_some, toN, Nat.mul_one, implies_true, true_and, and_true, and_self]
    by_cases he : (askS s who prov).2 = 6
    · simp only [if_pos he] at h3 ⊢; exact ⟨rfl, h3, h4⟩
    · simp only [if_neg he] at h3 ⊢; exact ⟨rfl, h3, h4⟩
theorem deny12_c {s : St} (who prov : Int) (h : TabAt w B T s) :
    callV Try.prog 12 [.pointer (some ⟨T, 0, none⟩), .int .i64 who, .int .u16 prov] w (Stp B w T (.int .i64 (denyS s who prov).1) (denyS s who prov).2) := by
  refine vc12 ⟨T, 0, none⟩ who prov w _ ?_
  unfold denyS
  refine (put_c who prov 0 h).mono ?_
  rintro _ w5 ⟨rfl, h3, h4⟩
  simp only [isB_i, isK_i, isP_i, isTup_i, isInt_i, isSl_i, isPtr_i, isCs_i, isStr_i, isFn_i, isIf_i, rd_i, br_t, br_f, orO_s, orO_n, gd_t, bv_add, bv_sub, bv_mul, bv_eql, bv_neq, bv_lss, bv_leq, bv_gtr, bv_geq, bv_quo, bv_rem, bv_shl, bv_shr, bv_seq, bv_sne, bv_ptr, bv_if, bv_map, bv_nf, bv_bool, bv_sl, bv_fn, uv_not, uv_neg, eqV, nilV, nc_ptr, nc_fn, nc_if, Option.map_some, toN, Nat.mul_one, implies_true, true_and, and_true, and_self]
  by_cases he : (askS s who prov).2 = 6
  · simp only [if_pos he] at h3 ⊢; exact ⟨rfl, h3, h4⟩
  · simp only [if_neg he] at h3 ⊢; exact ⟨rfl, h3, h4⟩
theorem ask_c {s : St} (who p : Int) (h : TabAt w B T s) :
    callV Try.prog 11 [.pointer (some ⟨T, 0, none⟩), .int .i64 who, .int .u16 p] w fun v w' => v = .tuple #[.int .i64 (askS s who p).1, .int .i64 (askS s who p).2] ∧ w' = w := by
  obtain ⟨MC, MI, loc, h1, h2⟩ := h
  exact ask11_c who p h1
theorem forget16_c {s : St} (who : Int) (h : TabAt w B T s) :
    callV Try.prog 16 [.pointer (some ⟨T, 0, none⟩), .int .i64 who] w (Stp B w T (.tuple #[]) (forgetS s who)) := by
  have h0 := h
  obtain ⟨MC, MI, loc, h1, h2⟩ := h
  refine vc16 ⟨T, 0, none⟩ who w _ (rd_of (v := .map (some MC)) (cellOf h1.t rfl) ?_)
  refine lookup_1 (z := none) (by rw [row40]) (by rw [row3]) (by rw [row44]; rfl) h1.mc ?_
  rw [getM_map (f := fun p => some (loc p.1).1)]
  unfold forgetS
  cases hc : getM who s.cs with
  | none =>
    simp only [Option.map_none, Option.getD_none, ptrV, isB_i, isK_i, isP_i, isTup_i, isInt_i, isSl_i, isPtr_i, isCs_i, isStr_i, isFn_i, isIf_i, rd_i, br_t, br_f, orO_s, orO_n, gd_t, bv_add, bv_sub, bv_mul, bv_eql, bv_neq, bv_lss, bv_leq, bv_gtr, bv_geq, bv_quo, bv_rem, bv_shl, bv_shr, bv_seq, bv_sne, bv_ptr, bv_if, bv_map, bv_nf, bv_bool, bv_sl, bv_fn, uv_not, uv_neg, eqV, nilV, nc_ptr, nc_fn, nc_if, Option.map_some, toN, Nat.mul_one, implies_true, true_and, and_true, and_self, Option.isNone_none]
    exact ⟨rfl, h0.self, Fm.refl _ _⟩
  | some c =>
    simp only [Option.map_some, Option.getD_some, ptrV, isB_i, isK_i, isP_i, isTup_i, isInt_i, isSl_i, isPtr_i, isCs_i, isStr_i, isFn_i, isIf_i, rd_i, br_t, br_f, orO_s, orO_n, gd_t, bv_add, bv_sub, bv_mul, bv_eql, bv_neq, bv_lss, bv_leq, bv_gtr, bv_geq, bv_quo, bv_rem, bv_shl, bv_shr, bv_seq, bv_sne, bv_ptr, bv_if, bv_map, bv_nf, bv_bool, bv_sl, bv_fn, uv_not, uv_neg, eqV, nilV, nc_ptr, nc_fn, nc_if, Option.map_some, toN, Nat.mul_one, implies_true, true_and, and_true, and_self, Option.isNone_some]
    refine (drop18_c (g := fun _ => true) (n := 21) (fun _ => True) h1 hc rfl trivial (fun _ _ _ _ => trivial) ?_).mono ?_
    · intro wa k _
      exact vc21 k wa _ ⟨rfl, rfl⟩
    · rintro _ w5 ⟨rfl, h5, hf5⟩
      have hb5 := setM_mem_iff (c' := ⟨c.newest, left (fun _ => true) [] c.ids⟩) (used' := (dropS (fun _ => true) who c s).used) hc h2
      refine rd_of (v := .map (some MC)) (cellOf h5.t rfl) ?_
      refine delete_ok (by rw [row40]) (by rw [row3]) h5.mc fun w7 hm7 hf7 => ?_
      have h7 := h5.go hf7 hm7
      refine ⟨rfl, ⟨MC, MI, loc, h7, ?_⟩, ?_⟩
      · refine InB.of_lt h7 ⟨.inl h2.1, .inl h2.2.1, .inl h2.2.2.1, fun p hp => ?_⟩
        have := hb5.2.2.2 p ((mem_delM h5.keysOk).1 hp).1
        exact ⟨.inl this.1, .inl this.2⟩
      · have hw := h2.2.2.2 _ (getM_some hc)
        exact (hf5.mono (by rintro i _ (rfl | rfl); exact hw.2; exact h2.2.2.1)).trans (hf7.mono (by rintro i _ rfl; exact h2.2.1))
def lenS (s : St) : Nat := (s.cs.map fun p => p.2.ids.length).sum
def sumD (todo : List Int) (cs : List (Int × Cl)) : Nat := (cs.map fun p => if p.1 ∈ todo then 0 else p.2.ids.length).sum
theorem sumD_none {cs : List (Int × Cl)} : sumD [] cs = (cs.map fun p => p.2.ids.length).sum := by simp [sumD]
theorem sumD_all {cs : List (Int × Cl)} {todo : List Int} (h : ∀ p ∈ cs, p.1 ∈ todo) : sumD todo cs = 0 := by
  induction cs with
  | nil => rfl
  | cons p cs ih =>
    simp only [sumD, List.map_cons, List.sum_cons, if_pos (h p List.mem_cons_self), Nat.zero_add]
    exact ih fun q hq => h q (List.mem_cons_of_mem _ hq)
theorem sumD_le {cs : List (Int × Cl)} {todo : List Int} : sumD todo cs ≤ (cs.map fun p => p.2.ids.length).sum := by
  induction cs with
  | nil => exact Nat.le_refl _
  | cons p cs ih =>
    simp only [sumD, List.map_cons, List.sum_cons] at ih ⊢
    split <;> omega
theorem sumD_step {k : Int} {todo : List Int} : ∀ {cs : List (Int × Cl)} {c : Cl}, (cs.map (·.1)).Nodup → (k, c) ∈ cs → k ∈ todo → sumD (todo.filter fun x => decide (x ≠ k)) cs = sumD todo cs + c.ids.length := by
  intro cs
  induction cs with
  | nil => intro c _ h; cases h
  | cons p cs ih =>
    intro c hn hm hk
    simp only [List.map_cons, List.nodup_cons] at hn
    simp only [sumD, List.map_cons, List.sum_cons]
    rcases List.mem_cons.1 hm with rfl | hm
    · have : cs.map (fun p => if p.1 ∈ todo.filter (fun x => decide (x ≠ k)) then 0 else p.2.ids.length) = cs.map (fun p => if p.1 ∈ todo then 0 else p.2.ids.length) := by
        refine List.map_congr_left fun q hq => ?_
        have : q.1 ≠ k := fun e => hn.1 (by rw [← e]; exact List.mem_map_of_mem (f := (·.1)) hq)
        simp [this]
      rw [this, if_pos hk, if_neg (by simp)]
      dsimp only; omega
    · have hpk : p.1 ≠ k := fun e => hn.1 (by rw [e]; exact List.mem_map_of_mem (f := (·.1)) hm)
      have := ih hn.2 hm hk
      simp only [sumD] at this
      rw [this]
      simp [hpk]
      omega
set_option maxRecDepth 20000 in
theorem len10_c {s : St} (h : TabAt w B T s) (hs : lenS s < 4611686018427387904) : callV Try.prog 10 [.pointer (some ⟨T, 0, none⟩)] w fun v w' => v = .int .i64 (lenS s) ∧ Fm none' w w' := by
  obtain ⟨MC, MI, loc, h1, h2⟩ := h
  refine vc10 ⟨T, 0, none⟩ w _ (rd_of (v := .map (some MC)) (cellOf h1.t rfl) ?_)
  refine range_ok (by rw [row40]) h1.mc fun w1 hit hs1 hf1 => ?_
  have hlt := h1.lt
  refine ⟨fun u w' => ∃ todo, IterAt ptrV .i64 w' MC w.heap.size (s.cs.map fun p => (p.1, some (loc p.1).1)) todo ∧ u 3 = .int .i64 (sumD todo s.cs) ∧ Fm none' w w', fun _ w' => w'.rangeLeft MC w.heap.size, ?_, ?_⟩
  · refine ⟨_, hit, ?_, hf1⟩
    show Value.int .i64 0 = _
    rw [sumD_all]
    · rfl
    · intro p hp
      simp only [List.map_map]
      exact List.mem_map_of_mem (f := (fun x => x.1) ∘ fun p => (p.1, some (loc p.1).1)) hp
  rintro u w6 ⟨todo, hit6, h3, hf6⟩
  change u 3 = .int .i64 (sumD todo s.cs) at h3
  simp only [h3, isB_i, isK_i, isP_i, isTup_i, isInt_i, isSl_i, isPtr_i, isCs_i, isStr_i, isFn_i, isIf_i, rd_i, br_t, br_f, orO_s, orO_n, gd_t, bv_add, bv_sub, bv_mul, bv_eql, bv_neq, bv_lss, bv_leq, bv_gtr, bv_geq, bv_quo, bv_rem, bv_shl, bv_shr, bv_seq, bv_sne, bv_ptr, bv_if, bv_map, bv_nf, bv_bool, bv_sl, bv_fn, uv_not, uv_neg, eqV, nilV, nc_ptr, nc_fn, nc_if, Option.map_some, toN, Nat.mul_one, implies_true, true_and, and_true, and_self]
  refine next_ok hit6 (fun h0 => ?_) (fun k v w9 hk hkv hit9 hlt9 hf9 hen => ?_)
  · subst h0
    simp only [isB_i, isK_i, isP_i, isTup_i, isInt_i, isSl_i, isPtr_i, isCs_i, isStr_i, isFn_i, isIf_i, rd_i, br_t, br_f, orO_s, orO_n, gd_t, bv_add, bv_sub, bv_mul, bv_eql, bv_neq, bv_lss, bv_leq, bv_gtr, bv_geq, bv_quo, bv_rem, bv_shl, bv_shr, bv_seq, bv_sne, bv_ptr, bv_if, bv_map, bv_nf, bv_bool, bv_sl, bv_fn, uv_not, uv_neg, eqV, nilV, nc_ptr, nc_fn, nc_if, Option.map_some, toN, Nat.mul_one, implies_true, true_and, and_true, and_self, List.getElem?_cons_zero, List.getElem?_cons_succ]
    rw [sumD_none]
    exact ⟨rfl, hf6⟩
  simp only [isB_i, isK_i, isP_i, isTup_i, isInt_i, isSl_i, isPtr_i, isCs_i, isStr_i, isFn_i, isIf_i, rd_i, br_t, br_f, orO_s, orO_n, gd_t, bv_add, bv_sub, bv_mul, bv_eql, bv_neq, bv_lss, bv_leq, bv_gtr, bv_geq, bv_quo, bv_rem, bv_shl, bv_shr, bv_seq, bv_sne, bv_ptr, bv_if, bv_map, bv_nf, bv_bool, bv_sl, bv_fn, uv_not, uv_neg, eqV, nilV, nc_ptr, nc_fn, nc_if, Option.map_some, toN, Nat.mul_one, implies_true, true_and, and_true, and_self, List.getElem?_cons_zero, List.getElem?_cons_succ]
  refine hen _ ?_
  obtain ⟨p, hp, hpe⟩ := List.mem_map.1 hkv
  cases hpe
  simp only [ptrV, isB_i, isK_i, isP_i, isTup_i, isInt_i, isSl_i, isPtr_i, isCs_i, isStr_i, isFn_i, isIf_i, rd_i, br_t, br_f, orO_s, orO_n, gd_t, bv_add, bv_sub, bv_mul, bv_eql, bv_neq, bv_lss, bv_leq, bv_gtr, bv_geq, bv_quo, bv_rem, bv_shl, bv_shr, bv_seq, bv_sne, bv_ptr, bv_if, bv_map, bv_nf, bv_bool, bv_sl, bv_fn, uv_not, uv_neg, eqV, nilV, nc_ptr, nc_fn, nc_if, Option.map_some, toN, Nat.mul_one, implies_true, true_and, and_true, and_self, List.getElem?_cons_zero, List.getElem?_cons_succ, Option.map_some]
  have hf9' : Fm none' w w9 := hf6.trans' hf9 (by rintro i hi rfl; omega)
  have h9 := h1.keep (S := none') hlt hf9' (fun i x => x.elim)
  have hcl := h9.cl p hp
  refine rd_of (v := .map (some (loc p.1).2)) (cellOf hcl.1 rfl) ?_
  refine lenM_ok (by rw [row45]) hcl.2 ?_
  simp only [isB_i, isK_i, isP_i, isTup_i, isInt_i, isSl_i, isPtr_i, isCs_i, isStr_i, isFn_i, isIf_i, rd_i, br_t, br_f, orO_s, orO_n, gd_t, bv_add, bv_sub, bv_mul, bv_eql, bv_neq, bv_lss, bv_leq, bv_gtr, bv_geq, bv_quo, bv_rem, bv_shl, bv_shr, bv_seq, bv_sne, bv_ptr, bv_if, bv_map, bv_nf, bv_bool, bv_sl, bv_fn, uv_not, uv_neg, eqV, nilV, nc_ptr, nc_fn, nc_if, Option.map_some, toN, Nat.mul_one, implies_true, true_and, and_true, and_self]
  have hst := sumD_step h1.keysOk (c := p.2) hp hk
  have hle := sumD_le (cs := s.cs) (todo := todo.filter fun x => decide (x ≠ p.1))
  have hle' : sumD (todo.filter fun x => decide (x ≠ p.1)) s.cs ≤ lenS s := hle
  rw [w64 (by omega)]
  refine ⟨⟨_, hit9, ?_, hf9'⟩, hlt9⟩
  show Value.int .i64 _ = _
  rw [hst]
  simp
end Go.Proofs.Ytfdbojnikoonbaa
