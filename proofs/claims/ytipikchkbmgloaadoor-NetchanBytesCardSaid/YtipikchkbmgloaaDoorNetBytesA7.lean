/- What NetBytes needs, part 7 of 12: REn Reads E0 Crc App Few Lib2 Few9 CrcW Nums E1 Dg DgR DgD DgW DgX.  Conditions: as each part says. -/
import Derived.Test.YtipikchkbmgloaaDoorNetBytesA6
/- the reference: bytes of messages; message's law 3.  Conditions: the messages may be read. -/
namespace Go.Proofs.YtipikchkbmgloaaDoor
set_option linter.unusedSimpArgs false
set_option linter.unusedVariables false
open Go Go.RowKit VC
variable {w : World}
/-- A text, cut. -/
theorem slice_txt {bs : List Int} {l h : Nat} {kl kh : IntKind} {K : Value → World → Prop} (hl : l ≤ h) (hh : h ≤ bs.length) (k : K (.string (txt ((bs.take h).drop l))) w) :
    runs Tryd.prog (Instr.sliceAt 9 (.string (txt bs)) (some (.int kl (l : Int))) (some (.int kh (h : Int))) none) w K := by
  refine slice_str (by rw [row9]) hl (by rw [List.length_map]; exact hh) ?_
  rw [← List.map_take, ← List.map_drop]
  exact k
theorem chunk {ys : List Int} (hy : ∀ y ∈ ys, 0 ≤ y ∧ y < 256) {i : Nat} {y : Int} (h : ys[i]? = some y) : val (((byteBits ys).take (8 * i + 8)).drop (8 * i)) = y := by
  have hyy := hy y (List.mem_of_getElem? h)
  obtain ⟨m, rfl⟩ : ∃ m : Nat, y = m := ⟨y.toNat, by omega⟩
  have e : ((byteBits ys).take (8 * i + 8)).drop (8 * i) = bitsOf (m : Int) 8 := by
    have hil := (List.getElem?_eq_some_iff.1 h).1
    have hs : ys = ys.take i ++ (m : Int) :: ys.drop (i + 1) := by
      have h1 := (List.getElem?_eq_some_iff.1 h).2
      rw [← h1, ← List.drop_eq_getElem_cons hil, List.take_append_drop]
    have hl : (byteBits (ys.take i)).length = 8 * i := by rw [byteBits_length, List.length_take]; omega
    rw [hs, byteBits_app]
    rw [show byteBits ((m : Int) :: ys.drop (i + 1)) = bitsOf (IntKind.u64.wrap (m : Int)) 8 ++ byteBits (ys.drop (i + 1)) from rfl, u64n (by omega)]
    rw [List.take_append, hl, List.drop_append, List.take_of_length_le (by omega), List.drop_of_length_le (by omega), hl]
    rw [show 8 * i + 8 - 8 * i = 8 by omega, Nat.sub_self, List.drop_zero, List.nil_append, List.take_append_of_le_length (by rw [bitsOf_length]; omega), List.take_of_length_le (by rw [bitsOf_length]; omega)]
  rw [e, val_bitsOf m 8 (by omega)]
  omega
set_option maxRecDepth 20000 in
set_option maxHeartbeats 1000000 in
theorem bytes49_c {bs : List Int} (hb : ∀ b ∈ bs, Bit b) (hl : bs.length ≤ 100000000) : callV Tryd.prog 79 [.string (txt bs)] w fun v w' => v = .string (strOfNums (pack bs)) ∧ Fm none' w w' := by
  have hpl := pack_length bs
  have hbp := byteBits_pack bs hb
  refine vc79 _ w _ ?_
  refine ⟨fun u w' => ∃ z : Nat, bs.length + z ≤ 8 * (pack bs).length ∧ u 0 = .string (txt (bs ++ List.replicate z 0)) ∧ Fm none' w w', fun u _ => match u 0 with | .string s => 8 * (pack bs).length - s.size | _ => 0, ⟨0, by omega, by simp [alist], Fm.refl _ _⟩, ?_⟩
  rintro u w3 ⟨z, hz, h0, hF⟩
  change u 0 = _ at h0
  simp only [h0, vcs, eqV, nilV, Option.map_some, Nat.mul_one, implies_true, true_and, and_true, and_self, txt_size, List.length_append, List.length_replicate]
  have htm : Int.tmod ((bs.length + z : Nat) : Int) 8 = (((bs.length + z) % 8 : Nat) : Int) := by rw [Int.tmod_eq_emod_of_nonneg (Int.natCast_nonneg _)]; norm_cast
  rw [htm]
  refine br_ndec (fun h8 => ?_) (fun h8 => ?_)
  · refine cat_txt (ys := [0]) (by simp; omega) ?_
    simp only [vcs, eqV, nilV, Option.map_some, Nat.mul_one, implies_true, true_and, and_true, and_self]
    refine ⟨⟨z + 1, by omega, ?_, hF⟩, ?_⟩
    · show Value.string _ = _
      rw [List.append_assoc]
      congr 3
      rw [List.replicate_succ']
    · show 8 * (pack bs).length - (txt _).size < 8 * (pack bs).length - (txt _).size
      rw [txt_size, txt_size]; simp; omega
  · have hz8 : bs.length + z = 8 * (pack bs).length := by omega
    have hps : bs ++ List.replicate z 0 = byteBits (pack bs) := by
      rw [hbp]; congr 2; omega
    rw [hps]
    refine ⟨fun u' w' => ∃ i : Nat, i ≤ (pack bs).length ∧ u' 3 = .string (strOfNums ((pack bs).take i)) ∧ u' 4 = .int .i64 ((8 * i : Nat) : Int) ∧ Fm none' w w', fun u' _ => 8 * (pack bs).length - (intOf (u' 4)).toNat, ⟨0, by omega, rfl, rfl, hF⟩, ?_⟩
    rintro u' w12 ⟨i, hi, h3, h4, hF12⟩
    change u' 3 = _ at h3
    change u' 4 = _ at h4
    simp only [h3, h4, vcs, eqV, nilV, Option.map_some, Nat.mul_one, implies_true, true_and, and_true, and_self]
    rw [show ((bs.length + z : Nat) : Int) = ((8 * (pack bs).length : Nat) : Int) by rw [hz8]]
    refine br_dec (fun hil => ?_) (fun hil => ?_)
    · obtain ⟨y, hy⟩ : ∃ y, (pack bs)[i]? = some y := ⟨(pack bs)[i]'(by omega), by simp⟩
      have hyr := pack_range bs
      have hyy := hyr y (List.mem_of_getElem? hy)
      have hch := chunk hyr hy
      rw [w64 (by omega), show (((8 * i : Nat) : Int) + 8) = ((8 * i + 8 : Nat) : Int) by push_cast; rfl]
      refine slice_txt (by omega) (by rw [byteBits_length]; omega) ?_
      simp only [vcs, eqV, nilV, Option.map_some, Nat.mul_one, implies_true, true_and, and_true, and_self]
      refine (number55_c (fun b hb' => byteBits_bit _ b (List.mem_of_mem_take (List.mem_of_mem_drop hb'))) (by rw [List.length_drop, List.length_take]; omega)).mono ?_
      rw [hch]
      rintro _ w24 ⟨rfl, hf24⟩
      simp only [vcs, eqV, nilV, Option.map_some, Nat.mul_one, implies_true, true_and, and_true, and_self]
      have hw8 : IntKind.u8.wrap y = y := by simp only [IntKind.wrap, IntKind.bits, IntKind.signed]; simp; omega
      rw [hw8]
      refine build_1 (by rw [row25]) row5 rfl rfl fun w27 hb27 hs27 hf27 => ?_
      simp only [vcs, eqV, nilV, Option.map_some, Nat.mul_one, implies_true, true_and, and_true, and_self]
      refine conv_bytes (ys := [y]) (by rw [row25]) (by rw [row5]) (by rw [row9]) rfl (fun j y' hj => ?_) ?_
      · obtain rfl : j = 0 := by have := (List.getElem?_eq_some_iff.1 hj).1; simp at this; omega
        simp at hj; subst hj
        exact ⟨_, rfl, cellOf hb27 rfl⟩
      simp only [vcs, eqV, nilV, Option.map_some, Nat.mul_one, implies_true, true_and, and_true, and_self]
      rw [bv_cat (by rw [strOfNums_size, strOfNums_size, List.length_take]; simp; omega), strOfNums_app]
      simp only [vcs, eqV, nilV, Option.map_some, Nat.mul_one, implies_true, true_and, and_true, and_self]
      refine ⟨⟨i + 1, by omega, ?_, by show Value.int _ _ = _; congr 1, (hF12.trans hf24).trans hf27⟩, ?_⟩
      · show Value.string _ = _
        rw [List.take_add_one, hy]; rfl
      · show 8 * (pack bs).length - (((8 * i + 8 : Nat) : Int)).toNat < 8 * (pack bs).length - ((8 * i : Nat) : Int).toNat; omega
    · have : i = (pack bs).length := by omega
      subst this
      rw [List.take_length]
      exact ⟨rfl, hF12⟩
theorem oneBits_bit (m : Msg) : ∀ b ∈ oneBits m, Bit b := app_bit (bitsOf_bit _ _) (fieldBits_bit m)
theorem flat_bit (l : List Msg) : ∀ b ∈ l.flatMap oneBits, Bit b := by
  intro b hb
  simp only [List.mem_flatMap] at hb
  obtain ⟨m, _, hb⟩ := hb
  exact oneBits_bit m b hb
set_option maxRecDepth 20000 in
set_option maxHeartbeats 1000000 in
theorem write24_c {ms : List Msg} {p : Option Addr} {c : Nat} (hm : MsgsAt w w.heap.size p ms) (hok : Msok ms) (hk : ∀ m ∈ ms, 1 ≤ m.kind ∧ m.kind ≤ 9) (hlen : ms.length ≤ 100) :
    callV Tryd.prog 51 [.slice p ms.length c] w fun v w' => v = .string (strOfNums (pack (encBits ms))) ∧ Fm none' w w' := by
  have hsum : ∀ j, ((ms.take j).flatMap oneBits).length ≤ 1630400 := by
    intro j
    have h1 := oneBits_sum (ms := ms.take j) fun m hm => hok.len m (List.mem_of_mem_take hm)
    have h2 : (ms.take j).length ≤ 100 := by rw [List.length_take]; omega
    exact Nat.le_trans h1 (Nat.mul_le_mul_right 16304 h2)
  refine vc51 p ms.length c w _ ?_
  refine (textX (ms.length : Int) 5 (by omega)).mono ?_
  rintro _ w1 ⟨rfl, hf1⟩
  simp only [vcs, eqV, nilV, Option.map_some, Nat.mul_one, implies_true, true_and, and_true, and_self]
  refine ⟨fun u w' => ∃ j : Nat, j ≤ ms.length ∧ u 3 = .string (txt (bitsOf (IntKind.u64.wrap (ms.length : Int)) 5 ++ (ms.take j).flatMap oneBits)) ∧ u 4 = .int .i64 j ∧ Fm none' w w', fun u _ => ms.length - (intOf (u 4)).toNat, ⟨0, by omega, by simp [alist], rfl, hf1⟩, ?_⟩
  rintro u w6 ⟨j, hj, h3, h4, hF⟩
  change u 3 = _ at h3
  change u 4 = _ at h4
  simp only [h3, h4, vcs, eqV, nilV, Option.map_some, Nat.mul_one, implies_true, true_and, and_true, and_self]
  have hs := hsum j
  refine br_dec (fun hjl => ?_) (fun hjl => ?_)
  · obtain ⟨m, hmj⟩ : ∃ m, ms[j]? = some m := ⟨ms[j]'(by omega), by simp⟩
    have hmem := List.mem_of_getElem? hmj
    obtain ⟨ad, q, cq, rfl, hadN, hcells, hq, -⟩ := (hm.keep hF fun _ _ => id) j m hmj
    simp only [vcs, eqV, nilV, Option.map_some, Nat.mul_one, implies_true, true_and, and_true, and_self]
    refine ⟨by omega, rd_of hcells ?_⟩
    refine (bits48_c (hok.ok m hmem) (hok.len m hmem) hq (hk m hmem).1 (hk m hmem).2).mono ?_
    rintro _ w14 ⟨rfl, hf14⟩
    simp only [vcs, eqV, nilV, Option.map_some, Nat.mul_one, implies_true, true_and, and_true, and_self]
    have hfl := fieldBits_len m
    have hml := hok.len m hmem
    refine cat1 (by rw [List.length_append, bitsOf_length]; unfold oneBits at hs ⊢; rw [List.length_append, bitsOf_length]; omega) ?_
    rw [w64 (by omega)]
    refine ⟨⟨j + 1, by omega, ?_, rfl, hF.trans hf14⟩, ?_⟩
    · show Value.string _ = _
      rw [List.take_add_one, hmj, List.flatMap_append, List.append_assoc]
      simp
    · show ms.length - ((j : Int) + 1).toNat < ms.length - (j : Int).toNat; omega
  · have : j = ms.length := by omega
    subst this
    rw [List.take_length]
    rw [List.take_length] at hs
    refine (bytes49_c (app_bit (bitsOf_bit _ _) (flat_bit ms)) (by rw [List.length_append, bitsOf_length]; omega)).mono ?_
    rintro _ w20 ⟨rfl, hf20⟩
    simp only [vcs, eqV, nilV, Option.map_some, Nat.mul_one, implies_true, true_and, and_true, and_self]
    exact ⟨rfl, hF.trans hf20⟩
set_option maxRecDepth 20000 in
set_option maxHeartbeats 1000000 in
theorem encode15_c {ms : List Msg} {p : Option Addr} {c : Nat} (hm : MsgsAt w w.heap.size p ms) (hok : Msok ms) (hlen : ms.length ≤ 100) :
    callV Tryd.prog 26 [.slice p ms.length c] w fun v w' => v = .tuple #[.string (strOfNums (encodeM ms).1), .int .i64 (encodeM ms).2] ∧ Fm none' w w' := by
  refine vc26 p ms.length c w _ ?_
  refine ⟨fun u w' => ∃ j : Nat, j ≤ ms.length ∧ u 4 = .int .i64 j ∧ (∀ m ∈ ms.take j, rightM m = true) ∧ Fm none' w w', fun u _ => ms.length - (intOf (u 4)).toNat, ⟨0, by omega, rfl, by simp, Fm.refl _ _⟩, ?_⟩
  rintro u w3 ⟨j, hj, h4, hright, hF⟩
  change u 4 = _ at h4
  simp only [h4, vcs, eqV, nilV, Option.map_some, Nat.mul_one, implies_true, true_and, and_true, and_self]
  refine br_dec (fun hjl => ?_) (fun hjl => ?_)
  · obtain ⟨m, hmj⟩ : ∃ m, ms[j]? = some m := ⟨ms[j]'(by omega), by simp⟩
    have hmem := List.mem_of_getElem? hmj
    obtain ⟨ad, q, cq, rfl, hadN, hcells, hq, -⟩ := (hm.keep hF fun _ _ => id) j m hmj
    simp only [vcs, eqV, nilV, Option.map_some, Nat.mul_one, implies_true, true_and, and_true, and_self]
    refine ⟨by omega, rd_of hcells ?_⟩
    refine (right17_c (hok.ok m hmem) (by have := hok.len m hmem; omega) hq).mono ?_
    rintro _ w10 ⟨rfl, hf10⟩
    simp only [vcs, eqV, nilV, Option.map_some, Nat.mul_one, implies_true, true_and, and_true, and_self]
    refine br_ndec' (fun hr => ?_) (fun hr => ?_)
    · have : encodeM ms = ([], 1) := by
        unfold encodeM
        rw [if_neg]
        intro h
        rw [List.all_eq_true] at h
        rw [h m hmem] at hr; cases hr
      rw [this]
      exact ⟨rfl, hF.trans hf10⟩
    · rw [w64 (by omega)]
      refine ⟨⟨j + 1, by omega, rfl, ?_, hF.trans hf10⟩, by show ms.length - ((j : Int) + 1).toNat < ms.length - (j : Int).toNat; omega⟩
      intro x hx
      rw [List.take_add_one, hmj] at hx
      rcases List.mem_append.1 hx with hx | hx
      · exact hright x hx
      · simp at hx; subst hx; exact hr
  · have : j = ms.length := by omega
    subst this
    rw [List.take_length] at hright
    have hall : ms.all rightM = true := List.all_eq_true.2 hright
    have e1 : encodeM ms = if 16 < ms.length ∨ 1024 < (pack (encBits ms)).length then ([], 5) else (pack (encBits ms), 0) := by unfold encodeM; rw [if_pos hall]
    refine br_dec (fun h16 => ?_) (fun h16 => ?_)
    · have : encodeM ms = ([], 5) := e1.trans (if_pos (.inl (by omega)))
      rw [this]
      exact ⟨rfl, hF⟩
    · refine (write24_c (hm.fm hF) hok (fun m hm => ?_) hlen).mono ?_
      · have := rok_of (hok.ok m hm) (by have := hok.len m hm; omega) (hright m hm)
        exact known_iff.1 this.known
      rintro _ w14 ⟨rfl, hf14⟩
      simp only [vcs, eqV, nilV, Option.map_some, Nat.mul_one, implies_true, true_and, and_true, and_self, strOfNums_size]
      refine br_dec (fun h10 => ?_) (fun h10 => ?_)
      · have : encodeM ms = ([], 5) := e1.trans (if_pos (.inr (by omega)))
        rw [this]
        exact ⟨rfl, hF.trans hf14⟩
      · have : encodeM ms = (pack (encBits ms), 0) := e1.trans (if_neg (by omega))
        rw [this]
        exact ⟨rfl, hF.trans hf14⟩
end Go.Proofs.YtipikchkbmgloaaDoor
/- message's law 4: what is read is what the reference reads.  Conditions: the bytes may be read. -/
namespace Go.Proofs.YtipikchkbmgloaaDoor
set_option linter.unusedSimpArgs false
set_option linter.unusedVariables false
open Go Go.RowKit VC
variable {w : World} {R : Nat} {s : RS}
theorem own_base {w : World} {base base' : Nat} {e : TypeId} {size n : Nat} {v : Value} {xs : List Value} (h : w.ownsRow base e size v n xs) (hb : base' ≤ base) : w.ownsRow base' e size v n xs := by
  obtain ⟨h1, h2⟩ := h
  refine ⟨h1, ?_⟩
  rcases h2 with h2 | ⟨g, cap, cur, hv, hg, hr⟩
  · exact .inl h2
  · exact .inr ⟨g, cap, cur, hv, Nat.le_trans hb hg, hr⟩
set_option maxRecDepth 20000 in
theorem rest37_c {bs : List Int} (hb : ∀ b ∈ bs, Bit b) (hl : bs.length ≤ 1000000) : callV Tryd.prog 60 [.string (txt bs)] w fun v w' => v = .bool (restOk bs) ∧ Fm none' w w' := by
  refine vc60 _ w _ ?_
  refine ⟨fun u w' => ∃ j : Nat, j ≤ bs.length ∧ u 3 = .int .i64 (j : Int) ∧ (∀ b ∈ bs.take j, b = 0) ∧ w' = w, fun u _ => bs.length - (intOf (u 3)).toNat, ⟨0, by omega, rfl, by simp, rfl⟩, ?_⟩
  rintro u w5 ⟨j, hj, h3', hz, rfl⟩
  change u 3 = .int .i64 (j : Int) at h3'
  simp only [h3', vcs, eqV, nilV, Option.map_some, Nat.mul_one, implies_true, true_and, and_true, and_self, txt_size]
  refine br_dec (fun hjn => ?_) (fun hjn => ?_)
  · obtain ⟨b, hb'⟩ : ∃ b, bs[j]? = some b := ⟨bs[j]'(by omega), by simp⟩
    refine index_str (ys := bs.map (48 + ·)) (j := j) (by rw [row9]) (txt_r hb) (by rw [List.getElem?_map, hb']; rfl) ?_
    simp only [vcs, eqV, nilV, Option.map_some, Nat.mul_one, implies_true, true_and, and_true, and_self]
    refine br_ndec (fun he => ?_) (fun he => ?_)
    · refine ⟨?_, Fm.refl _ _⟩
      have : (bs.all fun b => decide (b = 0)) = false := by
        rw [List.all_eq_false]
        exact ⟨b, List.mem_of_getElem? hb', by simp; omega⟩
      unfold restOk; rw [this]; rfl
    · rw [w64 (by omega)]
      refine ⟨⟨j + 1, by omega, ?_, ?_, rfl⟩, ?_⟩
      · show Value.int .i64 _ = _
        congr 1
      · rw [List.take_add_one, hb']
        intro x hx
        rcases List.mem_append.1 hx with hx | hx
        · exact hz x hx
        · simp at hx; omega
      · show bs.length - ((j : Int) + 1).toNat < bs.length - ((j : Nat) : Int).toNat; omega
  · have : j = bs.length := by omega
    subst this
    rw [List.take_length] at hz
    have : (bs.all fun b => decide (b = 0)) = true := by
      rw [List.all_eq_true]
      intro b hb; simp [hz b hb]
    refine ⟨?_, Fm.refl _ _⟩
    unfold restOk; rw [this, Bool.true_and]
    congr 1
    rw [decide_eq_decide]; omega
theorem build_noneS {P : Program} {w : World} {t e : TypeId} {k : K} {b size : Nat} {z : Value} {KK : Value → World → Prop} (ht : (row P t).k = .slice e) (he : row P e = ⟨k, size, b, some z⟩)
    (kk : ∀ s w', w'.ownsRow w.heap.size e size s 0 [] → w.heap.size < w'.heap.size → Fm none' w w' → KK s w') : runs P (Instr.buildSlice t 0 #[]) w KK := by
  obtain ⟨i, hi, hz, hsz, hbt⟩ := info_of_row he
  have hu := slice_of_row ht
  have hr : Array.range 0 = #[] := rfl
  have hbuild : (Instr.buildSlice t 0 #[]).run P w = .ok (.slice (some ⟨w.heap.size, 0, none⟩) 0 0) (w.alloc (.cells #[] e)) := by
    simp [Instr.buildSlice, run_underlying hu, run_size hi, hsz, run_zero hi hz, Instr.fill, newRow, hr]
  refine ⟨_, _, hbuild, kk _ _ ⟨by simp, .inr ⟨_, 0, #[], rfl, Nat.le_refl _, by simpa using heap_alloc_new w (.cells #[] e), Nat.le_refl _, by simp [maxLen], by simp, by simp⟩⟩ (by simp) (Fm.alloc w _)⟩
set_option maxRecDepth 20000 in
set_option maxHeartbeats 4000000 in
theorem decode19_c {ys : List Int} (hy : ∀ y ∈ ys, 0 ≤ y ∧ y < 256) (hl : ys.length ≤ 10000) :
    callV Tryd.prog 31 [.string (strOfNums ys)] w fun v w' => ∃ sv, v = .tuple #[sv, .int .i64 (decodeM ys).2] ∧ OwnMsgs w' w.heap.size sv (decodeM ys).1 ∧ Fm none' w w' := by
  refine vc31 _ w _ ?_
  refine (of33_c hy (by omega)).mono ?_
  rintro _ w1 ⟨rfl, hf1⟩
  simp only [vcs, eqV, nilV, Option.map_some, Nat.mul_one, implies_true, true_and, and_true, and_self]
  refine allocC_of fun w4 hb4 hs4 hf4 => ?_
  obtain ⟨A, hA⟩ : ∃ A, A = w1.heap.size := ⟨_, rfl⟩
  rw [← hA] at hb4 ⊢
  have hws := hf1.size
  have hbl : (byteBits ys).length ≤ 1000000 := by rw [byteBits_length]; omega
  have hbit := byteBits_bit ys
  have hr4 : RefAt w4 A ⟨byteBits ys, 0⟩ := ⟨byteBits ys, hb4, fun _ => rfl, hbit, hbl⟩
  have hF4 : Fm none' w w4 := hf1.trans hf4
  refine (number34_c (k := 5) (by omega) hr4).mono ?_
  rintro _ w6 ⟨n, rfl, hnr, hnv, hr6, hf6⟩
  simp only [vcs, eqV, nilV, Option.map_some, Nat.mul_one, implies_true, true_and, and_true, and_self]
  have hnv := hnv rfl
  obtain ⟨⟨n', s1⟩, hn⟩ : ∃ r, rdW 5 (⟨byteBits ys, 0⟩ : RS) = r := ⟨_, rfl⟩
  rw [hn] at hnv hr6
  have hnv : n = n' := hnv
  subst hnv
  have hF6 : Fm none' w w6 := hF4.trans' hf6 (by rintro i hi e; omega)
  refine (must35_c (ok' := decide (n ≤ 16)) (fun _ => rfl) hr6).mono ?_
  rintro _ w9 ⟨-, hr9, hf9⟩
  have hF9 : Fm none' w w9 := hF6.trans' hf9 (by rintro i hi e; omega)
  obtain ⟨s2, hs2⟩ : ∃ s2, s2 = rdF (decide (n ≤ 16)) s1 := ⟨_, rfl⟩
  have hs2' : rdF (decide (n ≤ 16)) (n, s1).2 = s2 := hs2.symm
  rw [hs2'] at hr9
  obtain ⟨n0, hn0⟩ : ∃ n0 : Nat, n = n0 := ⟨n.toNat, by omega⟩
  subst hn0
  have hn32 : (n0 : Int) < 32 := hnr.2
  have hdec : decodeM ys = (let r := decGo n0 s2 []
      let s := rdF (restOk r.2.rem && decide (ys.length ≤ 1024)) r.2
      if s.e = 0 then (r.1, 0) else ([], s.e)) := by
    unfold decodeM
    rw [hn, hs2]
    rfl
  refine build_noneS (by rw [row24]) row53 fun s w11 hs11 hlt11 hf11 => ?_
  have hs11' := hs11
  obtain ⟨ps, cs, rfl, -, -⟩ := own_readS hs11'
  simp only [vcs, eqV, nilV, Option.map_some, Nat.mul_one, implies_true, true_and, and_true, and_self]
  have hs9 := hF9.size
  have hs11z := hf11.size
  have hF11 := hF9.trans hf11
  have hr11 := hr9.keep hf11 id
  refine ⟨fun u w' => ∃ (s' : RS) (acc acc' : List Msg) (sv : Value), u 6 = sv ∧ RefAt w' A s' ∧ OwnMsgs w' w.heap.size sv acc' ∧ (s'.e = 0 → acc' = acc) ∧ Fm none' w w' ∧ decGo n0 s2 [] = (acc, s'), ?_, ?_⟩
  · refine ⟨fun u w' => ∃ (s' : RS) (acc acc' : List Msg) (sv : Value), u 6 = sv ∧ RefAt w' A s' ∧ OwnMsgs w' w.heap.size sv acc' ∧ (s'.e = 0 → acc' = acc) ∧ acc'.length = acc.length ∧ Fm none' w w' ∧ acc.length ≤ n0 ∧ decGo (n0 - acc.length) s' acc = decGo n0 s2 [], fun u _ => n0 - lenOf (u 6), ?_, ?_⟩
    · exact ⟨s2, [], [], _, rfl, hr11, ⟨[], rfl, own_base hs11 hs9, by simp⟩, fun _ => rfl, rfl, hF11, by simp, rfl⟩
    rintro u w16 ⟨s', acc, acc', sv, h6, hr, hown, heq, hlen', hF, hlen, hgo⟩
    change u 6 = sv at h6
    have hown' := hown
    obtain ⟨qs, hq1, hq2, hq3⟩ := hown
    obtain ⟨ps, cs, rfl, -, -⟩ := own_readS hq2
    simp only [h6, vcs, eqV, nilV, Option.map_some, Nat.mul_one, implies_true, true_and, and_true, and_self]
    obtain ⟨rem, hR, hR0, hRb, hRl⟩ := id hr
    have hRlt := lt_of_blk hR
    have hws16 := hF.size
    have done : decGo n0 s2 [] = (acc, s') → ∃ (s' : RS) (acc acc' : List Msg) (sv : Value), alist [(6, Value.slice ps acc'.length cs)] 6 = sv ∧ RefAt w16 A s' ∧ OwnMsgs w16 w.heap.size sv acc' ∧ (s'.e = 0 → acc' = acc) ∧ Fm none' w w16 ∧ decGo n0 s2 [] = (acc, s') := fun hd =>
      ⟨s', acc, acc', _, rfl, hr, hown', heq, hF, hd⟩
    have done' : decGo n0 s2 [] = (acc, s') → ∃ (s' : RS) (acc : List Msg) (acc'' : List Msg) (sv : Value), alist [(6, Value.slice ps acc'.length cs)] 6 = sv ∧ RefAt w16 A s' ∧ OwnMsgs w16 w.heap.size sv acc'' ∧ (s'.e = 0 → acc'' = acc) ∧ Fm none' w w16 ∧ decGo n0 s2 [] = (acc, s') := fun hd =>
      ⟨s', acc, acc', _, rfl, hr, hown', heq, hF, hd⟩
    refine br_dec (fun hjn => ?_) (fun hjn => ?_)
    · refine rd_of (v := .int .i64 s'.e) (cellOf hR rfl) ?_
      simp only [vcs, eqV, nilV, Option.map_some, Nat.mul_one, implies_true, true_and, and_true, and_self]
      refine br_dec (fun he => ?_) (fun he => ?_)
      · obtain ⟨m0, hm0⟩ : ∃ m0, n0 - acc.length = m0 + 1 := ⟨n0 - acc.length - 1, by omega⟩
        rw [hm0] at hgo
        rw [decGo, if_pos he] at hgo
        change decGo m0 (prM s').2 (acc ++ [(prM s').1]) = _ at hgo
        refine (message36_c hr he).mono ?_
        rintro _ w27 ⟨m, q, c, rfl, hr27, hm27, hown27, hrng27, hf27⟩
        refine allocC_of fun w29 hb29 hs29 hf29 => ?_
        refine rd_of (v := ()) rfl ?_
        obtain ⟨B, hB⟩ : ∃ B, B = w27.heap.size := ⟨_, rfl⟩
        rw [← hB] at hb29 ⊢
        refine stC_all (vs := msgC m q c) hb29 rfl msgC_one fun w30 hb30 hf30 => ?_
        refine rd_of (v := msgC m q c) (cells_all hb30 rfl) ?_
        have hs27 := hf27.size
        have hs30 := hf30.size
        have hf30' : Fm (fun i => i = A) w16 w30 := (hf27.trans hf29.none).trans' hf30 (by rintro i hi e; omega)
        have hF30 : Fm none' w w30 := hF.trans' hf30' (by rintro i hi e; omega)
        have hr30 : RefAt w30 A (prM s').2 := (hr27.keep hf29 id).keep hf30 (by omega)
        obtain ⟨remr, hRr, -⟩ := id hr30
        have hO30 : OwnMsgs w30 w.heap.size (.slice ps acc'.length cs) acc' := hown'.keep hf30' (by
          rintro i c t hc _ ht e
          rw [e, hR] at hc; cases hc; rcases ht with h | h <;> cases h)
        have hown30 : w30.ownsRow w.heap.size 5 1 (.slice q m.bytes.length c) m.bytes.length (m.bytes.map (Value.int .u8)) := own_base ((hf29.owns hown27 fun _ _ y => y) |> fun h => hf30.owns h (fun i hi e => by
          obtain ⟨_, cur, hc⟩ := own_block h hi
          rw [e, hb29] at hc; cases hc)) hws16
        obtain ⟨qs', hl', ho', hb'⟩ := hO30
        refine append_S (by rw [row24]) row53 rfl (by omega) (by omega) rfl msgC_one ho' (by omega) (by simp only [maxLen]; omega) (by omega) fun v44 w44 hv44 hf44 hblk => ?_
        obtain ⟨p44, c44, rfl, -⟩ := own_readS hv44
        simp only [vcs, eqV, nilV, Option.map_some, Nat.mul_one, implies_true, true_and, and_true, and_self]
        have hlen1 : (acc' ++ [m]).length = acc'.length + 1 := by simp
        have hlen2 : (acc ++ [(prM s').1]).length = acc.length + 1 := by simp
        have hsl : ∀ i, (Value.slice ps acc'.length cs).ownBlock = some i → ∃ cur, w30.heap[i]? = some (.cells cur 53 (0, 0)) := fun i hi => (own_block ho' hi).2
        have hF44 : Fm none' w w44 := hF30.trans' hf44 (fun i hi e => by have := (own_block ho' e).1; omega)
        refine ⟨⟨(prM s').2, acc ++ [(prM s').1], acc' ++ [m], _, rfl, ?_, ⟨qs' ++ [(q, c)], by simp [hl'], ?_, ?_⟩, ?_, by omega, hF44, by omega, ?_⟩, ?_⟩
        · refine hr30.keep hf44 (fun e => ?_)
          obtain ⟨cur, hc⟩ := hsl _ e
          rw [hRr] at hc; cases hc
        · rw [hlen1, List.zip_append hl'.symm, List.flatMap_append]
          have : [(m, (q, c))].flatMap (fun x : Msg × Option Addr × Nat => msgC x.1 x.2.1 x.2.2) = msgC m q c := by simp
          show w44.ownsRow _ _ _ _ _ (_ ++ [(m, (q, c))].flatMap _)
          rw [this]
          exact hv44
        · intro j m' q' hj hq
          have keep5 : ∀ {q : Option Addr × Nat} {m : Msg}, w30.ownsRow w.heap.size 5 1 (.slice q.1 m.bytes.length q.2) m.bytes.length (m.bytes.map (Value.int .u8)) → w44.ownsRow w.heap.size 5 1 (.slice q.1 m.bytes.length q.2) m.bytes.length (m.bytes.map (Value.int .u8)) := fun h => hf44.owns h fun i hi e => by
            obtain ⟨cur, hc⟩ := hsl _ e
            obtain ⟨_, cur', hc'⟩ := own_block h hi
            rw [hc'] at hc; cases hc
          by_cases hjl : j < acc'.length
          · rw [List.getElem?_append_left hjl] at hj
            rw [List.getElem?_append_left (by omega)] at hq
            exact keep5 (hb' j m' q' hj hq)
          · have hj1 : j = acc'.length := by
              have := (List.getElem?_eq_some_iff.1 hj).1
              simp at this; omega
            subst hj1
            rw [List.getElem?_append_right (by omega)] at hj
            rw [List.getElem?_append_right (by omega)] at hq
            simp at hj
            simp [hl'] at hq
            subst hj hq
            exact keep5 (q := (q, c)) hown30
        · intro e
          rw [heq he, hm27 e]
        · rw [hlen2, show n0 - (acc.length + 1) = m0 by omega]
          exact hgo
        · show n0 - (acc'.length + 1) < n0 - acc'.length; omega
      · have hd : decGo n0 s2 [] = (acc, s') := by
          rw [← hgo]
          cases hz : n0 - acc.length with
          | zero => rfl
          | succ z => rw [decGo, if_neg he]
        exact done' hd
    · have hd : decGo n0 s2 [] = (acc, s') := by
        rw [← hgo, show n0 - acc.length = 0 by omega]; rfl
      exact done' hd
  · rintro u w47 ⟨s', acc, acc', sv, h6, hr, hown, heq, hF, hgo⟩
    change u 6 = sv at h6
    obtain ⟨ps, cs, rfl, -⟩ := hown.at
    simp only [h6, vcs, eqV, nilV, Option.map_some, Nat.mul_one, implies_true, true_and, and_true, and_self, strOfNums_size]
    obtain ⟨rem, hR, hR0, hRb, hRl⟩ := id hr
    have hRlt := lt_of_blk hR
    refine rd_of (v := .string (txt rem)) (cellOf hR rfl) ?_
    simp only [vcs, eqV, nilV, Option.map_some, Nat.mul_one, implies_true, true_and, and_true, and_self]
    refine (rest37_c hRb hRl).mono ?_
    rintro _ w52 ⟨rfl, hf52⟩
    simp only [vcs, eqV, nilV, Option.map_some, Nat.mul_one, implies_true, true_and, and_true, and_self]
    have hdec' := hdec
    rw [hgo] at hdec'
    simp only [] at hdec'
    have go : ∀ ok : Bool, (s'.e = 0 → ok = (restOk s'.rem && decide (ys.length ≤ 1024))) → callV Tryd.prog 58 [.pointer (some ⟨A, 0, none⟩), .bool ok] w52 fun _ w55 => rd (w55.cell? ⟨A, 1, none⟩) fun v56 => isK .i64 v56 fun i57 =>
        br (!decide (i57 = 0)) (rd (w55.drew.cell? ⟨A, 1, none⟩) fun v58 => isK .i64 v58 fun i59 => ∃ sv, Value.tuple #[.slice none 0 0, .int .i64 i59] = .tuple #[sv, .int .i64 (decodeM ys).2] ∧ OwnMsgs w55.drew w.heap.size sv (decodeM ys).1 ∧ Fm none' w w55.drew)
          (∃ sv, Value.tuple #[.slice ps acc'.length cs, .int .i64 0] = .tuple #[sv, .int .i64 (decodeM ys).2] ∧ OwnMsgs w55 w.heap.size sv (decodeM ys).1 ∧ Fm none' w w55) := by
      intro ok hok
      refine (must35_c (ok' := restOk s'.rem && decide (ys.length ≤ 1024)) hok (hr.keep hf52 id)).mono ?_
      rintro _ w55 ⟨-, hr55, hf55⟩
      obtain ⟨rem5, h55, -⟩ := id hr55
      have hF55 : Fm none' w w55 := (hF.trans hf52).trans' hf55 (by rintro i hi e; omega)
      refine rd_of (v := .int .i64 (rdF (restOk s'.rem && decide (ys.length ≤ 1024)) s').e) (cellOf h55 rfl) ?_
      simp only [vcs, eqV, nilV, Option.map_some, Nat.mul_one, implies_true, true_and, and_true, and_self]
      refine br_ndec (fun he => ?_) (fun he => ?_)
      · refine rd_of (v := .int .i64 (rdF (restOk s'.rem && decide (ys.length ≤ 1024)) s').e) (cellOf (w := w55.drew) (b := A) h55 rfl) ?_
        simp only [vcs, eqV, nilV, Option.map_some, Nat.mul_one, implies_true, true_and, and_true, and_self]
        rw [if_neg he] at hdec'
        rw [hdec']
        exact ⟨_, rfl, OwnMsgs.nil _ _, hF55.trans (Fm.drew w55)⟩
      · rw [if_pos he] at hdec'
        rw [hdec']
        have e0 : s'.e = 0 := (rdF_inv he).2.1
        have := heq e0
        subst this
        refine ⟨_, rfl, (hown.keep hf52 fun _ _ _ _ _ _ => id).keep hf55 ?_, hF55⟩
        rintro i c t hc _ ht e
        rw [e, hf52.keep hR id] at hc; cases hc; rcases ht with h | h <;> cases h
    have hrr : s'.e = 0 → restOk rem = restOk s'.rem := fun e => by rw [hR0 e]
    cases hro : restOk rem with
    | true => exact go _ fun e => by rw [← hrr e, hro, Bool.true_and, decide_eq_decide]; omega
    | false => exact go false fun e => by rw [← hrr e, hro]; rfl
theorem dec_bytes {ys : List Int} (hy : ∀ y ∈ ys, 0 ≤ y ∧ y < 256) : ∀ m ∈ (decodeM ys).1, ∀ y ∈ m.bytes, 0 ≤ y ∧ y < 256 := by
  rcases dec_errs ys with h | ⟨h, -⟩
  · have hd : decodeM ys = ((decodeM ys).1, 0) := by rw [← h]
    obtain ⟨h1, -⟩ := enc_dec hy hd
    exact fun m hm => (h1 m hm).ok.bytes
  · rw [h]; intro m hm; cases hm
theorem dec_len {ys : List Int} (hy : ∀ y ∈ ys, 0 ≤ y ∧ y < 256) : (decodeM ys).1.length ≤ 16 := by
  rcases dec_errs ys with h | ⟨h, -⟩
  · have hd : decodeM ys = ((decodeM ys).1, 0) := by rw [← h]
    obtain ⟨-, h2, -⟩ := enc_dec hy hd
    exact h2
  · rw [h]; exact Nat.zero_le _
theorem dec_own {ys : List Int} {p : Option Addr} {n c : Nat} (hn : n = ys.length) (hb : BytesAt w p ys) (hy : ∀ y ∈ ys, 0 ≤ y ∧ y < 256) (hl : ys.length ≤ 1000000) :
    callV Tryd.prog 30 [.slice p n c] w fun v w' => ∃ sv, v = .tuple #[sv, .int .i64 (decodeM ys).2] ∧ OwnMsgs w' w.heap.size sv (decodeM ys).1 ∧ Fm none' w w' := by
  subst hn
  exact decode18_c hb hy hl
end Go.Proofs.YtipikchkbmgloaaDoor
/- The conditions of functions, written out: printed by a small program (VCDev.lean, vcgen.sh).  Conditions: none. -/
namespace Go.Proofs.YtipikchkbmgloaaDoor
set_option linter.unusedSimpArgs false
set_option linter.unusedVariables false
open Go VC
theorem vc23 (ap : Option Addr) (an : Nat) (ac : Nat) (b : Int) (c : Int) (w : World) (R : Value → World → Prop)
  (h : loopC (alist [((0 : Nat), Value.slice ap an ac), ((7 : Nat), Value.int IntKind.i64 (IntKind.wrap IntKind.i64 (c - (1 : Int))))]) w fun u0 u1 => ∀ (u2 : Nat → Value) (w3 : World), u0 (alist [((0 : Nat), u2 (0 : Nat)), ((7 : Nat), u2 (7 : Nat))]) w3 → isK IntKind.i64 (u2 (7 : Nat)) fun i5 => br (decide ((0 : Int) ≤ i5)) (isSl (u2 (0 : Nat)) fun o6 n7 n8 => isK IntKind.i64 (u2 (7 : Nat)) fun i9 => rd (orO (binV BinOp.shr (Value.int IntKind.u32 b) (Value.int IntKind.i64 (IntKind.wrap IntKind.i64 ((8 : Int) * i9)))) none) fun v10 => isK IntKind.u32 v10 fun i11 => runs Tryd.prog (Instr.buildSlice (25 : Nat) (1 : Nat) #[((0 : Nat), Value.int IntKind.u8 (IntKind.wrap IntKind.u8 i11))]) w3 fun v12 w13 => isSl v12 fun o14 n15 n16 => runs Tryd.prog (Builtin.append_ #[(25 : Nat), (25 : Nat)] (25 : Nat) #[Value.slice o6 n7 n8, Value.slice o14 n15 n16]) w13 fun v17 w18 => isSl v17 fun o19 n20 n21 => isK IntKind.i64 (u2 (7 : Nat)) fun i22 => again u0 u1 (alist [((0 : Nat), Value.slice o19 n20 n21), ((7 : Nat), Value.int IntKind.i64 (IntKind.wrap IntKind.i64 (i22 - (1 : Int))))]) w18 (alist [((0 : Nat), u2 (0 : Nat)), ((7 : Nat), u2 (7 : Nat))]) w3) (isSl (u2 (0 : Nat)) fun o23 n24 n25 => R (Value.slice o23 n24 n25) w3)) :
  callV Tryd.prog 23 [Value.slice ap an ac, Value.int IntKind.u32 b, Value.int IntKind.i64 c] w R :=
  vc_of hm ⟨fun _ => false, fun _ => .done, fun n => match n with | 2 => [0, 7] | _ => []⟩ Tryd.func23 ent23 (by kernel_rfl) h

theorem vc24 (a : Bool) (w : World) (R : Value → World → Prop)
  (h : br a (R (Value.int IntKind.u32 (1 : Int)) w) (R (Value.int IntKind.u32 (0 : Int)) w)) :
  callV Tryd.prog 24 [Value.bool a] w R :=
  vc_of hm noHints Tryd.func24 ent24 (by kernel_rfl) h

theorem vc29 (ap : Option Addr) (an : Nat) (ac : Nat) (w : World) (R : Value → World → Prop)
  (h : loopC (alist [((2 : Nat), Value.int IntKind.u32 (0 : Int)), ((7 : Nat), Value.int IntKind.i64 (0 : Int))]) w fun u0 u1 => ∀ (u2 : Nat → Value) (w3 : World), u0 (alist [((2 : Nat), u2 (2 : Nat)), ((7 : Nat), u2 (7 : Nat))]) w3 → rd (orO (binV BinOp.lss (u2 (7 : Nat)) (Value.int IntKind.i64 (↑an : Int))) none) fun v5 => isB v5 fun t6 => br t6 (isInt (u2 (7 : Nat)) fun k7 i8 => rd ap fun a9 => ((0 : Int) ≤ i8 ∧ i8 < (↑an : Int)) ∧ rd (World.cell? w3 (Addr.add a9 (Int.toNat i8 * (1 : Nat)))) fun v10 => isK IntKind.u8 v10 fun i11 => isK IntKind.u32 (u2 (2 : Nat)) fun i12 => rd (orO (binV BinOp.add (u2 (7 : Nat)) (Value.int IntKind.i64 (1 : Int))) none) fun v13 => isK IntKind.i64 v13 fun i14 => again u0 u1 (alist [((2 : Nat), Value.int IntKind.u32 (orI IntKind.u32 (IntKind.wrap IntKind.u32 (i12 * (256 : Int))) (IntKind.wrap IntKind.u32 i11))), ((7 : Nat), Value.int IntKind.i64 i14)]) w3 (alist [((2 : Nat), u2 (2 : Nat)), ((7 : Nat), u2 (7 : Nat))]) w3) (isK IntKind.u32 (u2 (2 : Nat)) fun i15 => R (Value.int IntKind.u32 i15) w3)) :
  callV Tryd.prog 29 [Value.slice ap an ac] w R :=
  vc_of hm ⟨fun _ => false, fun _ => .done, fun n => match n with | 2 => [2, 7] | _ => []⟩ Tryd.func29 ent29 (by kernel_rfl) h

theorem vc25 (ap : Option Addr) (an : Nat) (ac : Nat) (w : World) (R : Value → World → Prop)
  (h : callV Tryd.prog (49 : Nat) [Value.int IntKind.u16 (65535 : Int), Value.slice ap an ac] w fun v0 w1 => isK IntKind.u16 v0 fun i2 => R (Value.int IntKind.u16 i2) w1) :
  callV Tryd.prog 25 [Value.slice ap an ac] w R :=
  vc_of hm noHints Tryd.func25 ent25 (by kernel_rfl) h

theorem vc49 (a : Int) (bp : Option Addr) (bn : Nat) (bc : Nat) (w : World) (R : Value → World → Prop)
  (h : loopC (alist [((0 : Nat), Value.int IntKind.u16 a), ((11 : Nat), Value.int IntKind.i64 (0 : Int))]) w fun u0 u1 => ∀ (u2 : Nat → Value) (w3 : World), u0 (alist [((0 : Nat), u2 (0 : Nat)), ((11 : Nat), u2 (11 : Nat))]) w3 → rd (orO (binV BinOp.lss (u2 (11 : Nat)) (Value.int IntKind.i64 (↑bn : Int))) none) fun v5 => isB v5 fun t6 => br t6 (isInt (u2 (11 : Nat)) fun k7 i8 => rd bp fun a9 => ((0 : Int) ≤ i8 ∧ i8 < (↑bn : Int)) ∧ rd (World.cell? w3 (Addr.add a9 (Int.toNat i8 * (1 : Nat)))) fun v10 => isK IntKind.u8 v10 fun i11 => loopC (alist [((0 : Nat), u2 (0 : Nat)), ((20 : Nat), Value.int IntKind.i64 (0 : Int))]) w3 fun u12 u13 => ∀ (u14 : Nat → Value) (w15 : World), u12 (alist [((0 : Nat), u14 (0 : Nat)), ((20 : Nat), u14 (20 : Nat))]) w15 → rd (orO (binV BinOp.lss (u14 (20 : Nat)) (Value.int IntKind.i64 (2 : Int))) none) fun v17 => isB v17 fun t18 => br t18 (isInt (u14 (20 : Nat)) fun k19 i20 => ((0 : Int) ≤ i20 ∧ i20 < (2 : Int)) ∧ rd [Value.int IntKind.u8 (Int.fdiv i11 (16 : Int)), Value.int IntKind.u8 (andI IntKind.u8 i11 (15 : Int))][Int.toNat i20 * (1 : Nat)]? fun v21 => isK IntKind.u8 v21 fun i22 => isK IntKind.u16 (u14 (0 : Nat)) fun i23 => isK IntKind.u16 (u14 (0 : Nat)) fun i24 => ((0 : Int) ≤ xorI IntKind.u8 (IntKind.wrap IntKind.u8 (Int.fdiv i24 (4096 : Int))) i22 ∧ xorI IntKind.u8 (IntKind.wrap IntKind.u8 (Int.fdiv i24 (4096 : Int))) i22 < (16 : Int)) ∧ rd (World.cell? w15 (Addr.add { block := (0 : Nat), off := (0 : Nat) : Addr } (Int.toNat (xorI IntKind.u8 (IntKind.wrap IntKind.u8 (Int.fdiv i24 (4096 : Int))) i22) * (1 : Nat)))) fun v25 => isK IntKind.u16 v25 fun i26 => rd (orO (binV BinOp.add (u14 (20 : Nat)) (Value.int IntKind.i64 (1 : Int))) none) fun v27 => isK IntKind.i64 v27 fun i28 => again u12 u13 (alist [((0 : Nat), Value.int IntKind.u16 (xorI IntKind.u16 (IntKind.wrap IntKind.u16 (i23 * (16 : Int))) i26)), ((20 : Nat), Value.int IntKind.i64 i28)]) w15 (alist [((0 : Nat), u14 (0 : Nat)), ((20 : Nat), u14 (20 : Nat))]) w15) (rd (orO (binV BinOp.add (u2 (11 : Nat)) (Value.int IntKind.i64 (1 : Int))) none) fun v29 => isK IntKind.i64 v29 fun i30 => again u0 u1 (alist [((0 : Nat), u14 (0 : Nat)), ((11 : Nat), Value.int IntKind.i64 i30)]) w15 (alist [((0 : Nat), u2 (0 : Nat)), ((11 : Nat), u2 (11 : Nat))]) w3)) (isK IntKind.u16 (u2 (0 : Nat)) fun i31 => R (Value.int IntKind.u16 i31) w3)) :
  callV Tryd.prog 49 [Value.int IntKind.u16 a, Value.slice bp bn bc] w R :=
  vc_of hm ⟨fun _ => false, fun _ => .done, fun n => match n with | 2 => [0, 11] | 5 => [0, 20] | _ => []⟩ Tryd.func49 ent49 (by kernel_rfl) h

theorem vc27 (a : Int) (w : World) (R : Value → World → Prop)
  (h : runs Tryd.prog (Instr.buildSlice (25 : Nat) (2 : Nat) #[((0 : Nat), Value.int IntKind.u8 (IntKind.wrap IntKind.u8 (IntKind.wrap IntKind.i64 (Int.tdiv a (256 : Int))))), ((1 : Nat), Value.int IntKind.u8 (IntKind.wrap IntKind.u8 (Int.tmod a (256 : Int))))]) w fun v0 w1 => isSl v0 fun o2 n3 n4 => runs Tryd.prog (convert (25 : Nat) (9 : Nat) (Value.slice o2 n3 n4)) w1 fun v5 w6 => isStr v5 fun x7 => R (Value.string x7) w6) :
  callV Tryd.prog 27 [Value.int IntKind.i64 a] w R :=
  vc_of hm noHints Tryd.func27 ent27 (by kernel_rfl) h

theorem vc28 (a : ByteArray) (w : World) (R : Value → World → Prop)
  (h : callV Tryd.prog (52 : Nat) [Value.int IntKind.u16 (65535 : Int), Value.string a] w fun v0 w1 => isK IntKind.u16 v0 fun i2 => R (Value.int IntKind.u16 i2) w1) :
  callV Tryd.prog 28 [Value.string a] w R :=
  vc_of hm noHints Tryd.func28 ent28 (by kernel_rfl) h

theorem vc52 (a : Int) (b : ByteArray) (w : World) (R : Value → World → Prop)
  (h : loopC (alist [((0 : Nat), Value.int IntKind.u16 a), ((5 : Nat), Value.int IntKind.i64 (0 : Int))]) w fun u0 u1 => ∀ (u2 : Nat → Value) (w3 : World), u0 (alist [((0 : Nat), u2 (0 : Nat)), ((5 : Nat), u2 (5 : Nat))]) w3 → isK IntKind.i64 (u2 (5 : Nat)) fun i5 => br (decide (i5 < (↑(ByteArray.size b) : Int))) (isK IntKind.u16 (u2 (0 : Nat)) fun i6 => isK IntKind.i64 (u2 (5 : Nat)) fun i7 => runs Tryd.prog (Instr.index (9 : Nat) (Value.string b) (Value.int IntKind.i64 i7)) w3 fun v8 w9 => isK IntKind.u8 v8 fun i10 => loopC (alist [((0 : Nat), Value.int IntKind.u16 (xorI IntKind.u16 i6 (IntKind.wrap IntKind.u16 (IntKind.wrap IntKind.u16 i10 * (256 : Int))))), ((6 : Nat), Value.int IntKind.i64 (0 : Int))]) w9 fun u11 u12 => ∀ (u13 : Nat → Value) (w14 : World), u11 (alist [((0 : Nat), u13 (0 : Nat)), ((6 : Nat), u13 (6 : Nat))]) w14 → isK IntKind.i64 (u13 (6 : Nat)) fun i16 => br (decide (i16 < (8 : Int))) (isK IntKind.u16 (u13 (0 : Nat)) fun i17 => isK IntKind.u16 (u13 (0 : Nat)) fun i18 => br (decide ((32768 : Int) ≤ i17)) (isK IntKind.i64 (u13 (6 : Nat)) fun i19 => again u11 u12 (alist [((0 : Nat), Value.int IntKind.u16 (xorI IntKind.u16 (IntKind.wrap IntKind.u16 (i18 * (2 : Int))) (4129 : Int))), ((6 : Nat), Value.int IntKind.i64 (IntKind.wrap IntKind.i64 (i19 + (1 : Int))))]) w14 (alist [((0 : Nat), u13 (0 : Nat)), ((6 : Nat), u13 (6 : Nat))]) w14) (isK IntKind.i64 (u13 (6 : Nat)) fun i20 => again u11 u12 (alist [((0 : Nat), Value.int IntKind.u16 (IntKind.wrap IntKind.u16 (i18 * (2 : Int)))), ((6 : Nat), Value.int IntKind.i64 (IntKind.wrap IntKind.i64 (i20 + (1 : Int))))]) w14 (alist [((0 : Nat), u13 (0 : Nat)), ((6 : Nat), u13 (6 : Nat))]) w14)) (isK IntKind.i64 (u2 (5 : Nat)) fun i21 => again u0 u1 (alist [((0 : Nat), u13 (0 : Nat)), ((5 : Nat), Value.int IntKind.i64 (IntKind.wrap IntKind.i64 (i21 + (1 : Int))))]) w14 (alist [((0 : Nat), u2 (0 : Nat)), ((5 : Nat), u2 (5 : Nat))]) w3)) (isK IntKind.u16 (u2 (0 : Nat)) fun i22 => R (Value.int IntKind.u16 i22) w3)) :
  callV Tryd.prog 52 [Value.int IntKind.u16 a, Value.string b] w R :=
  vc_of hm ⟨fun _ => false, fun _ => .done, fun n => match n with | 2 => [0, 5] | 6 => [0, 6] | _ => []⟩ Tryd.func52 ent52 (by kernel_rfl) h

theorem vc32 (a : ByteArray) (w : World) (R : Value → World → Prop)
  (h : loopC (alist [((3 : Nat), Value.int IntKind.u32 (0 : Int)), ((4 : Nat), Value.int IntKind.i64 (0 : Int))]) w fun u0 u1 => ∀ (u2 : Nat → Value) (w3 : World), u0 (alist [((3 : Nat), u2 (3 : Nat)), ((4 : Nat), u2 (4 : Nat))]) w3 → isK IntKind.i64 (u2 (4 : Nat)) fun i5 => br (decide (i5 < (↑(ByteArray.size a) : Int))) (isK IntKind.u32 (u2 (3 : Nat)) fun i6 => isK IntKind.i64 (u2 (4 : Nat)) fun i7 => runs Tryd.prog (Instr.index (9 : Nat) (Value.string a) (Value.int IntKind.i64 i7)) w3 fun v8 w9 => isK IntKind.u8 v8 fun i10 => isK IntKind.i64 (u2 (4 : Nat)) fun i11 => again u0 u1 (alist [((3 : Nat), Value.int IntKind.u32 (IntKind.wrap IntKind.u32 (IntKind.wrap IntKind.u32 (i6 * (256 : Int)) + IntKind.wrap IntKind.u32 i10))), ((4 : Nat), Value.int IntKind.i64 (IntKind.wrap IntKind.i64 (i11 + (1 : Int))))]) w9 (alist [((3 : Nat), u2 (3 : Nat)), ((4 : Nat), u2 (4 : Nat))]) w3) (isK IntKind.u32 (u2 (3 : Nat)) fun i12 => R (Value.int IntKind.u32 i12) w3)) :
  callV Tryd.prog 32 [Value.string a] w R :=
  vc_of hm ⟨fun _ => false, fun _ => .done, fun n => match n with | 3 => [3, 4] | _ => []⟩ Tryd.func32 ent32 (by kernel_rfl) h

end Go.Proofs.YtipikchkbmgloaaDoor
/- The sum of bytes: by the table and bit by bit; one byte turned turns the sum.  Conditions: bytes are bytes. -/
namespace Go.Proofs.YtipikchkbmgloaaDoor
set_option linter.unusedSimpArgs false
set_option linter.unusedVariables false
open Go Go.RowKit VC
def f1 (x : BitVec 16) : BitVec 16 := (x <<< 1) ^^^ (bif x.msb then 0x1021#16 else 0#16)
theorem xor3 (a b c : BitVec 16) : a ^^^ b = (a ^^^ c) ^^^ (b ^^^ c) := by
  rw [BitVec.xor_assoc, ← BitVec.xor_assoc c b c, BitVec.xor_comm c b, BitVec.xor_assoc b c c, BitVec.xor_self, BitVec.xor_zero]
theorem f1_xor (x y : BitVec 16) : f1 (x ^^^ y) = f1 x ^^^ f1 y := by
  unfold f1
  rw [BitVec.shiftLeft_xor_distrib, BitVec.msb_xor]
  cases x.msb <;> cases y.msb
  · simp
  · simp only [Bool.false_xor, cond_true, cond_false, BitVec.xor_zero]; rw [BitVec.xor_assoc]
  · simp only [Bool.xor_false, cond_true, cond_false, BitVec.xor_zero]; rw [BitVec.xor_assoc, BitVec.xor_comm (y <<< 1), ← BitVec.xor_assoc]
  · simp only [Bool.xor_self, cond_true, cond_false, BitVec.xor_zero]; exact xor3 _ _ _
def f4 (x : BitVec 16) : BitVec 16 := f1 (f1 (f1 (f1 x)))
theorem f4_xor (x y : BitVec 16) : f4 (x ^^^ y) = f4 x ^^^ f4 y := by simp only [f4, f1_xor]
theorem f1_low {x : BitVec 16} (h : x.toNat < 32768) : f1 x = x <<< 1 := by
  have : x.msb = false := by rw [BitVec.msb_eq_decide]; simpa using h
  simp [f1, this]
theorem f4_low {x : BitVec 16} (h : x.toNat < 4096) : f4 x = x <<< 4 := by
  have e : ∀ (y : BitVec 16) k, y.toNat < 32768 → y.toNat = k → (y <<< 1).toNat = 2 * k := fun y k h1 h2 => by
    rw [BitVec.toNat_shiftLeft, Nat.shiftLeft_eq]; omega
  have h1 := e x _ (by omega) rfl
  have h2 := e (x <<< 1) _ (by omega) h1
  have h3 := e (x <<< 1 <<< 1) _ (by omega) h2
  unfold f4
  rw [f1_low (x := x) (by omega), f1_low (x := x <<< 1) (by omega), f1_low (x := x <<< 1 <<< 1) (by omega), f1_low (x := x <<< 1 <<< 1 <<< 1) (by omega)]
  simp only [← BitVec.shiftLeft_add]
def crcT : List Nat := [0, 4129, 8258, 12387, 16516, 20645, 24774, 28903, 33032, 37161, 41290, 45419, 49548, 53677, 57806, 61935]
theorem crcT_f4 : ∀ k < 16, (f4 (BitVec.ofNat 16 (k * 4096))).toNat = crcT.getD k 0 := by decide +kernel
theorem crcT_xor : ∀ k < 16, ∀ j < 16, crcT.getD (k ^^^ j) 0 = crcT.getD k 0 ^^^ crcT.getD j 0 := by decide +kernel
theorem crcT_lt : ∀ k < 16, crcT.getD k 0 < 65536 := by decide +kernel
/-- Half a byte, by the table. -/
def nib (s h : Nat) : Nat := (s * 16 % 65536) ^^^ crcT.getD ((s / 4096) ^^^ h) 0
theorem low_high (s : Nat) : (s % 4096) ^^^ (s / 4096 * 4096) = s := by
  apply Nat.eq_of_testBit_eq
  intro i
  rw [Nat.testBit_xor, show (4096 : Nat) = 2 ^ 12 from rfl, Nat.testBit_mod_two_pow, Nat.mul_comm, Nat.testBit_two_pow_mul, Nat.testBit_div_two_pow]
  by_cases h : i < 12
  · simp [h, show ¬ 12 ≤ i by omega]
  · simp [h, show i ≥ 12 by omega, show i - 12 + 12 = i by omega]
theorem f4_eq (s : Nat) (h : s < 65536) : (f4 (BitVec.ofNat 16 s)).toNat = (s * 16 % 65536) ^^^ crcT.getD (s / 4096) 0 := by
  have e : BitVec.ofNat 16 s = BitVec.ofNat 16 (s % 4096) ^^^ BitVec.ofNat 16 (s / 4096 * 4096) := by
    apply BitVec.eq_of_toNat_eq
    rw [BitVec.toNat_xor]
    simp only [BitVec.toNat_ofNat]
    rw [Nat.mod_eq_of_lt h, Nat.mod_eq_of_lt (by omega : s % 4096 < 2^16), Nat.mod_eq_of_lt (by omega : s / 4096 * 4096 < 2^16), low_high]
  rw [e, f4_xor, BitVec.toNat_xor, crcT_f4 _ (by omega), f4_low (by simp; omega), BitVec.toNat_shiftLeft, Nat.shiftLeft_eq]
  congr 1
  simp
  omega
theorem xor16 {a b : Nat} (ha : a < 16) (hb : b < 16) : a ^^^ b < 16 := Nat.xor_lt_two_pow (n := 4) ha hb
theorem nib_eq (s h : Nat) (hs : s < 65536) (hh : h < 16) : nib s h = (f4 (BitVec.ofNat 16 s ^^^ BitVec.ofNat 16 (h * 4096))).toNat := by
  rw [f4_xor, BitVec.toNat_xor, f4_eq s hs, crcT_f4 _ hh, Nat.xor_assoc, ← crcT_xor _ (by omega) _ hh]
  rfl
theorem nib_lt (s h : Nat) (hs : s < 65536) (hh : h < 16) : nib s h < 65536 := by
  unfold nib
  exact Nat.xor_lt_two_pow (n := 16) (by omega) (crcT_lt _ (xor16 (by omega) hh))
/-- One byte more. -/
def byteS (s y : Nat) : Nat := nib (nib s (y / 16)) (y % 16)
theorem byteS_lt {s y : Nat} (hs : s < 65536) (hy : y < 256) : byteS s y < 65536 := nib_lt _ _ (nib_lt _ _ hs (by omega)) (by omega)
theorem byteS_eq {s y : Nat} (hs : s < 65536) (hy : y < 256) : byteS s y = (f4 (f4 (BitVec.ofNat 16 s ^^^ BitVec.ofNat 16 (y * 256)))).toNat := by
  have e : BitVec.ofNat 16 (y * 256) = BitVec.ofNat 16 (y / 16 * 4096) ^^^ BitVec.ofNat 16 (y % 16 * 256) := by
    apply BitVec.eq_of_toNat_eq
    rw [BitVec.toNat_xor]
    simp only [BitVec.toNat_ofNat]
    rw [Nat.mod_eq_of_lt (by omega : y * 256 < 2^16), Nat.mod_eq_of_lt (by omega : y / 16 * 4096 < 2^16), Nat.mod_eq_of_lt (by omega : y % 16 * 256 < 2^16), Nat.xor_comm]
    have := low_high (y * 256)
    rw [show y * 256 % 4096 = y % 16 * 256 by omega, show y * 256 / 4096 * 4096 = y / 16 * 4096 by omega] at this
    exact this.symm
  have hl : (BitVec.ofNat 16 (y % 16 * 256)).toNat = y % 16 * 256 := by rw [BitVec.toNat_ofNat, Nat.mod_eq_of_lt (by omega)]
  have e2 : f4 (BitVec.ofNat 16 (y % 16 * 256)) = BitVec.ofNat 16 (y % 16 * 4096) := by
    rw [f4_low (by omega)]
    apply BitVec.eq_of_toNat_eq
    rw [BitVec.toNat_shiftLeft, Nat.shiftLeft_eq, hl, BitVec.toNat_ofNat]
    omega
  have e3 : f4 (BitVec.ofNat 16 s ^^^ BitVec.ofNat 16 (y * 256)) = BitVec.ofNat 16 (nib s (y / 16)) ^^^ BitVec.ofNat 16 (y % 16 * 4096) := by
    rw [e, ← BitVec.xor_assoc, f4_xor, e2, nib_eq s _ hs (by omega), BitVec.ofNat_toNat, BitVec.setWidth_eq]
  unfold byteS
  rw [nib_eq _ _ (nib_lt _ _ hs (by omega)) (by omega), e3]
theorem f1_inj {x y : BitVec 16} (h : f1 x = f1 y) : x = y := by
  have hz : f1 (x ^^^ y) = 0#16 := by rw [f1_xor, h, BitVec.xor_self]
  have : x ^^^ y = 0#16 := by
    generalize x ^^^ y = z at hz
    unfold f1 at hz
    have e : z <<< 1 = (bif z.msb then 0x1021#16 else 0#16) := by
      have := congrArg (· ^^^ (bif z.msb then 0x1021#16 else 0#16)) hz
      simpa [BitVec.xor_assoc] using this
    have e2 := congrArg BitVec.toNat e
    rw [BitVec.toNat_shiftLeft, Nat.shiftLeft_eq] at e2
    apply BitVec.eq_of_toNat_eq
    have hm := BitVec.msb_eq_decide z
    have hl := z.isLt
    cases hmm : z.msb with
    | true => rw [hmm] at e2; simp at e2; omega
    | false =>
      rw [hmm] at e2 hm
      have := of_decide_eq_false hm.symm
      simp at e2 this ⊢
      omega
  exact BitVec.xor_eq_zero_iff.1 this
theorem f8_inj {x y : BitVec 16} (h : f4 (f4 x) = f4 (f4 y)) : x = y := f1_inj (f1_inj (f1_inj (f1_inj (f1_inj (f1_inj (f1_inj (f1_inj h)))))))
theorem byteS_inj {s s' y : Nat} (hs : s < 65536) (hs' : s' < 65536) (hy : y < 256) (h : byteS s y = byteS s' y) : s = s' := by
  rw [byteS_eq hs hy, byteS_eq hs' hy] at h
  have := f8_inj (BitVec.eq_of_toNat_eq h)
  have := congrArg (· ^^^ BitVec.ofNat 16 (y * 256)) this
  simp only [BitVec.xor_assoc, BitVec.xor_self, BitVec.xor_zero] at this
  have := congrArg BitVec.toNat this
  simp at this
  omega
theorem byteS_byte {s y y' : Nat} (hs : s < 65536) (hy : y < 256) (hy' : y' < 256) (h : byteS s y = byteS s y') : y = y' := by
  rw [byteS_eq hs hy, byteS_eq hs hy'] at h
  have := f8_inj (BitVec.eq_of_toNat_eq h)
  have := congrArg (BitVec.ofNat 16 s ^^^ ·) this
  simp only [← BitVec.xor_assoc, BitVec.xor_self, BitVec.zero_xor] at this
  have := congrArg BitVec.toNat this
  simp at this
  omega
/-- The sum of bytes, on from s. -/
def crcF (s : Nat) (ys : List Int) : Nat := ys.foldl (fun s y => byteS s y.toNat) s
theorem crcF_lt : ∀ (ys : List Int) (s : Nat), s < 65536 → (∀ y ∈ ys, 0 ≤ y ∧ y < 256) → crcF s ys < 65536 := by
  intro ys
  induction ys with
  | nil => intro s h _; exact h
  | cons y ys ih => intro s h hy; exact ih _ (byteS_lt h (by have := hy y (by simp); omega)) fun z hz => hy z (by simp [hz])
theorem crcF_inj : ∀ (ys : List Int) (s s' : Nat), s < 65536 → s' < 65536 → (∀ y ∈ ys, 0 ≤ y ∧ y < 256) → crcF s ys = crcF s' ys → s = s' := by
  intro ys
  induction ys with
  | nil => intro s s' _ _ _ h; exact h
  | cons y ys ih =>
    intro s s' h h' hy e
    have hy0 := hy y (by simp)
    exact byteS_inj h h' (by omega) (ih _ _ (byteS_lt h (by omega)) (byteS_lt h' (by omega)) (fun z hz => hy z (by simp [hz])) e)
/-- **One byte turned turns the sum.** -/
theorem crcF_turn {ys : List Int} {i : Nat} {y z : Int} {s : Nat} (hs : s < 65536) (hy : ∀ y ∈ ys, 0 ≤ y ∧ y < 256) (hi : ys[i]? = some y) (hz : 0 ≤ z ∧ z < 256) (hne : z ≠ y) : crcF s (ys.set i z) ≠ crcF s ys := by
  obtain ⟨hlt, hv⟩ := List.getElem?_eq_some_iff.1 hi
  have e : ys = ys.take i ++ y :: ys.drop (i + 1) := by rw [← hv, List.getElem_cons_drop, List.take_append_drop]
  have e' : ys.set i z = ys.take i ++ z :: ys.drop (i + 1) := by rw [List.set_eq_take_append_cons_drop, if_pos hlt]
  rw [e']
  conv => rhs; rw [e]
  have hym := hy y (List.mem_of_getElem? hi)
  have ht : ∀ x ∈ ys.take i, 0 ≤ x ∧ x < 256 := fun x hx => hy x (List.mem_of_mem_take hx)
  have hd : ∀ x ∈ ys.drop (i + 1), 0 ≤ x ∧ x < 256 := fun x hx => hy x (List.mem_of_mem_drop hx)
  have h1 := crcF_lt _ s hs ht
  unfold crcF at h1 ⊢
  rw [List.foldl_append, List.foldl_append, List.foldl_cons, List.foldl_cons]
  intro h
  have := crcF_inj _ _ _ (byteS_lt h1 (by omega)) (byteS_lt h1 (by omega)) hd h
  have := byteS_byte h1 (by omega) (by omega) this
  omega
end Go.Proofs.YtipikchkbmgloaaDoor
/- message's laws: rows of messages put together.  Conditions: the messages may be read. -/
namespace Go.Proofs.YtipikchkbmgloaaDoor
set_option linter.unusedSimpArgs false
set_option linter.unusedVariables false
open Go Go.RowKit VC
section
variable {P : Program} {w : World}
theorem appendS_none {t e : TypeId} {k : K} {size by_ : Nat} {z : Value} {n c c' : Nat} {b : Option Addr} {KK : Value → World → Prop} (ht : (row P t).k = .slice e) (he : row P e = ⟨k, size, by_, some z⟩) (hnc : n ≤ c) (kk : KK (.slice b n c) w) :
    runs P (Builtin.append_ #[t, t] t #[.slice b n c, .slice none 0 c']) w KK := by
  obtain ⟨i, hi, hz, hsi, hbt⟩ := info_of_row he
  have hu := slice_of_row ht
  refine ⟨_, _, ?_, kk⟩
  cases b with
  | none => simp [Builtin.append_, run_underlying hu, run_size hi, hsi, Builtin.lenOf, hnc, Builtin.firstCells]
  | some a => simp [Builtin.append_, run_underlying hu, run_size hi, hsi, Builtin.lenOf, hnc, Builtin.firstCells, storeCells]
theorem appendS_at {t e : TypeId} {k : K} {size by_ : Nat} {z s : Value} {n base m c : Nat} {xs news : List Value} {a : Addr} {KK : Value → World → Prop} (ht : (row P t).k = .slice e) (he : row P e = ⟨k, size, by_, some z⟩) (hzs : z.cells.size = size) (hsz : 0 < size)
    (hown : w.ownsRow base e size s n xs) (hl : news.length = m * size) (hnews : ∀ j u, news[j]? = some u → w.cell? (a.add j) = some u) (h1 : ∀ u ∈ news, u.oneCell' = true) (hb : base ≤ w.heap.size) (h63 : n + m ≤ maxLen) (hby : (n + m) * by_ ≤ 140737488355328)
    (kk : ∀ v' w', w'.ownsRow base e size v' (n + m) (xs ++ news) → Fm (fun i => s.ownBlock = some i) w w' → KK v' w') :
    runs P (Builtin.append_ #[t, t] t #[s, .slice (some a) m c]) w KK := by
  obtain ⟨i, hi, hz, hsi, hbt⟩ := info_of_row he
  have hu := slice_of_row ht
  obtain ⟨v', w', hr, hown', hg, hnil, hblk⟩ := run_append_own_at (P := P) w base t t e i z size by_ hu hi hz hsi hbt hzs hsz s n xs hown a m c news hl hnews h1 h63 hby hb
  exact ⟨v', w', hr, kk v' w' hown' (Fm.grown hg)⟩
theorem buildS_none {t e : TypeId} {k : K} {size b : Nat} {z : Value} {KK : Value → World → Prop} (ht : (row P t).k = .slice e) (he : row P e = ⟨k, size, b, some z⟩)
    (kk : ∀ s w', w'.ownsRow w.heap.size e size s 0 [] → Fm none' w w' → KK s w') : runs P (Instr.buildSlice t 0 #[]) w KK := by
  obtain ⟨i, hi, hz, hsz, hbt⟩ := info_of_row he
  have hu := slice_of_row ht
  have hr : Array.range 0 = #[] := rfl
  have hbuild : (Instr.buildSlice t 0 #[]).run P w = .ok (.slice (some ⟨w.heap.size, 0, none⟩) 0 0) (w.alloc (.cells #[] e)) := by
    simp [Instr.buildSlice, run_underlying hu, run_size hi, hsz, run_zero hi hz, Instr.fill, newRow, hr]
  refine ⟨_, _, hbuild, kk _ _ ⟨by simp, .inr ⟨_, 0, #[], rfl, Nat.le_refl _, by simpa using heap_alloc_new w (.cells #[] e), Nat.le_refl _, by simp [maxLen], by simp, by simp⟩⟩ (Fm.alloc w _)⟩
end
variable {w : World}
theorem MsgsAt.qs {N : Nat} {p : Option Addr} {ms : List Msg} (h : MsgsAt w N p ms) : ∃ qs : List (Option Addr × Nat), qs.length = ms.length ∧ ∀ (j : Nat) (m : Msg) (q : Option Addr × Nat), ms[j]? = some m → qs[j]? = some q →
    ∃ ad, p = some ad ∧ cellsAt w (ad.add (j * 23)) 23 = some (msgC m q.1 q.2) ∧ BytesAt w q.1 m.bytes ∧ (∀ ad', q.1 = some ad' → m.bytes ≠ [] → ad'.block < N) := by
  have key : ∀ j, ∃ q : Option Addr × Nat, ∀ m, ms[j]? = some m → ∃ ad, p = some ad ∧ cellsAt w (ad.add (j * 23)) 23 = some (msgC m q.1 q.2) ∧ BytesAt w q.1 m.bytes ∧ (∀ ad', q.1 = some ad' → m.bytes ≠ [] → ad'.block < N) := by
    intro j
    cases hj : ms[j]? with
    | none => exact ⟨(none, 0), fun m h => by cases h⟩
    | some m =>
      obtain ⟨ad, q, cq, e, hb, hc, hq, hqb⟩ := h j m hj
      exact ⟨(q, cq), fun m' h => by cases h; exact ⟨ad, e, hc, hq, hqb⟩⟩
  obtain ⟨f, hf⟩ : ∃ f : Nat → Option Addr × Nat, ∀ j m, ms[j]? = some m → ∃ ad, p = some ad ∧ cellsAt w (ad.add (j * 23)) 23 = some (msgC m (f j).1 (f j).2) ∧ BytesAt w (f j).1 m.bytes ∧ (∀ ad', (f j).1 = some ad' → m.bytes ≠ [] → ad'.block < N) :=
    ⟨fun j => Classical.choose (key j), fun j => Classical.choose_spec (key j)⟩
  refine ⟨(List.range ms.length).map f, by simp, fun j m q hj hq => ?_⟩
  have hjl := (List.getElem?_eq_some_iff.1 hj).1
  rw [List.getElem?_map, List.getElem?_range hjl] at hq
  cases hq
  exact hf j m hj
theorem flat_at {α : Type} {f : α → List Value} {k : Nat} (hf : ∀ x, (f x).length = k) : ∀ (l : List α) (i : Nat) (v : Value), (l.flatMap f)[i]? = some v → ∃ j r x, i = j * k + r ∧ r < k ∧ l[j]? = some x ∧ (f x)[r]? = some v := by
  intro l
  induction l with
  | nil => intro i v h; simp at h
  | cons y l ih =>
    intro i v h
    rw [List.flatMap_cons] at h
    by_cases hi : i < k
    · rw [List.getElem?_append_left (by rw [hf]; exact hi)] at h
      exact ⟨0, i, y, by omega, hi, rfl, h⟩
    · rw [List.getElem?_append_right (by rw [hf]; omega), hf] at h
      obtain ⟨j, r, x, h1, h2, h3, h4⟩ := ih _ _ h
      exact ⟨j + 1, r, x, by rw [Nat.succ_mul]; omega, h2, by simpa using h3, h4⟩
theorem flat_len {α : Type} {f : α → List Value} {k : Nat} (hf : ∀ x, (f x).length = k) : ∀ (l : List α), (l.flatMap f).length = l.length * k := by
  intro l
  induction l with
  | nil => simp
  | cons y l ih => rw [List.flatMap_cons, List.length_append, ih, hf, List.length_cons, Nat.succ_mul]; omega
/-- A row of messages, appended to an empty slice. -/
theorem app_rows {base N : Nat} {s : Value} {p : Option Addr} {l : List Msg} {n c : Nat} {KK : Value → World → Prop} (hn : n = l.length) (hown : w.ownsRow base 53 23 s 0 []) (hm : MsgsAt w N p l) (hN : N ≤ base) (hb : base ≤ w.heap.size) (hl : l.length ≤ 1000)
    (kk : ∀ v' w', RowMsgs w' base N v' l → Fm (fun i => s.ownBlock = some i) w w' → KK v' w') : runs Tryd.prog (Builtin.append_ #[24, 24] 24 #[s, .slice p n c]) w KK := by
  subst hn
  obtain ⟨qs, hql, hq⟩ := hm.qs
  have hsN : ∀ i, s.ownBlock = some i → N ≤ i := fun i hi => by have := (own_block hown hi).1; omega
  cases p with
  | none =>
    have : l = [] := by
      cases l with
      | nil => rfl
      | cons m l => obtain ⟨ad, q, cq, e, _⟩ := hm 0 m rfl; cases e
    subst this
    obtain ⟨b, cb, rfl, -, -⟩ := own_readS hown
    exact appendS_none (by rw [row24]) row53 (Nat.zero_le _) (kk _ _ ⟨[], rfl, hown, fun j m q h => by simp at h⟩ (Fm.refl _ _))
  | some a =>
    refine appendS_at (news := (l.zip qs).flatMap fun x => msgC x.1 x.2.1 x.2.2) (by rw [row24]) row53 rfl (by omega) hown ?_ (fun i v hv => ?_) (fun u hu => ?_) hb (by simp only [maxLen]; omega) (by omega) fun v' w' hv' hf' => ?_
    · rw [flat_len (k := 23) (fun _ => rfl), List.length_zip, hql]; simp
    · obtain ⟨j, r, x, rfl, hr, hx, hv⟩ := flat_at (k := 23) (fun _ => rfl) _ _ _ hv
      rw [List.getElem?_zip_eq_some] at hx
      obtain ⟨ad, e, hc, -⟩ := hq j x.1 x.2 hx.1 hx.2
      cases e
      have := (cellsAt_length hc).2 r v hv
      rw [add_add] at this; exact this
    · obtain ⟨x, _, hu⟩ := List.mem_flatMap.1 hu
      exact msgC_one u hu
    · rw [Nat.zero_add] at hv'
      refine kk v' w' ⟨qs, hql, hv', fun j m q hj hq' => ?_⟩ hf'
      obtain ⟨ad, e, hc, hb1, hb2⟩ := hq j m q hj hq'
      exact ⟨hb1.keepN hf' fun ad' e' hne hs => by have := hsN _ hs; have := hb2 ad' e' hne; omega, hb2⟩
theorem RowMsgs.snoc {w w' : World} {base N : Nat} {s v' : Value} {l : List Msg} {m : Msg} {q : Option Addr} {cq : Nat} {xs : List Value} (h : RowMsgs w base N s l) (hN : N ≤ base) (hxs : ∀ qs : List (Option Addr × Nat), qs.length = l.length → w.ownsRow base 53 23 s l.length ((l.zip qs).flatMap fun x => msgC x.1 x.2.1 x.2.2) → xs = (l.zip qs).flatMap fun x => msgC x.1 x.2.1 x.2.2)
    (ho : w'.ownsRow base 53 23 v' (l.length + 1) (xs ++ msgC m q cq)) (hf : Fm (fun i => s.ownBlock = some i) w w') (hb : BytesAt w q m.bytes) (hqN : ∀ ad, q = some ad → m.bytes ≠ [] → ad.block < N) : RowMsgs w' base N v' (l ++ [m]) := by
  obtain ⟨qs, hql, hown, hq⟩ := h
  rw [hxs qs hql hown] at ho
  have hsN : ∀ i, s.ownBlock = some i → N ≤ i := fun i hi => by have := (own_block hown hi).1; omega
  have hk : ∀ {q : Option Addr} {ys : List Int}, (∀ ad, q = some ad → ys ≠ [] → ad.block < N) → BytesAt w q ys → BytesAt w' q ys := fun hqb h => h.keepN hf fun ad e hne hs => by have := hsN _ hs; have := hqb ad e hne; omega
  refine ⟨qs ++ [(q, cq)], by simp [hql], ?_, fun j m' q' hj hq' => ?_⟩
  · rw [List.zip_append hql.symm, List.flatMap_append, List.length_append]
    have : [(m, (q, cq))].flatMap (fun x : Msg × Option Addr × Nat => msgC x.1 x.2.1 x.2.2) = msgC m q cq := by simp
    show w'.ownsRow _ _ _ _ _ (_ ++ [(m, (q, cq))].flatMap _)
    rw [this]
    exact ho
  · by_cases hjl : j < l.length
    · rw [List.getElem?_append_left hjl] at hj
      rw [List.getElem?_append_left (by omega)] at hq'
      obtain ⟨h1, h2⟩ := hq j m' q' hj hq'
      exact ⟨hk h2 h1, h2⟩
    · have hj1 : j = l.length := by
        have := (List.getElem?_eq_some_iff.1 hj).1
        rw [List.length_append] at this; simp only [List.length_cons, List.length_nil] at this; omega
      subst hj1
      rw [List.getElem?_append_right (by omega), Nat.sub_self] at hj
      rw [List.getElem?_append_right (by omega), hql, Nat.sub_self] at hq'
      cases hj; cases hq'
      exact ⟨hk hqN hb, hqN⟩
theorem own_xs {base e size n : Nat} {s : Value} {xs ys : List Value} (h : w.ownsRow base e size s n xs) (h' : w.ownsRow base e size s n ys) : xs = ys := by
  rcases h.2 with ⟨rfl, rfl⟩ | ⟨g, cap, cur, rfl, _, hb, _, _, _, ht⟩
  · have h1 := h.1; have h2 := h'.1
    simp at h1 h2
    rw [h1, h2]
  · rcases h'.2 with ⟨h0, _⟩ | ⟨g', cap', cur', hv, _, hb', _, _, _, ht'⟩
    · cases h0
    · cases hv
      rw [hb] at hb'; cases hb'
      rw [← ht, ← ht']
/-- A message in a block of its own, appended to a row of messages. -/
theorem app_one {base N g : Nat} {s : Value} {l : List Msg} {m : Msg} {q : Option Addr} {cq : Nat} {KK : Value → World → Prop} (h : RowMsgs w base N s l) (hN : N ≤ base) (hb : base ≤ w.heap.size) (hg : w.heap[g]? = some (.cells (msgC m q cq).toArray 53 (0, 0))) (hl : l.length ≤ 1000)
    (hby : BytesAt w q m.bytes) (hqN : ∀ ad, q = some ad → m.bytes ≠ [] → ad.block < N) (kk : ∀ v' w', RowMsgs w' base N v' (l ++ [m]) → Fm (fun i => s.ownBlock = some i) w w' → KK v' w') :
    runs Tryd.prog (Builtin.append_ #[24, 24] 24 #[s, .slice (some ⟨g, 0, none⟩) 1 1]) w KK := by
  have h' := h
  obtain ⟨qs, hql, hown, hq⟩ := h'
  refine appendS_at (news := msgC m q cq) (by rw [row24]) row53 rfl (by omega) hown rfl (fun i v hv => ?_) msgC_one hb (by simp only [maxLen]; omega) (by omega) fun v' w' hv' hf' => ?_
  · rw [addr_add, Nat.zero_add]
    exact cellOf hg (by simpa using hv)
  · exact kk v' w' (h.snoc hN (fun qs' _ ho => own_xs hown ho) hv' hf' hby hqN) hf'
theorem MsgsAt.take {N : Nat} {p : Option Addr} {ms : List Msg} (h : MsgsAt w N p ms) (k c : Nat) : MsgsAt w N (if c = 0 then p else p.map (·.add 0)) (ms.take k) := by
  intro j m hj
  rw [List.getElem?_take] at hj
  split at hj
  · obtain ⟨ad, q, cq, rfl, hb, hc, h1, h2⟩ := h j m hj
    split
    · exact ⟨ad, q, cq, rfl, hb, hc, h1, h2⟩
    · exact ⟨ad.add 0, q, cq, rfl, by rw [add_block]; exact hb, by rw [add0]; exact hc, h1, h2⟩
  · cases hj
end Go.Proofs.YtipikchkbmgloaaDoor
/- message's law 9: whoever has room has room for fewer.  Conditions: the messages may be read. -/
namespace Go.Proofs.YtipikchkbmgloaaDoor
set_option linter.unusedSimpArgs false
set_option linter.unusedVariables false
open Go Go.RowKit VC
variable {w : World}
def bitsLen (l : List Msg) : Nat := (l.flatMap oneBits).length
theorem encBits_len (l : List Msg) : (encBits l).length = 5 + bitsLen l := by
  unfold encBits bitsLen; rw [List.length_append, bitsOf_length]
theorem bitsLen_app (l m : List Msg) : bitsLen (l ++ m) = bitsLen l + bitsLen m := by
  unfold bitsLen; rw [List.flatMap_append, List.length_append]
theorem bitsLen_take (l : List Msg) (i j : Nat) (h : i ≤ j) : bitsLen (l.take i) ≤ bitsLen (l.take j) := by
  have : l.take j = l.take i ++ (l.take j).drop i := by
    rw [show l.take i = (l.take j).take i by rw [List.take_take, Nat.min_eq_left h], List.take_append_drop]
  rw [this, bitsLen_app]; omega
theorem packLen (l : List Msg) : (pack (encBits l)).length = (5 + bitsLen l + 7) / 8 := by rw [pack_length, encBits_len]
theorem sliceAtS_hi {P : Program} {w : World} {t e : TypeId} {k : K} {b size : Nat} {z : Value} {a : Option Addr} {n c : Nat} {kl : IntKind} {l : Int} {KK : Value → World → Prop} (ht : (row P t).k = .slice e) (he : row P e = ⟨k, size, b, some z⟩) (h0 : 0 ≤ l) (h1 : l ≤ c)
    (kk : KK (.slice (if c = 0 then a else a.map (·.add 0)) l.toNat c) w) : runs P (Instr.sliceAt t (.slice a n c) none (some (.int kl l)) none) w KK := by
  obtain ⟨h, h2⟩ := elem_of_row ht
  obtain ⟨i, hi, hz, hsz, hbt⟩ := info_of_row he
  refine ⟨_, _, ?_, kk⟩
  rw [run_sliceAt_slice _ _ _ _ _ _ h, run_slice_h _ _ _ _ _ h _ _ h0 h1, h2, run_size hi, hsz]
  simp [Result.andThen, sliced]
theorem RowMsgs.keep {w w' : World} {base N : Nat} {sv : Value} {ms : List Msg} {S : Nat → Prop} (h : RowMsgs w base N sv ms) (f : Fm S w w') (hS : ∀ i, base ≤ i ∨ i < N → ¬ S i) : RowMsgs w' base N sv ms := by
  obtain ⟨qs, h1, h2, h3⟩ := h
  refine ⟨qs, h1, f.owns h2 fun i hi => hS i (.inl (own_block h2 hi).1), fun j m q hj hq => ?_⟩
  obtain ⟨h4, h5⟩ := h3 j m q hj hq
  exact ⟨h4.keepN f fun ad e hne => hS _ (.inr (h5 ad e hne)), h5⟩
theorem rowSl {base N : Nat} {v : Value} {l : List Msg} (h : RowMsgs w base N v l) : ∃ o d, v = .slice o l.length d := by
  obtain ⟨qs, hq, ho, -⟩ := h
  obtain ⟨o, d, rfl, -⟩ := own_readS ho
  exact ⟨o, d, rfl⟩
theorem lt_of_own {base e size n i : Nat} {s : Value} {xs : List Value} (h : w.ownsRow base e size s n xs) (hi : s.ownBlock = some i) : i < w.heap.size := by
  obtain ⟨_, cur, hc⟩ := own_block h hi
  exact lt_of_blk hc
theorem few_sum (l : List Msg) (m : Msg) : (pack (encBits (l ++ [m]))).length ≤ (pack (encBits l)).length + (pack (encBits [m])).length ∧ (pack (encBits l)).length ≤ (pack (encBits (l ++ [m]))).length ∧ (pack (encBits [m])).length ≤ (pack (encBits (l ++ [m]))).length := by
  rw [packLen, packLen, packLen, bitsLen_app]
  omega
theorem small {a b : Nat} (ha : a ≤ 1024) (hb : b ≤ 1024) : -9223372036854775808 ≤ (a : Int) + (b : Int) ∧ (a : Int) + (b : Int) ≤ 9223372036854775807 := by omega
theorem tail_lt {b c : Nat} (h : 1024 < b + c) (hb : b ≤ 1024) (hc : c ≤ 1024) : Value.bool (decide (1024 < IntKind.i64.wrap ((b : Int) + (c : Int)))) = Value.bool true := by
  rw [w64 (by omega), decide_eq_true (by omega)]
theorem tail_le {a b c : Nat} (h : a ≤ b + c) (hb : b ≤ 1024) (hc : c ≤ 1024) : Value.bool (decide ((a : Int) ≤ IntKind.i64.wrap ((b : Int) + (c : Int)))) = Value.bool true := by
  rw [w64 (by omega), decide_eq_true (by omega)]
theorem cast_le {a b : Nat} (h : a ≤ b) : (a : Int) ≤ (b : Int) := by omega
theorem msok_one {m : Msg} (h : Mok m) (hl : m.bytes.length ≤ 2000) : Msok [m] := ⟨by simpa using h, by intro x hx; simp at hx; subst hx; omega, by simp⟩
end Go.Proofs.YtipikchkbmgloaaDoor
/- More small laws for walks: appends that tell where the row lies, marks of rounds, iterators that own rows of their own.  Conditions: none (a general text, over any program). -/
namespace Go.Proofs.YtipikchkbmgloaaDoor.VC
set_option linter.unusedSimpArgs false
set_option linter.unusedVariables false
open Go Go.RowKit
theorem cell_drew (w : World) (a : Addr) : w.drew.cell? a = w.cell? a := rfl
theorem heap_drew (w : World) : w.drew.heap = w.heap := rfl
theorem cells_drew (w : World) (a : Addr) (n : Nat) : cellsAt w.drew a n = cellsAt w a n := by
  induction n with
  | zero => rfl
  | succ n ih => simp only [cellsAt, ih, cell_drew]
/-- append of one element; where the row lies then. -/
theorem append_1g {P : Program} {w : World} {t e : TypeId} {k : K} {by_ : Nat} {z x s : Value} {n base : Nat} {xs : List Value} {KK : Value → World → Prop} (ht : (row P t).k = .slice e) (he : row P e = ⟨k, 1, by_, some z⟩) (hzs : z.cells.size = 1)
    (hx : x.oneCell' = true) (hown : w.ownsRow base e 1 s n xs) (hb : base ≤ w.heap.size) (h63 : n + 1 ≤ maxLen) (hby : (n + 1) * by_ ≤ 140737488355328)
    (kk : ∀ p c w', w'.ownsRow base e 1 (.slice p (n + 1) c) (n + 1) (xs ++ [x]) → Fm (fun i => s.ownBlock = some i) w w' → ((Value.slice p (n + 1) c).ownBlock = s.ownBlock ∨ ∃ g, (Value.slice p (n + 1) c).ownBlock = some g ∧ w.heap.size ≤ g) → KK (.slice p (n + 1) c) w') :
    runs P (Instr.buildSlice t 1 #[(0, x)]) w fun v1 w1 => isSl v1 fun o n c => runs P (Builtin.append_ #[t, t] t #[s, .slice o n c]) w1 KK := by
  refine build_1 ht he hzs hx fun w1 hb1 hs1 hf1 => ?_
  simp only [isSl]
  refine append_at (news := [x]) ht he hzs (hf1.owns hown fun _ _ h => h) rfl (fun j u hj => ?_) (by simpa using hx) (by omega) h63 hby fun v' w' ho hf hg => ?_
  · match j, hj with
    | 0, hj => simp at hj; subst hj; rw [addr_add]; exact cellOf hb1 rfl
  · obtain ⟨p, c, rfl, -⟩ := own_read ho
    refine kk p c w' ho (hf1.none.trans hf) (hg.imp id fun h => ⟨_, h, by omega⟩)
theorem own_cap' {w : World} {base : Nat} {e : TypeId} {size n c : Nat} {p : Option Addr} {xs : List Value} (h : w.ownsRow base e size (.slice p n c) n xs) : n ≤ c := by
  rcases h.2 with ⟨h, rfl⟩ | ⟨g, cap, cur, hv, _, _, hc, _⟩
  · exact Nat.zero_le _
  · cases hv; exact hc
/-- append of cells that may be read, nil or not. -/
theorem append_r {P : Program} {w : World} {t e : TypeId} {k : K} {by_ : Nat} {z s : Value} {n base m c : Nat} {xs ys : List Value} {p : Option Addr} {KK : Value → World → Prop} (ht : (row P t).k = .slice e) (he : row P e = ⟨k, 1, by_, some z⟩) (hzs : z.cells.size = 1)
    (hown : w.ownsRow base e 1 s n xs) (hm : m = ys.length) (h1 : ∀ y ∈ ys, y.oneCell' = true) (h : ∀ (j : Nat) (y : Value), ys[j]? = some y → ∃ ad, p = some ad ∧ w.cell? (ad.add j) = some y) (hb : base ≤ w.heap.size) (h63 : n + m ≤ maxLen) (hby : (n + m) * by_ ≤ 140737488355328)
    (kk : ∀ p' c' w', w'.ownsRow base e 1 (.slice p' (n + m) c') (n + m) (xs ++ ys) → Fm (fun i => s.ownBlock = some i) w w' → ((Value.slice p' (n + m) c').ownBlock = s.ownBlock ∨ (Value.slice p' (n + m) c').ownBlock = some w.heap.size) → KK (.slice p' (n + m) c') w') :
    runs P (Builtin.append_ #[t, t] t #[s, .slice p m c]) w KK := by
  subst hm
  cases p with
  | none =>
    have : ys = [] := by
      cases ys with
      | nil => rfl
      | cons y ys => obtain ⟨_, e, _⟩ := h 0 y rfl; cases e
    subst this
    obtain ⟨b, cb, rfl, -⟩ := own_read hown
    have hnc := own_cap' hown
    obtain ⟨i, hi, hz, hsi, hbt⟩ := info_of_row he
    have hu := slice_of_row ht
    refine ⟨.slice b n cb, w, ?_, kk b cb w (by simpa using hown) (Fm.refl _ _) (.inl rfl)⟩
    cases b with
    | none => simp [Builtin.append_, run_underlying hu, run_size hi, hsi, Builtin.lenOf, hnc, Builtin.firstCells]
    | some a => simp [Builtin.append_, run_underlying hu, run_size hi, hsi, Builtin.lenOf, hnc, Builtin.firstCells, storeCells]
  | some a =>
    refine append_at (news := ys) ht he hzs hown rfl (fun j u hj => ?_) h1 hb h63 hby fun v' w' ho hf hg => ?_
    · obtain ⟨ad, e, hc⟩ := h j u hj
      cases e; exact hc
    · obtain ⟨p', c', rfl, -⟩ := own_read ho
      exact kk p' c' w' ho hf hg
/-- A slice of one element that is more than one cell. -/
theorem build_Sg {P : Program} {w : World} {t e : TypeId} {k : K} {size by_ : Nat} {z : Value} {cs : List Value} {KK : Value → World → Prop} (ht : (row P t).k = .slice e) (he : row P e = ⟨k, size, by_, some z⟩) (hzs : z.cells.size = size)
    (hsz : 0 < size) (hbig : size ≤ 16777216) (hcs : cs.length = size)
    (kk : ∀ w', w'.heap[w.heap.size]? = some (.cells cs.toArray e (0, 0)) → w'.heap.size = w.heap.size + 1 → Fm none' w w' → KK (.slice (some ⟨w.heap.size, 0, none⟩) 1 1) w') : runs P (Instr.buildSlice t 1 #[(0, .agg cs.toArray)]) w KK := by
  obtain ⟨i, hi, hz, hsi, hbt⟩ := info_of_row he
  have hu := slice_of_row ht
  have hbuild : (Instr.buildSlice t 1 #[(0, .agg cs.toArray)]).run P w = .ok (.slice (some ⟨w.heap.size, 0, none⟩) 1 1) (w.alloc (.cells cs.toArray e)) := by
    have hf : ∀ C : Array Value, C.size = size → Instr.fill (fun i => some (i * size, size)) C [(0, .agg cs.toArray)] = some cs.toArray := by
      intro C hC
      have hc : (Value.agg cs.toArray).cells = cs.toArray := rfl
      have hfd : cs.toArray.zipIdx.foldl (fun acc (p : Value × Nat) => acc.setIfInBounds (0 + p.2) p.1) C = cs.toArray := by
        apply Array.ext'
        rw [← Array.foldl_toList]
        have : cs.toArray.zipIdx.toList = cs.zipIdx 0 := by simp
        rw [this, fold_set cs 0 C (by omega)]
        rw [List.drop_eq_nil_of_le (by simp; omega)]
        simp
      simp only [Instr.fill, hc, Nat.zero_mul]
      rw [if_neg (by simp; omega), hfd]
    have hr : ((Array.range (1 * size)).map (z.cells[· % z.cells.size]!)).size = size := by simp
    simp only [Instr.buildSlice, Sem.run_bind, run_underlying hu, run_size hi, hsi, Result.andThen_ok]
    rw [if_neg (by omega)]
    simp only [Sem.run_pure, Result.andThen_ok, Nat.one_mul, if_neg (show ¬ size = 0 by omega), Sem.run_bind, run_zero hi hz]
    rw [Nat.one_mul] at hr
    simp only [Sem.run_map, run_zero hi hz, Result.andThen_ok, hf _ hr, newRow, Sem.run_bind, Sem.run_pure]
    rfl
  exact ⟨_, _, hbuild, kk _ (by simpa using heap_alloc_new w (.cells cs.toArray e)) (by simp) (Fm.alloc w _)⟩
/-- append of elements of some cells each, nil or not. -/
theorem append_rS {P : Program} {w : World} {t e : TypeId} {k : K} {size by_ : Nat} {z s : Value} {n base m c : Nat} {xs ys : List Value} {p : Option Addr} {KK : Value → World → Prop} (ht : (row P t).k = .slice e) (he : row P e = ⟨k, size, by_, some z⟩) (hzs : z.cells.size = size) (hsz : 0 < size)
    (hown : w.ownsRow base e size s n xs) (hm : ys.length = m * size) (h1 : ∀ y ∈ ys, y.oneCell' = true) (h : ∀ (j : Nat) (y : Value), ys[j]? = some y → ∃ i o, p = some ⟨i, o, none⟩ ∧ w.cell? ⟨i, o + j, none⟩ = some y) (hb : base ≤ w.heap.size) (h63 : n + m ≤ maxLen) (hby : (n + m) * by_ ≤ 140737488355328)
    (kk : ∀ p' c' w', w'.ownsRow base e size (.slice p' (n + m) c') (n + m) (xs ++ ys) → Fm (fun i => s.ownBlock = some i) w w' → ((Value.slice p' (n + m) c').ownBlock = s.ownBlock ∨ (Value.slice p' (n + m) c').ownBlock = some w.heap.size) → KK (.slice p' (n + m) c') w') :
    runs P (Builtin.append_ #[t, t] t #[s, .slice p m c]) w KK := by
  obtain ⟨i, hi, hz, hsi, hbt⟩ := info_of_row he
  have hu := slice_of_row ht
  cases p with
  | none =>
    have : ys = [] := by
      cases ys with
      | nil => rfl
      | cons y ys => obtain ⟨_, _, e, _⟩ := h 0 y rfl; cases e
    subst this
    have hm0 : m = 0 := by
      rcases Nat.mul_eq_zero.1 (show m * size = 0 from hm.symm) with h | h
      · exact h
      · omega
    subst hm0
    obtain ⟨b, cb, rfl, -⟩ := own_readS hown
    have hnc := own_cap' hown
    refine ⟨.slice b n cb, w, ?_, kk b cb w (by simpa using hown) (Fm.refl _ _) (.inl rfl)⟩
    cases b with
    | none => simp [Builtin.append_, run_underlying hu, run_size hi, hsi, Builtin.lenOf, hnc, Builtin.firstCells]
    | some a => simp [Builtin.append_, run_underlying hu, run_size hi, hsi, Builtin.lenOf, hnc, Builtin.firstCells, storeCells]
  | some a =>
    obtain ⟨v', w', hr, hown', hg, hnil, hblk⟩ := run_append_own_at (P := P) w base t t e i z size by_ hu hi hz hsi hbt hzs hsz s n xs hown a m c ys hm
      (fun j u hj => by
        obtain ⟨_, _, e, hc⟩ := h j u hj
        cases e
        rw [addr_add]; exact hc) h1 h63 hby hb
    obtain ⟨p', c', rfl, -⟩ := own_readS hown'
    exact ⟨_, _, hr, kk p' c' w' hown' (Fm.grown hg) hblk⟩
theorem build_noneS {P : Program} {w : World} {t e : TypeId} {k : K} {size b : Nat} {z : Value} {KK : Value → World → Prop} (ht : (row P t).k = .slice e) (he : row P e = ⟨k, size, b, some z⟩)
    (kk : ∀ w', w'.ownsRow w.heap.size e size (.slice (some ⟨w.heap.size, 0, none⟩) 0 0) 0 [] → w.heap.size < w'.heap.size → Fm none' w w' → KK (.slice (some ⟨w.heap.size, 0, none⟩) 0 0) w') : runs P (Instr.buildSlice t 0 #[]) w KK := by
  obtain ⟨i, hi, hz, hsz, hbt⟩ := info_of_row he
  have hu := slice_of_row ht
  have hr : Array.range 0 = #[0] ∨ Array.range 0 = #[] := .inr rfl
  have hr : Array.range 0 = #[] := rfl
  have hbuild : (Instr.buildSlice t 0 #[]).run P w = .ok (.slice (some ⟨w.heap.size, 0, none⟩) 0 0) (w.alloc (.cells #[] e)) := by
    simp [Instr.buildSlice, run_underlying hu, run_size hi, hsz, run_zero hi hz, Instr.fill, newRow, hr]
  refine ⟨_, _, hbuild, kk _ ⟨by simp, .inr ⟨_, 0, #[], rfl, Nat.le_refl _, by simpa using heap_alloc_new w (.cells #[] e), Nat.le_refl _, by simp [maxLen], by simp, by simp⟩⟩ (by simp) (Fm.alloc w _)⟩
theorem sliceAt_loS {P : Program} {w : World} {t e : TypeId} {k : K} {size b : Nat} {z : Value} {a : Option Addr} {n c : Nat} {kl : IntKind} {l : Int} {KK : Value → World → Prop} (ht : (row P t).k = .slice e) (he : row P e = ⟨k, size, b, some z⟩) (h0 : 0 ≤ l) (h1 : l ≤ n)
    (kk : KK (.slice (if c = l.toNat then a else a.map (·.add (l.toNat * size))) (n - l.toNat) (c - l.toNat)) w) : runs P (Instr.sliceAt t (.slice a n c) (some (.int kl l)) none none) w KK := by
  obtain ⟨h, h2⟩ := elem_of_row ht
  obtain ⟨i, hi, hz, hsz, hbt⟩ := info_of_row he
  refine ⟨_, _, ?_, kk⟩
  rw [run_sliceAt_slice _ _ _ _ _ _ h, run_slice_l _ _ _ _ _ h _ _ h0 h1, h2, run_size hi, hsz]
  simp [Result.andThen, sliced]
theorem sliceAt_hiS {P : Program} {w : World} {t e : TypeId} {k : K} {size b : Nat} {z : Value} {a : Option Addr} {n c : Nat} {kl : IntKind} {l : Int} {KK : Value → World → Prop} (ht : (row P t).k = .slice e) (he : row P e = ⟨k, size, b, some z⟩) (h0 : 0 ≤ l) (h1 : l ≤ c)
    (kk : KK (.slice (if c = 0 then a else a.map (·.add 0)) l.toNat c) w) : runs P (Instr.sliceAt t (.slice a n c) none (some (.int kl l)) none) w KK := by
  obtain ⟨h, h2⟩ := elem_of_row ht
  obtain ⟨i, hi, hz, hsz, hbt⟩ := info_of_row he
  refine ⟨_, _, ?_, kk⟩
  rw [run_sliceAt_slice _ _ _ _ _ _ h, run_slice_h _ _ _ _ _ h _ _ h0 h1, h2, run_size hi, hsz]
  simp [Result.andThen, sliced]
/-- A slice of zeros. -/
theorem make_g {P : Program} {w : World} {t e : TypeId} {k : K} {by_ n base : Nat} {z : Value} {kl kc : IntKind} {K : Value → World → Prop} (ht : (row P t).k = .slice e) (he : row P e = ⟨k, 1, by_, some z⟩) (hzc : z.cells = #[z]) (hb : by_ * n ≤ 281474976710656) (h63 : n ≤ maxLen) (hbase : base ≤ w.heap.size)
    (kk : ∀ w', w'.ownsRow base e 1 (.slice (some ⟨w.heap.size, 0, none⟩) n n) n (List.replicate n z) → Fm none' w w' → K (.slice (some ⟨w.heap.size, 0, none⟩) n n) w') : runs P (Instr.makeSlice t (.int kl n) (.int kc n)) w K := by
  obtain ⟨i, hi, hz, hsz, hbt⟩ := info_of_row he
  have hu := slice_of_row ht
  obtain ⟨w', hr, ho, hg⟩ := run_make_full (P := P) w base t e i _ 1 hu hi hz hsz kl kc n (by rw [hbt]; exact hb) h63 hbase
  refine ⟨_, _, hr, kk w' ?_ ((Fm.grown hg).mono fun _ _ h => by cases h)⟩
  have : (madeCells z.cells (n * 1)).toList = List.replicate n z := by
    simp only [madeCells, hzc, Nat.mul_one]
    refine List.ext_getElem? fun j => ?_
    by_cases hj : j < n
    · simp [hj, Nat.mod_one]
    · simp [hj]
  rw [this] at ho
  exact ho
theorem cells_at {W : World} {i n : Nat} {c : Array Value} {t : TypeId} {f : Nat × Nat} (e : i = n) (h : W.heap[n]? = some (.cells c t f)) : ∃ c t f, W.heap[i]? = some (.cells c t f) := by subst e; exact ⟨_, _, _, h⟩
theorem turnD_fm : ∀ (ds : List Nat) (w : World), Fm (fun i => i ∈ ds) w (turnD ds w) := by
  intro ds
  induction ds with
  | nil => intro w; exact Fm.refl _ _
  | cons D ds ih =>
    intro w
    refine ((Fm.grown (grownBy_putObj' w D (.deferred none))).mono fun i _ e => ?_).trans ((ih _).mono fun i _ h => List.mem_cons_of_mem _ h)
    cases e
    exact List.mem_cons_self
/-- The marks ds lie in w, above base. -/
def Marks (w : World) (base : Nat) (v : Value) : Prop := ∃ ds, v = encD ds ∧ ds.Nodup ∧ ∀ d ∈ ds, base ≤ d ∧ w.heap[d]? = some (.deferred (some []))
theorem Marks.nil (w : World) (base : Nat) : Marks w base (.tuple #[]) := ⟨[], rfl, List.nodup_nil, by simp⟩
theorem Marks.keep {w w' : World} {base : Nat} {v : Value} {S : Nat → Prop} (h : Marks w base v) (f : Fm S w w') (hS : ∀ i, base ≤ i → w.heap[i]? = some (.deferred (some [])) → ¬ S i) : Marks w' base v := by
  obtain ⟨ds, rfl, hn, h⟩ := h
  exact ⟨ds, rfl, hn, fun d hd => ⟨(h d hd).1, f.keep (h d hd).2 (hS d (h d hd).1 (h d hd).2)⟩⟩
theorem Marks.push {w : World} {base D : Nat} {v : Value} (h : Marks w base v) (hb : base ≤ D) (hD : w.heap[D]? = some (.deferred (some []))) (hne : ∀ ds, v = encD ds → D ∉ ds) : Marks w base (pushD D v) := by
  obtain ⟨ds, rfl, hn, h⟩ := h
  refine ⟨D :: ds, by simp only [pushD, dfOf_encD], List.nodup_cons.2 ⟨hne ds rfl, hn⟩, fun d hd => ?_⟩
  rcases List.mem_cons.1 hd with rfl | hd
  · exact ⟨hb, hD⟩
  · exact h d hd
/-- All marks lie below a place. -/
theorem Marks.lt {w : World} {base : Nat} {v : Value} (h : Marks w base v) : ∀ ds, v = encD ds → ∀ d ∈ ds, d < w.heap.size := by
  obtain ⟨ds, rfl, hn, h⟩ := h
  intro ds' he d hd
  have : ds' = ds := by have := congrArg dfOf he; rw [dfOf_encD, dfOf_encD] at this; exact this.symm
  subst this
  exact lt_of_blk (h d hd).2
theorem Marks.leave {w : World} {base : Nat} {v : Value} {K : World → Prop} (h : Marks w base v) (k : ∀ w', Fm (fun i => base ≤ i ∧ w.heap[i]? = some (.deferred (some []))) w w' → K w') : leaveC v w K := by
  obtain ⟨ds, rfl, hn, h⟩ := h
  unfold leaveC
  rw [dfOf_encD]
  cases ds with
  | nil => exact k w (Fm.refl _ _)
  | cons D ds => exact ⟨fun d hd => (h d hd).2, hn, k _ ((turnD_fm (D :: ds) w).mono fun i _ hi => h i hi)⟩
/-- What a round that goes on keeps: all that there was, and all cells, but the blocks of S. -/
def KpC (B : Nat) (S : Nat → Prop) (W W' : World) : Prop := (∀ i o, ¬ S i → (i < B ∨ o.isCells = true ∨ o.isWalk = true) → W.heap[i]? = some o → W'.heap[i]? = some o) ∧ W.heap.size ≤ W'.heap.size
theorem KpC.t {Bd : Nat} {S : Nat → Prop} (A B C : World) (h : KpC Bd S A B) (k : KpC Bd S B C) : KpC Bd S A C :=
  ⟨fun i o hi hb ho => k.1 i o hi hb (h.1 i o hi hb ho), Nat.le_trans h.2 k.2⟩
theorem KpC.b {S : Nat → Prop} {B : Nat} (W : World) (l : Nat) (o o' : Obj) (hl : B ≤ l) (ho : W.heap[l]? = some o) (hc : o.isCells = false) (hw : o.isWalk = false) : KpC B S W (W.putObj l o') := by
  refine ⟨fun i x _ hb hx => ?_, by simp [World.putObj]⟩
  rw [World.putObj_heap_other (k := i) (r := l) (by rintro rfl; rw [ho] at hx; cases hx; rcases hb with h | h | h; omega; rw [hc] at h; cases h; rw [hw] at h; cases h)]; exact hx
theorem KpC.fm {B : Nat} {S S' : Nat → Prop} {W W' : World} (h : Fm S' W W') (hS : ∀ i, i < W.heap.size → S' i → S i) : KpC B S W W' :=
  ⟨fun i _ hi _ ho => h.keep ho fun hs => hi (hS i (lt_of_blk ho) hs), h.size⟩
theorem KpC.cells {B : Nat} {S : Nat → Prop} {W W' : World} (h : KpC B S W W') {i : Nat} {c : Array Value} {t : TypeId} {f : Nat × Nat} (hi : ¬ S i) (ho : W.heap[i]? = some (.cells c t f)) : W'.heap[i]? = some (.cells c t f) := h.1 i _ hi (.inr (.inl rfl)) ho
theorem Fm.row_below {S : Nat → Prop} {w W W' : World} {row : Option Nat} (h : Fm S w W) (hg : W.grownBy W' row) {B : Nat} (hr : ∀ r, row = some r → B ≤ r ∧ ∃ o : Obj, W.heap[r]? = some o ∧ o.isCells = false) (hB : w.heap.size ≤ B) : Fm S w W' :=
  h.trans' (row_fm hg) fun i hi e => by have := (hr i e).1; omega
end Go.Proofs.YtipikchkbmgloaaDoor.VC
/- The law's few: at most twenty messages of at most two thousand bytes, each with bytes of its own.  Conditions: the messages may be read. -/
namespace Go.Proofs.YtipikchkbmgloaaDoor
set_option linter.unusedSimpArgs false
set_option linter.unusedVariables false
open Go Go.RowKit VC
variable {w : World}
theorem own_down {base base' e size n : Nat} {s : Value} {xs : List Value} (h : w.ownsRow base e size s n xs) (hb : base' ≤ base) : w.ownsRow base' e size s n xs := by
  refine ⟨h.1, h.2.imp id ?_⟩
  rintro ⟨g, cap, cur, h1, h2, h3⟩
  exact ⟨g, cap, cur, h1, Nat.le_trans hb h2, h3⟩
theorem own_setS {base e size n j : Nat} {s x : Value} {xs : List Value} {KK : World → Prop} (h : w.ownsRow base e size s n xs) (hj : j < n * size) (hx : x.oneCell' = true) :
    ∃ g c, s = .slice (some ⟨g, 0, none⟩) n c ∧ base ≤ g ∧ ((∀ w', w'.ownsRow base e size s n (xs.set j x) → Fm (fun i => i = g) w w' → KK w') → stC w ⟨g, j, none⟩ [x] KK) := by
  have hl := h.1
  rcases h.2 with ⟨rfl, rfl⟩ | ⟨g, cap, cur, rfl, hg, hb, hn, hc, hs, ht⟩
  · omega
  · refine ⟨g, cap, rfl, hg, fun kk => ?_⟩
    have hjc : j < cur.size := by
      have h1 := congrArg List.length ht
      rw [List.length_take, hl] at h1
      simp at h1
      omega
    refine stC_one hb hjc hx fun w' hw hf => kk w' ⟨by simpa using hl, .inr ⟨g, cap, _, rfl, hg, hw, hn, hc, by simpa using hs, ?_⟩⟩ hf
    rw [← ht, Array.toList_setIfInBounds, List.take_set]
theorem flat_set {α : Type} {f : α → List Value} {k r : Nat} {x' : α} {v : Value} (hf : ∀ x, (f x).length = k) (hr : r < k) : ∀ (L : List α) (j : Nat) (x : α), L[j]? = some x → f x' = (f x).set r v → (L.flatMap f).set (j * k + r) v = (L.set j x').flatMap f := by
  intro L
  induction L with
  | nil => intro j x h; simp at h
  | cons a L ih =>
    intro j x h he
    cases j with
    | zero =>
      simp at h; subst h
      rw [List.flatMap_cons, List.set_append_left _ _ (by rw [hf]; omega), List.set_cons_zero, List.flatMap_cons, he, Nat.zero_mul, Nat.zero_add]
    | succ j =>
      rw [List.flatMap_cons, List.set_append_right _ _ (by rw [hf, Nat.succ_mul]; omega), List.set_cons_succ, List.flatMap_cons, hf, show (j + 1) * k + r - k = j * k + r by rw [Nat.succ_mul]; omega, ih j x (by simpa using h) he]
theorem zip_fst {α β : Type} : ∀ (Z : List (α × β)), (Z.map (·.1)).zip (Z.map (·.2)) = Z := by
  intro Z
  induction Z with
  | nil => rfl
  | cons z Z ih => simp [ih]
/-- The first j are cut. -/
def cutTo (k j : Nat) (l : List Msg) : List Msg := (l.take j).map (cut k) ++ l.drop j
theorem cutTo_set {k j : Nat} {l : List Msg} {m : Msg} (h : l[j]? = some m) : (cutTo k j l).set j (cut k m) = cutTo k (j + 1) l := by
  have hj := (List.getElem?_eq_some_iff.1 h).1
  unfold cutTo
  rw [List.set_append_right _ _ (by simp; omega), List.take_add_one, h, List.drop_eq_getElem_cons hj]
  simp only [List.length_map, List.length_take, Nat.min_eq_left (Nat.le_of_lt hj), Nat.sub_self, List.set_cons_zero, Option.toList_some, List.map_append, List.map_cons, List.map_nil, List.append_assoc, List.cons_append, List.nil_append]
theorem cutTo_at {k j i : Nat} {l : List Msg} (hi : j ≤ i) : (cutTo k j l)[i]? = l[i]? := by
  unfold cutTo
  by_cases h : j ≤ l.length
  · rw [List.getElem?_append_right (by simp; omega)]
    simp only [List.length_map, List.length_take, List.getElem?_drop]
    congr 1; omega
  · rw [List.drop_of_length_le (by omega), List.append_nil, List.getElem?_eq_none (by simp; omega), List.getElem?_eq_none (by omega)]
theorem app_rowsC {base N : Nat} {s : Value} {p : Option Addr} {l : List Msg} {n c : Nat} {KK : Value → World → Prop} (hn : n = l.length) (hown : w.ownsRow base 53 23 s 0 []) (hm : MsgsAt w N p l) (hN : N ≤ base) (hb : base ≤ w.heap.size) (hl : l.length ≤ 1000)
    (kk : ∀ v' w' (qs : List (Option Addr × Nat)), qs.length = l.length → w'.ownsRow base 53 23 v' l.length ((l.zip qs).flatMap fun x => msgC x.1 x.2.1 x.2.2) →
      (∀ (j : Nat) (m : Msg) (q : Option Addr × Nat), l[j]? = some m → qs[j]? = some q → BytesAt w' q.1 m.bytes ∧ (∀ ad, q.1 = some ad → m.bytes ≠ [] → ad.block < N) ∧ ∃ a, p = some a ∧ cellsAt w (a.add (j * 23)) 23 = some (msgC m q.1 q.2)) → Fm (fun i => s.ownBlock = some i) w w' → KK v' w') :
    runs Tryd.prog (Builtin.append_ #[24, 24] 24 #[s, .slice p n c]) w KK := by
  subst hn
  obtain ⟨qs, hql, hq⟩ := hm.qs
  have hsN : ∀ i, s.ownBlock = some i → N ≤ i := fun i hi => by have := (own_block hown hi).1; omega
  cases p with
  | none =>
    have : l = [] := by
      cases l with
      | nil => rfl
      | cons m l => obtain ⟨ad, q, cq, e, _⟩ := hm 0 m rfl; cases e
    subst this
    obtain ⟨b, cb, rfl, -, -⟩ := own_readS hown
    exact appendS_none (by rw [row24]) row53 (Nat.zero_le _) (kk _ _ [] rfl hown (fun j m q h => by simp at h) (Fm.refl _ _))
  | some a =>
    refine appendS_at (news := (l.zip qs).flatMap fun x => msgC x.1 x.2.1 x.2.2) (by rw [row24]) row53 rfl (by omega) hown ?_ (fun i v hv => ?_) (fun u hu => ?_) hb (by simp only [maxLen]; omega) (by omega) fun v' w' hv' hf' => ?_
    · rw [flat_len (k := 23) (fun _ => rfl), List.length_zip, hql]; simp
    · obtain ⟨j, r, x, rfl, hr, hx, hv⟩ := flat_at (k := 23) (fun _ => rfl) _ _ _ hv
      rw [List.getElem?_zip_eq_some] at hx
      obtain ⟨ad, e, hc, -⟩ := hq j x.1 x.2 hx.1 hx.2
      cases e
      have := (cellsAt_length hc).2 r v hv
      rw [add_add] at this; exact this
    · obtain ⟨x, _, hu⟩ := List.mem_flatMap.1 hu
      exact msgC_one u hu
    · rw [Nat.zero_add] at hv'
      refine kk v' w' qs hql hv' (fun j m q hj hq' => ?_) hf'
      obtain ⟨ad, e, hc, hb1, hb2⟩ := hq j m q hj hq'
      exact ⟨hb1.keepN hf' fun ad' e' hne hs => by have := hsN _ hs; have := hb2 ad' e' hne; omega, hb2, ad, e, hc⟩
set_option maxRecDepth 20000 in
set_option maxHeartbeats 2000000 in
theorem few9_c {ms : List Msg} {p : Option Addr} {c : Nat} (hin : In w p ms) (hnc : ms.length ≤ c) :
    callV Tryd.prog 9 [.slice p ms.length c] w fun v w' => OwnMsgs w' w.heap.size v (fewM ms) ∧ Fm none' w w' := by
  refine vc9 p ms.length c w _ ?_
  refine buildS_none (by rw [row24]) row53 fun s w1 ho1 hf1 => ?_
  obtain ⟨ps, cs, rfl, -, -⟩ := own_readS ho1
  simp only [vcs, eqV, nilV, Option.map_some, Nat.mul_one, implies_true, true_and, and_true, and_self]
  obtain ⟨n, hn⟩ : ∃ n, n = min ms.length 20 := ⟨_, rfl⟩
  rw [show min (ms.length : Int) 20 = (n : Int) by omega]
  refine sliceAtS_hi (by rw [row24]) row53 (by omega) (by omega) ?_
  simp only [vcs, eqV, nilV, Option.map_some, Nat.mul_one, implies_true, true_and, and_true, and_self, Int.toNat_natCast]
  have hml : (ms.take n).length = n := by rw [List.length_take]; omega
  have hin1 : MsgsAt w1 w.heap.size _ (ms.take n) := ((hin.rd.keep hf1 fun _ _ => id).take n c)
  refine app_rowsC hml.symm ho1 hin1 (Nat.le_refl _) hf1.size (by omega) fun v11 w11 qs hql hr11 hq11 hf11 => ?_
  obtain ⟨o, d, rfl, -, -⟩ := own_readS hr11
  have hF11 : Fm none' w w11 := hf1.trans' hf11 fun i hi e => by have := (own_block ho1 e).1; omega
  simp only [vcs, eqV, nilV, Option.map_some, Nat.mul_one, implies_true, true_and, and_true, and_self, hml]
  rw [hml] at hr11 hql
  obtain ⟨l, hl⟩ : ∃ l, l = ms.take n := ⟨_, rfl⟩
  rw [← hl] at hml hr11 hq11
  have hcap : ∀ (j : Nat) (m : Msg) (q : Option Addr × Nat), l[j]? = some m → qs[j]? = some q → m.bytes.length ≤ q.2 := by
    intro j m q hj hq
    obtain ⟨-, -, a, ha, hc⟩ := hq11 j m q hj hq
    have hmj : ms[j]? = some m := by
      rw [hl, List.getElem?_take] at hj
      split at hj
      · exact hj
      · cases hj
    obtain ⟨ad, q0, cq0, rfl, -⟩ := hin.rd j m hmj
    split at ha
    · rename_i h0
      have := (List.getElem?_eq_some_iff.1 hmj).1
      omega
    · cases ha
      rw [add0] at hc
      refine hin.cap j m q.1 q.2 ad hmj rfl ?_
      have := MsgsAt.cells hin.rd hf1 (fun _ _ => id) hmj rfl
      rw [this] at hc; exact hc
  have hfew : fewM ms = cutTo 2000 n l := by
    unfold fewM cutTo
    rw [hl, List.take_take, Nat.min_self, List.drop_of_length_le (by rw [List.length_take]; omega), List.append_nil]
    by_cases h : ms.length ≤ 20
    · rw [List.take_of_length_le (by omega), List.take_of_length_le (by omega)]
    · rw [show n = 20 by omega]
  refine ⟨fun u w' => ∃ (j : Nat) (Z : List (Msg × Option Addr × Nat)), j ≤ n ∧ u 3 = .int .i64 j ∧ Z.length = n ∧ Z.map (·.1) = cutTo 2000 j l ∧ w'.ownsRow w.heap.size 53 23 (.slice o n d) n (Z.flatMap fun x => msgC x.1 x.2.1 x.2.2) ∧
    (∀ (i : Nat) x, i < j → Z[i]? = some x → w'.ownsRow w.heap.size 5 1 (.slice x.2.1 x.1.bytes.length x.2.2) x.1.bytes.length (x.1.bytes.map (Value.int .u8))) ∧
    (∀ (i : Nat) x, j ≤ i → Z[i]? = some x → BytesAt w' x.2.1 x.1.bytes ∧ (∀ ad, x.2.1 = some ad → x.1.bytes ≠ [] → ad.block < w.heap.size) ∧ x.1.bytes.length ≤ x.2.2) ∧ Fm none' w w',
    fun u _ => n - (intOf (u 3)).toNat, ⟨0, l.zip qs, by omega, rfl, by simp [hml, hql], ?_, hr11, by omega, fun i x _ hx => ?_, hF11⟩, ?_⟩
  · rw [List.map_fst_zip (by omega)]; rfl
  · rw [List.getElem?_zip_eq_some] at hx
    exact ⟨(hq11 i x.1 x.2 hx.1 hx.2).1, (hq11 i x.1 x.2 hx.1 hx.2).2.1, hcap i x.1 x.2 hx.1 hx.2⟩
  rintro u w18 ⟨j, Z, hj, h3, hZ, hZm, hown, hbs, hrest, hF⟩
  change u 3 = .int .i64 j at h3
  simp only [h3, vcs, eqV, nilV, Option.map_some, Nat.mul_one, implies_true, true_and, and_true, and_self]
  refine br_dec (fun hjn => ?_) (fun hjn => ?_)
  · obtain ⟨⟨m, q, cq⟩, hx⟩ : ∃ x, Z[j]? = some x := ⟨Z[j]'(by omega), by simp⟩
    obtain ⟨hby, hqb, hle⟩ := hrest j _ (Nat.le_refl _) hx
    simp only at hby hqb hle
    obtain ⟨p', d', hv, hxl, hrd⟩ := own_readS hown
    cases hv
    have hget : (Z.flatMap fun x => msgC x.1 x.2.1 x.2.2)[j * 23 + 22]? = some (.slice q m.bytes.length cq) := by
      rw [flat_get (k := 23) (fun _ => rfl) Z j 22 _ hx (by omega)]; rfl
    obtain ⟨g, rfl, hg, hgo, hc22⟩ := hrd _ _ hget
    refine ⟨fun w' => w'.cell? ⟨g, j * 23 + 22, none⟩ = some (.slice q m.bytes.length cq), hc22, ?_⟩
    have hcd : w18.drew.cell? ⟨g, j * 23 + 22, none⟩ = some (.slice q m.bytes.length cq) := hc22
    simp only [vcs, eqV, nilV, Option.map_some, Nat.mul_one, implies_true, true_and, and_true, and_self, addr_add, Nat.zero_add, Nat.mul_one, Int.toNat_natCast, hcd]
    have hr : ∀ w' : World, w'.cell? ⟨g, j * 23 + 22, none⟩ = some (.slice q m.bytes.length cq) → rd (w'.cell? ⟨g, j * 23 + 22, none⟩) fun v => v = Value.slice q m.bytes.length cq := fun w' hw => rd_of hw rfl
    refine ⟨by omega, fun w' hw => by omega, hr, by omega, fun w' hw => by omega, hr, ?_⟩
    obtain ⟨k, hk⟩ : ∃ k, k = min m.bytes.length 2000 := ⟨_, rfl⟩
    rw [show min (m.bytes.length : Int) 2000 = (k : Int) by omega]
    refine sliceAt_hi (by rw [row25]) row5 (by omega) (by omega) ⟨fun w' _ => sliceAt_hi (by rw [row25]) row5 (by omega) (by omega) ⟨rfl, rfl⟩, ?_⟩
    simp only [vcs, eqV, nilV, Option.map_some, Nat.mul_one, implies_true, true_and, and_true, and_self, Int.toNat_natCast]
    refine build_none (by rw [row25]) row5 fun s w77 ho77 hs77 hf77 => ?_
    obtain ⟨ps, cs, rfl, -⟩ := own_read ho77
    simp only [vcs, eqV, nilV, Option.map_some, Nat.mul_one, implies_true, true_and, and_true, and_self]
    have hF77 : Fm none' w18 w77 := (Fm.drew w18).trans hf77
    refine ⟨hF77.cell hc22 id, ?_⟩
    have hby77 := ((hby.keep hF77 fun _ _ => id).take k).zero cq
    have hkl : (m.bytes.take k).length = k := by rw [List.length_take]; omega
    refine append_b (by rw [row25]) row5 rfl ho77 hkl.symm (fun i y hi => hby77 i y hi) hF77.size (by simp only [maxLen]; omega) (by omega) fun v82 w82 ho82 hf82 hblk => ?_
    rw [List.nil_append, Nat.zero_add] at ho82
    obtain ⟨p82, c82, rfl, -⟩ := own_read ho82
    simp only [vcs, eqV, nilV, Option.map_some, Nat.mul_one, implies_true, true_and, and_true, and_self]
    have hs18 : w18.drew.heap.size = w18.heap.size := rfl
    have hnew : ∀ i, (Value.slice p82 k c82).ownBlock = some i → w18.heap.size ≤ i := fun i hi => by
      rcases hblk with e | e
      · rw [e] at hi; have := (own_block ho77 hi).1; omega
      · rw [e] at hi; cases hi; have := hF77.size; omega
    have hfr : ∀ i, (Value.slice ps 0 cs).ownBlock = some i → w18.heap.size ≤ i := fun i hi => by have := (own_block ho77 hi).1; omega
    have hF82 : Fm none' w18 w82 := hF77.trans' hf82 fun i hi e => by have := hfr i e; omega
    refine ⟨hF82.cell hc22 id, by omega, ?_⟩
    have ho82' : w82.ownsRow w.heap.size 5 1 (.slice p82 k c82) k ((m.bytes.take k).map (Value.int .u8)) := own_down ho82 (by have := hF.size; omega)
    obtain ⟨g2, c2, e2, -, hst⟩ := own_setS (x := Value.slice p82 k c82) (hF82.owns hown fun _ _ => id) (j := j * 23 + 22) (by omega) rfl
    cases e2
    refine hst fun w87 ho87 hf87 => ?_
    rw [w64 (by omega)]
    have hgl : g < w18.heap.size := by
      obtain ⟨_, cur, hc⟩ := own_block hown (i := g) rfl
      exact lt_of_blk hc
    have h53 : ∀ {s : Value} {n : Nat} {xs : List Value}, w18.ownsRow w.heap.size 5 1 s n xs → ∀ i, s.ownBlock = some i → ¬ i = g := fun h i hi e => by
      obtain ⟨_, cur, hc⟩ := own_block h hi
      obtain ⟨_, cur', hc'⟩ := own_block hown (i := g) rfl
      rw [e, hc'] at hc; cases hc
    have hF87 : Fm none' w w87 := (hF.trans hF82).trans' hf87 fun i hi e => by omega
    have hZj : ∀ (i : Nat) x, (Z.set j (cut 2000 m, p82, c82))[i]? = some x → (i = j ∧ x = (cut 2000 m, p82, c82)) ∨ (i ≠ j ∧ Z[i]? = some x) := by
      intro i x hx'
      rw [List.getElem?_set] at hx'
      split at hx'
      · rename_i hij
        split at hx'
        · exact .inl ⟨hij.symm, (Option.some.inj hx').symm⟩
        · cases hx'
      · rename_i hij
        exact .inr ⟨fun e => hij e.symm, hx'⟩
    have hck : (cut 2000 m).bytes = m.bytes.take k := by
      unfold cut
      by_cases h : m.bytes.length ≤ 2000
      · simp only; rw [List.take_of_length_le (by omega), List.take_of_length_le (by omega)]
      · rw [show k = 2000 by omega]
    refine ⟨⟨j + 1, Z.set j (cut 2000 m, p82, c82), by omega, rfl, by rw [List.length_set, hZ], ?_, ?_, fun i x hi hx' => ?_, fun i x hi hx' => ?_, hF87⟩, ?_⟩
    · rw [List.map_set, hZm]
      refine cutTo_set ?_
      rw [← cutTo_at (k := 2000) (Nat.le_refl j), ← hZm, List.getElem?_map, hx]; rfl
    · rw [flat_set (k := 23) (fun _ => rfl) (by omega) Z j _ hx (x' := (cut 2000 m, p82, c82)) ?_] at ho87
      · exact ho87
      · show msgC (cut 2000 m) p82 c82 = (msgC m q cq).set 22 (.slice p82 k c82)
        unfold msgC
        rw [hck, hkl]
        rfl
    · rcases hZj i x hx' with ⟨rfl, rfl⟩ | ⟨hne, hx'⟩
      · simp only
        rw [hck, hkl]
        refine hf87.owns ho82' fun i hi e => ?_
        have := hnew i hi; omega
      · exact hf87.owns (hF82.owns (hbs i x (by omega) hx') fun _ _ => id) fun b hb => h53 (hbs i x (by omega) hx') b hb
    · rcases hZj i x hx' with ⟨rfl, rfl⟩ | ⟨hne, hx'⟩
      · omega
      · obtain ⟨h1, h2, h4⟩ := hrest i x (by omega) hx'
        exact ⟨(h1.keep hF82 fun _ _ => id).keepN hf87 fun ad e hne e' => by have := h2 ad e hne; omega, h2, h4⟩
    · show n - ((j : Int) + 1).toNat < n - (j : Int).toNat; omega
  · have : j = n := by omega
    subst this
    rw [hfew, ← hZm]
    refine ⟨⟨Z.map (·.2), by simp, ?_, fun i m q hi hq => ?_⟩, hF⟩
    · rw [zip_fst, List.length_map, hZ]; exact hown
    · have hzi : Z[i]? = some (m, q) := by
        rw [List.getElem?_map] at hi hq
        cases hz : Z[i]? with
        | none => rw [hz] at hi; cases hi
        | some z => rw [hz] at hi hq; cases hi; cases hq; rfl
      exact hbs i (m, q) (by have := (List.getElem?_eq_some_iff.1 hzi).1; omega) hzi
end Go.Proofs.YtipikchkbmgloaaDoor
/- crc and the reference's crc, walked.  Conditions: bytes are bytes; the table lies as it is listed. -/
namespace Go.Proofs.YtipikchkbmgloaaDoor
set_option linter.unusedSimpArgs false
set_option linter.unusedVariables false
open Go Go.RowKit VC
variable {w : World}
/-- The table of halves lies in block 0. -/
def Halves (w : World) : Prop := ∀ i, i < 16 → w.cell? ⟨0, i, none⟩ = some (.int .u16 (crcT.getD i 0 : Nat))
theorem Halves.keep {w w' : World} {S : Nat → Prop} (h : Halves w) (f : Fm S w w') (h0 : ¬ S 0) : Halves w' := fun i hi => f.cell (h i hi) h0
theorem w8 {n : Int} (h : 0 ≤ n ∧ n < 256) : IntKind.u8.wrap n = n := by simp only [IntKind.wrap, IntKind.bits, IntKind.signed]; simp; omega
theorem w16 {n : Int} (h : 0 ≤ n ∧ n < 65536) : IntKind.u16.wrap n = n := by simp only [IntKind.wrap, IntKind.bits, IntKind.signed]; simp; omega
theorem w16m (n : Nat) : IntKind.u16.wrap (n : Int) = ((n % 65536 : Nat) : Int) := by simp only [IntKind.wrap, IntKind.bits, IntKind.signed]; simp
theorem w32 {n : Int} (h : 0 ≤ n ∧ n < 4294967296) : IntKind.u32.wrap n = n := by simp only [IntKind.wrap, IntKind.bits, IntKind.signed]; simp; omega
theorem xor8 {a b : Nat} (ha : a < 256) (hb : b < 256) : xorI .u8 (a : Int) (b : Int) = ((a ^^^ b : Nat) : Int) := by
  unfold xorI
  have : ((BitVec.ofInt IntKind.u8.bits (a : Int)) ^^^ (BitVec.ofInt IntKind.u8.bits (b : Int))).toNat = a ^^^ b := by
    rw [BitVec.toNat_xor, BitVec.ofInt_natCast, BitVec.ofInt_natCast, BitVec.toNat_ofNat, BitVec.toNat_ofNat, show IntKind.u8.bits = 8 from rfl, Nat.mod_eq_of_lt (by omega), Nat.mod_eq_of_lt (by omega)]
  rw [this, w8]
  have := Nat.xor_lt_two_pow (n := 8) ha hb
  omega
theorem xorI16 {a b : Nat} (ha : a < 65536) (hb : b < 65536) : xorI .u16 (a : Int) (b : Int) = ((a ^^^ b : Nat) : Int) := by
  unfold xorI
  have : ((BitVec.ofInt IntKind.u16.bits (a : Int)) ^^^ (BitVec.ofInt IntKind.u16.bits (b : Int))).toNat = a ^^^ b := by
    rw [BitVec.toNat_xor, BitVec.ofInt_natCast, BitVec.ofInt_natCast, BitVec.toNat_ofNat, BitVec.toNat_ofNat, show IntKind.u16.bits = 16 from rfl, Nat.mod_eq_of_lt (by omega), Nat.mod_eq_of_lt (by omega)]
  rw [this, w16]
  have := Nat.xor_lt_two_pow (n := 16) ha hb
  omega
theorem and15 {y : Nat} (hy : y < 256) : andI .u8 (y : Int) 15 = ((y % 16 : Nat) : Int) := by
  have : ∀ y : Fin 256, andI .u8 (y.val : Int) 15 = ((y.val % 16 : Nat) : Int) := by decide +kernel
  exact this ⟨y, hy⟩
theorem fdivN (a b : Nat) : Int.fdiv (a : Int) (b : Int) = ((a / b : Nat) : Int) := by
  rw [Int.fdiv_eq_ediv_of_nonneg _ (by omega)]; omega
/-- The state behind j halves of y. -/
def halfS (s y j : Nat) : Nat := match j with | 0 => s | 1 => nib s (y / 16) | _ => byteS s y
theorem crcF_snoc (s : Nat) (ys : List Int) (y : Int) : crcF s (ys ++ [y]) = byteS (crcF s ys) y.toNat := by simp [crcF]
set_option maxRecDepth 20000 in
set_option maxHeartbeats 1000000 in
theorem more49_c {s : Nat} {ys : List Int} {p : Option Addr} {c : Nat} (hH : Halves w) (hs : s < 65536) (hb : BytesAt w p ys) (hy : ∀ y ∈ ys, 0 ≤ y ∧ y < 256) (hl : ys.length ≤ 1000000) :
    callV Tryd.prog 49 [.int .u16 s, .slice p ys.length c] w fun v w' => v = .int .u16 (crcF s ys : Nat) ∧ w' = w := by
  refine vc49 s p ys.length c w _ ?_
  refine ⟨fun u w' => ∃ j : Nat, j ≤ ys.length ∧ u 11 = .int .i64 j ∧ u 0 = .int .u16 (crcF s (ys.take j) : Nat) ∧ w' = w, fun u _ => ys.length - (intOf (u 11)).toNat, ⟨0, by omega, rfl, rfl, rfl⟩, ?_⟩
  rintro u w3 ⟨j, hj, h11, h0, rfl⟩
  change u 11 = .int .i64 j at h11
  change u 0 = _ at h0
  simp only [h11, h0, vcs, eqV, nilV, Option.map_some, Nat.mul_one, implies_true, true_and, and_true, and_self]
  refine br_dec (fun hjn => ?_) (fun hjn => ?_)
  · obtain ⟨y, hyj⟩ : ∃ y, ys[j]? = some y := ⟨ys[j]'(by omega), by simp⟩
    obtain ⟨ad, rfl, hc⟩ := hb j y hyj
    have hyr := hy y (List.mem_of_getElem? hyj)
    obtain ⟨k, rfl⟩ : ∃ k : Nat, y = k := ⟨y.toNat, by omega⟩
    have hst : crcF s (ys.take j) < 65536 := crcF_lt _ _ hs fun z hz => hy z (List.mem_of_mem_take hz)
    have htk : crcF s (ys.take (j + 1)) = byteS (crcF s (ys.take j)) k := by rw [List.take_add_one, hyj]; exact crcF_snoc _ _ _
    generalize crcF s (ys.take j) = t at hst htk h0 ⊢
    simp only [Int.toNat_natCast, Nat.mul_one, hc, vcs, eqV, nilV, Option.map_some, Nat.mul_one, implies_true, true_and, and_true, and_self]
    refine ⟨by omega, ?_⟩
    have e1 : Int.fdiv (k : Int) 16 = ((k / 16 : Nat) : Int) := fdivN k 16
    rw [e1, and15 (by omega)]
    refine ⟨fun u w' => ∃ i : Nat, i ≤ 2 ∧ u 20 = .int .i64 i ∧ u 0 = .int .u16 (halfS t k i : Nat) ∧ w' = w3, fun u _ => 2 - (intOf (u 20)).toNat, ⟨0, by omega, rfl, rfl, rfl⟩, ?_⟩
    rintro u' w15 ⟨i, hi, h20, h0', rfl⟩
    change u' 20 = .int .i64 i at h20
    change u' 0 = _ at h0'
    simp only [h20, h0', vcs, eqV, nilV, Option.map_some, Nat.mul_one, implies_true, true_and, and_true, and_self]
    refine br_dec (fun hi2 => ?_) (fun hi2 => ?_)
    · obtain ⟨h, hh, hq, hn, hg⟩ : ∃ h : Nat, h < 16 ∧ halfS t k i < 65536 ∧ halfS t k (i + 1) = nib (halfS t k i) h ∧ [Value.int .u8 ((k / 16 : Nat) : Int), Value.int .u8 ((k % 16 : Nat) : Int)][i]? = some (.int .u8 (h : Nat)) := by
        match i, (show i < 2 by omega) with
        | 0, _ => exact ⟨k / 16, by omega, hst, rfl, rfl⟩
        | 1, _ => exact ⟨k % 16, by omega, nib_lt _ _ hst (by omega), rfl, rfl⟩
      generalize halfS t k i = q at hq hn ⊢
      simp only [Int.toNat_natCast, Nat.mul_one, hg, vcs, eqV, nilV, Option.map_some, Nat.mul_one, implies_true, true_and, and_true, and_self]
      have e2 : Int.fdiv (q : Int) 4096 = ((q / 4096 : Nat) : Int) := fdivN q 4096
      have e3 : IntKind.u8.wrap ((q / 4096 : Nat) : Int) = ((q / 4096 : Nat) : Int) := w8 (by omega)
      have e4 : xorI .u8 ((q / 4096 : Nat) : Int) (h : Int) = ((q / 4096 ^^^ h : Nat) : Int) := xor8 (by omega) (by omega)
      have hx := xor16 (a := q / 4096) (b := h) (by omega) hh
      have e5 : IntKind.u16.wrap ((q : Int) * 16) = ((q * 16 % 65536 : Nat) : Int) := by rw [show (q : Int) * 16 = ((q * 16 : Nat) : Int) by omega, w16m]
      simp only [e2, e3, e4, e5, Int.toNat_natCast, Nat.mul_one, addr_add, Nat.zero_add, hH _ hx, vcs, eqV, nilV, Option.map_some, Nat.mul_one, implies_true, true_and, and_true, and_self]
      rw [xorI16 (by omega) (crcT_lt _ hx), show IntKind.i64.wrap ((i : Int) + 1) = (i : Int) + 1 from w64 (by omega)]
      refine ⟨by omega, by omega, ⟨i + 1, by omega, rfl, ?_, rfl⟩, ?_⟩
      · rw [hn]; rfl
      · show 2 - ((i : Int) + 1).toNat < 2 - (i : Int).toNat; omega
    · have : i = 2 := by omega
      subst this
      rw [show IntKind.i64.wrap ((j : Int) + 1) = (j : Int) + 1 from w64 (by omega)]
      refine ⟨⟨j + 1, by omega, rfl, ?_, rfl⟩, ?_⟩
      · rw [htk]; rfl
      · show ys.length - ((j : Int) + 1).toNat < ys.length - (j : Int).toNat; omega
  · have : j = ys.length := by omega
    subst this
    rw [List.take_length]
theorem sum25_c {ys : List Int} {p : Option Addr} {c : Nat} (hH : Halves w) (hb : BytesAt w p ys) (hy : ∀ y ∈ ys, 0 ≤ y ∧ y < 256) (hl : ys.length ≤ 1000000) :
    callV Tryd.prog 25 [.slice p ys.length c] w fun v w' => v = .int .u16 (crcF 65535 ys : Nat) ∧ w' = w := by
  refine vc25 p ys.length c w _ ?_
  refine (more49_c (s := 65535) hH (by omega) hb hy hl).mono ?_
  rintro _ w1 ⟨rfl, rfl⟩
  simp only [vcs, eqV, nilV, Option.map_some, Nat.mul_one, implies_true, true_and, and_true, and_self]
def itF : Nat → BitVec 16 → BitVec 16
  | 0, x => x
  | k + 1, x => f1 (itF k x)
theorem f1_toNat (x : BitVec 16) : (f1 x).toNat = if 32768 ≤ x.toNat then (x.toNat * 2 % 65536) ^^^ 4129 else x.toNat * 2 % 65536 := by
  unfold f1
  rw [BitVec.toNat_xor, BitVec.toNat_shiftLeft, Nat.shiftLeft_eq, BitVec.msb_eq_decide]
  by_cases h : 32768 ≤ x.toNat
  · rw [if_pos h, decide_eq_true (by simpa using h)]; rfl
  · rw [if_neg h, decide_eq_false (by simpa using h)]
    simp
set_option maxRecDepth 20000 in
set_option maxHeartbeats 1000000 in
theorem more52_c {s : Nat} {ys : List Int} (hs : s < 65536) (hy : ∀ y ∈ ys, 0 ≤ y ∧ y < 256) (hl : ys.length ≤ 1000000) :
    callV Tryd.prog 52 [.int .u16 s, .string (strOfNums ys)] w fun v w' => v = .int .u16 (crcF s ys : Nat) ∧ w' = w := by
  refine vc52 s (strOfNums ys) w _ ?_
  simp only [strOfNums_size]
  refine ⟨fun u w' => ∃ j : Nat, j ≤ ys.length ∧ u 5 = .int .i64 j ∧ u 0 = .int .u16 (crcF s (ys.take j) : Nat) ∧ w' = w, fun u _ => ys.length - (intOf (u 5)).toNat, ⟨0, by omega, rfl, rfl, rfl⟩, ?_⟩
  rintro u w3 ⟨j, hj, h5, h0, rfl⟩
  change u 5 = .int .i64 j at h5
  change u 0 = _ at h0
  simp only [h5, h0, vcs, eqV, nilV, Option.map_some, Nat.mul_one, implies_true, true_and, and_true, and_self]
  refine br_dec (fun hjn => ?_) (fun hjn => ?_)
  · obtain ⟨y, hyj⟩ : ∃ y, ys[j]? = some y := ⟨ys[j]'(by omega), by simp⟩
    have hyr := hy y (List.mem_of_getElem? hyj)
    obtain ⟨k, rfl⟩ : ∃ k : Nat, y = k := ⟨y.toNat, by omega⟩
    have hst : crcF s (ys.take j) < 65536 := crcF_lt _ _ hs fun z hz => hy z (List.mem_of_mem_take hz)
    have htk : crcF s (ys.take (j + 1)) = byteS (crcF s (ys.take j)) k := by rw [List.take_add_one, hyj]; exact crcF_snoc _ _ _
    generalize crcF s (ys.take j) = t at hst htk h0 ⊢
    refine index_str (by rw [row9]) hy hyj ?_
    simp only [vcs, eqV, nilV, Option.map_some, Nat.mul_one, implies_true, true_and, and_true, and_self]
    have e1 : IntKind.u16.wrap (k : Int) = (k : Int) := w16 (by omega)
    have e2 : IntKind.u16.wrap ((k : Int) * 256) = ((k * 256 : Nat) : Int) := (w16 (by omega)).trans (by omega)
    have hx : t ^^^ k * 256 < 65536 := Nat.xor_lt_two_pow (n := 16) hst (by omega)
    rw [e1, e2, xorI16 hst (by omega)]
    obtain ⟨z, hz⟩ : ∃ z, z = BitVec.ofNat 16 (t ^^^ k * 256) := ⟨_, rfl⟩
    have hz0 : t ^^^ k * 256 = z.toNat := by rw [hz, BitVec.toNat_ofNat, Nat.mod_eq_of_lt hx]
    rw [hz0]
    refine ⟨fun u w' => ∃ i : Nat, i ≤ 8 ∧ u 6 = .int .i64 i ∧ u 0 = .int .u16 ((itF i z).toNat : Nat) ∧ w' = w3, fun u _ => 8 - (intOf (u 6)).toNat, ⟨0, by omega, rfl, rfl, rfl⟩, ?_⟩
    rintro u' w14 ⟨i, hi, h6, h0', rfl⟩
    change u' 6 = .int .i64 i at h6
    change u' 0 = _ at h0'
    simp only [h6, h0', vcs, eqV, nilV, Option.map_some, Nat.mul_one, implies_true, true_and, and_true, and_self]
    refine br_dec (fun hi8 => ?_) (fun hi8 => ?_)
    · have hq := f1_toNat (itF i z)
      have hql := (itF i z).isLt
      have hn : itF (i + 1) z = f1 (itF i z) := rfl
      rw [← hn] at hq
      generalize (itF i z).toNat = q at hq hql ⊢
      have e3 : IntKind.u16.wrap ((q : Int) * 2) = ((q * 2 % 65536 : Nat) : Int) := by rw [show (q : Int) * 2 = ((q * 2 : Nat) : Int) by omega, w16m]
      rw [e3, show IntKind.i64.wrap ((i : Int) + 1) = (i : Int) + 1 from w64 (by omega)]
      refine br_dec (fun h => ?_) (fun h => ?_)
      · rw [if_pos (by omega)] at hq
        rw [show (4129 : Int) = ((4129 : Nat) : Int) from rfl, xorI16 (by omega) (by omega), ← hq]
        refine ⟨⟨i + 1, by omega, rfl, rfl, rfl⟩, ?_⟩
        show 8 - ((i : Int) + 1).toNat < 8 - (i : Int).toNat; omega
      · rw [if_neg (by omega)] at hq
        rw [← hq]
        refine ⟨⟨i + 1, by omega, rfl, rfl, rfl⟩, ?_⟩
        show 8 - ((i : Int) + 1).toNat < 8 - (i : Int).toNat; omega
    · have : i = 8 := by omega
      subst this
      rw [show IntKind.i64.wrap ((j : Int) + 1) = (j : Int) + 1 from w64 (by omega)]
      refine ⟨⟨j + 1, by omega, rfl, ?_, rfl⟩, ?_⟩
      · rw [htk, byteS_eq hst (by omega)]
        show Value.int .u16 ((itF 8 z).toNat : Nat) = _
        rw [hz]
        have : BitVec.ofNat 16 (t ^^^ k * 256) = BitVec.ofNat 16 t ^^^ BitVec.ofNat 16 (k * 256) := by
          apply BitVec.eq_of_toNat_eq
          rw [BitVec.toNat_xor, BitVec.toNat_ofNat, BitVec.toNat_ofNat, BitVec.toNat_ofNat, Nat.mod_eq_of_lt (by omega), Nat.mod_eq_of_lt (by omega), Nat.mod_eq_of_lt (by omega)]
        rw [this]
        rfl
      · show ys.length - ((j : Int) + 1).toNat < ys.length - (j : Int).toNat; omega
  · have : j = ys.length := by omega
    subst this
    rw [List.take_length]
theorem sum28_c {ys : List Int} (hy : ∀ y ∈ ys, 0 ≤ y ∧ y < 256) (hl : ys.length ≤ 1000000) :
    callV Tryd.prog 28 [.string (strOfNums ys)] w fun v w' => v = .int .u16 (crcF 65535 ys : Nat) ∧ w' = w := by
  refine vc28 (strOfNums ys) w _ ?_
  refine (more52_c (s := 65535) (by omega) hy hl).mono ?_
  rintro _ w1 ⟨rfl, rfl⟩
  simp only [vcs, eqV, nilV, Option.map_some, Nat.mul_one, implies_true, true_and, and_true, and_self]
end Go.Proofs.YtipikchkbmgloaaDoor
/- Numbers as bytes, the highest first: put, get, two, number.  Conditions: bytes are bytes, rows are owned. -/
namespace Go.Proofs.YtipikchkbmgloaaDoor
set_option linter.unusedSimpArgs false
set_option linter.unusedVariables false
open Go Go.RowKit VC
variable {w : World}
theorem two_pow8 (i : Nat) : (2 : Int) ^ (8 * i) = ((256 ^ i : Nat) : Int) := by
  have h : (2 : Nat) ^ (8 * i) = 256 ^ i := by rw [Nat.pow_mul]
  exact_mod_cast h
/-- A number's m bytes, the highest first. -/
def beB (n m : Nat) : List Int := (List.range m).map fun i => ((n / 256 ^ (m - 1 - i) % 256 : Nat) : Int)
theorem beB_length (n m : Nat) : (beB n m).length = m := by simp [beB]
theorem beB_get {n m j : Nat} (h : j < m) : (beB n m)[j]? = some ((n / 256 ^ (m - 1 - j) % 256 : Nat) : Int) := by
  unfold beB
  rw [List.getElem?_map, List.getElem?_range h]; rfl
theorem beB_r (n m : Nat) : ∀ y ∈ beB n m, 0 ≤ y ∧ y < 256 := by
  intro y hy
  simp only [beB, List.mem_map, List.mem_range] at hy
  obtain ⟨i, _, rfl⟩ := hy
  omega
set_option maxRecDepth 20000 in
set_option maxHeartbeats 1000000 in
theorem put23_c {base n m : Nat} {p : Option Addr} {c : Nat} {xs : List Int} (hn : n < 4294967296) (hm : m ≤ 4) (hown : w.ownsRow base 5 1 (.slice p xs.length c) xs.length (xs.map (Value.int .u8))) (hb : base ≤ w.heap.size) (hl : xs.length ≤ 1000000) :
    callV Tryd.prog 23 [.slice p xs.length c, .int .u32 n, .int .i64 m] w fun v w' => ∃ p' c', v = .slice p' (xs ++ beB n m).length c' ∧ w'.ownsRow base 5 1 (.slice p' (xs ++ beB n m).length c') (xs ++ beB n m).length ((xs ++ beB n m).map (Value.int .u8)) ∧
      ((Value.slice p' (xs ++ beB n m).length c').ownBlock = (Value.slice p xs.length c).ownBlock ∨ ∃ g, (Value.slice p' (xs ++ beB n m).length c').ownBlock = some g ∧ w.heap.size ≤ g) ∧ Fm (fun i => (Value.slice p xs.length c).ownBlock = some i) w w' := by
  refine vc23 p xs.length c n m w _ ?_
  rw [w64 (by omega)]
  refine ⟨fun u w' => ∃ (j : Nat) (p' : Option Addr) (c' : Nat) (ys : List Int), j ≤ m ∧ u 7 = .int .i64 ((m : Int) - 1 - j) ∧ ys = xs ++ (beB n m).take j ∧ u 0 = .slice p' ys.length c' ∧ w'.ownsRow base 5 1 (.slice p' ys.length c') ys.length (ys.map (Value.int .u8)) ∧
    ((Value.slice p' ys.length c').ownBlock = (Value.slice p xs.length c).ownBlock ∨ ∃ g, (Value.slice p' ys.length c').ownBlock = some g ∧ w.heap.size ≤ g) ∧ Fm (fun i => (Value.slice p xs.length c).ownBlock = some i) w w',
    fun u _ => (intOf (u 7) + 1).toNat, ⟨0, p, c, xs, by omega, by simp; rfl, by simp, rfl, hown, .inl rfl, Fm.refl _ _⟩, ?_⟩
  rintro u w3 ⟨j, p', c', ys, hj, h7, hys, h0, ho, hg, hF⟩
  change u 7 = _ at h7
  change u 0 = _ at h0
  simp only [h7, h0, vcs, eqV, nilV, Option.map_some, Nat.mul_one, implies_true, true_and, and_true, and_self]
  have hyl : ys.length = xs.length + j := by rw [hys, List.length_append, List.length_take, beB_length]; omega
  refine br_dec (fun hjm => ?_) (fun hjm => ?_)
  · obtain ⟨i, hi⟩ : ∃ i : Nat, i = m - 1 - j := ⟨_, rfl⟩
    have e1 : (m : Int) - 1 - j = (i : Int) := by omega
    have e2 : IntKind.i64.wrap (8 * (i : Int)) = ((8 * i : Nat) : Int) := (w64 (by omega)).trans (by omega)
    rw [e1, e2]
    simp only [vcs, eqV, nilV, Option.map_some, Nat.mul_one, implies_true, true_and, and_true, and_self]
    have e3 : min (8 * i) IntKind.u32.bits = 8 * i := Nat.min_eq_left (by have : IntKind.u32.bits = 32 := rfl; omega)
    have e4 : Int.fdiv (n : Int) (2 ^ (8 * i)) = ((n / 256 ^ i : Nat) : Int) := by
      rw [two_pow8, fdivN]
    have e5 : IntKind.u8.wrap ((n / 256 ^ i : Nat) : Int) = ((n / 256 ^ i % 256 : Nat) : Int) := by simp only [IntKind.wrap, IntKind.bits, IntKind.signed]; simp
    rw [e3, e4, e5, show IntKind.i64.wrap ((i : Int) - 1) = (i : Int) - 1 from w64 (by omega)]
    refine append_1g (by rw [row25]) row5 rfl rfl ho (Nat.le_trans hb hF.size) (by simp only [maxLen]; omega) (by omega) fun p2 c2 w18 ho18 hf18 hg18 => ?_
    simp only [vcs, eqV, nilV, Option.map_some, Nat.mul_one, implies_true, true_and, and_true, and_self]
    have hel : (beB n m)[j]? = some ((n / 256 ^ i % 256 : Nat) : Int) := by rw [hi]; exact beB_get (by omega)
    refine ⟨⟨j + 1, p2, c2, ys ++ [((n / 256 ^ i % 256 : Nat) : Int)], by omega, ?_, ?_, ?_, ?_, ?_, ?_⟩, ?_⟩
    · show Value.int .i64 ((i : Int) - 1) = _
      congr 1; omega
    · rw [hys, List.take_add_one, hel, Option.toList_some, List.append_assoc]
    · rw [List.length_append]; rfl
    · rw [List.length_append, List.map_append]; exact ho18
    · rw [List.length_append]
      rcases hg18 with e | ⟨g, e, h⟩
      · rcases hg with e' | ⟨g, e', h⟩
        · exact .inl (e.trans e')
        · exact .inr ⟨g, e.trans e', h⟩
      · exact .inr ⟨g, e, Nat.le_trans hF.size h⟩
    · refine hF.trans' hf18 fun b hb' e => ?_
      rcases hg with e' | ⟨g, e', h⟩
      · exact e'.symm.trans e
      · rw [e'] at e; cases e; omega
    · show ((i : Int) - 1 + 1).toNat < ((i : Int) + 1).toNat; omega
  · have : j = m := by omega
    subst this
    rw [List.take_of_length_le (by rw [beB_length]; omega)] at hys
    subst hys
    exact ⟨p', c', rfl, ho, hg, hF⟩
theorem flag24_c (b : Bool) : callV Tryd.prog 24 [.bool b] w fun v w' => v = .int .u32 (if b then 1 else 0) ∧ w' = w := by
  refine vc24 b w _ ?_
  cases b
  · exact ⟨rfl, rfl⟩
  · exact ⟨rfl, rfl⟩
/-- The number of bytes. -/
def valB (ys : List Int) : Nat := ys.foldl (fun n y => n * 256 + y.toNat) 0
theorem valB_snoc (ys : List Int) (y : Int) : valB (ys ++ [y]) = valB ys * 256 + y.toNat := by simp [valB]
theorem valB_lt : ∀ (n : Nat) (ys : List Int), ys.length = n → (∀ y ∈ ys, 0 ≤ y ∧ y < 256) → valB ys < 256 ^ n := by
  intro n
  induction n with
  | zero => intro ys h _; rw [List.length_eq_zero_iff.1 h]; decide
  | succ n ih =>
    intro ys h hy
    obtain ⟨l, y, rfl⟩ : ∃ l y, ys = l ++ [y] := ⟨ys.dropLast, ys.getLast (by intro e; rw [e] at h; simp at h), (List.dropLast_concat_getLast _).symm⟩
    rw [valB_snoc]
    have h1 := ih l (by simpa using h) fun z hz => hy z (by simp [hz])
    have h2 := hy y (by simp)
    rw [Nat.pow_succ]
    omega
theorem or32 {a y : Nat} (ha : a * 256 < 4294967296) (hy : y < 256) : orI .u32 ((a * 256 : Nat) : Int) (y : Int) = ((a * 256 + y : Nat) : Int) := by
  unfold orI
  have hor : a * 256 ||| y = a * 256 + y := by
    have := Nat.shiftLeft_add_eq_or_of_lt (i := 8) (b := y) (by omega) a
    rw [Nat.shiftLeft_eq] at this
    exact this.symm
  have : ((BitVec.ofInt IntKind.u32.bits ((a * 256 : Nat) : Int)) ||| (BitVec.ofInt IntKind.u32.bits (y : Int))).toNat = a * 256 + y := by
    rw [BitVec.toNat_or, BitVec.ofInt_natCast, BitVec.ofInt_natCast, BitVec.toNat_ofNat, BitVec.toNat_ofNat, show IntKind.u32.bits = 32 from rfl, Nat.mod_eq_of_lt (by omega), Nat.mod_eq_of_lt (by omega), hor]
  rw [this, w32]
  omega
theorem pow256 {j : Nat} (h : j ≤ 3) : 256 ^ j ≤ 16777216 := by
  match j, h with
  | 0, _ => decide
  | 1, _ => decide
  | 2, _ => decide
  | 3, _ => decide
set_option maxRecDepth 20000 in
theorem get29_c {ys : List Int} {p : Option Addr} {c : Nat} (hb : BytesAt w p ys) (hy : ∀ y ∈ ys, 0 ≤ y ∧ y < 256) (hl : ys.length ≤ 4) :
    callV Tryd.prog 29 [.slice p ys.length c] w fun v w' => v = .int .u32 (valB ys : Nat) ∧ w' = w := by
  refine vc29 p ys.length c w _ ?_
  refine ⟨fun u w' => ∃ j : Nat, j ≤ ys.length ∧ u 7 = .int .i64 j ∧ u 2 = .int .u32 (valB (ys.take j) : Nat) ∧ w' = w, fun u _ => ys.length - (intOf (u 7)).toNat, ⟨0, by omega, rfl, rfl, rfl⟩, ?_⟩
  rintro u w3 ⟨j, hj, h7, h2, rfl⟩
  change u 7 = .int .i64 j at h7
  change u 2 = _ at h2
  simp only [h7, h2, vcs, eqV, nilV, Option.map_some, Nat.mul_one, implies_true, true_and, and_true, and_self]
  refine br_dec (fun hjn => ?_) (fun hjn => ?_)
  · obtain ⟨y, hyj⟩ : ∃ y, ys[j]? = some y := ⟨ys[j]'(by omega), by simp⟩
    obtain ⟨ad, rfl, hc⟩ := hb j y hyj
    have hyr := hy y (List.mem_of_getElem? hyj)
    obtain ⟨k, rfl⟩ : ∃ k : Nat, y = k := ⟨y.toNat, by omega⟩
    have hv := valB_lt j (ys.take j) (by rw [List.length_take]; omega) fun z hz => hy z (List.mem_of_mem_take hz)
    have hp := pow256 (j := j) (by omega)
    have htk : valB (ys.take (j + 1)) = valB (ys.take j) * 256 + k := by rw [List.take_add_one, hyj]; exact valB_snoc _ _
    generalize valB (ys.take j) = t at hv htk h2 ⊢
    simp only [Int.toNat_natCast, Nat.mul_one, hc, vcs, eqV, nilV, Option.map_some, Nat.mul_one, implies_true, true_and, and_true, and_self]
    rw [show IntKind.u32.wrap ((t : Int) * 256) = ((t * 256 : Nat) : Int) from (w32 (by omega)).trans (by omega), show IntKind.u32.wrap (k : Int) = (k : Int) from w32 (by omega), or32 (by omega) (by omega), ← htk,
      show IntKind.i64.wrap ((j : Int) + 1) = (j : Int) + 1 from w64 (by omega)]
    refine ⟨by omega, ⟨j + 1, by omega, rfl, rfl, rfl⟩, ?_⟩
    show ys.length - ((j : Int) + 1).toNat < ys.length - (j : Int).toNat; omega
  · have : j = ys.length := by omega
    subst this
    rw [List.take_length]
set_option maxRecDepth 20000 in
theorem number32_c {ys : List Int} (hy : ∀ y ∈ ys, 0 ≤ y ∧ y < 256) (hl : ys.length ≤ 4) :
    callV Tryd.prog 32 [.string (strOfNums ys)] w fun v w' => v = .int .u32 (valB ys : Nat) ∧ w' = w := by
  refine vc32 (strOfNums ys) w _ ?_
  simp only [strOfNums_size]
  refine ⟨fun u w' => ∃ j : Nat, j ≤ ys.length ∧ u 4 = .int .i64 j ∧ u 3 = .int .u32 (valB (ys.take j) : Nat) ∧ w' = w, fun u _ => ys.length - (intOf (u 4)).toNat, ⟨0, by omega, rfl, rfl, rfl⟩, ?_⟩
  rintro u w3 ⟨j, hj, h4, h3, rfl⟩
  change u 4 = .int .i64 j at h4
  change u 3 = _ at h3
  simp only [h4, h3, vcs, eqV, nilV, Option.map_some, Nat.mul_one, implies_true, true_and, and_true, and_self]
  refine br_dec (fun hjn => ?_) (fun hjn => ?_)
  · obtain ⟨y, hyj⟩ : ∃ y, ys[j]? = some y := ⟨ys[j]'(by omega), by simp⟩
    have hyr := hy y (List.mem_of_getElem? hyj)
    obtain ⟨k, rfl⟩ : ∃ k : Nat, y = k := ⟨y.toNat, by omega⟩
    have hv := valB_lt j (ys.take j) (by rw [List.length_take]; omega) fun z hz => hy z (List.mem_of_mem_take hz)
    have hp := pow256 (j := j) (by omega)
    have htk : valB (ys.take (j + 1)) = valB (ys.take j) * 256 + k := by rw [List.take_add_one, hyj]; exact valB_snoc _ _
    generalize valB (ys.take j) = t at hv htk h3 ⊢
    refine index_str (by rw [row9]) hy hyj ?_
    simp only [vcs, eqV, nilV, Option.map_some, Nat.mul_one, implies_true, true_and, and_true, and_self]
    rw [show IntKind.u32.wrap ((t : Int) * 256) = ((t * 256 : Nat) : Int) from (w32 (by omega)).trans (by omega), show IntKind.u32.wrap (k : Int) = (k : Int) from w32 (by omega), show IntKind.u32.wrap (((t * 256 : Nat) : Int) + (k : Int)) = ((t * 256 + k : Nat) : Int) from (w32 (by omega)).trans (by omega), ← htk,
      show IntKind.i64.wrap ((j : Int) + 1) = (j : Int) + 1 from w64 (by omega)]
    refine ⟨⟨j + 1, by omega, rfl, rfl, rfl⟩, ?_⟩
    show ys.length - ((j : Int) + 1).toNat < ys.length - (j : Int).toNat; omega
  · have : j = ys.length := by omega
    subst this
    rw [List.take_length]
theorem beB_2 (n : Nat) : beB n 2 = [((n / 256 % 256 : Nat) : Int), ((n % 256 : Nat) : Int)] := by
  simp [beB, List.range_succ]
theorem two27_c {n : Nat} (hn : n < 65536) : callV Tryd.prog 27 [.int .i64 n] w fun v w' => v = .string (strOfNums (beB n 2)) ∧ Fm none' w w' := by
  refine vc27 n w _ ?_
  have e1' : IntKind.u8.wrap (IntKind.i64.wrap (Int.tdiv (n : Int) 256)) = ((n / 256 % 256 : Nat) : Int) := by
    rw [Int.tdiv_eq_ediv_of_nonneg (by omega), show (n : Int) / 256 = ((n / 256 : Nat) : Int) by omega, w64 (by omega), w8 (by omega)]
    omega
  have e2 : IntKind.u8.wrap (Int.tmod (n : Int) 256) = ((n % 256 : Nat) : Int) := by
    rw [Int.tmod_eq_emod_of_nonneg (by omega), show (n : Int) % 256 = ((n % 256 : Nat) : Int) by omega, w8 (by omega)]
  simp only [e1', e2]
  refine build_2 (by rw [row25]) row5 rfl rfl rfl fun w1 hb1 hs1 hf1 => ?_
  simp only [vcs, eqV, nilV, Option.map_some, Nat.mul_one, implies_true, true_and, and_true, and_self]
  refine conv_bytes (ys := beB n 2) (by rw [row25]) (by rw [row5]) (by rw [row9]) rfl (fun j y hj => ?_) ?_
  · rw [beB_2] at hj
    refine ⟨_, rfl, ?_⟩
    rw [addr_add, Nat.zero_add]
    match j, hj with
    | 0, hj => cases hj; exact cellOf hb1 rfl
    | 1, hj => cases hj; exact cellOf hb1 rfl
  · simp only [vcs, eqV, nilV, Option.map_some, Nat.mul_one, implies_true, true_and, and_true, and_self]
    exact hf1
end Go.Proofs.YtipikchkbmgloaaDoor
/- The conditions of functions, written out: printed by a small program (VCDev.lean, vcgen.sh).  Conditions: none. -/
namespace Go.Proofs.YtipikchkbmgloaaDoor
set_option linter.unusedSimpArgs false
set_option linter.unusedVariables false
open Go VC
theorem vc10 (a0 : Int) (a1 : Bool) (a2 : Int) (a3 : Int) (a4p : Option Addr) (a4n : Nat) (a4c : Nat) (w : World) (R : Value → World → Prop)
  (h : allocC w (Obj.cells #[Value.int IntKind.u16 a0, Value.bool a1, Value.int IntKind.u16 a2, Value.int IntKind.u32 a3, Value.slice a4p a4n a4c] (32 : Nat)) fun n0 w1 => cutC (fun u2 => rd (World.cell? w1 { block := n0, off := (1 : Nat) : Addr }) fun v3 => isB v3 fun t4 => br (!t4) (rd (World.cell? w1 { block := n0, off := (2 : Nat) : Addr }) fun v5 => isK IntKind.u16 v5 fun i6 => br (decide ((0 : Int) < i6)) (R (Value.tuple #[Value.slice none (0 : Nat) (0 : Nat), Value.int IntKind.i64 (1 : Int)]) w1) (rd (World.cell? w1 { block := n0, off := (3 : Nat) : Addr }) fun v7 => isK IntKind.u32 v7 fun i8 => br (decide ((0 : Int) < i8)) (R (Value.tuple #[Value.slice none (0 : Nat) (0 : Nat), Value.int IntKind.i64 (1 : Int)]) w1) (u2 (alist []) w1))) (u2 (alist []) w1)) fun u9 => ∀ (u10 : Nat → Value) (w11 : World), u9 (alist []) w11 → rd (World.cell? w11 { block := n0, off := (4 : Nat) : Addr }) fun v13 => isSl v13 fun o14 n15 n16 => callV Tryd.prog (22 : Nat) [Value.slice o14 n15 n16] w11 fun v17 w18 => isTup v17 fun l19 => rd l19[(0 : Nat)]? fun v20 => isSl v20 fun o21 n22 n23 => isTup v17 fun l24 => rd l24[(1 : Nat)]? fun v25 => isK IntKind.i64 v25 fun i26 => br (!decide (i26 = (0 : Int))) (R (Value.tuple #[Value.slice none (0 : Nat) (0 : Nat), Value.int IntKind.i64 i26]) w18) (heldC (World.drew w18) fun u27 => (∀ (w28 : World), u27 w28 → Value.pointer (some { block := n0, off := (0 : Nat) : Addr }) = Value.pointer (some { block := n0, off := (0 : Nat) : Addr }) ∧ w28 = w28) ∧ rd (World.cell? (World.drew w18) { block := n0, off := (0 : Nat) : Addr }) fun v30 => (∀ (w31 : World), u27 w31 → rd (World.cell? w31 { block := n0, off := (0 : Nat) : Addr }) fun v33 => v33 = v30 ∧ w31 = w31) ∧ isK IntKind.u16 v30 fun i34 => (∀ (w35 : World), u27 w35 → Value.int IntKind.u32 (IntKind.wrap IntKind.u32 i34) = Value.int IntKind.u32 (IntKind.wrap IntKind.u32 i34) ∧ w35 = w35) ∧ (∀ (w37 : World), u27 w37 → Value.pointer (some { block := n0, off := (1 : Nat) : Addr }) = Value.pointer (some { block := n0, off := (1 : Nat) : Addr }) ∧ w37 = w37) ∧ rd (World.cell? (World.drew w18) { block := n0, off := (1 : Nat) : Addr }) fun v39 => (∀ (w40 : World), u27 w40 → rd (World.cell? w40 { block := n0, off := (1 : Nat) : Addr }) fun v42 => v42 = v39 ∧ w40 = w40) ∧ isB v39 fun t43 => (∀ (w44 : World), u27 w44 → Value.pointer (some { block := n0, off := (2 : Nat) : Addr }) = Value.pointer (some { block := n0, off := (2 : Nat) : Addr }) ∧ w44 = w44) ∧ rd (World.cell? (World.drew w18) { block := n0, off := (2 : Nat) : Addr }) fun v46 => (∀ (w47 : World), u27 w47 → rd (World.cell? w47 { block := n0, off := (2 : Nat) : Addr }) fun v49 => v49 = v46 ∧ w47 = w47) ∧ isK IntKind.u16 v46 fun i50 => (∀ (w51 : World), u27 w51 → Value.int IntKind.u32 (IntKind.wrap IntKind.u32 i50) = Value.int IntKind.u32 (IntKind.wrap IntKind.u32 i50) ∧ w51 = w51) ∧ (∀ (w53 : World), u27 w53 → Value.pointer (some { block := n0, off := (3 : Nat) : Addr }) = Value.pointer (some { block := n0, off := (3 : Nat) : Addr }) ∧ w53 = w53) ∧ rd (World.cell? (World.drew w18) { block := n0, off := (3 : Nat) : Addr }) fun v55 => (∀ (w56 : World), u27 w56 → rd (World.cell? w56 { block := n0, off := (3 : Nat) : Addr }) fun v58 => v58 = v55 ∧ w56 = w56) ∧ isK IntKind.u32 v55 fun i59 => callV Tryd.prog (23 : Nat) [Value.slice none (0 : Nat) (0 : Nat), Value.int IntKind.u32 (IntKind.wrap IntKind.u32 i34), Value.int IntKind.i64 (2 : Int)] (World.drew w18) fun v60 w61 => isSl v60 fun o62 n63 n64 => u27 w61 ∧ callV Tryd.prog (24 : Nat) [Value.bool t43] w61 fun v65 w66 => isK IntKind.u32 v65 fun i67 => u27 w66 ∧ callV Tryd.prog (23 : Nat) [Value.slice o62 n63 n64, Value.int IntKind.u32 i67, Value.int IntKind.i64 (1 : Int)] w66 fun v68 w69 => isSl v68 fun o70 n71 n72 => u27 w69 ∧ callV Tryd.prog (23 : Nat) [Value.slice o70 n71 n72, Value.int IntKind.u32 (IntKind.wrap IntKind.u32 i50), Value.int IntKind.i64 (2 : Int)] w69 fun v73 w74 => isSl v73 fun o75 n76 n77 => u27 w74 ∧ callV Tryd.prog (23 : Nat) [Value.slice o75 n76 n77, Value.int IntKind.u32 i59, Value.int IntKind.i64 (4 : Int)] w74 fun v78 w79 => isSl v78 fun o80 n81 n82 => u27 w79 ∧ (∀ (w83 : World), u27 w83 → Value.slice o80 n81 n82 = Value.slice o80 n81 n82 ∧ w83 = w83) ∧ runs Tryd.prog (Builtin.append_ #[(25 : Nat), (25 : Nat)] (25 : Nat) #[Value.slice o80 n81 n82, Value.slice o21 n22 n23]) w79 fun v85 w86 => isSl v85 fun o87 n88 n89 => callV Tryd.prog (25 : Nat) [Value.slice o87 n88 n89] w86 fun v90 w91 => isK IntKind.u16 v90 fun i92 => callV Tryd.prog (23 : Nat) [Value.slice o87 n88 n89, Value.int IntKind.u32 (IntKind.wrap IntKind.u32 i92), Value.int IntKind.i64 (2 : Int)] w91 fun v93 w94 => isSl v93 fun o95 n96 n97 => br (decide ((1024 : Int) < (↑n96 : Int))) (R (Value.tuple #[Value.slice none (0 : Nat) (0 : Nat), Value.int IntKind.i64 (5 : Int)]) w94) (R (Value.tuple #[Value.slice o95 n96 n97, Value.int IntKind.i64 (0 : Int)]) w94))) :
  callV Tryd.prog 10 [Value.agg #[Value.int IntKind.u16 a0, Value.bool a1, Value.int IntKind.u16 a2, Value.int IntKind.u32 a3, Value.slice a4p a4n a4c]] w R :=
  vc_of hm ⟨fun n => match n with | 3 => true | _ => false, fun n => match n with | 6 => .take 0 (.take 1 (.take 2 (.take 4 (.take 5 (.take 8 (.take 9 (.take 10 (.take 12 (.take 13 (.one 3 (.one 6 (.one 7 (.one 11 (.one 14 (.take 15 (.done)))))))))))))))) | _ => .done, fun n => match n with | 3 => [] | _ => []⟩ Tryd.func10 ent10 (by kernel_rfl) h

theorem vc11 (a0 : Int) (a1 : Bool) (a2 : Int) (a3 : Int) (a4p : Option Addr) (a4n : Nat) (a4c : Nat) (w : World) (R : Value → World → Prop)
  (h : allocC w (Obj.cells #[Value.int IntKind.u16 a0, Value.bool a1, Value.int IntKind.u16 a2, Value.int IntKind.u32 a3, Value.slice a4p a4n a4c] (35 : Nat)) fun n0 w1 => cutC (fun u2 => rd (World.cell? w1 { block := n0, off := (1 : Nat) : Addr }) fun v3 => isB v3 fun t4 => br t4 (u2 (alist [((4 : Nat), Value.string { data := #[(1 : UInt8)] : ByteArray })]) w1) (u2 (alist [((4 : Nat), Value.string { data := #[(0 : UInt8)] : ByteArray })]) w1)) fun u5 => ∀ (u6 : Nat → Value) (w7 : World), u5 (alist [((4 : Nat), u6 (4 : Nat))]) w7 → cutC (fun u9 => rd (World.cell? w7 { block := n0, off := (1 : Nat) : Addr }) fun v10 => isB v10 fun t11 => br (!t11) (rd (World.cell? w7 { block := n0, off := (2 : Nat) : Addr }) fun v12 => isK IntKind.u16 v12 fun i13 => br (!decide (i13 = (0 : Int))) (R (Value.tuple #[Value.string { data := #[] : ByteArray }, Value.int IntKind.i64 (1 : Int)]) w7) (rd (World.cell? w7 { block := n0, off := (3 : Nat) : Addr }) fun v14 => isK IntKind.u32 v14 fun i15 => br (!decide (i15 = (0 : Int))) (R (Value.tuple #[Value.string { data := #[] : ByteArray }, Value.int IntKind.i64 (1 : Int)]) w7) (u9 (alist []) w7))) (u9 (alist []) w7)) fun u16 => ∀ (u17 : Nat → Value) (w18 : World), u16 (alist []) w18 → rd (World.cell? w18 { block := n0, off := (4 : Nat) : Addr }) fun v20 => isSl v20 fun o21 n22 n23 => callV Tryd.prog (26 : Nat) [Value.slice o21 n22 n23] w18 fun v24 w25 => isTup v24 fun l26 => rd l26[(0 : Nat)]? fun v27 => isStr v27 fun x28 => isTup v24 fun l29 => rd l29[(1 : Nat)]? fun v30 => isK IntKind.i64 v30 fun i31 => br (!decide (i31 = (0 : Int))) (R (Value.tuple #[Value.string { data := #[] : ByteArray }, Value.int IntKind.i64 i31]) w25) (heldC (World.drew w25) fun u32 => (∀ (w33 : World), u32 w33 → Value.pointer (some { block := n0, off := (0 : Nat) : Addr }) = Value.pointer (some { block := n0, off := (0 : Nat) : Addr }) ∧ w33 = w33) ∧ rd (World.cell? (World.drew w25) { block := n0, off := (0 : Nat) : Addr }) fun v35 => (∀ (w36 : World), u32 w36 → rd (World.cell? w36 { block := n0, off := (0 : Nat) : Addr }) fun v38 => v38 = v35 ∧ w36 = w36) ∧ isK IntKind.u16 v35 fun i39 => (∀ (w40 : World), u32 w40 → Value.int IntKind.i64 (IntKind.wrap IntKind.i64 i39) = Value.int IntKind.i64 (IntKind.wrap IntKind.i64 i39) ∧ w40 = w40) ∧ (∀ (w42 : World), u32 w42 → u6 (4 : Nat) = u6 (4 : Nat) ∧ w42 = w42) ∧ isStr (u6 (4 : Nat)) fun x44 => (∀ (w45 : World), u32 w45 → Value.pointer (some { block := n0, off := (2 : Nat) : Addr }) = Value.pointer (some { block := n0, off := (2 : Nat) : Addr }) ∧ w45 = w45) ∧ rd (World.cell? (World.drew w25) { block := n0, off := (2 : Nat) : Addr }) fun v47 => (∀ (w48 : World), u32 w48 → rd (World.cell? w48 { block := n0, off := (2 : Nat) : Addr }) fun v50 => v50 = v47 ∧ w48 = w48) ∧ isK IntKind.u16 v47 fun i51 => (∀ (w52 : World), u32 w52 → Value.int IntKind.i64 (IntKind.wrap IntKind.i64 i51) = Value.int IntKind.i64 (IntKind.wrap IntKind.i64 i51) ∧ w52 = w52) ∧ (∀ (w54 : World), u32 w54 → Value.pointer (some { block := n0, off := (3 : Nat) : Addr }) = Value.pointer (some { block := n0, off := (3 : Nat) : Addr }) ∧ w54 = w54) ∧ rd (World.cell? (World.drew w25) { block := n0, off := (3 : Nat) : Addr }) fun v56 => (∀ (w57 : World), u32 w57 → rd (World.cell? w57 { block := n0, off := (3 : Nat) : Addr }) fun v59 => v59 = v56 ∧ w57 = w57) ∧ isK IntKind.u32 v56 fun i60 => (∀ (w61 : World), u32 w61 → Value.int IntKind.u32 (IntKind.wrap IntKind.u32 (Int.tdiv i60 (65536 : Int))) = Value.int IntKind.u32 (IntKind.wrap IntKind.u32 (Int.tdiv i60 (65536 : Int))) ∧ w61 = w61) ∧ (∀ (w63 : World), u32 w63 → Value.int IntKind.i64 (IntKind.wrap IntKind.i64 (IntKind.wrap IntKind.u32 (Int.tdiv i60 (65536 : Int)))) = Value.int IntKind.i64 (IntKind.wrap IntKind.i64 (IntKind.wrap IntKind.u32 (Int.tdiv i60 (65536 : Int)))) ∧ w63 = w63) ∧ (∀ (w65 : World), u32 w65 → Value.pointer (some { block := n0, off := (3 : Nat) : Addr }) = Value.pointer (some { block := n0, off := (3 : Nat) : Addr }) ∧ w65 = w65) ∧ rd (World.cell? (World.drew w25) { block := n0, off := (3 : Nat) : Addr }) fun v67 => (∀ (w68 : World), u32 w68 → rd (World.cell? w68 { block := n0, off := (3 : Nat) : Addr }) fun v70 => v70 = v67 ∧ w68 = w68) ∧ isK IntKind.u32 v67 fun i71 => (∀ (w72 : World), u32 w72 → Value.int IntKind.u32 (Int.tmod i71 (65536 : Int)) = Value.int IntKind.u32 (Int.tmod i71 (65536 : Int)) ∧ w72 = w72) ∧ (∀ (w74 : World), u32 w74 → Value.int IntKind.i64 (IntKind.wrap IntKind.i64 (Int.tmod i71 (65536 : Int))) = Value.int IntKind.i64 (IntKind.wrap IntKind.i64 (Int.tmod i71 (65536 : Int))) ∧ w74 = w74) ∧ (∀ (w76 : World), u32 w76 → Value.string x28 = Value.string x28 ∧ w76 = w76) ∧ callV Tryd.prog (27 : Nat) [Value.int IntKind.i64 (IntKind.wrap IntKind.i64 i39)] (World.drew w25) fun v78 w79 => isStr v78 fun x80 => u32 w79 ∧ rd (orO (binV BinOp.add (Value.string x80) (Value.string x44)) none) fun v81 => (∀ (w82 : World), u32 w82 → rd (orO (binV BinOp.add (Value.string x80) (Value.string x44)) none) fun v84 => v84 = v81 ∧ w82 = w82) ∧ isStr v81 fun x85 => callV Tryd.prog (27 : Nat) [Value.int IntKind.i64 (IntKind.wrap IntKind.i64 i51)] w79 fun v86 w87 => isStr v86 fun x88 => u32 w87 ∧ rd (orO (binV BinOp.add (Value.string x85) (Value.string x88)) none) fun v89 => (∀ (w90 : World), u32 w90 → rd (orO (binV BinOp.add (Value.string x85) (Value.string x88)) none) fun v92 => v92 = v89 ∧ w90 = w90) ∧ isStr v89 fun x93 => callV Tryd.prog (27 : Nat) [Value.int IntKind.i64 (IntKind.wrap IntKind.i64 (IntKind.wrap IntKind.u32 (Int.tdiv i60 (65536 : Int))))] w87 fun v94 w95 => isStr v94 fun x96 => u32 w95 ∧ rd (orO (binV BinOp.add (Value.string x93) (Value.string x96)) none) fun v97 => (∀ (w98 : World), u32 w98 → rd (orO (binV BinOp.add (Value.string x93) (Value.string x96)) none) fun v100 => v100 = v97 ∧ w98 = w98) ∧ isStr v97 fun x101 => callV Tryd.prog (27 : Nat) [Value.int IntKind.i64 (IntKind.wrap IntKind.i64 (Int.tmod i71 (65536 : Int)))] w95 fun v102 w103 => isStr v102 fun x104 => u32 w103 ∧ rd (orO (binV BinOp.add (Value.string x101) (Value.string x104)) none) fun v105 => (∀ (w106 : World), u32 w106 → rd (orO (binV BinOp.add (Value.string x101) (Value.string x104)) none) fun v108 => v108 = v105 ∧ w106 = w106) ∧ isStr v105 fun x109 => rd (orO (binV BinOp.add (Value.string x109) (Value.string x28)) none) fun v110 => (∀ (w111 : World), u32 w111 → rd (orO (binV BinOp.add (Value.string x109) (Value.string x28)) none) fun v113 => v113 = v110 ∧ w111 = w111) ∧ isStr v110 fun x114 => (∀ (w115 : World), u32 w115 → Value.string x114 = Value.string x114 ∧ w115 = w115) ∧ callV Tryd.prog (28 : Nat) [Value.string x114] w103 fun v117 w118 => isK IntKind.u16 v117 fun i119 => callV Tryd.prog (27 : Nat) [Value.int IntKind.i64 (IntKind.wrap IntKind.i64 i119)] w118 fun v120 w121 => isStr v120 fun x122 => rd (orO (binV BinOp.add (Value.string x114) (Value.string x122)) none) fun v123 => isStr v123 fun x124 => br (decide ((1024 : Int) < (↑(ByteArray.size x124) : Int))) (R (Value.tuple #[Value.string { data := #[] : ByteArray }, Value.int IntKind.i64 (5 : Int)]) w121) (R (Value.tuple #[Value.string x124, Value.int IntKind.i64 (0 : Int)]) w121))) :
  callV Tryd.prog 11 [Value.agg #[Value.int IntKind.u16 a0, Value.bool a1, Value.int IntKind.u16 a2, Value.int IntKind.u32 a3, Value.slice a4p a4n a4c]] w R :=
  vc_of hm ⟨fun n => match n with | 4 => true | 6 => true | _ => false, fun n => match n with | 9 => .take 0 (.take 1 (.take 2 (.take 4 (.take 6 (.take 7 (.take 8 (.take 11 (.take 12 (.take 13 (.take 14 (.take 17 (.take 18 (.take 19 (.take 20 (.take 23 (.one 3 (.take 5 (.one 9 (.take 10 (.one 15 (.take 16 (.one 21 (.take 22 (.take 24 (.take 25 (.done)))))))))))))))))))))))))) | _ => .done, fun n => match n with | 4 => [4] | 6 => [] | _ => []⟩ Tryd.func11 ent11 (by kernel_rfl) h

theorem vc12 (ap : Option Addr) (an : Nat) (ac : Nat) (w : World) (R : Value → World → Prop)
  (h : allocC w (Obj.cells #[Value.int IntKind.u16 (0 : Int), Value.bool false, Value.int IntKind.u16 (0 : Int), Value.int IntKind.u32 (0 : Int), Value.slice none (0 : Nat) (0 : Nat)] (32 : Nat)) fun n0 w1 => br (decide ((↑an : Int) < (11 : Int))) (stC w1 { block := n0, off := (0 : Nat) : Addr } [Value.int IntKind.u16 (0 : Int), Value.bool false, Value.int IntKind.u16 (0 : Int), Value.int IntKind.u32 (0 : Int), Value.slice none (0 : Nat) (0 : Nat)] fun w2 => rd (cellsAt w2 { block := n0, off := (0 : Nat) : Addr } (5 : Nat)) fun l3 => R (Value.tuple #[Value.agg (List.toArray l3), Value.int IntKind.i64 (2 : Int)]) w2) (heldC (World.drew w1) fun u4 => (∀ (w5 : World), u4 w5 → Value.slice ap an ac = Value.slice ap an ac ∧ w5 = w5) ∧ (∀ (w7 : World), u4 w7 → Value.slice ap an ac = Value.slice ap an ac ∧ w7 = w7) ∧ (∀ (w9 : World), u4 w9 → Value.int IntKind.i64 (↑an : Int) = Value.int IntKind.i64 (↑an : Int) ∧ w9 = w9) ∧ (∀ (w11 : World), u4 w11 → Value.int IntKind.i64 (IntKind.wrap IntKind.i64 ((↑an : Int) - (2 : Int))) = Value.int IntKind.i64 (IntKind.wrap IntKind.i64 ((↑an : Int) - (2 : Int))) ∧ w11 = w11) ∧ runs Tryd.prog (Instr.sliceAt (25 : Nat) (Value.slice ap an ac) none (some (Value.int IntKind.i64 (IntKind.wrap IntKind.i64 ((↑an : Int) - (2 : Int))))) none) (World.drew w1) fun v13 w14 => (∀ (w15 : World), u4 w15 → runs Tryd.prog (Instr.sliceAt (25 : Nat) (Value.slice ap an ac) none (some (Value.int IntKind.i64 (IntKind.wrap IntKind.i64 ((↑an : Int) - (2 : Int))))) none) w15 fun v17 w18 => v17 = v13 ∧ w18 = w15) ∧ isSl v13 fun o19 n20 n21 => (∀ (w22 : World), u4 w22 → Value.slice ap an ac = Value.slice ap an ac ∧ w22 = w22) ∧ (∀ (w24 : World), u4 w24 → Value.slice ap an ac = Value.slice ap an ac ∧ w24 = w24) ∧ (∀ (w26 : World), u4 w26 → Value.int IntKind.i64 (↑an : Int) = Value.int IntKind.i64 (↑an : Int) ∧ w26 = w26) ∧ (∀ (w28 : World), u4 w28 → Value.int IntKind.i64 (IntKind.wrap IntKind.i64 ((↑an : Int) - (2 : Int))) = Value.int IntKind.i64 (IntKind.wrap IntKind.i64 ((↑an : Int) - (2 : Int))) ∧ w28 = w28) ∧ runs Tryd.prog (Instr.sliceAt (25 : Nat) (Value.slice ap an ac) (some (Value.int IntKind.i64 (IntKind.wrap IntKind.i64 ((↑an : Int) - (2 : Int))))) none none) (World.drew w1) fun v30 w31 => (∀ (w32 : World), u4 w32 → runs Tryd.prog (Instr.sliceAt (25 : Nat) (Value.slice ap an ac) (some (Value.int IntKind.i64 (IntKind.wrap IntKind.i64 ((↑an : Int) - (2 : Int))))) none none) w32 fun v34 w35 => v34 = v30 ∧ w35 = w32) ∧ isSl v30 fun o36 n37 n38 => (∀ (w39 : World), u4 w39 → Value.slice o19 n20 n21 = Value.slice o19 n20 n21 ∧ w39 = w39) ∧ (∀ (w41 : World), u4 w41 → Value.slice o36 n37 n38 = Value.slice o36 n37 n38 ∧ w41 = w41) ∧ callV Tryd.prog (29 : Nat) [Value.slice o36 n37 n38] (World.drew w1) fun v43 w44 => isK IntKind.u32 v43 fun i45 => callV Tryd.prog (25 : Nat) [Value.slice o19 n20 n21] w44 fun v46 w47 => isK IntKind.u16 v46 fun i48 => br (!decide (i45 = IntKind.wrap IntKind.u32 i48)) (stC w47 { block := n0, off := (0 : Nat) : Addr } [Value.int IntKind.u16 (0 : Int), Value.bool false, Value.int IntKind.u16 (0 : Int), Value.int IntKind.u32 (0 : Int), Value.slice none (0 : Nat) (0 : Nat)] fun w49 => rd (cellsAt w49 { block := n0, off := (0 : Nat) : Addr } (5 : Nat)) fun l50 => R (Value.tuple #[Value.agg (List.toArray l50), Value.int IntKind.i64 (4 : Int)]) w49) (cutC (fun u51 => heldC (World.drew w47) fun u52 => (∀ (w53 : World), u52 w53 → Value.slice ap an ac = Value.slice ap an ac ∧ w53 = w53) ∧ runs Tryd.prog (Instr.sliceAt (25 : Nat) (Value.slice ap an ac) none (some (Value.int IntKind.i64 (2 : Int))) none) (World.drew w47) fun v55 w56 => (∀ (w57 : World), u52 w57 → runs Tryd.prog (Instr.sliceAt (25 : Nat) (Value.slice ap an ac) none (some (Value.int IntKind.i64 (2 : Int))) none) w57 fun v59 w60 => v59 = v55 ∧ w60 = w57) ∧ isSl v55 fun o61 n62 n63 => (∀ (w64 : World), u52 w64 → Value.slice ap an ac = Value.slice ap an ac ∧ w64 = w64) ∧ rd ap fun a66 => ((0 : Int) ≤ (2 : Int) ∧ (2 : Int) < (↑an : Int)) ∧ (∀ (w67 : World), u52 w67 → rd ap fun a69 => ((0 : Int) ≤ (2 : Int) ∧ (2 : Int) < (↑an : Int)) ∧ Value.pointer (some (Addr.add a69 (2 : Nat))) = Value.pointer (some (Addr.add a66 (2 : Nat))) ∧ w67 = w67) ∧ rd (World.cell? (World.drew w47) (Addr.add a66 (2 : Nat))) fun v70 => (∀ (w71 : World), u52 w71 → rd (World.cell? w71 (Addr.add a66 (2 : Nat))) fun v73 => v73 = v70 ∧ w71 = w71) ∧ isK IntKind.u8 v70 fun i74 => (∀ (w75 : World), u52 w75 → Value.bool (decide (i74 = (1 : Int))) = Value.bool (decide (i74 = (1 : Int))) ∧ w75 = w75) ∧ (∀ (w77 : World), u52 w77 → Value.slice ap an ac = Value.slice ap an ac ∧ w77 = w77) ∧ runs Tryd.prog (Instr.sliceAt (25 : Nat) (Value.slice ap an ac) (some (Value.int IntKind.i64 (3 : Int))) (some (Value.int IntKind.i64 (5 : Int))) none) (World.drew w47) fun v79 w80 => (∀ (w81 : World), u52 w81 → runs Tryd.prog (Instr.sliceAt (25 : Nat) (Value.slice ap an ac) (some (Value.int IntKind.i64 (3 : Int))) (some (Value.int IntKind.i64 (5 : Int))) none) w81 fun v83 w84 => v83 = v79 ∧ w84 = w81) ∧ isSl v79 fun o85 n86 n87 => (∀ (w88 : World), u52 w88 → Value.slice ap an ac = Value.slice ap an ac ∧ w88 = w88) ∧ runs Tryd.prog (Instr.sliceAt (25 : Nat) (Value.slice ap an ac) (some (Value.int IntKind.i64 (5 : Int))) (some (Value.int IntKind.i64 (9 : Int))) none) (World.drew w47) fun v90 w91 => (∀ (w92 : World), u52 w92 → runs Tryd.prog (Instr.sliceAt (25 : Nat) (Value.slice ap an ac) (some (Value.int IntKind.i64 (5 : Int))) (some (Value.int IntKind.i64 (9 : Int))) none) w92 fun v94 w95 => v94 = v90 ∧ w95 = w92) ∧ isSl v90 fun o96 n97 n98 => (callV Tryd.prog (29 : Nat) [Value.slice o61 n62 n63] (World.drew w47) fun v99 w100 => isK IntKind.u32 v99 fun i101 => u52 w100 ∧ (∀ (w102 : World), u52 w102 → Value.int IntKind.u16 (IntKind.wrap IntKind.u16 i101) = Value.int IntKind.u16 (IntKind.wrap IntKind.u16 i101) ∧ w102 = w102) ∧ (callV Tryd.prog (29 : Nat) [Value.slice o85 n86 n87] w100 fun v104 w105 => isK IntKind.u32 v104 fun i106 => u52 w105 ∧ (∀ (w107 : World), u52 w107 → Value.int IntKind.u16 (IntKind.wrap IntKind.u16 i106) = Value.int IntKind.u16 (IntKind.wrap IntKind.u16 i106) ∧ w107 = w107) ∧ (callV Tryd.prog (29 : Nat) [Value.slice o96 n97 n98] w105 fun v109 w110 => isK IntKind.u32 v109 fun i111 => u52 w110 ∧ (∀ (w112 : World), u52 w112 → Value.agg #[Value.int IntKind.u16 (IntKind.wrap IntKind.u16 i101), Value.bool (decide (i74 = (1 : Int))), Value.int IntKind.u16 (IntKind.wrap IntKind.u16 i106), Value.int IntKind.u32 i111, Value.slice none (0 : Nat) (0 : Nat)] = Value.agg #[Value.int IntKind.u16 (IntKind.wrap IntKind.u16 i101), Value.bool (decide (i74 = (1 : Int))), Value.int IntKind.u16 (IntKind.wrap IntKind.u16 i106), Value.int IntKind.u32 i111, Value.slice none (0 : Nat) (0 : Nat)] ∧ w112 = w112) ∧ allocC w110 (Obj.cells #[Value.int IntKind.u16 (0 : Int), Value.bool false, Value.int IntKind.u16 (0 : Int), Value.int IntKind.u32 (0 : Int), Value.slice none (0 : Nat) (0 : Nat)] (32 : Nat)) fun n114 w115 => u52 w115 ∧ stC w115 { block := n114, off := (0 : Nat) : Addr } [Value.int IntKind.u16 (IntKind.wrap IntKind.u16 i101), Value.bool (decide (i74 = (1 : Int))), Value.int IntKind.u16 (IntKind.wrap IntKind.u16 i106), Value.int IntKind.u32 i111, Value.slice none (0 : Nat) (0 : Nat)] fun w116 => u51 (alist [((6 : Nat), Value.pointer (some { block := n114, off := (0 : Nat) : Addr }))]) w116) ∧ allocC w105 (Obj.cells #[Value.int IntKind.u16 (0 : Int), Value.bool false, Value.int IntKind.u16 (0 : Int), Value.int IntKind.u32 (0 : Int), Value.slice none (0 : Nat) (0 : Nat)] (32 : Nat)) fun n117 w118 => u52 w118 ∧ callV Tryd.prog (29 : Nat) [Value.slice o96 n97 n98] w118 fun v119 w120 => isK IntKind.u32 v119 fun i121 => u52 w120 ∧ (∀ (w122 : World), u52 w122 → Value.agg #[Value.int IntKind.u16 (IntKind.wrap IntKind.u16 i101), Value.bool (decide (i74 = (1 : Int))), Value.int IntKind.u16 (IntKind.wrap IntKind.u16 i106), Value.int IntKind.u32 i121, Value.slice none (0 : Nat) (0 : Nat)] = Value.agg #[Value.int IntKind.u16 (IntKind.wrap IntKind.u16 i101), Value.bool (decide (i74 = (1 : Int))), Value.int IntKind.u16 (IntKind.wrap IntKind.u16 i106), Value.int IntKind.u32 i121, Value.slice none (0 : Nat) (0 : Nat)] ∧ w122 = w122) ∧ stC w120 { block := n117, off := (0 : Nat) : Addr } [Value.int IntKind.u16 (IntKind.wrap IntKind.u16 i101), Value.bool (decide (i74 = (1 : Int))), Value.int IntKind.u16 (IntKind.wrap IntKind.u16 i106), Value.int IntKind.u32 i121, Value.slice none (0 : Nat) (0 : Nat)] fun w124 => u51 (alist [((6 : Nat), Value.pointer (some { block := n117, off := (0 : Nat) : Addr }))]) w124) ∧ allocC w100 (Obj.cells #[Value.int IntKind.u16 (0 : Int), Value.bool false, Value.int IntKind.u16 (0 : Int), Value.int IntKind.u32 (0 : Int), Value.slice none (0 : Nat) (0 : Nat)] (32 : Nat)) fun n125 w126 => u52 w126 ∧ callV Tryd.prog (29 : Nat) [Value.slice o85 n86 n87] w126 fun v127 w128 => isK IntKind.u32 v127 fun i129 => u52 w128 ∧ (∀ (w130 : World), u52 w130 → Value.int IntKind.u16 (IntKind.wrap IntKind.u16 i129) = Value.int IntKind.u16 (IntKind.wrap IntKind.u16 i129) ∧ w130 = w130) ∧ callV Tryd.prog (29 : Nat) [Value.slice o96 n97 n98] w128 fun v132 w133 => isK IntKind.u32 v132 fun i134 => u52 w133 ∧ (∀ (w135 : World), u52 w135 → Value.agg #[Value.int IntKind.u16 (IntKind.wrap IntKind.u16 i101), Value.bool (decide (i74 = (1 : Int))), Value.int IntKind.u16 (IntKind.wrap IntKind.u16 i129), Value.int IntKind.u32 i134, Value.slice none (0 : Nat) (0 : Nat)] = Value.agg #[Value.int IntKind.u16 (IntKind.wrap IntKind.u16 i101), Value.bool (decide (i74 = (1 : Int))), Value.int IntKind.u16 (IntKind.wrap IntKind.u16 i129), Value.int IntKind.u32 i134, Value.slice none (0 : Nat) (0 : Nat)] ∧ w135 = w135) ∧ stC w133 { block := n125, off := (0 : Nat) : Addr } [Value.int IntKind.u16 (IntKind.wrap IntKind.u16 i101), Value.bool (decide (i74 = (1 : Int))), Value.int IntKind.u16 (IntKind.wrap IntKind.u16 i129), Value.int IntKind.u32 i134, Value.slice none (0 : Nat) (0 : Nat)] fun w137 => u51 (alist [((6 : Nat), Value.pointer (some { block := n125, off := (0 : Nat) : Addr }))]) w137) ∧ allocC (World.drew w47) (Obj.cells #[Value.int IntKind.u16 (0 : Int), Value.bool false, Value.int IntKind.u16 (0 : Int), Value.int IntKind.u32 (0 : Int), Value.slice none (0 : Nat) (0 : Nat)] (32 : Nat)) fun n138 w139 => u52 w139 ∧ callV Tryd.prog (29 : Nat) [Value.slice o61 n62 n63] w139 fun v140 w141 => isK IntKind.u32 v140 fun i142 => u52 w141 ∧ (∀ (w143 : World), u52 w143 → Value.int IntKind.u16 (IntKind.wrap IntKind.u16 i142) = Value.int IntKind.u16 (IntKind.wrap IntKind.u16 i142) ∧ w143 = w143) ∧ callV Tryd.prog (29 : Nat) [Value.slice o85 n86 n87] w141 fun v145 w146 => isK IntKind.u32 v145 fun i147 => u52 w146 ∧ (∀ (w148 : World), u52 w148 → Value.int IntKind.u16 (IntKind.wrap IntKind.u16 i147) = Value.int IntKind.u16 (IntKind.wrap IntKind.u16 i147) ∧ w148 = w148) ∧ callV Tryd.prog (29 : Nat) [Value.slice o96 n97 n98] w146 fun v150 w151 => isK IntKind.u32 v150 fun i152 => u52 w151 ∧ (∀ (w153 : World), u52 w153 → Value.agg #[Value.int IntKind.u16 (IntKind.wrap IntKind.u16 i142), Value.bool (decide (i74 = (1 : Int))), Value.int IntKind.u16 (IntKind.wrap IntKind.u16 i147), Value.int IntKind.u32 i152, Value.slice none (0 : Nat) (0 : Nat)] = Value.agg #[Value.int IntKind.u16 (IntKind.wrap IntKind.u16 i142), Value.bool (decide (i74 = (1 : Int))), Value.int IntKind.u16 (IntKind.wrap IntKind.u16 i147), Value.int IntKind.u32 i152, Value.slice none (0 : Nat) (0 : Nat)] ∧ w153 = w153) ∧ stC w151 { block := n138, off := (0 : Nat) : Addr } [Value.int IntKind.u16 (IntKind.wrap IntKind.u16 i142), Value.bool (decide (i74 = (1 : Int))), Value.int IntKind.u16 (IntKind.wrap IntKind.u16 i147), Value.int IntKind.u32 i152, Value.slice none (0 : Nat) (0 : Nat)] fun w155 => u51 (alist [((6 : Nat), Value.pointer (some { block := n138, off := (0 : Nat) : Addr }))]) w155) fun u156 => ∀ (u157 : Nat → Value) (w158 : World), u156 (alist [((6 : Nat), u157 (6 : Nat))]) w158 → cutC (fun u160 => br (decide ((1024 : Int) < (↑an : Int))) (stC w158 { block := n0, off := (0 : Nat) : Addr } [Value.int IntKind.u16 (0 : Int), Value.bool false, Value.int IntKind.u16 (0 : Int), Value.int IntKind.u32 (0 : Int), Value.slice none (0 : Nat) (0 : Nat)] fun w161 => rd (cellsAt w161 { block := n0, off := (0 : Nat) : Addr } (5 : Nat)) fun l162 => R (Value.tuple #[Value.agg (List.toArray l162), Value.int IntKind.i64 (3 : Int)]) w161) (rd ap fun a163 => ((0 : Int) ≤ (2 : Int) ∧ (2 : Int) < (↑an : Int)) ∧ rd (World.cell? w158 (Addr.add a163 (2 : Nat))) fun v164 => isK IntKind.u8 v164 fun i165 => br (decide ((1 : Int) < i165)) (stC w158 { block := n0, off := (0 : Nat) : Addr } [Value.int IntKind.u16 (0 : Int), Value.bool false, Value.int IntKind.u16 (0 : Int), Value.int IntKind.u32 (0 : Int), Value.slice none (0 : Nat) (0 : Nat)] fun w166 => rd (cellsAt w166 { block := n0, off := (0 : Nat) : Addr } (5 : Nat)) fun l167 => R (Value.tuple #[Value.agg (List.toArray l167), Value.int IntKind.i64 (3 : Int)]) w166) (isPtr (u157 (6 : Nat)) fun a168 => rd (World.cell? w158 (Addr.add a168 (1 : Nat))) fun v169 => isB v169 fun t170 => br (!t170) (isPtr (u157 (6 : Nat)) fun a171 => rd (World.cell? w158 (Addr.add a171 (2 : Nat))) fun v172 => isK IntKind.u16 v172 fun i173 => br (decide ((0 : Int) < i173)) (stC w158 { block := n0, off := (0 : Nat) : Addr } [Value.int IntKind.u16 (0 : Int), Value.bool false, Value.int IntKind.u16 (0 : Int), Value.int IntKind.u32 (0 : Int), Value.slice none (0 : Nat) (0 : Nat)] fun w174 => rd (cellsAt w174 { block := n0, off := (0 : Nat) : Addr } (5 : Nat)) fun l175 => R (Value.tuple #[Value.agg (List.toArray l175), Value.int IntKind.i64 (3 : Int)]) w174) (isPtr (u157 (6 : Nat)) fun a176 => rd (World.cell? w158 (Addr.add a176 (3 : Nat))) fun v177 => isK IntKind.u32 v177 fun i178 => br (decide ((0 : Int) < i178)) (stC w158 { block := n0, off := (0 : Nat) : Addr } [Value.int IntKind.u16 (0 : Int), Value.bool false, Value.int IntKind.u16 (0 : Int), Value.int IntKind.u32 (0 : Int), Value.slice none (0 : Nat) (0 : Nat)] fun w179 => rd (cellsAt w179 { block := n0, off := (0 : Nat) : Addr } (5 : Nat)) fun l180 => R (Value.tuple #[Value.agg (List.toArray l180), Value.int IntKind.i64 (3 : Int)]) w179) (u160 (alist []) w158))) (u160 (alist []) w158)))) fun u181 => ∀ (u182 : Nat → Value) (w183 : World), u181 (alist []) w183 → runs Tryd.prog (Instr.sliceAt (25 : Nat) (Value.slice o19 n20 n21) (some (Value.int IntKind.i64 (9 : Int))) none none) w183 fun v185 w186 => isSl v185 fun o187 n188 n189 => callV Tryd.prog (30 : Nat) [Value.slice o187 n188 n189] w186 fun v190 w191 => isTup v190 fun l192 => rd l192[(0 : Nat)]? fun v193 => isSl v193 fun o194 n195 n196 => isTup v190 fun l197 => rd l197[(1 : Nat)]? fun v198 => isK IntKind.i64 v198 fun i199 => br (!decide (i199 = (0 : Int))) (stC w191 { block := n0, off := (0 : Nat) : Addr } [Value.int IntKind.u16 (0 : Int), Value.bool false, Value.int IntKind.u16 (0 : Int), Value.int IntKind.u32 (0 : Int), Value.slice none (0 : Nat) (0 : Nat)] fun w200 => rd (cellsAt w200 { block := n0, off := (0 : Nat) : Addr } (5 : Nat)) fun l201 => R (Value.tuple #[Value.agg (List.toArray l201), Value.int IntKind.i64 i199]) w200) (isPtr (u157 (6 : Nat)) fun a202 => stC w191 (Addr.add a202 (4 : Nat)) [Value.slice o194 n195 n196] fun w203 => isPtr (u157 (6 : Nat)) fun a204 => rd (cellsAt w203 a204 (5 : Nat)) fun l205 => rd (gd (List.length l205 == (5 : Nat))) fun _x => stC w203 { block := n0, off := (0 : Nat) : Addr } l205 fun w206 => rd (cellsAt w206 { block := n0, off := (0 : Nat) : Addr } (5 : Nat)) fun l207 => R (Value.tuple #[Value.agg (List.toArray l207), Value.int IntKind.i64 (0 : Int)]) w206)))) :
  callV Tryd.prog 12 [Value.slice ap an ac] w R :=
  vc_of hm ⟨fun n => match n with | 7 => true | 9 => true | _ => false, fun n => match n with | 3 => .take 0 (.take 1 (.take 2 (.take 3 (.take 4 (.take 5 (.take 6 (.take 7 (.take 8 (.take 9 (.take 10 (.take 11 (.done)))))))))))) | 6 => .take 0 (.take 1 (.take 4 (.take 5 (.take 6 (.take 7 (.take 8 (.take 9 (.take 12 (.take 13 (.two 2 (.take 3 (.two 10 (.take 11 (.two 14 (.take 15 (.one 16 (.last 17 (.done)))) 16 (.one 14 (.take 15 (.last 17 (.done)))))) 16 (.one 10 (.take 11 (.one 14 (.take 15 (.last 17 (.done)))))))) 16 (.one 2 (.take 3 (.one 10 (.take 11 (.one 14 (.take 15 (.last 17 (.done)))))))))))))))))) | _ => .done, fun n => match n with | 7 => [6] | 9 => [] | _ => []⟩ Tryd.func12 ent12 (by kernel_rfl) h

theorem vc13 (a : ByteArray) (w : World) (R : Value → World → Prop)
  (h : allocC w (Obj.cells #[Value.int IntKind.u16 (0 : Int), Value.bool false, Value.int IntKind.u16 (0 : Int), Value.int IntKind.u32 (0 : Int), Value.slice none (0 : Nat) (0 : Nat)] (35 : Nat)) fun n0 w1 => br (decide ((↑(ByteArray.size a) : Int) < (11 : Int))) (stC w1 { block := n0, off := (0 : Nat) : Addr } [Value.int IntKind.u16 (0 : Int), Value.bool false, Value.int IntKind.u16 (0 : Int), Value.int IntKind.u32 (0 : Int), Value.slice none (0 : Nat) (0 : Nat)] fun w2 => rd (cellsAt w2 { block := n0, off := (0 : Nat) : Addr } (5 : Nat)) fun l3 => R (Value.tuple #[Value.agg (List.toArray l3), Value.int IntKind.i64 (2 : Int)]) w2) (heldC (World.drew w1) fun u4 => (∀ (w5 : World), u4 w5 → Value.string a = Value.string a ∧ w5 = w5) ∧ (∀ (w7 : World), u4 w7 → Value.int IntKind.i64 (IntKind.wrap IntKind.i64 ((↑(ByteArray.size a) : Int) - (2 : Int))) = Value.int IntKind.i64 (IntKind.wrap IntKind.i64 ((↑(ByteArray.size a) : Int) - (2 : Int))) ∧ w7 = w7) ∧ runs Tryd.prog (Instr.sliceAt (9 : Nat) (Value.string a) none (some (Value.int IntKind.i64 (IntKind.wrap IntKind.i64 ((↑(ByteArray.size a) : Int) - (2 : Int))))) none) (World.drew w1) fun v9 w10 => (∀ (w11 : World), u4 w11 → runs Tryd.prog (Instr.sliceAt (9 : Nat) (Value.string a) none (some (Value.int IntKind.i64 (IntKind.wrap IntKind.i64 ((↑(ByteArray.size a) : Int) - (2 : Int))))) none) w11 fun v13 w14 => v13 = v9 ∧ w14 = w11) ∧ isStr v9 fun x15 => (∀ (w16 : World), u4 w16 → Value.string a = Value.string a ∧ w16 = w16) ∧ (∀ (w18 : World), u4 w18 → Value.int IntKind.i64 (IntKind.wrap IntKind.i64 ((↑(ByteArray.size a) : Int) - (2 : Int))) = Value.int IntKind.i64 (IntKind.wrap IntKind.i64 ((↑(ByteArray.size a) : Int) - (2 : Int))) ∧ w18 = w18) ∧ runs Tryd.prog (Instr.sliceAt (9 : Nat) (Value.string a) (some (Value.int IntKind.i64 (IntKind.wrap IntKind.i64 ((↑(ByteArray.size a) : Int) - (2 : Int))))) none none) (World.drew w1) fun v20 w21 => (∀ (w22 : World), u4 w22 → runs Tryd.prog (Instr.sliceAt (9 : Nat) (Value.string a) (some (Value.int IntKind.i64 (IntKind.wrap IntKind.i64 ((↑(ByteArray.size a) : Int) - (2 : Int))))) none none) w22 fun v24 w25 => v24 = v20 ∧ w25 = w22) ∧ isStr v20 fun x26 => callV Tryd.prog (28 : Nat) [Value.string x15] (World.drew w1) fun v27 w28 => isK IntKind.u16 v27 fun i29 => u4 w28 ∧ (∀ (w30 : World), u4 w30 → Value.int IntKind.i64 (IntKind.wrap IntKind.i64 i29) = Value.int IntKind.i64 (IntKind.wrap IntKind.i64 i29) ∧ w30 = w30) ∧ callV Tryd.prog (27 : Nat) [Value.int IntKind.i64 (IntKind.wrap IntKind.i64 i29)] w28 fun v32 w33 => isStr v32 fun x34 => u4 w33 ∧ (∀ (w35 : World), u4 w35 → (Value.bool !decide (x34 = x26)) = Value.bool !decide (x34 = x26) ∧ w35 = w35) ∧ br (!decide (x34 = x26)) (stC w33 { block := n0, off := (0 : Nat) : Addr } [Value.int IntKind.u16 (0 : Int), Value.bool false, Value.int IntKind.u16 (0 : Int), Value.int IntKind.u32 (0 : Int), Value.slice none (0 : Nat) (0 : Nat)] fun w37 => rd (cellsAt w37 { block := n0, off := (0 : Nat) : Addr } (5 : Nat)) fun l38 => R (Value.tuple #[Value.agg (List.toArray l38), Value.int IntKind.i64 (4 : Int)]) w37) (cutC (fun u39 => br (decide ((1024 : Int) < (↑(ByteArray.size a) : Int))) (stC w33 { block := n0, off := (0 : Nat) : Addr } [Value.int IntKind.u16 (0 : Int), Value.bool false, Value.int IntKind.u16 (0 : Int), Value.int IntKind.u32 (0 : Int), Value.slice none (0 : Nat) (0 : Nat)] fun w40 => rd (cellsAt w40 { block := n0, off := (0 : Nat) : Addr } (5 : Nat)) fun l41 => R (Value.tuple #[Value.agg (List.toArray l41), Value.int IntKind.i64 (3 : Int)]) w40) (runs Tryd.prog (Instr.index (9 : Nat) (Value.string a) (Value.int IntKind.i64 (2 : Int))) w33 fun v42 w43 => isK IntKind.u8 v42 fun i44 => br (decide ((1 : Int) < i44)) (stC w43 { block := n0, off := (0 : Nat) : Addr } [Value.int IntKind.u16 (0 : Int), Value.bool false, Value.int IntKind.u16 (0 : Int), Value.int IntKind.u32 (0 : Int), Value.slice none (0 : Nat) (0 : Nat)] fun w45 => rd (cellsAt w45 { block := n0, off := (0 : Nat) : Addr } (5 : Nat)) fun l46 => R (Value.tuple #[Value.agg (List.toArray l46), Value.int IntKind.i64 (3 : Int)]) w45) (runs Tryd.prog (Instr.index (9 : Nat) (Value.string a) (Value.int IntKind.i64 (2 : Int))) w43 fun v47 w48 => isK IntKind.u8 v47 fun i49 => br (decide (i49 = (0 : Int))) (runs Tryd.prog (Instr.sliceAt (9 : Nat) (Value.string a) (some (Value.int IntKind.i64 (3 : Int))) (some (Value.int IntKind.i64 (9 : Int))) none) w48 fun v50 w51 => isStr v50 fun x52 => br (!decide (x52 = { data := #[(0 : UInt8), (0 : UInt8), (0 : UInt8), (0 : UInt8), (0 : UInt8), (0 : UInt8)] : ByteArray })) (stC w51 { block := n0, off := (0 : Nat) : Addr } [Value.int IntKind.u16 (0 : Int), Value.bool false, Value.int IntKind.u16 (0 : Int), Value.int IntKind.u32 (0 : Int), Value.slice none (0 : Nat) (0 : Nat)] fun w53 => rd (cellsAt w53 { block := n0, off := (0 : Nat) : Addr } (5 : Nat)) fun l54 => R (Value.tuple #[Value.agg (List.toArray l54), Value.int IntKind.i64 (3 : Int)]) w53) (u39 (alist []) w51)) (u39 (alist []) w48)))) fun u55 => ∀ (u56 : Nat → Value) (w57 : World), u55 (alist []) w57 → runs Tryd.prog (Instr.sliceAt (9 : Nat) (Value.string a) (some (Value.int IntKind.i64 (9 : Int))) (some (Value.int IntKind.i64 (IntKind.wrap IntKind.i64 ((↑(ByteArray.size a) : Int) - (2 : Int))))) none) w57 fun v59 w60 => isStr v59 fun x61 => callV Tryd.prog (31 : Nat) [Value.string x61] w60 fun v62 w63 => isTup v62 fun l64 => rd l64[(0 : Nat)]? fun v65 => isSl v65 fun o66 n67 n68 => isTup v62 fun l69 => rd l69[(1 : Nat)]? fun v70 => isK IntKind.i64 v70 fun i71 => br (!decide (i71 = (0 : Int))) (stC w63 { block := n0, off := (0 : Nat) : Addr } [Value.int IntKind.u16 (0 : Int), Value.bool false, Value.int IntKind.u16 (0 : Int), Value.int IntKind.u32 (0 : Int), Value.slice none (0 : Nat) (0 : Nat)] fun w72 => rd (cellsAt w72 { block := n0, off := (0 : Nat) : Addr } (5 : Nat)) fun l73 => R (Value.tuple #[Value.agg (List.toArray l73), Value.int IntKind.i64 i71]) w72) (heldC (World.drew w63) fun u74 => (∀ (w75 : World), u74 w75 → Value.string a = Value.string a ∧ w75 = w75) ∧ runs Tryd.prog (Instr.sliceAt (9 : Nat) (Value.string a) none (some (Value.int IntKind.i64 (2 : Int))) none) (World.drew w63) fun v77 w78 => (∀ (w79 : World), u74 w79 → runs Tryd.prog (Instr.sliceAt (9 : Nat) (Value.string a) none (some (Value.int IntKind.i64 (2 : Int))) none) w79 fun v81 w82 => v81 = v77 ∧ w82 = w79) ∧ isStr v77 fun x83 => (∀ (w84 : World), u74 w84 → Value.string a = Value.string a ∧ w84 = w84) ∧ runs Tryd.prog (Instr.index (9 : Nat) (Value.string a) (Value.int IntKind.i64 (2 : Int))) (World.drew w63) fun v86 w87 => (∀ (w88 : World), u74 w88 → runs Tryd.prog (Instr.index (9 : Nat) (Value.string a) (Value.int IntKind.i64 (2 : Int))) w88 fun v90 w91 => v90 = v86 ∧ w91 = w88) ∧ isK IntKind.u8 v86 fun i92 => (∀ (w93 : World), u74 w93 → Value.bool (decide (i92 = (1 : Int))) = Value.bool (decide (i92 = (1 : Int))) ∧ w93 = w93) ∧ (∀ (w95 : World), u74 w95 → Value.string a = Value.string a ∧ w95 = w95) ∧ runs Tryd.prog (Instr.sliceAt (9 : Nat) (Value.string a) (some (Value.int IntKind.i64 (3 : Int))) (some (Value.int IntKind.i64 (5 : Int))) none) (World.drew w63) fun v97 w98 => (∀ (w99 : World), u74 w99 → runs Tryd.prog (Instr.sliceAt (9 : Nat) (Value.string a) (some (Value.int IntKind.i64 (3 : Int))) (some (Value.int IntKind.i64 (5 : Int))) none) w99 fun v101 w102 => v101 = v97 ∧ w102 = w99) ∧ isStr v97 fun x103 => (∀ (w104 : World), u74 w104 → Value.string a = Value.string a ∧ w104 = w104) ∧ runs Tryd.prog (Instr.sliceAt (9 : Nat) (Value.string a) (some (Value.int IntKind.i64 (5 : Int))) (some (Value.int IntKind.i64 (9 : Int))) none) (World.drew w63) fun v106 w107 => (∀ (w108 : World), u74 w108 → runs Tryd.prog (Instr.sliceAt (9 : Nat) (Value.string a) (some (Value.int IntKind.i64 (5 : Int))) (some (Value.int IntKind.i64 (9 : Int))) none) w108 fun v110 w111 => v110 = v106 ∧ w111 = w108) ∧ isStr v106 fun x112 => (∀ (w113 : World), u74 w113 → Value.slice o66 n67 n68 = Value.slice o66 n67 n68 ∧ w113 = w113) ∧ callV Tryd.prog (32 : Nat) [Value.string x83] (World.drew w63) fun v115 w116 => isK IntKind.u32 v115 fun i117 => u74 w116 ∧ (∀ (w118 : World), u74 w118 → Value.int IntKind.u16 (IntKind.wrap IntKind.u16 i117) = Value.int IntKind.u16 (IntKind.wrap IntKind.u16 i117) ∧ w118 = w118) ∧ callV Tryd.prog (32 : Nat) [Value.string x103] w116 fun v120 w121 => isK IntKind.u32 v120 fun i122 => u74 w121 ∧ (∀ (w123 : World), u74 w123 → Value.int IntKind.u16 (IntKind.wrap IntKind.u16 i122) = Value.int IntKind.u16 (IntKind.wrap IntKind.u16 i122) ∧ w123 = w123) ∧ callV Tryd.prog (32 : Nat) [Value.string x112] w121 fun v125 w126 => isK IntKind.u32 v125 fun i127 => u74 w126 ∧ (∀ (w128 : World), u74 w128 → Value.agg #[Value.int IntKind.u16 (IntKind.wrap IntKind.u16 i117), Value.bool (decide (i92 = (1 : Int))), Value.int IntKind.u16 (IntKind.wrap IntKind.u16 i122), Value.int IntKind.u32 i127, Value.slice o66 n67 n68] = Value.agg #[Value.int IntKind.u16 (IntKind.wrap IntKind.u16 i117), Value.bool (decide (i92 = (1 : Int))), Value.int IntKind.u16 (IntKind.wrap IntKind.u16 i122), Value.int IntKind.u32 i127, Value.slice o66 n67 n68] ∧ w128 = w128) ∧ stC w126 { block := n0, off := (0 : Nat) : Addr } [Value.int IntKind.u16 (IntKind.wrap IntKind.u16 i117), Value.bool (decide (i92 = (1 : Int))), Value.int IntKind.u16 (IntKind.wrap IntKind.u16 i122), Value.int IntKind.u32 i127, Value.slice o66 n67 n68] fun w130 => u74 w130 ∧ (∀ (w131 : World), u74 w131 → Value.int IntKind.i64 (0 : Int) = Value.int IntKind.i64 (0 : Int) ∧ w131 = w131) ∧ rd (cellsAt w130 { block := n0, off := (0 : Nat) : Addr } (5 : Nat)) fun l133 => R (Value.tuple #[Value.agg (List.toArray l133), Value.int IntKind.i64 (0 : Int)]) w130)))) :
  callV Tryd.prog 13 [Value.string a] w R :=
  vc_of hm ⟨fun n => match n with | 8 => true | _ => false, fun n => match n with | 4 => .take 0 (.take 1 (.take 2 (.take 6 (.take 7 (.take 8 (.one 3 (.take 4 (.one 5 (.take 9 (.done)))))))))) | 11 => .take 0 (.take 1 (.take 4 (.take 5 (.take 6 (.take 7 (.take 8 (.take 11 (.take 12 (.take 14 (.one 2 (.take 3 (.one 9 (.take 10 (.one 13 (.take 15 (.one 16 (.take 17 (.done)))))))))))))))))) | _ => .done, fun n => match n with | 8 => [] | _ => []⟩ Tryd.func13 ent13 (by kernel_rfl) h

end Go.Proofs.YtipikchkbmgloaaDoor
/- A datagram's bytes: the plain words; Encode, walked.  Conditions: the messages may be read; the table lies as it is listed. -/
namespace Go.Proofs.YtipikchkbmgloaaDoor
set_option linter.unusedSimpArgs false
set_option linter.unusedVariables false
open Go Go.RowKit VC
variable {w : World}
/-- A datagram. -/
structure Dg where
  seq : Nat
  any : Bool
  last : Nat
  bits : Nat
  list : List Msg
structure Dok (d : Dg) : Prop where
  seq : d.seq < 65536
  last : d.last < 65536
  bits : d.bits < 4294967296
def flagB (b : Bool) : List Int := [if b then 1 else 0]
def headB (d : Dg) : List Int := beB d.seq 2 ++ flagB d.any ++ beB d.last 2 ++ beB d.bits 4
theorem headB_length (d : Dg) : (headB d).length = 9 := by simp [headB, flagB, beB_length]
theorem flagB_be (b : Bool) : beB (if b then 1 else 0) 1 = flagB b := by cases b <;> rfl
theorem headB_r (d : Dg) : ∀ y ∈ headB d, 0 ≤ y ∧ y < 256 := by
  intro y hy
  simp only [headB, List.mem_append] at hy
  rcases hy with ((hy | hy) | hy) | hy
  · exact beB_r _ _ y hy
  · simp only [flagB, List.mem_singleton] at hy; subst hy; split <;> omega
  · exact beB_r _ _ y hy
  · exact beB_r _ _ y hy
/-- The sum behind. -/
def sealB (x : List Int) : List Int := x ++ beB (crcF 65535 x) 2
/-- What Encode gives: bytes, and an error's number. -/
def encD (d : Dg) : List Int × Int :=
  if d.any = false ∧ (d.last ≠ 0 ∨ d.bits ≠ 0) then ([], 1)
  else if (encodeM d.list).2 ≠ 0 then ([], (encodeM d.list).2)
  else if 1024 < (sealB (headB d ++ (encodeM d.list).1)).length then ([], 5)
  else (sealB (headB d ++ (encodeM d.list).1), 0)
theorem sealB_length (x : List Int) : (sealB x).length = x.length + 2 := by simp [sealB, beB_length]
/-- The datagram as a value: its list lies at p. -/
def dgC (d : Dg) (p : Option Addr) (c : Nat) : Value := .agg #[.int .u16 d.seq, .bool d.any, .int .u16 d.last, .int .u32 d.bits, .slice p d.list.length c]
/-- A row of bytes that grows behind w0. -/
def Grow (w0 w : World) (p : Option Addr) (c : Nat) (ys : List Int) : Prop :=
  w.ownsRow w0.heap.size 5 1 (.slice p ys.length c) ys.length (ys.map (Value.int .u8)) ∧ Fm none' w0 w
theorem Grow.nil (w0 : World) : Grow w0 w0 none 0 [] := ⟨World.ownsRow_nil _ _ _ _, Fm.refl _ _⟩
theorem Grow.put {w0 : World} {p : Option Addr} {c n m : Nat} {ys : List Int} (h : Grow w0 w p c ys) (hn : n < 4294967296) (hm : m ≤ 4) (hl : ys.length ≤ 1000000) :
    callV Tryd.prog 23 [.slice p ys.length c, .int .u32 n, .int .i64 m] w fun v w' => ∃ p' c', v = .slice p' (ys ++ beB n m).length c' ∧ Grow w0 w' p' c' (ys ++ beB n m) := by
  refine (put23_c hn hm h.1 h.2.size hl).mono ?_
  rintro _ w1 ⟨p', c', rfl, ho, -, hf⟩
  exact ⟨p', c', rfl, ho, h.2.trans' hf fun i hi e => by have := (own_block h.1 e).1; omega⟩
set_option maxRecDepth 20000 in
set_option maxHeartbeats 1000000 in
theorem encode10_c {d : Dg} {p : Option Addr} {c N : Nat} (hH : Halves w) (hd : Dok d) (hm : MsgsAt w N p d.list) (hN : N ≤ w.heap.size) (hok : Msok d.list) :
    callV Tryd.prog 10 [dgC d p c] w fun v w' => ∃ q e, v = .tuple #[.slice q (encD d).1.length e, .int .i64 (encD d).2] ∧ w'.ownsRow w.heap.size 5 1 (.slice q (encD d).1.length e) (encD d).1.length ((encD d).1.map (Value.int .u8)) ∧ Fm none' w w' := by
  obtain ⟨hs, hl, hb⟩ := hd
  have hnil : ∀ (e : Int) (w' : World), encD d = ([], e) → Fm none' w w' → ∃ q f, (.tuple #[.slice none 0 0, .int .i64 e] : Value) = .tuple #[.slice q (encD d).1.length f, .int .i64 (encD d).2] ∧ w'.ownsRow w.heap.size 5 1 (.slice q (encD d).1.length f) (encD d).1.length ((encD d).1.map (Value.int .u8)) ∧ Fm none' w w' := by
    intro e w' he hf
    rw [he]
    exact ⟨none, 0, rfl, World.ownsRow_nil _ _ _ _, hf⟩
  refine vc10 d.seq d.any d.last d.bits p d.list.length c w _ ?_
  refine allocC_of fun w1 hb1 hs1 hf1 => ?_
  refine ⟨fun _ w' => w' = w1 ∧ ¬ (d.any = false ∧ (d.last ≠ 0 ∨ d.bits ≠ 0)), ?_, ?_⟩
  · have c1 : w1.cell? ⟨w.heap.size, 1, none⟩ = some (.bool d.any) := cellOf hb1 rfl
    have c2 : w1.cell? ⟨w.heap.size, 2, none⟩ = some (.int .u16 d.last) := cellOf hb1 rfl
    have c3 : w1.cell? ⟨w.heap.size, 3, none⟩ = some (.int .u32 d.bits) := cellOf hb1 rfl
    simp only [c1, c2, c3, vcs, eqV, nilV, Option.map_some, Nat.mul_one, implies_true, true_and, and_true, and_self]
    cases ha : d.any with
    | true => exact fun h => by cases h.1
    | false =>
      refine br_dec (fun h => ?_) (fun h => ?_)
      · exact hnil 1 w1 (by unfold encD; rw [if_pos ⟨ha, .inl (by omega)⟩]) hf1
      · refine br_dec (fun h' => ?_) (fun h' => ?_)
        · exact hnil 1 w1 (by unfold encD; rw [if_pos ⟨ha, .inr (by omega)⟩]) hf1
        · exact fun h => by rcases h.2 with e | e <;> omega
  rintro u w11 ⟨rfl, hgo⟩
  have c4 : w11.cell? ⟨w.heap.size, 4, none⟩ = some (.slice p d.list.length c) := cellOf hb1 rfl
  simp only [c4, vcs, eqV, nilV, Option.map_some, Nat.mul_one, implies_true, true_and, and_true, and_self]
  refine (encode14_c (hm.keep hf1 fun _ _ => id) (by have := hf1.size; omega) hok).mono ?_
  rintro _ w18 ⟨sv, rfl, hown, hf18⟩
  obtain ⟨pb, cb, rfl, -⟩ := own_read hown
  simp only [vcs, eqV, nilV, Option.map_some, Nat.mul_one, implies_true, true_and, and_true, and_self, List.getElem?_toArray, List.getElem?_cons_zero, List.getElem?_cons_succ]
  have hF18 := hf1.trans hf18
  refine br_ndec (fun he => ?_) (fun he => ?_)
  · exact hnil _ w18 (by unfold encD; rw [if_neg hgo, if_pos he]) hF18
  have hbox : w18.drew.heap[w.heap.size]? = some (.cells #[.int .u16 d.seq, .bool d.any, .int .u16 d.last, .int .u32 d.bits, .slice p d.list.length c] 32 (0, 0)) := hf18.keep hb1 id
  refine ⟨fun w' => w'.heap[w.heap.size]? = some (.cells #[.int .u16 d.seq, .bool d.any, .int .u16 d.last, .int .u32 d.bits, .slice p d.list.length c] 32 (0, 0)), hbox, ?_⟩
  refine rd_of (v := .int .u16 d.seq) (cellOf hbox rfl) ⟨fun w' hw => rd_of (v := .int .u16 d.seq) (cellOf hw rfl) rfl, ?_⟩
  simp only [vcs, eqV, nilV, Option.map_some, Nat.mul_one, implies_true, true_and, and_true, and_self]
  refine rd_of (v := .bool d.any) (cellOf hbox rfl) ⟨fun w' hw => rd_of (v := .bool d.any) (cellOf hw rfl) rfl, ?_⟩
  simp only [vcs, eqV, nilV, Option.map_some, Nat.mul_one, implies_true, true_and, and_true, and_self]
  refine rd_of (v := .int .u16 d.last) (cellOf hbox rfl) ⟨fun w' hw => rd_of (v := .int .u16 d.last) (cellOf hw rfl) rfl, ?_⟩
  simp only [vcs, eqV, nilV, Option.map_some, Nat.mul_one, implies_true, true_and, and_true, and_self]
  refine rd_of (v := .int .u32 d.bits) (cellOf hbox rfl) ⟨fun w' hw => rd_of (v := .int .u32 d.bits) (cellOf hw rfl) rfl, ?_⟩
  simp only [vcs, eqV, nilV, Option.map_some, Nat.mul_one, implies_true, true_and, and_true, and_self]
  rw [show IntKind.u32.wrap (d.seq : Int) = (d.seq : Int) from w32 (by omega), show IntKind.u32.wrap (d.last : Int) = (d.last : Int) from w32 (by omega)]
  refine ((Grow.nil w18.drew).put (n := d.seq) (m := 2) (by omega) (by omega) (by simp)).mono ?_
  rintro _ w61 ⟨p1, c1, rfl, g1⟩
  simp only [vcs, eqV, nilV, Option.map_some, Nat.mul_one, implies_true, true_and, and_true, and_self, List.nil_append] at g1 ⊢
  refine ⟨g1.2.keep hbox id, (flag24_c d.any).mono ?_⟩
  rintro _ _ ⟨rfl, rfl⟩
  simp only [vcs, eqV, nilV, Option.map_some, Nat.mul_one, implies_true, true_and, and_true, and_self]
  refine ⟨g1.2.keep hbox id, ?_⟩
  have ef : (if d.any = true then (1 : Int) else 0) = (((if d.any then 1 else 0 : Nat)) : Int) := by split <;> rfl
  rw [ef]
  refine (g1.put (n := if d.any then 1 else 0) (m := 1) (by split <;> omega) (by omega) (by rw [beB_length]; omega)).mono ?_
  rintro _ w69 ⟨p2, c2, rfl, g2⟩
  rw [flagB_be] at g2 ⊢
  simp only [vcs, eqV, nilV, Option.map_some, Nat.mul_one, implies_true, true_and, and_true, and_self]
  refine ⟨g2.2.keep hbox id, ?_⟩
  refine (g2.put (n := d.last) (m := 2) (by omega) (by omega) (by simp [beB_length, flagB])).mono ?_
  rintro _ w74 ⟨p3, c3, rfl, g3⟩
  simp only [vcs, eqV, nilV, Option.map_some, Nat.mul_one, implies_true, true_and, and_true, and_self]
  refine ⟨g3.2.keep hbox id, ?_⟩
  refine (g3.put (n := d.bits) (m := 4) (by omega) (by omega) (by simp [beB_length, flagB])).mono ?_
  rintro _ w79 ⟨p4, c4, rfl, g4⟩
  simp only [vcs, eqV, nilV, Option.map_some, Nat.mul_one, implies_true, true_and, and_true, and_self]
  refine ⟨g4.2.keep hbox id, ?_⟩
  have he0 : (encodeM d.list).2 = 0 := he
  have hel : (encodeM d.list).1.length ≤ 1024 := by
    obtain ⟨-, -, h3, h4⟩ := enc_ok hok he0
    rw [h4]; exact h3
  have her := enc_range d.list
  obtain ⟨hd', hhd⟩ : ∃ h, h = headB d := ⟨_, rfl⟩
  have hhl : hd'.length = 9 := by rw [hhd]; exact headB_length d
  have hg4 : Grow w18.drew w79 p4 c4 hd' := by rw [hhd]; exact g4
  rw [show beB d.seq 2 ++ flagB d.any ++ beB d.last 2 ++ beB d.bits 4 = hd' by rw [hhd]; rfl]
  have hbytes : BytesAt w79 pb (encodeM d.list).1 := (BytesAt.of_own hown).keep (w := w18.drew) hg4.2 fun _ _ => id
  have hs18 : w18.drew.heap.size = w18.heap.size := rfl
  refine append_b (by rw [row25]) row5 rfl hg4.1 rfl (fun j y hj => hbytes j y hj) hg4.2.size (by simp only [maxLen]; omega) (by omega) fun v86 w86 ho86 hf86 hblk86 => ?_
  obtain ⟨p86, c86, rfl, -⟩ := own_read ho86
  simp only [vcs, eqV, nilV, Option.map_some, Nat.mul_one, implies_true, true_and, and_true, and_self]
  obtain ⟨x, hx⟩ : ∃ x, x = hd' ++ (encodeM d.list).1 := ⟨_, rfl⟩
  have hxl : x.length = hd'.length + (encodeM d.list).1.length := by rw [hx, List.length_append]
  have hxr : ∀ y ∈ x, 0 ≤ y ∧ y < 256 := by
    intro y hy
    rw [hx, List.mem_append] at hy
    exact hy.elim (fun h => headB_r d y (hhd ▸ h)) (her y)
  rw [← List.map_append, ← hx, ← hxl] at ho86
  rw [← hxl]
  have hg86 : Grow w18.drew w86 p86 c86 x := ⟨ho86, hg4.2.trans' hf86 fun i hi e => by have := (own_block hg4.1 e).1; omega⟩
  have hH86 : Halves w86 := ((hH.keep hF18 id).keep (w := w18.drew) hg86.2 id)
  refine (sum25_c hH86 (BytesAt.of_own ho86) hxr (by omega)).mono ?_
  rintro _ _ ⟨rfl, rfl⟩
  simp only [vcs, eqV, nilV, Option.map_some, Nat.mul_one, implies_true, true_and, and_true, and_self]
  have hcl := crcF_lt x 65535 (by omega) hxr
  rw [show IntKind.u32.wrap ((crcF 65535 x : Nat) : Int) = ((crcF 65535 x : Nat) : Int) from w32 (by omega)]
  refine (hg86.put (n := crcF 65535 x) (m := 2) (by omega) (by omega) (by omega)).mono ?_
  rintro _ w94 ⟨p5, c5, rfl, g5⟩
  simp only [vcs, eqV, nilV, Option.map_some, Nat.mul_one, implies_true, true_and, and_true, and_self]
  have hF94 : Fm none' w w94 := (hF18.trans (Fm.drew w18)).trans g5.2
  have hsl : sealB x = x ++ beB (crcF 65535 x) 2 := rfl
  have hen : encD d = if 1024 < (sealB x).length then ([], 5) else (sealB x, 0) := by
    unfold encD
    rw [if_neg hgo, if_neg (by simpa using he0), ← hhd, ← hx]
  refine br_dec (fun h => ?_) (fun h => ?_)
  · exact hnil 5 w94 (by rw [hen, if_pos (by rw [hsl]; omega)]) hF94
  · rw [hen, if_neg (by rw [hsl]; omega)]
    exact ⟨p5, c5, rfl, own_down g5.1 (by have := hF18.size; omega), hF94⟩
end Go.Proofs.YtipikchkbmgloaaDoor
/- The reference's Encode of a datagram, walked.  Conditions: the messages may be read. -/
namespace Go.Proofs.YtipikchkbmgloaaDoor
set_option linter.unusedSimpArgs false
set_option linter.unusedVariables false
open Go Go.RowKit VC
variable {w : World}
theorem catN {a b : List Int} {K : Value → Prop} (h : a.length + b.length ≤ 1000000) (k : K (.string (strOfNums (a ++ b)))) : rd (binV .add (.string (strOfNums a)) (.string (strOfNums b))) K := by
  refine rd_of ?_ k
  show catS _ _ = _
  rw [catS_of (by rw [strOfNums_size, strOfNums_size]; omega), strOfNums_app]
theorem catO {a b : List Int} {K : Value → Prop} (h : a.length + b.length ≤ 1000000) (k : K (.string (strOfNums (a ++ b)))) : rd (orO (binV .add (.string (strOfNums a)) (.string (strOfNums b))) none) K := by
  have e : binV .add (.string (strOfNums a)) (.string (strOfNums b)) = some (.string (strOfNums (a ++ b))) := by
    show catS _ _ = _
    rw [catS_of (by rw [strOfNums_size, strOfNums_size]; omega), strOfNums_app]
  rw [e]
  exact k
theorem beB_4 (n : Nat) (hn : n < 4294967296) : beB n 4 = beB (n / 65536) 2 ++ beB (n % 65536) 2 := by
  simp [beB, List.range_succ]
  omega
theorem flag_str (b : Bool) : (if b then Value.string ⟨#[1]⟩ else Value.string ⟨#[0]⟩) = .string (strOfNums (flagB b)) := by cases b <;> rfl
set_option maxRecDepth 20000 in
set_option maxHeartbeats 1000000 in
theorem encode11_c {d : Dg} {p : Option Addr} {c : Nat} (hd : Dok d) (hm : MsgsAt w w.heap.size p d.list) (hok : Msok d.list) (hlen : d.list.length ≤ 100) :
    callV Tryd.prog 11 [dgC d p c] w fun v w' => v = .tuple #[.string (strOfNums (encD d).1), .int .i64 (encD d).2] ∧ Fm none' w w' := by
  obtain ⟨hs, hl, hb⟩ := hd
  refine vc11 d.seq d.any d.last d.bits p d.list.length c w _ ?_
  refine allocC_of fun w1 hb1 hs1 hf1 => ?_
  have c1 : w1.cell? ⟨w.heap.size, 1, none⟩ = some (.bool d.any) := cellOf hb1 rfl
  have c2 : w1.cell? ⟨w.heap.size, 2, none⟩ = some (.int .u16 d.last) := cellOf hb1 rfl
  have c3 : w1.cell? ⟨w.heap.size, 3, none⟩ = some (.int .u32 d.bits) := cellOf hb1 rfl
  have c4 : w1.cell? ⟨w.heap.size, 4, none⟩ = some (.slice p d.list.length c) := cellOf hb1 rfl
  have hnil : ∀ (e : Int) (w' : World), encD d = ([], e) → Fm none' w w' → (.tuple #[.string ⟨⟨[]⟩⟩, .int .i64 e] : Value) = .tuple #[.string (strOfNums (encD d).1), .int .i64 (encD d).2] ∧ Fm none' w w' := by
    intro e w' he hf
    rw [he]
    exact ⟨rfl, hf⟩
  refine ⟨fun u w' => w' = w1 ∧ u 4 = .string (strOfNums (flagB d.any)), ?_, ?_⟩
  · simp only [c1, vcs, eqV, nilV, Option.map_some, Nat.mul_one, implies_true, true_and, and_true, and_self]
    cases d.any with
    | true => exact rfl
    | false => exact rfl
  rintro u w7 ⟨rfl, h4⟩
  change u 4 = _ at h4
  refine ⟨fun _ w' => w' = w7 ∧ ¬ (d.any = false ∧ (d.last ≠ 0 ∨ d.bits ≠ 0)), ?_, ?_⟩
  · simp only [c1, c2, c3, vcs, eqV, nilV, Option.map_some, Nat.mul_one, implies_true, true_and, and_true, and_self]
    cases ha : d.any with
    | true => exact fun h => by cases h.1
    | false =>
      refine br_ndec (fun h => ?_) (fun h => ?_)
      · exact hnil 1 w7 (by unfold encD; rw [if_pos ⟨ha, .inl (by omega)⟩]) hf1
      · refine br_ndec (fun h' => ?_) (fun h' => ?_)
        · exact hnil 1 w7 (by unfold encD; rw [if_pos ⟨ha, .inr (by omega)⟩]) hf1
        · exact fun h => by rcases h.2 with e | e <;> omega
  rintro u' w18 ⟨rfl, hgo⟩
  simp only [c4, vcs, eqV, nilV, Option.map_some, Nat.mul_one, implies_true, true_and, and_true, and_self]
  refine (encode15_c (hm.fm hf1) hok hlen).mono ?_
  rintro _ w25 ⟨rfl, hf25⟩
  simp only [vcs, eqV, nilV, Option.map_some, Nat.mul_one, implies_true, true_and, and_true, and_self, List.getElem?_toArray, List.getElem?_cons_zero, List.getElem?_cons_succ]
  have hF25 := hf1.trans hf25
  refine br_ndec (fun he => ?_) (fun he => ?_)
  · exact hnil _ w25 (by unfold encD; rw [if_neg hgo, if_pos he]) hF25
  have he0 : (encodeM d.list).2 = 0 := he
  have hbox : w25.drew.heap[w.heap.size]? = some (.cells #[.int .u16 d.seq, .bool d.any, .int .u16 d.last, .int .u32 d.bits, .slice p d.list.length c] 35 (0, 0)) := hf25.keep hb1 id
  refine ⟨fun w' => w'.heap[w.heap.size]? = some (.cells #[.int .u16 d.seq, .bool d.any, .int .u16 d.last, .int .u32 d.bits, .slice p d.list.length c] 35 (0, 0)), hbox, ?_⟩
  refine rd_of (v := .int .u16 d.seq) (cellOf hbox rfl) ⟨fun w' hw => rd_of (v := .int .u16 d.seq) (cellOf hw rfl) rfl, ?_⟩
  simp only [h4, vcs, eqV, nilV, Option.map_some, Nat.mul_one, implies_true, true_and, and_true, and_self]
  refine rd_of (v := .int .u16 d.last) (cellOf hbox rfl) ⟨fun w' hw => rd_of (v := .int .u16 d.last) (cellOf hw rfl) rfl, ?_⟩
  simp only [vcs, eqV, nilV, Option.map_some, Nat.mul_one, implies_true, true_and, and_true, and_self]
  refine rd_of (v := .int .u32 d.bits) (cellOf hbox rfl) ⟨fun w' hw => rd_of (v := .int .u32 d.bits) (cellOf hw rfl) rfl, ?_⟩
  simp only [vcs, eqV, nilV, Option.map_some, Nat.mul_one, implies_true, true_and, and_true, and_self]
  refine rd_of (v := .int .u32 d.bits) (cellOf hbox rfl) ⟨fun w' hw => rd_of (v := .int .u32 d.bits) (cellOf hw rfl) rfl, ?_⟩
  simp only [vcs, eqV, nilV, Option.map_some, Nat.mul_one, implies_true, true_and, and_true, and_self]
  have hel : (encodeM d.list).1.length ≤ 1024 := by
    obtain ⟨-, -, h3, h4⟩ := enc_ok hok he0
    rw [h4]; exact h3
  have her := enc_range d.list
  have lf : (flagB d.any).length = 1 := rfl
  rw [show IntKind.i64.wrap (d.seq : Int) = (d.seq : Int) from w64 (by omega), show IntKind.i64.wrap (d.last : Int) = (d.last : Int) from w64 (by omega)]
  refine (two27_c hs).mono ?_
  rintro _ w79 ⟨rfl, hf79⟩
  simp only [vcs, eqV, nilV, Option.map_some, Nat.mul_one, implies_true, true_and, and_true, and_self]
  refine ⟨hf79.keep hbox id, catO (by simp [beB_length, lf]) ⟨fun w' hw => catO (by simp [beB_length, lf]) rfl, ?_⟩⟩
  simp only [vcs, eqV, nilV, Option.map_some, Nat.mul_one, implies_true, true_and, and_true, and_self]
  refine (two27_c hl).mono ?_
  rintro _ w87 ⟨rfl, hf87⟩
  have hF87 := hf79.trans hf87
  simp only [vcs, eqV, nilV, Option.map_some, Nat.mul_one, implies_true, true_and, and_true, and_self]
  refine ⟨hF87.keep hbox id, catO (by simp [beB_length, lf]) ⟨fun w' hw => catO (by simp [beB_length, lf]) rfl, ?_⟩⟩
  simp only [vcs, eqV, nilV, Option.map_some, Nat.mul_one, implies_true, true_and, and_true, and_self]
  have t1 : IntKind.i64.wrap (IntKind.u32.wrap (Int.tdiv (d.bits : Int) 65536)) = ((d.bits / 65536 : Nat) : Int) := by
    rw [Int.tdiv_eq_ediv_of_nonneg (by omega), show (d.bits : Int) / 65536 = ((d.bits / 65536 : Nat) : Int) by omega, w32 (by omega), w64 (by omega)]
  have t2 : IntKind.i64.wrap (Int.tmod (d.bits : Int) 65536) = ((d.bits % 65536 : Nat) : Int) := by
    rw [Int.tmod_eq_emod_of_nonneg (by omega), show (d.bits : Int) % 65536 = ((d.bits % 65536 : Nat) : Int) by omega, w64 (by omega)]
  rw [t1, t2]
  refine (two27_c (n := d.bits / 65536) (by omega)).mono ?_
  rintro _ w95 ⟨rfl, hf95⟩
  have hF95 := hF87.trans hf95
  simp only [vcs, eqV, nilV, Option.map_some, Nat.mul_one, implies_true, true_and, and_true, and_self]
  refine ⟨hF95.keep hbox id, catO (by simp [beB_length, lf]) ⟨fun w' hw => catO (by simp [beB_length, lf]) rfl, ?_⟩⟩
  simp only [vcs, eqV, nilV, Option.map_some, Nat.mul_one, implies_true, true_and, and_true, and_self]
  refine (two27_c (n := d.bits % 65536) (by omega)).mono ?_
  rintro _ w103 ⟨rfl, hf103⟩
  have hF103 := hF95.trans hf103
  simp only [vcs, eqV, nilV, Option.map_some, Nat.mul_one, implies_true, true_and, and_true, and_self]
  refine ⟨hF103.keep hbox id, catO (by simp [beB_length, lf]) ⟨fun w' hw => catO (by simp [beB_length, lf]) rfl, ?_⟩⟩
  simp only [vcs, eqV, nilV, Option.map_some, Nat.mul_one, implies_true, true_and, and_true, and_self]
  refine catO (by simp [beB_length, lf]; omega) ⟨fun w' hw => catO (by simp [beB_length, lf]; omega) rfl, ?_⟩
  simp only [vcs, eqV, nilV, Option.map_some, Nat.mul_one, implies_true, true_and, and_true, and_self]
  have ehd : beB d.seq 2 ++ flagB d.any ++ beB d.last 2 ++ beB (d.bits / 65536) 2 ++ beB (d.bits % 65536) 2 = headB d := by
    unfold headB
    rw [beB_4 _ hb, ← List.append_assoc]
  rw [ehd]
  obtain ⟨x, hx⟩ : ∃ x, x = headB d ++ (encodeM d.list).1 := ⟨_, rfl⟩
  rw [← hx]
  have hxl : x.length = 9 + (encodeM d.list).1.length := by rw [hx, List.length_append, headB_length]
  have hxr : ∀ y ∈ x, 0 ≤ y ∧ y < 256 := by
    intro y hy
    rw [hx, List.mem_append] at hy
    exact hy.elim (headB_r d y) (her y)
  refine (sum28_c hxr (by omega)).mono ?_
  rintro _ _ ⟨rfl, rfl⟩
  simp only [vcs, eqV, nilV, Option.map_some, Nat.mul_one, implies_true, true_and, and_true, and_self]
  have hcl := crcF_lt x 65535 (by omega) hxr
  rw [show IntKind.i64.wrap ((crcF 65535 x : Nat) : Int) = ((crcF 65535 x : Nat) : Int) from w64 (by omega)]
  refine (two27_c hcl).mono ?_
  rintro _ w121 ⟨rfl, hf121⟩
  simp only [vcs, eqV, nilV, Option.map_some, Nat.mul_one, implies_true, true_and, and_true, and_self]
  have hbl : x.length + (beB (crcF 65535 x) 2).length ≤ 1000000 := by rw [beB_length]; omega
  first | refine catO hbl ?_ | refine catN hbl ?_
  simp only [vcs, eqV, nilV, Option.map_some, Nat.mul_one, implies_true, true_and, and_true, and_self, strOfNums_size]
  have hF121 : Fm none' w w121 := ((hF25.trans (Fm.drew w25)).trans hF103).trans hf121
  have hsl : sealB x = x ++ beB (crcF 65535 x) 2 := rfl
  have hen : encD d = if 1024 < (sealB x).length then ([], 5) else (sealB x, 0) := by
    unfold encD
    rw [if_neg hgo, if_neg (by simpa using he0), ← hx]
  refine br_dec (fun h => ?_) (fun h => ?_)
  · exact hnil 5 w121 (by rw [hen, if_pos (by rw [hsl]; omega)]) hF121
  · rw [hen, if_neg (by rw [hsl]; omega)]
    exact ⟨rfl, hF121⟩
end Go.Proofs.YtipikchkbmgloaaDoor
/- What a datagram's Decode gives, in plain words.  Conditions: none. -/
namespace Go.Proofs.YtipikchkbmgloaaDoor
set_option linter.unusedSimpArgs false
set_option linter.unusedVariables false
open Go Go.RowKit VC
def dgZ : Dg := ⟨0, false, 0, 0, []⟩
def bodyB (ys : List Int) : List Int := ys.take (ys.length - 2)
/-- The numbers of the head. -/
def numsD (ys : List Int) : Dg := ⟨valB (ys.take 2), decide (ys.getD 2 0 = 1), valB ((ys.take 5).drop 3), valB ((ys.take 9).drop 5), []⟩
def decD (ys : List Int) : Dg × Int :=
  if ys.length < 11 then (dgZ, 2)
  else if valB (ys.drop (ys.length - 2)) ≠ crcF 65535 (bodyB ys) then (dgZ, 4)
  else if 1024 < ys.length ∨ 1 < ys.getD 2 0 ∨ ((numsD ys).any = false ∧ ((numsD ys).last ≠ 0 ∨ (numsD ys).bits ≠ 0)) then (dgZ, 3)
  else if (decodeM ((bodyB ys).drop 9)).2 ≠ 0 then (dgZ, (decodeM ((bodyB ys).drop 9)).2)
  else ({ numsD ys with list := (decodeM ((bodyB ys).drop 9)).1 }, 0)
theorem valB_2 {n : Nat} (h : n < 65536) : valB (beB n 2) = n := by
  rw [beB_2]; simp [valB]; omega
theorem valB_4 {n : Nat} (h : n < 4294967296) : valB (beB n 4) = n := by
  simp [beB, List.range_succ, valB]; omega
theorem beB_val2 {ys : List Int} (hl : ys.length = 2) (hy : ∀ y ∈ ys, 0 ≤ y ∧ y < 256) : beB (valB ys) 2 = ys := by
  match ys, hl with
  | [a, b], _ =>
    have ha := hy a (by simp)
    have hb := hy b (by simp)
    rw [beB_2]
    simp [valB]
    omega
end Go.Proofs.YtipikchkbmgloaaDoor
/- netchan.Decode, walked.  Conditions: the bytes may be read and are bytes; the table lies as it is listed. -/
namespace Go.Proofs.YtipikchkbmgloaaDoor
set_option linter.unusedSimpArgs false
set_option linter.unusedVariables false
open Go Go.RowKit VC
variable {w : World}
theorem sliceAt_lh {P : Program} {w : World} {t e : TypeId} {k : K} {b : Nat} {z : Value} {a : Option Addr} {n c : Nat} {kl kh : IntKind} {l h : Int} {KK : Value → World → Prop} (ht : (row P t).k = .slice e) (he : row P e = ⟨k, 1, b, some z⟩) (h0 : 0 ≤ l) (h1 : l ≤ h) (h2 : h ≤ c)
    (kk : KK (.slice (if c = l.toNat then a else a.map (·.add l.toNat)) (h.toNat - l.toNat) (c - l.toNat)) w) : runs P (Instr.sliceAt t (.slice a n c) (some (.int kl l)) (some (.int kh h)) none) w KK := by
  obtain ⟨hu, h3⟩ := elem_of_row ht
  obtain ⟨i, hi, hz, hsz, hbt⟩ := info_of_row he
  refine ⟨_, _, ?_, kk⟩
  rw [run_sliceAt_slice _ _ _ _ _ _ hu, run_slice_lh _ _ _ _ _ hu _ _ _ _ h0 h1 h2, h3, run_size hi, hsz]
  simp [Result.andThen, sliced]
theorem OwnMsgs.base {base b : Nat} {sv : Value} {ms : List Msg} (h : OwnMsgs w base sv ms) (hb : b ≤ base) : OwnMsgs w b sv ms := by
  obtain ⟨qs, h1, h2, h3⟩ := h
  exact ⟨qs, h1, own_base h2 hb, fun j m q hj hq => own_base (h3 j m q hj hq) hb⟩
theorem bytes_sub {p : Option Addr} {ys : List Int} (h : BytesAt w p ys) {lo hi cap : Nat} (hlh : lo ≤ hi) (hc : hi ≤ cap) : BytesAt w (if cap = lo then p else p.map (·.add lo)) ((ys.take hi).drop lo) := by
  intro j y hj
  have hjl := (List.getElem?_eq_some_iff.1 hj).1
  rw [List.length_drop, List.length_take] at hjl
  rw [List.getElem?_drop, List.getElem?_take_of_lt (by omega)] at hj
  obtain ⟨ad, rfl, hcl⟩ := h _ y hj
  rw [if_neg (by omega)]
  refine ⟨ad.add lo, rfl, ?_⟩
  rw [add_add]
  exact hcl
/-- What Decode hands back. -/
def DecR (w0 : World) (r : Dg × Int) (v : Value) (w' : World) : Prop :=
  ∃ q c, v = .tuple #[dgC r.1 q c, .int .i64 r.2] ∧ OwnMsgs w' w0.heap.size (.slice q r.1.list.length c) r.1.list ∧ Fm none' w0 w'
set_option maxRecDepth 20000 in
set_option maxHeartbeats 2000000 in
theorem decode12_c {ys : List Int} {p : Option Addr} {c : Nat} (hH : Halves w) (hb : BytesAt w p ys) (hy : ∀ y ∈ ys, 0 ≤ y ∧ y < 256) (hl : ys.length ≤ 1000000) (hnc : ys.length ≤ c) :
    callV Tryd.prog 12 [.slice p ys.length c] w (DecR w (decD ys)) := by
  refine vc12 p ys.length c w _ ?_
  refine allocC_of fun w1 hb1 hs1 hf1 => ?_
  have fail : ∀ (e : Int) (w' : World), decD ys = (dgZ, e) → Fm none' w w' → (∃ C, C.size = 5 ∧ w'.heap[w.heap.size]? = some (.cells C 32 (0, 0))) →
      stC w' ⟨w.heap.size, 0, none⟩ [.int .u16 0, .bool false, .int .u16 0, .int .u32 0, .slice none 0 0] fun w2 => rd (cellsAt w2 ⟨w.heap.size, 0, none⟩ 5) fun l => DecR w (decD ys) (.tuple #[.agg l.toArray, .int .i64 e]) w2 := by
    rintro e w' he hf ⟨C, hC, hbx⟩
    refine stC_all hbx (by rw [hC]; rfl) (fun v hv => by simp at hv; rcases hv with rfl | rfl | rfl | rfl | rfl <;> rfl) fun w2 hb2 hf2 => ?_
    refine rd_of (cells_all hb2 rfl) ?_
    rw [he]
    exact ⟨none, 0, rfl, ⟨[], rfl, World.ownsRow_nil _ _ _ _, fun j m q h => by simp [dgZ] at h⟩, hf.trans' hf2 fun i hi e => by omega⟩
  refine br_dec (fun h11 => ?_) (fun h11 => ?_)
  · exact fail 2 w1 (by unfold decD; rw [if_pos (by omega)]) hf1 ⟨_, rfl, hb1⟩
  obtain ⟨k, hk⟩ : ∃ k, k = ys.length - 2 := ⟨_, rfl⟩
  rw [show IntKind.i64.wrap ((ys.length : Int) - 2) = (k : Int) from (w64 (by omega)).trans (by omega)]
  refine ⟨fun _ => True, trivial, ?_⟩
  simp only [vcs, eqV, nilV, Option.map_some, Nat.mul_one, implies_true, true_and, and_true, and_self]
  refine sliceAt_hi (by rw [row25]) row5 (by omega) (by omega) ⟨fun w' _ => sliceAt_hi (by rw [row25]) row5 (by omega) (by omega) ⟨rfl, rfl⟩, ?_⟩
  simp only [vcs, eqV, nilV, Option.map_some, Nat.mul_one, implies_true, true_and, and_true, and_self, Int.toNat_natCast]
  refine sliceAt_lo (by rw [row25]) row5 (by omega) (by omega) ⟨fun w' _ => sliceAt_lo (by rw [row25]) row5 (by omega) (by omega) ⟨rfl, rfl⟩, ?_⟩
  simp only [vcs, eqV, nilV, Option.map_some, Nat.mul_one, implies_true, true_and, and_true, and_self, Int.toNat_natCast]
  have hf1d := hf1.trans (Fm.drew w1)
  have hbd := hb.keep hf1d fun _ _ => id
  have hsumB : BytesAt w1.drew (if c = k then p else p.map (·.add k)) (ys.drop k) := by
    have := bytes_sub hbd (lo := k) (hi := ys.length) (cap := c) (by omega) hnc
    rwa [List.take_of_length_le (Nat.le_refl _)] at this
  have hsl : (ys.drop k).length = ys.length - k := List.length_drop
  rw [← hsl]
  refine (get29_c hsumB (fun y h => hy y (List.mem_of_mem_drop h)) (by omega)).mono ?_
  rintro _ w44 ⟨rfl, rfl⟩
  simp only [vcs, eqV, nilV, Option.map_some, Nat.mul_one, implies_true, true_and, and_true, and_self]
  have hbody : bodyB ys = ys.take k := by unfold bodyB; rw [hk]
  have hbl : (ys.take k).length = k := by rw [List.length_take]; omega
  have hbodyB : BytesAt w1.drew (if c = 0 then p else p.map (·.add 0)) (ys.take k) := (hbd.take k).zero c
  have hHd : Halves w1.drew := hH.keep hf1d id
  have hbr : ∀ y ∈ ys.take k, 0 ≤ y ∧ y < 256 := fun y h => hy y (List.mem_of_mem_take h)
  refine callV.mono (R := fun v w' => v = .int .u16 (crcF 65535 (ys.take k) : Nat) ∧ w' = w1.drew) (by
    have := sum25_c (c := c) hHd hbodyB hbr (by omega)
    rwa [hbl] at this) ?_
  rintro _ _ ⟨rfl, rfl⟩
  simp only [vcs, eqV, nilV, Option.map_some, Nat.mul_one, implies_true, true_and, and_true, and_self]
  have hcl := crcF_lt (ys.take k) 65535 (by omega) hbr
  rw [show IntKind.u32.wrap ((crcF 65535 (ys.take k) : Nat) : Int) = ((crcF 65535 (ys.take k) : Nat) : Int) from w32 (by omega)]
  have hbxd : w1.drew.heap[w.heap.size]? = some (.cells #[.int .u16 0, .bool false, .int .u16 0, .int .u32 0, .slice none 0 0] 32 (0, 0)) := hb1
  refine br_ndec (fun hne => ?_) (fun heq => ?_)
  · exact fail 4 w1.drew (by unfold decD; rw [if_neg (by omega), if_pos (by rw [hbody, ← hk]; omega)]) hf1d ⟨_, rfl, hbxd⟩
  have hsum : valB (ys.drop k) = crcF 65535 (ys.take k) := by omega
  obtain ⟨y2, hy2⟩ : ∃ y, ys[2]? = some y := ⟨ys[2]'(by omega), by simp⟩
  obtain ⟨ad, rfl, hc2⟩ := hbd 2 y2 hy2
  have hy2r := hy y2 (List.mem_of_getElem? hy2)
  obtain ⟨W0, hW0⟩ : ∃ W0, W0 = w1.drew.drew := ⟨_, rfl⟩
  have hf0 : Fm none' w W0 := hW0 ▸ hf1d.trans (Fm.drew _)
  have hb0 : BytesAt W0 (some ad) ys := hb.keep hf0 fun _ _ => id
  have hbx0 : W0.heap[w.heap.size]? = some (.cells #[.int .u16 0, .bool false, .int .u16 0, .int .u32 0, .slice none 0 0] 32 (0, 0)) := hW0 ▸ hb1
  rw [← hW0]
  refine ⟨fun u w' => ∃ b, u 6 = .pointer (some ⟨b, 0, none⟩) ∧ w.heap.size < b ∧ Fm none' W0 w' ∧ w'.heap[b]? = some (.cells #[.int .u16 (numsD ys).seq, .bool (numsD ys).any, .int .u16 (numsD ys).last, .int .u32 (numsD ys).bits, .slice none 0 0] 32 (0, 0)), ?_, ?_⟩
  · refine ⟨fun w' => Fm none' W0 w', Fm.refl _ _, ?_⟩
    simp only [vcs, eqV, nilV, Option.map_some, Nat.mul_one, implies_true, true_and, and_true, and_self]
    refine sliceAt_hi (by rw [row25]) row5 (by omega) (by omega) ⟨fun w' _ => sliceAt_hi (by rw [row25]) row5 (by omega) (by omega) ⟨rfl, rfl⟩, ?_⟩
    simp only [vcs, eqV, nilV, Option.map_some, Nat.mul_one, implies_true, true_and, and_true, and_self]
    refine ⟨by omega, fun w' _ => by omega, ?_⟩
    have hc20 : W0.cell? (ad.add 2) = some (.int .u8 y2) := by
      obtain ⟨_, e, h⟩ := hb0 2 y2 hy2
      cases e; exact h
    have hc2' : ∀ w', Fm none' W0 w' → w'.cell? (ad.add 2) = some (.int .u8 y2) := fun w' h => h.cell hc20 id
    refine rd_of hc20 ⟨fun w' h => rd_of (hc2' w' h) rfl, ?_⟩
    simp only [vcs, eqV, nilV, Option.map_some, Nat.mul_one, implies_true, true_and, and_true, and_self]
    refine sliceAt_lh (by rw [row25]) row5 (by omega) (by omega) (by omega) ⟨fun w' _ => sliceAt_lh (by rw [row25]) row5 (by omega) (by omega) (by omega) ⟨rfl, rfl⟩, ?_⟩
    simp only [vcs, eqV, nilV, Option.map_some, Nat.mul_one, implies_true, true_and, and_true, and_self]
    refine sliceAt_lh (by rw [row25]) row5 (by omega) (by omega) (by omega) ⟨fun w' _ => sliceAt_lh (by rw [row25]) row5 (by omega) (by omega) (by omega) ⟨rfl, rfl⟩, ?_⟩
    simp only [vcs, eqV, nilV, Option.map_some, Nat.mul_one, implies_true, true_and, and_true, and_self]
    have g1 : ∀ W', Fm none' W0 W' → callV Tryd.prog 29 [.slice (if c = 0 then some ad else some (ad.add 0)) (Int.toNat 2) c] W' fun v w' => v = .int .u32 (valB (ys.take 2) : Nat) ∧ w' = W' := by
      intro W' h
      have hl2 : (ys.take 2).length = 2 := by rw [List.length_take]; omega
      have := get29_c (c := c) (((hb0.keep h fun _ _ => id).take 2).zero c) (fun y h => hy y (List.mem_of_mem_take h)) (by omega)
      rw [hl2] at this
      exact this
    have g2 : ∀ W', Fm none' W0 W' → callV Tryd.prog 29 [.slice (if c = Int.toNat 3 then some ad else some (ad.add (Int.toNat 3))) (Int.toNat 5 - Int.toNat 3) (c - Int.toNat 3)] W' fun v w' => v = .int .u32 (valB ((ys.take 5).drop 3) : Nat) ∧ w' = W' := by
      intro W' h
      have hl2 : ((ys.take 5).drop 3).length = 2 := by rw [List.length_drop, List.length_take]; omega
      have := get29_c (c := c - 3) (bytes_sub (lo := 3) (hi := 5) (cap := c) (hb0.keep h fun _ _ => id) (by omega) (by omega)) (fun y h => hy y (List.mem_of_mem_take (List.mem_of_mem_drop h))) (by omega)
      rw [hl2] at this
      exact this
    have g3 : ∀ W', Fm none' W0 W' → callV Tryd.prog 29 [.slice (if c = Int.toNat 5 then some ad else some (ad.add (Int.toNat 5))) (Int.toNat 9 - Int.toNat 5) (c - Int.toNat 5)] W' fun v w' => v = .int .u32 (valB ((ys.take 9).drop 5) : Nat) ∧ w' = W' := by
      intro W' h
      have hl2 : ((ys.take 9).drop 5).length = 4 := by rw [List.length_drop, List.length_take]; omega
      have := get29_c (c := c - 5) (bytes_sub (lo := 5) (hi := 9) (cap := c) (hb0.keep h fun _ _ => id) (by omega) (by omega)) (fun y h => hy y (List.mem_of_mem_take (List.mem_of_mem_drop h))) (by omega)
      rw [hl2] at this
      exact this
    have hv1 := valB_lt 2 (ys.take 2) (by rw [List.length_take]; omega) fun y h => hy y (List.mem_of_mem_take h)
    have hv2 := valB_lt 2 ((ys.take 5).drop 3) (by rw [List.length_drop, List.length_take]; omega) fun y h => hy y (List.mem_of_mem_take (List.mem_of_mem_drop h))
    have hnd : numsD ys = ⟨valB (ys.take 2), decide (y2 = 1), valB ((ys.take 5).drop 3), valB ((ys.take 9).drop 5), []⟩ := by
      unfold numsD
      rw [List.getD_eq_getElem?_getD, hy2]; rfl
    rw [hnd]
    generalize valB (ys.take 2) = a1 at g1 hv1 ⊢
    generalize valB ((ys.take 5).drop 3) = a2 at g2 hv2 ⊢
    generalize valB ((ys.take 9).drop 5) = a3 at g3 ⊢
    have e1 : IntKind.u16.wrap (a1 : Int) = a1 := w16 (by omega)
    have e2 : IntKind.u16.wrap (a2 : Int) = a2 := w16 (by omega)
    have fin : ∀ (b : Nat) W1, W1.heap[b]? = some (.cells #[.int .u16 0, .bool false, .int .u16 0, .int .u32 0, .slice none 0 0] 32 (0, 0)) → W0.heap.size ≤ b → Fm none' W0 W1 →
        stC W1 ⟨b, 0, none⟩ [.int .u16 a1, .bool (decide (y2 = 1)), .int .u16 a2, .int .u32 a3, .slice none 0 0] fun w' => ∃ b', alist [(6, .pointer (some ⟨b, 0, none⟩))] 6 = .pointer (some ⟨b', 0, none⟩) ∧ w.heap.size < b' ∧ Fm none' W0 w' ∧
          w'.heap[b']? = some (.cells #[.int .u16 a1, .bool (decide (y2 = 1)), .int .u16 a2, .int .u32 a3, .slice none 0 0] 32 (0, 0)) := by
      intro b W1 hbl hge hF1
      refine stC_all hbl rfl (fun v hv => by simp at hv; rcases hv with rfl | rfl | rfl | rfl | rfl <;> rfl) fun w2 hb2 hf2 => ?_
      have := lt_of_blk hbx0
      exact ⟨b, rfl, by omega, hF1.trans' hf2 fun i hi e => by omega, hb2⟩
    have al : ∀ (W' : World) (K : Nat → World → Prop), Fm none' W0 W' → (∀ b W1, W1.heap[b]? = some (.cells #[.int .u16 0, .bool false, .int .u16 0, .int .u32 0, .slice none 0 0] 32 (0, 0)) → W0.heap.size ≤ b → Fm none' W0 W1 → Fm none' W0 W1 ∧ K b W1) →
        allocC W' (.cells #[.int .u16 0, .bool false, .int .u16 0, .int .u32 0, .slice none 0 0] 32 (0, 0)) fun b W1 => Fm none' W0 W1 ∧ K b W1 := by
      intro W' K hF k
      refine allocC_of fun W1 h1 _ h3 => ?_
      exact k _ W1 h1 hF.size (hF.trans h3)
    refine ⟨(g1 _ (Fm.refl _ _)).mono ?_, al _ _ (Fm.refl _ _) fun b W1 hb hg hF => ⟨hF, (g1 _ hF).mono ?_⟩⟩
    · rintro _ _ ⟨rfl, rfl⟩
      simp only [vcs, eqV, nilV, Option.map_some, Nat.mul_one, implies_true, true_and, and_true, and_self, e1]
      refine ⟨Fm.refl _ _, (g2 _ (Fm.refl _ _)).mono ?_, al _ _ (Fm.refl _ _) fun b W1 hb hg hF => ⟨hF, (g2 _ hF).mono ?_⟩⟩
      · rintro _ _ ⟨rfl, rfl⟩
        simp only [vcs, eqV, nilV, Option.map_some, Nat.mul_one, implies_true, true_and, and_true, and_self, e2]
        refine ⟨Fm.refl _ _, (g3 _ (Fm.refl _ _)).mono ?_, al _ _ (Fm.refl _ _) fun b W1 hb hg hF => ⟨hF, (g3 _ hF).mono ?_⟩⟩
        · rintro _ _ ⟨rfl, rfl⟩
          simp only [vcs, eqV, nilV, Option.map_some, Nat.mul_one, implies_true, true_and, and_true, and_self]
          exact ⟨Fm.refl _ _, al _ _ (Fm.refl _ _) fun b W1 hb hg hF => ⟨hF, fin b W1 hb hg hF⟩⟩
        · rintro _ _ ⟨rfl, rfl⟩
          simp only [vcs, eqV, nilV, Option.map_some, Nat.mul_one, implies_true, true_and, and_true, and_self]
          exact ⟨hF, fin b _ hb hg hF⟩
      · rintro _ _ ⟨rfl, rfl⟩
        simp only [vcs, eqV, nilV, Option.map_some, Nat.mul_one, implies_true, true_and, and_true, and_self, e2]
        refine ⟨hF, (g3 _ hF).mono ?_⟩
        rintro _ _ ⟨rfl, rfl⟩
        simp only [vcs, eqV, nilV, Option.map_some, Nat.mul_one, implies_true, true_and, and_true, and_self]
        exact ⟨hF, fin b _ hb hg hF⟩
    · rintro _ _ ⟨rfl, rfl⟩
      simp only [vcs, eqV, nilV, Option.map_some, Nat.mul_one, implies_true, true_and, and_true, and_self, e1]
      refine ⟨hF, (g2 _ hF).mono ?_⟩
      rintro _ _ ⟨rfl, rfl⟩
      simp only [vcs, eqV, nilV, Option.map_some, Nat.mul_one, implies_true, true_and, and_true, and_self, e2]
      refine ⟨hF, (g3 _ hF).mono ?_⟩
      rintro _ _ ⟨rfl, rfl⟩
      simp only [vcs, eqV, nilV, Option.map_some, Nat.mul_one, implies_true, true_and, and_true, and_self]
      exact ⟨hF, fin b _ hb hg hF⟩
  rintro u W2 ⟨b2, h6, hlt2, hF2, hbk2⟩
  change u 6 = _ at h6
  simp only [h6, vcs, eqV, nilV, Option.map_some, Nat.mul_one, implies_true, true_and, and_true, and_self]
  have hFw2 : Fm none' w W2 := hf0.trans hF2
  have hbxW2 : W2.heap[w.heap.size]? = some (.cells #[.int .u16 0, .bool false, .int .u16 0, .int .u32 0, .slice none 0 0] 32 (0, 0)) := hF2.keep hbx0 id
  have hpre : ∀ x : Dg × Int, decD ys = x ↔ (if 1024 < ys.length ∨ 1 < ys.getD 2 0 ∨ ((numsD ys).any = false ∧ ((numsD ys).last ≠ 0 ∨ (numsD ys).bits ≠ 0)) then (dgZ, 3)
      else if (decodeM ((bodyB ys).drop 9)).2 ≠ 0 then (dgZ, (decodeM ((bodyB ys).drop 9)).2) else ({ numsD ys with list := (decodeM ((bodyB ys).drop 9)).1 }, 0)) = x := by
    intro x
    unfold decD
    rw [if_neg (by omega), if_neg (by rw [hbody, ← hk]; simpa using hsum)]
  have hgd : ys.getD 2 0 = y2 := by rw [List.getD_eq_getElem?_getD, hy2]; rfl
  have form : (1024 < ys.length ∨ 1 < y2 ∨ ((numsD ys).any = false ∧ ((numsD ys).last ≠ 0 ∨ (numsD ys).bits ≠ 0))) → decD ys = (dgZ, 3) := by
    intro h
    rw [hpre, hgd, if_pos h]
  refine ⟨fun _ w' => w' = W2 ∧ ¬ (1024 < ys.length ∨ 1 < y2 ∨ ((numsD ys).any = false ∧ ((numsD ys).last ≠ 0 ∨ (numsD ys).bits ≠ 0))), ?_, ?_⟩
  · have hc2W : W2.cell? (ad.add 2) = some (.int .u8 y2) := hf0.trans hF2 |>.cell (by
      obtain ⟨_, e, h⟩ := hb 2 y2 hy2
      cases e; exact h) id
    have k1 : W2.cell? ((⟨b2, 0, none⟩ : Addr).add 1) = some (.bool (numsD ys).any) := by rw [addr_add]; exact cellOf hbk2 rfl
    have k2 : W2.cell? ((⟨b2, 0, none⟩ : Addr).add 2) = some (.int .u16 (numsD ys).last) := by rw [addr_add]; exact cellOf hbk2 rfl
    have k3 : W2.cell? ((⟨b2, 0, none⟩ : Addr).add 3) = some (.int .u32 (numsD ys).bits) := by rw [addr_add]; exact cellOf hbk2 rfl
    simp only [hc2W, k1, k2, k3, vcs, eqV, nilV, Option.map_some, Nat.mul_one, implies_true, true_and, and_true, and_self]
    refine br_dec (fun h => fail 3 W2 (form (.inl (by omega))) hFw2 ⟨_, rfl, hbxW2⟩) fun h1 => ⟨by omega, ?_⟩
    refine br_dec (fun h => fail 3 W2 (form (.inr (.inl h))) hFw2 ⟨_, rfl, hbxW2⟩) fun h2 => ?_
    cases ha : (numsD ys).any with
    | true =>
      intro h
      rcases h with h | h | h
      · omega
      · omega
      · cases h.1
    | false =>
      refine br_dec (fun h => fail 3 W2 (form (.inr (.inr ⟨ha, .inl (by omega)⟩))) hFw2 ⟨_, rfl, hbxW2⟩) fun h3 => ?_
      refine br_dec (fun h => fail 3 W2 (form (.inr (.inr ⟨ha, .inr (by omega)⟩))) hFw2 ⟨_, rfl, hbxW2⟩) fun h4 => ?_
      intro h
      rcases h with h | h | h
      · omega
      · omega
      · rcases h.2 with h | h <;> omega
  rintro u3 W3 ⟨rfl, hgo⟩
  refine sliceAt_lo (by rw [row25]) row5 (by omega) (by omega) ?_
  simp only [vcs, eqV, nilV, Option.map_some, Nat.mul_one, implies_true, true_and, and_true, and_self]
  have hdl : ((bodyB ys).drop 9).length = k - 9 := by rw [hbody, List.length_drop, hbl]
  have hbB : BytesAt W3 (if c = Int.toNat 9 then (if c = 0 then some ad else some (ad.add 0)) else (if c = 0 then some ad else some (ad.add 0)).map (·.add (Int.toNat 9))) ((bodyB ys).drop 9) := by
    have h0 : BytesAt W3 (if c = 0 then some ad else some (ad.add 0)) (ys.take k) := ((hb.keep hFw2 fun _ _ => id).take k).zero c
    have := bytes_sub h0 (lo := 9) (hi := k) (cap := c) (by omega) (by omega)
    rw [List.take_of_length_le (Nat.le_of_eq hbl), ← hbody] at this
    exact this
  rw [show k - Int.toNat 9 = ((bodyB ys).drop 9).length from hdl.symm]
  refine (decode18_c hbB (fun y h => hy y (List.mem_of_mem_take (List.mem_of_mem_drop h))) (by omega)).mono ?_
  rintro _ W4 ⟨sv, rfl, hown, hF4⟩
  obtain ⟨pm, cm, rfl, -⟩ := hown.at
  simp only [vcs, eqV, nilV, Option.map_some, Nat.mul_one, implies_true, true_and, and_true, and_self, List.getElem?_toArray, List.getElem?_cons_zero, List.getElem?_cons_succ]
  have hbxW4 := hF4.keep hbxW2 id
  have hF4w := hFw2.trans hF4
  refine br_ndec (fun he => ?_) (fun he => ?_)
  · exact fail _ W4 (by rw [hpre, hgd, if_neg hgo, if_pos he]) hF4w ⟨_, rfl, hbxW4⟩
  have hbk4 := hF4.keep hbk2 id
  rw [addr_add]
  refine stC_one hbk4 (by simp) rfl fun W5 hb5 hf5 => ?_
  refine rd_of (cells_all hb5 rfl) ?_
  refine rd_of (v := ()) rfl ?_
  have hbx5 : W5.heap[w.heap.size]? = some (.cells #[.int .u16 0, .bool false, .int .u16 0, .int .u32 0, .slice none 0 0] 32 (0, 0)) := hf5.keep hbxW4 (by omega)
  refine stC_all hbx5 rfl (fun v hv => by simp at hv; rcases hv with rfl | rfl | rfl | rfl | rfl <;> rfl) fun W6 hb6 hf6 => ?_
  refine rd_of (cells_all hb6 rfl) ?_
  have hdec : decD ys = ({ numsD ys with list := (decodeM ((bodyB ys).drop 9)).1 }, 0) := by
    rw [hpre, hgd, if_neg hgo, if_neg (by simpa using he)]
  rw [hdec]
  refine ⟨pm, cm, rfl, ?_, (hF4w.trans' hf5 fun i hi e => by omega).trans' hf6 fun i hi e => by omega⟩
  refine OwnMsgs.keep (S := fun i => i = b2 ∨ i = w.heap.size) ?_ ((hf5.mono fun i _ e => .inl e).trans (hf6.mono fun i _ e => .inr e)) ?_
  · exact hown.base hFw2.size
  · rintro i cc t hi hbi ht (rfl | rfl)
    · rw [hbk4] at hi; cases hi; rcases ht with h | h <;> cases h
    · rw [hbxW4] at hi; cases hi; rcases ht with h | h <;> cases h
end Go.Proofs.YtipikchkbmgloaaDoor
/- The reference's Decode of a datagram, walked.  Conditions: the bytes are bytes. -/
namespace Go.Proofs.YtipikchkbmgloaaDoor
set_option linter.unusedSimpArgs false
set_option linter.unusedVariables false
open Go Go.RowKit VC
variable {w : World}
theorem slice_strH {P : Program} {w : World} {t : TypeId} {ys : List Int} {h : Nat} {kh : IntKind} {K : Value → World → Prop} (ht : (row P t).k = .string) (hh : h ≤ ys.length) (k : K (.string (strOfNums (ys.take h))) w) :
    runs P (Instr.sliceAt t (.string (strOfNums ys)) none (some (.int kh (h : Int))) none) w K := by
  have hu := string_of_row ht
  refine ⟨_, _, ?_, k⟩
  rw [run_sliceAt_string w t _ _ _ _ hu, run_slice_string_h _ _ _ hu kh h (by omega) (by rw [strOfNums_size]; omega), Int.toNat_natCast, extract_str, List.drop_zero]
theorem slice_strL {P : Program} {w : World} {t : TypeId} {ys : List Int} {l : Nat} {kl : IntKind} {K : Value → World → Prop} (ht : (row P t).k = .string) (hh : l ≤ ys.length) (k : K (.string (strOfNums (ys.drop l))) w) :
    runs P (Instr.sliceAt t (.string (strOfNums ys)) (some (.int kl (l : Int))) none none) w K := by
  have hu := string_of_row ht
  refine ⟨_, _, ?_, k⟩
  rw [run_sliceAt_string w t _ _ _ _ hu, run_slice_string_l _ _ _ hu kl l (by omega) (by rw [strOfNums_size]; omega), Int.toNat_natCast, strOfNums_size, extract_str, List.take_length]
theorem valB_zero : ∀ (ys : List Int), (∀ y ∈ ys, 0 ≤ y ∧ y < 256) → (valB ys = 0 ↔ ys = List.replicate ys.length 0) := by
  intro ys
  suffices h : ∀ n (ys : List Int), ys.length = n → (∀ y ∈ ys, 0 ≤ y ∧ y < 256) → (valB ys = 0 ↔ ys = List.replicate n 0) from fun hy => h _ ys rfl hy
  intro n
  induction n with
  | zero => intro ys h _; rw [List.length_eq_zero_iff.1 h]; simp [valB]
  | succ n ih =>
    intro ys h hy
    obtain ⟨l, y, rfl⟩ : ∃ l y, ys = l ++ [y] := ⟨ys.dropLast, ys.getLast (by intro e; rw [e] at h; simp at h), (List.dropLast_concat_getLast _).symm⟩
    have h1 := ih l (by simpa using h) fun z hz => hy z (by simp [hz])
    have h2 := hy y (by simp)
    rw [valB_snoc, List.replicate_succ']
    constructor
    · intro h
      have e1 : valB l = 0 := by omega
      have e2 : y = 0 := by omega
      rw [h1.1 e1, e2]
    · intro h
      have := List.append_inj' h rfl
      have e1 := h1.2 this.1
      have e2 : y = 0 := by simpa using this.2
      rw [e1, e2]; rfl
theorem zero6 {ys : List Int} (hy : ∀ y ∈ ys, 0 ≤ y ∧ y < 256) (hl : 9 ≤ ys.length) : ((ys.take 9).drop 3 = List.replicate 6 0) ↔ ¬ (valB ((ys.take 5).drop 3) ≠ 0 ∨ valB ((ys.take 9).drop 5) ≠ 0) := by
  have e : (ys.take 9).drop 3 = (ys.take 5).drop 3 ++ (ys.take 9).drop 5 := by
    have h1 : (ys.take 9).drop 3 = ((ys.take 9).drop 3).take 2 ++ ((ys.take 9).drop 3).drop 2 := (List.take_append_drop _ _).symm
    rw [h1, List.drop_drop, List.take_drop, List.take_take]
    rfl
  have l1 : ((ys.take 5).drop 3).length = 2 := by rw [List.length_drop, List.length_take]; omega
  have l2 : ((ys.take 9).drop 5).length = 4 := by rw [List.length_drop, List.length_take]; omega
  have z1 := valB_zero ((ys.take 5).drop 3) fun y h => hy y (List.mem_of_mem_take (List.mem_of_mem_drop h))
  have z2 := valB_zero ((ys.take 9).drop 5) fun y h => hy y (List.mem_of_mem_take (List.mem_of_mem_drop h))
  rw [l1] at z1
  rw [l2] at z2
  rw [e, not_or, Decidable.not_not, Decidable.not_not, z1, z2]
  constructor
  · intro h
    exact List.append_inj h (by rw [l1]; rfl)
  · rintro ⟨h1, h2⟩
    rw [h1, h2]; rfl
set_option maxRecDepth 20000 in
set_option maxHeartbeats 2000000 in
theorem decode13_c {ys : List Int} (hy : ∀ y ∈ ys, 0 ≤ y ∧ y < 256) (hl : ys.length ≤ 10000) :
    callV Tryd.prog 13 [.string (strOfNums ys)] w (DecR w (decD ys)) := by
  refine vc13 (strOfNums ys) w _ ?_
  simp only [strOfNums_size]
  refine allocC_of fun w1 hb1 hs1 hf1 => ?_
  have fail : ∀ (e : Int) (w' : World), decD ys = (dgZ, e) → Fm none' w w' → (∃ C, C.size = 5 ∧ w'.heap[w.heap.size]? = some (.cells C 35 (0, 0))) →
      stC w' ⟨w.heap.size, 0, none⟩ [.int .u16 0, .bool false, .int .u16 0, .int .u32 0, .slice none 0 0] fun w2 => rd (cellsAt w2 ⟨w.heap.size, 0, none⟩ 5) fun l => DecR w (decD ys) (.tuple #[.agg l.toArray, .int .i64 e]) w2 := by
    rintro e w' he hf ⟨C, hC, hbx⟩
    refine stC_all hbx (by rw [hC]; rfl) (fun v hv => by simp at hv; rcases hv with rfl | rfl | rfl | rfl | rfl <;> rfl) fun w2 hb2 hf2 => ?_
    refine rd_of (cells_all hb2 rfl) ?_
    rw [he]
    exact ⟨none, 0, rfl, ⟨[], rfl, World.ownsRow_nil _ _ _ _, fun j m q h => by simp [dgZ] at h⟩, hf.trans' hf2 fun i hi e => by omega⟩
  refine br_dec (fun h11 => ?_) (fun h11 => ?_)
  · exact fail 2 w1 (by unfold decD; rw [if_pos (by omega)]) hf1 ⟨_, rfl, hb1⟩
  obtain ⟨k, hk⟩ : ∃ k, k = ys.length - 2 := ⟨_, rfl⟩
  rw [show IntKind.i64.wrap ((ys.length : Int) - 2) = (k : Int) from (w64 (by omega)).trans (by omega)]
  refine ⟨fun w' => Fm none' w w', hf1.trans (Fm.drew w1), ?_⟩
  simp only [vcs, eqV, nilV, Option.map_some, Nat.mul_one, implies_true, true_and, and_true, and_self]
  have hs9 : (row Tryd.prog 9).k = .string := by rw [row9]
  refine slice_strH hs9 (by omega) ⟨fun w' _ => slice_strH hs9 (by omega) ⟨rfl, rfl⟩, ?_⟩
  simp only [vcs, eqV, nilV, Option.map_some, Nat.mul_one, implies_true, true_and, and_true, and_self]
  refine slice_strL hs9 (by omega) ⟨fun w' _ => slice_strL hs9 (by omega) ⟨rfl, rfl⟩, ?_⟩
  simp only [vcs, eqV, nilV, Option.map_some, Nat.mul_one, implies_true, true_and, and_true, and_self]
  have hbr : ∀ y ∈ ys.take k, 0 ≤ y ∧ y < 256 := fun y h => hy y (List.mem_of_mem_take h)
  have hbl : (ys.take k).length = k := by rw [List.length_take]; omega
  refine (sum28_c hbr (by omega)).mono ?_
  rintro _ _ ⟨rfl, rfl⟩
  simp only [vcs, eqV, nilV, Option.map_some, Nat.mul_one, implies_true, true_and, and_true, and_self]
  have hcl := crcF_lt (ys.take k) 65535 (by omega) hbr
  rw [show IntKind.i64.wrap ((crcF 65535 (ys.take k) : Nat) : Int) = ((crcF 65535 (ys.take k) : Nat) : Int) from w64 (by omega)]
  refine ⟨hf1.trans (Fm.drew w1), (two27_c hcl).mono ?_⟩
  rintro _ W2 ⟨rfl, hF27⟩
  simp only [vcs, eqV, nilV, Option.map_some, Nat.mul_one, implies_true, true_and, and_true, and_self]
  have hFw2 : Fm none' w W2 := (hf1.trans (Fm.drew w1)).trans hF27
  refine ⟨hFw2, ?_⟩
  have hbx2 : W2.heap[w.heap.size]? = some (.cells #[.int .u16 0, .bool false, .int .u16 0, .int .u32 0, .slice none 0 0] 35 (0, 0)) := hF27.keep (w := w1.drew) hb1 id
  have hbody : bodyB ys = ys.take k := by unfold bodyB; rw [hk]
  have hdl2 : (ys.drop k).length = 2 := by rw [List.length_drop]; omega
  have hdr : ∀ y ∈ ys.drop k, 0 ≤ y ∧ y < 256 := fun y h => hy y (List.mem_of_mem_drop h)
  have hsumeq : beB (crcF 65535 (ys.take k)) 2 = ys.drop k ↔ valB (ys.drop k) = crcF 65535 (ys.take k) := by
    constructor
    · intro h; rw [← h, valB_2 hcl]
    · intro h; rw [← h, beB_val2 hdl2 hdr]
  refine br_ndec (fun hne => ?_) (fun heq => ?_)
  · rw [strOfNums_inj (beB_r _ _) hdr, hsumeq] at hne
    exact fail 4 W2 (by unfold decD; rw [if_neg (by omega), if_pos (by rw [hbody, ← hk]; exact hne)]) hFw2 ⟨_, rfl, hbx2⟩
  rw [strOfNums_inj (beB_r _ _) hdr, hsumeq] at heq
  obtain ⟨y2, hy2⟩ : ∃ y, ys[2]? = some y := ⟨ys[2]'(by omega), by simp⟩
  have hy2r := hy y2 (List.mem_of_getElem? hy2)
  have hpre : ∀ x : Dg × Int, decD ys = x ↔ (if 1024 < ys.length ∨ 1 < ys.getD 2 0 ∨ ((numsD ys).any = false ∧ ((numsD ys).last ≠ 0 ∨ (numsD ys).bits ≠ 0)) then (dgZ, 3)
      else if (decodeM ((bodyB ys).drop 9)).2 ≠ 0 then (dgZ, (decodeM ((bodyB ys).drop 9)).2) else ({ numsD ys with list := (decodeM ((bodyB ys).drop 9)).1 }, 0)) = x := by
    intro x
    unfold decD
    rw [if_neg (by omega), if_neg (by rw [hbody, ← hk]; simpa using heq)]
  have hgd : ys.getD 2 0 = y2 := by rw [List.getD_eq_getElem?_getD, hy2]; rfl
  have hany : (numsD ys).any = decide (y2 = 1) := by unfold numsD; rw [hgd]
  have form : (1024 < ys.length ∨ 1 < y2 ∨ ((numsD ys).any = false ∧ ((numsD ys).last ≠ 0 ∨ (numsD ys).bits ≠ 0))) → decD ys = (dgZ, 3) := by
    intro h
    rw [hpre, hgd, if_pos h]
  refine ⟨fun _ w' => w' = W2 ∧ ¬ (1024 < ys.length ∨ 1 < y2 ∨ ((numsD ys).any = false ∧ ((numsD ys).last ≠ 0 ∨ (numsD ys).bits ≠ 0))), ?_, ?_⟩
  · refine br_dec (fun h => fail 3 W2 (form (.inl (by omega))) hFw2 ⟨_, rfl, hbx2⟩) fun h1 => ?_
    refine index_str hs9 hy hy2 ?_
    simp only [vcs, eqV, nilV, Option.map_some, Nat.mul_one, implies_true, true_and, and_true, and_self]
    refine br_dec (fun h => fail 3 W2 (form (.inr (.inl h))) hFw2 ⟨_, rfl, hbx2⟩) fun h2 => ?_
    refine index_str hs9 hy hy2 ?_
    simp only [vcs, eqV, nilV, Option.map_some, Nat.mul_one, implies_true, true_and, and_true, and_self]
    have hz := zero6 hy (by omega)
    refine br_dec (fun h0 => ?_) (fun h0 => ?_)
    · refine slice_str (l := 3) (h := 9) hs9 (by omega) (by omega) ?_
      simp only [vcs, eqV, nilV, Option.map_some, Nat.mul_one, implies_true, true_and, and_true, and_self]
      have e6 : (⟨#[0, 0, 0, 0, 0, 0]⟩ : ByteArray) = strOfNums (List.replicate 6 0) := rfl
      rw [e6]
      have hiff := strOfNums_inj (xs := (ys.take 9).drop 3) (ys := List.replicate 6 0) (fun y h => hy y (List.mem_of_mem_take (List.mem_of_mem_drop h))) (by intro y h; rw [List.eq_of_mem_replicate h]; omega)
      refine br_ndec (fun h => ?_) (fun h => ?_)
      · rw [hiff, hz] at h
        exact fail 3 W2 (form (.inr (.inr ⟨by rw [hany]; simp; omega, Decidable.not_not.1 h⟩))) hFw2 ⟨_, rfl, hbx2⟩
      · rw [hiff, hz] at h
        intro h'
        rcases h' with h' | h' | h'
        · omega
        · omega
        · exact h h'.2
    · intro h'
      rcases h' with h' | h' | h'
      · omega
      · omega
      · rw [hany] at h'
        have := h'.1
        simp at this; omega
  rintro u3 W3 ⟨rfl, hgo⟩
  refine slice_str (l := 9) (h := k) hs9 (by omega) (by omega) ?_
  simp only [vcs, eqV, nilV, Option.map_some, Nat.mul_one, implies_true, true_and, and_true, and_self]
  rw [← hbody]
  have hdl : ((bodyB ys).drop 9).length = k - 9 := by rw [hbody, List.length_drop, hbl]
  refine (decode19_c (ys := (bodyB ys).drop 9) (fun y h => hy y (List.mem_of_mem_take (List.mem_of_mem_drop h))) (by omega)).mono ?_
  rintro _ W4 ⟨sv, rfl, hown, hF4⟩
  obtain ⟨pm, cm, rfl, -⟩ := hown.at
  simp only [vcs, eqV, nilV, Option.map_some, Nat.mul_one, implies_true, true_and, and_true, and_self, List.getElem?_toArray, List.getElem?_cons_zero, List.getElem?_cons_succ]
  have hbx4 := hF4.keep hbx2 id
  have hF4w := hFw2.trans hF4
  refine br_ndec (fun he => ?_) (fun he => ?_)
  · exact fail _ W4 (by rw [hpre, hgd, if_neg hgo, if_pos he]) hF4w ⟨_, rfl, hbx4⟩
  have hy2' : ∀ (w' : World) (K : Value → World → Prop), K (.int .u8 y2) w' → runs Tryd.prog (Instr.index 9 (.string (strOfNums ys)) (.int .i64 2)) w' K := fun w' K h => index_str hs9 hy hy2 h
  refine ⟨fun w' => True, trivial, ?_⟩
  refine slice_strH (h := 2) hs9 (by omega) ⟨fun w' _ => slice_strH (h := 2) hs9 (by omega) ⟨rfl, rfl⟩, ?_⟩
  simp only [vcs, eqV, nilV, Option.map_some, Nat.mul_one, implies_true, true_and, and_true, and_self]
  refine hy2' _ _ ⟨fun w' _ => hy2' _ _ ⟨rfl, rfl⟩, ?_⟩
  simp only [vcs, eqV, nilV, Option.map_some, Nat.mul_one, implies_true, true_and, and_true, and_self]
  refine slice_str (l := 3) (h := 5) hs9 (by omega) (by omega) ⟨fun w' _ => slice_str (l := 3) (h := 5) hs9 (by omega) (by omega) ⟨rfl, rfl⟩, ?_⟩
  simp only [vcs, eqV, nilV, Option.map_some, Nat.mul_one, implies_true, true_and, and_true, and_self]
  refine slice_str (l := 5) (h := 9) hs9 (by omega) (by omega) ⟨fun w' _ => slice_str (l := 5) (h := 9) hs9 (by omega) (by omega) ⟨rfl, rfl⟩, ?_⟩
  simp only [vcs, eqV, nilV, Option.map_some, Nat.mul_one, implies_true, true_and, and_true, and_self]
  refine (number32_c (ys := ys.take 2) (fun y h => hy y (List.mem_of_mem_take h)) (by rw [List.length_take]; omega)).mono ?_
  rintro _ _ ⟨rfl, rfl⟩
  simp only [vcs, eqV, nilV, Option.map_some, Nat.mul_one, implies_true, true_and, and_true, and_self]
  refine (number32_c (ys := (ys.take 5).drop 3) (fun y h => hy y (List.mem_of_mem_take (List.mem_of_mem_drop h))) (by rw [List.length_drop, List.length_take]; omega)).mono ?_
  rintro _ _ ⟨rfl, rfl⟩
  simp only [vcs, eqV, nilV, Option.map_some, Nat.mul_one, implies_true, true_and, and_true, and_self]
  refine (number32_c (ys := (ys.take 9).drop 5) (fun y h => hy y (List.mem_of_mem_take (List.mem_of_mem_drop h))) (by rw [List.length_drop, List.length_take]; omega)).mono ?_
  rintro _ _ ⟨rfl, rfl⟩
  simp only [vcs, eqV, nilV, Option.map_some, Nat.mul_one, implies_true, true_and, and_true, and_self]
  have hv1 := valB_lt 2 (ys.take 2) (by rw [List.length_take]; omega) fun y h => hy y (List.mem_of_mem_take h)
  have hv2 := valB_lt 2 ((ys.take 5).drop 3) (by rw [List.length_drop, List.length_take]; omega) fun y h => hy y (List.mem_of_mem_take (List.mem_of_mem_drop h))
  rw [show IntKind.u16.wrap ((valB (ys.take 2) : Nat) : Int) = ((valB (ys.take 2) : Nat) : Int) from w16 (by omega), show IntKind.u16.wrap ((valB ((ys.take 5).drop 3) : Nat) : Int) = ((valB ((ys.take 5).drop 3) : Nat) : Int) from w16 (by omega)]
  refine stC_all (w := W4.drew) hbx4 rfl (fun v hv => by simp at hv; rcases hv with rfl | rfl | rfl | rfl | rfl <;> rfl) fun W6 hb6 hf6 => ?_
  refine rd_of (cells_all hb6 rfl) ?_
  have hdec : decD ys = ({ numsD ys with list := (decodeM ((bodyB ys).drop 9)).1 }, 0) := by
    rw [hpre, hgd, if_neg hgo, if_neg (by simpa using he)]
  rw [hdec]
  refine ⟨pm, cm, ?_, ?_, (hF4w.trans (Fm.drew W4)).trans' hf6 fun i hi e => by omega⟩
  · simp only [dgC, hany]; rfl
  refine OwnMsgs.keep (S := fun i => i = w.heap.size) (hown.base hFw2.size) ((Fm.drew W4).none.trans hf6) ?_
  rintro i cc t hi hbi ht rfl
  rw [hbx4] at hi; cases hi; rcases ht with h | h <;> cases h
end Go.Proofs.YtipikchkbmgloaaDoor
