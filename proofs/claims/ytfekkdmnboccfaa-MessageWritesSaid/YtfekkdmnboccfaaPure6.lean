/- Whole rows of messages: what is read is what is written; bytes that are cut, or more; the plain laws.  Conditions: none. -/
import Derived.Test.YtfekkdmnboccfaaPure5
namespace Go.Proofs.Ytfekkdmnboccfaa
set_option linter.unusedSimpArgs false
set_option linter.unusedVariables false
open Go Go.RowKit VC
theorem decGo_e : ∀ (n : Nat) (s : RS) (acc : List Msg), (decGo n s acc).2.e = 0 → s.e = 0 := by
  intro n
  cases n with
  | zero => intro s acc h; exact h
  | succ n =>
    intro s acc h
    unfold decGo at h
    split at h
    · assumption
    · exact h
theorem decGo_inv : ∀ (n : Nat) (s : RS) (acc : List Msg), (∀ b ∈ s.rem, Bit b) → (decGo n s acc).2.e = 0 → ∃ ms, (decGo n s acc).1 = acc ++ ms ∧ ms.length = n ∧ (∀ m ∈ ms, Rok m) ∧ s.rem = ms.flatMap oneBits ++ (decGo n s acc).2.rem := by
  intro n
  induction n with
  | zero => intro s acc _ _; exact ⟨[], by simp [decGo], rfl, by simp, by simp [decGo]⟩
  | succ n ih =>
    intro s acc hb h
    have he := decGo_e _ _ _ h
    unfold decGo at h ⊢
    rw [if_pos he] at h ⊢
    have he1 := decGo_e _ _ _ h
    obtain ⟨hk, he2, hF⟩ := rdF_inv he1
    rw [hF] at h ⊢
    obtain ⟨⟨k, s1⟩, hr⟩ : ∃ r, rdW 4 s = r := ⟨_, rfl⟩
    rw [hr] at h hk he2 ⊢
    simp only [] at h hk he2 ⊢
    have b1 := rdW_b hr hb
    obtain ⟨e1, w1, w2, w3⟩ := wr_rd hk b1 he2
    obtain ⟨e0, m, rfl, lt, r0⟩ := rdW_i hr hb (by omega) e1
    rw [w64 (n := (m : Int)) (by omega)] at *
    obtain ⟨ms, h1, h2, h3, h4⟩ := ih _ _ (sub_bit w3 b1) h
    refine ⟨(rdFields (m : Int) s1).1 :: ms, by rw [h1]; simp, by simp [h2], ?_, ?_⟩
    · intro x hx
      rcases List.mem_cons.1 hx with rfl | hx
      · exact w2
      · exact h3 x hx
    · rw [r0, w3, h4]
      simp only [List.flatMap_cons, oneBits, List.append_assoc, w1]
      rw [u64n (by omega)]
/-- **What is decoded is encoded, byte by byte.** -/
theorem enc_dec {ys : List Int} {ms : List Msg} (hy : ∀ y ∈ ys, 0 ≤ y ∧ y < 256) (h : decodeM ys = (ms, 0)) :
    (∀ m ∈ ms, Rok m) ∧ ms.length ≤ 16 ∧ ys.length ≤ 1024 ∧ pack (encBits ms) = ys ∧ ∃ zs, byteBits ys = encBits ms ++ zs ∧ zs.length < 8 ∧ ∀ b ∈ zs, b = 0 := by
  unfold decodeM at h
  obtain ⟨⟨n, s1⟩, hr⟩ : ∃ r, rdW 5 (⟨byteBits ys, 0⟩ : RS) = r := ⟨_, rfl⟩
  rw [hr] at h
  simp only [] at h
  split at h
  · rename_i he
    obtain ⟨hok, he2, hF⟩ := rdF_inv he
    rw [Bool.and_eq_true, decide_eq_true_eq] at hok
    have e3 := decGo_e _ _ _ he2
    obtain ⟨h16, e4, hF2⟩ := rdF_inv e3
    rw [hF2] at h hok he2
    rw [decide_eq_true_eq] at h16
    have b0 := byteBits_bit ys
    have b1 := rdW_b hr b0
    obtain ⟨-, m, rfl, lt, r0⟩ := rdW_i hr b0 (by omega) e4
    obtain ⟨ms', h1, h2, h3, h4⟩ := decGo_inv _ _ _ b1 he2
    rw [Int.toNat_natCast] at h h1 h2 h4 hok
    rw [h1, List.nil_append] at h
    obtain rfl : ms' = ms := congrArg Prod.fst h
    have hz := hok.1
    unfold restOk at hz
    rw [Bool.and_eq_true, decide_eq_true_eq, List.all_eq_true] at hz
    have hbits : byteBits ys = encBits ms' ++ (decGo m s1 []).2.rem := by
      unfold encBits
      rw [h2, u64n (by omega), List.append_assoc, ← h4]
      exact r0
    have hz1 : ∀ b ∈ (decGo m s1 []).2.rem, b = 0 := fun b hb => of_decide_eq_true (hz.1 b hb)
    exact ⟨h3, by omega, hok.2, pack_of hy hbits hz1 hz.2, _, hbits, hz.2, hz1⟩
  · rename_i he
    have := congrArg Prod.snd h
    exact absurd this he
/-! ### bytes that are cut, or more -/
def E3 (e : Int) : Prop := e = 0 ∨ e = 2 ∨ e = 3
structure Good {α : Type} (g : RS → α × RS) : Prop where
  back : ∀ s, (g s).2.e = 0 → s.e = 0
  stay : ∀ s, s.e = 2 → (g s).2.e = 2
  cut : ∀ s s' t, s.e = 0 → s'.e = 0 → s.rem = s'.rem ++ t → (g s).2.e = 0 → (g s').2.e = 2 ∨ ((g s').2.e = 0 ∧ (g s).2.rem = (g s').2.rem ++ t ∧ (g s').1 = (g s).1)
  more : ∀ s s' t, s.e = 0 → s'.e = 0 → s'.rem = s.rem ++ t → (g s).2.e = 0 → (g s').2.e = 0 ∧ (g s').2.rem = (g s).2.rem ++ t ∧ (g s').1 = (g s).1
  errs : ∀ s, E3 s.e → E3 (g s).2.e
theorem Good.pure {α : Type} (x : α) : Good fun s => (x, s) :=
  ⟨fun _ h => h, fun _ h => h, fun s s' t h1 h2 h3 h4 => .inr ⟨h2, h3, rfl⟩, fun s s' t h1 h2 h3 h4 => ⟨h2, h3, rfl⟩, fun _ h => h⟩
theorem Good.bind {α β : Type} {g : RS → α × RS} {f : α → RS → β × RS} (hg : Good g) (hf : ∀ a, Good (f a)) : Good fun s => f (g s).1 (g s).2 := by
  refine ⟨fun s h => hg.back s ((hf _).back _ h), fun s h => (hf _).stay _ (hg.stay s h), ?_, ?_, fun s h => (hf _).errs _ (hg.errs s h)⟩
  · intro s s' t h1 h2 h3 h4
    have h5 := (hf _).back _ h4
    rcases hg.cut s s' t h1 h2 h3 h5 with h | ⟨a, b, c⟩
    · exact .inl ((hf _).stay _ h)
    · rw [c]
      exact (hf _).cut _ _ t h5 a b h4
  · intro s s' t h1 h2 h3 h4
    have h5 := (hf _).back _ h4
    obtain ⟨a, b, c⟩ := hg.more s s' t h1 h2 h3 h5
    rw [c]
    exact (hf _).more _ _ t h5 a b h4
theorem good_get {α : Type} (k : Nat) (f : Int → α) : Good fun s => (f (getR k s.rem).1, (⟨(getR k s.rem).2.1, failE s.e (getR k s.rem).2.2 2⟩ : RS)) := by
  refine ⟨fun s h => (failE_zero (by decide) h).1, fun s h => ?_, ?_, ?_, fun s h => ?_⟩
  · show failE s.e _ 2 = 2
    unfold failE; rw [h]; simp
  · intro s s' t h1 h2 h3 h4
    obtain ⟨-, h5⟩ := failE_zero (by decide) h4
    obtain ⟨hl, hg⟩ := getR_inv h5
    by_cases hk : s'.rem.length < k
    · left
      show failE s'.e (getR k s'.rem).2.2 2 = 2
      unfold getR
      rw [if_pos hk]
      unfold failE; rw [h2]; simp
    · right
      have h6 : getR k s'.rem = (val (s'.rem.take k), s'.rem.drop k, true) := by unfold getR; rw [if_neg hk]
      rw [h6, hg, h2]
      have ht : s.rem.take k = s'.rem.take k := by rw [h3, List.take_append_of_le_length (by omega)]
      refine ⟨rfl, ?_, by rw [ht]⟩
      show s.rem.drop k = s'.rem.drop k ++ t
      rw [h3, List.drop_append_of_le_length (by omega)]
  · intro s s' t h1 h2 h3 h4
    obtain ⟨-, h5⟩ := failE_zero (by decide) h4
    obtain ⟨hl, hg⟩ := getR_inv h5
    have h6 : getR k s'.rem = (val (s'.rem.take k), s'.rem.drop k, true) := by unfold getR; rw [if_neg (by rw [h3, List.length_append]; omega)]
    rw [h6, hg, h2]
    have ht : s'.rem.take k = s.rem.take k := by rw [h3, List.take_append_of_le_length (by omega)]
    refine ⟨rfl, ?_, by rw [ht]⟩
    show s'.rem.drop k = s.rem.drop k ++ t
    rw [h3, List.drop_append_of_le_length (by omega)]
  · show E3 (failE s.e _ 2)
    unfold failE
    split
    · exact .inr (.inl rfl)
    · exact h
theorem good_W (k : Nat) : Good (rdW k) := good_get k id
theorem good_S (k : Nat) : Good (rdS k) := good_get k (sgn k)
theorem good_F {α : Type} (ok : Bool) (x : α) : Good fun s => (x, rdF ok s) := by
  refine ⟨fun s h => (failE_zero (by decide) h).1, fun s h => ?_, ?_, ?_, fun s h => ?_⟩
  · show failE s.e ok 3 = 2
    unfold failE; rw [h]; simp
  · intro s s' t h1 h2 h3 h4
    obtain ⟨h5, -, -⟩ := rdF_inv h4
    subst h5
    simp only [rdF_true]
    exact .inr ⟨h2, h3, trivial⟩
  · intro s s' t h1 h2 h3 h4
    obtain ⟨h5, -, -⟩ := rdF_inv h4
    subst h5
    simp only [rdF_true]
    exact ⟨h2, h3, trivial⟩
  · show E3 (failE s.e ok 3)
    unfold failE
    split
    · exact .inr (.inr rfl)
    · exact h
theorem good_V (k : Nat) (d : Int) : Good (stepV k d) := (good_S k).bind (f := fun a s => (a, rdF (decide (d < 0) || (decide (IntKind.i64.wrap (0 - d) ≤ a) && decide (a ≤ d))) s)) fun a => good_F _ a
theorem good_B : ∀ (n : Nat) (acc : List Int), Good fun s => rdB n s acc := by
  intro n
  induction n with
  | zero => intro acc; exact Good.pure acc
  | succ n ih =>
    intro acc
    have hb : Good fun s => rdB n (rdW 8 s).2 (acc ++ [IntKind.u8.wrap (rdW 8 s).1]) := (good_W 8).bind (f := fun a s => rdB n s (acc ++ [IntKind.u8.wrap a])) fun a => ih _
    have hE : ∀ s, rdB (n + 1) s acc = if s.e = 0 then rdB n (rdW 8 s).2 (acc ++ [IntKind.u8.wrap (rdW 8 s).1]) else (acc, s) := fun s => rfl
    refine ⟨fun s h => rdB_e _ _ _ h, fun s h => ?_, ?_, ?_, fun s h => ?_⟩
    · simp only [hE]; rw [if_neg (by omega)]; exact h
    · intro s s' t h1 h2 h3 h4
      simp only [hE] at h4 ⊢
      rw [if_pos h1] at h4 ⊢
      rw [if_pos h2]
      exact hb.cut s s' t h1 h2 h3 h4
    · intro s s' t h1 h2 h3 h4
      simp only [hE] at h4 ⊢
      rw [if_pos h1] at h4 ⊢
      rw [if_pos h2]
      exact hb.more s s' t h1 h2 h3 h4
    · simp only [hE]
      split
      · exact hb.errs s h
      · exact h
theorem good_Id : Good rdId := (good_W 31).bind (f := fun a s => (IntKind.i64.wrap a, rdF (decide (0 < IntKind.i64.wrap a)) s)) fun a => good_F _ _
def mF (a x y z x' y' : Int) (s : RS) : Msg × RS := ({ blank 6 with seq := IntKind.u16.wrap a, p0 := x, p1 := y, p2 := z, v0 := x', v1 := y', v2 := (stepV 32 (-1) s).1 }, (stepV 32 (-1) s).2)
def mE (a x y z x' : Int) (s : RS) : Msg × RS := mF a x y z x' (stepV 32 (-1) s).1 (stepV 32 (-1) s).2
def mD (a x y z : Int) (s : RS) : Msg × RS := mE a x y z (stepV 32 (-1) s).1 (stepV 32 (-1) s).2
def mC (a x y : Int) (s : RS) : Msg × RS := mD a x y (stepV 32 (-1) s).1 (stepV 32 (-1) s).2
def mB (a x : Int) (s : RS) : Msg × RS := mC a x (stepV 32 (-1) s).1 (stepV 32 (-1) s).2
def mA (a : Int) (s : RS) : Msg × RS := mB a (stepV 32 (-1) s).1 (stepV 32 (-1) s).2
theorem good_mF (a x y z x' y' : Int) : Good (mF a x y z x' y') := (good_V 32 (-1)).bind (f := fun t s => (({ blank 6 with seq := IntKind.u16.wrap a, p0 := x, p1 := y, p2 := z, v0 := x', v1 := y', v2 := t } : Msg), s)) fun t => Good.pure _
theorem good_mE (a x y z x' : Int) : Good (mE a x y z x') := (good_V 32 (-1)).bind (f := mF a x y z x') fun t => good_mF ..
theorem good_mD (a x y z : Int) : Good (mD a x y z) := (good_V 32 (-1)).bind (f := mE a x y z) fun t => good_mE ..
theorem good_mC (a x y : Int) : Good (mC a x y) := (good_V 32 (-1)).bind (f := mD a x y) fun t => good_mD ..
theorem good_mB (a x : Int) : Good (mB a x) := (good_V 32 (-1)).bind (f := mC a x) fun t => good_mC ..
theorem good_mA (a : Int) : Good (mA a) := (good_V 32 (-1)).bind (f := mB a) fun t => good_mB ..
def cD (a b x y : Int) (s : RS) : Msg × RS := ({ blank 2 with cq := IntKind.u16.wrap a, cb := IntKind.u8.wrap b, cdx := IntKind.i8.wrap x, cdy := IntKind.i8.wrap y, ct := IntKind.i64.wrap (IntKind.i64.wrap (rdW 3 s).1 + 1) }, (rdW 3 s).2)
def cC (a b x : Int) (s : RS) : Msg × RS := cD a b x (rdS 8 s).1 (rdS 8 s).2
def cB (a b : Int) (s : RS) : Msg × RS := cC a b (rdS 8 s).1 (rdS 8 s).2
def cA (a : Int) (s : RS) : Msg × RS := cB a (rdW 2 s).1 (rdW 2 s).2
theorem good_cD (a b x y : Int) : Good (cD a b x y) := (good_W 3).bind (f := fun t s => (({ blank 2 with cq := IntKind.u16.wrap a, cb := IntKind.u8.wrap b, cdx := IntKind.i8.wrap x, cdy := IntKind.i8.wrap y, ct := IntKind.i64.wrap (IntKind.i64.wrap t + 1) } : Msg), s)) fun t => Good.pure _
theorem good_cC (a b x : Int) : Good (cC a b x) := (good_S 8).bind (f := cD a b x) fun t => good_cD ..
theorem good_cB (a b : Int) : Good (cB a b) := (good_S 8).bind (f := cC a b) fun t => good_cC ..
theorem good_cA (a : Int) : Good (cA a) := (good_W 2).bind (f := cB a) fun t => good_cB ..
def fD (a b x y : Int) (s : RS) : Msg × RS := ({ blank 3 with prov := IntKind.u16.wrap a, shot := IntKind.i64.wrap b, d0 := x, d1 := y, d2 := (stepV 18 65536 s).1 }, (stepV 18 65536 s).2)
def fC (a b x : Int) (s : RS) : Msg × RS := fD a b x (stepV 18 65536 s).1 (stepV 18 65536 s).2
def fB (a b : Int) (s : RS) : Msg × RS := fC a b (stepV 18 65536 s).1 (stepV 18 65536 s).2
def fA (a : Int) (s : RS) : Msg × RS := fB a (rdW 1 s).1 (rdW 1 s).2
theorem good_fD (a b x y : Int) : Good (fD a b x y) := (good_V 18 65536).bind (f := fun t s => (({ blank 3 with prov := IntKind.u16.wrap a, shot := IntKind.i64.wrap b, d0 := x, d1 := y, d2 := t } : Msg), s)) fun t => Good.pure _
theorem good_fC (a b x : Int) : Good (fC a b x) := (good_V 18 65536).bind (f := fD a b x) fun t => good_fD ..
theorem good_fB (a b : Int) : Good (fB a b) := (good_V 18 65536).bind (f := fC a b) fun t => good_fC ..
theorem good_fA (a : Int) : Good (fA a) := (good_W 1).bind (f := fB a) fun t => good_fB ..
theorem good_Fields (k : Int) : Good (rdFields k) := by
  have h2 : Good rdCmd := by
    have e : rdCmd = fun s => cA (rdW 16 s).1 (rdW 16 s).2 := by
      funext s
      unfold rdCmd cA cB cC cD
      simp only []
    rw [e]
    exact (good_W 16).bind (f := cA) fun a => good_cA a
  have h3 : Good rdFire := by
    have e : rdFire = fun s => fA (rdW 16 s).1 (rdW 16 s).2 := by
      funext s
      unfold rdFire fA fB fC fD
      simp only []
    rw [e]
    exact (good_W 16).bind (f := fA) fun a => good_fA a
  have h6 : Good rdMoved := by
    have e : rdMoved = fun s => mA (rdW 16 s).1 (rdW 16 s).2 := by
      funext s
      unfold rdMoved mA mB mC mD mE mF
      simp only []
    rw [e]
    exact (good_W 16).bind (f := mA) fun a => good_mA a
  have h7 : Good rdBound := (good_W 16).bind (f := fun a s => _) fun a => good_Id.bind (f := fun b s => (({ blank 7 with prov := IntKind.u16.wrap a, id := b } : Msg), s)) fun b => Good.pure _
  have h5 : Good rdWelcome := good_Id.bind (f := fun b s => (({ blank 5 with id := b } : Msg), s)) fun b => Good.pure _
  have h8 : Good rdDenied := (good_W 16).bind (f := fun a s => _) fun a => (good_W 4).bind (f := fun b s =>
    (({ blank 8 with prov := IntKind.u16.wrap a, why := IntKind.i64.wrap b } : Msg), rdF (decide (1 ≤ IntKind.i64.wrap b) && decide (IntKind.i64.wrap b ≤ 10)) s)) fun b => good_F _ _
  have h9 : Good rdSnap := (good_W 32).bind (f := fun a s => _) fun a => (good_W 32).bind (f := fun b s => _) fun b => (good_W 10).bind (f := fun n s => _) fun n => (good_B n.toNat []).bind (f := fun l s =>
    (({ blank 9 with tick := IntKind.u32.wrap a, bse := IntKind.u32.wrap b, bytes := l } : Msg), s)) fun l => Good.pure _
  have hu : rdFields k = if k = 2 then rdCmd else if k = 3 then rdFire else if k = 6 then rdMoved else if k = 7 then rdBound else if k = 5 then rdWelcome else if k = 8 then rdDenied else if k = 9 then rdSnap else fun s => (blank k, s) := by
    funext s
    unfold rdFields
    repeat' split
    all_goals rfl
  rw [hu]
  repeat' split
  · exact h2
  · exact h3
  · exact h6
  · exact h7
  · exact h5
  · exact h8
  · exact h9
  · exact Good.pure _
theorem good_dec : ∀ (n : Nat) (acc : List Msg), Good fun s => decGo n s acc := by
  intro n
  induction n with
  | zero => intro acc; exact Good.pure acc
  | succ n ih =>
    intro acc
    have hb : Good fun s => decGo n (rdF (known (blank (IntKind.i64.wrap (rdW 4 s).1))) (rdFields (IntKind.i64.wrap (rdW 4 s).1) (rdW 4 s).2).2) (acc ++ [(rdFields (IntKind.i64.wrap (rdW 4 s).1) (rdW 4 s).2).1]) :=
      (good_W 4).bind (f := fun a s => decGo n (rdF (known (blank (IntKind.i64.wrap a))) (rdFields (IntKind.i64.wrap a) s).2) (acc ++ [(rdFields (IntKind.i64.wrap a) s).1])) fun a =>
        (good_Fields (IntKind.i64.wrap a)).bind (f := fun m s => decGo n (rdF (known (blank (IntKind.i64.wrap a))) s) (acc ++ [m])) fun m =>
          (good_F (known (blank (IntKind.i64.wrap a))) ()).bind (f := fun _ s => decGo n s (acc ++ [m])) fun _ => ih _
    have hE : ∀ s, decGo (n + 1) s acc = if s.e = 0 then decGo n (rdF (known (blank (IntKind.i64.wrap (rdW 4 s).1))) (rdFields (IntKind.i64.wrap (rdW 4 s).1) (rdW 4 s).2).2) (acc ++ [(rdFields (IntKind.i64.wrap (rdW 4 s).1) (rdW 4 s).2).1]) else (acc, s) := fun s => rfl
    refine ⟨fun s h => decGo_e _ _ _ h, fun s h => ?_, ?_, ?_, fun s h => ?_⟩
    · simp only [hE]; rw [if_neg (by omega)]; exact h
    · intro s s' t h1 h2 h3 h4
      simp only [hE] at h4 ⊢
      rw [if_pos h1] at h4 ⊢
      rw [if_pos h2]
      exact hb.cut s s' t h1 h2 h3 h4
    · intro s s' t h1 h2 h3 h4
      simp only [hE] at h4 ⊢
      rw [if_pos h1] at h4 ⊢
      rw [if_pos h2]
      exact hb.more s s' t h1 h2 h3 h4
    · simp only [hE]
      split
      · exact hb.errs s h
      · exact h
def decA (s : RS) : List Msg × RS := decGo (rdW 5 s).1.toNat (rdF (decide ((rdW 5 s).1 ≤ 16)) (rdW 5 s).2) []
theorem good_A : Good decA := (good_W 5).bind (f := fun (n : Int) (s : RS) => decGo n.toNat (rdF (decide (n ≤ 16)) s) []) fun n => (good_F (decide (n ≤ 16)) ()).bind (f := fun _ (s : RS) => decGo n.toNat s []) fun _ => good_dec _ _
theorem decodeM_A (ys : List Int) : decodeM ys = if (rdF (restOk (decA ⟨byteBits ys, 0⟩).2.rem && decide (ys.length ≤ 1024)) (decA ⟨byteBits ys, 0⟩).2).e = 0 then ((decA ⟨byteBits ys, 0⟩).1, 0) else ([], (rdF (restOk (decA ⟨byteBits ys, 0⟩).2.rem && decide (ys.length ≤ 1024)) (decA ⟨byteBits ys, 0⟩).2).e) := rfl
theorem dec_errs (ys : List Int) : (decodeM ys).2 = 0 ∨ ((decodeM ys).1 = [] ∧ ((decodeM ys).2 = 2 ∨ (decodeM ys).2 = 3)) := by
  rw [decodeM_A]
  split
  · exact .inl rfl
  · rename_i h
    have h1 := (good_F (restOk (decA ⟨byteBits ys, 0⟩).2.rem && decide (ys.length ≤ 1024)) ()).errs _ (good_A.errs ⟨byteBits ys, 0⟩ (.inl rfl))
    rcases h1 with h1 | h1 | h1
    · exact absurd h1 h
    · exact .inr ⟨rfl, .inl h1⟩
    · exact .inr ⟨rfl, .inr h1⟩
theorem byteBits_app (xs ys : List Int) : byteBits (xs ++ ys) = byteBits xs ++ byteBits ys := by simp [byteBits]
theorem dec_ok {ys : List Int} {ms : List Msg} (h : decodeM ys = (ms, 0)) : (decA ⟨byteBits ys, 0⟩).2.e = 0 ∧ restOk (decA ⟨byteBits ys, 0⟩).2.rem = true := by
  rw [decodeM_A] at h
  split at h
  · rename_i he
    obtain ⟨h1, h2, -⟩ := rdF_inv he
    rw [Bool.and_eq_true] at h1
    exact ⟨h2, h1.1⟩
  · rename_i he
    exact absurd (congrArg Prod.snd h) he
/-- Bytes that are cut off end too early. -/
theorem dec_cut {xs ts : List Int} {ms : List Msg} (ht : ts ≠ []) (h : decodeM (xs ++ ts) = (ms, 0)) : (decodeM xs).2 = 2 := by
  obtain ⟨h1, h2⟩ := dec_ok h
  rcases good_A.cut ⟨byteBits (xs ++ ts), 0⟩ ⟨byteBits xs, 0⟩ (byteBits ts) rfl rfl (byteBits_app _ _) h1 with hc | ⟨_, hc, _⟩
  · have h3 := (good_F (restOk (decA ⟨byteBits xs, 0⟩).2.rem && decide (xs.length ≤ 1024)) ()).stay _ hc
    rw [decodeM_A, if_neg (by intro e; simp only [] at h3; omega)]
    exact h3
  · rw [hc] at h2
    unfold restOk at h2
    rw [Bool.and_eq_true, decide_eq_true_eq, List.length_append, byteBits_length] at h2
    have : 0 < ts.length := List.length_pos_iff.2 ht
    omega
/-- Bytes with something behind say nothing. -/
theorem dec_more {xs ts : List Int} {ms : List Msg} (ht : ts ≠ []) (h : decodeM xs = (ms, 0)) : (decodeM (xs ++ ts)).2 = 3 := by
  obtain ⟨h1, h2⟩ := dec_ok h
  obtain ⟨h3, h4, -⟩ := good_A.more ⟨byteBits xs, 0⟩ ⟨byteBits (xs ++ ts), 0⟩ (byteBits ts) rfl rfl (byteBits_app _ _) h1
  have hr : restOk (decA ⟨byteBits (xs ++ ts), 0⟩).2.rem = false := by
    unfold restOk
    rw [Bool.and_eq_false_iff]
    right
    rw [decide_eq_false_iff_not, h4, List.length_append, byteBits_length]
    have : 0 < ts.length := List.length_pos_iff.2 ht
    omega
  rw [decodeM_A, hr, Bool.false_and]
  have : (rdF false (decA ⟨byteBits (xs ++ ts), 0⟩).2).e = 3 := by
    unfold rdF failE; rw [h3]; simp
  rw [this]
  rfl
end Go.Proofs.Ytfekkdmnboccfaa
