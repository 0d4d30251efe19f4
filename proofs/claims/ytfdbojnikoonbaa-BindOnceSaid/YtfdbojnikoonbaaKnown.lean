/- bind: what is known is what was told, and no two numbers have one id.  Conditions: none. -/
import Derived.Test.YtfdbojnikoonbaaTwice
namespace Go.Proofs.Ytfdbojnikoonbaa
set_option linter.unusedSimpArgs false
set_option linter.unusedVariables false
open Go Go.RowKit VC
/-- A number that is known, with its id. -/
def Pr (s : St) (who p id : Int) : Prop := ∃ c, getM who s.cs = some c ∧ getM p c.ids = some id
theorem ask_pr {s : St} {who p : Int} (h : (askS s who p).2 = 0) : Pr s who p (askS s who p).1 := by
  unfold askS at h ⊢
  cases hc : getM who s.cs with
  | none => rw [hc] at h; simp at h
  | some c =>
    rw [hc] at h
    cases hp : getM p c.ids with
    | some id => exact ⟨c, hc, by simp only [hp]⟩
    | none =>
      simp only [hp] at h
      split at h <;> simp at h
theorem pr_ask {s : St} {who p id : Int} (h : Pr s who p id) : askS s who p = (id, 0) := by
  obtain ⟨c, h1, h2⟩ := h
  unfold askS
  simp only [h1, h2]
structure InvK (s : St) (L : List (Int × Int × Int)) : Prop where
  told : ∀ who p id, Pr s who p id → (who, p, id) ∈ L
  one : ∀ who p id who' p', 0 < id → Pr s who p id → Pr s who' p' id → who = who' ∧ p = p'
  used : ∀ who p id, 0 < id → Pr s who p id → (getM id s.used).getD false = true
  nd : ∀ who c, getM who s.cs = some c → (c.ids.map (·.1)).Nodup
  len : lenS s ≤ L.length
theorem invK_nil : InvK ⟨[], []⟩ [] := ⟨fun _ _ _ ⟨_, h, _⟩ => by simp [getM] at h, fun _ _ _ _ _ _ ⟨_, h, _⟩ => by simp [getM] at h, fun _ _ _ _ ⟨_, h, _⟩ => by simp [getM] at h, fun _ _ h => by simp [getM] at h, by simp [lenS]⟩
theorem old_pr {s : St} {who p q id : Int} (h : getM q (oldC s who p).ids = some id) : Pr s who q id := by
  unfold oldC at h
  cases hc : getM who s.cs with
  | none => rw [hc] at h; simp [getM] at h
  | some c => rw [hc] at h; exact ⟨c, hc, h⟩
/-- What is known behind a put. -/
theorem pr_put {s : St} {who p nid w q id : Int} (h : Pr (putS s who p nid) w q id) : (w = who ∧ q = p ∧ id = nid) ∨ (Pr s w q id ∧ (w = who → ¬ (newer p (oldC s who p).newest = true ∧ reach p q = false))) := by
  obtain ⟨c, h1, h2⟩ := h
  rw [putS_get] at h1
  split at h1
  · rename_i hw
    cases h1
    rw [newC_get] at h2
    split at h2
    · cases h2
    · rename_i hr
      split at h2
      · rename_i hq; cases h2; exact .inl ⟨hw, hq, rfl⟩
      · exact .inr ⟨hw ▸ old_pr h2, fun _ => hr⟩
  · rename_i hw
    exact .inr ⟨⟨c, h1, h2⟩, fun e => absurd e hw⟩
theorem used_get {s : St} {nid k : Int} (h : (getM k s.used).getD false = true ∨ (k = nid ∧ 0 < nid)) : (getM k (usedS s nid)).getD false = true := by
  unfold usedS
  split
  · rw [getM_setM]
    split
    · rfl
    · rename_i hk; rcases h with h | h; exact h; exact absurd h.1 hk
  · rcases h with h | h
    · exact h
    · rename_i hn; exact absurd h.2 hn
theorem used_put {s : St} {who p nid k : Int} (h : (getM k (usedS s nid)).getD false = true) (hd : newer p (oldC s who p).newest = true → ∀ q, getM q (setM p nid (oldC s who p).ids) = some k → reach p q = true)
    (hnd : ((setM p nid (oldC s who p).ids).map (·.1)).Nodup) : (getM k (putS s who p nid).used).getD false = true := by
  unfold putS
  split
  · rename_i hn
    simp only [dropS, idsLeft]
    rw [getM_filter (f := fun k => !(setM p nid (oldC s who p).ids).any fun p_1 => decide (p_1.2 = k) && (!reach p p_1.1 && !decide (p_1.1 ∈ ([] : List Int)))), if_pos]
    · exact h
    · simp only [Bool.not_eq_true', List.any_eq_false]
      intro x hx
      simp only [List.not_mem_nil, decide_false, Bool.not_false, Bool.and_true, Bool.and_eq_true, decide_eq_true_eq, Bool.not_eq_true', not_and]
      intro hk
      have := hd hn x.1 (getM_at hnd (by rw [← hk]; exact hx))
      simp [this]
  · exact h
theorem setM_nd {α : Type} {k : Int} {v : α} {l : List (Int × α)} (hn : (l.map (·.1)).Nodup) : ((setM k v l).map (·.1)).Nodup := by
  cases h : getM k l with
  | some v' => rw [setM_keys h]; exact hn
  | none =>
    rw [setM_none h, List.map_append]
    exact List.nodup_append.2 ⟨hn, by simp, fun x hx y hy e => by
      simp at hy
      exact (getM_mem.1 h) (by rw [← hy, ← e]; exact hx)⟩
theorem newC_nd {c : Cl} {p nid : Int} (h : (c.ids.map (·.1)).Nodup) : ((newC c p nid).ids.map (·.1)).Nodup := by
  unfold newC
  split
  · show ((left (fun q => !reach p q) [] (setM p nid c.ids)).map (·.1)).Nodup
    rw [left_eq]
    exact (setM_nd h).sublist (List.filter_sublist.map _)
  · exact setM_nd h
theorem invK_put {s : St} {L : List (Int × Int × Int)} {who p nid : Int} (h : InvK s L) (ha : (askS s who p).2 = 6) (hn : nid = 0 ∨ (0 < nid ∧ (getM nid s.used).getD false = false)) : InvK (putS s who p nid) (L ++ [(who, p, nid)]) := by
  have hnod : ((setM p nid (oldC s who p).ids).map (·.1)).Nodup := by
    refine setM_nd ?_
    unfold oldC
    cases hc : getM who s.cs with
    | none => simp
    | some c => exact h.nd _ _ hc
  have hnew : ∀ w q, 0 < nid → ¬ Pr s w q nid := fun w q h0 hp => by
    have := h.used _ _ _ h0 hp
    rcases hn with hn | hn
    · omega
    · rw [hn.2] at this; cases this
  refine ⟨fun w q id hp => ?_, fun w q id w' q' h0 hp hp' => ?_, fun w q id h0 hp => ?_, fun w c hc => ?_, ?_⟩
  · rcases pr_put hp with ⟨rfl, rfl, rfl⟩ | ⟨hp, _⟩
    · simp
    · exact List.mem_append_left _ (h.told _ _ _ hp)
  · rcases pr_put hp with ⟨rfl, rfl, rfl⟩ | ⟨hp, _⟩
    · rcases pr_put hp' with ⟨rfl, rfl, _⟩ | ⟨hp', _⟩
      · exact ⟨rfl, rfl⟩
      · exact absurd hp' (hnew _ _ h0)
    · rename_i hp1 _
      rcases pr_put hp' with ⟨e1, e2, e3⟩ | ⟨hp', _⟩
      · subst e3; exact absurd hp (hnew _ _ h0)
      · exact h.one _ _ _ _ _ h0 hp hp'
  · have hset : ∀ q' , getM q' (setM p nid (oldC s who p).ids) = some id → (q' = p ∧ id = nid) ∨ Pr s who q' id := fun q' hq => by
      rw [getM_setM] at hq
      split at hq
      · rename_i e; cases hq; exact .inl ⟨e, rfl⟩
      · exact .inr (old_pr hq)
    refine used_put (used_get ?_) (fun hnw q' hq => ?_) hnod
    · rcases pr_put hp with ⟨rfl, rfl, rfl⟩ | ⟨hp, _⟩
      · exact .inr ⟨rfl, h0⟩
      · exact .inl (h.used _ _ _ h0 hp)
    · rcases hset q' hq with ⟨rfl, _⟩ | hq'
      · exact reach_self _
      · rcases pr_put hp with ⟨rfl, rfl, rfl⟩ | ⟨hp, hr⟩
        · exact absurd hq' (hnew _ _ h0)
        · obtain ⟨e1, e2⟩ := h.one _ _ _ _ _ h0 hp hq'
          have := hr e1
          rw [← e2]
          cases hrr : reach p q with
          | true => rfl
          | false => exact absurd ⟨hnw, hrr⟩ this
  · rw [putS_get] at hc
    split at hc
    · cases hc
      refine newC_nd ?_
      unfold oldC
      cases hc : getM who s.cs with
      | none => simp
      | some c => exact h.nd _ _ hc
    · exact h.nd _ _ hc
  · have := lenS_put s who p nid
    have := h.len
    simp only [List.length_append, List.length_cons, List.length_nil]
    omega
theorem invK_bind {s : St} {L : List (Int × Int × Int)} {who p nid : Int} (h : InvK s L) : ((bindS s who p nid).1 = 0 → InvK (bindS s who p nid).2 (L ++ [(who, p, nid)])) ∧ ((bindS s who p nid).1 ≠ 0 → InvK (bindS s who p nid).2 L) := by
  constructor
  · intro he
    obtain ⟨h1, h2, h3, h4⟩ := bindS_ok he
    rw [h1]
    exact invK_put h h2 (.inr ⟨by omega, h4⟩)
  · intro he
    rw [bindS_not he]
    exact h
theorem invK_deny {s : St} {L : List (Int × Int × Int)} {who p : Int} (h : InvK s L) : ((denyS s who p).1 = 0 → InvK (denyS s who p).2 (L ++ [(who, p, 0)])) ∧ ((denyS s who p).1 ≠ 0 → InvK (denyS s who p).2 L) := by
  unfold denyS
  split
  · rename_i ha
    exact ⟨fun _ => invK_put h ha (.inl rfl), fun h => absurd rfl h⟩
  · exact ⟨fun h => by simp at h, fun _ => h⟩
end Go.Proofs.Ytfdbojnikoonbaa
