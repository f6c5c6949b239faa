import Derived.Test.YtockmihfoppkpaaM5ModsTwice
set_option linter.unusedVariables false
set_option linter.unusedSimpArgs false
set_option maxRecDepth 100000
set_option maxHeartbeats 4000000
namespace Go.Proofs.Ytockmihfoppkpaa
open Go.Sh
theorem befO_iff (p : Option Rule) (x : Rule) : befO p x = true ↔ ∀ q, p = some q → RLt q x := by
  cases p with
  | none => simp [befO]
  | some q => simp [befO, Before_key, RLt]
theorem tableF_spec : ∀ (l : List Rule) (p : Option Rule), tableF p l = true ↔ (∀ y ∈ l, rule_Sound y = true) ∧ Srt l ∧ ∀ q, p = some q → ∀ y ∈ l, RLt q y
  | [], p => by
      rw [tableF]
      exact ⟨fun _ => ⟨by simp, List.Pairwise.nil, by simp⟩, fun _ => rfl⟩
  | x :: l, p => by
      rw [tableF_cons, Bool.and_eq_true, Bool.and_eq_true, tableF_spec l (some x), befO_iff]
      constructor
      · rintro ⟨⟨h1, h2⟩, h3, h4, h5⟩
        refine ⟨?_, List.pairwise_cons.2 ⟨h5 x rfl, h4⟩, ?_⟩
        · intro y hy
          rcases List.mem_cons.1 hy with rfl | hy
          · exact h1
          · exact h3 y hy
        · intro q hq y hy
          rcases List.mem_cons.1 hy with rfl | hy
          · exact h2 q hq
          · exact (h2 q hq).trans (h5 x rfl y hy)
      · rintro ⟨h1, h2, h3⟩
        obtain ⟨h4, h5⟩ := List.pairwise_cons.1 h2
        exact ⟨⟨h1 x (by simp), fun q hq => h3 q hq x (by simp)⟩, fun y hy => h1 y (by simp [hy]), h5, fun q hq y hy => by
          injection hq with hq
          subst hq
          exact h4 y hy⟩
theorem tableR_iff (l : List Rule) : tableR l = true ↔ (∀ y ∈ l, rule_Sound y = true) ∧ Srt l := by
  unfold tableR
  rw [tableF_spec]
  simp
theorem tableR_sort (l : List Rule) : tableR (sortR l) = true := (tableR_iff _).2 ⟨sortR_sound l, sortR_srt l⟩
theorem sort_again (l : List Rule) (r : Rule) : sortR (sortR (l ++ [r]) ++ [r]) = sortR (l ++ [r]) :=
  srt_uniq _ _ (sortR_srt _) (sortR_srt _) (fun k => by
    rw [sortR_look, sortR_look, last_append, last_look _ (sortR_srt _) (sortR_sound _), sortR_look, last_append]
    cases last [r] k <;> rfl)

theorem mod_acts (m : Mod) (h : mods_Sound m = true) : act_Sound m.Acts = true := by
  rw [mods_Sound] at h
  cases h2 : act_Sound m.Acts
  · rw [h2] at h
    simp at h
  · rfl
theorem rule_of_mod (m : Mod) (h : mods_Sound m = true) (hk : (m.Kind == 1) = true) : rule_Sound (mods_Rule m) = true := by
  rw [mods_Sound, hk] at h
  have e : ∀ a b, rule_span a b = mods_span a b := fun _ _ => rfl
  rw [rule_Sound]
  show (((((((cube_Sound m.Match) && (act_Sound m.Acts)) && (rule_span m.Prio 65535)) && (rule_span m.Idle 1048576)) && (rule_span m.Hard 1048576)) && (rule_span m.Owner 255)) && _) = true
  simp only [e]
  cases h1 : cube_Sound m.Match
  · rw [h1] at h; simp at h
  cases h2 : act_Sound m.Acts
  · rw [h2] at h; simp at h
  cases h3 : mods_span m.Prio 65535
  · rw [h3] at h; simp at h
  cases h4 : mods_span m.Owner 255
  · rw [h4] at h; simp at h
  rw [h1, h2, h3, h4] at h
  simp only [Bool.not_true, Bool.or_self, cond_false, cond_true, Bool.and_eq_true] at h
  rw [h.1, h.2]
  simp [mods_Rule]
theorem sound_acts (y : Rule) (a : List Act) (h : rule_Sound y = true) (ha : act_Sound a = true) : rule_Sound ({ y with Acts := a } : Rule) = true := by
  rw [rule_Sound] at h ⊢
  simp only [Bool.and_eq_true] at h ⊢
  obtain ⟨⟨⟨⟨⟨⟨h1, h2⟩, h3⟩, h4⟩, h5⟩, h6⟩, h7⟩ := h
  exact ⟨⟨⟨⟨⟨⟨h1, ha⟩, h3⟩, h4⟩, h5⟩, h6⟩, h7⟩
theorem stepM_some {m : Mod} {x y : Rule} (h : stepM m x = some y) : (mods_touches m x = false ∧ y = x) ∨ (mods_touches m x = true ∧ y = ({ x with Acts := m.Acts } : Rule)) := by
  unfold stepM at h
  cases ht : mods_touches m x
  · rw [ht] at h
    injection h with h
    exact .inl ⟨rfl, h.symm⟩
  · rw [ht] at h
    cases hk : (m.Kind == 3) || (m.Kind == 5)
    · rw [hk] at h
      injection h with h
      exact .inr ⟨rfl, h.symm⟩
    · rw [hk] at h; cases h
theorem stepM_key {m : Mod} {x y : Rule} (h : stepM m x = some y) : y.key = x.key := by
  rcases stepM_some h with ⟨_, rfl⟩ | ⟨_, rfl⟩ <;> rfl
theorem stepM_twice {m : Mod} {x y : Rule} (h : stepM m x = some y) : stepM m y = some y := by
  rcases stepM_some h with ⟨_, rfl⟩ | ⟨ht, rfl⟩
  · exact h
  · unfold stepM at h ⊢
    have e : mods_touches m ({ x with Acts := m.Acts } : Rule) = mods_touches m x := rfl
    rw [e, ht]
    rw [ht] at h
    cases hk : (m.Kind == 3) || (m.Kind == 5)
    · rfl
    · rw [hk] at h; cases h
theorem step_table (l : List Rule) (m : Mod) (hT : tableR l = true) (hS : mods_Sound m = true) : tableR (l.filterMap (stepM m)) = true := by
  obtain ⟨h1, h2⟩ := (tableR_iff l).1 hT
  refine (tableR_iff _).2 ⟨fun y hy => ?_, ?_⟩
  · obtain ⟨x, hx, hs⟩ := List.mem_filterMap.1 hy
    rcases stepM_some hs with ⟨_, rfl⟩ | ⟨_, rfl⟩
    · exact h1 _ hx
    · exact sound_acts x m.Acts (h1 x hx) (mod_acts m hS)
  · refine List.Pairwise.filterMap (stepM m) (fun a b hab c hc d hd => ?_) h2
    unfold RLt at *
    rw [stepM_key hc, stepM_key hd]
    exact hab
theorem filterMap_fix {α : Type} (f : α → Option α) : ∀ (l : List α), (∀ y ∈ l, f y = some y) → l.filterMap f = l
  | [], _ => rfl
  | x :: l, h => by
      rw [List.filterMap_cons, h x (by simp), filterMap_fix f l (fun y hy => h y (by simp [hy]))]
theorem add_twice (l : List Rule) (m : Mod) (room : Int) (hS : mods_Sound m = true) (hk : (m.Kind == 1) = true) (h0 : (addM l m room).2 = 0) :
    (addM l m room).1 = sortR (l ++ [mods_Rule m]) ∧ addM (sortR (l ++ [mods_Rule m])) m room = (sortR (l ++ [mods_Rule m]), 0) := by
  have hR := rule_of_mod m hS hk
  have hlook : look (sortR (l ++ [mods_Rule m])) (mods_Rule m).key = some (mods_Rule m) := by
    rw [sortR_look, last_append, last_cons, if_pos ⟨hR, rfl⟩]
    rfl
  have hfind : (sortR (l ++ [mods_Rule m])).find? (fun x => rule_Key x (mods_Rule m)) = some (mods_Rule m) := by
    have e : (fun x => rule_Key x (mods_Rule m)) = (fun x => decide (x.key = (mods_Rule m).key)) := funext fun x => Key_key x _
    rw [e]; exact hlook
  have hmem : ∀ y ∈ sortR (l ++ [mods_Rule m]), y ∈ l ∨ y = mods_Rule m := by
    intro y hy
    have h1 := look_mem (k := y.key) (x := y) (l := l ++ [mods_Rule m])
    have : ∀ (L out : List Rule), Srt out → ∀ y ∈ L.foldl putR out, y ∈ out ∨ y ∈ L := by
      intro L
      induction L with
      | nil => intro out _ y hy; exact .inl hy
      | cons x L ih =>
        intro out ho y hy
        rcases ih (putR out x) (putR_srt ho x) y hy with q | q
        · rcases putR_mem ho q with q | ⟨q, _⟩
          · exact .inl q
          · exact .inr (by simp [q])
        · exact .inr (by simp [q])
    rcases this (l ++ [mods_Rule m]) [] List.Pairwise.nil y hy with q | q
    · cases q
    · simpa using q
  have hmeet : (m.Check && l.any (fun x => mods_add_2 x (mods_Rule m))) = false → (m.Check && (sortR (l ++ [mods_Rule m])).any (fun x => mods_add_2 x (mods_Rule m))) = false := by
    intro h
    cases hc : m.Check
    · rfl
    · simp only [hc, Bool.true_and] at h ⊢
      rw [List.any_eq_false] at h ⊢
      intro y hy
      rcases hmem y hy with q | q
      · exact h y q
      · subst q
        rw [mods_add_2, Key_key]
        simp
  have hown : ((mods_Rule m).Owner != m.Owner) = false := by simp [mods_Rule]
  have key : (m.Check && l.any (fun x => mods_add_2 x (mods_Rule m))) = false → addM (sortR (l ++ [mods_Rule m])) m room = (sortR (l ++ [mods_Rule m]), 0) := by
    intro hc
    unfold addM
    rw [hfind]
    simp only [hown, hmeet hc, Bool.false_eq_true, if_false, sort_again]
  unfold addM at h0 ⊢
  cases hf : l.find? (fun x => rule_Key x (mods_Rule m)) with
  | some x =>
    rw [hf] at h0
    simp only at h0 ⊢
    cases ho : x.Owner != m.Owner
    · rw [ho] at h0
      cases hc : (m.Check && l.any (fun x => mods_add_2 x (mods_Rule m)))
      · refine ⟨rfl, ?_⟩
        have := key hc
        unfold addM at this
        exact this
      · rw [hc] at h0; cases h0
    · rw [ho] at h0; cases h0
  | none =>
    rw [hf] at h0
    simp only at h0 ⊢
    cases hc : (m.Check && l.any (fun x => mods_add_2 x (mods_Rule m)))
    · rw [hc] at h0
      simp only [Bool.false_eq_true, if_false] at h0 ⊢
      cases hr : decide ((l.length : Int) ≥ room)
      · refine ⟨rfl, ?_⟩
        have := key hc
        unfold addM at this
        exact this
      · rw [hr] at h0; cases h0
    · rw [hc] at h0; cases h0
theorem ModsTwice_true (l : List Rule) (m : Mod) (room : Int) (_ : ∀ y ∈ l, Rule.wf y) (_ : Mod.wf m) (_ : intW .i64 room) (_ : l.length * 272 ≤ 140737488355328) (_ : m.Acts.length * 32 ≤ 140737488355328) : podestalaw07_ModsTwice_raw l m room = some true := by
  rw [podestalaw07_ModsTwice_raw]
  simp only [List.length_map, ref_Same_eq]
  by_cases hl : l.length > 50
  · rw [decide_eq_true (show ((l.length : Nat) : Int) > 50 by omega)]; rfl
  rw [applyO_eq (by omega), Option.bind_some]
  cases (decide (((l.length : Nat) : Int) > 50)) || (decide (((m.Acts.length : Nat) : Int) > 50))
  rotate_left
  · rfl
  simp only [cond_false]
  have happ : ∀ a : List Rule, a.length ≤ 1000000 → applyO a m room = some (applyM a m room) := fun a h => applyO_eq h m room
  cases hT : tableR l
  · have e : applyM l m room = ([], 2) := by unfold applyM; rw [hT]; rfl
    rw [e]; rfl
  cases hS : mods_Sound m
  · have e : applyM l m room = ([], 2) := by unfold applyM; rw [hT, hS]; rfl
    rw [e]; rfl
  cases hk : m.Kind == 1
  · have e : applyM l m room = (l.filterMap (stepM m), 0) := by unfold applyM; rw [hT, hS, hk]; rfl
    rw [e]
    have hlen : (l.filterMap (stepM m)).length ≤ l.length := List.length_filterMap_le _ _
    simp only [bne_self_eq_false, cond_false]
    rw [happ _ (by omega), Option.bind_some]
    have e2 : applyM (l.filterMap (stepM m)) m room = (l.filterMap (stepM m), 0) := by
      unfold applyM
      rw [step_table l m hT hS, hS, hk, filterMap_fix (stepM m) (l.filterMap (stepM m)) (fun y hy => by
        obtain ⟨x, _, hx⟩ := List.mem_filterMap.1 hy
        exact stepM_twice hx)]
      rfl
    rw [e2]
    simp
  · have e : applyM l m room = addM l m room := by unfold applyM; rw [hT, hS, hk]; rfl
    rw [e]
    cases h0 : (addM l m room).2 != 0
    · have h0' : (addM l m room).2 = 0 := by simpa using h0
      obtain ⟨p1, p2⟩ := add_twice l m room hS hk h0'
      have hlen := sortR_len (l ++ [mods_Rule m])
      rw [List.length_append, List.length_cons, List.length_nil] at hlen
      simp only [cond_false]
      rw [p1, happ _ (by omega), Option.bind_some]
      have e2 : applyM (sortR (l ++ [mods_Rule m])) m room = (sortR (l ++ [mods_Rule m]), 0) := by
        unfold applyM
        rw [tableR_sort, hS, hk]
        exact p2
      rw [e2]
      simp
    · rfl

end Go.Proofs.Ytockmihfoppkpaa
