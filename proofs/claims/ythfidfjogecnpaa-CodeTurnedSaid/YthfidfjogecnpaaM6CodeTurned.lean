import Derived.Test.YthfidfjogecnpaaM5CodeTurned
set_option linter.unusedVariables false
set_option linter.unusedSimpArgs false
set_option maxRecDepth 100000
set_option maxHeartbeats 4000000
namespace Go.Proofs.Ythfidfjogecnpaa
open Go.Sh
theorem small_rules {m : Msg} (h : podestalaw09_small m = true) : m.Rules.length ≤ 40 := by
  simp only [podestalaw09_small, Bool.and_eq_true, decide_eq_true_eq, List.length_map] at h
  omega
theorem enc_room {m : Msg} (w : Msg.wf m) (h : code_Sound m = true) (hl : m.Rules.length ≤ 65535) : (encMsg m).length + 8 ≤ roomW := by
  have := encMsg_len w h hl
  show _ ≤ 140737488355328
  omega
theorem decS_wf {b : List Int} {m : Msg} (hb : Bytes b) (h : decS b = (m, 0)) : Msg.wf m ∧ m.Rules.length ≤ 65535 := by
  unfold decS at h
  split at h
  · injection h with h1 h2
    cases h2
  · rename_i m' ok r hp
    split at h
    · injection h with h1 h2
      subst h1
      exact msg_wf hb hp
    · injection h with h1 h2
      cases h2
theorem u8W {n : Int} : intW .u8 n ↔ 0 ≤ n ∧ n ≤ 255 := by
  simp only [intW, Lit.wf, Bool.and_eq_true, decide_eq_true_eq]
  exact Iff.rfl
theorem u16W {n : Int} : intW .u16 n ↔ 0 ≤ n ∧ n ≤ 65535 := by
  simp only [intW, Lit.wf, Bool.and_eq_true, decide_eq_true_eq]
  exact Iff.rfl
theorem bytes_of {b : List Int} (w : ∀ y ∈ b, intW .u8 y) : Bytes b := fun y hy => u8W.1 (w y hy)
theorem encMsg_pos (m : Msg) : 5 ≤ (encMsg m).length := by
  simp only [encMsg, List.length_append, encN_length]
  omega
theorem refSame_self (b : List Int) : refSameB b b = true := by simp [refSameB]
theorem CodeBytes_true (x0 : Msg) (w0 : Msg.wf x0) (_ : x0.Mod.Acts.length * 32 ≤ 140737488355328) (_ : x0.Rules.length * 272 ≤ 140737488355328) : podestalaw09_CodeBytes_raw x0 = some true := by
  rw [podestalaw09_CodeBytes_raw]
  cases hs : podestalaw09_small x0 with
  | false => rfl
  | true =>
    have hl : x0.Rules.length ≤ 65535 := Nat.le_trans (small_rules hs) (by decide)
    rw [Bool.not_true, cond_false, refMsg_eq w0 hl]
    cases hS : code_Sound x0 with
    | false =>
      rw [code_Encode_no hS]
      rfl
    | true =>
      rw [code_Encode_ok w0 hS hl (enc_room w0 hS hl), ref_Encode_ok w0 hS hl]
      simp only [Option.bind_some]
      rw [code_Decode_eq (encMsg_bytes w0 hS hl), decS_enc w0 hS hl, refSame_self]
      simp only [Option.bind_some, same_beq, code_Same_eq, beq_self_eq_true]
      rfl
theorem CodeReads_true (x0 : List Int) (w0 : ∀ y ∈ x0, intW .u8 y) (l0 : x0.length * 1 ≤ 140737488355328) : podestalaw09_CodeReads_raw x0 = some true := by
  have hb := bytes_of w0
  rw [podestalaw09_CodeReads_raw, List.length_map]
  by_cases hn : ((x0.length : Nat) : Int) > 20000
  · rw [decide_eq_true hn, cond_true]
  · rw [decide_eq_false hn, cond_false, fit1 (by rw [List.length_nil]; omega), List.nil_append, code_Decode_eq hb, ref_Decode_eq hb (by omega)]
    simp only [Option.bind_some]
    cases hd : decS x0 with
    | mk m e =>
      dsimp only
      rw [bne_self_eq_false, cond_false, same_beq, Option.bind_some, beq_self_eq_true, Bool.not_true, cond_false]
      by_cases he : e = 0
      · subst he
        obtain ⟨h1, h2, _⟩ := (decS_ok hb hd).1 rfl
        obtain ⟨w, hl⟩ := decS_wf hb hd
        rw [bne_self_eq_false, cond_false, code_Encode_ok w h2 hl (enc_room w h2 hl), Option.bind_some, ← h1, refSame_self]
        rfl
      · have : (e != 0) = true := by simpa using he
        rw [this, cond_true]
theorem CodeCut_true (x0 : Msg) (x1 : Int) (x2 : List Int) (w0 : Msg.wf x0) (w1 : intW .u16 x1) (w2 : ∀ y ∈ x2, intW .u8 y) (_ : x0.Mod.Acts.length * 32 ≤ 140737488355328) (_ : x0.Rules.length * 272 ≤ 140737488355328) (l2 : x2.length * 1 ≤ 140737488355328) : podestalaw09_CodeCut_raw x0 x1 x2 = some true := by
  rw [podestalaw09_CodeCut_raw, List.length_map]
  cases hs : podestalaw09_small x0 with
  | false => rfl
  | true =>
    have hl : x0.Rules.length ≤ 65535 := Nat.le_trans (small_rules hs) (by decide)
    rw [Bool.not_true, cond_false, refMsg_eq w0 hl, Option.bind_some]
    cases hS : code_Sound x0 with
    | false => rfl
    | true =>
      by_cases h0 : x2.length = 0 ∨ x2.length > 100
      · have : ((!true || ((x2.length : Nat) : Int) == 0) || decide (((x2.length : Nat) : Int) > 100)) = true := by
          rcases h0 with h | h
          · rw [h]; rfl
          · rw [decide_eq_true (by omega), Bool.or_true]
        rw [this, cond_true]
      · have h0' : (((x2.length : Nat) : Int) == 0) = false := ne_beq (by omega)
        have : ((!true || ((x2.length : Nat) : Int) == 0) || decide (((x2.length : Nat) : Int) > 100)) = false := by
          rw [decide_eq_false (by omega), h0']
          rfl
        rw [this, cond_false, ref_Encode_ok w0 hS hl, Option.bind_some, List.length_map]
        have hp := encMsg_pos x0
        have hm := encMsg_len w0 hS hl
        have hv := encMsg_bytes w0 hS hl
        have h1 := u16W.1 w1
        have e1 : IntKind.i64.wrap x1 = x1 := wrap_eq (by omega) (by omega)
        have e2 : Int.tmod x1 ((encMsg x0).length : Int) = x1 % ((encMsg x0).length : Int) := Int.tmod_eq_emod_of_nonneg h1.1
        have e3 : x1 % ((encMsg x0).length : Int) < ((encMsg x0).length : Int) := Int.emod_lt_of_pos _ (by omega)
        have e4 : 0 ≤ x1 % ((encMsg x0).length : Int) := Int.emod_nonneg _ (by omega)
        obtain ⟨k, hk⟩ := Int.eq_ofNat_of_zero_le e4
        have hkl : k < (encMsg x0).length := by omega
        have hsl : sliceO (encMsg x0) none (some (k : Int)) none = some ((encMsg x0).take k) := by
          unfold sliceO
          rw [if_pos ⟨by simp only [Option.getD_none]; omega, by simp only [Option.getD_none, Option.getD_some]; omega, by simp only [Option.getD_some]; omega, .inl rfl⟩]
          simp
        have hd1 : decS ((encMsg x0).take k) = (msg0 0 0, 8) := by
          rw [decS, decS_cut w0 hS hl (b := (encMsg x0).take k) (c := (encMsg x0).drop k) (List.take_append_drop _ _).symm (fun h => by
            have := List.drop_eq_nil_iff.1 h
            omega)]
        have hd2 := decS_more w0 hS hl (c := x2) (fun h => h0 (.inl (by rw [h]; rfl)))
        have hb2 := bytes_of w2
        rw [reqO_eq (by rw [bne_iff_ne]; omega), e1, e2, hk, hsl, Option.bind_some, code_Decode_eq (fun y hy => hv y (List.mem_of_mem_take hy)), hd1, Option.bind_some, fit1 (by rw [List.length_nil]; omega), fit1 (by rw [List.length_append, List.length_nil]; omega), List.nil_append, code_Decode_eq (hv.app hb2), Option.bind_some, hd2]
        rfl
theorem CodeSame_true (x0 x1 : Msg) (w0 : Msg.wf x0) (w1 : Msg.wf x1) (_ : x0.Mod.Acts.length * 32 ≤ 140737488355328) (_ : x0.Rules.length * 272 ≤ 140737488355328) (_ : x1.Mod.Acts.length * 32 ≤ 140737488355328) (_ : x1.Rules.length * 272 ≤ 140737488355328) : podestalaw09_CodeSame_raw x0 x1 = some true := by
  rw [podestalaw09_CodeSame_raw]
  cases hs0 : podestalaw09_small x0 with
  | false => rfl
  | true =>
    cases hs1 : podestalaw09_small x1 with
    | false => rfl
    | true =>
      have hl0 : x0.Rules.length ≤ 65535 := Nat.le_trans (small_rules hs0) (by decide)
      have hl1 : x1.Rules.length ≤ 65535 := Nat.le_trans (small_rules hs1) (by decide)
      rw [refMsg_eq w0 hl0, refMsg_eq w1 hl1]
      simp only [same_beq, code_Same_eq, Option.bind_some, bne_self_eq_false, beq_self_eq_true, Bool.not_true, Bool.or_self, cond_false]
      cases hS0 : code_Sound x0 with
      | false => rfl
      | true =>
        cases hS1 : code_Sound x1 with
        | false => rfl
        | true =>
          rw [ref_Encode_ok w0 hS0 hl0, ref_Encode_ok w1 hS1 hl1]
          simp only [Bool.not_true, cond_false, Option.bind_some]
          by_cases he : x0 = x1
          · subst he
            rw [refSame_self, beq_self_eq_true]
            rfl
          · have h1 : refSameB (encMsg x0) (encMsg x1) = false := by
              unfold refSameB
              rw [beq_eq_false_iff_ne]
              intro h
              have h2 := decS_enc w0 hS0 hl0
              rw [h, decS_enc w1 hS1 hl1] at h2
              injection h2 with h2
              exact he h2.symm
            have h2 : (x0 == x1) = false := by simpa using he
            rw [h1, h2]
            rfl
theorem CodeTurned_true (x0 : Msg) (x1 x2 : Int) (w0 : Msg.wf x0) (w1 : intW .u16 x1) (w2 : intW .u8 x2) (_ : x0.Mod.Acts.length * 32 ≤ 140737488355328) (_ : x0.Rules.length * 272 ≤ 140737488355328) : podestalaw09_CodeTurned_raw x0 x1 x2 = some true := by
  rw [podestalaw09_CodeTurned_raw]
  cases hs : podestalaw09_small x0 with
  | false => rfl
  | true =>
    have hl : x0.Rules.length ≤ 65535 := Nat.le_trans (small_rules hs) (by decide)
    rw [Bool.not_true, cond_false, refMsg_eq w0 hl, Option.bind_some]
    cases hS : code_Sound x0 with
    | false => rfl
    | true =>
      have hp := encMsg_pos x0
      have hm := encMsg_len w0 hS hl
      have hv := encMsg_bytes w0 hS hl
      have h1 := u16W.1 w1
      have e1 : IntKind.i64.wrap x1 = x1 := wrap_eq (by omega) (by omega)
      have e2 : Int.tmod x1 ((encMsg x0).length : Int) = x1 % ((encMsg x0).length : Int) := Int.tmod_eq_emod_of_nonneg h1.1
      have e3 : x1 % ((encMsg x0).length : Int) < ((encMsg x0).length : Int) := Int.emod_lt_of_pos _ (by omega)
      have e4 : 0 ≤ x1 % ((encMsg x0).length : Int) := Int.emod_nonneg _ (by omega)
      obtain ⟨k, hk⟩ := Int.eq_ofNat_of_zero_le e4
      have hkl : k < (encMsg x0).length := by omega
      have hb : Bytes ((encMsg x0).set k x2) := fun y hy => (List.mem_or_eq_of_mem_set hy).elim (hv y) (fun h => by rw [h]; exact u8W.1 w2)
      rw [Bool.not_true, cond_false, ref_Encode_ok w0 hS hl, Option.bind_some, List.length_map, reqO_eq (by rw [bne_iff_ne]; omega), e1, e2, hk, ixO_lt hkl, Option.bind_some, Int.toNat_natCast, code_Decode_eq hb, Option.bind_some]
      by_cases hc : (encMsg x0)[k] = x2
      · have hst : (encMsg x0).set k x2 = encMsg x0 := by rw [← hc]; exact List.set_getElem_self hkl
        have e5 : ((encMsg x0)[k] == x2) = true := by simpa using hc
        rw [e5, cond_true, hst, decS_enc w0 hS hl]
        simp only [beq_self_eq_true, cond_true, same_beq, Option.bind_some]
      · have e5 : ((encMsg x0)[k] == x2) = false := by simpa using hc
        rw [e5, cond_false]
        cases hd : decS ((encMsg x0).set k x2) with
        | mk x e =>
          dsimp only
          by_cases he : e = 0
          · subst he
            rw [same_beq]
            have h5 := ((decS_ok hb hd).1 rfl).1
            have hx : (x == x0) = false := by
              rw [beq_eq_false_iff_ne]
              intro h
              rw [h] at h5
              apply hc
              have h6 : ((encMsg x0).set k x2)[k]'(by rw [List.length_set]; exact hkl) = (encMsg x0)[k] := by simp only [h5]
              rw [List.getElem_set_self] at h6
              exact h6.symm
            rw [hx]
            rfl
          · have : (e != 0) = true := by simpa using he
            rw [this, cond_true]

end Go.Proofs.Ythfidfjogecnpaa
