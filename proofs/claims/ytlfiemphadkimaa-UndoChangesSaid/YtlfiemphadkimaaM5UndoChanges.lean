import Derived.Test.YtlfiemphadkimaaM4UndoChanges
set_option linter.unusedVariables false
set_option linter.unusedSimpArgs false
set_option maxRecDepth 100000
set_option maxHeartbeats 4000000
namespace Go.Proofs.Ytlfiemphadkimaa
open Go.Sh
/-! ### podestaref01.Size: function 65 -/
noncomputable def podestaref01_Size_F : Go.Sh.Fn := ⟨65, bodyOf Try.f65, 13⟩
def podestaref01_Size_raw (field : Int) : Option (Int) :=
  (bif ((decide (field < 0)) || (decide (field > 11))) then
    some 0
  else
    (ixO [16, 48, 48, 16, 12, 4, 32, 32, 8, 8, 12, 12] field).bind fun x =>
    some x)
theorem podestaref01_Size_walk (field : Int) (r : Int) (H : podestaref01_Size_raw field = some r) : ACalls Try.prog tab.S 65 [.sc (.int .i64 field)] [] (.sc (.int .i64 r)) [] := by
  refine .of_AX podestaref01_Size_F Try.func65 fun c0 hc0 => ?_
  rw [podestaref01_Size_raw] at H
  refine .sg 4 [0] (.rg (.sg 3 [0,5] (.mx 1 [0,8] (.dn (.cd ((decide (field < 0)) || (decide (field > 11))) H (fun hb H => ?_) (fun hb H => ?_))))))
  ·
    refine .sg 2 [2] ?_
    obtain rfl := Option.some.inj H
    exact .ret Try.func65 hc0
  ·
    refine .sg 2 [0] (.rg (.sg 2 [9,10] (bndO H fun x hv H => (.xi [11] (intA .i64) hv (.sg 2 [2] (.dn ?_))))))
    obtain rfl := Option.some.inj H
    exact .ret Try.func65 hc0

theorem podestaref01_Size_ok (n : Int) : ACalls Try.prog tab.S 65 [.sc (.int .i64 n)] [] (.sc (.int .i64 (sizeT n))) [] := by
  refine podestaref01_Size_walk n (sizeT n) ?_
  rw [podestaref01_Size_raw]
  rcases sizeT_cases n with ⟨h, e⟩ | ⟨h1, h2, k, rfl, hk, e⟩
  · rw [e]
    have : ((decide (n < 0)) || (decide (n > 11))) = true := by
      rw [Bool.or_eq_true, decide_eq_true_eq, decide_eq_true_eq]; omega
    rw [this]
    rfl
  · rw [e, decide_eq_false (by omega), decide_eq_false (by omega)]
    match k, hk with
    | 0, _ | 1, _ | 2, _ | 3, _ | 4, _ | 5, _ | 6, _ | 7, _ | 8, _ | 9, _ | 10, _ | 11, _ => rfl

/-! ### podestaref01.Fits: function 64 -/
noncomputable def podestaref01_Fits_F : Go.Sh.Fn := ⟨64, bodyOf Try.f64, 10⟩
def podestaref01_Fits (v : Int) (size : Int) : Bool :=
  (decide (v < (IntKind.u64.wrap (1 * 2 ^ (min ((IntKind.u64.wrap size) : Int).toNat (IntKind.u64).bits)))))
theorem podestaref01_Fits_calls (v : Int) (size : Int) : ACalls Try.prog tab.S 64 [.sc (.int .u64 v), .sc (.int .i64 size)] [] (.sc (.bool (podestaref01_Fits v size))) [] := by
  generalize H : podestaref01_Fits v size = r
  refine .of_AX podestaref01_Fits_F Try.func64 fun c0 hc0 => ?_
  rw [podestaref01_Fits] at H
  refine .sg 3 [0,1] (.rg (.sg 3 [5,7] (.sl_ [5,8] (b := (IntKind.u64.wrap size)) (wrapU_nonneg _) (.sg 2 [4] (.dn ?_)))))
  subst H
  exact .ret Try.func64 hc0

theorem refFits_eq (n v : Int) : podestaref01_Fits v (sizeT n) = fitsT n v := by
  have hs := sizeT_in n
  unfold podestaref01_Fits fitsT
  have h1 : IntKind.u64.wrap (sizeT n) = sizeT n := wrapU_eq hs.1 (by omega)
  have hm : min (sizeT n).toNat (IntKind.u64).bits = (sizeT n).toNat := Nat.min_eq_left (by show _ ≤ 64; omega)
  have hp := pow_le48 (k := (sizeT n).toNat) (by omega)
  have hq := pow_pos2 (sizeT n).toNat
  rw [h1, hm, Int.one_mul, wrapU_eq (by omega) (by omega)]

/-! ### podestaref04.Acts: function 37 -/
noncomputable def podestaref04_Acts_F : Go.Sh.Fn := ⟨37, bodyOf Try.f37, 81⟩
def podestaref04_Acts_l0s : List Act → Sum (Unit) (Bool)
  | [] =>
    (.inl ())
  | x :: rest =>
    (bif (!(bif (x.Kind == 1) then ((((decide (x.Port ≥ 1)) && (decide (x.Port ≤ 16))) && (x.Field == 0)) && (x.Value == 0)) else (bif (x.Kind == 2) then ((((x.Port == 0) && (decide (x.Field ≥ 0))) && (decide (x.Field < 12))) && (podestaref01_Fits x.Value (sizeT x.Field))) else ((x.Kind == 3) && (((x.Port == 0) && (x.Field == 0)) && (x.Value == 0)))))) then
      (.inr false)
    else
      podestaref04_Acts_l0s rest )
theorem podestaref04_Acts_l0_walk (l : List Act) (f_l : Bool) (r : Bool) (c0 : Ctx) (hc0 : c0.m.length = 0) (res : Sum (Unit) (Bool)) (J : ∀ w : Unit, res = .inl w → AX Try.prog tab podestaref04_Acts_F c0 (Rp tab.S c0 (.sc (.bool r)) []) (some ⟨[.code [1, 1]], [(0, .sl 60 (List.map Act.av l) f_l)], []⟩)) (Jr : ∀ w, res = .inr w → w = r) :
    ∀ (rest : List Act) (i : Nat) (z : Int) (hI : z = ((i : Nat) : Int)) (hd : l.drop i = rest) (H : podestaref04_Acts_l0s rest = res), AX Try.prog tab podestaref04_Acts_F c0 (Rp tab.S c0 (.sc (.bool r)) []) (some ⟨[.code [1, 0, 1, 0, 0], .loop [1, 0, 1, 0], .blk 0, .code [1, 1]], [(0, .sl 60 (List.map Act.av l) f_l), (3, .sc (.int .i64 z))], []⟩) := by
  intro rest
  induction rest with
  | nil =>
    intro i z hI hd  H
    subst hI
    rw [podestaref04_Acts_l0s] at H
    refine .facts 0 fun hf => ?_
    have hlen : l.length ≤ 9223372036854775807 := by have hq := len_ok hf.2.1; rw [List.length_map] at hq; exact hq
    have hge : l.length ≤ i := List.drop_eq_nil_iff.1 hd
    have hc : (decide (((i : Nat) : Int) < (((List.map Act.av l).length : Nat) : Int))) = false := by rw [List.length_map]; exact decide_eq_false (by omega)
    exact .sg 3 [0,3,9] (.cdF hc (.sg 1 [0] (.kp [0] (.to (J () H.symm)))))
  | cons x rest ih =>
    intro i z hI hd  H
    subst hI
    rw [podestaref04_Acts_l0s] at H
    refine .facts 0 fun hf => ?_
    have hlen : l.length ≤ 9223372036854775807 := by have hq := len_ok hf.2.1; rw [List.length_map] at hq; exact hq
    obtain ⟨hlt, hv_i, hd2⟩ := drop_cons hd
    have hc : (decide (((i : Nat) : Int) < (((List.map Act.av l).length : Nat) : Int))) = true := by rw [List.length_map]; exact decide_eq_true (by omega)
    have hw : IntKind.i64.wrap (((i : Nat) : Int) + 1) = ((i + 1 : Nat) : Int) := wrapI_succ (by omega)
    refine .sg 3 [0,3,9] (.cdT hc (.sg 4 [0,3] (.rg (.sg 2 [0,3,12,13] (.xi [0,3,14] Act.av hv_i (.sg 3 [0,3,4] (.dn (.sg 8 [0,3,4,5,17,18] (.jn (x.Kind == 1) [0, 3, 5] (fun z => [(5, .sc (.bool (bif z then ((((decide (x.Port ≥ 1)) && (decide (x.Port ≤ 16))) && (x.Field == 0)) && (x.Value == 0)) else (bif (x.Kind == 2) then ((((x.Port == 0) && (decide (x.Field ≥ 0))) && (decide (x.Field < 12))) && (podestaref01_Fits x.Value (sizeT x.Field))) else ((x.Kind == 3) && (((x.Port == 0) && (x.Field == 0)) && (x.Value == 0)))))))]) ?J144 (fun hb J => ?ht144) (fun hb J => ?hf144))))))))))
    case ht144 =>
      exact .rg (.sg 4 [0,3,4,23] (.mx 0 [0,3,4,27] (.sg 1 [0,3,4,28] (.mx 0 [0,3,4,32] (.sg 1 [0,3,4,33] (.mx 0 [0,3,37] (.sg 1 [0,3,5] (.dn (.sg 0 [0,3,5] (.cl J))))))))))
    case hf144 =>
      refine .sg 2 [0,3,4,5,17,38] (.jn (x.Kind == 2) [0, 3, 5] (fun z => [(5, .sc (.bool (bif z then ((((x.Port == 0) && (decide (x.Field ≥ 0))) && (decide (x.Field < 12))) && (podestaref01_Fits x.Value (sizeT x.Field))) else ((x.Kind == 3) && (((x.Port == 0) && (x.Field == 0)) && (x.Value == 0))))))]) ?J156 (fun hb J => ?ht156) (fun hb J => ?hf156))
      case ht156 =>
        refine .rg (.sg 4 [0,3,4,43] (.mx 0 [0,3,4,47] (.sg 1 [0,3,4,48] (.mx 0 [0,3,4,52] (.sg 1 [0,3,4,53] (.mm 53 (((x.Port == 0) && (decide (x.Field ≥ 0))) && (decide (x.Field < 12))) 7 [.pure, .pure, .pure, .read, .pure, .read, .pure] [0, 3, 60] 60 (fun z => .sc (.bool (z && (podestaref01_Fits x.Value (sizeT x.Field))))) ?J159 (fun hb J => ?ht159) (fun hb J => ?hf159)))))))
        case ht159 =>
          exact .sg 4 [0,3,53,55,57] (.cp [0,3,53,55,58] (podestaref01_Size_ok x.Field) (.cp [0,3,53,59] (podestaref01_Fits_calls x.Value (sizeT x.Field)) (.sg 1 [0,3,60] (.cl J))))
        case hf159 =>
          exact .sg 7 [0,3,60] (.cl J)
        exact .sg 1 [0,3,5] (.dn (.sg 0 [0,3,5] (.cl J)))
      case hf156 =>
        refine .sg 2 [0,3,4,5,61] (.jn (x.Kind == 3) [0, 3, 5] (fun z => [(5, .sc (.bool (z && (((x.Port == 0) && (x.Field == 0)) && (x.Value == 0)))))]) ?J162 (fun hb J => ?ht162) (fun hb J => ?hf162))
        case ht162 =>
          exact .rg (.sg 4 [0,3,4,66] (.mx 0 [0,3,4,70] (.sg 1 [0,3,4,71] (.mx 0 [0,3,75] (.sg 1 [0,3,5] (.dn (.sg 0 [0,3,5] (.cl J))))))))
        case hf162 =>
          exact .sg 1 [0,3,5] (.cl J)
        exact .sg 0 [0,3,5] (.cl J)
      exact .sg 0 [0,3,5] (.cl J)
    refine .sg 3 [0,3,77] (.cd (!(bif (x.Kind == 1) then ((((decide (x.Port ≥ 1)) && (decide (x.Port ≤ 16))) && (x.Field == 0)) && (x.Value == 0)) else (bif (x.Kind == 2) then ((((x.Port == 0) && (decide (x.Field ≥ 0))) && (decide (x.Field < 12))) && (podestaref01_Fits x.Value (sizeT x.Field))) else ((x.Kind == 3) && (((x.Port == 0) && (x.Field == 0)) && (x.Value == 0)))))) H (fun hb H => ?_) (fun hb H => ?_))
    ·
      refine .sg 2 [2] ?_
      subst H
      obtain rfl := Jr _ rfl
      exact .ret Try.func37 hc0
    ·
      exact .sg 3 [0,3] (.tl hc0 [] [0,3] (.into (.cl (ih (i + 1) _ hw hd2 H))))

def podestaref04_Acts (l : List Act) : Bool :=
  sumG (fun q => q) (podestaref04_Acts_l0s l) fun v =>
  (decide ((((List.map Act.av l).length : Nat) : Int) ≤ 8))
theorem podestaref04_Acts_calls (l : List Act) (f_l : Bool) : ACalls Try.prog tab.S 37 [.sl 60 (List.map Act.av l) f_l] [] (.sc (.bool (podestaref04_Acts l))) [] := by
  generalize H : podestaref04_Acts l = r
  refine .of_AX podestaref04_Acts_F Try.func37 fun c0 hc0 => ?_
  rw [podestaref04_Acts] at H
  refine .sg 6 [0,3] ?_
  rcases sumG_eq H with ⟨v, hv, H⟩ | ⟨r1, hv, hr1⟩
  case inr =>
    refine .into ?_
    replace hr1 : r1 = r := hr1
    subst hr1
    exact .to (podestaref04_Acts_l0_walk l f_l _ c0 hc0 (.inr _) (fun _ e => by cases e) (fun _ e => (Sum.inr.inj e).symm) l 0 _ rfl rfl hv)
  refine .into (.to (podestaref04_Acts_l0_walk l f_l r c0 hc0 (.inl v) (fun w e => ?_) (fun _ e => by cases e) l 0 _ rfl rfl hv))
  have e := Sum.inl.inj e
  subst e
  refine .sg 2 [2] ?_
  subst H
  exact .ret Try.func37 hc0

def actOk (x : Act) : Bool := (bif (x.Kind == 1) then ((((decide (x.Port ≥ 1)) && (decide (x.Port ≤ 16))) && (x.Field == 0)) && (x.Value == 0)) else (bif (x.Kind == 2) then ((((x.Port == 0) && (decide (x.Field ≥ 0))) && (decide (x.Field < 12))) && (fitsT x.Field x.Value)) else ((x.Kind == 3) && (((x.Port == 0) && (x.Field == 0)) && (x.Value == 0)))))
def ActsOk (l : List Act) : Bool := l.all actOk && decide (l.length ≤ 8)
theorem refActs_l0s_eq : ∀ (l : List Act), podestaref04_Acts_l0s l = if l.all actOk then .inl () else .inr false
  | [] => rfl
  | x :: l => by
      rw [podestaref04_Acts_l0s, refActs_l0s_eq l, List.all_cons]
      simp only [refFits_eq]
      show (bif (!(actOk x)) then _ else _) = _
      cases actOk x
      · rfl
      · simp only [Bool.not_true, cond_false, Bool.true_and]
theorem refActs_eq (l : List Act) : podestaref04_Acts l = ActsOk l := by
  unfold podestaref04_Acts ActsOk
  rw [refActs_l0s_eq, List.length_map]
  cases l.all actOk
  · rfl
  · simp only [if_true, sumG, Bool.true_and]
    rw [Bool.eq_iff_iff, decide_eq_true_eq, decide_eq_true_eq]
    omega

/-! ### podestaref01.Bits: function 79 -/
noncomputable def podestaref01_Bits_F : Go.Sh.Fn := ⟨79, bodyOf Try.f79, 23⟩
def podestaref01_Bits_l0 (v : Int) : Nat → Int → List Bool → Option ((List Bool))
  | 0, _, _ => none
  | m + 1, k1, out =>
    (bif (decide (k1 ≥ 0)) then
    fitO (out.length + [((IntKind.u64.wrap ((BitVec.ofInt 64 (Int.fdiv v (2 ^ (min ((IntKind.u64.wrap k1) : Int).toNat (IntKind.u64).bits))) &&& BitVec.ofInt 64 1).toNat)) == 1)].length) 1 (
    podestaref01_Bits_l0 v m (IntKind.i64.wrap (k1 - 1)) (out ++ [((IntKind.u64.wrap ((BitVec.ofInt 64 (Int.fdiv v (2 ^ (min ((IntKind.u64.wrap k1) : Int).toNat (IntKind.u64).bits))) &&& BitVec.ofInt 64 1).toNat)) == 1)]))
  else
    some out)
theorem podestaref01_Bits_l0_walk (q0 : Nat) (v : Int) (size : Int)  (r : (List Bool)) (c0 : Ctx) (hc0 : c0.m.length = 0) (res : (List Bool)) (J : AX Try.prog tab podestaref01_Bits_F c0 (Rp tab.S c0 (.sl 4 (List.map boolA r) false) []) (some ⟨[.code [1, 1, 1]], [(5, .own 0 1000000)], [.row 4 (List.map boolA res) 1000000 true]⟩)) :
    ∀ (m : Nat) (k1 : Int) (out : List Bool) (H : podestaref01_Bits_l0 v m k1 out = some res), AX Try.prog tab podestaref01_Bits_F c0 (Rp tab.S c0 (.sl 4 (List.map boolA r) false) []) (some ⟨[.code [1, 1, 0, 1, 0, 0], .loop [1, 1, 0, 1, 0], .blk 0, .code [1, 1, 1]], [(0, .sc (.int .u64 v)), (5, .own 0 1000000), (6, .sc (.int .i64 k1))], [.row 4 (List.map boolA out) 1000000 true]⟩) := by
  intro m
  induction m with
  | zero => intro k1 out H; cases H
  | succ m ih =>
    intro k1 out H
    rw [podestaref01_Bits_l0] at H
    refine .sg 3 [0,5,6,10] (.cd (decide (k1 ≥ 0)) H (fun hb H => ?_) (fun hb H => ?_))
    ·
      exact .sg 3 [0,5,6] (.rg (.sg 4 [0,6,13,14,16] (.sr_ [0,6,13,17] (b := (IntKind.u64.wrap k1)) (wrapU_nonneg _) (.sg 3 [0,6,13,20] (fitH H fun hfit H => (.ap [0,6,21] boolA hfit (.sg 1 [0,5,6] (.dn (.sg 2 [0,5,6] (.tl hc0 [0] [0,5,6] (.into (.to (ih (IntKind.i64.wrap (k1 - 1)) (out ++ [((IntKind.u64.wrap ((BitVec.ofInt 64 (Int.fdiv v (2 ^ (min ((IntKind.u64.wrap k1) : Int).toNat (IntKind.u64).bits))) &&& BitVec.ofInt 64 1).toNat)) == 1)]) H)))))))))))))
    ·
      refine .sg 1 [5] (.kp [5] ?_)
      obtain rfl := Option.some.inj H
      exact .to J
def podestaref01_Bits_raw (q0 : Nat) (v : Int) (size : Int) : Option ((List Bool)) :=
  (podestaref01_Bits_l0 v q0 (IntKind.i64.wrap (size - 1)) ([] : List Bool)).bind fun v1 =>
  some v1
theorem podestaref01_Bits_walk (q0 : Nat) (v : Int) (size : Int) (r : (List Bool)) (H : podestaref01_Bits_raw q0 v size = some r) : ACalls Try.prog tab.S 79 [.sc (.int .u64 v), .sc (.int .i64 size)] [] (.sl 4 (List.map boolA r) false) [] := by
  refine .of_AX podestaref01_Bits_F Try.func79 fun c0 hc0 => ?_
  rw [podestaref01_Bits_raw] at H
  refine .sg 8 [0,5,6] (.ad 5 4 true (.kp [0,5,6] ?_))
  refine bndO H fun v1 hv H => (.into (.to (podestaref01_Bits_l0_walk q0 v size r c0 hc0 v1 ?_ q0 (IntKind.i64.wrap (size - 1)) ([] : List Bool) hv)))
  refine .sg 2 [4] ?_
  obtain rfl := Option.some.inj H
  exact .ret Try.func79 hc0

def bitE (v k1 : Int) : Bool := ((IntKind.u64.wrap ((BitVec.ofInt 64 (Int.fdiv v (2 ^ (min ((IntKind.u64.wrap k1) : Int).toNat (IntKind.u64).bits))) &&& BitVec.ofInt 64 1).toNat)) == 1)
def bitsL (v : Int) : Nat → List Bool
  | 0 => []
  | n + 1 => bitE v (n : Int) :: bitsL v n
theorem bitsL_len (v : Int) : ∀ n, (bitsL v n).length = n
  | 0 => rfl
  | n + 1 => by rw [bitsL, List.length_cons, bitsL_len v n]
def bitsO (v size : Int) : Option (List Bool) := if 0 ≤ size ∧ size ≤ 64 then some (bitsL v size.toNat) else none
theorem refBits_l0_eq (v : Int) : ∀ (n m : Nat) (out : List Bool), n < m → n ≤ 64 → out.length + n ≤ 1000 → podestaref01_Bits_l0 v m ((n : Int) - 1) out = some (out ++ bitsL v n)
  | 0, m + 1, out, _, _, _ => by
      rw [podestaref01_Bits_l0, decide_eq_false (by omega), bitsL, List.append_nil]; rfl
  | n + 1, m + 1, out, h1, h2, h3 => by
      have e : (((n + 1 : Nat) : Int) - 1) = (n : Int) := by omega
      rw [podestaref01_Bits_l0, e, decide_eq_true (show ((n : Int)) ≥ 0 by omega), cond_true, fitO_eq (by rw [List.length_cons, List.length_nil]; omega), wrap_eq (by omega) (by omega)]
      rw [refBits_l0_eq v n m _ (by omega) (by omega) (by rw [List.length_append, List.length_cons, List.length_nil]; omega), List.append_assoc]
      rfl
theorem podestaref01_Bits_ok (v size : Int) (x : List Bool) (h : bitsO v size = some x) : ACalls Try.prog tab.S 79 [.sc (.int .u64 v), .sc (.int .i64 size)] [] (.sl 4 (List.map boolA x) false) [] := by
  unfold bitsO at h
  split at h
  · rename_i hc
    injection h with h
    subst h
    refine podestaref01_Bits_walk (size.toNat + 1) v size _ ?_
    rw [podestaref01_Bits_raw, wrap_eq (by omega) (by omega)]
    have := refBits_l0_eq v size.toNat (size.toNat + 1) [] (by omega) (by omega) (by rw [List.length_nil]; omega)
    rw [show ((size.toNat : Nat) : Int) = size by omega] at this
    rw [this]
    rfl
  · cases h

end Go.Proofs.Ytlfiemphadkimaa

set_option linter.unusedVariables false
set_option linter.unusedSimpArgs false
set_option maxRecDepth 100000
set_option maxHeartbeats 4000000
namespace Go.Proofs.Ytlfiemphadkimaa
open Go.Sh
/-! ### podestaref01.Head: function 78 -/
noncomputable def podestaref01_Head_F : Go.Sh.Fn := ⟨78, bodyOf Try.f78, 15⟩
def podestaref01_Head_l0s (h1 : List Int) : Nat → Nat → Sum (Unit) (Bool)
  | 0, i =>
    (.inl ())
  | rest + 1, i =>
    (bif (!(podestaref01_Fits (h1.getD (i) 0) (sizeT ((i : Nat) : Int)))) then
      (.inr false)
    else
      podestaref01_Head_l0s h1 rest (i + 1) )
theorem podestaref01_Head_l0_walk (h1 : List Int) (r : Bool) (c0 : Ctx) (hc0 : c0.m.length = 0) (res : Sum (Unit) (Bool)) (J : ∀ w : Unit, res = .inl w → AX Try.prog tab podestaref01_Head_F c0 (Rp tab.S c0 (.sc (.bool r)) []) (some ⟨[.code [1, 1]], [], [.box 28 [.arr .u64 12 h1]]⟩)) (Jr : ∀ w, res = .inr w → w = r) :
    ∀ (rest : Nat) (i : Nat) (z : Int) (hI : z = ((i : Nat) : Int)) (hd : i + rest = 12) (H : podestaref01_Head_l0s h1 rest i = res), AX Try.prog tab podestaref01_Head_F c0 (Rp tab.S c0 (.sc (.bool r)) []) (some ⟨[.code [1, 0, 1, 0, 0], .loop [1, 0, 1, 0], .blk 0, .code [1, 1]], [(1, .ptr 0 0 none), (3, .sc (.int .i64 z))], [.box 28 [.arr .u64 12 h1]]⟩) := by
  intro rest
  induction rest with
  | zero =>
    intro i z hI hd  H
    subst hI
    rw [podestaref01_Head_l0s] at H
    have hc : (decide (((i : Nat) : Int) < 12)) = false := decide_eq_false (by omega)
    exact .sg 3 [1,3,5] (.cdF hc (.sg 1 [] (.kp [] (.to (J () H.symm)))))
  | succ rest ih =>
    intro i z hI hd  H
    subst hI
    rw [podestaref01_Head_l0s] at H
    have hlt_i : i < 12 := by omega
    have hc : (decide (((i : Nat) : Int) < 12)) = true := decide_eq_true (by omega)
    have hw : IntKind.i64.wrap (((i : Nat) : Int) + 1) = ((i + 1 : Nat) : Int) := wrapI_succ (by omega)
    refine .sg 3 [1,3,5] (.cdT hc (.sg 4 [1,3] (.rg (.sg 1 [1,3,8] ?_))))
    have hreq := idx_in 12 hlt_i (by decide)
    refine .xa [1,3,9] hreq (.sg 2 [1,3,10,11] (.cp [1,3,10,12] (podestaref01_Size_ok ((i : Nat) : Int)) (.cp [1,3,13] (podestaref01_Fits_calls (h1.getD (i) 0) (sizeT ((i : Nat) : Int))) (.sg 1 [1,3,14] (.dn (.cd (!(podestaref01_Fits (h1.getD (i) 0) (sizeT ((i : Nat) : Int)))) H (fun hb H => ?_) (fun hb H => ?_)))))))
    ·
      refine .sg 2 [2] ?_
      subst H
      obtain rfl := Jr _ rfl
      exact .ret Try.func78 hc0
    ·
      exact .sg 3 [1,3] (.kp [1,3] (.into (.cl (ih (i + 1) _ hw (by omega) H))))

def podestaref01_Head (h1 : List Int) : Bool :=
  sumG (fun q => q) (podestaref01_Head_l0s h1 12 0) fun v =>
  true
theorem podestaref01_Head_calls (h1 : List Int) : ACalls Try.prog tab.S 78 [.arr .u64 12 h1] [] (.sc (.bool (podestaref01_Head h1))) [] := by
  generalize H : podestaref01_Head h1 = r
  refine .of_AX podestaref01_Head_F Try.func78 fun c0 hc0 => ?_
  rw [podestaref01_Head] at H
  refine .sg 6 [1,3] ?_
  rcases sumG_eq H with ⟨v, hv, H⟩ | ⟨r1, hv, hr1⟩
  case inr =>
    refine .into ?_
    replace hr1 : r1 = r := hr1
    subst hr1
    exact .to (podestaref01_Head_l0_walk h1 _ c0 hc0 (.inr _) (fun _ e => by cases e) (fun _ e => (Sum.inr.inj e).symm) 12 0 _ rfl rfl hv)
  refine .into (.to (podestaref01_Head_l0_walk h1 r c0 hc0 (.inl v) (fun w e => ?_) (fun _ e => by cases e) 12 0 _ rfl rfl hv))
  have e := Sum.inl.inj e
  subst e
  refine .sg 2 [2] ?_
  subst H
  exact .ret Try.func78 hc0

/-! ### podestaref01.Text: function 63 -/
noncomputable def podestaref01_Text_F : Go.Sh.Fn := ⟨63, bodyOf Try.f63, 70⟩
def podestaref01_Text_l1s (x2 : (List Bool)) (ok1 : Bool) : List Bool → Nat → List Int → Option (Bool × (List Int))
  | [], k1, out1 =>
    some (ok1, out1)
  | x3 :: rest1, k1, out1 =>
    (ixO x2 ((k1 : Nat) : Int)).bind fun x4 =>
    (bif (!x4) then
      fitO (out1.length + ([120] : List Int).length) 1 (
      podestaref01_Text_l1s x2 ok1 rest1 (k1 + 1) (out1 ++ ([120] : List Int)))
    else
      (bif x3 then
        fitO (out1.length + ([49] : List Int).length) 1 (
        podestaref01_Text_l1s x2 ok1 rest1 (k1 + 1) (out1 ++ ([49] : List Int)))
      else
        fitO (out1.length + ([48] : List Int).length) 1 (
        podestaref01_Text_l1s x2 ok1 rest1 (k1 + 1) (out1 ++ ([48] : List Int)))))
theorem podestaref01_Text_l1_walk (c : Cube) (i : Nat) (ok : Bool) (out : List Int) (hlt_i : i < 12) (x1 : (List Bool)) (x2 : (List Bool)) (ok1 : Bool) (r : ByteArray × Bool) (c0 : Ctx) (hc0 : c0.m.length = 0) (res : Bool × (List Int)) (J : AX Try.prog tab podestaref01_Text_F c0 (Rp tab.S c0 (.tup [.sc (.string r.1), .sc (.bool r.2)]) []) (some ⟨[.blk 1, .code [1, 1, 1, 0, 1, 0, 0, 1, 1], .loop [1, 1, 1, 0, 1, 0], .blk 0, .code [1, 1, 1, 1]], [(1, .ptr 0 0 none), (4, .own 1 1000000), (5, .sc (.bool res.1)), (6, .sc (.int .i64 ((i : Nat) : Int)))], [.box 30 (Cube.ch c), .row 5 (List.map (intA .u8) res.2) 1000000 true]⟩)) :
    ∀ (rest1 : List Bool) (k1 : Nat) (z : Int) (hI : z = ((k1 : Nat) : Int)) (hd : x1.drop k1 = rest1) (out1 : List Int) (H : podestaref01_Text_l1s x2 ok1 rest1 k1 out1 = some res), AX Try.prog tab podestaref01_Text_F c0 (Rp tab.S c0 (.tup [.sc (.string r.1), .sc (.bool r.2)]) []) (some ⟨[.code [1, 1, 1, 0, 1, 0, 0, 1, 0, 0, 1, 1, 1, 0, 0], .loop [1, 1, 1, 0, 1, 0, 0, 1, 0, 0, 1, 1, 1, 0], .blk 2, .blk 1, .code [1, 1, 1, 0, 1, 0, 0, 1, 1], .loop [1, 1, 1, 0, 1, 0], .blk 0, .code [1, 1, 1, 1]], [(1, .ptr 0 0 none), (4, .own 1 1000000), (5, .sc (.bool ok1)), (6, .sc (.int .i64 ((i : Nat) : Int))), (7, .sl 4 (List.map boolA x1) false), (8, .sl 4 (List.map boolA x2) false), (9, .sc (.int .i64 z))], [.box 30 (Cube.ch c), .row 5 (List.map (intA .u8) out1) 1000000 true]⟩) := by
  intro rest1
  induction rest1 with
  | nil =>
    intro k1 z hI hd out1 H
    subst hI
    rw [podestaref01_Text_l1s] at H
    refine .facts 7 fun hf => ?_
    have hlen : x1.length ≤ 9223372036854775807 := by have hq := len_ok hf.2.1; rw [List.length_map] at hq; exact hq
    have hge : x1.length ≤ k1 := List.drop_eq_nil_iff.1 hd
    have hc : (decide (((k1 : Nat) : Int) < (((List.map boolA x1).length : Nat) : Int))) = false := by rw [List.length_map]; exact decide_eq_false (by omega)
    refine .sg 3 [1,4,5,6,7,8,9,44] (.cdF hc (.sg 1 [1,4,5,6] (.kp [1,4,5,6] ?_)))
    obtain rfl := Option.some.inj H
    exact .to J
  | cons x3 rest1 ih =>
    intro k1 z hI hd out1 H
    subst hI
    rw [podestaref01_Text_l1s] at H
    refine .facts 7 fun hf => ?_
    have hlen : x1.length ≤ 9223372036854775807 := by have hq := len_ok hf.2.1; rw [List.length_map] at hq; exact hq
    obtain ⟨hlt, hv_k1, hd2⟩ := drop_cons hd
    have hc : (decide (((k1 : Nat) : Int) < (((List.map boolA x1).length : Nat) : Int))) = true := by rw [List.length_map]; exact decide_eq_true (by omega)
    have hw : IntKind.i64.wrap (((k1 : Nat) : Int) + 1) = ((k1 + 1 : Nat) : Int) := wrapI_succ (by omega)
    refine .sg 3 [1,4,5,6,7,8,9,44] (.cdT hc (.sg 5 [1,4,5,6,7,8,9] (.rg (.sg 2 [1,4,5,6,7,8,9,51,52] (bndO H fun x4 hv H => (.xi [1,4,5,6,7,8,9,53] boolA hv (.sg 3 [1,4,5,6,7,8,9,50] (.dn (.cd (!x4) H (fun hb H => ?_) (fun hb H => ?_))))))))))
    ·
      exact .rg (.sg 2 [1,5,6,7,8,9,56,57] (fitH H fun hfit H => (.ap [1,5,6,7,8,9,58] (intA .u8) hfit (.sg 1 [1,4,5,6,7,8,9] (.dn (.sg 3 [1,4,5,6,7,8,9] (.tl hc0 [0,1] [1,4,5,6,7,8,9] (.into (.cl (ih (k1 + 1) _ hw hd2 (out1 ++ ([120] : List Int)) H))))))))))
    ·
      refine .sg 1 [1,4,5,6,7,8,9] (.rg (.sg 2 [1,4,5,6,7,8,9,60,61] (.xi [1,4,5,6,7,8,9,62] boolA hv_k1 (.sg 2 [1,4,5,6,7,8,9,59] (.dn (.cd x3 H (fun hb H => ?_) (fun hb H => ?_)))))))
      ·
        exact .rg (.sg 2 [1,5,6,7,8,9,64,65] (fitH H fun hfit H => (.ap [1,5,6,7,8,9,66] (intA .u8) hfit (.sg 1 [1,4,5,6,7,8,9] (.dn (.sg 3 [1,4,5,6,7,8,9] (.tl hc0 [0,1] [1,4,5,6,7,8,9] (.into (.cl (ih (k1 + 1) _ hw hd2 (out1 ++ ([49] : List Int)) H))))))))))
      ·
        exact .rg (.sg 2 [1,5,6,7,8,9,47,48] (fitH H fun hfit H => (.ap [1,5,6,7,8,9,49] (intA .u8) hfit (.sg 1 [1,4,5,6,7,8,9] (.dn (.sg 3 [1,4,5,6,7,8,9] (.tl hc0 [0,1] [1,4,5,6,7,8,9] (.into (.cl (ih (k1 + 1) _ hw hd2 (out1 ++ ([48] : List Int)) H))))))))))

def podestaref01_Text_l0s (c : Cube) : Nat → Nat → Bool → List Int → Option (Bool × (List Int))
  | 0, i, ok, out =>
    some (ok, out)
  | rest + 1, i, ok, out =>
    (bitsO (c.Value.getD (i) 0) (sizeT ((i : Nat) : Int))).bind fun x1 =>
    (bitsO (c.Care.getD (i) 0) (sizeT ((i : Nat) : Int))).bind fun x2 =>
    (podestaref01_Text_l1s x2 (bif ((IntKind.u64.wrap ((BitVec.ofInt 64 (c.Value.getD (i) 0) &&& ~~~ (BitVec.ofInt 64 (c.Care.getD (i) 0))).toNat)) != 0) then false else ok) x1 0 out).bind fun v =>
    podestaref01_Text_l0s c rest (i + 1) v.1 v.2
theorem podestaref01_Text_l0_walk (c : Cube) (r : ByteArray × Bool) (c0 : Ctx) (hc0 : c0.m.length = 0) (res : Bool × (List Int)) (J : AX Try.prog tab podestaref01_Text_F c0 (Rp tab.S c0 (.tup [.sc (.string r.1), .sc (.bool r.2)]) []) (some ⟨[.code [1, 1, 1, 1]], [(4, .own 1 1000000), (5, .sc (.bool res.1))], [.box 30 (Cube.ch c), .row 5 (List.map (intA .u8) res.2) 1000000 true]⟩)) :
    ∀ (rest : Nat) (i : Nat) (z : Int) (hI : z = ((i : Nat) : Int)) (hd : i + rest = 12) (ok : Bool) (out : List Int) (H : podestaref01_Text_l0s c rest i ok out = some res), AX Try.prog tab podestaref01_Text_F c0 (Rp tab.S c0 (.tup [.sc (.string r.1), .sc (.bool r.2)]) []) (some ⟨[.code [1, 1, 1, 0, 1, 0, 0], .loop [1, 1, 1, 0, 1, 0], .blk 0, .code [1, 1, 1, 1]], [(1, .ptr 0 0 none), (4, .own 1 1000000), (5, .sc (.bool ok)), (6, .sc (.int .i64 z))], [.box 30 (Cube.ch c), .row 5 (List.map (intA .u8) out) 1000000 true]⟩) := by
  intro rest
  induction rest with
  | zero =>
    intro i z hI hd ok out H
    subst hI
    rw [podestaref01_Text_l0s] at H
    have hc : (decide (((i : Nat) : Int) < 12)) = false := decide_eq_false (by omega)
    refine .sg 3 [1,4,5,6,14] (.cdF hc (.sg 1 [4,5] (.kp [4,5] ?_)))
    obtain rfl := Option.some.inj H
    exact .to J
  | succ rest ih =>
    intro i z hI hd ok out H
    subst hI
    rw [podestaref01_Text_l0s] at H
    have hlt_i : i < 12 := by omega
    have hc : (decide (((i : Nat) : Int) < 12)) = true := decide_eq_true (by omega)
    have hw : IntKind.i64.wrap (((i : Nat) : Int) + 1) = ((i + 1 : Nat) : Int) := wrapI_succ (by omega)
    refine .sg 3 [1,4,5,6,14] (.cdT hc (.sg 5 [1,4,5,6] (.rg (.sg 2 [1,4,5,6,17,18] ?_))))
    have hreq := idx_in 12 hlt_i (by decide)
    refine .xa [1,4,5,6,19] hreq (.sg 3 [1,4,5,6,20,21,22] ?_)
    have hreq := idx_in 12 hlt_i (by decide)
    refine .xa [1,4,5,6,20,23] hreq (.sg 3 [1,4,5,6,26] (.dn (.jn ((IntKind.u64.wrap ((BitVec.ofInt 64 (c.Value.getD (i) 0) &&& ~~~ (BitVec.ofInt 64 (c.Care.getD (i) 0))).toNat)) != 0) [1, 4, 5, 6] (fun z => [(5, .sc (.bool (bif z then false else ok)))]) ?J5 (fun hb J => ?ht5) (fun hb J => ?hf5))))
    case ht5 =>
      exact .sg 1 [1,4,5,6] (.cl J)
    case hf5 =>
      exact .sg 1 [1,4,5,6] (.cl J)
    refine .sg 1 [1,4,5,6] (.rg (.sg 2 [1,4,5,6,27,28] ?_))
    have hreq := idx_in 12 hlt_i (by decide)
    refine .xa [1,4,5,6,29] hreq (.sg 2 [1,4,5,6,30,31] (.cp [1,4,5,6,30,32] (podestaref01_Size_ok ((i : Nat) : Int)) (bndO H fun x1 hv H => (.cp [1,4,5,6,33] (podestaref01_Bits_ok (c.Value.getD (i) 0) (sizeT ((i : Nat) : Int)) x1 hv) (.sg 2 [1,4,5,6,33,34,35] ?_)))))
    have hreq := idx_in 12 hlt_i (by decide)
    refine .xa [1,4,5,6,33,36] hreq (.sg 2 [1,4,5,6,33,37,38] (.cp [1,4,5,6,33,37,39] (podestaref01_Size_ok ((i : Nat) : Int)) (bndO H fun x2 hv H => (.cp [1,4,5,6,33,40] (podestaref01_Bits_ok (c.Care.getD (i) 0) (sizeT ((i : Nat) : Int)) x2 hv) (.sg 2 [1,4,5,6,7,8] (.dn (.sg 3 [1,4,5,6,7,8,9] ?_)))))))
    refine bndO H fun v hv H => (.into (.to (podestaref01_Text_l1_walk c i ok out hlt_i x1 x2 (bif ((IntKind.u64.wrap ((BitVec.ofInt 64 (c.Value.getD (i) 0) &&& ~~~ (BitVec.ofInt 64 (c.Care.getD (i) 0))).toNat)) != 0) then false else ok) r c0 hc0 v ?_ x1 0 _ rfl rfl out hv)))
    exact .sg 2 [1,4,5,6] (.kp [1,4,5,6] (.into (.cl (ih (i + 1) _ hw (by omega) v.1 v.2 H))))

def podestaref01_Text_raw (c : Cube) : Option (ByteArray × Bool) :=
  (podestaref01_Text_l0s c 12 0 (podestaref01_Head c.Care) ([] : List Int)).bind fun v =>
  some ((strOfNums v.2), v.1)
theorem podestaref01_Text_walk (c : Cube) (r : ByteArray × Bool) (H : podestaref01_Text_raw c = some r) : ACalls Try.prog tab.S 63 [Cube.av c] [] (.tup [.sc (.string r.1), .sc (.bool r.2)]) [] := by
  refine .of_AX podestaref01_Text_F Try.func63 fun c0 hc0 => ?_
  rw [podestaref01_Text_raw] at H
  refine .sg 5 [1,4] (.rg (.sg 2 [1,4,11] (.cp [1,4,12] (podestaref01_Head_calls c.Care) (.sg 1 [1,4,5] (.dn (.sg 4 [1,4,5,6] (.ad 4 5 true (.kp [1,4,5,6] ?_))))))))
  refine bndO H fun v hv H => (.into (.to (podestaref01_Text_l0_walk c r c0 hc0 v ?_ 12 0 _ rfl rfl (podestaref01_Head c.Care) ([] : List Int) hv)))
  refine .sg 1 [4,5] (.rg (.sg 1 [5,67] (.by_ [5,68] v.2 (.sg 3 [2,3] (.dn ?_)))))
  obtain rfl := Option.some.inj H
  exact .ret Try.func63 hc0

def chrB (v c : Bool) : Int := if c then (if v then 49 else 48) else 120
theorem Text_l1s_eq (x2 : List Bool) (ok : Bool) : ∀ (vs : List Bool) (k : Nat) (out : List Int), k + vs.length = x2.length → out.length + vs.length ≤ 10000 → podestaref01_Text_l1s x2 ok vs k out = some (ok, out ++ List.zipWith chrB vs (x2.drop k))
  | [], k, out, _, _ => by rw [podestaref01_Text_l1s]; simp
  | x :: vs, k, out, h1, h2 => by
      rw [List.length_cons] at h1 h2
      have hk : k < x2.length := by omega
      have step : ∀ q : Int, podestaref01_Text_l1s x2 ok vs (k + 1) (out ++ [q]) = some (ok, out ++ q :: List.zipWith chrB vs (x2.drop (k + 1))) := fun q => by
        rw [Text_l1s_eq x2 ok vs (k + 1) (out ++ [q]) (by omega) (by rw [List.length_append, List.length_cons, List.length_nil]; omega), List.append_assoc]; rfl
      rw [podestaref01_Text_l1s, ixO_lt hk, Option.bind_some, List.drop_eq_getElem_cons hk, List.zipWith_cons_cons, fitO_eq (by rw [List.length_cons, List.length_nil]; omega), fitO_eq (by rw [List.length_cons, List.length_nil]; omega), fitO_eq (by rw [List.length_cons, List.length_nil]; omega)]
      cases x2[k]
      · exact step 120
      · cases x
        · exact step 48
        · exact step 49
def badAt (c : Cube) (i : Nat) : Bool := ((IntKind.u64.wrap ((BitVec.ofInt 64 (c.Value.getD i 0) &&& ~~~ (BitVec.ofInt 64 (c.Care.getD i 0))).toNat)) != 0)
def textOk (c : Cube) : Nat → Nat → Bool → Bool
  | 0, _, ok => ok
  | r + 1, i, ok => textOk c r (i + 1) (bif badAt c i then false else ok)
def sizeN (i : Nat) : Nat := (sizeT ((i : Nat) : Int)).toNat
def textS (c : Cube) : Nat → Nat → List Int
  | 0, _ => []
  | r + 1, i => List.zipWith chrB (bitsL (c.Value.getD i 0) (sizeN i)) (bitsL (c.Care.getD i 0) (sizeN i)) ++ textS c r (i + 1)
theorem bitsO_size (v : Int) (i : Nat) : bitsO v (sizeT ((i : Nat) : Int)) = some (bitsL v (sizeN i)) := by
  have h := sizeT_in ((i : Nat) : Int)
  unfold bitsO sizeN
  rw [if_pos (by omega)]
theorem Text_l0s_eq (c : Cube) : ∀ (r i : Nat) (ok : Bool) (out : List Int), out.length + r * 64 ≤ 10000 → podestaref01_Text_l0s c r i ok out = some (textOk c r i ok, out ++ textS c r i)
  | 0, i, ok, out, _ => by rw [podestaref01_Text_l0s, textOk, textS, List.append_nil]
  | r + 1, i, ok, out, h => by
      have hs := sizeT_in ((i : Nat) : Int)
      have hn : sizeN i ≤ 64 := by unfold sizeN; omega
      rw [podestaref01_Text_l0s, bitsO_size, bitsO_size, Option.bind_some, Option.bind_some, Text_l1s_eq _ _ _ 0 out (by rw [bitsL_len, bitsL_len, Nat.zero_add]) (by rw [bitsL_len]; omega), Option.bind_some, List.drop_zero]
      show podestaref01_Text_l0s c r (i + 1) _ (out ++ _) = _
      rw [Text_l0s_eq c r (i + 1) _ _ (by rw [List.length_append, List.length_zipWith, bitsL_len, bitsL_len]; omega), textOk, textS, List.append_assoc]
      rfl
def textT (c : Cube) : ByteArray × Bool := (strOfNums (textS c 12 0), textOk c 12 0 (podestaref01_Head c.Care))
theorem podestaref01_Text_ok (c : Cube) : ACalls Try.prog tab.S 63 [Cube.av c] [] (.tup [.sc (.string (textT c).1), .sc (.bool (textT c).2)]) [] := by
  refine podestaref01_Text_walk c _ ?_
  rw [podestaref01_Text_raw, Text_l0s_eq c 12 0 _ [] (by decide)]
  rfl

end Go.Proofs.Ytlfiemphadkimaa

set_option linter.unusedVariables false
set_option linter.unusedSimpArgs false
set_option maxRecDepth 100000
set_option maxHeartbeats 4000000
namespace Go.Proofs.Ytlfiemphadkimaa
open Go.Sh
/-! ### podestaref01.Cube: function 36 -/
noncomputable def podestaref01_Cube_F : Go.Sh.Fn := ⟨36, bodyOf Try.f36, 11⟩
def podestaref01_Cube (c : Cube) : Bool :=
  (textT c).2
theorem podestaref01_Cube_calls (c : Cube) : ACalls Try.prog tab.S 36 [Cube.av c] [] (.sc (.bool (podestaref01_Cube c))) [] := by
  generalize H : podestaref01_Cube c = r
  refine .of_AX podestaref01_Cube_F Try.func36 fun c0 hc0 => ?_
  rw [podestaref01_Cube] at H
  refine .sg 3 [1] (.rg (.sg 1 [6] (.cp [7] (podestaref01_Text_ok c) (.sg 5 [4] (.dn (.sg 2 [2] ?_))))))
  subst H
  exact .ret Try.func36 hc0

/-! ### podestaref04.span: function 38 -/
noncomputable def podestaref04_span_F : Go.Sh.Fn := ⟨38, bodyOf Try.f38, 12⟩
def podestaref04_span (n : Int) (most : Int) : Bool :=
  ((decide (n ≥ 0)) && (decide (n ≤ most)))
theorem podestaref04_span_calls (n : Int) (most : Int) : ACalls Try.prog tab.S 38 [.sc (.int .i64 n), .sc (.int .i64 most)] [] (.sc (.bool (podestaref04_span n most))) [] := by
  generalize H : podestaref04_span n most = r
  refine .of_AX podestaref04_span_F Try.func38 fun c0 hc0 => ?_
  rw [podestaref04_span] at H
  refine .sg 3 [0,1] (.rg (.sg 3 [0,1,7] (.mx 0 [11] (.sg 1 [4] (.dn ?_)))))
  subst H
  exact .ret Try.func38 hc0

/-! ### podestaref04.Rule: function 28 -/
noncomputable def podestaref04_Rule_F : Go.Sh.Fn := ⟨28, bodyOf Try.f28, 46⟩
def podestaref04_Rule (r2 : Rule) : Bool :=
  (((((((((podestaref01_Cube r2.Match) && (podestaref04_Acts r2.Acts)) && (podestaref04_span r2.Prio 65535)) && (podestaref04_span r2.Idle 1048576)) && (podestaref04_span r2.Hard 1048576)) && (podestaref04_span r2.Owner 255)) && (decide (r2.Hits ≥ 0))) && (decide (r2.Quiet ≥ 0))) && (decide (r2.Age ≥ 0)))
theorem podestaref04_Rule_calls (r2 : Rule) : ACalls Try.prog tab.S 28 [Rule.av r2] [] (.sc (.bool (podestaref04_Rule r2))) [] := by
  generalize H : podestaref04_Rule r2 = r
  refine .of_AX podestaref04_Rule_F Try.func28 fun c0 hc0 => ?_
  rw [podestaref04_Rule] at H
  refine .sg 3 [1] (.rg (.sg 2 [1,4] (.cp [1,5] (podestaref01_Cube_calls r2.Match) (.sg 1 [1,6] (.mm 6 (podestaref01_Cube r2.Match) 4 [.pure, .pure, .read, .pure] [1, 10] 10 (fun z => .sc (.bool (z && (podestaref04_Acts r2.Acts)))) ?J1 (fun hb J => ?ht1) (fun hb J => ?hf1))))))
  case ht1 =>
    exact .sg 2 [1,6,8] (.cp [1,6,9] (podestaref04_Acts_calls r2.Acts false) (.sg 1 [1,10] (.cl J)))
  case hf1 =>
    exact .sg 4 [1,10] (.cl J)
  refine .sg 1 [1,11] (.mm 11 ((podestaref01_Cube r2.Match) && (podestaref04_Acts r2.Acts)) 4 [.pure, .pure, .read, .pure] [1, 15] 15 (fun z => .sc (.bool (z && (podestaref04_span r2.Prio 65535)))) ?J2 (fun hb J => ?ht2) (fun hb J => ?hf2))
  case ht2 =>
    exact .sg 2 [1,11,13] (.cp [1,11,14] (podestaref04_span_calls r2.Prio 65535) (.sg 1 [1,15] (.cl J)))
  case hf2 =>
    exact .sg 4 [1,15] (.cl J)
  refine .sg 1 [1,16] (.mm 16 (((podestaref01_Cube r2.Match) && (podestaref04_Acts r2.Acts)) && (podestaref04_span r2.Prio 65535)) 4 [.pure, .pure, .read, .pure] [1, 20] 20 (fun z => .sc (.bool (z && (podestaref04_span r2.Idle 1048576)))) ?J3 (fun hb J => ?ht3) (fun hb J => ?hf3))
  case ht3 =>
    exact .sg 2 [1,16,18] (.cp [1,16,19] (podestaref04_span_calls r2.Idle 1048576) (.sg 1 [1,20] (.cl J)))
  case hf3 =>
    exact .sg 4 [1,20] (.cl J)
  refine .sg 1 [1,21] (.mm 21 ((((podestaref01_Cube r2.Match) && (podestaref04_Acts r2.Acts)) && (podestaref04_span r2.Prio 65535)) && (podestaref04_span r2.Idle 1048576)) 4 [.pure, .pure, .read, .pure] [1, 25] 25 (fun z => .sc (.bool (z && (podestaref04_span r2.Hard 1048576)))) ?J4 (fun hb J => ?ht4) (fun hb J => ?hf4))
  case ht4 =>
    exact .sg 2 [1,21,23] (.cp [1,21,24] (podestaref04_span_calls r2.Hard 1048576) (.sg 1 [1,25] (.cl J)))
  case hf4 =>
    exact .sg 4 [1,25] (.cl J)
  refine .sg 1 [1,26] (.mm 26 (((((podestaref01_Cube r2.Match) && (podestaref04_Acts r2.Acts)) && (podestaref04_span r2.Prio 65535)) && (podestaref04_span r2.Idle 1048576)) && (podestaref04_span r2.Hard 1048576)) 4 [.pure, .pure, .read, .pure] [1, 30] 30 (fun z => .sc (.bool (z && (podestaref04_span r2.Owner 255)))) ?J5 (fun hb J => ?ht5) (fun hb J => ?hf5))
  case ht5 =>
    exact .sg 2 [1,26,28] (.cp [1,26,29] (podestaref04_span_calls r2.Owner 255) (.sg 1 [1,30] (.cl J)))
  case hf5 =>
    exact .sg 4 [1,30] (.cl J)
  refine .sg 1 [1,31] (.mx 0 [1,35] (.sg 1 [1,36] (.mx 0 [1,40] (.sg 1 [1,41] (.mx 0 [45] (.sg 1 [2] (.dn ?_)))))))
  subst H
  exact .ret Try.func28 hc0

/-! ### podestaref01.Order: function 72 -/
noncomputable def podestaref01_Order_F : Go.Sh.Fn := ⟨72, bodyOf Try.f72, 24⟩
def podestaref01_Order_l0s (a : List Int) (b : List Int) : Nat → Nat → Sum (Unit) (Int)
  | 0, i =>
    (.inl ())
  | rest + 1, i =>
    (bif (decide ((a.getD (i) 0) < (b.getD (i) 0))) then
      (.inr (-1))
    else
      (bif (decide ((a.getD (i) 0) > (b.getD (i) 0))) then
        (.inr 1)
      else
        podestaref01_Order_l0s a b rest (i + 1) ))
theorem podestaref01_Order_l0_walk (a : List Int) (b : List Int) (r : Int) (c0 : Ctx) (hc0 : c0.m.length = 0) (res : Sum (Unit) (Int)) (J : ∀ w : Unit, res = .inl w → AX Try.prog tab podestaref01_Order_F c0 (Rp tab.S c0 (.sc (.int .i64 r)) []) (some ⟨[.code [1, 1]], [], [.box 28 [.arr .u64 12 a], .box 28 [.arr .u64 12 b]]⟩)) (Jr : ∀ w, res = .inr w → w = r) :
    ∀ (rest : Nat) (i : Nat) (z : Int) (hI : z = ((i : Nat) : Int)) (hd : i + rest = 12) (H : podestaref01_Order_l0s a b rest i = res), AX Try.prog tab podestaref01_Order_F c0 (Rp tab.S c0 (.sc (.int .i64 r)) []) (some ⟨[.code [1, 0, 1, 0, 0], .loop [1, 0, 1, 0], .blk 0, .code [1, 1]], [(2, .ptr 0 0 none), (3, .ptr 1 0 none), (5, .sc (.int .i64 z))], [.box 28 [.arr .u64 12 a], .box 28 [.arr .u64 12 b]]⟩) := by
  intro rest
  induction rest with
  | zero =>
    intro i z hI hd  H
    subst hI
    rw [podestaref01_Order_l0s] at H
    have hc : (decide (((i : Nat) : Int) < 12)) = false := decide_eq_false (by omega)
    exact .sg 3 [2,3,5,7] (.cdF hc (.sg 1 [] (.kp [] (.to (J () H.symm)))))
  | succ rest ih =>
    intro i z hI hd  H
    subst hI
    rw [podestaref01_Order_l0s] at H
    have hlt_i : i < 12 := by omega
    have hc : (decide (((i : Nat) : Int) < 12)) = true := decide_eq_true (by omega)
    have hw : IntKind.i64.wrap (((i : Nat) : Int) + 1) = ((i + 1 : Nat) : Int) := wrapI_succ (by omega)
    refine .sg 3 [2,3,5,7] (.cdT hc (.sg 5 [2,3,5] (.rg (.sg 1 [2,3,5,10] ?_))))
    have hreq := idx_in 12 hlt_i (by decide)
    refine .xa [2,3,5,11] hreq (.sg 2 [2,3,5,12,13] ?_)
    have hreq := idx_in 12 hlt_i (by decide)
    refine .xa [2,3,5,12,14] hreq (.sg 2 [2,3,5,16] (.dn (.cd (decide ((a.getD (i) 0) < (b.getD (i) 0))) H (fun hb H => ?_) (fun hb H => ?_))))
    ·
      refine .sg 2 [4] ?_
      subst H
      obtain rfl := Jr _ rfl
      exact .ret Try.func72 hc0
    ·
      refine .sg 2 [2,3,5] (.rg (.sg 1 [2,3,5,17] ?_))
      have hreq := idx_in 12 hlt_i (by decide)
      refine .xa [2,3,5,18] hreq (.sg 2 [2,3,5,19,20] ?_)
      have hreq := idx_in 12 hlt_i (by decide)
      refine .xa [2,3,5,19,21] hreq (.sg 2 [2,3,5,23] (.dn (.cd (decide ((a.getD (i) 0) > (b.getD (i) 0))) H (fun hb H => ?_) (fun hb H => ?_))))
      ·
        refine .sg 2 [4] ?_
        subst H
        obtain rfl := Jr _ rfl
        exact .ret Try.func72 hc0
      ·
        exact .sg 3 [2,3,5] (.kp [2,3,5] (.into (.cl (ih (i + 1) _ hw (by omega) H))))

def podestaref01_Order (a : List Int) (b : List Int) : Int :=
  sumG (fun q => q) (podestaref01_Order_l0s a b 12 0) fun v =>
  0
theorem podestaref01_Order_calls (a : List Int) (b : List Int) : ACalls Try.prog tab.S 72 [.arr .u64 12 a, .arr .u64 12 b] [] (.sc (.int .i64 (podestaref01_Order a b))) [] := by
  generalize H : podestaref01_Order a b = r
  refine .of_AX podestaref01_Order_F Try.func72 fun c0 hc0 => ?_
  rw [podestaref01_Order] at H
  refine .sg 6 [2,3,5] ?_
  rcases sumG_eq H with ⟨v, hv, H⟩ | ⟨r1, hv, hr1⟩
  case inr =>
    refine .into ?_
    replace hr1 : r1 = r := hr1
    subst hr1
    exact .to (podestaref01_Order_l0_walk a b _ c0 hc0 (.inr _) (fun _ e => by cases e) (fun _ e => (Sum.inr.inj e).symm) 12 0 _ rfl rfl hv)
  refine .into (.to (podestaref01_Order_l0_walk a b r c0 hc0 (.inl v) (fun w e => ?_) (fun _ e => by cases e) 12 0 _ rfl rfl hv))
  have e := Sum.inl.inj e
  subst e
  refine .sg 2 [4] ?_
  subst H
  exact .ret Try.func72 hc0

/-! ### podestaref01.Compare: function 50 -/
noncomputable def podestaref01_Compare_F : Go.Sh.Fn := ⟨50, bodyOf Try.f50, 19⟩
def podestaref01_Compare (a : Cube) (b : Cube) : Int :=
  (bif ((podestaref01_Order a.Care b.Care) != 0) then
    (podestaref01_Order a.Care b.Care)
  else
    (podestaref01_Order a.Value b.Value))
theorem podestaref01_Compare_calls (a : Cube) (b : Cube) : ACalls Try.prog tab.S 50 [Cube.av a, Cube.av b] [] (.sc (.int .i64 (podestaref01_Compare a b))) [] := by
  generalize H : podestaref01_Compare a b = r
  refine .of_AX podestaref01_Compare_F Try.func50 fun c0 hc0 => ?_
  rw [podestaref01_Compare] at H
  refine .sg 3 [2,3] (.rg (.sg 4 [2,3,7,9] (.cp [2,3,10] (podestaref01_Order_calls a.Care b.Care) (.sg 1 [2,3,5] (.dn (.sg 3 [2,3,5,12] (.cd ((podestaref01_Order a.Care b.Care) != 0) H (fun hb H => ?_) (fun hb H => ?_))))))))
  ·
    refine .sg 2 [4] ?_
    subst H
    exact .ret Try.func50 hc0
  ·
    refine .sg 2 [2,3] (.rg (.sg 4 [15,17] (.cp [18] (podestaref01_Order_calls a.Value b.Value) (.sg 1 [4] (.dn ?_)))))
    subst H
    exact .ret Try.func50 hc0

/-! ### podestaref04.Before: function 29 -/
noncomputable def podestaref04_Before_F : Go.Sh.Fn := ⟨29, bodyOf Try.f29, 21⟩
def podestaref04_Before (a : Rule) (b : Rule) : Bool :=
  (bif (a.Prio != b.Prio) then
    (decide (a.Prio > b.Prio))
  else
    (decide ((podestaref01_Compare a.Match b.Match) < 0)))
theorem podestaref04_Before_calls (a : Rule) (b : Rule) : ACalls Try.prog tab.S 29 [Rule.av a, Rule.av b] [] (.sc (.bool (podestaref04_Before a b))) [] := by
  generalize H : podestaref04_Before a b = r
  refine .of_AX podestaref04_Before_F Try.func29 fun c0 hc0 => ?_
  rw [podestaref04_Before] at H
  refine .sg 5 [2,3,9] (.cd (a.Prio != b.Prio) H (fun hb H => ?_) (fun hb H => ?_))
  ·
    refine .sg 2 [4] ?_
    subst H
    exact .ret Try.func29 hc0
  ·
    refine .sg 2 [2,3] (.rg (.sg 4 [16,18] (.cp [19] (podestaref01_Compare_calls a.Match b.Match) (.sg 2 [4] (.dn ?_)))))
    subst H
    exact .ret Try.func29 hc0

/-! ### podestaref04.Table: function 14 -/
noncomputable def podestaref04_Table_F : Go.Sh.Fn := ⟨14, bodyOf Try.f14, 33⟩
def podestaref04_Table_l0s (l : List Rule) : List Rule → Nat → Option (Sum (Unit) (Bool))
  | [], i =>
    some (.inl ())
  | x :: rest, i =>
    (bif (!(podestaref04_Rule x)) then
      some (.inr false)
    else
      (bif (decide (((i : Nat) : Int) > 0)) then
        (ixO l (IntKind.i64.wrap (((i : Nat) : Int) - 1))).bind fun x1 =>
        (bif (!(podestaref04_Before x1 x)) then
          some (.inr false)
        else
          podestaref04_Table_l0s l rest (i + 1) )
      else
        podestaref04_Table_l0s l rest (i + 1) ))
theorem podestaref04_Table_l0_walk (l : List Rule) (f_l : Bool) (r : Bool) (c0 : Ctx) (hc0 : c0.m.length = 0) (res : Sum (Unit) (Bool)) (J : ∀ w : Unit, res = .inl w → AX Try.prog tab podestaref04_Table_F c0 (Rp tab.S c0 (.sc (.bool r)) []) (some ⟨[.code [1, 1]], [], []⟩)) (Jr : ∀ w, res = .inr w → w = r) :
    ∀ (rest : List Rule) (i : Nat) (z : Int) (hI : z = ((i : Nat) : Int)) (hd : l.drop i = rest) (H : podestaref04_Table_l0s l rest i = some res), AX Try.prog tab podestaref04_Table_F c0 (Rp tab.S c0 (.sc (.bool r)) []) (some ⟨[.code [1, 0, 1, 0, 0], .loop [1, 0, 1, 0], .blk 0, .code [1, 1]], [(0, .sl 51 (List.map Rule.av l) f_l), (3, .sc (.int .i64 z))], []⟩) := by
  intro rest
  induction rest with
  | nil =>
    intro i z hI hd  H
    subst hI
    rw [podestaref04_Table_l0s] at H
    refine .facts 0 fun hf => ?_
    have hlen : l.length ≤ 9223372036854775807 := by have hq := len_ok hf.2.1; rw [List.length_map] at hq; exact hq
    have hge : l.length ≤ i := List.drop_eq_nil_iff.1 hd
    have hc : (decide (((i : Nat) : Int) < (((List.map Rule.av l).length : Nat) : Int))) = false := by rw [List.length_map]; exact decide_eq_false (by omega)
    exact .sg 3 [0,3,7] (.cdF hc (.sg 1 [] (.kp [] (.to (J () (Option.some.inj H).symm)))))
  | cons x rest ih =>
    intro i z hI hd  H
    subst hI
    rw [podestaref04_Table_l0s] at H
    refine .facts 0 fun hf => ?_
    have hlen : l.length ≤ 9223372036854775807 := by have hq := len_ok hf.2.1; rw [List.length_map] at hq; exact hq
    obtain ⟨hlt, hv_i, hd2⟩ := drop_cons hd
    have hc : (decide (((i : Nat) : Int) < (((List.map Rule.av l).length : Nat) : Int))) = true := by rw [List.length_map]; exact decide_eq_true (by omega)
    have hw : IntKind.i64.wrap (((i : Nat) : Int) + 1) = ((i + 1 : Nat) : Int) := wrapI_succ (by omega)
    refine .sg 3 [0,3,7] (.cdT hc (.sg 4 [0,3] (.rg (.sg 2 [0,3,10,11] (.xi [0,3,12] Rule.av hv_i (.sg 1 [0,3,13] (.cp [0,3,14] (podestaref04_Rule_calls x) (.sg 2 [0,3,16] (.sp 16 (!(podestaref04_Rule x)) H (fun hb H => ?_) (fun hb H => ?_))))))))))
    ·
      refine .sg 16 [0,3,32] (.dn (.sg 3 [2] ?_))
      obtain rfl := Option.some.inj H
      obtain rfl := Jr _ rfl
      exact .ret Try.func14 hc0
    ·
      refine .sg 3 [0,3,16,19] (.sp 19 (decide (((i : Nat) : Int) > 0)) H (fun hb H => ?_) (fun hb H => ?_))
      ·
        refine .sg 3 [0,3,16,19,20,22] (bndO H fun x1 hv H => (.xi [0,3,16,19,23] Rule.av hv (.sg 3 [0,3,16,19,24,25,26] (.xi [0,3,16,19,24,27] Rule.av hv_i (.sg 1 [0,3,16,19,24,28] (.cp [0,3,16,19,29] (podestaref04_Before_calls x1 x) (.sg 3 [0,3,32] (.dn (.cd (!(podestaref04_Before x1 x)) H (fun hb H => ?_) (fun hb H => ?_))))))))))
        ·
          refine .sg 2 [2] ?_
          obtain rfl := Option.some.inj H
          obtain rfl := Jr _ rfl
          exact .ret Try.func14 hc0
        ·
          exact .sg 3 [0,3] (.kp [0,3] (.into (.cl (ih (i + 1) _ hw hd2 H))))
      ·
        exact .sg 13 [0,3,32] (.dn (.sg 4 [0,3] (.kp [0,3] (.into (.cl (ih (i + 1) _ hw hd2 H))))))

def podestaref04_Table_raw (l : List Rule) : Option (Bool) :=
  loopO (podestaref04_Table_l0s l l 0) fun v =>
  some true
theorem podestaref04_Table_walk (l : List Rule) (f_l : Bool) (r : Bool) (H : podestaref04_Table_raw l = some r) : ACalls Try.prog tab.S 14 [.sl 51 (List.map Rule.av l) f_l] [] (.sc (.bool r)) [] := by
  refine .of_AX podestaref04_Table_F Try.func14 fun c0 hc0 => ?_
  rw [podestaref04_Table_raw] at H
  refine .sg 6 [0,3] ?_
  rcases loopO_some H with ⟨v, hv, H⟩ | hv
  case inr =>
    exact .into (.to (podestaref04_Table_l0_walk l f_l _ c0 hc0 (.inr _) (fun _ e => by cases e) (fun _ e => (Sum.inr.inj e).symm) l 0 _ rfl rfl hv))
  refine .into (.to (podestaref04_Table_l0_walk l f_l r c0 hc0 (.inl v) (fun w e => ?_) (fun _ e => by cases e) l 0 _ rfl rfl hv))
  have e := Sum.inl.inj e
  subst e
  refine .sg 2 [2] ?_
  obtain rfl := Option.some.inj H
  exact .ret Try.func14 hc0

end Go.Proofs.Ytlfiemphadkimaa

set_option linter.unusedVariables false
set_option linter.unusedSimpArgs false
set_option maxRecDepth 100000
set_option maxHeartbeats 4000000
namespace Go.Proofs.Ytlfiemphadkimaa
open Go.Sh
theorem setT_ok {h : List Int} {n v : Int} : ((setT_ h n v).2 == 0) = (head_there n && fitsH n v) := by
  unfold setT_
  cases head_there n
  · rfl
  · cases fitsH n v <;> rfl
theorem act_sound_eq {x : Act} (hv : 0 ≤ x.Value) : act_sound x = actOk x := by
  unfold act_sound actOk
  rw [setT_ok]
  unfold fitsH head_there
  rw [decide_eq_true hv, Bool.true_and]
  rw [Bool.eq_iff_iff]
  cases (x.Kind == 1)
  · cases (x.Kind == 2)
    · simp only [cond_false, Bool.and_eq_true]
      constructor
      · rintro ⟨a, b, c, d⟩; exact ⟨a, ⟨b, c⟩, d⟩
      · rintro ⟨a, ⟨b, c⟩, d⟩; exact ⟨a, b, c, d⟩
    · simp only [cond_false, cond_true, Bool.and_eq_true]
      constructor
      · rintro ⟨⟨⟨a, b⟩, c⟩, d⟩; exact ⟨⟨⟨d, a⟩, b⟩, c⟩
      · rintro ⟨⟨⟨d, a⟩, b⟩, c⟩; exact ⟨⟨⟨a, b⟩, c⟩, d⟩
  · rfl
theorem act_Sound_eq {l : List Act} (hv : ∀ x ∈ l, 0 ≤ x.Value) : act_Sound l = ActsOk l := by
  unfold act_Sound ActsOk
  rw [slices_ContainsFunc__api_Act_any, List.length_map]
  have e : (l.any act_Sound_1) = !(l.all actOk) := by
    rw [← Bool.not_not (l.any act_Sound_1), List.not_any_eq_all_not]
    congr 1
    rw [Bool.eq_iff_iff, List.all_eq_true, List.all_eq_true]
    constructor
    · intro h x hx
      have := h x hx
      unfold act_Sound_1 at this
      rw [act_sound_eq (hv x hx), Bool.not_not] at this
      exact this
    · intro h x hx
      unfold act_Sound_1
      rw [act_sound_eq (hv x hx), Bool.not_not]
      exact h x hx
  rw [e, Bool.not_not, Bool.and_comm]
  congr 1
  rw [Bool.eq_iff_iff, decide_eq_true_eq, decide_eq_true_eq]
  omega

theorem u64_nonneg {v : Int} (h : intW .u64 v) : 0 ≤ v := by
  unfold intW Go.Lit.wf at h
  rw [Bool.and_eq_true, decide_eq_true_eq, decide_eq_true_eq] at h
  exact h.1
theorem Act.wf_val {l : List Act} (w : ∀ y ∈ l, Act.wf y) : ∀ x ∈ l, 0 ≤ x.Value := fun x hx => u64_nonneg (w x hx).2.2.2
theorem arr_nonneg {xs : List Int} {n : Nat} (h : arrW .u64 n xs) (i : Nat) : 0 ≤ xs.getD i 0 := by
  rw [List.getD_eq_getElem?_getD]
  by_cases hi : i < xs.length
  · rw [List.getElem?_eq_getElem hi]
    exact u64_nonneg (h.2 _ (List.getElem_mem hi))
  · rw [List.getElem?_eq_none (by omega)]; exact Int.le_refl 0
theorem head_Sound_l0s_eq {h : List Int} (w : arrW .u64 12 h) : ∀ (n i : Nat), head_Sound_l0s h n i = podestaref01_Head_l0s h n i
  | 0, i => rfl
  | n + 1, i => by
      rw [head_Sound_l0s, podestaref01_Head_l0s, head_Sound_l0s_eq w n (i + 1), refFits_eq]
      unfold fitsH
      rw [decide_eq_true (arr_nonneg w i), Bool.true_and]
theorem head_Sound_eq {h : List Int} (w : arrW .u64 12 h) : head_Sound h = podestaref01_Head h := by
  rw [head_Sound, podestaref01_Head, head_Sound_l0s_eq w]
theorem textOk_false (c : Cube) : ∀ (r i : Nat), textOk c r i false = false
  | 0, _ => rfl
  | r + 1, i => by
      rw [textOk]
      cases badAt c i <;> exact textOk_false c r (i + 1)
theorem cube_Sound_l0s_eq (c : Cube) : ∀ (r i : Nat), cube_Sound_l0s c r i = if textOk c r i true then .inl () else .inr false
  | 0, _ => rfl
  | r + 1, i => by
      rw [cube_Sound_l0s, cube_Sound_l0s_eq c r (i + 1), textOk]
      show (bif badAt c i then _ else _) = _
      cases badAt c i
      · rfl
      · rw [cond_true, cond_true, textOk_false]; rfl
theorem cube_Sound_eq {c : Cube} (w : Cube.wf c) : cube_Sound c = podestaref01_Cube c := by
  rw [cube_Sound, podestaref01_Cube, cube_Sound_l0s_eq]
  unfold textT
  rw [head_Sound_eq w.2]
  cases podestaref01_Head c.Care
  · rw [textOk_false]; rfl
  · cases textOk c 12 0 true <;> rfl
theorem min3_nonneg (a b c : Int) : decide ((if c < (if b < a then b else a) then c else (if b < a then b else a)) ≥ 0) = ((decide (a ≥ 0) && decide (b ≥ 0)) && decide (c ≥ 0)) := by
  rw [Bool.eq_iff_iff]
  simp only [Bool.and_eq_true, decide_eq_true_eq]
  (repeat' split) <;> omega
theorem rule_Sound_eq {x : Rule} (w : Rule.wf x) : rule_Sound x = podestaref04_Rule x := by
  rw [rule_Sound, podestaref04_Rule, cube_Sound_eq w.1, act_Sound_eq (Act.wf_val w.2.2.1), refActs_eq, min3_nonneg]
  have e : ∀ a b, rule_span a b = podestaref04_span a b := fun _ _ => rfl
  simp only [e, Bool.and_assoc]
theorem Order_l0s_eq : ∀ (n i : Nat) (a b : List Int), a.length = i + n → b.length = i + n → (match podestaref01_Order_l0s a b n i with | .inl _ => (0 : Int) | .inr v => v) = cmpL cmp_Compare_uint64 (a.drop i) (b.drop i)
  | 0, i, a, b, ha, hb => by
      rw [List.drop_eq_nil_of_le (by omega), List.drop_eq_nil_of_le (by omega)]; rfl
  | n + 1, i, a, b, ha, hb => by
      have h1 : i < a.length := by omega
      have h2 : i < b.length := by omega
      rw [List.drop_eq_getElem_cons h1, List.drop_eq_getElem_cons h2, cmpL_cons, ← Order_l0s_eq n (i + 1) a b (by omega) (by omega), podestaref01_Order_l0s]
      have ea : a.getD i 0 = a[i] := by rw [List.getD_eq_getElem?_getD, List.getElem?_eq_getElem h1]; rfl
      have eb : b.getD i 0 = b[i] := by rw [List.getD_eq_getElem?_getD, List.getElem?_eq_getElem h2]; rfl
      have hc : cmp_Compare_uint64 a[i] b[i] = if a[i] < b[i] then -1 else if a[i] > b[i] then 1 else 0 := by
        have h : ∀ z, cmp_isNaN_uint64 z = false := fun z => by simp [cmp_isNaN_uint64]
        rw [cmp_Compare_uint64, h, h]
        by_cases h1 : a[i] < b[i]
        · simp [h1]
        · by_cases h2 : a[i] > b[i]
          · simp [h1, h2]
          · simp [h1, h2]
      rw [ea, eb, hc]
      by_cases q1 : a[i] < b[i]
      · simp [q1]
      · by_cases q2 : a[i] > b[i]
        · simp [q1, q2]
        · simp [q1, q2]
theorem Order_eq {a b : List Int} (ha : a.length = 12) (hb : b.length = 12) : podestaref01_Order a b = cmpL cmp_Compare_uint64 a b := by
  rw [podestaref01_Order]
  have h := Order_l0s_eq 12 0 a b (by omega) (by omega)
  rw [List.drop_zero, List.drop_zero] at h
  rw [← h]
  cases podestaref01_Order_l0s a b 12 0 <;> rfl
theorem refBefore_eq {a b : Rule} (wa : Rule.wf a) (wb : Rule.wf b) : podestaref04_Before a b = rule_Before a b := by
  rw [rule_Before, rule_compare, podestaref04_Before, podestaref01_Compare, cube_Compare, cmp_Or_two, head_Compare_eq, head_Compare_eq, Order_eq wa.1.2.1 wb.1.2.1, Order_eq wa.1.1.1 wb.1.1.1]
  cases h : a.Prio != b.Prio
  · simp only [cond_false]
    by_cases q : cmpL cmp_Compare_uint64 a.Match.Care b.Match.Care = 0
    · simp [q]
    · have : (cmpL cmp_Compare_uint64 a.Match.Care b.Match.Care != 0) = true := by simp [q]
      rw [this, cond_true, if_neg q]
  · simp only [cond_true]
    cases decide (a.Prio > b.Prio) <;> rfl
theorem refTable_l0s_eq (all : List Rule) (w : ∀ y ∈ all, Rule.wf y) : ∀ (l : List Rule) (i : Nat), all.drop i = l → podestaref04_Table_l0s all l i = rule_Table_l0s all l i
  | [], i, _ => by rw [podestaref04_Table_l0s, rule_Table_l0s]
  | x :: l, i, h => by
      have hlt : i < all.length := by
        rcases Nat.lt_or_ge i all.length with q | q
        · exact q
        · rw [List.drop_eq_nil_of_le q] at h; cases h
      rw [List.drop_eq_getElem_cons hlt] at h
      injection h with h1 h2
      have hx : x ∈ all := by rw [← h1]; exact List.getElem_mem hlt
      rw [podestaref04_Table_l0s, rule_Table_l0s, refTable_l0s_eq all w l (i + 1) h2, rule_Sound_eq (w x hx)]
      cases podestaref04_Rule x
      · rfl
      · simp only [Bool.not_true, cond_false]
        cases decide (((i : Nat) : Int) > 0)
        · rfl
        · simp only [cond_true]
          cases hq : ixO all (IntKind.i64.wrap (((i : Nat) : Int) - 1)) with
          | none => rfl
          | some y =>
            have hy : y ∈ all := by
              unfold ixO at hq
              split at hq
              · exact List.mem_of_getElem? hq
              · cases hq
            simp only [Option.bind_some, refBefore_eq (w y hy) (w x hx)]
theorem refTable_raw_eq (l : List Rule) (w : ∀ y ∈ l, Rule.wf y) (h : l.length ≤ 1000000000000000) : podestaref04_Table_raw l = some (tableR l) := by
  rw [podestaref04_Table_raw, refTable_l0s_eq l w l 0 rfl, rule_Table_l0s_eq l h l 0 rfl, if_pos rfl]
  unfold tableR
  cases tableF none l <;> rfl

end Go.Proofs.Ytlfiemphadkimaa

set_option linter.unusedVariables false
set_option linter.unusedSimpArgs false
set_option maxRecDepth 100000
set_option maxHeartbeats 4000000
namespace Go.Proofs.Ytlfiemphadkimaa
open Go.Sh
theorem srt_key {l : List Rule} (h : Srt l) {x y : Rule} (hx : x ∈ l) (hy : y ∈ l) (hk : x.key = y.key) : x = y := by
  obtain ⟨i, hi, rfl⟩ := List.getElem_of_mem hx
  obtain ⟨j, hj, rfl⟩ := List.getElem_of_mem hy
  rcases Nat.lt_trichotomy i j with q | q | q
  · exact absurd (srt_get h q hj) (RLt.irr _ _ hk)
  · subst q; rfl
  · exact absurd (srt_get h q hi) (RLt.irr _ _ hk.symm)
theorem last_some : ∀ {L : List Rule} {k : Key3} {r : Rule}, last L k = some r → r ∈ L ∧ r.key = k
  | [], k, r, h => by cases h
  | x :: L, k, r, h => by
      rw [last_cons] at h
      cases hl : last L k with
      | some r' =>
        rw [hl] at h
        injection h with h
        subst h
        obtain ⟨h1, h2⟩ := last_some hl
        exact ⟨by simp [h1], h2⟩
      | none =>
        rw [hl] at h
        by_cases q : rule_Sound x = true ∧ x.key = k
        · rw [if_pos q] at h
          injection h with h
          subst h
          exact ⟨by simp, q.2⟩
        · rw [if_neg q] at h; cases h
theorem last_none : ∀ {L : List Rule} {k : Key3}, last L k = none → ∀ x ∈ L, rule_Sound x = true → x.key ≠ k
  | [], k, _, x, hx, _ => by cases hx
  | y :: L, k, h, x, hx, hs => by
      rw [last_cons] at h
      cases hl : last L k with
      | some r' => rw [hl] at h; cases h
      | none =>
        rw [hl] at h
        rcases List.mem_cons.1 hx with rfl | hx
        · intro e
          rw [if_pos ⟨hs, e⟩] at h
          cases h
        · exact last_none hl x hx hs
theorem look_of_mem {l : List Rule} (h : Srt l) {r : Rule} (hr : r ∈ l) : look l r.key = some r := by
  cases hl : look l r.key with
  | some x =>
    have h1 := look_mem hl
    have h2 : x.key = r.key := by
      unfold look at hl
      have := List.find?_some hl
      simpa using this
    rw [srt_key h h1 hr h2]
  | none =>
    unfold look at hl
    have := List.find?_eq_none.1 hl r hr
    simp at this
theorem sortR_set {L b : List Rule} (hb : tableR b = true) (h : ∀ x, x ∈ L ↔ x ∈ b) : sortR L = b := by
  obtain ⟨h1, h2⟩ := (tableR_iff b).1 hb
  refine srt_uniq _ _ (sortR_srt L) h2 (fun k => ?_)
  rw [sortR_look]
  cases hl : last L k with
  | some r =>
    obtain ⟨h3, h4⟩ := last_some hl
    rw [← h4, look_of_mem h2 ((h r).1 h3)]
  | none =>
    rw [look_none]
    intro y hy
    exact last_none hl y ((h y).2 hy) (h1 y hy)
theorem mem_alone {a b : List Rule} {x : Rule} : x ∈ aloneR a b ↔ x ∈ a ∧ x ∉ b := by
  unfold aloneR
  rw [List.mem_filter, Bool.not_eq_true', List.any_eq_false]
  constructor
  · rintro ⟨h1, h2⟩
    exact ⟨h1, fun hb => h2 x hb (by simp)⟩
  · rintro ⟨h1, h2⟩
    exact ⟨h1, fun y hy e => h2 (by rw [beq_iff_eq] at e; rw [e]; exact hy)⟩
theorem alone_table {a b : List Rule} (h : tableR a = true) : tableR (aloneR a b) = true := by
  obtain ⟨h1, h2⟩ := (tableR_iff a).1 h
  exact (tableR_iff _).2 ⟨fun y hy => h1 y (mem_alone.1 hy).1, List.Pairwise.filter _ h2⟩
theorem swap_diff {a b : List Rule} (ha : tableR a = true) (hb : tableR b = true) : swapM a (aloneR a b) (aloneR b a) = (b, 0) := by
  obtain ⟨b1, b2⟩ := (tableR_iff b).1 hb
  unfold swapM
  rw [ha, alone_table ha, alone_table hb]
  have e1 : aloneR (aloneR a b) a = [] := by
    apply List.eq_nil_iff_forall_not_mem.2
    intro x hx
    obtain ⟨h1, h2⟩ := mem_alone.1 hx
    exact h2 (mem_alone.1 h1).1
  have e2 : (aloneR b a).any (fun x => (aloneR a (aloneR a b)).any (fun y => rule_Key y x)) = false := by
    rw [List.any_eq_false]
    intro x hx hq
    obtain ⟨y, hy, hk⟩ := List.any_eq_true.1 hq
    obtain ⟨x1, x2⟩ := mem_alone.1 hx
    obtain ⟨y1, y2⟩ := mem_alone.1 hy
    have y3 : y ∈ b := by
      by_cases q : y ∈ b
      · exact q
      · exact absurd (mem_alone.2 ⟨y1, q⟩) y2
    rw [Key_key, decide_eq_true_eq] at hk
    have := srt_key b2 y3 x1 hk
    subst this
    exact x2 y1
  rw [e1, e2]
  have e3 : sortR (aloneR a (aloneR a b) ++ aloneR b a) = b := by
    refine sortR_set hb (fun x => ?_)
    rw [List.mem_append, mem_alone, mem_alone, mem_alone]
    constructor
    · rintro (⟨h1, h2⟩ | ⟨h1, _⟩)
      · by_cases q : x ∈ b
        · exact q
        · exact absurd ⟨h1, q⟩ h2
      · exact h1
    · intro h1
      by_cases q : x ∈ a
      · exact .inl ⟨q, fun h => h.2 h1⟩
      · exact .inr ⟨h1, q⟩
  rw [e3]
  rfl
theorem swapO_eq {a g c : List Rule} (h : a.length + c.length ≤ 1000000) : swapO a g c = some (swapM a g c) := by
  unfold swapO; rw [if_pos h]
theorem Diff_tables {a b : List Rule} (ha : tableR a = true) (hb : tableR b = true) : undo_Diff a b = (⟨aloneR a b, aloneR b a⟩ : Patch) := by
  rw [undo_Diff, ha, hb]; rfl
theorem Forth_diff {a b : List Rule} (ha : tableR a = true) (hb : tableR b = true) (la : a.length ≤ 1000) (lb : b.length ≤ 1000) : undo_Forth_raw a (⟨aloneR a b, aloneR b a⟩ : Patch) = some (b, 0) := by
  have := aloneR_len b a
  rw [undo_Forth_raw, swapO_eq (by show a.length + (aloneR b a).length ≤ 1000000; omega), swap_diff ha hb]; rfl
theorem Back_diff {a b : List Rule} (ha : tableR a = true) (hb : tableR b = true) (la : a.length ≤ 1000) (lb : b.length ≤ 1000) : undo_Back_raw b (⟨aloneR a b, aloneR b a⟩ : Patch) = some (a, 0) := by
  have := aloneR_len a b
  rw [undo_Back_raw, swapO_eq (by show b.length + (aloneR a b).length ≤ 1000000; omega), swap_diff hb ha]; rfl

end Go.Proofs.Ytlfiemphadkimaa

set_option linter.unusedVariables false
set_option linter.unusedSimpArgs false
set_option maxRecDepth 100000
set_option maxHeartbeats 4000000
namespace Go.Proofs.Ytlfiemphadkimaa
open Go.Sh
/-! ### podestaref04.Alone: function 16 -/
noncomputable def podestaref04_Alone_F : Go.Sh.Fn := ⟨16, bodyOf Try.f16, 43⟩
def podestaref04_Alone_l1s (x : Rule) : List Rule → Bool → Bool
  | [], in_ =>
    in_
  | x1 :: rest1, in_ =>
    podestaref04_Alone_l1s x rest1 (in_ || (podestaref04_Equal x x1))
theorem podestaref04_Alone_l1_walk (a : List Rule) (b : List Rule) (i : Nat) (out : List Rule) (x : Rule) (hv_i : ixO a ((i : Nat) : Int) = some x) (f_a : Bool) (f_b : Bool) (r : (List Rule)) (c0 : Ctx) (hc0 : c0.m.length = 0) (res : Bool) (J : AX Try.prog tab podestaref04_Alone_F c0 (Rp tab.S c0 (.sl 51 (List.map Rule.av r) false) []) (some ⟨[.code [1, 1, 0, 1, 0, 0, 1, 0, 0, 1, 1], .blk 1, .code [1, 1, 0, 1, 0, 0, 1, 1], .loop [1, 1, 0, 1, 0], .blk 0, .code [1, 1, 1]], [(0, .sl 51 (List.map Rule.av a) f_a), (1, .sl 51 (List.map Rule.av b) f_b), (5, .own 0 1000000), (6, .sc (.int .i64 ((i : Nat) : Int))), (7, .sc (.bool res))], [.row 51 (List.map Rule.av out) 1000000 true]⟩)) :
    ∀ (rest1 : List Rule) (k1 : Nat) (z : Int) (hI : z = ((k1 : Nat) : Int)) (hd : b.drop k1 = rest1) (in_ : Bool) (H : podestaref04_Alone_l1s x rest1 in_ = res), AX Try.prog tab podestaref04_Alone_F c0 (Rp tab.S c0 (.sl 51 (List.map Rule.av r) false) []) (some ⟨[.code [1, 1, 0, 1, 0, 0, 1, 0, 0, 1, 0, 1, 0, 0], .loop [1, 1, 0, 1, 0, 0, 1, 0, 0, 1, 0, 1, 0], .blk 2, .code [1, 1, 0, 1, 0, 0, 1, 0, 0, 1, 1], .blk 1, .code [1, 1, 0, 1, 0, 0, 1, 1], .loop [1, 1, 0, 1, 0], .blk 0, .code [1, 1, 1]], [(0, .sl 51 (List.map Rule.av a) f_a), (1, .sl 51 (List.map Rule.av b) f_b), (5, .own 0 1000000), (6, .sc (.int .i64 ((i : Nat) : Int))), (7, .sc (.bool in_)), (8, .sc (.int .i64 z))], [.row 51 (List.map Rule.av out) 1000000 true]⟩) := by
  intro rest1
  induction rest1 with
  | nil =>
    intro k1 z hI hd in_ H
    subst hI
    rw [podestaref04_Alone_l1s] at H
    refine .facts 1 fun hf => ?_
    have hlen : b.length ≤ 9223372036854775807 := by have hq := len_ok hf.2.1; rw [List.length_map] at hq; exact hq
    have hge : b.length ≤ k1 := List.drop_eq_nil_iff.1 hd
    have hc : (decide (((k1 : Nat) : Int) < (((List.map Rule.av b).length : Nat) : Int))) = false := by rw [List.length_map]; exact decide_eq_false (by omega)
    refine .sg 3 [0,1,5,6,7,8,18] (.cdF hc (.sg 1 [0,1,5,6,7] (.kp [0,1,5,6,7] ?_)))
    subst H
    exact .to J
  | cons x1 rest1 ih =>
    intro k1 z hI hd in_ H
    subst hI
    rw [podestaref04_Alone_l1s] at H
    refine .facts 1 fun hf => ?_
    have hlen : b.length ≤ 9223372036854775807 := by have hq := len_ok hf.2.1; rw [List.length_map] at hq; exact hq
    obtain ⟨hlt, hv_k1, hd2⟩ := drop_cons hd
    have hc : (decide (((k1 : Nat) : Int) < (((List.map Rule.av b).length : Nat) : Int))) = true := by rw [List.length_map]; exact decide_eq_true (by omega)
    have hw : IntKind.i64.wrap (((k1 : Nat) : Int) + 1) = ((k1 + 1 : Nat) : Int) := wrapI_succ (by omega)
    refine .sg 3 [0,1,5,6,7,8,18] (.cdT hc (.sg 3 [0,1,5,6,7,8] (.rg (.sg 2 [0,1,5,6,8,22] (.mm 22 in_ 10 [.pure, .pure, .pure, .pure, .pure, .pure, .pure, .pure, .pure, .pure] [0, 1, 5, 6, 8, 32] 32 (fun z => .sc (.bool (z || (podestaref04_Equal x x1)))) ?J1 (fun hb J => ?ht1) (fun hb J => ?hf1))))))
    case ht1 =>
      exact .sg 10 [0,1,5,6,8,32] (.cl J)
    case hf1 =>
      exact .sg 2 [0,1,5,6,8,22,23,24] (.xi [0,1,5,6,8,22,25] Rule.av hv_i (.sg 3 [0,1,5,6,8,22,26,27,28] (.xi [0,1,5,6,8,22,26,29] Rule.av hv_k1 (.sg 1 [0,1,5,6,8,22,26,30] (.cp [0,1,5,6,8,22,31] (podestaref04_Equal_calls x x1) (.sg 1 [0,1,5,6,8,32] (.cl J)))))))
    exact .sg 1 [0,1,5,6,7,8] (.dn (.sg 2 [0,1,5,6,7,8] (.kp [0,1,5,6,7,8] (.into (.cl (ih (k1 + 1) _ hw hd2 (in_ || (podestaref04_Equal x x1)) H))))))

def podestaref04_Alone_l0s (b : List Rule) : List Rule → List Rule → Option ((List Rule))
  | [], out =>
    some out
  | x :: rest, out =>
    letT (podestaref04_Alone_l1s x b false) fun v =>
    (bif (!v) then
      fitO (out.length + [x].length) 272 (
      podestaref04_Alone_l0s b rest (out ++ [x]))
    else
      podestaref04_Alone_l0s b rest out)
theorem podestaref04_Alone_l0_walk (a : List Rule) (b : List Rule) (f_a : Bool) (f_b : Bool) (r : (List Rule)) (c0 : Ctx) (hc0 : c0.m.length = 0) (res : (List Rule)) (J : AX Try.prog tab podestaref04_Alone_F c0 (Rp tab.S c0 (.sl 51 (List.map Rule.av r) false) []) (some ⟨[.code [1, 1, 1]], [(5, .own 0 1000000)], [.row 51 (List.map Rule.av res) 1000000 true]⟩)) :
    ∀ (rest : List Rule) (i : Nat) (z : Int) (hI : z = ((i : Nat) : Int)) (hd : a.drop i = rest) (out : List Rule) (H : podestaref04_Alone_l0s b rest out = some res), AX Try.prog tab podestaref04_Alone_F c0 (Rp tab.S c0 (.sl 51 (List.map Rule.av r) false) []) (some ⟨[.code [1, 1, 0, 1, 0, 0], .loop [1, 1, 0, 1, 0], .blk 0, .code [1, 1, 1]], [(0, .sl 51 (List.map Rule.av a) f_a), (1, .sl 51 (List.map Rule.av b) f_b), (5, .own 0 1000000), (6, .sc (.int .i64 z))], [.row 51 (List.map Rule.av out) 1000000 true]⟩) := by
  intro rest
  induction rest with
  | nil =>
    intro i z hI hd out H
    subst hI
    rw [podestaref04_Alone_l0s] at H
    refine .facts 0 fun hf => ?_
    have hlen : a.length ≤ 9223372036854775807 := by have hq := len_ok hf.2.1; rw [List.length_map] at hq; exact hq
    have hge : a.length ≤ i := List.drop_eq_nil_iff.1 hd
    have hc : (decide (((i : Nat) : Int) < (((List.map Rule.av a).length : Nat) : Int))) = false := by rw [List.length_map]; exact decide_eq_false (by omega)
    refine .sg 3 [0,1,5,6,12] (.cdF hc (.sg 1 [5] (.kp [5] ?_)))
    obtain rfl := Option.some.inj H
    exact .to J
  | cons x rest ih =>
    intro i z hI hd out H
    subst hI
    rw [podestaref04_Alone_l0s] at H
    refine .facts 0 fun hf => ?_
    have hlen : a.length ≤ 9223372036854775807 := by have hq := len_ok hf.2.1; rw [List.length_map] at hq; exact hq
    obtain ⟨hlt, hv_i, hd2⟩ := drop_cons hd
    have hc : (decide (((i : Nat) : Int) < (((List.map Rule.av a).length : Nat) : Int))) = true := by rw [List.length_map]; exact decide_eq_true (by omega)
    have hw : IntKind.i64.wrap (((i : Nat) : Int) + 1) = ((i + 1 : Nat) : Int) := wrapI_succ (by omega)
    refine .sg 3 [0,1,5,6,12] (.cdT hc (.sg 9 [0,1,5,6,7,8] ?_))
    refine letH H fun v hv H => (.into (.to (podestaref04_Alone_l1_walk a b i out x hv_i f_a f_b r c0 hc0 v ?_ b 0 _ rfl rfl false hv)))
    refine .sg 2 [0,1,5,6,34] (.cd (!v) H (fun hb H => ?_) (fun hb H => ?_))
    ·
      exact .rg (.sg 3 [0,1,6,35,36,37] (.xi [0,1,6,35,38] Rule.av hv_i (.sg 2 [0,1,6,35,40] (fitH H fun hfit H => (.ap [0,1,6,41] Rule.av hfit (.sg 1 [0,1,5,6] (.dn (.sg 2 [0,1,5,6] (.tl hc0 [0] [0,1,5,6] (.into (.cl (ih (i + 1) _ hw hd2 (out ++ [x]) H))))))))))))
    ·
      exact .sg 3 [0,1,5,6] (.kp [0,1,5,6] (.into (.cl (ih (i + 1) _ hw hd2 out H))))

def podestaref04_Alone_raw (a : List Rule) (b : List Rule) : Option ((List Rule)) :=
  (podestaref04_Alone_l0s b a ([] : List Rule)).bind fun v =>
  some v
theorem podestaref04_Alone_walk (a : List Rule) (b : List Rule) (f_a : Bool) (f_b : Bool) (r : (List Rule)) (H : podestaref04_Alone_raw a b = some r) : ACalls Try.prog tab.S 16 [.sl 51 (List.map Rule.av a) f_a, .sl 51 (List.map Rule.av b) f_b] [] (.sl 51 (List.map Rule.av r) false) [] := by
  refine .of_AX podestaref04_Alone_F Try.func16 fun c0 hc0 => ?_
  rw [podestaref04_Alone_raw] at H
  refine .sg 8 [0,1,5,6] ?_
  refine .ad 5 51 true (.kp [0,1,5,6] ?_)
  refine bndO H fun v hv H => (.into (.to (podestaref04_Alone_l0_walk a b f_a f_b r c0 hc0 v ?_ a 0 _ rfl rfl ([] : List Rule) hv)))
  refine .sg 2 [4] ?_
  obtain rfl := Option.some.inj H
  exact .ret Try.func16 hc0

theorem refAlone_l1s_eq (x : Rule) : ∀ (l : List Rule) (q : Bool), podestaref04_Alone_l1s x l q = (q || l.any (fun y => x == y))
  | [], q => by rw [podestaref04_Alone_l1s]; simp
  | y :: l, q => by rw [podestaref04_Alone_l1s, refAlone_l1s_eq x l, List.any_cons, ref_Equal_eq, Bool.or_assoc]
theorem refAlone_l0s_eq (b : List Rule) : ∀ (l out : List Rule), (out.length + l.length) * 272 ≤ 140737488355328 → podestaref04_Alone_l0s b l out = some (out ++ aloneR l b)
  | [], out, _ => by rw [podestaref04_Alone_l0s]; simp [aloneR]
  | x :: l, out, h => by
      rw [List.length_cons] at h
      rw [podestaref04_Alone_l0s, refAlone_l1s_eq, fitO_eq (by rw [List.length_cons, List.length_nil]; omega), refAlone_l0s_eq b l (out ++ [x]) (by rw [List.length_append, List.length_cons, List.length_nil]; omega), refAlone_l0s_eq b l out (by omega), List.append_assoc]
      unfold aloneR letT
      rw [List.filter_cons, Bool.false_or]
      cases b.any (fun y => x == y) <;> rfl
theorem podestaref04_Alone_ok (a b : List Rule) (f g : Bool) : ACalls Try.prog tab.S 16 [.sl 51 (List.map Rule.av a) f, .sl 51 (List.map Rule.av b) g] [] (.sl 51 (List.map Rule.av (aloneR a b)) false) [] := by
  refine ACalls.facts (ent_of Try.func16 (by kernel_rfl) (by kernel_rfl)) fun hf => ?_
  have l0 : a.length * 272 ≤ 140737488355328 := by have h := hf.1.1; rw [List.length_map] at h; exact h
  refine podestaref04_Alone_walk a b f g _ ?_
  rw [podestaref04_Alone_raw, refAlone_l0s_eq b a [] (by rw [List.length_nil, Nat.zero_add]; exact l0)]
  rfl

end Go.Proofs.Ytlfiemphadkimaa

set_option linter.unusedVariables false
set_option linter.unusedSimpArgs false
set_option maxRecDepth 100000
set_option maxHeartbeats 4000000
namespace Go.Proofs.Ytlfiemphadkimaa
open Go.Sh
/-! ### podestaref04.Sort: function 22 -/
noncomputable def podestaref04_Sort_F : Go.Sh.Fn := ⟨22, bodyOf Try.f22, 70⟩
def podestaref04_Sort_l1 (out : List Rule) (x : Rule) : Nat → Int → Option (Int)
  | 0, _ => none
  | m + 1, k1 =>
    (bif (decide (k1 < (((List.map Rule.av out).length : Nat) : Int))) then
    (ixO out k1).bind fun x1 =>
    (bif (podestaref04_Before x1 x) then
      podestaref04_Sort_l1 out x m (IntKind.i64.wrap (k1 + 1))
    else
      some k1)
  else
    some k1)
theorem podestaref04_Sort_l1_walk (q1 : Nat) (l : List Rule) (i : Nat) (out : List Rule) (x : Rule) (hv_i : ixO l ((i : Nat) : Int) = some x) (f_l : Bool) (r : (List Rule)) (c0 : Ctx) (hc0 : c0.m.length = 0) (res : Int) (J : AX Try.prog tab podestaref04_Sort_F c0 (Rp tab.S c0 (.sl 51 (List.map Rule.av r) false) []) (some ⟨[.code [1, 1, 0, 1, 0, 0, 1, 0, 0, 1, 1, 1], .blk 1, .code [1, 1, 0, 1, 0, 0, 1, 1], .loop [1, 1, 0, 1, 0], .blk 0, .code [1, 1, 1]], [(0, .sl 51 (List.map Rule.av l) f_l), (3, .sl 51 (List.map Rule.av out) false), (4, .sc (.int .i64 ((i : Nat) : Int))), (5, .sc (.int .i64 res))], []⟩)) :
    ∀ (m : Nat) (k1 : Int) (H : podestaref04_Sort_l1 out x m k1 = some res), AX Try.prog tab podestaref04_Sort_F c0 (Rp tab.S c0 (.sl 51 (List.map Rule.av r) false) []) (some ⟨[.code [1, 1, 0, 1, 0, 0, 1, 0, 0, 1, 1, 0, 0, 0], .loop [1, 1, 0, 1, 0, 0, 1, 0, 0, 1, 1, 0, 0], .blk 2, .code [1, 1, 0, 1, 0, 0, 1, 0, 0, 1, 1, 1], .blk 1, .code [1, 1, 0, 1, 0, 0, 1, 1], .loop [1, 1, 0, 1, 0], .blk 0, .code [1, 1, 1]], [(0, .sl 51 (List.map Rule.av l) f_l), (3, .sl 51 (List.map Rule.av out) false), (4, .sc (.int .i64 ((i : Nat) : Int))), (5, .sc (.int .i64 k1))], []⟩) := by
  intro m
  induction m with
  | zero => intro k1 H; cases H
  | succ m ih =>
    intro k1 H
    rw [podestaref04_Sort_l1] at H
    refine .sg 2 [0,3,4,5] (.rg (.sg 5 [0,3,4,5,23] (.sp 23 (decide (k1 < (((List.map Rule.av out).length : Nat) : Int))) H (fun hb H => ?_) (fun hb H => ?_))))
    ·
      refine .sg 2 [0,3,4,5,23,24,25] (bndO H fun x1 hv H => (.xi [0,3,4,5,23,26] Rule.av hv (.sg 3 [0,3,4,5,23,27,28,29] (.xi [0,3,4,5,23,27,30] Rule.av hv_i (.sg 1 [0,3,4,5,23,27,31] (.cp [0,3,4,5,23,32] (podestaref04_Before_calls x1 x) (.sg 1 [0,3,4,5,33] (.dn (.cd (podestaref04_Before x1 x) H (fun hb H => ?_) (fun hb H => ?_))))))))))
      ·
        exact .sg 4 [0,3,4,5] (.kp [0,3,4,5] (.into (.to (ih (IntKind.i64.wrap (k1 + 1)) H))))
      ·
        refine .sg 1 [0,3,4,5] (.kp [0,3,4,5] ?_)
        obtain rfl := Option.some.inj H
        exact .to J
    ·
      refine .sg 10 [0,3,4,5,33] (.dn (.sg 2 [0,3,4,5] (.kp [0,3,4,5] ?_)))
      obtain rfl := Option.some.inj H
      exact .to J
def podestaref04_Sort_l0s (q1 : Nat) : List Rule → List Rule → Option ((List Rule))
  | [], out =>
    some out
  | x :: rest, out =>
    (bif (!(podestaref04_Rule x)) then
      podestaref04_Sort_l0s q1 rest out
    else
      (podestaref04_Sort_l1 out x q1 0).bind fun v =>
      (sliceO out (some v) none none).bind fun x1 =>
      fitO (([] : List Rule).length + x1.length) 272 (
      (bif (decide ((((List.map Rule.av (([] : List Rule) ++ x1)).length : Nat) : Int) > 0)) then
        (ixO (([] : List Rule) ++ x1) 0).bind fun x2 =>
        (bif (podestaref04_Key x2 x) then
          (sliceO (([] : List Rule) ++ x1) (some 1) none none).bind fun x3 =>
          (sliceO out none (some v) none).bind fun x4 =>
          fitO (([] : List Rule).length + x4.length) 272 (
          fitO ((([] : List Rule) ++ x4).length + [x].length) 272 (
          fitO (((([] : List Rule) ++ x4) ++ [x]).length + x3.length) 272 (
          podestaref04_Sort_l0s q1 rest (((([] : List Rule) ++ x4) ++ [x]) ++ x3))))
        else
          (sliceO out none (some v) none).bind fun x5 =>
          fitO (([] : List Rule).length + x5.length) 272 (
          fitO ((([] : List Rule) ++ x5).length + [x].length) 272 (
          fitO (((([] : List Rule) ++ x5) ++ [x]).length + (([] : List Rule) ++ x1).length) 272 (
          podestaref04_Sort_l0s q1 rest (((([] : List Rule) ++ x5) ++ [x]) ++ (([] : List Rule) ++ x1))))))
      else
        (sliceO out none (some v) none).bind fun x6 =>
        fitO (([] : List Rule).length + x6.length) 272 (
        fitO ((([] : List Rule) ++ x6).length + [x].length) 272 (
        fitO (((([] : List Rule) ++ x6) ++ [x]).length + (([] : List Rule) ++ x1).length) 272 (
        podestaref04_Sort_l0s q1 rest (((([] : List Rule) ++ x6) ++ [x]) ++ (([] : List Rule) ++ x1))))))))
theorem podestaref04_Sort_l0_walk (q1 : Nat) (l : List Rule) (f_l : Bool) (r : (List Rule)) (c0 : Ctx) (hc0 : c0.m.length = 0) (res : (List Rule)) (J : AX Try.prog tab podestaref04_Sort_F c0 (Rp tab.S c0 (.sl 51 (List.map Rule.av r) false) []) (some ⟨[.code [1, 1, 1]], [(3, .sl 51 (List.map Rule.av res) false)], []⟩)) :
    ∀ (rest : List Rule) (i : Nat) (z : Int) (hI : z = ((i : Nat) : Int)) (hd : l.drop i = rest) (out : List Rule) (H : podestaref04_Sort_l0s q1 rest out = some res), AX Try.prog tab podestaref04_Sort_F c0 (Rp tab.S c0 (.sl 51 (List.map Rule.av r) false) []) (some ⟨[.code [1, 1, 0, 1, 0, 0], .loop [1, 1, 0, 1, 0], .blk 0, .code [1, 1, 1]], [(0, .sl 51 (List.map Rule.av l) f_l), (3, .sl 51 (List.map Rule.av out) false), (4, .sc (.int .i64 z))], []⟩) := by
  intro rest
  induction rest with
  | nil =>
    intro i z hI hd out H
    subst hI
    rw [podestaref04_Sort_l0s] at H
    refine .facts 0 fun hf => ?_
    have hlen : l.length ≤ 9223372036854775807 := by have hq := len_ok hf.2.1; rw [List.length_map] at hq; exact hq
    have hge : l.length ≤ i := List.drop_eq_nil_iff.1 hd
    have hc : (decide (((i : Nat) : Int) < (((List.map Rule.av l).length : Nat) : Int))) = false := by rw [List.length_map]; exact decide_eq_false (by omega)
    refine .sg 3 [0,3,4,10] (.cdF hc (.sg 1 [3] (.kp [3] ?_)))
    obtain rfl := Option.some.inj H
    exact .to J
  | cons x rest ih =>
    intro i z hI hd out H
    subst hI
    rw [podestaref04_Sort_l0s] at H
    refine .facts 0 fun hf => ?_
    have hlen : l.length ≤ 9223372036854775807 := by have hq := len_ok hf.2.1; rw [List.length_map] at hq; exact hq
    obtain ⟨hlt, hv_i, hd2⟩ := drop_cons hd
    have hc : (decide (((i : Nat) : Int) < (((List.map Rule.av l).length : Nat) : Int))) = true := by rw [List.length_map]; exact decide_eq_true (by omega)
    have hw : IntKind.i64.wrap (((i : Nat) : Int) + 1) = ((i + 1 : Nat) : Int) := wrapI_succ (by omega)
    refine .sg 3 [0,3,4,10] (.cdT hc (.sg 5 [0,3,4] (.rg (.sg 2 [0,3,4,13,14] (.xi [0,3,4,15] Rule.av hv_i (.sg 1 [0,3,4,16] (.cp [0,3,4,17] (podestaref04_Rule_calls x) (.sg 1 [0,3,4,18] (.dn (.cd (!(podestaref04_Rule x)) H (fun hb H => ?_) (fun hb H => ?_)))))))))))
    ·
      exact .sg 2 [0,3,4] (.kp [0,3,4] (.into (.cl (ih (i + 1) _ hw hd2 out H))))
    ·
      refine .sg 5 [0,3,4,5] ?_
      refine bndO H fun v hv H => (.into (.to (podestaref04_Sort_l1_walk q1 l i out x hv_i f_l r c0 hc0 v ?_ q1 0 hv)))
      refine .sg 1 [0,3,4,5] (.rg (.sg 3 [0,3,4,5,36,37,38] (bndO H fun x1 hv H => (.so [0,3,4,5,36,39] Rule.av hv (fitH H fun hfit H => (.ab [0,3,4,5,40] Rule.av hfit rfl (.sg 1 [0,3,4,5,6] (.dn (.sg 2 [0,3,4,5,6] (.rg (.sg 4 [0,3,4,5,6,44] (.sp 44 (decide ((((List.map Rule.av (([] : List Rule) ++ x1)).length : Nat) : Int) > 0)) H (fun hb H => ?_) (fun hb H => ?_)))))))))))))
      ·
        refine .sg 1 [0,3,4,5,6,44,45] (bndO H fun x2 hv_x2 H => (.xo [0,3,4,5,6,44,46] (ixO_req hv_x2 Rule.av) (.lo [0,3,4,5,6,44,47] (ixO_map hv_x2 Rule.av).2 (.sg 2 [0,3,4,5,6,44,47,48,49] (.xi [0,3,4,5,6,44,47,50] Rule.av hv_i (.sg 1 [0,3,4,5,6,44,47,51] (.cp [0,3,4,5,6,44,52] (podestaref04_Key_calls x2 x) (.sg 1 [0,3,4,5,6,53] (.dn (.cd (podestaref04_Key x2 x) H (fun hb H => ?_) (fun hb H => ?_)))))))))))
        ·
          exact .rg (.sg 1 [0,3,4,5,54] (bndO H fun x3 hv H => (.gso [0,3,4,5,55] [0] Rule.av hv (.sg 1 [0,3,4,5,6] (.dn (.rg (.sg 3 [0,4,6,56,57,58] (bndO H fun x4 hv H => (.so [0,4,6,56,59] Rule.av hv (fitH H fun hfit H => (.ab [0,4,6,60] Rule.av hfit rfl (.sg 2 [0,4,6,60,61,62] (.xi [0,4,6,60,63] Rule.av hv_i (.sg 2 [0,4,6,60,65] (fitH H fun hfit H => (.ap [0,4,6,66] Rule.av hfit (.sg 1 [0,4,66,67] (fitH H fun hfit H => (.ap [0,4,68] Rule.av hfit (.sg 1 [0,3,4] (.dn (.sg 2 [0,3,4] (.tl hc0 [] [0,3,4] (.into (.cl (ih (i + 1) _ hw hd2 (((([] : List Rule) ++ x4) ++ [x]) ++ x3) H))))))))))))))))))))))))))
        ·
          exact .sg 1 [0,3,4,5,6] (.rg (.sg 3 [0,4,6,56,57,58] (bndO H fun x5 hv H => (.so [0,4,6,56,59] Rule.av hv (fitH H fun hfit H => (.ab [0,4,6,60] Rule.av hfit rfl (.sg 2 [0,4,6,60,61,62] (.xi [0,4,6,60,63] Rule.av hv_i (.sg 2 [0,4,6,60,65] (fitH H fun hfit H => (.ap [0,4,6,66] Rule.av hfit (.sg 1 [0,4,66,67] (fitH H fun hfit H => (.ap [0,4,68] Rule.av hfit (.sg 1 [0,3,4] (.dn (.sg 2 [0,3,4] (.tl hc0 [] [0,3,4] (.into (.cl (ih (i + 1) _ hw hd2 (((([] : List Rule) ++ x5) ++ [x]) ++ (([] : List Rule) ++ x1)) H)))))))))))))))))))))
      ·
        exact .sg 9 [0,3,4,5,6,53] (.dn (.sg 2 [0,3,4,5,6] (.rg (.sg 3 [0,4,6,56,57,58] (bndO H fun x6 hv H => (.so [0,4,6,56,59] Rule.av hv (fitH H fun hfit H => (.ab [0,4,6,60] Rule.av hfit rfl (.sg 2 [0,4,6,60,61,62] (.xi [0,4,6,60,63] Rule.av hv_i (.sg 2 [0,4,6,60,65] (fitH H fun hfit H => (.ap [0,4,6,66] Rule.av hfit (.sg 1 [0,4,66,67] (fitH H fun hfit H => (.ap [0,4,68] Rule.av hfit (.sg 1 [0,3,4] (.dn (.sg 2 [0,3,4] (.tl hc0 [] [0,3,4] (.into (.cl (ih (i + 1) _ hw hd2 (((([] : List Rule) ++ x6) ++ [x]) ++ (([] : List Rule) ++ x1)) H)))))))))))))))))))))))

def podestaref04_Sort_raw (q1 : Nat) (l : List Rule) : Option ((List Rule)) :=
  (podestaref04_Sort_l0s q1 l ([] : List Rule)).bind fun v =>
  some v
theorem podestaref04_Sort_walk (q1 : Nat) (l : List Rule) (f_l : Bool) (r : (List Rule)) (H : podestaref04_Sort_raw q1 l = some r) : ACalls Try.prog tab.S 22 [.sl 51 (List.map Rule.av l) f_l] [] (.sl 51 (List.map Rule.av r) false) [] := by
  refine .of_AX podestaref04_Sort_F Try.func22 fun c0 hc0 => ?_
  rw [podestaref04_Sort_raw] at H
  refine .sg 8 [0,3,4] (.wk 3 [(51, false)] (.kp [0,3,4] ?_))
  refine bndO H fun v hv H => (.into (.to (podestaref04_Sort_l0_walk q1 l f_l r c0 hc0 v ?_ l 0 _ rfl rfl ([] : List Rule) hv)))
  refine .sg 2 [2] ?_
  obtain rfl := Option.some.inj H
  exact .ret Try.func22 hc0

def refPut (out : List Rule) (x : Rule) : List Rule :=
  bif !(podestaref04_Rule x) then out else
  out.takeWhile (fun y => podestaref04_Before y x) ++ x :: (match out.dropWhile (fun y => podestaref04_Before y x) with | [] => [] | y :: r => bif podestaref04_Key y x then r else y :: r)
theorem tw_len {α : Type} (p : α → Bool) (l : List α) : l.take (l.takeWhile p).length = l.takeWhile p ∧ l.drop (l.takeWhile p).length = l.dropWhile p := by
  have h := List.takeWhile_append_dropWhile (p := p) (l := l)
  constructor
  · conv => lhs; rw [← h]
    rw [List.take_left' (by rw [h])]
  · conv => lhs; rw [← h]
    rw [List.drop_left' (by rw [h])]
theorem refSort_l1_eq (out : List Rule) (x : Rule) (ho : out.length ≤ 1000000) : ∀ (m k : Nat), k ≤ out.length → out.length - k < m → podestaref04_Sort_l1 out x m (k : Int) = some ((k + ((out.drop k).takeWhile (fun y => podestaref04_Before y x)).length : Nat) : Int)
  | 0, k, _, h => absurd h (by omega)
  | m + 1, k, h1, h2 => by
      rw [podestaref04_Sort_l1, List.length_map]
      by_cases hk : k < out.length
      · rw [decide_eq_true (by omega), cond_true, ixO_lt hk, Option.bind_some, List.drop_eq_getElem_cons hk, List.takeWhile_cons, wrap_succ (by omega), refSort_l1_eq out x ho m (k + 1) (by omega) (by omega)]
        cases podestaref04_Before out[k] x
        · rfl
        · simp only [cond_true, if_true, List.length_cons]
          congr 1; omega
      · rw [decide_eq_false (by omega), cond_false, List.drop_eq_nil_of_le (by omega)]; rfl
theorem sliceO_from {α : Type} (A : List α) {n : Nat} (h : n ≤ A.length) : sliceO A (some ((n : Nat) : Int)) none none = some (A.drop n) := by
  unfold sliceO
  simp only [Option.getD_some, Option.getD_none]
  split
  · simp only [Int.toNat_natCast]
    rw [List.take_of_length_le (by rw [List.length_drop]; omega)]
  · rename_i hc
    exact absurd ⟨by omega, by omega, by omega, Or.inl trivial⟩ hc
theorem sliceO_to {α : Type} (A : List α) {n : Nat} (h : n ≤ A.length) : sliceO A none (some ((n : Nat) : Int)) none = some (A.take n) := by
  unfold sliceO
  simp only [Option.getD_some, Option.getD_none]
  split
  · simp
  · rename_i hc
    exact absurd ⟨by omega, by omega, by omega, Or.inl trivial⟩ hc
theorem refPut_len (out : List Rule) (x : Rule) : (refPut out x).length ≤ out.length + 1 := by
  have h := congrArg List.length (List.takeWhile_append_dropWhile (p := fun y => podestaref04_Before y x) (l := out))
  rw [List.length_append] at h
  unfold refPut
  cases podestaref04_Rule x
  · simp only [Bool.not_false, cond_true]; omega
  · simp only [Bool.not_true, cond_false, List.length_append, List.length_cons]
    cases hd : out.dropWhile (fun y => podestaref04_Before y x) with
    | nil => rw [hd] at h; simp only [List.length_nil] at h ⊢; omega
    | cons y r =>
      rw [hd] at h
      rw [List.length_cons] at h
      cases hk : podestaref04_Key y x
      · simp only [hk, cond_false, List.length_cons]; omega
      · simp only [hk, cond_true]; omega
theorem refSort_l0s_eq (q : Nat) : ∀ (l out : List Rule), out.length + l.length < q → q ≤ 100000 → podestaref04_Sort_l0s q l out = some (l.foldl refPut out)
  | [], out, _, _ => by rw [podestaref04_Sort_l0s]; rfl
  | x :: l, out, h, hq => by
      rw [List.length_cons] at h
      have hp := refPut_len out x
      have ih := refSort_l0s_eq q l (refPut out x) (by omega) hq
      rw [podestaref04_Sort_l0s, List.foldl_cons, ← ih]
      obtain ⟨t1, t2⟩ := tw_len (fun y => podestaref04_Before y x) out
      have hl1 := refSort_l1_eq out x (by omega) q 0 (by omega) (by omega)
      rw [List.drop_zero, Nat.zero_add, show ((0 : Nat) : Int) = 0 from rfl] at hl1
      have hn : (out.takeWhile (fun y => podestaref04_Before y x)).length ≤ out.length := (List.takeWhile_sublist _).length_le
      have hdl : (out.dropWhile (fun y => podestaref04_Before y x)).length ≤ out.length := (List.dropWhile_sublist _).length_le
      cases hr : podestaref04_Rule x
      · simp only [Bool.not_false, cond_true]
        unfold refPut
        rw [hr]; rfl
      · simp only [Bool.not_true, cond_false]
        have hput : refPut out x = out.takeWhile (fun y => podestaref04_Before y x) ++ x :: (match out.dropWhile (fun y => podestaref04_Before y x) with | [] => [] | y :: r => bif podestaref04_Key y x then r else y :: r) := by
          unfold refPut; rw [hr]; rfl
        rw [hput, hl1, Option.bind_some, sliceO_from out hn, Option.bind_some, sliceO_to out hn, t1, t2]
        simp only [nil_app, List.length_map, Option.bind_some, List.length_nil, Nat.zero_add]
        rw [fitO_eq (by omega)]
        generalize out.takeWhile (fun y => podestaref04_Before y x) = A at *
        generalize out.dropWhile (fun y => podestaref04_Before y x) = B at *
        cases B with
        | nil =>
          simp only [List.length_nil]
          rw [show decide (((0 : Nat) : Int) > 0) = false from rfl, cond_false, fitO_eq (by omega), fitO_eq (by rw [List.length_cons, List.length_nil]; omega), fitO_eq (by rw [List.length_append, List.length_cons, List.length_nil]; omega), List.append_assoc]
          rfl
        | cons y r =>
          rw [List.length_cons] at hdl
          rw [decide_eq_true (show (((y :: r).length : Nat) : Int) > 0 by rw [List.length_cons]; omega), cond_true]
          rw [show ixO (y :: r) 0 = some y from rfl, Option.bind_some]
          rw [show sliceO (y :: r) (some 1) none none = some r by rw [show (1 : Int) = ((1 : Nat) : Int) from rfl, sliceO_from (y :: r) (by rw [List.length_cons]; omega)]; rfl, Option.bind_some]
          show _ = podestaref04_Sort_l0s q l (A ++ x :: (bif podestaref04_Key y x then r else y :: r))
          cases podestaref04_Key y x
          · rw [cond_false, cond_false, fitO_eq (by omega), fitO_eq (by rw [List.length_cons, List.length_nil]; omega), fitO_eq (by rw [List.length_append, List.length_cons, List.length_nil, List.length_cons]; omega), List.append_assoc]
            rfl
          · rw [cond_true, cond_true, fitO_eq (by omega), fitO_eq (by rw [List.length_cons, List.length_nil]; omega), fitO_eq (by rw [List.length_append, List.length_cons, List.length_nil]; omega), List.append_assoc]
            rfl
def refSortO (l : List Rule) : Option (List Rule) := if l.length ≤ 10000 then some (l.foldl refPut []) else none
theorem podestaref04_Sort_ok (l : List Rule) (f : Bool) (x : List Rule) (h : refSortO l = some x) : ACalls Try.prog tab.S 22 [.sl 51 (List.map Rule.av l) f] [] (.sl 51 (List.map Rule.av x) false) [] := by
  unfold refSortO at h
  split at h
  · rename_i hl
    refine podestaref04_Sort_walk (l.length + 1) l f x ?_
    rw [podestaref04_Sort_raw, refSort_l0s_eq (l.length + 1) l [] (by rw [List.length_nil]; omega) (by omega)]
    exact h
  · cases h
theorem refKey_eq (a b : Rule) : podestaref04_Key a b = decide (a.key = b.key) := by rw [← Key_key]; rfl
theorem refPut_eq {out : List Rule} {x : Rule} (hs : Srt out) (w : ∀ y ∈ out, Rule.wf y) (wx : Rule.wf x) : refPut out x = putR out x := by
  have hb : ∀ y ∈ out, (podestaref04_Before y x = true ↔ RLt y x) := fun y hy => by
    rw [refBefore_eq (w y hy) wx, Before_key, decide_eq_true_eq]; rfl
  unfold refPut
  rw [← rule_Sound_eq wx]
  cases hS : rule_Sound x
  · rw [putR_not hS]; rfl
  · simp only [Bool.not_true, cond_false]
    obtain ⟨A, mid, B, e1, e2, e3, e4, e5⟩ := putR_split hs hS
    rw [e2]
    subst e1
    have hA : ∀ a ∈ A, podestaref04_Before a x = true := fun a ha => (hb a (by simp [ha])).2 (e3 a ha)
    rw [List.takeWhile_append_of_pos hA, List.dropWhile_append_of_pos hA]
    obtain ⟨p1, p2, p3⟩ := List.pairwise_append.1 hs
    cases mid with
    | nil =>
      cases B with
      | nil => simp
      | cons b B =>
        have hf : podestaref04_Before b x = false := by
          rw [Bool.eq_false_iff]
          intro q
          exact RLt.asymm (e4 b (by simp)) ((hb b (by simp)).1 q)
        have hk : podestaref04_Key b x = false := by
          rw [refKey_eq, decide_eq_false_iff_not]
          intro q
          exact RLt.irr x b q.symm (e4 b (by simp))
        simp [List.takeWhile_cons, List.dropWhile_cons, hf, hk]
    | cons y mid =>
      have hy := e5 y (by simp)
      have hf : podestaref04_Before y x = false := by
        rw [Bool.eq_false_iff]
        intro q
        exact RLt.irr y x hy ((hb y (by simp)).1 q)
      have hk : podestaref04_Key y x = true := by rw [refKey_eq, decide_eq_true_eq]; exact hy
      have hm : mid = [] := by
        cases mid with
        | nil => rfl
        | cons z mid =>
          have h1 : RLt y z := (List.pairwise_cons.1 p2).1 z (by simp)
          exact absurd h1 (RLt.irr y z (hy.trans (e5 z (by simp)).symm))
      subst hm
      simp [List.takeWhile_cons, List.dropWhile_cons, hf, hk]
theorem refSort_fold : ∀ (l out : List Rule), Srt out → (∀ y ∈ out, Rule.wf y) → (∀ y ∈ l, Rule.wf y) → l.foldl refPut out = l.foldl putR out
  | [], _, _, _, _ => rfl
  | x :: l, out, hs, w, wl => by
      rw [List.foldl_cons, List.foldl_cons, refPut_eq hs w (wl x (by simp))]
      exact refSort_fold l (putR out x) (putR_srt hs x) (fun y hy => by
        rcases putR_mem hs hy with q | ⟨q, _⟩
        · exact w y q
        · rw [q]; exact wl x (by simp)) (fun y hy => wl y (by simp [hy]))
theorem refSortO_eq {l : List Rule} (w : ∀ y ∈ l, Rule.wf y) (h : l.length ≤ 10000) : refSortO l = some (sortR l) := by
  unfold refSortO sortR
  rw [if_pos h, refSort_fold l [] List.Pairwise.nil (by simp) w]

end Go.Proofs.Ytlfiemphadkimaa

set_option linter.unusedVariables false
set_option linter.unusedSimpArgs false
set_option maxRecDepth 100000
set_option maxHeartbeats 4000000
namespace Go.Proofs.Ytlfiemphadkimaa
open Go.Sh
def HeadOk (h : List Int) : Bool := (List.range' 0 12).all fun i => fitsT ((i : Nat) : Int) (h.getD i 0)
theorem refHead_l0s_eq (h : List Int) : ∀ (n i : Nat), podestaref01_Head_l0s h n i = if (List.range' i n).all (fun i => fitsT ((i : Nat) : Int) (h.getD i 0)) then .inl () else .inr false
  | 0, i => rfl
  | n + 1, i => by
      rw [podestaref01_Head_l0s, refFits_eq, refHead_l0s_eq h n (i + 1), List.range'_succ, List.all_cons]
      cases fitsT ((i : Nat) : Int) (h.getD i 0)
      · rfl
      · simp only [Bool.not_true, cond_false, Bool.true_and]
theorem refHead_eq (h : List Int) : podestaref01_Head h = HeadOk h := by
  unfold podestaref01_Head HeadOk
  rw [refHead_l0s_eq]
  cases (List.range' 0 12).all _ <;> rfl

theorem chr_ok (v c : Bool) : 0 ≤ chrB v c ∧ chrB v c ≤ 255 := by cases v <;> cases c <;> decide
theorem byteAt_nums (L : List Int) (hL : ∀ x ∈ L, 0 ≤ x ∧ x ≤ 255) {j : Nat} (hj : j < L.length) : byteAt (strOfNums L) (j : Int) = L[j] := by
  have h := hL L[j] (List.getElem_mem hj)
  unfold byteAt strOfNums
  rw [Int.toNat_natCast, List.getD_eq_getElem?_getD]
  simp [hj]
  omega
theorem text_bytes (c : Cube) : ∀ (r i : Nat), ∀ x ∈ textS c r i, 0 ≤ x ∧ x ≤ 255
  | 0, _, x, h => by cases h
  | r + 1, i, x, h => by
      rw [textS] at h
      rcases List.mem_append.1 h with q | q
      · obtain ⟨k, hk, rfl⟩ := List.getElem_of_mem q
        rw [List.getElem_zipWith]
        exact chr_ok _ _
      · exact text_bytes c r (i + 1) x q
theorem textOk_parts (c : Cube) : ∀ (r i : Nat) (ok : Bool), textOk c r i ok = true → ok = true ∧ ∀ j, i ≤ j → j < i + r → badAt c j = false
  | 0, i, ok, h => ⟨h, fun j h1 h2 => absurd h2 (by omega)⟩
  | r + 1, i, ok, h => by
      rw [textOk] at h
      obtain ⟨h1, h2⟩ := textOk_parts c r (i + 1) _ h
      cases hb : badAt c i
      · rw [hb] at h1
        refine ⟨h1, fun j h3 h4 => ?_⟩
        rcases Nat.eq_or_lt_of_le h3 with q | q
        · subst q; exact hb
        · exact h2 j (by omega) (by omega)
      · rw [hb] at h1; cases h1

theorem bitE_nat {n k : Nat} (hn : n < 18446744073709551616) (hk : k < 64) : bitE ((n : Nat) : Int) ((k : Nat) : Int) = n.testBit k := by
  have hw : ∀ z : Int, IntKind.u64.wrap z = z % 18446744073709551616 := fun z => by simp [IntKind.wrap, IntKind.bits, IntKind.signed]
  unfold bitE
  have e1 : IntKind.u64.wrap ((k : Nat) : Int) = ((k : Nat) : Int) := by rw [hw]; omega
  have e2 : min k (IntKind.u64).bits = k := Nat.min_eq_left (by show k ≤ 64; omega)
  have e3 : Int.fdiv ((n : Nat) : Int) (2 ^ k) = ((n / 2 ^ k : Nat) : Int) := by
    rw [Int.fdiv_eq_ediv_of_nonneg _ (Int.le_of_lt (pow_pos2 k))]
    norm_cast
  rw [e1, Int.toNat_natCast, e2, e3]
  have hlt : n / 2 ^ k < 18446744073709551616 := Nat.lt_of_le_of_lt (Nat.div_le_self _ _) hn
  have e4 : (BitVec.ofInt 64 ((n / 2 ^ k : Nat) : Int) &&& BitVec.ofInt 64 1).toNat = (n / 2 ^ k) % 2 := by
    rw [BitVec.toNat_and, BitVec.toNat_ofInt, BitVec.toNat_ofInt]
    have a1 : (((n / 2 ^ k : Nat) : Int) % ((2 ^ 64 : Nat) : Int)).toNat = n / 2 ^ k := by
      generalize n / 2 ^ k = q at hlt ⊢
      have p : ((2 ^ 64 : Nat) : Int) = 18446744073709551616 := by decide
      rw [p]; omega
    have a2 : ((1 : Int) % ((2 ^ 64 : Nat) : Int)).toNat = 1 := by decide
    rw [a1, a2, Nat.and_one_is_mod]
  rw [e4, hw, Nat.testBit_eq_decide_div_mod_eq]
  rcases Nat.mod_two_eq_zero_or_one (n / 2 ^ k) with q | q <;> rw [q] <;> rfl
theorem u64_range {xs : List Int} {n : Nat} (h : arrW .u64 n xs) (i : Nat) : ∃ k : Nat, xs.getD i 0 = (k : Int) ∧ k < 18446744073709551616 := by
  rw [List.getD_eq_getElem?_getD]
  by_cases hi : i < xs.length
  · rw [List.getElem?_eq_getElem hi]
    have := h.2 _ (List.getElem_mem hi)
    unfold Go.Lit.wf at this
    rw [Bool.and_eq_true, decide_eq_true_eq, decide_eq_true_eq] at this
    have h0 : 0 ≤ xs[i] := this.1
    have h2 : xs[i] ≤ 18446744073709551615 := this.2
    refine ⟨xs[i].toNat, ?_, ?_⟩
    · simp only [Option.getD_some]; omega
    · omega
  · rw [List.getElem?_eq_none (by omega)]
    exact ⟨0, rfl, by decide⟩
theorem ofInt_nat {n : Nat} (hn : n < 18446744073709551616) : (BitVec.ofInt 64 ((n : Nat) : Int)).toNat = n := by
  rw [BitVec.toNat_ofInt]
  have p : ((2 ^ 64 : Nat) : Int) = 18446744073709551616 := by decide
  rw [p]; omega
theorem wrapU_nat {n : Nat} (hn : n < 18446744073709551616) : IntKind.u64.wrap ((n : Nat) : Int) = (n : Int) := by
  have hw : ∀ z : Int, IntKind.u64.wrap z = z % 18446744073709551616 := fun z => by simp [IntKind.wrap, IntKind.bits, IntKind.signed]
  rw [hw]; omega
/-- a value's bits are among those that are given -/
theorem sub_bits {c : Cube} {i v k : Nat} (ev : c.Value.getD i 0 = (v : Int)) (hv : v < 18446744073709551616) (ek : c.Care.getD i 0 = (k : Int)) (hk : k < 18446744073709551616) (hb : badAt c i = false) : ∀ j, v.testBit j = true → k.testBit j = true := by
  unfold badAt at hb
  rw [ev, ek] at hb
  intro j hj
  by_cases hj64 : j < 64
  · have h0 : (BitVec.ofInt 64 ((v : Nat) : Int) &&& ~~~ (BitVec.ofInt 64 ((k : Nat) : Int))) = 0#64 := by
      have hlt := (BitVec.ofInt 64 ((v : Nat) : Int) &&& ~~~ (BitVec.ofInt 64 ((k : Nat) : Int))).isLt
      rw [wrapU_nat (by omega)] at hb
      apply BitVec.eq_of_toNat_eq
      have : (((BitVec.ofInt 64 ((v : Nat) : Int) &&& ~~~ (BitVec.ofInt 64 ((k : Nat) : Int))).toNat : Nat) : Int) = 0 := by simpa using hb
      simpa using this
    have h1 := congrArg (fun b => b.getLsbD j) h0
    simp only [BitVec.getLsbD_and, BitVec.getLsbD_not, BitVec.getLsbD_zero, hj64, decide_true, Bool.true_and] at h1
    rw [BitVec.getLsbD, BitVec.getLsbD, ofInt_nat hv, ofInt_nat hk, hj, Bool.true_and] at h1
    simpa using h1
  · have : v.testBit j = false := Nat.testBit_lt_two_pow (Nat.lt_of_lt_of_le hv (Nat.pow_le_pow_right (n := 2) (by decide) (show 64 ≤ j by omega)))
    rw [this] at hj; cases hj
theorem care_lt {c : Cube} {i k : Nat} (ek : c.Care.getD i 0 = (k : Int)) (hf : fitsT ((i : Nat) : Int) (c.Care.getD i 0) = true) : k < 2 ^ sizeN i := by
  rw [ek] at hf
  unfold fitsT at hf
  rw [decide_eq_true_eq] at hf
  have : ((k : Nat) : Int) < ((2 ^ sizeN i : Nat) : Int) := by
    unfold sizeN
    push_cast
    exact hf
  omega
theorem sizeN_le (i : Nat) : sizeN i ≤ 64 := by
  have hs := sizeT_in ((i : Nat) : Int)
  unfold sizeN
  omega

/-! ### podestaref01.From: function 66 -/
noncomputable def podestaref01_From_F : Go.Sh.Fn := ⟨66, bodyOf Try.f66, 58⟩
def podestaref01_From_l1 (s : ByteArray) (i : Nat) : Nat → Int → Int → List Int → List Int → Option (Int × (List Int) × (List Int))
  | 0, _, _, _, _ => none
  | m + 1, at_1, k1, c_01, c_11 =>
    (bif (decide (k1 < (sizeT ((i : Nat) : Int)))) then
    reqO (decide (0 ≤ at_1) && decide (at_1 < ((s.size : Nat) : Int))) (
    (bif ((byteAt s at_1) != 120) then
      reqO (decide (0 ≤ at_1) && decide (at_1 < ((s.size : Nat) : Int))) (
      (bif ((byteAt s at_1) == 49) then
        podestaref01_From_l1 s i m (IntKind.i64.wrap (at_1 + 1)) (IntKind.i64.wrap (k1 + 1)) ((c_01.set (i) (IntKind.u64.wrap ((c_01.getD (i) 0) * 2))).set (i) (IntKind.u64.wrap (((c_01.set (i) (IntKind.u64.wrap ((c_01.getD (i) 0) * 2))).getD (i) 0) + 1))) ((c_11.set (i) (IntKind.u64.wrap ((c_11.getD (i) 0) * 2))).set (i) (IntKind.u64.wrap (((c_11.set (i) (IntKind.u64.wrap ((c_11.getD (i) 0) * 2))).getD (i) 0) + 1)))
      else
        podestaref01_From_l1 s i m (IntKind.i64.wrap (at_1 + 1)) (IntKind.i64.wrap (k1 + 1)) (c_01.set (i) (IntKind.u64.wrap ((c_01.getD (i) 0) * 2))) ((c_11.set (i) (IntKind.u64.wrap ((c_11.getD (i) 0) * 2))).set (i) (IntKind.u64.wrap (((c_11.set (i) (IntKind.u64.wrap ((c_11.getD (i) 0) * 2))).getD (i) 0) + 1)))))
    else
      reqO (decide (0 ≤ at_1) && decide (at_1 < ((s.size : Nat) : Int))) (
      (bif ((byteAt s at_1) == 49) then
        podestaref01_From_l1 s i m (IntKind.i64.wrap (at_1 + 1)) (IntKind.i64.wrap (k1 + 1)) ((c_01.set (i) (IntKind.u64.wrap ((c_01.getD (i) 0) * 2))).set (i) (IntKind.u64.wrap (((c_01.set (i) (IntKind.u64.wrap ((c_01.getD (i) 0) * 2))).getD (i) 0) + 1))) (c_11.set (i) (IntKind.u64.wrap ((c_11.getD (i) 0) * 2)))
      else
        podestaref01_From_l1 s i m (IntKind.i64.wrap (at_1 + 1)) (IntKind.i64.wrap (k1 + 1)) (c_01.set (i) (IntKind.u64.wrap ((c_01.getD (i) 0) * 2))) (c_11.set (i) (IntKind.u64.wrap ((c_11.getD (i) 0) * 2)))))))
  else
    some (at_1, c_01, c_11))
theorem podestaref01_From_l1_walk (q1 : Nat) (s : ByteArray) (i : Nat) (at_ : Int) (c_0 : List Int) (c_1 : List Int) (hlt_i : i < 12)  (r : Cube) (c0 : Ctx) (hc0 : c0.m.length = 0) (res : Int × (List Int) × (List Int)) (J : AX Try.prog tab podestaref01_From_F c0 (Rp tab.S c0 (Cube.av r) []) (some ⟨[.blk 1, .code [1, 1, 1, 0, 1, 0, 0, 1, 1], .loop [1, 1, 1, 0, 1, 0], .blk 0, .code [1, 1, 1, 1]], [(0, .sc (.string s)), (2, .ptr 0 0 none), (3, .ptr 1 0 none), (4, .sc (.int .i64 res.1)), (5, .sc (.int .i64 ((i : Nat) : Int)))], [.box 30 [.arr .u64 12 [0, 0, 0, 0, 0, 0, 0, 0, 0, 0, 0, 0], .arr .u64 12 [0, 0, 0, 0, 0, 0, 0, 0, 0, 0, 0, 0]], .box 30 [.arr .u64 12 res.2.1, .arr .u64 12 res.2.2]]⟩)) :
    ∀ (m : Nat) (at_1 : Int) (k1 : Int) (c_01 : List Int) (c_11 : List Int) (H : podestaref01_From_l1 s i m at_1 k1 c_01 c_11 = some res), AX Try.prog tab podestaref01_From_F c0 (Rp tab.S c0 (Cube.av r) []) (some ⟨[.code [1, 1, 1, 0, 1, 0, 0, 1, 0, 0, 1, 0, 0], .loop [1, 1, 1, 0, 1, 0, 0, 1, 0, 0, 1, 0], .blk 2, .blk 1, .code [1, 1, 1, 0, 1, 0, 0, 1, 1], .loop [1, 1, 1, 0, 1, 0], .blk 0, .code [1, 1, 1, 1]], [(0, .sc (.string s)), (2, .ptr 0 0 none), (3, .ptr 1 0 none), (4, .sc (.int .i64 at_1)), (5, .sc (.int .i64 ((i : Nat) : Int))), (6, .sc (.int .i64 k1))], [.box 30 [.arr .u64 12 [0, 0, 0, 0, 0, 0, 0, 0, 0, 0, 0, 0], .arr .u64 12 [0, 0, 0, 0, 0, 0, 0, 0, 0, 0, 0, 0]], .box 30 [.arr .u64 12 c_01, .arr .u64 12 c_11]]⟩) := by
  intro m
  induction m with
  | zero => intro at_1 k1 c_01 c_11 H; cases H
  | succ m ih =>
    intro at_1 k1 c_01 c_11 H
    rw [podestaref01_From_l1] at H
    refine .sg 2 [0,2,3,4,5,6] (.rg (.sg 2 [0,2,3,4,5,6,11,12] (.cp [0,2,3,4,5,6,11,13] (podestaref01_Size_ok ((i : Nat) : Int)) (.sg 1 [0,2,3,4,5,6,14] (.dn (.cd (decide (k1 < (sizeT ((i : Nat) : Int)))) H (fun hb H => ?_) (fun hb H => ?_)))))))
    ·
      refine .sg 4 [0,2,3,4,5,6] (.rg (.sg 3 [0,2,3,4,5,6,17,18,19] ?_))
      have hreq := idx_in 12 hlt_i (by decide)
      refine .xa [0,2,3,4,5,6,17,20] hreq (.sg 3 [0,2,3,4,5,6,17,22,23] ?_)
      have hreq := idx_in 12 hlt_i (by decide)
      refine .xa [0,2,3,4,5,6,22,24] hreq (.sg 1 [0,2,3,4,5,6] (.dn (.sg 1 [0,2,3,4,5,6] (.rg (.sg 3 [0,2,3,4,5,6,25,26,27] ?_)))))
      have hreq := idx_in 12 hlt_i (by decide)
      refine .xa [0,2,3,4,5,6,25,28] hreq (.sg 3 [0,2,3,4,5,6,25,30,31] ?_)
      have hreq := idx_in 12 hlt_i (by decide)
      refine .xa [0,2,3,4,5,6,30,32] hreq (.sg 1 [0,2,3,4,5,6] (.dn (.sg 2 [0,2,3,4,5,6] (.rg (.sg 2 [0,2,3,4,5,6,33,34] (reqH H fun hreq H => (.xs [0,2,3,4,5,6,35] hreq (.sg 1 [0,2,3,4,5,6,36] (.dn (.cd ((byteAt s at_1) != 120) H (fun hb H => ?_) (fun hb H => ?_)))))))))))
      ·
        refine .rg (.sg 2 [0,2,3,4,5,6,37,38] ?_)
        have hreq := idx_in 12 hlt_i (by decide)
        refine .xa [0,2,3,4,5,6,37,39] hreq (.sg 3 [0,2,3,4,5,6,37,41,42] ?_)
        have hreq := idx_in 12 hlt_i (by decide)
        refine .xa [0,2,3,4,5,6,41,43] hreq (.sg 1 [0,2,3,4,5,6] (.dn (.sg 2 [0,2,3,4,5,6] (.rg (.sg 2 [0,2,3,4,5,6,44,45] (reqH H fun hreq H => (.xs [0,2,3,4,5,6,46] hreq (.sg 1 [0,2,3,4,5,6,47] (.dn (.cd ((byteAt s at_1) == 49) H (fun hb H => ?_) (fun hb H => ?_)))))))))))
        ·
          refine .rg (.sg 2 [0,2,3,4,5,6,48,49] ?_)
          have hreq := idx_in 12 hlt_i (by decide)
          refine .xa [0,2,3,4,5,6,48,50] hreq (.sg 3 [0,2,3,4,5,6,48,52,53] ?_)
          have hreq := idx_in 12 hlt_i (by decide)
          exact .xa [0,2,3,4,5,6,52,54] hreq (.sg 1 [0,2,3,4,5,6] (.dn (.sg 3 [0,2,3,4,5,6] (.kp [0,2,3,4,5,6] (.into (.to (ih (IntKind.i64.wrap (at_1 + 1)) (IntKind.i64.wrap (k1 + 1)) ((c_01.set (i) (IntKind.u64.wrap ((c_01.getD (i) 0) * 2))).set (i) (IntKind.u64.wrap (((c_01.set (i) (IntKind.u64.wrap ((c_01.getD (i) 0) * 2))).getD (i) 0) + 1))) ((c_11.set (i) (IntKind.u64.wrap ((c_11.getD (i) 0) * 2))).set (i) (IntKind.u64.wrap (((c_11.set (i) (IntKind.u64.wrap ((c_11.getD (i) 0) * 2))).getD (i) 0) + 1))) H)))))))
        ·
          exact .sg 4 [0,2,3,4,5,6] (.kp [0,2,3,4,5,6] (.into (.to (ih (IntKind.i64.wrap (at_1 + 1)) (IntKind.i64.wrap (k1 + 1)) (c_01.set (i) (IntKind.u64.wrap ((c_01.getD (i) 0) * 2))) ((c_11.set (i) (IntKind.u64.wrap ((c_11.getD (i) 0) * 2))).set (i) (IntKind.u64.wrap (((c_11.set (i) (IntKind.u64.wrap ((c_11.getD (i) 0) * 2))).getD (i) 0) + 1))) H))))
      ·
        refine .sg 3 [0,2,3,4,5,6] (.rg (.sg 2 [0,2,3,4,5,6,44,45] (reqH H fun hreq H => (.xs [0,2,3,4,5,6,46] hreq (.sg 1 [0,2,3,4,5,6,47] (.dn (.cd ((byteAt s at_1) == 49) H (fun hb H => ?_) (fun hb H => ?_))))))))
        ·
          refine .rg (.sg 2 [0,2,3,4,5,6,48,49] ?_)
          have hreq := idx_in 12 hlt_i (by decide)
          refine .xa [0,2,3,4,5,6,48,50] hreq (.sg 3 [0,2,3,4,5,6,48,52,53] ?_)
          have hreq := idx_in 12 hlt_i (by decide)
          exact .xa [0,2,3,4,5,6,52,54] hreq (.sg 1 [0,2,3,4,5,6] (.dn (.sg 3 [0,2,3,4,5,6] (.kp [0,2,3,4,5,6] (.into (.to (ih (IntKind.i64.wrap (at_1 + 1)) (IntKind.i64.wrap (k1 + 1)) ((c_01.set (i) (IntKind.u64.wrap ((c_01.getD (i) 0) * 2))).set (i) (IntKind.u64.wrap (((c_01.set (i) (IntKind.u64.wrap ((c_01.getD (i) 0) * 2))).getD (i) 0) + 1))) (c_11.set (i) (IntKind.u64.wrap ((c_11.getD (i) 0) * 2))) H)))))))
        ·
          exact .sg 4 [0,2,3,4,5,6] (.kp [0,2,3,4,5,6] (.into (.to (ih (IntKind.i64.wrap (at_1 + 1)) (IntKind.i64.wrap (k1 + 1)) (c_01.set (i) (IntKind.u64.wrap ((c_01.getD (i) 0) * 2))) (c_11.set (i) (IntKind.u64.wrap ((c_11.getD (i) 0) * 2))) H))))
    ·
      refine .sg 1 [0,2,3,4,5] (.kp [0,2,3,4,5] ?_)
      obtain rfl := Option.some.inj H
      exact .to J
def podestaref01_From_l0s (q1 : Nat) (s : ByteArray) : Nat → Nat → Int → List Int → List Int → Option ((List Int) × (List Int))
  | 0, i, at_, c_0, c_1 =>
    some (c_0, c_1)
  | rest + 1, i, at_, c_0, c_1 =>
    (podestaref01_From_l1 s i q1 at_ 0 c_0 c_1).bind fun v =>
    podestaref01_From_l0s q1 s rest (i + 1) v.1 v.2.1 v.2.2
theorem podestaref01_From_l0_walk (q1 : Nat) (s : ByteArray) (r : Cube) (c0 : Ctx) (hc0 : c0.m.length = 0) (res : (List Int) × (List Int)) (J : AX Try.prog tab podestaref01_From_F c0 (Rp tab.S c0 (Cube.av r) []) (some ⟨[.code [1, 1, 1, 1]], [(2, .ptr 0 0 none), (3, .ptr 1 0 none)], [.box 30 [.arr .u64 12 [0, 0, 0, 0, 0, 0, 0, 0, 0, 0, 0, 0], .arr .u64 12 [0, 0, 0, 0, 0, 0, 0, 0, 0, 0, 0, 0]], .box 30 [.arr .u64 12 res.1, .arr .u64 12 res.2]]⟩)) :
    ∀ (rest : Nat) (i : Nat) (z : Int) (hI : z = ((i : Nat) : Int)) (hd : i + rest = 12) (at_ : Int) (c_0 : List Int) (c_1 : List Int) (H : podestaref01_From_l0s q1 s rest i at_ c_0 c_1 = some res), AX Try.prog tab podestaref01_From_F c0 (Rp tab.S c0 (Cube.av r) []) (some ⟨[.code [1, 1, 1, 0, 1, 0, 0], .loop [1, 1, 1, 0, 1, 0], .blk 0, .code [1, 1, 1, 1]], [(0, .sc (.string s)), (2, .ptr 0 0 none), (3, .ptr 1 0 none), (4, .sc (.int .i64 at_)), (5, .sc (.int .i64 z))], [.box 30 [.arr .u64 12 [0, 0, 0, 0, 0, 0, 0, 0, 0, 0, 0, 0], .arr .u64 12 [0, 0, 0, 0, 0, 0, 0, 0, 0, 0, 0, 0]], .box 30 [.arr .u64 12 c_0, .arr .u64 12 c_1]]⟩) := by
  intro rest
  induction rest with
  | zero =>
    intro i z hI hd at_ c_0 c_1 H
    subst hI
    rw [podestaref01_From_l0s] at H
    have hc : (decide (((i : Nat) : Int) < 12)) = false := decide_eq_false (by omega)
    refine .sg 3 [0,2,3,4,5,8] (.cdF hc (.sg 1 [2,3] (.kp [2,3] ?_)))
    obtain rfl := Option.some.inj H
    exact .to J
  | succ rest ih =>
    intro i z hI hd at_ c_0 c_1 H
    subst hI
    rw [podestaref01_From_l0s] at H
    have hlt_i : i < 12 := by omega
    have hc : (decide (((i : Nat) : Int) < 12)) = true := decide_eq_true (by omega)
    have hw : IntKind.i64.wrap (((i : Nat) : Int) + 1) = ((i + 1 : Nat) : Int) := wrapI_succ (by omega)
    refine .sg 3 [0,2,3,4,5,8] (.cdT hc (.sg 6 [0,2,3,4,5,6] ?_))
    refine bndO H fun v hv H => (.into (.to (podestaref01_From_l1_walk q1 s i at_ c_0 c_1 hlt_i r c0 hc0 v ?_ q1 at_ 0 c_0 c_1 hv)))
    exact .sg 2 [0,2,3,4,5] (.kp [0,2,3,4,5] (.into (.cl (ih (i + 1) _ hw (by omega) v.1 v.2.1 v.2.2 H))))

def podestaref01_From_raw (q1 : Nat) (s : ByteArray) : Option (Cube) :=
  (podestaref01_From_l0s q1 s 12 0 0 [0, 0, 0, 0, 0, 0, 0, 0, 0, 0, 0, 0] [0, 0, 0, 0, 0, 0, 0, 0, 0, 0, 0, 0]).bind fun v =>
  some ({ Value := v.1, Care := v.2 } : Cube)
theorem podestaref01_From_walk (q1 : Nat) (s : ByteArray) (r : Cube) (H : podestaref01_From_raw q1 s = some r) : ACalls Try.prog tab.S 66 [.sc (.string s)] [] (Cube.av r) [] := by
  refine .of_AX podestaref01_From_F Try.func66 fun c0 hc0 => ?_
  rw [podestaref01_From_raw] at H
  refine .sg 10 [0,2,3,4,5] ?_
  refine bndO H fun v hv H => (.into (.to (podestaref01_From_l0_walk q1 s r c0 hc0 v ?_ 12 0 _ rfl rfl 0 [0, 0, 0, 0, 0, 0, 0, 0, 0, 0, 0, 0] [0, 0, 0, 0, 0, 0, 0, 0, 0, 0, 0, 0] hv)))
  refine .sg 2 [2] ?_
  obtain rfl := Option.some.inj H
  exact .ret Try.func66 hc0

/-! ### podestaref01.Meet: function 39 -/
noncomputable def podestaref01_Meet_F : Go.Sh.Fn := ⟨39, bodyOf Try.f39, 64⟩
def podestaref01_Meet_l0 (a : Cube) (b : Cube) : Nat → Int → List Int → Option (Sum ((List Int)) (Cube × Bool))
  | 0, _, _ => none
  | m + 1, i, out =>
    (bif (decide (i < ((((textT a).1).size : Nat) : Int))) then
    reqO (decide (0 ≤ i) && decide (i < ((((textT a).1).size : Nat) : Int))) (
    (bif ((byteAt ((textT a).1) i) == 120) then
      reqO (decide (0 ≤ i) && decide (i < ((((textT b).1).size : Nat) : Int))) (
      (ixO out i).bind fun x =>
      podestaref01_Meet_l0 a b m (IntKind.i64.wrap (i + 1)) (out.set i.toNat (byteAt ((textT b).1) i)))
    else
      reqO (decide (0 ≤ i) && decide (i < ((((textT b).1).size : Nat) : Int))) (
      (bif ((byteAt ((textT b).1) i) != 120) then
        reqO (decide (0 ≤ i) && decide (i < ((((textT a).1).size : Nat) : Int))) (
        reqO (decide (0 ≤ i) && decide (i < ((((textT b).1).size : Nat) : Int))) (
        (bif ((byteAt ((textT a).1) i) != (byteAt ((textT b).1) i)) then
          some (.inr (({ Value := [0, 0, 0, 0, 0, 0, 0, 0, 0, 0, 0, 0], Care := [0, 0, 0, 0, 0, 0, 0, 0, 0, 0, 0, 0] } : Cube), false))
        else
          podestaref01_Meet_l0 a b m (IntKind.i64.wrap (i + 1)) out)))
      else
        podestaref01_Meet_l0 a b m (IntKind.i64.wrap (i + 1)) out))))
  else
    some (.inl out))
theorem podestaref01_Meet_l0_walk (q0 : Nat) (a : Cube) (b : Cube)  (r : Cube × Bool) (c0 : Ctx) (hc0 : c0.m.length = 0) (res : Sum ((List Int)) (Cube × Bool)) (J : ∀ w : (List Int), res = .inl w → AX Try.prog tab podestaref01_Meet_F c0 (Rp tab.S c0 (.tup [Cube.av r.1, .sc (.bool r.2)]) []) (some ⟨[.code [1, 1, 1, 1, 1, 1]], [(4, .ptr 2 0 none), (10, .own 3 2000000)], [.box 30 (Cube.ch a), .box 30 (Cube.ch b), .box 30 [.arr .u64 12 [0, 0, 0, 0, 0, 0, 0, 0, 0, 0, 0, 0], .arr .u64 12 [0, 0, 0, 0, 0, 0, 0, 0, 0, 0, 0, 0]], .row 5 (List.map (intA .u8) w) 2000000 true]⟩)) (Jr : ∀ w, res = .inr w → w = r) :
    ∀ (m : Nat) (i : Int) (out : List Int) (H : podestaref01_Meet_l0 a b m i out = some res), AX Try.prog tab podestaref01_Meet_F c0 (Rp tab.S c0 (.tup [Cube.av r.1, .sc (.bool r.2)]) []) (some ⟨[.code [1, 1, 1, 1, 1, 0, 1, 0, 0], .loop [1, 1, 1, 1, 1, 0, 1, 0], .blk 0, .code [1, 1, 1, 1, 1, 1]], [(4, .ptr 2 0 none), (6, .sc (.string ((textT a).1))), (8, .sc (.string ((textT b).1))), (10, .own 3 2000000), (11, .sc (.int .i64 i))], [.box 30 (Cube.ch a), .box 30 (Cube.ch b), .box 30 [.arr .u64 12 [0, 0, 0, 0, 0, 0, 0, 0, 0, 0, 0, 0], .arr .u64 12 [0, 0, 0, 0, 0, 0, 0, 0, 0, 0, 0, 0]], .row 5 (List.map (intA .u8) out) 2000000 true]⟩) := by
  intro m
  induction m with
  | zero => intro i out H; cases H
  | succ m ih =>
    intro i out H
    rw [podestaref01_Meet_l0] at H
    refine .sg 3 [4,6,8,10,11,34] (.cd (decide (i < ((((textT a).1).size : Nat) : Int))) H (fun hb H => ?_) (fun hb H => ?_))
    ·
      refine .sg 4 [4,6,8,10,11] (.rg (.sg 2 [4,6,8,10,11,37,38] (reqH H fun hreq H => (.xs [4,6,8,10,11,39] hreq (.sg 1 [4,6,8,10,11,40] (.dn (.cd ((byteAt ((textT a).1) i) == 120) H (fun hb H => ?_) (fun hb H => ?_))))))))
      ·
        exact .rg (.sg 4 [4,6,8,10,11,41,42,43,44] (reqH H fun hreq H => (.xs [4,6,8,10,11,41,42,45] hreq (bndO H fun x hv_x H => (.xo [4,6,8,10,11,45,46] (ixO_req hv_x (intA .u8)) (.st [4,6,8,10,11] (intA .u8) (byteAt ((textT b).1) i) (ixO_map hv_x (intA .u8)).2 (.dn (.sg 2 [4,6,8,10,11] (.kp [4,6,8,10,11] (.into (.to (ih (IntKind.i64.wrap (i + 1)) (out.set i.toNat (byteAt ((textT b).1) i)) H))))))))))))
      ·
        refine .sg 1 [4,6,8,10,11] (.rg (.sg 2 [4,6,8,10,11,47,48] (reqH H fun hreq H => (.xs [4,6,8,10,11,49] hreq (.sg 2 [4,6,8,10,11,51] (.sp 51 ((byteAt ((textT b).1) i) != 120) H (fun hb H => ?_) (fun hb H => ?_)))))))
        ·
          refine .sg 2 [4,6,8,10,11,51,52,53] (reqH H fun hreq H => (.xs [4,6,8,10,11,51,54] hreq (.sg 2 [4,6,8,10,11,51,54,55,56] (reqH H fun hreq H => (.xs [4,6,8,10,11,51,54,57] hreq (.sg 2 [4,6,8,10,11,59] (.dn (.cd ((byteAt ((textT a).1) i) != (byteAt ((textT b).1) i)) H (fun hb H => ?_) (fun hb H => ?_)))))))))
          ·
            refine .sg 2 [4,5] ?_
            obtain rfl := Option.some.inj H
            obtain rfl := Jr _ rfl
            exact .ret Try.func39 hc0
          ·
            exact .sg 3 [4,6,8,10,11] (.kp [4,6,8,10,11] (.into (.to (ih (IntKind.i64.wrap (i + 1)) out H))))
        ·
          exact .sg 8 [4,6,8,10,11,59] (.dn (.sg 4 [4,6,8,10,11] (.kp [4,6,8,10,11] (.into (.to (ih (IntKind.i64.wrap (i + 1)) out H))))))
    ·
      exact .sg 1 [4,10] (.kp [4,10] (.to (J out (Option.some.inj H).symm)))
def podestaref01_Meet_raw (q0 : Nat) (a : Cube) (b : Cube) : Option (Cube × Bool) :=
  (bif ((!(textT a).2) || (!(textT b).2)) then
    some (({ Value := [0, 0, 0, 0, 0, 0, 0, 0, 0, 0, 0, 0], Care := [0, 0, 0, 0, 0, 0, 0, 0, 0, 0, 0, 0] } : Cube), false)
  else
    fitO (((textT a).1).size) 1 (
    loopO (podestaref01_Meet_l0 a b q0 0 (numsOf ((textT a).1))) fun v =>
    (podestaref01_From_raw 100 (strOfNums v)).bind fun x =>
    some (x, true)))
theorem podestaref01_Meet_walk (q0 : Nat) (a : Cube) (b : Cube) (r : Cube × Bool) (H : podestaref01_Meet_raw q0 a b = some r) : ACalls Try.prog tab.S 39 [Cube.av a, Cube.av b] [] (.tup [Cube.av r.1, .sc (.bool r.2)]) [] := by
  refine .of_AX podestaref01_Meet_F Try.func39 fun c0 hc0 => ?_
  rw [podestaref01_Meet_raw] at H
  refine .sg 3 [2,3,4] (.rg (.sg 1 [3,4,13] (.cp [3,4,14] (podestaref01_Text_ok a) (.sg 5 [3,4,6,7] (.dn (.sg 1 [3,4,6,7] (.rg (.sg 1 [4,6,7,18] (.cp [4,6,7,19] (podestaref01_Text_ok b) (.sg 5 [4,6,7,8,9] (.dn (.sg 2 [4,6,7,8,9] (.rg (.sg 3 [4,6,8,9,24] (.mx 1 [4,6,8,27] (.dn (.cd ((!(textT a).2) || (!(textT b).2)) H (fun hb H => ?_) (fun hb H => ?_))))))))))))))))))
  ·
    refine .sg 2 [4,5] ?_
    obtain rfl := Option.some.inj H
    exact .ret Try.func39 hc0
  ·
    refine .sg 2 [4,6,8] (.rg (.sg 1 [4,6,8,29] (fitH H fun hfit H => (.sb [4,6,8,30] hfit (.sg 1 [4,6,8,10] (.dn (.sg 4 [4,6,8,10,11] ?_)))))))
    rcases loopO_some H with ⟨v, hv, H⟩ | hv
    case inr =>
      exact .into (.to (podestaref01_Meet_l0_walk q0 a b r c0 hc0 (.inr r) (fun _ e => by cases e) (fun _ e => (Sum.inr.inj e).symm) q0 0 (numsOf ((textT a).1)) hv))
    refine .into (.to (podestaref01_Meet_l0_walk q0 a b r c0 hc0 (.inl v) (fun w e => ?_) (fun _ e => by cases e) q0 0 (numsOf ((textT a).1)) hv))
    have e := Sum.inl.inj e
    subst e
    refine .sg 1 [4,10] (.rg (.sg 1 [4,61] (.by_ [4,62] v (bndO H fun x hv H => (.cp [4,63] ((podestaref01_From_walk 100) (strOfNums v) x hv) (.sg 2 [4,5] (.dn ?_)))))))
    obtain rfl := Option.some.inj H
    exact .ret Try.func39 hc0

/-! ### podestaref04.Overlap: function 21 -/
noncomputable def podestaref04_Overlap_F : Go.Sh.Fn := ⟨21, bodyOf Try.f21, 23⟩
def podestaref04_Overlap_raw (a : Rule) (b : Rule) : Option (Bool) :=
  (podestaref01_Meet_raw 1000 a.Match b.Match).bind fun x =>
  some ((a.Prio == b.Prio) && x.2)
theorem podestaref04_Overlap_walk (a : Rule) (b : Rule) (r : Bool) (H : podestaref04_Overlap_raw a b = some r) : ACalls Try.prog tab.S 21 [Rule.av a, Rule.av b] [] (.sc (.bool r)) [] := by
  refine .of_AX podestaref04_Overlap_F Try.func21 fun c0 hc0 => ?_
  rw [podestaref04_Overlap_raw] at H
  refine .sg 3 [2,3] (.rg (.sg 4 [2,3,9,11] (bndO H fun x hv H => (.cp [2,3,12] ((podestaref01_Meet_walk 1000) a.Match b.Match x hv) (.sg 6 [2,3,6] (.dn (.sg 1 [2,3,6] (.rg (.sg 6 [6,20] (.mx 0 [22] (.sg 1 [4] (.dn ?_))))))))))))
  obtain rfl := Option.some.inj H
  exact .ret Try.func21 hc0

end Go.Proofs.Ytlfiemphadkimaa

set_option linter.unusedVariables false
set_option linter.unusedSimpArgs false
set_option maxRecDepth 100000
set_option maxHeartbeats 4000000
namespace Go.Proofs.Ytlfiemphadkimaa
open Go.Sh
/-! ### two texts, sign by sign: do they meet; is one within the other -/
def meetL : List Int → List Int → Bool
  | a :: s, b :: t => (((a == 120) || (b == 120)) || (a == b)) && meetL s t
  | _, _ => true
def withL : List Int → List Int → Bool
  | a :: s, b :: t => ((b == 120) || (a == b)) && withL s t
  | _, _ => true
theorem meetL_append : ∀ (a b c d : List Int), a.length = b.length → meetL (a ++ c) (b ++ d) = (meetL a b && meetL c d)
  | [], [], c, d, _ => by rw [List.nil_append, List.nil_append]; show meetL c d = (true && meetL c d); rw [Bool.true_and]
  | [], _ :: _, _, _, h => by cases h
  | _ :: _, [], _, _, h => by cases h
  | x :: a, y :: b, c, d, h => by rw [List.cons_append, List.cons_append, meetL, meetL, meetL_append a b c d (by simpa using h), Bool.and_assoc]
theorem withL_append : ∀ (a b c d : List Int), a.length = b.length → withL (a ++ c) (b ++ d) = (withL a b && withL c d)
  | [], [], c, d, _ => by rw [List.nil_append, List.nil_append]; show withL c d = (true && withL c d); rw [Bool.true_and]
  | [], _ :: _, _, _, h => by cases h
  | _ :: _, [], _, _, h => by cases h
  | x :: a, y :: b, c, d, h => by rw [List.cons_append, List.cons_append, withL, withL, withL_append a b c d (by simpa using h), Bool.and_assoc]
def bitsMeet : List Bool → List Bool → List Bool → List Bool → Bool
  | va :: vs, ca :: cs, vb :: ws, cb :: ds => (((!ca) || (!cb)) || (va == vb)) && bitsMeet vs cs ws ds
  | _, _, _, _ => true
def bitsWith : List Bool → List Bool → List Bool → List Bool → Bool
  | va :: vs, ca :: cs, vb :: ws, cb :: ds => ((!cb) || (ca && (va == vb))) && bitsWith vs cs ws ds
  | _, _, _, _ => true
theorem meetL_bits (v c w d : Int) : ∀ n, meetL (List.zipWith chrB (bitsL v n) (bitsL c n)) (List.zipWith chrB (bitsL w n) (bitsL d n)) = bitsMeet (bitsL v n) (bitsL c n) (bitsL w n) (bitsL d n)
  | 0 => rfl
  | n + 1 => by
    rw [bitsL, bitsL, bitsL, bitsL, List.zipWith_cons_cons, List.zipWith_cons_cons, meetL, bitsMeet, meetL_bits v c w d n]
    cases bitE v n <;> cases bitE c n <;> cases bitE w n <;> cases bitE d n <;> rfl
theorem withL_bits (v c w d : Int) : ∀ n, withL (List.zipWith chrB (bitsL v n) (bitsL c n)) (List.zipWith chrB (bitsL w n) (bitsL d n)) = bitsWith (bitsL v n) (bitsL c n) (bitsL w n) (bitsL d n)
  | 0 => rfl
  | n + 1 => by
    rw [bitsL, bitsL, bitsL, bitsL, List.zipWith_cons_cons, List.zipWith_cons_cons, withL, bitsWith, withL_bits v c w d n]
    cases bitE v n <;> cases bitE c n <;> cases bitE w n <;> cases bitE d n <;> rfl
theorem bitsMeet_iff (v c w d : Int) : ∀ n : Nat, bitsMeet (bitsL v n) (bitsL c n) (bitsL w n) (bitsL d n) = true ↔ ∀ k : Nat, k < n → bitE c (k : Int) = true → bitE d (k : Int) = true → bitE v (k : Int) = bitE w (k : Int)
  | 0 => by simp [bitsL, bitsMeet]
  | n + 1 => by
    rw [bitsL, bitsL, bitsL, bitsL, bitsMeet, Bool.and_eq_true, bitsMeet_iff v c w d n]
    constructor
    · rintro ⟨h1, h2⟩ k hk hc hd
      rcases Nat.lt_or_ge k n with q | q
      · exact h2 k q hc hd
      · have : k = n := by omega
        subst this
        rw [hc, hd] at h1
        simpa using h1
    · intro hh
      refine ⟨?_, fun k hk => hh k (by omega)⟩
      cases hc : bitE c (n : Int)
      · rfl
      · cases hd : bitE d (n : Int)
        · rfl
        · rw [hh n (by omega) hc hd]; simp
theorem bitsWith_iff (v c w d : Int) : ∀ n : Nat, bitsWith (bitsL v n) (bitsL c n) (bitsL w n) (bitsL d n) = true ↔ ∀ k : Nat, k < n → bitE d (k : Int) = true → bitE c (k : Int) = true ∧ bitE v (k : Int) = bitE w (k : Int)
  | 0 => by simp [bitsL, bitsWith]
  | n + 1 => by
    rw [bitsL, bitsL, bitsL, bitsL, bitsWith, Bool.and_eq_true, bitsWith_iff v c w d n]
    constructor
    · rintro ⟨h1, h2⟩ k hk hd
      rcases Nat.lt_or_ge k n with q | q
      · exact h2 k q hd
      · have : k = n := by omega
        subst this
        rw [hd] at h1
        simpa using h1
    · intro hh
      refine ⟨?_, fun k hk => hh k (by omega)⟩
      cases hd : bitE d (n : Int)
      · rfl
      · obtain ⟨h1, h2⟩ := hh n (by omega) hd
        rw [h1, h2]; simp
def meetF (a b : Cube) : Nat → Nat → Bool
  | 0, _ => true
  | r + 1, i => bitsMeet (bitsL (a.Value.getD i 0) (sizeN i)) (bitsL (a.Care.getD i 0) (sizeN i)) (bitsL (b.Value.getD i 0) (sizeN i)) (bitsL (b.Care.getD i 0) (sizeN i)) && meetF a b r (i + 1)
def withF (a b : Cube) : Nat → Nat → Bool
  | 0, _ => true
  | r + 1, i => bitsWith (bitsL (a.Value.getD i 0) (sizeN i)) (bitsL (a.Care.getD i 0) (sizeN i)) (bitsL (b.Value.getD i 0) (sizeN i)) (bitsL (b.Care.getD i 0) (sizeN i)) && withF a b r (i + 1)
theorem meetL_fields (a b : Cube) : ∀ (r i : Nat), meetL (textS a r i) (textS b r i) = meetF a b r i
  | 0, _ => rfl
  | r + 1, i => by rw [textS, textS, meetF, meetL_append _ _ _ _ (by rw [List.length_zipWith, List.length_zipWith, bitsL_len, bitsL_len, bitsL_len, bitsL_len]), meetL_bits, meetL_fields a b r (i + 1)]
theorem withL_fields (a b : Cube) : ∀ (r i : Nat), withL (textS a r i) (textS b r i) = withF a b r i
  | 0, _ => rfl
  | r + 1, i => by rw [textS, textS, withF, withL_append _ _ _ _ (by rw [List.length_zipWith, List.length_zipWith, bitsL_len, bitsL_len, bitsL_len, bitsL_len]), withL_bits, withL_fields a b r (i + 1)]
theorem field_meet {v c w d n : Nat} (hv : v < 18446744073709551616) (hc : c < 18446744073709551616) (hw : w < 18446744073709551616) (hd : d < 18446744073709551616) (hn : n ≤ 64) (hcn : c < 2 ^ n) :
    bitsMeet (bitsL (v : Int) n) (bitsL (c : Int) n) (bitsL (w : Int) n) (bitsL (d : Int) n) = decide ((v ^^^ w) &&& c &&& d = 0) := by
  rw [Bool.eq_iff_iff, bitsMeet_iff, decide_eq_true_eq]
  have hcb : ∀ k, n ≤ k → c.testBit k = false := fun k hk => Nat.testBit_lt_two_pow (Nat.lt_of_lt_of_le hcn (Nat.pow_le_pow_right (by decide) hk))
  constructor
  · intro hb
    apply Nat.eq_of_testBit_eq
    intro k
    rw [Nat.testBit_and, Nat.testBit_and, Nat.testBit_xor, Nat.zero_testBit]
    rcases Nat.lt_or_ge k n with q | q
    · have := hb k q
      rw [bitE_nat hc (by omega), bitE_nat hd (by omega), bitE_nat hv (by omega), bitE_nat hw (by omega)] at this
      cases h1 : c.testBit k
      · simp
      · cases h2 : d.testBit k
        · simp
        · rw [this h1 h2]; simp
    · rw [hcb k q]; simp
  · intro e k hk h1 h2
    rw [bitE_nat hc (by omega)] at h1
    rw [bitE_nat hd (by omega)] at h2
    rw [bitE_nat hv (by omega), bitE_nat hw (by omega)]
    have := congrArg (fun x => x.testBit k) e
    simp only [Nat.testBit_and, Nat.testBit_xor, Nat.zero_testBit, h1, h2, Bool.and_true] at this
    cases hx : v.testBit k <;> cases hy : w.testBit k <;> simp_all
theorem field_with {v c w d n : Nat} (hv : v < 18446744073709551616) (hc : c < 18446744073709551616) (hw : w < 18446744073709551616) (hd : d < 18446744073709551616) (hn : n ≤ 64) (hcn : c < 2 ^ n) (hdn : d < 2 ^ n) (hvc : ∀ k, v.testBit k = true → c.testBit k = true) (hwd : ∀ k, w.testBit k = true → d.testBit k = true) :
    bitsWith (bitsL (v : Int) n) (bitsL (c : Int) n) (bitsL (w : Int) n) (bitsL (d : Int) n) = (decide ((v ^^^ w) &&& c &&& d = 0) && decide (c ||| d = c) && decide (v ||| w = v)) := by
  rw [Bool.eq_iff_iff, bitsWith_iff, Bool.and_eq_true, Bool.and_eq_true, decide_eq_true_eq, decide_eq_true_eq, decide_eq_true_eq]
  have hdb : ∀ k, n ≤ k → d.testBit k = false := fun k hk => Nat.testBit_lt_two_pow (Nat.lt_of_lt_of_le hdn (Nat.pow_le_pow_right (by decide) hk))
  constructor
  · intro hb
    have key : ∀ k, d.testBit k = true → c.testBit k = true ∧ v.testBit k = w.testBit k := by
      intro k h1
      rcases Nat.lt_or_ge k n with q | q
      · have := hb k q
        rw [bitE_nat hc (by omega), bitE_nat hd (by omega), bitE_nat hv (by omega), bitE_nat hw (by omega)] at this
        exact this h1
      · rw [hdb k q] at h1; cases h1
    refine ⟨⟨?_, ?_⟩, ?_⟩
    · apply Nat.eq_of_testBit_eq
      intro k
      rw [Nat.testBit_and, Nat.testBit_and, Nat.testBit_xor, Nat.zero_testBit]
      cases h2 : d.testBit k
      · simp
      · rw [(key k h2).2]; simp
    · apply Nat.eq_of_testBit_eq
      intro k
      rw [Nat.testBit_or]
      cases h2 : d.testBit k
      · simp
      · rw [(key k h2).1]; simp
    · apply Nat.eq_of_testBit_eq
      intro k
      rw [Nat.testBit_or]
      cases h2 : w.testBit k
      · simp
      · rw [(key k (hwd k h2)).2, h2]; simp
  · rintro ⟨⟨e1, e2⟩, e3⟩ k hk h2
    rw [bitE_nat hd (by omega)] at h2
    rw [bitE_nat hc (by omega), bitE_nat hv (by omega), bitE_nat hw (by omega)]
    have h3 : c.testBit k = true := by
      have := congrArg (fun x => x.testBit k) e2
      simp only [Nat.testBit_or, h2, Bool.or_true] at this
      exact this.symm
    refine ⟨h3, ?_⟩
    have := congrArg (fun x => x.testBit k) e1
    simp only [Nat.testBit_and, Nat.testBit_xor, Nat.zero_testBit, h2, h3, Bool.and_true] at this
    cases hx : v.testBit k <;> cases hy : w.testBit k <;> simp_all

/-! ### cube.Meet -/
def clashE (v w c d : Int) : Bool := ((IntKind.u64.wrap ((BitVec.ofInt 64 (IntKind.u64.wrap ((BitVec.ofInt 64 (IntKind.u64.wrap ((BitVec.ofInt 64 v ^^^ BitVec.ofInt 64 w).toNat)) &&& BitVec.ofInt 64 c).toNat)) &&& BitVec.ofInt 64 d).toNat)) != 0)
def orE (v w : Int) : Int := IntKind.u64.wrap ((BitVec.ofInt 64 v ||| BitVec.ofInt 64 w).toNat)
def clashF (a b : Cube) : Nat → Nat → Bool
  | 0, _ => false
  | r + 1, i => clashE (a.Value.getD i 0) (b.Value.getD i 0) (a.Care.getD i 0) (b.Care.getD i 0) || clashF a b r (i + 1)
def orA (b : List Int) : Nat → Nat → List Int → List Int
  | 0, _, x => x
  | r + 1, i, x => orA b r (i + 1) (x.set i (orE (x.getD i 0) (b.getD i 0)))
theorem getD_set_ne {x : List Int} {i j : Nat} (v : Int) (h : i ≠ j) : (x.set i v).getD j 0 = x.getD j 0 := by
  rw [List.getD_eq_getElem?_getD, List.getD_eq_getElem?_getD, List.getElem?_set_ne h]
theorem cube_Meet_l0s_eq (a b : Cube) : ∀ (r i : Nat) (x y : List Int), (∀ j, i ≤ j → x.getD j 0 = a.Value.getD j 0) → (∀ j, i ≤ j → y.getD j 0 = a.Care.getD j 0) →
    cube_Meet_l0s b r i x y = if clashF a b r i then .inr (({ Value := [0, 0, 0, 0, 0, 0, 0, 0, 0, 0, 0, 0], Care := [0, 0, 0, 0, 0, 0, 0, 0, 0, 0, 0, 0] } : Cube), false) else .inl (orA b.Value r i x, orA b.Care r i y)
  | 0, i, x, y, _, _ => rfl
  | r + 1, i, x, y, hx, hy => by
      rw [cube_Meet_l0s, clashF, orA, orA]
      show (bif clashE (x.getD i 0) (b.Value.getD i 0) (y.getD i 0) (b.Care.getD i 0) then _ else _) = _
      rw [hx i (Nat.le_refl _), hy i (Nat.le_refl _)]
      cases hc : clashE (a.Value.getD i 0) (b.Value.getD i 0) (a.Care.getD i 0) (b.Care.getD i 0) with
      | true => rfl
      | false =>
        rw [cond_false, Bool.false_or]
        refine cube_Meet_l0s_eq a b r (i + 1) _ _ (fun j hj => ?_) (fun j hj => ?_)
        · rw [getD_set_ne _ (by omega)]
          exact hx j (by omega)
        · rw [getD_set_ne _ (by omega)]
          exact hy j (by omega)
theorem cube_Meet_eq (a b : Cube) : cube_Meet a b = if cube_both a b && !clashF a b 12 0 then (⟨orA b.Value 12 0 a.Value, orA b.Care 12 0 a.Care⟩, true) else (⟨[0, 0, 0, 0, 0, 0, 0, 0, 0, 0, 0, 0], [0, 0, 0, 0, 0, 0, 0, 0, 0, 0, 0, 0]⟩, false) := by
  rw [cube_Meet, cube_Meet_l0s_eq a b 12 0 _ _ (fun _ _ => rfl) (fun _ _ => rfl)]
  cases cube_both a b with
  | false => rfl
  | true => cases clashF a b 12 0 <;> rfl
theorem clashE_nat {v w c d : Nat} (hv : v < 18446744073709551616) (hw : w < 18446744073709551616) (hc : c < 18446744073709551616) (hd : d < 18446744073709551616) : clashE (v : Int) (w : Int) (c : Int) (d : Int) = !decide ((v ^^^ w) &&& c &&& d = 0) := by
  have h1 : v ^^^ w < 18446744073709551616 := Nat.xor_lt_two_pow (n := 64) hv hw
  have h2 : (v ^^^ w) &&& c < 18446744073709551616 := Nat.lt_of_le_of_lt Nat.and_le_left h1
  have h3 : (v ^^^ w) &&& c &&& d < 18446744073709551616 := Nat.lt_of_le_of_lt Nat.and_le_left h2
  have e1 : (BitVec.ofInt 64 (v : Int) ^^^ BitVec.ofInt 64 (w : Int)).toNat = v ^^^ w := by rw [BitVec.toNat_xor, ofInt_nat hv, ofInt_nat hw]
  have e2 : (BitVec.ofInt 64 ((v ^^^ w : Nat) : Int) &&& BitVec.ofInt 64 (c : Int)).toNat = (v ^^^ w) &&& c := by rw [BitVec.toNat_and, ofInt_nat h1, ofInt_nat hc]
  have e3 : (BitVec.ofInt 64 (((v ^^^ w) &&& c : Nat) : Int) &&& BitVec.ofInt 64 (d : Int)).toNat = (v ^^^ w) &&& c &&& d := by rw [BitVec.toNat_and, ofInt_nat h2, ofInt_nat hd]
  unfold clashE
  rw [e1, wrapU_nat h1, e2, wrapU_nat h2, e3, wrapU_nat h3, Bool.eq_iff_iff, bne_iff_ne, Bool.not_eq_true', decide_eq_false_iff_not]
  omega
theorem orE_nat {v w : Nat} (hv : v < 18446744073709551616) (hw : w < 18446744073709551616) : orE (v : Int) (w : Int) = ((v ||| w : Nat) : Int) := by
  unfold orE
  rw [BitVec.toNat_or, ofInt_nat hv, ofInt_nat hw, wrapU_nat (Nat.or_lt_two_pow (n := 64) hv hw)]
/-- what soundness says of each field -/
structure SoundF (c : Cube) : Prop where
  wf : Cube.wf c
  bad : ∀ j, j < 12 → badAt c j = false
  fit : ∀ j : Nat, j < 12 → fitsT ((j : Nat) : Int) (c.Care.getD j 0) = true
theorem soundF {c : Cube} (w : Cube.wf c) (h : (textT c).2 = true) : SoundF c := by
  obtain ⟨h1, h2⟩ := textOk_parts c 12 0 _ h
  rw [refHead_eq] at h1
  unfold HeadOk at h1
  rw [List.all_eq_true] at h1
  exact ⟨w, fun j hj => h2 j (Nat.zero_le _) (by omega), fun j hj => h1 j (by rw [List.mem_range'_1]; omega)⟩
theorem meetF_eq {a b : Cube} (ha : SoundF a) (hb : SoundF b) : ∀ (r i : Nat), i + r = 12 → meetF a b r i = !clashF a b r i
  | 0, _, _ => rfl
  | r + 1, i, e => by
      obtain ⟨v, ev, hv⟩ := u64_range ha.wf.1 i
      obtain ⟨c, ec, hc⟩ := u64_range ha.wf.2 i
      obtain ⟨w, ew, hw⟩ := u64_range hb.wf.1 i
      obtain ⟨d, ed, hd⟩ := u64_range hb.wf.2 i
      rw [meetF, clashF, meetF_eq ha hb r (i + 1) (by omega), Bool.not_or]
      congr 1
      have hcn := care_lt ec (ha.fit i (by omega))
      rw [ev, ec, ew, ed, field_meet hv hc hw hd (sizeN_le i) hcn, clashE_nat hv hw hc hd, Bool.not_not]
theorem clashF_comm {a b : Cube} (wa : Cube.wf a) (wb : Cube.wf b) : ∀ (r i : Nat), clashF a b r i = clashF b a r i
  | 0, _ => rfl
  | r + 1, i => by
      obtain ⟨v, ev, hv⟩ := u64_range wa.1 i
      obtain ⟨c, ec, hc⟩ := u64_range wa.2 i
      obtain ⟨w, ew, hw⟩ := u64_range wb.1 i
      obtain ⟨d, ed, hd⟩ := u64_range wb.2 i
      rw [clashF, clashF, clashF_comm wa wb r (i + 1), ev, ec, ew, ed, clashE_nat hv hw hc hd, clashE_nat hw hv hd hc, Nat.xor_comm, Nat.and_assoc, Nat.and_comm c d, ← Nat.and_assoc]
/-! ### the reference's Meet -/
def totS : Nat → Nat → Nat
  | 0, _ => 0
  | r + 1, i => sizeN i + totS r (i + 1)
theorem textS_tot (c : Cube) : ∀ (r i : Nat), (textS c r i).length = totS r i
  | 0, _ => rfl
  | r + 1, i => by rw [textS, totS, List.length_append, List.length_zipWith, bitsL_len, bitsL_len, textS_tot c r (i + 1), Nat.min_self]
theorem totS_le : ∀ (r i : Nat), totS r i ≤ r * 64
  | 0, _ => Nat.le_refl _
  | r + 1, i => by
      have := totS_le r (i + 1)
      have := sizeN_le i
      rw [totS]
      omega
theorem from_l1 (s : ByteArray) (hs : s.size ≤ 100000) (i : Nat) : ∀ (n m k at_ : Nat) (x y : List Int), at_ + n ≤ s.size → ((k + n : Nat) : Int) = sizeT ((i : Nat) : Int) → n < m → ∃ x' y', podestaref01_From_l1 s i m ((at_ : Nat) : Int) ((k : Nat) : Int) x y = some (((at_ + n : Nat) : Int), x', y')
  | 0, m + 1, k, at_, x, y, h1, h2, h3 => by
      refine ⟨x, y, ?_⟩
      rw [podestaref01_From_l1, decide_eq_false (by omega)]
      rfl
  | n + 1, m + 1, k, at_, x, y, h1, h2, h3 => by
      have hz := sizeT_in ((i : Nat) : Int)
      have hr : (decide (0 ≤ ((at_ : Nat) : Int)) && decide (((at_ : Nat) : Int) < ((s.size : Nat) : Int))) = true := by rw [decide_eq_true (by omega), decide_eq_true (by omega)]; rfl
      rw [podestaref01_From_l1, decide_eq_true (by omega), cond_true, reqO_eq hr, wrap_succ (by omega), wrap_succ (by omega), show at_ + (n + 1) = (at_ + 1) + n by omega]
      rw [reqO_eq hr, reqO_eq hr]
      cases byteAt s ((at_ : Nat) : Int) != 120 <;> cases byteAt s ((at_ : Nat) : Int) == 49 <;> exact from_l1 s hs i n m (k + 1) (at_ + 1) _ _ (by omega) (by omega) (by omega)
theorem from_l0 (s : ByteArray) (hs : s.size ≤ 100000) : ∀ (r i at_ : Nat) (x y : List Int), at_ + totS r i ≤ s.size → ∃ z, podestaref01_From_l0s 100 s r i ((at_ : Nat) : Int) x y = some z
  | 0, i, at_, x, y, h => ⟨_, rfl⟩
  | r + 1, i, at_, x, y, h => by
      have hz := sizeT_in ((i : Nat) : Int)
      have hn := sizeN_le i
      rw [totS] at h
      obtain ⟨x', y', e⟩ := from_l1 s hs i (sizeN i) 100 0 at_ x y (by omega) (by unfold sizeN; omega) (by omega)
      rw [podestaref01_From_l0s, zero_nat, e, Option.bind_some]
      exact from_l0 s hs r (i + 1) (at_ + sizeN i) x' y' (by omega)
theorem from_some (s : ByteArray) (hs : s.size = totS 12 0) : ∃ c, podestaref01_From_raw 100 s = some c := by
  have hl := totS_le 12 0
  obtain ⟨z, e⟩ := from_l0 s (by omega) 12 0 0 [0, 0, 0, 0, 0, 0, 0, 0, 0, 0, 0, 0] [0, 0, 0, 0, 0, 0, 0, 0, 0, 0, 0, 0] (by omega)
  refine ⟨⟨z.1, z.2⟩, ?_⟩
  rw [← zero_nat] at e
  rw [podestaref01_From_raw, e]
  rfl
theorem nums_size (L : List Int) : (strOfNums L).size = L.length := by simp [strOfNums, ByteArray.size]
theorem ref_Meet_l0 (a b : Cube) : ∀ (m i : Nat) (out : List Int), i ≤ totS 12 0 → totS 12 0 - i < m → out.length = totS 12 0 →
    ∃ out', out'.length = totS 12 0 ∧ podestaref01_Meet_l0 a b m ((i : Nat) : Int) out = some (if meetL ((textS a 12 0).drop i) ((textS b 12 0).drop i) then .inl out' else .inr (({ Value := [0, 0, 0, 0, 0, 0, 0, 0, 0, 0, 0, 0], Care := [0, 0, 0, 0, 0, 0, 0, 0, 0, 0, 0, 0] } : Cube), false))
  | 0, i, out, _, hm, _ => absurd hm (by omega)
  | m + 1, i, out, hi, hm, ho => by
      have hl := totS_le 12 0
      have la := textS_tot a 12 0
      have lb := textS_tot b 12 0
      have e1 : (textT a).1 = strOfNums (textS a 12 0) := rfl
      have e2 : (textT b).1 = strOfNums (textS b 12 0) := rfl
      rw [podestaref01_Meet_l0, e1, e2, nums_size, nums_size]
      by_cases hlt : i < totS 12 0
      · have ha : i < (textS a 12 0).length := by omega
        have hb : i < (textS b 12 0).length := by omega
        rw [decide_eq_true (by omega), cond_true, byteAt_nums _ (text_bytes a 12 0) ha, byteAt_nums _ (text_bytes b 12 0) hb, wrap_succ (by omega), List.drop_eq_getElem_cons ha, List.drop_eq_getElem_cons hb, meetL]
        have r1 : (decide (0 ≤ (i : Int)) && true) = true := by rw [decide_eq_true (by omega)]; rfl
        have r2 : (decide (0 ≤ (i : Int)) && decide ((i : Int) < (((textS b 12 0).length : Nat) : Int))) = true := by rw [decide_eq_true (by omega), decide_eq_true (by omega)]; rfl
        have ih := fun out h => ref_Meet_l0 a b m (i + 1) out (by omega) (by omega) h
        rw [reqO_eq r1, reqO_eq r2, ixO_lt (by omega : i < out.length), Option.bind_some, Int.toNat_natCast]
        cases h1 : (textS a 12 0)[i] == 120 with
        | true => exact ih _ (by rw [List.length_set]; exact ho)
        | false =>
          rw [cond_false, reqO_eq r2, bne, bne]
          cases h2 : (textS b 12 0)[i] == 120 with
          | true => exact ih _ ho
          | false =>
            rw [Bool.not_false, cond_true, reqO_eq r1, reqO_eq r2]
            cases h3 : (textS a 12 0)[i] == (textS b 12 0)[i] with
            | true => exact ih _ ho
            | false => exact ⟨out, ho, rfl⟩
      · refine ⟨out, ho, ?_⟩
        rw [decide_eq_false (by omega), cond_false, List.drop_eq_nil_of_le (by omega), List.drop_eq_nil_of_le (by omega)]
        rfl
theorem both_eq {a b : Cube} (wa : Cube.wf a) (wb : Cube.wf b) : cube_both a b = ((textT a).2 && (textT b).2) := by
  rw [cube_both, cube_Sound_eq wa, cube_Sound_eq wb]
  rfl
theorem ref_Meet_eq {a b : Cube} (wa : Cube.wf a) (wb : Cube.wf b) : ∃ c, podestaref01_Meet_raw 1000 a b = some (c, (cube_Meet a b).2) := by
  rw [podestaref01_Meet_raw, cube_Meet_eq, both_eq wa wb]
  have hl := totS_le 12 0
  cases ha : (textT a).2 with
  | false => exact ⟨_, rfl⟩
  | true =>
    cases hb : (textT b).2 with
    | false => exact ⟨_, rfl⟩
    | true =>
      have la := textS_tot a 12 0
      have hm := meetF_eq (soundF wa ha) (soundF wb hb) 12 0 rfl
      have e1 : (textT a).1 = strOfNums (textS a 12 0) := rfl
      obtain ⟨out, h1, h2⟩ := ref_Meet_l0 a b 1000 0 (numsOf (textT a).1) (by omega) (by omega) (by rw [e1, numsOf_length, nums_size, la])
      rw [List.drop_zero, List.drop_zero, meetL_fields, hm] at h2
      rw [Bool.not_true, Bool.or_false, cond_false, fitO_eq (by rw [e1, nums_size, la]; omega), zero_nat, h2]
      cases clashF a b 12 0 with
      | true => exact ⟨_, rfl⟩
      | false =>
        obtain ⟨c, hc⟩ := from_some (strOfNums out) (by rw [nums_size, h1])
        refine ⟨c, ?_⟩
        show (podestaref01_From_raw 100 (strOfNums out)).bind _ = _
        rw [hc]
        rfl
theorem Overlap_eq {a b : Rule} (wa : Rule.wf a) (wb : Rule.wf b) : podestaref04_Overlap_raw a b = some (rule_Overlap a b) := by
  obtain ⟨c, h⟩ := ref_Meet_eq wa.1 wb.1
  rw [podestaref04_Overlap_raw, h, rule_Overlap, Bool.and_comm]
  rfl
theorem Overlap_comm {a b : Rule} (wa : Rule.wf a) (wb : Rule.wf b) : rule_Overlap a b = rule_Overlap b a := by
  rw [rule_Overlap, rule_Overlap, cube_Meet_eq, cube_Meet_eq, both_eq wa.1 wb.1, both_eq wb.1 wa.1, clashF_comm wa.1 wb.1, Bool.and_comm (textT b.Match).2]
  congr 1
  · split <;> rfl
  · rw [Bool.eq_iff_iff, beq_iff_eq, beq_iff_eq]
    exact eq_comm

end Go.Proofs.Ytlfiemphadkimaa

set_option linter.unusedVariables false
set_option linter.unusedSimpArgs false
set_option maxRecDepth 100000
set_option maxHeartbeats 4000000
namespace Go.Proofs.Ytlfiemphadkimaa
open Go.Sh
/-! ### podestaref04.Mod: function 19 -/
noncomputable def podestaref04_Mod_F : Go.Sh.Fn := ⟨19, bodyOf Try.f19, 91⟩
def podestaref04_Mod (m1 : Mod) : Bool :=
  (bif ((((((((decide (m1.Kind < 1)) || (decide (m1.Kind > 5))) || (!(podestaref01_Cube m1.Match))) || (!(podestaref04_Acts m1.Acts))) || (!(podestaref04_span m1.Prio 65535))) || (!(podestaref04_span m1.Owner 255))) || (!(podestaref04_span m1.Idle 1048576))) || (!(podestaref04_span m1.Hard 1048576))) then
    false
  else
    (bif ((m1.Kind != 1) && (((m1.Idle != 0) || (m1.Hard != 0)) || m1.Check)) then
      false
    else
      (bif (((m1.Kind == 2) || (m1.Kind == 3)) && (m1.Prio != 0)) then
        false
      else
        (((m1.Kind != 3) && (m1.Kind != 5)) || ((((List.map Act.av m1.Acts).length : Nat) : Int) == 0)))))
theorem podestaref04_Mod_calls (m1 : Mod) : ACalls Try.prog tab.S 19 [Mod.av m1] [] (.sc (.bool (podestaref04_Mod m1))) [] := by
  generalize H : podestaref04_Mod m1 = r
  refine .of_AX podestaref04_Mod_F Try.func19 fun c0 hc0 => ?_
  rw [podestaref04_Mod] at H
  refine .sg 4 [1] (.rg (.sg 4 [1,6] (.mx 1 [1,10] (.sg 1 [1,11] (.mm 11 ((decide (m1.Kind < 1)) || (decide (m1.Kind > 5))) 5 [.pure, .pure, .pure, .read, .pure] [1, 16] 16 (fun z => .sc (.bool (z || (!(podestaref01_Cube m1.Match))))) ?J2 (fun hb J => ?ht2) (fun hb J => ?hf2))))))
  case ht2 =>
    exact .sg 5 [1,16] (.cl J)
  case hf2 =>
    exact .sg 2 [1,11,13] (.cp [1,11,14] (podestaref01_Cube_calls m1.Match) (.sg 2 [1,16] (.cl J)))
  refine .sg 1 [1,17] (.mm 17 (((decide (m1.Kind < 1)) || (decide (m1.Kind > 5))) || (!(podestaref01_Cube m1.Match))) 5 [.pure, .pure, .pure, .read, .pure] [1, 22] 22 (fun z => .sc (.bool (z || (!(podestaref04_Acts m1.Acts))))) ?J3 (fun hb J => ?ht3) (fun hb J => ?hf3))
  case ht3 =>
    exact .sg 5 [1,22] (.cl J)
  case hf3 =>
    exact .sg 2 [1,17,19] (.cp [1,17,20] (podestaref04_Acts_calls m1.Acts false) (.sg 2 [1,22] (.cl J)))
  refine .sg 1 [1,23] (.mm 23 ((((decide (m1.Kind < 1)) || (decide (m1.Kind > 5))) || (!(podestaref01_Cube m1.Match))) || (!(podestaref04_Acts m1.Acts))) 5 [.pure, .pure, .pure, .read, .pure] [1, 28] 28 (fun z => .sc (.bool (z || (!(podestaref04_span m1.Prio 65535))))) ?J4 (fun hb J => ?ht4) (fun hb J => ?hf4))
  case ht4 =>
    exact .sg 5 [1,28] (.cl J)
  case hf4 =>
    exact .sg 2 [1,23,25] (.cp [1,23,26] (podestaref04_span_calls m1.Prio 65535) (.sg 2 [1,28] (.cl J)))
  refine .sg 1 [1,29] (.mm 29 (((((decide (m1.Kind < 1)) || (decide (m1.Kind > 5))) || (!(podestaref01_Cube m1.Match))) || (!(podestaref04_Acts m1.Acts))) || (!(podestaref04_span m1.Prio 65535))) 5 [.pure, .pure, .pure, .read, .pure] [1, 34] 34 (fun z => .sc (.bool (z || (!(podestaref04_span m1.Owner 255))))) ?J5 (fun hb J => ?ht5) (fun hb J => ?hf5))
  case ht5 =>
    exact .sg 5 [1,34] (.cl J)
  case hf5 =>
    exact .sg 2 [1,29,31] (.cp [1,29,32] (podestaref04_span_calls m1.Owner 255) (.sg 2 [1,34] (.cl J)))
  refine .sg 1 [1,35] (.mm 35 ((((((decide (m1.Kind < 1)) || (decide (m1.Kind > 5))) || (!(podestaref01_Cube m1.Match))) || (!(podestaref04_Acts m1.Acts))) || (!(podestaref04_span m1.Prio 65535))) || (!(podestaref04_span m1.Owner 255))) 5 [.pure, .pure, .pure, .read, .pure] [1, 40] 40 (fun z => .sc (.bool (z || (!(podestaref04_span m1.Idle 1048576))))) ?J6 (fun hb J => ?ht6) (fun hb J => ?hf6))
  case ht6 =>
    exact .sg 5 [1,40] (.cl J)
  case hf6 =>
    exact .sg 2 [1,35,37] (.cp [1,35,38] (podestaref04_span_calls m1.Idle 1048576) (.sg 2 [1,40] (.cl J)))
  refine .sg 1 [1,41] (.mm 41 (((((((decide (m1.Kind < 1)) || (decide (m1.Kind > 5))) || (!(podestaref01_Cube m1.Match))) || (!(podestaref04_Acts m1.Acts))) || (!(podestaref04_span m1.Prio 65535))) || (!(podestaref04_span m1.Owner 255))) || (!(podestaref04_span m1.Idle 1048576))) 5 [.pure, .pure, .pure, .read, .pure] [1, 46] 46 (fun z => .sc (.bool (z || (!(podestaref04_span m1.Hard 1048576))))) ?J7 (fun hb J => ?ht7) (fun hb J => ?hf7))
  case ht7 =>
    exact .sg 5 [1,46] (.cl J)
  case hf7 =>
    exact .sg 2 [1,41,43] (.cp [1,41,44] (podestaref04_span_calls m1.Hard 1048576) (.sg 2 [1,46] (.cl J)))
  refine .dn (.cd ((((((((decide (m1.Kind < 1)) || (decide (m1.Kind > 5))) || (!(podestaref01_Cube m1.Match))) || (!(podestaref04_Acts m1.Acts))) || (!(podestaref04_span m1.Prio 65535))) || (!(podestaref04_span m1.Owner 255))) || (!(podestaref04_span m1.Idle 1048576))) || (!(podestaref04_span m1.Hard 1048576))) H (fun hb H => ?_) (fun hb H => ?_))
  ·
    refine .sg 2 [2] ?_
    subst H
    exact .ret Try.func19 hc0
  ·
    refine .sg 3 [1] (.rg (.sg 4 [1,50] (.mm 50 (m1.Kind != 1) 13 [.pure, .pure, .read, .pure, .pure, .pure, .pure, .read, .pure, .pure, .pure, .read, .pure] [1, 63] 63 (fun z => .sc (.bool (z && (((m1.Idle != 0) || (m1.Hard != 0)) || m1.Check)))) ?J10 (fun hb J => ?ht10) (fun hb J => ?hf10))))
    case ht10 =>
      exact .sg 4 [1,50,54] (.mx 1 [1,50,58] (.sg 1 [1,50,59] (.mx 1 [1,50,62] (.sg 1 [1,63] (.cl J)))))
    case hf10 =>
      exact .sg 13 [1,63] (.cl J)
    refine .dn (.cd ((m1.Kind != 1) && (((m1.Idle != 0) || (m1.Hard != 0)) || m1.Check)) H (fun hb H => ?_) (fun hb H => ?_))
    ·
      refine .sg 2 [2] ?_
      subst H
      exact .ret Try.func19 hc0
    ·
      refine .sg 3 [1] (.rg (.sg 4 [1,67] (.mx 1 [1,71] (.sg 1 [1,72] (.mx 0 [1,76] (.dn (.cd (((m1.Kind == 2) || (m1.Kind == 3)) && (m1.Prio != 0)) H (fun hb H => ?_) (fun hb H => ?_))))))))
      ·
        refine .sg 2 [2] ?_
        subst H
        exact .ret Try.func19 hc0
      ·
        refine .sg 2 [1] (.rg (.sg 4 [1,80] (.mx 0 [1,84] (.sg 1 [1,85] (.mx 1 [90] (.sg 1 [2] (.dn ?_)))))))
        subst H
        exact .ret Try.func19 hc0

/-! ### podestaref01.Within: function 40 -/
noncomputable def podestaref01_Within_F : Go.Sh.Fn := ⟨40, bodyOf Try.f40, 46⟩
def podestaref01_Within_l0 (a : Cube) (b : Cube) : Nat → Bool → Int → Option (Bool × Bool)
  | 0, _, _ => none
  | m + 1, ok, i =>
    (bif (decide (i < ((((textT a).1).size : Nat) : Int))) then
    (bif ok then
      reqO (decide (0 ≤ i) && decide (i < ((((textT b).1).size : Nat) : Int))) (
      (bif ((byteAt ((textT b).1) i) == 120) then
        podestaref01_Within_l0 a b m true (IntKind.i64.wrap (i + 1))
      else
        reqO (decide (0 ≤ i) && decide (i < ((((textT a).1).size : Nat) : Int))) (
        reqO (decide (0 ≤ i) && decide (i < ((((textT b).1).size : Nat) : Int))) (
        podestaref01_Within_l0 a b m ((byteAt ((textT a).1) i) == (byteAt ((textT b).1) i)) (IntKind.i64.wrap (i + 1))))))
    else
      podestaref01_Within_l0 a b m false (IntKind.i64.wrap (i + 1)))
  else
    some (ok, (textT b).2))
theorem podestaref01_Within_l0_walk (q0 : Nat) (a : Cube) (b : Cube)  (r : Bool) (c0 : Ctx) (hc0 : c0.m.length = 0) (res : Bool × Bool) (J : AX Try.prog tab podestaref01_Within_F c0 (Rp tab.S c0 (.sc (.bool r)) []) (some ⟨[.code [1, 1, 1, 1]], [(6, .sc (.bool res.1)), (8, .sc (.bool res.2))], [.box 30 (Cube.ch a), .box 30 (Cube.ch b)]⟩)) :
    ∀ (m : Nat) (ok : Bool) (i : Int) (H : podestaref01_Within_l0 a b m ok i = some res), AX Try.prog tab podestaref01_Within_F c0 (Rp tab.S c0 (.sc (.bool r)) []) (some ⟨[.code [1, 1, 1, 0, 1, 0, 0], .loop [1, 1, 1, 0, 1, 0], .blk 0, .code [1, 1, 1, 1]], [(5, .sc (.string ((textT a).1))), (6, .sc (.bool ok)), (7, .sc (.string ((textT b).1))), (8, .sc (.bool ((textT b).2))), (9, .sc (.int .i64 i))], [.box 30 (Cube.ch a), .box 30 (Cube.ch b)]⟩) := by
  intro m
  induction m with
  | zero => intro ok i H; cases H
  | succ m ih =>
    intro ok i H
    rw [podestaref01_Within_l0] at H
    refine .sg 3 [5,6,7,8,9,23] (.cd (decide (i < ((((textT a).1).size : Nat) : Int))) H (fun hb H => ?_) (fun hb H => ?_))
    ·
      refine .sg 3 [5,6,7,8,9] (.rg (.sg 2 [5,7,8,9,27] (.sp 27 ok H (fun hb H => ?_) (fun hb H => ?_))))
      ·
        refine .sg 2 [5,7,8,9,27,28,29] (reqH H fun hreq H => (.xs [5,7,8,9,27,30] hreq (.sg 2 [5,7,8,9,27,32] (.sp 32 ((byteAt ((textT b).1) i) == 120) H (fun hb H => ?_) (fun hb H => ?_)))))
        ·
          exact .sg 10 [5,6,7,8,9] (.dn (.sg 2 [5,6,7,8,9] (.kp [5,6,7,8,9] (.into (.to (ih true (IntKind.i64.wrap (i + 1)) H))))))
        ·
          exact .sg 2 [5,7,8,9,27,32,33,34] (reqH H fun hreq H => (.xs [5,7,8,9,27,32,35] hreq (.sg 2 [5,7,8,9,27,32,35,36,37] (reqH H fun hreq H => (.xs [5,7,8,9,27,32,35,38] hreq (.sg 4 [5,6,7,8,9] (.dn (.sg 2 [5,6,7,8,9] (.kp [5,6,7,8,9] (.into (.to (ih ((byteAt ((textT a).1) i) == (byteAt ((textT b).1) i)) (IntKind.i64.wrap (i + 1)) H))))))))))))
      ·
        exact .sg 15 [5,6,7,8,9] (.dn (.sg 2 [5,6,7,8,9] (.kp [5,6,7,8,9] (.into (.to (ih false (IntKind.i64.wrap (i + 1)) H))))))
    ·
      refine .sg 1 [6,8] (.kp [6,8] ?_)
      obtain rfl := Option.some.inj H
      exact .to J
def podestaref01_Within_raw (q0 : Nat) (a : Cube) (b : Cube) : Option (Bool) :=
  (podestaref01_Within_l0 a b q0 ((textT a).2) 0).bind fun v =>
  some (v.1 && v.2)
theorem podestaref01_Within_walk (q0 : Nat) (a : Cube) (b : Cube) (r : Bool) (H : podestaref01_Within_raw q0 a b = some r) : ACalls Try.prog tab.S 40 [Cube.av a, Cube.av b] [] (.sc (.bool r)) [] := by
  refine .of_AX podestaref01_Within_F Try.func40 fun c0 hc0 => ?_
  rw [podestaref01_Within_raw] at H
  refine .sg 3 [2,3] (.rg (.sg 1 [3,11] (.cp [3,12] (podestaref01_Text_ok a) (.sg 5 [3,5,6] (.dn (.sg 1 [3,5,6] (.rg (.sg 1 [5,6,16] (.cp [5,6,17] (podestaref01_Text_ok b) (.sg 5 [5,6,7,8] (.dn (.sg 4 [5,6,7,8,9] ?_))))))))))))
  refine bndO H fun v hv H => (.into (.to (podestaref01_Within_l0_walk q0 a b r c0 hc0 v ?_ q0 ((textT a).2) 0 hv)))
  refine .sg 1 [6,8] (.rg (.sg 2 [8,43] (.mx 0 [45] (.sg 1 [4] (.dn ?_)))))
  obtain rfl := Option.some.inj H
  exact .ret Try.func40 hc0

/-! ### Within -/
def withinT (a b : Cube) : Bool := ((textT a).2 && withL (textS a 12 0) (textS b 12 0)) && (textT b).2
theorem Within_l0_eq (a b : Cube) : ∀ (m i : Nat) (ok : Bool), i ≤ totS 12 0 → totS 12 0 - i < m →
    podestaref01_Within_l0 a b m ok ((i : Nat) : Int) = some (ok && withL ((textS a 12 0).drop i) ((textS b 12 0).drop i), (textT b).2)
  | 0, i, ok, _, hm => absurd hm (by omega)
  | m + 1, i, ok, hi, hm => by
      have hl := totS_le 12 0
      have la := textS_tot a 12 0
      have lb := textS_tot b 12 0
      have e1 : (textT a).1 = strOfNums (textS a 12 0) := rfl
      have e2 : (textT b).1 = strOfNums (textS b 12 0) := rfl
      rw [podestaref01_Within_l0, e1, e2, nums_size, nums_size]
      by_cases hlt : i < totS 12 0
      · have ha : i < (textS a 12 0).length := by omega
        have hb : i < (textS b 12 0).length := by omega
        rw [decide_eq_true (by omega), cond_true, byteAt_nums _ (text_bytes a 12 0) ha, byteAt_nums _ (text_bytes b 12 0) hb, wrap_succ (by omega), List.drop_eq_getElem_cons ha, List.drop_eq_getElem_cons hb, withL]
        have r1 : (decide (0 ≤ (i : Int)) && true) = true := by rw [decide_eq_true (by omega)]; rfl
        have r2 : (decide (0 ≤ (i : Int)) && decide ((i : Int) < (((textS b 12 0).length : Nat) : Int))) = true := by rw [decide_eq_true (by omega), decide_eq_true (by omega)]; rfl
        have ih := fun ok => Within_l0_eq a b m (i + 1) ok (by omega) (by omega)
        cases ok with
        | false =>
          rw [cond_false, ih]
          rfl
        | true =>
          rw [cond_true, reqO_eq r2]
          cases h2 : (textS b 12 0)[i] == 120 with
          | true =>
            rw [cond_true, ih]
            rfl
          | false =>
            rw [cond_false, reqO_eq r1, reqO_eq r2, ih, Bool.false_or, Bool.true_and]
      · rw [decide_eq_false (by omega), cond_false, List.drop_eq_nil_of_le (by omega), List.drop_eq_nil_of_le (by omega)]
        cases ok <;> rfl
theorem podestaref01_Within_ok (a b : Cube) : ACalls Try.prog tab.S 40 [Cube.av a, Cube.av b] [] (.sc (.bool (withinT a b))) [] := by
  refine podestaref01_Within_walk 1000 a b _ ?_
  have hl := totS_le 12 0
  have e := Within_l0_eq a b 1000 0 (textT a).2 (by omega) (by omega)
  rw [List.drop_zero, List.drop_zero, show ((0 : Nat) : Int) = 0 from rfl] at e
  rw [podestaref01_Within_raw, e]
  rfl

def subF (a b : Cube) : Nat → Nat → Bool
  | 0, _ => true
  | r + 1, i => (decide (orE (a.Care.getD i 0) (b.Care.getD i 0) = a.Care.getD i 0) && decide (orE (a.Value.getD i 0) (b.Value.getD i 0) = a.Value.getD i 0)) && subF a b r (i + 1)
theorem withF_eq {a b : Cube} (ha : SoundF a) (hb : SoundF b) : ∀ (r i : Nat), i + r = 12 → withF a b r i = (!clashF a b r i && subF a b r i)
  | 0, _, _ => rfl
  | r + 1, i, e => by
      obtain ⟨v, ev, hv⟩ := u64_range ha.wf.1 i
      obtain ⟨c, ec, hc⟩ := u64_range ha.wf.2 i
      obtain ⟨w, ew, hw⟩ := u64_range hb.wf.1 i
      obtain ⟨d, ed, hd⟩ := u64_range hb.wf.2 i
      rw [withF, clashF, subF, withF_eq ha hb r (i + 1) (by omega), Bool.not_or]
      have hcn := care_lt ec (ha.fit i (by omega))
      have hdn := care_lt ed (hb.fit i (by omega))
      have h1 := sub_bits ev hv ec hc (ha.bad i (by omega))
      have h2 := sub_bits ew hw ed hd (hb.bad i (by omega))
      rw [ev, ec, ew, ed, field_with hv hc hw hd (sizeN_le i) hcn hdn h1 h2, clashE_nat hv hw hc hd, Bool.not_not, orE_nat hc hd, orE_nat hv hw]
      have q1 : decide (((c ||| d : Nat) : Int) = (c : Int)) = decide (c ||| d = c) := decide_eq_decide.2 (by omega)
      have q2 : decide (((v ||| w : Nat) : Int) = (v : Int)) = decide (v ||| w = v) := decide_eq_decide.2 (by omega)
      rw [q1, q2]
      generalize decide ((v ^^^ w) &&& c &&& d = 0) = p1
      generalize decide (c ||| d = c) = p2
      generalize decide (v ||| w = v) = p3
      generalize clashF a b r (i + 1) = p4
      generalize subF a b r (i + 1) = p5
      revert p1 p2 p3 p4 p5
      decide
theorem orA_getD_lo (b : List Int) : ∀ (r i : Nat) (x : List Int) (j : Nat), j < i → (orA b r i x).getD j 0 = x.getD j 0
  | 0, i, x, j, h => rfl
  | r + 1, i, x, j, h => by rw [orA, orA_getD_lo b r (i + 1) _ j (by omega), getD_set_ne _ (by omega)]
theorem orA_len (b : List Int) : ∀ (r i : Nat) (x : List Int), (orA b r i x).length = x.length
  | 0, i, x => rfl
  | r + 1, i, x => by rw [orA, orA_len b r (i + 1), List.length_set]
theorem orA_self (b : List Int) : ∀ (r i : Nat) (x : List Int), i + r ≤ x.length → ((orA b r i x = x) ↔ ∀ j, i ≤ j → j < i + r → orE (x.getD j 0) (b.getD j 0) = x.getD j 0)
  | 0, i, x, h => by
      rw [orA]
      exact ⟨fun _ j h1 h2 => absurd h2 (by omega), fun _ => rfl⟩
  | r + 1, i, x, h => by
      rw [orA]
      have hi : i < x.length := by omega
      constructor
      · intro e
        have h0 : orE (x.getD i 0) (b.getD i 0) = x.getD i 0 := by
          have e2 := congrArg (fun l => l.getD i 0) e
          rw [orA_getD_lo b r (i + 1) _ i (by omega)] at e2
          rw [List.getD_eq_getElem?_getD, List.getElem?_set_self hi] at e2
          exact e2
        have hs : x.set i (orE (x.getD i 0) (b.getD i 0)) = x := by
          rw [h0, List.getD_eq_getElem?_getD, List.getElem?_eq_getElem hi]
          exact List.set_getElem_self hi
        rw [hs] at e
        have ih := (orA_self b r (i + 1) x (by omega)).1 e
        intro j h1 h2
        rcases Nat.eq_or_lt_of_le h1 with q | q
        · subst q; exact h0
        · exact ih j (by omega) (by omega)
      · intro hh
        have h0 := hh i (Nat.le_refl _) (by omega)
        have hs : x.set i (orE (x.getD i 0) (b.getD i 0)) = x := by
          rw [h0, List.getD_eq_getElem?_getD, List.getElem?_eq_getElem hi]
          exact List.set_getElem_self hi
        rw [hs]
        exact (orA_self b r (i + 1) x (by omega)).2 (fun j h1 h2 => hh j (by omega) (by omega))
theorem subF_iff (a b : Cube) : ∀ (r i : Nat), subF a b r i = true ↔ ∀ j, i ≤ j → j < i + r → orE (a.Care.getD j 0) (b.Care.getD j 0) = a.Care.getD j 0 ∧ orE (a.Value.getD j 0) (b.Value.getD j 0) = a.Value.getD j 0
  | 0, i => by
      rw [subF]
      exact ⟨fun _ j h1 h2 => absurd h2 (by omega), fun _ => rfl⟩
  | r + 1, i => by
      rw [subF, Bool.and_eq_true, Bool.and_eq_true, decide_eq_true_eq, decide_eq_true_eq, subF_iff a b r (i + 1)]
      constructor
      · rintro ⟨h1, h2⟩ j h3 h4
        rcases Nat.eq_or_lt_of_le h3 with q | q
        · subst q; exact h1
        · exact h2 j (by omega) (by omega)
      · intro hh
        exact ⟨hh i (Nat.le_refl _) (by omega), fun j h1 h2 => hh j (by omega) (by omega)⟩
theorem Within_eq {a b : Cube} (wa : Cube.wf a) (wb : Cube.wf b) : cube_Within a b = withinT a b := by
  have ha := wa.1.1
  have hb := wa.2.1
  unfold withinT
  rw [cube_Within, cube_Meet_eq, both_eq wa wb]
  cases ht : (textT a).2 with
  | false => rfl
  | true =>
    cases hu : (textT b).2 with
    | false =>
      rw [Bool.and_false, Bool.and_false]
      rfl
    | true =>
      rw [withL_fields, withF_eq (soundF wa ht) (soundF wb hu) 12 0 rfl]
      cases clashF a b 12 0 with
      | true => rfl
      | false =>
        have h1 := orA_self b.Value 12 0 a.Value (by rw [ha]; decide)
        have h2 := orA_self b.Care 12 0 a.Care (by rw [hb]; decide)
        have h3 := subF_iff a b 12 0
        rw [Bool.eq_iff_iff]
        simp only [Bool.and_self, Bool.not_false, if_true, Bool.true_and, Bool.and_true, Bool.and_eq_true, beq_iff_eq]
        rw [h1, h2, h3]
        exact ⟨fun h j h4 h5 => ⟨h.2 j h4 h5, h.1 j h4 h5⟩, fun h => ⟨fun j h4 h5 => (h j h4 h5).2, fun j h4 h5 => (h j h4 h5).1⟩⟩

end Go.Proofs.Ytlfiemphadkimaa

set_option linter.unusedVariables false
set_option linter.unusedSimpArgs false
set_option maxRecDepth 100000
set_option maxHeartbeats 4000000
namespace Go.Proofs.Ytlfiemphadkimaa
open Go.Sh
/-! ### podestaref04.Touched: function 23 -/
noncomputable def podestaref04_Touched_F : Go.Sh.Fn := ⟨23, bodyOf Try.f23, 65⟩
def podestaref04_Touched_l0s (m1 : Mod) : List Rule → Nat → List Int → Option ((List Int))
  | [], i, out =>
    some out
  | x :: rest, i, out =>
    (bif ((bif (bif (m1.Kind == 2) then (m1.Kind == 2) else (m1.Kind == 3)) then ((x.Owner == m1.Owner) && (withinT x.Match m1.Match)) else ((bif (m1.Kind == 4) then (m1.Kind == 4) else (m1.Kind == 5)) && (((x.Owner == m1.Owner) && ((x.Match.Value == m1.Match.Value) && (x.Match.Care == m1.Match.Care))) && (x.Prio == m1.Prio)))) && (podestaref04_Mod m1)) then
      fitO (out.length + [((i : Nat) : Int)].length) 8 (
      podestaref04_Touched_l0s m1 rest (i + 1) (out ++ [((i : Nat) : Int)]))
    else
      podestaref04_Touched_l0s m1 rest (i + 1) out)
theorem podestaref04_Touched_l0_walk (l : List Rule) (m1 : Mod) (f_l : Bool) (r : (List Int)) (c0 : Ctx) (hc0 : c0.m.length = 0) (res : (List Int)) (J : AX Try.prog tab podestaref04_Touched_F c0 (Rp tab.S c0 (.sl 3 (List.map (intA .i64) r) false) []) (some ⟨[.code [1, 1, 1]], [(5, .own 1 1000000)], [.box 33 (Mod.ch m1), .row 3 (List.map (intA .i64) res) 1000000 true]⟩)) :
    ∀ (rest : List Rule) (i : Nat) (z : Int) (hI : z = ((i : Nat) : Int)) (hd : l.drop i = rest) (out : List Int) (H : podestaref04_Touched_l0s m1 rest i out = some res), AX Try.prog tab podestaref04_Touched_F c0 (Rp tab.S c0 (.sl 3 (List.map (intA .i64) r) false) []) (some ⟨[.code [1, 1, 0, 1, 0, 0], .loop [1, 1, 0, 1, 0], .blk 0, .code [1, 1, 1]], [(0, .sl 51 (List.map Rule.av l) f_l), (3, .ptr 0 0 none), (5, .own 1 1000000), (6, .sc (.int .i64 z))], [.box 33 (Mod.ch m1), .row 3 (List.map (intA .i64) out) 1000000 true]⟩) := by
  intro rest
  induction rest with
  | nil =>
    intro i z hI hd out H
    subst hI
    rw [podestaref04_Touched_l0s] at H
    refine .facts 0 fun hf => ?_
    have hlen : l.length ≤ 9223372036854775807 := by have hq := len_ok hf.2.1; rw [List.length_map] at hq; exact hq
    have hge : l.length ≤ i := List.drop_eq_nil_iff.1 hd
    have hc : (decide (((i : Nat) : Int) < (((List.map Rule.av l).length : Nat) : Int))) = false := by rw [List.length_map]; exact decide_eq_false (by omega)
    refine .sg 3 [0,3,5,6,12] (.cdF hc (.sg 1 [5] (.kp [5] ?_)))
    obtain rfl := Option.some.inj H
    exact .to J
  | cons x rest ih =>
    intro i z hI hd out H
    subst hI
    rw [podestaref04_Touched_l0s] at H
    refine .facts 0 fun hf => ?_
    have hlen : l.length ≤ 9223372036854775807 := by have hq := len_ok hf.2.1; rw [List.length_map] at hq; exact hq
    obtain ⟨hlt, hv_i, hd2⟩ := drop_cons hd
    have hc : (decide (((i : Nat) : Int) < (((List.map Rule.av l).length : Nat) : Int))) = true := by rw [List.length_map]; exact decide_eq_true (by omega)
    have hw : IntKind.i64.wrap (((i : Nat) : Int) + 1) = ((i + 1 : Nat) : Int) := wrapI_succ (by omega)
    refine .sg 3 [0,3,5,6,12] (.cdT hc (.sg 4 [0,3,5,6] (.rg (.sg 2 [0,3,5,6,15,16] (.xi [0,3,5,6,17] Rule.av hv_i (.sg 3 [0,3,5,6,7] (.dn (.sg 9 [0,3,5,6,7,8,25,26] (.jn (m1.Kind == 2) [0, 3, 5, 6, 7, 8, 25, 26] (fun z => [(26, .sc (.bool (bif z then (m1.Kind == 2) else (m1.Kind == 3))))]) ?J69 (fun hb J => ?ht69) (fun hb J => ?hf69))))))))))
    case ht69 =>
      exact .sg 1 [0,3,5,6,7,8,25,26] (.cl J)
    case hf69 =>
      exact .sg 1 [0,3,5,6,7,8,25,26] (.cl J)
    refine .jn (bif (m1.Kind == 2) then (m1.Kind == 2) else (m1.Kind == 3)) [0, 3, 5, 6, 8] (fun z => [(8, .sc (.bool (bif z then ((x.Owner == m1.Owner) && (withinT x.Match m1.Match)) else ((bif (m1.Kind == 4) then (m1.Kind == 4) else (m1.Kind == 5)) && (((x.Owner == m1.Owner) && ((x.Match.Value == m1.Match.Value) && (x.Match.Care == m1.Match.Care))) && (x.Prio == m1.Prio))))))]) ?J77 (fun hb J => ?ht77) (fun hb J => ?hf77)
    case ht77 =>
      refine .rg (.sg 2 [0,3,5,6,7,30] (.mm 30 (x.Owner == m1.Owner) 6 [.pure, .pure, .read, .pure, .read, .pure] [0, 3, 5, 6, 36] 36 (fun z => .sc (.bool (z && (withinT x.Match m1.Match)))) ?J78 (fun hb J => ?ht78) (fun hb J => ?hf78)))
      case ht78 =>
        exact .sg 4 [0,3,5,6,30,32,34] (.cp [0,3,5,6,30,35] (podestaref01_Within_ok x.Match m1.Match) (.sg 1 [0,3,5,6,36] (.cl J)))
      case hf78 =>
        exact .sg 6 [0,3,5,6,36] (.cl J)
      exact .sg 1 [0,3,5,6,8] (.dn (.sg 0 [0,3,5,6,8] (.cl J)))
    case hf77 =>
      refine .sg 3 [0,3,5,6,7,8,25,37] (.jn (m1.Kind == 4) [0, 3, 5, 6, 7, 8, 37] (fun z => [(37, .sc (.bool (bif z then (m1.Kind == 4) else (m1.Kind == 5))))]) ?J79 (fun hb J => ?ht79) (fun hb J => ?hf79))
      case ht79 =>
        exact .sg 1 [0,3,5,6,7,8,37] (.cl J)
      case hf79 =>
        exact .sg 1 [0,3,5,6,7,8,37] (.cl J)
      refine .jn (bif (m1.Kind == 4) then (m1.Kind == 4) else (m1.Kind == 5)) [0, 3, 5, 6, 8] (fun z => [(8, .sc (.bool (z && (((x.Owner == m1.Owner) && ((x.Match.Value == m1.Match.Value) && (x.Match.Care == m1.Match.Care))) && (x.Prio == m1.Prio)))))]) ?J82 (fun hb J => ?ht82) (fun hb J => ?hf82)
      case ht82 =>
        refine .rg (.sg 2 [0,3,5,6,7,41] (.mm 41 (x.Owner == m1.Owner) 6 [.pure, .pure, .read, .pure, .read, .pure] [0, 3, 5, 6, 7, 47] 47 (fun z => .sc (.bool (z && ((x.Match.Value == m1.Match.Value) && (x.Match.Care == m1.Match.Care))))) ?J83 (fun hb J => ?ht83) (fun hb J => ?hf83)))
        case ht83 =>
          exact .sg 4 [0,3,5,6,7,41,43,45] (.eq_ [0,3,5,6,7,41,46] 9 (.sg 1 [0,3,5,6,7,47] (.cl J)))
        case hf83 =>
          exact .sg 6 [0,3,5,6,7,47] (.cl J)
        exact .sg 1 [0,3,5,6,7,48] (.mx 0 [0,3,5,6,54] (.sg 1 [0,3,5,6,8] (.dn (.sg 0 [0,3,5,6,8] (.cl J)))))
      case hf82 =>
        exact .sg 1 [0,3,5,6,8] (.cl J)
      exact .sg 0 [0,3,5,6,8] (.cl J)
    refine .sg 2 [0,3,5,6,8] (.rg (.sg 2 [0,3,5,6,56] (.mm 56 (bif (bif (m1.Kind == 2) then (m1.Kind == 2) else (m1.Kind == 3)) then ((x.Owner == m1.Owner) && (withinT x.Match m1.Match)) else ((bif (m1.Kind == 4) then (m1.Kind == 4) else (m1.Kind == 5)) && (((x.Owner == m1.Owner) && ((x.Match.Value == m1.Match.Value) && (x.Match.Care == m1.Match.Care))) && (x.Prio == m1.Prio)))) 3 [.pure, .pure, .read] [0, 3, 5, 6, 59] 59 (fun z => .sc (.bool (z && (podestaref04_Mod m1)))) ?J85 (fun hb J => ?ht85) (fun hb J => ?hf85))))
    case ht85 =>
      exact .sg 1 [0,3,5,6,56,57] (.cp [0,3,5,6,56,58] (podestaref04_Mod_calls m1) (.sg 1 [0,3,5,6,59] (.cl J)))
    case hf85 =>
      exact .sg 3 [0,3,5,6,59] (.cl J)
    refine .dn (.cd ((bif (bif (m1.Kind == 2) then (m1.Kind == 2) else (m1.Kind == 3)) then ((x.Owner == m1.Owner) && (withinT x.Match m1.Match)) else ((bif (m1.Kind == 4) then (m1.Kind == 4) else (m1.Kind == 5)) && (((x.Owner == m1.Owner) && ((x.Match.Value == m1.Match.Value) && (x.Match.Care == m1.Match.Care))) && (x.Prio == m1.Prio)))) && (podestaref04_Mod m1)) H (fun hb H => ?_) (fun hb H => ?_))
    ·
      exact .rg (.sg 3 [0,3,6,60,62] (fitH H fun hfit H => (.ap [0,3,6,63] (intA .i64) hfit (.sg 1 [0,3,5,6] (.dn (.sg 2 [0,3,5,6] (.tl hc0 [0,1] [0,3,5,6] (.into (.cl (ih (i + 1) _ hw hd2 (out ++ [((i : Nat) : Int)]) H))))))))))
    ·
      exact .sg 3 [0,3,5,6] (.tl hc0 [0,1] [0,3,5,6] (.into (.cl (ih (i + 1) _ hw hd2 out H))))

def podestaref04_Touched_raw (l : List Rule) (m1 : Mod) : Option ((List Int)) :=
  (podestaref04_Touched_l0s m1 l 0 ([] : List Int)).bind fun v =>
  some v
theorem podestaref04_Touched_walk (l : List Rule) (m1 : Mod) (f_l : Bool) (r : (List Int)) (H : podestaref04_Touched_raw l m1 = some r) : ACalls Try.prog tab.S 23 [.sl 51 (List.map Rule.av l) f_l, Mod.av m1] [] (.sl 3 (List.map (intA .i64) r) false) [] := by
  refine .of_AX podestaref04_Touched_F Try.func23 fun c0 hc0 => ?_
  rw [podestaref04_Touched_raw] at H
  refine .sg 8 [0,3,5,6] (.ad 5 3 true (.kp [0,3,5,6] ?_))
  refine bndO H fun v hv H => (.into (.to (podestaref04_Touched_l0_walk l m1 f_l r c0 hc0 v ?_ l 0 _ rfl rfl ([] : List Int) hv)))
  refine .sg 2 [4] ?_
  obtain rfl := Option.some.inj H
  exact .ret Try.func23 hc0

end Go.Proofs.Ytlfiemphadkimaa

set_option linter.unusedVariables false
set_option linter.unusedSimpArgs false
set_option maxRecDepth 100000
set_option maxHeartbeats 4000000
namespace Go.Proofs.Ytlfiemphadkimaa
open Go.Sh
theorem LQ.ab {P : Program} {G : Tab} {n : Nat} {ops : Array Oper} {i : Nat} {t : Tmps} {h : List AO} [ok : Ok P G] {α : Type} (f : α → AV) {A B : List α} {by_ : Nat} (hfit : (A.length + B.length) * by_ ≤ reach) (hA : A = []) (e : anA (appNE G n ops i t h) = some (A.map f, B.map f, by_) := by kernel_rfl) : LSpec P G.S n ops i .loud t h (.own h.length 1000000) (h ++ [.row (anT (appNE G n ops i t h)) ((A ++ B).map f) 1000000 true]) := LSpec.ab f hfit hA e
theorem LQ.ap {P : Program} {G : Tab} {n : Nat} {ops : Array Oper} {i : Nat} {t : Tmps} {h : List AO} [ok : Ok P G] {α : Type} (f : α → AV) {A B : List α} {by_ : Nat} (hfit : (A.length + B.length) * by_ ≤ reach) (e : apA (appE G n ops i t h) = some (A.map f, B.map f, by_) := by kernel_rfl) : LSpec P G.S n ops i .loud t h (apR (appE G n ops i t h)) (apH f A B (appE G n ops i t h) h) := LSpec.ap f hfit e
theorem LQ.so {P : Program} {G : Tab} {n : Nat} {ops : Array Oper} {i : Nat} {t : Tmps} {h : List AO} [ok : Ok P G] {α : Type} (f : α → AV) {A A' : List α} {l u m : Option Int} (hv : Go.Sh.sliceO A l u m = some A') (e : soA (sliceE G n ops i t) = some (A.map f, l, u, m) := by kernel_rfl) : LSpec P G.S n ops i .pure t h (.sl (soT (sliceE G n ops i t)) (A'.map f) (soF (sliceE G n ops i t))) h := LSpec.so f hv e
theorem LQ.cc {P : Program} {G : Tab} {n : Nat} {ops : Array Oper} {i : Nat} {t : Tmps} {h : List AO} [ok : Ok P G] (os : List Nat) {f : FuncId} {avs : List AV} {r : AV} (hc : ACalls P G.S f avs [] r []) (ds : List (TypeId × Bool) := []) (hos : rowsAt h os = true := by kernel_rfl) (e : callWE (giveO os h) ds n ops i t f = some avs := by kernel_rfl) : LSpec P G.S n ops i .loud t h r (Go.Sh.settle os h) := LSpec.cc os hc ds hos e
theorem LQ.cp {P : Program} {G : Tab} {n : Nat} {ops : Array Oper} {i : Nat} {t : Tmps} {h : List AO} [ok : Ok P G] {f : FuncId} {avs : List AV} {r : AV} (hc : ACalls P G.S f avs [] r []) (ds : List (TypeId × Bool) := []) (e : callWE plainO ds n ops i t f = some avs := by kernel_rfl) : LSpec P G.S n ops i .pure t h r h := LSpec.cp hc ds e

/-! ### podestaref04.Apply: function 10 -/
noncomputable def podestaref04_Apply_F : Go.Sh.Fn := ⟨10, bodyOf Try.f10, 130⟩
def podestaref04_Apply_l0s (m1 : Mod) : List Rule → Bool → Bool → Option (Sum (Bool × Bool) ((List Rule) × Int))
  | [], there, meets =>
    some (.inl (there, meets))
  | x1 :: rest, there, meets =>
    (bif (podestaref04_Key x1 ({ m1 with Hits := 0, Quiet := 0, Age := 0 } : Rule)) then
      (bif (x1.Owner != m1.Owner) then
        some (.inr ([], 7))
      else
        podestaref04_Apply_l0s m1 rest true meets)
    else
      (bif meets then
        podestaref04_Apply_l0s m1 rest there true
      else
        (podestaref04_Overlap_raw x1 ({ m1 with Hits := 0, Quiet := 0, Age := 0 } : Rule)).bind fun x2 =>
        podestaref04_Apply_l0s m1 rest there x2))
theorem podestaref04_Apply_l0_walk (l : List Rule) (m1 : Mod) (room : Int) (x : Bool) (f_l : Bool) (r : (List Rule) × Int) (c0 : Ctx) (hc0 : c0.m.length = 0) (res : Sum (Bool × Bool) ((List Rule) × Int)) (J : ∀ w : Bool × Bool, res = .inl w → AX Try.prog tab podestaref04_Apply_F c0 (Rp tab.S c0 (.tup [.sl 51 (List.map Rule.av r.1) false, .sc (.int .i64 r.2)]) []) (some ⟨[.code [1, 1, 0, 1, 0, 1, 1, 1], .code [1, 1, 1]], [(0, .sl 51 (List.map Rule.av l) f_l), (2, .sc (.int .i64 room)), (4, .ptr 0 0 none), (8, .ptr 1 0 none), (9, .sc (.bool w.1)), (10, .sc (.bool w.2))], [.box 33 (Mod.ch m1), .box 51 [.arr .u64 12 m1.Match.Value, .arr .u64 12 m1.Match.Care, .sc (.int .i64 m1.Prio), .sl 60 (List.map Act.av m1.Acts) false, .sc (.int .i64 m1.Idle), .sc (.int .i64 m1.Hard), .sc (.int .i64 m1.Owner), .sc (.int .i64 0), .sc (.int .i64 0), .sc (.int .i64 0)]]⟩)) (Jr : ∀ w, res = .inr w → w = r) :
    ∀ (rest : List Rule) (i : Nat) (z : Int) (hI : z = ((i : Nat) : Int)) (hd : l.drop i = rest) (there : Bool) (meets : Bool) (H : podestaref04_Apply_l0s m1 rest there meets = some res), AX Try.prog tab podestaref04_Apply_F c0 (Rp tab.S c0 (.tup [.sl 51 (List.map Rule.av r.1) false, .sc (.int .i64 r.2)]) []) (some ⟨[.code [1, 1, 0, 1, 0, 1, 1, 0, 1, 0, 0], .loop [1, 1, 0, 1, 0, 1, 1, 0, 1, 0], .blk 0, .code [1, 1, 0, 1, 0, 1, 1, 1], .code [1, 1, 1]], [(0, .sl 51 (List.map Rule.av l) f_l), (2, .sc (.int .i64 room)), (4, .ptr 0 0 none), (8, .ptr 1 0 none), (9, .sc (.bool there)), (10, .sc (.bool meets)), (11, .sc (.int .i64 z))], [.box 33 (Mod.ch m1), .box 51 [.arr .u64 12 m1.Match.Value, .arr .u64 12 m1.Match.Care, .sc (.int .i64 m1.Prio), .sl 60 (List.map Act.av m1.Acts) false, .sc (.int .i64 m1.Idle), .sc (.int .i64 m1.Hard), .sc (.int .i64 m1.Owner), .sc (.int .i64 0), .sc (.int .i64 0), .sc (.int .i64 0)]]⟩) := by
  intro rest
  induction rest with
  | nil =>
    intro i z hI hd there meets H
    subst hI
    rw [podestaref04_Apply_l0s] at H
    refine .facts 0 fun hf => ?_
    have hlen : l.length ≤ 9223372036854775807 := by have hq := len_ok hf.2.1; rw [List.length_map] at hq; exact hq
    have hge : l.length ≤ i := List.drop_eq_nil_iff.1 hd
    have hc : (decide (((i : Nat) : Int) < (((List.map Rule.av l).length : Nat) : Int))) = false := by rw [List.length_map]; exact decide_eq_false (by omega)
    exact .sg 3 [0,2,4,8,9,10,11,43] (.cdF hc (.sg 1 [0,2,4,8,9,10] (.kp [0,2,4,8,9,10] (.to (J (there, meets) (Option.some.inj H).symm)))))
  | cons x1 rest ih =>
    intro i z hI hd there meets H
    subst hI
    rw [podestaref04_Apply_l0s] at H
    refine .facts 0 fun hf => ?_
    have hlen : l.length ≤ 9223372036854775807 := by have hq := len_ok hf.2.1; rw [List.length_map] at hq; exact hq
    obtain ⟨hlt, hv_i, hd2⟩ := drop_cons hd
    have hc : (decide (((i : Nat) : Int) < (((List.map Rule.av l).length : Nat) : Int))) = true := by rw [List.length_map]; exact decide_eq_true (by omega)
    have hw : IntKind.i64.wrap (((i : Nat) : Int) + 1) = ((i + 1 : Nat) : Int) := wrapI_succ (by omega)
    refine .sg 3 [0,2,4,8,9,10,11,43] (.cdT hc (.sg 4 [0,2,4,8,9,10,11] (.rg (.sg 2 [0,2,4,8,9,10,11,46,47] (.xi [0,2,4,8,9,10,11,48] Rule.av hv_i (.sg 2 [0,2,4,8,9,10,11,49,50] (.cp [0,2,4,8,9,10,11,51] (podestaref04_Key_calls x1 ({ m1 with Hits := 0, Quiet := 0, Age := 0 } : Rule)) (.dn (.cd (podestaref04_Key x1 ({ m1 with Hits := 0, Quiet := 0, Age := 0 } : Rule)) H (fun hb H => ?_) (fun hb H => ?_))))))))))
    ·
      refine .sg 3 [0,2,4,8,9,10,11] (.rg (.sg 2 [0,2,4,8,9,10,11,52,53] (.xi [0,2,4,8,9,10,11,54] Rule.av hv_i (.sg 5 [0,2,4,8,9,10,11,59] (.dn (.cd (x1.Owner != m1.Owner) H (fun hb H => ?_) (fun hb H => ?_)))))))
      ·
        refine .sg 2 [6,7] ?_
        obtain rfl := Option.some.inj H
        obtain rfl := Jr _ rfl
        exact .ret Try.func10 hc0 [] [(51, false)]
      ·
        exact .sg 3 [0,2,4,8,9,10,11] (.kp [0,2,4,8,9,10,11] (.into (.cl (ih (i + 1) _ hw hd2 true meets H))))
    ·
      refine .rg (.sg 2 [0,2,4,8,9,11,61] (.sp 61 meets H (fun hb H => ?_) (fun hb H => ?_)))
      ·
        exact .sg 8 [0,2,4,8,9,10,11] (.dn (.sg 2 [0,2,4,8,9,10,11] (.kp [0,2,4,8,9,10,11] (.into (.cl (ih (i + 1) _ hw hd2 there true H))))))
      ·
        exact .sg 2 [0,2,4,8,9,11,61,62,63] (.xi [0,2,4,8,9,11,61,64] Rule.av hv_i (.sg 2 [0,2,4,8,9,11,61,65,66] (bndO H fun x2 hv H => (.cp [0,2,4,8,9,11,61,67] (podestaref04_Overlap_walk x1 ({ m1 with Hits := 0, Quiet := 0, Age := 0 } : Rule) x2 hv) (.sg 2 [0,2,4,8,9,10,11] (.dn (.sg 2 [0,2,4,8,9,10,11] (.kp [0,2,4,8,9,10,11] (.into (.cl (ih (i + 1) _ hw hd2 there x2 H)))))))))))

def podestaref04_Apply_l1s (m1 : Mod) : List Rule → Nat → List Int → List Rule → Option ((List Rule))
  | [], i1, t1, out =>
    some out
  | x4 :: rest, i1, t1, out =>
    (bif (decide ((((List.map (intA .i64) t1).length : Nat) : Int) > 0)) then
      (ixO t1 0).bind fun x5 =>
      (bif (x5 == ((i1 : Nat) : Int)) then
        (sliceO t1 (some 1) none none).bind fun x6 =>
        (bif ((m1.Kind == 3) || (m1.Kind == 5)) then
          podestaref04_Apply_l1s m1 rest (i1 + 1) x6 out
        else
          fitO (out.length + [({ x4 with Acts := m1.Acts } : Rule)].length) 272 (
          podestaref04_Apply_l1s m1 rest (i1 + 1) x6 (out ++ [({ x4 with Acts := m1.Acts } : Rule)])))
      else
        fitO (out.length + [x4].length) 272 (
        podestaref04_Apply_l1s m1 rest (i1 + 1) t1 (out ++ [x4])))
    else
      fitO (out.length + [x4].length) 272 (
      podestaref04_Apply_l1s m1 rest (i1 + 1) t1 (out ++ [x4])))
theorem podestaref04_Apply_l1_walk (l : List Rule) (m1 : Mod) (room : Int) (x : Bool) (x3 : (List Int)) (f_l : Bool) (r : (List Rule) × Int) (c0 : Ctx) (hc0 : c0.m.length = 0) (res : (List Rule)) (J : AX Try.prog tab podestaref04_Apply_F c0 (Rp tab.S c0 (.tup [.sl 51 (List.map Rule.av r.1) false, .sc (.int .i64 r.2)]) []) (some ⟨[.code [1, 1, 1, 1, 1, 1]], [(12, .own 1 1000000)], [.box 33 (Mod.ch m1), .row 51 (List.map Rule.av res) 1000000 true]⟩)) :
    ∀ (rest : List Rule) (i1 : Nat) (z : Int) (hI : z = ((i1 : Nat) : Int)) (hd : l.drop i1 = rest) (t1 : List Int) (out : List Rule) (H : podestaref04_Apply_l1s m1 rest i1 t1 out = some res), AX Try.prog tab podestaref04_Apply_F c0 (Rp tab.S c0 (.tup [.sl 51 (List.map Rule.av r.1) false, .sc (.int .i64 r.2)]) []) (some ⟨[.code [1, 1, 1, 1, 1, 0, 1, 0, 0], .loop [1, 1, 1, 1, 1, 0, 1, 0], .blk 2, .code [1, 1, 1, 1, 1, 1]], [(0, .sl 51 (List.map Rule.av l) f_l), (4, .ptr 0 0 none), (12, .own 1 1000000), (13, .sl 3 (List.map (intA .i64) t1) false), (14, .sc (.int .i64 z))], [.box 33 (Mod.ch m1), .row 51 (List.map Rule.av out) 1000000 true]⟩) := by
  intro rest
  induction rest with
  | nil =>
    intro i1 z hI hd t1 out H
    subst hI
    rw [podestaref04_Apply_l1s] at H
    refine .facts 0 fun hf => ?_
    have hlen : l.length ≤ 9223372036854775807 := by have hq := len_ok hf.2.1; rw [List.length_map] at hq; exact hq
    have hge : l.length ≤ i1 := List.drop_eq_nil_iff.1 hd
    have hc : (decide (((i1 : Nat) : Int) < (((List.map Rule.av l).length : Nat) : Int))) = false := by rw [List.length_map]; exact decide_eq_false (by omega)
    refine .sg 3 [0,4,12,13,14,95] (.cdF hc (.sg 1 [12] (.kp [12] ?_)))
    obtain rfl := Option.some.inj H
    exact .to J
  | cons x4 rest ih =>
    intro i1 z hI hd t1 out H
    subst hI
    rw [podestaref04_Apply_l1s] at H
    refine .facts 0 fun hf => ?_
    have hlen : l.length ≤ 9223372036854775807 := by have hq := len_ok hf.2.1; rw [List.length_map] at hq; exact hq
    obtain ⟨hlt, hv_i1, hd2⟩ := drop_cons hd
    have hc : (decide (((i1 : Nat) : Int) < (((List.map Rule.av l).length : Nat) : Int))) = true := by rw [List.length_map]; exact decide_eq_true (by omega)
    have hw : IntKind.i64.wrap (((i1 : Nat) : Int) + 1) = ((i1 + 1 : Nat) : Int) := wrapI_succ (by omega)
    refine .sg 3 [0,4,12,13,14,95] (.cdT hc (.sg 4 [0,4,12,13,14] (.rg (.sg 2 [0,4,12,13,14,98,99] (.xi [0,4,12,13,14,100] Rule.av hv_i1 (.sg 3 [0,4,12,13,14,15] (.dn (.sg 2 [0,4,12,13,14,15] (.rg (.sg 4 [0,4,12,13,14,15,105] (.sp 105 (decide ((((List.map (intA .i64) t1).length : Nat) : Int) > 0)) H (fun hb H => ?_) (fun hb H => ?_))))))))))))
    ·
      refine .sg 1 [0,4,12,13,14,15,105,106] (bndO H fun x5 hv H => (.xi [0,4,12,13,14,15,105,107] (intA .i64) hv (.sg 4 [0,4,12,13,14,15,111] (.dn (.cd (x5 == ((i1 : Nat) : Int)) H (fun hb H => ?_) (fun hb H => ?_))))))
      ·
        refine .sg 1 [0,4,12,13,14,15] (.rg (.sg 1 [0,4,12,14,15,112] (bndO H fun x6 hv H => (.so [0,4,12,14,15,113] (intA .i64) hv (.sg 1 [0,4,12,13,14,15] (.dn (.sg 2 [0,4,12,13,14,15] (.rg (.sg 4 [0,4,12,13,14,15,117] (.mx 1 [0,4,12,13,14,15,121] (.dn (.cd ((m1.Kind == 3) || (m1.Kind == 5)) H (fun hb H => ?_) (fun hb H => ?_)))))))))))))
        ·
          exact .sg 2 [0,4,12,13,14] (.tl hc0 [0,1] [0,4,12,13,14] (.into (.cl (ih (i1 + 1) _ hw hd2 x6 out H))))
        ·
          exact .sg 2 [0,4,12,13,14,15] (.rg (.sg 3 [0,4,13,14,125,127] (fitH H fun hfit H => (.ap [0,4,13,14,128] Rule.av hfit (.sg 1 [0,4,12,13,14] (.dn (.sg 2 [0,4,12,13,14] (.tl hc0 [0,1] [0,4,12,13,14] (.into (.cl (ih (i1 + 1) _ hw hd2 x6 (out ++ [({ x4 with Acts := m1.Acts } : Rule)]) H)))))))))))
      ·
        exact .sg 1 [0,4,12,13,14,15] (.rg (.sg 3 [0,4,13,14,125,127] (fitH H fun hfit H => (.ap [0,4,13,14,128] Rule.av hfit (.sg 1 [0,4,12,13,14] (.dn (.sg 2 [0,4,12,13,14] (.tl hc0 [0,1] [0,4,12,13,14] (.into (.cl (ih (i1 + 1) _ hw hd2 t1 (out ++ [x4]) H)))))))))))
    ·
      exact .sg 6 [0,4,12,13,14,15,111] (.dn (.sg 2 [0,4,12,13,14,15] (.rg (.sg 3 [0,4,13,14,125,127] (fitH H fun hfit H => (.ap [0,4,13,14,128] Rule.av hfit (.sg 1 [0,4,12,13,14] (.dn (.sg 2 [0,4,12,13,14] (.tl hc0 [0,1] [0,4,12,13,14] (.into (.cl (ih (i1 + 1) _ hw hd2 t1 (out ++ [x4]) H)))))))))))))

def podestaref04_Apply_raw (l : List Rule) (m1 : Mod) (room : Int) : Option ((List Rule) × Int) :=
  (podestaref04_Table_raw l).bind fun x =>
  (bif ((!x) || (!(podestaref04_Mod m1))) then
    some ([], 2)
  else
    (bif (m1.Kind == 1) then
      loopO (podestaref04_Apply_l0s m1 l false false) fun v =>
      (bif (m1.Check && v.2) then
        some ([], 6)
      else
        (bif ((!v.1) && (decide ((((List.map Rule.av l).length : Nat) : Int) ≥ room))) then
          some ([], 3)
        else
          fitO (([] : List Rule).length + l.length) 272 (
          fitO ((([] : List Rule) ++ l).length + [({ m1 with Hits := 0, Quiet := 0, Age := 0 } : Rule)].length) 272 (
          (refSortO ((([] : List Rule) ++ l) ++ [({ m1 with Hits := 0, Quiet := 0, Age := 0 } : Rule)])).bind fun x2 =>
          some (x2, 0)))))
    else
      (podestaref04_Touched_raw l m1).bind fun x3 =>
      (podestaref04_Apply_l1s m1 l 0 x3 ([] : List Rule)).bind fun v1 =>
      some (v1, 0)))
theorem podestaref04_Apply_walk (l : List Rule) (m1 : Mod) (room : Int) (f_l : Bool) (r : (List Rule) × Int) (H : podestaref04_Apply_raw l m1 room = some r) : ACalls Try.prog tab.S 10 [.sl 51 (List.map Rule.av l) f_l, Mod.av m1, .sc (.int .i64 room)] [] (.tup [.sl 51 (List.map Rule.av r.1) false, .sc (.int .i64 r.2)]) [] := by
  refine .of_AX podestaref04_Apply_F Try.func10 fun c0 hc0 => ?_
  rw [podestaref04_Apply_raw] at H
  refine .sg 4 [0,2,4] (.rg (.sg 1 [0,2,4,16] (bndO H fun x hv H => (.cp [0,2,4,17] (podestaref04_Table_walk l f_l x hv) (.sg 2 [0,2,4,19] (.mm 19 (!x) 4 [.pure, .pure, .pure, .read] [0, 2, 4, 23] 23 (fun z => .sc (.bool (z || (!(podestaref04_Mod m1))))) ?J1 (fun hb J => ?ht1) (fun hb J => ?hf1)))))))
  case ht1 =>
    exact .sg 4 [0,2,4,23] (.cl J)
  case hf1 =>
    exact .sg 1 [0,2,4,19,20] (.cp [0,2,4,19,21] (podestaref04_Mod_calls m1) (.sg 2 [0,2,4,23] (.cl J)))
  refine .dn (.cd ((!x) || (!(podestaref04_Mod m1))) H (fun hb H => ?_) (fun hb H => ?_))
  ·
    refine .sg 2 [6,7] ?_
    obtain rfl := Option.some.inj H
    exact .ret Try.func10 hc0 [] [(51, false)]
  ·
    refine .sg 4 [0,2,4,26] (.cd (m1.Kind == 1) H (fun hb H => ?_) (fun hb H => ?_))
    ·
      refine .sg 8 [0,2,4,8,9,10,11] ?_
      rcases loopO_some H with ⟨v, hv, H⟩ | hv
      case inr =>
        exact .into (.to (podestaref04_Apply_l0_walk l m1 room x f_l _ c0 hc0 (.inr _) (fun _ e => by cases e) (fun _ e => (Sum.inr.inj e).symm) l 0 _ rfl rfl false false hv))
      refine .into (.to (podestaref04_Apply_l0_walk l m1 room x f_l r c0 hc0 (.inl v) (fun w e => ?_) (fun _ e => by cases e) l 0 _ rfl rfl false false hv))
      have e := Sum.inl.inj e
      subst e
      refine .sg 2 [0,2,4,8,9,10] (.rg (.sg 3 [0,2,8,9,10,71] (.mx 0 [0,2,8,9,73] (.dn (.cd (m1.Check && v.2) H (fun hb H => ?_) (fun hb H => ?_))))))
      ·
        refine .sg 2 [6,7] ?_
        obtain rfl := Option.some.inj H
        exact .ret Try.func10 hc0 [] [(51, false)]
      ·
        refine .sg 3 [0,2,8,9] (.rg (.sg 3 [0,2,8,76] (.mx 0 [0,8,81] (.dn (.cd ((!v.1) && (decide ((((List.map Rule.av l).length : Nat) : Int) ≥ room))) H (fun hb H => ?_) (fun hb H => ?_))))))
        ·
          refine .sg 2 [6,7] ?_
          obtain rfl := Option.some.inj H
          exact .ret Try.func10 hc0 [] [(51, false)]
        ·
          refine .sg 2 [0,8] (fitH H fun hfit1 H => (fitH H fun hfit2 H => (bndO H fun x2 hv_x2 H => (.rp hc0 [6, 7] [⟨2, [], [], .loud, [(82, .sl 51 (List.map Rule.av []) true), (83, .sl 51 (List.map Rule.av l) f_l)], [.box 33 (Mod.ch m1), .box 51 [.arr .u64 12 m1.Match.Value, .arr .u64 12 m1.Match.Care, .sc (.int .i64 m1.Prio), .sl 60 (List.map Act.av m1.Acts) false, .sc (.int .i64 m1.Idle), .sc (.int .i64 m1.Hard), .sc (.int .i64 m1.Owner), .sc (.int .i64 0), .sc (.int .i64 0), .sc (.int .i64 0)]], .own 2 1000000, [.box 33 (Mod.ch m1), .box 51 [.arr .u64 12 m1.Match.Value, .arr .u64 12 m1.Match.Care, .sc (.int .i64 m1.Prio), .sl 60 (List.map Act.av m1.Acts) false, .sc (.int .i64 m1.Idle), .sc (.int .i64 m1.Hard), .sc (.int .i64 m1.Owner), .sc (.int .i64 0), .sc (.int .i64 0), .sc (.int .i64 0)], .row 51 (List.map Rule.av (([] : List Rule) ++ l)) 1000000 true]⟩, ⟨5, [], [], .loud, [(84, .own 2 1000000), (86, .sl 51 (List.map Rule.av [({ m1 with Hits := 0, Quiet := 0, Age := 0 } : Rule)]) true)], [.box 33 (Mod.ch m1), .box 51 [.arr .u64 12 m1.Match.Value, .arr .u64 12 m1.Match.Care, .sc (.int .i64 m1.Prio), .sl 60 (List.map Act.av m1.Acts) false, .sc (.int .i64 m1.Idle), .sc (.int .i64 m1.Hard), .sc (.int .i64 m1.Owner), .sc (.int .i64 0), .sc (.int .i64 0), .sc (.int .i64 0)], .row 51 (List.map Rule.av (([] : List Rule) ++ l)) 1000000 true], .own 2 1000001, [.box 33 (Mod.ch m1), .box 51 [.arr .u64 12 m1.Match.Value, .arr .u64 12 m1.Match.Care, .sc (.int .i64 m1.Prio), .sl 60 (List.map Act.av m1.Acts) false, .sc (.int .i64 m1.Idle), .sc (.int .i64 m1.Hard), .sc (.int .i64 m1.Owner), .sc (.int .i64 0), .sc (.int .i64 0), .sc (.int .i64 0)], .row 51 (List.map Rule.av ((([] : List Rule) ++ l) ++ [({ m1 with Hits := 0, Quiet := 0, Age := 0 } : Rule)])) 1000001 true]⟩, ⟨6, [], [], .loud, [(87, .own 2 1000001)], [.box 33 (Mod.ch m1), .box 51 [.arr .u64 12 m1.Match.Value, .arr .u64 12 m1.Match.Care, .sc (.int .i64 m1.Prio), .sl 60 (List.map Act.av m1.Acts) false, .sc (.int .i64 m1.Idle), .sc (.int .i64 m1.Hard), .sc (.int .i64 m1.Owner), .sc (.int .i64 0), .sc (.int .i64 0), .sc (.int .i64 0)], .row 51 (List.map Rule.av ((([] : List Rule) ++ l) ++ [({ m1 with Hits := 0, Quiet := 0, Age := 0 } : Rule)])) 1000001 true], .sl 51 (List.map Rule.av x2) false, [.box 33 (Mod.ch m1), .box 51 [.arr .u64 12 m1.Match.Value, .arr .u64 12 m1.Match.Care, .sc (.int .i64 m1.Prio), .sl 60 (List.map Act.av m1.Acts) false, .sc (.int .i64 m1.Idle), .sc (.int .i64 m1.Hard), .sc (.int .i64 m1.Owner), .sc (.int .i64 0), .sc (.int .i64 0), .sc (.int .i64 0)], .row 51 (List.map Rule.av ((([] : List Rule) ++ l) ++ [({ m1 with Hits := 0, Quiet := 0, Age := 0 } : Rule)])) 1000001 false]⟩] [[0, 1, 2], [0, 1, 2]] (.cons (LQ.ab Rule.av hfit1 rfl) (.cons (LQ.ap Rule.av hfit2) (.cons (LQ.cc [2] (podestaref04_Sort_ok ((([] : List Rule) ++ l) ++ [({ m1 with Hits := 0, Quiet := 0, Age := 0 } : Rule)]) false x2 hv_x2)) .nil))) (by kernel_rfl) ?_))))
          obtain rfl := Option.some.inj H
          exact .ret Try.func10 hc0
    ·
      refine .sg 4 [0,4,12] (.rg (.sg 2 [0,4,12,89,90] (bndO H fun x3 hv H => (.cp [0,4,12,91] (podestaref04_Touched_walk l m1 f_l x3 hv) (.sg 1 [0,4,12,13] (.dn (.sg 4 [0,4,12,13,14] (.ad 12 51 true (.kp [0,4,12,13,14] ?_)))))))))
      refine bndO H fun v1 hv H => (.into (.to (podestaref04_Apply_l1_walk l m1 room x x3 f_l r c0 hc0 v1 ?_ l 0 _ rfl rfl x3 ([] : List Rule) hv)))
      refine .sg 2 [6,7] ?_
      obtain rfl := Option.some.inj H
      exact .ret Try.func10 hc0

end Go.Proofs.Ytlfiemphadkimaa

set_option linter.unusedVariables false
set_option linter.unusedSimpArgs false
set_option maxRecDepth 100000
set_option maxHeartbeats 4000000
namespace Go.Proofs.Ytlfiemphadkimaa
open Go.Sh
def touchedL (m : Mod) : List Rule → Nat → List Int
  | [], _ => []
  | x :: l, i => bif mods_Sound m && mods_touches m x then ((i : Nat) : Int) :: touchedL m l (i + 1) else touchedL m l (i + 1)

theorem refMod_eq {m : Mod} (w : Mod.wf m) : podestaref04_Mod m = mods_Sound m := by
  obtain ⟨w1, w2, w3, w4, w5, w6, w7, _⟩ := w
  rw [podestaref04_Mod, mods_Sound, ← cube_Sound_eq w2, refActs_eq, ← act_Sound_eq (Act.wf_val w4)]
  have e1 : ∀ a b, podestaref04_span a b = mods_span a b := fun _ _ => rfl
  simp only [e1, List.length_map]
  cases cube_Sound m.Match with
  | false => simp
  | true =>
    cases act_Sound m.Acts with
    | false => simp
    | true =>
      cases hp : mods_span m.Prio 65535 with
      | false => simp
      | true =>
        cases ho : mods_span m.Owner 255 with
        | false => simp
        | true =>
          simp only [Bool.not_true, Bool.or_false, cond_false]
          have hk : m.Kind < 1 ∨ m.Kind = 1 ∨ m.Kind = 2 ∨ m.Kind = 3 ∨ m.Kind = 4 ∨ m.Kind = 5 ∨ m.Kind > 5 := by omega
          rcases hk with h | h | h | h | h | h | h
          · rw [decide_eq_true h]
            simp [show ¬ m.Kind = 1 by omega, show ¬ m.Kind = 2 by omega, show ¬ m.Kind = 3 by omega, show ¬ m.Kind = 4 by omega, show ¬ m.Kind = 5 by omega]
          · simp only [h, mods_span, mods_plain]
            cases hc : m.Check <;> by_cases hA : m.Acts = [] <;> (rw [Bool.eq_iff_iff]; simp [hA]; try omega)
          · simp only [h, mods_span, mods_plain]
            cases hc : m.Check <;> by_cases hA : m.Acts = [] <;> (rw [Bool.eq_iff_iff]; simp [hA]; try omega)
          · simp only [h, mods_span, mods_plain]
            cases hc : m.Check <;> by_cases hA : m.Acts = [] <;> (rw [Bool.eq_iff_iff]; simp [hA]; try omega)
          · simp only [h, mods_span, mods_plain]
            cases hc : m.Check <;> by_cases hA : m.Acts = [] <;> (rw [Bool.eq_iff_iff]; simp [hA]; try omega)
          · simp only [h, mods_span, mods_plain]
            cases hc : m.Check <;> by_cases hA : m.Acts = [] <;> (rw [Bool.eq_iff_iff]; simp [hA]; try omega)
          · rw [decide_eq_true h]
            simp [show ¬ m.Kind = 1 by omega, show ¬ m.Kind = 2 by omega, show ¬ m.Kind = 3 by omega, show ¬ m.Kind = 4 by omega, show ¬ m.Kind = 5 by omega]

theorem mod_acts (m : Mod) (h : mods_Sound m = true) : act_Sound m.Acts = true := by
  rw [mods_Sound] at h
  cases h2 : act_Sound m.Acts
  · rw [h2] at h
    simp at h
  · rfl
theorem rule_of_mod (m : Mod) (h : mods_Sound m = true) (hk : (m.Kind == 1) = true) : rule_Sound (mods_Rule m) = true := by
  rw [mods_Sound, hk] at h
  have e : ∀ a b, rule_span a b = mods_span a b := fun _ _ => rfl
  rw [rule_Sound]
  show (((((((cube_Sound m.Match) && (act_Sound m.Acts)) && (rule_span m.Prio 65535)) && (rule_span m.Idle 1048576)) && (rule_span m.Hard 1048576)) && (rule_span m.Owner 255)) && _) = true
  simp only [e]
  cases h1 : cube_Sound m.Match
  · rw [h1] at h; simp at h
  cases h2 : act_Sound m.Acts
  · rw [h2] at h; simp at h
  cases h3 : mods_span m.Prio 65535
  · rw [h3] at h; simp at h
  cases h4 : mods_span m.Owner 255
  · rw [h4] at h; simp at h
  rw [h1, h2, h3, h4] at h
  simp only [Bool.not_true, Bool.or_self, cond_false, cond_true, Bool.and_eq_true] at h
  rw [h.1, h.2]
  simp [mods_Rule]
theorem sound_acts (y : Rule) (a : List Act) (h : rule_Sound y = true) (ha : act_Sound a = true) : rule_Sound ({ y with Acts := a } : Rule) = true := by
  rw [rule_Sound] at h ⊢
  simp only [Bool.and_eq_true] at h ⊢
  obtain ⟨⟨⟨⟨⟨⟨h1, h2⟩, h3⟩, h4⟩, h5⟩, h6⟩, h7⟩ := h
  exact ⟨⟨⟨⟨⟨⟨h1, ha⟩, h3⟩, h4⟩, h5⟩, h6⟩, h7⟩
theorem stepM_some {m : Mod} {x y : Rule} (h : stepM m x = some y) : (mods_touches m x = false ∧ y = x) ∨ (mods_touches m x = true ∧ y = ({ x with Acts := m.Acts } : Rule)) := by
  unfold stepM at h
  cases ht : mods_touches m x
  · rw [ht] at h
    injection h with h
    exact .inl ⟨rfl, h.symm⟩
  · rw [ht] at h
    cases hk : (m.Kind == 3) || (m.Kind == 5)
    · rw [hk] at h
      injection h with h
      exact .inr ⟨rfl, h.symm⟩
    · rw [hk] at h; cases h
theorem stepM_key {m : Mod} {x y : Rule} (h : stepM m x = some y) : y.key = x.key := by
  rcases stepM_some h with ⟨_, rfl⟩ | ⟨_, rfl⟩ <;> rfl
theorem stepM_twice {m : Mod} {x y : Rule} (h : stepM m x = some y) : stepM m y = some y := by
  rcases stepM_some h with ⟨_, rfl⟩ | ⟨ht, rfl⟩
  · exact h
  · unfold stepM at h ⊢
    have e : mods_touches m ({ x with Acts := m.Acts } : Rule) = mods_touches m x := rfl
    rw [e, ht]
    rw [ht] at h
    cases hk : (m.Kind == 3) || (m.Kind == 5)
    · rfl
    · rw [hk] at h; cases h
theorem step_table (l : List Rule) (m : Mod) (hT : tableR l = true) (hS : mods_Sound m = true) : tableR (l.filterMap (stepM m)) = true := by
  obtain ⟨h1, h2⟩ := (tableR_iff l).1 hT
  refine (tableR_iff _).2 ⟨fun y hy => ?_, ?_⟩
  · obtain ⟨x, hx, hs⟩ := List.mem_filterMap.1 hy
    rcases stepM_some hs with ⟨_, rfl⟩ | ⟨_, rfl⟩
    · exact h1 _ hx
    · exact sound_acts x m.Acts (h1 x hx) (mod_acts m hS)
  · refine List.Pairwise.filterMap (stepM m) (fun a b hab c hc d hd => ?_) h2
    unfold RLt at *
    rw [stepM_key hc, stepM_key hd]
    exact hab
theorem filterMap_fix {α : Type} (f : α → Option α) : ∀ (l : List α), (∀ y ∈ l, f y = some y) → l.filterMap f = l
  | [], _ => rfl
  | x :: l, h => by
      rw [List.filterMap_cons, h x (by simp), filterMap_fix f l (fun y hy => h y (by simp [hy]))]

end Go.Proofs.Ytlfiemphadkimaa

set_option linter.unusedVariables false
set_option linter.unusedSimpArgs false
set_option maxRecDepth 100000
set_option maxHeartbeats 4000000
namespace Go.Proofs.Ytlfiemphadkimaa
open Go.Sh
theorem rule_wf {m : Mod} (w : Mod.wf m) : Rule.wf (mods_Rule m) := by
  obtain ⟨_, w2, w3, w4, w5, w6, w7, _⟩ := w
  have z : intW .i64 0 := by decide
  exact ⟨w2, w3, w4, w5, w6, w7, z, z, z⟩
theorem srt_one {x y : Rule} (e : x.key = y.key) (l : List Rule) : Srt l → x ∈ l → y ∈ l → x = y := by
  induction l with
  | nil =>
    intro _ hx
    cases hx
  | cons z l ih =>
    intro h hx hy
    unfold Srt at h
    rw [List.pairwise_cons] at h
    rcases List.mem_cons.1 hx with hx' | hx'
    · rcases List.mem_cons.1 hy with hy' | hy'
      · exact hx'.trans hy'.symm
      · exact absurd (h.1 y hy') (RLt.irr _ _ (by rw [← hx']; exact e))
    · rcases List.mem_cons.1 hy with hy' | hy'
      · exact absurd (h.1 x hx') (RLt.irr _ _ (by rw [← hy']; exact e.symm))
      · exact ih h.2 hx' hy'
theorem refApply_l0 {m : Mod} (wm : Mod.wf m) : ∀ (l : List Rule) (there meets : Bool), (∀ y ∈ l, Rule.wf y) →
    podestaref04_Apply_l0s m l there meets = some (if l.any (fun x => rule_Key x (mods_Rule m) && (x.Owner != m.Owner)) then .inr ([], 7) else .inl (there || l.any (fun x => rule_Key x (mods_Rule m)), meets || l.any (fun x => mods_add_2 x (mods_Rule m))))
  | [], there, meets, _ => by
      rw [podestaref04_Apply_l0s, List.any_nil, List.any_nil, List.any_nil, Bool.or_false, Bool.or_false]
      rfl
  | x :: l, there, meets, w => by
      have ih := fun t k => refApply_l0 wm l t k (fun y hy => w y (List.mem_cons_of_mem _ hy))
      have hO := Overlap_eq (w x List.mem_cons_self) (rule_wf wm)
      have e : ({ m with Hits := 0, Quiet := 0, Age := 0 } : Rule) = mods_Rule m := rfl
      have ek : podestaref04_Key x (mods_Rule m) = rule_Key x (mods_Rule m) := rfl
      have e2 : mods_add_2 x (mods_Rule m) = (!(rule_Key x (mods_Rule m)) && rule_Overlap x (mods_Rule m)) := rfl
      rw [podestaref04_Apply_l0s, e, ek, hO, List.any_cons, List.any_cons, List.any_cons, e2, Option.bind_some, ih, ih, ih]
      cases hk : rule_Key x (mods_Rule m) with
      | true =>
        cases ho : x.Owner != m.Owner with
        | true => rfl
        | false => simp
      | false =>
        cases meets with
        | true => simp
        | false => simp
theorem touch_ref {m : Mod} (wm : Mod.wf m) {x : Rule} (wx : Rule.wf x) : ((bif (bif (m.Kind == 2) then (m.Kind == 2) else (m.Kind == 3)) then ((x.Owner == m.Owner) && (withinT x.Match m.Match)) else ((bif (m.Kind == 4) then (m.Kind == 4) else (m.Kind == 5)) && (((x.Owner == m.Owner) && ((x.Match.Value == m.Match.Value) && (x.Match.Care == m.Match.Care))) && (x.Prio == m.Prio))))) = mods_touches m x := by
  rw [mods_touches, Within_eq wx.1 wm.2.1]
  cases (bif (m.Kind == 2) then (m.Kind == 2) else (m.Kind == 3)) with
  | true => rfl
  | false =>
    rw [cond_false, cond_false]
    cases (bif (m.Kind == 4) then (m.Kind == 4) else (m.Kind == 5)) with
    | false => rfl
    | true =>
      rw [cond_true, Bool.true_and, Bool.and_assoc]
      rfl
theorem refTouched_l0 {m : Mod} (wm : Mod.wf m) : ∀ (l : List Rule) (i : Nat) (out : List Int), (∀ y ∈ l, Rule.wf y) → out.length + l.length ≤ 100000 → podestaref04_Touched_l0s m l i out = some (out ++ touchedL m l i)
  | [], i, out, _, _ => by rw [podestaref04_Touched_l0s, touchedL, List.append_nil]
  | x :: l, i, out, w, h => by
      rw [List.length_cons] at h
      have ih := fun o ho => refTouched_l0 wm l (i + 1) o (fun y hy => w y (List.mem_cons_of_mem _ hy)) ho
      rw [podestaref04_Touched_l0s, touchedL, touch_ref wm (w x List.mem_cons_self), refMod_eq wm, Bool.and_comm, fitO_eq (by rw [List.length_cons, List.length_nil]; omega), ih out (by omega), ih (out ++ [((i : Nat) : Int)]) (by rw [List.length_append, List.length_cons, List.length_nil]; omega), List.append_assoc]
      cases mods_Sound m && mods_touches m x <;> rfl
theorem touchedL_ge (m : Mod) : ∀ (l : List Rule) (i : Nat), ∀ y ∈ touchedL m l i, ((i : Nat) : Int) ≤ y
  | [], i, y, h => by cases h
  | x :: l, i, y, h => by
      rw [touchedL] at h
      have ih := touchedL_ge m l (i + 1) y
      cases hc : mods_Sound m && mods_touches m x with
      | true =>
        rw [hc, cond_true] at h
        rcases List.mem_cons.1 h with rfl | h
        · exact Int.le_refl _
        · have := ih h
          omega
      | false =>
        rw [hc, cond_false] at h
        have := ih h
        omega
theorem slice_one {α : Type} (x : α) (l : List α) : sliceO (x :: l) (some 1) none none = some l := by
  unfold sliceO
  rw [if_pos (by simp only [Option.getD_some, Option.getD_none, List.length_cons]; refine ⟨by omega, by omega, by omega, .inl trivial⟩)]
  simp only [Option.getD_some, Option.getD_none]
  congr 1
  show List.take _ l = l
  exact List.take_of_length_le (by rw [List.length_cons]; omega)
theorem refApply_l1 {m : Mod} (hS : mods_Sound m = true) : ∀ (l : List Rule) (i : Nat) (out : List Rule), out.length + l.length ≤ 100000 → podestaref04_Apply_l1s m l i (touchedL m l i) out = some (out ++ l.filterMap (stepM m))
  | [], i, out, _ => by rw [podestaref04_Apply_l1s, List.filterMap_nil, List.append_nil]
  | x :: l, i, out, h => by
      rw [List.length_cons] at h
      have ih := fun o ho => refApply_l1 hS l (i + 1) o ho
      have e : stepM m x = bif mods_touches m x then (bif ((m.Kind == 3) || (m.Kind == 5)) then none else some ({ x with Acts := m.Acts } : Rule)) else some x := rfl
      have hf : ∀ y : Rule, (out.length + [y].length) * 272 ≤ 140737488355328 := fun y => by rw [List.length_cons, List.length_nil]; omega
      have hi : ∀ y : Rule, podestaref04_Apply_l1s m l (i + 1) (touchedL m l (i + 1)) (out ++ [y]) = some (out ++ y :: l.filterMap (stepM m)) := fun y => by
        rw [ih _ (by rw [List.length_append, List.length_cons, List.length_nil]; omega), List.append_assoc]
        rfl
      rw [podestaref04_Apply_l1s, touchedL, hS, Bool.true_and, List.filterMap_cons, e, fitO_eq (hf x)]
      cases mods_touches m x with
      | true =>
        rw [cond_true, cond_true, List.length_map, decide_eq_true (by rw [List.length_cons]; omega), cond_true]
        have h0 : ixO (((i : Nat) : Int) :: touchedL m l (i + 1)) 0 = some ((i : Nat) : Int) := rfl
        rw [h0, Option.bind_some, beq_self_eq_true, cond_true, slice_one, Option.bind_some]
        cases (m.Kind == 3) || (m.Kind == 5) with
        | true => exact ih _ (by omega)
        | false =>
          rw [cond_false, fitO_eq (hf _)]
          exact hi _
      | false =>
        rw [cond_false, cond_false, List.length_map]
        have hg := touchedL_ge m l (i + 1)
        cases ht : touchedL m l (i + 1) with
        | nil =>
          rw [ht] at hi
          exact hi x
        | cons t r =>
          rw [ht] at hi hg
          have ht2 := hg t List.mem_cons_self
          rw [decide_eq_true (by rw [List.length_cons]; omega), cond_true]
          have h0 : ixO (t :: r) 0 = some t := rfl
          have hne : (t == ((i : Nat) : Int)) = false := by simp; omega
          rw [h0, Option.bind_some, hne, cond_false]
          exact hi x
theorem any_false {α : Type} {p : α → Bool} {l : List α} (h : ∀ x ∈ l, p x = false) : l.any p = false := by
  rw [Bool.eq_false_iff]
  intro ha
  obtain ⟨x, hx, hp⟩ := List.any_eq_true.1 ha
  rw [h x hx] at hp
  cases hp
theorem refApply_eq {l : List Rule} {m : Mod} (w : ∀ y ∈ l, Rule.wf y) (wm : Mod.wf m) (room : Int) (hl : l.length ≤ 1000) : podestaref04_Apply_raw l m room = some (applyM l m room) := by
  rw [podestaref04_Apply_raw, refTable_raw_eq l w (by omega), Option.bind_some, refMod_eq wm]
  unfold applyM
  cases hT : tableR l with
  | false => rfl
  | true =>
  cases hS : mods_Sound m with
  | false => rfl
  | true =>
  rw [Bool.not_true, Bool.or_false, cond_false, cond_false]
  cases hk : m.Kind == 1 with
  | false =>
    rw [cond_false, cond_false, podestaref04_Touched_raw, refTouched_l0 wm l 0 [] w (by rw [List.length_nil]; omega), Option.bind_some, Option.bind_some, List.nil_append, refApply_l1 hS l 0 [] (by rw [List.length_nil]; omega)]
    rfl
  | true =>
    have hs := ((tableR_iff l).1 hT).2
    have e : ({ m with Hits := 0, Quiet := 0, Age := 0 } : Rule) = mods_Rule m := rfl
    have hw : ∀ y ∈ l ++ [mods_Rule m], Rule.wf y := by
      intro y hy
      rcases List.mem_append.1 hy with h | h
      · exact w y h
      · rw [List.mem_singleton] at h
        subst h
        exact rule_wf wm
    have hq := refSortO_eq hw (by rw [List.length_append, List.length_singleton]; omega)
    rw [cond_true, cond_true, refApply_l0 wm l false false w, e, fitO_eq (by rw [List.length_nil]; omega), fitO_eq (by rw [List.nil_append, List.length_cons, List.length_nil]; omega), List.nil_append, hq, List.length_map]
    unfold addM
    cases hf : l.find? (fun x => rule_Key x (mods_Rule m)) with
    | none =>
      have hn := List.find?_eq_none.1 hf
      rw [any_false (p := fun x => rule_Key x (mods_Rule m) && (x.Owner != m.Owner)) (fun x hx => by
        have := hn x hx
        rw [Bool.eq_false_iff.2 this]
        rfl), any_false (p := fun x => rule_Key x (mods_Rule m)) (fun x hx => Bool.eq_false_iff.2 (hn x hx))]
      rw [if_neg (by decide)]
      show (bif m.Check && (false || l.any (fun x => mods_add_2 x (mods_Rule m))) then some (([] : List Rule), (6 : Int)) else bif true && decide ((l.length : Int) ≥ room) then some ([], 3) else some (sortR (l ++ [mods_Rule m]), 0)) = _
      rw [Bool.false_or, Bool.true_and]
      cases m.Check && l.any (fun x => mods_add_2 x (mods_Rule m)) with
      | true => rfl
      | false =>
        cases decide ((l.length : Int) ≥ room) <;> rfl
    | some x =>
      have hx := List.mem_of_find?_eq_some hf
      have hkx : rule_Key x (mods_Rule m) = true := by simpa using List.find?_some hf
      have h1 : l.any (fun x => rule_Key x (mods_Rule m)) = true := List.any_eq_true.2 ⟨x, hx, hkx⟩
      have h2 : l.any (fun x => rule_Key x (mods_Rule m) && (x.Owner != m.Owner)) = (x.Owner != m.Owner) := by
        cases ho : x.Owner != m.Owner with
        | true => exact List.any_eq_true.2 ⟨x, hx, by rw [hkx, ho]; rfl⟩
        | false =>
          refine any_false fun y hy => ?_
          cases hy2 : rule_Key y (mods_Rule m) with
          | false => rfl
          | true =>
            rw [Key_key, decide_eq_true_eq] at hkx hy2
            have := srt_one (hy2.trans hkx.symm) l hs hy hx
            subst this
            rw [ho]
            rfl
      rw [h1, h2]
      dsimp only
      cases x.Owner != m.Owner with
      | true => rfl
      | false =>
        rw [if_neg (by decide)]
        show (bif m.Check && (false || l.any (fun x => mods_add_2 x (mods_Rule m))) then some (([] : List Rule), (6 : Int)) else bif false && decide ((l.length : Int) ≥ room) then some ([], 3) else some (sortR (l ++ [mods_Rule m]), 0)) = _
        rw [Bool.false_or, Bool.false_and, cond_false]
        cases m.Check && l.any (fun x => mods_add_2 x (mods_Rule m)) <;> rfl

theorem step_wf {m : Mod} (wm : Mod.wf m) {x y : Rule} (wx : Rule.wf x) (h : stepM m x = some y) : Rule.wf y := by
  rcases stepM_some h with ⟨_, rfl⟩ | ⟨_, rfl⟩
  · exact wx
  · obtain ⟨w1, w2, _, w4⟩ := wx
    exact ⟨w1, w2, wm.2.2.2.1, w4⟩
theorem fold_mem : ∀ (l out : List Rule), Srt out → ∀ y ∈ l.foldl putR out, y ∈ out ∨ y ∈ l
  | [], out, _, y, h => .inl h
  | x :: l, out, hs, y, h => by
      rw [List.foldl_cons] at h
      rcases fold_mem l (putR out x) (putR_srt hs x) y h with q | q
      · rcases putR_mem hs q with q | q
        · exact .inl q
        · exact .inr (by rw [q.1]; exact List.mem_cons_self)
      · exact .inr (List.mem_cons_of_mem _ q)
theorem sortR_mem (l : List Rule) : ∀ y ∈ sortR l, y ∈ l := fun y h => (fold_mem l [] List.Pairwise.nil y h).resolve_left (by simp)
theorem apply_wf {l : List Rule} {m : Mod} (w : ∀ y ∈ l, Rule.wf y) (wm : Mod.wf m) (room : Int) : ∀ y ∈ (applyM l m room).1, Rule.wf y := by
  unfold applyM
  cases (!(tableR l)) || (!(mods_Sound m)) with
  | true => intro y h; cases h
  | false =>
    rw [cond_false]
    cases m.Kind == 1 with
    | false =>
      rw [cond_false]
      intro y h
      obtain ⟨x, hx, hy⟩ := List.mem_filterMap.1 h
      exact step_wf wm (w x hx) hy
    | true =>
      have hsort : ∀ y ∈ sortR (l ++ [mods_Rule m]), Rule.wf y := by
        intro y hy
        rcases List.mem_append.1 (sortR_mem _ y hy) with h | h
        · exact w y h
        · rw [List.mem_singleton] at h
          subst h
          exact rule_wf wm
      rw [cond_true]
      unfold addM
      split
      · split
        · intro y h; cases h
        · split
          · intro y h; cases h
          · exact hsort
      · split
        · intro y h; cases h
        · split
          · intro y h; cases h
          · exact hsort
theorem apply_table {l : List Rule} {m : Mod} (room : Int) (h : (applyM l m room).2 = 0) : tableR (applyM l m room).1 = true := by
  unfold applyM at h ⊢
  cases hT : tableR l with
  | false =>
    rw [hT] at h
    cases h
  | true =>
  cases hS : mods_Sound m with
  | false =>
    rw [hT, hS] at h
    cases h
  | true =>
  rw [hT, hS, Bool.not_true, Bool.or_false, cond_false] at h
  rw [Bool.not_true, Bool.or_false, cond_false]
  cases hk : m.Kind == 1 with
  | false => exact step_table l m hT hS
  | true =>
    rw [hk, cond_true] at h
    rw [cond_true]
    unfold addM at h ⊢
    split at h
    · split at h
      · cases h
      · split at h
        · cases h
        · rename_i x hx h1 h2
          rw [if_neg h1, if_neg h2]
          exact tableR_sort _
    · split at h
      · cases h
      · split at h
        · cases h
        · rename_i hx h1 h2
          rw [if_neg h1, if_neg h2]
          exact tableR_sort _
theorem apply_len {l : List Rule} {m : Mod} (room : Int) : (applyM l m room).1.length ≤ l.length + 1 := by
  unfold applyM
  cases (!(tableR l)) || (!(mods_Sound m)) with
  | true => exact Nat.zero_le _
  | false =>
    rw [cond_false]
    cases m.Kind == 1 with
    | false => exact Nat.le_trans (List.length_filterMap_le _ _) (Nat.le_succ _)
    | true =>
      have hl : (sortR (l ++ [mods_Rule m])).length ≤ l.length + 1 := Nat.le_trans (sortR_len _) (by rw [List.length_append, List.length_singleton]; exact Nat.le_refl _)
      rw [cond_true]
      unfold addM
      split
      · split
        · exact Nat.zero_le _
        · split
          · exact Nat.zero_le _
          · exact hl
      · split
        · exact Nat.zero_le _
        · split
          · exact Nat.zero_le _
          · exact hl

end Go.Proofs.Ytlfiemphadkimaa

set_option linter.unusedVariables false
set_option linter.unusedSimpArgs false
set_option maxRecDepth 100000
set_option maxHeartbeats 4000000
namespace Go.Proofs.Ytlfiemphadkimaa
open Go.Sh
/-! ### podestalaw08.UndoStill: function 6 -/
noncomputable def podestalaw08_UndoStill_F : Go.Sh.Fn := ⟨6, bodyOf Try.f6, 68⟩
def podestalaw08_UndoStill_raw (l : List Rule) : Option (Bool) :=
  (bif (decide ((((List.map Rule.av l).length : Nat) : Int) > 40)) then
    some true
  else
    (undo_Back_raw l ({ Gone := [], New := [] } : Patch)).bind fun x =>
    (undo_Forth_raw l ({ Gone := [], New := [] } : Patch)).bind fun x1 =>
    (podestaref04_Table_raw l).bind fun x2 =>
    (bif (!x2) then
      some ((x.2 == 2) && (x1.2 == 2))
    else
      some ((((((IntKind.i64.wrap ((((List.map Rule.av ((undo_Diff l l).Gone)).length : Nat) : Int) + (((List.map Rule.av ((undo_Diff l l).New)).length : Nat) : Int))) == 0) && (x.2 == 0)) && (x1.2 == 0)) && (zipAll podestaref04_Equal x.1 l)) && (zipAll podestaref04_Equal x1.1 l))))
theorem podestalaw08_UndoStill_walk (l : List Rule) (f_l : Bool) (r : Bool) (H : podestalaw08_UndoStill_raw l = some r) : ACalls Try.prog tab.S 6 [.sl 51 (List.map Rule.av l) f_l] [] (.sc (.bool r)) [] := by
  refine .of_AX podestalaw08_UndoStill_F Try.func6 fun c0 hc0 => ?_
  rw [podestalaw08_UndoStill_raw] at H
  refine .sg 5 [0,10] (.cd (decide ((((List.map Rule.av l).length : Nat) : Int) > 40)) H (fun hb H => ?_) (fun hb H => ?_))
  ·
    refine .sg 1 [] (.rg (.cp [11] (podestalaw08_answers_ok) (.sg 1 [2] (.dn ?_))))
    obtain rfl := Option.some.inj H
    exact .ret Try.func6 hc0
  ·
    refine .sg 2 [0] (.rg (.sg 2 [0,12,13] (.cp [0,14] (undo_Diff_calls l l f_l f_l) (.sg 2 [0,3] (.dn (.sg 1 [0,3] (.rg (.sg 2 [0,3,16,17] (bndO H fun x hv H => (.cp [0,3,18] (ds := [(0, true), (51, false), (51, false)]) (undo_Back_walk l ({ Gone := [], New := [] } : Patch) f_l x hv) (.sg 5 [0,3,4,5] (.dn (.sg 1 [0,3,4,5] (.rg (.sg 2 [0,3,4,5,22,23] (bndO H fun x1 hv H => (.cp [0,3,4,5,24] (ds := [(0, true), (51, false), (51, false)]) (undo_Forth_walk l ({ Gone := [], New := [] } : Patch) f_l x1 hv) (.sg 5 [0,3,4,5,6,7] (.dn (.sg 2 [0,3,4,5,6,7] (.rg (.sg 1 [0,3,4,5,6,7,27] (bndO H fun x2 hv H => (.cp [0,3,4,5,6,7,28] (podestaref04_Table_walk l f_l x2 hv) (.sg 1 [0,3,4,5,6,7,29] (.dn (.cd (!x2) H (fun hb H => ?_) (fun hb H => ?_))))))))))))))))))))))))))))
    ·
      refine .sg 1 [5,7] (.rg (.cp [5,7,30] (podestalaw08_answers_ok) (.sg 5 [7,35] (.mx 0 [38] (.sg 1 [2] (.dn ?_))))))
      obtain rfl := Option.some.inj H
      exact .ret Try.func6 hc0
    ·
      refine .sg 2 [0,3,4,5,6,7] (.rg (.cp [0,3,4,5,6,7,39] (podestalaw08_answers_ok) (.sg 11 [0,4,5,6,7,50] (.mx 0 [0,4,6,7,53] (.sg 1 [0,4,6,7,54] (.mx 0 [0,4,6,57] (.sg 1 [0,4,6,58] (.mm 58 ((((IntKind.i64.wrap ((((List.map Rule.av ((undo_Diff l l).Gone)).length : Nat) : Int) + (((List.map Rule.av ((undo_Diff l l).New)).length : Nat) : Int))) == 0) && (x.2 == 0)) && (x1.2 == 0)) 4 [.pure, .pure, .pure, .pure] [0, 6, 62] 62 (fun z => .sc (.bool (z && (zipAll podestaref04_Equal x.1 l)))) ?J5 (fun hb J => ?ht5) (fun hb J => ?hf5)))))))))
      case ht5 =>
        exact .sg 2 [0,6,58,59,60] (.cp [0,6,58,61] (podestaref04_Same_ok x.1 l true f_l) (.sg 1 [0,6,62] (.cl J)))
      case hf5 =>
        exact .sg 4 [0,6,62] (.cl J)
      refine .sg 1 [0,6,63] (.mm 63 (((((IntKind.i64.wrap ((((List.map Rule.av ((undo_Diff l l).Gone)).length : Nat) : Int) + (((List.map Rule.av ((undo_Diff l l).New)).length : Nat) : Int))) == 0) && (x.2 == 0)) && (x1.2 == 0)) && (zipAll podestaref04_Equal x.1 l)) 4 [.pure, .pure, .pure, .pure] [67] 67 (fun z => .sc (.bool (z && (zipAll podestaref04_Equal x1.1 l)))) ?J6 (fun hb J => ?ht6) (fun hb J => ?hf6))
      case ht6 =>
        exact .sg 2 [63,64,65] (.cp [63,66] (podestaref04_Same_ok x1.1 l true f_l) (.sg 1 [67] (.cl J)))
      case hf6 =>
        exact .sg 4 [67] (.cl J)
      refine .sg 1 [2] (.dn ?_)
      obtain rfl := Option.some.inj H
      exact .ret Try.func6 hc0

/-! ### podestalaw08.UndoTwice: function 7 -/
noncomputable def podestalaw08_UndoTwice_F : Go.Sh.Fn := ⟨7, bodyOf Try.f7, 83⟩
def podestalaw08_UndoTwice_raw (a : List Rule) (b : List Rule) : Option (Bool) :=
  (bif ((decide ((((List.map Rule.av a).length : Nat) : Int) > 40)) || (decide ((((List.map Rule.av b).length : Nat) : Int) > 40))) then
    some true
  else
    (podestaref04_Table_raw a).bind fun x =>
    (bif (!x) then
      some true
    else
      (podestaref04_Table_raw b).bind fun x1 =>
      (bif (!x1) then
        some true
      else
        (undo_Forth_raw a (undo_Diff a b)).bind fun x2 =>
        (undo_Back_raw x2.1 (undo_Diff a b)).bind fun x3 =>
        (undo_Forth_raw x3.1 (undo_Diff a b)).bind fun x4 =>
        (undo_Forth_raw b (undo_Diff b a)).bind fun x5 =>
        some ((((x4.2 == 0) && (zipAll podestaref04_Equal x4.1 b)) && (x5.2 == 0)) && (zipAll podestaref04_Equal x5.1 a)))))
theorem podestalaw08_UndoTwice_walk (a : List Rule) (b : List Rule) (f_a : Bool) (f_b : Bool) (r : Bool) (H : podestalaw08_UndoTwice_raw a b = some r) : ACalls Try.prog tab.S 7 [.sl 51 (List.map Rule.av a) f_a, .sl 51 (List.map Rule.av b) f_b] [] (.sc (.bool r)) [] := by
  refine .of_AX podestalaw08_UndoTwice_F Try.func7 fun c0 hc0 => ?_
  rw [podestalaw08_UndoTwice_raw] at H
  refine .sg 4 [0,1] (.rg (.sg 4 [0,1,18] (.mx 1 [0,1,22] (.sg 1 [0,1,23] (.sp 23 ((decide ((((List.map Rule.av a).length : Nat) : Int) > 40)) || (decide ((((List.map Rule.av b).length : Nat) : Int) > 40))) H (fun hb H => ?_) (fun hb H => ?_))))))
  ·
    refine .sg 9 [0,1,32] (.dn (.sg 2 [] (.rg (.cp [33] (podestalaw08_answers_ok) (.sg 1 [4] (.dn ?_))))))
    obtain rfl := Option.some.inj H
    exact .ret Try.func7 hc0
  ·
    refine .sg 1 [0,1,23,24] (bndO H fun x hv H => (.cp [0,1,23,25] (podestaref04_Table_walk a f_a x hv) (.sg 3 [0,1,28] (.sp 28 (!x) H (fun hb H => ?_) (fun hb H => ?_)))))
    ·
      refine .sg 4 [0,1,32] (.dn (.sg 2 [] (.rg (.cp [33] (podestalaw08_answers_ok) (.sg 1 [4] (.dn ?_))))))
      obtain rfl := Option.some.inj H
      exact .ret Try.func7 hc0
    ·
      refine .sg 1 [0,1,28,29] (bndO H fun x1 hv H => (.cp [0,1,28,30] (podestaref04_Table_walk b f_b x1 hv) (.sg 2 [0,1,32] (.dn (.cd (!x1) H (fun hb H => ?_) (fun hb H => ?_))))))
      ·
        refine .sg 1 [] (.rg (.cp [33] (podestalaw08_answers_ok) (.sg 1 [4] (.dn ?_))))
        obtain rfl := Option.some.inj H
        exact .ret Try.func7 hc0
      ·
        refine .sg 2 [0,1] (.rg (.sg 2 [0,1,34,35] (.cp [0,1,36] (undo_Diff_calls a b f_a f_b) (.sg 2 [0,1,5] (.dn (.sg 1 [0,1,5] (.rg (.sg 2 [0,1,5,38,39] (bndO H fun x2 hv H => (.cp [0,1,5,40] (undo_Forth_walk a (undo_Diff a b) f_a x2 hv) (.sg 5 [0,1,5,6] (.dn (.sg 1 [0,1,5,6] (.rg (.sg 2 [0,1,5,44,45] (bndO H fun x3 hv H => (.cp [0,1,5,46] (undo_Back_walk x2.1 (undo_Diff a b) true x3 hv) (.sg 5 [0,1,5,8] (.dn (.sg 1 [0,1,5,8] (.rg (.sg 2 [0,1,50,51] (bndO H fun x4 hv H => (.cp [0,1,52] (undo_Forth_walk x3.1 (undo_Diff a b) true x4 hv) (.sg 5 [0,1,10,11] (.dn (.sg 1 [0,1,10,11] (.rg (.sg 2 [0,1,10,11,55,56] (.cp [0,1,10,11,57] (undo_Diff_calls b a f_b f_a) (.sg 2 [0,1,10,11,12] (.dn (.sg 1 [0,1,10,11,12] (.rg (.sg 2 [0,1,10,11,59,60] (bndO H fun x5 hv H => (.cp [0,1,10,11,61] (undo_Forth_walk b (undo_Diff b a) f_b x5 hv) (.sg 5 [0,1,10,11,13,14] (.dn (.sg 1 [0,1,10,11,13,14] (.rg (.cp [0,1,10,11,13,14,64] (podestalaw08_answers_ok) (.sg 5 [0,1,10,13,14,69] (.mm 69 (x4.2 == 0) 4 [.pure, .pure, .pure, .pure] [0, 13, 14, 73] 73 (fun z => .sc (.bool (z && (zipAll podestaref04_Equal x4.1 b)))) ?J2 (fun hb J => ?ht2) (fun hb J => ?hf2)))))))))))))))))))))))))))))))))))))))))))))
        case ht2 =>
          exact .sg 2 [0,13,14,69,70,71] (.cp [0,13,14,69,72] (podestaref04_Same_ok x4.1 b true f_b) (.sg 1 [0,13,14,73] (.cl J)))
        case hf2 =>
          exact .sg 4 [0,13,14,73] (.cl J)
        refine .sg 1 [0,13,14,74] (.mx 0 [0,13,77] (.sg 1 [0,13,78] (.mm 78 (((x4.2 == 0) && (zipAll podestaref04_Equal x4.1 b)) && (x5.2 == 0)) 4 [.pure, .pure, .pure, .pure] [82] 82 (fun z => .sc (.bool (z && (zipAll podestaref04_Equal x5.1 a)))) ?J4 (fun hb J => ?ht4) (fun hb J => ?hf4))))
        case ht4 =>
          exact .sg 2 [78,79,80] (.cp [78,81] (podestaref04_Same_ok x5.1 a true f_a) (.sg 1 [82] (.cl J)))
        case hf4 =>
          exact .sg 4 [82] (.cl J)
        refine .sg 1 [4] (.dn ?_)
        obtain rfl := Option.some.inj H
        exact .ret Try.func7 hc0

end Go.Proofs.Ytlfiemphadkimaa

set_option linter.unusedVariables false
set_option linter.unusedSimpArgs false
set_option maxRecDepth 100000
set_option maxHeartbeats 4000000
namespace Go.Proofs.Ytlfiemphadkimaa
open Go.Sh
theorem UndoTwice_true (a b : List Rule) (wa : ∀ y ∈ a, Rule.wf y) (wb : ∀ y ∈ b, Rule.wf y) (_ : a.length * 272 ≤ 140737488355328) (_ : b.length * 272 ≤ 140737488355328) : podestalaw08_UndoTwice_raw a b = some true := by
  rw [podestalaw08_UndoTwice_raw]
  simp only [List.length_map, ref_Same_eq]
  by_cases la : a.length > 40
  · rw [decide_eq_true (show ((a.length : Nat) : Int) > 40 by omega)]; rfl
  by_cases lb : b.length > 40
  · rw [decide_eq_true (show ((b.length : Nat) : Int) > 40 by omega), Bool.or_true]; rfl
  rw [decide_eq_false (by omega), decide_eq_false (by omega), refTable_raw_eq a wa (by omega), refTable_raw_eq b wb (by omega)]
  simp only [Bool.or_self, cond_false, Option.bind_some]
  cases ha : tableR a
  · rfl
  cases hb : tableR b
  · rfl
  simp only [Bool.not_true, cond_false]
  rw [Diff_tables ha hb, Diff_tables hb ha, Forth_diff ha hb (by omega) (by omega), Option.bind_some, Back_diff ha hb (by omega) (by omega), Option.bind_some, Forth_diff ha hb (by omega) (by omega), Option.bind_some, Forth_diff hb ha (by omega) (by omega), Option.bind_some]
  simp
theorem alone_nil (l : List Rule) : aloneR l [] = l := by
  unfold aloneR
  simp
theorem alone_self (l : List Rule) : aloneR l l = [] := by
  apply List.eq_nil_iff_forall_not_mem.2
  intro x hx
  obtain ⟨h1, h2⟩ := mem_alone.1 hx
  exact h2 h1
theorem swap_none (l : List Rule) : swapM l [] [] = bif tableR l then (l, 0) else ([], 2) := by
  have e : tableR [] = true := rfl
  unfold swapM
  rw [e, alone_nil]
  cases h : tableR l
  · rfl
  · obtain ⟨h1, h2⟩ := (tableR_iff l).1 h
    show (sortR (l ++ []), (0 : Int)) = (l, 0)
    rw [List.append_nil, sortR_self h2 h1]
theorem UndoStill_true (l : List Rule) (w : ∀ y ∈ l, Rule.wf y) (_ : l.length * 272 ≤ 140737488355328) : podestalaw08_UndoStill_raw l = some true := by
  rw [podestalaw08_UndoStill_raw]
  simp only [List.length_map, ref_Same_eq]
  by_cases hl : l.length > 40
  · rw [decide_eq_true (show ((l.length : Nat) : Int) > 40 by omega)]; rfl
  have e1 : undo_Back_raw l ({ Gone := [], New := [] } : Patch) = some (bif tableR l then (l, 0) else ([], 2)) := by
    rw [undo_Back_raw, swapO_eq (by show l.length + 0 ≤ 1000000; omega), swap_none]
    cases tableR l <;> rfl
  have e2 : undo_Forth_raw l ({ Gone := [], New := [] } : Patch) = some (bif tableR l then (l, 0) else ([], 2)) := by
    rw [undo_Forth_raw, swapO_eq (by show l.length + 0 ≤ 1000000; omega), swap_none]
    cases tableR l <;> rfl
  rw [decide_eq_false (by omega), refTable_raw_eq l w (by omega), e1, e2]
  simp only [cond_false, Option.bind_some]
  cases h : tableR l
  · rfl
  · rw [Diff_tables h h, alone_self]
    simp only [cond_true, beq_self_eq_true, Bool.and_self, Bool.and_true, Bool.not_true, cond_false]
    rfl

end Go.Proofs.Ytlfiemphadkimaa

set_option linter.unusedVariables false
set_option linter.unusedSimpArgs false
set_option maxRecDepth 100000
set_option maxHeartbeats 4000000
namespace Go.Proofs.Ytlfiemphadkimaa
open Go.Sh
/-! ### podestalaw08.UndoChanges: function 3 -/
noncomputable def podestalaw08_UndoChanges_F : Go.Sh.Fn := ⟨3, bodyOf Try.f3, 118⟩
def podestalaw08_UndoChanges_l0s (room : Int) : List Mod → List Rule → List Patch → Option (Sum ((List Rule) × (List Patch)) (Bool))
  | [], now, log =>
    some (.inl (now, log))
  | x :: rest, now, log =>
    (bif (decide ((((List.map Act.av x.Acts).length : Nat) : Int) > 20)) then
      some (.inr true)
    else
      (undo_Inverse_raw now x room).bind fun x1 =>
      (podestaref04_Apply_raw now x room).bind fun x2 =>
      (bif (((x1.2.2 != x2.2) || (!(zipAll podestaref04_Equal x1.1 x2.1))) || ((x1.2.2 != 0) && (decide ((IntKind.i64.wrap ((((List.map Rule.av x1.2.1.Gone).length : Nat) : Int) + (((List.map Rule.av x1.2.1.New).length : Nat) : Int))) > 0)))) then
        some (.inr false)
      else
        (bif (x1.2.2 == 0) then
          fitO (log.length + [x1.2.1].length) 48 (
          podestalaw08_UndoChanges_l0s room rest x1.1 (log ++ [x1.2.1]))
        else
          podestalaw08_UndoChanges_l0s room rest now log)))
theorem podestalaw08_UndoChanges_l0_walk (q1 : Nat) (l : List Rule) (list : List Mod) (room : Int) (f_l : Bool) (f_list : Bool) (r : Bool) (c0 : Ctx) (hc0 : c0.m.length = 0) (res : Sum ((List Rule) × (List Patch)) (Bool)) (J : ∀ w : (List Rule) × (List Patch), res = .inl w → AX Try.prog tab podestalaw08_UndoChanges_F c0 (Rp tab.S c0 (.sc (.bool r)) []) (some ⟨[.code [1, 1, 1, 1, 1]], [(0, .sl 51 (List.map Rule.av l) f_l), (7, .own 0 1000000), (8, .sl 51 (List.map Rule.av w.1) false)], [.row 35 (List.map Patch.av w.2) 1000000 true]⟩)) (Jr : ∀ w, res = .inr w → w = r) :
    ∀ (rest : List Mod) (i : Nat) (z : Int) (hI : z = ((i : Nat) : Int)) (hd : list.drop i = rest) (now : List Rule) (log : List Patch) (H : podestalaw08_UndoChanges_l0s room rest now log = some res), AX Try.prog tab podestalaw08_UndoChanges_F c0 (Rp tab.S c0 (.sc (.bool r)) []) (some ⟨[.code [1, 1, 1, 1, 0, 1, 0, 0], .loop [1, 1, 1, 1, 0, 1, 0], .blk 0, .code [1, 1, 1, 1, 1]], [(0, .sl 51 (List.map Rule.av l) f_l), (1, .sl 33 (List.map Mod.av list) f_list), (2, .sc (.int .i64 room)), (7, .own 0 1000000), (8, .sl 51 (List.map Rule.av now) false), (9, .sc (.int .i64 z))], [.row 35 (List.map Patch.av log) 1000000 true]⟩) := by
  intro rest
  induction rest with
  | nil =>
    intro i z hI hd now log H
    subst hI
    rw [podestalaw08_UndoChanges_l0s] at H
    refine .facts 1 fun hf => ?_
    have hlen : list.length ≤ 9223372036854775807 := by have hq := len_ok hf.2.1; rw [List.length_map] at hq; exact hq
    have hge : list.length ≤ i := List.drop_eq_nil_iff.1 hd
    have hc : (decide (((i : Nat) : Int) < (((List.map Mod.av list).length : Nat) : Int))) = false := by rw [List.length_map]; exact decide_eq_false (by omega)
    exact .sg 3 [0,1,2,7,8,9,31] (.cdF hc (.sg 1 [0,7,8] (.kp [0,7,8] (.to (J (now, log) (Option.some.inj H).symm)))))
  | cons x rest ih =>
    intro i z hI hd now log H
    subst hI
    rw [podestalaw08_UndoChanges_l0s] at H
    refine .facts 1 fun hf => ?_
    have hlen : list.length ≤ 9223372036854775807 := by have hq := len_ok hf.2.1; rw [List.length_map] at hq; exact hq
    obtain ⟨hlt, hv_i, hd2⟩ := drop_cons hd
    have hc : (decide (((i : Nat) : Int) < (((List.map Mod.av list).length : Nat) : Int))) = true := by rw [List.length_map]; exact decide_eq_true (by omega)
    have hw : IntKind.i64.wrap (((i : Nat) : Int) + 1) = ((i + 1 : Nat) : Int) := wrapI_succ (by omega)
    refine .sg 3 [0,1,2,7,8,9,31] (.cdT hc (.sg 5 [0,1,2,7,8,9] (.rg (.sg 2 [0,1,2,7,8,9,34,35] (.xi [0,1,2,7,8,9,36] Mod.av hv_i (.sg 4 [0,1,2,7,8,9,40] (.dn (.cd (decide ((((List.map Act.av x.Acts).length : Nat) : Int) > 20)) H (fun hb H => ?_) (fun hb H => ?_)))))))))
    ·
      refine .sg 1 [] (.rg (.cp [41] (podestalaw08_answers_ok) (.sg 1 [6] (.dn ?_))))
      obtain rfl := Option.some.inj H
      obtain rfl := Jr _ rfl
      exact .ret Try.func3 hc0
    ·
      refine .sg 2 [0,1,2,7,8,9] (.rg (.sg 3 [0,1,2,7,8,9,43,44,45] (.xi [0,1,2,7,8,9,43,46] Mod.av hv_i (.sg 2 [0,1,2,7,8,9,43,47,48] (bndO H fun x1 hv H => (.cp [0,1,2,7,8,9,49] (undo_Inverse_walk now x room false x1 hv) (.sg 8 [0,1,2,7,8,9,10,11,12] (.dn (.sg 1 [0,1,2,7,8,9,10,11,12] (.rg (.sg 3 [0,1,2,7,8,9,10,11,12,54,55,56] (.xi [0,1,2,7,8,9,10,11,12,54,57] Mod.av hv_i (.sg 2 [0,1,2,7,8,9,10,11,12,54,58,59] (bndO H fun x2 hv H => (.cp [0,1,2,7,8,9,10,11,12,60] (podestaref04_Apply_walk now x room false x2 hv) (.sg 5 [0,1,2,7,8,9,10,11,12,13,14] (.dn (.sg 2 [0,1,2,7,8,9,10,11,12,13,14] (.rg (.sg 4 [0,1,2,7,8,9,10,11,12,13,66] (.mm 66 (x1.2.2 != x2.2) 5 [.pure, .pure, .pure, .pure, .pure] [0, 1, 2, 7, 8, 9, 10, 11, 12, 71] 71 (fun z => .sc (.bool (z || (!(zipAll podestaref04_Equal x1.1 x2.1))))) ?J22 (fun hb J => ?ht22) (fun hb J => ?hf22))))))))))))))))))))))
      case ht22 =>
        exact .sg 5 [0,1,2,7,8,9,10,11,12,71] (.cl J)
      case hf22 =>
        exact .sg 2 [0,1,2,7,8,9,10,11,12,66,67,68] (.cp [0,1,2,7,8,9,10,11,12,66,69] (podestaref04_Same_ok x1.1 x2.1 false false) (.sg 2 [0,1,2,7,8,9,10,11,12,71] (.cl J)))
      refine .sg 1 [0,1,2,7,8,9,10,11,12,72] (.mm 72 ((x1.2.2 != x2.2) || (!(zipAll podestaref04_Equal x1.1 x2.1))) 13 [.pure, .pure, .pure, .pure, .pure, .read, .pure, .pure, .read, .pure, .pure, .pure, .pure] [0, 1, 2, 7, 8, 9, 10, 11, 12, 85] 85 (fun z => .sc (.bool (z || ((x1.2.2 != 0) && (decide ((IntKind.i64.wrap ((((List.map Rule.av x1.2.1.Gone).length : Nat) : Int) + (((List.map Rule.av x1.2.1.New).length : Nat) : Int))) > 0)))))) ?J24 (fun hb J => ?ht24) (fun hb J => ?hf24))
      case ht24 =>
        exact .sg 13 [0,1,2,7,8,9,10,11,12,85] (.cl J)
      case hf24 =>
        exact .sg 3 [0,1,2,7,8,9,10,11,12,72,75] (.mx 0 [0,1,2,7,8,9,10,11,12,72,84] (.sg 1 [0,1,2,7,8,9,10,11,12,85] (.cl J)))
      refine .dn (.cd (((x1.2.2 != x2.2) || (!(zipAll podestaref04_Equal x1.1 x2.1))) || ((x1.2.2 != 0) && (decide ((IntKind.i64.wrap ((((List.map Rule.av x1.2.1.Gone).length : Nat) : Int) + (((List.map Rule.av x1.2.1.New).length : Nat) : Int))) > 0)))) H (fun hb H => ?_) (fun hb H => ?_))
      ·
        refine .sg 2 [6] ?_
        obtain rfl := Option.some.inj H
        obtain rfl := Jr _ rfl
        exact .ret Try.func3 hc0
      ·
        refine .sg 3 [0,1,2,7,8,9,10,11,87] (.cd (x1.2.2 == 0) H (fun hb H => ?_) (fun hb H => ?_))
        ·
          exact .sg 2 [0,1,2,7,8,9,11] (.rg (.sg 3 [0,1,2,8,9,89,91] (fitH H fun hfit H => (.ap [0,1,2,8,9,92] Patch.av hfit (.sg 1 [0,1,2,7,8,9] (.dn (.sg 2 [0,1,2,7,8,9] (.tl hc0 [0] [0,1,2,7,8,9] (.into (.cl (ih (i + 1) _ hw hd2 x1.1 (log ++ [x1.2.1]) H)))))))))))
        ·
          exact .sg 3 [0,1,2,7,8,9] (.tl hc0 [0] [0,1,2,7,8,9] (.into (.cl (ih (i + 1) _ hw hd2 now log H))))

def podestalaw08_UndoChanges_l1 (v : (List Rule) × (List Patch)) : Nat → List Rule → Int → Option (Sum ((List Rule)) (Bool))
  | 0, _, _ => none
  | m + 1, now1, i1 =>
    (bif (decide (i1 ≥ 0)) then
    (ixO v.2 i1).bind fun x1 =>
    (undo_Back_raw now1 x1).bind fun x2 =>
    (bif (x2.2 != 0) then
      some (.inr false)
    else
      podestalaw08_UndoChanges_l1 v m x2.1 (IntKind.i64.wrap (i1 - 1)))
  else
    some (.inl now1))
theorem podestalaw08_UndoChanges_l1_walk (q1 : Nat) (l : List Rule) (list : List Mod) (room : Int) (v : (List Rule) × (List Patch)) (f_l : Bool) (f_list : Bool) (r : Bool) (c0 : Ctx) (hc0 : c0.m.length = 0) (res : Sum ((List Rule)) (Bool)) (J : ∀ w : (List Rule), res = .inl w → AX Try.prog tab podestalaw08_UndoChanges_F c0 (Rp tab.S c0 (.sc (.bool r)) []) (some ⟨[.code [1, 1, 1, 1, 1, 1]], [(0, .sl 51 (List.map Rule.av l) f_l), (8, .sl 51 (List.map Rule.av w) false)], [.row 35 (List.map Patch.av v.2) 1000000 true]⟩)) (Jr : ∀ w, res = .inr w → w = r) :
    ∀ (m : Nat) (now1 : List Rule) (i1 : Int) (H : podestalaw08_UndoChanges_l1 v m now1 i1 = some res), AX Try.prog tab podestalaw08_UndoChanges_F c0 (Rp tab.S c0 (.sc (.bool r)) []) (some ⟨[.code [1, 1, 1, 1, 1, 0, 1, 0, 0], .loop [1, 1, 1, 1, 1, 0, 1, 0], .blk 2, .code [1, 1, 1, 1, 1, 1]], [(0, .sl 51 (List.map Rule.av l) f_l), (7, .own 0 1000000), (8, .sl 51 (List.map Rule.av now1) false), (15, .sc (.int .i64 i1))], [.row 35 (List.map Patch.av v.2) 1000000 true]⟩) := by
  intro m
  induction m with
  | zero => intro now1 i1 H; cases H
  | succ m ih =>
    intro now1 i1 H
    rw [podestalaw08_UndoChanges_l1] at H
    refine .sg 3 [0,7,8,15,97] (.cd (decide (i1 ≥ 0)) H (fun hb H => ?_) (fun hb H => ?_))
    ·
      refine .sg 4 [0,7,8,15] (.rg (.sg 3 [0,7,15,101,102,103] (bndO H fun x1 hv_x1 H => (.xo [0,7,15,101,104] (ixO_req hv_x1 Patch.av) (.lo [0,7,15,101,105] (ixO_map hv_x1 Patch.av).2 (bndO H fun x2 hv H => (.cp [0,7,15,106] (undo_Back_walk now1 x1 false x2 hv) (.sg 5 [0,7,15,16,17] (.dn (.sg 3 [0,7,15,16,110] (.cd (x2.2 != 0) H (fun hb H => ?_) (fun hb H => ?_))))))))))))
      ·
        refine .sg 2 [6] ?_
        obtain rfl := Option.some.inj H
        obtain rfl := Jr _ rfl
        exact .ret Try.func3 hc0
      ·
        exact .sg 4 [0,7,8,15] (.kp [0,7,8,15] (.wk 8 [(0, false)] (.kp [0,7,8,15] (.into (.to (ih x2.1 (IntKind.i64.wrap (i1 - 1)) H))))))
    ·
      exact .sg 1 [0,8] (.kp [0,8] (.to (J now1 (Option.some.inj H).symm)))
def podestalaw08_UndoChanges_raw (q1 : Nat) (l : List Rule) (list : List Mod) (room : Int) : Option (Bool) :=
  (bif ((decide ((((List.map Rule.av l).length : Nat) : Int) > 40)) || (decide ((((List.map Mod.av list).length : Nat) : Int) > 12))) then
    some true
  else
    loopO (podestalaw08_UndoChanges_l0s room list l ([] : List Patch)) fun v =>
    loopO (podestalaw08_UndoChanges_l1 v q1 v.1 (IntKind.i64.wrap ((((List.map Patch.av v.2).length : Nat) : Int) - 1))) fun v1 =>
    some (zipAll podestaref04_Equal v1 l))
theorem podestalaw08_UndoChanges_walk (q1 : Nat) (l : List Rule) (list : List Mod) (room : Int) (f_l : Bool) (f_list : Bool) (r : Bool) (H : podestalaw08_UndoChanges_raw q1 l list room = some r) : ACalls Try.prog tab.S 3 [.sl 51 (List.map Rule.av l) f_l, .sl 33 (List.map Mod.av list) f_list, .sc (.int .i64 room)] [] (.sc (.bool r)) [] := by
  refine .of_AX podestalaw08_UndoChanges_F Try.func3 fun c0 hc0 => ?_
  rw [podestalaw08_UndoChanges_raw] at H
  refine .sg 4 [0,1,2] (.rg (.sg 4 [0,1,2,21] (.mx 1 [0,1,2,25] (.dn (.cd ((decide ((((List.map Rule.av l).length : Nat) : Int) > 40)) || (decide ((((List.map Mod.av list).length : Nat) : Int) > 12))) H (fun hb H => ?_) (fun hb H => ?_))))))
  ·
    refine .sg 1 [] (.rg (.cp [26] (podestalaw08_answers_ok) (.sg 1 [6] (.dn ?_))))
    obtain rfl := Option.some.inj H
    exact .ret Try.func3 hc0
  ·
    refine .sg 9 [0,1,2,7,8,9] (.ad 7 35 true (.kp [0,1,2,7,8,9] (.wk 8 [(0, false)] (.kp [0,1,2,7,8,9] ?_))))
    rcases loopO_some H with ⟨v, hv, H⟩ | hv
    case inr =>
      exact .into (.to (podestalaw08_UndoChanges_l0_walk q1 l list room f_l f_list _ c0 hc0 (.inr _) (fun _ e => by cases e) (fun _ e => (Sum.inr.inj e).symm) list 0 _ rfl rfl l ([] : List Patch) hv))
    refine .into (.to (podestalaw08_UndoChanges_l0_walk q1 l list room f_l f_list r c0 hc0 (.inl v) (fun w e => ?_) (fun _ e => by cases e) list 0 _ rfl rfl l ([] : List Patch) hv))
    have e := Sum.inl.inj e
    subst e
    refine .sg 4 [0,7,8,15] ?_
    rcases loopO_some H with ⟨v1, hv, H⟩ | hv
    case inr =>
      exact .into (.to (podestalaw08_UndoChanges_l1_walk q1 l list room v f_l f_list r c0 hc0 (.inr r) (fun _ e => by cases e) (fun _ e => (Sum.inr.inj e).symm) q1 v.1 (IntKind.i64.wrap ((((List.map Patch.av v.2).length : Nat) : Int) - 1)) hv))
    refine .into (.to (podestalaw08_UndoChanges_l1_walk q1 l list room v f_l f_list r c0 hc0 (.inl v1) (fun w e => ?_) (fun _ e => by cases e) q1 v.1 (IntKind.i64.wrap ((((List.map Patch.av v.2).length : Nat) : Int) - 1)) hv))
    have e := Sum.inl.inj e
    subst e
    refine .sg 1 [0,8] (.rg (.cp [0,8,112] (podestalaw08_answers_ok) (.sg 3 [113,114,115] (.cp [113,116] (podestaref04_Same_ok v1 l false f_l) (.sg 2 [6] (.dn ?_))))))
    obtain rfl := Option.some.inj H
    exact .ret Try.func3 hc0

end Go.Proofs.Ytlfiemphadkimaa

set_option linter.unusedVariables false
set_option linter.unusedSimpArgs false
set_option maxRecDepth 100000
set_option maxHeartbeats 4000000
namespace Go.Proofs.Ytlfiemphadkimaa
open Go.Sh
theorem applyO_eq {l : List Rule} (h : l.length ≤ 1000000) (m : Mod) (room : Int) : applyO l m room = some (applyM l m room) := by
  unfold applyO; rw [if_pos h]
theorem apply_err {l : List Rule} {m : Mod} {room : Int} (h : (applyM l m room).2 ≠ 0) : (applyM l m room).1 = [] := by
  unfold applyM at h ⊢
  cases hc : (!(tableR l)) || (!(mods_Sound m)) with
  | true => rfl
  | false =>
    rw [hc, cond_false] at h
    rw [cond_false]
    cases hk : m.Kind == 1 with
    | false =>
      rw [hk] at h
      exact absurd rfl h
    | true =>
      rw [hk, cond_true] at h
      rw [cond_true]
      unfold addM at h ⊢
      split at h
      · split at h
        · rename_i q
          rw [if_pos q]
        · rename_i q
          rw [if_neg q]
          split at h
          · rename_i q2
            rw [if_pos q2]
          · exact absurd rfl h
      · split at h
        · rename_i q
          rw [if_pos q]
        · rename_i q
          rw [if_neg q]
          split at h
          · rename_i q2
            rw [if_pos q2]
          · exact absurd rfl h
theorem apply_tab {l : List Rule} {m : Mod} {room : Int} (h : (applyM l m room).2 = 0) : tableR l = true := by
  unfold applyM at h
  cases hT : tableR l with
  | false =>
    rw [hT] at h
    cases h
  | true => rfl
theorem inv_eq {l : List Rule} (m : Mod) (room : Int) (h : l.length ≤ 1000) : undo_Inverse_raw l m room = some (if (applyM l m room).2 = 0 then ((applyM l m room).1, undo_Diff l (applyM l m room).1, 0) else ([], ⟨[], []⟩, (applyM l m room).2)) := by
  rw [undo_Inverse_raw, applyO_eq (by omega), Option.bind_some]
  by_cases h0 : (applyM l m room).2 = 0
  · rw [if_pos h0, h0]
    rfl
  · rw [if_neg h0, show ((applyM l m room).2 != 0) = true from by simp [h0]]
    rfl
inductive Chain (l : List Rule) : List Patch → List Rule → Prop
  | nil : Chain l [] l
  | snoc {log : List Patch} {now next : List Rule} : Chain l log now → tableR now = true → tableR next = true → now.length ≤ 1000 → next.length ≤ 1000 → Chain l (log ++ [⟨aloneR now next, aloneR next now⟩]) next
theorem changes_l0 (l : List Rule) (room : Int) : ∀ (rest : List Mod) (now : List Rule) (log : List Patch), (∀ y ∈ now, Rule.wf y) → (∀ m ∈ rest, Mod.wf m) → now.length + rest.length ≤ 100 → log.length + rest.length ≤ 100 → Chain l log now →
    podestalaw08_UndoChanges_l0s room rest now log = some (.inr true) ∨ ∃ now' log', podestalaw08_UndoChanges_l0s room rest now log = some (.inl (now', log')) ∧ Chain l log' now' ∧ log'.length ≤ 100
  | [], now, log, _, _, _, h2, hc => .inr ⟨now, log, rfl, hc, by omega⟩
  | m :: rest, now, log, w, wm, h1, h2, hc => by
      rw [List.length_cons] at h1 h2
      have wm0 := wm m List.mem_cons_self
      have wr : ∀ x ∈ rest, Mod.wf x := fun x hx => wm x (List.mem_cons_of_mem _ hx)
      have hlen := apply_len (l := now) (m := m) room
      rw [podestalaw08_UndoChanges_l0s, inv_eq m room (by omega), refApply_eq w wm0 room (by omega), Option.bind_some, Option.bind_some]
      cases decide ((((List.map Act.av m.Acts).length : Nat) : Int) > 20) with
      | true => exact .inl rfl
      | false =>
        rw [cond_false]
        by_cases h0 : (applyM now m room).2 = 0
        · have t1 := apply_tab h0
          have t2 := apply_table room h0
          rw [if_pos h0, h0, Diff_tables t1 t2]
          dsimp only
          rw [ref_Same_eq, beq_self_eq_true, fitO_eq (by rw [List.length_cons, List.length_nil]; omega)]
          show podestalaw08_UndoChanges_l0s room rest (applyM now m room).1 _ = _ ∨ ∃ now' log', podestalaw08_UndoChanges_l0s room rest (applyM now m room).1 _ = _ ∧ _
          exact changes_l0 l room rest _ _ (apply_wf w wm0 room) wr (by omega) (by rw [List.length_append, List.length_cons, List.length_nil]; omega) (.snoc hc t1 t2 (by omega) (by omega))
        · have he := apply_err h0
          have hb : ((applyM now m room).2 != 0) = true := by simp [h0]
          have hb2 : ((applyM now m room).2 == 0) = false := by simp [h0]
          rw [if_neg h0, he]
          dsimp only
          rw [ref_Same_eq, bne_self_eq_false, beq_self_eq_true, hb, hb2]
          show podestalaw08_UndoChanges_l0s room rest now log = _ ∨ ∃ now' log', podestalaw08_UndoChanges_l0s room rest now log = _ ∧ _
          exact changes_l0 l room rest now log w wr (by omega) (by omega) hc
theorem changes_l1 (l : List Rule) (v : (List Rule) × (List Patch)) (log : List Patch) (now : List Rule) (hc : Chain l log now) : ∀ (suf : List Patch), v.2 = log ++ suf → ∀ m : Nat, log.length < m → log.length ≤ 1000 → podestalaw08_UndoChanges_l1 v m now (((log.length : Nat) : Int) - 1) = some (.inl l) := by
  induction hc with
  | nil =>
    intro suf hv m hm hl
    cases m with
    | zero => omega
    | succ m =>
      rw [podestalaw08_UndoChanges_l1, decide_eq_false (by rw [List.length_nil]; omega)]
      rfl
  | snoc hc t1 t2 l1 l2 ih =>
    rename_i log now next
    intro suf hv m hm hl
    rw [List.length_append, List.length_singleton] at hm hl ⊢
    cases m with
    | zero => omega
    | succ m =>
      have e : (((log.length + 1 : Nat) : Int) - 1) = ((log.length : Nat) : Int) := by omega
      have hx : ixO v.2 ((log.length : Nat) : Int) = some (⟨aloneR now next, aloneR next now⟩ : Patch) := by
        unfold ixO
        rw [if_pos (by omega), Int.toNat_natCast, hv, List.append_assoc, List.getElem?_append_right (Nat.le_refl _), Nat.sub_self]
        rfl
      rw [podestalaw08_UndoChanges_l1, e, decide_eq_true (by omega), cond_true, hx, Option.bind_some, Back_diff t1 t2 l1 l2, Option.bind_some, wrap_eq (by omega) (by omega)]
      exact ih _ (by rw [hv, List.append_assoc]) m (by omega) (by omega)
theorem UndoChanges_true (l : List Rule) (list : List Mod) (room : Int) (w : ∀ y ∈ l, Rule.wf y) (wm : ∀ y ∈ list, Mod.wf y) (_ : intW .i64 room) (_ : l.length * 272 ≤ 140737488355328) (_ : list.length * 264 ≤ 140737488355328) : ∃ q1, podestalaw08_UndoChanges_raw q1 l list room = some true := by
  refine ⟨1000, ?_⟩
  rw [podestalaw08_UndoChanges_raw, List.length_map, List.length_map]
  by_cases hn : ((l.length : Nat) : Int) > 40 ∨ ((list.length : Nat) : Int) > 12
  · have : (decide (((l.length : Nat) : Int) > 40) || decide (((list.length : Nat) : Int) > 12)) = true := by
      rw [Bool.or_eq_true, decide_eq_true_eq, decide_eq_true_eq]
      exact hn
    rw [this, cond_true]
  · have : (decide (((l.length : Nat) : Int) > 40) || decide (((list.length : Nat) : Int) > 12)) = false := by
      rw [Bool.or_eq_false_iff, decide_eq_false_iff_not, decide_eq_false_iff_not]
      omega
    rw [this, cond_false]
    rcases changes_l0 l room list l [] w wm (by omega) (by rw [List.length_nil]; omega) .nil with h | ⟨now, log, h, hc, hl⟩
    · rw [h]
      rfl
    · rw [h]
      show loopO (podestalaw08_UndoChanges_l1 (now, log) 1000 now (IntKind.i64.wrap ((((List.map Patch.av log).length : Nat) : Int) - 1))) _ = _
      rw [List.length_map, wrap_eq (by omega) (by omega), changes_l1 l (now, log) log now hc [] (by rw [List.append_nil]) 1000 (by omega) (by omega)]
      show some (zipAll podestaref04_Equal l l) = some true
      rw [ref_Same_eq, beq_self_eq_true]

end Go.Proofs.Ytlfiemphadkimaa
