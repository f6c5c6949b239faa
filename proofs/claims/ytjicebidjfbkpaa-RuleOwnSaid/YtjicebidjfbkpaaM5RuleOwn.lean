import Derived.Test.YtjicebidjfbkpaaM4RuleOwn
set_option linter.unusedVariables false
set_option linter.unusedSimpArgs false
set_option maxRecDepth 100000
set_option maxHeartbeats 4000000
namespace Go.Proofs.Ytjicebidjfbkpaa
open Go.Sh
noncomputable def rule_SortP_F : Go.Sh.Fn := ⟨8, bodyOf Try.f8, 38⟩
def rule_SortP_l0s : List Rule → List Rule → Option ((List Rule))
 | [], out =>
  some out
 | x :: rest, out =>
  (bif (!(z18 x)) then
   rule_SortP_l0s rest out
  else
   (bif (bsR out x z22).2 then
    (ixO out ((bsR out x z22).1)).bind fun x1 =>
    rule_SortP_l0s rest (out.set (((bsR out x z22).1).toNat) (rule_copiedP x))
   else
    fitO (out.length + [(rule_copiedP x)].length) 272 (
    (insO out ((bsR out x z22).1) (rule_copiedP x)).bind fun rows =>
    rule_SortP_l0s rest rows)))
theorem rule_SortP_l0_walk (list : List Rule) (f_list : Bool) (r : (List Rule)) (c0 : Ctx) (hc0 : c0.m.length = 0) (res : (List Rule)) (J : AX Try.prog tab rule_SortP_F c0 (Rp tab.S c0 (.sl 31 (List.map Rule.av r) true) []) (some ⟨[.code [1, 1, 1]], [(3, .own 0 1000000)], [.row 31 (List.map Rule.av res) 1000000 true]⟩)) :
  ∀ (rest : List Rule) (t10 : Nat) (z : Int) (hI : z = ((t10 : Nat) : Int)) (hd : list.drop t10 = rest) (out : List Rule) (H : rule_SortP_l0s rest out = some res), AX Try.prog tab rule_SortP_F c0 (Rp tab.S c0 (.sl 31 (List.map Rule.av r) true) []) (some ⟨[.code [1, 1, 0, 1, 0, 0], .loop [1, 1, 0, 1, 0], .blk 0, .code [1, 1, 1]], [(3, .own 0 1000000), (8, .sl 1000031 (List.map RuleP.av list) f_list), (9, .sc (.int .i64 (((List.map RuleP.av list).length : Nat) : Int))), (10, .sc (.int .i64 z))], [.row 31 (List.map Rule.av out) 1000000 true]⟩) := by
 intro rest
 induction rest with
 | nil =>
  intro t10 z hI hd out H
  subst hI
  rw [rule_SortP_l0s] at H
  refine .facts 8 fun hf => ?_
  have hlen : list.length ≤ 9223372036854775807 := by have hq := len_ok hf.2.1; rw [List.length_map] at hq; exact hq
  have hge : list.length ≤ t10 := List.drop_eq_nil_iff.1 hd
  have hc : (decide (((t10 : Nat) : Int) < (((List.map RuleP.av list).length : Nat) : Int))) = false := by rw [List.length_map]; exact decide_eq_false (by omega)
  refine .sg 3 [3,8,9,10,11] (.cdF hc (.sg 1 [3] (.kp [3] ?_)))
  obtain rfl := Option.some.inj H
  exact .to J
 | cons x rest ih =>
  intro t10 z hI hd out H
  subst hI
  rw [rule_SortP_l0s] at H
  refine .facts 8 fun hf => ?_
  have hlen : list.length ≤ 9223372036854775807 := by have hq := len_ok hf.2.1; rw [List.length_map] at hq; exact hq
  obtain ⟨hlt, hv_t10, hd2⟩ := drop_cons hd
  have hc : (decide (((t10 : Nat) : Int) < (((List.map RuleP.av list).length : Nat) : Int))) = true := by rw [List.length_map]; exact decide_eq_true (by omega)
  have hw : IntKind.i64.wrap (((t10 : Nat) : Int) + 1) = ((t10 + 1 : Nat) : Int) := wrapI_succ (by omega)
  refine .sg 3 [3,8,9,10,11] (.cdT hc (.sg 4 [3,8,9,10] (.rg (.xm [3,8,9,10,12] RuleP.av hv_t10 (.sg 3 [3,5,8,9,10] (.dn (.sg 2 [3,5,8,9,10] (.rg (.sg 1 [3,5,8,9,10,14] (.cp [3,5,8,9,10,15] (.un (l := [RuleP.av x]) (by (repeat' (first | exact CvL.nil | exact Cvs.nil | refine CvL.cons ?_ ?_ | refine Cvs.cons ?_ ?_ | exact Cv.scal rfl | exact Cv1.scal rfl | refine Cv.agg ?_ | refine Cv1.agg ?_ | refine Cv1.one ?_ rfl rfl | (refine Un.sl (fun _ _ => ?_) ?_ ?_ _ <;> first | kernel_rfl | decide | skip) | (refine Mk.sl (fun _ _ => ?_) ?_ ?_ _ <;> first | kernel_rfl | decide | skip) | (refine PK.sl (fun _ _ => ?_) ?_ _ <;> first | kernel_rfl | decide | skip) | refine Un.ep ?_ _ _ | refine Cv.fn ?_))) (z18_calls x)) (.sg 1 [3,5,8,9,10,16] (.dn (.cd (!(z18 x)) H (fun hb H => ?_) (fun hb H => ?_))))))))))))))
  ·
   exact .sg 2 [3,8,9,10] (.tl hc0 [0] [3,8,9,10] (.into (.cl (ih (t10 + 1) _ hw hd2 out H))))
  ·
   refine .sg 2 [3,5,8,9,10] (.rg (.sg 2 [3,5,8,9,10,18,19] (.cl_ [3,5,8,9,10,20] (caps := []) (.un (l := [.sl 31 (List.map Rule.av out) false, RuleP.av x, .fn 22 []]) (by (repeat' (first | exact CvL.nil | exact Cvs.nil | refine CvL.cons ?_ ?_ | refine Cvs.cons ?_ ?_ | exact Cv.scal rfl | exact Cv1.scal rfl | refine Cv.agg ?_ | refine Cv1.agg ?_ | refine Cv1.one ?_ rfl rfl | (refine Un.sl (fun _ _ => ?_) ?_ ?_ _ <;> first | kernel_rfl | decide | skip) | (refine Mk.sl (fun _ _ => ?_) ?_ ?_ _ <;> first | kernel_rfl | decide | skip) | (refine PK.sl (fun _ _ => ?_) ?_ _ <;> first | kernel_rfl | decide | skip) | refine Un.ep ?_ _ _ | refine Cv.fn ?_))) (z21_ok out x 22 [] z22 rfl rfl (fun y0 y1 => z22_calls y0 y1) false)) (.same rfl (.same rfl (.fn (caps := []) (by kernel_rfl) .nil))) (by kernel_rfl) rfl rfl (.sg 5 [3,5,6,7,8,9,10] (.dn (.sg 2 [3,5,6,8,9,10,23] (.cd ((bsR out x z22).2) H (fun hb H => ?_) (fun hb H => ?_))))))))
   ·
    exact .rg (.sg 3 [3,8,9,10,24,25,26] (.cp [3,8,9,10,24,25,27] (rule_copiedP_calls x) (bndO H fun x1 hv_x1 H => (.xo [3,8,9,10,27,28] (ixO_req hv_x1 Rule.av) (.st [3,8,9,10] Rule.av (rule_copiedP x) (ixO_map hv_x1 Rule.av).2 (.dn (.sg 2 [3,8,9,10] (.tl hc0 [0] [3,8,9,10] (.into (.cl (ih (t10 + 1) _ hw hd2 (out.set (((bsR out x z22).1).toNat) (rule_copiedP x)) H)))))))))))
   ·
    exact .rg (.sg 3 [8,9,10,29,30,31] (.cp [8,9,10,29,30,32] (rule_copiedP_calls x) (.sg 1 [8,9,10,29,30,33] (fitH H fun hfit H => (bndO H fun rows hv H => (.co [8,9,10,34] (o := 0) (k := 1000000) 1000001 z23_ent (z23_O out (rule_copiedP x) ((bsR out x z22).1) rows true hv hfit) (.sg 1 [3,8,9,10] (.dn (.sg 2 [3,8,9,10] (.tl hc0 [0] [3,8,9,10] (.into (.cl (ih (t10 + 1) _ hw hd2 rows H)))))))))))))
def rule_SortP_raw (list : List Rule) : Option ((List Rule)) :=
 (rule_SortP_l0s list ([] : List Rule)).bind fun v =>
 some v
theorem rule_SortP_walk (list : List Rule) (f_list : Bool) (r : (List Rule)) (H : rule_SortP_raw list = some r) : ACalls Try.prog tab.S 8 [.sl 1000031 (List.map RuleP.av list) f_list] [] (.sl 31 (List.map Rule.av r) true) [] := by
 refine .of_AX rule_SortP_F Try.func8 fun c0 hc0 => ?_
 rw [rule_SortP_raw] at H
 refine .sg 8 [3,8,9,10] (.ad 3 31 true (.kp [3,8,9,10] ?_))
 refine bndO H fun v hv H => (.into (.to (rule_SortP_l0_walk list f_list r c0 hc0 v ?_ list 0 _ rfl rfl ([] : List Rule) hv)))
 refine .sg 1 [3] (.rg (.sg 1 [36] (.cc [37] [0] (z20_calls v false) (.sg 1 [2] (.dn ?_)))))
 obtain rfl := Option.some.inj H
 exact .ret Try.func8 hc0
end Go.Proofs.Ytjicebidjfbkpaa
namespace Go.Proofs.Ytjicebidjfbkpaa
open Go.Sh
theorem LQ.ab {P : Program} {G : Tab} {n : Nat} {ops : Array Oper} {i : Nat} {t : Tmps} {h : List AO} [ok : Ok P G] {α : Type} (f : α → AV) {A B : List α} {by_ : Nat} (hfit : (A.length + B.length) * by_ ≤ reach) (hA : A = []) (e : anA (appNE G n ops i t h) = some (A.map f, B.map f, by_) := by kernel_rfl) : LSpec P G.S n ops i .loud t h (.own h.length 1000000) (h ++ [.row (anT (appNE G n ops i t h)) ((A ++ B).map f) 1000000 true]) := LSpec.ab f hfit hA e
theorem LQ.ap {P : Program} {G : Tab} {n : Nat} {ops : Array Oper} {i : Nat} {t : Tmps} {h : List AO} [ok : Ok P G] {α : Type} (f : α → AV) {A B : List α} {by_ : Nat} (hfit : (A.length + B.length) * by_ ≤ reach) (e : apA (appE G n ops i t h) = some (A.map f, B.map f, by_) := by kernel_rfl) : LSpec P G.S n ops i .loud t h (apR (appE G n ops i t h)) (apH f A B (appE G n ops i t h) h) := LSpec.ap f hfit e
theorem LQ.so {P : Program} {G : Tab} {n : Nat} {ops : Array Oper} {i : Nat} {t : Tmps} {h : List AO} [ok : Ok P G] {α : Type} (f : α → AV) {A A' : List α} {l u m : Option Int} (hv : Go.Sh.sliceO A l u m = some A') (e : soA (sliceE G n ops i t) = some (A.map f, l, u, m) := by kernel_rfl) : LSpec P G.S n ops i .pure t h (.sl (soT (sliceE G n ops i t)) (A'.map f) (soF (sliceE G n ops i t))) h := LSpec.so f hv e
theorem LQ.cc {P : Program} {G : Tab} {n : Nat} {ops : Array Oper} {i : Nat} {t : Tmps} {h : List AO} [ok : Ok P G] (os : List Nat) {f : FuncId} {avs : List AV} {r : AV} (hc : ACalls P G.S f avs [] r []) (ds : List (TypeId × Bool) := []) (hos : rowsAt h os = true := by kernel_rfl) (e : callWE (giveO os h) ds n ops i t f = some avs := by kernel_rfl) : LSpec P G.S n ops i .loud t h r (Go.Sh.settle os h) := LSpec.cc os hc ds hos e
theorem LQ.cp {P : Program} {G : Tab} {n : Nat} {ops : Array Oper} {i : Nat} {t : Tmps} {h : List AO} [ok : Ok P G] {f : FuncId} {avs : List AV} {r : AV} (hc : ACalls P G.S f avs [] r []) (ds : List (TypeId × Bool) := []) (e : callWE plainO ds n ops i t f = some avs := by kernel_rfl) : LSpec P G.S n ops i .pure t h r h := LSpec.cp hc ds e
end Go.Proofs.Ytjicebidjfbkpaa
namespace Go.Proofs.Ytjicebidjfbkpaa
open Go.Sh
end Go.Proofs.Ytjicebidjfbkpaa
namespace Go.Proofs.Ytjicebidjfbkpaa
open Go.Sh
section
variable {A : List Rule} {c1 D : Ctx} {r : AV} {hE : List AO}
end
theorem CopyP_l0' : ∀ (l out : List Rule), (out.length + l.length) * 272 ≤ 140737488355328 → rule_CopyP_l0s l out = some (out ++ l)
 | [], out, _ => by rw [rule_CopyP_l0s, List.append_nil]
 | x :: l, out, h => by
   rw [List.length_cons] at h
   have e : rule_copiedP x = x := rfl
   rw [rule_CopyP_l0s, fitO_eq (by rw [List.length_cons, List.length_nil]; omega), e, CopyP_l0' l (out ++ [x]) (by rw [List.length_append, List.length_cons, List.length_nil]; omega), List.append_assoc]
   rfl
theorem CopyP_eq' (l : List Rule) (h : l.length ≤ 1000) : rule_CopyP_raw l = some l := by
 rw [rule_CopyP_raw, CopyP_l0' l [] (by rw [List.length_nil]; omega)]
 rfl
def allA (Q : List Act → Prop) (l : List Rule) : Prop := ∀ x ∈ l, Q x.Acts
theorem putR_all {Q : List Act → Prop} {out : List Rule} {x : Rule} (h : allA Q out) (hx : Q x.Acts) : allA Q (putR out x) := by
 unfold putR
 cases !(z18 x)
 ·cases (bsR out x z22).2
  ·simp only [cond_false]
   intro y hy
   rcases List.mem_append.1 hy with hy | hy
   ·exact h y (List.mem_of_mem_take hy)
   ·rcases List.mem_cons.1 hy with rfl | hy
    ·exact hx
    ·exact h y (List.mem_of_mem_drop hy)
  ·simp only [cond_false, cond_true]
   intro y hy
   rcases List.mem_or_eq_of_mem_set hy with hy | rfl
   ·exact h y hy
   ·exact hx
 ·exact h
theorem foldPut_all {Q : List Act → Prop} : ∀ (l out : List Rule), allA Q l → allA Q out → allA Q (l.foldl putR out) ∧ (l.foldl putR out).length ≤ out.length + l.length
 | [], out, _, h => ⟨h, by simp⟩
 | x :: l, out, h1, h2 => by
  obtain ⟨a, b⟩ := foldPut_all l (putR out x) (fun y hy => h1 y (by simp [hy])) (putR_all h2 (h1 x (by simp)))
  have := putR_len out x
  exact ⟨a, by rw [List.foldl_cons, List.length_cons]; omega⟩
theorem sortR_all {Q : List Act → Prop} {l : List Rule} (h : allA Q l) : allA Q (sortR l) ∧ (sortR l).length ≤ l.length := by
 have := foldPut_all l [] h (fun _ h => by simp at h)
 simpa [sortR] using this
end Go.Proofs.Ytjicebidjfbkpaa
namespace Go.Proofs.Ytjicebidjfbkpaa
open Go.Sh
noncomputable def ro_F : Go.Sh.Fn := ⟨3, bodyOf Try.f3, 127⟩
theorem ro_l0 (l : List Rule) (f_l : Bool) (hl : l.length ≤ 40) (hacts : ∀ x ∈ l, (([] : List Act).length + x.Acts.length) * 32 ≤ reach) (c0 : Ctx) (hc0 : c0.m.length = 0) (r : AV)
    (J : AX Try.prog tab ro_F c0 (Rp tab.S c0 r []) (some ⟨[.code [1, 1, 1, 1]], [(0, .sl 31 (List.map Rule.av l) f_l), (3, .own 0 1000000)], [.row 31 (List.map Rule.av l) 1000000 true]⟩)) :
    ∀ (rest : List Rule) (i : Nat) (z : Int) (hI : z = ((i : Nat) : Int)) (hd : l.drop i = rest), AX Try.prog tab ro_F c0 (Rp tab.S c0 r []) (some ⟨[.code [1, 1, 1, 0, 1, 0, 0], .loop [1, 1, 1, 0, 1, 0], .blk 0, .code [1, 1, 1, 1]], [(0, .sl 31 (List.map Rule.av l) f_l), (3, .own 0 1000000), (4, .sc (.int .i64 z))], [.row 31 (List.map Rule.av (l.take i)) 1000000 true]⟩) := by
  intro rest
  induction rest with
  | nil =>
    intro i z hI hd
    subst hI
    have hge : l.length ≤ i := List.drop_eq_nil_iff.1 hd
    have hc : (decide (((i : Nat) : Int) < (((List.map Rule.av l).length : Nat) : Int))) = false := by rw [List.length_map]; exact decide_eq_false (by omega)
    rw [List.take_of_length_le hge]
    exact .sg 3 [0,3,4,19] (.cdF hc (.sg 1 [0,3] (.kp [0,3] (.to J))))
  | cons x rest ih =>
    intro i z hI hd
    subst hI
    obtain ⟨hlt, hv, hd2⟩ := drop_cons hd
    have hc : (decide (((i : Nat) : Int) < (((List.map Rule.av l).length : Nat) : Int))) = true := by rw [List.length_map]; exact decide_eq_true (by omega)
    have hw : IntKind.i64.wrap (((i : Nat) : Int) + 1) = ((i + 1 : Nat) : Int) := wrapI_succ (by omega)
    refine .sg 3 [0,3,4,19] (.cdT hc (.sg 4 [0,3,4] (.rg (.sg 2 [0,3,4,22,23] (.xi [0,3,4,24] Rule.av hv (.sg 3 [0,3,4,5] (.dn ?_)))))))
    refine .sg 1 [0,3,4,5] (.rg (.sg 3 [0,3,4,5,26,28] ?_))
    refine .ab (by_ := 32) [0,3,4,5,29] Act.av (A := []) (B := x.Acts) (hacts x (List.mem_of_mem_drop (hd ▸ List.mem_cons_self))) rfl ?_
    refine .sg 2 [0,3,4,5] (.dn ?_)
    refine .tl hc0 [0, 1] [0,3,4,5] ?_
    refine .rg (.sg 3 [0,3,4,31,33] ?_)
    refine .ap (by_ := 272) [0,4,34] Rule.av (A := l.take i) (B := [x]) (by have := List.length_take_le i l; simp only [List.length_cons, List.length_nil, reach]; omega) ?_
    refine .sg 1 [0,3,4] (.dn ?_)
    have ht : l.take (i + 1) = l.take i ++ [x] := by
      have e : l[i]? = some x := by rw [← List.head?_drop, hd]; rfl
      rw [List.take_add_one, e]; rfl
    have hn := ih (i + 1) _ hw hd2
    rw [ht] at hn
    exact .tl hc0 [0] [0,3,4] (.sg 2 [0,3,4] (.into (.to hn)))
def RuleJ.ch (D : Ctx) (r : Rule) : List AV := [.arr .u64 12 r.Match.Value, .arr .u64 12 r.Match.Care, .sc (.int .i64 r.Prio), .is (Jp tab.S D (.sl 34 (List.map Act.av r.Acts) false)), .sc (.int .i64 r.Idle), .sc (.int .i64 r.Hard), .sc (.int .i64 r.Owner), .sc (.int .i64 r.Hits), .sc (.int .i64 r.Quiet), .sc (.int .i64 r.Age)]
def RuleJ (D : Ctx) (r : Rule) : AV := .agg (RuleJ.ch D r)
theorem RuleJ.of {D E : Ctx} (r : Rule) (cs : List Value) (h : RelV tab.S D (Rule.av r) cs) : RelV tab.S E (RuleJ D r) cs := by
  obtain ⟨c1, d1, rfl, h1, c2, d2, rfl, h2, c3, d3, rfl, h3, c4, d4, rfl, h4, h5⟩ := (h : RelL tab.S D _ cs)
  refine ⟨c1, _, rfl, h1, c2, _, rfl, h2, c3, _, rfl, h3, c4, d4, rfl, ?_, RelL.scal _ _ rfl h5⟩
  obtain ⟨v, rfl⟩ := RelV.single (a := .sl 34 (List.map Act.av r.Acts) false) rfl h4
  exact ⟨v, rfl, RelV.one _ _ h4 v (by simp), h4⟩
def bump (r : Rule) : Rule := { r with Prio := IntKind.i64.wrap (r.Prio + 1) }
theorem RuleJ.back {D : Ctx} (hDf : D.flat = D) (hXN : ∀ b, b < D.X.N → D.X b) {l : List Rule} : ∀ C E, Uj C D E → ∀ x ∈ l, ∀ cs, RelV tab.S C.flat (RuleJ D x) cs → ∃ y : Rule, y.Prio = x.Prio ∧ RelV tab.S E.flat (Rule.av y) cs := by
  rintro C E uj x _ cs h
  obtain ⟨c1, d1, rfl, h1, c2, d2, rfl, h2, c3, d3, rfl, h3, c4, d4, rfl, h4, h5⟩ := (h : RelL tab.S C.flat _ cs)
  obtain ⟨v, h6, _, h7⟩ := h4
  subst h6
  obtain ⟨ys, _, h8⟩ := uj_slice (f := Act.av) (ks := fun a => [(.i64, a.Kind), (.i64, a.Port), (.i64, a.Field), (.u64, a.Value)]) uj hDf hXN (fun _ => rfl) (fun x gs hg => by
    match gs, hg with
    | [g0, g1, g2, g3], _ => exact ⟨⟨g0, g1, g2, g3⟩, rfl⟩) (by decide) h7
  exact ⟨{ x with Acts := ys }, rfl, c1, _, rfl, h1, c2, _, rfl, h2, c3, _, rfl, h3, [v], d4, rfl, RelV.plain (Under.toFlat E) _ _ rfl h8, RelL.scal _ _ rfl h5⟩
theorem ro_k3 (l d cur : List Rule) (f_l : Bool) {c1 D : Ctx} {r : AV} {hE : List AO} (hc1 : c1.m.length = 0) (hDf : D.flat = D) (hXN : ∀ b, b < D.X.N → D.X b) {i : Nat} {x : Rule} (hv : ixO cur ((i : Nat) : Int) = some x) (hx : x.Acts.length ≤ 1152921504606846976)
    (J : AX Try.prog tab ro_F c1 (Rp tab.S c1 r hE) (some ⟨[.code [1, 1, 1, 1, 1, 1, 0, 1, 0, 0, 1, 0, 0, 1], .blk 3, .code [1, 1, 1, 1, 1, 1, 0, 1, 0, 0, 1, 1], .loop [1, 1, 1, 1, 1, 1, 0, 1, 0], .blk 2, .code [1, 1, 1, 1, 1, 1, 1]], [(0, .sl 1000031 (l.map RuleP.av) f_l), (3, .sl 1000031 (l.map RuleP.av) false), (6, .own 0 2000000), (7, .is (Jp tab.S D (.sl 31 (List.map Rule.av d) true))), (8, .sc (.int .i64 ((i : Nat) : Int)))], [.row 31 (List.map (RuleJ D) cur) 2000000 true, .fam (junkF D) 0]⟩)) :
    ∀ (rest : List Act) (k : Nat) (z : Int) (hI : z = ((k : Nat) : Int)) (hd : x.Acts.drop k = rest), AX Try.prog tab ro_F c1 (Rp tab.S c1 r hE) (some ⟨[.code [1, 1, 1, 1, 1, 1, 0, 1, 0, 0, 1, 0, 0, 0, 1, 0, 0], .loop [1, 1, 1, 1, 1, 1, 0, 1, 0, 0, 1, 0, 0, 0, 1, 0], .blk 4, .code [1, 1, 1, 1, 1, 1, 0, 1, 0, 0, 1, 0, 0, 1], .blk 3, .code [1, 1, 1, 1, 1, 1, 0, 1, 0, 0, 1, 1], .loop [1, 1, 1, 1, 1, 1, 0, 1, 0], .blk 2, .code [1, 1, 1, 1, 1, 1, 1]], [(0, .sl 1000031 (l.map RuleP.av) f_l), (3, .sl 1000031 (l.map RuleP.av) false), (6, .own 0 2000000), (7, .is (Jp tab.S D (.sl 31 (List.map Rule.av d) true))), (8, .sc (.int .i64 ((i : Nat) : Int))), (9, .sc (.int .i64 z))], [.row 31 (List.map (RuleJ D) cur) 2000000 true, .fam (junkF D) 0]⟩) := by
  intro rest
  induction rest with
  | nil =>
    intro k z hI hd
    subst hI
    have hge : x.Acts.length ≤ k := List.drop_eq_nil_iff.1 hd
    have hc : (decide (((k : Nat) : Int) < (((List.map Act.av x.Acts).length : Nat) : Int))) = false := by rw [List.length_map]; exact decide_eq_false (by omega)
    refine .sg 2 [0,3,6,7,8,9] (.rg (.sg 3 [0,3,6,7,8,9,45,46,47] ?_))
    refine .xo [0,3,6,7,8,9,45,48] (ixO_req hv (RuleJ D)) (.sg 1 [0,3,6,7,8,9,45,49] (.lo [0,3,6,7,8,9,45,50] (ixO_map hv (RuleJ D)).2 ?_))
    refine .jlen [0,3,6,7,8,9,45,51] D 34 (List.map Act.av x.Acts) false (.sg 1 [0,3,6,7,8,9,52] (.dn (.cdF hc ?_)))
    exact (.sg 1 [0,3,6,7,8] (.kp [0,3,6,7,8] (.to J)))
  | cons a rest ih =>
    intro k z hI hd
    subst hI
    obtain ⟨hlt, hv2, hd2⟩ := drop_cons hd
    have hc : (decide (((k : Nat) : Int) < (((List.map Act.av x.Acts).length : Nat) : Int))) = true := by rw [List.length_map]; exact decide_eq_true (by omega)
    have hw : IntKind.i64.wrap (((k : Nat) : Int) + 1) = ((k + 1 : Nat) : Int) := wrapI_succ (by omega)
    refine .sg 2 [0,3,6,7,8,9] (.rg (.sg 3 [0,3,6,7,8,9,45,46,47] ?_))
    refine .xo [0,3,6,7,8,9,45,48] (ixO_req hv (RuleJ D)) (.sg 1 [0,3,6,7,8,9,45,49] (.lo [0,3,6,7,8,9,45,50] (ixO_map hv (RuleJ D)).2 ?_))
    refine .jlen [0,3,6,7,8,9,45,51] D 34 (List.map Act.av x.Acts) false (.sg 1 [0,3,6,7,8,9,52] (.dn (.cdT hc (.sg 3 [0,3,6,7,8,9] (.rg ?_)))))
    refine .sg 2 [0,3,6,7,8,9,55,56] (.xo [0,3,6,7,8,9,57] (ixO_req hv (RuleJ D)) (.sg 1 [0,3,6,7,8,9,58] (.lo [0,3,6,7,8,9,59] (ixO_map hv (RuleJ D)).2 (.sg 1 [0,3,6,7,8,9,59,60] ?_))))
    refine .jidx [0,3,6,7,8,9,59,60,61] D 34 Act.av x.Acts false hv2 ?_
    refine .jfld [0,3,6,7,8,9,59,60,62] D (chD (Act.av a)) 0 1 (.jli [0,3,6,7,8,9,59,60,63] D hDf 1 (chD (Act.av a)) (0 + 1) .i64 a.Port [.sc (.int .i64 a.Field), .sc (.int .u64 a.Value)] (.jad [0,3,6,7,8,9,59,60,64] .i64 1 ?_))
    refine .jidx [0,3,6,7,8,9,64,65] D 34 Act.av x.Acts false hv2 (.jfld [0,3,6,7,8,9,64,66] D (chD (Act.av a)) 0 1 (.jst [0,3,6,7,8,9] D hXN 1 (chD (Act.av a)) (0 + 1) .i64 a.Port [.sc (.int .i64 a.Field), .sc (.int .u64 a.Value)] (.dn ?_)))
    exact .sg 2 [0,3,6,7,8,9] (.into (.to (ih (k + 1) _ hw hd2)))
section
variable {c1 D : Ctx} {r : AV} {hE : List AO}
theorem ro_k2 (l d : List Rule) (f_l : Bool) (hc1 : c1.m.length = 0) (hDf : D.flat = D) (hXN : ∀ b, b < D.X.N → D.X b) (hA : l.length ≤ 2000) (hacts : ∀ x ∈ l, x.Acts.length ≤ 1152921504606846976)
    (J : AX Try.prog tab ro_F c1 (Rp tab.S c1 r hE) (some ⟨[.code [1, 1, 1, 1, 1, 1, 1]], [(0, .sl 1000031 (l.map RuleP.av) f_l), (3, .sl 1000031 (l.map RuleP.av) false), (6, .own 0 2000000), (7, .is (Jp tab.S D (.sl 31 (List.map Rule.av d) true)))], [.row 31 (List.map (RuleJ D) (l.map bump)) 2000000 true, .fam (junkF D) 0]⟩)) :
    ∀ (rest : List Rule) (i : Nat) (z : Int) (hI : z = ((i : Nat) : Int)) (hd : l.drop i = rest), AX Try.prog tab ro_F c1 (Rp tab.S c1 r hE) (some ⟨[.code [1, 1, 1, 1, 1, 1, 0, 1, 0, 0], .loop [1, 1, 1, 1, 1, 1, 0, 1, 0], .blk 2, .code [1, 1, 1, 1, 1, 1, 1]], [(0, .sl 1000031 (l.map RuleP.av) f_l), (3, .sl 1000031 (l.map RuleP.av) false), (6, .own 0 2000000), (7, .is (Jp tab.S D (.sl 31 (List.map Rule.av d) true))), (8, .sc (.int .i64 z))], [.row 31 (List.map (RuleJ D) ((l.take i).map bump ++ l.drop i)) 2000000 true, .fam (junkF D) 0]⟩) := by
  intro rest
  induction rest with
  | nil =>
    intro i z hI hd
    subst hI
    have hge : l.length ≤ i := List.drop_eq_nil_iff.1 hd
    rw [List.drop_eq_nil_of_le hge, List.take_of_length_le hge, List.append_nil]
    have hc : (decide (((i : Nat) : Int) < (((List.map (RuleJ D) (l.map bump)).length : Nat) : Int))) = false := by rw [List.length_map, List.length_map]; exact decide_eq_false (by omega)
    exact .sg 3 [0,3,6,7,8,42] (.cdF hc (.sg 1 [0,3,6,7] (.kp [0,3,6,7] (.to J))))
  | cons x rest ih =>
    intro i z hI hd
    subst hI
    obtain ⟨hlt, hv0, hd2⟩ := drop_cons hd
    have hc : (decide (((i : Nat) : Int) < (((List.map (RuleJ D) ((l.take i).map bump ++ l.drop i)).length : Nat) : Int))) = true := by
      rw [List.length_map, List.length_append, List.length_map, List.length_take, List.length_drop]
      exact decide_eq_true (by omega)
    have hw : IntKind.i64.wrap (((i : Nat) : Int) + 1) = ((i + 1 : Nat) : Int) := wrapI_succ (by omega)
    refine .sg 3 [0,3,6,7,8,42] (.cdT hc ?_)
    have hv : ixO ((l.take i).map bump ++ l.drop i) ((i : Nat) : Int) = some x := by
      have hlen : ((l.take i).map bump).length = i := by rw [List.length_map, List.length_take]; omega
      have h2 : ((l.take i).map bump ++ l.drop i)[i]? = some x := by rw [List.getElem?_append_right (by omega), hlen, Nat.sub_self, hd]; rfl
      obtain ⟨h3, h4⟩ := List.getElem?_eq_some_iff.1 h2
      rw [ixO_lt h3, h4]
    have he : ((l.take i).map bump ++ l.drop i).set i (bump x) = (l.take (i + 1)).map bump ++ l.drop (i + 1) := by
      have hlen : ((l.take i).map bump).length = i := by rw [List.length_map, List.length_take]; omega
      have ht : l.take (i + 1) = l.take i ++ [x] := by
        have e : l[i]? = some x := by rw [← List.head?_drop, hd]; rfl
        rw [List.take_add_one, e]; rfl
      rw [List.set_append_right _ _ (by omega), hlen, Nat.sub_self, hd, hd2, ht, List.map_append, List.append_assoc]
      rfl
    have hn := ih (i + 1) _ hw hd2
    rw [← he] at hn
    refine .sg 7 [0,3,6,7,8,9] (.into (.to (ro_k3 l d ((l.take i).map bump ++ l.drop i) f_l hc1 hDf hXN hv (hacts x (List.mem_of_mem_drop (hd ▸ List.mem_cons_self))) ?_ x.Acts 0 _ rfl rfl)))
    refine .rg (.sg 2 [0,3,6,7,8,67,68] (.xo [0,3,6,7,8,67,68,69] (ixO_req hv (RuleJ D)) (.sg 1 [0,3,6,7,8,67,68,70] (.lo [0,3,6,7,8,67,68,71] (ixO_map hv (RuleJ D)).2 (.sg 1 [0,3,6,7,8,67,68,72] (.xo [0,3,6,7,8,72,73] (ixO_req hv (RuleJ D)) (.sg 1 [0,3,6,7,8,72,74] (.st [0,3,6,7,8] (RuleJ D) (bump x) (ixO_map hv (RuleJ D)).2 (.dn ?_)))))))))
    exact .sg 2 [0,3,6,7,8] (.into (.to hn))
end
section
variable {A : List Rule} {c1 D : Ctx} {r : AV} {hE : List AO}
theorem ro_l3 (l : List Rule) (f_l : Bool) (hDf : D.flat = D) (hXN : ∀ b, b < D.X.N → D.X b) {i : Nat} {x : Rule} (hv : ixO A ((i : Nat) : Int) = some x) (hx : x.Acts.length ≤ 1152921504606846976)
    (J : AX Try.prog tab ro_F c1 (Rp tab.S c1 r hE) (some ⟨[.blk 7, .code [1, 1, 1, 1, 1, 1, 1, 0, 1, 0, 0, 1, 1], .loop [1, 1, 1, 1, 1, 1, 1, 0, 1, 0], .blk 6, .code [1, 1, 1, 1, 1, 1, 1, 1]], [(0, .sl 1000031 (l.map RuleP.av) f_l), (3, .sl 1000031 (l.map RuleP.av) false), (6, .own 0 2000000), (7, .is (Jp tab.S D (.sl 31 (List.map Rule.av A) true))), (10, .sc (.int .i64 ((i : Nat) : Int)))], [.row 31 (List.map (RuleJ D) (l.map bump)) 2000000 true, .fam (junkF D) 0]⟩)) :
    ∀ (rest : List Act) (k : Nat) (z : Int) (hI : z = ((k : Nat) : Int)) (hd : x.Acts.drop k = rest), AX Try.prog tab ro_F c1 (Rp tab.S c1 r hE) (some ⟨[.code [1, 1, 1, 1, 1, 1, 1, 0, 1, 0, 0, 1, 0, 0, 1, 0, 0], .loop [1, 1, 1, 1, 1, 1, 1, 0, 1, 0, 0, 1, 0, 0, 1, 0], .blk 8, .blk 7, .code [1, 1, 1, 1, 1, 1, 1, 0, 1, 0, 0, 1, 1], .loop [1, 1, 1, 1, 1, 1, 1, 0, 1, 0], .blk 6, .code [1, 1, 1, 1, 1, 1, 1, 1]], [(0, .sl 1000031 (l.map RuleP.av) f_l), (3, .sl 1000031 (l.map RuleP.av) false), (6, .own 0 2000000), (7, .is (Jp tab.S D (.sl 31 (List.map Rule.av A) true))), (10, .sc (.int .i64 ((i : Nat) : Int))), (11, .sc (.int .i64 z))], [.row 31 (List.map (RuleJ D) (l.map bump)) 2000000 true, .fam (junkF D) 0]⟩) := by
  intro rest
  induction rest with
  | nil =>
    intro k z hI hd
    subst hI
    have hge : x.Acts.length ≤ k := List.drop_eq_nil_iff.1 hd
    have hc : (decide (((k : Nat) : Int) < (((List.map Act.av x.Acts).length : Nat) : Int))) = false := by rw [List.length_map]; exact decide_eq_false (by omega)
    refine .sg 2 [0,3,6,7,10,11] (.rg (.sg 3 [0,3,6,7,10,11,81,82,83] (.jidx [0,3,6,7,10,11,81,84] D 31 Rule.av A true hv (.jfld [0,3,6,7,10,11,81,85] D (chD (Rule.av x)) 0 25 (.jls [0,3,6,7,10,11,81,86] D hDf 1 (chD (Rule.av x)) (0 + 25) 34 (List.map Act.av x.Acts) false (chD (.agg [.sc (.int .i64 x.Idle), .sc (.int .i64 x.Hard), .sc (.int .i64 x.Owner), .sc (.int .i64 x.Hits), .sc (.int .i64 x.Quiet), .sc (.int .i64 x.Age)])) (.jlen [0,3,6,7,10,11,81,87] D 34 (List.map Act.av x.Acts) false (.sg 1 [0,3,6,7,10,11,88] (.dn ?_))))))))
    exact .cdF hc (.sg 1 [0,3,6,7,10] (.kp [0,3,6,7,10] (.to J)))
  | cons a rest ih =>
    intro k z hI hd
    subst hI
    obtain ⟨hlt, hv2, hd2⟩ := drop_cons hd
    have hc : (decide (((k : Nat) : Int) < (((List.map Act.av x.Acts).length : Nat) : Int))) = true := by rw [List.length_map]; exact decide_eq_true (by omega)
    have hw : IntKind.i64.wrap (((k : Nat) : Int) + 1) = ((k + 1 : Nat) : Int) := wrapI_succ (by omega)
    refine .sg 2 [0,3,6,7,10,11] (.rg (.sg 3 [0,3,6,7,10,11,81,82,83] (.jidx [0,3,6,7,10,11,81,84] D 31 Rule.av A true hv (.jfld [0,3,6,7,10,11,81,85] D (chD (Rule.av x)) 0 25 (.jls [0,3,6,7,10,11,81,86] D hDf 1 (chD (Rule.av x)) (0 + 25) 34 (List.map Act.av x.Acts) false (chD (.agg [.sc (.int .i64 x.Idle), .sc (.int .i64 x.Hard), .sc (.int .i64 x.Owner), .sc (.int .i64 x.Hits), .sc (.int .i64 x.Quiet), .sc (.int .i64 x.Age)])) (.jlen [0,3,6,7,10,11,81,87] D 34 (List.map Act.av x.Acts) false (.sg 1 [0,3,6,7,10,11,88] (.dn ?_))))))))
    refine .cdT hc (.sg 3 [0,3,6,7,10,11] (.rg ?_))
    refine .sg 2 [0,3,6,7,10,11,91,92] (.jidx [0,3,6,7,10,11,93] D 31 Rule.av A true hv (.jfld [0,3,6,7,10,11,94] D (chD (Rule.av x)) 0 25 (.jls [0,3,6,7,10,11,95] D hDf 1 (chD (Rule.av x)) (0 + 25) 34 (List.map Act.av x.Acts) false (chD (.agg [.sc (.int .i64 x.Idle), .sc (.int .i64 x.Hard), .sc (.int .i64 x.Owner), .sc (.int .i64 x.Hits), .sc (.int .i64 x.Quiet), .sc (.int .i64 x.Age)])) (.sg 1 [0,3,6,7,10,11,95,96] (.jidx [0,3,6,7,10,11,95,96,97] D 34 Act.av x.Acts false hv2 ?_)))))
    refine .jfld [0,3,6,7,10,11,95,96,98] D (chD (Act.av a)) 0 1 (.jli [0,3,6,7,10,11,95,96,99] D hDf 1 (chD (Act.av a)) (0 + 1) .i64 a.Port [.sc (.int .i64 a.Field), .sc (.int .u64 a.Value)] (.jad [0,3,6,7,10,11,95,96,100] .i64 1 ?_))
    refine .jidx [0,3,6,7,10,11,100,101] D 34 Act.av x.Acts false hv2 (.jfld [0,3,6,7,10,11,100,102] D (chD (Act.av a)) 0 1 (.jst [0,3,6,7,10,11] D hXN 1 (chD (Act.av a)) (0 + 1) .i64 a.Port [.sc (.int .i64 a.Field), .sc (.int .u64 a.Value)] (.dn ?_)))
    exact .sg 2 [0,3,6,7,10,11] (.into (.to (ih (k + 1) _ hw hd2)))
theorem ro_l2 (l : List Rule) (f_l : Bool) (hDf : D.flat = D) (hXN : ∀ b, b < D.X.N → D.X b) (hA : A.length ≤ 2000) (hacts : ∀ x ∈ A, x.Acts.length ≤ 1152921504606846976)
    (J : AX Try.prog tab ro_F c1 (Rp tab.S c1 r hE) (some ⟨[.code [1, 1, 1, 1, 1, 1, 1, 1]], [(0, .sl 1000031 (l.map RuleP.av) f_l), (3, .sl 1000031 (l.map RuleP.av) false), (6, .own 0 2000000), (7, .is (Jp tab.S D (.sl 31 (List.map Rule.av A) true)))], [.row 31 (List.map (RuleJ D) (l.map bump)) 2000000 true, .fam (junkF D) 0]⟩)) :
    ∀ (rest : List Rule) (i : Nat) (z : Int) (hI : z = ((i : Nat) : Int)) (hd : A.drop i = rest), AX Try.prog tab ro_F c1 (Rp tab.S c1 r hE) (some ⟨[.code [1, 1, 1, 1, 1, 1, 1, 0, 1, 0, 0], .loop [1, 1, 1, 1, 1, 1, 1, 0, 1, 0], .blk 6, .code [1, 1, 1, 1, 1, 1, 1, 1]], [(0, .sl 1000031 (l.map RuleP.av) f_l), (3, .sl 1000031 (l.map RuleP.av) false), (6, .own 0 2000000), (7, .is (Jp tab.S D (.sl 31 (List.map Rule.av A) true))), (10, .sc (.int .i64 z))], [.row 31 (List.map (RuleJ D) (l.map bump)) 2000000 true, .fam (junkF D) 0]⟩) := by
  intro rest
  induction rest with
  | nil =>
    intro i z hI hd
    subst hI
    have hge : A.length ≤ i := List.drop_eq_nil_iff.1 hd
    have hc : (decide (((i : Nat) : Int) < (((List.map Rule.av A).length : Nat) : Int))) = false := by rw [List.length_map]; exact decide_eq_false (by omega)
    exact .sg 2 [0,3,6,7,10] (.rg (.sg 2 [0,3,6,7,10,75,76] (.jlen [0,3,6,7,10,75,77] D 31 (List.map Rule.av A) true (.sg 1 [0,3,6,7,10,78] (.dn (.cdF hc (.sg 1 [0,3,6,7] (.kp [0,3,6,7] (.to J)))))))))
  | cons x rest ih =>
    intro i z hI hd
    subst hI
    obtain ⟨hlt, hv, hd2⟩ := drop_cons hd
    have hc : (decide (((i : Nat) : Int) < (((List.map Rule.av A).length : Nat) : Int))) = true := by rw [List.length_map]; exact decide_eq_true (by omega)
    have hw : IntKind.i64.wrap (((i : Nat) : Int) + 1) = ((i + 1 : Nat) : Int) := wrapI_succ (by omega)
    refine .sg 2 [0,3,6,7,10] (.rg (.sg 2 [0,3,6,7,10,75,76] (.jlen [0,3,6,7,10,75,77] D 31 (List.map Rule.av A) true (.sg 1 [0,3,6,7,10,78] (.dn (.cdT hc ?_))))))
    refine .sg 6 [0,3,6,7,10,11] (.into (.to (ro_l3 l f_l hDf hXN hv (hacts x (List.mem_of_mem_drop (hd ▸ List.mem_cons_self))) ?_ x.Acts 0 _ rfl rfl)))
    exact .sg 2 [0,3,6,7,10] (.into (.to (ih (i + 1) _ hw hd2)))
end
theorem ro_walk (l : List Rule) (f_l : Bool) (hl : l.length ≤ 40) (hacts : ∀ x ∈ l, (([] : List Act).length + x.Acts.length) * 32 ≤ reach) (hv : rule_CopyP_raw l = some l) (d : List Rule) (hd : rule_SortP_raw l = some d) (hactsl : ∀ x ∈ l, x.Acts.length ≤ 1152921504606846976) (hdl : d.length ≤ 2000) (hactsd : ∀ x ∈ d, x.Acts.length ≤ 1152921504606846976) (hS : ACalls Try.prog tab.S 9 [.sl 31 (List.map Rule.av l) false, .sl 31 (List.map Rule.av l) f_l] [] (.sc (.bool true)) [])
   : ACalls Try.prog tab.S 3 [.sl 31 (List.map Rule.av l) f_l] [] (.sc (.bool true)) [] := by
  refine .of_AX ro_F Try.func3 fun c0 hc0 => ?_
  have hc : (decide ((((List.map Rule.av l).length : Nat) : Int) > 40)) = false := by rw [List.length_map]; exact decide_eq_false (by omega)
  refine .sg 5 [0,14] (.cdF hc (.sg 7 [0,3,4] (.ad 3 31 true (.kp [0,3,4] (.into (.to (ro_l0 l f_l hl hacts c0 hc0 _ ?_ l 0 _ rfl rfl)))))))
  refine .tl hc0 [] [0,3] (.to (c := ⟨[.code [1, 1, 1, 1]], [(0, .sl 31 (List.map Rule.av l) f_l), (3, .sl 31 (List.map Rule.av l) false)], []⟩) ?_)
  refine .shown hc0 [(0, .sl 1000031 (l.map RuleP.av) f_l), (3, .sl 1000031 (l.map RuleP.av) false)] [] [] rfl (fun C D k _ => ⟨rfl, MkC.one k rfl rfl (Mk.sl (fun x _ => RuleP.mk x) (by kernel_rfl) (by decide) _), rfl, MkC.one k rfl rfl (Mk.sl (fun x _ => RuleP.mk x) (by kernel_rfl) (by decide) _), trivial⟩) .nil (fun c1 hsh => ?_)
  have hc1 : c1.m.length = 0 := hsh.m
  refine .sg 1 [0,3] (.rg (.sg 1 [0,3,35] (.ch [0,3,36] [] (rule_CopyP_walk l false l hv) (.sg 1 [0,3,6] (.dn ?_)))))
  refine .sg 1 [0,3,6] (.rg (.sg 1 [0,3,6,37] (.cp [0,3,6,38] (rule_SortP_walk l false d hd) (.sg 1 [0,3,6,7] (.dn ?_)))))
  refine .to (c := ⟨[.code [1, 1, 1, 1, 1, 1]], [(0, .sl 1000031 (l.map RuleP.av) f_l), (3, .sl 1000031 (l.map RuleP.av) false), (6, .own 0 2000000), (7, .sl 31 (List.map Rule.av d) true)], [.row 31 (List.map Rule.av l) 2000000 true]⟩) ?_
  refine .junk hsh (fun D => [(0, .sl 1000031 (l.map RuleP.av) f_l), (3, .sl 1000031 (l.map RuleP.av) false), (6, .own 0 2000000), (7, .is (Jp tab.S D (.sl 31 (List.map Rule.av d) true)))]) (fun D => [.row 31 (List.map (RuleJ D) l) 2000000 true]) (fun C D E jk => ⟨rfl, JkV.pk jk rfl (PK.sl (fun x _ => RuleP.pk x) (by decide) _), rfl, JkV.pk jk rfl (PK.sl (fun x _ => RuleP.pk x) (by decide) _), rfl, JkV.own jk, rfl, JkV.sl jk, trivial⟩) (fun C D E jk => .cons (JkO.row jk (by decide) (fun x _ cs r => RuleJ.of x cs r)) .nil) (fun D hDf hXN => ?_)
  refine .sg 4 [0,3,6,7,8] (.into (.to (ro_k2 l d f_l hc1 hDf hXN (by omega) hactsl ?_ l 0 _ rfl rfl)))
  refine .sg 4 [0,3,6,7,10] (.into (.to (ro_l2 l f_l hDf hXN hdl hactsd ?_ d 0 _ rfl rfl)))
  refine .unjunk (e := 31) (f := Rule.av) hc1 (by decide) (fun x y => y.Prio = x.Prio) (RuleJ.back hDf hXN) (fun ys => [(0, .sl 1000031 (l.map RuleP.av) f_l), (3, .sl 1000031 (l.map RuleP.av) false), (6, .sl 31 (List.map Rule.av ys) false), (7, .u)]) (fun ys C E uj ho => ⟨rfl, UjV.pk uj rfl (PK.sl (fun x _ => RuleP.pk x) (by decide) _), rfl, UjV.pk uj rfl (PK.sl (fun x _ => RuleP.pk x) (by decide) _), rfl, ho, rfl, fun _ _ => trivial, trivial⟩) (fun ys hyl hys => ?_)
  refine .sg 1 [0,3,6] (.rg (.cp [0,3,6,103] z6_ok (.sg 3 [0,3,6,104,105,106] ?_)))
  refine .cp [0,6,104,107] (.un (l := [.sl 1000031 (List.map RuleP.av l) false, .sl 1000031 (List.map RuleP.av l) f_l]) (by (repeat' (first | exact CvL.nil | exact Cvs.nil | refine CvL.cons ?_ ?_ | refine Cvs.cons ?_ ?_ | exact Cv.scal rfl | exact Cv1.scal rfl | refine Cv.agg ?_ | refine Cv1.agg ?_ | refine Cv1.one ?_ rfl rfl | (refine Un.sl (fun _ _ => ?_) ?_ ?_ _ <;> first | kernel_rfl | decide | skip) | (refine Mk.sl (fun _ _ => ?_) ?_ ?_ _ <;> first | kernel_rfl | decide | skip) | (refine PK.sl (fun _ _ => ?_) ?_ _ <;> first | kernel_rfl | decide | skip) | refine Un.ep ?_ _ _ | refine Cv.fn ?_))) hS) ?_
  refine .sg 7 [0,6,109,114] (.kb 114 (b := ((((List.map Rule.av ys).length : Nat) : Int) == (((List.map RuleP.av l).length : Nat) : Int))) (v := true) (by rw [List.length_map, List.length_map, hyl, List.length_map, beq_self_eq_true]) ?_)
  refine .sg 5 [0,6,116,119] ?_
  by_cases h0 : l = []
  · refine .kb 119 (b := ((((List.map RuleP.av l).length : Nat) : Int) == 0)) (v := true) (by rw [h0]; rfl) ?_
    exact .sg 8 [2] (.dn (.ret Try.func3 hc1))
  · refine .kb 119 (b := ((((List.map RuleP.av l).length : Nat) : Int) == 0)) (v := false) (by
      rw [List.length_map, beq_eq_false_iff_ne]
      have := List.length_pos_iff.2 h0
      omega) ?_
    have hne : z9 ys l = false := by
      rw [z9_eq, beq_eq_false_iff_ne]
      intro he
      cases l with
      | nil => exact h0 rfl
      | cons x l =>
        have h1 := hys 0 (bump x) x rfl (by rw [he]; rfl)
        have h2 : x.Prio = IntKind.i64.wrap (x.Prio + 1) := h1
        rw [IntKind.wrap_i64] at h2
        omega
    have hN : ACalls Try.prog tab.S 9 [.sl 31 (List.map Rule.av ys) false, .sl 31 (List.map Rule.av l) f_l] [] (.sc (.bool false)) [] := by
      have h := z9_calls ys l false f_l
      rw [hne] at h
      exact h
    refine .sg 3 [116,120,121,122] ?_
    refine .cp [116,120,123] (.un (l := [.sl 31 (List.map Rule.av ys) false, .sl 1000031 (List.map RuleP.av l) f_l]) (by (repeat' (first | exact CvL.nil | exact Cvs.nil | refine CvL.cons ?_ ?_ | refine Cvs.cons ?_ ?_ | exact Cv.scal rfl | exact Cv1.scal rfl | refine Cv.agg ?_ | refine Cv1.agg ?_ | refine Cv1.one ?_ rfl rfl | (refine Un.sl (fun _ _ => ?_) ?_ ?_ _ <;> first | kernel_rfl | decide | skip) | (refine Mk.sl (fun _ _ => ?_) ?_ ?_ _ <;> first | kernel_rfl | decide | skip) | (refine PK.sl (fun _ _ => ?_) ?_ _ <;> first | kernel_rfl | decide | skip) | refine Un.ep ?_ _ _ | refine Cv.fn ?_))) hN) ?_
    exact .sg 4 [2] (.dn (.ret Try.func3 hc1))
theorem ro_out (l : List Rule) (f_l : Bool) (hl : ¬ l.length ≤ 40) : ACalls Try.prog tab.S 3 [.sl 31 (List.map Rule.av l) f_l] [] (.sc (.bool true)) [] := by
  refine .of_AX ro_F Try.func3 fun c0 hc0 => ?_
  have hc : (decide ((((List.map Rule.av l).length : Nat) : Int) > 40)) = true := by rw [List.length_map]; exact decide_eq_true (by omega)
  exact .sg 5 [0,14] (.cdT hc (.sg 1 [] (.rg (.cp [15] z6_ok (.sg 1 [2] (.dn (.ret Try.func3 hc0)))))))
theorem rule_SortP_l0s_eq : ∀ (l out : List Rule), (out.length + l.length) * 272 ≤ 140737488355328 → rule_SortP_l0s l out = some (l.foldl putR out)
  | [], out, _ => by rw [rule_SortP_l0s]; rfl
  | x :: l, out, h => by
      rw [List.length_cons] at h
      have hp := putR_len out x
      have ih := rule_SortP_l0s_eq l (putR out x) (by omega)
      rw [rule_SortP_l0s, List.foldl_cons, ← ih]
      unfold putR
      cases hs : !(z18 x)
      · simp only [cond_false]
        cases hb : (bsR out x z22).2
        · simp only [cond_false]
          have e1 : (bsR out x z22).1 = ((bsN out x z22 : Nat) : Int) := rfl
          have hle := bsN_le out x z22
          rw [fitO_eq (by rw [List.length_cons, List.length_nil]; omega), e1]
          unfold insO
          rw [if_pos (by omega), Int.toNat_natCast]
          rfl
        · simp only [cond_true]
          have e1 : (bsR out x z22).1 = ((bsN out x z22 : Nat) : Int) := rfl
          rw [e1, ixO_lt (bsR_lt hb)]
          rfl
      · rfl
theorem rule_SortP_eq (l : List Rule) (h : l.length * 272 ≤ 140737488355328) : rule_SortP_raw l = some (sortR l) := by
  rw [rule_SortP_raw, rule_SortP_l0s_eq l [] (by rw [List.length_nil, Nat.zero_add]; exact h)]
  rfl
theorem ro_hand (l : List Rule) (f_l : Bool) : ACalls Try.prog tab.S 3 [.sl 31 (List.map Rule.av l) f_l] [] (.sc (.bool true)) [] := by
  by_cases hl : l.length ≤ 40
  · refine ACalls.facts (ent_of Try.func3 (by kernel_rfl) (by kernel_rfl)) fun hf => ?_
    have hact : ∀ x ∈ l, x.Acts.length * 32 ≤ reach := by
      intro x hx
      have h1 := factsL_mem hf.1.2.2 (List.mem_map_of_mem (f := Rule.av) hx)
      have h2 : (List.map Act.av x.Acts).length * 32 ≤ reach := h1.2.2.2.1.1
      rwa [List.length_map] at h2
    have hA : allA (fun a => a.length ≤ 1152921504606846976) l := fun x hx => by have := hact x hx; simp only [reach] at this; omega
    obtain ⟨d1, d2⟩ := sortR_all hA
    have hS : ACalls Try.prog tab.S 9 [.sl 31 (List.map Rule.av l) false, .sl 31 (List.map Rule.av l) f_l] [] (.sc (.bool true)) [] := by
      have h := z9_calls l l false f_l
      rw [z9_eq, beq_self_eq_true] at h
      exact h
    exact ro_walk l f_l hl (fun x hx => by rw [List.length_nil, Nat.zero_add]; exact hact x hx) (CopyP_eq' l (by omega)) (sortR l) (rule_SortP_eq l (by omega)) hA (by omega) d1 hS
  · exact ro_out l f_l hl
end Go.Proofs.Ytjicebidjfbkpaa