import Derived.Test.YtjicebidjfbkpaaM4ModsKeeps
set_option linter.unusedVariables false
set_option linter.unusedSimpArgs false
set_option maxRecDepth 100000
set_option maxHeartbeats 4000000
namespace Go.Proofs.Ytjicebidjfbkpaa
open Go.Sh
end Go.Proofs.Ytjicebidjfbkpaa
namespace Go.Proofs.Ytjicebidjfbkpaa
open Go.Sh
theorem LQ.ab {P : Program} {G : Tab} {n : Nat} {ops : Array Oper} {i : Nat} {t : Tmps} {h : List AO} [ok : Ok P G] {α : Type} (f : α → AV) {A B : List α} {by_ : Nat} (hfit : (A.length + B.length) * by_ ≤ reach) (hA : A = []) (e : anA (appNE G n ops i t h) = some (A.map f, B.map f, by_) := by kernel_rfl) : LSpec P G.S n ops i .loud t h (.own h.length 1000000) (h ++ [.row (anT (appNE G n ops i t h)) ((A ++ B).map f) 1000000 true]) := LSpec.ab f hfit hA e
theorem LQ.ap {P : Program} {G : Tab} {n : Nat} {ops : Array Oper} {i : Nat} {t : Tmps} {h : List AO} [ok : Ok P G] {α : Type} (f : α → AV) {A B : List α} {by_ : Nat} (hfit : (A.length + B.length) * by_ ≤ reach) (e : apA (appE G n ops i t h) = some (A.map f, B.map f, by_) := by kernel_rfl) : LSpec P G.S n ops i .loud t h (apR (appE G n ops i t h)) (apH f A B (appE G n ops i t h) h) := LSpec.ap f hfit e
theorem LQ.so {P : Program} {G : Tab} {n : Nat} {ops : Array Oper} {i : Nat} {t : Tmps} {h : List AO} [ok : Ok P G] {α : Type} (f : α → AV) {A A' : List α} {l u m : Option Int} (hv : Go.Sh.sliceO A l u m = some A') (e : soA (sliceE G n ops i t) = some (A.map f, l, u, m) := by kernel_rfl) : LSpec P G.S n ops i .pure t h (.sl (soT (sliceE G n ops i t)) (A'.map f) (soF (sliceE G n ops i t))) h := LSpec.so f hv e
theorem LQ.cc {P : Program} {G : Tab} {n : Nat} {ops : Array Oper} {i : Nat} {t : Tmps} {h : List AO} [ok : Ok P G] (os : List Nat) {f : FuncId} {avs : List AV} {r : AV} (hc : ACalls P G.S f avs [] r []) (ds : List (TypeId × Bool) := []) (hos : rowsAt h os = true := by kernel_rfl) (e : callWE (giveO os h) ds n ops i t f = some avs := by kernel_rfl) : LSpec P G.S n ops i .loud t h r (Go.Sh.settle os h) := LSpec.cc os hc ds hos e
theorem LQ.cp {P : Program} {G : Tab} {n : Nat} {ops : Array Oper} {i : Nat} {t : Tmps} {h : List AO} [ok : Ok P G] {f : FuncId} {avs : List AV} {r : AV} (hc : ACalls P G.S f avs [] r []) (ds : List (TypeId × Bool) := []) (e : callWE plainO ds n ops i t f = some avs := by kernel_rfl) : LSpec P G.S n ops i .pure t h r h := LSpec.cp hc ds e
noncomputable def mods_RuleP_F : Go.Sh.Fn := ⟨51, bodyOf Try.f51, 18⟩
def mods_RuleP (m1 : Mod) : Rule :=
 ({ m1 with Hits := 0, Quiet := 0, Age := 0 } : Rule)
theorem mods_RuleP_calls (m1 : Mod) : ACalls Try.prog tab.S 51 [ModP.av m1] [] (Rule.av (mods_RuleP m1)) [] := by
 generalize H : mods_RuleP m1 = r
 refine .of_AX mods_RuleP_F Try.func51 fun c0 hc0 => ?_
 rw [mods_RuleP] at H
 refine .sg 3 [1,2] (.rg (.sg 6 [1,2,4,6,8] (.cp [1,2,4,6,9] (slices_Clone__api_ActP_calls m1.Acts false) (.cp [1,2,4,6,10] (z33_calls m1.Acts false) (.sg 8 [2] (.dn ?_))))))
 subst H
 exact .ret Try.func51 hc0 [] [(0, false)]
noncomputable def mods_addP_F : Go.Sh.Fn := ⟨31, bodyOf Try.f31, 53⟩
def mods_addP_raw (list : List Rule) (m1 : Mod) (room : Int) : Option ((List Rule) × Int) :=
 (bif (decide ((z36 list (fun y0 => z52 y0 (mods_RuleP m1))) ≥ 0)) then
  (ixO list (z36 list (fun y0 => z52 y0 (mods_RuleP m1)))).bind fun x =>
  (bif (x.Owner != m1.Owner) then
   some ([], 7)
  else
   (bif (m1.Check && (z55 list (fun y0 => z53 y0 (mods_RuleP m1)))) then
    some ([], 6)
   else
    (bif ((decide ((z36 list (fun y0 => z52 y0 (mods_RuleP m1))) < 0)) && (decide ((((List.map RuleP.av list).length : Nat) : Int) ≥ room))) then
     some ([], 3)
    else
     (rule_CopyP_raw list).bind fun v =>
     fitO (v.length + [(mods_RuleP m1)].length) 272 (
     some ((sortR (v ++ [(mods_RuleP m1)])), 0)))))
 else
  (bif (m1.Check && (z55 list (fun y0 => z53 y0 (mods_RuleP m1)))) then
   some ([], 6)
  else
   (bif ((decide ((z36 list (fun y0 => z52 y0 (mods_RuleP m1))) < 0)) && (decide ((((List.map RuleP.av list).length : Nat) : Int) ≥ room))) then
    some ([], 3)
   else
    (rule_CopyP_raw list).bind fun v1 =>
    fitO (v1.length + [(mods_RuleP m1)].length) 272 (
    some ((sortR (v1 ++ [(mods_RuleP m1)])), 0)))))
theorem mods_addP_walk (list : List Rule) (m1 : Mod) (room : Int) (f_list : Bool) (r : (List Rule) × Int) (H : mods_addP_raw list m1 room = some r) : ACalls Try.prog tab.S 31 [.sl 1000031 (List.map RuleP.av list) f_list, ModP.av m1, .sc (.int .i64 room)] [] (.tup [.sl 31 (List.map Rule.av r.1) true, .sc (.int .i64 r.2)]) [] := by
 refine .of_AX mods_addP_F Try.func31 fun c0 hc0 => ?_
 rw [mods_addP_raw] at H
 refine .sg 1 [0,1,2] (.rg (.bx [0,2,4] (.sg 2 [0,2,4] (.dn (.sg 1 [0,2,4] (.rg (.sg 1 [0,2,4,11] (.cp [0,2,4,12] (mods_RuleP_calls m1) (.sg 2 [0,2,4,8] (.dn (.sg 1 [0,2,4,8] (.rg (.sg 2 [0,2,4,8,13,14] (.cl_ [0,2,4,8,15] (caps := []) (.un (l := [.sl 1000031 (List.map RuleP.av list) f_list, .fn 52 [.ep [.arr .u64 12 (((mods_RuleP m1).Match).Value), .arr .u64 12 (((mods_RuleP m1).Match).Care), .sc (.int .i64 ((mods_RuleP m1).Prio)), .sl 34 (List.map Act.av ((mods_RuleP m1).Acts)) false, .sc (.int .i64 ((mods_RuleP m1).Idle)), .sc (.int .i64 ((mods_RuleP m1).Hard)), .sc (.int .i64 ((mods_RuleP m1).Owner)), .sc (.int .i64 ((mods_RuleP m1).Hits)), .sc (.int .i64 ((mods_RuleP m1).Quiet)), .sc (.int .i64 ((mods_RuleP m1).Age))] 0 none]]) (by (repeat' (first | exact CvL.nil | exact Cvs.nil | refine CvL.cons ?_ ?_ | refine Cvs.cons ?_ ?_ | exact Cv.scal rfl | exact Cv1.scal rfl | refine Cv.agg ?_ | refine Cv1.agg ?_ | refine Cv1.one ?_ rfl rfl | (refine Un.sl (fun _ _ => ?_) ?_ ?_ _ <;> first | kernel_rfl | decide | skip) | (refine Mk.sl (fun _ _ => ?_) ?_ ?_ _ <;> first | kernel_rfl | decide | skip) | (refine PK.sl (fun _ _ => ?_) ?_ _ <;> first | kernel_rfl | decide | skip) | refine Un.ep ?_ _ _ | refine Cv.fn ?_))) (z36_calls list 52 [.ep [.arr .u64 12 (((mods_RuleP m1).Match).Value), .arr .u64 12 (((mods_RuleP m1).Match).Care), .sc (.int .i64 ((mods_RuleP m1).Prio)), .sl 34 (List.map Act.av ((mods_RuleP m1).Acts)) false, .sc (.int .i64 ((mods_RuleP m1).Idle)), .sc (.int .i64 ((mods_RuleP m1).Hard)), .sc (.int .i64 ((mods_RuleP m1).Owner)), .sc (.int .i64 ((mods_RuleP m1).Hits)), .sc (.int .i64 ((mods_RuleP m1).Quiet)), .sc (.int .i64 ((mods_RuleP m1).Age))] 0 none] (fun y0 => z52 y0 (mods_RuleP m1)) rfl rfl (fun y0 => z52_calls y0 (mods_RuleP m1)) f_list)) (.same rfl (.fn (caps := [.ptr 0 0 none]) (by kernel_rfl) .nil)) (by kernel_rfl) rfl rfl (.sg 1 [0,2,4,8,9] (.dn (.sg 5 [0,2,4,8,9,10] (.rg (.sg 3 [0,2,4,8,9,10,20] (.sp 20 (decide ((z36 list (fun y0 => z52 y0 (mods_RuleP m1))) ≥ 0)) H (fun hb H => ?_) (fun hb H => ?_)))))))))))))))))))))
 ·
  refine .sg 2 [0,2,4,8,9,10,20,21,22] (bndO H fun x hv H => (.xm [0,2,4,8,9,10,20,23] RuleP.av hv (.sg 7 [0,2,4,8,9,10,17] (.dn (.cd (x.Owner != m1.Owner) H (fun hb H => ?_) (fun hb H => ?_))))))
  ·
   refine .sg 2 [6,7] ?_
   obtain rfl := Option.some.inj H
   exact .ret Try.func31 hc0 [] [(31, true)]
  ·
   refine .sg 1 [0,2,4,8,9,10] (.rg (.sg 3 [0,2,8,9,10,33] (.mm 33 m1.Check 4 [.pure, .read, .pure, .pure] [0, 2, 8, 9, 37] 37 (fun z => .sc (.bool (z && (z55 list (fun y0 => z53 y0 (mods_RuleP m1)))))) ?J1 (fun hb J => ?ht1) (fun hb J => ?hf1))))
   case ht1 =>
    exact .sg 2 [0,2,8,9,33,34,35] (.cl_ [0,2,8,9,33,36] (caps := []) (.un (l := [.sl 1000031 (List.map RuleP.av list) f_list, .fn 53 [.ep [.arr .u64 12 (((mods_RuleP m1).Match).Value), .arr .u64 12 (((mods_RuleP m1).Match).Care), .sc (.int .i64 ((mods_RuleP m1).Prio)), .sl 34 (List.map Act.av ((mods_RuleP m1).Acts)) false, .sc (.int .i64 ((mods_RuleP m1).Idle)), .sc (.int .i64 ((mods_RuleP m1).Hard)), .sc (.int .i64 ((mods_RuleP m1).Owner)), .sc (.int .i64 ((mods_RuleP m1).Hits)), .sc (.int .i64 ((mods_RuleP m1).Quiet)), .sc (.int .i64 ((mods_RuleP m1).Age))] 0 none]]) (by (repeat' (first | exact CvL.nil | exact Cvs.nil | refine CvL.cons ?_ ?_ | refine Cvs.cons ?_ ?_ | exact Cv.scal rfl | exact Cv1.scal rfl | refine Cv.agg ?_ | refine Cv1.agg ?_ | refine Cv1.one ?_ rfl rfl | (refine Un.sl (fun _ _ => ?_) ?_ ?_ _ <;> first | kernel_rfl | decide | skip) | (refine Mk.sl (fun _ _ => ?_) ?_ ?_ _ <;> first | kernel_rfl | decide | skip) | (refine PK.sl (fun _ _ => ?_) ?_ _ <;> first | kernel_rfl | decide | skip) | refine Un.ep ?_ _ _ | refine Cv.fn ?_))) (z55_calls list 53 [.ep [.arr .u64 12 (((mods_RuleP m1).Match).Value), .arr .u64 12 (((mods_RuleP m1).Match).Care), .sc (.int .i64 ((mods_RuleP m1).Prio)), .sl 34 (List.map Act.av ((mods_RuleP m1).Acts)) false, .sc (.int .i64 ((mods_RuleP m1).Idle)), .sc (.int .i64 ((mods_RuleP m1).Hard)), .sc (.int .i64 ((mods_RuleP m1).Owner)), .sc (.int .i64 ((mods_RuleP m1).Hits)), .sc (.int .i64 ((mods_RuleP m1).Quiet)), .sc (.int .i64 ((mods_RuleP m1).Age))] 0 none] (fun y0 => z53 y0 (mods_RuleP m1)) rfl rfl (fun y0 => z53_calls y0 (mods_RuleP m1)) f_list)) (.same rfl (.fn (caps := [.ptr 0 0 none]) (by kernel_rfl) .nil)) (by kernel_rfl) rfl rfl (.sg 1 [0,2,8,9,37] (.cl J)))
   case hf1 =>
    exact .sg 4 [0,2,8,9,37] (.cl J)
   refine .sg 1 [0,2,8,9,30] (.dn (.cd (m1.Check && (z55 list (fun y0 => z53 y0 (mods_RuleP m1)))) H (fun hb H => ?_) (fun hb H => ?_)))
   ·
    refine .sg 2 [6,7] ?_
    obtain rfl := Option.some.inj H
    exact .ret Try.func31 hc0 [] [(31, true)]
   ·
    refine .sg 1 [0,2,8,9] (.rg (.sg 3 [0,2,8,41] (.mx 0 [0,8,46] (.sg 1 [0,8,38] (.dn (.cd ((decide ((z36 list (fun y0 => z52 y0 (mods_RuleP m1))) < 0)) && (decide ((((List.map RuleP.av list).length : Nat) : Int) ≥ room))) H (fun hb H => ?_) (fun hb H => ?_)))))))
    ·
     refine .sg 2 [6,7] ?_
     obtain rfl := Option.some.inj H
     exact .ret Try.func31 hc0 [] [(31, true)]
    ·
     refine .sg 3 [0,8] (bndO H fun v hv_v H => (fitH H fun hfit2 H => (.rp hc0 [6, 7] [⟨1, [], [], .loud, [(47, .sl 1000031 (List.map RuleP.av list) f_list)], [.box 31 (Rule.ch (mods_RuleP m1))], .own 1 2000000, [.box 31 (Rule.ch (mods_RuleP m1)), .row 31 (List.map Rule.av v) 2000000 true]⟩, ⟨4, [], [], .loud, [(48, .own 1 2000000), (50, .sl 31 (List.map Rule.av [(mods_RuleP m1)]) true)], [.box 31 (Rule.ch (mods_RuleP m1)), .row 31 (List.map Rule.av v) 2000000 true], .own 1 2000001, [.box 31 (Rule.ch (mods_RuleP m1)), .row 31 (List.map Rule.av (v ++ [(mods_RuleP m1)])) 2000001 true]⟩, ⟨5, [], [], .loud, [(51, .own 1 2000001)], [.box 31 (Rule.ch (mods_RuleP m1)), .row 31 (List.map Rule.av (v ++ [(mods_RuleP m1)])) 2000001 true], .sl 31 (List.map Rule.av (sortR (v ++ [(mods_RuleP m1)]))) true, [.box 31 (Rule.ch (mods_RuleP m1)), .row 31 (List.map Rule.av (v ++ [(mods_RuleP m1)])) 2000001 false]⟩] [[0, 1], [0, 1]] (.cons (LQ.ch [] (rule_CopyP_walk _ f_list v hv_v)) (.cons (LQ.ap Rule.av hfit2) (.cons (LQ.cc [1] (z8_ok (v ++ [(mods_RuleP m1)]) false)) .nil))) (by kernel_rfl) ?_)))
     obtain rfl := Option.some.inj H
     exact .ret Try.func31 hc0
 ·
  refine .sg 10 [0,2,4,8,9,10,17] (.dn (.sg 2 [0,2,4,8,9,10] (.rg (.sg 3 [0,2,8,9,10,33] (.mm 33 m1.Check 4 [.pure, .read, .pure, .pure] [0, 2, 8, 9, 37] 37 (fun z => .sc (.bool (z && (z55 list (fun y0 => z53 y0 (mods_RuleP m1)))))) ?J3 (fun hb J => ?ht3) (fun hb J => ?hf3))))))
  case ht3 =>
   exact .sg 2 [0,2,8,9,33,34,35] (.cl_ [0,2,8,9,33,36] (caps := []) (.un (l := [.sl 1000031 (List.map RuleP.av list) f_list, .fn 53 [.ep [.arr .u64 12 (((mods_RuleP m1).Match).Value), .arr .u64 12 (((mods_RuleP m1).Match).Care), .sc (.int .i64 ((mods_RuleP m1).Prio)), .sl 34 (List.map Act.av ((mods_RuleP m1).Acts)) false, .sc (.int .i64 ((mods_RuleP m1).Idle)), .sc (.int .i64 ((mods_RuleP m1).Hard)), .sc (.int .i64 ((mods_RuleP m1).Owner)), .sc (.int .i64 ((mods_RuleP m1).Hits)), .sc (.int .i64 ((mods_RuleP m1).Quiet)), .sc (.int .i64 ((mods_RuleP m1).Age))] 0 none]]) (by (repeat' (first | exact CvL.nil | exact Cvs.nil | refine CvL.cons ?_ ?_ | refine Cvs.cons ?_ ?_ | exact Cv.scal rfl | exact Cv1.scal rfl | refine Cv.agg ?_ | refine Cv1.agg ?_ | refine Cv1.one ?_ rfl rfl | (refine Un.sl (fun _ _ => ?_) ?_ ?_ _ <;> first | kernel_rfl | decide | skip) | (refine Mk.sl (fun _ _ => ?_) ?_ ?_ _ <;> first | kernel_rfl | decide | skip) | (refine PK.sl (fun _ _ => ?_) ?_ _ <;> first | kernel_rfl | decide | skip) | refine Un.ep ?_ _ _ | refine Cv.fn ?_))) (z55_calls list 53 [.ep [.arr .u64 12 (((mods_RuleP m1).Match).Value), .arr .u64 12 (((mods_RuleP m1).Match).Care), .sc (.int .i64 ((mods_RuleP m1).Prio)), .sl 34 (List.map Act.av ((mods_RuleP m1).Acts)) false, .sc (.int .i64 ((mods_RuleP m1).Idle)), .sc (.int .i64 ((mods_RuleP m1).Hard)), .sc (.int .i64 ((mods_RuleP m1).Owner)), .sc (.int .i64 ((mods_RuleP m1).Hits)), .sc (.int .i64 ((mods_RuleP m1).Quiet)), .sc (.int .i64 ((mods_RuleP m1).Age))] 0 none] (fun y0 => z53 y0 (mods_RuleP m1)) rfl rfl (fun y0 => z53_calls y0 (mods_RuleP m1)) f_list)) (.same rfl (.fn (caps := [.ptr 0 0 none]) (by kernel_rfl) .nil)) (by kernel_rfl) rfl rfl (.sg 1 [0,2,8,9,37] (.cl J)))
  case hf3 =>
   exact .sg 4 [0,2,8,9,37] (.cl J)
  refine .sg 1 [0,2,8,9,30] (.dn (.cd (m1.Check && (z55 list (fun y0 => z53 y0 (mods_RuleP m1)))) H (fun hb H => ?_) (fun hb H => ?_)))
  ·
   refine .sg 2 [6,7] ?_
   obtain rfl := Option.some.inj H
   exact .ret Try.func31 hc0 [] [(31, true)]
  ·
   refine .sg 1 [0,2,8,9] (.rg (.sg 3 [0,2,8,41] (.mx 0 [0,8,46] (.sg 1 [0,8,38] (.dn (.cd ((decide ((z36 list (fun y0 => z52 y0 (mods_RuleP m1))) < 0)) && (decide ((((List.map RuleP.av list).length : Nat) : Int) ≥ room))) H (fun hb H => ?_) (fun hb H => ?_)))))))
   ·
    refine .sg 2 [6,7] ?_
    obtain rfl := Option.some.inj H
    exact .ret Try.func31 hc0 [] [(31, true)]
   ·
    refine .sg 3 [0,8] (bndO H fun v1 hv_v1 H => (fitH H fun hfit2 H => (.rp hc0 [6, 7] [⟨1, [], [], .loud, [(47, .sl 1000031 (List.map RuleP.av list) f_list)], [.box 31 (Rule.ch (mods_RuleP m1))], .own 1 2000000, [.box 31 (Rule.ch (mods_RuleP m1)), .row 31 (List.map Rule.av v1) 2000000 true]⟩, ⟨4, [], [], .loud, [(48, .own 1 2000000), (50, .sl 31 (List.map Rule.av [(mods_RuleP m1)]) true)], [.box 31 (Rule.ch (mods_RuleP m1)), .row 31 (List.map Rule.av v1) 2000000 true], .own 1 2000001, [.box 31 (Rule.ch (mods_RuleP m1)), .row 31 (List.map Rule.av (v1 ++ [(mods_RuleP m1)])) 2000001 true]⟩, ⟨5, [], [], .loud, [(51, .own 1 2000001)], [.box 31 (Rule.ch (mods_RuleP m1)), .row 31 (List.map Rule.av (v1 ++ [(mods_RuleP m1)])) 2000001 true], .sl 31 (List.map Rule.av (sortR (v1 ++ [(mods_RuleP m1)]))) true, [.box 31 (Rule.ch (mods_RuleP m1)), .row 31 (List.map Rule.av (v1 ++ [(mods_RuleP m1)])) 2000001 false]⟩] [[0, 1], [0, 1]] (.cons (LQ.ch [] (rule_CopyP_walk _ f_list v1 hv_v1)) (.cons (LQ.ap Rule.av hfit2) (.cons (LQ.cc [1] (z8_ok (v1 ++ [(mods_RuleP m1)]) false)) .nil))) (by kernel_rfl) ?_)))
    obtain rfl := Option.some.inj H
    exact .ret Try.func31 hc0
noncomputable def mods_ApplyP_F : Go.Sh.Fn := ⟨15, bodyOf Try.f15, 57⟩
def mods_ApplyP_l0s (m1 : Mod) : List Rule → List Rule → Option ((List Rule))
 | [], out =>
  some out
 | x1 :: rest, out =>
  (bif (z32 m1 x1) then
   (bif ((m1.Kind == 3) || (m1.Kind == 5)) then
    mods_ApplyP_l0s m1 rest out
   else
    fitO (out.length + [({ x1 with Acts := m1.Acts } : Rule)].length) 272 (
    mods_ApplyP_l0s m1 rest (out ++ [({ x1 with Acts := m1.Acts } : Rule)])))
  else
   fitO (out.length + [x1].length) 272 (
   mods_ApplyP_l0s m1 rest (out ++ [x1])))
theorem mods_ApplyP_l0_walk (list : List Rule) (m1 : Mod) (room : Int) (v : (List Rule)) (f_list : Bool) (r : (List Rule) × Int) (c0 : Ctx) (hc0 : c0.m.length = 0) (res : (List Rule)) (J : AX Try.prog tab mods_ApplyP_F c0 (Rp tab.S c0 (.tup [.sl 31 (List.map Rule.av r.1) false, .sc (.int .i64 r.2)]) []) (some ⟨[.code [1, 1, 1, 1, 1]], [(8, .own 2 1000000)], [.box 42 (ModP.ch m1), .row 31 (List.map Rule.av v) 2000000 true, .row 31 (List.map Rule.av res) 1000000 true]⟩)) :
  ∀ (rest : List Rule) (t31 : Nat) (z : Int) (hI : z = ((t31 : Nat) : Int)) (hd : v.drop t31 = rest) (out : List Rule) (H : mods_ApplyP_l0s m1 rest out = some res), AX Try.prog tab mods_ApplyP_F c0 (Rp tab.S c0 (.tup [.sl 31 (List.map Rule.av r.1) false, .sc (.int .i64 r.2)]) []) (some ⟨[.code [1, 1, 1, 1, 0, 1, 0, 0], .loop [1, 1, 1, 1, 0, 1, 0], .blk 0, .code [1, 1, 1, 1, 1]], [(4, .ptr 0 0 none), (8, .own 2 1000000), (29, .own 1 2000000), (30, .sc (.int .i64 (((List.map Rule.av v).length : Nat) : Int))), (31, .sc (.int .i64 z))], [.box 42 (ModP.ch m1), .row 31 (List.map Rule.av v) 2000000 true, .row 31 (List.map Rule.av out) 1000000 true]⟩) := by
 intro rest
 induction rest with
 | nil =>
  intro t31 z hI hd out H
  subst hI
  rw [mods_ApplyP_l0s] at H
  refine .factsH 1 rfl fun hf => ?_
  have hlen : v.length ≤ 9223372036854775807 := by have hq := len_ok2 hf (of_decide_eq_true (by kernel_rfl)); rw [List.length_map] at hq; exact hq
  have hge : v.length ≤ t31 := List.drop_eq_nil_iff.1 hd
  have hc : (decide (((t31 : Nat) : Int) < (((List.map Rule.av v).length : Nat) : Int))) = false := by rw [List.length_map]; exact decide_eq_false (by omega)
  refine .sg 3 [4,8,29,30,31,32] (.cdF hc (.sg 1 [8] (.kp [8] ?_)))
  obtain rfl := Option.some.inj H
  exact .to J
 | cons x1 rest ih =>
  intro t31 z hI hd out H
  subst hI
  rw [mods_ApplyP_l0s] at H
  refine .factsH 1 rfl fun hf => ?_
  have hlen : v.length ≤ 9223372036854775807 := by have hq := len_ok2 hf (of_decide_eq_true (by kernel_rfl)); rw [List.length_map] at hq; exact hq
  obtain ⟨hlt, hv_t31, hd2⟩ := drop_cons hd
  have hc : (decide (((t31 : Nat) : Int) < (((List.map Rule.av v).length : Nat) : Int))) = true := by rw [List.length_map]; exact decide_eq_true (by omega)
  have hw : IntKind.i64.wrap (((t31 : Nat) : Int) + 1) = ((t31 + 1 : Nat) : Int) := wrapI_succ (by omega)
  refine .sg 3 [4,8,29,30,31,32] (.cdT hc (.sg 4 [4,8,29,30,31] (.rg (.xo [4,8,29,30,31,33] (ixO_req hv_t31 Rule.av) (.lo [4,8,29,30,31,34] (ixO_map hv_t31 Rule.av).2 (.sg 2 [4,8,10,29,30,31] (.dn (.sg 2 [4,8,10,29,30,31] (.rg (.sg 2 [4,8,10,29,30,31,35,36] (.cp [4,8,10,29,30,31,37] (.un (l := [ModP.av m1, Rule.av x1]) (by (repeat' (first | exact CvL.nil | exact Cvs.nil | refine CvL.cons ?_ ?_ | refine Cvs.cons ?_ ?_ | exact Cv.scal rfl | exact Cv1.scal rfl | refine Cv.agg ?_ | refine Cv1.agg ?_ | refine Cv1.one ?_ rfl rfl | (refine Un.sl (fun _ _ => ?_) ?_ ?_ _ <;> first | kernel_rfl | decide | skip) | (refine Mk.sl (fun _ _ => ?_) ?_ ?_ _ <;> first | kernel_rfl | decide | skip) | (refine PK.sl (fun _ _ => ?_) ?_ _ <;> first | kernel_rfl | decide | skip) | refine Un.ep ?_ _ _ | refine Cv.fn ?_))) (z32_calls m1 x1)) (.dn (.cd (z32 m1 x1) H (fun hb H => ?_) (fun hb H => ?_))))))))))))))
  ·
   refine .sg 2 [4,8,10,29,30,31] (.rg (.sg 4 [4,8,10,29,30,31,41] (.mx 1 [4,8,10,29,30,31,45] (.dn (.cd ((m1.Kind == 3) || (m1.Kind == 5)) H (fun hb H => ?_) (fun hb H => ?_))))))
   ·
    exact .sg 2 [4,8,29,30,31] (.tl hc0 [0,1,2] [4,8,29,30,31] (.into (.cl (ih (t31 + 1) _ hw hd2 out H))))
   ·
    exact .sg 1 [4,8,10,29,30,31] (.rg (.sg 2 [4,8,10,29,30,31,47] (.cp [4,8,10,29,30,31,48] (slices_Clone__api_ActP_calls m1.Acts false) (.cp [4,8,10,29,30,31,49] (z33_calls m1.Acts false) (.sg 2 [4,8,10,29,30,31] (.dn (.rg (.sg 2 [4,29,30,31,51,52] (.wk 52 [(0, false)] (.sg 1 [4,29,30,31,51,53] (fitH H fun hfit H => (.ap [4,29,30,31,54] Rule.av hfit (.sg 1 [4,8,29,30,31] (.dn (.sg 2 [4,8,29,30,31] (.tl hc0 [0,1,2] [4,8,29,30,31] (.into (.cl (ih (t31 + 1) _ hw hd2 (out ++ [({ x1 with Acts := m1.Acts } : Rule)]) H)))))))))))))))))))
  ·
   exact .sg 1 [4,8,10,29,30,31] (.rg (.sg 3 [4,29,30,31,51,53] (fitH H fun hfit H => (.ap [4,29,30,31,54] Rule.av hfit (.sg 1 [4,8,29,30,31] (.dn (.sg 2 [4,8,29,30,31] (.tl hc0 [0,1,2] [4,8,29,30,31] (.into (.cl (ih (t31 + 1) _ hw hd2 (out ++ [x1]) H)))))))))))
def mods_ApplyP_raw (list : List Rule) (m1 : Mod) (room : Int) : Option ((List Rule) × Int) :=
 (bif ((!(tableR list)) || (!(z29 m1))) then
  some ([], 2)
 else
  (bif (m1.Kind == 1) then
   (mods_addP_raw list m1 room).bind fun x =>
   some (x.1, x.2)
  else
   (rule_CopyP_raw list).bind fun v =>
   (mods_ApplyP_l0s m1 v ([] : List Rule)).bind fun v1 =>
   some (v1, 0)))
theorem mods_ApplyP_walk (list : List Rule) (m1 : Mod) (room : Int) (f_list : Bool) (r : (List Rule) × Int) (H : mods_ApplyP_raw list m1 room = some r) : ACalls Try.prog tab.S 15 [.sl 1000031 (List.map RuleP.av list) f_list, ModP.av m1, .sc (.int .i64 room)] [] (.tup [.sl 31 (List.map Rule.av r.1) false, .sc (.int .i64 r.2)]) [] := by
 refine .of_AX mods_ApplyP_F Try.func15 fun c0 hc0 => ?_
 rw [mods_ApplyP_raw] at H
 refine .sg 4 [0,2,4] (.rg (.sg 1 [0,2,4,11] (.cp [0,2,4,12] (.un (l := [.sl 1000031 (List.map RuleP.av list) f_list]) (by (repeat' (first | exact CvL.nil | exact Cvs.nil | refine CvL.cons ?_ ?_ | refine Cvs.cons ?_ ?_ | exact Cv.scal rfl | exact Cv1.scal rfl | refine Cv.agg ?_ | refine Cv1.agg ?_ | refine Cv1.one ?_ rfl rfl | (refine Un.sl (fun _ _ => ?_) ?_ ?_ _ <;> first | kernel_rfl | decide | skip) | (refine Mk.sl (fun _ _ => ?_) ?_ ?_ _ <;> first | kernel_rfl | decide | skip) | (refine PK.sl (fun _ _ => ?_) ?_ _ <;> first | kernel_rfl | decide | skip) | refine Un.ep ?_ _ _ | refine Cv.fn ?_))) (z30_ok list f_list)) (.sg 2 [0,2,4,14] (.mm 14 (!(tableR list)) 4 [.pure, .pure, .pure, .read] [0, 2, 4, 18] 18 (fun z => .sc (.bool (z || (!(z29 m1))))) ?J1 (fun hb J => ?ht1) (fun hb J => ?hf1))))))
 case ht1 =>
  exact .sg 4 [0,2,4,18] (.cl J)
 case hf1 =>
  exact .sg 1 [0,2,4,14,15] (.cp [0,2,4,14,16] (.un (l := [ModP.av m1]) (by (repeat' (first | exact CvL.nil | exact Cvs.nil | refine CvL.cons ?_ ?_ | refine Cvs.cons ?_ ?_ | exact Cv.scal rfl | exact Cv1.scal rfl | refine Cv.agg ?_ | refine Cv1.agg ?_ | refine Cv1.one ?_ rfl rfl | (refine Un.sl (fun _ _ => ?_) ?_ ?_ _ <;> first | kernel_rfl | decide | skip) | (refine Mk.sl (fun _ _ => ?_) ?_ ?_ _ <;> first | kernel_rfl | decide | skip) | (refine PK.sl (fun _ _ => ?_) ?_ _ <;> first | kernel_rfl | decide | skip) | refine Un.ep ?_ _ _ | refine Cv.fn ?_))) (z29_calls m1)) (.sg 2 [0,2,4,18] (.cl J)))
 refine .dn (.cd ((!(tableR list)) || (!(z29 m1))) H (fun hb H => ?_) (fun hb H => ?_))
 ·
  refine .sg 2 [6,7] ?_
  obtain rfl := Option.some.inj H
  exact .ret Try.func15 hc0 [] [(31, false)]
 ·
  refine .sg 4 [0,2,4,21] (.cd (m1.Kind == 1) H (fun hb H => ?_) (fun hb H => ?_))
  ·
   refine .sg 1 [0,2,4] (.rg (.sg 3 [22,23,24] (bndO H fun x hv H => (.cp [25] (mods_addP_walk _ _ _ f_list x hv) (.sg 4 [6,7] (.dn ?_))))))
   obtain rfl := Option.some.inj H
   exact .ret Try.func15 hc0 [] [(0, false)]
  ·
   refine .sg 5 [0,4,8] (.rg (.sg 1 [4,8,28] (bndO H fun v hv H => (.ch [4,8,29] [] (rule_CopyP_walk _ f_list v hv) (.sg 2 [4,8,29,30,31] (.dn (.sg 1 [4,8,29,30,31] (.ad 8 31 true (.kp [4,8,29,30,31] ?_)))))))))
   refine bndO H fun v1 hv H => (.into (.to (mods_ApplyP_l0_walk list m1 room v f_list r c0 hc0 v1 ?_ v 0 _ rfl rfl ([] : List Rule) hv)))
   refine .sg 2 [6,7] ?_
   obtain rfl := Option.some.inj H
   exact .ret Try.func15 hc0
end Go.Proofs.Ytjicebidjfbkpaa
namespace Go.Proofs.Ytjicebidjfbkpaa
open Go.Sh
noncomputable def z16_F : Go.Sh.Fn := ⟨16, bodyOf Try.f16, 59⟩
def z16 (a : Mod) (b : Mod) : Bool :=
 ((((((((a.Kind == b.Kind) && ((a.Match.Value == b.Match.Value) && (a.Match.Care == b.Match.Care))) && (a.Prio == b.Prio)) && (a.Acts == b.Acts)) && (a.Idle == b.Idle)) && (a.Hard == b.Hard)) && (a.Owner == b.Owner)) && (a.Check == b.Check))
theorem z16_calls (a : Mod) (b : Mod) : ACalls Try.prog tab.S 16 [Mod.av a, Mod.av b] [] (.sc (.bool (z16 a b))) [] := by
 generalize H : z16 a b = r
 refine .of_AX z16_F Try.func16 fun c0 hc0 => ?_
 rw [z16] at H
 refine .sg 3 [2,3] (.rg (.sg 6 [2,3,10] (.mm 10 (a.Kind == b.Kind) 6 [.pure, .pure, .read, .pure, .read, .pure] [2, 3, 16] 16 (fun z => .sc (.bool (z && ((a.Match.Value == b.Match.Value) && (a.Match.Care == b.Match.Care))))) ?J1 (fun hb J => ?ht1) (fun hb J => ?hf1))))
 case ht1 =>
  exact .sg 4 [2,3,10,12,14] (.eq_ [2,3,10,15] 9 (.sg 1 [2,3,16] (.cl J)))
 case hf1 =>
  exact .sg 6 [2,3,16] (.cl J)
 refine .sg 1 [2,3,17] (.mx 0 [2,3,23] (.sg 1 [2,3,24] (.mm 24 (((a.Kind == b.Kind) && ((a.Match.Value == b.Match.Value) && (a.Match.Care == b.Match.Care))) && (a.Prio == b.Prio)) 6 [.pure, .pure, .read, .pure, .read, .pure] [2, 3, 30] 30 (fun z => .sc (.bool (z && (a.Acts == b.Acts)))) ?J3 (fun hb J => ?ht3) (fun hb J => ?hf3))))
 case ht3 =>
  exact .sg 4 [2,3,24,26,28] (.cp [2,3,24,29] (z35_ok a.Acts b.Acts false false) (.sg 1 [2,3,30] (.cl J)))
 case hf3 =>
  exact .sg 6 [2,3,30] (.cl J)
 refine .sg 1 [2,3,31] (.mx 0 [2,3,37] (.sg 1 [2,3,38] (.mx 0 [2,3,44] (.sg 1 [2,3,45] (.mx 0 [2,3,51] (.sg 1 [2,3,52] (.mx 0 [58] (.sg 1 [4] (.dn ?_)))))))))
 subst H
 exact .ret Try.func16 hc0
end Go.Proofs.Ytjicebidjfbkpaa
namespace Go.Proofs.Ytjicebidjfbkpaa
open Go.Sh
noncomputable def mk_F : Go.Sh.Fn := ⟨5, bodyOf Try.f5, 93⟩
theorem mk_l0 (l : List Rule) (m : Mod) (f_l : Bool) (hl : l.length ≤ 40) (hacts : ∀ x ∈ l, (([] : List Act).length + x.Acts.length) * 32 ≤ reach) (c0 : Ctx) (hc0 : c0.m.length = 0) (r : AV)
    (J : AX Try.prog tab mk_F c0 (Rp tab.S c0 r []) (some ⟨[.code [1, 1, 1, 1]], [(0, .sl 31 (List.map Rule.av l) f_l), (3, .ptr 0 0 none), (5, .own 1 1000000)], [.box 42 (Mod.ch m), .row 31 (List.map Rule.av l) 1000000 true]⟩)) :
    ∀ (rest : List Rule) (i : Nat) (z : Int) (hI : z = ((i : Nat) : Int)) (hd : l.drop i = rest), AX Try.prog tab mk_F c0 (Rp tab.S c0 r []) (some ⟨[.code [1, 1, 1, 0, 1, 0, 0], .loop [1, 1, 1, 0, 1, 0], .blk 0, .code [1, 1, 1, 1]], [(0, .sl 31 (List.map Rule.av l) f_l), (3, .ptr 0 0 none), (5, .own 1 1000000), (6, .sc (.int .i64 z))], [.box 42 (Mod.ch m), .row 31 (List.map Rule.av (l.take i)) 1000000 true]⟩) := by
  intro rest
  induction rest with
  | nil =>
    intro i z hI hd
    subst hI
    have hge : l.length ≤ i := List.drop_eq_nil_iff.1 hd
    have hc : (decide (((i : Nat) : Int) < (((List.map Rule.av l).length : Nat) : Int))) = false := by rw [List.length_map]; exact decide_eq_false (by omega)
    rw [List.take_of_length_le hge]
    exact .sg 3 [0,3,5,6,26] (.cdF hc (.sg 1 [0,3,5] (.kp [0,3,5] (.to J))))
  | cons x rest ih =>
    intro i z hI hd
    subst hI
    obtain ⟨hlt, hv, hd2⟩ := drop_cons hd
    have hc : (decide (((i : Nat) : Int) < (((List.map Rule.av l).length : Nat) : Int))) = true := by rw [List.length_map]; exact decide_eq_true (by omega)
    have hw : IntKind.i64.wrap (((i : Nat) : Int) + 1) = ((i + 1 : Nat) : Int) := wrapI_succ (by omega)
    refine .sg 3 [0,3,5,6,26] (.cdT hc (.sg 4 [0,3,5,6] (.rg (.sg 2 [0,3,5,6,29,30] (.xi [0,3,5,6,31] Rule.av hv (.sg 3 [0,3,5,6,7] (.dn ?_)))))))
    refine .sg 1 [0,3,5,6,7] (.rg (.sg 3 [0,3,5,6,7,33,35] ?_))
    refine .ab (by_ := 32) [0,3,5,6,7,36] Act.av (A := []) (B := x.Acts) (hacts x (List.mem_of_mem_drop (hd ▸ List.mem_cons_self))) rfl ?_
    refine .sg 2 [0,3,5,6,7] (.dn ?_)
    refine .tl hc0 [0, 1, 2] [0,3,5,6,7] ?_
    refine .rg (.sg 3 [0,3,5,6,38,40] ?_)
    refine .ap (by_ := 272) [0,3,6,41] Rule.av (A := l.take i) (B := [x]) (by have := List.length_take_le i l; simp only [List.length_cons, List.length_nil, reach]; omega) ?_
    refine .sg 1 [0,3,5,6] (.dn ?_)
    have ht : l.take (i + 1) = l.take i ++ [x] := by
      have e : l[i]? = some x := by rw [← List.head?_drop, hd]; rfl
      rw [List.take_add_one, e]; rfl
    have hn := ih (i + 1) _ hw hd2
    rw [ht] at hn
    exact .tl hc0 [0, 1] [0,3,5,6] (.sg 2 [0,3,5,6] (.into (.to hn)))
section
variable {A : List Rule} {c1 D : Ctx} {r : AV} {hE : List AO}
theorem mk_l3 (l : List Rule) (m : Mod) (f_l : Bool) (hDf : D.flat = D) (hXN : ∀ b, b < D.X.N → D.X b) {i : Nat} {x : Rule} (hv : ixO A ((i : Nat) : Int) = some x) (hx : x.Acts.length ≤ 1152921504606846976)
    (J : AX Try.prog tab mk_F c1 (Rp tab.S c1 r hE) (some ⟨[.blk 3, .code [1, 1, 1, 1, 1, 1, 1, 0, 1, 0, 0, 1, 1], .loop [1, 1, 1, 1, 1, 1, 1, 0, 1, 0], .blk 2, .code [1, 1, 1, 1, 1, 1, 1, 1]], [(0, .sl 1000031 (l.map RuleP.av) f_l), (3, .ptr 0 0 none), (5, .sl 1000031 (l.map RuleP.av) false), (8, .ptr 1 0 none), (9, .is (Jp tab.S D (.sl 31 (List.map Rule.av A) false))), (11, .sc (.int .i64 ((i : Nat) : Int)))], [.box 42 (ModP.ch m), .box 42 (ModP.ch m), .fam (junkF D) 0]⟩)) :
    ∀ (rest : List Act) (k : Nat) (z : Int) (hI : z = ((k : Nat) : Int)) (hd : x.Acts.drop k = rest), AX Try.prog tab mk_F c1 (Rp tab.S c1 r hE) (some ⟨[.code [1, 1, 1, 1, 1, 1, 1, 0, 1, 0, 0, 1, 0, 0, 1, 0, 0], .loop [1, 1, 1, 1, 1, 1, 1, 0, 1, 0, 0, 1, 0, 0, 1, 0], .blk 4, .blk 3, .code [1, 1, 1, 1, 1, 1, 1, 0, 1, 0, 0, 1, 1], .loop [1, 1, 1, 1, 1, 1, 1, 0, 1, 0], .blk 2, .code [1, 1, 1, 1, 1, 1, 1, 1]], [(0, .sl 1000031 (l.map RuleP.av) f_l), (3, .ptr 0 0 none), (5, .sl 1000031 (l.map RuleP.av) false), (8, .ptr 1 0 none), (9, .is (Jp tab.S D (.sl 31 (List.map Rule.av A) false))), (11, .sc (.int .i64 ((i : Nat) : Int))), (12, .sc (.int .i64 z))], [.box 42 (ModP.ch m), .box 42 (ModP.ch m), .fam (junkF D) 0]⟩) := by
  intro rest
  induction rest with
  | nil =>
    intro k z hI hd
    subst hI
    have hge : x.Acts.length ≤ k := List.drop_eq_nil_iff.1 hd
    have hc : (decide (((k : Nat) : Int) < (((List.map Act.av x.Acts).length : Nat) : Int))) = false := by rw [List.length_map]; exact decide_eq_false (by omega)
    refine .sg 2 [0,3,5,8,9,11,12] (.rg (.sg 3 [0,3,5,8,9,11,12,60,61,62] (.jidx [0,3,5,8,9,11,12,60,63] D 31 Rule.av A false hv (.jfld [0,3,5,8,9,11,12,60,64] D (chD (Rule.av x)) 0 25 (.jls [0,3,5,8,9,11,12,60,65] D hDf 2 (chD (Rule.av x)) (0 + 25) 34 (List.map Act.av x.Acts) false (chD (.agg [.sc (.int .i64 x.Idle), .sc (.int .i64 x.Hard), .sc (.int .i64 x.Owner), .sc (.int .i64 x.Hits), .sc (.int .i64 x.Quiet), .sc (.int .i64 x.Age)])) (.jlen [0,3,5,8,9,11,12,60,66] D 34 (List.map Act.av x.Acts) false (.sg 1 [0,3,5,8,9,11,12,67] (.dn ?_))))))))
    exact .cdF hc (.sg 1 [0,3,5,8,9,11] (.kp [0,3,5,8,9,11] (.to J)))
  | cons a rest ih =>
    intro k z hI hd
    subst hI
    obtain ⟨hlt, hv2, hd2⟩ := drop_cons hd
    have hc : (decide (((k : Nat) : Int) < (((List.map Act.av x.Acts).length : Nat) : Int))) = true := by rw [List.length_map]; exact decide_eq_true (by omega)
    have hw : IntKind.i64.wrap (((k : Nat) : Int) + 1) = ((k + 1 : Nat) : Int) := wrapI_succ (by omega)
    refine .sg 2 [0,3,5,8,9,11,12] (.rg (.sg 3 [0,3,5,8,9,11,12,60,61,62] (.jidx [0,3,5,8,9,11,12,60,63] D 31 Rule.av A false hv (.jfld [0,3,5,8,9,11,12,60,64] D (chD (Rule.av x)) 0 25 (.jls [0,3,5,8,9,11,12,60,65] D hDf 2 (chD (Rule.av x)) (0 + 25) 34 (List.map Act.av x.Acts) false (chD (.agg [.sc (.int .i64 x.Idle), .sc (.int .i64 x.Hard), .sc (.int .i64 x.Owner), .sc (.int .i64 x.Hits), .sc (.int .i64 x.Quiet), .sc (.int .i64 x.Age)])) (.jlen [0,3,5,8,9,11,12,60,66] D 34 (List.map Act.av x.Acts) false (.sg 1 [0,3,5,8,9,11,12,67] (.dn ?_))))))))
    refine .cdT hc (.sg 3 [0,3,5,8,9,11,12] (.rg ?_))
    refine .sg 2 [0,3,5,8,9,11,12,70,71] (.jidx [0,3,5,8,9,11,12,72] D 31 Rule.av A false hv (.jfld [0,3,5,8,9,11,12,73] D (chD (Rule.av x)) 0 25 (.jls [0,3,5,8,9,11,12,74] D hDf 2 (chD (Rule.av x)) (0 + 25) 34 (List.map Act.av x.Acts) false (chD (.agg [.sc (.int .i64 x.Idle), .sc (.int .i64 x.Hard), .sc (.int .i64 x.Owner), .sc (.int .i64 x.Hits), .sc (.int .i64 x.Quiet), .sc (.int .i64 x.Age)])) (.sg 1 [0,3,5,8,9,11,12,74,75] (.jidx [0,3,5,8,9,11,12,74,75,76] D 34 Act.av x.Acts false hv2 ?_)))))
    refine .jfld [0,3,5,8,9,11,12,74,75,77] D (chD (Act.av a)) 0 1 (.jli [0,3,5,8,9,11,12,74,75,78] D hDf 2 (chD (Act.av a)) (0 + 1) .i64 a.Port [.sc (.int .i64 a.Field), .sc (.int .u64 a.Value)] (.jad [0,3,5,8,9,11,12,74,75,79] .i64 1 ?_))
    refine .jidx [0,3,5,8,9,11,12,79,80] D 34 Act.av x.Acts false hv2 (.jfld [0,3,5,8,9,11,12,79,81] D (chD (Act.av a)) 0 1 (.jst [0,3,5,8,9,11,12] D hXN 2 (chD (Act.av a)) (0 + 1) .i64 a.Port [.sc (.int .i64 a.Field), .sc (.int .u64 a.Value)] (.dn ?_)))
    exact .sg 2 [0,3,5,8,9,11,12] (.into (.to (ih (k + 1) _ hw hd2)))
theorem mk_l2 (l : List Rule) (m : Mod) (f_l : Bool) (hDf : D.flat = D) (hXN : ∀ b, b < D.X.N → D.X b) (hA : A.length ≤ 2000) (hacts : ∀ x ∈ A, x.Acts.length ≤ 1152921504606846976)
    (J : AX Try.prog tab mk_F c1 (Rp tab.S c1 r hE) (some ⟨[.code [1, 1, 1, 1, 1, 1, 1, 1]], [(0, .sl 1000031 (l.map RuleP.av) f_l), (3, .ptr 0 0 none), (5, .sl 1000031 (l.map RuleP.av) false), (8, .ptr 1 0 none), (9, .is (Jp tab.S D (.sl 31 (List.map Rule.av A) false)))], [.box 42 (ModP.ch m), .box 42 (ModP.ch m), .fam (junkF D) 0]⟩)) :
    ∀ (rest : List Rule) (i : Nat) (z : Int) (hI : z = ((i : Nat) : Int)) (hd : A.drop i = rest), AX Try.prog tab mk_F c1 (Rp tab.S c1 r hE) (some ⟨[.code [1, 1, 1, 1, 1, 1, 1, 0, 1, 0, 0], .loop [1, 1, 1, 1, 1, 1, 1, 0, 1, 0], .blk 2, .code [1, 1, 1, 1, 1, 1, 1, 1]], [(0, .sl 1000031 (l.map RuleP.av) f_l), (3, .ptr 0 0 none), (5, .sl 1000031 (l.map RuleP.av) false), (8, .ptr 1 0 none), (9, .is (Jp tab.S D (.sl 31 (List.map Rule.av A) false))), (11, .sc (.int .i64 z))], [.box 42 (ModP.ch m), .box 42 (ModP.ch m), .fam (junkF D) 0]⟩) := by
  intro rest
  induction rest with
  | nil =>
    intro i z hI hd
    subst hI
    have hge : A.length ≤ i := List.drop_eq_nil_iff.1 hd
    have hc : (decide (((i : Nat) : Int) < (((List.map Rule.av A).length : Nat) : Int))) = false := by rw [List.length_map]; exact decide_eq_false (by omega)
    exact .sg 2 [0,3,5,8,9,11] (.rg (.sg 2 [0,3,5,8,9,11,54,55] (.jlen [0,3,5,8,9,11,54,56] D 31 (List.map Rule.av A) false (.sg 1 [0,3,5,8,9,11,57] (.dn (.cdF hc (.sg 1 [0,3,5,8,9] (.kp [0,3,5,8,9] (.to J)))))))))
  | cons x rest ih =>
    intro i z hI hd
    subst hI
    obtain ⟨hlt, hv, hd2⟩ := drop_cons hd
    have hc : (decide (((i : Nat) : Int) < (((List.map Rule.av A).length : Nat) : Int))) = true := by rw [List.length_map]; exact decide_eq_true (by omega)
    have hw : IntKind.i64.wrap (((i : Nat) : Int) + 1) = ((i + 1 : Nat) : Int) := wrapI_succ (by omega)
    refine .sg 2 [0,3,5,8,9,11] (.rg (.sg 2 [0,3,5,8,9,11,54,55] (.jlen [0,3,5,8,9,11,54,56] D 31 (List.map Rule.av A) false (.sg 1 [0,3,5,8,9,11,57] (.dn (.cdT hc ?_))))))
    refine .sg 6 [0,3,5,8,9,11,12] (.into (.to (mk_l3 l m f_l hDf hXN hv (hacts x (List.mem_of_mem_drop (hd ▸ List.mem_cons_self))) ?_ x.Acts 0 _ rfl rfl)))
    exact .sg 2 [0,3,5,8,9,11] (.into (.to (ih (i + 1) _ hw hd2)))
end
theorem mk_walk (l : List Rule) (m : Mod) (f_l : Bool) (hl : l.length ≤ 40) (hm : m.Acts.length ≤ 20) (hacts : ∀ x ∈ l, (([] : List Act).length + x.Acts.length) * 32 ≤ reach) (v : List Rule × Int) (hv : mods_ApplyP_raw l m 1000 = some v) (hA : v.1.length ≤ 2000) (hactsA : ∀ x ∈ v.1, x.Acts.length ≤ 1152921504606846976) (hS : ACalls Try.prog tab.S 13 [.sl 31 (List.map Rule.av l) false, .sl 31 (List.map Rule.av l) f_l] [] (.sc (.bool true)) []) (hM : ACalls Try.prog tab.S 16 [Mod.av m, Mod.av m] [] (.sc (.bool true)) [])
   : ACalls Try.prog tab.S 5 [.sl 31 (List.map Rule.av l) f_l, Mod.av m] [] (.sc (.bool true)) [] := by
  refine .of_AX mk_F Try.func5 fun c0 hc0 => ?_
  have hc1 : (decide ((((List.map Rule.av l).length : Nat) : Int) > 40)) = false := by rw [List.length_map]; exact decide_eq_false (by omega)
  have hc2 : (decide ((((List.map Act.av m.Acts).length : Nat) : Int) > 20)) = false := by rw [List.length_map]; exact decide_eq_false (by omega)
  have hc : (decide ((((List.map Rule.av l).length : Nat) : Int) > 40) || decide ((((List.map Act.av m.Acts).length : Nat) : Int) > 20)) = false := by rw [hc1, hc2]; rfl
  refine .sg 4 [0,3] (.rg (.sg 4 [0,3,16] (.mx 1 [0,3,21] (.dn (.cdF hc ?_)))))
  refine .sg 7 [0,3,5,6] (.ad 5 31 true (.kp [0,3,5,6] (.into (.to (mk_l0 l m f_l hl hacts c0 hc0 _ ?_ l 0 _ rfl rfl)))))
  refine .sg 2 [0,3,5,8] (.sg 1 [0,3,5,8] (.rg (.sg 3 [0,3,5,8,43,45] ?_)))
  refine .ab (by_ := 32) [0,3,5,8,46] Act.av (A := []) (B := m.Acts) (by simp only [List.length_nil, reach]; omega) rfl ?_
  refine .sg 2 [0,3,5,8] (.dn ?_)
  refine .tl hc0 [0,2] [0,3,5,8] (.to (c := ⟨[.code [1, 1, 1, 1, 1, 1]], [(0, .sl 31 (List.map Rule.av l) f_l), (3, .ptr 0 0 none), (5, .sl 31 (List.map Rule.av l) false), (8, .ptr 1 0 none)], [.box 42 (Mod.ch m), .box 42 (Mod.ch m)]⟩) ?_)
  refine .shown hc0 [(0, .sl 1000031 (l.map RuleP.av) f_l), (3, .ptr 0 0 none), (5, .sl 1000031 (l.map RuleP.av) false), (8, .ptr 1 0 none)] [.box 42 (ModP.ch m), .box 42 (ModP.ch m)] [.box 42 (ModP.ch m), .box 42 (ModP.ch m)] rfl (fun C D k hm => ⟨rfl, MkC.one k rfl rfl (Mk.sl (fun x _ => RuleP.mk x) (by kernel_rfl) (by decide) _), rfl, MkC.ptr hm, rfl, MkC.one k rfl rfl (Mk.sl (fun x _ => RuleP.mk x) (by kernel_rfl) (by decide) _), rfl, MkC.ptr hm, trivial⟩) (.cons (fun C D k cs r => ModP.mk m C D k cs r) (.cons (fun C D k cs r => ModP.mk m C D k cs r) .nil)) (fun c1 hsh => ?_)
  have hc1 : c1.m.length = 2 := hsh.m
  refine .sg 1 [0,3,5,8] (.rg ?_)
  refine .sg 2 [0,3,5,8,49,50] (.cp [0,3,5,8,51] (mods_ApplyP_walk l m 1000 false v hv) (.sg 5 [0,3,5,8,9] (.dn ?_)))
  refine .to (c := ⟨[.code [1, 1, 1, 1, 1, 1, 1]], [(0, .sl 1000031 (l.map RuleP.av) f_l), (3, .ptr 0 0 none), (5, .sl 1000031 (l.map RuleP.av) false), (8, .ptr 1 0 none), (9, .sl 31 (List.map Rule.av v.1) false)], [.box 42 (ModP.ch m), .box 42 (ModP.ch m)]⟩) ?_
  refine .junk hsh (fun D => [(0, .sl 1000031 (l.map RuleP.av) f_l), (3, .ptr 0 0 none), (5, .sl 1000031 (l.map RuleP.av) false), (8, .ptr 1 0 none), (9, .is (Jp tab.S D (.sl 31 (List.map Rule.av v.1) false)))]) (fun _ => [.box 42 (ModP.ch m), .box 42 (ModP.ch m)]) (fun C D E jk => ⟨rfl, JkV.pk jk rfl (PK.sl (fun x _ => RuleP.pk x) (by decide) _), rfl, JkV.ptr jk, rfl, JkV.pk jk rfl (PK.sl (fun x _ => RuleP.pk x) (by decide) _), rfl, JkV.ptr jk, rfl, JkV.sl jk, trivial⟩) (fun C D E jk => .cons (JkO.box jk (fun C D k cs r => ModP.pk m C D k cs r)) (.cons (JkO.box jk (fun C D k cs r => ModP.pk m C D k cs r)) .nil)) (fun D hDf hXN => ?_)
  refine .sg 4 [0,3,5,8,9,11] (.into (.to (mk_l2 l m f_l hDf hXN hA hactsA ?_ v.1 0 _ rfl rfl)))
  refine .sg 1 [0,3,5,8,9] (.rg (.cp [0,3,5,8,82] z14_ok (.sg 3 [0,3,5,8,83,84,85] ?_)))
  refine .cp [3,8,83,86] (.un (l := [.sl 1000031 (List.map RuleP.av l) false, .sl 1000031 (List.map RuleP.av l) f_l]) (by (repeat' (first | exact CvL.nil | exact Cvs.nil | refine CvL.cons ?_ ?_ | refine Cvs.cons ?_ ?_ | exact Cv.scal rfl | exact Cv1.scal rfl | refine Cv.agg ?_ | refine Cv1.agg ?_ | refine Cv1.one ?_ rfl rfl | (refine Un.sl (fun _ _ => ?_) ?_ ?_ _ <;> first | kernel_rfl | decide | skip) | (refine Mk.sl (fun _ _ => ?_) ?_ ?_ _ <;> first | kernel_rfl | decide | skip) | (refine PK.sl (fun _ _ => ?_) ?_ _ <;> first | kernel_rfl | decide | skip) | refine Un.ep ?_ _ _ | refine Cv.fn ?_))) hS) ?_
  refine .sg 4 [88,89,90] ?_
  refine .cp [88,91] (.un (l := [ModP.av m, ModP.av m]) (by (repeat' (first | exact CvL.nil | exact Cvs.nil | refine CvL.cons ?_ ?_ | refine Cvs.cons ?_ ?_ | exact Cv.scal rfl | exact Cv1.scal rfl | refine Cv.agg ?_ | refine Cv1.agg ?_ | refine Cv1.one ?_ rfl rfl | (refine Un.sl (fun _ _ => ?_) ?_ ?_ _ <;> first | kernel_rfl | decide | skip) | (refine Mk.sl (fun _ _ => ?_) ?_ ?_ _ <;> first | kernel_rfl | decide | skip) | (refine PK.sl (fun _ _ => ?_) ?_ _ <;> first | kernel_rfl | decide | skip) | refine Un.ep ?_ _ _ | refine Cv.fn ?_))) hM) ?_
  exact .sg 2 [4] (.dn (.ret Try.func5 hc1 [0,1]))
theorem mk_out (l : List Rule) (m : Mod) (f_l : Bool) (hl : ¬ (l.length ≤ 40 ∧ m.Acts.length ≤ 20)) : ACalls Try.prog tab.S 5 [.sl 31 (List.map Rule.av l) f_l, Mod.av m] [] (.sc (.bool true)) [] := by
  refine .of_AX mk_F Try.func5 fun c0 hc0 => ?_
  have hc : (decide ((((List.map Rule.av l).length : Nat) : Int) > 40) || decide ((((List.map Act.av m.Acts).length : Nat) : Int) > 20)) = true := by
    rw [List.length_map, List.length_map, Bool.or_eq_true, decide_eq_true_eq, decide_eq_true_eq]
    omega
  exact .sg 4 [0,3] (.rg (.sg 4 [0,3,16] (.mx 1 [0,3,21] (.dn (.cdT hc (.sg 1 [] (.rg (.cp [22] z14_ok (.sg 1 [4] (.dn (.ret Try.func5 hc0)))))))))))
theorem CopyP_l0' : ∀ (l out : List Rule), (out.length + l.length) * 272 ≤ 140737488355328 → rule_CopyP_l0s l out = some (out ++ l)
  | [], out, _ => by rw [rule_CopyP_l0s, List.append_nil]
  | x :: l, out, h => by
      rw [List.length_cons] at h
      have e : rule_copiedP x = x := rfl
      rw [rule_CopyP_l0s, fitO_eq (by rw [List.length_cons, List.length_nil]; omega), e, CopyP_l0' l (out ++ [x]) (by rw [List.length_append, List.length_cons, List.length_nil]; omega), List.append_assoc]
      rfl
theorem CopyP_eq' (l : List Rule) (h : l.length ≤ 1000) : rule_CopyP_raw l = some l := by
  rw [rule_CopyP_raw, CopyP_l0' l [] (by rw [List.length_nil]; omega)]
  rfl
def allA (Q : List Act → Prop) (l : List Rule) : Prop := ∀ x ∈ l, Q x.Acts
theorem allA.app {Q : List Act → Prop} {a b : List Rule} (h : allA Q a) (k : allA Q b) : allA Q (a ++ b) := fun x hx => (List.mem_append.1 hx).elim (h x) (k x)
theorem putR_all {Q : List Act → Prop} {out : List Rule} {x : Rule} (h : allA Q out) (hx : Q x.Acts) : allA Q (putR out x) := by
  unfold putR
  cases !(z18 x)
  · cases (bsR out x z22).2
    · simp only [cond_false]
      intro y hy
      rcases List.mem_append.1 hy with hy | hy
      · exact h y (List.mem_of_mem_take hy)
      · rcases List.mem_cons.1 hy with rfl | hy
        · exact hx
        · exact h y (List.mem_of_mem_drop hy)
    · simp only [cond_false, cond_true]
      intro y hy
      rcases List.mem_or_eq_of_mem_set hy with hy | rfl
      · exact h y hy
      · exact hx
  · exact h
theorem foldPut_all {Q : List Act → Prop} : ∀ (l out : List Rule), allA Q l → allA Q out → allA Q (l.foldl putR out) ∧ (l.foldl putR out).length ≤ out.length + l.length
  | [], out, _, h => ⟨h, by simp⟩
  | x :: l, out, h1, h2 => by
    obtain ⟨a, b⟩ := foldPut_all l (putR out x) (fun y hy => h1 y (by simp [hy])) (putR_all h2 (h1 x (by simp)))
    have := putR_len out x
    exact ⟨a, by rw [List.foldl_cons, List.length_cons]; omega⟩
theorem sortR_all {Q : List Act → Prop} {l : List Rule} (h : allA Q l) : allA Q (sortR l) ∧ (sortR l).length ≤ l.length := by
  have := foldPut_all l [] h (fun _ h => by simp at h)
  simpa [sortR] using this
theorem ApplyP_l0 {Q : List Act → Prop} (m : Mod) (hm : Q m.Acts) : ∀ (l out : List Rule), allA Q l → allA Q out → out.length + l.length ≤ 1000 → ∃ v, mods_ApplyP_l0s m l out = some v ∧ v.length ≤ out.length + l.length ∧ allA Q v
  | [], out, _, h, _ => ⟨out, rfl, by simp, h⟩
  | x :: l, out, h1, h2, hl => by
      rw [List.length_cons] at hl ⊢
      have hx : Q x.Acts := h1 x (by simp)
      have h1' : allA Q l := fun y hy => h1 y (by simp [hy])
      have one : ∀ y : Rule, Q y.Acts → ∃ v, mods_ApplyP_l0s m l (out ++ [y]) = some v ∧ v.length ≤ out.length + (l.length + 1) ∧ allA Q v := fun y hy => by
        obtain ⟨v, e1, e2, e3⟩ := ApplyP_l0 m hm l (out ++ [y]) h1' (h2.app (fun z hz => by rw [List.mem_singleton.1 hz]; exact hy)) (by rw [List.length_append, List.length_singleton]; omega)
        exact ⟨v, e1, by rw [List.length_append, List.length_singleton] at e2; omega, e3⟩
      rw [mods_ApplyP_l0s, fitO_eq (by rw [List.length_singleton]; omega), fitO_eq (by rw [List.length_singleton]; omega)]
      cases z32 m x
      · exact one x hx
      · cases (m.Kind == 3) || (m.Kind == 5)
        · exact one _ hm
        · obtain ⟨v, e1, e2, e3⟩ := ApplyP_l0 m hm l out h1' h2 (by omega)
          exact ⟨v, e1, by omega, e3⟩
theorem addP_some {Q : List Act → Prop} (l : List Rule) (m : Mod) (hl : allA Q l) (hm : Q m.Acts) (h : l.length ≤ 40) : ∃ v, mods_addP_raw l m 1000 = some v ∧ v.1.length ≤ 2000 ∧ allA Q v.1 := by
  have hnil : allA Q [] := fun _ h => by simp at h
  have hs : allA Q (sortR (l ++ [mods_RuleP m])) ∧ (sortR (l ++ [mods_RuleP m])).length ≤ (l ++ [mods_RuleP m]).length := sortR_all (hl.app fun z hz => by rw [List.mem_singleton.1 hz]; exact hm)
  have hs2 : (sortR (l ++ [mods_RuleP m])).length ≤ 2000 := by have := hs.2; rw [List.length_append, List.length_singleton] at this; omega
  rw [mods_addP_raw, CopyP_eq' l (by omega), Option.bind_some, fitO_eq (by rw [List.length_singleton]; omega)]
  cases hd : decide ((z36 l (fun y0 => z52 y0 (mods_RuleP m))) ≥ 0)
  · rw [cond_false]
    cases m.Check && _
    · rw [cond_false]
      cases _ && _
      · exact ⟨_, rfl, hs2, hs.1⟩
      · exact ⟨_, rfl, by simp, hnil⟩
    · exact ⟨_, rfl, by simp, hnil⟩
  · rw [cond_true]
    have hlt : ∃ i : Nat, z36 l (fun y0 => z52 y0 (mods_RuleP m)) = (i : Int) ∧ i < l.length := by
      rw [z36_idx] at hd ⊢
      unfold idxF at hd ⊢
      cases hf : l.findIdx? (fun y0 => z52 y0 (mods_RuleP m)) with
      | none => rw [hf] at hd; simp at hd
      | some i => exact ⟨i, rfl, (List.findIdx?_eq_some_iff_getElem.1 hf).1⟩
    obtain ⟨i, e, hi⟩ := hlt
    rw [e, ixO_lt hi, Option.bind_some]
    cases l[i].Owner != m.Owner
    · rw [cond_false]
      cases m.Check && _
      · rw [cond_false]
        cases _ && _
        · exact ⟨_, rfl, hs2, hs.1⟩
        · exact ⟨_, rfl, by simp, hnil⟩
      · exact ⟨_, rfl, by simp, hnil⟩
    · exact ⟨_, rfl, by simp, hnil⟩
theorem ApplyP_some {Q : List Act → Prop} (l : List Rule) (m : Mod) (hl : allA Q l) (hm : Q m.Acts) (h : l.length ≤ 40) : ∃ v, mods_ApplyP_raw l m 1000 = some v ∧ v.1.length ≤ 2000 ∧ allA Q v.1 := by
  have hnil : allA Q [] := fun _ h => by simp at h
  rw [mods_ApplyP_raw]
  cases (!(tableR l)) || (!(z29 m))
  · rw [cond_false]
    cases m.Kind == 1
    · rw [cond_false, CopyP_eq' l (by omega), Option.bind_some]
      obtain ⟨v, e1, e2, e3⟩ := ApplyP_l0 m hm l [] hl hnil (by simp; omega)
      rw [e1]
      exact ⟨_, rfl, by simp at e2; simp; omega, e3⟩
    · obtain ⟨v, e1, e2, e3⟩ := addP_some l m hl hm h
      rw [cond_true, e1]
      exact ⟨_, rfl, e2, e3⟩
  · exact ⟨_, rfl, by simp, hnil⟩
theorem mk_hand (l : List Rule) (m : Mod) (f_l : Bool) : ACalls Try.prog tab.S 5 [.sl 31 (List.map Rule.av l) f_l, Mod.av m] [] (.sc (.bool true)) [] := by
  by_cases hl : l.length ≤ 40 ∧ m.Acts.length ≤ 20
  · refine ACalls.facts (ent_of Try.func5 (by kernel_rfl) (by kernel_rfl)) fun hf => ?_
    have hact : ∀ x ∈ l, x.Acts.length * 32 ≤ reach := by
      intro x hx
      have h1 := factsL_mem hf.1.2.2 (List.mem_map_of_mem (f := Rule.av) hx)
      have h2 : (List.map Act.av x.Acts).length * 32 ≤ reach := h1.2.2.2.1.1
      rwa [List.length_map] at h2
    obtain ⟨v, hv, hvl, hva⟩ := ApplyP_some (Q := fun a => a.length ≤ 1152921504606846976) l m (fun x hx => by have := hact x hx; simp only [reach] at this; omega) (by omega) hl.1
    have hS : ACalls Try.prog tab.S 13 [.sl 31 (List.map Rule.av l) false, .sl 31 (List.map Rule.av l) f_l] [] (.sc (.bool true)) [] := by
      have h := z13_ok l l false f_l
      rw [ref_Same_eq, beq_self_eq_true] at h
      exact h
    have hM : ACalls Try.prog tab.S 16 [Mod.av m, Mod.av m] [] (.sc (.bool true)) [] := by
      have h := z16_calls m m
      have e : z16 m m = true := by simp [z16]
      rw [e] at h
      exact h
    exact mk_walk l m f_l hl.1 hl.2 (fun x hx => by rw [List.length_nil, Nat.zero_add]; exact hact x hx) v hv hvl hva hS hM
  · exact mk_out l m f_l hl
end Go.Proofs.Ytjicebidjfbkpaa