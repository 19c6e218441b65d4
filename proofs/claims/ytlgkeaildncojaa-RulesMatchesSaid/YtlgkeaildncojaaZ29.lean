/- Texts of this claim, merged by wip/tools/pack.py: Qx20, Mr, Ma, Maw, Ode. -/
import Derived.Test.YtlgkeaildncojaaZ28
section
namespace Go.Proofs.Ytlgkeaildncojaa.Q
open Go.RowKit Go.Proofs.YtlgkeaildncojaaW.PrintWords Go.Proofs.YtlgkeaildncojaaW.PrintLast Go.Proofs.YtlgkeaildncojaaW.PrintMore
attribute [local go_sem] max2_int min2_int max_two min_two max_three min_three max_four min_four   -- for this text's walks alone
set_option linter.unusedVariables false
set_option linter.unusedSimpArgs false
mutual
def abugidaref16_Match.j0:Nat→List (S55)→Int→Bool→List (List Int)→List (List Int)→List (List Int)→List Int→List (S60)→Option (Bool)
 | 0,_,_,_,_,_,_,_,_=>none
 | k + 1,x1,x2,x45,x545000,x545001,x545002,x545003,x545004=>if x45=true then (some false) else (abugidaref16_Match.l0 k x1 x2 0 x545000 x545001 x545002 x545003 x545004)
def abugidaref16_Match.l0:Nat→List (S55)→Int→Int→List (List Int)→List (List Int)→List (List Int)→List Int→List (S60)→Option (Bool)
 | 0,_,_,_,_,_,_,_,_=>none
 | k + 1,x1,x2,x7,x545000,x545001,x545002,x545003,x545004=>if x7<(x545001.length:Int) then (if 0≤(wrap64 (x2 + x7)) then (if (wrap64 (x2 + x7))<(x1.length:Int) then (if 0≤x2 then (if x2<(x1.length:Int) then (if ((rd_T55 x1 (wrap64 (x2 + x7))).f1)=((rd_T55 x1 x2).f1) then (if 0≤x7 then ((abugidaref16_has.f k (rd_L1 x545001 x7) ((rd_T55 x1 (wrap64 (x2 + x7))).f0)).bind fun t549=>(if t549=true then (abugidaref16_Match.l0 k x1 x2 (wrap64 (x7 + 1)) x545000 x545001 x545002 x545003 x545004) else (some false))) else (none)) else (some false)) else (none)) else (none)) else (none)) else (none)) else (abugidaref16_Match.l1 k x1 x2 0 x545000 x545001 x545002 x545003 x545004)
def abugidaref16_Match.l1:Nat→List (S55)→Int→Int→List (List Int)→List (List Int)→List (List Int)→List Int→List (S60)→Option (Bool)
 | 0,_,_,_,_,_,_,_,_=>none
 | k + 1,x1,x2,x9,x545000,x545001,x545002,x545003,x545004=>if x9<(x545000.length:Int) then (if 0≤x9 then (if 0≤(wrap64 ((wrap64 (x2 - 1)) - x9)) then (if (wrap64 ((wrap64 (x2 - 1)) - x9))<(x1.length:Int) then ((abugidaref16_has.f k (rd_L1 x545000 x9) ((rd_T55 x1 (wrap64 ((wrap64 (x2 - 1)) - x9))).f0)).bind fun t552=>(if t552=true then (abugidaref16_Match.l1 k x1 x2 (wrap64 (x9 + 1)) x545000 x545001 x545002 x545003 x545004) else (some false))) else (none)) else (none)) else (none)) else (abugidaref16_Match.l2 k x1 x2 0 x545000 x545001 x545002 x545003 x545004)
def abugidaref16_Match.l2:Nat→List (S55)→Int→Int→List (List Int)→List (List Int)→List (List Int)→List Int→List (S60)→Option (Bool)
 | 0,_,_,_,_,_,_,_,_=>none
 | k + 1,x1,x2,x10,x545000,x545001,x545002,x545003,x545004=>if x10<(x545002.length:Int) then (if 0≤x10 then (if 0≤(wrap64 ((wrap64 (x2 + (x545001.length:Int))) + x10)) then (if (wrap64 ((wrap64 (x2 + (x545001.length:Int))) + x10))<(x1.length:Int) then ((abugidaref16_has.f k (rd_L1 x545002 x10) ((rd_T55 x1 (wrap64 ((wrap64 (x2 + (x545001.length:Int))) + x10))).f0)).bind fun t555=>(if t555=true then (abugidaref16_Match.l2 k x1 x2 (wrap64 (x10 + 1)) x545000 x545001 x545002 x545003 x545004) else (some false))) else (none)) else (none)) else (none)) else (some true)
end
def abugidaref16_Match.f (k:Nat) (l0_0:List (List Int)) (l0_1:List (List Int)) (l0_2:List (List Int)) (l0_3:List Int) (l0_4:List (S60)) (l1:List (S55)) (a2:Int):Option (Bool):=if a2<0 then (abugidaref16_Match.j0 k l1 a2 true l0_0 l0_1 l0_2 l0_3 l0_4) else (if a2 ≥ (l1.length:Int) then (abugidaref16_Match.j0 k l1 a2 true l0_0 l0_1 l0_2 l0_3 l0_4) else (if (l0_1.length:Int)=0 then (abugidaref16_Match.j0 k l1 a2 true l0_0 l0_1 l0_2 l0_3 l0_4) else (if (wrap64 ((wrap64 (a2 + (l0_1.length:Int))) + (l0_2.length:Int))) > (l1.length:Int) then (abugidaref16_Match.j0 k l1 a2 true l0_0 l0_1 l0_2 l0_3 l0_4) else (abugidaref16_Match.j0 k l1 a2 (decide (a2<(l0_0.length:Int))) l0_0 l0_1 l0_2 l0_3 l0_4))))
theorem abugidaref16_Match.mono_l:∀ k,(∀ y0 y1 y2 y3 y4 y5 y6 y7,LeO (abugidaref16_Match.j0 k y0 y1 y2 y3 y4 y5 y6 y7) (abugidaref16_Match.j0 (k + 1) y0 y1 y2 y3 y4 y5 y6 y7))∧(∀ y0 y1 y2 y3 y4 y5 y6 y7,LeO (abugidaref16_Match.l0 k y0 y1 y2 y3 y4 y5 y6 y7) (abugidaref16_Match.l0 (k + 1) y0 y1 y2 y3 y4 y5 y6 y7))∧(∀ y0 y1 y2 y3 y4 y5 y6 y7,LeO (abugidaref16_Match.l1 k y0 y1 y2 y3 y4 y5 y6 y7) (abugidaref16_Match.l1 (k + 1) y0 y1 y2 y3 y4 y5 y6 y7))∧(∀ y0 y1 y2 y3 y4 y5 y6 y7,LeO (abugidaref16_Match.l2 k y0 y1 y2 y3 y4 y5 y6 y7) (abugidaref16_Match.l2 (k + 1) y0 y1 y2 y3 y4 y5 y6 y7))
 | 0=>⟨fun _ _ _ _ _ _ _ _ r h=>by simp [abugidaref16_Match.j0] at h,fun _ _ _ _ _ _ _ _ r h=>by simp [abugidaref16_Match.l0] at h,fun _ _ _ _ _ _ _ _ r h=>by simp [abugidaref16_Match.l1] at h,fun _ _ _ _ _ _ _ _ r h=>by simp [abugidaref16_Match.l2] at h⟩
 | k + 1=>by
  obtain ⟨ih0,ih1,ih2,ih3⟩:=abugidaref16_Match.mono_l k
  refine ⟨?_,?_,?_,?_⟩
  ·
   intro y0 y1 y2 y3 y4 y5 y6 y7
   unfold abugidaref16_Match.j0
   repeat' first
   | (with_reducible exact ih0 _ _ _ _ _ _ _ _)
   | (with_reducible exact ih1 _ _ _ _ _ _ _ _)
   | (with_reducible exact ih2 _ _ _ _ _ _ _ _)
   | (with_reducible exact ih3 _ _ _ _ _ _ _ _)
   | (with_reducible exact abugidaref16_has.mono _ _ _)
   | (with_reducible exact LeO.refl _)
   | (with_reducible exact LeO.none _)
   | (with_reducible refine LeO.ite ?_ ?_)
   | (with_reducible refine LeO.bind ?_ (fun _=>?_))
   | exact ih0 _ _ _ _ _ _ _ _
   | exact ih1 _ _ _ _ _ _ _ _
   | exact ih2 _ _ _ _ _ _ _ _
   | exact ih3 _ _ _ _ _ _ _ _
   | exact abugidaref16_has.mono _ _ _
   | exact LeO.none _
   | refine LeO.ite ?_ ?_
   | refine LeO.bind ?_ (fun _=>?_)
  ·
   intro y0 y1 y2 y3 y4 y5 y6 y7
   unfold abugidaref16_Match.l0
   repeat' first
   | (with_reducible exact ih0 _ _ _ _ _ _ _ _)
   | (with_reducible exact ih1 _ _ _ _ _ _ _ _)
   | (with_reducible exact ih2 _ _ _ _ _ _ _ _)
   | (with_reducible exact ih3 _ _ _ _ _ _ _ _)
   | (with_reducible exact abugidaref16_has.mono _ _ _)
   | (with_reducible exact LeO.refl _)
   | (with_reducible exact LeO.none _)
   | (with_reducible refine LeO.ite ?_ ?_)
   | (with_reducible refine LeO.bind ?_ (fun _=>?_))
   | exact ih0 _ _ _ _ _ _ _ _
   | exact ih1 _ _ _ _ _ _ _ _
   | exact ih2 _ _ _ _ _ _ _ _
   | exact ih3 _ _ _ _ _ _ _ _
   | exact abugidaref16_has.mono _ _ _
   | exact LeO.none _
   | refine LeO.ite ?_ ?_
   | refine LeO.bind ?_ (fun _=>?_)
  ·
   intro y0 y1 y2 y3 y4 y5 y6 y7
   unfold abugidaref16_Match.l1
   repeat' first
   | (with_reducible exact ih0 _ _ _ _ _ _ _ _)
   | (with_reducible exact ih1 _ _ _ _ _ _ _ _)
   | (with_reducible exact ih2 _ _ _ _ _ _ _ _)
   | (with_reducible exact ih3 _ _ _ _ _ _ _ _)
   | (with_reducible exact abugidaref16_has.mono _ _ _)
   | (with_reducible exact LeO.refl _)
   | (with_reducible exact LeO.none _)
   | (with_reducible refine LeO.ite ?_ ?_)
   | (with_reducible refine LeO.bind ?_ (fun _=>?_))
   | exact ih0 _ _ _ _ _ _ _ _
   | exact ih1 _ _ _ _ _ _ _ _
   | exact ih2 _ _ _ _ _ _ _ _
   | exact ih3 _ _ _ _ _ _ _ _
   | exact abugidaref16_has.mono _ _ _
   | exact LeO.none _
   | refine LeO.ite ?_ ?_
   | refine LeO.bind ?_ (fun _=>?_)
  ·
   intro y0 y1 y2 y3 y4 y5 y6 y7
   unfold abugidaref16_Match.l2
   repeat' first
   | (with_reducible exact ih0 _ _ _ _ _ _ _ _)
   | (with_reducible exact ih1 _ _ _ _ _ _ _ _)
   | (with_reducible exact ih2 _ _ _ _ _ _ _ _)
   | (with_reducible exact ih3 _ _ _ _ _ _ _ _)
   | (with_reducible exact abugidaref16_has.mono _ _ _)
   | (with_reducible exact LeO.refl _)
   | (with_reducible exact LeO.none _)
   | (with_reducible refine LeO.ite ?_ ?_)
   | (with_reducible refine LeO.bind ?_ (fun _=>?_))
   | exact ih0 _ _ _ _ _ _ _ _
   | exact ih1 _ _ _ _ _ _ _ _
   | exact ih2 _ _ _ _ _ _ _ _
   | exact ih3 _ _ _ _ _ _ _ _
   | exact abugidaref16_has.mono _ _ _
   | exact LeO.none _
   | refine LeO.ite ?_ ?_
   | refine LeO.bind ?_ (fun _=>?_)
theorem abugidaref16_Match.mono:∀ a0 a1 a2 a3 a4 a5 a6 k,LeO (abugidaref16_Match.f k a0 a1 a2 a3 a4 a5 a6) (abugidaref16_Match.f (k + 1) a0 a1 a2 a3 a4 a5 a6):=by
 intro a0 a1 a2 a3 a4 a5 a6 k
 obtain ⟨ih0,ih1,ih2,ih3⟩:=abugidaref16_Match.mono_l k
 unfold abugidaref16_Match.f
 repeat' first
   | (with_reducible exact ih0 _ _ _ _ _ _ _ _)
   | (with_reducible exact ih1 _ _ _ _ _ _ _ _)
   | (with_reducible exact ih2 _ _ _ _ _ _ _ _)
   | (with_reducible exact ih3 _ _ _ _ _ _ _ _)
   | (with_reducible exact abugidaref16_has.mono _ _ _)
   | (with_reducible exact LeO.refl _)
   | (with_reducible exact LeO.none _)
   | (with_reducible refine LeO.ite ?_ ?_)
   | (with_reducible refine LeO.bind ?_ (fun _=>?_))
   | exact ih0 _ _ _ _ _ _ _ _
   | exact ih1 _ _ _ _ _ _ _ _
   | exact ih2 _ _ _ _ _ _ _ _
   | exact ih3 _ _ _ _ _ _ _ _
   | exact abugidaref16_has.mono _ _ _
   | exact LeO.none _
   | refine LeO.ite ?_ ?_
   | refine LeO.bind ?_ (fun _=>?_)
set_option maxHeartbeats 8000000 in
set_option maxRecDepth 100000 in
theorem abugidaref16_Match.calls (k:Nat) (A0_0:Option Addr) (c0_0:Nat) (l0_0:List (List Int)) (A0_1:Option Addr) (c0_1:Nat) (l0_1:List (List Int)) (A0_2:Option Addr) (c0_2:Nat) (l0_2:List (List Int)) (A0_3:Option Addr) (c0_3:Nat) (l0_3:List Int) (A0_4:Option Addr) (c0_4:Nat) (l0_4:List (S60)) (A1:Option Addr) (c1:Nat) (l1:List (S55)) (a2:Int) (r:Bool) (w:World) (hr0_0:Kd.C (Kd.slice 3 (Kd.int .i64)) w A0_0 l0_0.length l0_0) (hc0_0:l0_0.length≤c0_0) (hr0_1:Kd.C (Kd.slice 3 (Kd.int .i64)) w A0_1 l0_1.length l0_1) (hc0_1:l0_1.length≤c0_1) (hr0_2:Kd.C (Kd.slice 3 (Kd.int .i64)) w A0_2 l0_2.length l0_2) (hc0_2:l0_2.length≤c0_2) (hr0_3:Kd.C (Kd.int .i64) w A0_3 l0_3.length l0_3) (hc0_3:l0_3.length≤c0_3) (hr0_4:Kd.C k60 w A0_4 l0_4.length l0_4) (hc0_4:l0_4.length≤c0_4) (hr1:Kd.C k55 w A1 l1.length l1) (hc1:l1.length≤c1) (h:abugidaref16_Match.f k l0_0 l0_1 l0_2 l0_3 l0_4 l1 a2=some r) :
  Calls Try.prog 22 #[.agg #[.slice A0_0 l0_0.length c0_0,.slice A0_1 l0_1.length c0_1,.slice A0_2 l0_2.length c0_2,.slice A0_3 l0_3.length c0_3,.slice A0_4 l0_4.length c0_4],.slice A1 l1.length c1,.int .i64 a2] w fun e w'=>e=.returned (.bool r)∧Below w.heap.size w w':=by
 have hu49:=Try.underlying49
 have hu55:=Try.underlying55
 have HR0_0:=Aside0.mk hr0_0
 have HC0_0:=Aside0.mk hc0_0
 clear hr0_0 hc0_0
 have HR0_1:=Aside0.mk hr0_1
 have HC0_1:=Aside0.mk hc0_1
 clear hr0_1 hc0_1
 have HR0_2:=Aside0.mk hr0_2
 have HC0_2:=Aside0.mk hc0_2
 clear hr0_2 hc0_2
 have HR0_3:=Aside0.mk hr0_3
 have HC0_3:=Aside0.mk hc0_3
 clear hr0_3 hc0_3
 have HR0_4:=Aside0.mk hr0_4
 have HC0_4:=Aside0.mk hc0_4
 clear hr0_4 hc0_4
 have HR1:=Aside0.mk hr1
 have HC1:=Aside0.mk hc1
 clear hr1 hc1
 have HB:=Aside0.mk (Below.refl w.heap.size w)
 have H:(if a2<0 then (abugidaref16_Match.j0 k l1 a2 true l0_0 l0_1 l0_2 l0_3 l0_4) else (if a2 ≥ (l1.length:Int) then (abugidaref16_Match.j0 k l1 a2 true l0_0 l0_1 l0_2 l0_3 l0_4) else (if (l0_1.length:Int)=0 then (abugidaref16_Match.j0 k l1 a2 true l0_0 l0_1 l0_2 l0_3 l0_4) else (if (wrap64 ((wrap64 (a2 + (l0_1.length:Int))) + (l0_2.length:Int))) > (l1.length:Int) then (abugidaref16_Match.j0 k l1 a2 true l0_0 l0_1 l0_2 l0_3 l0_4) else (abugidaref16_Match.j0 k l1 a2 (decide (a2<(l0_0.length:Int))) l0_0 l0_1 l0_2 l0_3 l0_4)))))=some r:=h
 clear h
 have HC4:=Aside0.mk H
 clear H
 go_enter Try.func22,Try.ntmps22
 go_upto_region 1 with (first|((with_reducible refine gate_dst (N:=3) rfl ?_);(try (refine gate_guard (by rfl) ?_;dsimp only));refine box_event ?hg (N:=3) ?hd (cs:=#[.slice A0_0 l0_0.length c0_0,.slice A0_1 l0_1.length c0_1,.slice A0_2 l0_2.length c0_2,.slice A0_3 l0_3.length c0_3,.slice A0_4 l0_4.length c0_4]) (t:=49) ?hr ?_;(case hd=>rfl);(case hg=>rfl);(case hr=>first|(go_simp;done)|(go_simp;rfl));intro gb544 hg w5 hbox hb;have n0_:=Aside0.mk (below_step za39 hb);have n1_:=Aside0.mk (hbox);have n2_:=Aside0.mk ((za32:w.heap.size≤gb544));have n3_:=Aside0.mk ((za32:w.heap.size≤gb544));clear HB;have HB:=n0_;have BK544:=n1_;have GW544:=n2_;have GE544:=n3_;clear n0_ n1_ n2_ n3_;clear hb hbox hg))
 repeat (go_quiet (first|((with_reducible refine gate_dst (N:=3) rfl ?_);(try (refine gate_guard (by rfl) ?_;dsimp only));refine box_event ?hg (N:=3) ?hd (cs:=#[.slice A0_0 l0_0.length c0_0,.slice A0_1 l0_1.length c0_1,.slice A0_2 l0_2.length c0_2,.slice A0_3 l0_3.length c0_3,.slice A0_4 l0_4.length c0_4]) (t:=49) ?hr ?_;(case hd=>rfl);(case hg=>rfl);(case hr=>first|(go_simp;done)|(go_simp;rfl));intro gb544 hg w5 hbox hb;have n0_:=Aside0.mk (below_step za39 hb);have n1_:=Aside0.mk (hbox);have n2_:=Aside0.mk ((za32:w.heap.size≤gb544));have n3_:=Aside0.mk ((za32:w.heap.size≤gb544));clear HB;have HB:=n0_;have BK544:=n1_;have GW544:=n2_;have GE544:=n3_;clear n0_ n1_ n2_ n3_;clear hb hbox hg));go_upto_region 1 with (first|((with_reducible refine gate_dst (N:=3) rfl ?_);(try (refine gate_guard (by rfl) ?_;dsimp only));refine box_event ?hg (N:=3) ?hd (cs:=#[.slice A0_0 l0_0.length c0_0,.slice A0_1 l0_1.length c0_1,.slice A0_2 l0_2.length c0_2,.slice A0_3 l0_3.length c0_3,.slice A0_4 l0_4.length c0_4]) (t:=49) ?hr ?_;(case hd=>rfl);(case hg=>rfl);(case hr=>first|(go_simp;done)|(go_simp;rfl));intro gb544 hg w5 hbox hb;have n0_:=Aside0.mk (below_step za39 hb);have n1_:=Aside0.mk (hbox);have n2_:=Aside0.mk ((za32:w.heap.size≤gb544));have n3_:=Aside0.mk ((za32:w.heap.size≤gb544));clear HB;have HB:=n0_;have BK544:=n1_;have GW544:=n2_;have GE544:=n3_;clear n0_ n1_ n2_ n3_;clear hb hbox hg)))
 (try simp only [Act.put,List.setIfInBounds_toArray,List.set_cons_zero,List.set_cons_succ])
 go_cut [45] (fun v45 wc=>∃ (kq:Nat) (x45_3:Bool),v45=.bool x45_3∧Aside0 (abugidaref16_Match.j0 kq l1 a2 x45_3 l0_0 l0_1 l0_2 l0_3 l0_4=some r)∧Aside0 (kq≤k)∧Aside0 (wc.heap[gb544]?=some (.cells #[(.slice A0_0 l0_0.length c0_0),(.slice A0_1 l0_1.length c0_1),(.slice A0_2 l0_2.length c0_2),(.slice A0_3 l0_3.length c0_3),(.slice A0_4 l0_4.length c0_4)] 49 (0,0)))∧Aside0 (Below w.heap.size w wc))
 case first =>
  have H:=HC4.out
  clear HC4
  by_cases c6:a2<0
  ·
   rw [if_pos c6] at H
   have c6b0:decide (a2<0)=true:=decide_eq_true c6
   clear c6
   (first|rw [c6b0]|(simp only [i64_w,i32_w];rw [c6b0])|skip)
   have H':=Aside0.mk H
   clear H
   go_wp2
   repeat (go_quiet (fail);try go_wp2)
   go_meet
   case rel=>exact ⟨_,(true),za82,H',⟨by first|omega|exact Nat.le_refl _⟩,⟨by (with_reducible repeat (first|refine blk_drewN ?_ _|refine blk_drew ?_|refine blk_alloc ?_ _));exact BK544.out⟩,⟨by repeat (first|(with_reducible first|exact HB.out|apply below_alloc|apply pw_below_drewN|apply below_drew1|refine below_set ?_ GE544.out)|exact HB.out)⟩⟩
  ·
   rw [if_neg c6] at H
   have c6b0:decide (a2<0)=false:=decide_eq_false c6
   clear c6
   (first|rw [c6b0]|(simp only [i64_w,i32_w];rw [c6b0])|skip)
   by_cases c7:a2 ≥ (l1.length:Int)
   ·
    rw [if_pos c7] at H
    have c7b0:decide ((l1.length:Int)≤a2)=true:=decide_eq_true c7
    clear c7
    have H':=Aside0.mk H
    clear H
    go_wp2
    repeat (go_quiet (fail);try go_wp2)
    go_meet
    case rel=>exact ⟨_,(true),za82,H',⟨by first|omega|exact Nat.le_refl _⟩,⟨by (with_reducible repeat (first|refine blk_drewN ?_ _|refine blk_drew ?_|refine blk_alloc ?_ _));exact BK544.out⟩,⟨by repeat (first|(with_reducible first|exact HB.out|apply below_alloc|apply pw_below_drewN|apply below_drew1|refine below_set ?_ GE544.out)|exact HB.out)⟩⟩
   ·
    rw [if_neg c7] at H
    have c7b0:decide ((l1.length:Int)≤a2)=false:=decide_eq_false c7
    clear c7
    by_cases c8:(l0_1.length:Int)=0
    ·
     rw [if_pos c8] at H
     have c8b0:((l0_1.length:Int) == 0)=true:=beq_iff_eq.mpr c8
     have c8b1:((l0_1.length:Int) != 0)=false:=bne_eq_false_iff_eq.mpr c8
     clear c8
     have H':=Aside0.mk H
     clear H
     have hcz9_0:w5.cell? ⟨gb544,0,none⟩=some (.slice A0_0 l0_0.length c0_0):=(blk_cell BK544.out 0).trans rfl
     have hcz9_1:w5.cell? ⟨gb544,1,none⟩=some (.slice A0_1 l0_1.length c0_1):=(blk_cell BK544.out 1).trans rfl
     have hcz9_2:w5.cell? ⟨gb544,2,none⟩=some (.slice A0_2 l0_2.length c0_2):=(blk_cell BK544.out 2).trans rfl
     have hcz9_3:w5.cell? ⟨gb544,3,none⟩=some (.slice A0_3 l0_3.length c0_3):=(blk_cell BK544.out 3).trans rfl
     have hcz9_4:w5.cell? ⟨gb544,4,none⟩=some (.slice A0_4 l0_4.length c0_4):=(blk_cell BK544.out 4).trans rfl
     have hfz9_0:=blk_frozen BK544.out 0
     have hfz9_1:=blk_frozen BK544.out 1
     have hfz9_2:=blk_frozen BK544.out 2
     have hfz9_3:=blk_frozen BK544.out 3
     have hfz9_4:=blk_frozen BK544.out 4
     go_wp2
     repeat (go_quiet (fail);try go_wp2)
     go_meet
     case rel=>exact ⟨_,(true),za82,H',⟨by first|omega|exact Nat.le_refl _⟩,⟨by (with_reducible repeat (first|refine blk_drewN ?_ _|refine blk_drew ?_|refine blk_alloc ?_ _));exact BK544.out⟩,⟨by repeat (first|(with_reducible first|exact HB.out|apply below_alloc|apply pw_below_drewN|apply below_drew1|refine below_set ?_ GE544.out)|exact HB.out)⟩⟩
    ·
     rw [if_neg c8] at H
     have c8b0:((l0_1.length:Int) == 0)=false:=beq_eq_false_iff_ne.mpr c8
     have c8b1:((l0_1.length:Int) != 0)=true:=bne_iff_ne.mpr c8
     have c8b2:¬ (l0_1=[]):=fun h_=>c8 (by rw [h_];rfl)
     by_cases c10:(wrap64 ((wrap64 (a2 + (l0_1.length:Int))) + (l0_2.length:Int))) > (l1.length:Int)
     ·
      rw [if_pos c10] at H
      have c10b0:decide ((l1.length:Int)<(wrap64 ((wrap64 (a2 + (l0_1.length:Int))) + (l0_2.length:Int))))=true:=decide_eq_true c10
      clear c10
      have H':=Aside0.mk H
      clear H
      have hcz11_0:w5.cell? ⟨gb544,0,none⟩=some (.slice A0_0 l0_0.length c0_0):=(blk_cell BK544.out 0).trans rfl
      have hcz11_1:w5.cell? ⟨gb544,1,none⟩=some (.slice A0_1 l0_1.length c0_1):=(blk_cell BK544.out 1).trans rfl
      have hcz11_2:w5.cell? ⟨gb544,2,none⟩=some (.slice A0_2 l0_2.length c0_2):=(blk_cell BK544.out 2).trans rfl
      have hcz11_3:w5.cell? ⟨gb544,3,none⟩=some (.slice A0_3 l0_3.length c0_3):=(blk_cell BK544.out 3).trans rfl
      have hcz11_4:w5.cell? ⟨gb544,4,none⟩=some (.slice A0_4 l0_4.length c0_4):=(blk_cell BK544.out 4).trans rfl
      have hfz11_0:=blk_frozen BK544.out 0
      have hfz11_1:=blk_frozen BK544.out 1
      have hfz11_2:=blk_frozen BK544.out 2
      have hfz11_3:=blk_frozen BK544.out 3
      have hfz11_4:=blk_frozen BK544.out 4
      go_wp2
      repeat (go_quiet (fail);try go_wp2)
      go_meet
      case rel=>exact ⟨_,(true),za82,H',⟨by first|omega|exact Nat.le_refl _⟩,⟨by (with_reducible repeat (first|refine blk_drewN ?_ _|refine blk_drew ?_|refine blk_alloc ?_ _));exact BK544.out⟩,⟨by repeat (first|(with_reducible first|exact HB.out|apply below_alloc|apply pw_below_drewN|apply below_drew1|refine below_set ?_ GE544.out)|exact HB.out)⟩⟩
     ·
      rw [if_neg c10] at H
      have c10b0:decide ((l1.length:Int)<(wrap64 ((wrap64 (a2 + (l0_1.length:Int))) + (l0_2.length:Int))))=false:=decide_eq_false c10
      clear c10
      have H':=Aside0.mk H
      clear H
      have hcz12_0:w5.cell? ⟨gb544,0,none⟩=some (.slice A0_0 l0_0.length c0_0):=(blk_cell BK544.out 0).trans rfl
      have hcz12_1:w5.cell? ⟨gb544,1,none⟩=some (.slice A0_1 l0_1.length c0_1):=(blk_cell BK544.out 1).trans rfl
      have hcz12_2:w5.cell? ⟨gb544,2,none⟩=some (.slice A0_2 l0_2.length c0_2):=(blk_cell BK544.out 2).trans rfl
      have hcz12_3:w5.cell? ⟨gb544,3,none⟩=some (.slice A0_3 l0_3.length c0_3):=(blk_cell BK544.out 3).trans rfl
      have hcz12_4:w5.cell? ⟨gb544,4,none⟩=some (.slice A0_4 l0_4.length c0_4):=(blk_cell BK544.out 4).trans rfl
      have hfz12_0:=blk_frozen BK544.out 0
      have hfz12_1:=blk_frozen BK544.out 1
      have hfz12_2:=blk_frozen BK544.out 2
      have hfz12_3:=blk_frozen BK544.out 3
      have hfz12_4:=blk_frozen BK544.out 4
      go_wp2
      repeat (go_quiet (fail);try go_wp2)
      go_meet
      case rel=>exact ⟨_,(decide (a2<(l0_0.length:Int))),za82,H',⟨by first|omega|exact Nat.le_refl _⟩,⟨by (with_reducible repeat (first|refine blk_drewN ?_ _|refine blk_drew ?_|refine blk_alloc ?_ _));exact BK544.out⟩,⟨by repeat (first|(with_reducible first|exact HB.out|apply below_alloc|apply pw_below_drewN|apply below_drew1|refine below_set ?_ GE544.out)|exact HB.out)⟩⟩
 case rest =>
  clear HC4
  try clear c1
  try clear c2
  try clear p2
  try clear c6
  try clear c6b0
  try clear p6
  try clear c7
  try clear c7b0
  try clear c8
  try clear c8b0
  try clear c8b1
  try clear c8b2
  try clear c10
  try clear c10b0
  try clear hcz11_0
  try clear hcz11_1
  try clear hcz11_2
  try clear hcz11_3
  try clear hcz11_4
  try clear hcz12_0
  try clear hcz12_1
  try clear hcz12_2
  try clear hcz12_3
  try clear hcz12_4
  try clear hcz9_0
  try clear hcz9_1
  try clear hcz9_2
  try clear hcz9_3
  try clear hcz9_4
  try clear hfz11_0
  try clear hfz11_1
  try clear hfz11_2
  try clear hfz11_3
  try clear hfz11_4
  try clear hfz12_0
  try clear hfz12_1
  try clear hfz12_2
  try clear hfz12_3
  try clear hfz12_4
  try clear hfz9_0
  try clear hfz9_1
  try clear hfz9_2
  try clear hfz9_3
  try clear hfz9_4
  obtain ⟨kq,x45_3,rfl,HA,HJ3,BK544,HB⟩:=hcut
  cases kq with
  | zero=>exact absurd HA.out (by simp [abugidaref16_Match.j0])
  | succ kj3 =>
   have H:=HA.out
   clear HA
   simp only [abugidaref16_Match.j0] at H
   by_cases c13:x45_3=true
   ·
    subst c13
    have H1:(some false)=some r:=by rw [if_pos rfl] at H;exact H
    clear H
    have H:=H1
    clear H1
    obtain rfl:=Option.some.inj H
    go_wp2
    repeat (go_quiet (fail);try go_wp2)
    go_ret
    exact ⟨by first|rfl|(simp [errW_none,errW_some] <;> rfl)|(simp [*,errW_none,errW_some] <;> rfl),by repeat (first|(with_reducible first|exact HB.out|apply below_alloc|apply pw_below_drewN|apply below_drew1|refine below_set ?_ GE544.out)|exact HB.out)⟩
   ·
    replace c13:=Bool.eq_false_iff.mpr c13
    subst c13
    have H1:(abugidaref16_Match.l0 kj3 l1 a2 0 l0_0 l0_1 l0_2 l0_3 l0_4)=some r:=by rw [if_neg (show ¬ (false=true) by decide)] at H;exact H
    clear H
    have H:=H1
    clear H1
    have H':=Aside0.mk H
    clear H
    go_wp2
    repeat (go_quiet (fail);try go_wp2)
    go_loopg [7] kj3 (fun kq v7 w'=>∃ (x7_2:Int),v7=.int .i64 x7_2∧Aside0 (abugidaref16_Match.l0 kq l1 a2 x7_2 l0_0 l0_1 l0_2 l0_3 l0_4=some r)∧Aside0 (kq≤kj3)∧Aside0 (w'.heap[gb544]?=some (.cells #[(.slice A0_0 l0_0.length c0_0),(.slice A0_1 l0_1.length c0_1),(.slice A0_2 l0_2.length c0_2),(.slice A0_3 l0_3.length c0_3),(.slice A0_4 l0_4.length c0_4)] 49 (0,0)))∧Aside0 (Below w.heap.size w w'))
    case atStart=>exact ⟨(0),za82,H',⟨Nat.le_refl _⟩,⟨by (with_reducible repeat (first|refine blk_drewN ?_ _|refine blk_drew ?_|refine blk_alloc ?_ _));exact BK544.out⟩,⟨by repeat (first|(with_reducible first|exact HB.out|apply below_alloc|apply pw_below_drewN|apply below_drew1|refine below_set ?_ GE544.out)|exact HB.out)⟩⟩
    case round =>
     clear H'
     try clear c1
     try clear c2
     try clear p2
     try clear c6
     try clear c6b0
     try clear p6
     try clear c7
     try clear c7b0
     try clear c8
     try clear c8b0
     try clear c8b1
     try clear c8b2
     try clear c10
     try clear c10b0
     try clear c13
     try clear hcz11_0
     try clear hcz11_1
     try clear hcz11_2
     try clear hcz11_3
     try clear hcz11_4
     try clear hcz12_0
     try clear hcz12_1
     try clear hcz12_2
     try clear hcz12_3
     try clear hcz12_4
     try clear hcz9_0
     try clear hcz9_1
     try clear hcz9_2
     try clear hcz9_3
     try clear hcz9_4
     try clear hfz11_0
     try clear hfz11_1
     try clear hfz11_2
     try clear hfz11_3
     try clear hfz11_4
     try clear hfz12_0
     try clear hfz12_1
     try clear hfz12_2
     try clear hfz12_3
     try clear hfz12_4
     try clear hfz9_0
     try clear hfz9_1
     try clear hfz9_2
     try clear hfz9_3
     try clear hfz9_4
     try clear p2
     try clear p6
     obtain ⟨x7_2,rfl,HA,HK2,BK544,HB⟩:=hrel
     cases gk with
     | zero=>exact absurd HA.out (by simp [abugidaref16_Match.l0])
     | succ k2 =>
      have H:=HA.out
      clear HA
      simp only [abugidaref16_Match.l0] at H
      by_cases c14:x7_2<(l0_1.length:Int)
      ·
       rw [if_pos c14] at H
       have c14b0:decide (x7_2<(l0_1.length:Int))=true:=decide_eq_true c14
       clear c14
       obtain ⟨ji15,hji15⟩:∃ j_:Int,(wrap64 (a2 + x7_2))=j_:=⟨_,rfl⟩
       replace H:(if 0≤(ji15) then (if (ji15)<(l1.length:Int) then (if 0≤a2 then (if a2<(l1.length:Int) then (if ((rd_T55 l1 (ji15)).f1)=((rd_T55 l1 a2).f1) then (if 0≤x7_2 then ((abugidaref16_has.f k2 (rd_L1 l0_1 x7_2) ((rd_T55 l1 (ji15)).f0)).bind fun t549=>(if t549=true then (abugidaref16_Match.l0 k2 l1 a2 (wrap64 (x7_2 + 1)) l0_0 l0_1 l0_2 l0_3 l0_4) else (some false))) else (none)) else (some false)) else (none)) else (none)) else (none)) else (none))=some r:=by first|(rw [hji15] at H;exact H)|(simp only [hji15] at H ⊢;exact H)
       have hji15w:(IntKind.i64.wrap (a2 + x7_2))=ji15:=(i64_w _).trans hji15
       by_cases c16:0≤(ji15)
       ·
        rw [if_pos c16] at H
        have c16b0:decide (0≤(ji15))=true:=decide_eq_true c16
        clear c16
        by_cases c17:(ji15)<(l1.length:Int)
        ·
         rw [if_pos c17] at H
         have c17b0:decide ((ji15)<(l1.length:Int))=true:=decide_eq_true c17
         clear c17
         by_cases c18:0≤a2
         ·
          rw [if_pos c18] at H
          have c18b0:decide (0≤a2)=true:=decide_eq_true c18
          clear c18
          by_cases c19:a2<(l1.length:Int)
          ·
           rw [if_pos c19] at H
           have c19b0:decide (a2<(l1.length:Int))=true:=decide_eq_true c19
           clear c19
           by_cases c20:((rd_T55 l1 (ji15)).f1)=((rd_T55 l1 a2).f1)
           ·
            rw [if_pos c20] at H
            have c20b0:(((rd_T55 l1 (ji15)).f1) == ((rd_T55 l1 a2).f1))=true:=beq_iff_eq.mpr c20
            have c20b1:(((rd_T55 l1 (ji15)).f1) != ((rd_T55 l1 a2).f1))=false:=bne_eq_false_iff_eq.mpr c20
            clear c20
            by_cases c21:0≤x7_2
            ·
             rw [if_pos c21] at H
             have c21b0:decide (0≤x7_2)=true:=decide_eq_true c21
             clear c21
             replace H:=Option.bind_eq_some_iff.mp H
             obtain ⟨t549,A220,H⟩:=H
             replace H:(if t549=true then (abugidaref16_Match.l0 k2 l1 a2 (wrap64 (x7_2 + 1)) l0_0 l0_1 l0_2 l0_3 l0_4) else (some false))=some r:=H
             have A22:=Aside0.mk A220
             clear A220
             by_cases c23:t549=true
             ·
              subst c23
              have H1:(abugidaref16_Match.l0 k2 l1 a2 (wrap64 (x7_2 + 1)) l0_0 l0_1 l0_2 l0_3 l0_4)=some r:=by rw [if_pos rfl] at H;exact H
              clear H
              have H:=H1
              clear H1
              have H':=Aside0.mk H
              clear H
              have hcz24_0:wr.cell? ⟨gb544,0,none⟩=some (.slice A0_0 l0_0.length c0_0):=(blk_cell BK544.out 0).trans rfl
              have hcz24_1:wr.cell? ⟨gb544,1,none⟩=some (.slice A0_1 l0_1.length c0_1):=(blk_cell BK544.out 1).trans rfl
              have hcz24_2:wr.cell? ⟨gb544,2,none⟩=some (.slice A0_2 l0_2.length c0_2):=(blk_cell BK544.out 2).trans rfl
              have hcz24_3:wr.cell? ⟨gb544,3,none⟩=some (.slice A0_3 l0_3.length c0_3):=(blk_cell BK544.out 3).trans rfl
              have hcz24_4:wr.cell? ⟨gb544,4,none⟩=some (.slice A0_4 l0_4.length c0_4):=(blk_cell BK544.out 4).trans rfl
              have hfz24_0:=blk_frozen BK544.out 0
              have hfz24_1:=blk_frozen BK544.out 1
              have hfz24_2:=blk_frozen BK544.out 2
              have hfz24_3:=blk_frozen BK544.out 3
              have hfz24_4:=blk_frozen BK544.out 4
              have p545:0≤((ji15):Int):=of_decide_eq_true za79
              have q545:(ji15)<(l1.length:Int):=of_decide_eq_true za79
              obtain ⟨ad545,e545,hx545_0,hx545_1⟩:=at_T55 HR1.out (ji15) p545 q545
              cases e545
              replace hx545_0:=(HB.out.cell (World.block_lt_of_cell? w _ hx545_0)).trans hx545_0
              replace hx545_1:=(HB.out.cell (World.block_lt_of_cell? w _ hx545_1)).trans hx545_1
              replace p545:=eq_true p545
              replace q545:=eq_true q545
              go_wp2_with (first|((with_reducible refine gate_dst (N:=8) rfl ?_);(try (refine gate_guard (by rfl) ?_;dsimp only));refine box_event ?hg (N:=8) ?hd (cs:=#[.int .i64 0,.int .i64 0]) (t:=55) ?hr ?_;(case hd=>rfl);(case hg=>rfl);(case hr=>first|(go_simp;done)|(go_simp;rfl));intro gb546 hg w25 hbox hb;have n0_:=Aside0.mk (blk_below (g:=gb544) (o:=.cells #[.slice A0_0 l0_0.length c0_0,.slice A0_1 l0_1.length c0_1,.slice A0_2 l0_2.length c0_2,.slice A0_3 l0_3.length c0_3,.slice A0_4 l0_4.length c0_4] 49 (0,0)) za47 hb);have n1_:=Aside0.mk (below_step za35 hb);have n2_:=Aside0.mk (hbox);have n3_:=Aside0.mk ((za25:w.heap.size≤gb546));have n4_:=Aside0.mk ((za25:w.heap.size≤gb546));have n5_:=Aside0.mk ((za2:gb544≠gb546));have n6_:=Aside0.mk ((za3:gb546≠gb544));clear BK544;clear HB;have BK544:=n0_;have HB:=n1_;have BK546:=n2_;have GW546:=n3_;have GE546:=n4_;have NB544_546:=n5_;have NB546_544:=n6_;clear n0_ n1_ n2_ n3_ n4_ n5_ n6_;clear hb hbox hg;have hnb26:=NB546_544.out;have hnc26:=NB544_546.out;have hcz27_0:w25.cell? ⟨gb546,0,none⟩=some (.int .i64 0):=(blk_cell BK546.out 0).trans rfl;have hcz27_1:w25.cell? ⟨gb546,1,none⟩=some (.int .i64 0):=(blk_cell BK546.out 1).trans rfl;have hfz27_0:=blk_frozen BK546.out 0;have hfz27_1:=blk_frozen BK546.out 1;have p547:0≤(a2:Int):=of_decide_eq_true za79;have q547:a2<(l1.length:Int):=of_decide_eq_true za79;obtain ⟨ad547,e547,hx547_0,hx547_1⟩:=at_T55 HR1.out a2 p547 q547;obtain rfl:ad545=ad547:=(by injection e547);have hn547_0:ad545.block≠gb546:=Nat.ne_of_lt (Nat.lt_of_lt_of_le za76 GW546.out);have hn547_1:ad545.block≠gb546:=Nat.ne_of_lt (Nat.lt_of_lt_of_le za76 GW546.out);replace hx547_0:=(HB.out.cell (World.block_lt_of_cell? w _ hx547_0)).trans hx547_0;replace hx547_1:=(HB.out.cell (World.block_lt_of_cell? w _ hx547_1)).trans hx547_1;replace hx547_0:=(cell_far (p:=⟨gb546,0,none⟩) za53 (.int .i64 ((rd_T55 l1 (ji15)).f0))).trans hx547_0;replace hx547_1:=(cell_far (p:=⟨gb546,0,none⟩) za53 (.int .i64 ((rd_T55 l1 (ji15)).f0))).trans hx547_1;replace hx547_0:=(cell_far (p:=⟨gb546,1,none⟩) za54 (.int .i64 ((rd_T55 l1 (ji15)).f1))).trans hx547_0;replace hx547_1:=(cell_far (p:=⟨gb546,1,none⟩) za54 (.int .i64 ((rd_T55 l1 (ji15)).f1))).trans hx547_1;(try have hy547_0:=fun (n_:Nat)=>(show ((((w25.drewN n_).setCell ⟨gb546,0,none⟩ (.int .i64 ((rd_T55 l1 (ji15)).f0))).setCell ⟨gb546,1,none⟩ (.int .i64 ((rd_T55 l1 (ji15)).f1)))).cell? _=some _ from hx547_0));(try have hy547_1:=fun (n_:Nat)=>(show ((((w25.drewN n_).setCell ⟨gb546,0,none⟩ (.int .i64 ((rd_T55 l1 (ji15)).f0))).setCell ⟨gb546,1,none⟩ (.int .i64 ((rd_T55 l1 (ji15)).f1)))).cell? _=some _ from hx547_1));clear hn547_0;clear hn547_1;replace p547:=eq_true p547;replace q547:=eq_true q547;have hcz28_0:w25.cell? ⟨gb544,0,none⟩=some (.slice A0_0 l0_0.length c0_0):=(blk_cell BK544.out 0).trans rfl;have hcz28_1:w25.cell? ⟨gb544,1,none⟩=some (.slice A0_1 l0_1.length c0_1):=(blk_cell BK544.out 1).trans rfl;have hcz28_2:w25.cell? ⟨gb544,2,none⟩=some (.slice A0_2 l0_2.length c0_2):=(blk_cell BK544.out 2).trans rfl;have hcz28_3:w25.cell? ⟨gb544,3,none⟩=some (.slice A0_3 l0_3.length c0_3):=(blk_cell BK544.out 3).trans rfl;have hcz28_4:w25.cell? ⟨gb544,4,none⟩=some (.slice A0_4 l0_4.length c0_4):=(blk_cell BK544.out 4).trans rfl;have hfz28_0:=blk_frozen BK544.out 0;have hfz28_1:=blk_frozen BK544.out 1;have hfz28_2:=blk_frozen BK544.out 2;have hfz28_3:=blk_frozen BK544.out 3;have hfz28_4:=blk_frozen BK544.out 4;have p548:0≤(x7_2:Int):=of_decide_eq_true za79;have q548:x7_2<(l0_1.length:Int):=of_decide_eq_true za79;obtain ⟨ad548,A548_0,c548_0,e548,hx548_0,hl548_0,hi548_0⟩:=at_L1 HR0_1.out x7_2 p548 q548;cases e548;have hn548_0:ad548.block≠gb546:=Nat.ne_of_lt (Nat.lt_of_lt_of_le za77 GW546.out);have hn548_1:ad548.block≠gb546:=Nat.ne_of_lt (Nat.lt_of_lt_of_le za77 GW546.out);replace hx548_0:=(HB.out.cell (World.block_lt_of_cell? w _ hx548_0)).trans hx548_0;have HR548_0:=Aside0.mk hi548_0;have HC548_0:=Aside0.mk hl548_0;clear hi548_0 hl548_0;replace hx548_0:=(cell_far (p:=⟨gb546,0,none⟩) za55 (.int .i64 ((rd_T55 l1 (ji15)).f0))).trans hx548_0;replace hx548_0:=(cell_far (p:=⟨gb546,1,none⟩) za56 (.int .i64 ((rd_T55 l1 (ji15)).f1))).trans hx548_0;(try have hy548_0:=fun (n_:Nat)=>(show ((((w25.drewN n_).setCell ⟨gb546,0,none⟩ (.int .i64 ((rd_T55 l1 (ji15)).f0))).setCell ⟨gb546,1,none⟩ (.int .i64 ((rd_T55 l1 (ji15)).f1)))).cell? _=some _ from hx548_0));clear hn548_0;clear hn548_1;replace p548:=eq_true p548;replace q548:=eq_true q548)|(go_at_call 38;(with_reducible refine (abugidaref16_has.calls k2 _ _ (rd_L1 l0_1 x7_2) ((rd_T55 l1 (ji15)).f0) true _ ?side1 ?side2 A22.out).mono ?_);(case side1=>exact Kd.C_below HR548_0.out za30);(case side2=>exact HC548_0.out);rintro e w' ⟨rfl,⟨nd,rfl⟩⟩;(try first|exact ⟨rfl,_,World.drewN_drewN _ _ _⟩|exact ⟨rfl,_,Eq.trans (World.drewN_drewN _ _ _) (congrArg (World.drewN _) (Nat.add_assoc _ _ _))⟩)))
              repeat (go_quiet (first|((with_reducible refine gate_dst (N:=8) rfl ?_);(try (refine gate_guard (by rfl) ?_;dsimp only));refine box_event ?hg (N:=8) ?hd (cs:=#[.int .i64 0,.int .i64 0]) (t:=55) ?hr ?_;(case hd=>rfl);(case hg=>rfl);(case hr=>first|(go_simp;done)|(go_simp;rfl));intro gb546 hg w25 hbox hb;have n0_:=Aside0.mk (blk_below (g:=gb544) (o:=.cells #[.slice A0_0 l0_0.length c0_0,.slice A0_1 l0_1.length c0_1,.slice A0_2 l0_2.length c0_2,.slice A0_3 l0_3.length c0_3,.slice A0_4 l0_4.length c0_4] 49 (0,0)) za47 hb);have n1_:=Aside0.mk (below_step za35 hb);have n2_:=Aside0.mk (hbox);have n3_:=Aside0.mk ((za25:w.heap.size≤gb546));have n4_:=Aside0.mk ((za25:w.heap.size≤gb546));have n5_:=Aside0.mk ((za2:gb544≠gb546));have n6_:=Aside0.mk ((za3:gb546≠gb544));clear BK544;clear HB;have BK544:=n0_;have HB:=n1_;have BK546:=n2_;have GW546:=n3_;have GE546:=n4_;have NB544_546:=n5_;have NB546_544:=n6_;clear n0_ n1_ n2_ n3_ n4_ n5_ n6_;clear hb hbox hg;have hnb26:=NB546_544.out;have hnc26:=NB544_546.out;have hcz27_0:w25.cell? ⟨gb546,0,none⟩=some (.int .i64 0):=(blk_cell BK546.out 0).trans rfl;have hcz27_1:w25.cell? ⟨gb546,1,none⟩=some (.int .i64 0):=(blk_cell BK546.out 1).trans rfl;have hfz27_0:=blk_frozen BK546.out 0;have hfz27_1:=blk_frozen BK546.out 1;have p547:0≤(a2:Int):=of_decide_eq_true za79;have q547:a2<(l1.length:Int):=of_decide_eq_true za79;obtain ⟨ad547,e547,hx547_0,hx547_1⟩:=at_T55 HR1.out a2 p547 q547;obtain rfl:ad545=ad547:=(by injection e547);have hn547_0:ad545.block≠gb546:=Nat.ne_of_lt (Nat.lt_of_lt_of_le za76 GW546.out);have hn547_1:ad545.block≠gb546:=Nat.ne_of_lt (Nat.lt_of_lt_of_le za76 GW546.out);replace hx547_0:=(HB.out.cell (World.block_lt_of_cell? w _ hx547_0)).trans hx547_0;replace hx547_1:=(HB.out.cell (World.block_lt_of_cell? w _ hx547_1)).trans hx547_1;replace hx547_0:=(cell_far (p:=⟨gb546,0,none⟩) za53 (.int .i64 ((rd_T55 l1 (ji15)).f0))).trans hx547_0;replace hx547_1:=(cell_far (p:=⟨gb546,0,none⟩) za53 (.int .i64 ((rd_T55 l1 (ji15)).f0))).trans hx547_1;replace hx547_0:=(cell_far (p:=⟨gb546,1,none⟩) za54 (.int .i64 ((rd_T55 l1 (ji15)).f1))).trans hx547_0;replace hx547_1:=(cell_far (p:=⟨gb546,1,none⟩) za54 (.int .i64 ((rd_T55 l1 (ji15)).f1))).trans hx547_1;(try have hy547_0:=fun (n_:Nat)=>(show ((((w25.drewN n_).setCell ⟨gb546,0,none⟩ (.int .i64 ((rd_T55 l1 (ji15)).f0))).setCell ⟨gb546,1,none⟩ (.int .i64 ((rd_T55 l1 (ji15)).f1)))).cell? _=some _ from hx547_0));(try have hy547_1:=fun (n_:Nat)=>(show ((((w25.drewN n_).setCell ⟨gb546,0,none⟩ (.int .i64 ((rd_T55 l1 (ji15)).f0))).setCell ⟨gb546,1,none⟩ (.int .i64 ((rd_T55 l1 (ji15)).f1)))).cell? _=some _ from hx547_1));clear hn547_0;clear hn547_1;replace p547:=eq_true p547;replace q547:=eq_true q547;have hcz28_0:w25.cell? ⟨gb544,0,none⟩=some (.slice A0_0 l0_0.length c0_0):=(blk_cell BK544.out 0).trans rfl;have hcz28_1:w25.cell? ⟨gb544,1,none⟩=some (.slice A0_1 l0_1.length c0_1):=(blk_cell BK544.out 1).trans rfl;have hcz28_2:w25.cell? ⟨gb544,2,none⟩=some (.slice A0_2 l0_2.length c0_2):=(blk_cell BK544.out 2).trans rfl;have hcz28_3:w25.cell? ⟨gb544,3,none⟩=some (.slice A0_3 l0_3.length c0_3):=(blk_cell BK544.out 3).trans rfl;have hcz28_4:w25.cell? ⟨gb544,4,none⟩=some (.slice A0_4 l0_4.length c0_4):=(blk_cell BK544.out 4).trans rfl;have hfz28_0:=blk_frozen BK544.out 0;have hfz28_1:=blk_frozen BK544.out 1;have hfz28_2:=blk_frozen BK544.out 2;have hfz28_3:=blk_frozen BK544.out 3;have hfz28_4:=blk_frozen BK544.out 4;have p548:0≤(x7_2:Int):=of_decide_eq_true za79;have q548:x7_2<(l0_1.length:Int):=of_decide_eq_true za79;obtain ⟨ad548,A548_0,c548_0,e548,hx548_0,hl548_0,hi548_0⟩:=at_L1 HR0_1.out x7_2 p548 q548;cases e548;have hn548_0:ad548.block≠gb546:=Nat.ne_of_lt (Nat.lt_of_lt_of_le za77 GW546.out);have hn548_1:ad548.block≠gb546:=Nat.ne_of_lt (Nat.lt_of_lt_of_le za77 GW546.out);replace hx548_0:=(HB.out.cell (World.block_lt_of_cell? w _ hx548_0)).trans hx548_0;have HR548_0:=Aside0.mk hi548_0;have HC548_0:=Aside0.mk hl548_0;clear hi548_0 hl548_0;replace hx548_0:=(cell_far (p:=⟨gb546,0,none⟩) za55 (.int .i64 ((rd_T55 l1 (ji15)).f0))).trans hx548_0;replace hx548_0:=(cell_far (p:=⟨gb546,1,none⟩) za56 (.int .i64 ((rd_T55 l1 (ji15)).f1))).trans hx548_0;(try have hy548_0:=fun (n_:Nat)=>(show ((((w25.drewN n_).setCell ⟨gb546,0,none⟩ (.int .i64 ((rd_T55 l1 (ji15)).f0))).setCell ⟨gb546,1,none⟩ (.int .i64 ((rd_T55 l1 (ji15)).f1)))).cell? _=some _ from hx548_0));clear hn548_0;clear hn548_1;replace p548:=eq_true p548;replace q548:=eq_true q548)|(go_at_call 38;(with_reducible refine (abugidaref16_has.calls k2 _ _ (rd_L1 l0_1 x7_2) ((rd_T55 l1 (ji15)).f0) true _ ?side1 ?side2 A22.out).mono ?_);(case side1=>exact Kd.C_below HR548_0.out za30);(case side2=>exact HC548_0.out);rintro e w' ⟨rfl,⟨nd,rfl⟩⟩;(try first|exact ⟨rfl,_,World.drewN_drewN _ _ _⟩|exact ⟨rfl,_,Eq.trans (World.drewN_drewN _ _ _) (congrArg (World.drewN _) (Nat.add_assoc _ _ _))⟩)));try go_wp2_with (first|((with_reducible refine gate_dst (N:=8) rfl ?_);(try (refine gate_guard (by rfl) ?_;dsimp only));refine box_event ?hg (N:=8) ?hd (cs:=#[.int .i64 0,.int .i64 0]) (t:=55) ?hr ?_;(case hd=>rfl);(case hg=>rfl);(case hr=>first|(go_simp;done)|(go_simp;rfl));intro gb546 hg w25 hbox hb;have n0_:=Aside0.mk (blk_below (g:=gb544) (o:=.cells #[.slice A0_0 l0_0.length c0_0,.slice A0_1 l0_1.length c0_1,.slice A0_2 l0_2.length c0_2,.slice A0_3 l0_3.length c0_3,.slice A0_4 l0_4.length c0_4] 49 (0,0)) za47 hb);have n1_:=Aside0.mk (below_step za35 hb);have n2_:=Aside0.mk (hbox);have n3_:=Aside0.mk ((za25:w.heap.size≤gb546));have n4_:=Aside0.mk ((za25:w.heap.size≤gb546));have n5_:=Aside0.mk ((za2:gb544≠gb546));have n6_:=Aside0.mk ((za3:gb546≠gb544));clear BK544;clear HB;have BK544:=n0_;have HB:=n1_;have BK546:=n2_;have GW546:=n3_;have GE546:=n4_;have NB544_546:=n5_;have NB546_544:=n6_;clear n0_ n1_ n2_ n3_ n4_ n5_ n6_;clear hb hbox hg;have hnb26:=NB546_544.out;have hnc26:=NB544_546.out;have hcz27_0:w25.cell? ⟨gb546,0,none⟩=some (.int .i64 0):=(blk_cell BK546.out 0).trans rfl;have hcz27_1:w25.cell? ⟨gb546,1,none⟩=some (.int .i64 0):=(blk_cell BK546.out 1).trans rfl;have hfz27_0:=blk_frozen BK546.out 0;have hfz27_1:=blk_frozen BK546.out 1;have p547:0≤(a2:Int):=of_decide_eq_true za79;have q547:a2<(l1.length:Int):=of_decide_eq_true za79;obtain ⟨ad547,e547,hx547_0,hx547_1⟩:=at_T55 HR1.out a2 p547 q547;obtain rfl:ad545=ad547:=(by injection e547);have hn547_0:ad545.block≠gb546:=Nat.ne_of_lt (Nat.lt_of_lt_of_le za76 GW546.out);have hn547_1:ad545.block≠gb546:=Nat.ne_of_lt (Nat.lt_of_lt_of_le za76 GW546.out);replace hx547_0:=(HB.out.cell (World.block_lt_of_cell? w _ hx547_0)).trans hx547_0;replace hx547_1:=(HB.out.cell (World.block_lt_of_cell? w _ hx547_1)).trans hx547_1;replace hx547_0:=(cell_far (p:=⟨gb546,0,none⟩) za53 (.int .i64 ((rd_T55 l1 (ji15)).f0))).trans hx547_0;replace hx547_1:=(cell_far (p:=⟨gb546,0,none⟩) za53 (.int .i64 ((rd_T55 l1 (ji15)).f0))).trans hx547_1;replace hx547_0:=(cell_far (p:=⟨gb546,1,none⟩) za54 (.int .i64 ((rd_T55 l1 (ji15)).f1))).trans hx547_0;replace hx547_1:=(cell_far (p:=⟨gb546,1,none⟩) za54 (.int .i64 ((rd_T55 l1 (ji15)).f1))).trans hx547_1;(try have hy547_0:=fun (n_:Nat)=>(show ((((w25.drewN n_).setCell ⟨gb546,0,none⟩ (.int .i64 ((rd_T55 l1 (ji15)).f0))).setCell ⟨gb546,1,none⟩ (.int .i64 ((rd_T55 l1 (ji15)).f1)))).cell? _=some _ from hx547_0));(try have hy547_1:=fun (n_:Nat)=>(show ((((w25.drewN n_).setCell ⟨gb546,0,none⟩ (.int .i64 ((rd_T55 l1 (ji15)).f0))).setCell ⟨gb546,1,none⟩ (.int .i64 ((rd_T55 l1 (ji15)).f1)))).cell? _=some _ from hx547_1));clear hn547_0;clear hn547_1;replace p547:=eq_true p547;replace q547:=eq_true q547;have hcz28_0:w25.cell? ⟨gb544,0,none⟩=some (.slice A0_0 l0_0.length c0_0):=(blk_cell BK544.out 0).trans rfl;have hcz28_1:w25.cell? ⟨gb544,1,none⟩=some (.slice A0_1 l0_1.length c0_1):=(blk_cell BK544.out 1).trans rfl;have hcz28_2:w25.cell? ⟨gb544,2,none⟩=some (.slice A0_2 l0_2.length c0_2):=(blk_cell BK544.out 2).trans rfl;have hcz28_3:w25.cell? ⟨gb544,3,none⟩=some (.slice A0_3 l0_3.length c0_3):=(blk_cell BK544.out 3).trans rfl;have hcz28_4:w25.cell? ⟨gb544,4,none⟩=some (.slice A0_4 l0_4.length c0_4):=(blk_cell BK544.out 4).trans rfl;have hfz28_0:=blk_frozen BK544.out 0;have hfz28_1:=blk_frozen BK544.out 1;have hfz28_2:=blk_frozen BK544.out 2;have hfz28_3:=blk_frozen BK544.out 3;have hfz28_4:=blk_frozen BK544.out 4;have p548:0≤(x7_2:Int):=of_decide_eq_true za79;have q548:x7_2<(l0_1.length:Int):=of_decide_eq_true za79;obtain ⟨ad548,A548_0,c548_0,e548,hx548_0,hl548_0,hi548_0⟩:=at_L1 HR0_1.out x7_2 p548 q548;cases e548;have hn548_0:ad548.block≠gb546:=Nat.ne_of_lt (Nat.lt_of_lt_of_le za77 GW546.out);have hn548_1:ad548.block≠gb546:=Nat.ne_of_lt (Nat.lt_of_lt_of_le za77 GW546.out);replace hx548_0:=(HB.out.cell (World.block_lt_of_cell? w _ hx548_0)).trans hx548_0;have HR548_0:=Aside0.mk hi548_0;have HC548_0:=Aside0.mk hl548_0;clear hi548_0 hl548_0;replace hx548_0:=(cell_far (p:=⟨gb546,0,none⟩) za55 (.int .i64 ((rd_T55 l1 (ji15)).f0))).trans hx548_0;replace hx548_0:=(cell_far (p:=⟨gb546,1,none⟩) za56 (.int .i64 ((rd_T55 l1 (ji15)).f1))).trans hx548_0;(try have hy548_0:=fun (n_:Nat)=>(show ((((w25.drewN n_).setCell ⟨gb546,0,none⟩ (.int .i64 ((rd_T55 l1 (ji15)).f0))).setCell ⟨gb546,1,none⟩ (.int .i64 ((rd_T55 l1 (ji15)).f1)))).cell? _=some _ from hx548_0));clear hn548_0;clear hn548_1;replace p548:=eq_true p548;replace q548:=eq_true q548)|(go_at_call 38;(with_reducible refine (abugidaref16_has.calls k2 _ _ (rd_L1 l0_1 x7_2) ((rd_T55 l1 (ji15)).f0) true _ ?side1 ?side2 A22.out).mono ?_);(case side1=>exact Kd.C_below HR548_0.out za30);(case side2=>exact HC548_0.out);rintro e w' ⟨rfl,⟨nd,rfl⟩⟩;(try first|exact ⟨rfl,_,World.drewN_drewN _ _ _⟩|exact ⟨rfl,_,Eq.trans (World.drewN_drewN _ _ _) (congrArg (World.drewN _) (Nat.add_assoc _ _ _))⟩))))
              go_roundg k2
              case measure=>have:=HJ3.out;have:=HK2.out;omega
              case rel=>exact ⟨(wrap64 (x7_2 + 1)),za82,H',⟨by have:=HJ3.out;have:=HK2.out;omega⟩,⟨by (with_reducible repeat (first|refine blk_drewN ?_ _|refine blk_drew ?_|refine blk_alloc ?_ _));refine blk_far ?_ NB544_546.out _;(with_reducible repeat (first|refine blk_drewN ?_ _|refine blk_drew ?_|refine blk_alloc ?_ _));refine blk_far ?_ NB544_546.out _;(with_reducible repeat (first|refine blk_drewN ?_ _|refine blk_drew ?_|refine blk_alloc ?_ _));exact BK544.out⟩,⟨by repeat (first|(with_reducible first|exact HB.out|apply below_alloc|apply pw_below_drewN|apply below_drew1|refine below_set ?_ GE544.out|refine below_set ?_ GE546.out)|exact HB.out)⟩⟩
             ·
              replace c23:=Bool.eq_false_iff.mpr c23
              subst c23
              have H1:(some false)=some r:=by rw [if_neg (show ¬ (false=true) by decide)] at H;exact H
              clear H
              have H:=H1
              clear H1
              obtain rfl:=Option.some.inj H
              have hcz29_0:wr.cell? ⟨gb544,0,none⟩=some (.slice A0_0 l0_0.length c0_0):=(blk_cell BK544.out 0).trans rfl
              have hcz29_1:wr.cell? ⟨gb544,1,none⟩=some (.slice A0_1 l0_1.length c0_1):=(blk_cell BK544.out 1).trans rfl
              have hcz29_2:wr.cell? ⟨gb544,2,none⟩=some (.slice A0_2 l0_2.length c0_2):=(blk_cell BK544.out 2).trans rfl
              have hcz29_3:wr.cell? ⟨gb544,3,none⟩=some (.slice A0_3 l0_3.length c0_3):=(blk_cell BK544.out 3).trans rfl
              have hcz29_4:wr.cell? ⟨gb544,4,none⟩=some (.slice A0_4 l0_4.length c0_4):=(blk_cell BK544.out 4).trans rfl
              have hfz29_0:=blk_frozen BK544.out 0
              have hfz29_1:=blk_frozen BK544.out 1
              have hfz29_2:=blk_frozen BK544.out 2
              have hfz29_3:=blk_frozen BK544.out 3
              have hfz29_4:=blk_frozen BK544.out 4
              have p545:0≤((ji15):Int):=of_decide_eq_true za79
              have q545:(ji15)<(l1.length:Int):=of_decide_eq_true za79
              obtain ⟨ad545,e545,hx545_0,hx545_1⟩:=at_T55 HR1.out (ji15) p545 q545
              cases e545
              replace hx545_0:=(HB.out.cell (World.block_lt_of_cell? w _ hx545_0)).trans hx545_0
              replace hx545_1:=(HB.out.cell (World.block_lt_of_cell? w _ hx545_1)).trans hx545_1
              replace p545:=eq_true p545
              replace q545:=eq_true q545
              go_wp2_with (first|((with_reducible refine gate_dst (N:=8) rfl ?_);(try (refine gate_guard (by rfl) ?_;dsimp only));refine box_event ?hg (N:=8) ?hd (cs:=#[.int .i64 0,.int .i64 0]) (t:=55) ?hr ?_;(case hd=>rfl);(case hg=>rfl);(case hr=>first|(go_simp;done)|(go_simp;rfl));intro gb546 hg w30 hbox hb;have n0_:=Aside0.mk (blk_below (g:=gb544) (o:=.cells #[.slice A0_0 l0_0.length c0_0,.slice A0_1 l0_1.length c0_1,.slice A0_2 l0_2.length c0_2,.slice A0_3 l0_3.length c0_3,.slice A0_4 l0_4.length c0_4] 49 (0,0)) za47 hb);have n1_:=Aside0.mk (below_step za35 hb);have n2_:=Aside0.mk (hbox);have n3_:=Aside0.mk ((za25:w.heap.size≤gb546));have n4_:=Aside0.mk ((za25:w.heap.size≤gb546));have n5_:=Aside0.mk ((za2:gb544≠gb546));have n6_:=Aside0.mk ((za3:gb546≠gb544));clear BK544;clear HB;have BK544:=n0_;have HB:=n1_;have BK546:=n2_;have GW546:=n3_;have GE546:=n4_;have NB544_546:=n5_;have NB546_544:=n6_;clear n0_ n1_ n2_ n3_ n4_ n5_ n6_;clear hb hbox hg;have hnb31:=NB546_544.out;have hnc31:=NB544_546.out;have hcz32_0:w30.cell? ⟨gb546,0,none⟩=some (.int .i64 0):=(blk_cell BK546.out 0).trans rfl;have hcz32_1:w30.cell? ⟨gb546,1,none⟩=some (.int .i64 0):=(blk_cell BK546.out 1).trans rfl;have hfz32_0:=blk_frozen BK546.out 0;have hfz32_1:=blk_frozen BK546.out 1;have p547:0≤(a2:Int):=of_decide_eq_true za79;have q547:a2<(l1.length:Int):=of_decide_eq_true za79;obtain ⟨ad547,e547,hx547_0,hx547_1⟩:=at_T55 HR1.out a2 p547 q547;obtain rfl:ad545=ad547:=(by injection e547);have hn547_0:ad545.block≠gb546:=Nat.ne_of_lt (Nat.lt_of_lt_of_le za76 GW546.out);have hn547_1:ad545.block≠gb546:=Nat.ne_of_lt (Nat.lt_of_lt_of_le za76 GW546.out);replace hx547_0:=(HB.out.cell (World.block_lt_of_cell? w _ hx547_0)).trans hx547_0;replace hx547_1:=(HB.out.cell (World.block_lt_of_cell? w _ hx547_1)).trans hx547_1;replace hx547_0:=(cell_far (p:=⟨gb546,0,none⟩) za53 (.int .i64 ((rd_T55 l1 (ji15)).f0))).trans hx547_0;replace hx547_1:=(cell_far (p:=⟨gb546,0,none⟩) za53 (.int .i64 ((rd_T55 l1 (ji15)).f0))).trans hx547_1;replace hx547_0:=(cell_far (p:=⟨gb546,1,none⟩) za54 (.int .i64 ((rd_T55 l1 (ji15)).f1))).trans hx547_0;replace hx547_1:=(cell_far (p:=⟨gb546,1,none⟩) za54 (.int .i64 ((rd_T55 l1 (ji15)).f1))).trans hx547_1;(try have hy547_0:=fun (n_:Nat)=>(show ((((w30.drewN n_).setCell ⟨gb546,0,none⟩ (.int .i64 ((rd_T55 l1 (ji15)).f0))).setCell ⟨gb546,1,none⟩ (.int .i64 ((rd_T55 l1 (ji15)).f1)))).cell? _=some _ from hx547_0));(try have hy547_1:=fun (n_:Nat)=>(show ((((w30.drewN n_).setCell ⟨gb546,0,none⟩ (.int .i64 ((rd_T55 l1 (ji15)).f0))).setCell ⟨gb546,1,none⟩ (.int .i64 ((rd_T55 l1 (ji15)).f1)))).cell? _=some _ from hx547_1));clear hn547_0;clear hn547_1;replace p547:=eq_true p547;replace q547:=eq_true q547;have hcz33_0:w30.cell? ⟨gb544,0,none⟩=some (.slice A0_0 l0_0.length c0_0):=(blk_cell BK544.out 0).trans rfl;have hcz33_1:w30.cell? ⟨gb544,1,none⟩=some (.slice A0_1 l0_1.length c0_1):=(blk_cell BK544.out 1).trans rfl;have hcz33_2:w30.cell? ⟨gb544,2,none⟩=some (.slice A0_2 l0_2.length c0_2):=(blk_cell BK544.out 2).trans rfl;have hcz33_3:w30.cell? ⟨gb544,3,none⟩=some (.slice A0_3 l0_3.length c0_3):=(blk_cell BK544.out 3).trans rfl;have hcz33_4:w30.cell? ⟨gb544,4,none⟩=some (.slice A0_4 l0_4.length c0_4):=(blk_cell BK544.out 4).trans rfl;have hfz33_0:=blk_frozen BK544.out 0;have hfz33_1:=blk_frozen BK544.out 1;have hfz33_2:=blk_frozen BK544.out 2;have hfz33_3:=blk_frozen BK544.out 3;have hfz33_4:=blk_frozen BK544.out 4;have p548:0≤(x7_2:Int):=of_decide_eq_true za79;have q548:x7_2<(l0_1.length:Int):=of_decide_eq_true za79;obtain ⟨ad548,A548_0,c548_0,e548,hx548_0,hl548_0,hi548_0⟩:=at_L1 HR0_1.out x7_2 p548 q548;cases e548;have hn548_0:ad548.block≠gb546:=Nat.ne_of_lt (Nat.lt_of_lt_of_le za77 GW546.out);have hn548_1:ad548.block≠gb546:=Nat.ne_of_lt (Nat.lt_of_lt_of_le za77 GW546.out);replace hx548_0:=(HB.out.cell (World.block_lt_of_cell? w _ hx548_0)).trans hx548_0;have HR548_0:=Aside0.mk hi548_0;have HC548_0:=Aside0.mk hl548_0;clear hi548_0 hl548_0;replace hx548_0:=(cell_far (p:=⟨gb546,0,none⟩) za55 (.int .i64 ((rd_T55 l1 (ji15)).f0))).trans hx548_0;replace hx548_0:=(cell_far (p:=⟨gb546,1,none⟩) za56 (.int .i64 ((rd_T55 l1 (ji15)).f1))).trans hx548_0;(try have hy548_0:=fun (n_:Nat)=>(show ((((w30.drewN n_).setCell ⟨gb546,0,none⟩ (.int .i64 ((rd_T55 l1 (ji15)).f0))).setCell ⟨gb546,1,none⟩ (.int .i64 ((rd_T55 l1 (ji15)).f1)))).cell? _=some _ from hx548_0));clear hn548_0;clear hn548_1;replace p548:=eq_true p548;replace q548:=eq_true q548)|(go_at_call 38;(with_reducible refine (abugidaref16_has.calls k2 _ _ (rd_L1 l0_1 x7_2) ((rd_T55 l1 (ji15)).f0) false _ ?side1 ?side2 A22.out).mono ?_);(case side1=>exact Kd.C_below HR548_0.out za30);(case side2=>exact HC548_0.out);rintro e w' ⟨rfl,⟨nd,rfl⟩⟩;(try first|exact ⟨rfl,_,World.drewN_drewN _ _ _⟩|exact ⟨rfl,_,Eq.trans (World.drewN_drewN _ _ _) (congrArg (World.drewN _) (Nat.add_assoc _ _ _))⟩)))
              repeat (go_quiet (first|((with_reducible refine gate_dst (N:=8) rfl ?_);(try (refine gate_guard (by rfl) ?_;dsimp only));refine box_event ?hg (N:=8) ?hd (cs:=#[.int .i64 0,.int .i64 0]) (t:=55) ?hr ?_;(case hd=>rfl);(case hg=>rfl);(case hr=>first|(go_simp;done)|(go_simp;rfl));intro gb546 hg w30 hbox hb;have n0_:=Aside0.mk (blk_below (g:=gb544) (o:=.cells #[.slice A0_0 l0_0.length c0_0,.slice A0_1 l0_1.length c0_1,.slice A0_2 l0_2.length c0_2,.slice A0_3 l0_3.length c0_3,.slice A0_4 l0_4.length c0_4] 49 (0,0)) za47 hb);have n1_:=Aside0.mk (below_step za35 hb);have n2_:=Aside0.mk (hbox);have n3_:=Aside0.mk ((za25:w.heap.size≤gb546));have n4_:=Aside0.mk ((za25:w.heap.size≤gb546));have n5_:=Aside0.mk ((za2:gb544≠gb546));have n6_:=Aside0.mk ((za3:gb546≠gb544));clear BK544;clear HB;have BK544:=n0_;have HB:=n1_;have BK546:=n2_;have GW546:=n3_;have GE546:=n4_;have NB544_546:=n5_;have NB546_544:=n6_;clear n0_ n1_ n2_ n3_ n4_ n5_ n6_;clear hb hbox hg;have hnb31:=NB546_544.out;have hnc31:=NB544_546.out;have hcz32_0:w30.cell? ⟨gb546,0,none⟩=some (.int .i64 0):=(blk_cell BK546.out 0).trans rfl;have hcz32_1:w30.cell? ⟨gb546,1,none⟩=some (.int .i64 0):=(blk_cell BK546.out 1).trans rfl;have hfz32_0:=blk_frozen BK546.out 0;have hfz32_1:=blk_frozen BK546.out 1;have p547:0≤(a2:Int):=of_decide_eq_true za79;have q547:a2<(l1.length:Int):=of_decide_eq_true za79;obtain ⟨ad547,e547,hx547_0,hx547_1⟩:=at_T55 HR1.out a2 p547 q547;obtain rfl:ad545=ad547:=(by injection e547);have hn547_0:ad545.block≠gb546:=Nat.ne_of_lt (Nat.lt_of_lt_of_le za76 GW546.out);have hn547_1:ad545.block≠gb546:=Nat.ne_of_lt (Nat.lt_of_lt_of_le za76 GW546.out);replace hx547_0:=(HB.out.cell (World.block_lt_of_cell? w _ hx547_0)).trans hx547_0;replace hx547_1:=(HB.out.cell (World.block_lt_of_cell? w _ hx547_1)).trans hx547_1;replace hx547_0:=(cell_far (p:=⟨gb546,0,none⟩) za53 (.int .i64 ((rd_T55 l1 (ji15)).f0))).trans hx547_0;replace hx547_1:=(cell_far (p:=⟨gb546,0,none⟩) za53 (.int .i64 ((rd_T55 l1 (ji15)).f0))).trans hx547_1;replace hx547_0:=(cell_far (p:=⟨gb546,1,none⟩) za54 (.int .i64 ((rd_T55 l1 (ji15)).f1))).trans hx547_0;replace hx547_1:=(cell_far (p:=⟨gb546,1,none⟩) za54 (.int .i64 ((rd_T55 l1 (ji15)).f1))).trans hx547_1;(try have hy547_0:=fun (n_:Nat)=>(show ((((w30.drewN n_).setCell ⟨gb546,0,none⟩ (.int .i64 ((rd_T55 l1 (ji15)).f0))).setCell ⟨gb546,1,none⟩ (.int .i64 ((rd_T55 l1 (ji15)).f1)))).cell? _=some _ from hx547_0));(try have hy547_1:=fun (n_:Nat)=>(show ((((w30.drewN n_).setCell ⟨gb546,0,none⟩ (.int .i64 ((rd_T55 l1 (ji15)).f0))).setCell ⟨gb546,1,none⟩ (.int .i64 ((rd_T55 l1 (ji15)).f1)))).cell? _=some _ from hx547_1));clear hn547_0;clear hn547_1;replace p547:=eq_true p547;replace q547:=eq_true q547;have hcz33_0:w30.cell? ⟨gb544,0,none⟩=some (.slice A0_0 l0_0.length c0_0):=(blk_cell BK544.out 0).trans rfl;have hcz33_1:w30.cell? ⟨gb544,1,none⟩=some (.slice A0_1 l0_1.length c0_1):=(blk_cell BK544.out 1).trans rfl;have hcz33_2:w30.cell? ⟨gb544,2,none⟩=some (.slice A0_2 l0_2.length c0_2):=(blk_cell BK544.out 2).trans rfl;have hcz33_3:w30.cell? ⟨gb544,3,none⟩=some (.slice A0_3 l0_3.length c0_3):=(blk_cell BK544.out 3).trans rfl;have hcz33_4:w30.cell? ⟨gb544,4,none⟩=some (.slice A0_4 l0_4.length c0_4):=(blk_cell BK544.out 4).trans rfl;have hfz33_0:=blk_frozen BK544.out 0;have hfz33_1:=blk_frozen BK544.out 1;have hfz33_2:=blk_frozen BK544.out 2;have hfz33_3:=blk_frozen BK544.out 3;have hfz33_4:=blk_frozen BK544.out 4;have p548:0≤(x7_2:Int):=of_decide_eq_true za79;have q548:x7_2<(l0_1.length:Int):=of_decide_eq_true za79;obtain ⟨ad548,A548_0,c548_0,e548,hx548_0,hl548_0,hi548_0⟩:=at_L1 HR0_1.out x7_2 p548 q548;cases e548;have hn548_0:ad548.block≠gb546:=Nat.ne_of_lt (Nat.lt_of_lt_of_le za77 GW546.out);have hn548_1:ad548.block≠gb546:=Nat.ne_of_lt (Nat.lt_of_lt_of_le za77 GW546.out);replace hx548_0:=(HB.out.cell (World.block_lt_of_cell? w _ hx548_0)).trans hx548_0;have HR548_0:=Aside0.mk hi548_0;have HC548_0:=Aside0.mk hl548_0;clear hi548_0 hl548_0;replace hx548_0:=(cell_far (p:=⟨gb546,0,none⟩) za55 (.int .i64 ((rd_T55 l1 (ji15)).f0))).trans hx548_0;replace hx548_0:=(cell_far (p:=⟨gb546,1,none⟩) za56 (.int .i64 ((rd_T55 l1 (ji15)).f1))).trans hx548_0;(try have hy548_0:=fun (n_:Nat)=>(show ((((w30.drewN n_).setCell ⟨gb546,0,none⟩ (.int .i64 ((rd_T55 l1 (ji15)).f0))).setCell ⟨gb546,1,none⟩ (.int .i64 ((rd_T55 l1 (ji15)).f1)))).cell? _=some _ from hx548_0));clear hn548_0;clear hn548_1;replace p548:=eq_true p548;replace q548:=eq_true q548)|(go_at_call 38;(with_reducible refine (abugidaref16_has.calls k2 _ _ (rd_L1 l0_1 x7_2) ((rd_T55 l1 (ji15)).f0) false _ ?side1 ?side2 A22.out).mono ?_);(case side1=>exact Kd.C_below HR548_0.out za30);(case side2=>exact HC548_0.out);rintro e w' ⟨rfl,⟨nd,rfl⟩⟩;(try first|exact ⟨rfl,_,World.drewN_drewN _ _ _⟩|exact ⟨rfl,_,Eq.trans (World.drewN_drewN _ _ _) (congrArg (World.drewN _) (Nat.add_assoc _ _ _))⟩)));try go_wp2_with (first|((with_reducible refine gate_dst (N:=8) rfl ?_);(try (refine gate_guard (by rfl) ?_;dsimp only));refine box_event ?hg (N:=8) ?hd (cs:=#[.int .i64 0,.int .i64 0]) (t:=55) ?hr ?_;(case hd=>rfl);(case hg=>rfl);(case hr=>first|(go_simp;done)|(go_simp;rfl));intro gb546 hg w30 hbox hb;have n0_:=Aside0.mk (blk_below (g:=gb544) (o:=.cells #[.slice A0_0 l0_0.length c0_0,.slice A0_1 l0_1.length c0_1,.slice A0_2 l0_2.length c0_2,.slice A0_3 l0_3.length c0_3,.slice A0_4 l0_4.length c0_4] 49 (0,0)) za47 hb);have n1_:=Aside0.mk (below_step za35 hb);have n2_:=Aside0.mk (hbox);have n3_:=Aside0.mk ((za25:w.heap.size≤gb546));have n4_:=Aside0.mk ((za25:w.heap.size≤gb546));have n5_:=Aside0.mk ((za2:gb544≠gb546));have n6_:=Aside0.mk ((za3:gb546≠gb544));clear BK544;clear HB;have BK544:=n0_;have HB:=n1_;have BK546:=n2_;have GW546:=n3_;have GE546:=n4_;have NB544_546:=n5_;have NB546_544:=n6_;clear n0_ n1_ n2_ n3_ n4_ n5_ n6_;clear hb hbox hg;have hnb31:=NB546_544.out;have hnc31:=NB544_546.out;have hcz32_0:w30.cell? ⟨gb546,0,none⟩=some (.int .i64 0):=(blk_cell BK546.out 0).trans rfl;have hcz32_1:w30.cell? ⟨gb546,1,none⟩=some (.int .i64 0):=(blk_cell BK546.out 1).trans rfl;have hfz32_0:=blk_frozen BK546.out 0;have hfz32_1:=blk_frozen BK546.out 1;have p547:0≤(a2:Int):=of_decide_eq_true za79;have q547:a2<(l1.length:Int):=of_decide_eq_true za79;obtain ⟨ad547,e547,hx547_0,hx547_1⟩:=at_T55 HR1.out a2 p547 q547;obtain rfl:ad545=ad547:=(by injection e547);have hn547_0:ad545.block≠gb546:=Nat.ne_of_lt (Nat.lt_of_lt_of_le za76 GW546.out);have hn547_1:ad545.block≠gb546:=Nat.ne_of_lt (Nat.lt_of_lt_of_le za76 GW546.out);replace hx547_0:=(HB.out.cell (World.block_lt_of_cell? w _ hx547_0)).trans hx547_0;replace hx547_1:=(HB.out.cell (World.block_lt_of_cell? w _ hx547_1)).trans hx547_1;replace hx547_0:=(cell_far (p:=⟨gb546,0,none⟩) za53 (.int .i64 ((rd_T55 l1 (ji15)).f0))).trans hx547_0;replace hx547_1:=(cell_far (p:=⟨gb546,0,none⟩) za53 (.int .i64 ((rd_T55 l1 (ji15)).f0))).trans hx547_1;replace hx547_0:=(cell_far (p:=⟨gb546,1,none⟩) za54 (.int .i64 ((rd_T55 l1 (ji15)).f1))).trans hx547_0;replace hx547_1:=(cell_far (p:=⟨gb546,1,none⟩) za54 (.int .i64 ((rd_T55 l1 (ji15)).f1))).trans hx547_1;(try have hy547_0:=fun (n_:Nat)=>(show ((((w30.drewN n_).setCell ⟨gb546,0,none⟩ (.int .i64 ((rd_T55 l1 (ji15)).f0))).setCell ⟨gb546,1,none⟩ (.int .i64 ((rd_T55 l1 (ji15)).f1)))).cell? _=some _ from hx547_0));(try have hy547_1:=fun (n_:Nat)=>(show ((((w30.drewN n_).setCell ⟨gb546,0,none⟩ (.int .i64 ((rd_T55 l1 (ji15)).f0))).setCell ⟨gb546,1,none⟩ (.int .i64 ((rd_T55 l1 (ji15)).f1)))).cell? _=some _ from hx547_1));clear hn547_0;clear hn547_1;replace p547:=eq_true p547;replace q547:=eq_true q547;have hcz33_0:w30.cell? ⟨gb544,0,none⟩=some (.slice A0_0 l0_0.length c0_0):=(blk_cell BK544.out 0).trans rfl;have hcz33_1:w30.cell? ⟨gb544,1,none⟩=some (.slice A0_1 l0_1.length c0_1):=(blk_cell BK544.out 1).trans rfl;have hcz33_2:w30.cell? ⟨gb544,2,none⟩=some (.slice A0_2 l0_2.length c0_2):=(blk_cell BK544.out 2).trans rfl;have hcz33_3:w30.cell? ⟨gb544,3,none⟩=some (.slice A0_3 l0_3.length c0_3):=(blk_cell BK544.out 3).trans rfl;have hcz33_4:w30.cell? ⟨gb544,4,none⟩=some (.slice A0_4 l0_4.length c0_4):=(blk_cell BK544.out 4).trans rfl;have hfz33_0:=blk_frozen BK544.out 0;have hfz33_1:=blk_frozen BK544.out 1;have hfz33_2:=blk_frozen BK544.out 2;have hfz33_3:=blk_frozen BK544.out 3;have hfz33_4:=blk_frozen BK544.out 4;have p548:0≤(x7_2:Int):=of_decide_eq_true za79;have q548:x7_2<(l0_1.length:Int):=of_decide_eq_true za79;obtain ⟨ad548,A548_0,c548_0,e548,hx548_0,hl548_0,hi548_0⟩:=at_L1 HR0_1.out x7_2 p548 q548;cases e548;have hn548_0:ad548.block≠gb546:=Nat.ne_of_lt (Nat.lt_of_lt_of_le za77 GW546.out);have hn548_1:ad548.block≠gb546:=Nat.ne_of_lt (Nat.lt_of_lt_of_le za77 GW546.out);replace hx548_0:=(HB.out.cell (World.block_lt_of_cell? w _ hx548_0)).trans hx548_0;have HR548_0:=Aside0.mk hi548_0;have HC548_0:=Aside0.mk hl548_0;clear hi548_0 hl548_0;replace hx548_0:=(cell_far (p:=⟨gb546,0,none⟩) za55 (.int .i64 ((rd_T55 l1 (ji15)).f0))).trans hx548_0;replace hx548_0:=(cell_far (p:=⟨gb546,1,none⟩) za56 (.int .i64 ((rd_T55 l1 (ji15)).f1))).trans hx548_0;(try have hy548_0:=fun (n_:Nat)=>(show ((((w30.drewN n_).setCell ⟨gb546,0,none⟩ (.int .i64 ((rd_T55 l1 (ji15)).f0))).setCell ⟨gb546,1,none⟩ (.int .i64 ((rd_T55 l1 (ji15)).f1)))).cell? _=some _ from hx548_0));clear hn548_0;clear hn548_1;replace p548:=eq_true p548;replace q548:=eq_true q548)|(go_at_call 38;(with_reducible refine (abugidaref16_has.calls k2 _ _ (rd_L1 l0_1 x7_2) ((rd_T55 l1 (ji15)).f0) false _ ?side1 ?side2 A22.out).mono ?_);(case side1=>exact Kd.C_below HR548_0.out za30);(case side2=>exact HC548_0.out);rintro e w' ⟨rfl,⟨nd,rfl⟩⟩;(try first|exact ⟨rfl,_,World.drewN_drewN _ _ _⟩|exact ⟨rfl,_,Eq.trans (World.drewN_drewN _ _ _) (congrArg (World.drewN _) (Nat.add_assoc _ _ _))⟩))))
              go_ret
              exact ⟨by first|rfl|(simp [errW_none,errW_some] <;> rfl)|(simp only [← hji15];first|rfl|(simp [errW_none,errW_some] <;> rfl))|(simp [*,errW_none,errW_some] <;> rfl),by repeat (first|(with_reducible first|exact HB.out|apply below_alloc|apply pw_below_drewN|apply below_drew1|refine below_set ?_ GE544.out|refine below_set ?_ GE546.out)|exact HB.out)⟩
            ·
             rw [if_neg c21] at H
             exact absurd H (by simp)
           ·
            rw [if_neg c20] at H
            have c20b0:(((rd_T55 l1 (ji15)).f1) == ((rd_T55 l1 a2).f1))=false:=beq_eq_false_iff_ne.mpr c20
            have c20b1:(((rd_T55 l1 (ji15)).f1) != ((rd_T55 l1 a2).f1))=true:=bne_iff_ne.mpr c20
            obtain rfl:=Option.some.inj H
            have hcz34_0:wr.cell? ⟨gb544,0,none⟩=some (.slice A0_0 l0_0.length c0_0):=(blk_cell BK544.out 0).trans rfl
            have hcz34_1:wr.cell? ⟨gb544,1,none⟩=some (.slice A0_1 l0_1.length c0_1):=(blk_cell BK544.out 1).trans rfl
            have hcz34_2:wr.cell? ⟨gb544,2,none⟩=some (.slice A0_2 l0_2.length c0_2):=(blk_cell BK544.out 2).trans rfl
            have hcz34_3:wr.cell? ⟨gb544,3,none⟩=some (.slice A0_3 l0_3.length c0_3):=(blk_cell BK544.out 3).trans rfl
            have hcz34_4:wr.cell? ⟨gb544,4,none⟩=some (.slice A0_4 l0_4.length c0_4):=(blk_cell BK544.out 4).trans rfl
            have hfz34_0:=blk_frozen BK544.out 0
            have hfz34_1:=blk_frozen BK544.out 1
            have hfz34_2:=blk_frozen BK544.out 2
            have hfz34_3:=blk_frozen BK544.out 3
            have hfz34_4:=blk_frozen BK544.out 4
            have p545:0≤((ji15):Int):=of_decide_eq_true za79
            have q545:(ji15)<(l1.length:Int):=of_decide_eq_true za79
            obtain ⟨ad545,e545,hx545_0,hx545_1⟩:=at_T55 HR1.out (ji15) p545 q545
            cases e545
            replace hx545_0:=(HB.out.cell (World.block_lt_of_cell? w _ hx545_0)).trans hx545_0
            replace hx545_1:=(HB.out.cell (World.block_lt_of_cell? w _ hx545_1)).trans hx545_1
            replace p545:=eq_true p545
            replace q545:=eq_true q545
            go_wp2_with (first|((with_reducible refine gate_dst (N:=8) rfl ?_);(try (refine gate_guard (by rfl) ?_;dsimp only));refine box_event ?hg (N:=8) ?hd (cs:=#[.int .i64 0,.int .i64 0]) (t:=55) ?hr ?_;(case hd=>rfl);(case hg=>rfl);(case hr=>first|(go_simp;done)|(go_simp;rfl));intro gb546 hg w35 hbox hb;have n0_:=Aside0.mk (blk_below (g:=gb544) (o:=.cells #[.slice A0_0 l0_0.length c0_0,.slice A0_1 l0_1.length c0_1,.slice A0_2 l0_2.length c0_2,.slice A0_3 l0_3.length c0_3,.slice A0_4 l0_4.length c0_4] 49 (0,0)) za47 hb);have n1_:=Aside0.mk (below_step za35 hb);have n2_:=Aside0.mk (hbox);have n3_:=Aside0.mk ((za25:w.heap.size≤gb546));have n4_:=Aside0.mk ((za25:w.heap.size≤gb546));have n5_:=Aside0.mk ((za2:gb544≠gb546));have n6_:=Aside0.mk ((za3:gb546≠gb544));clear BK544;clear HB;have BK544:=n0_;have HB:=n1_;have BK546:=n2_;have GW546:=n3_;have GE546:=n4_;have NB544_546:=n5_;have NB546_544:=n6_;clear n0_ n1_ n2_ n3_ n4_ n5_ n6_;clear hb hbox hg;have hnb36:=NB546_544.out;have hnc36:=NB544_546.out;have hcz37_0:w35.cell? ⟨gb546,0,none⟩=some (.int .i64 0):=(blk_cell BK546.out 0).trans rfl;have hcz37_1:w35.cell? ⟨gb546,1,none⟩=some (.int .i64 0):=(blk_cell BK546.out 1).trans rfl;have hfz37_0:=blk_frozen BK546.out 0;have hfz37_1:=blk_frozen BK546.out 1;have p547:0≤(a2:Int):=of_decide_eq_true za79;have q547:a2<(l1.length:Int):=of_decide_eq_true za79;obtain ⟨ad547,e547,hx547_0,hx547_1⟩:=at_T55 HR1.out a2 p547 q547;obtain rfl:ad545=ad547:=(by injection e547);have hn547_0:ad545.block≠gb546:=Nat.ne_of_lt (Nat.lt_of_lt_of_le za76 GW546.out);have hn547_1:ad545.block≠gb546:=Nat.ne_of_lt (Nat.lt_of_lt_of_le za76 GW546.out);replace hx547_0:=(HB.out.cell (World.block_lt_of_cell? w _ hx547_0)).trans hx547_0;replace hx547_1:=(HB.out.cell (World.block_lt_of_cell? w _ hx547_1)).trans hx547_1;replace hx547_0:=(cell_far (p:=⟨gb546,0,none⟩) za53 (.int .i64 ((rd_T55 l1 (ji15)).f0))).trans hx547_0;replace hx547_1:=(cell_far (p:=⟨gb546,0,none⟩) za53 (.int .i64 ((rd_T55 l1 (ji15)).f0))).trans hx547_1;replace hx547_0:=(cell_far (p:=⟨gb546,1,none⟩) za54 (.int .i64 ((rd_T55 l1 (ji15)).f1))).trans hx547_0;replace hx547_1:=(cell_far (p:=⟨gb546,1,none⟩) za54 (.int .i64 ((rd_T55 l1 (ji15)).f1))).trans hx547_1;(try have hy547_0:=fun (n_:Nat)=>(show ((((w35.drewN n_).setCell ⟨gb546,0,none⟩ (.int .i64 ((rd_T55 l1 (ji15)).f0))).setCell ⟨gb546,1,none⟩ (.int .i64 ((rd_T55 l1 (ji15)).f1)))).cell? _=some _ from hx547_0));(try have hy547_1:=fun (n_:Nat)=>(show ((((w35.drewN n_).setCell ⟨gb546,0,none⟩ (.int .i64 ((rd_T55 l1 (ji15)).f0))).setCell ⟨gb546,1,none⟩ (.int .i64 ((rd_T55 l1 (ji15)).f1)))).cell? _=some _ from hx547_1));clear hn547_0;clear hn547_1;replace p547:=eq_true p547;replace q547:=eq_true q547))
            repeat (go_quiet (first|((with_reducible refine gate_dst (N:=8) rfl ?_);(try (refine gate_guard (by rfl) ?_;dsimp only));refine box_event ?hg (N:=8) ?hd (cs:=#[.int .i64 0,.int .i64 0]) (t:=55) ?hr ?_;(case hd=>rfl);(case hg=>rfl);(case hr=>first|(go_simp;done)|(go_simp;rfl));intro gb546 hg w35 hbox hb;have n0_:=Aside0.mk (blk_below (g:=gb544) (o:=.cells #[.slice A0_0 l0_0.length c0_0,.slice A0_1 l0_1.length c0_1,.slice A0_2 l0_2.length c0_2,.slice A0_3 l0_3.length c0_3,.slice A0_4 l0_4.length c0_4] 49 (0,0)) za47 hb);have n1_:=Aside0.mk (below_step za35 hb);have n2_:=Aside0.mk (hbox);have n3_:=Aside0.mk ((za25:w.heap.size≤gb546));have n4_:=Aside0.mk ((za25:w.heap.size≤gb546));have n5_:=Aside0.mk ((za2:gb544≠gb546));have n6_:=Aside0.mk ((za3:gb546≠gb544));clear BK544;clear HB;have BK544:=n0_;have HB:=n1_;have BK546:=n2_;have GW546:=n3_;have GE546:=n4_;have NB544_546:=n5_;have NB546_544:=n6_;clear n0_ n1_ n2_ n3_ n4_ n5_ n6_;clear hb hbox hg;have hnb36:=NB546_544.out;have hnc36:=NB544_546.out;have hcz37_0:w35.cell? ⟨gb546,0,none⟩=some (.int .i64 0):=(blk_cell BK546.out 0).trans rfl;have hcz37_1:w35.cell? ⟨gb546,1,none⟩=some (.int .i64 0):=(blk_cell BK546.out 1).trans rfl;have hfz37_0:=blk_frozen BK546.out 0;have hfz37_1:=blk_frozen BK546.out 1;have p547:0≤(a2:Int):=of_decide_eq_true za79;have q547:a2<(l1.length:Int):=of_decide_eq_true za79;obtain ⟨ad547,e547,hx547_0,hx547_1⟩:=at_T55 HR1.out a2 p547 q547;obtain rfl:ad545=ad547:=(by injection e547);have hn547_0:ad545.block≠gb546:=Nat.ne_of_lt (Nat.lt_of_lt_of_le za76 GW546.out);have hn547_1:ad545.block≠gb546:=Nat.ne_of_lt (Nat.lt_of_lt_of_le za76 GW546.out);replace hx547_0:=(HB.out.cell (World.block_lt_of_cell? w _ hx547_0)).trans hx547_0;replace hx547_1:=(HB.out.cell (World.block_lt_of_cell? w _ hx547_1)).trans hx547_1;replace hx547_0:=(cell_far (p:=⟨gb546,0,none⟩) za53 (.int .i64 ((rd_T55 l1 (ji15)).f0))).trans hx547_0;replace hx547_1:=(cell_far (p:=⟨gb546,0,none⟩) za53 (.int .i64 ((rd_T55 l1 (ji15)).f0))).trans hx547_1;replace hx547_0:=(cell_far (p:=⟨gb546,1,none⟩) za54 (.int .i64 ((rd_T55 l1 (ji15)).f1))).trans hx547_0;replace hx547_1:=(cell_far (p:=⟨gb546,1,none⟩) za54 (.int .i64 ((rd_T55 l1 (ji15)).f1))).trans hx547_1;(try have hy547_0:=fun (n_:Nat)=>(show ((((w35.drewN n_).setCell ⟨gb546,0,none⟩ (.int .i64 ((rd_T55 l1 (ji15)).f0))).setCell ⟨gb546,1,none⟩ (.int .i64 ((rd_T55 l1 (ji15)).f1)))).cell? _=some _ from hx547_0));(try have hy547_1:=fun (n_:Nat)=>(show ((((w35.drewN n_).setCell ⟨gb546,0,none⟩ (.int .i64 ((rd_T55 l1 (ji15)).f0))).setCell ⟨gb546,1,none⟩ (.int .i64 ((rd_T55 l1 (ji15)).f1)))).cell? _=some _ from hx547_1));clear hn547_0;clear hn547_1;replace p547:=eq_true p547;replace q547:=eq_true q547));try go_wp2_with (first|((with_reducible refine gate_dst (N:=8) rfl ?_);(try (refine gate_guard (by rfl) ?_;dsimp only));refine box_event ?hg (N:=8) ?hd (cs:=#[.int .i64 0,.int .i64 0]) (t:=55) ?hr ?_;(case hd=>rfl);(case hg=>rfl);(case hr=>first|(go_simp;done)|(go_simp;rfl));intro gb546 hg w35 hbox hb;have n0_:=Aside0.mk (blk_below (g:=gb544) (o:=.cells #[.slice A0_0 l0_0.length c0_0,.slice A0_1 l0_1.length c0_1,.slice A0_2 l0_2.length c0_2,.slice A0_3 l0_3.length c0_3,.slice A0_4 l0_4.length c0_4] 49 (0,0)) za47 hb);have n1_:=Aside0.mk (below_step za35 hb);have n2_:=Aside0.mk (hbox);have n3_:=Aside0.mk ((za25:w.heap.size≤gb546));have n4_:=Aside0.mk ((za25:w.heap.size≤gb546));have n5_:=Aside0.mk ((za2:gb544≠gb546));have n6_:=Aside0.mk ((za3:gb546≠gb544));clear BK544;clear HB;have BK544:=n0_;have HB:=n1_;have BK546:=n2_;have GW546:=n3_;have GE546:=n4_;have NB544_546:=n5_;have NB546_544:=n6_;clear n0_ n1_ n2_ n3_ n4_ n5_ n6_;clear hb hbox hg;have hnb36:=NB546_544.out;have hnc36:=NB544_546.out;have hcz37_0:w35.cell? ⟨gb546,0,none⟩=some (.int .i64 0):=(blk_cell BK546.out 0).trans rfl;have hcz37_1:w35.cell? ⟨gb546,1,none⟩=some (.int .i64 0):=(blk_cell BK546.out 1).trans rfl;have hfz37_0:=blk_frozen BK546.out 0;have hfz37_1:=blk_frozen BK546.out 1;have p547:0≤(a2:Int):=of_decide_eq_true za79;have q547:a2<(l1.length:Int):=of_decide_eq_true za79;obtain ⟨ad547,e547,hx547_0,hx547_1⟩:=at_T55 HR1.out a2 p547 q547;obtain rfl:ad545=ad547:=(by injection e547);have hn547_0:ad545.block≠gb546:=Nat.ne_of_lt (Nat.lt_of_lt_of_le za76 GW546.out);have hn547_1:ad545.block≠gb546:=Nat.ne_of_lt (Nat.lt_of_lt_of_le za76 GW546.out);replace hx547_0:=(HB.out.cell (World.block_lt_of_cell? w _ hx547_0)).trans hx547_0;replace hx547_1:=(HB.out.cell (World.block_lt_of_cell? w _ hx547_1)).trans hx547_1;replace hx547_0:=(cell_far (p:=⟨gb546,0,none⟩) za53 (.int .i64 ((rd_T55 l1 (ji15)).f0))).trans hx547_0;replace hx547_1:=(cell_far (p:=⟨gb546,0,none⟩) za53 (.int .i64 ((rd_T55 l1 (ji15)).f0))).trans hx547_1;replace hx547_0:=(cell_far (p:=⟨gb546,1,none⟩) za54 (.int .i64 ((rd_T55 l1 (ji15)).f1))).trans hx547_0;replace hx547_1:=(cell_far (p:=⟨gb546,1,none⟩) za54 (.int .i64 ((rd_T55 l1 (ji15)).f1))).trans hx547_1;(try have hy547_0:=fun (n_:Nat)=>(show ((((w35.drewN n_).setCell ⟨gb546,0,none⟩ (.int .i64 ((rd_T55 l1 (ji15)).f0))).setCell ⟨gb546,1,none⟩ (.int .i64 ((rd_T55 l1 (ji15)).f1)))).cell? _=some _ from hx547_0));(try have hy547_1:=fun (n_:Nat)=>(show ((((w35.drewN n_).setCell ⟨gb546,0,none⟩ (.int .i64 ((rd_T55 l1 (ji15)).f0))).setCell ⟨gb546,1,none⟩ (.int .i64 ((rd_T55 l1 (ji15)).f1)))).cell? _=some _ from hx547_1));clear hn547_0;clear hn547_1;replace p547:=eq_true p547;replace q547:=eq_true q547)))
            go_ret
            exact ⟨by first|rfl|(simp [errW_none,errW_some] <;> rfl)|(simp only [← hji15];first|rfl|(simp [errW_none,errW_some] <;> rfl))|(simp [*,errW_none,errW_some] <;> rfl),by repeat (first|(with_reducible first|exact HB.out|apply below_alloc|apply pw_below_drewN|apply below_drew1|refine below_set ?_ GE544.out|refine below_set ?_ GE546.out)|exact HB.out)⟩
          ·
           rw [if_neg c19] at H
           exact absurd H (by simp)
         ·
          rw [if_neg c18] at H
          exact absurd H (by simp)
        ·
         rw [if_neg c17] at H
         exact absurd H (by simp)
       ·
        rw [if_neg c16] at H
        exact absurd H (by simp)
      ·
       rw [if_neg c14] at H
       have c14b0:decide (x7_2<(l0_1.length:Int))=false:=decide_eq_false c14
       clear c14
       have H':=Aside0.mk H
       clear H
       have hcz38_0:wr.cell? ⟨gb544,0,none⟩=some (.slice A0_0 l0_0.length c0_0):=(blk_cell BK544.out 0).trans rfl
       have hcz38_1:wr.cell? ⟨gb544,1,none⟩=some (.slice A0_1 l0_1.length c0_1):=(blk_cell BK544.out 1).trans rfl
       have hcz38_2:wr.cell? ⟨gb544,2,none⟩=some (.slice A0_2 l0_2.length c0_2):=(blk_cell BK544.out 2).trans rfl
       have hcz38_3:wr.cell? ⟨gb544,3,none⟩=some (.slice A0_3 l0_3.length c0_3):=(blk_cell BK544.out 3).trans rfl
       have hcz38_4:wr.cell? ⟨gb544,4,none⟩=some (.slice A0_4 l0_4.length c0_4):=(blk_cell BK544.out 4).trans rfl
       have hfz38_0:=blk_frozen BK544.out 0
       have hfz38_1:=blk_frozen BK544.out 1
       have hfz38_2:=blk_frozen BK544.out 2
       have hfz38_3:=blk_frozen BK544.out 3
       have hfz38_4:=blk_frozen BK544.out 4
       go_wp2
       repeat (go_quiet (fail);try go_wp2)
       go_loopg [9] k2 (fun kq v9 w'=>∃ (x9_3:Int),v9=.int .i64 x9_3∧Aside0 (abugidaref16_Match.l1 kq l1 a2 x9_3 l0_0 l0_1 l0_2 l0_3 l0_4=some r)∧Aside0 (kq≤k2)∧Aside0 (w'.heap[gb544]?=some (.cells #[(.slice A0_0 l0_0.length c0_0),(.slice A0_1 l0_1.length c0_1),(.slice A0_2 l0_2.length c0_2),(.slice A0_3 l0_3.length c0_3),(.slice A0_4 l0_4.length c0_4)] 49 (0,0)))∧Aside0 (Below w.heap.size w w'))
       case atStart=>exact ⟨(0),za82,H',⟨Nat.le_refl _⟩,⟨by (with_reducible repeat (first|refine blk_drewN ?_ _|refine blk_drew ?_|refine blk_alloc ?_ _));exact BK544.out⟩,⟨by repeat (first|(with_reducible first|exact HB.out|apply below_alloc|apply pw_below_drewN|apply below_drew1|refine below_set ?_ GE544.out)|exact HB.out)⟩⟩
       case round =>
        clear H'
        try clear c1
        try clear c2
        try clear p2
        try clear c3
        try clear c5
        try clear p5
        try clear q5
        try clear hx5
        try clear c6
        try clear c6b0
        try clear p6
        try clear c7
        try clear c7b0
        try clear c8
        try clear c8b0
        try clear c8b1
        try clear c8b2
        try clear c10
        try clear c10b0
        try clear c13
        try clear c14
        try clear c14b0
        try clear c16
        try clear c16b0
        try clear c17
        try clear c17b0
        try clear c18
        try clear c18b0
        try clear c19
        try clear c19b0
        try clear c20
        try clear c20b0
        try clear c20b1
        try clear c21
        try clear c21b0
        try clear c22
        try clear c23
        try clear c26
        try clear c31
        try clear c36
        try clear hcz11_0
        try clear hcz11_1
        try clear hcz11_2
        try clear hcz11_3
        try clear hcz11_4
        try clear hcz12_0
        try clear hcz12_1
        try clear hcz12_2
        try clear hcz12_3
        try clear hcz12_4
        try clear hcz24_0
        try clear hcz24_1
        try clear hcz24_2
        try clear hcz24_3
        try clear hcz24_4
        try clear hcz27_0
        try clear hcz27_1
        try clear hcz28_0
        try clear hcz28_1
        try clear hcz28_2
        try clear hcz28_3
        try clear hcz28_4
        try clear hcz29_0
        try clear hcz29_1
        try clear hcz29_2
        try clear hcz29_3
        try clear hcz29_4
        try clear hcz32_0
        try clear hcz32_1
        try clear hcz33_0
        try clear hcz33_1
        try clear hcz33_2
        try clear hcz33_3
        try clear hcz33_4
        try clear hcz34_0
        try clear hcz34_1
        try clear hcz34_2
        try clear hcz34_3
        try clear hcz34_4
        try clear hcz37_0
        try clear hcz37_1
        try clear hcz38_0
        try clear hcz38_1
        try clear hcz38_2
        try clear hcz38_3
        try clear hcz38_4
        try clear hcz9_0
        try clear hcz9_1
        try clear hcz9_2
        try clear hcz9_3
        try clear hcz9_4
        try clear hfz11_0
        try clear hfz11_1
        try clear hfz11_2
        try clear hfz11_3
        try clear hfz11_4
        try clear hfz12_0
        try clear hfz12_1
        try clear hfz12_2
        try clear hfz12_3
        try clear hfz12_4
        try clear hfz24_0
        try clear hfz24_1
        try clear hfz24_2
        try clear hfz24_3
        try clear hfz24_4
        try clear hfz27_0
        try clear hfz27_1
        try clear hfz28_0
        try clear hfz28_1
        try clear hfz28_2
        try clear hfz28_3
        try clear hfz28_4
        try clear hfz29_0
        try clear hfz29_1
        try clear hfz29_2
        try clear hfz29_3
        try clear hfz29_4
        try clear hfz32_0
        try clear hfz32_1
        try clear hfz33_0
        try clear hfz33_1
        try clear hfz33_2
        try clear hfz33_3
        try clear hfz33_4
        try clear hfz34_0
        try clear hfz34_1
        try clear hfz34_2
        try clear hfz34_3
        try clear hfz34_4
        try clear hfz37_0
        try clear hfz37_1
        try clear hfz38_0
        try clear hfz38_1
        try clear hfz38_2
        try clear hfz38_3
        try clear hfz38_4
        try clear hfz9_0
        try clear hfz9_1
        try clear hfz9_2
        try clear hfz9_3
        try clear hfz9_4
        try clear hx545_0
        try clear hx545_1
        try clear hx547_0
        try clear hx547_1
        try clear hx548_0
        try clear p2
        try clear p545
        try clear p547
        try clear p548
        try clear p6
        try clear q545
        try clear q547
        try clear q548
        obtain ⟨x9_3,rfl,HA,HK3,BK544,HB⟩:=hrel
        cases gk with
        | zero=>exact absurd HA.out (by simp [abugidaref16_Match.l1])
        | succ k3 =>
         have H:=HA.out
         clear HA
         simp only [abugidaref16_Match.l1] at H
         by_cases c39:x9_3<(l0_0.length:Int)
         ·
          rw [if_pos c39] at H
          have c39b0:decide (x9_3<(l0_0.length:Int))=true:=decide_eq_true c39
          clear c39
          by_cases c40:0≤x9_3
          ·
           rw [if_pos c40] at H
           have c40b0:decide (0≤x9_3)=true:=decide_eq_true c40
           clear c40
           obtain ⟨ji41,hji41⟩:∃ j_:Int,(wrap64 ((wrap64 (a2 - 1)) - x9_3))=j_:=⟨_,rfl⟩
           replace H:(if 0≤(ji41) then (if (ji41)<(l1.length:Int) then ((abugidaref16_has.f k3 (rd_L1 l0_0 x9_3) ((rd_T55 l1 (ji41)).f0)).bind fun t552=>(if t552=true then (abugidaref16_Match.l1 k3 l1 a2 (wrap64 (x9_3 + 1)) l0_0 l0_1 l0_2 l0_3 l0_4) else (some false))) else (none)) else (none))=some r:=by first|(rw [hji41] at H;exact H)|(simp only [hji41] at H ⊢;exact H)
           have hji41w:(IntKind.i64.wrap ((wrap64 (a2 - 1)) - x9_3))=ji41:=(i64_w _).trans hji41
           by_cases c42:0≤(ji41)
           ·
            rw [if_pos c42] at H
            have c42b0:decide (0≤(ji41))=true:=decide_eq_true c42
            clear c42
            by_cases c43:(ji41)<(l1.length:Int)
            ·
             rw [if_pos c43] at H
             have c43b0:decide ((ji41)<(l1.length:Int))=true:=decide_eq_true c43
             clear c43
             replace H:=Option.bind_eq_some_iff.mp H
             obtain ⟨t552,A440,H⟩:=H
             replace H:(if t552=true then (abugidaref16_Match.l1 k3 l1 a2 (wrap64 (x9_3 + 1)) l0_0 l0_1 l0_2 l0_3 l0_4) else (some false))=some r:=H
             have A44:=Aside0.mk A440
             clear A440
             by_cases c45:t552=true
             ·
              subst c45
              have H1:(abugidaref16_Match.l1 k3 l1 a2 (wrap64 (x9_3 + 1)) l0_0 l0_1 l0_2 l0_3 l0_4)=some r:=by rw [if_pos rfl] at H;exact H
              clear H
              have H:=H1
              clear H1
              have H':=Aside0.mk H
              clear H
              have hcz46_0:wr.cell? ⟨gb544,0,none⟩=some (.slice A0_0 l0_0.length c0_0):=(blk_cell BK544.out 0).trans rfl
              have hcz46_1:wr.cell? ⟨gb544,1,none⟩=some (.slice A0_1 l0_1.length c0_1):=(blk_cell BK544.out 1).trans rfl
              have hcz46_2:wr.cell? ⟨gb544,2,none⟩=some (.slice A0_2 l0_2.length c0_2):=(blk_cell BK544.out 2).trans rfl
              have hcz46_3:wr.cell? ⟨gb544,3,none⟩=some (.slice A0_3 l0_3.length c0_3):=(blk_cell BK544.out 3).trans rfl
              have hcz46_4:wr.cell? ⟨gb544,4,none⟩=some (.slice A0_4 l0_4.length c0_4):=(blk_cell BK544.out 4).trans rfl
              have hfz46_0:=blk_frozen BK544.out 0
              have hfz46_1:=blk_frozen BK544.out 1
              have hfz46_2:=blk_frozen BK544.out 2
              have hfz46_3:=blk_frozen BK544.out 3
              have hfz46_4:=blk_frozen BK544.out 4
              have p550:0≤(x9_3:Int):=of_decide_eq_true za79
              have q550:x9_3<(l0_0.length:Int):=of_decide_eq_true za79
              obtain ⟨ad550,A550_0,c550_0,e550,hx550_0,hl550_0,hi550_0⟩:=at_L1 HR0_0.out x9_3 p550 q550
              cases e550
              replace hx550_0:=(HB.out.cell (World.block_lt_of_cell? w _ hx550_0)).trans hx550_0
              have HR550_0:=Aside0.mk hi550_0
              have HC550_0:=Aside0.mk hl550_0
              clear hi550_0 hl550_0
              replace p550:=eq_true p550
              replace q550:=eq_true q550
              have p551:0≤((ji41):Int):=of_decide_eq_true za79
              have q551:(ji41)<(l1.length:Int):=of_decide_eq_true za79
              obtain ⟨ad551,e551,hx551_0,hx551_1⟩:=at_T55 HR1.out (ji41) p551 q551
              cases e551
              replace hx551_0:=(HB.out.cell (World.block_lt_of_cell? w _ hx551_0)).trans hx551_0
              replace hx551_1:=(HB.out.cell (World.block_lt_of_cell? w _ hx551_1)).trans hx551_1
              replace p551:=eq_true p551
              replace q551:=eq_true q551
              go_wp2_with (first|(go_at_call 38;(with_reducible refine (abugidaref16_has.calls k3 _ _ (rd_L1 l0_0 x9_3) ((rd_T55 l1 (ji41)).f0) true _ ?side1 ?side2 A44.out).mono ?_);(case side1=>repeat (first|exact (Kd.C_below HR550_0.out HB.out)|(with_reducible refine Kd.C_alloc ?_ _)|(with_reducible refine Kd.C_drewN ?_ _)|(with_reducible refine Kd.C_drew ?_)));(case side2=>exact HC550_0.out);rintro e w' ⟨rfl,⟨nd,rfl⟩⟩;(try first|exact ⟨rfl,_,World.drewN_drewN _ _ _⟩|exact ⟨rfl,_,Eq.trans (World.drewN_drewN _ _ _) (congrArg (World.drewN _) (Nat.add_assoc _ _ _))⟩)))
              repeat (go_quiet (first|(go_at_call 38;(with_reducible refine (abugidaref16_has.calls k3 _ _ (rd_L1 l0_0 x9_3) ((rd_T55 l1 (ji41)).f0) true _ ?side1 ?side2 A44.out).mono ?_);(case side1=>repeat (first|exact (Kd.C_below HR550_0.out HB.out)|(with_reducible refine Kd.C_alloc ?_ _)|(with_reducible refine Kd.C_drewN ?_ _)|(with_reducible refine Kd.C_drew ?_)));(case side2=>exact HC550_0.out);rintro e w' ⟨rfl,⟨nd,rfl⟩⟩;(try first|exact ⟨rfl,_,World.drewN_drewN _ _ _⟩|exact ⟨rfl,_,Eq.trans (World.drewN_drewN _ _ _) (congrArg (World.drewN _) (Nat.add_assoc _ _ _))⟩)));try go_wp2_with (first|(go_at_call 38;(with_reducible refine (abugidaref16_has.calls k3 _ _ (rd_L1 l0_0 x9_3) ((rd_T55 l1 (ji41)).f0) true _ ?side1 ?side2 A44.out).mono ?_);(case side1=>repeat (first|exact (Kd.C_below HR550_0.out HB.out)|(with_reducible refine Kd.C_alloc ?_ _)|(with_reducible refine Kd.C_drewN ?_ _)|(with_reducible refine Kd.C_drew ?_)));(case side2=>exact HC550_0.out);rintro e w' ⟨rfl,⟨nd,rfl⟩⟩;(try first|exact ⟨rfl,_,World.drewN_drewN _ _ _⟩|exact ⟨rfl,_,Eq.trans (World.drewN_drewN _ _ _) (congrArg (World.drewN _) (Nat.add_assoc _ _ _))⟩))))
              go_roundg k3
              case measure=>have:=HJ3.out;have:=HK2.out;have:=HK3.out;omega
              case rel=>exact ⟨(wrap64 (x9_3 + 1)),za82,H',⟨by have:=HJ3.out;have:=HK2.out;have:=HK3.out;omega⟩,⟨by (with_reducible repeat (first|refine blk_drewN ?_ _|refine blk_drew ?_|refine blk_alloc ?_ _));exact BK544.out⟩,⟨by repeat (first|(with_reducible first|exact HB.out|apply below_alloc|apply pw_below_drewN|apply below_drew1|refine below_set ?_ GE544.out)|exact HB.out)⟩⟩
             ·
              replace c45:=Bool.eq_false_iff.mpr c45
              subst c45
              have H1:(some false)=some r:=by rw [if_neg (show ¬ (false=true) by decide)] at H;exact H
              clear H
              have H:=H1
              clear H1
              obtain rfl:=Option.some.inj H
              have hcz47_0:wr.cell? ⟨gb544,0,none⟩=some (.slice A0_0 l0_0.length c0_0):=(blk_cell BK544.out 0).trans rfl
              have hcz47_1:wr.cell? ⟨gb544,1,none⟩=some (.slice A0_1 l0_1.length c0_1):=(blk_cell BK544.out 1).trans rfl
              have hcz47_2:wr.cell? ⟨gb544,2,none⟩=some (.slice A0_2 l0_2.length c0_2):=(blk_cell BK544.out 2).trans rfl
              have hcz47_3:wr.cell? ⟨gb544,3,none⟩=some (.slice A0_3 l0_3.length c0_3):=(blk_cell BK544.out 3).trans rfl
              have hcz47_4:wr.cell? ⟨gb544,4,none⟩=some (.slice A0_4 l0_4.length c0_4):=(blk_cell BK544.out 4).trans rfl
              have hfz47_0:=blk_frozen BK544.out 0
              have hfz47_1:=blk_frozen BK544.out 1
              have hfz47_2:=blk_frozen BK544.out 2
              have hfz47_3:=blk_frozen BK544.out 3
              have hfz47_4:=blk_frozen BK544.out 4
              have p550:0≤(x9_3:Int):=of_decide_eq_true za79
              have q550:x9_3<(l0_0.length:Int):=of_decide_eq_true za79
              obtain ⟨ad550,A550_0,c550_0,e550,hx550_0,hl550_0,hi550_0⟩:=at_L1 HR0_0.out x9_3 p550 q550
              cases e550
              replace hx550_0:=(HB.out.cell (World.block_lt_of_cell? w _ hx550_0)).trans hx550_0
              have HR550_0:=Aside0.mk hi550_0
              have HC550_0:=Aside0.mk hl550_0
              clear hi550_0 hl550_0
              replace p550:=eq_true p550
              replace q550:=eq_true q550
              have p551:0≤((ji41):Int):=of_decide_eq_true za79
              have q551:(ji41)<(l1.length:Int):=of_decide_eq_true za79
              obtain ⟨ad551,e551,hx551_0,hx551_1⟩:=at_T55 HR1.out (ji41) p551 q551
              cases e551
              replace hx551_0:=(HB.out.cell (World.block_lt_of_cell? w _ hx551_0)).trans hx551_0
              replace hx551_1:=(HB.out.cell (World.block_lt_of_cell? w _ hx551_1)).trans hx551_1
              replace p551:=eq_true p551
              replace q551:=eq_true q551
              go_wp2_with (first|(go_at_call 38;(with_reducible refine (abugidaref16_has.calls k3 _ _ (rd_L1 l0_0 x9_3) ((rd_T55 l1 (ji41)).f0) false _ ?side1 ?side2 A44.out).mono ?_);(case side1=>repeat (first|exact (Kd.C_below HR550_0.out HB.out)|(with_reducible refine Kd.C_alloc ?_ _)|(with_reducible refine Kd.C_drewN ?_ _)|(with_reducible refine Kd.C_drew ?_)));(case side2=>exact HC550_0.out);rintro e w' ⟨rfl,⟨nd,rfl⟩⟩;(try first|exact ⟨rfl,_,World.drewN_drewN _ _ _⟩|exact ⟨rfl,_,Eq.trans (World.drewN_drewN _ _ _) (congrArg (World.drewN _) (Nat.add_assoc _ _ _))⟩)))
              repeat (go_quiet (first|(go_at_call 38;(with_reducible refine (abugidaref16_has.calls k3 _ _ (rd_L1 l0_0 x9_3) ((rd_T55 l1 (ji41)).f0) false _ ?side1 ?side2 A44.out).mono ?_);(case side1=>repeat (first|exact (Kd.C_below HR550_0.out HB.out)|(with_reducible refine Kd.C_alloc ?_ _)|(with_reducible refine Kd.C_drewN ?_ _)|(with_reducible refine Kd.C_drew ?_)));(case side2=>exact HC550_0.out);rintro e w' ⟨rfl,⟨nd,rfl⟩⟩;(try first|exact ⟨rfl,_,World.drewN_drewN _ _ _⟩|exact ⟨rfl,_,Eq.trans (World.drewN_drewN _ _ _) (congrArg (World.drewN _) (Nat.add_assoc _ _ _))⟩)));try go_wp2_with (first|(go_at_call 38;(with_reducible refine (abugidaref16_has.calls k3 _ _ (rd_L1 l0_0 x9_3) ((rd_T55 l1 (ji41)).f0) false _ ?side1 ?side2 A44.out).mono ?_);(case side1=>repeat (first|exact (Kd.C_below HR550_0.out HB.out)|(with_reducible refine Kd.C_alloc ?_ _)|(with_reducible refine Kd.C_drewN ?_ _)|(with_reducible refine Kd.C_drew ?_)));(case side2=>exact HC550_0.out);rintro e w' ⟨rfl,⟨nd,rfl⟩⟩;(try first|exact ⟨rfl,_,World.drewN_drewN _ _ _⟩|exact ⟨rfl,_,Eq.trans (World.drewN_drewN _ _ _) (congrArg (World.drewN _) (Nat.add_assoc _ _ _))⟩))))
              go_ret
              exact ⟨by first|rfl|(simp [errW_none,errW_some] <;> rfl)|(simp only [← hji41];first|rfl|(simp [errW_none,errW_some] <;> rfl))|(simp [*,errW_none,errW_some] <;> rfl),by repeat (first|(with_reducible first|exact HB.out|apply below_alloc|apply pw_below_drewN|apply below_drew1|refine below_set ?_ GE544.out)|exact HB.out)⟩
            ·
             rw [if_neg c43] at H
             exact absurd H (by simp)
           ·
            rw [if_neg c42] at H
            exact absurd H (by simp)
          ·
           rw [if_neg c40] at H
           exact absurd H (by simp)
         ·
          rw [if_neg c39] at H
          have c39b0:decide (x9_3<(l0_0.length:Int))=false:=decide_eq_false c39
          clear c39
          have H':=Aside0.mk H
          clear H
          have hcz48_0:wr.cell? ⟨gb544,0,none⟩=some (.slice A0_0 l0_0.length c0_0):=(blk_cell BK544.out 0).trans rfl
          have hcz48_1:wr.cell? ⟨gb544,1,none⟩=some (.slice A0_1 l0_1.length c0_1):=(blk_cell BK544.out 1).trans rfl
          have hcz48_2:wr.cell? ⟨gb544,2,none⟩=some (.slice A0_2 l0_2.length c0_2):=(blk_cell BK544.out 2).trans rfl
          have hcz48_3:wr.cell? ⟨gb544,3,none⟩=some (.slice A0_3 l0_3.length c0_3):=(blk_cell BK544.out 3).trans rfl
          have hcz48_4:wr.cell? ⟨gb544,4,none⟩=some (.slice A0_4 l0_4.length c0_4):=(blk_cell BK544.out 4).trans rfl
          have hfz48_0:=blk_frozen BK544.out 0
          have hfz48_1:=blk_frozen BK544.out 1
          have hfz48_2:=blk_frozen BK544.out 2
          have hfz48_3:=blk_frozen BK544.out 3
          have hfz48_4:=blk_frozen BK544.out 4
          go_wp2
          repeat (go_quiet (fail);try go_wp2)
          go_loopg [10] k3 (fun kq v10 w'=>∃ (x10_4:Int),v10=.int .i64 x10_4∧Aside0 (abugidaref16_Match.l2 kq l1 a2 x10_4 l0_0 l0_1 l0_2 l0_3 l0_4=some r)∧Aside0 (kq≤k3)∧Aside0 (w'.heap[gb544]?=some (.cells #[(.slice A0_0 l0_0.length c0_0),(.slice A0_1 l0_1.length c0_1),(.slice A0_2 l0_2.length c0_2),(.slice A0_3 l0_3.length c0_3),(.slice A0_4 l0_4.length c0_4)] 49 (0,0)))∧Aside0 (Below w.heap.size w w'))
          case atStart=>exact ⟨(0),za82,H',⟨Nat.le_refl _⟩,⟨by (with_reducible repeat (first|refine blk_drewN ?_ _|refine blk_drew ?_|refine blk_alloc ?_ _));exact BK544.out⟩,⟨by repeat (first|(with_reducible first|exact HB.out|apply below_alloc|apply pw_below_drewN|apply below_drew1|refine below_set ?_ GE544.out)|exact HB.out)⟩⟩
          case round =>
           clear H'
           try clear c1
           try clear c2
           try clear p2
           try clear c3
           try clear c4
           try clear c5
           try clear p5
           try clear q5
           try clear hx5
           try clear c6
           try clear c6b0
           try clear p6
           try clear c7
           try clear c7b0
           try clear c8
           try clear c8b0
           try clear c8b1
           try clear c8b2
           try clear c10
           try clear c10b0
           try clear c13
           try clear c14
           try clear c14b0
           try clear c16
           try clear c16b0
           try clear c17
           try clear c17b0
           try clear c18
           try clear c18b0
           try clear c19
           try clear c19b0
           try clear c20
           try clear c20b0
           try clear c20b1
           try clear c21
           try clear c21b0
           try clear c22
           try clear c23
           try clear c26
           try clear c31
           try clear c36
           try clear c39
           try clear c39b0
           try clear c40
           try clear c40b0
           try clear c42
           try clear c42b0
           try clear c43
           try clear c43b0
           try clear c45
           try clear hcz11_0
           try clear hcz11_1
           try clear hcz11_2
           try clear hcz11_3
           try clear hcz11_4
           try clear hcz12_0
           try clear hcz12_1
           try clear hcz12_2
           try clear hcz12_3
           try clear hcz12_4
           try clear hcz24_0
           try clear hcz24_1
           try clear hcz24_2
           try clear hcz24_3
           try clear hcz24_4
           try clear hcz27_0
           try clear hcz27_1
           try clear hcz28_0
           try clear hcz28_1
           try clear hcz28_2
           try clear hcz28_3
           try clear hcz28_4
           try clear hcz29_0
           try clear hcz29_1
           try clear hcz29_2
           try clear hcz29_3
           try clear hcz29_4
           try clear hcz32_0
           try clear hcz32_1
           try clear hcz33_0
           try clear hcz33_1
           try clear hcz33_2
           try clear hcz33_3
           try clear hcz33_4
           try clear hcz34_0
           try clear hcz34_1
           try clear hcz34_2
           try clear hcz34_3
           try clear hcz34_4
           try clear hcz37_0
           try clear hcz37_1
           try clear hcz38_0
           try clear hcz38_1
           try clear hcz38_2
           try clear hcz38_3
           try clear hcz38_4
           try clear hcz46_0
           try clear hcz46_1
           try clear hcz46_2
           try clear hcz46_3
           try clear hcz46_4
           try clear hcz47_0
           try clear hcz47_1
           try clear hcz47_2
           try clear hcz47_3
           try clear hcz47_4
           try clear hcz48_0
           try clear hcz48_1
           try clear hcz48_2
           try clear hcz48_3
           try clear hcz48_4
           try clear hcz9_0
           try clear hcz9_1
           try clear hcz9_2
           try clear hcz9_3
           try clear hcz9_4
           try clear hfz11_0
           try clear hfz11_1
           try clear hfz11_2
           try clear hfz11_3
           try clear hfz11_4
           try clear hfz12_0
           try clear hfz12_1
           try clear hfz12_2
           try clear hfz12_3
           try clear hfz12_4
           try clear hfz24_0
           try clear hfz24_1
           try clear hfz24_2
           try clear hfz24_3
           try clear hfz24_4
           try clear hfz27_0
           try clear hfz27_1
           try clear hfz28_0
           try clear hfz28_1
           try clear hfz28_2
           try clear hfz28_3
           try clear hfz28_4
           try clear hfz29_0
           try clear hfz29_1
           try clear hfz29_2
           try clear hfz29_3
           try clear hfz29_4
           try clear hfz32_0
           try clear hfz32_1
           try clear hfz33_0
           try clear hfz33_1
           try clear hfz33_2
           try clear hfz33_3
           try clear hfz33_4
           try clear hfz34_0
           try clear hfz34_1
           try clear hfz34_2
           try clear hfz34_3
           try clear hfz34_4
           try clear hfz37_0
           try clear hfz37_1
           try clear hfz38_0
           try clear hfz38_1
           try clear hfz38_2
           try clear hfz38_3
           try clear hfz38_4
           try clear hfz46_0
           try clear hfz46_1
           try clear hfz46_2
           try clear hfz46_3
           try clear hfz46_4
           try clear hfz47_0
           try clear hfz47_1
           try clear hfz47_2
           try clear hfz47_3
           try clear hfz47_4
           try clear hfz48_0
           try clear hfz48_1
           try clear hfz48_2
           try clear hfz48_3
           try clear hfz48_4
           try clear hfz9_0
           try clear hfz9_1
           try clear hfz9_2
           try clear hfz9_3
           try clear hfz9_4
           try clear hx545_0
           try clear hx545_1
           try clear hx547_0
           try clear hx547_1
           try clear hx548_0
           try clear hx550_0
           try clear hx551_0
           try clear hx551_1
           try clear p2
           try clear p5
           try clear p545
           try clear p547
           try clear p548
           try clear p550
           try clear p551
           try clear p6
           try clear q5
           try clear q545
           try clear q547
           try clear q548
           try clear q550
           try clear q551
           obtain ⟨x10_4,rfl,HA,HK4,BK544,HB⟩:=hrel
           cases gk with
           | zero=>exact absurd HA.out (by simp [abugidaref16_Match.l2])
           | succ k4 =>
            have H:=HA.out
            clear HA
            simp only [abugidaref16_Match.l2] at H
            by_cases c49:x10_4<(l0_2.length:Int)
            ·
             rw [if_pos c49] at H
             have c49b0:decide (x10_4<(l0_2.length:Int))=true:=decide_eq_true c49
             clear c49
             by_cases c50:0≤x10_4
             ·
              rw [if_pos c50] at H
              have c50b0:decide (0≤x10_4)=true:=decide_eq_true c50
              clear c50
              obtain ⟨ji51,hji51⟩:∃ j_:Int,(wrap64 ((wrap64 (a2 + (l0_1.length:Int))) + x10_4))=j_:=⟨_,rfl⟩
              replace H:(if 0≤(ji51) then (if (ji51)<(l1.length:Int) then ((abugidaref16_has.f k4 (rd_L1 l0_2 x10_4) ((rd_T55 l1 (ji51)).f0)).bind fun t555=>(if t555=true then (abugidaref16_Match.l2 k4 l1 a2 (wrap64 (x10_4 + 1)) l0_0 l0_1 l0_2 l0_3 l0_4) else (some false))) else (none)) else (none))=some r:=by first|(rw [hji51] at H;exact H)|(simp only [hji51] at H ⊢;exact H)
              have hji51w:(IntKind.i64.wrap ((wrap64 (a2 + (l0_1.length:Int))) + x10_4))=ji51:=(i64_w _).trans hji51
              by_cases c52:0≤(ji51)
              ·
               rw [if_pos c52] at H
               have c52b0:decide (0≤(ji51))=true:=decide_eq_true c52
               clear c52
               by_cases c53:(ji51)<(l1.length:Int)
               ·
                rw [if_pos c53] at H
                have c53b0:decide ((ji51)<(l1.length:Int))=true:=decide_eq_true c53
                clear c53
                replace H:=Option.bind_eq_some_iff.mp H
                obtain ⟨t555,A540,H⟩:=H
                replace H:(if t555=true then (abugidaref16_Match.l2 k4 l1 a2 (wrap64 (x10_4 + 1)) l0_0 l0_1 l0_2 l0_3 l0_4) else (some false))=some r:=H
                have A54:=Aside0.mk A540
                clear A540
                by_cases c55:t555=true
                ·
                 subst c55
                 have H1:(abugidaref16_Match.l2 k4 l1 a2 (wrap64 (x10_4 + 1)) l0_0 l0_1 l0_2 l0_3 l0_4)=some r:=by rw [if_pos rfl] at H;exact H
                 clear H
                 have H:=H1
                 clear H1
                 have H':=Aside0.mk H
                 clear H
                 have hcz56_0:wr.cell? ⟨gb544,0,none⟩=some (.slice A0_0 l0_0.length c0_0):=(blk_cell BK544.out 0).trans rfl
                 have hcz56_1:wr.cell? ⟨gb544,1,none⟩=some (.slice A0_1 l0_1.length c0_1):=(blk_cell BK544.out 1).trans rfl
                 have hcz56_2:wr.cell? ⟨gb544,2,none⟩=some (.slice A0_2 l0_2.length c0_2):=(blk_cell BK544.out 2).trans rfl
                 have hcz56_3:wr.cell? ⟨gb544,3,none⟩=some (.slice A0_3 l0_3.length c0_3):=(blk_cell BK544.out 3).trans rfl
                 have hcz56_4:wr.cell? ⟨gb544,4,none⟩=some (.slice A0_4 l0_4.length c0_4):=(blk_cell BK544.out 4).trans rfl
                 have hfz56_0:=blk_frozen BK544.out 0
                 have hfz56_1:=blk_frozen BK544.out 1
                 have hfz56_2:=blk_frozen BK544.out 2
                 have hfz56_3:=blk_frozen BK544.out 3
                 have hfz56_4:=blk_frozen BK544.out 4
                 have p553:0≤(x10_4:Int):=of_decide_eq_true za79
                 have q553:x10_4<(l0_2.length:Int):=of_decide_eq_true za79
                 obtain ⟨ad553,A553_0,c553_0,e553,hx553_0,hl553_0,hi553_0⟩:=at_L1 HR0_2.out x10_4 p553 q553
                 cases e553
                 replace hx553_0:=(HB.out.cell (World.block_lt_of_cell? w _ hx553_0)).trans hx553_0
                 have HR553_0:=Aside0.mk hi553_0
                 have HC553_0:=Aside0.mk hl553_0
                 clear hi553_0 hl553_0
                 replace p553:=eq_true p553
                 replace q553:=eq_true q553
                 have p554:0≤((ji51):Int):=of_decide_eq_true za79
                 have q554:(ji51)<(l1.length:Int):=of_decide_eq_true za79
                 obtain ⟨ad554,e554,hx554_0,hx554_1⟩:=at_T55 HR1.out (ji51) p554 q554
                 cases e554
                 replace hx554_0:=(HB.out.cell (World.block_lt_of_cell? w _ hx554_0)).trans hx554_0
                 replace hx554_1:=(HB.out.cell (World.block_lt_of_cell? w _ hx554_1)).trans hx554_1
                 replace p554:=eq_true p554
                 replace q554:=eq_true q554
                 go_wp2_with (first|(go_at_call 38;(with_reducible refine (abugidaref16_has.calls k4 _ _ (rd_L1 l0_2 x10_4) ((rd_T55 l1 (ji51)).f0) true _ ?side1 ?side2 A54.out).mono ?_);(case side1=>repeat (first|exact (Kd.C_below HR553_0.out HB.out)|(with_reducible refine Kd.C_alloc ?_ _)|(with_reducible refine Kd.C_drewN ?_ _)|(with_reducible refine Kd.C_drew ?_)));(case side2=>exact HC553_0.out);rintro e w' ⟨rfl,⟨nd,rfl⟩⟩;(try first|exact ⟨rfl,_,World.drewN_drewN _ _ _⟩|exact ⟨rfl,_,Eq.trans (World.drewN_drewN _ _ _) (congrArg (World.drewN _) (Nat.add_assoc _ _ _))⟩)))
                 repeat (go_quiet (first|(go_at_call 38;(with_reducible refine (abugidaref16_has.calls k4 _ _ (rd_L1 l0_2 x10_4) ((rd_T55 l1 (ji51)).f0) true _ ?side1 ?side2 A54.out).mono ?_);(case side1=>repeat (first|exact (Kd.C_below HR553_0.out HB.out)|(with_reducible refine Kd.C_alloc ?_ _)|(with_reducible refine Kd.C_drewN ?_ _)|(with_reducible refine Kd.C_drew ?_)));(case side2=>exact HC553_0.out);rintro e w' ⟨rfl,⟨nd,rfl⟩⟩;(try first|exact ⟨rfl,_,World.drewN_drewN _ _ _⟩|exact ⟨rfl,_,Eq.trans (World.drewN_drewN _ _ _) (congrArg (World.drewN _) (Nat.add_assoc _ _ _))⟩)));try go_wp2_with (first|(go_at_call 38;(with_reducible refine (abugidaref16_has.calls k4 _ _ (rd_L1 l0_2 x10_4) ((rd_T55 l1 (ji51)).f0) true _ ?side1 ?side2 A54.out).mono ?_);(case side1=>repeat (first|exact (Kd.C_below HR553_0.out HB.out)|(with_reducible refine Kd.C_alloc ?_ _)|(with_reducible refine Kd.C_drewN ?_ _)|(with_reducible refine Kd.C_drew ?_)));(case side2=>exact HC553_0.out);rintro e w' ⟨rfl,⟨nd,rfl⟩⟩;(try first|exact ⟨rfl,_,World.drewN_drewN _ _ _⟩|exact ⟨rfl,_,Eq.trans (World.drewN_drewN _ _ _) (congrArg (World.drewN _) (Nat.add_assoc _ _ _))⟩))))
                 go_roundg k4
                 case measure=>have:=HJ3.out;have:=HK2.out;have:=HK3.out;have:=HK4.out;omega
                 case rel=>exact ⟨(wrap64 (x10_4 + 1)),za82,H',⟨by have:=HJ3.out;have:=HK2.out;have:=HK3.out;have:=HK4.out;omega⟩,⟨by (with_reducible repeat (first|refine blk_drewN ?_ _|refine blk_drew ?_|refine blk_alloc ?_ _));exact BK544.out⟩,⟨by repeat (first|(with_reducible first|exact HB.out|apply below_alloc|apply pw_below_drewN|apply below_drew1|refine below_set ?_ GE544.out)|exact HB.out)⟩⟩
                ·
                 replace c55:=Bool.eq_false_iff.mpr c55
                 subst c55
                 have H1:(some false)=some r:=by rw [if_neg (show ¬ (false=true) by decide)] at H;exact H
                 clear H
                 have H:=H1
                 clear H1
                 obtain rfl:=Option.some.inj H
                 have hcz57_0:wr.cell? ⟨gb544,0,none⟩=some (.slice A0_0 l0_0.length c0_0):=(blk_cell BK544.out 0).trans rfl
                 have hcz57_1:wr.cell? ⟨gb544,1,none⟩=some (.slice A0_1 l0_1.length c0_1):=(blk_cell BK544.out 1).trans rfl
                 have hcz57_2:wr.cell? ⟨gb544,2,none⟩=some (.slice A0_2 l0_2.length c0_2):=(blk_cell BK544.out 2).trans rfl
                 have hcz57_3:wr.cell? ⟨gb544,3,none⟩=some (.slice A0_3 l0_3.length c0_3):=(blk_cell BK544.out 3).trans rfl
                 have hcz57_4:wr.cell? ⟨gb544,4,none⟩=some (.slice A0_4 l0_4.length c0_4):=(blk_cell BK544.out 4).trans rfl
                 have hfz57_0:=blk_frozen BK544.out 0
                 have hfz57_1:=blk_frozen BK544.out 1
                 have hfz57_2:=blk_frozen BK544.out 2
                 have hfz57_3:=blk_frozen BK544.out 3
                 have hfz57_4:=blk_frozen BK544.out 4
                 have p553:0≤(x10_4:Int):=of_decide_eq_true za79
                 have q553:x10_4<(l0_2.length:Int):=of_decide_eq_true za79
                 obtain ⟨ad553,A553_0,c553_0,e553,hx553_0,hl553_0,hi553_0⟩:=at_L1 HR0_2.out x10_4 p553 q553
                 cases e553
                 replace hx553_0:=(HB.out.cell (World.block_lt_of_cell? w _ hx553_0)).trans hx553_0
                 have HR553_0:=Aside0.mk hi553_0
                 have HC553_0:=Aside0.mk hl553_0
                 clear hi553_0 hl553_0
                 replace p553:=eq_true p553
                 replace q553:=eq_true q553
                 have p554:0≤((ji51):Int):=of_decide_eq_true za79
                 have q554:(ji51)<(l1.length:Int):=of_decide_eq_true za79
                 obtain ⟨ad554,e554,hx554_0,hx554_1⟩:=at_T55 HR1.out (ji51) p554 q554
                 cases e554
                 replace hx554_0:=(HB.out.cell (World.block_lt_of_cell? w _ hx554_0)).trans hx554_0
                 replace hx554_1:=(HB.out.cell (World.block_lt_of_cell? w _ hx554_1)).trans hx554_1
                 replace p554:=eq_true p554
                 replace q554:=eq_true q554
                 go_wp2_with (first|(go_at_call 38;(with_reducible refine (abugidaref16_has.calls k4 _ _ (rd_L1 l0_2 x10_4) ((rd_T55 l1 (ji51)).f0) false _ ?side1 ?side2 A54.out).mono ?_);(case side1=>repeat (first|exact (Kd.C_below HR553_0.out HB.out)|(with_reducible refine Kd.C_alloc ?_ _)|(with_reducible refine Kd.C_drewN ?_ _)|(with_reducible refine Kd.C_drew ?_)));(case side2=>exact HC553_0.out);rintro e w' ⟨rfl,⟨nd,rfl⟩⟩;(try first|exact ⟨rfl,_,World.drewN_drewN _ _ _⟩|exact ⟨rfl,_,Eq.trans (World.drewN_drewN _ _ _) (congrArg (World.drewN _) (Nat.add_assoc _ _ _))⟩)))
                 repeat (go_quiet (first|(go_at_call 38;(with_reducible refine (abugidaref16_has.calls k4 _ _ (rd_L1 l0_2 x10_4) ((rd_T55 l1 (ji51)).f0) false _ ?side1 ?side2 A54.out).mono ?_);(case side1=>repeat (first|exact (Kd.C_below HR553_0.out HB.out)|(with_reducible refine Kd.C_alloc ?_ _)|(with_reducible refine Kd.C_drewN ?_ _)|(with_reducible refine Kd.C_drew ?_)));(case side2=>exact HC553_0.out);rintro e w' ⟨rfl,⟨nd,rfl⟩⟩;(try first|exact ⟨rfl,_,World.drewN_drewN _ _ _⟩|exact ⟨rfl,_,Eq.trans (World.drewN_drewN _ _ _) (congrArg (World.drewN _) (Nat.add_assoc _ _ _))⟩)));try go_wp2_with (first|(go_at_call 38;(with_reducible refine (abugidaref16_has.calls k4 _ _ (rd_L1 l0_2 x10_4) ((rd_T55 l1 (ji51)).f0) false _ ?side1 ?side2 A54.out).mono ?_);(case side1=>repeat (first|exact (Kd.C_below HR553_0.out HB.out)|(with_reducible refine Kd.C_alloc ?_ _)|(with_reducible refine Kd.C_drewN ?_ _)|(with_reducible refine Kd.C_drew ?_)));(case side2=>exact HC553_0.out);rintro e w' ⟨rfl,⟨nd,rfl⟩⟩;(try first|exact ⟨rfl,_,World.drewN_drewN _ _ _⟩|exact ⟨rfl,_,Eq.trans (World.drewN_drewN _ _ _) (congrArg (World.drewN _) (Nat.add_assoc _ _ _))⟩))))
                 go_ret
                 exact ⟨by first|rfl|(simp [errW_none,errW_some] <;> rfl)|(simp only [← hji51];first|rfl|(simp [errW_none,errW_some] <;> rfl))|(simp [*,errW_none,errW_some] <;> rfl),by repeat (first|(with_reducible first|exact HB.out|apply below_alloc|apply pw_below_drewN|apply below_drew1|refine below_set ?_ GE544.out)|exact HB.out)⟩
               ·
                rw [if_neg c53] at H
                exact absurd H (by simp)
              ·
               rw [if_neg c52] at H
               exact absurd H (by simp)
             ·
              rw [if_neg c50] at H
              exact absurd H (by simp)
            ·
             rw [if_neg c49] at H
             have c49b0:decide (x10_4<(l0_2.length:Int))=false:=decide_eq_false c49
             clear c49
             obtain rfl:=Option.some.inj H
             have hcz58_0:wr.cell? ⟨gb544,0,none⟩=some (.slice A0_0 l0_0.length c0_0):=(blk_cell BK544.out 0).trans rfl
             have hcz58_1:wr.cell? ⟨gb544,1,none⟩=some (.slice A0_1 l0_1.length c0_1):=(blk_cell BK544.out 1).trans rfl
             have hcz58_2:wr.cell? ⟨gb544,2,none⟩=some (.slice A0_2 l0_2.length c0_2):=(blk_cell BK544.out 2).trans rfl
             have hcz58_3:wr.cell? ⟨gb544,3,none⟩=some (.slice A0_3 l0_3.length c0_3):=(blk_cell BK544.out 3).trans rfl
             have hcz58_4:wr.cell? ⟨gb544,4,none⟩=some (.slice A0_4 l0_4.length c0_4):=(blk_cell BK544.out 4).trans rfl
             have hfz58_0:=blk_frozen BK544.out 0
             have hfz58_1:=blk_frozen BK544.out 1
             have hfz58_2:=blk_frozen BK544.out 2
             have hfz58_3:=blk_frozen BK544.out 3
             have hfz58_4:=blk_frozen BK544.out 4
             go_wp2
             repeat (go_quiet (fail);try go_wp2)
             go_ret
             exact ⟨by first|rfl|(simp [errW_none,errW_some] <;> rfl)|(simp [*,errW_none,errW_some] <;> rfl),by repeat (first|(with_reducible first|exact HB.out|apply below_alloc|apply pw_below_drewN|apply below_drew1|refine below_set ?_ GE544.out)|exact HB.out)⟩
end Go.Proofs.Ytlgkeaildncojaa.Q
end
section
namespace Go.Proofs.Ytlgkeaildncojaa.Q
open Go.RowKit Go.Shelf Go.Proofs.YtlgkeaildncojaaW.PrintWords Go.Proofs.YtlgkeaildncojaaW.PrintLast Go.Proofs.YtlgkeaildncojaaW.PrintMore
set_option linter.unusedSimpArgs false
set_option linter.unusedVariables false
set_option linter.unusedSectionVars false
theorem rhas_l0 (l:List Int) (hl:l.length≤9223372036854775807) (a:Int):∀ (d i:Nat),i + d=l.length→Ev (fun k=>abugidaref16_has.l0 k l a (i:Int)) (hasP (l.drop i) a):=by
 intro d
 induction d with
 | zero =>
  intro i h
  rw [List.drop_of_length_le (by omega)]
  refine Ev.step (fun k=>by rw [abugidaref16_has.l0,if_neg (by omega)]) ?_
  exact Ev.now _
 | succ d ih =>
  intro i h
  have h2:=ih (i + 1) (by omega)
  have q0:(i:Int)<(l.length:Int):=by omega
  have q1:(0:Int)≤(i:Int):=by omega
  have hw:wrap64 ((i:Int) + 1)=((i + 1:Nat):Int):=by rw [wr64 _ (by omega) (by omega)];omega
  have e:l.drop i=l.getD i 0 :: l.drop (i + 1):=by
   rw [List.drop_eq_getElem_cons (by omega),List.getD_eq_getElem?_getD,List.getElem?_eq_getElem (by omega)];rfl
  rw [e]
  unfold hasP at h2 ⊢
  rw [List.any_cons]
  refine Ev.step (fun k=>by rw [abugidaref16_has.l0,if_pos q0,if_pos q1,rdN,hw]) ?_
  by_cases hc:l.getD i 0=a
  ·
   rw [show decide (a=l.getD i 0)=true from decide_eq_true hc.symm,Bool.true_or]
   exact Ev.congr (fun k=>by rw [if_pos hc]) (Ev.now _)
  ·
   rw [show decide (a=l.getD i 0)=false from decide_eq_false (fun h=>hc h.symm),Bool.false_or]
   exact Ev.congr (fun k=>by rw [if_neg hc]) h2
theorem rhas_ev (l:List Int) (hl:l.length≤9223372036854775807) (a:Int):Ev (fun k=>abugidaref16_has.f k l a) (hasP l a):=rhas_l0 l hl a l.length 0 (by omega)
section
variable (f0 f1 f2:List (List Int)) (f3:List Int) (f4:List S60) (its:List S55)
 (b0:f0.length≤1000) (b1:f1.length≤1000) (b2:f2.length≤1000) (bi:its.length≤1000000)
 (m0:∀ s∈f0,s.length≤9223372036854775807) (m1:∀ s∈f1,s.length≤9223372036854775807) (m2:∀ s∈f2,s.length≤9223372036854775807)
include b0 b1 b2 bi m0 m1 m2
theorem rahead_ev (a:Nat) (hb:a + f1.length + f2.length≤its.length):∀ (d j:Nat),j + d=f2.length→Ev (fun k=>abugidaref16_Match.l2 k its (a:Int) (j:Int) f0 f1 f2 f3 f4) (aheadP its (a + f1.length + j) (f2.drop j)):=by
 intro d
 induction d with
 | zero =>
  intro j h
  rw [List.drop_of_length_le (by omega)]
  refine Ev.step (fun k=>by rw [abugidaref16_Match.l2,if_neg (by omega)]) ?_
  exact Ev.now _
 | succ d ih =>
  intro j h
  have h2:=ih (j + 1) (by omega)
  rw [dropL f2 j (by omega),aheadP]
  have q0:(j:Int)<(f2.length:Int):=by omega
  have q1:(0:Int)≤(j:Int):=by omega
  have hw0:wrap64 ((a:Int) + (f1.length:Int))=((a + f1.length:Nat):Int):=by rw [wr64 _ (by omega) (by omega)];omega
  have hw:wrap64 (((a + f1.length:Nat):Int) + (j:Int))=((a + f1.length + j:Nat):Int):=by rw [wr64 _ (by omega) (by omega)];omega
  have q2:(0:Int)≤((a + f1.length + j:Nat):Int):=by omega
  have q3:((a + f1.length + j:Nat):Int)<(its.length:Int):=by omega
  have hw2:wrap64 ((j:Int) + 1)=((j + 1:Nat):Int):=by rw [wr64 _ (by omega) (by omega)];omega
  refine Ev.step (fun k=>by rw [abugidaref16_Match.l2,if_pos q0,if_pos q1,hw0,hw,if_pos q2,if_pos q3,rd55,rdL1,hw2]) ?_
  refine Ev.bind (g:=fun k=>abugidaref16_has.f k (f2.getD j []) (its.getD (a + f1.length + j) z55).f0) (rhas_ev _ (m2 _ (getD_in f2 j [] (by omega))) _) ?_
  by_cases hc:hasP (f2.getD j []) (its.getD (a + f1.length + j) z55).f0=true
  ·
   rw [if_pos hc]
   exact Ev.congr (fun k=>by rw [if_pos hc]) h2
  ·
   rw [if_neg hc]
   exact Ev.congr (fun k=>by rw [if_neg hc]) (Ev.now _)
theorem rback_ev (a:Nat) (R:Bool) (ha:f0.length≤a) (hi:a<its.length) (hc:Ev (fun k=>abugidaref16_Match.l2 k its (a:Int) 0 f0 f1 f2 f3 f4) R):∀ (d j:Nat),j + d=f0.length →
  Ev (fun k=>abugidaref16_Match.l1 k its (a:Int) (j:Int) f0 f1 f2 f3 f4) (backP its (a - j) (f0.drop j) && R):=by
 intro d
 induction d with
 | zero =>
  intro j h
  rw [List.drop_of_length_le (by omega)]
  refine Ev.step (fun k=>by rw [abugidaref16_Match.l1,if_neg (by omega)]) ?_
  exact hc
 | succ d ih =>
  intro j h
  have h2:=ih (j + 1) (by omega)
  rw [dropL f0 j (by omega),backP,show a - j - 1=a - (j + 1) by omega]
  have q0:(j:Int)<(f0.length:Int):=by omega
  have q1:(0:Int)≤(j:Int):=by omega
  have hw0:wrap64 ((a:Int) - 1)=(a:Int) - 1:=wr64 _ (by omega) (by omega)
  have hw:wrap64 ((a:Int) - 1 - (j:Int))=((a - (j + 1):Nat):Int):=by rw [wr64 _ (by omega) (by omega)];omega
  have q2:(0:Int)≤((a - (j + 1):Nat):Int):=by omega
  have q3:((a - (j + 1):Nat):Int)<(its.length:Int):=by omega
  have hw2:wrap64 ((j:Int) + 1)=((j + 1:Nat):Int):=by rw [wr64 _ (by omega) (by omega)];omega
  refine Ev.step (fun k=>by rw [abugidaref16_Match.l1,if_pos q0,if_pos q1,hw0,hw,if_pos q2,if_pos q3,rd55,rdL1,hw2]) ?_
  refine Ev.bind (g:=fun k=>abugidaref16_has.f k (f0.getD j []) (its.getD (a - (j + 1)) z55).f0) (rhas_ev _ (m0 _ (getD_in f0 j [] (by omega))) _) ?_
  by_cases hc:hasP (f0.getD j []) (its.getD (a - (j + 1)) z55).f0=true
  ·
   rw [if_pos hc]
   exact Ev.congr (fun k=>by rw [if_pos hc]) h2
  ·
   rw [if_neg hc,Bool.false_and]
   exact Ev.congr (fun k=>by rw [if_neg hc]) (Ev.now _)
theorem rin_ev (a:Nat) (R:Bool) (hi:a + f1.length≤its.length) (ha:a<its.length) (hc:Ev (fun k=>abugidaref16_Match.l1 k its (a:Int) 0 f0 f1 f2 f3 f4) R):∀ (d j:Nat),j + d=f1.length →
  Ev (fun k=>abugidaref16_Match.l0 k its (a:Int) (j:Int) f0 f1 f2 f3 f4) (inP its (its.getD a z55).f1 (a + j) (f1.drop j) && R):=by
 intro d
 induction d with
 | zero =>
  intro j h
  rw [List.drop_of_length_le (by omega)]
  refine Ev.step (fun k=>by rw [abugidaref16_Match.l0,if_neg (by omega)]) ?_
  exact hc
 | succ d ih =>
  intro j h
  have h2:=ih (j + 1) (by omega)
  rw [dropL f1 j (by omega),inP]
  have q0:(j:Int)<(f1.length:Int):=by omega
  have q1:(0:Int)≤(j:Int):=by omega
  have hw:wrap64 ((a:Int) + (j:Int))=((a + j:Nat):Int):=by rw [wr64 _ (by omega) (by omega)];omega
  have q2:(0:Int)≤((a + j:Nat):Int):=by omega
  have q3:((a + j:Nat):Int)<(its.length:Int):=by omega
  have q4:(0:Int)≤(a:Int):=by omega
  have q5:(a:Int)<(its.length:Int):=by omega
  have hw2:wrap64 ((j:Int) + 1)=((j + 1:Nat):Int):=by rw [wr64 _ (by omega) (by omega)];omega
  refine Ev.step (fun k=>by rw [abugidaref16_Match.l0,if_pos q0,hw,if_pos q2,if_pos q3,if_pos q4,if_pos q5,rd55,rd55,rdL1,hw2]) ?_
  by_cases hx:(its.getD (a + j) z55).f1=(its.getD a z55).f1
  ·
   rw [if_pos hx]
   refine Ev.congr (fun k=>by rw [if_pos hx,if_pos q1]) ?_
   refine Ev.bind (g:=fun k=>abugidaref16_has.f k (f1.getD j []) (its.getD (a + j) z55).f0) (rhas_ev _ (m1 _ (getD_in f1 j [] (by omega))) _) ?_
   by_cases hc:hasP (f1.getD j []) (its.getD (a + j) z55).f0=true
   ·
    rw [if_pos hc]
    exact Ev.congr (fun k=>by rw [if_pos hc]) h2
   ·
    rw [if_neg hc,Bool.false_and]
    exact Ev.congr (fun k=>by rw [if_neg hc]) (Ev.now _)
  ·
   rw [if_neg hx,Bool.false_and]
   exact Ev.congr (fun k=>by rw [if_neg hx]) (Ev.now _)
theorem rmatch_ev (at_:Int):Ev (fun k=>abugidaref16_Match.f k f0 f1 f2 f3 f4 its at_) (matchP ⟨f0,f1,f2,f3,f4⟩ its at_):=by
 unfold matchP abugidaref16_Match.f
 dsimp only
 have stop:Ev (fun k=>abugidaref16_Match.j0 k its at_ true f0 f1 f2 f3 f4) false:=by
  refine Ev.step (fun k=>by rw [abugidaref16_Match.j0,if_pos rfl]) ?_
  exact Ev.now _
 by_cases h1:at_<0
 ·
  rw [if_pos (.inl h1)]
  exact Ev.congr (fun k=>by rw [if_pos h1]) stop
 by_cases h2:at_ ≥ (its.length:Int)
 ·
  rw [if_pos (.inr (.inl h2))]
  exact Ev.congr (fun k=>by rw [if_neg h1,if_pos h2]) stop
 refine Ev.congr (fun k=>by rw [if_neg h1,if_neg h2]) ?_
 by_cases h3:f1.length=0
 ·
  rw [if_pos (.inr (.inr (.inl h3)))]
  refine Ev.congr (fun k=>by rw [if_pos (show (f1.length:Int)=0 by omega)]) stop
 have e3:¬ (f1.length:Int)=0:=by omega
 obtain ⟨a,rfl⟩:=Int.eq_ofNat_of_zero_le (show 0≤at_ by omega)
 have hw1:wrap64 (((a:Nat):Int) + (f1.length:Int))=((a + f1.length:Nat):Int):=by rw [wr64 _ (by omega) (by omega)];omega
 have hw2:wrap64 (((a + f1.length:Nat):Int) + (f2.length:Int))=((a + f1.length + f2.length:Nat):Int):=by rw [wr64 _ (by omega) (by omega)];omega
 refine Ev.congr (fun k=>by rw [if_neg e3,hw1,hw2]) ?_
 by_cases h4:a + f1.length + f2.length > its.length
 ·
  have q:((a + f1.length + f2.length:Nat):Int) > (its.length:Int):=by omega
  rw [if_pos (by omega)]
  exact Ev.congr (fun k=>by rw [if_pos q]) stop
 have q4:¬ ((a + f1.length + f2.length:Nat):Int) > (its.length:Int):=by omega
 refine Ev.congr (fun k=>by rw [if_neg q4]) ?_
 by_cases h5:a<f0.length
 ·
  rw [if_pos (by omega)]
  exact Ev.congr (fun k=>by rw [show decide ((a:Int)<(f0.length:Int))=true from decide_eq_true (by omega)]) stop
 have e5:decide ((a:Int)<(f0.length:Int))=false:=decide_eq_false (by omega)
 rw [if_neg (by omega)]
 refine Ev.step (fun k=>by rw [e5,abugidaref16_Match.j0,if_neg (by decide)]) ?_
 have hA:=rahead_ev f0 f1 f2 f3 f4 its b0 b1 b2 bi m0 m1 m2 a (by omega) f2.length 0 (by omega)
 have hB:=rback_ev f0 f1 f2 f3 f4 its b0 b1 b2 bi m0 m1 m2 a _ (by omega) (by omega) hA f0.length 0 (by omega)
 have hC:=rin_ev f0 f1 f2 f3 f4 its b0 b1 b2 bi m0 m1 m2 a _ (by omega) (by omega) hB f1.length 0 (by omega)
 exact hC
/-- The library's Match,at every place. -/
theorem match_any (at_:Int):Ev (fun k=>rules_Match.f k f0 f1 f2 f3 f4 its at_) (matchP ⟨f0,f1,f2,f3,f4⟩ its at_):=by
 by_cases h:at_≤1000000000
 ·
  exact match_ev f0 f1 f2 f3 f4 its b0 b1 b2 bi m0 m1 m2 at_ h
 unfold matchP rules_Match.f
 dsimp only
 have stop:Ev (fun k=>rules_Match.j0 k its at_ true f0 f1 f2 f3 f4) false:=by
  refine Ev.step (fun k=>by rw [rules_Match.j0,if_pos rfl]) ?_
  exact Ev.now _
 have h1:¬ at_<0:=by omega
 have h2:at_ ≥ (its.length:Int):=by omega
 rw [if_pos (.inr (.inl h2))]
 exact Ev.congr (fun k=>by rw [if_neg h1,if_pos h2]) stop
end
/-- Both at once: one count of rounds for the two. -/
theorem both_match (f0 f1 f2:List (List Int)) (f3:List Int) (f4:List S60) (its:List S55)
 (b0:f0.length≤1000) (b1:f1.length≤1000) (b2:f2.length≤1000) (bi:its.length≤1000000)
 (m0:∀ s∈f0,s.length≤9223372036854775807) (m1:∀ s∈f1,s.length≤9223372036854775807) (m2:∀ s∈f2,s.length≤9223372036854775807) (at_:Int) :
  ∃ k b,rules_Match.f k f0 f1 f2 f3 f4 its at_=some b∧abugidaref16_Match.f k f0 f1 f2 f3 f4 its at_=some b:=by
 obtain ⟨k1,h1⟩:=match_any f0 f1 f2 f3 f4 its b0 b1 b2 bi m0 m1 m2 at_
 obtain ⟨k2,h2⟩:=rmatch_ev f0 f1 f2 f3 f4 its b0 b1 b2 bi m0 m1 m2 at_
 exact ⟨k1 + k2,_,h1 _ (Nat.le_add_right _ _),h2 _ (Nat.le_add_left _ _)⟩
end Go.Proofs.Ytlgkeaildncojaa.Q
end
section
namespace Go.Proofs.Ytlgkeaildncojaa.Q
open Go.RowKit Go.Shelf Go.Proofs.YtlgkeaildncojaaW.PrintWords Go.Proofs.YtlgkeaildncojaaW.PrintLast Go.Proofs.YtlgkeaildncojaaW.PrintMore
set_option linter.unusedSimpArgs false
set_option linter.unusedVariables false
theorem GoodSet.i64 {s:List Int} (h:GoodSet s):I64s 9 s:=⟨Nat.le_trans h.short (by decide),fun x hx=>by have:=h.small x hx;omega⟩
theorem MadeR.bd {k:Int} {r:S49} (h:MadeR k r):Bd 9 r :=
 ⟨Nat.le_trans h.l0 (by decide),Nat.le_trans h.l1.2 (by decide),Nat.le_trans h.l2 (by decide),Nat.le_trans h.l3 (by decide),Nat.le_trans h.l4 (by decide),fun s hs=>(h.s0 s hs).i64,fun s hs=>(h.s1 s hs).i64,fun s hs=>(h.s2 s hs).i64⟩
theorem madeAll_bd (L:List (List Int)) (k:Nat) (hk:k<3):BdL 9 ((madeAll L).getD k z24).f0 :=
 ⟨Nat.le_trans (madeAll_good L k hk).1 (by decide),fun r hr=>((madeAll_good L k hk).2 r hr).bd⟩
/-- What the walks need of Odd. -/
def OddC:Prop:=∀ (A:Option Addr) (c:Nat) (l:List S49) (q0 q1 q2:Int) (N:Nat) (w:World),k49.C w A l.length l→l.length≤c→BdL N l→N≤1000 →
  Calls Try.prog 13 #[.agg #[.slice A l.length c],.agg #[.int .i64 q0,.int .i64 q1,.int .i64 q2]] w fun e w'=>∃ A' c' l',e=.returned (.agg #[.slice A' l'.length c'])∧k49.C w' A' l'.length l'∧l'.length≤c'∧BdL (N + 12) l'∧Below w.heap.size w w'
/-- n lookups that lie in a row. -/
def Looks (W:World) (g n N:Nat):Prop:=∀ j<n,∃ A c l,W.cell? ⟨g,j,none⟩=some (.slice A l.length c)∧k49.C W A l.length l∧l.length≤c∧BdL N l
theorem Looks.below {W W':World} {g n N:Nat} (hb:Below W.heap.size W W') (h:Looks W g n N):Looks W' g n N:=fun j hj=>by
 obtain ⟨A,c,l,h1,h2,h3,h4⟩:=h j hj
 exact ⟨A,c,l,pw_cell_below hb h1,Kd.C_below h2 hb,h3,h4⟩
theorem Looks.nil (W:World) (g N:Nat):Looks W g 0 N:=fun j hj=>absurd hj (Nat.not_lt_zero _)
theorem Looks.snoc {W:World} {g n N:Nat} (h:Looks W g n N) {A:Option Addr} {c:Nat} {l:List S49} (h1:W.cell? ⟨g,n,none⟩=some (.slice A l.length c)) (h2:k49.C W A l.length l) (h3:l.length≤c) (h4:BdL N l):Looks W g (n + 1) N:=fun j hj=>by
 by_cases e:j=n
 ·
  subst e;exact ⟨A,c,l,h1,h2,h3,h4⟩
 ·
  exact h j (by omega)
/-- The cells of a literal. -/
theorem lit_cell (w:World) (cs:Array Value) (e:Nat) (p:Nat × Nat) (j:Nat) (v:Value) (h:cs[j]?=some v):(w.alloc (.cells cs e p)).cell? ⟨w.heap.size,j,none⟩=some v:=by
 have hb:=blk_new w (.cells cs e p)
 unfold World.cell?
 simp only [hb]
 exact h
/-- What the walks need of Odd: a thing of the caller's stays apart from what is made. -/
def OddF:Prop:=∀ (A:Option Addr) (c:Nat) (l:List S49) (q0 q1 q2:Int) (N:Nat) (w wq:World) (R0:Res),Own w wq [R0]→k49.C w A l.length l→l.length≤c→BdL N l→N≤1000 →
  Calls Try.prog 13 #[.agg #[.slice A l.length c],.agg #[.int .i64 q0,.int .i64 q1,.int .i64 q2]] wq fun e w'=>∃ A' c' l' XS,e=.returned (.agg #[.slice A' l'.length c'])∧(∀ W,EX w XS W→k49.C W A' l'.length l')∧l'.length≤c'∧BdL (N + 12) l'∧Own w w' (R0 :: XS)
theorem ex_tail {w W:World} {R0:Res} {XS:List Res} {K:Nat→Obj→Prop} (h:Own w W (R0 :: XS) K):EX w XS W:=EX.of h (fun X hX=>by
 obtain ⟨i,hi,rfl⟩:=List.getElem_of_mem hX
 exact ⟨i + 1,by rw [List.getElem?_cons_succ,List.getElem?_eq_getElem hi]⟩)
theorem OddF.plain (h:OddF):OddC:=fun A c l q0 q1 q2 N w hr hc hb hN=>by
 refine (h A c l q0 q1 q2 N w w .emp ((Own.start w).add (r:=.emp) (Below.refl _ _) trivial) hr hc hb hN).mono ?_
 rintro e w' ⟨A',c',l',XS,he,hC,h1,h2,hO⟩
 exact ⟨A',c',l',he,hC _ (ex_tail hO),h1,h2,hO.below⟩
end Go.Proofs.Ytlgkeaildncojaa.Q
end
section
namespace Go.Proofs.Ytlgkeaildncojaa.Q
open Go.RowKit Go.Shelf Go.Proofs.YtlgkeaildncojaaW.PrintWords Go.Proofs.YtlgkeaildncojaaW.PrintLast Go.Proofs.YtlgkeaildncojaaW.PrintMore
set_option linter.unusedSimpArgs false
set_option linter.unusedVariables false
set_option maxRecDepth 100000 in
set_option maxHeartbeats 8000000 in
theorem rulesMatches_calls (A0:Option Addr) (c0:Nat) (L:List (List Int)) (A1:Option Addr) (c1:Nat) (I:List Int) (o0 o1 o2 kq:Int) (A4:Option Addr) (c4:Nat) (M:List Bool) (hodd:OddC) (At:Option Addr) (ct:Nat) (T:List S49) (Ap:Option Addr) (cp:Nat) (Q:List S55) (qa:Int) (w:World)
  (hr0:Kd.C (Kd.slice 3 (Kd.int .i64)) w A0 L.length L) (hc0:L.length≤c0) (hr1:Kd.C (Kd.int .i64) w A1 I.length I) (hc1:I.length≤c1) (hr4:Kd.C Kd.bool w A4 M.length M) (hc4:M.length≤c4) (hk:0≤kq∧kq≤255) (hrt:k49.C w At T.length T) (hct:T.length≤ct) (hit:In64 T) (hrp:k55.C w Ap Q.length Q) (hcp:Q.length≤cp) :
  Calls Try.prog 4 #[.agg #[.slice At T.length ct],.agg #[.slice A0 L.length c0,.slice A1 I.length c1,.int .i64 o0,.int .i64 o1,.int .i64 o2,.int .u8 kq,.slice A4 M.length c4],.agg #[.slice Ap Q.length cp,.int .i64 qa]] w fun e w'=>e=.returned (.bool true)∧Below w.heap.size w w':=by
 have HCASE:=Aside0.mk (fun W (hb:Below w.heap.size w W)=>case_plain A0 c0 L A1 c1 I o0 o1 o2 kq A4 c4 M W (Kd.C_below hr0 hb) hc0 (lens hr0 rfl) (Kd.C_below hr1 hb) hc1 hc4 hk)
 have HM0:=Aside0.mk (C_take hr4 30)
 have HCM:=Aside0.mk (show (M.take 30).length≤c4 by rw [List.length_take];omega)
 generalize M.take 30=may at HCASE HM0 HCM
 have HK:=Aside0.mk (Nat.mod_lt kq.toNat (show 0<3 by decide))
 have HT0:=Aside0.mk hrt
 have HCT:=Aside0.mk hct
 have HIT:=Aside0.mk hit
 have HQ0:=Aside0.mk (C_take hrp 20)
 have HQC:=Aside0.mk (show (Q.take 20).length≤cp by rw [List.length_take];omega)
 have HQL:=Aside0.mk (show (Q.take 20).length≤20 by rw [List.length_take];omega)
 have hq20:min (Q.length:Int) 20=((Q.take 20).length:Int):=by rw [List.length_take];omega
 have hqc:(((Q.take 20).length:Int)≤(cp:Int))=True:=eq_true (by rw [List.length_take];omega)
 have hq0:(0≤((Q.take 20).length:Int))=True:=eq_true (by omega)
 have ha0:Option.map (fun x:Addr=>x.add 0) Ap=Ap:=by cases Ap <;> rfl
 have HODD:=Aside0.mk hodd
 have HO:=Aside0.mk (Own.start w)
 clear hrt hct hit hrp hcp hodd
 obtain ⟨k,hkk⟩:∃ k,kq.toNat % 3=k:=⟨_,rfl⟩
 rw [hkk] at HK
 simp only [hkk] at HCASE
 clear hkk hr0 hc0 hr1 hc1 hr4 hc4 hk
 go_enter Try.func4,Try.ntmps4
 go_upto_region 3 with (first
  | ((with_reducible refine gate_dst (N:=3) rfl ?_);(refine ev_box (N:=3) (cs:=#[.slice At T.length ct]) (t:=24) HO.out rfl rfl ?hr ?_;(case hr=>first|(go_simp;done)|(go_simp;rfl));intro g3 W_ hO hb_;clear HO hb_;have HO:=Aside0.mk hO;clear hO))
  | ((with_reducible refine gate_dst (N:=4) rfl ?_);(refine ev_box (N:=4) (cs:=#[.slice A0 L.length c0,.slice A1 I.length c1,.int .i64 o0,.int .i64 o1,.int .i64 o2,.int .u8 kq,.slice A4 M.length c4]) (t:=30) HO.out rfl rfl ?hr ?_;(case hr=>first|(go_simp;done)|(go_simp;rfl));intro g4 W_ hO hb_;clear HO hb_;have HO:=Aside0.mk hO;clear hO))
  | ((with_reducible refine gate_dst (N:=5) rfl ?_);(refine ev_box (N:=5) (cs:=#[.slice Ap Q.length cp,.int .i64 qa]) (t:=46) HO.out rfl rfl ?hr ?_;(case hr=>first|(go_simp;done)|(go_simp;rfl));intro g5 W_ hO hb_;clear HO hb_;have HO:=Aside0.mk hO;clear hO))
  | (go_at_call 11;(refine (abugidalaw16_sanity.calls 0 true _ rfl).mono ?_;rintro e_ W_ ⟨rfl,hb⟩;have nO:=Aside0.mk (HO.out.grow hb);clear HO hb;have HO:=nO;clear nO;have b0:=HO.out.box_cell 1 rfl 0 rfl;have b1:=HO.out.box_cell 1 rfl 1 rfl;have b2:=HO.out.box_cell 1 rfl 2 rfl;have b3:=HO.out.box_cell 1 rfl 3 rfl;have b4:=HO.out.box_cell 1 rfl 4 rfl;have b5:=HO.out.box_cell 1 rfl 5 rfl;have b6:=HO.out.box_cell 1 rfl 6 rfl))
  | (go_at_call 12;(refine (HCASE.out _ HO.out.below).mono ?_;rintro e_ W3 ⟨v1_,v3_,rfl,hO3⟩;have HB:=Aside0.mk (below_step HO.out.below hO3.below);obtain ⟨A5,c5,rfl,hc5,hC5⟩:=hO3.row_at 0 rfl;obtain ⟨A7,c7,rfl,hc7,hC7⟩:=hO3.row_at 1 rfl;have HA:=Aside0.mk hC5;have HCA:=Aside0.mk hc5;have HI:=Aside0.mk hC7;have HCI:=Aside0.mk hc7;have c3:=pw_cell_below hO3.below (HO.out.box_cell 0 rfl 0 rfl);have ic2:=pw_cell_below hO3.below (HO.out.box_cell 1 rfl 2 rfl);have ic3:=pw_cell_below hO3.below (HO.out.box_cell 1 rfl 3 rfl);have ic4:=pw_cell_below hO3.below (HO.out.box_cell 1 rfl 4 rfl);have p0:=pw_cell_below hO3.below (HO.out.box_cell 2 rfl 0 rfl);have p1:=pw_cell_below hO3.below (HO.out.box_cell 2 rfl 1 rfl);clear hC5 hc5 hC7 hc7 hO3 HO HCASE b0 b1 b2 b3 b4 b5 b6;have HO:=Aside0.mk (Own.start W3))))
 have HM:=Aside0.mk (Kd.C_below HM0.out HB.out)
 clear HM0
 have HT:=Aside0.mk (Kd.C_below HT0.out HB.out)
 have HQ:=Aside0.mk (Kd.C_below HQ0.out HB.out)
 clear HT0 HQ0
 have hbd:=madeAll_bd L k HK.out
 obtain ⟨ad,A6,c6,hA,x0,y0,y1⟩:=at_T24 HA.out (k:Int) (by omega) (by have:=madeAll_len L;have:=HK.out;omega)
 subst hA
 rw [show rd_T24 (madeAll L) (k:Int)=(madeAll L).getD k z24 from rfl] at x0 y0 y1
 rw [Int.toNat_natCast] at x0
 obtain ⟨rs,hrs⟩:∃ rs,((madeAll L).getD k z24).f0=rs:=⟨_,rfl⟩
 simp only [hrs] at x0 y0 y1 hbd
 have HBD:=Aside0.mk hbd
 have HCR:=Aside0.mk y0
 have HR:=Aside0.mk y1
 have HIL:=Aside0.mk (itemsM_len I)
 generalize itemsM I=its at *
 have hal:=madeAll_len L
 generalize madeAll L=all at *
 have q0:(0≤(k:Int))=True:=eq_true (by omega)
 have q1:((k:Int)<(all.length:Int))=True:=eq_true (by have:=HK.out;omega)
 clear hrs y0 y1 hal hbd
 generalize Q.take 20=qs at *
 have P0:=Aside0.mk p0
 have P1:=Aside0.mk p1
 clear p1
 go_upto_region 4 with (fail)
 have C3:=Aside0.mk c3
 have X0:=Aside0.mk x0
 have IC2:=Aside0.mk ic2
 have IC3:=Aside0.mk ic3
 have IC4:=Aside0.mk ic4
 go_region_held3 (fun w'=>w'.cell? ⟨g3,0,none⟩=some (.slice At T.length ct)∧w'.cell? (ad.add k)=some (.slice A6 rs.length c6)∧w'.cell? ⟨g4,2,none⟩=some (.int .i64 o0)∧w'.cell? ⟨g4,3,none⟩=some (.int .i64 o1)∧w'.cell? ⟨g4,4,none⟩=some (.int .i64 o2)) (go_keep) (first
  | (go_at_call 14;refine (cut_plain At ct T _ (HO.out.drew.old HT.out) HCT.out HIT.out).mono ?_;rintro e_ W_ ⟨A33,c33,l33,rfl,hC,hc,hbd,hb⟩;have nO:=Aside0.mk (HO.out.drew.grow hb);clear HO hb;have HO:=nO;clear nO;have H33:=Aside0.mk hC;have C33:=Aside0.mk hc;have B33:=Aside0.mk hbd;clear hC hc hbd;clear c3 x0 ic2 ic3 ic4;have c3:=pw_cell_below HO.out.below C3.out;have x0:=pw_cell_below HO.out.below X0.out;have ic2:=pw_cell_below HO.out.below IC2.out;have ic3:=pw_cell_below HO.out.below IC3.out;have ic4:=pw_cell_below HO.out.below IC4.out)
  | (go_at_call 13;refine (HODD.out A6 c6 rs o0 o1 o2 9 _ (HO.out.old HR.out) HCR.out HBD.out (by decide)).mono ?_;rintro e_ W_ ⟨A45,c45,l45,rfl,hC,hc,hbd,hb⟩;have n_:=Aside0.mk (Kd.C_below H33.out hb);clear H33;have H33:=n_;clear n_;have nO:=Aside0.mk (HO.out.grow hb);clear HO hb;have HO:=nO;clear nO;have H45:=Aside0.mk hC;have C45:=Aside0.mk hc;have B45:=Aside0.mk hbd;clear hC hc hbd;clear c3 x0 ic2 ic3 ic4;have c3:=pw_cell_below HO.out.below C3.out;have x0:=pw_cell_below HO.out.below X0.out;have ic2:=pw_cell_below HO.out.below IC2.out;have ic3:=pw_cell_below HO.out.below IC3.out;have ic4:=pw_cell_below HO.out.below IC4.out))
 have hb_:Below W_.heap.size W_ (W_.alloc (Obj.cells #[Value.slice A33 l33.length c33,Value.slice A6 rs.length c6,Value.slice A45 l45.length c45] 24)):=below_alloc (Below.refl _ _) _
 have hlk:Looks (W_.alloc (Obj.cells #[Value.slice A33 l33.length c33,Value.slice A6 rs.length c6,Value.slice A45 l45.length c45] 24)) W_.heap.size 3 21 :=
  (((Looks.nil _ _ _).snoc (lit_cell W_ _ _ _ 0 _ rfl) (Kd.C_below H33.out hb_) C33.out (B33.out.le (by decide))).snoc (lit_cell W_ _ _ _ 1 _ rfl) (Kd.C_below (HO.out.old HR.out) hb_) HCR.out (HBD.out.le (by decide))).snoc (lit_cell W_ _ _ _ 2 _ rfl) (Kd.C_below H45.out hb_) C45.out (B45.out.le (by decide))
 have nO:=HO.out.grow hb_
 have HLK:=Aside0.mk hlk
 clear HO H33 H45 C33 C45 B33 B45 hlk c3 x0 ic2 ic3 ic4 C3 X0 IC2 IC3 IC4 HIT HODD HT HA HCA HR HCR HBD HCT
 try clear hHeld
 have n_:=Aside0.mk (below_step HB.out nO.below)
 clear HB
 have HB:=n_
 clear n_
 have n_:=Aside0.mk (nO.old HI.out)
 clear HI
 have HI:=n_
 clear n_
 have n_:=Aside0.mk (nO.old HQ.out)
 clear HQ
 have HQ:=n_
 clear n_
 have n_:=Aside0.mk (pw_cell_below nO.below P0.out)
 clear P0
 have P0:=n_
 clear n_
 have n_:=Aside0.mk (pw_cell_below nO.below P1.out)
 clear P1
 have P1:=n_
 clear n_
 clear nO hb_
 generalize W_.heap.size=g46 at *
 generalize (W_.alloc (Obj.cells #[Value.slice A33 l33.length c33,Value.slice A6 rs.length c6,Value.slice A45 l45.length c45] 24))=W4 at *
 have HO:=Aside0.mk (Own.start W4)
 go_wp2
 go_loopw [48] (fun v48 w'=>∃ j:Nat,v48=.int .i64 j∧Aside0 (j≤3)∧Aside0 (Own W4 w' [])) (fun v48 _=>3 - (intOf v48).toNat)
 case atStart=>exact ⟨0,rfl,⟨Nat.zero_le _⟩,HO⟩
 case round =>
  clear HO
  obtain ⟨j,rfl,HJ,HO⟩:=hrel
  by_cases hlt:j<3
  case neg =>
   have r1:((j:Int)<3)=False:=eq_false (by omega)
   have d1:decide ((j:Int)<3)=false:=decide_eq_false (by omega)
   clear hlt
   go_wp2
   go_ret
   exact ⟨rfl,below_step HB.out HO.out.below⟩
  obtain ⟨A14,c14,l,x0,hC,hc,hbd⟩:=HLK.out j hlt
  replace x0:=pw_cell_below HO.out.below x0
  have HLC:=Aside0.mk hC
  have HBL:=Aside0.mk hbd
  have HJL:=Aside0.mk hlt
  have r1:((j:Int)<3)=True:=eq_true (by omega)
  have r0:(0≤(j:Int))=True:=eq_true (by omega)
  have hkb:(j:Int) + 1≤9223372036854775807:=by omega
  have hll:l.length≤21:=hbd.1
  clear hlt hC hbd
  go_wp2_with (first
   | ((with_reducible refine gate_dst (N:=14) rfl ?_);(refine ev_box (N:=14) (cs:=#[.slice none 0 0]) (t:=24) HO.out rfl rfl ?hr ?_;(case hr=>first|(go_simp;done)|(go_simp;rfl));intro g14 W_ hO hb_;have n_:=pw_cell_below hb_ x0;clear HO hb_ x0;have x0:=n_;clear n_;have HO:=Aside0.mk hO;clear hO))
   | ((with_reducible refine gate_store (t:=24) (p:=14) rfl ?_);(refine ev_store (cs':=#[.slice A14 l.length c14]) (.agg #[.slice A14 l.length c14]) 0 HO.out rfl rfl rfl rfl 0 rfl rfl sz24 za83 (Nat.le_refl _) rfl ?_;intro W_ hO;clear HO x0;have HO:=Aside0.mk hO;clear hO;have x0:=HO.out.box_cell 0 rfl 0 rfl)))
  clear x0
  go_loopw [55] (fun v55 w'=>∃ i:Nat,v55=.int .i64 i∧Aside0 (i≤l.length)∧Aside0 (Own W4 w' [.box g14 24 #[.slice A14 l.length c14]])) (fun v55 _=>l.length - (intOf v55).toNat)
  case atStart=>exact ⟨0,rfl,⟨Nat.zero_le _⟩,HO⟩
  case round =>
   clear HO
   obtain ⟨i,rfl,HI2,HO⟩:=hrel
   by_cases hlt:i<l.length
   case neg =>
    have s1:((i:Int)<(l.length:Int))=False:=eq_false (by omega)
    have d1:decide ((i:Int)<(l.length:Int))=false:=decide_eq_false (by omega)
    clear hlt
    go_wp2
    go_roundw
    case rel=>exact ⟨j + 1,by go_num,⟨HJL.out⟩,⟨HO.out.upto 0⟩⟩
    case measure=>have:=HJL.out;simp [intOf];omega
   have hmem:=getD_in l i z49 hlt
   obtain ⟨adr,A0',c0',A1',c1',A2',c2',A3',c3',A4',c4',hA,x0,x1,x2,x3,x4,y0,y1,y2,y3,y4,y5,y6,y7,y8,y9⟩:=at_T49 HLC.out (i:Int) (by omega) (by omega)
   subst hA
   rw [show rd_T49 l (i:Int)=l.getD i z49 from rfl] at x0 x1 x2 x3 x4 y0 y1 y2 y3 y4 y5 y6 y7 y8 y9
   rw [Int.toNat_natCast] at x0 x1 x2 x3 x4
   replace x0:=pw_cell_below HO.out.below x0
   replace x1:=pw_cell_below HO.out.below x1
   replace x2:=pw_cell_below HO.out.below x2
   replace x3:=pw_cell_below HO.out.below x3
   replace x4:=pw_cell_below HO.out.below x4
   have hbr:=HBL.out.2 _ hmem
   generalize l.getD i z49=yv at *
   obtain ⟨f0,f1,f2,f3,f4⟩:=yv
   dsimp only at x0 x1 x2 x3 x4 y0 y1 y2 y3 y4 y5 y6 y7 y8 y9
   have Y0:=Aside0.mk y0
   have Y1:=Aside0.mk y1
   have Y2:=Aside0.mk y2
   have Y3:=Aside0.mk y3
   have Y4:=Aside0.mk y4
   have Y5:=Aside0.mk y5
   have Y6:=Aside0.mk y6
   have Y7:=Aside0.mk y7
   have Y8:=Aside0.mk y8
   have Y9:=Aside0.mk y9
   have HME:=Aside0.mk (fun (is:List S55) (hi:is.length≤1000000) (a:Int)=>both_match f0 f1 f2 f3 f4 is (Nat.le_trans hbr.b0 (by decide)) (Nat.le_trans hbr.b1 (by decide)) (Nat.le_trans hbr.b2 (by decide)) hi (lens Y1.out rfl) (lens Y3.out rfl) (lens Y5.out rfl) a)
   have s1:((i:Int)<(l.length:Int))=True:=eq_true (by omega)
   have s0:(0≤(i:Int))=True:=eq_true (by omega)
   have hki:(i:Int) + 1≤9223372036854775807:=by omega
   have HIL2:=Aside0.mk hlt
   have him:(its.length:Int)≤24:=by have:=HIL.out;omega
   clear y0 y1 y2 y3 y4 y5 y6 y7 y8 y9 hlt hmem hbr
   go_wp2_with (first
    | ((with_reducible refine gate_dst (N:=16) rfl ?_);(refine ev_box (N:=16) (cs:=#[.slice none 0 0,.slice none 0 0,.slice none 0 0,.slice none 0 0,.slice none 0 0]) (t:=49) HO.out rfl rfl ?hr ?_;(case hr=>first|(go_simp;done)|(go_simp;rfl));intro g16 W_ hO hb_;have y0:=pw_cell_below hb_ x0;have y1:=pw_cell_below hb_ x1;have y2:=pw_cell_below hb_ x2;have y3:=pw_cell_below hb_ x3;have y4:=pw_cell_below hb_ x4;clear HO hb_ x0 x1 x2 x3 x4;have HO:=Aside0.mk hO;clear hO))
    | ((with_reducible refine gate_store (t:=49) (p:=16) rfl ?_);(refine ev_store (cs':=#[.slice A0' f0.length c0',.slice A1' f1.length c1',.slice A2' f2.length c2',.slice A3' f3.length c3',.slice A4' f4.length c4']) (.agg #[.slice A0' f0.length c0',.slice A1' f1.length c1',.slice A2' f2.length c2',.slice A3' f3.length c3',.slice A4' f4.length c4']) 1 HO.out rfl rfl rfl rfl 0 rfl rfl sz49 za83 (Nat.le_refl _) rfl ?_;intro W_ hO;clear HO y0 y1 y2 y3 y4;have HO:=Aside0.mk hO;clear hO)))
   go_loopw [17] (fun v17 w'=>∃ q:Nat,v17=.int .i64 ((q:Int) - 1)∧Aside0 (q≤its.length + 2)∧Aside0 (Own W4 w' [.box g14 24 #[.slice (some adr) l.length c14],.box g16 49 #[.slice A0' f0.length c0',.slice A1' f1.length c1',.slice A2' f2.length c2',.slice A3' f3.length c3',.slice A4' f4.length c4']])) (fun v17 _=>its.length + 4 - (intOf v17 + 1).toNat)
   case atStart=>exact ⟨0,rfl,⟨Nat.zero_le _⟩,HO⟩
   case round =>
    clear HO
    obtain ⟨q,rfl,HQQ,HO⟩:=hrel
    have z0:=HO.out.box_cell 1 rfl 0 rfl
    have z1:=HO.out.box_cell 1 rfl 1 rfl
    have z2:=HO.out.box_cell 1 rfl 2 rfl
    have z3:=HO.out.box_cell 1 rfl 3 rfl
    have z4:=HO.out.box_cell 1 rfl 4 rfl
    by_cases hlt:(q:Int) - 1≤(its.length:Int)
    case pos =>
     obtain ⟨km,b,hk1,hk2⟩:=HME.out its (by have:=HIL.out;omega) ((q:Int) - 1)
     have HK1:=Aside0.mk hk1
     have HK2:=Aside0.mk hk2
     have t1:((q:Int) - 1≤(its.length:Int))=True:=eq_true hlt
     have t2:decide ((q:Int) - 1≤(its.length:Int))=true:=decide_eq_true hlt
     have hw0:IntKind.i64.wrap ((q:Int) - 1 + 1)=(q:Int):=by rw [show (q:Int) - 1 + 1=(q:Int) by omega];exact IntWalk.i64_in _ (by omega)
     have hw1:IntKind.i64.wrap (q:Int)=(q:Int):=IntWalk.i64_in _ (by omega)
     have HQL2:=Aside0.mk hlt
     clear hlt hk1 hk2
     go_upto_region 13 with (fail)
     go_region_held3 (fun w'=>w'.cell? ⟨g16,0,none⟩=some (.slice A0' f0.length c0')∧w'.cell? ⟨g16,1,none⟩=some (.slice A1' f1.length c1')∧w'.cell? ⟨g16,2,none⟩=some (.slice A2' f2.length c2')∧w'.cell? ⟨g16,3,none⟩=some (.slice A3' f3.length c3')∧w'.cell? ⟨g16,4,none⟩=some (.slice A4' f4.length c4')) (go_keep) (first
      | (go_at_call 21;refine (rules_Match.calls km A0' c0' f0 A1' c1' f1 A2' c2' f2 A3' c3' f3 A4' c4' f4 A7 c7 its ((q:Int) - 1) b _ (HO.out.drew.old Y1.out) Y0.out (HO.out.drew.old Y3.out) Y2.out (HO.out.drew.old Y5.out) Y4.out (HO.out.drew.old Y7.out) Y6.out (HO.out.drew.old Y9.out) Y8.out (HO.out.drew.old HI.out) HCI.out HK1.out).mono ?_;rintro e_ W_ ⟨rfl,hb⟩;have nO:=Aside0.mk (HO.out.drew.grow hb);clear HO hb z0 z1 z2 z3 z4;have HO:=nO;clear nO;have z0:=HO.out.box_cell 1 rfl 0 rfl;have z1:=HO.out.box_cell 1 rfl 1 rfl;have z2:=HO.out.box_cell 1 rfl 2 rfl;have z3:=HO.out.box_cell 1 rfl 3 rfl;have z4:=HO.out.box_cell 1 rfl 4 rfl)
      | (go_at_call 22;refine (abugidaref16_Match.calls km A0' c0' f0 A1' c1' f1 A2' c2' f2 A3' c3' f3 A4' c4' f4 A7 c7 its ((q:Int) - 1) b _ (HO.out.old Y1.out) Y0.out (HO.out.old Y3.out) Y2.out (HO.out.old Y5.out) Y4.out (HO.out.old Y7.out) Y6.out (HO.out.old Y9.out) Y8.out (HO.out.old HI.out) HCI.out HK2.out).mono ?_;rintro e_ W_ ⟨rfl,hb⟩;have nO:=Aside0.mk (HO.out.grow hb);clear HO hb z0 z1 z2 z3 z4;have HO:=nO;clear nO;have z0:=HO.out.box_cell 1 rfl 0 rfl;have z1:=HO.out.box_cell 1 rfl 1 rfl;have z2:=HO.out.box_cell 1 rfl 2 rfl;have z3:=HO.out.box_cell 1 rfl 3 rfl;have z4:=HO.out.box_cell 1 rfl 4 rfl))
     all_goals
      try go_wp2
      go_roundw
      case rel=>exact ⟨q + 1,by go_num,⟨by have:=HQL2.out;omega⟩,HO⟩
      case measure=>have:=HQL2.out;simp [intOf];omega
    have t1:((q:Int) - 1≤(its.length:Int))=False:=eq_false hlt
    have t2:decide ((q:Int) - 1≤(its.length:Int))=false:=decide_eq_false hlt
    obtain ⟨kp,bp,hk1,hk2⟩:=HME.out qs (by have:=HQL.out;omega) qa
    obtain ⟨kz,bz,hk3,hk4⟩:=HME.out qs (by have:=HQL.out;omega) 0
    have HK1:=Aside0.mk hk1
    have HK2:=Aside0.mk hk2
    have HK3:=Aside0.mk hk3
    have HK4:=Aside0.mk hk4
    have p1:=pw_cell_below HO.out.below P1.out
    clear hlt hk1 hk2 hk3 hk4
    go_upto_region 15 with (fail)
    go_region_held3 (fun w'=>w'.cell? ⟨g16,0,none⟩=some (.slice A0' f0.length c0')∧w'.cell? ⟨g16,1,none⟩=some (.slice A1' f1.length c1')∧w'.cell? ⟨g16,2,none⟩=some (.slice A2' f2.length c2')∧w'.cell? ⟨g16,3,none⟩=some (.slice A3' f3.length c3')∧w'.cell? ⟨g16,4,none⟩=some (.slice A4' f4.length c4')∧w'.cell? ⟨g5,1,none⟩=some (.int .i64 qa)) (go_keep) (first
     | (go_at_call_has 21 (Value.int .i64 (0));refine (rules_Match.calls kz A0' c0' f0 A1' c1' f1 A2' c2' f2 A3' c3' f3 A4' c4' f4 Ap cp qs (0) bz _ (HO.out.old Y1.out) Y0.out (HO.out.old Y3.out) Y2.out (HO.out.old Y5.out) Y4.out (HO.out.old Y7.out) Y6.out (HO.out.old Y9.out) Y8.out (HO.out.old HQ.out) HQC.out HK3.out).mono ?_;rintro e_ W_ ⟨rfl,hb⟩;have nO:=Aside0.mk (HO.out.grow hb);clear HO hb z0 z1 z2 z3 z4;have HO:=nO;clear nO;have z0:=HO.out.box_cell 1 rfl 0 rfl;have z1:=HO.out.box_cell 1 rfl 1 rfl;have z2:=HO.out.box_cell 1 rfl 2 rfl;have z3:=HO.out.box_cell 1 rfl 3 rfl;have z4:=HO.out.box_cell 1 rfl 4 rfl;clear p1;have p1:=pw_cell_below HO.out.below P1.out)
     | (go_at_call_has 22 (Value.int .i64 (0));refine (abugidaref16_Match.calls kz A0' c0' f0 A1' c1' f1 A2' c2' f2 A3' c3' f3 A4' c4' f4 Ap cp qs (0) bz _ (HO.out.old Y1.out) Y0.out (HO.out.old Y3.out) Y2.out (HO.out.old Y5.out) Y4.out (HO.out.old Y7.out) Y6.out (HO.out.old Y9.out) Y8.out (HO.out.old HQ.out) HQC.out HK4.out).mono ?_;rintro e_ W_ ⟨rfl,hb⟩;have nO:=Aside0.mk (HO.out.grow hb);clear HO hb z0 z1 z2 z3 z4;have HO:=nO;clear nO;have z0:=HO.out.box_cell 1 rfl 0 rfl;have z1:=HO.out.box_cell 1 rfl 1 rfl;have z2:=HO.out.box_cell 1 rfl 2 rfl;have z3:=HO.out.box_cell 1 rfl 3 rfl;have z4:=HO.out.box_cell 1 rfl 4 rfl;clear p1;have p1:=pw_cell_below HO.out.below P1.out)
     | (go_at_call_has 21 (Value.int .i64 (qa));refine (rules_Match.calls kp A0' c0' f0 A1' c1' f1 A2' c2' f2 A3' c3' f3 A4' c4' f4 Ap cp qs (qa) bp _ (HO.out.drew.old Y1.out) Y0.out (HO.out.drew.old Y3.out) Y2.out (HO.out.drew.old Y5.out) Y4.out (HO.out.drew.old Y7.out) Y6.out (HO.out.drew.old Y9.out) Y8.out (HO.out.drew.old HQ.out) HQC.out HK1.out).mono ?_;rintro e_ W_ ⟨rfl,hb⟩;have nO:=Aside0.mk (HO.out.drew.grow hb);clear HO hb z0 z1 z2 z3 z4;have HO:=nO;clear nO;have z0:=HO.out.box_cell 1 rfl 0 rfl;have z1:=HO.out.box_cell 1 rfl 1 rfl;have z2:=HO.out.box_cell 1 rfl 2 rfl;have z3:=HO.out.box_cell 1 rfl 3 rfl;have z4:=HO.out.box_cell 1 rfl 4 rfl;clear p1;have p1:=pw_cell_below HO.out.below P1.out)
     | (go_at_call_has 22 (Value.int .i64 (qa));refine (abugidaref16_Match.calls kp A0' c0' f0 A1' c1' f1 A2' c2' f2 A3' c3' f3 A4' c4' f4 Ap cp qs (qa) bp _ (HO.out.old Y1.out) Y0.out (HO.out.old Y3.out) Y2.out (HO.out.old Y5.out) Y4.out (HO.out.old Y7.out) Y6.out (HO.out.old Y9.out) Y8.out (HO.out.old HQ.out) HQC.out HK2.out).mono ?_;rintro e_ W_ ⟨rfl,hb⟩;have nO:=Aside0.mk (HO.out.grow hb);clear HO hb z0 z1 z2 z3 z4;have HO:=nO;clear nO;have z0:=HO.out.box_cell 1 rfl 0 rfl;have z1:=HO.out.box_cell 1 rfl 1 rfl;have z2:=HO.out.box_cell 1 rfl 2 rfl;have z3:=HO.out.box_cell 1 rfl 3 rfl;have z4:=HO.out.box_cell 1 rfl 4 rfl;clear p1;have p1:=pw_cell_below HO.out.below P1.out)
     )
    all_goals
     try go_wp2
     go_roundw
     case rel=>exact ⟨i + 1,by go_num,⟨HIL2.out⟩,⟨HO.out.upto 1⟩⟩
     case measure=>have:=HIL2.out;simp [intOf];omega
end Go.Proofs.Ytlgkeaildncojaa.Q
end
section
namespace Go.Proofs.Ytlgkeaildncojaa.Q
open Go.RowKit Go.Shelf Go.Proofs.YtlgkeaildncojaaW.PrintWords Go.Proofs.YtlgkeaildncojaaW.PrintLast Go.Proofs.YtlgkeaildncojaaW.PrintMore
theorem ex3 {w W:World} {K:Nat→Obj→Prop} {a0 a1 a2 a3 a4 a5 X1 X2:Res} {L:List Res} (HO:Own w W (a0 :: a1 :: a2 :: a3 :: a4 :: a5 :: X1 :: X2 :: L) K):EX w [X1,X2] W:=by
 refine EX.of HO (fun X h=>?_)
 rcases List.mem_cons.mp h with rfl|h
 ·
  exact ⟨6,rfl⟩
 ·
  rw [List.mem_singleton] at h
  subst h
  exact ⟨7,rfl⟩
theorem sz25:(Try.prog.info? 25).map (·.size)=some 1:=by kernel_rfl
theorem sz22:(Try.prog.info? 22).map (·.size)=some 1:=by kernel_rfl
theorem sz26:(Try.prog.info? 26).map (·.size)=some 1:=by kernel_rfl
theorem sz47:(Try.prog.info? 47).map (·.size)=some 1:=by kernel_rfl
end Go.Proofs.Ytlgkeaildncojaa.Q
end
