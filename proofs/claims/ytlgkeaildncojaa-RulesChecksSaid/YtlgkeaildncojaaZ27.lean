/- Texts of this claim, merged by wip/tools/pack.py: Qx10, Qx13, Qx14, Qx21, Qx23, Rp, Rq, Ca, Qx3, Sa, Rt, Nn, Rf, Od. -/
import Derived.Test.YtlgkeaildncojaaZ26
section
namespace Go.Proofs.Ytlgkeaildncojaa.Q
open Go.RowKit Go.Proofs.YtlgkeaildncojaaW.PrintWords Go.Proofs.YtlgkeaildncojaaW.PrintLast Go.Proofs.YtlgkeaildncojaaW.PrintMore
attribute [local go_sem] max2_int min2_int max_two min_two max_three min_three max_four min_four   -- for this text's walks alone
set_option linter.unusedVariables false
set_option linter.unusedSimpArgs false
attribute [local go_sem high] eqA55
def abugidaref16_Same.l0:Nat→List (S55)→List (S55)→Int→Option (Bool)
 | 0,_,_,_=>none
 | k+1,x0,x1,x5=>if x5<(x0.length:Int) then (if 0≤x5 then (if x5<(x1.length:Int) then (if (!(((rd_T55 x0 x5).f0)==((rd_T55 x1 x5).f0)) || (!(((rd_T55 x0 x5).f1)==((rd_T55 x1 x5).f1))))=true then (some false) else (abugidaref16_Same.l0 k x0 x1 (wrap64 (x5+1)))) else (none)) else (none)) else (some true)
def abugidaref16_Same.f (k:Nat) (l0:List (S55)) (l1:List (S55)):Option (Bool):=if (l0.length:Int)=(l1.length:Int) then (abugidaref16_Same.l0 k l0 l1 0) else (some false)
theorem abugidaref16_Same.mono_l:∀ k,(∀ y0 y1 y2,LeO (abugidaref16_Same.l0 k y0 y1 y2) (abugidaref16_Same.l0 (k+1) y0 y1 y2))
 | 0=>fun _ _ _ r h=>by simp [abugidaref16_Same.l0] at h
 | k+1=>by
  have ih0:=abugidaref16_Same.mono_l k
  ·
   intro y0 y1 y2
   unfold abugidaref16_Same.l0
   repeat' first
   | (with_reducible exact ih0 _ _ _)
   | (with_reducible exact LeO.refl _)
   | (with_reducible exact LeO.none _)
   | (with_reducible refine LeO.ite ?_ ?_)
   | (with_reducible refine LeO.bind ?_ (fun _=>?_))
   | exact ih0 _ _ _
   | exact LeO.none _
   | refine LeO.ite ?_ ?_
   | refine LeO.bind ?_ (fun _=>?_)
theorem abugidaref16_Same.mono:∀ a0 a1 k,LeO (abugidaref16_Same.f k a0 a1) (abugidaref16_Same.f (k+1) a0 a1):=by
 intro a0 a1 k
 have ih0:=abugidaref16_Same.mono_l k
 unfold abugidaref16_Same.f
 repeat' first
   | (with_reducible exact ih0 _ _ _)
   | (with_reducible exact LeO.refl _)
   | (with_reducible exact LeO.none _)
   | (with_reducible refine LeO.ite ?_ ?_)
   | (with_reducible refine LeO.bind ?_ (fun _=>?_))
   | exact ih0 _ _ _
   | exact LeO.none _
   | refine LeO.ite ?_ ?_
   | refine LeO.bind ?_ (fun _=>?_)
set_option maxHeartbeats 8000000 in
set_option maxRecDepth 100000 in
theorem abugidaref16_Same.calls (k:Nat) (A0:Option Addr) (c0:Nat) (l0:List (S55)) (A1:Option Addr) (c1:Nat) (l1:List (S55)) (r:Bool) (w:World) (hr0:Kd.C k55 w A0 l0.length l0) (hc0:l0.length≤c0) (hr1:Kd.C k55 w A1 l1.length l1) (hc1:l1.length≤c1) (h:abugidaref16_Same.f k l0 l1=some r) :
  Calls Try.prog 26 #[.slice A0 l0.length c0,.slice A1 l1.length c1] w fun e w'=>e=.returned (.bool r)∧Drawn0 w w':=by
 have hu55:=Try.underlying55
 have HR0:=Aside0.mk hr0
 have HC0:=Aside0.mk hc0
 clear hr0 hc0
 have HR1:=Aside0.mk hr1
 have HC1:=Aside0.mk hc1
 clear hr1 hc1
 have H:(if (l0.length:Int)=(l1.length:Int) then (abugidaref16_Same.l0 k l0 l1 0) else (some false))=some r:=h
 clear h
 by_cases c3:(l0.length:Int)=(l1.length:Int)
 ·
  rw [if_pos c3] at H
  have c3b0:((l0.length:Int)==(l1.length:Int))=true:=beq_iff_eq.mpr c3
  have c3b1:((l0.length:Int) != (l1.length:Int))=false:=bne_eq_false_iff_eq.mpr c3
  have c3b2:(l0.length==l1.length)=true:=by first|simpa using c3|(simp at c3 ⊢;omega)
  clear c3
  have H':=Aside0.mk H
  clear H
  go_enter Try.func26,Try.ntmps26
  go_wp2
  repeat (go_quiet (fail);try go_wp2)
  go_loopg [5] k (fun kq v5 w'=>∃ (x5_1:Int),v5=.int .i64 x5_1∧Aside0 (abugidaref16_Same.l0 kq l0 l1 x5_1=some r)∧Aside0 (kq≤k)∧Drawn0 w w')
  case atStart=>exact ⟨(0),za76,H',⟨Nat.le_refl _⟩,by repeat (first|exact Drawn0.refl _|apply Drawn0.step)⟩
  case round =>
   clear H'
   try clear c1
   try clear c2
   try clear p2
   try clear c3
   try clear c3b0
   try clear c3b1
   try clear c3b2
   obtain ⟨x5_1,rfl,HA,HK1,⟨m1,rfl⟩⟩:=hrel
   cases gk with
   | zero=>exact absurd HA.out (by simp [abugidaref16_Same.l0])
   | succ k1 =>
    have H:=HA.out
    clear HA
    simp only [abugidaref16_Same.l0] at H
    by_cases c4:x5_1<(l0.length:Int)
    ·
     rw [if_pos c4] at H
     have c4b0:decide (x5_1<(l0.length:Int))=true:=decide_eq_true c4
     clear c4
     by_cases c5:0≤x5_1
     ·
      rw [if_pos c5] at H
      have c5b0:decide (0≤x5_1)=true:=decide_eq_true c5
      clear c5
      by_cases c6:x5_1<(l1.length:Int)
      ·
       rw [if_pos c6] at H
       have c6b0:decide (x5_1<(l1.length:Int))=true:=decide_eq_true c6
       clear c6
       by_cases c7:(!(((rd_T55 l0 x5_1).f0)==((rd_T55 l1 x5_1).f0)) || (!(((rd_T55 l0 x5_1).f1)==((rd_T55 l1 x5_1).f1))))=true
       ·
        rw [if_pos c7] at H
        have c7b0:(!(((rd_T55 l0 x5_1).f0)==((rd_T55 l1 x5_1).f0)) || (!(((rd_T55 l0 x5_1).f1)==((rd_T55 l1 x5_1).f1))))=true:=c7
        clear c7
        obtain rfl:=Option.some.inj H
        have p152:0≤(x5_1:Int):=of_decide_eq_true za73
        have q152:x5_1<(l0.length:Int):=of_decide_eq_true za73
        obtain ⟨j7_,e152,j3_,j4_⟩:=at_T55 HR0.out x5_1 p152 q152
        cases e152
        replace p152:=eq_true p152
        replace q152:=eq_true q152
        have p153:0≤(x5_1:Int):=of_decide_eq_true za73
        have q153:x5_1<(l1.length:Int):=of_decide_eq_true za73
        obtain ⟨j8_,e153,j5_,j6_⟩:=at_T55 HR1.out x5_1 p153 q153
        cases e153
        replace p153:=eq_true p153
        replace q153:=eq_true q153
        go_wp2
        repeat (go_quiet (fail);try go_wp2)
        go_ret
        exact ⟨by first|rfl|(simp;done)|(simp [*];done),by repeat (first|exact Drawn0.refl _|apply Drawn0.step)⟩
       ·
        rw [if_neg c7] at H
        have c7b0:(!(((rd_T55 l0 x5_1).f0)==((rd_T55 l1 x5_1).f0)) || (!(((rd_T55 l0 x5_1).f1)==((rd_T55 l1 x5_1).f1))))=false:=by simpa using c7
        clear c7
        have H':=Aside0.mk H
        clear H
        have p152:0≤(x5_1:Int):=of_decide_eq_true za73
        have q152:x5_1<(l0.length:Int):=of_decide_eq_true za73
        obtain ⟨j7_,e152,j3_,j4_⟩:=at_T55 HR0.out x5_1 p152 q152
        cases e152
        replace p152:=eq_true p152
        replace q152:=eq_true q152
        have p153:0≤(x5_1:Int):=of_decide_eq_true za73
        have q153:x5_1<(l1.length:Int):=of_decide_eq_true za73
        obtain ⟨j8_,e153,j5_,j6_⟩:=at_T55 HR1.out x5_1 p153 q153
        cases e153
        replace p153:=eq_true p153
        replace q153:=eq_true q153
        go_wp2
        repeat (go_quiet (fail);try go_wp2)
        go_roundg k1
        case measure=>have:=HK1.out;omega
        case rel=>exact ⟨(wrap64 (x5_1+1)),za76,H',⟨by have:=HK1.out;omega⟩,by repeat (first|exact Drawn0.refl _|apply Drawn0.step)⟩
      ·
       rw [if_neg c6] at H
       exact absurd H (by simp)
     ·
      rw [if_neg c5] at H
      exact absurd H (by simp)
    ·
     rw [if_neg c4] at H
     have c4b0:decide (x5_1<(l0.length:Int))=false:=decide_eq_false c4
     clear c4
     obtain rfl:=Option.some.inj H
     go_wp2
     repeat (go_quiet (fail);try go_wp2)
     go_ret
     exact ⟨by first|rfl|(simp;done)|(simp [*];done),by repeat (first|exact Drawn0.refl _|apply Drawn0.step)⟩
 ·
  rw [if_neg c3] at H
  have c3b0:((l0.length:Int)==(l1.length:Int))=false:=beq_eq_false_iff_ne.mpr c3
  have c3b1:((l0.length:Int) != (l1.length:Int))=true:=bne_iff_ne.mpr c3
  have c3b2:(l0.length==l1.length)=false:=by first|simpa using c3|(simp at c3 ⊢;omega)
  obtain rfl:=Option.some.inj H
  go_enter Try.func26,Try.ntmps26
  go_wp2
  repeat (go_quiet (fail);try go_wp2)
  go_ret
  exact ⟨by first|rfl|(simp;done)|(simp [*];done),by repeat (first|exact Drawn0.refl _|apply Drawn0.step)⟩
def abugidalaw16_gives.f (k:Nat) (l0:List (S24)) (a1:Int) (l2:List (S55)) (l3:List Bool) (a4:Int) (l5:List (S55)):Option (Bool):=(rules_Apply.f l0 a1 l2 l3).bind fun bt154=>(if bt154.2.2=0 then (if bt154.2.1=a4 then ((abugidaref16_Same.f k bt154.1 l5).bind fun t159=>(some t159)) else (some false)) else (some false))
theorem abugidalaw16_gives.mono:∀ a0 a1 a2 a3 a4 a5 k,LeO (abugidalaw16_gives.f k a0 a1 a2 a3 a4 a5) (abugidalaw16_gives.f (k+1) a0 a1 a2 a3 a4 a5):=by
 intro a0 a1 a2 a3 a4 a5 k
 unfold abugidalaw16_gives.f
 repeat' first
   | (with_reducible exact abugidaref16_Same.mono _ _ _)
   | (with_reducible exact LeO.refl _)
   | (with_reducible exact LeO.none _)
   | (with_reducible refine LeO.ite ?_ ?_)
   | (with_reducible refine LeO.bind ?_ (fun _=>?_))
   | exact abugidaref16_Same.mono _ _ _
   | exact LeO.none _
   | refine LeO.ite ?_ ?_
   | refine LeO.bind ?_ (fun _=>?_)
set_option maxHeartbeats 8000000 in
set_option maxRecDepth 100000 in
theorem abugidalaw16_gives.calls (k:Nat) (A0:Option Addr) (c0:Nat) (l0:List (S24)) (a1:Int) (A2:Option Addr) (c2:Nat) (l2:List (S55)) (A3:Option Addr) (c3:Nat) (l3:List Bool) (a4:Int) (A5:Option Addr) (c5:Nat) (l5:List (S55)) (r:Bool) (w:World) (hr0:Kd.C k24 w A0 l0.length l0) (hc0:l0.length≤c0) (hr2:Kd.C k55 w A2 l2.length l2) (hc2:l2.length≤c2) (hr3:Kd.C Kd.bool w A3 l3.length l3) (hc3:l3.length≤c3) (hr5:Kd.C k55 w A5 l5.length l5) (hc5:l5.length≤c5) (h:abugidalaw16_gives.f k l0 a1 l2 l3 a4 l5=some r) :
  Calls Try.prog 28 #[.slice A0 l0.length c0,.int .i64 a1,.slice A2 l2.length c2,.slice A3 l3.length c3,.int .i64 a4,.slice A5 l5.length c5] w fun e w'=>e=.returned (.bool r)∧Below w.heap.size w w':=by
 have HR0:=Aside0.mk hr0
 have HC0:=Aside0.mk hc0
 clear hr0 hc0
 have HR2:=Aside0.mk hr2
 have HC2:=Aside0.mk hc2
 clear hr2 hc2
 have HR3:=Aside0.mk hr3
 have HC3:=Aside0.mk hc3
 clear hr3 hc3
 have HR5:=Aside0.mk hr5
 have HC5:=Aside0.mk hc5
 clear hr5 hc5
 have HB:=Aside0.mk (Below.refl w.heap.size w)
 have H:((rules_Apply.f l0 a1 l2 l3).bind fun bt154=>(if bt154.2.2=0 then (if bt154.2.1=a4 then ((abugidaref16_Same.f k bt154.1 l5).bind fun t159=>(some t159)) else (some false)) else (some false)))=some r:=h
 clear h
 replace H:=Option.bind_eq_some_iff.mp H
 obtain ⟨⟨t154,t155,t156⟩,A70,H⟩:=H
 replace H:(if t156=0 then (if t155=a4 then ((abugidaref16_Same.f k t154 l5).bind fun t159=>(some t159)) else (some false)) else (some false))=some r:=H
 have A7:=Aside0.mk A70
 clear A70
 by_cases c8:t156=0
 ·
  rw [if_pos c8] at H
  have c8b0:(t156==0)=true:=beq_iff_eq.mpr c8
  have c8b1:(t156 != 0)=false:=bne_eq_false_iff_eq.mpr c8
  clear c8
  by_cases c9:t155=a4
  ·
   rw [if_pos c9] at H
   have c9b0:(t155==a4)=true:=beq_iff_eq.mpr c9
   have c9b1:(t155 != a4)=false:=bne_eq_false_iff_eq.mpr c9
   clear c9
   replace H:=Option.bind_eq_some_iff.mp H
   obtain ⟨t159,A100,H⟩:=H
   replace H:(some t159)=some r:=H
   have A10:=Aside0.mk A100
   clear A100
   obtain rfl:=Option.some.inj H
   go_enter Try.func28,Try.ntmps28
   go_wp2_with (first|((with_reducible refine gate_callee (f:=23) rfl ?_);refine goesL_ (some 21) rfl rfl Try.func23 (by kernel_rfl) rfl #[.slice A0 l0.length c0,.int .i64 a1,.slice A2 l2.length c2,.slice A3 l3.length c3] rfl za39 ?_;(with_reducible refine (rules_Apply.calls _ _ l0 a1 _ _ l2 _ _ l3 t154 t155 t156 _ ?side1 ?side2 ?side3 ?side4 ?side5 ?side6 A7.out).mono ?_);(case side1=>repeat (first|exact HR0.out|(with_reducible refine Kd.C_alloc ?_ _)|(with_reducible refine Kd.C_drewN ?_ _)|(with_reducible refine Kd.C_drew ?_)));(case side2=>exact HC0.out);(case side3=>repeat (first|exact HR2.out|(with_reducible refine Kd.C_alloc ?_ _)|(with_reducible refine Kd.C_drewN ?_ _)|(with_reducible refine Kd.C_drew ?_)));(case side4=>exact HC2.out);(case side5=>repeat (first|exact HR3.out|(with_reducible refine Kd.C_alloc ?_ _)|(with_reducible refine Kd.C_drewN ?_ _)|(with_reducible refine Kd.C_drew ?_)));(case side6=>exact HC3.out);rintro e w11 ⟨v157,rfl,ho0,hb⟩;refine ⟨_,rfl,?_⟩;have n0_:=Aside0.mk (Kd.R_lower ho0 (below_size za40));have n1_:=Aside0.mk (below_step za40 hb);clear HB;have j0_:=n0_;have HB:=n1_;clear n0_ n1_;(try clear hb);(try clear hb2);(try clear hk);(try clear hi);(try clear ho0);obtain ⟨Ao12,co12,eo12⟩:=Kd.R_slice j0_.out;subst eo12)|(go_at_call 26;(with_reducible refine (abugidaref16_Same.calls k _ _ t154 _ _ l5 t159 _ ?side1 ?side2 ?side3 ?side4 A10.out).mono ?_);(case side1=>repeat (first|exact (Kd.R_reads' j0_.out).2.2|(with_reducible refine Kd.C_alloc ?_ _)|(with_reducible refine Kd.C_drewN ?_ _)|(with_reducible refine Kd.C_drew ?_)));(case side2=>exact (Kd.R_reads' j0_.out).2.1);(case side3=>repeat (first|exact (Kd.C_below HR5.out HB.out)|(with_reducible refine Kd.C_alloc ?_ _)|(with_reducible refine Kd.C_drewN ?_ _)|(with_reducible refine Kd.C_drew ?_)));(case side4=>exact HC5.out);rintro e w' ⟨rfl,⟨nd,rfl⟩⟩))
   go_ret
   exact ⟨by first|rfl|(simp [errW_none,errW_some]<;>rfl)|(simp [*,errW_none,errW_some]<;>rfl),by repeat (first|(with_reducible first|exact HB.out|apply below_alloc|apply pw_below_drewN|apply below_drew1)|exact HB.out)⟩
  ·
   rw [if_neg c9] at H
   have c9b0:(t155==a4)=false:=beq_eq_false_iff_ne.mpr c9
   have c9b1:(t155 != a4)=true:=bne_iff_ne.mpr c9
   obtain rfl:=Option.some.inj H
   go_enter Try.func28,Try.ntmps28
   go_wp2_with (first|((with_reducible refine gate_callee (f:=23) rfl ?_);refine goesL_ (some 21) rfl rfl Try.func23 (by kernel_rfl) rfl #[.slice A0 l0.length c0,.int .i64 a1,.slice A2 l2.length c2,.slice A3 l3.length c3] rfl za39 ?_;(with_reducible refine (rules_Apply.calls _ _ l0 a1 _ _ l2 _ _ l3 t154 t155 t156 _ ?side1 ?side2 ?side3 ?side4 ?side5 ?side6 A7.out).mono ?_);(case side1=>repeat (first|exact HR0.out|(with_reducible refine Kd.C_alloc ?_ _)|(with_reducible refine Kd.C_drewN ?_ _)|(with_reducible refine Kd.C_drew ?_)));(case side2=>exact HC0.out);(case side3=>repeat (first|exact HR2.out|(with_reducible refine Kd.C_alloc ?_ _)|(with_reducible refine Kd.C_drewN ?_ _)|(with_reducible refine Kd.C_drew ?_)));(case side4=>exact HC2.out);(case side5=>repeat (first|exact HR3.out|(with_reducible refine Kd.C_alloc ?_ _)|(with_reducible refine Kd.C_drewN ?_ _)|(with_reducible refine Kd.C_drew ?_)));(case side6=>exact HC3.out);rintro e w13 ⟨v157,rfl,ho0,hb⟩;refine ⟨_,rfl,?_⟩;have n0_:=Aside0.mk (Kd.R_lower ho0 (below_size za40));have n1_:=Aside0.mk (below_step za40 hb);clear HB;have j0_:=n0_;have HB:=n1_;clear n0_ n1_;(try clear hb);(try clear hb2);(try clear hk);(try clear hi);(try clear ho0)))
   go_ret
   exact ⟨by first|rfl|(simp [errW_none,errW_some]<;>rfl)|(simp [*,errW_none,errW_some]<;>rfl),by repeat (first|(with_reducible first|exact HB.out|apply below_alloc|apply pw_below_drewN|apply below_drew1)|exact HB.out)⟩
 ·
  rw [if_neg c8] at H
  have c8b0:(t156==0)=false:=beq_eq_false_iff_ne.mpr c8
  have c8b1:(t156 != 0)=true:=bne_iff_ne.mpr c8
  obtain rfl:=Option.some.inj H
  go_enter Try.func28,Try.ntmps28
  go_wp2_with (first|((with_reducible refine gate_callee (f:=23) rfl ?_);refine goesL_ (some 21) rfl rfl Try.func23 (by kernel_rfl) rfl #[.slice A0 l0.length c0,.int .i64 a1,.slice A2 l2.length c2,.slice A3 l3.length c3] rfl za39 ?_;(with_reducible refine (rules_Apply.calls _ _ l0 a1 _ _ l2 _ _ l3 t154 t155 t156 _ ?side1 ?side2 ?side3 ?side4 ?side5 ?side6 A7.out).mono ?_);(case side1=>repeat (first|exact HR0.out|(with_reducible refine Kd.C_alloc ?_ _)|(with_reducible refine Kd.C_drewN ?_ _)|(with_reducible refine Kd.C_drew ?_)));(case side2=>exact HC0.out);(case side3=>repeat (first|exact HR2.out|(with_reducible refine Kd.C_alloc ?_ _)|(with_reducible refine Kd.C_drewN ?_ _)|(with_reducible refine Kd.C_drew ?_)));(case side4=>exact HC2.out);(case side5=>repeat (first|exact HR3.out|(with_reducible refine Kd.C_alloc ?_ _)|(with_reducible refine Kd.C_drewN ?_ _)|(with_reducible refine Kd.C_drew ?_)));(case side6=>exact HC3.out);rintro e w14 ⟨v157,rfl,ho0,hb⟩;refine ⟨_,rfl,?_⟩;have n0_:=Aside0.mk (Kd.R_lower ho0 (below_size za40));have n1_:=Aside0.mk (below_step za40 hb);clear HB;have j0_:=n0_;have HB:=n1_;clear n0_ n1_;(try clear hb);(try clear hb2);(try clear hk);(try clear hi);(try clear ho0)))
  go_ret
  exact ⟨by first|rfl|(simp [errW_none,errW_some]<;>rfl)|(simp [*,errW_none,errW_some]<;>rfl),by repeat (first|(with_reducible first|exact HB.out|apply below_alloc|apply pw_below_drewN|apply below_drew1)|exact HB.out)⟩
def abugidalaw16_glyphs.l0:Nat→List (S55)→List Int→Int→Int→Option ((List (S55)))
 | 0,_,_,_,_=>none
 | k+1,x3,x6,x7,x8=>if x8<x7 then (if 0≤x8 then (if x8<(x6.length:Int) then (if x3.length<8796093022208 then (abugidalaw16_glyphs.l0 k (x3++[(⟨rd x6 x8,0⟩:S55)]) x6 x7 (wrap64 (x8+1))) else (none)) else (none)) else (none)) else (some x3)
def abugidalaw16_glyphs.f (k:Nat) (l0:List Int):Option ((List (S55))):=abugidalaw16_glyphs.l0 k ([]:List (S55)) l0 (l0.length:Int) 0
theorem abugidalaw16_glyphs.mono_l:∀ k,(∀ y0 y1 y2 y3,LeO (abugidalaw16_glyphs.l0 k y0 y1 y2 y3) (abugidalaw16_glyphs.l0 (k+1) y0 y1 y2 y3))
 | 0=>fun _ _ _ _ r h=>by simp [abugidalaw16_glyphs.l0] at h
 | k+1=>by
  have ih0:=abugidalaw16_glyphs.mono_l k
  ·
   intro y0 y1 y2 y3
   unfold abugidalaw16_glyphs.l0
   repeat' first
   | (with_reducible exact ih0 _ _ _ _)
   | (with_reducible exact LeO.refl _)
   | (with_reducible exact LeO.none _)
   | (with_reducible refine LeO.ite ?_ ?_)
   | (with_reducible refine LeO.bind ?_ (fun _=>?_))
   | exact ih0 _ _ _ _
   | exact LeO.none _
   | refine LeO.ite ?_ ?_
   | refine LeO.bind ?_ (fun _=>?_)
theorem abugidalaw16_glyphs.mono:∀ a0 k,LeO (abugidalaw16_glyphs.f k a0) (abugidalaw16_glyphs.f (k+1) a0):=by
 intro a0 k
 have ih0:=abugidalaw16_glyphs.mono_l k
 unfold abugidalaw16_glyphs.f
 repeat' first
   | (with_reducible exact ih0 _ _ _ _)
   | (with_reducible exact LeO.refl _)
   | (with_reducible exact LeO.none _)
   | (with_reducible refine LeO.ite ?_ ?_)
   | (with_reducible refine LeO.bind ?_ (fun _=>?_))
   | exact ih0 _ _ _ _
   | exact LeO.none _
   | refine LeO.ite ?_ ?_
   | refine LeO.bind ?_ (fun _=>?_)
set_option maxHeartbeats 8000000 in
set_option maxRecDepth 100000 in
theorem abugidalaw16_glyphs.calls (k:Nat) (A0:Option Addr) (c0:Nat) (l0:List Int) (r:List (S55)) (w:World) (hr0:Kd.C (Kd.int .i64) w A0 l0.length l0) (hc0:l0.length≤c0) (h:abugidalaw16_glyphs.f k l0=some r) :
  Calls Try.prog 30 #[.slice A0 l0.length c0] w fun e w'=>∃ v0_:Value,e=.returned (v0_)∧Kd.R k55 55 w' w.heap.size (fun _=>True) v0_ r∧Below w.heap.size w w':=by
 have hu55:=Try.underlying55
 have HR0:=Aside0.mk hr0
 have HC0:=Aside0.mk hc0
 clear hr0 hc0
 have HB:=Aside0.mk (Below.refl w.heap.size w)
 have H:(abugidalaw16_glyphs.l0 k ([]:List (S55)) l0 (l0.length:Int) 0)=some r:=h
 clear h
 have H':=Aside0.mk H
 clear H
 go_enter Try.func30,Try.ntmps30
 go_wp2
 go_loopg [3,8] k (fun kq v3 v8 w'=>∃ (x3_1:List (S55)) (x8_1:Int),v8=.int .i64 x8_1∧Aside0 (abugidalaw16_glyphs.l0 kq x3_1 l0 (l0.length:Int) x8_1=some r)∧Aside0 (kq≤k)∧Aside0 (Kd.R k55 55 w' w.heap.size (fun _=>True) v3 x3_1)∧Aside0 (Below w.heap.size w w'))
 case atStart=>exact ⟨(([]:List (S55))),(0),za76,H',⟨Nat.le_refl _⟩,⟨by first|exact Kd.R_nil _ _ _ _ _|exact Kd.N_nil _ _ _ _ _|exact Kd.V_nil _ _ _ _ _|exact Kd.Q_nil _ _ _ _ _|exact Kd.S_nil _ _ _ _ _⟩,⟨by repeat (first|(with_reducible first|exact HB.out|apply below_alloc|apply pw_below_drewN|apply below_drew1)|exact HB.out)⟩⟩
 case round =>
  clear H'
  obtain ⟨x3_1,x8_1,rfl,HA,HK1,HO_3,HB⟩:=hrel
  cases gk with
  | zero=>exact absurd HA.out (by simp [abugidalaw16_glyphs.l0])
  | succ k1 =>
   have H:=HA.out
   clear HA
   simp only [abugidalaw16_glyphs.l0] at H
   by_cases c2:x8_1<(l0.length:Int)
   ·
    rw [if_pos c2] at H
    have c2b0:decide (x8_1<(l0.length:Int))=true:=decide_eq_true c2
    clear c2
    by_cases c3:0≤x8_1
    ·
     rw [if_pos c3] at H
     have c3b0:decide (0≤x8_1)=true:=decide_eq_true c3
     clear c3
     by_cases c4:x8_1<(l0.length:Int)
     ·
      rw [if_pos c4] at H
      have c4b0:decide (x8_1<(l0.length:Int))=true:=decide_eq_true c4
      clear c4
      by_cases c5:x3_1.length<8796093022208
      ·
       rw [if_pos c5] at H
       have LMc5:=Aside0.mk c5
       clear c5
       obtain ⟨y161,j1_⟩:∃ y_:List (S55),y_=(x3_1++[(⟨rd l0 x8_1,0⟩:S55)]):=⟨_,rfl⟩
       replace H:(abugidalaw16_glyphs.l0 k1 y161 l0 (l0.length:Int) (wrap64 (x8_1+1)))=some r:=by first|(rw [j1_];with_reducible exact H)|(have H2_:=(Option.bind_some _ _).symm.trans H;rw [j1_];with_reducible exact H2_)|(have H2_:=(Option.bind_some _ _).symm.trans H;with_reducible exact H2_)|with_reducible exact H|(rw [j1_];exact H)|exact H
       have j9_:=Aside0.mk j1_
       clear j1_
       have H':=Aside0.mk H
       clear H
       have p160:0≤(x8_1:Int):=of_decide_eq_true za73
       have q160:x8_1<(l0.length:Int):=of_decide_eq_true za73
       obtain ⟨jb_,e160,j2_⟩:=Kd.at_int HR0.out x8_1 p160 q160
       cases e160
       replace j2_:=(HB.out.cell (World.block_lt_of_cell? w _ j2_)).trans j2_
       replace p160:=eq_true p160
       replace q160:=eq_true q160
       go_wp2_with (first|((with_reducible refine gate_builtin (b:=.append) (xs:=#[.tmp 12,.tmp 15]) rfl ?_);at_builtin;refine Kd.R_append k55 (w0:=w) w.heap.size rfl (.tmp 12) (.tmp 15) 33 55 (.agg #[(.int .i64 0),(.int .i64 0)]) 16 rfl Try.underlying33 info55 rfl (by decide) (by omega) u3 x3_1 (⟨rd l0 x8_1,0⟩:S55) [.int .i64 (rd l0 x8_1),.int .i64 0] (fun _=>True) (fun _=>False) rfl rfl ?aP (fun _ hk=>hk.elim) ?aF ?aO ?aB ?aS ?aL ?_;(case aP=>exact k55_mkM _ _ _ (⟨rd l0 x8_1,0⟩:S55));(case aB=>exact za40);(case aF=>exact (fun _ _=>trivial));(case aO=>exact za53);(case aS=>exact (below_size za40));(case aL=>have:=LMc5.out;omega);intro v162 w6 ho hb hg hat;rw [← j9_.out] at ho;have n0_:=Aside0.mk (hb);have n1_:=Aside0.mk (ho);clear HB;clear HO_3;have HB:=n0_;have ja_:=n1_;clear n0_ n1_;clear ho hb hg hat))
       go_roundg k1
       case measure=>have:=HK1.out;omega
       case rel=>exact ⟨(y161),(wrap64 (x8_1+1)),za76,H',⟨by have:=HK1.out;omega⟩,⟨by (with_reducible repeat (first|apply Kd.R_alloc|apply Kd.R_drewN|apply Kd.R_drew));exact ja_.out⟩,⟨by repeat (first|(with_reducible first|exact HB.out|apply below_alloc|apply pw_below_drewN|apply below_drew1)|exact HB.out)⟩⟩
      ·
       rw [if_neg c5] at H
       exact absurd H (by simp)
     ·
      rw [if_neg c4] at H
      exact absurd H (by simp)
    ·
     rw [if_neg c3] at H
     exact absurd H (by simp)
   ·
    rw [if_neg c2] at H
    have c2b0:decide (x8_1<(l0.length:Int))=false:=decide_eq_false c2
    clear c2
    obtain rfl:=Option.some.inj H
    go_wp2
    go_ret
    exact ⟨_,by first|rfl|(simp [errW_none,errW_some]<;>rfl)|(simp [*,errW_none,errW_some]<;>rfl),by (with_reducible repeat (first|apply Kd.R_alloc|apply Kd.R_drewN|apply Kd.R_drew));exact HO_3.out,by repeat (first|(with_reducible first|exact HB.out|apply below_alloc|apply pw_below_drewN|apply below_drew1)|exact HB.out)⟩
end Go.Proofs.Ytlgkeaildncojaa.Q
end
section
namespace Go.Proofs.Ytlgkeaildncojaa.Q
open Go.RowKit Go.Proofs.YtlgkeaildncojaaW.PrintWords Go.Proofs.YtlgkeaildncojaaW.PrintLast Go.Proofs.YtlgkeaildncojaaW.PrintMore
attribute [local go_sem] max2_int min2_int max_two min_two max_three min_three max_four min_four   -- for this text's walks alone
set_option linter.unusedVariables false
set_option linter.unusedSimpArgs false
end Go.Proofs.Ytlgkeaildncojaa.Q
end
section
namespace Go.Proofs.Ytlgkeaildncojaa.Q
open Go.RowKit Go.Proofs.YtlgkeaildncojaaW.PrintWords Go.Proofs.YtlgkeaildncojaaW.PrintLast Go.Proofs.YtlgkeaildncojaaW.PrintMore
attribute [local go_sem] max2_int min2_int max_two min_two max_three min_three max_four min_four   -- for this text's walks alone
set_option linter.unusedVariables false
set_option linter.unusedSimpArgs false
mutual
def abugidaref16_MadeItems.l0:Nat→List Int→List (S55)→Int→Int→Int→Option ((List (S55)))
 | 0,_,_,_,_,_=>none
 | k+1,x0,x3,x4,x5,x6=>if x6<(x0.length:Int) then (abugidaref16_MadeItems.j1 k x0 x3 x4 x5 x6 (decide (x6<24))) else (abugidaref16_MadeItems.j1 k x0 x3 x4 x5 x6 false)
def abugidaref16_MadeItems.j1:Nat→List Int→List (S55)→Int→Int→Int→Bool→Option ((List (S55)))
 | 0,_,_,_,_,_,_=>none
 | k+1,x0,x3,x4,x5,x6,x14=>if x14=true then (if x5 > 0 then (if x5=6 then (if 0≤x6 then (if x6<(x0.length:Int) then ((abugidaref01_Mod.f (rd x0 x6) 9).bind fun t284=>(if x3.length<8796093022208 then (abugidaref16_MadeItems.l0 k x0 (x3++[(⟨t284,wrap64 (x4+1)⟩:S55)]) (wrap64 (x4+1)) (0+1) (wrap64 (x6+1))) else (none))) else (none)) else (none)) else (if 0≤x6 then (if x6<(x0.length:Int) then ((abugidaref01_Mod.f (wrap64 (Int.tdiv (rd x0 x6) 9)) 4).bind fun t289=>(if t289=0 then ((abugidaref01_Mod.f (rd x0 x6) 9).bind fun t291=>(if x3.length<8796093022208 then (abugidaref16_MadeItems.l0 k x0 (x3++[(⟨t291,wrap64 (x4+1)⟩:S55)]) (wrap64 (x4+1)) (0+1) (wrap64 (x6+1))) else (none))) else ((abugidaref01_Mod.f (rd x0 x6) 9).bind fun t296=>(if x3.length<8796093022208 then (abugidaref16_MadeItems.l0 k x0 (x3++[(⟨t296,x4⟩:S55)]) x4 (wrap64 (x5+1)) (wrap64 (x6+1))) else (none))))) else (none)) else (none))) else (if 0≤x6 then (if x6<(x0.length:Int) then ((abugidaref01_Mod.f (rd x0 x6) 9).bind fun t301=>(if x3.length<8796093022208 then (abugidaref16_MadeItems.l0 k x0 (x3++[(⟨t301,x4⟩:S55)]) x4 (wrap64 (x5+1)) (wrap64 (x6+1))) else (none))) else (none)) else (none))) else (some x3)
end
def abugidaref16_MadeItems.f (k:Nat) (l0:List Int):Option ((List (S55))):=abugidaref16_MadeItems.l0 k l0 ([]:List (S55)) 0 0 0
theorem abugidaref16_MadeItems.mono_l:∀ k,(∀ y0 y1 y2 y3 y4,LeO (abugidaref16_MadeItems.l0 k y0 y1 y2 y3 y4) (abugidaref16_MadeItems.l0 (k+1) y0 y1 y2 y3 y4))∧(∀ y0 y1 y2 y3 y4 y5,LeO (abugidaref16_MadeItems.j1 k y0 y1 y2 y3 y4 y5) (abugidaref16_MadeItems.j1 (k+1) y0 y1 y2 y3 y4 y5))
 | 0=>⟨fun _ _ _ _ _ r h=>by simp [abugidaref16_MadeItems.l0] at h,fun _ _ _ _ _ _ r h=>by simp [abugidaref16_MadeItems.j1] at h⟩
 | k+1=>by
  obtain ⟨ih0,ih1⟩:=abugidaref16_MadeItems.mono_l k
  refine ⟨?_,?_⟩
  ·
   intro y0 y1 y2 y3 y4
   unfold abugidaref16_MadeItems.l0
   repeat' first
   | (with_reducible exact ih0 _ _ _ _ _)
   | (with_reducible exact ih1 _ _ _ _ _ _)
   | (with_reducible exact LeO.refl _)
   | (with_reducible exact LeO.none _)
   | (with_reducible refine LeO.ite ?_ ?_)
   | (with_reducible refine LeO.bind ?_ (fun _=>?_))
   | exact ih0 _ _ _ _ _
   | exact ih1 _ _ _ _ _ _
   | exact LeO.none _
   | refine LeO.ite ?_ ?_
   | refine LeO.bind ?_ (fun _=>?_)
  ·
   intro y0 y1 y2 y3 y4 y5
   unfold abugidaref16_MadeItems.j1
   repeat' first
   | (with_reducible exact ih0 _ _ _ _ _)
   | (with_reducible exact ih1 _ _ _ _ _ _)
   | (with_reducible exact LeO.refl _)
   | (with_reducible exact LeO.none _)
   | (with_reducible refine LeO.ite ?_ ?_)
   | (with_reducible refine LeO.bind ?_ (fun _=>?_))
   | exact ih0 _ _ _ _ _
   | exact ih1 _ _ _ _ _ _
   | exact LeO.none _
   | refine LeO.ite ?_ ?_
   | refine LeO.bind ?_ (fun _=>?_)
theorem abugidaref16_MadeItems.mono:∀ a0 k,LeO (abugidaref16_MadeItems.f k a0) (abugidaref16_MadeItems.f (k+1) a0):=by
 intro a0 k
 obtain ⟨ih0,ih1⟩:=abugidaref16_MadeItems.mono_l k
 unfold abugidaref16_MadeItems.f
 repeat' first
   | (with_reducible exact ih0 _ _ _ _ _)
   | (with_reducible exact ih1 _ _ _ _ _ _)
   | (with_reducible exact LeO.refl _)
   | (with_reducible exact LeO.none _)
   | (with_reducible refine LeO.ite ?_ ?_)
   | (with_reducible refine LeO.bind ?_ (fun _=>?_))
   | exact ih0 _ _ _ _ _
   | exact ih1 _ _ _ _ _ _
   | exact LeO.none _
   | refine LeO.ite ?_ ?_
   | refine LeO.bind ?_ (fun _=>?_)
set_option maxHeartbeats 8000000 in
set_option maxRecDepth 100000 in
theorem abugidaref16_MadeItems.calls (k:Nat) (A0:Option Addr) (c0:Nat) (l0:List Int) (r:List (S55)) (w:World) (hr0:Kd.C (Kd.int .i64) w A0 l0.length l0) (hc0:l0.length≤c0) (h:abugidaref16_MadeItems.f k l0=some r) :
  Calls Try.prog 32 #[.slice A0 l0.length c0] w fun e w'=>∃ v0_:Value,e=.returned (v0_)∧Kd.R k55 55 w' w.heap.size (fun _=>True) v0_ r∧Below w.heap.size w w':=by
 have hu55:=Try.underlying55
 have HR0:=Aside0.mk hr0
 have HC0:=Aside0.mk hc0
 clear hr0 hc0
 have HB:=Aside0.mk (Below.refl w.heap.size w)
 have H:(abugidaref16_MadeItems.l0 k l0 ([]:List (S55)) 0 0 0)=some r:=h
 clear h
 have H':=Aside0.mk H
 clear H
 go_enter Try.func32,Try.ntmps32
 go_wp2
 go_loopg [3,4,5,6] k (fun kq v3 v4 v5 v6 w'=>∃ (x3_1:List (S55)) (x4_1:Int) (x5_1:Int) (x6_1:Int),v4=.int .i64 x4_1∧v5=.int .i64 x5_1∧v6=.int .i64 x6_1∧Aside0 (abugidaref16_MadeItems.l0 kq l0 x3_1 x4_1 x5_1 x6_1=some r)∧Aside0 (kq≤k)∧Aside0 (Kd.R k55 55 w' w.heap.size (fun _=>True) v3 x3_1)∧Aside0 (Below w.heap.size w w'))
 case atStart=>exact ⟨(([]:List (S55))),(0),(0),(0),za76,za76,za76,H',⟨Nat.le_refl _⟩,⟨by first|exact Kd.R_nil _ _ _ _ _|exact Kd.N_nil _ _ _ _ _|exact Kd.V_nil _ _ _ _ _|exact Kd.Q_nil _ _ _ _ _|exact Kd.S_nil _ _ _ _ _⟩,⟨by repeat (first|(with_reducible first|exact HB.out|apply below_alloc|apply pw_below_drewN|apply below_drew1)|exact HB.out)⟩⟩
 case round =>
  clear H'
  obtain ⟨x3_1,x4_1,x5_1,x6_1,rfl,rfl,rfl,HA,HK1,HO_3,HB⟩:=hrel
  cases gk with
  | zero=>exact absurd HA.out (by simp [abugidaref16_MadeItems.l0])
  | succ k1 =>
   have H:=HA.out
   clear HA
   simp only [abugidaref16_MadeItems.l0] at H
   have HC2:=Aside0.mk H
   clear H
   go_upto_region 5 with (fail)
   go_cut [14] (fun v14 wc=>∃ (kq:Nat) (j9_:Bool),v14=.bool j9_∧Aside0 (abugidaref16_MadeItems.j1 kq l0 x3_1 x4_1 x5_1 x6_1 j9_=some r)∧Aside0 (kq≤k1)∧Aside0 (Kd.R k55 55 wc w.heap.size (fun _=>True) u3 x3_1)∧Aside0 (Below w.heap.size w wc))
   case first =>
    have H:=HC2.out
    clear HC2
    by_cases c3:x6_1<(l0.length:Int)
    ·
     rw [if_pos c3] at H
     have c3b0:decide (x6_1<(l0.length:Int))=true:=decide_eq_true c3
     clear c3
     (first|rw [c3b0]|(simp only [i64_w,i32_w];rw [c3b0])|skip)
     have H':=Aside0.mk H
     clear H
     go_wp2
     go_meet
     case rel=>exact ⟨_,(decide (x6_1<24)),za76,H',⟨by have:=HK1.out;first|omega|exact Nat.le_refl _⟩,⟨by (with_reducible repeat (first|apply Kd.R_alloc|apply Kd.R_drewN|apply Kd.R_drew));exact HO_3.out⟩,⟨by repeat (first|(with_reducible first|exact HB.out|apply below_alloc|apply pw_below_drewN|apply below_drew1)|exact HB.out)⟩⟩
    ·
     rw [if_neg c3] at H
     have c3b0:decide (x6_1<(l0.length:Int))=false:=decide_eq_false c3
     clear c3
     (first|rw [c3b0]|(simp only [i64_w,i32_w];rw [c3b0])|skip)
     have H':=Aside0.mk H
     clear H
     go_wp2
     go_meet
     case rel=>exact ⟨_,(false),za76,H',⟨by have:=HK1.out;first|omega|exact Nat.le_refl _⟩,⟨by (with_reducible repeat (first|apply Kd.R_alloc|apply Kd.R_drewN|apply Kd.R_drew));exact HO_3.out⟩,⟨by repeat (first|(with_reducible first|exact HB.out|apply below_alloc|apply pw_below_drewN|apply below_drew1)|exact HB.out)⟩⟩
   case rest =>
    clear HC2
    try clear p2
    try clear c3
    try clear c3b0
    obtain ⟨kq,j9_,rfl,HA,HJ1,HO_3,HB⟩:=hcut
    cases kq with
    | zero=>exact absurd HA.out (by simp [abugidaref16_MadeItems.j1])
    | succ kj1 =>
     have H:=HA.out
     clear HA
     simp only [abugidaref16_MadeItems.j1] at H
     by_cases c4:j9_=true
     ·
      subst c4
      have H1:(if x5_1 > 0 then (if x5_1=6 then (if 0≤x6_1 then (if x6_1<(l0.length:Int) then ((abugidaref01_Mod.f (rd l0 x6_1) 9).bind fun t284=>(if x3_1.length<8796093022208 then (abugidaref16_MadeItems.l0 kj1 l0 (x3_1++[(⟨t284,wrap64 (x4_1+1)⟩:S55)]) (wrap64 (x4_1+1)) (0+1) (wrap64 (x6_1+1))) else (none))) else (none)) else (none)) else (if 0≤x6_1 then (if x6_1<(l0.length:Int) then ((abugidaref01_Mod.f (wrap64 (Int.tdiv (rd l0 x6_1) 9)) 4).bind fun t289=>(if t289=0 then ((abugidaref01_Mod.f (rd l0 x6_1) 9).bind fun t291=>(if x3_1.length<8796093022208 then (abugidaref16_MadeItems.l0 kj1 l0 (x3_1++[(⟨t291,wrap64 (x4_1+1)⟩:S55)]) (wrap64 (x4_1+1)) (0+1) (wrap64 (x6_1+1))) else (none))) else ((abugidaref01_Mod.f (rd l0 x6_1) 9).bind fun t296=>(if x3_1.length<8796093022208 then (abugidaref16_MadeItems.l0 kj1 l0 (x3_1++[(⟨t296,x4_1⟩:S55)]) x4_1 (wrap64 (x5_1+1)) (wrap64 (x6_1+1))) else (none))))) else (none)) else (none))) else (if 0≤x6_1 then (if x6_1<(l0.length:Int) then ((abugidaref01_Mod.f (rd l0 x6_1) 9).bind fun t301=>(if x3_1.length<8796093022208 then (abugidaref16_MadeItems.l0 kj1 l0 (x3_1++[(⟨t301,x4_1⟩:S55)]) x4_1 (wrap64 (x5_1+1)) (wrap64 (x6_1+1))) else (none))) else (none)) else (none)))=some r:=by rw [if_pos rfl] at H;exact H
      clear H
      have H:=H1
      clear H1
      by_cases c5:x5_1 > 0
      ·
       rw [if_pos c5] at H
       have c5b0:decide (0<x5_1)=true:=decide_eq_true c5
       clear c5
       by_cases c6:x5_1=6
       ·
        rw [if_pos c6] at H
        have c6b0:(x5_1==6)=true:=beq_iff_eq.mpr c6
        have c6b1:(x5_1 != 6)=false:=bne_eq_false_iff_eq.mpr c6
        clear c6
        by_cases c7:0≤x6_1
        ·
         rw [if_pos c7] at H
         have c7b0:decide (0≤x6_1)=true:=decide_eq_true c7
         clear c7
         by_cases c8:x6_1<(l0.length:Int)
         ·
          rw [if_pos c8] at H
          have c8b0:decide (x6_1<(l0.length:Int))=true:=decide_eq_true c8
          clear c8
          replace H:=Option.bind_eq_some_iff.mp H
          obtain ⟨t284,A90,H⟩:=H
          replace H:(if x3_1.length<8796093022208 then (abugidaref16_MadeItems.l0 kj1 l0 (x3_1++[(⟨t284,wrap64 (x4_1+1)⟩:S55)]) (wrap64 (x4_1+1)) (0+1) (wrap64 (x6_1+1))) else (none))=some r:=H
          have A9:=Aside0.mk A90
          clear A90
          by_cases c10:x3_1.length<8796093022208
          ·
           rw [if_pos c10] at H
           have LMc10:=Aside0.mk c10
           clear c10
           obtain ⟨y285,j1_⟩:∃ y_:List (S55),y_=(x3_1++[(⟨t284,wrap64 (x4_1+1)⟩:S55)]):=⟨_,rfl⟩
           replace H:(abugidaref16_MadeItems.l0 kj1 l0 y285 (wrap64 (x4_1+1)) (0+1) (wrap64 (x6_1+1)))=some r:=by first|(rw [j1_];with_reducible exact H)|(have H2_:=(Option.bind_some _ _).symm.trans H;rw [j1_];with_reducible exact H2_)|(have H2_:=(Option.bind_some _ _).symm.trans H;with_reducible exact H2_)|with_reducible exact H|(rw [j1_];exact H)|exact H
           have jb_:=Aside0.mk j1_
           clear j1_
           have H':=Aside0.mk H
           clear H
           have p283:0≤(x6_1:Int):=of_decide_eq_true za73
           have q283:x6_1<(l0.length:Int):=of_decide_eq_true za73
           obtain ⟨jn_,e283,j5_⟩:=Kd.at_int HR0.out x6_1 p283 q283
           cases e283
           replace j5_:=(HB.out.cell (World.block_lt_of_cell? w _ j5_)).trans j5_
           replace p283:=eq_true p283
           replace q283:=eq_true q283
           go_wp2_with (first|((with_reducible refine gate_callee (f:=15) rfl ?_);refine goesL_ (some 41) rfl rfl Try.func15 (by kernel_rfl) rfl #[.int .i64 (rd l0 x6_1),.int .i64 9] rfl za39 ?_;(with_reducible refine (abugidaref01_Mod.calls (rd l0 x6_1) 9 t284 _ A9.out).mono ?_);rintro e w' ⟨rfl,⟨nd,rfl⟩⟩;refine ⟨_,rfl,?_⟩)|((with_reducible refine gate_builtin (b:=.append) (xs:=#[.tmp 36,.tmp 44]) rfl ?_);at_builtin;refine Kd.R_append k55 (w0:=w) w.heap.size rfl (.tmp 36) (.tmp 44) 33 55 (.agg #[(.int .i64 0),(.int .i64 0)]) 16 rfl Try.underlying33 info55 rfl (by decide) (by omega) u3 x3_1 (⟨t284,wrap64 (x4_1+1)⟩:S55) [.int .i64 t284,.int .i64 (wrap64 (x4_1+1))] (fun _=>True) (fun _=>False) rfl rfl ?aP (fun _ hk=>hk.elim) ?aF ?aO ?aB ?aS ?aL ?_;(case aP=>exact k55_mkM _ _ _ (⟨t284,wrap64 (x4_1+1)⟩:S55));(case aB=>exact za40);(case aF=>exact (fun _ _=>trivial));(case aO=>exact za53);(case aS=>exact (below_size za40));(case aL=>have:=LMc10.out;omega);intro v286 w11 ho hb hg hat;rw [← jb_.out] at ho;have n0_:=Aside0.mk (hb);have n1_:=Aside0.mk (ho);clear HB;clear HO_3;have HB:=n0_;have jc_:=n1_;clear n0_ n1_;clear ho hb hg hat))
           go_roundg kj1
           case measure=>have:=HK1.out;have:=HJ1.out;omega
           case rel=>exact ⟨(y285),(wrap64 (x4_1+1)),(0+1),(wrap64 (x6_1+1)),za76,za76,za76,H',⟨by have:=HK1.out;have:=HJ1.out;omega⟩,⟨by (with_reducible repeat (first|apply Kd.R_alloc|apply Kd.R_drewN|apply Kd.R_drew));exact jc_.out⟩,⟨by repeat (first|(with_reducible first|exact HB.out|apply below_alloc|apply pw_below_drewN|apply below_drew1)|exact HB.out)⟩⟩
          ·
           rw [if_neg c10] at H
           exact absurd H (by simp)
         ·
          rw [if_neg c8] at H
          exact absurd H (by simp)
        ·
         rw [if_neg c7] at H
         exact absurd H (by simp)
       ·
        rw [if_neg c6] at H
        have c6b0:(x5_1==6)=false:=beq_eq_false_iff_ne.mpr c6
        have c6b1:(x5_1 != 6)=true:=bne_iff_ne.mpr c6
        by_cases c12:0≤x6_1
        ·
         rw [if_pos c12] at H
         have c12b0:decide (0≤x6_1)=true:=decide_eq_true c12
         clear c12
         by_cases c13:x6_1<(l0.length:Int)
         ·
          rw [if_pos c13] at H
          have c13b0:decide (x6_1<(l0.length:Int))=true:=decide_eq_true c13
          clear c13
          replace H:=Option.bind_eq_some_iff.mp H
          obtain ⟨t289,A140,H⟩:=H
          replace H:(if t289=0 then ((abugidaref01_Mod.f (rd l0 x6_1) 9).bind fun t291=>(if x3_1.length<8796093022208 then (abugidaref16_MadeItems.l0 kj1 l0 (x3_1++[(⟨t291,wrap64 (x4_1+1)⟩:S55)]) (wrap64 (x4_1+1)) (0+1) (wrap64 (x6_1+1))) else (none))) else ((abugidaref01_Mod.f (rd l0 x6_1) 9).bind fun t296=>(if x3_1.length<8796093022208 then (abugidaref16_MadeItems.l0 kj1 l0 (x3_1++[(⟨t296,x4_1⟩:S55)]) x4_1 (wrap64 (x5_1+1)) (wrap64 (x6_1+1))) else (none))))=some r:=H
          have A14:=Aside0.mk A140
          clear A140
          by_cases c15:t289=0
          ·
           rw [if_pos c15] at H
           have c15b0:(t289==0)=true:=beq_iff_eq.mpr c15
           have c15b1:(t289 != 0)=false:=bne_eq_false_iff_eq.mpr c15
           clear c15
           replace H:=Option.bind_eq_some_iff.mp H
           obtain ⟨t291,A160,H⟩:=H
           replace H:(if x3_1.length<8796093022208 then (abugidaref16_MadeItems.l0 kj1 l0 (x3_1++[(⟨t291,wrap64 (x4_1+1)⟩:S55)]) (wrap64 (x4_1+1)) (0+1) (wrap64 (x6_1+1))) else (none))=some r:=H
           have A16:=Aside0.mk A160
           clear A160
           by_cases c17:x3_1.length<8796093022208
           ·
            rw [if_pos c17] at H
            have jd_:=Aside0.mk c17
            clear c17
            obtain ⟨y292,j2_⟩:∃ y_:List (S55),y_=(x3_1++[(⟨t291,wrap64 (x4_1+1)⟩:S55)]):=⟨_,rfl⟩
            replace H:(abugidaref16_MadeItems.l0 kj1 l0 y292 (wrap64 (x4_1+1)) (0+1) (wrap64 (x6_1+1)))=some r:=by first|(rw [j2_];with_reducible exact H)|(have H2_:=(Option.bind_some _ _).symm.trans H;rw [j2_];with_reducible exact H2_)|(have H2_:=(Option.bind_some _ _).symm.trans H;with_reducible exact H2_)|with_reducible exact H|(rw [j2_];exact H)|exact H
            have je_:=Aside0.mk j2_
            clear j2_
            have H':=Aside0.mk H
            clear H
            have p288:0≤(x6_1:Int):=of_decide_eq_true za73
            have q288:x6_1<(l0.length:Int):=of_decide_eq_true za73
            obtain ⟨ja_,e288,j0_⟩:=Kd.at_int HR0.out x6_1 p288 q288
            cases e288
            replace j0_:=(HB.out.cell (World.block_lt_of_cell? w _ j0_)).trans j0_
            replace p288:=eq_true p288
            replace q288:=eq_true q288
            go_wp2_with (first|(go_at_call 15;(with_reducible refine (abugidaref01_Mod.calls (wrap64 (Int.tdiv (rd l0 x6_1) 9)) 4 t289 _ A14.out).mono ?_);rintro e w' ⟨rfl,⟨nd,rfl⟩⟩;have p290:0≤(x6_1:Int):=of_decide_eq_true za73;have q290:x6_1<(l0.length:Int):=of_decide_eq_true za73;obtain ⟨jf_,e290,j6_⟩:=Kd.at_int HR0.out x6_1 p290 q290;obtain rfl:ja_=jf_:=(by injection e290);replace j6_:=(HB.out.cell (World.block_lt_of_cell? w _ j6_)).trans j6_;replace p290:=eq_true p290;replace q290:=eq_true q290)|((with_reducible refine gate_callee (f:=15) rfl ?_);refine goesL_ (some 41) rfl rfl Try.func15 (by kernel_rfl) rfl #[.int .i64 (rd l0 x6_1),.int .i64 9] rfl za39 ?_;(with_reducible refine (abugidaref01_Mod.calls (rd l0 x6_1) 9 t291 _ A16.out).mono ?_);rintro e w' ⟨rfl,⟨nd,rfl⟩⟩;refine ⟨_,rfl,?_⟩)|((with_reducible refine gate_builtin (b:=.append) (xs:=#[.tmp 36,.tmp 44]) rfl ?_);at_builtin;refine Kd.R_append k55 (w0:=w) w.heap.size rfl (.tmp 36) (.tmp 44) 33 55 (.agg #[(.int .i64 0),(.int .i64 0)]) 16 rfl Try.underlying33 info55 rfl (by decide) (by omega) u3 x3_1 (⟨t291,wrap64 (x4_1+1)⟩:S55) [.int .i64 t291,.int .i64 (wrap64 (x4_1+1))] (fun _=>True) (fun _=>False) rfl rfl ?aP (fun _ hk=>hk.elim) ?aF ?aO ?aB ?aS ?aL ?_;(case aP=>exact k55_mkM _ _ _ (⟨t291,wrap64 (x4_1+1)⟩:S55));(case aB=>exact za40);(case aF=>exact (fun _ _=>trivial));(case aO=>exact za53);(case aS=>exact (below_size za40));(case aL=>have:=jd_.out;omega);intro v293 w18 ho hb hg hat;rw [← je_.out] at ho;have n0_:=Aside0.mk (hb);have n1_:=Aside0.mk (ho);clear HB;clear HO_3;have HB:=n0_;have jg_:=n1_;clear n0_ n1_;clear ho hb hg hat))
            go_roundg kj1
            case measure=>have:=HK1.out;have:=HJ1.out;omega
            case rel=>exact ⟨(y292),(wrap64 (x4_1+1)),(0+1),(wrap64 (x6_1+1)),za76,za76,za76,H',⟨by have:=HK1.out;have:=HJ1.out;omega⟩,⟨by (with_reducible repeat (first|apply Kd.R_alloc|apply Kd.R_drewN|apply Kd.R_drew));exact jg_.out⟩,⟨by repeat (first|(with_reducible first|exact HB.out|apply below_alloc|apply pw_below_drewN|apply below_drew1)|exact HB.out)⟩⟩
           ·
            rw [if_neg c17] at H
            exact absurd H (by simp)
          ·
           rw [if_neg c15] at H
           have c15b0:(t289==0)=false:=beq_eq_false_iff_ne.mpr c15
           have c15b1:(t289 != 0)=true:=bne_iff_ne.mpr c15
           replace H:=Option.bind_eq_some_iff.mp H
           obtain ⟨t296,A190,H⟩:=H
           replace H:(if x3_1.length<8796093022208 then (abugidaref16_MadeItems.l0 kj1 l0 (x3_1++[(⟨t296,x4_1⟩:S55)]) x4_1 (wrap64 (x5_1+1)) (wrap64 (x6_1+1))) else (none))=some r:=H
           have A19:=Aside0.mk A190
           clear A190
           by_cases c20:x3_1.length<8796093022208
           ·
            rw [if_pos c20] at H
            have jh_:=Aside0.mk c20
            clear c20
            obtain ⟨y297,j3_⟩:∃ y_:List (S55),y_=(x3_1++[(⟨t296,x4_1⟩:S55)]):=⟨_,rfl⟩
            replace H:(abugidaref16_MadeItems.l0 kj1 l0 y297 x4_1 (wrap64 (x5_1+1)) (wrap64 (x6_1+1)))=some r:=by first|(rw [j3_];with_reducible exact H)|(have H2_:=(Option.bind_some _ _).symm.trans H;rw [j3_];with_reducible exact H2_)|(have H2_:=(Option.bind_some _ _).symm.trans H;with_reducible exact H2_)|with_reducible exact H|(rw [j3_];exact H)|exact H
            have ji_:=Aside0.mk j3_
            clear j3_
            have H':=Aside0.mk H
            clear H
            have p288:0≤(x6_1:Int):=of_decide_eq_true za73
            have q288:x6_1<(l0.length:Int):=of_decide_eq_true za73
            obtain ⟨ja_,e288,j0_⟩:=Kd.at_int HR0.out x6_1 p288 q288
            cases e288
            replace j0_:=(HB.out.cell (World.block_lt_of_cell? w _ j0_)).trans j0_
            replace p288:=eq_true p288
            replace q288:=eq_true q288
            go_wp2_with (first|(go_at_call 15;(with_reducible refine (abugidaref01_Mod.calls (wrap64 (Int.tdiv (rd l0 x6_1) 9)) 4 t289 _ A14.out).mono ?_);rintro e w' ⟨rfl,⟨nd,rfl⟩⟩;have p295:0≤(x6_1:Int):=of_decide_eq_true za73;have q295:x6_1<(l0.length:Int):=of_decide_eq_true za73;obtain ⟨jj_,e295,j7_⟩:=Kd.at_int HR0.out x6_1 p295 q295;obtain rfl:ja_=jj_:=(by injection e295);replace j7_:=(HB.out.cell (World.block_lt_of_cell? w _ j7_)).trans j7_;replace p295:=eq_true p295;replace q295:=eq_true q295)|((with_reducible refine gate_callee (f:=15) rfl ?_);refine goesL_ (some 41) rfl rfl Try.func15 (by kernel_rfl) rfl #[.int .i64 (rd l0 x6_1),.int .i64 9] rfl za39 ?_;(with_reducible refine (abugidaref01_Mod.calls (rd l0 x6_1) 9 t296 _ A19.out).mono ?_);rintro e w' ⟨rfl,⟨nd,rfl⟩⟩;refine ⟨_,rfl,?_⟩)|((with_reducible refine gate_builtin (b:=.append) (xs:=#[.tmp 36,.tmp 44]) rfl ?_);at_builtin;refine Kd.R_append k55 (w0:=w) w.heap.size rfl (.tmp 36) (.tmp 44) 33 55 (.agg #[(.int .i64 0),(.int .i64 0)]) 16 rfl Try.underlying33 info55 rfl (by decide) (by omega) u3 x3_1 (⟨t296,x4_1⟩:S55) [.int .i64 t296,.int .i64 x4_1] (fun _=>True) (fun _=>False) rfl rfl ?aP (fun _ hk=>hk.elim) ?aF ?aO ?aB ?aS ?aL ?_;(case aP=>exact k55_mkM _ _ _ (⟨t296,x4_1⟩:S55));(case aB=>exact za40);(case aF=>exact (fun _ _=>trivial));(case aO=>exact za53);(case aS=>exact (below_size za40));(case aL=>have:=jh_.out;omega);intro v298 w21 ho hb hg hat;rw [← ji_.out] at ho;have n0_:=Aside0.mk (hb);have n1_:=Aside0.mk (ho);clear HB;clear HO_3;have HB:=n0_;have jk_:=n1_;clear n0_ n1_;clear ho hb hg hat))
            go_roundg kj1
            case measure=>have:=HK1.out;have:=HJ1.out;omega
            case rel=>exact ⟨(y297),(x4_1),(wrap64 (x5_1+1)),(wrap64 (x6_1+1)),za76,za76,za76,H',⟨by have:=HK1.out;have:=HJ1.out;omega⟩,⟨by (with_reducible repeat (first|apply Kd.R_alloc|apply Kd.R_drewN|apply Kd.R_drew));exact jk_.out⟩,⟨by repeat (first|(with_reducible first|exact HB.out|apply below_alloc|apply pw_below_drewN|apply below_drew1)|exact HB.out)⟩⟩
           ·
            rw [if_neg c20] at H
            exact absurd H (by simp)
         ·
          rw [if_neg c13] at H
          exact absurd H (by simp)
        ·
         rw [if_neg c12] at H
         exact absurd H (by simp)
      ·
       rw [if_neg c5] at H
       have c5b0:decide (0<x5_1)=false:=decide_eq_false c5
       clear c5
       by_cases c22:0≤x6_1
       ·
        rw [if_pos c22] at H
        have c22b0:decide (0≤x6_1)=true:=decide_eq_true c22
        clear c22
        by_cases c23:x6_1<(l0.length:Int)
        ·
         rw [if_pos c23] at H
         have c23b0:decide (x6_1<(l0.length:Int))=true:=decide_eq_true c23
         clear c23
         replace H:=Option.bind_eq_some_iff.mp H
         obtain ⟨t301,A240,H⟩:=H
         replace H:(if x3_1.length<8796093022208 then (abugidaref16_MadeItems.l0 kj1 l0 (x3_1++[(⟨t301,x4_1⟩:S55)]) x4_1 (wrap64 (x5_1+1)) (wrap64 (x6_1+1))) else (none))=some r:=H
         have A24:=Aside0.mk A240
         clear A240
         by_cases c25:x3_1.length<8796093022208
         ·
          rw [if_pos c25] at H
          have LMc25:=Aside0.mk c25
          clear c25
          obtain ⟨y302,j4_⟩:∃ y_:List (S55),y_=(x3_1++[(⟨t301,x4_1⟩:S55)]):=⟨_,rfl⟩
          replace H:(abugidaref16_MadeItems.l0 kj1 l0 y302 x4_1 (wrap64 (x5_1+1)) (wrap64 (x6_1+1)))=some r:=by first|(rw [j4_];with_reducible exact H)|(have H2_:=(Option.bind_some _ _).symm.trans H;rw [j4_];with_reducible exact H2_)|(have H2_:=(Option.bind_some _ _).symm.trans H;with_reducible exact H2_)|with_reducible exact H|(rw [j4_];exact H)|exact H
          have jl_:=Aside0.mk j4_
          clear j4_
          have H':=Aside0.mk H
          clear H
          have p300:0≤(x6_1:Int):=of_decide_eq_true za73
          have q300:x6_1<(l0.length:Int):=of_decide_eq_true za73
          obtain ⟨jo_,e300,j8_⟩:=Kd.at_int HR0.out x6_1 p300 q300
          cases e300
          replace j8_:=(HB.out.cell (World.block_lt_of_cell? w _ j8_)).trans j8_
          replace p300:=eq_true p300
          replace q300:=eq_true q300
          go_wp2_with (first|((with_reducible refine gate_callee (f:=15) rfl ?_);refine goesL_ (some 41) rfl rfl Try.func15 (by kernel_rfl) rfl #[.int .i64 (rd l0 x6_1),.int .i64 9] rfl za39 ?_;(with_reducible refine (abugidaref01_Mod.calls (rd l0 x6_1) 9 t301 _ A24.out).mono ?_);rintro e w' ⟨rfl,⟨nd,rfl⟩⟩;refine ⟨_,rfl,?_⟩)|((with_reducible refine gate_builtin (b:=.append) (xs:=#[.tmp 36,.tmp 44]) rfl ?_);at_builtin;refine Kd.R_append k55 (w0:=w) w.heap.size rfl (.tmp 36) (.tmp 44) 33 55 (.agg #[(.int .i64 0),(.int .i64 0)]) 16 rfl Try.underlying33 info55 rfl (by decide) (by omega) u3 x3_1 (⟨t301,x4_1⟩:S55) [.int .i64 t301,.int .i64 x4_1] (fun _=>True) (fun _=>False) rfl rfl ?aP (fun _ hk=>hk.elim) ?aF ?aO ?aB ?aS ?aL ?_;(case aP=>exact k55_mkM _ _ _ (⟨t301,x4_1⟩:S55));(case aB=>exact za40);(case aF=>exact (fun _ _=>trivial));(case aO=>exact za53);(case aS=>exact (below_size za40));(case aL=>have:=LMc25.out;omega);intro v303 w26 ho hb hg hat;rw [← jl_.out] at ho;have n0_:=Aside0.mk (hb);have n1_:=Aside0.mk (ho);clear HB;clear HO_3;have HB:=n0_;have jm_:=n1_;clear n0_ n1_;clear ho hb hg hat))
          go_roundg kj1
          case measure=>have:=HK1.out;have:=HJ1.out;omega
          case rel=>exact ⟨(y302),(x4_1),(wrap64 (x5_1+1)),(wrap64 (x6_1+1)),za76,za76,za76,H',⟨by have:=HK1.out;have:=HJ1.out;omega⟩,⟨by (with_reducible repeat (first|apply Kd.R_alloc|apply Kd.R_drewN|apply Kd.R_drew));exact jm_.out⟩,⟨by repeat (first|(with_reducible first|exact HB.out|apply below_alloc|apply pw_below_drewN|apply below_drew1)|exact HB.out)⟩⟩
         ·
          rw [if_neg c25] at H
          exact absurd H (by simp)
        ·
         rw [if_neg c23] at H
         exact absurd H (by simp)
       ·
        rw [if_neg c22] at H
        exact absurd H (by simp)
     ·
      replace c4:=Bool.eq_false_iff.mpr c4
      subst c4
      have H1:(some x3_1)=some r:=by rw [if_neg (show ¬ (false=true) by decide)] at H;exact H
      clear H
      have H:=H1
      clear H1
      obtain rfl:=Option.some.inj H
      go_wp2
      go_ret
      exact ⟨_,by first|rfl|(simp [errW_none,errW_some]<;>rfl)|(simp [*,errW_none,errW_some]<;>rfl),by (with_reducible repeat (first|apply Kd.R_alloc|apply Kd.R_drewN|apply Kd.R_drew));exact HO_3.out,by repeat (first|(with_reducible first|exact HB.out|apply below_alloc|apply pw_below_drewN|apply below_drew1)|exact HB.out)⟩
end Go.Proofs.Ytlgkeaildncojaa.Q
end
section
namespace Go.Proofs.Ytlgkeaildncojaa.Q
open Go.RowKit Go.Proofs.YtlgkeaildncojaaW.PrintWords Go.Proofs.YtlgkeaildncojaaW.PrintLast Go.Proofs.YtlgkeaildncojaaW.PrintMore
attribute [local go_sem] max2_int min2_int max_two min_two max_three min_three max_four min_four   -- for this text's walks alone
set_option linter.unusedVariables false
set_option linter.unusedSimpArgs false
end Go.Proofs.Ytlgkeaildncojaa.Q
end
section
namespace Go.Proofs.Ytlgkeaildncojaa.Q
open Go.RowKit Go.Proofs.YtlgkeaildncojaaW.PrintWords Go.Proofs.YtlgkeaildncojaaW.PrintLast Go.Proofs.YtlgkeaildncojaaW.PrintMore
attribute [local go_sem] max2_int min2_int max_two min_two max_three min_three max_four min_four   -- for this text's walks alone
set_option linter.unusedVariables false
set_option linter.unusedSimpArgs false
end Go.Proofs.Ytlgkeaildncojaa.Q
end
section
namespace Go.Proofs.Ytlgkeaildncojaa.Q
open Go.RowKit Go.Shelf Go.Proofs.YtlgkeaildncojaaW.PrintWords Go.Proofs.YtlgkeaildncojaaW.PrintLast Go.Proofs.YtlgkeaildncojaaW.PrintMore
set_option linter.unusedSimpArgs false
set_option linter.unusedVariables false
def brk (x n:Int):Bool:=decide (n > 0)&&(decide (n=6) || decide (wrap64 (Int.tdiv x 9) % 4=0))
def itemsF:List Int→Int→Int→List S55
 | [],_,_=>[]
 | x :: t,c,n=>if brk x n=true then ⟨x % 9,c+1⟩ :: itemsF t (c+1) 1 else ⟨x % 9,c⟩ :: itemsF t c (n+1)
def itemsM (I:List Int):List S55:=itemsF (I.take 24) 0 0
theorem ev_items_l0 (I:List Int) (d:Nat):∀ (i:Nat) (out:List S55) (c n:Int),i+d=min I.length 24→out.length≤i→0≤c→c≤i→0≤n→n≤6→Ev (fun k=>abugidaref16_MadeItems.l0 k I out c n (i:Int)) (out++itemsF ((I.take 24).drop i) c n):=by
 induction d with
 | zero =>
  intro i out c n hi ho h1 h2 h3 h4
  rw [List.drop_of_length_le (by rw [List.length_take];omega),itemsF,List.append_nil]
  have stop:Ev (fun k=>abugidaref16_MadeItems.j1 k I out c n (i:Int) false) out:=by
   refine Ev.step (fun k=>by rw [abugidaref16_MadeItems.j1,if_neg (by decide)]) ?_
   exact Ev.now _
  by_cases hlt:(i:Int)<(I.length:Int)
  ·
   have e:decide ((i:Int)<24)=false:=decide_eq_false (by omega)
   exact Ev.step (fun k=>by rw [abugidaref16_MadeItems.l0,if_pos hlt,e]) stop
  ·
   exact Ev.step (fun k=>by rw [abugidaref16_MadeItems.l0,if_neg hlt]) stop
 | succ d ih =>
  intro i out c n hi ho h1 h2 h3 h4
  have hlt:(i:Int)<(I.length:Int):=by omega
  have e:decide ((i:Int)<24)=true:=decide_eq_true (by omega)
  have hp:(0:Int)≤(i:Int):=by omega
  have hdr:(I.take 24).drop i=rd I (i:Int) :: (I.take 24).drop (i+1):=by
   have h5:i<(I.take 24).length:=by rw [List.length_take];omega
   rw [List.drop_eq_getElem_cons h5,rd,Int.toNat_natCast,List.getD_eq_getElem?_getD,List.getElem?_eq_getElem (by omega),List.getElem_take]
   rfl
  have hw:wrap64 ((i:Int)+1)=((i+1:Nat):Int):=by rw [wr64 _ (by omega) (by omega)];omega
  have hwc:wrap64 (c+1)=c+1:=wr64 _ (by omega) (by omega)
  have hwn:wrap64 (n+1)=n+1:=wr64 _ (by omega) (by omega)
  have ho2:out.length<8796093022208:=by omega
  have m9:=mod_some (rd I (i:Int)) 9 (by decide) (by decide)
  have m4:=mod_some (wrap64 (Int.tdiv (rd I (i:Int)) 9)) 4 (by decide) (by decide)
  rw [hdr,itemsF]
  have hbr:Ev (fun k=>abugidaref16_MadeItems.l0 k I (out++[(⟨rd I (i:Int) % 9,c+1⟩:S55)]) (c+1) 1 ((i+1:Nat):Int)) (out++⟨rd I (i:Int) % 9,c+1⟩ :: itemsF ((I.take 24).drop (i+1)) (c+1) 1):=by
   have:=ih (i+1) (out++[⟨rd I (i:Int) % 9,c+1⟩]) (c+1) 1 (by omega) (by simp;omega) (by omega) (by omega) (by decide) (by decide)
   rw [List.append_assoc,List.singleton_append] at this
   exact this
  have hno:n≠6→Ev (fun k=>abugidaref16_MadeItems.l0 k I (out++[(⟨rd I (i:Int) % 9,c⟩:S55)]) c (n+1) ((i+1:Nat):Int)) (out++⟨rd I (i:Int) % 9,c⟩ :: itemsF ((I.take 24).drop (i+1)) c (n+1)):=fun h6=>by
   have:=ih (i+1) (out++[⟨rd I (i:Int) % 9,c⟩]) c (n+1) (by omega) (by simp;omega) (by omega) (by omega) (by omega) (by omega)
   rw [List.append_assoc,List.singleton_append] at this
   exact this
  refine Ev.step (fun k=>by rw [abugidaref16_MadeItems.l0,if_pos hlt,e]) ?_
  by_cases hn0:n > 0
  ·
   by_cases h6:n=6
   ·
    rw [show brk (rd I (i:Int)) n=true by unfold brk;rw [decide_eq_true hn0,decide_eq_true h6];rfl,if_pos rfl]
    refine Ev.step (fun k=>by rw [abugidaref16_MadeItems.j1,if_pos rfl,if_pos hn0,if_pos h6,if_pos hp,if_pos hlt,m9,Option.bind_some,if_pos ho2,hwc,hw];rfl) hbr
   ·
    by_cases hq:wrap64 (Int.tdiv (rd I (i:Int)) 9) % 4=0
    ·
     rw [show brk (rd I (i:Int)) n=true by unfold brk;rw [decide_eq_true hn0,decide_eq_true hq,Bool.or_true];rfl,if_pos rfl]
     refine Ev.step (fun k=>by rw [abugidaref16_MadeItems.j1,if_pos rfl,if_pos hn0,if_neg h6,if_pos hp,if_pos hlt,m4,Option.bind_some,if_pos hq,m9,Option.bind_some,if_pos ho2,hwc,hw];rfl) hbr
    ·
     rw [show brk (rd I (i:Int)) n=false by unfold brk;rw [decide_eq_true hn0,decide_eq_false h6,decide_eq_false hq];rfl,if_neg (by decide)]
     refine Ev.step (fun k=>by rw [abugidaref16_MadeItems.j1,if_pos rfl,if_pos hn0,if_neg h6,if_pos hp,if_pos hlt,m4,Option.bind_some,if_neg hq,m9,Option.bind_some,if_pos ho2,hwn,hw]) (hno h6)
  ·
   rw [show brk (rd I (i:Int)) n=false by unfold brk;rw [decide_eq_false hn0];rfl,if_neg (by decide)]
   refine Ev.step (fun k=>by rw [abugidaref16_MadeItems.j1,if_pos rfl,if_neg hn0,if_pos hp,if_pos hlt,m9,Option.bind_some,if_pos ho2,hwn,hw]) (hno (by omega))
theorem items_ev (I:List Int):Ev (fun k=>abugidaref16_MadeItems.f k I) (itemsM I):=by
 have:=ev_items_l0 I (min I.length 24) 0 [] 0 0 (by omega) (Nat.le_refl _) (Int.le_refl _) (Int.le_refl _) (Int.le_refl _) (by decide)
 rw [List.nil_append,List.drop_zero] at this
 exact this
theorem sameI_l0 (L:List Int) (hL:L.length≤1000000) (d:Nat):∀ i:Nat,i+d=L.length→Ev (fun k=>abugidaref16_SameInts.l0 k L L (i:Int)) true:=by
 induction d with
 | zero =>
  intro i hi
  refine Ev.step (fun k=>by rw [abugidaref16_SameInts.l0,if_neg (show ¬ (i:Int)<(L.length:Int) by omega)]) ?_;exact Ev.now _
 | succ d ih =>
  intro i hi
  have hw:wrap64 ((i:Int)+1)=((i+1:Nat):Int):=by rw [wr64 _ (by omega) (by omega)];omega
  refine Ev.step (fun k=>by rw [abugidaref16_SameInts.l0,if_pos (show (i:Int)<(L.length:Int) by omega),if_pos (show (0:Int)≤i by omega),if_pos (show (i:Int)<(L.length:Int) by omega),if_pos rfl,hw]) ?_
  exact ih (i+1) (by omega)
theorem sameI_ev (L:List Int) (hL:L.length≤1000000):Ev (fun k=>abugidaref16_SameInts.f k L L) true:=by
 unfold abugidaref16_SameInts.f
 simp only [if_true]
 exact sameI_l0 L hL L.length 0 (Nat.zero_add _)
def headsP:List S49→List Int
 | []=>[]
 | r :: rs=>r.f1.headD []++headsP rs
def firstP (rs:List S49):List Int:=hset (headsP rs)
theorem drop49 {l:List S49} {i:Nat} (h:i<l.length):l.drop i=l.getD i z49 :: l.drop (i+1):=by
 rw [List.drop_eq_getElem_cons h,List.getD_eq_getElem?_getD,List.getElem?_eq_getElem h];rfl
theorem first_l0 (rs:List S49) (hl:rs.length≤1000) (hb:∀ r∈rs,∀ s∈r.f1,s.length≤1000) (hk:okl (headsP rs)=true) (d:Nat):∀ (i:Nat) (out:List Int),i+d=rs.length→out.length≤1000*i→out++headsP (rs.drop i)=headsP rs→Ev (fun k=>rules_First.l0 k out rs (rs.length:Int) (i:Int)) (firstP rs):=by
 induction d with
 | zero =>
  intro i out hi ho he
  rw [List.drop_of_length_le (by omega),headsP,List.append_nil] at he
  subst he
  refine Ev.step (fun k=>by rw [rules_First.l0,if_neg (by omega),show sets_Norm.f (headsP rs)=some (firstP rs) by unfold sets_Norm.f norm_f;rw [if_pos hk];rfl]) ?_
  exact Ev.now _
 | succ d ih =>
  intro i out hi ho he
  have hlt:(i:Int)<(rs.length:Int):=by omega
  have hp:(0:Int)≤(i:Int):=by omega
  have hw:wrap64 ((i:Int)+1)=((i+1:Nat):Int):=by rw [wr64 _ (by omega) (by omega)];omega
  have hrd:rd_T49 rs (i:Int)=rs.getD i z49:=by unfold rd_T49;rw [Int.toNat_natCast]
  have hmem:rs.getD i z49∈rs:=getD_mem' _ _ _ (by omega)
  rw [drop49 (show i<rs.length by omega),headsP] at he
  generalize rs.getD i z49=r at *
  cases hr:r.f1 with
  | nil =>
   rw [hr,List.headD_nil,List.nil_append] at he
   refine Ev.step (fun k=>by rw [rules_First.l0,if_pos hlt,if_pos hp,if_pos hlt,hrd,hr,if_neg (by simp),hw]) (ih (i+1) out (by omega) (by omega) he)
  | cons s t =>
   have hsl:=hb r hmem s (by rw [hr];exact List.mem_cons_self)
   rw [hr,List.headD_cons,← List.append_assoc] at he
   refine Ev.step (fun k=>by rw [rules_First.l0,if_pos hlt,if_pos hp,if_pos hlt,hrd,hr,if_pos (by simp),if_pos (by simp),show rd_L1 (s :: t) 0=s from rfl,if_pos (by omega),hw]) (ih (i+1) (out++s) (by omega) (by rw [List.length_append];omega) he)
theorem first_ev (rs:List S49) (hl:rs.length≤1000) (hb:∀ r∈rs,∀ s∈r.f1,s.length≤1000) (hk:okl (headsP rs)=true):Ev (fun k=>rules_First.f k rs) (firstP rs):=by
 have:=first_l0 rs hl hb hk rs.length 0 [] (Nat.zero_add _) (Nat.le_refl _) rfl
 exact this
end Go.Proofs.Ytlgkeaildncojaa.Q
end
section
namespace Go.Proofs.Ytlgkeaildncojaa.Q
open Go.RowKit Go.Shelf Go.Proofs.YtlgkeaildncojaaW.PrintWords Go.Proofs.YtlgkeaildncojaaW.PrintLast Go.Proofs.YtlgkeaildncojaaW.PrintMore
set_option linter.unusedSimpArgs false
set_option linter.unusedVariables false
structure GoodSet (l:List Int):Prop where
 ne:l≠[]
 sorted:l.Pairwise (·<·)
 small:∀ x∈l,0≤x∧x<8
 short:l.length≤3
theorem drawN_mem (s:List Int) (m p:Int) (hm:0<m):∀ j,∀ x∈(drawN s m p j).1,0≤x∧x<m
 | 0,x,h=>by cases h
 | j+1,x,h=>by
  rw [drawN] at h
  rcases List.mem_append.mp h with h|h
  ·
   exact drawN_mem s m p hm j x h
  ·
   rw [List.mem_singleton] at h
   subst h
   exact nextF_v s _ m hm
theorem set1_good (s:List Int) (p:Int):GoodSet (set1 s p).1:=by
 have hv:=nextF_v s p 3 (by decide)
 have hl:=drawN_length s 8 (nextF s p 3).2 (1+(nextF s p 3).1).toNat
 unfold set1
 dsimp only
 refine ⟨fun h=>?_,hset_sorted _,fun x hx=>drawN_mem s 8 _ (by decide) _ x ((mem_hset _ _).mp hx),?_⟩
 ·
  cases hd:(drawN s 8 (nextF s p 3).2 (1+(nextF s p 3).1).toNat).1 with
  | nil=>rw [hd,List.length_nil] at hl;omega
  | cons y t =>
   have:y∈hset (drawN s 8 (nextF s p 3).2 (1+(nextF s p 3).1).toNat).1:=by rw [mem_hset,hd];exact List.mem_cons_self
   rw [h] at this
   cases this
 ·
  have:=len_hset (drawN s 8 (nextF s p 3).2 (1+(nextF s p 3).1).toNat).1
  omega
theorem setsN_good (s:List Int) (p:Int):∀ j,∀ l∈(setsN s p j).1,GoodSet l
 | 0,l,h=>by cases h
 | j+1,l,h=>by
  rw [setsN] at h
  rcases List.mem_append.mp h with h|h
  ·
   exact setsN_good s p j l h
  ·
   rw [List.mem_singleton] at h
   subst h
   exact set1_good s _
theorem someF_good (s:List Int) (p:Int):(someF s p).1.length≤2∧∀ l∈(someF s p).1,GoodSet l:=by
 unfold someF
 split
 ·
  have hv:=nextF_v s (nextF s p 3).2 2 (by decide)
  exact ⟨by rw [setsN_length];omega,setsN_good s _ _⟩
 ·
  exact ⟨Nat.zero_le _,fun l h=>by cases h⟩
theorem callsN_good (s:List Int) (k m p:Int) (hm:0<m) (hk:0≤k∧k<2):∀ j,∀ c∈(callsN s k m p j).1,0≤c.f0∧c.f0<m∧k<c.f1∧c.f1<3
 | 0,c,h=>by cases h
 | j+1,c,h=>by
  rw [callsN] at h
  rcases List.mem_append.mp h with h|h
  ·
   exact callsN_good s k m p hm hk j c h
  ·
   rw [List.mem_singleton] at h
   subst h
   have h1:=nextF_v s (callsN s k m p j).2 m hm
   have h2:=nextF_v s (nextF s (callsN s k m p j).2 m).2 (2 - k) (by omega)
   dsimp only
   omega
structure MadeR (k:Int) (r:S49):Prop where
 l0:r.f0.length≤2
 l1:1≤r.f1.length∧r.f1.length≤3
 l2:r.f2.length≤2
 l3:r.f3.length≤3
 l4:r.f4.length≤2
 one:r.f3=[]∨r.f4=[]
 s0:∀ l∈r.f0,GoodSet l
 s1:∀ l∈r.f1,GoodSet l
 s2:∀ l∈r.f2,GoodSet l
 s3:∀ x∈r.f3,0≤x∧x<8
 s4:∀ c∈r.f4,0≤c.f0∧c.f0<(r.f1.length:Int)∧k<c.f1∧c.f1<3
theorem actF_good (s:List Int) (k m p:Int) (hm:0<m) (hk:0≤k):(actF s k m p).1.length≤3∧(actF s k m p).2.1.length≤2∧((actF s k m p).1=[]∨(actF s k m p).2.1=[])∧(∀ x∈(actF s k m p).1,0≤x∧x<8)∧∀ c∈(actF s k m p).2.1,0≤c.f0∧c.f0<m∧k<c.f1∧c.f1<3:=by
 have hv:=nextF_v s p 4 (by decide)
 unfold actF
 dsimp only
 split
 ·
  split
  ·
   exact ⟨Nat.zero_le _,by rw [callsN_length];omega,.inl rfl,fun x h=>(by cases h),callsN_good s k m _ hm (by omega) _⟩
  ·
   exact ⟨by rw [drawN_length];omega,Nat.zero_le _,.inr rfl,drawN_mem s 8 _ (by decide) _,fun x h=>by cases h⟩
 ·
  exact ⟨by rw [drawN_length];omega,Nat.zero_le _,.inr rfl,drawN_mem s 8 _ (by decide) _,fun x h=>by cases h⟩
theorem rule1_good (s:List Int) (k p:Int) (hp:InS s p) (hk:0≤k):MadeR k (rule1 s k p).1:=by
 have hm:=(manyF_p s p hp).2
 have h1:=setsN_length s (manyF s p).2 (manyF s p).1
 have h3:=someF_good s (setsN s (manyF s p).2 (manyF s p).1).2
 have h4:=someF_good s (someF s (setsN s (manyF s p).2 (manyF s p).1).2).2
 have h5:=actF_good s k ((setsN s (manyF s p).2 (manyF s p).1).1.length:Int) (someF s (someF s (setsN s (manyF s p).2 (manyF s p).1).2).2).2 (by omega) hk
 obtain ⟨g1,g2,g3,g4,g5⟩:=h5
 exact ⟨h3.1,by rw [show (rule1 s k p).1.f1=(setsN s (manyF s p).2 (manyF s p).1).1 from rfl,h1];omega,h4.1,g1,g2,g3,h3.2,setsN_good s _ _,h4.2,g4,g5⟩
theorem rulesN_good (s:List Int) (k p:Int) (hp:InS s p) (hk:0≤k):∀ j,∀ r∈(rulesN s k p j).1,MadeR k r
 | 0,r,h=>by cases h
 | j+1,r,h=>by
  rw [rulesN] at h
  rcases List.mem_append.mp h with h|h
  ·
   exact rulesN_good s k p hp hk j r h
  ·
   rw [List.mem_singleton] at h
   subst h
   exact rule1_good s k _ (rulesN_p s k p hp j) hk
theorem madeF_good (s:List Int) (k:Int) (hk:0≤k):(madeF s k).f0.length≤3∧∀ r∈(madeF s k).f0,MadeR k r:=by
 have hv:=nextF_v s 0 4 (by decide)
 have hp:=nextF_p s 0 4 (Int.le_refl _) (by omega)
 unfold madeF
 dsimp only
 exact ⟨by rw [rulesN_length];omega,rulesN_good s k _ hp hk _⟩
theorem right_of_sorted:∀ l:List Int,l.Pairwise (·<·)→rightP l=true
 | [],_=>rfl
 | [_],_=>rfl
 | x :: y :: t,h=>by
  unfold rightP
  have h1:=(List.pairwise_cons.mp h).1 y List.mem_cons_self
  rw [if_neg (by omega)]
  exact right_of_sorted (y :: t) (List.pairwise_cons.mp h).2
theorem GoodSet.wrong {l:List Int} (h:GoodSet l):wrongP l=false:=by
 unfold wrongP
 rw [right_of_sorted l h.sorted]
 cases l with
 | nil=>exact absurd rfl h.ne
 | cons x t=>rfl
theorem GoodSet.known {l:List Int} (h:GoodSet l) {G:Int} (hG:8≤G):l.any (unkP G)=false:=by
 rw [List.any_eq_false]
 intro x hx
 have:=h.small x hx
 unfold unkP
 simp
 omega
theorem MadeR.ok {k:Int} {r:S49} (h:MadeR k r) {G:Int} (hG:8≤G):ruleP r k 3 G=0:=by
 have hall:∀ l∈r.f1++r.f0++r.f2,GoodSet l:=fun l hl=>by
  rcases List.mem_append.mp hl with hl|hl
  ·
   rcases List.mem_append.mp hl with hl|hl
   ·
    exact h.s1 l hl
   ·
    exact h.s0 l hl
  ·
   exact h.s2 l hl
 have hb:=h.l1
 have h0:=h.l0
 have h2:=h.l2
 have h3:=h.l3
 have h4:=h.l4
 unfold ruleP
 rw [if_neg (by omega),if_neg (by
  intro hc
  rcases h.one with e|e
  ·
   rw [e,List.length_nil] at hc;omega
  ·
   rw [e,List.length_nil] at hc;omega),if_neg (by
  intro hc
  obtain ⟨l,hl,hw⟩:=List.any_eq_true.mp hc
  rw [(hall l hl).wrong] at hw
  cases hw),if_neg (by
  intro hc
  rcases hc with hc|hc
  ·
   obtain ⟨l,hl,hw⟩:=List.any_eq_true.mp hc
   rw [(hall l hl).known hG] at hw
   cases hw
  ·
   obtain ⟨x,hx,hw⟩:=List.any_eq_true.mp hc
   have:=h.s3 x hx
   unfold unkP at hw
   simp at hw
   omega),if_neg (by
  intro hc
  obtain ⟨c,hx,hw⟩:=List.any_eq_true.mp hc
  have:=h.s4 c hx
  unfold callP at hw
  simp at hw
  omega)]
theorem rulesP_ok {k L G:Int}:∀ {l:List S49},(∀ r∈l,ruleP r k L G=0)→rulesP k L G l=0
 | [],_=>rfl
 | x :: t,h=>by
  unfold rulesP
  rw [if_pos (h x List.mem_cons_self)]
  exact rulesP_ok (fun r hr=>h r (List.mem_cons_of_mem _ hr))
theorem madeAll_get (L:List (List Int)) (k:Nat) (hk:k<3):(madeAll L).getD k z24=madeF (L.getD k []) (k:Int):=by
 unfold madeAll madeN
 rw [List.getD_eq_getElem?_getD,List.getElem?_map,List.getElem?_range hk]
 rfl
theorem madeAll_len (L:List (List Int)):(madeAll L).length=3:=madeN_length L 3
theorem madeAll_good (L:List (List Int)) (k:Nat) (hk:k<3):((madeAll L).getD k z24).f0.length≤3∧∀ r∈((madeAll L).getD k z24).f0,MadeR (k:Int) r:=by
 rw [madeAll_get L k hk]
 exact madeF_good _ _ (by omega)
theorem madeAll_check (L:List (List Int)) (k:Nat) (hk:k<3) (G:Int) (h8:8≤G) (h100:G≤100):checkP ((madeAll L).getD k z24).f0 (k:Int) 3 G=0:=by
 have h:=madeAll_good L k hk
 unfold checkP
 rw [if_neg (by omega),if_neg (by omega)]
 exact rulesP_ok (fun r hr=>(h.2 r hr).ok h8)
theorem MadeR.first {k:Int}:∀ {rs:List S49},(∀ r∈rs,MadeR k r)→(∀ x∈headsP rs,0≤x∧x<8)∧(headsP rs).length≤3*rs.length
 | [],_=>⟨fun x h=>(by cases h),Nat.le_refl _⟩
 | r :: rs,h=>by
  obtain ⟨g1,g2⟩:=MadeR.first (rs:=rs) (fun r hr=>h r (List.mem_cons_of_mem _ hr))
  have hr:=h r List.mem_cons_self
  unfold headsP
  cases hf:r.f1 with
  | nil=>have:=hr.l1;rw [hf,List.length_nil] at this;omega
  | cons s t =>
   have hs:=hr.s1 s (by rw [hf];exact List.mem_cons_self)
   refine ⟨fun x hx=>?_,?_⟩
   ·
    rcases List.mem_append.mp hx with hx|hx
    ·
     exact hs.small x hx
    ·
     exact g1 x hx
   ·
    have:=hs.short
    rw [List.length_append,List.headD_cons,List.length_cons]
    omega
end Go.Proofs.Ytlgkeaildncojaa.Q
end
section
namespace Go.Proofs.Ytlgkeaildncojaa.Q
open Go.RowKit Go.Shelf Go.Proofs.YtlgkeaildncojaaW.PrintWords Go.Proofs.YtlgkeaildncojaaW.PrintLast Go.Proofs.YtlgkeaildncojaaW.PrintMore
set_option linter.unusedSimpArgs false
set_option linter.unusedVariables false
theorem results_tmp4 {fn:Func} {t u v x:Tmp} (h:fn.results=#[.tmp t,.tmp u,.tmp v,.tmp x]) (tmps:Array Value) (P:Program) (w:World) :
  (results fn tmps).run P w=.ok (.tuple #[tmps.getD t undef,tmps.getD u undef,tmps.getD v undef,tmps.getD x undef]) w:=by
 simp [results,h]
theorem Own.tail {w W:World} {r:Res} {L:List Res} {K:Nat→Obj→Prop} (h:Own w W (r :: L) K):Own w W L K:=by
 obtain ⟨h1,hk0,F,h2⟩:=h
 refine ⟨h1,hk0,fun k=>F k - 1,fun i q hi=>q.move (h2 (i+1) q (by simpa using hi)) (fun k hk hl _=>⟨rfl,hk.1,?_⟩)⟩
 dsimp only
 rw [hk.2]
 rfl
theorem hi4:∃ i,Try.prog.info? 4=some i:=by
 cases h:Try.prog.info? 4 with
 | none=>exact absurd info4 (by rw [h];simp)
 | some i=>exact ⟨i,rfl⟩
set_option maxRecDepth 100000 in
set_option maxHeartbeats 4000000 in
theorem case_calls (A0:Option Addr) (c0:Nat) (L:List (List Int)) (A1:Option Addr) (c1:Nat) (I:List Int) (o0 o1 o2 kq:Int) (A4:Option Addr) (c4:Nat) (M:List Bool) (its:List S55) (w:World)
  (hr0:Kd.C (Kd.slice 3 (Kd.int .i64)) w A0 L.length L) (hc0:L.length≤c0) (hll:∀ s∈L,s.length≤9223372036854775807) (hr1:Kd.C (Kd.int .i64) w A1 I.length I) (hc1:I.length≤c1) (hc4:M.length≤c4) (hk:0≤kq∧kq≤255) (n:Nat) (hits:abugidaref16_MadeItems.f n I=some its) :
  Calls Try.prog 12 #[.agg #[.slice A0 L.length c0,.slice A1 I.length c1,.int .i64 o0,.int .i64 o1,.int .i64 o2,.int .u8 kq,.slice A4 M.length c4]] w fun e w'=>∃ v1 v3,e=.returned (.tuple #[v1,.int .i64 (kq % 3),v3,.slice A4 (min M.length 30) c4])∧Own w w' [.row k24 24 w.heap.size v1 (madeAll L),.row k55 55 w.heap.size v3 its]:=by
 have HR0:=Aside0.mk hr0
 have HC0:=Aside0.mk hc0
 have HLL:=Aside0.mk hll
 have HR1:=Aside0.mk hr1
 have HC1:=Aside0.mk hc1
 have HITS:=Aside0.mk hits
 have HO:=Own.start w
 obtain ⟨mm,hmm⟩:∃ mm,min M.length 30=mm:=⟨_,rfl⟩
 rw [hmm]
 have hmin:min (M.length:Int) 30=(mm:Int):=by omega
 have hb0:(0:Int)≤(mm:Int):=by omega
 have hb1:(mm:Int)≤(M.length:Int):=by omega
 have hb2:(mm:Int)≤(c4:Int):=by omega
 obtain ⟨i4,hi⟩:=hi4
 have hcut:∀ W:World,(Instr.slice 28 (.slice A4 M.length c4) none (some (.int .i64 (mm:Int))) none).run Try.prog W=.ok (.slice A4 mm c4) W:=fun W=>by have:=cut_to (P:=Try.prog) 28 4 .i64 Try.underlying28 hi A4 M.length c4 (mm:Int) (by omega) (by omega) hc4 W;rwa [Int.toNat_natCast] at this
 clear hmm
 have hkw:IntKind.i64.wrap kq=kq:=IntWalk.i64_in _ (by omega)
 have hkm:Int.tmod kq 3=kq % 3:=Int.tmod_eq_emod_of_nonneg hk.1
 clear hr0 hc0 hll hr1 hc1 hits hi
 go_enter Try.func12,Try.ntmps12
 go_upto_region 1 with (first
  | ((with_reducible refine gate_dst (N:=1) rfl ?_);refine ev_box (N:=1) (cs:=#[.slice A0 L.length c0,.slice A1 I.length c1,.int .i64 o0,.int .i64 o1,.int .i64 o2,.int .u8 kq,.slice A4 M.length c4]) (t:=30) HO rfl rfl zhr ?_;intro g1 W1 HO1 hb1;clear HO hb1;have x0:=HO1.box_cell 0 rfl 0 rfl;have x1:=HO1.box_cell 0 rfl 1 rfl;have x5:=HO1.box_cell 0 rfl 5 rfl;have x6:=HO1.box_cell 0 rfl 6 rfl))
 go_region_held3 (fun w'=>w'.cell? ⟨g1,0,none⟩=some (.slice A0 L.length c0)∧w'.cell? ⟨g1,1,none⟩=some (.slice A1 I.length c1)∧w'.cell? ⟨g1,5,none⟩=some (.int .u8 kq)∧w'.cell? ⟨g1,6,none⟩=some (.slice A4 M.length c4)) (go_keep)
  (first
   | (go_at_call 31;refine (madeall_calls A0 c0 L _ (HO1.drew.old HR0.out) HC0.out HLL.out).mono ?_;rintro e_ W2 ⟨v1,rfl,hR,hb⟩;have HO2:=HO1.drew.called hb hR;clear HO1 hR hb x0 x1 x5 x6;have x0:=HO2.box_cell 0 rfl 0 rfl;have x1:=HO2.box_cell 0 rfl 1 rfl;have x5:=HO2.box_cell 0 rfl 5 rfl;have x6:=HO2.box_cell 0 rfl 6 rfl)
   | (go_at_call 32;refine (abugidaref16_MadeItems.calls n A1 c1 I its _ (HO2.old HR1.out) HC1.out HITS.out).mono ?_;rintro e_ W3 ⟨v3,rfl,hR,hb⟩;have HO3:=HO2.called hb hR;clear HO2 hR hb x0 x1 x5 x6;have x0:=HO3.box_cell 0 rfl 0 rfl;have x1:=HO3.box_cell 0 rfl 1 rfl;have x5:=HO3.box_cell 0 rfl 5 rfl;have x6:=HO3.box_cell 0 rfl 6 rfl))
 all_goals
  try go_wp2
 all_goals
  exact bodyPost_ret (results_tmp4 (t:=2) (u:=3) (v:=4) (x:=5) rfl _ _ _) rfl ⟨_,_,rfl,HO3.tail⟩
theorem case_plain (A0:Option Addr) (c0:Nat) (L:List (List Int)) (A1:Option Addr) (c1:Nat) (I:List Int) (o0 o1 o2 kq:Int) (A4:Option Addr) (c4:Nat) (M:List Bool) (w:World)
  (hr0:Kd.C (Kd.slice 3 (Kd.int .i64)) w A0 L.length L) (hc0:L.length≤c0) (hll:∀ s∈L,s.length≤9223372036854775807) (hr1:Kd.C (Kd.int .i64) w A1 I.length I) (hc1:I.length≤c1) (hc4:M.length≤c4) (hk:0≤kq∧kq≤255) :
  Calls Try.prog 12 #[.agg #[.slice A0 L.length c0,.slice A1 I.length c1,.int .i64 o0,.int .i64 o1,.int .i64 o2,.int .u8 kq,.slice A4 M.length c4]] w fun e w'=>∃ v1 v3,e=.returned (.tuple #[v1,.int .i64 (((kq.toNat % 3:Nat):Int)),v3,.slice A4 (M.take 30).length c4])∧Own w w' [.row k24 24 w.heap.size v1 (madeAll L),.row k55 55 w.heap.size v3 (itemsM I)]:=by
 obtain ⟨n,hn⟩:=Ev.rounds (items_ev I)
 refine (case_calls A0 c0 L A1 c1 I o0 o1 o2 kq A4 c4 M (itemsM I) w hr0 hc0 hll hr1 hc1 hc4 hk n hn).mono ?_
 rintro e w' ⟨v1,v3,rfl,HO⟩
 refine ⟨v1,v3,?_,HO⟩
 rw [show kq % 3=((kq.toNat % 3:Nat):Int) by omega,show min M.length 30=(M.take 30).length by rw [List.length_take];omega]
end Go.Proofs.Ytlgkeaildncojaa.Q
end
section
namespace Go.Proofs.Ytlgkeaildncojaa.Q
open Go.RowKit Go.Proofs.YtlgkeaildncojaaW.PrintWords Go.Proofs.YtlgkeaildncojaaW.PrintLast Go.Proofs.YtlgkeaildncojaaW.PrintMore
attribute [local go_sem] max2_int min2_int max_two min_two max_three min_three max_four min_four   -- for this text's walks alone
set_option linter.unusedVariables false
set_option linter.unusedSimpArgs false
def rules_Check.f (l0_0:List (S49)) (a1:Int) (a2:Int) (a3:Int):Option (Int):=some (checkP l0_0 a1 a2 a3)
theorem rules_Check.calls (A0_0:Option Addr) (c0_0:Nat) (l0_0:List (S49)) (a1:Int) (a2:Int) (a3:Int) (r:Int) (w:World) (hr0_0:Kd.C k49 w A0_0 l0_0.length l0_0) (hc0_0:l0_0.length≤c0_0) (h:rules_Check.f l0_0 a1 a2 a3=some r) :
  Calls Try.prog 16 #[.agg #[.slice A0_0 l0_0.length c0_0],.int .i64 a1,.int .i64 a2,.int .i64 a3] w fun e w'=>e=.returned (.int .i64 r)∧Below w.heap.size w w':=by
 obtain rfl:=Option.some.inj h
 exact check_calls A0_0 c0_0 l0_0 a1 a2 a3 w hr0_0
end Go.Proofs.Ytlgkeaildncojaa.Q
end
section
namespace Go.Proofs.Ytlgkeaildncojaa.Q
open Go.RowKit Go.Shelf Go.Proofs.YtlgkeaildncojaaW.PrintWords Go.Proofs.YtlgkeaildncojaaW.PrintLast Go.Proofs.YtlgkeaildncojaaW.PrintMore
set_option linter.unusedSimpArgs false
set_option linter.unusedVariables false
section
variable {P:Program} {ops:Array Oper} {Q:Exit→Act→World→Prop} {o:Oper} {rest:List Oper} {a:Act} {w W:World}
theorem ev_litC {α:Type} (d:Kd α) (e:Nat) {N n:Nat} {xs:List α} {inner:List Value} (hn:xs.length=n) (hgd:o.guard=none) (_hd:o.dst=some N)
  (hrun:(execOp a.eval o).run P W=.ok (.value (.slice (some ⟨W.heap.size,0,none⟩) n n)) (W.alloc (.cells inner.toArray e)))
  (hrep:Reps (d.K W) d.sz xs inner) (hm:n≤1000)
  (h:∀ g W',Below W.heap.size W W'→d.C W' (some ⟨g,0,none⟩) n xs→wpList P ops Q rest (a.put o.dst (.slice (some ⟨g,0,none⟩) n n)) W'):wpList P ops Q (o :: rest) a W:=by
 subst hn
 have hR:=litOld d W e W.heap.size W xs inner (Nat.le_refl _) (by unfold maxLen;omega) hrep
 have hb:=below_alloc (Below.refl W.heap.size W) (.cells inner.toArray e)
 exact Kd.event_run hgd hrun (h _ _ hb (Kd.C_old (Kd.R_reads' hR).2.2 hb))
theorem ev_store1 {α:Type} {d:Kd α} {e g n cap:Nat} {xs:List α} (HO:Own w W [.row d e w.heap.size (.slice (some ⟨g,0,none⟩) n cap) xs]) (hN:o.dst=none) (hgd:o.guard=none) (t:TypeId) (p x:Operand) (ho:o.op=.store t p x)
  (i j:Nat) (x':α) (u:Value) (seg c:List Value) (haddr:a.eval p=.pointer (some ⟨g,i*d.sz+j,none⟩)) (hx:a.eval x=u) (hu:u.cells.toList=seg) (ht:(P.info? t).map (·.size)=some seg.length) (h1:∀ q∈seg,q.oneCell'=true)
  (hin:i<n) (hcl:c.length=d.sz) (hcc:∀ j u,c[j]?=some u→W.cell? ⟨g,i*d.sz+j,none⟩=some u) (hj:j+seg.length≤d.sz) (hM:∀ ok,d.M W w.heap.size ok x' (c.take j++seg++c.drop (j+seg.length)))
  (h:∀ W',Own w W' [.row d e w.heap.size (.slice (some ⟨g,0,none⟩) n cap) (xs.set i x')]→wpList P ops Q rest a W'):wpList P ops Q (o :: rest) a W:=by
 have hb:=HO.below
 obtain ⟨_,_,F,h2⟩:=HO
 have hR:d.R e W w.heap.size (fun k=>w.heap.size≤k) (.slice (some ⟨g,0,none⟩) n cap) xs:=Kd.R_mono (h2 0 _ rfl) (fun k hk=>hk.1)
 refine Kd.R_store d (w0:=w) w.heap.size hN hgd t p x ho e (i:Int) j xs x' u seg c (fun k=>w.heap.size≤k) (fun _=>False) haddr (by rw [Int.toNat_natCast]) hx hu ht h1 hR (by omega) (by omega) hcl (by rw [Int.toNat_natCast];exact hcc) hj (hM _) (fun _ hk=>hk.elim) hb ?_
 intro w1 hR1 hb1 hg1
 rw [Int.toNat_natCast] at hR1
 refine h w1 ⟨hb1,fun _ _ hk=>hk.elim,fun _=>0,fun q r hq=>?_⟩
 match q,hq with
 | 0,hq=>injection hq with hq;subst hq;exact Kd.R_mono hR1 (fun k hk=>⟨hk,rfl⟩)
 | (m+1),hq=>simp at hq
end
theorem ci (w:World) (x:Int):(Kd.int .i64).K w x [.int .i64 x]:=rfl
theorem cl {α:Type} {d:Kd α} {e:Nat} {w:World} {A:Option Addr} {n c:Nat} {xs:List α} (hn:xs.length=n) (hc:n≤c) (h:d.C w A n xs):(Kd.slice e d).K w xs [.slice A n c]:=by
 subst hn
 exact ⟨A,c,rfl,hc,h⟩
def sanR0:S49:=⟨[[9]],[[1],[2]],[],[],[⟨1,1⟩]⟩
def sanR1:S49:=⟨[],[[1]],[],[7],[]⟩
def sanR2:S49:=⟨[],[[2],[3]],[],[8],[]⟩
def sanAll:List S24:=[⟨[sanR0,sanR1]⟩,⟨[sanR2]⟩]
def abugidalaw16_sanity.f (k:Nat):Option Bool:=some true
theorem abugidalaw16_sanity.mono:∀ k,LeO (abugidalaw16_sanity.f k) (abugidalaw16_sanity.f (k+1)):=fun k=>LeO.refl _
set_option maxRecDepth 100000 in
set_option maxHeartbeats 4000000 in
theorem abugidalaw16_sanity.calls (k:Nat) (r:Bool) (w:World) (h:abugidalaw16_sanity.f k=some r) :
  Calls Try.prog 11 #[] w fun e w'=>e=.returned (.bool r)∧Below w.heap.size w w':=by
 obtain rfl:=Option.some.inj h
 have HB:=Aside0.mk (Below.refl w.heap.size w)
 go_enter Try.func11,Try.ntmps11
 go_upto_region 3 with (first
  | ((with_reducible refine gate_dst (N:=8) rfl ?_);(try (refine gate_guard (by rfl) ?_;dsimp only));(refine ev_litC (Kd.int .i64) 3 (N:=8) (xs:=([9]:List Int)) (inner:=[.int .i64 9]) rfl ?hg ?hd ?hr ?hp (by decide) ?_;(case hd=>rfl);(case hg=>rfl);(case hr=>first|(go_simp;done)|(go_simp;rfl));(case hp=>exact Reps.one (ci _ 9) (Reps.none _ _));intro g8 W8 hb;intro hC;have H8:=Aside0.mk hC;clear hC;have nB:=Aside0.mk (below_step HB.out hb);clear HB;have HB:=nB;clear nB;clear hb))
  | ((with_reducible refine gate_dst (N:=9) rfl ?_);(try (refine gate_guard (by rfl) ?_;dsimp only));(refine ev_litC (Kd.slice 3 (Kd.int .i64)) 26 (N:=9) (xs:=([[9]]:List (List Int))) (inner:=[.slice (some ⟨g8,0,none⟩) 1 1]) rfl ?hg ?hd ?hr ?hp (by decide) ?_;(case hd=>rfl);(case hg=>rfl);(case hr=>first|(go_simp;done)|(go_simp;rfl));(case hp=>exact Reps.one (cl rfl (Nat.le_refl _) H8.out) (Reps.none _ _));intro g9 W9 hb;intro hC;have H9:=Aside0.mk hC;clear hC;clear H8;have nB:=Aside0.mk (below_step HB.out hb);clear HB;have HB:=nB;clear nB;clear hb))
  | ((with_reducible refine gate_dst (N:=10) rfl ?_);(try (refine gate_guard (by rfl) ?_;dsimp only));(refine ev_litC (Kd.int .i64) 3 (N:=10) (xs:=([1]:List Int)) (inner:=[.int .i64 1]) rfl ?hg ?hd ?hr ?hp (by decide) ?_;(case hd=>rfl);(case hg=>rfl);(case hr=>first|(go_simp;done)|(go_simp;rfl));(case hp=>exact Reps.one (ci _ 1) (Reps.none _ _));intro g10 W10 hb;intro hC;have H10:=Aside0.mk hC;clear hC;have nH9:=Aside0.mk (Kd.C_below H9.out hb);clear H9;have H9:=nH9;clear nH9;have nB:=Aside0.mk (below_step HB.out hb);clear HB;have HB:=nB;clear nB;clear hb))
  | ((with_reducible refine gate_dst (N:=11) rfl ?_);(try (refine gate_guard (by rfl) ?_;dsimp only));(refine ev_litC (Kd.int .i64) 3 (N:=11) (xs:=([2]:List Int)) (inner:=[.int .i64 2]) rfl ?hg ?hd ?hr ?hp (by decide) ?_;(case hd=>rfl);(case hg=>rfl);(case hr=>first|(go_simp;done)|(go_simp;rfl));(case hp=>exact Reps.one (ci _ 2) (Reps.none _ _));intro g11 W11 hb;intro hC;have H11:=Aside0.mk hC;clear hC;have nH9:=Aside0.mk (Kd.C_below H9.out hb);clear H9;have H9:=nH9;clear nH9;have nH10:=Aside0.mk (Kd.C_below H10.out hb);clear H10;have H10:=nH10;clear nH10;have nB:=Aside0.mk (below_step HB.out hb);clear HB;have HB:=nB;clear nB;clear hb))
  | ((with_reducible refine gate_dst (N:=12) rfl ?_);(try (refine gate_guard (by rfl) ?_;dsimp only));(refine ev_litC (Kd.slice 3 (Kd.int .i64)) 26 (N:=12) (xs:=([[1],[2]]:List (List Int))) (inner:=[.slice (some ⟨g10,0,none⟩) 1 1,.slice (some ⟨g11,0,none⟩) 1 1]) rfl ?hg ?hd ?hr ?hp (by decide) ?_;(case hd=>rfl);(case hg=>rfl);(case hr=>first|(go_simp;done)|(go_simp;rfl));(case hp=>exact Reps.one (cl rfl (Nat.le_refl _) H10.out) (Reps.one (cl rfl (Nat.le_refl _) H11.out) (Reps.none _ _)));intro g12 W12 hb;intro hC;have H12:=Aside0.mk hC;clear hC;have nH9:=Aside0.mk (Kd.C_below H9.out hb);clear H9;have H9:=nH9;clear nH9;clear H10;clear H11;have nB:=Aside0.mk (below_step HB.out hb);clear HB;have HB:=nB;clear nB;clear hb))
  | ((with_reducible refine gate_dst (N:=14) rfl ?_);(try (refine gate_guard (by rfl) ?_;dsimp only));(refine ev_litC (k60) 60 (N:=14) (xs:=([⟨1,1⟩]:List S60)) (inner:=[.int .i64 1,.int .i64 1]) rfl ?hg ?hd ?hr ?hp (by decide) ?_;(case hd=>rfl);(case hg=>rfl);(case hr=>first|(go_simp;done)|(go_simp;rfl));(case hp=>exact (Reps.none _ 2).snoc (show k60.K _ (⟨1,1⟩:S60) [.int .i64 1,.int .i64 1] from k60_mk _ (⟨1,1⟩:S60)) rfl);intro g14 W14 hb;intro hC;have H14:=Aside0.mk hC;clear hC;have nH9:=Aside0.mk (Kd.C_below H9.out hb);clear H9;have H9:=nH9;clear nH9;have nH12:=Aside0.mk (Kd.C_below H12.out hb);clear H12;have H12:=nH12;clear nH12;have nB:=Aside0.mk (below_step HB.out hb);clear HB;have HB:=nB;clear nB;clear hb))
  | ((with_reducible refine gate_dst (N:=16) rfl ?_);(try (refine gate_guard (by rfl) ?_;dsimp only));(refine ev_litC (Kd.int .i64) 3 (N:=16) (xs:=([1]:List Int)) (inner:=[.int .i64 1]) rfl ?hg ?hd ?hr ?hp (by decide) ?_;(case hd=>rfl);(case hg=>rfl);(case hr=>first|(go_simp;done)|(go_simp;rfl));(case hp=>exact Reps.one (ci _ 1) (Reps.none _ _));intro g16 W16 hb;intro hC;have H16:=Aside0.mk hC;clear hC;have nH9:=Aside0.mk (Kd.C_below H9.out hb);clear H9;have H9:=nH9;clear nH9;have nH12:=Aside0.mk (Kd.C_below H12.out hb);clear H12;have H12:=nH12;clear nH12;have nH14:=Aside0.mk (Kd.C_below H14.out hb);clear H14;have H14:=nH14;clear nH14;have nB:=Aside0.mk (below_step HB.out hb);clear HB;have HB:=nB;clear nB;clear hb))
  | ((with_reducible refine gate_dst (N:=17) rfl ?_);(try (refine gate_guard (by rfl) ?_;dsimp only));(refine ev_litC (Kd.slice 3 (Kd.int .i64)) 26 (N:=17) (xs:=([[1]]:List (List Int))) (inner:=[.slice (some ⟨g16,0,none⟩) 1 1]) rfl ?hg ?hd ?hr ?hp (by decide) ?_;(case hd=>rfl);(case hg=>rfl);(case hr=>first|(go_simp;done)|(go_simp;rfl));(case hp=>exact Reps.one (cl rfl (Nat.le_refl _) H16.out) (Reps.none _ _));intro g17 W17 hb;intro hC;have H17:=Aside0.mk hC;clear hC;have nH9:=Aside0.mk (Kd.C_below H9.out hb);clear H9;have H9:=nH9;clear nH9;have nH12:=Aside0.mk (Kd.C_below H12.out hb);clear H12;have H12:=nH12;clear nH12;have nH14:=Aside0.mk (Kd.C_below H14.out hb);clear H14;have H14:=nH14;clear nH14;clear H16;have nB:=Aside0.mk (below_step HB.out hb);clear HB;have HB:=nB;clear nB;clear hb))
  | ((with_reducible refine gate_dst (N:=18) rfl ?_);(try (refine gate_guard (by rfl) ?_;dsimp only));(refine ev_litC (Kd.int .i64) 3 (N:=18) (xs:=([7]:List Int)) (inner:=[.int .i64 7]) rfl ?hg ?hd ?hr ?hp (by decide) ?_;(case hd=>rfl);(case hg=>rfl);(case hr=>first|(go_simp;done)|(go_simp;rfl));(case hp=>exact Reps.one (ci _ 7) (Reps.none _ _));intro g18 W18 hb;intro hC;have H18:=Aside0.mk hC;clear hC;have nH9:=Aside0.mk (Kd.C_below H9.out hb);clear H9;have H9:=nH9;clear nH9;have nH12:=Aside0.mk (Kd.C_below H12.out hb);clear H12;have H12:=nH12;clear nH12;have nH14:=Aside0.mk (Kd.C_below H14.out hb);clear H14;have H14:=nH14;clear nH14;have nH17:=Aside0.mk (Kd.C_below H17.out hb);clear H17;have H17:=nH17;clear nH17;have nB:=Aside0.mk (below_step HB.out hb);clear HB;have HB:=nB;clear nB;clear hb))
  | ((with_reducible refine gate_dst (N:=20) rfl ?_);(try (refine gate_guard (by rfl) ?_;dsimp only));(refine ev_litC (k49) 49 (N:=20) (xs:=([sanR0,sanR1]:List S49)) (inner:=[.slice (some ⟨g9,0,none⟩) 1 1,.slice (some ⟨g12,0,none⟩) 2 2,.slice none 0 0,.slice none 0 0,.slice (some ⟨g14,0,none⟩) 1 1,.slice none 0 0,.slice (some ⟨g17,0,none⟩) 1 1,.slice none 0 0,.slice (some ⟨g18,0,none⟩) 1 1,.slice none 0 0]) rfl ?hg ?hd ?hr ?hp (by decide) ?_;(case hd=>rfl);(case hg=>rfl);(case hr=>first|(go_simp;done)|(go_simp;rfl));(case hp=>exact (((Reps.none _ 5).snoc (show k49.K _ sanR0 [.slice (some ⟨g9,0,none⟩) 1 1,.slice (some ⟨g12,0,none⟩) 2 2,.slice none 0 0,.slice none 0 0,.slice (some ⟨g14,0,none⟩) 1 1] from k49_mk _ sanR0 (Nat.le_refl 1) H9.out (Nat.le_refl 2) H12.out (Nat.le_refl 0) (Kd.C_nil _ _) (Nat.le_refl 0) (Kd.C_nil _ _) (Nat.le_refl 1) H14.out) rfl).snoc (show k49.K _ sanR1 [.slice none 0 0,.slice (some ⟨g17,0,none⟩) 1 1,.slice none 0 0,.slice (some ⟨g18,0,none⟩) 1 1,.slice none 0 0] from k49_mk _ sanR1 (Nat.le_refl 0) (Kd.C_nil _ _) (Nat.le_refl 1) H17.out (Nat.le_refl 0) (Kd.C_nil _ _) (Nat.le_refl 1) H18.out (Nat.le_refl 0) (Kd.C_nil _ _)) rfl));intro g20 W20 hb;intro hC;have H20:=Aside0.mk hC;clear hC;clear H9;clear H12;clear H14;clear H17;clear H18;have nB:=Aside0.mk (below_step HB.out hb);clear HB;have HB:=nB;clear nB;clear hb))
  | ((with_reducible refine gate_dst (N:=22) rfl ?_);(try (refine gate_guard (by rfl) ?_;dsimp only));(refine ev_litC (Kd.int .i64) 3 (N:=22) (xs:=([2]:List Int)) (inner:=[.int .i64 2]) rfl ?hg ?hd ?hr ?hp (by decide) ?_;(case hd=>rfl);(case hg=>rfl);(case hr=>first|(go_simp;done)|(go_simp;rfl));(case hp=>exact Reps.one (ci _ 2) (Reps.none _ _));intro g22 W22 hb;intro hC;have H22:=Aside0.mk hC;clear hC;have nH20:=Aside0.mk (Kd.C_below H20.out hb);clear H20;have H20:=nH20;clear nH20;have nB:=Aside0.mk (below_step HB.out hb);clear HB;have HB:=nB;clear nB;clear hb))
  | ((with_reducible refine gate_dst (N:=23) rfl ?_);(try (refine gate_guard (by rfl) ?_;dsimp only));(refine ev_litC (Kd.int .i64) 3 (N:=23) (xs:=([3]:List Int)) (inner:=[.int .i64 3]) rfl ?hg ?hd ?hr ?hp (by decide) ?_;(case hd=>rfl);(case hg=>rfl);(case hr=>first|(go_simp;done)|(go_simp;rfl));(case hp=>exact Reps.one (ci _ 3) (Reps.none _ _));intro g23 W23 hb;intro hC;have H23:=Aside0.mk hC;clear hC;have nH20:=Aside0.mk (Kd.C_below H20.out hb);clear H20;have H20:=nH20;clear nH20;have nH22:=Aside0.mk (Kd.C_below H22.out hb);clear H22;have H22:=nH22;clear nH22;have nB:=Aside0.mk (below_step HB.out hb);clear HB;have HB:=nB;clear nB;clear hb))
  | ((with_reducible refine gate_dst (N:=24) rfl ?_);(try (refine gate_guard (by rfl) ?_;dsimp only));(refine ev_litC (Kd.slice 3 (Kd.int .i64)) 26 (N:=24) (xs:=([[2],[3]]:List (List Int))) (inner:=[.slice (some ⟨g22,0,none⟩) 1 1,.slice (some ⟨g23,0,none⟩) 1 1]) rfl ?hg ?hd ?hr ?hp (by decide) ?_;(case hd=>rfl);(case hg=>rfl);(case hr=>first|(go_simp;done)|(go_simp;rfl));(case hp=>exact Reps.one (cl rfl (Nat.le_refl _) H22.out) (Reps.one (cl rfl (Nat.le_refl _) H23.out) (Reps.none _ _)));intro g24 W24 hb;intro hC;have H24:=Aside0.mk hC;clear hC;have nH20:=Aside0.mk (Kd.C_below H20.out hb);clear H20;have H20:=nH20;clear nH20;clear H22;clear H23;have nB:=Aside0.mk (below_step HB.out hb);clear HB;have HB:=nB;clear nB;clear hb))
  | ((with_reducible refine gate_dst (N:=25) rfl ?_);(try (refine gate_guard (by rfl) ?_;dsimp only));(refine ev_litC (Kd.int .i64) 3 (N:=25) (xs:=([8]:List Int)) (inner:=[.int .i64 8]) rfl ?hg ?hd ?hr ?hp (by decide) ?_;(case hd=>rfl);(case hg=>rfl);(case hr=>first|(go_simp;done)|(go_simp;rfl));(case hp=>exact Reps.one (ci _ 8) (Reps.none _ _));intro g25 W25 hb;intro hC;have H25:=Aside0.mk hC;clear hC;have nH20:=Aside0.mk (Kd.C_below H20.out hb);clear H20;have H20:=nH20;clear nH20;have nH24:=Aside0.mk (Kd.C_below H24.out hb);clear H24;have H24:=nH24;clear nH24;have nB:=Aside0.mk (below_step HB.out hb);clear HB;have HB:=nB;clear nB;clear hb))
  | ((with_reducible refine gate_dst (N:=27) rfl ?_);(try (refine gate_guard (by rfl) ?_;dsimp only));(refine ev_litC (k49) 49 (N:=27) (xs:=([sanR2]:List S49)) (inner:=[.slice none 0 0,.slice (some ⟨g24,0,none⟩) 2 2,.slice none 0 0,.slice (some ⟨g25,0,none⟩) 1 1,.slice none 0 0]) rfl ?hg ?hd ?hr ?hp (by decide) ?_;(case hd=>rfl);(case hg=>rfl);(case hr=>first|(go_simp;done)|(go_simp;rfl));(case hp=>exact ((Reps.none _ 5).snoc (show k49.K _ sanR2 [.slice none 0 0,.slice (some ⟨g24,0,none⟩) 2 2,.slice none 0 0,.slice (some ⟨g25,0,none⟩) 1 1,.slice none 0 0] from k49_mk _ sanR2 (Nat.le_refl 0) (Kd.C_nil _ _) (Nat.le_refl 2) H24.out (Nat.le_refl 0) (Kd.C_nil _ _) (Nat.le_refl 1) H25.out (Nat.le_refl 0) (Kd.C_nil _ _)) rfl));intro g27 W27 hb;intro hC;have H27:=Aside0.mk hC;clear hC;have nH20:=Aside0.mk (Kd.C_below H20.out hb);clear H20;have H20:=nH20;clear nH20;clear H24;clear H25;have nB:=Aside0.mk (below_step HB.out hb);clear HB;have HB:=nB;clear nB;clear hb))
  | ((with_reducible refine gate_dst (N:=29) rfl ?_);(try (refine gate_guard (by rfl) ?_;dsimp only));(refine ev_litC (k24) 24 (N:=29) (xs:=sanAll) (inner:=[.slice (some ⟨g20,0,none⟩) 2 2,.slice (some ⟨g27,0,none⟩) 1 1]) rfl ?hg ?hd ?hr ?hp (by decide) ?_;(case hd=>rfl);(case hg=>rfl);(case hr=>first|(go_simp;done)|(go_simp;rfl));(case hp=>exact Reps.one (show k24.K _ (⟨[sanR0,sanR1]⟩:S24) [.slice (some ⟨g20,0,none⟩) 2 2] from k24_mk _ (⟨[sanR0,sanR1]⟩:S24) (Nat.le_refl 2) H20.out) (Reps.one (show k24.K _ (⟨[sanR2]⟩:S24) [.slice (some ⟨g27,0,none⟩) 1 1] from k24_mk _ (⟨[sanR2]⟩:S24) (Nat.le_refl 1) H27.out) (Reps.none _ _)));intro g29 W29 hb;intro hC;have H29:=Aside0.mk hC;clear hC;have nH20:=Aside0.mk (Kd.C_below H20.out hb);clear H20;have H20:=nH20;clear nH20;clear H27;have nB:=Aside0.mk (below_step HB.out hb);clear HB;have HB:=nB;clear nB;clear hb))
  | ((with_reducible refine gate_dst (N:=30) rfl ?_);(try (refine gate_guard (by rfl) ?_;dsimp only));(refine ev_litC (Kd.bool) 4 (N:=30) (xs:=([true]:List Bool)) (inner:=[.bool true]) rfl ?hg ?hd ?hr ?hp (by decide) ?_;(case hd=>rfl);(case hg=>rfl);(case hr=>first|(go_simp;done)|(go_simp;rfl));(case hp=>exact Reps.one (show Kd.bool.K _ true [.bool true] from rfl) (Reps.none _ _));intro g30 W30 hb;intro hC;have H30:=Aside0.mk hC;clear hC;have nH20:=Aside0.mk (Kd.C_below H20.out hb);clear H20;have H20:=nH20;clear nH20;have nH29:=Aside0.mk (Kd.C_below H29.out hb);clear H29;have H29:=nH29;clear nH29;have nB:=Aside0.mk (below_step HB.out hb);clear HB;have HB:=nB;clear nB;clear hb)))
 have HO:=Aside0.mk (Own.start W30)
 go_upto_region 4 with (first
  | ((with_reducible refine gate_dst (N:=32) rfl ?_);(try (refine gate_guard (by rfl) ?_;dsimp only));(refine ev_litC (Kd.int .i64) 3 (N:=32) (xs:=([9,1,2,3,1]:List Int)) (inner:=[.int .i64 9,.int .i64 1,.int .i64 2,.int .i64 3,.int .i64 1]) rfl ?hg ?hd ?hr ?hp (by decide) ?_;(case hd=>rfl);(case hg=>rfl);(case hr=>first|(go_simp;done)|(go_simp;rfl));(case hp=>exact Reps.one (ci _ 9) (Reps.one (ci _ 1) (Reps.one (ci _ 2) (Reps.one (ci _ 3) (Reps.one (ci _ 1) (Reps.none _ _))))));intro g32 W32 hb hC;have H32:=Aside0.mk hC;have nO:=Aside0.mk (HO.out.grow hb);clear HO;have HO:=nO;clear nO;clear hC hb))
  | (go_at_call_has 30 (Value.slice (some ⟨g32,0,none⟩) 5 5);(refine (abugidalaw16_glyphs.calls 50 (some ⟨g32,0,none⟩) 5 ([9,1,2,3,1]:List Int) ([⟨9,0⟩,⟨1,0⟩,⟨2,0⟩,⟨3,0⟩,⟨1,0⟩]:List S55) _ H32.out (Nat.le_refl 5) (by kernel_rfl)).mono ?_;rintro e_ W_ ⟨v_,rfl,hR,hb⟩;have hO:=HO.out.called hb hR;clear HO H32 hR hb;obtain ⟨A33,c33,rfl,-,-⟩:=hO.row_at 0 rfl;have HO:=Aside0.mk hO;clear hO))
  | ((with_reducible refine gate_dst (N:=35) rfl ?_);(try (refine gate_guard (by rfl) ?_;dsimp only));(refine ev_litC (Kd.int .i64) 3 (N:=35) (xs:=([9,1,8,7]:List Int)) (inner:=[.int .i64 9,.int .i64 1,.int .i64 8,.int .i64 7]) rfl ?hg ?hd ?hr ?hp (by decide) ?_;(case hd=>rfl);(case hg=>rfl);(case hr=>first|(go_simp;done)|(go_simp;rfl));(case hp=>exact Reps.one (ci _ 9) (Reps.one (ci _ 1) (Reps.one (ci _ 8) (Reps.one (ci _ 7) (Reps.none _ _)))));intro g35 W35 hb hC;have H35:=Aside0.mk hC;have nO:=Aside0.mk (HO.out.grow hb);clear HO;have HO:=nO;clear nO;clear hC hb))
  | (go_at_call_has 30 (Value.slice (some ⟨g35,0,none⟩) 4 4);(refine (abugidalaw16_glyphs.calls 50 (some ⟨g35,0,none⟩) 4 ([9,1,8,7]:List Int) ([⟨9,0⟩,⟨1,0⟩,⟨8,0⟩,⟨7,0⟩]:List S55) _ H35.out (Nat.le_refl 4) (by kernel_rfl)).mono ?_;rintro e_ W_ ⟨v_,rfl,hR,hb⟩;have hO:=HO.out.called hb hR;clear HO H35 hR hb;obtain ⟨A36,c36,rfl,-,-⟩:=hO.row_at 1 rfl;have HO:=Aside0.mk hO;clear hO))
  | (go_at_call 28;(refine (abugidalaw16_gives.calls 100 (some ⟨g29,0,none⟩) 2 sanAll 0 A33 c33 ([⟨9,0⟩,⟨1,0⟩,⟨2,0⟩,⟨3,0⟩,⟨1,0⟩]:List S55) (some ⟨g30,0,none⟩) 1 [true] 6 A36 c36 ([⟨9,0⟩,⟨1,0⟩,⟨8,0⟩,⟨7,0⟩]:List S55) true _ (HO.out.old H29.out) (Nat.le_refl 2) (HO.out.row_sl 0 rfl).2.2 (HO.out.row_sl 0 rfl).2.1 (HO.out.old H30.out) (Nat.le_refl 1) (HO.out.row_sl 1 rfl).2.2 (HO.out.row_sl 1 rfl).2.1 (by decide +kernel)).mono ?_;rintro e_ W_ ⟨rfl,hb⟩;have nO:=Aside0.mk (HO.out.grow hb);clear HO hb;have HO:=nO;clear nO;have nO:=Aside0.mk (HO.out.upto 0);clear HO;have HO:=nO;clear nO;have D1:=trivial))
  | ((with_reducible refine gate_dst (N:=40) rfl ?_);(try (refine gate_guard (by rfl) ?_;dsimp only));(refine ev_litC (Kd.int .i64) 3 (N:=40) (xs:=([1,2,3]:List Int)) (inner:=[.int .i64 1,.int .i64 2,.int .i64 3]) rfl ?hg ?hd ?hr ?hp (by decide) ?_;(case hd=>rfl);(case hg=>rfl);(case hr=>first|(go_simp;done)|(go_simp;rfl));(case hp=>exact Reps.one (ci _ 1) (Reps.one (ci _ 2) (Reps.one (ci _ 3) (Reps.none _ _))));intro g40 W40 hb hC;have H40:=Aside0.mk hC;have nO:=Aside0.mk (HO.out.grow hb);clear HO;have HO:=nO;clear nO;clear hC hb))
  | (go_at_call_has 30 (Value.slice (some ⟨g40,0,none⟩) 3 3);(refine (abugidalaw16_glyphs.calls 50 (some ⟨g40,0,none⟩) 3 ([1,2,3]:List Int) ([⟨1,0⟩,⟨2,0⟩,⟨3,0⟩]:List S55) _ H40.out (Nat.le_refl 3) (by kernel_rfl)).mono ?_;rintro e_ W_ ⟨v_,rfl,hR,hb⟩;have hO:=HO.out.called hb hR;clear HO H40 hR hb;obtain ⟨A41,c41,rfl,-,-⟩:=hO.row_at 0 rfl;have HO:=Aside0.mk hO;clear hO))
  | ((with_reducible refine gate_dst (N:=43) rfl ?_);(try (refine gate_guard (by rfl) ?_;dsimp only));(refine ev_litC (Kd.int .i64) 3 (N:=43) (xs:=([7,2,3]:List Int)) (inner:=[.int .i64 7,.int .i64 2,.int .i64 3]) rfl ?hg ?hd ?hr ?hp (by decide) ?_;(case hd=>rfl);(case hg=>rfl);(case hr=>first|(go_simp;done)|(go_simp;rfl));(case hp=>exact Reps.one (ci _ 7) (Reps.one (ci _ 2) (Reps.one (ci _ 3) (Reps.none _ _))));intro g43 W43 hb hC;have H43:=Aside0.mk hC;have nO:=Aside0.mk (HO.out.grow hb);clear HO;have HO:=nO;clear nO;clear hC hb))
  | (go_at_call_has 30 (Value.slice (some ⟨g43,0,none⟩) 3 3);(refine (abugidalaw16_glyphs.calls 50 (some ⟨g43,0,none⟩) 3 ([7,2,3]:List Int) ([⟨7,0⟩,⟨2,0⟩,⟨3,0⟩]:List S55) _ H43.out (Nat.le_refl 3) (by kernel_rfl)).mono ?_;rintro e_ W_ ⟨v_,rfl,hR,hb⟩;have hO:=HO.out.called hb hR;clear HO H43 hR hb;obtain ⟨A44,c44,rfl,-,-⟩:=hO.row_at 1 rfl;have HO:=Aside0.mk hO;clear hO))
  | (go_at_call 28;(refine (abugidalaw16_gives.calls 100 (some ⟨g29,0,none⟩) 2 sanAll 0 A41 c41 ([⟨1,0⟩,⟨2,0⟩,⟨3,0⟩]:List S55) (some ⟨g30,0,none⟩) 1 [true] 6 A44 c44 ([⟨7,0⟩,⟨2,0⟩,⟨3,0⟩]:List S55) true _ (HO.out.old H29.out) (Nat.le_refl 2) (HO.out.row_sl 0 rfl).2.2 (HO.out.row_sl 0 rfl).2.1 (HO.out.old H30.out) (Nat.le_refl 1) (HO.out.row_sl 1 rfl).2.2 (HO.out.row_sl 1 rfl).2.1 (by decide +kernel)).mono ?_;rintro e_ W_ ⟨rfl,hb⟩;have nO:=Aside0.mk (HO.out.grow hb);clear HO hb;have HO:=nO;clear nO;clear D1;have nO:=Aside0.mk (HO.out.upto 0);clear HO;have HO:=nO;clear nO;have D2:=trivial))
  | ((with_reducible refine gate_dst (N:=49) rfl ?_);(try (refine gate_guard (by rfl) ?_;dsimp only));(refine ev_litC (Kd.int .i64) 3 (N:=49) (xs:=([9,1,2,1]:List Int)) (inner:=[.int .i64 9,.int .i64 1,.int .i64 2,.int .i64 1]) rfl ?hg ?hd ?hr ?hp (by decide) ?_;(case hd=>rfl);(case hg=>rfl);(case hr=>first|(go_simp;done)|(go_simp;rfl));(case hp=>exact Reps.one (ci _ 9) (Reps.one (ci _ 1) (Reps.one (ci _ 2) (Reps.one (ci _ 1) (Reps.none _ _)))));intro g49 W49 hb hC;have H49:=Aside0.mk hC;have nO:=Aside0.mk (HO.out.grow hb);clear HO;have HO:=nO;clear nO;clear hC hb))
  | (go_at_call_has 30 (Value.slice (some ⟨g49,0,none⟩) 4 4);(refine (abugidalaw16_glyphs.calls 50 (some ⟨g49,0,none⟩) 4 ([9,1,2,1]:List Int) ([⟨9,0⟩,⟨1,0⟩,⟨2,0⟩,⟨1,0⟩]:List S55) _ H49.out (Nat.le_refl 4) (by kernel_rfl)).mono ?_;rintro e_ W_ ⟨v_,rfl,hR,hb⟩;have hO:=HO.out.called hb hR;clear HO H49 hR hb;obtain ⟨A50,c50,rfl,-,-⟩:=hO.row_at 0 rfl;have HO:=Aside0.mk hO;clear hO))
  | ((with_reducible refine gate_dst (N:=52) rfl ?_);(try (refine gate_guard (by rfl) ?_;dsimp only));(refine ev_litC (Kd.int .i64) 3 (N:=52) (xs:=([9,1,2,7]:List Int)) (inner:=[.int .i64 9,.int .i64 1,.int .i64 2,.int .i64 7]) rfl ?hg ?hd ?hr ?hp (by decide) ?_;(case hd=>rfl);(case hg=>rfl);(case hr=>first|(go_simp;done)|(go_simp;rfl));(case hp=>exact Reps.one (ci _ 9) (Reps.one (ci _ 1) (Reps.one (ci _ 2) (Reps.one (ci _ 7) (Reps.none _ _)))));intro g52 W52 hb hC;have H52:=Aside0.mk hC;have nO:=Aside0.mk (HO.out.grow hb);clear HO;have HO:=nO;clear nO;clear hC hb))
  | (go_at_call_has 30 (Value.slice (some ⟨g52,0,none⟩) 4 4);(refine (abugidalaw16_glyphs.calls 50 (some ⟨g52,0,none⟩) 4 ([9,1,2,7]:List Int) ([⟨9,0⟩,⟨1,0⟩,⟨2,0⟩,⟨7,0⟩]:List S55) _ H52.out (Nat.le_refl 4) (by kernel_rfl)).mono ?_;rintro e_ W_ ⟨v_,rfl,hR,hb⟩;have hO:=HO.out.called hb hR;clear HO H52 hR hb;obtain ⟨A53,c53,rfl,-,-⟩:=hO.row_at 1 rfl;have HO:=Aside0.mk hO;clear hO))
  | (go_at_call 28;(refine (abugidalaw16_gives.calls 100 (some ⟨g29,0,none⟩) 2 sanAll 0 A50 c50 ([⟨9,0⟩,⟨1,0⟩,⟨2,0⟩,⟨1,0⟩]:List S55) (some ⟨g30,0,none⟩) 1 [true] 6 A53 c53 ([⟨9,0⟩,⟨1,0⟩,⟨2,0⟩,⟨7,0⟩]:List S55) true _ (HO.out.old H29.out) (Nat.le_refl 2) (HO.out.row_sl 0 rfl).2.2 (HO.out.row_sl 0 rfl).2.1 (HO.out.old H30.out) (Nat.le_refl 1) (HO.out.row_sl 1 rfl).2.2 (HO.out.row_sl 1 rfl).2.1 (by decide +kernel)).mono ?_;rintro e_ W_ ⟨rfl,hb⟩;have nO:=Aside0.mk (HO.out.grow hb);clear HO hb;have HO:=nO;clear nO;clear D2;have nO:=Aside0.mk (HO.out.upto 0);clear HO;have HO:=nO;clear nO;have D3:=trivial)))
 go_upto_region 6 with (first
  | ((with_reducible refine gate_dst (N:=57) rfl ?_);(try (refine gate_guard (by rfl) ?_;dsimp only));(refine ev_litC (Kd.int .i64) 3 (N:=57) (xs:=([2,3,2,3]:List Int)) (inner:=[.int .i64 2,.int .i64 3,.int .i64 2,.int .i64 3]) rfl ?hg ?hd ?hr ?hp (by decide) ?_;(case hd=>rfl);(case hg=>rfl);(case hr=>first|(go_simp;done)|(go_simp;rfl));(case hp=>exact Reps.one (ci _ 2) (Reps.one (ci _ 3) (Reps.one (ci _ 2) (Reps.one (ci _ 3) (Reps.none _ _)))));intro g57 W57 hb hC;have H57:=Aside0.mk hC;have nO:=Aside0.mk (HO.out.grow hb);clear HO;have HO:=nO;clear nO;clear hC hb))
  | (go_at_call_has 30 (Value.slice (some ⟨g57,0,none⟩) 4 4);(refine (abugidalaw16_glyphs.calls 50 (some ⟨g57,0,none⟩) 4 ([2,3,2,3]:List Int) ([⟨2,0⟩,⟨3,0⟩,⟨2,0⟩,⟨3,0⟩]:List S55) _ H57.out (Nat.le_refl 4) (by kernel_rfl)).mono ?_;rintro e_ W_ ⟨v_,rfl,hR,hb⟩;have hO:=HO.out.called hb hR;clear HO H57 hR hb;obtain ⟨A58,c58,rfl,-,-⟩:=hO.row_at 0 rfl;have HO:=Aside0.mk hO;clear hO))
  | ((with_reducible refine gate_dst (N:=60) rfl ?_);(try (refine gate_guard (by rfl) ?_;dsimp only));(refine ev_litC (Kd.int .i64) 3 (N:=60) (xs:=([8,8]:List Int)) (inner:=[.int .i64 8,.int .i64 8]) rfl ?hg ?hd ?hr ?hp (by decide) ?_;(case hd=>rfl);(case hg=>rfl);(case hr=>first|(go_simp;done)|(go_simp;rfl));(case hp=>exact Reps.one (ci _ 8) (Reps.one (ci _ 8) (Reps.none _ _)));intro g60 W60 hb hC;have H60:=Aside0.mk hC;have nO:=Aside0.mk (HO.out.grow hb);clear HO;have HO:=nO;clear nO;clear hC hb))
  | (go_at_call_has 30 (Value.slice (some ⟨g60,0,none⟩) 2 2);(refine (abugidalaw16_glyphs.calls 50 (some ⟨g60,0,none⟩) 2 ([8,8]:List Int) ([⟨8,0⟩,⟨8,0⟩]:List S55) _ H60.out (Nat.le_refl 2) (by kernel_rfl)).mono ?_;rintro e_ W_ ⟨v_,rfl,hR,hb⟩;have hO:=HO.out.called hb hR;clear HO H60 hR hb;obtain ⟨A61,c61,rfl,-,-⟩:=hO.row_at 1 rfl;have HO:=Aside0.mk hO;clear hO))
  | (go_at_call 28;(refine (abugidalaw16_gives.calls 100 (some ⟨g29,0,none⟩) 2 sanAll 1 A58 c58 ([⟨2,0⟩,⟨3,0⟩,⟨2,0⟩,⟨3,0⟩]:List S55) (some ⟨g30,0,none⟩) 1 [true] 2 A61 c61 ([⟨8,0⟩,⟨8,0⟩]:List S55) true _ (HO.out.old H29.out) (Nat.le_refl 2) (HO.out.row_sl 0 rfl).2.2 (HO.out.row_sl 0 rfl).2.1 (HO.out.old H30.out) (Nat.le_refl 1) (HO.out.row_sl 1 rfl).2.2 (HO.out.row_sl 1 rfl).2.1 (by decide +kernel)).mono ?_;rintro e_ W_ ⟨rfl,hb⟩;have nO:=Aside0.mk (HO.out.grow hb);clear HO hb;have HO:=nO;clear nO;clear D3;have nO:=Aside0.mk (HO.out.upto 0);clear HO;have HO:=nO;clear nO;have D4:=trivial))
  | ((with_reducible refine gate_dst (N:=63) rfl ?_);(try (refine gate_guard (by rfl) ?_;dsimp only));(refine ev_litC (Kd.int .i64) 3 (N:=63) (xs:=([2,3,2,3]:List Int)) (inner:=[.int .i64 2,.int .i64 3,.int .i64 2,.int .i64 3]) rfl ?hg ?hd ?hr ?hp (by decide) ?_;(case hd=>rfl);(case hg=>rfl);(case hr=>first|(go_simp;done)|(go_simp;rfl));(case hp=>exact Reps.one (ci _ 2) (Reps.one (ci _ 3) (Reps.one (ci _ 2) (Reps.one (ci _ 3) (Reps.none _ _)))));intro g63 W63 hb hC;have H63:=Aside0.mk hC;have nO:=Aside0.mk (HO.out.grow hb);clear HO;have HO:=nO;clear nO;clear hC hb))
  | (go_at_call_has 30 (Value.slice (some ⟨g63,0,none⟩) 4 4);(refine (abugidalaw16_glyphs.calls 50 (some ⟨g63,0,none⟩) 4 ([2,3,2,3]:List Int) ([⟨2,0⟩,⟨3,0⟩,⟨2,0⟩,⟨3,0⟩]:List S55) _ H63.out (Nat.le_refl 4) (by kernel_rfl)).mono ?_;rintro e_ W_ ⟨v_,rfl,hR,hb⟩;have hO:=HO.out.called hb hR;clear HO H63 hR hb;obtain ⟨A64,c64,rfl,-,-⟩:=hO.row_at 0 rfl;have HO:=Aside0.mk hO;clear hO)))
 obtain ⟨ad64,c64_,hA64,hcl64,hK64,hcc64⟩:=Kd.C_get (HO.out.row_sl 0 rfl).2.2 z55 3 (by decide) (by decide)
 subst hA64
 obtain ⟨g64,rfl⟩:=Kd.R_head (HO.out.row_R 0 rfl)
 obtain rfl:=k55_open hK64
 have HCC:=Aside0.mk hcc64
 clear hcc64 hK64 hcl64
 go_upto_region 7 with (first
  | ((with_reducible refine gate_store (t:=3) (p:=67) rfl ?_);(refine ev_store1 (d:=k55) HO.out rfl rfl 3 (.tmp 67) (.const (.int .i64 1)) rfl 3 1 (⟨3,1⟩:S55) (.int .i64 1) [.int .i64 1] [.int .i64 3,.int .i64 0] ?ha rfl rfl (by kernel_rfl) za80 (by decide) rfl ?hc (by decide) (fun ok=>k55_mkM _ _ _ (⟨3,1⟩:S55)) ?_;(case ha=>first|rfl|(go_simp;done));(case hc=>intro j u hj;have h_:=HCC.out j u hj;rw [show ((⟨g64,0,none⟩:Addr).add (Int.toNat 3*k55.sz+j))=⟨g64,3*k55.sz+j,none⟩ by simp [Addr.add,show k55.sz=2 from rfl]] at h_;exact h_);intro W67 hO;have nO:Own W30 W67 [.row k55 55 W30.heap.size (.slice (some ⟨g64,0,none⟩) 4 c64) ([⟨2,0⟩,⟨3,0⟩,⟨2,0⟩,⟨3,1⟩]:List S55)]:=hO;clear HO hO HCC;have HO:=Aside0.mk nO;clear nO)))
 go_upto_region 8 with (first
  | ((with_reducible refine gate_dst (N:=68) rfl ?_);(try (refine gate_guard (by rfl) ?_;dsimp only));(refine ev_litC (Kd.int .i64) 3 (N:=68) (xs:=([8,2]:List Int)) (inner:=[.int .i64 8,.int .i64 2]) rfl ?hg ?hd ?hr ?hp (by decide) ?_;(case hd=>rfl);(case hg=>rfl);(case hr=>first|(go_simp;done)|(go_simp;rfl));(case hp=>exact Reps.one (ci _ 8) (Reps.one (ci _ 2) (Reps.none _ _)));intro g68 W68 hb hC;have H68:=Aside0.mk hC;have nO:=Aside0.mk (HO.out.grow hb);clear HO;have HO:=nO;clear nO;clear hC hb))
  | (go_at_call_has 30 (Value.slice (some ⟨g68,0,none⟩) 2 2);(refine (abugidalaw16_glyphs.calls 50 (some ⟨g68,0,none⟩) 2 ([8,2]:List Int) ([⟨8,0⟩,⟨2,0⟩]:List S55) _ H68.out (Nat.le_refl 2) (by kernel_rfl)).mono ?_;rintro e_ W_ ⟨v_,rfl,hR,hb⟩;have hO:=HO.out.called hb hR;clear HO H68 hR hb;obtain ⟨A69,c69,rfl,-,-⟩:=hO.row_at 1 rfl;have HO:=Aside0.mk hO;clear hO))
  | ((with_reducible refine gate_builtin (b:=.append) (xs:=#[.tmp 69,.tmp 71]) rfl ?_);at_builtin;(refine ev_append 1 HO.out rfl rfl (.tmp 69) (.tmp 71) 33 (.agg #[.int .i64 0,.int .i64 0]) 16 rfl Try.underlying33 hinf55 rfl (by decide) (by decide) (⟨3,1⟩:S55) [.int .i64 3,.int .i64 1] rfl rfl (k55_mkM _ _ _ _) (by decide) ?_;intro A72 c72 W72 hO;have nO:Own W30 W72 [.row k55 55 W30.heap.size (.slice (some ⟨g64,0,none⟩) 4 c64) ([⟨2,0⟩,⟨3,0⟩,⟨2,0⟩,⟨3,1⟩]:List S55),.row k55 55 W30.heap.size (.slice A72 3 c72) ([⟨8,0⟩,⟨2,0⟩,⟨3,1⟩]:List S55)]:=hO;clear HO hO;have HO:=Aside0.mk nO;clear nO)))
 go_upto_region 9 with (first
  | ((with_reducible refine gate_dst (N:=75) rfl ?_);(refine ev_litC Kd.bool 4 (N:=75) (xs:=([true,true]:List Bool)) (inner:=[.bool true,.bool true]) rfl ?hg ?hd ?hr ?hp (by decide) ?_;(case hd=>rfl);(case hg=>rfl);(case hr=>first|(go_simp;done)|(go_simp;rfl));(case hp=>exact Reps.one (show Kd.bool.K _ true [.bool true] from rfl) (Reps.one (show Kd.bool.K _ true [.bool true] from rfl) (Reps.none _ _)));intro g75 W75 hb hC;have H75:=Aside0.mk hC;have nO:=Aside0.mk (HO.out.grow hb);clear HO;have HO:=nO;clear nO;clear hC hb))
  | (go_at_call 28;(refine (abugidalaw16_gives.calls 100 (some ⟨g29,0,none⟩) 2 sanAll 1 (some ⟨g64,0,none⟩) c64 ([⟨2,0⟩,⟨3,0⟩,⟨2,0⟩,⟨3,1⟩]:List S55) (some ⟨g75,0,none⟩) 2 [true,true] 3 A72 c72 ([⟨8,0⟩,⟨2,0⟩,⟨3,1⟩]:List S55) true _ (HO.out.old H29.out) (Nat.le_refl 2) (HO.out.row_sl 0 rfl).2.2 (HO.out.row_sl 0 rfl).2.1 H75.out (Nat.le_refl 2) (HO.out.row_sl 1 rfl).2.2 (HO.out.row_sl 1 rfl).2.1 (by decide +kernel)).mono ?_;rintro e_ W_ ⟨rfl,hb⟩;have nO:=Aside0.mk (HO.out.grow hb);clear HO hb;have HO:=nO;clear nO;clear H75;have D5:=trivial))
  | (go_at_call 28;(refine (abugidalaw16_gives.calls 100 (some ⟨g29,0,none⟩) 2 sanAll 1 (some ⟨g64,0,none⟩) c64 ([⟨2,0⟩,⟨3,0⟩,⟨2,0⟩,⟨3,1⟩]:List S55) (some ⟨g30,0,none⟩) 1 [true] 2 A72 c72 ([⟨8,0⟩,⟨2,0⟩,⟨3,1⟩]:List S55) true _ (HO.out.old H29.out) (Nat.le_refl 2) (HO.out.row_sl 0 rfl).2.2 (HO.out.row_sl 0 rfl).2.1 (HO.out.old H30.out) (Nat.le_refl 1) (HO.out.row_sl 1 rfl).2.2 (HO.out.row_sl 1 rfl).2.1 (by decide +kernel)).mono ?_;rintro e_ W_ ⟨rfl,hb⟩;have nO:=Aside0.mk (HO.out.grow hb);clear HO hb;have HO:=nO;clear nO;clear D5)))
 obtain ⟨ad,A20,c20,hA,hx,hl20,hC20⟩:=at_T24 H29.out 0 (by decide) (by decide)
 obtain rfl:ad=⟨g29,0,none⟩:=(Option.some.inj hA).symm
 have X30:Aside0 (W30.cell? ⟨g29,0,none⟩=some (.slice A20 2 c20)):=⟨hx⟩
 have HC20:=Aside0.mk (show k49.C W30 A20 2 [sanR0,sanR1] from hC20)
 have HL20:=Aside0.mk (show 2≤c20 from hl20)
 have nO:=Aside0.mk (HO.out.upto 0)
 clear HO
 have HO:=nO
 have x0:=pw_cell_below HO.out.below X30.out
 clear nO hA hx hC20 hl20
 go_wp2_with (first
  | (go_at_call 19;(refine (rules_First.calls 100 A20 c20 [sanR0,sanR1] [1] _ (HO.out.old HC20.out) HL20.out (by kernel_rfl)).mono ?_;rintro e_ W_ ⟨v_,rfl,hR,hb⟩;have hO:=HO.out.called hb hR;clear HO x0 hR hb;obtain ⟨A96,c96,rfl,-,-⟩:=hO.row_at 0 rfl;have HO:=Aside0.mk hO;clear hO;have x0:=pw_cell_below HO.out.below X30.out))
  | ((with_reducible refine gate_dst (N:=97) rfl ?_);(try (refine gate_guard (by rfl) ?_;dsimp only));(refine ev_litC (Kd.int .i64) 3 (N:=97) (xs:=([1]:List Int)) (inner:=[.int .i64 1]) rfl ?hg ?hd ?hr ?hp (by decide) ?_;(case hd=>rfl);(case hg=>rfl);(case hr=>first|(go_simp;done)|(go_simp;rfl));(case hp=>exact Reps.one (ci _ 1) (Reps.none _ _));intro g97 W97 hb hC;have H97:=Aside0.mk hC;have nO:=Aside0.mk (HO.out.grow hb);clear HO;have HO:=nO;clear nO;clear hC hb;clear x0;have x0:=pw_cell_below HO.out.below X30.out))
  | (go_at_call 18;(refine (abugidaref16_SameInts.calls 100 A96 c96 [1] (some ⟨g97,0,none⟩) 1 [1] true _ (HO.out.row_sl 0 rfl).2.2 (HO.out.row_sl 0 rfl).2.1 H97.out (Nat.le_refl 1) (by kernel_rfl)).mono ?_;rintro e_ W_ ⟨rfl,hd⟩;have nO:=Aside0.mk ((HO.out.upto 0).grow hd.below);clear HO x0 hd H97;have HO:=nO;clear nO;have x0:=pw_cell_below HO.out.below X30.out))
  | (go_at_call_has 16 (Value.int IntKind.i64 1);(refine (rules_Check.calls A20 c20 [sanR0,sanR1] 1 2 10 32 _ (HO.out.old HC20.out) HL20.out (by kernel_rfl)).mono ?_;rintro e_ W_ ⟨rfl,hb⟩;have nO:=Aside0.mk (HO.out.grow hb);clear HO x0 hb;have HO:=nO;clear nO;have x0:=pw_cell_below HO.out.below X30.out))
  | (go_at_call_has 16 (Value.int IntKind.i64 0);(refine (rules_Check.calls A20 c20 [sanR0,sanR1] 0 2 10 0 _ (HO.out.old HC20.out) HL20.out (by kernel_rfl)).mono ?_;rintro e_ W_ ⟨rfl,hb⟩;have nO:=Aside0.mk (HO.out.grow hb);clear HO x0 hb;have HO:=nO;clear nO;have x0:=pw_cell_below HO.out.below X30.out)))
 go_ret
 exact ⟨rfl,below_step HB.out HO.out.below⟩
end Go.Proofs.Ytlgkeaildncojaa.Q
end
section
namespace Go.Proofs.Ytlgkeaildncojaa.Q
open Go.RowKit Go.Shelf Go.Proofs.YtlgkeaildncojaaW.PrintWords Go.Proofs.YtlgkeaildncojaaW.PrintLast Go.Proofs.YtlgkeaildncojaaW.PrintMore
set_option linter.unusedSimpArgs false
set_option linter.unusedVariables false
structure Kept55 (may:List Bool) (its its2:List S55):Prop where
 sorted:its.Pairwise (fun a b=>a.f1≤b.f1)→its2.Pairwise (fun a b=>a.f1≤b.f1)
 rest:∀ c,mayB may c=false→its2.filter (fun x=>decide (x.f1=c))=its.filter (fun x=>decide (x.f1=c))
 from_:∀ x∈its2,∃ y∈its,y.f1=x.f1
theorem Kept55.refl (may:List Bool) (its:List S55):Kept55 may its its:=⟨id,fun _ _=>rfl,fun x h=>⟨x,h,rfl⟩⟩
theorem Kept55.trans {may:List Bool} {a b c:List S55} (h:Kept55 may a b) (g:Kept55 may b c):Kept55 may a c :=
 ⟨fun q=>g.sorted (h.sorted q),fun x hx=>(g.rest x hx).trans (h.rest x hx),fun x hx=>by
  obtain ⟨y,hy,e⟩:=g.from_ x hx
  obtain ⟨z,hz,e2⟩:=h.from_ y hy
  exact ⟨z,hz,e2.trans e⟩⟩
end Go.Proofs.Ytlgkeaildncojaa.Q
end
section
namespace Go.Proofs.Ytlgkeaildncojaa.Q
open Go.RowKit Go.Shelf Go.Proofs.YtlgkeaildncojaaW.PrintWords Go.Proofs.YtlgkeaildncojaaW.PrintLast Go.Proofs.YtlgkeaildncojaaW.PrintMore
set_option linter.unusedSimpArgs false
set_option linter.unusedVariables false
theorem C_take {α:Type} {d:Kd α} {w:World} {A:Option Addr} {xs:List α} (h:d.C w A xs.length xs) (k:Nat):d.C w A (xs.take k).length (xs.take k):=by
 obtain ⟨h1,h2,h3⟩:=h
 have hl:(xs.take k).length≤xs.length:=by rw [List.length_take];omega
 refine ⟨rfl,Nat.le_trans hl h2,fun h0=>?_⟩
 obtain ⟨a,ha,h4⟩:=h3 (Nat.lt_of_lt_of_le h0 hl)
 refine ⟨a,ha,fun j p hj=>h4 j p ?_⟩
 rw [List.getElem?_take] at hj
 split at hj
 ·
  exact hj
 ·
  cases hj
end Go.Proofs.Ytlgkeaildncojaa.Q
end
section
namespace Go.Proofs.Ytlgkeaildncojaa.Q
open Go.RowKit Go.Shelf Go.Proofs.YtlgkeaildncojaaW.PrintWords Go.Proofs.YtlgkeaildncojaaW.PrintLast Go.Proofs.YtlgkeaildncojaaW.PrintMore
set_option linter.unusedSimpArgs false
set_option linter.unusedVariables false
theorem ev_rows_step_ {P:Program} {ops:Array Oper} {o:Oper} {a:Act} {Q:Exit→Act→World→Prop} {w W:World} {L:List Res} {K:Nat→Obj→Prop} {Kc:Act→World→Prop} {α:Type} {d:Kd α} {e:Nat} {v:Value} {xs:List α} {Rr:α→List Value→Prop} (i:Nat) (HO:Own w W L K) (hi:L[i]?=some (.row d e w.heap.size v xs)) (hw:Region.wanted o (yielded ops a.tmps)=true) (s x:Operand) (t:TypeId) (z:Value) (bytes:Nat)
  (ho:o.op=.call { callee:=.builtin .append,args:=#[s,x],argTypes:=#[t,t] })
  (ht:P.underlying t=some (.slice e)) (hinfo:(P.info? e).map (fun i=>(i.zero,i.size,i.bytes))=some (some z,d.sz,bytes)) (hz:z.cells.size=d.sz) (hs0:0<d.sz) (hb0:0<bytes)
  (ys:List α) (A1:Option Addr) (m c1:Nat) (hs:a.eval s=v) (hx:a.eval x=.slice A1 m c1) (HR:ReadsRow Rr d.sz W A1 m ys) (hKM:∀ x cs,Rr x cs→d.M W w.heap.size (fun _=>False) x cs) (hl:(xs.length+m)*bytes≤140737488355328)
  (h:∀ A c W',Own w W' (L.set i (.row d e w.heap.size (.slice A (xs++ys).length c) (xs++ys))) K→Kc (a.put o.dst (.slice A (xs++ys).length c)) W'):if Region.wanted o (yielded ops a.tmps)=true then Oper.wp P o a W Kc Q else Kc (a.put o.dst undef) W:=by
 obtain ⟨h1,hk0,F,h2⟩:=HO
 have hle:=h1.size
 have hR:d.R e W w.heap.size (fun k=>w.heap.size≤k∧(k<W.heap.size→F k=i)) v xs:=Kd.R_mono (Kd.R_bound (h2 i _ hi)) (fun k hk=>⟨hk.1.1,fun _=>hk.1.2⟩)
 refine Kd.R_append_rows_step d (w0:=w) w.heap.size hw s x t e z bytes ho ht hinfo hz hs0 hb0 v xs ys A1 m c1 _ (fun _=>False) hs hx hR HR hKM (fun _ hk=>hk.elim) (fun k hk=>⟨by omega,fun hl=>by omega⟩) h1 hle hl ?_
 intro v1 w1 hR1 hb1 hg1 hat
 obtain ⟨A,c,rfl⟩:=Kd.R_slice hR1
 have hSol:∀ k,some k=v.ownBlock→Solid W k:=fun k he=>by obtain ⟨_,inner,ho2,_⟩:=hR;obtain ⟨cs2,hc2⟩:=own_typed ho2 k he.symm;exact solid_cells hc2
 refine h A c w1 ⟨hb1,fun k o hk=>⟨(hg1.block k (blk_lt (hk0 k o hk).1) (fun he=>not_solid (hk0 k o hk).1 (hk0 k o hk).2 (hSol k he))).trans (hk0 k o hk).1,(hk0 k o hk).2⟩,fun k=>if k<W.heap.size then F k else i,fun j q hj=>?_⟩
 have hil:i<L.length:=(List.getElem?_eq_some_iff.mp hi).1
 rw [List.getElem?_set] at hj
 by_cases e1:i=j
 ·
  subst e1
  rw [if_pos rfl,if_pos hil] at hj
  injection hj with hj
  subst hj
  refine Kd.R_mono hR1 (fun k hk=>⟨hk.1,?_⟩)
  dsimp only
  split
  ·
   rename_i hlt;exact hk.2 hlt
  ·
   rfl
 ·
  rw [if_neg e1] at hj
  refine q.move (h2 j q hj) (fun k hk hl _=>⟨hg1.block k hl (fun he=>e1 ?_),hk.1,by dsimp only;rw [if_pos hl];exact hk.2⟩)
  exact ((h2 i _ hi).1 k he.symm).2.symm.trans hk.2
theorem ev_rows_step {P:Program} {ops:Array Oper} {o:Oper} {a:Act} {Q:Exit→Act→World→Prop} {w W:World} {L:List Res} {K:Nat→Obj→Prop} {Kc:Act→World→Prop} {α:Type} {d:Kd α} {e:Nat} {v:Value} {xs:List α} {Rr:α→List Value→Prop} (i:Nat) (HO:Own w W L K) (hi:L[i]?=some (.row d e w.heap.size v xs)) (hw:Region.wanted o (yielded ops a.tmps)=true) (s x:Operand) (t:TypeId) (z:Value) (bytes:Nat)
  (ho:o.op=.call { callee:=.builtin .append,args:=#[s,x],argTypes:=#[t,t] })
  (ht:P.underlying t=some (.slice e)) (hinfo:(P.info? e).map (fun i=>(i.zero,i.size,i.bytes))=some (some z,d.sz,bytes)) (hz:z.cells.size=d.sz) (hs0:0<d.sz) (hb0:0<bytes)
  (ys:List α) (A1:Option Addr) (m c1:Nat) (zs:List α) (n:Nat) (hzs:zs=xs++ys) (hn:zs.length=n) (hs:a.eval s=v) (hx:a.eval x=.slice A1 m c1) (HR:ReadsRow Rr d.sz W A1 m ys) (hKM:∀ x cs,Rr x cs→d.M W w.heap.size (fun _=>False) x cs) (hl:(xs.length+m)*bytes≤140737488355328)
  (h:∀ A c W',Own w W' (L.set i (.row d e w.heap.size (.slice A n c) zs)) K→Kc (a.put o.dst (.slice A n c)) W'):if Region.wanted o (yielded ops a.tmps)=true then Oper.wp P o a W Kc Q else Kc (a.put o.dst undef) W:=by
 subst hzs
 subst hn
 exact ev_rows_step_ i HO hi hw s x t z bytes ho ht hinfo hz hs0 hb0 ys A1 m c1 hs hx HR hKM hl h
theorem Own.lit0 {w W:World} {L:List Res} {K:Nat→Obj→Prop} {α:Type} (HO:Own w W L K) (d:Kd α) (e:Nat):Own w (W.alloc (.cells #[] e)) (L++[.row d e w.heap.size (.slice (some ⟨W.heap.size,0,none⟩) 0 0) []]) K:=by
 refine HO.add (below_alloc (Below.refl _ _) _) ⟨fun k hk=>?_,[],?_,Reps.none _ _⟩
 ·
  have:W.heap.size=k:=by simpa [Value.ownBlock] using hk
  omega
 ·
  have h2:=World.ownsRow_lit (base:=w.heap.size) (e:=e) (size:=d.sz) W #[] 0 HO.le (by simp [maxLen]) (by simp)
  simpa using h2
theorem addr1 (g j:Nat):(⟨g,0,none⟩:Addr).add (j*1+0)=⟨g,j,none⟩:=by
 rw [Nat.mul_one,Nat.add_zero]
 simp [Addr.add]
 try (intro h;omega)
end Go.Proofs.Ytlgkeaildncojaa.Q
end
section
namespace Go.Proofs.Ytlgkeaildncojaa.Q
open Go.RowKit Go.Shelf Go.Proofs.YtlgkeaildncojaaW.PrintWords Go.Proofs.YtlgkeaildncojaaW.PrintLast Go.Proofs.YtlgkeaildncojaaW.PrintMore
set_option linter.unusedSimpArgs false
set_option linter.unusedVariables false
theorem raw_of_C {α:Type} {d:Kd α} {w:World} {A:Option Addr} {n:Nat} {xs:List α} (h:d.C w A n xs):∃ rows:List (List Value),rows.length=n∧(Kd.raw d.sz).C w A n rows∧∀ (j:Nat) (x:α) (c:List Value),xs[j]?=some x→rows[j]?=some c→d.K w x c:=by
 obtain ⟨h1,h2,h3⟩:=h
 rcases Nat.eq_zero_or_pos n with h0|h0
 ·
  subst h0
  exact ⟨[],rfl,⟨rfl,Nat.zero_le _,fun h=>absurd h (Nat.lt_irrefl 0)⟩,fun j x c _ hc=>by simp at hc⟩
 ·
  obtain ⟨ad,ha,h4⟩:=h3 h0
  have hall:∀ m,m≤n→∃ rows:List (List Value),rows.length=m∧∀ (j:Nat) (x:α) (c:List Value),xs[j]?=some x→rows[j]?=some c→c.length=d.sz∧d.K w x c∧∀ i u,c[i]?=some u→w.cell? (ad.add (j*d.sz+i))=some u:=by
   intro m
   induction m with
   | zero=>exact fun _=>⟨[],rfl,fun j x c _ hc=>by simp at hc⟩
   | succ m ih =>
    intro hm
    obtain ⟨rows,hl,hr⟩:=ih (by omega)
    have hx:=List.getElem?_eq_getElem (show m<xs.length by omega)
    obtain ⟨c,hc1,hc2,hc3⟩:=h4 m _ hx
    refine ⟨rows++[c],by rw [List.length_append,hl];rfl,fun j x c' hj hc'=>?_⟩
    rw [List.getElem?_append] at hc'
    split at hc'
    ·
     exact hr j x c' hj hc'
    ·
     rename_i hge
     have hjm:j=m:=by
      have:=(List.getElem?_eq_some_iff.mp hc').1
      simp at this
      omega
     subst hjm
     rw [hl,Nat.sub_self] at hc'
     simp only [List.getElem?_cons_zero,Option.some.injEq] at hc'
     subst hc'
     rw [hx] at hj
     cases hj
     exact ⟨hc1,hc2,hc3⟩
  obtain ⟨rows,hl,hr⟩:=hall n (Nat.le_refl _)
  refine ⟨rows,hl,⟨hl,h2,fun _=>⟨ad,ha,fun j c hj=>?_⟩⟩,fun j x c hx hc=>(hr j x c hx hc).2.1⟩
  have hjl:j<xs.length:=by have:=(List.getElem?_eq_some_iff.mp hj).1;omega
  obtain ⟨g1,g2,g3⟩:=hr j _ c (List.getElem?_eq_getElem hjl) hj
  exact ⟨c,g1,⟨rfl,g1,d.K_one g2⟩,g3⟩
theorem C_of_raw {α:Type} {d:Kd α} {w:World} {A:Option Addr} {n:Nat} {xs:List α} {rows:List (List Value)} (hl:rows.length=xs.length) (h:(Kd.raw d.sz).C w A n rows) (hK:∀ (j:Nat) (x:α) (c:List Value),xs[j]?=some x→rows[j]?=some c→d.K w x c):d.C w A n xs:=by
 obtain ⟨h1,h2,h3⟩:=h
 refine ⟨by omega,h2,fun h0=>?_⟩
 obtain ⟨ad,ha,h4⟩:=h3 h0
 refine ⟨ad,ha,fun j x hj=>?_⟩
 have hjl:j<rows.length:=by have:=(List.getElem?_eq_some_iff.mp hj).1;omega
 obtain ⟨c,hc1,hc2,hc3⟩:=h4 j _ (List.getElem?_eq_getElem hjl)
 have hc2':c=rows[j]:=hc2.1
 exact ⟨c,hc1,hK j x c hj (by rw [List.getElem?_eq_getElem hjl,hc2']),hc3⟩
def FldX (E:World→Prop) (A:Option Addr) (f:List (List Int)):Prop:=∃ rows:List (List Value),rows.length=f.length∧(∀ W,E W→(Kd.raw 1).C W A f.length rows)∧∀ W,E W→∀ (j:Nat) (x:List Int) (c:List Value),f[j]?=some x→rows[j]?=some c→(Kd.slice 3 (Kd.int .i64)).K W x c
theorem FldX.C {E:World→Prop} {A:Option Addr} {f:List (List Int)} (h:FldX E A f) {W:World} (hW:E W):(Kd.slice 3 (Kd.int .i64)).C W A f.length f:=by
 obtain ⟨rows,h1,h2,h3⟩:=h
 exact C_of_raw h1 (h2 W hW) (h3 W hW)
theorem FldX.imp {E E':World→Prop} (hE:∀ W,E' W→E W) {A:Option Addr} {f:List (List Int)} (h:FldX E A f):FldX E' A f:=by
 obtain ⟨rows,h1,h2,h3⟩:=h
 exact ⟨rows,h1,fun W hW=>h2 W (hE W hW),fun W hW=>h3 W (hE W hW)⟩
theorem FldX.nil (E:World→Prop) (A:Option Addr):FldX E A []:=⟨[],rfl,fun W _=>⟨rfl,Nat.zero_le _,fun h=>absurd h (Nat.lt_irrefl 0)⟩,fun W _ j x c hx=>by simp at hx⟩
theorem FldX.old {w:World} {E:World→Prop} (hE:∀ W,E W→Below w.heap.size w W) {A:Option Addr} {f:List (List Int)} (h:(Kd.slice 3 (Kd.int .i64)).C w A f.length f):FldX E A f:=by
 obtain ⟨rows,h1,h2,h3⟩:=raw_of_C h
 exact ⟨rows,h1,fun W hW=>Kd.C_below h2 (hE W hW),fun W hW j x c hx hc=>(Kd.slice 3 (Kd.int .i64)).K_below (hE W hW) (h3 j x c hx hc)⟩
def RuleX (E:World→Prop) (r:S49) (cs:List Value):Prop:=∃ A0 c0 A1 c1 A2 c2 A3 c3 A4 c4,cs=[.slice A0 r.f0.length c0,.slice A1 r.f1.length c1,.slice A2 r.f2.length c2,.slice A3 r.f3.length c3,.slice A4 r.f4.length c4] ∧
 r.f0.length≤c0∧FldX E A0 r.f0∧r.f1.length≤c1∧FldX E A1 r.f1∧r.f2.length≤c2∧FldX E A2 r.f2∧r.f3.length≤c3∧(∀ W,E W→(Kd.int .i64).C W A3 r.f3.length r.f3)∧r.f4.length≤c4∧(∀ W,E W→k60.C W A4 r.f4.length r.f4)
theorem RuleX.K {E:World→Prop} {r:S49} {cs:List Value} (h:RuleX E r cs) {W:World} (hW:E W):k49.K W r cs:=by
 obtain ⟨A0,c0,A1,c1,A2,c2,A3,c3,A4,c4,rfl,h0,g0,h1,g1,h2,g2,h3,g3,h4,g4⟩:=h
 exact k49_mk W r h0 (g0.C hW) h1 (g1.C hW) h2 (g2.C hW) h3 (g3 W hW) h4 (g4 W hW)
theorem RuleX.imp {E E':World→Prop} (hE:∀ W,E' W→E W) {r:S49} {cs:List Value} (h:RuleX E r cs):RuleX E' r cs:=by
 obtain ⟨A0,c0,A1,c1,A2,c2,A3,c3,A4,c4,e,h0,g0,h1,g1,h2,g2,h3,g3,h4,g4⟩:=h
 exact ⟨A0,c0,A1,c1,A2,c2,A3,c3,A4,c4,e,h0,g0.imp hE,h1,g1.imp hE,h2,g2.imp hE,h3,fun W hW=>g3 W (hE W hW),h4,fun W hW=>g4 W (hE W hW)⟩
theorem RuleX.old {w:World} {E:World→Prop} (hE:∀ W,E W→Below w.heap.size w W) {r:S49} {cs:List Value} (h:k49.K w r cs):RuleX E r cs:=by
 obtain ⟨A0,c0,A1,c1,A2,c2,A3,c3,A4,c4,rfl,h0,g0,h1,g1,h2,g2,h3,g3,h4,g4⟩:=k49_open h
 exact ⟨A0,c0,A1,c1,A2,c2,A3,c3,A4,c4,rfl,h0,.old hE g0,h1,.old hE g1,h2,.old hE g2,h3,fun W hW=>Kd.C_below g3 (hE W hW),h4,fun W hW=>Kd.C_below g4 (hE W hW)⟩
def RulesX (E:World→Prop) (l:List S49) (rows:List (List Value)):Prop:=rows.length=l.length∧∀ (j:Nat) (r:S49) (c:List Value),l[j]?=some r→rows[j]?=some c→RuleX E r c
theorem RulesX.imp {E E':World→Prop} (hE:∀ W,E' W→E W) {l:List S49} {rows:List (List Value)} (h:RulesX E l rows):RulesX E' l rows:=⟨h.1,fun j r c hr hc=>(h.2 j r c hr hc).imp hE⟩
theorem RulesX.C {E:World→Prop} {l:List S49} {rows:List (List Value)} (h:RulesX E l rows) {W:World} (hW:E W) {A:Option Addr} {n:Nat} (hC:(Kd.raw 5).C W A n rows):k49.C W A n l:=C_of_raw h.1 hC (fun j r c hr hc=>(h.2 j r c hr hc).K hW)
theorem RulesX.old {w:World} {E:World→Prop} (hE:∀ W,E W→Below w.heap.size w W) {A:Option Addr} {l:List S49} (h:k49.C w A l.length l):∃ rows,RulesX E l rows∧(Kd.raw 5).C w A l.length rows:=by
 obtain ⟨rows,h1,h2,h3⟩:=raw_of_C h
 exact ⟨rows,⟨h1,fun j r c hr hc=>.old hE (h3 j r c hr hc)⟩,h2⟩
theorem RulesX.set {E:World→Prop} {l:List S49} {rows:List (List Value)} (h:RulesX E l rows) (k:Nat) {r:S49} {c:List Value} (hc:RuleX E r c):RulesX E (l.set k r) (rows.set k c):=by
 refine ⟨by rw [List.length_set,List.length_set];exact h.1,fun j r' c' hr hc'=>?_⟩
 rw [List.getElem?_set] at hr hc'
 by_cases e:k=j
 ·
  subst e
  rw [if_pos rfl] at hr hc'
  split at hr
  ·
   split at hc'
   ·
    cases hr;cases hc';exact hc
   ·
    cases hc'
  ·
   cases hr
 ·
  rw [if_neg e] at hr hc'
  exact h.2 j r' c' hr hc'
theorem RulesX.snoc {E:World→Prop} {l:List S49} {rows:List (List Value)} (h:RulesX E l rows) {r:S49} {c:List Value} (hc:RuleX E r c):RulesX E (l++[r]) (rows++[c]):=by
 refine ⟨by rw [List.length_append,List.length_append,h.1];rfl,fun j r' c' hr hc'=>?_⟩
 rw [List.getElem?_append] at hr hc'
 rw [h.1] at hc'
 split at hr
 ·
  rename_i hlt
  rw [if_pos hlt] at hc'
  exact h.2 j r' c' hr hc'
 ·
  rename_i hlt
  rw [if_neg hlt] at hc'
  cases hq:j - l.length with
  | zero=>rw [hq] at hr hc';simp at hr hc';subst hr hc';exact hc
  | succ q=>rw [hq] at hr;simp at hr
theorem FldX.app {E:World→Prop} {A:Option Addr} {f more:List (List Int)} {rf rm:List (List Value)} (h1:rf.length=f.length) (h2:rm.length=more.length) (hC:∀ W,E W→(Kd.raw 1).C W A (f++more).length (rf++rm))
  (hf:∀ W,E W→∀ (j:Nat) (x:List Int) (c:List Value),f[j]?=some x→rf[j]?=some c→(Kd.slice 3 (Kd.int .i64)).K W x c) (hm:∀ W,E W→∀ (j:Nat) (x:List Int) (c:List Value),more[j]?=some x→rm[j]?=some c→(Kd.slice 3 (Kd.int .i64)).K W x c):FldX E A (f++more):=by
 refine ⟨rf++rm,by rw [List.length_append,List.length_append,h1,h2],hC,fun W hW j x c hx hc=>?_⟩
 rw [List.getElem?_append] at hx hc
 rw [h1] at hc
 split at hx
 ·
  rename_i hlt
  rw [if_pos hlt] at hc
  exact hf W hW j x c hx hc
 ·
  rename_i hlt
  rw [if_neg hlt] at hc
  exact hm W hW _ x c hx hc
def I64s (n:Nat) (s:List Int):Prop:=s.length≤n∧∀ x∈s,-9223372036854775808≤x∧x≤9223372036854775807
structure Bd (n:Nat) (r:S49):Prop where
 b0:r.f0.length≤n
 b1:r.f1.length≤n
 b2:r.f2.length≤n
 b3:r.f3.length≤n
 b4:r.f4.length≤n
 s0:∀ s∈r.f0,I64s n s
 s1:∀ s∈r.f1,I64s n s
 s2:∀ s∈r.f2,I64s n s
def BdL (n:Nat) (l:List S49):Prop:=l.length≤n∧∀ r∈l,Bd n r
theorem I64s.le {n m:Nat} (hm:n≤m) {s:List Int} (h:I64s n s):I64s m s:=⟨Nat.le_trans h.1 hm,h.2⟩
theorem Bd.le {n m:Nat} (hm:n≤m) {r:S49} (h:Bd n r):Bd m r:=⟨Nat.le_trans h.b0 hm,Nat.le_trans h.b1 hm,Nat.le_trans h.b2 hm,Nat.le_trans h.b3 hm,Nat.le_trans h.b4 hm,fun s hs=>(h.s0 s hs).le hm,fun s hs=>(h.s1 s hs).le hm,fun s hs=>(h.s2 s hs).le hm⟩
theorem BdL.le {n m:Nat} (hm:n≤m) {l:List S49} (h:BdL n l):BdL m l:=⟨Nat.le_trans h.1 hm,fun r hr=>(h.2 r hr).le hm⟩
section
variable {P:Program} {ops:Array Oper} {rest:List Oper} {o:Oper} {a:Act} {Q:Exit→Act→World→Prop} {w W:World} {L:List Res} {K:Nat→Obj→Prop}
theorem ev_litB {n N:Nat} {t:TypeId} {cs:Array Value} (HO:Own w W L K) (hgd:o.guard=none) (_hd:o.dst=some N)
  (hrun:(execOp a.eval o).run P W=.ok (.value (.slice (some ⟨W.heap.size,0,none⟩) n n)) (W.alloc (.cells cs t (0,0))))
  (h:∀ g W',Own w W' (L++[.box g t cs]) K→Below W.heap.size W W'→wpList P ops Q rest (a.put o.dst (.slice (some ⟨g,0,none⟩) n n)) W'):wpList P ops Q (o :: rest) a W:=by
 refine Kd.event_run hgd hrun (h _ _ (HO.add (below_alloc (Below.refl _ _) _) ⟨Nat.le_refl _,blk_new W _⟩) (below_alloc (Below.refl _ _) _))
theorem ev_storeE {sz e g n cap:Nat} {xs:List (List Value)} (q:Nat) (HO:Own w W L K) (hq:L[q]?=some (.row (Kd.raw sz) e w.heap.size (.slice (some ⟨g,0,none⟩) n cap) xs)) (hN:o.dst=none) (hgd:o.guard=none) (t:TypeId) (p x:Operand) (ho:o.op=.store t p x)
  (i:Nat) (u:Value) (seg c:List Value) (haddr:a.eval p=.pointer (some ⟨g,i*sz,none⟩)) (hx:a.eval x=u) (hu:u.cells.toList=seg) (ht:(P.info? t).map (·.size)=some seg.length) (h1:∀ q∈seg,q.oneCell'=true)
  (hin:i<n) (hcl:c.length=sz) (hcc:∀ j u,c[j]?=some u→W.cell? ⟨g,i*sz+j,none⟩=some u) (hsl:seg.length=sz)
  (h:∀ W',Own w W' (L.set q (.row (Kd.raw sz) e w.heap.size (.slice (some ⟨g,0,none⟩) n cap) (xs.set i seg))) K→wpList P ops Q rest a W'):wpList P ops Q (o :: rest) a W:=by
 obtain ⟨hb,hk0,F,h2⟩:=HO
 have hle:=hb.size
 have hRq:=h2 q _ hq
 have hR:(Kd.raw sz).R e W w.heap.size (fun k=>w.heap.size≤k∧(k<W.heap.size→F k=q)) (.slice (some ⟨g,0,none⟩) n cap) xs:=Kd.R_mono (Kd.R_bound hRq) (fun k hk=>⟨hk.1.1,fun _=>hk.1.2⟩)
 refine Kd.R_store (Kd.raw sz) (w0:=w) w.heap.size hN hgd t p x ho e (i:Int) 0 xs seg u seg c _ (fun _=>False) haddr (by rw [Int.toNat_natCast,Nat.add_zero];rfl) hx hu ht h1 hR (by omega) (by omega) hcl (by rw [Int.toNat_natCast];exact hcc) (by show 0+seg.length≤sz;omega) (by
   rw [List.take_zero,List.nil_append,Nat.zero_add,List.drop_of_length_le (by omega),List.append_nil]
   exact ⟨rfl,hsl,h1⟩) (fun _ hk=>hk.elim) hb ?_
 intro w1 hR1 hb1 hg1
 rw [Int.toNat_natCast] at hR1
 have hSol:∀ k,some k=(Value.slice (some ⟨g,0,none⟩) n cap).ownBlock→Solid W k:=fun k he=>by obtain ⟨_,inner,ho2,_⟩:=hR;obtain ⟨cs2,hc2⟩:=own_typed ho2 k he.symm;exact solid_cells hc2
 refine h w1 ⟨hb1,fun k o hk=>⟨(hg1.block k (blk_lt (hk0 k o hk).1) (fun he=>not_solid (hk0 k o hk).1 (hk0 k o hk).2 (hSol k he))).trans (hk0 k o hk).1,(hk0 k o hk).2⟩,fun k=>if k<W.heap.size then F k else q,fun j r hj=>?_⟩
 have hil:q<L.length:=(List.getElem?_eq_some_iff.mp hq).1
 rw [List.getElem?_set] at hj
 by_cases e1:q=j
 ·
  subst e1
  rw [if_pos rfl,if_pos hil] at hj
  injection hj with hj
  subst hj
  refine Kd.R_mono hR1 (fun k hk=>⟨hk.1,?_⟩)
  dsimp only
  split
  ·
   rename_i hlt;exact hk.2 hlt
  ·
   rfl
 ·
  rw [if_neg e1] at hj
  refine r.move (h2 j r hj) (fun k hk hl _=>⟨hg1.block k hl (fun he=>e1 ?_),hk.1,by dsimp only;rw [if_pos hl];exact hk.2⟩)
  exact ((h2 q _ hq).1 k he.symm).2.symm.trans hk.2
theorem ev_rowsm {α:Type} {d:Kd α} {e:Nat} {v:Value} {xs:List α} {Rr:α→List Value→Prop} (i:Nat) (HO:Own w W L K) (hi:L[i]?=some (.row d e w.heap.size v xs)) (hgd:o.guard=none) (s x:Operand) (t:TypeId) (z:Value) (bytes:Nat)
  (ho:o.op=.call { callee:=.builtin .append,args:=#[s,x],argTypes:=#[t,t] })
  (ht:P.underlying t=some (.slice e)) (hinfo:(P.info? e).map (fun i=>(i.zero,i.size,i.bytes))=some (some z,d.sz,bytes)) (hz:z.cells.size=d.sz) (hs0:0<d.sz) (hb0:0<bytes)
  (ys:List α) (A1:Option Addr) (m c1:Nat) (zs:List α) (n:Nat) (hzs:zs=xs++ys) (hn:zs.length=n) (hm:ys.length=m) (hs:a.eval s=v) (hx:a.eval x=.slice A1 m c1) (HR:ReadsRow Rr d.sz W A1 m ys) (hKM:∀ x cs,Rr x cs→d.M W w.heap.size (fun _=>False) x cs) (hl:(xs.length+m)*bytes≤140737488355328)
  (h:∀ A c W',Own w W' (L.set i (.row d e w.heap.size (.slice A n c) zs)) K→wpList P ops Q rest (a.put o.dst (.slice A n c)) W'):wpList P ops Q (o :: rest) a W:=by
 subst hzs
 subst hn
 subst hm
 exact ev_rows i HO hi hgd s x t z bytes ho ht hinfo hz hs0 hb0 ys A1 c1 hs hx HR hKM hl h
end
def EX (w:World) (Xs:List Res) (W:World):Prop:=Below w.heap.size w W∧∀ X∈Xs,X.P W (fun _=>True)
theorem EX.of {w W:World} {L:List Res} {K:Nat→Obj→Prop} {Xs:List Res} (HO:Own w W L K) (hX:∀ X∈Xs,∃ i:Nat,L[i]?=some X):EX w Xs W:=by
 refine ⟨HO.below,fun X h=>?_⟩
 obtain ⟨i,hi⟩:=hX X h
 obtain ⟨_,_,F,h2⟩:=HO
 exact X.move (h2 i X hi) (fun k hk hl _=>⟨rfl,trivial⟩)
theorem EX.box {w W:World} {Xs:List Res} {g t:Nat} {cs:Array Value} (h:EX w Xs W) (hX:Res.box g t cs∈Xs):W.heap[g]?=some (.cells cs t (0,0)):=(h.2 _ hX).2
theorem EX.row {w W:World} {Xs:List Res} {α:Type} {d:Kd α} {e B n c:Nat} {A:Option Addr} {xs:List α} (h:EX w Xs W) (hX:Res.row d e B (.slice A n c) xs∈Xs):d.C W A n xs:=by
 have:=Kd.R_reads' (h.2 _ hX)
 rw [this.1]
 exact this.2.2
theorem box_raw {W:World} {g t:Nat} {vs:List Value} (hb:W.heap[g]?=some (.cells vs.toArray t (0,0))) (h1:∀ u∈vs,u.oneCell'=true) (hl:vs.length≤1000) (n:Nat) (hn:vs.length=n):(Kd.raw 1).C W (some ⟨g,0,none⟩) n (vs.map fun v=>[v]):=by
 subst hn
 refine ⟨by rw [List.length_map],by omega,fun _=>⟨_,rfl,fun j p hj=>?_⟩⟩
 rw [List.getElem?_map] at hj
 obtain ⟨v,hv,rfl⟩:=Option.map_eq_some_iff.mp hj
 refine ⟨[v],rfl,⟨rfl,rfl,fun u hu=>?_⟩,fun i u hu=>?_⟩
 ·
  rw [List.mem_singleton] at hu
  subst hu
  exact h1 _ (List.mem_of_getElem? hv)
 ·
  cases i with
  | zero =>
   simp only [List.getElem?_cons_zero,Option.some.injEq] at hu
   subst hu
   rw [show ((⟨g,0,none⟩:Addr).add (j*(Kd.raw 1).sz+0))=⟨g,j,none⟩ from addr1 g j,blk_cell hb]
   simpa using hv
  | succ i=>simp at hu
theorem box_int {W:World} {g t:Nat} {ns:List Int} (hb:W.heap[g]?=some (.cells (ns.map (Value.int .i64)).toArray t (0,0))) (hl:ns.length≤1000) (n:Nat) (hn:ns.length=n):(Kd.int .i64).C W (some ⟨g,0,none⟩) n ns:=by
 subst hn
 refine ⟨rfl,by omega,fun _=>⟨_,rfl,fun j p hj=>⟨[.int .i64 p],rfl,rfl,fun i u hu=>?_⟩⟩⟩
 cases i with
 | zero =>
  simp only [List.getElem?_cons_zero,Option.some.injEq] at hu
  subst hu
  rw [show ((⟨g,0,none⟩:Addr).add (j*(Kd.int .i64).sz+0))=⟨g,j,none⟩ from addr1 g j,blk_cell hb]
  simp [hj]
 | succ i=>simp at hu
theorem box_call {W:World} {g t:Nat} (a b:Int) (hb:W.heap[g]?=some (.cells #[.int .i64 a,.int .i64 b] t (0,0))):k60.C W (some ⟨g,0,none⟩) 1 [⟨a,b⟩]:=by
 refine ⟨rfl,by decide,fun _=>⟨_,rfl,fun j p hj=>?_⟩⟩
 cases j with
 | zero =>
  simp only [List.getElem?_cons_zero,Option.some.injEq] at hj
  subst hj
  refine ⟨[.int .i64 a,.int .i64 b],rfl,k60_mk W ⟨a,b⟩,fun i u hu=>?_⟩
  rw [show ((⟨g,0,none⟩:Addr).add (0*k60.sz+i))=⟨g,i,none⟩ by rw [Nat.zero_mul,Nat.zero_add];simpa using addr1 g i,blk_cell hb]
  simpa using hu
 | succ j=>simp at hj
theorem set_K {W:World} {g t:Nat} {ns:List Int} (hb:W.heap[g]?=some (.cells (ns.map (Value.int .i64)).toArray t (0,0))) (hl:ns.length≤1000) (n:Nat) (hn:ns.length=n):(Kd.slice 3 (Kd.int .i64)).K W ns [.slice (some ⟨g,0,none⟩) n n]:=by
 subst hn
 exact ⟨_,_,rfl,Nat.le_refl _,box_int hb hl _ rfl⟩
theorem nil_K (W:World):(Kd.slice 3 (Kd.int .i64)).K W [] [.slice none 0 0]:=⟨none,0,rfl,Nat.le_refl _,Kd.C_nil _ _⟩
theorem at_raw5 {w:World} {A:Option Addr} {n:Nat} {rows:List (List Value)} (h:(Kd.raw 5).C w A n rows) (k:Nat) {v0 v1 v2 v3 v4:Value} (hr:rows[k]?=some [v0,v1,v2,v3,v4]):∃ ad,A=some ad∧w.cell? (ad.add (k*5))=some v0∧w.cell? ⟨(ad.add (k*5)).block,(ad.add (k*5)).off+1,none⟩=some v1∧w.cell? ⟨(ad.add (k*5)).block,(ad.add (k*5)).off+2,none⟩=some v2∧w.cell? ⟨(ad.add (k*5)).block,(ad.add (k*5)).off+3,none⟩=some v3∧w.cell? ⟨(ad.add (k*5)).block,(ad.add (k*5)).off+4,none⟩=some v4:=by
 obtain ⟨h1,h2,h3⟩:=h
 obtain ⟨ad,ha,h4⟩:=h3 (by have:=(List.getElem?_eq_some_iff.mp hr).1;omega)
 obtain ⟨c,-,hK,hc⟩:=h4 k _ hr
 obtain rfl:=hK.1
 have e:∀ i,ad.add (k*(Kd.raw 5).sz+i)=(ad.add (k*5)).add i:=fun i=>(add_add ad (k*5) i).symm
 have g0:=hc 0 _ rfl
 have g1:=hc 1 _ rfl
 have g2:=hc 2 _ rfl
 have g3:=hc 3 _ rfl
 have g4:=hc 4 _ rfl
 rw [e] at g0 g1 g2 g3 g4
 exact ⟨ad,ha,by simpa [Addr.add] using g0,by simpa [Addr.add] using g1,by simpa [Addr.add] using g2,by simpa [Addr.add] using g3,by simpa [Addr.add] using g4⟩
theorem sub2 {w:World} {X1 X2:Res} {L:List Res} (W:World) (h:EX w (X1 :: X2 :: L) W):EX w [X1,X2] W:=by
 refine ⟨h.1,fun X hX=>h.2 X ?_⟩
 rcases List.mem_cons.mp hX with rfl|hX
 ·
  exact List.mem_cons_self
 ·
  rw [List.mem_singleton] at hX
  subst hX
  exact List.mem_cons_of_mem _ List.mem_cons_self
def FldK (E:World→Prop) (f:List (List Int)) (rows:List (List Value)):Prop:=∀ W,E W→∀ (j:Nat) (x:List Int) (c:List Value),f[j]?=some x→rows[j]?=some c→(Kd.slice 3 (Kd.int .i64)).K W x c
theorem FldK.nil (E:World→Prop):FldK E [] []:=fun W _ j x c hx=>by simp at hx
theorem FldK.cons {E:World→Prop} {f:List (List Int)} {rows:List (List Value)} {x:List Int} {c:List Value} (h:∀ W,E W→(Kd.slice 3 (Kd.int .i64)).K W x c) (ht:FldK E f rows):FldK E (x :: f) (c :: rows):=fun W hE j y d hy hd=>by
 cases j with
 | zero=>simp at hy hd;subst hy hd;exact h W hE
 | succ j=>exact ht W hE j y d (by simpa using hy) (by simpa using hd)
theorem set_in {n m:Int} (hn:0≤n∧n≤1000) (hm:0≤m∧m≤1000) (N:Nat):I64s (N+12) [n,m]:=⟨Nat.le_add_left 2 (N+10),fun x hx=>by
 simp only [List.mem_cons,List.not_mem_nil,or_false] at hx
 rcases hx with rfl|rfl<;>omega⟩
theorem mem_more {n:Nat} {f more:List (List Int)} (h:∀ s∈f,I64s n s) (h2:∀ s∈more,I64s n s):∀ s∈f++more,I64s n s:=fun s hs=>by
 rcases List.mem_append.mp hs with hs|hs
 ·
  exact h s hs
 ·
  exact h2 s hs
section
variable {P:Program} {ops:Array Oper} {o:Oper} {a:Act} {Q:Exit→Act→World→Prop} {w W:World} {L:List Res} {K:Nat→Obj→Prop} {Kc:Act→World→Prop}
theorem ev_litB_step {n N:Nat} {t:TypeId} {cs:Array Value} (HO:Own w W L K) (hw:Region.wanted o (yielded ops a.tmps)=true) (_hd:o.dst=some N)
  (hrun:(execOp a.eval o).run P W=.ok (.value (.slice (some ⟨W.heap.size,0,none⟩) n n)) (W.alloc (.cells cs t (0,0))))
  (h:∀ g W',Own w W' (L++[.box g t cs]) K→Kc (a.put o.dst (.slice (some ⟨g,0,none⟩) n n)) W'):if Region.wanted o (yielded ops a.tmps)=true then Oper.wp P o a W Kc Q else Kc (a.put o.dst undef) W:=by
 rw [if_pos hw]
 unfold Oper.wp
 rw [hrun]
 exact h _ _ (HO.add (below_alloc (Below.refl _ _) _) ⟨Nat.le_refl _,blk_new W _⟩)
theorem ev_lit0_step {α:Type} (d:Kd α) (e:Nat) {N:Nat} (HO:Own w W L K) (hw:Region.wanted o (yielded ops a.tmps)=true) (_hd:o.dst=some N)
  (hrun:(execOp a.eval o).run P W=.ok (.value (.slice (some ⟨W.heap.size,0,none⟩) 0 0)) (W.alloc (.cells #[] e)))
  (h:∀ g W',Own w W' (L++[.row d e w.heap.size (.slice (some ⟨g,0,none⟩) 0 0) []]) K→Kc (a.put o.dst (.slice (some ⟨g,0,none⟩) 0 0)) W'):if Region.wanted o (yielded ops a.tmps)=true then Oper.wp P o a W Kc Q else Kc (a.put o.dst undef) W:=by
 rw [if_pos hw]
 unfold Oper.wp
 rw [hrun]
 exact h _ _ (HO.lit0 d e)
end
theorem ev_litR_step {P:Program} {ops:Array Oper} {o:Oper} {a:Act} {Q:Exit→Act→World→Prop} {w W:World} {L:List Res} {K:Nat→Obj→Prop} {Kc:Act→World→Prop} {α:Type} (d:Kd α) (e:Nat) {N:Nat} {xs:List α} {inner:List Value} (HO:Own w W L K) (hw:Region.wanted o (yielded ops a.tmps)=true) (_hd:o.dst=some N)
  (hrun:(execOp a.eval o).run P W=.ok (.value (.slice (some ⟨W.heap.size,0,none⟩) xs.length xs.length)) (W.alloc (.cells inner.toArray e)))
  (hrep:Reps (d.M W w.heap.size (fun _=>False)) d.sz xs inner) (hm:xs.length≤9223372036854775807)
  (h:∀ A c W',Own w W' (L++[.row d e w.heap.size (.slice A xs.length c) xs]) K→Kc (a.put o.dst (.slice A xs.length c)) W'):if Region.wanted o (yielded ops a.tmps)=true then Oper.wp P o a W Kc Q else Kc (a.put o.dst undef) W:=by
 refine Kd.R_lit_step d (w0:=w) w.heap.size e hw _hd (ok:=fun k=>W.heap.size≤k) hrun hrep (fun _ hk=>hk.elim) (Nat.le_refl _) HO.below HO.le hm ?_
 intro v1 w1 hR hb hg hat
 obtain ⟨A,c,rfl⟩:=Kd.R_slice hR
 have hb2:Below W.heap.size W w1:=⟨hg.os,hg.tape,hg.output,hg.size,fun k hk=>hg.block k hk (by simp)⟩
 exact h A c w1 (HO.add hb2 hR)
end Go.Proofs.Ytlgkeaildncojaa.Q
end
