/- Texts of this claim, merged by wip/tools/pack.py: Qx17, Qx18. -/
import Derived.Test.YtlgkeaildncojaaZ28
section
namespace Go.Proofs.Ytlgkeaildncojaa.Q
open Go.RowKit Go.Proofs.YtlgkeaildncojaaW.PrintWords Go.Proofs.YtlgkeaildncojaaW.PrintLast Go.Proofs.YtlgkeaildncojaaW.PrintMore
attribute [local go_sem] max2_int min2_int max_two min_two max_three min_three max_four min_four   -- for this text's walks alone
set_option linter.unusedVariables false
set_option linter.unusedSimpArgs false
def abugidaref15_Right.l0:Nat→List Int→Int→Option (Bool)
 | 0,_,_=>none
 | k+1,x0,x3=>if x3<(x0.length:Int) then (if 0≤(wrap64 (x3 - 1)) then (if (wrap64 (x3 - 1))<(x0.length:Int) then (if 0≤x3 then (if (rd x0 (wrap64 (x3 - 1))) ≥ (rd x0 x3) then (some false) else (abugidaref15_Right.l0 k x0 (wrap64 (x3+1)))) else (none)) else (none)) else (none)) else (some true)
def abugidaref15_Right.f (k:Nat) (l0:List Int):Option (Bool):=abugidaref15_Right.l0 k l0 1
theorem abugidaref15_Right.mono_l:∀ k,(∀ y0 y1,LeO (abugidaref15_Right.l0 k y0 y1) (abugidaref15_Right.l0 (k+1) y0 y1))
 | 0=>fun _ _ r h=>by simp [abugidaref15_Right.l0] at h
 | k+1=>by
  have ih0:=abugidaref15_Right.mono_l k
  ·
   intro y0 y1
   unfold abugidaref15_Right.l0
   repeat' first
   | (with_reducible exact ih0 _ _)
   | (with_reducible exact LeO.refl _)
   | (with_reducible exact LeO.none _)
   | (with_reducible refine LeO.ite ?_ ?_)
   | (with_reducible refine LeO.bind ?_ (fun _=>?_))
   | exact ih0 _ _
   | exact LeO.none _
   | refine LeO.ite ?_ ?_
   | refine LeO.bind ?_ (fun _=>?_)
theorem abugidaref15_Right.mono:∀ a0 k,LeO (abugidaref15_Right.f k a0) (abugidaref15_Right.f (k+1) a0):=by
 intro a0 k
 have ih0:=abugidaref15_Right.mono_l k
 unfold abugidaref15_Right.f
 repeat' first
   | (with_reducible exact ih0 _ _)
   | (with_reducible exact LeO.refl _)
   | (with_reducible exact LeO.none _)
   | (with_reducible refine LeO.ite ?_ ?_)
   | (with_reducible refine LeO.bind ?_ (fun _=>?_))
   | exact ih0 _ _
   | exact LeO.none _
   | refine LeO.ite ?_ ?_
   | refine LeO.bind ?_ (fun _=>?_)
set_option maxHeartbeats 8000000 in
set_option maxRecDepth 100000 in
theorem abugidaref15_Right.calls (k:Nat) (A0:Option Addr) (c0:Nat) (l0:List Int) (r:Bool) (w:World) (hr0:Kd.C (Kd.int .i64) w A0 l0.length l0) (hc0:l0.length≤c0) (h:abugidaref15_Right.f k l0=some r) :
  Calls Try.prog 67 #[.slice A0 l0.length c0] w fun e w'=>e=.returned (.bool r)∧Drawn0 w w':=by
 have HR0:=Aside0.mk hr0
 have HC0:=Aside0.mk hc0
 clear hr0 hc0
 have H:(abugidaref15_Right.l0 k l0 1)=some r:=h
 clear h
 have H':=Aside0.mk H
 clear H
 go_enter Try.func67,Try.ntmps67
 go_wp2
 repeat (go_quiet (fail);try go_wp2)
 go_loopg [3] k (fun kq v3 w'=>∃ (x3_1:Int),v3=.int .i64 x3_1∧Aside0 (abugidaref15_Right.l0 kq l0 x3_1=some r)∧Aside0 (kq≤k)∧Drawn0 w w')
 case atStart=>exact ⟨(1),za76,H',⟨Nat.le_refl _⟩,by repeat (first|exact Drawn0.refl _|apply Drawn0.step)⟩
 case round =>
  clear H'
  obtain ⟨x3_1,rfl,HA,HK1,⟨m1,rfl⟩⟩:=hrel
  cases gk with
  | zero=>exact absurd HA.out (by simp [abugidaref15_Right.l0])
  | succ k1 =>
   have H:=HA.out
   clear HA
   simp only [abugidaref15_Right.l0] at H
   by_cases c2:x3_1<(l0.length:Int)
   ·
    rw [if_pos c2] at H
    have c2b0:decide (x3_1<(l0.length:Int))=true:=decide_eq_true c2
    clear c2
    obtain ⟨ji3,hji3⟩:∃ j_:Int,(wrap64 (x3_1 - 1))=j_:=⟨_,rfl⟩
    replace H:(if 0≤(ji3) then (if (ji3)<(l0.length:Int) then (if 0≤x3_1 then (if (rd l0 (ji3)) ≥ (rd l0 x3_1) then (some false) else (abugidaref15_Right.l0 k1 l0 (wrap64 (x3_1+1)))) else (none)) else (none)) else (none))=some r:=by first|(rw [hji3] at H;exact H)|(simp only [hji3] at H ⊢;exact H)
    have hji3w:(IntKind.i64.wrap (x3_1 - 1))=ji3:=(i64_w _).trans hji3
    by_cases c4:0≤(ji3)
    ·
     rw [if_pos c4] at H
     have c4b0:decide (0≤(ji3))=true:=decide_eq_true c4
     clear c4
     by_cases c5:(ji3)<(l0.length:Int)
     ·
      rw [if_pos c5] at H
      have c5b0:decide ((ji3)<(l0.length:Int))=true:=decide_eq_true c5
      clear c5
      by_cases c6:0≤x3_1
      ·
       rw [if_pos c6] at H
       have c6b0:decide (0≤x3_1)=true:=decide_eq_true c6
       clear c6
       by_cases c7:(rd l0 (ji3)) ≥ (rd l0 x3_1)
       ·
        rw [if_pos c7] at H
        have c7b0:decide ((rd l0 x3_1)≤(rd l0 (ji3)))=true:=decide_eq_true c7
        clear c7
        obtain rfl:=Option.some.inj H
        have p503:0≤((ji3):Int):=of_decide_eq_true za73
        have q503:(ji3)<(l0.length:Int):=of_decide_eq_true za73
        obtain ⟨jk_,e503,jt_⟩:=Kd.at_int HR0.out (ji3) p503 q503
        cases e503
        replace p503:=eq_true p503
        replace q503:=eq_true q503
        have p504:0≤(x3_1:Int):=of_decide_eq_true za73
        have q504:x3_1<(l0.length:Int):=of_decide_eq_true za73
        obtain ⟨jl_,e504,ju_⟩:=Kd.at_int HR0.out x3_1 p504 q504
        obtain rfl:jk_=jl_:=(by injection e504)
        replace p504:=eq_true p504
        replace q504:=eq_true q504
        go_wp2
        repeat (go_quiet (fail);try go_wp2)
        go_ret
        exact ⟨by first|rfl|(simp;done)|(simp only [← hji3]<;>(first|rfl|simp))|(simp [*];done),by repeat (first|exact Drawn0.refl _|apply Drawn0.step)⟩
       ·
        rw [if_neg c7] at H
        have c7b0:decide ((rd l0 x3_1)≤(rd l0 (ji3)))=false:=decide_eq_false c7
        clear c7
        have H':=Aside0.mk H
        clear H
        have p503:0≤((ji3):Int):=of_decide_eq_true za73
        have q503:(ji3)<(l0.length:Int):=of_decide_eq_true za73
        obtain ⟨jk_,e503,jt_⟩:=Kd.at_int HR0.out (ji3) p503 q503
        cases e503
        replace p503:=eq_true p503
        replace q503:=eq_true q503
        have p504:0≤(x3_1:Int):=of_decide_eq_true za73
        have q504:x3_1<(l0.length:Int):=of_decide_eq_true za73
        obtain ⟨jl_,e504,ju_⟩:=Kd.at_int HR0.out x3_1 p504 q504
        obtain rfl:jk_=jl_:=(by injection e504)
        replace p504:=eq_true p504
        replace q504:=eq_true q504
        go_wp2
        repeat (go_quiet (fail);try go_wp2)
        go_roundg k1
        case measure=>have:=HK1.out;omega
        case rel=>exact ⟨(wrap64 (x3_1+1)),za76,H',⟨by have:=HK1.out;omega⟩,by repeat (first|exact Drawn0.refl _|apply Drawn0.step)⟩
      ·
       rw [if_neg c6] at H
       exact absurd H (by simp)
     ·
      rw [if_neg c5] at H
      exact absurd H (by simp)
    ·
     rw [if_neg c4] at H
     exact absurd H (by simp)
   ·
    rw [if_neg c2] at H
    have c2b0:decide (x3_1<(l0.length:Int))=false:=decide_eq_false c2
    clear c2
    obtain rfl:=Option.some.inj H
    go_wp2
    repeat (go_quiet (fail);try go_wp2)
    go_ret
    exact ⟨by first|rfl|(simp;done)|(simp [*];done),by repeat (first|exact Drawn0.refl _|apply Drawn0.step)⟩
def abugidaref16_right.l0:Nat→List (List Int)→Int→Option (Bool)
 | 0,_,_=>none
 | k+1,x0,x3=>if x3<(x0.length:Int) then (if 0≤x3 then (if ((rd_L1 x0 x3).length:Int)=0 then (some false) else ((abugidaref15_Right.f k (rd_L1 x0 x3)).bind fun t507=>(if t507=true then (abugidaref16_right.l0 k x0 (wrap64 (x3+1))) else (some false)))) else (none)) else (some true)
def abugidaref16_right.f (k:Nat) (l0:List (List Int)):Option (Bool):=abugidaref16_right.l0 k l0 0
theorem abugidaref16_right.mono_l:∀ k,(∀ y0 y1,LeO (abugidaref16_right.l0 k y0 y1) (abugidaref16_right.l0 (k+1) y0 y1))
 | 0=>fun _ _ r h=>by simp [abugidaref16_right.l0] at h
 | k+1=>by
  have ih0:=abugidaref16_right.mono_l k
  ·
   intro y0 y1
   unfold abugidaref16_right.l0
   repeat' first
   | (with_reducible exact ih0 _ _)
   | (with_reducible exact abugidaref15_Right.mono _ _)
   | (with_reducible exact LeO.refl _)
   | (with_reducible exact LeO.none _)
   | (with_reducible refine LeO.ite ?_ ?_)
   | (with_reducible refine LeO.bind ?_ (fun _=>?_))
   | exact ih0 _ _
   | exact abugidaref15_Right.mono _ _
   | exact LeO.none _
   | refine LeO.ite ?_ ?_
   | refine LeO.bind ?_ (fun _=>?_)
theorem abugidaref16_right.mono:∀ a0 k,LeO (abugidaref16_right.f k a0) (abugidaref16_right.f (k+1) a0):=by
 intro a0 k
 have ih0:=abugidaref16_right.mono_l k
 unfold abugidaref16_right.f
 repeat' first
   | (with_reducible exact ih0 _ _)
   | (with_reducible exact abugidaref15_Right.mono _ _)
   | (with_reducible exact LeO.refl _)
   | (with_reducible exact LeO.none _)
   | (with_reducible refine LeO.ite ?_ ?_)
   | (with_reducible refine LeO.bind ?_ (fun _=>?_))
   | exact ih0 _ _
   | exact abugidaref15_Right.mono _ _
   | exact LeO.none _
   | refine LeO.ite ?_ ?_
   | refine LeO.bind ?_ (fun _=>?_)
set_option maxHeartbeats 8000000 in
set_option maxRecDepth 100000 in
theorem abugidaref16_right.calls (k:Nat) (A0:Option Addr) (c0:Nat) (l0:List (List Int)) (r:Bool) (w:World) (hr0:Kd.C (Kd.slice 3 (Kd.int .i64)) w A0 l0.length l0) (hc0:l0.length≤c0) (h:abugidaref16_right.f k l0=some r) :
  Calls Try.prog 52 #[.slice A0 l0.length c0] w fun e w'=>e=.returned (.bool r)∧Drawn0 w w':=by
 have HR0:=Aside0.mk hr0
 have HC0:=Aside0.mk hc0
 clear hr0 hc0
 have H:(abugidaref16_right.l0 k l0 0)=some r:=h
 clear h
 have H':=Aside0.mk H
 clear H
 go_enter Try.func52,Try.ntmps52
 go_wp2
 go_loopg [3] k (fun kq v3 w'=>∃ (x3_1:Int),v3=.int .i64 x3_1∧Aside0 (abugidaref16_right.l0 kq l0 x3_1=some r)∧Aside0 (kq≤k)∧Drawn0 w w')
 case atStart=>exact ⟨(0),za76,H',⟨Nat.le_refl _⟩,by repeat (first|exact Drawn0.refl _|apply Drawn0.step)⟩
 case round =>
  clear H'
  obtain ⟨x3_1,rfl,HA,HK1,⟨m1,rfl⟩⟩:=hrel
  cases gk with
  | zero=>exact absurd HA.out (by simp [abugidaref16_right.l0])
  | succ k1 =>
   have H:=HA.out
   clear HA
   simp only [abugidaref16_right.l0] at H
   by_cases c2:x3_1<(l0.length:Int)
   ·
    rw [if_pos c2] at H
    have c2b0:decide (x3_1<(l0.length:Int))=true:=decide_eq_true c2
    clear c2
    by_cases c3:0≤x3_1
    ·
     rw [if_pos c3] at H
     have c3b0:decide (0≤x3_1)=true:=decide_eq_true c3
     clear c3
     by_cases c4:((rd_L1 l0 x3_1).length:Int)=0
     ·
      rw [if_pos c4] at H
      have c4b0:(((rd_L1 l0 x3_1).length:Int)==0)=true:=beq_iff_eq.mpr c4
      have c4b1:(((rd_L1 l0 x3_1).length:Int) != 0)=false:=bne_eq_false_iff_eq.mpr c4
      clear c4
      obtain rfl:=Option.some.inj H
      have p505:0≤(x3_1:Int):=of_decide_eq_true za73
      have q505:x3_1<(l0.length:Int):=of_decide_eq_true za73
      obtain ⟨jd_,jo_,jp_,e505,j4_,hl505_0,hi505_0⟩:=at_L1 HR0.out x3_1 p505 q505
      cases e505
      have jg_:=Aside0.mk hi505_0
      have jh_:=Aside0.mk hl505_0
      clear hi505_0 hl505_0
      replace p505:=eq_true p505
      replace q505:=eq_true q505
      go_wp2
      go_ret
      exact ⟨by first|rfl|(simp;done)|(simp [*];done),by repeat (first|exact Drawn0.refl _|apply Drawn0.step)⟩
     ·
      rw [if_neg c4] at H
      have c4b0:(((rd_L1 l0 x3_1).length:Int)==0)=false:=beq_eq_false_iff_ne.mpr c4
      have c4b1:(((rd_L1 l0 x3_1).length:Int) != 0)=true:=bne_iff_ne.mpr c4
      have c4b2:¬ ((rd_L1 l0 x3_1)=[]):=fun h_=>c4 (by rw [h_];rfl)
      replace H:=Option.bind_eq_some_iff.mp H
      obtain ⟨t507,A50,H⟩:=H
      replace H:(if t507=true then (abugidaref16_right.l0 k1 l0 (wrap64 (x3_1+1))) else (some false))=some r:=H
      have A5:=Aside0.mk A50
      clear A50
      by_cases c6:t507=true
      ·
       subst c6
       have H1:(abugidaref16_right.l0 k1 l0 (wrap64 (x3_1+1)))=some r:=by rw [if_pos rfl] at H;exact H
       clear H
       have H:=H1
       clear H1
       have H':=Aside0.mk H
       clear H
       have p505:0≤(x3_1:Int):=of_decide_eq_true za73
       have q505:x3_1<(l0.length:Int):=of_decide_eq_true za73
       obtain ⟨jd_,jo_,jp_,e505,j4_,hl505_0,hi505_0⟩:=at_L1 HR0.out x3_1 p505 q505
       cases e505
       have jg_:=Aside0.mk hi505_0
       have jh_:=Aside0.mk hl505_0
       clear hi505_0 hl505_0
       replace p505:=eq_true p505
       replace q505:=eq_true q505
       have p506:0≤(x3_1:Int):=of_decide_eq_true za73
       have q506:x3_1<(l0.length:Int):=of_decide_eq_true za73
       obtain ⟨jm_,jx_,jy_,e506,j6_,hl506_0,hi506_0⟩:=at_L1 HR0.out x3_1 p506 q506
       obtain rfl:jd_=jm_:=(by injection e506)
       have j7_:=Aside0.mk hi506_0
       have j8_:=Aside0.mk hl506_0
       clear hi506_0 hl506_0
       replace p506:=eq_true p506
       replace q506:=eq_true q506
       have ea_:=Option.some.inj (j4_.symm.trans j6_)
       injection ea_ with ea_ en_ ec_
       subst ea_
       subst ec_
       clear en_
       go_wp2_with (first|(go_at_call 67;(with_reducible refine (abugidaref15_Right.calls k1 _ _ (rd_L1 l0 x3_1) true _ ?side1 ?side2 A5.out).mono ?_);(case side1=>repeat (first|exact j7_.out|(with_reducible refine Kd.C_alloc ?_ _)|(with_reducible refine Kd.C_drewN ?_ _)|(with_reducible refine Kd.C_drew ?_)));(case side2=>exact j8_.out);rintro e w' ⟨rfl,⟨nd,rfl⟩⟩))
       go_roundg k1
       case measure=>have:=HK1.out;omega
       case rel=>exact ⟨(wrap64 (x3_1+1)),za76,H',⟨by have:=HK1.out;omega⟩,by repeat (first|exact Drawn0.refl _|apply Drawn0.step)⟩
      ·
       replace c6:=Bool.eq_false_iff.mpr c6
       subst c6
       have H1:(some false)=some r:=by rw [if_neg (show ¬ (false=true) by decide)] at H;exact H
       clear H
       have H:=H1
       clear H1
       obtain rfl:=Option.some.inj H
       have p505:0≤(x3_1:Int):=of_decide_eq_true za73
       have q505:x3_1<(l0.length:Int):=of_decide_eq_true za73
       obtain ⟨jd_,jo_,jp_,e505,j4_,hl505_0,hi505_0⟩:=at_L1 HR0.out x3_1 p505 q505
       cases e505
       have jg_:=Aside0.mk hi505_0
       have jh_:=Aside0.mk hl505_0
       clear hi505_0 hl505_0
       replace p505:=eq_true p505
       replace q505:=eq_true q505
       have p506:0≤(x3_1:Int):=of_decide_eq_true za73
       have q506:x3_1<(l0.length:Int):=of_decide_eq_true za73
       obtain ⟨jm_,jx_,jy_,e506,j6_,hl506_0,hi506_0⟩:=at_L1 HR0.out x3_1 p506 q506
       obtain rfl:jd_=jm_:=(by injection e506)
       have j7_:=Aside0.mk hi506_0
       have j8_:=Aside0.mk hl506_0
       clear hi506_0 hl506_0
       replace p506:=eq_true p506
       replace q506:=eq_true q506
       have ea_:=Option.some.inj (j4_.symm.trans j6_)
       injection ea_ with ea_ en_ ec_
       subst ea_
       subst ec_
       clear en_
       go_wp2_with (first|(go_at_call 67;(with_reducible refine (abugidaref15_Right.calls k1 _ _ (rd_L1 l0 x3_1) false _ ?side1 ?side2 A5.out).mono ?_);(case side1=>repeat (first|exact j7_.out|(with_reducible refine Kd.C_alloc ?_ _)|(with_reducible refine Kd.C_drewN ?_ _)|(with_reducible refine Kd.C_drew ?_)));(case side2=>exact j8_.out);rintro e w' ⟨rfl,⟨nd,rfl⟩⟩))
       go_ret
       exact ⟨by first|rfl|(simp;done)|(simp [*];done),by repeat (first|exact Drawn0.refl _|apply Drawn0.step)⟩
    ·
     rw [if_neg c3] at H
     exact absurd H (by simp)
   ·
    rw [if_neg c2] at H
    have c2b0:decide (x3_1<(l0.length:Int))=false:=decide_eq_false c2
    clear c2
    obtain rfl:=Option.some.inj H
    go_wp2
    go_ret
    exact ⟨by first|rfl|(simp;done)|(simp [*];done),by repeat (first|exact Drawn0.refl _|apply Drawn0.step)⟩
mutual
def abugidaref16_known.l0:Nat→List (List Int)→Int→Int→Option (Bool)
 | 0,_,_,_=>none
 | k+1,x0,x1,x5=>if x5<(x0.length:Int) then (abugidaref16_known.l1 k x0 x1 x5 0) else (some true)
def abugidaref16_known.l1:Nat→List (List Int)→Int→Int→Int→Option (Bool)
 | 0,_,_,_,_=>none
 | k+1,x0,x1,x5,x6=>if 0≤x5 then (if x5<(x0.length:Int) then (if x6<((rd_L1 x0 x5).length:Int) then (if 0≤x6 then (if (rd (rd_L1 x0 x5) x6)<0 then (some false) else (if (rd (rd_L1 x0 x5) x6) ≥ x1 then (some false) else (abugidaref16_known.l1 k x0 x1 x5 (wrap64 (x6+1))))) else (none)) else (abugidaref16_known.l0 k x0 x1 (wrap64 (x5+1)))) else (none)) else (none)
end
def abugidaref16_known.f (k:Nat) (l0:List (List Int)) (a1:Int):Option (Bool):=abugidaref16_known.l0 k l0 a1 0
theorem abugidaref16_known.mono_l:∀ k,(∀ y0 y1 y2,LeO (abugidaref16_known.l0 k y0 y1 y2) (abugidaref16_known.l0 (k+1) y0 y1 y2))∧(∀ y0 y1 y2 y3,LeO (abugidaref16_known.l1 k y0 y1 y2 y3) (abugidaref16_known.l1 (k+1) y0 y1 y2 y3))
 | 0=>⟨fun _ _ _ r h=>by simp [abugidaref16_known.l0] at h,fun _ _ _ _ r h=>by simp [abugidaref16_known.l1] at h⟩
 | k+1=>by
  obtain ⟨ih0,ih1⟩:=abugidaref16_known.mono_l k
  refine ⟨?_,?_⟩
  ·
   intro y0 y1 y2
   unfold abugidaref16_known.l0
   repeat' first
   | (with_reducible exact ih0 _ _ _)
   | (with_reducible exact ih1 _ _ _ _)
   | (with_reducible exact LeO.refl _)
   | (with_reducible exact LeO.none _)
   | (with_reducible refine LeO.ite ?_ ?_)
   | (with_reducible refine LeO.bind ?_ (fun _=>?_))
   | exact ih0 _ _ _
   | exact ih1 _ _ _ _
   | exact LeO.none _
   | refine LeO.ite ?_ ?_
   | refine LeO.bind ?_ (fun _=>?_)
  ·
   intro y0 y1 y2 y3
   unfold abugidaref16_known.l1
   repeat' first
   | (with_reducible exact ih0 _ _ _)
   | (with_reducible exact ih1 _ _ _ _)
   | (with_reducible exact LeO.refl _)
   | (with_reducible exact LeO.none _)
   | (with_reducible refine LeO.ite ?_ ?_)
   | (with_reducible refine LeO.bind ?_ (fun _=>?_))
   | exact ih0 _ _ _
   | exact ih1 _ _ _ _
   | exact LeO.none _
   | refine LeO.ite ?_ ?_
   | refine LeO.bind ?_ (fun _=>?_)
theorem abugidaref16_known.mono:∀ a0 a1 k,LeO (abugidaref16_known.f k a0 a1) (abugidaref16_known.f (k+1) a0 a1):=by
 intro a0 a1 k
 obtain ⟨ih0,ih1⟩:=abugidaref16_known.mono_l k
 unfold abugidaref16_known.f
 repeat' first
   | (with_reducible exact ih0 _ _ _)
   | (with_reducible exact ih1 _ _ _ _)
   | (with_reducible exact LeO.refl _)
   | (with_reducible exact LeO.none _)
   | (with_reducible refine LeO.ite ?_ ?_)
   | (with_reducible refine LeO.bind ?_ (fun _=>?_))
   | exact ih0 _ _ _
   | exact ih1 _ _ _ _
   | exact LeO.none _
   | refine LeO.ite ?_ ?_
   | refine LeO.bind ?_ (fun _=>?_)
set_option maxHeartbeats 8000000 in
set_option maxRecDepth 100000 in
theorem abugidaref16_known.calls (k:Nat) (A0:Option Addr) (c0:Nat) (l0:List (List Int)) (a1:Int) (r:Bool) (w:World) (hr0:Kd.C (Kd.slice 3 (Kd.int .i64)) w A0 l0.length l0) (hc0:l0.length≤c0) (h:abugidaref16_known.f k l0 a1=some r) :
  Calls Try.prog 53 #[.slice A0 l0.length c0,.int .i64 a1] w fun e w'=>e=.returned (.bool r)∧Drawn0 w w':=by
 have HR0:=Aside0.mk hr0
 have HC0:=Aside0.mk hc0
 clear hr0 hc0
 have H:(abugidaref16_known.l0 k l0 a1 0)=some r:=h
 clear h
 have H':=Aside0.mk H
 clear H
 go_enter Try.func53,Try.ntmps53
 go_wp2
 go_loopg [5] k (fun kq v5 w'=>∃ (x5_1:Int),v5=.int .i64 x5_1∧Aside0 (abugidaref16_known.l0 kq l0 a1 x5_1=some r)∧Aside0 (kq≤k)∧Drawn0 w w')
 case atStart=>exact ⟨(0),za76,H',⟨Nat.le_refl _⟩,by repeat (first|exact Drawn0.refl _|apply Drawn0.step)⟩
 case round =>
  clear H'
  try clear p2
  obtain ⟨x5_1,rfl,HA,HK1,⟨m1,rfl⟩⟩:=hrel
  cases gk with
  | zero=>exact absurd HA.out (by simp [abugidaref16_known.l0])
  | succ k1 =>
   have H:=HA.out
   clear HA
   simp only [abugidaref16_known.l0] at H
   by_cases c3:x5_1<(l0.length:Int)
   ·
    rw [if_pos c3] at H
    have c3b0:decide (x5_1<(l0.length:Int))=true:=decide_eq_true c3
    clear c3
    have H':=Aside0.mk H
    clear H
    go_wp2
    go_loopg [6] k1 (fun kq v6 w'=>∃ (x6_2:Int),v6=.int .i64 x6_2∧Aside0 (abugidaref16_known.l1 kq l0 a1 x5_1 x6_2=some r)∧Aside0 (kq≤k1)∧Drawn0 w w')
    case atStart=>exact ⟨(0),za76,H',⟨Nat.le_refl _⟩,by repeat (first|exact Drawn0.refl _|apply Drawn0.step)⟩
    case round =>
     clear H'
     try clear p2
     try clear c3
     try clear c3b0
     try clear p2
     obtain ⟨x6_2,rfl,HA,HK2,⟨m2,rfl⟩⟩:=hrel
     cases gk with
     | zero=>exact absurd HA.out (by simp [abugidaref16_known.l1])
     | succ k2 =>
      have H:=HA.out
      clear HA
      simp only [abugidaref16_known.l1] at H
      by_cases c4:0≤x5_1
      ·
       rw [if_pos c4] at H
       have c4b0:decide (0≤x5_1)=true:=decide_eq_true c4
       clear c4
       by_cases c5:x5_1<(l0.length:Int)
       ·
        rw [if_pos c5] at H
        have c5b0:decide (x5_1<(l0.length:Int))=true:=decide_eq_true c5
        clear c5
        by_cases c6:x6_2<((rd_L1 l0 x5_1).length:Int)
        ·
         rw [if_pos c6] at H
         have c6b0:decide (x6_2<((rd_L1 l0 x5_1).length:Int))=true:=decide_eq_true c6
         clear c6
         by_cases c7:0≤x6_2
         ·
          rw [if_pos c7] at H
          have c7b0:decide (0≤x6_2)=true:=decide_eq_true c7
          clear c7
          by_cases c8:(rd (rd_L1 l0 x5_1) x6_2)<0
          ·
           rw [if_pos c8] at H
           have c8b0:decide ((rd (rd_L1 l0 x5_1) x6_2)<0)=true:=decide_eq_true c8
           clear c8
           obtain rfl:=Option.some.inj H
           have p508:0≤(x5_1:Int):=of_decide_eq_true za73
           have q508:x5_1<(l0.length:Int):=of_decide_eq_true za73
           obtain ⟨j1_,je_,jf_,e508,j0_,hl508_0,hi508_0⟩:=at_L1 HR0.out x5_1 p508 q508
           cases e508
           have j9_:=Aside0.mk hi508_0
           have ja_:=Aside0.mk hl508_0
           clear hi508_0 hl508_0
           replace p508:=eq_true p508
           replace q508:=eq_true q508
           have p509:0≤(x5_1:Int):=of_decide_eq_true za73
           have q509:x5_1<(l0.length:Int):=of_decide_eq_true za73
           obtain ⟨j5_,jq_,jr_,e509,j2_,hl509_0,hi509_0⟩:=at_L1 HR0.out x5_1 p509 q509
           obtain rfl:j1_=j5_:=(by injection e509)
           have j3_:=Aside0.mk hi509_0
           have ji_:=Aside0.mk hl509_0
           clear hi509_0 hl509_0
           replace p509:=eq_true p509
           replace q509:=eq_true q509
           have ea_:=Option.some.inj (j0_.symm.trans j2_)
           injection ea_ with ea_ en_ ec_
           subst ea_
           subst ec_
           clear en_
           have p510:0≤(x6_2:Int):=of_decide_eq_true za73
           have q510:x6_2<((rd_L1 l0 x5_1).length:Int):=of_decide_eq_true za73
           obtain ⟨js_,e510,jj_⟩:=Kd.at_int j3_.out x6_2 p510 q510
           cases e510
           replace p510:=eq_true p510
           replace q510:=eq_true q510
           go_wp2
           go_ret
           exact ⟨by first|rfl|(simp;done)|(simp [*];done),by repeat (first|exact Drawn0.refl _|apply Drawn0.step)⟩
          ·
           rw [if_neg c8] at H
           have c8b0:decide ((rd (rd_L1 l0 x5_1) x6_2)<0)=false:=decide_eq_false c8
           clear c8
           by_cases c9:(rd (rd_L1 l0 x5_1) x6_2) ≥ a1
           ·
            rw [if_pos c9] at H
            have c9b0:decide (a1≤(rd (rd_L1 l0 x5_1) x6_2))=true:=decide_eq_true c9
            clear c9
            obtain rfl:=Option.some.inj H
            have p508:0≤(x5_1:Int):=of_decide_eq_true za73
            have q508:x5_1<(l0.length:Int):=of_decide_eq_true za73
            obtain ⟨j1_,je_,jf_,e508,j0_,hl508_0,hi508_0⟩:=at_L1 HR0.out x5_1 p508 q508
            cases e508
            have j9_:=Aside0.mk hi508_0
            have ja_:=Aside0.mk hl508_0
            clear hi508_0 hl508_0
            replace p508:=eq_true p508
            replace q508:=eq_true q508
            have p509:0≤(x5_1:Int):=of_decide_eq_true za73
            have q509:x5_1<(l0.length:Int):=of_decide_eq_true za73
            obtain ⟨j5_,jq_,jr_,e509,j2_,hl509_0,hi509_0⟩:=at_L1 HR0.out x5_1 p509 q509
            obtain rfl:j1_=j5_:=(by injection e509)
            have j3_:=Aside0.mk hi509_0
            have ji_:=Aside0.mk hl509_0
            clear hi509_0 hl509_0
            replace p509:=eq_true p509
            replace q509:=eq_true q509
            have ea_:=Option.some.inj (j0_.symm.trans j2_)
            injection ea_ with ea_ en_ ec_
            subst ea_
            subst ec_
            clear en_
            have p510:0≤(x6_2:Int):=of_decide_eq_true za73
            have q510:x6_2<((rd_L1 l0 x5_1).length:Int):=of_decide_eq_true za73
            obtain ⟨js_,e510,jj_⟩:=Kd.at_int j3_.out x6_2 p510 q510
            cases e510
            replace p510:=eq_true p510
            replace q510:=eq_true q510
            have p511:0≤(x5_1:Int):=of_decide_eq_true za73
            have q511:x5_1<(l0.length:Int):=of_decide_eq_true za73
            obtain ⟨jn_,jz_,j10,e511,jb_,hl511_0,hi511_0⟩:=at_L1 HR0.out x5_1 p511 q511
            obtain rfl:j1_=jn_:=(by injection e511)
            have jc_:=Aside0.mk hi511_0
            have jv_:=Aside0.mk hl511_0
            clear hi511_0 hl511_0
            replace p511:=eq_true p511
            replace q511:=eq_true q511
            have ea_:=Option.some.inj (j0_.symm.trans jb_)
            injection ea_ with ea_ en_ ec_
            subst ea_
            subst ec_
            clear en_
            have p512:0≤(x6_2:Int):=of_decide_eq_true za73
            have q512:x6_2<((rd_L1 l0 x5_1).length:Int):=of_decide_eq_true za73
            obtain ⟨j11,e512,jw_⟩:=Kd.at_int jc_.out x6_2 p512 q512
            cases e512
            replace p512:=eq_true p512
            replace q512:=eq_true q512
            go_wp2
            go_ret
            exact ⟨by first|rfl|(simp;done)|(simp [*];done),by repeat (first|exact Drawn0.refl _|apply Drawn0.step)⟩
           ·
            rw [if_neg c9] at H
            have c9b0:decide (a1≤(rd (rd_L1 l0 x5_1) x6_2))=false:=decide_eq_false c9
            clear c9
            have H':=Aside0.mk H
            clear H
            have p508:0≤(x5_1:Int):=of_decide_eq_true za73
            have q508:x5_1<(l0.length:Int):=of_decide_eq_true za73
            obtain ⟨j1_,je_,jf_,e508,j0_,hl508_0,hi508_0⟩:=at_L1 HR0.out x5_1 p508 q508
            cases e508
            have j9_:=Aside0.mk hi508_0
            have ja_:=Aside0.mk hl508_0
            clear hi508_0 hl508_0
            replace p508:=eq_true p508
            replace q508:=eq_true q508
            have p509:0≤(x5_1:Int):=of_decide_eq_true za73
            have q509:x5_1<(l0.length:Int):=of_decide_eq_true za73
            obtain ⟨j5_,jq_,jr_,e509,j2_,hl509_0,hi509_0⟩:=at_L1 HR0.out x5_1 p509 q509
            obtain rfl:j1_=j5_:=(by injection e509)
            have j3_:=Aside0.mk hi509_0
            have ji_:=Aside0.mk hl509_0
            clear hi509_0 hl509_0
            replace p509:=eq_true p509
            replace q509:=eq_true q509
            have ea_:=Option.some.inj (j0_.symm.trans j2_)
            injection ea_ with ea_ en_ ec_
            subst ea_
            subst ec_
            clear en_
            have p510:0≤(x6_2:Int):=of_decide_eq_true za73
            have q510:x6_2<((rd_L1 l0 x5_1).length:Int):=of_decide_eq_true za73
            obtain ⟨js_,e510,jj_⟩:=Kd.at_int j3_.out x6_2 p510 q510
            cases e510
            replace p510:=eq_true p510
            replace q510:=eq_true q510
            have p511:0≤(x5_1:Int):=of_decide_eq_true za73
            have q511:x5_1<(l0.length:Int):=of_decide_eq_true za73
            obtain ⟨jn_,jz_,j10,e511,jb_,hl511_0,hi511_0⟩:=at_L1 HR0.out x5_1 p511 q511
            obtain rfl:j1_=jn_:=(by injection e511)
            have jc_:=Aside0.mk hi511_0
            have jv_:=Aside0.mk hl511_0
            clear hi511_0 hl511_0
            replace p511:=eq_true p511
            replace q511:=eq_true q511
            have ea_:=Option.some.inj (j0_.symm.trans jb_)
            injection ea_ with ea_ en_ ec_
            subst ea_
            subst ec_
            clear en_
            have p512:0≤(x6_2:Int):=of_decide_eq_true za73
            have q512:x6_2<((rd_L1 l0 x5_1).length:Int):=of_decide_eq_true za73
            obtain ⟨j11,e512,jw_⟩:=Kd.at_int jc_.out x6_2 p512 q512
            cases e512
            replace p512:=eq_true p512
            replace q512:=eq_true q512
            go_wp2
            go_roundg k2
            case measure=>have:=HK1.out;have:=HK2.out;omega
            case rel=>exact ⟨(wrap64 (x6_2+1)),za76,H',⟨by have:=HK1.out;have:=HK2.out;omega⟩,by repeat (first|exact Drawn0.refl _|apply Drawn0.step)⟩
         ·
          rw [if_neg c7] at H
          exact absurd H (by simp)
        ·
         rw [if_neg c6] at H
         have c6b0:decide (x6_2<((rd_L1 l0 x5_1).length:Int))=false:=decide_eq_false c6
         clear c6
         have H':=Aside0.mk H
         clear H
         have p508:0≤(x5_1:Int):=of_decide_eq_true za73
         have q508:x5_1<(l0.length:Int):=of_decide_eq_true za73
         obtain ⟨j1_,je_,jf_,e508,j0_,hl508_0,hi508_0⟩:=at_L1 HR0.out x5_1 p508 q508
         cases e508
         have j9_:=Aside0.mk hi508_0
         have ja_:=Aside0.mk hl508_0
         clear hi508_0 hl508_0
         replace p508:=eq_true p508
         replace q508:=eq_true q508
         go_wp2
         go_roundg k2
         case measure=>have:=HK1.out;have:=HK2.out;omega
         case rel=>exact ⟨(wrap64 (x5_1+1)),za76,H',⟨by have:=HK1.out;have:=HK2.out;omega⟩,by repeat (first|exact Drawn0.refl _|apply Drawn0.step)⟩
       ·
        rw [if_neg c5] at H
        exact absurd H (by simp)
      ·
       rw [if_neg c4] at H
       exact absurd H (by simp)
   ·
    rw [if_neg c3] at H
    have c3b0:decide (x5_1<(l0.length:Int))=false:=decide_eq_false c3
    clear c3
    obtain rfl:=Option.some.inj H
    go_wp2
    go_ret
    exact ⟨by first|rfl|(simp;done)|(simp [*];done),by repeat (first|exact Drawn0.refl _|apply Drawn0.step)⟩
end Go.Proofs.Ytlgkeaildncojaa.Q
end
section
namespace Go.Proofs.Ytlgkeaildncojaa.Q
open Go.RowKit Go.Proofs.YtlgkeaildncojaaW.PrintWords Go.Proofs.YtlgkeaildncojaaW.PrintLast Go.Proofs.YtlgkeaildncojaaW.PrintMore
attribute [local go_sem] max2_int min2_int max_two min_two max_three min_three max_four min_four   -- for this text's walks alone
set_option linter.unusedVariables false
set_option linter.unusedSimpArgs false
mutual
def abugidaref16_rule.j0:Nat→Int→Int→Int→Bool→List (List Int)→List (List Int)→List (List Int)→List Int→List (S60)→Option (Int)
 | 0,_,_,_,_,_,_,_,_,_=>none
 | k+1,x1,x2,x3,x9,j8_,j7_,j9_,ja_,j6_=>(abugidaref16_right.f k j7_).bind fun t514=>(if t514=true then ((abugidaref16_right.f k j8_).bind fun t515=>(if t515=true then ((abugidaref16_right.f k j9_).bind fun t516=>(abugidaref16_rule.j1 k x1 x2 x3 x9 t516 j8_ j7_ j9_ ja_ j6_)) else (abugidaref16_rule.j1 k x1 x2 x3 x9 false j8_ j7_ j9_ ja_ j6_))) else (abugidaref16_rule.j1 k x1 x2 x3 x9 false j8_ j7_ j9_ ja_ j6_))
def abugidaref16_rule.j1:Nat→Int→Int→Int→Bool→Bool→List (List Int)→List (List Int)→List (List Int)→List Int→List (S60)→Option (Int)
 | 0,_,_,_,_,_,_,_,_,_,_=>none
 | k+1,x1,x2,x3,x9,x10,j8_,j7_,j9_,ja_,j6_=>if x9=true then (abugidaref16_rule.j2 k x1 x2 x3 true j8_ j7_ j9_ ja_ j6_) else (if x10=true then (if (j6_.length:Int) > 0 then (abugidaref16_rule.j2 k x1 x2 x3 (decide ((ja_.length:Int) > 0)) j8_ j7_ j9_ ja_ j6_) else (abugidaref16_rule.j2 k x1 x2 x3 false j8_ j7_ j9_ ja_ j6_)) else (abugidaref16_rule.j2 k x1 x2 x3 true j8_ j7_ j9_ ja_ j6_))
def abugidaref16_rule.j2:Nat→Int→Int→Int→Bool→List (List Int)→List (List Int)→List (List Int)→List Int→List (S60)→Option (Int)
 | 0,_,_,_,_,_,_,_,_,_=>none
 | k+1,x1,x2,x3,x77,j8_,j7_,j9_,ja_,j6_=>if x77=true then (some 31) else ((abugidaref16_known.f k j7_ x3).bind fun t517=>(if t517=true then ((abugidaref16_known.f k j8_ x3).bind fun t518=>(if t518=true then ((abugidaref16_known.f k j9_ x3).bind fun t519=>(if t519=true then ((abugidaref16_known.f k (([ja_]:List (List Int))) x3).bind fun t523=>(abugidaref16_rule.j3 k x1 x2 t523 j8_ j7_ j9_ ja_ j6_)) else (abugidaref16_rule.j3 k x1 x2 false j8_ j7_ j9_ ja_ j6_))) else (abugidaref16_rule.j3 k x1 x2 false j8_ j7_ j9_ ja_ j6_))) else (abugidaref16_rule.j3 k x1 x2 false j8_ j7_ j9_ ja_ j6_)))
def abugidaref16_rule.j3:Nat→Int→Int→Bool→List (List Int)→List (List Int)→List (List Int)→List Int→List (S60)→Option (Int)
 | 0,_,_,_,_,_,_,_,_=>none
 | k+1,x1,x2,x11,j8_,j7_,j9_,ja_,j6_=>if x11=true then (abugidaref16_rule.l0 k x1 x2 0 j8_ j7_ j9_ ja_ j6_) else (some 30)
def abugidaref16_rule.l0:Nat→Int→Int→Int→List (List Int)→List (List Int)→List (List Int)→List Int→List (S60)→Option (Int)
 | 0,_,_,_,_,_,_,_,_=>none
 | k+1,x1,x2,x12,j8_,j7_,j9_,ja_,j6_=>if x12<(j6_.length:Int) then (if 0≤x12 then (if ((rd_T60 j6_ x12).f0)<0 then (some 32) else (if ((rd_T60 j6_ x12).f0) ≥ (j7_.length:Int) then (some 32) else (if ((rd_T60 j6_ x12).f1)≤x1 then (some 32) else (if ((rd_T60 j6_ x12).f1) ≥ x2 then (some 32) else (abugidaref16_rule.l0 k x1 x2 (wrap64 (x12+1)) j8_ j7_ j9_ ja_ j6_))))) else (none)) else (some 0)
end
def abugidaref16_rule.f (k:Nat) (l0_0:List (List Int)) (l0_1:List (List Int)) (l0_2:List (List Int)) (l0_3:List Int) (l0_4:List (S60)) (a1:Int) (a2:Int) (a3:Int):Option (Int):=if (l0_1.length:Int)<1 then (abugidaref16_rule.j0 k a1 a2 a3 true l0_0 l0_1 l0_2 l0_3 l0_4) else (if (l0_1.length:Int) > 4 then (abugidaref16_rule.j0 k a1 a2 a3 true l0_0 l0_1 l0_2 l0_3 l0_4) else (if (l0_0.length:Int) > 3 then (abugidaref16_rule.j0 k a1 a2 a3 true l0_0 l0_1 l0_2 l0_3 l0_4) else (if (l0_2.length:Int) > 3 then (abugidaref16_rule.j0 k a1 a2 a3 true l0_0 l0_1 l0_2 l0_3 l0_4) else (if (l0_3.length:Int) > 4 then (abugidaref16_rule.j0 k a1 a2 a3 true l0_0 l0_1 l0_2 l0_3 l0_4) else (abugidaref16_rule.j0 k a1 a2 a3 (decide ((l0_4.length:Int) > 3)) l0_0 l0_1 l0_2 l0_3 l0_4)))))
theorem abugidaref16_rule.mono_l:∀ k,(∀ y0 y1 y2 y3 y4 y5 y6 y7 y8,LeO (abugidaref16_rule.j0 k y0 y1 y2 y3 y4 y5 y6 y7 y8) (abugidaref16_rule.j0 (k+1) y0 y1 y2 y3 y4 y5 y6 y7 y8))∧(∀ y0 y1 y2 y3 y4 y5 y6 y7 y8 y9,LeO (abugidaref16_rule.j1 k y0 y1 y2 y3 y4 y5 y6 y7 y8 y9) (abugidaref16_rule.j1 (k+1) y0 y1 y2 y3 y4 y5 y6 y7 y8 y9))∧(∀ y0 y1 y2 y3 y4 y5 y6 y7 y8,LeO (abugidaref16_rule.j2 k y0 y1 y2 y3 y4 y5 y6 y7 y8) (abugidaref16_rule.j2 (k+1) y0 y1 y2 y3 y4 y5 y6 y7 y8))∧(∀ y0 y1 y2 y3 y4 y5 y6 y7,LeO (abugidaref16_rule.j3 k y0 y1 y2 y3 y4 y5 y6 y7) (abugidaref16_rule.j3 (k+1) y0 y1 y2 y3 y4 y5 y6 y7))∧(∀ y0 y1 y2 y3 y4 y5 y6 y7,LeO (abugidaref16_rule.l0 k y0 y1 y2 y3 y4 y5 y6 y7) (abugidaref16_rule.l0 (k+1) y0 y1 y2 y3 y4 y5 y6 y7))
 | 0=>⟨fun _ _ _ _ _ _ _ _ _ r h=>by simp [abugidaref16_rule.j0] at h,fun _ _ _ _ _ _ _ _ _ _ r h=>by simp [abugidaref16_rule.j1] at h,fun _ _ _ _ _ _ _ _ _ r h=>by simp [abugidaref16_rule.j2] at h,fun _ _ _ _ _ _ _ _ r h=>by simp [abugidaref16_rule.j3] at h,fun _ _ _ _ _ _ _ _ r h=>by simp [abugidaref16_rule.l0] at h⟩
 | k+1=>by
  obtain ⟨ih0,ih1,ih2,ih3,ih4⟩:=abugidaref16_rule.mono_l k
  refine ⟨?_,?_,?_,?_,?_⟩
  ·
   intro y0 y1 y2 y3 y4 y5 y6 y7 y8
   unfold abugidaref16_rule.j0
   repeat' first
   | (with_reducible exact ih0 _ _ _ _ _ _ _ _ _)
   | (with_reducible exact ih1 _ _ _ _ _ _ _ _ _ _)
   | (with_reducible exact ih2 _ _ _ _ _ _ _ _ _)
   | (with_reducible exact ih3 _ _ _ _ _ _ _ _)
   | (with_reducible exact ih4 _ _ _ _ _ _ _ _)
   | (with_reducible exact abugidaref16_known.mono _ _ _)
   | (with_reducible exact abugidaref16_right.mono _ _)
   | (with_reducible exact LeO.refl _)
   | (with_reducible exact LeO.none _)
   | (with_reducible refine LeO.ite ?_ ?_)
   | (with_reducible refine LeO.bind ?_ (fun _=>?_))
   | exact ih0 _ _ _ _ _ _ _ _ _
   | exact ih1 _ _ _ _ _ _ _ _ _ _
   | exact ih2 _ _ _ _ _ _ _ _ _
   | exact ih3 _ _ _ _ _ _ _ _
   | exact ih4 _ _ _ _ _ _ _ _
   | exact abugidaref16_known.mono _ _ _
   | exact abugidaref16_right.mono _ _
   | exact LeO.none _
   | refine LeO.ite ?_ ?_
   | refine LeO.bind ?_ (fun _=>?_)
  ·
   intro y0 y1 y2 y3 y4 y5 y6 y7 y8 y9
   unfold abugidaref16_rule.j1
   repeat' first
   | (with_reducible exact ih0 _ _ _ _ _ _ _ _ _)
   | (with_reducible exact ih1 _ _ _ _ _ _ _ _ _ _)
   | (with_reducible exact ih2 _ _ _ _ _ _ _ _ _)
   | (with_reducible exact ih3 _ _ _ _ _ _ _ _)
   | (with_reducible exact ih4 _ _ _ _ _ _ _ _)
   | (with_reducible exact abugidaref16_known.mono _ _ _)
   | (with_reducible exact abugidaref16_right.mono _ _)
   | (with_reducible exact LeO.refl _)
   | (with_reducible exact LeO.none _)
   | (with_reducible refine LeO.ite ?_ ?_)
   | (with_reducible refine LeO.bind ?_ (fun _=>?_))
   | exact ih0 _ _ _ _ _ _ _ _ _
   | exact ih1 _ _ _ _ _ _ _ _ _ _
   | exact ih2 _ _ _ _ _ _ _ _ _
   | exact ih3 _ _ _ _ _ _ _ _
   | exact ih4 _ _ _ _ _ _ _ _
   | exact abugidaref16_known.mono _ _ _
   | exact abugidaref16_right.mono _ _
   | exact LeO.none _
   | refine LeO.ite ?_ ?_
   | refine LeO.bind ?_ (fun _=>?_)
  ·
   intro y0 y1 y2 y3 y4 y5 y6 y7 y8
   unfold abugidaref16_rule.j2
   repeat' first
   | (with_reducible exact ih0 _ _ _ _ _ _ _ _ _)
   | (with_reducible exact ih1 _ _ _ _ _ _ _ _ _ _)
   | (with_reducible exact ih2 _ _ _ _ _ _ _ _ _)
   | (with_reducible exact ih3 _ _ _ _ _ _ _ _)
   | (with_reducible exact ih4 _ _ _ _ _ _ _ _)
   | (with_reducible exact abugidaref16_known.mono _ _ _)
   | (with_reducible exact abugidaref16_right.mono _ _)
   | (with_reducible exact LeO.refl _)
   | (with_reducible exact LeO.none _)
   | (with_reducible refine LeO.ite ?_ ?_)
   | (with_reducible refine LeO.bind ?_ (fun _=>?_))
   | exact ih0 _ _ _ _ _ _ _ _ _
   | exact ih1 _ _ _ _ _ _ _ _ _ _
   | exact ih2 _ _ _ _ _ _ _ _ _
   | exact ih3 _ _ _ _ _ _ _ _
   | exact ih4 _ _ _ _ _ _ _ _
   | exact abugidaref16_known.mono _ _ _
   | exact abugidaref16_right.mono _ _
   | exact LeO.none _
   | refine LeO.ite ?_ ?_
   | refine LeO.bind ?_ (fun _=>?_)
  ·
   intro y0 y1 y2 y3 y4 y5 y6 y7
   unfold abugidaref16_rule.j3
   repeat' first
   | (with_reducible exact ih0 _ _ _ _ _ _ _ _ _)
   | (with_reducible exact ih1 _ _ _ _ _ _ _ _ _ _)
   | (with_reducible exact ih2 _ _ _ _ _ _ _ _ _)
   | (with_reducible exact ih3 _ _ _ _ _ _ _ _)
   | (with_reducible exact ih4 _ _ _ _ _ _ _ _)
   | (with_reducible exact abugidaref16_known.mono _ _ _)
   | (with_reducible exact abugidaref16_right.mono _ _)
   | (with_reducible exact LeO.refl _)
   | (with_reducible exact LeO.none _)
   | (with_reducible refine LeO.ite ?_ ?_)
   | (with_reducible refine LeO.bind ?_ (fun _=>?_))
   | exact ih0 _ _ _ _ _ _ _ _ _
   | exact ih1 _ _ _ _ _ _ _ _ _ _
   | exact ih2 _ _ _ _ _ _ _ _ _
   | exact ih3 _ _ _ _ _ _ _ _
   | exact ih4 _ _ _ _ _ _ _ _
   | exact abugidaref16_known.mono _ _ _
   | exact abugidaref16_right.mono _ _
   | exact LeO.none _
   | refine LeO.ite ?_ ?_
   | refine LeO.bind ?_ (fun _=>?_)
  ·
   intro y0 y1 y2 y3 y4 y5 y6 y7
   unfold abugidaref16_rule.l0
   repeat' first
   | (with_reducible exact ih0 _ _ _ _ _ _ _ _ _)
   | (with_reducible exact ih1 _ _ _ _ _ _ _ _ _ _)
   | (with_reducible exact ih2 _ _ _ _ _ _ _ _ _)
   | (with_reducible exact ih3 _ _ _ _ _ _ _ _)
   | (with_reducible exact ih4 _ _ _ _ _ _ _ _)
   | (with_reducible exact abugidaref16_known.mono _ _ _)
   | (with_reducible exact abugidaref16_right.mono _ _)
   | (with_reducible exact LeO.refl _)
   | (with_reducible exact LeO.none _)
   | (with_reducible refine LeO.ite ?_ ?_)
   | (with_reducible refine LeO.bind ?_ (fun _=>?_))
   | exact ih0 _ _ _ _ _ _ _ _ _
   | exact ih1 _ _ _ _ _ _ _ _ _ _
   | exact ih2 _ _ _ _ _ _ _ _ _
   | exact ih3 _ _ _ _ _ _ _ _
   | exact ih4 _ _ _ _ _ _ _ _
   | exact abugidaref16_known.mono _ _ _
   | exact abugidaref16_right.mono _ _
   | exact LeO.none _
   | refine LeO.ite ?_ ?_
   | refine LeO.bind ?_ (fun _=>?_)
theorem abugidaref16_rule.mono:∀ a0 a1 a2 a3 a4 a5 a6 a7 k,LeO (abugidaref16_rule.f k a0 a1 a2 a3 a4 a5 a6 a7) (abugidaref16_rule.f (k+1) a0 a1 a2 a3 a4 a5 a6 a7):=by
 intro a0 a1 a2 a3 a4 a5 a6 a7 k
 obtain ⟨ih0,ih1,ih2,ih3,ih4⟩:=abugidaref16_rule.mono_l k
 unfold abugidaref16_rule.f
 repeat' first
   | (with_reducible exact ih0 _ _ _ _ _ _ _ _ _)
   | (with_reducible exact ih1 _ _ _ _ _ _ _ _ _ _)
   | (with_reducible exact ih2 _ _ _ _ _ _ _ _ _)
   | (with_reducible exact ih3 _ _ _ _ _ _ _ _)
   | (with_reducible exact ih4 _ _ _ _ _ _ _ _)
   | (with_reducible exact abugidaref16_known.mono _ _ _)
   | (with_reducible exact abugidaref16_right.mono _ _)
   | (with_reducible exact LeO.refl _)
   | (with_reducible exact LeO.none _)
   | (with_reducible refine LeO.ite ?_ ?_)
   | (with_reducible refine LeO.bind ?_ (fun _=>?_))
   | exact ih0 _ _ _ _ _ _ _ _ _
   | exact ih1 _ _ _ _ _ _ _ _ _ _
   | exact ih2 _ _ _ _ _ _ _ _ _
   | exact ih3 _ _ _ _ _ _ _ _
   | exact ih4 _ _ _ _ _ _ _ _
   | exact abugidaref16_known.mono _ _ _
   | exact abugidaref16_right.mono _ _
   | exact LeO.none _
   | refine LeO.ite ?_ ?_
   | refine LeO.bind ?_ (fun _=>?_)
set_option maxHeartbeats 8000000 in
set_option maxRecDepth 100000 in
theorem abugidaref16_rule.calls (k:Nat) (A0_0:Option Addr) (c0_0:Nat) (l0_0:List (List Int)) (A0_1:Option Addr) (c0_1:Nat) (l0_1:List (List Int)) (A0_2:Option Addr) (c0_2:Nat) (l0_2:List (List Int)) (P0_3_:Nat→Prop) (A0_3:Option Addr) (c0_3:Nat) (l0_3:List Int) (A0_4:Option Addr) (c0_4:Nat) (l0_4:List (S60)) (a1:Int) (a2:Int) (a3:Int) (r:Int) (w:World) (hr0_0:Kd.C (Kd.slice 3 (Kd.int .i64)) w A0_0 l0_0.length l0_0) (hc0_0:l0_0.length≤c0_0) (hr0_1:Kd.C (Kd.slice 3 (Kd.int .i64)) w A0_1 l0_1.length l0_1) (hc0_1:l0_1.length≤c0_1) (hr0_2:Kd.C (Kd.slice 3 (Kd.int .i64)) w A0_2 l0_2.length l0_2) (hc0_2:l0_2.length≤c0_2) (hs0_3:Kd.V (Kd.int .i64) 3 w w.heap.size (fun k_=>P0_3_ k_) (.slice A0_3 l0_3.length c0_3) l0_3) (hr0_4:Kd.C k60 w A0_4 l0_4.length l0_4) (hc0_4:l0_4.length≤c0_4) (h:abugidaref16_rule.f k l0_0 l0_1 l0_2 l0_3 l0_4 a1 a2 a3=some r) :
  Calls Try.prog 35 #[.agg #[.slice A0_0 l0_0.length c0_0,.slice A0_1 l0_1.length c0_1,.slice A0_2 l0_2.length c0_2,.slice A0_3 l0_3.length c0_3,.slice A0_4 l0_4.length c0_4],.int .i64 a1,.int .i64 a2,.int .i64 a3] w fun e w'=>e=.returned (.int .i64 r)∧Below w.heap.size w w':=by
 have hu49:=Try.underlying49
 have hu60:=Try.underlying60
 have HR0_0:=Aside0.mk hr0_0
 have HC0_0:=Aside0.mk hc0_0
 clear hr0_0 hc0_0
 have HR0_1:=Aside0.mk hr0_1
 have HC0_1:=Aside0.mk hc0_1
 clear hr0_1 hc0_1
 have HR0_2:=Aside0.mk hr0_2
 have HC0_2:=Aside0.mk hc0_2
 clear hr0_2 hc0_2
 have jh_:=Aside0.mk (show Kd.V (Kd.int .i64) 3 w w.heap.size (fun k_=>(P0_3_ k_∨w.heap.size≤k_)) (.slice A0_3 l0_3.length c0_3) l0_3 from Kd.V_mono hs0_3 (fun k_ hk=>.inl hk))
 have HR0_4:=Aside0.mk hr0_4
 have HC0_4:=Aside0.mk hc0_4
 clear hr0_4 hc0_4
 have HB:=Aside0.mk (Below.refl w.heap.size w)
 have H:(if (l0_1.length:Int)<1 then (abugidaref16_rule.j0 k a1 a2 a3 true l0_0 l0_1 l0_2 l0_3 l0_4) else (if (l0_1.length:Int) > 4 then (abugidaref16_rule.j0 k a1 a2 a3 true l0_0 l0_1 l0_2 l0_3 l0_4) else (if (l0_0.length:Int) > 3 then (abugidaref16_rule.j0 k a1 a2 a3 true l0_0 l0_1 l0_2 l0_3 l0_4) else (if (l0_2.length:Int) > 3 then (abugidaref16_rule.j0 k a1 a2 a3 true l0_0 l0_1 l0_2 l0_3 l0_4) else (if (l0_3.length:Int) > 4 then (abugidaref16_rule.j0 k a1 a2 a3 true l0_0 l0_1 l0_2 l0_3 l0_4) else (abugidaref16_rule.j0 k a1 a2 a3 (decide ((l0_4.length:Int) > 3)) l0_0 l0_1 l0_2 l0_3 l0_4))))))=some r:=h
 clear h
 have HC5:=Aside0.mk H
 clear H
 go_enter Try.func35,Try.ntmps35
 go_upto_region 1 with (first|((with_reducible refine gate_dst (N:=4) rfl ?_);(try (refine gate_guard (by rfl) ?_;dsimp only));refine box_event ?hg (N:=4) ?hd (cs:=#[.slice A0_0 l0_0.length c0_0,.slice A0_1 l0_1.length c0_1,.slice A0_2 l0_2.length c0_2,.slice A0_3 l0_3.length c0_3,.slice A0_4 l0_4.length c0_4]) (t:=49) ?hr ?_;(case hd=>rfl);(case hg=>rfl);(case hr=>first|(go_simp;done)|(go_simp;rfl));intro j1_ hg w6 hbox hb;have n0_:=Aside0.mk (Kd.V_below (Kd.V_elderB (by (with_reducible repeat (first|apply Kd.V_alloc|apply Kd.V_drewN|apply Kd.V_drew));exact jh_.out) j1_ (Nat.le_of_eq hg.symm)) hb);have n1_:=Aside0.mk (below_step za40 hb);have n2_:=Aside0.mk (hbox);have n3_:=Aside0.mk ((za31:w.heap.size≤j1_));have n4_:=Aside0.mk ((za31:w.heap.size≤j1_));clear jh_;clear HB;have jh_:=n0_;have HB:=n1_;have j0_:=n2_;have jp_:=n3_;have j3_:=n4_;clear n0_ n1_ n2_ n3_ n4_;clear hb hbox hg))
 (try simp only [Act.put,List.setIfInBounds_toArray,List.set_cons_zero,List.set_cons_succ])
 go_cut [9] (fun v9 wc=>∃ (kq:Nat) (x9_4:Bool),v9=.bool x9_4∧Aside0 (abugidaref16_rule.j0 kq a1 a2 a3 x9_4 l0_0 l0_1 l0_2 l0_3 l0_4=some r)∧Aside0 (kq≤k)∧Aside0 (Kd.V (Kd.int .i64) 3 wc w.heap.size (fun k_=>(P0_3_ k_∨w.heap.size≤k_)∧k_≠j1_) (.slice A0_3 l0_3.length c0_3) l0_3)∧Aside0 (wc.heap[j1_]?=some (.cells #[(.slice A0_0 l0_0.length c0_0),(.slice A0_1 l0_1.length c0_1),(.slice A0_2 l0_2.length c0_2),(.slice A0_3 l0_3.length c0_3),(.slice A0_4 l0_4.length c0_4)] 49 (0,0)))∧Aside0 (Below w.heap.size w wc))
 case first =>
  have H:=HC5.out
  clear HC5
  by_cases c7:(l0_1.length:Int)<1
  ·
   rw [if_pos c7] at H
   have c7b0:decide ((l0_1.length:Int)<1)=true:=decide_eq_true c7
   have c7b1:decide (l0_1.length<1)=true:=decide_eq_true (by omega)
   clear c7
   (first|rw [c7b0]|(simp only [i64_w,i32_w];rw [c7b0])|skip)
   have H':=Aside0.mk H
   clear H
   have hcz8_0:w6.cell? ⟨j1_,0,none⟩=some (.slice A0_0 l0_0.length c0_0):=(blk_cell j0_.out 0).trans rfl
   have hcz8_1:w6.cell? ⟨j1_,1,none⟩=some (.slice A0_1 l0_1.length c0_1):=(blk_cell j0_.out 1).trans rfl
   have hcz8_2:w6.cell? ⟨j1_,2,none⟩=some (.slice A0_2 l0_2.length c0_2):=(blk_cell j0_.out 2).trans rfl
   have hcz8_3:w6.cell? ⟨j1_,3,none⟩=some (.slice A0_3 l0_3.length c0_3):=(blk_cell j0_.out 3).trans rfl
   have hcz8_4:w6.cell? ⟨j1_,4,none⟩=some (.slice A0_4 l0_4.length c0_4):=(blk_cell j0_.out 4).trans rfl
   have hfz8_0:=blk_frozen j0_.out 0
   have hfz8_1:=blk_frozen j0_.out 1
   have hfz8_2:=blk_frozen j0_.out 2
   have hfz8_3:=blk_frozen j0_.out 3
   have hfz8_4:=blk_frozen j0_.out 4
   go_wp2
   go_meet
   case rel=>exact ⟨_,(true),za76,H',⟨by first|omega|exact Nat.le_refl _⟩,⟨by (with_reducible repeat (first|apply Kd.V_alloc|apply Kd.V_drewN|apply Kd.V_drew));exact jh_.out⟩,⟨by (with_reducible repeat (first|refine blk_drewN ?_ _|refine blk_drew ?_|refine blk_alloc ?_ _));exact j0_.out⟩,⟨by repeat (first|(with_reducible first|exact HB.out|apply below_alloc|apply pw_below_drewN|apply below_drew1|refine below_set ?_ j3_.out)|exact HB.out)⟩⟩
  ·
   rw [if_neg c7] at H
   have c7b0:decide ((l0_1.length:Int)<1)=false:=decide_eq_false c7
   have c7b1:decide (l0_1.length<1)=false:=decide_eq_false (by omega)
   clear c7
   (first|rw [c7b0]|(simp only [i64_w,i32_w];rw [c7b0])|skip)
   by_cases c9:(l0_1.length:Int) > 4
   ·
    rw [if_pos c9] at H
    have c9b0:decide (4<(l0_1.length:Int))=true:=decide_eq_true c9
    have c9b1:decide (4<l0_1.length)=true:=decide_eq_true (by omega)
    clear c9
    have H':=Aside0.mk H
    clear H
    have hcz10_0:w6.cell? ⟨j1_,0,none⟩=some (.slice A0_0 l0_0.length c0_0):=(blk_cell j0_.out 0).trans rfl
    have hcz10_1:w6.cell? ⟨j1_,1,none⟩=some (.slice A0_1 l0_1.length c0_1):=(blk_cell j0_.out 1).trans rfl
    have hcz10_2:w6.cell? ⟨j1_,2,none⟩=some (.slice A0_2 l0_2.length c0_2):=(blk_cell j0_.out 2).trans rfl
    have hcz10_3:w6.cell? ⟨j1_,3,none⟩=some (.slice A0_3 l0_3.length c0_3):=(blk_cell j0_.out 3).trans rfl
    have hcz10_4:w6.cell? ⟨j1_,4,none⟩=some (.slice A0_4 l0_4.length c0_4):=(blk_cell j0_.out 4).trans rfl
    have hfz10_0:=blk_frozen j0_.out 0
    have hfz10_1:=blk_frozen j0_.out 1
    have hfz10_2:=blk_frozen j0_.out 2
    have hfz10_3:=blk_frozen j0_.out 3
    have hfz10_4:=blk_frozen j0_.out 4
    go_wp2
    go_meet
    case rel=>exact ⟨_,(true),za76,H',⟨by first|omega|exact Nat.le_refl _⟩,⟨by (with_reducible repeat (first|apply Kd.V_alloc|apply Kd.V_drewN|apply Kd.V_drew));exact jh_.out⟩,⟨by (with_reducible repeat (first|refine blk_drewN ?_ _|refine blk_drew ?_|refine blk_alloc ?_ _));exact j0_.out⟩,⟨by repeat (first|(with_reducible first|exact HB.out|apply below_alloc|apply pw_below_drewN|apply below_drew1|refine below_set ?_ j3_.out)|exact HB.out)⟩⟩
   ·
    rw [if_neg c9] at H
    have c9b0:decide (4<(l0_1.length:Int))=false:=decide_eq_false c9
    have c9b1:decide (4<l0_1.length)=false:=decide_eq_false (by omega)
    clear c9
    by_cases c11:(l0_0.length:Int) > 3
    ·
     rw [if_pos c11] at H
     have c11b0:decide (3<(l0_0.length:Int))=true:=decide_eq_true c11
     have c11b1:decide (3<l0_0.length)=true:=decide_eq_true (by omega)
     clear c11
     have H':=Aside0.mk H
     clear H
     have hcz12_0:w6.cell? ⟨j1_,0,none⟩=some (.slice A0_0 l0_0.length c0_0):=(blk_cell j0_.out 0).trans rfl
     have hcz12_1:w6.cell? ⟨j1_,1,none⟩=some (.slice A0_1 l0_1.length c0_1):=(blk_cell j0_.out 1).trans rfl
     have hcz12_2:w6.cell? ⟨j1_,2,none⟩=some (.slice A0_2 l0_2.length c0_2):=(blk_cell j0_.out 2).trans rfl
     have hcz12_3:w6.cell? ⟨j1_,3,none⟩=some (.slice A0_3 l0_3.length c0_3):=(blk_cell j0_.out 3).trans rfl
     have hcz12_4:w6.cell? ⟨j1_,4,none⟩=some (.slice A0_4 l0_4.length c0_4):=(blk_cell j0_.out 4).trans rfl
     have hfz12_0:=blk_frozen j0_.out 0
     have hfz12_1:=blk_frozen j0_.out 1
     have hfz12_2:=blk_frozen j0_.out 2
     have hfz12_3:=blk_frozen j0_.out 3
     have hfz12_4:=blk_frozen j0_.out 4
     go_wp2
     go_meet
     case rel=>exact ⟨_,(true),za76,H',⟨by first|omega|exact Nat.le_refl _⟩,⟨by (with_reducible repeat (first|apply Kd.V_alloc|apply Kd.V_drewN|apply Kd.V_drew));exact jh_.out⟩,⟨by (with_reducible repeat (first|refine blk_drewN ?_ _|refine blk_drew ?_|refine blk_alloc ?_ _));exact j0_.out⟩,⟨by repeat (first|(with_reducible first|exact HB.out|apply below_alloc|apply pw_below_drewN|apply below_drew1|refine below_set ?_ j3_.out)|exact HB.out)⟩⟩
    ·
     rw [if_neg c11] at H
     have c11b0:decide (3<(l0_0.length:Int))=false:=decide_eq_false c11
     have c11b1:decide (3<l0_0.length)=false:=decide_eq_false (by omega)
     clear c11
     by_cases c13:(l0_2.length:Int) > 3
     ·
      rw [if_pos c13] at H
      have c13b0:decide (3<(l0_2.length:Int))=true:=decide_eq_true c13
      have c13b1:decide (3<l0_2.length)=true:=decide_eq_true (by omega)
      clear c13
      have H':=Aside0.mk H
      clear H
      have hcz14_0:w6.cell? ⟨j1_,0,none⟩=some (.slice A0_0 l0_0.length c0_0):=(blk_cell j0_.out 0).trans rfl
      have hcz14_1:w6.cell? ⟨j1_,1,none⟩=some (.slice A0_1 l0_1.length c0_1):=(blk_cell j0_.out 1).trans rfl
      have hcz14_2:w6.cell? ⟨j1_,2,none⟩=some (.slice A0_2 l0_2.length c0_2):=(blk_cell j0_.out 2).trans rfl
      have hcz14_3:w6.cell? ⟨j1_,3,none⟩=some (.slice A0_3 l0_3.length c0_3):=(blk_cell j0_.out 3).trans rfl
      have hcz14_4:w6.cell? ⟨j1_,4,none⟩=some (.slice A0_4 l0_4.length c0_4):=(blk_cell j0_.out 4).trans rfl
      have hfz14_0:=blk_frozen j0_.out 0
      have hfz14_1:=blk_frozen j0_.out 1
      have hfz14_2:=blk_frozen j0_.out 2
      have hfz14_3:=blk_frozen j0_.out 3
      have hfz14_4:=blk_frozen j0_.out 4
      go_wp2
      go_meet
      case rel=>exact ⟨_,(true),za76,H',⟨by first|omega|exact Nat.le_refl _⟩,⟨by (with_reducible repeat (first|apply Kd.V_alloc|apply Kd.V_drewN|apply Kd.V_drew));exact jh_.out⟩,⟨by (with_reducible repeat (first|refine blk_drewN ?_ _|refine blk_drew ?_|refine blk_alloc ?_ _));exact j0_.out⟩,⟨by repeat (first|(with_reducible first|exact HB.out|apply below_alloc|apply pw_below_drewN|apply below_drew1|refine below_set ?_ j3_.out)|exact HB.out)⟩⟩
     ·
      rw [if_neg c13] at H
      have c13b0:decide (3<(l0_2.length:Int))=false:=decide_eq_false c13
      have c13b1:decide (3<l0_2.length)=false:=decide_eq_false (by omega)
      clear c13
      by_cases c15:(l0_3.length:Int) > 4
      ·
       rw [if_pos c15] at H
       have c15b0:decide (4<(l0_3.length:Int))=true:=decide_eq_true c15
       have c15b1:decide (4<l0_3.length)=true:=decide_eq_true (by omega)
       clear c15
       have H':=Aside0.mk H
       clear H
       have hcz16_0:w6.cell? ⟨j1_,0,none⟩=some (.slice A0_0 l0_0.length c0_0):=(blk_cell j0_.out 0).trans rfl
       have hcz16_1:w6.cell? ⟨j1_,1,none⟩=some (.slice A0_1 l0_1.length c0_1):=(blk_cell j0_.out 1).trans rfl
       have hcz16_2:w6.cell? ⟨j1_,2,none⟩=some (.slice A0_2 l0_2.length c0_2):=(blk_cell j0_.out 2).trans rfl
       have hcz16_3:w6.cell? ⟨j1_,3,none⟩=some (.slice A0_3 l0_3.length c0_3):=(blk_cell j0_.out 3).trans rfl
       have hcz16_4:w6.cell? ⟨j1_,4,none⟩=some (.slice A0_4 l0_4.length c0_4):=(blk_cell j0_.out 4).trans rfl
       have hfz16_0:=blk_frozen j0_.out 0
       have hfz16_1:=blk_frozen j0_.out 1
       have hfz16_2:=blk_frozen j0_.out 2
       have hfz16_3:=blk_frozen j0_.out 3
       have hfz16_4:=blk_frozen j0_.out 4
       go_wp2
       go_meet
       case rel=>exact ⟨_,(true),za76,H',⟨by first|omega|exact Nat.le_refl _⟩,⟨by (with_reducible repeat (first|apply Kd.V_alloc|apply Kd.V_drewN|apply Kd.V_drew));exact jh_.out⟩,⟨by (with_reducible repeat (first|refine blk_drewN ?_ _|refine blk_drew ?_|refine blk_alloc ?_ _));exact j0_.out⟩,⟨by repeat (first|(with_reducible first|exact HB.out|apply below_alloc|apply pw_below_drewN|apply below_drew1|refine below_set ?_ j3_.out)|exact HB.out)⟩⟩
      ·
       rw [if_neg c15] at H
       have c15b0:decide (4<(l0_3.length:Int))=false:=decide_eq_false c15
       have c15b1:decide (4<l0_3.length)=false:=decide_eq_false (by omega)
       clear c15
       have H':=Aside0.mk H
       clear H
       have hcz17_0:w6.cell? ⟨j1_,0,none⟩=some (.slice A0_0 l0_0.length c0_0):=(blk_cell j0_.out 0).trans rfl
       have hcz17_1:w6.cell? ⟨j1_,1,none⟩=some (.slice A0_1 l0_1.length c0_1):=(blk_cell j0_.out 1).trans rfl
       have hcz17_2:w6.cell? ⟨j1_,2,none⟩=some (.slice A0_2 l0_2.length c0_2):=(blk_cell j0_.out 2).trans rfl
       have hcz17_3:w6.cell? ⟨j1_,3,none⟩=some (.slice A0_3 l0_3.length c0_3):=(blk_cell j0_.out 3).trans rfl
       have hcz17_4:w6.cell? ⟨j1_,4,none⟩=some (.slice A0_4 l0_4.length c0_4):=(blk_cell j0_.out 4).trans rfl
       have hfz17_0:=blk_frozen j0_.out 0
       have hfz17_1:=blk_frozen j0_.out 1
       have hfz17_2:=blk_frozen j0_.out 2
       have hfz17_3:=blk_frozen j0_.out 3
       have hfz17_4:=blk_frozen j0_.out 4
       go_wp2
       go_meet
       case rel=>exact ⟨_,(decide ((l0_4.length:Int) > 3)),za76,H',⟨by first|omega|exact Nat.le_refl _⟩,⟨by (with_reducible repeat (first|apply Kd.V_alloc|apply Kd.V_drewN|apply Kd.V_drew));exact jh_.out⟩,⟨by (with_reducible repeat (first|refine blk_drewN ?_ _|refine blk_drew ?_|refine blk_alloc ?_ _));exact j0_.out⟩,⟨by repeat (first|(with_reducible first|exact HB.out|apply below_alloc|apply pw_below_drewN|apply below_drew1|refine below_set ?_ j3_.out)|exact HB.out)⟩⟩
 case rest =>
  clear HC5
  try clear c1
  try clear p2
  try clear c3
  try clear c7
  try clear c7b0
  try clear c7b1
  try clear c9
  try clear c9b0
  try clear c9b1
  try clear c11
  try clear c11b0
  try clear c11b1
  try clear c13
  try clear c13b0
  try clear c13b1
  try clear c15
  try clear c15b0
  try clear c15b1
  try clear hcz10_0
  try clear hcz10_1
  try clear hcz10_2
  try clear hcz10_3
  try clear hcz10_4
  try clear hcz12_0
  try clear hcz12_1
  try clear hcz12_2
  try clear hcz12_3
  try clear hcz12_4
  try clear hcz14_0
  try clear hcz14_1
  try clear hcz14_2
  try clear hcz14_3
  try clear hcz14_4
  try clear hcz16_0
  try clear hcz16_1
  try clear hcz16_2
  try clear hcz16_3
  try clear hcz16_4
  try clear hcz17_0
  try clear hcz17_1
  try clear hcz17_2
  try clear hcz17_3
  try clear hcz17_4
  try clear hcz8_0
  try clear hcz8_1
  try clear hcz8_2
  try clear hcz8_3
  try clear hcz8_4
  try clear hfz10_0
  try clear hfz10_1
  try clear hfz10_2
  try clear hfz10_3
  try clear hfz10_4
  try clear hfz12_0
  try clear hfz12_1
  try clear hfz12_2
  try clear hfz12_3
  try clear hfz12_4
  try clear hfz14_0
  try clear hfz14_1
  try clear hfz14_2
  try clear hfz14_3
  try clear hfz14_4
  try clear hfz16_0
  try clear hfz16_1
  try clear hfz16_2
  try clear hfz16_3
  try clear hfz16_4
  try clear hfz17_0
  try clear hfz17_1
  try clear hfz17_2
  try clear hfz17_3
  try clear hfz17_4
  try clear hfz8_0
  try clear hfz8_1
  try clear hfz8_2
  try clear hfz8_3
  try clear hfz8_4
  obtain ⟨kq,x9_4,rfl,HA,HJ4,j2_,j0_,HB⟩:=hcut
  cases kq with
  | zero=>exact absurd HA.out (by simp [abugidaref16_rule.j0])
  | succ kj4 =>
   have H:=HA.out
   clear HA
   simp only [abugidaref16_rule.j0] at H
   have HC18:=Aside0.mk H
   clear H
   go_upto_region 2 with (fail)
   go_cut [10] (fun v10 wc=>∃ (kq:Nat) (jj_:Bool),v10=.bool jj_∧Aside0 (abugidaref16_rule.j1 kq a1 a2 a3 x9_4 jj_ l0_0 l0_1 l0_2 l0_3 l0_4=some r)∧Aside0 (kq≤kj4)∧Aside0 (Kd.V (Kd.int .i64) 3 wc w.heap.size (fun k_=>(P0_3_ k_∨w.heap.size≤k_)∧k_≠j1_) (.slice A0_3 l0_3.length c0_3) l0_3)∧Aside0 (wc.heap[j1_]?=some (.cells #[(.slice A0_0 l0_0.length c0_0),(.slice A0_1 l0_1.length c0_1),(.slice A0_2 l0_2.length c0_2),(.slice A0_3 l0_3.length c0_3),(.slice A0_4 l0_4.length c0_4)] 49 (0,0)))∧Aside0 (Below w.heap.size w wc))
   case first =>
    have H:=HC18.out
    clear HC18
    replace H:=Option.bind_eq_some_iff.mp H
    obtain ⟨t514,A190,H⟩:=H
    replace H:(if t514=true then ((abugidaref16_right.f kj4 l0_0).bind fun t515=>(if t515=true then ((abugidaref16_right.f kj4 l0_2).bind fun t516=>(abugidaref16_rule.j1 kj4 a1 a2 a3 x9_4 t516 l0_0 l0_1 l0_2 l0_3 l0_4)) else (abugidaref16_rule.j1 kj4 a1 a2 a3 x9_4 false l0_0 l0_1 l0_2 l0_3 l0_4))) else (abugidaref16_rule.j1 kj4 a1 a2 a3 x9_4 false l0_0 l0_1 l0_2 l0_3 l0_4))=some r:=H
    have A19:=Aside0.mk A190
    clear A190
    by_cases c20:t514=true
    ·
     subst c20
     have H1:((abugidaref16_right.f kj4 l0_0).bind fun t515=>(if t515=true then ((abugidaref16_right.f kj4 l0_2).bind fun t516=>(abugidaref16_rule.j1 kj4 a1 a2 a3 x9_4 t516 l0_0 l0_1 l0_2 l0_3 l0_4)) else (abugidaref16_rule.j1 kj4 a1 a2 a3 x9_4 false l0_0 l0_1 l0_2 l0_3 l0_4)))=some r:=by rw [if_pos rfl] at H;exact H
     clear H
     have H:=H1
     clear H1
     replace H:=Option.bind_eq_some_iff.mp H
     obtain ⟨t515,A210,H⟩:=H
     replace H:(if t515=true then ((abugidaref16_right.f kj4 l0_2).bind fun t516=>(abugidaref16_rule.j1 kj4 a1 a2 a3 x9_4 t516 l0_0 l0_1 l0_2 l0_3 l0_4)) else (abugidaref16_rule.j1 kj4 a1 a2 a3 x9_4 false l0_0 l0_1 l0_2 l0_3 l0_4))=some r:=H
     have A21:=Aside0.mk A210
     clear A210
     by_cases c22:t515=true
     ·
      subst c22
      have H1:((abugidaref16_right.f kj4 l0_2).bind fun t516=>(abugidaref16_rule.j1 kj4 a1 a2 a3 x9_4 t516 l0_0 l0_1 l0_2 l0_3 l0_4))=some r:=by rw [if_pos rfl] at H;exact H
      clear H
      have H:=H1
      clear H1
      replace H:=Option.bind_eq_some_iff.mp H
      obtain ⟨t516,A230,H⟩:=H
      replace H:(abugidaref16_rule.j1 kj4 a1 a2 a3 x9_4 t516 l0_0 l0_1 l0_2 l0_3 l0_4)=some r:=H
      have A23:=Aside0.mk A230
      clear A230
      have H':=Aside0.mk H
      clear H
      have hcz24_0:wc.cell? ⟨j1_,0,none⟩=some (.slice A0_0 l0_0.length c0_0):=(blk_cell j0_.out 0).trans rfl
      have hcz24_1:wc.cell? ⟨j1_,1,none⟩=some (.slice A0_1 l0_1.length c0_1):=(blk_cell j0_.out 1).trans rfl
      have hcz24_2:wc.cell? ⟨j1_,2,none⟩=some (.slice A0_2 l0_2.length c0_2):=(blk_cell j0_.out 2).trans rfl
      have hcz24_3:wc.cell? ⟨j1_,3,none⟩=some (.slice A0_3 l0_3.length c0_3):=(blk_cell j0_.out 3).trans rfl
      have hcz24_4:wc.cell? ⟨j1_,4,none⟩=some (.slice A0_4 l0_4.length c0_4):=(blk_cell j0_.out 4).trans rfl
      have hfz24_0:=blk_frozen j0_.out 0
      have hfz24_1:=blk_frozen j0_.out 1
      have hfz24_2:=blk_frozen j0_.out 2
      have hfz24_3:=blk_frozen j0_.out 3
      have hfz24_4:=blk_frozen j0_.out 4
      go_wp2_with (first|((with_reducible refine gate_callee (f:=52) rfl ?_);refine goesL_ (some 50) rfl rfl Try.func52 (by kernel_rfl) rfl #[.slice A0_1 l0_1.length c0_1] rfl za39 ?_;(with_reducible refine (abugidaref16_right.calls kj4 _ _ l0_1 true _ ?side1 ?side2 A19.out).mono ?_);(case side1=>repeat (first|exact (Kd.C_below HR0_1.out HB.out)|(with_reducible refine Kd.C_alloc ?_ _)|(with_reducible refine Kd.C_drewN ?_ _)|(with_reducible refine Kd.C_drew ?_)));(case side2=>exact HC0_1.out);rintro e w' ⟨rfl,⟨nd,rfl⟩⟩;refine ⟨_,rfl,?_⟩)|(go_at_call 52;(with_reducible refine (abugidaref16_right.calls kj4 _ _ l0_0 true _ ?side1 ?side2 A21.out).mono ?_);(case side1=>repeat (first|exact (Kd.C_below HR0_0.out za34)|(with_reducible refine Kd.C_alloc ?_ _)|(with_reducible refine Kd.C_drewN ?_ _)|(with_reducible refine Kd.C_drew ?_)));(case side2=>exact HC0_0.out);rintro e w' ⟨rfl,⟨nd,rfl⟩⟩)|(go_at_call 52;(with_reducible refine (abugidaref16_right.calls kj4 _ _ l0_2 t516 _ ?side1 ?side2 A23.out).mono ?_);(case side1=>repeat (first|exact (Kd.C_below HR0_2.out za34)|(with_reducible refine Kd.C_alloc ?_ _)|(with_reducible refine Kd.C_drewN ?_ _)|(with_reducible refine Kd.C_drew ?_)));(case side2=>exact HC0_2.out);rintro e w' ⟨rfl,⟨nd,rfl⟩⟩))
      go_meet
      case rel=>exact ⟨_,(t516),za76,H',⟨by have:=HJ4.out;first|omega|exact Nat.le_refl _⟩,⟨by (with_reducible repeat (first|apply Kd.V_alloc|apply Kd.V_drewN|apply Kd.V_drew));exact j2_.out⟩,⟨by (with_reducible repeat (first|refine blk_drewN ?_ _|refine blk_drew ?_|refine blk_alloc ?_ _));exact j0_.out⟩,⟨by repeat (first|(with_reducible first|exact HB.out|apply below_alloc|apply pw_below_drewN|apply below_drew1|refine below_set ?_ j3_.out)|exact HB.out)⟩⟩
     ·
      replace c22:=Bool.eq_false_iff.mpr c22
      subst c22
      have H1:(abugidaref16_rule.j1 kj4 a1 a2 a3 x9_4 false l0_0 l0_1 l0_2 l0_3 l0_4)=some r:=by rw [if_neg (show ¬ (false=true) by decide)] at H;exact H
      clear H
      have H:=H1
      clear H1
      have H':=Aside0.mk H
      clear H
      have hcz25_0:wc.cell? ⟨j1_,0,none⟩=some (.slice A0_0 l0_0.length c0_0):=(blk_cell j0_.out 0).trans rfl
      have hcz25_1:wc.cell? ⟨j1_,1,none⟩=some (.slice A0_1 l0_1.length c0_1):=(blk_cell j0_.out 1).trans rfl
      have hcz25_2:wc.cell? ⟨j1_,2,none⟩=some (.slice A0_2 l0_2.length c0_2):=(blk_cell j0_.out 2).trans rfl
      have hcz25_3:wc.cell? ⟨j1_,3,none⟩=some (.slice A0_3 l0_3.length c0_3):=(blk_cell j0_.out 3).trans rfl
      have hcz25_4:wc.cell? ⟨j1_,4,none⟩=some (.slice A0_4 l0_4.length c0_4):=(blk_cell j0_.out 4).trans rfl
      have hfz25_0:=blk_frozen j0_.out 0
      have hfz25_1:=blk_frozen j0_.out 1
      have hfz25_2:=blk_frozen j0_.out 2
      have hfz25_3:=blk_frozen j0_.out 3
      have hfz25_4:=blk_frozen j0_.out 4
      go_wp2_with (first|((with_reducible refine gate_callee (f:=52) rfl ?_);refine goesL_ (some 50) rfl rfl Try.func52 (by kernel_rfl) rfl #[.slice A0_1 l0_1.length c0_1] rfl za39 ?_;(with_reducible refine (abugidaref16_right.calls kj4 _ _ l0_1 true _ ?side1 ?side2 A19.out).mono ?_);(case side1=>repeat (first|exact (Kd.C_below HR0_1.out HB.out)|(with_reducible refine Kd.C_alloc ?_ _)|(with_reducible refine Kd.C_drewN ?_ _)|(with_reducible refine Kd.C_drew ?_)));(case side2=>exact HC0_1.out);rintro e w' ⟨rfl,⟨nd,rfl⟩⟩;refine ⟨_,rfl,?_⟩)|(go_at_call 52;(with_reducible refine (abugidaref16_right.calls kj4 _ _ l0_0 false _ ?side1 ?side2 A21.out).mono ?_);(case side1=>repeat (first|exact (Kd.C_below HR0_0.out za34)|(with_reducible refine Kd.C_alloc ?_ _)|(with_reducible refine Kd.C_drewN ?_ _)|(with_reducible refine Kd.C_drew ?_)));(case side2=>exact HC0_0.out);rintro e w' ⟨rfl,⟨nd,rfl⟩⟩))
      go_meet
      case rel=>exact ⟨_,(false),za76,H',⟨by have:=HJ4.out;first|omega|exact Nat.le_refl _⟩,⟨by (with_reducible repeat (first|apply Kd.V_alloc|apply Kd.V_drewN|apply Kd.V_drew));exact j2_.out⟩,⟨by (with_reducible repeat (first|refine blk_drewN ?_ _|refine blk_drew ?_|refine blk_alloc ?_ _));exact j0_.out⟩,⟨by repeat (first|(with_reducible first|exact HB.out|apply below_alloc|apply pw_below_drewN|apply below_drew1|refine below_set ?_ j3_.out)|exact HB.out)⟩⟩
    ·
     replace c20:=Bool.eq_false_iff.mpr c20
     subst c20
     have H1:(abugidaref16_rule.j1 kj4 a1 a2 a3 x9_4 false l0_0 l0_1 l0_2 l0_3 l0_4)=some r:=by rw [if_neg (show ¬ (false=true) by decide)] at H;exact H
     clear H
     have H:=H1
     clear H1
     have H':=Aside0.mk H
     clear H
     have hcz26_0:wc.cell? ⟨j1_,0,none⟩=some (.slice A0_0 l0_0.length c0_0):=(blk_cell j0_.out 0).trans rfl
     have hcz26_1:wc.cell? ⟨j1_,1,none⟩=some (.slice A0_1 l0_1.length c0_1):=(blk_cell j0_.out 1).trans rfl
     have hcz26_2:wc.cell? ⟨j1_,2,none⟩=some (.slice A0_2 l0_2.length c0_2):=(blk_cell j0_.out 2).trans rfl
     have hcz26_3:wc.cell? ⟨j1_,3,none⟩=some (.slice A0_3 l0_3.length c0_3):=(blk_cell j0_.out 3).trans rfl
     have hcz26_4:wc.cell? ⟨j1_,4,none⟩=some (.slice A0_4 l0_4.length c0_4):=(blk_cell j0_.out 4).trans rfl
     have hfz26_0:=blk_frozen j0_.out 0
     have hfz26_1:=blk_frozen j0_.out 1
     have hfz26_2:=blk_frozen j0_.out 2
     have hfz26_3:=blk_frozen j0_.out 3
     have hfz26_4:=blk_frozen j0_.out 4
     go_wp2_with (first|((with_reducible refine gate_callee (f:=52) rfl ?_);refine goesL_ (some 50) rfl rfl Try.func52 (by kernel_rfl) rfl #[.slice A0_1 l0_1.length c0_1] rfl za39 ?_;(with_reducible refine (abugidaref16_right.calls kj4 _ _ l0_1 false _ ?side1 ?side2 A19.out).mono ?_);(case side1=>repeat (first|exact (Kd.C_below HR0_1.out HB.out)|(with_reducible refine Kd.C_alloc ?_ _)|(with_reducible refine Kd.C_drewN ?_ _)|(with_reducible refine Kd.C_drew ?_)));(case side2=>exact HC0_1.out);rintro e w' ⟨rfl,⟨nd,rfl⟩⟩;refine ⟨_,rfl,?_⟩))
     go_meet
     case rel=>exact ⟨_,(false),za76,H',⟨by have:=HJ4.out;first|omega|exact Nat.le_refl _⟩,⟨by (with_reducible repeat (first|apply Kd.V_alloc|apply Kd.V_drewN|apply Kd.V_drew));exact j2_.out⟩,⟨by (with_reducible repeat (first|refine blk_drewN ?_ _|refine blk_drew ?_|refine blk_alloc ?_ _));exact j0_.out⟩,⟨by repeat (first|(with_reducible first|exact HB.out|apply below_alloc|apply pw_below_drewN|apply below_drew1|refine below_set ?_ j3_.out)|exact HB.out)⟩⟩
   case rest =>
    clear HC18
    try clear c1
    try clear c2
    try clear p2
    try clear c3
    try clear c5
    try clear c7
    try clear c7b0
    try clear c7b1
    try clear c9
    try clear c9b0
    try clear c9b1
    try clear c11
    try clear c11b0
    try clear c11b1
    try clear c13
    try clear c13b0
    try clear c13b1
    try clear c15
    try clear c15b0
    try clear c15b1
    try clear c20
    try clear c22
    try clear hcz10_0
    try clear hcz10_1
    try clear hcz10_2
    try clear hcz10_3
    try clear hcz10_4
    try clear hcz12_0
    try clear hcz12_1
    try clear hcz12_2
    try clear hcz12_3
    try clear hcz12_4
    try clear hcz14_0
    try clear hcz14_1
    try clear hcz14_2
    try clear hcz14_3
    try clear hcz14_4
    try clear hcz16_0
    try clear hcz16_1
    try clear hcz16_2
    try clear hcz16_3
    try clear hcz16_4
    try clear hcz17_0
    try clear hcz17_1
    try clear hcz17_2
    try clear hcz17_3
    try clear hcz17_4
    try clear hcz24_0
    try clear hcz24_1
    try clear hcz24_2
    try clear hcz24_3
    try clear hcz24_4
    try clear hcz25_0
    try clear hcz25_1
    try clear hcz25_2
    try clear hcz25_3
    try clear hcz25_4
    try clear hcz26_0
    try clear hcz26_1
    try clear hcz26_2
    try clear hcz26_3
    try clear hcz26_4
    try clear hcz8_0
    try clear hcz8_1
    try clear hcz8_2
    try clear hcz8_3
    try clear hcz8_4
    try clear hfz10_0
    try clear hfz10_1
    try clear hfz10_2
    try clear hfz10_3
    try clear hfz10_4
    try clear hfz12_0
    try clear hfz12_1
    try clear hfz12_2
    try clear hfz12_3
    try clear hfz12_4
    try clear hfz14_0
    try clear hfz14_1
    try clear hfz14_2
    try clear hfz14_3
    try clear hfz14_4
    try clear hfz16_0
    try clear hfz16_1
    try clear hfz16_2
    try clear hfz16_3
    try clear hfz16_4
    try clear hfz17_0
    try clear hfz17_1
    try clear hfz17_2
    try clear hfz17_3
    try clear hfz17_4
    try clear hfz24_0
    try clear hfz24_1
    try clear hfz24_2
    try clear hfz24_3
    try clear hfz24_4
    try clear hfz25_0
    try clear hfz25_1
    try clear hfz25_2
    try clear hfz25_3
    try clear hfz25_4
    try clear hfz26_0
    try clear hfz26_1
    try clear hfz26_2
    try clear hfz26_3
    try clear hfz26_4
    try clear hfz8_0
    try clear hfz8_1
    try clear hfz8_2
    try clear hfz8_3
    try clear hfz8_4
    try clear p2
    obtain ⟨kq,jj_,rfl,HA,HJ17,j2_,j0_,HB⟩:=hcut
    cases kq with
    | zero=>exact absurd HA.out (by simp [abugidaref16_rule.j1])
    | succ kj17 =>
     have H:=HA.out
     clear HA
     simp only [abugidaref16_rule.j1] at H
     have HC27:=Aside0.mk H
     clear H
     go_upto_region 3 with (fail)
     go_cut [77] (fun v77 wc=>∃ (kq:Nat) (jk_:Bool),v77=.bool jk_∧Aside0 (abugidaref16_rule.j2 kq a1 a2 a3 jk_ l0_0 l0_1 l0_2 l0_3 l0_4=some r)∧Aside0 (kq≤kj17)∧Aside0 (Kd.V (Kd.int .i64) 3 wc w.heap.size (fun k_=>(P0_3_ k_∨w.heap.size≤k_)∧k_≠j1_) (.slice A0_3 l0_3.length c0_3) l0_3)∧Aside0 (wc.heap[j1_]?=some (.cells #[(.slice A0_0 l0_0.length c0_0),(.slice A0_1 l0_1.length c0_1),(.slice A0_2 l0_2.length c0_2),(.slice A0_3 l0_3.length c0_3),(.slice A0_4 l0_4.length c0_4)] 49 (0,0)))∧Aside0 (Below w.heap.size w wc))
     case first =>
      have H:=HC27.out
      clear HC27
      by_cases c28:x9_4=true
      ·
       subst c28
       have H1:(abugidaref16_rule.j2 kj17 a1 a2 a3 true l0_0 l0_1 l0_2 l0_3 l0_4)=some r:=by rw [if_pos rfl] at H;exact H
       clear H
       have H:=H1
       clear H1
       have H':=Aside0.mk H
       clear H
       go_wp2
       go_meet
       case rel=>exact ⟨_,(true),za76,H',⟨by have:=HJ4.out;have:=HJ17.out;first|omega|exact Nat.le_refl _⟩,⟨by (with_reducible repeat (first|apply Kd.V_alloc|apply Kd.V_drewN|apply Kd.V_drew));exact j2_.out⟩,⟨by (with_reducible repeat (first|refine blk_drewN ?_ _|refine blk_drew ?_|refine blk_alloc ?_ _));exact j0_.out⟩,⟨by repeat (first|(with_reducible first|exact HB.out|apply below_alloc|apply pw_below_drewN|apply below_drew1|refine below_set ?_ j3_.out)|exact HB.out)⟩⟩
      ·
       replace c28:=Bool.eq_false_iff.mpr c28
       subst c28
       have H1:(if jj_=true then (if (l0_4.length:Int) > 0 then (abugidaref16_rule.j2 kj17 a1 a2 a3 (decide ((l0_3.length:Int) > 0)) l0_0 l0_1 l0_2 l0_3 l0_4) else (abugidaref16_rule.j2 kj17 a1 a2 a3 false l0_0 l0_1 l0_2 l0_3 l0_4)) else (abugidaref16_rule.j2 kj17 a1 a2 a3 true l0_0 l0_1 l0_2 l0_3 l0_4))=some r:=by rw [if_neg (show ¬ (false=true) by decide)] at H;exact H
       clear H
       have H:=H1
       clear H1
       by_cases c29:jj_=true
       ·
        subst c29
        have H1:(if (l0_4.length:Int) > 0 then (abugidaref16_rule.j2 kj17 a1 a2 a3 (decide ((l0_3.length:Int) > 0)) l0_0 l0_1 l0_2 l0_3 l0_4) else (abugidaref16_rule.j2 kj17 a1 a2 a3 false l0_0 l0_1 l0_2 l0_3 l0_4))=some r:=by rw [if_pos rfl] at H;exact H
        clear H
        have H:=H1
        clear H1
        by_cases c30:(l0_4.length:Int) > 0
        ·
         rw [if_pos c30] at H
         have c30b0:decide (0<(l0_4.length:Int))=true:=decide_eq_true c30
         have c30b1:decide (0<l0_4.length)=true:=decide_eq_true (by omega)
         clear c30
         (first|rw [c30b0]|(simp only [i64_w,i32_w];rw [c30b0])|skip)
         have H':=Aside0.mk H
         clear H
         have hcz31_0:wc.cell? ⟨j1_,0,none⟩=some (.slice A0_0 l0_0.length c0_0):=(blk_cell j0_.out 0).trans rfl
         have hcz31_1:wc.cell? ⟨j1_,1,none⟩=some (.slice A0_1 l0_1.length c0_1):=(blk_cell j0_.out 1).trans rfl
         have hcz31_2:wc.cell? ⟨j1_,2,none⟩=some (.slice A0_2 l0_2.length c0_2):=(blk_cell j0_.out 2).trans rfl
         have hcz31_3:wc.cell? ⟨j1_,3,none⟩=some (.slice A0_3 l0_3.length c0_3):=(blk_cell j0_.out 3).trans rfl
         have hcz31_4:wc.cell? ⟨j1_,4,none⟩=some (.slice A0_4 l0_4.length c0_4):=(blk_cell j0_.out 4).trans rfl
         have hfz31_0:=blk_frozen j0_.out 0
         have hfz31_1:=blk_frozen j0_.out 1
         have hfz31_2:=blk_frozen j0_.out 2
         have hfz31_3:=blk_frozen j0_.out 3
         have hfz31_4:=blk_frozen j0_.out 4
         go_wp2
         go_meet
         case rel=>exact ⟨_,(decide ((l0_3.length:Int) > 0)),za76,H',⟨by have:=HJ4.out;have:=HJ17.out;first|omega|exact Nat.le_refl _⟩,⟨by (with_reducible repeat (first|apply Kd.V_alloc|apply Kd.V_drewN|apply Kd.V_drew));exact j2_.out⟩,⟨by (with_reducible repeat (first|refine blk_drewN ?_ _|refine blk_drew ?_|refine blk_alloc ?_ _));exact j0_.out⟩,⟨by repeat (first|(with_reducible first|exact HB.out|apply below_alloc|apply pw_below_drewN|apply below_drew1|refine below_set ?_ j3_.out)|exact HB.out)⟩⟩
        ·
         rw [if_neg c30] at H
         have c30b0:decide (0<(l0_4.length:Int))=false:=decide_eq_false c30
         have c30b1:decide (0<l0_4.length)=false:=decide_eq_false (by omega)
         clear c30
         (first|rw [c30b0]|(simp only [i64_w,i32_w];rw [c30b0])|skip)
         have H':=Aside0.mk H
         clear H
         have hcz32_0:wc.cell? ⟨j1_,0,none⟩=some (.slice A0_0 l0_0.length c0_0):=(blk_cell j0_.out 0).trans rfl
         have hcz32_1:wc.cell? ⟨j1_,1,none⟩=some (.slice A0_1 l0_1.length c0_1):=(blk_cell j0_.out 1).trans rfl
         have hcz32_2:wc.cell? ⟨j1_,2,none⟩=some (.slice A0_2 l0_2.length c0_2):=(blk_cell j0_.out 2).trans rfl
         have hcz32_3:wc.cell? ⟨j1_,3,none⟩=some (.slice A0_3 l0_3.length c0_3):=(blk_cell j0_.out 3).trans rfl
         have hcz32_4:wc.cell? ⟨j1_,4,none⟩=some (.slice A0_4 l0_4.length c0_4):=(blk_cell j0_.out 4).trans rfl
         have hfz32_0:=blk_frozen j0_.out 0
         have hfz32_1:=blk_frozen j0_.out 1
         have hfz32_2:=blk_frozen j0_.out 2
         have hfz32_3:=blk_frozen j0_.out 3
         have hfz32_4:=blk_frozen j0_.out 4
         go_wp2
         go_meet
         case rel=>exact ⟨_,(false),za76,H',⟨by have:=HJ4.out;have:=HJ17.out;first|omega|exact Nat.le_refl _⟩,⟨by (with_reducible repeat (first|apply Kd.V_alloc|apply Kd.V_drewN|apply Kd.V_drew));exact j2_.out⟩,⟨by (with_reducible repeat (first|refine blk_drewN ?_ _|refine blk_drew ?_|refine blk_alloc ?_ _));exact j0_.out⟩,⟨by repeat (first|(with_reducible first|exact HB.out|apply below_alloc|apply pw_below_drewN|apply below_drew1|refine below_set ?_ j3_.out)|exact HB.out)⟩⟩
       ·
        replace c29:=Bool.eq_false_iff.mpr c29
        subst c29
        have H1:(abugidaref16_rule.j2 kj17 a1 a2 a3 true l0_0 l0_1 l0_2 l0_3 l0_4)=some r:=by rw [if_neg (show ¬ (false=true) by decide)] at H;exact H
        clear H
        have H:=H1
        clear H1
        have H':=Aside0.mk H
        clear H
        go_wp2
        go_meet
        case rel=>exact ⟨_,(true),za76,H',⟨by have:=HJ4.out;have:=HJ17.out;first|omega|exact Nat.le_refl _⟩,⟨by (with_reducible repeat (first|apply Kd.V_alloc|apply Kd.V_drewN|apply Kd.V_drew));exact j2_.out⟩,⟨by (with_reducible repeat (first|refine blk_drewN ?_ _|refine blk_drew ?_|refine blk_alloc ?_ _));exact j0_.out⟩,⟨by repeat (first|(with_reducible first|exact HB.out|apply below_alloc|apply pw_below_drewN|apply below_drew1|refine below_set ?_ j3_.out)|exact HB.out)⟩⟩
     case rest =>
      clear HC27
      try clear c1
      try clear c2
      try clear p2
      try clear c3
      try clear c5
      try clear c7
      try clear c7b0
      try clear c7b1
      try clear c9
      try clear c9b0
      try clear c9b1
      try clear c11
      try clear c11b0
      try clear c11b1
      try clear c13
      try clear c13b0
      try clear c13b1
      try clear c15
      try clear c15b0
      try clear c15b1
      try clear c20
      try clear c22
      try clear c28
      try clear c29
      try clear c30
      try clear c30b0
      try clear c30b1
      try clear hcz10_0
      try clear hcz10_1
      try clear hcz10_2
      try clear hcz10_3
      try clear hcz10_4
      try clear hcz12_0
      try clear hcz12_1
      try clear hcz12_2
      try clear hcz12_3
      try clear hcz12_4
      try clear hcz14_0
      try clear hcz14_1
      try clear hcz14_2
      try clear hcz14_3
      try clear hcz14_4
      try clear hcz16_0
      try clear hcz16_1
      try clear hcz16_2
      try clear hcz16_3
      try clear hcz16_4
      try clear hcz17_0
      try clear hcz17_1
      try clear hcz17_2
      try clear hcz17_3
      try clear hcz17_4
      try clear hcz24_0
      try clear hcz24_1
      try clear hcz24_2
      try clear hcz24_3
      try clear hcz24_4
      try clear hcz25_0
      try clear hcz25_1
      try clear hcz25_2
      try clear hcz25_3
      try clear hcz25_4
      try clear hcz26_0
      try clear hcz26_1
      try clear hcz26_2
      try clear hcz26_3
      try clear hcz26_4
      try clear hcz31_0
      try clear hcz31_1
      try clear hcz31_2
      try clear hcz31_3
      try clear hcz31_4
      try clear hcz32_0
      try clear hcz32_1
      try clear hcz32_2
      try clear hcz32_3
      try clear hcz32_4
      try clear hcz8_0
      try clear hcz8_1
      try clear hcz8_2
      try clear hcz8_3
      try clear hcz8_4
      try clear hfz10_0
      try clear hfz10_1
      try clear hfz10_2
      try clear hfz10_3
      try clear hfz10_4
      try clear hfz12_0
      try clear hfz12_1
      try clear hfz12_2
      try clear hfz12_3
      try clear hfz12_4
      try clear hfz14_0
      try clear hfz14_1
      try clear hfz14_2
      try clear hfz14_3
      try clear hfz14_4
      try clear hfz16_0
      try clear hfz16_1
      try clear hfz16_2
      try clear hfz16_3
      try clear hfz16_4
      try clear hfz17_0
      try clear hfz17_1
      try clear hfz17_2
      try clear hfz17_3
      try clear hfz17_4
      try clear hfz24_0
      try clear hfz24_1
      try clear hfz24_2
      try clear hfz24_3
      try clear hfz24_4
      try clear hfz25_0
      try clear hfz25_1
      try clear hfz25_2
      try clear hfz25_3
      try clear hfz25_4
      try clear hfz26_0
      try clear hfz26_1
      try clear hfz26_2
      try clear hfz26_3
      try clear hfz26_4
      try clear hfz31_0
      try clear hfz31_1
      try clear hfz31_2
      try clear hfz31_3
      try clear hfz31_4
      try clear hfz32_0
      try clear hfz32_1
      try clear hfz32_2
      try clear hfz32_3
      try clear hfz32_4
      try clear hfz8_0
      try clear hfz8_1
      try clear hfz8_2
      try clear hfz8_3
      try clear hfz8_4
      try clear p2
      obtain ⟨kq,jk_,rfl,HA,HJ26,j2_,j0_,HB⟩:=hcut
      cases kq with
      | zero=>exact absurd HA.out (by simp [abugidaref16_rule.j2])
      | succ kj26 =>
       have H:=HA.out
       clear HA
       simp only [abugidaref16_rule.j2] at H
       by_cases c33:jk_=true
       ·
        subst c33
        have H1:(some 31)=some r:=by rw [if_pos rfl] at H;exact H
        clear H
        have H:=H1
        clear H1
        obtain rfl:=Option.some.inj H
        go_wp2
        go_ret
        exact ⟨by first|rfl|(simp [errW_none,errW_some]<;>rfl)|(simp [*,errW_none,errW_some]<;>rfl),by repeat (first|(with_reducible first|exact HB.out|apply below_alloc|apply pw_below_drewN|apply below_drew1|refine below_set ?_ j3_.out)|exact HB.out)⟩
       ·
        replace c33:=Bool.eq_false_iff.mpr c33
        subst c33
        have H1:((abugidaref16_known.f kj26 l0_1 a3).bind fun t517=>(if t517=true then ((abugidaref16_known.f kj26 l0_0 a3).bind fun t518=>(if t518=true then ((abugidaref16_known.f kj26 l0_2 a3).bind fun t519=>(if t519=true then ((abugidaref16_known.f kj26 (([l0_3]:List (List Int))) a3).bind fun t523=>(abugidaref16_rule.j3 kj26 a1 a2 t523 l0_0 l0_1 l0_2 l0_3 l0_4)) else (abugidaref16_rule.j3 kj26 a1 a2 false l0_0 l0_1 l0_2 l0_3 l0_4))) else (abugidaref16_rule.j3 kj26 a1 a2 false l0_0 l0_1 l0_2 l0_3 l0_4))) else (abugidaref16_rule.j3 kj26 a1 a2 false l0_0 l0_1 l0_2 l0_3 l0_4)))=some r:=by rw [if_neg (show ¬ (false=true) by decide)] at H;exact H
        clear H
        have H:=H1
        clear H1
        have HC34:=Aside0.mk H
        clear H
        go_upto_region 5 with (fail)
        go_cut [11] (fun v11 wc=>∃ (kq:Nat) (jl_:Bool),v11=.bool jl_∧Aside0 (abugidaref16_rule.j3 kq a1 a2 jl_ l0_0 l0_1 l0_2 l0_3 l0_4=some r)∧Aside0 (kq≤kj26)∧Aside0 (Kd.V (Kd.int .i64) 3 wc w.heap.size (fun k_=>(P0_3_ k_∨w.heap.size≤k_)∧k_≠j1_) (.slice A0_3 l0_3.length c0_3) l0_3)∧Aside0 (wc.heap[j1_]?=some (.cells #[(.slice A0_0 l0_0.length c0_0),(.slice A0_1 l0_1.length c0_1),(.slice A0_2 l0_2.length c0_2),(.slice A0_3 l0_3.length c0_3),(.slice A0_4 l0_4.length c0_4)] 49 (0,0)))∧Aside0 (Below w.heap.size w wc))
        case first =>
         have H:=HC34.out
         clear HC34
         replace H:=Option.bind_eq_some_iff.mp H
         obtain ⟨t517,A350,H⟩:=H
         replace H:(if t517=true then ((abugidaref16_known.f kj26 l0_0 a3).bind fun t518=>(if t518=true then ((abugidaref16_known.f kj26 l0_2 a3).bind fun t519=>(if t519=true then ((abugidaref16_known.f kj26 (([l0_3]:List (List Int))) a3).bind fun t523=>(abugidaref16_rule.j3 kj26 a1 a2 t523 l0_0 l0_1 l0_2 l0_3 l0_4)) else (abugidaref16_rule.j3 kj26 a1 a2 false l0_0 l0_1 l0_2 l0_3 l0_4))) else (abugidaref16_rule.j3 kj26 a1 a2 false l0_0 l0_1 l0_2 l0_3 l0_4))) else (abugidaref16_rule.j3 kj26 a1 a2 false l0_0 l0_1 l0_2 l0_3 l0_4))=some r:=H
         have A35:=Aside0.mk A350
         clear A350
         by_cases c36:t517=true
         ·
          subst c36
          have H1:((abugidaref16_known.f kj26 l0_0 a3).bind fun t518=>(if t518=true then ((abugidaref16_known.f kj26 l0_2 a3).bind fun t519=>(if t519=true then ((abugidaref16_known.f kj26 (([l0_3]:List (List Int))) a3).bind fun t523=>(abugidaref16_rule.j3 kj26 a1 a2 t523 l0_0 l0_1 l0_2 l0_3 l0_4)) else (abugidaref16_rule.j3 kj26 a1 a2 false l0_0 l0_1 l0_2 l0_3 l0_4))) else (abugidaref16_rule.j3 kj26 a1 a2 false l0_0 l0_1 l0_2 l0_3 l0_4)))=some r:=by rw [if_pos rfl] at H;exact H
          clear H
          have H:=H1
          clear H1
          replace H:=Option.bind_eq_some_iff.mp H
          obtain ⟨t518,A370,H⟩:=H
          replace H:(if t518=true then ((abugidaref16_known.f kj26 l0_2 a3).bind fun t519=>(if t519=true then ((abugidaref16_known.f kj26 (([l0_3]:List (List Int))) a3).bind fun t523=>(abugidaref16_rule.j3 kj26 a1 a2 t523 l0_0 l0_1 l0_2 l0_3 l0_4)) else (abugidaref16_rule.j3 kj26 a1 a2 false l0_0 l0_1 l0_2 l0_3 l0_4))) else (abugidaref16_rule.j3 kj26 a1 a2 false l0_0 l0_1 l0_2 l0_3 l0_4))=some r:=H
          have A37:=Aside0.mk A370
          clear A370
          by_cases c38:t518=true
          ·
           subst c38
           have H1:((abugidaref16_known.f kj26 l0_2 a3).bind fun t519=>(if t519=true then ((abugidaref16_known.f kj26 (([l0_3]:List (List Int))) a3).bind fun t523=>(abugidaref16_rule.j3 kj26 a1 a2 t523 l0_0 l0_1 l0_2 l0_3 l0_4)) else (abugidaref16_rule.j3 kj26 a1 a2 false l0_0 l0_1 l0_2 l0_3 l0_4)))=some r:=by rw [if_pos rfl] at H;exact H
           clear H
           have H:=H1
           clear H1
           replace H:=Option.bind_eq_some_iff.mp H
           obtain ⟨t519,A390,H⟩:=H
           replace H:(if t519=true then ((abugidaref16_known.f kj26 (([l0_3]:List (List Int))) a3).bind fun t523=>(abugidaref16_rule.j3 kj26 a1 a2 t523 l0_0 l0_1 l0_2 l0_3 l0_4)) else (abugidaref16_rule.j3 kj26 a1 a2 false l0_0 l0_1 l0_2 l0_3 l0_4))=some r:=H
           have A39:=Aside0.mk A390
           clear A390
           by_cases c40:t519=true
           ·
            subst c40
            have H1:((abugidaref16_known.f kj26 (([l0_3]:List (List Int))) a3).bind fun t523=>(abugidaref16_rule.j3 kj26 a1 a2 t523 l0_0 l0_1 l0_2 l0_3 l0_4))=some r:=by rw [if_pos rfl] at H;exact H
            clear H
            have H:=H1
            clear H1
            obtain ⟨y520,jm_⟩:∃ y_:List (List Int),y_=(([l0_3]:List (List Int))):=⟨_,rfl⟩
            replace H:((abugidaref16_known.f kj26 y520 a3).bind fun t523=>(abugidaref16_rule.j3 kj26 a1 a2 t523 l0_0 l0_1 l0_2 l0_3 l0_4))=some r:=by first|(rw [jm_];with_reducible exact H)|(have H2_:=(Option.bind_some _ _).symm.trans H;rw [jm_];with_reducible exact H2_)|(have H2_:=(Option.bind_some _ _).symm.trans H;with_reducible exact H2_)|with_reducible exact H|(rw [jm_];exact H)|exact H
            have jo_:=Aside0.mk jm_
            clear jm_
            replace H:=Option.bind_eq_some_iff.mp H
            obtain ⟨t523,A410,H⟩:=H
            replace H:(abugidaref16_rule.j3 kj26 a1 a2 t523 l0_0 l0_1 l0_2 l0_3 l0_4)=some r:=H
            have A41:=Aside0.mk A410
            clear A410
            have H':=Aside0.mk H
            clear H
            have hcz42_0:wc.cell? ⟨j1_,0,none⟩=some (.slice A0_0 l0_0.length c0_0):=(blk_cell j0_.out 0).trans rfl
            have hcz42_1:wc.cell? ⟨j1_,1,none⟩=some (.slice A0_1 l0_1.length c0_1):=(blk_cell j0_.out 1).trans rfl
            have hcz42_2:wc.cell? ⟨j1_,2,none⟩=some (.slice A0_2 l0_2.length c0_2):=(blk_cell j0_.out 2).trans rfl
            have hcz42_3:wc.cell? ⟨j1_,3,none⟩=some (.slice A0_3 l0_3.length c0_3):=(blk_cell j0_.out 3).trans rfl
            have hcz42_4:wc.cell? ⟨j1_,4,none⟩=some (.slice A0_4 l0_4.length c0_4):=(blk_cell j0_.out 4).trans rfl
            have hfz42_0:=blk_frozen j0_.out 0
            have hfz42_1:=blk_frozen j0_.out 1
            have hfz42_2:=blk_frozen j0_.out 2
            have hfz42_3:=blk_frozen j0_.out 3
            have hfz42_4:=blk_frozen j0_.out 4
            go_wp2_with (first|((with_reducible refine gate_callee (f:=53) rfl ?_);refine goesL_ (some 81) rfl rfl Try.func53 (by kernel_rfl) rfl #[.slice A0_1 l0_1.length c0_1,.int .i64 a3] rfl za39 ?_;(with_reducible refine (abugidaref16_known.calls kj26 _ _ l0_1 a3 true _ ?side1 ?side2 A35.out).mono ?_);(case side1=>repeat (first|exact (Kd.C_below HR0_1.out HB.out)|(with_reducible refine Kd.C_alloc ?_ _)|(with_reducible refine Kd.C_drewN ?_ _)|(with_reducible refine Kd.C_drew ?_)));(case side2=>exact HC0_1.out);rintro e w' ⟨rfl,⟨nd,rfl⟩⟩;refine ⟨_,rfl,?_⟩)|(go_at_call 53;(with_reducible refine (abugidaref16_known.calls kj26 _ _ l0_0 a3 true _ ?side1 ?side2 A37.out).mono ?_);(case side1=>repeat (first|exact (Kd.C_below HR0_0.out za34)|(with_reducible refine Kd.C_alloc ?_ _)|(with_reducible refine Kd.C_drewN ?_ _)|(with_reducible refine Kd.C_drew ?_)));(case side2=>exact HC0_0.out);rintro e w' ⟨rfl,⟨nd,rfl⟩⟩)|(go_at_call 53;(with_reducible refine (abugidaref16_known.calls kj26 _ _ l0_2 a3 true _ ?side1 ?side2 A39.out).mono ?_);(case side1=>repeat (first|exact (Kd.C_below HR0_2.out za34)|(with_reducible refine Kd.C_alloc ?_ _)|(with_reducible refine Kd.C_drewN ?_ _)|(with_reducible refine Kd.C_drew ?_)));(case side2=>exact HC0_2.out);rintro e w' ⟨rfl,⟨nd,rfl⟩⟩)|((with_reducible refine gate_dst (N:=97) rfl ?_);(try (refine gate_guard (by rfl) ?_;dsimp only));refine ev_litC (Kd.slice 3 (Kd.int .i64)) 26 (N:=97) (n:=1) (xs:=([l0_3]:List (List Int))) (inner:=[.slice A0_3 l0_3.length c0_3]) rfl ?hg ?hd ?hr ?hp (by decide) ?_;(case hd=>rfl);(case hg=>rfl);(case hr=>first|(go_simp;done)|(go_simp;rfl));(case hp=>exact Reps.one (cl rfl (Kd.V_reads' j2_.out).2.1 (by repeat (first|exact (Kd.V_reads' j2_.out).2.2|(with_reducible refine Kd.C_alloc ?_ _)|(with_reducible refine Kd.C_drewN ?_ _)|(with_reducible refine Kd.C_drew ?_)))) (Reps.none _ _));intro g97 w43 hb hC;have H97:=Aside0.mk hC;clear hC;have n0_:=Aside0.mk (Kd.V_mono (ok':=fun k_=>((P0_3_ k_∨w.heap.size≤k_)∧k_≠j1_)∧True) (Kd.V_below za59 hb) (fun _ hk=>⟨hk,trivial⟩));have n2_:=Aside0.mk (blk_below (g:=j1_) (o:=.cells #[.slice A0_0 l0_0.length c0_0,.slice A0_1 l0_1.length c0_1,.slice A0_2 l0_2.length c0_2,.slice A0_3 l0_3.length c0_3,.slice A0_4 l0_4.length c0_4] 49 (0,0)) za50 hb);have n3_:=Aside0.mk (below_step za34 hb);clear j2_;clear j0_;clear HB;have j2_:=n0_;have j0_:=n2_;have HB:=n3_;clear n0_ n2_ n3_;clear hb)|(go_at_call_has 53 (Value.slice (some ⟨g97,0,none⟩) 1 1);refine (abugidaref16_known.calls kj26 (some ⟨g97,0,none⟩) 1 [l0_3] a3 t523 _ H97.out (Nat.le_refl 1) (by have h_:=A41.out;rw [jo_.out] at h_;exact h_)).mono ?_;rintro e w' ⟨rfl,⟨nd,rfl⟩⟩))
            go_meet
            case rel=>exact ⟨_,(t523),za76,H',⟨by have:=HJ4.out;have:=HJ17.out;have:=HJ26.out;first|omega|exact Nat.le_refl _⟩,⟨by (with_reducible repeat (first|apply Kd.V_alloc|apply Kd.V_drewN|apply Kd.V_drew));exact Kd.V_mono j2_.out (fun _ hk=>⟨hk.1.1,hk.1.2⟩)⟩,⟨by (with_reducible repeat (first|refine blk_drewN ?_ _|refine blk_drew ?_|refine blk_alloc ?_ _));exact j0_.out⟩,⟨by repeat (first|(with_reducible first|exact HB.out|apply below_alloc|apply pw_below_drewN|apply below_drew1|refine below_set ?_ j3_.out)|exact HB.out)⟩⟩
           ·
            replace c40:=Bool.eq_false_iff.mpr c40
            subst c40
            have H1:(abugidaref16_rule.j3 kj26 a1 a2 false l0_0 l0_1 l0_2 l0_3 l0_4)=some r:=by rw [if_neg (show ¬ (false=true) by decide)] at H;exact H
            clear H
            have H:=H1
            clear H1
            have H':=Aside0.mk H
            clear H
            have hcz46_0:wc.cell? ⟨j1_,0,none⟩=some (.slice A0_0 l0_0.length c0_0):=(blk_cell j0_.out 0).trans rfl
            have hcz46_1:wc.cell? ⟨j1_,1,none⟩=some (.slice A0_1 l0_1.length c0_1):=(blk_cell j0_.out 1).trans rfl
            have hcz46_2:wc.cell? ⟨j1_,2,none⟩=some (.slice A0_2 l0_2.length c0_2):=(blk_cell j0_.out 2).trans rfl
            have hcz46_3:wc.cell? ⟨j1_,3,none⟩=some (.slice A0_3 l0_3.length c0_3):=(blk_cell j0_.out 3).trans rfl
            have hcz46_4:wc.cell? ⟨j1_,4,none⟩=some (.slice A0_4 l0_4.length c0_4):=(blk_cell j0_.out 4).trans rfl
            have hfz46_0:=blk_frozen j0_.out 0
            have hfz46_1:=blk_frozen j0_.out 1
            have hfz46_2:=blk_frozen j0_.out 2
            have hfz46_3:=blk_frozen j0_.out 3
            have hfz46_4:=blk_frozen j0_.out 4
            go_wp2_with (first|((with_reducible refine gate_callee (f:=53) rfl ?_);refine goesL_ (some 81) rfl rfl Try.func53 (by kernel_rfl) rfl #[.slice A0_1 l0_1.length c0_1,.int .i64 a3] rfl za39 ?_;(with_reducible refine (abugidaref16_known.calls kj26 _ _ l0_1 a3 true _ ?side1 ?side2 A35.out).mono ?_);(case side1=>repeat (first|exact (Kd.C_below HR0_1.out HB.out)|(with_reducible refine Kd.C_alloc ?_ _)|(with_reducible refine Kd.C_drewN ?_ _)|(with_reducible refine Kd.C_drew ?_)));(case side2=>exact HC0_1.out);rintro e w' ⟨rfl,⟨nd,rfl⟩⟩;refine ⟨_,rfl,?_⟩)|(go_at_call 53;(with_reducible refine (abugidaref16_known.calls kj26 _ _ l0_0 a3 true _ ?side1 ?side2 A37.out).mono ?_);(case side1=>repeat (first|exact (Kd.C_below HR0_0.out za34)|(with_reducible refine Kd.C_alloc ?_ _)|(with_reducible refine Kd.C_drewN ?_ _)|(with_reducible refine Kd.C_drew ?_)));(case side2=>exact HC0_0.out);rintro e w' ⟨rfl,⟨nd,rfl⟩⟩)|(go_at_call 53;(with_reducible refine (abugidaref16_known.calls kj26 _ _ l0_2 a3 false _ ?side1 ?side2 A39.out).mono ?_);(case side1=>repeat (first|exact (Kd.C_below HR0_2.out za34)|(with_reducible refine Kd.C_alloc ?_ _)|(with_reducible refine Kd.C_drewN ?_ _)|(with_reducible refine Kd.C_drew ?_)));(case side2=>exact HC0_2.out);rintro e w' ⟨rfl,⟨nd,rfl⟩⟩))
            go_meet
            case rel=>exact ⟨_,(false),za76,H',⟨by have:=HJ4.out;have:=HJ17.out;have:=HJ26.out;first|omega|exact Nat.le_refl _⟩,⟨by (with_reducible repeat (first|apply Kd.V_alloc|apply Kd.V_drewN|apply Kd.V_drew));exact j2_.out⟩,⟨by (with_reducible repeat (first|refine blk_drewN ?_ _|refine blk_drew ?_|refine blk_alloc ?_ _));exact j0_.out⟩,⟨by repeat (first|(with_reducible first|exact HB.out|apply below_alloc|apply pw_below_drewN|apply below_drew1|refine below_set ?_ j3_.out)|exact HB.out)⟩⟩
          ·
           replace c38:=Bool.eq_false_iff.mpr c38
           subst c38
           have H1:(abugidaref16_rule.j3 kj26 a1 a2 false l0_0 l0_1 l0_2 l0_3 l0_4)=some r:=by rw [if_neg (show ¬ (false=true) by decide)] at H;exact H
           clear H
           have H:=H1
           clear H1
           have H':=Aside0.mk H
           clear H
           have hcz47_0:wc.cell? ⟨j1_,0,none⟩=some (.slice A0_0 l0_0.length c0_0):=(blk_cell j0_.out 0).trans rfl
           have hcz47_1:wc.cell? ⟨j1_,1,none⟩=some (.slice A0_1 l0_1.length c0_1):=(blk_cell j0_.out 1).trans rfl
           have hcz47_2:wc.cell? ⟨j1_,2,none⟩=some (.slice A0_2 l0_2.length c0_2):=(blk_cell j0_.out 2).trans rfl
           have hcz47_3:wc.cell? ⟨j1_,3,none⟩=some (.slice A0_3 l0_3.length c0_3):=(blk_cell j0_.out 3).trans rfl
           have hcz47_4:wc.cell? ⟨j1_,4,none⟩=some (.slice A0_4 l0_4.length c0_4):=(blk_cell j0_.out 4).trans rfl
           have hfz47_0:=blk_frozen j0_.out 0
           have hfz47_1:=blk_frozen j0_.out 1
           have hfz47_2:=blk_frozen j0_.out 2
           have hfz47_3:=blk_frozen j0_.out 3
           have hfz47_4:=blk_frozen j0_.out 4
           go_wp2_with (first|((with_reducible refine gate_callee (f:=53) rfl ?_);refine goesL_ (some 81) rfl rfl Try.func53 (by kernel_rfl) rfl #[.slice A0_1 l0_1.length c0_1,.int .i64 a3] rfl za39 ?_;(with_reducible refine (abugidaref16_known.calls kj26 _ _ l0_1 a3 true _ ?side1 ?side2 A35.out).mono ?_);(case side1=>repeat (first|exact (Kd.C_below HR0_1.out HB.out)|(with_reducible refine Kd.C_alloc ?_ _)|(with_reducible refine Kd.C_drewN ?_ _)|(with_reducible refine Kd.C_drew ?_)));(case side2=>exact HC0_1.out);rintro e w' ⟨rfl,⟨nd,rfl⟩⟩;refine ⟨_,rfl,?_⟩)|(go_at_call 53;(with_reducible refine (abugidaref16_known.calls kj26 _ _ l0_0 a3 false _ ?side1 ?side2 A37.out).mono ?_);(case side1=>repeat (first|exact (Kd.C_below HR0_0.out za34)|(with_reducible refine Kd.C_alloc ?_ _)|(with_reducible refine Kd.C_drewN ?_ _)|(with_reducible refine Kd.C_drew ?_)));(case side2=>exact HC0_0.out);rintro e w' ⟨rfl,⟨nd,rfl⟩⟩))
           go_meet
           case rel=>exact ⟨_,(false),za76,H',⟨by have:=HJ4.out;have:=HJ17.out;have:=HJ26.out;first|omega|exact Nat.le_refl _⟩,⟨by (with_reducible repeat (first|apply Kd.V_alloc|apply Kd.V_drewN|apply Kd.V_drew));exact j2_.out⟩,⟨by (with_reducible repeat (first|refine blk_drewN ?_ _|refine blk_drew ?_|refine blk_alloc ?_ _));exact j0_.out⟩,⟨by repeat (first|(with_reducible first|exact HB.out|apply below_alloc|apply pw_below_drewN|apply below_drew1|refine below_set ?_ j3_.out)|exact HB.out)⟩⟩
         ·
          replace c36:=Bool.eq_false_iff.mpr c36
          subst c36
          have H1:(abugidaref16_rule.j3 kj26 a1 a2 false l0_0 l0_1 l0_2 l0_3 l0_4)=some r:=by rw [if_neg (show ¬ (false=true) by decide)] at H;exact H
          clear H
          have H:=H1
          clear H1
          have H':=Aside0.mk H
          clear H
          have hcz48_0:wc.cell? ⟨j1_,0,none⟩=some (.slice A0_0 l0_0.length c0_0):=(blk_cell j0_.out 0).trans rfl
          have hcz48_1:wc.cell? ⟨j1_,1,none⟩=some (.slice A0_1 l0_1.length c0_1):=(blk_cell j0_.out 1).trans rfl
          have hcz48_2:wc.cell? ⟨j1_,2,none⟩=some (.slice A0_2 l0_2.length c0_2):=(blk_cell j0_.out 2).trans rfl
          have hcz48_3:wc.cell? ⟨j1_,3,none⟩=some (.slice A0_3 l0_3.length c0_3):=(blk_cell j0_.out 3).trans rfl
          have hcz48_4:wc.cell? ⟨j1_,4,none⟩=some (.slice A0_4 l0_4.length c0_4):=(blk_cell j0_.out 4).trans rfl
          have hfz48_0:=blk_frozen j0_.out 0
          have hfz48_1:=blk_frozen j0_.out 1
          have hfz48_2:=blk_frozen j0_.out 2
          have hfz48_3:=blk_frozen j0_.out 3
          have hfz48_4:=blk_frozen j0_.out 4
          go_wp2_with (first|((with_reducible refine gate_callee (f:=53) rfl ?_);refine goesL_ (some 81) rfl rfl Try.func53 (by kernel_rfl) rfl #[.slice A0_1 l0_1.length c0_1,.int .i64 a3] rfl za39 ?_;(with_reducible refine (abugidaref16_known.calls kj26 _ _ l0_1 a3 false _ ?side1 ?side2 A35.out).mono ?_);(case side1=>repeat (first|exact (Kd.C_below HR0_1.out HB.out)|(with_reducible refine Kd.C_alloc ?_ _)|(with_reducible refine Kd.C_drewN ?_ _)|(with_reducible refine Kd.C_drew ?_)));(case side2=>exact HC0_1.out);rintro e w' ⟨rfl,⟨nd,rfl⟩⟩;refine ⟨_,rfl,?_⟩))
          go_meet
          case rel=>exact ⟨_,(false),za76,H',⟨by have:=HJ4.out;have:=HJ17.out;have:=HJ26.out;first|omega|exact Nat.le_refl _⟩,⟨by (with_reducible repeat (first|apply Kd.V_alloc|apply Kd.V_drewN|apply Kd.V_drew));exact j2_.out⟩,⟨by (with_reducible repeat (first|refine blk_drewN ?_ _|refine blk_drew ?_|refine blk_alloc ?_ _));exact j0_.out⟩,⟨by repeat (first|(with_reducible first|exact HB.out|apply below_alloc|apply pw_below_drewN|apply below_drew1|refine below_set ?_ j3_.out)|exact HB.out)⟩⟩
        case rest =>
         clear HC34
         try clear c1
         try clear c2
         try clear p2
         try clear c3
         try clear c4
         try clear c5
         try clear c7
         try clear c7b0
         try clear c7b1
         try clear c9
         try clear c9b0
         try clear c9b1
         try clear c11
         try clear c11b0
         try clear c11b1
         try clear c13
         try clear c13b0
         try clear c13b1
         try clear c15
         try clear c15b0
         try clear c15b1
         try clear c20
         try clear c22
         try clear c28
         try clear c29
         try clear c30
         try clear c30b0
         try clear c30b1
         try clear c33
         try clear c36
         try clear c38
         try clear c40
         try clear hcz10_0
         try clear hcz10_1
         try clear hcz10_2
         try clear hcz10_3
         try clear hcz10_4
         try clear hcz12_0
         try clear hcz12_1
         try clear hcz12_2
         try clear hcz12_3
         try clear hcz12_4
         try clear hcz14_0
         try clear hcz14_1
         try clear hcz14_2
         try clear hcz14_3
         try clear hcz14_4
         try clear hcz16_0
         try clear hcz16_1
         try clear hcz16_2
         try clear hcz16_3
         try clear hcz16_4
         try clear hcz17_0
         try clear hcz17_1
         try clear hcz17_2
         try clear hcz17_3
         try clear hcz17_4
         try clear hcz24_0
         try clear hcz24_1
         try clear hcz24_2
         try clear hcz24_3
         try clear hcz24_4
         try clear hcz25_0
         try clear hcz25_1
         try clear hcz25_2
         try clear hcz25_3
         try clear hcz25_4
         try clear hcz26_0
         try clear hcz26_1
         try clear hcz26_2
         try clear hcz26_3
         try clear hcz26_4
         try clear hcz31_0
         try clear hcz31_1
         try clear hcz31_2
         try clear hcz31_3
         try clear hcz31_4
         try clear hcz32_0
         try clear hcz32_1
         try clear hcz32_2
         try clear hcz32_3
         try clear hcz32_4
         try clear hcz42_0
         try clear hcz42_1
         try clear hcz42_2
         try clear hcz42_3
         try clear hcz42_4
         try clear hcz46_0
         try clear hcz46_1
         try clear hcz46_2
         try clear hcz46_3
         try clear hcz46_4
         try clear hcz47_0
         try clear hcz47_1
         try clear hcz47_2
         try clear hcz47_3
         try clear hcz47_4
         try clear hcz48_0
         try clear hcz48_1
         try clear hcz48_2
         try clear hcz48_3
         try clear hcz48_4
         try clear hcz8_0
         try clear hcz8_1
         try clear hcz8_2
         try clear hcz8_3
         try clear hcz8_4
         try clear hfz10_0
         try clear hfz10_1
         try clear hfz10_2
         try clear hfz10_3
         try clear hfz10_4
         try clear hfz12_0
         try clear hfz12_1
         try clear hfz12_2
         try clear hfz12_3
         try clear hfz12_4
         try clear hfz14_0
         try clear hfz14_1
         try clear hfz14_2
         try clear hfz14_3
         try clear hfz14_4
         try clear hfz16_0
         try clear hfz16_1
         try clear hfz16_2
         try clear hfz16_3
         try clear hfz16_4
         try clear hfz17_0
         try clear hfz17_1
         try clear hfz17_2
         try clear hfz17_3
         try clear hfz17_4
         try clear hfz24_0
         try clear hfz24_1
         try clear hfz24_2
         try clear hfz24_3
         try clear hfz24_4
         try clear hfz25_0
         try clear hfz25_1
         try clear hfz25_2
         try clear hfz25_3
         try clear hfz25_4
         try clear hfz26_0
         try clear hfz26_1
         try clear hfz26_2
         try clear hfz26_3
         try clear hfz26_4
         try clear hfz31_0
         try clear hfz31_1
         try clear hfz31_2
         try clear hfz31_3
         try clear hfz31_4
         try clear hfz32_0
         try clear hfz32_1
         try clear hfz32_2
         try clear hfz32_3
         try clear hfz32_4
         try clear hfz42_0
         try clear hfz42_1
         try clear hfz42_2
         try clear hfz42_3
         try clear hfz42_4
         try clear hfz46_0
         try clear hfz46_1
         try clear hfz46_2
         try clear hfz46_3
         try clear hfz46_4
         try clear hfz47_0
         try clear hfz47_1
         try clear hfz47_2
         try clear hfz47_3
         try clear hfz47_4
         try clear hfz48_0
         try clear hfz48_1
         try clear hfz48_2
         try clear hfz48_3
         try clear hfz48_4
         try clear hfz8_0
         try clear hfz8_1
         try clear hfz8_2
         try clear hfz8_3
         try clear hfz8_4
         try clear p2
         obtain ⟨kq,jl_,rfl,HA,HJ33,j2_,j0_,HB⟩:=hcut
         cases kq with
         | zero=>exact absurd HA.out (by simp [abugidaref16_rule.j3])
         | succ kj33 =>
          have H:=HA.out
          clear HA
          simp only [abugidaref16_rule.j3] at H
          by_cases c49:jl_=true
          ·
           subst c49
           have H1:(abugidaref16_rule.l0 kj33 a1 a2 0 l0_0 l0_1 l0_2 l0_3 l0_4)=some r:=by rw [if_pos rfl] at H;exact H
           clear H
           have H:=H1
           clear H1
           have H':=Aside0.mk H
           clear H
           go_wp2
           go_loopg [12] kj33 (fun kq v12 w'=>∃ (j5_:Int),v12=.int .i64 j5_∧Aside0 (abugidaref16_rule.l0 kq a1 a2 j5_ l0_0 l0_1 l0_2 l0_3 l0_4=some r)∧Aside0 (kq≤kj33)∧Aside0 (Kd.V (Kd.int .i64) 3 w' w.heap.size (fun k_=>(P0_3_ k_∨w.heap.size≤k_)∧k_≠j1_) (.slice A0_3 l0_3.length c0_3) l0_3)∧Aside0 (w'.heap[j1_]?=some (.cells #[(.slice A0_0 l0_0.length c0_0),(.slice A0_1 l0_1.length c0_1),(.slice A0_2 l0_2.length c0_2),(.slice A0_3 l0_3.length c0_3),(.slice A0_4 l0_4.length c0_4)] 49 (0,0)))∧Aside0 (Below w.heap.size w w'))
           case atStart=>exact ⟨(0),za76,H',⟨Nat.le_refl _⟩,⟨by (with_reducible repeat (first|apply Kd.V_alloc|apply Kd.V_drewN|apply Kd.V_drew));exact j2_.out⟩,⟨by (with_reducible repeat (first|refine blk_drewN ?_ _|refine blk_drew ?_|refine blk_alloc ?_ _));exact j0_.out⟩,⟨by repeat (first|(with_reducible first|exact HB.out|apply below_alloc|apply pw_below_drewN|apply below_drew1|refine below_set ?_ j3_.out)|exact HB.out)⟩⟩
           case round =>
            clear H'
            try clear c1
            try clear c2
            try clear p2
            try clear c3
            try clear c4
            try clear c5
            try clear c7
            try clear c7b0
            try clear c7b1
            try clear c9
            try clear c9b0
            try clear c9b1
            try clear c11
            try clear c11b0
            try clear c11b1
            try clear c13
            try clear c13b0
            try clear c13b1
            try clear c15
            try clear c15b0
            try clear c15b1
            try clear c20
            try clear c22
            try clear c28
            try clear c29
            try clear c30
            try clear c30b0
            try clear c30b1
            try clear c33
            try clear c36
            try clear c38
            try clear c40
            try clear c49
            try clear hcz10_0
            try clear hcz10_1
            try clear hcz10_2
            try clear hcz10_3
            try clear hcz10_4
            try clear hcz12_0
            try clear hcz12_1
            try clear hcz12_2
            try clear hcz12_3
            try clear hcz12_4
            try clear hcz14_0
            try clear hcz14_1
            try clear hcz14_2
            try clear hcz14_3
            try clear hcz14_4
            try clear hcz16_0
            try clear hcz16_1
            try clear hcz16_2
            try clear hcz16_3
            try clear hcz16_4
            try clear hcz17_0
            try clear hcz17_1
            try clear hcz17_2
            try clear hcz17_3
            try clear hcz17_4
            try clear hcz24_0
            try clear hcz24_1
            try clear hcz24_2
            try clear hcz24_3
            try clear hcz24_4
            try clear hcz25_0
            try clear hcz25_1
            try clear hcz25_2
            try clear hcz25_3
            try clear hcz25_4
            try clear hcz26_0
            try clear hcz26_1
            try clear hcz26_2
            try clear hcz26_3
            try clear hcz26_4
            try clear hcz31_0
            try clear hcz31_1
            try clear hcz31_2
            try clear hcz31_3
            try clear hcz31_4
            try clear hcz32_0
            try clear hcz32_1
            try clear hcz32_2
            try clear hcz32_3
            try clear hcz32_4
            try clear hcz42_0
            try clear hcz42_1
            try clear hcz42_2
            try clear hcz42_3
            try clear hcz42_4
            try clear hcz46_0
            try clear hcz46_1
            try clear hcz46_2
            try clear hcz46_3
            try clear hcz46_4
            try clear hcz47_0
            try clear hcz47_1
            try clear hcz47_2
            try clear hcz47_3
            try clear hcz47_4
            try clear hcz48_0
            try clear hcz48_1
            try clear hcz48_2
            try clear hcz48_3
            try clear hcz48_4
            try clear hcz8_0
            try clear hcz8_1
            try clear hcz8_2
            try clear hcz8_3
            try clear hcz8_4
            try clear hfz10_0
            try clear hfz10_1
            try clear hfz10_2
            try clear hfz10_3
            try clear hfz10_4
            try clear hfz12_0
            try clear hfz12_1
            try clear hfz12_2
            try clear hfz12_3
            try clear hfz12_4
            try clear hfz14_0
            try clear hfz14_1
            try clear hfz14_2
            try clear hfz14_3
            try clear hfz14_4
            try clear hfz16_0
            try clear hfz16_1
            try clear hfz16_2
            try clear hfz16_3
            try clear hfz16_4
            try clear hfz17_0
            try clear hfz17_1
            try clear hfz17_2
            try clear hfz17_3
            try clear hfz17_4
            try clear hfz24_0
            try clear hfz24_1
            try clear hfz24_2
            try clear hfz24_3
            try clear hfz24_4
            try clear hfz25_0
            try clear hfz25_1
            try clear hfz25_2
            try clear hfz25_3
            try clear hfz25_4
            try clear hfz26_0
            try clear hfz26_1
            try clear hfz26_2
            try clear hfz26_3
            try clear hfz26_4
            try clear hfz31_0
            try clear hfz31_1
            try clear hfz31_2
            try clear hfz31_3
            try clear hfz31_4
            try clear hfz32_0
            try clear hfz32_1
            try clear hfz32_2
            try clear hfz32_3
            try clear hfz32_4
            try clear hfz42_0
            try clear hfz42_1
            try clear hfz42_2
            try clear hfz42_3
            try clear hfz42_4
            try clear hfz46_0
            try clear hfz46_1
            try clear hfz46_2
            try clear hfz46_3
            try clear hfz46_4
            try clear hfz47_0
            try clear hfz47_1
            try clear hfz47_2
            try clear hfz47_3
            try clear hfz47_4
            try clear hfz48_0
            try clear hfz48_1
            try clear hfz48_2
            try clear hfz48_3
            try clear hfz48_4
            try clear hfz8_0
            try clear hfz8_1
            try clear hfz8_2
            try clear hfz8_3
            try clear hfz8_4
            try clear p2
            obtain ⟨j5_,rfl,HA,HK5,j2_,j0_,HB⟩:=hrel
            cases gk with
            | zero=>exact absurd HA.out (by simp [abugidaref16_rule.l0])
            | succ k5 =>
             have H:=HA.out
             clear HA
             simp only [abugidaref16_rule.l0] at H
             by_cases c50:j5_<(l0_4.length:Int)
             ·
              rw [if_pos c50] at H
              have c50b0:decide (j5_<(l0_4.length:Int))=true:=decide_eq_true c50
              clear c50
              by_cases c51:0≤j5_
              ·
               rw [if_pos c51] at H
               have c51b0:decide (0≤j5_)=true:=decide_eq_true c51
               clear c51
               by_cases c52:((rd_T60 l0_4 j5_).f0)<0
               ·
                rw [if_pos c52] at H
                have c52b0:decide (((rd_T60 l0_4 j5_).f0)<0)=true:=decide_eq_true c52
                clear c52
                obtain rfl:=Option.some.inj H
                have hcz53_0:wr.cell? ⟨j1_,0,none⟩=some (.slice A0_0 l0_0.length c0_0):=(blk_cell j0_.out 0).trans rfl
                have hcz53_1:wr.cell? ⟨j1_,1,none⟩=some (.slice A0_1 l0_1.length c0_1):=(blk_cell j0_.out 1).trans rfl
                have hcz53_2:wr.cell? ⟨j1_,2,none⟩=some (.slice A0_2 l0_2.length c0_2):=(blk_cell j0_.out 2).trans rfl
                have hcz53_3:wr.cell? ⟨j1_,3,none⟩=some (.slice A0_3 l0_3.length c0_3):=(blk_cell j0_.out 3).trans rfl
                have hcz53_4:wr.cell? ⟨j1_,4,none⟩=some (.slice A0_4 l0_4.length c0_4):=(blk_cell j0_.out 4).trans rfl
                have hfz53_0:=blk_frozen j0_.out 0
                have hfz53_1:=blk_frozen j0_.out 1
                have hfz53_2:=blk_frozen j0_.out 2
                have hfz53_3:=blk_frozen j0_.out 3
                have hfz53_4:=blk_frozen j0_.out 4
                have p524:0≤(j5_:Int):=of_decide_eq_true za73
                have q524:j5_<(l0_4.length:Int):=of_decide_eq_true za73
                obtain ⟨je_,e524,jb_,jc_⟩:=at_T60 HR0_4.out j5_ p524 q524
                cases e524
                replace jb_:=(HB.out.cell (World.block_lt_of_cell? w _ jb_)).trans jb_
                replace jc_:=(HB.out.cell (World.block_lt_of_cell? w _ jc_)).trans jc_
                replace p524:=eq_true p524
                replace q524:=eq_true q524
                go_wp2_with (first|((with_reducible refine gate_dst (N:=13) rfl ?_);(try (refine gate_guard (by rfl) ?_;dsimp only));refine box_event ?hg (N:=13) ?hd (cs:=#[.int .i64 0,.int .i64 0]) (t:=60) ?hr ?_;(case hd=>rfl);(case hg=>rfl);(case hr=>first|(go_simp;done)|(go_simp;rfl));intro j4_ hg w54 hbox hb;have n0_:=Aside0.mk (Kd.V_below (Kd.V_elderB za59 j4_ (Nat.le_of_eq hg.symm)) hb);have n1_:=Aside0.mk (blk_below (g:=j1_) (o:=.cells #[.slice A0_0 l0_0.length c0_0,.slice A0_1 l0_1.length c0_1,.slice A0_2 l0_2.length c0_2,.slice A0_3 l0_3.length c0_3,.slice (some je_) l0_4.length c0_4] 49 (0,0)) za50 hb);have n2_:=Aside0.mk (below_step za34 hb);have n3_:=Aside0.mk (hbox);have n4_:=Aside0.mk ((za25:w.heap.size≤j4_));have n5_:=Aside0.mk ((za25:w.heap.size≤j4_));have n6_:=Aside0.mk ((za2:j1_≠j4_));have n7_:=Aside0.mk ((za3:j4_≠j1_));clear j2_;clear j0_;clear HB;have j2_:=n0_;have j0_:=n1_;have HB:=n2_;have jd_:=n3_;have jn_:=n4_;have ji_:=n5_;have jf_:=n6_;have jg_:=n7_;clear n0_ n1_ n2_ n3_ n4_ n5_ n6_ n7_;clear hb hbox hg;have hnb55:=jg_.out;have hnc55:=jf_.out;have hcz56_0:w54.cell? ⟨j4_,0,none⟩=some (.int .i64 0):=(blk_cell jd_.out 0).trans rfl;have hcz56_1:w54.cell? ⟨j4_,1,none⟩=some (.int .i64 0):=(blk_cell jd_.out 1).trans rfl;have hfz56_0:=blk_frozen jd_.out 0;have hfz56_1:=blk_frozen jd_.out 1))
                go_ret
                exact ⟨by first|rfl|(simp [errW_none,errW_some]<;>rfl)|(simp [*,errW_none,errW_some]<;>rfl),by repeat (first|(with_reducible first|exact HB.out|apply below_alloc|apply pw_below_drewN|apply below_drew1|refine below_set ?_ j3_.out|refine below_set ?_ ji_.out)|exact HB.out)⟩
               ·
                rw [if_neg c52] at H
                have c52b0:decide (((rd_T60 l0_4 j5_).f0)<0)=false:=decide_eq_false c52
                clear c52
                by_cases c57:((rd_T60 l0_4 j5_).f0) ≥ (l0_1.length:Int)
                ·
                 rw [if_pos c57] at H
                 have c57b0:decide ((l0_1.length:Int)≤((rd_T60 l0_4 j5_).f0))=true:=decide_eq_true c57
                 clear c57
                 obtain rfl:=Option.some.inj H
                 have hcz58_0:wr.cell? ⟨j1_,0,none⟩=some (.slice A0_0 l0_0.length c0_0):=(blk_cell j0_.out 0).trans rfl
                 have hcz58_1:wr.cell? ⟨j1_,1,none⟩=some (.slice A0_1 l0_1.length c0_1):=(blk_cell j0_.out 1).trans rfl
                 have hcz58_2:wr.cell? ⟨j1_,2,none⟩=some (.slice A0_2 l0_2.length c0_2):=(blk_cell j0_.out 2).trans rfl
                 have hcz58_3:wr.cell? ⟨j1_,3,none⟩=some (.slice A0_3 l0_3.length c0_3):=(blk_cell j0_.out 3).trans rfl
                 have hcz58_4:wr.cell? ⟨j1_,4,none⟩=some (.slice A0_4 l0_4.length c0_4):=(blk_cell j0_.out 4).trans rfl
                 have hfz58_0:=blk_frozen j0_.out 0
                 have hfz58_1:=blk_frozen j0_.out 1
                 have hfz58_2:=blk_frozen j0_.out 2
                 have hfz58_3:=blk_frozen j0_.out 3
                 have hfz58_4:=blk_frozen j0_.out 4
                 have p524:0≤(j5_:Int):=of_decide_eq_true za73
                 have q524:j5_<(l0_4.length:Int):=of_decide_eq_true za73
                 obtain ⟨je_,e524,jb_,jc_⟩:=at_T60 HR0_4.out j5_ p524 q524
                 cases e524
                 replace jb_:=(HB.out.cell (World.block_lt_of_cell? w _ jb_)).trans jb_
                 replace jc_:=(HB.out.cell (World.block_lt_of_cell? w _ jc_)).trans jc_
                 replace p524:=eq_true p524
                 replace q524:=eq_true q524
                 go_wp2_with (first|((with_reducible refine gate_dst (N:=13) rfl ?_);(try (refine gate_guard (by rfl) ?_;dsimp only));refine box_event ?hg (N:=13) ?hd (cs:=#[.int .i64 0,.int .i64 0]) (t:=60) ?hr ?_;(case hd=>rfl);(case hg=>rfl);(case hr=>first|(go_simp;done)|(go_simp;rfl));intro j4_ hg w59 hbox hb;have n0_:=Aside0.mk (Kd.V_below (Kd.V_elderB za59 j4_ (Nat.le_of_eq hg.symm)) hb);have n1_:=Aside0.mk (blk_below (g:=j1_) (o:=.cells #[.slice A0_0 l0_0.length c0_0,.slice A0_1 l0_1.length c0_1,.slice A0_2 l0_2.length c0_2,.slice A0_3 l0_3.length c0_3,.slice (some je_) l0_4.length c0_4] 49 (0,0)) za50 hb);have n2_:=Aside0.mk (below_step za34 hb);have n3_:=Aside0.mk (hbox);have n4_:=Aside0.mk ((za25:w.heap.size≤j4_));have n5_:=Aside0.mk ((za25:w.heap.size≤j4_));have n6_:=Aside0.mk ((za2:j1_≠j4_));have n7_:=Aside0.mk ((za3:j4_≠j1_));clear j2_;clear j0_;clear HB;have j2_:=n0_;have j0_:=n1_;have HB:=n2_;have jd_:=n3_;have jn_:=n4_;have ji_:=n5_;have jf_:=n6_;have jg_:=n7_;clear n0_ n1_ n2_ n3_ n4_ n5_ n6_ n7_;clear hb hbox hg;have hnb60:=jg_.out;have hnc60:=jf_.out;have hcz61_0:w59.cell? ⟨j4_,0,none⟩=some (.int .i64 0):=(blk_cell jd_.out 0).trans rfl;have hcz61_1:w59.cell? ⟨j4_,1,none⟩=some (.int .i64 0):=(blk_cell jd_.out 1).trans rfl;have hfz61_0:=blk_frozen jd_.out 0;have hfz61_1:=blk_frozen jd_.out 1;have hcz62_0:w59.cell? ⟨j1_,0,none⟩=some (.slice A0_0 l0_0.length c0_0):=(blk_cell j0_.out 0).trans rfl;have hcz62_1:w59.cell? ⟨j1_,1,none⟩=some (.slice A0_1 l0_1.length c0_1):=(blk_cell j0_.out 1).trans rfl;have hcz62_2:w59.cell? ⟨j1_,2,none⟩=some (.slice A0_2 l0_2.length c0_2):=(blk_cell j0_.out 2).trans rfl;have hcz62_3:w59.cell? ⟨j1_,3,none⟩=some (.slice A0_3 l0_3.length c0_3):=(blk_cell j0_.out 3).trans rfl;have hcz62_4:w59.cell? ⟨j1_,4,none⟩=some (.slice (some je_) l0_4.length c0_4):=(blk_cell j0_.out 4).trans rfl;have hfz62_0:=blk_frozen j0_.out 0;have hfz62_1:=blk_frozen j0_.out 1;have hfz62_2:=blk_frozen j0_.out 2;have hfz62_3:=blk_frozen j0_.out 3;have hfz62_4:=blk_frozen j0_.out 4))
                 go_ret
                 exact ⟨by first|rfl|(simp [errW_none,errW_some]<;>rfl)|(simp [*,errW_none,errW_some]<;>rfl),by repeat (first|(with_reducible first|exact HB.out|apply below_alloc|apply pw_below_drewN|apply below_drew1|refine below_set ?_ j3_.out|refine below_set ?_ ji_.out)|exact HB.out)⟩
                ·
                 rw [if_neg c57] at H
                 have c57b0:decide ((l0_1.length:Int)≤((rd_T60 l0_4 j5_).f0))=false:=decide_eq_false c57
                 clear c57
                 by_cases c63:((rd_T60 l0_4 j5_).f1)≤a1
                 ·
                  rw [if_pos c63] at H
                  have c63b0:decide (((rd_T60 l0_4 j5_).f1)≤a1)=true:=decide_eq_true c63
                  clear c63
                  obtain rfl:=Option.some.inj H
                  have hcz64_0:wr.cell? ⟨j1_,0,none⟩=some (.slice A0_0 l0_0.length c0_0):=(blk_cell j0_.out 0).trans rfl
                  have hcz64_1:wr.cell? ⟨j1_,1,none⟩=some (.slice A0_1 l0_1.length c0_1):=(blk_cell j0_.out 1).trans rfl
                  have hcz64_2:wr.cell? ⟨j1_,2,none⟩=some (.slice A0_2 l0_2.length c0_2):=(blk_cell j0_.out 2).trans rfl
                  have hcz64_3:wr.cell? ⟨j1_,3,none⟩=some (.slice A0_3 l0_3.length c0_3):=(blk_cell j0_.out 3).trans rfl
                  have hcz64_4:wr.cell? ⟨j1_,4,none⟩=some (.slice A0_4 l0_4.length c0_4):=(blk_cell j0_.out 4).trans rfl
                  have hfz64_0:=blk_frozen j0_.out 0
                  have hfz64_1:=blk_frozen j0_.out 1
                  have hfz64_2:=blk_frozen j0_.out 2
                  have hfz64_3:=blk_frozen j0_.out 3
                  have hfz64_4:=blk_frozen j0_.out 4
                  have p524:0≤(j5_:Int):=of_decide_eq_true za73
                  have q524:j5_<(l0_4.length:Int):=of_decide_eq_true za73
                  obtain ⟨je_,e524,jb_,jc_⟩:=at_T60 HR0_4.out j5_ p524 q524
                  cases e524
                  replace jb_:=(HB.out.cell (World.block_lt_of_cell? w _ jb_)).trans jb_
                  replace jc_:=(HB.out.cell (World.block_lt_of_cell? w _ jc_)).trans jc_
                  replace p524:=eq_true p524
                  replace q524:=eq_true q524
                  go_wp2_with (first|((with_reducible refine gate_dst (N:=13) rfl ?_);(try (refine gate_guard (by rfl) ?_;dsimp only));refine box_event ?hg (N:=13) ?hd (cs:=#[.int .i64 0,.int .i64 0]) (t:=60) ?hr ?_;(case hd=>rfl);(case hg=>rfl);(case hr=>first|(go_simp;done)|(go_simp;rfl));intro j4_ hg w65 hbox hb;have n0_:=Aside0.mk (Kd.V_below (Kd.V_elderB za59 j4_ (Nat.le_of_eq hg.symm)) hb);have n1_:=Aside0.mk (blk_below (g:=j1_) (o:=.cells #[.slice A0_0 l0_0.length c0_0,.slice A0_1 l0_1.length c0_1,.slice A0_2 l0_2.length c0_2,.slice A0_3 l0_3.length c0_3,.slice (some je_) l0_4.length c0_4] 49 (0,0)) za50 hb);have n2_:=Aside0.mk (below_step za34 hb);have n3_:=Aside0.mk (hbox);have n4_:=Aside0.mk ((za25:w.heap.size≤j4_));have n5_:=Aside0.mk ((za25:w.heap.size≤j4_));have n6_:=Aside0.mk ((za2:j1_≠j4_));have n7_:=Aside0.mk ((za3:j4_≠j1_));clear j2_;clear j0_;clear HB;have j2_:=n0_;have j0_:=n1_;have HB:=n2_;have jd_:=n3_;have jn_:=n4_;have ji_:=n5_;have jf_:=n6_;have jg_:=n7_;clear n0_ n1_ n2_ n3_ n4_ n5_ n6_ n7_;clear hb hbox hg;have hnb66:=jg_.out;have hnc66:=jf_.out;have hcz67_0:w65.cell? ⟨j4_,0,none⟩=some (.int .i64 0):=(blk_cell jd_.out 0).trans rfl;have hcz67_1:w65.cell? ⟨j4_,1,none⟩=some (.int .i64 0):=(blk_cell jd_.out 1).trans rfl;have hfz67_0:=blk_frozen jd_.out 0;have hfz67_1:=blk_frozen jd_.out 1;have hcz68_0:w65.cell? ⟨j1_,0,none⟩=some (.slice A0_0 l0_0.length c0_0):=(blk_cell j0_.out 0).trans rfl;have hcz68_1:w65.cell? ⟨j1_,1,none⟩=some (.slice A0_1 l0_1.length c0_1):=(blk_cell j0_.out 1).trans rfl;have hcz68_2:w65.cell? ⟨j1_,2,none⟩=some (.slice A0_2 l0_2.length c0_2):=(blk_cell j0_.out 2).trans rfl;have hcz68_3:w65.cell? ⟨j1_,3,none⟩=some (.slice A0_3 l0_3.length c0_3):=(blk_cell j0_.out 3).trans rfl;have hcz68_4:w65.cell? ⟨j1_,4,none⟩=some (.slice (some je_) l0_4.length c0_4):=(blk_cell j0_.out 4).trans rfl;have hfz68_0:=blk_frozen j0_.out 0;have hfz68_1:=blk_frozen j0_.out 1;have hfz68_2:=blk_frozen j0_.out 2;have hfz68_3:=blk_frozen j0_.out 3;have hfz68_4:=blk_frozen j0_.out 4))
                  go_ret
                  exact ⟨by first|rfl|(simp [errW_none,errW_some]<;>rfl)|(simp [*,errW_none,errW_some]<;>rfl),by repeat (first|(with_reducible first|exact HB.out|apply below_alloc|apply pw_below_drewN|apply below_drew1|refine below_set ?_ j3_.out|refine below_set ?_ ji_.out)|exact HB.out)⟩
                 ·
                  rw [if_neg c63] at H
                  have c63b0:decide (((rd_T60 l0_4 j5_).f1)≤a1)=false:=decide_eq_false c63
                  clear c63
                  by_cases c69:((rd_T60 l0_4 j5_).f1) ≥ a2
                  ·
                   rw [if_pos c69] at H
                   have c69b0:decide (a2≤((rd_T60 l0_4 j5_).f1))=true:=decide_eq_true c69
                   clear c69
                   obtain rfl:=Option.some.inj H
                   have hcz70_0:wr.cell? ⟨j1_,0,none⟩=some (.slice A0_0 l0_0.length c0_0):=(blk_cell j0_.out 0).trans rfl
                   have hcz70_1:wr.cell? ⟨j1_,1,none⟩=some (.slice A0_1 l0_1.length c0_1):=(blk_cell j0_.out 1).trans rfl
                   have hcz70_2:wr.cell? ⟨j1_,2,none⟩=some (.slice A0_2 l0_2.length c0_2):=(blk_cell j0_.out 2).trans rfl
                   have hcz70_3:wr.cell? ⟨j1_,3,none⟩=some (.slice A0_3 l0_3.length c0_3):=(blk_cell j0_.out 3).trans rfl
                   have hcz70_4:wr.cell? ⟨j1_,4,none⟩=some (.slice A0_4 l0_4.length c0_4):=(blk_cell j0_.out 4).trans rfl
                   have hfz70_0:=blk_frozen j0_.out 0
                   have hfz70_1:=blk_frozen j0_.out 1
                   have hfz70_2:=blk_frozen j0_.out 2
                   have hfz70_3:=blk_frozen j0_.out 3
                   have hfz70_4:=blk_frozen j0_.out 4
                   have p524:0≤(j5_:Int):=of_decide_eq_true za73
                   have q524:j5_<(l0_4.length:Int):=of_decide_eq_true za73
                   obtain ⟨je_,e524,jb_,jc_⟩:=at_T60 HR0_4.out j5_ p524 q524
                   cases e524
                   replace jb_:=(HB.out.cell (World.block_lt_of_cell? w _ jb_)).trans jb_
                   replace jc_:=(HB.out.cell (World.block_lt_of_cell? w _ jc_)).trans jc_
                   replace p524:=eq_true p524
                   replace q524:=eq_true q524
                   go_wp2_with (first|((with_reducible refine gate_dst (N:=13) rfl ?_);(try (refine gate_guard (by rfl) ?_;dsimp only));refine box_event ?hg (N:=13) ?hd (cs:=#[.int .i64 0,.int .i64 0]) (t:=60) ?hr ?_;(case hd=>rfl);(case hg=>rfl);(case hr=>first|(go_simp;done)|(go_simp;rfl));intro j4_ hg w71 hbox hb;have n0_:=Aside0.mk (Kd.V_below (Kd.V_elderB za59 j4_ (Nat.le_of_eq hg.symm)) hb);have n1_:=Aside0.mk (blk_below (g:=j1_) (o:=.cells #[.slice A0_0 l0_0.length c0_0,.slice A0_1 l0_1.length c0_1,.slice A0_2 l0_2.length c0_2,.slice A0_3 l0_3.length c0_3,.slice (some je_) l0_4.length c0_4] 49 (0,0)) za50 hb);have n2_:=Aside0.mk (below_step za34 hb);have n3_:=Aside0.mk (hbox);have n4_:=Aside0.mk ((za25:w.heap.size≤j4_));have n5_:=Aside0.mk ((za25:w.heap.size≤j4_));have n6_:=Aside0.mk ((za2:j1_≠j4_));have n7_:=Aside0.mk ((za3:j4_≠j1_));clear j2_;clear j0_;clear HB;have j2_:=n0_;have j0_:=n1_;have HB:=n2_;have jd_:=n3_;have jn_:=n4_;have ji_:=n5_;have jf_:=n6_;have jg_:=n7_;clear n0_ n1_ n2_ n3_ n4_ n5_ n6_ n7_;clear hb hbox hg;have hnb72:=jg_.out;have hnc72:=jf_.out;have hcz73_0:w71.cell? ⟨j4_,0,none⟩=some (.int .i64 0):=(blk_cell jd_.out 0).trans rfl;have hcz73_1:w71.cell? ⟨j4_,1,none⟩=some (.int .i64 0):=(blk_cell jd_.out 1).trans rfl;have hfz73_0:=blk_frozen jd_.out 0;have hfz73_1:=blk_frozen jd_.out 1;have hcz74_0:w71.cell? ⟨j1_,0,none⟩=some (.slice A0_0 l0_0.length c0_0):=(blk_cell j0_.out 0).trans rfl;have hcz74_1:w71.cell? ⟨j1_,1,none⟩=some (.slice A0_1 l0_1.length c0_1):=(blk_cell j0_.out 1).trans rfl;have hcz74_2:w71.cell? ⟨j1_,2,none⟩=some (.slice A0_2 l0_2.length c0_2):=(blk_cell j0_.out 2).trans rfl;have hcz74_3:w71.cell? ⟨j1_,3,none⟩=some (.slice A0_3 l0_3.length c0_3):=(blk_cell j0_.out 3).trans rfl;have hcz74_4:w71.cell? ⟨j1_,4,none⟩=some (.slice (some je_) l0_4.length c0_4):=(blk_cell j0_.out 4).trans rfl;have hfz74_0:=blk_frozen j0_.out 0;have hfz74_1:=blk_frozen j0_.out 1;have hfz74_2:=blk_frozen j0_.out 2;have hfz74_3:=blk_frozen j0_.out 3;have hfz74_4:=blk_frozen j0_.out 4))
                   go_ret
                   exact ⟨by first|rfl|(simp [errW_none,errW_some]<;>rfl)|(simp [*,errW_none,errW_some]<;>rfl),by repeat (first|(with_reducible first|exact HB.out|apply below_alloc|apply pw_below_drewN|apply below_drew1|refine below_set ?_ j3_.out|refine below_set ?_ ji_.out)|exact HB.out)⟩
                  ·
                   rw [if_neg c69] at H
                   have c69b0:decide (a2≤((rd_T60 l0_4 j5_).f1))=false:=decide_eq_false c69
                   clear c69
                   have H':=Aside0.mk H
                   clear H
                   have hcz75_0:wr.cell? ⟨j1_,0,none⟩=some (.slice A0_0 l0_0.length c0_0):=(blk_cell j0_.out 0).trans rfl
                   have hcz75_1:wr.cell? ⟨j1_,1,none⟩=some (.slice A0_1 l0_1.length c0_1):=(blk_cell j0_.out 1).trans rfl
                   have hcz75_2:wr.cell? ⟨j1_,2,none⟩=some (.slice A0_2 l0_2.length c0_2):=(blk_cell j0_.out 2).trans rfl
                   have hcz75_3:wr.cell? ⟨j1_,3,none⟩=some (.slice A0_3 l0_3.length c0_3):=(blk_cell j0_.out 3).trans rfl
                   have hcz75_4:wr.cell? ⟨j1_,4,none⟩=some (.slice A0_4 l0_4.length c0_4):=(blk_cell j0_.out 4).trans rfl
                   have hfz75_0:=blk_frozen j0_.out 0
                   have hfz75_1:=blk_frozen j0_.out 1
                   have hfz75_2:=blk_frozen j0_.out 2
                   have hfz75_3:=blk_frozen j0_.out 3
                   have hfz75_4:=blk_frozen j0_.out 4
                   have p524:0≤(j5_:Int):=of_decide_eq_true za73
                   have q524:j5_<(l0_4.length:Int):=of_decide_eq_true za73
                   obtain ⟨je_,e524,jb_,jc_⟩:=at_T60 HR0_4.out j5_ p524 q524
                   cases e524
                   replace jb_:=(HB.out.cell (World.block_lt_of_cell? w _ jb_)).trans jb_
                   replace jc_:=(HB.out.cell (World.block_lt_of_cell? w _ jc_)).trans jc_
                   replace p524:=eq_true p524
                   replace q524:=eq_true q524
                   go_wp2_with (first|((with_reducible refine gate_dst (N:=13) rfl ?_);(try (refine gate_guard (by rfl) ?_;dsimp only));refine box_event ?hg (N:=13) ?hd (cs:=#[.int .i64 0,.int .i64 0]) (t:=60) ?hr ?_;(case hd=>rfl);(case hg=>rfl);(case hr=>first|(go_simp;done)|(go_simp;rfl));intro j4_ hg w76 hbox hb;have n0_:=Aside0.mk (Kd.V_below (Kd.V_elderB za59 j4_ (Nat.le_of_eq hg.symm)) hb);have n1_:=Aside0.mk (blk_below (g:=j1_) (o:=.cells #[.slice A0_0 l0_0.length c0_0,.slice A0_1 l0_1.length c0_1,.slice A0_2 l0_2.length c0_2,.slice A0_3 l0_3.length c0_3,.slice (some je_) l0_4.length c0_4] 49 (0,0)) za50 hb);have n2_:=Aside0.mk (below_step za34 hb);have n3_:=Aside0.mk (hbox);have n4_:=Aside0.mk ((za25:w.heap.size≤j4_));have n5_:=Aside0.mk ((za25:w.heap.size≤j4_));have n6_:=Aside0.mk ((za2:j1_≠j4_));have n7_:=Aside0.mk ((za3:j4_≠j1_));clear j2_;clear j0_;clear HB;have j2_:=n0_;have j0_:=n1_;have HB:=n2_;have jd_:=n3_;have jn_:=n4_;have ji_:=n5_;have jf_:=n6_;have jg_:=n7_;clear n0_ n1_ n2_ n3_ n4_ n5_ n6_ n7_;clear hb hbox hg;have hnb77:=jg_.out;have hnc77:=jf_.out;have hcz78_0:w76.cell? ⟨j4_,0,none⟩=some (.int .i64 0):=(blk_cell jd_.out 0).trans rfl;have hcz78_1:w76.cell? ⟨j4_,1,none⟩=some (.int .i64 0):=(blk_cell jd_.out 1).trans rfl;have hfz78_0:=blk_frozen jd_.out 0;have hfz78_1:=blk_frozen jd_.out 1;have hcz79_0:w76.cell? ⟨j1_,0,none⟩=some (.slice A0_0 l0_0.length c0_0):=(blk_cell j0_.out 0).trans rfl;have hcz79_1:w76.cell? ⟨j1_,1,none⟩=some (.slice A0_1 l0_1.length c0_1):=(blk_cell j0_.out 1).trans rfl;have hcz79_2:w76.cell? ⟨j1_,2,none⟩=some (.slice A0_2 l0_2.length c0_2):=(blk_cell j0_.out 2).trans rfl;have hcz79_3:w76.cell? ⟨j1_,3,none⟩=some (.slice A0_3 l0_3.length c0_3):=(blk_cell j0_.out 3).trans rfl;have hcz79_4:w76.cell? ⟨j1_,4,none⟩=some (.slice (some je_) l0_4.length c0_4):=(blk_cell j0_.out 4).trans rfl;have hfz79_0:=blk_frozen j0_.out 0;have hfz79_1:=blk_frozen j0_.out 1;have hfz79_2:=blk_frozen j0_.out 2;have hfz79_3:=blk_frozen j0_.out 3;have hfz79_4:=blk_frozen j0_.out 4))
                   go_roundg k5
                   case measure=>have:=HJ4.out;have:=HJ17.out;have:=HJ26.out;have:=HJ33.out;have:=HK5.out;omega
                   case rel=>exact ⟨(wrap64 (j5_+1)),za76,H',⟨by have:=HJ4.out;have:=HJ17.out;have:=HJ26.out;have:=HJ33.out;have:=HK5.out;omega⟩,⟨by (with_reducible repeat (first|apply Kd.V_alloc|apply Kd.V_drewN|apply Kd.V_drew));exact Kd.V_mono (Kd.V_far (p:=⟨j4_,1,none⟩) (Kd.V_far (p:=⟨j4_,0,none⟩) (Kd.V_mono j2_.out (fun k_ hk=>(⟨hk,hk.2⟩:_∧k_≠j4_))) (fun _ hk=>hk.2) (.int .i64 ((rd_T60 l0_4 j5_).f0))) (fun _ hk=>hk.2) (.int .i64 ((rd_T60 l0_4 j5_).f1))) (fun _ hk=>⟨hk.1.1.1,hk.1.1.2⟩)⟩,⟨by (with_reducible repeat (first|refine blk_drewN ?_ _|refine blk_drew ?_|refine blk_alloc ?_ _));refine blk_far ?_ jf_.out _;(with_reducible repeat (first|refine blk_drewN ?_ _|refine blk_drew ?_|refine blk_alloc ?_ _));refine blk_far ?_ jf_.out _;(with_reducible repeat (first|refine blk_drewN ?_ _|refine blk_drew ?_|refine blk_alloc ?_ _));exact j0_.out⟩,⟨by repeat (first|(with_reducible first|exact HB.out|apply below_alloc|apply pw_below_drewN|apply below_drew1|refine below_set ?_ j3_.out|refine below_set ?_ ji_.out)|exact HB.out)⟩⟩
              ·
               rw [if_neg c51] at H
               exact absurd H (by simp)
             ·
              rw [if_neg c50] at H
              have c50b0:decide (j5_<(l0_4.length:Int))=false:=decide_eq_false c50
              clear c50
              obtain rfl:=Option.some.inj H
              have hcz80_0:wr.cell? ⟨j1_,0,none⟩=some (.slice A0_0 l0_0.length c0_0):=(blk_cell j0_.out 0).trans rfl
              have hcz80_1:wr.cell? ⟨j1_,1,none⟩=some (.slice A0_1 l0_1.length c0_1):=(blk_cell j0_.out 1).trans rfl
              have hcz80_2:wr.cell? ⟨j1_,2,none⟩=some (.slice A0_2 l0_2.length c0_2):=(blk_cell j0_.out 2).trans rfl
              have hcz80_3:wr.cell? ⟨j1_,3,none⟩=some (.slice A0_3 l0_3.length c0_3):=(blk_cell j0_.out 3).trans rfl
              have hcz80_4:wr.cell? ⟨j1_,4,none⟩=some (.slice A0_4 l0_4.length c0_4):=(blk_cell j0_.out 4).trans rfl
              have hfz80_0:=blk_frozen j0_.out 0
              have hfz80_1:=blk_frozen j0_.out 1
              have hfz80_2:=blk_frozen j0_.out 2
              have hfz80_3:=blk_frozen j0_.out 3
              have hfz80_4:=blk_frozen j0_.out 4
              go_wp2
              go_ret
              exact ⟨by first|rfl|(simp [errW_none,errW_some]<;>rfl)|(simp [*,errW_none,errW_some]<;>rfl),by repeat (first|(with_reducible first|exact HB.out|apply below_alloc|apply pw_below_drewN|apply below_drew1|refine below_set ?_ j3_.out)|exact HB.out)⟩
          ·
           replace c49:=Bool.eq_false_iff.mpr c49
           subst c49
           have H1:(some 30)=some r:=by rw [if_neg (show ¬ (false=true) by decide)] at H;exact H
           clear H
           have H:=H1
           clear H1
           obtain rfl:=Option.some.inj H
           go_wp2
           go_ret
           exact ⟨by first|rfl|(simp [errW_none,errW_some]<;>rfl)|(simp [*,errW_none,errW_some]<;>rfl),by repeat (first|(with_reducible first|exact HB.out|apply below_alloc|apply pw_below_drewN|apply below_drew1|refine below_set ?_ j3_.out)|exact HB.out)⟩
end Go.Proofs.Ytlgkeaildncojaa.Q
end
