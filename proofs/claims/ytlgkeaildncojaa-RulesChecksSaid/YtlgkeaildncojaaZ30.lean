/- Texts of this claim, merged by wip/tools/pack.py: Qx19, Qx20, Mr, Ma, Rr, Rhw, Ode. -/
import Derived.Test.YtlgkeaildncojaaZ29
section
namespace Go.Proofs.Ytlgkeaildncojaa.Q
open Go.RowKit Go.Proofs.YtlgkeaildncojaaW.PrintWords Go.Proofs.YtlgkeaildncojaaW.PrintLast Go.Proofs.YtlgkeaildncojaaW.PrintMore
attribute [local go_sem] max2_int min2_int max_two min_two max_three min_three max_four min_four   -- for this text's walks alone
set_option linter.unusedVariables false
set_option linter.unusedSimpArgs false
mutual
def abugidaref16_Check.j0:Nat→Int→Int→Int→Bool→List (S49)→Option (Int)
 | 0,_,_,_,_,_=>none
 | k+1,x1,x2,x3,x33,j3_=>if x33=true then (some 1) else (if (j3_.length:Int) > 8 then (some 2) else (abugidaref16_Check.l0 k x1 x2 x3 0 j3_))
def abugidaref16_Check.l0:Nat→Int→Int→Int→Int→List (S49)→Option (Int)
 | 0,_,_,_,_,_=>none
 | k+1,x1,x2,x3,x9,j3_=>if x9<(j3_.length:Int) then (if 0≤x9 then ((abugidaref16_rule.f k ((rd_T49 j3_ x9).f0) ((rd_T49 j3_ x9).f1) ((rd_T49 j3_ x9).f2) ((rd_T49 j3_ x9).f3) ((rd_T49 j3_ x9).f4) x1 x2 x3).bind fun t528=>(if t528=0 then (abugidaref16_Check.l0 k x1 x2 x3 (wrap64 (x9+1)) j3_) else (some t528))) else (none)) else (some 0)
end
def abugidaref16_Check.f (k:Nat) (l0_0:List (S49)) (a1:Int) (a2:Int) (a3:Int):Option (Int):=if a2<1 then (abugidaref16_Check.j0 k a1 a2 a3 true l0_0) else (if a2 > 12 then (abugidaref16_Check.j0 k a1 a2 a3 true l0_0) else (if a1<0 then (abugidaref16_Check.j0 k a1 a2 a3 true l0_0) else (if a1 ≥ a2 then (abugidaref16_Check.j0 k a1 a2 a3 true l0_0) else (if a3<1 then (abugidaref16_Check.j0 k a1 a2 a3 true l0_0) else (abugidaref16_Check.j0 k a1 a2 a3 (decide (a3 > 100)) l0_0)))))
theorem abugidaref16_Check.mono_l:∀ k,(∀ y0 y1 y2 y3 y4,LeO (abugidaref16_Check.j0 k y0 y1 y2 y3 y4) (abugidaref16_Check.j0 (k+1) y0 y1 y2 y3 y4))∧(∀ y0 y1 y2 y3 y4,LeO (abugidaref16_Check.l0 k y0 y1 y2 y3 y4) (abugidaref16_Check.l0 (k+1) y0 y1 y2 y3 y4))
 | 0=>⟨fun _ _ _ _ _ r h=>by simp [abugidaref16_Check.j0] at h,fun _ _ _ _ _ r h=>by simp [abugidaref16_Check.l0] at h⟩
 | k+1=>by
  obtain ⟨ih0,ih1⟩:=abugidaref16_Check.mono_l k
  refine ⟨?_,?_⟩
  ·
   intro y0 y1 y2 y3 y4
   unfold abugidaref16_Check.j0
   repeat' first
   | (with_reducible exact ih0 _ _ _ _ _)
   | (with_reducible exact ih1 _ _ _ _ _)
   | (with_reducible exact abugidaref16_rule.mono _ _ _ _ _ _ _ _ _)
   | (with_reducible exact LeO.refl _)
   | (with_reducible exact LeO.none _)
   | (with_reducible refine LeO.ite ?_ ?_)
   | (with_reducible refine LeO.bind ?_ (fun _=>?_))
   | exact ih0 _ _ _ _ _
   | exact ih1 _ _ _ _ _
   | exact abugidaref16_rule.mono _ _ _ _ _ _ _ _ _
   | exact LeO.none _
   | refine LeO.ite ?_ ?_
   | refine LeO.bind ?_ (fun _=>?_)
  ·
   intro y0 y1 y2 y3 y4
   unfold abugidaref16_Check.l0
   repeat' first
   | (with_reducible exact ih0 _ _ _ _ _)
   | (with_reducible exact ih1 _ _ _ _ _)
   | (with_reducible exact abugidaref16_rule.mono _ _ _ _ _ _ _ _ _)
   | (with_reducible exact LeO.refl _)
   | (with_reducible exact LeO.none _)
   | (with_reducible refine LeO.ite ?_ ?_)
   | (with_reducible refine LeO.bind ?_ (fun _=>?_))
   | exact ih0 _ _ _ _ _
   | exact ih1 _ _ _ _ _
   | exact abugidaref16_rule.mono _ _ _ _ _ _ _ _ _
   | exact LeO.none _
   | refine LeO.ite ?_ ?_
   | refine LeO.bind ?_ (fun _=>?_)
theorem abugidaref16_Check.mono:∀ a0 a1 a2 a3 k,LeO (abugidaref16_Check.f k a0 a1 a2 a3) (abugidaref16_Check.f (k+1) a0 a1 a2 a3):=by
 intro a0 a1 a2 a3 k
 obtain ⟨ih0,ih1⟩:=abugidaref16_Check.mono_l k
 unfold abugidaref16_Check.f
 repeat' first
   | (with_reducible exact ih0 _ _ _ _ _)
   | (with_reducible exact ih1 _ _ _ _ _)
   | (with_reducible exact abugidaref16_rule.mono _ _ _ _ _ _ _ _ _)
   | (with_reducible exact LeO.refl _)
   | (with_reducible exact LeO.none _)
   | (with_reducible refine LeO.ite ?_ ?_)
   | (with_reducible refine LeO.bind ?_ (fun _=>?_))
   | exact ih0 _ _ _ _ _
   | exact ih1 _ _ _ _ _
   | exact abugidaref16_rule.mono _ _ _ _ _ _ _ _ _
   | exact LeO.none _
   | refine LeO.ite ?_ ?_
   | refine LeO.bind ?_ (fun _=>?_)
set_option maxHeartbeats 8000000 in
set_option maxRecDepth 100000 in
theorem abugidaref16_Check.calls (k:Nat) (A0_0:Option Addr) (c0_0:Nat) (l0_0:List (S49)) (a1:Int) (a2:Int) (a3:Int) (r:Int) (w:World) (hr0_0:Kd.C k49 w A0_0 l0_0.length l0_0) (hc0_0:l0_0.length≤c0_0) (h:abugidaref16_Check.f k l0_0 a1 a2 a3=some r) :
  Calls Try.prog 17 #[.agg #[.slice A0_0 l0_0.length c0_0],.int .i64 a1,.int .i64 a2,.int .i64 a3] w fun e w'=>e=.returned (.int .i64 r)∧Below w.heap.size w w':=by
 have hu24:=Try.underlying24
 have hu49:=Try.underlying49
 have HR0_0:=Aside0.mk hr0_0
 have HC0_0:=Aside0.mk hc0_0
 clear hr0_0 hc0_0
 have HB:=Aside0.mk (Below.refl w.heap.size w)
 have H:(if a2<1 then (abugidaref16_Check.j0 k a1 a2 a3 true l0_0) else (if a2 > 12 then (abugidaref16_Check.j0 k a1 a2 a3 true l0_0) else (if a1<0 then (abugidaref16_Check.j0 k a1 a2 a3 true l0_0) else (if a1 ≥ a2 then (abugidaref16_Check.j0 k a1 a2 a3 true l0_0) else (if a3<1 then (abugidaref16_Check.j0 k a1 a2 a3 true l0_0) else (abugidaref16_Check.j0 k a1 a2 a3 (decide (a3 > 100)) l0_0))))))=some r:=h
 clear h
 have HC5:=Aside0.mk H
 clear H
 go_enter Try.func17,Try.ntmps17
 go_upto_region 1 with (first|((with_reducible refine gate_dst (N:=4) rfl ?_);refine box_event ?hg (N:=4) ?hd (cs:=#[.slice A0_0 l0_0.length c0_0]) (t:=24) ?hr ?_;(case hd=>rfl);(case hg=>rfl);(case hr=>first|(go_simp;done)|(go_simp;rfl));intro j9_ hg w6 hbox hb;have n0_:=Aside0.mk (below_step za40 hb);have n1_:=Aside0.mk (hbox);have n2_:=Aside0.mk ((za31:w.heap.size≤j9_));have n3_:=Aside0.mk ((za31:w.heap.size≤j9_));clear HB;have HB:=n0_;have j0_:=n1_;have j2o:=n2_;have j2_:=n3_;clear n0_ n1_ n2_ n3_;clear hb hbox hg))
 (try simp only [Act.put,List.setIfInBounds_toArray,List.set_cons_zero,List.set_cons_succ])
 go_cut [33] (fun v33 wc=>∃ (kq:Nat) (jz_:Bool),v33=.bool jz_∧Aside0 (abugidaref16_Check.j0 kq a1 a2 a3 jz_ l0_0=some r)∧Aside0 (kq≤k)∧Aside0 (wc.heap[j9_]?=some (.cells #[(.slice A0_0 l0_0.length c0_0)] 24 (0,0)))∧Aside0 (Below w.heap.size w wc))
 case first =>
  have H:=HC5.out
  clear HC5
  by_cases c7:a2<1
  ·
   rw [if_pos c7] at H
   have c7b0:decide (a2<1)=true:=decide_eq_true c7
   clear c7
   (first|rw [c7b0]|(simp only [i64_w,i32_w];rw [c7b0])|skip)
   have H':=Aside0.mk H
   clear H
   go_wp2
   go_meet
   case rel=>exact ⟨_,(true),za76,H',⟨by first|omega|exact Nat.le_refl _⟩,⟨by (with_reducible repeat (first|refine blk_drewN ?_ _|refine blk_drew ?_|refine blk_alloc ?_ _));exact j0_.out⟩,⟨by repeat (first|(with_reducible first|exact HB.out|apply below_alloc|apply pw_below_drewN|apply below_drew1|refine below_set ?_ j2_.out)|exact HB.out)⟩⟩
  ·
   rw [if_neg c7] at H
   have c7b0:decide (a2<1)=false:=decide_eq_false c7
   clear c7
   (first|rw [c7b0]|(simp only [i64_w,i32_w];rw [c7b0])|skip)
   by_cases c8:a2 > 12
   ·
    rw [if_pos c8] at H
    have c8b0:decide (12<a2)=true:=decide_eq_true c8
    clear c8
    have H':=Aside0.mk H
    clear H
    go_wp2
    go_meet
    case rel=>exact ⟨_,(true),za76,H',⟨by first|omega|exact Nat.le_refl _⟩,⟨by (with_reducible repeat (first|refine blk_drewN ?_ _|refine blk_drew ?_|refine blk_alloc ?_ _));exact j0_.out⟩,⟨by repeat (first|(with_reducible first|exact HB.out|apply below_alloc|apply pw_below_drewN|apply below_drew1|refine below_set ?_ j2_.out)|exact HB.out)⟩⟩
   ·
    rw [if_neg c8] at H
    have c8b0:decide (12<a2)=false:=decide_eq_false c8
    clear c8
    by_cases c9:a1<0
    ·
     rw [if_pos c9] at H
     have c9b0:decide (a1<0)=true:=decide_eq_true c9
     clear c9
     have H':=Aside0.mk H
     clear H
     go_wp2
     go_meet
     case rel=>exact ⟨_,(true),za76,H',⟨by first|omega|exact Nat.le_refl _⟩,⟨by (with_reducible repeat (first|refine blk_drewN ?_ _|refine blk_drew ?_|refine blk_alloc ?_ _));exact j0_.out⟩,⟨by repeat (first|(with_reducible first|exact HB.out|apply below_alloc|apply pw_below_drewN|apply below_drew1|refine below_set ?_ j2_.out)|exact HB.out)⟩⟩
    ·
     rw [if_neg c9] at H
     have c9b0:decide (a1<0)=false:=decide_eq_false c9
     clear c9
     by_cases c10:a1 ≥ a2
     ·
      rw [if_pos c10] at H
      have c10b0:decide (a2≤a1)=true:=decide_eq_true c10
      clear c10
      have H':=Aside0.mk H
      clear H
      go_wp2
      go_meet
      case rel=>exact ⟨_,(true),za76,H',⟨by first|omega|exact Nat.le_refl _⟩,⟨by (with_reducible repeat (first|refine blk_drewN ?_ _|refine blk_drew ?_|refine blk_alloc ?_ _));exact j0_.out⟩,⟨by repeat (first|(with_reducible first|exact HB.out|apply below_alloc|apply pw_below_drewN|apply below_drew1|refine below_set ?_ j2_.out)|exact HB.out)⟩⟩
     ·
      rw [if_neg c10] at H
      have c10b0:decide (a2≤a1)=false:=decide_eq_false c10
      clear c10
      by_cases c11:a3<1
      ·
       rw [if_pos c11] at H
       have c11b0:decide (a3<1)=true:=decide_eq_true c11
       clear c11
       have H':=Aside0.mk H
       clear H
       go_wp2
       go_meet
       case rel=>exact ⟨_,(true),za76,H',⟨by first|omega|exact Nat.le_refl _⟩,⟨by (with_reducible repeat (first|refine blk_drewN ?_ _|refine blk_drew ?_|refine blk_alloc ?_ _));exact j0_.out⟩,⟨by repeat (first|(with_reducible first|exact HB.out|apply below_alloc|apply pw_below_drewN|apply below_drew1|refine below_set ?_ j2_.out)|exact HB.out)⟩⟩
      ·
       rw [if_neg c11] at H
       have c11b0:decide (a3<1)=false:=decide_eq_false c11
       clear c11
       have H':=Aside0.mk H
       clear H
       go_wp2
       go_meet
       case rel=>exact ⟨_,(decide (a3 > 100)),za76,H',⟨by first|omega|exact Nat.le_refl _⟩,⟨by (with_reducible repeat (first|refine blk_drewN ?_ _|refine blk_drew ?_|refine blk_alloc ?_ _));exact j0_.out⟩,⟨by repeat (first|(with_reducible first|exact HB.out|apply below_alloc|apply pw_below_drewN|apply below_drew1|refine below_set ?_ j2_.out)|exact HB.out)⟩⟩
 case rest =>
  clear HC5
  try clear c1
  try clear p2
  try clear c7
  try clear c7b0
  try clear c8
  try clear c8b0
  try clear c9
  try clear c9b0
  try clear c10
  try clear c10b0
  try clear c11
  try clear c11b0
  obtain ⟨kq,jz_,rfl,HA,HJ4,j0_,HB⟩:=hcut
  cases kq with
  | zero=>exact absurd HA.out (by simp [abugidaref16_Check.j0])
  | succ kj4 =>
   have H:=HA.out
   clear HA
   simp only [abugidaref16_Check.j0] at H
   by_cases c12:jz_=true
   ·
    subst c12
    have H1:(some 1)=some r:=by rw [if_pos rfl] at H;exact H
    clear H
    have H:=H1
    clear H1
    obtain rfl:=Option.some.inj H
    go_wp2
    go_ret
    exact ⟨by first|rfl|(simp [errW_none,errW_some]<;>rfl)|(simp [*,errW_none,errW_some]<;>rfl),by repeat (first|(with_reducible first|exact HB.out|apply below_alloc|apply pw_below_drewN|apply below_drew1|refine below_set ?_ j2_.out)|exact HB.out)⟩
   ·
    replace c12:=Bool.eq_false_iff.mpr c12
    subst c12
    have H1:(if (l0_0.length:Int) > 8 then (some 2) else (abugidaref16_Check.l0 kj4 a1 a2 a3 0 l0_0))=some r:=by rw [if_neg (show ¬ (false=true) by decide)] at H;exact H
    clear H
    have H:=H1
    clear H1
    by_cases c13:(l0_0.length:Int) > 8
    ·
     rw [if_pos c13] at H
     have c13b0:decide (8<(l0_0.length:Int))=true:=decide_eq_true c13
     have c13b1:decide (8<l0_0.length)=true:=decide_eq_true (by omega)
     clear c13
     obtain rfl:=Option.some.inj H
     have hcz14_0:wc.cell? ⟨j9_,0,none⟩=some (.slice A0_0 l0_0.length c0_0):=(blk_cell j0_.out 0).trans rfl
     have hfz14_0:=blk_frozen j0_.out 0
     go_wp2
     go_ret
     exact ⟨by first|rfl|(simp [errW_none,errW_some]<;>rfl)|(simp [*,errW_none,errW_some]<;>rfl),by repeat (first|(with_reducible first|exact HB.out|apply below_alloc|apply pw_below_drewN|apply below_drew1|refine below_set ?_ j2_.out)|exact HB.out)⟩
    ·
     rw [if_neg c13] at H
     have c13b0:decide (8<(l0_0.length:Int))=false:=decide_eq_false c13
     have c13b1:decide (8<l0_0.length)=false:=decide_eq_false (by omega)
     clear c13
     have H':=Aside0.mk H
     clear H
     have hcz15_0:wc.cell? ⟨j9_,0,none⟩=some (.slice A0_0 l0_0.length c0_0):=(blk_cell j0_.out 0).trans rfl
     have hfz15_0:=blk_frozen j0_.out 0
     go_wp2
     go_loopg [9] kj4 (fun kq v9 w'=>∃ (x9_2:Int),v9=.int .i64 x9_2∧Aside0 (abugidaref16_Check.l0 kq a1 a2 a3 x9_2 l0_0=some r)∧Aside0 (kq≤kj4)∧Aside0 (w'.heap[j9_]?=some (.cells #[(.slice A0_0 l0_0.length c0_0)] 24 (0,0)))∧Aside0 (Below w.heap.size w w'))
     case atStart=>exact ⟨(0),za76,H',⟨Nat.le_refl _⟩,⟨by (with_reducible repeat (first|refine blk_drewN ?_ _|refine blk_drew ?_|refine blk_alloc ?_ _));exact j0_.out⟩,⟨by repeat (first|(with_reducible first|exact HB.out|apply below_alloc|apply pw_below_drewN|apply below_drew1|refine below_set ?_ j2_.out)|exact HB.out)⟩⟩
     case round =>
      clear H'
      try clear c1
      try clear p2
      try clear c7
      try clear c7b0
      try clear c8
      try clear c8b0
      try clear c9
      try clear c9b0
      try clear c10
      try clear c10b0
      try clear c11
      try clear c11b0
      try clear c12
      try clear c13
      try clear c13b0
      try clear c13b1
      try clear hcz14_0
      try clear hcz15_0
      try clear hfz14_0
      try clear hfz15_0
      try clear p2
      obtain ⟨x9_2,rfl,HA,HK2,j0_,HB⟩:=hrel
      cases gk with
      | zero=>exact absurd HA.out (by simp [abugidaref16_Check.l0])
      | succ k2 =>
       have H:=HA.out
       clear HA
       simp only [abugidaref16_Check.l0] at H
       by_cases c16:x9_2<(l0_0.length:Int)
       ·
        rw [if_pos c16] at H
        have c16b0:decide (x9_2<(l0_0.length:Int))=true:=decide_eq_true c16
        clear c16
        by_cases c17:0≤x9_2
        ·
         rw [if_pos c17] at H
         have c17b0:decide (0≤x9_2)=true:=decide_eq_true c17
         clear c17
         replace H:=Option.bind_eq_some_iff.mp H
         obtain ⟨t528,A180,H⟩:=H
         replace H:(if t528=0 then (abugidaref16_Check.l0 k2 a1 a2 a3 (wrap64 (x9_2+1)) l0_0) else (some t528))=some r:=H
         have A18:=Aside0.mk A180
         clear A180
         by_cases c19:t528=0
         ·
          rw [if_pos c19] at H
          have c19b0:(t528==0)=true:=beq_iff_eq.mpr c19
          have c19b1:(t528 != 0)=false:=bne_eq_false_iff_eq.mpr c19
          clear c19
          have H':=Aside0.mk H
          clear H
          have hcz20_0:wr.cell? ⟨j9_,0,none⟩=some (.slice A0_0 l0_0.length c0_0):=(blk_cell j0_.out 0).trans rfl
          have hfz20_0:=blk_frozen j0_.out 0
          have p527:0≤(x9_2:Int):=of_decide_eq_true za73
          have q527:x9_2<(l0_0.length:Int):=of_decide_eq_true za73
          obtain ⟨j1a,j10,j11,j12,j13,j14,j15,j16,j17,j18,j19,e527,ja_,jb_,jc_,jd_,je_,hl527_0,hi527_0,hl527_1,hi527_1,hl527_2,hi527_2,hl527_3,hi527_3,hl527_4,hi527_4⟩:=at_T49 HR0_0.out x9_2 p527 q527
          cases e527
          replace ja_:=(HB.out.cell (World.block_lt_of_cell? w _ ja_)).trans ja_
          replace jb_:=(HB.out.cell (World.block_lt_of_cell? w _ jb_)).trans jb_
          replace jc_:=(HB.out.cell (World.block_lt_of_cell? w _ jc_)).trans jc_
          replace jd_:=(HB.out.cell (World.block_lt_of_cell? w _ jd_)).trans jd_
          replace je_:=(HB.out.cell (World.block_lt_of_cell? w _ je_)).trans je_
          have jp_:=Aside0.mk hi527_0
          have jq_:=Aside0.mk hl527_0
          clear hi527_0 hl527_0
          have jr_:=Aside0.mk hi527_1
          have js_:=Aside0.mk hl527_1
          clear hi527_1 hl527_1
          have jt_:=Aside0.mk hi527_2
          have ju_:=Aside0.mk hl527_2
          clear hi527_2 hl527_2
          have jv_:=Aside0.mk hi527_3
          have jw_:=Aside0.mk hl527_3
          clear hi527_3 hl527_3
          have jx_:=Aside0.mk hi527_4
          have jy_:=Aside0.mk hl527_4
          clear hi527_4 hl527_4
          replace p527:=eq_true p527
          replace q527:=eq_true q527
          go_wp2_with (first|((with_reducible refine gate_callee (f:=35) rfl ?_);refine goesL_ (some 53) rfl rfl Try.func35 (by kernel_rfl) rfl #[.agg #[.slice j10 ((rd_T49 l0_0 x9_2).f0).length j11,.slice j12 ((rd_T49 l0_0 x9_2).f1).length j13,.slice j14 ((rd_T49 l0_0 x9_2).f2).length j15,.slice j16 ((rd_T49 l0_0 x9_2).f3).length j17,.slice j18 ((rd_T49 l0_0 x9_2).f4).length j19],.int .i64 a1,.int .i64 a2,.int .i64 a3] rfl za39 ?_;(with_reducible refine (abugidaref16_rule.calls k2 _ _ ((rd_T49 l0_0 x9_2).f0) _ _ ((rd_T49 l0_0 x9_2).f1) _ _ ((rd_T49 l0_0 x9_2).f2) (fun k_=>k_<w.heap.size) _ _ ((rd_T49 l0_0 x9_2).f3) _ _ ((rd_T49 l0_0 x9_2).f4) a1 a2 a3 t528 _ ?side1 ?side2 ?side3 ?side4 ?side5 ?side6 ?side7 ?side8 ?side9 A18.out).mono ?_);(case side1=>repeat (first|exact (Kd.C_below jp_.out HB.out)|(with_reducible refine Kd.C_alloc ?_ _)|(with_reducible refine Kd.C_drewN ?_ _)|(with_reducible refine Kd.C_drew ?_)));(case side2=>exact jq_.out);(case side3=>repeat (first|exact (Kd.C_below jr_.out HB.out)|(with_reducible refine Kd.C_alloc ?_ _)|(with_reducible refine Kd.C_drewN ?_ _)|(with_reducible refine Kd.C_drew ?_)));(case side4=>exact js_.out);(case side5=>repeat (first|exact (Kd.C_below jt_.out HB.out)|(with_reducible refine Kd.C_alloc ?_ _)|(with_reducible refine Kd.C_drewN ?_ _)|(with_reducible refine Kd.C_drew ?_)));(case side6=>exact ju_.out);(case side7=>exact Kd.V_mk jw_.out (Kd.F_below (Kd.C_F (Kd.heap_int .i64) jv_.out) za35));(case side8=>repeat (first|exact (Kd.C_below jx_.out HB.out)|(with_reducible refine Kd.C_alloc ?_ _)|(with_reducible refine Kd.C_drewN ?_ _)|(with_reducible refine Kd.C_drew ?_)));(case side9=>exact jy_.out);rintro e w21 ⟨rfl,hb⟩;refine ⟨_,rfl,?_⟩;have n0_:=Aside0.mk (blk_below (g:=j9_) (o:=.cells #[.slice (some j1a) l0_0.length c0_0] 24 (0,0)) za50 hb);have n1_:=Aside0.mk (below_step za35 hb);clear j0_;clear HB;have j0_:=n0_;have HB:=n1_;clear n0_ n1_;(try clear hb);(try clear hb2);(try clear hk);(try clear hi)))
          go_roundg k2
          case measure=>have:=HJ4.out;have:=HK2.out;omega
          case rel=>exact ⟨(wrap64 (x9_2+1)),za76,H',⟨by have:=HJ4.out;have:=HK2.out;omega⟩,⟨by (with_reducible repeat (first|refine blk_drewN ?_ _|refine blk_drew ?_|refine blk_alloc ?_ _));exact j0_.out⟩,⟨by repeat (first|(with_reducible first|exact HB.out|apply below_alloc|apply pw_below_drewN|apply below_drew1|refine below_set ?_ j2_.out)|exact HB.out)⟩⟩
         ·
          rw [if_neg c19] at H
          have c19b0:(t528==0)=false:=beq_eq_false_iff_ne.mpr c19
          have c19b1:(t528 != 0)=true:=bne_iff_ne.mpr c19
          obtain rfl:=Option.some.inj H
          have hcz22_0:wr.cell? ⟨j9_,0,none⟩=some (.slice A0_0 l0_0.length c0_0):=(blk_cell j0_.out 0).trans rfl
          have hfz22_0:=blk_frozen j0_.out 0
          have p527:0≤(x9_2:Int):=of_decide_eq_true za73
          have q527:x9_2<(l0_0.length:Int):=of_decide_eq_true za73
          obtain ⟨j1a,j10,j11,j12,j13,j14,j15,j16,j17,j18,j19,e527,ja_,jb_,jc_,jd_,je_,hl527_0,hi527_0,hl527_1,hi527_1,hl527_2,hi527_2,hl527_3,hi527_3,hl527_4,hi527_4⟩:=at_T49 HR0_0.out x9_2 p527 q527
          cases e527
          replace ja_:=(HB.out.cell (World.block_lt_of_cell? w _ ja_)).trans ja_
          replace jb_:=(HB.out.cell (World.block_lt_of_cell? w _ jb_)).trans jb_
          replace jc_:=(HB.out.cell (World.block_lt_of_cell? w _ jc_)).trans jc_
          replace jd_:=(HB.out.cell (World.block_lt_of_cell? w _ jd_)).trans jd_
          replace je_:=(HB.out.cell (World.block_lt_of_cell? w _ je_)).trans je_
          have jp_:=Aside0.mk hi527_0
          have jq_:=Aside0.mk hl527_0
          clear hi527_0 hl527_0
          have jr_:=Aside0.mk hi527_1
          have js_:=Aside0.mk hl527_1
          clear hi527_1 hl527_1
          have jt_:=Aside0.mk hi527_2
          have ju_:=Aside0.mk hl527_2
          clear hi527_2 hl527_2
          have jv_:=Aside0.mk hi527_3
          have jw_:=Aside0.mk hl527_3
          clear hi527_3 hl527_3
          have jx_:=Aside0.mk hi527_4
          have jy_:=Aside0.mk hl527_4
          clear hi527_4 hl527_4
          replace p527:=eq_true p527
          replace q527:=eq_true q527
          go_wp2_with (first|((with_reducible refine gate_callee (f:=35) rfl ?_);refine goesL_ (some 53) rfl rfl Try.func35 (by kernel_rfl) rfl #[.agg #[.slice j10 ((rd_T49 l0_0 x9_2).f0).length j11,.slice j12 ((rd_T49 l0_0 x9_2).f1).length j13,.slice j14 ((rd_T49 l0_0 x9_2).f2).length j15,.slice j16 ((rd_T49 l0_0 x9_2).f3).length j17,.slice j18 ((rd_T49 l0_0 x9_2).f4).length j19],.int .i64 a1,.int .i64 a2,.int .i64 a3] rfl za39 ?_;(with_reducible refine (abugidaref16_rule.calls k2 _ _ ((rd_T49 l0_0 x9_2).f0) _ _ ((rd_T49 l0_0 x9_2).f1) _ _ ((rd_T49 l0_0 x9_2).f2) (fun k_=>k_<w.heap.size) _ _ ((rd_T49 l0_0 x9_2).f3) _ _ ((rd_T49 l0_0 x9_2).f4) a1 a2 a3 t528 _ ?side1 ?side2 ?side3 ?side4 ?side5 ?side6 ?side7 ?side8 ?side9 A18.out).mono ?_);(case side1=>repeat (first|exact (Kd.C_below jp_.out HB.out)|(with_reducible refine Kd.C_alloc ?_ _)|(with_reducible refine Kd.C_drewN ?_ _)|(with_reducible refine Kd.C_drew ?_)));(case side2=>exact jq_.out);(case side3=>repeat (first|exact (Kd.C_below jr_.out HB.out)|(with_reducible refine Kd.C_alloc ?_ _)|(with_reducible refine Kd.C_drewN ?_ _)|(with_reducible refine Kd.C_drew ?_)));(case side4=>exact js_.out);(case side5=>repeat (first|exact (Kd.C_below jt_.out HB.out)|(with_reducible refine Kd.C_alloc ?_ _)|(with_reducible refine Kd.C_drewN ?_ _)|(with_reducible refine Kd.C_drew ?_)));(case side6=>exact ju_.out);(case side7=>exact Kd.V_mk jw_.out (Kd.F_below (Kd.C_F (Kd.heap_int .i64) jv_.out) za35));(case side8=>repeat (first|exact (Kd.C_below jx_.out HB.out)|(with_reducible refine Kd.C_alloc ?_ _)|(with_reducible refine Kd.C_drewN ?_ _)|(with_reducible refine Kd.C_drew ?_)));(case side9=>exact jy_.out);rintro e w23 ⟨rfl,hb⟩;refine ⟨_,rfl,?_⟩;have n0_:=Aside0.mk (blk_below (g:=j9_) (o:=.cells #[.slice (some j1a) l0_0.length c0_0] 24 (0,0)) za50 hb);have n1_:=Aside0.mk (below_step za35 hb);clear j0_;clear HB;have j0_:=n0_;have HB:=n1_;clear n0_ n1_;(try clear hb);(try clear hb2);(try clear hk);(try clear hi)))
          go_ret
          exact ⟨by first|rfl|(simp [errW_none,errW_some]<;>rfl)|(simp [*,errW_none,errW_some]<;>rfl),by repeat (first|(with_reducible first|exact HB.out|apply below_alloc|apply pw_below_drewN|apply below_drew1|refine below_set ?_ j2_.out)|exact HB.out)⟩
        ·
         rw [if_neg c17] at H
         exact absurd H (by simp)
       ·
        rw [if_neg c16] at H
        have c16b0:decide (x9_2<(l0_0.length:Int))=false:=decide_eq_false c16
        clear c16
        obtain rfl:=Option.some.inj H
        have hcz24_0:wr.cell? ⟨j9_,0,none⟩=some (.slice A0_0 l0_0.length c0_0):=(blk_cell j0_.out 0).trans rfl
        have hfz24_0:=blk_frozen j0_.out 0
        go_wp2
        go_ret
        exact ⟨by first|rfl|(simp [errW_none,errW_some]<;>rfl)|(simp [*,errW_none,errW_some]<;>rfl),by repeat (first|(with_reducible first|exact HB.out|apply below_alloc|apply pw_below_drewN|apply below_drew1|refine below_set ?_ j2_.out)|exact HB.out)⟩
def abugidaref16_First.l0:Nat→List Int→Int→List (S49)→Option (List Int)
 | 0,_,_,_=>none
 | k+1,x3,x4,jf_=>if x4<(jf_.length:Int) then (if 0≤x4 then (if (((rd_T49 jf_ x4).f1).length:Int) > 0 then (if 0<(((rd_T49 jf_ x4).f1).length:Int) then (if x3.length+(rd_L1 ((rd_T49 jf_ x4).f1) 0).length<17592186044416 then (abugidaref16_First.l0 k (x3++(rd_L1 ((rd_T49 jf_ x4).f1) 0)) (wrap64 (x4+1)) jf_) else (none)) else (none)) else (abugidaref16_First.l0 k x3 (wrap64 (x4+1)) jf_)) else (none)) else ((abugidaref15_Norm.f k x3).bind fun t536=>(some t536))
def abugidaref16_First.f (k:Nat) (l0_0:List (S49)):Option (List Int):=abugidaref16_First.l0 k ([]:List Int) 0 l0_0
theorem abugidaref16_First.mono_l:∀ k,(∀ y0 y1 y2,LeO (abugidaref16_First.l0 k y0 y1 y2) (abugidaref16_First.l0 (k+1) y0 y1 y2))
 | 0=>fun _ _ _ r h=>by simp [abugidaref16_First.l0] at h
 | k+1=>by
  have ih0:=abugidaref16_First.mono_l k
  ·
   intro y0 y1 y2
   unfold abugidaref16_First.l0
   repeat' first
   | (with_reducible exact ih0 _ _ _)
   | (with_reducible exact abugidaref15_Norm.mono _ _)
   | (with_reducible exact LeO.refl _)
   | (with_reducible exact LeO.none _)
   | (with_reducible refine LeO.ite ?_ ?_)
   | (with_reducible refine LeO.bind ?_ (fun _=>?_))
   | exact ih0 _ _ _
   | exact abugidaref15_Norm.mono _ _
   | exact LeO.none _
   | refine LeO.ite ?_ ?_
   | refine LeO.bind ?_ (fun _=>?_)
theorem abugidaref16_First.mono:∀ a0 k,LeO (abugidaref16_First.f k a0) (abugidaref16_First.f (k+1) a0):=by
 intro a0 k
 have ih0:=abugidaref16_First.mono_l k
 unfold abugidaref16_First.f
 repeat' first
   | (with_reducible exact ih0 _ _ _)
   | (with_reducible exact abugidaref15_Norm.mono _ _)
   | (with_reducible exact LeO.refl _)
   | (with_reducible exact LeO.none _)
   | (with_reducible refine LeO.ite ?_ ?_)
   | (with_reducible refine LeO.bind ?_ (fun _=>?_))
   | exact ih0 _ _ _
   | exact abugidaref15_Norm.mono _ _
   | exact LeO.none _
   | refine LeO.ite ?_ ?_
   | refine LeO.bind ?_ (fun _=>?_)
set_option maxHeartbeats 8000000 in
set_option maxRecDepth 100000 in
theorem abugidaref16_First.calls (k:Nat) (A0_0:Option Addr) (c0_0:Nat) (l0_0:List (S49)) (r:List Int) (w:World) (hr0_0:Kd.C k49 w A0_0 l0_0.length l0_0) (hc0_0:l0_0.length≤c0_0) (h:abugidaref16_First.f k l0_0=some r) :
  Calls Try.prog 20 #[.agg #[.slice A0_0 l0_0.length c0_0]] w fun e w'=>∃ v0_:Value,e=.returned (v0_)∧Kd.R (Kd.int .i64) 3 w' w.heap.size (fun _=>True) v0_ r∧Below w.heap.size w w':=by
 have hu24:=Try.underlying24
 have HR0_0:=Aside0.mk hr0_0
 have HC0_0:=Aside0.mk hc0_0
 clear hr0_0 hc0_0
 have HB:=Aside0.mk (Below.refl w.heap.size w)
 have H:(abugidaref16_First.l0 k ([]:List Int) 0 l0_0)=some r:=h
 clear h
 have H':=Aside0.mk H
 clear H
 go_enter Try.func20,Try.ntmps20
 go_wp2_with (first|((with_reducible refine gate_dst (N:=1) rfl ?_);refine box_event ?hg (N:=1) ?hd (cs:=#[.slice A0_0 l0_0.length c0_0]) (t:=24) ?hr ?_;(case hd=>rfl);(case hg=>rfl);(case hr=>first|(go_simp;done)|(go_simp;rfl));intro jg_ hg w2 hbox hb;have n0_:=Aside0.mk (below_step za40 hb);have n1_:=Aside0.mk (hbox);have n2_:=Aside0.mk ((za31:w.heap.size≤jg_));have n3_:=Aside0.mk ((za31:w.heap.size≤jg_));clear HB;have HB:=n0_;have j1_:=n1_;have j2p:=n2_;have jh_:=n3_;clear n0_ n1_ n2_ n3_;clear hb hbox hg))
 go_loopg [3,4] k (fun kq v3 v4 w'=>∃ (x3_1:List Int) (x4_1:Int),v4=.int .i64 x4_1∧Aside0 (abugidaref16_First.l0 kq x3_1 x4_1 l0_0=some r)∧Aside0 (kq≤k)∧Aside0 (Kd.R (Kd.int .i64) 3 w' w.heap.size (fun _=>True) v3 x3_1)∧Aside0 (w'.heap[jg_]?=some (.cells #[(.slice A0_0 l0_0.length c0_0)] 24 (0,0)))∧Aside0 (Below w.heap.size w w'))
 case atStart=>exact ⟨(([]:List Int)),(0),za76,H',⟨Nat.le_refl _⟩,⟨by first|exact Kd.R_nil _ _ _ _ _|exact Kd.N_nil _ _ _ _ _|exact Kd.V_nil _ _ _ _ _|exact Kd.Q_nil _ _ _ _ _|exact Kd.S_nil _ _ _ _ _⟩,⟨by (with_reducible repeat (first|refine blk_drewN ?_ _|refine blk_drew ?_|refine blk_alloc ?_ _));exact j1_.out⟩,⟨by repeat (first|(with_reducible first|exact HB.out|apply below_alloc|apply pw_below_drewN|apply below_drew1|refine below_set ?_ jh_.out)|exact HB.out)⟩⟩
 case round =>
  clear H'
  try clear c2
  try clear p2
  obtain ⟨x3_1,x4_1,rfl,HA,HK1,HO_3,j1_,HB⟩:=hrel
  cases gk with
  | zero=>exact absurd HA.out (by simp [abugidaref16_First.l0])
  | succ k1 =>
   have H:=HA.out
   clear HA
   simp only [abugidaref16_First.l0] at H
   by_cases c3:x4_1<(l0_0.length:Int)
   ·
    rw [if_pos c3] at H
    have c3b0:decide (x4_1<(l0_0.length:Int))=true:=decide_eq_true c3
    clear c3
    by_cases c4:0≤x4_1
    ·
     rw [if_pos c4] at H
     have c4b0:decide (0≤x4_1)=true:=decide_eq_true c4
     clear c4
     by_cases c5:(((rd_T49 l0_0 x4_1).f1).length:Int) > 0
     ·
      rw [if_pos c5] at H
      have c5b0:decide (0<(((rd_T49 l0_0 x4_1).f1).length:Int))=true:=decide_eq_true c5
      have c5b1:decide (0<((rd_T49 l0_0 x4_1).f1).length)=true:=decide_eq_true (by omega)
      clear c5
      by_cases c6:0<(((rd_T49 l0_0 x4_1).f1).length:Int)
      ·
       rw [if_pos c6] at H
       have c6b0:decide (0<(((rd_T49 l0_0 x4_1).f1).length:Int))=true:=decide_eq_true c6
       have c6b1:decide (0<((rd_T49 l0_0 x4_1).f1).length)=true:=decide_eq_true (by omega)
       clear c6
       by_cases c7:x3_1.length+(rd_L1 ((rd_T49 l0_0 x4_1).f1) 0).length<17592186044416
       ·
        rw [if_pos c7] at H
        have LMc7:=Aside0.mk c7
        clear c7
        obtain ⟨y533,jo_⟩:∃ y_:List Int,y_=(x3_1++(rd_L1 ((rd_T49 l0_0 x4_1).f1) 0)):=⟨_,rfl⟩
        replace H:(abugidaref16_First.l0 k1 y533 (wrap64 (x4_1+1)) l0_0)=some r:=by first|(rw [jo_];with_reducible exact H)|(have H2_:=(Option.bind_some _ _).symm.trans H;rw [jo_];with_reducible exact H2_)|(have H2_:=(Option.bind_some _ _).symm.trans H;with_reducible exact H2_)|with_reducible exact H|(rw [jo_];exact H)|exact H
        have j1y:=Aside0.mk jo_
        clear jo_
        have H':=Aside0.mk H
        clear H
        have hcz8_0:wr.cell? ⟨jg_,0,none⟩=some (.slice A0_0 l0_0.length c0_0):=(blk_cell j1_.out 0).trans rfl
        have hfz8_0:=blk_frozen j1_.out 0
        have p530:0≤(x4_1:Int):=of_decide_eq_true za73
        have q530:x4_1<(l0_0.length:Int):=of_decide_eq_true za73
        obtain ⟨j1b,j1o,j1p,j1q,j1r,j1s,j1t,j1u,j1v,j1w,j1x,e530,j4_,j5_,j6_,j7_,j8_,hl530_0,hi530_0,hl530_1,hi530_1,hl530_2,hi530_2,hl530_3,hi530_3,hl530_4,hi530_4⟩:=at_T49 HR0_0.out x4_1 p530 q530
        cases e530
        replace j4_:=(HB.out.cell (World.block_lt_of_cell? w _ j4_)).trans j4_
        replace j5_:=(HB.out.cell (World.block_lt_of_cell? w _ j5_)).trans j5_
        replace j6_:=(HB.out.cell (World.block_lt_of_cell? w _ j6_)).trans j6_
        replace j7_:=(HB.out.cell (World.block_lt_of_cell? w _ j7_)).trans j7_
        replace j8_:=(HB.out.cell (World.block_lt_of_cell? w _ j8_)).trans j8_
        have j1c:=Aside0.mk hi530_0
        have j1d:=Aside0.mk hl530_0
        clear hi530_0 hl530_0
        have j1e:=Aside0.mk hi530_1
        have j1f:=Aside0.mk hl530_1
        clear hi530_1 hl530_1
        have j1g:=Aside0.mk hi530_2
        have j1h:=Aside0.mk hl530_2
        clear hi530_2 hl530_2
        have j1i:=Aside0.mk hi530_3
        have j1j:=Aside0.mk hl530_3
        clear hi530_3 hl530_3
        have j1k:=Aside0.mk hi530_4
        have j1l:=Aside0.mk hl530_4
        clear hi530_4 hl530_4
        replace p530:=eq_true p530
        replace q530:=eq_true q530
        have p531:0≤(x4_1:Int):=of_decide_eq_true za73
        have q531:x4_1<(l0_0.length:Int):=of_decide_eq_true za73
        obtain ⟨j1z,j2c,j2d,j2e,j2f,j2g,j2h,j2i,j2j,j2k,j2l,e531,jj_,jk_,jl_,jm_,jn_,hl531_0,hi531_0,hl531_1,hi531_1,hl531_2,hi531_2,hl531_3,hi531_3,hl531_4,hi531_4⟩:=at_T49 HR0_0.out x4_1 p531 q531
        obtain rfl:j1b=j1z:=(by injection e531)
        replace jj_:=(HB.out.cell (World.block_lt_of_cell? w _ jj_)).trans jj_
        replace jk_:=(HB.out.cell (World.block_lt_of_cell? w _ jk_)).trans jk_
        replace jl_:=(HB.out.cell (World.block_lt_of_cell? w _ jl_)).trans jl_
        replace jm_:=(HB.out.cell (World.block_lt_of_cell? w _ jm_)).trans jm_
        replace jn_:=(HB.out.cell (World.block_lt_of_cell? w _ jn_)).trans jn_
        have j22:=Aside0.mk hi531_0
        have j23:=Aside0.mk hl531_0
        clear hi531_0 hl531_0
        have j1m:=Aside0.mk hi531_1
        have j24:=Aside0.mk hl531_1
        clear hi531_1 hl531_1
        have j25:=Aside0.mk hi531_2
        have j26:=Aside0.mk hl531_2
        clear hi531_2 hl531_2
        have j27:=Aside0.mk hi531_3
        have j28:=Aside0.mk hl531_3
        clear hi531_3 hl531_3
        have j29:=Aside0.mk hi531_4
        have j2a:=Aside0.mk hl531_4
        clear hi531_4 hl531_4
        replace p531:=eq_true p531
        replace q531:=eq_true q531
        have ea_:=Option.some.inj (j4_.symm.trans jj_)
        injection ea_ with ea_ en_ ec_
        subst ea_
        subst ec_
        clear en_
        have ea_:=Option.some.inj (j5_.symm.trans jk_)
        injection ea_ with ea_ en_ ec_
        subst ea_
        subst ec_
        clear en_
        have ea_:=Option.some.inj (j6_.symm.trans jl_)
        injection ea_ with ea_ en_ ec_
        subst ea_
        subst ec_
        clear en_
        have ea_:=Option.some.inj (j7_.symm.trans jm_)
        injection ea_ with ea_ en_ ec_
        subst ea_
        subst ec_
        clear en_
        have ea_:=Option.some.inj (j8_.symm.trans jn_)
        injection ea_ with ea_ en_ ec_
        subst ea_
        subst ec_
        clear en_
        have p532:0≤(0:Int):=(by omega)
        have q532:0<(((rd_T49 l0_0 x4_1).f1).length:Int):=of_decide_eq_true za73
        obtain ⟨j2q,j2m,j2n,e532,ji_,hl532_0,hi532_0⟩:=at_L1 j1m.out 0 p532 q532
        cases e532
        have qi532:(0<((rd_T49 l0_0 x4_1).f1).length)=True:=eq_true (by omega)
        (try rw [show ((0:Int)).toNat=0 from rfl] at ji_)
        (try rw [Addr.add_zero'] at ji_)
        replace ji_:=(HB.out.cell (World.block_lt_of_cell? w _ ji_)).trans ji_
        have j1n:=Aside0.mk hi532_0
        have j2b:=Aside0.mk hl532_0
        clear hi532_0 hl532_0
        replace p532:=eq_true p532
        replace q532:=eq_true q532
        go_wp2_with (first|((with_reducible refine gate_builtin (b:=.append) (xs:=#[.tmp 20,.tmp 28]) rfl ?_);at_builtin;refine Kd.R_append_rows (Kd.int .i64) (w0:=w) w.heap.size rfl (.tmp 20) (.tmp 28) 26 3 (.int .i64 0) 8 rfl Try.underlying26 info3 rfl (by decide) (by omega) u3 x3_1 (rd_L1 ((rd_T49 l0_0 x4_1).f1) 0) _ _ _ (fun _=>True) (fun _=>False) rfl rfl ?aO ?aR (fun _ _ h=>h) (fun _ h=>h.elim) ?aF ?aB ?aS ?aL ?_;(case aR=>repeat (first|exact (Kd.C_below j1n.out HB.out)|(with_reducible refine Kd.C_alloc ?_ _)|(with_reducible refine Kd.C_drewN ?_ _)|(with_reducible refine Kd.C_drew ?_)));(case aB=>exact za36);(case aF=>exact (fun _ _=>trivial));(case aO=>exact za53);(case aS=>exact (below_size za36));(case aL=>have:=LMc7.out;omega);intro v534 w9 ho hb hg hat;rw [← j1y.out] at ho;have n0_:=Aside0.mk (blk_grown (g:=jg_) (o:=.cells #[.slice (some j1b) l0_0.length c0_0] 24 (0,0)) (by (with_reducible repeat (first|refine blk_drewN ?_ _|refine blk_drew ?_|refine blk_alloc ?_ _));exact j1_.out) hg (Kd.R_ne HO_3.out j1_.out (by decide)));have n1_:=Aside0.mk (hb);have n2_:=Aside0.mk (ho);clear j1_;clear HB;clear HO_3;have j1_:=n0_;have HB:=n1_;have j20:=n2_;clear n0_ n1_ n2_;clear ho hb hg hat))
        go_roundg k1
        case measure=>have:=HK1.out;omega
        case rel=>exact ⟨(y533),(wrap64 (x4_1+1)),za76,H',⟨by have:=HK1.out;omega⟩,⟨by (with_reducible repeat (first|apply Kd.R_alloc|apply Kd.R_drewN|apply Kd.R_drew));exact j20.out⟩,⟨by (with_reducible repeat (first|refine blk_drewN ?_ _|refine blk_drew ?_|refine blk_alloc ?_ _));exact j1_.out⟩,⟨by repeat (first|(with_reducible first|exact HB.out|apply below_alloc|apply pw_below_drewN|apply below_drew1|refine below_set ?_ jh_.out)|exact HB.out)⟩⟩
       ·
        rw [if_neg c7] at H
        exact absurd H (by simp)
      ·
       rw [if_neg c6] at H
       exact absurd H (by simp)
     ·
      rw [if_neg c5] at H
      have c5b0:decide (0<(((rd_T49 l0_0 x4_1).f1).length:Int))=false:=decide_eq_false c5
      have c5b1:decide (0<((rd_T49 l0_0 x4_1).f1).length)=false:=decide_eq_false (by omega)
      clear c5
      have H':=Aside0.mk H
      clear H
      have hcz10_0:wr.cell? ⟨jg_,0,none⟩=some (.slice A0_0 l0_0.length c0_0):=(blk_cell j1_.out 0).trans rfl
      have hfz10_0:=blk_frozen j1_.out 0
      have p530:0≤(x4_1:Int):=of_decide_eq_true za73
      have q530:x4_1<(l0_0.length:Int):=of_decide_eq_true za73
      obtain ⟨j1b,j1o,j1p,j1q,j1r,j1s,j1t,j1u,j1v,j1w,j1x,e530,j4_,j5_,j6_,j7_,j8_,hl530_0,hi530_0,hl530_1,hi530_1,hl530_2,hi530_2,hl530_3,hi530_3,hl530_4,hi530_4⟩:=at_T49 HR0_0.out x4_1 p530 q530
      cases e530
      replace j4_:=(HB.out.cell (World.block_lt_of_cell? w _ j4_)).trans j4_
      replace j5_:=(HB.out.cell (World.block_lt_of_cell? w _ j5_)).trans j5_
      replace j6_:=(HB.out.cell (World.block_lt_of_cell? w _ j6_)).trans j6_
      replace j7_:=(HB.out.cell (World.block_lt_of_cell? w _ j7_)).trans j7_
      replace j8_:=(HB.out.cell (World.block_lt_of_cell? w _ j8_)).trans j8_
      have j1c:=Aside0.mk hi530_0
      have j1d:=Aside0.mk hl530_0
      clear hi530_0 hl530_0
      have j1e:=Aside0.mk hi530_1
      have j1f:=Aside0.mk hl530_1
      clear hi530_1 hl530_1
      have j1g:=Aside0.mk hi530_2
      have j1h:=Aside0.mk hl530_2
      clear hi530_2 hl530_2
      have j1i:=Aside0.mk hi530_3
      have j1j:=Aside0.mk hl530_3
      clear hi530_3 hl530_3
      have j1k:=Aside0.mk hi530_4
      have j1l:=Aside0.mk hl530_4
      clear hi530_4 hl530_4
      replace p530:=eq_true p530
      replace q530:=eq_true q530
      go_wp2
      go_roundg k1
      case measure=>have:=HK1.out;omega
      case rel=>exact ⟨(x3_1),(wrap64 (x4_1+1)),za76,H',⟨by have:=HK1.out;omega⟩,⟨by (with_reducible repeat (first|apply Kd.R_alloc|apply Kd.R_drewN|apply Kd.R_drew));exact HO_3.out⟩,⟨by (with_reducible repeat (first|refine blk_drewN ?_ _|refine blk_drew ?_|refine blk_alloc ?_ _));exact j1_.out⟩,⟨by repeat (first|(with_reducible first|exact HB.out|apply below_alloc|apply pw_below_drewN|apply below_drew1|refine below_set ?_ jh_.out)|exact HB.out)⟩⟩
    ·
     rw [if_neg c4] at H
     exact absurd H (by simp)
   ·
    rw [if_neg c3] at H
    have c3b0:decide (x4_1<(l0_0.length:Int))=false:=decide_eq_false c3
    clear c3
    replace H:=Option.bind_eq_some_iff.mp H
    obtain ⟨t536,A110,H⟩:=H
    replace H:(some t536)=some r:=H
    have A11:=Aside0.mk A110
    clear A110
    obtain rfl:=Option.some.inj H
    have hcz12_0:wr.cell? ⟨jg_,0,none⟩=some (.slice A0_0 l0_0.length c0_0):=(blk_cell j1_.out 0).trans rfl
    have hfz12_0:=blk_frozen j1_.out 0
    obtain ⟨Ao13,co13,eo13⟩:=Kd.R_slice HO_3.out
    subst eo13
    go_wp2_with (first|((with_reducible refine gate_callee (f:=36) rfl ?_);refine goesL_ (some 31) rfl rfl Try.func36 (by kernel_rfl) rfl #[.slice Ao13 x3_1.length co13] rfl za39 ?_;(with_reducible refine (abugidaref15_Norm.calls k1 _ _ x3_1 t536 _ ?side1 ?side2 A11.out).mono ?_);(case side1=>repeat (first|exact (Kd.R_reads' HO_3.out).2.2|(with_reducible refine Kd.C_alloc ?_ _)|(with_reducible refine Kd.C_drewN ?_ _)|(with_reducible refine Kd.C_drew ?_)));(case side2=>exact (Kd.R_reads' HO_3.out).2.1);rintro e w14 ⟨v537,rfl,ho0,hb⟩;refine ⟨_,rfl,?_⟩;have n0_:=Aside0.mk (Kd.R_elder' za53 (Kd.R_base ho0) hb);have n1_:=Aside0.mk (Kd.R_lower (Kd.R_new' ho0 (Kd.R_lt za53)) (below_size za36));have n2_:=Aside0.mk (blk_below (g:=jg_) (o:=.cells #[.slice A0_0 l0_0.length c0_0] 24 (0,0)) (by (with_reducible repeat (first|refine blk_drewN ?_ _|refine blk_drew ?_|refine blk_alloc ?_ _));exact j1_.out) hb);have n3_:=Aside0.mk (below_step za36 hb);clear HO_3;clear j1_;clear HB;have HO_3:=n0_;have j21:=n1_;have j1_:=n2_;have HB:=n3_;clear n0_ n1_ n2_ n3_;(try clear hb);(try clear hb2);(try clear hk);(try clear hi);(try clear ho0)))
    go_ret
    exact ⟨_,by first|rfl|(simp [errW_none,errW_some]<;>rfl)|(simp [*,errW_none,errW_some]<;>rfl),by (with_reducible repeat (first|apply Kd.R_alloc|apply Kd.R_drewN|apply Kd.R_drew));exact Kd.R_mono j21.out (fun _ hk=>trivial),by repeat (first|(with_reducible first|exact HB.out|apply below_alloc|apply pw_below_drewN|apply below_drew1|refine below_set ?_ jh_.out)|exact HB.out)⟩
end Go.Proofs.Ytlgkeaildncojaa.Q
end
section
namespace Go.Proofs.Ytlgkeaildncojaa.Q
open Go.RowKit Go.Proofs.YtlgkeaildncojaaW.PrintWords Go.Proofs.YtlgkeaildncojaaW.PrintLast Go.Proofs.YtlgkeaildncojaaW.PrintMore
attribute [local go_sem] max2_int min2_int max_two min_two max_three min_three max_four min_four   -- for this text's walks alone
set_option linter.unusedVariables false
set_option linter.unusedSimpArgs false
end Go.Proofs.Ytlgkeaildncojaa.Q
end
section
namespace Go.Proofs.Ytlgkeaildncojaa.Q
open Go.RowKit Go.Shelf Go.Proofs.YtlgkeaildncojaaW.PrintWords Go.Proofs.YtlgkeaildncojaaW.PrintLast Go.Proofs.YtlgkeaildncojaaW.PrintMore
set_option linter.unusedSimpArgs false
set_option linter.unusedVariables false
set_option linter.unusedSectionVars false
section
variable (f0 f1 f2:List (List Int)) (f3:List Int) (f4:List S60) (its:List S55)
 (b0:f0.length≤1000) (b1:f1.length≤1000) (b2:f2.length≤1000) (bi:its.length≤1000000)
 (m0:∀ s∈f0,s.length≤9223372036854775807) (m1:∀ s∈f1,s.length≤9223372036854775807) (m2:∀ s∈f2,s.length≤9223372036854775807)
include b0 b1 b2 bi m0 m1 m2
end
end Go.Proofs.Ytlgkeaildncojaa.Q
end
section
namespace Go.Proofs.Ytlgkeaildncojaa.Q
open Go.RowKit Go.Shelf Go.Proofs.YtlgkeaildncojaaW.PrintWords Go.Proofs.YtlgkeaildncojaaW.PrintLast Go.Proofs.YtlgkeaildncojaaW.PrintMore
set_option linter.unusedSimpArgs false
set_option linter.unusedVariables false
theorem GoodSet.i64 {s:List Int} (h:GoodSet s):I64s 9 s:=⟨Nat.le_trans h.short (by decide),fun x hx=>by have:=h.small x hx;omega⟩
theorem MadeR.bd {k:Int} {r:S49} (h:MadeR k r):Bd 9 r :=
 ⟨Nat.le_trans h.l0 (by decide),Nat.le_trans h.l1.2 (by decide),Nat.le_trans h.l2 (by decide),Nat.le_trans h.l3 (by decide),Nat.le_trans h.l4 (by decide),fun s hs=>(h.s0 s hs).i64,fun s hs=>(h.s1 s hs).i64,fun s hs=>(h.s2 s hs).i64⟩
theorem madeAll_bd (L:List (List Int)) (k:Nat) (hk:k<3):BdL 9 ((madeAll L).getD k z24).f0 :=
 ⟨Nat.le_trans (madeAll_good L k hk).1 (by decide),fun r hr=>((madeAll_good L k hk).2 r hr).bd⟩
def OddC:Prop:=∀ (A:Option Addr) (c:Nat) (l:List S49) (q0 q1 q2:Int) (N:Nat) (w:World),k49.C w A l.length l→l.length≤c→BdL N l→N≤1000 →
  Calls Try.prog 13 #[.agg #[.slice A l.length c],.agg #[.int .i64 q0,.int .i64 q1,.int .i64 q2]] w fun e w'=>∃ A' c' l',e=.returned (.agg #[.slice A' l'.length c'])∧k49.C w' A' l'.length l'∧l'.length≤c'∧BdL (N+12) l'∧Below w.heap.size w w'
def Looks (W:World) (g n N:Nat):Prop:=∀ j<n,∃ A c l,W.cell? ⟨g,j,none⟩=some (.slice A l.length c)∧k49.C W A l.length l∧l.length≤c∧BdL N l
theorem Looks.below {W W':World} {g n N:Nat} (hb:Below W.heap.size W W') (h:Looks W g n N):Looks W' g n N:=fun j hj=>by
 obtain ⟨A,c,l,h1,h2,h3,h4⟩:=h j hj
 exact ⟨A,c,l,pw_cell_below hb h1,Kd.C_below h2 hb,h3,h4⟩
theorem Looks.nil (W:World) (g N:Nat):Looks W g 0 N:=fun j hj=>absurd hj (Nat.not_lt_zero _)
theorem Looks.snoc {W:World} {g n N:Nat} (h:Looks W g n N) {A:Option Addr} {c:Nat} {l:List S49} (h1:W.cell? ⟨g,n,none⟩=some (.slice A l.length c)) (h2:k49.C W A l.length l) (h3:l.length≤c) (h4:BdL N l):Looks W g (n+1) N:=fun j hj=>by
 by_cases e:j=n
 ·
  subst e;exact ⟨A,c,l,h1,h2,h3,h4⟩
 ·
  exact h j (by omega)
theorem lit_cell (w:World) (cs:Array Value) (e:Nat) (p:Nat × Nat) (j:Nat) (v:Value) (h:cs[j]?=some v):(w.alloc (.cells cs e p)).cell? ⟨w.heap.size,j,none⟩=some v:=by
 have hb:=blk_new w (.cells cs e p)
 unfold World.cell?
 simp only [hb]
 exact h
def OddF:Prop:=∀ (A:Option Addr) (c:Nat) (l:List S49) (q0 q1 q2:Int) (N:Nat) (w wq:World) (R0:Res),Own w wq [R0]→k49.C w A l.length l→l.length≤c→BdL N l→N≤1000 →
  Calls Try.prog 13 #[.agg #[.slice A l.length c],.agg #[.int .i64 q0,.int .i64 q1,.int .i64 q2]] wq fun e w'=>∃ A' c' l' XS,e=.returned (.agg #[.slice A' l'.length c'])∧(∀ W,EX w XS W→k49.C W A' l'.length l')∧l'.length≤c'∧BdL (N+12) l'∧Own w w' (R0 :: XS)
theorem ex_tail {w W:World} {R0:Res} {XS:List Res} {K:Nat→Obj→Prop} (h:Own w W (R0 :: XS) K):EX w XS W:=EX.of h (fun X hX=>by
 obtain ⟨i,hi,rfl⟩:=List.getElem_of_mem hX
 exact ⟨i+1,by rw [List.getElem?_cons_succ,List.getElem?_eq_getElem hi]⟩)
theorem OddF.plain (h:OddF):OddC:=fun A c l q0 q1 q2 N w hr hc hb hN=>by
 refine (h A c l q0 q1 q2 N w w .emp ((Own.start w).add (r:=.emp) (Below.refl _ _) trivial) hr hc hb hN).mono ?_
 rintro e w' ⟨A',c',l',XS,he,hC,h1,h2,hO⟩
 exact ⟨A',c',l',he,hC _ (ex_tail hO),h1,h2,hO.below⟩
end Go.Proofs.Ytlgkeaildncojaa.Q
end
section
namespace Go.Proofs.Ytlgkeaildncojaa.Q
open Go.RowKit Go.Shelf Go.Proofs.YtlgkeaildncojaaW.PrintWords Go.Proofs.YtlgkeaildncojaaW.PrintLast Go.Proofs.YtlgkeaildncojaaW.PrintMore
set_option linter.unusedSimpArgs false
set_option linter.unusedVariables false
theorem rr_l0 (l:List Int) (hl:l.length≤9223372036854775807):∀ (d i:Nat),i+1+d=l.length→Ev (fun k=>abugidaref15_Right.l0 k l ((i+1:Nat):Int)) (rightP (l.drop i)):=by
 intro d
 induction d with
 | zero =>
  intro i h
  rw [dropC l i (by omega),List.drop_of_length_le (by omega)]
  refine Ev.step (fun k=>by rw [abugidaref15_Right.l0,if_neg (by omega)]) ?_
  exact Ev.now _
 | succ d ih =>
  intro i h
  have h2:=ih (i+1) (by omega)
  have e1:=dropC l i (by omega)
  have e2:=dropC l (i+1) (by omega)
  have r1:=rdN l i
  have r2:=rdN l (i+1)
  rw [e1,e2,rightP]
  rw [e2] at h2
  have q0:((i+1:Nat):Int)<(l.length:Int):=by omega
  have hw:wrap64 (((i+1:Nat):Int) - 1)=(i:Int):=by rw [wr64 _ (by omega) (by omega)];omega
  have q1:(0:Int)≤(i:Int):=by omega
  have q2:(i:Int)<(l.length:Int):=by omega
  have q3:(0:Int)≤((i+1:Nat):Int):=by omega
  have hw2:wrap64 (((i+1:Nat):Int)+1)=((i+1+1:Nat):Int):=by rw [wr64 _ (by omega) (by omega)];omega
  refine Ev.step (fun k=>by rw [abugidaref15_Right.l0,if_pos q0,hw,if_pos q1,if_pos q2,if_pos q3,r1,r2,hw2]) ?_
  by_cases hc:l.getD i 0 ≥ l.getD (i+1) 0
  ·
   rw [if_pos hc]
   exact Ev.congr (fun k=>by rw [if_pos hc]) (Ev.now _)
  ·
   rw [if_neg hc]
   exact Ev.congr (fun k=>by rw [if_neg hc]) h2
theorem rr_ev (l:List Int) (hl:l.length≤9223372036854775807):Ev (fun k=>abugidaref15_Right.f k l) (rightP l):=by
 unfold abugidaref15_Right.f
 cases l with
 | nil =>
  refine Ev.step (fun k=>by rw [abugidaref15_Right.l0,if_neg (by simp)]) ?_
  exact Ev.now _
 | cons x r=>exact rr_l0 (x :: r) hl r.length 0 (by simp;omega)
theorem rsets_l0 (f:List (List Int)) (hf:f.length≤9223372036854775807) (hs:∀ s∈f,s.length≤9223372036854775807):∀ (d i:Nat),i+d=f.length→Ev (fun k=>abugidaref16_right.l0 k f (i:Int)) (!((f.drop i).any wrongP)):=by
 intro d
 induction d with
 | zero =>
  intro i h
  rw [List.drop_of_length_le (by omega)]
  refine Ev.step (fun k=>by rw [abugidaref16_right.l0,if_neg (by omega)]) ?_
  exact Ev.now _
 | succ d ih =>
  intro i h
  have h2:=ih (i+1) (by omega)
  have q0:(i:Int)<(f.length:Int):=by omega
  have q1:(0:Int)≤(i:Int):=by omega
  have hw:wrap64 ((i:Int)+1)=((i+1:Nat):Int):=by rw [wr64 _ (by omega) (by omega)];omega
  have hsl:=hs _ (getD_in f i [] (by omega))
  rw [dropL f i (by omega),List.any_cons]
  refine Ev.step (fun k=>by rw [abugidaref16_right.l0,if_pos q0,if_pos q1,rdL1,hw]) ?_
  generalize f.getD i []=s at *
  cases s with
  | nil =>
   rw [show wrongP []=true from rfl,Bool.true_or]
   exact Ev.congr (fun k=>by rw [if_pos (show (([]:List Int).length:Int)=0 from rfl)];rfl) (Ev.now _)
  | cons x t =>
   refine Ev.congr (fun k=>by rw [if_neg (show ¬ ((x :: t).length:Int)=0 by simp only [List.length_cons];omega)]) ?_
   refine Ev.bind (g:=fun k=>abugidaref15_Right.f k (x :: t)) (rr_ev _ hsl) ?_
   rw [show wrongP (x :: t)=!rightP (x :: t) from rfl]
   by_cases hc:rightP (x :: t)=true
   ·
    rw [hc]
    exact Ev.congr (fun k=>by rw [if_pos rfl]) h2
   ·
    rw [Bool.eq_false_iff.mpr hc]
    exact Ev.congr (fun k=>by rw [if_neg (by decide)];rfl) (Ev.now _)
theorem rsets_ev (f:List (List Int)) (hf:f.length≤9223372036854775807) (hs:∀ s∈f,s.length≤9223372036854775807):Ev (fun k=>abugidaref16_right.f k f) (!(f.any wrongP)):=rsets_l0 f hf hs f.length 0 (by omega)
theorem known_l1 (f:List (List Int)) (G:Int) (i:Nat) (hi:i<f.length) (hs:∀ s∈f,s.length≤9223372036854775807) (R:Bool) (hR:Ev (fun k=>abugidaref16_known.l0 k f G (wrap64 ((i:Int)+1))) R):∀ (d j:Nat),j+d=(f.getD i []).length →
  Ev (fun k=>abugidaref16_known.l1 k f G (i:Int) (j:Int)) (!(((f.getD i []).drop j).any (unkP G))&&R):=by
 have hsl:=hs _ (getD_in f i [] hi)
 have q0:(i:Int)<(f.length:Int):=by omega
 have q1:(0:Int)≤(i:Int):=by omega
 intro d
 induction d with
 | zero =>
  intro j h
  rw [List.drop_of_length_le (by omega)]
  refine Ev.step (fun k=>by rw [abugidaref16_known.l1,if_pos q1,if_pos q0,rdL1,if_neg (by omega)]) ?_
  exact hR
 | succ d ih =>
  intro j h
  have h2:=ih (j+1) (by omega)
  have p0:(j:Int)<((f.getD i []).length:Int):=by omega
  have p1:(0:Int)≤(j:Int):=by omega
  have hw:wrap64 ((j:Int)+1)=((j+1:Nat):Int):=by rw [wr64 _ (by omega) (by omega)];omega
  rw [dropC _ j (by omega),List.any_cons]
  refine Ev.step (fun k=>by rw [abugidaref16_known.l1,if_pos q1,if_pos q0,rdL1,if_pos p0,if_pos p1,rdN,hw]) ?_
  by_cases h1:(f.getD i []).getD j 0<0
  ·
   rw [show unkP G ((f.getD i []).getD j 0)=true by unfold unkP;rw [decide_eq_true h1];rfl]
   exact Ev.congr (fun k=>by rw [if_pos h1];rfl) (Ev.now _)
  by_cases h3:(f.getD i []).getD j 0 ≥ G
  ·
   rw [show unkP G ((f.getD i []).getD j 0)=true by unfold unkP;rw [decide_eq_true h3,Bool.or_true]]
   exact Ev.congr (fun k=>by rw [if_neg h1,if_pos h3];rfl) (Ev.now _)
  rw [show unkP G ((f.getD i []).getD j 0)=false by unfold unkP;rw [decide_eq_false h1,decide_eq_false h3];rfl,Bool.false_or]
  exact Ev.congr (fun k=>by rw [if_neg h1,if_neg h3]) h2
theorem known_l0 (f:List (List Int)) (G:Int) (hf:f.length≤9223372036854775806) (hs:∀ s∈f,s.length≤9223372036854775807):∀ (d i:Nat),i+d=f.length→Ev (fun k=>abugidaref16_known.l0 k f G (i:Int)) (!((f.drop i).any (fun l=>l.any (unkP G)))):=by
 intro d
 induction d with
 | zero =>
  intro i h
  rw [List.drop_of_length_le (by omega)]
  refine Ev.step (fun k=>by rw [abugidaref16_known.l0,if_neg (by omega)]) ?_
  exact Ev.now _
 | succ d ih =>
  intro i h
  have h2:=ih (i+1) (by omega)
  have hw:wrap64 ((i:Int)+1)=((i+1:Nat):Int):=by rw [wr64 _ (by omega) (by omega)];omega
  rw [← hw] at h2
  have h3:=known_l1 f G i (by omega) hs _ h2 (f.getD i []).length 0 (Nat.zero_add _)
  rw [List.drop_zero] at h3
  rw [dropL f i (by omega),List.any_cons,Bool.not_or]
  exact Ev.step (fun k=>by rw [abugidaref16_known.l0,if_pos (show (i:Int)<(f.length:Int) by omega)];rfl) h3
theorem known_ev (f:List (List Int)) (G:Int) (hf:f.length≤9223372036854775806) (hs:∀ s∈f,s.length≤9223372036854775807):Ev (fun k=>abugidaref16_known.f k f G) (!(f.any (fun l=>l.any (unkP G)))):=known_l0 f G hf hs f.length 0 (Nat.zero_add _)
def M64 (f:List (List Int)):Prop:=f.length≤1000∧∀ s∈f,s.length≤1000
theorem rcalls_l0 (f0 f1 f2:List (List Int)) (f3:List Int) (f4:List S60) (k L:Int) (h4:f4.length≤9223372036854775806):∀ (d i:Nat),i+d=f4.length→Ev (fun n=>abugidaref16_rule.l0 n k L (i:Int) f0 f1 f2 f3 f4) (if (f4.drop i).any (callP f1.length k L)=true then 32 else 0):=by
 intro d
 induction d with
 | zero =>
  intro i h
  rw [List.drop_of_length_le (by omega)]
  refine Ev.step (fun n=>by rw [abugidaref16_rule.l0,if_neg (by omega)]) ?_
  exact Ev.now _
 | succ d ih =>
  intro i h
  have h2:=ih (i+1) (by omega)
  have q0:(i:Int)<(f4.length:Int):=by omega
  have q1:(0:Int)≤(i:Int):=by omega
  have hw:wrap64 ((i:Int)+1)=((i+1:Nat):Int):=by rw [wr64 _ (by omega) (by omega)];omega
  have hrd:rd_T60 f4 (i:Int)=f4.getD i z60:=by unfold rd_T60;rw [Int.toNat_natCast]
  have e:f4.drop i=f4.getD i z60 :: f4.drop (i+1):=by
   rw [List.drop_eq_getElem_cons (by omega),List.getD_eq_getElem?_getD,List.getElem?_eq_getElem (by omega)];rfl
  rw [e,List.any_cons]
  refine Ev.step (fun n=>by rw [abugidaref16_rule.l0,if_pos q0,if_pos q1,hrd,hw]) ?_
  generalize f4.getD i z60=c
  unfold callP at h2 ⊢
  by_cases c1:c.f0<0
  ·
   rw [decide_eq_true c1]
   exact Ev.congr (fun n=>by rw [if_pos c1];rfl) (Ev.now _)
  by_cases c2:c.f0 ≥ (f1.length:Int)
  ·
   rw [decide_eq_false c1,decide_eq_true c2]
   exact Ev.congr (fun n=>by rw [if_neg c1,if_pos c2];rfl) (Ev.now _)
  by_cases c3:c.f1≤k
  ·
   rw [decide_eq_false c1,decide_eq_false c2,decide_eq_true c3]
   exact Ev.congr (fun n=>by rw [if_neg c1,if_neg c2,if_pos c3];rfl) (Ev.now _)
  by_cases c4:c.f1 ≥ L
  ·
   rw [decide_eq_false c1,decide_eq_false c2,decide_eq_false c3,decide_eq_true c4]
   exact Ev.congr (fun n=>by rw [if_neg c1,if_neg c2,if_neg c3,if_pos c4];rfl) (Ev.now _)
  rw [decide_eq_false c1,decide_eq_false c2,decide_eq_false c3,decide_eq_false c4]
  exact Ev.congr (fun n=>by rw [if_neg c1,if_neg c2,if_neg c3,if_neg c4]) h2
theorem rrule_ev (f0 f1 f2:List (List Int)) (f3:List Int) (f4:List S60) (k L G:Int) (m0:M64 f0) (m1:M64 f1) (m2:M64 f2) (m3:f3.length≤1000) (m4:f4.length≤1000) :
  Ev (fun n=>abugidaref16_rule.f n f0 f1 f2 f3 f4 k L G) (ruleP ⟨f0,f1,f2,f3,f4⟩ k L G):=by
 have ms:∀ f:List (List Int),M64 f→f.length≤9223372036854775806∧∀ s∈f,s.length≤9223372036854775807:=fun f h=>⟨Nat.le_trans h.1 (by decide),fun s hs=>Nat.le_trans (h.2 s hs) (by decide)⟩
 have r0:=rsets_ev f0 (Nat.le_trans (ms f0 m0).1 (by decide)) (ms f0 m0).2
 have r1:=rsets_ev f1 (Nat.le_trans (ms f1 m1).1 (by decide)) (ms f1 m1).2
 have r2:=rsets_ev f2 (Nat.le_trans (ms f2 m2).1 (by decide)) (ms f2 m2).2
 have u0:=known_ev f0 G (ms f0 m0).1 (ms f0 m0).2
 have u1:=known_ev f1 G (ms f1 m1).1 (ms f1 m1).2
 have u2:=known_ev f2 G (ms f2 m2).1 (ms f2 m2).2
 have u3:=known_ev [f3] G (show (1:Nat)≤9223372036854775806 by decide) (fun s hs=>by rw [List.mem_singleton] at hs;subst hs;exact Nat.le_trans m3 (by decide))
 have hl:=rcalls_l0 f0 f1 f2 f3 f4 k L (Nat.le_trans m4 (by decide)) f4.length 0 (Nat.zero_add _)
 have bad2:∀ x,x=true→Ev (fun n=>abugidaref16_rule.j2 n k L G x f0 f1 f2 f3 f4) 31:=fun x hx=>by
  subst hx
  exact Ev.step (fun n=>by rw [abugidaref16_rule.j2,if_pos rfl]) (Ev.now _)
 have bad1:∀ y,Ev (fun n=>abugidaref16_rule.j1 n k L G true y f0 f1 f2 f3 f4) 31:=fun y=>Ev.step (fun n=>by rw [abugidaref16_rule.j1,if_pos rfl]) (bad2 true rfl)
 have bad1':∀ b,Ev (fun n=>abugidaref16_rule.j1 n k L G b false f0 f1 f2 f3 f4) 31:=fun b=>by
  cases b
  ·
   exact Ev.step (fun n=>by rw [abugidaref16_rule.j1,if_neg (by decide),if_neg (by decide)]) (bad2 true rfl)
  ·
   exact bad1 false
 have hany:∀ p:List Int→Bool,(f1++f0++f2).any p=(f1.any p || f0.any p || f2.any p):=fun p=>by rw [List.any_append,List.any_append]
 have J0:∀ b R,(∀ y,y=(!((f1++f0++f2).any wrongP))→Ev (fun n=>abugidaref16_rule.j1 n k L G b y f0 f1 f2 f3 f4) R)→Ev (fun n=>abugidaref16_rule.j0 n k L G b f0 f1 f2 f3 f4) R:=fun b R h=>by
  have h:=h _ rfl
  rw [hany] at h
  refine Ev.step (fun n=>by rw [abugidaref16_rule.j0]) ?_
  generalize f1.any wrongP=w1 at r1 h
  generalize f0.any wrongP=w0 at r0 h
  generalize f2.any wrongP=w2 at r2 h
  refine Ev.bind (g:=fun n=>abugidaref16_right.f n f1) r1 ?_
  cases w1
  ·
   refine Ev.congr (fun n=>by rw [if_pos (show (!false)=true from rfl)]) ?_
   refine Ev.bind (g:=fun n=>abugidaref16_right.f n f0) r0 ?_
   cases w0
   ·
    refine Ev.congr (fun n=>by rw [if_pos (show (!false)=true from rfl)]) ?_
    exact Ev.bind (g:=fun n=>abugidaref16_right.f n f2) r2 h
   ·
    have h:Ev (fun n=>abugidaref16_rule.j1 n k L G b false f0 f1 f2 f3 f4) R:=h
    exact Ev.congr (fun n=>by rw [if_neg (show ¬ (!true)=true by decide)]) h
  ·
   have h:Ev (fun n=>abugidaref16_rule.j1 n k L G b false f0 f1 f2 f3 f4) R:=h
   exact Ev.congr (fun n=>by rw [if_neg (show ¬ (!true)=true by decide)]) h
 have badJ0:Ev (fun n=>abugidaref16_rule.j0 n k L G true f0 f1 f2 f3 f4) 31:=J0 true 31 (fun y _=>bad1 y)
 unfold abugidaref16_rule.f ruleP
 dsimp only
 by_cases a1:f1.length=0
 ·
  rw [if_pos (.inl a1)]
  exact Ev.congr (fun n=>by rw [if_pos (show (f1.length:Int)<1 by omega)]) badJ0
 have b1:¬ (f1.length:Int)<1:=by omega
 by_cases a2:f1.length > 4
 ·
  rw [if_pos (.inr (.inl a2))]
  exact Ev.congr (fun n=>by rw [if_neg b1,if_pos (show (f1.length:Int) > 4 by omega)]) badJ0
 have b2:¬ (f1.length:Int) > 4:=by omega
 by_cases a3:f0.length > 3
 ·
  rw [if_pos (.inr (.inr (.inl a3)))]
  exact Ev.congr (fun n=>by rw [if_neg b1,if_neg b2,if_pos (show (f0.length:Int) > 3 by omega)]) badJ0
 have b3:¬ (f0.length:Int) > 3:=by omega
 by_cases a4:f2.length > 3
 ·
  rw [if_pos (.inr (.inr (.inr a4)))]
  exact Ev.congr (fun n=>by rw [if_neg b1,if_neg b2,if_neg b3,if_pos (show (f2.length:Int) > 3 by omega)]) badJ0
 have b4:¬ (f2.length:Int) > 3:=by omega
 rw [if_neg (by rintro (h|h|h|h)<;>contradiction)]
 by_cases a5:f3.length > 4
 ·
  rw [if_pos (.inl a5)]
  exact Ev.congr (fun n=>by rw [if_neg b1,if_neg b2,if_neg b3,if_neg b4,if_pos (show (f3.length:Int) > 4 by omega)]) badJ0
 have b5:¬ (f3.length:Int) > 4:=by omega
 refine Ev.congr (fun n=>by rw [if_neg b1,if_neg b2,if_neg b3,if_neg b4,if_neg b5]) ?_
 by_cases a6:f4.length > 3
 ·
  rw [if_pos (.inr (.inl a6))]
  exact Ev.congr (fun n=>by rw [show decide ((f4.length:Int) > 3)=true from decide_eq_true (by omega)]) badJ0
 rw [show decide ((f4.length:Int) > 3)=false from decide_eq_false (by omega)]
 refine J0 false _ (fun y hy=>?_)
 cases hw:(f1++f0++f2).any wrongP with
 | true =>
  rw [hw] at hy
  subst hy
  rw [if_pos rfl,show ∀ c:Prop,∀ _:Decidable c,(if c then (31:Int) else 31)=31 from fun c _=>by split<;>rfl]
  exact bad1' false
 | false =>
  rw [hw] at hy
  subst hy
  rw [if_neg (show ¬ false=true by decide)]
  refine Ev.step (fun n=>by rw [abugidaref16_rule.j1,if_neg (by decide),if_pos (show (!false)=true from rfl)]) ?_
  by_cases a7:f3.length > 0∧f4.length > 0
  ·
   rw [if_pos (.inr (.inr a7))]
   exact Ev.congr (fun n=>by rw [if_pos (show (f4.length:Int) > 0 by omega),show decide ((f3.length:Int) > 0)=true from decide_eq_true (by omega)]) (bad2 true rfl)
  rw [if_neg (by rintro (h|h|h)<;>contradiction)]
  have key:Ev (fun n=>abugidaref16_rule.j2 n k L G false f0 f1 f2 f3 f4) (if (f1++f0++f2).any (fun l=>l.any (unkP G))=true∨f3.any (unkP G)=true then 30 else if f4.any (callP f1.length k L)=true then 32 else 0):=by
   have bad3:Ev (fun n=>abugidaref16_rule.j3 n k L false f0 f1 f2 f3 f4) 30:=Ev.step (fun n=>by rw [abugidaref16_rule.j3,if_neg (by decide)]) (Ev.now _)
   refine Ev.step (fun n=>by rw [abugidaref16_rule.j2,if_neg (by decide)]) ?_
   rw [hany]
   refine Ev.bind (g:=fun n=>abugidaref16_known.f n f1 G) u1 ?_
   cases f1.any (fun l=>l.any (unkP G))
   ·
    refine Ev.congr (fun n=>by rw [if_pos (show (!false)=true from rfl)]) ?_
    refine Ev.bind (g:=fun n=>abugidaref16_known.f n f0 G) u0 ?_
    cases f0.any (fun l=>l.any (unkP G))
    ·
     refine Ev.congr (fun n=>by rw [if_pos (show (!false)=true from rfl)]) ?_
     refine Ev.bind (g:=fun n=>abugidaref16_known.f n f2 G) u2 ?_
     cases f2.any (fun l=>l.any (unkP G))
     ·
      refine Ev.congr (fun n=>by rw [if_pos (show (!false)=true from rfl)]) ?_
      refine Ev.bind (g:=fun n=>abugidaref16_known.f n [f3] G) u3 ?_
      rw [List.any_cons,List.any_nil,Bool.or_false]
      cases f3.any (unkP G)
      ·
       rw [if_neg (by decide)]
       exact Ev.step (fun n=>by rw [abugidaref16_rule.j3,if_pos (show (!false)=true from rfl)];rfl) hl
      ·
       rw [if_pos (by decide)]
       exact bad3
     ·
      rw [if_pos (.inl (by simp))]
      exact Ev.congr (fun n=>by rw [if_neg (show ¬ (!true)=true by decide)]) bad3
    ·
     rw [if_pos (.inl (by simp))]
     exact Ev.congr (fun n=>by rw [if_neg (show ¬ (!true)=true by decide)]) bad3
   ·
    rw [if_pos (.inl (by simp))]
    exact Ev.congr (fun n=>by rw [if_neg (show ¬ (!true)=true by decide)]) bad3
  by_cases a8:f4.length > 0
  ·
   have a9:¬ f3.length > 0:=fun h=>a7 ⟨h,a8⟩
   exact Ev.congr (fun n=>by rw [if_pos (show (f4.length:Int) > 0 by omega),show decide ((f3.length:Int) > 0)=false from decide_eq_false (by omega)]) key
  ·
   exact Ev.congr (fun n=>by rw [if_neg (show ¬ (f4.length:Int) > 0 by omega)]) key
theorem rcheck_l0 (l:List S49) (k L G:Int) (hl:l.length≤1000) (hm:∀ r∈l,M64 r.f0∧M64 r.f1∧M64 r.f2∧r.f3.length≤1000∧r.f4.length≤1000):∀ (d i:Nat),i+d=l.length→Ev (fun n=>abugidaref16_Check.l0 n k L G (i:Int) l) (rulesP k L G (l.drop i)):=by
 intro d
 induction d with
 | zero =>
  intro i h
  rw [List.drop_of_length_le (by omega)]
  refine Ev.step (fun n=>by rw [abugidaref16_Check.l0,if_neg (by omega)]) ?_
  exact Ev.now _
 | succ d ih =>
  intro i h
  have h2:=ih (i+1) (by omega)
  have hw:wrap64 ((i:Int)+1)=((i+1:Nat):Int):=by rw [wr64 _ (by omega) (by omega)];omega
  have hrd:rd_T49 l (i:Int)=l.getD i z49:=by unfold rd_T49;rw [Int.toNat_natCast]
  obtain ⟨m0,m1,m2,m3,m4⟩:=hm _ (getD_mem' l i z49 (by omega))
  rw [drop49 (show i<l.length by omega),rulesP]
  refine Ev.step (fun n=>by rw [abugidaref16_Check.l0,if_pos (show (i:Int)<(l.length:Int) by omega),if_pos (show (0:Int)≤(i:Int) by omega),hrd,hw]) ?_
  refine Ev.bind (g:=fun n=>abugidaref16_rule.f n (l.getD i z49).f0 (l.getD i z49).f1 (l.getD i z49).f2 (l.getD i z49).f3 (l.getD i z49).f4 k L G) (rrule_ev _ _ _ _ _ k L G m0 m1 m2 m3 m4) ?_
  rw [show (⟨(l.getD i z49).f0,(l.getD i z49).f1,(l.getD i z49).f2,(l.getD i z49).f3,(l.getD i z49).f4⟩:S49)=l.getD i z49 from rfl]
  by_cases hc:ruleP (l.getD i z49) k L G=0
  ·
   rw [if_pos hc]
   exact Ev.congr (fun n=>by rw [if_pos hc]) h2
  ·
   rw [if_neg hc]
   exact Ev.congr (fun n=>by rw [if_neg hc]) (Ev.now _)
theorem rcheck_ev (l:List S49) (k L G:Int) (hl:l.length≤1000) (hm:∀ r∈l,M64 r.f0∧M64 r.f1∧M64 r.f2∧r.f3.length≤1000∧r.f4.length≤1000):Ev (fun n=>abugidaref16_Check.f n l k L G) (checkP l k L G):=by
 have hlp:=rcheck_l0 l k L G hl hm l.length 0 (Nat.zero_add _)
 rw [List.drop_zero] at hlp
 have stop:Ev (fun n=>abugidaref16_Check.j0 n k L G true l) 1:=Ev.step (fun n=>by rw [abugidaref16_Check.j0,if_pos rfl]) (Ev.now _)
 unfold abugidaref16_Check.f checkP
 by_cases h1:L<1
 ·
  rw [if_pos (.inl h1)]
  exact Ev.congr (fun n=>by rw [if_pos h1]) stop
 by_cases h2:L > 12
 ·
  rw [if_pos (.inr (.inl h2))]
  exact Ev.congr (fun n=>by rw [if_neg h1,if_pos h2]) stop
 by_cases h3:k<0
 ·
  rw [if_pos (.inr (.inr (.inl h3)))]
  exact Ev.congr (fun n=>by rw [if_neg h1,if_neg h2,if_pos h3]) stop
 by_cases h4:k ≥ L
 ·
  rw [if_pos (.inr (.inr (.inr (.inl h4))))]
  exact Ev.congr (fun n=>by rw [if_neg h1,if_neg h2,if_neg h3,if_pos h4]) stop
 by_cases h5:G<1
 ·
  rw [if_pos (.inr (.inr (.inr (.inr (.inl h5)))))]
  exact Ev.congr (fun n=>by rw [if_neg h1,if_neg h2,if_neg h3,if_neg h4,if_pos h5]) stop
 refine Ev.congr (fun n=>by rw [if_neg h1,if_neg h2,if_neg h3,if_neg h4,if_neg h5]) ?_
 by_cases h6:G > 100
 ·
  rw [if_pos (.inr (.inr (.inr (.inr (.inr h6)))))]
  exact Ev.congr (fun n=>by rw [decide_eq_true h6]) stop
 rw [if_neg (by rintro (h|h|h|h|h|h)<;>contradiction)]
 refine Ev.step (fun n=>by rw [decide_eq_false h6,abugidaref16_Check.j0,if_neg (by decide)]) ?_
 by_cases h7:l.length > 8
 ·
  rw [if_pos h7]
  exact Ev.congr (fun n=>by rw [if_pos (show (l.length:Int) > 8 by omega)]) (Ev.now _)
 ·
  rw [if_neg h7]
  exact Ev.congr (fun n=>by rw [if_neg (show ¬ (l.length:Int) > 8 by omega)];rfl) hlp
theorem rnorm5_l0 (L:List Int) (hL:L.length≤5000) (d:Nat):∀ (i:Nat) (out:List Int),i+d=L.length→out.length≤i→Ev (fun k=>abugidaref15_Norm.l0 k L out i) ((L.drop i).foldl hwith out):=by
 induction d with
 | zero =>
  intro i out hi ho
  refine Ev.step (fun k=>by simp only [abugidaref15_Norm.l0,if_neg (show ¬ (i:Int)<(L.length:Int) by omega)];rfl) ?_
  rw [List.drop_eq_nil_of_le (by omega)]
  exact Ev.now _
 | succ d ih =>
  intro i out hi ho
  rw [mdrop_at (show i<L.length by omega),List.foldl_cons]
  have hh:=len_hwith (rd L (i:Int)) out
  refine Ev.step (fun k=>by simp only [abugidaref15_Norm.l0,if_pos (show (i:Int)<(L.length:Int) by omega),if_pos (show (0:Int)≤i by omega),mw64n i (by omega)];rfl) ?_
  exact Ev.bind (ev_with out _ (by omega)) (ih (i+1) _ (by omega) (by omega))
theorem rnorm5 (L:List Int) (hL:L.length≤5000):Ev (fun k=>abugidaref15_Norm.f k L) (hset L):=rnorm5_l0 L hL L.length 0 [] (Nat.zero_add _) (Nat.le_refl _)
theorem heads_len (n:Nat):∀ rs:List S49,(∀ r∈rs,∀ s∈r.f1,s.length≤n)→(headsP rs).length≤n*rs.length
 | [],_=>Nat.zero_le _
 | r :: rs,h=>by
  have h1:=heads_len n rs (fun q hq=>h q (List.mem_cons_of_mem _ hq))
  have h2:(r.f1.headD []).length≤n:=by
   cases hr:r.f1 with
   | nil=>exact Nat.zero_le _
   | cons s t=>exact h r List.mem_cons_self s (by rw [hr];exact List.mem_cons_self)
  rw [headsP,List.length_append,List.length_cons,Nat.mul_add,Nat.mul_one]
  omega
theorem heads_rng:∀ rs:List S49,(∀ r∈rs,∀ s∈r.f1,∀ x∈s,-9223372036854775808≤x∧x≤9223372036854775807)→∀ x∈headsP rs,-9223372036854775808≤x∧x≤9223372036854775807
 | [],_,x,hx=>by cases hx
 | r :: rs,h,x,hx=>by
  rw [headsP] at hx
  rcases List.mem_append.mp hx with hx|hx
  ·
   cases hr:r.f1 with
   | nil=>rw [hr] at hx;cases hx
   | cons s t=>rw [hr] at hx;exact h r List.mem_cons_self s (by rw [hr];exact List.mem_cons_self) x hx
  ·
   exact heads_rng rs (fun q hq=>h q (List.mem_cons_of_mem _ hq)) x hx
theorem rfirst_l0 (rs:List S49) (hl:rs.length≤1000) (hb:∀ r∈rs,∀ s∈r.f1,s.length≤1000) (hk:(headsP rs).length≤5000) (d:Nat):∀ (i:Nat) (out:List Int),i+d=rs.length→out.length≤1000*i→out++headsP (rs.drop i)=headsP rs→Ev (fun k=>abugidaref16_First.l0 k out (i:Int) rs) (firstP rs):=by
 induction d with
 | zero =>
  intro i out hi ho he
  rw [List.drop_of_length_le (by omega),headsP,List.append_nil] at he
  subst he
  refine Ev.step (fun k=>by rw [abugidaref16_First.l0,if_neg (by omega)]) ?_
  exact Ev.bind (g:=fun k=>abugidaref15_Norm.f k (headsP rs)) (rnorm5 _ hk) (Ev.now _)
 | succ d ih =>
  intro i out hi ho he
  have hlt:(i:Int)<(rs.length:Int):=by omega
  have hp:(0:Int)≤(i:Int):=by omega
  have hw:wrap64 ((i:Int)+1)=((i+1:Nat):Int):=by rw [wr64 _ (by omega) (by omega)];omega
  have hrd:rd_T49 rs (i:Int)=rs.getD i z49:=by unfold rd_T49;rw [Int.toNat_natCast]
  have hmem:rs.getD i z49∈rs:=getD_mem' _ _ _ (by omega)
  rw [drop49 (show i<rs.length by omega),headsP] at he
  generalize rs.getD i z49=r at *
  cases hr:r.f1 with
  | nil =>
   rw [hr,List.headD_nil,List.nil_append] at he
   refine Ev.step (fun k=>by rw [abugidaref16_First.l0,if_pos hlt,if_pos hp,hrd,hr,if_neg (by simp),hw]) (ih (i+1) out (by omega) (by omega) he)
  | cons s t =>
   have hsl:=hb r hmem s (by rw [hr];exact List.mem_cons_self)
   rw [hr,List.headD_cons,← List.append_assoc] at he
   refine Ev.step (fun k=>by rw [abugidaref16_First.l0,if_pos hlt,if_pos hp,hrd,hr,if_pos (by simp),if_pos (by simp),show rd_L1 (s :: t) 0=s from rfl,if_pos (by omega),hw]) (ih (i+1) (out++s) (by omega) (by rw [List.length_append];omega) he)
theorem rfirst_ev (rs:List S49) (hl:rs.length≤1000) (hb:∀ r∈rs,∀ s∈r.f1,s.length≤1000) (hk:(headsP rs).length≤5000):Ev (fun k=>abugidaref16_First.f k rs) (firstP rs):=rfirst_l0 rs hl hb hk rs.length 0 [] (Nat.zero_add _) (Nat.le_refl _) rfl
theorem both_first {n:Nat} {rs:List S49} (h:BdL n rs) (hn:n≤60):∃ k,rules_First.f k rs=some (firstP rs)∧abugidaref16_First.f k rs=some (firstP rs)∧abugidaref16_SameInts.f k (firstP rs) (firstP rs)=some true:=by
 have hb:∀ r∈rs,∀ s∈r.f1,s.length≤60:=fun r hr s hs=>Nat.le_trans ((h.2 r hr).s1 s hs).1 hn
 have hl:=heads_len 60 rs hb
 have h0:=h.1
 have hl2:(headsP rs).length≤3600:=Nat.le_trans hl (by omega)
 have hin:=heads_rng rs (fun r hr s hs=>((h.2 r hr).s1 s hs).2)
 have hok:okl (headsP rs)=true:=by
  unfold okl
  rw [decide_eq_true (by omega),Bool.true_and,List.all_eq_true]
  intro x hx
  have:=hin x hx
  exact decide_eq_true (wr64 x this.1 this.2)
 have hb2:∀ r∈rs,∀ s∈r.f1,s.length≤1000:=fun r hr s hs=>Nat.le_trans (hb r hr s hs) (by decide)
 obtain ⟨k1,h1⟩:=first_ev rs (by omega) hb2 hok
 obtain ⟨k2,h2⟩:=rfirst_ev rs (by omega) hb2 (by omega)
 obtain ⟨k3,h3⟩:=sameI_ev (firstP rs) (Nat.le_trans (len_hset _) (by omega))
 exact ⟨k1+k2+k3,h1 _ (by omega),h2 _ (by omega),h3 _ (by omega)⟩
theorem bd_check {n:Nat} {rs:List S49} (h:BdL n rs) (hn:n≤60) (k L G:Int):∃ m,abugidaref16_Check.f m rs k L G=some (checkP rs k L G):=by
 have ms:∀ f:List (List Int),f.length≤n→(∀ s∈f,I64s n s)→M64 f:=fun f h1 h2=>⟨by omega,fun s hs=>by have:=(h2 s hs).1;omega⟩
 exact Ev.rounds (rcheck_ev rs k L G (by have:=h.1;omega) (fun r hr=>by
  have hb:=h.2 r hr
  exact ⟨ms _ hb.b0 hb.s0,ms _ hb.b1 hb.s1,ms _ hb.b2 hb.s2,by have:=hb.b3;omega,by have:=hb.b4;omega⟩))
end Go.Proofs.Ytlgkeaildncojaa.Q
end
section
namespace Go.Proofs.Ytlgkeaildncojaa.Q
open Go.RowKit Go.Shelf Go.Proofs.YtlgkeaildncojaaW.PrintWords Go.Proofs.YtlgkeaildncojaaW.PrintLast Go.Proofs.YtlgkeaildncojaaW.PrintMore
set_option linter.unusedSimpArgs false
set_option linter.unusedVariables false
theorem sz27:(Try.prog.info? 27).map (·.size)=some 3:=by kernel_rfl
def Nums (W:World) (g n:Nat):Prop:=∀ i<n,∃ x y z,W.cell? ⟨g,i*3,none⟩=some (.int .i64 x)∧W.cell? ⟨g,i*3+1,none⟩=some (.int .i64 y)∧W.cell? ⟨g,i*3+2,none⟩=some (.int .i64 z)
theorem Nums.nil (W:World) (g:Nat):Nums W g 0:=fun i hi=>absurd hi (Nat.not_lt_zero _)
theorem Nums.snoc {W:World} {g n:Nat} (h:Nums W g n) {x y z:Int} (h1:W.cell? ⟨g,n*3,none⟩=some (.int .i64 x)) (h2:W.cell? ⟨g,n*3+1,none⟩=some (.int .i64 y)) (h3:W.cell? ⟨g,n*3+2,none⟩=some (.int .i64 z)):Nums W g (n+1):=fun i hi=>by
 by_cases e:i=n
 ·
  subst e;exact ⟨x,y,z,h1,h2,h3⟩
 ·
  exact h i (by omega)
theorem Nums.below {W W':World} {g n:Nat} (hb:Below W.heap.size W W') (h:Nums W g n):Nums W' g n:=fun i hi=>by
 obtain ⟨x,y,z,h1,h2,h3⟩:=h i hi
 exact ⟨x,y,z,pw_cell_below hb h1,pw_cell_below hb h2,pw_cell_below hb h3⟩
set_option maxRecDepth 100000 in
set_option maxHeartbeats 8000000 in
theorem rulesChecks_calls (A0:Option Addr) (c0:Nat) (L:List (List Int)) (A1:Option Addr) (c1:Nat) (I:List Int) (o0 o1 o2 kq:Int) (A4:Option Addr) (c4:Nat) (M:List Bool) (hodd:OddF) (At:Option Addr) (ct:Nat) (T:List S49) (s0 s1 s2:Int) (w:World)
  (hr0:Kd.C (Kd.slice 3 (Kd.int .i64)) w A0 L.length L) (hc0:L.length≤c0) (hr1:Kd.C (Kd.int .i64) w A1 I.length I) (hc1:I.length≤c1) (hr4:Kd.C Kd.bool w A4 M.length M) (hc4:M.length≤c4) (hk:0≤kq∧kq≤255) (hrt:k49.C w At T.length T) (hct:T.length≤ct) (hit:In64 T) :
  Calls Try.prog 3 #[.agg #[.slice At T.length ct],.agg #[.slice A0 L.length c0,.slice A1 I.length c1,.int .i64 o0,.int .i64 o1,.int .i64 o2,.int .u8 kq,.slice A4 M.length c4],.agg #[.int .i64 s0,.int .i64 s1,.int .i64 s2]] w fun e w'=>e=.returned (.bool true)∧Below w.heap.size w w':=by
 have HCASE:=Aside0.mk (fun W (hb:Below w.heap.size w W)=>case_plain A0 c0 L A1 c1 I o0 o1 o2 kq A4 c4 M W (Kd.C_below hr0 hb) hc0 (lens hr0 rfl) (Kd.C_below hr1 hb) hc1 hc4 hk)
 have HM0:=Aside0.mk (C_take hr4 30)
 have HCM:=Aside0.mk (show (M.take 30).length≤c4 by rw [List.length_take];omega)
 generalize M.take 30=may at HCASE HM0 HCM
 have HK:=Aside0.mk (Nat.mod_lt kq.toNat (show 0<3 by decide))
 have HT0:=Aside0.mk hrt
 have HCT:=Aside0.mk hct
 have HIT:=Aside0.mk hit
 have HODD:=Aside0.mk hodd
 have HO:=Aside0.mk (Own.start w)
 clear hrt hct hit hodd
 obtain ⟨k,hkk⟩:∃ k,kq.toNat % 3=k:=⟨_,rfl⟩
 rw [hkk] at HK
 simp only [hkk] at HCASE
 clear hkk hr0 hc0 hr1 hc1 hr4 hc4 hk
 go_enter Try.func3,Try.ntmps3
 go_upto_region 3 with (first
  | ((with_reducible refine gate_dst (N:=3) rfl ?_);(refine ev_box (N:=3) (cs:=#[.slice At T.length ct]) (t:=24) HO.out rfl rfl zhr ?_;intro g3 W_ hO hb_;clear HO hb_;have HO:=Aside0.mk hO;clear hO))
  | ((with_reducible refine gate_dst (N:=4) rfl ?_);(refine ev_box (N:=4) (cs:=#[.slice A0 L.length c0,.slice A1 I.length c1,.int .i64 o0,.int .i64 o1,.int .i64 o2,.int .u8 kq,.slice A4 M.length c4]) (t:=30) HO.out rfl rfl zhr ?_;intro g4 W_ hO hb_;clear HO hb_;have HO:=Aside0.mk hO;clear hO))
  | ((with_reducible refine gate_dst (N:=5) rfl ?_);(refine ev_box (N:=5) (cs:=#[.int .i64 s0,.int .i64 s1,.int .i64 s2]) (t:=27) HO.out rfl rfl zhr ?_;intro g5 W_ hO hb_;clear HO hb_;have HO:=Aside0.mk hO;clear hO))
  | (go_at_call 11;(refine (abugidalaw16_sanity.calls 0 true _ rfl).mono ?_;rintro e_ W_ ⟨rfl,hb⟩;have nO:=Aside0.mk (HO.out.grow hb);clear HO hb;have HO:=nO;clear nO;have b0:=HO.out.box_cell 1 rfl 0 rfl;have b1:=HO.out.box_cell 1 rfl 1 rfl;have b2:=HO.out.box_cell 1 rfl 2 rfl;have b3:=HO.out.box_cell 1 rfl 3 rfl;have b4:=HO.out.box_cell 1 rfl 4 rfl;have b5:=HO.out.box_cell 1 rfl 5 rfl;have b6:=HO.out.box_cell 1 rfl 6 rfl))
  | (go_at_call 12;(refine (HCASE.out _ HO.out.below).mono ?_;rintro e_ W3 ⟨v1_,v3_,rfl,hO3⟩;have HB:=Aside0.mk (below_step HO.out.below hO3.below);obtain ⟨A5,c5,rfl,hc5,hC5⟩:=hO3.row_at 0 rfl;obtain ⟨A7,c7,rfl,hc7,hC7⟩:=hO3.row_at 1 rfl;have HA:=Aside0.mk hC5;have c3:=pw_cell_below hO3.below (HO.out.box_cell 0 rfl 0 rfl);have ic2:=pw_cell_below hO3.below (HO.out.box_cell 1 rfl 2 rfl);have ic3:=pw_cell_below hO3.below (HO.out.box_cell 1 rfl 3 rfl);have ic4:=pw_cell_below hO3.below (HO.out.box_cell 1 rfl 4 rfl);have n0:=pw_cell_below hO3.below (HO.out.box_cell 2 rfl 0 rfl);have n1:=pw_cell_below hO3.below (HO.out.box_cell 2 rfl 1 rfl);have n2:=pw_cell_below hO3.below (HO.out.box_cell 2 rfl 2 rfl);clear hC5 hc5 hC7 hc7 hO3 HO HCASE b0 b1 b2 b3 b4 b5 b6;have HO:=Aside0.mk (Own.start W3))))
 clear HM0 HCM
 have HT:=Aside0.mk (Kd.C_below HT0.out HB.out)
 clear HT0
 have hbd:=madeAll_bd L k HK.out
 have hck:=madeAll_check L k HK.out 9 (by decide) (by decide)
 obtain ⟨ad,A6,c6,hA,x0,y0,y1⟩:=at_T24 HA.out (k:Int) (by omega) (by have:=madeAll_len L;have:=HK.out;omega)
 subst hA
 rw [show rd_T24 (madeAll L) (k:Int)=(madeAll L).getD k z24 from rfl] at x0 y0 y1
 rw [Int.toNat_natCast] at x0
 obtain ⟨rs,hrs⟩:∃ rs,((madeAll L).getD k z24).f0=rs:=⟨_,rfl⟩
 simp only [hrs] at x0 y0 y1 hbd hck
 have HBD:=Aside0.mk hbd
 have HCR:=Aside0.mk y0
 have HR:=Aside0.mk y1
 generalize itemsM I=its at *
 have hal:=madeAll_len L
 generalize madeAll L=all at *
 have q0:(0≤(k:Int))=True:=eq_true (by omega)
 have q1:((k:Int)<(all.length:Int))=True:=eq_true (by have:=HK.out;omega)
 have HCK:=Aside0.mk hck
 clear hrs y0 y1 hal hbd hck
 have C3:=Aside0.mk c3
 have X0:=Aside0.mk x0
 have IC2:=Aside0.mk ic2
 have IC3:=Aside0.mk ic3
 have IC4:=Aside0.mk ic4
 have N0:=Aside0.mk n0
 have N1:=Aside0.mk n1
 have N2:=Aside0.mk n2
 clear c3 n0 n1 n2
 go_cut [12] (fun v12 wc=>∃ (g12 c12:Nat) (A12:Option Addr) (l12:List S49),v12=.pointer (some ⟨g12,0,none⟩)∧Aside0 (l12.length≤c12)∧Aside0 (BdL 21 l12)∧Aside0 (k49.C wc A12 l12.length l12)∧Aside0 (wc.cell? ⟨g12,0,none⟩=some (.slice A12 l12.length c12))∧Aside0 (Below W3.heap.size W3 wc))
 case first =>
  have HBW:=Aside0.mk (below_drew (Below.refl W3.heap.size W3))
  clear x0 ic2 ic3 ic4;have x0:=pw_cell_below HBW.out X0.out;have ic2:=pw_cell_below HBW.out IC2.out;have ic3:=pw_cell_below HBW.out IC3.out;have ic4:=pw_cell_below HBW.out IC4.out
  refine wp_region_any (by kernel_rfl) ?_
  try (change wpAny _ _ _ _ _ _ _ (World.drew _))
  refine wpAny_take (i:=0) (v:=?_) rfl (by kernel_rfl) (by kernel_rfl) (by kernel_rfl) (fun _ _ _ h=>h) (Or.inl ⟨by rfl,?_⟩) ?_
  rotate_left
  ·
   (intro w;go_simp)<;>with_reducible rfl
  go_simp
  refine wpAny_take (i:=1) (v:=?_) rfl (by kernel_rfl) (by kernel_rfl) (by kernel_rfl) (fun _ _ _ h=>h) (Or.inl ⟨by rfl,?_⟩) ?_
  rotate_left
  ·
   (intro w;go_simp)<;>with_reducible rfl
  go_simp
  refine wpAny_take (i:=2) (v:=?_) rfl (by kernel_rfl) (by kernel_rfl) (by kernel_rfl) (fun _ _ _ h=>h) (Or.inl ⟨by rfl,?_⟩) ?_
  rotate_left
  ·
   (intro w;go_simp)<;>with_reducible rfl
  go_simp
  refine wpAny_take (i:=4) (v:=?_) rfl (by kernel_rfl) (by kernel_rfl) (by kernel_rfl) (fun _ _ _ h=>h) (Or.inl ⟨by rfl,?_⟩) ?_
  rotate_left
  ·
   (intro w;go_simp)<;>with_reducible rfl
  go_simp
  refine wpAny_ready (rs:=[3,5,7]) (by kernel_rfl) (by simp) ?_
  refine (AllReady.cons rfl (fun K hK=>?_) (AllReady.cons rfl (fun K hK=>?_) (AllReady.cons rfl (fun K hK=>?_) AllReady.nil)))
  ·
   go_simp
   try go_simp
   refine hK _ _ ?_
   clear hK K
   try go_simp
   refine wpAny_ready (rs:=[5,7]) (by kernel_rfl) (by simp) ?_
   refine (AllReady.cons rfl (fun K hK=>?_) (AllReady.cons rfl (fun K hK=>?_) AllReady.nil))
   ·
    go_simp
    try go_simp
    refine hK _ _ ?_
    clear hK K
    try go_simp
    refine wpAny_ready (rs:=[6,7]) (by kernel_rfl) (by simp) ?_
    refine (AllReady.cons rfl (fun K hK=>?_) (AllReady.cons rfl (fun K hK=>?_) AllReady.nil))
    ·
     go_simp
     go_at_call 13
     refine (HODD.out A6 c6 rs o0 o1 o2 9 W3 _ .emp (((Own.start W3).grow HBW.out).add (r:=.emp) (Below.refl _ _) trivial) HR.out HCR.out HBD.out (by decide)).mono ?_
     rintro e_ W_ ⟨A12,c12,l12,XS,rfl,hF,hc,hbd,hO⟩
     have H12:=Aside0.mk (hF _ (ex_tail hO))
     clear HBW
     have HBW:=Aside0.mk hO.below
     have C12:=Aside0.mk hc
     have B12:=Aside0.mk hbd
     clear hF hc hbd hO
     clear x0 ic2 ic3 ic4;have x0:=pw_cell_below HBW.out X0.out;have ic2:=pw_cell_below HBW.out IC2.out;have ic3:=pw_cell_below HBW.out IC3.out;have ic4:=pw_cell_below HBW.out IC4.out
     try go_simp
     refine hK _ _ ?_
     clear hK K
     try go_simp
     refine wpAny_ready (rs:=[7]) (by kernel_rfl) (by simp) ?_
     refine (AllReady.cons rfl (fun K hK=>?_) AllReady.nil)
     go_simp
     have HOB:=Aside0.mk ((Own.start W_).add (r:=.box W_.heap.size 24 #[.slice none 0 0]) (below_alloc (Below.refl _ _) (.cells #[.slice none 0 0] 24 (0,0))) ⟨Nat.le_refl _,blk_new W_ _⟩)
     try go_simp
     refine hK _ _ ?_
     clear hK K
     try go_simp
     refine wpAny_ready (rs:=[8]) (by kernel_rfl) (by simp) ?_
     refine (AllReady.cons rfl (fun K hK=>?_) AllReady.nil)
     have f_:=HOB.out.box_free 0 rfl 0
     have z_:=HOB.out.box_cell 0 rfl 0 rfl
     go_simp
     clear f_ z_ HOB
     have HOB:=Aside0.mk ((Own.start W_).add (r:=.box W_.heap.size 24 #[.slice A12 l12.length c12]) (below_alloc (Below.refl _ _) (.cells #[.slice A12 l12.length c12] 24 (0,0))) ⟨Nat.le_refl _,blk_new W_ _⟩)
     try go_simp
     refine hK _ _ ?_
     clear hK K
     try go_simp
     refine wpAny_done (by kernel_rfl) ?_ _
     try go_wp2
     go_meet
     case rel=>exact ⟨_,c12,A12,l12,rfl,C12,B12,⟨HOB.out.old H12.out⟩,⟨HOB.out.box_cell 0 rfl 0 rfl⟩,⟨below_step HBW.out HOB.out.below⟩⟩
    ·
     go_simp
     have HOB:=Aside0.mk (((Own.start W3).add (r:=.box W3.heap.size 24 #[.slice none 0 0]) (below_alloc (Below.refl _ _) (.cells #[.slice none 0 0] 24 (0,0))) ⟨Nat.le_refl _,blk_new W3 _⟩).drew)
     clear x0 ic2 ic3 ic4;have x0:=pw_cell_below HOB.out.below X0.out;have ic2:=pw_cell_below HOB.out.below IC2.out;have ic3:=pw_cell_below HOB.out.below IC3.out;have ic4:=pw_cell_below HOB.out.below IC4.out
     try go_simp
     refine hK _ _ ?_
     clear hK K
     try go_simp
     refine wpAny_ready (rs:=[6]) (by kernel_rfl) (by simp) ?_
     refine (AllReady.cons rfl (fun K hK=>?_) AllReady.nil)
     go_simp
     go_at_call 13
     refine (HODD.out A6 c6 rs o0 o1 o2 9 W3 _ _ HOB.out HR.out HCR.out HBD.out (by decide)).mono ?_
     rintro e_ W_ ⟨A12,c12,l12,XS,rfl,hF,hc,hbd,hO⟩
     clear HOB
     have HOB:=Aside0.mk hO
     have HF:=Aside0.mk hF
     have C12:=Aside0.mk hc
     have B12:=Aside0.mk hbd
     clear hF hc hbd hO
     clear x0 ic2 ic3 ic4;have x0:=pw_cell_below HOB.out.below X0.out;have ic2:=pw_cell_below HOB.out.below IC2.out;have ic3:=pw_cell_below HOB.out.below IC3.out;have ic4:=pw_cell_below HOB.out.below IC4.out
     try go_simp
     refine hK _ _ ?_
     clear hK K
     try go_simp
     refine wpAny_ready (rs:=[8]) (by kernel_rfl) (by simp) ?_
     refine (AllReady.cons rfl (fun K hK=>?_) AllReady.nil)
     have f_:=HOB.out.box_free 0 rfl 0
     have z_:=HOB.out.box_cell 0 rfl 0 rfl
     go_simp
     have hO:=HOB.out.put 0 rfl 0 (.slice A12 l12.length c12) (by simp) rfl
     clear f_ z_ HOB
     have HOB:=Aside0.mk hO
     clear hO
     try go_simp
     refine hK _ _ ?_
     clear hK K
     try go_simp
     refine wpAny_done (by kernel_rfl) ?_ _
     try go_wp2
     go_meet
     case rel=>exact ⟨_,c12,A12,l12,rfl,C12,B12,⟨HF.out _ (ex_tail HOB.out)⟩,⟨HOB.out.box_cell 0 rfl 0 rfl⟩,⟨HOB.out.below⟩⟩
   ·
    go_simp
    have HOB:=Aside0.mk (((Own.start W3).add (r:=.box W3.heap.size 24 #[.slice none 0 0]) (below_alloc (Below.refl _ _) (.cells #[.slice none 0 0] 24 (0,0))) ⟨Nat.le_refl _,blk_new W3 _⟩).drew)
    clear x0 ic2 ic3 ic4;have x0:=pw_cell_below HOB.out.below X0.out;have ic2:=pw_cell_below HOB.out.below IC2.out;have ic3:=pw_cell_below HOB.out.below IC3.out;have ic4:=pw_cell_below HOB.out.below IC4.out
    try go_simp
    refine hK _ _ ?_
    clear hK K
    try go_simp
    refine wpAny_ready (rs:=[5]) (by kernel_rfl) (by simp) ?_
    refine (AllReady.cons rfl (fun K hK=>?_) AllReady.nil)
    go_simp
    try go_simp
    refine hK _ _ ?_
    clear hK K
    try go_simp
    refine wpAny_ready (rs:=[6]) (by kernel_rfl) (by simp) ?_
    refine (AllReady.cons rfl (fun K hK=>?_) AllReady.nil)
    go_simp
    go_at_call 13
    refine (HODD.out A6 c6 rs o0 o1 o2 9 W3 _ _ HOB.out HR.out HCR.out HBD.out (by decide)).mono ?_
    rintro e_ W_ ⟨A12,c12,l12,XS,rfl,hF,hc,hbd,hO⟩
    clear HOB
    have HOB:=Aside0.mk hO
    have HF:=Aside0.mk hF
    have C12:=Aside0.mk hc
    have B12:=Aside0.mk hbd
    clear hF hc hbd hO
    clear x0 ic2 ic3 ic4;have x0:=pw_cell_below HOB.out.below X0.out;have ic2:=pw_cell_below HOB.out.below IC2.out;have ic3:=pw_cell_below HOB.out.below IC3.out;have ic4:=pw_cell_below HOB.out.below IC4.out
    try go_simp
    refine hK _ _ ?_
    clear hK K
    try go_simp
    refine wpAny_ready (rs:=[8]) (by kernel_rfl) (by simp) ?_
    refine (AllReady.cons rfl (fun K hK=>?_) AllReady.nil)
    have f_:=HOB.out.box_free 0 rfl 0
    have z_:=HOB.out.box_cell 0 rfl 0 rfl
    go_simp
    have hO:=HOB.out.put 0 rfl 0 (.slice A12 l12.length c12) (by simp) rfl
    clear f_ z_ HOB
    have HOB:=Aside0.mk hO
    clear hO
    try go_simp
    refine hK _ _ ?_
    clear hK K
    try go_simp
    refine wpAny_done (by kernel_rfl) ?_ _
    try go_wp2
    go_meet
    case rel=>exact ⟨_,c12,A12,l12,rfl,C12,B12,⟨HF.out _ (ex_tail HOB.out)⟩,⟨HOB.out.box_cell 0 rfl 0 rfl⟩,⟨HOB.out.below⟩⟩
  ·
   go_simp
   try go_simp
   refine hK _ _ ?_
   clear hK K
   try go_simp
   refine wpAny_ready (rs:=[3,7]) (by kernel_rfl) (by simp) ?_
   refine (AllReady.cons rfl (fun K hK=>?_) (AllReady.cons rfl (fun K hK=>?_) AllReady.nil))
   ·
    go_simp
    try go_simp
    refine hK _ _ ?_
    clear hK K
    try go_simp
    refine wpAny_ready (rs:=[6,7]) (by kernel_rfl) (by simp) ?_
    refine (AllReady.cons rfl (fun K hK=>?_) (AllReady.cons rfl (fun K hK=>?_) AllReady.nil))
    ·
     go_simp
     go_at_call 13
     refine (HODD.out A6 c6 rs o0 o1 o2 9 W3 _ .emp (((Own.start W3).grow HBW.out).add (r:=.emp) (Below.refl _ _) trivial) HR.out HCR.out HBD.out (by decide)).mono ?_
     rintro e_ W_ ⟨A12,c12,l12,XS,rfl,hF,hc,hbd,hO⟩
     have H12:=Aside0.mk (hF _ (ex_tail hO))
     clear HBW
     have HBW:=Aside0.mk hO.below
     have C12:=Aside0.mk hc
     have B12:=Aside0.mk hbd
     clear hF hc hbd hO
     clear x0 ic2 ic3 ic4;have x0:=pw_cell_below HBW.out X0.out;have ic2:=pw_cell_below HBW.out IC2.out;have ic3:=pw_cell_below HBW.out IC3.out;have ic4:=pw_cell_below HBW.out IC4.out
     try go_simp
     refine hK _ _ ?_
     clear hK K
     try go_simp
     refine wpAny_ready (rs:=[7]) (by kernel_rfl) (by simp) ?_
     refine (AllReady.cons rfl (fun K hK=>?_) AllReady.nil)
     go_simp
     have HOB:=Aside0.mk ((Own.start W_).add (r:=.box W_.heap.size 24 #[.slice none 0 0]) (below_alloc (Below.refl _ _) (.cells #[.slice none 0 0] 24 (0,0))) ⟨Nat.le_refl _,blk_new W_ _⟩)
     try go_simp
     refine hK _ _ ?_
     clear hK K
     try go_simp
     refine wpAny_ready (rs:=[8]) (by kernel_rfl) (by simp) ?_
     refine (AllReady.cons rfl (fun K hK=>?_) AllReady.nil)
     have f_:=HOB.out.box_free 0 rfl 0
     have z_:=HOB.out.box_cell 0 rfl 0 rfl
     go_simp
     clear f_ z_ HOB
     have HOB:=Aside0.mk ((Own.start W_).add (r:=.box W_.heap.size 24 #[.slice A12 l12.length c12]) (below_alloc (Below.refl _ _) (.cells #[.slice A12 l12.length c12] 24 (0,0))) ⟨Nat.le_refl _,blk_new W_ _⟩)
     try go_simp
     refine hK _ _ ?_
     clear hK K
     try go_simp
     refine wpAny_done (by kernel_rfl) ?_ _
     try go_wp2
     go_meet
     case rel=>exact ⟨_,c12,A12,l12,rfl,C12,B12,⟨HOB.out.old H12.out⟩,⟨HOB.out.box_cell 0 rfl 0 rfl⟩,⟨below_step HBW.out HOB.out.below⟩⟩
    ·
     go_simp
     have HOB:=Aside0.mk (((Own.start W3).add (r:=.box W3.heap.size 24 #[.slice none 0 0]) (below_alloc (Below.refl _ _) (.cells #[.slice none 0 0] 24 (0,0))) ⟨Nat.le_refl _,blk_new W3 _⟩).drew)
     clear x0 ic2 ic3 ic4;have x0:=pw_cell_below HOB.out.below X0.out;have ic2:=pw_cell_below HOB.out.below IC2.out;have ic3:=pw_cell_below HOB.out.below IC3.out;have ic4:=pw_cell_below HOB.out.below IC4.out
     try go_simp
     refine hK _ _ ?_
     clear hK K
     try go_simp
     refine wpAny_ready (rs:=[6]) (by kernel_rfl) (by simp) ?_
     refine (AllReady.cons rfl (fun K hK=>?_) AllReady.nil)
     go_simp
     go_at_call 13
     refine (HODD.out A6 c6 rs o0 o1 o2 9 W3 _ _ HOB.out HR.out HCR.out HBD.out (by decide)).mono ?_
     rintro e_ W_ ⟨A12,c12,l12,XS,rfl,hF,hc,hbd,hO⟩
     clear HOB
     have HOB:=Aside0.mk hO
     have HF:=Aside0.mk hF
     have C12:=Aside0.mk hc
     have B12:=Aside0.mk hbd
     clear hF hc hbd hO
     clear x0 ic2 ic3 ic4;have x0:=pw_cell_below HOB.out.below X0.out;have ic2:=pw_cell_below HOB.out.below IC2.out;have ic3:=pw_cell_below HOB.out.below IC3.out;have ic4:=pw_cell_below HOB.out.below IC4.out
     try go_simp
     refine hK _ _ ?_
     clear hK K
     try go_simp
     refine wpAny_ready (rs:=[8]) (by kernel_rfl) (by simp) ?_
     refine (AllReady.cons rfl (fun K hK=>?_) AllReady.nil)
     have f_:=HOB.out.box_free 0 rfl 0
     have z_:=HOB.out.box_cell 0 rfl 0 rfl
     go_simp
     have hO:=HOB.out.put 0 rfl 0 (.slice A12 l12.length c12) (by simp) rfl
     clear f_ z_ HOB
     have HOB:=Aside0.mk hO
     clear hO
     try go_simp
     refine hK _ _ ?_
     clear hK K
     try go_simp
     refine wpAny_done (by kernel_rfl) ?_ _
     try go_wp2
     go_meet
     case rel=>exact ⟨_,c12,A12,l12,rfl,C12,B12,⟨HF.out _ (ex_tail HOB.out)⟩,⟨HOB.out.box_cell 0 rfl 0 rfl⟩,⟨HOB.out.below⟩⟩
   ·
    go_simp
    have HOB:=Aside0.mk (((Own.start W3).add (r:=.box W3.heap.size 24 #[.slice none 0 0]) (below_alloc (Below.refl _ _) (.cells #[.slice none 0 0] 24 (0,0))) ⟨Nat.le_refl _,blk_new W3 _⟩).drew)
    clear x0 ic2 ic3 ic4;have x0:=pw_cell_below HOB.out.below X0.out;have ic2:=pw_cell_below HOB.out.below IC2.out;have ic3:=pw_cell_below HOB.out.below IC3.out;have ic4:=pw_cell_below HOB.out.below IC4.out
    try go_simp
    refine hK _ _ ?_
    clear hK K
    try go_simp
    refine wpAny_ready (rs:=[3]) (by kernel_rfl) (by simp) ?_
    refine (AllReady.cons rfl (fun K hK=>?_) AllReady.nil)
    go_simp
    try go_simp
    refine hK _ _ ?_
    clear hK K
    try go_simp
    refine wpAny_ready (rs:=[6]) (by kernel_rfl) (by simp) ?_
    refine (AllReady.cons rfl (fun K hK=>?_) AllReady.nil)
    go_simp
    go_at_call 13
    refine (HODD.out A6 c6 rs o0 o1 o2 9 W3 _ _ HOB.out HR.out HCR.out HBD.out (by decide)).mono ?_
    rintro e_ W_ ⟨A12,c12,l12,XS,rfl,hF,hc,hbd,hO⟩
    clear HOB
    have HOB:=Aside0.mk hO
    have HF:=Aside0.mk hF
    have C12:=Aside0.mk hc
    have B12:=Aside0.mk hbd
    clear hF hc hbd hO
    clear x0 ic2 ic3 ic4;have x0:=pw_cell_below HOB.out.below X0.out;have ic2:=pw_cell_below HOB.out.below IC2.out;have ic3:=pw_cell_below HOB.out.below IC3.out;have ic4:=pw_cell_below HOB.out.below IC4.out
    try go_simp
    refine hK _ _ ?_
    clear hK K
    try go_simp
    refine wpAny_ready (rs:=[8]) (by kernel_rfl) (by simp) ?_
    refine (AllReady.cons rfl (fun K hK=>?_) AllReady.nil)
    have f_:=HOB.out.box_free 0 rfl 0
    have z_:=HOB.out.box_cell 0 rfl 0 rfl
    go_simp
    have hO:=HOB.out.put 0 rfl 0 (.slice A12 l12.length c12) (by simp) rfl
    clear f_ z_ HOB
    have HOB:=Aside0.mk hO
    clear hO
    try go_simp
    refine hK _ _ ?_
    clear hK K
    try go_simp
    refine wpAny_done (by kernel_rfl) ?_ _
    try go_wp2
    go_meet
    case rel=>exact ⟨_,c12,A12,l12,rfl,C12,B12,⟨HF.out _ (ex_tail HOB.out)⟩,⟨HOB.out.box_cell 0 rfl 0 rfl⟩,⟨HOB.out.below⟩⟩
  ·
   go_simp
   have HOB:=Aside0.mk (((Own.start W3).add (r:=.box W3.heap.size 24 #[.slice none 0 0]) (below_alloc (Below.refl _ _) (.cells #[.slice none 0 0] 24 (0,0))) ⟨Nat.le_refl _,blk_new W3 _⟩).drew)
   clear x0 ic2 ic3 ic4;have x0:=pw_cell_below HOB.out.below X0.out;have ic2:=pw_cell_below HOB.out.below IC2.out;have ic3:=pw_cell_below HOB.out.below IC3.out;have ic4:=pw_cell_below HOB.out.below IC4.out
   try go_simp
   refine hK _ _ ?_
   clear hK K
   try go_simp
   refine wpAny_ready (rs:=[3,5]) (by kernel_rfl) (by simp) ?_
   refine (AllReady.cons rfl (fun K hK=>?_) (AllReady.cons rfl (fun K hK=>?_) AllReady.nil))
   ·
    go_simp
    try go_simp
    refine hK _ _ ?_
    clear hK K
    try go_simp
    refine wpAny_ready (rs:=[5]) (by kernel_rfl) (by simp) ?_
    refine (AllReady.cons rfl (fun K hK=>?_) AllReady.nil)
    go_simp
    try go_simp
    refine hK _ _ ?_
    clear hK K
    try go_simp
    refine wpAny_ready (rs:=[6]) (by kernel_rfl) (by simp) ?_
    refine (AllReady.cons rfl (fun K hK=>?_) AllReady.nil)
    go_simp
    go_at_call 13
    refine (HODD.out A6 c6 rs o0 o1 o2 9 W3 _ _ HOB.out HR.out HCR.out HBD.out (by decide)).mono ?_
    rintro e_ W_ ⟨A12,c12,l12,XS,rfl,hF,hc,hbd,hO⟩
    clear HOB
    have HOB:=Aside0.mk hO
    have HF:=Aside0.mk hF
    have C12:=Aside0.mk hc
    have B12:=Aside0.mk hbd
    clear hF hc hbd hO
    clear x0 ic2 ic3 ic4;have x0:=pw_cell_below HOB.out.below X0.out;have ic2:=pw_cell_below HOB.out.below IC2.out;have ic3:=pw_cell_below HOB.out.below IC3.out;have ic4:=pw_cell_below HOB.out.below IC4.out
    try go_simp
    refine hK _ _ ?_
    clear hK K
    try go_simp
    refine wpAny_ready (rs:=[8]) (by kernel_rfl) (by simp) ?_
    refine (AllReady.cons rfl (fun K hK=>?_) AllReady.nil)
    have f_:=HOB.out.box_free 0 rfl 0
    have z_:=HOB.out.box_cell 0 rfl 0 rfl
    go_simp
    have hO:=HOB.out.put 0 rfl 0 (.slice A12 l12.length c12) (by simp) rfl
    clear f_ z_ HOB
    have HOB:=Aside0.mk hO
    clear hO
    try go_simp
    refine hK _ _ ?_
    clear hK K
    try go_simp
    refine wpAny_done (by kernel_rfl) ?_ _
    try go_wp2
    go_meet
    case rel=>exact ⟨_,c12,A12,l12,rfl,C12,B12,⟨HF.out _ (ex_tail HOB.out)⟩,⟨HOB.out.box_cell 0 rfl 0 rfl⟩,⟨HOB.out.below⟩⟩
   ·
    go_simp
    try go_simp
    refine hK _ _ ?_
    clear hK K
    try go_simp
    refine wpAny_ready (rs:=[3]) (by kernel_rfl) (by simp) ?_
    refine (AllReady.cons rfl (fun K hK=>?_) AllReady.nil)
    go_simp
    try go_simp
    refine hK _ _ ?_
    clear hK K
    try go_simp
    refine wpAny_ready (rs:=[6]) (by kernel_rfl) (by simp) ?_
    refine (AllReady.cons rfl (fun K hK=>?_) AllReady.nil)
    go_simp
    go_at_call 13
    refine (HODD.out A6 c6 rs o0 o1 o2 9 W3 _ _ HOB.out HR.out HCR.out HBD.out (by decide)).mono ?_
    rintro e_ W_ ⟨A12,c12,l12,XS,rfl,hF,hc,hbd,hO⟩
    clear HOB
    have HOB:=Aside0.mk hO
    have HF:=Aside0.mk hF
    have C12:=Aside0.mk hc
    have B12:=Aside0.mk hbd
    clear hF hc hbd hO
    clear x0 ic2 ic3 ic4;have x0:=pw_cell_below HOB.out.below X0.out;have ic2:=pw_cell_below HOB.out.below IC2.out;have ic3:=pw_cell_below HOB.out.below IC3.out;have ic4:=pw_cell_below HOB.out.below IC4.out
    try go_simp
    refine hK _ _ ?_
    clear hK K
    try go_simp
    refine wpAny_ready (rs:=[8]) (by kernel_rfl) (by simp) ?_
    refine (AllReady.cons rfl (fun K hK=>?_) AllReady.nil)
    have f_:=HOB.out.box_free 0 rfl 0
    have z_:=HOB.out.box_cell 0 rfl 0 rfl
    go_simp
    have hO:=HOB.out.put 0 rfl 0 (.slice A12 l12.length c12) (by simp) rfl
    clear f_ z_ HOB
    have HOB:=Aside0.mk hO
    clear hO
    try go_simp
    refine hK _ _ ?_
    clear hK K
    try go_simp
    refine wpAny_done (by kernel_rfl) ?_ _
    try go_wp2
    go_meet
    case rel=>exact ⟨_,c12,A12,l12,rfl,C12,B12,⟨HF.out _ (ex_tail HOB.out)⟩,⟨HOB.out.box_cell 0 rfl 0 rfl⟩,⟨HOB.out.below⟩⟩
 obtain ⟨g12,c12,A12,l12,rfl,C12,B12,H12,Z12,HB3⟩:=hcut
 clear HO
 have n_:=Aside0.mk (below_step HB.out HB3.out)
 clear HB
 have HB:=n_
 clear n_
 have n_:=Aside0.mk (Kd.C_below HT.out HB3.out)
 clear HT
 have HT:=n_
 clear n_
 have n_:=Aside0.mk (Kd.C_below HR.out HB3.out)
 clear HR
 have HR:=n_
 clear n_
 have n_:=Aside0.mk (pw_cell_below HB3.out C3.out)
 clear C3
 have C3:=n_
 clear n_
 have n_:=Aside0.mk (pw_cell_below HB3.out X0.out)
 clear X0
 have X0:=n_
 clear n_
 have n_:=Aside0.mk (pw_cell_below HB3.out IC2.out)
 clear IC2
 have IC2:=n_
 clear n_
 have n_:=Aside0.mk (pw_cell_below HB3.out IC3.out)
 clear IC3
 have IC3:=n_
 clear n_
 have n_:=Aside0.mk (pw_cell_below HB3.out IC4.out)
 clear IC4
 have IC4:=n_
 clear n_
 have n_:=Aside0.mk (pw_cell_below HB3.out N0.out)
 clear N0
 have N0:=n_
 clear n_
 have n_:=Aside0.mk (pw_cell_below HB3.out N1.out)
 clear N1
 have N1:=n_
 clear n_
 have n_:=Aside0.mk (pw_cell_below HB3.out N2.out)
 clear N2
 have N2:=n_
 clear n_
 clear x0 ic2 ic3 ic4 HB3 HA
 have HO:=Aside0.mk (Own.start wc)
 have c3:=C3.out
 have x0:=X0.out
 have ic2:=IC2.out
 have ic3:=IC3.out
 have ic4:=IC4.out
 have z12:=Z12.out
 go_upto_region 4 with (fail)
 go_region_held3 (fun w'=>w'.cell? ⟨g3,0,none⟩=some (.slice At T.length ct)∧w'.cell? (ad.add k)=some (.slice A6 rs.length c6)∧w'.cell? ⟨g12,0,none⟩=some (.slice A12 l12.length c12)∧w'.cell? ⟨g4,2,none⟩=some (.int .i64 o0)∧w'.cell? ⟨g4,3,none⟩=some (.int .i64 o1)∧w'.cell? ⟨g4,4,none⟩=some (.int .i64 o2)) (go_keep) (first
  | (go_at_call 13;refine (HODD.out.plain A12 c12 l12 o2 o1 o0 21 _ (HO.out.drew.old H12.out) C12.out B12.out (by decide)).mono ?_;rintro e_ W_ ⟨A48,c48,l48,rfl,hC,hc,hbd,hb⟩;have nO:=Aside0.mk (HO.out.drew.grow hb);clear HO hb;have HO:=nO;clear nO;have H48:=Aside0.mk hC;have C48:=Aside0.mk hc;have B48:=Aside0.mk hbd;clear hC hc hbd;clear c3 x0 ic2 ic3 ic4 z12;have c3:=pw_cell_below HO.out.below C3.out;have x0:=pw_cell_below HO.out.below X0.out;have ic2:=pw_cell_below HO.out.below IC2.out;have ic3:=pw_cell_below HO.out.below IC3.out;have ic4:=pw_cell_below HO.out.below IC4.out;have z12:=pw_cell_below HO.out.below Z12.out)
  | (go_at_call 14;refine (cut_plain At ct T _ (HO.out.old HT.out) HCT.out HIT.out).mono ?_;rintro e_ W_ ⟨A50,c50,l50,rfl,hC,hc,hbd,hb⟩;have n_:=Aside0.mk (Kd.C_below H48.out hb);clear H48;have H48:=n_;clear n_;have nO:=Aside0.mk (HO.out.grow hb);clear HO hb;have HO:=nO;clear nO;have H50:=Aside0.mk hC;have C50:=Aside0.mk hc;have B50:=Aside0.mk hbd;clear hC hc hbd;clear c3 x0 ic2 ic3 ic4 z12;have c3:=pw_cell_below HO.out.below C3.out;have x0:=pw_cell_below HO.out.below X0.out;have ic2:=pw_cell_below HO.out.below IC2.out;have ic3:=pw_cell_below HO.out.below IC3.out;have ic4:=pw_cell_below HO.out.below IC4.out;have z12:=pw_cell_below HO.out.below Z12.out))
 have hb_:Below W_.heap.size W_ (W_.alloc (Obj.cells #[Value.slice A6 rs.length c6,Value.slice A12 l12.length c12,Value.slice A48 l48.length c48,Value.slice A50 l50.length c50] 24)):=below_alloc (Below.refl _ _) _
 have hlk:Looks (W_.alloc (Obj.cells #[Value.slice A6 rs.length c6,Value.slice A12 l12.length c12,Value.slice A48 l48.length c48,Value.slice A50 l50.length c50] 24)) W_.heap.size 4 33 :=
  ((((Looks.nil _ _ _).snoc (lit_cell W_ _ _ _ 0 _ rfl) (Kd.C_below (HO.out.old HR.out) hb_) HCR.out (HBD.out.le (by decide))).snoc (lit_cell W_ _ _ _ 1 _ rfl) (Kd.C_below (HO.out.old H12.out) hb_) C12.out (B12.out.le (by decide))).snoc (lit_cell W_ _ _ _ 2 _ rfl) (Kd.C_below H48.out hb_) C48.out (B48.out.le (by decide))).snoc (lit_cell W_ _ _ _ 3 _ rfl) (Kd.C_below H50.out hb_) C50.out (B50.out.le (by decide))
 have nO:=HO.out.grow hb_
 have HLK:=Aside0.mk hlk
 clear HO H12 H48 H50 C12 C48 C50 B12 B48 B50 Z12 hlk z12 c3 x0 ic2 ic3 ic4 C3 IC2 IC3 IC4 HIT HODD HT HBD HCT
 try clear hHeld
 have n_:=Aside0.mk (below_step HB.out nO.below)
 clear HB
 have HB:=n_
 clear n_
 have n_:=Aside0.mk (nO.old HR.out)
 clear HR
 have HR:=n_
 clear n_
 have n_:=Aside0.mk (pw_cell_below nO.below X0.out)
 clear X0
 have X0:=n_
 clear n_
 have n_:=Aside0.mk (pw_cell_below nO.below N0.out)
 clear N0
 have N0:=n_
 clear n_
 have n_:=Aside0.mk (pw_cell_below nO.below N1.out)
 clear N1
 have N1:=n_
 clear n_
 have n_:=Aside0.mk (pw_cell_below nO.below N2.out)
 clear N2
 have N2:=n_
 clear n_
 clear nO hb_
 generalize W_.heap.size=g51 at *
 generalize (W_.alloc (Obj.cells #[Value.slice A6 rs.length c6,Value.slice A12 l12.length c12,Value.slice A48 l48.length c48,Value.slice A50 l50.length c50] 24))=W4 at *
 have HO:=Aside0.mk (Own.start W4)
 go_wp2
 go_loopw [53] (fun v53 w'=>∃ j:Nat,v53=.int .i64 j∧Aside0 (j≤4)∧Aside0 (Own W4 w' [])) (fun v53 _=>4 - (intOf v53).toNat)
 case atStart=>exact ⟨0,rfl,⟨Nat.zero_le _⟩,HO⟩
 case round =>
  clear HO
  obtain ⟨j,rfl,HJ,HO⟩:=hrel
  by_cases hlt:j<4
  case neg =>
   have r1:((j:Int)<4)=False:=eq_false (by omega)
   have d1:decide ((j:Int)<4)=false:=decide_eq_false (by omega)
   have x0:=pw_cell_below HO.out.below X0.out
   have hck:=HCK.out
   clear hlt
   go_wp2_with (first
    | (go_at_call 16;(refine (check_calls A6 c6 rs (k:Int) 3 9 _ (HO.out.old HR.out)).mono ?_;rintro e_ W_ ⟨rfl,hb⟩;have nO:=Aside0.mk (HO.out.grow hb);clear HO hb;have HO:=nO;clear nO x0)))
   go_ret
   exact ⟨rfl,below_step HB.out HO.out.below⟩
  obtain ⟨A14,c14,l,x0,hC,hc,hbd⟩:=HLK.out j hlt
  replace x0:=pw_cell_below HO.out.below x0
  have HLC:=Aside0.mk hC
  have HCC:=Aside0.mk hc
  have HBL:=Aside0.mk hbd
  have HJL:=Aside0.mk hlt
  have r1:((j:Int)<4)=True:=eq_true (by omega)
  have r0:(0≤(j:Int))=True:=eq_true (by omega)
  have hkb:(j:Int)+1≤9223372036854775807:=by omega
  obtain ⟨m0,hm0⟩:∃ m,s0 % 4=m:=⟨_,rfl⟩
  obtain ⟨m1,hm1⟩:∃ m,s1 % 13=m:=⟨_,rfl⟩
  obtain ⟨m2,hm2⟩:∃ m,s2 % 12=m:=⟨_,rfl⟩
  have HM0:=Aside0.mk (show abugidaref01_Mod.f s0 4=some m0 by rw [mod_some s0 4 (by decide) (by decide),hm0])
  have HM1:=Aside0.mk (show abugidaref01_Mod.f s1 13=some m1 by rw [mod_some s1 13 (by decide) (by decide),hm1])
  have HM2:=Aside0.mk (show abugidaref01_Mod.f s2 12=some m2 by rw [mod_some s2 12 (by decide) (by decide),hm2])
  have hw1:IntKind.i64.wrap (1+m1)=1+m1:=IntWalk.i64_in _ (by omega)
  have hw2:IntKind.i64.wrap (1+m2)=1+m2:=IntWalk.i64_in _ (by omega)
  clear hlt hC hc hbd hm0 hm1 hm2
  go_upto_region 7 with (first
   | ((with_reducible refine gate_dst (N:=14) rfl ?_);(refine ev_box (N:=14) (cs:=#[.slice none 0 0]) (t:=24) HO.out rfl rfl zhr ?_;intro g14 W_ hO hb_;have n_:=pw_cell_below hb_ x0;clear HO hb_ x0;have x0:=n_;clear n_;have HO:=Aside0.mk hO;clear hO))
   | ((with_reducible refine gate_store (t:=24) (p:=14) rfl ?_);(refine ev_store (cs':=#[.slice A14 l.length c14]) (.agg #[.slice A14 l.length c14]) 0 HO.out rfl rfl rfl rfl 0 rfl rfl sz24 za77 (Nat.le_refl _) rfl ?_;intro W_ hO;clear HO x0;have HO:=Aside0.mk hO;clear hO)))
  have n0:=pw_cell_below HO.out.below N0.out
  have n1:=pw_cell_below HO.out.below N1.out
  have n2:=pw_cell_below HO.out.below N2.out
  go_region_held3 (fun w'=>w'.cell? ⟨g5,0,none⟩=some (.int .i64 s0)∧w'.cell? ⟨g5,1,none⟩=some (.int .i64 s1)∧w'.cell? ⟨g5,2,none⟩=some (.int .i64 s2)) (go_keep) (first
   | (go_at_call_has 15 (Value.int .i64 4);refine (abugidaref01_Mod.calls s0 4 m0 _ HM0.out).mono ?_;rintro e_ W_ ⟨rfl,hd⟩;have nO:=Aside0.mk (HO.out.drew.grow hd.below);clear HO hd;have HO:=nO;clear nO;clear n0 n1 n2;have n0:=pw_cell_below HO.out.below N0.out;have n1:=pw_cell_below HO.out.below N1.out;have n2:=pw_cell_below HO.out.below N2.out)
   | (go_at_call_has 15 (Value.int .i64 13);refine (abugidaref01_Mod.calls s1 13 m1 _ HM1.out).mono ?_;rintro e_ W_ ⟨rfl,hd⟩;have nO:=Aside0.mk (HO.out.grow hd.below);clear HO hd;have HO:=nO;clear nO;clear n0 n1 n2;have n0:=pw_cell_below HO.out.below N0.out;have n1:=pw_cell_below HO.out.below N1.out;have n2:=pw_cell_below HO.out.below N2.out)
   | (go_at_call_has 15 (Value.int .i64 12);refine (abugidaref01_Mod.calls s2 12 m2 _ HM2.out).mono ?_;rintro e_ W_ ⟨rfl,hd⟩;have nO:=Aside0.mk (HO.out.grow hd.below);clear HO hd;have HO:=nO;clear nO;clear n0 n1 n2;have n0:=pw_cell_below HO.out.below N0.out;have n1:=pw_cell_below HO.out.below N1.out;have n2:=pw_cell_below HO.out.below N2.out))
  have hb_:Below W_.heap.size W_ (W_.alloc (Obj.cells #[Value.int IntKind.i64 s0,Value.int IntKind.i64 s1,Value.int IntKind.i64 s2,Value.int IntKind.i64 ↑k,Value.int IntKind.i64 3,Value.int IntKind.i64 9,Value.int IntKind.i64 ↑k,Value.int IntKind.i64 3,Value.int IntKind.i64 100,Value.int IntKind.i64 m0,Value.int IntKind.i64 (1+m1),Value.int IntKind.i64 (1+m2)] 27)):=below_alloc (Below.refl _ _) _
  have hnm:Nums (W_.alloc (Obj.cells #[Value.int IntKind.i64 s0,Value.int IntKind.i64 s1,Value.int IntKind.i64 s2,Value.int IntKind.i64 ↑k,Value.int IntKind.i64 3,Value.int IntKind.i64 9,Value.int IntKind.i64 ↑k,Value.int IntKind.i64 3,Value.int IntKind.i64 100,Value.int IntKind.i64 m0,Value.int IntKind.i64 (1+m1),Value.int IntKind.i64 (1+m2)] 27)) W_.heap.size 4:=(((((Nums.nil _ _).snoc (lit_cell W_ _ _ _ 0 _ rfl) (lit_cell W_ _ _ _ 1 _ rfl) (lit_cell W_ _ _ _ 2 _ rfl)).snoc (lit_cell W_ _ _ _ 3 _ rfl) (lit_cell W_ _ _ _ 4 _ rfl) (lit_cell W_ _ _ _ 5 _ rfl)).snoc (lit_cell W_ _ _ _ 6 _ rfl) (lit_cell W_ _ _ _ 7 _ rfl) (lit_cell W_ _ _ _ 8 _ rfl)).snoc (lit_cell W_ _ _ _ 9 _ rfl) (lit_cell W_ _ _ _ 10 _ rfl) (lit_cell W_ _ _ _ 11 _ rfl))
  have nO:=HO.out.grow hb_
  have HNM:=Aside0.mk hnm
  have Z14:=Aside0.mk (nO.box_cell 0 rfl 0 rfl)
  have n_:=Aside0.mk (nO.old HLC.out)
  clear HLC
  have HLC:=n_
  clear n_
  have HB7:=Aside0.mk nO.below
  clear hnm hb_ nO HO n0 n1 n2 HM0 HM1 HM2 hw1 hw2
  try clear hHeld
  generalize W_.heap.size=g74 at *
  generalize (W_.alloc (Obj.cells #[Value.int IntKind.i64 s0,Value.int IntKind.i64 s1,Value.int IntKind.i64 s2,Value.int IntKind.i64 ↑k,Value.int IntKind.i64 3,Value.int IntKind.i64 9,Value.int IntKind.i64 ↑k,Value.int IntKind.i64 3,Value.int IntKind.i64 100,Value.int IntKind.i64 m0,Value.int IntKind.i64 (1+m1),Value.int IntKind.i64 (1+m2)] 27))=W7 at *
  have HO:=Aside0.mk (Own.start W7)
  go_wp2
  go_loopw [76] (fun v76 w'=>∃ i:Nat,v76=.int .i64 i∧Aside0 (i≤4)∧Aside0 (Own W7 w' [])) (fun v76 _=>4 - (intOf v76).toNat)
  case atStart=>exact ⟨0,rfl,⟨Nat.zero_le _⟩,HO⟩
  case round =>
   clear HO
   obtain ⟨i,rfl,HI2,HO⟩:=hrel
   have z14:=pw_cell_below HO.out.below Z14.out
   by_cases hlt:i<4
   case pos =>
    obtain ⟨x,y,z,x0,x1,x2⟩:=HNM.out i hlt
    replace x0:=pw_cell_below HO.out.below x0
    replace x1:=pw_cell_below HO.out.below x1
    replace x2:=pw_cell_below HO.out.below x2
    obtain ⟨kc,hkc⟩:=bd_check HBL.out (by decide) x y z
    have HKC:=Aside0.mk hkc
    have t1:((i:Int)<4)=True:=eq_true (by omega)
    have t0:(0≤(i:Int))=True:=eq_true (by omega)
    have hki:(i:Int)+1≤9223372036854775807:=by omega
    have HIL:=Aside0.mk hlt
    clear hlt hkc z14
    go_upto_region 10 with (first
     | ((with_reducible refine gate_dst (N:=16) rfl ?_);(refine ev_box (N:=16) (cs:=#[.int .i64 0,.int .i64 0,.int .i64 0]) (t:=27) HO.out rfl rfl zhr ?_;intro g16 W_ hO hb_;have y0:=pw_cell_below hb_ x0;have y1:=pw_cell_below hb_ x1;have y2:=pw_cell_below hb_ x2;clear HO hb_ x0 x1 x2;have HO:=Aside0.mk hO;clear hO))
     | ((with_reducible refine gate_store (t:=27) (p:=16) rfl ?_);(refine ev_store (cs':=#[.int .i64 x,.int .i64 y,.int .i64 z]) (.agg #[.int .i64 x,.int .i64 y,.int .i64 z]) 0 HO.out rfl rfl rfl rfl 0 rfl rfl sz27 za77 (Nat.le_refl _) rfl ?_;intro W_ hO;clear HO y0 y1 y2;have HO:=Aside0.mk hO;clear hO)))
    have z14:=pw_cell_below HO.out.below Z14.out
    have z0:=HO.out.box_cell 0 rfl 0 rfl
    have z1:=HO.out.box_cell 0 rfl 1 rfl
    have z2:=HO.out.box_cell 0 rfl 2 rfl
    go_region_held3 (fun w'=>w'.cell? ⟨g14,0,none⟩=some (.slice A14 l.length c14)∧w'.cell? ⟨g16,0,none⟩=some (.int .i64 x)∧w'.cell? ⟨g16,1,none⟩=some (.int .i64 y)∧w'.cell? ⟨g16,2,none⟩=some (.int .i64 z)) (go_keep) (first
     | (go_at_call 16;refine (check_calls A14 c14 l x y z _ (HO.out.drew.old HLC.out)).mono ?_;rintro e_ W_ ⟨rfl,hb⟩;have nO:=Aside0.mk (HO.out.drew.grow hb);clear HO hb;have HO:=nO;clear nO;clear z14 z0 z1 z2;have z14:=pw_cell_below HO.out.below Z14.out;have z0:=HO.out.box_cell 0 rfl 0 rfl;have z1:=HO.out.box_cell 0 rfl 1 rfl;have z2:=HO.out.box_cell 0 rfl 2 rfl)
     | (go_at_call 17;refine (abugidaref16_Check.calls kc A14 c14 l x y z (checkP l x y z) _ (HO.out.old HLC.out) HCC.out HKC.out).mono ?_;rintro e_ W_ ⟨rfl,hb⟩;have nO:=Aside0.mk (HO.out.grow hb);clear HO hb;have HO:=nO;clear nO;clear z14 z0 z1 z2;have z14:=pw_cell_below HO.out.below Z14.out;have z0:=HO.out.box_cell 0 rfl 0 rfl;have z1:=HO.out.box_cell 0 rfl 1 rfl;have z2:=HO.out.box_cell 0 rfl 2 rfl))
    all_goals
     try go_wp2
     go_roundw
     case rel=>exact ⟨i+1,by go_num,⟨HIL.out⟩,⟨HO.out.upto 0⟩⟩
     case measure=>have:=HIL.out;simp [intOf];omega
   have t1:((i:Int)<4)=False:=eq_false (by omega)
   have e1:decide ((i:Int)<4)=false:=decide_eq_false (by omega)
   obtain ⟨kf,hf1,hf2,hf3⟩:=both_first HBL.out (by decide)
   have HF1:=Aside0.mk hf1
   have HF2:=Aside0.mk hf2
   have HF3:=Aside0.mk hf3
   generalize firstP l=fst at HF1 HF2 HF3
   clear hlt hf1 hf2 hf3
   go_upto_region 13 with (fail)
   go_region_held3 (fun w'=>w'.cell? ⟨g14,0,none⟩=some (.slice A14 l.length c14)) (go_keep) (first
    | (go_at_call 19;refine (rules_First.calls kf A14 c14 l fst _ (HO.out.drew.old HLC.out) HCC.out HF1.out).mono ?_;rintro e_ W_ ⟨v_,rfl,hR,hb⟩;have nO:=Aside0.mk (HO.out.drew.called hb hR);clear HO hR hb;obtain ⟨A99,c99,rfl,-,-⟩:=nO.out.row_at 0 rfl;have HO:=nO;clear nO z14;have z14:=pw_cell_below HO.out.below Z14.out)
    | (go_at_call 20;refine (abugidaref16_First.calls kf A14 c14 l fst _ (HO.out.old HLC.out) HCC.out HF2.out).mono ?_;rintro e_ W_ ⟨v_,rfl,hR,hb⟩;have nO:=Aside0.mk (HO.out.called hb hR);clear HO hR hb;obtain ⟨A101,c101,rfl,-,-⟩:=nO.out.row_at 1 rfl;have HO:=nO;clear nO z14;have z14:=pw_cell_below HO.out.below Z14.out)
    | (go_at_call 18;refine (abugidaref16_SameInts.calls kf A99 c99 fst A101 c101 fst true _ (HO.out.row_sl 0 rfl).2.2 (HO.out.row_sl 0 rfl).2.1 (HO.out.row_sl 1 rfl).2.2 (HO.out.row_sl 1 rfl).2.1 HF3.out).mono ?_;rintro e_ W_ ⟨rfl,hd⟩;have nO:=Aside0.mk (HO.out.grow hd.below);clear HO hd;have HO:=nO;clear nO z14;have z14:=pw_cell_below HO.out.below Z14.out))
   all_goals
    try go_wp2
    go_roundw
    case rel=>exact ⟨j+1,by go_num,⟨HJL.out⟩,⟨(Own.start W4).grow (below_step HB7.out HO.out.below)⟩⟩
    case measure=>have:=HJL.out;simp [intOf];omega
end Go.Proofs.Ytlgkeaildncojaa.Q
end
section
namespace Go.Proofs.Ytlgkeaildncojaa.Q
open Go.RowKit Go.Shelf Go.Proofs.YtlgkeaildncojaaW.PrintWords Go.Proofs.YtlgkeaildncojaaW.PrintLast Go.Proofs.YtlgkeaildncojaaW.PrintMore
theorem ex3 {w W:World} {K:Nat→Obj→Prop} {a0 a1 a2 a3 a4 a5 X1 X2:Res} {L:List Res} (HO:Own w W (a0 :: a1 :: a2 :: a3 :: a4 :: a5 :: X1 :: X2 :: L) K):EX w [X1,X2] W:=by
 refine EX.of HO (fun X h=>?_)
 rcases List.mem_cons.mp h with rfl|h
 ·
  exact ⟨6,rfl⟩
 ·
  rw [List.mem_singleton] at h
  subst h
  exact ⟨7,rfl⟩
theorem sz25:(Try.prog.info? 25).map (·.size)=some 1:=by kernel_rfl
theorem sz22:(Try.prog.info? 22).map (·.size)=some 1:=by kernel_rfl
theorem sz26:(Try.prog.info? 26).map (·.size)=some 1:=by kernel_rfl
theorem sz47:(Try.prog.info? 47).map (·.size)=some 1:=by kernel_rfl
end Go.Proofs.Ytlgkeaildncojaa.Q
end
