/- Texts of this claim, merged by wip/tools/pack.py: Qx6, Qx7, Mt, Bg, Rnd. -/
import Derived.Test.YtlgkeaildncojaaZ23
import Derived.StillTailTactics
import Derived.OrdersIn
import Derived.RangeFuncCalls
section
namespace Go.Proofs.Ytlgkeaildncojaa.Q
open Go.RowKit Go.Proofs.YtlgkeaildncojaaW.PrintWords Go.Proofs.YtlgkeaildncojaaW.PrintLast Go.Proofs.YtlgkeaildncojaaW.PrintMore
attribute [local go_sem] max2_int min2_int max_two min_two max_three min_three max_four min_four   -- for this text's walks alone
set_option linter.unusedVariables false
set_option linter.unusedSimpArgs false
def rules_First.l0:Nat→List Int→List (S49)→Int→Int→Option (List Int)
 | 0,_,_,_,_=>none
 | k+1,x3,x7,x8,x9=>if x9<x8 then (if 0≤x9 then (if x9<(x7.length:Int) then (if (((rd_T49 x7 x9).f1).length:Int) > 0 then (if 0<(((rd_T49 x7 x9).f1).length:Int) then (if x3.length+(rd_L1 ((rd_T49 x7 x9).f1) 0).length<17592186044416 then (rules_First.l0 k (x3++(rd_L1 ((rd_T49 x7 x9).f1) 0)) x7 x8 (wrap64 (x9+1))) else (none)) else (none)) else (rules_First.l0 k x3 x7 x8 (wrap64 (x9+1)))) else (none)) else (none)) else ((sets_Norm.f x3).bind fun t123=>(some t123))
def rules_First.f (k:Nat) (l0_0:List (S49)):Option (List Int):=rules_First.l0 k ([]:List Int) l0_0 (l0_0.length:Int) 0
theorem rules_First.mono_l:∀ k,(∀ y0 y1 y2 y3,LeO (rules_First.l0 k y0 y1 y2 y3) (rules_First.l0 (k+1) y0 y1 y2 y3))
 | 0=>fun _ _ _ _ r h=>by simp [rules_First.l0] at h
 | k+1=>by
  have ih0:=rules_First.mono_l k
  ·
   intro y0 y1 y2 y3
   unfold rules_First.l0
   repeat' first
   | (with_reducible exact ih0 _ _ _ _)
   | (with_reducible exact LeO.refl _)
   | (with_reducible exact LeO.none _)
   | (with_reducible refine LeO.ite ?_ ?_)
   | (with_reducible refine LeO.bind ?_ (fun _=>?_))
   | exact ih0 _ _ _ _
   | exact LeO.none _
   | refine LeO.ite ?_ ?_
   | refine LeO.bind ?_ (fun _=>?_)
theorem rules_First.mono:∀ a0 k,LeO (rules_First.f k a0) (rules_First.f (k+1) a0):=by
 intro a0 k
 have ih0:=rules_First.mono_l k
 unfold rules_First.f
 repeat' first
   | (with_reducible exact ih0 _ _ _ _)
   | (with_reducible exact LeO.refl _)
   | (with_reducible exact LeO.none _)
   | (with_reducible refine LeO.ite ?_ ?_)
   | (with_reducible refine LeO.bind ?_ (fun _=>?_))
   | exact ih0 _ _ _ _
   | exact LeO.none _
   | refine LeO.ite ?_ ?_
   | refine LeO.bind ?_ (fun _=>?_)
set_option maxHeartbeats 8000000 in
set_option maxRecDepth 100000 in
theorem rules_First.calls (k:Nat) (A0_0:Option Addr) (c0_0:Nat) (l0_0:List (S49)) (r:List Int) (w:World) (hr0_0:Kd.C k49 w A0_0 l0_0.length l0_0) (hc0_0:l0_0.length≤c0_0) (h:rules_First.f k l0_0=some r) :
  Calls Try.prog 19 #[.agg #[.slice A0_0 l0_0.length c0_0]] w fun e w'=>∃ v0_:Value,e=.returned (v0_)∧Kd.R (Kd.int .i64) 3 w' w.heap.size (fun _=>True) v0_ r∧Below w.heap.size w w':=by
 have hu24:=Try.underlying24
 have hu49:=Try.underlying49
 have HR0_0:=Aside0.mk hr0_0
 have HC0_0:=Aside0.mk hc0_0
 clear hr0_0 hc0_0
 have HB:=Aside0.mk (Below.refl w.heap.size w)
 have H:(rules_First.l0 k ([]:List Int) l0_0 (l0_0.length:Int) 0)=some r:=h
 clear h
 have H':=Aside0.mk H
 clear H
 go_enter Try.func19,Try.ntmps19
 go_wp2_with (first|((with_reducible refine gate_dst (N:=1) rfl ?_);refine box_event ?hg (N:=1) ?hd (cs:=#[.slice A0_0 l0_0.length c0_0]) (t:=24) ?hr ?_;(case hd=>rfl);(case hg=>rfl);(case hr=>first|(go_simp;done)|(go_simp;rfl));intro j5_ hg w2 hbox hb;have n0_:=Aside0.mk (below_step za40 hb);have n1_:=Aside0.mk (hbox);have n2_:=Aside0.mk ((za31:w.heap.size≤j5_));have n3_:=Aside0.mk ((za31:w.heap.size≤j5_));clear HB;have HB:=n0_;have j4_:=n1_;have j1g:=n2_;have j6_:=n3_;clear n0_ n1_ n2_ n3_;clear hb hbox hg;have hcz3_0:w2.cell? ⟨j5_,0,none⟩=some (.slice A0_0 l0_0.length c0_0):=(blk_cell j4_.out 0).trans rfl;have hfz3_0:=blk_frozen j4_.out 0))
 go_loopg [3,9] k (fun kq v3 v9 w'=>∃ (x3_1:List Int) (x9_1:Int),v9=.int .i64 x9_1∧Aside0 (rules_First.l0 kq x3_1 l0_0 (l0_0.length:Int) x9_1=some r)∧Aside0 (kq≤k)∧Aside0 (Kd.R (Kd.int .i64) 3 w' w.heap.size (fun _=>True) v3 x3_1)∧Aside0 (w'.heap[j5_]?=some (.cells #[(.slice A0_0 l0_0.length c0_0)] 24 (0,0)))∧Aside0 (Below w.heap.size w w'))
 case atStart=>exact ⟨(([]:List Int)),(0),za76,H',⟨Nat.le_refl _⟩,⟨by first|exact Kd.R_nil _ _ _ _ _|exact Kd.N_nil _ _ _ _ _|exact Kd.V_nil _ _ _ _ _|exact Kd.Q_nil _ _ _ _ _|exact Kd.S_nil _ _ _ _ _⟩,⟨by (with_reducible repeat (first|refine blk_drewN ?_ _|refine blk_drew ?_|refine blk_alloc ?_ _));exact j4_.out⟩,⟨by repeat (first|(with_reducible first|exact HB.out|apply below_alloc|apply pw_below_drewN|apply below_drew1|refine below_set ?_ j6_.out)|exact HB.out)⟩⟩
 case round =>
  clear H'
  try clear c1
  try clear p2
  try clear hcz3_0
  try clear hfz3_0
  obtain ⟨x3_1,x9_1,rfl,HA,HK1,HO_3,j4_,HB⟩:=hrel
  cases gk with
  | zero=>exact absurd HA.out (by simp [rules_First.l0])
  | succ k1 =>
   have H:=HA.out
   clear HA
   simp only [rules_First.l0] at H
   by_cases c4:x9_1<(l0_0.length:Int)
   ·
    rw [if_pos c4] at H
    have c4b0:decide (x9_1<(l0_0.length:Int))=true:=decide_eq_true c4
    clear c4
    by_cases c5:0≤x9_1
    ·
     rw [if_pos c5] at H
     have c5b0:decide (0≤x9_1)=true:=decide_eq_true c5
     clear c5
     by_cases c6:x9_1<(l0_0.length:Int)
     ·
      rw [if_pos c6] at H
      have c6b0:decide (x9_1<(l0_0.length:Int))=true:=decide_eq_true c6
      clear c6
      by_cases c7:(((rd_T49 l0_0 x9_1).f1).length:Int) > 0
      ·
       rw [if_pos c7] at H
       have c7b0:decide (0<(((rd_T49 l0_0 x9_1).f1).length:Int))=true:=decide_eq_true c7
       have c7b1:decide (0<((rd_T49 l0_0 x9_1).f1).length)=true:=decide_eq_true (by omega)
       clear c7
       by_cases c8:0<(((rd_T49 l0_0 x9_1).f1).length:Int)
       ·
        rw [if_pos c8] at H
        have c8b0:decide (0<(((rd_T49 l0_0 x9_1).f1).length:Int))=true:=decide_eq_true c8
        have c8b1:decide (0<((rd_T49 l0_0 x9_1).f1).length)=true:=decide_eq_true (by omega)
        clear c8
        by_cases c9:x3_1.length+(rd_L1 ((rd_T49 l0_0 x9_1).f1) 0).length<17592186044416
        ·
         rw [if_pos c9] at H
         have LMc9:=Aside0.mk c9
         clear c9
         obtain ⟨y120,jv_⟩:∃ y_:List Int,y_=(x3_1++(rd_L1 ((rd_T49 l0_0 x9_1).f1) 0)):=⟨_,rfl⟩
         replace H:(rules_First.l0 k1 y120 l0_0 (l0_0.length:Int) (wrap64 (x9_1+1)))=some r:=by first|(rw [jv_];with_reducible exact H)|(have H2_:=(Option.bind_some _ _).symm.trans H;rw [jv_];with_reducible exact H2_)|(have H2_:=(Option.bind_some _ _).symm.trans H;with_reducible exact H2_)|with_reducible exact H|(rw [jv_];exact H)|exact H
         have j19:=Aside0.mk jv_
         clear jv_
         have H':=Aside0.mk H
         clear H
         have p117:0≤(x9_1:Int):=of_decide_eq_true za73
         have q117:x9_1<(l0_0.length:Int):=of_decide_eq_true za73
         obtain ⟨ji_,j7_,j8_,jx_,jf_,jg_,jh_,jj_,jk_,jl_,jm_,e117,ja_,jb_,jc_,jd_,je_,hl117_0,hi117_0,hl117_1,hi117_1,hl117_2,hi117_2,hl117_3,hi117_3,hl117_4,hi117_4⟩:=at_T49 HR0_0.out x9_1 p117 q117
         cases e117
         replace ja_:=(HB.out.cell (World.block_lt_of_cell? w _ ja_)).trans ja_
         replace jb_:=(HB.out.cell (World.block_lt_of_cell? w _ jb_)).trans jb_
         replace jc_:=(HB.out.cell (World.block_lt_of_cell? w _ jc_)).trans jc_
         replace jd_:=(HB.out.cell (World.block_lt_of_cell? w _ jd_)).trans jd_
         replace je_:=(HB.out.cell (World.block_lt_of_cell? w _ je_)).trans je_
         have jy_:=Aside0.mk hi117_0
         have jz_:=Aside0.mk hl117_0
         clear hi117_0 hl117_0
         have jw_:=Aside0.mk hi117_1
         have j10:=Aside0.mk hl117_1
         clear hi117_1 hl117_1
         have j11:=Aside0.mk hi117_2
         have j12:=Aside0.mk hl117_2
         clear hi117_2 hl117_2
         have j13:=Aside0.mk hi117_3
         have j14:=Aside0.mk hl117_3
         clear hi117_3 hl117_3
         have j15:=Aside0.mk hi117_4
         have j16:=Aside0.mk hl117_4
         clear hi117_4 hl117_4
         replace p117:=eq_true p117
         replace q117:=eq_true q117
         go_wp2_with (first|((with_reducible refine gate_dst (N:=5) rfl ?_);refine box_event ?hg (N:=5) ?hd (cs:=#[.slice none 0 0,.slice none 0 0,.slice none 0 0,.slice none 0 0,.slice none 0 0]) (t:=49) ?hr ?_;(case hd=>rfl);(case hg=>rfl);(case hr=>first|(go_simp;done)|(go_simp;rfl));intro j0_ hg w10 hbox hb;have n0_:=Aside0.mk (Kd.R_below za53 hb);have n1_:=Aside0.mk (blk_below (g:=j5_) (o:=.cells #[.slice (some ji_) l0_0.length c0_0] 24 (0,0)) za45 hb);have n2_:=Aside0.mk (below_step za32 hb);have n3_:=Aside0.mk (hbox);have n4_:=Aside0.mk ((za22:w.heap.size≤j0_));have n5_:=Aside0.mk ((za22:w.heap.size≤j0_));have n6_:=Aside0.mk ((za9:j5_≠j0_));have n7_:=Aside0.mk ((za10:j0_≠j5_));clear HO_3;clear j4_;clear HB;have HO_3:=n0_;have j4_:=n1_;have HB:=n2_;have j2_:=n3_;have jo_:=n4_;have jp_:=n5_;have j3_:=n6_;have jn_:=n7_;clear n0_ n1_ n2_ n3_ n4_ n5_ n6_ n7_;clear hb hbox hg;have hnb11:=jn_.out;have hnc11:=j3_.out;have hcz12_0:w10.cell? ⟨j0_,0,none⟩=some (.slice none 0 0):=(blk_cell j2_.out 0).trans rfl;have hcz12_1:w10.cell? ⟨j0_,1,none⟩=some (.slice none 0 0):=(blk_cell j2_.out 1).trans rfl;have hcz12_2:w10.cell? ⟨j0_,2,none⟩=some (.slice none 0 0):=(blk_cell j2_.out 2).trans rfl;have hcz12_3:w10.cell? ⟨j0_,3,none⟩=some (.slice none 0 0):=(blk_cell j2_.out 3).trans rfl;have hcz12_4:w10.cell? ⟨j0_,4,none⟩=some (.slice none 0 0):=(blk_cell j2_.out 4).trans rfl;have hfz12_0:=blk_frozen j2_.out 0;have hfz12_1:=blk_frozen j2_.out 1;have hfz12_2:=blk_frozen j2_.out 2;have hfz12_3:=blk_frozen j2_.out 3;have hfz12_4:=blk_frozen j2_.out 4;have p119:0≤(0:Int):=(by omega);have q119:0<(((rd_T49 l0_0 x9_1).f1).length:Int):=of_decide_eq_true za73;obtain ⟨j9_,j1e,j1f,e119,j1_,hl119_0,hi119_0⟩:=at_L1 jw_.out 0 p119 q119;cases e119;have qi119:(0<((rd_T49 l0_0 x9_1).f1).length)=True:=eq_true (by omega);(try rw [show ((0:Int)).toNat=0 from rfl] at j1_);(try rw [Addr.add_zero'] at j1_);have jq_:j9_.block≠j0_:=Nat.ne_of_lt (Nat.lt_of_lt_of_le za71 jo_.out);have jr_:j9_.block≠j0_:=Nat.ne_of_lt (Nat.lt_of_lt_of_le za71 jo_.out);have js_:j9_.block≠j0_:=Nat.ne_of_lt (Nat.lt_of_lt_of_le za71 jo_.out);have jt_:j9_.block≠j0_:=Nat.ne_of_lt (Nat.lt_of_lt_of_le za71 jo_.out);have ju_:j9_.block≠j0_:=Nat.ne_of_lt (Nat.lt_of_lt_of_le za71 jo_.out);replace j1_:=(HB.out.cell (World.block_lt_of_cell? w _ j1_)).trans j1_;have j17:=Aside0.mk hi119_0;have j1d:=Aside0.mk hl119_0;clear hi119_0 hl119_0;replace j1_:=(cell_far (p:=⟨j0_,0,none⟩) (by first|(rw [add_block];exact jq_)|(show (Addr.add _ _).block≠_;rw [add_block];exact jq_)|exact jq_) (.slice j7_ ((rd_T49 l0_0 x9_1).f0).length j8_)).trans j1_;replace j1_:=(cell_far (p:=⟨j0_,1,none⟩) (by first|(rw [add_block];exact jr_)|(show (Addr.add _ _).block≠_;rw [add_block];exact jr_)|exact jr_) (.slice (some j9_) ((rd_T49 l0_0 x9_1).f1).length jf_)).trans j1_;replace j1_:=(cell_far (p:=⟨j0_,2,none⟩) (by first|(rw [add_block];exact js_)|(show (Addr.add _ _).block≠_;rw [add_block];exact js_)|exact js_) (.slice jg_ ((rd_T49 l0_0 x9_1).f2).length jh_)).trans j1_;replace j1_:=(cell_far (p:=⟨j0_,3,none⟩) (by first|(rw [add_block];exact jt_)|(show (Addr.add _ _).block≠_;rw [add_block];exact jt_)|exact jt_) (.slice jj_ ((rd_T49 l0_0 x9_1).f3).length jk_)).trans j1_;replace j1_:=(cell_far (p:=⟨j0_,4,none⟩) (by first|(rw [add_block];exact ju_)|(show (Addr.add _ _).block≠_;rw [add_block];exact ju_)|exact ju_) (.slice jl_ ((rd_T49 l0_0 x9_1).f4).length jm_)).trans j1_;clear jq_;clear jr_;clear js_;clear jt_;clear ju_;replace p119:=eq_true p119;replace q119:=eq_true q119)|((with_reducible refine gate_builtin (b:=.append) (xs:=#[.tmp 17,.tmp 21]) rfl ?_);at_builtin;refine Kd.R_append_rows (Kd.int .i64) (w0:=w) w.heap.size rfl (.tmp 17) (.tmp 21) 26 3 (.int .i64 0) 8 rfl Try.underlying26 info3 rfl (by decide) (by omega) u3 x3_1 (rd_L1 ((rd_T49 l0_0 x9_1).f1) 0) _ _ _ (fun _=>True) (fun _=>False) rfl rfl ?aO ?aR (fun _ _ h=>h) (fun _ h=>h.elim) ?aF ?aB ?aS ?aL ?_;(case aR=>exact Kd.C_below j17.out za26);(case aB=>exact za26);(case aF=>exact (fun _ _=>trivial));(case aO=>exact (by (with_reducible repeat (first|apply Kd.R_alloc|apply Kd.R_drewN|apply Kd.R_drew));exact Kd.R_mono (Kd.R_far (p:=⟨j0_,4,none⟩) (Kd.R_far (p:=⟨j0_,3,none⟩) (Kd.R_far (p:=⟨j0_,2,none⟩) (Kd.R_far (p:=⟨j0_,1,none⟩) (Kd.R_far (p:=⟨j0_,0,none⟩) (Kd.R_types HO_3.out j2_.out (by decide)) (fun _ hk=>hk.2) (.slice j7_ ((rd_T49 l0_0 x9_1).f0).length j8_)) (fun _ hk=>hk.2) (.slice (some j9_) ((rd_T49 l0_0 x9_1).f1).length jf_)) (fun _ hk=>hk.2) (.slice jg_ ((rd_T49 l0_0 x9_1).f2).length jh_)) (fun _ hk=>hk.2) (.slice jj_ ((rd_T49 l0_0 x9_1).f3).length jk_)) (fun _ hk=>hk.2) (.slice jl_ ((rd_T49 l0_0 x9_1).f4).length jm_)) (fun _ hk=>trivial)));(case aS=>exact (below_size za26));(case aL=>have:=LMc9.out;omega);intro v121 w13 ho hb hg hat;rw [← j19.out] at ho;have n0_:=Aside0.mk (blk_grown (g:=j5_) (o:=.cells #[.slice (some ji_) l0_0.length c0_0] 24 (0,0)) (by (with_reducible repeat (first|refine blk_drewN ?_ _|refine blk_drew ?_|refine blk_alloc ?_ _));refine blk_far ?_ j3_.out _;(with_reducible repeat (first|refine blk_drewN ?_ _|refine blk_drew ?_|refine blk_alloc ?_ _));refine blk_far ?_ j3_.out _;(with_reducible repeat (first|refine blk_drewN ?_ _|refine blk_drew ?_|refine blk_alloc ?_ _));refine blk_far ?_ j3_.out _;(with_reducible repeat (first|refine blk_drewN ?_ _|refine blk_drew ?_|refine blk_alloc ?_ _));refine blk_far ?_ j3_.out _;(with_reducible repeat (first|refine blk_drewN ?_ _|refine blk_drew ?_|refine blk_alloc ?_ _));refine blk_far ?_ j3_.out _;(with_reducible repeat (first|refine blk_drewN ?_ _|refine blk_drew ?_|refine blk_alloc ?_ _));exact j4_.out) hg (Kd.R_ne HO_3.out j4_.out (by decide)));have n1_:=Aside0.mk (blk_grown (g:=j0_) (o:=.cells #[.slice j7_ ((rd_T49 l0_0 x9_1).f0).length j8_,.slice (some j9_) ((rd_T49 l0_0 x9_1).f1).length jf_,.slice jg_ ((rd_T49 l0_0 x9_1).f2).length jh_,.slice jj_ ((rd_T49 l0_0 x9_1).f3).length jk_,.slice jl_ ((rd_T49 l0_0 x9_1).f4).length jm_] 49 (0,0)) (by (with_reducible repeat (first|refine blk_drewN ?_ _|refine blk_drew ?_|refine blk_alloc ?_ _));refine blk_put (cs:=#[.slice j7_ ((rd_T49 l0_0 x9_1).f0).length j8_,.slice (some j9_) ((rd_T49 l0_0 x9_1).f1).length jf_,.slice jg_ ((rd_T49 l0_0 x9_1).f2).length jh_,.slice jj_ ((rd_T49 l0_0 x9_1).f3).length jk_,.slice none 0 0]) ?_ 4 _ rfl;(with_reducible repeat (first|refine blk_drewN ?_ _|refine blk_drew ?_|refine blk_alloc ?_ _));refine blk_put (cs:=#[.slice j7_ ((rd_T49 l0_0 x9_1).f0).length j8_,.slice (some j9_) ((rd_T49 l0_0 x9_1).f1).length jf_,.slice jg_ ((rd_T49 l0_0 x9_1).f2).length jh_,.slice none 0 0,.slice none 0 0]) ?_ 3 _ rfl;(with_reducible repeat (first|refine blk_drewN ?_ _|refine blk_drew ?_|refine blk_alloc ?_ _));refine blk_put (cs:=#[.slice j7_ ((rd_T49 l0_0 x9_1).f0).length j8_,.slice (some j9_) ((rd_T49 l0_0 x9_1).f1).length jf_,.slice none 0 0,.slice none 0 0,.slice none 0 0]) ?_ 2 _ rfl;(with_reducible repeat (first|refine blk_drewN ?_ _|refine blk_drew ?_|refine blk_alloc ?_ _));refine blk_put (cs:=#[.slice j7_ ((rd_T49 l0_0 x9_1).f0).length j8_,.slice none 0 0,.slice none 0 0,.slice none 0 0,.slice none 0 0]) ?_ 1 _ rfl;(with_reducible repeat (first|refine blk_drewN ?_ _|refine blk_drew ?_|refine blk_alloc ?_ _));refine blk_put (cs:=#[.slice none 0 0,.slice none 0 0,.slice none 0 0,.slice none 0 0,.slice none 0 0]) ?_ 0 _ rfl;(with_reducible repeat (first|refine blk_drewN ?_ _|refine blk_drew ?_|refine blk_alloc ?_ _));exact j2_.out) hg (Kd.R_ne HO_3.out j2_.out (by decide)));have n2_:=Aside0.mk (hb);have n3_:=Aside0.mk (ho);clear j4_;clear j2_;clear HB;clear HO_3;have j4_:=n0_;have j2_:=n1_;have HB:=n2_;have j1a:=n3_;clear n0_ n1_ n2_ n3_;clear ho hb hg hat))
         go_roundg k1
         case measure=>have:=HK1.out;omega
         case rel=>exact ⟨(y120),(wrap64 (x9_1+1)),za76,H',⟨by have:=HK1.out;omega⟩,⟨by (with_reducible repeat (first|apply Kd.R_alloc|apply Kd.R_drewN|apply Kd.R_drew));exact j1a.out⟩,⟨by (with_reducible repeat (first|refine blk_drewN ?_ _|refine blk_drew ?_|refine blk_alloc ?_ _));exact j4_.out⟩,⟨by repeat (first|(with_reducible first|exact HB.out|apply below_alloc|apply pw_below_drewN|apply below_drew1|refine below_set ?_ j6_.out|refine below_set ?_ jp_.out)|exact HB.out)⟩⟩
        ·
         rw [if_neg c9] at H
         exact absurd H (by simp)
       ·
        rw [if_neg c8] at H
        exact absurd H (by simp)
      ·
       rw [if_neg c7] at H
       have c7b0:decide (0<(((rd_T49 l0_0 x9_1).f1).length:Int))=false:=decide_eq_false c7
       have c7b1:decide (0<((rd_T49 l0_0 x9_1).f1).length)=false:=decide_eq_false (by omega)
       clear c7
       have H':=Aside0.mk H
       clear H
       have p117:0≤(x9_1:Int):=of_decide_eq_true za73
       have q117:x9_1<(l0_0.length:Int):=of_decide_eq_true za73
       obtain ⟨ji_,j7_,j8_,jx_,jf_,jg_,jh_,jj_,jk_,jl_,jm_,e117,ja_,jb_,jc_,jd_,je_,hl117_0,hi117_0,hl117_1,hi117_1,hl117_2,hi117_2,hl117_3,hi117_3,hl117_4,hi117_4⟩:=at_T49 HR0_0.out x9_1 p117 q117
       cases e117
       replace ja_:=(HB.out.cell (World.block_lt_of_cell? w _ ja_)).trans ja_
       replace jb_:=(HB.out.cell (World.block_lt_of_cell? w _ jb_)).trans jb_
       replace jc_:=(HB.out.cell (World.block_lt_of_cell? w _ jc_)).trans jc_
       replace jd_:=(HB.out.cell (World.block_lt_of_cell? w _ jd_)).trans jd_
       replace je_:=(HB.out.cell (World.block_lt_of_cell? w _ je_)).trans je_
       have jy_:=Aside0.mk hi117_0
       have jz_:=Aside0.mk hl117_0
       clear hi117_0 hl117_0
       have jw_:=Aside0.mk hi117_1
       have j10:=Aside0.mk hl117_1
       clear hi117_1 hl117_1
       have j11:=Aside0.mk hi117_2
       have j12:=Aside0.mk hl117_2
       clear hi117_2 hl117_2
       have j13:=Aside0.mk hi117_3
       have j14:=Aside0.mk hl117_3
       clear hi117_3 hl117_3
       have j15:=Aside0.mk hi117_4
       have j16:=Aside0.mk hl117_4
       clear hi117_4 hl117_4
       replace p117:=eq_true p117
       replace q117:=eq_true q117
       go_wp2_with (first|((with_reducible refine gate_dst (N:=5) rfl ?_);refine box_event ?hg (N:=5) ?hd (cs:=#[.slice none 0 0,.slice none 0 0,.slice none 0 0,.slice none 0 0,.slice none 0 0]) (t:=49) ?hr ?_;(case hd=>rfl);(case hg=>rfl);(case hr=>first|(go_simp;done)|(go_simp;rfl));intro j0_ hg w14 hbox hb;have n0_:=Aside0.mk (Kd.R_below za53 hb);have n1_:=Aside0.mk (blk_below (g:=j5_) (o:=.cells #[.slice (some ji_) l0_0.length c0_0] 24 (0,0)) za45 hb);have n2_:=Aside0.mk (below_step za32 hb);have n3_:=Aside0.mk (hbox);have n4_:=Aside0.mk ((za22:w.heap.size≤j0_));have n5_:=Aside0.mk ((za22:w.heap.size≤j0_));have n6_:=Aside0.mk ((za9:j5_≠j0_));have n7_:=Aside0.mk ((za10:j0_≠j5_));clear HO_3;clear j4_;clear HB;have HO_3:=n0_;have j4_:=n1_;have HB:=n2_;have j2_:=n3_;have jo_:=n4_;have jp_:=n5_;have j3_:=n6_;have jn_:=n7_;clear n0_ n1_ n2_ n3_ n4_ n5_ n6_ n7_;clear hb hbox hg;have hnb15:=jn_.out;have hnc15:=j3_.out;have hcz16_0:w14.cell? ⟨j0_,0,none⟩=some (.slice none 0 0):=(blk_cell j2_.out 0).trans rfl;have hcz16_1:w14.cell? ⟨j0_,1,none⟩=some (.slice none 0 0):=(blk_cell j2_.out 1).trans rfl;have hcz16_2:w14.cell? ⟨j0_,2,none⟩=some (.slice none 0 0):=(blk_cell j2_.out 2).trans rfl;have hcz16_3:w14.cell? ⟨j0_,3,none⟩=some (.slice none 0 0):=(blk_cell j2_.out 3).trans rfl;have hcz16_4:w14.cell? ⟨j0_,4,none⟩=some (.slice none 0 0):=(blk_cell j2_.out 4).trans rfl;have hfz16_0:=blk_frozen j2_.out 0;have hfz16_1:=blk_frozen j2_.out 1;have hfz16_2:=blk_frozen j2_.out 2;have hfz16_3:=blk_frozen j2_.out 3;have hfz16_4:=blk_frozen j2_.out 4))
       go_roundg k1
       case measure=>have:=HK1.out;omega
       case rel=>exact ⟨(x3_1),(wrap64 (x9_1+1)),za76,H',⟨by have:=HK1.out;omega⟩,⟨by (with_reducible repeat (first|apply Kd.R_alloc|apply Kd.R_drewN|apply Kd.R_drew));exact Kd.R_mono (Kd.R_far (p:=⟨j0_,4,none⟩) (Kd.R_far (p:=⟨j0_,3,none⟩) (Kd.R_far (p:=⟨j0_,2,none⟩) (Kd.R_far (p:=⟨j0_,1,none⟩) (Kd.R_far (p:=⟨j0_,0,none⟩) (Kd.R_types HO_3.out j2_.out (by decide)) (fun _ hk=>hk.2) (.slice j7_ ((rd_T49 l0_0 x9_1).f0).length j8_)) (fun _ hk=>hk.2) (.slice jx_ ((rd_T49 l0_0 x9_1).f1).length jf_)) (fun _ hk=>hk.2) (.slice jg_ ((rd_T49 l0_0 x9_1).f2).length jh_)) (fun _ hk=>hk.2) (.slice jj_ ((rd_T49 l0_0 x9_1).f3).length jk_)) (fun _ hk=>hk.2) (.slice jl_ ((rd_T49 l0_0 x9_1).f4).length jm_)) (fun _ hk=>trivial)⟩,⟨by (with_reducible repeat (first|refine blk_drewN ?_ _|refine blk_drew ?_|refine blk_alloc ?_ _));refine blk_far ?_ j3_.out _;(with_reducible repeat (first|refine blk_drewN ?_ _|refine blk_drew ?_|refine blk_alloc ?_ _));refine blk_far ?_ j3_.out _;(with_reducible repeat (first|refine blk_drewN ?_ _|refine blk_drew ?_|refine blk_alloc ?_ _));refine blk_far ?_ j3_.out _;(with_reducible repeat (first|refine blk_drewN ?_ _|refine blk_drew ?_|refine blk_alloc ?_ _));refine blk_far ?_ j3_.out _;(with_reducible repeat (first|refine blk_drewN ?_ _|refine blk_drew ?_|refine blk_alloc ?_ _));refine blk_far ?_ j3_.out _;(with_reducible repeat (first|refine blk_drewN ?_ _|refine blk_drew ?_|refine blk_alloc ?_ _));exact j4_.out⟩,⟨by repeat (first|(with_reducible first|exact HB.out|apply below_alloc|apply pw_below_drewN|apply below_drew1|refine below_set ?_ j6_.out|refine below_set ?_ jp_.out)|exact HB.out)⟩⟩
     ·
      rw [if_neg c6] at H
      exact absurd H (by simp)
    ·
     rw [if_neg c5] at H
     exact absurd H (by simp)
   ·
    rw [if_neg c4] at H
    have c4b0:decide (x9_1<(l0_0.length:Int))=false:=decide_eq_false c4
    clear c4
    replace H:=Option.bind_eq_some_iff.mp H
    obtain ⟨t123,A170,H⟩:=H
    replace H:(some t123)=some r:=H
    have A17:=Aside0.mk A170
    clear A170
    obtain rfl:=Option.some.inj H
    obtain ⟨Ao18,co18,eo18⟩:=Kd.R_slice HO_3.out
    subst eo18
    go_wp2_with (first|((with_reducible refine gate_callee (f:=29) rfl ?_);refine goesL_ (some 25) rfl rfl Try.func29 (by kernel_rfl) rfl #[.slice Ao18 x3_1.length co18] rfl za39 ?_;(with_reducible refine (sets_Norm.calls _ _ x3_1 t123 _ ?side1 ?side2 A17.out).mono ?_);(case side1=>repeat (first|exact (Kd.R_reads' HO_3.out).2.2|(with_reducible refine Kd.C_alloc ?_ _)|(with_reducible refine Kd.C_drewN ?_ _)|(with_reducible refine Kd.C_drew ?_)));(case side2=>exact (Kd.R_reads' HO_3.out).2.1);rintro e w19 ⟨v124,rfl,ho0,hb⟩;refine ⟨_,rfl,?_⟩;have n0_:=Aside0.mk (Kd.R_elder' za53 (Kd.R_base ho0) hb);have n1_:=Aside0.mk (Kd.R_lower (Kd.R_new' ho0 (Kd.R_lt za53)) (below_size za32));have n2_:=Aside0.mk (blk_below (g:=j5_) (o:=.cells #[.slice A0_0 l0_0.length c0_0] 24 (0,0)) za45 hb);have n3_:=Aside0.mk (below_step za32 hb);clear HO_3;clear j4_;clear HB;have HO_3:=n0_;have j1b:=n1_;have j4_:=n2_;have HB:=n3_;clear n0_ n1_ n2_ n3_;(try clear hb);(try clear hb2);(try clear hk);(try clear hi);(try clear ho0)))
    go_ret
    exact ⟨_,by first|rfl|(simp [errW_none,errW_some]<;>rfl)|(simp [*,errW_none,errW_some]<;>rfl),by (with_reducible repeat (first|apply Kd.R_alloc|apply Kd.R_drewN|apply Kd.R_drew));exact Kd.R_mono j1b.out (fun _ hk=>trivial),by repeat (first|(with_reducible first|exact HB.out|apply below_alloc|apply pw_below_drewN|apply below_drew1|refine below_set ?_ j6_.out)|exact HB.out)⟩
def slices_Index_int_int.l0:Nat→List Int→Int→Int→Int→Option (Int)
 | 0,_,_,_,_=>none
 | k+1,x0,x1,x7,x8=>if x8<x7 then (if 0≤x8 then (if x8<(x0.length:Int) then (if x1=(rd x0 x8) then (some x8) else (slices_Index_int_int.l0 k x0 x1 x7 (wrap64 (x8+1)))) else (none)) else (none)) else (some (-1))
def slices_Index_int_int.f (k:Nat) (l0:List Int) (a1:Int):Option (Int):=slices_Index_int_int.l0 k l0 a1 (l0.length:Int) 0
theorem slices_Index_int_int.mono_l:∀ k,(∀ y0 y1 y2 y3,LeO (slices_Index_int_int.l0 k y0 y1 y2 y3) (slices_Index_int_int.l0 (k+1) y0 y1 y2 y3))
 | 0=>fun _ _ _ _ r h=>by simp [slices_Index_int_int.l0] at h
 | k+1=>by
  have ih0:=slices_Index_int_int.mono_l k
  ·
   intro y0 y1 y2 y3
   unfold slices_Index_int_int.l0
   repeat' first
   | (with_reducible exact ih0 _ _ _ _)
   | (with_reducible exact LeO.refl _)
   | (with_reducible exact LeO.none _)
   | (with_reducible refine LeO.ite ?_ ?_)
   | (with_reducible refine LeO.bind ?_ (fun _=>?_))
   | exact ih0 _ _ _ _
   | exact LeO.none _
   | refine LeO.ite ?_ ?_
   | refine LeO.bind ?_ (fun _=>?_)
theorem slices_Index_int_int.mono:∀ a0 a1 k,LeO (slices_Index_int_int.f k a0 a1) (slices_Index_int_int.f (k+1) a0 a1):=by
 intro a0 a1 k
 have ih0:=slices_Index_int_int.mono_l k
 unfold slices_Index_int_int.f
 repeat' first
   | (with_reducible exact ih0 _ _ _ _)
   | (with_reducible exact LeO.refl _)
   | (with_reducible exact LeO.none _)
   | (with_reducible refine LeO.ite ?_ ?_)
   | (with_reducible refine LeO.bind ?_ (fun _=>?_))
   | exact ih0 _ _ _ _
   | exact LeO.none _
   | refine LeO.ite ?_ ?_
   | refine LeO.bind ?_ (fun _=>?_)
set_option maxHeartbeats 8000000 in
set_option maxRecDepth 100000 in
theorem slices_Index_int_int.calls (k:Nat) (A0:Option Addr) (c0:Nat) (l0:List Int) (a1:Int) (r:Int) (w:World) (hr0:Kd.C (Kd.int .i64) w A0 l0.length l0) (hc0:l0.length≤c0) (h:slices_Index_int_int.f k l0 a1=some r) :
  Calls Try.prog 55 #[.slice A0 l0.length c0,.int .i64 a1] w fun e w'=>e=.returned (.int .i64 r)∧Drawn0 w w':=by
 have HR0:=Aside0.mk hr0
 have HC0:=Aside0.mk hc0
 clear hr0 hc0
 have H:(slices_Index_int_int.l0 k l0 a1 (l0.length:Int) 0)=some r:=h
 clear h
 have H':=Aside0.mk H
 clear H
 go_enter Try.func55,Try.ntmps55
 go_wp2
 go_loopg [8] k (fun kq v8 w'=>∃ (x8_1:Int),v8=.int .i64 x8_1∧Aside0 (slices_Index_int_int.l0 kq l0 a1 (l0.length:Int) x8_1=some r)∧Aside0 (kq≤k)∧Drawn0 w w')
 case atStart=>exact ⟨(0),za76,H',⟨Nat.le_refl _⟩,by repeat (first|exact Drawn0.refl _|apply Drawn0.step)⟩
 case round =>
  clear H'
  try clear p2
  obtain ⟨x8_1,rfl,HA,HK1,⟨m1,rfl⟩⟩:=hrel
  cases gk with
  | zero=>exact absurd HA.out (by simp [slices_Index_int_int.l0])
  | succ k1 =>
   have H:=HA.out
   clear HA
   simp only [slices_Index_int_int.l0] at H
   by_cases c3:x8_1<(l0.length:Int)
   ·
    rw [if_pos c3] at H
    have c3b0:decide (x8_1<(l0.length:Int))=true:=decide_eq_true c3
    clear c3
    by_cases c4:0≤x8_1
    ·
     rw [if_pos c4] at H
     have c4b0:decide (0≤x8_1)=true:=decide_eq_true c4
     clear c4
     by_cases c5:x8_1<(l0.length:Int)
     ·
      rw [if_pos c5] at H
      have c5b0:decide (x8_1<(l0.length:Int))=true:=decide_eq_true c5
      clear c5
      by_cases c6:a1=(rd l0 x8_1)
      ·
       rw [if_pos c6] at H
       have c6b0:(a1==(rd l0 x8_1))=true:=beq_iff_eq.mpr c6
       have c6b1:(a1 != (rd l0 x8_1))=false:=bne_eq_false_iff_eq.mpr c6
       clear c6
       obtain rfl:=Option.some.inj H
       have p126:0≤(x8_1:Int):=of_decide_eq_true za73
       have q126:x8_1<(l0.length:Int):=of_decide_eq_true za73
       obtain ⟨j1c,e126,j18⟩:=Kd.at_int HR0.out x8_1 p126 q126
       cases e126
       replace p126:=eq_true p126
       replace q126:=eq_true q126
       go_wp2
       go_ret
       exact ⟨by first|rfl|(simp;done)|(simp [*];done),by repeat (first|exact Drawn0.refl _|apply Drawn0.step)⟩
      ·
       rw [if_neg c6] at H
       have c6b0:(a1==(rd l0 x8_1))=false:=beq_eq_false_iff_ne.mpr c6
       have c6b1:(a1 != (rd l0 x8_1))=true:=bne_iff_ne.mpr c6
       have H':=Aside0.mk H
       clear H
       have p126:0≤(x8_1:Int):=of_decide_eq_true za73
       have q126:x8_1<(l0.length:Int):=of_decide_eq_true za73
       obtain ⟨j1c,e126,j18⟩:=Kd.at_int HR0.out x8_1 p126 q126
       cases e126
       replace p126:=eq_true p126
       replace q126:=eq_true q126
       go_wp2
       go_roundg k1
       case measure=>have:=HK1.out;omega
       case rel=>exact ⟨(wrap64 (x8_1+1)),za76,H',⟨by have:=HK1.out;omega⟩,by repeat (first|exact Drawn0.refl _|apply Drawn0.step)⟩
     ·
      rw [if_neg c5] at H
      exact absurd H (by simp)
    ·
     rw [if_neg c4] at H
     exact absurd H (by simp)
   ·
    rw [if_neg c3] at H
    have c3b0:decide (x8_1<(l0.length:Int))=false:=decide_eq_false c3
    clear c3
    obtain rfl:=Option.some.inj H
    go_wp2
    go_ret
    exact ⟨by first|rfl|(simp;done)|(simp [*];done),by repeat (first|exact Drawn0.refl _|apply Drawn0.step)⟩
def slices_Contains_int_int.f (k:Nat) (l0:List Int) (a1:Int):Option (Bool):=(slices_Index_int_int.f k l0 a1).bind fun t127=>(some (decide (t127 ≥ 0)))
theorem slices_Contains_int_int.mono:∀ a0 a1 k,LeO (slices_Contains_int_int.f k a0 a1) (slices_Contains_int_int.f (k+1) a0 a1):=by
 intro a0 a1 k
 unfold slices_Contains_int_int.f
 repeat' first
   | (with_reducible exact slices_Index_int_int.mono _ _ _)
   | (with_reducible exact LeO.refl _)
   | (with_reducible exact LeO.none _)
   | (with_reducible refine LeO.ite ?_ ?_)
   | (with_reducible refine LeO.bind ?_ (fun _=>?_))
   | exact slices_Index_int_int.mono _ _ _
   | exact LeO.none _
   | refine LeO.ite ?_ ?_
   | refine LeO.bind ?_ (fun _=>?_)
set_option maxHeartbeats 8000000 in
set_option maxRecDepth 100000 in
theorem slices_Contains_int_int.calls (k:Nat) (A0:Option Addr) (c0:Nat) (l0:List Int) (a1:Int) (r:Bool) (w:World) (hr0:Kd.C (Kd.int .i64) w A0 l0.length l0) (hc0:l0.length≤c0) (h:slices_Contains_int_int.f k l0 a1=some r) :
  Calls Try.prog 37 #[.slice A0 l0.length c0,.int .i64 a1] w fun e w'=>e=.returned (.bool r)∧Drawn0 w w':=by
 have HR0:=Aside0.mk hr0
 have HC0:=Aside0.mk hc0
 clear hr0 hc0
 have H:((slices_Index_int_int.f k l0 a1).bind fun t127=>(some (decide (t127 ≥ 0))))=some r:=h
 clear h
 replace H:=Option.bind_eq_some_iff.mp H
 obtain ⟨t127,A30,H⟩:=H
 replace H:(some (decide (t127 ≥ 0)))=some r:=H
 have A3:=Aside0.mk A30
 clear A30
 obtain rfl:=Option.some.inj H
 go_enter Try.func37,Try.ntmps37
 go_wp2_with (first|((with_reducible refine gate_callee (f:=55) rfl ?_);refine goesL_ (some 7) rfl rfl Try.func55 (by kernel_rfl) rfl #[.slice A0 l0.length c0,.int .i64 a1] rfl za39 ?_;(with_reducible refine (slices_Index_int_int.calls k _ _ l0 a1 t127 _ ?side1 ?side2 A3.out).mono ?_);(case side1=>repeat (first|exact HR0.out|(with_reducible refine Kd.C_alloc ?_ _)|(with_reducible refine Kd.C_drewN ?_ _)|(with_reducible refine Kd.C_drew ?_)));(case side2=>exact HC0.out);rintro e w' ⟨rfl,⟨nd,rfl⟩⟩;refine ⟨_,rfl,?_⟩))
 go_ret
 exact ⟨by first|rfl|(simp;done)|(simp [*];done),by repeat (first|exact Drawn0.refl _|apply Drawn0.step)⟩
end Go.Proofs.Ytlgkeaildncojaa.Q
end
section
namespace Go.Proofs.Ytlgkeaildncojaa.Q
open Go.RowKit Go.Proofs.YtlgkeaildncojaaW.PrintWords Go.Proofs.YtlgkeaildncojaaW.PrintLast Go.Proofs.YtlgkeaildncojaaW.PrintMore
attribute [local go_sem] max2_int min2_int max_two min_two max_three min_three max_four min_four   -- for this text's walks alone
set_option linter.unusedVariables false
set_option linter.unusedSimpArgs false
mutual
def rules_Match.j0:Nat→List (S55)→Int→Bool→List (List Int)→List (List Int)→List (List Int)→List Int→List (S60)→Option (Bool)
 | 0,_,_,_,_,_,_,_,_=>none
 | k+1,x1,x2,x28,jl_,jh_,jm_,jp_,jq_=>if x28=true then (some false) else (if (wrap64 ((wrap64 (x2+(jh_.length:Int)))+(jm_.length:Int))) > (x1.length:Int) then (rules_Match.j1 k x1 x2 (wrap64 (x2+(jh_.length:Int))) true jl_ jh_ jm_ jp_ jq_) else (rules_Match.j1 k x1 x2 (wrap64 (x2+(jh_.length:Int))) (decide (x2<(jl_.length:Int))) jl_ jh_ jm_ jp_ jq_))
def rules_Match.j1:Nat→List (S55)→Int→Int→Bool→List (List Int)→List (List Int)→List (List Int)→List Int→List (S60)→Option (Bool)
 | 0,_,_,_,_,_,_,_,_,_=>none
 | k+1,x1,x2,x7,x48,jl_,jh_,jm_,jp_,jq_=>if x48=true then (some false) else (rules_Match.l0 k x1 x2 x7 jh_ (jh_.length:Int) 0 jl_ jh_ jm_ jp_ jq_)
def rules_Match.l0:Nat→List (S55)→Int→Int→List (List Int)→Int→Int→List (List Int)→List (List Int)→List (List Int)→List Int→List (S60)→Option (Bool)
 | 0,_,_,_,_,_,_,_,_,_,_,_=>none
 | k+1,x1,x2,x7,x50,x51,x52,jl_,jh_,jm_,jp_,jq_=>if x52<x51 then (if 0≤x52 then (if x52<(x50.length:Int) then (if 0≤(wrap64 (x2+x52)) then (if (wrap64 (x2+x52))<(x1.length:Int) then (if 0≤x2 then (if x2<(x1.length:Int) then (if ((rd_T55 x1 (wrap64 (x2+x52))).f1)=((rd_T55 x1 x2).f1) then ((slices_Contains_int_int.f k (rd_L1 x50 x52) ((rd_T55 x1 (wrap64 (x2+x52))).f0)).bind fun t133=>(if t133=true then (rules_Match.l0 k x1 x2 x7 x50 x51 (wrap64 (x52+1)) jl_ jh_ jm_ jp_ jq_) else (some false))) else (some false)) else (none)) else (none)) else (none)) else (none)) else (none)) else (none)) else (rules_Match.l1 k x1 x2 x7 jl_ (jl_.length:Int) 0 jl_ jh_ jm_ jp_ jq_)
def rules_Match.l1:Nat→List (S55)→Int→Int→List (List Int)→Int→Int→List (List Int)→List (List Int)→List (List Int)→List Int→List (S60)→Option (Bool)
 | 0,_,_,_,_,_,_,_,_,_,_,_=>none
 | k+1,x1,x2,x7,x80,x81,x82,jl_,jh_,jm_,jp_,jq_=>if x82<x81 then (if 0≤x82 then (if x82<(x80.length:Int) then (if 0≤(wrap64 ((wrap64 (x2 - 1)) - x82)) then (if (wrap64 ((wrap64 (x2 - 1)) - x82))<(x1.length:Int) then ((slices_Contains_int_int.f k (rd_L1 x80 x82) ((rd_T55 x1 (wrap64 ((wrap64 (x2 - 1)) - x82))).f0)).bind fun t136=>(if t136=true then (rules_Match.l1 k x1 x2 x7 x80 x81 (wrap64 (x82+1)) jl_ jh_ jm_ jp_ jq_) else (some false))) else (none)) else (none)) else (none)) else (none)) else (rules_Match.l2 k x1 x7 jm_ (jm_.length:Int) 0)
def rules_Match.l2:Nat→List (S55)→Int→List (List Int)→Int→Int→Option (Bool)
 | 0,_,_,_,_,_=>none
 | k+1,x1,x7,x100,x101,x102=>if x102<x101 then (if 0≤x102 then (if x102<(x100.length:Int) then (if 0≤(wrap64 (x7+x102)) then (if (wrap64 (x7+x102))<(x1.length:Int) then ((slices_Contains_int_int.f k (rd_L1 x100 x102) ((rd_T55 x1 (wrap64 (x7+x102))).f0)).bind fun t139=>(if t139=true then (rules_Match.l2 k x1 x7 x100 x101 (wrap64 (x102+1))) else (some false))) else (none)) else (none)) else (none)) else (none)) else (some true)
end
def rules_Match.f (k:Nat) (l0_0:List (List Int)) (l0_1:List (List Int)) (l0_2:List (List Int)) (l0_3:List Int) (l0_4:List (S60)) (l1:List (S55)) (a2:Int):Option (Bool):=if a2<0 then (rules_Match.j0 k l1 a2 true l0_0 l0_1 l0_2 l0_3 l0_4) else (if a2 ≥ (l1.length:Int) then (rules_Match.j0 k l1 a2 true l0_0 l0_1 l0_2 l0_3 l0_4) else (rules_Match.j0 k l1 a2 ((l0_1.length:Int)==0) l0_0 l0_1 l0_2 l0_3 l0_4))
theorem rules_Match.mono_l:∀ k,(∀ y0 y1 y2 y3 y4 y5 y6 y7,LeO (rules_Match.j0 k y0 y1 y2 y3 y4 y5 y6 y7) (rules_Match.j0 (k+1) y0 y1 y2 y3 y4 y5 y6 y7))∧(∀ y0 y1 y2 y3 y4 y5 y6 y7 y8,LeO (rules_Match.j1 k y0 y1 y2 y3 y4 y5 y6 y7 y8) (rules_Match.j1 (k+1) y0 y1 y2 y3 y4 y5 y6 y7 y8))∧(∀ y0 y1 y2 y3 y4 y5 y6 y7 y8 y9 y10,LeO (rules_Match.l0 k y0 y1 y2 y3 y4 y5 y6 y7 y8 y9 y10) (rules_Match.l0 (k+1) y0 y1 y2 y3 y4 y5 y6 y7 y8 y9 y10))∧(∀ y0 y1 y2 y3 y4 y5 y6 y7 y8 y9 y10,LeO (rules_Match.l1 k y0 y1 y2 y3 y4 y5 y6 y7 y8 y9 y10) (rules_Match.l1 (k+1) y0 y1 y2 y3 y4 y5 y6 y7 y8 y9 y10))∧(∀ y0 y1 y2 y3 y4,LeO (rules_Match.l2 k y0 y1 y2 y3 y4) (rules_Match.l2 (k+1) y0 y1 y2 y3 y4))
 | 0=>⟨fun _ _ _ _ _ _ _ _ r h=>by simp [rules_Match.j0] at h,fun _ _ _ _ _ _ _ _ _ r h=>by simp [rules_Match.j1] at h,fun _ _ _ _ _ _ _ _ _ _ _ r h=>by simp [rules_Match.l0] at h,fun _ _ _ _ _ _ _ _ _ _ _ r h=>by simp [rules_Match.l1] at h,fun _ _ _ _ _ r h=>by simp [rules_Match.l2] at h⟩
 | k+1=>by
  obtain ⟨ih0,ih1,ih2,ih3,ih4⟩:=rules_Match.mono_l k
  refine ⟨?_,?_,?_,?_,?_⟩
  ·
   intro y0 y1 y2 y3 y4 y5 y6 y7
   unfold rules_Match.j0
   repeat' first
   | (with_reducible exact ih0 _ _ _ _ _ _ _ _)
   | (with_reducible exact ih1 _ _ _ _ _ _ _ _ _)
   | (with_reducible exact ih2 _ _ _ _ _ _ _ _ _ _ _)
   | (with_reducible exact ih3 _ _ _ _ _ _ _ _ _ _ _)
   | (with_reducible exact ih4 _ _ _ _ _)
   | (with_reducible exact slices_Contains_int_int.mono _ _ _)
   | (with_reducible exact LeO.refl _)
   | (with_reducible exact LeO.none _)
   | (with_reducible refine LeO.ite ?_ ?_)
   | (with_reducible refine LeO.bind ?_ (fun _=>?_))
   | exact ih0 _ _ _ _ _ _ _ _
   | exact ih1 _ _ _ _ _ _ _ _ _
   | exact ih2 _ _ _ _ _ _ _ _ _ _ _
   | exact ih3 _ _ _ _ _ _ _ _ _ _ _
   | exact ih4 _ _ _ _ _
   | exact slices_Contains_int_int.mono _ _ _
   | exact LeO.none _
   | refine LeO.ite ?_ ?_
   | refine LeO.bind ?_ (fun _=>?_)
  ·
   intro y0 y1 y2 y3 y4 y5 y6 y7 y8
   unfold rules_Match.j1
   repeat' first
   | (with_reducible exact ih0 _ _ _ _ _ _ _ _)
   | (with_reducible exact ih1 _ _ _ _ _ _ _ _ _)
   | (with_reducible exact ih2 _ _ _ _ _ _ _ _ _ _ _)
   | (with_reducible exact ih3 _ _ _ _ _ _ _ _ _ _ _)
   | (with_reducible exact ih4 _ _ _ _ _)
   | (with_reducible exact slices_Contains_int_int.mono _ _ _)
   | (with_reducible exact LeO.refl _)
   | (with_reducible exact LeO.none _)
   | (with_reducible refine LeO.ite ?_ ?_)
   | (with_reducible refine LeO.bind ?_ (fun _=>?_))
   | exact ih0 _ _ _ _ _ _ _ _
   | exact ih1 _ _ _ _ _ _ _ _ _
   | exact ih2 _ _ _ _ _ _ _ _ _ _ _
   | exact ih3 _ _ _ _ _ _ _ _ _ _ _
   | exact ih4 _ _ _ _ _
   | exact slices_Contains_int_int.mono _ _ _
   | exact LeO.none _
   | refine LeO.ite ?_ ?_
   | refine LeO.bind ?_ (fun _=>?_)
  ·
   intro y0 y1 y2 y3 y4 y5 y6 y7 y8 y9 y10
   unfold rules_Match.l0
   repeat' first
   | (with_reducible exact ih0 _ _ _ _ _ _ _ _)
   | (with_reducible exact ih1 _ _ _ _ _ _ _ _ _)
   | (with_reducible exact ih2 _ _ _ _ _ _ _ _ _ _ _)
   | (with_reducible exact ih3 _ _ _ _ _ _ _ _ _ _ _)
   | (with_reducible exact ih4 _ _ _ _ _)
   | (with_reducible exact slices_Contains_int_int.mono _ _ _)
   | (with_reducible exact LeO.refl _)
   | (with_reducible exact LeO.none _)
   | (with_reducible refine LeO.ite ?_ ?_)
   | (with_reducible refine LeO.bind ?_ (fun _=>?_))
   | exact ih0 _ _ _ _ _ _ _ _
   | exact ih1 _ _ _ _ _ _ _ _ _
   | exact ih2 _ _ _ _ _ _ _ _ _ _ _
   | exact ih3 _ _ _ _ _ _ _ _ _ _ _
   | exact ih4 _ _ _ _ _
   | exact slices_Contains_int_int.mono _ _ _
   | exact LeO.none _
   | refine LeO.ite ?_ ?_
   | refine LeO.bind ?_ (fun _=>?_)
  ·
   intro y0 y1 y2 y3 y4 y5 y6 y7 y8 y9 y10
   unfold rules_Match.l1
   repeat' first
   | (with_reducible exact ih0 _ _ _ _ _ _ _ _)
   | (with_reducible exact ih1 _ _ _ _ _ _ _ _ _)
   | (with_reducible exact ih2 _ _ _ _ _ _ _ _ _ _ _)
   | (with_reducible exact ih3 _ _ _ _ _ _ _ _ _ _ _)
   | (with_reducible exact ih4 _ _ _ _ _)
   | (with_reducible exact slices_Contains_int_int.mono _ _ _)
   | (with_reducible exact LeO.refl _)
   | (with_reducible exact LeO.none _)
   | (with_reducible refine LeO.ite ?_ ?_)
   | (with_reducible refine LeO.bind ?_ (fun _=>?_))
   | exact ih0 _ _ _ _ _ _ _ _
   | exact ih1 _ _ _ _ _ _ _ _ _
   | exact ih2 _ _ _ _ _ _ _ _ _ _ _
   | exact ih3 _ _ _ _ _ _ _ _ _ _ _
   | exact ih4 _ _ _ _ _
   | exact slices_Contains_int_int.mono _ _ _
   | exact LeO.none _
   | refine LeO.ite ?_ ?_
   | refine LeO.bind ?_ (fun _=>?_)
  ·
   intro y0 y1 y2 y3 y4
   unfold rules_Match.l2
   repeat' first
   | (with_reducible exact ih0 _ _ _ _ _ _ _ _)
   | (with_reducible exact ih1 _ _ _ _ _ _ _ _ _)
   | (with_reducible exact ih2 _ _ _ _ _ _ _ _ _ _ _)
   | (with_reducible exact ih3 _ _ _ _ _ _ _ _ _ _ _)
   | (with_reducible exact ih4 _ _ _ _ _)
   | (with_reducible exact slices_Contains_int_int.mono _ _ _)
   | (with_reducible exact LeO.refl _)
   | (with_reducible exact LeO.none _)
   | (with_reducible refine LeO.ite ?_ ?_)
   | (with_reducible refine LeO.bind ?_ (fun _=>?_))
   | exact ih0 _ _ _ _ _ _ _ _
   | exact ih1 _ _ _ _ _ _ _ _ _
   | exact ih2 _ _ _ _ _ _ _ _ _ _ _
   | exact ih3 _ _ _ _ _ _ _ _ _ _ _
   | exact ih4 _ _ _ _ _
   | exact slices_Contains_int_int.mono _ _ _
   | exact LeO.none _
   | refine LeO.ite ?_ ?_
   | refine LeO.bind ?_ (fun _=>?_)
theorem rules_Match.mono:∀ a0 a1 a2 a3 a4 a5 a6 k,LeO (rules_Match.f k a0 a1 a2 a3 a4 a5 a6) (rules_Match.f (k+1) a0 a1 a2 a3 a4 a5 a6):=by
 intro a0 a1 a2 a3 a4 a5 a6 k
 obtain ⟨ih0,ih1,ih2,ih3,ih4⟩:=rules_Match.mono_l k
 unfold rules_Match.f
 repeat' first
   | (with_reducible exact ih0 _ _ _ _ _ _ _ _)
   | (with_reducible exact ih1 _ _ _ _ _ _ _ _ _)
   | (with_reducible exact ih2 _ _ _ _ _ _ _ _ _ _ _)
   | (with_reducible exact ih3 _ _ _ _ _ _ _ _ _ _ _)
   | (with_reducible exact ih4 _ _ _ _ _)
   | (with_reducible exact slices_Contains_int_int.mono _ _ _)
   | (with_reducible exact LeO.refl _)
   | (with_reducible exact LeO.none _)
   | (with_reducible refine LeO.ite ?_ ?_)
   | (with_reducible refine LeO.bind ?_ (fun _=>?_))
   | exact ih0 _ _ _ _ _ _ _ _
   | exact ih1 _ _ _ _ _ _ _ _ _
   | exact ih2 _ _ _ _ _ _ _ _ _ _ _
   | exact ih3 _ _ _ _ _ _ _ _ _ _ _
   | exact ih4 _ _ _ _ _
   | exact slices_Contains_int_int.mono _ _ _
   | exact LeO.none _
   | refine LeO.ite ?_ ?_
   | refine LeO.bind ?_ (fun _=>?_)
set_option maxHeartbeats 8000000 in
set_option maxRecDepth 100000 in
theorem rules_Match.calls (k:Nat) (A0_0:Option Addr) (c0_0:Nat) (l0_0:List (List Int)) (A0_1:Option Addr) (c0_1:Nat) (l0_1:List (List Int)) (A0_2:Option Addr) (c0_2:Nat) (l0_2:List (List Int)) (A0_3:Option Addr) (c0_3:Nat) (l0_3:List Int) (A0_4:Option Addr) (c0_4:Nat) (l0_4:List (S60)) (A1:Option Addr) (c1:Nat) (l1:List (S55)) (a2:Int) (r:Bool) (w:World) (hr0_0:Kd.C (Kd.slice 3 (Kd.int .i64)) w A0_0 l0_0.length l0_0) (hc0_0:l0_0.length≤c0_0) (hr0_1:Kd.C (Kd.slice 3 (Kd.int .i64)) w A0_1 l0_1.length l0_1) (hc0_1:l0_1.length≤c0_1) (hr0_2:Kd.C (Kd.slice 3 (Kd.int .i64)) w A0_2 l0_2.length l0_2) (hc0_2:l0_2.length≤c0_2) (j1c:Kd.C (Kd.int .i64) w A0_3 l0_3.length l0_3) (hc0_3:l0_3.length≤c0_3) (hr0_4:Kd.C k60 w A0_4 l0_4.length l0_4) (hc0_4:l0_4.length≤c0_4) (hr1:Kd.C k55 w A1 l1.length l1) (hc1:l1.length≤c1) (h:rules_Match.f k l0_0 l0_1 l0_2 l0_3 l0_4 l1 a2=some r) :
  Calls Try.prog 21 #[.agg #[.slice A0_0 l0_0.length c0_0,.slice A0_1 l0_1.length c0_1,.slice A0_2 l0_2.length c0_2,.slice A0_3 l0_3.length c0_3,.slice A0_4 l0_4.length c0_4],.slice A1 l1.length c1,.int .i64 a2] w fun e w'=>e=.returned (.bool r)∧Below w.heap.size w w':=by
 have hu49:=Try.underlying49
 have hu55:=Try.underlying55
 have HR0_0:=Aside0.mk hr0_0
 have HC0_0:=Aside0.mk hc0_0
 clear hr0_0 hc0_0
 have HR0_1:=Aside0.mk hr0_1
 have HC0_1:=Aside0.mk hc0_1
 clear hr0_1 hc0_1
 have HR0_2:=Aside0.mk hr0_2
 have HC0_2:=Aside0.mk hc0_2
 clear hr0_2 hc0_2
 have j1m:=Aside0.mk j1c
 have j1n:=Aside0.mk hc0_3
 clear j1c hc0_3
 have HR0_4:=Aside0.mk hr0_4
 have HC0_4:=Aside0.mk hc0_4
 clear hr0_4 hc0_4
 have HR1:=Aside0.mk hr1
 have HC1:=Aside0.mk hc1
 clear hr1 hc1
 have HB:=Aside0.mk (Below.refl w.heap.size w)
 have H:(if a2<0 then (rules_Match.j0 k l1 a2 true l0_0 l0_1 l0_2 l0_3 l0_4) else (if a2 ≥ (l1.length:Int) then (rules_Match.j0 k l1 a2 true l0_0 l0_1 l0_2 l0_3 l0_4) else (rules_Match.j0 k l1 a2 ((l0_1.length:Int)==0) l0_0 l0_1 l0_2 l0_3 l0_4)))=some r:=h
 clear h
 have HC4:=Aside0.mk H
 clear H
 go_enter Try.func21,Try.ntmps21
 go_upto_region 1 with (first|((with_reducible refine gate_dst (N:=3) rfl ?_);(try (refine gate_guard (by rfl) ?_;dsimp only));refine box_event ?hg (N:=3) ?hd (cs:=#[.slice A0_0 l0_0.length c0_0,.slice A0_1 l0_1.length c0_1,.slice A0_2 l0_2.length c0_2,.slice A0_3 l0_3.length c0_3,.slice A0_4 l0_4.length c0_4]) (t:=49) ?hr ?_;(case hd=>rfl);(case hg=>rfl);(case hr=>first|(go_simp;done)|(go_simp;rfl));intro j6_ hg w5 hbox hb;have n0_:=Aside0.mk (below_step za40 hb);have n1_:=Aside0.mk (hbox);have n2_:=Aside0.mk ((za31:w.heap.size≤j6_));have n3_:=Aside0.mk ((za31:w.heap.size≤j6_));clear HB;have HB:=n0_;have j2_:=n1_;have j1d:=n2_;have j7_:=n3_;clear n0_ n1_ n2_ n3_;clear hb hbox hg))
 repeat (go_quiet (first|((with_reducible refine gate_dst (N:=3) rfl ?_);(try (refine gate_guard (by rfl) ?_;dsimp only));refine box_event ?hg (N:=3) ?hd (cs:=#[.slice A0_0 l0_0.length c0_0,.slice A0_1 l0_1.length c0_1,.slice A0_2 l0_2.length c0_2,.slice A0_3 l0_3.length c0_3,.slice A0_4 l0_4.length c0_4]) (t:=49) ?hr ?_;(case hd=>rfl);(case hg=>rfl);(case hr=>first|(go_simp;done)|(go_simp;rfl));intro j6_ hg w5 hbox hb;have n0_:=Aside0.mk (below_step za40 hb);have n1_:=Aside0.mk (hbox);have n2_:=Aside0.mk ((za31:w.heap.size≤j6_));have n3_:=Aside0.mk ((za31:w.heap.size≤j6_));clear HB;have HB:=n0_;have j2_:=n1_;have j1d:=n2_;have j7_:=n3_;clear n0_ n1_ n2_ n3_;clear hb hbox hg));go_upto_region 1 with (first|((with_reducible refine gate_dst (N:=3) rfl ?_);(try (refine gate_guard (by rfl) ?_;dsimp only));refine box_event ?hg (N:=3) ?hd (cs:=#[.slice A0_0 l0_0.length c0_0,.slice A0_1 l0_1.length c0_1,.slice A0_2 l0_2.length c0_2,.slice A0_3 l0_3.length c0_3,.slice A0_4 l0_4.length c0_4]) (t:=49) ?hr ?_;(case hd=>rfl);(case hg=>rfl);(case hr=>first|(go_simp;done)|(go_simp;rfl));intro j6_ hg w5 hbox hb;have n0_:=Aside0.mk (below_step za40 hb);have n1_:=Aside0.mk (hbox);have n2_:=Aside0.mk ((za31:w.heap.size≤j6_));have n3_:=Aside0.mk ((za31:w.heap.size≤j6_));clear HB;have HB:=n0_;have j2_:=n1_;have j1d:=n2_;have j7_:=n3_;clear n0_ n1_ n2_ n3_;clear hb hbox hg)))
 (try simp only [Act.put,List.setIfInBounds_toArray,List.set_cons_zero,List.set_cons_succ])
 go_cut [28] (fun v28 wc=>∃ (kq:Nat) (j16:Bool),v28=.bool j16∧Aside0 (rules_Match.j0 kq l1 a2 j16 l0_0 l0_1 l0_2 l0_3 l0_4=some r)∧Aside0 (kq≤k)∧Aside0 (wc.heap[j6_]?=some (.cells #[(.slice A0_0 l0_0.length c0_0),(.slice A0_1 l0_1.length c0_1),(.slice A0_2 l0_2.length c0_2),(.slice A0_3 l0_3.length c0_3),(.slice A0_4 l0_4.length c0_4)] 49 (0,0)))∧Aside0 (Below w.heap.size w wc))
 case first =>
  have H:=HC4.out
  clear HC4
  by_cases c6:a2<0
  ·
   rw [if_pos c6] at H
   have c6b0:decide (a2<0)=true:=decide_eq_true c6
   clear c6
   (first|rw [c6b0]|(simp only [i64_w,i32_w];rw [c6b0])|skip)
   have H':=Aside0.mk H
   clear H
   go_wp2
   repeat (go_quiet (fail);try go_wp2)
   go_meet
   case rel=>exact ⟨_,(true),za76,H',⟨by first|omega|exact Nat.le_refl _⟩,⟨by (with_reducible repeat (first|refine blk_drewN ?_ _|refine blk_drew ?_|refine blk_alloc ?_ _));exact j2_.out⟩,⟨by repeat (first|(with_reducible first|exact HB.out|apply below_alloc|apply pw_below_drewN|apply below_drew1|refine below_set ?_ j7_.out)|exact HB.out)⟩⟩
  ·
   rw [if_neg c6] at H
   have c6b0:decide (a2<0)=false:=decide_eq_false c6
   clear c6
   (first|rw [c6b0]|(simp only [i64_w,i32_w];rw [c6b0])|skip)
   by_cases c7:a2 ≥ (l1.length:Int)
   ·
    rw [if_pos c7] at H
    have c7b0:decide ((l1.length:Int)≤a2)=true:=decide_eq_true c7
    clear c7
    have H':=Aside0.mk H
    clear H
    go_wp2
    repeat (go_quiet (fail);try go_wp2)
    go_meet
    case rel=>exact ⟨_,(true),za76,H',⟨by first|omega|exact Nat.le_refl _⟩,⟨by (with_reducible repeat (first|refine blk_drewN ?_ _|refine blk_drew ?_|refine blk_alloc ?_ _));exact j2_.out⟩,⟨by repeat (first|(with_reducible first|exact HB.out|apply below_alloc|apply pw_below_drewN|apply below_drew1|refine below_set ?_ j7_.out)|exact HB.out)⟩⟩
   ·
    rw [if_neg c7] at H
    have c7b0:decide ((l1.length:Int)≤a2)=false:=decide_eq_false c7
    clear c7
    have H':=Aside0.mk H
    clear H
    have hcz8_0:w5.cell? ⟨j6_,0,none⟩=some (.slice A0_0 l0_0.length c0_0):=(blk_cell j2_.out 0).trans rfl
    have hcz8_1:w5.cell? ⟨j6_,1,none⟩=some (.slice A0_1 l0_1.length c0_1):=(blk_cell j2_.out 1).trans rfl
    have hcz8_2:w5.cell? ⟨j6_,2,none⟩=some (.slice A0_2 l0_2.length c0_2):=(blk_cell j2_.out 2).trans rfl
    have hcz8_3:w5.cell? ⟨j6_,3,none⟩=some (.slice A0_3 l0_3.length c0_3):=(blk_cell j2_.out 3).trans rfl
    have hcz8_4:w5.cell? ⟨j6_,4,none⟩=some (.slice A0_4 l0_4.length c0_4):=(blk_cell j2_.out 4).trans rfl
    have hfz8_0:=blk_frozen j2_.out 0
    have hfz8_1:=blk_frozen j2_.out 1
    have hfz8_2:=blk_frozen j2_.out 2
    have hfz8_3:=blk_frozen j2_.out 3
    have hfz8_4:=blk_frozen j2_.out 4
    go_wp2
    repeat (go_quiet (fail);try go_wp2)
    go_meet
    case rel=>exact ⟨_,(((l0_1.length:Int)==0)),za76,H',⟨by first|omega|exact Nat.le_refl _⟩,⟨by (with_reducible repeat (first|refine blk_drewN ?_ _|refine blk_drew ?_|refine blk_alloc ?_ _));exact j2_.out⟩,⟨by repeat (first|(with_reducible first|exact HB.out|apply below_alloc|apply pw_below_drewN|apply below_drew1|refine below_set ?_ j7_.out)|exact HB.out)⟩⟩
 case rest =>
  clear HC4
  try clear c1
  try clear c2
  try clear p2
  try clear c6
  try clear c6b0
  try clear c7
  try clear c7b0
  try clear hcz8_0
  try clear hcz8_1
  try clear hcz8_2
  try clear hcz8_3
  try clear hcz8_4
  try clear hfz8_0
  try clear hfz8_1
  try clear hfz8_2
  try clear hfz8_3
  try clear hfz8_4
  obtain ⟨kq,j16,rfl,HA,HJ3,j2_,HB⟩:=hcut
  cases kq with
  | zero=>exact absurd HA.out (by simp [rules_Match.j0])
  | succ kj3 =>
   have H:=HA.out
   clear HA
   simp only [rules_Match.j0] at H
   by_cases c9:j16=true
   ·
    subst c9
    have H1:(some false)=some r:=by rw [if_pos rfl] at H;exact H
    clear H
    have H:=H1
    clear H1
    obtain rfl:=Option.some.inj H
    go_wp2
    repeat (go_quiet (fail);try go_wp2)
    go_ret
    exact ⟨by first|rfl|(simp [errW_none,errW_some]<;>rfl)|(simp [*,errW_none,errW_some]<;>rfl),by repeat (first|(with_reducible first|exact HB.out|apply below_alloc|apply pw_below_drewN|apply below_drew1|refine below_set ?_ j7_.out)|exact HB.out)⟩
   ·
    replace c9:=Bool.eq_false_iff.mpr c9
    subst c9
    have H1:(if (wrap64 ((wrap64 (a2+(l0_1.length:Int)))+(l0_2.length:Int))) > (l1.length:Int) then (rules_Match.j1 kj3 l1 a2 (wrap64 (a2+(l0_1.length:Int))) true l0_0 l0_1 l0_2 l0_3 l0_4) else (rules_Match.j1 kj3 l1 a2 (wrap64 (a2+(l0_1.length:Int))) (decide (a2<(l0_0.length:Int))) l0_0 l0_1 l0_2 l0_3 l0_4))=some r:=by rw [if_neg (show ¬ (false=true) by decide)] at H;exact H
    clear H
    have H:=H1
    clear H1
    have HC10:=Aside0.mk H
    clear H
    have hcz11_0:wc.cell? ⟨j6_,0,none⟩=some (.slice A0_0 l0_0.length c0_0):=(blk_cell j2_.out 0).trans rfl
    have hcz11_1:wc.cell? ⟨j6_,1,none⟩=some (.slice A0_1 l0_1.length c0_1):=(blk_cell j2_.out 1).trans rfl
    have hcz11_2:wc.cell? ⟨j6_,2,none⟩=some (.slice A0_2 l0_2.length c0_2):=(blk_cell j2_.out 2).trans rfl
    have hcz11_3:wc.cell? ⟨j6_,3,none⟩=some (.slice A0_3 l0_3.length c0_3):=(blk_cell j2_.out 3).trans rfl
    have hcz11_4:wc.cell? ⟨j6_,4,none⟩=some (.slice A0_4 l0_4.length c0_4):=(blk_cell j2_.out 4).trans rfl
    have hfz11_0:=blk_frozen j2_.out 0
    have hfz11_1:=blk_frozen j2_.out 1
    have hfz11_2:=blk_frozen j2_.out 2
    have hfz11_3:=blk_frozen j2_.out 3
    have hfz11_4:=blk_frozen j2_.out 4
    go_upto_region 4 with (fail)
    repeat (go_quiet (fail);go_upto_region 4 with (fail))
    go_cut [48] (fun v48 wc=>∃ (kq:Nat) (j17:Bool),v48=.bool j17∧Aside0 (rules_Match.j1 kq l1 a2 (wrap64 (a2+(l0_1.length:Int))) j17 l0_0 l0_1 l0_2 l0_3 l0_4=some r)∧Aside0 (kq≤kj3)∧Aside0 (wc.heap[j6_]?=some (.cells #[(.slice A0_0 l0_0.length c0_0),(.slice A0_1 l0_1.length c0_1),(.slice A0_2 l0_2.length c0_2),(.slice A0_3 l0_3.length c0_3),(.slice A0_4 l0_4.length c0_4)] 49 (0,0)))∧Aside0 (Below w.heap.size w wc))
    case first =>
     have H:=HC10.out
     clear HC10
     by_cases c12:(wrap64 ((wrap64 (a2+(l0_1.length:Int)))+(l0_2.length:Int))) > (l1.length:Int)
     ·
      rw [if_pos c12] at H
      have c12b0:decide ((l1.length:Int)<(wrap64 ((wrap64 (a2+(l0_1.length:Int)))+(l0_2.length:Int))))=true:=decide_eq_true c12
      clear c12
      (first|rw [c12b0]|(simp only [i64_w,i32_w];rw [c12b0])|skip)
      have H':=Aside0.mk H
      clear H
      have hcz13_0:wc.cell? ⟨j6_,0,none⟩=some (.slice A0_0 l0_0.length c0_0):=(blk_cell j2_.out 0).trans rfl
      have hcz13_1:wc.cell? ⟨j6_,1,none⟩=some (.slice A0_1 l0_1.length c0_1):=(blk_cell j2_.out 1).trans rfl
      have hcz13_2:wc.cell? ⟨j6_,2,none⟩=some (.slice A0_2 l0_2.length c0_2):=(blk_cell j2_.out 2).trans rfl
      have hcz13_3:wc.cell? ⟨j6_,3,none⟩=some (.slice A0_3 l0_3.length c0_3):=(blk_cell j2_.out 3).trans rfl
      have hcz13_4:wc.cell? ⟨j6_,4,none⟩=some (.slice A0_4 l0_4.length c0_4):=(blk_cell j2_.out 4).trans rfl
      have hfz13_0:=blk_frozen j2_.out 0
      have hfz13_1:=blk_frozen j2_.out 1
      have hfz13_2:=blk_frozen j2_.out 2
      have hfz13_3:=blk_frozen j2_.out 3
      have hfz13_4:=blk_frozen j2_.out 4
      go_wp2
      repeat (go_quiet (fail);try go_wp2)
      go_meet
      case rel=>exact ⟨_,(true),za76,H',⟨by have:=HJ3.out;first|omega|exact Nat.le_refl _⟩,⟨by (with_reducible repeat (first|refine blk_drewN ?_ _|refine blk_drew ?_|refine blk_alloc ?_ _));exact j2_.out⟩,⟨by repeat (first|(with_reducible first|exact HB.out|apply below_alloc|apply pw_below_drewN|apply below_drew1|refine below_set ?_ j7_.out)|exact HB.out)⟩⟩
     ·
      rw [if_neg c12] at H
      have c12b0:decide ((l1.length:Int)<(wrap64 ((wrap64 (a2+(l0_1.length:Int)))+(l0_2.length:Int))))=false:=decide_eq_false c12
      clear c12
      (first|rw [c12b0]|(simp only [i64_w,i32_w];rw [c12b0])|skip)
      have H':=Aside0.mk H
      clear H
      have hcz14_0:wc.cell? ⟨j6_,0,none⟩=some (.slice A0_0 l0_0.length c0_0):=(blk_cell j2_.out 0).trans rfl
      have hcz14_1:wc.cell? ⟨j6_,1,none⟩=some (.slice A0_1 l0_1.length c0_1):=(blk_cell j2_.out 1).trans rfl
      have hcz14_2:wc.cell? ⟨j6_,2,none⟩=some (.slice A0_2 l0_2.length c0_2):=(blk_cell j2_.out 2).trans rfl
      have hcz14_3:wc.cell? ⟨j6_,3,none⟩=some (.slice A0_3 l0_3.length c0_3):=(blk_cell j2_.out 3).trans rfl
      have hcz14_4:wc.cell? ⟨j6_,4,none⟩=some (.slice A0_4 l0_4.length c0_4):=(blk_cell j2_.out 4).trans rfl
      have hfz14_0:=blk_frozen j2_.out 0
      have hfz14_1:=blk_frozen j2_.out 1
      have hfz14_2:=blk_frozen j2_.out 2
      have hfz14_3:=blk_frozen j2_.out 3
      have hfz14_4:=blk_frozen j2_.out 4
      go_wp2
      repeat (go_quiet (fail);try go_wp2)
      go_meet
      case rel=>exact ⟨_,(decide (a2<(l0_0.length:Int))),za76,H',⟨by have:=HJ3.out;first|omega|exact Nat.le_refl _⟩,⟨by (with_reducible repeat (first|refine blk_drewN ?_ _|refine blk_drew ?_|refine blk_alloc ?_ _));exact j2_.out⟩,⟨by repeat (first|(with_reducible first|exact HB.out|apply below_alloc|apply pw_below_drewN|apply below_drew1|refine below_set ?_ j7_.out)|exact HB.out)⟩⟩
    case rest =>
     clear HC10
     try clear c1
     try clear c2
     try clear p2
     try clear c6
     try clear c6b0
     try clear p6
     try clear c7
     try clear c7b0
     try clear c9
     try clear c12
     try clear c12b0
     try clear hcz11_0
     try clear hcz11_1
     try clear hcz11_2
     try clear hcz11_3
     try clear hcz11_4
     try clear hcz13_0
     try clear hcz13_1
     try clear hcz13_2
     try clear hcz13_3
     try clear hcz13_4
     try clear hcz14_0
     try clear hcz14_1
     try clear hcz14_2
     try clear hcz14_3
     try clear hcz14_4
     try clear hcz8_0
     try clear hcz8_1
     try clear hcz8_2
     try clear hcz8_3
     try clear hcz8_4
     try clear hfz11_0
     try clear hfz11_1
     try clear hfz11_2
     try clear hfz11_3
     try clear hfz11_4
     try clear hfz13_0
     try clear hfz13_1
     try clear hfz13_2
     try clear hfz13_3
     try clear hfz13_4
     try clear hfz14_0
     try clear hfz14_1
     try clear hfz14_2
     try clear hfz14_3
     try clear hfz14_4
     try clear hfz8_0
     try clear hfz8_1
     try clear hfz8_2
     try clear hfz8_3
     try clear hfz8_4
     try clear p2
     obtain ⟨kq,j17,rfl,HA,HJ9,j2_,HB⟩:=hcut
     cases kq with
     | zero=>exact absurd HA.out (by simp [rules_Match.j1])
     | succ kj9 =>
      have H:=HA.out
      clear HA
      simp only [rules_Match.j1] at H
      by_cases c15:j17=true
      ·
       subst c15
       have H1:(some false)=some r:=by rw [if_pos rfl] at H;exact H
       clear H
       have H:=H1
       clear H1
       obtain rfl:=Option.some.inj H
       go_wp2
       repeat (go_quiet (fail);try go_wp2)
       go_ret
       exact ⟨by first|rfl|(simp [errW_none,errW_some]<;>rfl)|(simp [*,errW_none,errW_some]<;>rfl),by repeat (first|(with_reducible first|exact HB.out|apply below_alloc|apply pw_below_drewN|apply below_drew1|refine below_set ?_ j7_.out)|exact HB.out)⟩
      ·
       replace c15:=Bool.eq_false_iff.mpr c15
       subst c15
       have H1:(rules_Match.l0 kj9 l1 a2 (wrap64 (a2+(l0_1.length:Int))) l0_1 (l0_1.length:Int) 0 l0_0 l0_1 l0_2 l0_3 l0_4)=some r:=by rw [if_neg (show ¬ (false=true) by decide)] at H;exact H
       clear H
       have H:=H1
       clear H1
       have H':=Aside0.mk H
       clear H
       have hcz16_0:wc.cell? ⟨j6_,0,none⟩=some (.slice A0_0 l0_0.length c0_0):=(blk_cell j2_.out 0).trans rfl
       have hcz16_1:wc.cell? ⟨j6_,1,none⟩=some (.slice A0_1 l0_1.length c0_1):=(blk_cell j2_.out 1).trans rfl
       have hcz16_2:wc.cell? ⟨j6_,2,none⟩=some (.slice A0_2 l0_2.length c0_2):=(blk_cell j2_.out 2).trans rfl
       have hcz16_3:wc.cell? ⟨j6_,3,none⟩=some (.slice A0_3 l0_3.length c0_3):=(blk_cell j2_.out 3).trans rfl
       have hcz16_4:wc.cell? ⟨j6_,4,none⟩=some (.slice A0_4 l0_4.length c0_4):=(blk_cell j2_.out 4).trans rfl
       have hfz16_0:=blk_frozen j2_.out 0
       have hfz16_1:=blk_frozen j2_.out 1
       have hfz16_2:=blk_frozen j2_.out 2
       have hfz16_3:=blk_frozen j2_.out 3
       have hfz16_4:=blk_frozen j2_.out 4
       go_wp2
       repeat (go_quiet (fail);try go_wp2)
       go_loopg [52] kj9 (fun kq v52 w'=>∃ (jb_:Int),v52=.int .i64 jb_∧Aside0 (rules_Match.l0 kq l1 a2 (wrap64 (a2+(l0_1.length:Int))) l0_1 (l0_1.length:Int) jb_ l0_0 l0_1 l0_2 l0_3 l0_4=some r)∧Aside0 (kq≤kj9)∧Aside0 (w'.heap[j6_]?=some (.cells #[(.slice A0_0 l0_0.length c0_0),(.slice A0_1 l0_1.length c0_1),(.slice A0_2 l0_2.length c0_2),(.slice A0_3 l0_3.length c0_3),(.slice A0_4 l0_4.length c0_4)] 49 (0,0)))∧Aside0 (Below w.heap.size w w'))
       case atStart=>exact ⟨(0),za76,H',⟨Nat.le_refl _⟩,⟨by (with_reducible repeat (first|refine blk_drewN ?_ _|refine blk_drew ?_|refine blk_alloc ?_ _));exact j2_.out⟩,⟨by repeat (first|(with_reducible first|exact HB.out|apply below_alloc|apply pw_below_drewN|apply below_drew1|refine below_set ?_ j7_.out)|exact HB.out)⟩⟩
       case round =>
        clear H'
        try clear c1
        try clear c2
        try clear p2
        try clear c6
        try clear c6b0
        try clear p6
        try clear c7
        try clear c7b0
        try clear c9
        try clear c12
        try clear c12b0
        try clear c15
        try clear hcz11_0
        try clear hcz11_1
        try clear hcz11_2
        try clear hcz11_3
        try clear hcz11_4
        try clear hcz13_0
        try clear hcz13_1
        try clear hcz13_2
        try clear hcz13_3
        try clear hcz13_4
        try clear hcz14_0
        try clear hcz14_1
        try clear hcz14_2
        try clear hcz14_3
        try clear hcz14_4
        try clear hcz16_0
        try clear hcz16_1
        try clear hcz16_2
        try clear hcz16_3
        try clear hcz16_4
        try clear hcz8_0
        try clear hcz8_1
        try clear hcz8_2
        try clear hcz8_3
        try clear hcz8_4
        try clear hfz11_0
        try clear hfz11_1
        try clear hfz11_2
        try clear hfz11_3
        try clear hfz11_4
        try clear hfz13_0
        try clear hfz13_1
        try clear hfz13_2
        try clear hfz13_3
        try clear hfz13_4
        try clear hfz14_0
        try clear hfz14_1
        try clear hfz14_2
        try clear hfz14_3
        try clear hfz14_4
        try clear hfz16_0
        try clear hfz16_1
        try clear hfz16_2
        try clear hfz16_3
        try clear hfz16_4
        try clear hfz8_0
        try clear hfz8_1
        try clear hfz8_2
        try clear hfz8_3
        try clear hfz8_4
        try clear p2
        try clear p6
        obtain ⟨jb_,rfl,HA,HK3,j2_,HB⟩:=hrel
        cases gk with
        | zero=>exact absurd HA.out (by simp [rules_Match.l0])
        | succ k3 =>
         have H:=HA.out
         clear HA
         simp only [rules_Match.l0] at H
         by_cases c17:jb_<(l0_1.length:Int)
         ·
          rw [if_pos c17] at H
          have c17b0:decide (jb_<(l0_1.length:Int))=true:=decide_eq_true c17
          clear c17
          by_cases c18:0≤jb_
          ·
           rw [if_pos c18] at H
           have c18b0:decide (0≤jb_)=true:=decide_eq_true c18
           clear c18
           by_cases c19:jb_<(l0_1.length:Int)
           ·
            rw [if_pos c19] at H
            have c19b0:decide (jb_<(l0_1.length:Int))=true:=decide_eq_true c19
            clear c19
            obtain ⟨ji20,j15⟩:∃ j_:Int,(wrap64 (a2+jb_))=j_:=⟨_,rfl⟩
            replace H:(if 0≤(ji20) then (if (ji20)<(l1.length:Int) then (if 0≤a2 then (if a2<(l1.length:Int) then (if ((rd_T55 l1 (ji20)).f1)=((rd_T55 l1 a2).f1) then ((slices_Contains_int_int.f k3 (rd_L1 l0_1 jb_) ((rd_T55 l1 (ji20)).f0)).bind fun t133=>(if t133=true then (rules_Match.l0 k3 l1 a2 (wrap64 (a2+(l0_1.length:Int))) l0_1 (l0_1.length:Int) (wrap64 (jb_+1)) l0_0 l0_1 l0_2 l0_3 l0_4) else (some false))) else (some false)) else (none)) else (none)) else (none)) else (none))=some r:=by first|(rw [j15] at H;exact H)|(simp only [j15] at H ⊢;exact H)
            have hji20w:(IntKind.i64.wrap (a2+jb_))=ji20:=(i64_w _).trans j15
            by_cases c21:0≤(ji20)
            ·
             rw [if_pos c21] at H
             have c21b0:decide (0≤(ji20))=true:=decide_eq_true c21
             clear c21
             by_cases c22:(ji20)<(l1.length:Int)
             ·
              rw [if_pos c22] at H
              have c22b0:decide ((ji20)<(l1.length:Int))=true:=decide_eq_true c22
              clear c22
              by_cases c23:0≤a2
              ·
               rw [if_pos c23] at H
               have c23b0:decide (0≤a2)=true:=decide_eq_true c23
               clear c23
               by_cases c24:a2<(l1.length:Int)
               ·
                rw [if_pos c24] at H
                have c24b0:decide (a2<(l1.length:Int))=true:=decide_eq_true c24
                clear c24
                by_cases c25:((rd_T55 l1 (ji20)).f1)=((rd_T55 l1 a2).f1)
                ·
                 rw [if_pos c25] at H
                 have c25b0:(((rd_T55 l1 (ji20)).f1)==((rd_T55 l1 a2).f1))=true:=beq_iff_eq.mpr c25
                 have c25b1:(((rd_T55 l1 (ji20)).f1) != ((rd_T55 l1 a2).f1))=false:=bne_eq_false_iff_eq.mpr c25
                 clear c25
                 replace H:=Option.bind_eq_some_iff.mp H
                 obtain ⟨t133,A260,H⟩:=H
                 replace H:(if t133=true then (rules_Match.l0 k3 l1 a2 (wrap64 (a2+(l0_1.length:Int))) l0_1 (l0_1.length:Int) (wrap64 (jb_+1)) l0_0 l0_1 l0_2 l0_3 l0_4) else (some false))=some r:=H
                 have A26:=Aside0.mk A260
                 clear A260
                 by_cases c27:t133=true
                 ·
                  subst c27
                  have H1:(rules_Match.l0 k3 l1 a2 (wrap64 (a2+(l0_1.length:Int))) l0_1 (l0_1.length:Int) (wrap64 (jb_+1)) l0_0 l0_1 l0_2 l0_3 l0_4)=some r:=by rw [if_pos rfl] at H;exact H
                  clear H
                  have H:=H1
                  clear H1
                  have H':=Aside0.mk H
                  clear H
                  have p129:0≤(jb_:Int):=of_decide_eq_true za73
                  have q129:jb_<(l0_1.length:Int):=of_decide_eq_true za73
                  obtain ⟨jd_,j1a,j1b,e129,ji_,hl129_0,hi129_0⟩:=at_L1 HR0_1.out jb_ p129 q129
                  cases e129
                  replace ji_:=(HB.out.cell (World.block_lt_of_cell? w _ ji_)).trans ji_
                  have jr_:=Aside0.mk hi129_0
                  have js_:=Aside0.mk hl129_0
                  clear hi129_0 hl129_0
                  replace p129:=eq_true p129
                  replace q129:=eq_true q129
                  have p130:0≤((ji20):Int):=of_decide_eq_true za73
                  have q130:(ji20)<(l1.length:Int):=of_decide_eq_true za73
                  obtain ⟨je_,e130,jj_,jk_⟩:=at_T55 HR1.out (ji20) p130 q130
                  cases e130
                  replace jj_:=(HB.out.cell (World.block_lt_of_cell? w _ jj_)).trans jj_
                  replace jk_:=(HB.out.cell (World.block_lt_of_cell? w _ jk_)).trans jk_
                  replace p130:=eq_true p130
                  replace q130:=eq_true q130
                  go_wp2_with (first|((with_reducible refine gate_dst (N:=10) rfl ?_);(try (refine gate_guard (by rfl) ?_;dsimp only));refine box_event ?hg (N:=10) ?hd (cs:=#[.int .i64 0,.int .i64 0]) (t:=55) ?hr ?_;(case hd=>rfl);(case hg=>rfl);(case hr=>first|(go_simp;done)|(go_simp;rfl));intro j0_ hg w28 hbox hb;have n0_:=Aside0.mk (blk_below (g:=j6_) (o:=.cells #[.slice A0_0 l0_0.length c0_0,.slice (some jd_) l0_1.length c0_1,.slice A0_2 l0_2.length c0_2,.slice A0_3 l0_3.length c0_3,.slice A0_4 l0_4.length c0_4] 49 (0,0)) za46 hb);have n1_:=Aside0.mk (below_step za33 hb);have n2_:=Aside0.mk (hbox);have n3_:=Aside0.mk ((za23:w.heap.size≤j0_));have n4_:=Aside0.mk ((za23:w.heap.size≤j0_));have n5_:=Aside0.mk ((za0:j6_≠j0_));have n6_:=Aside0.mk ((za1:j0_≠j6_));clear j2_;clear HB;have j2_:=n0_;have HB:=n1_;have j8_:=n2_;have jg_:=n3_;have jn_:=n4_;have j9_:=n5_;have jc_:=n6_;clear n0_ n1_ n2_ n3_ n4_ n5_ n6_;clear hb hbox hg;have hnb29:=jc_.out;have hnc29:=j9_.out;have hcz30_0:w28.cell? ⟨j0_,0,none⟩=some (.int .i64 0):=(blk_cell j8_.out 0).trans rfl;have hcz30_1:w28.cell? ⟨j0_,1,none⟩=some (.int .i64 0):=(blk_cell j8_.out 1).trans rfl;have hfz30_0:=blk_frozen j8_.out 0;have hfz30_1:=blk_frozen j8_.out 1;have p132:0≤(a2:Int):=of_decide_eq_true za73;have q132:a2<(l1.length:Int):=of_decide_eq_true za73;obtain ⟨jo_,e132,j1_,j3_⟩:=at_T55 HR1.out a2 p132 q132;obtain rfl:je_=jo_:=(by injection e132);have j4_:je_.block≠j0_:=Nat.ne_of_lt (Nat.lt_of_lt_of_le za71 jg_.out);have j5_:je_.block≠j0_:=Nat.ne_of_lt (Nat.lt_of_lt_of_le za71 jg_.out);replace j1_:=(HB.out.cell (World.block_lt_of_cell? w _ j1_)).trans j1_;replace j3_:=(HB.out.cell (World.block_lt_of_cell? w _ j3_)).trans j3_;replace j1_:=(cell_far (p:=⟨j0_,0,none⟩) za51 (.int .i64 ((rd_T55 l1 (ji20)).f0))).trans j1_;replace j3_:=(cell_far (p:=⟨j0_,0,none⟩) za51 (.int .i64 ((rd_T55 l1 (ji20)).f0))).trans j3_;replace j1_:=(cell_far (p:=⟨j0_,1,none⟩) za52 (.int .i64 ((rd_T55 l1 (ji20)).f1))).trans j1_;replace j3_:=(cell_far (p:=⟨j0_,1,none⟩) za52 (.int .i64 ((rd_T55 l1 (ji20)).f1))).trans j3_;(try have jt_:=fun (n_:Nat)=>(show ((((w28.drewN n_).setCell ⟨j0_,0,none⟩ (.int .i64 ((rd_T55 l1 (ji20)).f0))).setCell ⟨j0_,1,none⟩ (.int .i64 ((rd_T55 l1 (ji20)).f1)))).cell? _=some _ from j1_));(try have ju_:=fun (n_:Nat)=>(show ((((w28.drewN n_).setCell ⟨j0_,0,none⟩ (.int .i64 ((rd_T55 l1 (ji20)).f0))).setCell ⟨j0_,1,none⟩ (.int .i64 ((rd_T55 l1 (ji20)).f1)))).cell? _=some _ from j3_));clear j4_;clear j5_;replace p132:=eq_true p132;replace q132:=eq_true q132)|(go_at_call 37;(with_reducible refine (slices_Contains_int_int.calls k3 _ _ (rd_L1 l0_1 jb_) ((rd_T55 l1 (ji20)).f0) true _ ?side1 ?side2 A26.out).mono ?_);(case side1=>exact Kd.C_below jr_.out za27);(case side2=>exact js_.out);rintro e w' ⟨rfl,⟨nd,rfl⟩⟩;(try first|exact ⟨rfl,_,World.drewN_drewN _ _ _⟩|exact ⟨rfl,_,Eq.trans (World.drewN_drewN _ _ _) (congrArg (World.drewN _) (Nat.add_assoc _ _ _))⟩)))
                  repeat (go_quiet (first|((with_reducible refine gate_dst (N:=10) rfl ?_);(try (refine gate_guard (by rfl) ?_;dsimp only));refine box_event ?hg (N:=10) ?hd (cs:=#[.int .i64 0,.int .i64 0]) (t:=55) ?hr ?_;(case hd=>rfl);(case hg=>rfl);(case hr=>first|(go_simp;done)|(go_simp;rfl));intro j0_ hg w28 hbox hb;have n0_:=Aside0.mk (blk_below (g:=j6_) (o:=.cells #[.slice A0_0 l0_0.length c0_0,.slice (some jd_) l0_1.length c0_1,.slice A0_2 l0_2.length c0_2,.slice A0_3 l0_3.length c0_3,.slice A0_4 l0_4.length c0_4] 49 (0,0)) za46 hb);have n1_:=Aside0.mk (below_step za33 hb);have n2_:=Aside0.mk (hbox);have n3_:=Aside0.mk ((za23:w.heap.size≤j0_));have n4_:=Aside0.mk ((za23:w.heap.size≤j0_));have n5_:=Aside0.mk ((za0:j6_≠j0_));have n6_:=Aside0.mk ((za1:j0_≠j6_));clear j2_;clear HB;have j2_:=n0_;have HB:=n1_;have j8_:=n2_;have jg_:=n3_;have jn_:=n4_;have j9_:=n5_;have jc_:=n6_;clear n0_ n1_ n2_ n3_ n4_ n5_ n6_;clear hb hbox hg;have hnb29:=jc_.out;have hnc29:=j9_.out;have hcz30_0:w28.cell? ⟨j0_,0,none⟩=some (.int .i64 0):=(blk_cell j8_.out 0).trans rfl;have hcz30_1:w28.cell? ⟨j0_,1,none⟩=some (.int .i64 0):=(blk_cell j8_.out 1).trans rfl;have hfz30_0:=blk_frozen j8_.out 0;have hfz30_1:=blk_frozen j8_.out 1;have p132:0≤(a2:Int):=of_decide_eq_true za73;have q132:a2<(l1.length:Int):=of_decide_eq_true za73;obtain ⟨jo_,e132,j1_,j3_⟩:=at_T55 HR1.out a2 p132 q132;obtain rfl:je_=jo_:=(by injection e132);have j4_:je_.block≠j0_:=Nat.ne_of_lt (Nat.lt_of_lt_of_le za71 jg_.out);have j5_:je_.block≠j0_:=Nat.ne_of_lt (Nat.lt_of_lt_of_le za71 jg_.out);replace j1_:=(HB.out.cell (World.block_lt_of_cell? w _ j1_)).trans j1_;replace j3_:=(HB.out.cell (World.block_lt_of_cell? w _ j3_)).trans j3_;replace j1_:=(cell_far (p:=⟨j0_,0,none⟩) za51 (.int .i64 ((rd_T55 l1 (ji20)).f0))).trans j1_;replace j3_:=(cell_far (p:=⟨j0_,0,none⟩) za51 (.int .i64 ((rd_T55 l1 (ji20)).f0))).trans j3_;replace j1_:=(cell_far (p:=⟨j0_,1,none⟩) za52 (.int .i64 ((rd_T55 l1 (ji20)).f1))).trans j1_;replace j3_:=(cell_far (p:=⟨j0_,1,none⟩) za52 (.int .i64 ((rd_T55 l1 (ji20)).f1))).trans j3_;(try have jt_:=fun (n_:Nat)=>(show ((((w28.drewN n_).setCell ⟨j0_,0,none⟩ (.int .i64 ((rd_T55 l1 (ji20)).f0))).setCell ⟨j0_,1,none⟩ (.int .i64 ((rd_T55 l1 (ji20)).f1)))).cell? _=some _ from j1_));(try have ju_:=fun (n_:Nat)=>(show ((((w28.drewN n_).setCell ⟨j0_,0,none⟩ (.int .i64 ((rd_T55 l1 (ji20)).f0))).setCell ⟨j0_,1,none⟩ (.int .i64 ((rd_T55 l1 (ji20)).f1)))).cell? _=some _ from j3_));clear j4_;clear j5_;replace p132:=eq_true p132;replace q132:=eq_true q132)|(go_at_call 37;(with_reducible refine (slices_Contains_int_int.calls k3 _ _ (rd_L1 l0_1 jb_) ((rd_T55 l1 (ji20)).f0) true _ ?side1 ?side2 A26.out).mono ?_);(case side1=>exact Kd.C_below jr_.out za27);(case side2=>exact js_.out);rintro e w' ⟨rfl,⟨nd,rfl⟩⟩;(try first|exact ⟨rfl,_,World.drewN_drewN _ _ _⟩|exact ⟨rfl,_,Eq.trans (World.drewN_drewN _ _ _) (congrArg (World.drewN _) (Nat.add_assoc _ _ _))⟩)));try go_wp2_with (first|((with_reducible refine gate_dst (N:=10) rfl ?_);(try (refine gate_guard (by rfl) ?_;dsimp only));refine box_event ?hg (N:=10) ?hd (cs:=#[.int .i64 0,.int .i64 0]) (t:=55) ?hr ?_;(case hd=>rfl);(case hg=>rfl);(case hr=>first|(go_simp;done)|(go_simp;rfl));intro j0_ hg w28 hbox hb;have n0_:=Aside0.mk (blk_below (g:=j6_) (o:=.cells #[.slice A0_0 l0_0.length c0_0,.slice (some jd_) l0_1.length c0_1,.slice A0_2 l0_2.length c0_2,.slice A0_3 l0_3.length c0_3,.slice A0_4 l0_4.length c0_4] 49 (0,0)) za46 hb);have n1_:=Aside0.mk (below_step za33 hb);have n2_:=Aside0.mk (hbox);have n3_:=Aside0.mk ((za23:w.heap.size≤j0_));have n4_:=Aside0.mk ((za23:w.heap.size≤j0_));have n5_:=Aside0.mk ((za0:j6_≠j0_));have n6_:=Aside0.mk ((za1:j0_≠j6_));clear j2_;clear HB;have j2_:=n0_;have HB:=n1_;have j8_:=n2_;have jg_:=n3_;have jn_:=n4_;have j9_:=n5_;have jc_:=n6_;clear n0_ n1_ n2_ n3_ n4_ n5_ n6_;clear hb hbox hg;have hnb29:=jc_.out;have hnc29:=j9_.out;have hcz30_0:w28.cell? ⟨j0_,0,none⟩=some (.int .i64 0):=(blk_cell j8_.out 0).trans rfl;have hcz30_1:w28.cell? ⟨j0_,1,none⟩=some (.int .i64 0):=(blk_cell j8_.out 1).trans rfl;have hfz30_0:=blk_frozen j8_.out 0;have hfz30_1:=blk_frozen j8_.out 1;have p132:0≤(a2:Int):=of_decide_eq_true za73;have q132:a2<(l1.length:Int):=of_decide_eq_true za73;obtain ⟨jo_,e132,j1_,j3_⟩:=at_T55 HR1.out a2 p132 q132;obtain rfl:je_=jo_:=(by injection e132);have j4_:je_.block≠j0_:=Nat.ne_of_lt (Nat.lt_of_lt_of_le za71 jg_.out);have j5_:je_.block≠j0_:=Nat.ne_of_lt (Nat.lt_of_lt_of_le za71 jg_.out);replace j1_:=(HB.out.cell (World.block_lt_of_cell? w _ j1_)).trans j1_;replace j3_:=(HB.out.cell (World.block_lt_of_cell? w _ j3_)).trans j3_;replace j1_:=(cell_far (p:=⟨j0_,0,none⟩) za51 (.int .i64 ((rd_T55 l1 (ji20)).f0))).trans j1_;replace j3_:=(cell_far (p:=⟨j0_,0,none⟩) za51 (.int .i64 ((rd_T55 l1 (ji20)).f0))).trans j3_;replace j1_:=(cell_far (p:=⟨j0_,1,none⟩) za52 (.int .i64 ((rd_T55 l1 (ji20)).f1))).trans j1_;replace j3_:=(cell_far (p:=⟨j0_,1,none⟩) za52 (.int .i64 ((rd_T55 l1 (ji20)).f1))).trans j3_;(try have jt_:=fun (n_:Nat)=>(show ((((w28.drewN n_).setCell ⟨j0_,0,none⟩ (.int .i64 ((rd_T55 l1 (ji20)).f0))).setCell ⟨j0_,1,none⟩ (.int .i64 ((rd_T55 l1 (ji20)).f1)))).cell? _=some _ from j1_));(try have ju_:=fun (n_:Nat)=>(show ((((w28.drewN n_).setCell ⟨j0_,0,none⟩ (.int .i64 ((rd_T55 l1 (ji20)).f0))).setCell ⟨j0_,1,none⟩ (.int .i64 ((rd_T55 l1 (ji20)).f1)))).cell? _=some _ from j3_));clear j4_;clear j5_;replace p132:=eq_true p132;replace q132:=eq_true q132)|(go_at_call 37;(with_reducible refine (slices_Contains_int_int.calls k3 _ _ (rd_L1 l0_1 jb_) ((rd_T55 l1 (ji20)).f0) true _ ?side1 ?side2 A26.out).mono ?_);(case side1=>exact Kd.C_below jr_.out za27);(case side2=>exact js_.out);rintro e w' ⟨rfl,⟨nd,rfl⟩⟩;(try first|exact ⟨rfl,_,World.drewN_drewN _ _ _⟩|exact ⟨rfl,_,Eq.trans (World.drewN_drewN _ _ _) (congrArg (World.drewN _) (Nat.add_assoc _ _ _))⟩))))
                  go_roundg k3
                  case measure=>have:=HJ3.out;have:=HJ9.out;have:=HK3.out;omega
                  case rel=>exact ⟨(wrap64 (jb_+1)),za76,H',⟨by have:=HJ3.out;have:=HJ9.out;have:=HK3.out;omega⟩,⟨by (with_reducible repeat (first|refine blk_drewN ?_ _|refine blk_drew ?_|refine blk_alloc ?_ _));refine blk_far ?_ j9_.out _;(with_reducible repeat (first|refine blk_drewN ?_ _|refine blk_drew ?_|refine blk_alloc ?_ _));refine blk_far ?_ j9_.out _;(with_reducible repeat (first|refine blk_drewN ?_ _|refine blk_drew ?_|refine blk_alloc ?_ _));exact j2_.out⟩,⟨by repeat (first|(with_reducible first|exact HB.out|apply below_alloc|apply pw_below_drewN|apply below_drew1|refine below_set ?_ j7_.out|refine below_set ?_ jn_.out)|exact HB.out)⟩⟩
                 ·
                  replace c27:=Bool.eq_false_iff.mpr c27
                  subst c27
                  have H1:(some false)=some r:=by rw [if_neg (show ¬ (false=true) by decide)] at H;exact H
                  clear H
                  have H:=H1
                  clear H1
                  obtain rfl:=Option.some.inj H
                  have p129:0≤(jb_:Int):=of_decide_eq_true za73
                  have q129:jb_<(l0_1.length:Int):=of_decide_eq_true za73
                  obtain ⟨jd_,j1a,j1b,e129,ji_,hl129_0,hi129_0⟩:=at_L1 HR0_1.out jb_ p129 q129
                  cases e129
                  replace ji_:=(HB.out.cell (World.block_lt_of_cell? w _ ji_)).trans ji_
                  have jr_:=Aside0.mk hi129_0
                  have js_:=Aside0.mk hl129_0
                  clear hi129_0 hl129_0
                  replace p129:=eq_true p129
                  replace q129:=eq_true q129
                  have p130:0≤((ji20):Int):=of_decide_eq_true za73
                  have q130:(ji20)<(l1.length:Int):=of_decide_eq_true za73
                  obtain ⟨je_,e130,jj_,jk_⟩:=at_T55 HR1.out (ji20) p130 q130
                  cases e130
                  replace jj_:=(HB.out.cell (World.block_lt_of_cell? w _ jj_)).trans jj_
                  replace jk_:=(HB.out.cell (World.block_lt_of_cell? w _ jk_)).trans jk_
                  replace p130:=eq_true p130
                  replace q130:=eq_true q130
                  go_wp2_with (first|((with_reducible refine gate_dst (N:=10) rfl ?_);(try (refine gate_guard (by rfl) ?_;dsimp only));refine box_event ?hg (N:=10) ?hd (cs:=#[.int .i64 0,.int .i64 0]) (t:=55) ?hr ?_;(case hd=>rfl);(case hg=>rfl);(case hr=>first|(go_simp;done)|(go_simp;rfl));intro j0_ hg w31 hbox hb;have n0_:=Aside0.mk (blk_below (g:=j6_) (o:=.cells #[.slice A0_0 l0_0.length c0_0,.slice (some jd_) l0_1.length c0_1,.slice A0_2 l0_2.length c0_2,.slice A0_3 l0_3.length c0_3,.slice A0_4 l0_4.length c0_4] 49 (0,0)) za46 hb);have n1_:=Aside0.mk (below_step za33 hb);have n2_:=Aside0.mk (hbox);have n3_:=Aside0.mk ((za23:w.heap.size≤j0_));have n4_:=Aside0.mk ((za23:w.heap.size≤j0_));have n5_:=Aside0.mk ((za0:j6_≠j0_));have n6_:=Aside0.mk ((za1:j0_≠j6_));clear j2_;clear HB;have j2_:=n0_;have HB:=n1_;have j8_:=n2_;have jg_:=n3_;have jn_:=n4_;have j9_:=n5_;have jc_:=n6_;clear n0_ n1_ n2_ n3_ n4_ n5_ n6_;clear hb hbox hg;have hnb32:=jc_.out;have hnc32:=j9_.out;have hcz33_0:w31.cell? ⟨j0_,0,none⟩=some (.int .i64 0):=(blk_cell j8_.out 0).trans rfl;have hcz33_1:w31.cell? ⟨j0_,1,none⟩=some (.int .i64 0):=(blk_cell j8_.out 1).trans rfl;have hfz33_0:=blk_frozen j8_.out 0;have hfz33_1:=blk_frozen j8_.out 1;have p132:0≤(a2:Int):=of_decide_eq_true za73;have q132:a2<(l1.length:Int):=of_decide_eq_true za73;obtain ⟨jo_,e132,j1_,j3_⟩:=at_T55 HR1.out a2 p132 q132;obtain rfl:je_=jo_:=(by injection e132);have j4_:je_.block≠j0_:=Nat.ne_of_lt (Nat.lt_of_lt_of_le za71 jg_.out);have j5_:je_.block≠j0_:=Nat.ne_of_lt (Nat.lt_of_lt_of_le za71 jg_.out);replace j1_:=(HB.out.cell (World.block_lt_of_cell? w _ j1_)).trans j1_;replace j3_:=(HB.out.cell (World.block_lt_of_cell? w _ j3_)).trans j3_;replace j1_:=(cell_far (p:=⟨j0_,0,none⟩) za51 (.int .i64 ((rd_T55 l1 (ji20)).f0))).trans j1_;replace j3_:=(cell_far (p:=⟨j0_,0,none⟩) za51 (.int .i64 ((rd_T55 l1 (ji20)).f0))).trans j3_;replace j1_:=(cell_far (p:=⟨j0_,1,none⟩) za52 (.int .i64 ((rd_T55 l1 (ji20)).f1))).trans j1_;replace j3_:=(cell_far (p:=⟨j0_,1,none⟩) za52 (.int .i64 ((rd_T55 l1 (ji20)).f1))).trans j3_;(try have jt_:=fun (n_:Nat)=>(show ((((w31.drewN n_).setCell ⟨j0_,0,none⟩ (.int .i64 ((rd_T55 l1 (ji20)).f0))).setCell ⟨j0_,1,none⟩ (.int .i64 ((rd_T55 l1 (ji20)).f1)))).cell? _=some _ from j1_));(try have ju_:=fun (n_:Nat)=>(show ((((w31.drewN n_).setCell ⟨j0_,0,none⟩ (.int .i64 ((rd_T55 l1 (ji20)).f0))).setCell ⟨j0_,1,none⟩ (.int .i64 ((rd_T55 l1 (ji20)).f1)))).cell? _=some _ from j3_));clear j4_;clear j5_;replace p132:=eq_true p132;replace q132:=eq_true q132)|(go_at_call 37;(with_reducible refine (slices_Contains_int_int.calls k3 _ _ (rd_L1 l0_1 jb_) ((rd_T55 l1 (ji20)).f0) false _ ?side1 ?side2 A26.out).mono ?_);(case side1=>exact Kd.C_below jr_.out za27);(case side2=>exact js_.out);rintro e w' ⟨rfl,⟨nd,rfl⟩⟩;(try first|exact ⟨rfl,_,World.drewN_drewN _ _ _⟩|exact ⟨rfl,_,Eq.trans (World.drewN_drewN _ _ _) (congrArg (World.drewN _) (Nat.add_assoc _ _ _))⟩)))
                  repeat (go_quiet (first|((with_reducible refine gate_dst (N:=10) rfl ?_);(try (refine gate_guard (by rfl) ?_;dsimp only));refine box_event ?hg (N:=10) ?hd (cs:=#[.int .i64 0,.int .i64 0]) (t:=55) ?hr ?_;(case hd=>rfl);(case hg=>rfl);(case hr=>first|(go_simp;done)|(go_simp;rfl));intro j0_ hg w31 hbox hb;have n0_:=Aside0.mk (blk_below (g:=j6_) (o:=.cells #[.slice A0_0 l0_0.length c0_0,.slice (some jd_) l0_1.length c0_1,.slice A0_2 l0_2.length c0_2,.slice A0_3 l0_3.length c0_3,.slice A0_4 l0_4.length c0_4] 49 (0,0)) za46 hb);have n1_:=Aside0.mk (below_step za33 hb);have n2_:=Aside0.mk (hbox);have n3_:=Aside0.mk ((za23:w.heap.size≤j0_));have n4_:=Aside0.mk ((za23:w.heap.size≤j0_));have n5_:=Aside0.mk ((za0:j6_≠j0_));have n6_:=Aside0.mk ((za1:j0_≠j6_));clear j2_;clear HB;have j2_:=n0_;have HB:=n1_;have j8_:=n2_;have jg_:=n3_;have jn_:=n4_;have j9_:=n5_;have jc_:=n6_;clear n0_ n1_ n2_ n3_ n4_ n5_ n6_;clear hb hbox hg;have hnb32:=jc_.out;have hnc32:=j9_.out;have hcz33_0:w31.cell? ⟨j0_,0,none⟩=some (.int .i64 0):=(blk_cell j8_.out 0).trans rfl;have hcz33_1:w31.cell? ⟨j0_,1,none⟩=some (.int .i64 0):=(blk_cell j8_.out 1).trans rfl;have hfz33_0:=blk_frozen j8_.out 0;have hfz33_1:=blk_frozen j8_.out 1;have p132:0≤(a2:Int):=of_decide_eq_true za73;have q132:a2<(l1.length:Int):=of_decide_eq_true za73;obtain ⟨jo_,e132,j1_,j3_⟩:=at_T55 HR1.out a2 p132 q132;obtain rfl:je_=jo_:=(by injection e132);have j4_:je_.block≠j0_:=Nat.ne_of_lt (Nat.lt_of_lt_of_le za71 jg_.out);have j5_:je_.block≠j0_:=Nat.ne_of_lt (Nat.lt_of_lt_of_le za71 jg_.out);replace j1_:=(HB.out.cell (World.block_lt_of_cell? w _ j1_)).trans j1_;replace j3_:=(HB.out.cell (World.block_lt_of_cell? w _ j3_)).trans j3_;replace j1_:=(cell_far (p:=⟨j0_,0,none⟩) za51 (.int .i64 ((rd_T55 l1 (ji20)).f0))).trans j1_;replace j3_:=(cell_far (p:=⟨j0_,0,none⟩) za51 (.int .i64 ((rd_T55 l1 (ji20)).f0))).trans j3_;replace j1_:=(cell_far (p:=⟨j0_,1,none⟩) za52 (.int .i64 ((rd_T55 l1 (ji20)).f1))).trans j1_;replace j3_:=(cell_far (p:=⟨j0_,1,none⟩) za52 (.int .i64 ((rd_T55 l1 (ji20)).f1))).trans j3_;(try have jt_:=fun (n_:Nat)=>(show ((((w31.drewN n_).setCell ⟨j0_,0,none⟩ (.int .i64 ((rd_T55 l1 (ji20)).f0))).setCell ⟨j0_,1,none⟩ (.int .i64 ((rd_T55 l1 (ji20)).f1)))).cell? _=some _ from j1_));(try have ju_:=fun (n_:Nat)=>(show ((((w31.drewN n_).setCell ⟨j0_,0,none⟩ (.int .i64 ((rd_T55 l1 (ji20)).f0))).setCell ⟨j0_,1,none⟩ (.int .i64 ((rd_T55 l1 (ji20)).f1)))).cell? _=some _ from j3_));clear j4_;clear j5_;replace p132:=eq_true p132;replace q132:=eq_true q132)|(go_at_call 37;(with_reducible refine (slices_Contains_int_int.calls k3 _ _ (rd_L1 l0_1 jb_) ((rd_T55 l1 (ji20)).f0) false _ ?side1 ?side2 A26.out).mono ?_);(case side1=>exact Kd.C_below jr_.out za27);(case side2=>exact js_.out);rintro e w' ⟨rfl,⟨nd,rfl⟩⟩;(try first|exact ⟨rfl,_,World.drewN_drewN _ _ _⟩|exact ⟨rfl,_,Eq.trans (World.drewN_drewN _ _ _) (congrArg (World.drewN _) (Nat.add_assoc _ _ _))⟩)));try go_wp2_with (first|((with_reducible refine gate_dst (N:=10) rfl ?_);(try (refine gate_guard (by rfl) ?_;dsimp only));refine box_event ?hg (N:=10) ?hd (cs:=#[.int .i64 0,.int .i64 0]) (t:=55) ?hr ?_;(case hd=>rfl);(case hg=>rfl);(case hr=>first|(go_simp;done)|(go_simp;rfl));intro j0_ hg w31 hbox hb;have n0_:=Aside0.mk (blk_below (g:=j6_) (o:=.cells #[.slice A0_0 l0_0.length c0_0,.slice (some jd_) l0_1.length c0_1,.slice A0_2 l0_2.length c0_2,.slice A0_3 l0_3.length c0_3,.slice A0_4 l0_4.length c0_4] 49 (0,0)) za46 hb);have n1_:=Aside0.mk (below_step za33 hb);have n2_:=Aside0.mk (hbox);have n3_:=Aside0.mk ((za23:w.heap.size≤j0_));have n4_:=Aside0.mk ((za23:w.heap.size≤j0_));have n5_:=Aside0.mk ((za0:j6_≠j0_));have n6_:=Aside0.mk ((za1:j0_≠j6_));clear j2_;clear HB;have j2_:=n0_;have HB:=n1_;have j8_:=n2_;have jg_:=n3_;have jn_:=n4_;have j9_:=n5_;have jc_:=n6_;clear n0_ n1_ n2_ n3_ n4_ n5_ n6_;clear hb hbox hg;have hnb32:=jc_.out;have hnc32:=j9_.out;have hcz33_0:w31.cell? ⟨j0_,0,none⟩=some (.int .i64 0):=(blk_cell j8_.out 0).trans rfl;have hcz33_1:w31.cell? ⟨j0_,1,none⟩=some (.int .i64 0):=(blk_cell j8_.out 1).trans rfl;have hfz33_0:=blk_frozen j8_.out 0;have hfz33_1:=blk_frozen j8_.out 1;have p132:0≤(a2:Int):=of_decide_eq_true za73;have q132:a2<(l1.length:Int):=of_decide_eq_true za73;obtain ⟨jo_,e132,j1_,j3_⟩:=at_T55 HR1.out a2 p132 q132;obtain rfl:je_=jo_:=(by injection e132);have j4_:je_.block≠j0_:=Nat.ne_of_lt (Nat.lt_of_lt_of_le za71 jg_.out);have j5_:je_.block≠j0_:=Nat.ne_of_lt (Nat.lt_of_lt_of_le za71 jg_.out);replace j1_:=(HB.out.cell (World.block_lt_of_cell? w _ j1_)).trans j1_;replace j3_:=(HB.out.cell (World.block_lt_of_cell? w _ j3_)).trans j3_;replace j1_:=(cell_far (p:=⟨j0_,0,none⟩) za51 (.int .i64 ((rd_T55 l1 (ji20)).f0))).trans j1_;replace j3_:=(cell_far (p:=⟨j0_,0,none⟩) za51 (.int .i64 ((rd_T55 l1 (ji20)).f0))).trans j3_;replace j1_:=(cell_far (p:=⟨j0_,1,none⟩) za52 (.int .i64 ((rd_T55 l1 (ji20)).f1))).trans j1_;replace j3_:=(cell_far (p:=⟨j0_,1,none⟩) za52 (.int .i64 ((rd_T55 l1 (ji20)).f1))).trans j3_;(try have jt_:=fun (n_:Nat)=>(show ((((w31.drewN n_).setCell ⟨j0_,0,none⟩ (.int .i64 ((rd_T55 l1 (ji20)).f0))).setCell ⟨j0_,1,none⟩ (.int .i64 ((rd_T55 l1 (ji20)).f1)))).cell? _=some _ from j1_));(try have ju_:=fun (n_:Nat)=>(show ((((w31.drewN n_).setCell ⟨j0_,0,none⟩ (.int .i64 ((rd_T55 l1 (ji20)).f0))).setCell ⟨j0_,1,none⟩ (.int .i64 ((rd_T55 l1 (ji20)).f1)))).cell? _=some _ from j3_));clear j4_;clear j5_;replace p132:=eq_true p132;replace q132:=eq_true q132)|(go_at_call 37;(with_reducible refine (slices_Contains_int_int.calls k3 _ _ (rd_L1 l0_1 jb_) ((rd_T55 l1 (ji20)).f0) false _ ?side1 ?side2 A26.out).mono ?_);(case side1=>exact Kd.C_below jr_.out za27);(case side2=>exact js_.out);rintro e w' ⟨rfl,⟨nd,rfl⟩⟩;(try first|exact ⟨rfl,_,World.drewN_drewN _ _ _⟩|exact ⟨rfl,_,Eq.trans (World.drewN_drewN _ _ _) (congrArg (World.drewN _) (Nat.add_assoc _ _ _))⟩))))
                  go_ret
                  exact ⟨by first|rfl|(simp [errW_none,errW_some]<;>rfl)|(simp only [← j15];first|rfl|(simp [errW_none,errW_some]<;>rfl))|(simp [*,errW_none,errW_some]<;>rfl),by repeat (first|(with_reducible first|exact HB.out|apply below_alloc|apply pw_below_drewN|apply below_drew1|refine below_set ?_ j7_.out|refine below_set ?_ jn_.out)|exact HB.out)⟩
                ·
                 rw [if_neg c25] at H
                 have c25b0:(((rd_T55 l1 (ji20)).f1)==((rd_T55 l1 a2).f1))=false:=beq_eq_false_iff_ne.mpr c25
                 have c25b1:(((rd_T55 l1 (ji20)).f1) != ((rd_T55 l1 a2).f1))=true:=bne_iff_ne.mpr c25
                 obtain rfl:=Option.some.inj H
                 have p129:0≤(jb_:Int):=of_decide_eq_true za73
                 have q129:jb_<(l0_1.length:Int):=of_decide_eq_true za73
                 obtain ⟨jd_,j1a,j1b,e129,ji_,hl129_0,hi129_0⟩:=at_L1 HR0_1.out jb_ p129 q129
                 cases e129
                 replace ji_:=(HB.out.cell (World.block_lt_of_cell? w _ ji_)).trans ji_
                 have jr_:=Aside0.mk hi129_0
                 have js_:=Aside0.mk hl129_0
                 clear hi129_0 hl129_0
                 replace p129:=eq_true p129
                 replace q129:=eq_true q129
                 have p130:0≤((ji20):Int):=of_decide_eq_true za73
                 have q130:(ji20)<(l1.length:Int):=of_decide_eq_true za73
                 obtain ⟨je_,e130,jj_,jk_⟩:=at_T55 HR1.out (ji20) p130 q130
                 cases e130
                 replace jj_:=(HB.out.cell (World.block_lt_of_cell? w _ jj_)).trans jj_
                 replace jk_:=(HB.out.cell (World.block_lt_of_cell? w _ jk_)).trans jk_
                 replace p130:=eq_true p130
                 replace q130:=eq_true q130
                 go_wp2_with (first|((with_reducible refine gate_dst (N:=10) rfl ?_);(try (refine gate_guard (by rfl) ?_;dsimp only));refine box_event ?hg (N:=10) ?hd (cs:=#[.int .i64 0,.int .i64 0]) (t:=55) ?hr ?_;(case hd=>rfl);(case hg=>rfl);(case hr=>first|(go_simp;done)|(go_simp;rfl));intro j0_ hg w34 hbox hb;have n0_:=Aside0.mk (blk_below (g:=j6_) (o:=.cells #[.slice A0_0 l0_0.length c0_0,.slice (some jd_) l0_1.length c0_1,.slice A0_2 l0_2.length c0_2,.slice A0_3 l0_3.length c0_3,.slice A0_4 l0_4.length c0_4] 49 (0,0)) za46 hb);have n1_:=Aside0.mk (below_step za33 hb);have n2_:=Aside0.mk (hbox);have n3_:=Aside0.mk ((za23:w.heap.size≤j0_));have n4_:=Aside0.mk ((za23:w.heap.size≤j0_));have n5_:=Aside0.mk ((za0:j6_≠j0_));have n6_:=Aside0.mk ((za1:j0_≠j6_));clear j2_;clear HB;have j2_:=n0_;have HB:=n1_;have j8_:=n2_;have jg_:=n3_;have jn_:=n4_;have j9_:=n5_;have jc_:=n6_;clear n0_ n1_ n2_ n3_ n4_ n5_ n6_;clear hb hbox hg;have hnb35:=jc_.out;have hnc35:=j9_.out;have hcz36_0:w34.cell? ⟨j0_,0,none⟩=some (.int .i64 0):=(blk_cell j8_.out 0).trans rfl;have hcz36_1:w34.cell? ⟨j0_,1,none⟩=some (.int .i64 0):=(blk_cell j8_.out 1).trans rfl;have hfz36_0:=blk_frozen j8_.out 0;have hfz36_1:=blk_frozen j8_.out 1;have p132:0≤(a2:Int):=of_decide_eq_true za73;have q132:a2<(l1.length:Int):=of_decide_eq_true za73;obtain ⟨jo_,e132,j1_,j3_⟩:=at_T55 HR1.out a2 p132 q132;obtain rfl:je_=jo_:=(by injection e132);have j4_:je_.block≠j0_:=Nat.ne_of_lt (Nat.lt_of_lt_of_le za71 jg_.out);have j5_:je_.block≠j0_:=Nat.ne_of_lt (Nat.lt_of_lt_of_le za71 jg_.out);replace j1_:=(HB.out.cell (World.block_lt_of_cell? w _ j1_)).trans j1_;replace j3_:=(HB.out.cell (World.block_lt_of_cell? w _ j3_)).trans j3_;replace j1_:=(cell_far (p:=⟨j0_,0,none⟩) za51 (.int .i64 ((rd_T55 l1 (ji20)).f0))).trans j1_;replace j3_:=(cell_far (p:=⟨j0_,0,none⟩) za51 (.int .i64 ((rd_T55 l1 (ji20)).f0))).trans j3_;replace j1_:=(cell_far (p:=⟨j0_,1,none⟩) za52 (.int .i64 ((rd_T55 l1 (ji20)).f1))).trans j1_;replace j3_:=(cell_far (p:=⟨j0_,1,none⟩) za52 (.int .i64 ((rd_T55 l1 (ji20)).f1))).trans j3_;(try have jt_:=fun (n_:Nat)=>(show ((((w34.drewN n_).setCell ⟨j0_,0,none⟩ (.int .i64 ((rd_T55 l1 (ji20)).f0))).setCell ⟨j0_,1,none⟩ (.int .i64 ((rd_T55 l1 (ji20)).f1)))).cell? _=some _ from j1_));(try have ju_:=fun (n_:Nat)=>(show ((((w34.drewN n_).setCell ⟨j0_,0,none⟩ (.int .i64 ((rd_T55 l1 (ji20)).f0))).setCell ⟨j0_,1,none⟩ (.int .i64 ((rd_T55 l1 (ji20)).f1)))).cell? _=some _ from j3_));clear j4_;clear j5_;replace p132:=eq_true p132;replace q132:=eq_true q132))
                 repeat (go_quiet (first|((with_reducible refine gate_dst (N:=10) rfl ?_);(try (refine gate_guard (by rfl) ?_;dsimp only));refine box_event ?hg (N:=10) ?hd (cs:=#[.int .i64 0,.int .i64 0]) (t:=55) ?hr ?_;(case hd=>rfl);(case hg=>rfl);(case hr=>first|(go_simp;done)|(go_simp;rfl));intro j0_ hg w34 hbox hb;have n0_:=Aside0.mk (blk_below (g:=j6_) (o:=.cells #[.slice A0_0 l0_0.length c0_0,.slice (some jd_) l0_1.length c0_1,.slice A0_2 l0_2.length c0_2,.slice A0_3 l0_3.length c0_3,.slice A0_4 l0_4.length c0_4] 49 (0,0)) za46 hb);have n1_:=Aside0.mk (below_step za33 hb);have n2_:=Aside0.mk (hbox);have n3_:=Aside0.mk ((za23:w.heap.size≤j0_));have n4_:=Aside0.mk ((za23:w.heap.size≤j0_));have n5_:=Aside0.mk ((za0:j6_≠j0_));have n6_:=Aside0.mk ((za1:j0_≠j6_));clear j2_;clear HB;have j2_:=n0_;have HB:=n1_;have j8_:=n2_;have jg_:=n3_;have jn_:=n4_;have j9_:=n5_;have jc_:=n6_;clear n0_ n1_ n2_ n3_ n4_ n5_ n6_;clear hb hbox hg;have hnb35:=jc_.out;have hnc35:=j9_.out;have hcz36_0:w34.cell? ⟨j0_,0,none⟩=some (.int .i64 0):=(blk_cell j8_.out 0).trans rfl;have hcz36_1:w34.cell? ⟨j0_,1,none⟩=some (.int .i64 0):=(blk_cell j8_.out 1).trans rfl;have hfz36_0:=blk_frozen j8_.out 0;have hfz36_1:=blk_frozen j8_.out 1;have p132:0≤(a2:Int):=of_decide_eq_true za73;have q132:a2<(l1.length:Int):=of_decide_eq_true za73;obtain ⟨jo_,e132,j1_,j3_⟩:=at_T55 HR1.out a2 p132 q132;obtain rfl:je_=jo_:=(by injection e132);have j4_:je_.block≠j0_:=Nat.ne_of_lt (Nat.lt_of_lt_of_le za71 jg_.out);have j5_:je_.block≠j0_:=Nat.ne_of_lt (Nat.lt_of_lt_of_le za71 jg_.out);replace j1_:=(HB.out.cell (World.block_lt_of_cell? w _ j1_)).trans j1_;replace j3_:=(HB.out.cell (World.block_lt_of_cell? w _ j3_)).trans j3_;replace j1_:=(cell_far (p:=⟨j0_,0,none⟩) za51 (.int .i64 ((rd_T55 l1 (ji20)).f0))).trans j1_;replace j3_:=(cell_far (p:=⟨j0_,0,none⟩) za51 (.int .i64 ((rd_T55 l1 (ji20)).f0))).trans j3_;replace j1_:=(cell_far (p:=⟨j0_,1,none⟩) za52 (.int .i64 ((rd_T55 l1 (ji20)).f1))).trans j1_;replace j3_:=(cell_far (p:=⟨j0_,1,none⟩) za52 (.int .i64 ((rd_T55 l1 (ji20)).f1))).trans j3_;(try have jt_:=fun (n_:Nat)=>(show ((((w34.drewN n_).setCell ⟨j0_,0,none⟩ (.int .i64 ((rd_T55 l1 (ji20)).f0))).setCell ⟨j0_,1,none⟩ (.int .i64 ((rd_T55 l1 (ji20)).f1)))).cell? _=some _ from j1_));(try have ju_:=fun (n_:Nat)=>(show ((((w34.drewN n_).setCell ⟨j0_,0,none⟩ (.int .i64 ((rd_T55 l1 (ji20)).f0))).setCell ⟨j0_,1,none⟩ (.int .i64 ((rd_T55 l1 (ji20)).f1)))).cell? _=some _ from j3_));clear j4_;clear j5_;replace p132:=eq_true p132;replace q132:=eq_true q132));try go_wp2_with (first|((with_reducible refine gate_dst (N:=10) rfl ?_);(try (refine gate_guard (by rfl) ?_;dsimp only));refine box_event ?hg (N:=10) ?hd (cs:=#[.int .i64 0,.int .i64 0]) (t:=55) ?hr ?_;(case hd=>rfl);(case hg=>rfl);(case hr=>first|(go_simp;done)|(go_simp;rfl));intro j0_ hg w34 hbox hb;have n0_:=Aside0.mk (blk_below (g:=j6_) (o:=.cells #[.slice A0_0 l0_0.length c0_0,.slice (some jd_) l0_1.length c0_1,.slice A0_2 l0_2.length c0_2,.slice A0_3 l0_3.length c0_3,.slice A0_4 l0_4.length c0_4] 49 (0,0)) za46 hb);have n1_:=Aside0.mk (below_step za33 hb);have n2_:=Aside0.mk (hbox);have n3_:=Aside0.mk ((za23:w.heap.size≤j0_));have n4_:=Aside0.mk ((za23:w.heap.size≤j0_));have n5_:=Aside0.mk ((za0:j6_≠j0_));have n6_:=Aside0.mk ((za1:j0_≠j6_));clear j2_;clear HB;have j2_:=n0_;have HB:=n1_;have j8_:=n2_;have jg_:=n3_;have jn_:=n4_;have j9_:=n5_;have jc_:=n6_;clear n0_ n1_ n2_ n3_ n4_ n5_ n6_;clear hb hbox hg;have hnb35:=jc_.out;have hnc35:=j9_.out;have hcz36_0:w34.cell? ⟨j0_,0,none⟩=some (.int .i64 0):=(blk_cell j8_.out 0).trans rfl;have hcz36_1:w34.cell? ⟨j0_,1,none⟩=some (.int .i64 0):=(blk_cell j8_.out 1).trans rfl;have hfz36_0:=blk_frozen j8_.out 0;have hfz36_1:=blk_frozen j8_.out 1;have p132:0≤(a2:Int):=of_decide_eq_true za73;have q132:a2<(l1.length:Int):=of_decide_eq_true za73;obtain ⟨jo_,e132,j1_,j3_⟩:=at_T55 HR1.out a2 p132 q132;obtain rfl:je_=jo_:=(by injection e132);have j4_:je_.block≠j0_:=Nat.ne_of_lt (Nat.lt_of_lt_of_le za71 jg_.out);have j5_:je_.block≠j0_:=Nat.ne_of_lt (Nat.lt_of_lt_of_le za71 jg_.out);replace j1_:=(HB.out.cell (World.block_lt_of_cell? w _ j1_)).trans j1_;replace j3_:=(HB.out.cell (World.block_lt_of_cell? w _ j3_)).trans j3_;replace j1_:=(cell_far (p:=⟨j0_,0,none⟩) za51 (.int .i64 ((rd_T55 l1 (ji20)).f0))).trans j1_;replace j3_:=(cell_far (p:=⟨j0_,0,none⟩) za51 (.int .i64 ((rd_T55 l1 (ji20)).f0))).trans j3_;replace j1_:=(cell_far (p:=⟨j0_,1,none⟩) za52 (.int .i64 ((rd_T55 l1 (ji20)).f1))).trans j1_;replace j3_:=(cell_far (p:=⟨j0_,1,none⟩) za52 (.int .i64 ((rd_T55 l1 (ji20)).f1))).trans j3_;(try have jt_:=fun (n_:Nat)=>(show ((((w34.drewN n_).setCell ⟨j0_,0,none⟩ (.int .i64 ((rd_T55 l1 (ji20)).f0))).setCell ⟨j0_,1,none⟩ (.int .i64 ((rd_T55 l1 (ji20)).f1)))).cell? _=some _ from j1_));(try have ju_:=fun (n_:Nat)=>(show ((((w34.drewN n_).setCell ⟨j0_,0,none⟩ (.int .i64 ((rd_T55 l1 (ji20)).f0))).setCell ⟨j0_,1,none⟩ (.int .i64 ((rd_T55 l1 (ji20)).f1)))).cell? _=some _ from j3_));clear j4_;clear j5_;replace p132:=eq_true p132;replace q132:=eq_true q132)))
                 go_ret
                 exact ⟨by first|rfl|(simp [errW_none,errW_some]<;>rfl)|(simp only [← j15];first|rfl|(simp [errW_none,errW_some]<;>rfl))|(simp [*,errW_none,errW_some]<;>rfl),by repeat (first|(with_reducible first|exact HB.out|apply below_alloc|apply pw_below_drewN|apply below_drew1|refine below_set ?_ j7_.out|refine below_set ?_ jn_.out)|exact HB.out)⟩
               ·
                rw [if_neg c24] at H
                exact absurd H (by simp)
              ·
               rw [if_neg c23] at H
               exact absurd H (by simp)
             ·
              rw [if_neg c22] at H
              exact absurd H (by simp)
            ·
             rw [if_neg c21] at H
             exact absurd H (by simp)
           ·
            rw [if_neg c19] at H
            exact absurd H (by simp)
          ·
           rw [if_neg c18] at H
           exact absurd H (by simp)
         ·
          rw [if_neg c17] at H
          have c17b0:decide (jb_<(l0_1.length:Int))=false:=decide_eq_false c17
          clear c17
          have H':=Aside0.mk H
          clear H
          have hcz37_0:wr.cell? ⟨j6_,0,none⟩=some (.slice A0_0 l0_0.length c0_0):=(blk_cell j2_.out 0).trans rfl
          have hcz37_1:wr.cell? ⟨j6_,1,none⟩=some (.slice A0_1 l0_1.length c0_1):=(blk_cell j2_.out 1).trans rfl
          have hcz37_2:wr.cell? ⟨j6_,2,none⟩=some (.slice A0_2 l0_2.length c0_2):=(blk_cell j2_.out 2).trans rfl
          have hcz37_3:wr.cell? ⟨j6_,3,none⟩=some (.slice A0_3 l0_3.length c0_3):=(blk_cell j2_.out 3).trans rfl
          have hcz37_4:wr.cell? ⟨j6_,4,none⟩=some (.slice A0_4 l0_4.length c0_4):=(blk_cell j2_.out 4).trans rfl
          have hfz37_0:=blk_frozen j2_.out 0
          have hfz37_1:=blk_frozen j2_.out 1
          have hfz37_2:=blk_frozen j2_.out 2
          have hfz37_3:=blk_frozen j2_.out 3
          have hfz37_4:=blk_frozen j2_.out 4
          go_wp2
          repeat (go_quiet (fail);try go_wp2)
          go_loopg [82] k3 (fun kq v82 w'=>∃ (jf_:Int),v82=.int .i64 jf_∧Aside0 (rules_Match.l1 kq l1 a2 (wrap64 (a2+(l0_1.length:Int))) l0_0 (l0_0.length:Int) jf_ l0_0 l0_1 l0_2 l0_3 l0_4=some r)∧Aside0 (kq≤k3)∧Aside0 (w'.heap[j6_]?=some (.cells #[(.slice A0_0 l0_0.length c0_0),(.slice A0_1 l0_1.length c0_1),(.slice A0_2 l0_2.length c0_2),(.slice A0_3 l0_3.length c0_3),(.slice A0_4 l0_4.length c0_4)] 49 (0,0)))∧Aside0 (Below w.heap.size w w'))
          case atStart=>exact ⟨(0),za76,H',⟨Nat.le_refl _⟩,⟨by (with_reducible repeat (first|refine blk_drewN ?_ _|refine blk_drew ?_|refine blk_alloc ?_ _));exact j2_.out⟩,⟨by repeat (first|(with_reducible first|exact HB.out|apply below_alloc|apply pw_below_drewN|apply below_drew1|refine below_set ?_ j7_.out)|exact HB.out)⟩⟩
          case round =>
           clear H'
           try clear c1
           try clear p1
           try clear q1
           try clear hx1
           try clear c2
           try clear p2
           try clear c3
           try clear c6
           try clear c6b0
           try clear p6
           try clear c7
           try clear c7b0
           try clear c9
           try clear c12
           try clear c12b0
           try clear p12
           try clear q12
           try clear hx12
           try clear p13
           try clear q13
           try clear hx13
           try clear c15
           try clear c17
           try clear c17b0
           try clear c18
           try clear c18b0
           try clear c19
           try clear c19b0
           try clear c21
           try clear c21b0
           try clear c22
           try clear c22b0
           try clear c23
           try clear c23b0
           try clear c24
           try clear c24b0
           try clear c25
           try clear c25b0
           try clear c25b1
           try clear c27
           try clear c29
           try clear c32
           try clear c35
           try clear hcz11_0
           try clear hcz11_1
           try clear hcz11_2
           try clear hcz11_3
           try clear hcz11_4
           try clear hcz13_0
           try clear hcz13_1
           try clear hcz13_2
           try clear hcz13_3
           try clear hcz13_4
           try clear hcz14_0
           try clear hcz14_1
           try clear hcz14_2
           try clear hcz14_3
           try clear hcz14_4
           try clear hcz16_0
           try clear hcz16_1
           try clear hcz16_2
           try clear hcz16_3
           try clear hcz16_4
           try clear hcz30_0
           try clear hcz30_1
           try clear hcz33_0
           try clear hcz33_1
           try clear hcz36_0
           try clear hcz36_1
           try clear hcz37_0
           try clear hcz37_1
           try clear hcz37_2
           try clear hcz37_3
           try clear hcz37_4
           try clear hcz8_0
           try clear hcz8_1
           try clear hcz8_2
           try clear hcz8_3
           try clear hcz8_4
           try clear hfz11_0
           try clear hfz11_1
           try clear hfz11_2
           try clear hfz11_3
           try clear hfz11_4
           try clear hfz13_0
           try clear hfz13_1
           try clear hfz13_2
           try clear hfz13_3
           try clear hfz13_4
           try clear hfz14_0
           try clear hfz14_1
           try clear hfz14_2
           try clear hfz14_3
           try clear hfz14_4
           try clear hfz16_0
           try clear hfz16_1
           try clear hfz16_2
           try clear hfz16_3
           try clear hfz16_4
           try clear hfz30_0
           try clear hfz30_1
           try clear hfz33_0
           try clear hfz33_1
           try clear hfz36_0
           try clear hfz36_1
           try clear hfz37_0
           try clear hfz37_1
           try clear hfz37_2
           try clear hfz37_3
           try clear hfz37_4
           try clear hfz8_0
           try clear hfz8_1
           try clear hfz8_2
           try clear hfz8_3
           try clear hfz8_4
           try clear ji_
           try clear jj_
           try clear jk_
           try clear j1_
           try clear j3_
           try clear p129
           try clear p130
           try clear p132
           try clear p2
           try clear p6
           try clear q129
           try clear q130
           try clear q132
           obtain ⟨jf_,rfl,HA,HK4,j2_,HB⟩:=hrel
           cases gk with
           | zero=>exact absurd HA.out (by simp [rules_Match.l1])
           | succ k4 =>
            have H:=HA.out
            clear HA
            simp only [rules_Match.l1] at H
            by_cases c38:jf_<(l0_0.length:Int)
            ·
             rw [if_pos c38] at H
             have c38b0:decide (jf_<(l0_0.length:Int))=true:=decide_eq_true c38
             clear c38
             by_cases c39:0≤jf_
             ·
              rw [if_pos c39] at H
              have c39b0:decide (0≤jf_)=true:=decide_eq_true c39
              clear c39
              by_cases c40:jf_<(l0_0.length:Int)
              ·
               rw [if_pos c40] at H
               have c40b0:decide (jf_<(l0_0.length:Int))=true:=decide_eq_true c40
               clear c40
               obtain ⟨ji41,j18⟩:∃ j_:Int,(wrap64 ((wrap64 (a2 - 1)) - jf_))=j_:=⟨_,rfl⟩
               replace H:(if 0≤(ji41) then (if (ji41)<(l1.length:Int) then ((slices_Contains_int_int.f k4 (rd_L1 l0_0 jf_) ((rd_T55 l1 (ji41)).f0)).bind fun t136=>(if t136=true then (rules_Match.l1 k4 l1 a2 (wrap64 (a2+(l0_1.length:Int))) l0_0 (l0_0.length:Int) (wrap64 (jf_+1)) l0_0 l0_1 l0_2 l0_3 l0_4) else (some false))) else (none)) else (none))=some r:=by first|(rw [j18] at H;exact H)|(simp only [j18] at H ⊢;exact H)
               have hji41w:(IntKind.i64.wrap ((wrap64 (a2 - 1)) - jf_))=ji41:=(i64_w _).trans j18
               by_cases c42:0≤(ji41)
               ·
                rw [if_pos c42] at H
                have c42b0:decide (0≤(ji41))=true:=decide_eq_true c42
                clear c42
                by_cases c43:(ji41)<(l1.length:Int)
                ·
                 rw [if_pos c43] at H
                 have c43b0:decide ((ji41)<(l1.length:Int))=true:=decide_eq_true c43
                 clear c43
                 replace H:=Option.bind_eq_some_iff.mp H
                 obtain ⟨t136,A440,H⟩:=H
                 replace H:(if t136=true then (rules_Match.l1 k4 l1 a2 (wrap64 (a2+(l0_1.length:Int))) l0_0 (l0_0.length:Int) (wrap64 (jf_+1)) l0_0 l0_1 l0_2 l0_3 l0_4) else (some false))=some r:=H
                 have A44:=Aside0.mk A440
                 clear A440
                 by_cases c45:t136=true
                 ·
                  subst c45
                  have H1:(rules_Match.l1 k4 l1 a2 (wrap64 (a2+(l0_1.length:Int))) l0_0 (l0_0.length:Int) (wrap64 (jf_+1)) l0_0 l0_1 l0_2 l0_3 l0_4)=some r:=by rw [if_pos rfl] at H;exact H
                  clear H
                  have H:=H1
                  clear H1
                  have H':=Aside0.mk H
                  clear H
                  have p134:0≤(jf_:Int):=of_decide_eq_true za73
                  have q134:jf_<(l0_0.length:Int):=of_decide_eq_true za73
                  obtain ⟨j1i,j1e,j1f,e134,jv_,hl134_0,hi134_0⟩:=at_L1 HR0_0.out jf_ p134 q134
                  cases e134
                  replace jv_:=(HB.out.cell (World.block_lt_of_cell? w _ jv_)).trans jv_
                  have jy_:=Aside0.mk hi134_0
                  have jz_:=Aside0.mk hl134_0
                  clear hi134_0 hl134_0
                  replace p134:=eq_true p134
                  replace q134:=eq_true q134
                  have p135:0≤((ji41):Int):=of_decide_eq_true za73
                  have q135:(ji41)<(l1.length:Int):=of_decide_eq_true za73
                  obtain ⟨j1j,e135,jw_,jx_⟩:=at_T55 HR1.out (ji41) p135 q135
                  cases e135
                  replace jw_:=(HB.out.cell (World.block_lt_of_cell? w _ jw_)).trans jw_
                  replace jx_:=(HB.out.cell (World.block_lt_of_cell? w _ jx_)).trans jx_
                  replace p135:=eq_true p135
                  replace q135:=eq_true q135
                  go_wp2_with (first|(go_at_call 37;(with_reducible refine (slices_Contains_int_int.calls k4 _ _ (rd_L1 l0_0 jf_) ((rd_T55 l1 (ji41)).f0) true _ ?side1 ?side2 A44.out).mono ?_);(case side1=>repeat (first|exact (Kd.C_below jy_.out HB.out)|(with_reducible refine Kd.C_alloc ?_ _)|(with_reducible refine Kd.C_drewN ?_ _)|(with_reducible refine Kd.C_drew ?_)));(case side2=>exact jz_.out);rintro e w' ⟨rfl,⟨nd,rfl⟩⟩;(try first|exact ⟨rfl,_,World.drewN_drewN _ _ _⟩|exact ⟨rfl,_,Eq.trans (World.drewN_drewN _ _ _) (congrArg (World.drewN _) (Nat.add_assoc _ _ _))⟩)))
                  repeat (go_quiet (first|(go_at_call 37;(with_reducible refine (slices_Contains_int_int.calls k4 _ _ (rd_L1 l0_0 jf_) ((rd_T55 l1 (ji41)).f0) true _ ?side1 ?side2 A44.out).mono ?_);(case side1=>repeat (first|exact (Kd.C_below jy_.out HB.out)|(with_reducible refine Kd.C_alloc ?_ _)|(with_reducible refine Kd.C_drewN ?_ _)|(with_reducible refine Kd.C_drew ?_)));(case side2=>exact jz_.out);rintro e w' ⟨rfl,⟨nd,rfl⟩⟩;(try first|exact ⟨rfl,_,World.drewN_drewN _ _ _⟩|exact ⟨rfl,_,Eq.trans (World.drewN_drewN _ _ _) (congrArg (World.drewN _) (Nat.add_assoc _ _ _))⟩)));try go_wp2_with (first|(go_at_call 37;(with_reducible refine (slices_Contains_int_int.calls k4 _ _ (rd_L1 l0_0 jf_) ((rd_T55 l1 (ji41)).f0) true _ ?side1 ?side2 A44.out).mono ?_);(case side1=>repeat (first|exact (Kd.C_below jy_.out HB.out)|(with_reducible refine Kd.C_alloc ?_ _)|(with_reducible refine Kd.C_drewN ?_ _)|(with_reducible refine Kd.C_drew ?_)));(case side2=>exact jz_.out);rintro e w' ⟨rfl,⟨nd,rfl⟩⟩;(try first|exact ⟨rfl,_,World.drewN_drewN _ _ _⟩|exact ⟨rfl,_,Eq.trans (World.drewN_drewN _ _ _) (congrArg (World.drewN _) (Nat.add_assoc _ _ _))⟩))))
                  go_roundg k4
                  case measure=>have:=HJ3.out;have:=HJ9.out;have:=HK3.out;have:=HK4.out;omega
                  case rel=>exact ⟨(wrap64 (jf_+1)),za76,H',⟨by have:=HJ3.out;have:=HJ9.out;have:=HK3.out;have:=HK4.out;omega⟩,⟨by (with_reducible repeat (first|refine blk_drewN ?_ _|refine blk_drew ?_|refine blk_alloc ?_ _));exact j2_.out⟩,⟨by repeat (first|(with_reducible first|exact HB.out|apply below_alloc|apply pw_below_drewN|apply below_drew1|refine below_set ?_ j7_.out)|exact HB.out)⟩⟩
                 ·
                  replace c45:=Bool.eq_false_iff.mpr c45
                  subst c45
                  have H1:(some false)=some r:=by rw [if_neg (show ¬ (false=true) by decide)] at H;exact H
                  clear H
                  have H:=H1
                  clear H1
                  obtain rfl:=Option.some.inj H
                  have p134:0≤(jf_:Int):=of_decide_eq_true za73
                  have q134:jf_<(l0_0.length:Int):=of_decide_eq_true za73
                  obtain ⟨j1i,j1e,j1f,e134,jv_,hl134_0,hi134_0⟩:=at_L1 HR0_0.out jf_ p134 q134
                  cases e134
                  replace jv_:=(HB.out.cell (World.block_lt_of_cell? w _ jv_)).trans jv_
                  have jy_:=Aside0.mk hi134_0
                  have jz_:=Aside0.mk hl134_0
                  clear hi134_0 hl134_0
                  replace p134:=eq_true p134
                  replace q134:=eq_true q134
                  have p135:0≤((ji41):Int):=of_decide_eq_true za73
                  have q135:(ji41)<(l1.length:Int):=of_decide_eq_true za73
                  obtain ⟨j1j,e135,jw_,jx_⟩:=at_T55 HR1.out (ji41) p135 q135
                  cases e135
                  replace jw_:=(HB.out.cell (World.block_lt_of_cell? w _ jw_)).trans jw_
                  replace jx_:=(HB.out.cell (World.block_lt_of_cell? w _ jx_)).trans jx_
                  replace p135:=eq_true p135
                  replace q135:=eq_true q135
                  go_wp2_with (first|(go_at_call 37;(with_reducible refine (slices_Contains_int_int.calls k4 _ _ (rd_L1 l0_0 jf_) ((rd_T55 l1 (ji41)).f0) false _ ?side1 ?side2 A44.out).mono ?_);(case side1=>repeat (first|exact (Kd.C_below jy_.out HB.out)|(with_reducible refine Kd.C_alloc ?_ _)|(with_reducible refine Kd.C_drewN ?_ _)|(with_reducible refine Kd.C_drew ?_)));(case side2=>exact jz_.out);rintro e w' ⟨rfl,⟨nd,rfl⟩⟩;(try first|exact ⟨rfl,_,World.drewN_drewN _ _ _⟩|exact ⟨rfl,_,Eq.trans (World.drewN_drewN _ _ _) (congrArg (World.drewN _) (Nat.add_assoc _ _ _))⟩)))
                  repeat (go_quiet (first|(go_at_call 37;(with_reducible refine (slices_Contains_int_int.calls k4 _ _ (rd_L1 l0_0 jf_) ((rd_T55 l1 (ji41)).f0) false _ ?side1 ?side2 A44.out).mono ?_);(case side1=>repeat (first|exact (Kd.C_below jy_.out HB.out)|(with_reducible refine Kd.C_alloc ?_ _)|(with_reducible refine Kd.C_drewN ?_ _)|(with_reducible refine Kd.C_drew ?_)));(case side2=>exact jz_.out);rintro e w' ⟨rfl,⟨nd,rfl⟩⟩;(try first|exact ⟨rfl,_,World.drewN_drewN _ _ _⟩|exact ⟨rfl,_,Eq.trans (World.drewN_drewN _ _ _) (congrArg (World.drewN _) (Nat.add_assoc _ _ _))⟩)));try go_wp2_with (first|(go_at_call 37;(with_reducible refine (slices_Contains_int_int.calls k4 _ _ (rd_L1 l0_0 jf_) ((rd_T55 l1 (ji41)).f0) false _ ?side1 ?side2 A44.out).mono ?_);(case side1=>repeat (first|exact (Kd.C_below jy_.out HB.out)|(with_reducible refine Kd.C_alloc ?_ _)|(with_reducible refine Kd.C_drewN ?_ _)|(with_reducible refine Kd.C_drew ?_)));(case side2=>exact jz_.out);rintro e w' ⟨rfl,⟨nd,rfl⟩⟩;(try first|exact ⟨rfl,_,World.drewN_drewN _ _ _⟩|exact ⟨rfl,_,Eq.trans (World.drewN_drewN _ _ _) (congrArg (World.drewN _) (Nat.add_assoc _ _ _))⟩))))
                  go_ret
                  exact ⟨by first|rfl|(simp [errW_none,errW_some]<;>rfl)|(simp only [← j18];first|rfl|(simp [errW_none,errW_some]<;>rfl))|(simp [*,errW_none,errW_some]<;>rfl),by repeat (first|(with_reducible first|exact HB.out|apply below_alloc|apply pw_below_drewN|apply below_drew1|refine below_set ?_ j7_.out)|exact HB.out)⟩
                ·
                 rw [if_neg c43] at H
                 exact absurd H (by simp)
               ·
                rw [if_neg c42] at H
                exact absurd H (by simp)
              ·
               rw [if_neg c40] at H
               exact absurd H (by simp)
             ·
              rw [if_neg c39] at H
              exact absurd H (by simp)
            ·
             rw [if_neg c38] at H
             have c38b0:decide (jf_<(l0_0.length:Int))=false:=decide_eq_false c38
             clear c38
             have H':=Aside0.mk H
             clear H
             have hcz46_0:wr.cell? ⟨j6_,0,none⟩=some (.slice A0_0 l0_0.length c0_0):=(blk_cell j2_.out 0).trans rfl
             have hcz46_1:wr.cell? ⟨j6_,1,none⟩=some (.slice A0_1 l0_1.length c0_1):=(blk_cell j2_.out 1).trans rfl
             have hcz46_2:wr.cell? ⟨j6_,2,none⟩=some (.slice A0_2 l0_2.length c0_2):=(blk_cell j2_.out 2).trans rfl
             have hcz46_3:wr.cell? ⟨j6_,3,none⟩=some (.slice A0_3 l0_3.length c0_3):=(blk_cell j2_.out 3).trans rfl
             have hcz46_4:wr.cell? ⟨j6_,4,none⟩=some (.slice A0_4 l0_4.length c0_4):=(blk_cell j2_.out 4).trans rfl
             have hfz46_0:=blk_frozen j2_.out 0
             have hfz46_1:=blk_frozen j2_.out 1
             have hfz46_2:=blk_frozen j2_.out 2
             have hfz46_3:=blk_frozen j2_.out 3
             have hfz46_4:=blk_frozen j2_.out 4
             go_wp2
             repeat (go_quiet (fail);try go_wp2)
             go_loopg [102] k4 (fun kq v102 w'=>∃ (ja_:Int),v102=.int .i64 ja_∧Aside0 (rules_Match.l2 kq l1 (wrap64 (a2+(l0_1.length:Int))) l0_2 (l0_2.length:Int) ja_=some r)∧Aside0 (kq≤k4)∧Aside0 (w'.heap[j6_]?=some (.cells #[(.slice A0_0 l0_0.length c0_0),(.slice A0_1 l0_1.length c0_1),(.slice A0_2 l0_2.length c0_2),(.slice A0_3 l0_3.length c0_3),(.slice A0_4 l0_4.length c0_4)] 49 (0,0)))∧Aside0 (Below w.heap.size w w'))
             case atStart=>exact ⟨(0),za76,H',⟨Nat.le_refl _⟩,⟨by (with_reducible repeat (first|refine blk_drewN ?_ _|refine blk_drew ?_|refine blk_alloc ?_ _));exact j2_.out⟩,⟨by repeat (first|(with_reducible first|exact HB.out|apply below_alloc|apply pw_below_drewN|apply below_drew1|refine below_set ?_ j7_.out)|exact HB.out)⟩⟩
             case round =>
              clear H'
              try clear c1
              try clear p1
              try clear q1
              try clear hx1
              try clear c2
              try clear p2
              try clear c3
              try clear c4
              try clear c6
              try clear c6b0
              try clear p6
              try clear c7
              try clear c7b0
              try clear c9
              try clear c12
              try clear c12b0
              try clear p12
              try clear q12
              try clear hx12
              try clear c13
              try clear p13
              try clear q13
              try clear hx13
              try clear c15
              try clear c17
              try clear c17b0
              try clear c18
              try clear c18b0
              try clear c19
              try clear c19b0
              try clear c21
              try clear c21b0
              try clear c22
              try clear c22b0
              try clear c23
              try clear c23b0
              try clear c24
              try clear c24b0
              try clear c25
              try clear c25b0
              try clear c25b1
              try clear c27
              try clear c29
              try clear c32
              try clear c35
              try clear c38
              try clear c38b0
              try clear c39
              try clear c39b0
              try clear c40
              try clear c40b0
              try clear c42
              try clear c42b0
              try clear c43
              try clear c43b0
              try clear c45
              try clear hcz11_0
              try clear hcz11_1
              try clear hcz11_2
              try clear hcz11_3
              try clear hcz11_4
              try clear hcz13_0
              try clear hcz13_1
              try clear hcz13_2
              try clear hcz13_3
              try clear hcz13_4
              try clear hcz14_0
              try clear hcz14_1
              try clear hcz14_2
              try clear hcz14_3
              try clear hcz14_4
              try clear hcz16_0
              try clear hcz16_1
              try clear hcz16_2
              try clear hcz16_3
              try clear hcz16_4
              try clear hcz30_0
              try clear hcz30_1
              try clear hcz33_0
              try clear hcz33_1
              try clear hcz36_0
              try clear hcz36_1
              try clear hcz37_0
              try clear hcz37_1
              try clear hcz37_2
              try clear hcz37_3
              try clear hcz37_4
              try clear hcz46_0
              try clear hcz46_1
              try clear hcz46_2
              try clear hcz46_3
              try clear hcz46_4
              try clear hcz8_0
              try clear hcz8_1
              try clear hcz8_2
              try clear hcz8_3
              try clear hcz8_4
              try clear hfz11_0
              try clear hfz11_1
              try clear hfz11_2
              try clear hfz11_3
              try clear hfz11_4
              try clear hfz13_0
              try clear hfz13_1
              try clear hfz13_2
              try clear hfz13_3
              try clear hfz13_4
              try clear hfz14_0
              try clear hfz14_1
              try clear hfz14_2
              try clear hfz14_3
              try clear hfz14_4
              try clear hfz16_0
              try clear hfz16_1
              try clear hfz16_2
              try clear hfz16_3
              try clear hfz16_4
              try clear hfz30_0
              try clear hfz30_1
              try clear hfz33_0
              try clear hfz33_1
              try clear hfz36_0
              try clear hfz36_1
              try clear hfz37_0
              try clear hfz37_1
              try clear hfz37_2
              try clear hfz37_3
              try clear hfz37_4
              try clear hfz46_0
              try clear hfz46_1
              try clear hfz46_2
              try clear hfz46_3
              try clear hfz46_4
              try clear hfz8_0
              try clear hfz8_1
              try clear hfz8_2
              try clear hfz8_3
              try clear hfz8_4
              try clear ji_
              try clear jj_
              try clear jk_
              try clear j1_
              try clear j3_
              try clear jv_
              try clear jw_
              try clear jx_
              try clear p1
              try clear p12
              try clear p129
              try clear p13
              try clear p130
              try clear p132
              try clear p134
              try clear p135
              try clear p2
              try clear p6
              try clear q1
              try clear q12
              try clear q129
              try clear q13
              try clear q130
              try clear q132
              try clear q134
              try clear q135
              obtain ⟨ja_,rfl,HA,HK5,j2_,HB⟩:=hrel
              cases gk with
              | zero=>exact absurd HA.out (by simp [rules_Match.l2])
              | succ k5 =>
               have H:=HA.out
               clear HA
               simp only [rules_Match.l2] at H
               by_cases c47:ja_<(l0_2.length:Int)
               ·
                rw [if_pos c47] at H
                have c47b0:decide (ja_<(l0_2.length:Int))=true:=decide_eq_true c47
                clear c47
                by_cases c48:0≤ja_
                ·
                 rw [if_pos c48] at H
                 have c48b0:decide (0≤ja_)=true:=decide_eq_true c48
                 clear c48
                 by_cases c49:ja_<(l0_2.length:Int)
                 ·
                  rw [if_pos c49] at H
                  have c49b0:decide (ja_<(l0_2.length:Int))=true:=decide_eq_true c49
                  clear c49
                  obtain ⟨ji50,j19⟩:∃ j_:Int,(wrap64 ((wrap64 (a2+(l0_1.length:Int)))+ja_))=j_:=⟨_,rfl⟩
                  replace H:(if 0≤(ji50) then (if (ji50)<(l1.length:Int) then ((slices_Contains_int_int.f k5 (rd_L1 l0_2 ja_) ((rd_T55 l1 (ji50)).f0)).bind fun t139=>(if t139=true then (rules_Match.l2 k5 l1 (wrap64 (a2+(l0_1.length:Int))) l0_2 (l0_2.length:Int) (wrap64 (ja_+1))) else (some false))) else (none)) else (none))=some r:=by first|(rw [j19] at H;exact H)|(simp only [j19] at H ⊢;exact H)
                  have hji50w:(IntKind.i64.wrap ((wrap64 (a2+(l0_1.length:Int)))+ja_))=ji50:=(i64_w _).trans j19
                  by_cases c51:0≤(ji50)
                  ·
                   rw [if_pos c51] at H
                   have c51b0:decide (0≤(ji50))=true:=decide_eq_true c51
                   clear c51
                   by_cases c52:(ji50)<(l1.length:Int)
                   ·
                    rw [if_pos c52] at H
                    have c52b0:decide ((ji50)<(l1.length:Int))=true:=decide_eq_true c52
                    clear c52
                    replace H:=Option.bind_eq_some_iff.mp H
                    obtain ⟨t139,A530,H⟩:=H
                    replace H:(if t139=true then (rules_Match.l2 k5 l1 (wrap64 (a2+(l0_1.length:Int))) l0_2 (l0_2.length:Int) (wrap64 (ja_+1))) else (some false))=some r:=H
                    have A53:=Aside0.mk A530
                    clear A530
                    by_cases c54:t139=true
                    ·
                     subst c54
                     have H1:(rules_Match.l2 k5 l1 (wrap64 (a2+(l0_1.length:Int))) l0_2 (l0_2.length:Int) (wrap64 (ja_+1)))=some r:=by rw [if_pos rfl] at H;exact H
                     clear H
                     have H:=H1
                     clear H1
                     have H':=Aside0.mk H
                     clear H
                     have p137:0≤(ja_:Int):=of_decide_eq_true za73
                     have q137:ja_<(l0_2.length:Int):=of_decide_eq_true za73
                     obtain ⟨j1k,j1g,j1h,e137,j10,hl137_0,hi137_0⟩:=at_L1 HR0_2.out ja_ p137 q137
                     cases e137
                     replace j10:=(HB.out.cell (World.block_lt_of_cell? w _ j10)).trans j10
                     have j11:=Aside0.mk hi137_0
                     have j12:=Aside0.mk hl137_0
                     clear hi137_0 hl137_0
                     replace p137:=eq_true p137
                     replace q137:=eq_true q137
                     have p138:0≤((ji50):Int):=of_decide_eq_true za73
                     have q138:(ji50)<(l1.length:Int):=of_decide_eq_true za73
                     obtain ⟨j1l,e138,j13,j14⟩:=at_T55 HR1.out (ji50) p138 q138
                     cases e138
                     replace j13:=(HB.out.cell (World.block_lt_of_cell? w _ j13)).trans j13
                     replace j14:=(HB.out.cell (World.block_lt_of_cell? w _ j14)).trans j14
                     replace p138:=eq_true p138
                     replace q138:=eq_true q138
                     go_wp2_with (first|(go_at_call 37;(with_reducible refine (slices_Contains_int_int.calls k5 _ _ (rd_L1 l0_2 ja_) ((rd_T55 l1 (ji50)).f0) true _ ?side1 ?side2 A53.out).mono ?_);(case side1=>repeat (first|exact (Kd.C_below j11.out HB.out)|(with_reducible refine Kd.C_alloc ?_ _)|(with_reducible refine Kd.C_drewN ?_ _)|(with_reducible refine Kd.C_drew ?_)));(case side2=>exact j12.out);rintro e w' ⟨rfl,⟨nd,rfl⟩⟩;(try first|exact ⟨rfl,_,World.drewN_drewN _ _ _⟩|exact ⟨rfl,_,Eq.trans (World.drewN_drewN _ _ _) (congrArg (World.drewN _) (Nat.add_assoc _ _ _))⟩)))
                     repeat (go_quiet (first|(go_at_call 37;(with_reducible refine (slices_Contains_int_int.calls k5 _ _ (rd_L1 l0_2 ja_) ((rd_T55 l1 (ji50)).f0) true _ ?side1 ?side2 A53.out).mono ?_);(case side1=>repeat (first|exact (Kd.C_below j11.out HB.out)|(with_reducible refine Kd.C_alloc ?_ _)|(with_reducible refine Kd.C_drewN ?_ _)|(with_reducible refine Kd.C_drew ?_)));(case side2=>exact j12.out);rintro e w' ⟨rfl,⟨nd,rfl⟩⟩;(try first|exact ⟨rfl,_,World.drewN_drewN _ _ _⟩|exact ⟨rfl,_,Eq.trans (World.drewN_drewN _ _ _) (congrArg (World.drewN _) (Nat.add_assoc _ _ _))⟩)));try go_wp2_with (first|(go_at_call 37;(with_reducible refine (slices_Contains_int_int.calls k5 _ _ (rd_L1 l0_2 ja_) ((rd_T55 l1 (ji50)).f0) true _ ?side1 ?side2 A53.out).mono ?_);(case side1=>repeat (first|exact (Kd.C_below j11.out HB.out)|(with_reducible refine Kd.C_alloc ?_ _)|(with_reducible refine Kd.C_drewN ?_ _)|(with_reducible refine Kd.C_drew ?_)));(case side2=>exact j12.out);rintro e w' ⟨rfl,⟨nd,rfl⟩⟩;(try first|exact ⟨rfl,_,World.drewN_drewN _ _ _⟩|exact ⟨rfl,_,Eq.trans (World.drewN_drewN _ _ _) (congrArg (World.drewN _) (Nat.add_assoc _ _ _))⟩))))
                     go_roundg k5
                     case measure=>have:=HJ3.out;have:=HJ9.out;have:=HK3.out;have:=HK4.out;have:=HK5.out;omega
                     case rel=>exact ⟨(wrap64 (ja_+1)),za76,H',⟨by have:=HJ3.out;have:=HJ9.out;have:=HK3.out;have:=HK4.out;have:=HK5.out;omega⟩,⟨by (with_reducible repeat (first|refine blk_drewN ?_ _|refine blk_drew ?_|refine blk_alloc ?_ _));exact j2_.out⟩,⟨by repeat (first|(with_reducible first|exact HB.out|apply below_alloc|apply pw_below_drewN|apply below_drew1|refine below_set ?_ j7_.out)|exact HB.out)⟩⟩
                    ·
                     replace c54:=Bool.eq_false_iff.mpr c54
                     subst c54
                     have H1:(some false)=some r:=by rw [if_neg (show ¬ (false=true) by decide)] at H;exact H
                     clear H
                     have H:=H1
                     clear H1
                     obtain rfl:=Option.some.inj H
                     have p137:0≤(ja_:Int):=of_decide_eq_true za73
                     have q137:ja_<(l0_2.length:Int):=of_decide_eq_true za73
                     obtain ⟨j1k,j1g,j1h,e137,j10,hl137_0,hi137_0⟩:=at_L1 HR0_2.out ja_ p137 q137
                     cases e137
                     replace j10:=(HB.out.cell (World.block_lt_of_cell? w _ j10)).trans j10
                     have j11:=Aside0.mk hi137_0
                     have j12:=Aside0.mk hl137_0
                     clear hi137_0 hl137_0
                     replace p137:=eq_true p137
                     replace q137:=eq_true q137
                     have p138:0≤((ji50):Int):=of_decide_eq_true za73
                     have q138:(ji50)<(l1.length:Int):=of_decide_eq_true za73
                     obtain ⟨j1l,e138,j13,j14⟩:=at_T55 HR1.out (ji50) p138 q138
                     cases e138
                     replace j13:=(HB.out.cell (World.block_lt_of_cell? w _ j13)).trans j13
                     replace j14:=(HB.out.cell (World.block_lt_of_cell? w _ j14)).trans j14
                     replace p138:=eq_true p138
                     replace q138:=eq_true q138
                     go_wp2_with (first|(go_at_call 37;(with_reducible refine (slices_Contains_int_int.calls k5 _ _ (rd_L1 l0_2 ja_) ((rd_T55 l1 (ji50)).f0) false _ ?side1 ?side2 A53.out).mono ?_);(case side1=>repeat (first|exact (Kd.C_below j11.out HB.out)|(with_reducible refine Kd.C_alloc ?_ _)|(with_reducible refine Kd.C_drewN ?_ _)|(with_reducible refine Kd.C_drew ?_)));(case side2=>exact j12.out);rintro e w' ⟨rfl,⟨nd,rfl⟩⟩;(try first|exact ⟨rfl,_,World.drewN_drewN _ _ _⟩|exact ⟨rfl,_,Eq.trans (World.drewN_drewN _ _ _) (congrArg (World.drewN _) (Nat.add_assoc _ _ _))⟩)))
                     repeat (go_quiet (first|(go_at_call 37;(with_reducible refine (slices_Contains_int_int.calls k5 _ _ (rd_L1 l0_2 ja_) ((rd_T55 l1 (ji50)).f0) false _ ?side1 ?side2 A53.out).mono ?_);(case side1=>repeat (first|exact (Kd.C_below j11.out HB.out)|(with_reducible refine Kd.C_alloc ?_ _)|(with_reducible refine Kd.C_drewN ?_ _)|(with_reducible refine Kd.C_drew ?_)));(case side2=>exact j12.out);rintro e w' ⟨rfl,⟨nd,rfl⟩⟩;(try first|exact ⟨rfl,_,World.drewN_drewN _ _ _⟩|exact ⟨rfl,_,Eq.trans (World.drewN_drewN _ _ _) (congrArg (World.drewN _) (Nat.add_assoc _ _ _))⟩)));try go_wp2_with (first|(go_at_call 37;(with_reducible refine (slices_Contains_int_int.calls k5 _ _ (rd_L1 l0_2 ja_) ((rd_T55 l1 (ji50)).f0) false _ ?side1 ?side2 A53.out).mono ?_);(case side1=>repeat (first|exact (Kd.C_below j11.out HB.out)|(with_reducible refine Kd.C_alloc ?_ _)|(with_reducible refine Kd.C_drewN ?_ _)|(with_reducible refine Kd.C_drew ?_)));(case side2=>exact j12.out);rintro e w' ⟨rfl,⟨nd,rfl⟩⟩;(try first|exact ⟨rfl,_,World.drewN_drewN _ _ _⟩|exact ⟨rfl,_,Eq.trans (World.drewN_drewN _ _ _) (congrArg (World.drewN _) (Nat.add_assoc _ _ _))⟩))))
                     go_ret
                     exact ⟨by first|rfl|(simp [errW_none,errW_some]<;>rfl)|(simp only [← j19];first|rfl|(simp [errW_none,errW_some]<;>rfl))|(simp [*,errW_none,errW_some]<;>rfl),by repeat (first|(with_reducible first|exact HB.out|apply below_alloc|apply pw_below_drewN|apply below_drew1|refine below_set ?_ j7_.out)|exact HB.out)⟩
                   ·
                    rw [if_neg c52] at H
                    exact absurd H (by simp)
                  ·
                   rw [if_neg c51] at H
                   exact absurd H (by simp)
                 ·
                  rw [if_neg c49] at H
                  exact absurd H (by simp)
                ·
                 rw [if_neg c48] at H
                 exact absurd H (by simp)
               ·
                rw [if_neg c47] at H
                have c47b0:decide (ja_<(l0_2.length:Int))=false:=decide_eq_false c47
                clear c47
                obtain rfl:=Option.some.inj H
                go_wp2
                repeat (go_quiet (fail);try go_wp2)
                go_ret
                exact ⟨by first|rfl|(simp [errW_none,errW_some]<;>rfl)|(simp [*,errW_none,errW_some]<;>rfl),by repeat (first|(with_reducible first|exact HB.out|apply below_alloc|apply pw_below_drewN|apply below_drew1|refine below_set ?_ j7_.out)|exact HB.out)⟩
end Go.Proofs.Ytlgkeaildncojaa.Q
end
section
namespace Go.Proofs.Ytlgkeaildncojaa.Q
open Go.RowKit Go.Shelf Go.Proofs.YtlgkeaildncojaaW.PrintWords Go.Proofs.YtlgkeaildncojaaW.PrintLast Go.Proofs.YtlgkeaildncojaaW.PrintMore
set_option linter.unusedSimpArgs false
set_option linter.unusedVariables false
set_option linter.unusedSectionVars false
def hasP (l:List Int) (a:Int):Bool:=l.any (fun y=>decide (a=y))
theorem dropL (l:List (List Int)) (j:Nat) (h:j<l.length):l.drop j=l.getD j [] :: l.drop (j+1):=by
 rw [List.drop_eq_getElem_cons h,List.getD_eq_getElem?_getD,List.getElem?_eq_getElem h]
 rfl
theorem idx_ev (l:List Int) (hl:l.length≤9223372036854775807) (a:Int):∀ (d i:Nat),i+d=l.length→Ev (fun k=>slices_Index_int_int.l0 k l a (l.length:Int) (i:Int)) (fidx (fun y=>decide (a=y)) (l.drop i) i):=by
 intro d
 induction d with
 | zero =>
  intro i h
  rw [List.drop_of_length_le (by omega)]
  refine Ev.step (fun k=>by rw [slices_Index_int_int.l0,if_neg (by omega)]) ?_
  exact Ev.now _
 | succ d ih =>
  intro i h
  have h2:=ih (i+1) (by omega)
  rw [fidx_step (fun y=>decide (a=y)) l i 0 (by omega)]
  have q0:(i:Int)<(l.length:Int):=by omega
  have q1:(0:Int)≤(i:Int):=by omega
  have hw:wrap64 ((i:Int)+1)=((i+1:Nat):Int):=by rw [wr64 _ (by omega) (by omega)];omega
  refine Ev.step (fun k=>by rw [slices_Index_int_int.l0,if_pos q0,if_pos q1,if_pos q0,rdN,hw]) ?_
  by_cases hc:a=l.getD i 0
  ·
   rw [if_pos (decide_eq_true hc)]
   exact Ev.congr (fun k=>by rw [if_pos hc]) (Ev.now _)
  ·
   rw [if_neg (by simpa using hc)]
   exact Ev.congr (fun k=>by rw [if_neg hc]) h2
theorem has_ev (l:List Int) (hl:l.length≤9223372036854775807) (a:Int):Ev (fun k=>slices_Contains_int_int.f k l a) (hasP l a):=by
 unfold slices_Contains_int_int.f slices_Index_int_int.f
 have h:=idx_ev l hl a l.length 0 (by omega)
 refine Ev.bind (g:=fun k=>slices_Index_int_int.l0 k l a (l.length:Int) 0) h ?_
 have h2:=fidx_any (fun y=>decide (a=y)) l 0
 rw [List.drop_zero]
 unfold hasP
 rw [← h2]
 exact Ev.now _
def inP (its:List S55) (c:Int):Nat→List (List Int)→Bool
 | _,[]=>true
 | i,s :: t=>if (its.getD i z55).f1=c then (if hasP s (its.getD i z55).f0=true then inP its c (i+1) t else false) else false
def backP (its:List S55):Nat→List (List Int)→Bool
 | _,[]=>true
 | i,s :: t=>if hasP s (its.getD (i - 1) z55).f0=true then backP its (i - 1) t else false
def aheadP (its:List S55):Nat→List (List Int)→Bool
 | _,[]=>true
 | i,s :: t=>if hasP s (its.getD i z55).f0=true then aheadP its (i+1) t else false
def matchP (r:S49) (its:List S55) (at_:Int):Bool :=
 if at_<0∨at_ ≥ (its.length:Int)∨r.f1.length=0∨at_+(r.f1.length:Int)+(r.f2.length:Int) > (its.length:Int)∨at_<(r.f0.length:Int) then false
 else inP its (its.getD at_.toNat z55).f1 at_.toNat r.f1&&(backP its at_.toNat r.f0&&aheadP its (at_.toNat+r.f1.length) r.f2)
theorem rd55 (its:List S55) (i:Nat):rd_T55 its (i:Int)=its.getD i z55:=by
 unfold rd_T55
 rw [Int.toNat_natCast]
theorem rdL1 (l:List (List Int)) (i:Nat):rd_L1 l (i:Int)=l.getD i []:=by
 unfold rd_L1
 rw [Int.toNat_natCast]
section
variable (f0 f1 f2:List (List Int)) (f3:List Int) (f4:List S60) (its:List S55)
 (b0:f0.length≤1000) (b1:f1.length≤1000) (b2:f2.length≤1000) (bi:its.length≤1000000)
 (m0:∀ s∈f0,s.length≤9223372036854775807) (m1:∀ s∈f1,s.length≤9223372036854775807) (m2:∀ s∈f2,s.length≤9223372036854775807)
include b0 b1 b2 bi m0 m1 m2
theorem ahead_ev (bh:Nat) (hb:bh+f2.length≤its.length):∀ (d j:Nat),j+d=f2.length→Ev (fun k=>rules_Match.l2 k its (bh:Int) f2 (f2.length:Int) (j:Int)) (aheadP its (bh+j) (f2.drop j)):=by
 intro d
 induction d with
 | zero =>
  intro j h
  rw [List.drop_of_length_le (by omega)]
  refine Ev.step (fun k=>by rw [rules_Match.l2,if_neg (by omega)]) ?_
  exact Ev.now _
 | succ d ih =>
  intro j h
  have h2:=ih (j+1) (by omega)
  rw [dropL f2 j (by omega),aheadP]
  have q0:(j:Int)<(f2.length:Int):=by omega
  have q1:(0:Int)≤(j:Int):=by omega
  have hw:wrap64 ((bh:Int)+(j:Int))=((bh+j:Nat):Int):=by rw [wr64 _ (by omega) (by omega)];omega
  have q2:(0:Int)≤((bh+j:Nat):Int):=by omega
  have q3:((bh+j:Nat):Int)<(its.length:Int):=by omega
  have hw2:wrap64 ((j:Int)+1)=((j+1:Nat):Int):=by rw [wr64 _ (by omega) (by omega)];omega
  refine Ev.step (fun k=>by rw [rules_Match.l2,if_pos q0,if_pos q1,if_pos q0,hw,if_pos q2,if_pos q3,rd55,rdL1,hw2]) ?_
  refine Ev.bind (g:=fun k=>slices_Contains_int_int.f k (f2.getD j []) (its.getD (bh+j) z55).f0) (has_ev _ (m2 _ (getD_in f2 j [] (by omega))) _) ?_
  by_cases hc:hasP (f2.getD j []) (its.getD (bh+j) z55).f0=true
  ·
   rw [if_pos hc]
   exact Ev.congr (fun k=>by rw [if_pos hc]) h2
  ·
   rw [if_neg hc]
   exact Ev.congr (fun k=>by rw [if_neg hc]) (Ev.now _)
theorem back_ev (a bh:Nat) (R:Bool) (ha:f0.length≤a) (hi:a<its.length) (hc:Ev (fun k=>rules_Match.l2 k its (bh:Int) f2 (f2.length:Int) 0) R):∀ (d j:Nat),j+d=f0.length →
  Ev (fun k=>rules_Match.l1 k its (a:Int) (bh:Int) f0 (f0.length:Int) (j:Int) f0 f1 f2 f3 f4) (backP its (a - j) (f0.drop j)&&R):=by
 intro d
 induction d with
 | zero =>
  intro j h
  rw [List.drop_of_length_le (by omega)]
  refine Ev.step (fun k=>by rw [rules_Match.l1,if_neg (by omega)]) ?_
  exact hc
 | succ d ih =>
  intro j h
  have h2:=ih (j+1) (by omega)
  rw [dropL f0 j (by omega),backP,show a - j - 1=a - (j+1) by omega]
  have q0:(j:Int)<(f0.length:Int):=by omega
  have q1:(0:Int)≤(j:Int):=by omega
  have hw0:wrap64 ((a:Int) - 1)=(a:Int) - 1:=wr64 _ (by omega) (by omega)
  have hw:wrap64 ((a:Int) - 1 - (j:Int))=((a - (j+1):Nat):Int):=by rw [wr64 _ (by omega) (by omega)];omega
  have q2:(0:Int)≤((a - (j+1):Nat):Int):=by omega
  have q3:((a - (j+1):Nat):Int)<(its.length:Int):=by omega
  have hw2:wrap64 ((j:Int)+1)=((j+1:Nat):Int):=by rw [wr64 _ (by omega) (by omega)];omega
  refine Ev.step (fun k=>by rw [rules_Match.l1,if_pos q0,if_pos q1,if_pos q0,hw0,hw,if_pos q2,if_pos q3,rd55,rdL1,hw2]) ?_
  refine Ev.bind (g:=fun k=>slices_Contains_int_int.f k (f0.getD j []) (its.getD (a - (j+1)) z55).f0) (has_ev _ (m0 _ (getD_in f0 j [] (by omega))) _) ?_
  by_cases hc:hasP (f0.getD j []) (its.getD (a - (j+1)) z55).f0=true
  ·
   rw [if_pos hc]
   exact Ev.congr (fun k=>by rw [if_pos hc]) h2
  ·
   rw [if_neg hc,Bool.false_and]
   exact Ev.congr (fun k=>by rw [if_neg hc]) (Ev.now _)
theorem in_ev (a bh:Nat) (R:Bool) (hi:a+f1.length≤its.length) (ha:a<its.length) (hc:Ev (fun k=>rules_Match.l1 k its (a:Int) (bh:Int) f0 (f0.length:Int) 0 f0 f1 f2 f3 f4) R):∀ (d j:Nat),j+d=f1.length →
  Ev (fun k=>rules_Match.l0 k its (a:Int) (bh:Int) f1 (f1.length:Int) (j:Int) f0 f1 f2 f3 f4) (inP its (its.getD a z55).f1 (a+j) (f1.drop j)&&R):=by
 intro d
 induction d with
 | zero =>
  intro j h
  rw [List.drop_of_length_le (by omega)]
  refine Ev.step (fun k=>by rw [rules_Match.l0,if_neg (by omega)]) ?_
  exact hc
 | succ d ih =>
  intro j h
  have h2:=ih (j+1) (by omega)
  rw [dropL f1 j (by omega),inP]
  have q0:(j:Int)<(f1.length:Int):=by omega
  have q1:(0:Int)≤(j:Int):=by omega
  have hw:wrap64 ((a:Int)+(j:Int))=((a+j:Nat):Int):=by rw [wr64 _ (by omega) (by omega)];omega
  have q2:(0:Int)≤((a+j:Nat):Int):=by omega
  have q3:((a+j:Nat):Int)<(its.length:Int):=by omega
  have q4:(0:Int)≤(a:Int):=by omega
  have q5:(a:Int)<(its.length:Int):=by omega
  have hw2:wrap64 ((j:Int)+1)=((j+1:Nat):Int):=by rw [wr64 _ (by omega) (by omega)];omega
  refine Ev.step (fun k=>by rw [rules_Match.l0,if_pos q0,if_pos q1,if_pos q0,hw,if_pos q2,if_pos q3,if_pos q4,if_pos q5,rd55,rd55,rdL1,hw2]) ?_
  by_cases hx:(its.getD (a+j) z55).f1=(its.getD a z55).f1
  ·
   rw [if_pos hx]
   refine Ev.congr (fun k=>by rw [if_pos hx]) ?_
   refine Ev.bind (g:=fun k=>slices_Contains_int_int.f k (f1.getD j []) (its.getD (a+j) z55).f0) (has_ev _ (m1 _ (getD_in f1 j [] (by omega))) _) ?_
   by_cases hc:hasP (f1.getD j []) (its.getD (a+j) z55).f0=true
   ·
    rw [if_pos hc]
    exact Ev.congr (fun k=>by rw [if_pos hc]) h2
   ·
    rw [if_neg hc,Bool.false_and]
    exact Ev.congr (fun k=>by rw [if_neg hc]) (Ev.now _)
  ·
   rw [if_neg hx,Bool.false_and]
   exact Ev.congr (fun k=>by rw [if_neg hx]) (Ev.now _)
theorem match_ev (at_:Int) (hat:at_≤1000000000):Ev (fun k=>rules_Match.f k f0 f1 f2 f3 f4 its at_) (matchP ⟨f0,f1,f2,f3,f4⟩ its at_):=by
 unfold matchP rules_Match.f
 dsimp only
 have stop:Ev (fun k=>rules_Match.j0 k its at_ true f0 f1 f2 f3 f4) false:=by
  refine Ev.step (fun k=>by rw [rules_Match.j0,if_pos rfl]) ?_
  exact Ev.now _
 by_cases h1:at_<0
 ·
  rw [if_pos (.inl h1)]
  exact Ev.congr (fun k=>by rw [if_pos h1]) stop
 by_cases h2:at_ ≥ (its.length:Int)
 ·
  rw [if_pos (.inr (.inl h2))]
  exact Ev.congr (fun k=>by rw [if_neg h1,if_pos h2]) stop
 refine Ev.congr (fun k=>by rw [if_neg h1,if_neg h2]) ?_
 by_cases h3:f1.length=0
 ·
  rw [if_pos (.inr (.inr (.inl h3)))]
  refine Ev.congr (fun k=>by rw [show ((f1.length:Int)==0)=true from beq_iff_eq.mpr (by omega)]) stop
 have e3:((f1.length:Int)==0)=false:=beq_eq_false_iff_ne.mpr (by omega)
 obtain ⟨a,rfl⟩:=Int.eq_ofNat_of_zero_le (show 0≤at_ by omega)
 have hw1:wrap64 (((a:Nat):Int)+(f1.length:Int))=((a+f1.length:Nat):Int):=by rw [wr64 _ (by omega) (by omega)];omega
 have hw2:wrap64 (((a+f1.length:Nat):Int)+(f2.length:Int))=((a+f1.length+f2.length:Nat):Int):=by rw [wr64 _ (by omega) (by omega)];omega
 refine Ev.step (fun k=>by rw [e3,rules_Match.j0,if_neg (by decide),hw1,hw2]) ?_
 have stop1:Ev (fun k=>rules_Match.j1 k its (a:Int) ((a+f1.length:Nat):Int) true f0 f1 f2 f3 f4) false:=by
  refine Ev.step (fun k=>by rw [rules_Match.j1,if_pos rfl]) ?_
  exact Ev.now _
 by_cases h4:a+f1.length+f2.length > its.length
 ·
  have q:((a+f1.length+f2.length:Nat):Int) > (its.length:Int):=by omega
  rw [if_pos (by omega)]
  exact Ev.congr (fun k=>by rw [if_pos q]) stop1
 have q4:¬ ((a+f1.length+f2.length:Nat):Int) > (its.length:Int):=by omega
 refine Ev.congr (fun k=>by rw [if_neg q4]) ?_
 by_cases h5:a<f0.length
 ·
  rw [if_pos (by omega)]
  exact Ev.congr (fun k=>by rw [show decide ((a:Int)<(f0.length:Int))=true from decide_eq_true (by omega)]) stop1
 have e5:decide ((a:Int)<(f0.length:Int))=false:=decide_eq_false (by omega)
 rw [if_neg (by omega)]
 refine Ev.step (fun k=>by rw [e5,rules_Match.j1,if_neg (by decide)]) ?_
 have hA:=ahead_ev f0 f1 f2 its b0 b1 b2 bi m0 m1 m2 (a+f1.length) (by omega) f2.length 0 (by omega)
 have hB:=back_ev f0 f1 f2 f3 f4 its b0 b1 b2 bi m0 m1 m2 a (a+f1.length) _ (by omega) (by omega) hA f0.length 0 (by omega)
 have hC:=in_ev f0 f1 f2 f3 f4 its b0 b1 b2 bi m0 m1 m2 a (a+f1.length) _ (by omega) (by omega) hB f1.length 0 (by omega)
 exact hC
end
end Go.Proofs.Ytlgkeaildncojaa.Q
end
section
namespace Go.Proofs.Ytlgkeaildncojaa.Q
open Go.RowKit Go.Shelf Go.Proofs.YtlgkeaildncojaaW.PrintWords Go.Proofs.YtlgkeaildncojaaW.PrintLast Go.Proofs.YtlgkeaildncojaaW.PrintMore
set_option linter.unusedSimpArgs false
set_option linter.unusedVariables false
def Res.bag (M:List Res):Res:=⟨fun W ok=>∃ F:Nat→Nat,∀ (i:Nat) (r:Res),M[i]?=some r→r.P W (fun k=>ok k∧F k=i),fun {W W' ok ok'} h hm=>by
 obtain ⟨F,h⟩:=h
 exact ⟨F,fun i r hi=>r.move (h i r hi) (fun k hk hl hs=>⟨(hm k hk.1 hl hs).1,(hm k hk.1 hl hs).2,hk.2⟩)⟩⟩
theorem Own.bag {w W:World} {K:Nat→Obj→Prop} (L M:List Res) (h:Own w W (L++M) K):Own w W (L++[.bag M]) K:=by
 obtain ⟨h1,hk0,F,h2⟩:=h
 refine ⟨h1,hk0,fun k=>if F k<L.length then F k else L.length,fun i r hi=>?_⟩
 by_cases hil:i<L.length
 ·
  rw [List.getElem?_append_left hil] at hi
  refine r.move (h2 i r (by rw [List.getElem?_append_left hil];exact hi)) (fun k hk hl _=>⟨rfl,hk.1,?_⟩)
  dsimp only
  rw [if_pos (by omega)]
  exact hk.2
 ·
  have hii:i=L.length:=by
   have:=(List.getElem?_eq_some_iff.mp hi).1
   rw [List.length_append,List.length_singleton] at this
   omega
  subst hii
  rw [List.getElem?_append_right (Nat.le_refl _),Nat.sub_self] at hi
  injection hi with hi
  subst hi
  refine ⟨fun k=>F k - L.length,fun j q hj=>?_⟩
  have hq:=h2 (L.length+j) q (by rw [List.getElem?_append_right (by omega),Nat.add_sub_cancel_left];exact hj)
  refine q.move hq (fun k hk hl _=>⟨rfl,⟨hk.1,?_⟩,?_⟩)
  ·
   dsimp only
   rw [if_neg (by omega)]
  ·
   dsimp only
   omega
theorem Own.unbag {w W:World} {K:Nat→Obj→Prop} (L M:List Res) (h:Own w W (L++[.bag M]) K):Own w W (L++M) K:=by
 obtain ⟨h1,hk0,F,h2⟩:=h
 obtain ⟨G,hG⟩:=h2 L.length (.bag M) (by rw [List.getElem?_append_right (Nat.le_refl _),Nat.sub_self];rfl)
 refine ⟨h1,hk0,fun k=>if F k<L.length then F k else L.length+G k,fun i r hi=>?_⟩
 by_cases hil:i<L.length
 ·
  rw [List.getElem?_append_left hil] at hi
  refine r.move (h2 i r (by rw [List.getElem?_append_left hil];exact hi)) (fun k hk hl _=>⟨rfl,hk.1,?_⟩)
  dsimp only
  rw [if_pos (by omega)]
  exact hk.2
 ·
  rw [List.getElem?_append_right (by omega)] at hi
  refine r.move (hG (i - L.length) r hi) (fun k hk hl _=>⟨rfl,hk.1.1,?_⟩)
  dsimp only
  have:=hk.1.2
  have:=hk.2
  rw [if_neg (by omega)]
  omega
end Go.Proofs.Ytlgkeaildncojaa.Q
end
section
set_option linter.unusedVariables false
namespace Go.Proofs.Ytlgkeaildncojaa.Q
open Go.RowKit Go.Proofs.YtlgkeaildncojaaW.PrintWords Go.Proofs.YtlgkeaildncojaaW.PrintLast Go.Proofs.YtlgkeaildncojaaW.PrintMore
section
variable {P:Program} {ops:Array Oper} {Q:Exit→Act→World→Prop} {md:Region.Mode} {lp n:Nat}
end
end Go.Proofs.Ytlgkeaildncojaa.Q
end
