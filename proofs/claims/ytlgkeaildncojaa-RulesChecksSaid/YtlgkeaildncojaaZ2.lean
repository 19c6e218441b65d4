/- Texts of this claim, merged by wip/tools/pack.py: Fnv. -/
import Derived.Test.YtlgkeaildncojaaZ1
section
namespace Go
theorem zhr {p:Prop}(h:p:=by first|(go_simp;done)|(go_simp;rfl)):p:=h
theorem za0 {p:Prop}(h:p:=by rw [hg];exact Nat.ne_of_lt (blk_lt (g:=j6_) (o:=.cells #[.slice A0_0 l0_0.length c0_0,.slice (some jd_) l0_1.length c0_1,.slice A0_2 l0_2.length c0_2,.slice A0_3 l0_3.length c0_3,.slice A0_4 l0_4.length c0_4] 49 (0,0)) (by (with_reducible repeat (first|refine blk_drewN ?_ _|refine blk_drew ?_|refine blk_alloc ?_ _));exact j2_.out))):p:=h
theorem za1 {p:Prop}(h:p:=by rw [hg];exact Nat.ne_of_gt (blk_lt (g:=j6_) (o:=.cells #[.slice A0_0 l0_0.length c0_0,.slice (some jd_) l0_1.length c0_1,.slice A0_2 l0_2.length c0_2,.slice A0_3 l0_3.length c0_3,.slice A0_4 l0_4.length c0_4] 49 (0,0)) (by (with_reducible repeat (first|refine blk_drewN ?_ _|refine blk_drew ?_|refine blk_alloc ?_ _));exact j2_.out))):p:=h
theorem za2 {p:Prop}(h:p:=by rw [hg];exact Nat.ne_of_lt (blk_lt (g:=j1_) (o:=.cells #[.slice A0_0 l0_0.length c0_0,.slice A0_1 l0_1.length c0_1,.slice A0_2 l0_2.length c0_2,.slice A0_3 l0_3.length c0_3,.slice (some je_) l0_4.length c0_4] 49 (0,0)) (by (with_reducible repeat (first|refine blk_drewN ?_ _|refine blk_drew ?_|refine blk_alloc ?_ _));exact j0_.out))):p:=h
theorem za3 {p:Prop}(h:p:=by rw [hg];exact Nat.ne_of_gt (blk_lt (g:=j1_) (o:=.cells #[.slice A0_0 l0_0.length c0_0,.slice A0_1 l0_1.length c0_1,.slice A0_2 l0_2.length c0_2,.slice A0_3 l0_3.length c0_3,.slice (some je_) l0_4.length c0_4] 49 (0,0)) (by (with_reducible repeat (first|refine blk_drewN ?_ _|refine blk_drew ?_|refine blk_alloc ?_ _));exact j0_.out))):p:=h
theorem za4 {p:Prop}(h:p:=by rw [hg];exact Nat.ne_of_lt (blk_lt (g:=gb50) (o:=.cells #[.slice A1_0 l1_0.length c1_0,.slice A1_1 l1_1.length c1_1,.slice A1_2 l1_2.length c1_2,.slice A1_3 l1_3.length c1_3,.slice A1_4 l1_4.length c1_4] 49 (0,0)) (by (with_reducible repeat (first|refine blk_drewN ?_ _|refine blk_drew ?_|refine blk_alloc ?_ _));exact BK50.out))):p:=h
theorem za5 {p:Prop}(h:p:=by rw [hg];exact Nat.ne_of_gt (blk_lt (g:=gb50) (o:=.cells #[.slice A1_0 l1_0.length c1_0,.slice A1_1 l1_1.length c1_1,.slice A1_2 l1_2.length c1_2,.slice A1_3 l1_3.length c1_3,.slice A1_4 l1_4.length c1_4] 49 (0,0)) (by (with_reducible repeat (first|refine blk_drewN ?_ _|refine blk_drew ?_|refine blk_alloc ?_ _));exact BK50.out))):p:=h
theorem za6 {p:Prop}(h:p:=by rw [hg];exact (below_size (by repeat (first|(with_reducible first|exact HB.out|apply below_alloc|apply pw_below_drewN|apply below_drew1|refine below_set ?_ GE50.out|refine below_set ?_ GE51.out|refine below_set ?_ GE52.out)|exact HB.out)))):p:=h
theorem za7 {p:Prop}(h:p:=by rw [hg];exact (below_size (by repeat (first|(with_reducible first|exact HB.out|apply below_alloc|apply pw_below_drewN|apply below_drew1|refine below_set ?_ jr_.out|refine below_set ?_ js_.out|refine below_set ?_ jt_.out)|exact HB.out)))):p:=h
theorem za8 {p:Prop}(h:p:=by repeat (first|(with_reducible first|exact HB.out|apply below_alloc|apply pw_below_drewN|apply below_drew1|refine below_set ?_ jr_.out|refine below_set ?_ js_.out|refine below_set ?_ jt_.out|refine below_set ?_ jw_.out)|exact HB.out)):p:=h
theorem za9 {p:Prop}(h:p:=by rw [hg];exact Nat.ne_of_lt (blk_lt (g:=j5_) (o:=.cells #[.slice (some ji_) l0_0.length c0_0] 24 (0,0)) (by (with_reducible repeat (first|refine blk_drewN ?_ _|refine blk_drew ?_|refine blk_alloc ?_ _));exact j4_.out))):p:=h
theorem za10 {p:Prop}(h:p:=by rw [hg];exact Nat.ne_of_gt (blk_lt (g:=j5_) (o:=.cells #[.slice (some ji_) l0_0.length c0_0] 24 (0,0)) (by (with_reducible repeat (first|refine blk_drewN ?_ _|refine blk_drew ?_|refine blk_alloc ?_ _));exact j4_.out))):p:=h
theorem za11 {p:Prop}(h:p:=by rw [hg];exact Nat.ne_of_lt (blk_lt (g:=j1_) (o:=.cells #[.slice A0_0 l0_0.length c0_0] 24 (0,0)) (by (with_reducible repeat (first|refine blk_drewN ?_ _|refine blk_drew ?_|refine blk_alloc ?_ _));exact j8_.out))):p:=h
theorem za12 {p:Prop}(h:p:=by rw [hg];exact Nat.ne_of_gt (blk_lt (g:=j1_) (o:=.cells #[.slice A0_0 l0_0.length c0_0] 24 (0,0)) (by (with_reducible repeat (first|refine blk_drewN ?_ _|refine blk_drew ?_|refine blk_alloc ?_ _));exact j8_.out))):p:=h
theorem za13 {p:Prop}(h:p:=by rw [hg];exact (below_size (by repeat (first|(with_reducible first|exact HB.out|apply below_alloc|apply pw_below_drewN|apply below_drew1|refine below_set ?_ jr_.out|refine below_set ?_ js_.out)|exact HB.out)))):p:=h
theorem za14 {p:Prop}(h:p:=by repeat (first|(with_reducible first|exact HB.out|apply below_alloc|apply pw_below_drewN|apply below_drew1|refine below_set ?_ GE50.out|refine below_set ?_ GE51.out|refine below_set ?_ GE52.out)|exact HB.out)):p:=h
theorem za15 {p:Prop}(h:p:=by rw [hg];exact Nat.ne_of_lt (blk_lt (g:=j2_) (o:=.cells #[.slice none 0 0] 24 (0,0)) (by (with_reducible repeat (first|refine blk_drewN ?_ _|refine blk_drew ?_|refine blk_alloc ?_ _));exact jf_.out))):p:=h
theorem za16 {p:Prop}(h:p:=by rw [hg];exact Nat.ne_of_gt (blk_lt (g:=j2_) (o:=.cells #[.slice none 0 0] 24 (0,0)) (by (with_reducible repeat (first|refine blk_drewN ?_ _|refine blk_drew ?_|refine blk_alloc ?_ _));exact jf_.out))):p:=h
theorem za17 {p:Prop}(h:p:=by rw [hg];exact Nat.ne_of_lt (blk_lt (g:=gb51) (o:=.cells #[.int .i64 a2] 3 (0,0)) (by (with_reducible repeat (first|refine blk_drewN ?_ _|refine blk_drew ?_|refine blk_alloc ?_ _));exact BK51.out))):p:=h
theorem za18 {p:Prop}(h:p:=by rw [hg];exact Nat.ne_of_gt (blk_lt (g:=gb51) (o:=.cells #[.int .i64 a2] 3 (0,0)) (by (with_reducible repeat (first|refine blk_drewN ?_ _|refine blk_drew ?_|refine blk_alloc ?_ _));exact BK51.out))):p:=h
theorem za19 {p:Prop}(h:p:=by rw [hg];exact Nat.ne_of_lt (blk_lt (g:=gb52) (o:=.cells #[.int .i64 a3] 3 (0,0)) (by (with_reducible repeat (first|refine blk_drewN ?_ _|refine blk_drew ?_|refine blk_alloc ?_ _));exact BK52.out))):p:=h
theorem za20 {p:Prop}(h:p:=by rw [hg];exact Nat.ne_of_gt (blk_lt (g:=gb52) (o:=.cells #[.int .i64 a3] 3 (0,0)) (by (with_reducible repeat (first|refine blk_drewN ?_ _|refine blk_drew ?_|refine blk_alloc ?_ _));exact BK52.out))):p:=h
theorem za21 {p:Prop}(h:p:=by first|exact HK.out.1|exact (show Kept w _ (fun k_=>P0_ k_) from by repeat (first|(with_reducible first|exact HK.out|apply Kept.alloc|apply Kept.drewN|apply Kept.drew)|exact HK.out)).1):p:=h
theorem za22 {p:Prop}(h:p:=by rw [hg];exact (below_size (by repeat (first|(with_reducible first|exact HB.out|apply below_alloc|apply pw_below_drewN|apply below_drew1|refine below_set ?_ j6_.out)|exact HB.out)))):p:=h
theorem za23 {p:Prop}(h:p:=by rw [hg];exact (below_size (by repeat (first|(with_reducible first|exact HB.out|apply below_alloc|apply pw_below_drewN|apply below_drew1|refine below_set ?_ j7_.out)|exact HB.out)))):p:=h
theorem za24 {p:Prop}(h:p:=by rw [hg];exact (below_size (by repeat (first|(with_reducible first|exact HB.out|apply below_alloc|apply pw_below_drewN|apply below_drew1|refine below_set ?_ jr_.out)|exact HB.out)))):p:=h
theorem za25 {p:Prop}(h:p:=by rw [hg];exact (below_size (by repeat (first|(with_reducible first|exact HB.out|apply below_alloc|apply pw_below_drewN|apply below_drew1|refine below_set ?_ j3_.out)|exact HB.out)))):p:=h
theorem za26 {p:Prop}(h:p:=by repeat (first|(with_reducible first|exact HB.out|apply below_alloc|apply pw_below_drewN|apply below_drew1|refine below_set ?_ j6_.out|refine below_set ?_ jp_.out)|exact HB.out)):p:=h
theorem za27 {p:Prop}(h:p:=by repeat (first|(with_reducible first|exact HB.out|apply below_alloc|apply pw_below_drewN|apply below_drew1|refine below_set ?_ j7_.out|refine below_set ?_ jn_.out)|exact HB.out)):p:=h
theorem za28 {p:Prop}(h:p:=by repeat (first|(with_reducible exact j4_.out)|(with_reducible refine Kd.C_alloc ?_ _)|(with_reducible refine Kd.C_drewN ?_ _)|(with_reducible refine Kd.C_drew ?_)|exact j4_.out)):p:=h
theorem za29 {p:Prop}(h:p:=by repeat (first|(with_reducible exact j5_.out)|(with_reducible refine Kd.C_alloc ?_ _)|(with_reducible refine Kd.C_drewN ?_ _)|(with_reducible refine Kd.C_drew ?_)|exact j5_.out)):p:=h
theorem za30 {p:Prop}(h:p:=by repeat (first|(with_reducible first|exact HB.out|apply below_alloc|apply pw_below_drewN|apply below_drew1|refine below_set ?_ (IsS104.ge HI0.out))|exact HB.out)):p:=h
theorem za31 {p:Prop}(h:p:=by rw [hg];exact (below_size (by repeat (first|(with_reducible first|exact HB.out|apply below_alloc|apply pw_below_drewN|apply below_drew1)|exact HB.out)))):p:=h
theorem za32 {p:Prop}(h:p:=by repeat (first|(with_reducible first|exact HB.out|apply below_alloc|apply pw_below_drewN|apply below_drew1|refine below_set ?_ j6_.out)|exact HB.out)):p:=h
theorem za33 {p:Prop}(h:p:=by repeat (first|(with_reducible first|exact HB.out|apply below_alloc|apply pw_below_drewN|apply below_drew1|refine below_set ?_ j7_.out)|exact HB.out)):p:=h
theorem za34 {p:Prop}(h:p:=by repeat (first|(with_reducible first|exact HB.out|apply below_alloc|apply pw_below_drewN|apply below_drew1|refine below_set ?_ j3_.out)|exact HB.out)):p:=h
theorem za35 {p:Prop}(h:p:=by repeat (first|(with_reducible first|exact HB.out|apply below_alloc|apply pw_below_drewN|apply below_drew1|refine below_set ?_ j2_.out)|exact HB.out)):p:=h
theorem za36 {p:Prop}(h:p:=by repeat (first|(with_reducible first|exact HB.out|apply below_alloc|apply pw_below_drewN|apply below_drew1|refine below_set ?_ jh_.out)|exact HB.out)):p:=h
theorem za37 {p:Prop}(h:p:=by repeat (first|(with_reducible first|exact HI0.out|apply IsS104.alloc|apply IsS104.drewN|apply IsS104.drew|apply IsS104.set_1)|exact HI0.out)):p:=h
theorem za38 {p:Prop}(h:p:=by repeat (first|(with_reducible first|exact HK.out|apply KeepBut.set_|apply keep_drewN|apply keep_drew|apply keep_alloc)|exact HK.out)):p:=h
theorem za39 {p:Prop}(h:p:=by (try simp only [List.map_toArray,List.map_cons,List.map_nil]);first|done|rfl|(simp only [List.length_drop,List.length_take];rfl)):p:=h
theorem za40 {p:Prop}(h:p:=by repeat (first|(with_reducible first|exact HB.out|apply below_alloc|apply pw_below_drewN|apply below_drew1)|exact HB.out)):p:=h
theorem za41 {p:Prop}(h:p:=by repeat (first|(with_reducible first|exact HK.out|apply Kept.alloc|apply Kept.drewN|apply Kept.drew)|exact HK.out)):p:=h
theorem za42 {p:Prop}(h:p:=by (with_reducible repeat (first|refine blk_drewN ?_ _|refine blk_drew ?_|refine blk_alloc ?_ _));exact BK50.out):p:=h
theorem za43 {p:Prop}(h:p:=by (with_reducible repeat (first|refine blk_drewN ?_ _|refine blk_drew ?_|refine blk_alloc ?_ _));exact BK51.out):p:=h
theorem za44 {p:Prop}(h:p:=by (with_reducible repeat (first|refine blk_drewN ?_ _|refine blk_drew ?_|refine blk_alloc ?_ _));exact BK52.out):p:=h
theorem za45 {p:Prop}(h:p:=by (with_reducible repeat (first|refine blk_drewN ?_ _|refine blk_drew ?_|refine blk_alloc ?_ _));exact j4_.out):p:=h
theorem za46 {p:Prop}(h:p:=by (with_reducible repeat (first|refine blk_drewN ?_ _|refine blk_drew ?_|refine blk_alloc ?_ _));exact j2_.out):p:=h
theorem za47 {p:Prop}(h:p:=by (with_reducible repeat (first|refine blk_drewN ?_ _|refine blk_drew ?_|refine blk_alloc ?_ _));exact j8_.out):p:=h
theorem za48 {p:Prop}(h:p:=by (with_reducible repeat (first|refine blk_drewN ?_ _|refine blk_drew ?_|refine blk_alloc ?_ _));exact jf_.out):p:=h
theorem za49 {p:Prop}(h:p:=by (with_reducible repeat (first|refine blk_drewN ?_ _|refine blk_drew ?_|refine blk_alloc ?_ _));exact j9_.out):p:=h
theorem za50 {p:Prop}(h:p:=by (with_reducible repeat (first|refine blk_drewN ?_ _|refine blk_drew ?_|refine blk_alloc ?_ _));exact j0_.out):p:=h
theorem za51 {p:Prop}(h:p:=by first|(rw [add_block];exact j4_)|(show (Addr.add _ _).block≠_;rw [add_block];exact j4_)|exact j4_):p:=h
theorem za52 {p:Prop}(h:p:=by first|(rw [add_block];exact j5_)|(show (Addr.add _ _).block≠_;rw [add_block];exact j5_)|exact j5_):p:=h
theorem za53 {p:Prop}(h:p:=by (with_reducible repeat (first|apply Kd.R_alloc|apply Kd.R_drewN|apply Kd.R_drew));exact HO_3.out):p:=h
theorem za54 {p:Prop}(h:p:=by (with_reducible repeat (first|apply Kd.R_alloc|apply Kd.R_drewN|apply Kd.R_drew));exact HO_0.out):p:=h
theorem za55 {p:Prop}(h:p:=by (with_reducible repeat (first|apply Kd.S_alloc|apply Kd.S_drewN|apply Kd.S_drew));exact HO_7.out):p:=h
theorem za56 {p:Prop}(h:p:=by (with_reducible repeat (first|apply Kd.R_alloc|apply Kd.R_drewN|apply Kd.R_drew));exact HO_9.out):p:=h
theorem za57 {p:Prop}(h:p:=by (with_reducible repeat (first|apply Kd.R_alloc|apply Kd.R_drewN|apply Kd.R_drew));exact j2_.out):p:=h
theorem za58 {p:Prop}(h:p:=by (with_reducible repeat (first|apply Kd.R_alloc|apply Kd.R_drewN|apply Kd.R_drew));exact j3_.out):p:=h
theorem za59 {p:Prop}(h:p:=by (with_reducible repeat (first|apply Kd.V_alloc|apply Kd.V_drewN|apply Kd.V_drew));exact j2_.out):p:=h
theorem za60 {p:Prop}(h:p:=by (with_reducible repeat (first|apply Kd.V_alloc|apply Kd.V_drewN|apply Kd.V_drew));exact j13.out):p:=h
theorem za61 {p:Prop}(h:p:=by (with_reducible repeat (first|apply Kd.V_alloc|apply Kd.V_drewN|apply Kd.V_drew));exact j6_.out):p:=h
theorem za62 {p:Prop}(h:p:=by (with_reducible repeat (first|apply Kd.N_alloc|apply Kd.N_drewN|apply Kd.N_drew));exact j5_.out):p:=h
theorem za63 {p:Prop}(h:p:=by (with_reducible repeat (first|apply Kd.V_alloc|apply Kd.V_drewN|apply Kd.V_drew));exact jl_.out):p:=h
theorem za64 {p:Prop}(h:p:=by (with_reducible repeat (first|apply Kd.V_alloc|apply Kd.V_drewN|apply Kd.V_drew));exact jm_.out):p:=h
theorem za65 {p:Prop}(h:p:=by (with_reducible repeat (first|apply Kd.V_alloc|apply Kd.V_drewN|apply Kd.V_drew));exact jn_.out):p:=h
theorem za66 {p:Prop}(h:p:=by (with_reducible repeat (first|apply Kd.V_alloc|apply Kd.V_drewN|apply Kd.V_drew));exact jo_.out):p:=h
theorem za67 {p:Prop}(h:p:=by (with_reducible repeat (first|apply Kd.V_alloc|apply Kd.V_drewN|apply Kd.V_drew));exact jp_.out):p:=h
theorem za68 {p:Prop}(h:p:=by (with_reducible repeat (first|apply Kd.V_alloc|apply Kd.V_drewN|apply Kd.V_drew));exact ju_.out):p:=h
theorem za69 {p:Prop}(h:p:=by (with_reducible repeat (first|apply Kd.V_alloc|apply Kd.V_drewN|apply Kd.V_drew));exact jv_.out):p:=h
theorem za70 {p:Prop}(h:p:=by (with_reducible repeat (first|apply Kd.N_alloc|apply Kd.N_drewN|apply Kd.N_drew));exact jz_.out):p:=h
theorem za71 {p:Prop}(h:p:=by have:=World.block_lt_of_cell? _ _ j1_;first|rwa [add_block] at this|exact this):p:=h
theorem za72 {p:Prop}(h:p:=by simp only [List.length_take,List.length_nil];omega):p:=h
theorem za73 {p:Prop}(h:p:=by first|(with_reducible assumption)|assumption):p:=h
theorem za74 {p:Prop}(h:p:=by rw [← HNF.out];have:=HBR3.out;simp;omega):p:=h
theorem za75 {p:Prop}(h:p:=by have:=HBR3.out;have:=HN.out;simp;omega):p:=h
theorem za76 {p:Prop}(h:p:=by first|rfl|(simp;done)|(simp [*];done)):p:=h
theorem za77 {p:Prop}(h:p:=by simp [Value.oneCell',Value.cells]):p:=h
theorem za78 {p:Prop}(h:p:=by have:=HBR3.out;have:=HN.out;omega):p:=h
theorem za79 {p:Prop}(h:p:=by rw [← HNF.out];simp [HRF.out]):p:=h
theorem za80 {p:Prop}(h:p:=by simp [Value.oneCell']):p:=h
theorem za81 {p:Prop}(h:p:=by have:=HN0.out;omega):p:=h
theorem za82 {p:Prop}(h:p:=by have:=HN1.out;omega):p:=h
theorem za83 {p:Prop}(h:p:=by have:=HN2.out;omega):p:=h
theorem za84 {p:Prop}(h:p:=by have:=HNN.out;omega):p:=h
end Go
namespace Go.Proofs.Ytlgkeaildncojaa.Q
open Go.RowKit Go.Proofs.YtlgkeaildncojaaW.PrintWords Go.Proofs.YtlgkeaildncojaaW.PrintLast
variable {P:Program} {ops:Array Oper} {Q:Exit→Act→World→Prop}
theorem goesv_ {oi : Oper} {N : Option Tmp} {a : Act} {w : World} {K : Act → World → Prop} {f : FuncId} {fn : Func} {x : Operand} {as : Array Operand} {ts : Array TypeId} {fr : Array Value} (hf : P.funcs[f]? = some fn) (hname : (fn.name == "runtime.NumGoroutine") = false) (hb : fn.body.isSome = true) (args : Array Value)
  (hw:Region.wanted oi (yielded ops a.tmps)=true) (hN:oi.dst=N) (hop:oi.op=.call { callee:=.value x,args:=as,argTypes:=ts }) (hx:a.eval x=.func (.func f) #[] fr) (hargs:as.map a.eval++fr=args)
  (h:Calls P f args w fun e w'=>∃ v,e=.returned v∧K (a.put N v) w'):if Region.wanted oi (yielded ops a.tmps)=true then Oper.wp P oi a w K Q else K (a.put N undef) w:=by
 refine call_ f args hw hN ?_ h
 have he:=enters_ hf hname hb args w
 unfold execOp
 simp [hop,resolve,Deferred.ofValue,invoke,hx,hargs,he]
end Go.Proofs.Ytlgkeaildncojaa.Q
end
