/- Texts of this claim, merged by wip/tools/pack.py: Pt, Ap, Aq, Cy, Cw, Ay. -/
import Derived.Test.YtlgkeaildncojaaZ24
import Derived.WalkLawsBesides
import Derived.Recover
import Derived.Laws.Pointers
section
namespace Go.Proofs.Ytlgkeaildncojaa.Q
open Go.RowKit Go.Shelf Go.Proofs.YtlgkeaildncojaaW.PrintWords Go.Proofs.YtlgkeaildncojaaW.PrintLast Go.Proofs.YtlgkeaildncojaaW.PrintMore
set_option linter.unusedSimpArgs false
set_option linter.unusedVariables false
attribute [local go_sem] Oper.semAt_some
def tryF (its:List S55) (at_:Int):List S49→Nat→Int × Option S49 × Nat
 | [],wk=>(0,none,wk)
 | r :: rs,wk=>if wk+1 > 6000 then (34,none,wk+1) else if matchP r its at_=true then (0,some r,wk+1) else tryF its at_ rs (wk+1)
theorem tryF_step (its:List S55) (at_:Int) (l:List S49) (j wk:Nat) (h:j<l.length):tryF its at_ (l.drop j) wk=if wk+1 > 6000 then (34,none,wk+1) else if matchP (l.getD j z49) its at_=true then (0,some (l.getD j z49),wk+1) else tryF its at_ (l.drop (j+1)) (wk+1):=by
 rw [List.drop_eq_getElem_cons h,List.getD_eq_getElem?_getD,List.getElem?_eq_getElem h]
 rfl
def ruleV (w:World) (r:S49) (v:Value):Prop:=∃ A0 c0 A1 c1 A2 c2 A3 c3 A4 c4,v=.agg #[.slice A0 r.f0.length c0,.slice A1 r.f1.length c1,.slice A2 r.f2.length c2,.slice A3 r.f3.length c3,.slice A4 r.f4.length c4] ∧
 r.f0.length≤c0∧(Kd.slice 3 (Kd.int .i64)).C w A0 r.f0.length r.f0∧r.f1.length≤c1∧(Kd.slice 3 (Kd.int .i64)).C w A1 r.f1.length r.f1∧r.f2.length≤c2∧(Kd.slice 3 (Kd.int .i64)).C w A2 r.f2.length r.f2∧r.f3.length≤c3∧(Kd.int .i64).C w A3 r.f3.length r.f3∧r.f4.length≤c4∧k60.C w A4 r.f4.length r.f4
def zeroRule:Value:=.agg #[.slice none 0 0,.slice none 0 0,.slice none 0 0,.slice none 0 0,.slice none 0 0]
def fails (e:Int):Ending:=.panicked [{ v:=.iface 95 (.agg #[.int .i64 e]),recovered:=false }]
def tryRes (w:World) (err:Int) (m:Option S49) (e:Ending):Prop :=
 if err=0 then (match m with
  | some r=>∃ v,e=.returned (.tuple #[v,.bool true])∧ruleV w r v
  | none=>e=.returned (.tuple #[zeroRule,.bool false]))
 else e=fails err
def small (y:S49):Prop:=y.f0.length≤1000∧y.f1.length≤1000∧y.f2.length≤1000
theorem sz3:(Try.prog.info? 3).map (·.size)=some 1:=by kernel_rfl
theorem results57 (tmps:Array Value) (w:World) (g:Nat) (cs:Array Value) (b:Bool) (hp:tmps.getD 6 undef=.pointer (some ⟨g,0,none⟩)) (hb:tmps.getD 7 undef=.bool b) (hg:w.heap[g]?=some (.cells cs 49 (0,0))) (hs:cs.size=5) :
  (results Try.f57 tmps).run Try.prog w=.ok (.tuple #[.agg cs,.bool b]) w:=by
 rw [results_cell_tmp (p:=6) (u:=7) (ty:=49) rfl,hp,hb]
 have h:=run_loadVar_row w g 49 49 cs (0,0) _ hg Try.underlying49 rfl (by rw [sz49,hs])
 simp only [asAddr,Sem.run_pure,Result.andThen_ok]
 rw [h]
 rfl
theorem lens {w:World} {A:Option Addr} {f:List (List Int)} {n:Nat} (h:(Kd.slice 3 (Kd.int .i64)).C w A n f) (hn:n=f.length):∀ s∈f,s.length≤9223372036854775807:=by
 intro s hs
 obtain ⟨i,hi,rfl⟩:=List.getElem_of_mem hs
 obtain ⟨ad,A0,c0,_,_,_,h2⟩:=at_sl h i (by omega)
 have h3:=Kd.C_max h2
 rw [List.getD_eq_getElem?_getD,List.getElem?_eq_getElem hi] at h3
 exact h3
set_option maxRecDepth 100000 in
set_option maxHeartbeats 8000000 in
theorem try_calls {w W:World} {K:Nat→Obj→Prop} {R:Res} {g:Nat} {Aa Ai:Option Addr} {ca ci:Nat} {all:List S24} {its:List S55} {wk:Nat}
  (HO:Own w W [.box g 77 #[.slice Aa all.length ca,.slice Ai its.length ci,.int .i64 wk],.row k55 55 w.heap.size (.slice Ai its.length ci) its,R] K)
  (HA:Kd.C k24 w Aa all.length all) (k:Nat) (hk:k<all.length) (at_:Int) (hat:at_≤1000000) (hi:its.length≤1000000) (hwk:wk≤6001)
  (hsm:∀ y∈(all.getD k z24).f0,small y) (err:Int) (m:Option S49) (wk':Nat) (h:tryF its at_ (all.getD k z24).f0 wk=(err,m,wk')) :
  Calls Try.prog 57 #[.pointer (some ⟨g,0,none⟩),.int .i64 k,.int .i64 at_] W fun e W'=>Own w W' [.box g 77 #[.slice Aa all.length ca,.slice Ai its.length ci,.int .i64 wk'],.row k55 55 w.heap.size (.slice Ai its.length ci) its,R] K∧tryRes w err m e:=by
 obtain ⟨ad,A0,c0,hA,x0,y0,y1⟩:=at_T24 HA (k:Int) (by omega) (by omega)
 subst hA
 rw [show rd_T24 all (k:Int)=all.getD k z24 from rfl] at x0 y0 y1
 rw [Int.toNat_natCast] at x0
 generalize all.getD k z24=lk at *
 obtain ⟨rs⟩:=lk
 dsimp only at x0 y0 y1 h hsm
 have H:=Aside0.mk h
 have HSM:=Aside0.mk hsm
 have HX:=Aside0.mk x0
 have HR:=Aside0.mk y1
 have HN:=Aside0.mk (Kd.C_max y1)
 have HAT:=Aside0.mk hat
 have HI:=Aside0.mk hi
 have HWK:=Aside0.mk hwk
 have q1:((k:Int)<(all.length:Int))=True:=eq_true (by omega)
 have q0:(0≤(k:Int))=True:=eq_true (by omega)
 clear h hsm y0 y1 HA hk hat hi hwk x0
 have x0:=pw_cell_below HO.below HX.out
 have b0:=HO.box_cell 0 rfl 0 rfl
 go_enter Try.func57,Try.ntmps57
 go_wp2_with (first
  | ((with_reducible refine gate_dst (N:=6) rfl ?_);refine ev_box (N:=6) (cs:=#[.slice none 0 0,.slice none 0 0,.slice none 0 0,.slice none 0 0,.slice none 0 0]) (t:=49) HO rfl rfl zhr ?_;intro g6 W1 HO1 hb1;clear HO hb1 x0 b0;have x0:=pw_cell_below HO1.below HX.out;have b0:=HO1.box_cell 0 rfl 0 rfl))
 clear x0 b0
 go_loopw [19] (fun v19 w'=>∃ (j wj:Nat),v19=.int .i64 j∧Aside0 (j≤rs.length)∧Aside0 (wj≤6001)∧Aside0 (tryF its at_ (rs.drop j) wj=(err,m,wk'))∧Aside0 (Own w w' [.box g 77 #[.slice (some ad) all.length ca,.slice Ai its.length ci,.int .i64 wj],.row k55 55 w.heap.size (.slice Ai its.length ci) its,R,.box g6 49 #[.slice none 0 0,.slice none 0 0,.slice none 0 0,.slice none 0 0,.slice none 0 0]] K)) (fun v19 _=>rs.length - (intOf v19).toNat)
 case atStart=>exact ⟨0,wk,rfl,⟨Nat.zero_le _⟩,HWK,H,⟨HO1⟩⟩
 case round =>
  clear HO1 H HWK
  obtain ⟨j,wj,rfl,HK,HWJ,HP,HOO⟩:=hrel
  have HO:=HOO.out
  clear HOO
  by_cases hlt:j<rs.length
  case neg =>
   have r1:¬ ((j:Int)<(rs.length:Int)):=by omega
   have he:=HP.out
   rw [List.drop_of_length_le (by omega),tryF] at he
   simp only [Prod.mk.injEq] at he
   obtain ⟨e1,e2,e3⟩:=he
   subst e1 e2 e3
   clear hlt HP
   go_wp2_with (first
    | ((with_reducible refine gate_store (t:=49) (p:=6) rfl ?_);refine ev_store (cs':=#[.slice none 0 0,.slice none 0 0,.slice none 0 0,.slice none 0 0,.slice none 0 0]) (.agg #[.slice none 0 0,.slice none 0 0,.slice none 0 0,.slice none 0 0,.slice none 0 0]) 3 HO rfl rfl rfl rfl 0 rfl rfl sz49 za77 (Nat.le_refl _) rfl ?_;intro W3 HO3;clear HO))
   have z0:=HO3.box_cell 3 rfl 0 rfl
   have z1:=HO3.box_cell 3 rfl 1 rfl
   have z2:=HO3.box_cell 3 rfl 2 rfl
   have z3:=HO3.box_cell 3 rfl 3 rfl
   have z4:=HO3.box_cell 3 rfl 4 rfl
   exact bodyPost_ret (results57 _ _ g6 _ false rfl rfl (HO3.box_at 3 rfl).1 rfl) rfl ⟨HO3.upto 3,by unfold tryRes;rw [if_pos rfl];rfl⟩
  case pos =>
   have hst:=tryF_step its at_ rs j wj hlt
   rw [HP.out] at hst
   have hsmj:=HSM.out _ (getD_in rs j z49 hlt)
   obtain ⟨adr,A0',c0',A1,c1,A2,c2,A3,c3,A4,c4,hA,x0,x1,x2,x3,x4,y0,y1,y2,y3,y4,y5,y6,y7,y8,y9⟩:=at_T49 HR.out (j:Int) (by omega) (by omega)
   subst hA
   rw [show rd_T49 rs (j:Int)=rs.getD j z49 from rfl] at x0 x1 x2 x3 x4 y0 y1 y2 y3 y4 y5 y6 y7 y8 y9
   rw [Int.toNat_natCast] at x0 x1 x2 x3 x4
   replace x0:=pw_cell_below HO.below x0
   replace x1:=pw_cell_below HO.below x1
   replace x2:=pw_cell_below HO.below x2
   replace x3:=pw_cell_below HO.below x3
   replace x4:=pw_cell_below HO.below x4
   generalize rs.getD j z49=yv at *
   obtain ⟨f0,f1,f2,f3,f4⟩:=yv
   dsimp only at x0 x1 x2 x3 x4 y0 y1 y2 y3 y4 y5 y6 y7 y8 y9
   have HRV:Aside0 (ruleV w ⟨f0,f1,f2,f3,f4⟩ (.agg #[.slice A0' f0.length c0',.slice A1 f1.length c1,.slice A2 f2.length c2,.slice A3 f3.length c3,.slice A4 f4.length c4])):=⟨A0',c0',A1,c1,A2,c2,A3,c3,A4,c4,rfl,y0,y1,y2,y3,y4,y5,y6,y7,y8,y9⟩
   have Y0:=Aside0.mk y0
   have Y1:=Aside0.mk y1
   have Y2:=Aside0.mk y2
   have Y3:=Aside0.mk y3
   have Y4:=Aside0.mk y4
   have Y5:=Aside0.mk y5
   have Y6:=Aside0.mk y6
   have Y7:=Aside0.mk y7
   have Y8:=Aside0.mk y8
   have Y9:=Aside0.mk y9
   have b2:=HO.box_cell 0 rfl 2 rfl
   have r1:((j:Int)<(rs.length:Int))=True:=eq_true (by omega)
   have r0:(0≤(j:Int))=True:=eq_true (by omega)
   have hkb:(j:Int)+1≤9223372036854775807:=by have:=HN.out;omega
   have hwb:(wj:Int)+1≤7000:=by have:=HWJ.out;omega
   have HKL:=Aside0.mk hlt
   clear y0 y1 y2 y3 y4 y5 y6 y7 y8 y9 hlt
   by_cases hov:wj+1 > 6000
   case pos =>
    rw [if_pos hov] at hst
    simp only [Prod.mk.injEq] at hst
    obtain ⟨e1,e2,e3⟩:=hst
    subst e1 e2 e3
    have v1:((wj:Int)+1 > 6000)=True:=eq_true (by omega)
    have v2:decide ((wj:Int)+1 > 6000)=true:=decide_eq_true (by omega)
    clear hov hsmj HP
    go_wp2_with (first
    | ((with_reducible refine gate_dst (N:=9) rfl ?_);refine ev_box (N:=9) (cs:=#[.slice none 0 0,.slice none 0 0,.slice none 0 0,.slice none 0 0,.slice none 0 0]) (t:=49) HO rfl rfl zhr ?_;intro g9 W2 HO2 hb2;clear HO hb2)
    | ((with_reducible refine gate_store (t:=49) (p:=9) rfl ?_);refine ev_store (cs':=#[.slice A0' f0.length c0',.slice A1 f1.length c1,.slice A2 f2.length c2,.slice A3 f3.length c3,.slice A4 f4.length c4]) (.agg #[.slice A0' f0.length c0',.slice A1 f1.length c1,.slice A2 f2.length c2,.slice A3 f3.length c3,.slice A4 f4.length c4]) 4 HO2 rfl rfl rfl rfl 0 rfl rfl sz49 za77 (Nat.le_refl _) rfl ?_;intro W3 HO3;clear HO2 x0 x1 x2 x3 x4 b2;have b2:=HO3.box_cell 0 rfl 2 rfl)
    | ((with_reducible refine gate_store (t:=3) (p:=29) rfl ?_);refine ev_store (cs':=#[.slice (some ad) all.length ca,.slice Ai its.length ci,.int .i64 ((wj:Int)+1)]) (.int .i64 ((wj:Int)+1)) 0 HO3 rfl rfl rfl rfl 2 rfl rfl sz3 za77 (Nat.le_refl 3) rfl ?_;intro W4 HO4;clear HO3 b2;have b2:=HO4.box_cell 0 rfl 2 rfl;have b1:=HO4.box_cell 0 rfl 1 rfl;have z0:=HO4.box_cell 4 rfl 0 rfl;have z1:=HO4.box_cell 4 rfl 1 rfl;have z2:=HO4.box_cell 4 rfl 2 rfl;have z3:=HO4.box_cell 4 rfl 3 rfl;have z4:=HO4.box_cell 4 rfl 4 rfl))
    exact ⟨rfl,HO4.upto 3,by unfold tryRes;rw [if_neg (by decide)];rfl⟩
   rw [if_neg hov] at hst
   have v1:((wj:Int)+1 > 6000)=False:=eq_false (by omega)
   have v2:decide ((wj:Int)+1 > 6000)=false:=decide_eq_false (by omega)
   obtain ⟨km,hkm⟩:=Ev.rounds (match_ev f0 f1 f2 f3 f4 its hsmj.1 hsmj.2.1 hsmj.2.2 HI.out (lens Y1.out rfl) (lens Y3.out rfl) (lens Y5.out rfl) at_ (by have:=HAT.out;omega))
   have HKM:=Aside0.mk hkm
   have HOV:=Aside0.mk hov
   clear hov hsmj HP hkm
   have hci:=(HO.row_sl 1 rfl).2.1
   have HCI:=Aside0.mk hci
   clear hci
   go_upto_region 7 with (first
    | ((with_reducible refine gate_dst (N:=9) rfl ?_);refine ev_box (N:=9) (cs:=#[.slice none 0 0,.slice none 0 0,.slice none 0 0,.slice none 0 0,.slice none 0 0]) (t:=49) HO rfl rfl zhr ?_;intro g9 W2 HO2 hb2;clear HO hb2)
    | ((with_reducible refine gate_store (t:=49) (p:=9) rfl ?_);refine ev_store (cs':=#[.slice A0' f0.length c0',.slice A1 f1.length c1,.slice A2 f2.length c2,.slice A3 f3.length c3,.slice A4 f4.length c4]) (.agg #[.slice A0' f0.length c0',.slice A1 f1.length c1,.slice A2 f2.length c2,.slice A3 f3.length c3,.slice A4 f4.length c4]) 4 HO2 rfl rfl rfl rfl 0 rfl rfl sz49 za77 (Nat.le_refl _) rfl ?_;intro W3 HO3;clear HO2 x0 x1 x2 x3 x4 b2;have b2:=HO3.box_cell 0 rfl 2 rfl)
    | ((with_reducible refine gate_store (t:=3) (p:=29) rfl ?_);refine ev_store (cs':=#[.slice (some ad) all.length ca,.slice Ai its.length ci,.int .i64 ((wj:Int)+1)]) (.int .i64 ((wj:Int)+1)) 0 HO3 rfl rfl rfl rfl 2 rfl rfl sz3 za77 (Nat.le_refl 3) rfl ?_;intro W4 HO4;clear HO3 b2;have b2:=HO4.box_cell 0 rfl 2 rfl;have b1:=HO4.box_cell 0 rfl 1 rfl;have z0:=HO4.box_cell 4 rfl 0 rfl;have z1:=HO4.box_cell 4 rfl 1 rfl;have z2:=HO4.box_cell 4 rfl 2 rfl;have z3:=HO4.box_cell 4 rfl 3 rfl;have z4:=HO4.box_cell 4 rfl 4 rfl))
   go_still_tail 6,(by kernel_rfl)
   change wpList _ _ _ _ _ W4.drew
   have HO5:=HO4.drew
   clear HO4 z0 z1 z2 z3 z4 b1 b2
   generalize hbb:matchP ⟨f0,f1,f2,f3,f4⟩ its at_=bb at hst HKM
   have HBB:=Aside0.mk hbb
   clear hbb
   cases bb with
   | true =>
    rw [if_pos rfl] at hst
    simp only [Prod.mk.injEq] at hst
    obtain ⟨e1,e2,e3⟩:=hst
    subst e1 e2 e3
    go_wp2_with (first
     | (go_at_call 21;(refine (rules_Match.calls km A0' c0' f0 A1 c1 f1 A2 c2 f2 A3 c3 f3 A4 c4 f4 Ai ci its at_ _ _ (HO5.old Y1.out) Y0.out (HO5.old Y3.out) Y2.out (HO5.old Y5.out) Y4.out (HO5.old Y7.out) Y6.out (HO5.old Y9.out) Y8.out (HO5.row_sl 1 rfl).2.2 HCI.out HKM.out).mono ?_;rintro e W6 ⟨rfl,hb⟩;have HO6:=HO5.grow hb;clear HO5 hb;have z0:=HO6.box_cell 4 rfl 0 rfl;have z1:=HO6.box_cell 4 rfl 1 rfl;have z2:=HO6.box_cell 4 rfl 2 rfl;have z3:=HO6.box_cell 4 rfl 3 rfl;have z4:=HO6.box_cell 4 rfl 4 rfl))
     | ((with_reducible refine gate_store (t:=49) (p:=6) rfl ?_);refine ev_store (cs':=#[.slice A0' f0.length c0',.slice A1 f1.length c1,.slice A2 f2.length c2,.slice A3 f3.length c3,.slice A4 f4.length c4]) (.agg #[.slice A0' f0.length c0',.slice A1 f1.length c1,.slice A2 f2.length c2,.slice A3 f3.length c3,.slice A4 f4.length c4]) 3 HO6 rfl rfl rfl rfl 0 rfl rfl sz49 za77 (Nat.le_refl _) rfl ?_;intro W7 HO7;clear HO6 z0 z1 z2 z3 z4))
    exact bodyPost_ret (results57 _ _ g6 _ true rfl rfl (HO7.box_at 3 rfl).1 rfl) rfl ⟨HO7.upto 3,by unfold tryRes;rw [if_pos rfl];exact ⟨_,rfl,HRV.out⟩⟩
   | false =>
    rw [if_neg (by decide)] at hst
    have HST:=Aside0.mk hst.symm
    clear hst
    go_wp2_with (first
     | (go_at_call 21;(refine (rules_Match.calls km A0' c0' f0 A1 c1 f1 A2 c2 f2 A3 c3 f3 A4 c4 f4 Ai ci its at_ _ _ (HO5.old Y1.out) Y0.out (HO5.old Y3.out) Y2.out (HO5.old Y5.out) Y4.out (HO5.old Y7.out) Y6.out (HO5.old Y9.out) Y8.out (HO5.row_sl 1 rfl).2.2 HCI.out HKM.out).mono ?_;rintro e W6 ⟨rfl,hb⟩;have HO6:=HO5.grow hb;clear HO5 hb;have z0:=HO6.box_cell 4 rfl 0 rfl;have z1:=HO6.box_cell 4 rfl 1 rfl;have z2:=HO6.box_cell 4 rfl 2 rfl;have z3:=HO6.box_cell 4 rfl 3 rfl;have z4:=HO6.box_cell 4 rfl 4 rfl)))
    have HO8:=HO6.upto 4
    go_roundw
    case rel=>exact ⟨j+1,wj+1,by go_num,⟨HKL.out⟩,⟨by have:=HOV.out;omega⟩,HST,⟨HO8⟩⟩
    case measure=>have:=HKL.out;simp [intOf];omega
end Go.Proofs.Ytlgkeaildncojaa.Q
end
section
namespace Go.Proofs.Ytlgkeaildncojaa.Q
open Go.RowKit Go.Shelf Go.Proofs.YtlgkeaildncojaaW.PrintWords Go.Proofs.YtlgkeaildncojaaW.PrintLast Go.Proofs.YtlgkeaildncojaaW.PrintMore
set_option linter.unusedSimpArgs false
set_option linter.unusedVariables false
attribute [local go_sem] Oper.semAt_some
theorem eql_nil33 (w:World) (a:Option Addr) (l c:Nat):(binOp .eql 33 (.slice a l c) (.slice none 0 0)).run Try.prog w=.ok (.bool a.isNone) w:=by
 simp only [binOp]
 simp [run_equal_slice_nil w 33 55 a l c Try.underlying33]
set_option maxRecDepth 100000 in
set_option maxHeartbeats 4000000 in
theorem cloneT_calls (A:Option Addr) (c:Nat) (l:List S55) (w:World) (hr:k55.C w A l.length l) (hc:l.length≤c) (hl:l.length≤1000000) :
  Calls Try.prog 39 #[.slice A l.length c] w fun e w'=>∃ v,e=.returned v∧Kd.R k55 55 w' w.heap.size (fun _=>True) v l∧Below w.heap.size w w':=by
 have HR:=Aside0.mk hr
 have HC:=Aside0.mk hc
 have HL:=Aside0.mk hl
 have HO:=Own.start w
 have hu:=eql_nil33
 cases A with
 | none =>
  have h0:l=[]:=by
   rcases Nat.eq_zero_or_pos l.length with h|h
   ·
    exact List.eq_nil_of_length_eq_zero h
   ·
    obtain ⟨ad,h2,-⟩:=hr.2.2 h
    cases h2
  subst h0
  clear hr hc hl
  go_enter Try.func39,Try.ntmps39
  go_wp2
  go_ret
  exact ⟨_,rfl,Kd.R_nil _ _ _ _ _,HO.below⟩
 | some ad =>
  clear hr hc hl
  go_enter Try.func39,Try.ntmps39
  go_wp2_with (first
   | ((with_reducible refine gate_dst (N:=5) rfl ?_);refine ev_lit k55 55 (N:=5) (xs:=[]) (inner:=[]) HO rfl rfl ?hr ?hp (by decide) ?_;(case hr=>first|(go_simp;done)|(go_simp;rfl));(case hp=>exact Reps.none _ _);intro A3 c3 W3 HO3 hb3;clear HO hb3)
   | ((with_reducible refine gate_builtin (b:=.append) (xs:=#[.tmp 5,.tmp 6]) rfl ?_);at_builtin;refine ev_rows 0 HO3 rfl rfl (.tmp 5) (.tmp 6) 33 (.agg #[.int .i64 0,.int .i64 0]) 16 rfl Try.underlying33 hinf55 rfl (Nat.succ_pos 1) (by decide) l (some ad) c rfl rfl (Kd.C_below HR.out HO3.below) (fun _ _ h=>h) ?aL ?_;(case aL=>have:=HL.out;simp;omega);intro A4 c4 W4 HO4;clear HO3))
  go_ret
  exact ⟨_,rfl,HO4.row_R 0 rfl,HO4.below⟩
theorem cut_take33 (A:Option Addr) (n c a:Nat) (h:a≤c) (W:World):(Instr.slice 33 (.slice A n c) none (some (.int .i64 (a:Int))) none).run Try.prog W=.ok (.slice A a c) W:=by
 obtain ⟨i,hi,hs⟩:∃ i,Try.prog.info? 55=some i∧i.size=2:=by
  have h:=hinf55
  cases hq:Try.prog.info? 55 with
  | none=>rw [hq] at h;cases h
  | some i =>
   rw [hq] at h
   simp only [Option.map_some,Option.some.injEq,Prod.mk.injEq] at h
   exact ⟨i,rfl,h.2.1⟩
 have hel:Try.prog.elem 33=55:=by simp [Program.elem,Try.underlying33]
 have hu:Try.prog.underlying 33=some (.slice (Try.prog.elem 33)):=by rw [hel];exact Try.underlying33
 have ha:(A.map fun x=>x.add 0)=A:=by cases A<;>simp [Addr.add]
 rw [run_slice_h W 33 A n c hu .i64 (a:Int) (Int.natCast_nonneg _) (by omega),hel]
 simp [sizeOf,typeInfo,hi,hs,sliced,Result.andThen,ha]
theorem cut_drop33 (A:Option Addr) (n c a:Nat) (h:a≤n) (W:World):(Instr.slice 33 (.slice A n c) (some (.int .i64 (a:Int))) none none).run Try.prog W=.ok (.slice (if c=a then A else A.map (·.add (a*2))) (n - a) (c - a)) W:=by
 obtain ⟨i,hi,hs⟩:∃ i,Try.prog.info? 55=some i∧i.size=2:=by
  have h:=hinf55
  cases hq:Try.prog.info? 55 with
  | none=>rw [hq] at h;cases h
  | some i =>
   rw [hq] at h
   simp only [Option.map_some,Option.some.injEq,Prod.mk.injEq] at h
   exact ⟨i,rfl,h.2.1⟩
 have hel:Try.prog.elem 33=55:=by simp [Program.elem,Try.underlying33]
 have hu:Try.prog.underlying 33=some (.slice (Try.prog.elem 33)):=by rw [hel];exact Try.underlying33
 rw [run_slice_l W 33 A n c hu .i64 (a:Int) (Int.natCast_nonneg _) (by omega),hel]
 simp [sizeOf,typeInfo,hi,hs,sliced,Result.andThen]
theorem Own.pick3 {w W:World} {L:List Res} {K:Nat→Obj→Prop} {a b c:Res} (h:Own w W L K) (i j k:Nat) (hi:L[i]?=some a) (hj:L[j]?=some b) (hk:L[k]?=some c) (n1:i≠j) (n2:i≠k) (n3:j≠k):Own w W [a,b,c] K:=by
 refine h.pick [i,j,k] (fun q r hq=>?_) (by simp [n1,n2,n3])
 match q,hq with
 | 0,hq=>exact ⟨i,rfl,by rw [hi];exact hq⟩
 | 1,hq=>exact ⟨j,rfl,by rw [hj];exact hq⟩
 | 2,hq=>exact ⟨k,rfl,by rw [hk];exact hq⟩
 | (n+3),hq=>simp at hq
def putF (its:List S55) (a:Nat) (r:S49):List S55:=its.take a++(r.f3.map (fun gl=>(⟨gl,(its.getD a z55).f1⟩:S55))++its.drop (a+r.f1.length))
theorem c55 {w:World} {A:Option Addr} {f:List S55} {c:Nat} (hc:f.length≤c) (h:k55.C w A f.length f):(Kd.slice 55 k55).K w f [.slice A f.length c]:=⟨A,c,rfl,hc,h⟩
theorem concat3_calls {A:Option Addr} {a b d:List S55} {p:List S55} (w:World) (hp:a++(b++d)=p) (hr:Kd.C (Kd.slice 55 k55) w A 3 [a,b,d]) (hl:p.length≤1000000) :
  Calls Try.prog 68 #[.slice A 3 3] w fun e w'=>∃ v,e=.returned v∧Kd.R k55 55 w' w.heap.size (fun _=>True) v p∧Below w.heap.size w w':=by
 have hf:[a,b,d].flatten=p:=by rw [← hp];simp
 have h:=concatT_calls A 3 [a,b,d] w hr (by simp) (by rw [hf];exact hl)
 rw [hf] at h
 exact h
theorem item_cell {w W:World} {L:List Res} {K:Nat→Obj→Prop} {ad:Addr} {n ci:Nat} {its:List S55} (h:Own w W L K) (i:Nat) (hi:L[i]?=some (.row k55 55 w.heap.size (.slice (some ad) n ci) its)) (a:Nat) (ha:a<its.length) :
  W.cell? ⟨(ad.add (a*2)).block,(ad.add (a*2)).off+1,none⟩=some (.int .i64 (its.getD a z55).f1):=by
 obtain ⟨ad2,hA,-,i1⟩:=at_T55 (h.row_sl i hi).2.2 (a:Int) (by omega) (by omega)
 injection hA with hA
 subst hA
 rw [Int.toNat_natCast] at i1
 rw [show rd_T55 its (a:Int)=its.getD a z55 by rw [rd55]] at i1
 exact i1
set_option maxRecDepth 100000 in
set_option maxHeartbeats 8000000 in
theorem leaf_calls {w W:World} {K:Nat→Obj→Prop} {R:Res} {g:Nat} {va:Value} {Ai:Option Addr} {ci:Nat} {its:List S55} {wk:Nat}
  (HO:Own w W [.box g 77 #[va,.slice Ai its.length ci,.int .i64 wk],.row k55 55 w.heap.size (.slice Ai its.length ci) its,R] K)
  (f0 f1 f2:List (List Int)) (f3:List Int) (f4:List S60) (A0 A1 A2 A3 A4:Option Addr) (c0 c1 c2 c3 c4:Nat) (h3:(Kd.int .i64).C w A3 f3.length f3) (h4:f4.length=0) (b1:f1.length≤1000) (b3:f3.length≤1000) (bi:its.length≤1000) (hpos:0<f1.length)
  (a:Nat) (ha:a+f1.length≤its.length) :
  Calls Try.prog 58 #[.pointer (some ⟨g,0,none⟩),.agg #[.slice A0 f0.length c0,.slice A1 f1.length c1,.slice A2 f2.length c2,.slice A3 f3.length c3,.slice A4 f4.length c4],.int .i64 a] W fun e W'=>∃ Ai' ci',Own w W' [.box g 77 #[va,.slice Ai' (putF its a ⟨f0,f1,f2,f3,f4⟩).length ci',.int .i64 wk],.row k55 55 w.heap.size (.slice Ai' (putF its a ⟨f0,f1,f2,f3,f4⟩).length ci') (putF its a ⟨f0,f1,f2,f3,f4⟩),R] K ∧
   e=if (putF its a ⟨f0,f1,f2,f3,f4⟩).length > 200 then fails 2 else .returned (.int .i64 ((a+f3.length:Nat):Int)):=by
 have H3:=Aside0.mk h3
 have B3:=Aside0.mk b3
 have BI:=Aside0.mk bi
 have hci:=(HO.row_sl 1 rfl).2.1
 have HCI:=Aside0.mk hci
 have HA:=Aside0.mk ha
 have e4:((f4.length:Int)==0)=true:=beq_iff_eq.mpr (by omega)
 have hq1:(a:Int)+(f1.length:Int)≤3000:=by omega
 have ra:((a:Int)<(its.length:Int))=True:=eq_true (by omega)
 have ra0:(0≤(a:Int))=True:=eq_true (by omega)
 obtain ⟨ad,hA,i0,i1⟩:=at_T55 (HO.row_sl 1 rfl).2.2 (a:Int) (by omega) (by omega)
 subst hA
 rw [show rd_T55 its (a:Int)=its.getD a z55 from rfl] at i0 i1
 rw [Int.toNat_natCast] at i0 i1
 obtain ⟨cl,hcl⟩:∃ cl,(its.getD a z55).f1=cl:=⟨_,rfl⟩
 rw [hcl] at i1
 have HCL:=Aside0.mk hcl
 have HAL:=Aside0.mk (show a<its.length by omega)
 obtain ⟨fin,hfin⟩:∃ fin,putF its a ⟨f0,f1,f2,f3,f4⟩=fin:=⟨_,rfl⟩
 have hput:its.take a++(f3.map (fun gl=>(⟨gl,cl⟩:S55))++its.drop (a+f1.length))=fin:=by rw [← hfin,← hcl];rfl
 have hfl:fin.length≤2000:=by rw [← hput,List.length_append,List.length_append,List.length_map,List.length_take,List.length_drop];omega
 have HPUT:=Aside0.mk hput
 have HFL:=Aside0.mk hfl
 rw [hfin]
 obtain ⟨ee,hee⟩:∃ ee,(if fin.length > 200 then fails 2 else Ending.returned (.int .i64 ((a+f3.length:Nat):Int)))=ee:=⟨_,rfl⟩
 have HEE:=Aside0.mk hee
 rw [hee]
 clear hee
 have m1:=HO.box_cell 0 rfl 1 rfl
 clear h3 b3 bi hci ha h4 b1 hcl hput hfl hfin i0
 go_enter Try.func58,Try.ntmps58
 go_wp2_with (first
  | ((with_reducible refine gate_dst (N:=4) rfl ?_);refine ev_box (N:=4) (cs:=#[.slice A0 f0.length c0,.slice A1 f1.length c1,.slice A2 f2.length c2,.slice A3 f3.length c3,.slice A4 f4.length c4]) (t:=49) HO rfl rfl zhr ?_;intro g4 W4 HO4 hb4;clear HO hb4;have z1:=HO4.box_cell 3 rfl 1 rfl;have z3:=HO4.box_cell 3 rfl 3 rfl;have z4:=HO4.box_cell 3 rfl 4 rfl;replace m1:=HO4.box_cell 0 rfl 1 rfl;replace i1:=item_cell HO4 1 rfl a HAL.out;rw [HCL.out] at i1))
 have HO5:=HO4.newrow k55 55
 clear HO4 z1 z3 z4 i1 m1
 go_loopw [9,39] (fun v9 v39 w'=>∃ (k:Nat) (A9:Option Addr) (c9:Nat),v39=.int .i64 k∧v9=.slice A9 k c9∧Aside0 (k≤f3.length)∧Aside0 (Own w w' [.box g 77 #[va,.slice (some ad) its.length ci,.int .i64 wk],.row k55 55 w.heap.size (.slice (some ad) its.length ci) its,R,.box g4 49 #[.slice A0 f0.length c0,.slice A1 f1.length c1,.slice A2 f2.length c2,.slice A3 f3.length c3,.slice A4 f4.length c4],.row k55 55 w.heap.size (.slice A9 k c9) ((f3.take k).map (fun gl=>(⟨gl,cl⟩:S55)))] K)) (fun _ v39 _=>f3.length - (intOf v39).toNat)
 case atStart=>exact ⟨0,none,0,rfl,rfl,⟨Nat.zero_le _⟩,⟨HO5⟩⟩
 case round =>
  clear HO5
  obtain ⟨k,A9,c9,rfl,rfl,HK,HOO⟩:=hrel
  have HO:=HOO.out
  clear HOO
  by_cases hlt:k<f3.length
  case pos =>
   obtain ⟨ad3,hA,z0⟩:=at_int (HO.old H3.out) k hlt
   subst hA
   have q1:((k:Int)<(f3.length:Int))=True:=eq_true (by omega)
   have q0:(0≤(k:Int))=True:=eq_true (by omega)
   have hkb:(k:Int)+1≤9223372036854775807:=by have:=B3.out;omega
   have hst:(f3.take k).map (fun gl=>(⟨gl,cl⟩:S55))++[⟨f3.getD k 0,cl⟩]=(f3.take (k+1)).map (fun gl=>(⟨gl,cl⟩:S55)):=by
    rw [List.take_add_one,List.map_append,List.getD_eq_getElem?_getD,List.getElem?_eq_getElem hlt]
    rfl
   have hlen:((f3.take k).map (fun gl=>(⟨gl,cl⟩:S55))).length=k:=by rw [List.length_map,List.length_take];omega
   generalize (f3.take k).map (fun gl=>(⟨gl,cl⟩:S55))=pm at hst hlen HO
   have HST:=Aside0.mk hst
   have HLE:=Aside0.mk hlen
   have HKLT:=Aside0.mk hlt
   generalize f3.getD k 0=x at z0 HST
   clear hlt hst hlen
   go_wp2_with (first
    | ((with_reducible refine gate_builtin (b:=.append) (xs:=#[.tmp 43,.tmp 47]) rfl ?_);at_builtin;(refine ev_append 4 HO rfl rfl (.tmp 43) (.tmp 47) 33 (.agg #[.int .i64 0,.int .i64 0]) 16 rfl Try.underlying33 hinf55 rfl (by decide) (by decide) (⟨x,cl⟩:S55) [.int .i64 x,.int .i64 cl] rfl rfl (k55_mkM _ _ _ _) ?aL ?_);(case aL=>have:=HLE.out;have:=HKLT.out;have:=B3.out;omega);intro A10 c10 W10 HO10;clear HO))
   rw [HST.out,HLE.out] at HO10
   rw [HLE.out]
   go_roundw
   case rel=>exact ⟨k+1,A10,c10,by go_num,rfl,⟨HKLT.out⟩,⟨HO10⟩⟩
   case measure=>have:=HKLT.out;simp [intOf];omega
  have q1:¬ ((k:Int)<(f3.length:Int)):=by omega
  have hk:k=f3.length:=by have:=HK.out;omega
  subst hk
  rw [List.take_length] at HO
  obtain ⟨ot,hot⟩:∃ ot,f3.map (fun gl=>(⟨gl,cl⟩:S55))=ot:=⟨_,rfl⟩
  have hon:f3.length=ot.length:=by rw [← hot,List.length_map]
  have HPUT2:Aside0 (its.take a++(ot++its.drop (a+f1.length))=fin):=⟨by rw [← hot];exact HPUT.out⟩
  rw [hot] at HO
  have HON:=Aside0.mk hon
  clear hot hlt hon
  have ht:(its.take a).length=a:=by rw [List.length_take];have:=HA.out;omega
  have hd:(its.drop (a+f1.length)).length=its.length - (a+f1.length):=List.length_drop
  have hC1:=(HO.row_sl 1 rfl).2.2
  have hC2:=HO.row_sl 4 rfl
  rw [HON.out] at hC2
  have hT:=Kd.C_take (m:=a) hC1 (by have:=HA.out;omega)
  have hD:=Kd.C_drop (c:=ci) (m:=a+f1.length) hC1 HA.out HCI.out
  have hK1:=c55 (c:=ci) (by rw [ht];have:=HA.out;have:=HCI.out;omega) hT
  have hK3:=c55 (c:=ci - (a+f1.length)) (by rw [hd];have:=HA.out;have:=HCI.out;omega) hD
  have hK2:=c55 (c:=c9) hC2.2.1 hC2.2.2
  rw [ht] at hK1
  rw [hd] at hK3
  have HREP:Aside0 (Reps ((Kd.slice 55 k55).K wr) 1 [its.take a,ot,its.drop (a+f1.length)] [.slice (some ad) a ci,.slice A9 ot.length c9,.slice (if ci=a+f1.length then some ad else some (ad.add ((a+f1.length)*2))) (its.length - (a+f1.length)) (ci - (a+f1.length))]):=⟨(((Reps.none _ 1).snoc hK1 rfl).snoc hK2 rfl).snoc hK3 rfl⟩
  rw [← HON.out] at HREP
  have HON2:=HON
  clear hC1 hC2 ht hd hT hD hK1 hK2 hK3
  go_upto_region 10 with (fail)
  have cut1:=cut_take33 (some ad) its.length ci a (by have:=HCI.out;have:=HA.out;omega)
  have hai:a+f1.length≤its.length:=HA.out
  have cut2:=fun W=>cut_drop33 (some ad) its.length ci (a+f1.length) hai W
  rw [show ((a+f1.length:Nat):Int)=(a:Int)+(f1.length:Int) by omega] at cut2
  have m1:=HO.box_cell 0 rfl 1 rfl
  clear hai
  go_region_law (first
   | (go_simp;go_at_call 68;(have HO7:=(HO.add (r:=.row (Kd.old (Kd.slice 55 k55) wr) 33 w.heap.size (.slice (some ⟨wr.heap.size,0,none⟩) 3 3) [its.take a,ot,its.drop (a+f1.length)]) (below_alloc (Below.refl _ _) _) (litOld (Kd.slice 55 k55) wr 33 w.heap.size wr [its.take a,ot,its.drop (a+f1.length)] [.slice (some ad) a ci,.slice A9 f3.length c9,.slice (if ci=a+f1.length then some ad else some (ad.add ((a+f1.length)*2))) (its.length - (a+f1.length)) (ci - (a+f1.length))] HO.le (show (3:Nat)≤maxLen by unfold maxLen;decide) HREP.out)).drew;have hC7:=Kd.C_old (HO7.row_sl 5 rfl).2.2 (below_drew (below_alloc (Below.refl _ _) _));(refine (concat3_calls _ HPUT2.out hC7 (by have:=HFL.out;omega)).mono ?_);rintro e W8 ⟨v8,rfl,hR8,hb8⟩;have HO8:=HO7.called hb8 hR8;obtain ⟨A8,c8,rfl,-,-⟩:=HO8.row_at 6 rfl;clear HO HO7 hC7 hR8 hb8 m1 cut1 cut2;have m1:=HO8.box_cell 0 rfl 1 rfl;have fz1:=HO8.box_free 0 rfl 1)))
  all_goals
   have HO9:=HO8.put 0 rfl 1 (.slice A8 fin.length c8) (Nat.le_add_right 2 1) rfl
   have HO10:=HO9.pick3 0 6 2 rfl rfl rfl (by decide) (by decide) (by decide)
   clear HO8 HO9 m1 fz1
   have m1:=HO10.box_cell 0 rfl 1 rfl
   have hfb:(fin.length:Int)≤2000:=by have:=HFL.out;omega
   have hab:(a:Int)+(f3.length:Int)≤5000:=by have:=HA.out;have:=B3.out;have:=BI.out;omega
   by_cases hov:fin.length > 200
   ·
    have v1:((fin.length:Int) > 200)=True:=eq_true (by omega)
    have v2:decide ((fin.length:Int) > 200)=true:=decide_eq_true (by omega)
    have HOV:=Aside0.mk hov
    clear hov
    go_wp2
    all_goals first|exact ⟨rfl,A8,c8,HO10,by rw [← HEE.out,if_pos HOV.out];rfl⟩|exact ⟨rfl,⟨A8,c8,HO10⟩,by rw [← HEE.out,if_pos HOV.out];rfl⟩
   ·
    have v1:((fin.length:Int) > 200)=False:=eq_false (by omega)
    have v2:decide ((fin.length:Int) > 200)=false:=decide_eq_false (by omega)
    have HOV:=Aside0.mk hov
    clear hov
    go_wp2
    all_goals
     go_ret
     first|exact ⟨A8,c8,HO10,by rw [← HEE.out,if_neg HOV.out];rfl⟩|exact ⟨⟨A8,c8,HO10⟩,by rw [← HEE.out,if_neg HOV.out];rfl⟩
end Go.Proofs.Ytlgkeaildncojaa.Q
end
section
namespace Go.Proofs.Ytlgkeaildncojaa.Q
open Go.RowKit Go.Shelf Go.Proofs.YtlgkeaildncojaaW.PrintWords Go.Proofs.YtlgkeaildncojaaW.PrintLast Go.Proofs.YtlgkeaildncojaaW.PrintMore
set_option linter.unusedSimpArgs false
set_option linter.unusedVariables false
attribute [local go_sem] Oper.semAt_some max2_int min2_int max_two min_two max_three min_three max_four min_four
abbrev ROut:=Option (Int × Int × List S55 × Nat)
def nextE (e place:Int) (n:Nat) (x:Int) (n2 n1:Nat):Int:=if place+(n:Int) > e then x else mx (e+(n2:Int) - (n1:Int)) x
def callsF (ap:S49→Nat→List S55→Nat→ROut) (all:List S24) (a:Nat):List S60→Int→List S55→Nat→ROut
 | [],e,its,wk=>some (0,e,its,wk)
 | c :: cs,e,its,wk =>
  if e≤1000000∧-1000000≤e∧its.length≤200∧wk≤6001 then
   if (a:Int)+c.f0 ≥ e then callsF ap all a cs e its wk
   else match tryF its ((a:Int)+c.f0) (all.getD c.f1.toNat z24).f0 wk with
    | (err,m,wk1)=>if err=0 then (match m with
     | none=>callsF ap all a cs e its wk1
     | some q=>(ap q ((a:Int)+c.f0).toNat its wk1).bind fun y=>if y.1=0 then callsF ap all a cs (nextE e ((a:Int)+c.f0) q.f1.length y.2.1 y.2.2.1.length its.length) y.2.2.1 y.2.2.2 else some (y.1,0,y.2.2.1,y.2.2.2))
     else some (err,0,its,wk1)
  else none
def applyF (all:List S24):Nat→S49→Nat→List S55→Nat→ROut
  | 0,_,_,_,_=>none
  | d+1,r,a,its,wk=>if its.length≤200∧wk≤6001 then
      (if r.f4.length=0 then (if (putF its a r).length > 200 then some (2,0,putF its a r,wk) else some (0,((a+r.f3.length:Nat):Int),putF its a r,wk))
       else callsF (applyF all d) all a r.f4 ((a:Int)+(r.f1.length:Int)) its wk)
    else none
def goodR (n:Nat) (r:S49):Prop:=(r.f0.length≤1000∧r.f1.length≤1000∧r.f2.length≤1000)∧r.f3.length≤1000∧∀ c∈r.f4,0≤c.f0∧c.f0≤1000∧0≤c.f1∧c.f1<(n:Int)
theorem match_in {r:S49} {its:List S55} {at_:Int} (h:matchP r its at_=true):0≤at_∧at_+(r.f1.length:Int)≤(its.length:Int)∧0<r.f1.length:=by
 unfold matchP at h
 split at h
 ·
  cases h
 ·
  omega
theorem tryF_some {its:List S55} {at_:Int}:∀ {l:List S49} {wk:Nat} {err:Int} {q:S49} {wk1:Nat},tryF its at_ l wk=(err,some q,wk1)→q∈l∧matchP q its at_=true∧wk1≤6000
 | [],wk,err,q,wk1,h=>by simp [tryF] at h
 | r :: rs,wk,err,q,wk1,h=>by
  unfold tryF at h
  split at h
  ·
   simp at h
  ·
   split at h
   ·
    rename_i h1 h2
    simp only [Prod.mk.injEq,Option.some.injEq] at h
    obtain ⟨_,h3,h4⟩:=h
    subst h3 h4
    exact ⟨List.mem_cons_self,h2,by omega⟩
   ·
    obtain ⟨a,b,c⟩:=tryF_some h
    exact ⟨List.mem_cons_of_mem _ a,b,c⟩
theorem tryF_wk {its:List S55} {at_:Int}:∀ {l:List S49} {wk:Nat} {err:Int} {m:Option S49} {wk1:Nat},tryF its at_ l wk=(err,m,wk1)→wk≤6001→err=0→wk1≤6001
 | [],wk,err,m,wk1,h,hw,h0=>by simp [tryF] at h;omega
 | r :: rs,wk,err,m,wk1,h,hw,h0=>by
  unfold tryF at h
  split at h
  ·
   simp only [Prod.mk.injEq] at h
   omega
  ·
   split at h
   ·
    simp only [Prod.mk.injEq] at h
    omega
   ·
    exact tryF_wk h (by omega) h0
theorem calls_step (ap:S49→Nat→List S55→Nat→ROut) (all:List S24) (a:Nat) (l:List S60) (j:Nat) (e:Int) (its:List S55) (wk:Nat) (h:j<l.length):callsF ap all a (l.drop j) e its wk =
  if e≤1000000∧-1000000≤e∧its.length≤200∧wk≤6001 then
   if (a:Int)+(l.getD j z60).f0 ≥ e then callsF ap all a (l.drop (j+1)) e its wk
   else match tryF its ((a:Int)+(l.getD j z60).f0) (all.getD (l.getD j z60).f1.toNat z24).f0 wk with
    | (err,m,wk1)=>if err=0 then (match m with
     | none=>callsF ap all a (l.drop (j+1)) e its wk1
     | some q=>(ap q ((a:Int)+(l.getD j z60).f0).toNat its wk1).bind fun y=>if y.1=0 then callsF ap all a (l.drop (j+1)) (nextE e ((a:Int)+(l.getD j z60).f0) q.f1.length y.2.1 y.2.2.1.length its.length) y.2.2.1 y.2.2.2 else some (y.1,0,y.2.2.1,y.2.2.2))
     else some (err,0,its,wk1)
  else none:=by
 rw [List.drop_eq_getElem_cons h,List.getD_eq_getElem?_getD,List.getElem?_eq_getElem h]
 rfl
theorem callsF_len (ap:S49→Nat→List S55→Nat→ROut) (all:List S24) (a:Nat) (hap:∀ r a its wk x its2 wk2,ap r a its wk=some (0,x,its2,wk2)→its2.length≤200∧wk2≤6001):∀ (cs:List S60) (e:Int) (its:List S55) (wk:Nat) (x:Int) (its2:List S55) (wk2:Nat),its.length≤200→wk≤6001→callsF ap all a cs e its wk=some (0,x,its2,wk2)→its2.length≤200∧wk2≤6001:=by
 intro cs
 induction cs with
 | nil =>
  intro e its wk x its2 wk2 h1 h2 h
  simp only [callsF,Option.some.injEq,Prod.mk.injEq] at h
  obtain ⟨_,_,h3,h4⟩:=h
  subst h3 h4
  exact ⟨h1,h2⟩
 | cons c cs ih =>
  intro e its wk x its2 wk2 h1 h2 h
  rw [callsF] at h
  split at h
  case isFalse=>cases h
  split at h
  ·
   exact ih _ _ _ _ _ _ h1 h2 h
  ·
   obtain ⟨err1,m,wk1,htr⟩:∃ err1 m wk1,tryF its ((a:Int)+c.f0) (all.getD c.f1.toNat z24).f0 wk=(err1,m,wk1):=⟨_,_,_,rfl⟩
   rw [htr] at h
   dsimp only at h
   by_cases he:err1=0
   ·
    rw [if_pos he] at h
    have hw:=tryF_wk htr h2 he
    cases m with
    | none=>exact ih _ _ _ _ _ _ h1 hw h
    | some q =>
     dsimp only at h
     obtain ⟨y,hy,h⟩:=Option.bind_eq_some_iff.mp h
     obtain ⟨err2,x2,its3,wk3⟩:=y
     dsimp only at h
     by_cases he2:err2=0
     ·
      rw [if_pos he2] at h
      subst he2
      obtain ⟨l1,l2⟩:=hap _ _ _ _ _ _ _ hy
      exact ih _ _ _ _ _ _ l1 l2 h
     ·
      rw [if_neg he2] at h
      simp only [Option.some.injEq,Prod.mk.injEq] at h
      exact absurd h.1 he2
   ·
    rw [if_neg he] at h
    simp only [Option.some.injEq,Prod.mk.injEq] at h
    exact absurd h.1 he
theorem applyF_len (all:List S24):∀ (d:Nat) (r:S49) (a:Nat) (its:List S55) (wk:Nat) (x:Int) (its2:List S55) (wk2:Nat),applyF all d r a its wk=some (0,x,its2,wk2)→its2.length≤200∧wk2≤6001:=by
 intro d
 induction d with
 | zero=>intro r a its wk x its2 wk2 h;cases h
 | succ d ih =>
  intro r a its wk x its2 wk2 h
  rw [applyF] at h
  split at h
  case isFalse=>cases h
  rename_i hb
  split at h
  ·
   split at h
   ·
    simp only [Option.some.injEq,Prod.mk.injEq] at h
    exact absurd h.1 (by decide)
   ·
    simp only [Option.some.injEq,Prod.mk.injEq] at h
    obtain ⟨_,_,h3,h4⟩:=h
    subst h3 h4
    exact ⟨by omega,hb.2⟩
  ·
   exact callsF_len _ all a ih _ _ _ _ _ _ _ hb.1 hb.2 h
theorem tryRes_some {w:World} {q:S49} {e:Ending} (h:tryRes w 0 (some q) e):∃ v,e=.returned (.tuple #[v,.bool true])∧ruleV w q v:=by
 unfold tryRes at h
 rw [if_pos rfl] at h
 exact h
theorem tryRes_fail {w:World} {err:Int} {m:Option S49} {e:Ending} (h:tryRes w err m e) (h0:¬ err=0):e=fails err:=by
 unfold tryRes at h
 rw [if_neg h0] at h
 exact h
theorem tryRes_none {w:World} {e:Ending} (h:tryRes w 0 none e):e=.returned (.tuple #[zeroRule,.bool false]):=by
 unfold tryRes at h
 rw [if_pos rfl] at h
 exact h
theorem sz60:(Try.prog.info? 60).map (·.size)=some 2:=by kernel_rfl
def Apl (w:World) (K:Nat→Obj→Prop) (g:Nat) (va:Value) (all:List S24) (d:Nat):Prop:=∀ (W:World) (R:Res) (Ai:Option Addr) (ci:Nat) (its:List S55) (wk:Nat) (r:S49) (v:Value) (a:Nat) (err x:Int) (its2:List S55) (wk2:Nat),
 Own w W [.box g 77 #[va,.slice Ai its.length ci,.int .i64 wk],.row k55 55 w.heap.size (.slice Ai its.length ci) its,R] K→ruleV w r v→goodR all.length r→a+r.f1.length≤its.length→0<r.f1.length →
 applyF all d r a its wk=some (err,x,its2,wk2) →
 Calls Try.prog 58 #[.pointer (some ⟨g,0,none⟩),v,.int .i64 a] W fun e W'=>∃ Ai2 ci2,Own w W' [.box g 77 #[va,.slice Ai2 its2.length ci2,.int .i64 wk2],.row k55 55 w.heap.size (.slice Ai2 its2.length ci2) its2,R] K ∧
  e=if err=0 then .returned (.int .i64 x) else fails err
set_option maxRecDepth 100000 in
set_option maxHeartbeats 16000000 in
theorem apply_calls (w:World) (K:Nat→Obj→Prop) (g:Nat) (Aa:Option Addr) (ca:Nat) (all:List S24) (HA:Kd.C k24 w Aa all.length all) (hg:∀ k,k<all.length→∀ y∈(all.getD k z24).f0,goodR all.length y):∀ d,Apl w K g (.slice Aa all.length ca) all d:=by
 intro d
 induction d with
 | zero =>
  intro W R Ai ci its wk r v a err x its2 wk2 HO hv hr ha hpos h
  cases h
 | succ d ih =>
  intro W R Ai ci its wk r v a err x its2 wk2 HO hv hr ha hpos h
  obtain ⟨A0,c0,A1,c1,A2,c2,A3,c3,A4,c4,rfl,y0,y1,y2,y3,y4,y5,y6,y7,y8,y9⟩:=hv
  obtain ⟨f0,f1,f2,f3,f4⟩:=r
  dsimp only at y0 y1 y2 y3 y4 y5 y6 y7 y8 y9 ha hpos hr h ⊢
  rw [applyF] at h
  split at h
  case isFalse=>cases h
  rename_i hb
  by_cases h4:f4.length=0
  ·
   rw [if_pos h4] at h
   refine (leaf_calls HO f0 f1 f2 f3 f4 A0 A1 A2 A3 A4 c0 c1 c2 c3 c4 y7 h4 hr.1.2.1 hr.2.1 (by omega) hpos a ha).mono ?_
   rintro e W' ⟨A',c',HO',rfl⟩
   by_cases hp:(putF its a ⟨f0,f1,f2,f3,f4⟩).length > 200
   ·
    rw [if_pos hp] at h ⊢
    simp only [Option.some.injEq,Prod.mk.injEq] at h
    obtain ⟨e1,e2,e3,e4⟩:=h
    subst e1 e2 e3 e4
    exact ⟨A',c',HO',by rw [if_neg (by decide)]⟩
   ·
    rw [if_neg hp] at h ⊢
    simp only [Option.some.injEq,Prod.mk.injEq] at h
    obtain ⟨e1,e2,e3,e4⟩:=h
    subst e1 e2 e3 e4
    exact ⟨A',c',HO',by rw [if_pos rfl]⟩
  ·
   rw [if_neg h4] at h
   have H:=Aside0.mk h
   have IH:=Aside0.mk ih
   have HG:=Aside0.mk hg
   have HAA:=Aside0.mk HA
   have H9:=Aside0.mk y9
   have hcall:=hr.2.2
   have HCL:=Aside0.mk hcall
   have HN4:=Aside0.mk (Kd.C_max y9)
   have HBD:=Aside0.mk hb
   have HAI:=Aside0.mk ha
   have e4:((f4.length:Int)==0)=false:=beq_eq_false_iff_ne.mpr (by omega)
   have hq1:(a:Int)+(f1.length:Int)≤3000:=by omega
   have HAB:=Aside0.mk (show (a:Int)≤200 by omega)
   obtain ⟨ee,hee⟩:∃ ee,(if err=0 then Ending.returned (.int .i64 x) else fails err)=ee:=⟨_,rfl⟩
   have HEE:=Aside0.mk hee
   rw [hee]
   clear hee h ih hg HA y0 y1 y2 y3 y4 y5 y6 y7 y8 y9 hr hcall hb ha hpos h4
   go_enter Try.func58,Try.ntmps58
   go_wp2_with (first
    | ((with_reducible refine gate_dst (N:=4) rfl ?_);refine ev_box (N:=4) (cs:=#[.slice A0 f0.length c0,.slice A1 f1.length c1,.slice A2 f2.length c2,.slice A3 f3.length c3,.slice A4 f4.length c4]) (t:=49) HO rfl rfl zhr ?_;intro g4 W4 HO4 hb4;clear HO hb4;have z1:=HO4.box_cell 3 rfl 1 rfl;have z4:=HO4.box_cell 3 rfl 4 rfl))
   clear z1 z4
   go_loopw [7,83] (fun v7 v83 w'=>∃ (j:Nat) (e:Int) (Ai:Option Addr) (ci:Nat) (its:List S55) (wk:Nat),v83=.int .i64 j∧v7=.int .i64 e∧Aside0 (j≤f4.length)∧Aside0 (callsF (applyF all d) all a (f4.drop j) e its wk=some (err,x,its2,wk2))∧Aside0 (Own w w' [.box g 77 #[.slice Aa all.length ca,.slice Ai its.length ci,.int .i64 wk],.row k55 55 w.heap.size (.slice Ai its.length ci) its,R,.box g4 49 #[.slice A0 f0.length c0,.slice A1 f1.length c1,.slice A2 f2.length c2,.slice A3 f3.length c3,.slice A4 f4.length c4]] K)) (fun _ v83 _=>f4.length - (intOf v83).toNat)
   case atStart=>exact ⟨0,_,Ai,ci,its,wk,rfl,rfl,⟨Nat.zero_le _⟩,H,⟨HO4⟩⟩
   case round =>
    clear HO4 H HBD HAI hq1
    obtain ⟨j,e,Ai,ci,its,wk,rfl,rfl,HK,HP,HOO⟩:=hrel
    have HO:=HOO.out
    clear HOO
    by_cases hlt:j<f4.length
    case neg =>
     have r1:¬ ((j:Int)<(f4.length:Int)):=by omega
     have hz:=HP.out
     rw [List.drop_of_length_le (by omega),callsF] at hz
     simp only [Option.some.injEq,Prod.mk.injEq] at hz
     obtain ⟨e1,e2,e3,e5⟩:=hz
     subst e1 e2 e3 e5
     have HO9:=HO.upto 3
     clear hlt HP
     go_wp2
     go_ret
     first|exact ⟨Ai,ci,HO9,by rw [← HEE.out];first|(rw [if_pos rfl];rfl)|(rw [if_pos trivial];rfl)⟩|exact ⟨⟨Ai,ci,HO9⟩,by rw [← HEE.out];first|(rw [if_pos rfl];rfl)|(rw [if_pos trivial];rfl)⟩
    have hst:=calls_step (applyF all d) all a f4 j e its wk hlt
    rw [HP.out] at hst
    have hcj:=HCL.out _ (getD_in f4 j z60 hlt)
    obtain ⟨ad4,hA4,x0,x1⟩:=at_T60 H9.out (j:Int) (by omega) (by omega)
    subst hA4
    rw [show rd_T60 f4 (j:Int)=f4.getD j z60 from rfl] at x0 x1
    rw [Int.toNat_natCast] at x0 x1
    replace x0:=pw_cell_below HO.below x0
    replace x1:=pw_cell_below HO.below x1
    generalize f4.getD j z60=cv at *
    obtain ⟨c0',c1'⟩:=cv
    dsimp only at hst hcj x0 x1
    obtain ⟨g0,g1,g2,g3⟩:=hcj
    obtain ⟨p0,rfl⟩:=Int.eq_ofNat_of_zero_le g0
    obtain ⟨lk,rfl⟩:=Int.eq_ofNat_of_zero_le g2
    split at hst
    case isFalse=>cases hst
    rename_i hbd
    have r1:((j:Int)<(f4.length:Int))=True:=eq_true (by omega)
    have r0:(0≤(j:Int))=True:=eq_true (by omega)
    have hkb:(j:Int)+1≤9223372036854775807:=by have:=HN4.out;omega
    have HKL:=Aside0.mk hlt
    have HLK:=Aside0.mk (show lk<all.length by omega)
    have HB2:=Aside0.mk hbd
    have HG1:=Aside0.mk g1
    rw [Int.toNat_natCast] at hst
    have hpb:(a:Int)+(p0:Int)≤2000:=by have:=HAB.out;omega
    have w1b:(p0:Int)≤1000:=g1
    have heb1:e≤1000000:=hbd.1
    have heb2:-1000000≤e:=hbd.2.1
    clear g0 g1 g2 g3 hlt HP
    by_cases hge:(a:Int)+(p0:Int) ≥ e
    ·
     rw [if_pos hge] at hst
     have HST:=Aside0.mk hst.symm
     have s1:((a:Int)+(p0:Int) ≥ e)=True:=eq_true hge
     have s2:decide ((a:Int)+(p0:Int) ≥ e)=true:=decide_eq_true hge
     clear hst hge hbd
     go_wp2_with (first
      | ((with_reducible refine gate_dst (N:=13) rfl ?_);refine ev_box (N:=13) (cs:=#[.int .i64 0,.int .i64 0]) (t:=60) HO rfl rfl zhr ?_;intro g13 W1 HO1 hb1;clear HO hb1)
      | ((with_reducible refine gate_store (t:=60) (p:=13) rfl ?_);refine ev_store (cs':=#[.int .i64 p0,.int .i64 lk]) (.agg #[.int .i64 p0,.int .i64 lk]) 4 HO1 rfl rfl rfl rfl 0 rfl rfl sz60 za77 (Nat.le_refl _) rfl ?_;intro W2 HO2;clear HO1 x0 x1;have u0:=HO2.box_cell 4 rfl 0 rfl;have u1:=HO2.box_cell 4 rfl 1 rfl))
     have HO3:=HO2.upto 4
     go_roundw
     case rel=>exact ⟨j+1,e,Ai,ci,its,wk,by go_num,rfl,⟨HKL.out⟩,HST,⟨HO3⟩⟩
     case measure=>have:=HKL.out;simp [intOf];omega
    rw [if_neg hge] at hst
    have s1:((a:Int)+(p0:Int) ≥ e)=False:=eq_false hge
    have s2:decide ((a:Int)+(p0:Int) ≥ e)=false:=decide_eq_false hge
    clear hge
    obtain ⟨err1,m,wk1,htr⟩:∃ err1 m wk1,tryF its ((a:Int)+(p0:Int)) (all.getD lk z24).f0 wk=(err1,m,wk1):=⟨_,_,_,rfl⟩
    rw [htr] at hst
    dsimp only at hst
    have HTR:=Aside0.mk htr
    have hsml:∀ y∈(all.getD lk z24).f0,small y:=fun y hy=>(HG.out lk HLK.out y hy).1
    have HSML:=Aside0.mk hsml
    clear hsml
    by_cases herr:err1=0
    case neg =>
     rw [if_neg herr] at hst
     simp only [Option.some.injEq,Prod.mk.injEq] at hst
     obtain ⟨e1,e2,e3,e5⟩:=hst
     have E1:=Aside0.mk e1
     have E3:=Aside0.mk e3
     have E5:=Aside0.mk e5
     have HER:=Aside0.mk herr
     clear htr herr hbd e1 e2 e3 e5
     go_wp2_with (first
      | ((with_reducible refine gate_dst (N:=13) rfl ?_);refine ev_box (N:=13) (cs:=#[.int .i64 0,.int .i64 0]) (t:=60) HO rfl rfl zhr ?_;intro g13 W1 HO1 hb1;clear HO hb1)
      | ((with_reducible refine gate_store (t:=60) (p:=13) rfl ?_);refine ev_store (cs':=#[.int .i64 p0,.int .i64 lk]) (.agg #[.int .i64 p0,.int .i64 lk]) 4 HO1 rfl rfl rfl rfl 0 rfl rfl sz60 za77 (Nat.le_refl _) rfl ?_;intro W2 HO2;clear HO1 x0 x1;have u0:=HO2.box_cell 4 rfl 0 rfl;have u1:=HO2.box_cell 4 rfl 1 rfl)
      | (go_at_call 57;(have HOb:=Own.bag [.box g 77 #[.slice Aa all.length ca,.slice Ai its.length ci,.int .i64 wk],.row k55 55 w.heap.size (.slice Ai its.length ci) its] [R,.box g4 49 #[.slice A0 f0.length c0,.slice A1 f1.length c1,.slice A2 f2.length c2,.slice A3 f3.length c3,.slice (some ad4) f4.length c4],.box g13 60 #[.int .i64 p0,.int .i64 lk]] HO2;refine (try_calls HOb HAA.out lk HLK.out ((a:Int)+(p0:Int)) (by omega) (by have:=HB2.out;omega) HB2.out.2.2.2 HSML.out err1 m wk1 HTR.out).mono ?_;rintro e_ W4 ⟨HO4_,hres⟩;have HO5:=Own.unbag [_,_] _ HO4_;clear HO2 HOb HO4_ u0 u1;replace hres:=tryRes_fail hres HER.out;unfold fails at hres;subst hres;replace HO5:=HO5.upto 3)))
     have HER2:Aside0 (¬ err=0):=⟨by rw [E1.out];exact HER.out⟩
     have e3:=E3.out
     have e5:=E5.out
     subst e3 e5
     first|exact ⟨rfl,Ai,ci,HO5,by rw [← HEE.out,if_neg HER2.out,E1.out];rfl⟩|exact ⟨rfl,⟨Ai,ci,HO5⟩,by rw [← HEE.out,if_neg HER2.out,E1.out];rfl⟩
    rw [if_pos herr] at hst
    subst herr
    have hwk1:=tryF_wk htr hbd.2.2.2 rfl
    have HWK1:=Aside0.mk hwk1
    cases m with
    | none =>
     dsimp only at hst
     have HST:=Aside0.mk hst.symm
     clear hst htr hbd hwk1
     go_wp2_with (first
      | ((with_reducible refine gate_dst (N:=13) rfl ?_);refine ev_box (N:=13) (cs:=#[.int .i64 0,.int .i64 0]) (t:=60) HO rfl rfl zhr ?_;intro g13 W1 HO1 hb1;clear HO hb1)
      | ((with_reducible refine gate_store (t:=60) (p:=13) rfl ?_);refine ev_store (cs':=#[.int .i64 p0,.int .i64 lk]) (.agg #[.int .i64 p0,.int .i64 lk]) 4 HO1 rfl rfl rfl rfl 0 rfl rfl sz60 za77 (Nat.le_refl _) rfl ?_;intro W2 HO2;clear HO1 x0 x1;have u0:=HO2.box_cell 4 rfl 0 rfl;have u1:=HO2.box_cell 4 rfl 1 rfl)
      | (go_at_call 57;(have HOb:=Own.bag [.box g 77 #[.slice Aa all.length ca,.slice Ai its.length ci,.int .i64 wk],.row k55 55 w.heap.size (.slice Ai its.length ci) its] [R,.box g4 49 #[.slice A0 f0.length c0,.slice A1 f1.length c1,.slice A2 f2.length c2,.slice A3 f3.length c3,.slice (some ad4) f4.length c4],.box g13 60 #[.int .i64 p0,.int .i64 lk]] HO2;refine (try_calls HOb HAA.out lk HLK.out ((a:Int)+(p0:Int)) (by omega) (by have:=HB2.out;omega) HB2.out.2.2.2 HSML.out 0 none wk1 HTR.out).mono ?_;rintro e_ W4 ⟨HO4_,hres⟩;have HO5:=Own.unbag [_,_] _ HO4_;clear HO2 HOb HO4_ u0 u1;replace hres:=tryRes_none hres;unfold zeroRule at hres;subst hres))
      | ((with_reducible refine gate_dst (N:=15) rfl ?_);refine ev_box (N:=15) (cs:=#[.slice none 0 0,.slice none 0 0,.slice none 0 0,.slice none 0 0,.slice none 0 0]) (t:=49) HO5 rfl rfl zhr ?_;intro g15 W7 HO7 hb7;clear HO5 hb7)
      | ((with_reducible refine gate_store (t:=49) (p:=15) rfl ?_);refine ev_store (cs':=#[.slice none 0 0,.slice none 0 0,.slice none 0 0,.slice none 0 0,.slice none 0 0]) (.agg #[.slice none 0 0,.slice none 0 0,.slice none 0 0,.slice none 0 0,.slice none 0 0]) 5 HO7 rfl rfl rfl rfl 0 rfl rfl sz49 za77 (Nat.le_refl _) rfl ?_;intro W8 HO8;clear HO7))
     have HO9:=HO8.upto 4
     go_roundw
     case rel=>exact ⟨j+1,e,Ai,ci,its,wk1,by go_num,rfl,⟨HKL.out⟩,HST,⟨HO9⟩⟩
     case measure=>have:=HKL.out;simp [intOf];omega
    | some q =>
     dsimp only at hst
     obtain ⟨hqm,hmt,-⟩:=tryF_some htr
     have hqg:=HG.out lk HLK.out q hqm
     obtain ⟨hp1,hp2,hp3⟩:=match_in hmt
     obtain ⟨y,hap,hst⟩:=Option.bind_eq_some_iff.mp hst.symm
     obtain ⟨err2,x2,its3,wk3⟩:=y
     dsimp only at hst
     rw [show ((a:Int)+(p0:Int)).toNat=a+p0 by omega] at hap
     obtain ⟨q0,q1,q2,q3,q4⟩:=q
     dsimp only at hp2 hp3 hst
     have HAP:=Aside0.mk hap
     have HQG:=Aside0.mk hqg
     have HP2:=Aside0.mk (show a+p0+q1.length≤its.length by omega)
     have HP3:=Aside0.mk hp3
     have hqb:(a:Int)+(p0:Int)+(q1.length:Int)≤4000:=by omega
     have hib:(its.length:Int)≤200:=by omega
     clear hap hqg hp1 hp2 hp3 hqm hmt htr hbd hwk1
     by_cases her2:err2=0
     case neg =>
      rw [if_neg her2] at hst
      simp only [Option.some.injEq,Prod.mk.injEq] at hst
      obtain ⟨e1,e2,e3,e5⟩:=hst
      subst e1 e2 e3 e5
      have HER:=Aside0.mk her2
      clear her2
      go_wp2_with (first
       | ((with_reducible refine gate_dst (N:=13) rfl ?_);refine ev_box (N:=13) (cs:=#[.int .i64 0,.int .i64 0]) (t:=60) HO rfl rfl zhr ?_;intro g13 W1 HO1 hb1;clear HO hb1)
       | ((with_reducible refine gate_store (t:=60) (p:=13) rfl ?_);refine ev_store (cs':=#[.int .i64 p0,.int .i64 lk]) (.agg #[.int .i64 p0,.int .i64 lk]) 4 HO1 rfl rfl rfl rfl 0 rfl rfl sz60 za77 (Nat.le_refl _) rfl ?_;intro W2 HO2;clear HO1 x0 x1;have u0:=HO2.box_cell 4 rfl 0 rfl;have u1:=HO2.box_cell 4 rfl 1 rfl)
       | (go_at_call 57;(have HOb:=Own.bag [.box g 77 #[.slice Aa all.length ca,.slice Ai its.length ci,.int .i64 wk],.row k55 55 w.heap.size (.slice Ai its.length ci) its] [R,.box g4 49 #[.slice A0 f0.length c0,.slice A1 f1.length c1,.slice A2 f2.length c2,.slice A3 f3.length c3,.slice (some ad4) f4.length c4],.box g13 60 #[.int .i64 p0,.int .i64 lk]] HO2;refine (try_calls HOb HAA.out lk HLK.out ((a:Int)+(p0:Int)) (by omega) (by have:=HB2.out;omega) HB2.out.2.2.2 HSML.out 0 (some ⟨q0,q1,q2,q3,q4⟩) wk1 HTR.out).mono ?_;rintro e_ W4 ⟨HO4_,hres⟩;have HO5:=Own.unbag [_,_] _ HO4_;clear HO2 HOb HO4_ u0 u1;replace hres:=tryRes_some hres;obtain ⟨v_,rfl,B0,d0,B1,d1,B2,d2,B3,d3,B4,d4,rfl,v0,v1,v2,v3,v4,v5,v6,v7,v8,v9⟩:=hres;have HRV:=Aside0.mk (show ruleV w ⟨q0,q1,q2,q3,q4⟩ (.agg #[.slice B0 q0.length d0,.slice B1 q1.length d1,.slice B2 q2.length d2,.slice B3 q3.length d3,.slice B4 q4.length d4]) from ⟨B0,d0,B1,d1,B2,d2,B3,d3,B4,d4,rfl,v0,v1,v2,v3,v4,v5,v6,v7,v8,v9⟩);clear v0 v1 v2 v3 v4 v5 v6 v7 v8 v9))
       | ((with_reducible refine gate_dst (N:=15) rfl ?_);refine ev_box (N:=15) (cs:=#[.slice none 0 0,.slice none 0 0,.slice none 0 0,.slice none 0 0,.slice none 0 0]) (t:=49) HO5 rfl rfl zhr ?_;intro g15 W7 HO7 hb7;clear HO5 hb7)
       | ((with_reducible refine gate_store (t:=49) (p:=15) rfl ?_);refine ev_store (cs':=#[.slice B0 q0.length d0,.slice B1 q1.length d1,.slice B2 q2.length d2,.slice B3 q3.length d3,.slice B4 q4.length d4]) (.agg #[.slice B0 q0.length d0,.slice B1 q1.length d1,.slice B2 q2.length d2,.slice B3 q3.length d3,.slice B4 q4.length d4]) 5 HO7 rfl rfl rfl rfl 0 rfl rfl sz49 za77 (Nat.le_refl _) rfl ?_;intro W8 HO8;clear HO7;have m1:=HO8.box_cell 0 rfl 1 rfl;have v0:=HO8.box_cell 5 rfl 0 rfl;have v1:=HO8.box_cell 5 rfl 1 rfl;have v2:=HO8.box_cell 5 rfl 2 rfl;have v3:=HO8.box_cell 5 rfl 3 rfl;have v4:=HO8.box_cell 5 rfl 4 rfl)
       | (go_at_call 58;(have HOb:=Own.bag [.box g 77 #[.slice Aa all.length ca,.slice Ai its.length ci,.int .i64 wk1],.row k55 55 w.heap.size (.slice Ai its.length ci) its] [R,.box g4 49 #[.slice A0 f0.length c0,.slice A1 f1.length c1,.slice A2 f2.length c2,.slice A3 f3.length c3,.slice (some ad4) f4.length c4],.box g13 60 #[.int .i64 p0,.int .i64 lk],.box g15 49 #[.slice B0 q0.length d0,.slice B1 q1.length d1,.slice B2 q2.length d2,.slice B3 q3.length d3,.slice B4 q4.length d4]] HO8;have hrec:=IH.out _ _ Ai ci its wk1 _ _ (a+p0) _ _ _ _ HOb HRV.out HQG.out HP2.out HP3.out HAP.out;rw [show ((a+p0:Nat):Int)=(a:Int)+(p0:Int) from rfl] at hrec;refine hrec.mono ?_;rintro e_ W10 ⟨A8,c8,HO10_,hres⟩;have HO11:=Own.unbag [_,_] _ HO10_;clear HO8 HOb HO10_ hrec m1 v0 v1 v2 v3 v4;rw [if_neg HER.out] at hres;unfold fails at hres;subst hres;replace HO11:=HO11.upto 3)))
      first|exact ⟨rfl,A8,c8,HO11,by rw [← HEE.out,if_neg HER.out];rfl⟩|exact ⟨rfl,⟨A8,c8,HO11⟩,by rw [← HEE.out,if_neg HER.out];rfl⟩
     rw [if_pos her2] at hst
     subst her2
     have HST:=Aside0.mk hst
     clear hst
     by_cases hnx:(a:Int)+(p0:Int)+(q1.length:Int) > e
     ·
      have t1:((a:Int)+(p0:Int)+(q1.length:Int) > e)=True:=eq_true hnx
      have t2:decide ((a:Int)+(p0:Int)+(q1.length:Int) > e)=true:=decide_eq_true hnx
      have HNX:Aside0 (nextE e ((a:Int)+(p0:Int)) q1.length x2 its3.length its.length=x2):=⟨if_pos hnx⟩
      clear hnx
      go_wp2_with (first
       | ((with_reducible refine gate_dst (N:=13) rfl ?_);refine ev_box (N:=13) (cs:=#[.int .i64 0,.int .i64 0]) (t:=60) HO rfl rfl zhr ?_;intro g13 W1 HO1 hb1;clear HO hb1)
       | ((with_reducible refine gate_store (t:=60) (p:=13) rfl ?_);refine ev_store (cs':=#[.int .i64 p0,.int .i64 lk]) (.agg #[.int .i64 p0,.int .i64 lk]) 4 HO1 rfl rfl rfl rfl 0 rfl rfl sz60 za77 (Nat.le_refl _) rfl ?_;intro W2 HO2;clear HO1 x0 x1;have u0:=HO2.box_cell 4 rfl 0 rfl;have u1:=HO2.box_cell 4 rfl 1 rfl)
       | (go_at_call 57;(have HOb:=Own.bag [.box g 77 #[.slice Aa all.length ca,.slice Ai its.length ci,.int .i64 wk],.row k55 55 w.heap.size (.slice Ai its.length ci) its] [R,.box g4 49 #[.slice A0 f0.length c0,.slice A1 f1.length c1,.slice A2 f2.length c2,.slice A3 f3.length c3,.slice (some ad4) f4.length c4],.box g13 60 #[.int .i64 p0,.int .i64 lk]] HO2;refine (try_calls HOb HAA.out lk HLK.out ((a:Int)+(p0:Int)) (by omega) (by have:=HB2.out;omega) HB2.out.2.2.2 HSML.out 0 (some ⟨q0,q1,q2,q3,q4⟩) wk1 HTR.out).mono ?_;rintro e_ W4 ⟨HO4_,hres⟩;have HO5:=Own.unbag [_,_] _ HO4_;clear HO2 HOb HO4_ u0 u1;replace hres:=tryRes_some hres;obtain ⟨v_,rfl,B0,d0,B1,d1,B2,d2,B3,d3,B4,d4,rfl,v0,v1,v2,v3,v4,v5,v6,v7,v8,v9⟩:=hres;have HRV:=Aside0.mk (show ruleV w ⟨q0,q1,q2,q3,q4⟩ (.agg #[.slice B0 q0.length d0,.slice B1 q1.length d1,.slice B2 q2.length d2,.slice B3 q3.length d3,.slice B4 q4.length d4]) from ⟨B0,d0,B1,d1,B2,d2,B3,d3,B4,d4,rfl,v0,v1,v2,v3,v4,v5,v6,v7,v8,v9⟩);clear v0 v1 v2 v3 v4 v5 v6 v7 v8 v9))
       | ((with_reducible refine gate_dst (N:=15) rfl ?_);refine ev_box (N:=15) (cs:=#[.slice none 0 0,.slice none 0 0,.slice none 0 0,.slice none 0 0,.slice none 0 0]) (t:=49) HO5 rfl rfl zhr ?_;intro g15 W7 HO7 hb7;clear HO5 hb7)
       | ((with_reducible refine gate_store (t:=49) (p:=15) rfl ?_);refine ev_store (cs':=#[.slice B0 q0.length d0,.slice B1 q1.length d1,.slice B2 q2.length d2,.slice B3 q3.length d3,.slice B4 q4.length d4]) (.agg #[.slice B0 q0.length d0,.slice B1 q1.length d1,.slice B2 q2.length d2,.slice B3 q3.length d3,.slice B4 q4.length d4]) 5 HO7 rfl rfl rfl rfl 0 rfl rfl sz49 za77 (Nat.le_refl _) rfl ?_;intro W8 HO8;clear HO7;have m1:=HO8.box_cell 0 rfl 1 rfl;have v0:=HO8.box_cell 5 rfl 0 rfl;have v1:=HO8.box_cell 5 rfl 1 rfl;have v2:=HO8.box_cell 5 rfl 2 rfl;have v3:=HO8.box_cell 5 rfl 3 rfl;have v4:=HO8.box_cell 5 rfl 4 rfl)
       | (go_at_call 58;(have HOb:=Own.bag [.box g 77 #[.slice Aa all.length ca,.slice Ai its.length ci,.int .i64 wk1],.row k55 55 w.heap.size (.slice Ai its.length ci) its] [R,.box g4 49 #[.slice A0 f0.length c0,.slice A1 f1.length c1,.slice A2 f2.length c2,.slice A3 f3.length c3,.slice (some ad4) f4.length c4],.box g13 60 #[.int .i64 p0,.int .i64 lk],.box g15 49 #[.slice B0 q0.length d0,.slice B1 q1.length d1,.slice B2 q2.length d2,.slice B3 q3.length d3,.slice B4 q4.length d4]] HO8;have hrec:=IH.out _ _ Ai ci its wk1 _ _ (a+p0) _ _ _ _ HOb HRV.out HQG.out HP2.out HP3.out HAP.out;rw [show ((a+p0:Nat):Int)=(a:Int)+(p0:Int) from rfl] at hrec;refine hrec.mono ?_;rintro e_ W10 ⟨A8,c8,HO10_,hres⟩;have HO11:=Own.unbag [_,_] _ HO10_;clear HO8 HOb HO10_ hrec m1 v0 v1 v2 v3 v4;rw [if_pos rfl] at hres;subst hres;have m1:=HO11.box_cell 0 rfl 1 rfl;have v1:=HO11.box_cell 5 rfl 1 rfl)))
      have HO12:=HO11.upto 4
      go_roundw
      case rel=>exact ⟨j+1,x2,A8,c8,its3,wk3,by go_num,rfl,⟨HKL.out⟩,⟨by rw [← HNX.out];exact HST.out⟩,⟨HO12⟩⟩
      case measure=>have:=HKL.out;simp [intOf];omega
     ·
      have t1:((a:Int)+(p0:Int)+(q1.length:Int) > e)=False:=eq_false hnx
      have t2:decide ((a:Int)+(p0:Int)+(q1.length:Int) > e)=false:=decide_eq_false hnx
      have HNX:Aside0 (nextE e ((a:Int)+(p0:Int)) q1.length x2 its3.length its.length=mx (e+(its3.length:Int) - (its.length:Int)) x2):=⟨if_neg hnx⟩
      clear hnx
      have hl3b:(its3.length:Int)≤200:=by have:=(applyF_len all d _ _ _ _ _ _ _ HAP.out).1;omega
      go_wp2_with (first
       | ((with_reducible refine gate_dst (N:=13) rfl ?_);refine ev_box (N:=13) (cs:=#[.int .i64 0,.int .i64 0]) (t:=60) HO rfl rfl zhr ?_;intro g13 W1 HO1 hb1;clear HO hb1)
       | ((with_reducible refine gate_store (t:=60) (p:=13) rfl ?_);refine ev_store (cs':=#[.int .i64 p0,.int .i64 lk]) (.agg #[.int .i64 p0,.int .i64 lk]) 4 HO1 rfl rfl rfl rfl 0 rfl rfl sz60 za77 (Nat.le_refl _) rfl ?_;intro W2 HO2;clear HO1 x0 x1;have u0:=HO2.box_cell 4 rfl 0 rfl;have u1:=HO2.box_cell 4 rfl 1 rfl)
       | (go_at_call 57;(have HOb:=Own.bag [.box g 77 #[.slice Aa all.length ca,.slice Ai its.length ci,.int .i64 wk],.row k55 55 w.heap.size (.slice Ai its.length ci) its] [R,.box g4 49 #[.slice A0 f0.length c0,.slice A1 f1.length c1,.slice A2 f2.length c2,.slice A3 f3.length c3,.slice (some ad4) f4.length c4],.box g13 60 #[.int .i64 p0,.int .i64 lk]] HO2;refine (try_calls HOb HAA.out lk HLK.out ((a:Int)+(p0:Int)) (by omega) (by have:=HB2.out;omega) HB2.out.2.2.2 HSML.out 0 (some ⟨q0,q1,q2,q3,q4⟩) wk1 HTR.out).mono ?_;rintro e_ W4 ⟨HO4_,hres⟩;have HO5:=Own.unbag [_,_] _ HO4_;clear HO2 HOb HO4_ u0 u1;replace hres:=tryRes_some hres;obtain ⟨v_,rfl,B0,d0,B1,d1,B2,d2,B3,d3,B4,d4,rfl,v0,v1,v2,v3,v4,v5,v6,v7,v8,v9⟩:=hres;have HRV:=Aside0.mk (show ruleV w ⟨q0,q1,q2,q3,q4⟩ (.agg #[.slice B0 q0.length d0,.slice B1 q1.length d1,.slice B2 q2.length d2,.slice B3 q3.length d3,.slice B4 q4.length d4]) from ⟨B0,d0,B1,d1,B2,d2,B3,d3,B4,d4,rfl,v0,v1,v2,v3,v4,v5,v6,v7,v8,v9⟩);clear v0 v1 v2 v3 v4 v5 v6 v7 v8 v9))
       | ((with_reducible refine gate_dst (N:=15) rfl ?_);refine ev_box (N:=15) (cs:=#[.slice none 0 0,.slice none 0 0,.slice none 0 0,.slice none 0 0,.slice none 0 0]) (t:=49) HO5 rfl rfl zhr ?_;intro g15 W7 HO7 hb7;clear HO5 hb7)
       | ((with_reducible refine gate_store (t:=49) (p:=15) rfl ?_);refine ev_store (cs':=#[.slice B0 q0.length d0,.slice B1 q1.length d1,.slice B2 q2.length d2,.slice B3 q3.length d3,.slice B4 q4.length d4]) (.agg #[.slice B0 q0.length d0,.slice B1 q1.length d1,.slice B2 q2.length d2,.slice B3 q3.length d3,.slice B4 q4.length d4]) 5 HO7 rfl rfl rfl rfl 0 rfl rfl sz49 za77 (Nat.le_refl _) rfl ?_;intro W8 HO8;clear HO7;have m1:=HO8.box_cell 0 rfl 1 rfl;have v0:=HO8.box_cell 5 rfl 0 rfl;have v1:=HO8.box_cell 5 rfl 1 rfl;have v2:=HO8.box_cell 5 rfl 2 rfl;have v3:=HO8.box_cell 5 rfl 3 rfl;have v4:=HO8.box_cell 5 rfl 4 rfl)
       | (go_at_call 58;(have HOb:=Own.bag [.box g 77 #[.slice Aa all.length ca,.slice Ai its.length ci,.int .i64 wk1],.row k55 55 w.heap.size (.slice Ai its.length ci) its] [R,.box g4 49 #[.slice A0 f0.length c0,.slice A1 f1.length c1,.slice A2 f2.length c2,.slice A3 f3.length c3,.slice (some ad4) f4.length c4],.box g13 60 #[.int .i64 p0,.int .i64 lk],.box g15 49 #[.slice B0 q0.length d0,.slice B1 q1.length d1,.slice B2 q2.length d2,.slice B3 q3.length d3,.slice B4 q4.length d4]] HO8;have hrec:=IH.out _ _ Ai ci its wk1 _ _ (a+p0) _ _ _ _ HOb HRV.out HQG.out HP2.out HP3.out HAP.out;rw [show ((a+p0:Nat):Int)=(a:Int)+(p0:Int) from rfl] at hrec;refine hrec.mono ?_;rintro e_ W10 ⟨A8,c8,HO10_,hres⟩;have HO11:=Own.unbag [_,_] _ HO10_;clear HO8 HOb HO10_ hrec m1 v0 v1 v2 v3 v4;rw [if_pos rfl] at hres;subst hres;have m1:=HO11.box_cell 0 rfl 1 rfl;have v1:=HO11.box_cell 5 rfl 1 rfl)))
      have HO12:=HO11.upto 4
      go_roundw
      case rel=>exact ⟨j+1,mx (e+(its3.length:Int) - (its.length:Int)) x2,A8,c8,its3,wk3,by go_num,by first|rfl|(unfold mx;rfl),⟨HKL.out⟩,⟨by rw [← HNX.out];exact HST.out⟩,⟨HO12⟩⟩
      case measure=>have:=HKL.out;simp [intOf];omega
end Go.Proofs.Ytlgkeaildncojaa.Q
end
section
namespace Go.Proofs.Ytlgkeaildncojaa.Q
open Go.RowKit Go.Shelf Go.Proofs.YtlgkeaildncojaaW.PrintWords Go.Proofs.YtlgkeaildncojaaW.PrintLast Go.Proofs.YtlgkeaildncojaaW.PrintMore
set_option linter.unusedSimpArgs false
set_option linter.unusedVariables false
set_option maxRecDepth 100000
theorem assert95 (v:Value) (w:World):(Instr.typeAssert (.iface 95 v) 20 95 true).run Try.prog w=.ok (.tuple #[v,.bool true]) w:=by
 simp [Instr.typeAssert,run_underlying Try.underlying95,go_sem,Result.andThen]
theorem assertNil (w:World):(Instr.typeAssert .nilIface 20 95 true).run Try.prog w=.ok (.tuple #[.agg #[.int .i64 0],.bool false]) w:=by
 have hz:=Try.zeroValue95 w
 simp [Instr.typeAssert,run_underlying Try.underlying95,go_sem,Result.andThen,hz]
theorem catch_panicking (g:Nat) (x err:Int) (w:World) (hb:w.heap[g]?=some (.cells #[.int .i64 x] 40 (0,0))) :
  CallsD Try.prog 56 #[.pointer (some ⟨g,0,none⟩)] (.panicking [{ v:=.iface 95 (.agg #[.int .i64 err]),recovered:=false }]) w fun e u' w' =>
   e=.returned (.tuple #[])∧u'=.panicking [{ v:=.iface 95 (.agg #[.int .i64 err]),recovered:=true }]∧w'=(w.alloc (.cells #[.int .i64 err] 95)).setCell ⟨g,0,none⟩ (.int .i64 err):=by
 have h1:=assert95
 have hb2:=box_below hb (below_alloc (Below.refl w.heap.size w) (.cells #[.int .i64 err] 95))
 have hc:=(blk_cell hb2 0).trans (show (#[Value.int .i64 x])[0]?=some (.int .i64 x) from rfl)
 have hz:=blk_frozen hb2 0
 have hn:=(blk_cell (blk_new w (.cells #[.int .i64 err] 95)) 0).trans (show (#[Value.int .i64 err])[0]?=some (.int .i64 err) from rfl)
 refine callsD_of_wpS Try.func56 rfl fun c₀ cs hu=>?_
 apply wpS_seq
 apply wpS_region
 simp [wpOpsS,go_sem,recoverD,hu,Try.ntmps56,Exit.thenS,h1]
 apply wpS_seq
 apply wpS_region
 simp [wpOpsS,go_sem,recoverD,Exit.thenS]
 refine wpS_cond (t:=true) (by simp [Act.eval,Array.replicate]) ?_
 simp only [if_true]
 apply wpS_region
 simp [wpOpsS,go_sem,hc,hz,hn,bodyPostS,results,Try.results56]
theorem catch_idle (g:Nat) (w:World) :
  CallsD Try.prog 56 #[.pointer (some ⟨g,0,none⟩)] .returning w fun e u' w'=>e=.returned (.tuple #[])∧u'=.returning∧w'=w.alloc (.cells #[.int .i64 0] 95):=by
 have h1:=assertNil
 refine callsD_of_wpS Try.func56 rfl fun c₀ cs hu=>?_
 apply wpS_seq
 apply wpS_region
 simp [wpOpsS,go_sem,recoverD,hu,Try.ntmps56,Exit.thenS,h1]
 apply wpS_seq
 apply wpS_region
 simp [wpOpsS,go_sem,recoverD,Exit.thenS]
 refine wpS_cond (t:=false) (by simp [Act.eval,Array.replicate]) ?_
 simp only [Bool.false_eq_true,if_false]
 refine wpS_of_wp (wp_skip ?_)
 cases c₀
 simp_all [bodyPostS,results,Try.results56]
end Go.Proofs.Ytlgkeaildncojaa.Q
end
section
namespace Go.Proofs.Ytlgkeaildncojaa.Q
open Go.RowKit Go.Shelf Go.Proofs.YtlgkeaildncojaaW.PrintWords Go.Proofs.YtlgkeaildncojaaW.PrintLast Go.Proofs.YtlgkeaildncojaaW.PrintMore
set_option linter.unusedSimpArgs false
set_option linter.unusedVariables false
attribute [local go_sem] Oper.semAt_some
def mayB (may:List Bool) (c:Int):Bool:=decide (0≤c)&&(decide (c<(may.length:Int))&&may.getD c.toNat false)
def carryF (all:List S24) (k:Nat) (may:List Bool):Nat→Nat→List S55→Nat→Option (Int × List S55 × Nat)
  | 0,_,_,_=>none
  | n+1,a,its,wk =>
    if its.length≤200∧wk≤6001 then
      (if a<its.length then
        (if mayB may (its.getD a z55).f1=true then
          match tryF its (a:Int) (all.getD k z24).f0 wk with
          | (err,m,wk1)=>if err=0 then (match m with
            | none=>carryF all k may n (a+1) its wk1
            | some r=>(applyF all n r a its wk1).bind fun y=>if y.1=0 then (if 0≤y.2.1 then carryF all k may n y.2.1.toNat y.2.2.1 y.2.2.2 else none) else some (y.1,y.2.2.1,y.2.2.2))
            else some (err,its,wk1)
         else carryF all k may n (a+1) its wk)
       else some (0,its,wk))
    else none
theorem at_bool {w:World} {A:Option Addr} {n:Nat} {xs:List Bool} (h:Kd.bool.C w A n xs) (k:Nat) (hk:k<n):∃ ad,A=some ad∧w.cell? (ad.add k)=some (.bool (xs.getD k false)):=by
 obtain ⟨ad,c,e,_,hK,hc0⟩:=Kd.C_get h false (k:Int) (by omega) (by omega)
 rw [Int.toNat_natCast] at hK hc0
 have hc:∀ j u,c[j]?=some u→w.cell? (ad.add (k*1+j))=some u:=hc0
 obtain rfl:=hK
 exact ⟨ad,e,by have hq:=hc 0 _ rfl;rwa [Nat.mul_one,Nat.add_zero] at hq⟩
theorem sz40:(Try.prog.info? 40).map (·.size)=some 1:=by kernel_rfl
theorem results40_ (tmps:Array Value) (w:World) (g:Nat) (x:Int) (hp:tmps.getD 6 undef=.pointer (some ⟨g,0,none⟩)) (hg:w.heap[g]?=some (.cells #[.int .i64 x] 40 (0,0))) :
  (results Try.f40 tmps).run Try.prog w=.ok (.int .i64 x) w:=by
 have hc:=(blk_cell hg 0).trans (show (#[Value.int .i64 x])[0]?=some (.int .i64 x) from rfl)
 have hp':tmps[6]?.getD undef=.pointer (some ⟨g,0,none⟩):=by simpa using hp
 simp [results,Try.results40,hp',asAddr,go_sem,hc]
set_option maxRecDepth 100000 in
set_option maxHeartbeats 16000000 in
theorem carry_calls {w W:World} {K:Nat→Obj→Prop} {R:Res} {g:Nat} {Aa Ai:Option Addr} {ca ci:Nat} {all:List S24} {its:List S55} {wk:Nat}
  (HO:Own w W [.box g 77 #[.slice Aa all.length ca,.slice Ai its.length ci,.int .i64 wk],.row k55 55 w.heap.size (.slice Ai its.length ci) its,R] K)
  (HA:Kd.C k24 w Aa all.length all) (hg:∀ k,k<all.length→∀ y∈(all.getD k z24).f0,goodR all.length y) (k:Nat) (hk:k<all.length) (Am:Option Addr) (cm:Nat) (may:List Bool) (hm:Kd.bool.C w Am may.length may)
  (n:Nat) (err:Int) (its2:List S55) (wk2:Nat) (h:carryF all k may n 0 its wk=some (err,its2,wk2)) :
  Calls Try.prog 40 #[.pointer (some ⟨g,0,none⟩),.int .i64 k,.slice Am may.length cm] W fun e W'=>e=.returned (.int .i64 err)∧∃ Ai2 ci2,Own w W' [.box g 77 #[.slice Aa all.length ca,.slice Ai2 its2.length ci2,.int .i64 wk2],.row k55 55 w.heap.size (.slice Ai2 its2.length ci2) its2,R] K:=by
 have hmf:∀ (fn:Fn) (first cap:Array Value) (w:World),(Instr.makeFunc fn first cap).run Try.prog w=.ok (.func fn first cap) w:=fun _ _ _ _=>rfl
 have HAP:=fun n=>Aside0.mk (apply_calls w K g Aa ca all HA hg n)
 have H:=Aside0.mk h
 have HG:=Aside0.mk hg
 have HAA:=Aside0.mk HA
 have HK:=Aside0.mk hk
 have HM:=Aside0.mk hm
 clear h hg HA hk hm
 go_enter_defers Try.func40,Try.ntmps40
 go_wp2_with (first
  | ((with_reducible refine gate_dst (N:=6) rfl ?_);refine ev_box (N:=6) (cs:=#[.int .i64 0]) (t:=40) HO rfl rfl zhr ?_;intro g6 W6 HO6 hb6;clear HO hb6))
 go_loopg [7] n (fun nq v7 w'=>∃ (a:Nat) (Ai:Option Addr) (ci:Nat) (its:List S55) (wk:Nat),v7=.int .i64 a∧Aside0 (carryF all k may nq a its wk=some (err,its2,wk2))∧Aside0 (Own w w' [.box g 77 #[.slice Aa all.length ca,.slice Ai its.length ci,.int .i64 wk],.row k55 55 w.heap.size (.slice Ai its.length ci) its,R,.box g6 40 #[.int .i64 0]] K))
 case atStart=>exact ⟨0,Ai,ci,its,wk,rfl,H,⟨HO6⟩⟩
 case round =>
  clear HO6 H
  obtain ⟨a,Ai,ci,its,wk,rfl,HP,HOO⟩:=hrel
  have HO:=HOO.out
  clear HOO
  cases gk with
  | zero=>exact absurd HP.out (by simp [carryF])
  | succ n1 =>
   have h:=HP.out
   clear HP
   rw [carryF] at h
   split at h
   case isFalse=>cases h
   rename_i hbd
   have HBD:=Aside0.mk hbd
   have m1:=HO.box_cell 0 rfl 1 rfl
   by_cases hlt:a<its.length
   case neg =>
    rw [if_neg hlt] at h
    simp only [Option.some.injEq,Prod.mk.injEq] at h
    obtain ⟨e1,e2,e3⟩:=h
    subst e1 e2 e3
    have r1:¬ ((a:Int)<(its.length:Int)):=by omega
    clear hlt hbd
    go_wp2_with (first
     | ((with_reducible refine gate_store (t:=40) (p:=6) rfl ?_);refine ev_store (cs':=#[.int .i64 0]) (.int .i64 0) 3 HO rfl rfl rfl rfl 0 rfl rfl sz40 za77 (Nat.le_refl _) rfl ?_;intro W2 HO2;clear HO m1))
    refine leaves_cons (f:=56) (args:=#[.pointer (some ⟨g6,0,none⟩)]) (by simp) (by simp [go_sem]) ?_
    refine (catch_idle g6 _).mono ?_
    rintro e u' w'' ⟨rfl,rfl,rfl⟩
    have HO3:=HO2.alloc (.cells #[.int .i64 0] 95)
    exact ⟨_,results40_ _ _ g6 0 rfl (HO3.box_at 3 rfl).1,rfl,Ai,ci,HO3.upto 3⟩
   rw [if_pos hlt] at h
   obtain ⟨ad,hA,-,i1⟩:=at_T55 (HO.row_sl 1 rfl).2.2 (a:Int) (by omega) (by omega)
   subst hA
   rw [Int.toNat_natCast,rd55] at i1
   generalize (its.getD a z55).f1=cl at h i1
   have r1:((a:Int)<(its.length:Int))=True:=eq_true (by omega)
   have r0:(0≤(a:Int))=True:=eq_true (by omega)
   have hab:(a:Int)+1≤2000:=by omega
   have HAL:=Aside0.mk hlt
   by_cases hmay:mayB may cl=true
   case neg =>
    rw [if_neg hmay] at h
    have HST:=Aside0.mk h
    by_cases c1:cl<0
    ·
     have s1:(cl<0)=True:=eq_true c1
     have s2:decide (cl<0)=true:=decide_eq_true c1
     clear h hlt hbd hmay c1
     go_wp2
     go_roundg n1
     case measure=>omega
     case rel=>exact ⟨a+1,some ad,ci,its,wk,by go_num,HST,⟨HO⟩⟩
    have s1:(cl<0)=False:=eq_false c1
    have s2:decide (cl<0)=false:=decide_eq_false c1
    by_cases c2:cl ≥ (may.length:Int)
    ·
     have s3:(cl ≥ (may.length:Int))=True:=eq_true c2
     have s4:decide (cl ≥ (may.length:Int))=true:=decide_eq_true c2
     clear h hlt hbd hmay c1 c2
     go_wp2
     go_roundg n1
     case measure=>omega
     case rel=>exact ⟨a+1,some ad,ci,its,wk,by go_num,HST,⟨HO⟩⟩
    have s3:(cl ≥ (may.length:Int))=False:=eq_false c2
    have s4:decide (cl ≥ (may.length:Int))=false:=decide_eq_false c2
    obtain ⟨cn,rfl⟩:=Int.eq_ofNat_of_zero_le (show 0≤cl by omega)
    obtain ⟨adm,hAm,y0⟩:=at_bool HM.out cn (by omega)
    subst hAm
    have hf:may.getD cn false=false:=by
     unfold mayB at hmay
     rw [decide_eq_true (show 0≤(cn:Int) by omega),decide_eq_true (show (cn:Int)<(may.length:Int) by omega),Int.toNat_natCast] at hmay
     simpa using hmay
    rw [hf] at y0
    replace y0:=pw_cell_below HO.below y0
    have s5:(0≤(cn:Int))=True:=eq_true (by omega)
    have s6:((cn:Int)<(may.length:Int))=True:=eq_true (by omega)
    clear h hlt hbd hmay c1 c2 hf
    go_wp2
    go_roundg n1
    case measure=>omega
    case rel=>exact ⟨a+1,some ad,ci,its,wk,by go_num,HST,⟨HO⟩⟩
   rw [if_pos hmay] at h
   have hmay2:=hmay
   unfold mayB at hmay2
   simp only [Bool.and_eq_true,decide_eq_true_eq] at hmay2
   obtain ⟨c1,c2,c3⟩:=hmay2
   obtain ⟨cn,rfl⟩:=Int.eq_ofNat_of_zero_le c1
   obtain ⟨adm,hAm,y0⟩:=at_bool HM.out cn (by omega)
   subst hAm
   rw [Int.toNat_natCast] at c3
   rw [c3] at y0
   replace y0:=pw_cell_below HO.below y0
   have s1:((cn:Int)<0)=False:=eq_false (by omega)
   have s2:decide ((cn:Int)<0)=false:=decide_eq_false (by omega)
   have s3:((cn:Int) ≥ (may.length:Int))=False:=eq_false (by omega)
   have s4:decide ((cn:Int) ≥ (may.length:Int))=false:=decide_eq_false (by omega)
   have s5:(0≤(cn:Int))=True:=eq_true (by omega)
   have s6:((cn:Int)<(may.length:Int))=True:=eq_true (by omega)
   clear hmay c1 c2 c3
   obtain ⟨err1,m,wk1,htr⟩:∃ err1 m wk1,tryF its (a:Int) (all.getD k z24).f0 wk=(err1,m,wk1):=⟨_,_,_,rfl⟩
   rw [htr] at h
   dsimp only at h
   have HTR:=Aside0.mk htr
   have hsml:∀ y∈(all.getD k z24).f0,small y:=fun y hy=>(HG.out k HK.out y hy).1
   have HSML:=Aside0.mk hsml
   clear hsml
   by_cases herr:err1=0
   case neg =>
    rw [if_neg herr] at h
    simp only [Option.some.injEq,Prod.mk.injEq] at h
    obtain ⟨e1,e2,e3⟩:=h
    have E1:=Aside0.mk e1
    have E2:=Aside0.mk e2
    have E3:=Aside0.mk e3
    have HER:=Aside0.mk herr
    clear htr herr hbd e1 e2 e3 hlt
    go_wp2_with (first
     | (go_at_call 57;(have HOb:=Own.bag [.box g 77 #[.slice Aa all.length ca,.slice (some ad) its.length ci,.int .i64 wk],.row k55 55 w.heap.size (.slice (some ad) its.length ci) its] [R,.box g6 40 #[.int .i64 0]] HO;refine (try_calls HOb HAA.out k HK.out (a:Int) (by omega) (by have:=HBD.out;omega) HBD.out.2 HSML.out err1 m wk1 HTR.out).mono ?_;rintro e_ W4 ⟨HO4_,hres⟩;have HO5:=Own.unbag [_,_] _ HO4_;clear HO HOb HO4_ m1 i1 y0;replace hres:=tryRes_fail hres HER.out;unfold fails at hres;subst hres)))
    refine leaves_cons (f:=56) (args:=#[.pointer (some ⟨g6,0,none⟩)]) (by simp) (by simp [go_sem]) ?_
    refine (catch_panicking g6 0 err1 _ (HO5.box_at 3 rfl).1).mono ?_
    rintro e u' w'' ⟨rfl,rfl,rfl⟩
    have HO6:=(HO5.alloc (.cells #[.int .i64 err1] 95)).put 3 rfl 0 (.int .i64 err1) (Nat.le_refl 1) rfl
    have e1:=E1.out
    have e2:=E2.out
    have e3:=E3.out
    subst e1 e2 e3
    exact ⟨_,results40_ _ _ g6 _ rfl (HO6.box_at 3 rfl).1,rfl,some ad,ci,HO6.upto 3⟩
   rw [if_pos herr] at h
   subst herr
   cases m with
   | none =>
    dsimp only at h
    have HST:=Aside0.mk h
    clear h htr hbd hlt
    go_wp2_with (first
     | (go_at_call 57;(have HOb:=Own.bag [.box g 77 #[.slice Aa all.length ca,.slice (some ad) its.length ci,.int .i64 wk],.row k55 55 w.heap.size (.slice (some ad) its.length ci) its] [R,.box g6 40 #[.int .i64 0]] HO;refine (try_calls HOb HAA.out k HK.out (a:Int) (by omega) (by have:=HBD.out;omega) HBD.out.2 HSML.out 0 none wk1 HTR.out).mono ?_;rintro e_ W4 ⟨HO4_,hres⟩;have HO5:=Own.unbag [_,_] _ HO4_;clear HO HOb HO4_ m1 i1 y0;replace hres:=tryRes_none hres;unfold zeroRule at hres;subst hres))
     | ((with_reducible refine gate_dst (N:=9) rfl ?_);refine ev_box (N:=9) (cs:=#[.slice none 0 0,.slice none 0 0,.slice none 0 0,.slice none 0 0,.slice none 0 0]) (t:=49) HO5 rfl rfl zhr ?_;intro g9 W7 HO7 hb7;clear HO5 hb7)
     | ((with_reducible refine gate_store (t:=49) (p:=9) rfl ?_);refine ev_store (cs':=#[.slice none 0 0,.slice none 0 0,.slice none 0 0,.slice none 0 0,.slice none 0 0]) (.agg #[.slice none 0 0,.slice none 0 0,.slice none 0 0,.slice none 0 0,.slice none 0 0]) 4 HO7 rfl rfl rfl rfl 0 rfl rfl sz49 za77 (Nat.le_refl _) rfl ?_;intro W8 HO8;clear HO7))
    have HO9:=HO8.upto 4
    go_roundg n1
    case measure=>omega
    case rel=>exact ⟨a+1,some ad,ci,its,wk1,by go_num,HST,⟨HO9⟩⟩
   | some q =>
    dsimp only at h
    obtain ⟨hqm,hmt,-⟩:=tryF_some htr
    have hqg:=HG.out k HK.out q hqm
    obtain ⟨hp1,hp2,hp3⟩:=match_in hmt
    obtain ⟨y,hap,h2⟩:=Option.bind_eq_some_iff.mp h
    clear h
    obtain ⟨err2,x2,its3,wk3⟩:=y
    dsimp only at h2
    obtain ⟨q0,q1,q2,q3,q4⟩:=q
    dsimp only at hp2 hp3
    have HAPF:=Aside0.mk hap
    have HQG:=Aside0.mk hqg
    have HP2:=Aside0.mk (show a+q1.length≤its.length by omega)
    have HP3:=Aside0.mk hp3
    clear hap hqg hp1 hp2 hp3 hqm hmt htr hbd hlt
    by_cases her2:err2=0
    case neg =>
     rw [if_neg her2] at h2
     simp only [Option.some.injEq,Prod.mk.injEq] at h2
     obtain ⟨e1,e2,e3⟩:=h2
     have E1:=Aside0.mk e1
     have E2:=Aside0.mk e2
     have E3:=Aside0.mk e3
     have HER:=Aside0.mk her2
     clear her2 e1 e2 e3
     go_wp2_with (first
      | (go_at_call 57;(have HOb:=Own.bag [.box g 77 #[.slice Aa all.length ca,.slice (some ad) its.length ci,.int .i64 wk],.row k55 55 w.heap.size (.slice (some ad) its.length ci) its] [R,.box g6 40 #[.int .i64 0]] HO;refine (try_calls HOb HAA.out k HK.out (a:Int) (by omega) (by have:=HBD.out;omega) HBD.out.2 HSML.out 0 (some ⟨q0,q1,q2,q3,q4⟩) wk1 HTR.out).mono ?_;rintro e_ W4 ⟨HO4_,hres⟩;have HO5:=Own.unbag [_,_] _ HO4_;clear HO HOb HO4_ m1 i1 y0;replace hres:=tryRes_some hres;obtain ⟨v_,rfl,B0,d0,B1,d1,B2,d2,B3,d3,B4,d4,rfl,v0,v1,v2,v3,v4,v5,v6,v7,v8,v9⟩:=hres;have HRV:=Aside0.mk (show ruleV w ⟨q0,q1,q2,q3,q4⟩ (.agg #[.slice B0 q0.length d0,.slice B1 q1.length d1,.slice B2 q2.length d2,.slice B3 q3.length d3,.slice B4 q4.length d4]) from ⟨B0,d0,B1,d1,B2,d2,B3,d3,B4,d4,rfl,v0,v1,v2,v3,v4,v5,v6,v7,v8,v9⟩);clear v0 v1 v2 v3 v4 v5 v6 v7 v8 v9))
      | ((with_reducible refine gate_dst (N:=9) rfl ?_);refine ev_box (N:=9) (cs:=#[.slice none 0 0,.slice none 0 0,.slice none 0 0,.slice none 0 0,.slice none 0 0]) (t:=49) HO5 rfl rfl zhr ?_;intro g9 W7 HO7 hb7;clear HO5 hb7)
      | ((with_reducible refine gate_store (t:=49) (p:=9) rfl ?_);refine ev_store (cs':=#[.slice B0 q0.length d0,.slice B1 q1.length d1,.slice B2 q2.length d2,.slice B3 q3.length d3,.slice B4 q4.length d4]) (.agg #[.slice B0 q0.length d0,.slice B1 q1.length d1,.slice B2 q2.length d2,.slice B3 q3.length d3,.slice B4 q4.length d4]) 4 HO7 rfl rfl rfl rfl 0 rfl rfl sz49 za77 (Nat.le_refl _) rfl ?_;intro W8 HO8;clear HO7;have v0:=HO8.box_cell 4 rfl 0 rfl;have v1:=HO8.box_cell 4 rfl 1 rfl;have v2:=HO8.box_cell 4 rfl 2 rfl;have v3:=HO8.box_cell 4 rfl 3 rfl;have v4:=HO8.box_cell 4 rfl 4 rfl)
      | (go_at_call 58;(have HOb:=Own.bag [.box g 77 #[.slice Aa all.length ca,.slice (some ad) its.length ci,.int .i64 wk1],.row k55 55 w.heap.size (.slice (some ad) its.length ci) its] [R,.box g6 40 #[.int .i64 0],.box g9 49 #[.slice B0 q0.length d0,.slice B1 q1.length d1,.slice B2 q2.length d2,.slice B3 q3.length d3,.slice B4 q4.length d4]] HO8;have hrec:=(HAP n1).out _ _ (some ad) ci its wk1 _ _ a _ _ _ _ HOb HRV.out HQG.out HP2.out HP3.out HAPF.out;refine hrec.mono ?_;rintro e_ W10 ⟨A8,c8,HO10_,hres⟩;have HO11:=Own.unbag [_,_] _ HO10_;clear HO8 HOb HO10_ hrec v0 v1 v2 v3 v4;rw [if_neg HER.out] at hres;unfold fails at hres;subst hres)))
     refine leaves_cons (f:=56) (args:=#[.pointer (some ⟨g6,0,none⟩)]) (by simp) (by simp [go_sem]) ?_
     refine (catch_panicking g6 0 err2 _ (HO11.box_at 3 rfl).1).mono ?_
     rintro e u' w'' ⟨rfl,rfl,rfl⟩
     have HO12:=(HO11.alloc (.cells #[.int .i64 err2] 95)).put 3 rfl 0 (.int .i64 err2) (Nat.le_refl 1) rfl
     have e1:=E1.out
     have e2:=E2.out
     have e3:=E3.out
     subst e1 e2 e3
     exact ⟨_,results40_ _ _ g6 _ rfl (HO12.box_at 3 rfl).1,rfl,A8,c8,HO12.upto 3⟩
    rw [if_pos her2] at h2
    subst her2
    split at h2
    case isFalse=>cases h2
    rename_i hx2
    obtain ⟨xn,rfl⟩:=Int.eq_ofNat_of_zero_le hx2
    rw [Int.toNat_natCast] at h2
    have HST:=Aside0.mk h2
    clear h2 hx2
    go_wp2_with (first
     | (go_at_call 57;(have HOb:=Own.bag [.box g 77 #[.slice Aa all.length ca,.slice (some ad) its.length ci,.int .i64 wk],.row k55 55 w.heap.size (.slice (some ad) its.length ci) its] [R,.box g6 40 #[.int .i64 0]] HO;refine (try_calls HOb HAA.out k HK.out (a:Int) (by omega) (by have:=HBD.out;omega) HBD.out.2 HSML.out 0 (some ⟨q0,q1,q2,q3,q4⟩) wk1 HTR.out).mono ?_;rintro e_ W4 ⟨HO4_,hres⟩;have HO5:=Own.unbag [_,_] _ HO4_;clear HO HOb HO4_ m1 i1 y0;replace hres:=tryRes_some hres;obtain ⟨v_,rfl,B0,d0,B1,d1,B2,d2,B3,d3,B4,d4,rfl,v0,v1,v2,v3,v4,v5,v6,v7,v8,v9⟩:=hres;have HRV:=Aside0.mk (show ruleV w ⟨q0,q1,q2,q3,q4⟩ (.agg #[.slice B0 q0.length d0,.slice B1 q1.length d1,.slice B2 q2.length d2,.slice B3 q3.length d3,.slice B4 q4.length d4]) from ⟨B0,d0,B1,d1,B2,d2,B3,d3,B4,d4,rfl,v0,v1,v2,v3,v4,v5,v6,v7,v8,v9⟩);clear v0 v1 v2 v3 v4 v5 v6 v7 v8 v9))
     | ((with_reducible refine gate_dst (N:=9) rfl ?_);refine ev_box (N:=9) (cs:=#[.slice none 0 0,.slice none 0 0,.slice none 0 0,.slice none 0 0,.slice none 0 0]) (t:=49) HO5 rfl rfl zhr ?_;intro g9 W7 HO7 hb7;clear HO5 hb7)
     | ((with_reducible refine gate_store (t:=49) (p:=9) rfl ?_);refine ev_store (cs':=#[.slice B0 q0.length d0,.slice B1 q1.length d1,.slice B2 q2.length d2,.slice B3 q3.length d3,.slice B4 q4.length d4]) (.agg #[.slice B0 q0.length d0,.slice B1 q1.length d1,.slice B2 q2.length d2,.slice B3 q3.length d3,.slice B4 q4.length d4]) 4 HO7 rfl rfl rfl rfl 0 rfl rfl sz49 za77 (Nat.le_refl _) rfl ?_;intro W8 HO8;clear HO7;have v0:=HO8.box_cell 4 rfl 0 rfl;have v1:=HO8.box_cell 4 rfl 1 rfl;have v2:=HO8.box_cell 4 rfl 2 rfl;have v3:=HO8.box_cell 4 rfl 3 rfl;have v4:=HO8.box_cell 4 rfl 4 rfl)
     | (go_at_call 58;(have HOb:=Own.bag [.box g 77 #[.slice Aa all.length ca,.slice (some ad) its.length ci,.int .i64 wk1],.row k55 55 w.heap.size (.slice (some ad) its.length ci) its] [R,.box g6 40 #[.int .i64 0],.box g9 49 #[.slice B0 q0.length d0,.slice B1 q1.length d1,.slice B2 q2.length d2,.slice B3 q3.length d3,.slice B4 q4.length d4]] HO8;have hrec:=(HAP n1).out _ _ (some ad) ci its wk1 _ _ a _ _ _ _ HOb HRV.out HQG.out HP2.out HP3.out HAPF.out;refine hrec.mono ?_;rintro e_ W10 ⟨A8,c8,HO10_,hres⟩;have HO11:=Own.unbag [_,_] _ HO10_;clear HO8 HOb HO10_ hrec v0 v1 v2 v3 v4;rw [if_pos rfl] at hres;subst hres)))
    have HO12:=HO11.upto 4
    go_roundg n1
    case measure=>omega
    case rel=>exact ⟨xn,A8,c8,its3,wk3,by go_num,HST,⟨HO12⟩⟩
end Go.Proofs.Ytlgkeaildncojaa.Q
end
section
namespace Go.Proofs.Ytlgkeaildncojaa.Q
open Go.RowKit Go.Shelf Go.Proofs.YtlgkeaildncojaaW.PrintWords Go.Proofs.YtlgkeaildncojaaW.PrintLast Go.Proofs.YtlgkeaildncojaaW.PrintMore
set_option linter.unusedSimpArgs false
set_option linter.unusedVariables false
attribute [local go_sem] Oper.semAt_some
def allP (n:Nat):Nat→List S24→Int
 | _,[]=>0
 | i,l :: t=>if checkP l.f0 (i:Int) (n:Int) 100=0 then allP n (i+1) t else checkP l.f0 (i:Int) (n:Int) 100
def applyO (all:List S24) (k:Int) (items:List S55) (may:List Bool):Option (List S55 × Int × Int) :=
  if k<0∨k ≥ (all.length:Int) then some ([],0,1)
  else if allP all.length 0 all=0 then
    (if items.length > 200 then some ([],0,2)
     else (carryF all k.toNat may 2000000 0 items 0).bind fun y=>if y.1=0 then some (y.2.1,(y.2.2:Int),0) else some ([],0,y.1))
  else some ([],0,allP all.length 0 all)
theorem allP_step (n:Nat) (all:List S24) (j:Nat) (h:j<all.length):allP n j (all.drop j)=if checkP (all.getD j z24).f0 (j:Int) (n:Int) 100=0 then allP n (j+1) (all.drop (j+1)) else checkP (all.getD j z24).f0 (j:Int) (n:Int) 100:=by
 rw [List.drop_eq_getElem_cons h,List.getD_eq_getElem?_getD,List.getElem?_eq_getElem h]
 rfl
theorem ruleP_good {r:S49} {k L:Int} {n:Nat} (hk:0≤k) (hL:L=(n:Int)) (h:ruleP r k L 100=0):goodR n r:=by
 unfold ruleP at h
 split at h
 ·
  exact absurd h (by decide)
 rename_i h1
 split at h
 ·
  exact absurd h (by decide)
 rename_i h2
 split at h
 ·
  exact absurd h (by decide)
 split at h
 ·
  exact absurd h (by decide)
 split at h
 ·
  exact absurd h (by decide)
 rename_i h5
 refine ⟨⟨by omega,by omega,by omega⟩,by omega,fun c hc=>?_⟩
 have hcp:callP r.f1.length k L c=false:=by
  by_cases hq:callP r.f1.length k L c=true
  ·
   exact absurd (List.any_eq_true.mpr ⟨c,hc,hq⟩) h5
  ·
   simpa using hq
 unfold callP at hcp
 simp only [Bool.or_eq_false_iff,decide_eq_false_iff_not] at hcp
 omega
theorem rulesP_all {k L G:Int}:∀ {l:List S49},rulesP k L G l=0→∀ r∈l,ruleP r k L G=0
 | [],_,r,hr=>by cases hr
 | x :: t,h,r,hr=>by
  unfold rulesP at h
  split at h
  ·
   rename_i h1
   rcases List.mem_cons.mp hr with rfl|hr
   ·
    exact h1
   ·
    exact rulesP_all h r hr
  ·
   rename_i h1
   exact absurd h h1
theorem checkP_good {l:List S49} {k L:Int} {n:Nat} (hk:0≤k) (hL:L=(n:Int)) (h:checkP l k L 100=0):∀ r∈l,goodR n r:=by
 unfold checkP at h
 split at h
 ·
  exact absurd h (by decide)
 split at h
 ·
  exact absurd h (by decide)
 exact fun r hr=>ruleP_good hk hL (rulesP_all h r hr)
theorem allP_good {n:Nat}:∀ {l:List S24} {i:Nat},allP n i l=0→∀ k,k<l.length→∀ y∈(l.getD k z24).f0,goodR n y
 | [],_,_,k,hk=>absurd hk (Nat.not_lt_zero _)
 | x :: t,i,h,k,hk=>by
  unfold allP at h
  split at h
  ·
   rename_i h1
   cases k with
   | zero=>exact checkP_good (Int.natCast_nonneg i) rfl h1
   | succ k =>
    rw [List.getD_cons_succ]
    exact allP_good h k (by simpa using hk)
  ·
   rename_i h1
   exact absurd h h1
theorem sz24:(Try.prog.info? 24).map (·.size)=some 1:=by kernel_rfl
set_option maxRecDepth 100000 in
set_option maxHeartbeats 16000000 in
theorem apply_all (A0:Option Addr) (c0:Nat) (all:List S24) (k:Int) (A2:Option Addr) (c2:Nat) (items:List S55) (A3:Option Addr) (c3:Nat) (may:List Bool) (r1:List S55) (r2 r3:Int) (w:World)
  (hr0:Kd.C k24 w A0 all.length all) (hc0:all.length≤c0) (hr2:Kd.C k55 w A2 items.length items) (hc2:items.length≤c2) (hr3:Kd.C Kd.bool w A3 may.length may) (hc3:may.length≤c3) (h:applyO all k items may=some (r1,r2,r3)) :
  Calls Try.prog 23 #[.slice A0 all.length c0,.int .i64 k,.slice A2 items.length c2,.slice A3 may.length c3] w fun e w'=>∃ v0_:Value,e=.returned (.tuple #[v0_,.int .i64 r2,.int .i64 r3])∧Kd.R k55 55 w' w.heap.size (fun _=>True) v0_ r1∧Below w.heap.size w w':=by
 have HR0:=Aside0.mk hr0
 have HC0:=Aside0.mk hc0
 have HR2:=Aside0.mk hr2
 have HC2:=Aside0.mk hc2
 have HR3:=Aside0.mk hr3
 have HN:=Aside0.mk (Kd.C_max hr0)
 have HO:=Own.start w
 clear hr0 hc0 hr2 hc2 hr3 hc3
 unfold applyO at h
 by_cases k0:k<0
 ·
  rw [if_pos (.inl k0)] at h
  simp only [Option.some.injEq,Prod.mk.injEq] at h
  obtain ⟨e1,e2,e3⟩:=h
  subst e1 e2 e3
  have s1:(k<0)=True:=eq_true k0
  have s2:decide (k<0)=true:=decide_eq_true k0
  clear k0
  go_enter Try.func23,Try.ntmps23
  go_wp2
  go_ret3
  exact ⟨_,rfl,Kd.R_nil _ _ _ _ _,HO.below⟩
 by_cases k1:k ≥ (all.length:Int)
 ·
  rw [if_pos (.inr k1)] at h
  simp only [Option.some.injEq,Prod.mk.injEq] at h
  obtain ⟨e1,e2,e3⟩:=h
  subst e1 e2 e3
  have s1:(k<0)=False:=eq_false k0
  have s2:decide (k<0)=false:=decide_eq_false k0
  have s3:(k ≥ (all.length:Int))=True:=eq_true k1
  have s4:decide (k ≥ (all.length:Int))=true:=decide_eq_true k1
  clear k0 k1
  go_enter Try.func23,Try.ntmps23
  go_wp2
  go_ret3
  exact ⟨_,rfl,Kd.R_nil _ _ _ _ _,HO.below⟩
 rw [if_neg (by omega)] at h
 obtain ⟨kn,rfl⟩:=Int.eq_ofNat_of_zero_le (show 0≤k by omega)
 rw [Int.toNat_natCast] at h
 have HKN:=Aside0.mk (show kn<all.length by omega)
 have s1:((kn:Int)<0)=False:=eq_false k0
 have s2:decide ((kn:Int)<0)=false:=decide_eq_false k0
 have s3:((kn:Int) ≥ (all.length:Int))=False:=eq_false k1
 have s4:decide ((kn:Int) ≥ (all.length:Int))=false:=decide_eq_false k1
 obtain ⟨ev,hev⟩:∃ ev,allP all.length 0 all=ev:=⟨_,rfl⟩
 rw [hev] at h
 have H:=Aside0.mk h
 have HEV:=Aside0.mk hev
 clear h hev k0 k1
 go_enter Try.func23,Try.ntmps23
 go_wp2
 go_loopw [26] (fun v26 w'=>∃ j:Nat,v26=.int .i64 j∧Aside0 (j≤all.length)∧Aside0 (allP all.length j (all.drop j)=ev)∧Aside0 (Own w w' [])) (fun v26 _=>all.length - (intOf v26).toNat)
 case atStart=>exact ⟨0,rfl,⟨Nat.zero_le _⟩,⟨by rw [List.drop_zero];exact HEV.out⟩,⟨HO⟩⟩
 case round =>
  clear HO
  obtain ⟨j,rfl,HK,HP,HOO⟩:=hrel
  have HO:=HOO.out
  clear HOO
  by_cases hlt:j<all.length
  case pos =>
   have hst:=allP_step all.length all j hlt
   rw [HP.out] at hst
   obtain ⟨ad,A1,c1,hA,x0,y0,y1⟩:=at_T24 HR0.out (j:Int) (by omega) (by omega)
   subst hA
   rw [show rd_T24 all (j:Int)=all.getD j z24 from rfl] at x0 y0 y1
   rw [Int.toNat_natCast] at x0
   replace x0:=pw_cell_below HO.below x0
   generalize all.getD j z24=lk at *
   obtain ⟨rs⟩:=lk
   dsimp only at x0 y0 y1 hst
   have hcall:=fun (W:World) (hb:Below w.heap.size w W)=>check_calls A1 c1 rs (j:Int) (all.length:Int) 100 W (Kd.C_below y1 hb)
   generalize checkP rs (j:Int) (all.length:Int) 100=cv at hst hcall
   have HCALL:=Aside0.mk hcall
   have r1:((j:Int)<(all.length:Int))=True:=eq_true (by omega)
   have r0:(0≤(j:Int))=True:=eq_true (by omega)
   have hkb:(j:Int)+1≤9223372036854775807:=by have:=HN.out;omega
   have HKL:=Aside0.mk hlt
   clear hcall y0 y1 hlt
   by_cases hcv:cv=0
   case neg =>
    rw [if_neg hcv] at hst
    subst hst
    have hh:=H.out
    rw [if_neg hcv] at hh
    simp only [Option.some.injEq,Prod.mk.injEq] at hh
    obtain ⟨e1,e2,e3⟩:=hh
    subst e1 e2 e3
    have e0:(ev==0)=false:=beq_eq_false_iff_ne.mpr hcv
    have n0:(ev != 0)=true:=by rw [bne,e0];rfl
    clear hcv
    go_wp2_with (first
     | ((with_reducible refine gate_dst (N:=12) rfl ?_);refine ev_box (N:=12) (cs:=#[.slice none 0 0]) (t:=24) HO rfl rfl zhr ?_;intro g12 W1 HO1 hb1;clear HO hb1)
     | ((with_reducible refine gate_store (t:=24) (p:=12) rfl ?_);refine ev_store (cs':=#[.slice A1 rs.length c1]) (.agg #[.slice A1 rs.length c1]) 0 HO1 rfl rfl rfl rfl 0 rfl rfl sz24 za77 (Nat.le_refl _) rfl ?_;intro W2 HO2;clear HO1 x0;have z0:=HO2.box_cell 0 rfl 0 rfl)
     | (go_at_call 16;(refine (HCALL.out _ HO2.below).mono ?_;rintro e_ W3 ⟨rfl,hb3⟩;have HO3:=HO2.grow hb3;clear HO2 hb3 z0)))
    go_ret3
    exact ⟨_,rfl,Kd.R_nil _ _ _ _ _,HO3.below⟩
   case pos =>
    rw [if_pos hcv] at hst
    have HST:=Aside0.mk hst.symm
    have e0:(cv==0)=true:=beq_iff_eq.mpr hcv
    have n0:(cv != 0)=false:=by rw [bne,e0];rfl
    clear hcv hst
    go_wp2_with (first
     | ((with_reducible refine gate_dst (N:=12) rfl ?_);refine ev_box (N:=12) (cs:=#[.slice none 0 0]) (t:=24) HO rfl rfl zhr ?_;intro g12 W1 HO1 hb1;clear HO hb1)
     | ((with_reducible refine gate_store (t:=24) (p:=12) rfl ?_);refine ev_store (cs':=#[.slice A1 rs.length c1]) (.agg #[.slice A1 rs.length c1]) 0 HO1 rfl rfl rfl rfl 0 rfl rfl sz24 za77 (Nat.le_refl _) rfl ?_;intro W2 HO2;clear HO1 x0;have z0:=HO2.box_cell 0 rfl 0 rfl)
     | (go_at_call 16;(refine (HCALL.out _ HO2.below).mono ?_;rintro e_ W3 ⟨rfl,hb3⟩;have HO3:=HO2.grow hb3;clear HO2 hb3 z0)))
    have HO4:=HO3.upto 0
    go_roundw
    case rel=>exact ⟨j+1,by go_num,⟨HKL.out⟩,HST,⟨HO4⟩⟩
    case measure=>have:=HKL.out;simp [intOf];omega
  have r1:¬ ((j:Int)<(all.length:Int)):=by omega
  have hev0:=HP.out
  rw [List.drop_of_length_le (by omega),allP] at hev0
  subst hev0
  have hh:=H.out
  rw [if_pos rfl] at hh
  have hgood:=allP_good HEV.out
  have HGOOD:=Aside0.mk hgood
  clear hgood hlt
  by_cases h200:items.length > 200
  ·
   rw [if_pos h200] at hh
   simp only [Option.some.injEq,Prod.mk.injEq] at hh
   obtain ⟨e1,e2,e3⟩:=hh
   subst e1 e2 e3
   have t1:((items.length:Int) > 200)=True:=eq_true (by omega)
   have t2:decide ((items.length:Int) > 200)=true:=decide_eq_true (by omega)
   clear h200
   go_wp2
   go_ret3
   exact ⟨_,rfl,Kd.R_nil _ _ _ _ _,HO.below⟩
  rw [if_neg h200] at hh
  have t1:((items.length:Int) > 200)=False:=eq_false (by omega)
  have t2:decide ((items.length:Int) > 200)=false:=decide_eq_false (by omega)
  have HI2:=Aside0.mk (show items.length≤1000000 by omega)
  obtain ⟨y,hcar,hh⟩:=Option.bind_eq_some_iff.mp hh
  obtain ⟨err,its2,wk2⟩:=y
  dsimp only at hh
  have HCAR:=Aside0.mk hcar
  clear hcar h200
  by_cases her:err=0
  case neg =>
   rw [if_neg her] at hh
   simp only [Option.some.injEq,Prod.mk.injEq] at hh
   obtain ⟨e1,e2,e3⟩:=hh
   subst e1 e2 e3
   have e0:(err==0)=false:=beq_eq_false_iff_ne.mpr her
   have n0:(err != 0)=true:=by rw [bne,e0];rfl
   clear her
   go_wp2_with (first
    | (go_at_call 39;(refine (cloneT_calls A2 c2 items _ (HO.old HR2.out) HC2.out HI2.out).mono ?_;rintro e_ W5 ⟨v5,rfl,hR5,hb5⟩;have HO5:=HO.called hb5 hR5;clear HO hR5 hb5;obtain ⟨A5,c5,rfl,-,-⟩:=HO5.row_at 0 rfl))
    | ((with_reducible refine gate_dst (N:=47) rfl ?_);refine ev_box (N:=47) (cs:=#[.slice A0 all.length c0,.slice A5 items.length c5,.int .i64 0]) (t:=77) HO5 rfl rfl zhr ?_;intro g47 W6 HO6 hb6;clear HO5 hb6;have HO7:=(HO6.add (r:=.emp) (Below.refl _ _) trivial).pick3 1 0 2 rfl rfl rfl (by decide) (by decide) (by decide);clear HO6)
    | (go_at_call 40;(refine (carry_calls (wk:=0) HO7 HR0.out HGOOD.out kn HKN.out A3 c3 may HR3.out 2000000 _ _ _ HCAR.out).mono ?_;rintro e_ W9 ⟨rfl,A9,c9,HO9⟩;clear HO7;have m1:=HO9.box_cell 0 rfl 1 rfl;have m2:=HO9.box_cell 0 rfl 2 rfl)))
   go_ret3
   exact ⟨_,rfl,Kd.R_nil _ _ _ _ _,HO9.below⟩
  rw [if_pos her] at hh
  subst her
  simp only [Option.some.injEq,Prod.mk.injEq] at hh
  obtain ⟨e1,e2,e3⟩:=hh
  subst e1 e2 e3
  go_wp2_with (first
   | (go_at_call 39;(refine (cloneT_calls A2 c2 items _ (HO.old HR2.out) HC2.out HI2.out).mono ?_;rintro e_ W5 ⟨v5,rfl,hR5,hb5⟩;have HO5:=HO.called hb5 hR5;clear HO hR5 hb5;obtain ⟨A5,c5,rfl,-,-⟩:=HO5.row_at 0 rfl))
   | ((with_reducible refine gate_dst (N:=47) rfl ?_);refine ev_box (N:=47) (cs:=#[.slice A0 all.length c0,.slice A5 items.length c5,.int .i64 0]) (t:=77) HO5 rfl rfl zhr ?_;intro g47 W6 HO6 hb6;clear HO5 hb6;have HO7:=(HO6.add (r:=.emp) (Below.refl _ _) trivial).pick3 1 0 2 rfl rfl rfl (by decide) (by decide) (by decide);clear HO6)
   | (go_at_call 40;(refine (carry_calls (wk:=0) HO7 HR0.out HGOOD.out kn HKN.out A3 c3 may HR3.out 2000000 _ _ _ HCAR.out).mono ?_;rintro e_ W9 ⟨rfl,A9,c9,HO9⟩;clear HO7;have m1:=HO9.box_cell 0 rfl 1 rfl;have m2:=HO9.box_cell 0 rfl 2 rfl)))
  go_region_law (fail)
  all_goals
   have HO10:=HO9.drew
   try go_wp2
   go_ret3
   exact ⟨_,rfl,HO10.row_R 1 rfl,HO10.below⟩
end Go.Proofs.Ytlgkeaildncojaa.Q
end
