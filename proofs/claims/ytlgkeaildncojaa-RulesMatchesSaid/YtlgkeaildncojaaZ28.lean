/- Texts of this claim, merged by wip/tools/pack.py: Qx15, Qx16, Ct, Qx17, Qx18, Qx19. -/
import Derived.Test.YtlgkeaildncojaaZ27
section
namespace Go.Proofs.Ytlgkeaildncojaa.Q
open Go.RowKit Go.Proofs.YtlgkeaildncojaaW.PrintWords Go.Proofs.YtlgkeaildncojaaW.PrintLast Go.Proofs.YtlgkeaildncojaaW.PrintMore
attribute [local go_sem] max2_int min2_int max_two min_two max_three min_three max_four min_four   -- for this text's walks alone
set_option linter.unusedVariables false
set_option linter.unusedSimpArgs false
def abugidalaw16_cut_1.l0:Nat→List (List Int)→List (List Int)→Int→Option ((List (List Int)))
 | 0,_,_,_=>none
 | k + 1,x0,x3,x4=>if x4<(x0.length:Int) then (if x4<5 then (if 0≤x4 then (if 0≤(mn ((rd_L1 x0 x4).length:Int) 5) then (if (mn ((rd_L1 x0 x4).length:Int) 5)≤((rd_L1 x0 x4).length:Int) then (if x3.length<5864062014805 then (abugidalaw16_cut_1.l0 k x0 (x3++[((rd_L1 x0 x4).take ((mn ((rd_L1 x0 x4).length:Int) 5):Int).toNat)]) (wrap64 (x4 + 1))) else (none)) else (none)) else (none)) else (none)) else (some x3)) else (some x3)
def abugidalaw16_cut_1.f (k:Nat) (l0:List (List Int)):Option ((List (List Int))):=abugidalaw16_cut_1.l0 k l0 ([]:List (List Int)) 0
theorem abugidalaw16_cut_1.mono_l:∀ k,(∀ y0 y1 y2,LeO (abugidalaw16_cut_1.l0 k y0 y1 y2) (abugidalaw16_cut_1.l0 (k + 1) y0 y1 y2))
 | 0=>fun _ _ _ r h=>by simp [abugidalaw16_cut_1.l0] at h
 | k + 1=>by
  have ih0:=abugidalaw16_cut_1.mono_l k
  ·
   intro y0 y1 y2
   unfold abugidalaw16_cut_1.l0
   repeat' first
   | (with_reducible exact ih0 _ _ _)
   | (with_reducible exact LeO.refl _)
   | (with_reducible exact LeO.none _)
   | (with_reducible refine LeO.ite ?_ ?_)
   | (with_reducible refine LeO.bind ?_ (fun _=>?_))
   | exact ih0 _ _ _
   | exact LeO.none _
   | refine LeO.ite ?_ ?_
   | refine LeO.bind ?_ (fun _=>?_)
theorem abugidalaw16_cut_1.mono:∀ a0 k,LeO (abugidalaw16_cut_1.f k a0) (abugidalaw16_cut_1.f (k + 1) a0):=by
 intro a0 k
 have ih0:=abugidalaw16_cut_1.mono_l k
 unfold abugidalaw16_cut_1.f
 repeat' first
   | (with_reducible exact ih0 _ _ _)
   | (with_reducible exact LeO.refl _)
   | (with_reducible exact LeO.none _)
   | (with_reducible refine LeO.ite ?_ ?_)
   | (with_reducible refine LeO.bind ?_ (fun _=>?_))
   | exact ih0 _ _ _
   | exact LeO.none _
   | refine LeO.ite ?_ ?_
   | refine LeO.bind ?_ (fun _=>?_)
def abugidalaw16_cut_1.T5:Bool × List (List Nat × List Nat):=(true,[([],[]),([],[]),([],[]),([1,2],[1,2]),([3],[3]),([],[]),([],[]),([5,6],[5,6]),([7],[7]),([8],[8]),([9],[9]),([4,10],[4,10]),([11],[11]),([0,12],[0,12]),([13,13,0,1,2,3,4,5,6,7,8,9,10,11,12,13],[0,13])])
def abugidalaw16_cut_1.B5:List Nat:=[0,0,0,6,14,0,0,96,224,480,992,2046,4094,8191,16383]
theorem abugidalaw16_cut_1.tab5:rtab .any (opsOf Try.f33 5)=abugidalaw16_cut_1.T5:=by kernel_rfl
theorem abugidalaw16_cut_1.bits5:waitsOk abugidalaw16_cut_1.T5.2 abugidalaw16_cut_1.B5=true:=by kernel_rfl
set_option maxHeartbeats 8000000 in
set_option maxRecDepth 100000 in
theorem abugidalaw16_cut_1.calls (k:Nat) (P0_:Nat→Prop) (A0:Option Addr) (c0:Nat) (l0:List (List Int)) (r:List (List Int)) (w:World) (hs0:Kd.V (Kd.slice 3 (Kd.int .i64)) 26 w w.heap.size (fun k_=>P0_ k_) (.slice A0 l0.length c0) l0) (h:abugidalaw16_cut_1.f k l0=some r) :
  Calls Try.prog 33 #[.slice A0 l0.length c0] w fun e w'=>∃ v0_:Value,e=.returned (v0_)∧Kd.N (Kd.slice 3 (Kd.int .i64)) 26 w' w.heap.size (fun k_=>(P0_ k_ ∨ w.heap.size≤k_)) v0_ r∧Below w.heap.size w w':=by
 have HO0:=Aside0.mk (show Kd.V (Kd.slice 3 (Kd.int .i64)) 26 w w.heap.size (fun k_=>(P0_ k_ ∨ w.heap.size≤k_)) (.slice A0 l0.length c0) l0 from Kd.V_mono hs0 (fun k_ hk=>.inl hk))
 have HB:=Aside0.mk (Below.refl w.heap.size w)
 have H:(abugidalaw16_cut_1.l0 k l0 ([]:List (List Int)) 0)=some r:=h
 clear h
 have H':=Aside0.mk H
 clear H
 go_enter Try.func33,Try.ntmps33
 go_wp2
 go_loopg [3,4] k (fun kq v3 v4 w'=>∃ (x3_1:List (List Int)) (x4_1:Int),v4=.int .i64 x4_1∧Aside0 (abugidalaw16_cut_1.l0 kq l0 x3_1 x4_1=some r)∧Aside0 (kq≤k)∧Aside0 (Kd.V (Kd.slice 3 (Kd.int .i64)) 26 w' w.heap.size (fun k_=>(P0_ k_ ∨ w.heap.size≤k_)∧some k_≠(v3:Value).ownBlock) (.slice A0 l0.length c0) l0)∧Aside0 (Kd.N (Kd.slice 3 (Kd.int .i64)) 26 w' w.heap.size (fun k_=>(P0_ k_ ∨ w.heap.size≤k_)) v3 x3_1)∧Aside0 (Below w.heap.size w w'))
 case atStart=>exact ⟨(([]:List (List Int))),(0),za82,H',⟨Nat.le_refl _⟩,⟨by (with_reducible repeat (first|apply Kd.V_alloc|apply Kd.V_drewN|apply Kd.V_drew));exact Kd.V_mono HO0.out (fun _ hk=>⟨hk,(by simp [Value.ownBlock])⟩)⟩,⟨by first|exact Kd.S_nil _ _ _ _ _|exact Kd.N_nil _ _ _ _ _|exact Kd.V_nil _ _ _ _ _|exact Kd.Q_nil _ _ _ _ _|exact Kd.R_nil _ _ _ _ _⟩,⟨by repeat (first|(with_reducible first|exact HB.out|apply below_alloc|apply pw_below_drewN|apply below_drew1)|exact HB.out)⟩⟩
 case round =>
  clear H'
  obtain ⟨x3_1,x4_1,rfl,HA,HK1,HO_0,HO_3,HB⟩:=hrel
  cases gk with
  | zero=>exact absurd HA.out (by simp [abugidalaw16_cut_1.l0])
  | succ k1 =>
   have H:=HA.out
   clear HA
   simp only [abugidalaw16_cut_1.l0] at H
   by_cases c2:x4_1<(l0.length:Int)
   ·
    rw [if_pos c2] at H
    have c2b0:decide (x4_1<(l0.length:Int))=true:=decide_eq_true c2
    clear c2
    by_cases c3:x4_1<5
    ·
     rw [if_pos c3] at H
     have c3b0:decide (x4_1<5)=true:=decide_eq_true c3
     clear c3
     by_cases c4:0≤x4_1
     ·
      rw [if_pos c4] at H
      have c4b0:decide (0≤x4_1)=true:=decide_eq_true c4
      clear c4
      obtain ⟨ji5,hji5⟩:∃ j_:Int,(mn ((rd_L1 l0 x4_1).length:Int) 5)=j_:=⟨_,rfl⟩
      replace H:(if 0≤(ji5) then (if (ji5)≤((rd_L1 l0 x4_1).length:Int) then (if x3_1.length<5864062014805 then (abugidalaw16_cut_1.l0 k1 l0 (x3_1++[((rd_L1 l0 x4_1).take ((ji5):Int).toNat)]) (wrap64 (x4_1 + 1))) else (none)) else (none)) else (none))=some r:=by first|(rw [hji5] at H;exact H)|(simp only [hji5] at H ⊢;exact H)
      have hji5_:(if 5<((rd_L1 l0 x4_1).length:Int) then 5 else ((rd_L1 l0 x4_1).length:Int))=ji5:=hji5
      by_cases c6:0≤(ji5)
      ·
       rw [if_pos c6] at H
       have c6b0:=eq_true c6
       have c6b1:decide (0≤(ji5))=true:=decide_eq_true c6
       clear c6
       by_cases c7:(ji5)≤((rd_L1 l0 x4_1).length:Int)
       ·
        rw [if_pos c7] at H
        have c7b0:=eq_true c7
        have c7b1:decide ((ji5)≤((rd_L1 l0 x4_1).length:Int))=true:=decide_eq_true c7
        clear c7
        obtain ⟨y468,hy468⟩:∃ y_:List Int,y_=((rd_L1 l0 x4_1).take ((ji5):Int).toNat):=⟨_,rfl⟩
        replace H:(if x3_1.length<5864062014805 then (abugidalaw16_cut_1.l0 k1 l0 (x3_1++[y468]) (wrap64 (x4_1 + 1))) else (none))=some r:=by first|(rw [hy468];with_reducible exact H)|(have H2_:=(Option.bind_some _ _).symm.trans H;rw [hy468];with_reducible exact H2_)|(have H2_:=(Option.bind_some _ _).symm.trans H;with_reducible exact H2_)|with_reducible exact H|(rw [hy468];exact H)|exact H
        have Ny468:=Aside0.mk hy468
        clear hy468
        by_cases c8:x3_1.length<5864062014805
        ·
         rw [if_pos c8] at H
         have LMc8:=Aside0.mk c8
         clear c8
         obtain ⟨y473,hy473⟩:∃ y_:List (List Int),y_=(x3_1++[y468]):=⟨_,rfl⟩
         replace H:(abugidalaw16_cut_1.l0 k1 l0 y473 (wrap64 (x4_1 + 1)))=some r:=by first|(rw [hy473];with_reducible exact H)|(have H2_:=(Option.bind_some _ _).symm.trans H;rw [hy473];with_reducible exact H2_)|(have H2_:=(Option.bind_some _ _).symm.trans H;with_reducible exact H2_)|with_reducible exact H|(rw [hy473];exact H)|exact H
         have Ny473:=Aside0.mk hy473
         clear hy473
         have H':=Aside0.mk H
         clear H
         try go_wp2
         have n0_:=Aside0.mk (Kd.V_drew HO_0.out)
         have n1_:=Aside0.mk (Kd.N_drew HO_3.out)
         have n2_:=Aside0.mk (below_drew1 HB.out)
         clear HO_0
         clear HO_3
         clear HB
         have HO_0:=n0_
         have HO_3:=n1_
         have HB:=n2_
         clear n0_ n1_ n2_
         have p466:0≤(x4_1:Int):=of_decide_eq_true za79
         have q466:x4_1<(l0.length:Int):=of_decide_eq_true za79
         obtain ⟨ad466,A466_0,c466_0,e466,hx466_0,hl466_0,hi466_0⟩:=at_L1 (Kd.V_reads' HO_0.out).2.2 x4_1 p466 q466
         cases e466
         obtain ⟨ce466,hce466,hMe466,hcc466⟩:=Kd.V_get HO_0.out [] x4_1 p466 (by first|exact q466|exact of_decide_eq_true za79|(have e_:=(Kd.V_reads' HO_0.out).1;omega))
         obtain ⟨ua466_0,uc466_0,rfl,ul466_0,ge466_0⟩:=Kd.FK_slice_open hMe466
         have hv466_0:=hcc466 0 _ rfl
         rw [Nat.add_zero,show ((Kd.slice 3 (Kd.int .i64))).sz=1 from rfl,Nat.mul_one] at hv466_0
         replace hv466_0:=Option.some.inj (hv466_0.symm.trans hx466_0)
         injection hv466_0 with hva_ hvn_ hvc_
         rw [hva_] at ge466_0
         rw [hvc_] at ul466_0
         have HL466_0:=Aside0.mk (show Kd.V (Kd.int .i64) 3 _ w.heap.size _ _ (rd_L1 l0 x4_1) from Kd.V_mk ul466_0 ge466_0)
         clear hva_ hvn_ hvc_ ge466_0 ul466_0
         clear hcc466 hce466
         have HR466_0:=Aside0.mk hi466_0
         have HC466_0:=Aside0.mk hl466_0
         clear hi466_0 hl466_0
         replace p466:=eq_true p466
         replace q466:=eq_true q466
         have p467:0≤(x4_1:Int):=of_decide_eq_true za79
         have q467:x4_1<(l0.length:Int):=of_decide_eq_true za79
         obtain ⟨ad467,A467_0,c467_0,e467,hx467_0,hl467_0,hi467_0⟩:=at_L1 (Kd.V_reads' HO_0.out).2.2 x4_1 p467 q467
         obtain rfl:ad466=ad467:=(by injection e467)
         obtain ⟨ce467,hce467,hMe467,hcc467⟩:=Kd.V_get HO_0.out [] x4_1 p467 (by first|exact q467|exact of_decide_eq_true za79|(have e_:=(Kd.V_reads' HO_0.out).1;omega))
         obtain ⟨ua467_0,uc467_0,rfl,ul467_0,ge467_0⟩:=Kd.FK_slice_open hMe467
         have hv467_0:=hcc467 0 _ rfl
         rw [Nat.add_zero,show ((Kd.slice 3 (Kd.int .i64))).sz=1 from rfl,Nat.mul_one] at hv467_0
         replace hv467_0:=Option.some.inj (hv467_0.symm.trans hx467_0)
         injection hv467_0 with hva_ hvn_ hvc_
         rw [hva_] at ge467_0
         rw [hvc_] at ul467_0
         have HL467_0:=Aside0.mk (show Kd.V (Kd.int .i64) 3 _ w.heap.size _ _ (rd_L1 l0 x4_1) from Kd.V_mk ul467_0 ge467_0)
         clear hva_ hvn_ hvc_ ge467_0 ul467_0
         clear hcc467 hce467
         have HR467_0:=Aside0.mk hi467_0
         have HC467_0:=Aside0.mk hl467_0
         clear hi467_0 hl467_0
         replace p467:=eq_true p467
         replace q467:=eq_true q467
         have ea_:=Option.some.inj (hx466_0.symm.trans hx467_0)
         injection ea_ with ea_ en_ ec_
         subst ea_
         subst ec_
         clear en_
         have q10:((ji5):Int)≤(((rd_L1 l0 x4_1).length:Int):Int):=of_decide_eq_true za79
         obtain ⟨i010,hi010,_,hsz10,_⟩:=info_parts info3
         have hroom10:(rd_L1 l0 x4_1).length≤c466_0:=HC466_0.out
         have hC10:Kd.F (Kd.int .i64) _ _ A466_0 (rd_L1 l0 x4_1).length (rd_L1 l0 x4_1):=(Kd.V_at (base:=w.heap.size) HL466_0.out).2.2
         have hcut10:=cut_to (P:=Try.prog) 26 3 .i64 Try.underlying26 hi010 A466_0 (rd_L1 l0 x4_1).length c466_0 (ji5) (of_decide_eq_true za79) q10 hroom10
         have hr10:=Kd.F_take (m:=((ji5):Int).toNat) hC10 (by omega)
         have hy10:y468.length=((ji5):Int).toNat:=(by rw [Ny468.out,List.length_take];omega)
         rw [← Ny468.out] at hr10
         rw [← hy10] at hcut10
         have HO472:=Aside0.mk (show Kd.V (Kd.int .i64) 3 _ w.heap.size _ (.slice A466_0 y468.length c466_0) y468 from Kd.V_mk (by omega) hr10)
         have HC472:=Aside0.mk (show y468.length≤c466_0 from by omega)
         clear hr10 hC10 hroom10 hi010 hsz10
         have KY10:=Aside0.mk hy10
         clear hy10
         replace q10:=eq_true q10
         refine start_ (n:=15) (S:=fun w'=>w'.cell? (ad466.add (x4_1).toNat)=some (.slice A466_0 (rd_L1 l0 x4_1).length c466_0)∧w'.cell? (ad466.add (x4_1).toNat)=some (.slice A466_0 (rd_L1 l0 x4_1).length c466_0)) (ds:=[12,13]) #[false,false,false,false,false,false,false,false,false,false,false,false,false,false,false] (by kernel_rfl) rfl rfl ⟨hx466_0,hx467_0⟩ (fun hHeld=>?_);refine with_tabW abugidalaw16_cut_1.tab5 abugidalaw16_cut_1.bits5 (fun HT_ HW_=>?_)
         generalize wr.drew=w9 at HO_0 HO_3 HB HL466_0 HL467_0 HO472 HR466_0 HR467_0 hx466_0 hx467_0 hHeld ⊢
         refine pure_ (i:=0) (N:=some 15) (v:=?_) (a':=?_) #[true,false,false,false,false,false,false,false,false,false,false,false,false,false,false] rfl rfl (any_of HT_.out (by kernel_rfl)) (fun _ _ _ h=>h) (Or.inl ⟨by rfl,?_⟩) ?_ ?_
         rotate_left
         ·
          intro w'
          go_simp
          with_reducible rfl
         rotate_left
         ·
          simp only [Act.put,List.setIfInBounds_toArray,List.set_cons_zero,List.set_cons_succ,i64_w,i32_w]
          rfl
         refine pure_ (i:=1) (N:=some 16) (v:=?_) (a':=?_) #[true,true,false,false,false,false,false,false,false,false,false,false,false,false,false] rfl rfl (any_of HT_.out (by kernel_rfl)) (fun _ _ _ h=>h) (Or.inl ⟨by rfl,?_⟩) ?_ ?_
         rotate_left
         ·
          intro w'
          go_simp
          with_reducible rfl
         rotate_left
         ·
          simp only [Act.put,List.setIfInBounds_toArray,List.set_cons_zero,List.set_cons_succ,i64_w,i32_w]
          rfl
         refine pure_ (i:=2) (N:=some 17) (v:=?_) (a':=?_) #[true,true,true,false,false,false,false,false,false,false,false,false,false,false,false] rfl rfl (any_of HT_.out (by kernel_rfl)) (fun _ _ _ h=>h) (Or.inl ⟨by rfl,?_⟩) ?_ ?_
         rotate_left
         ·
          intro w'
          go_simp
          with_reducible rfl
         rotate_left
         ·
          simp only [Act.put,List.setIfInBounds_toArray,List.set_cons_zero,List.set_cons_succ,i64_w,i32_w]
          rfl
         refine pure_ (i:=3) (N:=some 18) (v:=?_) (a':=?_) #[true,true,true,true,false,false,false,false,false,false,false,false,false,false,false] rfl rfl (any_of HT_.out (by kernel_rfl)) (fun _ _ _ h=>h) (Or.inl ⟨by rfl,?_⟩) ?_ ?_
         rotate_left
         ·
          intro w'
          go_simp
          with_reducible rfl
         rotate_left
         ·
          simp only [Act.put,List.setIfInBounds_toArray,List.set_cons_zero,List.set_cons_succ,i64_w,i32_w]
          rfl
         refine pure_ (i:=5) (N:=some 20) (v:=?_) (a':=?_) #[true,true,true,true,false,true,false,false,false,false,false,false,false,false,false] rfl rfl (any_of HT_.out (by kernel_rfl)) (fun _ _ _ h=>h) (Or.inl ⟨by rfl,?_⟩) ?_ ?_
         rotate_left
         ·
          intro w'
          go_simp
          with_reducible rfl
         rotate_left
         ·
          simp only [Act.put,List.setIfInBounds_toArray,List.set_cons_zero,List.set_cons_succ,i64_w,i32_w]
          rfl
         refine pure_ (i:=6) (N:=some 21) (v:=?_) (a':=?_) #[true,true,true,true,false,true,true,false,false,false,false,false,false,false,false] rfl rfl (any_of HT_.out (by kernel_rfl)) (fun _ _ _ h=>h) (Or.inl ⟨by rfl,?_⟩) ?_ ?_
         rotate_left
         ·
          intro w'
          go_simp
          with_reducible rfl
         rotate_left
         ·
          simp only [Act.put,List.setIfInBounds_toArray,List.set_cons_zero,List.set_cons_succ,i64_w,i32_w]
          rfl
         refine pure_ (i:=7) (N:=some 22) (v:=?_) (a':=?_) #[true,true,true,true,false,true,true,true,false,false,false,false,false,false,false] rfl rfl (any_of HT_.out (by kernel_rfl)) (fun _ _ _ h=>h) (Or.inl ⟨by rfl,?_⟩) ?_ ?_
         rotate_left
         ·
          intro w'
          go_simp
          with_reducible rfl
         rotate_left
         ·
          simp only [Act.put,List.setIfInBounds_toArray,List.set_cons_zero,List.set_cons_succ,i64_w,i32_w]
          rfl
         refine take_ (i:=4) (N:=some 19) (v:=?_) (a':=?_) #[true,true,true,true,true,true,true,true,false,false,false,false,false,false,false] rfl rfl (take_ofW HT_.out HW_.out (by kernel_rfl)) (fun _ _ _ h=>h) (Or.inl ⟨by rfl,?_⟩) hHeld ?_ ?_
         rotate_left
         ·
          rintro w' ⟨s0,s1⟩
          go_simp
          with_reducible rfl
         rotate_left
         ·
          simp only [Act.put,List.setIfInBounds_toArray,List.set_cons_zero,List.set_cons_succ,i64_w,i32_w]
          rfl
         refine take_ (i:=8) (N:=some 23) (v:=?_) (a':=?_) #[true,true,true,true,true,true,true,true,true,false,false,false,false,false,false] rfl rfl (take_ofW HT_.out HW_.out (by kernel_rfl)) (fun _ _ _ h=>h) (Or.inl ⟨by rfl,?_⟩) hHeld ?_ ?_
         rotate_left
         ·
          rintro w' ⟨s0,s1⟩
          go_simp
          with_reducible rfl
         rotate_left
         ·
          simp only [Act.put,List.setIfInBounds_toArray,List.set_cons_zero,List.set_cons_succ,i64_w,i32_w]
          rfl
         refine pure_ (i:=9) (N:=some 24) (v:=?_) (a':=?_) #[true,true,true,true,true,true,true,true,true,true,false,false,false,false,false] rfl rfl (any_of HT_.out (by kernel_rfl)) (fun _ _ _ h=>h) (Or.inl ⟨by rfl,?_⟩) ?_ ?_
         rotate_left
         ·
          intro w'
          go_simp
          with_reducible rfl
         rotate_left
         ·
          simp only [Act.put,List.setIfInBounds_toArray,List.set_cons_zero,List.set_cons_succ,i64_w,i32_w]
          rfl
         refine pure_ (i:=10) (N:=some 25) (v:=?_) (a':=?_) #[true,true,true,true,true,true,true,true,true,true,true,false,false,false,false] rfl rfl (any_of HT_.out (by kernel_rfl)) (fun _ _ _ h=>h) (Or.inl ⟨by rfl,?_⟩) ?_ ?_
         rotate_left
         ·
          intro w'
          go_simp
          with_reducible rfl
         rotate_left
         ·
          simp only [Act.put,List.setIfInBounds_toArray,List.set_cons_zero,List.set_cons_succ,i64_w,i32_w]
          rfl
         refine pure_ (i:=11) (N:=some 26) (v:=?_) (a':=?_) #[true,true,true,true,true,true,true,true,true,true,true,true,false,false,false] rfl rfl (any_of HT_.out (by kernel_rfl)) (fun _ _ _ h=>h) (Or.inl ⟨by rfl,?_⟩) ?_ ?_
         rotate_left
         ·
          intro w'
          go_simp
          with_reducible rfl
         rotate_left
         ·
          simp only [Act.put,List.setIfInBounds_toArray,List.set_cons_zero,List.set_cons_succ,i64_w,i32_w]
          rfl
         refine last_ (i:=12) (N:=some 27) #[true,true,true,true,true,true,true,true,true,true,true,true,true,false,false] rfl rfl (one_of HT_.out (by kernel_rfl)) (by decide) (fun K hK=>?_)
         refine value_ (w1:=?_) (v:=?_) (by rfl) rfl ?_ ?_
         rotate_left 2
         ·
          go_simp
          constructor
          ·
           rfl
          ·
           rfl
         refine hK.out _ _ ?_
         clear hK K
         refine norm_ (a':=?_) ?_ ?_
         rotate_left
         ·
          show Act.put _ (some 27) _=_
          simp only [Act.put,List.setIfInBounds_toArray,List.set_cons_zero,List.set_cons_succ,i64_w,i32_w]
          rfl
         refine last_ (i:=13) (N:=some 28) #[true,true,true,true,true,true,true,true,true,true,true,true,true,true,false] rfl rfl (one_of HT_.out (by kernel_rfl)) (by decide) (fun K hK=>?_)
         refine Kd.N_append_step (Kd.slice 3 (Kd.int .i64)) (w0:=w) w.heap.size (by rfl) (.tmp 15) (.tmp 27) 25 26 (.slice none 0 0) 24 rfl Try.underlying25 info26 rfl (by decide) (by omega) u3 x3_1 y468 [.slice A466_0 y468.length c466_0] (fun k_=>(P0_ k_ ∨ w.heap.size≤k_)) (fun k_=>((fun k_=>(P0_ k_ ∨ w.heap.size≤k_))) k_∧some k_≠(u3:Value).ownBlock) rfl rfl ?aP (fun _ hk=>hk) ?aF ?aO ?aB ?aS ?aL ?_
         (case aP=>exact (Kd.FK_slice_mk (Kd.V_reads' (Kd.V_mono (ok':=(fun k_=>((fun k_=>(P0_ k_ ∨ w.heap.size≤k_))) k_∧some k_≠(u3:Value).ownBlock)) (HO472.out) (fun k_ hk=>⟨hk.1,hk.2⟩))).2.1 (Kd.V_F (Kd.V_mono (ok':=(fun k_=>((fun k_=>(P0_ k_ ∨ w.heap.size≤k_))) k_∧some k_≠(u3:Value).ownBlock)) (HO472.out) (fun k_ hk=>⟨hk.1,hk.2⟩)))))
         (case aB=>exact za39)
         (case aF=>exact (fun k_ hk=>(.inr (Nat.le_trans (below_size za39) hk))))
         (case aO=>exact (by (with_reducible repeat (first|apply Kd.N_alloc|apply Kd.N_drewN|apply Kd.N_drew));exact HO_3.out))
         (case aS=>exact (below_size za39))
         (case aL=>have:=LMc8.out;omega)
         intro v474 w11 ho hb hg hat
         rw [← Ny473.out] at ho
         have n0_:=Aside0.mk (Kd.V_afterv (ok:=(fun k_=>(P0_ k_ ∨ w.heap.size≤k_))) (by (with_reducible repeat (first|apply Kd.V_alloc|apply Kd.V_drewN|apply Kd.V_drew));exact HO_0.out) hg hat)
         have n1_:=Aside0.mk (Kd.V_afterv (ok:=(fun k_=>(P0_ k_ ∨ w.heap.size≤k_))) (by (with_reducible repeat (first|apply Kd.V_alloc|apply Kd.V_drewN|apply Kd.V_drew));exact HL466_0.out) hg hat)
         have n2_:=Aside0.mk (Kd.V_afterv (ok:=(fun k_=>(P0_ k_ ∨ w.heap.size≤k_))) (by (with_reducible repeat (first|apply Kd.V_alloc|apply Kd.V_drewN|apply Kd.V_drew));exact HL467_0.out) hg hat)
         have n3_:=Aside0.mk (Kd.V_afterv (ok:=(fun k_=>(P0_ k_ ∨ w.heap.size≤k_))) (by (with_reducible repeat (first|apply Kd.V_alloc|apply Kd.V_drewN|apply Kd.V_drew));exact HO472.out) hg hat)
         have n4_:=Aside0.mk (hb)
         have n5_:=Aside0.mk (ho)
         clear HO_0
         clear HL466_0
         clear HL467_0
         clear HO472
         clear HB
         clear HO_3
         have HO_0:=n0_
         have HL466_0:=n1_
         have HL467_0:=n2_
         have HO472:=n3_
         have HB:=n4_
         have HO475:=n5_
         clear n0_ n1_ n2_ n3_ n4_ n5_
         clear ho hb hg hat
         refine hK.out _ _ ?_
         clear hK K
         refine norm_ (a':=?_) ?_ ?_
         rotate_left
         ·
          show Act.put _ (some 28) _=_
          simp only [Act.put,List.setIfInBounds_toArray,List.set_cons_zero,List.set_cons_succ,i64_w,i32_w]
          rfl
         refine pure_ (i:=14) (N:=some 3) (v:=?_) (a':=?_) #[true,true,true,true,true,true,true,true,true,true,true,true,true,true,true] rfl rfl (any_of HT_.out (by kernel_rfl)) (fun _ _ _ h=>h) (Or.inl ⟨by rfl,?_⟩) ?_ ?_
         rotate_left
         ·
          intro w'
          go_simp
          with_reducible rfl
         rotate_left
         ·
          simp only [Act.put,List.setIfInBounds_toArray,List.set_cons_zero,List.set_cons_succ,i64_w,i32_w]
          rfl
         refine done_ (done_of HT_.out (by kernel_rfl)) ?_
         try go_wp2
         go_roundg k1
         case measure=>have:=HK1.out;omega
         case rel=>exact ⟨(y473),(wrap64 (x4_1 + 1)),za82,H',⟨by have:=HK1.out;omega⟩,⟨by (with_reducible repeat (first|apply Kd.V_alloc|apply Kd.V_drewN|apply Kd.V_drew));exact HO_0.out⟩,⟨by (with_reducible repeat (first|apply Kd.N_alloc|apply Kd.N_drewN|apply Kd.N_drew));exact HO475.out⟩,⟨by repeat (first|(with_reducible first|exact HB.out|apply below_alloc|apply pw_below_drewN|apply below_drew1)|exact HB.out)⟩⟩
        ·
         rw [if_neg c8] at H
         exact absurd H (by simp)
       ·
        rw [if_neg c7] at H
        exact absurd H (by simp)
      ·
       rw [if_neg c6] at H
       exact absurd H (by simp)
     ·
      rw [if_neg c4] at H
      exact absurd H (by simp)
    ·
     rw [if_neg c3] at H
     have c3b0:decide (x4_1<5)=false:=decide_eq_false c3
     clear c3
     obtain rfl:=Option.some.inj H
     go_wp2
     go_ret
     exact ⟨_,by first|rfl|(simp [errW_none,errW_some] <;> rfl)|(simp [*,errW_none,errW_some] <;> rfl),by (with_reducible repeat (first|apply Kd.N_alloc|apply Kd.N_drewN|apply Kd.N_drew));exact HO_3.out,by repeat (first|(with_reducible first|exact HB.out|apply below_alloc|apply pw_below_drewN|apply below_drew1)|exact HB.out)⟩
   ·
    rw [if_neg c2] at H
    have c2b0:decide (x4_1<(l0.length:Int))=false:=decide_eq_false c2
    clear c2
    obtain rfl:=Option.some.inj H
    go_wp2
    go_ret
    exact ⟨_,by first|rfl|(simp [errW_none,errW_some] <;> rfl)|(simp [*,errW_none,errW_some] <;> rfl),by (with_reducible repeat (first|apply Kd.N_alloc|apply Kd.N_drewN|apply Kd.N_drew));exact HO_3.out,by repeat (first|(with_reducible first|exact HB.out|apply below_alloc|apply pw_below_drewN|apply below_drew1)|exact HB.out)⟩
end Go.Proofs.Ytlgkeaildncojaa.Q
end
section
namespace Go.Proofs.Ytlgkeaildncojaa.Q
open Go.RowKit Go.Proofs.YtlgkeaildncojaaW.PrintWords Go.Proofs.YtlgkeaildncojaaW.PrintLast Go.Proofs.YtlgkeaildncojaaW.PrintMore
attribute [local go_sem] max2_int min2_int max_two min_two max_three min_three max_four min_four   -- for this text's walks alone
set_option linter.unusedVariables false
set_option linter.unusedSimpArgs false
mutual
def abugidalaw16_cut.l0:Nat→Int→List (S49)→List (S49)→Option ((List (S49)))
 | 0,_,_,_=>none
 | k + 1,x5,x477000,x479000=>if x5<(x477000.length:Int) then (abugidalaw16_cut.j1 k x5 (decide (x5<9)) x477000 x479000) else (abugidalaw16_cut.j1 k x5 false x477000 x479000)
def abugidalaw16_cut.j1:Nat→Int→Bool→List (S49)→List (S49)→Option ((List (S49)))
 | 0,_,_,_,_=>none
 | k + 1,x5,x15,x477000,x479000=>if x15=true then (if 0≤x5 then (if x5<(x477000.length:Int) then ((abugidalaw16_cut_1.f k ((rd_T49 x477000 x5).f0)).bind fun t481=>((abugidalaw16_cut_1.f k ((rd_T49 x477000 x5).f1)).bind fun t484=>((abugidalaw16_cut_1.f k ((rd_T49 x477000 x5).f2)).bind fun t487=>(if 0≤(mn (((rd_T49 x477000 x5).f3).length:Int) 5) then (if (mn (((rd_T49 x477000 x5).f3).length:Int) 5)≤(((rd_T49 x477000 x5).f3).length:Int) then (if 0≤(mn (((rd_T49 x477000 x5).f4).length:Int) 4) then (if (mn (((rd_T49 x477000 x5).f4).length:Int) 4)≤(((rd_T49 x477000 x5).f4).length:Int) then (if x479000.length<1172812402961 then (abugidalaw16_cut.l0 k (wrap64 (x5 + 1)) x477000 (x479000++[(⟨t481,t484,t487,(((rd_T49 x477000 x5).f3).take ((mn (((rd_T49 x477000 x5).f3).length:Int) 5):Int).toNat),(((rd_T49 x477000 x5).f4).take ((mn (((rd_T49 x477000 x5).f4).length:Int) 4):Int).toNat)⟩:S49)])) else (none)) else (none)) else (none)) else (none)) else (none))))) else (none)) else (none)) else (some x479000)
end
def abugidalaw16_cut.f (k:Nat) (l0_0:List (S49)):Option ((List (S49))):=abugidalaw16_cut.l0 k 0 l0_0 ([]:List (S49))
theorem abugidalaw16_cut.mono_l:∀ k,(∀ y0 y1 y2,LeO (abugidalaw16_cut.l0 k y0 y1 y2) (abugidalaw16_cut.l0 (k + 1) y0 y1 y2))∧(∀ y0 y1 y2 y3,LeO (abugidalaw16_cut.j1 k y0 y1 y2 y3) (abugidalaw16_cut.j1 (k + 1) y0 y1 y2 y3))
 | 0=>⟨fun _ _ _ r h=>by simp [abugidalaw16_cut.l0] at h,fun _ _ _ _ r h=>by simp [abugidalaw16_cut.j1] at h⟩
 | k + 1=>by
  obtain ⟨ih0,ih1⟩:=abugidalaw16_cut.mono_l k
  refine ⟨?_,?_⟩
  ·
   intro y0 y1 y2
   unfold abugidalaw16_cut.l0
   repeat' first
   | (with_reducible exact ih0 _ _ _)
   | (with_reducible exact ih1 _ _ _ _)
   | (with_reducible exact abugidalaw16_cut_1.mono _ _)
   | (with_reducible exact LeO.refl _)
   | (with_reducible exact LeO.none _)
   | (with_reducible refine LeO.ite ?_ ?_)
   | (with_reducible refine LeO.bind ?_ (fun _=>?_))
   | exact ih0 _ _ _
   | exact ih1 _ _ _ _
   | exact abugidalaw16_cut_1.mono _ _
   | exact LeO.none _
   | refine LeO.ite ?_ ?_
   | refine LeO.bind ?_ (fun _=>?_)
  ·
   intro y0 y1 y2 y3
   unfold abugidalaw16_cut.j1
   repeat' first
   | (with_reducible exact ih0 _ _ _)
   | (with_reducible exact ih1 _ _ _ _)
   | (with_reducible exact abugidalaw16_cut_1.mono _ _)
   | (with_reducible exact LeO.refl _)
   | (with_reducible exact LeO.none _)
   | (with_reducible refine LeO.ite ?_ ?_)
   | (with_reducible refine LeO.bind ?_ (fun _=>?_))
   | exact ih0 _ _ _
   | exact ih1 _ _ _ _
   | exact abugidalaw16_cut_1.mono _ _
   | exact LeO.none _
   | refine LeO.ite ?_ ?_
   | refine LeO.bind ?_ (fun _=>?_)
theorem abugidalaw16_cut.mono:∀ a0 k,LeO (abugidalaw16_cut.f k a0) (abugidalaw16_cut.f (k + 1) a0):=by
 intro a0 k
 obtain ⟨ih0,ih1⟩:=abugidalaw16_cut.mono_l k
 unfold abugidalaw16_cut.f
 repeat' first
   | (with_reducible exact ih0 _ _ _)
   | (with_reducible exact ih1 _ _ _ _)
   | (with_reducible exact abugidalaw16_cut_1.mono _ _)
   | (with_reducible exact LeO.refl _)
   | (with_reducible exact LeO.none _)
   | (with_reducible refine LeO.ite ?_ ?_)
   | (with_reducible refine LeO.bind ?_ (fun _=>?_))
   | exact ih0 _ _ _
   | exact ih1 _ _ _ _
   | exact abugidalaw16_cut_1.mono _ _
   | exact LeO.none _
   | refine LeO.ite ?_ ?_
   | refine LeO.bind ?_ (fun _=>?_)
def abugidalaw16_cut.T7:Bool × List (List Nat × List Nat):=(true,[([],[]),([0],[0]),([],[]),([],[]),([3],[3]),([2,4],[2,4]),([],[]),([],[]),([7],[7]),([6,8,5],[6,8]),([],[]),([],[]),([11],[11]),([10,12,9],[10,12]),([],[]),([14],[14]),([],[]),([16],[16]),([17],[17]),([18],[18]),([15,19],[15,19]),([],[]),([21],[21]),([],[]),([23],[23]),([24],[24]),([25],[25]),([22,26],[22,26]),([5,9,13,20,27],[5,9,13,20,27]),([28],[28]),([1,29,13],[1,29]),([0,1,2,3,4,5,6,7,8,9,10,11,12,13,14,15,16,17,18,19,20,21,22,23,24,25,26,27,28,29,30],[]),([31,30,30,0,1,2,3,4,5,6,7,8,9,10,11,12,13,14,15,16,17,18,19,20,21,22,23,24,25,26,27,28,29,30],[30,31])])
def abugidalaw16_cut.B7:List Nat:=[0,1,0,0,8,28,0,0,128,508,0,0,2048,8188,0,16384,0,65536,196608,458752,1032192,0,2097152,0,8388608,25165824,58720256,132120576,268435452,536870908,1073741823,2147483647,4294967295]
theorem abugidalaw16_cut.tab7:rtab .any (opsOf Try.f14 7)=abugidalaw16_cut.T7:=by kernel_rfl
theorem abugidalaw16_cut.bits7:waitsOk abugidalaw16_cut.T7.2 abugidalaw16_cut.B7=true:=by kernel_rfl
set_option maxHeartbeats 8000000 in
set_option maxRecDepth 100000 in
theorem abugidalaw16_cut.calls (k:Nat) (P0_0_:Nat→Prop) (A0_0:Option Addr) (c0_0:Nat) (l0_0:List (S49)) (r:List (S49)) (w:World) (hs0_0:Kd.V k49 49 w w.heap.size (fun k_=>P0_0_ k_) (.slice A0_0 l0_0.length c0_0) l0_0) (h:abugidalaw16_cut.f k l0_0=some r) :
  Calls Try.prog 14 #[.agg #[.slice A0_0 l0_0.length c0_0]] w fun e w'=>∃ v0_:Value,e=.returned (.agg #[v0_])∧Kd.N k49 49 w' w.heap.size (fun k_=>(P0_0_ k_ ∨ w.heap.size≤k_)) v0_ r∧Below w.heap.size w w':=by
 have hu24:=Try.underlying24
 have hu49:=Try.underlying49
 have HO0_0:=Aside0.mk (show Kd.V k49 49 w w.heap.size (fun k_=>(P0_0_ k_ ∨ w.heap.size≤k_)) (.slice A0_0 l0_0.length c0_0) l0_0 from Kd.V_mono hs0_0 (fun k_ hk=>.inl hk))
 have HB:=Aside0.mk (Below.refl w.heap.size w)
 have H:(abugidalaw16_cut.l0 k 0 l0_0 ([]:List (S49)))=some r:=h
 clear h
 have H':=Aside0.mk H
 clear H
 go_enter Try.func14,Try.ntmps14
 go_wp2_with (first|((with_reducible refine gate_dst (N:=1) rfl ?_);refine box_event ?hg (N:=1) ?hd (cs:=#[.slice A0_0 l0_0.length c0_0]) (t:=24) ?hr ?_;(case hd=>rfl);(case hg=>rfl);(case hr=>first|(go_simp;done)|(go_simp;rfl));intro gb476 hg w2 hbox hb;have n0_:=Aside0.mk (Kd.V_below (Kd.V_elderB za66 gb476 (Nat.le_of_eq hg.symm)) hb);have n1_:=Aside0.mk (below_step za39 hb);have n2_:=Aside0.mk (hbox);have n3_:=Aside0.mk ((za32:w.heap.size≤gb476));have n4_:=Aside0.mk ((za32:w.heap.size≤gb476));clear HO0_0;clear HB;have HO0_0:=n0_;have HB:=n1_;have BK476:=n2_;have GW476:=n3_;have GE476:=n4_;clear n0_ n1_ n2_ n3_ n4_;clear hb hbox hg)|((with_reducible refine gate_dst (N:=2) rfl ?_);refine box_event ?hg (N:=2) ?hd (cs:=#[.slice none 0 0]) (t:=24) ?hr ?_;(case hd=>rfl);(case hg=>rfl);(case hr=>first|(go_simp;done)|(go_simp;rfl));intro gb477 hg w3 hbox hb;have n0_:=Aside0.mk (Kd.V_below (Kd.V_elderB za66 gb477 (Nat.le_of_eq hg.symm)) hb);have n1_:=Aside0.mk (blk_below (g:=gb476) (o:=.cells #[.slice A0_0 l0_0.length c0_0] 24 (0,0)) za43 hb);have n2_:=Aside0.mk (below_step (by repeat (first|(with_reducible first|exact HB.out|apply below_alloc|apply pw_below_drewN|apply below_drew1|refine below_set ?_ GE476.out)|exact HB.out)) hb);have n3_:=Aside0.mk (hbox);have n4_:=Aside0.mk ((za24:w.heap.size≤gb477));have n5_:=Aside0.mk ((za24:w.heap.size≤gb477));have n6_:=Aside0.mk ((za11:gb476≠gb477));have n7_:=Aside0.mk ((za12:gb477≠gb476));clear HO0_0;clear BK476;clear HB;have HO0_0:=n0_;have BK476:=n1_;have HB:=n2_;have BK477:=n3_;have GW477:=n4_;have GE477:=n5_;have NB476_477:=n6_;have NB477_476:=n7_;clear n0_ n1_ n2_ n3_ n4_ n5_ n6_ n7_;clear hb hbox hg)|((with_reducible refine gate_dst (N:=3) rfl ?_);refine box_event ?hg (N:=3) ?hd (cs:=#[.slice none 0 0]) (t:=24) ?hr ?_;(case hd=>rfl);(case hg=>rfl);(case hr=>first|(go_simp;done)|(go_simp;rfl));intro gb478 hg w4 hbox hb;have n0_:=Aside0.mk (Kd.V_below (Kd.V_elderB za66 gb478 (Nat.le_of_eq hg.symm)) hb);have n1_:=Aside0.mk (blk_below (g:=gb476) (o:=.cells #[.slice A0_0 l0_0.length c0_0] 24 (0,0)) za43 hb);have n2_:=Aside0.mk (blk_below (g:=gb477) (o:=.cells #[.slice none 0 0] 24 (0,0)) za44 hb);have n3_:=Aside0.mk (below_step (by repeat (first|(with_reducible first|exact HB.out|apply below_alloc|apply pw_below_drewN|apply below_drew1|refine below_set ?_ GE476.out|refine below_set ?_ GE477.out)|exact HB.out)) hb);have n4_:=Aside0.mk (hbox);have n5_:=Aside0.mk ((za13:w.heap.size≤gb478));have n6_:=Aside0.mk ((za13:w.heap.size≤gb478));have n7_:=Aside0.mk ((za11:gb476≠gb478));have n8_:=Aside0.mk ((za12:gb478≠gb476));have n9_:=Aside0.mk ((za15:gb477≠gb478));have n10_:=Aside0.mk ((za16:gb478≠gb477));clear HO0_0;clear BK476;clear BK477;clear HB;have HO0_0:=n0_;have BK476:=n1_;have BK477:=n2_;have HB:=n3_;have BK478:=n4_;have GW478:=n5_;have GE478:=n6_;have NB476_478:=n7_;have NB478_476:=n8_;have NB477_478:=n9_;have NB478_477:=n10_;clear n0_ n1_ n2_ n3_ n4_ n5_ n6_ n7_ n8_ n9_ n10_;clear hb hbox hg))
 go_loopg [5] k (fun kq v5 w'=>∃ (x5_1:Int) (x479000_1:List (S49)) (u479000:Value),v5=.int .i64 x5_1∧Aside0 (abugidalaw16_cut.l0 kq x5_1 l0_0 x479000_1=some r)∧Aside0 (kq≤k)∧Aside0 (Kd.V k49 49 w' w.heap.size (fun k_=>(P0_0_ k_ ∨ w.heap.size≤k_)∧some k_≠(u479000:Value).ownBlock∧k_≠gb476∧k_≠gb477∧k_≠gb478) (.slice A0_0 l0_0.length c0_0) l0_0)∧Aside0 (Kd.N k49 49 w' w.heap.size (fun k_=>(P0_0_ k_ ∨ w.heap.size≤k_)∧k_≠gb476∧k_≠gb477∧k_≠gb478) u479000 x479000_1)∧Aside0 (w'.heap[gb476]?=some (.cells #[(.slice A0_0 l0_0.length c0_0)] 24 (0,0)))∧Aside0 (w'.heap[gb477]?=some (.cells #[(.slice none 0 0)] 24 (0,0)))∧Aside0 (w'.heap[gb478]?=some (.cells #[u479000] 24 (0,0)))∧Aside0 (Below w.heap.size w w'))
 case atStart=>exact ⟨(0),(([]:List (S49))),(.slice none 0 0),za82,H',⟨Nat.le_refl _⟩,⟨by (with_reducible repeat (first|apply Kd.V_alloc|apply Kd.V_drewN|apply Kd.V_drew));exact Kd.V_mono HO0_0.out (fun _ hk=>⟨hk.1.1.1,⟨(by simp [Value.ownBlock]),⟨hk.1.1.2,⟨hk.1.2,hk.2⟩⟩⟩⟩)⟩,⟨by first|exact Kd.R_nil _ _ _ _ _|exact Kd.N_nil _ _ _ _ _|exact Kd.V_nil _ _ _ _ _|exact Kd.Q_nil _ _ _ _ _|exact Kd.S_nil _ _ _ _ _⟩,⟨by (with_reducible repeat (first|refine blk_drewN ?_ _|refine blk_drew ?_|refine blk_alloc ?_ _));exact BK476.out⟩,⟨by (with_reducible repeat (first|refine blk_drewN ?_ _|refine blk_drew ?_|refine blk_alloc ?_ _));exact BK477.out⟩,⟨by (with_reducible repeat (first|refine blk_drewN ?_ _|refine blk_drew ?_|refine blk_alloc ?_ _));exact BK478.out⟩,⟨by repeat (first|(with_reducible first|exact HB.out|apply below_alloc|apply pw_below_drewN|apply below_drew1|refine below_set ?_ GE476.out|refine below_set ?_ GE477.out|refine below_set ?_ GE478.out)|exact HB.out)⟩⟩
 case round =>
  clear H'
  try clear c1
  try clear p2
  obtain ⟨x5_1,x479000_1,u479000,rfl,HA,HK1,HO_477000,HO_479000,BK476,BK477,BK478,HB⟩:=hrel
  cases gk with
  | zero=>exact absurd HA.out (by simp [abugidalaw16_cut.l0])
  | succ k1 =>
   have H:=HA.out
   clear HA
   simp only [abugidalaw16_cut.l0] at H
   have HC5:=Aside0.mk H
   clear H
   go_upto_region 4 with (fail)
   go_cut [15] (fun v15 wc=>∃ (kq:Nat) (x15_4:Bool),v15=.bool x15_4∧Aside0 (abugidalaw16_cut.j1 kq x5_1 x15_4 l0_0 x479000_1=some r)∧Aside0 (kq≤k1)∧Aside0 (Kd.V k49 49 wc w.heap.size (fun k_=>(P0_0_ k_ ∨ w.heap.size≤k_)∧some k_≠(u479000:Value).ownBlock∧k_≠gb476∧k_≠gb477∧k_≠gb478) (.slice A0_0 l0_0.length c0_0) l0_0)∧Aside0 (Kd.N k49 49 wc w.heap.size (fun k_=>(P0_0_ k_ ∨ w.heap.size≤k_)∧k_≠gb476∧k_≠gb477∧k_≠gb478) u479000 x479000_1)∧Aside0 (wc.heap[gb476]?=some (.cells #[(.slice A0_0 l0_0.length c0_0)] 24 (0,0)))∧Aside0 (wc.heap[gb477]?=some (.cells #[(.slice none 0 0)] 24 (0,0)))∧Aside0 (wc.heap[gb478]?=some (.cells #[u479000] 24 (0,0)))∧Aside0 (Below w.heap.size w wc))
   case first =>
    have H:=HC5.out
    clear HC5
    by_cases c6:x5_1<(l0_0.length:Int)
    ·
     rw [if_pos c6] at H
     have c6b0:decide (x5_1<(l0_0.length:Int))=true:=decide_eq_true c6
     clear c6
     (first|rw [c6b0]|(simp only [i64_w,i32_w];rw [c6b0])|skip)
     have H':=Aside0.mk H
     clear H
     have hnb7:=NB476_477.out
     have hnc7:=NB477_476.out
     have hnb8:=NB476_478.out
     have hnc8:=NB478_476.out
     have hcz9_0:wr.cell? ⟨gb476,0,none⟩=some (.slice A0_0 l0_0.length c0_0):=(blk_cell BK476.out 0).trans rfl
     have hfz9_0:=blk_frozen BK476.out 0
     go_wp2
     go_meet
     case rel=>exact ⟨_,(decide (x5_1<9)),za82,H',⟨by have:=HK1.out;first|omega|exact Nat.le_refl _⟩,⟨by (with_reducible repeat (first|apply Kd.V_alloc|apply Kd.V_drewN|apply Kd.V_drew));exact HO_477000.out⟩,⟨by (with_reducible repeat (first|apply Kd.N_alloc|apply Kd.N_drewN|apply Kd.N_drew));exact HO_479000.out⟩,⟨by (with_reducible repeat (first|refine blk_drewN ?_ _|refine blk_drew ?_|refine blk_alloc ?_ _));exact BK476.out⟩,⟨by (with_reducible repeat (first|refine blk_drewN ?_ _|refine blk_drew ?_|refine blk_alloc ?_ _));exact BK477.out⟩,⟨by (with_reducible repeat (first|refine blk_drewN ?_ _|refine blk_drew ?_|refine blk_alloc ?_ _));exact BK478.out⟩,⟨by repeat (first|(with_reducible first|exact HB.out|apply below_alloc|apply pw_below_drewN|apply below_drew1|refine below_set ?_ GE476.out|refine below_set ?_ GE477.out|refine below_set ?_ GE478.out)|exact HB.out)⟩⟩
    ·
     rw [if_neg c6] at H
     have c6b0:decide (x5_1<(l0_0.length:Int))=false:=decide_eq_false c6
     clear c6
     (first|rw [c6b0]|(simp only [i64_w,i32_w];rw [c6b0])|skip)
     have H':=Aside0.mk H
     clear H
     have hnb10:=NB476_477.out
     have hnc10:=NB477_476.out
     have hnb11:=NB476_478.out
     have hnc11:=NB478_476.out
     have hcz12_0:wr.cell? ⟨gb476,0,none⟩=some (.slice A0_0 l0_0.length c0_0):=(blk_cell BK476.out 0).trans rfl
     have hfz12_0:=blk_frozen BK476.out 0
     go_wp2
     go_meet
     case rel=>exact ⟨_,(false),za82,H',⟨by have:=HK1.out;first|omega|exact Nat.le_refl _⟩,⟨by (with_reducible repeat (first|apply Kd.V_alloc|apply Kd.V_drewN|apply Kd.V_drew));exact HO_477000.out⟩,⟨by (with_reducible repeat (first|apply Kd.N_alloc|apply Kd.N_drewN|apply Kd.N_drew));exact HO_479000.out⟩,⟨by (with_reducible repeat (first|refine blk_drewN ?_ _|refine blk_drew ?_|refine blk_alloc ?_ _));exact BK476.out⟩,⟨by (with_reducible repeat (first|refine blk_drewN ?_ _|refine blk_drew ?_|refine blk_alloc ?_ _));exact BK477.out⟩,⟨by (with_reducible repeat (first|refine blk_drewN ?_ _|refine blk_drew ?_|refine blk_alloc ?_ _));exact BK478.out⟩,⟨by repeat (first|(with_reducible first|exact HB.out|apply below_alloc|apply pw_below_drewN|apply below_drew1|refine below_set ?_ GE476.out|refine below_set ?_ GE477.out|refine below_set ?_ GE478.out)|exact HB.out)⟩⟩
   case rest =>
    clear HC5
    try clear c1
    try clear p2
    try clear c6
    try clear c6b0
    try clear c7
    try clear c8
    try clear c10
    try clear c11
    try clear hcz12_0
    try clear hcz9_0
    try clear hfz12_0
    try clear hfz9_0
    try clear p2
    obtain ⟨kq,x15_4,rfl,HA,HJ4,HO_477000,HO_479000,BK476,BK477,BK478,HB⟩:=hcut
    cases kq with
    | zero=>exact absurd HA.out (by simp [abugidalaw16_cut.j1])
    | succ kj4 =>
     have H:=HA.out
     clear HA
     simp only [abugidalaw16_cut.j1] at H
     by_cases c13:x15_4=true
     ·
      subst c13
      have H1:(if 0≤x5_1 then (if x5_1<(l0_0.length:Int) then ((abugidalaw16_cut_1.f kj4 ((rd_T49 l0_0 x5_1).f0)).bind fun t481=>((abugidalaw16_cut_1.f kj4 ((rd_T49 l0_0 x5_1).f1)).bind fun t484=>((abugidalaw16_cut_1.f kj4 ((rd_T49 l0_0 x5_1).f2)).bind fun t487=>(if 0≤(mn (((rd_T49 l0_0 x5_1).f3).length:Int) 5) then (if (mn (((rd_T49 l0_0 x5_1).f3).length:Int) 5)≤(((rd_T49 l0_0 x5_1).f3).length:Int) then (if 0≤(mn (((rd_T49 l0_0 x5_1).f4).length:Int) 4) then (if (mn (((rd_T49 l0_0 x5_1).f4).length:Int) 4)≤(((rd_T49 l0_0 x5_1).f4).length:Int) then (if x479000_1.length<1172812402961 then (abugidalaw16_cut.l0 kj4 (wrap64 (x5_1 + 1)) l0_0 (x479000_1++[(⟨t481,t484,t487,(((rd_T49 l0_0 x5_1).f3).take ((mn (((rd_T49 l0_0 x5_1).f3).length:Int) 5):Int).toNat),(((rd_T49 l0_0 x5_1).f4).take ((mn (((rd_T49 l0_0 x5_1).f4).length:Int) 4):Int).toNat)⟩:S49)])) else (none)) else (none)) else (none)) else (none)) else (none))))) else (none)) else (none))=some r:=by rw [if_pos rfl] at H;exact H
      clear H
      have H:=H1
      clear H1
      by_cases c14:0≤x5_1
      ·
       rw [if_pos c14] at H
       have c14b0:decide (0≤x5_1)=true:=decide_eq_true c14
       clear c14
       by_cases c15:x5_1<(l0_0.length:Int)
       ·
        rw [if_pos c15] at H
        have c15b0:decide (x5_1<(l0_0.length:Int))=true:=decide_eq_true c15
        clear c15
        replace H:=Option.bind_eq_some_iff.mp H
        obtain ⟨t481,A160,H⟩:=H
        replace H:((abugidalaw16_cut_1.f kj4 ((rd_T49 l0_0 x5_1).f1)).bind fun t484=>((abugidalaw16_cut_1.f kj4 ((rd_T49 l0_0 x5_1).f2)).bind fun t487=>(if 0≤(mn (((rd_T49 l0_0 x5_1).f3).length:Int) 5) then (if (mn (((rd_T49 l0_0 x5_1).f3).length:Int) 5)≤(((rd_T49 l0_0 x5_1).f3).length:Int) then (if 0≤(mn (((rd_T49 l0_0 x5_1).f4).length:Int) 4) then (if (mn (((rd_T49 l0_0 x5_1).f4).length:Int) 4)≤(((rd_T49 l0_0 x5_1).f4).length:Int) then (if x479000_1.length<1172812402961 then (abugidalaw16_cut.l0 kj4 (wrap64 (x5_1 + 1)) l0_0 (x479000_1++[(⟨t481,t484,t487,(((rd_T49 l0_0 x5_1).f3).take ((mn (((rd_T49 l0_0 x5_1).f3).length:Int) 5):Int).toNat),(((rd_T49 l0_0 x5_1).f4).take ((mn (((rd_T49 l0_0 x5_1).f4).length:Int) 4):Int).toNat)⟩:S49)])) else (none)) else (none)) else (none)) else (none)) else (none))))=some r:=H
        have A16:=Aside0.mk A160
        clear A160
        replace H:=Option.bind_eq_some_iff.mp H
        obtain ⟨t484,A170,H⟩:=H
        replace H:((abugidalaw16_cut_1.f kj4 ((rd_T49 l0_0 x5_1).f2)).bind fun t487=>(if 0≤(mn (((rd_T49 l0_0 x5_1).f3).length:Int) 5) then (if (mn (((rd_T49 l0_0 x5_1).f3).length:Int) 5)≤(((rd_T49 l0_0 x5_1).f3).length:Int) then (if 0≤(mn (((rd_T49 l0_0 x5_1).f4).length:Int) 4) then (if (mn (((rd_T49 l0_0 x5_1).f4).length:Int) 4)≤(((rd_T49 l0_0 x5_1).f4).length:Int) then (if x479000_1.length<1172812402961 then (abugidalaw16_cut.l0 kj4 (wrap64 (x5_1 + 1)) l0_0 (x479000_1++[(⟨t481,t484,t487,(((rd_T49 l0_0 x5_1).f3).take ((mn (((rd_T49 l0_0 x5_1).f3).length:Int) 5):Int).toNat),(((rd_T49 l0_0 x5_1).f4).take ((mn (((rd_T49 l0_0 x5_1).f4).length:Int) 4):Int).toNat)⟩:S49)])) else (none)) else (none)) else (none)) else (none)) else (none)))=some r:=H
        have A17:=Aside0.mk A170
        clear A170
        replace H:=Option.bind_eq_some_iff.mp H
        obtain ⟨t487,A180,H⟩:=H
        replace H:(if 0≤(mn (((rd_T49 l0_0 x5_1).f3).length:Int) 5) then (if (mn (((rd_T49 l0_0 x5_1).f3).length:Int) 5)≤(((rd_T49 l0_0 x5_1).f3).length:Int) then (if 0≤(mn (((rd_T49 l0_0 x5_1).f4).length:Int) 4) then (if (mn (((rd_T49 l0_0 x5_1).f4).length:Int) 4)≤(((rd_T49 l0_0 x5_1).f4).length:Int) then (if x479000_1.length<1172812402961 then (abugidalaw16_cut.l0 kj4 (wrap64 (x5_1 + 1)) l0_0 (x479000_1++[(⟨t481,t484,t487,(((rd_T49 l0_0 x5_1).f3).take ((mn (((rd_T49 l0_0 x5_1).f3).length:Int) 5):Int).toNat),(((rd_T49 l0_0 x5_1).f4).take ((mn (((rd_T49 l0_0 x5_1).f4).length:Int) 4):Int).toNat)⟩:S49)])) else (none)) else (none)) else (none)) else (none)) else (none))=some r:=H
        have A18:=Aside0.mk A180
        clear A180
        obtain ⟨ji19,hji19⟩:∃ j_:Int,(mn (((rd_T49 l0_0 x5_1).f3).length:Int) 5)=j_:=⟨_,rfl⟩
        replace H:(if 0≤(ji19) then (if (ji19)≤(((rd_T49 l0_0 x5_1).f3).length:Int) then (if 0≤(mn (((rd_T49 l0_0 x5_1).f4).length:Int) 4) then (if (mn (((rd_T49 l0_0 x5_1).f4).length:Int) 4)≤(((rd_T49 l0_0 x5_1).f4).length:Int) then (if x479000_1.length<1172812402961 then (abugidalaw16_cut.l0 kj4 (wrap64 (x5_1 + 1)) l0_0 (x479000_1++[(⟨t481,t484,t487,(((rd_T49 l0_0 x5_1).f3).take ((ji19):Int).toNat),(((rd_T49 l0_0 x5_1).f4).take ((mn (((rd_T49 l0_0 x5_1).f4).length:Int) 4):Int).toNat)⟩:S49)])) else (none)) else (none)) else (none)) else (none)) else (none))=some r:=by first|(rw [hji19] at H;exact H)|(simp only [hji19] at H ⊢;exact H)
        (try rw [hji19] at A16)
        (try rw [hji19] at A17)
        (try rw [hji19] at A18)
        have hji19_:(if 5<(((rd_T49 l0_0 x5_1).f3).length:Int) then 5 else (((rd_T49 l0_0 x5_1).f3).length:Int))=ji19:=hji19
        by_cases c20:0≤(ji19)
        ·
         rw [if_pos c20] at H
         have c20b0:=eq_true c20
         have c20b1:decide (0≤(ji19))=true:=decide_eq_true c20
         clear c20
         by_cases c21:(ji19)≤(((rd_T49 l0_0 x5_1).f3).length:Int)
         ·
          rw [if_pos c21] at H
          have c21b0:=eq_true c21
          have c21b1:decide ((ji19)≤(((rd_T49 l0_0 x5_1).f3).length:Int))=true:=decide_eq_true c21
          clear c21
          obtain ⟨y490,hy490⟩:∃ y_:List Int,y_=(((rd_T49 l0_0 x5_1).f3).take ((ji19):Int).toNat):=⟨_,rfl⟩
          replace H:(if 0≤(mn (((rd_T49 l0_0 x5_1).f4).length:Int) 4) then (if (mn (((rd_T49 l0_0 x5_1).f4).length:Int) 4)≤(((rd_T49 l0_0 x5_1).f4).length:Int) then (if x479000_1.length<1172812402961 then (abugidalaw16_cut.l0 kj4 (wrap64 (x5_1 + 1)) l0_0 (x479000_1++[(⟨t481,t484,t487,y490,(((rd_T49 l0_0 x5_1).f4).take ((mn (((rd_T49 l0_0 x5_1).f4).length:Int) 4):Int).toNat)⟩:S49)])) else (none)) else (none)) else (none))=some r:=by first|(rw [hy490];with_reducible exact H)|(have H2_:=(Option.bind_some _ _).symm.trans H;rw [hy490];with_reducible exact H2_)|(have H2_:=(Option.bind_some _ _).symm.trans H;with_reducible exact H2_)|with_reducible exact H|(rw [hy490];exact H)|exact H
          have Ny490:=Aside0.mk hy490
          clear hy490
          obtain ⟨ji22,hji22⟩:∃ j_:Int,(mn (((rd_T49 l0_0 x5_1).f4).length:Int) 4)=j_:=⟨_,rfl⟩
          replace H:(if 0≤(ji22) then (if (ji22)≤(((rd_T49 l0_0 x5_1).f4).length:Int) then (if x479000_1.length<1172812402961 then (abugidalaw16_cut.l0 kj4 (wrap64 (x5_1 + 1)) l0_0 (x479000_1++[(⟨t481,t484,t487,y490,(((rd_T49 l0_0 x5_1).f4).take ((ji22):Int).toNat)⟩:S49)])) else (none)) else (none)) else (none))=some r:=by first|(rw [hji22] at H;exact H)|(simp only [hji22] at H ⊢;exact H)
          (try rw [hji22] at A16)
          (try rw [hji22] at A17)
          (try rw [hji22] at A18)
          have hji22_:(if 4<(((rd_T49 l0_0 x5_1).f4).length:Int) then 4 else (((rd_T49 l0_0 x5_1).f4).length:Int))=ji22:=hji22
          by_cases c23:0≤(ji22)
          ·
           rw [if_pos c23] at H
           have c23b0:=eq_true c23
           have c23b1:decide (0≤(ji22))=true:=decide_eq_true c23
           clear c23
           by_cases c24:(ji22)≤(((rd_T49 l0_0 x5_1).f4).length:Int)
           ·
            rw [if_pos c24] at H
            have c24b0:=eq_true c24
            have c24b1:decide ((ji22)≤(((rd_T49 l0_0 x5_1).f4).length:Int))=true:=decide_eq_true c24
            clear c24
            obtain ⟨y495,hy495⟩:∃ y_:List (S60),y_=(((rd_T49 l0_0 x5_1).f4).take ((ji22):Int).toNat):=⟨_,rfl⟩
            replace H:(if x479000_1.length<1172812402961 then (abugidalaw16_cut.l0 kj4 (wrap64 (x5_1 + 1)) l0_0 (x479000_1++[(⟨t481,t484,t487,y490,y495⟩:S49)])) else (none))=some r:=by first|(rw [hy495];with_reducible exact H)|(have H2_:=(Option.bind_some _ _).symm.trans H;rw [hy495];with_reducible exact H2_)|(have H2_:=(Option.bind_some _ _).symm.trans H;with_reducible exact H2_)|with_reducible exact H|(rw [hy495];exact H)|exact H
            have Ny495:=Aside0.mk hy495
            clear hy495
            by_cases c25:x479000_1.length<1172812402961
            ·
             rw [if_pos c25] at H
             have LMc25:=Aside0.mk c25
             clear c25
             obtain ⟨y500,hy500⟩:∃ y_:List (S49),y_=(x479000_1++[(⟨t481,t484,t487,y490,y495⟩:S49)]):=⟨_,rfl⟩
             replace H:(abugidalaw16_cut.l0 kj4 (wrap64 (x5_1 + 1)) l0_0 y500)=some r:=by first|(rw [hy500];with_reducible exact H)|(have H2_:=(Option.bind_some _ _).symm.trans H;rw [hy500];with_reducible exact H2_)|(have H2_:=(Option.bind_some _ _).symm.trans H;with_reducible exact H2_)|with_reducible exact H|(rw [hy500];exact H)|exact H
             have Ny500:=Aside0.mk hy500
             clear hy500
             have H':=Aside0.mk H
             clear H
             have hnb26:=NB476_477.out
             have hnc26:=NB477_476.out
             have hnb27:=NB476_478.out
             have hnc27:=NB478_476.out
             have hcz28_0:wc.cell? ⟨gb476,0,none⟩=some (.slice A0_0 l0_0.length c0_0):=(blk_cell BK476.out 0).trans rfl
             have hfz28_0:=blk_frozen BK476.out 0
             have p479:0≤(x5_1:Int):=of_decide_eq_true za79
             have q479:x5_1<(l0_0.length:Int):=of_decide_eq_true za79
             obtain ⟨ad479,A479_0,c479_0,A479_1,c479_1,A479_2,c479_2,A479_3,c479_3,A479_4,c479_4,e479,hx479_0,hx479_1,hx479_2,hx479_3,hx479_4,hl479_0,hi479_0,hl479_1,hi479_1,hl479_2,hi479_2,hl479_3,hi479_3,hl479_4,hi479_4⟩:=at_T49 (Kd.V_reads' HO_477000.out).2.2 x5_1 p479 q479
             cases e479
             obtain ⟨ce479,hce479,hMe479,hcc479⟩:=Kd.V_get HO_477000.out z49 x5_1 p479 (by first|exact q479|exact of_decide_eq_true za79|(have e_:=(Kd.V_reads' HO_477000.out).1;omega))
             obtain ⟨ua479_0,uc479_0,ua479_1,uc479_1,ua479_2,uc479_2,ua479_3,uc479_3,ua479_4,uc479_4,rfl,ul479_0,ge479_0,ul479_1,ge479_1,ul479_2,ge479_2,ul479_3,ge479_3,ul479_4,ge479_4⟩:=k49_openF hMe479
             have hv479_0:=hcc479 0 _ rfl
             rw [Nat.add_zero] at hv479_0
             replace hv479_0:=Option.some.inj (hv479_0.symm.trans hx479_0)
             injection hv479_0 with hva_ hvn_ hvc_
             rw [hva_] at ge479_0
             rw [hvc_] at ul479_0
             have HL479_0:=Aside0.mk (show Kd.V (Kd.slice 3 (Kd.int .i64)) 26 _ w.heap.size _ _ ((rd_T49 l0_0 x5_1).f0) from Kd.V_mk ul479_0 ge479_0)
             clear hva_ hvn_ hvc_ ge479_0 ul479_0
             have hv479_1:=hcc479 1 _ rfl
             rw [add_field _ _ 1 (by omega)] at hv479_1
             replace hv479_1:=Option.some.inj (hv479_1.symm.trans hx479_1)
             injection hv479_1 with hva_ hvn_ hvc_
             rw [hva_] at ge479_1
             rw [hvc_] at ul479_1
             have HL479_1:=Aside0.mk (show Kd.V (Kd.slice 3 (Kd.int .i64)) 26 _ w.heap.size _ _ ((rd_T49 l0_0 x5_1).f1) from Kd.V_mk ul479_1 ge479_1)
             clear hva_ hvn_ hvc_ ge479_1 ul479_1
             have hv479_2:=hcc479 2 _ rfl
             rw [add_field _ _ 2 (by omega)] at hv479_2
             replace hv479_2:=Option.some.inj (hv479_2.symm.trans hx479_2)
             injection hv479_2 with hva_ hvn_ hvc_
             rw [hva_] at ge479_2
             rw [hvc_] at ul479_2
             have HL479_2:=Aside0.mk (show Kd.V (Kd.slice 3 (Kd.int .i64)) 26 _ w.heap.size _ _ ((rd_T49 l0_0 x5_1).f2) from Kd.V_mk ul479_2 ge479_2)
             clear hva_ hvn_ hvc_ ge479_2 ul479_2
             have hv479_3:=hcc479 3 _ rfl
             rw [add_field _ _ 3 (by omega)] at hv479_3
             replace hv479_3:=Option.some.inj (hv479_3.symm.trans hx479_3)
             injection hv479_3 with hva_ hvn_ hvc_
             rw [hva_] at ge479_3
             rw [hvc_] at ul479_3
             have HL479_3:=Aside0.mk (show Kd.V (Kd.int .i64) 3 _ w.heap.size _ _ ((rd_T49 l0_0 x5_1).f3) from Kd.V_mk ul479_3 ge479_3)
             clear hva_ hvn_ hvc_ ge479_3 ul479_3
             have hv479_4:=hcc479 4 _ rfl
             rw [add_field _ _ 4 (by omega)] at hv479_4
             replace hv479_4:=Option.some.inj (hv479_4.symm.trans hx479_4)
             injection hv479_4 with hva_ hvn_ hvc_
             rw [hva_] at ge479_4
             rw [hvc_] at ul479_4
             have HL479_4:=Aside0.mk (show Kd.V k60 60 _ w.heap.size _ _ ((rd_T49 l0_0 x5_1).f4) from Kd.V_mk ul479_4 ge479_4)
             clear hva_ hvn_ hvc_ ge479_4 ul479_4
             clear hcc479 hce479
             have HR479_0:=Aside0.mk hi479_0
             have HC479_0:=Aside0.mk hl479_0
             clear hi479_0 hl479_0
             have HR479_1:=Aside0.mk hi479_1
             have HC479_1:=Aside0.mk hl479_1
             clear hi479_1 hl479_1
             have HR479_2:=Aside0.mk hi479_2
             have HC479_2:=Aside0.mk hl479_2
             clear hi479_2 hl479_2
             have HR479_3:=Aside0.mk hi479_3
             have HC479_3:=Aside0.mk hl479_3
             clear hi479_3 hl479_3
             have HR479_4:=Aside0.mk hi479_4
             have HC479_4:=Aside0.mk hl479_4
             clear hi479_4 hl479_4
             replace p479:=eq_true p479
             replace q479:=eq_true q479
             try go_wp2_with (first|((with_reducible refine gate_dst (N:=6) rfl ?_);refine box_event ?hg (N:=6) ?hd (cs:=#[.slice none 0 0,.slice none 0 0,.slice none 0 0,.slice none 0 0,.slice none 0 0]) (t:=49) ?hr ?_;(case hd=>rfl);(case hg=>rfl);(case hr=>first|(go_simp;done)|(go_simp;rfl));intro gb480 hg w29 hbox hb;have n0_:=Aside0.mk (Kd.V_below (Kd.V_elderB za57 gb480 (Nat.le_of_eq hg.symm)) hb);have n1_:=Aside0.mk (Kd.N_below (Kd.N_elderB za58 gb480 (Nat.le_of_eq hg.symm)) hb);have n2_:=Aside0.mk (Kd.V_below (Kd.V_elderB za59 gb480 (Nat.le_of_eq hg.symm)) hb);have n3_:=Aside0.mk (Kd.V_below (Kd.V_elderB za60 gb480 (Nat.le_of_eq hg.symm)) hb);have n4_:=Aside0.mk (Kd.V_below (Kd.V_elderB za61 gb480 (Nat.le_of_eq hg.symm)) hb);have n5_:=Aside0.mk (Kd.V_below (Kd.V_elderB za62 gb480 (Nat.le_of_eq hg.symm)) hb);have n6_:=Aside0.mk (Kd.V_below (Kd.V_elderB za63 gb480 (Nat.le_of_eq hg.symm)) hb);have n7_:=Aside0.mk (blk_below (g:=gb476) (o:=.cells #[.slice (some ad479) l0_0.length c0_0] 24 (0,0)) za43 hb);have n8_:=Aside0.mk (blk_below (g:=gb477) (o:=.cells #[.slice none 0 0] 24 (0,0)) za44 hb);have n9_:=Aside0.mk (blk_below (g:=gb478) (o:=.cells #[u479000] 24 (0,0)) za45 hb);have n10_:=Aside0.mk (Kd.C_below (by repeat (first|(with_reducible exact HR479_0.out)|(with_reducible refine Kd.C_alloc ?_ _)|(with_reducible refine Kd.C_drewN ?_ _)|(with_reducible refine Kd.C_drew ?_)|exact HR479_0.out)) hb);have n11_:=Aside0.mk (Kd.C_below (by repeat (first|(with_reducible exact HR479_1.out)|(with_reducible refine Kd.C_alloc ?_ _)|(with_reducible refine Kd.C_drewN ?_ _)|(with_reducible refine Kd.C_drew ?_)|exact HR479_1.out)) hb);have n12_:=Aside0.mk (Kd.C_below (by repeat (first|(with_reducible exact HR479_2.out)|(with_reducible refine Kd.C_alloc ?_ _)|(with_reducible refine Kd.C_drewN ?_ _)|(with_reducible refine Kd.C_drew ?_)|exact HR479_2.out)) hb);have n13_:=Aside0.mk (Kd.C_below (by repeat (first|(with_reducible exact HR479_3.out)|(with_reducible refine Kd.C_alloc ?_ _)|(with_reducible refine Kd.C_drewN ?_ _)|(with_reducible refine Kd.C_drew ?_)|exact HR479_3.out)) hb);have n14_:=Aside0.mk (Kd.C_below (by repeat (first|(with_reducible exact HR479_4.out)|(with_reducible refine Kd.C_alloc ?_ _)|(with_reducible refine Kd.C_drewN ?_ _)|(with_reducible refine Kd.C_drew ?_)|exact HR479_4.out)) hb);have n15_:=Aside0.mk (below_step (by repeat (first|(with_reducible first|exact HB.out|apply below_alloc|apply pw_below_drewN|apply below_drew1|refine below_set ?_ GE476.out|refine below_set ?_ GE477.out|refine below_set ?_ GE478.out)|exact HB.out)) hb);have n16_:=Aside0.mk (hbox);have n17_:=Aside0.mk ((za6:w.heap.size≤gb480));have n18_:=Aside0.mk ((za6:w.heap.size≤gb480));have n19_:=Aside0.mk ((by rw [hg];exact Nat.ne_of_lt (blk_lt (g:=gb476) (o:=.cells #[.slice (some ad479) l0_0.length c0_0] 24 (0,0)) za43):gb476≠gb480));have n20_:=Aside0.mk ((by rw [hg];exact Nat.ne_of_gt (blk_lt (g:=gb476) (o:=.cells #[.slice (some ad479) l0_0.length c0_0] 24 (0,0)) za43):gb480≠gb476));have n21_:=Aside0.mk ((za15:gb477≠gb480));have n22_:=Aside0.mk ((za16:gb480≠gb477));have n23_:=Aside0.mk ((by rw [hg];exact Nat.ne_of_lt (blk_lt (g:=gb478) (o:=.cells #[u479000] 24 (0,0)) za45):gb478≠gb480));have n24_:=Aside0.mk ((by rw [hg];exact Nat.ne_of_gt (blk_lt (g:=gb478) (o:=.cells #[u479000] 24 (0,0)) za45):gb480≠gb478));clear HO_477000;clear HO_479000;clear HL479_0;clear HL479_1;clear HL479_2;clear HL479_3;clear HL479_4;clear BK476;clear BK477;clear BK478;clear HR479_0;clear HR479_1;clear HR479_2;clear HR479_3;clear HR479_4;clear HB;have HO_477000:=n0_;have HO_479000:=n1_;have HL479_0:=n2_;have HL479_1:=n3_;have HL479_2:=n4_;have HL479_3:=n5_;have HL479_4:=n6_;have BK476:=n7_;have BK477:=n8_;have BK478:=n9_;have HR479_0:=n10_;have HR479_1:=n11_;have HR479_2:=n12_;have HR479_3:=n13_;have HR479_4:=n14_;have HB:=n15_;have BK480:=n16_;have GW480:=n17_;have GE480:=n18_;have NB476_480:=n19_;have NB480_476:=n20_;have NB477_480:=n21_;have NB480_477:=n22_;have NB478_480:=n23_;have NB480_478:=n24_;clear n0_ n1_ n2_ n3_ n4_ n5_ n6_ n7_ n8_ n9_ n10_ n11_ n12_ n13_ n14_ n15_ n16_ n17_ n18_ n19_ n20_ n21_ n22_ n23_ n24_;clear hb hbox hg;have hnb30:=NB480_476.out;have hnc30:=NB476_480.out;have hnb31:=NB480_477.out;have hnc31:=NB477_480.out;have hnb32:=NB480_478.out;have hnc32:=NB478_480.out;have hcz33_0:w29.cell? ⟨gb480,0,none⟩=some (.slice none 0 0):=(blk_cell BK480.out 0).trans rfl;have hcz33_1:w29.cell? ⟨gb480,1,none⟩=some (.slice none 0 0):=(blk_cell BK480.out 1).trans rfl;have hcz33_2:w29.cell? ⟨gb480,2,none⟩=some (.slice none 0 0):=(blk_cell BK480.out 2).trans rfl;have hcz33_3:w29.cell? ⟨gb480,3,none⟩=some (.slice none 0 0):=(blk_cell BK480.out 3).trans rfl;have hcz33_4:w29.cell? ⟨gb480,4,none⟩=some (.slice none 0 0):=(blk_cell BK480.out 4).trans rfl;have hfz33_0:=blk_frozen BK480.out 0;have hfz33_1:=blk_frozen BK480.out 1;have hfz33_2:=blk_frozen BK480.out 2;have hfz33_3:=blk_frozen BK480.out 3;have hfz33_4:=blk_frozen BK480.out 4))
             have n0_:Aside0 (Kd.V k49 49 (((((w29.setCell ⟨gb480,0,none⟩ (.slice A479_0 ((rd_T49 l0_0 x5_1).f0).length c479_0)).setCell ⟨gb480,1,none⟩ (.slice A479_1 ((rd_T49 l0_0 x5_1).f1).length c479_1)).setCell ⟨gb480,2,none⟩ (.slice A479_2 ((rd_T49 l0_0 x5_1).f2).length c479_2)).setCell ⟨gb480,3,none⟩ (.slice A479_3 ((rd_T49 l0_0 x5_1).f3).length c479_3)).setCell ⟨gb480,4,none⟩ (.slice A479_4 ((rd_T49 l0_0 x5_1).f4).length c479_4)) w.heap.size (fun k_=>(P0_0_ k_ ∨ w.heap.size≤k_)∧some k_≠(u479000:Value).ownBlock∧k_≠gb476∧k_≠gb477∧k_≠gb478∧k_≠gb480) (.slice (some ad479) l0_0.length c0_0) l0_0):=⟨by (with_reducible repeat (first|apply Kd.V_alloc|apply Kd.V_drewN|apply Kd.V_drew));exact Kd.V_mono (Kd.V_far (p:=⟨gb480,4,none⟩) (Kd.V_far (p:=⟨gb480,3,none⟩) (Kd.V_far (p:=⟨gb480,2,none⟩) (Kd.V_far (p:=⟨gb480,1,none⟩) (Kd.V_far (p:=⟨gb480,0,none⟩) (Kd.V_mono HO_477000.out (fun k_ hk=>(⟨hk,hk.2⟩:_∧k_≠gb480))) (fun _ hk=>hk.2) (.slice A479_0 ((rd_T49 l0_0 x5_1).f0).length c479_0)) (fun _ hk=>hk.2) (.slice A479_1 ((rd_T49 l0_0 x5_1).f1).length c479_1)) (fun _ hk=>hk.2) (.slice A479_2 ((rd_T49 l0_0 x5_1).f2).length c479_2)) (fun _ hk=>hk.2) (.slice A479_3 ((rd_T49 l0_0 x5_1).f3).length c479_3)) (fun _ hk=>hk.2) (.slice A479_4 ((rd_T49 l0_0 x5_1).f4).length c479_4)) (fun _ hk=>⟨hk.1.1.1,⟨hk.1.1.2.1,⟨hk.1.1.2.2.1,⟨hk.1.1.2.2.2.1,⟨hk.1.1.2.2.2.2,hk.1.2⟩⟩⟩⟩⟩)⟩
             have n1_:Aside0 (Kd.N k49 49 (((((w29.setCell ⟨gb480,0,none⟩ (.slice A479_0 ((rd_T49 l0_0 x5_1).f0).length c479_0)).setCell ⟨gb480,1,none⟩ (.slice A479_1 ((rd_T49 l0_0 x5_1).f1).length c479_1)).setCell ⟨gb480,2,none⟩ (.slice A479_2 ((rd_T49 l0_0 x5_1).f2).length c479_2)).setCell ⟨gb480,3,none⟩ (.slice A479_3 ((rd_T49 l0_0 x5_1).f3).length c479_3)).setCell ⟨gb480,4,none⟩ (.slice A479_4 ((rd_T49 l0_0 x5_1).f4).length c479_4)) w.heap.size (fun k_=>(P0_0_ k_ ∨ w.heap.size≤k_)∧k_≠gb476∧k_≠gb477∧k_≠gb478∧k_≠gb480) u479000 x479000_1):=⟨by (with_reducible repeat (first|apply Kd.N_alloc|apply Kd.N_drewN|apply Kd.N_drew));exact Kd.N_mono (Kd.N_far (p:=⟨gb480,4,none⟩) (Kd.N_far (p:=⟨gb480,3,none⟩) (Kd.N_far (p:=⟨gb480,2,none⟩) (Kd.N_far (p:=⟨gb480,1,none⟩) (Kd.N_far (p:=⟨gb480,0,none⟩) (Kd.N_mono HO_479000.out (fun k_ hk=>(⟨hk,hk.2⟩:_∧k_≠gb480))) (fun _ hk=>hk.2) (.slice A479_0 ((rd_T49 l0_0 x5_1).f0).length c479_0)) (fun _ hk=>hk.2) (.slice A479_1 ((rd_T49 l0_0 x5_1).f1).length c479_1)) (fun _ hk=>hk.2) (.slice A479_2 ((rd_T49 l0_0 x5_1).f2).length c479_2)) (fun _ hk=>hk.2) (.slice A479_3 ((rd_T49 l0_0 x5_1).f3).length c479_3)) (fun _ hk=>hk.2) (.slice A479_4 ((rd_T49 l0_0 x5_1).f4).length c479_4)) (fun _ hk=>⟨hk.1.1.1,⟨hk.1.1.2.1,⟨hk.1.1.2.2.1,⟨hk.1.1.2.2.2,hk.1.2⟩⟩⟩⟩)⟩
             have n2_:Aside0 (Kd.V (Kd.slice 3 (Kd.int .i64)) 26 (((((w29.setCell ⟨gb480,0,none⟩ (.slice A479_0 ((rd_T49 l0_0 x5_1).f0).length c479_0)).setCell ⟨gb480,1,none⟩ (.slice A479_1 ((rd_T49 l0_0 x5_1).f1).length c479_1)).setCell ⟨gb480,2,none⟩ (.slice A479_2 ((rd_T49 l0_0 x5_1).f2).length c479_2)).setCell ⟨gb480,3,none⟩ (.slice A479_3 ((rd_T49 l0_0 x5_1).f3).length c479_3)).setCell ⟨gb480,4,none⟩ (.slice A479_4 ((rd_T49 l0_0 x5_1).f4).length c479_4)) w.heap.size (fun k_=>(P0_0_ k_ ∨ w.heap.size≤k_)∧some k_≠(u479000:Value).ownBlock∧k_≠gb476∧k_≠gb477∧k_≠gb478∧k_≠gb480) (.slice A479_0 ((rd_T49 l0_0 x5_1).f0).length c479_0) ((rd_T49 l0_0 x5_1).f0)):=⟨by (with_reducible repeat (first|apply Kd.V_alloc|apply Kd.V_drewN|apply Kd.V_drew));exact Kd.V_mono (Kd.V_far (p:=⟨gb480,4,none⟩) (Kd.V_far (p:=⟨gb480,3,none⟩) (Kd.V_far (p:=⟨gb480,2,none⟩) (Kd.V_far (p:=⟨gb480,1,none⟩) (Kd.V_far (p:=⟨gb480,0,none⟩) (Kd.V_mono HL479_0.out (fun k_ hk=>(⟨hk,hk.2⟩:_∧k_≠gb480))) (fun _ hk=>hk.2) (.slice A479_0 ((rd_T49 l0_0 x5_1).f0).length c479_0)) (fun _ hk=>hk.2) (.slice A479_1 ((rd_T49 l0_0 x5_1).f1).length c479_1)) (fun _ hk=>hk.2) (.slice A479_2 ((rd_T49 l0_0 x5_1).f2).length c479_2)) (fun _ hk=>hk.2) (.slice A479_3 ((rd_T49 l0_0 x5_1).f3).length c479_3)) (fun _ hk=>hk.2) (.slice A479_4 ((rd_T49 l0_0 x5_1).f4).length c479_4)) (fun _ hk=>⟨hk.1.1.1,⟨hk.1.1.2.1,⟨hk.1.1.2.2.1,⟨hk.1.1.2.2.2.1,⟨hk.1.1.2.2.2.2,hk.1.2⟩⟩⟩⟩⟩)⟩
             have n3_:Aside0 (Kd.V (Kd.slice 3 (Kd.int .i64)) 26 (((((w29.setCell ⟨gb480,0,none⟩ (.slice A479_0 ((rd_T49 l0_0 x5_1).f0).length c479_0)).setCell ⟨gb480,1,none⟩ (.slice A479_1 ((rd_T49 l0_0 x5_1).f1).length c479_1)).setCell ⟨gb480,2,none⟩ (.slice A479_2 ((rd_T49 l0_0 x5_1).f2).length c479_2)).setCell ⟨gb480,3,none⟩ (.slice A479_3 ((rd_T49 l0_0 x5_1).f3).length c479_3)).setCell ⟨gb480,4,none⟩ (.slice A479_4 ((rd_T49 l0_0 x5_1).f4).length c479_4)) w.heap.size (fun k_=>(P0_0_ k_ ∨ w.heap.size≤k_)∧some k_≠(u479000:Value).ownBlock∧k_≠gb476∧k_≠gb477∧k_≠gb478∧k_≠gb480) (.slice A479_1 ((rd_T49 l0_0 x5_1).f1).length c479_1) ((rd_T49 l0_0 x5_1).f1)):=⟨by (with_reducible repeat (first|apply Kd.V_alloc|apply Kd.V_drewN|apply Kd.V_drew));exact Kd.V_mono (Kd.V_far (p:=⟨gb480,4,none⟩) (Kd.V_far (p:=⟨gb480,3,none⟩) (Kd.V_far (p:=⟨gb480,2,none⟩) (Kd.V_far (p:=⟨gb480,1,none⟩) (Kd.V_far (p:=⟨gb480,0,none⟩) (Kd.V_mono HL479_1.out (fun k_ hk=>(⟨hk,hk.2⟩:_∧k_≠gb480))) (fun _ hk=>hk.2) (.slice A479_0 ((rd_T49 l0_0 x5_1).f0).length c479_0)) (fun _ hk=>hk.2) (.slice A479_1 ((rd_T49 l0_0 x5_1).f1).length c479_1)) (fun _ hk=>hk.2) (.slice A479_2 ((rd_T49 l0_0 x5_1).f2).length c479_2)) (fun _ hk=>hk.2) (.slice A479_3 ((rd_T49 l0_0 x5_1).f3).length c479_3)) (fun _ hk=>hk.2) (.slice A479_4 ((rd_T49 l0_0 x5_1).f4).length c479_4)) (fun _ hk=>⟨hk.1.1.1,⟨hk.1.1.2.1,⟨hk.1.1.2.2.1,⟨hk.1.1.2.2.2.1,⟨hk.1.1.2.2.2.2,hk.1.2⟩⟩⟩⟩⟩)⟩
             have n4_:Aside0 (Kd.V (Kd.slice 3 (Kd.int .i64)) 26 (((((w29.setCell ⟨gb480,0,none⟩ (.slice A479_0 ((rd_T49 l0_0 x5_1).f0).length c479_0)).setCell ⟨gb480,1,none⟩ (.slice A479_1 ((rd_T49 l0_0 x5_1).f1).length c479_1)).setCell ⟨gb480,2,none⟩ (.slice A479_2 ((rd_T49 l0_0 x5_1).f2).length c479_2)).setCell ⟨gb480,3,none⟩ (.slice A479_3 ((rd_T49 l0_0 x5_1).f3).length c479_3)).setCell ⟨gb480,4,none⟩ (.slice A479_4 ((rd_T49 l0_0 x5_1).f4).length c479_4)) w.heap.size (fun k_=>(P0_0_ k_ ∨ w.heap.size≤k_)∧some k_≠(u479000:Value).ownBlock∧k_≠gb476∧k_≠gb477∧k_≠gb478∧k_≠gb480) (.slice A479_2 ((rd_T49 l0_0 x5_1).f2).length c479_2) ((rd_T49 l0_0 x5_1).f2)):=⟨by (with_reducible repeat (first|apply Kd.V_alloc|apply Kd.V_drewN|apply Kd.V_drew));exact Kd.V_mono (Kd.V_far (p:=⟨gb480,4,none⟩) (Kd.V_far (p:=⟨gb480,3,none⟩) (Kd.V_far (p:=⟨gb480,2,none⟩) (Kd.V_far (p:=⟨gb480,1,none⟩) (Kd.V_far (p:=⟨gb480,0,none⟩) (Kd.V_mono HL479_2.out (fun k_ hk=>(⟨hk,hk.2⟩:_∧k_≠gb480))) (fun _ hk=>hk.2) (.slice A479_0 ((rd_T49 l0_0 x5_1).f0).length c479_0)) (fun _ hk=>hk.2) (.slice A479_1 ((rd_T49 l0_0 x5_1).f1).length c479_1)) (fun _ hk=>hk.2) (.slice A479_2 ((rd_T49 l0_0 x5_1).f2).length c479_2)) (fun _ hk=>hk.2) (.slice A479_3 ((rd_T49 l0_0 x5_1).f3).length c479_3)) (fun _ hk=>hk.2) (.slice A479_4 ((rd_T49 l0_0 x5_1).f4).length c479_4)) (fun _ hk=>⟨hk.1.1.1,⟨hk.1.1.2.1,⟨hk.1.1.2.2.1,⟨hk.1.1.2.2.2.1,⟨hk.1.1.2.2.2.2,hk.1.2⟩⟩⟩⟩⟩)⟩
             have n5_:Aside0 (Kd.V (Kd.int .i64) 3 (((((w29.setCell ⟨gb480,0,none⟩ (.slice A479_0 ((rd_T49 l0_0 x5_1).f0).length c479_0)).setCell ⟨gb480,1,none⟩ (.slice A479_1 ((rd_T49 l0_0 x5_1).f1).length c479_1)).setCell ⟨gb480,2,none⟩ (.slice A479_2 ((rd_T49 l0_0 x5_1).f2).length c479_2)).setCell ⟨gb480,3,none⟩ (.slice A479_3 ((rd_T49 l0_0 x5_1).f3).length c479_3)).setCell ⟨gb480,4,none⟩ (.slice A479_4 ((rd_T49 l0_0 x5_1).f4).length c479_4)) w.heap.size (fun k_=>(P0_0_ k_ ∨ w.heap.size≤k_)∧some k_≠(u479000:Value).ownBlock∧k_≠gb476∧k_≠gb477∧k_≠gb478∧k_≠gb480) (.slice A479_3 ((rd_T49 l0_0 x5_1).f3).length c479_3) ((rd_T49 l0_0 x5_1).f3)):=⟨by (with_reducible repeat (first|apply Kd.V_alloc|apply Kd.V_drewN|apply Kd.V_drew));exact Kd.V_mono (Kd.V_far (p:=⟨gb480,4,none⟩) (Kd.V_far (p:=⟨gb480,3,none⟩) (Kd.V_far (p:=⟨gb480,2,none⟩) (Kd.V_far (p:=⟨gb480,1,none⟩) (Kd.V_far (p:=⟨gb480,0,none⟩) (Kd.V_mono HL479_3.out (fun k_ hk=>(⟨hk,hk.2⟩:_∧k_≠gb480))) (fun _ hk=>hk.2) (.slice A479_0 ((rd_T49 l0_0 x5_1).f0).length c479_0)) (fun _ hk=>hk.2) (.slice A479_1 ((rd_T49 l0_0 x5_1).f1).length c479_1)) (fun _ hk=>hk.2) (.slice A479_2 ((rd_T49 l0_0 x5_1).f2).length c479_2)) (fun _ hk=>hk.2) (.slice A479_3 ((rd_T49 l0_0 x5_1).f3).length c479_3)) (fun _ hk=>hk.2) (.slice A479_4 ((rd_T49 l0_0 x5_1).f4).length c479_4)) (fun _ hk=>⟨hk.1.1.1,⟨hk.1.1.2.1,⟨hk.1.1.2.2.1,⟨hk.1.1.2.2.2.1,⟨hk.1.1.2.2.2.2,hk.1.2⟩⟩⟩⟩⟩)⟩
             have n6_:Aside0 (Kd.V k60 60 (((((w29.setCell ⟨gb480,0,none⟩ (.slice A479_0 ((rd_T49 l0_0 x5_1).f0).length c479_0)).setCell ⟨gb480,1,none⟩ (.slice A479_1 ((rd_T49 l0_0 x5_1).f1).length c479_1)).setCell ⟨gb480,2,none⟩ (.slice A479_2 ((rd_T49 l0_0 x5_1).f2).length c479_2)).setCell ⟨gb480,3,none⟩ (.slice A479_3 ((rd_T49 l0_0 x5_1).f3).length c479_3)).setCell ⟨gb480,4,none⟩ (.slice A479_4 ((rd_T49 l0_0 x5_1).f4).length c479_4)) w.heap.size (fun k_=>(P0_0_ k_ ∨ w.heap.size≤k_)∧some k_≠(u479000:Value).ownBlock∧k_≠gb476∧k_≠gb477∧k_≠gb478∧k_≠gb480) (.slice A479_4 ((rd_T49 l0_0 x5_1).f4).length c479_4) ((rd_T49 l0_0 x5_1).f4)):=⟨by (with_reducible repeat (first|apply Kd.V_alloc|apply Kd.V_drewN|apply Kd.V_drew));exact Kd.V_mono (Kd.V_far (p:=⟨gb480,4,none⟩) (Kd.V_far (p:=⟨gb480,3,none⟩) (Kd.V_far (p:=⟨gb480,2,none⟩) (Kd.V_far (p:=⟨gb480,1,none⟩) (Kd.V_far (p:=⟨gb480,0,none⟩) (Kd.V_mono HL479_4.out (fun k_ hk=>(⟨hk,hk.2⟩:_∧k_≠gb480))) (fun _ hk=>hk.2) (.slice A479_0 ((rd_T49 l0_0 x5_1).f0).length c479_0)) (fun _ hk=>hk.2) (.slice A479_1 ((rd_T49 l0_0 x5_1).f1).length c479_1)) (fun _ hk=>hk.2) (.slice A479_2 ((rd_T49 l0_0 x5_1).f2).length c479_2)) (fun _ hk=>hk.2) (.slice A479_3 ((rd_T49 l0_0 x5_1).f3).length c479_3)) (fun _ hk=>hk.2) (.slice A479_4 ((rd_T49 l0_0 x5_1).f4).length c479_4)) (fun _ hk=>⟨hk.1.1.1,⟨hk.1.1.2.1,⟨hk.1.1.2.2.1,⟨hk.1.1.2.2.2.1,⟨hk.1.1.2.2.2.2,hk.1.2⟩⟩⟩⟩⟩)⟩
             have n7_:Aside0 ((((((w29.setCell ⟨gb480,0,none⟩ (.slice A479_0 ((rd_T49 l0_0 x5_1).f0).length c479_0)).setCell ⟨gb480,1,none⟩ (.slice A479_1 ((rd_T49 l0_0 x5_1).f1).length c479_1)).setCell ⟨gb480,2,none⟩ (.slice A479_2 ((rd_T49 l0_0 x5_1).f2).length c479_2)).setCell ⟨gb480,3,none⟩ (.slice A479_3 ((rd_T49 l0_0 x5_1).f3).length c479_3)).setCell ⟨gb480,4,none⟩ (.slice A479_4 ((rd_T49 l0_0 x5_1).f4).length c479_4)).heap[gb476]?=some (.cells #[.slice (some ad479) l0_0.length c0_0] 24 (0,0))):=⟨by (with_reducible repeat (first|refine blk_drewN ?_ _|refine blk_drew ?_|refine blk_alloc ?_ _));refine blk_far ?_ NB476_480.out _;(with_reducible repeat (first|refine blk_drewN ?_ _|refine blk_drew ?_|refine blk_alloc ?_ _));refine blk_far ?_ NB476_480.out _;(with_reducible repeat (first|refine blk_drewN ?_ _|refine blk_drew ?_|refine blk_alloc ?_ _));refine blk_far ?_ NB476_480.out _;(with_reducible repeat (first|refine blk_drewN ?_ _|refine blk_drew ?_|refine blk_alloc ?_ _));refine blk_far ?_ NB476_480.out _;(with_reducible repeat (first|refine blk_drewN ?_ _|refine blk_drew ?_|refine blk_alloc ?_ _));refine blk_far ?_ NB476_480.out _;(with_reducible repeat (first|refine blk_drewN ?_ _|refine blk_drew ?_|refine blk_alloc ?_ _));exact BK476.out⟩
             have n8_:Aside0 ((((((w29.setCell ⟨gb480,0,none⟩ (.slice A479_0 ((rd_T49 l0_0 x5_1).f0).length c479_0)).setCell ⟨gb480,1,none⟩ (.slice A479_1 ((rd_T49 l0_0 x5_1).f1).length c479_1)).setCell ⟨gb480,2,none⟩ (.slice A479_2 ((rd_T49 l0_0 x5_1).f2).length c479_2)).setCell ⟨gb480,3,none⟩ (.slice A479_3 ((rd_T49 l0_0 x5_1).f3).length c479_3)).setCell ⟨gb480,4,none⟩ (.slice A479_4 ((rd_T49 l0_0 x5_1).f4).length c479_4)).heap[gb477]?=some (.cells #[.slice none 0 0] 24 (0,0))):=⟨by (with_reducible repeat (first|refine blk_drewN ?_ _|refine blk_drew ?_|refine blk_alloc ?_ _));refine blk_far ?_ NB477_480.out _;(with_reducible repeat (first|refine blk_drewN ?_ _|refine blk_drew ?_|refine blk_alloc ?_ _));refine blk_far ?_ NB477_480.out _;(with_reducible repeat (first|refine blk_drewN ?_ _|refine blk_drew ?_|refine blk_alloc ?_ _));refine blk_far ?_ NB477_480.out _;(with_reducible repeat (first|refine blk_drewN ?_ _|refine blk_drew ?_|refine blk_alloc ?_ _));refine blk_far ?_ NB477_480.out _;(with_reducible repeat (first|refine blk_drewN ?_ _|refine blk_drew ?_|refine blk_alloc ?_ _));refine blk_far ?_ NB477_480.out _;(with_reducible repeat (first|refine blk_drewN ?_ _|refine blk_drew ?_|refine blk_alloc ?_ _));exact BK477.out⟩
             have n9_:Aside0 ((((((w29.setCell ⟨gb480,0,none⟩ (.slice A479_0 ((rd_T49 l0_0 x5_1).f0).length c479_0)).setCell ⟨gb480,1,none⟩ (.slice A479_1 ((rd_T49 l0_0 x5_1).f1).length c479_1)).setCell ⟨gb480,2,none⟩ (.slice A479_2 ((rd_T49 l0_0 x5_1).f2).length c479_2)).setCell ⟨gb480,3,none⟩ (.slice A479_3 ((rd_T49 l0_0 x5_1).f3).length c479_3)).setCell ⟨gb480,4,none⟩ (.slice A479_4 ((rd_T49 l0_0 x5_1).f4).length c479_4)).heap[gb478]?=some (.cells #[u479000] 24 (0,0))):=⟨by (with_reducible repeat (first|refine blk_drewN ?_ _|refine blk_drew ?_|refine blk_alloc ?_ _));refine blk_far ?_ NB478_480.out _;(with_reducible repeat (first|refine blk_drewN ?_ _|refine blk_drew ?_|refine blk_alloc ?_ _));refine blk_far ?_ NB478_480.out _;(with_reducible repeat (first|refine blk_drewN ?_ _|refine blk_drew ?_|refine blk_alloc ?_ _));refine blk_far ?_ NB478_480.out _;(with_reducible repeat (first|refine blk_drewN ?_ _|refine blk_drew ?_|refine blk_alloc ?_ _));refine blk_far ?_ NB478_480.out _;(with_reducible repeat (first|refine blk_drewN ?_ _|refine blk_drew ?_|refine blk_alloc ?_ _));refine blk_far ?_ NB478_480.out _;(with_reducible repeat (first|refine blk_drewN ?_ _|refine blk_drew ?_|refine blk_alloc ?_ _));exact BK478.out⟩
             have n10_:Aside0 ((((((w29.setCell ⟨gb480,0,none⟩ (.slice A479_0 ((rd_T49 l0_0 x5_1).f0).length c479_0)).setCell ⟨gb480,1,none⟩ (.slice A479_1 ((rd_T49 l0_0 x5_1).f1).length c479_1)).setCell ⟨gb480,2,none⟩ (.slice A479_2 ((rd_T49 l0_0 x5_1).f2).length c479_2)).setCell ⟨gb480,3,none⟩ (.slice A479_3 ((rd_T49 l0_0 x5_1).f3).length c479_3)).setCell ⟨gb480,4,none⟩ (.slice A479_4 ((rd_T49 l0_0 x5_1).f4).length c479_4)).heap[gb480]?=some (.cells #[.slice A479_0 ((rd_T49 l0_0 x5_1).f0).length c479_0,.slice A479_1 ((rd_T49 l0_0 x5_1).f1).length c479_1,.slice A479_2 ((rd_T49 l0_0 x5_1).f2).length c479_2,.slice A479_3 ((rd_T49 l0_0 x5_1).f3).length c479_3,.slice A479_4 ((rd_T49 l0_0 x5_1).f4).length c479_4] 49 (0,0))):=⟨by (with_reducible repeat (first|refine blk_drewN ?_ _|refine blk_drew ?_|refine blk_alloc ?_ _));refine blk_put (cs:=#[.slice A479_0 ((rd_T49 l0_0 x5_1).f0).length c479_0,.slice A479_1 ((rd_T49 l0_0 x5_1).f1).length c479_1,.slice A479_2 ((rd_T49 l0_0 x5_1).f2).length c479_2,.slice A479_3 ((rd_T49 l0_0 x5_1).f3).length c479_3,.slice none 0 0]) ?_ 4 _ rfl;(with_reducible repeat (first|refine blk_drewN ?_ _|refine blk_drew ?_|refine blk_alloc ?_ _));refine blk_put (cs:=#[.slice A479_0 ((rd_T49 l0_0 x5_1).f0).length c479_0,.slice A479_1 ((rd_T49 l0_0 x5_1).f1).length c479_1,.slice A479_2 ((rd_T49 l0_0 x5_1).f2).length c479_2,.slice none 0 0,.slice none 0 0]) ?_ 3 _ rfl;(with_reducible repeat (first|refine blk_drewN ?_ _|refine blk_drew ?_|refine blk_alloc ?_ _));refine blk_put (cs:=#[.slice A479_0 ((rd_T49 l0_0 x5_1).f0).length c479_0,.slice A479_1 ((rd_T49 l0_0 x5_1).f1).length c479_1,.slice none 0 0,.slice none 0 0,.slice none 0 0]) ?_ 2 _ rfl;(with_reducible repeat (first|refine blk_drewN ?_ _|refine blk_drew ?_|refine blk_alloc ?_ _));refine blk_put (cs:=#[.slice A479_0 ((rd_T49 l0_0 x5_1).f0).length c479_0,.slice none 0 0,.slice none 0 0,.slice none 0 0,.slice none 0 0]) ?_ 1 _ rfl;(with_reducible repeat (first|refine blk_drewN ?_ _|refine blk_drew ?_|refine blk_alloc ?_ _));refine blk_put (cs:=#[.slice none 0 0,.slice none 0 0,.slice none 0 0,.slice none 0 0,.slice none 0 0]) ?_ 0 _ rfl;(with_reducible repeat (first|refine blk_drewN ?_ _|refine blk_drew ?_|refine blk_alloc ?_ _));exact BK480.out⟩
             have n11_:Aside0 (Below w.heap.size w (((((w29.setCell ⟨gb480,0,none⟩ (.slice A479_0 ((rd_T49 l0_0 x5_1).f0).length c479_0)).setCell ⟨gb480,1,none⟩ (.slice A479_1 ((rd_T49 l0_0 x5_1).f1).length c479_1)).setCell ⟨gb480,2,none⟩ (.slice A479_2 ((rd_T49 l0_0 x5_1).f2).length c479_2)).setCell ⟨gb480,3,none⟩ (.slice A479_3 ((rd_T49 l0_0 x5_1).f3).length c479_3)).setCell ⟨gb480,4,none⟩ (.slice A479_4 ((rd_T49 l0_0 x5_1).f4).length c479_4))):=⟨by repeat (first|(with_reducible first|exact HB.out|apply below_alloc|apply pw_below_drewN|apply below_drew1|refine below_set ?_ GE476.out|refine below_set ?_ GE477.out|refine below_set ?_ GE478.out|refine below_set ?_ GE480.out)|exact HB.out)⟩
             (try clear HO_477000)
             (try clear HO_479000)
             (try clear HL479_0)
             (try clear HL479_1)
             (try clear HL479_2)
             (try clear HL479_3)
             (try clear HL479_4)
             (try clear BK476)
             (try clear BK477)
             (try clear BK478)
             (try clear BK480)
             (try clear HB)
             generalize (((((w29.setCell ⟨gb480,0,none⟩ (.slice A479_0 ((rd_T49 l0_0 x5_1).f0).length c479_0)).setCell ⟨gb480,1,none⟩ (.slice A479_1 ((rd_T49 l0_0 x5_1).f1).length c479_1)).setCell ⟨gb480,2,none⟩ (.slice A479_2 ((rd_T49 l0_0 x5_1).f2).length c479_2)).setCell ⟨gb480,3,none⟩ (.slice A479_3 ((rd_T49 l0_0 x5_1).f3).length c479_3)).setCell ⟨gb480,4,none⟩ (.slice A479_4 ((rd_T49 l0_0 x5_1).f4).length c479_4))=w34 at n0_ n1_ n2_ n3_ n4_ n5_ n6_ n7_ n8_ n9_ n10_ n11_ ⊢
             have HO_477000:=n0_
             have HO_479000:=n1_
             have HL479_0:=n2_
             have HL479_1:=n3_
             have HL479_2:=n4_
             have HL479_3:=n5_
             have HL479_4:=n6_
             have BK476:=n7_
             have BK477:=n8_
             have BK478:=n9_
             have BK480:=n10_
             have HB:=n11_
             clear n0_ n1_ n2_ n3_ n4_ n5_ n6_ n7_ n8_ n9_ n10_ n11_
             have n0_:=Aside0.mk (Kd.V_drew HO_477000.out)
             have n1_:=Aside0.mk (Kd.N_drew HO_479000.out)
             have n2_:=Aside0.mk (Kd.V_drew HL479_0.out)
             have n3_:=Aside0.mk (Kd.V_drew HL479_1.out)
             have n4_:=Aside0.mk (Kd.V_drew HL479_2.out)
             have n5_:=Aside0.mk (Kd.V_drew HL479_3.out)
             have n6_:=Aside0.mk (Kd.V_drew HL479_4.out)
             have n7_:=Aside0.mk (blk_drew BK476.out)
             have n8_:=Aside0.mk (blk_drew BK477.out)
             have n9_:=Aside0.mk (blk_drew BK478.out)
             have n10_:=Aside0.mk (blk_drew BK480.out)
             have n11_:=Aside0.mk (below_drew1 HB.out)
             clear HO_477000
             clear HO_479000
             clear HL479_0
             clear HL479_1
             clear HL479_2
             clear HL479_3
             clear HL479_4
             clear BK476
             clear BK477
             clear BK478
             clear BK480
             clear HB
             have HO_477000:=n0_
             have HO_479000:=n1_
             have HL479_0:=n2_
             have HL479_1:=n3_
             have HL479_2:=n4_
             have HL479_3:=n5_
             have HL479_4:=n6_
             have BK476:=n7_
             have BK477:=n8_
             have BK478:=n9_
             have BK480:=n10_
             have HB:=n11_
             clear n0_ n1_ n2_ n3_ n4_ n5_ n6_ n7_ n8_ n9_ n10_ n11_
             have q36:((ji19):Int)≤((((rd_T49 l0_0 x5_1).f3).length:Int):Int):=of_decide_eq_true za79
             obtain ⟨i036,hi036,_,hsz36,_⟩:=info_parts info3
             have hroom36:((rd_T49 l0_0 x5_1).f3).length≤c479_3:=HC479_3.out
             have hC36:Kd.F (Kd.int .i64) _ _ A479_3 ((rd_T49 l0_0 x5_1).f3).length ((rd_T49 l0_0 x5_1).f3):=(Kd.V_at (base:=w.heap.size) HL479_3.out).2.2
             have hcut36:=cut_to (P:=Try.prog) 26 3 .i64 Try.underlying26 hi036 A479_3 ((rd_T49 l0_0 x5_1).f3).length c479_3 (ji19) (of_decide_eq_true za79) q36 hroom36
             have hr36:=Kd.F_take (m:=((ji19):Int).toNat) hC36 (by omega)
             have hy36:y490.length=((ji19):Int).toNat:=(by rw [Ny490.out,List.length_take];omega)
             rw [← Ny490.out] at hr36
             rw [← hy36] at hcut36
             have HO494:=Aside0.mk (show Kd.V (Kd.int .i64) 3 _ w.heap.size _ (.slice A479_3 y490.length c479_3) y490 from Kd.V_mk (by omega) hr36)
             have HC494:=Aside0.mk (show y490.length≤c479_3 from by omega)
             clear hr36 hC36 hroom36 hi036 hsz36
             have KY36:=Aside0.mk hy36
             clear hy36
             replace q36:=eq_true q36
             have q37:((ji22):Int)≤((((rd_T49 l0_0 x5_1).f4).length:Int):Int):=of_decide_eq_true za79
             obtain ⟨i037,hi037,_,hsz37,_⟩:=info_parts info60
             have hroom37:((rd_T49 l0_0 x5_1).f4).length≤c479_4:=HC479_4.out
             have hC37:Kd.F k60 _ _ A479_4 ((rd_T49 l0_0 x5_1).f4).length ((rd_T49 l0_0 x5_1).f4):=(Kd.V_at (base:=w.heap.size) HL479_4.out).2.2
             have hcut37:=cut_to (P:=Try.prog) 47 60 .i64 Try.underlying47 hi037 A479_4 ((rd_T49 l0_0 x5_1).f4).length c479_4 (ji22) (of_decide_eq_true za79) q37 hroom37
             have hr37:=Kd.F_take (m:=((ji22):Int).toNat) hC37 (by omega)
             have hy37:y495.length=((ji22):Int).toNat:=(by rw [Ny495.out,List.length_take];omega)
             rw [← Ny495.out] at hr37
             rw [← hy37] at hcut37
             have HO499:=Aside0.mk (show Kd.V k60 60 _ w.heap.size _ (.slice A479_4 y495.length c479_4) y495 from Kd.V_mk (by omega) hr37)
             have HC499:=Aside0.mk (show y495.length≤c479_4 from by omega)
             clear hr37 hC37 hroom37 hi037 hsz37
             have KY37:=Aside0.mk hy37
             clear hy37
             replace q37:=eq_true q37
             refine start_ (n:=33) (S:=fun w'=>w'.cell? ⟨gb478,0,none⟩=some (u479000)∧w'.cell? ⟨gb480,0,none⟩=some (.slice A479_0 ((rd_T49 l0_0 x5_1).f0).length c479_0)∧w'.cell? ⟨gb480,1,none⟩=some (.slice A479_1 ((rd_T49 l0_0 x5_1).f1).length c479_1)∧w'.cell? ⟨gb480,2,none⟩=some (.slice A479_2 ((rd_T49 l0_0 x5_1).f2).length c479_2)∧w'.cell? ⟨gb480,3,none⟩=some (.slice A479_3 ((rd_T49 l0_0 x5_1).f3).length c479_3)∧w'.cell? ⟨gb480,4,none⟩=some (.slice A479_4 ((rd_T49 l0_0 x5_1).f4).length c479_4)) (ds:=[32]) #[false,false,false,false,false,false,false,false,false,false,false,false,false,false,false,false,false,false,false,false,false,false,false,false,false,false,false,false,false,false,false,false,false] (by kernel_rfl) rfl rfl ⟨(blk_cell BK478.out 0).trans rfl,(blk_cell BK480.out 0).trans rfl,(blk_cell BK480.out 1).trans rfl,(blk_cell BK480.out 2).trans rfl,(blk_cell BK480.out 3).trans rfl,(blk_cell BK480.out 4).trans rfl⟩ (fun hHeld=>?_);refine with_tabW abugidalaw16_cut.tab7 abugidalaw16_cut.bits7 (fun HT_ HW_=>?_)
             generalize w34.drew=w35 at HO_477000 HO_479000 HL479_0 HL479_1 HL479_2 HL479_3 HL479_4 BK476 BK477 BK478 BK480 HB HO494 HO499 hHeld ⊢
             refine pure_ (i:=0) (N:=some 23) (v:=?_) (a':=?_) #[true,false,false,false,false,false,false,false,false,false,false,false,false,false,false,false,false,false,false,false,false,false,false,false,false,false,false,false,false,false,false,false,false] rfl rfl (any_of HT_.out (by kernel_rfl)) (fun _ _ _ h=>h) (Or.inl ⟨by rfl,?_⟩) ?_ ?_
             rotate_left
             ·
              intro w'
              go_simp
              with_reducible rfl
             rotate_left
             ·
              simp only [Act.put,List.setIfInBounds_toArray,List.set_cons_zero,List.set_cons_succ,i64_w,i32_w]
              rfl
             refine pure_ (i:=2) (N:=some 25) (v:=?_) (a':=?_) #[true,false,true,false,false,false,false,false,false,false,false,false,false,false,false,false,false,false,false,false,false,false,false,false,false,false,false,false,false,false,false,false,false] rfl rfl (any_of HT_.out (by kernel_rfl)) (fun _ _ _ h=>h) (Or.inl ⟨by rfl,?_⟩) ?_ ?_
             rotate_left
             ·
              intro w'
              go_simp
              with_reducible rfl
             rotate_left
             ·
              simp only [Act.put,List.setIfInBounds_toArray,List.set_cons_zero,List.set_cons_succ,i64_w,i32_w]
              rfl
             refine pure_ (i:=3) (N:=some 26) (v:=?_) (a':=?_) #[true,false,true,true,false,false,false,false,false,false,false,false,false,false,false,false,false,false,false,false,false,false,false,false,false,false,false,false,false,false,false,false,false] rfl rfl (any_of HT_.out (by kernel_rfl)) (fun _ _ _ h=>h) (Or.inl ⟨by rfl,?_⟩) ?_ ?_
             rotate_left
             ·
              intro w'
              go_simp
              with_reducible rfl
             rotate_left
             ·
              simp only [Act.put,List.setIfInBounds_toArray,List.set_cons_zero,List.set_cons_succ,i64_w,i32_w]
              rfl
             refine pure_ (i:=6) (N:=some 29) (v:=?_) (a':=?_) #[true,false,true,true,false,false,true,false,false,false,false,false,false,false,false,false,false,false,false,false,false,false,false,false,false,false,false,false,false,false,false,false,false] rfl rfl (any_of HT_.out (by kernel_rfl)) (fun _ _ _ h=>h) (Or.inl ⟨by rfl,?_⟩) ?_ ?_
             rotate_left
             ·
              intro w'
              go_simp
              with_reducible rfl
             rotate_left
             ·
              simp only [Act.put,List.setIfInBounds_toArray,List.set_cons_zero,List.set_cons_succ,i64_w,i32_w]
              rfl
             refine pure_ (i:=7) (N:=some 30) (v:=?_) (a':=?_) #[true,false,true,true,false,false,true,true,false,false,false,false,false,false,false,false,false,false,false,false,false,false,false,false,false,false,false,false,false,false,false,false,false] rfl rfl (any_of HT_.out (by kernel_rfl)) (fun _ _ _ h=>h) (Or.inl ⟨by rfl,?_⟩) ?_ ?_
             rotate_left
             ·
              intro w'
              go_simp
              with_reducible rfl
             rotate_left
             ·
              simp only [Act.put,List.setIfInBounds_toArray,List.set_cons_zero,List.set_cons_succ,i64_w,i32_w]
              rfl
             refine pure_ (i:=10) (N:=some 33) (v:=?_) (a':=?_) #[true,false,true,true,false,false,true,true,false,false,true,false,false,false,false,false,false,false,false,false,false,false,false,false,false,false,false,false,false,false,false,false,false] rfl rfl (any_of HT_.out (by kernel_rfl)) (fun _ _ _ h=>h) (Or.inl ⟨by rfl,?_⟩) ?_ ?_
             rotate_left
             ·
              intro w'
              go_simp
              with_reducible rfl
             rotate_left
             ·
              simp only [Act.put,List.setIfInBounds_toArray,List.set_cons_zero,List.set_cons_succ,i64_w,i32_w]
              rfl
             refine pure_ (i:=11) (N:=some 34) (v:=?_) (a':=?_) #[true,false,true,true,false,false,true,true,false,false,true,true,false,false,false,false,false,false,false,false,false,false,false,false,false,false,false,false,false,false,false,false,false] rfl rfl (any_of HT_.out (by kernel_rfl)) (fun _ _ _ h=>h) (Or.inl ⟨by rfl,?_⟩) ?_ ?_
             rotate_left
             ·
              intro w'
              go_simp
              with_reducible rfl
             rotate_left
             ·
              simp only [Act.put,List.setIfInBounds_toArray,List.set_cons_zero,List.set_cons_succ,i64_w,i32_w]
              rfl
             refine pure_ (i:=14) (N:=some 37) (v:=?_) (a':=?_) #[true,false,true,true,false,false,true,true,false,false,true,true,false,false,true,false,false,false,false,false,false,false,false,false,false,false,false,false,false,false,false,false,false] rfl rfl (any_of HT_.out (by kernel_rfl)) (fun _ _ _ h=>h) (Or.inl ⟨by rfl,?_⟩) ?_ ?_
             rotate_left
             ·
              intro w'
              go_simp
              with_reducible rfl
             rotate_left
             ·
              simp only [Act.put,List.setIfInBounds_toArray,List.set_cons_zero,List.set_cons_succ,i64_w,i32_w]
              rfl
             refine pure_ (i:=16) (N:=some 39) (v:=?_) (a':=?_) #[true,false,true,true,false,false,true,true,false,false,true,true,false,false,true,false,true,false,false,false,false,false,false,false,false,false,false,false,false,false,false,false,false] rfl rfl (any_of HT_.out (by kernel_rfl)) (fun _ _ _ h=>h) (Or.inl ⟨by rfl,?_⟩) ?_ ?_
             rotate_left
             ·
              intro w'
              go_simp
              with_reducible rfl
             rotate_left
             ·
              simp only [Act.put,List.setIfInBounds_toArray,List.set_cons_zero,List.set_cons_succ,i64_w,i32_w]
              rfl
             refine pure_ (i:=21) (N:=some 44) (v:=?_) (a':=?_) #[true,false,true,true,false,false,true,true,false,false,true,true,false,false,true,false,true,false,false,false,false,true,false,false,false,false,false,false,false,false,false,false,false] rfl rfl (any_of HT_.out (by kernel_rfl)) (fun _ _ _ h=>h) (Or.inl ⟨by rfl,?_⟩) ?_ ?_
             rotate_left
             ·
              intro w'
              go_simp
              with_reducible rfl
             rotate_left
             ·
              simp only [Act.put,List.setIfInBounds_toArray,List.set_cons_zero,List.set_cons_succ,i64_w,i32_w]
              rfl
             refine pure_ (i:=23) (N:=some 46) (v:=?_) (a':=?_) #[true,false,true,true,false,false,true,true,false,false,true,true,false,false,true,false,true,false,false,false,false,true,false,true,false,false,false,false,false,false,false,false,false] rfl rfl (any_of HT_.out (by kernel_rfl)) (fun _ _ _ h=>h) (Or.inl ⟨by rfl,?_⟩) ?_ ?_
             rotate_left
             ·
              intro w'
              go_simp
              with_reducible rfl
             rotate_left
             ·
              simp only [Act.put,List.setIfInBounds_toArray,List.set_cons_zero,List.set_cons_succ,i64_w,i32_w]
              rfl
             refine take_ (i:=1) (N:=some 24) (v:=?_) (a':=?_) #[true,true,true,true,false,false,true,true,false,false,true,true,false,false,true,false,true,false,false,false,false,true,false,true,false,false,false,false,false,false,false,false,false] rfl rfl (take_ofW HT_.out HW_.out (by kernel_rfl)) (fun _ _ _ h=>h) (Or.inl ⟨by rfl,?_⟩) hHeld ?_ ?_
             rotate_left
             ·
              rintro w' ⟨s0,s1,s2,s3,s4,s5⟩
              go_simp
              with_reducible rfl
             rotate_left
             ·
              simp only [Act.put,List.setIfInBounds_toArray,List.set_cons_zero,List.set_cons_succ,i64_w,i32_w]
              rfl
             refine take_ (i:=4) (N:=some 27) (v:=?_) (a':=?_) #[true,true,true,true,true,false,true,true,false,false,true,true,false,false,true,false,true,false,false,false,false,true,false,true,false,false,false,false,false,false,false,false,false] rfl rfl (take_ofW HT_.out HW_.out (by kernel_rfl)) (fun _ _ _ h=>h) (Or.inl ⟨by rfl,?_⟩) hHeld ?_ ?_
             rotate_left
             ·
              rintro w' ⟨s0,s1,s2,s3,s4,s5⟩
              go_simp
              with_reducible rfl
             rotate_left
             ·
              simp only [Act.put,List.setIfInBounds_toArray,List.set_cons_zero,List.set_cons_succ,i64_w,i32_w]
              rfl
             refine take_ (i:=8) (N:=some 31) (v:=?_) (a':=?_) #[true,true,true,true,true,false,true,true,true,false,true,true,false,false,true,false,true,false,false,false,false,true,false,true,false,false,false,false,false,false,false,false,false] rfl rfl (take_ofW HT_.out HW_.out (by kernel_rfl)) (fun _ _ _ h=>h) (Or.inl ⟨by rfl,?_⟩) hHeld ?_ ?_
             rotate_left
             ·
              rintro w' ⟨s0,s1,s2,s3,s4,s5⟩
              go_simp
              with_reducible rfl
             rotate_left
             ·
              simp only [Act.put,List.setIfInBounds_toArray,List.set_cons_zero,List.set_cons_succ,i64_w,i32_w]
              rfl
             refine take_ (i:=12) (N:=some 35) (v:=?_) (a':=?_) #[true,true,true,true,true,false,true,true,true,false,true,true,true,false,true,false,true,false,false,false,false,true,false,true,false,false,false,false,false,false,false,false,false] rfl rfl (take_ofW HT_.out HW_.out (by kernel_rfl)) (fun _ _ _ h=>h) (Or.inl ⟨by rfl,?_⟩) hHeld ?_ ?_
             rotate_left
             ·
              rintro w' ⟨s0,s1,s2,s3,s4,s5⟩
              go_simp
              with_reducible rfl
             rotate_left
             ·
              simp only [Act.put,List.setIfInBounds_toArray,List.set_cons_zero,List.set_cons_succ,i64_w,i32_w]
              rfl
             refine take_ (i:=15) (N:=some 38) (v:=?_) (a':=?_) #[true,true,true,true,true,false,true,true,true,false,true,true,true,false,true,true,true,false,false,false,false,true,false,true,false,false,false,false,false,false,false,false,false] rfl rfl (take_ofW HT_.out HW_.out (by kernel_rfl)) (fun _ _ _ h=>h) (Or.inl ⟨by rfl,?_⟩) hHeld ?_ ?_
             rotate_left
             ·
              rintro w' ⟨s0,s1,s2,s3,s4,s5⟩
              go_simp
              with_reducible rfl
             rotate_left
             ·
              simp only [Act.put,List.setIfInBounds_toArray,List.set_cons_zero,List.set_cons_succ,i64_w,i32_w]
              rfl
             refine take_ (i:=17) (N:=some 40) (v:=?_) (a':=?_) #[true,true,true,true,true,false,true,true,true,false,true,true,true,false,true,true,true,true,false,false,false,true,false,true,false,false,false,false,false,false,false,false,false] rfl rfl (take_ofW HT_.out HW_.out (by kernel_rfl)) (fun _ _ _ h=>h) (Or.inl ⟨by rfl,?_⟩) hHeld ?_ ?_
             rotate_left
             ·
              rintro w' ⟨s0,s1,s2,s3,s4,s5⟩
              go_simp
              with_reducible rfl
             rotate_left
             ·
              simp only [Act.put,List.setIfInBounds_toArray,List.set_cons_zero,List.set_cons_succ,i64_w,i32_w]
              rfl
             refine pure_ (i:=18) (N:=some 41) (v:=?_) (a':=?_) #[true,true,true,true,true,false,true,true,true,false,true,true,true,false,true,true,true,true,true,false,false,true,false,true,false,false,false,false,false,false,false,false,false] rfl rfl (any_of HT_.out (by kernel_rfl)) (fun _ _ _ h=>h) (Or.inl ⟨by rfl,?_⟩) ?_ ?_
             rotate_left
             ·
              intro w'
              go_simp
              with_reducible rfl
             rotate_left
             ·
              simp only [Act.put,List.setIfInBounds_toArray,List.set_cons_zero,List.set_cons_succ,i64_w,i32_w]
              rfl
             refine pure_ (i:=19) (N:=some 42) (v:=?_) (a':=?_) #[true,true,true,true,true,false,true,true,true,false,true,true,true,false,true,true,true,true,true,true,false,true,false,true,false,false,false,false,false,false,false,false,false] rfl rfl (any_of HT_.out (by kernel_rfl)) (fun _ _ _ h=>h) (Or.inl ⟨by rfl,?_⟩) ?_ ?_
             rotate_left
             ·
              intro w'
              go_simp
              with_reducible rfl
             rotate_left
             ·
              simp only [Act.put,List.setIfInBounds_toArray,List.set_cons_zero,List.set_cons_succ,i64_w,i32_w]
              rfl
             refine pure_ (i:=20) (N:=some 43) (v:=?_) (a':=?_) #[true,true,true,true,true,false,true,true,true,false,true,true,true,false,true,true,true,true,true,true,true,true,false,true,false,false,false,false,false,false,false,false,false] rfl rfl (any_of HT_.out (by kernel_rfl)) (fun _ _ _ h=>h) (Or.inl ⟨by rfl,?_⟩) ?_ ?_
             rotate_left
             ·
              intro w'
              go_simp
              with_reducible rfl
             rotate_left
             ·
              simp only [Act.put,List.setIfInBounds_toArray,List.set_cons_zero,List.set_cons_succ,i64_w,i32_w]
              rfl
             refine take_ (i:=22) (N:=some 45) (v:=?_) (a':=?_) #[true,true,true,true,true,false,true,true,true,false,true,true,true,false,true,true,true,true,true,true,true,true,true,true,false,false,false,false,false,false,false,false,false] rfl rfl (take_ofW HT_.out HW_.out (by kernel_rfl)) (fun _ _ _ h=>h) (Or.inl ⟨by rfl,?_⟩) hHeld ?_ ?_
             rotate_left
             ·
              rintro w' ⟨s0,s1,s2,s3,s4,s5⟩
              go_simp
              with_reducible rfl
             rotate_left
             ·
              simp only [Act.put,List.setIfInBounds_toArray,List.set_cons_zero,List.set_cons_succ,i64_w,i32_w]
              rfl
             refine take_ (i:=24) (N:=some 47) (v:=?_) (a':=?_) #[true,true,true,true,true,false,true,true,true,false,true,true,true,false,true,true,true,true,true,true,true,true,true,true,true,false,false,false,false,false,false,false,false] rfl rfl (take_ofW HT_.out HW_.out (by kernel_rfl)) (fun _ _ _ h=>h) (Or.inl ⟨by rfl,?_⟩) hHeld ?_ ?_
             rotate_left
             ·
              rintro w' ⟨s0,s1,s2,s3,s4,s5⟩
              go_simp
              with_reducible rfl
             rotate_left
             ·
              simp only [Act.put,List.setIfInBounds_toArray,List.set_cons_zero,List.set_cons_succ,i64_w,i32_w]
              rfl
             refine pure_ (i:=25) (N:=some 48) (v:=?_) (a':=?_) #[true,true,true,true,true,false,true,true,true,false,true,true,true,false,true,true,true,true,true,true,true,true,true,true,true,true,false,false,false,false,false,false,false] rfl rfl (any_of HT_.out (by kernel_rfl)) (fun _ _ _ h=>h) (Or.inl ⟨by rfl,?_⟩) ?_ ?_
             rotate_left
             ·
              intro w'
              go_simp
              with_reducible rfl
             rotate_left
             ·
              simp only [Act.put,List.setIfInBounds_toArray,List.set_cons_zero,List.set_cons_succ,i64_w,i32_w]
              rfl
             refine pure_ (i:=26) (N:=some 49) (v:=?_) (a':=?_) #[true,true,true,true,true,false,true,true,true,false,true,true,true,false,true,true,true,true,true,true,true,true,true,true,true,true,true,false,false,false,false,false,false] rfl rfl (any_of HT_.out (by kernel_rfl)) (fun _ _ _ h=>h) (Or.inl ⟨by rfl,?_⟩) ?_ ?_
             rotate_left
             ·
              intro w'
              go_simp
              with_reducible rfl
             rotate_left
             ·
              simp only [Act.put,List.setIfInBounds_toArray,List.set_cons_zero,List.set_cons_succ,i64_w,i32_w]
              rfl
             refine pure_ (i:=27) (N:=some 50) (v:=?_) (a':=?_) #[true,true,true,true,true,false,true,true,true,false,true,true,true,false,true,true,true,true,true,true,true,true,true,true,true,true,true,true,false,false,false,false,false] rfl rfl (any_of HT_.out (by kernel_rfl)) (fun _ _ _ h=>h) (Or.inl ⟨by rfl,?_⟩) ?_ ?_
             rotate_left
             ·
              intro w'
              go_simp
              with_reducible rfl
             rotate_left
             ·
              simp only [Act.put,List.setIfInBounds_toArray,List.set_cons_zero,List.set_cons_succ,i64_w,i32_w]
              rfl
             refine one_ (i:=5) (N:=some 28) #[true,true,true,true,true,true,true,true,true,false,true,true,true,false,true,true,true,true,true,true,true,true,true,true,true,true,true,true,false,false,false,false,false] rfl rfl (one_of HT_.out (by kernel_rfl)) (by decide) (fun K hK=>?_)
             refine goesv_ Try.func33 (by kernel_rfl) rfl #[.slice A479_0 ((rd_T49 l0_0 x5_1).f0).length c479_0] (by rfl) rfl rfl (by rfl) za38 ?_
             with_reducible refine (abugidalaw16_cut_1.calls kj4 (fun k_=>((P0_0_ k_ ∨ w.heap.size≤k_)∧(some k_≠(u479000:Value).ownBlock∧(k_≠gb476∧(k_≠gb477∧(k_≠gb478∧k_≠gb480)))))) _ _ ((rd_T49 l0_0 x5_1).f0) t481 _ ?side1 A16.out).mono ?_
             (case side1=>exact HL479_0.out)
             rintro e w38 ⟨v482,rfl,ho0,hb⟩
             refine ⟨_,rfl,?_⟩
             have n0_:=Aside0.mk (Kd.V_elder' za57 (Kd.N_base ho0) hb)
             have n1_:=Aside0.mk (Kd.N_elder' za58 (Kd.N_base ho0) hb)
             have n2_:=Aside0.mk (Kd.V_elder' za59 (Kd.N_base ho0) hb)
             have n3_:=Aside0.mk (Kd.V_elder' za60 (Kd.N_base ho0) hb)
             have n4_:=Aside0.mk (Kd.V_elder' za61 (Kd.N_base ho0) hb)
             have n5_:=Aside0.mk (Kd.V_elder' za62 (Kd.N_base ho0) hb)
             have n6_:=Aside0.mk (Kd.V_elder' za63 (Kd.N_base ho0) hb)
             have n7_:=Aside0.mk (Kd.V_elder' za67 (Kd.N_base ho0) hb)
             have n8_:=Aside0.mk (Kd.V_elder' za68 (Kd.N_base ho0) hb)
             have n9_:=Aside0.mk (Kd.N_lower (Kd.N_mono (ok':=fun k_=>(P0_0_ k_ ∨ w.heap.size≤k_)∧some k_≠(u479000:Value).ownBlock∧k_≠gb476∧k_≠gb477∧k_≠gb478∧k_≠gb480) ho0 (fun k_ hk_=>⟨Or.elim hk_ (fun hs_=>hs_.1) (fun hn_=>(.inr (Nat.le_trans (below_size za7) hn_))),Or.elim hk_ (fun hs_=>hs_.2.1) (fun hn_=>(Kd.fresh' (Kd.N_lt za58) k_ hn_)),Or.elim hk_ (fun hs_=>hs_.2.2.1) (fun hn_=>(Kd.freshB (g:=gb476) (o:=.cells #[.slice (some ad479) l0_0.length c0_0] 24 (0,0)) za43 k_ hn_)),Or.elim hk_ (fun hs_=>hs_.2.2.2.1) (fun hn_=>(Kd.freshB (g:=gb477) (o:=.cells #[.slice none 0 0] 24 (0,0)) za44 k_ hn_)),Or.elim hk_ (fun hs_=>hs_.2.2.2.2.1) (fun hn_=>(Kd.freshB (g:=gb478) (o:=.cells #[u479000] 24 (0,0)) za45 k_ hn_)),Or.elim hk_ (fun hs_=>hs_.2.2.2.2.2) (fun hn_=>(Kd.freshB (g:=gb480) (o:=.cells #[.slice A479_0 ((rd_T49 l0_0 x5_1).f0).length c479_0,.slice A479_1 ((rd_T49 l0_0 x5_1).f1).length c479_1,.slice A479_2 ((rd_T49 l0_0 x5_1).f2).length c479_2,.slice A479_3 ((rd_T49 l0_0 x5_1).f3).length c479_3,.slice A479_4 ((rd_T49 l0_0 x5_1).f4).length c479_4] 49 (0,0)) za46 k_ hn_))⟩)) (below_size za7))
             have n10_:=Aside0.mk (blk_below (g:=gb476) (o:=.cells #[.slice (some ad479) l0_0.length c0_0] 24 (0,0)) za43 hb)
             have n11_:=Aside0.mk (blk_below (g:=gb477) (o:=.cells #[.slice none 0 0] 24 (0,0)) za44 hb)
             have n12_:=Aside0.mk (blk_below (g:=gb478) (o:=.cells #[u479000] 24 (0,0)) za45 hb)
             have n13_:=Aside0.mk (blk_below (g:=gb480) (o:=.cells #[.slice A479_0 ((rd_T49 l0_0 x5_1).f0).length c479_0,.slice A479_1 ((rd_T49 l0_0 x5_1).f1).length c479_1,.slice A479_2 ((rd_T49 l0_0 x5_1).f2).length c479_2,.slice A479_3 ((rd_T49 l0_0 x5_1).f3).length c479_3,.slice A479_4 ((rd_T49 l0_0 x5_1).f4).length c479_4] 49 (0,0)) za46 hb)
             have n14_:=Aside0.mk (below_step za7 hb)
             clear HO_477000
             clear HO_479000
             clear HL479_0
             clear HL479_1
             clear HL479_2
             clear HL479_3
             clear HL479_4
             clear HO494
             clear HO499
             clear BK476
             clear BK477
             clear BK478
             clear BK480
             clear HB
             have HO_477000:=n0_
             have HO_479000:=n1_
             have HL479_0:=n2_
             have HL479_1:=n3_
             have HL479_2:=n4_
             have HL479_3:=n5_
             have HL479_4:=n6_
             have HO494:=n7_
             have HO499:=n8_
             have HO483:=n9_
             have BK476:=n10_
             have BK477:=n11_
             have BK478:=n12_
             have BK480:=n13_
             have HB:=n14_
             clear n0_ n1_ n2_ n3_ n4_ n5_ n6_ n7_ n8_ n9_ n10_ n11_ n12_ n13_ n14_
             (try clear hb)
             (try clear hb2)
             (try clear hk)
             (try clear hi)
             (try clear ho0)
             refine hK.out _ _ ⟨(blk_cell BK478.out 0).trans rfl,(blk_cell BK480.out 0).trans rfl,(blk_cell BK480.out 1).trans rfl,(blk_cell BK480.out 2).trans rfl,(blk_cell BK480.out 3).trans rfl,(blk_cell BK480.out 4).trans rfl⟩ (fun hHeld=>?_)
             clear hK K
             refine norm_ (a':=?_) ?_ ?_
             rotate_left
             ·
              show Act.put _ (some 28) _=_
              simp only [Act.put,List.setIfInBounds_toArray,List.set_cons_zero,List.set_cons_succ,i64_w,i32_w]
              rfl
             refine one_ (i:=9) (N:=some 32) #[true,true,true,true,true,true,true,true,true,true,true,true,true,false,true,true,true,true,true,true,true,true,true,true,true,true,true,true,false,false,false,false,false] rfl rfl (one_of HT_.out (by kernel_rfl)) (by decide) (fun K hK=>?_)
             refine goesv_ Try.func33 (by kernel_rfl) rfl #[.slice A479_1 ((rd_T49 l0_0 x5_1).f1).length c479_1] (by rfl) rfl rfl (by rfl) za38 ?_
             with_reducible refine (abugidalaw16_cut_1.calls kj4 (fun k_=>(((P0_0_ k_ ∨ w.heap.size≤k_)∧(some k_≠(u479000:Value).ownBlock∧(k_≠gb476∧(k_≠gb477∧(k_≠gb478∧k_≠gb480)))))∧some k_≠(v482:Value).ownBlock)) _ _ ((rd_T49 l0_0 x5_1).f1) t484 _ ?side1 A17.out).mono ?_
             (case side1=>exact HL479_1.out)
             rintro e w39 ⟨v485,rfl,ho0,hb⟩
             refine ⟨_,rfl,?_⟩
             have n0_:=Aside0.mk (Kd.V_elder' za57 (Kd.N_base ho0) hb)
             have n1_:=Aside0.mk (Kd.N_elder' za58 (Kd.N_base ho0) hb)
             have n2_:=Aside0.mk (Kd.V_elder' za59 (Kd.N_base ho0) hb)
             have n3_:=Aside0.mk (Kd.V_elder' za60 (Kd.N_base ho0) hb)
             have n4_:=Aside0.mk (Kd.V_elder' za61 (Kd.N_base ho0) hb)
             have n5_:=Aside0.mk (Kd.V_elder' za62 (Kd.N_base ho0) hb)
             have n6_:=Aside0.mk (Kd.V_elder' za63 (Kd.N_base ho0) hb)
             have n7_:=Aside0.mk (Kd.V_elder' za67 (Kd.N_base ho0) hb)
             have n8_:=Aside0.mk (Kd.V_elder' za68 (Kd.N_base ho0) hb)
             have n9_:=Aside0.mk (Kd.N_elder' za69 (Kd.N_base ho0) hb)
             have n10_:=Aside0.mk (Kd.N_lower (Kd.N_mono (ok':=fun k_=>(P0_0_ k_ ∨ w.heap.size≤k_)∧some k_≠(u479000:Value).ownBlock∧some k_≠(v482:Value).ownBlock∧k_≠gb476∧k_≠gb477∧k_≠gb478∧k_≠gb480) ho0 (fun k_ hk_=>⟨Or.elim hk_ (fun hs_=>hs_.1.1) (fun hn_=>(.inr (Nat.le_trans (below_size za7) hn_))),Or.elim hk_ (fun hs_=>hs_.1.2.1) (fun hn_=>(Kd.fresh' (Kd.N_lt za58) k_ hn_)),Or.elim hk_ (fun hs_=>hs_.2) (fun hn_=>(Kd.fresh' (Kd.N_lt za69) k_ hn_)),Or.elim hk_ (fun hs_=>hs_.1.2.2.1) (fun hn_=>(Kd.freshB (g:=gb476) (o:=.cells #[.slice (some ad479) l0_0.length c0_0] 24 (0,0)) za43 k_ hn_)),Or.elim hk_ (fun hs_=>hs_.1.2.2.2.1) (fun hn_=>(Kd.freshB (g:=gb477) (o:=.cells #[.slice none 0 0] 24 (0,0)) za44 k_ hn_)),Or.elim hk_ (fun hs_=>hs_.1.2.2.2.2.1) (fun hn_=>(Kd.freshB (g:=gb478) (o:=.cells #[u479000] 24 (0,0)) za45 k_ hn_)),Or.elim hk_ (fun hs_=>hs_.1.2.2.2.2.2) (fun hn_=>(Kd.freshB (g:=gb480) (o:=.cells #[.slice A479_0 ((rd_T49 l0_0 x5_1).f0).length c479_0,.slice A479_1 ((rd_T49 l0_0 x5_1).f1).length c479_1,.slice A479_2 ((rd_T49 l0_0 x5_1).f2).length c479_2,.slice A479_3 ((rd_T49 l0_0 x5_1).f3).length c479_3,.slice A479_4 ((rd_T49 l0_0 x5_1).f4).length c479_4] 49 (0,0)) za46 k_ hn_))⟩)) (below_size za7))
             have n11_:=Aside0.mk (blk_below (g:=gb476) (o:=.cells #[.slice (some ad479) l0_0.length c0_0] 24 (0,0)) za43 hb)
             have n12_:=Aside0.mk (blk_below (g:=gb477) (o:=.cells #[.slice none 0 0] 24 (0,0)) za44 hb)
             have n13_:=Aside0.mk (blk_below (g:=gb478) (o:=.cells #[u479000] 24 (0,0)) za45 hb)
             have n14_:=Aside0.mk (blk_below (g:=gb480) (o:=.cells #[.slice A479_0 ((rd_T49 l0_0 x5_1).f0).length c479_0,.slice A479_1 ((rd_T49 l0_0 x5_1).f1).length c479_1,.slice A479_2 ((rd_T49 l0_0 x5_1).f2).length c479_2,.slice A479_3 ((rd_T49 l0_0 x5_1).f3).length c479_3,.slice A479_4 ((rd_T49 l0_0 x5_1).f4).length c479_4] 49 (0,0)) za46 hb)
             have n15_:=Aside0.mk (below_step za7 hb)
             clear HO_477000
             clear HO_479000
             clear HL479_0
             clear HL479_1
             clear HL479_2
             clear HL479_3
             clear HL479_4
             clear HO494
             clear HO499
             clear HO483
             clear BK476
             clear BK477
             clear BK478
             clear BK480
             clear HB
             have HO_477000:=n0_
             have HO_479000:=n1_
             have HL479_0:=n2_
             have HL479_1:=n3_
             have HL479_2:=n4_
             have HL479_3:=n5_
             have HL479_4:=n6_
             have HO494:=n7_
             have HO499:=n8_
             have HO483:=n9_
             have HO486:=n10_
             have BK476:=n11_
             have BK477:=n12_
             have BK478:=n13_
             have BK480:=n14_
             have HB:=n15_
             clear n0_ n1_ n2_ n3_ n4_ n5_ n6_ n7_ n8_ n9_ n10_ n11_ n12_ n13_ n14_ n15_
             (try clear hb)
             (try clear hb2)
             (try clear hk)
             (try clear hi)
             (try clear ho0)
             refine hK.out _ _ ⟨(blk_cell BK478.out 0).trans rfl,(blk_cell BK480.out 0).trans rfl,(blk_cell BK480.out 1).trans rfl,(blk_cell BK480.out 2).trans rfl,(blk_cell BK480.out 3).trans rfl,(blk_cell BK480.out 4).trans rfl⟩ (fun hHeld=>?_)
             clear hK K
             refine norm_ (a':=?_) ?_ ?_
             rotate_left
             ·
              show Act.put _ (some 32) _=_
              simp only [Act.put,List.setIfInBounds_toArray,List.set_cons_zero,List.set_cons_succ,i64_w,i32_w]
              rfl
             refine one_ (i:=13) (N:=some 36) #[true,true,true,true,true,true,true,true,true,true,true,true,true,true,true,true,true,true,true,true,true,true,true,true,true,true,true,true,false,false,false,false,false] rfl rfl (one_of HT_.out (by kernel_rfl)) (by decide) (fun K hK=>?_)
             refine goesv_ Try.func33 (by kernel_rfl) rfl #[.slice A479_2 ((rd_T49 l0_0 x5_1).f2).length c479_2] (by rfl) rfl rfl (by rfl) za38 ?_
             with_reducible refine (abugidalaw16_cut_1.calls kj4 (fun k_=>((((P0_0_ k_ ∨ w.heap.size≤k_)∧(some k_≠(u479000:Value).ownBlock∧(k_≠gb476∧(k_≠gb477∧(k_≠gb478∧k_≠gb480)))))∧some k_≠(v482:Value).ownBlock)∧some k_≠(v485:Value).ownBlock)) _ _ ((rd_T49 l0_0 x5_1).f2) t487 _ ?side1 A18.out).mono ?_
             (case side1=>exact HL479_2.out)
             rintro e w40 ⟨v488,rfl,ho0,hb⟩
             refine ⟨_,rfl,?_⟩
             have n0_:=Aside0.mk (Kd.V_elder' za57 (Kd.N_base ho0) hb)
             have n1_:=Aside0.mk (Kd.N_elder' za58 (Kd.N_base ho0) hb)
             have n2_:=Aside0.mk (Kd.V_elder' za59 (Kd.N_base ho0) hb)
             have n3_:=Aside0.mk (Kd.V_elder' za60 (Kd.N_base ho0) hb)
             have n4_:=Aside0.mk (Kd.V_elder' za61 (Kd.N_base ho0) hb)
             have n5_:=Aside0.mk (Kd.V_elder' za62 (Kd.N_base ho0) hb)
             have n6_:=Aside0.mk (Kd.V_elder' za63 (Kd.N_base ho0) hb)
             have n7_:=Aside0.mk (Kd.V_elder' za67 (Kd.N_base ho0) hb)
             have n8_:=Aside0.mk (Kd.V_elder' za68 (Kd.N_base ho0) hb)
             have n9_:=Aside0.mk (Kd.N_elder' za69 (Kd.N_base ho0) hb)
             have n10_:=Aside0.mk (Kd.N_elder' (by (with_reducible repeat (first|apply Kd.N_alloc|apply Kd.N_drewN|apply Kd.N_drew));exact HO486.out) (Kd.N_base ho0) hb)
             have n11_:=Aside0.mk (Kd.N_lower (Kd.N_mono (ok':=fun k_=>(P0_0_ k_ ∨ w.heap.size≤k_)∧some k_≠(u479000:Value).ownBlock∧some k_≠(v482:Value).ownBlock∧some k_≠(v485:Value).ownBlock∧k_≠gb476∧k_≠gb477∧k_≠gb478∧k_≠gb480) ho0 (fun k_ hk_=>⟨Or.elim hk_ (fun hs_=>hs_.1.1.1) (fun hn_=>(.inr (Nat.le_trans (below_size za7) hn_))),Or.elim hk_ (fun hs_=>hs_.1.1.2.1) (fun hn_=>(Kd.fresh' (Kd.N_lt za58) k_ hn_)),Or.elim hk_ (fun hs_=>hs_.1.2) (fun hn_=>(Kd.fresh' (Kd.N_lt za69) k_ hn_)),Or.elim hk_ (fun hs_=>hs_.2) (fun hn_=>(Kd.fresh' (Kd.N_lt (by (with_reducible repeat (first|apply Kd.N_alloc|apply Kd.N_drewN|apply Kd.N_drew));exact HO486.out)) k_ hn_)),Or.elim hk_ (fun hs_=>hs_.1.1.2.2.1) (fun hn_=>(Kd.freshB (g:=gb476) (o:=.cells #[.slice (some ad479) l0_0.length c0_0] 24 (0,0)) za43 k_ hn_)),Or.elim hk_ (fun hs_=>hs_.1.1.2.2.2.1) (fun hn_=>(Kd.freshB (g:=gb477) (o:=.cells #[.slice none 0 0] 24 (0,0)) za44 k_ hn_)),Or.elim hk_ (fun hs_=>hs_.1.1.2.2.2.2.1) (fun hn_=>(Kd.freshB (g:=gb478) (o:=.cells #[u479000] 24 (0,0)) za45 k_ hn_)),Or.elim hk_ (fun hs_=>hs_.1.1.2.2.2.2.2) (fun hn_=>(Kd.freshB (g:=gb480) (o:=.cells #[.slice A479_0 ((rd_T49 l0_0 x5_1).f0).length c479_0,.slice A479_1 ((rd_T49 l0_0 x5_1).f1).length c479_1,.slice A479_2 ((rd_T49 l0_0 x5_1).f2).length c479_2,.slice A479_3 ((rd_T49 l0_0 x5_1).f3).length c479_3,.slice A479_4 ((rd_T49 l0_0 x5_1).f4).length c479_4] 49 (0,0)) za46 k_ hn_))⟩)) (below_size za7))
             have n12_:=Aside0.mk (blk_below (g:=gb476) (o:=.cells #[.slice (some ad479) l0_0.length c0_0] 24 (0,0)) za43 hb)
             have n13_:=Aside0.mk (blk_below (g:=gb477) (o:=.cells #[.slice none 0 0] 24 (0,0)) za44 hb)
             have n14_:=Aside0.mk (blk_below (g:=gb478) (o:=.cells #[u479000] 24 (0,0)) za45 hb)
             have n15_:=Aside0.mk (blk_below (g:=gb480) (o:=.cells #[.slice A479_0 ((rd_T49 l0_0 x5_1).f0).length c479_0,.slice A479_1 ((rd_T49 l0_0 x5_1).f1).length c479_1,.slice A479_2 ((rd_T49 l0_0 x5_1).f2).length c479_2,.slice A479_3 ((rd_T49 l0_0 x5_1).f3).length c479_3,.slice A479_4 ((rd_T49 l0_0 x5_1).f4).length c479_4] 49 (0,0)) za46 hb)
             have n16_:=Aside0.mk (below_step za7 hb)
             clear HO_477000
             clear HO_479000
             clear HL479_0
             clear HL479_1
             clear HL479_2
             clear HL479_3
             clear HL479_4
             clear HO494
             clear HO499
             clear HO483
             clear HO486
             clear BK476
             clear BK477
             clear BK478
             clear BK480
             clear HB
             have HO_477000:=n0_
             have HO_479000:=n1_
             have HL479_0:=n2_
             have HL479_1:=n3_
             have HL479_2:=n4_
             have HL479_3:=n5_
             have HL479_4:=n6_
             have HO494:=n7_
             have HO499:=n8_
             have HO483:=n9_
             have HO486:=n10_
             have HO489:=n11_
             have BK476:=n12_
             have BK477:=n13_
             have BK478:=n14_
             have BK480:=n15_
             have HB:=n16_
             clear n0_ n1_ n2_ n3_ n4_ n5_ n6_ n7_ n8_ n9_ n10_ n11_ n12_ n13_ n14_ n15_ n16_
             (try clear hb)
             (try clear hb2)
             (try clear hk)
             (try clear hi)
             (try clear ho0)
             obtain ⟨Ao41,co41,eo41⟩:=Kd.N_slice HO489.out
             (first|subst eo41|(injection eo41 with f1_ f2_ f3_;have f4_:=f1_.symm;have f5_:=f3_.symm;clear f1_ f2_ f3_;subst f4_;subst f5_))
             obtain ⟨Ao42,co42,eo42⟩:=Kd.N_slice HO486.out
             (first|subst eo42|(injection eo42 with f1_ f2_ f3_;have f4_:=f1_.symm;have f5_:=f3_.symm;clear f1_ f2_ f3_;subst f4_;subst f5_))
             obtain ⟨Ao43,co43,eo43⟩:=Kd.N_slice HO483.out
             (first|subst eo43|(injection eo43 with f1_ f2_ f3_;have f4_:=f1_.symm;have f5_:=f3_.symm;clear f1_ f2_ f3_;subst f4_;subst f5_))
             refine hK.out _ _ ⟨(blk_cell BK478.out 0).trans rfl,(blk_cell BK480.out 0).trans rfl,(blk_cell BK480.out 1).trans rfl,(blk_cell BK480.out 2).trans rfl,(blk_cell BK480.out 3).trans rfl,(blk_cell BK480.out 4).trans rfl⟩ (fun hHeld=>?_)
             clear hK K
             refine norm_ (a':=?_) ?_ ?_
             rotate_left
             ·
              show Act.put _ (some 36) _=_
              simp only [Act.put,List.setIfInBounds_toArray,List.set_cons_zero,List.set_cons_succ,i64_w,i32_w]
              rfl
             refine pure_ (i:=28) (N:=some 51) (v:=?_) (a':=?_) #[true,true,true,true,true,true,true,true,true,true,true,true,true,true,true,true,true,true,true,true,true,true,true,true,true,true,true,true,true,false,false,false,false] rfl rfl (any_of HT_.out (by kernel_rfl)) (fun _ _ _ h=>h) (Or.inl ⟨by rfl,?_⟩) ?_ ?_
             rotate_left
             ·
              intro w'
              go_simp
              with_reducible rfl
             rotate_left
             ·
              simp only [Act.put,List.setIfInBounds_toArray,List.set_cons_zero,List.set_cons_succ,i64_w,i32_w]
              rfl
             refine one_ (i:=29) (N:=some 52) #[true,true,true,true,true,true,true,true,true,true,true,true,true,true,true,true,true,true,true,true,true,true,true,true,true,true,true,true,true,true,false,false,false] rfl rfl (one_of HT_.out (by kernel_rfl)) (by decide) (fun K hK=>?_)
             refine value_ (w1:=?_) (v:=?_) (by rfl) rfl ?_ ?_
             rotate_left 2
             ·
              go_simp
              constructor
              ·
               rfl
              ·
               rfl
             refine hK.out _ _ ⟨(blk_cell (blk_alloc BK478.out _) 0).trans rfl,(blk_cell (blk_alloc BK480.out _) 0).trans rfl,(blk_cell (blk_alloc BK480.out _) 1).trans rfl,(blk_cell (blk_alloc BK480.out _) 2).trans rfl,(blk_cell (blk_alloc BK480.out _) 3).trans rfl,(blk_cell (blk_alloc BK480.out _) 4).trans rfl⟩ (fun hHeld=>?_)
             clear hK K
             refine norm_ (a':=?_) ?_ ?_
             rotate_left
             ·
              show Act.put _ (some 52) _=_
              simp only [Act.put,List.setIfInBounds_toArray,List.set_cons_zero,List.set_cons_succ,i64_w,i32_w]
              rfl
             refine one_ (i:=30) (N:=some 53) #[true,true,true,true,true,true,true,true,true,true,true,true,true,true,true,true,true,true,true,true,true,true,true,true,true,true,true,true,true,true,true,false,false] rfl rfl (one_of HT_.out (by kernel_rfl)) (by decide) (fun K hK=>?_)
             refine Kd.N_append_step k49 (w0:=w) w.heap.size (by rfl) (.tmp 24) (.tmp 52) 22 49 (.agg #[(.slice none 0 0),(.slice none 0 0),(.slice none 0 0),(.slice none 0 0),(.slice none 0 0)]) 120 rfl Try.underlying22 info49 rfl (by decide) (by omega) u479000 x479000_1 (⟨t481,t484,t487,y490,y495⟩:S49) [.slice Ao43 t481.length co43,.slice Ao42 t484.length co42,.slice Ao41 t487.length co41,.slice A479_3 y490.length c479_3,.slice A479_4 y495.length c479_4] (fun k_=>(P0_0_ k_ ∨ w.heap.size≤k_)∧k_≠gb476∧k_≠gb477∧k_≠gb478∧k_≠gb480) (fun k_=>((fun k_=>(P0_0_ k_ ∨ w.heap.size≤k_)∧k_≠gb476∧k_≠gb477∧k_≠gb478∧k_≠gb480)) k_∧some k_≠(u479000:Value).ownBlock) rfl rfl ?aP (fun _ hk=>hk) ?aF ?aO ?aB ?aS ?aL ?_
             (case aP=>exact (k49_mkF _ _ (⟨t481,t484,t487,y490,y495⟩:S49) (Kd.N_reads' (Kd.N_mono (ok':=(fun k_=>((fun k_=>(P0_0_ k_ ∨ w.heap.size≤k_)∧k_≠gb476∧k_≠gb477∧k_≠gb478∧k_≠gb480)) k_∧some k_≠(u479000:Value).ownBlock)) (HO483.out) (fun k_ hk=>⟨⟨hk.1.1.1,⟨hk.1.1.2.2.1,⟨hk.1.1.2.2.2.1,⟨hk.1.1.2.2.2.2.1,hk.1.1.2.2.2.2.2⟩⟩⟩⟩,hk.1.1.2.1⟩))).2.1 (Kd.N_F (Kd.N_mono (ok':=(fun k_=>((fun k_=>(P0_0_ k_ ∨ w.heap.size≤k_)∧k_≠gb476∧k_≠gb477∧k_≠gb478∧k_≠gb480)) k_∧some k_≠(u479000:Value).ownBlock)) (HO483.out) (fun k_ hk=>⟨⟨hk.1.1.1,⟨hk.1.1.2.2.1,⟨hk.1.1.2.2.2.1,⟨hk.1.1.2.2.2.2.1,hk.1.1.2.2.2.2.2⟩⟩⟩⟩,hk.1.1.2.1⟩))) (Kd.N_reads' (Kd.N_mono (ok':=(fun k_=>((fun k_=>(P0_0_ k_ ∨ w.heap.size≤k_)∧k_≠gb476∧k_≠gb477∧k_≠gb478∧k_≠gb480)) k_∧some k_≠(u479000:Value).ownBlock)) (HO486.out) (fun k_ hk=>⟨⟨hk.1.1,⟨hk.1.2.2.2.1,⟨hk.1.2.2.2.2.1,⟨hk.1.2.2.2.2.2.1,hk.1.2.2.2.2.2.2⟩⟩⟩⟩,hk.1.2.1⟩))).2.1 (Kd.N_F (Kd.N_mono (ok':=(fun k_=>((fun k_=>(P0_0_ k_ ∨ w.heap.size≤k_)∧k_≠gb476∧k_≠gb477∧k_≠gb478∧k_≠gb480)) k_∧some k_≠(u479000:Value).ownBlock)) (HO486.out) (fun k_ hk=>⟨⟨hk.1.1,⟨hk.1.2.2.2.1,⟨hk.1.2.2.2.2.1,⟨hk.1.2.2.2.2.2.1,hk.1.2.2.2.2.2.2⟩⟩⟩⟩,hk.1.2.1⟩))) (Kd.N_reads' (Kd.N_mono (ok':=(fun k_=>((fun k_=>(P0_0_ k_ ∨ w.heap.size≤k_)∧k_≠gb476∧k_≠gb477∧k_≠gb478∧k_≠gb480)) k_∧some k_≠(u479000:Value).ownBlock)) (HO489.out) (fun k_ hk=>⟨⟨hk.1,⟨hk.2.2.2.2.1,⟨hk.2.2.2.2.2.1,⟨hk.2.2.2.2.2.2.1,hk.2.2.2.2.2.2.2⟩⟩⟩⟩,hk.2.1⟩))).2.1 (Kd.N_F (Kd.N_mono (ok':=(fun k_=>((fun k_=>(P0_0_ k_ ∨ w.heap.size≤k_)∧k_≠gb476∧k_≠gb477∧k_≠gb478∧k_≠gb480)) k_∧some k_≠(u479000:Value).ownBlock)) (HO489.out) (fun k_ hk=>⟨⟨hk.1,⟨hk.2.2.2.2.1,⟨hk.2.2.2.2.2.1,⟨hk.2.2.2.2.2.2.1,hk.2.2.2.2.2.2.2⟩⟩⟩⟩,hk.2.1⟩))) (Kd.V_reads' (Kd.V_mono (ok':=(fun k_=>((fun k_=>(P0_0_ k_ ∨ w.heap.size≤k_)∧k_≠gb476∧k_≠gb477∧k_≠gb478∧k_≠gb480)) k_∧some k_≠(u479000:Value).ownBlock)) (HO494.out) (fun k_ hk=>⟨⟨hk.1.1.1.1,⟨hk.1.1.1.2.2.1,⟨hk.1.1.1.2.2.2.1,⟨hk.1.1.1.2.2.2.2.1,hk.1.1.1.2.2.2.2.2⟩⟩⟩⟩,hk.1.1.1.2.1⟩))).2.1 (Kd.V_F (Kd.V_mono (ok':=(fun k_=>((fun k_=>(P0_0_ k_ ∨ w.heap.size≤k_)∧k_≠gb476∧k_≠gb477∧k_≠gb478∧k_≠gb480)) k_∧some k_≠(u479000:Value).ownBlock)) (HO494.out) (fun k_ hk=>⟨⟨hk.1.1.1.1,⟨hk.1.1.1.2.2.1,⟨hk.1.1.1.2.2.2.1,⟨hk.1.1.1.2.2.2.2.1,hk.1.1.1.2.2.2.2.2⟩⟩⟩⟩,hk.1.1.1.2.1⟩))) (Kd.V_reads' (Kd.V_mono (ok':=(fun k_=>((fun k_=>(P0_0_ k_ ∨ w.heap.size≤k_)∧k_≠gb476∧k_≠gb477∧k_≠gb478∧k_≠gb480)) k_∧some k_≠(u479000:Value).ownBlock)) (HO499.out) (fun k_ hk=>⟨⟨hk.1.1.1.1,⟨hk.1.1.1.2.2.1,⟨hk.1.1.1.2.2.2.1,⟨hk.1.1.1.2.2.2.2.1,hk.1.1.1.2.2.2.2.2⟩⟩⟩⟩,hk.1.1.1.2.1⟩))).2.1 (Kd.V_F (Kd.V_mono (ok':=(fun k_=>((fun k_=>(P0_0_ k_ ∨ w.heap.size≤k_)∧k_≠gb476∧k_≠gb477∧k_≠gb478∧k_≠gb480)) k_∧some k_≠(u479000:Value).ownBlock)) (HO499.out) (fun k_ hk=>⟨⟨hk.1.1.1.1,⟨hk.1.1.1.2.2.1,⟨hk.1.1.1.2.2.2.1,⟨hk.1.1.1.2.2.2.2.1,hk.1.1.1.2.2.2.2.2⟩⟩⟩⟩,hk.1.1.1.2.1⟩)))))
             (case aB=>exact za7)
             (case aF=>exact (fun k_ hk=>⟨(.inr (Nat.le_trans (below_size za7) hk)),Kd.freshB (g:=gb476) (o:=.cells #[.slice (some ad479) l0_0.length c0_0] 24 (0,0)) za43 k_ hk,Kd.freshB (g:=gb477) (o:=.cells #[.slice none 0 0] 24 (0,0)) za44 k_ hk,Kd.freshB (g:=gb478) (o:=.cells #[u479000] 24 (0,0)) za45 k_ hk,Kd.freshB (g:=gb480) (o:=.cells #[.slice A479_0 ((rd_T49 l0_0 x5_1).f0).length c479_0,.slice A479_1 ((rd_T49 l0_0 x5_1).f1).length c479_1,.slice A479_2 ((rd_T49 l0_0 x5_1).f2).length c479_2,.slice A479_3 ((rd_T49 l0_0 x5_1).f3).length c479_3,.slice A479_4 ((rd_T49 l0_0 x5_1).f4).length c479_4] 49 (0,0)) za46 k_ hk⟩))
             (case aO=>exact (by (with_reducible repeat (first|apply Kd.N_alloc|apply Kd.N_drewN|apply Kd.N_drew));exact Kd.N_mono HO_479000.out (fun _ hk=>⟨hk.1.1.1.1,⟨hk.1.1.1.2.1,⟨hk.1.1.1.2.2.1,⟨hk.1.1.1.2.2.2.1,hk.1.1.1.2.2.2.2⟩⟩⟩⟩)))
             (case aS=>exact (below_size za7))
             (case aL=>have:=LMc25.out;omega)
             intro v501 w44 ho hb hg hat
             rw [← Ny500.out] at ho
             have n0_:=Aside0.mk (Kd.V_afterv (ok:=(fun k_=>(P0_0_ k_ ∨ w.heap.size≤k_)∧some k_≠(.slice Ao43 t481.length co43:Value).ownBlock∧some k_≠(.slice Ao42 t484.length co42:Value).ownBlock∧some k_≠(.slice Ao41 t487.length co41:Value).ownBlock∧k_≠gb476∧k_≠gb477∧k_≠gb478∧k_≠gb480)) (by (with_reducible repeat (first|apply Kd.V_alloc|apply Kd.V_drewN|apply Kd.V_drew));exact Kd.V_mono HO_477000.out (fun _ hk=>⟨⟨hk.1.1.1.1,⟨hk.1.1.2,⟨hk.1.2,⟨hk.2,⟨hk.1.1.1.2.2.1,⟨hk.1.1.1.2.2.2.1,⟨hk.1.1.1.2.2.2.2.1,hk.1.1.1.2.2.2.2.2⟩⟩⟩⟩⟩⟩⟩,hk.1.1.1.2.1⟩)) hg hat)
             have n1_:=Aside0.mk (blk_grown (g:=gb476) (o:=.cells #[.slice (some ad479) l0_0.length c0_0] 24 (0,0)) za43 hg (Kd.N_ne HO_479000.out BK476.out (by decide)))
             have n2_:=Aside0.mk (blk_grown (g:=gb477) (o:=.cells #[.slice none 0 0] 24 (0,0)) za44 hg (Kd.N_ne HO_479000.out BK477.out (by decide)))
             have n3_:=Aside0.mk (blk_grown (g:=gb478) (o:=.cells #[u479000] 24 (0,0)) za45 hg (Kd.N_ne HO_479000.out BK478.out (by decide)))
             have n4_:=Aside0.mk (Kd.V_afterv (ok:=(fun k_=>(P0_0_ k_ ∨ w.heap.size≤k_)∧some k_≠(.slice Ao43 t481.length co43:Value).ownBlock∧some k_≠(.slice Ao42 t484.length co42:Value).ownBlock∧some k_≠(.slice Ao41 t487.length co41:Value).ownBlock∧k_≠gb476∧k_≠gb477∧k_≠gb478∧k_≠gb480)) (by (with_reducible repeat (first|apply Kd.V_alloc|apply Kd.V_drewN|apply Kd.V_drew));exact Kd.V_mono HL479_0.out (fun _ hk=>⟨⟨hk.1.1.1.1,⟨hk.1.1.2,⟨hk.1.2,⟨hk.2,⟨hk.1.1.1.2.2.1,⟨hk.1.1.1.2.2.2.1,⟨hk.1.1.1.2.2.2.2.1,hk.1.1.1.2.2.2.2.2⟩⟩⟩⟩⟩⟩⟩,hk.1.1.1.2.1⟩)) hg hat)
             have n5_:=Aside0.mk (Kd.V_afterv (ok:=(fun k_=>(P0_0_ k_ ∨ w.heap.size≤k_)∧some k_≠(.slice Ao43 t481.length co43:Value).ownBlock∧some k_≠(.slice Ao42 t484.length co42:Value).ownBlock∧some k_≠(.slice Ao41 t487.length co41:Value).ownBlock∧k_≠gb476∧k_≠gb477∧k_≠gb478∧k_≠gb480)) (by (with_reducible repeat (first|apply Kd.V_alloc|apply Kd.V_drewN|apply Kd.V_drew));exact Kd.V_mono HL479_1.out (fun _ hk=>⟨⟨hk.1.1.1.1,⟨hk.1.1.2,⟨hk.1.2,⟨hk.2,⟨hk.1.1.1.2.2.1,⟨hk.1.1.1.2.2.2.1,⟨hk.1.1.1.2.2.2.2.1,hk.1.1.1.2.2.2.2.2⟩⟩⟩⟩⟩⟩⟩,hk.1.1.1.2.1⟩)) hg hat)
             have n6_:=Aside0.mk (Kd.V_afterv (ok:=(fun k_=>(P0_0_ k_ ∨ w.heap.size≤k_)∧some k_≠(.slice Ao43 t481.length co43:Value).ownBlock∧some k_≠(.slice Ao42 t484.length co42:Value).ownBlock∧some k_≠(.slice Ao41 t487.length co41:Value).ownBlock∧k_≠gb476∧k_≠gb477∧k_≠gb478∧k_≠gb480)) (by (with_reducible repeat (first|apply Kd.V_alloc|apply Kd.V_drewN|apply Kd.V_drew));exact Kd.V_mono HL479_2.out (fun _ hk=>⟨⟨hk.1.1.1.1,⟨hk.1.1.2,⟨hk.1.2,⟨hk.2,⟨hk.1.1.1.2.2.1,⟨hk.1.1.1.2.2.2.1,⟨hk.1.1.1.2.2.2.2.1,hk.1.1.1.2.2.2.2.2⟩⟩⟩⟩⟩⟩⟩,hk.1.1.1.2.1⟩)) hg hat)
             have n7_:=Aside0.mk (Kd.V_afterv (ok:=(fun k_=>(P0_0_ k_ ∨ w.heap.size≤k_)∧some k_≠(.slice Ao43 t481.length co43:Value).ownBlock∧some k_≠(.slice Ao42 t484.length co42:Value).ownBlock∧some k_≠(.slice Ao41 t487.length co41:Value).ownBlock∧k_≠gb476∧k_≠gb477∧k_≠gb478∧k_≠gb480)) (by (with_reducible repeat (first|apply Kd.V_alloc|apply Kd.V_drewN|apply Kd.V_drew));exact Kd.V_mono HL479_3.out (fun _ hk=>⟨⟨hk.1.1.1.1,⟨hk.1.1.2,⟨hk.1.2,⟨hk.2,⟨hk.1.1.1.2.2.1,⟨hk.1.1.1.2.2.2.1,⟨hk.1.1.1.2.2.2.2.1,hk.1.1.1.2.2.2.2.2⟩⟩⟩⟩⟩⟩⟩,hk.1.1.1.2.1⟩)) hg hat)
             have n8_:=Aside0.mk (Kd.V_afterv (ok:=(fun k_=>(P0_0_ k_ ∨ w.heap.size≤k_)∧some k_≠(.slice Ao43 t481.length co43:Value).ownBlock∧some k_≠(.slice Ao42 t484.length co42:Value).ownBlock∧some k_≠(.slice Ao41 t487.length co41:Value).ownBlock∧k_≠gb476∧k_≠gb477∧k_≠gb478∧k_≠gb480)) (by (with_reducible repeat (first|apply Kd.V_alloc|apply Kd.V_drewN|apply Kd.V_drew));exact Kd.V_mono HL479_4.out (fun _ hk=>⟨⟨hk.1.1.1.1,⟨hk.1.1.2,⟨hk.1.2,⟨hk.2,⟨hk.1.1.1.2.2.1,⟨hk.1.1.1.2.2.2.1,⟨hk.1.1.1.2.2.2.2.1,hk.1.1.1.2.2.2.2.2⟩⟩⟩⟩⟩⟩⟩,hk.1.1.1.2.1⟩)) hg hat)
             have n9_:=Aside0.mk (blk_grown (g:=gb480) (o:=.cells #[.slice A479_0 ((rd_T49 l0_0 x5_1).f0).length c479_0,.slice A479_1 ((rd_T49 l0_0 x5_1).f1).length c479_1,.slice A479_2 ((rd_T49 l0_0 x5_1).f2).length c479_2,.slice A479_3 ((rd_T49 l0_0 x5_1).f3).length c479_3,.slice A479_4 ((rd_T49 l0_0 x5_1).f4).length c479_4] 49 (0,0)) za46 hg (Kd.N_away HO_479000.out (fun _ hk=>hk.1.1.1.2.2.2.2)))
             have n10_:=Aside0.mk (Kd.V_afterv (ok:=(fun k_=>(P0_0_ k_ ∨ w.heap.size≤k_)∧some k_≠(.slice Ao43 t481.length co43:Value).ownBlock∧some k_≠(.slice Ao42 t484.length co42:Value).ownBlock∧some k_≠(.slice Ao41 t487.length co41:Value).ownBlock∧k_≠gb476∧k_≠gb477∧k_≠gb478∧k_≠gb480)) (by (with_reducible repeat (first|apply Kd.V_alloc|apply Kd.V_drewN|apply Kd.V_drew));exact Kd.V_mono HO494.out (fun _ hk=>⟨⟨hk.1.1.1.1,⟨hk.1.1.2,⟨hk.1.2,⟨hk.2,⟨hk.1.1.1.2.2.1,⟨hk.1.1.1.2.2.2.1,⟨hk.1.1.1.2.2.2.2.1,hk.1.1.1.2.2.2.2.2⟩⟩⟩⟩⟩⟩⟩,hk.1.1.1.2.1⟩)) hg hat)
             have n11_:=Aside0.mk (Kd.V_afterv (ok:=(fun k_=>(P0_0_ k_ ∨ w.heap.size≤k_)∧some k_≠(.slice Ao43 t481.length co43:Value).ownBlock∧some k_≠(.slice Ao42 t484.length co42:Value).ownBlock∧some k_≠(.slice Ao41 t487.length co41:Value).ownBlock∧k_≠gb476∧k_≠gb477∧k_≠gb478∧k_≠gb480)) (by (with_reducible repeat (first|apply Kd.V_alloc|apply Kd.V_drewN|apply Kd.V_drew));exact Kd.V_mono HO499.out (fun _ hk=>⟨⟨hk.1.1.1.1,⟨hk.1.1.2,⟨hk.1.2,⟨hk.2,⟨hk.1.1.1.2.2.1,⟨hk.1.1.1.2.2.2.1,⟨hk.1.1.1.2.2.2.2.1,hk.1.1.1.2.2.2.2.2⟩⟩⟩⟩⟩⟩⟩,hk.1.1.1.2.1⟩)) hg hat)
             have n12_:=Aside0.mk (hb)
             have n13_:=Aside0.mk (ho)
             clear HO_477000
             clear BK476
             clear BK477
             clear BK478
             clear HL479_0
             clear HL479_1
             clear HL479_2
             clear HL479_3
             clear HL479_4
             clear BK480
             clear HO494
             clear HO499
             clear HB
             clear HO_479000
             clear HO483
             clear HO486
             clear HO489
             have HO_477000:=n0_
             have BK476:=n1_
             have BK477:=n2_
             have BK478:=n3_
             have HL479_0:=n4_
             have HL479_1:=n5_
             have HL479_2:=n6_
             have HL479_3:=n7_
             have HL479_4:=n8_
             have BK480:=n9_
             have HO494:=n10_
             have HO499:=n11_
             have HB:=n12_
             have HO502:=n13_
             clear n0_ n1_ n2_ n3_ n4_ n5_ n6_ n7_ n8_ n9_ n10_ n11_ n12_ n13_
             clear ho hb hg hat
             obtain ⟨Ao45,co45,eo45⟩:=Kd.N_slice HO502.out
             (first|subst eo45|(injection eo45 with f1_ f2_ f3_;have f4_:=f1_.symm;have f5_:=f3_.symm;clear f1_ f2_ f3_;subst f4_;subst f5_))
             refine hK.out _ _ ⟨(blk_cell BK478.out 0).trans rfl,(blk_cell BK480.out 0).trans rfl,(blk_cell BK480.out 1).trans rfl,(blk_cell BK480.out 2).trans rfl,(blk_cell BK480.out 3).trans rfl,(blk_cell BK480.out 4).trans rfl⟩ (fun hHeld=>?_)
             clear hK K
             refine norm_ (a':=?_) ?_ ?_
             rotate_left
             ·
              show Act.put _ (some 53) _=_
              simp only [Act.put,List.setIfInBounds_toArray,List.set_cons_zero,List.set_cons_succ,i64_w,i32_w]
              rfl
             refine pure_ (i:=31) (N:=some 54) (v:=?_) (a':=?_) #[true,true,true,true,true,true,true,true,true,true,true,true,true,true,true,true,true,true,true,true,true,true,true,true,true,true,true,true,true,true,true,true,false] rfl rfl (any_of HT_.out (by kernel_rfl)) (fun _ _ _ h=>h) (Or.inl ⟨by rfl,?_⟩) ?_ ?_
             rotate_left
             ·
              intro w'
              go_simp
              with_reducible rfl
             rotate_left
             ·
              simp only [Act.put,List.setIfInBounds_toArray,List.set_cons_zero,List.set_cons_succ,i64_w,i32_w]
              rfl
             refine last_ (i:=32) (N:=none) #[true,true,true,true,true,true,true,true,true,true,true,true,true,true,true,true,true,true,true,true,true,true,true,true,true,true,true,true,true,true,true,true,true] rfl rfl (one_of HT_.out (by kernel_rfl)) (by decide) (fun K hK=>?_)
             have hs46:w44.cell? ⟨gb478,0,none⟩=some (u479000):=(blk_cell BK478.out 0).trans rfl
             have hfs46:=blk_frozen BK478.out 0
             have hns46_0:=NB476_478.out
             have hns46_1:=NB477_478.out
             have hns46_3:=NB480_478.out
             have hms46_0:=NB478_476.out
             have hms46_1:=NB478_477.out
             have hms46_3:=NB478_480.out
             refine skip_ (w1:=?_) (by rfl) rfl ?_ ?_
             rotate_left
             ·
              go_simp
              rfl
             refine hK.out _ _ ?_
             clear hK K
             refine done_ (done_of HT_.out (by kernel_rfl)) ?_
             try go_wp2
             go_roundg kj4
             case measure=>have:=HK1.out;have:=HJ4.out;omega
             case rel=>exact ⟨(wrap64 (x5_1 + 1)),(y500),(.slice Ao45 y500.length co45),za82,H',⟨by have:=HK1.out;have:=HJ4.out;omega⟩,⟨by (with_reducible repeat (first|apply Kd.V_alloc|apply Kd.V_drewN|apply Kd.V_drew));exact Kd.V_mono (Kd.V_far (p:=⟨gb478,0,none⟩) (Kd.V_mono HO_477000.out (fun k_ hk=>(⟨hk,hk.1.2.2.2.2.2.2.1⟩:_∧k_≠gb478))) (fun _ hk=>hk.2) (.slice Ao45 y500.length co45)) (fun _ hk=>⟨hk.1.1.1,⟨hk.1.2,⟨hk.1.1.2.2.2.2.1,⟨hk.1.1.2.2.2.2.2.1,hk.1.1.2.2.2.2.2.2.1⟩⟩⟩⟩)⟩,⟨by (with_reducible repeat (first|apply Kd.N_alloc|apply Kd.N_drewN|apply Kd.N_drew));exact Kd.N_mono (Kd.N_far (p:=⟨gb478,0,none⟩) (Kd.N_mono HO502.out (fun k_ hk=>(⟨hk,hk.2.2.2.1⟩:_∧k_≠gb478))) (fun _ hk=>hk.2) (.slice Ao45 y500.length co45)) (fun _ hk=>⟨hk.1.1,⟨hk.1.2.1,⟨hk.1.2.2.1,hk.1.2.2.2.1⟩⟩⟩)⟩,⟨by (with_reducible repeat (first|refine blk_drewN ?_ _|refine blk_drew ?_|refine blk_alloc ?_ _));refine blk_far ?_ NB476_478.out _;(with_reducible repeat (first|refine blk_drewN ?_ _|refine blk_drew ?_|refine blk_alloc ?_ _));exact BK476.out⟩,⟨by (with_reducible repeat (first|refine blk_drewN ?_ _|refine blk_drew ?_|refine blk_alloc ?_ _));refine blk_far ?_ NB477_478.out _;(with_reducible repeat (first|refine blk_drewN ?_ _|refine blk_drew ?_|refine blk_alloc ?_ _));exact BK477.out⟩,⟨by (with_reducible repeat (first|refine blk_drewN ?_ _|refine blk_drew ?_|refine blk_alloc ?_ _));refine blk_put (cs:=#[u479000]) ?_ 0 _ rfl;(with_reducible repeat (first|refine blk_drewN ?_ _|refine blk_drew ?_|refine blk_alloc ?_ _));exact BK478.out⟩,⟨by repeat (first|(with_reducible first|exact HB.out|apply below_alloc|apply pw_below_drewN|apply below_drew1|refine below_set ?_ GE476.out|refine below_set ?_ GE477.out|refine below_set ?_ GE478.out|refine below_set ?_ GE480.out)|exact HB.out)⟩⟩
            ·
             rw [if_neg c25] at H
             exact absurd H (by simp)
           ·
            rw [if_neg c24] at H
            exact absurd H (by simp)
          ·
           rw [if_neg c23] at H
           exact absurd H (by simp)
         ·
          rw [if_neg c21] at H
          exact absurd H (by simp)
        ·
         rw [if_neg c20] at H
         exact absurd H (by simp)
       ·
        rw [if_neg c15] at H
        exact absurd H (by simp)
      ·
       rw [if_neg c14] at H
       exact absurd H (by simp)
     ·
      replace c13:=Bool.eq_false_iff.mpr c13
      subst c13
      have H1:(some x479000_1)=some r:=by rw [if_neg (show ¬ (false=true) by decide)] at H;exact H
      clear H
      have H:=H1
      clear H1
      obtain rfl:=Option.some.inj H
      have hnb47:=NB478_476.out
      have hnc47:=NB476_478.out
      have hnb48:=NB478_477.out
      have hnc48:=NB477_478.out
      have hcz49_0:wc.cell? ⟨gb478,0,none⟩=some (u479000):=(blk_cell BK478.out 0).trans rfl
      have hfz49_0:=blk_frozen BK478.out 0
      obtain ⟨Ao50,co50,eo50⟩:=Kd.N_slice HO_479000.out
      subst eo50
      have hnb51:=NB477_476.out
      have hnc51:=NB476_477.out
      have hcz52_0:wc.cell? ⟨gb477,0,none⟩=some (.slice none 0 0):=(blk_cell BK477.out 0).trans rfl
      have hfz52_0:=blk_frozen BK477.out 0
      go_wp2
      refine bodyPost_ret (results_cell_row rfl _ _ gb477 24 #[.slice Ao50 x479000_1.length co50] (0,0) _ rfl (by (with_reducible repeat (first|refine blk_drewN ?_ _|refine blk_drew ?_|refine blk_alloc ?_ _));refine blk_put (cs:=#[.slice none 0 0]) ?_ 0 _ rfl;(with_reducible repeat (first|refine blk_drewN ?_ _|refine blk_drew ?_|refine blk_alloc ?_ _));exact BK477.out) Try.underlying24 rfl (by kernel_rfl)) rfl ?_
      exact ⟨_,by first|rfl|(simp [errW_none,errW_some] <;> rfl)|(simp [*,errW_none,errW_some] <;> rfl),by (with_reducible repeat (first|apply Kd.N_alloc|apply Kd.N_drewN|apply Kd.N_drew));exact Kd.N_mono (Kd.N_far (p:=⟨gb477,0,none⟩) (Kd.N_mono HO_479000.out (fun k_ hk=>(⟨hk,hk.2.2.1⟩:_∧k_≠gb477))) (fun _ hk=>hk.2) (.slice Ao50 x479000_1.length co50)) (fun _ hk=>hk.1.1),by repeat (first|(with_reducible first|exact HB.out|apply below_alloc|apply pw_below_drewN|apply below_drew1|refine below_set ?_ GE476.out|refine below_set ?_ GE477.out|refine below_set ?_ GE478.out)|exact HB.out)⟩
end Go.Proofs.Ytlgkeaildncojaa.Q
end
section
namespace Go.Proofs.Ytlgkeaildncojaa.Q
open Go.RowKit Go.Shelf Go.Proofs.YtlgkeaildncojaaW.PrintWords Go.Proofs.YtlgkeaildncojaaW.PrintLast Go.Proofs.YtlgkeaildncojaaW.PrintMore
set_option linter.unusedSimpArgs false
set_option linter.unusedVariables false
def cutS (f:List (List Int)):List (List Int):=(f.take 5).map (fun s=>s.take 5)
def cutR (r:S49):S49:=⟨cutS r.f0,cutS r.f1,cutS r.f2,r.f3.take 5,r.f4.take 4⟩
def cutL (l:List S49):List S49:=(l.take 9).map cutR
theorem mn_nat (n:Nat) (m:Int) (hm:0≤m):0≤mn (n:Int) m∧mn (n:Int) m≤(n:Int)∧mn (n:Int) m≤m∧(mn (n:Int) m=(n:Int) ∨ mn (n:Int) m=m):=by
 unfold mn
 split <;> omega
theorem take_mn {α:Type} (l:List α) (m:Nat):l.take (mn (l.length:Int) (m:Int)).toNat=l.take m:=by
 obtain ⟨h1,h2,h3,h4|h4⟩:=mn_nat l.length (m:Int) (by omega)
 ·
  rw [h4,Int.toNat_natCast,List.take_of_length_le (Nat.le_refl _),List.take_of_length_le (by omega)]
 ·
  rw [h4,Int.toNat_natCast]
theorem cut1_l0 (l:List (List Int)) (hl:l.length≤9223372036854775807):∀ (d i:Nat) (out:List (List Int)),i + d=min l.length 5→out.length≤i→Ev (fun k=>abugidalaw16_cut_1.l0 k l out (i:Int)) (out++((l.take 5).drop i).map (fun s=>s.take 5)):=by
 intro d
 induction d with
 | zero =>
  intro i out hi ho
  rw [List.drop_of_length_le (by rw [List.length_take];omega),List.map_nil,List.append_nil]
  by_cases h:(i:Int)<(l.length:Int)
  ·
   refine Ev.step (fun k=>by rw [abugidalaw16_cut_1.l0,if_pos h,if_neg (by omega)]) ?_
   exact Ev.now _
  ·
   refine Ev.step (fun k=>by rw [abugidalaw16_cut_1.l0,if_neg h]) ?_
   exact Ev.now _
 | succ d ih =>
  intro i out hi ho
  have h:(i:Int)<(l.length:Int):=by omega
  have hw:wrap64 ((i:Int) + 1)=((i + 1:Nat):Int):=by rw [wr64 _ (by omega) (by omega)];omega
  have hm:=mn_nat (l.getD i []).length 5 (by decide)
  have hdr:(l.take 5).drop i=l.getD i [] :: (l.take 5).drop (i + 1):=by
   rw [List.drop_eq_getElem_cons (by rw [List.length_take];omega),List.getElem_take,List.getD_eq_getElem?_getD,List.getElem?_eq_getElem (by omega)]
   rfl
  rw [hdr,List.map_cons]
  have:=ih (i + 1) (out++[(l.getD i []).take 5]) (by omega) (by rw [List.length_append,List.length_singleton];omega)
  rw [List.append_assoc,List.singleton_append] at this
  refine Ev.step (fun k=>by rw [abugidalaw16_cut_1.l0,if_pos h,if_pos (by omega),if_pos (by omega),rdL1,if_pos hm.1,if_pos hm.2.1,if_pos (by omega),show (l.getD i []).take (mn ((l.getD i []).length:Int) 5).toNat=(l.getD i []).take 5 from take_mn _ 5,hw]) this
theorem cut1_ev (l:List (List Int)) (hl:l.length≤9223372036854775807):Ev (fun k=>abugidalaw16_cut_1.f k l) (cutS l):=by
 have:=cut1_l0 l hl (min l.length 5) 0 [] (Nat.zero_add _) (Nat.le_refl _)
 rw [List.nil_append,List.drop_zero] at this
 exact this
theorem cut_l0 (l:List S49) (hl:l.length≤9223372036854775807) (hb:∀ r∈l,r.f0.length≤9223372036854775807∧r.f1.length≤9223372036854775807∧r.f2.length≤9223372036854775807):∀ (d i:Nat) (out:List S49),i + d=min l.length 9→out.length≤i→Ev (fun k=>abugidalaw16_cut.l0 k (i:Int) l out) (out++((l.take 9).drop i).map cutR):=by
 intro d
 induction d with
 | zero =>
  intro i out hi ho
  rw [List.drop_of_length_le (by rw [List.length_take];omega),List.map_nil,List.append_nil]
  have stop:Ev (fun k=>abugidalaw16_cut.j1 k (i:Int) false l out) out:=by
   refine Ev.step (fun k=>by rw [abugidalaw16_cut.j1,if_neg (by decide)]) ?_
   exact Ev.now _
  by_cases h:(i:Int)<(l.length:Int)
  ·
   exact Ev.step (fun k=>by rw [abugidalaw16_cut.l0,if_pos h,show decide ((i:Int)<9)=false from decide_eq_false (by omega)]) stop
  ·
   exact Ev.step (fun k=>by rw [abugidalaw16_cut.l0,if_neg h]) stop
 | succ d ih =>
  intro i out hi ho
  have h:(i:Int)<(l.length:Int):=by omega
  have hw:wrap64 ((i:Int) + 1)=((i + 1:Nat):Int):=by rw [wr64 _ (by omega) (by omega)];omega
  have hdr:(l.take 9).drop i=l.getD i z49 :: (l.take 9).drop (i + 1):=by
   rw [List.drop_eq_getElem_cons (by rw [List.length_take];omega),List.getElem_take,List.getD_eq_getElem?_getD,List.getElem?_eq_getElem (by omega)]
   rfl
  have hrd:rd_T49 l (i:Int)=l.getD i z49:=by unfold rd_T49;rw [Int.toNat_natCast]
  have hbr:=hb _ (getD_mem' l i z49 (by omega))
  rw [hdr,List.map_cons]
  generalize l.getD i z49=r at *
  have:=ih (i + 1) (out++[cutR r]) (by omega) (by rw [List.length_append,List.length_singleton];omega)
  rw [List.append_assoc,List.singleton_append] at this
  have m3:=mn_nat r.f3.length 5 (by decide)
  have m4:=mn_nat r.f4.length 4 (by decide)
  have ho2:out.length<1172812402961:=by omega
  refine Ev.step (fun k=>by rw [abugidalaw16_cut.l0,if_pos h,show decide ((i:Int)<9)=true from decide_eq_true (by omega)]) ?_
  refine Ev.step (fun k=>by rw [abugidalaw16_cut.j1,if_pos rfl,if_pos (by omega),if_pos h,hrd]) ?_
  refine Ev.bind (g:=fun k=>abugidalaw16_cut_1.f k r.f0) (cut1_ev _ hbr.1) ?_
  refine Ev.bind (g:=fun k=>abugidalaw16_cut_1.f k r.f1) (cut1_ev _ hbr.2.1) ?_
  refine Ev.bind (g:=fun k=>abugidalaw16_cut_1.f k r.f2) (cut1_ev _ hbr.2.2) ?_
  refine Ev.congr (fun k=>by rw [if_pos m3.1,if_pos m3.2.1,if_pos m4.1,if_pos m4.2.1,if_pos ho2,hw,show r.f3.take (mn (r.f3.length:Int) 5).toNat=r.f3.take 5 from take_mn _ 5,show r.f4.take (mn (r.f4.length:Int) 4).toNat=r.f4.take 4 from take_mn _ 4];rfl) this
theorem cut_ev (l:List S49) (hl:l.length≤9223372036854775807) (hb:∀ r∈l,r.f0.length≤9223372036854775807∧r.f1.length≤9223372036854775807∧r.f2.length≤9223372036854775807):Ev (fun k=>abugidalaw16_cut.f k l) (cutL l):=by
 have:=cut_l0 l hl hb (min l.length 9) 0 [] (Nat.zero_add _) (Nat.le_refl _)
 rw [List.nil_append,List.drop_zero] at this
 exact this
theorem k49_lens {w:World} {A:Option Addr} {l:List S49} (h:k49.C w A l.length l):∀ r∈l,r.f0.length≤9223372036854775807∧r.f1.length≤9223372036854775807∧r.f2.length≤9223372036854775807:=by
 intro r hr
 obtain ⟨i,hi,rfl⟩:=List.getElem_of_mem hr
 obtain ⟨ad,A0,c0,A1,c1,A2,c2,A3,c3,A4,c4,-,-,-,-,-,-,-,g0,-,g1,-,g2,-⟩:=at_T49 h (i:Int) (by omega) (by omega)
 have e:rd_T49 l (i:Int)=l[i]:=by unfold rd_T49;rw [Int.toNat_natCast,List.getD_eq_getElem?_getD,List.getElem?_eq_getElem hi];rfl
 rw [e] at g0 g1 g2
 exact ⟨Kd.C_max g0,Kd.C_max g1,Kd.C_max g2⟩
/-- Elements in their range. -/
def In64 (l:List S49):Prop:=∀ r∈l,(∀ s∈r.f0,∀ x∈s,-9223372036854775808≤x∧x≤9223372036854775807)∧(∀ s∈r.f1,∀ x∈s,-9223372036854775808≤x∧x≤9223372036854775807)∧(∀ s∈r.f2,∀ x∈s,-9223372036854775808≤x∧x≤9223372036854775807)
theorem cutS_in {f:List (List Int)} (h:∀ s∈f,∀ x∈s,-9223372036854775808≤x∧x≤9223372036854775807):∀ s∈cutS f,I64s 9 s:=by
 intro s hs
 obtain ⟨t,ht,rfl⟩:=List.mem_map.mp hs
 exact ⟨by rw [List.length_take];omega,fun x hx=>h t (List.mem_of_mem_take ht) x (List.mem_of_mem_take hx)⟩
theorem cutL_bd {l:List S49} (h:In64 l):BdL 9 (cutL l):=by
 refine ⟨by unfold cutL;rw [List.length_map,List.length_take];omega,fun r hr=>?_⟩
 obtain ⟨q,hq,rfl⟩:=List.mem_map.mp hr
 obtain ⟨h0,h1,h2⟩:=h q (List.mem_of_mem_take hq)
 refine ⟨?_,?_,?_,?_,?_,cutS_in h0,cutS_in h1,cutS_in h2⟩ <;> (unfold cutR cutS;dsimp only;(try rw [List.length_map]);rw [List.length_take];omega)
theorem cut_plain (A:Option Addr) (c:Nat) (l:List S49) (w:World) (hr:k49.C w A l.length l) (hc:l.length≤c) (hi:In64 l) :
  Calls Try.prog 14 #[.agg #[.slice A l.length c]] w fun e w'=>∃ A' c' l',e=.returned (.agg #[.slice A' l'.length c'])∧k49.C w' A' l'.length l'∧l'.length≤c'∧BdL 9 l'∧Below w.heap.size w w':=by
 obtain ⟨k,hk⟩:=Ev.rounds (cut_ev l (Kd.C_max hr) (k49_lens hr))
 refine (abugidalaw16_cut.calls k (fun k=>k<w.heap.size) A c l (cutL l) w (Kd.V_mk hc (Kd.C_F k49_heap hr)) hk).mono ?_
 rintro e w' ⟨v,rfl,hN,hb⟩
 obtain ⟨A',c',rfl,h1,h2⟩:=Kd.N_reads hN
 exact ⟨A',c',cutL l,rfl,h2,h1,cutL_bd hi,hb⟩
end Go.Proofs.Ytlgkeaildncojaa.Q
end
section
namespace Go.Proofs.Ytlgkeaildncojaa.Q
open Go.RowKit Go.Proofs.YtlgkeaildncojaaW.PrintWords Go.Proofs.YtlgkeaildncojaaW.PrintLast Go.Proofs.YtlgkeaildncojaaW.PrintMore
attribute [local go_sem] max2_int min2_int max_two min_two max_three min_three max_four min_four   -- for this text's walks alone
set_option linter.unusedVariables false
set_option linter.unusedSimpArgs false
end Go.Proofs.Ytlgkeaildncojaa.Q
end
section
namespace Go.Proofs.Ytlgkeaildncojaa.Q
open Go.RowKit Go.Proofs.YtlgkeaildncojaaW.PrintWords Go.Proofs.YtlgkeaildncojaaW.PrintLast Go.Proofs.YtlgkeaildncojaaW.PrintMore
attribute [local go_sem] max2_int min2_int max_two min_two max_three min_three max_four min_four   -- for this text's walks alone
set_option linter.unusedVariables false
set_option linter.unusedSimpArgs false
end Go.Proofs.Ytlgkeaildncojaa.Q
end
section
namespace Go.Proofs.Ytlgkeaildncojaa.Q
open Go.RowKit Go.Proofs.YtlgkeaildncojaaW.PrintWords Go.Proofs.YtlgkeaildncojaaW.PrintLast Go.Proofs.YtlgkeaildncojaaW.PrintMore
attribute [local go_sem] max2_int min2_int max_two min_two max_three min_three max_four min_four   -- for this text's walks alone
set_option linter.unusedVariables false
set_option linter.unusedSimpArgs false
def abugidaref16_has.l0:Nat→List Int→Int→Int→Option (Bool)
 | 0,_,_,_=>none
 | k + 1,x0,x1,x5=>if x5<(x0.length:Int) then (if 0≤x5 then (if (rd x0 x5)=x1 then (some true) else (abugidaref16_has.l0 k x0 x1 (wrap64 (x5 + 1)))) else (none)) else (some false)
def abugidaref16_has.f (k:Nat) (l0:List Int) (a1:Int):Option (Bool):=abugidaref16_has.l0 k l0 a1 0
theorem abugidaref16_has.mono_l:∀ k,(∀ y0 y1 y2,LeO (abugidaref16_has.l0 k y0 y1 y2) (abugidaref16_has.l0 (k + 1) y0 y1 y2))
 | 0=>fun _ _ _ r h=>by simp [abugidaref16_has.l0] at h
 | k + 1=>by
  have ih0:=abugidaref16_has.mono_l k
  ·
   intro y0 y1 y2
   unfold abugidaref16_has.l0
   repeat' first
   | (with_reducible exact ih0 _ _ _)
   | (with_reducible exact LeO.refl _)
   | (with_reducible exact LeO.none _)
   | (with_reducible refine LeO.ite ?_ ?_)
   | (with_reducible refine LeO.bind ?_ (fun _=>?_))
   | exact ih0 _ _ _
   | exact LeO.none _
   | refine LeO.ite ?_ ?_
   | refine LeO.bind ?_ (fun _=>?_)
theorem abugidaref16_has.mono:∀ a0 a1 k,LeO (abugidaref16_has.f k a0 a1) (abugidaref16_has.f (k + 1) a0 a1):=by
 intro a0 a1 k
 have ih0:=abugidaref16_has.mono_l k
 unfold abugidaref16_has.f
 repeat' first
   | (with_reducible exact ih0 _ _ _)
   | (with_reducible exact LeO.refl _)
   | (with_reducible exact LeO.none _)
   | (with_reducible refine LeO.ite ?_ ?_)
   | (with_reducible refine LeO.bind ?_ (fun _=>?_))
   | exact ih0 _ _ _
   | exact LeO.none _
   | refine LeO.ite ?_ ?_
   | refine LeO.bind ?_ (fun _=>?_)
set_option maxHeartbeats 8000000 in
set_option maxRecDepth 100000 in
theorem abugidaref16_has.calls (k:Nat) (A0:Option Addr) (c0:Nat) (l0:List Int) (a1:Int) (r:Bool) (w:World) (hr0:Kd.C (Kd.int .i64) w A0 l0.length l0) (hc0:l0.length≤c0) (h:abugidaref16_has.f k l0 a1=some r) :
  Calls Try.prog 38 #[.slice A0 l0.length c0,.int .i64 a1] w fun e w'=>e=.returned (.bool r)∧Drawn0 w w':=by
 have HR0:=Aside0.mk hr0
 have HC0:=Aside0.mk hc0
 clear hr0 hc0
 have H:(abugidaref16_has.l0 k l0 a1 0)=some r:=h
 clear h
 have H':=Aside0.mk H
 clear H
 go_enter Try.func38,Try.ntmps38
 go_wp2
 go_loopg [5] k (fun kq v5 w'=>∃ (x5_1:Int),v5=.int .i64 x5_1∧Aside0 (abugidaref16_has.l0 kq l0 a1 x5_1=some r)∧Aside0 (kq≤k)∧Drawn0 w w')
 case atStart=>exact ⟨(0),za82,H',⟨Nat.le_refl _⟩,by repeat (first|exact Drawn0.refl _|apply Drawn0.step)⟩
 case round =>
  clear H'
  try clear p2
  obtain ⟨x5_1,rfl,HA,HK1,⟨m1,rfl⟩⟩:=hrel
  cases gk with
  | zero=>exact absurd HA.out (by simp [abugidaref16_has.l0])
  | succ k1 =>
   have H:=HA.out
   clear HA
   simp only [abugidaref16_has.l0] at H
   by_cases c3:x5_1<(l0.length:Int)
   ·
    rw [if_pos c3] at H
    have c3b0:decide (x5_1<(l0.length:Int))=true:=decide_eq_true c3
    clear c3
    by_cases c4:0≤x5_1
    ·
     rw [if_pos c4] at H
     have c4b0:decide (0≤x5_1)=true:=decide_eq_true c4
     clear c4
     by_cases c5:(rd l0 x5_1)=a1
     ·
      rw [if_pos c5] at H
      have c5b0:((rd l0 x5_1) == a1)=true:=beq_iff_eq.mpr c5
      have c5b1:((rd l0 x5_1) != a1)=false:=bne_eq_false_iff_eq.mpr c5
      clear c5
      obtain rfl:=Option.some.inj H
      have p543:0≤(x5_1:Int):=of_decide_eq_true za79
      have q543:x5_1<(l0.length:Int):=of_decide_eq_true za79
      obtain ⟨ad543,e543,hx543_0⟩:=Kd.at_int HR0.out x5_1 p543 q543
      cases e543
      replace p543:=eq_true p543
      replace q543:=eq_true q543
      go_wp2
      go_ret
      exact ⟨by first|rfl|(simp;done)|(simp [*];done),by repeat (first|exact Drawn0.refl _|apply Drawn0.step)⟩
     ·
      rw [if_neg c5] at H
      have c5b0:((rd l0 x5_1) == a1)=false:=beq_eq_false_iff_ne.mpr c5
      have c5b1:((rd l0 x5_1) != a1)=true:=bne_iff_ne.mpr c5
      have H':=Aside0.mk H
      clear H
      have p543:0≤(x5_1:Int):=of_decide_eq_true za79
      have q543:x5_1<(l0.length:Int):=of_decide_eq_true za79
      obtain ⟨ad543,e543,hx543_0⟩:=Kd.at_int HR0.out x5_1 p543 q543
      cases e543
      replace p543:=eq_true p543
      replace q543:=eq_true q543
      go_wp2
      go_roundg k1
      case measure=>have:=HK1.out;omega
      case rel=>exact ⟨(wrap64 (x5_1 + 1)),za82,H',⟨by have:=HK1.out;omega⟩,by repeat (first|exact Drawn0.refl _|apply Drawn0.step)⟩
    ·
     rw [if_neg c4] at H
     exact absurd H (by simp)
   ·
    rw [if_neg c3] at H
    have c3b0:decide (x5_1<(l0.length:Int))=false:=decide_eq_false c3
    clear c3
    obtain rfl:=Option.some.inj H
    go_wp2
    go_ret
    exact ⟨by first|rfl|(simp;done)|(simp [*];done),by repeat (first|exact Drawn0.refl _|apply Drawn0.step)⟩
end Go.Proofs.Ytlgkeaildncojaa.Q
end
