/- Texts of this claim, merged by wip/tools/pack.py: Qx15, Qx16, Ct. -/
import Derived.Test.YtlgkeaildncojaaZ27
section
namespace Go.Proofs.Ytlgkeaildncojaa.Q
open Go.RowKit Go.Proofs.YtlgkeaildncojaaW.PrintWords Go.Proofs.YtlgkeaildncojaaW.PrintLast Go.Proofs.YtlgkeaildncojaaW.PrintMore
attribute [local go_sem] max2_int min2_int max_two min_two max_three min_three max_four min_four   -- for this text's walks alone
set_option linter.unusedVariables false
set_option linter.unusedSimpArgs false
def abugidalaw16_cut_1.l0:Nat→List (List Int)→List (List Int)→Int→Option ((List (List Int)))
 | 0,_,_,_=>none
 | k+1,x0,x3,x4=>if x4<(x0.length:Int) then (if x4<5 then (if 0≤x4 then (if 0≤(mn ((rd_L1 x0 x4).length:Int) 5) then (if (mn ((rd_L1 x0 x4).length:Int) 5)≤((rd_L1 x0 x4).length:Int) then (if x3.length<5864062014805 then (abugidalaw16_cut_1.l0 k x0 (x3++[((rd_L1 x0 x4).take ((mn ((rd_L1 x0 x4).length:Int) 5):Int).toNat)]) (wrap64 (x4+1))) else (none)) else (none)) else (none)) else (none)) else (some x3)) else (some x3)
def abugidalaw16_cut_1.f (k:Nat) (l0:List (List Int)):Option ((List (List Int))):=abugidalaw16_cut_1.l0 k l0 ([]:List (List Int)) 0
theorem abugidalaw16_cut_1.mono_l:∀ k,(∀ y0 y1 y2,LeO (abugidalaw16_cut_1.l0 k y0 y1 y2) (abugidalaw16_cut_1.l0 (k+1) y0 y1 y2))
 | 0=>fun _ _ _ r h=>by simp [abugidalaw16_cut_1.l0] at h
 | k+1=>by
  have ih0:=abugidalaw16_cut_1.mono_l k
  ·
   intro y0 y1 y2
   unfold abugidalaw16_cut_1.l0
   repeat' first
   | (with_reducible exact ih0 _ _ _)
   | (with_reducible exact LeO.refl _)
   | (with_reducible exact LeO.none _)
   | (with_reducible refine LeO.ite ?_ ?_)
   | (with_reducible refine LeO.bind ?_ (fun _=>?_))
   | exact ih0 _ _ _
   | exact LeO.none _
   | refine LeO.ite ?_ ?_
   | refine LeO.bind ?_ (fun _=>?_)
theorem abugidalaw16_cut_1.mono:∀ a0 k,LeO (abugidalaw16_cut_1.f k a0) (abugidalaw16_cut_1.f (k+1) a0):=by
 intro a0 k
 have ih0:=abugidalaw16_cut_1.mono_l k
 unfold abugidalaw16_cut_1.f
 repeat' first
   | (with_reducible exact ih0 _ _ _)
   | (with_reducible exact LeO.refl _)
   | (with_reducible exact LeO.none _)
   | (with_reducible refine LeO.ite ?_ ?_)
   | (with_reducible refine LeO.bind ?_ (fun _=>?_))
   | exact ih0 _ _ _
   | exact LeO.none _
   | refine LeO.ite ?_ ?_
   | refine LeO.bind ?_ (fun _=>?_)
def abugidalaw16_cut_1.T5:Bool × List (List Nat × List Nat):=(true,[([],[]),([],[]),([],[]),([1,2],[1,2]),([3],[3]),([],[]),([],[]),([5,6],[5,6]),([7],[7]),([8],[8]),([9],[9]),([4,10],[4,10]),([11],[11]),([0,12],[0,12]),([13,13,0,1,2,3,4,5,6,7,8,9,10,11,12,13],[0,13])])
def abugidalaw16_cut_1.B5:List Nat:=[0,0,0,6,14,0,0,96,224,480,992,2046,4094,8191,16383]
theorem abugidalaw16_cut_1.tab5:rtab .any (opsOf Try.f33 5)=abugidalaw16_cut_1.T5:=by kernel_rfl
theorem abugidalaw16_cut_1.bits5:waitsOk abugidalaw16_cut_1.T5.2 abugidalaw16_cut_1.B5=true:=by kernel_rfl
set_option maxHeartbeats 8000000 in
set_option maxRecDepth 100000 in
theorem abugidalaw16_cut_1.calls (k:Nat) (P0_:Nat→Prop) (A0:Option Addr) (c0:Nat) (l0:List (List Int)) (r:List (List Int)) (w:World) (hs0:Kd.V (Kd.slice 3 (Kd.int .i64)) 26 w w.heap.size (fun k_=>P0_ k_) (.slice A0 l0.length c0) l0) (h:abugidalaw16_cut_1.f k l0=some r) :
  Calls Try.prog 33 #[.slice A0 l0.length c0] w fun e w'=>∃ v0_:Value,e=.returned (v0_)∧Kd.N (Kd.slice 3 (Kd.int .i64)) 26 w' w.heap.size (fun k_=>(P0_ k_∨w.heap.size≤k_)) v0_ r∧Below w.heap.size w w':=by
 have HO0:=Aside0.mk (show Kd.V (Kd.slice 3 (Kd.int .i64)) 26 w w.heap.size (fun k_=>(P0_ k_∨w.heap.size≤k_)) (.slice A0 l0.length c0) l0 from Kd.V_mono hs0 (fun k_ hk=>.inl hk))
 have HB:=Aside0.mk (Below.refl w.heap.size w)
 have H:(abugidalaw16_cut_1.l0 k l0 ([]:List (List Int)) 0)=some r:=h
 clear h
 have H':=Aside0.mk H
 clear H
 go_enter Try.func33,Try.ntmps33
 go_wp2
 go_loopg [3,4] k (fun kq v3 v4 w'=>∃ (x3_1:List (List Int)) (x4_1:Int),v4=.int .i64 x4_1∧Aside0 (abugidalaw16_cut_1.l0 kq l0 x3_1 x4_1=some r)∧Aside0 (kq≤k)∧Aside0 (Kd.V (Kd.slice 3 (Kd.int .i64)) 26 w' w.heap.size (fun k_=>(P0_ k_∨w.heap.size≤k_)∧some k_≠(v3:Value).ownBlock) (.slice A0 l0.length c0) l0)∧Aside0 (Kd.N (Kd.slice 3 (Kd.int .i64)) 26 w' w.heap.size (fun k_=>(P0_ k_∨w.heap.size≤k_)) v3 x3_1)∧Aside0 (Below w.heap.size w w'))
 case atStart=>exact ⟨(([]:List (List Int))),(0),za76,H',⟨Nat.le_refl _⟩,⟨by (with_reducible repeat (first|apply Kd.V_alloc|apply Kd.V_drewN|apply Kd.V_drew));exact Kd.V_mono HO0.out (fun _ hk=>⟨hk,(by simp [Value.ownBlock])⟩)⟩,⟨by first|exact Kd.S_nil _ _ _ _ _|exact Kd.N_nil _ _ _ _ _|exact Kd.V_nil _ _ _ _ _|exact Kd.Q_nil _ _ _ _ _|exact Kd.R_nil _ _ _ _ _⟩,⟨by repeat (first|(with_reducible first|exact HB.out|apply below_alloc|apply pw_below_drewN|apply below_drew1)|exact HB.out)⟩⟩
 case round =>
  clear H'
  obtain ⟨x3_1,x4_1,rfl,HA,HK1,HO_0,HO_3,HB⟩:=hrel
  cases gk with
  | zero=>exact absurd HA.out (by simp [abugidalaw16_cut_1.l0])
  | succ k1 =>
   have H:=HA.out
   clear HA
   simp only [abugidalaw16_cut_1.l0] at H
   by_cases c2:x4_1<(l0.length:Int)
   ·
    rw [if_pos c2] at H
    have c2b0:decide (x4_1<(l0.length:Int))=true:=decide_eq_true c2
    clear c2
    by_cases c3:x4_1<5
    ·
     rw [if_pos c3] at H
     have c3b0:decide (x4_1<5)=true:=decide_eq_true c3
     clear c3
     by_cases c4:0≤x4_1
     ·
      rw [if_pos c4] at H
      have c4b0:decide (0≤x4_1)=true:=decide_eq_true c4
      clear c4
      obtain ⟨ji5,hji5⟩:∃ j_:Int,(mn ((rd_L1 l0 x4_1).length:Int) 5)=j_:=⟨_,rfl⟩
      replace H:(if 0≤(ji5) then (if (ji5)≤((rd_L1 l0 x4_1).length:Int) then (if x3_1.length<5864062014805 then (abugidalaw16_cut_1.l0 k1 l0 (x3_1++[((rd_L1 l0 x4_1).take ((ji5):Int).toNat)]) (wrap64 (x4_1+1))) else (none)) else (none)) else (none))=some r:=by first|(rw [hji5] at H;exact H)|(simp only [hji5] at H ⊢;exact H)
      have j14:(if 5<((rd_L1 l0 x4_1).length:Int) then 5 else ((rd_L1 l0 x4_1).length:Int))=ji5:=hji5
      by_cases c6:0≤(ji5)
      ·
       rw [if_pos c6] at H
       have c6b0:=eq_true c6
       have c6b1:decide (0≤(ji5))=true:=decide_eq_true c6
       clear c6
       by_cases c7:(ji5)≤((rd_L1 l0 x4_1).length:Int)
       ·
        rw [if_pos c7] at H
        have c7b0:=eq_true c7
        have c7b1:decide ((ji5)≤((rd_L1 l0 x4_1).length:Int))=true:=decide_eq_true c7
        clear c7
        obtain ⟨y468,j9_⟩:∃ y_:List Int,y_=((rd_L1 l0 x4_1).take ((ji5):Int).toNat):=⟨_,rfl⟩
        replace H:(if x3_1.length<5864062014805 then (abugidalaw16_cut_1.l0 k1 l0 (x3_1++[y468]) (wrap64 (x4_1+1))) else (none))=some r:=by first|(rw [j9_];with_reducible exact H)|(have H2_:=(Option.bind_some _ _).symm.trans H;rw [j9_];with_reducible exact H2_)|(have H2_:=(Option.bind_some _ _).symm.trans H;with_reducible exact H2_)|with_reducible exact H|(rw [j9_];exact H)|exact H
        have jj_:=Aside0.mk j9_
        clear j9_
        by_cases c8:x3_1.length<5864062014805
        ·
         rw [if_pos c8] at H
         have LMc8:=Aside0.mk c8
         clear c8
         obtain ⟨y473,ja_⟩:∃ y_:List (List Int),y_=(x3_1++[y468]):=⟨_,rfl⟩
         replace H:(abugidalaw16_cut_1.l0 k1 l0 y473 (wrap64 (x4_1+1)))=some r:=by first|(rw [ja_];with_reducible exact H)|(have H2_:=(Option.bind_some _ _).symm.trans H;rw [ja_];with_reducible exact H2_)|(have H2_:=(Option.bind_some _ _).symm.trans H;with_reducible exact H2_)|with_reducible exact H|(rw [ja_];exact H)|exact H
         have jt_:=Aside0.mk ja_
         clear ja_
         have H':=Aside0.mk H
         clear H
         try go_wp2
         have n0_:=Aside0.mk (Kd.V_drew HO_0.out)
         have n1_:=Aside0.mk (Kd.N_drew HO_3.out)
         have n2_:=Aside0.mk (below_drew1 HB.out)
         clear HO_0
         clear HO_3
         clear HB
         have HO_0:=n0_
         have HO_3:=n1_
         have HB:=n2_
         clear n0_ n1_ n2_
         have p466:0≤(x4_1:Int):=of_decide_eq_true za73
         have q466:x4_1<(l0.length:Int):=of_decide_eq_true za73
         obtain ⟨jg_,j1_,j0_,e466,j3_,hl466_0,hi466_0⟩:=at_L1 (Kd.V_reads' HO_0.out).2.2 x4_1 p466 q466
         cases e466
         obtain ⟨j15,jo_,jp_,jh_⟩:=Kd.V_get HO_0.out [] x4_1 p466 (by first|exact q466|exact of_decide_eq_true za73|(have e_:=(Kd.V_reads' HO_0.out).1;omega))
         obtain ⟨jx_,jy_,rfl,jb_,jc_⟩:=Kd.FK_slice_open jp_
         have j4_:=jh_ 0 _ rfl
         rw [Nat.add_zero,show ((Kd.slice 3 (Kd.int .i64))).sz=1 from rfl,Nat.mul_one] at j4_
         replace j4_:=Option.some.inj (j4_.symm.trans j3_)
         injection j4_ with hva_ hvn_ hvc_
         rw [hva_] at jc_
         rw [hvc_] at jb_
         have j2_:=Aside0.mk (show Kd.V (Kd.int .i64) 3 _ w.heap.size _ _ (rd_L1 l0 x4_1) from Kd.V_mk jb_ jc_)
         clear hva_ hvn_ hvc_ jc_ jb_
         clear jh_ jo_
         have jl_:=Aside0.mk hi466_0
         have jm_:=Aside0.mk hl466_0
         clear hi466_0 hl466_0
         replace p466:=eq_true p466
         replace q466:=eq_true q466
         have p467:0≤(x4_1:Int):=of_decide_eq_true za73
         have q467:x4_1<(l0.length:Int):=of_decide_eq_true za73
         obtain ⟨ju_,j12,j13,e467,j5_,hl467_0,hi467_0⟩:=at_L1 (Kd.V_reads' HO_0.out).2.2 x4_1 p467 q467
         obtain rfl:jg_=ju_:=(by injection e467)
         obtain ⟨j16,jq_,jr_,ji_⟩:=Kd.V_get HO_0.out [] x4_1 p467 (by first|exact q467|exact of_decide_eq_true za73|(have e_:=(Kd.V_reads' HO_0.out).1;omega))
         obtain ⟨jz_,j10,rfl,jd_,je_⟩:=Kd.FK_slice_open jr_
         have j6_:=ji_ 0 _ rfl
         rw [Nat.add_zero,show ((Kd.slice 3 (Kd.int .i64))).sz=1 from rfl,Nat.mul_one] at j6_
         replace j6_:=Option.some.inj (j6_.symm.trans j5_)
         injection j6_ with hva_ hvn_ hvc_
         rw [hva_] at je_
         rw [hvc_] at jd_
         have j7_:=Aside0.mk (show Kd.V (Kd.int .i64) 3 _ w.heap.size _ _ (rd_L1 l0 x4_1) from Kd.V_mk jd_ je_)
         clear hva_ hvn_ hvc_ je_ jd_
         clear ji_ jq_
         have jn_:=Aside0.mk hi467_0
         have j11:=Aside0.mk hl467_0
         clear hi467_0 hl467_0
         replace p467:=eq_true p467
         replace q467:=eq_true q467
         have ea_:=Option.some.inj (j3_.symm.trans j5_)
         injection ea_ with ea_ en_ ec_
         subst ea_
         subst ec_
         clear en_
         have q10:((ji5):Int)≤(((rd_L1 l0 x4_1).length:Int):Int):=of_decide_eq_true za73
         obtain ⟨i010,jk_,_,jv_,_⟩:=info_parts info3
         have jf_:(rd_L1 l0 x4_1).length≤j0_:=jm_.out
         have hC10:Kd.F (Kd.int .i64) _ _ j1_ (rd_L1 l0 x4_1).length (rd_L1 l0 x4_1):=(Kd.V_at (base:=w.heap.size) j2_.out).2.2
         have js_:=cut_to (P:=Try.prog) 26 3 .i64 Try.underlying26 jk_ j1_ (rd_L1 l0 x4_1).length j0_ (ji5) (of_decide_eq_true za73) q10 jf_
         have hr10:=Kd.F_take (m:=((ji5):Int).toNat) hC10 (by omega)
         have hy10:y468.length=((ji5):Int).toNat:=(by rw [jj_.out,List.length_take];omega)
         rw [← jj_.out] at hr10
         rw [← hy10] at js_
         have j8_:=Aside0.mk (show Kd.V (Kd.int .i64) 3 _ w.heap.size _ (.slice j1_ y468.length j0_) y468 from Kd.V_mk (by omega) hr10)
         have j17:=Aside0.mk (show y468.length≤j0_ from by omega)
         clear hr10 hC10 jf_ jk_ jv_
         have KY10:=Aside0.mk hy10
         clear hy10
         replace q10:=eq_true q10
         refine start_ (n:=15) (S:=fun w'=>w'.cell? (jg_.add (x4_1).toNat)=some (.slice j1_ (rd_L1 l0 x4_1).length j0_)∧w'.cell? (jg_.add (x4_1).toNat)=some (.slice j1_ (rd_L1 l0 x4_1).length j0_)) (ds:=[12,13]) #[false,false,false,false,false,false,false,false,false,false,false,false,false,false,false] (by kernel_rfl) rfl rfl ⟨j3_,j5_⟩ (fun hHeld=>?_);refine with_tabW abugidalaw16_cut_1.tab5 abugidalaw16_cut_1.bits5 (fun HT_ HW_=>?_)
         generalize wr.drew=w9 at HO_0 HO_3 HB j2_ j7_ j8_ jl_ jn_ j3_ j5_ hHeld ⊢
         refine pure_ (i:=0) (N:=some 15) (v:=?_) (a':=?_) #[true,false,false,false,false,false,false,false,false,false,false,false,false,false,false] rfl rfl (any_of HT_.out (by kernel_rfl)) (fun _ _ _ h=>h) (Or.inl ⟨by rfl,?_⟩) ?_ ?_
         rotate_left
         ·
          intro w'
          go_simp
          with_reducible rfl
         rotate_left
         ·
          simp only [Act.put,List.setIfInBounds_toArray,List.set_cons_zero,List.set_cons_succ,i64_w,i32_w]
          rfl
         refine pure_ (i:=1) (N:=some 16) (v:=?_) (a':=?_) #[true,true,false,false,false,false,false,false,false,false,false,false,false,false,false] rfl rfl (any_of HT_.out (by kernel_rfl)) (fun _ _ _ h=>h) (Or.inl ⟨by rfl,?_⟩) ?_ ?_
         rotate_left
         ·
          intro w'
          go_simp
          with_reducible rfl
         rotate_left
         ·
          simp only [Act.put,List.setIfInBounds_toArray,List.set_cons_zero,List.set_cons_succ,i64_w,i32_w]
          rfl
         refine pure_ (i:=2) (N:=some 17) (v:=?_) (a':=?_) #[true,true,true,false,false,false,false,false,false,false,false,false,false,false,false] rfl rfl (any_of HT_.out (by kernel_rfl)) (fun _ _ _ h=>h) (Or.inl ⟨by rfl,?_⟩) ?_ ?_
         rotate_left
         ·
          intro w'
          go_simp
          with_reducible rfl
         rotate_left
         ·
          simp only [Act.put,List.setIfInBounds_toArray,List.set_cons_zero,List.set_cons_succ,i64_w,i32_w]
          rfl
         refine pure_ (i:=3) (N:=some 18) (v:=?_) (a':=?_) #[true,true,true,true,false,false,false,false,false,false,false,false,false,false,false] rfl rfl (any_of HT_.out (by kernel_rfl)) (fun _ _ _ h=>h) (Or.inl ⟨by rfl,?_⟩) ?_ ?_
         rotate_left
         ·
          intro w'
          go_simp
          with_reducible rfl
         rotate_left
         ·
          simp only [Act.put,List.setIfInBounds_toArray,List.set_cons_zero,List.set_cons_succ,i64_w,i32_w]
          rfl
         refine pure_ (i:=5) (N:=some 20) (v:=?_) (a':=?_) #[true,true,true,true,false,true,false,false,false,false,false,false,false,false,false] rfl rfl (any_of HT_.out (by kernel_rfl)) (fun _ _ _ h=>h) (Or.inl ⟨by rfl,?_⟩) ?_ ?_
         rotate_left
         ·
          intro w'
          go_simp
          with_reducible rfl
         rotate_left
         ·
          simp only [Act.put,List.setIfInBounds_toArray,List.set_cons_zero,List.set_cons_succ,i64_w,i32_w]
          rfl
         refine pure_ (i:=6) (N:=some 21) (v:=?_) (a':=?_) #[true,true,true,true,false,true,true,false,false,false,false,false,false,false,false] rfl rfl (any_of HT_.out (by kernel_rfl)) (fun _ _ _ h=>h) (Or.inl ⟨by rfl,?_⟩) ?_ ?_
         rotate_left
         ·
          intro w'
          go_simp
          with_reducible rfl
         rotate_left
         ·
          simp only [Act.put,List.setIfInBounds_toArray,List.set_cons_zero,List.set_cons_succ,i64_w,i32_w]
          rfl
         refine pure_ (i:=7) (N:=some 22) (v:=?_) (a':=?_) #[true,true,true,true,false,true,true,true,false,false,false,false,false,false,false] rfl rfl (any_of HT_.out (by kernel_rfl)) (fun _ _ _ h=>h) (Or.inl ⟨by rfl,?_⟩) ?_ ?_
         rotate_left
         ·
          intro w'
          go_simp
          with_reducible rfl
         rotate_left
         ·
          simp only [Act.put,List.setIfInBounds_toArray,List.set_cons_zero,List.set_cons_succ,i64_w,i32_w]
          rfl
         refine take_ (i:=4) (N:=some 19) (v:=?_) (a':=?_) #[true,true,true,true,true,true,true,true,false,false,false,false,false,false,false] rfl rfl (take_ofW HT_.out HW_.out (by kernel_rfl)) (fun _ _ _ h=>h) (Or.inl ⟨by rfl,?_⟩) hHeld ?_ ?_
         rotate_left
         ·
          rintro w' ⟨s0,s1⟩
          go_simp
          with_reducible rfl
         rotate_left
         ·
          simp only [Act.put,List.setIfInBounds_toArray,List.set_cons_zero,List.set_cons_succ,i64_w,i32_w]
          rfl
         refine take_ (i:=8) (N:=some 23) (v:=?_) (a':=?_) #[true,true,true,true,true,true,true,true,true,false,false,false,false,false,false] rfl rfl (take_ofW HT_.out HW_.out (by kernel_rfl)) (fun _ _ _ h=>h) (Or.inl ⟨by rfl,?_⟩) hHeld ?_ ?_
         rotate_left
         ·
          rintro w' ⟨s0,s1⟩
          go_simp
          with_reducible rfl
         rotate_left
         ·
          simp only [Act.put,List.setIfInBounds_toArray,List.set_cons_zero,List.set_cons_succ,i64_w,i32_w]
          rfl
         refine pure_ (i:=9) (N:=some 24) (v:=?_) (a':=?_) #[true,true,true,true,true,true,true,true,true,true,false,false,false,false,false] rfl rfl (any_of HT_.out (by kernel_rfl)) (fun _ _ _ h=>h) (Or.inl ⟨by rfl,?_⟩) ?_ ?_
         rotate_left
         ·
          intro w'
          go_simp
          with_reducible rfl
         rotate_left
         ·
          simp only [Act.put,List.setIfInBounds_toArray,List.set_cons_zero,List.set_cons_succ,i64_w,i32_w]
          rfl
         refine pure_ (i:=10) (N:=some 25) (v:=?_) (a':=?_) #[true,true,true,true,true,true,true,true,true,true,true,false,false,false,false] rfl rfl (any_of HT_.out (by kernel_rfl)) (fun _ _ _ h=>h) (Or.inl ⟨by rfl,?_⟩) ?_ ?_
         rotate_left
         ·
          intro w'
          go_simp
          with_reducible rfl
         rotate_left
         ·
          simp only [Act.put,List.setIfInBounds_toArray,List.set_cons_zero,List.set_cons_succ,i64_w,i32_w]
          rfl
         refine pure_ (i:=11) (N:=some 26) (v:=?_) (a':=?_) #[true,true,true,true,true,true,true,true,true,true,true,true,false,false,false] rfl rfl (any_of HT_.out (by kernel_rfl)) (fun _ _ _ h=>h) (Or.inl ⟨by rfl,?_⟩) ?_ ?_
         rotate_left
         ·
          intro w'
          go_simp
          with_reducible rfl
         rotate_left
         ·
          simp only [Act.put,List.setIfInBounds_toArray,List.set_cons_zero,List.set_cons_succ,i64_w,i32_w]
          rfl
         refine last_ (i:=12) (N:=some 27) #[true,true,true,true,true,true,true,true,true,true,true,true,true,false,false] rfl rfl (one_of HT_.out (by kernel_rfl)) (by decide) (fun K hK=>?_)
         refine value_ (w1:=?_) (v:=?_) (by rfl) rfl ?_ ?_
         rotate_left 2
         ·
          go_simp
          constructor
          ·
           rfl
          ·
           rfl
         refine hK.out _ _ ?_
         clear hK K
         refine norm_ (a':=?_) ?_ ?_
         rotate_left
         ·
          show Act.put _ (some 27) _=_
          simp only [Act.put,List.setIfInBounds_toArray,List.set_cons_zero,List.set_cons_succ,i64_w,i32_w]
          rfl
         refine last_ (i:=13) (N:=some 28) #[true,true,true,true,true,true,true,true,true,true,true,true,true,true,false] rfl rfl (one_of HT_.out (by kernel_rfl)) (by decide) (fun K hK=>?_)
         refine Kd.N_append_step (Kd.slice 3 (Kd.int .i64)) (w0:=w) w.heap.size (by rfl) (.tmp 15) (.tmp 27) 25 26 (.slice none 0 0) 24 rfl Try.underlying25 info26 rfl (by decide) (by omega) u3 x3_1 y468 [.slice j1_ y468.length j0_] (fun k_=>(P0_ k_∨w.heap.size≤k_)) (fun k_=>((fun k_=>(P0_ k_∨w.heap.size≤k_))) k_∧some k_≠(u3:Value).ownBlock) rfl rfl ?aP (fun _ hk=>hk) ?aF ?aO ?aB ?aS ?aL ?_
         (case aP=>exact (Kd.FK_slice_mk (Kd.V_reads' (Kd.V_mono (ok':=(fun k_=>((fun k_=>(P0_ k_∨w.heap.size≤k_))) k_∧some k_≠(u3:Value).ownBlock)) (j8_.out) (fun k_ hk=>⟨hk.1,hk.2⟩))).2.1 (Kd.V_F (Kd.V_mono (ok':=(fun k_=>((fun k_=>(P0_ k_∨w.heap.size≤k_))) k_∧some k_≠(u3:Value).ownBlock)) (j8_.out) (fun k_ hk=>⟨hk.1,hk.2⟩)))))
         (case aB=>exact za40)
         (case aF=>exact (fun k_ hk=>(.inr (Nat.le_trans (below_size za40) hk))))
         (case aO=>exact (by (with_reducible repeat (first|apply Kd.N_alloc|apply Kd.N_drewN|apply Kd.N_drew));exact HO_3.out))
         (case aS=>exact (below_size za40))
         (case aL=>have:=LMc8.out;omega)
         intro v474 w11 ho hb hg hat
         rw [← jt_.out] at ho
         have n0_:=Aside0.mk (Kd.V_afterv (ok:=(fun k_=>(P0_ k_∨w.heap.size≤k_))) (by (with_reducible repeat (first|apply Kd.V_alloc|apply Kd.V_drewN|apply Kd.V_drew));exact HO_0.out) hg hat)
         have n1_:=Aside0.mk (Kd.V_afterv (ok:=(fun k_=>(P0_ k_∨w.heap.size≤k_))) za59 hg hat)
         have n2_:=Aside0.mk (Kd.V_afterv (ok:=(fun k_=>(P0_ k_∨w.heap.size≤k_))) (by (with_reducible repeat (first|apply Kd.V_alloc|apply Kd.V_drewN|apply Kd.V_drew));exact j7_.out) hg hat)
         have n3_:=Aside0.mk (Kd.V_afterv (ok:=(fun k_=>(P0_ k_∨w.heap.size≤k_))) (by (with_reducible repeat (first|apply Kd.V_alloc|apply Kd.V_drewN|apply Kd.V_drew));exact j8_.out) hg hat)
         have n4_:=Aside0.mk (hb)
         have n5_:=Aside0.mk (ho)
         clear HO_0
         clear j2_
         clear j7_
         clear j8_
         clear HB
         clear HO_3
         have HO_0:=n0_
         have j2_:=n1_
         have j7_:=n2_
         have j8_:=n3_
         have HB:=n4_
         have jw_:=n5_
         clear n0_ n1_ n2_ n3_ n4_ n5_
         clear ho hb hg hat
         refine hK.out _ _ ?_
         clear hK K
         refine norm_ (a':=?_) ?_ ?_
         rotate_left
         ·
          show Act.put _ (some 28) _=_
          simp only [Act.put,List.setIfInBounds_toArray,List.set_cons_zero,List.set_cons_succ,i64_w,i32_w]
          rfl
         refine pure_ (i:=14) (N:=some 3) (v:=?_) (a':=?_) #[true,true,true,true,true,true,true,true,true,true,true,true,true,true,true] rfl rfl (any_of HT_.out (by kernel_rfl)) (fun _ _ _ h=>h) (Or.inl ⟨by rfl,?_⟩) ?_ ?_
         rotate_left
         ·
          intro w'
          go_simp
          with_reducible rfl
         rotate_left
         ·
          simp only [Act.put,List.setIfInBounds_toArray,List.set_cons_zero,List.set_cons_succ,i64_w,i32_w]
          rfl
         refine done_ (done_of HT_.out (by kernel_rfl)) ?_
         try go_wp2
         go_roundg k1
         case measure=>have:=HK1.out;omega
         case rel=>exact ⟨(y473),(wrap64 (x4_1+1)),za76,H',⟨by have:=HK1.out;omega⟩,⟨by (with_reducible repeat (first|apply Kd.V_alloc|apply Kd.V_drewN|apply Kd.V_drew));exact HO_0.out⟩,⟨by (with_reducible repeat (first|apply Kd.N_alloc|apply Kd.N_drewN|apply Kd.N_drew));exact jw_.out⟩,⟨by repeat (first|(with_reducible first|exact HB.out|apply below_alloc|apply pw_below_drewN|apply below_drew1)|exact HB.out)⟩⟩
        ·
         rw [if_neg c8] at H
         exact absurd H (by simp)
       ·
        rw [if_neg c7] at H
        exact absurd H (by simp)
      ·
       rw [if_neg c6] at H
       exact absurd H (by simp)
     ·
      rw [if_neg c4] at H
      exact absurd H (by simp)
    ·
     rw [if_neg c3] at H
     have c3b0:decide (x4_1<5)=false:=decide_eq_false c3
     clear c3
     obtain rfl:=Option.some.inj H
     go_wp2
     go_ret
     exact ⟨_,by first|rfl|(simp [errW_none,errW_some]<;>rfl)|(simp [*,errW_none,errW_some]<;>rfl),by (with_reducible repeat (first|apply Kd.N_alloc|apply Kd.N_drewN|apply Kd.N_drew));exact HO_3.out,by repeat (first|(with_reducible first|exact HB.out|apply below_alloc|apply pw_below_drewN|apply below_drew1)|exact HB.out)⟩
   ·
    rw [if_neg c2] at H
    have c2b0:decide (x4_1<(l0.length:Int))=false:=decide_eq_false c2
    clear c2
    obtain rfl:=Option.some.inj H
    go_wp2
    go_ret
    exact ⟨_,by first|rfl|(simp [errW_none,errW_some]<;>rfl)|(simp [*,errW_none,errW_some]<;>rfl),by (with_reducible repeat (first|apply Kd.N_alloc|apply Kd.N_drewN|apply Kd.N_drew));exact HO_3.out,by repeat (first|(with_reducible first|exact HB.out|apply below_alloc|apply pw_below_drewN|apply below_drew1)|exact HB.out)⟩
end Go.Proofs.Ytlgkeaildncojaa.Q
end
section
namespace Go.Proofs.Ytlgkeaildncojaa.Q
open Go.RowKit Go.Proofs.YtlgkeaildncojaaW.PrintWords Go.Proofs.YtlgkeaildncojaaW.PrintLast Go.Proofs.YtlgkeaildncojaaW.PrintMore
attribute [local go_sem] max2_int min2_int max_two min_two max_three min_three max_four min_four   -- for this text's walks alone
set_option linter.unusedVariables false
set_option linter.unusedSimpArgs false
mutual
def abugidalaw16_cut.l0:Nat→Int→List (S49)→List (S49)→Option ((List (S49)))
 | 0,_,_,_=>none
 | k+1,x5,jq_,j15=>if x5<(jq_.length:Int) then (abugidalaw16_cut.j1 k x5 (decide (x5<9)) jq_ j15) else (abugidalaw16_cut.j1 k x5 false jq_ j15)
def abugidalaw16_cut.j1:Nat→Int→Bool→List (S49)→List (S49)→Option ((List (S49)))
 | 0,_,_,_,_=>none
 | k+1,x5,x15,jq_,j15=>if x15=true then (if 0≤x5 then (if x5<(jq_.length:Int) then ((abugidalaw16_cut_1.f k ((rd_T49 jq_ x5).f0)).bind fun t481=>((abugidalaw16_cut_1.f k ((rd_T49 jq_ x5).f1)).bind fun t484=>((abugidalaw16_cut_1.f k ((rd_T49 jq_ x5).f2)).bind fun t487=>(if 0≤(mn (((rd_T49 jq_ x5).f3).length:Int) 5) then (if (mn (((rd_T49 jq_ x5).f3).length:Int) 5)≤(((rd_T49 jq_ x5).f3).length:Int) then (if 0≤(mn (((rd_T49 jq_ x5).f4).length:Int) 4) then (if (mn (((rd_T49 jq_ x5).f4).length:Int) 4)≤(((rd_T49 jq_ x5).f4).length:Int) then (if j15.length<1172812402961 then (abugidalaw16_cut.l0 k (wrap64 (x5+1)) jq_ (j15++[(⟨t481,t484,t487,(((rd_T49 jq_ x5).f3).take ((mn (((rd_T49 jq_ x5).f3).length:Int) 5):Int).toNat),(((rd_T49 jq_ x5).f4).take ((mn (((rd_T49 jq_ x5).f4).length:Int) 4):Int).toNat)⟩:S49)])) else (none)) else (none)) else (none)) else (none)) else (none))))) else (none)) else (none)) else (some j15)
end
def abugidalaw16_cut.f (k:Nat) (l0_0:List (S49)):Option ((List (S49))):=abugidalaw16_cut.l0 k 0 l0_0 ([]:List (S49))
theorem abugidalaw16_cut.mono_l:∀ k,(∀ y0 y1 y2,LeO (abugidalaw16_cut.l0 k y0 y1 y2) (abugidalaw16_cut.l0 (k+1) y0 y1 y2))∧(∀ y0 y1 y2 y3,LeO (abugidalaw16_cut.j1 k y0 y1 y2 y3) (abugidalaw16_cut.j1 (k+1) y0 y1 y2 y3))
 | 0=>⟨fun _ _ _ r h=>by simp [abugidalaw16_cut.l0] at h,fun _ _ _ _ r h=>by simp [abugidalaw16_cut.j1] at h⟩
 | k+1=>by
  obtain ⟨ih0,ih1⟩:=abugidalaw16_cut.mono_l k
  refine ⟨?_,?_⟩
  ·
   intro y0 y1 y2
   unfold abugidalaw16_cut.l0
   repeat' first
   | (with_reducible exact ih0 _ _ _)
   | (with_reducible exact ih1 _ _ _ _)
   | (with_reducible exact abugidalaw16_cut_1.mono _ _)
   | (with_reducible exact LeO.refl _)
   | (with_reducible exact LeO.none _)
   | (with_reducible refine LeO.ite ?_ ?_)
   | (with_reducible refine LeO.bind ?_ (fun _=>?_))
   | exact ih0 _ _ _
   | exact ih1 _ _ _ _
   | exact abugidalaw16_cut_1.mono _ _
   | exact LeO.none _
   | refine LeO.ite ?_ ?_
   | refine LeO.bind ?_ (fun _=>?_)
  ·
   intro y0 y1 y2 y3
   unfold abugidalaw16_cut.j1
   repeat' first
   | (with_reducible exact ih0 _ _ _)
   | (with_reducible exact ih1 _ _ _ _)
   | (with_reducible exact abugidalaw16_cut_1.mono _ _)
   | (with_reducible exact LeO.refl _)
   | (with_reducible exact LeO.none _)
   | (with_reducible refine LeO.ite ?_ ?_)
   | (with_reducible refine LeO.bind ?_ (fun _=>?_))
   | exact ih0 _ _ _
   | exact ih1 _ _ _ _
   | exact abugidalaw16_cut_1.mono _ _
   | exact LeO.none _
   | refine LeO.ite ?_ ?_
   | refine LeO.bind ?_ (fun _=>?_)
theorem abugidalaw16_cut.mono:∀ a0 k,LeO (abugidalaw16_cut.f k a0) (abugidalaw16_cut.f (k+1) a0):=by
 intro a0 k
 obtain ⟨ih0,ih1⟩:=abugidalaw16_cut.mono_l k
 unfold abugidalaw16_cut.f
 repeat' first
   | (with_reducible exact ih0 _ _ _)
   | (with_reducible exact ih1 _ _ _ _)
   | (with_reducible exact abugidalaw16_cut_1.mono _ _)
   | (with_reducible exact LeO.refl _)
   | (with_reducible exact LeO.none _)
   | (with_reducible refine LeO.ite ?_ ?_)
   | (with_reducible refine LeO.bind ?_ (fun _=>?_))
   | exact ih0 _ _ _
   | exact ih1 _ _ _ _
   | exact abugidalaw16_cut_1.mono _ _
   | exact LeO.none _
   | refine LeO.ite ?_ ?_
   | refine LeO.bind ?_ (fun _=>?_)
def abugidalaw16_cut.T7:Bool × List (List Nat × List Nat):=(true,[([],[]),([0],[0]),([],[]),([],[]),([3],[3]),([2,4],[2,4]),([],[]),([],[]),([7],[7]),([6,8,5],[6,8]),([],[]),([],[]),([11],[11]),([10,12,9],[10,12]),([],[]),([14],[14]),([],[]),([16],[16]),([17],[17]),([18],[18]),([15,19],[15,19]),([],[]),([21],[21]),([],[]),([23],[23]),([24],[24]),([25],[25]),([22,26],[22,26]),([5,9,13,20,27],[5,9,13,20,27]),([28],[28]),([1,29,13],[1,29]),([0,1,2,3,4,5,6,7,8,9,10,11,12,13,14,15,16,17,18,19,20,21,22,23,24,25,26,27,28,29,30],[]),([31,30,30,0,1,2,3,4,5,6,7,8,9,10,11,12,13,14,15,16,17,18,19,20,21,22,23,24,25,26,27,28,29,30],[30,31])])
def abugidalaw16_cut.B7:List Nat:=[0,1,0,0,8,28,0,0,128,508,0,0,2048,8188,0,16384,0,65536,196608,458752,1032192,0,2097152,0,8388608,25165824,58720256,132120576,268435452,536870908,1073741823,2147483647,4294967295]
theorem abugidalaw16_cut.tab7:rtab .any (opsOf Try.f14 7)=abugidalaw16_cut.T7:=by kernel_rfl
theorem abugidalaw16_cut.bits7:waitsOk abugidalaw16_cut.T7.2 abugidalaw16_cut.B7=true:=by kernel_rfl
set_option maxHeartbeats 8000000 in
set_option maxRecDepth 100000 in
theorem abugidalaw16_cut.calls (k:Nat) (P0_0_:Nat→Prop) (A0_0:Option Addr) (c0_0:Nat) (l0_0:List (S49)) (r:List (S49)) (w:World) (hs0_0:Kd.V k49 49 w w.heap.size (fun k_=>P0_0_ k_) (.slice A0_0 l0_0.length c0_0) l0_0) (h:abugidalaw16_cut.f k l0_0=some r) :
  Calls Try.prog 14 #[.agg #[.slice A0_0 l0_0.length c0_0]] w fun e w'=>∃ v0_:Value,e=.returned (.agg #[v0_])∧Kd.N k49 49 w' w.heap.size (fun k_=>(P0_0_ k_∨w.heap.size≤k_)) v0_ r∧Below w.heap.size w w':=by
 have hu24:=Try.underlying24
 have hu49:=Try.underlying49
 have j13:=Aside0.mk (show Kd.V k49 49 w w.heap.size (fun k_=>(P0_0_ k_∨w.heap.size≤k_)) (.slice A0_0 l0_0.length c0_0) l0_0 from Kd.V_mono hs0_0 (fun k_ hk=>.inl hk))
 have HB:=Aside0.mk (Below.refl w.heap.size w)
 have H:(abugidalaw16_cut.l0 k 0 l0_0 ([]:List (S49)))=some r:=h
 clear h
 have H':=Aside0.mk H
 clear H
 go_enter Try.func14,Try.ntmps14
 go_wp2_with (first|((with_reducible refine gate_dst (N:=1) rfl ?_);refine box_event ?hg (N:=1) ?hd (cs:=#[.slice A0_0 l0_0.length c0_0]) (t:=24) ?hr ?_;(case hd=>rfl);(case hg=>rfl);(case hr=>first|(go_simp;done)|(go_simp;rfl));intro j1_ hg w2 hbox hb;have n0_:=Aside0.mk (Kd.V_below (Kd.V_elderB za60 j1_ (Nat.le_of_eq hg.symm)) hb);have n1_:=Aside0.mk (below_step za40 hb);have n2_:=Aside0.mk (hbox);have n3_:=Aside0.mk ((za31:w.heap.size≤j1_));have n4_:=Aside0.mk ((za31:w.heap.size≤j1_));clear j13;clear HB;have j13:=n0_;have HB:=n1_;have j8_:=n2_;have j32:=n3_;have jr_:=n4_;clear n0_ n1_ n2_ n3_ n4_;clear hb hbox hg)|((with_reducible refine gate_dst (N:=2) rfl ?_);refine box_event ?hg (N:=2) ?hd (cs:=#[.slice none 0 0]) (t:=24) ?hr ?_;(case hd=>rfl);(case hg=>rfl);(case hr=>first|(go_simp;done)|(go_simp;rfl));intro j2_ hg w3 hbox hb;have n0_:=Aside0.mk (Kd.V_below (Kd.V_elderB za60 j2_ (Nat.le_of_eq hg.symm)) hb);have n1_:=Aside0.mk (blk_below (g:=j1_) (o:=.cells #[.slice A0_0 l0_0.length c0_0] 24 (0,0)) za47 hb);have n2_:=Aside0.mk (below_step (by repeat (first|(with_reducible first|exact HB.out|apply below_alloc|apply pw_below_drewN|apply below_drew1|refine below_set ?_ jr_.out)|exact HB.out)) hb);have n3_:=Aside0.mk (hbox);have n4_:=Aside0.mk ((za24:w.heap.size≤j2_));have n5_:=Aside0.mk ((za24:w.heap.size≤j2_));have n6_:=Aside0.mk ((za11:j1_≠j2_));have n7_:=Aside0.mk ((za12:j2_≠j1_));clear j13;clear j8_;clear HB;have j13:=n0_;have j8_:=n1_;have HB:=n2_;have jf_:=n3_;have j33:=n4_;have js_:=n5_;have j16:=n6_;have j17:=n7_;clear n0_ n1_ n2_ n3_ n4_ n5_ n6_ n7_;clear hb hbox hg)|((with_reducible refine gate_dst (N:=3) rfl ?_);refine box_event ?hg (N:=3) ?hd (cs:=#[.slice none 0 0]) (t:=24) ?hr ?_;(case hd=>rfl);(case hg=>rfl);(case hr=>first|(go_simp;done)|(go_simp;rfl));intro j3_ hg w4 hbox hb;have n0_:=Aside0.mk (Kd.V_below (Kd.V_elderB za60 j3_ (Nat.le_of_eq hg.symm)) hb);have n1_:=Aside0.mk (blk_below (g:=j1_) (o:=.cells #[.slice A0_0 l0_0.length c0_0] 24 (0,0)) za47 hb);have n2_:=Aside0.mk (blk_below (g:=j2_) (o:=.cells #[.slice none 0 0] 24 (0,0)) za48 hb);have n3_:=Aside0.mk (below_step (by repeat (first|(with_reducible first|exact HB.out|apply below_alloc|apply pw_below_drewN|apply below_drew1|refine below_set ?_ jr_.out|refine below_set ?_ js_.out)|exact HB.out)) hb);have n4_:=Aside0.mk (hbox);have n5_:=Aside0.mk ((za13:w.heap.size≤j3_));have n6_:=Aside0.mk ((za13:w.heap.size≤j3_));have n7_:=Aside0.mk ((za11:j1_≠j3_));have n8_:=Aside0.mk ((za12:j3_≠j1_));have n9_:=Aside0.mk ((za15:j2_≠j3_));have n10_:=Aside0.mk ((za16:j3_≠j2_));clear j13;clear j8_;clear jf_;clear HB;have j13:=n0_;have j8_:=n1_;have jf_:=n2_;have HB:=n3_;have j9_:=n4_;have j34:=n5_;have jt_:=n6_;have j10:=n7_;have j14:=n8_;have j1a:=n9_;have j20:=n10_;clear n0_ n1_ n2_ n3_ n4_ n5_ n6_ n7_ n8_ n9_ n10_;clear hb hbox hg))
 go_loopg [5] k (fun kq v5 w'=>∃ (x5_1:Int) (j7_:List (S49)) (u479000:Value),v5=.int .i64 x5_1∧Aside0 (abugidalaw16_cut.l0 kq x5_1 l0_0 j7_=some r)∧Aside0 (kq≤k)∧Aside0 (Kd.V k49 49 w' w.heap.size (fun k_=>(P0_0_ k_∨w.heap.size≤k_)∧some k_≠(u479000:Value).ownBlock∧k_≠j1_∧k_≠j2_∧k_≠j3_) (.slice A0_0 l0_0.length c0_0) l0_0)∧Aside0 (Kd.N k49 49 w' w.heap.size (fun k_=>(P0_0_ k_∨w.heap.size≤k_)∧k_≠j1_∧k_≠j2_∧k_≠j3_) u479000 j7_)∧Aside0 (w'.heap[j1_]?=some (.cells #[(.slice A0_0 l0_0.length c0_0)] 24 (0,0)))∧Aside0 (w'.heap[j2_]?=some (.cells #[(.slice none 0 0)] 24 (0,0)))∧Aside0 (w'.heap[j3_]?=some (.cells #[u479000] 24 (0,0)))∧Aside0 (Below w.heap.size w w'))
 case atStart=>exact ⟨(0),(([]:List (S49))),(.slice none 0 0),za76,H',⟨Nat.le_refl _⟩,⟨by (with_reducible repeat (first|apply Kd.V_alloc|apply Kd.V_drewN|apply Kd.V_drew));exact Kd.V_mono j13.out (fun _ hk=>⟨hk.1.1.1,⟨(by simp [Value.ownBlock]),⟨hk.1.1.2,⟨hk.1.2,hk.2⟩⟩⟩⟩)⟩,⟨by first|exact Kd.R_nil _ _ _ _ _|exact Kd.N_nil _ _ _ _ _|exact Kd.V_nil _ _ _ _ _|exact Kd.Q_nil _ _ _ _ _|exact Kd.S_nil _ _ _ _ _⟩,⟨by (with_reducible repeat (first|refine blk_drewN ?_ _|refine blk_drew ?_|refine blk_alloc ?_ _));exact j8_.out⟩,⟨by (with_reducible repeat (first|refine blk_drewN ?_ _|refine blk_drew ?_|refine blk_alloc ?_ _));exact jf_.out⟩,⟨by (with_reducible repeat (first|refine blk_drewN ?_ _|refine blk_drew ?_|refine blk_alloc ?_ _));exact j9_.out⟩,⟨by repeat (first|(with_reducible first|exact HB.out|apply below_alloc|apply pw_below_drewN|apply below_drew1|refine below_set ?_ jr_.out|refine below_set ?_ js_.out|refine below_set ?_ jt_.out)|exact HB.out)⟩⟩
 case round =>
  clear H'
  try clear c1
  try clear p2
  obtain ⟨x5_1,j7_,u479000,rfl,HA,HK1,j6_,j5_,j8_,jf_,j9_,HB⟩:=hrel
  cases gk with
  | zero=>exact absurd HA.out (by simp [abugidalaw16_cut.l0])
  | succ k1 =>
   have H:=HA.out
   clear HA
   simp only [abugidalaw16_cut.l0] at H
   have HC5:=Aside0.mk H
   clear H
   go_upto_region 4 with (fail)
   go_cut [15] (fun v15 wc=>∃ (kq:Nat) (j22:Bool),v15=.bool j22∧Aside0 (abugidalaw16_cut.j1 kq x5_1 j22 l0_0 j7_=some r)∧Aside0 (kq≤k1)∧Aside0 (Kd.V k49 49 wc w.heap.size (fun k_=>(P0_0_ k_∨w.heap.size≤k_)∧some k_≠(u479000:Value).ownBlock∧k_≠j1_∧k_≠j2_∧k_≠j3_) (.slice A0_0 l0_0.length c0_0) l0_0)∧Aside0 (Kd.N k49 49 wc w.heap.size (fun k_=>(P0_0_ k_∨w.heap.size≤k_)∧k_≠j1_∧k_≠j2_∧k_≠j3_) u479000 j7_)∧Aside0 (wc.heap[j1_]?=some (.cells #[(.slice A0_0 l0_0.length c0_0)] 24 (0,0)))∧Aside0 (wc.heap[j2_]?=some (.cells #[(.slice none 0 0)] 24 (0,0)))∧Aside0 (wc.heap[j3_]?=some (.cells #[u479000] 24 (0,0)))∧Aside0 (Below w.heap.size w wc))
   case first =>
    have H:=HC5.out
    clear HC5
    by_cases c6:x5_1<(l0_0.length:Int)
    ·
     rw [if_pos c6] at H
     have c6b0:decide (x5_1<(l0_0.length:Int))=true:=decide_eq_true c6
     clear c6
     (first|rw [c6b0]|(simp only [i64_w,i32_w];rw [c6b0])|skip)
     have H':=Aside0.mk H
     clear H
     have hnb7:=j16.out
     have hnc7:=j17.out
     have hnb8:=j10.out
     have hnc8:=j14.out
     have hcz9_0:wr.cell? ⟨j1_,0,none⟩=some (.slice A0_0 l0_0.length c0_0):=(blk_cell j8_.out 0).trans rfl
     have hfz9_0:=blk_frozen j8_.out 0
     go_wp2
     go_meet
     case rel=>exact ⟨_,(decide (x5_1<9)),za76,H',⟨by have:=HK1.out;first|omega|exact Nat.le_refl _⟩,⟨by (with_reducible repeat (first|apply Kd.V_alloc|apply Kd.V_drewN|apply Kd.V_drew));exact j6_.out⟩,⟨by (with_reducible repeat (first|apply Kd.N_alloc|apply Kd.N_drewN|apply Kd.N_drew));exact j5_.out⟩,⟨by (with_reducible repeat (first|refine blk_drewN ?_ _|refine blk_drew ?_|refine blk_alloc ?_ _));exact j8_.out⟩,⟨by (with_reducible repeat (first|refine blk_drewN ?_ _|refine blk_drew ?_|refine blk_alloc ?_ _));exact jf_.out⟩,⟨by (with_reducible repeat (first|refine blk_drewN ?_ _|refine blk_drew ?_|refine blk_alloc ?_ _));exact j9_.out⟩,⟨by repeat (first|(with_reducible first|exact HB.out|apply below_alloc|apply pw_below_drewN|apply below_drew1|refine below_set ?_ jr_.out|refine below_set ?_ js_.out|refine below_set ?_ jt_.out)|exact HB.out)⟩⟩
    ·
     rw [if_neg c6] at H
     have c6b0:decide (x5_1<(l0_0.length:Int))=false:=decide_eq_false c6
     clear c6
     (first|rw [c6b0]|(simp only [i64_w,i32_w];rw [c6b0])|skip)
     have H':=Aside0.mk H
     clear H
     have hnb10:=j16.out
     have hnc10:=j17.out
     have hnb11:=j10.out
     have hnc11:=j14.out
     have hcz12_0:wr.cell? ⟨j1_,0,none⟩=some (.slice A0_0 l0_0.length c0_0):=(blk_cell j8_.out 0).trans rfl
     have hfz12_0:=blk_frozen j8_.out 0
     go_wp2
     go_meet
     case rel=>exact ⟨_,(false),za76,H',⟨by have:=HK1.out;first|omega|exact Nat.le_refl _⟩,⟨by (with_reducible repeat (first|apply Kd.V_alloc|apply Kd.V_drewN|apply Kd.V_drew));exact j6_.out⟩,⟨by (with_reducible repeat (first|apply Kd.N_alloc|apply Kd.N_drewN|apply Kd.N_drew));exact j5_.out⟩,⟨by (with_reducible repeat (first|refine blk_drewN ?_ _|refine blk_drew ?_|refine blk_alloc ?_ _));exact j8_.out⟩,⟨by (with_reducible repeat (first|refine blk_drewN ?_ _|refine blk_drew ?_|refine blk_alloc ?_ _));exact jf_.out⟩,⟨by (with_reducible repeat (first|refine blk_drewN ?_ _|refine blk_drew ?_|refine blk_alloc ?_ _));exact j9_.out⟩,⟨by repeat (first|(with_reducible first|exact HB.out|apply below_alloc|apply pw_below_drewN|apply below_drew1|refine below_set ?_ jr_.out|refine below_set ?_ js_.out|refine below_set ?_ jt_.out)|exact HB.out)⟩⟩
   case rest =>
    clear HC5
    try clear c1
    try clear p2
    try clear c6
    try clear c6b0
    try clear c7
    try clear c8
    try clear c10
    try clear c11
    try clear hcz12_0
    try clear hcz9_0
    try clear hfz12_0
    try clear hfz9_0
    try clear p2
    obtain ⟨kq,j22,rfl,HA,HJ4,j6_,j5_,j8_,jf_,j9_,HB⟩:=hcut
    cases kq with
    | zero=>exact absurd HA.out (by simp [abugidalaw16_cut.j1])
    | succ kj4 =>
     have H:=HA.out
     clear HA
     simp only [abugidalaw16_cut.j1] at H
     by_cases c13:j22=true
     ·
      subst c13
      have H1:(if 0≤x5_1 then (if x5_1<(l0_0.length:Int) then ((abugidalaw16_cut_1.f kj4 ((rd_T49 l0_0 x5_1).f0)).bind fun t481=>((abugidalaw16_cut_1.f kj4 ((rd_T49 l0_0 x5_1).f1)).bind fun t484=>((abugidalaw16_cut_1.f kj4 ((rd_T49 l0_0 x5_1).f2)).bind fun t487=>(if 0≤(mn (((rd_T49 l0_0 x5_1).f3).length:Int) 5) then (if (mn (((rd_T49 l0_0 x5_1).f3).length:Int) 5)≤(((rd_T49 l0_0 x5_1).f3).length:Int) then (if 0≤(mn (((rd_T49 l0_0 x5_1).f4).length:Int) 4) then (if (mn (((rd_T49 l0_0 x5_1).f4).length:Int) 4)≤(((rd_T49 l0_0 x5_1).f4).length:Int) then (if j7_.length<1172812402961 then (abugidalaw16_cut.l0 kj4 (wrap64 (x5_1+1)) l0_0 (j7_++[(⟨t481,t484,t487,(((rd_T49 l0_0 x5_1).f3).take ((mn (((rd_T49 l0_0 x5_1).f3).length:Int) 5):Int).toNat),(((rd_T49 l0_0 x5_1).f4).take ((mn (((rd_T49 l0_0 x5_1).f4).length:Int) 4):Int).toNat)⟩:S49)])) else (none)) else (none)) else (none)) else (none)) else (none))))) else (none)) else (none))=some r:=by rw [if_pos rfl] at H;exact H
      clear H
      have H:=H1
      clear H1
      by_cases c14:0≤x5_1
      ·
       rw [if_pos c14] at H
       have c14b0:decide (0≤x5_1)=true:=decide_eq_true c14
       clear c14
       by_cases c15:x5_1<(l0_0.length:Int)
       ·
        rw [if_pos c15] at H
        have c15b0:decide (x5_1<(l0_0.length:Int))=true:=decide_eq_true c15
        clear c15
        replace H:=Option.bind_eq_some_iff.mp H
        obtain ⟨t481,A160,H⟩:=H
        replace H:((abugidalaw16_cut_1.f kj4 ((rd_T49 l0_0 x5_1).f1)).bind fun t484=>((abugidalaw16_cut_1.f kj4 ((rd_T49 l0_0 x5_1).f2)).bind fun t487=>(if 0≤(mn (((rd_T49 l0_0 x5_1).f3).length:Int) 5) then (if (mn (((rd_T49 l0_0 x5_1).f3).length:Int) 5)≤(((rd_T49 l0_0 x5_1).f3).length:Int) then (if 0≤(mn (((rd_T49 l0_0 x5_1).f4).length:Int) 4) then (if (mn (((rd_T49 l0_0 x5_1).f4).length:Int) 4)≤(((rd_T49 l0_0 x5_1).f4).length:Int) then (if j7_.length<1172812402961 then (abugidalaw16_cut.l0 kj4 (wrap64 (x5_1+1)) l0_0 (j7_++[(⟨t481,t484,t487,(((rd_T49 l0_0 x5_1).f3).take ((mn (((rd_T49 l0_0 x5_1).f3).length:Int) 5):Int).toNat),(((rd_T49 l0_0 x5_1).f4).take ((mn (((rd_T49 l0_0 x5_1).f4).length:Int) 4):Int).toNat)⟩:S49)])) else (none)) else (none)) else (none)) else (none)) else (none))))=some r:=H
        have A16:=Aside0.mk A160
        clear A160
        replace H:=Option.bind_eq_some_iff.mp H
        obtain ⟨t484,A170,H⟩:=H
        replace H:((abugidalaw16_cut_1.f kj4 ((rd_T49 l0_0 x5_1).f2)).bind fun t487=>(if 0≤(mn (((rd_T49 l0_0 x5_1).f3).length:Int) 5) then (if (mn (((rd_T49 l0_0 x5_1).f3).length:Int) 5)≤(((rd_T49 l0_0 x5_1).f3).length:Int) then (if 0≤(mn (((rd_T49 l0_0 x5_1).f4).length:Int) 4) then (if (mn (((rd_T49 l0_0 x5_1).f4).length:Int) 4)≤(((rd_T49 l0_0 x5_1).f4).length:Int) then (if j7_.length<1172812402961 then (abugidalaw16_cut.l0 kj4 (wrap64 (x5_1+1)) l0_0 (j7_++[(⟨t481,t484,t487,(((rd_T49 l0_0 x5_1).f3).take ((mn (((rd_T49 l0_0 x5_1).f3).length:Int) 5):Int).toNat),(((rd_T49 l0_0 x5_1).f4).take ((mn (((rd_T49 l0_0 x5_1).f4).length:Int) 4):Int).toNat)⟩:S49)])) else (none)) else (none)) else (none)) else (none)) else (none)))=some r:=H
        have A17:=Aside0.mk A170
        clear A170
        replace H:=Option.bind_eq_some_iff.mp H
        obtain ⟨t487,A180,H⟩:=H
        replace H:(if 0≤(mn (((rd_T49 l0_0 x5_1).f3).length:Int) 5) then (if (mn (((rd_T49 l0_0 x5_1).f3).length:Int) 5)≤(((rd_T49 l0_0 x5_1).f3).length:Int) then (if 0≤(mn (((rd_T49 l0_0 x5_1).f4).length:Int) 4) then (if (mn (((rd_T49 l0_0 x5_1).f4).length:Int) 4)≤(((rd_T49 l0_0 x5_1).f4).length:Int) then (if j7_.length<1172812402961 then (abugidalaw16_cut.l0 kj4 (wrap64 (x5_1+1)) l0_0 (j7_++[(⟨t481,t484,t487,(((rd_T49 l0_0 x5_1).f3).take ((mn (((rd_T49 l0_0 x5_1).f3).length:Int) 5):Int).toNat),(((rd_T49 l0_0 x5_1).f4).take ((mn (((rd_T49 l0_0 x5_1).f4).length:Int) 4):Int).toNat)⟩:S49)])) else (none)) else (none)) else (none)) else (none)) else (none))=some r:=H
        have A18:=Aside0.mk A180
        clear A180
        obtain ⟨ji19,j1b⟩:∃ j_:Int,(mn (((rd_T49 l0_0 x5_1).f3).length:Int) 5)=j_:=⟨_,rfl⟩
        replace H:(if 0≤(ji19) then (if (ji19)≤(((rd_T49 l0_0 x5_1).f3).length:Int) then (if 0≤(mn (((rd_T49 l0_0 x5_1).f4).length:Int) 4) then (if (mn (((rd_T49 l0_0 x5_1).f4).length:Int) 4)≤(((rd_T49 l0_0 x5_1).f4).length:Int) then (if j7_.length<1172812402961 then (abugidalaw16_cut.l0 kj4 (wrap64 (x5_1+1)) l0_0 (j7_++[(⟨t481,t484,t487,(((rd_T49 l0_0 x5_1).f3).take ((ji19):Int).toNat),(((rd_T49 l0_0 x5_1).f4).take ((mn (((rd_T49 l0_0 x5_1).f4).length:Int) 4):Int).toNat)⟩:S49)])) else (none)) else (none)) else (none)) else (none)) else (none))=some r:=by first|(rw [j1b] at H;exact H)|(simp only [j1b] at H ⊢;exact H)
        (try rw [j1b] at A16)
        (try rw [j1b] at A17)
        (try rw [j1b] at A18)
        have j30:(if 5<(((rd_T49 l0_0 x5_1).f3).length:Int) then 5 else (((rd_T49 l0_0 x5_1).f3).length:Int))=ji19:=j1b
        by_cases c20:0≤(ji19)
        ·
         rw [if_pos c20] at H
         have c20b0:=eq_true c20
         have c20b1:decide (0≤(ji19))=true:=decide_eq_true c20
         clear c20
         by_cases c21:(ji19)≤(((rd_T49 l0_0 x5_1).f3).length:Int)
         ·
          rw [if_pos c21] at H
          have c21b0:=eq_true c21
          have c21b1:decide ((ji19)≤(((rd_T49 l0_0 x5_1).f3).length:Int))=true:=decide_eq_true c21
          clear c21
          obtain ⟨y490,j1n⟩:∃ y_:List Int,y_=(((rd_T49 l0_0 x5_1).f3).take ((ji19):Int).toNat):=⟨_,rfl⟩
          replace H:(if 0≤(mn (((rd_T49 l0_0 x5_1).f4).length:Int) 4) then (if (mn (((rd_T49 l0_0 x5_1).f4).length:Int) 4)≤(((rd_T49 l0_0 x5_1).f4).length:Int) then (if j7_.length<1172812402961 then (abugidalaw16_cut.l0 kj4 (wrap64 (x5_1+1)) l0_0 (j7_++[(⟨t481,t484,t487,y490,(((rd_T49 l0_0 x5_1).f4).take ((mn (((rd_T49 l0_0 x5_1).f4).length:Int) 4):Int).toNat)⟩:S49)])) else (none)) else (none)) else (none))=some r:=by first|(rw [j1n];with_reducible exact H)|(have H2_:=(Option.bind_some _ _).symm.trans H;rw [j1n];with_reducible exact H2_)|(have H2_:=(Option.bind_some _ _).symm.trans H;with_reducible exact H2_)|with_reducible exact H|(rw [j1n];exact H)|exact H
          have j27:=Aside0.mk j1n
          clear j1n
          obtain ⟨ji22,j1c⟩:∃ j_:Int,(mn (((rd_T49 l0_0 x5_1).f4).length:Int) 4)=j_:=⟨_,rfl⟩
          replace H:(if 0≤(ji22) then (if (ji22)≤(((rd_T49 l0_0 x5_1).f4).length:Int) then (if j7_.length<1172812402961 then (abugidalaw16_cut.l0 kj4 (wrap64 (x5_1+1)) l0_0 (j7_++[(⟨t481,t484,t487,y490,(((rd_T49 l0_0 x5_1).f4).take ((ji22):Int).toNat)⟩:S49)])) else (none)) else (none)) else (none))=some r:=by first|(rw [j1c] at H;exact H)|(simp only [j1c] at H ⊢;exact H)
          (try rw [j1c] at A16)
          (try rw [j1c] at A17)
          (try rw [j1c] at A18)
          have j31:(if 4<(((rd_T49 l0_0 x5_1).f4).length:Int) then 4 else (((rd_T49 l0_0 x5_1).f4).length:Int))=ji22:=j1c
          by_cases c23:0≤(ji22)
          ·
           rw [if_pos c23] at H
           have c23b0:=eq_true c23
           have c23b1:decide (0≤(ji22))=true:=decide_eq_true c23
           clear c23
           by_cases c24:(ji22)≤(((rd_T49 l0_0 x5_1).f4).length:Int)
           ·
            rw [if_pos c24] at H
            have c24b0:=eq_true c24
            have c24b1:decide ((ji22)≤(((rd_T49 l0_0 x5_1).f4).length:Int))=true:=decide_eq_true c24
            clear c24
            obtain ⟨y495,j1o⟩:∃ y_:List (S60),y_=(((rd_T49 l0_0 x5_1).f4).take ((ji22):Int).toNat):=⟨_,rfl⟩
            replace H:(if j7_.length<1172812402961 then (abugidalaw16_cut.l0 kj4 (wrap64 (x5_1+1)) l0_0 (j7_++[(⟨t481,t484,t487,y490,y495⟩:S49)])) else (none))=some r:=by first|(rw [j1o];with_reducible exact H)|(have H2_:=(Option.bind_some _ _).symm.trans H;rw [j1o];with_reducible exact H2_)|(have H2_:=(Option.bind_some _ _).symm.trans H;with_reducible exact H2_)|with_reducible exact H|(rw [j1o];exact H)|exact H
            have j28:=Aside0.mk j1o
            clear j1o
            by_cases c25:j7_.length<1172812402961
            ·
             rw [if_pos c25] at H
             have LMc25:=Aside0.mk c25
             clear c25
             obtain ⟨y500,j1p⟩:∃ y_:List (S49),y_=(j7_++[(⟨t481,t484,t487,y490,y495⟩:S49)]):=⟨_,rfl⟩
             replace H:(abugidalaw16_cut.l0 kj4 (wrap64 (x5_1+1)) l0_0 y500)=some r:=by first|(rw [j1p];with_reducible exact H)|(have H2_:=(Option.bind_some _ _).symm.trans H;rw [j1p];with_reducible exact H2_)|(have H2_:=(Option.bind_some _ _).symm.trans H;with_reducible exact H2_)|with_reducible exact H|(rw [j1p];exact H)|exact H
             have j2l:=Aside0.mk j1p
             clear j1p
             have H':=Aside0.mk H
             clear H
             have hnb26:=j16.out
             have hnc26:=j17.out
             have hnb27:=j10.out
             have hnc27:=j14.out
             have hcz28_0:wc.cell? ⟨j1_,0,none⟩=some (.slice A0_0 l0_0.length c0_0):=(blk_cell j8_.out 0).trans rfl
             have hfz28_0:=blk_frozen j8_.out 0
             have p479:0≤(x5_1:Int):=of_decide_eq_true za73
             have q479:x5_1<(l0_0.length:Int):=of_decide_eq_true za73
             obtain ⟨jy_,jb_,jc_,jg_,jh_,jj_,jk_,jd_,ja_,ji_,je_,e479,j2b,j2c,j2d,j2e,j2f,hl479_0,hi479_0,hl479_1,hi479_1,hl479_2,hi479_2,hl479_3,hi479_3,hl479_4,hi479_4⟩:=at_T49 (Kd.V_reads' j6_.out).2.2 x5_1 p479 q479
             cases e479
             obtain ⟨j35,j2i,j2j,j19⟩:=Kd.V_get j6_.out z49 x5_1 p479 (by first|exact q479|exact of_decide_eq_true za73|(have e_:=(Kd.V_reads' j6_.out).1;omega))
             obtain ⟨j2n,j2o,j2p,j2q,j2r,j2s,j2t,j2u,j2v,j2w,rfl,j1q,j1r,j1s,j1t,j1u,j1v,j1w,j1x,j1y,j1z⟩:=k49_openF j2j
             have j1d:=j19 0 _ rfl
             rw [Nat.add_zero] at j1d
             replace j1d:=Option.some.inj (j1d.symm.trans j2b)
             injection j1d with hva_ hvn_ hvc_
             rw [hva_] at j1r
             rw [hvc_] at j1q
             have jl_:=Aside0.mk (show Kd.V (Kd.slice 3 (Kd.int .i64)) 26 _ w.heap.size _ _ ((rd_T49 l0_0 x5_1).f0) from Kd.V_mk j1q j1r)
             clear hva_ hvn_ hvc_ j1r j1q
             have j1e:=j19 1 _ rfl
             rw [add_field _ _ 1 (by omega)] at j1e
             replace j1e:=Option.some.inj (j1e.symm.trans j2c)
             injection j1e with hva_ hvn_ hvc_
             rw [hva_] at j1t
             rw [hvc_] at j1s
             have jm_:=Aside0.mk (show Kd.V (Kd.slice 3 (Kd.int .i64)) 26 _ w.heap.size _ _ ((rd_T49 l0_0 x5_1).f1) from Kd.V_mk j1s j1t)
             clear hva_ hvn_ hvc_ j1t j1s
             have j1f:=j19 2 _ rfl
             rw [add_field _ _ 2 (by omega)] at j1f
             replace j1f:=Option.some.inj (j1f.symm.trans j2d)
             injection j1f with hva_ hvn_ hvc_
             rw [hva_] at j1v
             rw [hvc_] at j1u
             have jn_:=Aside0.mk (show Kd.V (Kd.slice 3 (Kd.int .i64)) 26 _ w.heap.size _ _ ((rd_T49 l0_0 x5_1).f2) from Kd.V_mk j1u j1v)
             clear hva_ hvn_ hvc_ j1v j1u
             have j1g:=j19 3 _ rfl
             rw [add_field _ _ 3 (by omega)] at j1g
             replace j1g:=Option.some.inj (j1g.symm.trans j2e)
             injection j1g with hva_ hvn_ hvc_
             rw [hva_] at j1x
             rw [hvc_] at j1w
             have jo_:=Aside0.mk (show Kd.V (Kd.int .i64) 3 _ w.heap.size _ _ ((rd_T49 l0_0 x5_1).f3) from Kd.V_mk j1w j1x)
             clear hva_ hvn_ hvc_ j1x j1w
             have j1h:=j19 4 _ rfl
             rw [add_field _ _ 4 (by omega)] at j1h
             replace j1h:=Option.some.inj (j1h.symm.trans j2f)
             injection j1h with hva_ hvn_ hvc_
             rw [hva_] at j1z
             rw [hvc_] at j1y
             have jp_:=Aside0.mk (show Kd.V k60 60 _ w.heap.size _ _ ((rd_T49 l0_0 x5_1).f4) from Kd.V_mk j1y j1z)
             clear hva_ hvn_ hvc_ j1z j1y
             clear j19 j2i
             have j1i:=Aside0.mk hi479_0
             have j2x:=Aside0.mk hl479_0
             clear hi479_0 hl479_0
             have j1j:=Aside0.mk hi479_1
             have j2y:=Aside0.mk hl479_1
             clear hi479_1 hl479_1
             have j1k:=Aside0.mk hi479_2
             have j2z:=Aside0.mk hl479_2
             clear hi479_2 hl479_2
             have j1l:=Aside0.mk hi479_3
             have j2g:=Aside0.mk hl479_3
             clear hi479_3 hl479_3
             have j1m:=Aside0.mk hi479_4
             have j2h:=Aside0.mk hl479_4
             clear hi479_4 hl479_4
             replace p479:=eq_true p479
             replace q479:=eq_true q479
             try go_wp2_with (first|((with_reducible refine gate_dst (N:=6) rfl ?_);refine box_event ?hg (N:=6) ?hd (cs:=#[.slice none 0 0,.slice none 0 0,.slice none 0 0,.slice none 0 0,.slice none 0 0]) (t:=49) ?hr ?_;(case hd=>rfl);(case hg=>rfl);(case hr=>first|(go_simp;done)|(go_simp;rfl));intro j0_ hg w29 hbox hb;have n0_:=Aside0.mk (Kd.V_below (Kd.V_elderB za61 j0_ (Nat.le_of_eq hg.symm)) hb);have n1_:=Aside0.mk (Kd.N_below (Kd.N_elderB za62 j0_ (Nat.le_of_eq hg.symm)) hb);have n2_:=Aside0.mk (Kd.V_below (Kd.V_elderB za63 j0_ (Nat.le_of_eq hg.symm)) hb);have n3_:=Aside0.mk (Kd.V_below (Kd.V_elderB za64 j0_ (Nat.le_of_eq hg.symm)) hb);have n4_:=Aside0.mk (Kd.V_below (Kd.V_elderB za65 j0_ (Nat.le_of_eq hg.symm)) hb);have n5_:=Aside0.mk (Kd.V_below (Kd.V_elderB za66 j0_ (Nat.le_of_eq hg.symm)) hb);have n6_:=Aside0.mk (Kd.V_below (Kd.V_elderB za67 j0_ (Nat.le_of_eq hg.symm)) hb);have n7_:=Aside0.mk (blk_below (g:=j1_) (o:=.cells #[.slice (some jy_) l0_0.length c0_0] 24 (0,0)) za47 hb);have n8_:=Aside0.mk (blk_below (g:=j2_) (o:=.cells #[.slice none 0 0] 24 (0,0)) za48 hb);have n9_:=Aside0.mk (blk_below (g:=j3_) (o:=.cells #[u479000] 24 (0,0)) za49 hb);have n10_:=Aside0.mk (Kd.C_below (by repeat (first|(with_reducible exact j1i.out)|(with_reducible refine Kd.C_alloc ?_ _)|(with_reducible refine Kd.C_drewN ?_ _)|(with_reducible refine Kd.C_drew ?_)|exact j1i.out)) hb);have n11_:=Aside0.mk (Kd.C_below (by repeat (first|(with_reducible exact j1j.out)|(with_reducible refine Kd.C_alloc ?_ _)|(with_reducible refine Kd.C_drewN ?_ _)|(with_reducible refine Kd.C_drew ?_)|exact j1j.out)) hb);have n12_:=Aside0.mk (Kd.C_below (by repeat (first|(with_reducible exact j1k.out)|(with_reducible refine Kd.C_alloc ?_ _)|(with_reducible refine Kd.C_drewN ?_ _)|(with_reducible refine Kd.C_drew ?_)|exact j1k.out)) hb);have n13_:=Aside0.mk (Kd.C_below (by repeat (first|(with_reducible exact j1l.out)|(with_reducible refine Kd.C_alloc ?_ _)|(with_reducible refine Kd.C_drewN ?_ _)|(with_reducible refine Kd.C_drew ?_)|exact j1l.out)) hb);have n14_:=Aside0.mk (Kd.C_below (by repeat (first|(with_reducible exact j1m.out)|(with_reducible refine Kd.C_alloc ?_ _)|(with_reducible refine Kd.C_drewN ?_ _)|(with_reducible refine Kd.C_drew ?_)|exact j1m.out)) hb);have n15_:=Aside0.mk (below_step (by repeat (first|(with_reducible first|exact HB.out|apply below_alloc|apply pw_below_drewN|apply below_drew1|refine below_set ?_ jr_.out|refine below_set ?_ js_.out|refine below_set ?_ jt_.out)|exact HB.out)) hb);have n16_:=Aside0.mk (hbox);have n17_:=Aside0.mk ((za7:w.heap.size≤j0_));have n18_:=Aside0.mk ((za7:w.heap.size≤j0_));have n19_:=Aside0.mk ((by rw [hg];exact Nat.ne_of_lt (blk_lt (g:=j1_) (o:=.cells #[.slice (some jy_) l0_0.length c0_0] 24 (0,0)) za47):j1_≠j0_));have n20_:=Aside0.mk ((by rw [hg];exact Nat.ne_of_gt (blk_lt (g:=j1_) (o:=.cells #[.slice (some jy_) l0_0.length c0_0] 24 (0,0)) za47):j0_≠j1_));have n21_:=Aside0.mk ((za15:j2_≠j0_));have n22_:=Aside0.mk ((za16:j0_≠j2_));have n23_:=Aside0.mk ((by rw [hg];exact Nat.ne_of_lt (blk_lt (g:=j3_) (o:=.cells #[u479000] 24 (0,0)) za49):j3_≠j0_));have n24_:=Aside0.mk ((by rw [hg];exact Nat.ne_of_gt (blk_lt (g:=j3_) (o:=.cells #[u479000] 24 (0,0)) za49):j0_≠j3_));clear j6_;clear j5_;clear jl_;clear jm_;clear jn_;clear jo_;clear jp_;clear j8_;clear jf_;clear j9_;clear j1i;clear j1j;clear j1k;clear j1l;clear j1m;clear HB;have j6_:=n0_;have j5_:=n1_;have jl_:=n2_;have jm_:=n3_;have jn_:=n4_;have jo_:=n5_;have jp_:=n6_;have j8_:=n7_;have jf_:=n8_;have j9_:=n9_;have j1i:=n10_;have j1j:=n11_;have j1k:=n12_;have j1l:=n13_;have j1m:=n14_;have HB:=n15_;have j4_:=n16_;have j36:=n17_;have jw_:=n18_;have j11:=n19_;have j25:=n20_;have j12:=n21_;have j26:=n22_;have jx_:=n23_;have j21:=n24_;clear n0_ n1_ n2_ n3_ n4_ n5_ n6_ n7_ n8_ n9_ n10_ n11_ n12_ n13_ n14_ n15_ n16_ n17_ n18_ n19_ n20_ n21_ n22_ n23_ n24_;clear hb hbox hg;have hnb30:=j25.out;have hnc30:=j11.out;have hnb31:=j26.out;have hnc31:=j12.out;have hnb32:=j21.out;have hnc32:=jx_.out;have hcz33_0:w29.cell? ⟨j0_,0,none⟩=some (.slice none 0 0):=(blk_cell j4_.out 0).trans rfl;have hcz33_1:w29.cell? ⟨j0_,1,none⟩=some (.slice none 0 0):=(blk_cell j4_.out 1).trans rfl;have hcz33_2:w29.cell? ⟨j0_,2,none⟩=some (.slice none 0 0):=(blk_cell j4_.out 2).trans rfl;have hcz33_3:w29.cell? ⟨j0_,3,none⟩=some (.slice none 0 0):=(blk_cell j4_.out 3).trans rfl;have hcz33_4:w29.cell? ⟨j0_,4,none⟩=some (.slice none 0 0):=(blk_cell j4_.out 4).trans rfl;have hfz33_0:=blk_frozen j4_.out 0;have hfz33_1:=blk_frozen j4_.out 1;have hfz33_2:=blk_frozen j4_.out 2;have hfz33_3:=blk_frozen j4_.out 3;have hfz33_4:=blk_frozen j4_.out 4))
             have n0_:Aside0 (Kd.V k49 49 (((((w29.setCell ⟨j0_,0,none⟩ (.slice jb_ ((rd_T49 l0_0 x5_1).f0).length jc_)).setCell ⟨j0_,1,none⟩ (.slice jg_ ((rd_T49 l0_0 x5_1).f1).length jh_)).setCell ⟨j0_,2,none⟩ (.slice jj_ ((rd_T49 l0_0 x5_1).f2).length jk_)).setCell ⟨j0_,3,none⟩ (.slice jd_ ((rd_T49 l0_0 x5_1).f3).length ja_)).setCell ⟨j0_,4,none⟩ (.slice ji_ ((rd_T49 l0_0 x5_1).f4).length je_)) w.heap.size (fun k_=>(P0_0_ k_∨w.heap.size≤k_)∧some k_≠(u479000:Value).ownBlock∧k_≠j1_∧k_≠j2_∧k_≠j3_∧k_≠j0_) (.slice (some jy_) l0_0.length c0_0) l0_0):=⟨by (with_reducible repeat (first|apply Kd.V_alloc|apply Kd.V_drewN|apply Kd.V_drew));exact Kd.V_mono (Kd.V_far (p:=⟨j0_,4,none⟩) (Kd.V_far (p:=⟨j0_,3,none⟩) (Kd.V_far (p:=⟨j0_,2,none⟩) (Kd.V_far (p:=⟨j0_,1,none⟩) (Kd.V_far (p:=⟨j0_,0,none⟩) (Kd.V_mono j6_.out (fun k_ hk=>(⟨hk,hk.2⟩:_∧k_≠j0_))) (fun _ hk=>hk.2) (.slice jb_ ((rd_T49 l0_0 x5_1).f0).length jc_)) (fun _ hk=>hk.2) (.slice jg_ ((rd_T49 l0_0 x5_1).f1).length jh_)) (fun _ hk=>hk.2) (.slice jj_ ((rd_T49 l0_0 x5_1).f2).length jk_)) (fun _ hk=>hk.2) (.slice jd_ ((rd_T49 l0_0 x5_1).f3).length ja_)) (fun _ hk=>hk.2) (.slice ji_ ((rd_T49 l0_0 x5_1).f4).length je_)) (fun _ hk=>⟨hk.1.1.1,⟨hk.1.1.2.1,⟨hk.1.1.2.2.1,⟨hk.1.1.2.2.2.1,⟨hk.1.1.2.2.2.2,hk.1.2⟩⟩⟩⟩⟩)⟩
             have n1_:Aside0 (Kd.N k49 49 (((((w29.setCell ⟨j0_,0,none⟩ (.slice jb_ ((rd_T49 l0_0 x5_1).f0).length jc_)).setCell ⟨j0_,1,none⟩ (.slice jg_ ((rd_T49 l0_0 x5_1).f1).length jh_)).setCell ⟨j0_,2,none⟩ (.slice jj_ ((rd_T49 l0_0 x5_1).f2).length jk_)).setCell ⟨j0_,3,none⟩ (.slice jd_ ((rd_T49 l0_0 x5_1).f3).length ja_)).setCell ⟨j0_,4,none⟩ (.slice ji_ ((rd_T49 l0_0 x5_1).f4).length je_)) w.heap.size (fun k_=>(P0_0_ k_∨w.heap.size≤k_)∧k_≠j1_∧k_≠j2_∧k_≠j3_∧k_≠j0_) u479000 j7_):=⟨by (with_reducible repeat (first|apply Kd.N_alloc|apply Kd.N_drewN|apply Kd.N_drew));exact Kd.N_mono (Kd.N_far (p:=⟨j0_,4,none⟩) (Kd.N_far (p:=⟨j0_,3,none⟩) (Kd.N_far (p:=⟨j0_,2,none⟩) (Kd.N_far (p:=⟨j0_,1,none⟩) (Kd.N_far (p:=⟨j0_,0,none⟩) (Kd.N_mono j5_.out (fun k_ hk=>(⟨hk,hk.2⟩:_∧k_≠j0_))) (fun _ hk=>hk.2) (.slice jb_ ((rd_T49 l0_0 x5_1).f0).length jc_)) (fun _ hk=>hk.2) (.slice jg_ ((rd_T49 l0_0 x5_1).f1).length jh_)) (fun _ hk=>hk.2) (.slice jj_ ((rd_T49 l0_0 x5_1).f2).length jk_)) (fun _ hk=>hk.2) (.slice jd_ ((rd_T49 l0_0 x5_1).f3).length ja_)) (fun _ hk=>hk.2) (.slice ji_ ((rd_T49 l0_0 x5_1).f4).length je_)) (fun _ hk=>⟨hk.1.1.1,⟨hk.1.1.2.1,⟨hk.1.1.2.2.1,⟨hk.1.1.2.2.2,hk.1.2⟩⟩⟩⟩)⟩
             have n2_:Aside0 (Kd.V (Kd.slice 3 (Kd.int .i64)) 26 (((((w29.setCell ⟨j0_,0,none⟩ (.slice jb_ ((rd_T49 l0_0 x5_1).f0).length jc_)).setCell ⟨j0_,1,none⟩ (.slice jg_ ((rd_T49 l0_0 x5_1).f1).length jh_)).setCell ⟨j0_,2,none⟩ (.slice jj_ ((rd_T49 l0_0 x5_1).f2).length jk_)).setCell ⟨j0_,3,none⟩ (.slice jd_ ((rd_T49 l0_0 x5_1).f3).length ja_)).setCell ⟨j0_,4,none⟩ (.slice ji_ ((rd_T49 l0_0 x5_1).f4).length je_)) w.heap.size (fun k_=>(P0_0_ k_∨w.heap.size≤k_)∧some k_≠(u479000:Value).ownBlock∧k_≠j1_∧k_≠j2_∧k_≠j3_∧k_≠j0_) (.slice jb_ ((rd_T49 l0_0 x5_1).f0).length jc_) ((rd_T49 l0_0 x5_1).f0)):=⟨by (with_reducible repeat (first|apply Kd.V_alloc|apply Kd.V_drewN|apply Kd.V_drew));exact Kd.V_mono (Kd.V_far (p:=⟨j0_,4,none⟩) (Kd.V_far (p:=⟨j0_,3,none⟩) (Kd.V_far (p:=⟨j0_,2,none⟩) (Kd.V_far (p:=⟨j0_,1,none⟩) (Kd.V_far (p:=⟨j0_,0,none⟩) (Kd.V_mono jl_.out (fun k_ hk=>(⟨hk,hk.2⟩:_∧k_≠j0_))) (fun _ hk=>hk.2) (.slice jb_ ((rd_T49 l0_0 x5_1).f0).length jc_)) (fun _ hk=>hk.2) (.slice jg_ ((rd_T49 l0_0 x5_1).f1).length jh_)) (fun _ hk=>hk.2) (.slice jj_ ((rd_T49 l0_0 x5_1).f2).length jk_)) (fun _ hk=>hk.2) (.slice jd_ ((rd_T49 l0_0 x5_1).f3).length ja_)) (fun _ hk=>hk.2) (.slice ji_ ((rd_T49 l0_0 x5_1).f4).length je_)) (fun _ hk=>⟨hk.1.1.1,⟨hk.1.1.2.1,⟨hk.1.1.2.2.1,⟨hk.1.1.2.2.2.1,⟨hk.1.1.2.2.2.2,hk.1.2⟩⟩⟩⟩⟩)⟩
             have n3_:Aside0 (Kd.V (Kd.slice 3 (Kd.int .i64)) 26 (((((w29.setCell ⟨j0_,0,none⟩ (.slice jb_ ((rd_T49 l0_0 x5_1).f0).length jc_)).setCell ⟨j0_,1,none⟩ (.slice jg_ ((rd_T49 l0_0 x5_1).f1).length jh_)).setCell ⟨j0_,2,none⟩ (.slice jj_ ((rd_T49 l0_0 x5_1).f2).length jk_)).setCell ⟨j0_,3,none⟩ (.slice jd_ ((rd_T49 l0_0 x5_1).f3).length ja_)).setCell ⟨j0_,4,none⟩ (.slice ji_ ((rd_T49 l0_0 x5_1).f4).length je_)) w.heap.size (fun k_=>(P0_0_ k_∨w.heap.size≤k_)∧some k_≠(u479000:Value).ownBlock∧k_≠j1_∧k_≠j2_∧k_≠j3_∧k_≠j0_) (.slice jg_ ((rd_T49 l0_0 x5_1).f1).length jh_) ((rd_T49 l0_0 x5_1).f1)):=⟨by (with_reducible repeat (first|apply Kd.V_alloc|apply Kd.V_drewN|apply Kd.V_drew));exact Kd.V_mono (Kd.V_far (p:=⟨j0_,4,none⟩) (Kd.V_far (p:=⟨j0_,3,none⟩) (Kd.V_far (p:=⟨j0_,2,none⟩) (Kd.V_far (p:=⟨j0_,1,none⟩) (Kd.V_far (p:=⟨j0_,0,none⟩) (Kd.V_mono jm_.out (fun k_ hk=>(⟨hk,hk.2⟩:_∧k_≠j0_))) (fun _ hk=>hk.2) (.slice jb_ ((rd_T49 l0_0 x5_1).f0).length jc_)) (fun _ hk=>hk.2) (.slice jg_ ((rd_T49 l0_0 x5_1).f1).length jh_)) (fun _ hk=>hk.2) (.slice jj_ ((rd_T49 l0_0 x5_1).f2).length jk_)) (fun _ hk=>hk.2) (.slice jd_ ((rd_T49 l0_0 x5_1).f3).length ja_)) (fun _ hk=>hk.2) (.slice ji_ ((rd_T49 l0_0 x5_1).f4).length je_)) (fun _ hk=>⟨hk.1.1.1,⟨hk.1.1.2.1,⟨hk.1.1.2.2.1,⟨hk.1.1.2.2.2.1,⟨hk.1.1.2.2.2.2,hk.1.2⟩⟩⟩⟩⟩)⟩
             have n4_:Aside0 (Kd.V (Kd.slice 3 (Kd.int .i64)) 26 (((((w29.setCell ⟨j0_,0,none⟩ (.slice jb_ ((rd_T49 l0_0 x5_1).f0).length jc_)).setCell ⟨j0_,1,none⟩ (.slice jg_ ((rd_T49 l0_0 x5_1).f1).length jh_)).setCell ⟨j0_,2,none⟩ (.slice jj_ ((rd_T49 l0_0 x5_1).f2).length jk_)).setCell ⟨j0_,3,none⟩ (.slice jd_ ((rd_T49 l0_0 x5_1).f3).length ja_)).setCell ⟨j0_,4,none⟩ (.slice ji_ ((rd_T49 l0_0 x5_1).f4).length je_)) w.heap.size (fun k_=>(P0_0_ k_∨w.heap.size≤k_)∧some k_≠(u479000:Value).ownBlock∧k_≠j1_∧k_≠j2_∧k_≠j3_∧k_≠j0_) (.slice jj_ ((rd_T49 l0_0 x5_1).f2).length jk_) ((rd_T49 l0_0 x5_1).f2)):=⟨by (with_reducible repeat (first|apply Kd.V_alloc|apply Kd.V_drewN|apply Kd.V_drew));exact Kd.V_mono (Kd.V_far (p:=⟨j0_,4,none⟩) (Kd.V_far (p:=⟨j0_,3,none⟩) (Kd.V_far (p:=⟨j0_,2,none⟩) (Kd.V_far (p:=⟨j0_,1,none⟩) (Kd.V_far (p:=⟨j0_,0,none⟩) (Kd.V_mono jn_.out (fun k_ hk=>(⟨hk,hk.2⟩:_∧k_≠j0_))) (fun _ hk=>hk.2) (.slice jb_ ((rd_T49 l0_0 x5_1).f0).length jc_)) (fun _ hk=>hk.2) (.slice jg_ ((rd_T49 l0_0 x5_1).f1).length jh_)) (fun _ hk=>hk.2) (.slice jj_ ((rd_T49 l0_0 x5_1).f2).length jk_)) (fun _ hk=>hk.2) (.slice jd_ ((rd_T49 l0_0 x5_1).f3).length ja_)) (fun _ hk=>hk.2) (.slice ji_ ((rd_T49 l0_0 x5_1).f4).length je_)) (fun _ hk=>⟨hk.1.1.1,⟨hk.1.1.2.1,⟨hk.1.1.2.2.1,⟨hk.1.1.2.2.2.1,⟨hk.1.1.2.2.2.2,hk.1.2⟩⟩⟩⟩⟩)⟩
             have n5_:Aside0 (Kd.V (Kd.int .i64) 3 (((((w29.setCell ⟨j0_,0,none⟩ (.slice jb_ ((rd_T49 l0_0 x5_1).f0).length jc_)).setCell ⟨j0_,1,none⟩ (.slice jg_ ((rd_T49 l0_0 x5_1).f1).length jh_)).setCell ⟨j0_,2,none⟩ (.slice jj_ ((rd_T49 l0_0 x5_1).f2).length jk_)).setCell ⟨j0_,3,none⟩ (.slice jd_ ((rd_T49 l0_0 x5_1).f3).length ja_)).setCell ⟨j0_,4,none⟩ (.slice ji_ ((rd_T49 l0_0 x5_1).f4).length je_)) w.heap.size (fun k_=>(P0_0_ k_∨w.heap.size≤k_)∧some k_≠(u479000:Value).ownBlock∧k_≠j1_∧k_≠j2_∧k_≠j3_∧k_≠j0_) (.slice jd_ ((rd_T49 l0_0 x5_1).f3).length ja_) ((rd_T49 l0_0 x5_1).f3)):=⟨by (with_reducible repeat (first|apply Kd.V_alloc|apply Kd.V_drewN|apply Kd.V_drew));exact Kd.V_mono (Kd.V_far (p:=⟨j0_,4,none⟩) (Kd.V_far (p:=⟨j0_,3,none⟩) (Kd.V_far (p:=⟨j0_,2,none⟩) (Kd.V_far (p:=⟨j0_,1,none⟩) (Kd.V_far (p:=⟨j0_,0,none⟩) (Kd.V_mono jo_.out (fun k_ hk=>(⟨hk,hk.2⟩:_∧k_≠j0_))) (fun _ hk=>hk.2) (.slice jb_ ((rd_T49 l0_0 x5_1).f0).length jc_)) (fun _ hk=>hk.2) (.slice jg_ ((rd_T49 l0_0 x5_1).f1).length jh_)) (fun _ hk=>hk.2) (.slice jj_ ((rd_T49 l0_0 x5_1).f2).length jk_)) (fun _ hk=>hk.2) (.slice jd_ ((rd_T49 l0_0 x5_1).f3).length ja_)) (fun _ hk=>hk.2) (.slice ji_ ((rd_T49 l0_0 x5_1).f4).length je_)) (fun _ hk=>⟨hk.1.1.1,⟨hk.1.1.2.1,⟨hk.1.1.2.2.1,⟨hk.1.1.2.2.2.1,⟨hk.1.1.2.2.2.2,hk.1.2⟩⟩⟩⟩⟩)⟩
             have n6_:Aside0 (Kd.V k60 60 (((((w29.setCell ⟨j0_,0,none⟩ (.slice jb_ ((rd_T49 l0_0 x5_1).f0).length jc_)).setCell ⟨j0_,1,none⟩ (.slice jg_ ((rd_T49 l0_0 x5_1).f1).length jh_)).setCell ⟨j0_,2,none⟩ (.slice jj_ ((rd_T49 l0_0 x5_1).f2).length jk_)).setCell ⟨j0_,3,none⟩ (.slice jd_ ((rd_T49 l0_0 x5_1).f3).length ja_)).setCell ⟨j0_,4,none⟩ (.slice ji_ ((rd_T49 l0_0 x5_1).f4).length je_)) w.heap.size (fun k_=>(P0_0_ k_∨w.heap.size≤k_)∧some k_≠(u479000:Value).ownBlock∧k_≠j1_∧k_≠j2_∧k_≠j3_∧k_≠j0_) (.slice ji_ ((rd_T49 l0_0 x5_1).f4).length je_) ((rd_T49 l0_0 x5_1).f4)):=⟨by (with_reducible repeat (first|apply Kd.V_alloc|apply Kd.V_drewN|apply Kd.V_drew));exact Kd.V_mono (Kd.V_far (p:=⟨j0_,4,none⟩) (Kd.V_far (p:=⟨j0_,3,none⟩) (Kd.V_far (p:=⟨j0_,2,none⟩) (Kd.V_far (p:=⟨j0_,1,none⟩) (Kd.V_far (p:=⟨j0_,0,none⟩) (Kd.V_mono jp_.out (fun k_ hk=>(⟨hk,hk.2⟩:_∧k_≠j0_))) (fun _ hk=>hk.2) (.slice jb_ ((rd_T49 l0_0 x5_1).f0).length jc_)) (fun _ hk=>hk.2) (.slice jg_ ((rd_T49 l0_0 x5_1).f1).length jh_)) (fun _ hk=>hk.2) (.slice jj_ ((rd_T49 l0_0 x5_1).f2).length jk_)) (fun _ hk=>hk.2) (.slice jd_ ((rd_T49 l0_0 x5_1).f3).length ja_)) (fun _ hk=>hk.2) (.slice ji_ ((rd_T49 l0_0 x5_1).f4).length je_)) (fun _ hk=>⟨hk.1.1.1,⟨hk.1.1.2.1,⟨hk.1.1.2.2.1,⟨hk.1.1.2.2.2.1,⟨hk.1.1.2.2.2.2,hk.1.2⟩⟩⟩⟩⟩)⟩
             have n7_:Aside0 ((((((w29.setCell ⟨j0_,0,none⟩ (.slice jb_ ((rd_T49 l0_0 x5_1).f0).length jc_)).setCell ⟨j0_,1,none⟩ (.slice jg_ ((rd_T49 l0_0 x5_1).f1).length jh_)).setCell ⟨j0_,2,none⟩ (.slice jj_ ((rd_T49 l0_0 x5_1).f2).length jk_)).setCell ⟨j0_,3,none⟩ (.slice jd_ ((rd_T49 l0_0 x5_1).f3).length ja_)).setCell ⟨j0_,4,none⟩ (.slice ji_ ((rd_T49 l0_0 x5_1).f4).length je_)).heap[j1_]?=some (.cells #[.slice (some jy_) l0_0.length c0_0] 24 (0,0))):=⟨by (with_reducible repeat (first|refine blk_drewN ?_ _|refine blk_drew ?_|refine blk_alloc ?_ _));refine blk_far ?_ j11.out _;(with_reducible repeat (first|refine blk_drewN ?_ _|refine blk_drew ?_|refine blk_alloc ?_ _));refine blk_far ?_ j11.out _;(with_reducible repeat (first|refine blk_drewN ?_ _|refine blk_drew ?_|refine blk_alloc ?_ _));refine blk_far ?_ j11.out _;(with_reducible repeat (first|refine blk_drewN ?_ _|refine blk_drew ?_|refine blk_alloc ?_ _));refine blk_far ?_ j11.out _;(with_reducible repeat (first|refine blk_drewN ?_ _|refine blk_drew ?_|refine blk_alloc ?_ _));refine blk_far ?_ j11.out _;(with_reducible repeat (first|refine blk_drewN ?_ _|refine blk_drew ?_|refine blk_alloc ?_ _));exact j8_.out⟩
             have n8_:Aside0 ((((((w29.setCell ⟨j0_,0,none⟩ (.slice jb_ ((rd_T49 l0_0 x5_1).f0).length jc_)).setCell ⟨j0_,1,none⟩ (.slice jg_ ((rd_T49 l0_0 x5_1).f1).length jh_)).setCell ⟨j0_,2,none⟩ (.slice jj_ ((rd_T49 l0_0 x5_1).f2).length jk_)).setCell ⟨j0_,3,none⟩ (.slice jd_ ((rd_T49 l0_0 x5_1).f3).length ja_)).setCell ⟨j0_,4,none⟩ (.slice ji_ ((rd_T49 l0_0 x5_1).f4).length je_)).heap[j2_]?=some (.cells #[.slice none 0 0] 24 (0,0))):=⟨by (with_reducible repeat (first|refine blk_drewN ?_ _|refine blk_drew ?_|refine blk_alloc ?_ _));refine blk_far ?_ j12.out _;(with_reducible repeat (first|refine blk_drewN ?_ _|refine blk_drew ?_|refine blk_alloc ?_ _));refine blk_far ?_ j12.out _;(with_reducible repeat (first|refine blk_drewN ?_ _|refine blk_drew ?_|refine blk_alloc ?_ _));refine blk_far ?_ j12.out _;(with_reducible repeat (first|refine blk_drewN ?_ _|refine blk_drew ?_|refine blk_alloc ?_ _));refine blk_far ?_ j12.out _;(with_reducible repeat (first|refine blk_drewN ?_ _|refine blk_drew ?_|refine blk_alloc ?_ _));refine blk_far ?_ j12.out _;(with_reducible repeat (first|refine blk_drewN ?_ _|refine blk_drew ?_|refine blk_alloc ?_ _));exact jf_.out⟩
             have n9_:Aside0 ((((((w29.setCell ⟨j0_,0,none⟩ (.slice jb_ ((rd_T49 l0_0 x5_1).f0).length jc_)).setCell ⟨j0_,1,none⟩ (.slice jg_ ((rd_T49 l0_0 x5_1).f1).length jh_)).setCell ⟨j0_,2,none⟩ (.slice jj_ ((rd_T49 l0_0 x5_1).f2).length jk_)).setCell ⟨j0_,3,none⟩ (.slice jd_ ((rd_T49 l0_0 x5_1).f3).length ja_)).setCell ⟨j0_,4,none⟩ (.slice ji_ ((rd_T49 l0_0 x5_1).f4).length je_)).heap[j3_]?=some (.cells #[u479000] 24 (0,0))):=⟨by (with_reducible repeat (first|refine blk_drewN ?_ _|refine blk_drew ?_|refine blk_alloc ?_ _));refine blk_far ?_ jx_.out _;(with_reducible repeat (first|refine blk_drewN ?_ _|refine blk_drew ?_|refine blk_alloc ?_ _));refine blk_far ?_ jx_.out _;(with_reducible repeat (first|refine blk_drewN ?_ _|refine blk_drew ?_|refine blk_alloc ?_ _));refine blk_far ?_ jx_.out _;(with_reducible repeat (first|refine blk_drewN ?_ _|refine blk_drew ?_|refine blk_alloc ?_ _));refine blk_far ?_ jx_.out _;(with_reducible repeat (first|refine blk_drewN ?_ _|refine blk_drew ?_|refine blk_alloc ?_ _));refine blk_far ?_ jx_.out _;(with_reducible repeat (first|refine blk_drewN ?_ _|refine blk_drew ?_|refine blk_alloc ?_ _));exact j9_.out⟩
             have n10_:Aside0 ((((((w29.setCell ⟨j0_,0,none⟩ (.slice jb_ ((rd_T49 l0_0 x5_1).f0).length jc_)).setCell ⟨j0_,1,none⟩ (.slice jg_ ((rd_T49 l0_0 x5_1).f1).length jh_)).setCell ⟨j0_,2,none⟩ (.slice jj_ ((rd_T49 l0_0 x5_1).f2).length jk_)).setCell ⟨j0_,3,none⟩ (.slice jd_ ((rd_T49 l0_0 x5_1).f3).length ja_)).setCell ⟨j0_,4,none⟩ (.slice ji_ ((rd_T49 l0_0 x5_1).f4).length je_)).heap[j0_]?=some (.cells #[.slice jb_ ((rd_T49 l0_0 x5_1).f0).length jc_,.slice jg_ ((rd_T49 l0_0 x5_1).f1).length jh_,.slice jj_ ((rd_T49 l0_0 x5_1).f2).length jk_,.slice jd_ ((rd_T49 l0_0 x5_1).f3).length ja_,.slice ji_ ((rd_T49 l0_0 x5_1).f4).length je_] 49 (0,0))):=⟨by (with_reducible repeat (first|refine blk_drewN ?_ _|refine blk_drew ?_|refine blk_alloc ?_ _));refine blk_put (cs:=#[.slice jb_ ((rd_T49 l0_0 x5_1).f0).length jc_,.slice jg_ ((rd_T49 l0_0 x5_1).f1).length jh_,.slice jj_ ((rd_T49 l0_0 x5_1).f2).length jk_,.slice jd_ ((rd_T49 l0_0 x5_1).f3).length ja_,.slice none 0 0]) ?_ 4 _ rfl;(with_reducible repeat (first|refine blk_drewN ?_ _|refine blk_drew ?_|refine blk_alloc ?_ _));refine blk_put (cs:=#[.slice jb_ ((rd_T49 l0_0 x5_1).f0).length jc_,.slice jg_ ((rd_T49 l0_0 x5_1).f1).length jh_,.slice jj_ ((rd_T49 l0_0 x5_1).f2).length jk_,.slice none 0 0,.slice none 0 0]) ?_ 3 _ rfl;(with_reducible repeat (first|refine blk_drewN ?_ _|refine blk_drew ?_|refine blk_alloc ?_ _));refine blk_put (cs:=#[.slice jb_ ((rd_T49 l0_0 x5_1).f0).length jc_,.slice jg_ ((rd_T49 l0_0 x5_1).f1).length jh_,.slice none 0 0,.slice none 0 0,.slice none 0 0]) ?_ 2 _ rfl;(with_reducible repeat (first|refine blk_drewN ?_ _|refine blk_drew ?_|refine blk_alloc ?_ _));refine blk_put (cs:=#[.slice jb_ ((rd_T49 l0_0 x5_1).f0).length jc_,.slice none 0 0,.slice none 0 0,.slice none 0 0,.slice none 0 0]) ?_ 1 _ rfl;(with_reducible repeat (first|refine blk_drewN ?_ _|refine blk_drew ?_|refine blk_alloc ?_ _));refine blk_put (cs:=#[.slice none 0 0,.slice none 0 0,.slice none 0 0,.slice none 0 0,.slice none 0 0]) ?_ 0 _ rfl;(with_reducible repeat (first|refine blk_drewN ?_ _|refine blk_drew ?_|refine blk_alloc ?_ _));exact j4_.out⟩
             have n11_:Aside0 (Below w.heap.size w (((((w29.setCell ⟨j0_,0,none⟩ (.slice jb_ ((rd_T49 l0_0 x5_1).f0).length jc_)).setCell ⟨j0_,1,none⟩ (.slice jg_ ((rd_T49 l0_0 x5_1).f1).length jh_)).setCell ⟨j0_,2,none⟩ (.slice jj_ ((rd_T49 l0_0 x5_1).f2).length jk_)).setCell ⟨j0_,3,none⟩ (.slice jd_ ((rd_T49 l0_0 x5_1).f3).length ja_)).setCell ⟨j0_,4,none⟩ (.slice ji_ ((rd_T49 l0_0 x5_1).f4).length je_))):=⟨by repeat (first|(with_reducible first|exact HB.out|apply below_alloc|apply pw_below_drewN|apply below_drew1|refine below_set ?_ jr_.out|refine below_set ?_ js_.out|refine below_set ?_ jt_.out|refine below_set ?_ jw_.out)|exact HB.out)⟩
             (try clear j6_)
             (try clear j5_)
             (try clear jl_)
             (try clear jm_)
             (try clear jn_)
             (try clear jo_)
             (try clear jp_)
             (try clear j8_)
             (try clear jf_)
             (try clear j9_)
             (try clear j4_)
             (try clear HB)
             generalize (((((w29.setCell ⟨j0_,0,none⟩ (.slice jb_ ((rd_T49 l0_0 x5_1).f0).length jc_)).setCell ⟨j0_,1,none⟩ (.slice jg_ ((rd_T49 l0_0 x5_1).f1).length jh_)).setCell ⟨j0_,2,none⟩ (.slice jj_ ((rd_T49 l0_0 x5_1).f2).length jk_)).setCell ⟨j0_,3,none⟩ (.slice jd_ ((rd_T49 l0_0 x5_1).f3).length ja_)).setCell ⟨j0_,4,none⟩ (.slice ji_ ((rd_T49 l0_0 x5_1).f4).length je_))=w34 at n0_ n1_ n2_ n3_ n4_ n5_ n6_ n7_ n8_ n9_ n10_ n11_ ⊢
             have j6_:=n0_
             have j5_:=n1_
             have jl_:=n2_
             have jm_:=n3_
             have jn_:=n4_
             have jo_:=n5_
             have jp_:=n6_
             have j8_:=n7_
             have jf_:=n8_
             have j9_:=n9_
             have j4_:=n10_
             have HB:=n11_
             clear n0_ n1_ n2_ n3_ n4_ n5_ n6_ n7_ n8_ n9_ n10_ n11_
             have n0_:=Aside0.mk (Kd.V_drew j6_.out)
             have n1_:=Aside0.mk (Kd.N_drew j5_.out)
             have n2_:=Aside0.mk (Kd.V_drew jl_.out)
             have n3_:=Aside0.mk (Kd.V_drew jm_.out)
             have n4_:=Aside0.mk (Kd.V_drew jn_.out)
             have n5_:=Aside0.mk (Kd.V_drew jo_.out)
             have n6_:=Aside0.mk (Kd.V_drew jp_.out)
             have n7_:=Aside0.mk (blk_drew j8_.out)
             have n8_:=Aside0.mk (blk_drew jf_.out)
             have n9_:=Aside0.mk (blk_drew j9_.out)
             have n10_:=Aside0.mk (blk_drew j4_.out)
             have n11_:=Aside0.mk (below_drew1 HB.out)
             clear j6_
             clear j5_
             clear jl_
             clear jm_
             clear jn_
             clear jo_
             clear jp_
             clear j8_
             clear jf_
             clear j9_
             clear j4_
             clear HB
             have j6_:=n0_
             have j5_:=n1_
             have jl_:=n2_
             have jm_:=n3_
             have jn_:=n4_
             have jo_:=n5_
             have jp_:=n6_
             have j8_:=n7_
             have jf_:=n8_
             have j9_:=n9_
             have j4_:=n10_
             have HB:=n11_
             clear n0_ n1_ n2_ n3_ n4_ n5_ n6_ n7_ n8_ n9_ n10_ n11_
             have q36:((ji19):Int)≤((((rd_T49 l0_0 x5_1).f3).length:Int):Int):=of_decide_eq_true za73
             obtain ⟨i036,j29,_,j2m,_⟩:=info_parts info3
             have j24:((rd_T49 l0_0 x5_1).f3).length≤ja_:=j2g.out
             have hC36:Kd.F (Kd.int .i64) _ _ jd_ ((rd_T49 l0_0 x5_1).f3).length ((rd_T49 l0_0 x5_1).f3):=(Kd.V_at (base:=w.heap.size) jo_.out).2.2
             have j2k:=cut_to (P:=Try.prog) 26 3 .i64 Try.underlying26 j29 jd_ ((rd_T49 l0_0 x5_1).f3).length ja_ (ji19) (of_decide_eq_true za73) q36 j24
             have hr36:=Kd.F_take (m:=((ji19):Int).toNat) hC36 (by omega)
             have hy36:y490.length=((ji19):Int).toNat:=(by rw [j27.out,List.length_take];omega)
             rw [← j27.out] at hr36
             rw [← hy36] at j2k
             have ju_:=Aside0.mk (show Kd.V (Kd.int .i64) 3 _ w.heap.size _ (.slice jd_ y490.length ja_) y490 from Kd.V_mk (by omega) hr36)
             have j37:=Aside0.mk (show y490.length≤ja_ from by omega)
             clear hr36 hC36 j24 j29 j2m
             have KY36:=Aside0.mk hy36
             clear hy36
             replace q36:=eq_true q36
             have q37:((ji22):Int)≤((((rd_T49 l0_0 x5_1).f4).length:Int):Int):=of_decide_eq_true za73
             obtain ⟨i037,hi037,_,hsz37,_⟩:=info_parts info60
             have hroom37:((rd_T49 l0_0 x5_1).f4).length≤je_:=j2h.out
             have hC37:Kd.F k60 _ _ ji_ ((rd_T49 l0_0 x5_1).f4).length ((rd_T49 l0_0 x5_1).f4):=(Kd.V_at (base:=w.heap.size) jp_.out).2.2
             have hcut37:=cut_to (P:=Try.prog) 47 60 .i64 Try.underlying47 hi037 ji_ ((rd_T49 l0_0 x5_1).f4).length je_ (ji22) (of_decide_eq_true za73) q37 hroom37
             have hr37:=Kd.F_take (m:=((ji22):Int).toNat) hC37 (by omega)
             have hy37:y495.length=((ji22):Int).toNat:=(by rw [j28.out,List.length_take];omega)
             rw [← j28.out] at hr37
             rw [← hy37] at hcut37
             have jv_:=Aside0.mk (show Kd.V k60 60 _ w.heap.size _ (.slice ji_ y495.length je_) y495 from Kd.V_mk (by omega) hr37)
             have j38:=Aside0.mk (show y495.length≤je_ from by omega)
             clear hr37 hC37 hroom37 hi037 hsz37
             have KY37:=Aside0.mk hy37
             clear hy37
             replace q37:=eq_true q37
             refine start_ (n:=33) (S:=fun w'=>w'.cell? ⟨j3_,0,none⟩=some (u479000)∧w'.cell? ⟨j0_,0,none⟩=some (.slice jb_ ((rd_T49 l0_0 x5_1).f0).length jc_)∧w'.cell? ⟨j0_,1,none⟩=some (.slice jg_ ((rd_T49 l0_0 x5_1).f1).length jh_)∧w'.cell? ⟨j0_,2,none⟩=some (.slice jj_ ((rd_T49 l0_0 x5_1).f2).length jk_)∧w'.cell? ⟨j0_,3,none⟩=some (.slice jd_ ((rd_T49 l0_0 x5_1).f3).length ja_)∧w'.cell? ⟨j0_,4,none⟩=some (.slice ji_ ((rd_T49 l0_0 x5_1).f4).length je_)) (ds:=[32]) #[false,false,false,false,false,false,false,false,false,false,false,false,false,false,false,false,false,false,false,false,false,false,false,false,false,false,false,false,false,false,false,false,false] (by kernel_rfl) rfl rfl ⟨(blk_cell j9_.out 0).trans rfl,(blk_cell j4_.out 0).trans rfl,(blk_cell j4_.out 1).trans rfl,(blk_cell j4_.out 2).trans rfl,(blk_cell j4_.out 3).trans rfl,(blk_cell j4_.out 4).trans rfl⟩ (fun hHeld=>?_);refine with_tabW abugidalaw16_cut.tab7 abugidalaw16_cut.bits7 (fun HT_ HW_=>?_)
             generalize w34.drew=w35 at j6_ j5_ jl_ jm_ jn_ jo_ jp_ j8_ jf_ j9_ j4_ HB ju_ jv_ hHeld ⊢
             refine pure_ (i:=0) (N:=some 23) (v:=?_) (a':=?_) #[true,false,false,false,false,false,false,false,false,false,false,false,false,false,false,false,false,false,false,false,false,false,false,false,false,false,false,false,false,false,false,false,false] rfl rfl (any_of HT_.out (by kernel_rfl)) (fun _ _ _ h=>h) (Or.inl ⟨by rfl,?_⟩) ?_ ?_
             rotate_left
             ·
              intro w'
              go_simp
              with_reducible rfl
             rotate_left
             ·
              simp only [Act.put,List.setIfInBounds_toArray,List.set_cons_zero,List.set_cons_succ,i64_w,i32_w]
              rfl
             refine pure_ (i:=2) (N:=some 25) (v:=?_) (a':=?_) #[true,false,true,false,false,false,false,false,false,false,false,false,false,false,false,false,false,false,false,false,false,false,false,false,false,false,false,false,false,false,false,false,false] rfl rfl (any_of HT_.out (by kernel_rfl)) (fun _ _ _ h=>h) (Or.inl ⟨by rfl,?_⟩) ?_ ?_
             rotate_left
             ·
              intro w'
              go_simp
              with_reducible rfl
             rotate_left
             ·
              simp only [Act.put,List.setIfInBounds_toArray,List.set_cons_zero,List.set_cons_succ,i64_w,i32_w]
              rfl
             refine pure_ (i:=3) (N:=some 26) (v:=?_) (a':=?_) #[true,false,true,true,false,false,false,false,false,false,false,false,false,false,false,false,false,false,false,false,false,false,false,false,false,false,false,false,false,false,false,false,false] rfl rfl (any_of HT_.out (by kernel_rfl)) (fun _ _ _ h=>h) (Or.inl ⟨by rfl,?_⟩) ?_ ?_
             rotate_left
             ·
              intro w'
              go_simp
              with_reducible rfl
             rotate_left
             ·
              simp only [Act.put,List.setIfInBounds_toArray,List.set_cons_zero,List.set_cons_succ,i64_w,i32_w]
              rfl
             refine pure_ (i:=6) (N:=some 29) (v:=?_) (a':=?_) #[true,false,true,true,false,false,true,false,false,false,false,false,false,false,false,false,false,false,false,false,false,false,false,false,false,false,false,false,false,false,false,false,false] rfl rfl (any_of HT_.out (by kernel_rfl)) (fun _ _ _ h=>h) (Or.inl ⟨by rfl,?_⟩) ?_ ?_
             rotate_left
             ·
              intro w'
              go_simp
              with_reducible rfl
             rotate_left
             ·
              simp only [Act.put,List.setIfInBounds_toArray,List.set_cons_zero,List.set_cons_succ,i64_w,i32_w]
              rfl
             refine pure_ (i:=7) (N:=some 30) (v:=?_) (a':=?_) #[true,false,true,true,false,false,true,true,false,false,false,false,false,false,false,false,false,false,false,false,false,false,false,false,false,false,false,false,false,false,false,false,false] rfl rfl (any_of HT_.out (by kernel_rfl)) (fun _ _ _ h=>h) (Or.inl ⟨by rfl,?_⟩) ?_ ?_
             rotate_left
             ·
              intro w'
              go_simp
              with_reducible rfl
             rotate_left
             ·
              simp only [Act.put,List.setIfInBounds_toArray,List.set_cons_zero,List.set_cons_succ,i64_w,i32_w]
              rfl
             refine pure_ (i:=10) (N:=some 33) (v:=?_) (a':=?_) #[true,false,true,true,false,false,true,true,false,false,true,false,false,false,false,false,false,false,false,false,false,false,false,false,false,false,false,false,false,false,false,false,false] rfl rfl (any_of HT_.out (by kernel_rfl)) (fun _ _ _ h=>h) (Or.inl ⟨by rfl,?_⟩) ?_ ?_
             rotate_left
             ·
              intro w'
              go_simp
              with_reducible rfl
             rotate_left
             ·
              simp only [Act.put,List.setIfInBounds_toArray,List.set_cons_zero,List.set_cons_succ,i64_w,i32_w]
              rfl
             refine pure_ (i:=11) (N:=some 34) (v:=?_) (a':=?_) #[true,false,true,true,false,false,true,true,false,false,true,true,false,false,false,false,false,false,false,false,false,false,false,false,false,false,false,false,false,false,false,false,false] rfl rfl (any_of HT_.out (by kernel_rfl)) (fun _ _ _ h=>h) (Or.inl ⟨by rfl,?_⟩) ?_ ?_
             rotate_left
             ·
              intro w'
              go_simp
              with_reducible rfl
             rotate_left
             ·
              simp only [Act.put,List.setIfInBounds_toArray,List.set_cons_zero,List.set_cons_succ,i64_w,i32_w]
              rfl
             refine pure_ (i:=14) (N:=some 37) (v:=?_) (a':=?_) #[true,false,true,true,false,false,true,true,false,false,true,true,false,false,true,false,false,false,false,false,false,false,false,false,false,false,false,false,false,false,false,false,false] rfl rfl (any_of HT_.out (by kernel_rfl)) (fun _ _ _ h=>h) (Or.inl ⟨by rfl,?_⟩) ?_ ?_
             rotate_left
             ·
              intro w'
              go_simp
              with_reducible rfl
             rotate_left
             ·
              simp only [Act.put,List.setIfInBounds_toArray,List.set_cons_zero,List.set_cons_succ,i64_w,i32_w]
              rfl
             refine pure_ (i:=16) (N:=some 39) (v:=?_) (a':=?_) #[true,false,true,true,false,false,true,true,false,false,true,true,false,false,true,false,true,false,false,false,false,false,false,false,false,false,false,false,false,false,false,false,false] rfl rfl (any_of HT_.out (by kernel_rfl)) (fun _ _ _ h=>h) (Or.inl ⟨by rfl,?_⟩) ?_ ?_
             rotate_left
             ·
              intro w'
              go_simp
              with_reducible rfl
             rotate_left
             ·
              simp only [Act.put,List.setIfInBounds_toArray,List.set_cons_zero,List.set_cons_succ,i64_w,i32_w]
              rfl
             refine pure_ (i:=21) (N:=some 44) (v:=?_) (a':=?_) #[true,false,true,true,false,false,true,true,false,false,true,true,false,false,true,false,true,false,false,false,false,true,false,false,false,false,false,false,false,false,false,false,false] rfl rfl (any_of HT_.out (by kernel_rfl)) (fun _ _ _ h=>h) (Or.inl ⟨by rfl,?_⟩) ?_ ?_
             rotate_left
             ·
              intro w'
              go_simp
              with_reducible rfl
             rotate_left
             ·
              simp only [Act.put,List.setIfInBounds_toArray,List.set_cons_zero,List.set_cons_succ,i64_w,i32_w]
              rfl
             refine pure_ (i:=23) (N:=some 46) (v:=?_) (a':=?_) #[true,false,true,true,false,false,true,true,false,false,true,true,false,false,true,false,true,false,false,false,false,true,false,true,false,false,false,false,false,false,false,false,false] rfl rfl (any_of HT_.out (by kernel_rfl)) (fun _ _ _ h=>h) (Or.inl ⟨by rfl,?_⟩) ?_ ?_
             rotate_left
             ·
              intro w'
              go_simp
              with_reducible rfl
             rotate_left
             ·
              simp only [Act.put,List.setIfInBounds_toArray,List.set_cons_zero,List.set_cons_succ,i64_w,i32_w]
              rfl
             refine take_ (i:=1) (N:=some 24) (v:=?_) (a':=?_) #[true,true,true,true,false,false,true,true,false,false,true,true,false,false,true,false,true,false,false,false,false,true,false,true,false,false,false,false,false,false,false,false,false] rfl rfl (take_ofW HT_.out HW_.out (by kernel_rfl)) (fun _ _ _ h=>h) (Or.inl ⟨by rfl,?_⟩) hHeld ?_ ?_
             rotate_left
             ·
              rintro w' ⟨s0,s1,s2,s3,s4,s5⟩
              go_simp
              with_reducible rfl
             rotate_left
             ·
              simp only [Act.put,List.setIfInBounds_toArray,List.set_cons_zero,List.set_cons_succ,i64_w,i32_w]
              rfl
             refine take_ (i:=4) (N:=some 27) (v:=?_) (a':=?_) #[true,true,true,true,true,false,true,true,false,false,true,true,false,false,true,false,true,false,false,false,false,true,false,true,false,false,false,false,false,false,false,false,false] rfl rfl (take_ofW HT_.out HW_.out (by kernel_rfl)) (fun _ _ _ h=>h) (Or.inl ⟨by rfl,?_⟩) hHeld ?_ ?_
             rotate_left
             ·
              rintro w' ⟨s0,s1,s2,s3,s4,s5⟩
              go_simp
              with_reducible rfl
             rotate_left
             ·
              simp only [Act.put,List.setIfInBounds_toArray,List.set_cons_zero,List.set_cons_succ,i64_w,i32_w]
              rfl
             refine take_ (i:=8) (N:=some 31) (v:=?_) (a':=?_) #[true,true,true,true,true,false,true,true,true,false,true,true,false,false,true,false,true,false,false,false,false,true,false,true,false,false,false,false,false,false,false,false,false] rfl rfl (take_ofW HT_.out HW_.out (by kernel_rfl)) (fun _ _ _ h=>h) (Or.inl ⟨by rfl,?_⟩) hHeld ?_ ?_
             rotate_left
             ·
              rintro w' ⟨s0,s1,s2,s3,s4,s5⟩
              go_simp
              with_reducible rfl
             rotate_left
             ·
              simp only [Act.put,List.setIfInBounds_toArray,List.set_cons_zero,List.set_cons_succ,i64_w,i32_w]
              rfl
             refine take_ (i:=12) (N:=some 35) (v:=?_) (a':=?_) #[true,true,true,true,true,false,true,true,true,false,true,true,true,false,true,false,true,false,false,false,false,true,false,true,false,false,false,false,false,false,false,false,false] rfl rfl (take_ofW HT_.out HW_.out (by kernel_rfl)) (fun _ _ _ h=>h) (Or.inl ⟨by rfl,?_⟩) hHeld ?_ ?_
             rotate_left
             ·
              rintro w' ⟨s0,s1,s2,s3,s4,s5⟩
              go_simp
              with_reducible rfl
             rotate_left
             ·
              simp only [Act.put,List.setIfInBounds_toArray,List.set_cons_zero,List.set_cons_succ,i64_w,i32_w]
              rfl
             refine take_ (i:=15) (N:=some 38) (v:=?_) (a':=?_) #[true,true,true,true,true,false,true,true,true,false,true,true,true,false,true,true,true,false,false,false,false,true,false,true,false,false,false,false,false,false,false,false,false] rfl rfl (take_ofW HT_.out HW_.out (by kernel_rfl)) (fun _ _ _ h=>h) (Or.inl ⟨by rfl,?_⟩) hHeld ?_ ?_
             rotate_left
             ·
              rintro w' ⟨s0,s1,s2,s3,s4,s5⟩
              go_simp
              with_reducible rfl
             rotate_left
             ·
              simp only [Act.put,List.setIfInBounds_toArray,List.set_cons_zero,List.set_cons_succ,i64_w,i32_w]
              rfl
             refine take_ (i:=17) (N:=some 40) (v:=?_) (a':=?_) #[true,true,true,true,true,false,true,true,true,false,true,true,true,false,true,true,true,true,false,false,false,true,false,true,false,false,false,false,false,false,false,false,false] rfl rfl (take_ofW HT_.out HW_.out (by kernel_rfl)) (fun _ _ _ h=>h) (Or.inl ⟨by rfl,?_⟩) hHeld ?_ ?_
             rotate_left
             ·
              rintro w' ⟨s0,s1,s2,s3,s4,s5⟩
              go_simp
              with_reducible rfl
             rotate_left
             ·
              simp only [Act.put,List.setIfInBounds_toArray,List.set_cons_zero,List.set_cons_succ,i64_w,i32_w]
              rfl
             refine pure_ (i:=18) (N:=some 41) (v:=?_) (a':=?_) #[true,true,true,true,true,false,true,true,true,false,true,true,true,false,true,true,true,true,true,false,false,true,false,true,false,false,false,false,false,false,false,false,false] rfl rfl (any_of HT_.out (by kernel_rfl)) (fun _ _ _ h=>h) (Or.inl ⟨by rfl,?_⟩) ?_ ?_
             rotate_left
             ·
              intro w'
              go_simp
              with_reducible rfl
             rotate_left
             ·
              simp only [Act.put,List.setIfInBounds_toArray,List.set_cons_zero,List.set_cons_succ,i64_w,i32_w]
              rfl
             refine pure_ (i:=19) (N:=some 42) (v:=?_) (a':=?_) #[true,true,true,true,true,false,true,true,true,false,true,true,true,false,true,true,true,true,true,true,false,true,false,true,false,false,false,false,false,false,false,false,false] rfl rfl (any_of HT_.out (by kernel_rfl)) (fun _ _ _ h=>h) (Or.inl ⟨by rfl,?_⟩) ?_ ?_
             rotate_left
             ·
              intro w'
              go_simp
              with_reducible rfl
             rotate_left
             ·
              simp only [Act.put,List.setIfInBounds_toArray,List.set_cons_zero,List.set_cons_succ,i64_w,i32_w]
              rfl
             refine pure_ (i:=20) (N:=some 43) (v:=?_) (a':=?_) #[true,true,true,true,true,false,true,true,true,false,true,true,true,false,true,true,true,true,true,true,true,true,false,true,false,false,false,false,false,false,false,false,false] rfl rfl (any_of HT_.out (by kernel_rfl)) (fun _ _ _ h=>h) (Or.inl ⟨by rfl,?_⟩) ?_ ?_
             rotate_left
             ·
              intro w'
              go_simp
              with_reducible rfl
             rotate_left
             ·
              simp only [Act.put,List.setIfInBounds_toArray,List.set_cons_zero,List.set_cons_succ,i64_w,i32_w]
              rfl
             refine take_ (i:=22) (N:=some 45) (v:=?_) (a':=?_) #[true,true,true,true,true,false,true,true,true,false,true,true,true,false,true,true,true,true,true,true,true,true,true,true,false,false,false,false,false,false,false,false,false] rfl rfl (take_ofW HT_.out HW_.out (by kernel_rfl)) (fun _ _ _ h=>h) (Or.inl ⟨by rfl,?_⟩) hHeld ?_ ?_
             rotate_left
             ·
              rintro w' ⟨s0,s1,s2,s3,s4,s5⟩
              go_simp
              with_reducible rfl
             rotate_left
             ·
              simp only [Act.put,List.setIfInBounds_toArray,List.set_cons_zero,List.set_cons_succ,i64_w,i32_w]
              rfl
             refine take_ (i:=24) (N:=some 47) (v:=?_) (a':=?_) #[true,true,true,true,true,false,true,true,true,false,true,true,true,false,true,true,true,true,true,true,true,true,true,true,true,false,false,false,false,false,false,false,false] rfl rfl (take_ofW HT_.out HW_.out (by kernel_rfl)) (fun _ _ _ h=>h) (Or.inl ⟨by rfl,?_⟩) hHeld ?_ ?_
             rotate_left
             ·
              rintro w' ⟨s0,s1,s2,s3,s4,s5⟩
              go_simp
              with_reducible rfl
             rotate_left
             ·
              simp only [Act.put,List.setIfInBounds_toArray,List.set_cons_zero,List.set_cons_succ,i64_w,i32_w]
              rfl
             refine pure_ (i:=25) (N:=some 48) (v:=?_) (a':=?_) #[true,true,true,true,true,false,true,true,true,false,true,true,true,false,true,true,true,true,true,true,true,true,true,true,true,true,false,false,false,false,false,false,false] rfl rfl (any_of HT_.out (by kernel_rfl)) (fun _ _ _ h=>h) (Or.inl ⟨by rfl,?_⟩) ?_ ?_
             rotate_left
             ·
              intro w'
              go_simp
              with_reducible rfl
             rotate_left
             ·
              simp only [Act.put,List.setIfInBounds_toArray,List.set_cons_zero,List.set_cons_succ,i64_w,i32_w]
              rfl
             refine pure_ (i:=26) (N:=some 49) (v:=?_) (a':=?_) #[true,true,true,true,true,false,true,true,true,false,true,true,true,false,true,true,true,true,true,true,true,true,true,true,true,true,true,false,false,false,false,false,false] rfl rfl (any_of HT_.out (by kernel_rfl)) (fun _ _ _ h=>h) (Or.inl ⟨by rfl,?_⟩) ?_ ?_
             rotate_left
             ·
              intro w'
              go_simp
              with_reducible rfl
             rotate_left
             ·
              simp only [Act.put,List.setIfInBounds_toArray,List.set_cons_zero,List.set_cons_succ,i64_w,i32_w]
              rfl
             refine pure_ (i:=27) (N:=some 50) (v:=?_) (a':=?_) #[true,true,true,true,true,false,true,true,true,false,true,true,true,false,true,true,true,true,true,true,true,true,true,true,true,true,true,true,false,false,false,false,false] rfl rfl (any_of HT_.out (by kernel_rfl)) (fun _ _ _ h=>h) (Or.inl ⟨by rfl,?_⟩) ?_ ?_
             rotate_left
             ·
              intro w'
              go_simp
              with_reducible rfl
             rotate_left
             ·
              simp only [Act.put,List.setIfInBounds_toArray,List.set_cons_zero,List.set_cons_succ,i64_w,i32_w]
              rfl
             refine one_ (i:=5) (N:=some 28) #[true,true,true,true,true,true,true,true,true,false,true,true,true,false,true,true,true,true,true,true,true,true,true,true,true,true,true,true,false,false,false,false,false] rfl rfl (one_of HT_.out (by kernel_rfl)) (by decide) (fun K hK=>?_)
             refine goesv_ Try.func33 (by kernel_rfl) rfl #[.slice jb_ ((rd_T49 l0_0 x5_1).f0).length jc_] (by rfl) rfl rfl (by rfl) za39 ?_
             with_reducible refine (abugidalaw16_cut_1.calls kj4 (fun k_=>((P0_0_ k_∨w.heap.size≤k_)∧(some k_≠(u479000:Value).ownBlock∧(k_≠j1_∧(k_≠j2_∧(k_≠j3_∧k_≠j0_)))))) _ _ ((rd_T49 l0_0 x5_1).f0) t481 _ ?side1 A16.out).mono ?_
             (case side1=>exact jl_.out)
             rintro e w38 ⟨v482,rfl,ho0,hb⟩
             refine ⟨_,rfl,?_⟩
             have n0_:=Aside0.mk (Kd.V_elder' za61 (Kd.N_base ho0) hb)
             have n1_:=Aside0.mk (Kd.N_elder' za62 (Kd.N_base ho0) hb)
             have n2_:=Aside0.mk (Kd.V_elder' za63 (Kd.N_base ho0) hb)
             have n3_:=Aside0.mk (Kd.V_elder' za64 (Kd.N_base ho0) hb)
             have n4_:=Aside0.mk (Kd.V_elder' za65 (Kd.N_base ho0) hb)
             have n5_:=Aside0.mk (Kd.V_elder' za66 (Kd.N_base ho0) hb)
             have n6_:=Aside0.mk (Kd.V_elder' za67 (Kd.N_base ho0) hb)
             have n7_:=Aside0.mk (Kd.V_elder' za68 (Kd.N_base ho0) hb)
             have n8_:=Aside0.mk (Kd.V_elder' za69 (Kd.N_base ho0) hb)
             have n9_:=Aside0.mk (Kd.N_lower (Kd.N_mono (ok':=fun k_=>(P0_0_ k_∨w.heap.size≤k_)∧some k_≠(u479000:Value).ownBlock∧k_≠j1_∧k_≠j2_∧k_≠j3_∧k_≠j0_) ho0 (fun k_ hk_=>⟨Or.elim hk_ (fun hs_=>hs_.1) (fun hn_=>(.inr (Nat.le_trans (below_size za8) hn_))),Or.elim hk_ (fun hs_=>hs_.2.1) (fun hn_=>(Kd.fresh' (Kd.N_lt za62) k_ hn_)),Or.elim hk_ (fun hs_=>hs_.2.2.1) (fun hn_=>(Kd.freshB (g:=j1_) (o:=.cells #[.slice (some jy_) l0_0.length c0_0] 24 (0,0)) za47 k_ hn_)),Or.elim hk_ (fun hs_=>hs_.2.2.2.1) (fun hn_=>(Kd.freshB (g:=j2_) (o:=.cells #[.slice none 0 0] 24 (0,0)) za48 k_ hn_)),Or.elim hk_ (fun hs_=>hs_.2.2.2.2.1) (fun hn_=>(Kd.freshB (g:=j3_) (o:=.cells #[u479000] 24 (0,0)) za49 k_ hn_)),Or.elim hk_ (fun hs_=>hs_.2.2.2.2.2) (fun hn_=>(Kd.freshB (g:=j0_) (o:=.cells #[.slice jb_ ((rd_T49 l0_0 x5_1).f0).length jc_,.slice jg_ ((rd_T49 l0_0 x5_1).f1).length jh_,.slice jj_ ((rd_T49 l0_0 x5_1).f2).length jk_,.slice jd_ ((rd_T49 l0_0 x5_1).f3).length ja_,.slice ji_ ((rd_T49 l0_0 x5_1).f4).length je_] 49 (0,0)) za45 k_ hn_))⟩)) (below_size za8))
             have n10_:=Aside0.mk (blk_below (g:=j1_) (o:=.cells #[.slice (some jy_) l0_0.length c0_0] 24 (0,0)) za47 hb)
             have n11_:=Aside0.mk (blk_below (g:=j2_) (o:=.cells #[.slice none 0 0] 24 (0,0)) za48 hb)
             have n12_:=Aside0.mk (blk_below (g:=j3_) (o:=.cells #[u479000] 24 (0,0)) za49 hb)
             have n13_:=Aside0.mk (blk_below (g:=j0_) (o:=.cells #[.slice jb_ ((rd_T49 l0_0 x5_1).f0).length jc_,.slice jg_ ((rd_T49 l0_0 x5_1).f1).length jh_,.slice jj_ ((rd_T49 l0_0 x5_1).f2).length jk_,.slice jd_ ((rd_T49 l0_0 x5_1).f3).length ja_,.slice ji_ ((rd_T49 l0_0 x5_1).f4).length je_] 49 (0,0)) za45 hb)
             have n14_:=Aside0.mk (below_step za8 hb)
             clear j6_
             clear j5_
             clear jl_
             clear jm_
             clear jn_
             clear jo_
             clear jp_
             clear ju_
             clear jv_
             clear j8_
             clear jf_
             clear j9_
             clear j4_
             clear HB
             have j6_:=n0_
             have j5_:=n1_
             have jl_:=n2_
             have jm_:=n3_
             have jn_:=n4_
             have jo_:=n5_
             have jp_:=n6_
             have ju_:=n7_
             have jv_:=n8_
             have jz_:=n9_
             have j8_:=n10_
             have jf_:=n11_
             have j9_:=n12_
             have j4_:=n13_
             have HB:=n14_
             clear n0_ n1_ n2_ n3_ n4_ n5_ n6_ n7_ n8_ n9_ n10_ n11_ n12_ n13_ n14_
             (try clear hb)
             (try clear hb2)
             (try clear hk)
             (try clear hi)
             (try clear ho0)
             refine hK.out _ _ ⟨(blk_cell j9_.out 0).trans rfl,(blk_cell j4_.out 0).trans rfl,(blk_cell j4_.out 1).trans rfl,(blk_cell j4_.out 2).trans rfl,(blk_cell j4_.out 3).trans rfl,(blk_cell j4_.out 4).trans rfl⟩ (fun hHeld=>?_)
             clear hK K
             refine norm_ (a':=?_) ?_ ?_
             rotate_left
             ·
              show Act.put _ (some 28) _=_
              simp only [Act.put,List.setIfInBounds_toArray,List.set_cons_zero,List.set_cons_succ,i64_w,i32_w]
              rfl
             refine one_ (i:=9) (N:=some 32) #[true,true,true,true,true,true,true,true,true,true,true,true,true,false,true,true,true,true,true,true,true,true,true,true,true,true,true,true,false,false,false,false,false] rfl rfl (one_of HT_.out (by kernel_rfl)) (by decide) (fun K hK=>?_)
             refine goesv_ Try.func33 (by kernel_rfl) rfl #[.slice jg_ ((rd_T49 l0_0 x5_1).f1).length jh_] (by rfl) rfl rfl (by rfl) za39 ?_
             with_reducible refine (abugidalaw16_cut_1.calls kj4 (fun k_=>(((P0_0_ k_∨w.heap.size≤k_)∧(some k_≠(u479000:Value).ownBlock∧(k_≠j1_∧(k_≠j2_∧(k_≠j3_∧k_≠j0_)))))∧some k_≠(v482:Value).ownBlock)) _ _ ((rd_T49 l0_0 x5_1).f1) t484 _ ?side1 A17.out).mono ?_
             (case side1=>exact jm_.out)
             rintro e w39 ⟨v485,rfl,ho0,hb⟩
             refine ⟨_,rfl,?_⟩
             have n0_:=Aside0.mk (Kd.V_elder' za61 (Kd.N_base ho0) hb)
             have n1_:=Aside0.mk (Kd.N_elder' za62 (Kd.N_base ho0) hb)
             have n2_:=Aside0.mk (Kd.V_elder' za63 (Kd.N_base ho0) hb)
             have n3_:=Aside0.mk (Kd.V_elder' za64 (Kd.N_base ho0) hb)
             have n4_:=Aside0.mk (Kd.V_elder' za65 (Kd.N_base ho0) hb)
             have n5_:=Aside0.mk (Kd.V_elder' za66 (Kd.N_base ho0) hb)
             have n6_:=Aside0.mk (Kd.V_elder' za67 (Kd.N_base ho0) hb)
             have n7_:=Aside0.mk (Kd.V_elder' za68 (Kd.N_base ho0) hb)
             have n8_:=Aside0.mk (Kd.V_elder' za69 (Kd.N_base ho0) hb)
             have n9_:=Aside0.mk (Kd.N_elder' za70 (Kd.N_base ho0) hb)
             have n10_:=Aside0.mk (Kd.N_lower (Kd.N_mono (ok':=fun k_=>(P0_0_ k_∨w.heap.size≤k_)∧some k_≠(u479000:Value).ownBlock∧some k_≠(v482:Value).ownBlock∧k_≠j1_∧k_≠j2_∧k_≠j3_∧k_≠j0_) ho0 (fun k_ hk_=>⟨Or.elim hk_ (fun hs_=>hs_.1.1) (fun hn_=>(.inr (Nat.le_trans (below_size za8) hn_))),Or.elim hk_ (fun hs_=>hs_.1.2.1) (fun hn_=>(Kd.fresh' (Kd.N_lt za62) k_ hn_)),Or.elim hk_ (fun hs_=>hs_.2) (fun hn_=>(Kd.fresh' (Kd.N_lt za70) k_ hn_)),Or.elim hk_ (fun hs_=>hs_.1.2.2.1) (fun hn_=>(Kd.freshB (g:=j1_) (o:=.cells #[.slice (some jy_) l0_0.length c0_0] 24 (0,0)) za47 k_ hn_)),Or.elim hk_ (fun hs_=>hs_.1.2.2.2.1) (fun hn_=>(Kd.freshB (g:=j2_) (o:=.cells #[.slice none 0 0] 24 (0,0)) za48 k_ hn_)),Or.elim hk_ (fun hs_=>hs_.1.2.2.2.2.1) (fun hn_=>(Kd.freshB (g:=j3_) (o:=.cells #[u479000] 24 (0,0)) za49 k_ hn_)),Or.elim hk_ (fun hs_=>hs_.1.2.2.2.2.2) (fun hn_=>(Kd.freshB (g:=j0_) (o:=.cells #[.slice jb_ ((rd_T49 l0_0 x5_1).f0).length jc_,.slice jg_ ((rd_T49 l0_0 x5_1).f1).length jh_,.slice jj_ ((rd_T49 l0_0 x5_1).f2).length jk_,.slice jd_ ((rd_T49 l0_0 x5_1).f3).length ja_,.slice ji_ ((rd_T49 l0_0 x5_1).f4).length je_] 49 (0,0)) za45 k_ hn_))⟩)) (below_size za8))
             have n11_:=Aside0.mk (blk_below (g:=j1_) (o:=.cells #[.slice (some jy_) l0_0.length c0_0] 24 (0,0)) za47 hb)
             have n12_:=Aside0.mk (blk_below (g:=j2_) (o:=.cells #[.slice none 0 0] 24 (0,0)) za48 hb)
             have n13_:=Aside0.mk (blk_below (g:=j3_) (o:=.cells #[u479000] 24 (0,0)) za49 hb)
             have n14_:=Aside0.mk (blk_below (g:=j0_) (o:=.cells #[.slice jb_ ((rd_T49 l0_0 x5_1).f0).length jc_,.slice jg_ ((rd_T49 l0_0 x5_1).f1).length jh_,.slice jj_ ((rd_T49 l0_0 x5_1).f2).length jk_,.slice jd_ ((rd_T49 l0_0 x5_1).f3).length ja_,.slice ji_ ((rd_T49 l0_0 x5_1).f4).length je_] 49 (0,0)) za45 hb)
             have n15_:=Aside0.mk (below_step za8 hb)
             clear j6_
             clear j5_
             clear jl_
             clear jm_
             clear jn_
             clear jo_
             clear jp_
             clear ju_
             clear jv_
             clear jz_
             clear j8_
             clear jf_
             clear j9_
             clear j4_
             clear HB
             have j6_:=n0_
             have j5_:=n1_
             have jl_:=n2_
             have jm_:=n3_
             have jn_:=n4_
             have jo_:=n5_
             have jp_:=n6_
             have ju_:=n7_
             have jv_:=n8_
             have jz_:=n9_
             have j18:=n10_
             have j8_:=n11_
             have jf_:=n12_
             have j9_:=n13_
             have j4_:=n14_
             have HB:=n15_
             clear n0_ n1_ n2_ n3_ n4_ n5_ n6_ n7_ n8_ n9_ n10_ n11_ n12_ n13_ n14_ n15_
             (try clear hb)
             (try clear hb2)
             (try clear hk)
             (try clear hi)
             (try clear ho0)
             refine hK.out _ _ ⟨(blk_cell j9_.out 0).trans rfl,(blk_cell j4_.out 0).trans rfl,(blk_cell j4_.out 1).trans rfl,(blk_cell j4_.out 2).trans rfl,(blk_cell j4_.out 3).trans rfl,(blk_cell j4_.out 4).trans rfl⟩ (fun hHeld=>?_)
             clear hK K
             refine norm_ (a':=?_) ?_ ?_
             rotate_left
             ·
              show Act.put _ (some 32) _=_
              simp only [Act.put,List.setIfInBounds_toArray,List.set_cons_zero,List.set_cons_succ,i64_w,i32_w]
              rfl
             refine one_ (i:=13) (N:=some 36) #[true,true,true,true,true,true,true,true,true,true,true,true,true,true,true,true,true,true,true,true,true,true,true,true,true,true,true,true,false,false,false,false,false] rfl rfl (one_of HT_.out (by kernel_rfl)) (by decide) (fun K hK=>?_)
             refine goesv_ Try.func33 (by kernel_rfl) rfl #[.slice jj_ ((rd_T49 l0_0 x5_1).f2).length jk_] (by rfl) rfl rfl (by rfl) za39 ?_
             with_reducible refine (abugidalaw16_cut_1.calls kj4 (fun k_=>((((P0_0_ k_∨w.heap.size≤k_)∧(some k_≠(u479000:Value).ownBlock∧(k_≠j1_∧(k_≠j2_∧(k_≠j3_∧k_≠j0_)))))∧some k_≠(v482:Value).ownBlock)∧some k_≠(v485:Value).ownBlock)) _ _ ((rd_T49 l0_0 x5_1).f2) t487 _ ?side1 A18.out).mono ?_
             (case side1=>exact jn_.out)
             rintro e w40 ⟨v488,rfl,ho0,hb⟩
             refine ⟨_,rfl,?_⟩
             have n0_:=Aside0.mk (Kd.V_elder' za61 (Kd.N_base ho0) hb)
             have n1_:=Aside0.mk (Kd.N_elder' za62 (Kd.N_base ho0) hb)
             have n2_:=Aside0.mk (Kd.V_elder' za63 (Kd.N_base ho0) hb)
             have n3_:=Aside0.mk (Kd.V_elder' za64 (Kd.N_base ho0) hb)
             have n4_:=Aside0.mk (Kd.V_elder' za65 (Kd.N_base ho0) hb)
             have n5_:=Aside0.mk (Kd.V_elder' za66 (Kd.N_base ho0) hb)
             have n6_:=Aside0.mk (Kd.V_elder' za67 (Kd.N_base ho0) hb)
             have n7_:=Aside0.mk (Kd.V_elder' za68 (Kd.N_base ho0) hb)
             have n8_:=Aside0.mk (Kd.V_elder' za69 (Kd.N_base ho0) hb)
             have n9_:=Aside0.mk (Kd.N_elder' za70 (Kd.N_base ho0) hb)
             have n10_:=Aside0.mk (Kd.N_elder' (by (with_reducible repeat (first|apply Kd.N_alloc|apply Kd.N_drewN|apply Kd.N_drew));exact j18.out) (Kd.N_base ho0) hb)
             have n11_:=Aside0.mk (Kd.N_lower (Kd.N_mono (ok':=fun k_=>(P0_0_ k_∨w.heap.size≤k_)∧some k_≠(u479000:Value).ownBlock∧some k_≠(v482:Value).ownBlock∧some k_≠(v485:Value).ownBlock∧k_≠j1_∧k_≠j2_∧k_≠j3_∧k_≠j0_) ho0 (fun k_ hk_=>⟨Or.elim hk_ (fun hs_=>hs_.1.1.1) (fun hn_=>(.inr (Nat.le_trans (below_size za8) hn_))),Or.elim hk_ (fun hs_=>hs_.1.1.2.1) (fun hn_=>(Kd.fresh' (Kd.N_lt za62) k_ hn_)),Or.elim hk_ (fun hs_=>hs_.1.2) (fun hn_=>(Kd.fresh' (Kd.N_lt za70) k_ hn_)),Or.elim hk_ (fun hs_=>hs_.2) (fun hn_=>(Kd.fresh' (Kd.N_lt (by (with_reducible repeat (first|apply Kd.N_alloc|apply Kd.N_drewN|apply Kd.N_drew));exact j18.out)) k_ hn_)),Or.elim hk_ (fun hs_=>hs_.1.1.2.2.1) (fun hn_=>(Kd.freshB (g:=j1_) (o:=.cells #[.slice (some jy_) l0_0.length c0_0] 24 (0,0)) za47 k_ hn_)),Or.elim hk_ (fun hs_=>hs_.1.1.2.2.2.1) (fun hn_=>(Kd.freshB (g:=j2_) (o:=.cells #[.slice none 0 0] 24 (0,0)) za48 k_ hn_)),Or.elim hk_ (fun hs_=>hs_.1.1.2.2.2.2.1) (fun hn_=>(Kd.freshB (g:=j3_) (o:=.cells #[u479000] 24 (0,0)) za49 k_ hn_)),Or.elim hk_ (fun hs_=>hs_.1.1.2.2.2.2.2) (fun hn_=>(Kd.freshB (g:=j0_) (o:=.cells #[.slice jb_ ((rd_T49 l0_0 x5_1).f0).length jc_,.slice jg_ ((rd_T49 l0_0 x5_1).f1).length jh_,.slice jj_ ((rd_T49 l0_0 x5_1).f2).length jk_,.slice jd_ ((rd_T49 l0_0 x5_1).f3).length ja_,.slice ji_ ((rd_T49 l0_0 x5_1).f4).length je_] 49 (0,0)) za45 k_ hn_))⟩)) (below_size za8))
             have n12_:=Aside0.mk (blk_below (g:=j1_) (o:=.cells #[.slice (some jy_) l0_0.length c0_0] 24 (0,0)) za47 hb)
             have n13_:=Aside0.mk (blk_below (g:=j2_) (o:=.cells #[.slice none 0 0] 24 (0,0)) za48 hb)
             have n14_:=Aside0.mk (blk_below (g:=j3_) (o:=.cells #[u479000] 24 (0,0)) za49 hb)
             have n15_:=Aside0.mk (blk_below (g:=j0_) (o:=.cells #[.slice jb_ ((rd_T49 l0_0 x5_1).f0).length jc_,.slice jg_ ((rd_T49 l0_0 x5_1).f1).length jh_,.slice jj_ ((rd_T49 l0_0 x5_1).f2).length jk_,.slice jd_ ((rd_T49 l0_0 x5_1).f3).length ja_,.slice ji_ ((rd_T49 l0_0 x5_1).f4).length je_] 49 (0,0)) za45 hb)
             have n16_:=Aside0.mk (below_step za8 hb)
             clear j6_
             clear j5_
             clear jl_
             clear jm_
             clear jn_
             clear jo_
             clear jp_
             clear ju_
             clear jv_
             clear jz_
             clear j18
             clear j8_
             clear jf_
             clear j9_
             clear j4_
             clear HB
             have j6_:=n0_
             have j5_:=n1_
             have jl_:=n2_
             have jm_:=n3_
             have jn_:=n4_
             have jo_:=n5_
             have jp_:=n6_
             have ju_:=n7_
             have jv_:=n8_
             have jz_:=n9_
             have j18:=n10_
             have j23:=n11_
             have j8_:=n12_
             have jf_:=n13_
             have j9_:=n14_
             have j4_:=n15_
             have HB:=n16_
             clear n0_ n1_ n2_ n3_ n4_ n5_ n6_ n7_ n8_ n9_ n10_ n11_ n12_ n13_ n14_ n15_ n16_
             (try clear hb)
             (try clear hb2)
             (try clear hk)
             (try clear hi)
             (try clear ho0)
             obtain ⟨Ao41,co41,eo41⟩:=Kd.N_slice j23.out
             (first|subst eo41|(injection eo41 with f1_ f2_ f3_;have f4_:=f1_.symm;have f5_:=f3_.symm;clear f1_ f2_ f3_;subst f4_;subst f5_))
             obtain ⟨Ao42,co42,eo42⟩:=Kd.N_slice j18.out
             (first|subst eo42|(injection eo42 with f1_ f2_ f3_;have f4_:=f1_.symm;have f5_:=f3_.symm;clear f1_ f2_ f3_;subst f4_;subst f5_))
             obtain ⟨Ao43,co43,eo43⟩:=Kd.N_slice jz_.out
             (first|subst eo43|(injection eo43 with f1_ f2_ f3_;have f4_:=f1_.symm;have f5_:=f3_.symm;clear f1_ f2_ f3_;subst f4_;subst f5_))
             refine hK.out _ _ ⟨(blk_cell j9_.out 0).trans rfl,(blk_cell j4_.out 0).trans rfl,(blk_cell j4_.out 1).trans rfl,(blk_cell j4_.out 2).trans rfl,(blk_cell j4_.out 3).trans rfl,(blk_cell j4_.out 4).trans rfl⟩ (fun hHeld=>?_)
             clear hK K
             refine norm_ (a':=?_) ?_ ?_
             rotate_left
             ·
              show Act.put _ (some 36) _=_
              simp only [Act.put,List.setIfInBounds_toArray,List.set_cons_zero,List.set_cons_succ,i64_w,i32_w]
              rfl
             refine pure_ (i:=28) (N:=some 51) (v:=?_) (a':=?_) #[true,true,true,true,true,true,true,true,true,true,true,true,true,true,true,true,true,true,true,true,true,true,true,true,true,true,true,true,true,false,false,false,false] rfl rfl (any_of HT_.out (by kernel_rfl)) (fun _ _ _ h=>h) (Or.inl ⟨by rfl,?_⟩) ?_ ?_
             rotate_left
             ·
              intro w'
              go_simp
              with_reducible rfl
             rotate_left
             ·
              simp only [Act.put,List.setIfInBounds_toArray,List.set_cons_zero,List.set_cons_succ,i64_w,i32_w]
              rfl
             refine one_ (i:=29) (N:=some 52) #[true,true,true,true,true,true,true,true,true,true,true,true,true,true,true,true,true,true,true,true,true,true,true,true,true,true,true,true,true,true,false,false,false] rfl rfl (one_of HT_.out (by kernel_rfl)) (by decide) (fun K hK=>?_)
             refine value_ (w1:=?_) (v:=?_) (by rfl) rfl ?_ ?_
             rotate_left 2
             ·
              go_simp
              constructor
              ·
               rfl
              ·
               rfl
             refine hK.out _ _ ⟨(blk_cell (blk_alloc j9_.out _) 0).trans rfl,(blk_cell (blk_alloc j4_.out _) 0).trans rfl,(blk_cell (blk_alloc j4_.out _) 1).trans rfl,(blk_cell (blk_alloc j4_.out _) 2).trans rfl,(blk_cell (blk_alloc j4_.out _) 3).trans rfl,(blk_cell (blk_alloc j4_.out _) 4).trans rfl⟩ (fun hHeld=>?_)
             clear hK K
             refine norm_ (a':=?_) ?_ ?_
             rotate_left
             ·
              show Act.put _ (some 52) _=_
              simp only [Act.put,List.setIfInBounds_toArray,List.set_cons_zero,List.set_cons_succ,i64_w,i32_w]
              rfl
             refine one_ (i:=30) (N:=some 53) #[true,true,true,true,true,true,true,true,true,true,true,true,true,true,true,true,true,true,true,true,true,true,true,true,true,true,true,true,true,true,true,false,false] rfl rfl (one_of HT_.out (by kernel_rfl)) (by decide) (fun K hK=>?_)
             refine Kd.N_append_step k49 (w0:=w) w.heap.size (by rfl) (.tmp 24) (.tmp 52) 22 49 (.agg #[(.slice none 0 0),(.slice none 0 0),(.slice none 0 0),(.slice none 0 0),(.slice none 0 0)]) 120 rfl Try.underlying22 info49 rfl (by decide) (by omega) u479000 j7_ (⟨t481,t484,t487,y490,y495⟩:S49) [.slice Ao43 t481.length co43,.slice Ao42 t484.length co42,.slice Ao41 t487.length co41,.slice jd_ y490.length ja_,.slice ji_ y495.length je_] (fun k_=>(P0_0_ k_∨w.heap.size≤k_)∧k_≠j1_∧k_≠j2_∧k_≠j3_∧k_≠j0_) (fun k_=>((fun k_=>(P0_0_ k_∨w.heap.size≤k_)∧k_≠j1_∧k_≠j2_∧k_≠j3_∧k_≠j0_)) k_∧some k_≠(u479000:Value).ownBlock) rfl rfl ?aP (fun _ hk=>hk) ?aF ?aO ?aB ?aS ?aL ?_
             (case aP=>exact (k49_mkF _ _ (⟨t481,t484,t487,y490,y495⟩:S49) (Kd.N_reads' (Kd.N_mono (ok':=(fun k_=>((fun k_=>(P0_0_ k_∨w.heap.size≤k_)∧k_≠j1_∧k_≠j2_∧k_≠j3_∧k_≠j0_)) k_∧some k_≠(u479000:Value).ownBlock)) (jz_.out) (fun k_ hk=>⟨⟨hk.1.1.1,⟨hk.1.1.2.2.1,⟨hk.1.1.2.2.2.1,⟨hk.1.1.2.2.2.2.1,hk.1.1.2.2.2.2.2⟩⟩⟩⟩,hk.1.1.2.1⟩))).2.1 (Kd.N_F (Kd.N_mono (ok':=(fun k_=>((fun k_=>(P0_0_ k_∨w.heap.size≤k_)∧k_≠j1_∧k_≠j2_∧k_≠j3_∧k_≠j0_)) k_∧some k_≠(u479000:Value).ownBlock)) (jz_.out) (fun k_ hk=>⟨⟨hk.1.1.1,⟨hk.1.1.2.2.1,⟨hk.1.1.2.2.2.1,⟨hk.1.1.2.2.2.2.1,hk.1.1.2.2.2.2.2⟩⟩⟩⟩,hk.1.1.2.1⟩))) (Kd.N_reads' (Kd.N_mono (ok':=(fun k_=>((fun k_=>(P0_0_ k_∨w.heap.size≤k_)∧k_≠j1_∧k_≠j2_∧k_≠j3_∧k_≠j0_)) k_∧some k_≠(u479000:Value).ownBlock)) (j18.out) (fun k_ hk=>⟨⟨hk.1.1,⟨hk.1.2.2.2.1,⟨hk.1.2.2.2.2.1,⟨hk.1.2.2.2.2.2.1,hk.1.2.2.2.2.2.2⟩⟩⟩⟩,hk.1.2.1⟩))).2.1 (Kd.N_F (Kd.N_mono (ok':=(fun k_=>((fun k_=>(P0_0_ k_∨w.heap.size≤k_)∧k_≠j1_∧k_≠j2_∧k_≠j3_∧k_≠j0_)) k_∧some k_≠(u479000:Value).ownBlock)) (j18.out) (fun k_ hk=>⟨⟨hk.1.1,⟨hk.1.2.2.2.1,⟨hk.1.2.2.2.2.1,⟨hk.1.2.2.2.2.2.1,hk.1.2.2.2.2.2.2⟩⟩⟩⟩,hk.1.2.1⟩))) (Kd.N_reads' (Kd.N_mono (ok':=(fun k_=>((fun k_=>(P0_0_ k_∨w.heap.size≤k_)∧k_≠j1_∧k_≠j2_∧k_≠j3_∧k_≠j0_)) k_∧some k_≠(u479000:Value).ownBlock)) (j23.out) (fun k_ hk=>⟨⟨hk.1,⟨hk.2.2.2.2.1,⟨hk.2.2.2.2.2.1,⟨hk.2.2.2.2.2.2.1,hk.2.2.2.2.2.2.2⟩⟩⟩⟩,hk.2.1⟩))).2.1 (Kd.N_F (Kd.N_mono (ok':=(fun k_=>((fun k_=>(P0_0_ k_∨w.heap.size≤k_)∧k_≠j1_∧k_≠j2_∧k_≠j3_∧k_≠j0_)) k_∧some k_≠(u479000:Value).ownBlock)) (j23.out) (fun k_ hk=>⟨⟨hk.1,⟨hk.2.2.2.2.1,⟨hk.2.2.2.2.2.1,⟨hk.2.2.2.2.2.2.1,hk.2.2.2.2.2.2.2⟩⟩⟩⟩,hk.2.1⟩))) (Kd.V_reads' (Kd.V_mono (ok':=(fun k_=>((fun k_=>(P0_0_ k_∨w.heap.size≤k_)∧k_≠j1_∧k_≠j2_∧k_≠j3_∧k_≠j0_)) k_∧some k_≠(u479000:Value).ownBlock)) (ju_.out) (fun k_ hk=>⟨⟨hk.1.1.1.1,⟨hk.1.1.1.2.2.1,⟨hk.1.1.1.2.2.2.1,⟨hk.1.1.1.2.2.2.2.1,hk.1.1.1.2.2.2.2.2⟩⟩⟩⟩,hk.1.1.1.2.1⟩))).2.1 (Kd.V_F (Kd.V_mono (ok':=(fun k_=>((fun k_=>(P0_0_ k_∨w.heap.size≤k_)∧k_≠j1_∧k_≠j2_∧k_≠j3_∧k_≠j0_)) k_∧some k_≠(u479000:Value).ownBlock)) (ju_.out) (fun k_ hk=>⟨⟨hk.1.1.1.1,⟨hk.1.1.1.2.2.1,⟨hk.1.1.1.2.2.2.1,⟨hk.1.1.1.2.2.2.2.1,hk.1.1.1.2.2.2.2.2⟩⟩⟩⟩,hk.1.1.1.2.1⟩))) (Kd.V_reads' (Kd.V_mono (ok':=(fun k_=>((fun k_=>(P0_0_ k_∨w.heap.size≤k_)∧k_≠j1_∧k_≠j2_∧k_≠j3_∧k_≠j0_)) k_∧some k_≠(u479000:Value).ownBlock)) (jv_.out) (fun k_ hk=>⟨⟨hk.1.1.1.1,⟨hk.1.1.1.2.2.1,⟨hk.1.1.1.2.2.2.1,⟨hk.1.1.1.2.2.2.2.1,hk.1.1.1.2.2.2.2.2⟩⟩⟩⟩,hk.1.1.1.2.1⟩))).2.1 (Kd.V_F (Kd.V_mono (ok':=(fun k_=>((fun k_=>(P0_0_ k_∨w.heap.size≤k_)∧k_≠j1_∧k_≠j2_∧k_≠j3_∧k_≠j0_)) k_∧some k_≠(u479000:Value).ownBlock)) (jv_.out) (fun k_ hk=>⟨⟨hk.1.1.1.1,⟨hk.1.1.1.2.2.1,⟨hk.1.1.1.2.2.2.1,⟨hk.1.1.1.2.2.2.2.1,hk.1.1.1.2.2.2.2.2⟩⟩⟩⟩,hk.1.1.1.2.1⟩)))))
             (case aB=>exact za8)
             (case aF=>exact (fun k_ hk=>⟨(.inr (Nat.le_trans (below_size za8) hk)),Kd.freshB (g:=j1_) (o:=.cells #[.slice (some jy_) l0_0.length c0_0] 24 (0,0)) za47 k_ hk,Kd.freshB (g:=j2_) (o:=.cells #[.slice none 0 0] 24 (0,0)) za48 k_ hk,Kd.freshB (g:=j3_) (o:=.cells #[u479000] 24 (0,0)) za49 k_ hk,Kd.freshB (g:=j0_) (o:=.cells #[.slice jb_ ((rd_T49 l0_0 x5_1).f0).length jc_,.slice jg_ ((rd_T49 l0_0 x5_1).f1).length jh_,.slice jj_ ((rd_T49 l0_0 x5_1).f2).length jk_,.slice jd_ ((rd_T49 l0_0 x5_1).f3).length ja_,.slice ji_ ((rd_T49 l0_0 x5_1).f4).length je_] 49 (0,0)) za45 k_ hk⟩))
             (case aO=>exact (by (with_reducible repeat (first|apply Kd.N_alloc|apply Kd.N_drewN|apply Kd.N_drew));exact Kd.N_mono j5_.out (fun _ hk=>⟨hk.1.1.1.1,⟨hk.1.1.1.2.1,⟨hk.1.1.1.2.2.1,⟨hk.1.1.1.2.2.2.1,hk.1.1.1.2.2.2.2⟩⟩⟩⟩)))
             (case aS=>exact (below_size za8))
             (case aL=>have:=LMc25.out;omega)
             intro v501 w44 ho hb hg hat
             rw [← j2l.out] at ho
             have n0_:=Aside0.mk (Kd.V_afterv (ok:=(fun k_=>(P0_0_ k_∨w.heap.size≤k_)∧some k_≠(.slice Ao43 t481.length co43:Value).ownBlock∧some k_≠(.slice Ao42 t484.length co42:Value).ownBlock∧some k_≠(.slice Ao41 t487.length co41:Value).ownBlock∧k_≠j1_∧k_≠j2_∧k_≠j3_∧k_≠j0_)) (by (with_reducible repeat (first|apply Kd.V_alloc|apply Kd.V_drewN|apply Kd.V_drew));exact Kd.V_mono j6_.out (fun _ hk=>⟨⟨hk.1.1.1.1,⟨hk.1.1.2,⟨hk.1.2,⟨hk.2,⟨hk.1.1.1.2.2.1,⟨hk.1.1.1.2.2.2.1,⟨hk.1.1.1.2.2.2.2.1,hk.1.1.1.2.2.2.2.2⟩⟩⟩⟩⟩⟩⟩,hk.1.1.1.2.1⟩)) hg hat)
             have n1_:=Aside0.mk (blk_grown (g:=j1_) (o:=.cells #[.slice (some jy_) l0_0.length c0_0] 24 (0,0)) za47 hg (Kd.N_ne j5_.out j8_.out (by decide)))
             have n2_:=Aside0.mk (blk_grown (g:=j2_) (o:=.cells #[.slice none 0 0] 24 (0,0)) za48 hg (Kd.N_ne j5_.out jf_.out (by decide)))
             have n3_:=Aside0.mk (blk_grown (g:=j3_) (o:=.cells #[u479000] 24 (0,0)) za49 hg (Kd.N_ne j5_.out j9_.out (by decide)))
             have n4_:=Aside0.mk (Kd.V_afterv (ok:=(fun k_=>(P0_0_ k_∨w.heap.size≤k_)∧some k_≠(.slice Ao43 t481.length co43:Value).ownBlock∧some k_≠(.slice Ao42 t484.length co42:Value).ownBlock∧some k_≠(.slice Ao41 t487.length co41:Value).ownBlock∧k_≠j1_∧k_≠j2_∧k_≠j3_∧k_≠j0_)) (by (with_reducible repeat (first|apply Kd.V_alloc|apply Kd.V_drewN|apply Kd.V_drew));exact Kd.V_mono jl_.out (fun _ hk=>⟨⟨hk.1.1.1.1,⟨hk.1.1.2,⟨hk.1.2,⟨hk.2,⟨hk.1.1.1.2.2.1,⟨hk.1.1.1.2.2.2.1,⟨hk.1.1.1.2.2.2.2.1,hk.1.1.1.2.2.2.2.2⟩⟩⟩⟩⟩⟩⟩,hk.1.1.1.2.1⟩)) hg hat)
             have n5_:=Aside0.mk (Kd.V_afterv (ok:=(fun k_=>(P0_0_ k_∨w.heap.size≤k_)∧some k_≠(.slice Ao43 t481.length co43:Value).ownBlock∧some k_≠(.slice Ao42 t484.length co42:Value).ownBlock∧some k_≠(.slice Ao41 t487.length co41:Value).ownBlock∧k_≠j1_∧k_≠j2_∧k_≠j3_∧k_≠j0_)) (by (with_reducible repeat (first|apply Kd.V_alloc|apply Kd.V_drewN|apply Kd.V_drew));exact Kd.V_mono jm_.out (fun _ hk=>⟨⟨hk.1.1.1.1,⟨hk.1.1.2,⟨hk.1.2,⟨hk.2,⟨hk.1.1.1.2.2.1,⟨hk.1.1.1.2.2.2.1,⟨hk.1.1.1.2.2.2.2.1,hk.1.1.1.2.2.2.2.2⟩⟩⟩⟩⟩⟩⟩,hk.1.1.1.2.1⟩)) hg hat)
             have n6_:=Aside0.mk (Kd.V_afterv (ok:=(fun k_=>(P0_0_ k_∨w.heap.size≤k_)∧some k_≠(.slice Ao43 t481.length co43:Value).ownBlock∧some k_≠(.slice Ao42 t484.length co42:Value).ownBlock∧some k_≠(.slice Ao41 t487.length co41:Value).ownBlock∧k_≠j1_∧k_≠j2_∧k_≠j3_∧k_≠j0_)) (by (with_reducible repeat (first|apply Kd.V_alloc|apply Kd.V_drewN|apply Kd.V_drew));exact Kd.V_mono jn_.out (fun _ hk=>⟨⟨hk.1.1.1.1,⟨hk.1.1.2,⟨hk.1.2,⟨hk.2,⟨hk.1.1.1.2.2.1,⟨hk.1.1.1.2.2.2.1,⟨hk.1.1.1.2.2.2.2.1,hk.1.1.1.2.2.2.2.2⟩⟩⟩⟩⟩⟩⟩,hk.1.1.1.2.1⟩)) hg hat)
             have n7_:=Aside0.mk (Kd.V_afterv (ok:=(fun k_=>(P0_0_ k_∨w.heap.size≤k_)∧some k_≠(.slice Ao43 t481.length co43:Value).ownBlock∧some k_≠(.slice Ao42 t484.length co42:Value).ownBlock∧some k_≠(.slice Ao41 t487.length co41:Value).ownBlock∧k_≠j1_∧k_≠j2_∧k_≠j3_∧k_≠j0_)) (by (with_reducible repeat (first|apply Kd.V_alloc|apply Kd.V_drewN|apply Kd.V_drew));exact Kd.V_mono jo_.out (fun _ hk=>⟨⟨hk.1.1.1.1,⟨hk.1.1.2,⟨hk.1.2,⟨hk.2,⟨hk.1.1.1.2.2.1,⟨hk.1.1.1.2.2.2.1,⟨hk.1.1.1.2.2.2.2.1,hk.1.1.1.2.2.2.2.2⟩⟩⟩⟩⟩⟩⟩,hk.1.1.1.2.1⟩)) hg hat)
             have n8_:=Aside0.mk (Kd.V_afterv (ok:=(fun k_=>(P0_0_ k_∨w.heap.size≤k_)∧some k_≠(.slice Ao43 t481.length co43:Value).ownBlock∧some k_≠(.slice Ao42 t484.length co42:Value).ownBlock∧some k_≠(.slice Ao41 t487.length co41:Value).ownBlock∧k_≠j1_∧k_≠j2_∧k_≠j3_∧k_≠j0_)) (by (with_reducible repeat (first|apply Kd.V_alloc|apply Kd.V_drewN|apply Kd.V_drew));exact Kd.V_mono jp_.out (fun _ hk=>⟨⟨hk.1.1.1.1,⟨hk.1.1.2,⟨hk.1.2,⟨hk.2,⟨hk.1.1.1.2.2.1,⟨hk.1.1.1.2.2.2.1,⟨hk.1.1.1.2.2.2.2.1,hk.1.1.1.2.2.2.2.2⟩⟩⟩⟩⟩⟩⟩,hk.1.1.1.2.1⟩)) hg hat)
             have n9_:=Aside0.mk (blk_grown (g:=j0_) (o:=.cells #[.slice jb_ ((rd_T49 l0_0 x5_1).f0).length jc_,.slice jg_ ((rd_T49 l0_0 x5_1).f1).length jh_,.slice jj_ ((rd_T49 l0_0 x5_1).f2).length jk_,.slice jd_ ((rd_T49 l0_0 x5_1).f3).length ja_,.slice ji_ ((rd_T49 l0_0 x5_1).f4).length je_] 49 (0,0)) za45 hg (Kd.N_away j5_.out (fun _ hk=>hk.1.1.1.2.2.2.2)))
             have n10_:=Aside0.mk (Kd.V_afterv (ok:=(fun k_=>(P0_0_ k_∨w.heap.size≤k_)∧some k_≠(.slice Ao43 t481.length co43:Value).ownBlock∧some k_≠(.slice Ao42 t484.length co42:Value).ownBlock∧some k_≠(.slice Ao41 t487.length co41:Value).ownBlock∧k_≠j1_∧k_≠j2_∧k_≠j3_∧k_≠j0_)) (by (with_reducible repeat (first|apply Kd.V_alloc|apply Kd.V_drewN|apply Kd.V_drew));exact Kd.V_mono ju_.out (fun _ hk=>⟨⟨hk.1.1.1.1,⟨hk.1.1.2,⟨hk.1.2,⟨hk.2,⟨hk.1.1.1.2.2.1,⟨hk.1.1.1.2.2.2.1,⟨hk.1.1.1.2.2.2.2.1,hk.1.1.1.2.2.2.2.2⟩⟩⟩⟩⟩⟩⟩,hk.1.1.1.2.1⟩)) hg hat)
             have n11_:=Aside0.mk (Kd.V_afterv (ok:=(fun k_=>(P0_0_ k_∨w.heap.size≤k_)∧some k_≠(.slice Ao43 t481.length co43:Value).ownBlock∧some k_≠(.slice Ao42 t484.length co42:Value).ownBlock∧some k_≠(.slice Ao41 t487.length co41:Value).ownBlock∧k_≠j1_∧k_≠j2_∧k_≠j3_∧k_≠j0_)) (by (with_reducible repeat (first|apply Kd.V_alloc|apply Kd.V_drewN|apply Kd.V_drew));exact Kd.V_mono jv_.out (fun _ hk=>⟨⟨hk.1.1.1.1,⟨hk.1.1.2,⟨hk.1.2,⟨hk.2,⟨hk.1.1.1.2.2.1,⟨hk.1.1.1.2.2.2.1,⟨hk.1.1.1.2.2.2.2.1,hk.1.1.1.2.2.2.2.2⟩⟩⟩⟩⟩⟩⟩,hk.1.1.1.2.1⟩)) hg hat)
             have n12_:=Aside0.mk (hb)
             have n13_:=Aside0.mk (ho)
             clear j6_
             clear j8_
             clear jf_
             clear j9_
             clear jl_
             clear jm_
             clear jn_
             clear jo_
             clear jp_
             clear j4_
             clear ju_
             clear jv_
             clear HB
             clear j5_
             clear jz_
             clear j18
             clear j23
             have j6_:=n0_
             have j8_:=n1_
             have jf_:=n2_
             have j9_:=n3_
             have jl_:=n4_
             have jm_:=n5_
             have jn_:=n6_
             have jo_:=n7_
             have jp_:=n8_
             have j4_:=n9_
             have ju_:=n10_
             have jv_:=n11_
             have HB:=n12_
             have j2a:=n13_
             clear n0_ n1_ n2_ n3_ n4_ n5_ n6_ n7_ n8_ n9_ n10_ n11_ n12_ n13_
             clear ho hb hg hat
             obtain ⟨Ao45,co45,eo45⟩:=Kd.N_slice j2a.out
             (first|subst eo45|(injection eo45 with f1_ f2_ f3_;have f4_:=f1_.symm;have f5_:=f3_.symm;clear f1_ f2_ f3_;subst f4_;subst f5_))
             refine hK.out _ _ ⟨(blk_cell j9_.out 0).trans rfl,(blk_cell j4_.out 0).trans rfl,(blk_cell j4_.out 1).trans rfl,(blk_cell j4_.out 2).trans rfl,(blk_cell j4_.out 3).trans rfl,(blk_cell j4_.out 4).trans rfl⟩ (fun hHeld=>?_)
             clear hK K
             refine norm_ (a':=?_) ?_ ?_
             rotate_left
             ·
              show Act.put _ (some 53) _=_
              simp only [Act.put,List.setIfInBounds_toArray,List.set_cons_zero,List.set_cons_succ,i64_w,i32_w]
              rfl
             refine pure_ (i:=31) (N:=some 54) (v:=?_) (a':=?_) #[true,true,true,true,true,true,true,true,true,true,true,true,true,true,true,true,true,true,true,true,true,true,true,true,true,true,true,true,true,true,true,true,false] rfl rfl (any_of HT_.out (by kernel_rfl)) (fun _ _ _ h=>h) (Or.inl ⟨by rfl,?_⟩) ?_ ?_
             rotate_left
             ·
              intro w'
              go_simp
              with_reducible rfl
             rotate_left
             ·
              simp only [Act.put,List.setIfInBounds_toArray,List.set_cons_zero,List.set_cons_succ,i64_w,i32_w]
              rfl
             refine last_ (i:=32) (N:=none) #[true,true,true,true,true,true,true,true,true,true,true,true,true,true,true,true,true,true,true,true,true,true,true,true,true,true,true,true,true,true,true,true,true] rfl rfl (one_of HT_.out (by kernel_rfl)) (by decide) (fun K hK=>?_)
             have hs46:w44.cell? ⟨j3_,0,none⟩=some (u479000):=(blk_cell j9_.out 0).trans rfl
             have hfs46:=blk_frozen j9_.out 0
             have hns46_0:=j10.out
             have hns46_1:=j1a.out
             have hns46_3:=j21.out
             have hms46_0:=j14.out
             have hms46_1:=j20.out
             have hms46_3:=jx_.out
             refine skip_ (w1:=?_) (by rfl) rfl ?_ ?_
             rotate_left
             ·
              go_simp
              rfl
             refine hK.out _ _ ?_
             clear hK K
             refine done_ (done_of HT_.out (by kernel_rfl)) ?_
             try go_wp2
             go_roundg kj4
             case measure=>have:=HK1.out;have:=HJ4.out;omega
             case rel=>exact ⟨(wrap64 (x5_1+1)),(y500),(.slice Ao45 y500.length co45),za76,H',⟨by have:=HK1.out;have:=HJ4.out;omega⟩,⟨by (with_reducible repeat (first|apply Kd.V_alloc|apply Kd.V_drewN|apply Kd.V_drew));exact Kd.V_mono (Kd.V_far (p:=⟨j3_,0,none⟩) (Kd.V_mono j6_.out (fun k_ hk=>(⟨hk,hk.1.2.2.2.2.2.2.1⟩:_∧k_≠j3_))) (fun _ hk=>hk.2) (.slice Ao45 y500.length co45)) (fun _ hk=>⟨hk.1.1.1,⟨hk.1.2,⟨hk.1.1.2.2.2.2.1,⟨hk.1.1.2.2.2.2.2.1,hk.1.1.2.2.2.2.2.2.1⟩⟩⟩⟩)⟩,⟨by (with_reducible repeat (first|apply Kd.N_alloc|apply Kd.N_drewN|apply Kd.N_drew));exact Kd.N_mono (Kd.N_far (p:=⟨j3_,0,none⟩) (Kd.N_mono j2a.out (fun k_ hk=>(⟨hk,hk.2.2.2.1⟩:_∧k_≠j3_))) (fun _ hk=>hk.2) (.slice Ao45 y500.length co45)) (fun _ hk=>⟨hk.1.1,⟨hk.1.2.1,⟨hk.1.2.2.1,hk.1.2.2.2.1⟩⟩⟩)⟩,⟨by (with_reducible repeat (first|refine blk_drewN ?_ _|refine blk_drew ?_|refine blk_alloc ?_ _));refine blk_far ?_ j10.out _;(with_reducible repeat (first|refine blk_drewN ?_ _|refine blk_drew ?_|refine blk_alloc ?_ _));exact j8_.out⟩,⟨by (with_reducible repeat (first|refine blk_drewN ?_ _|refine blk_drew ?_|refine blk_alloc ?_ _));refine blk_far ?_ j1a.out _;(with_reducible repeat (first|refine blk_drewN ?_ _|refine blk_drew ?_|refine blk_alloc ?_ _));exact jf_.out⟩,⟨by (with_reducible repeat (first|refine blk_drewN ?_ _|refine blk_drew ?_|refine blk_alloc ?_ _));refine blk_put (cs:=#[u479000]) ?_ 0 _ rfl;(with_reducible repeat (first|refine blk_drewN ?_ _|refine blk_drew ?_|refine blk_alloc ?_ _));exact j9_.out⟩,⟨by repeat (first|(with_reducible first|exact HB.out|apply below_alloc|apply pw_below_drewN|apply below_drew1|refine below_set ?_ jr_.out|refine below_set ?_ js_.out|refine below_set ?_ jt_.out|refine below_set ?_ jw_.out)|exact HB.out)⟩⟩
            ·
             rw [if_neg c25] at H
             exact absurd H (by simp)
           ·
            rw [if_neg c24] at H
            exact absurd H (by simp)
          ·
           rw [if_neg c23] at H
           exact absurd H (by simp)
         ·
          rw [if_neg c21] at H
          exact absurd H (by simp)
        ·
         rw [if_neg c20] at H
         exact absurd H (by simp)
       ·
        rw [if_neg c15] at H
        exact absurd H (by simp)
      ·
       rw [if_neg c14] at H
       exact absurd H (by simp)
     ·
      replace c13:=Bool.eq_false_iff.mpr c13
      subst c13
      have H1:(some j7_)=some r:=by rw [if_neg (show ¬ (false=true) by decide)] at H;exact H
      clear H
      have H:=H1
      clear H1
      obtain rfl:=Option.some.inj H
      have hnb47:=j14.out
      have hnc47:=j10.out
      have hnb48:=j20.out
      have hnc48:=j1a.out
      have hcz49_0:wc.cell? ⟨j3_,0,none⟩=some (u479000):=(blk_cell j9_.out 0).trans rfl
      have hfz49_0:=blk_frozen j9_.out 0
      obtain ⟨Ao50,co50,eo50⟩:=Kd.N_slice j5_.out
      subst eo50
      have hnb51:=j17.out
      have hnc51:=j16.out
      have hcz52_0:wc.cell? ⟨j2_,0,none⟩=some (.slice none 0 0):=(blk_cell jf_.out 0).trans rfl
      have hfz52_0:=blk_frozen jf_.out 0
      go_wp2
      refine bodyPost_ret (results_cell_row rfl _ _ j2_ 24 #[.slice Ao50 j7_.length co50] (0,0) _ rfl (by (with_reducible repeat (first|refine blk_drewN ?_ _|refine blk_drew ?_|refine blk_alloc ?_ _));refine blk_put (cs:=#[.slice none 0 0]) ?_ 0 _ rfl;(with_reducible repeat (first|refine blk_drewN ?_ _|refine blk_drew ?_|refine blk_alloc ?_ _));exact jf_.out) Try.underlying24 rfl (by kernel_rfl)) rfl ?_
      exact ⟨_,by first|rfl|(simp [errW_none,errW_some]<;>rfl)|(simp [*,errW_none,errW_some]<;>rfl),by (with_reducible repeat (first|apply Kd.N_alloc|apply Kd.N_drewN|apply Kd.N_drew));exact Kd.N_mono (Kd.N_far (p:=⟨j2_,0,none⟩) (Kd.N_mono j5_.out (fun k_ hk=>(⟨hk,hk.2.2.1⟩:_∧k_≠j2_))) (fun _ hk=>hk.2) (.slice Ao50 j7_.length co50)) (fun _ hk=>hk.1.1),by repeat (first|(with_reducible first|exact HB.out|apply below_alloc|apply pw_below_drewN|apply below_drew1|refine below_set ?_ jr_.out|refine below_set ?_ js_.out|refine below_set ?_ jt_.out)|exact HB.out)⟩
end Go.Proofs.Ytlgkeaildncojaa.Q
end
section
namespace Go.Proofs.Ytlgkeaildncojaa.Q
open Go.RowKit Go.Shelf Go.Proofs.YtlgkeaildncojaaW.PrintWords Go.Proofs.YtlgkeaildncojaaW.PrintLast Go.Proofs.YtlgkeaildncojaaW.PrintMore
set_option linter.unusedSimpArgs false
set_option linter.unusedVariables false
def cutS (f:List (List Int)):List (List Int):=(f.take 5).map (fun s=>s.take 5)
def cutR (r:S49):S49:=⟨cutS r.f0,cutS r.f1,cutS r.f2,r.f3.take 5,r.f4.take 4⟩
def cutL (l:List S49):List S49:=(l.take 9).map cutR
theorem mn_nat (n:Nat) (m:Int) (hm:0≤m):0≤mn (n:Int) m∧mn (n:Int) m≤(n:Int)∧mn (n:Int) m≤m∧(mn (n:Int) m=(n:Int)∨mn (n:Int) m=m):=by
 unfold mn
 split<;>omega
theorem take_mn {α:Type} (l:List α) (m:Nat):l.take (mn (l.length:Int) (m:Int)).toNat=l.take m:=by
 obtain ⟨h1,h2,h3,h4|h4⟩:=mn_nat l.length (m:Int) (by omega)
 ·
  rw [h4,Int.toNat_natCast,List.take_of_length_le (Nat.le_refl _),List.take_of_length_le (by omega)]
 ·
  rw [h4,Int.toNat_natCast]
theorem cut1_l0 (l:List (List Int)) (hl:l.length≤9223372036854775807):∀ (d i:Nat) (out:List (List Int)),i+d=min l.length 5→out.length≤i→Ev (fun k=>abugidalaw16_cut_1.l0 k l out (i:Int)) (out++((l.take 5).drop i).map (fun s=>s.take 5)):=by
 intro d
 induction d with
 | zero =>
  intro i out hi ho
  rw [List.drop_of_length_le (by rw [List.length_take];omega),List.map_nil,List.append_nil]
  by_cases h:(i:Int)<(l.length:Int)
  ·
   refine Ev.step (fun k=>by rw [abugidalaw16_cut_1.l0,if_pos h,if_neg (by omega)]) ?_
   exact Ev.now _
  ·
   refine Ev.step (fun k=>by rw [abugidalaw16_cut_1.l0,if_neg h]) ?_
   exact Ev.now _
 | succ d ih =>
  intro i out hi ho
  have h:(i:Int)<(l.length:Int):=by omega
  have hw:wrap64 ((i:Int)+1)=((i+1:Nat):Int):=by rw [wr64 _ (by omega) (by omega)];omega
  have hm:=mn_nat (l.getD i []).length 5 (by decide)
  have hdr:(l.take 5).drop i=l.getD i [] :: (l.take 5).drop (i+1):=by
   rw [List.drop_eq_getElem_cons (by rw [List.length_take];omega),List.getElem_take,List.getD_eq_getElem?_getD,List.getElem?_eq_getElem (by omega)]
   rfl
  rw [hdr,List.map_cons]
  have:=ih (i+1) (out++[(l.getD i []).take 5]) (by omega) (by rw [List.length_append,List.length_singleton];omega)
  rw [List.append_assoc,List.singleton_append] at this
  refine Ev.step (fun k=>by rw [abugidalaw16_cut_1.l0,if_pos h,if_pos (by omega),if_pos (by omega),rdL1,if_pos hm.1,if_pos hm.2.1,if_pos (by omega),show (l.getD i []).take (mn ((l.getD i []).length:Int) 5).toNat=(l.getD i []).take 5 from take_mn _ 5,hw]) this
theorem cut1_ev (l:List (List Int)) (hl:l.length≤9223372036854775807):Ev (fun k=>abugidalaw16_cut_1.f k l) (cutS l):=by
 have:=cut1_l0 l hl (min l.length 5) 0 [] (Nat.zero_add _) (Nat.le_refl _)
 rw [List.nil_append,List.drop_zero] at this
 exact this
theorem cut_l0 (l:List S49) (hl:l.length≤9223372036854775807) (hb:∀ r∈l,r.f0.length≤9223372036854775807∧r.f1.length≤9223372036854775807∧r.f2.length≤9223372036854775807):∀ (d i:Nat) (out:List S49),i+d=min l.length 9→out.length≤i→Ev (fun k=>abugidalaw16_cut.l0 k (i:Int) l out) (out++((l.take 9).drop i).map cutR):=by
 intro d
 induction d with
 | zero =>
  intro i out hi ho
  rw [List.drop_of_length_le (by rw [List.length_take];omega),List.map_nil,List.append_nil]
  have stop:Ev (fun k=>abugidalaw16_cut.j1 k (i:Int) false l out) out:=by
   refine Ev.step (fun k=>by rw [abugidalaw16_cut.j1,if_neg (by decide)]) ?_
   exact Ev.now _
  by_cases h:(i:Int)<(l.length:Int)
  ·
   exact Ev.step (fun k=>by rw [abugidalaw16_cut.l0,if_pos h,show decide ((i:Int)<9)=false from decide_eq_false (by omega)]) stop
  ·
   exact Ev.step (fun k=>by rw [abugidalaw16_cut.l0,if_neg h]) stop
 | succ d ih =>
  intro i out hi ho
  have h:(i:Int)<(l.length:Int):=by omega
  have hw:wrap64 ((i:Int)+1)=((i+1:Nat):Int):=by rw [wr64 _ (by omega) (by omega)];omega
  have hdr:(l.take 9).drop i=l.getD i z49 :: (l.take 9).drop (i+1):=by
   rw [List.drop_eq_getElem_cons (by rw [List.length_take];omega),List.getElem_take,List.getD_eq_getElem?_getD,List.getElem?_eq_getElem (by omega)]
   rfl
  have hrd:rd_T49 l (i:Int)=l.getD i z49:=by unfold rd_T49;rw [Int.toNat_natCast]
  have hbr:=hb _ (getD_mem' l i z49 (by omega))
  rw [hdr,List.map_cons]
  generalize l.getD i z49=r at *
  have:=ih (i+1) (out++[cutR r]) (by omega) (by rw [List.length_append,List.length_singleton];omega)
  rw [List.append_assoc,List.singleton_append] at this
  have m3:=mn_nat r.f3.length 5 (by decide)
  have m4:=mn_nat r.f4.length 4 (by decide)
  have ho2:out.length<1172812402961:=by omega
  refine Ev.step (fun k=>by rw [abugidalaw16_cut.l0,if_pos h,show decide ((i:Int)<9)=true from decide_eq_true (by omega)]) ?_
  refine Ev.step (fun k=>by rw [abugidalaw16_cut.j1,if_pos rfl,if_pos (by omega),if_pos h,hrd]) ?_
  refine Ev.bind (g:=fun k=>abugidalaw16_cut_1.f k r.f0) (cut1_ev _ hbr.1) ?_
  refine Ev.bind (g:=fun k=>abugidalaw16_cut_1.f k r.f1) (cut1_ev _ hbr.2.1) ?_
  refine Ev.bind (g:=fun k=>abugidalaw16_cut_1.f k r.f2) (cut1_ev _ hbr.2.2) ?_
  refine Ev.congr (fun k=>by rw [if_pos m3.1,if_pos m3.2.1,if_pos m4.1,if_pos m4.2.1,if_pos ho2,hw,show r.f3.take (mn (r.f3.length:Int) 5).toNat=r.f3.take 5 from take_mn _ 5,show r.f4.take (mn (r.f4.length:Int) 4).toNat=r.f4.take 4 from take_mn _ 4];rfl) this
theorem cut_ev (l:List S49) (hl:l.length≤9223372036854775807) (hb:∀ r∈l,r.f0.length≤9223372036854775807∧r.f1.length≤9223372036854775807∧r.f2.length≤9223372036854775807):Ev (fun k=>abugidalaw16_cut.f k l) (cutL l):=by
 have:=cut_l0 l hl hb (min l.length 9) 0 [] (Nat.zero_add _) (Nat.le_refl _)
 rw [List.nil_append,List.drop_zero] at this
 exact this
theorem k49_lens {w:World} {A:Option Addr} {l:List S49} (h:k49.C w A l.length l):∀ r∈l,r.f0.length≤9223372036854775807∧r.f1.length≤9223372036854775807∧r.f2.length≤9223372036854775807:=by
 intro r hr
 obtain ⟨i,hi,rfl⟩:=List.getElem_of_mem hr
 obtain ⟨ad,A0,c0,A1,c1,A2,c2,A3,c3,A4,c4,-,-,-,-,-,-,-,g0,-,g1,-,g2,-⟩:=at_T49 h (i:Int) (by omega) (by omega)
 have e:rd_T49 l (i:Int)=l[i]:=by unfold rd_T49;rw [Int.toNat_natCast,List.getD_eq_getElem?_getD,List.getElem?_eq_getElem hi];rfl
 rw [e] at g0 g1 g2
 exact ⟨Kd.C_max g0,Kd.C_max g1,Kd.C_max g2⟩
def In64 (l:List S49):Prop:=∀ r∈l,(∀ s∈r.f0,∀ x∈s,-9223372036854775808≤x∧x≤9223372036854775807)∧(∀ s∈r.f1,∀ x∈s,-9223372036854775808≤x∧x≤9223372036854775807)∧(∀ s∈r.f2,∀ x∈s,-9223372036854775808≤x∧x≤9223372036854775807)
theorem cutS_in {f:List (List Int)} (h:∀ s∈f,∀ x∈s,-9223372036854775808≤x∧x≤9223372036854775807):∀ s∈cutS f,I64s 9 s:=by
 intro s hs
 obtain ⟨t,ht,rfl⟩:=List.mem_map.mp hs
 exact ⟨by rw [List.length_take];omega,fun x hx=>h t (List.mem_of_mem_take ht) x (List.mem_of_mem_take hx)⟩
theorem cutL_bd {l:List S49} (h:In64 l):BdL 9 (cutL l):=by
 refine ⟨by unfold cutL;rw [List.length_map,List.length_take];omega,fun r hr=>?_⟩
 obtain ⟨q,hq,rfl⟩:=List.mem_map.mp hr
 obtain ⟨h0,h1,h2⟩:=h q (List.mem_of_mem_take hq)
 refine ⟨?_,?_,?_,?_,?_,cutS_in h0,cutS_in h1,cutS_in h2⟩<;>(unfold cutR cutS;dsimp only;(try rw [List.length_map]);rw [List.length_take];omega)
theorem cut_plain (A:Option Addr) (c:Nat) (l:List S49) (w:World) (hr:k49.C w A l.length l) (hc:l.length≤c) (hi:In64 l) :
  Calls Try.prog 14 #[.agg #[.slice A l.length c]] w fun e w'=>∃ A' c' l',e=.returned (.agg #[.slice A' l'.length c'])∧k49.C w' A' l'.length l'∧l'.length≤c'∧BdL 9 l'∧Below w.heap.size w w':=by
 obtain ⟨k,hk⟩:=Ev.rounds (cut_ev l (Kd.C_max hr) (k49_lens hr))
 refine (abugidalaw16_cut.calls k (fun k=>k<w.heap.size) A c l (cutL l) w (Kd.V_mk hc (Kd.C_F k49_heap hr)) hk).mono ?_
 rintro e w' ⟨v,rfl,hN,hb⟩
 obtain ⟨A',c',rfl,h1,h2⟩:=Kd.N_reads hN
 exact ⟨A',c',cutL l,rfl,h2,h1,cutL_bd hi,hb⟩
end Go.Proofs.Ytlgkeaildncojaa.Q
end
