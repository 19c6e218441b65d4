/- Texts of this claim, merged by wip/tools/pack.py: Odwd, Oj, Opn, Oc, Oe, Of, Rj. -/
import Derived.Test.YtlgkeaildncojaaZ31
import Derived.Deep.Slices
import Derived.OpenShut
section
namespace Go.Proofs.Ytlgkeaildncojaa.Q
open Go.RowKit Go.Shelf Go.Proofs.YtlgkeaildncojaaW.PrintWords Go.Proofs.YtlgkeaildncojaaW.PrintLast Go.Proofs.YtlgkeaildncojaaW.PrintMore
set_option linter.unusedSimpArgs false
set_option linter.unusedVariables false
attribute [local go_sem] Oper.semAt_some
set_option maxRecDepth 100000 in
set_option maxHeartbeats 16000000 in
theorem odd_calls_d (A:Option Addr) (c:Nat) (l:List S49) (q0 q1 q2:Int) (N:Nat) (w wq:World) (R0:Res) (hO0:Own w wq [R0]) (hr:k49.C w A l.length l) (hc:l.length≤c) (hb:BdL N l) (hN:N≤1000) (hsel:q0 % 12=9∨q0 % 12=10∨q0 % 12=11) :
  Calls Try.prog 13 #[.agg #[.slice A l.length c],.agg #[.int .i64 q0,.int .i64 q1,.int .i64 q2]] wq fun e w'=>∃ A' c' l' XS,e=.returned (.agg #[.slice A' l'.length c'])∧(∀ W,EX w XS W→k49.C W A' l'.length l')∧l'.length≤c'∧BdL (N+12) l'∧Own w w' (R0 :: XS):=by
 obtain ⟨rows0,hrl0,hrC0,hrK0⟩:=raw_of_C hr
 have HRL0:=Aside0.mk hrl0
 have HRC0:=Aside0.mk hrC0
 have HRK0:=Aside0.mk hrK0
 have HB:=Aside0.mk hb
 have HN:=Aside0.mk hN
 have hll:(l.length:Int)≤1000:=by have:=hb.1;omega
 obtain ⟨n,hn⟩:∃ n,q1 % 6=n:=⟨_,rfl⟩
 have HNN:=Aside0.mk (show 0≤n∧n≤5 by omega)
 have HM6:=Aside0.mk (show abugidaref01_Mod.f q1 6=some n by rw [mod_some q1 6 (by decide) (by decide),hn])
 have HSEL:=Aside0.mk hsel
 have HO:=Aside0.mk hO0
 clear hr hc hb hN hrl0 hrC0 hrK0 hn hsel
 go_enter Try.func13,Try.ntmps13
 go_upto_region 3 with (first
  | ((with_reducible refine gate_dst (N:=2) rfl ?_);(refine ev_box (N:=2) (cs:=#[.slice A l.length c]) (t:=24) HO.out rfl rfl zhr ?_;intro g2 W_ hO hb_;clear HO hb_;have HO:=Aside0.mk hO;clear hO))
  | ((with_reducible refine gate_dst (N:=3) rfl ?_);(refine ev_box (N:=3) (cs:=#[.int .i64 q0,.int .i64 q1,.int .i64 q2]) (t:=27) HO.out rfl rfl zhr ?_;intro g3 W_ hO hb_;clear HO hb_;have HO:=Aside0.mk hO;clear hO))
  | ((with_reducible refine gate_dst (N:=4) rfl ?_);(refine ev_box (N:=4) (cs:=#[.slice none 0 0]) (t:=24) HO.out rfl rfl zhr ?_;intro g4 W_ hO hb_;clear HO hb_;have HO:=Aside0.mk hO;clear hO;have x2:=HO.out.box_cell 1 rfl 0 rfl))
  | ((with_reducible refine gate_dst (N:=11) rfl ?_);(refine ev_lit (Kd.raw 5) 49 (N:=11) (xs:=[]) (inner:=[]) HO.out rfl rfl ?hr ?hp (by decide) ?_;(case hr=>first|(go_simp;done)|(go_simp;rfl));(case hp=>exact Reps.none _ _);intro A_ c_ W_ hO hb_;clear HO hb_;have HO:=Aside0.mk hO;clear hO;clear x2;have x2:=HO.out.box_cell 1 rfl 0 rfl))
  | ((with_reducible refine gate_builtin (b:=.append) (xs:=#[.tmp 11,.tmp 13]) rfl ?_);at_builtin;(refine ev_rowsm 4 HO.out rfl rfl (.tmp 11) (.tmp 13) 22 (.agg #[.slice none 0 0,.slice none 0 0,.slice none 0 0,.slice none 0 0,.slice none 0 0]) 120 rfl Try.underlying22 info49 rfl (Nat.succ_pos 4) (by decide) rows0 A l.length c rows0 l.length rfl HRL0.out HRL0.out rfl rfl (Kd.C_below HRC0.out HO.out.below) (fun _ _ h=>h) ?aL ?_;(case aL=>have:=HB.out.1;have:=HN.out;simp;omega);intro A14 c14 W_ hO;clear HO;have HO:=Aside0.mk hO;clear hO;clear x2))
  | ((with_reducible refine gate_dst (N:=5) rfl ?_);(refine ev_box (N:=5) (cs:=#[.slice none 0 0]) (t:=24) HO.out rfl rfl zhr ?_;intro g5 W_ hO hb_;clear HO hb_;have HO:=Aside0.mk hO;clear hO))
  | ((with_reducible refine gate_store (t:=24) (p:=5) rfl ?_);(refine ev_store (cs':=#[.slice A14 l.length c14]) (.agg #[.slice A14 l.length c14]) 5 HO.out rfl rfl rfl rfl 0 rfl rfl sz24 za77 (show (0:Nat)+1≤1 by decide) rfl ?_;intro W_ hO;clear HO;have HO:=Aside0.mk hO;clear hO;have x3:=HO.out.box_cell 2 rfl 1 rfl))
  | (go_at_call 15;(refine (abugidaref01_Mod.calls q1 6 n _ HM6.out).mono ?_;rintro e_ W_ ⟨rfl,hd⟩;have nO:=Aside0.mk (HO.out.grow hd.below);clear HO hd;have HO:=nO;clear nO;clear x3)))
 have x5:=HO.out.box_cell 5 rfl 0 rfl
 go_upto_if 22 with (fail)
 clear x5
 go_cut [] (fun wc=>∃ (Lr:List S49) (rows:List (List Value)) (A5:Option Addr) (c5:Nat) (X1 X2:Res),Aside0 (0<Lr.length)∧Aside0 (BdL (N+1) Lr)∧Aside0 (Own w wc [R0,.box g2 24 #[.slice A l.length c],.box g3 27 #[.int .i64 q0,.int .i64 q1,.int .i64 q2],.box g4 24 #[.slice none 0 0],.row (Kd.raw 5) 49 w.heap.size (.slice A5 Lr.length c5) rows,.box g5 24 #[.slice A5 Lr.length c5],X1,X2])∧Aside0 (RulesX (EX w [X1,X2]) Lr rows))
 case first =>
  by_cases hl0:l.length=0
  case neg =>
   have e0:((l.length:Int)==0)=false:=beq_eq_false_iff_ne.mpr (by omega)
   have n0:((l.length:Int)=0)=False:=eq_false (by omega)
   have HL0:=Aside0.mk (show 0<l.length by omega)
   clear hl0
   go_wp2
   go_meet
   case rel=>exact ⟨l,rows0,A14,c14,.emp,.emp,HL0,⟨HB.out.le (Nat.le_succ N)⟩,⟨(HO.out.add (r:=.emp) (Below.refl _ _) trivial).add (r:=.emp) (Below.refl _ _) trivial⟩,⟨HRL0.out,fun j r cs hj hcs=>RuleX.old (fun W hW=>hW.1) (HRK0.out j r cs hj hcs)⟩⟩
  case pos =>
   have e0:((l.length:Int)==0)=true:=beq_iff_eq.mpr (by omega)
   have n0:((l.length:Int)=0)=True:=eq_true (by omega)
   have hr0:rows0=[]:=List.eq_nil_of_length_eq_zero (by rw [HRL0.out];exact hl0)
   subst hr0
   have HL0:=Aside0.mk hl0
   clear hl0
   have x5:=HO.out.box_cell 5 rfl 0 rfl
   go_wp2_with (first
    | ((with_reducible refine gate_dst (N:=26) rfl ?_);(refine ev_litB (N:=26) (n:=1) (t:=3) (cs:=#[.int .i64 n]) HO.out rfl rfl zhr ?_;intro g26 W_ hO hb_;clear HO hb_;have HO:=Aside0.mk hO;clear hO;clear x5;have x5:=HO.out.box_cell 5 rfl 0 rfl))
    | ((with_reducible refine gate_dst (N:=27) rfl ?_);(refine ev_litB (N:=27) (n:=1) (t:=26) (cs:=#[.slice (some ⟨g26,0,none⟩) 1 1]) HO.out rfl rfl zhr ?_;intro g27 W_ hO hb_;clear HO hb_;have HO:=Aside0.mk hO;clear hO;clear x5;have x5:=HO.out.box_cell 5 rfl 0 rfl))
    | ((with_reducible refine gate_builtin (b:=.append) (xs:=#[.tmp 24,.tmp 29]) rfl ?_);at_builtin;(refine ev_append 4 HO.out rfl rfl (.tmp 24) (.tmp 29) 22 (.agg #[.slice none 0 0,.slice none 0 0,.slice none 0 0,.slice none 0 0,.slice none 0 0]) 120 rfl Try.underlying22 info49 rfl (Nat.succ_pos 4) (by decide) ([.slice none 0 0,.slice (some ⟨g27,0,none⟩) 1 1,.slice none 0 0,.slice none 0 0,.slice none 0 0]:List Value) [.slice none 0 0,.slice (some ⟨g27,0,none⟩) 1 1,.slice none 0 0,.slice none 0 0,.slice none 0 0] rfl rfl ⟨rfl,rfl,by simp [Value.oneCell']⟩ (by decide) ?_;intro A30 c30 W_ hO;clear HO x5;have HO:=Aside0.mk hO;clear hO))
    | ((with_reducible refine gate_store (t:=22) (p:=31) rfl ?_);(refine ev_store (cs':=#[.slice A30 1 c30]) (.slice A30 1 c30) 5 HO.out rfl rfl rfl rfl 0 rfl rfl sz22 za77 (show (0:Nat)+1≤1 by decide) rfl ?_;intro W_ hO;clear HO;have HO:=Aside0.mk hO;clear hO)))
   go_meet
   case rel =>
    refine ⟨[⟨[],[[n]],[],[],[]⟩],[[.slice none 0 0,.slice (some ⟨g27,0,none⟩) 1 1,.slice none 0 0,.slice none 0 0,.slice none 0 0]],A30,c30,_,_,⟨Nat.one_pos⟩,⟨⟨Nat.le_add_left _ _,fun r hr=>?_⟩⟩,HO,⟨rfl,fun j r cs hj hcs=>?_⟩⟩
    ·
     rw [List.mem_singleton] at hr
     subst hr
     exact ⟨Nat.zero_le _,Nat.le_add_left _ _,Nat.zero_le _,Nat.zero_le _,Nat.zero_le _,fun s h=>(by cases h),fun s h=>(by
      rw [List.mem_singleton] at h
      subst h
      exact ⟨Nat.le_add_left _ _,fun x hx=>by rw [List.mem_singleton] at hx;subst hx;have:=HNN.out;omega⟩),fun s h=>(by cases h)⟩
    ·
     cases j with
     | succ j=>simp at hj
     | zero =>
      simp at hj hcs
      subst hj hcs
      refine ⟨none,0,some ⟨g27,0,none⟩,1,none,0,none,0,none,0,rfl,Nat.le_refl _,.nil _ _,Nat.le_refl _,⟨[[.slice (some ⟨g26,0,none⟩) 1 1]],rfl,fun W hE=>?_,fun W hE j x cc hx hcc=>?_⟩,Nat.le_refl _,.nil _ _,Nat.le_refl _,fun W _=>Kd.C_nil _ _,Nat.le_refl _,fun W _=>Kd.C_nil _ _⟩
      ·
       exact box_raw (vs:=[.slice (some ⟨g26,0,none⟩) 1 1]) (hE.box (t:=26) (cs:=#[.slice (some ⟨g26,0,none⟩) 1 1]) (by simp)) za80 (show (1:Nat)≤1000 by decide) 1 rfl
      ·
       cases j with
       | succ j=>simp at hx
       | zero =>
        simp at hx hcc
        subst hx hcc
        exact set_K (ns:=[n]) (hE.box (t:=3) (cs:=#[.int .i64 n]) (by simp)) (show (1:Nat)≤1000 by decide) 1 rfl
 clear HO
 obtain ⟨Lr,rows,A5,c5,X1,X2,HL1,HBL,HO,HRX⟩:=hcut
 have hlr:=HBL.out.1
 have hN1:=HN.out
 have h0r:=HL1.out
 obtain ⟨at_,hat⟩:∃ k:Nat,q2 % (Lr.length:Int)=(k:Int):=⟨(q2 % (Lr.length:Int)).toNat,by have:=Int.emod_nonneg q2 (show (Lr.length:Int)≠0 by omega);omega⟩
 have hat2:at_<Lr.length:=by have:=Int.emod_lt_of_pos q2 (show 0<(Lr.length:Int) by omega);omega
 have HMA:=Aside0.mk (show abugidaref01_Mod.f q2 (Lr.length:Int)=some (at_:Int) by rw [mod_some q2 _ (by omega) (by omega),hat])
 obtain ⟨sw,hsw⟩:∃ s,q0 % 12=s:=⟨_,rfl⟩
 have hsw2:0≤sw∧sw<12:=by omega
 have HSL:=Aside0.mk (hsw ▸ HSEL.out)
 clear HSEL
 have HMS:=Aside0.mk (show abugidaref01_Mod.f q0 12=some sw by rw [mod_some q0 12 (by decide) (by decide),hsw])
 have HSW:=Aside0.mk hsw2
 have HAT:=Aside0.mk hat2
 have hllr:(Lr.length:Int)≤1001:=by omega
 obtain ⟨cs,hcs⟩:∃ cs,rows[at_]?=some cs:=⟨_,List.getElem?_eq_getElem (by rw [HRX.out.1];exact hat2)⟩
 have hrx:=HRX.out.2 at_ _ cs (List.getElem?_eq_getElem hat2) hcs
 have hbr:=HBL.out.2 _ (List.getElem_mem hat2)
 generalize Lr[at_]=r at hrx hbr
 obtain ⟨f0,f1,f2,f3,f4⟩:=r
 obtain ⟨A0',c0',A1',c1',A2',c2',A3',c3',A4',c4',rfl,b0,g0,b1,g1,b2,g2_,b3,g3_,b4,g4_⟩:=hrx
 dsimp only at b0 g0 b1 g1 b2 g2_ b3 g3_ b4 g4_
 have HCS:=Aside0.mk hcs
 have HBR:=Aside0.mk hbr
 have HBR0:=Aside0.mk (show f0.length≤N+1 from hbr.b0)
 have HBR1:=Aside0.mk (show f1.length≤N+1 from hbr.b1)
 have HBR2:=Aside0.mk (show f2.length≤N+1 from hbr.b2)
 have HBR3:=Aside0.mk (show f3.length≤N+1 from hbr.b3)
 have HBR4:=Aside0.mk (show f4.length≤N+1 from hbr.b4)
 have HC0:=Aside0.mk b0
 have HC1:=Aside0.mk b1
 have HC2:=Aside0.mk b2
 have HC3:=Aside0.mk b3
 have HC4:=Aside0.mk b4
 have HG0:=Aside0.mk g0
 have HG1:=Aside0.mk g1
 have HG2:=Aside0.mk g2_
 have HG3:=Aside0.mk g3_
 have HG4:=Aside0.mk g4_
 have x3:=HO.out.box_cell 2 rfl 2 rfl
 have x5:=HO.out.box_cell 5 rfl 0 rfl
 clear hat hsw hlr hN1 h0r hcs hbr b0 g0 b1 g1 b2 g2_ b3 g3_ b4 g4_ hsw2
 go_upto_region 6 with (first
  | (go_at_call 15;(refine (abugidaref01_Mod.calls q2 (Lr.length:Int) (at_:Int) _ HMA.out).mono ?_;rintro e_ W_ ⟨rfl,hd⟩;have nO:=Aside0.mk (HO.out.grow hd.below);clear HO hd;have HO:=nO;clear nO)))
 clear x3 x5
 have x5:=HO.out.box_cell 5 rfl 0 rfl
 obtain ⟨adr,hA,x0,x1,x2,x3,x4⟩:=at_raw5 (HO.out.row_sl 4 rfl).2.2 at_ HCS.out
 subst hA
 have r0:(0≤(at_:Int))=True:=eq_true (by omega)
 have r1:((at_:Int)<(Lr.length:Int))=True:=eq_true (by omega)
 have hwn:IntKind.i64.wrap (n+1)=n+1:=IntWalk.i64_in _ za84
 clear hat2
 go_upto_block 0 with (first
  | ((with_reducible refine gate_dst (N:=8) rfl ?_);(refine ev_box (N:=8) (cs:=#[.slice none 0 0,.slice none 0 0,.slice none 0 0,.slice none 0 0,.slice none 0 0]) (t:=49) HO.out rfl rfl zhr ?_;intro g8 W_ hO hb_;clear HO hb_;have HO:=Aside0.mk hO;clear hO))
  | ((with_reducible refine gate_store (t:=49) (p:=8) rfl ?_);(refine ev_store (cs':=#[.slice A0' f0.length c0',.slice A1' f1.length c1',.slice A2' f2.length c2',.slice A3' f3.length c3',.slice A4' f4.length c4']) (.agg #[.slice A0' f0.length c0',.slice A1' f1.length c1',.slice A2' f2.length c2',.slice A3' f3.length c3',.slice A4' f4.length c4']) 8 HO.out rfl rfl rfl rfl 0 rfl rfl sz49 za77 (Nat.le_refl _) rfl ?_;intro W_ hO;clear HO x0 x1 x2 x3 x4 x5;have HO:=Aside0.mk hO;clear hO))
  | ((with_reducible refine gate_dst (N:=46) rfl ?_);(refine ev_litB (N:=46) (n:=2) (t:=3) (cs:=#[.int .i64 n,.int .i64 (n+1)]) HO.out rfl rfl zhr ?_;intro g46 W_ hO hb_;clear HO hb_;have HO:=Aside0.mk hO;clear hO;have x30:=HO.out.box_cell 2 rfl 0 rfl))
  | (go_at_call 15;(refine (abugidaref01_Mod.calls q0 12 sw _ HMS.out).mono ?_;rintro e_ W_ ⟨rfl,hd⟩;have nO:=Aside0.mk (HO.out.grow hd.below);clear HO hd;have HO:=nO;clear nO x30)))
 go_cut [] (fun wc=>∃ (L':List S49) (rows':List (List Value)) (A6:Option Addr) (c6:Nat) (r':S49) (B0:Option Addr) (d0:Nat) (B1:Option Addr) (d1:Nat) (B2:Option Addr) (d2:Nat) (B3:Option Addr) (d3:Nat) (B4:Option Addr) (d4:Nat) (Y1 Y2 Y3:Res),Aside0 (at_<L'.length)∧Aside0 (BdL (N+12) L')∧Aside0 (Bd (N+12) r')∧Aside0 (Own w wc [R0,.box g2 24 #[.slice A l.length c],.box g3 27 #[.int .i64 q0,.int .i64 q1,.int .i64 q2],.box g4 24 #[.slice none 0 0],.row (Kd.raw 5) 49 w.heap.size (.slice A6 L'.length c6) rows',.box g5 24 #[.slice A6 L'.length c6],X1,X2,.box g8 49 #[.slice B0 r'.f0.length d0,.slice B1 r'.f1.length d1,.slice B2 r'.f2.length d2,.slice B3 r'.f3.length d3,.slice B4 r'.f4.length d4],.box g46 3 #[.int .i64 n,.int .i64 (n+1)],Y1,Y2,Y3])∧Aside0 (RulesX (EX w [X1,X2,.box g46 3 #[.int .i64 n,.int .i64 (n+1)],Y1,Y2,Y3]) L' rows')∧Aside0 (RuleX (EX w [X1,X2,.box g46 3 #[.int .i64 n,.int .i64 (n+1)],Y1,Y2,Y3]) r' [.slice B0 r'.f0.length d0,.slice B1 r'.f1.length d1,.slice B2 r'.f2.length d2,.slice B3 r'.f3.length d3,.slice B4 r'.f4.length d4]))
 case first =>
  have HBU:=Aside0.mk (HBR.out.le (show N+1≤N+12 by omega))
  have HBLU:=Aside0.mk (HBL.out.le (show N+1≤N+12 by omega))
  rcases HSL.out with rfl|rfl|rfl
  ·
   as_aux_lemma =>
   have hwn1:IntKind.i64.wrap (n - 1)=n - 1:=IntWalk.i64_in _ za84
   obtain ⟨nf,hnf⟩:∃ nf,f4++[⟨n - 1,1⟩]=nf:=⟨_,rfl⟩
   have HNF:=Aside0.mk hnf
   clear hnf
   have z:=HO.out.box_cell 8 rfl 4 rfl
   go_wp2_with (first
    | ((with_reducible refine gate_dst (N:=146) rfl ?_);(refine ev_lit k60 60 (N:=146) (xs:=[]) (inner:=[]) HO.out rfl rfl ?hr ?hp (by decide) ?_;(case hr=>first|(go_simp;done)|(go_simp;rfl));(case hp=>exact Reps.none _ _);intro A_ c_ W_ hO hb_;clear HO hb_;have HO:=Aside0.mk hO;clear hO;clear z;have z:=HO.out.box_cell 8 rfl 4 rfl))
    | ((with_reducible refine gate_builtin (b:=.append) (xs:=#[.tmp 146,.tmp 148]) rfl ?_);at_builtin;(refine ev_rowsm 10 HO.out rfl rfl (.tmp 146) (.tmp 148) 47 (.agg #[.int .i64 0,.int .i64 0]) 16 rfl Try.underlying47 info60 rfl (Nat.succ_pos 1) (by decide) f4 A4' f4.length c4' f4 f4.length rfl rfl rfl rfl rfl (HG4.out _ (ex3 HO.out)) (fun _ _ h=>h) ?aL ?_;(case aL=>have:=HBR4.out;have:=HN.out;simp;omega);intro A_ c_ W_ hO;clear HO;have HO:=Aside0.mk hO;clear hO;clear z))
    | ((with_reducible refine gate_dst (N:=153) rfl ?_);(refine ev_litB (N:=153) (n:=1) (t:=60) (cs:=#[.int .i64 (n - 1),.int .i64 1]) HO.out rfl rfl zhr ?_;intro g153 W_ hO hb_;clear HO hb_;have HO:=Aside0.mk hO;clear hO))
    | ((with_reducible refine gate_builtin (b:=.append) (xs:=#[.tmp 149,.tmp 153]) rfl ?_);at_builtin;(refine ev_rowsm 10 HO.out rfl rfl (.tmp 149) (.tmp 153) 47 (.agg #[.int .i64 0,.int .i64 0]) 16 rfl Try.underlying47 info60 rfl (Nat.succ_pos 1) (by decide) [⟨n - 1,1⟩] (some ⟨g153,0,none⟩) 1 1 nf nf.length HNF.out.symm rfl rfl rfl rfl (box_call _ _ (HO.out.box_at 11 rfl).1) (fun _ _ h=>h) ?aL ?_;(case aL=>have:=HBR4.out;have:=HN.out;omega);intro A154 c154 W_ hO;clear HO;have HO:=Aside0.mk hO;clear hO))
    | ((with_reducible refine gate_store (t:=47) (p:=155) rfl ?_);(refine ev_store (cs':=#[.slice A0' f0.length c0',.slice A1' f1.length c1',.slice A2' f2.length c2',.slice A3' f3.length c3',.slice A154 nf.length c154]) (.slice A154 nf.length c154) 8 HO.out rfl rfl rfl rfl 4 rfl rfl sz47 za77 (show (4:Nat)+1≤5 by decide) rfl ?_;intro W_ hO;clear HO;have HO:=Aside0.mk hO;clear hO)))
   go_meet
   case rel=>exact ⟨Lr,rows,some adr,c5,⟨f0,f1,f2,f3,nf⟩,A0',c0',A1',c1',A2',c2',A3',c3',A154,c154,.row k60 60 w.heap.size (.slice A154 nf.length c154) nf,.box g153 60 #[.int .i64 (n - 1),.int .i64 1],.emp,HAT,HBLU,⟨⟨HBU.out.b0,HBU.out.b1,HBU.out.b2,HBU.out.b3,(by rw [← HNF.out];have:=HBR4.out;simp;omega),HBU.out.s0,HBU.out.s1,HBU.out.s2⟩⟩,⟨(HO.out.add (r:=.emp) (Below.refl _ _) trivial)⟩,⟨HRX.out.imp sub2⟩,⟨A0',c0',A1',c1',A2',c2',A3',c3',A154,c154,rfl,HC0.out,HG0.out.imp sub2,HC1.out,HG1.out.imp sub2,HC2.out,HG2.out.imp sub2,HC3.out,fun W hE=>HG3.out W (sub2 W hE),(HO.out.row_sl 10 rfl).2.1,fun W hE=>hE.row (e:=60) (B:=w.heap.size) (c:=c154) (by simp)⟩⟩
  ·
   as_aux_lemma =>
   have hwn1:IntKind.i64.wrap (n - 1)=n - 1:=IntWalk.i64_in _ za84
   obtain ⟨nf,hnf⟩:∃ nf,f4++[⟨0,n - 1⟩]=nf:=⟨_,rfl⟩
   have HNF:=Aside0.mk hnf
   clear hnf
   have z:=HO.out.box_cell 8 rfl 4 rfl
   go_wp2_with (first
    | ((with_reducible refine gate_dst (N:=158) rfl ?_);(refine ev_lit k60 60 (N:=158) (xs:=[]) (inner:=[]) HO.out rfl rfl ?hr ?hp (by decide) ?_;(case hr=>first|(go_simp;done)|(go_simp;rfl));(case hp=>exact Reps.none _ _);intro A_ c_ W_ hO hb_;clear HO hb_;have HO:=Aside0.mk hO;clear hO;clear z;have z:=HO.out.box_cell 8 rfl 4 rfl))
    | ((with_reducible refine gate_builtin (b:=.append) (xs:=#[.tmp 158,.tmp 160]) rfl ?_);at_builtin;(refine ev_rowsm 10 HO.out rfl rfl (.tmp 158) (.tmp 160) 47 (.agg #[.int .i64 0,.int .i64 0]) 16 rfl Try.underlying47 info60 rfl (Nat.succ_pos 1) (by decide) f4 A4' f4.length c4' f4 f4.length rfl rfl rfl rfl rfl (HG4.out _ (ex3 HO.out)) (fun _ _ h=>h) ?aL ?_;(case aL=>have:=HBR4.out;have:=HN.out;simp;omega);intro A_ c_ W_ hO;clear HO;have HO:=Aside0.mk hO;clear hO;clear z))
    | ((with_reducible refine gate_dst (N:=165) rfl ?_);(refine ev_litB (N:=165) (n:=1) (t:=60) (cs:=#[.int .i64 0,.int .i64 (n - 1)]) HO.out rfl rfl zhr ?_;intro g165 W_ hO hb_;clear HO hb_;have HO:=Aside0.mk hO;clear hO))
    | ((with_reducible refine gate_builtin (b:=.append) (xs:=#[.tmp 161,.tmp 165]) rfl ?_);at_builtin;(refine ev_rowsm 10 HO.out rfl rfl (.tmp 161) (.tmp 165) 47 (.agg #[.int .i64 0,.int .i64 0]) 16 rfl Try.underlying47 info60 rfl (Nat.succ_pos 1) (by decide) [⟨0,n - 1⟩] (some ⟨g165,0,none⟩) 1 1 nf nf.length HNF.out.symm rfl rfl rfl rfl (box_call _ _ (HO.out.box_at 11 rfl).1) (fun _ _ h=>h) ?aL ?_;(case aL=>have:=HBR4.out;have:=HN.out;omega);intro A166 c166 W_ hO;clear HO;have HO:=Aside0.mk hO;clear hO))
    | ((with_reducible refine gate_store (t:=47) (p:=167) rfl ?_);(refine ev_store (cs':=#[.slice A0' f0.length c0',.slice A1' f1.length c1',.slice A2' f2.length c2',.slice A3' f3.length c3',.slice A166 nf.length c166]) (.slice A166 nf.length c166) 8 HO.out rfl rfl rfl rfl 4 rfl rfl sz47 za77 (show (4:Nat)+1≤5 by decide) rfl ?_;intro W_ hO;clear HO;have HO:=Aside0.mk hO;clear hO)))
   go_meet
   case rel=>exact ⟨Lr,rows,some adr,c5,⟨f0,f1,f2,f3,nf⟩,A0',c0',A1',c1',A2',c2',A3',c3',A166,c166,.row k60 60 w.heap.size (.slice A166 nf.length c166) nf,.box g165 60 #[.int .i64 0,.int .i64 (n - 1)],.emp,HAT,HBLU,⟨⟨HBU.out.b0,HBU.out.b1,HBU.out.b2,HBU.out.b3,(by rw [← HNF.out];have:=HBR4.out;simp;omega),HBU.out.s0,HBU.out.s1,HBU.out.s2⟩⟩,⟨(HO.out.add (r:=.emp) (Below.refl _ _) trivial)⟩,⟨HRX.out.imp sub2⟩,⟨A0',c0',A1',c1',A2',c2',A3',c3',A166,c166,rfl,HC0.out,HG0.out.imp sub2,HC1.out,HG1.out.imp sub2,HC2.out,HG2.out.imp sub2,HC3.out,fun W hE=>HG3.out W (sub2 W hE),(HO.out.row_sl 10 rfl).2.1,fun W hE=>hE.row (e:=60) (B:=w.heap.size) (c:=c166) (by simp)⟩⟩
  ·
   as_aux_lemma =>
   have hw4:IntKind.i64.wrap (4+n)=4+n:=IntWalk.i64_in _ za84
   go_wp2
   go_loopw [10] (fun v10 w'=>∃ (m n5:Nat) (Lm:List S49) (rowsm:List (List Value)) (A6:Option Addr) (c6:Nat),v10=.int .i64 m∧Aside0 (Lm.length=n5)∧Aside0 ((m:Int)≤4+n)∧Aside0 (at_<Lm.length)∧Aside0 (BdL (N+1+m) Lm)∧Aside0 (RulesX (EX w [X1,X2]) Lm rowsm)∧Aside0 (Own w w' [R0,.box g2 24 #[.slice A l.length c],.box g3 27 #[.int .i64 q0,.int .i64 q1,.int .i64 q2],.box g4 24 #[.slice none 0 0],.row (Kd.raw 5) 49 w.heap.size (.slice A6 n5 c6) rowsm,.box g5 24 #[.slice A6 n5 c6],X1,X2,.box g8 49 #[.slice A0' f0.length c0',.slice A1' f1.length c1',.slice A2' f2.length c2',.slice A3' f3.length c3',.slice A4' f4.length c4'],.box g46 3 #[.int .i64 n,.int .i64 (n+1)]])) (fun v10 _=>10 - (intOf v10).toNat)
   case atStart=>exact ⟨0,_,Lr,rows,some adr,c5,rfl,⟨rfl⟩,⟨by have:=HNN.out;omega⟩,HAT,HBL,HRX,HO⟩
   case round =>
    clear HO
    obtain ⟨m,n5,Lm,rowsm,A6,c6,rfl,HN5,HM,HAM,HBM,HRM,HO⟩:=hrel
    have z5:=HO.out.box_cell 5 rfl 0 rfl
    by_cases hlt:(m:Int)<4+n
    case pos =>
     have s1:((m:Int)<4+n)=True:=eq_true hlt
     have hmb:(m:Int)+1≤100:=by have:=HNN.out;omega
     have HMB:=Aside0.mk hlt
     have HRL:=Aside0.mk (show rowsm.length≤1100 by rw [HRM.out.1];have:=HBM.out.1;have:=HN.out;have:=HNN.out;omega)
     have z0:=HO.out.box_cell 8 rfl 0 rfl
     have z1:=HO.out.box_cell 8 rfl 1 rfl
     have z2:=HO.out.box_cell 8 rfl 2 rfl
     have z3:=HO.out.box_cell 8 rfl 3 rfl
     have z4:=HO.out.box_cell 8 rfl 4 rfl
     clear hlt
     go_wp2_with (first
      | ((with_reducible refine gate_builtin (b:=.append) (xs:=#[.tmp 177,.tmp 179]) rfl ?_);at_builtin;(refine ev_append 4 HO.out rfl rfl (.tmp 177) (.tmp 179) 22 (.agg #[.slice none 0 0,.slice none 0 0,.slice none 0 0,.slice none 0 0,.slice none 0 0]) 120 rfl Try.underlying22 info49 rfl (Nat.succ_pos 4) (by decide) ([.slice A0' f0.length c0',.slice A1' f1.length c1',.slice A2' f2.length c2',.slice A3' f3.length c3',.slice A4' f4.length c4']:List Value) [.slice A0' f0.length c0',.slice A1' f1.length c1',.slice A2' f2.length c2',.slice A3' f3.length c3',.slice A4' f4.length c4'] rfl rfl ⟨rfl,rfl,by simp [Value.oneCell']⟩ ?aL ?_;(case aL=>have:=HRL.out;omega);intro A180 c180 W_ hO;clear HO z0 z1 z2 z3 z4 z5;have HO:=Aside0.mk hO;clear hO))
      | ((with_reducible refine gate_store (t:=22) (p:=181) rfl ?_);(refine ev_store (cs':=#[.slice A180 (rowsm.length+1) c180]) (.slice A180 (rowsm.length+1) c180) 5 HO.out rfl rfl rfl rfl 0 rfl rfl sz22 za77 (show (0:Nat)+1≤1 by decide) rfl ?_;intro W_ hO;clear HO;have HO:=Aside0.mk hO;clear hO)))
     go_roundw
     case rel =>
      refine ⟨m+1,rowsm.length+1,Lm++[(⟨f0,f1,f2,f3,f4⟩:S49)],rowsm++[([.slice A0' f0.length c0',.slice A1' f1.length c1',.slice A2' f2.length c2',.slice A3' f3.length c3',.slice A4' f4.length c4']:List Value)],A180,c180,by go_num,⟨by rw [List.length_append,HRM.out.1];rfl⟩,⟨by have:=HMB.out;omega⟩,⟨by rw [List.length_append];exact Nat.lt_add_right _ HAM.out⟩,⟨⟨by rw [List.length_append];have:=HBM.out.1;simp only [List.length_singleton];omega,fun r hr=>?_⟩⟩,⟨HRM.out.snoc ⟨A0',c0',A1',c1',A2',c2',A3',c3',A4',c4',rfl,HC0.out,HG0.out,HC1.out,HG1.out,HC2.out,HG2.out,HC3.out,HG3.out,HC4.out,HG4.out⟩⟩,HO⟩
      rcases List.mem_append.mp hr with hr|hr
      ·
       exact (HBM.out.2 r hr).le (by omega)
      ·
       rw [List.mem_singleton] at hr
       subst hr
       exact HBR.out.le (by omega)
     case measure=>have:=HMB.out;have:=HNN.out;simp [intOf];omega
    have s1:((m:Int)<4+n)=False:=eq_false hlt
    have d1:decide ((m:Int)<4+n)=false:=decide_eq_false hlt
    obtain rfl:=HN5.out
    clear hlt
    go_wp2
    go_meet
    case rel=>exact ⟨Lm,rowsm,A6,c6,(⟨f0,f1,f2,f3,f4⟩:S49),A0',c0',A1',c1',A2',c2',A3',c3',A4',c4',.emp,.emp,.emp,HAM,⟨HBM.out.le (by have:=HM.out;have:=HNN.out;omega)⟩,HBU,⟨((HO.out.add (r:=.emp) (Below.refl _ _) trivial).add (r:=.emp) (Below.refl _ _) trivial).add (r:=.emp) (Below.refl _ _) trivial⟩,⟨HRM.out.imp sub2⟩,⟨A0',c0',A1',c1',A2',c2',A3',c3',A4',c4',rfl,HC0.out,HG0.out.imp sub2,HC1.out,HG1.out.imp sub2,HC2.out,HG2.out.imp sub2,HC3.out,fun W hE=>HG3.out W (sub2 W hE),HC4.out,fun W hE=>HG4.out W (sub2 W hE)⟩⟩
 clear HO
 obtain ⟨L',rows',A6,c6,r',B0,d0,B1,d1,B2,d2,B3,d3,B4,d4,Y1,Y2,Y3,HA2,HB2,HR2,HO,HRX2,HRR⟩:=hcut
 obtain ⟨ad6,h6,-⟩:=(HO.out.row_sl 4 rfl).2.2.2.2 (by rw [HRX2.out.1];have:=HA2.out;omega)
 subst h6
 obtain ⟨g6,rfl⟩:=Kd.R_head (HO.out.row_R 4 rfl)
 have hCg:=(HO.out.row_sl 4 rfl).2.2
 rw [← (HO.out.row_sl 4 rfl).1] at hCg
 obtain ⟨ad7,cc,e7,hcl,-,hcc⟩:=Kd.C_get hCg [] (at_:Int) (by omega) (by have:=HA2.out;omega)
 obtain rfl:=(Option.some.inj e7).symm
 rw [Int.toNat_natCast] at hcc
 have HCC:=Aside0.mk (show ∀ (j:Nat) (u:Value),cc[j]?=some u→(∀ (q:Nat),(⟨g6,0,none⟩:Addr).add q=⟨g6,q,none⟩)∧True from fun j u h=>⟨fun q=>by have:=addr1 g6 q;rwa [Nat.mul_one,Nat.add_zero] at this,trivial⟩)
 clear HCC
 have HCC:=Aside0.mk hcc
 have HCL:=Aside0.mk hcl
 have z5:=HO.out.box_cell 5 rfl 0 rfl
 have z0:=HO.out.box_cell 8 rfl 0 rfl
 have z1:=HO.out.box_cell 8 rfl 1 rfl
 have z2:=HO.out.box_cell 8 rfl 2 rfl
 have z3:=HO.out.box_cell 8 rfl 3 rfl
 have z4:=HO.out.box_cell 8 rfl 4 rfl
 have r2:((at_:Int)<(L'.length:Int))=True:=eq_true (by have:=HA2.out;omega)
 clear hcc hcl e7 hCg
 have hga:∀ q,(⟨g6,0,none⟩:Addr).add q=⟨g6,q,none⟩:=fun q=>by have:=addr1 g6 q;rwa [Nat.mul_one,Nat.add_zero] at this
 have HGA:=Aside0.mk hga
 clear hga
 go_wp2_with (first
  | ((with_reducible refine gate_store (t:=49) (p:=186) rfl ?_);(refine ev_storeE 4 HO.out rfl rfl rfl 49 (.tmp 186) (.tmp 185) rfl at_ (.agg #[.slice B0 r'.f0.length d0,.slice B1 r'.f1.length d1,.slice B2 r'.f2.length d2,.slice B3 r'.f3.length d3,.slice B4 r'.f4.length d4]) [.slice B0 r'.f0.length d0,.slice B1 r'.f1.length d1,.slice B2 r'.f2.length d2,.slice B3 r'.f3.length d3,.slice B4 r'.f4.length d4] cc ?ha rfl rfl sz49 za80 HA2.out HCL.out (fun j u hj=>by rw [← HGA.out];exact HCC.out j u hj) rfl ?_;(case ha=>first|rfl|(go_simp;done)|(simp [HGA.out];done));intro W_ hO;clear HO z0 z1 z2 z3 z4 z5;have HO:=Aside0.mk hO;clear hO;have z5:=HO.out.box_cell 5 rfl 0 rfl))
  | ((with_reducible refine gate_store (t:=24) (p:=4) rfl ?_);(refine ev_store (cs':=#[.slice (some ⟨g6,0,none⟩) L'.length c6]) (.agg #[.slice (some ⟨g6,0,none⟩) L'.length c6]) 3 HO.out rfl rfl rfl rfl 0 rfl rfl sz24 za77 (Nat.le_refl _) rfl ?_;intro W_ hO;clear HO z5;have HO:=Aside0.mk hO;clear hO)))
 refine bodyPost_ret (results_cell_row rfl _ _ g4 24 #[.slice (some ⟨g6,0,none⟩) L'.length c6] (0,0) _ rfl (HO.out.box_at 3 rfl).1 Try.underlying24 rfl sz24) rfl ⟨some ⟨g6,0,none⟩,c6,L'.set at_ r',_,by rw [List.length_set],?hfr,by rw [List.length_set];exact (HO.out.row_sl 4 rfl).2.1,⟨by rw [List.length_set];exact HB2.out.1,fun r hr=>?hbb⟩,HO.out⟩
 case hbb =>
  rcases List.mem_or_eq_of_mem_set hr with hr|rfl
  ·
   exact HB2.out.2 r hr
  ·
   exact HR2.out
 case hfr =>
  intro W hW
  have hE:EX w [X1,X2,.box g46 3 #[.int .i64 n,.int .i64 (n+1)],Y1,Y2,Y3] W:=⟨hW.1,fun X hX=>hW.2 X (by
   simp only [List.mem_cons,List.not_mem_nil,or_false] at hX ⊢
   rcases hX with rfl|rfl|rfl|rfl|rfl|rfl<;>simp)⟩
  have hrow:=hW.row (d:=Kd.raw 5) (e:=49) (B:=w.heap.size) (A:=some ⟨g6,0,none⟩) (n:=L'.length) (c:=c6) (xs:=rows'.set at_ [.slice B0 r'.f0.length d0,.slice B1 r'.f1.length d1,.slice B2 r'.f2.length d2,.slice B3 r'.f3.length d3,.slice B4 r'.f4.length d4]) (by simp)
  have hC:=(HRX2.out.set at_ HRR.out).C hE hrow
  rw [List.length_set]
  exact hC
end Go.Proofs.Ytlgkeaildncojaa.Q
end
section
namespace Go.Proofs.Ytlgkeaildncojaa.Q
open Go.RowKit Go.Shelf Go.Proofs.YtlgkeaildncojaaW.PrintWords Go.Proofs.YtlgkeaildncojaaW.PrintLast Go.Proofs.YtlgkeaildncojaaW.PrintMore
theorem oddF:OddF:=fun A c l q0 q1 q2 N w wq R0 hO hr hc hb hN=>by
 by_cases ha:q0 % 12=0∨q0 % 12=1∨q0 % 12=2∨q0 % 12=3∨q0 % 12=4∨q0 % 12=5∨q0 % 12=6
 ·
  exact odd_calls_a A c l q0 q1 q2 N w wq R0 hO hr hc hb hN ha
 by_cases h7:q0 % 12=7
 ·
  exact odd_calls_b A c l q0 q1 q2 N w wq R0 hO hr hc hb hN h7
 by_cases h8:q0 % 12=8
 ·
  exact odd_calls_c A c l q0 q1 q2 N w wq R0 hO hr hc hb hN h8
 exact odd_calls_d A c l q0 q1 q2 N w wq R0 hO hr hc hb hN (by omega)
end Go.Proofs.Ytlgkeaildncojaa.Q
end
section
namespace Go.Proofs.YtlgkeaildncojaaW.PrintWords
open Go.RowKit Go.ChangeShapes Go.WideShapes Go.Deep
set_option linter.unusedVariables false
def Opn (P:Program) {α:Type} (d:Kd α) (t:TypeId):Prop :=
 ∀ {H:Type} {enc:TypeId × Value→H} {w:World} {base fuel:Nat} {held:Bool} {cs:List Value} {x:DataW H × List MemPlace},DataW.trod enc P w base (fun _=>true) held fuel t cs=some x→∃ a,d.K w a cs
theorem Opn.int {P:Program} {t:TypeId} {k:IntKind} (ht:P.underlying t=some (.int k)):Opn P (Kd.int k) t:=by
 intro H enc w base fuel held cs x h
 obtain ⟨n,rfl,-,-⟩:=DataW.trod_int ht h
 exact ⟨n,rfl⟩
theorem Opn.bool {P:Program} {t:TypeId} (ht:P.underlying t=some .bool):Opn P Kd.bool t:=by
 intro H enc w base fuel held cs x h
 obtain ⟨n,rfl,-⟩:=DataW.trod_bool ht h
 exact ⟨n,rfl⟩
theorem Opn.iso {P:Program} {t:TypeId} {α β:Type} {d:Kd α} (f:β→α) (g:α→β) (hg:∀ a,f (g a)=a) (h:Opn P d t):Opn P (Kd.iso d f) t:=by
 intro H enc w base fuel held cs x hx
 obtain ⟨a,ha⟩:=h hx
 exact ⟨g a,by show d.K w (f (g a)) cs;rw [hg];exact ha⟩
theorem Opn.slice {P:Program} {t e:TypeId} {α:Type} {d:Kd α} (ht:P.underlying t=some (.slice e)) (he:P.cellsOf e=d.sz) (hd:Opn P d e):Opn P (Kd.slice e d) t:=by
 intro H enc w base fuel held cs x hx
 have hml:maxLen≤9223372036854775807:=by decide
 rcases open_slice ht hx with ⟨rfl,-⟩|⟨a,len,cap,m,n,D,Pl,rfl,hb,hl,hm,hmm,-,hel⟩
 ·
  exact ⟨[],none,0,rfl,Nat.le_refl _,rfl,Nat.zero_le _,fun h=>absurd h (Nat.lt_irrefl 0)⟩
 ·
  simp only [if_true] at hmm
  subst hmm
  have each:∀ i,i<len→∃ y:List Value,∃ z:α,w.cells? base (a.add (i*P.cellsOf e)) (P.cellsOf e)=some y∧d.K w z y:=fun i hi=>by
   obtain ⟨cs',h1,h2⟩:=hel i (by omega)
   obtain ⟨z,hz⟩:=hd h2
   exact ⟨cs',z,h1,hz⟩
  have hall:∀ n,n≤len→∃ zs:List α,zs.length=n∧∀ j p,zs[j]?=some p→∃ y,w.cells? base (a.add (j*P.cellsOf e)) (P.cellsOf e)=some y∧d.K w p y:=by
   intro n
   induction n with
   | zero=>exact fun _=>⟨[],rfl,fun j p hj=>by simp at hj⟩
   | succ n ih =>
    intro hn
    obtain ⟨zs,hl1,hz⟩:=ih (by omega)
    obtain ⟨y,z,h1,h2⟩:=each n (by omega)
    refine ⟨zs++[z],by simp [hl1],fun j p hj=>?_⟩
    rw [List.getElem?_append] at hj
    split at hj
    ·
     exact hz j p hj
    ·
     rename_i hge
     have hj0:j=n:=by
      rcases Nat.lt_or_ge n j with h3|h3
      ·
       rw [List.getElem?_eq_none (by simp;omega)] at hj;cases hj
      ·
       omega
     subst hj0
     rw [hl1,Nat.sub_self] at hj
     simp only [List.getElem?_cons_zero,Option.some.injEq] at hj
     subst hj
     exact ⟨y,h1,h2⟩
  obtain ⟨zs,hzl,hz⟩:=hall len (Nat.le_refl _)
  refine ⟨zs,some a,m,by rw [hzl],by rw [hzl];exact hl,rfl,by rw [hzl];omega,fun _=>⟨a,rfl,fun j p hj=>?_⟩⟩
  obtain ⟨y,h1,h2⟩:=hz j p hj
  refine ⟨y,d.K_len h2,h2,fun i u hu=>?_⟩
  obtain ⟨-,h4,h5⟩:=World.cells?_some h1
  have hi:i<P.cellsOf e:=by rw [← h4];exact (List.getElem?_eq_some_iff.mp hu).1
  have h6:=h5 i hi
  rw [hu,he,add_add] at h6
  exact h6
def OpnF (P:Program) {α:Type} (d:Kd α) (fs:List Field) (off n:Nat):Prop :=
 ∀ {H:Type} {enc:TypeId × Value→H} {w:World} {base fuel:Nat} {held:Bool} {cs:List Value},cs.length=n→(∀ f∈fs,∃ x,DataW.trod enc P w base (fun _=>true) held fuel f.type ((cs.drop f.offset).take (P.cellsOf f.type))=some x)→∃ a,d.K w a (cs.drop off)
theorem OpnF.one {P:Program} {α:Type} {d:Kd α} {f:Field} {off n:Nat} (ho:f.offset=off) (hn:off+P.cellsOf f.type=n) (h:Opn P d f.type):OpnF P d [f] off n:=by
 intro H enc w base fuel held cs hl hx
 obtain ⟨x,hx⟩:=hx f (List.mem_singleton.mpr rfl)
 rw [ho,List.take_of_length_le (by rw [List.length_drop];omega)] at hx
 exact h hx
theorem OpnF.cons {P:Program} {α β:Type} {d:Kd α} {d2:Kd β} {f:Field} {fs:List Field} {off m n:Nat} (ho:f.offset=off) (hn:off+P.cellsOf f.type=m) (h:Opn P d f.type) (h2:OpnF P d2 fs m n):OpnF P (Kd.pair d d2) (f :: fs) off n:=by
 intro H enc w base fuel held cs hl hx
 obtain ⟨x,hx1⟩:=hx f List.mem_cons_self
 rw [ho] at hx1
 obtain ⟨a,ha⟩:=h hx1
 obtain ⟨b,hb⟩:=h2 hl (fun f hf=>hx f (List.mem_cons_of_mem _ hf))
 refine ⟨(a,b),_,_,?_,ha,hb⟩
 rw [← hn,← List.drop_drop,List.take_append_drop]
theorem Opn.struct {P:Program} {t:TypeId} {α:Type} {d:Kd α} {fs:Array Field} (ht:P.underlying t=some (.struct fs)) (h:OpnF P d fs.toList 0 (P.cellsOf t)):Opn P d t:=by
 intro H enc w base fuel held cs x hx
 obtain ⟨xs,n,-,-,hl,hlen,hf⟩:=DataW.trod_struct ht hx
 refine h (fuel:=n) (enc:=enc) (base:=base) (held:=held) hl (fun f hfm=>?_)
 obtain ⟨i,hi,rfl⟩:=List.getElem_of_mem hfm
 have h1:fs[i]?=some fs.toList[i]:=by simp at hi ⊢
 rw [hf i _ h1]
 exact ⟨_,List.getElem?_eq_getElem (by rw [hlen];simpa using hi)⟩
end Go.Proofs.YtlgkeaildncojaaW.PrintWords
namespace Go.Proofs.Ytlgkeaildncojaa.Q
end Go.Proofs.Ytlgkeaildncojaa.Q
end
section
namespace Go.Proofs.Ytlgkeaildncojaa.Q
open Go.RowKit Go.Proofs.YtlgkeaildncojaaW.PrintWords Go.ChangeShapes Go.WideShapes
theorem opn26:Opn Try.prog (Kd.slice 3 (Kd.int .i64)) 26:=Opn.slice Try.underlying26 (by kernel_rfl) (Opn.int Try.underlying3)
theorem opn25:Opn Try.prog (Kd.slice 26 (Kd.slice 3 (Kd.int .i64))) 25:=Opn.slice Try.underlying25 (by kernel_rfl) opn26
theorem opn28:Opn Try.prog (Kd.slice 4 Kd.bool) 28:=Opn.slice Try.underlying28 (by kernel_rfl) (Opn.bool Try.underlying4)
theorem u8_wf {x:Int} (h:(Lit.int .u8 x).wf=true):0≤x∧x≤255:=by
 have e1:IntKind.u8.min=0:=by decide
 have e2:IntKind.u8.max=255:=by decide
 have h2:(decide (IntKind.u8.min≤x)&&decide (x≤IntKind.u8.max))=true:=h
 rw [Bool.and_eq_true,decide_eq_true_iff,decide_eq_true_iff] at h2
 omega
theorem get_lt {α:Type} {l:List α} {i n:Nat} (h:l.length=n) (hi:i<n):∃ x,l[i]?=some x:=⟨_,List.getElem?_eq_getElem (h.symm ▸ hi)⟩
theorem seven {α:Type} (cs:Array α) (h:cs.size=7):∃ a b c d e f g,cs=#[a,b,c,d,e,f,g]:=by
 match cs,h with
 | ⟨[a,b,c,d,e,f,g]⟩,_=>exact ⟨a,b,c,d,e,f,g,rfl⟩
set_option maxRecDepth 100000 in
theorem open_case {H:Type} {enc:TypeId × Value→H} {W:World} {base b0:Nat} {held:Bool} {r:Reach} {v:Value} {d:DataW H} {ps:List MemPlace} (hval:Value.okWide Try.prog W r b0 30 v) (hd:DataW.Trod enc Try.prog W base (fun _=>true) held 30 v d ps) :
  ∃ (A0:Option Addr) (c0:Nat) (L:List (List Int)) (A1:Option Addr) (c1:Nat) (I:List Int) (o0 o1 o2 kq:Int) (A4:Option Addr) (c4:Nat) (M:List Bool),v=.agg #[.slice A0 L.length c0,.slice A1 I.length c1,.int .i64 o0,.int .i64 o1,.int .i64 o2,.int .u8 kq,.slice A4 M.length c4] ∧
   Kd.C (Kd.slice 3 (Kd.int .i64)) W A0 L.length L∧L.length≤c0∧Kd.C (Kd.int .i64) W A1 I.length I∧I.length≤c1∧Kd.C Kd.bool W A4 M.length M∧M.length≤c4∧(0≤kq∧kq≤255)∧(IntKind.i64.min≤o0∧o0≤IntKind.i64.max)∧(IntKind.i64.min≤o1∧o1≤IntKind.i64.max)∧(IntKind.i64.min≤o2∧o2≤IntKind.i64.max):=by
 simp only [Value.okWide,Try.underlying30] at hval
 obtain ⟨cs,rfl,h2,_⟩:=hval
 obtain ⟨fuel,hf⟩:=hd
 obtain ⟨xs,n,_,_,hl,hxl,hx⟩:=DataW.trod_struct Try.underlying30 hf
 obtain ⟨y0,y1,y2,y3,y4,y5,y6,rfl⟩:=seven cs (by rw [h2];kernel_rfl)
 have s25:Try.prog.cellsOf 25=1:=by kernel_rfl
 have s26:Try.prog.cellsOf 26=1:=by kernel_rfl
 have s27:Try.prog.cellsOf 27=3:=by kernel_rfl
 have s28:Try.prog.cellsOf 28=1:=by kernel_rfl
 have s5:Try.prog.cellsOf 5=1:=by kernel_rfl
 have s3:Try.prog.cellsOf 3=1:=by kernel_rfl
 obtain ⟨z0,e0⟩:=get_lt hxl (show 0<5 by decide)
 obtain ⟨z1,e1⟩:=get_lt hxl (show 1<5 by decide)
 obtain ⟨z2,e2⟩:=get_lt hxl (show 2<5 by decide)
 obtain ⟨z3,e3⟩:=get_lt hxl (show 3<5 by decide)
 obtain ⟨z4,e4⟩:=get_lt hxl (show 4<5 by decide)
 have f0:DataW.trod enc Try.prog W base (fun _=>true) held n 25 (([y0,y1,y2,y3,y4,y5,y6].drop 0).take (Try.prog.cellsOf 25))=some z0:=(hx 0 _ rfl).trans e0
 have f1:DataW.trod enc Try.prog W base (fun _=>true) held n 26 (([y0,y1,y2,y3,y4,y5,y6].drop 1).take (Try.prog.cellsOf 26))=some z1:=(hx 1 _ rfl).trans e1
 have f2:DataW.trod enc Try.prog W base (fun _=>true) held n 27 (([y0,y1,y2,y3,y4,y5,y6].drop 2).take (Try.prog.cellsOf 27))=some z2:=(hx 2 _ rfl).trans e2
 have f3:DataW.trod enc Try.prog W base (fun _=>true) held n 5 (([y0,y1,y2,y3,y4,y5,y6].drop 5).take (Try.prog.cellsOf 5))=some z3:=(hx 3 _ rfl).trans e3
 have f4:DataW.trod enc Try.prog W base (fun _=>true) held n 28 (([y0,y1,y2,y3,y4,y5,y6].drop 6).take (Try.prog.cellsOf 28))=some z4:=(hx 4 _ rfl).trans e4
 rw [s25] at f0
 rw [s26] at f1
 rw [s27] at f2
 rw [s5] at f3
 rw [s28] at f4
 obtain ⟨L,A0,c0,q0,l0,g0⟩:=opn25 f0
 obtain ⟨I,A1,c1,q1,l1,g1⟩:=opn26 f1
 obtain ⟨xs2,n2,_,_,hl2,hxl2,hx2⟩:=DataW.trod_array Try.underlying27 f2
 rw [s3] at hx2
 obtain ⟨u0,k0⟩:=get_lt hxl2 (show 0<3 by decide)
 obtain ⟨u1,k1⟩:=get_lt hxl2 (show 1<3 by decide)
 obtain ⟨u2,k2⟩:=get_lt hxl2 (show 2<3 by decide)
 obtain ⟨o0,p0,_,w0⟩:=DataW.trod_int Try.underlying3 ((hx2 0 (by decide)).trans k0)
 obtain ⟨o1,p1,_,w1⟩:=DataW.trod_int Try.underlying3 ((hx2 1 (by decide)).trans k1)
 obtain ⟨o2,p2,_,w2⟩:=DataW.trod_int Try.underlying3 ((hx2 2 (by decide)).trans k2)
 obtain ⟨kq,q3,_,w3⟩:=DataW.trod_int Try.underlying5 f3
 obtain ⟨M,A4,c4,q4,l4,g4⟩:=opn28 f4
 simp [Value.cells] at q0 q1 q3 q4 p0 p1 p2
 subst q0 q1 q3 q4 p0 p1 p2
 have rng:∀ {x:Int},(Lit.int .i64 x).wf=true→IntKind.i64.min≤x∧x≤IntKind.i64.max:=fun h=>by
  have h2:(decide (IntKind.i64.min≤_)&&decide (_≤IntKind.i64.max))=true:=h
  rw [Bool.and_eq_true,decide_eq_true_iff,decide_eq_true_iff] at h2
  exact h2
 exact ⟨A0,c0,L,A1,c1,I,o0,o1,o2,kq,A4,c4,M,rfl,g0,l0,g1,l1,g4,l4,u8_wf w3,rng w0,rng w1,rng w2⟩
end Go.Proofs.Ytlgkeaildncojaa.Q
end
section
namespace Go.Proofs.Ytlgkeaildncojaa.Q
open Go.RowKit Go.Proofs.YtlgkeaildncojaaW.PrintWords Go.ChangeShapes Go.WideShapes Go.Deep
set_option linter.unusedVariables false
theorem opn_sliceP {P:Program} {t e:TypeId} {α:Type} {d:Kd α} {p:α→Prop} (ht:P.underlying t=some (.slice e)) (he:P.cellsOf e=d.sz)
  (hd:∀ {H:Type} {enc:TypeId × Value→H} {w:World} {base fuel:Nat} {held:Bool} {cs:List Value} {x:DataW H × List MemPlace},DataW.trod enc P w base (fun _=>true) held fuel e cs=some x→∃ a,d.K w a cs∧p a)
  {H:Type} {enc:TypeId × Value→H} {w:World} {base fuel:Nat} {held:Bool} {cs:List Value} {x:DataW H × List MemPlace} (hx:DataW.trod enc P w base (fun _=>true) held fuel t cs=some x) :
  ∃ (zs:List α) (A:Option Addr) (c:Nat),cs=[.slice A zs.length c]∧zs.length≤c∧d.C w A zs.length zs∧∀ z∈zs,p z:=by
 have hml:maxLen≤9223372036854775807:=by decide
 rcases open_slice ht hx with ⟨rfl,-⟩|⟨a,len,cap,m,n,D,Pl,rfl,hb,hl,hm,hmm,-,hel⟩
 ·
  exact ⟨[],none,0,rfl,Nat.le_refl _,⟨rfl,Nat.zero_le _,fun h=>absurd h (Nat.lt_irrefl 0)⟩,fun z h=>(by cases h)⟩
 ·
  simp only [if_true] at hmm
  subst hmm
  have each:∀ i,i<len→∃ y:List Value,∃ z:α,w.cells? base (a.add (i*P.cellsOf e)) (P.cellsOf e)=some y∧d.K w z y∧p z:=fun i hi=>by
   obtain ⟨cs',h1,h2⟩:=hel i (by omega)
   obtain ⟨z,hz,hp⟩:=hd h2
   exact ⟨cs',z,h1,hz,hp⟩
  have hall:∀ n,n≤len→∃ zs:List α,zs.length=n∧(∀ z∈zs,p z)∧∀ j q,zs[j]?=some q→∃ y,w.cells? base (a.add (j*P.cellsOf e)) (P.cellsOf e)=some y∧d.K w q y:=by
   intro n
   induction n with
   | zero=>exact fun _=>⟨[],rfl,fun z h=>(by cases h),fun j q hj=>(by simp at hj)⟩
   | succ n ih =>
    intro hn
    obtain ⟨zs,hl1,hp1,hz⟩:=ih (by omega)
    obtain ⟨y,z,h1,h2,h3⟩:=each n (by omega)
    refine ⟨zs++[z],by simp [hl1],fun q hq=>?_,fun j q hj=>?_⟩
    ·
     rcases List.mem_append.mp hq with hq|hq
     ·
      exact hp1 q hq
     ·
      rw [List.mem_singleton] at hq
      subst hq
      exact h3
    rw [List.getElem?_append] at hj
    split at hj
    ·
     exact hz j q hj
    ·
     rename_i hge
     have hj0:j=n:=by
      rcases Nat.lt_or_ge n j with h3|h3
      ·
       rw [List.getElem?_eq_none (by simp;omega)] at hj;cases hj
      ·
       omega
     subst hj0
     rw [hl1,Nat.sub_self] at hj
     simp only [List.getElem?_cons_zero,Option.some.injEq] at hj
     subst hj
     exact ⟨y,h1,h2⟩
  obtain ⟨zs,hzl,hp,hz⟩:=hall len (Nat.le_refl _)
  refine ⟨zs,some a,m,by rw [hzl],by rw [hzl];exact hl,⟨rfl,by rw [hzl];omega,fun _=>⟨a,rfl,fun j q hj=>?_⟩⟩,hp⟩
  obtain ⟨y,h1,h2⟩:=hz j q hj
  refine ⟨y,d.K_len h2,h2,fun i u hu=>?_⟩
  obtain ⟨-,h4,h5⟩:=World.cells?_some h1
  have hi:i<P.cellsOf e:=by rw [← h4];exact (List.getElem?_eq_some_iff.mp hu).1
  have h6:=h5 i hi
  rw [hu,he,Deep.add_add] at h6
  exact h6
end Go.Proofs.Ytlgkeaildncojaa.Q
end
section
namespace Go.Proofs.Ytlgkeaildncojaa.Q
open Go.RowKit Go.Proofs.YtlgkeaildncojaaW.PrintWords Go.ChangeShapes Go.WideShapes Go.Deep
set_option linter.unusedVariables false
def R64 (x:Int):Prop:=-9223372036854775808≤x∧x≤9223372036854775807
theorem i64_wf {x:Int} (h:(Lit.int .i64 x).wf=true):R64 x:=by
 have e1:IntKind.i64.min=-9223372036854775808:=by decide
 have e2:IntKind.i64.max=9223372036854775807:=by decide
 have h2:(decide (IntKind.i64.min≤x)&&decide (x≤IntKind.i64.max))=true:=h
 rw [Bool.and_eq_true,decide_eq_true_iff,decide_eq_true_iff] at h2
 unfold R64
 omega
section
variable {H:Type} {enc:TypeId × Value→H} {w:World} {base fuel:Nat} {held:Bool} {cs:List Value} {x:DataW H × List MemPlace}
theorem opn3P (h:DataW.trod enc Try.prog w base (fun _=>true) held fuel 3 cs=some x):∃ a,(Kd.int .i64).K w a cs∧R64 a:=by
 obtain ⟨n,rfl,-,hw⟩:=DataW.trod_int Try.underlying3 h
 exact ⟨n,rfl,i64_wf hw⟩
theorem opn26P (h:DataW.trod enc Try.prog w base (fun _=>true) held fuel 26 cs=some x):∃ a,(Kd.slice 3 (Kd.int .i64)).K w a cs∧∀ z∈a,R64 z:=by
 obtain ⟨zs,A,c,rfl,hle,hC,hp⟩:=opn_sliceP (d:=Kd.int .i64) Try.underlying26 (by kernel_rfl) opn3P h
 exact ⟨zs,⟨A,c,rfl,hle,hC⟩,hp⟩
theorem opn25P (h:DataW.trod enc Try.prog w base (fun _=>true) held fuel 25 cs=some x):∃ a,(Kd.slice 26 (Kd.slice 3 (Kd.int .i64))).K w a cs∧∀ s∈a,∀ z∈s,R64 z:=by
 obtain ⟨zs,A,c,rfl,hle,hC,hp⟩:=opn_sliceP (d:=Kd.slice 3 (Kd.int .i64)) Try.underlying25 (by kernel_rfl) opn26P h
 exact ⟨zs,⟨A,c,rfl,hle,hC⟩,hp⟩
theorem opn60:Opn Try.prog k60 60:=Opn.iso _ (fun y=>⟨y.1,y.2⟩) (fun _=>rfl) (Opn.struct Try.underlying60 (OpnF.cons rfl (by kernel_rfl) (Opn.int Try.underlying3) (OpnF.one rfl (by kernel_rfl) (Opn.int Try.underlying3))))
theorem opn47:Opn Try.prog (Kd.slice 60 k60) 47:=Opn.slice Try.underlying47 (by kernel_rfl) opn60
theorem five {α:Type} (cs:List α) (h:cs.length=5):∃ a b c d e,cs=[a,b,c,d,e]:=by
 match cs,h with
 | [a,b,c,d,e],_=>exact ⟨a,b,c,d,e,rfl⟩
def In49 (r:S49):Prop:=(∀ s∈r.f0,∀ x∈s,R64 x)∧(∀ s∈r.f1,∀ x∈s,R64 x)∧(∀ s∈r.f2,∀ x∈s,R64 x)
set_option maxRecDepth 100000 in
theorem opn49P (hf:DataW.trod enc Try.prog w base (fun _=>true) held fuel 49 cs=some x):∃ a,k49.K w a cs∧In49 a:=by
 obtain ⟨xs,n,_,_,hl,hxl,hx⟩:=DataW.trod_struct Try.underlying49 hf
 obtain ⟨y0,y1,y2,y3,y4,rfl⟩:=five cs (by rw [hl];kernel_rfl)
 have s25:Try.prog.cellsOf 25=1:=by kernel_rfl
 have s26:Try.prog.cellsOf 26=1:=by kernel_rfl
 have s47:Try.prog.cellsOf 47=1:=by kernel_rfl
 obtain ⟨z0,e0⟩:=get_lt hxl (show 0<5 by decide)
 obtain ⟨z1,e1⟩:=get_lt hxl (show 1<5 by decide)
 obtain ⟨z2,e2⟩:=get_lt hxl (show 2<5 by decide)
 obtain ⟨z3,e3⟩:=get_lt hxl (show 3<5 by decide)
 obtain ⟨z4,e4⟩:=get_lt hxl (show 4<5 by decide)
 have f0:DataW.trod enc Try.prog w base (fun _=>true) held n 25 (([y0,y1,y2,y3,y4].drop 0).take (Try.prog.cellsOf 25))=some z0:=(hx 0 _ rfl).trans e0
 have f1:DataW.trod enc Try.prog w base (fun _=>true) held n 25 (([y0,y1,y2,y3,y4].drop 1).take (Try.prog.cellsOf 25))=some z1:=(hx 1 _ rfl).trans e1
 have f2:DataW.trod enc Try.prog w base (fun _=>true) held n 25 (([y0,y1,y2,y3,y4].drop 2).take (Try.prog.cellsOf 25))=some z2:=(hx 2 _ rfl).trans e2
 have f3:DataW.trod enc Try.prog w base (fun _=>true) held n 26 (([y0,y1,y2,y3,y4].drop 3).take (Try.prog.cellsOf 26))=some z3:=(hx 3 _ rfl).trans e3
 have f4:DataW.trod enc Try.prog w base (fun _=>true) held n 47 (([y0,y1,y2,y3,y4].drop 4).take (Try.prog.cellsOf 47))=some z4:=(hx 4 _ rfl).trans e4
 rw [s25] at f0 f1 f2
 rw [s26] at f3
 rw [s47] at f4
 obtain ⟨F0,⟨A0,c0,q0,l0,g0⟩,p0⟩:=opn25P f0
 obtain ⟨F1,⟨A1,c1,q1,l1,g1⟩,p1⟩:=opn25P f1
 obtain ⟨F2,⟨A2,c2,q2,l2,g2⟩,p2⟩:=opn25P f2
 obtain ⟨F3,⟨A3,c3,q3,l3,g3⟩,p3⟩:=opn26P f3
 obtain ⟨F4,A4,c4,q4,l4,g4⟩:=opn47 f4
 simp at q0 q1 q2 q3 q4
 subst q0 q1 q2 q3 q4
 exact ⟨⟨F0,F1,F2,F3,F4⟩,k49_mk w (⟨F0,F1,F2,F3,F4⟩:S49) l0 g0 l1 g1 l2 g2 l3 g3 l4 g4,p0,p1,p2⟩
theorem opn22P (h:DataW.trod enc Try.prog w base (fun _=>true) held fuel 22 cs=some x):∃ (A:Option Addr) (c:Nat) (T:List S49),cs=[.slice A T.length c]∧T.length≤c∧k49.C w A T.length T∧In64 T:=by
 obtain ⟨zs,A,c,rfl,hle,hC,hp⟩:=opn_sliceP (d:=k49) Try.underlying22 (by kernel_rfl) opn49P h
 exact ⟨A,c,zs,rfl,hle,hC,hp⟩
end
theorem one' {α:Type} (cs:Array α) (h:cs.size=1):∃ a,cs=#[a]:=by
 match cs,h with
 | ⟨[a]⟩,_=>exact ⟨a,rfl⟩
theorem three' {α:Type} (cs:Array α) (h:cs.size=3):∃ a b c,cs=#[a,b,c]:=by
 match cs,h with
 | ⟨[a,b,c]⟩,_=>exact ⟨a,b,c,rfl⟩
set_option maxRecDepth 100000 in
theorem open_look {H:Type} {enc:TypeId × Value→H} {W:World} {base b0:Nat} {held:Bool} {r:Reach} {v:Value} {d:DataW H} {ps:List MemPlace} (hval:Value.okWide Try.prog W r b0 24 v) (hd:DataW.Trod enc Try.prog W base (fun _=>true) held 24 v d ps) :
  ∃ (A:Option Addr) (c:Nat) (T:List S49),v=.agg #[.slice A T.length c]∧k49.C W A T.length T∧T.length≤c∧In64 T:=by
 simp only [Value.okWide,Try.underlying24] at hval
 obtain ⟨cs,rfl,h2,_⟩:=hval
 obtain ⟨fuel,hf⟩:=hd
 obtain ⟨xs,n,_,_,hl,hxl,hx⟩:=DataW.trod_struct Try.underlying24 hf
 obtain ⟨y0,rfl⟩:=one' cs (by rw [h2];kernel_rfl)
 have s22:Try.prog.cellsOf 22=1:=by kernel_rfl
 obtain ⟨z0,e0⟩:=get_lt hxl (show 0<1 by decide)
 have f0:DataW.trod enc Try.prog W base (fun _=>true) held n 22 (([y0].drop 0).take (Try.prog.cellsOf 22))=some z0:=(hx 0 _ rfl).trans e0
 rw [s22] at f0
 obtain ⟨A,c,T,q0,l0,g0,p0⟩:=opn22P f0
 simp at q0
 subst q0
 exact ⟨A,c,T,rfl,g0,l0,p0⟩
set_option maxRecDepth 100000 in
theorem open_three {H:Type} {enc:TypeId × Value→H} {W:World} {base b0:Nat} {held:Bool} {r:Reach} {v:Value} {d:DataW H} {ps:List MemPlace} (hval:Value.okWide Try.prog W r b0 27 v) (hd:DataW.Trod enc Try.prog W base (fun _=>true) held 27 v d ps):∃ a b c,v=.agg #[.int .i64 a,.int .i64 b,.int .i64 c]∧R64 a∧R64 b∧R64 c:=by
 simp only [Value.okWide,Try.underlying27] at hval
 obtain ⟨cs,rfl,h2,_⟩:=hval
 obtain ⟨fuel,hf⟩:=hd
 obtain ⟨xs,m,_,_,hl,hxl,hx⟩:=DataW.trod_array Try.underlying27 hf
 have hc:Try.prog.cellsOf 3=1:=by kernel_rfl
 rw [hc] at hx
 obtain ⟨y0,y1,y2,rfl⟩:=three' cs (by rw [h2];kernel_rfl)
 have e0:=hx 0 (by decide)
 have e1:=hx 1 (by decide)
 have e2:=hx 2 (by decide)
 rw [List.getElem?_eq_getElem (by omega)] at e0 e1 e2
 obtain ⟨a,ha,-,wa⟩:=DataW.trod_int Try.underlying3 e0
 obtain ⟨b,hb,-,wb⟩:=DataW.trod_int Try.underlying3 e1
 obtain ⟨c,hc3,-,wc⟩:=DataW.trod_int Try.underlying3 e2
 simp [Value.cells] at ha hb hc3
 exact ⟨a,b,c,by rw [ha,hb,hc3],i64_wf wa,i64_wf wb,i64_wf wc⟩
end Go.Proofs.Ytlgkeaildncojaa.Q
end
section
namespace Go.Proofs.Ytlgkeaildncojaa.Q
open Go.RowKit Go.Shelf Go.Proofs.YtlgkeaildncojaaW.PrintWords Go.Proofs.YtlgkeaildncojaaW.PrintLast Go.Proofs.YtlgkeaildncojaaW.PrintMore
set_option linter.unusedVariables false
theorem rulesChecks_law (At:Option Addr) (ct:Nat) (T:List S49) (A0:Option Addr) (c0:Nat) (L:List (List Int)) (A1:Option Addr) (c1:Nat) (I:List Int) (o0 o1 o2 kq:Int) (A4:Option Addr) (c4:Nat) (M:List Bool) (s0 s1 s2:Int) (w:World)
  (hrt:k49.C w At T.length T) (hct:T.length≤ct) (hit:In64 T) (hr0:Kd.C (Kd.slice 3 (Kd.int .i64)) w A0 L.length L) (hc0:L.length≤c0) (hr1:Kd.C (Kd.int .i64) w A1 I.length I) (hc1:I.length≤c1) (hr4:Kd.C Kd.bool w A4 M.length M) (hc4:M.length≤c4) (hk:0≤kq∧kq≤255) (h0:R64 s0) (h1:R64 s1) (h2:R64 s2) :
  Calls Try.prog 3 #[.agg #[.slice At T.length ct],.agg #[.slice A0 L.length c0,.slice A1 I.length c1,.int .i64 o0,.int .i64 o1,.int .i64 o2,.int .u8 kq,.slice A4 M.length c4],.agg #[.int .i64 s0,.int .i64 s1,.int .i64 s2]] w fun e w'=>e=.returned (.bool true)∧Below w.heap.size w w' :=
 rulesChecks_calls A0 c0 L A1 c1 I o0 o1 o2 kq A4 c4 M oddF At ct T s0 s1 s2 w hr0 hc0 hr1 hc1 hr4 hc4 hk hrt hct hit
end Go.Proofs.Ytlgkeaildncojaa.Q
end
