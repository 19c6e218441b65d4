/- Texts of this claim, merged by wip/tools/pack.py: Odwa, Ob, Ol, Odwb, Odwc. -/
import Derived.Test.YtlgkeaildncojaaZ30
import Derived.RegionTactic
section
namespace Go.Proofs.Ytlgkeaildncojaa.Q
open Go.RowKit Go.Shelf Go.Proofs.YtlgkeaildncojaaW.PrintWords Go.Proofs.YtlgkeaildncojaaW.PrintLast Go.Proofs.YtlgkeaildncojaaW.PrintMore
set_option linter.unusedSimpArgs false
set_option linter.unusedVariables false
attribute [local go_sem] Oper.semAt_some
set_option maxRecDepth 100000 in
set_option maxHeartbeats 16000000 in
theorem odd_calls_a (A:Option Addr) (c:Nat) (l:List S49) (q0 q1 q2:Int) (N:Nat) (w wq:World) (R0:Res) (hO0:Own w wq [R0]) (hr:k49.C w A l.length l) (hc:l.length≤c) (hb:BdL N l) (hN:N≤1000) (hsel:q0 % 12=0∨q0 % 12=1∨q0 % 12=2∨q0 % 12=3∨q0 % 12=4∨q0 % 12=5∨q0 % 12=6) :
  Calls Try.prog 13 #[.agg #[.slice A l.length c],.agg #[.int .i64 q0,.int .i64 q1,.int .i64 q2]] wq fun e w'=>∃ A' c' l' XS,e=.returned (.agg #[.slice A' l'.length c'])∧(∀ W,EX w XS W→k49.C W A' l'.length l')∧l'.length≤c'∧BdL (N+12) l'∧Own w w' (R0 :: XS):=by
 obtain ⟨rows0,hrl0,hrC0,hrK0⟩:=raw_of_C hr
 have HRL0:=Aside0.mk hrl0
 have HRC0:=Aside0.mk hrC0
 have HRK0:=Aside0.mk hrK0
 have HB:=Aside0.mk hb
 have HN:=Aside0.mk hN
 have hll:(l.length:Int)≤1000:=by have:=hb.1;omega
 obtain ⟨n,hn⟩:∃ n,q1 % 6=n:=⟨_,rfl⟩
 have HNN:=Aside0.mk (show 0≤n∧n≤5 by omega)
 have HM6:=Aside0.mk (show abugidaref01_Mod.f q1 6=some n by rw [mod_some q1 6 (by decide) (by decide),hn])
 have HSEL:=Aside0.mk hsel
 have HO:=Aside0.mk hO0
 clear hr hc hb hN hrl0 hrC0 hrK0 hn hsel
 go_enter Try.func13,Try.ntmps13
 go_upto_region 3 with (first
  | ((with_reducible refine gate_dst (N:=2) rfl ?_);(refine ev_box (N:=2) (cs:=#[.slice A l.length c]) (t:=24) HO.out rfl rfl zhr ?_;intro g2 W_ hO hb_;clear HO hb_;have HO:=Aside0.mk hO;clear hO))
  | ((with_reducible refine gate_dst (N:=3) rfl ?_);(refine ev_box (N:=3) (cs:=#[.int .i64 q0,.int .i64 q1,.int .i64 q2]) (t:=27) HO.out rfl rfl zhr ?_;intro g3 W_ hO hb_;clear HO hb_;have HO:=Aside0.mk hO;clear hO))
  | ((with_reducible refine gate_dst (N:=4) rfl ?_);(refine ev_box (N:=4) (cs:=#[.slice none 0 0]) (t:=24) HO.out rfl rfl zhr ?_;intro g4 W_ hO hb_;clear HO hb_;have HO:=Aside0.mk hO;clear hO;have x2:=HO.out.box_cell 1 rfl 0 rfl))
  | ((with_reducible refine gate_dst (N:=11) rfl ?_);(refine ev_lit (Kd.raw 5) 49 (N:=11) (xs:=[]) (inner:=[]) HO.out rfl rfl ?hr ?hp (by decide) ?_;(case hr=>first|(go_simp;done)|(go_simp;rfl));(case hp=>exact Reps.none _ _);intro A_ c_ W_ hO hb_;clear HO hb_;have HO:=Aside0.mk hO;clear hO;clear x2;have x2:=HO.out.box_cell 1 rfl 0 rfl))
  | ((with_reducible refine gate_builtin (b:=.append) (xs:=#[.tmp 11,.tmp 13]) rfl ?_);at_builtin;(refine ev_rowsm 4 HO.out rfl rfl (.tmp 11) (.tmp 13) 22 (.agg #[.slice none 0 0,.slice none 0 0,.slice none 0 0,.slice none 0 0,.slice none 0 0]) 120 rfl Try.underlying22 info49 rfl (Nat.succ_pos 4) (by decide) rows0 A l.length c rows0 l.length rfl HRL0.out HRL0.out rfl rfl (Kd.C_below HRC0.out HO.out.below) (fun _ _ h=>h) ?aL ?_;(case aL=>have:=HB.out.1;have:=HN.out;simp;omega);intro A14 c14 W_ hO;clear HO;have HO:=Aside0.mk hO;clear hO;clear x2))
  | ((with_reducible refine gate_dst (N:=5) rfl ?_);(refine ev_box (N:=5) (cs:=#[.slice none 0 0]) (t:=24) HO.out rfl rfl zhr ?_;intro g5 W_ hO hb_;clear HO hb_;have HO:=Aside0.mk hO;clear hO))
  | ((with_reducible refine gate_store (t:=24) (p:=5) rfl ?_);(refine ev_store (cs':=#[.slice A14 l.length c14]) (.agg #[.slice A14 l.length c14]) 5 HO.out rfl rfl rfl rfl 0 rfl rfl sz24 za77 (show (0:Nat)+1≤1 by decide) rfl ?_;intro W_ hO;clear HO;have HO:=Aside0.mk hO;clear hO;have x3:=HO.out.box_cell 2 rfl 1 rfl))
  | (go_at_call 15;(refine (abugidaref01_Mod.calls q1 6 n _ HM6.out).mono ?_;rintro e_ W_ ⟨rfl,hd⟩;have nO:=Aside0.mk (HO.out.grow hd.below);clear HO hd;have HO:=nO;clear nO;clear x3)))
 have x5:=HO.out.box_cell 5 rfl 0 rfl
 go_upto_if 22 with (fail)
 clear x5
 go_cut [] (fun wc=>∃ (Lr:List S49) (rows:List (List Value)) (A5:Option Addr) (c5:Nat) (X1 X2:Res),Aside0 (0<Lr.length)∧Aside0 (BdL (N+1) Lr)∧Aside0 (Own w wc [R0,.box g2 24 #[.slice A l.length c],.box g3 27 #[.int .i64 q0,.int .i64 q1,.int .i64 q2],.box g4 24 #[.slice none 0 0],.row (Kd.raw 5) 49 w.heap.size (.slice A5 Lr.length c5) rows,.box g5 24 #[.slice A5 Lr.length c5],X1,X2])∧Aside0 (RulesX (EX w [X1,X2]) Lr rows))
 case first =>
  by_cases hl0:l.length=0
  case neg =>
   have e0:((l.length:Int)==0)=false:=beq_eq_false_iff_ne.mpr (by omega)
   have n0:((l.length:Int)=0)=False:=eq_false (by omega)
   have HL0:=Aside0.mk (show 0<l.length by omega)
   clear hl0
   go_wp2
   go_meet
   case rel=>exact ⟨l,rows0,A14,c14,.emp,.emp,HL0,⟨HB.out.le (Nat.le_succ N)⟩,⟨(HO.out.add (r:=.emp) (Below.refl _ _) trivial).add (r:=.emp) (Below.refl _ _) trivial⟩,⟨HRL0.out,fun j r cs hj hcs=>RuleX.old (fun W hW=>hW.1) (HRK0.out j r cs hj hcs)⟩⟩
  case pos =>
   have e0:((l.length:Int)==0)=true:=beq_iff_eq.mpr (by omega)
   have n0:((l.length:Int)=0)=True:=eq_true (by omega)
   have hr0:rows0=[]:=List.eq_nil_of_length_eq_zero (by rw [HRL0.out];exact hl0)
   subst hr0
   have HL0:=Aside0.mk hl0
   clear hl0
   have x5:=HO.out.box_cell 5 rfl 0 rfl
   go_wp2_with (first
    | ((with_reducible refine gate_dst (N:=26) rfl ?_);(refine ev_litB (N:=26) (n:=1) (t:=3) (cs:=#[.int .i64 n]) HO.out rfl rfl zhr ?_;intro g26 W_ hO hb_;clear HO hb_;have HO:=Aside0.mk hO;clear hO;clear x5;have x5:=HO.out.box_cell 5 rfl 0 rfl))
    | ((with_reducible refine gate_dst (N:=27) rfl ?_);(refine ev_litB (N:=27) (n:=1) (t:=26) (cs:=#[.slice (some ⟨g26,0,none⟩) 1 1]) HO.out rfl rfl zhr ?_;intro g27 W_ hO hb_;clear HO hb_;have HO:=Aside0.mk hO;clear hO;clear x5;have x5:=HO.out.box_cell 5 rfl 0 rfl))
    | ((with_reducible refine gate_builtin (b:=.append) (xs:=#[.tmp 24,.tmp 29]) rfl ?_);at_builtin;(refine ev_append 4 HO.out rfl rfl (.tmp 24) (.tmp 29) 22 (.agg #[.slice none 0 0,.slice none 0 0,.slice none 0 0,.slice none 0 0,.slice none 0 0]) 120 rfl Try.underlying22 info49 rfl (Nat.succ_pos 4) (by decide) ([.slice none 0 0,.slice (some ⟨g27,0,none⟩) 1 1,.slice none 0 0,.slice none 0 0,.slice none 0 0]:List Value) [.slice none 0 0,.slice (some ⟨g27,0,none⟩) 1 1,.slice none 0 0,.slice none 0 0,.slice none 0 0] rfl rfl ⟨rfl,rfl,by simp [Value.oneCell']⟩ (by decide) ?_;intro A30 c30 W_ hO;clear HO x5;have HO:=Aside0.mk hO;clear hO))
    | ((with_reducible refine gate_store (t:=22) (p:=31) rfl ?_);(refine ev_store (cs':=#[.slice A30 1 c30]) (.slice A30 1 c30) 5 HO.out rfl rfl rfl rfl 0 rfl rfl sz22 za77 (show (0:Nat)+1≤1 by decide) rfl ?_;intro W_ hO;clear HO;have HO:=Aside0.mk hO;clear hO)))
   go_meet
   case rel =>
    refine ⟨[⟨[],[[n]],[],[],[]⟩],[[.slice none 0 0,.slice (some ⟨g27,0,none⟩) 1 1,.slice none 0 0,.slice none 0 0,.slice none 0 0]],A30,c30,_,_,⟨Nat.one_pos⟩,⟨⟨Nat.le_add_left _ _,fun r hr=>?_⟩⟩,HO,⟨rfl,fun j r cs hj hcs=>?_⟩⟩
    ·
     rw [List.mem_singleton] at hr
     subst hr
     exact ⟨Nat.zero_le _,Nat.le_add_left _ _,Nat.zero_le _,Nat.zero_le _,Nat.zero_le _,fun s h=>(by cases h),fun s h=>(by
      rw [List.mem_singleton] at h
      subst h
      exact ⟨Nat.le_add_left _ _,fun x hx=>by rw [List.mem_singleton] at hx;subst hx;have:=HNN.out;omega⟩),fun s h=>(by cases h)⟩
    ·
     cases j with
     | succ j=>simp at hj
     | zero =>
      simp at hj hcs
      subst hj hcs
      refine ⟨none,0,some ⟨g27,0,none⟩,1,none,0,none,0,none,0,rfl,Nat.le_refl _,.nil _ _,Nat.le_refl _,⟨[[.slice (some ⟨g26,0,none⟩) 1 1]],rfl,fun W hE=>?_,fun W hE j x cc hx hcc=>?_⟩,Nat.le_refl _,.nil _ _,Nat.le_refl _,fun W _=>Kd.C_nil _ _,Nat.le_refl _,fun W _=>Kd.C_nil _ _⟩
      ·
       exact box_raw (vs:=[.slice (some ⟨g26,0,none⟩) 1 1]) (hE.box (t:=26) (cs:=#[.slice (some ⟨g26,0,none⟩) 1 1]) (by simp)) za80 (show (1:Nat)≤1000 by decide) 1 rfl
      ·
       cases j with
       | succ j=>simp at hx
       | zero =>
        simp at hx hcc
        subst hx hcc
        exact set_K (ns:=[n]) (hE.box (t:=3) (cs:=#[.int .i64 n]) (by simp)) (show (1:Nat)≤1000 by decide) 1 rfl
 clear HO
 obtain ⟨Lr,rows,A5,c5,X1,X2,HL1,HBL,HO,HRX⟩:=hcut
 have hlr:=HBL.out.1
 have hN1:=HN.out
 have h0r:=HL1.out
 obtain ⟨at_,hat⟩:∃ k:Nat,q2 % (Lr.length:Int)=(k:Int):=⟨(q2 % (Lr.length:Int)).toNat,by have:=Int.emod_nonneg q2 (show (Lr.length:Int)≠0 by omega);omega⟩
 have hat2:at_<Lr.length:=by have:=Int.emod_lt_of_pos q2 (show 0<(Lr.length:Int) by omega);omega
 have HMA:=Aside0.mk (show abugidaref01_Mod.f q2 (Lr.length:Int)=some (at_:Int) by rw [mod_some q2 _ (by omega) (by omega),hat])
 obtain ⟨sw,hsw⟩:∃ s,q0 % 12=s:=⟨_,rfl⟩
 have hsw2:0≤sw∧sw<12:=by omega
 have HSL:=Aside0.mk (hsw ▸ HSEL.out)
 clear HSEL
 have HMS:=Aside0.mk (show abugidaref01_Mod.f q0 12=some sw by rw [mod_some q0 12 (by decide) (by decide),hsw])
 have HSW:=Aside0.mk hsw2
 have HAT:=Aside0.mk hat2
 have hllr:(Lr.length:Int)≤1001:=by omega
 obtain ⟨cs,hcs⟩:∃ cs,rows[at_]?=some cs:=⟨_,List.getElem?_eq_getElem (by rw [HRX.out.1];exact hat2)⟩
 have hrx:=HRX.out.2 at_ _ cs (List.getElem?_eq_getElem hat2) hcs
 have hbr:=HBL.out.2 _ (List.getElem_mem hat2)
 generalize Lr[at_]=r at hrx hbr
 obtain ⟨f0,f1,f2,f3,f4⟩:=r
 obtain ⟨A0',c0',A1',c1',A2',c2',A3',c3',A4',c4',rfl,b0,g0,b1,g1,b2,g2_,b3,g3_,b4,g4_⟩:=hrx
 dsimp only at b0 g0 b1 g1 b2 g2_ b3 g3_ b4 g4_
 have HCS:=Aside0.mk hcs
 have HBR:=Aside0.mk hbr
 have HBR0:=Aside0.mk (show f0.length≤N+1 from hbr.b0)
 have HBR1:=Aside0.mk (show f1.length≤N+1 from hbr.b1)
 have HBR2:=Aside0.mk (show f2.length≤N+1 from hbr.b2)
 have HBR3:=Aside0.mk (show f3.length≤N+1 from hbr.b3)
 have HBR4:=Aside0.mk (show f4.length≤N+1 from hbr.b4)
 have HC0:=Aside0.mk b0
 have HC1:=Aside0.mk b1
 have HC2:=Aside0.mk b2
 have HC3:=Aside0.mk b3
 have HC4:=Aside0.mk b4
 have HG0:=Aside0.mk g0
 have HG1:=Aside0.mk g1
 have HG2:=Aside0.mk g2_
 have HG3:=Aside0.mk g3_
 have HG4:=Aside0.mk g4_
 have x3:=HO.out.box_cell 2 rfl 2 rfl
 have x5:=HO.out.box_cell 5 rfl 0 rfl
 clear hat hsw hlr hN1 h0r hcs hbr b0 g0 b1 g1 b2 g2_ b3 g3_ b4 g4_ hsw2
 go_upto_region 6 with (first
  | (go_at_call 15;(refine (abugidaref01_Mod.calls q2 (Lr.length:Int) (at_:Int) _ HMA.out).mono ?_;rintro e_ W_ ⟨rfl,hd⟩;have nO:=Aside0.mk (HO.out.grow hd.below);clear HO hd;have HO:=nO;clear nO)))
 clear x3 x5
 have x5:=HO.out.box_cell 5 rfl 0 rfl
 obtain ⟨adr,hA,x0,x1,x2,x3,x4⟩:=at_raw5 (HO.out.row_sl 4 rfl).2.2 at_ HCS.out
 subst hA
 have r0:(0≤(at_:Int))=True:=eq_true (by omega)
 have r1:((at_:Int)<(Lr.length:Int))=True:=eq_true (by omega)
 have hwn:IntKind.i64.wrap (n+1)=n+1:=IntWalk.i64_in _ za84
 clear hat2
 go_upto_block 0 with (first
  | ((with_reducible refine gate_dst (N:=8) rfl ?_);(refine ev_box (N:=8) (cs:=#[.slice none 0 0,.slice none 0 0,.slice none 0 0,.slice none 0 0,.slice none 0 0]) (t:=49) HO.out rfl rfl zhr ?_;intro g8 W_ hO hb_;clear HO hb_;have HO:=Aside0.mk hO;clear hO))
  | ((with_reducible refine gate_store (t:=49) (p:=8) rfl ?_);(refine ev_store (cs':=#[.slice A0' f0.length c0',.slice A1' f1.length c1',.slice A2' f2.length c2',.slice A3' f3.length c3',.slice A4' f4.length c4']) (.agg #[.slice A0' f0.length c0',.slice A1' f1.length c1',.slice A2' f2.length c2',.slice A3' f3.length c3',.slice A4' f4.length c4']) 8 HO.out rfl rfl rfl rfl 0 rfl rfl sz49 za77 (Nat.le_refl _) rfl ?_;intro W_ hO;clear HO x0 x1 x2 x3 x4 x5;have HO:=Aside0.mk hO;clear hO))
  | ((with_reducible refine gate_dst (N:=46) rfl ?_);(refine ev_litB (N:=46) (n:=2) (t:=3) (cs:=#[.int .i64 n,.int .i64 (n+1)]) HO.out rfl rfl zhr ?_;intro g46 W_ hO hb_;clear HO hb_;have HO:=Aside0.mk hO;clear hO;have x30:=HO.out.box_cell 2 rfl 0 rfl))
  | (go_at_call 15;(refine (abugidaref01_Mod.calls q0 12 sw _ HMS.out).mono ?_;rintro e_ W_ ⟨rfl,hd⟩;have nO:=Aside0.mk (HO.out.grow hd.below);clear HO hd;have HO:=nO;clear nO x30)))
 go_cut [] (fun wc=>∃ (L':List S49) (rows':List (List Value)) (A6:Option Addr) (c6:Nat) (r':S49) (B0:Option Addr) (d0:Nat) (B1:Option Addr) (d1:Nat) (B2:Option Addr) (d2:Nat) (B3:Option Addr) (d3:Nat) (B4:Option Addr) (d4:Nat) (Y1 Y2 Y3:Res),Aside0 (at_<L'.length)∧Aside0 (BdL (N+12) L')∧Aside0 (Bd (N+12) r')∧Aside0 (Own w wc [R0,.box g2 24 #[.slice A l.length c],.box g3 27 #[.int .i64 q0,.int .i64 q1,.int .i64 q2],.box g4 24 #[.slice none 0 0],.row (Kd.raw 5) 49 w.heap.size (.slice A6 L'.length c6) rows',.box g5 24 #[.slice A6 L'.length c6],X1,X2,.box g8 49 #[.slice B0 r'.f0.length d0,.slice B1 r'.f1.length d1,.slice B2 r'.f2.length d2,.slice B3 r'.f3.length d3,.slice B4 r'.f4.length d4],.box g46 3 #[.int .i64 n,.int .i64 (n+1)],Y1,Y2,Y3])∧Aside0 (RulesX (EX w [X1,X2,.box g46 3 #[.int .i64 n,.int .i64 (n+1)],Y1,Y2,Y3]) L' rows')∧Aside0 (RuleX (EX w [X1,X2,.box g46 3 #[.int .i64 n,.int .i64 (n+1)],Y1,Y2,Y3]) r' [.slice B0 r'.f0.length d0,.slice B1 r'.f1.length d1,.slice B2 r'.f2.length d2,.slice B3 r'.f3.length d3,.slice B4 r'.f4.length d4]))
 case first =>
  have HBU:=Aside0.mk (HBR.out.le (show N+1≤N+12 by omega))
  have HBLU:=Aside0.mk (HBL.out.le (show N+1≤N+12 by omega))
  rcases HSL.out with rfl|rfl|rfl|rfl|rfl|rfl|rfl
  ·
   as_aux_lemma =>
   obtain ⟨nf,hnf⟩:∃ nf,f1++[[n,n+1],[n,n+1],[n,n+1]]=nf:=⟨_,rfl⟩
   have HNF:=Aside0.mk hnf
   obtain ⟨rf,hrl,hrC,hrK⟩:=HG1.out
   have HRF:=Aside0.mk hrl
   have HRFC:=Aside0.mk hrC
   have HRFK:=Aside0.mk hrK
   have HMO:=Aside0.mk (show ∀ s∈([[n,n+1],[n,n+1],[n,n+1]]:List (List Int)),I64s (N+12) s from fun s hs=>by
    have h1:=HNN.out
    simp only [List.mem_cons,List.not_mem_nil,or_false,or_self] at hs
    subst hs
    exact set_in ⟨h1.1,by omega⟩ ⟨by omega,by omega⟩ N)
   clear hrl hrC hrK hnf
   have z:=HO.out.box_cell 8 rfl 1 rfl
   go_wp2_with (first
    | ((with_reducible refine gate_dst (N:=52) rfl ?_);(refine ev_lit (Kd.raw 1) 26 (N:=52) (xs:=[]) (inner:=[]) HO.out rfl rfl ?hr ?hp (by decide) ?_;(case hr=>first|(go_simp;done)|(go_simp;rfl));(case hp=>exact Reps.none _ _);intro A_ c_ W_ hO hb_;clear HO hb_;have HO:=Aside0.mk hO;clear hO;clear z;have z:=HO.out.box_cell 8 rfl 1 rfl))
    | ((with_reducible refine gate_builtin (b:=.append) (xs:=#[.tmp 52,.tmp 54]) rfl ?_);at_builtin;(refine ev_rowsm 10 HO.out rfl rfl (.tmp 52) (.tmp 54) 25 (.slice none 0 0) 24 rfl Try.underlying25 hinf26 rfl (Nat.succ_pos 0) (by decide) rf A1' f1.length c1' rf f1.length rfl HRF.out HRF.out rfl rfl (HRFC.out _ (ex3 HO.out)) (fun _ _ h=>h) ?aL ?_;(case aL=>have:=HBR1.out;have:=HN.out;simp;omega);intro A_ c_ W_ hO;clear HO;have HO:=Aside0.mk hO;clear hO;clear z))
    | ((with_reducible refine gate_dst (N:=59) rfl ?_);(refine ev_litB (N:=59) (n:=3) (t:=26) (cs:=#[Value.slice (some ⟨g46,0,none⟩) 2 2,Value.slice (some ⟨g46,0,none⟩) 2 2,Value.slice (some ⟨g46,0,none⟩) 2 2]) HO.out rfl rfl zhr ?_;intro g59 W_ hO hb_;clear HO hb_;have HO:=Aside0.mk hO;clear hO))
    | ((with_reducible refine gate_builtin (b:=.append) (xs:=#[.tmp 55,.tmp 59]) rfl ?_);at_builtin;(refine ev_rowsm 10 HO.out rfl rfl (.tmp 55) (.tmp 59) 25 (.slice none 0 0) 24 rfl Try.underlying25 hinf26 rfl (Nat.succ_pos 0) (by decide) [[Value.slice (some ⟨g46,0,none⟩) 2 2],[Value.slice (some ⟨g46,0,none⟩) 2 2],[Value.slice (some ⟨g46,0,none⟩) 2 2]] (some ⟨g59,0,none⟩) 3 3 (rf++[[Value.slice (some ⟨g46,0,none⟩) 2 2],[Value.slice (some ⟨g46,0,none⟩) 2 2],[Value.slice (some ⟨g46,0,none⟩) 2 2]]) nf.length rfl za79 rfl rfl rfl (box_raw (vs:=[Value.slice (some ⟨g46,0,none⟩) 2 2,Value.slice (some ⟨g46,0,none⟩) 2 2,Value.slice (some ⟨g46,0,none⟩) 2 2]) (HO.out.box_at 11 rfl).1 za80 (show (3:Nat)≤1000 by decide) 3 rfl) (fun _ _ h=>h) ?aL ?_;(case aL=>have:=HBR1.out;have:=HN.out;have:=HRF.out;omega);intro A60 c60 W_ hO;clear HO;have HO:=Aside0.mk hO;clear hO))
    | ((with_reducible refine gate_store (t:=25) (p:=61) rfl ?_);(refine ev_store (cs':=#[.slice A0' f0.length c0',.slice A60 nf.length c60,.slice A2' f2.length c2',.slice A3' f3.length c3',.slice A4' f4.length c4']) (.slice A60 nf.length c60) 8 HO.out rfl rfl rfl rfl 1 rfl rfl sz25 za77 (show (1:Nat)+1≤5 by decide) rfl ?_;intro W_ hO;clear HO;have HO:=Aside0.mk hO;clear hO)))
   go_meet
   case rel=>exact ⟨Lr,rows,some adr,c5,⟨f0,nf,f2,f3,f4⟩,A0',c0',A60,c60,A2',c2',A3',c3',A4',c4',.row (Kd.raw 1) 26 w.heap.size (.slice A60 nf.length c60) (rf++[[Value.slice (some ⟨g46,0,none⟩) 2 2],[Value.slice (some ⟨g46,0,none⟩) 2 2],[Value.slice (some ⟨g46,0,none⟩) 2 2]]),.box g59 26 #[Value.slice (some ⟨g46,0,none⟩) 2 2,Value.slice (some ⟨g46,0,none⟩) 2 2,Value.slice (some ⟨g46,0,none⟩) 2 2],.emp,HAT,HBLU,⟨⟨HBU.out.b0,(by rw [← HNF.out];have:=HBR1.out;simp;omega),HBU.out.b2,HBU.out.b3,HBU.out.b4,HBU.out.s0,(by have h_:=mem_more HBU.out.s1 HMO.out;rw [HNF.out] at h_;exact h_),HBU.out.s2⟩⟩,⟨(HO.out.add (r:=.emp) (Below.refl _ _) trivial)⟩,⟨HRX.out.imp sub2⟩,⟨A0',c0',A60,c60,A2',c2',A3',c3',A4',c4',rfl,HC0.out,HG0.out.imp sub2,(HO.out.row_sl 10 rfl).2.1,(by have h_:=FldX.app (E:=EX w [X1,X2,.box g46 3 #[.int .i64 n,.int .i64 (n+1)],.row (Kd.raw 1) 26 w.heap.size (.slice A60 nf.length c60) (rf++[[Value.slice (some ⟨g46,0,none⟩) 2 2],[Value.slice (some ⟨g46,0,none⟩) 2 2],[Value.slice (some ⟨g46,0,none⟩) 2 2]]),.box g59 26 #[Value.slice (some ⟨g46,0,none⟩) 2 2,Value.slice (some ⟨g46,0,none⟩) 2 2,Value.slice (some ⟨g46,0,none⟩) 2 2],.emp]) (A:=A60) HRF.out (show ([[Value.slice (some ⟨g46,0,none⟩) 2 2],[Value.slice (some ⟨g46,0,none⟩) 2 2],[Value.slice (some ⟨g46,0,none⟩) 2 2]]:List (List Value)).length=([[n,n+1],[n,n+1],[n,n+1]]:List (List Int)).length from rfl) (fun W hE=>by rw [HNF.out];exact hE.row (e:=26) (B:=w.heap.size) (c:=c60) (by simp)) (fun W hE=>HRFK.out W (sub2 W hE)) (FldK.cons (fun W hE=>set_K (ns:=[n,n+1]) (hE.box (t:=3) (cs:=#[.int .i64 n,.int .i64 (n+1)]) (by simp)) (show (2:Nat)≤1000 by decide) 2 rfl) (FldK.cons (fun W hE=>set_K (ns:=[n,n+1]) (hE.box (t:=3) (cs:=#[.int .i64 n,.int .i64 (n+1)]) (by simp)) (show (2:Nat)≤1000 by decide) 2 rfl) (FldK.cons (fun W hE=>set_K (ns:=[n,n+1]) (hE.box (t:=3) (cs:=#[.int .i64 n,.int .i64 (n+1)]) (by simp)) (show (2:Nat)≤1000 by decide) 2 rfl) (FldK.nil _))));rw [HNF.out] at h_;exact h_),HC2.out,HG2.out.imp sub2,HC3.out,fun W hE=>HG3.out W (sub2 W hE),HC4.out,fun W hE=>HG4.out W (sub2 W hE)⟩⟩
  ·
   as_aux_lemma =>
   go_wp2_with (first
    | ((with_reducible refine gate_store (t:=25) (p:=64) rfl ?_);(refine ev_store (cs':=#[.slice A0' f0.length c0',.slice none 0 0,.slice A2' f2.length c2',.slice A3' f3.length c3',.slice A4' f4.length c4']) (.slice none 0 0) 8 HO.out rfl rfl rfl rfl 1 rfl rfl sz25 za77 (show (1:Nat)+1≤5 by decide) rfl ?_;intro W_ hO;clear HO;have HO:=Aside0.mk hO;clear hO)))
   go_meet
   case rel=>exact ⟨Lr,rows,some adr,c5,⟨f0,[],f2,f3,f4⟩,A0',c0',none,0,A2',c2',A3',c3',A4',c4',.emp,.emp,.emp,HAT,HBLU,⟨⟨HBU.out.b0,(Nat.zero_le _),HBU.out.b2,HBU.out.b3,HBU.out.b4,HBU.out.s0,(fun s hs=>(by cases hs)),HBU.out.s2⟩⟩,⟨(((HO.out.add (r:=.emp) (Below.refl _ _) trivial).add (r:=.emp) (Below.refl _ _) trivial).add (r:=.emp) (Below.refl _ _) trivial)⟩,⟨HRX.out.imp sub2⟩,⟨A0',c0',none,0,A2',c2',A3',c3',A4',c4',rfl,HC0.out,HG0.out.imp sub2,Nat.le_refl _,.nil _ _,HC2.out,HG2.out.imp sub2,HC3.out,fun W hE=>HG3.out W (sub2 W hE),HC4.out,fun W hE=>HG4.out W (sub2 W hE)⟩⟩
  ·
   as_aux_lemma =>
   obtain ⟨nf,hnf⟩:∃ nf,f0++[[n,n+1],[n,n+1]]=nf:=⟨_,rfl⟩
   have HNF:=Aside0.mk hnf
   obtain ⟨rf,hrl,hrC,hrK⟩:=HG0.out
   have HRF:=Aside0.mk hrl
   have HRFC:=Aside0.mk hrC
   have HRFK:=Aside0.mk hrK
   have HMO:=Aside0.mk (show ∀ s∈([[n,n+1],[n,n+1]]:List (List Int)),I64s (N+12) s from fun s hs=>by
    have h1:=HNN.out
    simp only [List.mem_cons,List.not_mem_nil,or_false,or_self] at hs
    subst hs
    exact set_in ⟨h1.1,by omega⟩ ⟨by omega,by omega⟩ N)
   clear hrl hrC hrK hnf
   have z:=HO.out.box_cell 8 rfl 0 rfl
   go_wp2_with (first
    | ((with_reducible refine gate_dst (N:=67) rfl ?_);(refine ev_lit (Kd.raw 1) 26 (N:=67) (xs:=[]) (inner:=[]) HO.out rfl rfl ?hr ?hp (by decide) ?_;(case hr=>first|(go_simp;done)|(go_simp;rfl));(case hp=>exact Reps.none _ _);intro A_ c_ W_ hO hb_;clear HO hb_;have HO:=Aside0.mk hO;clear hO;clear z;have z:=HO.out.box_cell 8 rfl 0 rfl))
    | ((with_reducible refine gate_builtin (b:=.append) (xs:=#[.tmp 67,.tmp 69]) rfl ?_);at_builtin;(refine ev_rowsm 10 HO.out rfl rfl (.tmp 67) (.tmp 69) 25 (.slice none 0 0) 24 rfl Try.underlying25 hinf26 rfl (Nat.succ_pos 0) (by decide) rf A0' f0.length c0' rf f0.length rfl HRF.out HRF.out rfl rfl (HRFC.out _ (ex3 HO.out)) (fun _ _ h=>h) ?aL ?_;(case aL=>have:=HBR0.out;have:=HN.out;simp;omega);intro A_ c_ W_ hO;clear HO;have HO:=Aside0.mk hO;clear hO;clear z))
    | ((with_reducible refine gate_dst (N:=73) rfl ?_);(refine ev_litB (N:=73) (n:=2) (t:=26) (cs:=#[Value.slice (some ⟨g46,0,none⟩) 2 2,Value.slice (some ⟨g46,0,none⟩) 2 2]) HO.out rfl rfl zhr ?_;intro g73 W_ hO hb_;clear HO hb_;have HO:=Aside0.mk hO;clear hO))
    | ((with_reducible refine gate_builtin (b:=.append) (xs:=#[.tmp 70,.tmp 73]) rfl ?_);at_builtin;(refine ev_rowsm 10 HO.out rfl rfl (.tmp 70) (.tmp 73) 25 (.slice none 0 0) 24 rfl Try.underlying25 hinf26 rfl (Nat.succ_pos 0) (by decide) [[Value.slice (some ⟨g46,0,none⟩) 2 2],[Value.slice (some ⟨g46,0,none⟩) 2 2]] (some ⟨g73,0,none⟩) 2 2 (rf++[[Value.slice (some ⟨g46,0,none⟩) 2 2],[Value.slice (some ⟨g46,0,none⟩) 2 2]]) nf.length rfl za79 rfl rfl rfl (box_raw (vs:=[Value.slice (some ⟨g46,0,none⟩) 2 2,Value.slice (some ⟨g46,0,none⟩) 2 2]) (HO.out.box_at 11 rfl).1 za80 (show (2:Nat)≤1000 by decide) 2 rfl) (fun _ _ h=>h) ?aL ?_;(case aL=>have:=HBR0.out;have:=HN.out;have:=HRF.out;omega);intro A74 c74 W_ hO;clear HO;have HO:=Aside0.mk hO;clear hO))
    | ((with_reducible refine gate_store (t:=25) (p:=75) rfl ?_);(refine ev_store (cs':=#[.slice A74 nf.length c74,.slice A1' f1.length c1',.slice A2' f2.length c2',.slice A3' f3.length c3',.slice A4' f4.length c4']) (.slice A74 nf.length c74) 8 HO.out rfl rfl rfl rfl 0 rfl rfl sz25 za77 (show (0:Nat)+1≤5 by decide) rfl ?_;intro W_ hO;clear HO;have HO:=Aside0.mk hO;clear hO)))
   go_meet
   case rel=>exact ⟨Lr,rows,some adr,c5,⟨nf,f1,f2,f3,f4⟩,A74,c74,A1',c1',A2',c2',A3',c3',A4',c4',.row (Kd.raw 1) 26 w.heap.size (.slice A74 nf.length c74) (rf++[[Value.slice (some ⟨g46,0,none⟩) 2 2],[Value.slice (some ⟨g46,0,none⟩) 2 2]]),.box g73 26 #[Value.slice (some ⟨g46,0,none⟩) 2 2,Value.slice (some ⟨g46,0,none⟩) 2 2],.emp,HAT,HBLU,⟨⟨(by rw [← HNF.out];have:=HBR0.out;simp;omega),HBU.out.b1,HBU.out.b2,HBU.out.b3,HBU.out.b4,(by have h_:=mem_more HBU.out.s0 HMO.out;rw [HNF.out] at h_;exact h_),HBU.out.s1,HBU.out.s2⟩⟩,⟨(HO.out.add (r:=.emp) (Below.refl _ _) trivial)⟩,⟨HRX.out.imp sub2⟩,⟨A74,c74,A1',c1',A2',c2',A3',c3',A4',c4',rfl,(HO.out.row_sl 10 rfl).2.1,(by have h_:=FldX.app (E:=EX w [X1,X2,.box g46 3 #[.int .i64 n,.int .i64 (n+1)],.row (Kd.raw 1) 26 w.heap.size (.slice A74 nf.length c74) (rf++[[Value.slice (some ⟨g46,0,none⟩) 2 2],[Value.slice (some ⟨g46,0,none⟩) 2 2]]),.box g73 26 #[Value.slice (some ⟨g46,0,none⟩) 2 2,Value.slice (some ⟨g46,0,none⟩) 2 2],.emp]) (A:=A74) HRF.out (show ([[Value.slice (some ⟨g46,0,none⟩) 2 2],[Value.slice (some ⟨g46,0,none⟩) 2 2]]:List (List Value)).length=([[n,n+1],[n,n+1]]:List (List Int)).length from rfl) (fun W hE=>by rw [HNF.out];exact hE.row (e:=26) (B:=w.heap.size) (c:=c74) (by simp)) (fun W hE=>HRFK.out W (sub2 W hE)) (FldK.cons (fun W hE=>set_K (ns:=[n,n+1]) (hE.box (t:=3) (cs:=#[.int .i64 n,.int .i64 (n+1)]) (by simp)) (show (2:Nat)≤1000 by decide) 2 rfl) (FldK.cons (fun W hE=>set_K (ns:=[n,n+1]) (hE.box (t:=3) (cs:=#[.int .i64 n,.int .i64 (n+1)]) (by simp)) (show (2:Nat)≤1000 by decide) 2 rfl) (FldK.nil _)));rw [HNF.out] at h_;exact h_),HC1.out,HG1.out.imp sub2,HC2.out,HG2.out.imp sub2,HC3.out,fun W hE=>HG3.out W (sub2 W hE),HC4.out,fun W hE=>HG4.out W (sub2 W hE)⟩⟩
  ·
   as_aux_lemma =>
   obtain ⟨nf,hnf⟩:∃ nf,f2++[[n,n+1],[n,n+1]]=nf:=⟨_,rfl⟩
   have HNF:=Aside0.mk hnf
   obtain ⟨rf,hrl,hrC,hrK⟩:=HG2.out
   have HRF:=Aside0.mk hrl
   have HRFC:=Aside0.mk hrC
   have HRFK:=Aside0.mk hrK
   have HMO:=Aside0.mk (show ∀ s∈([[n,n+1],[n,n+1]]:List (List Int)),I64s (N+12) s from fun s hs=>by
    have h1:=HNN.out
    simp only [List.mem_cons,List.not_mem_nil,or_false,or_self] at hs
    subst hs
    exact set_in ⟨h1.1,by omega⟩ ⟨by omega,by omega⟩ N)
   clear hrl hrC hrK hnf
   have z:=HO.out.box_cell 8 rfl 2 rfl
   go_wp2_with (first
    | ((with_reducible refine gate_dst (N:=78) rfl ?_);(refine ev_lit (Kd.raw 1) 26 (N:=78) (xs:=[]) (inner:=[]) HO.out rfl rfl ?hr ?hp (by decide) ?_;(case hr=>first|(go_simp;done)|(go_simp;rfl));(case hp=>exact Reps.none _ _);intro A_ c_ W_ hO hb_;clear HO hb_;have HO:=Aside0.mk hO;clear hO;clear z;have z:=HO.out.box_cell 8 rfl 2 rfl))
    | ((with_reducible refine gate_builtin (b:=.append) (xs:=#[.tmp 78,.tmp 80]) rfl ?_);at_builtin;(refine ev_rowsm 10 HO.out rfl rfl (.tmp 78) (.tmp 80) 25 (.slice none 0 0) 24 rfl Try.underlying25 hinf26 rfl (Nat.succ_pos 0) (by decide) rf A2' f2.length c2' rf f2.length rfl HRF.out HRF.out rfl rfl (HRFC.out _ (ex3 HO.out)) (fun _ _ h=>h) ?aL ?_;(case aL=>have:=HBR2.out;have:=HN.out;simp;omega);intro A_ c_ W_ hO;clear HO;have HO:=Aside0.mk hO;clear hO;clear z))
    | ((with_reducible refine gate_dst (N:=84) rfl ?_);(refine ev_litB (N:=84) (n:=2) (t:=26) (cs:=#[Value.slice (some ⟨g46,0,none⟩) 2 2,Value.slice (some ⟨g46,0,none⟩) 2 2]) HO.out rfl rfl zhr ?_;intro g84 W_ hO hb_;clear HO hb_;have HO:=Aside0.mk hO;clear hO))
    | ((with_reducible refine gate_builtin (b:=.append) (xs:=#[.tmp 81,.tmp 84]) rfl ?_);at_builtin;(refine ev_rowsm 10 HO.out rfl rfl (.tmp 81) (.tmp 84) 25 (.slice none 0 0) 24 rfl Try.underlying25 hinf26 rfl (Nat.succ_pos 0) (by decide) [[Value.slice (some ⟨g46,0,none⟩) 2 2],[Value.slice (some ⟨g46,0,none⟩) 2 2]] (some ⟨g84,0,none⟩) 2 2 (rf++[[Value.slice (some ⟨g46,0,none⟩) 2 2],[Value.slice (some ⟨g46,0,none⟩) 2 2]]) nf.length rfl za79 rfl rfl rfl (box_raw (vs:=[Value.slice (some ⟨g46,0,none⟩) 2 2,Value.slice (some ⟨g46,0,none⟩) 2 2]) (HO.out.box_at 11 rfl).1 za80 (show (2:Nat)≤1000 by decide) 2 rfl) (fun _ _ h=>h) ?aL ?_;(case aL=>have:=HBR2.out;have:=HN.out;have:=HRF.out;omega);intro A85 c85 W_ hO;clear HO;have HO:=Aside0.mk hO;clear hO))
    | ((with_reducible refine gate_store (t:=25) (p:=86) rfl ?_);(refine ev_store (cs':=#[.slice A0' f0.length c0',.slice A1' f1.length c1',.slice A85 nf.length c85,.slice A3' f3.length c3',.slice A4' f4.length c4']) (.slice A85 nf.length c85) 8 HO.out rfl rfl rfl rfl 2 rfl rfl sz25 za77 (show (2:Nat)+1≤5 by decide) rfl ?_;intro W_ hO;clear HO;have HO:=Aside0.mk hO;clear hO)))
   go_meet
   case rel=>exact ⟨Lr,rows,some adr,c5,⟨f0,f1,nf,f3,f4⟩,A0',c0',A1',c1',A85,c85,A3',c3',A4',c4',.row (Kd.raw 1) 26 w.heap.size (.slice A85 nf.length c85) (rf++[[Value.slice (some ⟨g46,0,none⟩) 2 2],[Value.slice (some ⟨g46,0,none⟩) 2 2]]),.box g84 26 #[Value.slice (some ⟨g46,0,none⟩) 2 2,Value.slice (some ⟨g46,0,none⟩) 2 2],.emp,HAT,HBLU,⟨⟨HBU.out.b0,HBU.out.b1,(by rw [← HNF.out];have:=HBR2.out;simp;omega),HBU.out.b3,HBU.out.b4,HBU.out.s0,HBU.out.s1,(by have h_:=mem_more HBU.out.s2 HMO.out;rw [HNF.out] at h_;exact h_)⟩⟩,⟨(HO.out.add (r:=.emp) (Below.refl _ _) trivial)⟩,⟨HRX.out.imp sub2⟩,⟨A0',c0',A1',c1',A85,c85,A3',c3',A4',c4',rfl,HC0.out,HG0.out.imp sub2,HC1.out,HG1.out.imp sub2,(HO.out.row_sl 10 rfl).2.1,(by have h_:=FldX.app (E:=EX w [X1,X2,.box g46 3 #[.int .i64 n,.int .i64 (n+1)],.row (Kd.raw 1) 26 w.heap.size (.slice A85 nf.length c85) (rf++[[Value.slice (some ⟨g46,0,none⟩) 2 2],[Value.slice (some ⟨g46,0,none⟩) 2 2]]),.box g84 26 #[Value.slice (some ⟨g46,0,none⟩) 2 2,Value.slice (some ⟨g46,0,none⟩) 2 2],.emp]) (A:=A85) HRF.out (show ([[Value.slice (some ⟨g46,0,none⟩) 2 2],[Value.slice (some ⟨g46,0,none⟩) 2 2]]:List (List Value)).length=([[n,n+1],[n,n+1]]:List (List Int)).length from rfl) (fun W hE=>by rw [HNF.out];exact hE.row (e:=26) (B:=w.heap.size) (c:=c85) (by simp)) (fun W hE=>HRFK.out W (sub2 W hE)) (FldK.cons (fun W hE=>set_K (ns:=[n,n+1]) (hE.box (t:=3) (cs:=#[.int .i64 n,.int .i64 (n+1)]) (by simp)) (show (2:Nat)≤1000 by decide) 2 rfl) (FldK.cons (fun W hE=>set_K (ns:=[n,n+1]) (hE.box (t:=3) (cs:=#[.int .i64 n,.int .i64 (n+1)]) (by simp)) (show (2:Nat)≤1000 by decide) 2 rfl) (FldK.nil _)));rw [HNF.out] at h_;exact h_),HC3.out,fun W hE=>HG3.out W (sub2 W hE),HC4.out,fun W hE=>HG4.out W (sub2 W hE)⟩⟩
  ·
   as_aux_lemma =>
   obtain ⟨nf,hnf⟩:∃ nf,f2++[[n,n]]=nf:=⟨_,rfl⟩
   have HNF:=Aside0.mk hnf
   obtain ⟨rf,hrl,hrC,hrK⟩:=HG2.out
   have HRF:=Aside0.mk hrl
   have HRFC:=Aside0.mk hrC
   have HRFK:=Aside0.mk hrK
   have HMO:=Aside0.mk (show ∀ s∈([[n,n]]:List (List Int)),I64s (N+12) s from fun s hs=>by
    have h1:=HNN.out
    simp only [List.mem_cons,List.not_mem_nil,or_false,or_self] at hs
    subst hs
    exact set_in ⟨h1.1,by omega⟩ ⟨by omega,by omega⟩ N)
   clear hrl hrC hrK hnf
   have z:=HO.out.box_cell 8 rfl 2 rfl
   go_wp2_with (first
    | ((with_reducible refine gate_dst (N:=89) rfl ?_);(refine ev_lit (Kd.raw 1) 26 (N:=89) (xs:=[]) (inner:=[]) HO.out rfl rfl ?hr ?hp (by decide) ?_;(case hr=>first|(go_simp;done)|(go_simp;rfl));(case hp=>exact Reps.none _ _);intro A_ c_ W_ hO hb_;clear HO hb_;have HO:=Aside0.mk hO;clear hO;clear z;have z:=HO.out.box_cell 8 rfl 2 rfl))
    | ((with_reducible refine gate_builtin (b:=.append) (xs:=#[.tmp 89,.tmp 91]) rfl ?_);at_builtin;(refine ev_rowsm 10 HO.out rfl rfl (.tmp 89) (.tmp 91) 25 (.slice none 0 0) 24 rfl Try.underlying25 hinf26 rfl (Nat.succ_pos 0) (by decide) rf A2' f2.length c2' rf f2.length rfl HRF.out HRF.out rfl rfl (HRFC.out _ (ex3 HO.out)) (fun _ _ h=>h) ?aL ?_;(case aL=>have:=HBR2.out;have:=HN.out;simp;omega);intro A_ c_ W_ hO;clear HO;have HO:=Aside0.mk hO;clear hO;clear z))
    | ((with_reducible refine gate_dst (N:=95) rfl ?_);(refine ev_litB (N:=95) (n:=2) (t:=3) (cs:=#[.int .i64 n,.int .i64 n]) HO.out rfl rfl zhr ?_;intro g95 W_ hO hb_;clear HO hb_;have HO:=Aside0.mk hO;clear hO))
    | ((with_reducible refine gate_dst (N:=96) rfl ?_);(refine ev_litB (N:=96) (n:=1) (t:=26) (cs:=#[.slice (some ⟨g95,0,none⟩) 2 2]) HO.out rfl rfl zhr ?_;intro g96 W_ hO hb_;clear HO hb_;have HO:=Aside0.mk hO;clear hO))
    | ((with_reducible refine gate_builtin (b:=.append) (xs:=#[.tmp 92,.tmp 96]) rfl ?_);at_builtin;(refine ev_rowsm 10 HO.out rfl rfl (.tmp 92) (.tmp 96) 25 (.slice none 0 0) 24 rfl Try.underlying25 hinf26 rfl (Nat.succ_pos 0) (by decide) [[Value.slice (some ⟨g95,0,none⟩) 2 2]] (some ⟨g96,0,none⟩) 1 1 (rf++[[Value.slice (some ⟨g95,0,none⟩) 2 2]]) nf.length rfl za79 rfl rfl rfl (box_raw (vs:=[Value.slice (some ⟨g95,0,none⟩) 2 2]) (HO.out.box_at 12 rfl).1 za80 (show (1:Nat)≤1000 by decide) 1 rfl) (fun _ _ h=>h) ?aL ?_;(case aL=>have:=HBR2.out;have:=HN.out;have:=HRF.out;omega);intro A97 c97 W_ hO;clear HO;have HO:=Aside0.mk hO;clear hO))
    | ((with_reducible refine gate_store (t:=25) (p:=98) rfl ?_);(refine ev_store (cs':=#[.slice A0' f0.length c0',.slice A1' f1.length c1',.slice A97 nf.length c97,.slice A3' f3.length c3',.slice A4' f4.length c4']) (.slice A97 nf.length c97) 8 HO.out rfl rfl rfl rfl 2 rfl rfl sz25 za77 (show (2:Nat)+1≤5 by decide) rfl ?_;intro W_ hO;clear HO;have HO:=Aside0.mk hO;clear hO)))
   go_meet
   case rel=>exact ⟨Lr,rows,some adr,c5,⟨f0,f1,nf,f3,f4⟩,A0',c0',A1',c1',A97,c97,A3',c3',A4',c4',.row (Kd.raw 1) 26 w.heap.size (.slice A97 nf.length c97) (rf++[[Value.slice (some ⟨g95,0,none⟩) 2 2]]),.box g95 3 #[.int .i64 n,.int .i64 n],.box g96 26 #[.slice (some ⟨g95,0,none⟩) 2 2],HAT,HBLU,⟨⟨HBU.out.b0,HBU.out.b1,(by rw [← HNF.out];have:=HBR2.out;simp;omega),HBU.out.b3,HBU.out.b4,HBU.out.s0,HBU.out.s1,(by have h_:=mem_more HBU.out.s2 HMO.out;rw [HNF.out] at h_;exact h_)⟩⟩,⟨HO.out⟩,⟨HRX.out.imp sub2⟩,⟨A0',c0',A1',c1',A97,c97,A3',c3',A4',c4',rfl,HC0.out,HG0.out.imp sub2,HC1.out,HG1.out.imp sub2,(HO.out.row_sl 10 rfl).2.1,(by have h_:=FldX.app (E:=EX w [X1,X2,.box g46 3 #[.int .i64 n,.int .i64 (n+1)],.row (Kd.raw 1) 26 w.heap.size (.slice A97 nf.length c97) (rf++[[Value.slice (some ⟨g95,0,none⟩) 2 2]]),.box g95 3 #[.int .i64 n,.int .i64 n],.box g96 26 #[.slice (some ⟨g95,0,none⟩) 2 2]]) (A:=A97) HRF.out (show ([[Value.slice (some ⟨g95,0,none⟩) 2 2]]:List (List Value)).length=([[n,n]]:List (List Int)).length from rfl) (fun W hE=>by rw [HNF.out];exact hE.row (e:=26) (B:=w.heap.size) (c:=c97) (by simp)) (fun W hE=>HRFK.out W (sub2 W hE)) (FldK.cons (fun W hE=>set_K (ns:=[n,n]) (hE.box (t:=3) (cs:=#[.int .i64 n,.int .i64 n]) (by simp)) (show (2:Nat)≤1000 by decide) 2 rfl) (FldK.nil _));rw [HNF.out] at h_;exact h_),HC3.out,fun W hE=>HG3.out W (sub2 W hE),HC4.out,fun W hE=>HG4.out W (sub2 W hE)⟩⟩
  ·
   as_aux_lemma =>
   obtain ⟨nf,hnf⟩:∃ nf,f0++[[]]=nf:=⟨_,rfl⟩
   have HNF:=Aside0.mk hnf
   obtain ⟨rf,hrl,hrC,hrK⟩:=HG0.out
   have HRF:=Aside0.mk hrl
   have HRFC:=Aside0.mk hrC
   have HRFK:=Aside0.mk hrK
   have HMO:=Aside0.mk (show ∀ s∈([[]]:List (List Int)),I64s (N+12) s from fun s hs=>by
    have h1:=HNN.out
    simp only [List.mem_cons,List.not_mem_nil,or_false,or_self] at hs
    subst hs
    exact ⟨Nat.zero_le _,fun x hx=>(by cases hx)⟩)
   clear hrl hrC hrK hnf
   have z:=HO.out.box_cell 8 rfl 0 rfl
   go_wp2_with (first
    | ((with_reducible refine gate_dst (N:=101) rfl ?_);(refine ev_lit (Kd.raw 1) 26 (N:=101) (xs:=[]) (inner:=[]) HO.out rfl rfl ?hr ?hp (by decide) ?_;(case hr=>first|(go_simp;done)|(go_simp;rfl));(case hp=>exact Reps.none _ _);intro A_ c_ W_ hO hb_;clear HO hb_;have HO:=Aside0.mk hO;clear hO;clear z;have z:=HO.out.box_cell 8 rfl 0 rfl))
    | ((with_reducible refine gate_builtin (b:=.append) (xs:=#[.tmp 101,.tmp 103]) rfl ?_);at_builtin;(refine ev_rowsm 10 HO.out rfl rfl (.tmp 101) (.tmp 103) 25 (.slice none 0 0) 24 rfl Try.underlying25 hinf26 rfl (Nat.succ_pos 0) (by decide) rf A0' f0.length c0' rf f0.length rfl HRF.out HRF.out rfl rfl (HRFC.out _ (ex3 HO.out)) (fun _ _ h=>h) ?aL ?_;(case aL=>have:=HBR0.out;have:=HN.out;simp;omega);intro A_ c_ W_ hO;clear HO;have HO:=Aside0.mk hO;clear hO;clear z))
    | ((with_reducible refine gate_dst (N:=105) rfl ?_);(refine ev_litB (N:=105) (n:=1) (t:=26) (cs:=#[.slice none 0 0]) HO.out rfl rfl zhr ?_;intro g105 W_ hO hb_;clear HO hb_;have HO:=Aside0.mk hO;clear hO))
    | ((with_reducible refine gate_builtin (b:=.append) (xs:=#[.tmp 104,.tmp 105]) rfl ?_);at_builtin;(refine ev_rowsm 10 HO.out rfl rfl (.tmp 104) (.tmp 105) 25 (.slice none 0 0) 24 rfl Try.underlying25 hinf26 rfl (Nat.succ_pos 0) (by decide) [[Value.slice none 0 0]] (some ⟨g105,0,none⟩) 1 1 (rf++[[Value.slice none 0 0]]) nf.length rfl za79 rfl rfl rfl (box_raw (vs:=[Value.slice none 0 0]) (HO.out.box_at 11 rfl).1 za80 (show (1:Nat)≤1000 by decide) 1 rfl) (fun _ _ h=>h) ?aL ?_;(case aL=>have:=HBR0.out;have:=HN.out;have:=HRF.out;omega);intro A106 c106 W_ hO;clear HO;have HO:=Aside0.mk hO;clear hO))
    | ((with_reducible refine gate_store (t:=25) (p:=107) rfl ?_);(refine ev_store (cs':=#[.slice A106 nf.length c106,.slice A1' f1.length c1',.slice A2' f2.length c2',.slice A3' f3.length c3',.slice A4' f4.length c4']) (.slice A106 nf.length c106) 8 HO.out rfl rfl rfl rfl 0 rfl rfl sz25 za77 (show (0:Nat)+1≤5 by decide) rfl ?_;intro W_ hO;clear HO;have HO:=Aside0.mk hO;clear hO)))
   go_meet
   case rel=>exact ⟨Lr,rows,some adr,c5,⟨nf,f1,f2,f3,f4⟩,A106,c106,A1',c1',A2',c2',A3',c3',A4',c4',.row (Kd.raw 1) 26 w.heap.size (.slice A106 nf.length c106) (rf++[[Value.slice none 0 0]]),.box g105 26 #[.slice none 0 0],.emp,HAT,HBLU,⟨⟨(by rw [← HNF.out];have:=HBR0.out;simp;omega),HBU.out.b1,HBU.out.b2,HBU.out.b3,HBU.out.b4,(by have h_:=mem_more HBU.out.s0 HMO.out;rw [HNF.out] at h_;exact h_),HBU.out.s1,HBU.out.s2⟩⟩,⟨(HO.out.add (r:=.emp) (Below.refl _ _) trivial)⟩,⟨HRX.out.imp sub2⟩,⟨A106,c106,A1',c1',A2',c2',A3',c3',A4',c4',rfl,(HO.out.row_sl 10 rfl).2.1,(by have h_:=FldX.app (E:=EX w [X1,X2,.box g46 3 #[.int .i64 n,.int .i64 (n+1)],.row (Kd.raw 1) 26 w.heap.size (.slice A106 nf.length c106) (rf++[[Value.slice none 0 0]]),.box g105 26 #[.slice none 0 0],.emp]) (A:=A106) HRF.out (show ([[Value.slice none 0 0]]:List (List Value)).length=([[]]:List (List Int)).length from rfl) (fun W hE=>by rw [HNF.out];exact hE.row (e:=26) (B:=w.heap.size) (c:=c106) (by simp)) (fun W hE=>HRFK.out W (sub2 W hE)) (FldK.cons (fun W hE=>nil_K W) (FldK.nil _));rw [HNF.out] at h_;exact h_),HC1.out,HG1.out.imp sub2,HC2.out,HG2.out.imp sub2,HC3.out,fun W hE=>HG3.out W (sub2 W hE),HC4.out,fun W hE=>HG4.out W (sub2 W hE)⟩⟩
  ·
   as_aux_lemma =>
   obtain ⟨nf,hnf⟩:∃ nf,f3++[n,n]=nf:=⟨_,rfl⟩
   have HNF:=Aside0.mk hnf
   clear hnf
   have z:=HO.out.box_cell 8 rfl 3 rfl
   go_wp2_with (first
    | ((with_reducible refine gate_dst (N:=110) rfl ?_);(refine ev_lit (Kd.int .i64) 3 (N:=110) (xs:=[]) (inner:=[]) HO.out rfl rfl ?hr ?hp (by decide) ?_;(case hr=>first|(go_simp;done)|(go_simp;rfl));(case hp=>exact Reps.none _ _);intro A_ c_ W_ hO hb_;clear HO hb_;have HO:=Aside0.mk hO;clear hO;clear z;have z:=HO.out.box_cell 8 rfl 3 rfl))
    | ((with_reducible refine gate_builtin (b:=.append) (xs:=#[.tmp 110,.tmp 112]) rfl ?_);at_builtin;(refine ev_rowsm 10 HO.out rfl rfl (.tmp 110) (.tmp 112) 26 (.int .i64 0) 8 rfl Try.underlying26 info3 rfl (by decide) (by decide) f3 A3' f3.length c3' f3 f3.length rfl rfl rfl rfl rfl (HG3.out _ (ex3 HO.out)) (fun _ _ h=>h) ?aL ?_;(case aL=>have:=HBR3.out;have:=HN.out;simp;omega);intro A_ c_ W_ hO;clear HO;have HO:=Aside0.mk hO;clear hO;clear z))
    | ((with_reducible refine gate_dst (N:=116) rfl ?_);(refine ev_litB (N:=116) (n:=2) (t:=3) (cs:=#[.int .i64 n,.int .i64 n]) HO.out rfl rfl zhr ?_;intro g116 W_ hO hb_;clear HO hb_;have HO:=Aside0.mk hO;clear hO))
    | ((with_reducible refine gate_builtin (b:=.append) (xs:=#[.tmp 113,.tmp 116]) rfl ?_);at_builtin;(refine ev_rowsm 10 HO.out rfl rfl (.tmp 113) (.tmp 116) 26 (.int .i64 0) 8 rfl Try.underlying26 info3 rfl (by decide) (by decide) [n,n] (some ⟨g116,0,none⟩) 2 2 nf nf.length HNF.out.symm rfl rfl rfl rfl (box_int (ns:=[n,n]) (HO.out.box_at 11 rfl).1 (show (2:Nat)≤1000 by decide) 2 rfl) (fun _ _ h=>h) ?aL ?_;(case aL=>have:=HBR3.out;have:=HN.out;omega);intro A117 c117 W_ hO;clear HO;have HO:=Aside0.mk hO;clear hO))
    | ((with_reducible refine gate_store (t:=26) (p:=118) rfl ?_);(refine ev_store (cs':=#[.slice A0' f0.length c0',.slice A1' f1.length c1',.slice A2' f2.length c2',.slice A117 nf.length c117,.slice A4' f4.length c4']) (.slice A117 nf.length c117) 8 HO.out rfl rfl rfl rfl 3 rfl rfl sz26 za77 (show (3:Nat)+1≤5 by decide) rfl ?_;intro W_ hO;clear HO;have HO:=Aside0.mk hO;clear hO)))
   go_meet
   case rel=>exact ⟨Lr,rows,some adr,c5,⟨f0,f1,f2,nf,f4⟩,A0',c0',A1',c1',A2',c2',A117,c117,A4',c4',.row (Kd.int .i64) 3 w.heap.size (.slice A117 nf.length c117) nf,.box g116 3 #[.int .i64 n,.int .i64 n],.emp,HAT,HBLU,⟨⟨HBU.out.b0,HBU.out.b1,HBU.out.b2,za74,HBU.out.b4,HBU.out.s0,HBU.out.s1,HBU.out.s2⟩⟩,⟨(HO.out.add (r:=.emp) (Below.refl _ _) trivial)⟩,⟨HRX.out.imp sub2⟩,⟨A0',c0',A1',c1',A2',c2',A117,c117,A4',c4',rfl,HC0.out,HG0.out.imp sub2,HC1.out,HG1.out.imp sub2,HC2.out,HG2.out.imp sub2,(HO.out.row_sl 10 rfl).2.1,fun W hE=>hE.row (e:=3) (B:=w.heap.size) (c:=c117) (by simp),HC4.out,fun W hE=>HG4.out W (sub2 W hE)⟩⟩
 clear HO
 obtain ⟨L',rows',A6,c6,r',B0,d0,B1,d1,B2,d2,B3,d3,B4,d4,Y1,Y2,Y3,HA2,HB2,HR2,HO,HRX2,HRR⟩:=hcut
 obtain ⟨ad6,h6,-⟩:=(HO.out.row_sl 4 rfl).2.2.2.2 (by rw [HRX2.out.1];have:=HA2.out;omega)
 subst h6
 obtain ⟨g6,rfl⟩:=Kd.R_head (HO.out.row_R 4 rfl)
 have hCg:=(HO.out.row_sl 4 rfl).2.2
 rw [← (HO.out.row_sl 4 rfl).1] at hCg
 obtain ⟨ad7,cc,e7,hcl,-,hcc⟩:=Kd.C_get hCg [] (at_:Int) (by omega) (by have:=HA2.out;omega)
 obtain rfl:=(Option.some.inj e7).symm
 rw [Int.toNat_natCast] at hcc
 have HCC:=Aside0.mk (show ∀ (j:Nat) (u:Value),cc[j]?=some u→(∀ (q:Nat),(⟨g6,0,none⟩:Addr).add q=⟨g6,q,none⟩)∧True from fun j u h=>⟨fun q=>by have:=addr1 g6 q;rwa [Nat.mul_one,Nat.add_zero] at this,trivial⟩)
 clear HCC
 have HCC:=Aside0.mk hcc
 have HCL:=Aside0.mk hcl
 have z5:=HO.out.box_cell 5 rfl 0 rfl
 have z0:=HO.out.box_cell 8 rfl 0 rfl
 have z1:=HO.out.box_cell 8 rfl 1 rfl
 have z2:=HO.out.box_cell 8 rfl 2 rfl
 have z3:=HO.out.box_cell 8 rfl 3 rfl
 have z4:=HO.out.box_cell 8 rfl 4 rfl
 have r2:((at_:Int)<(L'.length:Int))=True:=eq_true (by have:=HA2.out;omega)
 clear hcc hcl e7 hCg
 have hga:∀ q,(⟨g6,0,none⟩:Addr).add q=⟨g6,q,none⟩:=fun q=>by have:=addr1 g6 q;rwa [Nat.mul_one,Nat.add_zero] at this
 have HGA:=Aside0.mk hga
 clear hga
 go_wp2_with (first
  | ((with_reducible refine gate_store (t:=49) (p:=186) rfl ?_);(refine ev_storeE 4 HO.out rfl rfl rfl 49 (.tmp 186) (.tmp 185) rfl at_ (.agg #[.slice B0 r'.f0.length d0,.slice B1 r'.f1.length d1,.slice B2 r'.f2.length d2,.slice B3 r'.f3.length d3,.slice B4 r'.f4.length d4]) [.slice B0 r'.f0.length d0,.slice B1 r'.f1.length d1,.slice B2 r'.f2.length d2,.slice B3 r'.f3.length d3,.slice B4 r'.f4.length d4] cc ?ha rfl rfl sz49 za80 HA2.out HCL.out (fun j u hj=>by rw [← HGA.out];exact HCC.out j u hj) rfl ?_;(case ha=>first|rfl|(go_simp;done)|(simp [HGA.out];done));intro W_ hO;clear HO z0 z1 z2 z3 z4 z5;have HO:=Aside0.mk hO;clear hO;have z5:=HO.out.box_cell 5 rfl 0 rfl))
  | ((with_reducible refine gate_store (t:=24) (p:=4) rfl ?_);(refine ev_store (cs':=#[.slice (some ⟨g6,0,none⟩) L'.length c6]) (.agg #[.slice (some ⟨g6,0,none⟩) L'.length c6]) 3 HO.out rfl rfl rfl rfl 0 rfl rfl sz24 za77 (Nat.le_refl _) rfl ?_;intro W_ hO;clear HO z5;have HO:=Aside0.mk hO;clear hO)))
 refine bodyPost_ret (results_cell_row rfl _ _ g4 24 #[.slice (some ⟨g6,0,none⟩) L'.length c6] (0,0) _ rfl (HO.out.box_at 3 rfl).1 Try.underlying24 rfl sz24) rfl ⟨some ⟨g6,0,none⟩,c6,L'.set at_ r',_,by rw [List.length_set],?hfr,by rw [List.length_set];exact (HO.out.row_sl 4 rfl).2.1,⟨by rw [List.length_set];exact HB2.out.1,fun r hr=>?hbb⟩,HO.out⟩
 case hbb =>
  rcases List.mem_or_eq_of_mem_set hr with hr|rfl
  ·
   exact HB2.out.2 r hr
  ·
   exact HR2.out
 case hfr =>
  intro W hW
  have hE:EX w [X1,X2,.box g46 3 #[.int .i64 n,.int .i64 (n+1)],Y1,Y2,Y3] W:=⟨hW.1,fun X hX=>hW.2 X (by
   simp only [List.mem_cons,List.not_mem_nil,or_false] at hX ⊢
   rcases hX with rfl|rfl|rfl|rfl|rfl|rfl<;>simp)⟩
  have hrow:=hW.row (d:=Kd.raw 5) (e:=49) (B:=w.heap.size) (A:=some ⟨g6,0,none⟩) (n:=L'.length) (c:=c6) (xs:=rows'.set at_ [.slice B0 r'.f0.length d0,.slice B1 r'.f1.length d1,.slice B2 r'.f2.length d2,.slice B3 r'.f3.length d3,.slice B4 r'.f4.length d4]) (by simp)
  have hC:=(HRX2.out.set at_ HRR.out).C hE hrow
  rw [List.length_set]
  exact hC
end Go.Proofs.Ytlgkeaildncojaa.Q
end
section
namespace Go
section
variable {P:Program} {ops:Array Oper} {Q:Exit→Act→World→Prop} {md:Region.Mode} {S:World→Prop} {fin:Nat}
def wpBut (P:Program) (md:Region.Mode) (ops:Array Oper) (Q:Exit→Act→World→Prop) (S:World→Prop) (fin:Nat):Nat→Array Bool→Act→World→Prop
 | 0,l,a,w=>Region.ready md ops l=[]∧Q .normal a w
 | n+1,l,a,w=>(Region.ready md ops l=[]→Q .normal a w)∧∀ j∈Region.ready md ops l,wpOp P ops Q j (fun a' w'=>(j=fin∨S w')∧wpBut P md ops Q S fin n (l.setIfInBounds j true) a' w') a w
theorem wpAny_of_but:∀ (n:Nat) (l:Array Bool) (a:Act) (w:World),wpBut P md ops Q S fin n l a w→wpAny P md ops Q n l a w
 | 0,_,_,_,h=>h
 | n+1,_,_,_,h=>⟨h.1,fun j hj=>wpOp_mono (fun a' w' h'=>wpAny_of_but n _ a' w' h'.2) (h.2 j hj)⟩
theorem wpBut_swap {i j n:Nat} {oi oj:Oper} {v:Value} {l:Array Bool} {a:Act} {w:World} (hj:ops[j]?=some oj) (hap:oi.apart ops oj=true) (hs:Region.noSelect ops=true) (hi:ops[i]?=some oi)
  (hQ:∀ c a w,Q (.panic c) (a.put oi.dst v) w→Q (.panic c) a w) (hy:YieldsIf P ops S oi v a) (hjf:j≠fin)
  (h:wpOp P ops Q j (fun a' w'=>(j=fin∨S w')∧wpBut P md ops Q S fin n ((l.setIfInBounds i true).setIfInBounds j true) a' w') (a.put oi.dst v) w)
  (go:∀ a' w',YieldsIf P ops S oi v a'→S w'→wpBut P md ops Q S fin n ((l.setIfInBounds j true).setIfInBounds i true) (a'.put oi.dst v) w'→wpBut P md ops Q S fin (n+1) (l.setIfInBounds j true) a' w') :
  wpOp P ops Q j (fun a' w'=>(j=fin∨S w')∧wpBut P md ops Q S fin (n+1) (l.setIfInBounds j true) a' w') a w:=by
 refine wpOp_mono (fun a' w' h3=>?_) (wpOp_putIf hj hap (fun cs b=>Region.noSelect_spec hs i oi cs b hi) (fun cs b=>Region.noSelect_spec hs j oj cs b hj) hQ hy h)
 obtain ⟨hy',hS',h4⟩:=h3
 have hS2:S w':=hS'.resolve_left hjf
 refine ⟨Or.inr hS2,go a' w' hy' hS2 ?_⟩
 by_cases hij:i=j
 ·
  subst hij;exact h4
 ·
  rw [Array.setIfInBounds_comm _ _ (Ne.symm hij)];exact h4
theorem free_set {i j:Nat} {l:Array Bool} (h:Region.free md ops l i=true):Region.free md ops (l.setIfInBounds j true) i=true:=by
 unfold Region.free at h ⊢
 cases ho:ops[i]? with
 | none=>rw [ho] at h;exact h
 | some oi =>
  rw [ho] at h
  simp only [List.all_eq_true,Bool.or_eq_true] at h ⊢
  intro k hk
  rcases h k hk with (h1|h1)|h1
  ·
   exact Or.inl (Or.inl h1)
  ·
   refine Or.inl (Or.inr ?_)
   by_cases hjk:j=k
   ·
    subst hjk
    rcases Nat.lt_or_ge j l.size with h'|h'
    ·
     simp [Array.getD,h']
    ·
     simp [Array.getD,Nat.not_lt.mpr h']
   ·
    rw [getD_set_ne true hjk];exact h1
  ·
   exact Or.inr h1
theorem wpBut_take {i:Nat} {oi:Oper} {v:Value} (hi:ops[i]?=some oi) (hs:Region.noSelect ops=true) (hif:i≠fin) (hfin:(ops[fin]?.all fun of=>of.after.any (fun e=>Region.binds md e&&e.on==i))=true)
  (hQ:∀ c a w,Q (.panic c) (a.put oi.dst v) w→Q (.panic c) a w) :
  ∀ (n:Nat) (l:Array Bool) (a:Act) (w:World),Region.free md ops l i=true→(Region.ready md ops l).contains i=true→YieldsIf P ops S oi v a→S w →
   wpBut P md ops Q S fin n (l.setIfInBounds i true) (a.put oi.dst v) w→wpBut P md ops Q S fin (n+1) l a w
 | n,l,a,w,hf,hr,hy,hS,H=>by
  have hr':i∈Region.ready md ops l:=by simpa using hr
  refine ⟨fun h=>(by rw [h] at hr';cases hr'),fun j hj=>?_⟩
  by_cases hji:j=i
  ·
   subst hji
   exact hy.wpOp hi hS ⟨Or.inr hS,H⟩
  have hj2:=ready_mono hj hji
  obtain ⟨hjun,oj,hoj,hall⟩:=mem_ready.1 hj
  have hnot:∀ e∈oj.after,Region.binds md e=true→e.on≠i:=fun e he hb heq=>by
   have h1:=hall e he hb
   have h0:=(mem_ready.1 hr').1
   rw [heq] at h1
   rcases Nat.lt_or_ge i l.size with h'|h'
   ·
    simp [h'] at h0 h1
    rw [h0] at h1
    cases h1
   ·
    simp [Array.getElem?_eq_none h'] at h1
  have hjf:j≠fin:=fun e=>by
   subst e
   rw [hoj] at hfin
   obtain ⟨e,he,hb⟩:=Array.any_eq_true'.1 hfin
   simp only [Bool.and_eq_true,beq_iff_eq] at hb
   exact hnot e he hb.1 hb.2
  cases n with
  | zero =>
   rw [H.1] at hj2
   cases hj2
  | succ n =>
   refine wpBut_swap hoj (Region.free_spec hi hf j oj hoj hji hjun hnot) hs hi hQ hy hjf (H.2 j hj2) (fun a' w' hy' hS' h4=>?_)
   exact wpBut_take hi hs hif hfin hQ n (l.setIfInBounds j true) a' w' (free_set hf) (by simpa using ready_mono hr' (Ne.symm hji)) hy' hS' h4
def ButReady (P:Program) (md:Region.Mode) (ops:Array Oper) (Q:Exit→Act→World→Prop) (S:World→Prop) (fin n:Nat) (l:Array Bool) (a:Act) (w:World) (rs:List Nat):Prop :=
 ∀ j∈rs,wpOp P ops Q j (fun a' w'=>(j=fin∨S w')∧wpBut P md ops Q S fin n (l.setIfInBounds j true) a' w') a w
theorem ButReady.nil {n:Nat} {l:Array Bool} {a:Act} {w:World}:ButReady P md ops Q S fin n l a w []:=fun _ h=>by cases h
theorem ButReady.cons {n:Nat} {l:Array Bool} {a:Act} {w:World} {i:Nat} {o:Oper} {rs:List Nat} (ho:ops[i]?=some o)
  (h:∀ K':Act→World→Prop,(∀ a w,(i=fin∨S w)∧wpBut P md ops Q S fin n (l.setIfInBounds i true) a w→K' a w)→if Region.wanted o (yielded ops a.tmps)=true then Oper.wp P o a w K' Q else K' (a.put o.dst undef) w)
  (hs:ButReady P md ops Q S fin n l a w rs):ButReady P md ops Q S fin n l a w (i :: rs):=fun j hj=>by
 rcases List.mem_cons.1 hj with rfl|hj
 ·
  exact wpOp_step ho h
 ·
  exact hs j hj
theorem wpBut_ready {rs:List Nat} {n:Nat} {l:Array Bool} {a:Act} {w:World} (hr:Region.ready md ops l=rs) (hne:rs≠[]) (h:ButReady P md ops Q S fin n l a w rs):wpBut P md ops Q S fin (n+1) l a w :=
 ⟨fun h0=>absurd (hr ▸ h0) hne,hr ▸ h⟩
theorem wpBut_done {l:Array Bool} {a:Act} {w:World} (hr:Region.ready md ops l=[]) (h:Q .normal a w):∀ n,wpBut P md ops Q S fin n l a w
 | 0=>⟨hr,h⟩
 | _+1=>⟨fun _=>h,by rw [hr];simp⟩
theorem wp_region_but {id:Nat} {a:Act} {w:World} (S:World→Prop) (fin:Nat) (hm:P.follows .mixedOrders=true) (h:wpBut P .any ops Q S fin ops.size (Array.replicate ops.size false) a w.drew):(Code.region id ops true).wp P Q a w :=
 wp_region_any hm (wpAny_of_but _ _ _ _ h)
end
end Go
end
section
namespace Go.Proofs.Ytlgkeaildncojaa.Q
open Go.RowKit Go.Shelf Go.Proofs.YtlgkeaildncojaaW.PrintWords Go.Proofs.YtlgkeaildncojaaW.PrintLast Go.Proofs.YtlgkeaildncojaaW.PrintMore
set_option linter.unusedVariables false
set_option maxRecDepth 100000 in
theorem lit6_run (a:Act) (o:Oper) (ho:o.op=.buildSlice 26 6 #[(0,.const (.int .i64 (-1))),(1,.const (.int .i64 0)),(2,.const (.int .i64 7)),(3,.const (.int .i64 8)),(4,.const (.int .i64 99)),(5,.const (.int .i64 100))]) (W:World) :
  (execOp a.eval o).run Try.prog W=.ok (.value (.slice (some ⟨W.heap.size,0,none⟩) 6 6)) (W.alloc (.cells #[.int .i64 (-1),.int .i64 0,.int .i64 7,.int .i64 8,.int .i64 99,.int .i64 100] 3 (0,0))):=by
 obtain ⟨dst,op,ty,pos,after,guard⟩:=o
 dsimp only at ho
 subst ho
 go_simp
set_option maxRecDepth 100000 in
theorem lit1_run (a:Act) (o:Oper) {s:Tmp} {x:Int} (ho:o.op=.buildSlice 26 1 #[(0,.tmp s)]) (hv:a.eval (.tmp s)=.int .i64 x) (W:World) :
  (execOp a.eval o).run Try.prog W=.ok (.value (.slice (some ⟨W.heap.size,0,none⟩) 1 1)) (W.alloc (.cells #[.int .i64 x] 3 (0,0))):=by
 obtain ⟨dst,op,ty,pos,after,guard⟩:=o
 dsimp only at ho
 subst ho
 generalize a.eval=ev at hv
 go_simp
set_option maxRecDepth 100000 in
theorem lit0_run (a:Act) (o:Oper) (ho:o.op=.buildSlice 26 0 #[]) (W:World) :
  (execOp a.eval o).run Try.prog W=.ok (.value (.slice (some ⟨W.heap.size,0,none⟩) 0 0)) (W.alloc (.cells #[] 3 (0,0))):=by
 obtain ⟨dst,op,ty,pos,after,guard⟩:=o
 dsimp only at ho
 subst ho
 go_simp
set_option maxRecDepth 100000 in
theorem lit1s_run (a:Act) (o:Oper) {s:Tmp} {A:Option Addr} {n c:Nat} (ho:o.op=.buildSlice 25 1 #[(0,.tmp s)]) (hv:a.eval (.tmp s)=.slice A n c) (W:World) :
  (execOp a.eval o).run Try.prog W=.ok (.value (.slice (some ⟨W.heap.size,0,none⟩) 1 1)) (W.alloc (.cells #[.slice A n c] 26 (0,0))):=by
 obtain ⟨dst,op,ty,pos,after,guard⟩:=o
 dsimp only at ho
 subst ho
 generalize a.eval=ev at hv
 go_simp
end Go.Proofs.Ytlgkeaildncojaa.Q
end
section
namespace Go.Proofs.Ytlgkeaildncojaa.Q
open Go.RowKit Go.Shelf Go.Proofs.YtlgkeaildncojaaW.PrintWords Go.Proofs.YtlgkeaildncojaaW.PrintLast Go.Proofs.YtlgkeaildncojaaW.PrintMore
set_option linter.unusedSimpArgs false
set_option linter.unusedVariables false
attribute [local go_sem] Oper.semAt_some
set_option maxRecDepth 100000 in
set_option maxHeartbeats 16000000 in
theorem odd_calls_b (A:Option Addr) (c:Nat) (l:List S49) (q0 q1 q2:Int) (N:Nat) (w wq:World) (R0:Res) (hO0:Own w wq [R0]) (hr:k49.C w A l.length l) (hc:l.length≤c) (hb:BdL N l) (hN:N≤1000) (hsel:q0 % 12=7) :
  Calls Try.prog 13 #[.agg #[.slice A l.length c],.agg #[.int .i64 q0,.int .i64 q1,.int .i64 q2]] wq fun e w'=>∃ A' c' l' XS,e=.returned (.agg #[.slice A' l'.length c'])∧(∀ W,EX w XS W→k49.C W A' l'.length l')∧l'.length≤c'∧BdL (N+12) l'∧Own w w' (R0 :: XS):=by
 obtain ⟨rows0,hrl0,hrC0,hrK0⟩:=raw_of_C hr
 have HRL0:=Aside0.mk hrl0
 have HRC0:=Aside0.mk hrC0
 have HRK0:=Aside0.mk hrK0
 have HB:=Aside0.mk hb
 have HN:=Aside0.mk hN
 have hll:(l.length:Int)≤1000:=by have:=hb.1;omega
 obtain ⟨n,hn⟩:∃ n,q1 % 6=n:=⟨_,rfl⟩
 have HNN:=Aside0.mk (show 0≤n∧n≤5 by omega)
 have HM6:=Aside0.mk (show abugidaref01_Mod.f q1 6=some n by rw [mod_some q1 6 (by decide) (by decide),hn])
 have HSEL:=Aside0.mk hsel
 have HO:=Aside0.mk hO0
 clear hr hc hb hN hrl0 hrC0 hrK0 hn hsel
 go_enter Try.func13,Try.ntmps13
 go_upto_region 3 with (first
  | ((with_reducible refine gate_dst (N:=2) rfl ?_);(refine ev_box (N:=2) (cs:=#[.slice A l.length c]) (t:=24) HO.out rfl rfl zhr ?_;intro g2 W_ hO hb_;clear HO hb_;have HO:=Aside0.mk hO;clear hO))
  | ((with_reducible refine gate_dst (N:=3) rfl ?_);(refine ev_box (N:=3) (cs:=#[.int .i64 q0,.int .i64 q1,.int .i64 q2]) (t:=27) HO.out rfl rfl zhr ?_;intro g3 W_ hO hb_;clear HO hb_;have HO:=Aside0.mk hO;clear hO))
  | ((with_reducible refine gate_dst (N:=4) rfl ?_);(refine ev_box (N:=4) (cs:=#[.slice none 0 0]) (t:=24) HO.out rfl rfl zhr ?_;intro g4 W_ hO hb_;clear HO hb_;have HO:=Aside0.mk hO;clear hO;have x2:=HO.out.box_cell 1 rfl 0 rfl))
  | ((with_reducible refine gate_dst (N:=11) rfl ?_);(refine ev_lit (Kd.raw 5) 49 (N:=11) (xs:=[]) (inner:=[]) HO.out rfl rfl ?hr ?hp (by decide) ?_;(case hr=>first|(go_simp;done)|(go_simp;rfl));(case hp=>exact Reps.none _ _);intro A_ c_ W_ hO hb_;clear HO hb_;have HO:=Aside0.mk hO;clear hO;clear x2;have x2:=HO.out.box_cell 1 rfl 0 rfl))
  | ((with_reducible refine gate_builtin (b:=.append) (xs:=#[.tmp 11,.tmp 13]) rfl ?_);at_builtin;(refine ev_rowsm 4 HO.out rfl rfl (.tmp 11) (.tmp 13) 22 (.agg #[.slice none 0 0,.slice none 0 0,.slice none 0 0,.slice none 0 0,.slice none 0 0]) 120 rfl Try.underlying22 info49 rfl (Nat.succ_pos 4) (by decide) rows0 A l.length c rows0 l.length rfl HRL0.out HRL0.out rfl rfl (Kd.C_below HRC0.out HO.out.below) (fun _ _ h=>h) ?aL ?_;(case aL=>have:=HB.out.1;have:=HN.out;simp;omega);intro A14 c14 W_ hO;clear HO;have HO:=Aside0.mk hO;clear hO;clear x2))
  | ((with_reducible refine gate_dst (N:=5) rfl ?_);(refine ev_box (N:=5) (cs:=#[.slice none 0 0]) (t:=24) HO.out rfl rfl zhr ?_;intro g5 W_ hO hb_;clear HO hb_;have HO:=Aside0.mk hO;clear hO))
  | ((with_reducible refine gate_store (t:=24) (p:=5) rfl ?_);(refine ev_store (cs':=#[.slice A14 l.length c14]) (.agg #[.slice A14 l.length c14]) 5 HO.out rfl rfl rfl rfl 0 rfl rfl sz24 za77 (show (0:Nat)+1≤1 by decide) rfl ?_;intro W_ hO;clear HO;have HO:=Aside0.mk hO;clear hO;have x3:=HO.out.box_cell 2 rfl 1 rfl))
  | (go_at_call 15;(refine (abugidaref01_Mod.calls q1 6 n _ HM6.out).mono ?_;rintro e_ W_ ⟨rfl,hd⟩;have nO:=Aside0.mk (HO.out.grow hd.below);clear HO hd;have HO:=nO;clear nO;clear x3)))
 have x5:=HO.out.box_cell 5 rfl 0 rfl
 go_upto_if 22 with (fail)
 clear x5
 go_cut [] (fun wc=>∃ (Lr:List S49) (rows:List (List Value)) (A5:Option Addr) (c5:Nat) (X1 X2:Res),Aside0 (0<Lr.length)∧Aside0 (BdL (N+1) Lr)∧Aside0 (Own w wc [R0,.box g2 24 #[.slice A l.length c],.box g3 27 #[.int .i64 q0,.int .i64 q1,.int .i64 q2],.box g4 24 #[.slice none 0 0],.row (Kd.raw 5) 49 w.heap.size (.slice A5 Lr.length c5) rows,.box g5 24 #[.slice A5 Lr.length c5],X1,X2])∧Aside0 (RulesX (EX w [X1,X2]) Lr rows))
 case first =>
  by_cases hl0:l.length=0
  case neg =>
   have e0:((l.length:Int)==0)=false:=beq_eq_false_iff_ne.mpr (by omega)
   have n0:((l.length:Int)=0)=False:=eq_false (by omega)
   have HL0:=Aside0.mk (show 0<l.length by omega)
   clear hl0
   go_wp2
   go_meet
   case rel=>exact ⟨l,rows0,A14,c14,.emp,.emp,HL0,⟨HB.out.le (Nat.le_succ N)⟩,⟨(HO.out.add (r:=.emp) (Below.refl _ _) trivial).add (r:=.emp) (Below.refl _ _) trivial⟩,⟨HRL0.out,fun j r cs hj hcs=>RuleX.old (fun W hW=>hW.1) (HRK0.out j r cs hj hcs)⟩⟩
  case pos =>
   have e0:((l.length:Int)==0)=true:=beq_iff_eq.mpr (by omega)
   have n0:((l.length:Int)=0)=True:=eq_true (by omega)
   have hr0:rows0=[]:=List.eq_nil_of_length_eq_zero (by rw [HRL0.out];exact hl0)
   subst hr0
   have HL0:=Aside0.mk hl0
   clear hl0
   have x5:=HO.out.box_cell 5 rfl 0 rfl
   go_wp2_with (first
    | ((with_reducible refine gate_dst (N:=26) rfl ?_);(refine ev_litB (N:=26) (n:=1) (t:=3) (cs:=#[.int .i64 n]) HO.out rfl rfl zhr ?_;intro g26 W_ hO hb_;clear HO hb_;have HO:=Aside0.mk hO;clear hO;clear x5;have x5:=HO.out.box_cell 5 rfl 0 rfl))
    | ((with_reducible refine gate_dst (N:=27) rfl ?_);(refine ev_litB (N:=27) (n:=1) (t:=26) (cs:=#[.slice (some ⟨g26,0,none⟩) 1 1]) HO.out rfl rfl zhr ?_;intro g27 W_ hO hb_;clear HO hb_;have HO:=Aside0.mk hO;clear hO;clear x5;have x5:=HO.out.box_cell 5 rfl 0 rfl))
    | ((with_reducible refine gate_builtin (b:=.append) (xs:=#[.tmp 24,.tmp 29]) rfl ?_);at_builtin;(refine ev_append 4 HO.out rfl rfl (.tmp 24) (.tmp 29) 22 (.agg #[.slice none 0 0,.slice none 0 0,.slice none 0 0,.slice none 0 0,.slice none 0 0]) 120 rfl Try.underlying22 info49 rfl (Nat.succ_pos 4) (by decide) ([.slice none 0 0,.slice (some ⟨g27,0,none⟩) 1 1,.slice none 0 0,.slice none 0 0,.slice none 0 0]:List Value) [.slice none 0 0,.slice (some ⟨g27,0,none⟩) 1 1,.slice none 0 0,.slice none 0 0,.slice none 0 0] rfl rfl ⟨rfl,rfl,by simp [Value.oneCell']⟩ (by decide) ?_;intro A30 c30 W_ hO;clear HO x5;have HO:=Aside0.mk hO;clear hO))
    | ((with_reducible refine gate_store (t:=22) (p:=31) rfl ?_);(refine ev_store (cs':=#[.slice A30 1 c30]) (.slice A30 1 c30) 5 HO.out rfl rfl rfl rfl 0 rfl rfl sz22 za77 (show (0:Nat)+1≤1 by decide) rfl ?_;intro W_ hO;clear HO;have HO:=Aside0.mk hO;clear hO)))
   go_meet
   case rel =>
    refine ⟨[⟨[],[[n]],[],[],[]⟩],[[.slice none 0 0,.slice (some ⟨g27,0,none⟩) 1 1,.slice none 0 0,.slice none 0 0,.slice none 0 0]],A30,c30,_,_,⟨Nat.one_pos⟩,⟨⟨Nat.le_add_left _ _,fun r hr=>?_⟩⟩,HO,⟨rfl,fun j r cs hj hcs=>?_⟩⟩
    ·
     rw [List.mem_singleton] at hr
     subst hr
     exact ⟨Nat.zero_le _,Nat.le_add_left _ _,Nat.zero_le _,Nat.zero_le _,Nat.zero_le _,fun s h=>(by cases h),fun s h=>(by
      rw [List.mem_singleton] at h
      subst h
      exact ⟨Nat.le_add_left _ _,fun x hx=>by rw [List.mem_singleton] at hx;subst hx;have:=HNN.out;omega⟩),fun s h=>(by cases h)⟩
    ·
     cases j with
     | succ j=>simp at hj
     | zero =>
      simp at hj hcs
      subst hj hcs
      refine ⟨none,0,some ⟨g27,0,none⟩,1,none,0,none,0,none,0,rfl,Nat.le_refl _,.nil _ _,Nat.le_refl _,⟨[[.slice (some ⟨g26,0,none⟩) 1 1]],rfl,fun W hE=>?_,fun W hE j x cc hx hcc=>?_⟩,Nat.le_refl _,.nil _ _,Nat.le_refl _,fun W _=>Kd.C_nil _ _,Nat.le_refl _,fun W _=>Kd.C_nil _ _⟩
      ·
       exact box_raw (vs:=[.slice (some ⟨g26,0,none⟩) 1 1]) (hE.box (t:=26) (cs:=#[.slice (some ⟨g26,0,none⟩) 1 1]) (by simp)) za80 (show (1:Nat)≤1000 by decide) 1 rfl
      ·
       cases j with
       | succ j=>simp at hx
       | zero =>
        simp at hx hcc
        subst hx hcc
        exact set_K (ns:=[n]) (hE.box (t:=3) (cs:=#[.int .i64 n]) (by simp)) (show (1:Nat)≤1000 by decide) 1 rfl
 clear HO
 obtain ⟨Lr,rows,A5,c5,X1,X2,HL1,HBL,HO,HRX⟩:=hcut
 have hlr:=HBL.out.1
 have hN1:=HN.out
 have h0r:=HL1.out
 obtain ⟨at_,hat⟩:∃ k:Nat,q2 % (Lr.length:Int)=(k:Int):=⟨(q2 % (Lr.length:Int)).toNat,by have:=Int.emod_nonneg q2 (show (Lr.length:Int)≠0 by omega);omega⟩
 have hat2:at_<Lr.length:=by have:=Int.emod_lt_of_pos q2 (show 0<(Lr.length:Int) by omega);omega
 have HMA:=Aside0.mk (show abugidaref01_Mod.f q2 (Lr.length:Int)=some (at_:Int) by rw [mod_some q2 _ (by omega) (by omega),hat])
 obtain ⟨sw,hsw⟩:∃ s,q0 % 12=s:=⟨_,rfl⟩
 have hsw2:0≤sw∧sw<12:=by omega
 have HSL:=Aside0.mk (hsw ▸ HSEL.out)
 clear HSEL
 have HMS:=Aside0.mk (show abugidaref01_Mod.f q0 12=some sw by rw [mod_some q0 12 (by decide) (by decide),hsw])
 have HSW:=Aside0.mk hsw2
 have HAT:=Aside0.mk hat2
 have hllr:(Lr.length:Int)≤1001:=by omega
 obtain ⟨cs,hcs⟩:∃ cs,rows[at_]?=some cs:=⟨_,List.getElem?_eq_getElem (by rw [HRX.out.1];exact hat2)⟩
 have hrx:=HRX.out.2 at_ _ cs (List.getElem?_eq_getElem hat2) hcs
 have hbr:=HBL.out.2 _ (List.getElem_mem hat2)
 generalize Lr[at_]=r at hrx hbr
 obtain ⟨f0,f1,f2,f3,f4⟩:=r
 obtain ⟨A0',c0',A1',c1',A2',c2',A3',c3',A4',c4',rfl,b0,g0,b1,g1,b2,g2_,b3,g3_,b4,g4_⟩:=hrx
 dsimp only at b0 g0 b1 g1 b2 g2_ b3 g3_ b4 g4_
 have HCS:=Aside0.mk hcs
 have HBR:=Aside0.mk hbr
 have HBR0:=Aside0.mk (show f0.length≤N+1 from hbr.b0)
 have HBR1:=Aside0.mk (show f1.length≤N+1 from hbr.b1)
 have HBR2:=Aside0.mk (show f2.length≤N+1 from hbr.b2)
 have HBR3:=Aside0.mk (show f3.length≤N+1 from hbr.b3)
 have HBR4:=Aside0.mk (show f4.length≤N+1 from hbr.b4)
 have HC0:=Aside0.mk b0
 have HC1:=Aside0.mk b1
 have HC2:=Aside0.mk b2
 have HC3:=Aside0.mk b3
 have HC4:=Aside0.mk b4
 have HG0:=Aside0.mk g0
 have HG1:=Aside0.mk g1
 have HG2:=Aside0.mk g2_
 have HG3:=Aside0.mk g3_
 have HG4:=Aside0.mk g4_
 have x3:=HO.out.box_cell 2 rfl 2 rfl
 have x5:=HO.out.box_cell 5 rfl 0 rfl
 clear hat hsw hlr hN1 h0r hcs hbr b0 g0 b1 g1 b2 g2_ b3 g3_ b4 g4_ hsw2
 go_upto_region 6 with (first
  | (go_at_call 15;(refine (abugidaref01_Mod.calls q2 (Lr.length:Int) (at_:Int) _ HMA.out).mono ?_;rintro e_ W_ ⟨rfl,hd⟩;have nO:=Aside0.mk (HO.out.grow hd.below);clear HO hd;have HO:=nO;clear nO)))
 clear x3 x5
 have x5:=HO.out.box_cell 5 rfl 0 rfl
 obtain ⟨adr,hA,x0,x1,x2,x3,x4⟩:=at_raw5 (HO.out.row_sl 4 rfl).2.2 at_ HCS.out
 subst hA
 have r0:(0≤(at_:Int))=True:=eq_true (by omega)
 have r1:((at_:Int)<(Lr.length:Int))=True:=eq_true (by omega)
 have hwn:IntKind.i64.wrap (n+1)=n+1:=IntWalk.i64_in _ za84
 clear hat2
 go_upto_block 0 with (first
  | ((with_reducible refine gate_dst (N:=8) rfl ?_);(refine ev_box (N:=8) (cs:=#[.slice none 0 0,.slice none 0 0,.slice none 0 0,.slice none 0 0,.slice none 0 0]) (t:=49) HO.out rfl rfl zhr ?_;intro g8 W_ hO hb_;clear HO hb_;have HO:=Aside0.mk hO;clear hO))
  | ((with_reducible refine gate_store (t:=49) (p:=8) rfl ?_);(refine ev_store (cs':=#[.slice A0' f0.length c0',.slice A1' f1.length c1',.slice A2' f2.length c2',.slice A3' f3.length c3',.slice A4' f4.length c4']) (.agg #[.slice A0' f0.length c0',.slice A1' f1.length c1',.slice A2' f2.length c2',.slice A3' f3.length c3',.slice A4' f4.length c4']) 8 HO.out rfl rfl rfl rfl 0 rfl rfl sz49 za77 (Nat.le_refl _) rfl ?_;intro W_ hO;clear HO x0 x1 x2 x3 x4 x5;have HO:=Aside0.mk hO;clear hO))
  | ((with_reducible refine gate_dst (N:=46) rfl ?_);(refine ev_litB (N:=46) (n:=2) (t:=3) (cs:=#[.int .i64 n,.int .i64 (n+1)]) HO.out rfl rfl zhr ?_;intro g46 W_ hO hb_;clear HO hb_;have HO:=Aside0.mk hO;clear hO;have x30:=HO.out.box_cell 2 rfl 0 rfl))
  | (go_at_call 15;(refine (abugidaref01_Mod.calls q0 12 sw _ HMS.out).mono ?_;rintro e_ W_ ⟨rfl,hd⟩;have nO:=Aside0.mk (HO.out.grow hd.below);clear HO hd;have HO:=nO;clear nO x30)))
 go_cut [] (fun wc=>∃ (L':List S49) (rows':List (List Value)) (A6:Option Addr) (c6:Nat) (r':S49) (B0:Option Addr) (d0:Nat) (B1:Option Addr) (d1:Nat) (B2:Option Addr) (d2:Nat) (B3:Option Addr) (d3:Nat) (B4:Option Addr) (d4:Nat) (Y1 Y2 Y3:Res),Aside0 (at_<L'.length)∧Aside0 (BdL (N+12) L')∧Aside0 (Bd (N+12) r')∧Aside0 (Own w wc [R0,.box g2 24 #[.slice A l.length c],.box g3 27 #[.int .i64 q0,.int .i64 q1,.int .i64 q2],.box g4 24 #[.slice none 0 0],.row (Kd.raw 5) 49 w.heap.size (.slice A6 L'.length c6) rows',.box g5 24 #[.slice A6 L'.length c6],X1,X2,.box g8 49 #[.slice B0 r'.f0.length d0,.slice B1 r'.f1.length d1,.slice B2 r'.f2.length d2,.slice B3 r'.f3.length d3,.slice B4 r'.f4.length d4],.box g46 3 #[.int .i64 n,.int .i64 (n+1)],Y1,Y2,Y3])∧Aside0 (RulesX (EX w [X1,X2,.box g46 3 #[.int .i64 n,.int .i64 (n+1)],Y1,Y2,Y3]) L' rows')∧Aside0 (RuleX (EX w [X1,X2,.box g46 3 #[.int .i64 n,.int .i64 (n+1)],Y1,Y2,Y3]) r' [.slice B0 r'.f0.length d0,.slice B1 r'.f1.length d1,.slice B2 r'.f2.length d2,.slice B3 r'.f3.length d3,.slice B4 r'.f4.length d4]))
 case first =>
  have HBU:=Aside0.mk (HBR.out.le (show N+1≤N+12 by omega))
  have HBLU:=Aside0.mk (HBL.out.le (show N+1≤N+12 by omega))
  rcases HSL.out with rfl
  ·
   as_aux_lemma =>
   obtain ⟨cv,hcv⟩:∃ cv,(#[.int .i64 (-1),.int .i64 0,.int .i64 7,.int .i64 8,.int .i64 99,.int .i64 100]:Array Value)[n.toNat]?=some (.int .i64 cv):=by
    have h1:=HNN.out
    rcases (show n=0∨n=1∨n=2∨n=3∨n=4∨n=5 by omega) with rfl|rfl|rfl|rfl|rfl|rfl<;>exact ⟨_,rfl⟩
   have HCO:=Aside0.mk hcv
   obtain ⟨nf,hnf⟩:∃ nf,f3++[cv]=nf:=⟨_,rfl⟩
   have HNF:=Aside0.mk hnf
   have t1:(n<6)=True:=eq_true za84
   have t0:(0≤n)=True:=eq_true HNN.out.1
   clear hcv hnf
   go_upto_region 24 with (fail)
   have nO:=Aside0.mk HO.out.drew
   clear HO
   have HO:=nO
   clear nO
   have z:=HO.out.box_cell 8 rfl 3 rfl
   refine wp_region_but (fun w'=>w'.cell? ⟨g8,3,none⟩=some (.slice A3' f3.length c3')) 11 (by kernel_rfl) ?_
   refine wpBut_take (i:=1) (v:=?_) rfl (by kernel_rfl) (by decide) (by kernel_rfl) (fun _ _ _ h=>h) _ _ _ _ (by kernel_rfl) (by kernel_rfl) (Or.inl ⟨by rfl,?_⟩) z ?_
   rotate_left
   ·
    (intro w hS;go_simp)<;>with_reducible rfl
   go_simp
   refine wpBut_take (i:=2) (v:=?_) rfl (by kernel_rfl) (by decide) (by kernel_rfl) (fun _ _ _ h=>h) _ _ _ _ (by kernel_rfl) (by kernel_rfl) (Or.inl ⟨by rfl,?_⟩) z ?_
   rotate_left
   ·
    (intro w hS;go_simp)<;>with_reducible rfl
   go_simp
   refine wpBut_take (i:=5) (v:=?_) rfl (by kernel_rfl) (by decide) (by kernel_rfl) (fun _ _ _ h=>h) _ _ _ _ (by kernel_rfl) (by kernel_rfl) (Or.inl ⟨by rfl,?_⟩) z ?_
   rotate_left
   ·
    (intro w hS;go_simp)<;>with_reducible rfl
   go_simp
   refine wpBut_ready (rs:=[0,4]) (by kernel_rfl) (by simp) ?_
   refine (ButReady.cons rfl (fun K hK=>?_) (ButReady.cons rfl (fun K hK=>?_) ButReady.nil))
   ·
    as_aux_lemma =>
     refine ev_lit0_step (Kd.int .i64) 3 (N:=121) HO.out (by rfl) rfl ?hr ?_
     (case hr=>exact lit0_run _ _ rfl _)
     intro g_ W_ hO
     clear HO;have HO:=Aside0.mk hO;clear hO
     clear z
     have z:=HO.out.box_cell 8 rfl 3 rfl
     try go_simp
     refine hK _ _ ⟨Or.inr z,?_⟩
     clear hK K
     try go_simp
     refine wpBut_ready (rs:=[3,4]) (by kernel_rfl) (by simp) ?_
     refine (ButReady.cons rfl (fun K hK=>?_) (ButReady.cons rfl (fun K hK=>?_) ButReady.nil))
     ·
      as_aux_lemma =>
       refine ev_rows_step 10 HO.out rfl (by rfl) (.tmp 121) (.tmp 123) 26 (.int .i64 0) 8 rfl Try.underlying26 info3 rfl (by decide) (by decide) f3 A3' f3.length c3' f3 f3.length rfl rfl rfl rfl (HG3.out _ (ex3 HO.out)) (fun _ _ h=>h) za75 ?_
       intro A_ c_ W_ hO
       clear HO;have HO:=Aside0.mk hO;clear hO
       clear z
       have z:=HO.out.box_cell 8 rfl 3 rfl
       try go_simp
       refine hK _ _ ⟨Or.inr z,?_⟩
       clear hK K
       try go_simp
       refine wpBut_ready (rs:=[4]) (by kernel_rfl) (by simp) ?_
       refine (ButReady.cons rfl (fun K hK=>?_) ButReady.nil)
       refine ev_litB_step (N:=125) (n:=6) (t:=3) (cs:=#[.int .i64 (-1),.int .i64 0,.int .i64 7,.int .i64 8,.int .i64 99,.int .i64 100]) HO.out (by rfl) rfl ?hr ?_
       (case hr=>exact lit6_run _ _ rfl _)
       intro g125 W_ hO
       clear HO;have HO:=Aside0.mk hO;clear hO
       clear z
       have z:=HO.out.box_cell 8 rfl 3 rfl
       have xc:=HO.out.box_cell 11 rfl n.toNat HCO.out
       try go_simp
       refine hK _ _ ⟨Or.inr z,?_⟩
       clear hK K
       try go_simp
       refine wpBut_take (i:=6) (v:=?_) rfl (by kernel_rfl) (by decide) (by kernel_rfl) (fun _ _ _ h=>h) _ _ _ _ (by kernel_rfl) (by kernel_rfl) (Or.inl ⟨by rfl,?_⟩) z ?_
       rotate_left
       ·
        (intro w hS;go_simp)<;>with_reducible rfl
       go_simp
       refine wpBut_ready (rs:=[7]) (by kernel_rfl) (by simp) ?_
       refine (ButReady.cons rfl (fun K hK=>?_) ButReady.nil)
       go_simp
       try go_simp
       refine hK _ _ ⟨Or.inr z,?_⟩
       clear hK K
       try go_simp
       refine wpBut_ready (rs:=[8]) (by kernel_rfl) (by simp) ?_
       refine (ButReady.cons rfl (fun K hK=>?_) ButReady.nil)
       refine ev_litB_step (N:=129) (n:=1) (t:=3) (cs:=#[.int .i64 cv]) HO.out (by rfl) rfl ?hr ?_
       (case hr=>exact lit1_run _ _ rfl rfl _)
       intro g129 W_ hO
       clear HO;have HO:=Aside0.mk hO;clear hO
       clear z xc
       have z:=HO.out.box_cell 8 rfl 3 rfl
       have xc:=HO.out.box_cell 11 rfl n.toNat HCO.out
       try go_simp
       refine hK _ _ ⟨Or.inr z,?_⟩
       clear hK K
       try go_simp
       refine wpBut_ready (rs:=[9]) (by kernel_rfl) (by simp) ?_
       refine (ButReady.cons rfl (fun K hK=>?_) ButReady.nil)
       refine ev_rows_step 10 HO.out rfl (by rfl) (.tmp 124) (.tmp 129) 26 (.int .i64 0) 8 rfl Try.underlying26 info3 rfl (by decide) (by decide) [cv] (some ⟨g129,0,none⟩) 1 1 nf nf.length HNF.out.symm rfl rfl rfl (box_int (ns:=[cv]) (HO.out.box_at 12 rfl).1 (show (1:Nat)≤1000 by decide) 1 rfl) (fun _ _ h=>h) za78 ?_
       intro A130 c130 W_ hO
       clear HO;have HO:=Aside0.mk hO;clear hO
       clear z xc
       have z:=HO.out.box_cell 8 rfl 3 rfl
       have xc:=HO.out.box_cell 11 rfl n.toNat HCO.out
       try go_simp
       refine hK _ _ ⟨Or.inr z,?_⟩
       clear hK K
       try go_simp
       refine wpBut_take (i:=10) (v:=?_) rfl (by kernel_rfl) (by decide) (by kernel_rfl) (fun _ _ _ h=>h) _ _ _ _ (by kernel_rfl) (by kernel_rfl) (Or.inl ⟨by rfl,?_⟩) z ?_
       rotate_left
       ·
        (intro w hS;go_simp)<;>with_reducible rfl
       go_simp
       refine wpBut_ready (rs:=[11]) (by kernel_rfl) (by simp) ?_
       refine (ButReady.cons rfl (fun K hK=>?_) ButReady.nil)
       have f3_:=HO.out.box_free 8 rfl 3
       go_simp
       have hO:=HO.out.put 8 rfl 3 (.slice A130 nf.length c130) (by simp) rfl
       clear z xc f3_
       clear HO;have HO:=Aside0.mk hO;clear hO
       try go_simp
       refine hK _ _ ⟨Or.inl rfl,?_⟩
       clear hK K
       try go_simp
       refine wpBut_done (by kernel_rfl) ?_ _
       try go_wp2
       go_meet
       case rel=>exact ⟨Lr,rows,some adr,c5,⟨f0,f1,f2,nf,f4⟩,A0',c0',A1',c1',A2',c2',A130,c130,A4',c4',.row (Kd.int .i64) 3 w.heap.size (.slice A130 nf.length c130) nf,.box g125 3 #[.int .i64 (-1),.int .i64 0,.int .i64 7,.int .i64 8,.int .i64 99,.int .i64 100],.box g129 3 #[.int .i64 cv],HAT,HBLU,⟨⟨HBU.out.b0,HBU.out.b1,HBU.out.b2,za74,HBU.out.b4,HBU.out.s0,HBU.out.s1,HBU.out.s2⟩⟩,⟨HO.out⟩,⟨HRX.out.imp sub2⟩,⟨A0',c0',A1',c1',A2',c2',A130,c130,A4',c4',rfl,HC0.out,HG0.out.imp sub2,HC1.out,HG1.out.imp sub2,HC2.out,HG2.out.imp sub2,(HO.out.row_sl 10 rfl).2.1,fun W hE=>hE.row (e:=3) (B:=w.heap.size) (c:=c130) (by simp),HC4.out,fun W hE=>HG4.out W (sub2 W hE)⟩⟩
     ·
      as_aux_lemma =>
       refine ev_litB_step (N:=125) (n:=6) (t:=3) (cs:=#[.int .i64 (-1),.int .i64 0,.int .i64 7,.int .i64 8,.int .i64 99,.int .i64 100]) HO.out (by rfl) rfl ?hr ?_
       (case hr=>exact lit6_run _ _ rfl _)
       intro g125 W_ hO
       clear HO;have HO:=Aside0.mk hO;clear hO
       clear z
       have z:=HO.out.box_cell 8 rfl 3 rfl
       have xc:=HO.out.box_cell 11 rfl n.toNat HCO.out
       try go_simp
       refine hK _ _ ⟨Or.inr z,?_⟩
       clear hK K
       try go_simp
       refine wpBut_take (i:=6) (v:=?_) rfl (by kernel_rfl) (by decide) (by kernel_rfl) (fun _ _ _ h=>h) _ _ _ _ (by kernel_rfl) (by kernel_rfl) (Or.inl ⟨by rfl,?_⟩) z ?_
       rotate_left
       ·
        (intro w hS;go_simp)<;>with_reducible rfl
       go_simp
       refine wpBut_ready (rs:=[3,7]) (by kernel_rfl) (by simp) ?_
       refine (ButReady.cons rfl (fun K hK=>?_) (ButReady.cons rfl (fun K hK=>?_) ButReady.nil))
       ·
        as_aux_lemma =>
         refine ev_rows_step 10 HO.out rfl (by rfl) (.tmp 121) (.tmp 123) 26 (.int .i64 0) 8 rfl Try.underlying26 info3 rfl (by decide) (by decide) f3 A3' f3.length c3' f3 f3.length rfl rfl rfl rfl (HG3.out _ (ex3 HO.out)) (fun _ _ h=>h) za75 ?_
         intro A_ c_ W_ hO
         clear HO;have HO:=Aside0.mk hO;clear hO
         clear z xc
         have z:=HO.out.box_cell 8 rfl 3 rfl
         have xc:=HO.out.box_cell 11 rfl n.toNat HCO.out
         try go_simp
         refine hK _ _ ⟨Or.inr z,?_⟩
         clear hK K
         try go_simp
         refine wpBut_ready (rs:=[7]) (by kernel_rfl) (by simp) ?_
         refine (ButReady.cons rfl (fun K hK=>?_) ButReady.nil)
         go_simp
         try go_simp
         refine hK _ _ ⟨Or.inr z,?_⟩
         clear hK K
         try go_simp
         refine wpBut_ready (rs:=[8]) (by kernel_rfl) (by simp) ?_
         refine (ButReady.cons rfl (fun K hK=>?_) ButReady.nil)
         refine ev_litB_step (N:=129) (n:=1) (t:=3) (cs:=#[.int .i64 cv]) HO.out (by rfl) rfl ?hr ?_
         (case hr=>exact lit1_run _ _ rfl rfl _)
         intro g129 W_ hO
         clear HO;have HO:=Aside0.mk hO;clear hO
         clear z xc
         have z:=HO.out.box_cell 8 rfl 3 rfl
         have xc:=HO.out.box_cell 11 rfl n.toNat HCO.out
         try go_simp
         refine hK _ _ ⟨Or.inr z,?_⟩
         clear hK K
         try go_simp
         refine wpBut_ready (rs:=[9]) (by kernel_rfl) (by simp) ?_
         refine (ButReady.cons rfl (fun K hK=>?_) ButReady.nil)
         refine ev_rows_step 10 HO.out rfl (by rfl) (.tmp 124) (.tmp 129) 26 (.int .i64 0) 8 rfl Try.underlying26 info3 rfl (by decide) (by decide) [cv] (some ⟨g129,0,none⟩) 1 1 nf nf.length HNF.out.symm rfl rfl rfl (box_int (ns:=[cv]) (HO.out.box_at 12 rfl).1 (show (1:Nat)≤1000 by decide) 1 rfl) (fun _ _ h=>h) za78 ?_
         intro A130 c130 W_ hO
         clear HO;have HO:=Aside0.mk hO;clear hO
         clear z xc
         have z:=HO.out.box_cell 8 rfl 3 rfl
         have xc:=HO.out.box_cell 11 rfl n.toNat HCO.out
         try go_simp
         refine hK _ _ ⟨Or.inr z,?_⟩
         clear hK K
         try go_simp
         refine wpBut_take (i:=10) (v:=?_) rfl (by kernel_rfl) (by decide) (by kernel_rfl) (fun _ _ _ h=>h) _ _ _ _ (by kernel_rfl) (by kernel_rfl) (Or.inl ⟨by rfl,?_⟩) z ?_
         rotate_left
         ·
          (intro w hS;go_simp)<;>with_reducible rfl
         go_simp
         refine wpBut_ready (rs:=[11]) (by kernel_rfl) (by simp) ?_
         refine (ButReady.cons rfl (fun K hK=>?_) ButReady.nil)
         have f3_:=HO.out.box_free 8 rfl 3
         go_simp
         have hO:=HO.out.put 8 rfl 3 (.slice A130 nf.length c130) (by simp) rfl
         clear z xc f3_
         clear HO;have HO:=Aside0.mk hO;clear hO
         try go_simp
         refine hK _ _ ⟨Or.inl rfl,?_⟩
         clear hK K
         try go_simp
         refine wpBut_done (by kernel_rfl) ?_ _
         try go_wp2
         go_meet
         case rel=>exact ⟨Lr,rows,some adr,c5,⟨f0,f1,f2,nf,f4⟩,A0',c0',A1',c1',A2',c2',A130,c130,A4',c4',.row (Kd.int .i64) 3 w.heap.size (.slice A130 nf.length c130) nf,.box g125 3 #[.int .i64 (-1),.int .i64 0,.int .i64 7,.int .i64 8,.int .i64 99,.int .i64 100],.box g129 3 #[.int .i64 cv],HAT,HBLU,⟨⟨HBU.out.b0,HBU.out.b1,HBU.out.b2,za74,HBU.out.b4,HBU.out.s0,HBU.out.s1,HBU.out.s2⟩⟩,⟨HO.out⟩,⟨HRX.out.imp sub2⟩,⟨A0',c0',A1',c1',A2',c2',A130,c130,A4',c4',rfl,HC0.out,HG0.out.imp sub2,HC1.out,HG1.out.imp sub2,HC2.out,HG2.out.imp sub2,(HO.out.row_sl 10 rfl).2.1,fun W hE=>hE.row (e:=3) (B:=w.heap.size) (c:=c130) (by simp),HC4.out,fun W hE=>HG4.out W (sub2 W hE)⟩⟩
       ·
        as_aux_lemma =>
         go_simp
         try go_simp
         refine hK _ _ ⟨Or.inr z,?_⟩
         clear hK K
         try go_simp
         refine wpBut_ready (rs:=[3,8]) (by kernel_rfl) (by simp) ?_
         refine (ButReady.cons rfl (fun K hK=>?_) (ButReady.cons rfl (fun K hK=>?_) ButReady.nil))
         ·
          refine ev_rows_step 10 HO.out rfl (by rfl) (.tmp 121) (.tmp 123) 26 (.int .i64 0) 8 rfl Try.underlying26 info3 rfl (by decide) (by decide) f3 A3' f3.length c3' f3 f3.length rfl rfl rfl rfl (HG3.out _ (ex3 HO.out)) (fun _ _ h=>h) za75 ?_
          intro A_ c_ W_ hO
          clear HO;have HO:=Aside0.mk hO;clear hO
          clear z xc
          have z:=HO.out.box_cell 8 rfl 3 rfl
          have xc:=HO.out.box_cell 11 rfl n.toNat HCO.out
          try go_simp
          refine hK _ _ ⟨Or.inr z,?_⟩
          clear hK K
          try go_simp
          refine wpBut_ready (rs:=[8]) (by kernel_rfl) (by simp) ?_
          refine (ButReady.cons rfl (fun K hK=>?_) ButReady.nil)
          refine ev_litB_step (N:=129) (n:=1) (t:=3) (cs:=#[.int .i64 cv]) HO.out (by rfl) rfl ?hr ?_
          (case hr=>exact lit1_run _ _ rfl rfl _)
          intro g129 W_ hO
          clear HO;have HO:=Aside0.mk hO;clear hO
          clear z xc
          have z:=HO.out.box_cell 8 rfl 3 rfl
          have xc:=HO.out.box_cell 11 rfl n.toNat HCO.out
          try go_simp
          refine hK _ _ ⟨Or.inr z,?_⟩
          clear hK K
          try go_simp
          refine wpBut_ready (rs:=[9]) (by kernel_rfl) (by simp) ?_
          refine (ButReady.cons rfl (fun K hK=>?_) ButReady.nil)
          refine ev_rows_step 10 HO.out rfl (by rfl) (.tmp 124) (.tmp 129) 26 (.int .i64 0) 8 rfl Try.underlying26 info3 rfl (by decide) (by decide) [cv] (some ⟨g129,0,none⟩) 1 1 nf nf.length HNF.out.symm rfl rfl rfl (box_int (ns:=[cv]) (HO.out.box_at 12 rfl).1 (show (1:Nat)≤1000 by decide) 1 rfl) (fun _ _ h=>h) za78 ?_
          intro A130 c130 W_ hO
          clear HO;have HO:=Aside0.mk hO;clear hO
          clear z xc
          have z:=HO.out.box_cell 8 rfl 3 rfl
          have xc:=HO.out.box_cell 11 rfl n.toNat HCO.out
          try go_simp
          refine hK _ _ ⟨Or.inr z,?_⟩
          clear hK K
          try go_simp
          refine wpBut_take (i:=10) (v:=?_) rfl (by kernel_rfl) (by decide) (by kernel_rfl) (fun _ _ _ h=>h) _ _ _ _ (by kernel_rfl) (by kernel_rfl) (Or.inl ⟨by rfl,?_⟩) z ?_
          rotate_left
          ·
           (intro w hS;go_simp)<;>with_reducible rfl
          go_simp
          refine wpBut_ready (rs:=[11]) (by kernel_rfl) (by simp) ?_
          refine (ButReady.cons rfl (fun K hK=>?_) ButReady.nil)
          have f3_:=HO.out.box_free 8 rfl 3
          go_simp
          have hO:=HO.out.put 8 rfl 3 (.slice A130 nf.length c130) (by simp) rfl
          clear z xc f3_
          clear HO;have HO:=Aside0.mk hO;clear hO
          try go_simp
          refine hK _ _ ⟨Or.inl rfl,?_⟩
          clear hK K
          try go_simp
          refine wpBut_done (by kernel_rfl) ?_ _
          try go_wp2
          go_meet
          case rel=>exact ⟨Lr,rows,some adr,c5,⟨f0,f1,f2,nf,f4⟩,A0',c0',A1',c1',A2',c2',A130,c130,A4',c4',.row (Kd.int .i64) 3 w.heap.size (.slice A130 nf.length c130) nf,.box g125 3 #[.int .i64 (-1),.int .i64 0,.int .i64 7,.int .i64 8,.int .i64 99,.int .i64 100],.box g129 3 #[.int .i64 cv],HAT,HBLU,⟨⟨HBU.out.b0,HBU.out.b1,HBU.out.b2,za74,HBU.out.b4,HBU.out.s0,HBU.out.s1,HBU.out.s2⟩⟩,⟨HO.out⟩,⟨HRX.out.imp sub2⟩,⟨A0',c0',A1',c1',A2',c2',A130,c130,A4',c4',rfl,HC0.out,HG0.out.imp sub2,HC1.out,HG1.out.imp sub2,HC2.out,HG2.out.imp sub2,(HO.out.row_sl 10 rfl).2.1,fun W hE=>hE.row (e:=3) (B:=w.heap.size) (c:=c130) (by simp),HC4.out,fun W hE=>HG4.out W (sub2 W hE)⟩⟩
         ·
          refine ev_litB_step (N:=129) (n:=1) (t:=3) (cs:=#[.int .i64 cv]) HO.out (by rfl) rfl ?hr ?_
          (case hr=>exact lit1_run _ _ rfl rfl _)
          intro g129 W_ hO
          clear HO;have HO:=Aside0.mk hO;clear hO
          clear z xc
          have z:=HO.out.box_cell 8 rfl 3 rfl
          have xc:=HO.out.box_cell 11 rfl n.toNat HCO.out
          try go_simp
          refine hK _ _ ⟨Or.inr z,?_⟩
          clear hK K
          try go_simp
          refine wpBut_ready (rs:=[3]) (by kernel_rfl) (by simp) ?_
          refine (ButReady.cons rfl (fun K hK=>?_) ButReady.nil)
          refine ev_rows_step 10 HO.out rfl (by rfl) (.tmp 121) (.tmp 123) 26 (.int .i64 0) 8 rfl Try.underlying26 info3 rfl (by decide) (by decide) f3 A3' f3.length c3' f3 f3.length rfl rfl rfl rfl (HG3.out _ (ex3 HO.out)) (fun _ _ h=>h) za75 ?_
          intro A_ c_ W_ hO
          clear HO;have HO:=Aside0.mk hO;clear hO
          clear z xc
          have z:=HO.out.box_cell 8 rfl 3 rfl
          have xc:=HO.out.box_cell 11 rfl n.toNat HCO.out
          try go_simp
          refine hK _ _ ⟨Or.inr z,?_⟩
          clear hK K
          try go_simp
          refine wpBut_ready (rs:=[9]) (by kernel_rfl) (by simp) ?_
          refine (ButReady.cons rfl (fun K hK=>?_) ButReady.nil)
          refine ev_rows_step 10 HO.out rfl (by rfl) (.tmp 124) (.tmp 129) 26 (.int .i64 0) 8 rfl Try.underlying26 info3 rfl (by decide) (by decide) [cv] (some ⟨g129,0,none⟩) 1 1 nf nf.length HNF.out.symm rfl rfl rfl (box_int (ns:=[cv]) (HO.out.box_at 12 rfl).1 (show (1:Nat)≤1000 by decide) 1 rfl) (fun _ _ h=>h) za78 ?_
          intro A130 c130 W_ hO
          clear HO;have HO:=Aside0.mk hO;clear hO
          clear z xc
          have z:=HO.out.box_cell 8 rfl 3 rfl
          have xc:=HO.out.box_cell 11 rfl n.toNat HCO.out
          try go_simp
          refine hK _ _ ⟨Or.inr z,?_⟩
          clear hK K
          try go_simp
          refine wpBut_take (i:=10) (v:=?_) rfl (by kernel_rfl) (by decide) (by kernel_rfl) (fun _ _ _ h=>h) _ _ _ _ (by kernel_rfl) (by kernel_rfl) (Or.inl ⟨by rfl,?_⟩) z ?_
          rotate_left
          ·
           (intro w hS;go_simp)<;>with_reducible rfl
          go_simp
          refine wpBut_ready (rs:=[11]) (by kernel_rfl) (by simp) ?_
          refine (ButReady.cons rfl (fun K hK=>?_) ButReady.nil)
          have f3_:=HO.out.box_free 8 rfl 3
          go_simp
          have hO:=HO.out.put 8 rfl 3 (.slice A130 nf.length c130) (by simp) rfl
          clear z xc f3_
          clear HO;have HO:=Aside0.mk hO;clear hO
          try go_simp
          refine hK _ _ ⟨Or.inl rfl,?_⟩
          clear hK K
          try go_simp
          refine wpBut_done (by kernel_rfl) ?_ _
          try go_wp2
          go_meet
          case rel=>exact ⟨Lr,rows,some adr,c5,⟨f0,f1,f2,nf,f4⟩,A0',c0',A1',c1',A2',c2',A130,c130,A4',c4',.row (Kd.int .i64) 3 w.heap.size (.slice A130 nf.length c130) nf,.box g125 3 #[.int .i64 (-1),.int .i64 0,.int .i64 7,.int .i64 8,.int .i64 99,.int .i64 100],.box g129 3 #[.int .i64 cv],HAT,HBLU,⟨⟨HBU.out.b0,HBU.out.b1,HBU.out.b2,za74,HBU.out.b4,HBU.out.s0,HBU.out.s1,HBU.out.s2⟩⟩,⟨HO.out⟩,⟨HRX.out.imp sub2⟩,⟨A0',c0',A1',c1',A2',c2',A130,c130,A4',c4',rfl,HC0.out,HG0.out.imp sub2,HC1.out,HG1.out.imp sub2,HC2.out,HG2.out.imp sub2,(HO.out.row_sl 10 rfl).2.1,fun W hE=>hE.row (e:=3) (B:=w.heap.size) (c:=c130) (by simp),HC4.out,fun W hE=>HG4.out W (sub2 W hE)⟩⟩
   ·
    as_aux_lemma =>
     refine ev_litB_step (N:=125) (n:=6) (t:=3) (cs:=#[.int .i64 (-1),.int .i64 0,.int .i64 7,.int .i64 8,.int .i64 99,.int .i64 100]) HO.out (by rfl) rfl ?hr ?_
     (case hr=>exact lit6_run _ _ rfl _)
     intro g125 W_ hO
     clear HO;have HO:=Aside0.mk hO;clear hO
     clear z
     have z:=HO.out.box_cell 8 rfl 3 rfl
     have xc:=HO.out.box_cell 10 rfl n.toNat HCO.out
     try go_simp
     refine hK _ _ ⟨Or.inr z,?_⟩
     clear hK K
     try go_simp
     refine wpBut_take (i:=6) (v:=?_) rfl (by kernel_rfl) (by decide) (by kernel_rfl) (fun _ _ _ h=>h) _ _ _ _ (by kernel_rfl) (by kernel_rfl) (Or.inl ⟨by rfl,?_⟩) z ?_
     rotate_left
     ·
      (intro w hS;go_simp)<;>with_reducible rfl
     go_simp
     refine wpBut_ready (rs:=[0,7]) (by kernel_rfl) (by simp) ?_
     refine (ButReady.cons rfl (fun K hK=>?_) (ButReady.cons rfl (fun K hK=>?_) ButReady.nil))
     ·
      as_aux_lemma =>
       refine ev_lit0_step (Kd.int .i64) 3 (N:=121) HO.out (by rfl) rfl ?hr ?_
       (case hr=>exact lit0_run _ _ rfl _)
       intro g_ W_ hO
       clear HO;have HO:=Aside0.mk hO;clear hO
       clear z xc
       have z:=HO.out.box_cell 8 rfl 3 rfl
       have xc:=HO.out.box_cell 10 rfl n.toNat HCO.out
       try go_simp
       refine hK _ _ ⟨Or.inr z,?_⟩
       clear hK K
       try go_simp
       refine wpBut_ready (rs:=[3,7]) (by kernel_rfl) (by simp) ?_
       refine (ButReady.cons rfl (fun K hK=>?_) (ButReady.cons rfl (fun K hK=>?_) ButReady.nil))
       ·
        as_aux_lemma =>
         refine ev_rows_step 11 HO.out rfl (by rfl) (.tmp 121) (.tmp 123) 26 (.int .i64 0) 8 rfl Try.underlying26 info3 rfl (by decide) (by decide) f3 A3' f3.length c3' f3 f3.length rfl rfl rfl rfl (HG3.out _ (ex3 HO.out)) (fun _ _ h=>h) za75 ?_
         intro A_ c_ W_ hO
         clear HO;have HO:=Aside0.mk hO;clear hO
         clear z xc
         have z:=HO.out.box_cell 8 rfl 3 rfl
         have xc:=HO.out.box_cell 10 rfl n.toNat HCO.out
         try go_simp
         refine hK _ _ ⟨Or.inr z,?_⟩
         clear hK K
         try go_simp
         refine wpBut_ready (rs:=[7]) (by kernel_rfl) (by simp) ?_
         refine (ButReady.cons rfl (fun K hK=>?_) ButReady.nil)
         go_simp
         try go_simp
         refine hK _ _ ⟨Or.inr z,?_⟩
         clear hK K
         try go_simp
         refine wpBut_ready (rs:=[8]) (by kernel_rfl) (by simp) ?_
         refine (ButReady.cons rfl (fun K hK=>?_) ButReady.nil)
         refine ev_litB_step (N:=129) (n:=1) (t:=3) (cs:=#[.int .i64 cv]) HO.out (by rfl) rfl ?hr ?_
         (case hr=>exact lit1_run _ _ rfl rfl _)
         intro g129 W_ hO
         clear HO;have HO:=Aside0.mk hO;clear hO
         clear z xc
         have z:=HO.out.box_cell 8 rfl 3 rfl
         have xc:=HO.out.box_cell 10 rfl n.toNat HCO.out
         try go_simp
         refine hK _ _ ⟨Or.inr z,?_⟩
         clear hK K
         try go_simp
         refine wpBut_ready (rs:=[9]) (by kernel_rfl) (by simp) ?_
         refine (ButReady.cons rfl (fun K hK=>?_) ButReady.nil)
         refine ev_rows_step 11 HO.out rfl (by rfl) (.tmp 124) (.tmp 129) 26 (.int .i64 0) 8 rfl Try.underlying26 info3 rfl (by decide) (by decide) [cv] (some ⟨g129,0,none⟩) 1 1 nf nf.length HNF.out.symm rfl rfl rfl (box_int (ns:=[cv]) (HO.out.box_at 12 rfl).1 (show (1:Nat)≤1000 by decide) 1 rfl) (fun _ _ h=>h) za78 ?_
         intro A130 c130 W_ hO
         clear HO;have HO:=Aside0.mk hO;clear hO
         clear z xc
         have z:=HO.out.box_cell 8 rfl 3 rfl
         have xc:=HO.out.box_cell 10 rfl n.toNat HCO.out
         try go_simp
         refine hK _ _ ⟨Or.inr z,?_⟩
         clear hK K
         try go_simp
         refine wpBut_take (i:=10) (v:=?_) rfl (by kernel_rfl) (by decide) (by kernel_rfl) (fun _ _ _ h=>h) _ _ _ _ (by kernel_rfl) (by kernel_rfl) (Or.inl ⟨by rfl,?_⟩) z ?_
         rotate_left
         ·
          (intro w hS;go_simp)<;>with_reducible rfl
         go_simp
         refine wpBut_ready (rs:=[11]) (by kernel_rfl) (by simp) ?_
         refine (ButReady.cons rfl (fun K hK=>?_) ButReady.nil)
         have f3_:=HO.out.box_free 8 rfl 3
         go_simp
         have hO:=HO.out.put 8 rfl 3 (.slice A130 nf.length c130) (by simp) rfl
         clear z xc f3_
         clear HO;have HO:=Aside0.mk hO;clear hO
         try go_simp
         refine hK _ _ ⟨Or.inl rfl,?_⟩
         clear hK K
         try go_simp
         refine wpBut_done (by kernel_rfl) ?_ _
         try go_wp2
         go_meet
         case rel=>exact ⟨Lr,rows,some adr,c5,⟨f0,f1,f2,nf,f4⟩,A0',c0',A1',c1',A2',c2',A130,c130,A4',c4',.box g125 3 #[.int .i64 (-1),.int .i64 0,.int .i64 7,.int .i64 8,.int .i64 99,.int .i64 100],.row (Kd.int .i64) 3 w.heap.size (.slice A130 nf.length c130) nf,.box g129 3 #[.int .i64 cv],HAT,HBLU,⟨⟨HBU.out.b0,HBU.out.b1,HBU.out.b2,za74,HBU.out.b4,HBU.out.s0,HBU.out.s1,HBU.out.s2⟩⟩,⟨HO.out⟩,⟨HRX.out.imp sub2⟩,⟨A0',c0',A1',c1',A2',c2',A130,c130,A4',c4',rfl,HC0.out,HG0.out.imp sub2,HC1.out,HG1.out.imp sub2,HC2.out,HG2.out.imp sub2,(HO.out.row_sl 11 rfl).2.1,fun W hE=>hE.row (e:=3) (B:=w.heap.size) (c:=c130) (by simp),HC4.out,fun W hE=>HG4.out W (sub2 W hE)⟩⟩
       ·
        as_aux_lemma =>
         go_simp
         try go_simp
         refine hK _ _ ⟨Or.inr z,?_⟩
         clear hK K
         try go_simp
         refine wpBut_ready (rs:=[3,8]) (by kernel_rfl) (by simp) ?_
         refine (ButReady.cons rfl (fun K hK=>?_) (ButReady.cons rfl (fun K hK=>?_) ButReady.nil))
         ·
          refine ev_rows_step 11 HO.out rfl (by rfl) (.tmp 121) (.tmp 123) 26 (.int .i64 0) 8 rfl Try.underlying26 info3 rfl (by decide) (by decide) f3 A3' f3.length c3' f3 f3.length rfl rfl rfl rfl (HG3.out _ (ex3 HO.out)) (fun _ _ h=>h) za75 ?_
          intro A_ c_ W_ hO
          clear HO;have HO:=Aside0.mk hO;clear hO
          clear z xc
          have z:=HO.out.box_cell 8 rfl 3 rfl
          have xc:=HO.out.box_cell 10 rfl n.toNat HCO.out
          try go_simp
          refine hK _ _ ⟨Or.inr z,?_⟩
          clear hK K
          try go_simp
          refine wpBut_ready (rs:=[8]) (by kernel_rfl) (by simp) ?_
          refine (ButReady.cons rfl (fun K hK=>?_) ButReady.nil)
          refine ev_litB_step (N:=129) (n:=1) (t:=3) (cs:=#[.int .i64 cv]) HO.out (by rfl) rfl ?hr ?_
          (case hr=>exact lit1_run _ _ rfl rfl _)
          intro g129 W_ hO
          clear HO;have HO:=Aside0.mk hO;clear hO
          clear z xc
          have z:=HO.out.box_cell 8 rfl 3 rfl
          have xc:=HO.out.box_cell 10 rfl n.toNat HCO.out
          try go_simp
          refine hK _ _ ⟨Or.inr z,?_⟩
          clear hK K
          try go_simp
          refine wpBut_ready (rs:=[9]) (by kernel_rfl) (by simp) ?_
          refine (ButReady.cons rfl (fun K hK=>?_) ButReady.nil)
          refine ev_rows_step 11 HO.out rfl (by rfl) (.tmp 124) (.tmp 129) 26 (.int .i64 0) 8 rfl Try.underlying26 info3 rfl (by decide) (by decide) [cv] (some ⟨g129,0,none⟩) 1 1 nf nf.length HNF.out.symm rfl rfl rfl (box_int (ns:=[cv]) (HO.out.box_at 12 rfl).1 (show (1:Nat)≤1000 by decide) 1 rfl) (fun _ _ h=>h) za78 ?_
          intro A130 c130 W_ hO
          clear HO;have HO:=Aside0.mk hO;clear hO
          clear z xc
          have z:=HO.out.box_cell 8 rfl 3 rfl
          have xc:=HO.out.box_cell 10 rfl n.toNat HCO.out
          try go_simp
          refine hK _ _ ⟨Or.inr z,?_⟩
          clear hK K
          try go_simp
          refine wpBut_take (i:=10) (v:=?_) rfl (by kernel_rfl) (by decide) (by kernel_rfl) (fun _ _ _ h=>h) _ _ _ _ (by kernel_rfl) (by kernel_rfl) (Or.inl ⟨by rfl,?_⟩) z ?_
          rotate_left
          ·
           (intro w hS;go_simp)<;>with_reducible rfl
          go_simp
          refine wpBut_ready (rs:=[11]) (by kernel_rfl) (by simp) ?_
          refine (ButReady.cons rfl (fun K hK=>?_) ButReady.nil)
          have f3_:=HO.out.box_free 8 rfl 3
          go_simp
          have hO:=HO.out.put 8 rfl 3 (.slice A130 nf.length c130) (by simp) rfl
          clear z xc f3_
          clear HO;have HO:=Aside0.mk hO;clear hO
          try go_simp
          refine hK _ _ ⟨Or.inl rfl,?_⟩
          clear hK K
          try go_simp
          refine wpBut_done (by kernel_rfl) ?_ _
          try go_wp2
          go_meet
          case rel=>exact ⟨Lr,rows,some adr,c5,⟨f0,f1,f2,nf,f4⟩,A0',c0',A1',c1',A2',c2',A130,c130,A4',c4',.box g125 3 #[.int .i64 (-1),.int .i64 0,.int .i64 7,.int .i64 8,.int .i64 99,.int .i64 100],.row (Kd.int .i64) 3 w.heap.size (.slice A130 nf.length c130) nf,.box g129 3 #[.int .i64 cv],HAT,HBLU,⟨⟨HBU.out.b0,HBU.out.b1,HBU.out.b2,za74,HBU.out.b4,HBU.out.s0,HBU.out.s1,HBU.out.s2⟩⟩,⟨HO.out⟩,⟨HRX.out.imp sub2⟩,⟨A0',c0',A1',c1',A2',c2',A130,c130,A4',c4',rfl,HC0.out,HG0.out.imp sub2,HC1.out,HG1.out.imp sub2,HC2.out,HG2.out.imp sub2,(HO.out.row_sl 11 rfl).2.1,fun W hE=>hE.row (e:=3) (B:=w.heap.size) (c:=c130) (by simp),HC4.out,fun W hE=>HG4.out W (sub2 W hE)⟩⟩
         ·
          refine ev_litB_step (N:=129) (n:=1) (t:=3) (cs:=#[.int .i64 cv]) HO.out (by rfl) rfl ?hr ?_
          (case hr=>exact lit1_run _ _ rfl rfl _)
          intro g129 W_ hO
          clear HO;have HO:=Aside0.mk hO;clear hO
          clear z xc
          have z:=HO.out.box_cell 8 rfl 3 rfl
          have xc:=HO.out.box_cell 10 rfl n.toNat HCO.out
          try go_simp
          refine hK _ _ ⟨Or.inr z,?_⟩
          clear hK K
          try go_simp
          refine wpBut_ready (rs:=[3]) (by kernel_rfl) (by simp) ?_
          refine (ButReady.cons rfl (fun K hK=>?_) ButReady.nil)
          refine ev_rows_step 11 HO.out rfl (by rfl) (.tmp 121) (.tmp 123) 26 (.int .i64 0) 8 rfl Try.underlying26 info3 rfl (by decide) (by decide) f3 A3' f3.length c3' f3 f3.length rfl rfl rfl rfl (HG3.out _ (ex3 HO.out)) (fun _ _ h=>h) za75 ?_
          intro A_ c_ W_ hO
          clear HO;have HO:=Aside0.mk hO;clear hO
          clear z xc
          have z:=HO.out.box_cell 8 rfl 3 rfl
          have xc:=HO.out.box_cell 10 rfl n.toNat HCO.out
          try go_simp
          refine hK _ _ ⟨Or.inr z,?_⟩
          clear hK K
          try go_simp
          refine wpBut_ready (rs:=[9]) (by kernel_rfl) (by simp) ?_
          refine (ButReady.cons rfl (fun K hK=>?_) ButReady.nil)
          refine ev_rows_step 11 HO.out rfl (by rfl) (.tmp 124) (.tmp 129) 26 (.int .i64 0) 8 rfl Try.underlying26 info3 rfl (by decide) (by decide) [cv] (some ⟨g129,0,none⟩) 1 1 nf nf.length HNF.out.symm rfl rfl rfl (box_int (ns:=[cv]) (HO.out.box_at 12 rfl).1 (show (1:Nat)≤1000 by decide) 1 rfl) (fun _ _ h=>h) za78 ?_
          intro A130 c130 W_ hO
          clear HO;have HO:=Aside0.mk hO;clear hO
          clear z xc
          have z:=HO.out.box_cell 8 rfl 3 rfl
          have xc:=HO.out.box_cell 10 rfl n.toNat HCO.out
          try go_simp
          refine hK _ _ ⟨Or.inr z,?_⟩
          clear hK K
          try go_simp
          refine wpBut_take (i:=10) (v:=?_) rfl (by kernel_rfl) (by decide) (by kernel_rfl) (fun _ _ _ h=>h) _ _ _ _ (by kernel_rfl) (by kernel_rfl) (Or.inl ⟨by rfl,?_⟩) z ?_
          rotate_left
          ·
           (intro w hS;go_simp)<;>with_reducible rfl
          go_simp
          refine wpBut_ready (rs:=[11]) (by kernel_rfl) (by simp) ?_
          refine (ButReady.cons rfl (fun K hK=>?_) ButReady.nil)
          have f3_:=HO.out.box_free 8 rfl 3
          go_simp
          have hO:=HO.out.put 8 rfl 3 (.slice A130 nf.length c130) (by simp) rfl
          clear z xc f3_
          clear HO;have HO:=Aside0.mk hO;clear hO
          try go_simp
          refine hK _ _ ⟨Or.inl rfl,?_⟩
          clear hK K
          try go_simp
          refine wpBut_done (by kernel_rfl) ?_ _
          try go_wp2
          go_meet
          case rel=>exact ⟨Lr,rows,some adr,c5,⟨f0,f1,f2,nf,f4⟩,A0',c0',A1',c1',A2',c2',A130,c130,A4',c4',.box g125 3 #[.int .i64 (-1),.int .i64 0,.int .i64 7,.int .i64 8,.int .i64 99,.int .i64 100],.row (Kd.int .i64) 3 w.heap.size (.slice A130 nf.length c130) nf,.box g129 3 #[.int .i64 cv],HAT,HBLU,⟨⟨HBU.out.b0,HBU.out.b1,HBU.out.b2,za74,HBU.out.b4,HBU.out.s0,HBU.out.s1,HBU.out.s2⟩⟩,⟨HO.out⟩,⟨HRX.out.imp sub2⟩,⟨A0',c0',A1',c1',A2',c2',A130,c130,A4',c4',rfl,HC0.out,HG0.out.imp sub2,HC1.out,HG1.out.imp sub2,HC2.out,HG2.out.imp sub2,(HO.out.row_sl 11 rfl).2.1,fun W hE=>hE.row (e:=3) (B:=w.heap.size) (c:=c130) (by simp),HC4.out,fun W hE=>HG4.out W (sub2 W hE)⟩⟩
     ·
      as_aux_lemma =>
       go_simp
       try go_simp
       refine hK _ _ ⟨Or.inr z,?_⟩
       clear hK K
       try go_simp
       refine wpBut_ready (rs:=[0,8]) (by kernel_rfl) (by simp) ?_
       refine (ButReady.cons rfl (fun K hK=>?_) (ButReady.cons rfl (fun K hK=>?_) ButReady.nil))
       ·
        as_aux_lemma =>
         refine ev_lit0_step (Kd.int .i64) 3 (N:=121) HO.out (by rfl) rfl ?hr ?_
         (case hr=>exact lit0_run _ _ rfl _)
         intro g_ W_ hO
         clear HO;have HO:=Aside0.mk hO;clear hO
         clear z xc
         have z:=HO.out.box_cell 8 rfl 3 rfl
         have xc:=HO.out.box_cell 10 rfl n.toNat HCO.out
         try go_simp
         refine hK _ _ ⟨Or.inr z,?_⟩
         clear hK K
         try go_simp
         refine wpBut_ready (rs:=[3,8]) (by kernel_rfl) (by simp) ?_
         refine (ButReady.cons rfl (fun K hK=>?_) (ButReady.cons rfl (fun K hK=>?_) ButReady.nil))
         ·
          refine ev_rows_step 11 HO.out rfl (by rfl) (.tmp 121) (.tmp 123) 26 (.int .i64 0) 8 rfl Try.underlying26 info3 rfl (by decide) (by decide) f3 A3' f3.length c3' f3 f3.length rfl rfl rfl rfl (HG3.out _ (ex3 HO.out)) (fun _ _ h=>h) za75 ?_
          intro A_ c_ W_ hO
          clear HO;have HO:=Aside0.mk hO;clear hO
          clear z xc
          have z:=HO.out.box_cell 8 rfl 3 rfl
          have xc:=HO.out.box_cell 10 rfl n.toNat HCO.out
          try go_simp
          refine hK _ _ ⟨Or.inr z,?_⟩
          clear hK K
          try go_simp
          refine wpBut_ready (rs:=[8]) (by kernel_rfl) (by simp) ?_
          refine (ButReady.cons rfl (fun K hK=>?_) ButReady.nil)
          refine ev_litB_step (N:=129) (n:=1) (t:=3) (cs:=#[.int .i64 cv]) HO.out (by rfl) rfl ?hr ?_
          (case hr=>exact lit1_run _ _ rfl rfl _)
          intro g129 W_ hO
          clear HO;have HO:=Aside0.mk hO;clear hO
          clear z xc
          have z:=HO.out.box_cell 8 rfl 3 rfl
          have xc:=HO.out.box_cell 10 rfl n.toNat HCO.out
          try go_simp
          refine hK _ _ ⟨Or.inr z,?_⟩
          clear hK K
          try go_simp
          refine wpBut_ready (rs:=[9]) (by kernel_rfl) (by simp) ?_
          refine (ButReady.cons rfl (fun K hK=>?_) ButReady.nil)
          refine ev_rows_step 11 HO.out rfl (by rfl) (.tmp 124) (.tmp 129) 26 (.int .i64 0) 8 rfl Try.underlying26 info3 rfl (by decide) (by decide) [cv] (some ⟨g129,0,none⟩) 1 1 nf nf.length HNF.out.symm rfl rfl rfl (box_int (ns:=[cv]) (HO.out.box_at 12 rfl).1 (show (1:Nat)≤1000 by decide) 1 rfl) (fun _ _ h=>h) za78 ?_
          intro A130 c130 W_ hO
          clear HO;have HO:=Aside0.mk hO;clear hO
          clear z xc
          have z:=HO.out.box_cell 8 rfl 3 rfl
          have xc:=HO.out.box_cell 10 rfl n.toNat HCO.out
          try go_simp
          refine hK _ _ ⟨Or.inr z,?_⟩
          clear hK K
          try go_simp
          refine wpBut_take (i:=10) (v:=?_) rfl (by kernel_rfl) (by decide) (by kernel_rfl) (fun _ _ _ h=>h) _ _ _ _ (by kernel_rfl) (by kernel_rfl) (Or.inl ⟨by rfl,?_⟩) z ?_
          rotate_left
          ·
           (intro w hS;go_simp)<;>with_reducible rfl
          go_simp
          refine wpBut_ready (rs:=[11]) (by kernel_rfl) (by simp) ?_
          refine (ButReady.cons rfl (fun K hK=>?_) ButReady.nil)
          have f3_:=HO.out.box_free 8 rfl 3
          go_simp
          have hO:=HO.out.put 8 rfl 3 (.slice A130 nf.length c130) (by simp) rfl
          clear z xc f3_
          clear HO;have HO:=Aside0.mk hO;clear hO
          try go_simp
          refine hK _ _ ⟨Or.inl rfl,?_⟩
          clear hK K
          try go_simp
          refine wpBut_done (by kernel_rfl) ?_ _
          try go_wp2
          go_meet
          case rel=>exact ⟨Lr,rows,some adr,c5,⟨f0,f1,f2,nf,f4⟩,A0',c0',A1',c1',A2',c2',A130,c130,A4',c4',.box g125 3 #[.int .i64 (-1),.int .i64 0,.int .i64 7,.int .i64 8,.int .i64 99,.int .i64 100],.row (Kd.int .i64) 3 w.heap.size (.slice A130 nf.length c130) nf,.box g129 3 #[.int .i64 cv],HAT,HBLU,⟨⟨HBU.out.b0,HBU.out.b1,HBU.out.b2,za74,HBU.out.b4,HBU.out.s0,HBU.out.s1,HBU.out.s2⟩⟩,⟨HO.out⟩,⟨HRX.out.imp sub2⟩,⟨A0',c0',A1',c1',A2',c2',A130,c130,A4',c4',rfl,HC0.out,HG0.out.imp sub2,HC1.out,HG1.out.imp sub2,HC2.out,HG2.out.imp sub2,(HO.out.row_sl 11 rfl).2.1,fun W hE=>hE.row (e:=3) (B:=w.heap.size) (c:=c130) (by simp),HC4.out,fun W hE=>HG4.out W (sub2 W hE)⟩⟩
         ·
          refine ev_litB_step (N:=129) (n:=1) (t:=3) (cs:=#[.int .i64 cv]) HO.out (by rfl) rfl ?hr ?_
          (case hr=>exact lit1_run _ _ rfl rfl _)
          intro g129 W_ hO
          clear HO;have HO:=Aside0.mk hO;clear hO
          clear z xc
          have z:=HO.out.box_cell 8 rfl 3 rfl
          have xc:=HO.out.box_cell 10 rfl n.toNat HCO.out
          try go_simp
          refine hK _ _ ⟨Or.inr z,?_⟩
          clear hK K
          try go_simp
          refine wpBut_ready (rs:=[3]) (by kernel_rfl) (by simp) ?_
          refine (ButReady.cons rfl (fun K hK=>?_) ButReady.nil)
          refine ev_rows_step 11 HO.out rfl (by rfl) (.tmp 121) (.tmp 123) 26 (.int .i64 0) 8 rfl Try.underlying26 info3 rfl (by decide) (by decide) f3 A3' f3.length c3' f3 f3.length rfl rfl rfl rfl (HG3.out _ (ex3 HO.out)) (fun _ _ h=>h) za75 ?_
          intro A_ c_ W_ hO
          clear HO;have HO:=Aside0.mk hO;clear hO
          clear z xc
          have z:=HO.out.box_cell 8 rfl 3 rfl
          have xc:=HO.out.box_cell 10 rfl n.toNat HCO.out
          try go_simp
          refine hK _ _ ⟨Or.inr z,?_⟩
          clear hK K
          try go_simp
          refine wpBut_ready (rs:=[9]) (by kernel_rfl) (by simp) ?_
          refine (ButReady.cons rfl (fun K hK=>?_) ButReady.nil)
          refine ev_rows_step 11 HO.out rfl (by rfl) (.tmp 124) (.tmp 129) 26 (.int .i64 0) 8 rfl Try.underlying26 info3 rfl (by decide) (by decide) [cv] (some ⟨g129,0,none⟩) 1 1 nf nf.length HNF.out.symm rfl rfl rfl (box_int (ns:=[cv]) (HO.out.box_at 12 rfl).1 (show (1:Nat)≤1000 by decide) 1 rfl) (fun _ _ h=>h) za78 ?_
          intro A130 c130 W_ hO
          clear HO;have HO:=Aside0.mk hO;clear hO
          clear z xc
          have z:=HO.out.box_cell 8 rfl 3 rfl
          have xc:=HO.out.box_cell 10 rfl n.toNat HCO.out
          try go_simp
          refine hK _ _ ⟨Or.inr z,?_⟩
          clear hK K
          try go_simp
          refine wpBut_take (i:=10) (v:=?_) rfl (by kernel_rfl) (by decide) (by kernel_rfl) (fun _ _ _ h=>h) _ _ _ _ (by kernel_rfl) (by kernel_rfl) (Or.inl ⟨by rfl,?_⟩) z ?_
          rotate_left
          ·
           (intro w hS;go_simp)<;>with_reducible rfl
          go_simp
          refine wpBut_ready (rs:=[11]) (by kernel_rfl) (by simp) ?_
          refine (ButReady.cons rfl (fun K hK=>?_) ButReady.nil)
          have f3_:=HO.out.box_free 8 rfl 3
          go_simp
          have hO:=HO.out.put 8 rfl 3 (.slice A130 nf.length c130) (by simp) rfl
          clear z xc f3_
          clear HO;have HO:=Aside0.mk hO;clear hO
          try go_simp
          refine hK _ _ ⟨Or.inl rfl,?_⟩
          clear hK K
          try go_simp
          refine wpBut_done (by kernel_rfl) ?_ _
          try go_wp2
          go_meet
          case rel=>exact ⟨Lr,rows,some adr,c5,⟨f0,f1,f2,nf,f4⟩,A0',c0',A1',c1',A2',c2',A130,c130,A4',c4',.box g125 3 #[.int .i64 (-1),.int .i64 0,.int .i64 7,.int .i64 8,.int .i64 99,.int .i64 100],.row (Kd.int .i64) 3 w.heap.size (.slice A130 nf.length c130) nf,.box g129 3 #[.int .i64 cv],HAT,HBLU,⟨⟨HBU.out.b0,HBU.out.b1,HBU.out.b2,za74,HBU.out.b4,HBU.out.s0,HBU.out.s1,HBU.out.s2⟩⟩,⟨HO.out⟩,⟨HRX.out.imp sub2⟩,⟨A0',c0',A1',c1',A2',c2',A130,c130,A4',c4',rfl,HC0.out,HG0.out.imp sub2,HC1.out,HG1.out.imp sub2,HC2.out,HG2.out.imp sub2,(HO.out.row_sl 11 rfl).2.1,fun W hE=>hE.row (e:=3) (B:=w.heap.size) (c:=c130) (by simp),HC4.out,fun W hE=>HG4.out W (sub2 W hE)⟩⟩
       ·
        as_aux_lemma =>
         refine ev_litB_step (N:=129) (n:=1) (t:=3) (cs:=#[.int .i64 cv]) HO.out (by rfl) rfl ?hr ?_
         (case hr=>exact lit1_run _ _ rfl rfl _)
         intro g129 W_ hO
         clear HO;have HO:=Aside0.mk hO;clear hO
         clear z xc
         have z:=HO.out.box_cell 8 rfl 3 rfl
         have xc:=HO.out.box_cell 10 rfl n.toNat HCO.out
         try go_simp
         refine hK _ _ ⟨Or.inr z,?_⟩
         clear hK K
         try go_simp
         refine wpBut_ready (rs:=[0]) (by kernel_rfl) (by simp) ?_
         refine (ButReady.cons rfl (fun K hK=>?_) ButReady.nil)
         refine ev_lit0_step (Kd.int .i64) 3 (N:=121) HO.out (by rfl) rfl ?hr ?_
         (case hr=>exact lit0_run _ _ rfl _)
         intro g_ W_ hO
         clear HO;have HO:=Aside0.mk hO;clear hO
         clear z xc
         have z:=HO.out.box_cell 8 rfl 3 rfl
         have xc:=HO.out.box_cell 10 rfl n.toNat HCO.out
         try go_simp
         refine hK _ _ ⟨Or.inr z,?_⟩
         clear hK K
         try go_simp
         refine wpBut_ready (rs:=[3]) (by kernel_rfl) (by simp) ?_
         refine (ButReady.cons rfl (fun K hK=>?_) ButReady.nil)
         refine ev_rows_step 12 HO.out rfl (by rfl) (.tmp 121) (.tmp 123) 26 (.int .i64 0) 8 rfl Try.underlying26 info3 rfl (by decide) (by decide) f3 A3' f3.length c3' f3 f3.length rfl rfl rfl rfl (HG3.out _ (ex3 HO.out)) (fun _ _ h=>h) za75 ?_
         intro A_ c_ W_ hO
         clear HO;have HO:=Aside0.mk hO;clear hO
         clear z xc
         have z:=HO.out.box_cell 8 rfl 3 rfl
         have xc:=HO.out.box_cell 10 rfl n.toNat HCO.out
         try go_simp
         refine hK _ _ ⟨Or.inr z,?_⟩
         clear hK K
         try go_simp
         refine wpBut_ready (rs:=[9]) (by kernel_rfl) (by simp) ?_
         refine (ButReady.cons rfl (fun K hK=>?_) ButReady.nil)
         refine ev_rows_step 12 HO.out rfl (by rfl) (.tmp 124) (.tmp 129) 26 (.int .i64 0) 8 rfl Try.underlying26 info3 rfl (by decide) (by decide) [cv] (some ⟨g129,0,none⟩) 1 1 nf nf.length HNF.out.symm rfl rfl rfl (box_int (ns:=[cv]) (HO.out.box_at 11 rfl).1 (show (1:Nat)≤1000 by decide) 1 rfl) (fun _ _ h=>h) za78 ?_
         intro A130 c130 W_ hO
         clear HO;have HO:=Aside0.mk hO;clear hO
         clear z xc
         have z:=HO.out.box_cell 8 rfl 3 rfl
         have xc:=HO.out.box_cell 10 rfl n.toNat HCO.out
         try go_simp
         refine hK _ _ ⟨Or.inr z,?_⟩
         clear hK K
         try go_simp
         refine wpBut_take (i:=10) (v:=?_) rfl (by kernel_rfl) (by decide) (by kernel_rfl) (fun _ _ _ h=>h) _ _ _ _ (by kernel_rfl) (by kernel_rfl) (Or.inl ⟨by rfl,?_⟩) z ?_
         rotate_left
         ·
          (intro w hS;go_simp)<;>with_reducible rfl
         go_simp
         refine wpBut_ready (rs:=[11]) (by kernel_rfl) (by simp) ?_
         refine (ButReady.cons rfl (fun K hK=>?_) ButReady.nil)
         have f3_:=HO.out.box_free 8 rfl 3
         go_simp
         have hO:=HO.out.put 8 rfl 3 (.slice A130 nf.length c130) (by simp) rfl
         clear z xc f3_
         clear HO;have HO:=Aside0.mk hO;clear hO
         try go_simp
         refine hK _ _ ⟨Or.inl rfl,?_⟩
         clear hK K
         try go_simp
         refine wpBut_done (by kernel_rfl) ?_ _
         try go_wp2
         go_meet
         case rel=>exact ⟨Lr,rows,some adr,c5,⟨f0,f1,f2,nf,f4⟩,A0',c0',A1',c1',A2',c2',A130,c130,A4',c4',.box g125 3 #[.int .i64 (-1),.int .i64 0,.int .i64 7,.int .i64 8,.int .i64 99,.int .i64 100],.box g129 3 #[.int .i64 cv],.row (Kd.int .i64) 3 w.heap.size (.slice A130 nf.length c130) nf,HAT,HBLU,⟨⟨HBU.out.b0,HBU.out.b1,HBU.out.b2,za74,HBU.out.b4,HBU.out.s0,HBU.out.s1,HBU.out.s2⟩⟩,⟨HO.out⟩,⟨HRX.out.imp sub2⟩,⟨A0',c0',A1',c1',A2',c2',A130,c130,A4',c4',rfl,HC0.out,HG0.out.imp sub2,HC1.out,HG1.out.imp sub2,HC2.out,HG2.out.imp sub2,(HO.out.row_sl 12 rfl).2.1,fun W hE=>hE.row (e:=3) (B:=w.heap.size) (c:=c130) (by simp),HC4.out,fun W hE=>HG4.out W (sub2 W hE)⟩⟩
 clear HO
 obtain ⟨L',rows',A6,c6,r',B0,d0,B1,d1,B2,d2,B3,d3,B4,d4,Y1,Y2,Y3,HA2,HB2,HR2,HO,HRX2,HRR⟩:=hcut
 obtain ⟨ad6,h6,-⟩:=(HO.out.row_sl 4 rfl).2.2.2.2 (by rw [HRX2.out.1];have:=HA2.out;omega)
 subst h6
 obtain ⟨g6,rfl⟩:=Kd.R_head (HO.out.row_R 4 rfl)
 have hCg:=(HO.out.row_sl 4 rfl).2.2
 rw [← (HO.out.row_sl 4 rfl).1] at hCg
 obtain ⟨ad7,cc,e7,hcl,-,hcc⟩:=Kd.C_get hCg [] (at_:Int) (by omega) (by have:=HA2.out;omega)
 obtain rfl:=(Option.some.inj e7).symm
 rw [Int.toNat_natCast] at hcc
 have HCC:=Aside0.mk (show ∀ (j:Nat) (u:Value),cc[j]?=some u→(∀ (q:Nat),(⟨g6,0,none⟩:Addr).add q=⟨g6,q,none⟩)∧True from fun j u h=>⟨fun q=>by have:=addr1 g6 q;rwa [Nat.mul_one,Nat.add_zero] at this,trivial⟩)
 clear HCC
 have HCC:=Aside0.mk hcc
 have HCL:=Aside0.mk hcl
 have z5:=HO.out.box_cell 5 rfl 0 rfl
 have z0:=HO.out.box_cell 8 rfl 0 rfl
 have z1:=HO.out.box_cell 8 rfl 1 rfl
 have z2:=HO.out.box_cell 8 rfl 2 rfl
 have z3:=HO.out.box_cell 8 rfl 3 rfl
 have z4:=HO.out.box_cell 8 rfl 4 rfl
 have r2:((at_:Int)<(L'.length:Int))=True:=eq_true (by have:=HA2.out;omega)
 clear hcc hcl e7 hCg
 have hga:∀ q,(⟨g6,0,none⟩:Addr).add q=⟨g6,q,none⟩:=fun q=>by have:=addr1 g6 q;rwa [Nat.mul_one,Nat.add_zero] at this
 have HGA:=Aside0.mk hga
 clear hga
 go_wp2_with (first
  | ((with_reducible refine gate_store (t:=49) (p:=186) rfl ?_);(refine ev_storeE 4 HO.out rfl rfl rfl 49 (.tmp 186) (.tmp 185) rfl at_ (.agg #[.slice B0 r'.f0.length d0,.slice B1 r'.f1.length d1,.slice B2 r'.f2.length d2,.slice B3 r'.f3.length d3,.slice B4 r'.f4.length d4]) [.slice B0 r'.f0.length d0,.slice B1 r'.f1.length d1,.slice B2 r'.f2.length d2,.slice B3 r'.f3.length d3,.slice B4 r'.f4.length d4] cc ?ha rfl rfl sz49 za80 HA2.out HCL.out (fun j u hj=>by rw [← HGA.out];exact HCC.out j u hj) rfl ?_;(case ha=>first|rfl|(go_simp;done)|(simp [HGA.out];done));intro W_ hO;clear HO z0 z1 z2 z3 z4 z5;have HO:=Aside0.mk hO;clear hO;have z5:=HO.out.box_cell 5 rfl 0 rfl))
  | ((with_reducible refine gate_store (t:=24) (p:=4) rfl ?_);(refine ev_store (cs':=#[.slice (some ⟨g6,0,none⟩) L'.length c6]) (.agg #[.slice (some ⟨g6,0,none⟩) L'.length c6]) 3 HO.out rfl rfl rfl rfl 0 rfl rfl sz24 za77 (Nat.le_refl _) rfl ?_;intro W_ hO;clear HO z5;have HO:=Aside0.mk hO;clear hO)))
 refine bodyPost_ret (results_cell_row rfl _ _ g4 24 #[.slice (some ⟨g6,0,none⟩) L'.length c6] (0,0) _ rfl (HO.out.box_at 3 rfl).1 Try.underlying24 rfl sz24) rfl ⟨some ⟨g6,0,none⟩,c6,L'.set at_ r',_,by rw [List.length_set],?hfr,by rw [List.length_set];exact (HO.out.row_sl 4 rfl).2.1,⟨by rw [List.length_set];exact HB2.out.1,fun r hr=>?hbb⟩,HO.out⟩
 case hbb =>
  rcases List.mem_or_eq_of_mem_set hr with hr|rfl
  ·
   exact HB2.out.2 r hr
  ·
   exact HR2.out
 case hfr =>
  intro W hW
  have hE:EX w [X1,X2,.box g46 3 #[.int .i64 n,.int .i64 (n+1)],Y1,Y2,Y3] W:=⟨hW.1,fun X hX=>hW.2 X (by
   simp only [List.mem_cons,List.not_mem_nil,or_false] at hX ⊢
   rcases hX with rfl|rfl|rfl|rfl|rfl|rfl<;>simp)⟩
  have hrow:=hW.row (d:=Kd.raw 5) (e:=49) (B:=w.heap.size) (A:=some ⟨g6,0,none⟩) (n:=L'.length) (c:=c6) (xs:=rows'.set at_ [.slice B0 r'.f0.length d0,.slice B1 r'.f1.length d1,.slice B2 r'.f2.length d2,.slice B3 r'.f3.length d3,.slice B4 r'.f4.length d4]) (by simp)
  have hC:=(HRX2.out.set at_ HRR.out).C hE hrow
  rw [List.length_set]
  exact hC
end Go.Proofs.Ytlgkeaildncojaa.Q
end
section
namespace Go.Proofs.Ytlgkeaildncojaa.Q
open Go.RowKit Go.Shelf Go.Proofs.YtlgkeaildncojaaW.PrintWords Go.Proofs.YtlgkeaildncojaaW.PrintLast Go.Proofs.YtlgkeaildncojaaW.PrintMore
set_option linter.unusedSimpArgs false
set_option linter.unusedVariables false
attribute [local go_sem] Oper.semAt_some
set_option maxRecDepth 100000 in
set_option maxHeartbeats 16000000 in
theorem odd_calls_c (A:Option Addr) (c:Nat) (l:List S49) (q0 q1 q2:Int) (N:Nat) (w wq:World) (R0:Res) (hO0:Own w wq [R0]) (hr:k49.C w A l.length l) (hc:l.length≤c) (hb:BdL N l) (hN:N≤1000) (hsel:q0 % 12=8) :
  Calls Try.prog 13 #[.agg #[.slice A l.length c],.agg #[.int .i64 q0,.int .i64 q1,.int .i64 q2]] wq fun e w'=>∃ A' c' l' XS,e=.returned (.agg #[.slice A' l'.length c'])∧(∀ W,EX w XS W→k49.C W A' l'.length l')∧l'.length≤c'∧BdL (N+12) l'∧Own w w' (R0 :: XS):=by
 obtain ⟨rows0,hrl0,hrC0,hrK0⟩:=raw_of_C hr
 have HRL0:=Aside0.mk hrl0
 have HRC0:=Aside0.mk hrC0
 have HRK0:=Aside0.mk hrK0
 have HB:=Aside0.mk hb
 have HN:=Aside0.mk hN
 have hll:(l.length:Int)≤1000:=by have:=hb.1;omega
 obtain ⟨n,hn⟩:∃ n,q1 % 6=n:=⟨_,rfl⟩
 have HNN:=Aside0.mk (show 0≤n∧n≤5 by omega)
 have HM6:=Aside0.mk (show abugidaref01_Mod.f q1 6=some n by rw [mod_some q1 6 (by decide) (by decide),hn])
 have HSEL:=Aside0.mk hsel
 have HO:=Aside0.mk hO0
 clear hr hc hb hN hrl0 hrC0 hrK0 hn hsel
 go_enter Try.func13,Try.ntmps13
 go_upto_region 3 with (first
  | ((with_reducible refine gate_dst (N:=2) rfl ?_);(refine ev_box (N:=2) (cs:=#[.slice A l.length c]) (t:=24) HO.out rfl rfl zhr ?_;intro g2 W_ hO hb_;clear HO hb_;have HO:=Aside0.mk hO;clear hO))
  | ((with_reducible refine gate_dst (N:=3) rfl ?_);(refine ev_box (N:=3) (cs:=#[.int .i64 q0,.int .i64 q1,.int .i64 q2]) (t:=27) HO.out rfl rfl zhr ?_;intro g3 W_ hO hb_;clear HO hb_;have HO:=Aside0.mk hO;clear hO))
  | ((with_reducible refine gate_dst (N:=4) rfl ?_);(refine ev_box (N:=4) (cs:=#[.slice none 0 0]) (t:=24) HO.out rfl rfl zhr ?_;intro g4 W_ hO hb_;clear HO hb_;have HO:=Aside0.mk hO;clear hO;have x2:=HO.out.box_cell 1 rfl 0 rfl))
  | ((with_reducible refine gate_dst (N:=11) rfl ?_);(refine ev_lit (Kd.raw 5) 49 (N:=11) (xs:=[]) (inner:=[]) HO.out rfl rfl ?hr ?hp (by decide) ?_;(case hr=>first|(go_simp;done)|(go_simp;rfl));(case hp=>exact Reps.none _ _);intro A_ c_ W_ hO hb_;clear HO hb_;have HO:=Aside0.mk hO;clear hO;clear x2;have x2:=HO.out.box_cell 1 rfl 0 rfl))
  | ((with_reducible refine gate_builtin (b:=.append) (xs:=#[.tmp 11,.tmp 13]) rfl ?_);at_builtin;(refine ev_rowsm 4 HO.out rfl rfl (.tmp 11) (.tmp 13) 22 (.agg #[.slice none 0 0,.slice none 0 0,.slice none 0 0,.slice none 0 0,.slice none 0 0]) 120 rfl Try.underlying22 info49 rfl (Nat.succ_pos 4) (by decide) rows0 A l.length c rows0 l.length rfl HRL0.out HRL0.out rfl rfl (Kd.C_below HRC0.out HO.out.below) (fun _ _ h=>h) ?aL ?_;(case aL=>have:=HB.out.1;have:=HN.out;simp;omega);intro A14 c14 W_ hO;clear HO;have HO:=Aside0.mk hO;clear hO;clear x2))
  | ((with_reducible refine gate_dst (N:=5) rfl ?_);(refine ev_box (N:=5) (cs:=#[.slice none 0 0]) (t:=24) HO.out rfl rfl zhr ?_;intro g5 W_ hO hb_;clear HO hb_;have HO:=Aside0.mk hO;clear hO))
  | ((with_reducible refine gate_store (t:=24) (p:=5) rfl ?_);(refine ev_store (cs':=#[.slice A14 l.length c14]) (.agg #[.slice A14 l.length c14]) 5 HO.out rfl rfl rfl rfl 0 rfl rfl sz24 za77 (show (0:Nat)+1≤1 by decide) rfl ?_;intro W_ hO;clear HO;have HO:=Aside0.mk hO;clear hO;have x3:=HO.out.box_cell 2 rfl 1 rfl))
  | (go_at_call 15;(refine (abugidaref01_Mod.calls q1 6 n _ HM6.out).mono ?_;rintro e_ W_ ⟨rfl,hd⟩;have nO:=Aside0.mk (HO.out.grow hd.below);clear HO hd;have HO:=nO;clear nO;clear x3)))
 have x5:=HO.out.box_cell 5 rfl 0 rfl
 go_upto_if 22 with (fail)
 clear x5
 go_cut [] (fun wc=>∃ (Lr:List S49) (rows:List (List Value)) (A5:Option Addr) (c5:Nat) (X1 X2:Res),Aside0 (0<Lr.length)∧Aside0 (BdL (N+1) Lr)∧Aside0 (Own w wc [R0,.box g2 24 #[.slice A l.length c],.box g3 27 #[.int .i64 q0,.int .i64 q1,.int .i64 q2],.box g4 24 #[.slice none 0 0],.row (Kd.raw 5) 49 w.heap.size (.slice A5 Lr.length c5) rows,.box g5 24 #[.slice A5 Lr.length c5],X1,X2])∧Aside0 (RulesX (EX w [X1,X2]) Lr rows))
 case first =>
  by_cases hl0:l.length=0
  case neg =>
   have e0:((l.length:Int)==0)=false:=beq_eq_false_iff_ne.mpr (by omega)
   have n0:((l.length:Int)=0)=False:=eq_false (by omega)
   have HL0:=Aside0.mk (show 0<l.length by omega)
   clear hl0
   go_wp2
   go_meet
   case rel=>exact ⟨l,rows0,A14,c14,.emp,.emp,HL0,⟨HB.out.le (Nat.le_succ N)⟩,⟨(HO.out.add (r:=.emp) (Below.refl _ _) trivial).add (r:=.emp) (Below.refl _ _) trivial⟩,⟨HRL0.out,fun j r cs hj hcs=>RuleX.old (fun W hW=>hW.1) (HRK0.out j r cs hj hcs)⟩⟩
  case pos =>
   have e0:((l.length:Int)==0)=true:=beq_iff_eq.mpr (by omega)
   have n0:((l.length:Int)=0)=True:=eq_true (by omega)
   have hr0:rows0=[]:=List.eq_nil_of_length_eq_zero (by rw [HRL0.out];exact hl0)
   subst hr0
   have HL0:=Aside0.mk hl0
   clear hl0
   have x5:=HO.out.box_cell 5 rfl 0 rfl
   go_wp2_with (first
    | ((with_reducible refine gate_dst (N:=26) rfl ?_);(refine ev_litB (N:=26) (n:=1) (t:=3) (cs:=#[.int .i64 n]) HO.out rfl rfl zhr ?_;intro g26 W_ hO hb_;clear HO hb_;have HO:=Aside0.mk hO;clear hO;clear x5;have x5:=HO.out.box_cell 5 rfl 0 rfl))
    | ((with_reducible refine gate_dst (N:=27) rfl ?_);(refine ev_litB (N:=27) (n:=1) (t:=26) (cs:=#[.slice (some ⟨g26,0,none⟩) 1 1]) HO.out rfl rfl zhr ?_;intro g27 W_ hO hb_;clear HO hb_;have HO:=Aside0.mk hO;clear hO;clear x5;have x5:=HO.out.box_cell 5 rfl 0 rfl))
    | ((with_reducible refine gate_builtin (b:=.append) (xs:=#[.tmp 24,.tmp 29]) rfl ?_);at_builtin;(refine ev_append 4 HO.out rfl rfl (.tmp 24) (.tmp 29) 22 (.agg #[.slice none 0 0,.slice none 0 0,.slice none 0 0,.slice none 0 0,.slice none 0 0]) 120 rfl Try.underlying22 info49 rfl (Nat.succ_pos 4) (by decide) ([.slice none 0 0,.slice (some ⟨g27,0,none⟩) 1 1,.slice none 0 0,.slice none 0 0,.slice none 0 0]:List Value) [.slice none 0 0,.slice (some ⟨g27,0,none⟩) 1 1,.slice none 0 0,.slice none 0 0,.slice none 0 0] rfl rfl ⟨rfl,rfl,by simp [Value.oneCell']⟩ (by decide) ?_;intro A30 c30 W_ hO;clear HO x5;have HO:=Aside0.mk hO;clear hO))
    | ((with_reducible refine gate_store (t:=22) (p:=31) rfl ?_);(refine ev_store (cs':=#[.slice A30 1 c30]) (.slice A30 1 c30) 5 HO.out rfl rfl rfl rfl 0 rfl rfl sz22 za77 (show (0:Nat)+1≤1 by decide) rfl ?_;intro W_ hO;clear HO;have HO:=Aside0.mk hO;clear hO)))
   go_meet
   case rel =>
    refine ⟨[⟨[],[[n]],[],[],[]⟩],[[.slice none 0 0,.slice (some ⟨g27,0,none⟩) 1 1,.slice none 0 0,.slice none 0 0,.slice none 0 0]],A30,c30,_,_,⟨Nat.one_pos⟩,⟨⟨Nat.le_add_left _ _,fun r hr=>?_⟩⟩,HO,⟨rfl,fun j r cs hj hcs=>?_⟩⟩
    ·
     rw [List.mem_singleton] at hr
     subst hr
     exact ⟨Nat.zero_le _,Nat.le_add_left _ _,Nat.zero_le _,Nat.zero_le _,Nat.zero_le _,fun s h=>(by cases h),fun s h=>(by
      rw [List.mem_singleton] at h
      subst h
      exact ⟨Nat.le_add_left _ _,fun x hx=>by rw [List.mem_singleton] at hx;subst hx;have:=HNN.out;omega⟩),fun s h=>(by cases h)⟩
    ·
     cases j with
     | succ j=>simp at hj
     | zero =>
      simp at hj hcs
      subst hj hcs
      refine ⟨none,0,some ⟨g27,0,none⟩,1,none,0,none,0,none,0,rfl,Nat.le_refl _,.nil _ _,Nat.le_refl _,⟨[[.slice (some ⟨g26,0,none⟩) 1 1]],rfl,fun W hE=>?_,fun W hE j x cc hx hcc=>?_⟩,Nat.le_refl _,.nil _ _,Nat.le_refl _,fun W _=>Kd.C_nil _ _,Nat.le_refl _,fun W _=>Kd.C_nil _ _⟩
      ·
       exact box_raw (vs:=[.slice (some ⟨g26,0,none⟩) 1 1]) (hE.box (t:=26) (cs:=#[.slice (some ⟨g26,0,none⟩) 1 1]) (by simp)) za80 (show (1:Nat)≤1000 by decide) 1 rfl
      ·
       cases j with
       | succ j=>simp at hx
       | zero =>
        simp at hx hcc
        subst hx hcc
        exact set_K (ns:=[n]) (hE.box (t:=3) (cs:=#[.int .i64 n]) (by simp)) (show (1:Nat)≤1000 by decide) 1 rfl
 clear HO
 obtain ⟨Lr,rows,A5,c5,X1,X2,HL1,HBL,HO,HRX⟩:=hcut
 have hlr:=HBL.out.1
 have hN1:=HN.out
 have h0r:=HL1.out
 obtain ⟨at_,hat⟩:∃ k:Nat,q2 % (Lr.length:Int)=(k:Int):=⟨(q2 % (Lr.length:Int)).toNat,by have:=Int.emod_nonneg q2 (show (Lr.length:Int)≠0 by omega);omega⟩
 have hat2:at_<Lr.length:=by have:=Int.emod_lt_of_pos q2 (show 0<(Lr.length:Int) by omega);omega
 have HMA:=Aside0.mk (show abugidaref01_Mod.f q2 (Lr.length:Int)=some (at_:Int) by rw [mod_some q2 _ (by omega) (by omega),hat])
 obtain ⟨sw,hsw⟩:∃ s,q0 % 12=s:=⟨_,rfl⟩
 have hsw2:0≤sw∧sw<12:=by omega
 have HSL:=Aside0.mk (hsw ▸ HSEL.out)
 clear HSEL
 have HMS:=Aside0.mk (show abugidaref01_Mod.f q0 12=some sw by rw [mod_some q0 12 (by decide) (by decide),hsw])
 have HSW:=Aside0.mk hsw2
 have HAT:=Aside0.mk hat2
 have hllr:(Lr.length:Int)≤1001:=by omega
 obtain ⟨cs,hcs⟩:∃ cs,rows[at_]?=some cs:=⟨_,List.getElem?_eq_getElem (by rw [HRX.out.1];exact hat2)⟩
 have hrx:=HRX.out.2 at_ _ cs (List.getElem?_eq_getElem hat2) hcs
 have hbr:=HBL.out.2 _ (List.getElem_mem hat2)
 generalize Lr[at_]=r at hrx hbr
 obtain ⟨f0,f1,f2,f3,f4⟩:=r
 obtain ⟨A0',c0',A1',c1',A2',c2',A3',c3',A4',c4',rfl,b0,g0,b1,g1,b2,g2_,b3,g3_,b4,g4_⟩:=hrx
 dsimp only at b0 g0 b1 g1 b2 g2_ b3 g3_ b4 g4_
 have HCS:=Aside0.mk hcs
 have HBR:=Aside0.mk hbr
 have HBR0:=Aside0.mk (show f0.length≤N+1 from hbr.b0)
 have HBR1:=Aside0.mk (show f1.length≤N+1 from hbr.b1)
 have HBR2:=Aside0.mk (show f2.length≤N+1 from hbr.b2)
 have HBR3:=Aside0.mk (show f3.length≤N+1 from hbr.b3)
 have HBR4:=Aside0.mk (show f4.length≤N+1 from hbr.b4)
 have HC0:=Aside0.mk b0
 have HC1:=Aside0.mk b1
 have HC2:=Aside0.mk b2
 have HC3:=Aside0.mk b3
 have HC4:=Aside0.mk b4
 have HG0:=Aside0.mk g0
 have HG1:=Aside0.mk g1
 have HG2:=Aside0.mk g2_
 have HG3:=Aside0.mk g3_
 have HG4:=Aside0.mk g4_
 have x3:=HO.out.box_cell 2 rfl 2 rfl
 have x5:=HO.out.box_cell 5 rfl 0 rfl
 clear hat hsw hlr hN1 h0r hcs hbr b0 g0 b1 g1 b2 g2_ b3 g3_ b4 g4_ hsw2
 go_upto_region 6 with (first
  | (go_at_call 15;(refine (abugidaref01_Mod.calls q2 (Lr.length:Int) (at_:Int) _ HMA.out).mono ?_;rintro e_ W_ ⟨rfl,hd⟩;have nO:=Aside0.mk (HO.out.grow hd.below);clear HO hd;have HO:=nO;clear nO)))
 clear x3 x5
 have x5:=HO.out.box_cell 5 rfl 0 rfl
 obtain ⟨adr,hA,x0,x1,x2,x3,x4⟩:=at_raw5 (HO.out.row_sl 4 rfl).2.2 at_ HCS.out
 subst hA
 have r0:(0≤(at_:Int))=True:=eq_true (by omega)
 have r1:((at_:Int)<(Lr.length:Int))=True:=eq_true (by omega)
 have hwn:IntKind.i64.wrap (n+1)=n+1:=IntWalk.i64_in _ za84
 clear hat2
 go_upto_block 0 with (first
  | ((with_reducible refine gate_dst (N:=8) rfl ?_);(refine ev_box (N:=8) (cs:=#[.slice none 0 0,.slice none 0 0,.slice none 0 0,.slice none 0 0,.slice none 0 0]) (t:=49) HO.out rfl rfl zhr ?_;intro g8 W_ hO hb_;clear HO hb_;have HO:=Aside0.mk hO;clear hO))
  | ((with_reducible refine gate_store (t:=49) (p:=8) rfl ?_);(refine ev_store (cs':=#[.slice A0' f0.length c0',.slice A1' f1.length c1',.slice A2' f2.length c2',.slice A3' f3.length c3',.slice A4' f4.length c4']) (.agg #[.slice A0' f0.length c0',.slice A1' f1.length c1',.slice A2' f2.length c2',.slice A3' f3.length c3',.slice A4' f4.length c4']) 8 HO.out rfl rfl rfl rfl 0 rfl rfl sz49 za77 (Nat.le_refl _) rfl ?_;intro W_ hO;clear HO x0 x1 x2 x3 x4 x5;have HO:=Aside0.mk hO;clear hO))
  | ((with_reducible refine gate_dst (N:=46) rfl ?_);(refine ev_litB (N:=46) (n:=2) (t:=3) (cs:=#[.int .i64 n,.int .i64 (n+1)]) HO.out rfl rfl zhr ?_;intro g46 W_ hO hb_;clear HO hb_;have HO:=Aside0.mk hO;clear hO;have x30:=HO.out.box_cell 2 rfl 0 rfl))
  | (go_at_call 15;(refine (abugidaref01_Mod.calls q0 12 sw _ HMS.out).mono ?_;rintro e_ W_ ⟨rfl,hd⟩;have nO:=Aside0.mk (HO.out.grow hd.below);clear HO hd;have HO:=nO;clear nO x30)))
 go_cut [] (fun wc=>∃ (L':List S49) (rows':List (List Value)) (A6:Option Addr) (c6:Nat) (r':S49) (B0:Option Addr) (d0:Nat) (B1:Option Addr) (d1:Nat) (B2:Option Addr) (d2:Nat) (B3:Option Addr) (d3:Nat) (B4:Option Addr) (d4:Nat) (Y1 Y2 Y3:Res),Aside0 (at_<L'.length)∧Aside0 (BdL (N+12) L')∧Aside0 (Bd (N+12) r')∧Aside0 (Own w wc [R0,.box g2 24 #[.slice A l.length c],.box g3 27 #[.int .i64 q0,.int .i64 q1,.int .i64 q2],.box g4 24 #[.slice none 0 0],.row (Kd.raw 5) 49 w.heap.size (.slice A6 L'.length c6) rows',.box g5 24 #[.slice A6 L'.length c6],X1,X2,.box g8 49 #[.slice B0 r'.f0.length d0,.slice B1 r'.f1.length d1,.slice B2 r'.f2.length d2,.slice B3 r'.f3.length d3,.slice B4 r'.f4.length d4],.box g46 3 #[.int .i64 n,.int .i64 (n+1)],Y1,Y2,Y3])∧Aside0 (RulesX (EX w [X1,X2,.box g46 3 #[.int .i64 n,.int .i64 (n+1)],Y1,Y2,Y3]) L' rows')∧Aside0 (RuleX (EX w [X1,X2,.box g46 3 #[.int .i64 n,.int .i64 (n+1)],Y1,Y2,Y3]) r' [.slice B0 r'.f0.length d0,.slice B1 r'.f1.length d1,.slice B2 r'.f2.length d2,.slice B3 r'.f3.length d3,.slice B4 r'.f4.length d4]))
 case first =>
  have HBU:=Aside0.mk (HBR.out.le (show N+1≤N+12 by omega))
  have HBLU:=Aside0.mk (HBL.out.le (show N+1≤N+12 by omega))
  rcases HSL.out with rfl
  ·
   as_aux_lemma =>
   obtain ⟨cv,hcv⟩:∃ cv,(#[.int .i64 (-1),.int .i64 0,.int .i64 7,.int .i64 8,.int .i64 99,.int .i64 100]:Array Value)[n.toNat]?=some (.int .i64 cv)∧-1≤cv∧cv≤100:=by
    have h1:=HNN.out
    rcases (show n=0∨n=1∨n=2∨n=3∨n=4∨n=5 by omega) with rfl|rfl|rfl|rfl|rfl|rfl<;>exact ⟨_,rfl,by decide,by decide⟩
   have HCO:=Aside0.mk hcv.1
   have HCV:=Aside0.mk hcv.2
   obtain ⟨nf,hnf⟩:∃ nf,[[cv]]++f1=nf:=⟨_,rfl⟩
   have HNF:=Aside0.mk hnf
   have t1:(n<6)=True:=eq_true za84
   have t0:(0≤n)=True:=eq_true HNN.out.1
   obtain ⟨rf,hrl,hrC,hrK⟩:=HG1.out
   have HRF:=Aside0.mk hrl
   have HRFC:=Aside0.mk hrC
   have HRFK:=Aside0.mk hrK
   have HMO:=Aside0.mk (show ∀ s∈([[cv]]:List (List Int)),I64s (N+12) s from fun s hs=>by
    have h1:=HCV.out
    rw [List.mem_singleton] at hs
    subst hs
    exact ⟨Nat.le_add_left _ _,fun x hx=>by rw [List.mem_singleton] at hx;subst hx;omega⟩)
   clear hcv hnf hrl hrC hrK
   go_upto_region 26 with (fail)
   have nO:=Aside0.mk HO.out.drew
   clear HO
   have HO:=nO
   clear nO
   have z:=HO.out.box_cell 8 rfl 1 rfl
   refine wp_region_but (fun w'=>w'.cell? ⟨g8,1,none⟩=some (.slice A1' f1.length c1')) 10 (by kernel_rfl) ?_
   refine wpBut_take (i:=1) (v:=?_) rfl (by kernel_rfl) (by decide) (by kernel_rfl) (fun _ _ _ h=>h) _ _ _ _ (by kernel_rfl) (by kernel_rfl) (Or.inl ⟨by rfl,?_⟩) z ?_
   rotate_left
   ·
    (intro w hS;go_simp)<;>with_reducible rfl
   go_simp
   refine wpBut_take (i:=6) (v:=?_) rfl (by kernel_rfl) (by decide) (by kernel_rfl) (fun _ _ _ h=>h) _ _ _ _ (by kernel_rfl) (by kernel_rfl) (Or.inl ⟨by rfl,?_⟩) z ?_
   rotate_left
   ·
    (intro w hS;go_simp)<;>with_reducible rfl
   go_simp
   refine wpBut_take (i:=7) (v:=?_) rfl (by kernel_rfl) (by decide) (by kernel_rfl) (fun _ _ _ h=>h) _ _ _ _ (by kernel_rfl) (by kernel_rfl) (Or.inl ⟨by rfl,?_⟩) z ?_
   rotate_left
   ·
    (intro w hS;go_simp)<;>with_reducible rfl
   go_simp
   refine wpBut_ready (rs:=[0]) (by kernel_rfl) (by simp) ?_
   refine (ButReady.cons rfl (fun K hK=>?_) ButReady.nil)
   refine ev_litB_step (N:=134) (n:=6) (t:=3) (cs:=#[.int .i64 (-1),.int .i64 0,.int .i64 7,.int .i64 8,.int .i64 99,.int .i64 100]) HO.out (by rfl) rfl ?hr ?_
   (case hr=>exact lit6_run _ _ rfl _)
   intro g134 W_ hO
   clear HO;have HO:=Aside0.mk hO;clear hO
   clear z
   have z:=HO.out.box_cell 8 rfl 1 rfl
   have xc:=HO.out.box_cell 10 rfl n.toNat HCO.out
   try go_simp
   refine hK _ _ ⟨Or.inr z,?_⟩
   clear hK K
   try go_simp
   refine wpBut_take (i:=2) (v:=?_) rfl (by kernel_rfl) (by decide) (by kernel_rfl) (fun _ _ _ h=>h) _ _ _ _ (by kernel_rfl) (by kernel_rfl) (Or.inl ⟨by rfl,?_⟩) z ?_
   rotate_left
   ·
    (intro w hS;go_simp)<;>with_reducible rfl
   go_simp
   refine wpBut_ready (rs:=[3]) (by kernel_rfl) (by simp) ?_
   refine (ButReady.cons rfl (fun K hK=>?_) ButReady.nil)
   go_simp
   try go_simp
   refine hK _ _ ⟨Or.inr z,?_⟩
   clear hK K
   try go_simp
   refine wpBut_ready (rs:=[4]) (by kernel_rfl) (by simp) ?_
   refine (ButReady.cons rfl (fun K hK=>?_) ButReady.nil)
   refine ev_litB_step (N:=138) (n:=1) (t:=3) (cs:=#[.int .i64 cv]) HO.out (by rfl) rfl ?hr ?_
   (case hr=>exact lit1_run _ _ rfl rfl _)
   intro g138 W_ hO
   clear HO;have HO:=Aside0.mk hO;clear hO
   clear z xc
   have z:=HO.out.box_cell 8 rfl 1 rfl
   have xc:=HO.out.box_cell 10 rfl n.toNat HCO.out
   try go_simp
   refine hK _ _ ⟨Or.inr z,?_⟩
   clear hK K
   try go_simp
   refine wpBut_ready (rs:=[5]) (by kernel_rfl) (by simp) ?_
   refine (ButReady.cons rfl (fun K hK=>?_) ButReady.nil)
   refine ev_litR_step (Kd.raw 1) 26 (N:=139) (xs:=([[Value.slice (some ⟨g138,0,none⟩) 1 1]]:List (List Value))) (inner:=[.slice (some ⟨g138,0,none⟩) 1 1]) HO.out (by rfl) rfl ?hr ?hp (show (1:Nat)≤9223372036854775807 by decide) ?_
   (case hr=>exact lit1s_run _ _ rfl rfl _)
   (case hp=>exact Reps.one ⟨rfl,rfl,by simp [Value.oneCell']⟩ (Reps.none _ _))
   intro A139 c139 W_ hO
   clear HO;have HO:=Aside0.mk hO;clear hO
   clear z xc
   have z:=HO.out.box_cell 8 rfl 1 rfl
   have xc:=HO.out.box_cell 10 rfl n.toNat HCO.out
   try go_simp
   refine hK _ _ ⟨Or.inr z,?_⟩
   clear hK K
   try go_simp
   refine wpBut_ready (rs:=[8]) (by kernel_rfl) (by simp) ?_
   refine (ButReady.cons rfl (fun K hK=>?_) ButReady.nil)
   refine ev_rows_step 12 HO.out rfl (by rfl) (.tmp 139) (.tmp 141) 25 (.slice none 0 0) 24 rfl Try.underlying25 hinf26 rfl (Nat.succ_pos 0) (by decide) rf A1' f1.length c1' ([[Value.slice (some ⟨g138,0,none⟩) 1 1]]++rf) nf.length rfl za79 rfl rfl (HRFC.out _ (ex3 HO.out)) (fun _ _ h=>h) (by have:=HBR1.out;have:=HN.out;simp;omega) ?_
   intro A142 c142 W_ hO
   clear HO;have HO:=Aside0.mk hO;clear hO
   clear z xc
   have z:=HO.out.box_cell 8 rfl 1 rfl
   have xc:=HO.out.box_cell 10 rfl n.toNat HCO.out
   try go_simp
   refine hK _ _ ⟨Or.inr z,?_⟩
   clear hK K
   try go_simp
   refine wpBut_take (i:=9) (v:=?_) rfl (by kernel_rfl) (by decide) (by kernel_rfl) (fun _ _ _ h=>h) _ _ _ _ (by kernel_rfl) (by kernel_rfl) (Or.inl ⟨by rfl,?_⟩) z ?_
   rotate_left
   ·
    (intro w hS;go_simp)<;>with_reducible rfl
   go_simp
   refine wpBut_ready (rs:=[10]) (by kernel_rfl) (by simp) ?_
   refine (ButReady.cons rfl (fun K hK=>?_) ButReady.nil)
   have f3_:=HO.out.box_free 8 rfl 1
   go_simp
   have hO:=HO.out.put 8 rfl 1 (.slice A142 nf.length c142) (by simp) rfl
   clear z xc f3_
   clear HO;have HO:=Aside0.mk hO;clear hO
   try go_simp
   refine hK _ _ ⟨Or.inl rfl,?_⟩
   clear hK K
   try go_simp
   refine wpBut_done (by kernel_rfl) ?_ _
   try go_wp2
   go_meet
   case rel=>exact ⟨Lr,rows,some adr,c5,⟨f0,nf,f2,f3,f4⟩,A0',c0',A142,c142,A2',c2',A3',c3',A4',c4',.box g134 3 #[.int .i64 (-1),.int .i64 0,.int .i64 7,.int .i64 8,.int .i64 99,.int .i64 100],.box g138 3 #[.int .i64 cv],.row (Kd.raw 1) 26 w.heap.size (.slice A142 nf.length c142) ([[Value.slice (some ⟨g138,0,none⟩) 1 1]]++rf),HAT,HBLU,⟨⟨HBU.out.b0,(by rw [← HNF.out];have:=HBR1.out;simp;omega),HBU.out.b2,HBU.out.b3,HBU.out.b4,HBU.out.s0,(by have h_:=mem_more HMO.out HBU.out.s1;rw [HNF.out] at h_;exact h_),HBU.out.s2⟩⟩,⟨HO.out⟩,⟨HRX.out.imp sub2⟩,⟨A0',c0',A142,c142,A2',c2',A3',c3',A4',c4',rfl,HC0.out,HG0.out.imp sub2,(HO.out.row_sl 12 rfl).2.1,(by have h_:=FldX.app (E:=EX w [X1,X2,.box g46 3 #[.int .i64 n,.int .i64 (n+1)],.box g134 3 #[.int .i64 (-1),.int .i64 0,.int .i64 7,.int .i64 8,.int .i64 99,.int .i64 100],.box g138 3 #[.int .i64 cv],.row (Kd.raw 1) 26 w.heap.size (.slice A142 nf.length c142) ([[Value.slice (some ⟨g138,0,none⟩) 1 1]]++rf)]) (A:=A142) (f:=[[cv]]) (more:=f1) (rf:=[[Value.slice (some ⟨g138,0,none⟩) 1 1]]) (rm:=rf) rfl HRF.out (fun W hE=>by rw [HNF.out];exact hE.row (e:=26) (B:=w.heap.size) (c:=c142) (by simp)) (FldK.cons (fun W hE=>set_K (ns:=[cv]) (hE.box (t:=3) (cs:=#[.int .i64 cv]) (by simp)) (show (1:Nat)≤1000 by decide) 1 rfl) (FldK.nil _)) (fun W hE=>HRFK.out W (sub2 W hE));rw [HNF.out] at h_;exact h_),HC2.out,HG2.out.imp sub2,HC3.out,fun W hE=>HG3.out W (sub2 W hE),HC4.out,fun W hE=>HG4.out W (sub2 W hE)⟩⟩
 clear HO
 obtain ⟨L',rows',A6,c6,r',B0,d0,B1,d1,B2,d2,B3,d3,B4,d4,Y1,Y2,Y3,HA2,HB2,HR2,HO,HRX2,HRR⟩:=hcut
 obtain ⟨ad6,h6,-⟩:=(HO.out.row_sl 4 rfl).2.2.2.2 (by rw [HRX2.out.1];have:=HA2.out;omega)
 subst h6
 obtain ⟨g6,rfl⟩:=Kd.R_head (HO.out.row_R 4 rfl)
 have hCg:=(HO.out.row_sl 4 rfl).2.2
 rw [← (HO.out.row_sl 4 rfl).1] at hCg
 obtain ⟨ad7,cc,e7,hcl,-,hcc⟩:=Kd.C_get hCg [] (at_:Int) (by omega) (by have:=HA2.out;omega)
 obtain rfl:=(Option.some.inj e7).symm
 rw [Int.toNat_natCast] at hcc
 have HCC:=Aside0.mk (show ∀ (j:Nat) (u:Value),cc[j]?=some u→(∀ (q:Nat),(⟨g6,0,none⟩:Addr).add q=⟨g6,q,none⟩)∧True from fun j u h=>⟨fun q=>by have:=addr1 g6 q;rwa [Nat.mul_one,Nat.add_zero] at this,trivial⟩)
 clear HCC
 have HCC:=Aside0.mk hcc
 have HCL:=Aside0.mk hcl
 have z5:=HO.out.box_cell 5 rfl 0 rfl
 have z0:=HO.out.box_cell 8 rfl 0 rfl
 have z1:=HO.out.box_cell 8 rfl 1 rfl
 have z2:=HO.out.box_cell 8 rfl 2 rfl
 have z3:=HO.out.box_cell 8 rfl 3 rfl
 have z4:=HO.out.box_cell 8 rfl 4 rfl
 have r2:((at_:Int)<(L'.length:Int))=True:=eq_true (by have:=HA2.out;omega)
 clear hcc hcl e7 hCg
 have hga:∀ q,(⟨g6,0,none⟩:Addr).add q=⟨g6,q,none⟩:=fun q=>by have:=addr1 g6 q;rwa [Nat.mul_one,Nat.add_zero] at this
 have HGA:=Aside0.mk hga
 clear hga
 go_wp2_with (first
  | ((with_reducible refine gate_store (t:=49) (p:=186) rfl ?_);(refine ev_storeE 4 HO.out rfl rfl rfl 49 (.tmp 186) (.tmp 185) rfl at_ (.agg #[.slice B0 r'.f0.length d0,.slice B1 r'.f1.length d1,.slice B2 r'.f2.length d2,.slice B3 r'.f3.length d3,.slice B4 r'.f4.length d4]) [.slice B0 r'.f0.length d0,.slice B1 r'.f1.length d1,.slice B2 r'.f2.length d2,.slice B3 r'.f3.length d3,.slice B4 r'.f4.length d4] cc ?ha rfl rfl sz49 za80 HA2.out HCL.out (fun j u hj=>by rw [← HGA.out];exact HCC.out j u hj) rfl ?_;(case ha=>first|rfl|(go_simp;done)|(simp [HGA.out];done));intro W_ hO;clear HO z0 z1 z2 z3 z4 z5;have HO:=Aside0.mk hO;clear hO;have z5:=HO.out.box_cell 5 rfl 0 rfl))
  | ((with_reducible refine gate_store (t:=24) (p:=4) rfl ?_);(refine ev_store (cs':=#[.slice (some ⟨g6,0,none⟩) L'.length c6]) (.agg #[.slice (some ⟨g6,0,none⟩) L'.length c6]) 3 HO.out rfl rfl rfl rfl 0 rfl rfl sz24 za77 (Nat.le_refl _) rfl ?_;intro W_ hO;clear HO z5;have HO:=Aside0.mk hO;clear hO)))
 refine bodyPost_ret (results_cell_row rfl _ _ g4 24 #[.slice (some ⟨g6,0,none⟩) L'.length c6] (0,0) _ rfl (HO.out.box_at 3 rfl).1 Try.underlying24 rfl sz24) rfl ⟨some ⟨g6,0,none⟩,c6,L'.set at_ r',_,by rw [List.length_set],?hfr,by rw [List.length_set];exact (HO.out.row_sl 4 rfl).2.1,⟨by rw [List.length_set];exact HB2.out.1,fun r hr=>?hbb⟩,HO.out⟩
 case hbb =>
  rcases List.mem_or_eq_of_mem_set hr with hr|rfl
  ·
   exact HB2.out.2 r hr
  ·
   exact HR2.out
 case hfr =>
  intro W hW
  have hE:EX w [X1,X2,.box g46 3 #[.int .i64 n,.int .i64 (n+1)],Y1,Y2,Y3] W:=⟨hW.1,fun X hX=>hW.2 X (by
   simp only [List.mem_cons,List.not_mem_nil,or_false] at hX ⊢
   rcases hX with rfl|rfl|rfl|rfl|rfl|rfl<;>simp)⟩
  have hrow:=hW.row (d:=Kd.raw 5) (e:=49) (B:=w.heap.size) (A:=some ⟨g6,0,none⟩) (n:=L'.length) (c:=c6) (xs:=rows'.set at_ [.slice B0 r'.f0.length d0,.slice B1 r'.f1.length d1,.slice B2 r'.f2.length d2,.slice B3 r'.f3.length d3,.slice B4 r'.f4.length d4]) (by simp)
  have hC:=(HRX2.out.set at_ HRR.out).C hE hrow
  rw [List.length_set]
  exact hC
end Go.Proofs.Ytlgkeaildncojaa.Q
end
