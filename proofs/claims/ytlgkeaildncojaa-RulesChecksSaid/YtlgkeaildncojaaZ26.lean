/- Texts of this claim, merged by wip/tools/pack.py: Qx12, Mh, Md, Ml, Rl, Rm, Qx4, Qx1, Qx9. -/
import Derived.Test.YtlgkeaildncojaaZ25
import Derived.Deep.RegionLaw
section
namespace Go.Proofs.Ytlgkeaildncojaa.Q
open Go.RowKit Go.Proofs.YtlgkeaildncojaaW.PrintWords Go.Proofs.YtlgkeaildncojaaW.PrintLast Go.Proofs.YtlgkeaildncojaaW.PrintMore
attribute [local go_sem] max2_int min2_int max_two min_two max_three min_three max_four min_four   -- for this text's walks alone
set_option linter.unusedVariables false
set_option linter.unusedSimpArgs false
def abugidaref01_Mod.f (a0:Int) (a1:Int):Option (Int):=if a1=0 then (none) else (some (Int.tmod (wrap64 ((Int.tmod a0 a1)+a1)) a1))
set_option maxHeartbeats 8000000 in
set_option maxRecDepth 100000 in
theorem abugidaref01_Mod.calls (a0:Int) (a1:Int) (r:Int) (w:World) (h:abugidaref01_Mod.f a0 a1=some r) :
  Calls Try.prog 15 #[.int .i64 a0,.int .i64 a1] w fun e w'=>e=.returned (.int .i64 r)∧Drawn0 w w':=by
 have H:(if a1=0 then (none) else (some (Int.tmod (wrap64 ((Int.tmod a0 a1)+a1)) a1)))=some r:=h
 clear h
 by_cases c3:a1=0
 ·
  rw [if_pos c3] at H
  exact absurd H (by simp)
 ·
  rw [if_neg c3] at H
  have c3b0:(a1==0)=false:=beq_eq_false_iff_ne.mpr c3
  have c3b1:(a1 != 0)=true:=bne_iff_ne.mpr c3
  obtain rfl:=Option.some.inj H
  go_enter Try.func15,Try.ntmps15
  go_wp2
  go_ret
  exact ⟨by first|rfl|(simp;done)|(simp [*];done),by repeat (first|exact Drawn0.refl _|apply Drawn0.step)⟩
def IsS104 (w0 W:World) (g:Nat) (f0:List Int) (f1:Int):Prop:=∃ A0 c0,W.heap[g]?=some (.cells #[.slice A0 f0.length c0,.int .i64 f1] 104 (0,0))∧w0.heap.size≤g∧Kd.C (Kd.int .i64) w0 A0 f0.length f0
theorem IsS104.grown {w0 W:World} {g:Nat} {f0:List Int} {f1:Int} {W1:World} {row:Option Nat} (h:IsS104 w0 W g f0 f1) (hw:W.grownBy W1 row) (hne:some g≠row):IsS104 w0 W1 g f0 f1:=by
 obtain ⟨A0,c0,hb,hg,hr0⟩:=h
 exact ⟨A0,c0,blk_grown hb hw hne,hg,hr0⟩
theorem IsS104.kept {w0 W:World} {g:Nat} {f0:List Int} {f1:Int} {W1:World} {S:Nat→Prop} (h:IsS104 w0 W g f0 f1) (hk:Kept W W1 S) (hne:¬ S g):IsS104 w0 W1 g f0 f1:=by
 obtain ⟨A0,c0,hb,hg,hr0⟩:=h
 exact ⟨A0,c0,blk_kept hb hk hne,hg,hr0⟩
theorem IsS104.below {w0 W:World} {g:Nat} {f0:List Int} {f1:Int} {W1:World} (h:IsS104 w0 W g f0 f1) (hw:Below W.heap.size W W1):IsS104 w0 W1 g f0 f1:=h.grown (grown_of_below hw none) (by simp)
theorem IsS104.alloc {w0 W:World} {g:Nat} {f0:List Int} {f1:Int} (h:IsS104 w0 W g f0 f1) (o:Obj):IsS104 w0 (W.alloc o) g f0 f1:=h.below (below_alloc (Below.refl _ _) o)
theorem IsS104.drewN {w0 W:World} {g:Nat} {f0:List Int} {f1:Int} (h:IsS104 w0 W g f0 f1) (m:Nat):IsS104 w0 (W.drewN m) g f0 f1:=h
theorem IsS104.drew {w0 W:World} {g:Nat} {f0:List Int} {f1:Int} (h:IsS104 w0 W g f0 f1):IsS104 w0 W.drew g f0 f1:=h
theorem IsS104.at_ {w0 W:World} {g:Nat} {f0:List Int} {f1:Int} {w':World} {m:Nat} (hq:W.drewN m=w') (h:IsS104 w0 W g f0 f1):IsS104 w0 w' g f0 f1:=by subst hq;exact IsS104.drewN h m
theorem IsS104.apart {w0 W:World} {g:Nat} {f0:List Int} {f1:Int} {α:Type} {d:Kd α} {e:Nat} {base:Nat} {ok:Nat→Prop} {v:Value} {xs:List α} (h:IsS104 w0 W g f0 f1) (ho:d.R e W base ok v xs) (ht:∀ q,q∈e :: d.E→q≠104):d.R e W base (fun k=>ok k∧k≠g) v xs:=by
 obtain ⟨A0,c0,hb,hg,hr0⟩:=h
 exact Kd.R_types ho hb ht
theorem IsS104.own_ne {w0 W:World} {g:Nat} {f0:List Int} {f1:Int} {α:Type} {d:Kd α} {e:Nat} {base:Nat} {ok:Nat→Prop} {v:Value} {xs:List α} (h:IsS104 w0 W g f0 f1) (ho:d.R e W base ok v xs) (ht:e≠104):some g≠v.ownBlock:=by
 obtain ⟨A0,c0,hb,hg,hr0⟩:=h
 exact Kd.R_ne ho hb ht
theorem IsS104.apartS {w0 W:World} {g:Nat} {f0:List Int} {f1:Int} {α:Type} {d:Kd α} {e:Nat} {base:Nat} {ok:Nat→Prop} {v:Value} {xs:List α} (h:IsS104 w0 W g f0 f1) (ho:d.S e W base ok v xs) (ht:∀ q,q∈e :: d.E→q≠104):d.S e W base (fun k=>ok k∧k≠g) v xs:=by
 obtain ⟨A0,c0,hb,hg,hr0⟩:=h
 exact Kd.S_types ho hb ht
theorem IsS104.own_neS {w0 W:World} {g:Nat} {f0:List Int} {f1:Int} {α:Type} {d:Kd α} {e:Nat} {base:Nat} {ok:Nat→Prop} {v:Value} {xs:List α} (h:IsS104 w0 W g f0 f1) (ho:d.S e W base ok v xs) (ht:e≠104):some g≠v.ownBlock:=by
 obtain ⟨A0,c0,hb,hg,hr0⟩:=h
 exact Kd.S_ne ho hb ht
theorem IsS104.lt {w0 W:World} {g:Nat} {f0:List Int} {f1:Int} (h:IsS104 w0 W g f0 f1):g<W.heap.size:=by
 obtain ⟨A0,c0,hb,hg,hr0⟩:=h
 exact blk_lt hb
theorem IsS104.ge {w0 W:World} {g:Nat} {f0:List Int} {f1:Int} (h:IsS104 w0 W g f0 f1):w0.heap.size≤g:=by
 obtain ⟨A0,c0,hb,hg,hr0⟩:=h
 exact hg
theorem cellS104_0 {W:World} {g:Nat} {A0:Option Addr} {c0:Nat} {f0:List Int} {f1:Int} (h:W.heap[g]?=some (.cells #[.slice A0 f0.length c0,.int .i64 f1] 104 (0,0))):W.cell? ⟨g,0,none⟩=some (.slice A0 f0.length c0):=(blk_cell h 0).trans rfl
theorem cellS104_1 {W:World} {g:Nat} {A0:Option Addr} {c0:Nat} {f0:List Int} {f1:Int} (h:W.heap[g]?=some (.cells #[.slice A0 f0.length c0,.int .i64 f1] 104 (0,0))):W.cell? ⟨g,1,none⟩=some (.int .i64 f1):=(blk_cell h 1).trans rfl
theorem IsS104.set_1 {w0 W:World} {g:Nat} {f0:List Int} {f1:Int} (h:IsS104 w0 W g f0 f1) (x:Int):IsS104 w0 (W.setCell ⟨g,1,none⟩ (.int .i64 x)) g f0 x:=by
 obtain ⟨A0,c0,hb,hg,hr0⟩:=h
 exact ⟨A0,c0,by simpa using blk_set hb 1 (.int .i64 x),hg,hr0⟩
theorem IsS104.new (w0 W:World) (A0:Option Addr) (c0:Nat) (f0:List Int) (f1:Int) (hB:Below w0.heap.size w0 W) (hr0:Kd.C (Kd.int .i64) w0 A0 f0.length f0):IsS104 w0 (W.alloc (.cells #[.slice A0 f0.length c0,.int .i64 f1] 104)) W.heap.size f0 f1:=⟨A0,c0,by simpa using heap_alloc_new W _,hB.size,hr0⟩
def abugidaref01_Draw_Next.f (s0_0:List Int) (s0_1:Int) (a1:Int):Option (Int × Int):=if s0_1 ≥ (s0_0.length:Int) then (some (0,s0_1)) else (if 0≤(wrap64 ((wrap64 (s0_1+1)) - 1)) then (if (wrap64 ((wrap64 (s0_1+1)) - 1))<(s0_0.length:Int) then ((abugidaref01_Mod.f (rd s0_0 (wrap64 ((wrap64 (s0_1+1)) - 1))) a1).bind fun t165=>(some (t165,wrap64 (s0_1+1)))) else (none)) else (none))
set_option maxHeartbeats 8000000 in
set_option maxRecDepth 100000 in
theorem abugidaref01_Draw_Next.calls (g:Nat) (s0_0:List Int) (s0_1:Int) (a1:Int) (r1:Int) (r2:Int) (w0 w:World) (hI:IsS104 w0 w g s0_0 s0_1) (hB:Below w0.heap.size w0 w) (h:abugidaref01_Draw_Next.f s0_0 s0_1 a1=some (r1,r2)) :
  Calls Try.prog 60 #[.pointer (some ⟨g,0,none⟩),.int .i64 a1] w fun e w'=>e=.returned (.int .i64 r1)∧IsS104 w0 w' g s0_0 r2∧Below w0.heap.size w0 w'∧KeepBut w w' g none:=by
 have HI0:=Aside0.mk hI
 have HK:=Aside0.mk (KeepBut.refl w g none)
 have HL:=Aside0.mk hB.size
 clear hI
 have HW0:=Aside0.mk hB.size
 have HB:=Aside0.mk hB
 clear hB
 have H:(if s0_1 ≥ (s0_0.length:Int) then (some (0,s0_1)) else (if 0≤(wrap64 ((wrap64 (s0_1+1)) - 1)) then (if (wrap64 ((wrap64 (s0_1+1)) - 1))<(s0_0.length:Int) then ((abugidaref01_Mod.f (rd s0_0 (wrap64 ((wrap64 (s0_1+1)) - 1))) a1).bind fun t165=>(some (t165,wrap64 (s0_1+1)))) else (none)) else (none)))=some (r1,r2):=h
 clear h
 by_cases c3:s0_1 ≥ (s0_0.length:Int)
 ·
  rw [if_pos c3] at H
  have c3b0:decide ((s0_0.length:Int)≤s0_1)=true:=decide_eq_true c3
  clear c3
  simp only [Option.some.injEq,Prod.mk.injEq] at H
  obtain ⟨rfl,rfl⟩:=H
  obtain ⟨ASz4_0,cSz4_0,HGz4,hgz4,HSz4_0⟩:=HI0.out
  have hcz4_0:=cellS104_0 HGz4
  have hcz4_1:=cellS104_1 HGz4
  have hfz4_1:=blk_frozen HGz4 1
  clear HGz4 hgz4
  go_enter Try.func60,Try.ntmps60
  go_wp2
  repeat (go_quiet (fail);try go_wp2)
  go_ret
  exact ⟨by first|rfl|(simp [errW_none,errW_some]<;>rfl)|(simp [*,errW_none,errW_some]<;>rfl),by repeat (first|(with_reducible first|exact HI0.out|apply IsS104.alloc|apply IsS104.drewN|apply IsS104.drew|apply IsS104.set_1)|exact HI0.out),by repeat (first|(with_reducible first|exact HB.out|apply below_alloc|apply pw_below_drewN|apply below_drew1|refine below_set ?_ (IsS104.ge HI0.out))|exact HB.out),by repeat (first|(with_reducible first|exact HK.out|apply KeepBut.set_|apply keep_drewN|apply keep_drew|apply keep_alloc)|exact HK.out)⟩
 ·
  rw [if_neg c3] at H
  have c3b0:decide ((s0_0.length:Int)≤s0_1)=false:=decide_eq_false c3
  clear c3
  obtain ⟨ji5,hji5⟩:∃ j_:Int,(wrap64 ((wrap64 (s0_1+1)) - 1))=j_:=⟨_,rfl⟩
  replace H:(if 0≤(ji5) then (if (ji5)<(s0_0.length:Int) then ((abugidaref01_Mod.f (rd s0_0 (ji5)) a1).bind fun t165=>(some (t165,wrap64 (s0_1+1)))) else (none)) else (none))=some (r1,r2):=by first|(rw [hji5] at H;exact H)|(simp only [hji5] at H ⊢;exact H)
  have hji5w:(IntKind.i64.wrap ((wrap64 (s0_1+1)) - 1))=ji5:=(i64_w _).trans hji5
  by_cases c6:0≤(ji5)
  ·
   rw [if_pos c6] at H
   have c6b0:decide (0≤(ji5))=true:=decide_eq_true c6
   clear c6
   by_cases c7:(ji5)<(s0_0.length:Int)
   ·
    rw [if_pos c7] at H
    have c7b0:decide ((ji5)<(s0_0.length:Int))=true:=decide_eq_true c7
    clear c7
    replace H:=Option.bind_eq_some_iff.mp H
    obtain ⟨t165,A80,H⟩:=H
    replace H:(some (t165,wrap64 (s0_1+1)))=some (r1,r2):=H
    have A8:=Aside0.mk A80
    clear A80
    simp only [Option.some.injEq,Prod.mk.injEq] at H
    obtain ⟨rfl,rfl⟩:=H
    obtain ⟨ASz9_0,cSz9_0,HGz9,hgz9,HSz9_0⟩:=HI0.out
    have hcz9_0:=cellS104_0 HGz9
    have hcz9_1:=cellS104_1 HGz9
    have hfz9_1:=blk_frozen HGz9 1
    clear HGz9 hgz9
    have p164:0≤((ji5):Int):=of_decide_eq_true za73
    have q164:(ji5)<(s0_0.length:Int):=of_decide_eq_true za73
    obtain ⟨j1o,e164,j7_⟩:=Kd.at_int HSz9_0 (ji5) p164 q164
    cases e164
    have j9_:j1o.block≠g:=Nat.ne_of_lt (Nat.lt_of_lt_of_le (by have:=World.block_lt_of_cell? _ _ j7_;first|rwa [add_block] at this|exact this) (IsS104.ge HI0.out))
    replace j7_:=pw_cell_below HB.out j7_
    replace j7_:=(cell_far (p:=⟨g,1,none⟩) (by first|(rw [add_block];exact j9_)|(show (Addr.add _ _).block≠_;rw [add_block];exact j9_)|exact j9_) (.int .i64 (wrap64 (s0_1+1)))).trans j7_
    (try have j29:=fun (n_:Nat)=>(show (((w.drewN n_).setCell ⟨g,1,none⟩ (.int .i64 (wrap64 (s0_1+1))))).cell? _=some _ from j7_))
    clear j9_
    replace p164:=eq_true p164
    replace q164:=eq_true q164
    go_enter Try.func60,Try.ntmps60
    go_wp2_with (first|(go_at_call 15;(with_reducible refine (abugidaref01_Mod.calls (rd s0_0 (ji5)) a1 t165 _ A8.out).mono ?_);rintro e w' ⟨rfl,⟨nd,rfl⟩⟩;(try first|exact ⟨rfl,_,World.drewN_drewN _ _ _⟩|exact ⟨rfl,_,Eq.trans (World.drewN_drewN _ _ _) (congrArg (World.drewN _) (Nat.add_assoc _ _ _))⟩)))
    repeat (go_quiet (first|(go_at_call 15;(with_reducible refine (abugidaref01_Mod.calls (rd s0_0 (ji5)) a1 t165 _ A8.out).mono ?_);rintro e w' ⟨rfl,⟨nd,rfl⟩⟩;(try first|exact ⟨rfl,_,World.drewN_drewN _ _ _⟩|exact ⟨rfl,_,Eq.trans (World.drewN_drewN _ _ _) (congrArg (World.drewN _) (Nat.add_assoc _ _ _))⟩)));try go_wp2_with (first|(go_at_call 15;(with_reducible refine (abugidaref01_Mod.calls (rd s0_0 (ji5)) a1 t165 _ A8.out).mono ?_);rintro e w' ⟨rfl,⟨nd,rfl⟩⟩;(try first|exact ⟨rfl,_,World.drewN_drewN _ _ _⟩|exact ⟨rfl,_,Eq.trans (World.drewN_drewN _ _ _) (congrArg (World.drewN _) (Nat.add_assoc _ _ _))⟩))))
    go_ret
    exact ⟨by first|rfl|(simp [errW_none,errW_some]<;>rfl)|(simp only [← hji5];first|rfl|(simp [errW_none,errW_some]<;>rfl))|(simp [*,errW_none,errW_some]<;>rfl),by repeat (first|(with_reducible first|exact HI0.out|apply IsS104.alloc|apply IsS104.drewN|apply IsS104.drew|apply IsS104.set_1)|exact HI0.out),by repeat (first|(with_reducible first|exact HB.out|apply below_alloc|apply pw_below_drewN|apply below_drew1|refine below_set ?_ (IsS104.ge HI0.out))|exact HB.out),by repeat (first|(with_reducible first|exact HK.out|apply KeepBut.set_|apply keep_drewN|apply keep_drew|apply keep_alloc)|exact HK.out)⟩
   ·
    rw [if_neg c7] at H
    exact absurd H (by simp)
  ·
   rw [if_neg c6] at H
   exact absurd H (by simp)
def abugidaref15_With.l0:Nat→List Int→Int→Int→Option (List Int)
 | 0,_,_,_=>none
 | k+1,x0,x1,x5=>if x5<(x0.length:Int) then (if 0≤x5 then (if (rd x0 x5)<x1 then (abugidaref15_With.l0 k x0 x1 (wrap64 (x5+1))) else (if (rd x0 x5)=x1 then (some x0) else ((some (([x1]:List Int):List Int)).bind fun y168=>(if x5≤(x0.length:Int) then ((some (x0.drop (x5:Int).toNat:List Int)).bind fun y171=>(if y168.length+y171.length<17592186044416 then ((some (y168++y171:List Int)).bind fun y175=>((some (([]:List Int):List Int)).bind fun y178=>((some (x0.take (x5:Int).toNat:List Int)).bind fun y181=>(if y178.length+y181.length<17592186044416 then ((some (y178++y181:List Int)).bind fun y185=>(if y185.length+y175.length<17592186044416 then (some (y185++y175)) else (none))) else (none))))) else (none))) else (none))))) else (none)) else ((some (([x1]:List Int):List Int)).bind fun y191=>(if 0≤x5 then (if x5≤(x0.length:Int) then ((some (x0.drop (x5:Int).toNat:List Int)).bind fun y194=>(if y191.length+y194.length<17592186044416 then ((some (y191++y194:List Int)).bind fun y198=>((some (([]:List Int):List Int)).bind fun y201=>((some (x0.take (x5:Int).toNat:List Int)).bind fun y204=>(if y201.length+y204.length<17592186044416 then ((some (y201++y204:List Int)).bind fun y208=>(if y208.length+y198.length<17592186044416 then (some (y208++y198)) else (none))) else (none))))) else (none))) else (none)) else (none)))
def abugidaref15_With.f (k:Nat) (l0:List Int) (a1:Int):Option (List Int):=abugidaref15_With.l0 k l0 a1 0
theorem abugidaref15_With.mono_l:∀ k,(∀ y0 y1 y2,LeO (abugidaref15_With.l0 k y0 y1 y2) (abugidaref15_With.l0 (k+1) y0 y1 y2))
 | 0=>fun _ _ _ r h=>by simp [abugidaref15_With.l0] at h
 | k+1=>by
  have ih0:=abugidaref15_With.mono_l k
  ·
   intro y0 y1 y2
   unfold abugidaref15_With.l0
   repeat' first
   | (with_reducible exact ih0 _ _ _)
   | (with_reducible exact LeO.refl _)
   | (with_reducible exact LeO.none _)
   | (with_reducible refine LeO.ite ?_ ?_)
   | (with_reducible refine LeO.bind ?_ (fun _=>?_))
   | exact ih0 _ _ _
   | exact LeO.none _
   | refine LeO.ite ?_ ?_
   | refine LeO.bind ?_ (fun _=>?_)
theorem abugidaref15_With.mono:∀ a0 a1 k,LeO (abugidaref15_With.f k a0 a1) (abugidaref15_With.f (k+1) a0 a1):=by
 intro a0 a1 k
 have ih0:=abugidaref15_With.mono_l k
 unfold abugidaref15_With.f
 repeat' first
   | (with_reducible exact ih0 _ _ _)
   | (with_reducible exact LeO.refl _)
   | (with_reducible exact LeO.none _)
   | (with_reducible refine LeO.ite ?_ ?_)
   | (with_reducible refine LeO.bind ?_ (fun _=>?_))
   | exact ih0 _ _ _
   | exact LeO.none _
   | refine LeO.ite ?_ ?_
   | refine LeO.bind ?_ (fun _=>?_)
set_option maxHeartbeats 8000000 in
set_option maxRecDepth 100000 in
theorem abugidaref15_With.calls (k:Nat) (P0_:Nat→Prop) (u9000_:Value) (l0:List Int) (a1:Int) (r:List Int) (w0 w:World) (hB:Below w0.heap.size w0 w) (ho0:Kd.R (Kd.int .i64) 3 w w0.heap.size P0_ u9000_ l0) (h:abugidaref15_With.f k l0 a1=some r) :
  Calls Try.prog 54 #[u9000_,.int .i64 a1] w fun e w'=>∃ v0_:Value,e=.returned (v0_)∧Kd.R (Kd.int .i64) 3 w' w0.heap.size (fun k_=>(P0_ k_∨w.heap.size≤k_)) v0_ r∧Below w0.heap.size w0 w'∧Kept w w' (fun k_=>P0_ k_):=by
 have HO0:=Aside0.mk (show Kd.R (Kd.int .i64) 3 w w0.heap.size (fun k_=>(P0_ k_∨w.heap.size≤k_)) u9000_ l0 from Kd.R_mono ho0 (fun k_ hk=>(.inl hk)))
 have HK:=Aside0.mk (Kept.refl w (fun k_=>P0_ k_))
 have HW0:=Aside0.mk hB.size
 have HB:=Aside0.mk hB
 clear hB
 have H:(abugidaref15_With.l0 k l0 a1 0)=some r:=h
 clear h
 have H':=Aside0.mk H
 clear H
 go_enter Try.func54,Try.ntmps54
 go_wp2
 go_loopg [5] k (fun kq v5 w'=>∃ (x5_1:Int),v5=.int .i64 x5_1∧Aside0 (abugidaref15_With.l0 kq l0 a1 x5_1=some r)∧Aside0 (kq≤k)∧Aside0 (Kd.R (Kd.int .i64) 3 w' w0.heap.size (fun k_=>(P0_ k_∨w.heap.size≤k_)) u9000_ l0)∧Aside0 (Kept w w' (fun k_=>P0_ k_))∧Aside0 (Below w0.heap.size w0 w'))
 case atStart=>exact ⟨(0),za76,H',⟨Nat.le_refl _⟩,⟨by (with_reducible repeat (first|apply Kd.R_alloc|apply Kd.R_drewN|apply Kd.R_drew));exact HO0.out⟩,⟨by repeat (first|(with_reducible first|exact HK.out|apply Kept.alloc|apply Kept.drewN|apply Kept.drew)|exact HK.out)⟩,⟨by repeat (first|(with_reducible first|exact HB.out|apply below_alloc|apply pw_below_drewN|apply below_drew1)|exact HB.out)⟩⟩
 case round =>
  clear H'
  try clear p2
  obtain ⟨x5_1,rfl,HA,HK1,HO_0,HK,HB⟩:=hrel
  cases gk with
  | zero=>exact absurd HA.out (by simp [abugidaref15_With.l0])
  | succ k1 =>
   have H:=HA.out
   clear HA
   simp only [abugidaref15_With.l0] at H
   by_cases c3:x5_1<(l0.length:Int)
   ·
    rw [if_pos c3] at H
    have c3b0:decide (x5_1<(l0.length:Int))=true:=decide_eq_true c3
    clear c3
    by_cases c4:0≤x5_1
    ·
     rw [if_pos c4] at H
     have c4b0:decide (0≤x5_1)=true:=decide_eq_true c4
     clear c4
     by_cases c5:(rd l0 x5_1)<a1
     ·
      rw [if_pos c5] at H
      have c5b0:decide ((rd l0 x5_1)<a1)=true:=decide_eq_true c5
      clear c5
      have H':=Aside0.mk H
      clear H
      obtain ⟨Ao6,co6,eo6⟩:=Kd.R_slice HO_0.out
      subst eo6
      have p166:0≤(x5_1:Int):=of_decide_eq_true za73
      have q166:x5_1<(l0.length:Int):=of_decide_eq_true za73
      obtain ⟨j0_,e166,j11⟩:=Kd.at_int (Kd.R_reads' HO_0.out).2.2 x5_1 p166 q166
      cases e166
      replace p166:=eq_true p166
      replace q166:=eq_true q166
      go_wp2
      go_roundg k1
      case measure=>have:=HK1.out;omega
      case rel=>exact ⟨(wrap64 (x5_1+1)),za76,H',⟨by have:=HK1.out;omega⟩,⟨by (with_reducible repeat (first|apply Kd.R_alloc|apply Kd.R_drewN|apply Kd.R_drew));exact HO_0.out⟩,⟨by repeat (first|(with_reducible first|exact HK.out|apply Kept.alloc|apply Kept.drewN|apply Kept.drew)|exact HK.out)⟩,⟨by repeat (first|(with_reducible first|exact HB.out|apply below_alloc|apply pw_below_drewN|apply below_drew1)|exact HB.out)⟩⟩
     ·
      rw [if_neg c5] at H
      have c5b0:decide ((rd l0 x5_1)<a1)=false:=decide_eq_false c5
      clear c5
      by_cases c7:(rd l0 x5_1)=a1
      ·
       rw [if_pos c7] at H
       have c7b0:((rd l0 x5_1)==a1)=true:=beq_iff_eq.mpr c7
       have c7b1:((rd l0 x5_1) != a1)=false:=bne_eq_false_iff_eq.mpr c7
       clear c7
       obtain rfl:=Option.some.inj H
       obtain ⟨Ao8,co8,eo8⟩:=Kd.R_slice HO_0.out
       subst eo8
       have p166:0≤(x5_1:Int):=of_decide_eq_true za73
       have q166:x5_1<(l0.length:Int):=of_decide_eq_true za73
       obtain ⟨j0_,e166,j11⟩:=Kd.at_int (Kd.R_reads' HO_0.out).2.2 x5_1 p166 q166
       cases e166
       replace p166:=eq_true p166
       replace q166:=eq_true q166
       have p167:0≤(x5_1:Int):=of_decide_eq_true za73
       have q167:x5_1<(l0.length:Int):=of_decide_eq_true za73
       obtain ⟨j14,e167,j1k⟩:=Kd.at_int (Kd.R_reads' HO_0.out).2.2 x5_1 p167 q167
       obtain rfl:j0_=j14:=(by injection e167)
       replace p167:=eq_true p167
       replace q167:=eq_true q167
       go_wp2
       go_ret
       exact ⟨_,by first|rfl|(simp [errW_none,errW_some]<;>rfl)|(simp [*,errW_none,errW_some]<;>rfl),by (with_reducible repeat (first|apply Kd.R_alloc|apply Kd.R_drewN|apply Kd.R_drew));exact HO_0.out,by repeat (first|(with_reducible first|exact HB.out|apply below_alloc|apply pw_below_drewN|apply below_drew1)|exact HB.out),by repeat (first|(with_reducible first|exact HK.out|apply Kept.alloc|apply Kept.drewN|apply Kept.drew)|exact HK.out)⟩
      ·
       rw [if_neg c7] at H
       have c7b0:((rd l0 x5_1)==a1)=false:=beq_eq_false_iff_ne.mpr c7
       have c7b1:((rd l0 x5_1) != a1)=true:=bne_iff_ne.mpr c7
       obtain ⟨y168,jd_⟩:∃ y_:List Int,y_=(([a1]:List Int)):=⟨_,rfl⟩
       replace H:(if x5_1≤(l0.length:Int) then ((some (l0.drop (x5_1:Int).toNat:List Int)).bind fun y171=>(if y168.length+y171.length<17592186044416 then ((some (y168++y171:List Int)).bind fun y175=>((some (([]:List Int):List Int)).bind fun y178=>((some (l0.take (x5_1:Int).toNat:List Int)).bind fun y181=>(if y178.length+y181.length<17592186044416 then ((some (y178++y181:List Int)).bind fun y185=>(if y185.length+y175.length<17592186044416 then (some (y185++y175)) else (none))) else (none))))) else (none))) else (none))=some r:=by first|(rw [jd_];with_reducible exact H)|(have H2_:=(Option.bind_some _ _).symm.trans H;rw [jd_];with_reducible exact H2_)|(have H2_:=(Option.bind_some _ _).symm.trans H;with_reducible exact H2_)|with_reducible exact H|(rw [jd_];exact H)|exact H
       have j1c:=Aside0.mk jd_
       clear jd_
       have c9b0:=eq_true (of_decide_eq_true za73:0≤x5_1)
       by_cases c10:x5_1≤(l0.length:Int)
       ·
        rw [if_pos c10] at H
        have c10b0:=eq_true c10
        have c10b1:decide (x5_1≤(l0.length:Int))=true:=decide_eq_true c10
        clear c10
        obtain ⟨y171,je_⟩:∃ y_:List Int,y_=(l0.drop (x5_1:Int).toNat):=⟨_,rfl⟩
        replace H:(if y168.length+y171.length<17592186044416 then ((some (y168++y171:List Int)).bind fun y175=>((some (([]:List Int):List Int)).bind fun y178=>((some (l0.take (x5_1:Int).toNat:List Int)).bind fun y181=>(if y178.length+y181.length<17592186044416 then ((some (y178++y181:List Int)).bind fun y185=>(if y185.length+y175.length<17592186044416 then (some (y185++y175)) else (none))) else (none))))) else (none))=some r:=by first|(rw [je_];with_reducible exact H)|(have H2_:=(Option.bind_some _ _).symm.trans H;rw [je_];with_reducible exact H2_)|(have H2_:=(Option.bind_some _ _).symm.trans H;with_reducible exact H2_)|with_reducible exact H|(rw [je_];exact H)|exact H
        have jf_:=Aside0.mk je_
        clear je_
        by_cases c11:y168.length+y171.length<17592186044416
        ·
         rw [if_pos c11] at H
         have j1p:=Aside0.mk c11
         clear c11
         obtain ⟨y175,jg_⟩:∃ y_:List Int,y_=(y168++y171):=⟨_,rfl⟩
         replace H:((some (([]:List Int):List Int)).bind fun y178=>((some (l0.take (x5_1:Int).toNat:List Int)).bind fun y181=>(if y178.length+y181.length<17592186044416 then ((some (y178++y181:List Int)).bind fun y185=>(if y185.length+y175.length<17592186044416 then (some (y185++y175)) else (none))) else (none))))=some r:=by first|(rw [jg_];with_reducible exact H)|(have H2_:=(Option.bind_some _ _).symm.trans H;rw [jg_];with_reducible exact H2_)|(have H2_:=(Option.bind_some _ _).symm.trans H;with_reducible exact H2_)|with_reducible exact H|(rw [jg_];exact H)|exact H
         have j1q:=Aside0.mk jg_
         clear jg_
         obtain ⟨y178,jh_⟩:∃ y_:List Int,y_=(([]:List Int)):=⟨_,rfl⟩
         replace H:((some (l0.take (x5_1:Int).toNat:List Int)).bind fun y181=>(if y178.length+y181.length<17592186044416 then ((some (y178++y181:List Int)).bind fun y185=>(if y185.length+y175.length<17592186044416 then (some (y185++y175)) else (none))) else (none)))=some r:=by first|(rw [jh_];with_reducible exact H)|(have H2_:=(Option.bind_some _ _).symm.trans H;rw [jh_];with_reducible exact H2_)|(have H2_:=(Option.bind_some _ _).symm.trans H;with_reducible exact H2_)|with_reducible exact H|(rw [jh_];exact H)|exact H
         have j1d:=Aside0.mk jh_
         clear jh_
         have c12b0:=eq_true (of_decide_eq_true za73:0≤x5_1)
         have c13b0:=eq_true (of_decide_eq_true za73:x5_1≤(l0.length:Int))
         obtain ⟨y181,ji_⟩:∃ y_:List Int,y_=(l0.take (x5_1:Int).toNat):=⟨_,rfl⟩
         replace H:(if y178.length+y181.length<17592186044416 then ((some (y178++y181:List Int)).bind fun y185=>(if y185.length+y175.length<17592186044416 then (some (y185++y175)) else (none))) else (none))=some r:=by first|(rw [ji_];with_reducible exact H)|(have H2_:=(Option.bind_some _ _).symm.trans H;rw [ji_];with_reducible exact H2_)|(have H2_:=(Option.bind_some _ _).symm.trans H;with_reducible exact H2_)|with_reducible exact H|(rw [ji_];exact H)|exact H
         have jy_:=Aside0.mk ji_
         clear ji_
         by_cases c14:y178.length+y181.length<17592186044416
         ·
          rw [if_pos c14] at H
          have j15:=Aside0.mk c14
          clear c14
          obtain ⟨y185,jj_⟩:∃ y_:List Int,y_=(y178++y181):=⟨_,rfl⟩
          replace H:(if y185.length+y175.length<17592186044416 then (some (y185++y175)) else (none))=some r:=by first|(rw [jj_];with_reducible exact H)|(have H2_:=(Option.bind_some _ _).symm.trans H;rw [jj_];with_reducible exact H2_)|(have H2_:=(Option.bind_some _ _).symm.trans H;with_reducible exact H2_)|with_reducible exact H|(rw [jj_];exact H)|exact H
          have j1r:=Aside0.mk jj_
          clear jj_
          by_cases c15:y185.length+y175.length<17592186044416
          ·
           rw [if_pos c15] at H
           have j1s:=Aside0.mk c15
           clear c15
           obtain ⟨y188,jk_⟩:∃ y_:List Int,y_=(y185++y175):=⟨_,rfl⟩
           replace H:(some y188)=some r:=by first|(rw [jk_];with_reducible exact H)|(have H2_:=(Option.bind_some _ _).symm.trans H;rw [jk_];with_reducible exact H2_)|(have H2_:=(Option.bind_some _ _).symm.trans H;with_reducible exact H2_)|with_reducible exact H|(rw [jk_];exact H)|exact H
           have j1t:=Aside0.mk jk_
           clear jk_
           obtain rfl:=Option.some.inj H
           obtain ⟨Ao16,co16,eo16⟩:=Kd.R_slice HO_0.out
           subst eo16
           have p166:0≤(x5_1:Int):=of_decide_eq_true za73
           have q166:x5_1<(l0.length:Int):=of_decide_eq_true za73
           obtain ⟨j0_,e166,j11⟩:=Kd.at_int (Kd.R_reads' HO_0.out).2.2 x5_1 p166 q166
           cases e166
           replace p166:=eq_true p166
           replace q166:=eq_true q166
           have p167:0≤(x5_1:Int):=of_decide_eq_true za73
           have q167:x5_1<(l0.length:Int):=of_decide_eq_true za73
           obtain ⟨j14,e167,j1k⟩:=Kd.at_int (Kd.R_reads' HO_0.out).2.2 x5_1 p167 q167
           obtain rfl:j0_=j14:=(by injection e167)
           replace p167:=eq_true p167
           replace q167:=eq_true q167
           go_wp2_with (first|((with_reducible refine gate_dst (N:=35) rfl ?_);refine Kd.R_lit (Kd.int .i64) _ 3 ?hg (N:=35) ?hd (xs:=([a1]:List Int)) (inner:=[.int .i64 a1]) (ok:=fun _=>True) (okp:=fun _=>True) ?hr ?hp (fun _ hk=>hk) trivial (Below.refl _ _) (Nat.le_refl _) (by simp) ?_;(case hd=>rfl);(case hg=>rfl);(case hr=>first|(go_simp;done)|(go_simp;rfl));(case hp=>exact (Reps.one (show Kd.M (Kd.int .i64) _ _ _ a1 [.int .i64 a1] from rfl) (Reps.none _ _)));intro v169 w17 ho18 hb hg_ hnew_;clear hg_ hnew_;(first|rw [← j1c.out] at ho18|(simp only [Int.reduceToNat] at ho18;rw [← j1c.out] at ho18));have n0_:=Aside0.mk (Kd.R_elder' za54 (Kd.R_base ho18) hb);have n1_:=Aside0.mk (Kd.R_lower (Kd.R_new' (Kd.R_newM (M:=fun k_=>(P0_ k_∨w.heap.size≤k_)) ho18 za21 (fun k_ h_=>.inr h_)) (Kd.R_lt za54)) (below_size za40));have n2_:=Aside0.mk (Kept.below (S:=(fun k_=>P0_ k_)) za41 hb);have n3_:=Aside0.mk (below_step za40 hb);clear HO_0;clear HK;clear HB;have HO_0:=n0_;have j16:=n1_;have HK:=n2_;have HB:=n3_;clear n0_ n1_ n2_ n3_;clear hb ho18;have q19:(x5_1:Int)≤((l0.length:Int):Int):=of_decide_eq_true za73;obtain ⟨i019,j1e,_,j1f,_⟩:=info_parts info3;have jw_:l0.length≤co16:=(Kd.R_reads' HO_0.out).2.1;have hC19:Kd.C (Kd.int .i64) _ (some j0_) l0.length l0:=(Kd.R_reads' HO_0.out).2.2;have q019:(0:Int)≤(x5_1:Int):=of_decide_eq_true za73;have j1l:=cut_from (P:=Try.prog) 26 3 .i64 Try.underlying26 j1e 1 j1f (some j0_) l0.length co16 x5_1 q019 q19;have hr19:=Kd.C_drop (m:=(x5_1:Int).toNat) (c:=co16) hC19 (by omega) jw_;obtain ⟨A19,hA19⟩:∃ A1,A1=(if co16=(x5_1:Int).toNat then (some j0_) else ((some j0_):Option Addr).map (·.add ((x5_1:Int).toNat*1))):=⟨_,rfl⟩;obtain ⟨c19,hc19⟩:∃ c1,c1=co16 - (x5_1:Int).toNat:=⟨_,rfl⟩;have hy19:y171.length=l0.length - (x5_1:Int).toNat:=(by rw [jf_.out,List.length_drop]<;>omega);rw [show (l0).drop (x5_1:Int).toNat=y171 from jf_.out.symm] at hr19;replace hr19:Kd.C (Kd.int .i64) _ A19 y171.length y171:=(by rw [hA19];exact hr19);rw [← hy19,← hA19,← hc19] at j1l;have j4_:=Aside0.mk hr19;have j2a:=Aside0.mk (show y171.length≤c19 from by rw [hy19,hc19];exact Nat.sub_le_sub_right jw_ _);clear hr19 hC19 jw_ j1e j1f hc19;have KY19:=Aside0.mk hy19;have KA19:=Aside0.mk hA19;clear hy19 hA19;have KL19:=Aside0.mk (show (x5_1:Int).toNat≤l0.length from by omega);replace q19:=eq_true q19)|((with_reducible refine gate_builtin (b:=.append) (xs:=#[.tmp 35,.tmp 38]) rfl ?_);at_builtin;refine Kd.R_append_rows (Kd.int .i64) (w0:=w0) w0.heap.size rfl (.tmp 35) (.tmp 38) 26 3 (.int .i64 0) 8 rfl Try.underlying26 info3 rfl (by decide) (by omega) v169 y168 y171 _ _ _ (fun k_=>(P0_ k_∨w.heap.size≤k_)∧some k_≠(.slice (some j0_) l0.length co16:Value).ownBlock) (fun _=>False) rfl rfl ?aO ?aR (fun _ _ h=>h) (fun _ h=>h.elim) ?aF ?aB ?aS ?aL ?_;(case aR=>repeat (first|exact za28|(with_reducible refine Kd.C_alloc ?_ _)|(with_reducible refine Kd.C_drewN ?_ _)|(with_reducible refine Kd.C_drew ?_)));(case aB=>exact za40);(case aF=>exact (fun k_ hk=>⟨(.inr (Nat.le_trans za21 hk)),Kd.fresh' (Kd.R_lt za54) k_ hk⟩));(case aO=>exact (by (with_reducible repeat (first|apply Kd.R_alloc|apply Kd.R_drewN|apply Kd.R_drew));exact Kd.R_mono j16.out (fun _ hk=>⟨hk.1.1,hk.2⟩)));(case aS=>exact (below_size za40));(case aL=>have:=j1p.out;omega);intro v176 w20 ho hb hg hat;rw [← j1q.out] at ho;have n0_:=Aside0.mk (Kd.R_after (ok:=(fun k_=>(P0_ k_∨w.heap.size≤k_))) za54 hg hat);have n1_:=Aside0.mk (hb);have n2_:=Aside0.mk (Kept.of_grown (S:=(fun k_=>P0_ k_)) hg za41 (fun k_ e_=>(j16.out.1 k_ e_).1.1));have n3_:=Aside0.mk ((show Kd.C (Kd.int .i64) w20 A19 y171.length y171 from by rw [jf_.out,KA19.out];exact Kd.C_drop (m:=(x5_1:Int).toNat) (c:=co16) ((Kd.R_reads' (Kd.R_after (ok:=(fun k_=>(P0_ k_∨w.heap.size≤k_))) za54 hg hat)).2.2) KL19.out ((Kd.R_reads' (Kd.R_after (ok:=(fun k_=>(P0_ k_∨w.heap.size≤k_))) za54 hg hat)).2.1)));have n4_:=Aside0.mk (ho);clear HO_0;clear HB;clear HK;clear j4_;clear j16;have HO_0:=n0_;have HB:=n1_;have HK:=n2_;have j4_:=n3_;have j2_:=n4_;clear n0_ n1_ n2_ n3_ n4_;clear ho hb hg hat)|((with_reducible refine gate_dst (N:=40) rfl ?_);refine Kd.R_lit (Kd.int .i64) _ 3 ?hg (N:=40) ?hd (xs:=([]:List Int)) (inner:=[]) (ok:=fun _=>True) (okp:=fun _=>True) ?hr ?hp (fun _ hk=>hk) trivial (Below.refl _ _) (Nat.le_refl _) (by simp) ?_;(case hd=>rfl);(case hg=>rfl);(case hr=>first|(go_simp;done)|(go_simp;rfl));(case hp=>exact (Reps.none _ _));intro v179 w21 ho22 hb hg_ hnew_;clear hg_ hnew_;(first|rw [← j1d.out] at ho22|(simp only [Int.reduceToNat] at ho22;rw [← j1d.out] at ho22));have n0_:=Aside0.mk (Kd.R_elder' za54 (Kd.R_base ho22) hb);have n1_:=Aside0.mk (Kd.R_elder' za57 (Kd.R_base ho22) hb);have n2_:=Aside0.mk (Kd.R_lower (Kd.R_new' (Kd.R_new' (Kd.R_newM (M:=fun k_=>(P0_ k_∨w.heap.size≤k_)) ho22 za21 (fun k_ h_=>.inr h_)) (Kd.R_lt za54)) (Kd.R_lt za57)) (below_size za40));have n3_:=Aside0.mk (Kd.C_below za28 hb);have n4_:=Aside0.mk (Kept.below (S:=(fun k_=>P0_ k_)) za41 hb);have n5_:=Aside0.mk (below_step za40 hb);clear HO_0;clear j2_;clear j4_;clear HK;clear HB;have HO_0:=n0_;have j2_:=n1_;have j17:=n2_;have j4_:=n3_;have HK:=n4_;have HB:=n5_;clear n0_ n1_ n2_ n3_ n4_ n5_;clear hb ho22;have q23:(x5_1:Int)≤((l0.length:Int):Int):=of_decide_eq_true za73;obtain ⟨i023,j1g,_,j1u,_⟩:=info_parts info3;have j12:l0.length≤co16:=(Kd.R_reads' HO_0.out).2.1;have hC23:Kd.C (Kd.int .i64) _ (some j0_) l0.length l0:=(Kd.R_reads' HO_0.out).2.2;have j1m:=cut_to (P:=Try.prog) 26 3 .i64 Try.underlying26 j1g (some j0_) l0.length co16 x5_1 (of_decide_eq_true za73) q23 j12;have hr23:=Kd.C_take (m:=(x5_1:Int).toNat) hC23 (by omega);have hy23:y181.length=(x5_1:Int).toNat:=(by rw [jy_.out,List.length_take];omega);rw [← jy_.out] at hr23;rw [← hy23] at j1m;have ja_:=Aside0.mk hr23;have j2b:=Aside0.mk (show y181.length≤co16 from by omega);clear hr23 hC23 j12 j1g j1u;have KY23:=Aside0.mk hy23;clear hy23;have KL23:=Aside0.mk (show (x5_1:Int).toNat≤l0.length from by omega);replace q23:=eq_true q23)|((with_reducible refine gate_builtin (b:=.append) (xs:=#[.tmp 40,.tmp 43]) rfl ?_);at_builtin;refine Kd.R_append_rows (Kd.int .i64) (w0:=w0) w0.heap.size rfl (.tmp 40) (.tmp 43) 26 3 (.int .i64 0) 8 rfl Try.underlying26 info3 rfl (by decide) (by omega) v179 y178 y181 _ _ _ (fun k_=>(P0_ k_∨w.heap.size≤k_)∧some k_≠(.slice (some j0_) l0.length co16:Value).ownBlock∧some k_≠(v176:Value).ownBlock) (fun _=>False) rfl rfl ?aO ?aR (fun _ _ h=>h) (fun _ h=>h.elim) ?aF ?aB ?aS ?aL ?_;(case aR=>repeat (first|exact (by repeat (first|(with_reducible exact ja_.out)|(with_reducible refine Kd.C_alloc ?_ _)|(with_reducible refine Kd.C_drewN ?_ _)|(with_reducible refine Kd.C_drew ?_)|exact ja_.out))|(with_reducible refine Kd.C_alloc ?_ _)|(with_reducible refine Kd.C_drewN ?_ _)|(with_reducible refine Kd.C_drew ?_)));(case aB=>exact za40);(case aF=>exact (fun k_ hk=>⟨(.inr (Nat.le_trans za21 hk)),Kd.fresh' (Kd.R_lt za54) k_ hk,Kd.fresh' (Kd.R_lt za57) k_ hk⟩));(case aO=>exact (by (with_reducible repeat (first|apply Kd.R_alloc|apply Kd.R_drewN|apply Kd.R_drew));exact Kd.R_mono j17.out (fun _ hk=>⟨hk.1.1.1,⟨hk.1.2,hk.2⟩⟩)));(case aS=>exact (below_size za40));(case aL=>have:=j15.out;omega);intro v186 w24 ho hb hg hat;rw [← j1r.out] at ho;have n0_:=Aside0.mk (Kd.R_after (ok:=(fun k_=>(P0_ k_∨w.heap.size≤k_)∧some k_≠(v176:Value).ownBlock)) za54 hg hat);have n1_:=Aside0.mk (Kd.R_after (ok:=(fun k_=>(P0_ k_∨w.heap.size≤k_)∧some k_≠(.slice (some j0_) l0.length co16:Value).ownBlock)) za57 hg hat);have n2_:=Aside0.mk (hb);have n3_:=Aside0.mk (Kept.of_grown (S:=(fun k_=>P0_ k_)) hg za41 (fun k_ e_=>(j17.out.1 k_ e_).1.1.1));have n4_:=Aside0.mk ((show Kd.C (Kd.int .i64) w24 A19 y171.length y171 from by rw [jf_.out,KA19.out];exact Kd.C_drop (m:=(x5_1:Int).toNat) (c:=co16) ((Kd.R_reads' (Kd.R_after (ok:=(fun k_=>(P0_ k_∨w.heap.size≤k_)∧some k_≠(v176:Value).ownBlock)) za54 hg hat)).2.2) KL19.out ((Kd.R_reads' (Kd.R_after (ok:=(fun k_=>(P0_ k_∨w.heap.size≤k_)∧some k_≠(v176:Value).ownBlock)) za54 hg hat)).2.1)));have n5_:=Aside0.mk ((show Kd.C (Kd.int .i64) w24 (some j0_) y181.length y181 from by rw [jy_.out];exact Kd.C_take (m:=(x5_1:Int).toNat) ((Kd.R_reads' (Kd.R_after (ok:=(fun k_=>(P0_ k_∨w.heap.size≤k_)∧some k_≠(v176:Value).ownBlock)) za54 hg hat)).2.2) KL23.out));have n6_:=Aside0.mk (ho);clear HO_0;clear j2_;clear HB;clear HK;clear j4_;clear ja_;clear j17;have HO_0:=n0_;have j2_:=n1_;have HB:=n2_;have HK:=n3_;have j4_:=n4_;have ja_:=n5_;have j18:=n6_;clear n0_ n1_ n2_ n3_ n4_ n5_ n6_;clear ho hb hg hat;obtain ⟨Ao26,co26,eo26⟩:=Kd.R_slice j2_.out;subst eo26)|((with_reducible refine gate_builtin (b:=.append) (xs:=#[.tmp 44,.tmp 45]) rfl ?_);at_builtin;refine Kd.R_append_rows (Kd.int .i64) (w0:=w0) w0.heap.size rfl (.tmp 44) (.tmp 45) 26 3 (.int .i64 0) 8 rfl Try.underlying26 info3 rfl (by decide) (by omega) v186 y185 y175 _ _ _ (fun k_=>(P0_ k_∨w.heap.size≤k_)∧some k_≠(.slice (some j0_) l0.length co16:Value).ownBlock∧some k_≠(.slice Ao26 y175.length co26:Value).ownBlock) (fun _=>False) rfl rfl ?aO ?aR (fun _ _ h=>h) (fun _ h=>h.elim) ?aF ?aB ?aS ?aL ?_;(case aR=>repeat (first|exact (Kd.R_reads' j2_.out).2.2|(with_reducible refine Kd.C_alloc ?_ _)|(with_reducible refine Kd.C_drewN ?_ _)|(with_reducible refine Kd.C_drew ?_)));(case aB=>exact za40);(case aF=>exact (fun k_ hk=>⟨(.inr (Nat.le_trans za21 hk)),Kd.fresh' (Kd.R_lt za54) k_ hk,Kd.fresh' (Kd.R_lt za57) k_ hk⟩));(case aO=>exact (by (with_reducible repeat (first|apply Kd.R_alloc|apply Kd.R_drewN|apply Kd.R_drew));exact j18.out));(case aS=>exact (below_size za40));(case aL=>have:=j1s.out;omega);intro v189 w25 ho hb hg hat;rw [← j1t.out] at ho;have n0_:=Aside0.mk (Kd.R_after (ok:=(fun k_=>(P0_ k_∨w.heap.size≤k_)∧some k_≠(.slice Ao26 y175.length co26:Value).ownBlock)) za54 hg hat);have n1_:=Aside0.mk (Kd.R_after (ok:=(fun k_=>(P0_ k_∨w.heap.size≤k_)∧some k_≠(.slice (some j0_) l0.length co16:Value).ownBlock)) za57 hg hat);have n2_:=Aside0.mk (hb);have n3_:=Aside0.mk (Kept.of_grown (S:=(fun k_=>P0_ k_)) hg za41 (fun k_ e_=>(j18.out.1 k_ e_).1));have n4_:=Aside0.mk ((show Kd.C (Kd.int .i64) w25 A19 y171.length y171 from by rw [jf_.out,KA19.out];exact Kd.C_drop (m:=(x5_1:Int).toNat) (c:=co16) ((Kd.R_reads' (Kd.R_after (ok:=(fun k_=>(P0_ k_∨w.heap.size≤k_)∧some k_≠(.slice Ao26 y175.length co26:Value).ownBlock)) za54 hg hat)).2.2) KL19.out ((Kd.R_reads' (Kd.R_after (ok:=(fun k_=>(P0_ k_∨w.heap.size≤k_)∧some k_≠(.slice Ao26 y175.length co26:Value).ownBlock)) za54 hg hat)).2.1)));have n5_:=Aside0.mk ((show Kd.C (Kd.int .i64) w25 (some j0_) y181.length y181 from by rw [jy_.out];exact Kd.C_take (m:=(x5_1:Int).toNat) ((Kd.R_reads' (Kd.R_after (ok:=(fun k_=>(P0_ k_∨w.heap.size≤k_)∧some k_≠(.slice Ao26 y175.length co26:Value).ownBlock)) za54 hg hat)).2.2) KL23.out));have n6_:=Aside0.mk (ho);clear HO_0;clear j2_;clear HB;clear HK;clear j4_;clear ja_;clear j18;have HO_0:=n0_;have j2_:=n1_;have HB:=n2_;have HK:=n3_;have j4_:=n4_;have ja_:=n5_;have j1v:=n6_;clear n0_ n1_ n2_ n3_ n4_ n5_ n6_;clear ho hb hg hat))
           go_ret
           exact ⟨_,by first|rfl|(simp [errW_none,errW_some]<;>rfl)|(simp [*,errW_none,errW_some]<;>rfl),by (with_reducible repeat (first|apply Kd.R_alloc|apply Kd.R_drewN|apply Kd.R_drew));exact Kd.R_mono j1v.out (fun _ hk=>hk.1),by repeat (first|(with_reducible first|exact HB.out|apply below_alloc|apply pw_below_drewN|apply below_drew1)|exact HB.out),by repeat (first|(with_reducible first|exact HK.out|apply Kept.alloc|apply Kept.drewN|apply Kept.drew)|exact HK.out)⟩
          ·
           rw [if_neg c15] at H
           exact absurd H (by simp)
         ·
          rw [if_neg c14] at H
          exact absurd H (by simp)
        ·
         rw [if_neg c11] at H
         exact absurd H (by simp)
       ·
        rw [if_neg c10] at H
        exact absurd H (by simp)
    ·
     rw [if_neg c4] at H
     exact absurd H (by simp)
   ·
    rw [if_neg c3] at H
    have c3b0:decide (x5_1<(l0.length:Int))=false:=decide_eq_false c3
    clear c3
    obtain ⟨y191,jl_⟩:∃ y_:List Int,y_=(([a1]:List Int)):=⟨_,rfl⟩
    replace H:(if 0≤x5_1 then (if x5_1≤(l0.length:Int) then ((some (l0.drop (x5_1:Int).toNat:List Int)).bind fun y194=>(if y191.length+y194.length<17592186044416 then ((some (y191++y194:List Int)).bind fun y198=>((some (([]:List Int):List Int)).bind fun y201=>((some (l0.take (x5_1:Int).toNat:List Int)).bind fun y204=>(if y201.length+y204.length<17592186044416 then ((some (y201++y204:List Int)).bind fun y208=>(if y208.length+y198.length<17592186044416 then (some (y208++y198)) else (none))) else (none))))) else (none))) else (none)) else (none))=some r:=by first|(rw [jl_];with_reducible exact H)|(have H2_:=(Option.bind_some _ _).symm.trans H;rw [jl_];with_reducible exact H2_)|(have H2_:=(Option.bind_some _ _).symm.trans H;with_reducible exact H2_)|with_reducible exact H|(rw [jl_];exact H)|exact H
    have j1h:=Aside0.mk jl_
    clear jl_
    by_cases c27:0≤x5_1
    ·
     rw [if_pos c27] at H
     have c27b0:=eq_true c27
     have c27b1:decide (0≤x5_1)=true:=decide_eq_true c27
     clear c27
     by_cases c28:x5_1≤(l0.length:Int)
     ·
      rw [if_pos c28] at H
      have c28b0:=eq_true c28
      have c28b1:decide (x5_1≤(l0.length:Int))=true:=decide_eq_true c28
      clear c28
      obtain ⟨y194,jm_⟩:∃ y_:List Int,y_=(l0.drop (x5_1:Int).toNat):=⟨_,rfl⟩
      replace H:(if y191.length+y194.length<17592186044416 then ((some (y191++y194:List Int)).bind fun y198=>((some (([]:List Int):List Int)).bind fun y201=>((some (l0.take (x5_1:Int).toNat:List Int)).bind fun y204=>(if y201.length+y204.length<17592186044416 then ((some (y201++y204:List Int)).bind fun y208=>(if y208.length+y198.length<17592186044416 then (some (y208++y198)) else (none))) else (none))))) else (none))=some r:=by first|(rw [jm_];with_reducible exact H)|(have H2_:=(Option.bind_some _ _).symm.trans H;rw [jm_];with_reducible exact H2_)|(have H2_:=(Option.bind_some _ _).symm.trans H;with_reducible exact H2_)|with_reducible exact H|(rw [jm_];exact H)|exact H
      have jn_:=Aside0.mk jm_
      clear jm_
      by_cases c29:y191.length+y194.length<17592186044416
      ·
       rw [if_pos c29] at H
       have j1w:=Aside0.mk c29
       clear c29
       obtain ⟨y198,jo_⟩:∃ y_:List Int,y_=(y191++y194):=⟨_,rfl⟩
       replace H:((some (([]:List Int):List Int)).bind fun y201=>((some (l0.take (x5_1:Int).toNat:List Int)).bind fun y204=>(if y201.length+y204.length<17592186044416 then ((some (y201++y204:List Int)).bind fun y208=>(if y208.length+y198.length<17592186044416 then (some (y208++y198)) else (none))) else (none))))=some r:=by first|(rw [jo_];with_reducible exact H)|(have H2_:=(Option.bind_some _ _).symm.trans H;rw [jo_];with_reducible exact H2_)|(have H2_:=(Option.bind_some _ _).symm.trans H;with_reducible exact H2_)|with_reducible exact H|(rw [jo_];exact H)|exact H
       have j1x:=Aside0.mk jo_
       clear jo_
       obtain ⟨y201,jp_⟩:∃ y_:List Int,y_=(([]:List Int)):=⟨_,rfl⟩
       replace H:((some (l0.take (x5_1:Int).toNat:List Int)).bind fun y204=>(if y201.length+y204.length<17592186044416 then ((some (y201++y204:List Int)).bind fun y208=>(if y208.length+y198.length<17592186044416 then (some (y208++y198)) else (none))) else (none)))=some r:=by first|(rw [jp_];with_reducible exact H)|(have H2_:=(Option.bind_some _ _).symm.trans H;rw [jp_];with_reducible exact H2_)|(have H2_:=(Option.bind_some _ _).symm.trans H;with_reducible exact H2_)|with_reducible exact H|(rw [jp_];exact H)|exact H
       have j1i:=Aside0.mk jp_
       clear jp_
       have c30b0:=eq_true (of_decide_eq_true za73:0≤x5_1)
       have c31b0:=eq_true (of_decide_eq_true za73:x5_1≤(l0.length:Int))
       obtain ⟨y204,jq_⟩:∃ y_:List Int,y_=(l0.take (x5_1:Int).toNat):=⟨_,rfl⟩
       replace H:(if y201.length+y204.length<17592186044416 then ((some (y201++y204:List Int)).bind fun y208=>(if y208.length+y198.length<17592186044416 then (some (y208++y198)) else (none))) else (none))=some r:=by first|(rw [jq_];with_reducible exact H)|(have H2_:=(Option.bind_some _ _).symm.trans H;rw [jq_];with_reducible exact H2_)|(have H2_:=(Option.bind_some _ _).symm.trans H;with_reducible exact H2_)|with_reducible exact H|(rw [jq_];exact H)|exact H
       have jz_:=Aside0.mk jq_
       clear jq_
       by_cases c32:y201.length+y204.length<17592186044416
       ·
        rw [if_pos c32] at H
        have j1y:=Aside0.mk c32
        clear c32
        obtain ⟨y208,jr_⟩:∃ y_:List Int,y_=(y201++y204):=⟨_,rfl⟩
        replace H:(if y208.length+y198.length<17592186044416 then (some (y208++y198)) else (none))=some r:=by first|(rw [jr_];with_reducible exact H)|(have H2_:=(Option.bind_some _ _).symm.trans H;rw [jr_];with_reducible exact H2_)|(have H2_:=(Option.bind_some _ _).symm.trans H;with_reducible exact H2_)|with_reducible exact H|(rw [jr_];exact H)|exact H
        have j1z:=Aside0.mk jr_
        clear jr_
        by_cases c33:y208.length+y198.length<17592186044416
        ·
         rw [if_pos c33] at H
         have j20:=Aside0.mk c33
         clear c33
         obtain ⟨y211,js_⟩:∃ y_:List Int,y_=(y208++y198):=⟨_,rfl⟩
         replace H:(some y211)=some r:=by first|(rw [js_];with_reducible exact H)|(have H2_:=(Option.bind_some _ _).symm.trans H;rw [js_];with_reducible exact H2_)|(have H2_:=(Option.bind_some _ _).symm.trans H;with_reducible exact H2_)|with_reducible exact H|(rw [js_];exact H)|exact H
         have j21:=Aside0.mk js_
         clear js_
         obtain rfl:=Option.some.inj H
         obtain ⟨Ao34,co34,eo34⟩:=Kd.R_slice HO_0.out
         subst eo34
         go_wp2_with (first|((with_reducible refine gate_dst (N:=35) rfl ?_);refine Kd.R_lit (Kd.int .i64) _ 3 ?hg (N:=35) ?hd (xs:=([a1]:List Int)) (inner:=[.int .i64 a1]) (ok:=fun _=>True) (okp:=fun _=>True) ?hr ?hp (fun _ hk=>hk) trivial (Below.refl _ _) (Nat.le_refl _) (by simp) ?_;(case hd=>rfl);(case hg=>rfl);(case hr=>first|(go_simp;done)|(go_simp;rfl));(case hp=>exact (Reps.one (show Kd.M (Kd.int .i64) _ _ _ a1 [.int .i64 a1] from rfl) (Reps.none _ _)));intro v192 w35 ho36 hb hg_ hnew_;clear hg_ hnew_;(first|rw [← j1h.out] at ho36|(simp only [Int.reduceToNat] at ho36;rw [← j1h.out] at ho36));have n0_:=Aside0.mk (Kd.R_elder' za54 (Kd.R_base ho36) hb);have n1_:=Aside0.mk (Kd.R_lower (Kd.R_new' (Kd.R_newM (M:=fun k_=>(P0_ k_∨w.heap.size≤k_)) ho36 za21 (fun k_ h_=>.inr h_)) (Kd.R_lt za54)) (below_size za40));have n2_:=Aside0.mk (Kept.below (S:=(fun k_=>P0_ k_)) za41 hb);have n3_:=Aside0.mk (below_step za40 hb);clear HO_0;clear HK;clear HB;have HO_0:=n0_;have j19:=n1_;have HK:=n2_;have HB:=n3_;clear n0_ n1_ n2_ n3_;clear hb ho36;have q37:(x5_1:Int)≤((l0.length:Int):Int):=of_decide_eq_true za73;obtain ⟨i037,hi037,_,hsz37,_⟩:=info_parts info3;have hroom37:l0.length≤co34:=(Kd.R_reads' HO_0.out).2.1;have hC37:Kd.C (Kd.int .i64) _ Ao34 l0.length l0:=(Kd.R_reads' HO_0.out).2.2;have q037:(0:Int)≤(x5_1:Int):=of_decide_eq_true za73;have hcut37:=cut_from (P:=Try.prog) 26 3 .i64 Try.underlying26 hi037 1 hsz37 Ao34 l0.length co34 x5_1 q037 q37;have hr37:=Kd.C_drop (m:=(x5_1:Int).toNat) (c:=co34) hC37 (by omega) hroom37;obtain ⟨A37,hA37⟩:∃ A1,A1=(if co34=(x5_1:Int).toNat then Ao34 else (Ao34:Option Addr).map (·.add ((x5_1:Int).toNat*1))):=⟨_,rfl⟩;obtain ⟨c37,hc37⟩:∃ c1,c1=co34 - (x5_1:Int).toNat:=⟨_,rfl⟩;have hy37:y194.length=l0.length - (x5_1:Int).toNat:=(by rw [jn_.out,List.length_drop]<;>omega);rw [show (l0).drop (x5_1:Int).toNat=y194 from jn_.out.symm] at hr37;replace hr37:Kd.C (Kd.int .i64) _ A37 y194.length y194:=(by rw [hA37];exact hr37);rw [← hy37,← hA37,← hc37] at hcut37;have j5_:=Aside0.mk hr37;have j2c:=Aside0.mk (show y194.length≤c37 from by rw [hy37,hc37];exact Nat.sub_le_sub_right hroom37 _);clear hr37 hC37 hroom37 hi037 hsz37 hc37;have KY37:=Aside0.mk hy37;have KA37:=Aside0.mk hA37;clear hy37 hA37;have KL37:=Aside0.mk (show (x5_1:Int).toNat≤l0.length from by omega);replace q37:=eq_true q37)|((with_reducible refine gate_builtin (b:=.append) (xs:=#[.tmp 35,.tmp 38]) rfl ?_);at_builtin;refine Kd.R_append_rows (Kd.int .i64) (w0:=w0) w0.heap.size rfl (.tmp 35) (.tmp 38) 26 3 (.int .i64 0) 8 rfl Try.underlying26 info3 rfl (by decide) (by omega) v192 y191 y194 _ _ _ (fun k_=>(P0_ k_∨w.heap.size≤k_)∧some k_≠(.slice Ao34 l0.length co34:Value).ownBlock) (fun _=>False) rfl rfl ?aO ?aR (fun _ _ h=>h) (fun _ h=>h.elim) ?aF ?aB ?aS ?aL ?_;(case aR=>repeat (first|exact za29|(with_reducible refine Kd.C_alloc ?_ _)|(with_reducible refine Kd.C_drewN ?_ _)|(with_reducible refine Kd.C_drew ?_)));(case aB=>exact za40);(case aF=>exact (fun k_ hk=>⟨(.inr (Nat.le_trans za21 hk)),Kd.fresh' (Kd.R_lt za54) k_ hk⟩));(case aO=>exact (by (with_reducible repeat (first|apply Kd.R_alloc|apply Kd.R_drewN|apply Kd.R_drew));exact Kd.R_mono j19.out (fun _ hk=>⟨hk.1.1,hk.2⟩)));(case aS=>exact (below_size za40));(case aL=>have:=j1w.out;omega);intro v199 w38 ho hb hg hat;rw [← j1x.out] at ho;have n0_:=Aside0.mk (Kd.R_after (ok:=(fun k_=>(P0_ k_∨w.heap.size≤k_))) za54 hg hat);have n1_:=Aside0.mk (hb);have n2_:=Aside0.mk (Kept.of_grown (S:=(fun k_=>P0_ k_)) hg za41 (fun k_ e_=>(j19.out.1 k_ e_).1.1));have n3_:=Aside0.mk ((show Kd.C (Kd.int .i64) w38 A37 y194.length y194 from by rw [jn_.out,KA37.out];exact Kd.C_drop (m:=(x5_1:Int).toNat) (c:=co34) ((Kd.R_reads' (Kd.R_after (ok:=(fun k_=>(P0_ k_∨w.heap.size≤k_))) za54 hg hat)).2.2) KL37.out ((Kd.R_reads' (Kd.R_after (ok:=(fun k_=>(P0_ k_∨w.heap.size≤k_))) za54 hg hat)).2.1)));have n4_:=Aside0.mk (ho);clear HO_0;clear HB;clear HK;clear j5_;clear j19;have HO_0:=n0_;have HB:=n1_;have HK:=n2_;have j5_:=n3_;have j3_:=n4_;clear n0_ n1_ n2_ n3_ n4_;clear ho hb hg hat)|((with_reducible refine gate_dst (N:=40) rfl ?_);refine Kd.R_lit (Kd.int .i64) _ 3 ?hg (N:=40) ?hd (xs:=([]:List Int)) (inner:=[]) (ok:=fun _=>True) (okp:=fun _=>True) ?hr ?hp (fun _ hk=>hk) trivial (Below.refl _ _) (Nat.le_refl _) (by simp) ?_;(case hd=>rfl);(case hg=>rfl);(case hr=>first|(go_simp;done)|(go_simp;rfl));(case hp=>exact (Reps.none _ _));intro v202 w39 ho40 hb hg_ hnew_;clear hg_ hnew_;(first|rw [← j1i.out] at ho40|(simp only [Int.reduceToNat] at ho40;rw [← j1i.out] at ho40));have n0_:=Aside0.mk (Kd.R_elder' za54 (Kd.R_base ho40) hb);have n1_:=Aside0.mk (Kd.R_elder' za58 (Kd.R_base ho40) hb);have n2_:=Aside0.mk (Kd.R_lower (Kd.R_new' (Kd.R_new' (Kd.R_newM (M:=fun k_=>(P0_ k_∨w.heap.size≤k_)) ho40 za21 (fun k_ h_=>.inr h_)) (Kd.R_lt za54)) (Kd.R_lt za58)) (below_size za40));have n3_:=Aside0.mk (Kd.C_below za29 hb);have n4_:=Aside0.mk (Kept.below (S:=(fun k_=>P0_ k_)) za41 hb);have n5_:=Aside0.mk (below_step za40 hb);clear HO_0;clear j3_;clear j5_;clear HK;clear HB;have HO_0:=n0_;have j3_:=n1_;have j1a:=n2_;have j5_:=n3_;have HK:=n4_;have HB:=n5_;clear n0_ n1_ n2_ n3_ n4_ n5_;clear hb ho40;have q41:(x5_1:Int)≤((l0.length:Int):Int):=of_decide_eq_true za73;obtain ⟨i041,j1j,_,j22,_⟩:=info_parts info3;have j13:l0.length≤co34:=(Kd.R_reads' HO_0.out).2.1;have hC41:Kd.C (Kd.int .i64) _ Ao34 l0.length l0:=(Kd.R_reads' HO_0.out).2.2;have j1n:=cut_to (P:=Try.prog) 26 3 .i64 Try.underlying26 j1j Ao34 l0.length co34 x5_1 (of_decide_eq_true za73) q41 j13;have hr41:=Kd.C_take (m:=(x5_1:Int).toNat) hC41 (by omega);have hy41:y204.length=(x5_1:Int).toNat:=(by rw [jz_.out,List.length_take];omega);rw [← jz_.out] at hr41;rw [← hy41] at j1n;have jb_:=Aside0.mk hr41;have j2d:=Aside0.mk (show y204.length≤co34 from by omega);clear hr41 hC41 j13 j1j j22;have KY41:=Aside0.mk hy41;clear hy41;have KL41:=Aside0.mk (show (x5_1:Int).toNat≤l0.length from by omega);replace q41:=eq_true q41)|((with_reducible refine gate_builtin (b:=.append) (xs:=#[.tmp 40,.tmp 43]) rfl ?_);at_builtin;refine Kd.R_append_rows (Kd.int .i64) (w0:=w0) w0.heap.size rfl (.tmp 40) (.tmp 43) 26 3 (.int .i64 0) 8 rfl Try.underlying26 info3 rfl (by decide) (by omega) v202 y201 y204 _ _ _ (fun k_=>(P0_ k_∨w.heap.size≤k_)∧some k_≠(.slice Ao34 l0.length co34:Value).ownBlock∧some k_≠(v199:Value).ownBlock) (fun _=>False) rfl rfl ?aO ?aR (fun _ _ h=>h) (fun _ h=>h.elim) ?aF ?aB ?aS ?aL ?_;(case aR=>repeat (first|exact (by repeat (first|(with_reducible exact jb_.out)|(with_reducible refine Kd.C_alloc ?_ _)|(with_reducible refine Kd.C_drewN ?_ _)|(with_reducible refine Kd.C_drew ?_)|exact jb_.out))|(with_reducible refine Kd.C_alloc ?_ _)|(with_reducible refine Kd.C_drewN ?_ _)|(with_reducible refine Kd.C_drew ?_)));(case aB=>exact za40);(case aF=>exact (fun k_ hk=>⟨(.inr (Nat.le_trans za21 hk)),Kd.fresh' (Kd.R_lt za54) k_ hk,Kd.fresh' (Kd.R_lt za58) k_ hk⟩));(case aO=>exact (by (with_reducible repeat (first|apply Kd.R_alloc|apply Kd.R_drewN|apply Kd.R_drew));exact Kd.R_mono j1a.out (fun _ hk=>⟨hk.1.1.1,⟨hk.1.2,hk.2⟩⟩)));(case aS=>exact (below_size za40));(case aL=>have:=j1y.out;omega);intro v209 w42 ho hb hg hat;rw [← j1z.out] at ho;have n0_:=Aside0.mk (Kd.R_after (ok:=(fun k_=>(P0_ k_∨w.heap.size≤k_)∧some k_≠(v199:Value).ownBlock)) za54 hg hat);have n1_:=Aside0.mk (Kd.R_after (ok:=(fun k_=>(P0_ k_∨w.heap.size≤k_)∧some k_≠(.slice Ao34 l0.length co34:Value).ownBlock)) za58 hg hat);have n2_:=Aside0.mk (hb);have n3_:=Aside0.mk (Kept.of_grown (S:=(fun k_=>P0_ k_)) hg za41 (fun k_ e_=>(j1a.out.1 k_ e_).1.1.1));have n4_:=Aside0.mk ((show Kd.C (Kd.int .i64) w42 A37 y194.length y194 from by rw [jn_.out,KA37.out];exact Kd.C_drop (m:=(x5_1:Int).toNat) (c:=co34) ((Kd.R_reads' (Kd.R_after (ok:=(fun k_=>(P0_ k_∨w.heap.size≤k_)∧some k_≠(v199:Value).ownBlock)) za54 hg hat)).2.2) KL37.out ((Kd.R_reads' (Kd.R_after (ok:=(fun k_=>(P0_ k_∨w.heap.size≤k_)∧some k_≠(v199:Value).ownBlock)) za54 hg hat)).2.1)));have n5_:=Aside0.mk ((show Kd.C (Kd.int .i64) w42 Ao34 y204.length y204 from by rw [jz_.out];exact Kd.C_take (m:=(x5_1:Int).toNat) ((Kd.R_reads' (Kd.R_after (ok:=(fun k_=>(P0_ k_∨w.heap.size≤k_)∧some k_≠(v199:Value).ownBlock)) za54 hg hat)).2.2) KL41.out));have n6_:=Aside0.mk (ho);clear HO_0;clear j3_;clear HB;clear HK;clear j5_;clear jb_;clear j1a;have HO_0:=n0_;have j3_:=n1_;have HB:=n2_;have HK:=n3_;have j5_:=n4_;have jb_:=n5_;have j1b:=n6_;clear n0_ n1_ n2_ n3_ n4_ n5_ n6_;clear ho hb hg hat;obtain ⟨Ao44,co44,eo44⟩:=Kd.R_slice j3_.out;subst eo44)|((with_reducible refine gate_builtin (b:=.append) (xs:=#[.tmp 44,.tmp 45]) rfl ?_);at_builtin;refine Kd.R_append_rows (Kd.int .i64) (w0:=w0) w0.heap.size rfl (.tmp 44) (.tmp 45) 26 3 (.int .i64 0) 8 rfl Try.underlying26 info3 rfl (by decide) (by omega) v209 y208 y198 _ _ _ (fun k_=>(P0_ k_∨w.heap.size≤k_)∧some k_≠(.slice Ao34 l0.length co34:Value).ownBlock∧some k_≠(.slice Ao44 y198.length co44:Value).ownBlock) (fun _=>False) rfl rfl ?aO ?aR (fun _ _ h=>h) (fun _ h=>h.elim) ?aF ?aB ?aS ?aL ?_;(case aR=>repeat (first|exact (Kd.R_reads' j3_.out).2.2|(with_reducible refine Kd.C_alloc ?_ _)|(with_reducible refine Kd.C_drewN ?_ _)|(with_reducible refine Kd.C_drew ?_)));(case aB=>exact za40);(case aF=>exact (fun k_ hk=>⟨(.inr (Nat.le_trans za21 hk)),Kd.fresh' (Kd.R_lt za54) k_ hk,Kd.fresh' (Kd.R_lt za58) k_ hk⟩));(case aO=>exact (by (with_reducible repeat (first|apply Kd.R_alloc|apply Kd.R_drewN|apply Kd.R_drew));exact j1b.out));(case aS=>exact (below_size za40));(case aL=>have:=j20.out;omega);intro v212 w43 ho hb hg hat;rw [← j21.out] at ho;have n0_:=Aside0.mk (Kd.R_after (ok:=(fun k_=>(P0_ k_∨w.heap.size≤k_)∧some k_≠(.slice Ao44 y198.length co44:Value).ownBlock)) za54 hg hat);have n1_:=Aside0.mk (Kd.R_after (ok:=(fun k_=>(P0_ k_∨w.heap.size≤k_)∧some k_≠(.slice Ao34 l0.length co34:Value).ownBlock)) za58 hg hat);have n2_:=Aside0.mk (hb);have n3_:=Aside0.mk (Kept.of_grown (S:=(fun k_=>P0_ k_)) hg za41 (fun k_ e_=>(j1b.out.1 k_ e_).1));have n4_:=Aside0.mk ((show Kd.C (Kd.int .i64) w43 A37 y194.length y194 from by rw [jn_.out,KA37.out];exact Kd.C_drop (m:=(x5_1:Int).toNat) (c:=co34) ((Kd.R_reads' (Kd.R_after (ok:=(fun k_=>(P0_ k_∨w.heap.size≤k_)∧some k_≠(.slice Ao44 y198.length co44:Value).ownBlock)) za54 hg hat)).2.2) KL37.out ((Kd.R_reads' (Kd.R_after (ok:=(fun k_=>(P0_ k_∨w.heap.size≤k_)∧some k_≠(.slice Ao44 y198.length co44:Value).ownBlock)) za54 hg hat)).2.1)));have n5_:=Aside0.mk ((show Kd.C (Kd.int .i64) w43 Ao34 y204.length y204 from by rw [jz_.out];exact Kd.C_take (m:=(x5_1:Int).toNat) ((Kd.R_reads' (Kd.R_after (ok:=(fun k_=>(P0_ k_∨w.heap.size≤k_)∧some k_≠(.slice Ao44 y198.length co44:Value).ownBlock)) za54 hg hat)).2.2) KL41.out));have n6_:=Aside0.mk (ho);clear HO_0;clear j3_;clear HB;clear HK;clear j5_;clear jb_;clear j1b;have HO_0:=n0_;have j3_:=n1_;have HB:=n2_;have HK:=n3_;have j5_:=n4_;have jb_:=n5_;have j23:=n6_;clear n0_ n1_ n2_ n3_ n4_ n5_ n6_;clear ho hb hg hat))
         go_ret
         exact ⟨_,by first|rfl|(simp [errW_none,errW_some]<;>rfl)|(simp [*,errW_none,errW_some]<;>rfl),by (with_reducible repeat (first|apply Kd.R_alloc|apply Kd.R_drewN|apply Kd.R_drew));exact Kd.R_mono j23.out (fun _ hk=>hk.1),by repeat (first|(with_reducible first|exact HB.out|apply below_alloc|apply pw_below_drewN|apply below_drew1)|exact HB.out),by repeat (first|(with_reducible first|exact HK.out|apply Kept.alloc|apply Kept.drewN|apply Kept.drew)|exact HK.out)⟩
        ·
         rw [if_neg c33] at H
         exact absurd H (by simp)
       ·
        rw [if_neg c32] at H
        exact absurd H (by simp)
      ·
       rw [if_neg c29] at H
       exact absurd H (by simp)
     ·
      rw [if_neg c28] at H
      exact absurd H (by simp)
    ·
     rw [if_neg c27] at H
     exact absurd H (by simp)
def abugidaref15_Norm.l0:Nat→List Int→List Int→Int→Option (List Int)
 | 0,_,_,_=>none
 | k+1,x0,x3,x4=>if x4<(x0.length:Int) then (if 0≤x4 then ((abugidaref15_With.f k x3 (rd x0 x4)).bind fun t215=>(abugidaref15_Norm.l0 k x0 t215 (wrap64 (x4+1)))) else (none)) else (some x3)
def abugidaref15_Norm.f (k:Nat) (l0:List Int):Option (List Int):=abugidaref15_Norm.l0 k l0 ([]:List Int) 0
theorem abugidaref15_Norm.mono_l:∀ k,(∀ y0 y1 y2,LeO (abugidaref15_Norm.l0 k y0 y1 y2) (abugidaref15_Norm.l0 (k+1) y0 y1 y2))
 | 0=>fun _ _ _ r h=>by simp [abugidaref15_Norm.l0] at h
 | k+1=>by
  have ih0:=abugidaref15_Norm.mono_l k
  ·
   intro y0 y1 y2
   unfold abugidaref15_Norm.l0
   repeat' first
   | (with_reducible exact ih0 _ _ _)
   | (with_reducible exact abugidaref15_With.mono _ _ _)
   | (with_reducible exact LeO.refl _)
   | (with_reducible exact LeO.none _)
   | (with_reducible refine LeO.ite ?_ ?_)
   | (with_reducible refine LeO.bind ?_ (fun _=>?_))
   | exact ih0 _ _ _
   | exact abugidaref15_With.mono _ _ _
   | exact LeO.none _
   | refine LeO.ite ?_ ?_
   | refine LeO.bind ?_ (fun _=>?_)
theorem abugidaref15_Norm.mono:∀ a0 k,LeO (abugidaref15_Norm.f k a0) (abugidaref15_Norm.f (k+1) a0):=by
 intro a0 k
 have ih0:=abugidaref15_Norm.mono_l k
 unfold abugidaref15_Norm.f
 repeat' first
   | (with_reducible exact ih0 _ _ _)
   | (with_reducible exact abugidaref15_With.mono _ _ _)
   | (with_reducible exact LeO.refl _)
   | (with_reducible exact LeO.none _)
   | (with_reducible refine LeO.ite ?_ ?_)
   | (with_reducible refine LeO.bind ?_ (fun _=>?_))
   | exact ih0 _ _ _
   | exact abugidaref15_With.mono _ _ _
   | exact LeO.none _
   | refine LeO.ite ?_ ?_
   | refine LeO.bind ?_ (fun _=>?_)
set_option maxHeartbeats 8000000 in
set_option maxRecDepth 100000 in
theorem abugidaref15_Norm.calls (k:Nat) (A0:Option Addr) (c0:Nat) (l0:List Int) (r:List Int) (w:World) (hr0:Kd.C (Kd.int .i64) w A0 l0.length l0) (hc0:l0.length≤c0) (h:abugidaref15_Norm.f k l0=some r) :
  Calls Try.prog 36 #[.slice A0 l0.length c0] w fun e w'=>∃ v0_:Value,e=.returned (v0_)∧Kd.R (Kd.int .i64) 3 w' w.heap.size (fun _=>True) v0_ r∧Below w.heap.size w w':=by
 have HR0:=Aside0.mk hr0
 have HC0:=Aside0.mk hc0
 clear hr0 hc0
 have HB:=Aside0.mk (Below.refl w.heap.size w)
 have H:(abugidaref15_Norm.l0 k l0 ([]:List Int) 0)=some r:=h
 clear h
 have H':=Aside0.mk H
 clear H
 go_enter Try.func36,Try.ntmps36
 go_wp2
 go_loopg [3,4] k (fun kq v3 v4 w'=>∃ (x3_1:List Int) (x4_1:Int),v4=.int .i64 x4_1∧Aside0 (abugidaref15_Norm.l0 kq l0 x3_1 x4_1=some r)∧Aside0 (kq≤k)∧Aside0 (Kd.R (Kd.int .i64) 3 w' w.heap.size (fun _=>True) v3 x3_1)∧Aside0 (Below w.heap.size w w'))
 case atStart=>exact ⟨(([]:List Int)),(0),za76,H',⟨Nat.le_refl _⟩,⟨by first|exact Kd.R_nil _ _ _ _ _|exact Kd.N_nil _ _ _ _ _|exact Kd.V_nil _ _ _ _ _|exact Kd.Q_nil _ _ _ _ _|exact Kd.S_nil _ _ _ _ _⟩,⟨by repeat (first|(with_reducible first|exact HB.out|apply below_alloc|apply pw_below_drewN|apply below_drew1)|exact HB.out)⟩⟩
 case round =>
  clear H'
  obtain ⟨x3_1,x4_1,rfl,HA,HK1,HO_3,HB⟩:=hrel
  cases gk with
  | zero=>exact absurd HA.out (by simp [abugidaref15_Norm.l0])
  | succ k1 =>
   have H:=HA.out
   clear HA
   simp only [abugidaref15_Norm.l0] at H
   by_cases c2:x4_1<(l0.length:Int)
   ·
    rw [if_pos c2] at H
    have c2b0:decide (x4_1<(l0.length:Int))=true:=decide_eq_true c2
    clear c2
    by_cases c3:0≤x4_1
    ·
     rw [if_pos c3] at H
     have c3b0:decide (0≤x4_1)=true:=decide_eq_true c3
     clear c3
     replace H:=Option.bind_eq_some_iff.mp H
     obtain ⟨t215,A40,H⟩:=H
     replace H:(abugidaref15_Norm.l0 k1 l0 t215 (wrap64 (x4_1+1)))=some r:=H
     have A4:=Aside0.mk A40
     clear A40
     have H':=Aside0.mk H
     clear H
     have p214:0≤(x4_1:Int):=of_decide_eq_true za73
     have q214:x4_1<(l0.length:Int):=of_decide_eq_true za73
     obtain ⟨j2e,e214,jx_⟩:=Kd.at_int HR0.out x4_1 p214 q214
     cases e214
     replace jx_:=(HB.out.cell (World.block_lt_of_cell? w _ jx_)).trans jx_
     replace p214:=eq_true p214
     replace q214:=eq_true q214
     obtain ⟨Ao5,co5,eo5⟩:=Kd.R_slice HO_3.out
     subst eo5
     go_wp2_with (first|((with_reducible refine gate_callee (f:=54) rfl ?_);refine goesL_ (some 16) rfl rfl Try.func54 (by kernel_rfl) rfl #[.slice Ao5 x3_1.length co5,.int .i64 (rd l0 x4_1)] rfl za39 ?_;(with_reducible refine (abugidaref15_With.calls k1 (fun k_=>some k_=(.slice Ao5 x3_1.length co5:Value).ownBlock) (.slice Ao5 x3_1.length co5) x3_1 (rd l0 x4_1) t215 w _ ?side1 ?side2 A4.out).mono ?_);(case side1=>repeat (first|(with_reducible first|exact HB.out|apply below_alloc|apply pw_below_drewN|apply below_drew1)|exact HB.out));(case side2=>exact Kd.R_tight rfl HO_3.out);rintro e w6 ⟨v216,rfl,ho0,hb,hkp⟩;refine ⟨_,rfl,?_⟩;have n0_:=Aside0.mk (Kd.R_mono (ok':=fun k_=>True) ho0 (fun k_ hk_=>trivial));have n1_:=Aside0.mk (hb);clear HB;clear HO_3;have j24:=n0_;have HB:=n1_;clear n0_ n1_;(try clear hb);(try clear hkp);(try clear ho0)))
     go_roundg k1
     case measure=>have:=HK1.out;omega
     case rel=>exact ⟨(t215),(wrap64 (x4_1+1)),za76,H',⟨by have:=HK1.out;omega⟩,⟨by (with_reducible repeat (first|apply Kd.R_alloc|apply Kd.R_drewN|apply Kd.R_drew));exact j24.out⟩,⟨by repeat (first|(with_reducible first|exact HB.out|apply below_alloc|apply pw_below_drewN|apply below_drew1)|exact HB.out)⟩⟩
    ·
     rw [if_neg c3] at H
     exact absurd H (by simp)
   ·
    rw [if_neg c2] at H
    have c2b0:decide (x4_1<(l0.length:Int))=false:=decide_eq_false c2
    clear c2
    obtain rfl:=Option.some.inj H
    go_wp2
    go_ret
    exact ⟨_,by first|rfl|(simp [errW_none,errW_some]<;>rfl)|(simp [*,errW_none,errW_some]<;>rfl),by (with_reducible repeat (first|apply Kd.R_alloc|apply Kd.R_drewN|apply Kd.R_drew));exact HO_3.out,by repeat (first|(with_reducible first|exact HB.out|apply below_alloc|apply pw_below_drewN|apply below_drew1)|exact HB.out)⟩
mutual
def abugidaref16_sets.l0:Nat→Int→Int→List (List Int)→Int→List Int→Int→Option ((List (List Int)) × Int)
 | 0,_,_,_,_,_,_=>none
 | k+1,x1,x2,x7,x8,jc_,jt_=>if x8<x1 then ((abugidaref01_Draw_Next.f jc_ jt_ 3).bind fun bt218=>(abugidaref16_sets.l1 k x1 x2 x7 x8 ([]:List Int) (wrap64 (1+bt218.1)) 0 jc_ bt218.2)) else (some (x7,jt_))
def abugidaref16_sets.l1:Nat→Int→Int→List (List Int)→Int→List Int→Int→Int→List Int→Int→Option ((List (List Int)) × Int)
 | 0,_,_,_,_,_,_,_,_,_=>none
 | k+1,x1,x2,x7,x8,x9,x10,x11,jc_,jt_=>if x11<x10 then ((abugidaref01_Draw_Next.f jc_ jt_ (mn x2 8)).bind fun bt220=>(if x9.length<17592186044416 then (abugidaref16_sets.l1 k x1 x2 x7 x8 (x9++[bt220.1]) x10 (wrap64 (x11+1)) jc_ bt220.2) else (none))) else ((abugidaref15_Norm.f k x9).bind fun t225=>(if x7.length<5864062014805 then (abugidaref16_sets.l0 k x1 x2 (x7++[t225]) (wrap64 (x8+1)) jc_ jt_) else (none)))
end
def abugidaref16_sets.f (k:Nat) (s0_0:List Int) (s0_1:Int) (a1:Int) (a2:Int):Option ((List (List Int)) × Int):=abugidaref16_sets.l0 k a1 a2 ([]:List (List Int)) 0 s0_0 s0_1
theorem abugidaref16_sets.mono_l:∀ k,(∀ y0 y1 y2 y3 y4 y5,LeO (abugidaref16_sets.l0 k y0 y1 y2 y3 y4 y5) (abugidaref16_sets.l0 (k+1) y0 y1 y2 y3 y4 y5))∧(∀ y0 y1 y2 y3 y4 y5 y6 y7 y8,LeO (abugidaref16_sets.l1 k y0 y1 y2 y3 y4 y5 y6 y7 y8) (abugidaref16_sets.l1 (k+1) y0 y1 y2 y3 y4 y5 y6 y7 y8))
 | 0=>⟨fun _ _ _ _ _ _ r h=>by simp [abugidaref16_sets.l0] at h,fun _ _ _ _ _ _ _ _ _ r h=>by simp [abugidaref16_sets.l1] at h⟩
 | k+1=>by
  obtain ⟨ih0,ih1⟩:=abugidaref16_sets.mono_l k
  refine ⟨?_,?_⟩
  ·
   intro y0 y1 y2 y3 y4 y5
   unfold abugidaref16_sets.l0
   repeat' first
   | (with_reducible exact ih0 _ _ _ _ _ _)
   | (with_reducible exact ih1 _ _ _ _ _ _ _ _ _)
   | (with_reducible exact abugidaref15_Norm.mono _ _)
   | (with_reducible exact LeO.refl _)
   | (with_reducible exact LeO.none _)
   | (with_reducible refine LeO.ite ?_ ?_)
   | (with_reducible refine LeO.bind ?_ (fun _=>?_))
   | exact ih0 _ _ _ _ _ _
   | exact ih1 _ _ _ _ _ _ _ _ _
   | exact abugidaref15_Norm.mono _ _
   | exact LeO.none _
   | refine LeO.ite ?_ ?_
   | refine LeO.bind ?_ (fun _=>?_)
  ·
   intro y0 y1 y2 y3 y4 y5 y6 y7 y8
   unfold abugidaref16_sets.l1
   repeat' first
   | (with_reducible exact ih0 _ _ _ _ _ _)
   | (with_reducible exact ih1 _ _ _ _ _ _ _ _ _)
   | (with_reducible exact abugidaref15_Norm.mono _ _)
   | (with_reducible exact LeO.refl _)
   | (with_reducible exact LeO.none _)
   | (with_reducible refine LeO.ite ?_ ?_)
   | (with_reducible refine LeO.bind ?_ (fun _=>?_))
   | exact ih0 _ _ _ _ _ _
   | exact ih1 _ _ _ _ _ _ _ _ _
   | exact abugidaref15_Norm.mono _ _
   | exact LeO.none _
   | refine LeO.ite ?_ ?_
   | refine LeO.bind ?_ (fun _=>?_)
theorem abugidaref16_sets.mono:∀ a0 a1 a2 a3 k,LeO (abugidaref16_sets.f k a0 a1 a2 a3) (abugidaref16_sets.f (k+1) a0 a1 a2 a3):=by
 intro a0 a1 a2 a3 k
 obtain ⟨ih0,ih1⟩:=abugidaref16_sets.mono_l k
 unfold abugidaref16_sets.f
 repeat' first
   | (with_reducible exact ih0 _ _ _ _ _ _)
   | (with_reducible exact ih1 _ _ _ _ _ _ _ _ _)
   | (with_reducible exact abugidaref15_Norm.mono _ _)
   | (with_reducible exact LeO.refl _)
   | (with_reducible exact LeO.none _)
   | (with_reducible refine LeO.ite ?_ ?_)
   | (with_reducible refine LeO.bind ?_ (fun _=>?_))
   | exact ih0 _ _ _ _ _ _
   | exact ih1 _ _ _ _ _ _ _ _ _
   | exact abugidaref15_Norm.mono _ _
   | exact LeO.none _
   | refine LeO.ite ?_ ?_
   | refine LeO.bind ?_ (fun _=>?_)
set_option maxHeartbeats 8000000 in
set_option maxRecDepth 100000 in
theorem abugidaref16_sets.calls (k:Nat) (g:Nat) (s0_0:List Int) (s0_1:Int) (a1:Int) (a2:Int) (r1:List (List Int)) (r2:Int) (w0 w:World) (hI:IsS104 w0 w g s0_0 s0_1) (hB:Below w0.heap.size w0 w) (h:abugidaref16_sets.f k s0_0 s0_1 a1 a2=some (r1,r2)) :
  Calls Try.prog 61 #[.pointer (some ⟨g,0,none⟩),.int .i64 a1,.int .i64 a2] w fun e w'=>∃ v0_:Value,e=.returned (v0_)∧Kd.S (Kd.slice 3 (Kd.int .i64)) 26 w' w.heap.size (fun _=>True) v0_ r1∧IsS104 w0 w' g s0_0 r2∧Below w0.heap.size w0 w'∧KeepBut w w' g none:=by
 have HI0:=Aside0.mk hI
 have HK:=Aside0.mk (KeepBut.refl w g none)
 have HL:=Aside0.mk hB.size
 clear hI
 have HW0:=Aside0.mk hB.size
 have HB:=Aside0.mk hB
 clear hB
 have H:(abugidaref16_sets.l0 k a1 a2 ([]:List (List Int)) 0 s0_0 s0_1)=some (r1,r2):=h
 clear h
 have H':=Aside0.mk H
 clear H
 go_enter Try.func61,Try.ntmps61
 go_wp2
 go_loopg [7,8] k (fun kq v7 v8 w'=>∃ (x7_1:List (List Int)) (x8_1:Int) (j8_:Int),v8=.int .i64 x8_1∧Aside0 (abugidaref16_sets.l0 kq a1 a2 x7_1 x8_1 s0_0 j8_=some (r1,r2))∧Aside0 (kq≤k)∧Aside0 (Kd.S (Kd.slice 3 (Kd.int .i64)) 26 w' w.heap.size (fun _=>True) v7 x7_1)∧Aside0 (IsS104 w0 w' g s0_0 j8_)∧Aside0 (KeepBut w w' g none)∧Aside0 (Below w0.heap.size w0 w'))
 case atStart=>exact ⟨(([]:List (List Int))),(0),(s0_1),za76,H',⟨Nat.le_refl _⟩,⟨by first|exact Kd.S_nil _ _ _ _ _|exact Kd.N_nil _ _ _ _ _|exact Kd.V_nil _ _ _ _ _|exact Kd.Q_nil _ _ _ _ _|exact Kd.R_nil _ _ _ _ _⟩,⟨by repeat (first|(with_reducible first|exact HI0.out|apply IsS104.alloc|apply IsS104.drewN|apply IsS104.drew|apply IsS104.set_1)|exact HI0.out)⟩,⟨by repeat (first|(with_reducible first|exact HK.out|apply KeepBut.set_|apply keep_drewN|apply keep_drew|apply keep_alloc)|exact HK.out)⟩,⟨by repeat (first|(with_reducible first|exact HB.out|apply below_alloc|apply pw_below_drewN|apply below_drew1|refine below_set ?_ (IsS104.ge HI0.out))|exact HB.out)⟩⟩
 case round =>
  clear H'
  try clear p2
  obtain ⟨x7_1,x8_1,j8_,rfl,HA,HK1,HO_7,HI0,HK,HB⟩:=hrel
  cases gk with
  | zero=>exact absurd HA.out (by simp [abugidaref16_sets.l0])
  | succ k1 =>
   have H:=HA.out
   clear HA
   simp only [abugidaref16_sets.l0] at H
   by_cases c4:x8_1<a1
   ·
    rw [if_pos c4] at H
    have c4b0:decide (x8_1<a1)=true:=decide_eq_true c4
    clear c4
    replace H:=Option.bind_eq_some_iff.mp H
    obtain ⟨⟨t218,t219⟩,A50,H⟩:=H
    replace H:(abugidaref16_sets.l1 k1 a1 a2 x7_1 x8_1 ([]:List Int) (wrap64 (1+t218)) 0 s0_0 t219)=some (r1,r2):=H
    have A5:=Aside0.mk A50
    clear A50
    have H':=Aside0.mk H
    clear H
    go_wp2_with (first|((with_reducible refine gate_callee (f:=60) rfl ?_);refine goesL_ (some 18) rfl rfl Try.func60 (by kernel_rfl) rfl #[.pointer (some ⟨g,0,none⟩),.int .i64 3] rfl za39 ?_;(with_reducible refine (abugidaref01_Draw_Next.calls g s0_0 j8_ 3 t218 t219 w0 _ ?side1 ?side2 A5.out).mono ?_);(case side1=>repeat (first|(with_reducible first|exact HI0.out|apply IsS104.alloc|apply IsS104.drewN|apply IsS104.drew|apply IsS104.set_1)|exact HI0.out));(case side2=>repeat (first|(with_reducible first|exact HB.out|apply below_alloc|apply pw_below_drewN|apply below_drew1|refine below_set ?_ (IsS104.ge HI0.out))|exact HB.out));rintro e w6 ⟨rfl,hi,hb,hk⟩;refine ⟨_,rfl,?_⟩;have n0_:=Aside0.mk (Kd.S_mono (Kd.S_keep (IsS104.apartS (show IsS104 w0 _ g s0_0 j8_ from by repeat (first|(with_reducible first|exact HI0.out|apply IsS104.alloc|apply IsS104.drewN|apply IsS104.drew|apply IsS104.set_1)|exact HI0.out)) za55 (by decide)) hk (fun _ h=>h.2)) (fun _ h=>h.1));have n1_:=Aside0.mk (KeepBut.trans za38 hk (.inl rfl));have n2_:=Aside0.mk (hb);have n3_:=Aside0.mk (hi);clear HO_7;clear HK;clear HB;clear HI0;have HO_7:=n0_;have HK:=n1_;have HB:=n2_;have HI0:=n3_;clear n0_ n1_ n2_ n3_;(try clear hb);(try clear hb2);(try clear hk);(try clear hi)))
    go_loopg [9,11] k1 (fun kq v9 v11 w'=>∃ (x9_2:List Int) (j6_:Int) (j1_:Int),v11=.int .i64 j6_∧Aside0 (abugidaref16_sets.l1 kq a1 a2 x7_1 x8_1 x9_2 (wrap64 (1+t218)) j6_ s0_0 j1_=some (r1,r2))∧Aside0 (kq≤k1)∧Aside0 (Kd.S (Kd.slice 3 (Kd.int .i64)) 26 w' w.heap.size (fun k_=>some k_≠(v9:Value).ownBlock) u7 x7_1)∧Aside0 (Kd.R (Kd.int .i64) 3 w' w.heap.size (fun _=>True) v9 x9_2)∧Aside0 (IsS104 w0 w' g s0_0 j1_)∧Aside0 (KeepBut w w' g none)∧Aside0 (Below w0.heap.size w0 w'))
    case atStart=>exact ⟨(([]:List Int)),(0),(t219),za76,H',⟨Nat.le_refl _⟩,⟨by (with_reducible repeat (first|apply Kd.S_alloc|apply Kd.S_drewN|apply Kd.S_drew));exact Kd.S_mono HO_7.out (fun _ hk=>(by simp [Value.ownBlock]))⟩,⟨by first|exact Kd.R_nil _ _ _ _ _|exact Kd.N_nil _ _ _ _ _|exact Kd.V_nil _ _ _ _ _|exact Kd.Q_nil _ _ _ _ _|exact Kd.S_nil _ _ _ _ _⟩,⟨by repeat (first|(with_reducible first|exact HI0.out|apply IsS104.alloc|apply IsS104.drewN|apply IsS104.drew|apply IsS104.set_1)|exact HI0.out)⟩,⟨by repeat (first|(with_reducible first|exact HK.out|apply KeepBut.set_|apply keep_drewN|apply keep_drew|apply keep_alloc)|exact HK.out)⟩,⟨by repeat (first|(with_reducible first|exact HB.out|apply below_alloc|apply pw_below_drewN|apply below_drew1|refine below_set ?_ (IsS104.ge HI0.out))|exact HB.out)⟩⟩
    case round =>
     clear H'
     try clear p2
     try clear c4
     try clear c4b0
     try clear c6
     try clear p6
     try clear p2
     obtain ⟨x9_2,j6_,j1_,rfl,HA,HK2,HO_7,HO_9,HI0,HK,HB⟩:=hrel
     cases gk with
     | zero=>exact absurd HA.out (by simp [abugidaref16_sets.l1])
     | succ k2 =>
      have H:=HA.out
      clear HA
      simp only [abugidaref16_sets.l1] at H
      by_cases c7:j6_<(wrap64 (1+t218))
      ·
       rw [if_pos c7] at H
       have c7b0:decide (j6_<(wrap64 (1+t218)))=true:=decide_eq_true c7
       clear c7
       obtain ⟨ji8,hji8⟩:∃ j_:Int,(mn a2 8)=j_:=⟨_,rfl⟩
       replace H:((abugidaref01_Draw_Next.f s0_0 j1_ (ji8)).bind fun bt220=>(if x9_2.length<17592186044416 then (abugidaref16_sets.l1 k2 a1 a2 x7_1 x8_1 (x9_2++[bt220.1]) (wrap64 (1+t218)) (wrap64 (j6_+1)) s0_0 bt220.2) else (none)))=some (r1,r2):=by first|(rw [hji8] at H;exact H)|(simp only [hji8] at H ⊢;exact H)
       have j2f:(if 8<a2 then 8 else a2)=ji8:=hji8
       replace H:=Option.bind_eq_some_iff.mp H
       obtain ⟨⟨t220,t221⟩,A90,H⟩:=H
       replace H:(if x9_2.length<17592186044416 then (abugidaref16_sets.l1 k2 a1 a2 x7_1 x8_1 (x9_2++[t220]) (wrap64 (1+t218)) (wrap64 (j6_+1)) s0_0 t221) else (none))=some (r1,r2):=H
       have A9:=Aside0.mk A90
       clear A90
       by_cases c10:x9_2.length<17592186044416
       ·
        rw [if_pos c10] at H
        have LMc10:=Aside0.mk c10
        clear c10
        obtain ⟨y222,ju_⟩:∃ y_:List Int,y_=(x9_2++[t220]):=⟨_,rfl⟩
        replace H:(abugidaref16_sets.l1 k2 a1 a2 x7_1 x8_1 y222 (wrap64 (1+t218)) (wrap64 (j6_+1)) s0_0 t221)=some (r1,r2):=by first|(rw [ju_];with_reducible exact H)|(have H2_:=(Option.bind_some _ _).symm.trans H;rw [ju_];with_reducible exact H2_)|(have H2_:=(Option.bind_some _ _).symm.trans H;with_reducible exact H2_)|with_reducible exact H|(rw [ju_];exact H)|exact H
        have j25:=Aside0.mk ju_
        clear ju_
        have H':=Aside0.mk H
        clear H
        go_wp2_with (first|((with_reducible refine gate_callee (f:=60) rfl ?_);refine goesL_ (some 29) rfl rfl Try.func60 (by kernel_rfl) rfl #[.pointer (some ⟨g,0,none⟩),.int .i64 ji8] rfl (by (try simp only [List.map_toArray,List.map_cons,List.map_nil]);first|done|(simp only [hji8];rfl)|rfl|(simp only [List.length_drop,List.length_take];rfl)) ?_;(with_reducible refine (abugidaref01_Draw_Next.calls g s0_0 j1_ ji8 t220 t221 w0 _ ?side1 ?side2 A9.out).mono ?_);(case side1=>repeat (first|(with_reducible first|exact HI0.out|apply IsS104.alloc|apply IsS104.drewN|apply IsS104.drew|apply IsS104.set_1)|exact HI0.out));(case side2=>repeat (first|(with_reducible first|exact HB.out|apply below_alloc|apply pw_below_drewN|apply below_drew1|refine below_set ?_ (IsS104.ge HI0.out))|exact HB.out));rintro e w11 ⟨rfl,hi,hb,hk⟩;refine ⟨_,rfl,?_⟩;have n0_:=Aside0.mk (Kd.S_mono (Kd.S_keep (IsS104.apartS (show IsS104 w0 _ g s0_0 j1_ from by repeat (first|(with_reducible first|exact HI0.out|apply IsS104.alloc|apply IsS104.drewN|apply IsS104.drew|apply IsS104.set_1)|exact HI0.out)) za55 (by decide)) hk (fun _ h=>h.2)) (fun _ h=>h.1));have n1_:=Aside0.mk (Kd.R_mono (Kd.R_keep (IsS104.apart (show IsS104 w0 _ g s0_0 j1_ from by repeat (first|(with_reducible first|exact HI0.out|apply IsS104.alloc|apply IsS104.drewN|apply IsS104.drew|apply IsS104.set_1)|exact HI0.out)) za56 (by decide)) hk (fun _ h=>h.2)) (fun _ h=>h.1));have n2_:=Aside0.mk (KeepBut.trans za38 hk (.inl rfl));have n3_:=Aside0.mk (hb);have n4_:=Aside0.mk (hi);clear HO_7;clear HO_9;clear HK;clear HB;clear HI0;have HO_7:=n0_;have HO_9:=n1_;have HK:=n2_;have HB:=n3_;have HI0:=n4_;clear n0_ n1_ n2_ n3_ n4_;(try clear hb);(try clear hb2);(try clear hk);(try clear hi))|((with_reducible refine gate_builtin (b:=.append) (xs:=#[.tmp 25,.tmp 30]) rfl ?_);at_builtin;refine Kd.R_append (Kd.int .i64) w.heap.size rfl (.tmp 25) (.tmp 30) 26 3 (.int .i64 0) 8 rfl Try.underlying26 info3 rfl (by decide) (by omega) u9 x9_2 t220 [.int .i64 t220] (fun _=>True) (fun _=>False) rfl rfl ?aP (fun _ hk=>hk.elim) ?aF ?aO (Below.refl _ _) ?aS ?aL ?_;(case aP=>exact rfl);(case aF=>exact (fun _ _=>trivial));(case aO=>exact za56);(case aS=>exact (keep_size (w:=w) (g:=g) (row:=none) za38));(case aL=>have:=LMc10.out;omega);intro v223 w12 ho hb hg hat;rw [← j25.out] at ho;have n0_:=Aside0.mk (Kd.S_after (ok:=(fun _=>True)) (by (with_reducible repeat (first|apply Kd.S_alloc|apply Kd.S_drewN|apply Kd.S_drew));exact Kd.S_mono HO_7.out (fun _ hk=>⟨trivial,hk⟩)) hg hat);have n1_:=Aside0.mk (IsS104.grown za37 hg (IsS104.own_ne HI0.out HO_9.out (by decide)));have n2_:=Aside0.mk (below_weaken za30 HL.out hb);have n3_:=Aside0.mk (KeepBut.trans za38 (KeepBut.of_grown hg g) (Kd.R_base2 HO_9.out));have n4_:=Aside0.mk (ho);clear HO_7;clear HI0;clear HB;clear HK;clear HO_9;have HO_7:=n0_;have HI0:=n1_;have HB:=n2_;have HK:=n3_;have j26:=n4_;clear n0_ n1_ n2_ n3_ n4_;clear ho hb hg hat))
        go_roundg k2
        case measure=>have:=HK1.out;have:=HK2.out;omega
        case rel=>exact ⟨(y222),(wrap64 (j6_+1)),(t221),za76,H',⟨by have:=HK1.out;have:=HK2.out;omega⟩,⟨by (with_reducible repeat (first|apply Kd.S_alloc|apply Kd.S_drewN|apply Kd.S_drew));exact Kd.S_mono HO_7.out (fun _ hk=>hk.2)⟩,⟨by (with_reducible repeat (first|apply Kd.R_alloc|apply Kd.R_drewN|apply Kd.R_drew));exact j26.out⟩,⟨by repeat (first|(with_reducible first|exact HI0.out|apply IsS104.alloc|apply IsS104.drewN|apply IsS104.drew|apply IsS104.set_1)|exact HI0.out)⟩,⟨by repeat (first|(with_reducible first|exact HK.out|apply KeepBut.set_|apply keep_drewN|apply keep_drew|apply keep_alloc)|exact HK.out)⟩,⟨by repeat (first|(with_reducible first|exact HB.out|apply below_alloc|apply pw_below_drewN|apply below_drew1|refine below_set ?_ (IsS104.ge HI0.out))|exact HB.out)⟩⟩
       ·
        rw [if_neg c10] at H
        exact absurd H (by simp)
      ·
       rw [if_neg c7] at H
       have c7b0:decide (j6_<(wrap64 (1+t218)))=false:=decide_eq_false c7
       clear c7
       replace H:=Option.bind_eq_some_iff.mp H
       obtain ⟨t225,A130,H⟩:=H
       replace H:(if x7_1.length<5864062014805 then (abugidaref16_sets.l0 k2 a1 a2 (x7_1++[t225]) (wrap64 (x8_1+1)) s0_0 j1_) else (none))=some (r1,r2):=H
       have A13:=Aside0.mk A130
       clear A130
       by_cases c14:x7_1.length<5864062014805
       ·
        rw [if_pos c14] at H
        have j15:=Aside0.mk c14
        clear c14
        obtain ⟨y228,jv_⟩:∃ y_:List (List Int),y_=(x7_1++[t225]):=⟨_,rfl⟩
        replace H:(abugidaref16_sets.l0 k2 a1 a2 y228 (wrap64 (x8_1+1)) s0_0 j1_)=some (r1,r2):=by first|(rw [jv_];with_reducible exact H)|(have H2_:=(Option.bind_some _ _).symm.trans H;rw [jv_];with_reducible exact H2_)|(have H2_:=(Option.bind_some _ _).symm.trans H;with_reducible exact H2_)|with_reducible exact H|(rw [jv_];exact H)|exact H
        have j27:=Aside0.mk jv_
        clear jv_
        have H':=Aside0.mk H
        clear H
        obtain ⟨Ao15,co15,eo15⟩:=Kd.R_slice HO_9.out
        subst eo15
        go_wp2_with (first|((with_reducible refine gate_callee (f:=36) rfl ?_);refine goesL_ (some 34) rfl rfl Try.func36 (by kernel_rfl) rfl #[.slice Ao15 x9_2.length co15] rfl za39 ?_;(with_reducible refine (abugidaref15_Norm.calls k2 _ _ x9_2 t225 _ ?side1 ?side2 A13.out).mono ?_);(case side1=>repeat (first|exact (Kd.R_reads' HO_9.out).2.2|(with_reducible refine Kd.C_alloc ?_ _)|(with_reducible refine Kd.C_drewN ?_ _)|(with_reducible refine Kd.C_drew ?_)));(case side2=>exact (Kd.R_reads' HO_9.out).2.1);rintro e w16 ⟨v226,rfl,ho0,hb⟩;refine ⟨_,rfl,?_⟩;have n0_:=Aside0.mk (Kd.S_elder' za55 (Kd.R_base ho0) hb);have n1_:=Aside0.mk (Kd.R_elder' za56 (Kd.R_base ho0) hb);have n2_:=Aside0.mk (Kd.R_lower (Kd.R_new' ho0 (Kd.R_lt za56)) (keep_size (w:=w) (g:=g) (row:=none) za38));have n3_:=Aside0.mk (IsS104.below za37 hb);have n4_:=Aside0.mk (KeepBut.trans za38 (KeepBut.of_below hb g none) (.inl rfl));have n5_:=Aside0.mk (below_step za30 hb);clear HO_7;clear HO_9;clear HI0;clear HK;clear HB;have HO_7:=n0_;have HO_9:=n1_;have j10:=n2_;have HI0:=n3_;have HK:=n4_;have HB:=n5_;clear n0_ n1_ n2_ n3_ n4_ n5_;(try clear hb);(try clear hb2);(try clear hk);(try clear hi);(try clear ho0);obtain ⟨Ao18,co18,eo18⟩:=Kd.R_slice j10.out;subst eo18)|((with_reducible refine gate_builtin (b:=.append) (xs:=#[.tmp 32,.tmp 35]) rfl ?_);at_builtin;refine Kd.S_append (Kd.slice 3 (Kd.int .i64)) w.heap.size rfl (.tmp 32) (.tmp 35) 25 26 (.slice none 0 0) 24 rfl Try.underlying25 info26 rfl (by decide) (by omega) u7 x7_1 t225 [.slice Ao18 t225.length co18] (fun k_=>some k_≠(.slice Ao15 x9_2.length co15:Value).ownBlock) (fun k_=>some k_=(.slice Ao18 t225.length co18:Value).ownBlock) rfl rfl ?aP (fun k_ hk_=>((Kd.R_mono (ok':=fun k_=>((fun k_=>some k_≠(.slice Ao15 x9_2.length co15:Value).ownBlock)) k_∧some k_≠(u7:Value).ownBlock) (Kd.R_apart' (j10.out) (Kd.S_typed HO_7.out) (by decide)) (fun k_ hk=>⟨hk.1.2,hk.2⟩))).1 k_ hk_.symm) ?aF ?aO (Below.refl _ _) ?aS ?aL ?_;(case aP=>exact Kd.M_row (Kd.R_mono (Kd.R_tight rfl (Kd.R_mono (ok':=fun k_=>((fun k_=>some k_≠(.slice Ao15 x9_2.length co15:Value).ownBlock)) k_∧some k_≠(u7:Value).ownBlock) (Kd.R_apart' (j10.out) (Kd.S_typed HO_7.out) (by decide)) (fun k_ hk=>⟨hk.1.2,hk.2⟩))) (fun _ h_=>h_)));(case aF=>exact (fun k_ hk=>Kd.fresh' (Kd.R_lt za56) k_ hk));(case aO=>exact (by (with_reducible repeat (first|apply Kd.S_alloc|apply Kd.S_drewN|apply Kd.S_drew));exact Kd.S_mono HO_7.out (fun k_ hk=>⟨hk.1,fun e_=>hk.2 e_⟩)));(case aS=>exact (keep_size (w:=w) (g:=g) (row:=none) za38));(case aL=>have:=j15.out;omega);intro v229 w17 ho hb hg hat;rw [← j27.out] at ho;have n0_:=Aside0.mk (Kd.R_over' za56 (Kd.S_typed za55) (by decide) hg);have n1_:=Aside0.mk (IsS104.grown za37 hg (IsS104.own_neS HI0.out HO_7.out (by decide)));have n2_:=Aside0.mk (below_weaken za30 HL.out hb);have n3_:=Aside0.mk (KeepBut.trans za38 (KeepBut.of_grown hg g) (Kd.S_base2 HO_7.out));have n4_:=Aside0.mk (ho);clear HO_9;clear HI0;clear HB;clear HK;clear HO_7;clear j10;have HO_9:=n0_;have HI0:=n1_;have HB:=n2_;have HK:=n3_;have j28:=n4_;clear n0_ n1_ n2_ n3_ n4_;clear ho hb hg hat))
        go_roundg k2
        case measure=>have:=HK1.out;have:=HK2.out;omega
        case rel=>exact ⟨(y228),(wrap64 (x8_1+1)),(j1_),za76,H',⟨by have:=HK1.out;have:=HK2.out;omega⟩,⟨by (with_reducible repeat (first|apply Kd.S_alloc|apply Kd.S_drewN|apply Kd.S_drew));exact Kd.S_mono j28.out (fun _ hk=>trivial)⟩,⟨by repeat (first|(with_reducible first|exact HI0.out|apply IsS104.alloc|apply IsS104.drewN|apply IsS104.drew|apply IsS104.set_1)|exact HI0.out)⟩,⟨by repeat (first|(with_reducible first|exact HK.out|apply KeepBut.set_|apply keep_drewN|apply keep_drew|apply keep_alloc)|exact HK.out)⟩,⟨by repeat (first|(with_reducible first|exact HB.out|apply below_alloc|apply pw_below_drewN|apply below_drew1|refine below_set ?_ (IsS104.ge HI0.out))|exact HB.out)⟩⟩
       ·
        rw [if_neg c14] at H
        exact absurd H (by simp)
   ·
    rw [if_neg c4] at H
    have c4b0:decide (x8_1<a1)=false:=decide_eq_false c4
    clear c4
    simp only [Option.some.injEq,Prod.mk.injEq] at H
    obtain ⟨rfl,rfl⟩:=H
    go_wp2
    go_ret
    exact ⟨_,by first|rfl|(simp [errW_none,errW_some]<;>rfl)|(simp [*,errW_none,errW_some]<;>rfl),by (with_reducible repeat (first|apply Kd.S_alloc|apply Kd.S_drewN|apply Kd.S_drew));exact HO_7.out,by repeat (first|(with_reducible first|exact HI0.out|apply IsS104.alloc|apply IsS104.drewN|apply IsS104.drew|apply IsS104.set_1)|exact HI0.out),by repeat (first|(with_reducible first|exact HB.out|apply below_alloc|apply pw_below_drewN|apply below_drew1|refine below_set ?_ (IsS104.ge HI0.out))|exact HB.out),by repeat (first|(with_reducible first|exact HK.out|apply KeepBut.set_|apply keep_drewN|apply keep_drew|apply keep_alloc)|exact HK.out)⟩
end Go.Proofs.Ytlgkeaildncojaa.Q
end
section
namespace Go.Proofs.Ytlgkeaildncojaa.Q
open Go.RowKit Go.Shelf Go.Proofs.YtlgkeaildncojaaW.PrintWords Go.Proofs.YtlgkeaildncojaaW.PrintLast Go.Proofs.YtlgkeaildncojaaW.PrintMore
set_option linter.unusedSimpArgs false
set_option linter.unusedVariables false
def nextF (s:List Int) (p n:Int):Int × Int:=if p ≥ (s.length:Int) then (0,p) else ((s.getD p.toNat 0) % n,p+1)
theorem mod_some (a n:Int) (h0:0<n) (h1:n≤1000000000):abugidaref01_Mod.f a n=some (a % n):=by
 unfold abugidaref01_Mod.f
 rw [if_neg (by omega)]
 have h2:=Int.mul_tdiv_add_tmod a n
 have h3:=Int.tmod_lt_of_pos a h0
 have h4:-n<Int.tmod a n:=by
  have:=Int.lt_tmod_of_pos a h0
  omega
 have hw:wrap64 (Int.tmod a n+n)=Int.tmod a n+n:=by
  unfold wrap64
  omega
 rw [hw,Int.tmod_eq_emod_of_nonneg (by omega)]
 have h5:Int.tmod a n+n=a+n*(1 - Int.tdiv a n):=by rw [Int.mul_sub];omega
 rw [h5,Int.add_mul_emod_self_left]
theorem next_some (s:List Int) (p n:Int) (hp:0≤p) (hl:p≤s.length) (hs:s.length≤9223372036854775807) (h0:0<n) (h1:n≤1000000000):abugidaref01_Draw_Next.f s p n=some ((nextF s p n).1,(nextF s p n).2):=by
 unfold abugidaref01_Draw_Next.f nextF
 by_cases h:p ≥ (s.length:Int)
 ·
  rw [if_pos h,if_pos h]
 ·
  have w1:wrap64 (p+1)=p+1:=by unfold wrap64;omega
  have w2:wrap64 (p+1 - 1)=p:=by unfold wrap64;omega
  rw [if_neg h,if_neg h,w1,w2,if_pos hp,if_pos (by omega),mod_some _ _ h0 h1]
  rfl
theorem nextF_p (s:List Int) (p n:Int) (hp:0≤p) (hl:p≤s.length):0≤(nextF s p n).2∧(nextF s p n).2≤s.length:=by
 unfold nextF
 split<;>dsimp only<;>omega
theorem nextF_v (s:List Int) (p n:Int) (h0:0<n):0≤(nextF s p n).1∧(nextF s p n).1<n:=by
 unfold nextF
 split
 ·
  exact ⟨Int.le_refl _,h0⟩
 ·
  exact ⟨Int.emod_nonneg _ (by omega),Int.emod_lt_of_pos _ h0⟩
def Res.drw (w0:World) (g:Nat) (s:List Int) (p:Int):Res:=⟨fun W ok=>ok g∧IsS104 w0 W g s p,fun {W W' ok ok'} h hm=>by
 obtain ⟨h0,A0,c0,h1,h2,h3⟩:=h
 obtain ⟨h4,h5⟩:=hm g h0 (blk_lt h1) (solid_cells h1)
 exact ⟨h5,A0,c0,h4.trans h1,h2,h3⟩⟩
theorem Own.next {w W W':World} {L:List Res} {K:Nat→Obj→Prop} {g:Nat} {s:List Int} {p p':Int} (h:Own w W L K) (i:Nat) (hi:L[i]?=some (.drw w g s p)) (hI:IsS104 w W' g s p') (hB:Below w.heap.size w W') (hK:KeepBut W W' g none):Own w W' (L.set i (.drw w g s p')) K :=
 h.turn i hi (hB.os.trans h.below.os.symm) (hB.tape.trans h.below.tape.symm) (hB.output.trans h.below.output.symm) hK.1 (fun ok hf hp=>⟨⟨hp.1,hI⟩,fun k hk hn=>hK.2 k hk (fun e=>hn (by
  subst e
  obtain ⟨h0,_,_,h1,_⟩:=hp
  exact ⟨h0,solid_cells h1⟩)) (by simp)⟩)
theorem Own.drw_at {w W:World} {L:List Res} {K:Nat→Obj→Prop} {g:Nat} {s:List Int} {p:Int} (h:Own w W L K) (i:Nat) (hi:L[i]?=some (.drw w g s p)):IsS104 w W g s p:=by
 obtain ⟨_,_,F,h2⟩:=h
 exact (h2 i _ hi).2
theorem Own.nextAdd {w W W':World} {L:List Res} {K:Nat→Obj→Prop} {g:Nat} {s:List Int} {p p':Int} {r:Res} (h:Own w W L K) (i:Nat) (hi:L[i]?=some (.drw w g s p)) (hI:IsS104 w W' g s p') (hB:Below w.heap.size w W') (hK:KeepBut W W' g none) (hr:r.P W' (fun k=>W.heap.size≤k)):Own w W' (L.set i (.drw w g s p')++[r]) K:=by
 obtain ⟨h1,hk0,F,h2⟩:=h
 have hle:=h1.size
 have hg:=h2 i _ hi
 have hgl:g<W.heap.size:=hg.2.lt
 have hil:i<L.length:=(List.getElem?_eq_some_iff.mp hi).1
 refine ⟨hB,fun k o hk=>?_,fun k=>if k<W.heap.size then (if F k<L.length then F k else F k+1) else L.length,fun j q hj=>?_⟩
 ·
  obtain ⟨e1,e2⟩:=hk0 k o hk
  refine ⟨(hK.2 k (blk_lt e1) (fun e=>?_) (by simp)).trans e1,e2⟩
  subst e
  obtain ⟨_,A0,c0,hb,_⟩:=hg
  exact not_solid e1 e2 (solid_cells hb)
 ·
  by_cases hjl:j<L.length
  ·
   rw [List.getElem?_append_left (by rw [List.length_set];exact hjl),List.getElem?_set] at hj
   by_cases e:i=j
   ·
    subst e
    rw [if_pos rfl,if_pos hil] at hj
    injection hj with hj
    subst hj
    refine ⟨⟨hg.1.1,?_⟩,hI⟩
    dsimp only
    rw [if_pos hgl,hg.1.2,if_pos hil]
   ·
    rw [if_neg e] at hj
    refine q.move (h2 j q hj) (fun k hk hl _=>⟨hK.2 k hl (fun e2=>?_) (by simp),hk.1,?_⟩)
    ·
     subst e2
     exact e (hg.1.2.symm.trans hk.2)
    ·
     dsimp only
     rw [if_pos hl,hk.2,if_pos hjl]
  ·
   have hii:j=L.length:=by
    have:=(List.getElem?_eq_some_iff.mp hj).1
    rw [List.length_append,List.length_singleton,List.length_set] at this
    omega
   subst hii
   rw [List.getElem?_append_right (by rw [List.length_set];exact Nat.le_refl _),List.length_set,Nat.sub_self] at hj
   injection hj with hj
   subst hj
   exact r.move hr (fun k hk hl _=>⟨rfl,by omega,if_neg (by omega)⟩)
theorem next_calls {w W:World} {L:List Res} {K:Nat→Obj→Prop} {g:Nat} {s:List Int} {p v p':Int} (n:Int) (HO:Own w W L K) (i:Nat) (hi:L[i]?=some (.drw w g s p)) (hp:0≤p∧p≤s.length) (hs:s.length≤9223372036854775807) (h0:0<n) (h1:n≤1000000000) (hn:nextF s p n=(v,p')) :
  Calls Try.prog 60 #[.pointer (some ⟨g,0,none⟩),.int .i64 n] W fun e W'=>e=.returned (.int .i64 v)∧Own w W' (L.set i (.drw w g s p')) K :=
 (abugidaref01_Draw_Next.calls g s p n v p' w W (HO.drw_at i hi) HO.below (by rw [next_some s p n hp.1 hp.2 hs h0 h1,hn])).mono fun e W' ⟨he,h2,h3,h4⟩=>⟨he,HO.next i hi h2 h3 h4⟩
theorem nextF_all (s:List Int) (p n:Int) (hp:0≤p∧p≤s.length) (h0:0<n):∃ v p',nextF s p n=(v,p')∧(0≤v∧v<n)∧0≤p'∧p'≤s.length:=⟨_,_,rfl,nextF_v s p n h0,nextF_p s p n hp.1 hp.2⟩
theorem mw64n (n:Nat) (h:n<1000000):wrap64 ((n:Int)+1)=((n+1:Nat):Int):=by
 unfold wrap64
 omega
theorem mdrop_at {L:List Int} {i:Nat} (h:i<L.length):L.drop i=rd L (i:Int) :: L.drop (i+1):=by
 rw [List.drop_eq_getElem_cons h]
 congr 1
 unfold rd
 rw [Int.toNat_natCast,List.getD_eq_getElem?_getD,List.getElem?_eq_getElem h]
 rfl
theorem len_hwith (n:Int):∀ l:List Int,(hwith l n).length≤l.length+1
 | []=>by simp [hwith]
 | x :: t=>by
  have:=len_hwith n t
  unfold hwith
  split
  ·
   simp only [List.length_cons];omega
  ·
   split<;>simp only [List.length_cons]<;>omega
theorem len_hfold:∀ (l acc:List Int),(l.foldl hwith acc).length≤acc.length+l.length
 | [],acc=>by simp
 | x :: t,acc=>by
  have h1:=len_hfold t (hwith acc x)
  have h2:=len_hwith x acc
  rw [List.foldl_cons,List.length_cons]
  omega
theorem len_hset (l:List Int):(hset l).length≤l.length:=by
 have:=len_hfold l []
 simpa [hset] using this
theorem ev_with_l0 (L:List Int) (n:Int) (hL:L.length≤10000) (d:Nat):∀ i:Nat,i+d=L.length→Ev (fun k=>abugidaref15_With.l0 k L n i) (L.take i++hwith (L.drop i) n):=by
 induction d with
 | zero =>
  intro i hi
  have hlt:(L.take i).length≤10000:=by rw [List.length_take];omega
  have hld:(L.drop i).length≤10000:=by rw [List.length_drop];omega
  refine Ev.step (fun k=>by simp only [abugidaref15_With.l0,if_neg (show ¬ (i:Int)<(L.length:Int) by omega),Option.bind_some,if_pos (show (0:Int)≤i by omega),if_pos (show (i:Int)≤(L.length:Int) by omega),Int.toNat_natCast];rfl) ?_
  rw [if_pos (by simp only [List.length_cons,List.length_nil];omega),if_pos (by simp only [List.length_nil];omega),if_pos (by simp only [List.length_append,List.length_cons,List.length_nil];omega)]
  rw [show ([]++L.take i++([n]++L.drop i))=L.take i++hwith (L.drop i) n by rw [List.drop_eq_nil_of_le (show L.length≤i by omega)];simp [hwith]]
  exact Ev.now _
 | succ d ih =>
  intro i hi
  have hd:=mdrop_at (show i<L.length by omega)
  have hlt:(L.take i).length≤10000:=by rw [List.length_take];omega
  have hld:(L.drop i).length≤10000:=by rw [List.length_drop];omega
  by_cases hc:rd L (i:Int)<n
  ·
   have ht:L.take i++hwith (L.drop i) n=L.take (i+1)++hwith (L.drop (i+1)) n:=by
    rw [hd]
    unfold hwith
    rw [if_pos hc]
    conv=>rhs;rw [List.take_add_one,List.getElem?_eq_getElem (show i<L.length by omega),Option.toList_some,List.append_assoc,List.singleton_append,show L[i]=rd L (i:Int) by have:=mdrop_at (show i<L.length by omega);rw [List.drop_eq_getElem_cons (show i<L.length by omega)] at this;exact (List.cons.inj this).1]
    cases L.drop (i+1)<;>rfl
   rw [ht]
   refine Ev.step (fun k=>by simp only [abugidaref15_With.l0,if_pos (show (i:Int)<(L.length:Int) by omega),if_pos (show (0:Int)≤i by omega),if_pos hc,mw64n i (by omega)];rfl) ?_
   exact ih (i+1) (by omega)
  ·
   by_cases he:rd L (i:Int)=n
   ·
    refine Ev.step (fun k=>by simp only [abugidaref15_With.l0,if_pos (show (i:Int)<(L.length:Int) by omega),if_pos (show (0:Int)≤i by omega),if_neg hc,if_pos he];rfl) ?_
    rw [show L.take i++hwith (L.drop i) n=L by rw [hd];unfold hwith;rw [if_neg hc,if_pos he,← hd,List.take_append_drop]]
    exact Ev.now _
   ·
    refine Ev.step (fun k=>by simp only [abugidaref15_With.l0,if_pos (show (i:Int)<(L.length:Int) by omega),if_pos (show (0:Int)≤i by omega),if_neg hc,if_neg he,Option.bind_some,if_pos (show (i:Int)≤(L.length:Int) by omega),Int.toNat_natCast];rfl) ?_
    rw [if_pos (by simp only [List.length_cons,List.length_nil];omega),if_pos (by simp only [List.length_nil];omega),if_pos (by simp only [List.length_append,List.length_cons,List.length_nil];omega)]
    rw [show ([]++L.take i++([n]++L.drop i))=L.take i++hwith (L.drop i) n by rw [hd];unfold hwith;rw [if_neg hc,if_neg he];simp]
    exact Ev.now _
theorem ev_with (L:List Int) (n:Int) (hL:L.length≤10000):Ev (fun k=>abugidaref15_With.f k L n) (hwith L n):=by
 have:=ev_with_l0 L n hL L.length 0 (Nat.zero_add _)
 simp only [List.take_zero,List.drop_zero,List.nil_append] at this
 exact this
theorem ev_rnorm_l0 (L:List Int) (hL:L.length≤1000) (d:Nat):∀ (i:Nat) (out:List Int),i+d=L.length→out.length≤i→Ev (fun k=>abugidaref15_Norm.l0 k L out i) ((L.drop i).foldl hwith out):=by
 induction d with
 | zero =>
  intro i out hi ho
  refine Ev.step (fun k=>by simp only [abugidaref15_Norm.l0,if_neg (show ¬ (i:Int)<(L.length:Int) by omega)];rfl) ?_
  rw [List.drop_eq_nil_of_le (by omega)]
  exact Ev.now _
 | succ d ih =>
  intro i out hi ho
  rw [mdrop_at (show i<L.length by omega),List.foldl_cons]
  have hh:=len_hwith (rd L (i:Int)) out
  refine Ev.step (fun k=>by simp only [abugidaref15_Norm.l0,if_pos (show (i:Int)<(L.length:Int) by omega),if_pos (show (0:Int)≤i by omega),mw64n i (by omega)];rfl) ?_
  exact Ev.bind (ev_with out _ (by omega)) (ih (i+1) _ (by omega) (by omega))
theorem ev_rnorm (L:List Int) (hL:L.length≤1000):Ev (fun k=>abugidaref15_Norm.f k L) (hset L):=ev_rnorm_l0 L hL L.length 0 [] (Nat.zero_add _) (Nat.le_refl _)
def drawN (s:List Int) (m p:Int):Nat→List Int × Int
 | 0=>([],p)
 | j+1=>((drawN s m p j).1++[(nextF s (drawN s m p j).2 m).1],(nextF s (drawN s m p j).2 m).2)
def set1 (s:List Int) (p:Int):List Int × Int :=
 let a:=nextF s p 3
 let x:=drawN s 8 a.2 (1+a.1).toNat
 (hset x.1,x.2)
def setsN (s:List Int) (p:Int):Nat→List (List Int) × Int
 | 0=>([],p)
 | j+1=>((setsN s p j).1++[(set1 s (setsN s p j).2).1],(set1 s (setsN s p j).2).2)
theorem drawN_p (s:List Int) (m p:Int) (hp:0≤p∧p≤s.length):∀ j,0≤(drawN s m p j).2∧(drawN s m p j).2≤s.length
 | 0=>hp
 | j+1=>nextF_p s _ m (drawN_p s m p hp j).1 (drawN_p s m p hp j).2
theorem drawN_length (s:List Int) (m p:Int):∀ j,(drawN s m p j).1.length=j
 | 0=>rfl
 | j+1=>by simp [drawN,drawN_length s m p j]
theorem set1_p (s:List Int) (p:Int) (hp:0≤p∧p≤s.length):0≤(set1 s p).2∧(set1 s p).2≤s.length:=drawN_p s 8 _ (nextF_p s p 3 hp.1 hp.2) _
theorem setsN_p (s:List Int) (p:Int) (hp:0≤p∧p≤s.length):∀ j,0≤(setsN s p j).2∧(setsN s p j).2≤s.length
 | 0=>hp
 | j+1=>set1_p s _ (setsN_p s p hp j)
theorem setsN_length (s:List Int) (p:Int):∀ j,(setsN s p j).1.length=j
 | 0=>rfl
 | j+1=>by simp [setsN,setsN_length s p j]
theorem mn98:mn 9 8=8:=by decide
theorem ev_sets_l1 (s:List Int) (hs:s.length≤9223372036854775807) (many:Int) (x7:List (List Int)) (x8 p:Int) (hp:0≤p∧p≤s.length) (n:Nat) (hn:n≤1000) (hx7:x7.length≤1000) {r:List (List Int) × Int}
  (hk:Ev (fun k=>abugidaref16_sets.l0 k many 9 (x7++[hset (drawN s 8 p n).1]) (wrap64 (x8+1)) s (drawN s 8 p n).2) r) (d:Nat):∀ j:Nat,j+d=n→Ev (fun k=>abugidaref16_sets.l1 k many 9 x7 x8 (drawN s 8 p j).1 (n:Int) (j:Int) s (drawN s 8 p j).2) r:=by
 induction d with
 | zero =>
  intro j hj
  have e:j=n:=by omega
  subst e
  have hl:=drawN_length s 8 p j
  refine Ev.step (fun k=>by simp only [abugidaref16_sets.l1,if_neg (show ¬ (j:Int)<(j:Int) by omega)];rfl) ?_
  refine Ev.bind (ev_rnorm _ (by omega)) ?_
  simp only [if_pos (show x7.length<5864062014805 by omega)]
  exact hk
 | succ d ih =>
  intro j hj
  have hl:=drawN_length s 8 p j
  have hq:=drawN_p s 8 p hp j
  have ih2:=ih (j+1) (by omega)
  rw [drawN] at ih2
  refine Ev.step (fun k=>by simp only [abugidaref16_sets.l1,if_pos (show (j:Int)<(n:Int) by omega),mn98,next_some s _ 8 hq.1 hq.2 hs (by decide) (by decide),Option.bind_some,mw64n j (by omega),if_pos (show (drawN s 8 p j).1.length<17592186044416 by omega)];rfl) ?_
  exact ih2
theorem ev_sets_l0 (s:List Int) (hs:s.length≤9223372036854775807) (p:Int) (hp:0≤p∧p≤s.length) (n:Nat) (hn:n≤1000) (d:Nat):∀ j:Nat,j+d=n→Ev (fun k=>abugidaref16_sets.l0 k (n:Int) 9 (setsN s p j).1 (j:Int) s (setsN s p j).2) (setsN s p n):=by
 induction d with
 | zero =>
  intro j hj
  have e:j=n:=by omega
  subst e
  refine Ev.step (fun k=>by simp only [abugidaref16_sets.l0,if_neg (show ¬ (j:Int)<(j:Int) by omega)];rfl) ?_
  exact Ev.now _
 | succ d ih =>
  intro j hj
  have hl:=setsN_length s p j
  have hq:=setsN_p s p hp j
  have ih2:=ih (j+1) (by omega)
  have hv:=nextF_v s (setsN s p j).2 3 (by decide)
  have hw:wrap64 (1+(nextF s (setsN s p j).2 3).1)=(((1+(nextF s (setsN s p j).2 3).1).toNat:Nat):Int):=by
   unfold wrap64
   omega
  refine Ev.step (fun k=>by simp only [abugidaref16_sets.l0,if_pos (show (j:Int)<(n:Int) by omega),next_some s _ 3 hq.1 hq.2 hs (by decide) (by decide),Option.bind_some,hw];rfl) ?_
  refine ev_sets_l1 s hs _ _ _ _ (nextF_p s _ 3 hq.1 hq.2) _ (by omega) (by omega) ?_ _ 0 (Nat.zero_add _)
  rw [mw64n j (by omega)]
  exact ih2
theorem ev_sets (s:List Int) (hs:s.length≤9223372036854775807) (p:Int) (hp:0≤p∧p≤s.length) (n:Nat) (hn:n≤1000):Ev (fun k=>abugidaref16_sets.f k s p (n:Int) 9) (setsN s p n):=ev_sets_l0 s hs p hp n hn n 0 (Nat.zero_add _)
theorem sets_calls {w W:World} {L:List Res} {K:Nat→Obj→Prop} {g:Nat} {s:List Int} {p p':Int} {x:List (List Int)} (n:Nat) (HO:Own w W L K) (i:Nat) (hi:L[i]?=some (.drw w g s p)) (hp:0≤p∧p≤s.length) (hs:s.length≤9223372036854775807) (h1:n≤1000) (hn:setsN s p n=(x,p')) :
  Calls Try.prog 61 #[.pointer (some ⟨g,0,none⟩),.int .i64 n,.int .i64 9] W fun e W'=>∃ v,e=.returned v∧Own w W' (L.set i (.drw w g s p')++[.row (Kd.slice 3 (Kd.int .i64)) 26 w.heap.size v x]) K:=by
 obtain ⟨k,hk⟩:=(ev_sets s hs p hp n h1)
 refine (abugidaref16_sets.calls k g s p n 9 x p' w W (HO.drw_at i hi) HO.below ((hk k (Nat.le_refl _)).trans (by rw [hn]))).mono fun e W' ⟨v,he,hS,h2,h3,h4⟩=>⟨v,he,HO.nextAdd i hi h2 h3 h4 ?_⟩
 have hR:=Kd.S_R hS
 exact Kd.R_lower (Kd.R_mono (Kd.R_bound hR) (fun k hk=>hk.2.1)) HO.le
end Go.Proofs.Ytlgkeaildncojaa.Q
end
section
namespace Go.Proofs.Ytlgkeaildncojaa.Q
open Go.RowKit Go.Shelf Go.Proofs.YtlgkeaildncojaaW.PrintWords Go.Proofs.YtlgkeaildncojaaW.PrintLast Go.Proofs.YtlgkeaildncojaaW.PrintMore
set_option linter.unusedSimpArgs false
set_option linter.unusedVariables false
def someF (s:List Int) (p:Int):List (List Int) × Int :=
 if (nextF s p 3).1=0 then setsN s (nextF s (nextF s p 3).2 2).2 (1+(nextF s (nextF s p 3).2 2).1).toNat else ([],(nextF s p 3).2)
def callsN (s:List Int) (k m:Int) (p:Int):Nat→List S60 × Int
 | 0=>([],p)
 | j+1=>((callsN s k m p j).1++[⟨(nextF s (callsN s k m p j).2 m).1,k+1+(nextF s (nextF s (callsN s k m p j).2 m).2 (2 - k)).1⟩],(nextF s (nextF s (callsN s k m p j).2 m).2 (2 - k)).2)
def manyF (s:List Int) (p:Int):Nat × Int:=((1+(nextF s p 5).1*(nextF s (nextF s p 5).2 2).1 % 3).toNat,(nextF s (nextF s p 5).2 2).2)
def actF (s:List Int) (k m:Int) (p:Int):List Int × List S60 × Int :=
 let n:=nextF s p 4
 if k<2 then
  let q:=nextF s n.2 2
  if q.1=0 then ([],callsN s k m q.2 (n.1 % 2+1).toNat) else let o:=drawN s 8 q.2 n.1.toNat;(o.1,[],o.2)
 else let o:=drawN s 8 n.2 n.1.toNat;(o.1,[],o.2)
def rule1 (s:List Int) (k:Int) (p:Int):S49 × Int :=
 let a:=manyF s p
 let i:=setsN s a.2 a.1
 let b:=someF s i.2
 let h:=someF s b.2
 let x:=actF s k i.1.length h.2
 (⟨b.1,i.1,h.1,x.1,x.2.1⟩,x.2.2)
def rulesN (s:List Int) (k:Int) (p:Int):Nat→List S49 × Int
 | 0=>([],p)
 | j+1=>((rulesN s k p j).1++[(rule1 s k (rulesN s k p j).2).1],(rule1 s k (rulesN s k p j).2).2)
def madeF (s:List Int) (k:Int):S24:=⟨(rulesN s k (nextF s 0 4).2 (nextF s 0 4).1.toNat).1⟩
def InS (s:List Int) (p:Int):Prop:=0≤p∧p≤s.length
theorem someF_p (s:List Int) (p:Int) (hp:InS s p):InS s (someF s p).2:=by
 unfold someF
 have h1:=nextF_p s p 3 hp.1 hp.2
 split
 ·
  exact setsN_p s _ (nextF_p s _ 2 h1.1 h1.2) _
 ·
  exact h1
theorem manyF_p (s:List Int) (p:Int) (hp:InS s p):InS s (manyF s p).2∧1≤(manyF s p).1∧(manyF s p).1≤3:=by
 unfold manyF
 have h1:=nextF_p s p 5 hp.1 hp.2
 have h2:=nextF_p s _ 2 h1.1 h1.2
 refine ⟨h2,?_,?_⟩<;>dsimp only<;>omega
theorem callsN_p (s:List Int) (k m:Int) (p:Int) (hp:InS s p):∀ j,InS s (callsN s k m p j).2
 | 0=>hp
 | j+1=>by
  have h1:=nextF_p s _ m (callsN_p s k m p hp j).1 (callsN_p s k m p hp j).2
  exact nextF_p s _ (2 - k) h1.1 h1.2
theorem callsN_length (s:List Int) (k m:Int) (p:Int):∀ j,(callsN s k m p j).1.length=j
 | 0=>rfl
 | j+1=>by simp [callsN,callsN_length s k m p j]
theorem actF_p (s:List Int) (k m p:Int) (hp:InS s p):InS s (actF s k m p).2.2:=by
 have h1:=nextF_p s p 4 hp.1 hp.2
 have h2:=nextF_p s _ 2 h1.1 h1.2
 unfold actF
 dsimp only
 split
 ·
  split
  ·
   exact callsN_p s k m _ h2 _
  ·
   exact drawN_p s 8 _ h2 _
 ·
  exact drawN_p s 8 _ h1 _
theorem rule1_p (s:List Int) (k p:Int) (hp:InS s p):InS s (rule1 s k p).2:=actF_p s k _ _ (someF_p s _ (someF_p s _ (setsN_p s _ (manyF_p s p hp).1 _)))
theorem rulesN_p (s:List Int) (k p:Int) (hp:InS s p):∀ j,InS s (rulesN s k p j).2
 | 0=>hp
 | j+1=>rule1_p s k _ (rulesN_p s k p hp j)
theorem rulesN_length (s:List Int) (k p:Int):∀ j,(rulesN s k p j).1.length=j
 | 0=>rfl
 | j+1=>by simp [rulesN,rulesN_length s k p j]
theorem ev_append_step {P:Program} {ops:Array Oper} {o:Oper} {a:Act} {Q:Exit→Act→World→Prop} {w W:World} {L:List Res} {K:Nat→Obj→Prop} {Kc:Act→World→Prop} {α:Type} {d:Kd α} {e:Nat} {v:Value} {xs:List α} (i:Nat) (HO:Own w W L K) (hi:L[i]?=some (.row d e w.heap.size v xs)) (hw:Region.wanted o (yielded ops a.tmps)=true) (s x:Operand) (t:TypeId) (z:Value) (bytes:Nat)
  (ho:o.op=.call { callee:=.builtin .append,args:=#[s,x],argTypes:=#[t,t] })
  (ht:P.underlying t=some (.slice e)) (hinfo:(P.info? e).map (fun i=>(i.zero,i.size,i.bytes))=some (some z,d.sz,bytes)) (hz:z.cells.size=d.sz) (hs0:0<d.sz) (hb0:0<bytes)
  (p:α) (cs:List Value) (hs:a.eval s=v) (hx:a.eval x=.slice (some ⟨W.heap.size,0,none⟩) 1 1) (hM:d.M W w.heap.size (fun _=>False) p cs) (hl:(xs.length+1)*bytes≤140737488355328)
  (h:∀ A c W',Own w W' (L.set i (.row d e w.heap.size (.slice A (xs.length+1) c) (xs++[p]))) K→Kc (a.put o.dst (.slice A (xs.length+1) c)) W'):if Region.wanted o (yielded ops a.tmps)=true then Oper.wp P o a (W.alloc (.cells cs.toArray e)) Kc Q else Kc (a.put o.dst undef) (W.alloc (.cells cs.toArray e)):=by
 obtain ⟨h1,hk0,F,h2⟩:=HO
 have hle:=h1.size
 have hR:d.R e W w.heap.size (fun k=>w.heap.size≤k∧(k<W.heap.size→F k=i)) v xs:=Kd.R_mono (Kd.R_bound (h2 i _ hi)) (fun k hk=>⟨hk.1.1,fun _=>hk.1.2⟩)
 refine Kd.R_append_step d (w0:=w) w.heap.size hw s x t e z bytes ho ht hinfo hz hs0 hb0 v xs p cs _ (fun _=>False) hs hx hM (fun _ hk=>hk.elim) (fun k hk=>⟨by omega,fun hl=>by omega⟩) hR h1 hle hl ?_
 intro v1 w1 hR1 hb1 hg1 hat
 obtain ⟨A,c,rfl⟩:=Kd.R_slice hR1
 rw [List.length_append,List.length_singleton] at hR1 ⊢
 have hSol:∀ k,some k=v.ownBlock→Solid W k:=fun k he=>by obtain ⟨_,inner,ho2,_⟩:=hR;obtain ⟨cs2,hc2⟩:=own_typed ho2 k he.symm;exact solid_cells hc2
 refine h A c w1 ⟨hb1,fun k o hk=>⟨(hg1.block k (blk_lt (hk0 k o hk).1) (fun he=>not_solid (hk0 k o hk).1 (hk0 k o hk).2 (hSol k he))).trans (hk0 k o hk).1,(hk0 k o hk).2⟩,fun k=>if k<W.heap.size then F k else i,fun j q hj=>?_⟩
 have hil:i<L.length:=(List.getElem?_eq_some_iff.mp hi).1
 rw [List.getElem?_set] at hj
 by_cases e1:i=j
 ·
  subst e1
  rw [if_pos rfl,if_pos hil] at hj
  injection hj with hj
  subst hj
  refine Kd.R_mono hR1 (fun k hk=>⟨hk.1,?_⟩)
  dsimp only
  split
  ·
   rename_i hlt;exact hk.2 hlt
  ·
   rfl
 ·
  rw [if_neg e1] at hj
  refine q.move (h2 j q hj) (fun k hk hl _=>⟨hg1.block k hl (fun he=>e1 ?_),hk.1,by dsimp only;rw [if_pos hl];exact hk.2⟩)
  exact ((h2 i _ hi).1 k he.symm).2.symm.trans hk.2
theorem Own.rule {w W:World} {K:Nat→Obj→Prop} {a0 a1 a2 a3:Res} {L:List Res} (h:Own w W L K) (i0 i1 i2 i3 i4:Nat) {v0 v1 v2 v3 v4:Value} {x0 x1 x2:List (List Int)} {x3:List Int} {x4:List S60}
  (h0:L[0]?=some a0) (h1:L[1]?=some a1) (h2:L[2]?=some a2) (h3:L[3]?=some a3)
  (j0:L[i0]?=some (.row (Kd.slice 3 (Kd.int .i64)) 26 w.heap.size v0 x0)) (j1:L[i1]?=some (.row (Kd.slice 3 (Kd.int .i64)) 26 w.heap.size v1 x1)) (j2:L[i2]?=some (.row (Kd.slice 3 (Kd.int .i64)) 26 w.heap.size v2 x2)) (j3:L[i3]?=some (.row (Kd.int .i64) 3 w.heap.size v3 x3)) (j4:L[i4]?=some (.row k60 60 w.heap.size v4 x4))
  (hn:[0,1,2,3,i0,i1,i2,i3,i4].Nodup):Own w W [a0,a1,a2,a3,.val k49 w.heap.size (⟨x0,x1,x2,x3,x4⟩:S49) [v0,v1,v2,v3,v4]] K:=by
 have hp:=h.pick [0,1,2,3,i0,i1,i2,i3,i4] (L':=[a0,a1,a2,a3]++[.row (Kd.slice 3 (Kd.int .i64)) 26 w.heap.size v0 x0,.row (Kd.slice 3 (Kd.int .i64)) 26 w.heap.size v1 x1,.row (Kd.slice 3 (Kd.int .i64)) 26 w.heap.size v2 x2,.row (Kd.int .i64) 3 w.heap.size v3 x3,.row k60 60 w.heap.size v4 x4]) (fun q r hq=>by
  match q,hq with
  | 0,hq=>exact ⟨0,rfl,by rw [h0];exact hq⟩
  | 1,hq=>exact ⟨1,rfl,by rw [h1];exact hq⟩
  | 2,hq=>exact ⟨2,rfl,by rw [h2];exact hq⟩
  | 3,hq=>exact ⟨3,rfl,by rw [h3];exact hq⟩
  | 4,hq=>exact ⟨i0,rfl,by rw [j0];exact hq⟩
  | 5,hq=>exact ⟨i1,rfl,by rw [j1];exact hq⟩
  | 6,hq=>exact ⟨i2,rfl,by rw [j2];exact hq⟩
  | 7,hq=>exact ⟨i3,rfl,by rw [j3];exact hq⟩
  | 8,hq=>exact ⟨i4,rfl,by rw [j4];exact hq⟩
  | (n+9),hq=>simp at hq) hn
 exact (Own.bag _ _ hp).say 4 rfl (fun ok h_=>by
  obtain ⟨F,hF⟩:=h_
  have m:=fun (k:Nat) (hk:ok k∧F k=0)=>hk.1
  exact k49_mkM W w.heap.size ok (⟨x0,x1,x2,x3,x4⟩:S49) (Kd.R_mono (hF 0 _ rfl) (fun _ hk=>hk.1)) (Kd.R_mono (hF 1 _ rfl) (fun _ hk=>hk.1)) (Kd.R_mono (hF 2 _ rfl) (fun _ hk=>hk.1)) (Kd.R_mono (hF 3 _ rfl) (fun _ hk=>hk.1)) (Kd.R_mono (hF 4 _ rfl) (fun _ hk=>hk.1)))
abbrev kLL:Kd (List Int):=Kd.slice 3 (Kd.int .i64)
set_option maxRecDepth 100000 in
set_option maxHeartbeats 4000000 in
theorem made_calls (A:Option Addr) (c:Nat) (s:List Int) (kk:Nat) (w:World) (hr:Kd.C (Kd.int .i64) w A s.length s) (hc:s.length≤c) (hsl:s.length≤9223372036854775807) (hkk:kk≤2) :
  Calls Try.prog 43 #[.slice A s.length c,.int .i64 kk,.int .i64 3,.int .i64 9] w fun e w'=>∃ v,e=.returned (.agg #[v])∧Kd.R k49 49 w' w.heap.size (fun _=>True) v (madeF s kk).f0∧Below w.heap.size w w':=by
 have HR:=Aside0.mk hr
 have HSL:=Aside0.mk hsl
 have HKK:=Aside0.mk hkk
 have HO:=Own.start w
 have HP0:=Aside0.mk (show (0:Int)≤0∧(0:Int)≤s.length from ⟨Int.le_refl _,by omega⟩)
 obtain ⟨m,p0,hn0,⟨ml,mh⟩,hp0⟩:=nextF_all s 0 4 ⟨Int.le_refl _,by omega⟩ (by decide)
 have HN0:=Aside0.mk hn0
 have HPP:=Aside0.mk hp0
 obtain ⟨mm,rfl⟩:=Int.eq_ofNat_of_zero_le ml
 have HMM:=Aside0.mk (show mm<4 by omega)
 clear hr hsl hkk hn0 hp0 ml mh
 go_enter Try.func43,Try.ntmps43
 go_wp2_with (first
  | ((with_reducible refine gate_dst (N:=8) rfl ?_);refine ev_box (N:=8) (cs:=#[.slice none 0 0]) (t:=24) HO rfl rfl zhr ?_;intro g8 W1 HO1 hb1;clear HO hb1)
  | ((with_reducible refine gate_dst (N:=19) rfl ?_);refine ev_box (N:=19) (cs:=#[.slice A s.length c,.int .i64 0]) (t:=104) HO1 rfl rfl zhr ?_;intro g9 W2 HO2 hb2;have hge:=(HO2.box_at 1 rfl).2;have HO3:=HO2.say 1 (r':=.drw w g9 s 0) rfl (fun ok h_=>⟨h_.1,A,c,h_.2,hge,HR.out⟩);clear HO1 HO2 hb2 hge)
  | ((with_reducible refine gate_dst (N:=10) rfl ?_);refine ev_box (N:=10) (cs:=#[.slice none 0 0]) (t:=24) HO3 rfl rfl zhr ?_;intro g10 W4 HO4 hb4;clear HO3 hb4)
  | (go_at_call 60;(refine (next_calls 4 HO4 1 rfl HP0.out HSL.out (by decide) (by decide) HN0.out).mono ?_;rintro e_ W_ ⟨rfl,HO5⟩;clear HO4)))
 have HO:=HO5.newrow k49 49
 clear HO5
 go_loopw [12] (fun v12 w'=>∃ (k:Nat) (out:List S49) (p:Int) (A10:Option Addr) (c10:Nat),v12=.int .i64 k∧Aside0 (k≤mm)∧Aside0 (rulesN s kk p0 k=(out,p))∧Aside0 (Own w w' [.box g8 24 #[.slice none 0 0],.drw w g9 s p,.box g10 24 #[.slice A10 k c10],.row k49 49 w.heap.size (.slice A10 k c10) out])) (fun v12 _=>mm - (intOf v12).toNat)
 case atStart=>exact ⟨0,[],p0,none,0,rfl,⟨Nat.zero_le _⟩,⟨rfl⟩,⟨HO⟩⟩
 case round =>
  clear HO
  obtain ⟨k,out,p,A10,c10,rfl,HK,HRN,HOO⟩:=hrel
  have HO:=HOO.out
  clear HOO
  have hp:=rulesN_p s kk p0 HPP.out k
  have hol:=rulesN_length s kk p0 k
  rw [HRN.out] at hp hol
  have HOL:=Aside0.mk (show out.length=k from hol)
  have HP:=Aside0.mk hp
  clear hp hol
  by_cases hlt:k<mm
  case neg =>
   have hkm:k=mm:=by have:=HK.out;omega
   have q1:¬ ((k:Int)<(mm:Int)):=by omega
   have x1:=HO.box_cell 2 rfl 0 rfl
   have HF:=Aside0.mk (show madeF s kk=⟨out⟩ by
    unfold madeF
    rw [HN0.out]
    dsimp only
    rw [Int.toNat_natCast,← hkm,HRN.out])
   clear hlt hkm
   go_wp2_with (first
    | ((with_reducible refine gate_store (t:=24) (p:=8) rfl ?_);(refine ev_store (cs':=#[.slice A10 k c10]) (.agg #[.slice A10 k c10]) 0 HO rfl rfl rfl rfl 0 rfl rfl sz24 za77 (Nat.le_refl _) rfl ?_);intro W6 HO6;clear HO;have x2:=HO6.box_cell 0 rfl 0 rfl))
   refine bodyPost_ret (results_cell_row rfl _ _ g8 24 #[.slice A10 k c10] (0,0) _ rfl (HO6.box_at 0 rfl).1 Try.underlying24 rfl sz24) rfl ?_
   exact ⟨_,rfl,by rw [HF.out];exact HO6.row_R 3 rfl,HO6.below⟩
  obtain ⟨a,p1,hn1,⟨al,ah⟩,hp1⟩:=nextF_all s p 5 HP.out (by decide)
  obtain ⟨b,p2,hn2,⟨bl,bh⟩,hp2⟩:=nextF_all s p1 2 hp1 (by decide)
  have hmany:manyF s p=((1+a*b % 3).toNat,p2):=by unfold manyF;rw [hn1];dsimp only;rw [hn2]
  have hmp:=manyF_p s p HP.out
  rw [hmany] at hmp
  obtain ⟨n,hn⟩:∃ n:Nat,(1+a*b % 3).toNat=n:=⟨_,rfl⟩
  rw [hn] at hmany hmp
  obtain ⟨In,p3,hin,hp3⟩:∃ In p3,setsN s p2 n=(In,p3)∧InS s p3:=⟨_,_,rfl,setsN_p s p2 hp2 n⟩
  have hil:=setsN_length s p2 n
  rw [hin] at hil
  have hab:0≤a*b∧a*b≤4:=by
   rcases (show b=0∨b=1 by omega) with rfl|rfl<;>omega
  have HW:=Aside0.mk (show IntKind.i64.wrap (a*b)=a*b∧IntKind.i64.wrap (1+Int.tmod (a*b) 3)=(n:Int) from ⟨IntWalk.i64_in _ (by omega),by
   rw [Int.tmod_eq_emod_of_nonneg hab.1,IntWalk.i64_in _ (by omega)];omega⟩)
  have HW2:=Aside0.mk (show wrap64 (a*b)=a*b∧wrap64 (1+Int.tmod (a*b) 3)=(n:Int) from by simpa only [i64_w] using HW.out)
  have HN1:=Aside0.mk hn1
  have HN2:=Aside0.mk hn2
  have HP1:=Aside0.mk hp1
  have HP2:=Aside0.mk hp2
  have HP3:=Aside0.mk hp3
  have HIN:=Aside0.mk hin
  have HIL:=Aside0.mk (show In.length=n from hil)
  have HMY:=Aside0.mk hmany
  have HNB:=Aside0.mk (show 1≤n∧n≤3 from hmp.2)
  have HLT:=Aside0.mk hlt
  have q1:((k:Int)<(mm:Int))=True:=eq_true (by omega)
  have hkb:(k:Int)+1≤1000:=by have:=HMM.out;omega
  obtain ⟨e1,p4,hn3,⟨el,eh⟩,hp4⟩:=nextF_all s p3 3 hp3 (by decide)
  have HN3:=Aside0.mk hn3
  have HP4:=Aside0.mk hp4
  clear hn3 hp4 el eh
  clear hn1 hn2 hp1 hp2 hp3 hmany hmp hin hil hab hlt al ah bl bh hn
  go_upto_region 8 with (first
   | (go_at_call 60;(refine (next_calls 5 HO 1 rfl HP.out HSL.out (by decide) (by decide) HN1.out).mono ?_;rintro e_ W_ ⟨rfl,HO1⟩;clear HO))
   | (go_at_call 60;(refine (next_calls 2 HO1 1 rfl HP1.out HSL.out (by decide) (by decide) HN2.out).mono ?_;rintro e_ W_ ⟨rfl,HO2⟩;clear HO1))
   | (go_at_call 61;((first|simp only [HW.out.1,HW.out.2]|simp only [HW2.out.1,HW2.out.2]);refine (sets_calls n HO2 1 rfl HP2.out HSL.out (by have:=HNB.out;omega) HIN.out).mono ?_;rintro e_ W_ ⟨v3,rfl,HO3⟩;clear HO2;obtain ⟨Ai,ci,rfl,-,-⟩:=HO3.row_at 4 rfl;rw [HIL.out] at HO3;rw [HIL.out]))
   | ((with_reducible refine gate_dst (N:=13) rfl ?_);refine ev_box (N:=13) (cs:=#[.slice none 0 0,.slice none 0 0,.slice none 0 0,.slice none 0 0,.slice none 0 0]) (t:=49) HO3 rfl rfl zhr ?_;intro g13 W4 HO4 hb4;clear HO3 hb4)
   | ((with_reducible refine gate_store (t:=49) (p:=13) rfl ?_);(refine ev_store (cs':=#[.slice none 0 0,.slice Ai n ci,.slice none 0 0,.slice none 0 0,.slice none 0 0]) (.agg #[.slice none 0 0,.slice Ai n ci,.slice none 0 0,.slice none 0 0,.slice none 0 0]) 5 HO4 rfl rfl rfl rfl 0 rfl rfl sz49 za77 (Nat.le_refl _) rfl ?_);intro W5 HO5;clear HO4))
  go_upto_if 40 with (first
   | (go_at_call 60;(refine (next_calls 3 HO5 1 rfl HP3.out HSL.out (by decide) (by decide) HN3.out).mono ?_;rintro e_ W_ ⟨rfl,HO6⟩;clear HO5)))
  go_cut [] (fun wc=>∃ (Bk:List (List Int)) (pB:Int) (Ab:Option Addr) (cb:Nat),Aside0 (someF s p3=(Bk,pB))∧Aside0 (Own w wc [.box g8 24 #[.slice none 0 0],.drw w g9 s pB,.box g10 24 #[.slice A10 k c10],.row k49 49 w.heap.size (.slice A10 k c10) out,.row kLL 26 w.heap.size (.slice Ai n ci) In,.box g13 49 #[.slice Ab Bk.length cb,.slice Ai n ci,.slice none 0 0,.slice none 0 0,.slice none 0 0],.row kLL 26 w.heap.size (.slice Ab Bk.length cb) Bk]))
  case first =>
   by_cases e0:e1=0
   case pos =>
    have q2:(e1==0)=true:=beq_iff_eq.mpr e0
    obtain ⟨t,p5,hn4,⟨tl,th⟩,hp5⟩:=nextF_all s p4 2 HP4.out (by decide)
    obtain ⟨tt,rfl⟩:=Int.eq_ofNat_of_zero_le tl
    obtain ⟨X,p6,hx⟩:∃ X p6,setsN s p5 (1+tt)=(X,p6):=⟨_,_,rfl⟩
    have HSF:=Aside0.mk (show someF s p3=(X,p6) by
     unfold someF
     rw [HN3.out]
     dsimp only
     rw [if_pos e0,hn4]
     dsimp only
     rw [show (1+(tt:Int)).toNat=1+tt by omega,hx])
    have HN4:=Aside0.mk hn4
    have HP5:=Aside0.mk hp5
    have HX:=Aside0.mk hx
    have HT:=Aside0.mk (show 1+tt≤1000 by omega)
    have HWT:=Aside0.mk (show IntKind.i64.wrap (1+(tt:Int))=((1+tt:Nat):Int) by rw [IntWalk.i64_in _ (by omega)];omega)
    have HWT2:=Aside0.mk (show wrap64 (1+(tt:Int))=((1+tt:Nat):Int) from by simpa only [i64_w] using HWT.out)
    clear e0 hn4 hp5 hx tl th
    go_wp2_with (first
     | (go_at_call 60;(refine (next_calls 2 HO6 1 rfl HP4.out HSL.out (by decide) (by decide) HN4.out).mono ?_;rintro e_ W_ ⟨rfl,HOa⟩;clear HO6))
     | (go_at_call 61;((first|simp only [HWT.out]|simp only [HWT2.out]);refine (sets_calls (1+tt) HOa 1 rfl HP5.out HSL.out HT.out HX.out).mono ?_;rintro e_ W_ ⟨vx,rfl,HOb⟩;clear HOa;obtain ⟨Ax,cx,rfl,-,-⟩:=HOb.row_at 6 rfl;have m0:=HOb.box_cell 5 rfl 0 rfl;have f0:=HOb.box_free 5 rfl 0)))
    have HOc:=HOb.put 5 rfl 0 (.slice Ax X.length cx) (by simp) rfl
    go_meet
    case rel=>exact ⟨X,p6,Ax,cx,HSF,⟨HOc⟩⟩
   case neg =>
    have q2:(e1==0)=false:=beq_eq_false_iff_ne.mpr e0
    have HSF:=Aside0.mk (show someF s p3=([],p4) by
     unfold someF
     rw [HN3.out]
     dsimp only
     rw [if_neg e0])
    have HOc:=HO6.newrow kLL 26
    clear e0 HO6
    go_wp2
    go_meet
    case rel=>exact ⟨[],p4,none,0,HSF,⟨HOc⟩⟩
  clear HO6
  obtain ⟨Bk,pB,Ab,cb,HSB,HOO⟩:=hcut
  have HOB:=HOO.out
  clear HOO
  have hp_:=someF_p s p3 HP3.out
  rw [HSB.out] at hp_
  have HPB:=Aside0.mk hp_
  clear hp_
  obtain ⟨e2,p7,hn5,⟨el,eh⟩,hp7⟩:=nextF_all s pB 3 HPB.out (by decide)
  have HN5:=Aside0.mk hn5
  have HP7:=Aside0.mk hp7
  clear hn5 hp7 el eh
  go_upto_if 50 with (first
   | (go_at_call 60;(refine (next_calls 3 HOB 1 rfl HPB.out HSL.out (by decide) (by decide) HN5.out).mono ?_;rintro e_ W_ ⟨rfl,HO7⟩;clear HOB)))
  go_cut [] (fun wc=>∃ (Hd:List (List Int)) (pH:Int) (Ah:Option Addr) (ch:Nat),Aside0 (someF s pB=(Hd,pH))∧Aside0 (Own w wc [.box g8 24 #[.slice none 0 0],.drw w g9 s pH,.box g10 24 #[.slice A10 k c10],.row k49 49 w.heap.size (.slice A10 k c10) out,.row kLL 26 w.heap.size (.slice Ai n ci) In,.box g13 49 #[.slice Ab Bk.length cb,.slice Ai n ci,.slice Ah Hd.length ch,.slice none 0 0,.slice none 0 0],.row kLL 26 w.heap.size (.slice Ab Bk.length cb) Bk,.row kLL 26 w.heap.size (.slice Ah Hd.length ch) Hd]))
  case first =>
   by_cases e0:e2=0
   case pos =>
    have q2:(e2==0)=true:=beq_iff_eq.mpr e0
    obtain ⟨t,p5,hn4,⟨tl,th⟩,hp5⟩:=nextF_all s p7 2 HP7.out (by decide)
    obtain ⟨tt,rfl⟩:=Int.eq_ofNat_of_zero_le tl
    obtain ⟨X,p6,hx⟩:∃ X p6,setsN s p5 (1+tt)=(X,p6):=⟨_,_,rfl⟩
    have HSF:=Aside0.mk (show someF s pB=(X,p6) by
     unfold someF
     rw [HN5.out]
     dsimp only
     rw [if_pos e0,hn4]
     dsimp only
     rw [show (1+(tt:Int)).toNat=1+tt by omega,hx])
    have HN4:=Aside0.mk hn4
    have HP5:=Aside0.mk hp5
    have HX:=Aside0.mk hx
    have HT:=Aside0.mk (show 1+tt≤1000 by omega)
    have HWT:=Aside0.mk (show IntKind.i64.wrap (1+(tt:Int))=((1+tt:Nat):Int) by rw [IntWalk.i64_in _ (by omega)];omega)
    have HWT2:=Aside0.mk (show wrap64 (1+(tt:Int))=((1+tt:Nat):Int) from by simpa only [i64_w] using HWT.out)
    clear e0 hn4 hp5 hx tl th
    go_wp2_with (first
     | (go_at_call 60;(refine (next_calls 2 HO7 1 rfl HP7.out HSL.out (by decide) (by decide) HN4.out).mono ?_;rintro e_ W_ ⟨rfl,HOa⟩;clear HO7))
     | (go_at_call 61;((first|simp only [HWT.out]|simp only [HWT2.out]);refine (sets_calls (1+tt) HOa 1 rfl HP5.out HSL.out HT.out HX.out).mono ?_;rintro e_ W_ ⟨vx,rfl,HOb⟩;clear HOa;obtain ⟨Ax,cx,rfl,-,-⟩:=HOb.row_at 7 rfl;have m0:=HOb.box_cell 5 rfl 2 rfl;have f0:=HOb.box_free 5 rfl 2)))
    have HOc:=HOb.put 5 rfl 2 (.slice Ax X.length cx) (by simp) rfl
    go_meet
    case rel=>exact ⟨X,p6,Ax,cx,HSF,⟨HOc⟩⟩
   case neg =>
    have q2:(e2==0)=false:=beq_eq_false_iff_ne.mpr e0
    have HSF:=Aside0.mk (show someF s pB=([],p7) by
     unfold someF
     rw [HN5.out]
     dsimp only
     rw [if_neg e0])
    have HOc:=HO7.newrow kLL 26
    clear e0 HO7
    go_wp2
    go_meet
    case rel=>exact ⟨[],p7,none,0,HSF,⟨HOc⟩⟩
  clear HO7
  obtain ⟨Hd,pH,Ah,ch,HSH,HOO⟩:=hcut
  have HOH:=HOO.out
  clear HOO
  have hp_:=someF_p s pB HPB.out
  rw [HSH.out] at hp_
  have HPH:=Aside0.mk hp_
  clear hp_
  have hru:∀ os cs pz,actF s kk n pH=(os,cs,pz)→rulesN s kk p0 (k+1)=(out++[(⟨Bk,In,Hd,os,cs⟩:S49)],pz):=by
   intro os cs pz he
   have h1:rule1 s kk p=((⟨Bk,In,Hd,os,cs⟩:S49),pz):=by
    unfold rule1
    rw [HMY.out]
    dsimp only
    rw [HIN.out]
    dsimp only
    rw [HSB.out]
    dsimp only
    rw [HSH.out]
    dsimp only
    rw [HIL.out,he]
   rw [rulesN,HRN.out]
   dsimp only
   rw [h1]
  have HRU:=Aside0.mk hru
  clear hru
  obtain ⟨nv,p8,hn6,⟨nl,nh⟩,hp8⟩:=nextF_all s pH 4 HPH.out (by decide)
  obtain ⟨nn,rfl⟩:=Int.eq_ofNat_of_zero_le nl
  have HN6:=Aside0.mk hn6
  have HP8:=Aside0.mk hp8
  have HNN:=Aside0.mk (show nn<4 by omega)
  clear hn6 hp8 nl nh
  have hkb2:(kk:Int)+1≤1000:=by have:=HKK.out;omega
  by_cases hk2:kk<2
  case neg =>
   have g1:((kk:Int)+1<3)=False:=eq_false (by omega)
   have g2:decide ((kk:Int)+1<3)=false:=decide_eq_false (by omega)
   have HK2:=Aside0.mk hk2
   clear hk2
   go_wp2_with (first
    | (go_at_call 60;(refine (next_calls 4 HOH 1 rfl HPH.out HSL.out (by decide) (by decide) HN6.out).mono ?_;rintro e_ W_ ⟨rfl,HOq⟩;clear HOH)))
   have HO9:=HOq.newrow (Kd.int .i64) 3
   clear HOq
   go_loopw [16] (fun v16 w'=>∃ (j:Nat) (os:List Int) (pj:Int) (Ao:Option Addr) (co:Nat),v16=.int .i64 j∧Aside0 (j≤nn)∧Aside0 (drawN s 8 p8 j=(os,pj))∧Aside0 (Own w w' [.box g8 24 #[.slice none 0 0],.drw w g9 s pj,.box g10 24 #[.slice A10 k c10],.row k49 49 w.heap.size (.slice A10 k c10) out,.row kLL 26 w.heap.size (.slice Ai n ci) In,.box g13 49 #[.slice Ab Bk.length cb,.slice Ai n ci,.slice Ah Hd.length ch,.slice Ao j co,.slice none 0 0],.row kLL 26 w.heap.size (.slice Ab Bk.length cb) Bk,.row kLL 26 w.heap.size (.slice Ah Hd.length ch) Hd,.row (Kd.int .i64) 3 w.heap.size (.slice Ao j co) os])) (fun v16 _=>nn - (intOf v16).toNat)
   case atStart=>exact ⟨0,[],p8,none,0,rfl,⟨Nat.zero_le _⟩,⟨rfl⟩,⟨HO9⟩⟩
   case round =>
    clear HO9
    obtain ⟨j,os,pj,Ao,co,rfl,HJ,HDR,HOO⟩:=hrel
    have HOj:=HOO.out
    clear HOO
    have hpj:=drawN_p s 8 p8 HP8.out j
    have hjl:=drawN_length s 8 p8 j
    rw [HDR.out] at hpj hjl
    have HJL:=Aside0.mk (show os.length=j from hjl)
    have HPJ:=Aside0.mk hpj
    clear hpj hjl
    by_cases hj:j<nn
    case pos =>
     have q5:((j:Int)<(nn:Int))=True:=eq_true (by omega)
     have hjb:(j:Int)+1≤1000:=by have:=HNN.out;omega
     obtain ⟨v,pj1,hm,⟨vl,vh⟩,hpj1⟩:=nextF_all s pj 8 HPJ.out (by decide)
     have HM:=Aside0.mk hm
     have HDR2:=Aside0.mk (show drawN s 8 p8 (j+1)=(os++[v],pj1) by simp only [drawN,HDR.out,hm])
     have HJN:=Aside0.mk hj
     have x1:=HOj.box_cell 5 rfl 3 rfl
     clear hm vl vh hpj1 hj
     go_wp2
     go_region_law (first
      | (go_simp;go_at_call 60;((try simp only [show min (9:Int) 8=8 from rfl]);refine (next_calls 8 HOj.drew 1 rfl HPJ.out HSL.out (by decide) (by decide) HM.out).mono ?_;rintro e_ W_ ⟨rfl,HO1⟩;clear HOj x1;have x2:=HO1.box_cell 5 rfl 3 rfl;have x3:=fun o_=>(HO1.alloc o_).box_cell 5 rfl 3 rfl))
      | (refine ev_append_step (d:=Kd.int .i64) 8 HO1 rfl (by rfl) (.tmp 101) (.tmp 106) 26 (.int .i64 0) 8 rfl Try.underlying26 info3 rfl (by decide) (by decide) v [.int .i64 v] rfl rfl rfl ?_ ?_;(have:=HJL.out;have:=HNN.out;have:=HJN.out;omega);intro A5 c5 W5 HO5;clear HO1 x2 x3;have x5:=HO5.box_cell 5 rfl 3 rfl;have f5:=HO5.box_free 5 rfl 3))
     all_goals
      have HO6:=HO5.put 5 rfl 3 (.slice A5 (os.length+1) c5) (by simp) rfl
      rw [HJL.out] at HO6
      rw [HJL.out]
      go_wp2
      go_roundw
      case rel=>exact ⟨j+1,_,pj1,A5,c5,by go_num,⟨HJN.out⟩,HDR2,⟨HO6⟩⟩
      case measure=>have:=HJN.out;simp [intOf];omega
    case neg =>
     have hjn:j=nn:=by have:=HJ.out;omega
     have q5:¬ ((j:Int)<(nn:Int)):=by omega
     have HAF:=Aside0.mk (show actF s kk n pH=(os,[],pj) by
      have e9:=HDR.out
      rw [hjn] at e9
      unfold actF;rw [HN6.out];dsimp only;rw [if_neg (by have:=HK2.out;omega),Int.toNat_natCast,e9])
     have HOt:=HOj.newrow k60 60
     clear HOj hj hjn
     have x10:=HOt.box_cell 2 rfl 0 rfl
     have z0:=HOt.box_cell 5 rfl 0 rfl
     have z1:=HOt.box_cell 5 rfl 1 rfl
     have z2:=HOt.box_cell 5 rfl 2 rfl
     have z3:=HOt.box_cell 5 rfl 3 rfl
     have z4:=HOt.box_cell 5 rfl 4 rfl
     go_wp2_with (first
      | ((with_reducible refine gate_builtin (b:=.append) (xs:=#[.tmp 110,.tmp 112]) rfl ?_);at_builtin;(have HV:=HOt.rule 6 4 7 8 9 rfl rfl rfl rfl rfl rfl rfl rfl rfl (by decide);refine ev_appendv 3 4 (by decide) HV rfl rfl rfl (.tmp 110) (.tmp 112) 22 (.agg #[.slice none 0 0,.slice none 0 0,.slice none 0 0,.slice none 0 0,.slice none 0 0]) 120 rfl Try.underlying22 info49 rfl (by decide) (by decide) rfl rfl ?aL ?_);(case aL=>have:=HOL.out;have:=HLT.out;have:=HMM.out;omega);intro A20 c20 W20 HO20;clear HV HOt x10 z0 z1 z2 z3 z4;rw [HOL.out] at HO20;have x20:=HO20.box_cell 2 rfl 0 rfl;have f20:=HO20.box_free 2 rfl 0))
     try rw [HOL.out]
     have HO21:=(HO20.put 2 rfl 0 (.slice A20 (k+1) c20) (by simp) rfl).upto 4
     go_roundw
     case rel=>exact ⟨k+1,_,pj,A20,c20,by go_num,⟨HLT.out⟩,⟨HRU.out os [] pj HAF.out⟩,⟨HO21⟩⟩
     case measure=>have:=HLT.out;simp [intOf];omega
  obtain ⟨qv,p9,hn7,⟨ql,qh⟩,hp9⟩:=nextF_all s p8 2 HP8.out (by decide)
  have HN7:=Aside0.mk hn7
  have HP9:=Aside0.mk hp9
  have g1:((kk:Int)+1<3)=True:=eq_true (by omega)
  have g2:decide ((kk:Int)+1<3)=true:=decide_eq_true (by omega)
  have HK2:=Aside0.mk hk2
  clear hn7 hp9 ql qh hk2
  by_cases hq:qv=0
  case neg =>
   have g3:(qv==0)=false:=beq_eq_false_iff_ne.mpr hq
   have HQ:=Aside0.mk hq
   clear hq
   go_wp2_with (first
    | (go_at_call 60;(refine (next_calls 4 HOH 1 rfl HPH.out HSL.out (by decide) (by decide) HN6.out).mono ?_;rintro e_ W_ ⟨rfl,HOq⟩;clear HOH))
    | (go_at_call 60;(refine (next_calls 2 HOq 1 rfl HP8.out HSL.out (by decide) (by decide) HN7.out).mono ?_;rintro e_ W_ ⟨rfl,HOr⟩;clear HOq)))
   have HO9:=HOr.newrow (Kd.int .i64) 3
   clear HOr
   go_loopw [16] (fun v16 w'=>∃ (j:Nat) (os:List Int) (pj:Int) (Ao:Option Addr) (co:Nat),v16=.int .i64 j∧Aside0 (j≤nn)∧Aside0 (drawN s 8 p9 j=(os,pj))∧Aside0 (Own w w' [.box g8 24 #[.slice none 0 0],.drw w g9 s pj,.box g10 24 #[.slice A10 k c10],.row k49 49 w.heap.size (.slice A10 k c10) out,.row kLL 26 w.heap.size (.slice Ai n ci) In,.box g13 49 #[.slice Ab Bk.length cb,.slice Ai n ci,.slice Ah Hd.length ch,.slice Ao j co,.slice none 0 0],.row kLL 26 w.heap.size (.slice Ab Bk.length cb) Bk,.row kLL 26 w.heap.size (.slice Ah Hd.length ch) Hd,.row (Kd.int .i64) 3 w.heap.size (.slice Ao j co) os])) (fun v16 _=>nn - (intOf v16).toNat)
   case atStart=>exact ⟨0,[],p9,none,0,rfl,⟨Nat.zero_le _⟩,⟨rfl⟩,⟨HO9⟩⟩
   case round =>
    clear HO9
    obtain ⟨j,os,pj,Ao,co,rfl,HJ,HDR,HOO⟩:=hrel
    have HOj:=HOO.out
    clear HOO
    have hpj:=drawN_p s 8 p9 HP9.out j
    have hjl:=drawN_length s 8 p9 j
    rw [HDR.out] at hpj hjl
    have HJL:=Aside0.mk (show os.length=j from hjl)
    have HPJ:=Aside0.mk hpj
    clear hpj hjl
    by_cases hj:j<nn
    case pos =>
     have q5:((j:Int)<(nn:Int))=True:=eq_true (by omega)
     have hjb:(j:Int)+1≤1000:=by have:=HNN.out;omega
     obtain ⟨v,pj1,hm,⟨vl,vh⟩,hpj1⟩:=nextF_all s pj 8 HPJ.out (by decide)
     have HM:=Aside0.mk hm
     have HDR2:=Aside0.mk (show drawN s 8 p9 (j+1)=(os++[v],pj1) by simp only [drawN,HDR.out,hm])
     have HJN:=Aside0.mk hj
     have x1:=HOj.box_cell 5 rfl 3 rfl
     clear hm vl vh hpj1 hj
     go_wp2
     go_region_law (first
      | (go_simp;go_at_call 60;((try simp only [show min (9:Int) 8=8 from rfl]);refine (next_calls 8 HOj.drew 1 rfl HPJ.out HSL.out (by decide) (by decide) HM.out).mono ?_;rintro e_ W_ ⟨rfl,HO1⟩;clear HOj x1;have x2:=HO1.box_cell 5 rfl 3 rfl;have x3:=fun o_=>(HO1.alloc o_).box_cell 5 rfl 3 rfl))
      | (refine ev_append_step (d:=Kd.int .i64) 8 HO1 rfl (by rfl) (.tmp 101) (.tmp 106) 26 (.int .i64 0) 8 rfl Try.underlying26 info3 rfl (by decide) (by decide) v [.int .i64 v] rfl rfl rfl ?_ ?_;(have:=HJL.out;have:=HNN.out;have:=HJN.out;omega);intro A5 c5 W5 HO5;clear HO1 x2 x3;have x5:=HO5.box_cell 5 rfl 3 rfl;have f5:=HO5.box_free 5 rfl 3))
     all_goals
      have HO6:=HO5.put 5 rfl 3 (.slice A5 (os.length+1) c5) (by simp) rfl
      rw [HJL.out] at HO6
      rw [HJL.out]
      go_wp2
      go_roundw
      case rel=>exact ⟨j+1,_,pj1,A5,c5,by go_num,⟨HJN.out⟩,HDR2,⟨HO6⟩⟩
      case measure=>have:=HJN.out;simp [intOf];omega
    case neg =>
     have hjn:j=nn:=by have:=HJ.out;omega
     have q5:¬ ((j:Int)<(nn:Int)):=by omega
     have HAF:=Aside0.mk (show actF s kk n pH=(os,[],pj) by
      have e9:=HDR.out
      rw [hjn] at e9
      unfold actF;rw [HN6.out];dsimp only;rw [if_pos (by have:=HK2.out;omega),HN7.out];dsimp only;rw [if_neg HQ.out,Int.toNat_natCast,e9])
     have HOt:=HOj.newrow k60 60
     clear HOj hj hjn
     have x10:=HOt.box_cell 2 rfl 0 rfl
     have z0:=HOt.box_cell 5 rfl 0 rfl
     have z1:=HOt.box_cell 5 rfl 1 rfl
     have z2:=HOt.box_cell 5 rfl 2 rfl
     have z3:=HOt.box_cell 5 rfl 3 rfl
     have z4:=HOt.box_cell 5 rfl 4 rfl
     go_wp2_with (first
      | ((with_reducible refine gate_builtin (b:=.append) (xs:=#[.tmp 110,.tmp 112]) rfl ?_);at_builtin;(have HV:=HOt.rule 6 4 7 8 9 rfl rfl rfl rfl rfl rfl rfl rfl rfl (by decide);refine ev_appendv 3 4 (by decide) HV rfl rfl rfl (.tmp 110) (.tmp 112) 22 (.agg #[.slice none 0 0,.slice none 0 0,.slice none 0 0,.slice none 0 0,.slice none 0 0]) 120 rfl Try.underlying22 info49 rfl (by decide) (by decide) rfl rfl ?aL ?_);(case aL=>have:=HOL.out;have:=HLT.out;have:=HMM.out;omega);intro A20 c20 W20 HO20;clear HV HOt x10 z0 z1 z2 z3 z4;rw [HOL.out] at HO20;have x20:=HO20.box_cell 2 rfl 0 rfl;have f20:=HO20.box_free 2 rfl 0))
     try rw [HOL.out]
     have HO21:=(HO20.put 2 rfl 0 (.slice A20 (k+1) c20) (by simp) rfl).upto 4
     go_roundw
     case rel=>exact ⟨k+1,_,pj,A20,c20,by go_num,⟨HLT.out⟩,⟨HRU.out os [] pj HAF.out⟩,⟨HO21⟩⟩
     case measure=>have:=HLT.out;simp [intOf];omega
  have g3:(qv==0)=true:=beq_iff_eq.mpr hq
  have HQ:=Aside0.mk hq
  clear hq
  go_wp2_with (first
   | (go_at_call 60;(refine (next_calls 4 HOH 1 rfl HPH.out HSL.out (by decide) (by decide) HN6.out).mono ?_;rintro e_ W_ ⟨rfl,HOq⟩;clear HOH))
   | (go_at_call 60;(refine (next_calls 2 HOq 1 rfl HP8.out HSL.out (by decide) (by decide) HN7.out).mono ?_;rintro e_ W_ ⟨rfl,HOr⟩;clear HOq)))
  have HO9:=HOr.newrow k60 60
  clear HOr
  go_loopw [15] (fun v15 w'=>∃ (j:Nat) (os:List S60) (pj:Int) (Ao:Option Addr) (co:Nat),v15=.int .i64 j∧Aside0 (j≤nn % 2+1)∧Aside0 (callsN s kk n p9 j=(os,pj))∧Aside0 (Own w w' [.box g8 24 #[.slice none 0 0],.drw w g9 s pj,.box g10 24 #[.slice A10 k c10],.row k49 49 w.heap.size (.slice A10 k c10) out,.row kLL 26 w.heap.size (.slice Ai n ci) In,.box g13 49 #[.slice Ab Bk.length cb,.slice Ai n ci,.slice Ah Hd.length ch,.slice none 0 0,.slice Ao j co],.row kLL 26 w.heap.size (.slice Ab Bk.length cb) Bk,.row kLL 26 w.heap.size (.slice Ah Hd.length ch) Hd,.row k60 60 w.heap.size (.slice Ao j co) os])) (fun v15 _=>nn % 2+1 - (intOf v15).toNat)
  case atStart=>exact ⟨0,[],p9,none,0,rfl,⟨Nat.zero_le _⟩,⟨rfl⟩,⟨HO9⟩⟩
  case round =>
   clear HO9
   obtain ⟨j,os,pj,Ao,co,rfl,HJ,HDR,HOO⟩:=hrel
   have HOj:=HOO.out
   clear HOO
   have hpj:=callsN_p s kk n p9 HP9.out j
   have hjl:=callsN_length s kk n p9 j
   rw [HDR.out] at hpj hjl
   have HJL:=Aside0.mk (show os.length=j from hjl)
   have HPJ:=Aside0.mk hpj
   clear hpj hjl
   have htm:Int.tmod (nn:Int) 2=((nn % 2:Nat):Int):=by rw [Int.tmod_eq_emod_of_nonneg (by omega)];omega
   have HTM:=Aside0.mk htm
   by_cases hj:j<nn % 2+1
   case pos =>
    have q5:((j:Int)≤(nn:Int) % 2)=True:=eq_true (by omega)
    have q6:decide ((j:Int)≤(nn:Int) % 2)=true:=decide_eq_true (by omega)
    have hjb:(j:Int)+1≤1000:=by omega
    obtain ⟨v,pj1,hm,⟨vl,vh⟩,hpj1⟩:=nextF_all s pj n HPJ.out (by have:=HNB.out;omega)
    obtain ⟨x,pj2,hm2,⟨xl,xh⟩,hpj2⟩:=nextF_all s pj1 (2 - kk) hpj1 (by have:=HK2.out;omega)
    have HM:=Aside0.mk hm
    have HM2:=Aside0.mk hm2
    have HPJ1:=Aside0.mk hpj1
    have HDR2:=Aside0.mk (show callsN s kk n p9 (j+1)=(os++[⟨v,kk+1+x⟩],pj2) by simp only [callsN,HDR.out,hm,hm2])
    have HJN:=Aside0.mk hj
    have HW3:=Aside0.mk (show IntKind.i64.wrap (3 - (kk:Int))=3 - kk∧IntKind.i64.wrap (3 - (kk:Int) - 1)=2 - kk∧IntKind.i64.wrap (IntKind.i64.wrap ((kk:Int)+1)+x)=kk+1+x from ⟨IntWalk.i64_in _ (by omega),(IntWalk.i64_in _ (by omega)).trans (by omega),by rw [IntWalk.i64_in ((kk:Int)+1) (by omega),IntWalk.i64_in _ (by omega)]⟩)
    have HNN1:=Aside0.mk (show (0:Int)<n∧(n:Int)≤1000000000 from by have:=HNB.out;omega)
    have HNN2:=Aside0.mk (show (0:Int)<2 - kk∧(2:Int) - kk≤1000000000 from by have:=HK2.out;omega)
    have x1:=HOj.box_cell 5 rfl 4 rfl
    have y1:=HOj.box_cell 5 rfl 1 rfl
    clear hm hm2 vl vh hpj1 hj xl xh hpj2 htm
    go_wp2
    go_region_law (first
     | (refine ev_append_step (d:=k60) 8 HO2 rfl (by rfl) (.tmp 76) (.tmp 92) 47 (.agg #[.int .i64 0,.int .i64 0]) 16 rfl Try.underlying47 info60 rfl (by decide) (by decide) (⟨v,IntKind.i64.wrap (IntKind.i64.wrap ((kk:Int)+1)+x)⟩:S60) [.int .i64 v,.int .i64 (IntKind.i64.wrap (IntKind.i64.wrap ((kk:Int)+1)+x))] rfl rfl (k60_mkM _ _ _ _) ?_ ?_;(have:=HJL.out;have:=HNN.out;have:=HJN.out;omega);intro A5 c5 W5 HO5;clear HO2 x4 x3;have x5:=HO5.box_cell 5 rfl 4 rfl;have f5:=HO5.box_free 5 rfl 4)
     | (go_simp;go_at_call 60;first
       | (refine (next_calls n HOj.drew 1 rfl HPJ.out HSL.out HNN1.out.1 HNN1.out.2 HM.out).mono ?_;rintro e_ W_ ⟨rfl,HO1⟩;clear HOj x1 y1;have x2:=HO1.box_cell 5 rfl 4 rfl;have y2:=HO1.box_cell 5 rfl 1 rfl)
       | ((try simp only [HW3.out.1,HW3.out.2.1]);refine (next_calls (2 - kk) HO1 1 rfl HPJ1.out HSL.out HNN2.out.1 HNN2.out.2 HM2.out).mono ?_;rintro e_ W_ ⟨rfl,HO2⟩;clear HO1 x2 y2;have x4:=HO2.box_cell 5 rfl 4 rfl;have x3:=fun o_=>(HO2.alloc o_).box_cell 5 rfl 4 rfl)))
    all_goals
     have HO6:=HO5.put 5 rfl 4 (.slice A5 (os.length+1) c5) (by simp) rfl
     rw [HW3.out.2.2,HJL.out] at HO6
     rw [HJL.out]
     go_wp2
     go_roundw
     case rel=>exact ⟨j+1,_,pj2,A5,c5,by go_num,⟨by have:=HJN.out;omega⟩,HDR2,⟨HO6⟩⟩
     case measure=>have:=HJN.out;simp [intOf];omega
   case neg =>
    have hjn:j=nn % 2+1:=by have:=HJ.out;omega
    have q5:¬ ((j:Int)≤(nn:Int) % 2):=by omega
    have q6:decide ((j:Int)≤(nn:Int) % 2)=false:=decide_eq_false q5
    have HAF:=Aside0.mk (show actF s kk n pH=([],os,pj) by
     have e9:=HDR.out
     rw [hjn] at e9
     unfold actF;rw [HN6.out];dsimp only;rw [if_pos (by have:=HK2.out;omega),HN7.out];dsimp only;rw [if_pos HQ.out,show ((nn:Int) % 2+1).toNat=nn % 2+1 by omega,e9])
    have HOt:=HOj.newrow (Kd.int .i64) 3
    clear HOj hj hjn htm
    have x10:=HOt.box_cell 2 rfl 0 rfl
    have z0:=HOt.box_cell 5 rfl 0 rfl
    have z1:=HOt.box_cell 5 rfl 1 rfl
    have z2:=HOt.box_cell 5 rfl 2 rfl
    have z3:=HOt.box_cell 5 rfl 3 rfl
    have z4:=HOt.box_cell 5 rfl 4 rfl
    go_wp2_with (first
     | ((with_reducible refine gate_builtin (b:=.append) (xs:=#[.tmp 110,.tmp 112]) rfl ?_);at_builtin;(have HV:=HOt.rule 6 4 7 9 8 rfl rfl rfl rfl rfl rfl rfl rfl rfl (by decide);refine ev_appendv 3 4 (by decide) HV rfl rfl rfl (.tmp 110) (.tmp 112) 22 (.agg #[.slice none 0 0,.slice none 0 0,.slice none 0 0,.slice none 0 0,.slice none 0 0]) 120 rfl Try.underlying22 info49 rfl (by decide) (by decide) rfl rfl ?aL ?_);(case aL=>have:=HOL.out;have:=HLT.out;have:=HMM.out;omega);intro A20 c20 W20 HO20;clear HV HOt x10 z0 z1 z2 z3 z4;rw [HOL.out] at HO20;have x20:=HO20.box_cell 2 rfl 0 rfl;have f20:=HO20.box_free 2 rfl 0))
    try rw [HOL.out]
    have HO21:=(HO20.put 2 rfl 0 (.slice A20 (k+1) c20) (by simp) rfl).upto 4
    go_roundw
    case rel=>exact ⟨k+1,_,pj,A20,c20,by go_num,⟨HLT.out⟩,⟨HRU.out [] os pj HAF.out⟩,⟨HO21⟩⟩
    case measure=>have:=HLT.out;simp [intOf];omega
end Go.Proofs.Ytlgkeaildncojaa.Q
end
section
namespace Go.Proofs.Ytlgkeaildncojaa.Q
open Go.RowKit Go.Shelf Go.Proofs.YtlgkeaildncojaaW.PrintWords Go.Proofs.YtlgkeaildncojaaW.PrintLast Go.Proofs.YtlgkeaildncojaaW.PrintMore
set_option linter.unusedSimpArgs false
set_option linter.unusedVariables false
def madeN (l:List (List Int)) (n:Nat):List S24:=(List.range n).map fun k=>madeF (l.getD k []) k
def madeAll (l:List (List Int)):List S24:=madeN l 3
theorem madeN_succ (l:List (List Int)) (n:Nat):madeN l (n+1)=madeN l n++[madeF (l.getD n []) n]:=by simp [madeN,List.range_succ]
theorem madeN_length (l:List (List Int)) (n:Nat):(madeN l n).length=n:=by simp [madeN]
theorem at_LI {w:World} {A:Option Addr} {n:Nat} {xs:List (List Int)} (h:Kd.C (Kd.slice 3 (Kd.int .i64)) w A n xs) (i:Int) (h0:0≤i) (h1:i<n):∃ ad A0 c0,A=some ad∧w.cell? (ad.add i.toNat)=some (.slice A0 (xs.getD i.toNat []).length c0)∧(xs.getD i.toNat []).length≤c0∧(Kd.int .i64).C w A0 (xs.getD i.toNat []).length (xs.getD i.toNat []):=by
 obtain ⟨ad,c,e,_,hK,hc0⟩:=Kd.C_get h ([]:List Int) i h0 h1
 have hc:∀ j u,c[j]?=some u→w.cell? (ad.add (i.toNat*1+j))=some u:=hc0
 obtain ⟨A0,c0,rfl,l0,g0⟩:=hK
 exact ⟨ad,A0,c0,e,by have hq:=hc 0 _ rfl;rwa [Nat.mul_one,Nat.add_zero] at hq,l0,g0⟩
set_option maxRecDepth 100000 in
set_option maxHeartbeats 4000000 in
theorem madeall_calls (A:Option Addr) (c:Nat) (l:List (List Int)) (w:World) (hr:Kd.C (Kd.slice 3 (Kd.int .i64)) w A l.length l) (hc:l.length≤c) (hll:∀ s∈l,s.length≤9223372036854775807) :
  Calls Try.prog 31 #[.slice A l.length c,.int .i64 3,.int .i64 9] w fun e w'=>∃ v,e=.returned v∧Kd.R k24 24 w' w.heap.size (fun _=>True) v (madeAll l)∧Below w.heap.size w w':=by
 have HR:=Aside0.mk hr
 have HLL:=Aside0.mk hll
 have hlm:(l.length:Int)≤9223372036854775807:=by have:=Kd.C_max hr;omega
 have HO:=(Own.start w).newrow k24 24
 clear hr hc hll
 go_enter Try.func31,Try.ntmps31
 go_wp2
 go_loopw [7,8,9] (fun v7 v8 v9 w'=>∃ (k:Nat) (out:List S24) (A7:Option Addr) (c7:Nat),v8=.int .i64 k∧v7=.slice A7 k c7∧Aside0 (k≤3)∧Aside0 (madeN l k=out)∧Aside0 (Own w w' [.row k24 24 w.heap.size (.slice A7 k c7) out])) (fun _ v8 _ _=>3 - (intOf v8).toNat)
 case atStart=>exact ⟨0,[],none,0,rfl,rfl,⟨Nat.zero_le _⟩,⟨rfl⟩,⟨HO⟩⟩
 case round =>
  clear HO
  obtain ⟨k,out,A7,c7,rfl,rfl,HK,HMD,HOO⟩:=hrel
  have HO:=HOO.out
  clear HOO
  by_cases h3:k<3
  case neg =>
   have e3:k=3:=by have:=HK.out;omega
   subst e3
   have HF:=Aside0.mk (show madeAll l=out from HMD.out)
   clear h3
   go_wp2
   go_ret
   exact ⟨_,rfl,by rw [HF.out];exact HO.row_R 0 rfl,HO.below⟩
  have q1:((k:Int)<3)=True:=eq_true (by omega)
  have hkb:(k:Int)+1≤1000:=by omega
  have HOL:=Aside0.mk (show out.length=k by rw [← HMD.out,madeN_length])
  have HK3:=Aside0.mk (show k≤2 by omega)
  have HNX:=Aside0.mk (show madeN l (k+1)=out++[⟨(madeF (l.getD k []) k).f0⟩] by rw [madeN_succ,HMD.out])
  clear h3
  by_cases hlt:k<l.length
  case pos =>
   have q2:((k:Int)<(l.length:Int))=True:=eq_true (by omega)
   have p1:(0≤(k:Int))=True:=eq_true (by omega)
   obtain ⟨ad,A0,c0,rfl,x0,y0,y1⟩:=at_LI HR.out (k:Int) (by omega) (by omega)
   rw [Int.toNat_natCast] at x0 y0 y1
   replace x0:=pw_cell_below HO.below x0
   have HSL:=Aside0.mk (HLL.out (l.getD k []) (by rw [List.getD_eq_getElem?_getD,List.getElem?_eq_getElem hlt];exact List.getElem_mem _))
   have HY:=Aside0.mk (And.intro y0 y1)
   obtain ⟨s,hs⟩:∃ s,l.getD k []=s:=⟨_,rfl⟩
   rw [hs] at x0 HSL HNX HY
   clear hs y0 y1 hlt
   go_wp2_with (first
    | (go_at_call 43;(refine (made_calls A0 c0 s k _ (HO.old HY.out.2) HY.out.1 HSL.out HK3.out).mono ?_;rintro e_ W5 ⟨v5,rfl,hR5,hb5⟩;have HO5:=HO.called hb5 hR5;clear HO hR5 hb5))
    | ((with_reducible refine gate_builtin (b:=.append) (xs:=#[.tmp 23,.tmp 29]) rfl ?_);at_builtin;(have HV:=HO5.say 1 (r':=.val k24 w.heap.size (⟨(madeF s k).f0⟩:S24) [v5]) rfl (fun ok h_=>k24_mkM _ _ _ (⟨(madeF s k).f0⟩:S24) h_);refine ev_appendv 0 1 (by decide) HV rfl rfl rfl (.tmp 23) (.tmp 29) 32 (.agg #[.slice none 0 0]) 24 rfl Try.underlying32 info24 rfl (by decide) (by decide) rfl rfl ?aL ?_);(case aL=>have:=HOL.out;have:=HK3.out;omega);intro A9 c9 W9 HO9;clear HV HO5))
   try rw [HOL.out]
   rw [HOL.out] at HO9
   go_roundw
   case rel=>exact ⟨k+1,_,A9,c9,by go_num,rfl,⟨by have:=HK3.out;omega⟩,HNX,⟨HO9.upto 1⟩⟩
   case measure=>have:=HK3.out;simp [intOf];omega
  case neg =>
   have q2:¬ ((k:Int)<(l.length:Int)):=by omega
   rw [show l.getD k []=[] by rw [List.getD_eq_getElem?_getD,List.getElem?_eq_none (by omega)];rfl] at HNX
   clear hlt
   go_wp2_with (first
    | (go_at_call 43;(refine (made_calls none 0 [] k _ (Kd.C_nil _ _) (Nat.le_refl _) (by simp) HK3.out).mono ?_;rintro e_ W5 ⟨v5,rfl,hR5,hb5⟩;have HO5:=HO.called hb5 hR5;clear HO hR5 hb5))
    | ((with_reducible refine gate_builtin (b:=.append) (xs:=#[.tmp 23,.tmp 29]) rfl ?_);at_builtin;(have HV:=HO5.say 1 (r':=.val k24 w.heap.size (⟨(madeF [] k).f0⟩:S24) [v5]) rfl (fun ok h_=>k24_mkM _ _ _ (⟨(madeF [] k).f0⟩:S24) h_);refine ev_appendv 0 1 (by decide) HV rfl rfl rfl (.tmp 23) (.tmp 29) 32 (.agg #[.slice none 0 0]) 24 rfl Try.underlying32 info24 rfl (by decide) (by decide) rfl rfl ?aL ?_);(case aL=>have:=HOL.out;have:=HK3.out;omega);intro A9 c9 W9 HO9;clear HV HO5))
   try rw [HOL.out]
   rw [HOL.out] at HO9
   go_roundw
   case rel=>exact ⟨k+1,_,A9,c9,by go_num,rfl,⟨by have:=HK3.out;omega⟩,HNX,⟨HO9.upto 1⟩⟩
   case measure=>have:=HK3.out;simp [intOf];omega
end Go.Proofs.Ytlgkeaildncojaa.Q
end
section
namespace Go.Proofs.Ytlgkeaildncojaa.Q
open Go.RowKit Go.Shelf Go.Proofs.YtlgkeaildncojaaW.PrintWords Go.Proofs.YtlgkeaildncojaaW.PrintLast Go.Proofs.YtlgkeaildncojaaW.PrintMore
set_option linter.unusedSimpArgs false
set_option linter.unusedVariables false
theorem getD_mem' {α:Type} (l:List α) (i:Nat) (z:α) (h:i<l.length):l.getD i z∈l:=by
 rw [List.getD_eq_getElem?_getD,List.getElem?_eq_getElem h]
 exact List.getElem_mem h
end Go.Proofs.Ytlgkeaildncojaa.Q
end
section
namespace Go.Proofs.Ytlgkeaildncojaa.Q
open Go.RowKit Go.Shelf Go.Proofs.YtlgkeaildncojaaW.PrintWords Go.Proofs.YtlgkeaildncojaaW.PrintLast Go.Proofs.YtlgkeaildncojaaW.PrintMore
set_option linter.unusedSimpArgs false
set_option linter.unusedVariables false
end Go.Proofs.Ytlgkeaildncojaa.Q
end
section
namespace Go.Proofs.Ytlgkeaildncojaa.Q
open Go.RowKit Go.Proofs.YtlgkeaildncojaaW.PrintWords Go.Proofs.YtlgkeaildncojaaW.PrintLast Go.Proofs.YtlgkeaildncojaaW.PrintMore
attribute [local go_sem] max2_int min2_int max_two min_two max_three min_three max_four min_four   -- for this text's walks alone
set_option linter.unusedVariables false
set_option linter.unusedSimpArgs false
def abugidaref16_SameInts.l0:Nat→List Int→List Int→Int→Option (Bool)
 | 0,_,_,_=>none
 | k+1,x0,x1,x5=>if x5<(x0.length:Int) then (if 0≤x5 then (if x5<(x1.length:Int) then (if (rd x0 x5)=(rd x1 x5) then (abugidaref16_SameInts.l0 k x0 x1 (wrap64 (x5+1))) else (some false)) else (none)) else (none)) else (some true)
def abugidaref16_SameInts.f (k:Nat) (l0:List Int) (l1:List Int):Option (Bool):=if (l0.length:Int)=(l1.length:Int) then (abugidaref16_SameInts.l0 k l0 l1 0) else (some false)
theorem abugidaref16_SameInts.mono_l:∀ k,(∀ y0 y1 y2,LeO (abugidaref16_SameInts.l0 k y0 y1 y2) (abugidaref16_SameInts.l0 (k+1) y0 y1 y2))
 | 0=>fun _ _ _ r h=>by simp [abugidaref16_SameInts.l0] at h
 | k+1=>by
  have ih0:=abugidaref16_SameInts.mono_l k
  ·
   intro y0 y1 y2
   unfold abugidaref16_SameInts.l0
   repeat' first
   | (with_reducible exact ih0 _ _ _)
   | (with_reducible exact LeO.refl _)
   | (with_reducible exact LeO.none _)
   | (with_reducible refine LeO.ite ?_ ?_)
   | (with_reducible refine LeO.bind ?_ (fun _=>?_))
   | exact ih0 _ _ _
   | exact LeO.none _
   | refine LeO.ite ?_ ?_
   | refine LeO.bind ?_ (fun _=>?_)
theorem abugidaref16_SameInts.mono:∀ a0 a1 k,LeO (abugidaref16_SameInts.f k a0 a1) (abugidaref16_SameInts.f (k+1) a0 a1):=by
 intro a0 a1 k
 have ih0:=abugidaref16_SameInts.mono_l k
 unfold abugidaref16_SameInts.f
 repeat' first
   | (with_reducible exact ih0 _ _ _)
   | (with_reducible exact LeO.refl _)
   | (with_reducible exact LeO.none _)
   | (with_reducible refine LeO.ite ?_ ?_)
   | (with_reducible refine LeO.bind ?_ (fun _=>?_))
   | exact ih0 _ _ _
   | exact LeO.none _
   | refine LeO.ite ?_ ?_
   | refine LeO.bind ?_ (fun _=>?_)
set_option maxHeartbeats 8000000 in
set_option maxRecDepth 100000 in
theorem abugidaref16_SameInts.calls (k:Nat) (A0:Option Addr) (c0:Nat) (l0:List Int) (A1:Option Addr) (c1:Nat) (l1:List Int) (r:Bool) (w:World) (hr0:Kd.C (Kd.int .i64) w A0 l0.length l0) (hc0:l0.length≤c0) (hr1:Kd.C (Kd.int .i64) w A1 l1.length l1) (hc1:l1.length≤c1) (h:abugidaref16_SameInts.f k l0 l1=some r) :
  Calls Try.prog 18 #[.slice A0 l0.length c0,.slice A1 l1.length c1] w fun e w'=>e=.returned (.bool r)∧Drawn0 w w':=by
 have HR0:=Aside0.mk hr0
 have HC0:=Aside0.mk hc0
 clear hr0 hc0
 have HR1:=Aside0.mk hr1
 have HC1:=Aside0.mk hc1
 clear hr1 hc1
 have H:(if (l0.length:Int)=(l1.length:Int) then (abugidaref16_SameInts.l0 k l0 l1 0) else (some false))=some r:=h
 clear h
 by_cases c3:(l0.length:Int)=(l1.length:Int)
 ·
  rw [if_pos c3] at H
  have c3b0:((l0.length:Int)==(l1.length:Int))=true:=beq_iff_eq.mpr c3
  have c3b1:((l0.length:Int) != (l1.length:Int))=false:=bne_eq_false_iff_eq.mpr c3
  have c3b2:(l0.length==l1.length)=true:=by first|simpa using c3|(simp at c3 ⊢;omega)
  clear c3
  have H':=Aside0.mk H
  clear H
  go_enter Try.func18,Try.ntmps18
  go_wp2
  repeat (go_quiet (fail);try go_wp2)
  go_loopg [5] k (fun kq v5 w'=>∃ (x5_1:Int),v5=.int .i64 x5_1∧Aside0 (abugidaref16_SameInts.l0 kq l0 l1 x5_1=some r)∧Aside0 (kq≤k)∧Drawn0 w w')
  case atStart=>exact ⟨(0),za76,H',⟨Nat.le_refl _⟩,by repeat (first|exact Drawn0.refl _|apply Drawn0.step)⟩
  case round =>
   clear H'
   try clear c1
   try clear p2
   try clear c3
   try clear c3b0
   try clear c3b1
   try clear c3b2
   obtain ⟨x5_1,rfl,HA,HK1,⟨m1,rfl⟩⟩:=hrel
   cases gk with
   | zero=>exact absurd HA.out (by simp [abugidaref16_SameInts.l0])
   | succ k1 =>
    have H:=HA.out
    clear HA
    simp only [abugidaref16_SameInts.l0] at H
    by_cases c4:x5_1<(l0.length:Int)
    ·
     rw [if_pos c4] at H
     have c4b0:decide (x5_1<(l0.length:Int))=true:=decide_eq_true c4
     clear c4
     by_cases c5:0≤x5_1
     ·
      rw [if_pos c5] at H
      have c5b0:decide (0≤x5_1)=true:=decide_eq_true c5
      clear c5
      by_cases c6:x5_1<(l1.length:Int)
      ·
       rw [if_pos c6] at H
       have c6b0:decide (x5_1<(l1.length:Int))=true:=decide_eq_true c6
       clear c6
       by_cases c7:(rd l0 x5_1)=(rd l1 x5_1)
       ·
        rw [if_pos c7] at H
        have c7b0:((rd l0 x5_1)==(rd l1 x5_1))=true:=beq_iff_eq.mpr c7
        have c7b1:((rd l0 x5_1) != (rd l1 x5_1))=false:=bne_eq_false_iff_eq.mpr c7
        clear c7
        have H':=Aside0.mk H
        clear H
        have p114:0≤(x5_1:Int):=of_decide_eq_true za73
        have q114:x5_1<(l0.length:Int):=of_decide_eq_true za73
        obtain ⟨j2_,e114,j0_⟩:=Kd.at_int HR0.out x5_1 p114 q114
        cases e114
        replace p114:=eq_true p114
        replace q114:=eq_true q114
        have p115:0≤(x5_1:Int):=of_decide_eq_true za73
        have q115:x5_1<(l1.length:Int):=of_decide_eq_true za73
        obtain ⟨j3_,e115,j1_⟩:=Kd.at_int HR1.out x5_1 p115 q115
        cases e115
        replace p115:=eq_true p115
        replace q115:=eq_true q115
        go_wp2
        repeat (go_quiet (fail);try go_wp2)
        go_roundg k1
        case measure=>have:=HK1.out;omega
        case rel=>exact ⟨(wrap64 (x5_1+1)),za76,H',⟨by have:=HK1.out;omega⟩,by repeat (first|exact Drawn0.refl _|apply Drawn0.step)⟩
       ·
        rw [if_neg c7] at H
        have c7b0:((rd l0 x5_1)==(rd l1 x5_1))=false:=beq_eq_false_iff_ne.mpr c7
        have c7b1:((rd l0 x5_1) != (rd l1 x5_1))=true:=bne_iff_ne.mpr c7
        obtain rfl:=Option.some.inj H
        have p114:0≤(x5_1:Int):=of_decide_eq_true za73
        have q114:x5_1<(l0.length:Int):=of_decide_eq_true za73
        obtain ⟨j2_,e114,j0_⟩:=Kd.at_int HR0.out x5_1 p114 q114
        cases e114
        replace p114:=eq_true p114
        replace q114:=eq_true q114
        have p115:0≤(x5_1:Int):=of_decide_eq_true za73
        have q115:x5_1<(l1.length:Int):=of_decide_eq_true za73
        obtain ⟨j3_,e115,j1_⟩:=Kd.at_int HR1.out x5_1 p115 q115
        cases e115
        replace p115:=eq_true p115
        replace q115:=eq_true q115
        go_wp2
        repeat (go_quiet (fail);try go_wp2)
        go_ret
        exact ⟨by first|rfl|(simp;done)|(simp [*];done),by repeat (first|exact Drawn0.refl _|apply Drawn0.step)⟩
      ·
       rw [if_neg c6] at H
       exact absurd H (by simp)
     ·
      rw [if_neg c5] at H
      exact absurd H (by simp)
    ·
     rw [if_neg c4] at H
     have c4b0:decide (x5_1<(l0.length:Int))=false:=decide_eq_false c4
     clear c4
     obtain rfl:=Option.some.inj H
     go_wp2
     repeat (go_quiet (fail);try go_wp2)
     go_ret
     exact ⟨by first|rfl|(simp;done)|(simp [*];done),by repeat (first|exact Drawn0.refl _|apply Drawn0.step)⟩
 ·
  rw [if_neg c3] at H
  have c3b0:((l0.length:Int)==(l1.length:Int))=false:=beq_eq_false_iff_ne.mpr c3
  have c3b1:((l0.length:Int) != (l1.length:Int))=true:=bne_iff_ne.mpr c3
  have c3b2:(l0.length==l1.length)=false:=by first|simpa using c3|(simp at c3 ⊢;omega)
  obtain rfl:=Option.some.inj H
  go_enter Try.func18,Try.ntmps18
  go_wp2
  repeat (go_quiet (fail);try go_wp2)
  go_ret
  exact ⟨by first|rfl|(simp;done)|(simp [*];done),by repeat (first|exact Drawn0.refl _|apply Drawn0.step)⟩
end Go.Proofs.Ytlgkeaildncojaa.Q
end
section
namespace Go.Proofs.Ytlgkeaildncojaa.Q
open Go.RowKit Go.Proofs.YtlgkeaildncojaaW.PrintWords Go.Proofs.YtlgkeaildncojaaW.PrintLast Go.Proofs.YtlgkeaildncojaaW.PrintMore
attribute [local go_sem] max2_int min2_int max_two min_two max_three min_three max_four min_four   -- for this text's walks alone
set_option linter.unusedVariables false
set_option linter.unusedSimpArgs false
theorem eqA55 (d:Nat) (w:World) (x0 y0:Int) (x1 y1:Int) :
  (Op.equalIn (d+2) 55 (.agg #[.int .i64 x0,.int .i64 x1]) (.agg #[.int .i64 y0,.int .i64 y1])).run Try.prog w=.ok (x0==y0&&(x1==y1)) w:=by
 refine eqA_of Try.underlying55 (by kernel_rfl) ?_
 refine eqf_cons (by rfl) (by go_simp;rfl) (by go_simp;rfl) (by go_simp) ?_
 exact eqf_last (by rfl) (by go_simp;rfl) (by go_simp;rfl) (by go_simp)
end Go.Proofs.Ytlgkeaildncojaa.Q
end
section
namespace Go.Proofs.Ytlgkeaildncojaa.Q
open Go.RowKit Go.Proofs.YtlgkeaildncojaaW.PrintWords Go.Proofs.YtlgkeaildncojaaW.PrintLast Go.Proofs.YtlgkeaildncojaaW.PrintMore
attribute [local go_sem] max2_int min2_int max_two min_two max_three min_three max_four min_four   -- for this text's walks alone
set_option linter.unusedVariables false
set_option linter.unusedSimpArgs false
def rules_Apply.f (l0:List (S24)) (a1:Int) (l2:List (S55)) (l3:List Bool):Option (List (S55) × Int × Int):=applyO l0 a1 l2 l3
theorem rules_Apply.calls (A0:Option Addr) (c0:Nat) (l0:List (S24)) (a1:Int) (A2:Option Addr) (c2:Nat) (l2:List (S55)) (A3:Option Addr) (c3:Nat) (l3:List Bool) (r1:List (S55)) (r2:Int) (r3:Int) (w:World) (hr0:Kd.C k24 w A0 l0.length l0) (hc0:l0.length≤c0) (hr2:Kd.C k55 w A2 l2.length l2) (hc2:l2.length≤c2) (hr3:Kd.C Kd.bool w A3 l3.length l3) (hc3:l3.length≤c3) (h:rules_Apply.f l0 a1 l2 l3=some (r1,r2,r3)) :
  Calls Try.prog 23 #[.slice A0 l0.length c0,.int .i64 a1,.slice A2 l2.length c2,.slice A3 l3.length c3] w fun e w'=>∃ v0_:Value,e=.returned (.tuple #[v0_,.int .i64 r2,.int .i64 r3])∧Kd.R k55 55 w' w.heap.size (fun _=>True) v0_ r1∧Below w.heap.size w w' :=
 apply_all A0 c0 l0 a1 A2 c2 l2 A3 c3 l3 r1 r2 r3 w hr0 hc0 hr2 hc2 hr3 hc3 h
end Go.Proofs.Ytlgkeaildncojaa.Q
end
