/- Texts of this claim, merged by wip/tools/pack.py: Ck, Chk, N1, N2, N3, N4, Qx5. -/
import Derived.Test.YtlgkeaildncojaaZ22
import Derived.Ground.NamesProg
import Derived.Shelf.Sort.Plain
import Derived.Shelf.Slices.In.SortNone
import Derived.Maps.RangeWalk
import Derived.Maps.OwnSet
import Derived.Sort.OwnSortedInts
import Derived.MapKept
section
namespace Go.Proofs.Ytlgkeaildncojaa.Q
open Go.RowKit Go.Shelf Go.Proofs.YtlgkeaildncojaaW.PrintWords Go.Proofs.YtlgkeaildncojaaW.PrintLast Go.Proofs.YtlgkeaildncojaaW.PrintMore
set_option linter.unusedSimpArgs false
set_option linter.unusedVariables false
attribute [local go_sem] Oper.semAt_some
theorem rdN (l:List Int) (i:Nat):rd l (i:Int)=l.getD i 0:=by
 unfold rd
 rw [Int.toNat_natCast]
theorem dropC (ks:List Int) (off:Nat) (h:off<ks.length):ks.drop off=ks.getD off 0 :: ks.drop (off+1):=by
 rw [List.drop_eq_getElem_cons h,List.getD_eq_getElem?_getD,List.getElem?_eq_getElem h]
 rfl
theorem wr64 (x:Int) (h0:-9223372036854775808≤x) (h1:x≤9223372036854775807):wrap64 x=x:=by unfold wrap64;omega
def rightP:List Int→Bool
 | []=>true
 | [_]=>true
 | x :: y :: r=>if x ≥ y then false else rightP (y :: r)
theorem right_l0 (l:List Int) (hl:l.length≤9223372036854775807):∀ (d i:Nat),i+1+d=l.length→Ev (fun k=>sets_Right.l0 k l ((i+1:Nat):Int)) (rightP (l.drop i)):=by
 intro d
 induction d with
 | zero =>
  intro i h
  rw [dropC l i (by omega),List.drop_of_length_le (by omega)]
  refine Ev.step (fun k=>by rw [sets_Right.l0,if_neg (by omega)]) ?_
  exact Ev.now _
 | succ d ih =>
  intro i h
  have h2:=ih (i+1) (by omega)
  have e1:=dropC l i (by omega)
  have e2:=dropC l (i+1) (by omega)
  have r1:=rdN l i
  have r2:=rdN l (i+1)
  rw [e1,e2,rightP]
  rw [e2] at h2
  have q0:((i+1:Nat):Int)<(l.length:Int):=by omega
  have hw:wrap64 (((i+1:Nat):Int) - 1)=(i:Int):=by rw [wr64 _ (by omega) (by omega)];omega
  have q1:(0:Int)≤(i:Int):=by omega
  have q2:(i:Int)<(l.length:Int):=by omega
  have q3:(0:Int)≤((i+1:Nat):Int):=by omega
  have hw2:wrap64 (((i+1:Nat):Int)+1)=((i+1+1:Nat):Int):=by rw [wr64 _ (by omega) (by omega)];omega
  refine Ev.step (fun k=>by rw [sets_Right.l0,if_pos q0,hw,if_pos q1,if_pos q2,if_pos q3,r1,r2,hw2]) ?_
  by_cases hc:l.getD i 0 ≥ l.getD (i+1) 0
  ·
   rw [if_pos hc]
   exact Ev.congr (fun k=>by rw [if_pos hc]) (Ev.now _)
  ·
   rw [if_neg hc]
   exact Ev.congr (fun k=>by rw [if_neg hc]) h2
theorem right_ev (l:List Int) (hl:l.length≤9223372036854775807):Ev (fun k=>sets_Right.f k l) (rightP l):=by
 unfold sets_Right.f
 cases l with
 | nil =>
  refine Ev.step (fun k=>by rw [sets_Right.l0,if_neg (by simp)]) ?_
  exact Ev.now _
 | cons x r=>exact right_l0 (x :: r) hl r.length 0 (by simp;omega)
def wrongP (l:List Int):Bool:=l.isEmpty || !rightP l
theorem wrong_ev (l:List Int) (hl:l.length≤9223372036854775807):Ev (fun k=>rules_wrongSet.f k l) (wrongP l):=by
 unfold rules_wrongSet.f
 cases l with
 | nil=>exact Ev.congr (fun k=>by rw [if_pos (by simp)];rfl) (Ev.now _)
 | cons x r =>
  refine Ev.congr (fun k=>by rw [if_neg (by simp;omega)]) ?_
  exact Ev.bind (g:=fun k=>sets_Right.f k (x :: r)) (right_ev _ hl) (Ev.now _)
def unkP (G g:Int):Bool:=decide (g<0) || decide (g ≥ G)
theorem unk_f (G g:Int):rules_checkRule_1_1.f g G=some (unkP G g):=by
 unfold rules_checkRule_1_1.f unkP
 split
 ·
  rename_i h;rw [decide_eq_true h];rfl
 ·
  rename_i h;rw [decide_eq_false h];rfl
def callP (n:Nat) (k L:Int) (c:S60):Bool:=decide (c.f0<0) || decide (c.f0 ≥ (n:Int)) || decide (c.f1≤k) || decide (c.f1 ≥ L)
def ruleP (r:S49) (k L G:Int):Int :=
 if r.f1.length=0∨r.f1.length > 4∨r.f0.length > 3∨r.f2.length > 3 then 31
 else if r.f3.length > 4∨r.f4.length > 3∨(r.f3.length > 0∧r.f4.length > 0) then 31
 else if (r.f1++r.f0++r.f2).any wrongP=true then 31
 else if (r.f1++r.f0++r.f2).any (fun l=>l.any (unkP G))=true∨r.f3.any (unkP G)=true then 30
 else if r.f4.any (callP r.f1.length k L)=true then 32 else 0
def rulesP (k L G:Int):List S49→Int
 | []=>0
 | r :: rs=>if ruleP r k L G=0 then rulesP k L G rs else ruleP r k L G
def checkP (rs:List S49) (k L G:Int):Int :=
 if L<1∨L > 12∨k<0∨k ≥ L∨G<1∨G > 100 then 1 else if rs.length > 8 then 2 else rulesP k L G rs
theorem litOld {α:Type} (d:Kd α) (w0:World) (e base:Nat) (W:World) (xs:List α) (inner:List Value) (hb:base≤W.heap.size) (hm:xs.length≤maxLen) (hrep:Reps (d.K w0) d.sz xs inner):(Kd.old d w0).R e (W.alloc (.cells inner.toArray e)) base (fun k=>W.heap.size≤k) (.slice (some ⟨W.heap.size,0,none⟩) xs.length xs.length) xs:=by
 have hl:=hrep.1
 refine ⟨fun k hk=>?_,inner,⟨hl,.inr ⟨W.heap.size,xs.length,inner.toArray,rfl,hb,blk_new W _,Nat.le_refl _,hm,?_,?_⟩⟩,hrep⟩
 ·
  injection hk with hk
  rw [← hk]
  exact Nat.le_refl _
 ·
  rw [List.size_toArray]
  exact hl
 ·
  rw [List.take_of_length_le]
  exact Nat.le_of_eq hl
theorem c49 {w:World} {A:Option Addr} {f:List (List Int)} {c:Nat} (hc:f.length≤c) (h:(Kd.slice 3 (Kd.int .i64)).C w A f.length f):(Kd.slice 26 (Kd.slice 3 (Kd.int .i64))).K w f [.slice A f.length c]:=⟨A,c,rfl,hc,h⟩
set_option maxRecDepth 100000 in
set_option maxHeartbeats 4000000 in
theorem context_calls (f0 f1 f2:List (List Int)) (A0 A1 A2:Option Addr) (c0 c1 c2:Nat) (v3 v4:Value) (o3:v3.oneCell'=true) (o4:v4.oneCell'=true) (w:World) (h0:(Kd.slice 3 (Kd.int .i64)).C w A0 f0.length f0) (h1:(Kd.slice 3 (Kd.int .i64)).C w A1 f1.length f1) (h2:(Kd.slice 3 (Kd.int .i64)).C w A2 f2.length f2) (hc0:f0.length≤c0) (hc1:f1.length≤c1) (hc2:f2.length≤c2) (b0:f0.length≤4) (b1:f1.length≤4) (b2:f2.length≤4) :
  Calls Try.prog 49 #[.agg #[.slice A0 f0.length c0,.slice A1 f1.length c1,.slice A2 f2.length c2,v3,v4]] w fun e w'=>∃ A c,e=.returned (.slice A (f1++f0++f2).length c)∧(Kd.slice 3 (Kd.int .i64)).C w' A (f1++f0++f2).length (f1++f0++f2)∧Below w.heap.size w w':=by
 have hfl:[f1,f0,f2].flatten=f1++f0++f2:=by simp
 have hfb:[f1,f0,f2].flatten.length≤1000000:=by rw [hfl,List.length_append,List.length_append];omega
 generalize f1++f0++f2=fl at hfl ⊢
 have HFL:=Aside0.mk hfl
 have HFB:=Aside0.mk hfb
 have HL3:Aside0 ([f1,f0,f2].length≤1000):=⟨by simp⟩
 have HREP:Aside0 (Reps ((Kd.slice 26 (Kd.slice 3 (Kd.int .i64))).K w) 1 [f1,f0,f2] [.slice A1 f1.length c1,.slice A0 f0.length c0,.slice A2 f2.length c2]):=⟨(((Reps.none _ 1).snoc (c49 hc1 h1) rfl).snoc (c49 hc0 h0) rfl).snoc (c49 hc2 h2) rfl⟩
 have HO:=Own.start w
 clear h0 h1 h2 hc0 hc1 hc2 b0 b1 b2 hfl hfb
 go_enter Try.func49,Try.ntmps49
 go_wp2_with (first
  | ((with_reducible refine gate_dst (N:=1) rfl ?_);refine ev_box (N:=1) (cs:=#[.slice A0 f0.length c0,.slice A1 f1.length c1,.slice A2 f2.length c2,v3,v4]) (t:=49) HO rfl rfl zhr ?_;intro g1 W1 HO1 hb1;clear HO hb1;have z0:=HO1.box_cell 0 rfl 0 rfl;have z1:=HO1.box_cell 0 rfl 1 rfl;have z2:=HO1.box_cell 0 rfl 2 rfl)
  | (go_at_call 64;(have HO2:=HO1.add (r:=.row (Kd.old (Kd.slice 26 (Kd.slice 3 (Kd.int .i64))) w) 25 w.heap.size (.slice (some ⟨W1.heap.size,0,none⟩) 3 3) [f1,f0,f2]) (below_alloc (Below.refl _ _) _) (litOld (Kd.slice 26 (Kd.slice 3 (Kd.int .i64))) w 25 w.heap.size W1 [f1,f0,f2] [.slice A1 f1.length c1,.slice A0 f0.length c0,.slice A2 f2.length c2] HO1.le (show (3:Nat)≤maxLen by unfold maxLen;decide) HREP.out);have hC2:=Kd.C_old (HO2.row_sl 1 rfl).2.2 HO2.below;(refine (concatL_calls _ 3 [f1,f0,f2] _ hC2 HL3.out HFB.out).mono ?_);rintro e W3 ⟨v9,rfl,hR3,hb3⟩;have HO3:=HO2.called hb3 hR3;obtain ⟨A9,c9,he9,hl9,hC9⟩:=HO3.row_at 2 rfl;have hC:=Kd.C_old hC9 hb3;rw [HFL.out] at he9 hC;subst he9;have HC:=Aside0.mk hC;have HOB:=Aside0.mk HO3.below;clear HO1 HO2 hC2 hR3 hb3 HO3 hl9 hC9 hC z0 z1 z2)))
 go_ret
 exact ⟨_,_,rfl,HC.out,HOB.out⟩
theorem box_below {w w':World} {g t:Nat} {cs:Array Value} (h:w.heap[g]?=some (.cells cs t (0,0))) (hb:Below w.heap.size w w'):w'.heap[g]?=some (.cells cs t (0,0)):=(hb.block g (blk_lt h)).trans h
set_option maxHeartbeats 1000000 in
theorem unknown_calls (G:Int) (g:Nat) (A:Option Addr) (c:Nat) (l:List Int) (w:World) (hr:(Kd.int .i64).C w A l.length l) (hb0:w.heap[g]?=some (.cells #[.int .i64 G] 3 (0,0))) :
  Calls Try.prog 44 #[.slice A l.length c,.pointer (some ⟨g,0,none⟩)] w fun e w'=>e=.returned (.bool (l.any (unkP G)))∧Below w.heap.size w w':=by
 have hmf:∀ (fn:Fn) (first cap:Array Value) (w:World),(Instr.makeFunc fn first cap).run Try.prog w=.ok (.func fn first cap) w:=fun _ _ _ _=>rfl
 have HI:=Aside0.mk (conI (unkP G) 46 #[.pointer (some ⟨g,0,none⟩)] (enters_ (P:=Try.prog) Try.func46 (by kernel_rfl) rfl) A c l w hr (fun x _ W hb=>rules_checkRule_1_1.calls x G _ W (box_below hb0 hb) (unk_f G x)))
 clear hr hb0
 go_enter Try.func44,Try.ntmps44
 go_wp2_with (first
  | (go_at_call 45;refine HI.out.mono ?_;rintro e w' ⟨rfl,hb⟩))
 go_ret
 exact ⟨rfl,hb⟩
theorem call_f (n:Nat) (k L:Int) (f0 f1 f2:List (List Int)) (f3:List Int) (f4:List S60) (x:S60) (h:f1.length=n):rules_checkRule_2.f x.f0 x.f1 f0 f1 f2 f3 f4 k L=some (callP n k L x):=by
 unfold rules_checkRule_2.f callP
 rw [h]
 split
 ·
  rename_i h;rw [decide_eq_true h];rfl
 ·
  rename_i h
  rw [decide_eq_false h]
  split
  ·
   rename_i h;rw [decide_eq_true h];rfl
  ·
   rename_i h
   rw [decide_eq_false h]
   split
   ·
    rename_i h;rw [decide_eq_true h];rfl
   ·
    rename_i h;rw [decide_eq_false h];rfl
set_option maxRecDepth 100000 in
set_option maxHeartbeats 8000000 in
theorem checkRule_calls (f0 f1 f2:List (List Int)) (f3:List Int) (f4:List S60) (A0 A1 A2 A3 A4:Option Addr) (c0 c1 c2 c3 c4:Nat) (k L G:Int) (w:World)
  (h0:(Kd.slice 3 (Kd.int .i64)).C w A0 f0.length f0) (h1:(Kd.slice 3 (Kd.int .i64)).C w A1 f1.length f1) (h2:(Kd.slice 3 (Kd.int .i64)).C w A2 f2.length f2) (h3:(Kd.int .i64).C w A3 f3.length f3) (h4:k60.C w A4 f4.length f4)
  (hc0:f0.length≤c0) (hc1:f1.length≤c1) (hc2:f2.length≤c2) (hc3:f3.length≤c3) (hc4:f4.length≤c4) :
  Calls Try.prog 34 #[.agg #[.slice A0 f0.length c0,.slice A1 f1.length c1,.slice A2 f2.length c2,.slice A3 f3.length c3,.slice A4 f4.length c4],.int .i64 k,.int .i64 L,.int .i64 G] w fun e w'=>e=.returned (.int .i64 (ruleP ⟨f0,f1,f2,f3,f4⟩ k L G))∧Below w.heap.size w w':=by
 have hmf:∀ (fn:Fn) (first cap:Array Value) (w:World),(Instr.makeFunc fn first cap).run Try.prog w=.ok (.func fn first cap) w:=fun _ _ _ _=>rfl
 have H0:=Aside0.mk h0
 have H1:=Aside0.mk h1
 have H2:=Aside0.mk h2
 have H3:=Aside0.mk h3
 have H4:=Aside0.mk h4
 have D0:=Aside0.mk hc0
 have D1:=Aside0.mk hc1
 have D2:=Aside0.mk hc2
 have D3:=Aside0.mk hc3
 have D4:=Aside0.mk hc4
 have HO:=Own.start w
 clear h0 h1 h2 h3 h4 hc0 hc1 hc2 hc3 hc4
 go_enter Try.func34,Try.ntmps34
 by_cases a1:f1.length=0
 case pos =>
  have ea1:((f1.length:Int)==0)=true:=beq_iff_eq.mpr (by omega)
  have HV:Aside0 (ruleP ⟨f0,f1,f2,f3,f4⟩ k L G=31):=⟨by unfold ruleP;dsimp only;rw [if_pos (by omega)]⟩
  clear a1
  go_wp2_with (first
   | ((with_reducible refine gate_dst (N:=4) rfl ?_);refine ev_box (N:=4) (cs:=#[.slice A0 f0.length c0,.slice A1 f1.length c1,.slice A2 f2.length c2,.slice A3 f3.length c3,.slice A4 f4.length c4]) (t:=49) HO rfl rfl zhr ?_;intro g4 W4 HO4 hb4;clear HO hb4;have z0:=HO4.box_cell 0 rfl 0 rfl;have z1:=HO4.box_cell 0 rfl 1 rfl;have z2:=HO4.box_cell 0 rfl 2 rfl;have z3:=HO4.box_cell 0 rfl 3 rfl;have z4:=HO4.box_cell 0 rfl 4 rfl)
   | ((with_reducible refine gate_dst (N:=5) rfl ?_);refine ev_box (N:=5) (cs:=#[.int .i64 k]) (t:=3) HO4 rfl rfl zhr ?_;intro g5 W5 HO5 hb5;clear HO4 hb5;clear z0 z1 z2 z3 z4;have z0:=HO5.box_cell 0 rfl 0 rfl;have z1:=HO5.box_cell 0 rfl 1 rfl;have z2:=HO5.box_cell 0 rfl 2 rfl;have z3:=HO5.box_cell 0 rfl 3 rfl;have z4:=HO5.box_cell 0 rfl 4 rfl)
   | ((with_reducible refine gate_dst (N:=6) rfl ?_);refine ev_box (N:=6) (cs:=#[.int .i64 L]) (t:=3) HO5 rfl rfl zhr ?_;intro g6 W6 HO6 hb6;clear HO5 hb6;clear z0 z1 z2 z3 z4;have z0:=HO6.box_cell 0 rfl 0 rfl;have z1:=HO6.box_cell 0 rfl 1 rfl;have z2:=HO6.box_cell 0 rfl 2 rfl;have z3:=HO6.box_cell 0 rfl 3 rfl;have z4:=HO6.box_cell 0 rfl 4 rfl)
   | ((with_reducible refine gate_dst (N:=7) rfl ?_);refine ev_box (N:=7) (cs:=#[.int .i64 G]) (t:=3) HO6 rfl rfl zhr ?_;intro g7 W7 HO7 hb7;clear HO6 hb7;clear z0 z1 z2 z3 z4;have z0:=HO7.box_cell 0 rfl 0 rfl;have z1:=HO7.box_cell 0 rfl 1 rfl;have z2:=HO7.box_cell 0 rfl 2 rfl;have z3:=HO7.box_cell 0 rfl 3 rfl;have z4:=HO7.box_cell 0 rfl 4 rfl))
  go_ret
  exact ⟨by rw [HV.out];rfl,HO7.below⟩
 case neg =>
  have ea1:((f1.length:Int)==0)=false:=beq_eq_false_iff_ne.mpr (by omega)
  by_cases a2:f1.length > 4
  case pos =>
   have ea2:((f1.length:Int) > 4)=True:=eq_true (by omega)
   have da2:decide ((f1.length:Int) > 4)=true:=decide_eq_true (by omega)
   have HV:Aside0 (ruleP ⟨f0,f1,f2,f3,f4⟩ k L G=31):=⟨by unfold ruleP;dsimp only;rw [if_pos (by omega)]⟩
   clear a1 a2
   go_wp2_with (first
    | ((with_reducible refine gate_dst (N:=4) rfl ?_);refine ev_box (N:=4) (cs:=#[.slice A0 f0.length c0,.slice A1 f1.length c1,.slice A2 f2.length c2,.slice A3 f3.length c3,.slice A4 f4.length c4]) (t:=49) HO rfl rfl zhr ?_;intro g4 W4 HO4 hb4;clear HO hb4;have z0:=HO4.box_cell 0 rfl 0 rfl;have z1:=HO4.box_cell 0 rfl 1 rfl;have z2:=HO4.box_cell 0 rfl 2 rfl;have z3:=HO4.box_cell 0 rfl 3 rfl;have z4:=HO4.box_cell 0 rfl 4 rfl)
    | ((with_reducible refine gate_dst (N:=5) rfl ?_);refine ev_box (N:=5) (cs:=#[.int .i64 k]) (t:=3) HO4 rfl rfl zhr ?_;intro g5 W5 HO5 hb5;clear HO4 hb5;clear z0 z1 z2 z3 z4;have z0:=HO5.box_cell 0 rfl 0 rfl;have z1:=HO5.box_cell 0 rfl 1 rfl;have z2:=HO5.box_cell 0 rfl 2 rfl;have z3:=HO5.box_cell 0 rfl 3 rfl;have z4:=HO5.box_cell 0 rfl 4 rfl)
    | ((with_reducible refine gate_dst (N:=6) rfl ?_);refine ev_box (N:=6) (cs:=#[.int .i64 L]) (t:=3) HO5 rfl rfl zhr ?_;intro g6 W6 HO6 hb6;clear HO5 hb6;clear z0 z1 z2 z3 z4;have z0:=HO6.box_cell 0 rfl 0 rfl;have z1:=HO6.box_cell 0 rfl 1 rfl;have z2:=HO6.box_cell 0 rfl 2 rfl;have z3:=HO6.box_cell 0 rfl 3 rfl;have z4:=HO6.box_cell 0 rfl 4 rfl)
    | ((with_reducible refine gate_dst (N:=7) rfl ?_);refine ev_box (N:=7) (cs:=#[.int .i64 G]) (t:=3) HO6 rfl rfl zhr ?_;intro g7 W7 HO7 hb7;clear HO6 hb7;clear z0 z1 z2 z3 z4;have z0:=HO7.box_cell 0 rfl 0 rfl;have z1:=HO7.box_cell 0 rfl 1 rfl;have z2:=HO7.box_cell 0 rfl 2 rfl;have z3:=HO7.box_cell 0 rfl 3 rfl;have z4:=HO7.box_cell 0 rfl 4 rfl))
   go_ret
   exact ⟨by rw [HV.out];rfl,HO7.below⟩
  case neg =>
   have ea2:((f1.length:Int) > 4)=False:=eq_false (by omega)
   have da2:decide ((f1.length:Int) > 4)=false:=decide_eq_false (by omega)
   by_cases a3:f0.length > 3
   case pos =>
    have ea3:((f0.length:Int) > 3)=True:=eq_true (by omega)
    have da3:decide ((f0.length:Int) > 3)=true:=decide_eq_true (by omega)
    have HV:Aside0 (ruleP ⟨f0,f1,f2,f3,f4⟩ k L G=31):=⟨by unfold ruleP;dsimp only;rw [if_pos (by omega)]⟩
    clear a1 a2 a3
    go_wp2_with (first
     | ((with_reducible refine gate_dst (N:=4) rfl ?_);refine ev_box (N:=4) (cs:=#[.slice A0 f0.length c0,.slice A1 f1.length c1,.slice A2 f2.length c2,.slice A3 f3.length c3,.slice A4 f4.length c4]) (t:=49) HO rfl rfl zhr ?_;intro g4 W4 HO4 hb4;clear HO hb4;have z0:=HO4.box_cell 0 rfl 0 rfl;have z1:=HO4.box_cell 0 rfl 1 rfl;have z2:=HO4.box_cell 0 rfl 2 rfl;have z3:=HO4.box_cell 0 rfl 3 rfl;have z4:=HO4.box_cell 0 rfl 4 rfl)
     | ((with_reducible refine gate_dst (N:=5) rfl ?_);refine ev_box (N:=5) (cs:=#[.int .i64 k]) (t:=3) HO4 rfl rfl zhr ?_;intro g5 W5 HO5 hb5;clear HO4 hb5;clear z0 z1 z2 z3 z4;have z0:=HO5.box_cell 0 rfl 0 rfl;have z1:=HO5.box_cell 0 rfl 1 rfl;have z2:=HO5.box_cell 0 rfl 2 rfl;have z3:=HO5.box_cell 0 rfl 3 rfl;have z4:=HO5.box_cell 0 rfl 4 rfl)
     | ((with_reducible refine gate_dst (N:=6) rfl ?_);refine ev_box (N:=6) (cs:=#[.int .i64 L]) (t:=3) HO5 rfl rfl zhr ?_;intro g6 W6 HO6 hb6;clear HO5 hb6;clear z0 z1 z2 z3 z4;have z0:=HO6.box_cell 0 rfl 0 rfl;have z1:=HO6.box_cell 0 rfl 1 rfl;have z2:=HO6.box_cell 0 rfl 2 rfl;have z3:=HO6.box_cell 0 rfl 3 rfl;have z4:=HO6.box_cell 0 rfl 4 rfl)
     | ((with_reducible refine gate_dst (N:=7) rfl ?_);refine ev_box (N:=7) (cs:=#[.int .i64 G]) (t:=3) HO6 rfl rfl zhr ?_;intro g7 W7 HO7 hb7;clear HO6 hb7;clear z0 z1 z2 z3 z4;have z0:=HO7.box_cell 0 rfl 0 rfl;have z1:=HO7.box_cell 0 rfl 1 rfl;have z2:=HO7.box_cell 0 rfl 2 rfl;have z3:=HO7.box_cell 0 rfl 3 rfl;have z4:=HO7.box_cell 0 rfl 4 rfl))
    go_ret
    exact ⟨by rw [HV.out];rfl,HO7.below⟩
   case neg =>
    have ea3:((f0.length:Int) > 3)=False:=eq_false (by omega)
    have da3:decide ((f0.length:Int) > 3)=false:=decide_eq_false (by omega)
    by_cases a4:f2.length > 3
    case pos =>
     have ea4:((f2.length:Int) > 3)=True:=eq_true (by omega)
     have da4:decide ((f2.length:Int) > 3)=true:=decide_eq_true (by omega)
     have HV:Aside0 (ruleP ⟨f0,f1,f2,f3,f4⟩ k L G=31):=⟨by unfold ruleP;dsimp only;rw [if_pos (by omega)]⟩
     clear a1 a2 a3 a4
     go_wp2_with (first
      | ((with_reducible refine gate_dst (N:=4) rfl ?_);refine ev_box (N:=4) (cs:=#[.slice A0 f0.length c0,.slice A1 f1.length c1,.slice A2 f2.length c2,.slice A3 f3.length c3,.slice A4 f4.length c4]) (t:=49) HO rfl rfl zhr ?_;intro g4 W4 HO4 hb4;clear HO hb4;have z0:=HO4.box_cell 0 rfl 0 rfl;have z1:=HO4.box_cell 0 rfl 1 rfl;have z2:=HO4.box_cell 0 rfl 2 rfl;have z3:=HO4.box_cell 0 rfl 3 rfl;have z4:=HO4.box_cell 0 rfl 4 rfl)
      | ((with_reducible refine gate_dst (N:=5) rfl ?_);refine ev_box (N:=5) (cs:=#[.int .i64 k]) (t:=3) HO4 rfl rfl zhr ?_;intro g5 W5 HO5 hb5;clear HO4 hb5;clear z0 z1 z2 z3 z4;have z0:=HO5.box_cell 0 rfl 0 rfl;have z1:=HO5.box_cell 0 rfl 1 rfl;have z2:=HO5.box_cell 0 rfl 2 rfl;have z3:=HO5.box_cell 0 rfl 3 rfl;have z4:=HO5.box_cell 0 rfl 4 rfl)
      | ((with_reducible refine gate_dst (N:=6) rfl ?_);refine ev_box (N:=6) (cs:=#[.int .i64 L]) (t:=3) HO5 rfl rfl zhr ?_;intro g6 W6 HO6 hb6;clear HO5 hb6;clear z0 z1 z2 z3 z4;have z0:=HO6.box_cell 0 rfl 0 rfl;have z1:=HO6.box_cell 0 rfl 1 rfl;have z2:=HO6.box_cell 0 rfl 2 rfl;have z3:=HO6.box_cell 0 rfl 3 rfl;have z4:=HO6.box_cell 0 rfl 4 rfl)
      | ((with_reducible refine gate_dst (N:=7) rfl ?_);refine ev_box (N:=7) (cs:=#[.int .i64 G]) (t:=3) HO6 rfl rfl zhr ?_;intro g7 W7 HO7 hb7;clear HO6 hb7;clear z0 z1 z2 z3 z4;have z0:=HO7.box_cell 0 rfl 0 rfl;have z1:=HO7.box_cell 0 rfl 1 rfl;have z2:=HO7.box_cell 0 rfl 2 rfl;have z3:=HO7.box_cell 0 rfl 3 rfl;have z4:=HO7.box_cell 0 rfl 4 rfl))
     go_ret
     exact ⟨by rw [HV.out];rfl,HO7.below⟩
    case neg =>
     have ea4:((f2.length:Int) > 3)=False:=eq_false (by omega)
     have da4:decide ((f2.length:Int) > 3)=false:=decide_eq_false (by omega)
     by_cases b1:f3.length > 4
     case pos =>
      have eb1:((f3.length:Int) > 4)=True:=eq_true (by omega)
      have db1:decide ((f3.length:Int) > 4)=true:=decide_eq_true (by omega)
      have HV:Aside0 (ruleP ⟨f0,f1,f2,f3,f4⟩ k L G=31):=⟨by unfold ruleP;dsimp only;rw [if_neg (by omega),if_pos (by omega)]⟩
      clear a1 a2 a3 a4 b1
      go_wp2_with (first
       | ((with_reducible refine gate_dst (N:=4) rfl ?_);refine ev_box (N:=4) (cs:=#[.slice A0 f0.length c0,.slice A1 f1.length c1,.slice A2 f2.length c2,.slice A3 f3.length c3,.slice A4 f4.length c4]) (t:=49) HO rfl rfl zhr ?_;intro g4 W4 HO4 hb4;clear HO hb4;have z0:=HO4.box_cell 0 rfl 0 rfl;have z1:=HO4.box_cell 0 rfl 1 rfl;have z2:=HO4.box_cell 0 rfl 2 rfl;have z3:=HO4.box_cell 0 rfl 3 rfl;have z4:=HO4.box_cell 0 rfl 4 rfl)
       | ((with_reducible refine gate_dst (N:=5) rfl ?_);refine ev_box (N:=5) (cs:=#[.int .i64 k]) (t:=3) HO4 rfl rfl zhr ?_;intro g5 W5 HO5 hb5;clear HO4 hb5;clear z0 z1 z2 z3 z4;have z0:=HO5.box_cell 0 rfl 0 rfl;have z1:=HO5.box_cell 0 rfl 1 rfl;have z2:=HO5.box_cell 0 rfl 2 rfl;have z3:=HO5.box_cell 0 rfl 3 rfl;have z4:=HO5.box_cell 0 rfl 4 rfl)
       | ((with_reducible refine gate_dst (N:=6) rfl ?_);refine ev_box (N:=6) (cs:=#[.int .i64 L]) (t:=3) HO5 rfl rfl zhr ?_;intro g6 W6 HO6 hb6;clear HO5 hb6;clear z0 z1 z2 z3 z4;have z0:=HO6.box_cell 0 rfl 0 rfl;have z1:=HO6.box_cell 0 rfl 1 rfl;have z2:=HO6.box_cell 0 rfl 2 rfl;have z3:=HO6.box_cell 0 rfl 3 rfl;have z4:=HO6.box_cell 0 rfl 4 rfl)
       | ((with_reducible refine gate_dst (N:=7) rfl ?_);refine ev_box (N:=7) (cs:=#[.int .i64 G]) (t:=3) HO6 rfl rfl zhr ?_;intro g7 W7 HO7 hb7;clear HO6 hb7;clear z0 z1 z2 z3 z4;have z0:=HO7.box_cell 0 rfl 0 rfl;have z1:=HO7.box_cell 0 rfl 1 rfl;have z2:=HO7.box_cell 0 rfl 2 rfl;have z3:=HO7.box_cell 0 rfl 3 rfl;have z4:=HO7.box_cell 0 rfl 4 rfl))
      go_ret
      exact ⟨by rw [HV.out];rfl,HO7.below⟩
     case neg =>
      have eb1:((f3.length:Int) > 4)=False:=eq_false (by omega)
      have db1:decide ((f3.length:Int) > 4)=false:=decide_eq_false (by omega)
      by_cases b2:f4.length > 3
      case pos =>
       have eb2:((f4.length:Int) > 3)=True:=eq_true (by omega)
       have db2:decide ((f4.length:Int) > 3)=true:=decide_eq_true (by omega)
       have HV:Aside0 (ruleP ⟨f0,f1,f2,f3,f4⟩ k L G=31):=⟨by unfold ruleP;dsimp only;rw [if_neg (by omega),if_pos (by omega)]⟩
       clear a1 a2 a3 a4 b1 b2
       go_wp2_with (first
        | ((with_reducible refine gate_dst (N:=4) rfl ?_);refine ev_box (N:=4) (cs:=#[.slice A0 f0.length c0,.slice A1 f1.length c1,.slice A2 f2.length c2,.slice A3 f3.length c3,.slice A4 f4.length c4]) (t:=49) HO rfl rfl zhr ?_;intro g4 W4 HO4 hb4;clear HO hb4;have z0:=HO4.box_cell 0 rfl 0 rfl;have z1:=HO4.box_cell 0 rfl 1 rfl;have z2:=HO4.box_cell 0 rfl 2 rfl;have z3:=HO4.box_cell 0 rfl 3 rfl;have z4:=HO4.box_cell 0 rfl 4 rfl)
        | ((with_reducible refine gate_dst (N:=5) rfl ?_);refine ev_box (N:=5) (cs:=#[.int .i64 k]) (t:=3) HO4 rfl rfl zhr ?_;intro g5 W5 HO5 hb5;clear HO4 hb5;clear z0 z1 z2 z3 z4;have z0:=HO5.box_cell 0 rfl 0 rfl;have z1:=HO5.box_cell 0 rfl 1 rfl;have z2:=HO5.box_cell 0 rfl 2 rfl;have z3:=HO5.box_cell 0 rfl 3 rfl;have z4:=HO5.box_cell 0 rfl 4 rfl)
        | ((with_reducible refine gate_dst (N:=6) rfl ?_);refine ev_box (N:=6) (cs:=#[.int .i64 L]) (t:=3) HO5 rfl rfl zhr ?_;intro g6 W6 HO6 hb6;clear HO5 hb6;clear z0 z1 z2 z3 z4;have z0:=HO6.box_cell 0 rfl 0 rfl;have z1:=HO6.box_cell 0 rfl 1 rfl;have z2:=HO6.box_cell 0 rfl 2 rfl;have z3:=HO6.box_cell 0 rfl 3 rfl;have z4:=HO6.box_cell 0 rfl 4 rfl)
        | ((with_reducible refine gate_dst (N:=7) rfl ?_);refine ev_box (N:=7) (cs:=#[.int .i64 G]) (t:=3) HO6 rfl rfl zhr ?_;intro g7 W7 HO7 hb7;clear HO6 hb7;clear z0 z1 z2 z3 z4;have z0:=HO7.box_cell 0 rfl 0 rfl;have z1:=HO7.box_cell 0 rfl 1 rfl;have z2:=HO7.box_cell 0 rfl 2 rfl;have z3:=HO7.box_cell 0 rfl 3 rfl;have z4:=HO7.box_cell 0 rfl 4 rfl))
       go_ret
       exact ⟨by rw [HV.out];rfl,HO7.below⟩
      case neg =>
       have eb2:((f4.length:Int) > 3)=False:=eq_false (by omega)
       have db2:decide ((f4.length:Int) > 3)=false:=decide_eq_false (by omega)
       by_cases b3:f3.length > 0
       case pos =>
        have eb3:((f3.length:Int) > 0)=True:=eq_true (by omega)
        have db3:decide ((f3.length:Int) > 0)=true:=decide_eq_true (by omega)
        have pb3:(0<f3.length)=True:=eq_true (by omega)
        have qb3:decide (0<f3.length)=true:=decide_eq_true (by omega)
        have nb3:(f3=[])=False:=eq_false (by intro h;rw [h] at b3;exact absurd b3 (Nat.lt_irrefl _))
        by_cases b4:f4.length > 0
        case pos =>
         have eb4:((f4.length:Int) > 0)=True:=eq_true (by omega)
         have db4:decide ((f4.length:Int) > 0)=true:=decide_eq_true (by omega)
         have pb4:(0<f4.length)=True:=eq_true (by omega)
         have qb4:decide (0<f4.length)=true:=decide_eq_true (by omega)
         have nb4:(f4=[])=False:=eq_false (by intro h;rw [h] at b4;exact absurd b4 (Nat.lt_irrefl _))
         have HV:Aside0 (ruleP ⟨f0,f1,f2,f3,f4⟩ k L G=31):=⟨by unfold ruleP;dsimp only;rw [if_neg (by omega),if_pos (by omega)]⟩
         clear a1 a2 a3 a4 b1 b2 b3 b4
         go_wp2_with (first
          | ((with_reducible refine gate_dst (N:=4) rfl ?_);refine ev_box (N:=4) (cs:=#[.slice A0 f0.length c0,.slice A1 f1.length c1,.slice A2 f2.length c2,.slice A3 f3.length c3,.slice A4 f4.length c4]) (t:=49) HO rfl rfl zhr ?_;intro g4 W4 HO4 hb4;clear HO hb4;have z0:=HO4.box_cell 0 rfl 0 rfl;have z1:=HO4.box_cell 0 rfl 1 rfl;have z2:=HO4.box_cell 0 rfl 2 rfl;have z3:=HO4.box_cell 0 rfl 3 rfl;have z4:=HO4.box_cell 0 rfl 4 rfl)
          | ((with_reducible refine gate_dst (N:=5) rfl ?_);refine ev_box (N:=5) (cs:=#[.int .i64 k]) (t:=3) HO4 rfl rfl zhr ?_;intro g5 W5 HO5 hb5;clear HO4 hb5;clear z0 z1 z2 z3 z4;have z0:=HO5.box_cell 0 rfl 0 rfl;have z1:=HO5.box_cell 0 rfl 1 rfl;have z2:=HO5.box_cell 0 rfl 2 rfl;have z3:=HO5.box_cell 0 rfl 3 rfl;have z4:=HO5.box_cell 0 rfl 4 rfl)
          | ((with_reducible refine gate_dst (N:=6) rfl ?_);refine ev_box (N:=6) (cs:=#[.int .i64 L]) (t:=3) HO5 rfl rfl zhr ?_;intro g6 W6 HO6 hb6;clear HO5 hb6;clear z0 z1 z2 z3 z4;have z0:=HO6.box_cell 0 rfl 0 rfl;have z1:=HO6.box_cell 0 rfl 1 rfl;have z2:=HO6.box_cell 0 rfl 2 rfl;have z3:=HO6.box_cell 0 rfl 3 rfl;have z4:=HO6.box_cell 0 rfl 4 rfl)
          | ((with_reducible refine gate_dst (N:=7) rfl ?_);refine ev_box (N:=7) (cs:=#[.int .i64 G]) (t:=3) HO6 rfl rfl zhr ?_;intro g7 W7 HO7 hb7;clear HO6 hb7;clear z0 z1 z2 z3 z4;have z0:=HO7.box_cell 0 rfl 0 rfl;have z1:=HO7.box_cell 0 rfl 1 rfl;have z2:=HO7.box_cell 0 rfl 2 rfl;have z3:=HO7.box_cell 0 rfl 3 rfl;have z4:=HO7.box_cell 0 rfl 4 rfl))
         go_ret
         exact ⟨by rw [HV.out];rfl,HO7.below⟩
        case neg =>
         have eb4:((f4.length:Int) > 0)=False:=eq_false (by omega)
         have db4:decide ((f4.length:Int) > 0)=false:=decide_eq_false (by omega)
         have pb4:(0<f4.length)=False:=eq_false (by omega)
         have qb4:decide (0<f4.length)=false:=decide_eq_false (by omega)
         have nb4:(f4=[])=True:=eq_true (List.eq_nil_of_length_eq_zero (by omega))
         have HN0:=Aside0.mk (show f0.length≤3 by omega)
         have HN1:=Aside0.mk (show f1.length≤4 by omega)
         have HN2:=Aside0.mk (show f2.length≤3 by omega)
         have k1:=Aside0.mk (show ¬ (f1.length=0∨f1.length > 4∨f0.length > 3∨f2.length > 3) by omega)
         have k2:=Aside0.mk (show ¬ (f3.length > 4∨f4.length > 3∨(f3.length > 0∧f4.length > 0)) by omega)
         obtain ⟨fl,hfl⟩:∃ fl,f1++f0++f2=fl:=⟨_,rfl⟩
         have HFL:=Aside0.mk hfl
         cases hw:fl.any wrongP
         case true =>
          have HW:=Aside0.mk hw
          have HV:Aside0 (ruleP ⟨f0,f1,f2,f3,f4⟩ k L G=31):=⟨by unfold ruleP;dsimp only;rw [if_neg k1.out,if_neg k2.out,hfl,if_pos hw]⟩
          clear a1 a2 a3 a4 b1 b2 b3 b4 hfl hw
          go_wp2_with (first
           | ((with_reducible refine gate_dst (N:=4) rfl ?_);refine ev_box (N:=4) (cs:=#[.slice A0 f0.length c0,.slice A1 f1.length c1,.slice A2 f2.length c2,.slice A3 f3.length c3,.slice A4 f4.length c4]) (t:=49) HO rfl rfl zhr ?_;intro g4 W4 HO4 hb4;clear HO hb4;have z0:=HO4.box_cell 0 rfl 0 rfl;have z1:=HO4.box_cell 0 rfl 1 rfl;have z2:=HO4.box_cell 0 rfl 2 rfl;have z3:=HO4.box_cell 0 rfl 3 rfl;have z4:=HO4.box_cell 0 rfl 4 rfl)
           | ((with_reducible refine gate_dst (N:=5) rfl ?_);refine ev_box (N:=5) (cs:=#[.int .i64 k]) (t:=3) HO4 rfl rfl zhr ?_;intro g5 W5 HO5 hb5;clear HO4 hb5;clear z0 z1 z2 z3 z4;have z0:=HO5.box_cell 0 rfl 0 rfl;have z1:=HO5.box_cell 0 rfl 1 rfl;have z2:=HO5.box_cell 0 rfl 2 rfl;have z3:=HO5.box_cell 0 rfl 3 rfl;have z4:=HO5.box_cell 0 rfl 4 rfl)
           | ((with_reducible refine gate_dst (N:=6) rfl ?_);refine ev_box (N:=6) (cs:=#[.int .i64 L]) (t:=3) HO5 rfl rfl zhr ?_;intro g6 W6 HO6 hb6;clear HO5 hb6;clear z0 z1 z2 z3 z4;have z0:=HO6.box_cell 0 rfl 0 rfl;have z1:=HO6.box_cell 0 rfl 1 rfl;have z2:=HO6.box_cell 0 rfl 2 rfl;have z3:=HO6.box_cell 0 rfl 3 rfl;have z4:=HO6.box_cell 0 rfl 4 rfl)
           | ((with_reducible refine gate_dst (N:=7) rfl ?_);refine ev_box (N:=7) (cs:=#[.int .i64 G]) (t:=3) HO6 rfl rfl zhr ?_;intro g7 W7 HO7 hb7;clear HO6 hb7;clear z0 z1 z2 z3 z4;have z0:=HO7.box_cell 0 rfl 0 rfl;have z1:=HO7.box_cell 0 rfl 1 rfl;have z2:=HO7.box_cell 0 rfl 2 rfl;have z3:=HO7.box_cell 0 rfl 3 rfl;have z4:=HO7.box_cell 0 rfl 4 rfl)
           | (go_at_call 49;(refine (context_calls f0 f1 f2 A0 A1 A2 c0 c1 c2 _ _ rfl rfl _ (HO7.old H0.out) (HO7.old H1.out) (HO7.old H2.out) D0.out D1.out D2.out za81 za82 za83).mono ?_;rintro e W8 ⟨Ac,cc,rfl,hCc,hb⟩;rw [HFL.out] at hCc ⊢;have HO8:=HO7.grow hb;clear HO7 hb;clear z0 z1 z2 z3 z4;have z0:=HO8.box_cell 0 rfl 0 rfl;have z1:=HO8.box_cell 0 rfl 1 rfl;have z2:=HO8.box_cell 0 rfl 2 rfl;have z3:=HO8.box_cell 0 rfl 3 rfl;have z4:=HO8.box_cell 0 rfl 4 rfl))
           | (go_at_call 48;refine (conL wrongP 50 #[] (enters_ (P:=Try.prog) Try.func50 (by kernel_rfl) rfl) Ac cc fl _ hCc (fun x hx A' c' W hb hc hC=>(rules_wrongSet.calls _ A' c' x _ W hC hc (Ev.rounds (wrong_ev x (Kd.C_max hC))).choose_spec).mono (fun e w' h=>⟨h.1,h.2.below⟩))).mono ?_;rintro e W9 ⟨rfl,hb⟩;rw [HW.out];have HO9:=HO8.grow hb;clear HO8 hb hCc;clear z0 z1 z2 z3 z4;have z0:=HO9.box_cell 0 rfl 0 rfl;have z1:=HO9.box_cell 0 rfl 1 rfl;have z2:=HO9.box_cell 0 rfl 2 rfl;have z3:=HO9.box_cell 0 rfl 3 rfl;have z4:=HO9.box_cell 0 rfl 4 rfl))
          go_ret
          exact ⟨by rw [HV.out];rfl,HO9.below⟩
         case false =>
          have HW:=Aside0.mk hw
          cases hu:fl.any (fun l=>l.any (unkP G))
          case true =>
           have HU:=Aside0.mk hu
           have HV:Aside0 (ruleP ⟨f0,f1,f2,f3,f4⟩ k L G=30):=⟨by unfold ruleP;dsimp only;rw [if_neg k1.out,if_neg k2.out,hfl,if_neg (by rw [hw];decide),if_pos (.inl hu)]⟩
           clear a1 a2 a3 a4 b1 b2 b3 b4 hfl hw hu
           go_wp2_with (first
            | ((with_reducible refine gate_dst (N:=4) rfl ?_);refine ev_box (N:=4) (cs:=#[.slice A0 f0.length c0,.slice A1 f1.length c1,.slice A2 f2.length c2,.slice A3 f3.length c3,.slice A4 f4.length c4]) (t:=49) HO rfl rfl zhr ?_;intro g4 W4 HO4 hb4;clear HO hb4;have z0:=HO4.box_cell 0 rfl 0 rfl;have z1:=HO4.box_cell 0 rfl 1 rfl;have z2:=HO4.box_cell 0 rfl 2 rfl;have z3:=HO4.box_cell 0 rfl 3 rfl;have z4:=HO4.box_cell 0 rfl 4 rfl)
            | ((with_reducible refine gate_dst (N:=5) rfl ?_);refine ev_box (N:=5) (cs:=#[.int .i64 k]) (t:=3) HO4 rfl rfl zhr ?_;intro g5 W5 HO5 hb5;clear HO4 hb5;clear z0 z1 z2 z3 z4;have z0:=HO5.box_cell 0 rfl 0 rfl;have z1:=HO5.box_cell 0 rfl 1 rfl;have z2:=HO5.box_cell 0 rfl 2 rfl;have z3:=HO5.box_cell 0 rfl 3 rfl;have z4:=HO5.box_cell 0 rfl 4 rfl)
            | ((with_reducible refine gate_dst (N:=6) rfl ?_);refine ev_box (N:=6) (cs:=#[.int .i64 L]) (t:=3) HO5 rfl rfl zhr ?_;intro g6 W6 HO6 hb6;clear HO5 hb6;clear z0 z1 z2 z3 z4;have z0:=HO6.box_cell 0 rfl 0 rfl;have z1:=HO6.box_cell 0 rfl 1 rfl;have z2:=HO6.box_cell 0 rfl 2 rfl;have z3:=HO6.box_cell 0 rfl 3 rfl;have z4:=HO6.box_cell 0 rfl 4 rfl)
            | ((with_reducible refine gate_dst (N:=7) rfl ?_);refine ev_box (N:=7) (cs:=#[.int .i64 G]) (t:=3) HO6 rfl rfl zhr ?_;intro g7 W7 HO7 hb7;clear HO6 hb7;clear z0 z1 z2 z3 z4;have z0:=HO7.box_cell 0 rfl 0 rfl;have z1:=HO7.box_cell 0 rfl 1 rfl;have z2:=HO7.box_cell 0 rfl 2 rfl;have z3:=HO7.box_cell 0 rfl 3 rfl;have z4:=HO7.box_cell 0 rfl 4 rfl)
            | (go_at_call 49;(refine (context_calls f0 f1 f2 A0 A1 A2 c0 c1 c2 _ _ rfl rfl _ (HO7.old H0.out) (HO7.old H1.out) (HO7.old H2.out) D0.out D1.out D2.out za81 za82 za83).mono ?_;rintro e W8 ⟨Ac,cc,rfl,hCc,hb⟩;rw [HFL.out] at hCc ⊢;have HO8:=HO7.grow hb;clear HO7 hb;clear z0 z1 z2 z3 z4;have z0:=HO8.box_cell 0 rfl 0 rfl;have z1:=HO8.box_cell 0 rfl 1 rfl;have z2:=HO8.box_cell 0 rfl 2 rfl;have z3:=HO8.box_cell 0 rfl 3 rfl;have z4:=HO8.box_cell 0 rfl 4 rfl))
            | (go_at_call 48;refine (conL wrongP 50 #[] (enters_ (P:=Try.prog) Try.func50 (by kernel_rfl) rfl) Ac cc fl _ hCc (fun x hx A' c' W hb hc hC=>(rules_wrongSet.calls _ A' c' x _ W hC hc (Ev.rounds (wrong_ev x (Kd.C_max hC))).choose_spec).mono (fun e w' h=>⟨h.1,h.2.below⟩))).mono ?_;rintro e W9 ⟨rfl,hb⟩;rw [HW.out];have HO9:=HO8.grow hb;clear HO8 hb hCc;clear z0 z1 z2 z3 z4;have z0:=HO9.box_cell 0 rfl 0 rfl;have z1:=HO9.box_cell 0 rfl 1 rfl;have z2:=HO9.box_cell 0 rfl 2 rfl;have z3:=HO9.box_cell 0 rfl 3 rfl;have z4:=HO9.box_cell 0 rfl 4 rfl)
            | (go_at_call 49;(refine (context_calls f0 f1 f2 A0 A1 A2 c0 c1 c2 _ _ rfl rfl _ (HO9.old H0.out) (HO9.old H1.out) (HO9.old H2.out) D0.out D1.out D2.out za81 za82 za83).mono ?_;rintro e W10 ⟨Ac,cc,rfl,hCc,hb⟩;rw [HFL.out] at hCc ⊢;have HO10:=HO9.grow hb;clear HO9 hb;clear z0 z1 z2 z3 z4;have z0:=HO10.box_cell 0 rfl 0 rfl;have z1:=HO10.box_cell 0 rfl 1 rfl;have z2:=HO10.box_cell 0 rfl 2 rfl;have z3:=HO10.box_cell 0 rfl 3 rfl;have z4:=HO10.box_cell 0 rfl 4 rfl))
            | (go_at_call 48;refine (conL (fun l=>l.any (unkP G)) 44 #[.pointer (some ⟨g7,0,none⟩)] (enters_ (P:=Try.prog) Try.func44 (by kernel_rfl) rfl) Ac cc fl _ hCc (fun x hx A' c' W hb hc hC=>unknown_calls G g7 A' c' x W hC (box_below (HO10.box_at 3 rfl).1 hb))).mono ?_;rintro e W11 ⟨rfl,hb⟩;rw [HU.out];have HO11:=HO10.grow hb;clear HO10 hb hCc;clear z0 z1 z2 z3 z4;have z0:=HO11.box_cell 0 rfl 0 rfl;have z1:=HO11.box_cell 0 rfl 1 rfl;have z2:=HO11.box_cell 0 rfl 2 rfl;have z3:=HO11.box_cell 0 rfl 3 rfl;have z4:=HO11.box_cell 0 rfl 4 rfl))
           go_ret
           exact ⟨by rw [HV.out];rfl,HO11.below⟩
          case false =>
           have HU:=Aside0.mk hu
           cases hv:f3.any (unkP G)
           case true =>
            have HV3:=Aside0.mk hv
            have HV:Aside0 (ruleP ⟨f0,f1,f2,f3,f4⟩ k L G=30):=⟨by unfold ruleP;dsimp only;rw [if_neg k1.out,if_neg k2.out,hfl,if_neg (by rw [hw];decide),if_pos (.inr hv)]⟩
            clear a1 a2 a3 a4 b1 b2 b3 b4 hfl hw hu hv
            go_wp2_with (first
             | ((with_reducible refine gate_dst (N:=4) rfl ?_);refine ev_box (N:=4) (cs:=#[.slice A0 f0.length c0,.slice A1 f1.length c1,.slice A2 f2.length c2,.slice A3 f3.length c3,.slice A4 f4.length c4]) (t:=49) HO rfl rfl zhr ?_;intro g4 W4 HO4 hb4;clear HO hb4;have z0:=HO4.box_cell 0 rfl 0 rfl;have z1:=HO4.box_cell 0 rfl 1 rfl;have z2:=HO4.box_cell 0 rfl 2 rfl;have z3:=HO4.box_cell 0 rfl 3 rfl;have z4:=HO4.box_cell 0 rfl 4 rfl)
             | ((with_reducible refine gate_dst (N:=5) rfl ?_);refine ev_box (N:=5) (cs:=#[.int .i64 k]) (t:=3) HO4 rfl rfl zhr ?_;intro g5 W5 HO5 hb5;clear HO4 hb5;clear z0 z1 z2 z3 z4;have z0:=HO5.box_cell 0 rfl 0 rfl;have z1:=HO5.box_cell 0 rfl 1 rfl;have z2:=HO5.box_cell 0 rfl 2 rfl;have z3:=HO5.box_cell 0 rfl 3 rfl;have z4:=HO5.box_cell 0 rfl 4 rfl)
             | ((with_reducible refine gate_dst (N:=6) rfl ?_);refine ev_box (N:=6) (cs:=#[.int .i64 L]) (t:=3) HO5 rfl rfl zhr ?_;intro g6 W6 HO6 hb6;clear HO5 hb6;clear z0 z1 z2 z3 z4;have z0:=HO6.box_cell 0 rfl 0 rfl;have z1:=HO6.box_cell 0 rfl 1 rfl;have z2:=HO6.box_cell 0 rfl 2 rfl;have z3:=HO6.box_cell 0 rfl 3 rfl;have z4:=HO6.box_cell 0 rfl 4 rfl)
             | ((with_reducible refine gate_dst (N:=7) rfl ?_);refine ev_box (N:=7) (cs:=#[.int .i64 G]) (t:=3) HO6 rfl rfl zhr ?_;intro g7 W7 HO7 hb7;clear HO6 hb7;clear z0 z1 z2 z3 z4;have z0:=HO7.box_cell 0 rfl 0 rfl;have z1:=HO7.box_cell 0 rfl 1 rfl;have z2:=HO7.box_cell 0 rfl 2 rfl;have z3:=HO7.box_cell 0 rfl 3 rfl;have z4:=HO7.box_cell 0 rfl 4 rfl)
             | (go_at_call 49;(refine (context_calls f0 f1 f2 A0 A1 A2 c0 c1 c2 _ _ rfl rfl _ (HO7.old H0.out) (HO7.old H1.out) (HO7.old H2.out) D0.out D1.out D2.out za81 za82 za83).mono ?_;rintro e W8 ⟨Ac,cc,rfl,hCc,hb⟩;rw [HFL.out] at hCc ⊢;have HO8:=HO7.grow hb;clear HO7 hb;clear z0 z1 z2 z3 z4;have z0:=HO8.box_cell 0 rfl 0 rfl;have z1:=HO8.box_cell 0 rfl 1 rfl;have z2:=HO8.box_cell 0 rfl 2 rfl;have z3:=HO8.box_cell 0 rfl 3 rfl;have z4:=HO8.box_cell 0 rfl 4 rfl))
             | (go_at_call 48;refine (conL wrongP 50 #[] (enters_ (P:=Try.prog) Try.func50 (by kernel_rfl) rfl) Ac cc fl _ hCc (fun x hx A' c' W hb hc hC=>(rules_wrongSet.calls _ A' c' x _ W hC hc (Ev.rounds (wrong_ev x (Kd.C_max hC))).choose_spec).mono (fun e w' h=>⟨h.1,h.2.below⟩))).mono ?_;rintro e W9 ⟨rfl,hb⟩;rw [HW.out];have HO9:=HO8.grow hb;clear HO8 hb hCc;clear z0 z1 z2 z3 z4;have z0:=HO9.box_cell 0 rfl 0 rfl;have z1:=HO9.box_cell 0 rfl 1 rfl;have z2:=HO9.box_cell 0 rfl 2 rfl;have z3:=HO9.box_cell 0 rfl 3 rfl;have z4:=HO9.box_cell 0 rfl 4 rfl)
             | (go_at_call 49;(refine (context_calls f0 f1 f2 A0 A1 A2 c0 c1 c2 _ _ rfl rfl _ (HO9.old H0.out) (HO9.old H1.out) (HO9.old H2.out) D0.out D1.out D2.out za81 za82 za83).mono ?_;rintro e W10 ⟨Ac,cc,rfl,hCc,hb⟩;rw [HFL.out] at hCc ⊢;have HO10:=HO9.grow hb;clear HO9 hb;clear z0 z1 z2 z3 z4;have z0:=HO10.box_cell 0 rfl 0 rfl;have z1:=HO10.box_cell 0 rfl 1 rfl;have z2:=HO10.box_cell 0 rfl 2 rfl;have z3:=HO10.box_cell 0 rfl 3 rfl;have z4:=HO10.box_cell 0 rfl 4 rfl))
             | (go_at_call 48;refine (conL (fun l=>l.any (unkP G)) 44 #[.pointer (some ⟨g7,0,none⟩)] (enters_ (P:=Try.prog) Try.func44 (by kernel_rfl) rfl) Ac cc fl _ hCc (fun x hx A' c' W hb hc hC=>unknown_calls G g7 A' c' x W hC (box_below (HO10.box_at 3 rfl).1 hb))).mono ?_;rintro e W11 ⟨rfl,hb⟩;rw [HU.out];have HO11:=HO10.grow hb;clear HO10 hb hCc;clear z0 z1 z2 z3 z4;have z0:=HO11.box_cell 0 rfl 0 rfl;have z1:=HO11.box_cell 0 rfl 1 rfl;have z2:=HO11.box_cell 0 rfl 2 rfl;have z3:=HO11.box_cell 0 rfl 3 rfl;have z4:=HO11.box_cell 0 rfl 4 rfl)
             | (go_at_call 44;refine (unknown_calls G g7 A3 c3 f3 _ (HO11.old H3.out) (HO11.box_at 3 rfl).1).mono ?_;rintro e W12 ⟨rfl,hb⟩;rw [HV3.out];have HO12:=HO11.grow hb;clear HO11 hb;clear z0 z1 z2 z3 z4;have z0:=HO12.box_cell 0 rfl 0 rfl;have z1:=HO12.box_cell 0 rfl 1 rfl;have z2:=HO12.box_cell 0 rfl 2 rfl;have z3:=HO12.box_cell 0 rfl 3 rfl;have z4:=HO12.box_cell 0 rfl 4 rfl))
            go_ret
            exact ⟨by rw [HV.out];rfl,HO12.below⟩
           case false =>
            have HV3:=Aside0.mk hv
            cases h5:f4.any (callP f1.length k L)
            case true =>
             have HC5:=Aside0.mk h5
             have HV:Aside0 (ruleP ⟨f0,f1,f2,f3,f4⟩ k L G=32):=⟨by unfold ruleP;dsimp only;rw [if_neg k1.out,if_neg k2.out,hfl,if_neg (by rw [hw];decide),if_neg (by rw [hu,hv];decide),if_pos h5]⟩
             clear a1 a2 a3 a4 b1 b2 b3 b4 hfl hw hu hv h5
             go_wp2_with (first
              | ((with_reducible refine gate_dst (N:=4) rfl ?_);refine ev_box (N:=4) (cs:=#[.slice A0 f0.length c0,.slice A1 f1.length c1,.slice A2 f2.length c2,.slice A3 f3.length c3,.slice A4 f4.length c4]) (t:=49) HO rfl rfl zhr ?_;intro g4 W4 HO4 hb4;clear HO hb4;have z0:=HO4.box_cell 0 rfl 0 rfl;have z1:=HO4.box_cell 0 rfl 1 rfl;have z2:=HO4.box_cell 0 rfl 2 rfl;have z3:=HO4.box_cell 0 rfl 3 rfl;have z4:=HO4.box_cell 0 rfl 4 rfl)
              | ((with_reducible refine gate_dst (N:=5) rfl ?_);refine ev_box (N:=5) (cs:=#[.int .i64 k]) (t:=3) HO4 rfl rfl zhr ?_;intro g5 W5 HO5 hb5;clear HO4 hb5;clear z0 z1 z2 z3 z4;have z0:=HO5.box_cell 0 rfl 0 rfl;have z1:=HO5.box_cell 0 rfl 1 rfl;have z2:=HO5.box_cell 0 rfl 2 rfl;have z3:=HO5.box_cell 0 rfl 3 rfl;have z4:=HO5.box_cell 0 rfl 4 rfl)
              | ((with_reducible refine gate_dst (N:=6) rfl ?_);refine ev_box (N:=6) (cs:=#[.int .i64 L]) (t:=3) HO5 rfl rfl zhr ?_;intro g6 W6 HO6 hb6;clear HO5 hb6;clear z0 z1 z2 z3 z4;have z0:=HO6.box_cell 0 rfl 0 rfl;have z1:=HO6.box_cell 0 rfl 1 rfl;have z2:=HO6.box_cell 0 rfl 2 rfl;have z3:=HO6.box_cell 0 rfl 3 rfl;have z4:=HO6.box_cell 0 rfl 4 rfl)
              | ((with_reducible refine gate_dst (N:=7) rfl ?_);refine ev_box (N:=7) (cs:=#[.int .i64 G]) (t:=3) HO6 rfl rfl zhr ?_;intro g7 W7 HO7 hb7;clear HO6 hb7;clear z0 z1 z2 z3 z4;have z0:=HO7.box_cell 0 rfl 0 rfl;have z1:=HO7.box_cell 0 rfl 1 rfl;have z2:=HO7.box_cell 0 rfl 2 rfl;have z3:=HO7.box_cell 0 rfl 3 rfl;have z4:=HO7.box_cell 0 rfl 4 rfl)
              | (go_at_call 49;(refine (context_calls f0 f1 f2 A0 A1 A2 c0 c1 c2 _ _ rfl rfl _ (HO7.old H0.out) (HO7.old H1.out) (HO7.old H2.out) D0.out D1.out D2.out za81 za82 za83).mono ?_;rintro e W8 ⟨Ac,cc,rfl,hCc,hb⟩;rw [HFL.out] at hCc ⊢;have HO8:=HO7.grow hb;clear HO7 hb;clear z0 z1 z2 z3 z4;have z0:=HO8.box_cell 0 rfl 0 rfl;have z1:=HO8.box_cell 0 rfl 1 rfl;have z2:=HO8.box_cell 0 rfl 2 rfl;have z3:=HO8.box_cell 0 rfl 3 rfl;have z4:=HO8.box_cell 0 rfl 4 rfl))
              | (go_at_call 48;refine (conL wrongP 50 #[] (enters_ (P:=Try.prog) Try.func50 (by kernel_rfl) rfl) Ac cc fl _ hCc (fun x hx A' c' W hb hc hC=>(rules_wrongSet.calls _ A' c' x _ W hC hc (Ev.rounds (wrong_ev x (Kd.C_max hC))).choose_spec).mono (fun e w' h=>⟨h.1,h.2.below⟩))).mono ?_;rintro e W9 ⟨rfl,hb⟩;rw [HW.out];have HO9:=HO8.grow hb;clear HO8 hb hCc;clear z0 z1 z2 z3 z4;have z0:=HO9.box_cell 0 rfl 0 rfl;have z1:=HO9.box_cell 0 rfl 1 rfl;have z2:=HO9.box_cell 0 rfl 2 rfl;have z3:=HO9.box_cell 0 rfl 3 rfl;have z4:=HO9.box_cell 0 rfl 4 rfl)
              | (go_at_call 49;(refine (context_calls f0 f1 f2 A0 A1 A2 c0 c1 c2 _ _ rfl rfl _ (HO9.old H0.out) (HO9.old H1.out) (HO9.old H2.out) D0.out D1.out D2.out za81 za82 za83).mono ?_;rintro e W10 ⟨Ac,cc,rfl,hCc,hb⟩;rw [HFL.out] at hCc ⊢;have HO10:=HO9.grow hb;clear HO9 hb;clear z0 z1 z2 z3 z4;have z0:=HO10.box_cell 0 rfl 0 rfl;have z1:=HO10.box_cell 0 rfl 1 rfl;have z2:=HO10.box_cell 0 rfl 2 rfl;have z3:=HO10.box_cell 0 rfl 3 rfl;have z4:=HO10.box_cell 0 rfl 4 rfl))
              | (go_at_call 48;refine (conL (fun l=>l.any (unkP G)) 44 #[.pointer (some ⟨g7,0,none⟩)] (enters_ (P:=Try.prog) Try.func44 (by kernel_rfl) rfl) Ac cc fl _ hCc (fun x hx A' c' W hb hc hC=>unknown_calls G g7 A' c' x W hC (box_below (HO10.box_at 3 rfl).1 hb))).mono ?_;rintro e W11 ⟨rfl,hb⟩;rw [HU.out];have HO11:=HO10.grow hb;clear HO10 hb hCc;clear z0 z1 z2 z3 z4;have z0:=HO11.box_cell 0 rfl 0 rfl;have z1:=HO11.box_cell 0 rfl 1 rfl;have z2:=HO11.box_cell 0 rfl 2 rfl;have z3:=HO11.box_cell 0 rfl 3 rfl;have z4:=HO11.box_cell 0 rfl 4 rfl)
              | (go_at_call 44;refine (unknown_calls G g7 A3 c3 f3 _ (HO11.old H3.out) (HO11.box_at 3 rfl).1).mono ?_;rintro e W12 ⟨rfl,hb⟩;rw [HV3.out];have HO12:=HO11.grow hb;clear HO11 hb;clear z0 z1 z2 z3 z4;have z0:=HO12.box_cell 0 rfl 0 rfl;have z1:=HO12.box_cell 0 rfl 1 rfl;have z2:=HO12.box_cell 0 rfl 2 rfl;have z3:=HO12.box_cell 0 rfl 3 rfl;have z4:=HO12.box_cell 0 rfl 4 rfl)
              | (go_at_call 51;refine (conC (callP f1.length k L) 47 #[.pointer (some ⟨g4,0,none⟩),.pointer (some ⟨g5,0,none⟩),.pointer (some ⟨g6,0,none⟩)] (enters_ (P:=Try.prog) Try.func47 (by kernel_rfl) rfl) A4 c4 f4 _ (HO12.old H4.out) (fun x hx W hb=>rules_checkRule_2.calls x.f0 x.f1 A0 c0 f0 A1 c1 f1 A2 c2 f2 A3 c3 f3 A4 c4 f4 k L _ W (Kd.C_below (HO12.old H0.out) hb) D0.out (Kd.C_below (HO12.old H1.out) hb) D1.out (Kd.C_below (HO12.old H2.out) hb) D2.out (Kd.C_below (HO12.old H3.out) hb) D3.out (Kd.C_below (HO12.old H4.out) hb) D4.out (box_below (HO12.box_at 0 rfl).1 hb) (box_below (HO12.box_at 1 rfl).1 hb) (box_below (HO12.box_at 2 rfl).1 hb) (HO12.box_ne 0 1 (by decide) rfl rfl) (HO12.box_ne 0 2 (by decide) rfl rfl) (HO12.box_ne 1 2 (by decide) rfl rfl) (call_f _ k L f0 f1 f2 f3 f4 x rfl))).mono ?_;rintro e W13 ⟨rfl,hb⟩;rw [HC5.out];have HO13:=HO12.grow hb;clear HO12 hb))
             go_ret
             exact ⟨by rw [HV.out];rfl,HO13.below⟩
            case false =>
             have HC5:=Aside0.mk h5
             have HV:Aside0 (ruleP ⟨f0,f1,f2,f3,f4⟩ k L G=0):=⟨by unfold ruleP;dsimp only;rw [if_neg k1.out,if_neg k2.out,hfl,if_neg (by rw [hw];decide),if_neg (by rw [hu,hv];decide),if_neg (by rw [h5];decide)]⟩
             clear a1 a2 a3 a4 b1 b2 b3 b4 hfl hw hu hv h5
             go_wp2_with (first
              | ((with_reducible refine gate_dst (N:=4) rfl ?_);refine ev_box (N:=4) (cs:=#[.slice A0 f0.length c0,.slice A1 f1.length c1,.slice A2 f2.length c2,.slice A3 f3.length c3,.slice A4 f4.length c4]) (t:=49) HO rfl rfl zhr ?_;intro g4 W4 HO4 hb4;clear HO hb4;have z0:=HO4.box_cell 0 rfl 0 rfl;have z1:=HO4.box_cell 0 rfl 1 rfl;have z2:=HO4.box_cell 0 rfl 2 rfl;have z3:=HO4.box_cell 0 rfl 3 rfl;have z4:=HO4.box_cell 0 rfl 4 rfl)
              | ((with_reducible refine gate_dst (N:=5) rfl ?_);refine ev_box (N:=5) (cs:=#[.int .i64 k]) (t:=3) HO4 rfl rfl zhr ?_;intro g5 W5 HO5 hb5;clear HO4 hb5;clear z0 z1 z2 z3 z4;have z0:=HO5.box_cell 0 rfl 0 rfl;have z1:=HO5.box_cell 0 rfl 1 rfl;have z2:=HO5.box_cell 0 rfl 2 rfl;have z3:=HO5.box_cell 0 rfl 3 rfl;have z4:=HO5.box_cell 0 rfl 4 rfl)
              | ((with_reducible refine gate_dst (N:=6) rfl ?_);refine ev_box (N:=6) (cs:=#[.int .i64 L]) (t:=3) HO5 rfl rfl zhr ?_;intro g6 W6 HO6 hb6;clear HO5 hb6;clear z0 z1 z2 z3 z4;have z0:=HO6.box_cell 0 rfl 0 rfl;have z1:=HO6.box_cell 0 rfl 1 rfl;have z2:=HO6.box_cell 0 rfl 2 rfl;have z3:=HO6.box_cell 0 rfl 3 rfl;have z4:=HO6.box_cell 0 rfl 4 rfl)
              | ((with_reducible refine gate_dst (N:=7) rfl ?_);refine ev_box (N:=7) (cs:=#[.int .i64 G]) (t:=3) HO6 rfl rfl zhr ?_;intro g7 W7 HO7 hb7;clear HO6 hb7;clear z0 z1 z2 z3 z4;have z0:=HO7.box_cell 0 rfl 0 rfl;have z1:=HO7.box_cell 0 rfl 1 rfl;have z2:=HO7.box_cell 0 rfl 2 rfl;have z3:=HO7.box_cell 0 rfl 3 rfl;have z4:=HO7.box_cell 0 rfl 4 rfl)
              | (go_at_call 49;(refine (context_calls f0 f1 f2 A0 A1 A2 c0 c1 c2 _ _ rfl rfl _ (HO7.old H0.out) (HO7.old H1.out) (HO7.old H2.out) D0.out D1.out D2.out za81 za82 za83).mono ?_;rintro e W8 ⟨Ac,cc,rfl,hCc,hb⟩;rw [HFL.out] at hCc ⊢;have HO8:=HO7.grow hb;clear HO7 hb;clear z0 z1 z2 z3 z4;have z0:=HO8.box_cell 0 rfl 0 rfl;have z1:=HO8.box_cell 0 rfl 1 rfl;have z2:=HO8.box_cell 0 rfl 2 rfl;have z3:=HO8.box_cell 0 rfl 3 rfl;have z4:=HO8.box_cell 0 rfl 4 rfl))
              | (go_at_call 48;refine (conL wrongP 50 #[] (enters_ (P:=Try.prog) Try.func50 (by kernel_rfl) rfl) Ac cc fl _ hCc (fun x hx A' c' W hb hc hC=>(rules_wrongSet.calls _ A' c' x _ W hC hc (Ev.rounds (wrong_ev x (Kd.C_max hC))).choose_spec).mono (fun e w' h=>⟨h.1,h.2.below⟩))).mono ?_;rintro e W9 ⟨rfl,hb⟩;rw [HW.out];have HO9:=HO8.grow hb;clear HO8 hb hCc;clear z0 z1 z2 z3 z4;have z0:=HO9.box_cell 0 rfl 0 rfl;have z1:=HO9.box_cell 0 rfl 1 rfl;have z2:=HO9.box_cell 0 rfl 2 rfl;have z3:=HO9.box_cell 0 rfl 3 rfl;have z4:=HO9.box_cell 0 rfl 4 rfl)
              | (go_at_call 49;(refine (context_calls f0 f1 f2 A0 A1 A2 c0 c1 c2 _ _ rfl rfl _ (HO9.old H0.out) (HO9.old H1.out) (HO9.old H2.out) D0.out D1.out D2.out za81 za82 za83).mono ?_;rintro e W10 ⟨Ac,cc,rfl,hCc,hb⟩;rw [HFL.out] at hCc ⊢;have HO10:=HO9.grow hb;clear HO9 hb;clear z0 z1 z2 z3 z4;have z0:=HO10.box_cell 0 rfl 0 rfl;have z1:=HO10.box_cell 0 rfl 1 rfl;have z2:=HO10.box_cell 0 rfl 2 rfl;have z3:=HO10.box_cell 0 rfl 3 rfl;have z4:=HO10.box_cell 0 rfl 4 rfl))
              | (go_at_call 48;refine (conL (fun l=>l.any (unkP G)) 44 #[.pointer (some ⟨g7,0,none⟩)] (enters_ (P:=Try.prog) Try.func44 (by kernel_rfl) rfl) Ac cc fl _ hCc (fun x hx A' c' W hb hc hC=>unknown_calls G g7 A' c' x W hC (box_below (HO10.box_at 3 rfl).1 hb))).mono ?_;rintro e W11 ⟨rfl,hb⟩;rw [HU.out];have HO11:=HO10.grow hb;clear HO10 hb hCc;clear z0 z1 z2 z3 z4;have z0:=HO11.box_cell 0 rfl 0 rfl;have z1:=HO11.box_cell 0 rfl 1 rfl;have z2:=HO11.box_cell 0 rfl 2 rfl;have z3:=HO11.box_cell 0 rfl 3 rfl;have z4:=HO11.box_cell 0 rfl 4 rfl)
              | (go_at_call 44;refine (unknown_calls G g7 A3 c3 f3 _ (HO11.old H3.out) (HO11.box_at 3 rfl).1).mono ?_;rintro e W12 ⟨rfl,hb⟩;rw [HV3.out];have HO12:=HO11.grow hb;clear HO11 hb;clear z0 z1 z2 z3 z4;have z0:=HO12.box_cell 0 rfl 0 rfl;have z1:=HO12.box_cell 0 rfl 1 rfl;have z2:=HO12.box_cell 0 rfl 2 rfl;have z3:=HO12.box_cell 0 rfl 3 rfl;have z4:=HO12.box_cell 0 rfl 4 rfl)
              | (go_at_call 51;refine (conC (callP f1.length k L) 47 #[.pointer (some ⟨g4,0,none⟩),.pointer (some ⟨g5,0,none⟩),.pointer (some ⟨g6,0,none⟩)] (enters_ (P:=Try.prog) Try.func47 (by kernel_rfl) rfl) A4 c4 f4 _ (HO12.old H4.out) (fun x hx W hb=>rules_checkRule_2.calls x.f0 x.f1 A0 c0 f0 A1 c1 f1 A2 c2 f2 A3 c3 f3 A4 c4 f4 k L _ W (Kd.C_below (HO12.old H0.out) hb) D0.out (Kd.C_below (HO12.old H1.out) hb) D1.out (Kd.C_below (HO12.old H2.out) hb) D2.out (Kd.C_below (HO12.old H3.out) hb) D3.out (Kd.C_below (HO12.old H4.out) hb) D4.out (box_below (HO12.box_at 0 rfl).1 hb) (box_below (HO12.box_at 1 rfl).1 hb) (box_below (HO12.box_at 2 rfl).1 hb) (HO12.box_ne 0 1 (by decide) rfl rfl) (HO12.box_ne 0 2 (by decide) rfl rfl) (HO12.box_ne 1 2 (by decide) rfl rfl) (call_f _ k L f0 f1 f2 f3 f4 x rfl))).mono ?_;rintro e W13 ⟨rfl,hb⟩;rw [HC5.out];have HO13:=HO12.grow hb;clear HO12 hb))
             go_ret
             exact ⟨by rw [HV.out];rfl,HO13.below⟩
       case neg =>
        have eb3:((f3.length:Int) > 0)=False:=eq_false (by omega)
        have db3:decide ((f3.length:Int) > 0)=false:=decide_eq_false (by omega)
        have pb3:(0<f3.length)=False:=eq_false (by omega)
        have qb3:decide (0<f3.length)=false:=decide_eq_false (by omega)
        have nb3:(f3=[])=True:=eq_true (List.eq_nil_of_length_eq_zero (by omega))
        have HN0:=Aside0.mk (show f0.length≤3 by omega)
        have HN1:=Aside0.mk (show f1.length≤4 by omega)
        have HN2:=Aside0.mk (show f2.length≤3 by omega)
        have k1:=Aside0.mk (show ¬ (f1.length=0∨f1.length > 4∨f0.length > 3∨f2.length > 3) by omega)
        have k2:=Aside0.mk (show ¬ (f3.length > 4∨f4.length > 3∨(f3.length > 0∧f4.length > 0)) by omega)
        obtain ⟨fl,hfl⟩:∃ fl,f1++f0++f2=fl:=⟨_,rfl⟩
        have HFL:=Aside0.mk hfl
        cases hw:fl.any wrongP
        case true =>
         have HW:=Aside0.mk hw
         have HV:Aside0 (ruleP ⟨f0,f1,f2,f3,f4⟩ k L G=31):=⟨by unfold ruleP;dsimp only;rw [if_neg k1.out,if_neg k2.out,hfl,if_pos hw]⟩
         clear a1 a2 a3 a4 b1 b2 b3 hfl hw
         go_wp2_with (first
          | ((with_reducible refine gate_dst (N:=4) rfl ?_);refine ev_box (N:=4) (cs:=#[.slice A0 f0.length c0,.slice A1 f1.length c1,.slice A2 f2.length c2,.slice A3 f3.length c3,.slice A4 f4.length c4]) (t:=49) HO rfl rfl zhr ?_;intro g4 W4 HO4 hb4;clear HO hb4;have z0:=HO4.box_cell 0 rfl 0 rfl;have z1:=HO4.box_cell 0 rfl 1 rfl;have z2:=HO4.box_cell 0 rfl 2 rfl;have z3:=HO4.box_cell 0 rfl 3 rfl;have z4:=HO4.box_cell 0 rfl 4 rfl)
          | ((with_reducible refine gate_dst (N:=5) rfl ?_);refine ev_box (N:=5) (cs:=#[.int .i64 k]) (t:=3) HO4 rfl rfl zhr ?_;intro g5 W5 HO5 hb5;clear HO4 hb5;clear z0 z1 z2 z3 z4;have z0:=HO5.box_cell 0 rfl 0 rfl;have z1:=HO5.box_cell 0 rfl 1 rfl;have z2:=HO5.box_cell 0 rfl 2 rfl;have z3:=HO5.box_cell 0 rfl 3 rfl;have z4:=HO5.box_cell 0 rfl 4 rfl)
          | ((with_reducible refine gate_dst (N:=6) rfl ?_);refine ev_box (N:=6) (cs:=#[.int .i64 L]) (t:=3) HO5 rfl rfl zhr ?_;intro g6 W6 HO6 hb6;clear HO5 hb6;clear z0 z1 z2 z3 z4;have z0:=HO6.box_cell 0 rfl 0 rfl;have z1:=HO6.box_cell 0 rfl 1 rfl;have z2:=HO6.box_cell 0 rfl 2 rfl;have z3:=HO6.box_cell 0 rfl 3 rfl;have z4:=HO6.box_cell 0 rfl 4 rfl)
          | ((with_reducible refine gate_dst (N:=7) rfl ?_);refine ev_box (N:=7) (cs:=#[.int .i64 G]) (t:=3) HO6 rfl rfl zhr ?_;intro g7 W7 HO7 hb7;clear HO6 hb7;clear z0 z1 z2 z3 z4;have z0:=HO7.box_cell 0 rfl 0 rfl;have z1:=HO7.box_cell 0 rfl 1 rfl;have z2:=HO7.box_cell 0 rfl 2 rfl;have z3:=HO7.box_cell 0 rfl 3 rfl;have z4:=HO7.box_cell 0 rfl 4 rfl)
          | (go_at_call 49;(refine (context_calls f0 f1 f2 A0 A1 A2 c0 c1 c2 _ _ rfl rfl _ (HO7.old H0.out) (HO7.old H1.out) (HO7.old H2.out) D0.out D1.out D2.out za81 za82 za83).mono ?_;rintro e W8 ⟨Ac,cc,rfl,hCc,hb⟩;rw [HFL.out] at hCc ⊢;have HO8:=HO7.grow hb;clear HO7 hb;clear z0 z1 z2 z3 z4;have z0:=HO8.box_cell 0 rfl 0 rfl;have z1:=HO8.box_cell 0 rfl 1 rfl;have z2:=HO8.box_cell 0 rfl 2 rfl;have z3:=HO8.box_cell 0 rfl 3 rfl;have z4:=HO8.box_cell 0 rfl 4 rfl))
          | (go_at_call 48;refine (conL wrongP 50 #[] (enters_ (P:=Try.prog) Try.func50 (by kernel_rfl) rfl) Ac cc fl _ hCc (fun x hx A' c' W hb hc hC=>(rules_wrongSet.calls _ A' c' x _ W hC hc (Ev.rounds (wrong_ev x (Kd.C_max hC))).choose_spec).mono (fun e w' h=>⟨h.1,h.2.below⟩))).mono ?_;rintro e W9 ⟨rfl,hb⟩;rw [HW.out];have HO9:=HO8.grow hb;clear HO8 hb hCc;clear z0 z1 z2 z3 z4;have z0:=HO9.box_cell 0 rfl 0 rfl;have z1:=HO9.box_cell 0 rfl 1 rfl;have z2:=HO9.box_cell 0 rfl 2 rfl;have z3:=HO9.box_cell 0 rfl 3 rfl;have z4:=HO9.box_cell 0 rfl 4 rfl))
         go_ret
         exact ⟨by rw [HV.out];rfl,HO9.below⟩
        case false =>
         have HW:=Aside0.mk hw
         cases hu:fl.any (fun l=>l.any (unkP G))
         case true =>
          have HU:=Aside0.mk hu
          have HV:Aside0 (ruleP ⟨f0,f1,f2,f3,f4⟩ k L G=30):=⟨by unfold ruleP;dsimp only;rw [if_neg k1.out,if_neg k2.out,hfl,if_neg (by rw [hw];decide),if_pos (.inl hu)]⟩
          clear a1 a2 a3 a4 b1 b2 b3 hfl hw hu
          go_wp2_with (first
           | ((with_reducible refine gate_dst (N:=4) rfl ?_);refine ev_box (N:=4) (cs:=#[.slice A0 f0.length c0,.slice A1 f1.length c1,.slice A2 f2.length c2,.slice A3 f3.length c3,.slice A4 f4.length c4]) (t:=49) HO rfl rfl zhr ?_;intro g4 W4 HO4 hb4;clear HO hb4;have z0:=HO4.box_cell 0 rfl 0 rfl;have z1:=HO4.box_cell 0 rfl 1 rfl;have z2:=HO4.box_cell 0 rfl 2 rfl;have z3:=HO4.box_cell 0 rfl 3 rfl;have z4:=HO4.box_cell 0 rfl 4 rfl)
           | ((with_reducible refine gate_dst (N:=5) rfl ?_);refine ev_box (N:=5) (cs:=#[.int .i64 k]) (t:=3) HO4 rfl rfl zhr ?_;intro g5 W5 HO5 hb5;clear HO4 hb5;clear z0 z1 z2 z3 z4;have z0:=HO5.box_cell 0 rfl 0 rfl;have z1:=HO5.box_cell 0 rfl 1 rfl;have z2:=HO5.box_cell 0 rfl 2 rfl;have z3:=HO5.box_cell 0 rfl 3 rfl;have z4:=HO5.box_cell 0 rfl 4 rfl)
           | ((with_reducible refine gate_dst (N:=6) rfl ?_);refine ev_box (N:=6) (cs:=#[.int .i64 L]) (t:=3) HO5 rfl rfl zhr ?_;intro g6 W6 HO6 hb6;clear HO5 hb6;clear z0 z1 z2 z3 z4;have z0:=HO6.box_cell 0 rfl 0 rfl;have z1:=HO6.box_cell 0 rfl 1 rfl;have z2:=HO6.box_cell 0 rfl 2 rfl;have z3:=HO6.box_cell 0 rfl 3 rfl;have z4:=HO6.box_cell 0 rfl 4 rfl)
           | ((with_reducible refine gate_dst (N:=7) rfl ?_);refine ev_box (N:=7) (cs:=#[.int .i64 G]) (t:=3) HO6 rfl rfl zhr ?_;intro g7 W7 HO7 hb7;clear HO6 hb7;clear z0 z1 z2 z3 z4;have z0:=HO7.box_cell 0 rfl 0 rfl;have z1:=HO7.box_cell 0 rfl 1 rfl;have z2:=HO7.box_cell 0 rfl 2 rfl;have z3:=HO7.box_cell 0 rfl 3 rfl;have z4:=HO7.box_cell 0 rfl 4 rfl)
           | (go_at_call 49;(refine (context_calls f0 f1 f2 A0 A1 A2 c0 c1 c2 _ _ rfl rfl _ (HO7.old H0.out) (HO7.old H1.out) (HO7.old H2.out) D0.out D1.out D2.out za81 za82 za83).mono ?_;rintro e W8 ⟨Ac,cc,rfl,hCc,hb⟩;rw [HFL.out] at hCc ⊢;have HO8:=HO7.grow hb;clear HO7 hb;clear z0 z1 z2 z3 z4;have z0:=HO8.box_cell 0 rfl 0 rfl;have z1:=HO8.box_cell 0 rfl 1 rfl;have z2:=HO8.box_cell 0 rfl 2 rfl;have z3:=HO8.box_cell 0 rfl 3 rfl;have z4:=HO8.box_cell 0 rfl 4 rfl))
           | (go_at_call 48;refine (conL wrongP 50 #[] (enters_ (P:=Try.prog) Try.func50 (by kernel_rfl) rfl) Ac cc fl _ hCc (fun x hx A' c' W hb hc hC=>(rules_wrongSet.calls _ A' c' x _ W hC hc (Ev.rounds (wrong_ev x (Kd.C_max hC))).choose_spec).mono (fun e w' h=>⟨h.1,h.2.below⟩))).mono ?_;rintro e W9 ⟨rfl,hb⟩;rw [HW.out];have HO9:=HO8.grow hb;clear HO8 hb hCc;clear z0 z1 z2 z3 z4;have z0:=HO9.box_cell 0 rfl 0 rfl;have z1:=HO9.box_cell 0 rfl 1 rfl;have z2:=HO9.box_cell 0 rfl 2 rfl;have z3:=HO9.box_cell 0 rfl 3 rfl;have z4:=HO9.box_cell 0 rfl 4 rfl)
           | (go_at_call 49;(refine (context_calls f0 f1 f2 A0 A1 A2 c0 c1 c2 _ _ rfl rfl _ (HO9.old H0.out) (HO9.old H1.out) (HO9.old H2.out) D0.out D1.out D2.out za81 za82 za83).mono ?_;rintro e W10 ⟨Ac,cc,rfl,hCc,hb⟩;rw [HFL.out] at hCc ⊢;have HO10:=HO9.grow hb;clear HO9 hb;clear z0 z1 z2 z3 z4;have z0:=HO10.box_cell 0 rfl 0 rfl;have z1:=HO10.box_cell 0 rfl 1 rfl;have z2:=HO10.box_cell 0 rfl 2 rfl;have z3:=HO10.box_cell 0 rfl 3 rfl;have z4:=HO10.box_cell 0 rfl 4 rfl))
           | (go_at_call 48;refine (conL (fun l=>l.any (unkP G)) 44 #[.pointer (some ⟨g7,0,none⟩)] (enters_ (P:=Try.prog) Try.func44 (by kernel_rfl) rfl) Ac cc fl _ hCc (fun x hx A' c' W hb hc hC=>unknown_calls G g7 A' c' x W hC (box_below (HO10.box_at 3 rfl).1 hb))).mono ?_;rintro e W11 ⟨rfl,hb⟩;rw [HU.out];have HO11:=HO10.grow hb;clear HO10 hb hCc;clear z0 z1 z2 z3 z4;have z0:=HO11.box_cell 0 rfl 0 rfl;have z1:=HO11.box_cell 0 rfl 1 rfl;have z2:=HO11.box_cell 0 rfl 2 rfl;have z3:=HO11.box_cell 0 rfl 3 rfl;have z4:=HO11.box_cell 0 rfl 4 rfl))
          go_ret
          exact ⟨by rw [HV.out];rfl,HO11.below⟩
         case false =>
          have HU:=Aside0.mk hu
          cases hv:f3.any (unkP G)
          case true =>
           have HV3:=Aside0.mk hv
           have HV:Aside0 (ruleP ⟨f0,f1,f2,f3,f4⟩ k L G=30):=⟨by unfold ruleP;dsimp only;rw [if_neg k1.out,if_neg k2.out,hfl,if_neg (by rw [hw];decide),if_pos (.inr hv)]⟩
           clear a1 a2 a3 a4 b1 b2 b3 hfl hw hu hv
           go_wp2_with (first
            | ((with_reducible refine gate_dst (N:=4) rfl ?_);refine ev_box (N:=4) (cs:=#[.slice A0 f0.length c0,.slice A1 f1.length c1,.slice A2 f2.length c2,.slice A3 f3.length c3,.slice A4 f4.length c4]) (t:=49) HO rfl rfl zhr ?_;intro g4 W4 HO4 hb4;clear HO hb4;have z0:=HO4.box_cell 0 rfl 0 rfl;have z1:=HO4.box_cell 0 rfl 1 rfl;have z2:=HO4.box_cell 0 rfl 2 rfl;have z3:=HO4.box_cell 0 rfl 3 rfl;have z4:=HO4.box_cell 0 rfl 4 rfl)
            | ((with_reducible refine gate_dst (N:=5) rfl ?_);refine ev_box (N:=5) (cs:=#[.int .i64 k]) (t:=3) HO4 rfl rfl zhr ?_;intro g5 W5 HO5 hb5;clear HO4 hb5;clear z0 z1 z2 z3 z4;have z0:=HO5.box_cell 0 rfl 0 rfl;have z1:=HO5.box_cell 0 rfl 1 rfl;have z2:=HO5.box_cell 0 rfl 2 rfl;have z3:=HO5.box_cell 0 rfl 3 rfl;have z4:=HO5.box_cell 0 rfl 4 rfl)
            | ((with_reducible refine gate_dst (N:=6) rfl ?_);refine ev_box (N:=6) (cs:=#[.int .i64 L]) (t:=3) HO5 rfl rfl zhr ?_;intro g6 W6 HO6 hb6;clear HO5 hb6;clear z0 z1 z2 z3 z4;have z0:=HO6.box_cell 0 rfl 0 rfl;have z1:=HO6.box_cell 0 rfl 1 rfl;have z2:=HO6.box_cell 0 rfl 2 rfl;have z3:=HO6.box_cell 0 rfl 3 rfl;have z4:=HO6.box_cell 0 rfl 4 rfl)
            | ((with_reducible refine gate_dst (N:=7) rfl ?_);refine ev_box (N:=7) (cs:=#[.int .i64 G]) (t:=3) HO6 rfl rfl zhr ?_;intro g7 W7 HO7 hb7;clear HO6 hb7;clear z0 z1 z2 z3 z4;have z0:=HO7.box_cell 0 rfl 0 rfl;have z1:=HO7.box_cell 0 rfl 1 rfl;have z2:=HO7.box_cell 0 rfl 2 rfl;have z3:=HO7.box_cell 0 rfl 3 rfl;have z4:=HO7.box_cell 0 rfl 4 rfl)
            | (go_at_call 49;(refine (context_calls f0 f1 f2 A0 A1 A2 c0 c1 c2 _ _ rfl rfl _ (HO7.old H0.out) (HO7.old H1.out) (HO7.old H2.out) D0.out D1.out D2.out za81 za82 za83).mono ?_;rintro e W8 ⟨Ac,cc,rfl,hCc,hb⟩;rw [HFL.out] at hCc ⊢;have HO8:=HO7.grow hb;clear HO7 hb;clear z0 z1 z2 z3 z4;have z0:=HO8.box_cell 0 rfl 0 rfl;have z1:=HO8.box_cell 0 rfl 1 rfl;have z2:=HO8.box_cell 0 rfl 2 rfl;have z3:=HO8.box_cell 0 rfl 3 rfl;have z4:=HO8.box_cell 0 rfl 4 rfl))
            | (go_at_call 48;refine (conL wrongP 50 #[] (enters_ (P:=Try.prog) Try.func50 (by kernel_rfl) rfl) Ac cc fl _ hCc (fun x hx A' c' W hb hc hC=>(rules_wrongSet.calls _ A' c' x _ W hC hc (Ev.rounds (wrong_ev x (Kd.C_max hC))).choose_spec).mono (fun e w' h=>⟨h.1,h.2.below⟩))).mono ?_;rintro e W9 ⟨rfl,hb⟩;rw [HW.out];have HO9:=HO8.grow hb;clear HO8 hb hCc;clear z0 z1 z2 z3 z4;have z0:=HO9.box_cell 0 rfl 0 rfl;have z1:=HO9.box_cell 0 rfl 1 rfl;have z2:=HO9.box_cell 0 rfl 2 rfl;have z3:=HO9.box_cell 0 rfl 3 rfl;have z4:=HO9.box_cell 0 rfl 4 rfl)
            | (go_at_call 49;(refine (context_calls f0 f1 f2 A0 A1 A2 c0 c1 c2 _ _ rfl rfl _ (HO9.old H0.out) (HO9.old H1.out) (HO9.old H2.out) D0.out D1.out D2.out za81 za82 za83).mono ?_;rintro e W10 ⟨Ac,cc,rfl,hCc,hb⟩;rw [HFL.out] at hCc ⊢;have HO10:=HO9.grow hb;clear HO9 hb;clear z0 z1 z2 z3 z4;have z0:=HO10.box_cell 0 rfl 0 rfl;have z1:=HO10.box_cell 0 rfl 1 rfl;have z2:=HO10.box_cell 0 rfl 2 rfl;have z3:=HO10.box_cell 0 rfl 3 rfl;have z4:=HO10.box_cell 0 rfl 4 rfl))
            | (go_at_call 48;refine (conL (fun l=>l.any (unkP G)) 44 #[.pointer (some ⟨g7,0,none⟩)] (enters_ (P:=Try.prog) Try.func44 (by kernel_rfl) rfl) Ac cc fl _ hCc (fun x hx A' c' W hb hc hC=>unknown_calls G g7 A' c' x W hC (box_below (HO10.box_at 3 rfl).1 hb))).mono ?_;rintro e W11 ⟨rfl,hb⟩;rw [HU.out];have HO11:=HO10.grow hb;clear HO10 hb hCc;clear z0 z1 z2 z3 z4;have z0:=HO11.box_cell 0 rfl 0 rfl;have z1:=HO11.box_cell 0 rfl 1 rfl;have z2:=HO11.box_cell 0 rfl 2 rfl;have z3:=HO11.box_cell 0 rfl 3 rfl;have z4:=HO11.box_cell 0 rfl 4 rfl)
            | (go_at_call 44;refine (unknown_calls G g7 A3 c3 f3 _ (HO11.old H3.out) (HO11.box_at 3 rfl).1).mono ?_;rintro e W12 ⟨rfl,hb⟩;rw [HV3.out];have HO12:=HO11.grow hb;clear HO11 hb;clear z0 z1 z2 z3 z4;have z0:=HO12.box_cell 0 rfl 0 rfl;have z1:=HO12.box_cell 0 rfl 1 rfl;have z2:=HO12.box_cell 0 rfl 2 rfl;have z3:=HO12.box_cell 0 rfl 3 rfl;have z4:=HO12.box_cell 0 rfl 4 rfl))
           go_ret
           exact ⟨by rw [HV.out];rfl,HO12.below⟩
          case false =>
           have HV3:=Aside0.mk hv
           cases h5:f4.any (callP f1.length k L)
           case true =>
            have HC5:=Aside0.mk h5
            have HV:Aside0 (ruleP ⟨f0,f1,f2,f3,f4⟩ k L G=32):=⟨by unfold ruleP;dsimp only;rw [if_neg k1.out,if_neg k2.out,hfl,if_neg (by rw [hw];decide),if_neg (by rw [hu,hv];decide),if_pos h5]⟩
            clear a1 a2 a3 a4 b1 b2 b3 hfl hw hu hv h5
            go_wp2_with (first
             | ((with_reducible refine gate_dst (N:=4) rfl ?_);refine ev_box (N:=4) (cs:=#[.slice A0 f0.length c0,.slice A1 f1.length c1,.slice A2 f2.length c2,.slice A3 f3.length c3,.slice A4 f4.length c4]) (t:=49) HO rfl rfl zhr ?_;intro g4 W4 HO4 hb4;clear HO hb4;have z0:=HO4.box_cell 0 rfl 0 rfl;have z1:=HO4.box_cell 0 rfl 1 rfl;have z2:=HO4.box_cell 0 rfl 2 rfl;have z3:=HO4.box_cell 0 rfl 3 rfl;have z4:=HO4.box_cell 0 rfl 4 rfl)
             | ((with_reducible refine gate_dst (N:=5) rfl ?_);refine ev_box (N:=5) (cs:=#[.int .i64 k]) (t:=3) HO4 rfl rfl zhr ?_;intro g5 W5 HO5 hb5;clear HO4 hb5;clear z0 z1 z2 z3 z4;have z0:=HO5.box_cell 0 rfl 0 rfl;have z1:=HO5.box_cell 0 rfl 1 rfl;have z2:=HO5.box_cell 0 rfl 2 rfl;have z3:=HO5.box_cell 0 rfl 3 rfl;have z4:=HO5.box_cell 0 rfl 4 rfl)
             | ((with_reducible refine gate_dst (N:=6) rfl ?_);refine ev_box (N:=6) (cs:=#[.int .i64 L]) (t:=3) HO5 rfl rfl zhr ?_;intro g6 W6 HO6 hb6;clear HO5 hb6;clear z0 z1 z2 z3 z4;have z0:=HO6.box_cell 0 rfl 0 rfl;have z1:=HO6.box_cell 0 rfl 1 rfl;have z2:=HO6.box_cell 0 rfl 2 rfl;have z3:=HO6.box_cell 0 rfl 3 rfl;have z4:=HO6.box_cell 0 rfl 4 rfl)
             | ((with_reducible refine gate_dst (N:=7) rfl ?_);refine ev_box (N:=7) (cs:=#[.int .i64 G]) (t:=3) HO6 rfl rfl zhr ?_;intro g7 W7 HO7 hb7;clear HO6 hb7;clear z0 z1 z2 z3 z4;have z0:=HO7.box_cell 0 rfl 0 rfl;have z1:=HO7.box_cell 0 rfl 1 rfl;have z2:=HO7.box_cell 0 rfl 2 rfl;have z3:=HO7.box_cell 0 rfl 3 rfl;have z4:=HO7.box_cell 0 rfl 4 rfl)
             | (go_at_call 49;(refine (context_calls f0 f1 f2 A0 A1 A2 c0 c1 c2 _ _ rfl rfl _ (HO7.old H0.out) (HO7.old H1.out) (HO7.old H2.out) D0.out D1.out D2.out za81 za82 za83).mono ?_;rintro e W8 ⟨Ac,cc,rfl,hCc,hb⟩;rw [HFL.out] at hCc ⊢;have HO8:=HO7.grow hb;clear HO7 hb;clear z0 z1 z2 z3 z4;have z0:=HO8.box_cell 0 rfl 0 rfl;have z1:=HO8.box_cell 0 rfl 1 rfl;have z2:=HO8.box_cell 0 rfl 2 rfl;have z3:=HO8.box_cell 0 rfl 3 rfl;have z4:=HO8.box_cell 0 rfl 4 rfl))
             | (go_at_call 48;refine (conL wrongP 50 #[] (enters_ (P:=Try.prog) Try.func50 (by kernel_rfl) rfl) Ac cc fl _ hCc (fun x hx A' c' W hb hc hC=>(rules_wrongSet.calls _ A' c' x _ W hC hc (Ev.rounds (wrong_ev x (Kd.C_max hC))).choose_spec).mono (fun e w' h=>⟨h.1,h.2.below⟩))).mono ?_;rintro e W9 ⟨rfl,hb⟩;rw [HW.out];have HO9:=HO8.grow hb;clear HO8 hb hCc;clear z0 z1 z2 z3 z4;have z0:=HO9.box_cell 0 rfl 0 rfl;have z1:=HO9.box_cell 0 rfl 1 rfl;have z2:=HO9.box_cell 0 rfl 2 rfl;have z3:=HO9.box_cell 0 rfl 3 rfl;have z4:=HO9.box_cell 0 rfl 4 rfl)
             | (go_at_call 49;(refine (context_calls f0 f1 f2 A0 A1 A2 c0 c1 c2 _ _ rfl rfl _ (HO9.old H0.out) (HO9.old H1.out) (HO9.old H2.out) D0.out D1.out D2.out za81 za82 za83).mono ?_;rintro e W10 ⟨Ac,cc,rfl,hCc,hb⟩;rw [HFL.out] at hCc ⊢;have HO10:=HO9.grow hb;clear HO9 hb;clear z0 z1 z2 z3 z4;have z0:=HO10.box_cell 0 rfl 0 rfl;have z1:=HO10.box_cell 0 rfl 1 rfl;have z2:=HO10.box_cell 0 rfl 2 rfl;have z3:=HO10.box_cell 0 rfl 3 rfl;have z4:=HO10.box_cell 0 rfl 4 rfl))
             | (go_at_call 48;refine (conL (fun l=>l.any (unkP G)) 44 #[.pointer (some ⟨g7,0,none⟩)] (enters_ (P:=Try.prog) Try.func44 (by kernel_rfl) rfl) Ac cc fl _ hCc (fun x hx A' c' W hb hc hC=>unknown_calls G g7 A' c' x W hC (box_below (HO10.box_at 3 rfl).1 hb))).mono ?_;rintro e W11 ⟨rfl,hb⟩;rw [HU.out];have HO11:=HO10.grow hb;clear HO10 hb hCc;clear z0 z1 z2 z3 z4;have z0:=HO11.box_cell 0 rfl 0 rfl;have z1:=HO11.box_cell 0 rfl 1 rfl;have z2:=HO11.box_cell 0 rfl 2 rfl;have z3:=HO11.box_cell 0 rfl 3 rfl;have z4:=HO11.box_cell 0 rfl 4 rfl)
             | (go_at_call 44;refine (unknown_calls G g7 A3 c3 f3 _ (HO11.old H3.out) (HO11.box_at 3 rfl).1).mono ?_;rintro e W12 ⟨rfl,hb⟩;rw [HV3.out];have HO12:=HO11.grow hb;clear HO11 hb;clear z0 z1 z2 z3 z4;have z0:=HO12.box_cell 0 rfl 0 rfl;have z1:=HO12.box_cell 0 rfl 1 rfl;have z2:=HO12.box_cell 0 rfl 2 rfl;have z3:=HO12.box_cell 0 rfl 3 rfl;have z4:=HO12.box_cell 0 rfl 4 rfl)
             | (go_at_call 51;refine (conC (callP f1.length k L) 47 #[.pointer (some ⟨g4,0,none⟩),.pointer (some ⟨g5,0,none⟩),.pointer (some ⟨g6,0,none⟩)] (enters_ (P:=Try.prog) Try.func47 (by kernel_rfl) rfl) A4 c4 f4 _ (HO12.old H4.out) (fun x hx W hb=>rules_checkRule_2.calls x.f0 x.f1 A0 c0 f0 A1 c1 f1 A2 c2 f2 A3 c3 f3 A4 c4 f4 k L _ W (Kd.C_below (HO12.old H0.out) hb) D0.out (Kd.C_below (HO12.old H1.out) hb) D1.out (Kd.C_below (HO12.old H2.out) hb) D2.out (Kd.C_below (HO12.old H3.out) hb) D3.out (Kd.C_below (HO12.old H4.out) hb) D4.out (box_below (HO12.box_at 0 rfl).1 hb) (box_below (HO12.box_at 1 rfl).1 hb) (box_below (HO12.box_at 2 rfl).1 hb) (HO12.box_ne 0 1 (by decide) rfl rfl) (HO12.box_ne 0 2 (by decide) rfl rfl) (HO12.box_ne 1 2 (by decide) rfl rfl) (call_f _ k L f0 f1 f2 f3 f4 x rfl))).mono ?_;rintro e W13 ⟨rfl,hb⟩;rw [HC5.out];have HO13:=HO12.grow hb;clear HO12 hb))
            go_ret
            exact ⟨by rw [HV.out];rfl,HO13.below⟩
           case false =>
            have HC5:=Aside0.mk h5
            have HV:Aside0 (ruleP ⟨f0,f1,f2,f3,f4⟩ k L G=0):=⟨by unfold ruleP;dsimp only;rw [if_neg k1.out,if_neg k2.out,hfl,if_neg (by rw [hw];decide),if_neg (by rw [hu,hv];decide),if_neg (by rw [h5];decide)]⟩
            clear a1 a2 a3 a4 b1 b2 b3 hfl hw hu hv h5
            go_wp2_with (first
             | ((with_reducible refine gate_dst (N:=4) rfl ?_);refine ev_box (N:=4) (cs:=#[.slice A0 f0.length c0,.slice A1 f1.length c1,.slice A2 f2.length c2,.slice A3 f3.length c3,.slice A4 f4.length c4]) (t:=49) HO rfl rfl zhr ?_;intro g4 W4 HO4 hb4;clear HO hb4;have z0:=HO4.box_cell 0 rfl 0 rfl;have z1:=HO4.box_cell 0 rfl 1 rfl;have z2:=HO4.box_cell 0 rfl 2 rfl;have z3:=HO4.box_cell 0 rfl 3 rfl;have z4:=HO4.box_cell 0 rfl 4 rfl)
             | ((with_reducible refine gate_dst (N:=5) rfl ?_);refine ev_box (N:=5) (cs:=#[.int .i64 k]) (t:=3) HO4 rfl rfl zhr ?_;intro g5 W5 HO5 hb5;clear HO4 hb5;clear z0 z1 z2 z3 z4;have z0:=HO5.box_cell 0 rfl 0 rfl;have z1:=HO5.box_cell 0 rfl 1 rfl;have z2:=HO5.box_cell 0 rfl 2 rfl;have z3:=HO5.box_cell 0 rfl 3 rfl;have z4:=HO5.box_cell 0 rfl 4 rfl)
             | ((with_reducible refine gate_dst (N:=6) rfl ?_);refine ev_box (N:=6) (cs:=#[.int .i64 L]) (t:=3) HO5 rfl rfl zhr ?_;intro g6 W6 HO6 hb6;clear HO5 hb6;clear z0 z1 z2 z3 z4;have z0:=HO6.box_cell 0 rfl 0 rfl;have z1:=HO6.box_cell 0 rfl 1 rfl;have z2:=HO6.box_cell 0 rfl 2 rfl;have z3:=HO6.box_cell 0 rfl 3 rfl;have z4:=HO6.box_cell 0 rfl 4 rfl)
             | ((with_reducible refine gate_dst (N:=7) rfl ?_);refine ev_box (N:=7) (cs:=#[.int .i64 G]) (t:=3) HO6 rfl rfl zhr ?_;intro g7 W7 HO7 hb7;clear HO6 hb7;clear z0 z1 z2 z3 z4;have z0:=HO7.box_cell 0 rfl 0 rfl;have z1:=HO7.box_cell 0 rfl 1 rfl;have z2:=HO7.box_cell 0 rfl 2 rfl;have z3:=HO7.box_cell 0 rfl 3 rfl;have z4:=HO7.box_cell 0 rfl 4 rfl)
             | (go_at_call 49;(refine (context_calls f0 f1 f2 A0 A1 A2 c0 c1 c2 _ _ rfl rfl _ (HO7.old H0.out) (HO7.old H1.out) (HO7.old H2.out) D0.out D1.out D2.out za81 za82 za83).mono ?_;rintro e W8 ⟨Ac,cc,rfl,hCc,hb⟩;rw [HFL.out] at hCc ⊢;have HO8:=HO7.grow hb;clear HO7 hb;clear z0 z1 z2 z3 z4;have z0:=HO8.box_cell 0 rfl 0 rfl;have z1:=HO8.box_cell 0 rfl 1 rfl;have z2:=HO8.box_cell 0 rfl 2 rfl;have z3:=HO8.box_cell 0 rfl 3 rfl;have z4:=HO8.box_cell 0 rfl 4 rfl))
             | (go_at_call 48;refine (conL wrongP 50 #[] (enters_ (P:=Try.prog) Try.func50 (by kernel_rfl) rfl) Ac cc fl _ hCc (fun x hx A' c' W hb hc hC=>(rules_wrongSet.calls _ A' c' x _ W hC hc (Ev.rounds (wrong_ev x (Kd.C_max hC))).choose_spec).mono (fun e w' h=>⟨h.1,h.2.below⟩))).mono ?_;rintro e W9 ⟨rfl,hb⟩;rw [HW.out];have HO9:=HO8.grow hb;clear HO8 hb hCc;clear z0 z1 z2 z3 z4;have z0:=HO9.box_cell 0 rfl 0 rfl;have z1:=HO9.box_cell 0 rfl 1 rfl;have z2:=HO9.box_cell 0 rfl 2 rfl;have z3:=HO9.box_cell 0 rfl 3 rfl;have z4:=HO9.box_cell 0 rfl 4 rfl)
             | (go_at_call 49;(refine (context_calls f0 f1 f2 A0 A1 A2 c0 c1 c2 _ _ rfl rfl _ (HO9.old H0.out) (HO9.old H1.out) (HO9.old H2.out) D0.out D1.out D2.out za81 za82 za83).mono ?_;rintro e W10 ⟨Ac,cc,rfl,hCc,hb⟩;rw [HFL.out] at hCc ⊢;have HO10:=HO9.grow hb;clear HO9 hb;clear z0 z1 z2 z3 z4;have z0:=HO10.box_cell 0 rfl 0 rfl;have z1:=HO10.box_cell 0 rfl 1 rfl;have z2:=HO10.box_cell 0 rfl 2 rfl;have z3:=HO10.box_cell 0 rfl 3 rfl;have z4:=HO10.box_cell 0 rfl 4 rfl))
             | (go_at_call 48;refine (conL (fun l=>l.any (unkP G)) 44 #[.pointer (some ⟨g7,0,none⟩)] (enters_ (P:=Try.prog) Try.func44 (by kernel_rfl) rfl) Ac cc fl _ hCc (fun x hx A' c' W hb hc hC=>unknown_calls G g7 A' c' x W hC (box_below (HO10.box_at 3 rfl).1 hb))).mono ?_;rintro e W11 ⟨rfl,hb⟩;rw [HU.out];have HO11:=HO10.grow hb;clear HO10 hb hCc;clear z0 z1 z2 z3 z4;have z0:=HO11.box_cell 0 rfl 0 rfl;have z1:=HO11.box_cell 0 rfl 1 rfl;have z2:=HO11.box_cell 0 rfl 2 rfl;have z3:=HO11.box_cell 0 rfl 3 rfl;have z4:=HO11.box_cell 0 rfl 4 rfl)
             | (go_at_call 44;refine (unknown_calls G g7 A3 c3 f3 _ (HO11.old H3.out) (HO11.box_at 3 rfl).1).mono ?_;rintro e W12 ⟨rfl,hb⟩;rw [HV3.out];have HO12:=HO11.grow hb;clear HO11 hb;clear z0 z1 z2 z3 z4;have z0:=HO12.box_cell 0 rfl 0 rfl;have z1:=HO12.box_cell 0 rfl 1 rfl;have z2:=HO12.box_cell 0 rfl 2 rfl;have z3:=HO12.box_cell 0 rfl 3 rfl;have z4:=HO12.box_cell 0 rfl 4 rfl)
             | (go_at_call 51;refine (conC (callP f1.length k L) 47 #[.pointer (some ⟨g4,0,none⟩),.pointer (some ⟨g5,0,none⟩),.pointer (some ⟨g6,0,none⟩)] (enters_ (P:=Try.prog) Try.func47 (by kernel_rfl) rfl) A4 c4 f4 _ (HO12.old H4.out) (fun x hx W hb=>rules_checkRule_2.calls x.f0 x.f1 A0 c0 f0 A1 c1 f1 A2 c2 f2 A3 c3 f3 A4 c4 f4 k L _ W (Kd.C_below (HO12.old H0.out) hb) D0.out (Kd.C_below (HO12.old H1.out) hb) D1.out (Kd.C_below (HO12.old H2.out) hb) D2.out (Kd.C_below (HO12.old H3.out) hb) D3.out (Kd.C_below (HO12.old H4.out) hb) D4.out (box_below (HO12.box_at 0 rfl).1 hb) (box_below (HO12.box_at 1 rfl).1 hb) (box_below (HO12.box_at 2 rfl).1 hb) (HO12.box_ne 0 1 (by decide) rfl rfl) (HO12.box_ne 0 2 (by decide) rfl rfl) (HO12.box_ne 1 2 (by decide) rfl rfl) (call_f _ k L f0 f1 f2 f3 f4 x rfl))).mono ?_;rintro e W13 ⟨rfl,hb⟩;rw [HC5.out];have HO13:=HO12.grow hb;clear HO12 hb))
            go_ret
            exact ⟨by rw [HV.out];rfl,HO13.below⟩
end Go.Proofs.Ytlgkeaildncojaa.Q
end
section
namespace Go.Proofs.Ytlgkeaildncojaa.Q
open Go.RowKit Go.Shelf Go.Proofs.YtlgkeaildncojaaW.PrintWords Go.Proofs.YtlgkeaildncojaaW.PrintLast Go.Proofs.YtlgkeaildncojaaW.PrintMore
set_option linter.unusedSimpArgs false
set_option linter.unusedVariables false
attribute [local go_sem] Oper.semAt_some
theorem sz49:(Try.prog.info? 49).map (·.size)=some 5:=by kernel_rfl
theorem rules_step (k L G:Int) (l:List S49) (j:Nat) (h:j<l.length):rulesP k L G (l.drop j)=if ruleP (l.getD j z49) k L G=0 then rulesP k L G (l.drop (j+1)) else ruleP (l.getD j z49) k L G:=by
 rw [List.drop_eq_getElem_cons h,List.getD_eq_getElem?_getD,List.getElem?_eq_getElem h]
 rfl
set_option maxRecDepth 100000 in
set_option maxHeartbeats 8000000 in
theorem check_calls (A:Option Addr) (c:Nat) (l:List S49) (k L G:Int) (w:World) (hr:Kd.C k49 w A l.length l) :
  Calls Try.prog 16 #[.agg #[.slice A l.length c],.int .i64 k,.int .i64 L,.int .i64 G] w fun e w'=>e=.returned (.int .i64 (checkP l k L G))∧Below w.heap.size w w':=by
 have HR:=Aside0.mk hr
 have HM:=Aside0.mk (Kd.C_max hr)
 have HO:=Own.start w
 clear hr
 go_enter Try.func16,Try.ntmps16
 by_cases h0:L<1
 case pos =>
  have e0:(L<1)=True:=eq_true h0
  have d0:decide (L<1)=true:=decide_eq_true h0
  have HV:Aside0 (checkP l k L G=1):=⟨by unfold checkP;rw [if_pos (by omega)]⟩
  clear h0
  go_wp2_with (first
   | ((with_reducible refine gate_dst (N:=4) rfl ?_);refine ev_box (N:=4) (cs:=#[.slice A l.length c]) (t:=24) HO rfl rfl zhr ?_;intro g4 W4 HO4 hb4;clear HO hb4;have z0:=HO4.box_cell 0 rfl 0 rfl))
  go_ret
  exact ⟨by rw [HV.out];rfl,HO4.below⟩
 have e0:(L<1)=False:=eq_false h0
 have d0:decide (L<1)=false:=decide_eq_false h0
 by_cases h1:L > 12
 case pos =>
  have e1:(L > 12)=True:=eq_true h1
  have d1:decide (L > 12)=true:=decide_eq_true h1
  have HV:Aside0 (checkP l k L G=1):=⟨by unfold checkP;rw [if_pos (by omega)]⟩
  clear h0 h1
  go_wp2_with (first
   | ((with_reducible refine gate_dst (N:=4) rfl ?_);refine ev_box (N:=4) (cs:=#[.slice A l.length c]) (t:=24) HO rfl rfl zhr ?_;intro g4 W4 HO4 hb4;clear HO hb4;have z0:=HO4.box_cell 0 rfl 0 rfl))
  go_ret
  exact ⟨by rw [HV.out];rfl,HO4.below⟩
 have e1:(L > 12)=False:=eq_false h1
 have d1:decide (L > 12)=false:=decide_eq_false h1
 by_cases h2:k<0
 case pos =>
  have e2:(k<0)=True:=eq_true h2
  have d2:decide (k<0)=true:=decide_eq_true h2
  have HV:Aside0 (checkP l k L G=1):=⟨by unfold checkP;rw [if_pos (by omega)]⟩
  clear h0 h1 h2
  go_wp2_with (first
   | ((with_reducible refine gate_dst (N:=4) rfl ?_);refine ev_box (N:=4) (cs:=#[.slice A l.length c]) (t:=24) HO rfl rfl zhr ?_;intro g4 W4 HO4 hb4;clear HO hb4;have z0:=HO4.box_cell 0 rfl 0 rfl))
  go_ret
  exact ⟨by rw [HV.out];rfl,HO4.below⟩
 have e2:(k<0)=False:=eq_false h2
 have d2:decide (k<0)=false:=decide_eq_false h2
 by_cases h3:k ≥ L
 case pos =>
  have e3:(k ≥ L)=True:=eq_true h3
  have d3:decide (k ≥ L)=true:=decide_eq_true h3
  have HV:Aside0 (checkP l k L G=1):=⟨by unfold checkP;rw [if_pos (by omega)]⟩
  clear h0 h1 h2 h3
  go_wp2_with (first
   | ((with_reducible refine gate_dst (N:=4) rfl ?_);refine ev_box (N:=4) (cs:=#[.slice A l.length c]) (t:=24) HO rfl rfl zhr ?_;intro g4 W4 HO4 hb4;clear HO hb4;have z0:=HO4.box_cell 0 rfl 0 rfl))
  go_ret
  exact ⟨by rw [HV.out];rfl,HO4.below⟩
 have e3:(k ≥ L)=False:=eq_false h3
 have d3:decide (k ≥ L)=false:=decide_eq_false h3
 by_cases h4:G<1
 case pos =>
  have e4:(G<1)=True:=eq_true h4
  have d4:decide (G<1)=true:=decide_eq_true h4
  have HV:Aside0 (checkP l k L G=1):=⟨by unfold checkP;rw [if_pos (by omega)]⟩
  clear h0 h1 h2 h3 h4
  go_wp2_with (first
   | ((with_reducible refine gate_dst (N:=4) rfl ?_);refine ev_box (N:=4) (cs:=#[.slice A l.length c]) (t:=24) HO rfl rfl zhr ?_;intro g4 W4 HO4 hb4;clear HO hb4;have z0:=HO4.box_cell 0 rfl 0 rfl))
  go_ret
  exact ⟨by rw [HV.out];rfl,HO4.below⟩
 have e4:(G<1)=False:=eq_false h4
 have d4:decide (G<1)=false:=decide_eq_false h4
 by_cases h5:G > 100
 case pos =>
  have e5:(G > 100)=True:=eq_true h5
  have d5:decide (G > 100)=true:=decide_eq_true h5
  have HV:Aside0 (checkP l k L G=1):=⟨by unfold checkP;rw [if_pos (by omega)]⟩
  clear h0 h1 h2 h3 h4 h5
  go_wp2_with (first
   | ((with_reducible refine gate_dst (N:=4) rfl ?_);refine ev_box (N:=4) (cs:=#[.slice A l.length c]) (t:=24) HO rfl rfl zhr ?_;intro g4 W4 HO4 hb4;clear HO hb4;have z0:=HO4.box_cell 0 rfl 0 rfl))
  go_ret
  exact ⟨by rw [HV.out];rfl,HO4.below⟩
 have e5:(G > 100)=False:=eq_false h5
 have d5:decide (G > 100)=false:=decide_eq_false h5
 have HN1:=Aside0.mk (show ¬ (L<1∨L > 12∨k<0∨k ≥ L∨G<1∨G > 100) by omega)
 by_cases h8:l.length > 8
 case pos =>
  have e8:((l.length:Int) > 8)=True:=eq_true (by omega)
  have d8:decide ((l.length:Int) > 8)=true:=decide_eq_true (by omega)
  have HV:Aside0 (checkP l k L G=2):=⟨by unfold checkP;rw [if_neg HN1.out,if_pos h8]⟩
  clear h0 h1 h2 h3 h4 h5 h8
  go_wp2_with (first
   | ((with_reducible refine gate_dst (N:=4) rfl ?_);refine ev_box (N:=4) (cs:=#[.slice A l.length c]) (t:=24) HO rfl rfl zhr ?_;intro g4 W4 HO4 hb4;clear HO hb4;have z0:=HO4.box_cell 0 rfl 0 rfl))
  go_ret
  exact ⟨by rw [HV.out];rfl,HO4.below⟩
 have e8:((l.length:Int) > 8)=False:=eq_false (by omega)
 have d8:decide ((l.length:Int) > 8)=false:=decide_eq_false (by omega)
 have HV0:Aside0 (checkP l k L G=rulesP k L G l):=⟨by unfold checkP;rw [if_neg HN1.out,if_neg h8]⟩
 have HL8:=Aside0.mk (show l.length≤8 by omega)
 clear h0 h1 h2 h3 h4 h5 h8
 go_wp2_with (first
  | ((with_reducible refine gate_dst (N:=4) rfl ?_);refine ev_box (N:=4) (cs:=#[.slice A l.length c]) (t:=24) HO rfl rfl zhr ?_;intro g4 W4 HO4 hb4;clear HO hb4;have z0:=HO4.box_cell 0 rfl 0 rfl))
 go_loopw [42] (fun v42 w'=>∃ j:Nat,v42=.int .i64 j∧Aside0 (j≤l.length)∧Aside0 (rulesP k L G (l.drop j)=rulesP k L G l)∧Aside0 (Own w w' [.box g4 24 #[.slice A l.length c]])) (fun v42 _=>l.length - (intOf v42).toNat)
 case atStart=>exact ⟨0,rfl,⟨Nat.zero_le _⟩,⟨rfl⟩,⟨HO4⟩⟩
 case round =>
  clear HO4 z0
  obtain ⟨j,rfl,HK,HP,HOO⟩:=hrel
  have HO:=HOO.out
  clear HOO
  by_cases hlt:j<l.length
  case neg =>
   have q1:¬ ((j:Int)<(l.length:Int)):=by omega
   have HV1:Aside0 (rulesP k L G l=0):=⟨by rw [← HP.out,List.drop_of_length_le (by omega)];rfl⟩
   clear hlt
   go_wp2
   go_ret
   exact ⟨by rw [HV0.out,HV1.out];rfl,HO.below⟩
  obtain ⟨ad,A0,c0,A1,c1,A2,c2,A3,c3,A4,c4,hA,x0,x1,x2,x3,x4,y0,y1,y2,y3,y4,y5,y6,y7,y8,y9⟩:=at_T49 HR.out (j:Int) (by omega) (by omega)
  subst hA
  replace x0:=pw_cell_below HO.below x0
  replace x1:=pw_cell_below HO.below x1
  replace x2:=pw_cell_below HO.below x2
  replace x3:=pw_cell_below HO.below x3
  replace x4:=pw_cell_below HO.below x4
  have hst:=rules_step k L G l j hlt
  rw [HP.out] at hst
  rw [show rd_T49 l (j:Int)=l.getD j z49 from rfl] at x0 x1 x2 x3 x4 y0 y1 y2 y3 y4 y5 y6 y7 y8 y9
  rw [Int.toNat_natCast] at x0 x1 x2 x3 x4
  have q1:((j:Int)<(l.length:Int))=True:=eq_true (by omega)
  have q0:(0≤(j:Int))=True:=eq_true (by omega)
  have hkb:(j:Int)+1≤100:=by have:=HL8.out;omega
  generalize l.getD j z49=yv at *
  obtain ⟨f0,f1,f2,f3,f4⟩:=yv
  dsimp only at x0 x1 x2 x3 x4 y0 y1 y2 y3 y4 y5 y6 y7 y8 y9
  have hcall:=fun (W:World) (hb:Below w.heap.size w W)=>checkRule_calls f0 f1 f2 f3 f4 A0 A1 A2 A3 A4 c0 c1 c2 c3 c4 k L G W (Kd.C_below y1 hb) (Kd.C_below y3 hb) (Kd.C_below y5 hb) (Kd.C_below y7 hb) (Kd.C_below y9 hb) y0 y2 y4 y6 y8
  clear y0 y1 y2 y3 y4 y5 y6 y7 y8 y9
  generalize ruleP ⟨f0,f1,f2,f3,f4⟩ k L G=rv at hst hcall
  have HC:=Aside0.mk hcall
  have HKL:=Aside0.mk hlt
  clear hcall hlt
  by_cases h0:rv=0
  case neg =>
   have HS:=Aside0.mk (show rulesP k L G l=rv by rw [hst,if_neg h0])
   have e0:(rv==0)=false:=beq_eq_false_iff_ne.mpr h0
   have n0:(rv != 0)=true:=by rw [bne,e0];rfl
   clear hst h0
   go_wp2_with (first
    | ((with_reducible refine gate_dst (N:=10) rfl ?_);refine ev_box (N:=10) (cs:=#[.slice none 0 0,.slice none 0 0,.slice none 0 0,.slice none 0 0,.slice none 0 0]) (t:=49) HO rfl rfl zhr ?_;intro g5 W5 HO5 hb5)
    | ((with_reducible refine gate_store (t:=49) (p:=10) rfl ?_);refine ev_store (cs':=#[.slice A0 f0.length c0,.slice A1 f1.length c1,.slice A2 f2.length c2,.slice A3 f3.length c3,.slice A4 f4.length c4]) (.agg #[.slice A0 f0.length c0,.slice A1 f1.length c1,.slice A2 f2.length c2,.slice A3 f3.length c3,.slice A4 f4.length c4]) 1 HO5 rfl rfl rfl rfl 0 rfl rfl sz49 za77 (Nat.le_refl _) rfl ?_;intro W6 HO6;clear HO5 x0 x1 x2 x3 x4;have z0:=HO6.box_cell 1 rfl 0 rfl;have z1:=HO6.box_cell 1 rfl 1 rfl;have z2:=HO6.box_cell 1 rfl 2 rfl;have z3:=HO6.box_cell 1 rfl 3 rfl;have z4:=HO6.box_cell 1 rfl 4 rfl)
    | (go_at_call 34;(refine (HC.out _ HO6.below).mono ?_;rintro e W7 ⟨rfl,hb7⟩;have HO7:=HO6.grow hb7;clear HO6 hb7 z0 z1 z2 z3 z4)))
   go_ret
   exact ⟨by rw [HV0.out,HS.out];rfl,HO7.below⟩
  case pos =>
   have HS:=Aside0.mk (show rulesP k L G (l.drop (j+1))=rulesP k L G l by rw [hst,if_pos h0])
   have e0:(rv==0)=true:=beq_iff_eq.mpr h0
   have n0:(rv != 0)=false:=by rw [bne,e0];rfl
   clear hst h0
   go_wp2_with (first
    | ((with_reducible refine gate_dst (N:=10) rfl ?_);refine ev_box (N:=10) (cs:=#[.slice none 0 0,.slice none 0 0,.slice none 0 0,.slice none 0 0,.slice none 0 0]) (t:=49) HO rfl rfl zhr ?_;intro g5 W5 HO5 hb5)
    | ((with_reducible refine gate_store (t:=49) (p:=10) rfl ?_);refine ev_store (cs':=#[.slice A0 f0.length c0,.slice A1 f1.length c1,.slice A2 f2.length c2,.slice A3 f3.length c3,.slice A4 f4.length c4]) (.agg #[.slice A0 f0.length c0,.slice A1 f1.length c1,.slice A2 f2.length c2,.slice A3 f3.length c3,.slice A4 f4.length c4]) 1 HO5 rfl rfl rfl rfl 0 rfl rfl sz49 za77 (Nat.le_refl _) rfl ?_;intro W6 HO6;clear HO5 x0 x1 x2 x3 x4;have z0:=HO6.box_cell 1 rfl 0 rfl;have z1:=HO6.box_cell 1 rfl 1 rfl;have z2:=HO6.box_cell 1 rfl 2 rfl;have z3:=HO6.box_cell 1 rfl 3 rfl;have z4:=HO6.box_cell 1 rfl 4 rfl)
    | (go_at_call 34;(refine (HC.out _ HO6.below).mono ?_;rintro e W7 ⟨rfl,hb7⟩;have HO7:=HO6.grow hb7;clear HO6 hb7 z0 z1 z2 z3 z4)))
   have HO9:=HO7.upto 1
   go_roundw
   case rel=>exact ⟨j+1,by go_num,⟨HKL.out⟩,⟨HS.out⟩,⟨HO9⟩⟩
   case measure=>have:=HKL.out;simp [intOf];omega
end Go.Proofs.Ytlgkeaildncojaa.Q
end
section
namespace Go.Proofs.Ytlgkeaildncojaa.Q
open Go.Shelf
def lays_Sort_ren:Go.Shelf.Ren:=⟨fun|189=>59|125=>70|257=>69|128=>82|129=>83|294=>73|295=>74|296=>75|297=>76|298=>77|299=>78|216=>79|300=>80|301=>81|328=>84|329=>85|330=>86|331=>87|332=>88|215=>89|343=>90|n=>n,fun|28=>26|3=>3|46=>80|0=>0|51=>128|53=>130|4=>4|183=>120|182=>119|131=>125|5=>5|9=>9|218=>131|222=>135|228=>137|229=>138|n=>n,fun|n=>n⟩
theorem lays_Sort:Go.Proofs.Lays.n189 Try.prog lays_Sort_ren:={
 mixed:=by kernel_rfl
 f125:=Try.func70.trans (congrArg some (by kernel_rfl))
 f128:=Try.func82.trans (congrArg some (by kernel_rfl))
 f129:=Try.func83.trans (congrArg some (by kernel_rfl))
 f189:=Try.func59.trans (congrArg some (by kernel_rfl))
 f215:=Try.func89.trans (congrArg some (by kernel_rfl))
 f216:=Try.func79.trans (congrArg some (by kernel_rfl))
 f257:=Try.func69.trans (congrArg some (by kernel_rfl))
 f294:=Try.func73.trans (congrArg some (by kernel_rfl))
 f295:=Try.func74.trans (congrArg some (by kernel_rfl))
 f296:=Try.func75.trans (congrArg some (by kernel_rfl))
 f297:=Try.func76.trans (congrArg some (by kernel_rfl))
 f298:=Try.func77.trans (congrArg some (by kernel_rfl))
 f299:=Try.func78.trans (congrArg some (by kernel_rfl))
 f300:=Try.func80.trans (congrArg some (by kernel_rfl))
 f301:=Try.func81.trans (congrArg some (by kernel_rfl))
 f328:=Try.func84.trans (congrArg some (by kernel_rfl))
 f329:=Try.func85.trans (congrArg some (by kernel_rfl))
 f330:=Try.func86.trans (congrArg some (by kernel_rfl))
 f331:=Try.func87.trans (congrArg some (by kernel_rfl))
 f332:=Try.func88.trans (congrArg some (by kernel_rfl))
 f343:=Try.func90.trans (congrArg some (by kernel_rfl))
 t0:=Try.underlying0
 a0:=Try.isAgg0
 z0:=Try.sizeOf0
 v0:=Try.zeroValue0
 t3:=Try.underlying3
 a3:=Try.isAgg3
 z3:=Try.sizeOf3
 v3:=Try.zeroValue3
 t4:=Try.underlying4
 a4:=Try.isAgg4
 z4:=Try.sizeOf4
 v4:=Try.zeroValue4
 t5:=Try.underlying5
 a5:=Try.isAgg5
 z5:=Try.sizeOf5
 v5:=Try.zeroValue5
 t9:=Try.underlying9
 a9:=Try.isAgg9
 z9:=Try.sizeOf9
 v9:=Try.zeroValue9
 t28:=Try.underlying26
 a28:=Try.isAgg26
 z28:=Try.sizeOf26
 v28:=Try.zeroValue26
 t46:=Try.underlying80
 a46:=Try.isAgg80
 z46:=Try.sizeOf80
 v46:=Try.zeroValue80
 t51:=Try.underlying128
 a51:=Try.isAgg128
 z51:=Try.sizeOf128
 v51:=Try.zeroValue128
 t53:=Try.underlying130
 a53:=Try.isAgg130
 z53:=Try.sizeOf130
 v53:=Try.zeroValue130
 t131:=Try.underlying125
 a131:=Try.isAgg125
 z131:=Try.sizeOf125
 v131:=Try.zeroValue125
 t182:=Try.underlying119
 a182:=Try.isAgg119
 z182:=Try.sizeOf119
 v182:=Try.zeroValue119
 t183:=Try.underlying120
 a183:=Try.isAgg120
 z183:=Try.sizeOf120
 v183:=Try.zeroValue120
 t218:=Try.underlying131
 a218:=Try.isAgg131
 z218:=Try.sizeOf131
 v218:=Try.zeroValue131
 t222:=Try.underlying135
 a222:=Try.isAgg135
 z222:=Try.sizeOf135
 v222:=Try.zeroValue135
 t228:=Try.underlying137
 a228:=Try.isAgg137
 z228:=Try.sizeOf137
 v228:=Try.zeroValue137
 t229:=Try.underlying138
 a229:=Try.isAgg138
 z229:=Try.sizeOf138
 v229:=Try.zeroValue138 }
end Go.Proofs.Ytlgkeaildncojaa.Q
end
section
namespace Go.Proofs.Ytlgkeaildncojaa.Q
open Go.RowKit Go.Proofs.YtlgkeaildncojaaW.PrintWords Go.Proofs.YtlgkeaildncojaaW.PrintLast Go.Proofs.YtlgkeaildncojaaW.PrintMore
theorem sort_own (v:Value) (L:List Int) (base:Nat) (ok:Nat→Prop) (w:World) (HO:Kd.R (Kd.int .i64) 3 w base ok v L) (hl:L.length<4611686018427387904) :
  Calls Try.prog 59 #[v] w fun e w'=>e=.returned (.tuple #[])∧Kd.R (Kd.int .i64) 3 w' base ok v (L.mergeSort fun x y=>decide (x≤y))∧w.grownBy w' v.ownBlock:=by
 have ho:=Kd.own_of_R HO
 rcases ho.2 with ⟨e1,e2⟩|⟨g,cap,cur,e1,h1,h2,h3,h4,h5,h6⟩
 ·
  obtain rfl:L=[]:=List.length_eq_zero_iff.mp e2
  subst e1
  refine (Any.slices_Sort_int_none lays_Sort none 0 w).mono ?_
  rintro e w' ⟨rfl,rfl⟩
  refine ⟨rfl,?_,⟨rfl,rfl,rfl,Nat.le_refl _,fun _ _ _=>rfl⟩⟩
  simpa using HO
 ·
  subst e1
  have hH:=holds_of_blockI (ss:=L) h2 (by rw [Nat.mul_one] at h6;exact h6)
  refine (Any.slices_Sort_int lays_Sort g 0 cap L w hH (Array.getElem?_eq_some_iff.1 h2).1 hl).mono ?_
  rintro e w' ⟨rfl,n,os,rfl⟩
  refine ⟨rfl,?_,grownBy_sortedI _⟩
  have hlen:(L.mergeSort fun x y=>decide (x≤y)).length=L.length:=List.length_mergeSort _
  refine Kd.R_of_own ?_ HO.1
  have:=ownsRow_sortedI (n:=n) (os:=os) (ss:=L) (ts:=L.mergeSort fun x y=>decide (x≤y)) hlen h1 h2 h3 h4 h5
  rw [hlen]
  exact this
def hwith:List Int→Int→List Int
 | [],n=>[n]
 | x :: t,n=>if x<n then x :: hwith t n else if x=n then x :: t else n :: x :: t
def hset (l:List Int):List Int:=l.foldl hwith []
theorem mem_hwith (n y:Int):∀ l:List Int,y∈hwith l n↔y=n∨y∈l
 | []=>by simp [hwith]
 | x :: t=>by
  unfold hwith
  split
  ·
   rw [List.mem_cons,mem_hwith n y t,List.mem_cons]
   constructor
   ·
    rintro (h|h|h)
    ·
     exact .inr (.inl h)
    ·
     exact .inl h
    ·
     exact .inr (.inr h)
   ·
    rintro (h|h|h)
    ·
     exact .inr (.inl h)
    ·
     exact .inl h
    ·
     exact .inr (.inr h)
  ·
   split
   ·
    rename_i h;subst h;simp
   ·
    simp
theorem sorted_hwith (n:Int):∀ l:List Int,l.Pairwise (·<·)→(hwith l n).Pairwise (·<·)
 | [],_=>by simp [hwith]
 | x :: t,h=>by
  have hc:=List.pairwise_cons.mp h
  unfold hwith
  split
  ·
   rename_i h1
   refine List.pairwise_cons.mpr ⟨fun y hy=>?_,sorted_hwith n t hc.2⟩
   rcases (mem_hwith n y t).mp hy with rfl|hy
   ·
    exact h1
   ·
    exact hc.1 y hy
  ·
   split
   ·
    exact h
   ·
    refine List.pairwise_cons.mpr ⟨fun y hy=>?_,h⟩
    rcases List.mem_cons.mp hy with rfl|hy
    ·
     omega
    ·
     have:=hc.1 y hy;omega
theorem hfold_facts:∀ (l acc:List Int),acc.Pairwise (·<·)→(l.foldl hwith acc).Pairwise (·<·)∧∀ y,y∈l.foldl hwith acc↔y∈acc∨y∈l
 | [],acc,h=>⟨h,fun y=>by simp⟩
 | x :: t,acc,h=>by
  obtain ⟨h1,h2⟩:=hfold_facts t (hwith acc x) (sorted_hwith x acc h)
  refine ⟨h1,fun y=>?_⟩
  rw [List.foldl_cons,h2,mem_hwith,List.mem_cons]
  constructor
  ·
   rintro ((h|h)|h)
   ·
    exact .inr (.inl h)
   ·
    exact .inl h
   ·
    exact .inr (.inr h)
  ·
   rintro (h|h|h)
   ·
    exact .inl (.inr h)
   ·
    exact .inl (.inl h)
   ·
    exact .inr h
theorem hset_sorted (l:List Int):(hset l).Pairwise (·<·):=(hfold_facts l [] List.Pairwise.nil).1
theorem mem_hset (l:List Int) (y:Int):y∈hset l↔y∈l:=by
 unfold hset
 rw [(hfold_facts l [] List.Pairwise.nil).2]
 simp
theorem sorted_ext:∀ (l m:List Int),l.Pairwise (·<·)→m.Pairwise (·<·)→(∀ y,y∈l↔y∈m)→l=m
 | [],[],_,_,_=>rfl
 | [],y :: m,_,_,h=>by have:=(h y).mpr (by simp);simp at this
 | x :: l,[],_,_,h=>by have:=(h x).mp (by simp);simp at this
 | x :: l,y :: m,h1,h2,h=>by
  have c1:=List.pairwise_cons.mp h1
  have c2:=List.pairwise_cons.mp h2
  have e:x=y:=by
   rcases List.mem_cons.mp ((h x).mp (by simp)) with e|e
   ·
    exact e
   ·
    rcases List.mem_cons.mp ((h y).mpr (by simp)) with e'|e'
    ·
     exact e'.symm
    ·
     have:=c1.1 y e';have:=c2.1 x e;omega
  subst e
  rw [sorted_ext l m c1.2 c2.2 (fun z=>?_)]
  constructor
  ·
   intro hz
   rcases List.mem_cons.mp ((h z).mp (List.mem_cons_of_mem _ hz)) with e|e
   ·
    have:=c1.1 z hz;omega
   ·
    exact e
  ·
   intro hz
   rcases List.mem_cons.mp ((h z).mpr (List.mem_cons_of_mem _ hz)) with e|e
   ·
    have:=c2.1 z hz;omega
   ·
    exact e
theorem sort_nodup (L l:List Int) (hn:L.Nodup) (h:∀ y,y∈L↔y∈l):(L.mergeSort fun x y=>decide (x≤y))=hset l:=by
 refine sorted_ext _ _ ?_ (hset_sorted l) (fun y=>by rw [mem_hset,← h,List.mem_mergeSort])
 have h1:(L.mergeSort fun x y=>decide (x≤y)).Pairwise (fun x y=>decide (x≤y)=true):=List.pairwise_mergeSort (fun a b c h1 h2=>by simp at *;omega) (fun a b=>by simp;omega) L
 have h2:(L.mergeSort fun x y=>decide (x≤y)).Nodup:=(List.mergeSort_perm L _).nodup_iff.mpr hn
 exact (h1.and h2).imp (fun ⟨h1,h2⟩=>by simp at h1;omega)
def bval (A B:List Int) (x:Int):Int:=(if x∈A then 1 else 0)+(if x∈B then 2 else 0)
def BM (w:World) (b:Nat) (A B:List Int):Prop:=∃ D:DataW Nat,w.ownsMap Try.prog 3 (plainElem Try.prog 80) b (A.length+B.length) D∧(∀ x,D.atKey (.int .i64 x) (.lit (.int .u64 0))=.lit (.int .u64 (bval A B x)))∧∀ x,Maps.has D (.int .i64 x)=decide (x∈A∨x∈B)
theorem bm_made (w:World):BM (w.alloc (.map #[] 0)) w.heap.size [] [] :=
 ⟨.map [],World.ownsMap_made w Try.prog 3 _,fun x=>by simp [DataW.atKey,bval],fun x=>by simp [Maps.has_eq]⟩
theorem law3:Maps.Keyed Try.prog 3:=Maps.int_keyed Try.underlying3
set_option maxRecDepth 100000 in
theorem bm_step (w:World) (b:Nat) (A B A' B':List Int) (x:Int) (hx:(Lit.int .i64 x).wf=true) (h:BM w b A B) (hl:A'.length+B'.length=A.length+B.length+1) (hm:A.length+B.length<maxLen)
  (ha:∀ y,y≠x→(y∈A'↔y∈A)) (hb:∀ y,y≠x→(y∈B'↔y∈B)) (hx2:x∈A'∨x∈B') :
  (Instr.lookup 100 (.map (some b)) (.int .i64 x) false).run Try.prog w=.ok (.int .u64 (bval A B x)) w ∧
  ∃ w1,(Instr.mapUpdate 100 (.map (some b)) (.int .i64 x) (.int .u64 (bval A' B' x))).run Try.prog w=.ok () w1∧BM w1 b A' B'∧w.grownBy w1 (some b):=by
 obtain ⟨D,h1,h2,h3⟩:=h
 have hk:keyOf Try.prog 3 (.int .i64 x)=some (.int .i64 x):=Maps.keyOf_int_mk Try.underlying3 hx
 have hz:(zeroValue 80).run Try.prog w=.ok (.int .u64 0) w:=Try.zeroValue80 w
 obtain ⟨c,hrun,hat,hwc⟩:=h1.lookup_int law3 Try.underlying100 Try.underlying80 hz hk
 rw [h2 x] at hat
 have e:bval A B x=c:=by injection hat with hat;injection hat
 have hv:(Lit.int .u64 (bval A' B' x)).wf=true:=by unfold bval;split<;>split<;>decide
 obtain ⟨w1,r1,r2,r3⟩:=h1.update law3 Try.underlying100 hm hk (plainElem_int Try.underlying80 hv)
 refine ⟨by rw [e];exact hrun,w1,r1,⟨_,by rw [hl];exact r2,fun y=>?_,fun y=>?_⟩,r3⟩
 ·
  by_cases hy:y=x
  ·
   subst hy;rw [Maps.atKey_put_same h1.isMap (k:=.int .i64 y) trivial]
  ·
   rw [Maps.atKey_put_other (by intro h;injection h with _ h;exact hy h),h2 y]
   unfold bval
   simp only [ha y hy,hb y hy]
 ·
  by_cases hy:y=x
  ·
   subst hy;rw [Maps.has_put_same h1.isMap (k:=.int .i64 y) trivial,decide_eq_true hx2]
  ·
   rw [Maps.has_put_other (by intro h;injection h with _ h;exact hy h),h3 y]
   simp only [ha y hy,hb y hy]
end Go.Proofs.Ytlgkeaildncojaa.Q
end
section
namespace Go.Proofs.Ytlgkeaildncojaa.Q
open Go.RowKit Go.Proofs.YtlgkeaildncojaaW.PrintWords Go.Proofs.YtlgkeaildncojaaW.PrintLast Go.Proofs.YtlgkeaildncojaaW.PrintMore
set_option linter.unusedSimpArgs false
set_option linter.unusedVariables false
section
variable {P:Program} {ops:Array Oper} {Q:Exit→Act→World→Prop}
theorem goesLv_ {rest : List Oper} {oi : Oper} {a : Act} {w : World} (N : Option Tmp) (hd : oi.dst = N) (hg : oi.guard = none) {f : FuncId} {fn : Func} {x : Operand} {xs : Array Operand} {ts : Array TypeId} {fr : Array Value} (hf : P.funcs[f]? = some fn) (hname : (fn.name == "runtime.NumGoroutine") = false) (hb : fn.body.isSome = true) (args : Array Value)
  (hop:oi.op=.call { callee:=.value x,args:=xs,argTypes:=ts }) (hx:a.eval x=.func (.func f) #[] fr) (hargs:xs.map a.eval++fr=args)
  (h:Calls P f args w fun e w'=>∃ v,e=.returned v∧wpList P ops Q rest (a.put N v) w'):wpList P ops Q (oi :: rest) a w:=by
 refine wpList_plain hg fun K hK=>?_
 have he:=enters_ hf hname hb args w
 have hrun:(execOp a.eval oi).run P w=.ok (.enter f args) w:=by
  unfold execOp
  simp [hop,resolve,Deferred.ofValue,invoke,hx,hargs,he]
 unfold Oper.wp
 rw [hrun,Oper.upon_enter]
 refine h.mono fun e w'' hh=>?_
 obtain ⟨v,rfl,hk⟩:=hh
 subst hd
 exact hK _ _ hk
end
theorem run_update_op {a:Act} {w w1:World} {m kk v:Value} {t1 t2 t3:Tmp} {T:TypeId} {o:Oper} (h1:Act.eval a (.tmp t1)=m) (h2:Act.eval a (.tmp t2)=kk) (h3:Act.eval a (.tmp t3)=v) (ho:o.op=.mapUpdate T (.tmp t1) (.tmp t2) (.tmp t3))
  (hr:(Instr.mapUpdate T m kk v).run Try.prog w=.ok () w1):(execOp a.eval o).run Try.prog w=.ok .skip w1:=by
 have e:execOp a.eval o=(do Instr.mapUpdate T m kk v;pure .skip):=by
  unfold execOp
  rw [ho]
  simp only [h1,h2,h3]
 rw [e]
 simp only [Sem.run_bind,hr,Result.andThen]
 rfl
theorem w64 {x:Int} (h1:-9223372036854775808≤x) (h2:x≤9223372036854775807):wrap64 x=x:=by
 unfold wrap64
 omega
def MS (w:World) (b:Nat) (l m:List Int) (k j:Nat):Prop:=if k=0 then BM w b (l.take j) [] else BM w b l (m.take j)
theorem mem_take_succ (l:List Int) (j:Nat) (hj:j<l.length) (y:Int):y∈l.take (j+1)↔y∈l.take j∨y=l[j]:=by
 rw [List.take_add_one,List.getElem?_eq_getElem hj,List.mem_append]
 simp
theorem rd_get (l:List Int) (j:Nat) (hj:j<l.length):rd l (j:Int)=l[j]:=by
 simp [rd,List.getD_eq_getElem?_getD,List.getElem?_eq_getElem hj]
theorem or1 (A B:List Int) (x:Int):Go.bits .or .u64 (bval A B x) 1=bval (x :: A) B x:=by
 unfold bval
 by_cases h1:x∈A<;>by_cases h2:x∈B<;>simp [h1,h2]<;>decide
theorem or2 (A B:List Int) (x:Int):Go.bits .or .u64 (bval A B x) 2=bval A (x :: B) x:=by
 unfold bval
 by_cases h1:x∈A<;>by_cases h2:x∈B<;>simp [h1,h2]<;>decide
theorem bval_mem {A A' B B':List Int} {x:Int} (ha:x∈A↔x∈A') (hb:x∈B↔x∈B'):bval A B x=bval A' B' x:=by
 unfold bval
 simp only [ha,hb]
theorem ms_step (w:World) (b:Nat) (l m:List Int) (k j:Nat) (hk:k<2) (hj:j<(if k=0 then l else m).length) (hwf:(Lit.int .i64 ((if k=0 then l else m)[j])).wf=true) (hl:l.length+m.length<maxLen) (h:MS w b l m k j) :
  ∃ bv,(Instr.lookup 100 (.map (some b)) (.int .i64 ((if k=0 then l else m)[j])) false).run Try.prog w=.ok (.int .u64 bv) w ∧
  ∃ w1,(Instr.mapUpdate 100 (.map (some b)) (.int .i64 ((if k=0 then l else m)[j])) (.int .u64 (Go.bits .or .u64 bv (if k=0 then 1 else 2)))).run Try.prog w=.ok () w1∧MS w1 b l m k (j+1)∧w.grownBy w1 (some b):=by
 rcases (show k=0∨k=1 by omega) with rfl|rfl
 ·
  simp only [if_true] at *
  unfold MS at *
  simp only [if_true] at *
  have hj':j<l.length:=hj
  have hm:=mem_take_succ l j hj'
  obtain ⟨h1,w1,h2,h3,h4⟩:=bm_step w b (l.take j) [] (l.take (j+1)) [] l[j] hwf h za72 za72 (fun y hy=>by rw [hm];simp [hy]) (fun y _=>Iff.rfl) (.inl (by rw [hm];exact .inr rfl))
  refine ⟨_,h1,w1,?_,h3,h4⟩
  rw [or1,bval_mem (A':=l.take (j+1)) (B':=[]) (by rw [hm];simp) Iff.rfl]
  exact h2
 ·
  simp only [if_neg (show ¬ (1:Nat)=0 by decide)] at *
  unfold MS at *
  simp only [if_neg (show ¬ (1:Nat)=0 by decide)] at *
  have hj':j<m.length:=hj
  have hm:=mem_take_succ m j hj'
  obtain ⟨h1,w1,h2,h3,h4⟩:=bm_step w b l (m.take j) l (m.take (j+1)) m[j] hwf h za72 za72 (fun y _=>Iff.rfl) (fun y hy=>by rw [hm];simp [hy]) (.inr (by rw [hm];exact .inr rfl))
  refine ⟨_,h1,w1,?_,h3,h4⟩
  rw [or2,bval_mem (A':=l) (B':=m.take (j+1)) Iff.rfl (by rw [hm];simp)]
  exact h2
theorem ms_next {w:World} {b:Nat} {l m:List Int} (h:MS w b l m 0 l.length):MS w b l m 1 0:=by
 unfold MS at *
 simpa using h
theorem ranges_ne {w:World} {b r n cnt:Nat} {D:DataW Nat} {left:Lit→Bool} {v:Value} {e:TypeId} (h:w.ranges Try.prog 3 (plainElem Try.prog 80) b r n D left cnt) (ht:∀ k,v.ownBlock=some k→∃ cells,w.heap[k]?=some (.cells cells e (0,0))):some b≠v.ownBlock∧some r≠v.ownBlock:=by
 obtain ⟨es,clock,since,seen,c0,hb,_,_,_,hr,_⟩:=h
 refine ⟨fun he=>?_,fun he=>?_⟩
 ·
  obtain ⟨cells,hc⟩:=ht b he.symm
  rw [hb] at hc
  cases hc
 ·
  obtain ⟨cells,hc⟩:=ht r he.symm
  rw [hr] at hc
  cases hc
theorem r_iter {w w':World} {base r:Nat} {ok:Nat→Prop} {v:Value} {L:List Int} (h:Kd.R (Kd.int .i64) 3 w base ok v L) (hg:w.grownBy w' (some r)) (hne:some r≠v.ownBlock):Kd.R (Kd.int .i64) 3 w' base ok v L :=
 Kd.R_of_own ((Kd.own_of_R h).kept hg (.inr fun e=>hne e.symm)) h.1
theorem r_base {w:World} {base:Nat} {ok:Nat→Prop} {v:Value} {L:List Int} (h:Kd.R (Kd.int .i64) 3 w base ok v L):∀ k,v.ownBlock=some k→base≤k:=fun k hk=>((Kd.own_of_R h).lt k hk).1
def Seen (p:Int→Bool) (l m:List Int) (left:Lit→Bool) (L:List Int):Prop:=L.Nodup∧∀ y,y∈L↔(y∈l∨y∈m)∧left (.int .i64 y)=false∧p (bval l m y)=true
theorem seen_start {p:Int→Bool} {l m:List Int} {left:Lit→Bool} (h:∀ x,left (.int .i64 x)=decide (x∈l∨x∈m)):Seen p l m left []:=by
 refine ⟨List.nodup_nil,fun y=>?_⟩
 rw [h y]
 simp only [List.not_mem_nil,false_iff]
 rintro ⟨h1,h2,_⟩
 exact absurd h1 (of_decide_eq_false h2)
theorem seen_end {p:Int→Bool} {l m:List Int} {left:Lit→Bool} {L:List Int} (h:Seen p l m left L) (hl:∀ kl,left kl=false):(L.mergeSort fun x y=>decide (x≤y))=hset ((l++m).filter fun x=>p (bval l m x)):=by
 refine sort_nodup L _ h.1 (fun y=>?_)
 rw [h.2,List.mem_filter,List.mem_append]
 simp [hl]
theorem same_int (y x:Int):Lit.sameKey (.int .i64 y) (.int .i64 x)=decide (y=x):=by simp [Lit.sameKey]
theorem seen_no {p:Int→Bool} {l m:List Int} {left:Lit→Bool} {L:List Int} {x:Int} (h:Seen p l m left L) (hl:left (.int .i64 x)=true) (hp:p (bval l m x)=false):Seen p l m (fun z=>left z&&!z.sameKey (.int .i64 x)) L:=by
 refine ⟨h.1,fun y=>?_⟩
 rw [h.2]
 simp only [same_int]
 by_cases hy:y=x
 ·
  subst hy
  simp [hl,hp]
 ·
  simp [hy]
theorem seen_yes {p:Int→Bool} {l m:List Int} {left:Lit→Bool} {L:List Int} {x:Int} (h:Seen p l m left L) (hl:left (.int .i64 x)=true) (hm:x∈l∨x∈m) (hp:p (bval l m x)=true):Seen p l m (fun z=>left z&&!z.sameKey (.int .i64 x)) (L++[x]):=by
 refine ⟨?_,fun y=>?_⟩
 ·
  rw [List.nodup_append]
  refine ⟨h.1,by simp,fun a ha b hb=>?_⟩
  rw [List.mem_singleton] at hb
  subst hb
  rintro rfl
  have:=((h.2 a).mp ha).2.1
  rw [hl] at this
  cases this
 ·
  rw [List.mem_append,h.2,List.mem_singleton]
  simp only [same_int]
  by_cases hy:y=x
  ·
   subst hy
   simp [hm,hp]
  ·
   simp [hy]
set_option maxHeartbeats 8000000 in
set_option maxRecDepth 100000 in
theorem chosen_calls (p : Int → Bool) (g : FuncId) (fn : Func) (hf : Try.prog.funcs[g]? = some fn) (hname : (fn.name == "runtime.NumGoroutine") = false) (hbody : fn.body.isSome = true)
  (hfit:∀ (x:Int) (w:World),Calls Try.prog g #[.int .u64 x] w fun e w'=>e=.returned (.bool (p x))∧Below w.heap.size w w')
  (A0:Option Addr) (ls:List (List Int)) (cap:Nat) (w:World) (l m:List Int) (hls:Kd.C (Kd.slice 3 (Kd.int .i64)) w A0 ls.length ls) (hcap:ls.length≤cap) (hN:ls.length=1∧m=[]∨ls.length=2) (hl0:rd_L1 ls 0=l) (hl1:ls.length=2→rd_L1 ls 1=m)
  (hwl:∀ x∈l,(Lit.int .i64 x).wf=true) (hwm:∀ x∈m,(Lit.int .i64 x).wf=true) (hlen:l.length+m.length<4398046511104) :
  Calls Try.prog 41 #[.func (.func g) #[] #[],.slice A0 ls.length cap] w fun e w'=>∃ v,e=.returned v∧Kd.R (Kd.int .i64) 3 w' w.heap.size (fun _=>True) v (hset ((l++m).filter fun x=>p (bval l m x)))∧Below w.heap.size w w':=by
 have hmm:=@run_makeMap Try.prog
 have HL0:=Aside0.mk hls
 have HN:=Aside0.mk hN
 have HL1:=Aside0.mk hl1
 have HWL:=Aside0.mk hwl
 have HWM:=Aside0.mk hwm
 have HLEN:=Aside0.mk hlen
 have HF:=Aside0.mk hfit
 have HC:=Aside0.mk hcap
 have HE:=Aside0.mk hl0
 have HLE:Aside0 (0≤(ls.length:Int)):=⟨by omega⟩
 clear hls hN hl1 hwl hwm hlen hfit hcap hl0
 go_enter Try.func41,Try.ntmps41
 go_wp2
 repeat (go_quiet (fail);try go_wp2)
 have HM:=Aside0.mk (bm_made w)
 have HB:=Aside0.mk ((Below.refl w.heap.size w).alloc (Nat.le_refl _) (.map #[] 0))
 generalize hgb:w.heap.size=gb at *
 go_loopw [16] (fun v16 w'=>∃ k:Nat,v16=.int .i64 k∧Aside0 (k≤ls.length)∧Aside0 (if k<2 then MS w' gb l m k 0 else BM w' gb l m)∧Aside0 (Below gb w w')) (fun v16 _=>ls.length - (intOf v16).toNat)
 case atStart=>exact ⟨0,rfl,⟨Nat.zero_le _⟩,by first|exact HM|exact ⟨HM.out⟩,HB⟩
 case round =>
  clear HM HB
  obtain ⟨k,rfl,HK,HM,HB⟩:=hrel
  by_cases c1:(k:Int)<(ls.length:Int)
  ·
   have c1b:decide ((k:Int)<(ls.length:Int))=true:=decide_eq_true c1
   have hk2:k<2:=by rcases HN.out with h|h<;>omega
   have HM1:=HM.out
   rw [if_pos hk2] at HM1
   have HM2:=Aside0.mk HM1
   clear HM1 HM
   rcases (show k=0∨k=1 by omega) with rfl|rfl
   ·
    -- list 0
    have c1x:decide (0<ls.length)=true:=by simpa using c1
    have p1:(0:Int)≤((0:Nat):Int):=by omega
    have q1:((0:Nat):Int)<(ls.length:Int):=of_decide_eq_true c1b
    obtain ⟨ad1,A1,c1_,e1,hx1,hl1,hC1⟩:=at_L1 HL0.out ((0:Nat):Int) p1 q1
    cases e1
    have he:rd_L1 ls ((0:Nat):Int)=l:=HE.out
    rw [he] at hx1 hl1 hC1
    replace hx1:=(HB.out.cell (by rw [← hgb];exact World.block_lt_of_cell? w _ hx1)).trans hx1
    replace hx1:wr.cell? ad1=some (.slice A1 l.length c1_):=hx1
    have q2:=eq_true (of_decide_eq_true c1x)
    replace p1:=eq_true p1
    replace q1:=eq_true q1
    have HC1:=Aside0.mk hC1
    clear hC1
    go_wp2
    repeat (go_quiet (fail);try go_wp2)
    go_loopw [23] (fun v23 w'=>∃ j:Nat,v23=.int .i64 j∧Aside0 (j≤l.length)∧Aside0 (MS w' gb l m 0 j)∧Aside0 (Below gb w w')) (fun v23 _=>l.length - (intOf v23).toNat)
    case atStart=>exact ⟨0,rfl,⟨Nat.zero_le _⟩,HM2,HB⟩
    case round =>
     clear HM2 HB hx1
     obtain ⟨j,rfl,HJ,HM,HB⟩:=hrel
     by_cases c2:(j:Int)<(l.length:Int)
     ·
      have c2b:decide ((j:Int)<(l.length:Int))=true:=decide_eq_true c2
      have c2n:decide (j<l.length)=true:=by simpa using c2
      have hj:j<l.length:=of_decide_eq_true c2n
      have p3:(0:Int)≤(j:Int):=by omega
      have q3:=c2
      obtain ⟨ad2,e2,hx2⟩:=Kd.at_int (Kd.C_below HC1.out (by rw [hgb];exact HB.out)) (j:Int) p3 q3
      cases e2
      rw [rd_get _ _ hj] at hx2
      replace hx2:wr.cell? (ad2.add j)=some (.int .i64 (l[j])):=hx2
      obtain ⟨bv,hlk,w1_,hup,HM',hg⟩:=ms_step wr.drew gb l m 0 j (by omega) hj (HWL.out _ (List.getElem_mem hj)) (by have:=HLEN.out;simp only [maxLen];omega) HM.out
      replace hlk:(Instr.lookup 100 (.map (some gb)) (.int .i64 l[j]) false).run Try.prog wr.drew=.ok (.int .u64 bv) wr.drew:=hlk
      replace hup:(Instr.mapUpdate 100 (.map (some gb)) (.int .i64 l[j]) (.int .u64 (Go.bits .or .u64 bv 1))).run Try.prog wr.drew=.ok () w1_:=hup
      obtain ⟨xe,hxe⟩:∃ x,l[j]=x:=⟨_,rfl⟩
      rw [hxe] at hx2 hlk hup
      have HM3:=Aside0.mk HM'
      have HG:=Aside0.mk hg
      replace p3:=eq_true p3
      replace q3:=eq_true q3
      have q4:=eq_true hj
      clear HM' hg HM hj c2 hxe
      go_wp2
      refine start_ (n:=7) (S:=fun w'=>(Instr.lookup 100 (.map (some gb)) (.int .i64 xe) false).run Try.prog w'=.ok (.int .u64 bv) w') (ds:=[6]) #[false,false,false,false,false,false,false] (by kernel_rfl) rfl rfl (hlk) (fun hHeld=>?_)
      refine pure_ (i:=0) (N:=some 27) (v:=?_) (a':=?_) #[true,false,false,false,false,false,false] rfl rfl (by kernel_rfl) (fun _ _ _ h=>h) (Or.inl ⟨by rfl,?_⟩) ?_ ?_
      rotate_left
      ·
       intro w'
       go_simp
       with_reducible rfl
      rotate_left
      ·
       simp only [Act.put,List.setIfInBounds_toArray,List.set_cons_zero,List.set_cons_succ,i64_w,i32_w]
       rfl
      refine pure_ (i:=1) (N:=some 28) (v:=?_) (a':=?_) #[true,true,false,false,false,false,false] rfl rfl (by kernel_rfl) (fun _ _ _ h=>h) (Or.inl ⟨by rfl,?_⟩) ?_ ?_
      rotate_left
      ·
       intro w'
       go_simp
       with_reducible rfl
      rotate_left
      ·
       simp only [Act.put,List.setIfInBounds_toArray,List.set_cons_zero,List.set_cons_succ,i64_w,i32_w]
       rfl
      refine pure_ (i:=3) (N:=some 30) (v:=?_) (a':=?_) #[true,true,false,true,false,false,false] rfl rfl (by kernel_rfl) (fun _ _ _ h=>h) (Or.inl ⟨by rfl,?_⟩) ?_ ?_
      rotate_left
      ·
       intro w'
       go_simp
       with_reducible rfl
      rotate_left
      ·
       simp only [Act.put,List.setIfInBounds_toArray,List.set_cons_zero,List.set_cons_succ,i64_w,i32_w]
       rfl
      refine pure_ (i:=4) (N:=some 31) (v:=?_) (a':=?_) #[true,true,false,true,true,false,false] rfl rfl (by kernel_rfl) (fun _ _ _ h=>h) (Or.inl ⟨by rfl,?_⟩) ?_ ?_
      rotate_left
      ·
       intro w'
       go_simp
       with_reducible rfl
      rotate_left
      ·
       simp only [Act.put,List.setIfInBounds_toArray,List.set_cons_zero,List.set_cons_succ,i64_w,i32_w]
       rfl
      refine take_ (i:=2) (N:=some 29) (v:=?_) (a':=?_) #[true,true,true,true,true,false,false] rfl rfl (by kernel_rfl) (fun _ _ _ h=>h) (Or.inl ⟨by rfl,?_⟩) hHeld ?_ ?_
      rotate_left
      ·
       intro w' s0
       go_simp
       with_reducible rfl
      rotate_left
      ·
       simp only [Act.put,List.setIfInBounds_toArray,List.set_cons_zero,List.set_cons_succ,i64_w,i32_w]
       rfl
      refine pure_ (i:=5) (N:=some 32) (v:=?_) (a':=?_) #[true,true,true,true,true,true,false] rfl rfl (by kernel_rfl) (fun _ _ _ h=>h) (Or.inl ⟨by rfl,?_⟩) ?_ ?_
      rotate_left
      ·
       intro w'
       go_simp
       with_reducible rfl
      rotate_left
      ·
       simp only [Act.put,List.setIfInBounds_toArray,List.set_cons_zero,List.set_cons_succ,i64_w,i32_w]
       rfl
      refine last_ (i:=6) (N:=none) #[true,true,true,true,true,true,true] rfl rfl (by kernel_rfl) (by decide) (fun K hK=>?_)
      refine skip_ (w1:=w1_) (by rfl) rfl ?_ ?_
      ·
       exact run_update_op (by rfl) (by rfl) (by rfl) rfl hup
      refine hK.out _ _ ?_
      clear hK K
      refine done_ (by kernel_rfl) ?_
      go_wp2
      have hj2:=of_eq_true q4
      have hwj:wrap64 ((j:Int)+1)=((j+1:Nat):Int):=by rw [w64 (by omega) (by have:=HLEN.out;omega)];omega
      go_roundw
      case measure=>rw [hwj];simp only [intOf,Int.toNat_natCast];omega
      case rel=>exact ⟨j+1,by rw [hwj],⟨by omega⟩,HM3,⟨HB.out.drew.grown HG.out (by have:=HB.out.size;rw [hgb] at this;exact this) (fun k hk=>by cases hk;exact Nat.le_refl _)⟩⟩
     ·
      have c2b:decide ((j:Int)<(l.length:Int))=false:=decide_eq_false c2
      have c2n:decide (j<l.length)=false:=by simpa using c2
      go_wp2
      go_roundw
      case measure=>simp [intOf];omega
      case rel =>
       obtain rfl:j=l.length:=by have:=HJ.out;omega
       exact ⟨0+1,by go_num,⟨by omega⟩,⟨by simpa using ms_next HM.out⟩,HB⟩
   ·
    -- list 1
    have c1x:decide (1<(ls.length:Int))=true:=by simpa using c1
    have p1:(0:Int)≤((1:Nat):Int):=by omega
    have q1:((1:Nat):Int)<(ls.length:Int):=of_decide_eq_true c1b
    obtain ⟨ad1,A1,c1_,e1,hx1,hl1,hC1⟩:=at_L1 HL0.out ((1:Nat):Int) p1 q1
    cases e1
    have he:rd_L1 ls ((1:Nat):Int)=m:=HL1.out (by rcases HN.out with h|h<;>omega)
    rw [he] at hx1 hl1 hC1
    replace hx1:=(HB.out.cell (by rw [← hgb];exact World.block_lt_of_cell? w _ hx1)).trans hx1
    replace hx1:wr.cell? ⟨ad1.block,ad1.off+1,none⟩=some (.slice A1 m.length c1_):=hx1
    have q2:=eq_true (of_decide_eq_true c1x)
    replace p1:=eq_true p1
    replace q1:=eq_true q1
    have HC1:=Aside0.mk hC1
    clear hC1
    go_wp2
    repeat (go_quiet (fail);try go_wp2)
    go_loopw [23] (fun v23 w'=>∃ j:Nat,v23=.int .i64 j∧Aside0 (j≤m.length)∧Aside0 (MS w' gb l m 1 j)∧Aside0 (Below gb w w')) (fun v23 _=>m.length - (intOf v23).toNat)
    case atStart=>exact ⟨0,rfl,⟨Nat.zero_le _⟩,HM2,HB⟩
    case round =>
     clear HM2 HB hx1
     obtain ⟨j,rfl,HJ,HM,HB⟩:=hrel
     by_cases c2:(j:Int)<(m.length:Int)
     ·
      have c2b:decide ((j:Int)<(m.length:Int))=true:=decide_eq_true c2
      have c2n:decide (j<m.length)=true:=by simpa using c2
      have hj:j<m.length:=of_decide_eq_true c2n
      have p3:(0:Int)≤(j:Int):=by omega
      have q3:=c2
      obtain ⟨ad2,e2,hx2⟩:=Kd.at_int (Kd.C_below HC1.out (by rw [hgb];exact HB.out)) (j:Int) p3 q3
      cases e2
      rw [rd_get _ _ hj] at hx2
      replace hx2:wr.cell? (ad2.add j)=some (.int .i64 (m[j])):=hx2
      obtain ⟨bv,hlk,w1_,hup,HM',hg⟩:=ms_step wr.drew gb l m 1 j (by omega) hj (HWM.out _ (List.getElem_mem hj)) (by have:=HLEN.out;simp only [maxLen];omega) HM.out
      replace hlk:(Instr.lookup 100 (.map (some gb)) (.int .i64 m[j]) false).run Try.prog wr.drew=.ok (.int .u64 bv) wr.drew:=hlk
      replace hup:(Instr.mapUpdate 100 (.map (some gb)) (.int .i64 m[j]) (.int .u64 (Go.bits .or .u64 bv 2))).run Try.prog wr.drew=.ok () w1_:=hup
      obtain ⟨xe,hxe⟩:∃ x,m[j]=x:=⟨_,rfl⟩
      rw [hxe] at hx2 hlk hup
      have HM3:=Aside0.mk HM'
      have HG:=Aside0.mk hg
      replace p3:=eq_true p3
      replace q3:=eq_true q3
      have q4:=eq_true hj
      clear HM' hg HM hj c2 hxe
      go_wp2
      refine start_ (n:=7) (S:=fun w'=>(Instr.lookup 100 (.map (some gb)) (.int .i64 xe) false).run Try.prog w'=.ok (.int .u64 bv) w') (ds:=[6]) #[false,false,false,false,false,false,false] (by kernel_rfl) rfl rfl (hlk) (fun hHeld=>?_)
      refine pure_ (i:=0) (N:=some 27) (v:=?_) (a':=?_) #[true,false,false,false,false,false,false] rfl rfl (by kernel_rfl) (fun _ _ _ h=>h) (Or.inl ⟨by rfl,?_⟩) ?_ ?_
      rotate_left
      ·
       intro w'
       go_simp
       with_reducible rfl
      rotate_left
      ·
       simp only [Act.put,List.setIfInBounds_toArray,List.set_cons_zero,List.set_cons_succ,i64_w,i32_w]
       rfl
      refine pure_ (i:=1) (N:=some 28) (v:=?_) (a':=?_) #[true,true,false,false,false,false,false] rfl rfl (by kernel_rfl) (fun _ _ _ h=>h) (Or.inl ⟨by rfl,?_⟩) ?_ ?_
      rotate_left
      ·
       intro w'
       go_simp
       with_reducible rfl
      rotate_left
      ·
       simp only [Act.put,List.setIfInBounds_toArray,List.set_cons_zero,List.set_cons_succ,i64_w,i32_w]
       rfl
      refine pure_ (i:=3) (N:=some 30) (v:=?_) (a':=?_) #[true,true,false,true,false,false,false] rfl rfl (by kernel_rfl) (fun _ _ _ h=>h) (Or.inl ⟨by rfl,?_⟩) ?_ ?_
      rotate_left
      ·
       intro w'
       go_simp
       with_reducible rfl
      rotate_left
      ·
       simp only [Act.put,List.setIfInBounds_toArray,List.set_cons_zero,List.set_cons_succ,i64_w,i32_w]
       rfl
      refine pure_ (i:=4) (N:=some 31) (v:=?_) (a':=?_) #[true,true,false,true,true,false,false] rfl rfl (by kernel_rfl) (fun _ _ _ h=>h) (Or.inl ⟨by rfl,?_⟩) ?_ ?_
      rotate_left
      ·
       intro w'
       go_simp
       with_reducible rfl
      rotate_left
      ·
       simp only [Act.put,List.setIfInBounds_toArray,List.set_cons_zero,List.set_cons_succ,i64_w,i32_w]
       rfl
      refine take_ (i:=2) (N:=some 29) (v:=?_) (a':=?_) #[true,true,true,true,true,false,false] rfl rfl (by kernel_rfl) (fun _ _ _ h=>h) (Or.inl ⟨by rfl,?_⟩) hHeld ?_ ?_
      rotate_left
      ·
       intro w' s0
       go_simp
       with_reducible rfl
      rotate_left
      ·
       simp only [Act.put,List.setIfInBounds_toArray,List.set_cons_zero,List.set_cons_succ,i64_w,i32_w]
       rfl
      refine pure_ (i:=5) (N:=some 32) (v:=?_) (a':=?_) #[true,true,true,true,true,true,false] rfl rfl (by kernel_rfl) (fun _ _ _ h=>h) (Or.inl ⟨by rfl,?_⟩) ?_ ?_
      rotate_left
      ·
       intro w'
       go_simp
       with_reducible rfl
      rotate_left
      ·
       simp only [Act.put,List.setIfInBounds_toArray,List.set_cons_zero,List.set_cons_succ,i64_w,i32_w]
       rfl
      refine last_ (i:=6) (N:=none) #[true,true,true,true,true,true,true] rfl rfl (by kernel_rfl) (by decide) (fun K hK=>?_)
      refine skip_ (w1:=w1_) (by rfl) rfl ?_ ?_
      ·
       exact run_update_op (by rfl) (by rfl) (by rfl) rfl hup
      refine hK.out _ _ ?_
      clear hK K
      refine done_ (by kernel_rfl) ?_
      go_wp2
      have hj2:=of_eq_true q4
      have hwj:wrap64 ((j:Int)+1)=((j+1:Nat):Int):=by rw [w64 (by omega) (by have:=HLEN.out;omega)];omega
      go_roundw
      case measure=>rw [hwj];simp only [intOf,Int.toNat_natCast];omega
      case rel=>exact ⟨j+1,by rw [hwj],⟨by omega⟩,HM3,⟨HB.out.drew.grown HG.out (by have:=HB.out.size;rw [hgb] at this;exact this) (fun k hk=>by cases hk;exact Nat.le_refl _)⟩⟩
     ·
      have c2b:decide ((j:Int)<(m.length:Int))=false:=decide_eq_false c2
      have c2n:decide (j<m.length)=false:=by simpa using c2
      go_wp2
      go_roundw
      case measure=>simp [intOf];omega
      case rel =>
       obtain rfl:j=m.length:=by have:=HJ.out;omega
       exact ⟨1+1,by go_num,⟨by omega⟩,⟨by simpa [MS] using HM.out⟩,HB⟩
  ·
   have c1b:decide ((k:Int)<(ls.length:Int))=false:=decide_eq_false c1
   have c1n:decide (k<ls.length)=false:=by simpa using c1
   have hD:BM wr gb l m:=by
    have h0:=HM.out
    have hk:k=ls.length:=by have:=HK.out;omega
    rcases HN.out with ⟨h1,h2⟩|h1
    ·
     rw [hk,h1,if_pos (by decide)] at h0
     subst h2
     simpa [MS] using h0
    ·
     rw [hk,h1,if_neg (by decide)] at h0
     exact h0
   obtain ⟨D,hown,hat0,hhas0⟩:=hD
   have HAT:=Aside0.mk hat0
   have HHAS:=Aside0.mk hhas0
   clear hat0 hhas0 HM HE HC HL1 HL0 HN HWL HWM
   go_wp2_with (first|(at_range;refine wpList_range_own _ rfl _ 100 rfl 3 80 law3 Try.underlying100 _ gb _ _ rfl hown ?_;intro w0 hrg0 hg0 hs0)|go_in)
   have HB0:=Aside0.mk (HB.out.grown hg0 (by have:=HB.out.size;simpa [hgb] using this) (fun k hk=>by cases hk))
   have HCN:=Aside0.mk hown.size_le
   have hrl:gb≤wr.heap.size:=by have:=HB.out.size;simpa [hgb] using this
   clear hg0 hs0 hown HB
   generalize hrb:wr.heap.size=rb at *
   go_loopw [10] (fun v10 w'=>∃ (left:Lit→Bool) (cnt:Nat) (L:List Int),w'.ranges Try.prog 3 (plainElem Try.prog 80) gb rb (l.length+m.length) D left cnt∧Aside0 (Kd.R (Kd.int .i64) 3 w' gb (fun _=>True) v10 L)∧Aside0 (Seen p l m left L)∧Aside0 (L.length+cnt≤l.length+m.length)∧Aside0 (∀ z,left z=true→Maps.has D z=true)∧Aside0 (Below gb w w')) (fun _ w'=>w'.rangeLeft gb rb)
   case atStart=>exact ⟨_,_,[],hrg0,⟨Kd.R_nil _ _ _ _ _⟩,⟨seen_start HHAS.out⟩,⟨by have:=HCN.out;simpa using this⟩,⟨fun z hz=>hz⟩,HB0⟩
   case round =>
    clear hrg0 HB0
    obtain ⟨left,cnt,L,hrg,HR,HG,HLN,HLH,HB⟩:=hrel
    go_wp2_with (first|(at_next;refine wpList_next_ranges_ii _ rfl _ rfl 3 80 .i64 .u64 law3 Try.underlying3 Try.underlying80 gb rb _ _ _ _ rfl hrg ?_ ?_)|go_in)
    ·
     intro hc0 hl0
     subst hc0
     have hsrt:=Aside0.mk (seen_end HG.out hl0)
     clear hrg hl0
     go_wp2_with (go_at_call 59;refine (sort_own u10 L gb (fun _=>True) _ HR.out (by have:=HLN.out;have:=HLEN.out;omega)).mono ?_;rintro e w' ⟨rfl,HR',hg⟩)
     go_ret
     exact ⟨_,rfl,by rw [hgb,← hsrt.out];exact HR',by rw [hgb];exact HB.out.grown hg (by have:=HB.out.size;omega) (r_base HR.out)⟩
    ·
     intro x c w1 cnt1 hwx hwc hlx hat hrg1 hlt hg1 hs1 hen
     have hc:c=bval l m x:=by
      have h1:=hat (.lit (.int .u64 0))
      rw [HAT.out x] at h1
      injection h1 with h1
      injection h1 with _ h1
      exact h1.symm
     subst hc
     have hmem:x∈l∨x∈m:=of_decide_eq_true ((HHAS.out x).symm.trans (HLH.out _ hlx))
     obtain ⟨hn1,hn2⟩:=ranges_ne hrg (Kd.R_typed HR.out)
     have HR1:=Aside0.mk (r_iter HR.out hg1 hn2)
     have HB1:=Aside0.mk (HB.out.grown hg1 (by have:=HB.out.size;omega) (fun k hk=>by cases hk;exact hrl))
     have HLH1:Aside0 (∀ z,(left z&&!z.sameKey (.int .i64 x))=true→Maps.has D z=true):=⟨fun z hz=>HLH.out z (by simp only [Bool.and_eq_true] at hz;exact hz.1)⟩
     have hm0:=hrg.left_eq
     have HRG1:=Aside0.mk hrg1
     have HGR:=HG
     have HSZ:Aside0 (gb≤wr.heap.size):=⟨by have:=HB.out.size;omega⟩
     clear hrg hat HR HB hn1 hn2 HLH hg1 hrg1 HG
     obtain ⟨px,hpx⟩:∃ q,p (bval l m x)=q:=⟨_,rfl⟩
     have HFx:Aside0 (∀ w,Calls Try.prog g #[.int .u64 (bval l m x)] w fun e w'=>e=.returned (.bool px)∧Below w.heap.size w w'):=⟨fun w=>by have:=HF.out (bval l m x) w;rw [hpx] at this;exact this⟩
     generalize hbv:bval l m x=bv at *
     cases px with
     | false =>
      have HG1:=Aside0.mk (seen_no HGR.out hlx (by rw [hbv];exact hpx))
      clear HGR hlx hmem hwx hwc
      go_wp2_with (first|(refine goesLv_ (fr:=#[]) (some 44) rfl rfl hf hname hbody #[.int .u64 bv] rfl (by rfl) (by first|rfl|(simp;rfl)|simp) ?_;refine (HFx.out _).mono ?_;rintro e w2 ⟨rfl,hb⟩;refine ⟨_,rfl,?_⟩;have HR2:=Aside0.mk (Kd.R_below HR1.out hb);have HRG2:=Aside0.mk (HRG1.out.kept (grown_of_below hb none) (by simp) (by simp));have HB2:=Aside0.mk (below_then HB1.out (by have:=HB1.out.size;omega) hb);clear HR1 HRG1 HB1 hb)|go_in)
      try go_frame
      have hrg2:=HRG2.out
      go_roundw
      case measure=>rw [hrg2.left_eq,hm0];exact hlt
      case rel=>exact ⟨_,cnt1,L,hrg2,HR2,HG1,⟨by have:=HLN.out;omega⟩,HLH1,HB2⟩
     | true =>
      have HG1:=Aside0.mk (seen_yes HGR.out hlx hmem (by rw [hbv];exact hpx))
      clear HGR hlx hmem hwx hwc
      go_wp2_with (first|(refine goesLv_ (fr:=#[]) (some 44) rfl rfl hf hname hbody #[.int .u64 bv] rfl (by rfl) (by first|rfl|(simp;rfl)|simp) ?_;refine (HFx.out _).mono ?_;rintro e w2 ⟨rfl,hb⟩;refine ⟨_,rfl,?_⟩;have HR2:=Aside0.mk (Kd.R_below HR1.out hb);have HRG2:=Aside0.mk (HRG1.out.kept (grown_of_below hb none) (by simp) (by simp));have HB2:=Aside0.mk (below_then HB1.out (by have:=HB1.out.size;omega) hb);clear HR1 HRG1 HB1 hb)|((with_reducible refine gate_builtin (b:=.append) (xs:=#[.tmp 45,.tmp 47]) rfl ?_);at_builtin;refine Kd.R_append (Kd.int .i64) (w0:=w) gb rfl (.tmp 45) (.tmp 47) 26 3 (.int .i64 0) 8 rfl Try.underlying26 info3 rfl (by decide) (by omega) u10 L x [.int .i64 x] (fun _=>True) (fun _=>False) rfl rfl ?aP (fun _ hk=>hk.elim) ?aF ?aO ?aB ?aS ?aL ?_;(case aP=>exact rfl);(case aF=>exact (fun _ _=>trivial));(case aO=>exact HR2.out);(case aB=>exact HB2.out);(case aS=>exact (by have:=HB2.out.size;omega));(case aL=>have:=HLN.out;have:=HLEN.out;omega);intro v3_ w3 ho hb hg hat;have hne3:=ranges_ne HRG2.out (Kd.R_typed HR2.out);have HRG3:=Aside0.mk (HRG2.out.kept hg hne3.1 hne3.2);have HR3:=Aside0.mk ho;have HB3:=Aside0.mk hb;clear HR2 HRG2 HB2 ho hb hg hat hne3)|go_in)
      try go_frame
      have hrg3:=HRG3.out
      go_roundw
      case measure=>rw [hrg3.left_eq,hm0];exact hlt
      case rel=>exact ⟨_,cnt1,L++[x],hrg3,HR3,HG1,⟨by have:=HLN.out;simp only [List.length_append,List.length_singleton];omega⟩,HLH1,HB3⟩
end Go.Proofs.Ytlgkeaildncojaa.Q
end
section
namespace Go.Proofs.Ytlgkeaildncojaa.Q
open Go.RowKit Go.Proofs.YtlgkeaildncojaaW.PrintWords Go.Proofs.YtlgkeaildncojaaW.PrintLast Go.Proofs.YtlgkeaildncojaaW.PrintMore
theorem fit42 (x:Int) (w:World):Calls Try.prog 42 #[.int .u64 x] w fun e w'=>e=.returned (.bool ((fun _=>true) x))∧Below w.heap.size w w':=by
 go_enter Try.func42,Try.ntmps42
 go_wp2
 go_ret
 exact ⟨rfl,Below.refl _ _⟩
def okl (l:List Int):Bool:=decide (l.length<1000000000)&&l.all (fun x=>decide (wrap64 x=x))
theorem okl_len {l:List Int} (h:okl l=true):l.length<1000000000:=by
 simp only [okl,Bool.and_eq_true,decide_eq_true_eq] at h
 exact h.1
theorem okl_wf {l:List Int} (h:okl l=true):∀ x∈l,(Lit.int .i64 x).wf=true:=by
 simp only [okl,Bool.and_eq_true,List.all_eq_true,decide_eq_true_eq] at h
 intro x hx
 have h1:=h.2 x hx
 unfold wrap64 at h1
 have e1:IntKind.i64.min=-9223372036854775808:=by decide
 have e2:IntKind.i64.max=9223372036854775807:=by decide
 simp only [Lit.wf,e1,e2,Bool.and_eq_true,decide_eq_true_eq]
 omega
theorem c_one {w:World} {A:Option Addr} {l:List Int} {c:Nat} (h:Kd.C (Kd.int .i64) w A l.length l) (hc:l.length≤c):Kd.C (Kd.slice 3 (Kd.int .i64)) (w.alloc (.cells #[.slice A l.length c] 26)) (some ⟨w.heap.size,0,none⟩) 1 [l]:=by
 have hb:Below w.heap.size w (w.alloc (.cells #[.slice A l.length c] 26)):=(Below.refl _ _).alloc (Nat.le_refl _) _
 refine ⟨rfl,by omega,fun _=>⟨_,rfl,fun j p hj=>?_⟩⟩
 cases j with
 | zero =>
  simp only [List.getElem?_cons_zero,Option.some.injEq] at hj
  subst hj
  refine ⟨[.slice A l.length c],rfl,⟨A,c,rfl,hc,Kd.C_below h hb⟩,fun i u hu=>?_⟩
  cases i with
  | zero =>
   simp only [List.getElem?_cons_zero,Option.some.injEq] at hu
   subst hu
   exact (blk_cell (heap_alloc_new w _) 0).trans rfl
  | succ i=>simp at hu
 | succ j=>simp at hj
theorem hset_congr {l m:List Int} (h:∀ y,y∈l↔y∈m):hset l=hset m:=sorted_ext _ _ (hset_sorted l) (hset_sorted m) (fun y=>by rw [mem_hset,mem_hset];exact h y)
def norm_f (l:List Int):Option (List Int):=if okl l=true then some (hset l) else none
theorem norm_calls (A0:Option Addr) (c0:Nat) (l0:List Int) (r:List Int) (w:World) (hr0:Kd.C (Kd.int .i64) w A0 l0.length l0) (hc0:l0.length≤c0) (h:norm_f l0=some r) :
  Calls Try.prog 29 #[.slice A0 l0.length c0] w fun e w'=>∃ v0_:Value,e=.returned (v0_)∧Kd.R (Kd.int .i64) 3 w' w.heap.size (fun _=>True) v0_ r∧Below w.heap.size w w':=by
 unfold norm_f at h
 by_cases hk:okl l0=true
 ·
  rw [if_pos hk] at h
  obtain rfl:=Option.some.inj h
  have hch:=chosen_calls (fun _=>true) 42 Try.f42 Try.func42 rfl rfl fit42 (some ⟨w.heap.size,0,none⟩) [l0] 1 _ l0 [] (c_one hr0 hc0) (Nat.le_refl _) (.inl ⟨rfl,rfl⟩) rfl (fun h=>by cases h) (okl_wf hk) (fun x hx=>by cases hx) (by have:=okl_len hk;simp only [List.length_nil];omega)
  have HCH:=Aside0.mk hch
  have HB:=(Below.refl w.heap.size w).alloc (Nat.le_refl _) (.cells #[.slice A0 l0.length c0] 26)
  clear hch hr0 h
  go_enter Try.func29,Try.ntmps29
  go_wp2_with (first|(go_at_call 41;(refine HCH.out.mono ?_);rintro e w3 ⟨v,rfl,ho,hb⟩)|go_in)
  go_ret
  have e:hset ((l0++[]).filter fun _=>true)=hset l0:=hset_congr (fun y=>by simp)
  rw [e] at ho
  exact ⟨_,rfl,Kd.R_lower ho HB.size,below_then HB HB.size hb⟩
 ·
  rw [if_neg hk] at h
  cases h
end Go.Proofs.Ytlgkeaildncojaa.Q
end
section
namespace Go.Proofs.Ytlgkeaildncojaa.Q
open Go.RowKit Go.Proofs.YtlgkeaildncojaaW.PrintWords Go.Proofs.YtlgkeaildncojaaW.PrintLast Go.Proofs.YtlgkeaildncojaaW.PrintMore
attribute [local go_sem] max2_int min2_int max_two min_two max_three min_three max_four min_four   -- for this text's walks alone
set_option linter.unusedVariables false
set_option linter.unusedSimpArgs false
def sets_Norm.f (l:List Int):Option (List Int):=norm_f l
theorem sets_Norm.calls (A0:Option Addr) (c0:Nat) (l0:List Int) (r:List Int) (w:World) (hr0:Kd.C (Kd.int .i64) w A0 l0.length l0) (hc0:l0.length≤c0) (h:sets_Norm.f l0=some r) :
  Calls Try.prog 29 #[.slice A0 l0.length c0] w fun e w'=>∃ v0_:Value,e=.returned (v0_)∧Kd.R (Kd.int .i64) 3 w' w.heap.size (fun _=>True) v0_ r∧Below w.heap.size w w':=norm_calls A0 c0 l0 r w hr0 hc0 h
end Go.Proofs.Ytlgkeaildncojaa.Q
end
