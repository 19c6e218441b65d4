/- Texts of this claim, merged by wip/tools/pack.py: Qx0, Hw, Sl, Cc, Qx2. -/
import Derived.Test.YtlgkeaildncojaaZ21
import Derived.Test.YtlgkeaildncojaaProg
import Derived.Deep.MidRow
import Derived.RangeFuncNested
import Derived.Deep.Upon
import Derived.Shelf.Spec.SlicesGrow
section
namespace Go.Proofs.Ytlgkeaildncojaa.Q
open Go.RowKit Go.Proofs.YtlgkeaildncojaaW.PrintWords Go.Proofs.YtlgkeaildncojaaW.PrintLast Go.Proofs.YtlgkeaildncojaaW.PrintMore
attribute [local go_sem] max2_int min2_int max_two min_two max_three min_three max_four min_four   -- for this text's walks alone
set_option linter.unusedVariables false
set_option linter.unusedSimpArgs false
def errW:Option Int→Value
 | none=>.nilIface
 | some c=>.iface 0 (.int .i64 c)
theorem errW_none:errW none=.nilIface:=rfl
theorem errW_some (c:Int):errW (some c)=.iface 0 (.int .i64 c):=rfl
theorem info3:(Try.prog.info? 3).map (fun i=>(i.zero,i.size,i.bytes))=some (some (.int .i64 0),1,8):=by kernel_rfl
theorem info4:(Try.prog.info? 4).map (fun i=>(i.zero,i.size,i.bytes))=some (some (.bool false),1,1):=by kernel_rfl
theorem info24:(Try.prog.info? 24).map (fun i=>(i.zero,i.size,i.bytes))=some (some (.agg #[(.slice none 0 0)]),1,24):=by kernel_rfl
theorem info26:(Try.prog.info? 26).map (fun i=>(i.zero,i.size,i.bytes))=some (some (.slice none 0 0),1,24):=by kernel_rfl
theorem info49:(Try.prog.info? 49).map (fun i=>(i.zero,i.size,i.bytes))=some (some (.agg #[(.slice none 0 0),(.slice none 0 0),(.slice none 0 0),(.slice none 0 0),(.slice none 0 0)]),5,120):=by kernel_rfl
theorem info55:(Try.prog.info? 55).map (fun i=>(i.zero,i.size,i.bytes))=some (some (.agg #[(.int .i64 0),(.int .i64 0)]),2,16):=by kernel_rfl
theorem info60:(Try.prog.info? 60).map (fun i=>(i.zero,i.size,i.bytes))=some (some (.agg #[(.int .i64 0),(.int .i64 0)]),2,16):=by kernel_rfl
def rd_L1 (xs:List (List Int)) (i:Int):(List Int):=xs.getD i.toNat ([]:List Int)
theorem at_L1 {w:World} {A:Option Addr} {n:Nat} {xs:List (List Int)} (h:Kd.C (Kd.slice 3 (Kd.int .i64)) w A n xs) (i:Int) (h0:0≤i) (h1:i<n):∃ ad A0 c0,A=some ad∧w.cell? (ad.add i.toNat)=some (.slice A0 (rd_L1 xs i).length c0)∧(rd_L1 xs i).length≤c0∧(Kd.int .i64).C w A0 (rd_L1 xs i).length (rd_L1 xs i):=by
 obtain ⟨ad,c,e,_,hK,hc0⟩:=Kd.C_get h ([]:List Int) i h0 h1
 have hc:∀ j u,c[j]?=some u→w.cell? (ad.add (i.toNat*1+j))=some u:=hc0
 obtain ⟨A0,c0,rfl,l0,g0⟩:=hK
 exact ⟨ad,A0,c0,e,by have hq:=hc 0 _ rfl;rwa [Nat.mul_one,Nat.add_zero] at hq,l0,g0⟩
structure S60 where
 f0:Int
 f1:Int
def z60:S60:=⟨(0:Int),(0:Int)⟩
def k60:Kd S60:=Kd.iso (Kd.pair (Kd.int .i64) (Kd.int .i64)) (fun x:S60=>(x.f0,x.f1))
theorem k60_heap:Kd.Heap k60:=Kd.heap_iso _ (Kd.heap_pair (Kd.heap_int .i64) (Kd.heap_int .i64))
theorem k60_open {w:World} {x:S60} {cs:List Value} (h:k60.K w x cs):cs=[.int .i64 x.f0,.int .i64 x.f1]:=by
 obtain ⟨_,_,rfl,rfl,rfl⟩:=h
 exact rfl
theorem k60_mk (w:World) (x:S60) :k60.K w x [.int .i64 x.f0,.int .i64 x.f1]:=⟨[.int .i64 x.f0],[.int .i64 x.f1],rfl,rfl,rfl⟩
theorem k60_mkM (w:World) (base:Nat) (ok:Nat→Prop) (x:S60) :k60.M w base ok x [.int .i64 x.f0,.int .i64 x.f1]:=⟨[.int .i64 x.f0],[.int .i64 x.f1],rfl,rfl,rfl⟩
def rd_T60 (xs:List S60) (i:Int):S60:=xs.getD i.toNat z60
theorem at_T60 {w:World} {A:Option Addr} {n:Nat} {xs:List S60} (h:Kd.C k60 w A n xs) (i:Int) (h0:0≤i) (h1:i<n):∃ ad ,A=some ad∧w.cell? (ad.add (i.toNat*2))=some (.int .i64 (rd_T60 xs i).f0)∧w.cell? ⟨(ad.add (i.toNat*2)).block,(ad.add (i.toNat*2)).off+1,none⟩=some (.int .i64 (rd_T60 xs i).f1):=by
 obtain ⟨ad,c,e,_,hK,hc0⟩:=Kd.C_get h z60 i h0 h1
 have hc:∀ j u,c[j]?=some u→w.cell? (ad.add (i.toNat*2+j))=some u:=hc0
 obtain rfl:=k60_open hK
 exact ⟨ad,e,hc 0 _ rfl,by rw [← add_field _ _ 1 (by omega)];exact hc 1 _ rfl⟩
structure S49 where
 f0:(List (List Int))
 f1:(List (List Int))
 f2:(List (List Int))
 f3:(List Int)
 f4:(List S60)
def z49:S49:=⟨([]:List (List Int)),([]:List (List Int)),([]:List (List Int)),([]:List Int),([]:List S60)⟩
def k49:Kd S49:=Kd.iso (Kd.pair (Kd.slice 26 (Kd.slice 3 (Kd.int .i64))) (Kd.pair (Kd.slice 26 (Kd.slice 3 (Kd.int .i64))) (Kd.pair (Kd.slice 26 (Kd.slice 3 (Kd.int .i64))) (Kd.pair (Kd.slice 3 (Kd.int .i64)) (Kd.slice 60 k60))))) (fun x:S49=>(x.f0,x.f1,x.f2,x.f3,x.f4))
theorem k49_heap:Kd.Heap k49:=Kd.heap_iso _ (Kd.heap_pair (Kd.heap_slice 26 (Kd.heap_slice 3 (Kd.heap_int .i64))) (Kd.heap_pair (Kd.heap_slice 26 (Kd.heap_slice 3 (Kd.heap_int .i64))) (Kd.heap_pair (Kd.heap_slice 26 (Kd.heap_slice 3 (Kd.heap_int .i64))) (Kd.heap_pair (Kd.heap_slice 3 (Kd.heap_int .i64)) (Kd.heap_slice 60 k60_heap)))))
theorem k49_open {w:World} {x:S49} {cs:List Value} (h:k49.K w x cs):∃ A0 c0 A1 c1 A2 c2 A3 c3 A4 c4,cs=[.slice A0 x.f0.length c0,.slice A1 x.f1.length c1,.slice A2 x.f2.length c2,.slice A3 x.f3.length c3,.slice A4 x.f4.length c4]∧x.f0.length≤c0∧(Kd.slice 3 (Kd.int .i64)).C w A0 x.f0.length x.f0∧x.f1.length≤c1∧(Kd.slice 3 (Kd.int .i64)).C w A1 x.f1.length x.f1∧x.f2.length≤c2∧(Kd.slice 3 (Kd.int .i64)).C w A2 x.f2.length x.f2∧x.f3.length≤c3∧(Kd.int .i64).C w A3 x.f3.length x.f3∧x.f4.length≤c4∧k60.C w A4 x.f4.length x.f4:=by
 obtain ⟨_,_,rfl,⟨A0,c0,rfl,l0,g0⟩,⟨_,_,rfl,⟨A1,c1,rfl,l1,g1⟩,⟨_,_,rfl,⟨A2,c2,rfl,l2,g2⟩,⟨_,_,rfl,⟨A3,c3,rfl,l3,g3⟩,⟨A4,c4,rfl,l4,g4⟩⟩⟩⟩⟩:=h
 exact ⟨A0,c0,A1,c1,A2,c2,A3,c3,A4,c4,rfl,l0,g0,l1,g1,l2,g2,l3,g3,l4,g4⟩
theorem k49_mk (w:World) (x:S49) {A0:Option Addr} {c0:Nat} (l0:x.f0.length≤c0) (g0:(Kd.slice 3 (Kd.int .i64)).C w A0 x.f0.length x.f0) {A1:Option Addr} {c1:Nat} (l1:x.f1.length≤c1) (g1:(Kd.slice 3 (Kd.int .i64)).C w A1 x.f1.length x.f1) {A2:Option Addr} {c2:Nat} (l2:x.f2.length≤c2) (g2:(Kd.slice 3 (Kd.int .i64)).C w A2 x.f2.length x.f2) {A3:Option Addr} {c3:Nat} (l3:x.f3.length≤c3) (g3:(Kd.int .i64).C w A3 x.f3.length x.f3) {A4:Option Addr} {c4:Nat} (l4:x.f4.length≤c4) (g4:k60.C w A4 x.f4.length x.f4):k49.K w x [.slice A0 x.f0.length c0,.slice A1 x.f1.length c1,.slice A2 x.f2.length c2,.slice A3 x.f3.length c3,.slice A4 x.f4.length c4]:=⟨[.slice A0 x.f0.length c0],[.slice A1 x.f1.length c1,.slice A2 x.f2.length c2,.slice A3 x.f3.length c3,.slice A4 x.f4.length c4],rfl,⟨A0,c0,rfl,l0,g0⟩,⟨[.slice A1 x.f1.length c1],[.slice A2 x.f2.length c2,.slice A3 x.f3.length c3,.slice A4 x.f4.length c4],rfl,⟨A1,c1,rfl,l1,g1⟩,⟨[.slice A2 x.f2.length c2],[.slice A3 x.f3.length c3,.slice A4 x.f4.length c4],rfl,⟨A2,c2,rfl,l2,g2⟩,⟨[.slice A3 x.f3.length c3],[.slice A4 x.f4.length c4],rfl,⟨A3,c3,rfl,l3,g3⟩,⟨A4,c4,rfl,l4,g4⟩⟩⟩⟩⟩
theorem k49_mkM (w:World) (base:Nat) (ok:Nat→Prop) (x:S49) {v0:Value} (g0:(Kd.slice 3 (Kd.int .i64)).R 26 w base ok v0 x.f0) {v1:Value} (g1:(Kd.slice 3 (Kd.int .i64)).R 26 w base ok v1 x.f1) {v2:Value} (g2:(Kd.slice 3 (Kd.int .i64)).R 26 w base ok v2 x.f2) {v3:Value} (g3:(Kd.int .i64).R 3 w base ok v3 x.f3) {v4:Value} (g4:k60.R 60 w base ok v4 x.f4):k49.M w base ok x [v0,v1,v2,v3,v4]:=⟨[v0],[v1,v2,v3,v4],rfl,⟨v0,rfl,g0⟩,⟨[v1],[v2,v3,v4],rfl,⟨v1,rfl,g1⟩,⟨[v2],[v3,v4],rfl,⟨v2,rfl,g2⟩,⟨[v3],[v4],rfl,⟨v3,rfl,g3⟩,⟨v4,rfl,g4⟩⟩⟩⟩⟩
theorem k49_openF {W:World} {ok:Nat→Prop} {x:S49} {cs:List Value} (h:Kd.FK k49 W ok x cs):∃ A0 c0 A1 c1 A2 c2 A3 c3 A4 c4,cs=[.slice A0 x.f0.length c0,.slice A1 x.f1.length c1,.slice A2 x.f2.length c2,.slice A3 x.f3.length c3,.slice A4 x.f4.length c4]∧x.f0.length≤c0∧Kd.F (Kd.slice 3 (Kd.int .i64)) W ok A0 x.f0.length x.f0∧x.f1.length≤c1∧Kd.F (Kd.slice 3 (Kd.int .i64)) W ok A1 x.f1.length x.f1∧x.f2.length≤c2∧Kd.F (Kd.slice 3 (Kd.int .i64)) W ok A2 x.f2.length x.f2∧x.f3.length≤c3∧Kd.F (Kd.int .i64) W ok A3 x.f3.length x.f3∧x.f4.length≤c4∧Kd.F k60 W ok A4 x.f4.length x.f4:=by
 obtain ⟨A0,c0,A1,c1,A2,c2,A3,c3,A4,c4,rfl,l0,_,l1,_,l2,_,l3,_,l4,_⟩:=k49_open (Kd.FK_now h)
 exact ⟨A0,c0,A1,c1,A2,c2,A3,c3,A4,c4,rfl,l0,(fun W' hW=>by obtain ⟨A0_,c0_,A1_,c1_,A2_,c2_,A3_,c3_,A4_,c4_,he,l0_,g0_,l1_,g1_,l2_,g2_,l3_,g3_,l4_,g4_⟩:=k49_open (h W' hW);injection (Option.some.inj (show some (Value.slice A0 x.f0.length c0)=some (Value.slice A0_ x.f0.length c0_) from congrArg (fun l=>l[0]?) he)) with ha_ _ _;rw [ha_];exact g0_),l1,(fun W' hW=>by obtain ⟨A0_,c0_,A1_,c1_,A2_,c2_,A3_,c3_,A4_,c4_,he,l0_,g0_,l1_,g1_,l2_,g2_,l3_,g3_,l4_,g4_⟩:=k49_open (h W' hW);injection (Option.some.inj (show some (Value.slice A1 x.f1.length c1)=some (Value.slice A1_ x.f1.length c1_) from congrArg (fun l=>l[1]?) he)) with ha_ _ _;rw [ha_];exact g1_),l2,(fun W' hW=>by obtain ⟨A0_,c0_,A1_,c1_,A2_,c2_,A3_,c3_,A4_,c4_,he,l0_,g0_,l1_,g1_,l2_,g2_,l3_,g3_,l4_,g4_⟩:=k49_open (h W' hW);injection (Option.some.inj (show some (Value.slice A2 x.f2.length c2)=some (Value.slice A2_ x.f2.length c2_) from congrArg (fun l=>l[2]?) he)) with ha_ _ _;rw [ha_];exact g2_),l3,(fun W' hW=>by obtain ⟨A0_,c0_,A1_,c1_,A2_,c2_,A3_,c3_,A4_,c4_,he,l0_,g0_,l1_,g1_,l2_,g2_,l3_,g3_,l4_,g4_⟩:=k49_open (h W' hW);injection (Option.some.inj (show some (Value.slice A3 x.f3.length c3)=some (Value.slice A3_ x.f3.length c3_) from congrArg (fun l=>l[3]?) he)) with ha_ _ _;rw [ha_];exact g3_),l4,(fun W' hW=>by obtain ⟨A0_,c0_,A1_,c1_,A2_,c2_,A3_,c3_,A4_,c4_,he,l0_,g0_,l1_,g1_,l2_,g2_,l3_,g3_,l4_,g4_⟩:=k49_open (h W' hW);injection (Option.some.inj (show some (Value.slice A4 x.f4.length c4)=some (Value.slice A4_ x.f4.length c4_) from congrArg (fun l=>l[4]?) he)) with ha_ _ _;rw [ha_];exact g4_)⟩
theorem k49_mkF (W:World) (ok:Nat→Prop) (x:S49) {A0:Option Addr} {c0:Nat} (l0:x.f0.length≤c0) (g0:Kd.F (Kd.slice 3 (Kd.int .i64)) W ok A0 x.f0.length x.f0) {A1:Option Addr} {c1:Nat} (l1:x.f1.length≤c1) (g1:Kd.F (Kd.slice 3 (Kd.int .i64)) W ok A1 x.f1.length x.f1) {A2:Option Addr} {c2:Nat} (l2:x.f2.length≤c2) (g2:Kd.F (Kd.slice 3 (Kd.int .i64)) W ok A2 x.f2.length x.f2) {A3:Option Addr} {c3:Nat} (l3:x.f3.length≤c3) (g3:Kd.F (Kd.int .i64) W ok A3 x.f3.length x.f3) {A4:Option Addr} {c4:Nat} (l4:x.f4.length≤c4) (g4:Kd.F k60 W ok A4 x.f4.length x.f4):Kd.FK k49 W ok x [.slice A0 x.f0.length c0,.slice A1 x.f1.length c1,.slice A2 x.f2.length c2,.slice A3 x.f3.length c3,.slice A4 x.f4.length c4]:=fun W2 hW=>k49_mk W2 x l0 (g0 W2 hW) l1 (g1 W2 hW) l2 (g2 W2 hW) l3 (g3 W2 hW) l4 (g4 W2 hW)
def rd_T49 (xs:List S49) (i:Int):S49:=xs.getD i.toNat z49
theorem at_T49 {w:World} {A:Option Addr} {n:Nat} {xs:List S49} (h:Kd.C k49 w A n xs) (i:Int) (h0:0≤i) (h1:i<n):∃ ad A0 c0 A1 c1 A2 c2 A3 c3 A4 c4,A=some ad∧w.cell? (ad.add (i.toNat*5))=some (.slice A0 (rd_T49 xs i).f0.length c0)∧w.cell? ⟨(ad.add (i.toNat*5)).block,(ad.add (i.toNat*5)).off+1,none⟩=some (.slice A1 (rd_T49 xs i).f1.length c1)∧w.cell? ⟨(ad.add (i.toNat*5)).block,(ad.add (i.toNat*5)).off+2,none⟩=some (.slice A2 (rd_T49 xs i).f2.length c2)∧w.cell? ⟨(ad.add (i.toNat*5)).block,(ad.add (i.toNat*5)).off+3,none⟩=some (.slice A3 (rd_T49 xs i).f3.length c3)∧w.cell? ⟨(ad.add (i.toNat*5)).block,(ad.add (i.toNat*5)).off+4,none⟩=some (.slice A4 (rd_T49 xs i).f4.length c4)∧(rd_T49 xs i).f0.length≤c0∧(Kd.slice 3 (Kd.int .i64)).C w A0 (rd_T49 xs i).f0.length (rd_T49 xs i).f0∧(rd_T49 xs i).f1.length≤c1∧(Kd.slice 3 (Kd.int .i64)).C w A1 (rd_T49 xs i).f1.length (rd_T49 xs i).f1∧(rd_T49 xs i).f2.length≤c2∧(Kd.slice 3 (Kd.int .i64)).C w A2 (rd_T49 xs i).f2.length (rd_T49 xs i).f2∧(rd_T49 xs i).f3.length≤c3∧(Kd.int .i64).C w A3 (rd_T49 xs i).f3.length (rd_T49 xs i).f3∧(rd_T49 xs i).f4.length≤c4∧k60.C w A4 (rd_T49 xs i).f4.length (rd_T49 xs i).f4:=by
 obtain ⟨ad,c,e,_,hK,hc0⟩:=Kd.C_get h z49 i h0 h1
 have hc:∀ j u,c[j]?=some u→w.cell? (ad.add (i.toNat*5+j))=some u:=hc0
 obtain ⟨A0,c0,A1,c1,A2,c2,A3,c3,A4,c4,rfl,l0,g0,l1,g1,l2,g2,l3,g3,l4,g4⟩:=k49_open hK
 exact ⟨ad,A0,c0,A1,c1,A2,c2,A3,c3,A4,c4,e,hc 0 _ rfl,by rw [← add_field _ _ 1 (by omega)];exact hc 1 _ rfl,by rw [← add_field _ _ 2 (by omega)];exact hc 2 _ rfl,by rw [← add_field _ _ 3 (by omega)];exact hc 3 _ rfl,by rw [← add_field _ _ 4 (by omega)];exact hc 4 _ rfl,l0,g0,l1,g1,l2,g2,l3,g3,l4,g4⟩
structure S24 where
 f0:(List S49)
def z24:S24:=⟨([]:List S49)⟩
def k24:Kd S24:=Kd.iso (Kd.slice 49 k49) (fun x:S24=>x.f0)
theorem k24_open {w:World} {x:S24} {cs:List Value} (h:k24.K w x cs):∃ A0 c0,cs=[.slice A0 x.f0.length c0]∧x.f0.length≤c0∧k49.C w A0 x.f0.length x.f0:=by
 obtain ⟨A0,c0,rfl,l0,g0⟩:=h
 exact ⟨A0,c0,rfl,l0,g0⟩
theorem k24_mk (w:World) (x:S24) {A0:Option Addr} {c0:Nat} (l0:x.f0.length≤c0) (g0:k49.C w A0 x.f0.length x.f0):k24.K w x [.slice A0 x.f0.length c0]:=⟨A0,c0,rfl,l0,g0⟩
theorem k24_mkM (w:World) (base:Nat) (ok:Nat→Prop) (x:S24) {v0:Value} (g0:k49.R 49 w base ok v0 x.f0):k24.M w base ok x [v0]:=⟨v0,rfl,g0⟩
def rd_T24 (xs:List S24) (i:Int):S24:=xs.getD i.toNat z24
theorem at_T24 {w:World} {A:Option Addr} {n:Nat} {xs:List S24} (h:Kd.C k24 w A n xs) (i:Int) (h0:0≤i) (h1:i<n):∃ ad A0 c0,A=some ad∧w.cell? (ad.add i.toNat)=some (.slice A0 (rd_T24 xs i).f0.length c0)∧(rd_T24 xs i).f0.length≤c0∧k49.C w A0 (rd_T24 xs i).f0.length (rd_T24 xs i).f0:=by
 obtain ⟨ad,c,e,_,hK,hc0⟩:=Kd.C_get h z24 i h0 h1
 have hc:∀ j u,c[j]?=some u→w.cell? (ad.add (i.toNat*1+j))=some u:=hc0
 obtain ⟨A0,c0,rfl,l0,g0⟩:=k24_open hK
 exact ⟨ad,A0,c0,e,by have hq:=hc 0 _ rfl;rwa [Nat.mul_one,Nat.add_zero] at hq,l0,g0⟩
structure S55 where
 f0:Int
 f1:Int
def z55:S55:=⟨(0:Int),(0:Int)⟩
def k55:Kd S55:=Kd.iso (Kd.pair (Kd.int .i64) (Kd.int .i64)) (fun x:S55=>(x.f0,x.f1))
theorem k55_open {w:World} {x:S55} {cs:List Value} (h:k55.K w x cs):cs=[.int .i64 x.f0,.int .i64 x.f1]:=by
 obtain ⟨_,_,rfl,rfl,rfl⟩:=h
 exact rfl
theorem k55_mkM (w:World) (base:Nat) (ok:Nat→Prop) (x:S55) :k55.M w base ok x [.int .i64 x.f0,.int .i64 x.f1]:=⟨[.int .i64 x.f0],[.int .i64 x.f1],rfl,rfl,rfl⟩
def rd_T55 (xs:List S55) (i:Int):S55:=xs.getD i.toNat z55
theorem at_T55 {w:World} {A:Option Addr} {n:Nat} {xs:List S55} (h:Kd.C k55 w A n xs) (i:Int) (h0:0≤i) (h1:i<n):∃ ad ,A=some ad∧w.cell? (ad.add (i.toNat*2))=some (.int .i64 (rd_T55 xs i).f0)∧w.cell? ⟨(ad.add (i.toNat*2)).block,(ad.add (i.toNat*2)).off+1,none⟩=some (.int .i64 (rd_T55 xs i).f1):=by
 obtain ⟨ad,c,e,_,hK,hc0⟩:=Kd.C_get h z55 i h0 h1
 have hc:∀ j u,c[j]?=some u→w.cell? (ad.add (i.toNat*2+j))=some u:=hc0
 obtain rfl:=k55_open hK
 exact ⟨ad,e,hc 0 _ rfl,by rw [← add_field _ _ 1 (by omega)];exact hc 1 _ rfl⟩
end Go.Proofs.Ytlgkeaildncojaa.Q
end
section
set_option linter.unusedVariables false
set_option linter.unusedSimpArgs false
namespace Go.Proofs.Ytlgkeaildncojaa.Q
open Go.RowKit Go.Proofs.YtlgkeaildncojaaW.PrintWords Go.Proofs.YtlgkeaildncojaaW.PrintLast Go.Proofs.YtlgkeaildncojaaW.PrintMore
def Solid (W:World) (k:Nat):Prop:=∃ o,W.heap[k]?=some o∧o.isCells=true
theorem solid_cells {W:World} {k:Nat} {cs:Array Value} {t:TypeId} {fz:Nat × Nat} (h:W.heap[k]?=some (.cells cs t fz)):Solid W k:=⟨_,h,rfl⟩
structure Res where
 P:World→(Nat→Prop)→Prop
 move:∀ {W W':World} {ok ok':Nat→Prop},P W ok→(∀ k,ok k→k<W.heap.size→Solid W k→W'.heap[k]?=W.heap[k]?∧ok' k)→P W' ok'
def Res.emp:Res:=⟨fun _ _=>True,fun _ _=>trivial⟩
def Res.box (g t:Nat) (cs:Array Value):Res:=⟨fun W ok=>ok g∧W.heap[g]?=some (.cells cs t (0,0)),fun h hm =>
 have h1:=hm g h.1 (blk_lt h.2) (solid_cells h.2);⟨h1.2,h1.1.trans h.2⟩⟩
def Res.row {α:Type} (d:Kd α) (e B:Nat) (v:Value) (xs:List α):Res:=⟨fun W ok=>d.R e W B ok v xs,fun {W W' ok ok'} h hm=>by
 have key:∀ k,ok k∧B≤k∧k<W.heap.size∧(∃ q,q∈e :: d.E∧∃ cells,W.heap[k]?=some (.cells cells q (0,0)))→W'.heap[k]?=W.heap[k]?∧ok' k:=fun k hk=>by
  obtain ⟨h1,_,h2,q,_,cells,hc⟩:=hk
  exact hm k h1 h2 (solid_cells hc)
 exact Kd.R_mono (Kd.R_move (Kd.R_bound h) (fun k hk=>(key k hk).1)) (fun k hk=>(key k hk).2)⟩
def Res.val {α:Type} (d:Kd α) (B:Nat) (x:α) (cs:List Value):Res:=⟨fun W ok=>d.M W B ok x cs,fun {W W' ok ok'} h hm=>by
 have key:∀ k,ok k∧B≤k∧k<W.heap.size∧(∃ q,q∈d.E∧∃ cells,W.heap[k]?=some (.cells cells q (0,0)))→W'.heap[k]?=W.heap[k]?∧ok' k:=fun k hk=>by
  obtain ⟨h1,_,h2,q,_,cells,hc⟩:=hk
  exact hm k h1 h2 (solid_cells hc)
 exact d.M_mono (fun k hk=>(key k hk).2) (d.M_move (fun k hk=>(key k hk).1) (d.M_bound h))⟩
structure Own (w W:World) (L:List Res) (K:Nat→Obj→Prop:=fun _ _=>False):Prop where
 below:Below w.heap.size w W
 keeps:∀ k o,K k o→W.heap[k]?=some o∧o.isCells=false
 slots:∃ F:Nat→Nat,∀ (i:Nat) (r:Res),L[i]?=some r→r.P W (fun k=>w.heap.size≤k∧F k=i)
theorem Own.start (w:World):Own w w []:=⟨Below.refl _ _,fun _ _ h=>h.elim,fun _=>0,fun i r h=>by simp at h⟩
theorem Own.le {w W:World} {L:List Res} {K:Nat→Obj→Prop} (h:Own w W L K):w.heap.size≤W.heap.size:=h.below.size
theorem Own.grow {w W W':World} {L:List Res} {K:Nat→Obj→Prop} (h:Own w W L K) (hb:Below W.heap.size W W'):Own w W' L K:=by
 obtain ⟨h1,hk0,F,h2⟩:=h
 exact ⟨below_step h1 hb,fun k o hk=>⟨(hb.block k (blk_lt (hk0 k o hk).1)).trans (hk0 k o hk).1,(hk0 k o hk).2⟩,F,fun i r hi=>r.move (h2 i r hi) (fun k hk hl _=>⟨hb.block k hl,hk⟩)⟩
theorem Own.alloc {w W:World} {L:List Res} {K:Nat→Obj→Prop} (h:Own w W L K) (o:Obj):Own w (W.alloc o) L K:=h.grow (below_alloc (Below.refl _ _) o)
theorem Own.drew {w W:World} {L:List Res} {K:Nat→Obj→Prop} (h:Own w W L K):Own w W.drew L K:=h.grow (below_drew (Below.refl _ _))
theorem Own.drewN {w W:World} {L:List Res} {K:Nat→Obj→Prop} (h:Own w W L K) (n:Nat):Own w (W.drewN n) L K:=h.grow (pw_below_drewN (Below.refl _ _) n)
theorem not_solid {W:World} {k:Nat} {o:Obj} (h:W.heap[k]?=some o) (ho:o.isCells=false):¬ Solid W k:=by
 rintro ⟨o',h2,h3⟩
 rw [h] at h2
 cases h2
 rw [ho] at h3
 cases h3
theorem Own.turn0 {w W W':World} {L':List Res} {K:Nat→Obj→Prop} (F F':Nat→Nat) (h1:Below w.heap.size w W) (hk0:∀ k o,K k o→W.heap[k]?=some o∧o.isCells=false)
  (hos:W'.os=W.os) (htp:W'.tape=W.tape) (hou:W'.output=W.output) (hsz:W.heap.size≤W'.heap.size) (S:Nat→Prop)
  (hsame:∀ k,k<W.heap.size→¬ (w.heap.size≤k∧S (F k)∧Solid W k)→W'.heap[k]?=W.heap[k]?)
  (hL:∀ (i:Nat) (r:Res),L'[i]?=some r→r.P W' (fun k=>w.heap.size≤k∧F' k=i)):Own w W' L' K:=by
 have hle:=h1.size
 refine ⟨⟨hos.trans h1.os,htp.trans h1.tape,hou.trans h1.output,by omega,fun k hk=>(hsame k (by omega) (fun h=>by omega)).trans (h1.block k hk)⟩,fun k o hk=>?_,F',hL⟩
 obtain ⟨h2,h3⟩:=hk0 k o hk
 exact ⟨(hsame k (blk_lt h2) (fun h=>not_solid h2 h3 h.2.2)).trans h2,h3⟩
theorem Own.turn {w W W':World} {L:List Res} {K:Nat→Obj→Prop} {r r':Res} (h:Own w W L K) (i:Nat) (hi:L[i]?=some r) (hos:W'.os=W.os) (htp:W'.tape=W.tape) (hou:W'.output=W.output) (hsz:W.heap.size≤W'.heap.size)
  (step:∀ ok:Nat→Prop,(∀ k,W.heap.size≤k→ok k)→r.P W ok→r'.P W' ok∧∀ k,k<W.heap.size→¬ (ok k∧Solid W k)→W'.heap[k]?=W.heap[k]?):Own w W' (L.set i r') K:=by
 obtain ⟨h1,hk0,F,h2⟩:=h
 have hle:=h1.size
 obtain ⟨hP,hsame⟩:=step (fun k=>w.heap.size≤k∧(k<W.heap.size→F k=i)) (fun k hk=>⟨by omega,fun hl=>by omega⟩)
  (r.move (h2 i r hi) (fun k hk hl _=>⟨rfl,hk.1,fun _=>hk.2⟩))
 refine Own.turn0 F (fun k=>if k<W.heap.size then F k else i) h1 hk0 hos htp hou hsz (fun q=>q=i) (fun k hk hn=>hsame k hk (fun h3=>hn ⟨h3.1.1,h3.1.2 hk,h3.2⟩)) (fun j q hj=>?_)
 rw [List.getElem?_set] at hj
 have hil:i<L.length:=(List.getElem?_eq_some_iff.mp hi).1
 by_cases e:i=j
 ·
  subst e
  rw [if_pos rfl,if_pos hil] at hj
  injection hj with hj
  subst hj
  refine r'.move hP (fun k hk hl _=>⟨rfl,hk.1,?_⟩)
  split
  ·
   rename_i hlt;exact hk.2 hlt
  ·
   rfl
 ·
  rw [if_neg e] at hj
  refine q.move (h2 j q hj) (fun k hk hl _=>⟨hsame k hl (fun h3=>e ((h3.1.2 hl).symm.trans hk.2)),hk.1,?_⟩)
  rw [if_pos hl]
  exact hk.2
theorem Own.say {w W:World} {L:List Res} {K:Nat→Obj→Prop} {r r':Res} (h:Own w W L K) (i:Nat) (hi:L[i]?=some r) (step:∀ ok:Nat→Prop,r.P W ok→r'.P W ok):Own w W (L.set i r') K :=
 h.turn i hi rfl rfl rfl (Nat.le_refl _) (fun ok _ hp=>⟨step ok hp,fun _ _ _=>rfl⟩)
theorem Own.drop {w W:World} {L:List Res} {K:Nat→Obj→Prop} {r:Res} (h:Own w W L K) (i:Nat) (hi:L[i]?=some r):Own w W (L.set i .emp) K:=h.say i hi (fun _ _=>trivial)
theorem Own.take {w W:World} {L:List Res} {K:Nat→Obj→Prop} (M:List Res) (h:Own w W (L++M) K):Own w W L K:=by
 obtain ⟨h1,hk0,F,h2⟩:=h
 exact ⟨h1,hk0,F,fun i r hi=>h2 i r (by rw [List.getElem?_append_left (List.getElem?_eq_some_iff.mp hi).1];exact hi)⟩
theorem Own.upto {w W:World} {L:List Res} {K:Nat→Obj→Prop} (h:Own w W L K) (n:Nat):Own w W (L.take n) K:=by
 obtain ⟨h1,hk0,F,h2⟩:=h
 exact ⟨h1,hk0,F,fun i r hi=>h2 i r (by rw [List.getElem?_take] at hi;split at hi;exact hi;cases hi)⟩
theorem Own.pick {w W:World} {L L':List Res} {K:Nat→Obj→Prop} (h:Own w W L K) (p:List Nat) (hp:∀ (i:Nat) (r:Res),L'[i]?=some r→∃ j,p[i]?=some j∧L[j]?=some r) (hn:p.Nodup):Own w W L' K:=by
 obtain ⟨h1,hk0,F,h2⟩:=h
 refine ⟨h1,hk0,fun k=>p.idxOf (F k),fun i r hi=>?_⟩
 obtain ⟨j,hj,hr⟩:=hp i r hi
 refine r.move (h2 j r hr) (fun k hk hl _=>⟨rfl,hk.1,?_⟩)
 dsimp only
 rw [hk.2]
 obtain ⟨hlt,he⟩:=List.getElem?_eq_some_iff.mp hj
 rw [← he]
 exact hn.idxOf_getElem i hlt
theorem Own.add {w W W':World} {L:List Res} {K:Nat→Obj→Prop} {r:Res} (h:Own w W L K) (hb:Below W.heap.size W W') (hr:r.P W' (fun k=>W.heap.size≤k)):Own w W' (L++[r]) K:=by
 obtain ⟨h1,hk0,F,h2⟩:=h
 have hle:=h1.size
 refine ⟨below_step h1 hb,fun k o hk=>⟨(hb.block k (blk_lt (hk0 k o hk).1)).trans (hk0 k o hk).1,(hk0 k o hk).2⟩,fun k=>if k<W.heap.size then (if F k<L.length then F k else F k+1) else L.length,fun i q hi=>?_⟩
 by_cases hil:i<L.length
 ·
  rw [List.getElem?_append_left hil] at hi
  refine q.move (h2 i q hi) (fun k hk hl _=>⟨hb.block k hl,hk.1,?_⟩)
  dsimp only
  rw [if_pos hl,hk.2,if_pos hil]
 ·
  have hii:i=L.length:=by
   have:=(List.getElem?_eq_some_iff.mp hi).1
   rw [List.length_append,List.length_singleton] at this
   omega
  subst hii
  rw [List.getElem?_append_right (Nat.le_refl _),Nat.sub_self] at hi
  injection hi with hi
  subst hi
  exact r.move hr (fun k hk hl _=>⟨rfl,by omega,if_neg (by omega)⟩)
theorem Own.other {w W W':World} {L:List Res} {K:Nat→Obj→Prop} {row:Option Nat} (h:Own w W L K) (hg:W.grownBy W' row) (hr:∀ r,row=some r→w.heap.size≤r∧(∀ o,¬ K r o)∧∃ o:Obj,W.heap[r]?=some o∧o.isCells=false):Own w W' L K:=by
 obtain ⟨h1,hk0,F,h2⟩:=h
 have hle:=h1.size
 refine ⟨⟨hg.os.trans h1.os,hg.tape.trans h1.tape,hg.output.trans h1.output,Nat.le_trans hle hg.size,fun k hk=>(hg.block k (by omega) (fun e=>by have:=(hr k e.symm).1;omega)).trans (h1.block k hk)⟩,fun k o hk=>⟨(hg.block k (blk_lt (hk0 k o hk).1) (fun e=>(hr k e.symm).2.1 o hk)).trans (hk0 k o hk).1,(hk0 k o hk).2⟩,F,fun i r hi=>r.move (h2 i r hi) (fun k hk hl hs=>⟨hg.block k hl (fun e=>?_),hk⟩)⟩
 obtain ⟨o,ho,hc⟩:=(hr k e.symm).2.2
 exact not_solid ho hc hs
section
variable {w W:World} {L:List Res} {K:Nat→Obj→Prop}
theorem Own.box_at {g t:Nat} {cs:Array Value} (h:Own w W L K) (i:Nat) (hi:L[i]?=some (.box g t cs)):W.heap[g]?=some (.cells cs t (0,0))∧w.heap.size≤g:=by
 obtain ⟨_,_,F,h2⟩:=h
 exact ⟨(h2 i _ hi).2,(h2 i _ hi).1.1⟩
theorem Own.box_cell {g t:Nat} {cs:Array Value} (h:Own w W L K) (i:Nat) (hi:L[i]?=some (.box g t cs)) (j:Nat) {u:Value} (hj:cs[j]?=some u):W.cell? ⟨g,j,none⟩=some u:=(blk_cell (h.box_at i hi).1 j).trans hj
theorem Own.box_free {g t:Nat} {cs:Array Value} (h:Own w W L K) (i:Nat) (hi:L[i]?=some (.box g t cs)) (j:Nat):W.frozen? ⟨g,j,none⟩=false:=blk_frozen (h.box_at i hi).1 j
theorem Own.box_ne {g g' t t':Nat} {cs cs':Array Value} (h:Own w W L K) (i j:Nat) (hij:i≠j) (hi:L[i]?=some (.box g t cs)) (hj:L[j]?=some (.box g' t' cs')):g≠g':=by
 obtain ⟨_,_,F,h2⟩:=h
 rintro rfl
 exact hij ((h2 i _ hi).1.2.symm.trans (h2 j _ hj).1.2)
theorem Own.row_at {α:Type} {d:Kd α} {e B:Nat} {v:Value} {xs:List α} (h:Own w W L K) (i:Nat) (hi:L[i]?=some (.row d e B v xs)):∃ A c,v=.slice A xs.length c∧xs.length≤c∧d.C W A xs.length xs:=by
 obtain ⟨_,_,F,h2⟩:=h
 exact Kd.R_reads (h2 i _ hi)
theorem Own.row_sl {α:Type} {d:Kd α} {e B n c:Nat} {A:Option Addr} {xs:List α} (h:Own w W L K) (i:Nat) (hi:L[i]?=some (.row d e B (.slice A n c) xs)):n=xs.length∧n≤c∧d.C W A xs.length xs:=by
 obtain ⟨_,_,F,h2⟩:=h
 exact Kd.R_reads' (h2 i _ hi)
theorem Own.row_R {α:Type} {d:Kd α} {e B:Nat} {v:Value} {xs:List α} (h:Own w W L K) (i:Nat) (hi:L[i]?=some (.row d e B v xs)):d.R e W B (fun _=>True) v xs:=by
 obtain ⟨_,_,F,h2⟩:=h
 exact Kd.R_mono (h2 i _ hi) (fun _ _=>trivial)
theorem Own.old {α:Type} {d:Kd α} {A:Option Addr} {n:Nat} {xs:List α} (h:Own w W L K) (hr:d.C w A n xs):d.C W A n xs:=Kd.C_below hr h.below
end
theorem Own.write {w W:World} {L:List Res} {K:Nat→Obj→Prop} {g t:Nat} {cs cs':Array Value} (h:Own w W L K) (i:Nat) (hi:L[i]?=some (.box g t cs)) (o:Nat) (vs:List Value) (hl:o+vs.length≤cs.size) (hc:(cs.toList.take o++vs++cs.toList.drop (o+vs.length)).toArray=cs'):Own w (W.setCells g o vs) (L.set i (.box g t cs')) K:=by
 obtain ⟨h1,h2,h3,h4⟩:=setCells_same g vs o W
 refine h.turn i hi h1 h2 h3 (by omega) (fun ok hf hp=>⟨⟨hp.1,?_⟩,fun k hk hn=>setCells_far vs o k (fun e=>hn (e ▸ ⟨hp.1,solid_cells hp.2⟩))⟩)
 obtain ⟨cur,hc1,hc2,hc3⟩:=setCells_row vs o W cs hp.2 hl
 rw [hc1,← hc,← hc3]
theorem Own.put {w W:World} {L:List Res} {K:Nat→Obj→Prop} {g t:Nat} {cs cs':Array Value} (h:Own w W L K) (i:Nat) (hi:L[i]?=some (.box g t cs)) (o:Nat) (u:Value) (hl:o<cs.size) (hc:cs.setIfInBounds o u=cs'):Own w (W.setCell ⟨g,o,none⟩ u) (L.set i (.box g t cs')) K :=
 h.turn i hi rfl rfl rfl (by simp [World.setCell]) (fun ok hf hp=>⟨⟨hp.1,by rw [← hc];exact blk_set hp.2 o u⟩,fun k hk hn=>Below.heap_setCell W _ u k (fun e=>hn (e ▸ ⟨hp.1,solid_cells hp.2⟩))⟩)
section
variable {P:Program} {ops:Array Oper} {rest:List Oper} {o:Oper} {a:Act} {Q:Exit→Act→World→Prop} {w W:World} {L:List Res} {K:Nat→Obj→Prop}
theorem ev_box {cs:Array Value} {t N:Nat} (HO:Own w W L K) (hgd:o.guard=none) (_hd:o.dst=some N)
  (hrun:(execOp a.eval o).run P W=.ok (.value (.pointer (some ⟨W.heap.size,0,none⟩))) (W.alloc (.cells cs t (0,0))))
  (h:∀ g W',Own w W' (L++[.box g t cs]) K→Below W.heap.size W W'→wpList P ops Q rest (a.put o.dst (.pointer (some ⟨g,0,none⟩))) W'):wpList P ops Q (o :: rest) a W:=by
 refine Kd.event_run hgd hrun (h _ _ (HO.add (below_alloc (Below.refl _ _) _) ⟨Nat.le_refl _,blk_new W _⟩) (below_alloc (Below.refl _ _) _))
theorem ev_storeS {g t:Nat} {cs cs':Array Value} {ty:TypeId} {p:Tmp} {x:Operand} (v:Value) (i:Nat) (HO:Own w W L K) (hi:L[i]?=some (.box g t cs)) (hgd:o.guard=none) (ho:o.op=.store ty (.tmp p) x) (hN:o.dst=none) (q:Nat)
  (hp:a.eval (.tmp p)=.pointer (some ⟨g,q,none⟩)) (hv:a.eval x=v) (hty:(P.info? ty).map (·.size)=some v.cells.size) (h1:∀ u∈v.cells.toList,u.oneCell'=true) (hl:q+v.cells.toList.length≤cs.size)
  (hc:(cs.toList.take q++v.cells.toList++cs.toList.drop (q+v.cells.toList.length)).toArray=cs')
  (h:∀ W',W'.heap.size=W.heap.size→Own w W' (L.set i (.box g t cs')) K→wpList P ops Q rest a W'):wpList P ops Q (o :: rest) a W:=by
 refine wpList_plain hgd fun K hK=>?_
 have hb:=(HO.box_at i hi).1
 have hrun:(execOp a.eval o).run P W=.ok .skip (W.setCells g q v.cells.toList):=by
  have h2:=run_storeCells_cells (P:=P) g q v.cells.toList 0 W (fun j hj=>by
    rw [Nat.add_zero,blk_cell hb,Array.getElem?_eq_getElem (by omega)];rfl) (fun j hj=>blk_frozen hb _) h1
  rw [Nat.add_zero] at h2
  cases hq:P.info? ty with
  | none=>simp [hq] at hty
  | some inf =>
   have hs:v.cells.size=inf.size:=by simp [hq] at hty;omega
   unfold execOp
   simp only [ho,hp,hv,Instr.storeAt,Instr.sureAddr,Sem.run_bind,Sem.run_pure,Result.andThen_ok]
   simp [storeVar,sizeOf,typeInfo,hq,hs,h2,Result.andThen]
 unfold Oper.wp
 rw [hrun]
 show K (a.put o.dst undef) _
 rw [hN]
 exact hK _ _ (h _ (setCells_same g _ q W).2.2.2 (HO.write i hi q _ hl hc))
theorem ev_store {g t:Nat} {cs cs':Array Value} {ty:TypeId} {p:Tmp} {x:Operand} (v:Value) (i:Nat) (HO:Own w W L K) (hi:L[i]?=some (.box g t cs)) (hgd:o.guard=none) (ho:o.op=.store ty (.tmp p) x) (hN:o.dst=none) (q:Nat)
  (hp:a.eval (.tmp p)=.pointer (some ⟨g,q,none⟩)) (hv:a.eval x=v) (hty:(P.info? ty).map (·.size)=some v.cells.size) (h1:∀ u∈v.cells.toList,u.oneCell'=true) (hl:q+v.cells.toList.length≤cs.size)
  (hc:(cs.toList.take q++v.cells.toList++cs.toList.drop (q+v.cells.toList.length)).toArray=cs')
  (h:∀ W',Own w W' (L.set i (.box g t cs')) K→wpList P ops Q rest a W'):wpList P ops Q (o :: rest) a W :=
 ev_storeS v i HO hi hgd ho hN q hp hv hty h1 hl hc (fun W' _=>h W')
theorem ev_append {α:Type} {d:Kd α} {e:Nat} {v:Value} {xs:List α} (i:Nat) (HO:Own w W L K) (hi:L[i]?=some (.row d e w.heap.size v xs)) (hgd:o.guard=none) (s x:Operand) (t:TypeId) (z:Value) (bytes:Nat)
  (ho:o.op=.call { callee:=.builtin .append,args:=#[s,x],argTypes:=#[t,t] })
  (ht:P.underlying t=some (.slice e)) (hinfo:(P.info? e).map (fun i=>(i.zero,i.size,i.bytes))=some (some z,d.sz,bytes)) (hz:z.cells.size=d.sz) (hs0:0<d.sz) (hb0:0<bytes)
  (p:α) (cs:List Value) (hs:a.eval s=v) (hx:a.eval x=.slice (some ⟨W.heap.size,0,none⟩) 1 1) (hM:d.M W w.heap.size (fun _=>False) p cs) (hl:(xs.length+1)*bytes≤140737488355328)
  (h:∀ A c W',Own w W' (L.set i (.row d e w.heap.size (.slice A (xs.length+1) c) (xs++[p]))) K→wpList P ops Q rest (a.put o.dst (.slice A (xs.length+1) c)) W'):wpList P ops Q (o :: rest) a (W.alloc (.cells cs.toArray e)):=by
 obtain ⟨h1,hk0,F,h2⟩:=HO
 have hle:=h1.size
 have hR:d.R e W w.heap.size (fun k=>w.heap.size≤k∧(k<W.heap.size→F k=i)) v xs:=Kd.R_mono (Kd.R_bound (h2 i _ hi)) (fun k hk=>⟨hk.1.1,fun _=>hk.1.2⟩)
 refine Kd.R_append d (w0:=w) w.heap.size hgd s x t e z bytes ho ht hinfo hz hs0 hb0 v xs p cs _ (fun _=>False) hs hx hM (fun _ hk=>hk.elim) (fun k hk=>⟨by omega,fun hl=>by omega⟩) hR h1 hle hl ?_
 intro v1 w1 hR1 hb1 hg1 hat
 obtain ⟨A,c,rfl⟩:=Kd.R_slice hR1
 rw [List.length_append,List.length_singleton] at hR1 ⊢
 have hSol:∀ k,some k=v.ownBlock→Solid W k:=fun k he=>by obtain ⟨_,inner,ho2,_⟩:=hR;obtain ⟨cs2,hc2⟩:=own_typed ho2 k he.symm;exact solid_cells hc2
 refine h A c w1 ⟨hb1,fun k o hk=>⟨(hg1.block k (blk_lt (hk0 k o hk).1) (fun he=>not_solid (hk0 k o hk).1 (hk0 k o hk).2 (hSol k he))).trans (hk0 k o hk).1,(hk0 k o hk).2⟩,fun k=>if k<W.heap.size then F k else i,fun j q hj=>?_⟩
 have hil:i<L.length:=(List.getElem?_eq_some_iff.mp hi).1
 rw [List.getElem?_set] at hj
 by_cases e1:i=j
 ·
  subst e1
  rw [if_pos rfl,if_pos hil] at hj
  injection hj with hj
  subst hj
  refine Kd.R_mono hR1 (fun k hk=>⟨hk.1,?_⟩)
  dsimp only
  split
  ·
   rename_i hlt;exact hk.2 hlt
  ·
   rfl
 ·
  rw [if_neg e1] at hj
  refine q.move (h2 j q hj) (fun k hk hl _=>⟨hg1.block k hl (fun he=>e1 ?_),hk.1,by dsimp only;rw [if_pos hl];exact hk.2⟩)
  exact ((h2 i _ hi).1 k he.symm).2.symm.trans hk.2
theorem ev_appendv {α:Type} {d:Kd α} {e:Nat} {v:Value} {xs:List α} {p:α} {cs:List Value} (i j:Nat) (hij:i≠j) (HO:Own w W L K) (hi:L[i]?=some (.row d e w.heap.size v xs)) (hj:L[j]?=some (.val d w.heap.size p cs)) (hgd:o.guard=none) (s x:Operand) (t:TypeId) (z:Value) (bytes:Nat)
  (ho:o.op=.call { callee:=.builtin .append,args:=#[s,x],argTypes:=#[t,t] })
  (ht:P.underlying t=some (.slice e)) (hinfo:(P.info? e).map (fun i=>(i.zero,i.size,i.bytes))=some (some z,d.sz,bytes)) (hz:z.cells.size=d.sz) (hs0:0<d.sz) (hb0:0<bytes)
  (hs:a.eval s=v) (hx:a.eval x=.slice (some ⟨W.heap.size,0,none⟩) 1 1) (hl:(xs.length+1)*bytes≤140737488355328)
  (h:∀ A c W',Own w W' ((L.set j .emp).set i (.row d e w.heap.size (.slice A (xs.length+1) c) (xs++[p]))) K→wpList P ops Q rest (a.put o.dst (.slice A (xs.length+1) c)) W'):wpList P ops Q (o :: rest) a (W.alloc (.cells cs.toArray e)):=by
 obtain ⟨h1,hk0,F,h2⟩:=HO
 have hle:=h1.size
 have hRi:=h2 i _ hi
 have hR:d.R e W w.heap.size (fun k=>w.heap.size≤k∧(k<W.heap.size→F k=i∨F k=j)) v xs:=Kd.R_mono hRi (fun k hk=>⟨hk.1,fun _=>.inl hk.2⟩)
 refine Kd.R_append d (w0:=w) w.heap.size hgd s x t e z bytes ho ht hinfo hz hs0 hb0 v xs p cs _ (fun k=>w.heap.size≤k∧F k=j) hs hx (h2 j _ hj) (fun k hk=>⟨⟨hk.1,fun _=>.inr hk.2⟩,fun he=>hij ((hRi.1 k he.symm).2.symm.trans hk.2)⟩) (fun k hk=>⟨by omega,fun hl=>by omega⟩) hR h1 hle hl ?_
 intro v1 w1 hR1 hb1 hg1 hat
 obtain ⟨A,c,rfl⟩:=Kd.R_slice hR1
 rw [List.length_append,List.length_singleton] at hR1 ⊢
 have hSol:∀ k,some k=v.ownBlock→Solid W k:=fun k he=>by obtain ⟨_,inner,ho2,_⟩:=hR;obtain ⟨cs2,hc2⟩:=own_typed ho2 k he.symm;exact solid_cells hc2
 refine h A c w1 ⟨hb1,fun k o hk=>⟨(hg1.block k (blk_lt (hk0 k o hk).1) (fun he=>not_solid (hk0 k o hk).1 (hk0 k o hk).2 (hSol k he))).trans (hk0 k o hk).1,(hk0 k o hk).2⟩,fun k=>if k<W.heap.size then (if F k=j then i else F k) else i,fun q r hq=>?_⟩
 have hil:i<L.length:=(List.getElem?_eq_some_iff.mp hi).1
 have hjl:j<L.length:=(List.getElem?_eq_some_iff.mp hj).1
 rw [List.getElem?_set] at hq
 by_cases e1:i=q
 ·
  subst e1
  rw [if_pos rfl,if_pos (by simpa using hil)] at hq
  injection hq with hq
  subst hq
  refine Kd.R_mono hR1 (fun k hk=>⟨hk.1,?_⟩)
  dsimp only
  split
  ·
   rename_i hlt
   split
   ·
    rfl
   ·
    rename_i hnj
    exact (hk.2 hlt).resolve_right hnj
  ·
   rfl
 ·
  rw [if_neg e1,List.getElem?_set] at hq
  by_cases e2:j=q
  ·
   subst e2
   rw [if_pos rfl,if_pos hjl] at hq
   injection hq with hq
   subst hq
   trivial
  ·
   rw [if_neg e2] at hq
   refine r.move (h2 q r hq) (fun k hk hl _=>⟨hg1.block k hl (fun he=>e1 ((hRi.1 k he.symm).2.symm.trans hk.2)),hk.1,?_⟩)
   dsimp only
   rw [if_pos hl,if_neg (fun h3=>e2 (h3.symm.trans hk.2))]
   exact hk.2
theorem ev_rows {α:Type} {d:Kd α} {e:Nat} {v:Value} {xs:List α} {Rr:α→List Value→Prop} (i:Nat) (HO:Own w W L K) (hi:L[i]?=some (.row d e w.heap.size v xs)) (hgd:o.guard=none) (s x:Operand) (t:TypeId) (z:Value) (bytes:Nat)
  (ho:o.op=.call { callee:=.builtin .append,args:=#[s,x],argTypes:=#[t,t] })
  (ht:P.underlying t=some (.slice e)) (hinfo:(P.info? e).map (fun i=>(i.zero,i.size,i.bytes))=some (some z,d.sz,bytes)) (hz:z.cells.size=d.sz) (hs0:0<d.sz) (hb0:0<bytes)
  (ys:List α) (A1:Option Addr) (c1:Nat) (hs:a.eval s=v) (hx:a.eval x=.slice A1 ys.length c1) (HR:ReadsRow Rr d.sz W A1 ys.length ys) (hKM:∀ x cs,Rr x cs→d.M W w.heap.size (fun _=>False) x cs) (hl:(xs.length+ys.length)*bytes≤140737488355328)
  (h:∀ A c W',Own w W' (L.set i (.row d e w.heap.size (.slice A (xs++ys).length c) (xs++ys))) K→wpList P ops Q rest (a.put o.dst (.slice A (xs++ys).length c)) W'):wpList P ops Q (o :: rest) a W:=by
 obtain ⟨h1,hk0,F,h2⟩:=HO
 have hle:=h1.size
 have hR:d.R e W w.heap.size (fun k=>w.heap.size≤k∧(k<W.heap.size→F k=i)) v xs:=Kd.R_mono (Kd.R_bound (h2 i _ hi)) (fun k hk=>⟨hk.1.1,fun _=>hk.1.2⟩)
 refine Kd.R_append_rows d (w0:=w) w.heap.size hgd s x t e z bytes ho ht hinfo hz hs0 hb0 v xs ys A1 ys.length c1 _ (fun _=>False) hs hx hR HR hKM (fun _ hk=>hk.elim) (fun k hk=>⟨by omega,fun hl=>by omega⟩) h1 hle hl ?_
 intro v1 w1 hR1 hb1 hg1 hat
 obtain ⟨A,c,rfl⟩:=Kd.R_slice hR1
 have hSol:∀ k,some k=v.ownBlock→Solid W k:=fun k he=>by obtain ⟨_,inner,ho2,_⟩:=hR;obtain ⟨cs2,hc2⟩:=own_typed ho2 k he.symm;exact solid_cells hc2
 refine h A c w1 ⟨hb1,fun k o hk=>⟨(hg1.block k (blk_lt (hk0 k o hk).1) (fun he=>not_solid (hk0 k o hk).1 (hk0 k o hk).2 (hSol k he))).trans (hk0 k o hk).1,(hk0 k o hk).2⟩,fun k=>if k<W.heap.size then F k else i,fun j q hj=>?_⟩
 have hil:i<L.length:=(List.getElem?_eq_some_iff.mp hi).1
 rw [List.getElem?_set] at hj
 by_cases e1:i=j
 ·
  subst e1
  rw [if_pos rfl,if_pos hil] at hj
  injection hj with hj
  subst hj
  refine Kd.R_mono hR1 (fun k hk=>⟨hk.1,?_⟩)
  dsimp only
  split
  ·
   rename_i hlt;exact hk.2 hlt
  ·
   rfl
 ·
  rw [if_neg e1] at hj
  refine q.move (h2 j q hj) (fun k hk hl _=>⟨hg1.block k hl (fun he=>e1 ?_),hk.1,by dsimp only;rw [if_pos hl];exact hk.2⟩)
  exact ((h2 i _ hi).1 k he.symm).2.symm.trans hk.2
theorem ev_lit {α:Type} (d:Kd α) (e:Nat) {N:Nat} {xs:List α} {inner:List Value} (HO:Own w W L K) (hgd:o.guard=none) (_hd:o.dst=some N)
  (hrun:(execOp a.eval o).run P W=.ok (.value (.slice (some ⟨W.heap.size,0,none⟩) xs.length xs.length)) (W.alloc (.cells inner.toArray e)))
  (hrep:Reps (d.M W w.heap.size (fun _=>False)) d.sz xs inner) (hm:xs.length≤9223372036854775807)
  (h:∀ A c W',Own w W' (L++[.row d e w.heap.size (.slice A xs.length c) xs]) K→Below W.heap.size W W'→wpList P ops Q rest (a.put o.dst (.slice A xs.length c)) W'):wpList P ops Q (o :: rest) a W:=by
 refine Kd.R_lit d (w0:=w) w.heap.size e hgd _hd (ok:=fun k=>W.heap.size≤k) hrun hrep (fun _ hk=>hk.elim) (Nat.le_refl _) HO.below HO.le hm ?_
 intro v1 w1 hR hb hg hat
 obtain ⟨A,c,rfl⟩:=Kd.R_slice hR
 have hb2:Below W.heap.size W w1:=⟨hg.os,hg.tape,hg.output,hg.size,fun k hk=>hg.block k hk (by simp)⟩
 exact h A c w1 (HO.add hb2 hR) hb2
theorem Own.newrow {α:Type} (HO:Own w W L K) (d:Kd α) (e:Nat):Own w W (L++[.row d e w.heap.size (.slice none 0 0) []]) K:=HO.add (Below.refl _ _) (Kd.R_nil d e W _ _)
theorem Own.called {α:Type} {d:Kd α} {e:Nat} {v:Value} {xs:List α} {W':World} (HO:Own w W L K) (hb:Below W.heap.size W W') (hR:d.R e W' W.heap.size (fun _=>True) v xs):Own w W' (L++[.row d e w.heap.size v xs]) K :=
 HO.add hb (Kd.R_lower (Kd.R_mono (Kd.R_bound hR) (fun k hk=>hk.2.1)) HO.le)
end
end Go.Proofs.Ytlgkeaildncojaa.Q
end
section
namespace Go.Proofs.Ytlgkeaildncojaa.Q
open Go.RowKit Go.Proofs.YtlgkeaildncojaaW.PrintWords Go.Proofs.YtlgkeaildncojaaW.PrintLast Go.Proofs.YtlgkeaildncojaaW.PrintMore
set_option linter.unusedSimpArgs false
set_option linter.unusedVariables false
def fidx {α:Type} (p:α→Bool):List α→Nat→Int
 | [],_=>-1
 | x :: t,i=>if p x then i else fidx p t (i+1)
theorem fidx_pos {α:Type} (p:α→Bool):∀ (l:List α) (i:Nat),(0≤fidx p l i)↔l.any p=true
 | [],i=>by simp [fidx]
 | x :: t,i=>by
  have ih:=fidx_pos p t (i+1)
  rw [List.any_cons]
  by_cases h:p x=true
  ·
   rw [show fidx p (x :: t) i=(i:Int) by simp [fidx,h],h];simp
  ·
   rw [show fidx p (x :: t) i=fidx p t (i+1) by simp [fidx,h],ih];simp [h]
theorem fidx_any {α:Type} (p:α→Bool) (l:List α) (i:Nat):decide (0≤fidx p l i)=l.any p:=by
 rw [Bool.eq_iff_iff,decide_eq_true_iff]
 exact fidx_pos p l i
theorem fidx_step {α:Type} (p:α→Bool) (l:List α) (k:Nat) (z:α) (h:k<l.length):fidx p (l.drop k) k=if p (l.getD k z) then (k:Int) else fidx p (l.drop (k+1)) (k+1):=by
 rw [List.drop_eq_getElem_cons h,List.getD_eq_getElem?_getD,List.getElem?_eq_getElem h]
 rfl
theorem getD_in {α:Type} (l:List α) (k:Nat) (z:α) (h:k<l.length):l.getD k z∈l:=by
 rw [List.getD_eq_getElem?_getD,List.getElem?_eq_getElem h]
 exact List.getElem_mem h
theorem at_int {w:World} {A:Option Addr} {n:Nat} {xs:List Int} (h:(Kd.int .i64).C w A n xs) (k:Nat) (hk:k<n):∃ ad,A=some ad∧w.cell? (ad.add k)=some (.int .i64 (xs.getD k 0)):=by
 obtain ⟨ad,c,e,_,hK,hc0⟩:=Kd.C_get h (0:Int) (k:Int) (by omega) (by omega)
 rw [Int.toNat_natCast] at hK hc0
 have hc:∀ j u,c[j]?=some u→w.cell? (ad.add (k*1+j))=some u:=hc0
 obtain rfl:=hK
 exact ⟨ad,e,by have hq:=hc 0 _ rfl;rwa [Nat.mul_one,Nat.add_zero] at hq⟩
theorem at_sl {α:Type} {d:Kd α} {e:Nat} {w:World} {A:Option Addr} {n:Nat} {xs:List (List α)} (h:(Kd.slice e d).C w A n xs) (k:Nat) (hk:k<n):∃ ad A0 c0,A=some ad∧w.cell? (ad.add k)=some (.slice A0 (xs.getD k []).length c0)∧(xs.getD k []).length≤c0∧d.C w A0 (xs.getD k []).length (xs.getD k []):=by
 obtain ⟨ad,c,e,_,hK,hc0⟩:=Kd.C_get h ([]:List α) (k:Int) (by omega) (by omega)
 rw [Int.toNat_natCast] at hK hc0
 have hc:∀ j u,c[j]?=some u→w.cell? (ad.add (k*1+j))=some u:=hc0
 obtain ⟨A0,c0,rfl,h1,h2⟩:=hK
 exact ⟨ad,A0,c0,e,by have hq:=hc 0 _ rfl;rwa [Nat.mul_one,Nat.add_zero] at hq,h1,h2⟩
set_option maxHeartbeats 1000000 in
theorem idxI (p:Int→Bool) (g:FuncId) (fr:Array Value) (eg:∀ args w,(callFunc g args).run Try.prog w=.ok (.enter g args) w)
  (A:Option Addr) (c:Nat) (l:List Int) (w:World) (hr:Kd.C (Kd.int .i64) w A l.length l)
  (hp:∀ x∈l,∀ (W:World),Below w.heap.size w W→Calls Try.prog g (#[.int .i64 x]++fr) W fun e w'=>e=.returned (.bool (p x))∧Below W.heap.size W w') :
  Calls Try.prog 62 #[.slice A l.length c,.func (.func g) #[] fr] w fun e w'=>e=.returned (.int .i64 (fidx p l 0))∧Below w.heap.size w w':=by
 have HR:=Aside0.mk hr
 have HC:=Aside0.mk (Kd.C_max hr)
 have HB:=Aside0.mk (Below.refl w.heap.size w)
 clear hr
 go_enter Try.func62,Try.ntmps62
 go_wp2
 go_loopw [8] (fun v8 w'=>∃ k:Nat,v8=.int .i64 k∧Aside0 (k≤l.length)∧Aside0 (fidx p (l.drop k) k=fidx p l 0)∧Aside0 (Below w.heap.size w w')) (fun v8 _=>l.length - (intOf v8).toNat)
 case atStart=>exact ⟨0,rfl,⟨Nat.zero_le _⟩,⟨rfl⟩,HB⟩
 case round =>
  clear HB
  obtain ⟨k,rfl,HK,HF,HB⟩:=hrel
  by_cases hlt:k<l.length
  ·
   have HS:=Aside0.mk (fidx_step p l k 0 hlt)
   have hltz:(k:Int)<(l.length:Int):=by omega
   have HC1:(k:Int)+1≤9223372036854775807:=by have:=HC.out;omega
   obtain ⟨ad,hA,x0⟩:=at_int (Kd.C_below HR.out HB.out) k hlt
   subst hA
   have hcall:=hp (l.getD k 0) (getD_in l k 0 hlt) wr HB.out
   generalize l.getD k 0=y at *
   have p1:(0≤(k:Int))=True:=eq_true (by omega)
   replace hltz:=eq_true hltz
   have HL:=Aside0.mk hlt
   clear hp hlt
   cases hq:p y with
   | true =>
    rw [hq] at hcall
    have HQ:=Aside0.mk hq
    clear hq
    go_wp2
    refine hcall.mono ?_
    rintro e w' ⟨rfl,hb'⟩
    go_wp2
    go_ret
    exact ⟨by rw [← HF.out,HS.out,HQ.out];rfl,below_step HB.out hb'⟩
   | false =>
    rw [hq] at hcall
    have HQ:=Aside0.mk hq
    clear hq
    go_wp2
    refine hcall.mono ?_
    rintro e w' ⟨rfl,hb'⟩
    go_wp2
    go_roundw
    case rel=>exact ⟨k+1,by go_num,HL,⟨by rw [← HF.out,HS.out,HQ.out];rfl⟩,⟨below_step HB.out hb'⟩⟩
    case measure=>have:=HL.out;simp [intOf];omega
  ·
   have hltz:¬ (k:Int)<(l.length:Int):=by omega
   go_wp2
   go_ret
   exact ⟨by rw [← HF.out,List.drop_eq_nil_of_le (by omega)];rfl,HB.out⟩
theorem conI (p:Int→Bool) (g:FuncId) (fr:Array Value) (eg:∀ args w,(callFunc g args).run Try.prog w=.ok (.enter g args) w)
  (A:Option Addr) (c:Nat) (l:List Int) (w:World) (hr:Kd.C (Kd.int .i64) w A l.length l)
  (hp:∀ x∈l,∀ (W:World),Below w.heap.size w W→Calls Try.prog g (#[.int .i64 x]++fr) W fun e w'=>e=.returned (.bool (p x))∧Below W.heap.size W w') :
  Calls Try.prog 45 #[.slice A l.length c,.func (.func g) #[] fr] w fun e w'=>e=.returned (.bool (l.any p))∧Below w.heap.size w w':=by
 have HI:=Aside0.mk (idxI p g fr eg A c l w hr hp)
 have HA:=Aside0.mk (fidx_any p l 0)
 clear hr hp eg
 go_enter Try.func45,Try.ntmps45
 go_wp2_with (go_at_call 62;(with_reducible refine HI.out.mono ?_);rintro e w' ⟨rfl,hb⟩)
 go_ret
 exact ⟨by rw [HA.out];rfl,hb⟩
set_option maxHeartbeats 1000000 in
theorem idxL (p:(List Int)→Bool) (g:FuncId) (fr:Array Value) (eg:∀ args w,(callFunc g args).run Try.prog w=.ok (.enter g args) w)
  (A:Option Addr) (c:Nat) (l:List (List Int)) (w:World) (hr:Kd.C (Kd.slice 3 (Kd.int .i64)) w A l.length l)
  (hp:∀ x∈l,∀ (A0:Option Addr) (c0:Nat) (W:World),Below w.heap.size w W→x.length≤c0→(Kd.int .i64).C W A0 x.length x→Calls Try.prog g (#[.slice A0 x.length c0]++fr) W fun e w'=>e=.returned (.bool (p x))∧Below W.heap.size W w') :
  Calls Try.prog 63 #[.slice A l.length c,.func (.func g) #[] fr] w fun e w'=>e=.returned (.int .i64 (fidx p l 0))∧Below w.heap.size w w':=by
 have HR:=Aside0.mk hr
 have HC:=Aside0.mk (Kd.C_max hr)
 have HB:=Aside0.mk (Below.refl w.heap.size w)
 clear hr
 go_enter Try.func63,Try.ntmps63
 go_wp2
 go_loopw [8] (fun v8 w'=>∃ k:Nat,v8=.int .i64 k∧Aside0 (k≤l.length)∧Aside0 (fidx p (l.drop k) k=fidx p l 0)∧Aside0 (Below w.heap.size w w')) (fun v8 _=>l.length - (intOf v8).toNat)
 case atStart=>exact ⟨0,rfl,⟨Nat.zero_le _⟩,⟨rfl⟩,HB⟩
 case round =>
  clear HB
  obtain ⟨k,rfl,HK,HF,HB⟩:=hrel
  by_cases hlt:k<l.length
  ·
   have HS:=Aside0.mk (fidx_step p l k [] hlt)
   have hltz:(k:Int)<(l.length:Int):=by omega
   have HC1:(k:Int)+1≤9223372036854775807:=by have:=HC.out;omega
   obtain ⟨ad,A0,c0,hA,x0,y0,y1⟩:=at_sl (Kd.C_below HR.out HB.out) k hlt
   subst hA
   have hcall:=hp (l.getD k []) (getD_in l k [] hlt) A0 c0 wr HB.out y0 y1
   clear y0 y1
   generalize l.getD k []=y at *
   have p1:(0≤(k:Int))=True:=eq_true (by omega)
   replace hltz:=eq_true hltz
   have HL:=Aside0.mk hlt
   clear hp hlt
   cases hq:p y with
   | true =>
    rw [hq] at hcall
    have HQ:=Aside0.mk hq
    clear hq
    go_wp2
    refine hcall.mono ?_
    rintro e w' ⟨rfl,hb'⟩
    go_wp2
    go_ret
    exact ⟨by rw [← HF.out,HS.out,HQ.out];rfl,below_step HB.out hb'⟩
   | false =>
    rw [hq] at hcall
    have HQ:=Aside0.mk hq
    clear hq
    go_wp2
    refine hcall.mono ?_
    rintro e w' ⟨rfl,hb'⟩
    go_wp2
    go_roundw
    case rel=>exact ⟨k+1,by go_num,HL,⟨by rw [← HF.out,HS.out,HQ.out];rfl⟩,⟨below_step HB.out hb'⟩⟩
    case measure=>have:=HL.out;simp [intOf];omega
  ·
   have hltz:¬ (k:Int)<(l.length:Int):=by omega
   go_wp2
   go_ret
   exact ⟨by rw [← HF.out,List.drop_eq_nil_of_le (by omega)];rfl,HB.out⟩
theorem conL (p:(List Int)→Bool) (g:FuncId) (fr:Array Value) (eg:∀ args w,(callFunc g args).run Try.prog w=.ok (.enter g args) w)
  (A:Option Addr) (c:Nat) (l:List (List Int)) (w:World) (hr:Kd.C (Kd.slice 3 (Kd.int .i64)) w A l.length l)
  (hp:∀ x∈l,∀ (A0:Option Addr) (c0:Nat) (W:World),Below w.heap.size w W→x.length≤c0→(Kd.int .i64).C W A0 x.length x→Calls Try.prog g (#[.slice A0 x.length c0]++fr) W fun e w'=>e=.returned (.bool (p x))∧Below W.heap.size W w') :
  Calls Try.prog 48 #[.slice A l.length c,.func (.func g) #[] fr] w fun e w'=>e=.returned (.bool (l.any p))∧Below w.heap.size w w':=by
 have HI:=Aside0.mk (idxL p g fr eg A c l w hr hp)
 have HA:=Aside0.mk (fidx_any p l 0)
 clear hr hp eg
 go_enter Try.func48,Try.ntmps48
 go_wp2_with (go_at_call 63;(with_reducible refine HI.out.mono ?_);rintro e w' ⟨rfl,hb⟩)
 go_ret
 exact ⟨by rw [HA.out];rfl,hb⟩
set_option maxHeartbeats 1000000 in
theorem idxC (p:S60→Bool) (g:FuncId) (fr:Array Value) (eg:∀ args w,(callFunc g args).run Try.prog w=.ok (.enter g args) w)
  (A:Option Addr) (c:Nat) (l:List S60) (w:World) (hr:Kd.C k60 w A l.length l)
  (hp:∀ x∈l,∀ (W:World),Below w.heap.size w W→Calls Try.prog g (#[.agg #[.int .i64 x.f0,.int .i64 x.f1]]++fr) W fun e w'=>e=.returned (.bool (p x))∧Below W.heap.size W w') :
  Calls Try.prog 66 #[.slice A l.length c,.func (.func g) #[] fr] w fun e w'=>e=.returned (.int .i64 (fidx p l 0))∧Below w.heap.size w w':=by
 have HR:=Aside0.mk hr
 have HC:=Aside0.mk (Kd.C_max hr)
 have HB:=Aside0.mk (Below.refl w.heap.size w)
 clear hr
 go_enter Try.func66,Try.ntmps66
 go_wp2
 go_loopw [8] (fun v8 w'=>∃ k:Nat,v8=.int .i64 k∧Aside0 (k≤l.length)∧Aside0 (fidx p (l.drop k) k=fidx p l 0)∧Aside0 (Below w.heap.size w w')) (fun v8 _=>l.length - (intOf v8).toNat)
 case atStart=>exact ⟨0,rfl,⟨Nat.zero_le _⟩,⟨rfl⟩,HB⟩
 case round =>
  clear HB
  obtain ⟨k,rfl,HK,HF,HB⟩:=hrel
  by_cases hlt:k<l.length
  ·
   have HS:=Aside0.mk (fidx_step p l k z60 hlt)
   have hltz:(k:Int)<(l.length:Int):=by omega
   have HC1:(k:Int)+1≤9223372036854775807:=by have:=HC.out;omega
   obtain ⟨ad,hA,x0,x1⟩:=at_T60 (Kd.C_below HR.out HB.out) (k:Int) (by omega) (by omega)
   subst hA
   rw [show rd_T60 l (k:Int)=l.getD k z60 from rfl] at x0 x1
   rw [Int.toNat_natCast] at x0 x1
   have hcall:=hp (l.getD k z60) (getD_in l k z60 hlt) wr HB.out
   generalize l.getD k z60=y at *
   have p1:(0≤(k:Int))=True:=eq_true (by omega)
   replace hltz:=eq_true hltz
   have HL:=Aside0.mk hlt
   clear hp hlt
   cases hq:p y with
   | true =>
    rw [hq] at hcall
    have HQ:=Aside0.mk hq
    clear hq
    go_wp2
    refine hcall.mono ?_
    rintro e w' ⟨rfl,hb'⟩
    go_wp2
    go_ret
    exact ⟨by rw [← HF.out,HS.out,HQ.out];rfl,below_step HB.out hb'⟩
   | false =>
    rw [hq] at hcall
    have HQ:=Aside0.mk hq
    clear hq
    go_wp2
    refine hcall.mono ?_
    rintro e w' ⟨rfl,hb'⟩
    go_wp2
    go_roundw
    case rel=>exact ⟨k+1,by go_num,HL,⟨by rw [← HF.out,HS.out,HQ.out];rfl⟩,⟨below_step HB.out hb'⟩⟩
    case measure=>have:=HL.out;simp [intOf];omega
  ·
   have hltz:¬ (k:Int)<(l.length:Int):=by omega
   go_wp2
   go_ret
   exact ⟨by rw [← HF.out,List.drop_eq_nil_of_le (by omega)];rfl,HB.out⟩
theorem conC (p:S60→Bool) (g:FuncId) (fr:Array Value) (eg:∀ args w,(callFunc g args).run Try.prog w=.ok (.enter g args) w)
  (A:Option Addr) (c:Nat) (l:List S60) (w:World) (hr:Kd.C k60 w A l.length l)
  (hp:∀ x∈l,∀ (W:World),Below w.heap.size w W→Calls Try.prog g (#[.agg #[.int .i64 x.f0,.int .i64 x.f1]]++fr) W fun e w'=>e=.returned (.bool (p x))∧Below W.heap.size W w') :
  Calls Try.prog 51 #[.slice A l.length c,.func (.func g) #[] fr] w fun e w'=>e=.returned (.bool (l.any p))∧Below w.heap.size w w':=by
 have HI:=Aside0.mk (idxC p g fr eg A c l w hr hp)
 have HA:=Aside0.mk (fidx_any p l 0)
 clear hr hp eg
 go_enter Try.func51,Try.ntmps51
 go_wp2_with (go_at_call 66;(with_reducible refine HI.out.mono ?_);rintro e w' ⟨rfl,hb⟩)
 go_ret
 exact ⟨by rw [HA.out];rfl,hb⟩
end Go.Proofs.Ytlgkeaildncojaa.Q
end
section
namespace Go.Proofs.YtlgkeaildncojaaW.PrintWords
open Go.RowKit Go.Shelf
def Kd.old {α:Type} (d:Kd α) (w0:World):Kd α where
 sz:=d.sz
 E:=[]
 K:=fun _ x cs=>d.K w0 x cs
 M:=fun _ _ _ x cs=>d.K w0 x cs
 K_len:=fun h=>d.K_len h
 K_one:=fun h u hu=>d.K_one h u hu
 K_below:=fun _ h=>h
 K_of_M:=fun h=>h
 M_mono:=fun _ h=>h
 M_bound:=fun h=>h
 M_move:=fun _ h=>h
 M_lower:=fun _ h=>h
theorem Kd.C_old {α:Type} {d:Kd α} {w0 w:World} {A:Option Addr} {n:Nat} {xs:List α} (h:(Kd.old d w0).C w A n xs) (hb:Below w0.heap.size w0 w):d.C w A n xs :=
 ReadsRow.imp_ h (Below.refl _ _) (fun _ _ hp=>d.K_below hb hp)
end Go.Proofs.YtlgkeaildncojaaW.PrintWords
namespace Go.Proofs.Ytlgkeaildncojaa.Q
open Go.RowKit Go.Shelf Go.Proofs.YtlgkeaildncojaaW.PrintWords Go.Proofs.YtlgkeaildncojaaW.PrintLast Go.Proofs.YtlgkeaildncojaaW.PrintMore
set_option linter.unusedSimpArgs false
set_option linter.unusedVariables false
theorem flat_step {α:Type} (ls:List (List α)) (k:Nat) (h:k<ls.length):(ls.take (k+1)).flatten=(ls.take k).flatten++ls.getD k []:=by
 rw [List.take_add_one,List.flatten_append,List.getD_eq_getElem?_getD,List.getElem?_eq_getElem h]
 simp
theorem flat_le {α:Type} (ls:List (List α)) (k:Nat):(ls.take k).flatten.length≤ls.flatten.length:=by
 have h:=congrArg (fun l:List (List α)=>l.flatten.length) (List.take_append_drop k ls)
 simp only [List.flatten_append,List.length_append] at h
 omega
theorem emptyRow {α:Type} (d:Kd α) (e:Nat) {w:World} (cap:Nat) (cur:Array Value) (hc:cap≤maxLen) (hs:cur.size=cap*d.sz):d.R e (w.drew.alloc (.cells cur e)) w.heap.size (fun _=>True) (.slice (some ⟨w.heap.size,0,none⟩) 0 cap) []:=by
 refine ⟨fun _ _=>trivial,[],⟨by simp,.inr ⟨w.heap.size,cap,cur,rfl,Nat.le_refl _,blk_new w.drew _,Nat.zero_le _,hc,hs,by simp⟩⟩,Reps.none _ _⟩
def growL_ren:Go.Shelf.Ren:=⟨fun|4=>71|n=>n,fun|22=>25|25=>26|n=>n,fun|n=>n⟩
theorem lays_GrowL:Go.Proofs.Lays8.n4 Try.prog growL_ren:={
 mixed:=by kernel_rfl
 f4 := ⟨"slices.Grow[[][]int,[]int]", by decide, Try.func71.trans (congrArg some (by kernel_rfl))⟩
 t0:=Try.underlying0
 a0:=Try.isAgg0
 z0:=Try.sizeOf0
 v0:=Try.zeroValue0
 t3:=Try.underlying3
 a3:=Try.isAgg3
 z3:=Try.sizeOf3
 v3:=Try.zeroValue3
 t4:=Try.underlying4
 a4:=Try.isAgg4
 z4:=Try.sizeOf4
 v4:=Try.zeroValue4
 t9:=Try.underlying9
 a9:=Try.isAgg9
 z9:=Try.sizeOf9
 v9:=Try.zeroValue9
 t20:=Try.underlying20
 a20:=Try.isAgg20
 z20:=Try.sizeOf20
 v20:=Try.zeroValue20
 t22:=Try.underlying25
 a22:=Try.isAgg25
 z22:=Try.sizeOf25
 v22:=Try.zeroValue25 }
theorem hinf26:(Try.prog.info? 26).map (fun i=>(i.zero,i.size,i.bytes))=some (some (.slice none 0 0),1,24):=by kernel_rfl
theorem growL_calls {α:Type} (d:Kd α) (hd:d.sz=1) (n:Nat) (hn:n≤1000000) (w:World):Calls Try.prog 71 #[.slice none 0 0,.int .i64 n] w fun e w'=>∃ v,e=.returned v∧Kd.R d 26 w' w.heap.size (fun _=>True) v []∧Below w.heap.size w w':=by
 by_cases h0:n=0
 ·
  subst h0
  refine (Any8.slices_Grow_room lays_GrowL none 0 0 0 w (by omega) (by omega) (by omega) (by omega)).mono ?_
  rintro e w' ⟨rfl,rfl⟩
  exact ⟨_,rfl,Kd.R_nil _ _ _ _ _,Below.refl _ _⟩
 ·
  obtain ⟨i0,hi0,hz0,hs0,hb0⟩:∃ i,Try.prog.info? 26=some i∧i.zero=some (Value.slice none 0 0)∧i.size=1∧i.bytes=24:=by
   have h:=hinf26
   cases hq:Try.prog.info? 26 with
   | none=>rw [hq] at h;cases h
   | some i =>
    rw [hq] at h
    simp only [Option.map_some,Option.some.injEq,Prod.mk.injEq] at h
    exact ⟨i,rfl,h.1,h.2.1,h.2.2⟩
  refine (Any8.slices_Grow_grow lays_GrowL i0 (Value.slice none 0 0) hi0 hz0 (by omega) none 0 0 n [] w (by omega) (by omega) (by rw [hb0];omega) (by omega) (by simp) (fun _=>rfl) (fun a h=>by cases h)).mono ?_
  rintro e w' ⟨rfl,rfl⟩
  refine ⟨_,rfl,emptyRow d 26 _ _ ?_ ?_,?_⟩
  ·
   exact grownCap_le_maxLen _ _ _ _ (by unfold maxLen;omega)
  ·
   have hg:=grownCap_ge w (0+n) 0 26
   have hg2:0+n≤grownCap w (0+n) 0 (growL_ren.t 25):=hg
   have hz2:((Value.slice none 0 0)).cells.size=1:=rfl
   rw [Array.size_append,Array.size_append,size_zeroCells,size_zeroCells,hz2,hd]
   simp only [List.size_toArray,List.length_nil]
   omega
  ·
   exact below_alloc (below_drew (Below.refl _ _)) _
set_option maxRecDepth 100000 in
set_option maxHeartbeats 4000000 in
theorem concatL_calls (A:Option Addr) (c:Nat) (ls:List (List (List Int))) (w:World) (hr:Kd.C (Kd.slice 26 (Kd.slice 3 (Kd.int .i64))) w A ls.length ls) (hl:ls.length≤1000) (hf:ls.flatten.length≤1000000) :
  Calls Try.prog 64 #[.slice A ls.length c] w fun e w'=>∃ v,e=.returned v∧Kd.R (Kd.old (Kd.slice 3 (Kd.int .i64)) w) 26 w' w.heap.size (fun _=>True) v ls.flatten∧Below w.heap.size w w':=by
 have HR:=Aside0.mk hr
 have HL:=Aside0.mk hl
 have HF:=Aside0.mk hf
 have HO:=Own.start w
 clear hr hl hf
 go_enter Try.func64,Try.ntmps64
 go_wp2
 go_loopw [3,11] (fun v3 v11 w'=>∃ (k s:Nat),v11=.int .i64 k∧v3=.int .i64 s∧Aside0 (k≤ls.length)∧Aside0 ((ls.take k).flatten.length=s)∧Aside0 (Own w w' [])) (fun _ v11 _=>ls.length - (intOf v11).toNat)
 case atStart=>exact ⟨0,0,rfl,rfl,⟨Nat.zero_le _⟩,⟨rfl⟩,⟨HO⟩⟩
 case round =>
  clear HO
  obtain ⟨k,s,rfl,rfl,HK,HP,HOO⟩:=hrel
  have HO:=HOO.out
  clear HOO
  by_cases hlt:k<ls.length
  case pos =>
   obtain ⟨ad,A0,c0,hA,x0,y0,y1⟩:=at_sl (HO.old HR.out) k hlt
   subst hA
   clear y0 y1
   have hfs:=congrArg List.length (flat_step ls k hlt)
   rw [List.length_append] at hfs
   have hfl:=flat_le ls (k+1)
   rw [HP.out] at hfs
   generalize hm:(ls.getD k []).length=m at x0 hfs
   have HFS:=Aside0.mk hfs
   have b0:(s:Int)+(m:Int)≤1000000:=by have:=HF.out;omega
   have hkb:(k:Int)+1≤1001:=by have:=HL.out;omega
   have q1:((k:Int)<(ls.length:Int))=True:=eq_true (by omega)
   have q0:(0≤(k:Int))=True:=eq_true (by omega)
   have q2:((s:Int)+(m:Int)<0)=False:=eq_false (by omega)
   have HKL:=Aside0.mk hlt
   clear hlt hfs hfl hm
   go_wp2
   go_roundw
   case rel=>exact ⟨k+1,s+m,by go_num,by go_num,⟨HKL.out⟩,⟨HFS.out⟩,⟨HO⟩⟩
   case measure=>have:=HKL.out;simp [intOf];omega
  have hk:k=ls.length:=by have:=HK.out;omega
  have q1:¬ ((k:Int)<(ls.length:Int)):=by omega
  have hs1:s≤1000000:=by have:=HP.out;have h2:=flat_le ls k;have:=HF.out;omega
  have hgr:=fun W=>growL_calls (Kd.old (Kd.slice 3 (Kd.int .i64)) w) rfl s hs1 W
  clear hk hlt hs1
  go_wp2_with (first
   | (go_at_call 71;(with_reducible refine (hgr _).mono ?_);rintro e W1 ⟨v1,rfl,hR1,hb1⟩;have HO1:=HO.called hb1 hR1;clear HO hR1 hb1;obtain ⟨A1,c1,rfl,-,-⟩:=HO1.row_at 0 rfl))
  clear hgr q1 HK HP
  go_loopw [6,27] (fun v6 v27 w'=>∃ (k:Nat) (pre:List (List Int)) (A6:Option Addr) (c6:Nat),v27=.int .i64 k∧v6=.slice A6 pre.length c6∧Aside0 (k≤ls.length)∧Aside0 ((ls.take k).flatten=pre)∧Aside0 (Own w w' [.row (Kd.old (Kd.slice 3 (Kd.int .i64)) w) 26 w.heap.size (.slice A6 pre.length c6) pre])) (fun _ v27 _=>ls.length - (intOf v27).toNat)
  case atStart=>exact ⟨0,[],A1,c1,rfl,rfl,⟨Nat.zero_le _⟩,⟨rfl⟩,⟨HO1⟩⟩
  case round =>
   clear HO1
   obtain ⟨k,pre,A6,c6,rfl,rfl,HK,HP,HOO⟩:=hrel
   have HO:=HOO.out
   clear HOO
   by_cases hlt:k<ls.length
   case neg =>
    have hk:k=ls.length:=by have:=HK.out;omega
    have q1:¬ ((k:Int)<(ls.length:Int)):=by omega
    have HFU:Aside0 (pre=ls.flatten):=⟨by rw [← HP.out,hk,List.take_length]⟩
    clear hk hlt
    go_wp2
    go_ret
    refine ⟨_,rfl,?_,HO.below⟩
    rw [← HFU.out]
    exact HO.row_R 0 rfl
   obtain ⟨ad,A0,c0,hA,x00,y0,y1⟩:=at_sl HR.out k hlt
   have x0:=pw_cell_below HO.below x00
   subst hA
   have HY:=Aside0.mk y1
   have hfs:=flat_step ls k hlt
   rw [HP.out] at hfs
   have hfl:=flat_le ls (k+1)
   rw [hfs,List.length_append] at hfl
   have HFL:=Aside0.mk hfl
   clear y0 y1 x00 hfl
   generalize ls.getD k []=ys at x0 HY hfs HFL
   have HFS:=Aside0.mk hfs
   have hkb:(k:Int)+1≤1001:=by have:=HL.out;omega
   have q1:((k:Int)<(ls.length:Int))=True:=eq_true (by omega)
   have q0:(0≤(k:Int))=True:=eq_true (by omega)
   have HKL:=Aside0.mk hlt
   clear hlt hfs
   go_wp2_with (first
    | ((with_reducible refine gate_builtin (b:=.append) (xs:=#[.tmp 31,.tmp 32]) rfl ?_);at_builtin;refine ev_rows 0 HO rfl rfl (.tmp 31) (.tmp 32) 25 (.slice none 0 0) 24 rfl Try.underlying25 hinf26 rfl (Nat.succ_pos _) (by decide) ys A0 c0 rfl rfl (ReadsRow.imp_ HY.out HO.below (fun _ _ h=>h)) (fun _ _ h=>h) ?aL ?_;(case aL=>have:=HFL.out;have:=HF.out;omega);intro A9 c9 W9 HO9;clear HO))
   go_roundw
   case rel=>exact ⟨k+1,pre++ys,A9,c9,by go_num,by first|rfl|rw [List.length_append],⟨HKL.out⟩,⟨HFS.out⟩,⟨HO9⟩⟩
   case measure=>have:=HKL.out;simp [intOf];omega
def growT_ren:Go.Shelf.Ren:=⟨fun|4=>72|n=>n,fun|22=>33|25=>55|n=>n,fun|n=>n⟩
theorem lays_GrowT:Go.Proofs.Lays8.n4 Try.prog growT_ren:={
 mixed:=by kernel_rfl
 f4 := ⟨"slices.Grow[[]abugida/api.Item,abugida/api.Item]", by decide, Try.func72.trans (congrArg some (by kernel_rfl))⟩
 t0:=Try.underlying0
 a0:=Try.isAgg0
 z0:=Try.sizeOf0
 v0:=Try.zeroValue0
 t3:=Try.underlying3
 a3:=Try.isAgg3
 z3:=Try.sizeOf3
 v3:=Try.zeroValue3
 t4:=Try.underlying4
 a4:=Try.isAgg4
 z4:=Try.sizeOf4
 v4:=Try.zeroValue4
 t9:=Try.underlying9
 a9:=Try.isAgg9
 z9:=Try.sizeOf9
 v9:=Try.zeroValue9
 t20:=Try.underlying20
 a20:=Try.isAgg20
 z20:=Try.sizeOf20
 v20:=Try.zeroValue20
 t22:=Try.underlying33
 a22:=Try.isAgg33
 z22:=Try.sizeOf33
 v22:=Try.zeroValue33 }
theorem hinf55:(Try.prog.info? 55).map (fun i=>(i.zero,i.size,i.bytes))=some (some (.agg #[.int .i64 0,.int .i64 0]),2,16):=by kernel_rfl
theorem growT_calls {α:Type} (d:Kd α) (hd:d.sz=2) (n:Nat) (hn:n≤1000000) (w:World):Calls Try.prog 72 #[.slice none 0 0,.int .i64 n] w fun e w'=>∃ v,e=.returned v∧Kd.R d 55 w' w.heap.size (fun _=>True) v []∧Below w.heap.size w w':=by
 by_cases h0:n=0
 ·
  subst h0
  refine (Any8.slices_Grow_room lays_GrowT none 0 0 0 w (by omega) (by omega) (by omega) (by omega)).mono ?_
  rintro e w' ⟨rfl,rfl⟩
  exact ⟨_,rfl,Kd.R_nil _ _ _ _ _,Below.refl _ _⟩
 ·
  obtain ⟨i0,hi0,hz0,hs0,hb0⟩:∃ i,Try.prog.info? 55=some i∧i.zero=some (Value.agg #[.int .i64 0,.int .i64 0])∧i.size=2∧i.bytes=16:=by
   have h:=hinf55
   cases hq:Try.prog.info? 55 with
   | none=>rw [hq] at h;cases h
   | some i =>
    rw [hq] at h
    simp only [Option.map_some,Option.some.injEq,Prod.mk.injEq] at h
    exact ⟨i,rfl,h.1,h.2.1,h.2.2⟩
  refine (Any8.slices_Grow_grow lays_GrowT i0 (Value.agg #[.int .i64 0,.int .i64 0]) hi0 hz0 (by omega) none 0 0 n [] w (by omega) (by omega) (by rw [hb0];omega) (by omega) (by simp) (fun _=>rfl) (fun a h=>by cases h)).mono ?_
  rintro e w' ⟨rfl,rfl⟩
  refine ⟨_,rfl,emptyRow d 55 _ _ ?_ ?_,?_⟩
  ·
   exact grownCap_le_maxLen _ _ _ _ (by unfold maxLen;omega)
  ·
   have hg:=grownCap_ge w (0+n) 0 55
   have hg2:0+n≤grownCap w (0+n) 0 (growT_ren.t 25):=hg
   have hz2:((Value.agg #[.int .i64 0,.int .i64 0])).cells.size=2:=rfl
   rw [Array.size_append,Array.size_append,size_zeroCells,size_zeroCells,hz2,hd]
   simp only [List.size_toArray,List.length_nil]
   omega
  ·
   exact below_alloc (below_drew (Below.refl _ _)) _
set_option maxRecDepth 100000 in
set_option maxHeartbeats 4000000 in
theorem concatT_calls (A:Option Addr) (c:Nat) (ls:List (List S55)) (w:World) (hr:Kd.C (Kd.slice 55 k55) w A ls.length ls) (hl:ls.length≤1000) (hf:ls.flatten.length≤1000000) :
  Calls Try.prog 68 #[.slice A ls.length c] w fun e w'=>∃ v,e=.returned v∧Kd.R k55 55 w' w.heap.size (fun _=>True) v ls.flatten∧Below w.heap.size w w':=by
 have HR:=Aside0.mk hr
 have HL:=Aside0.mk hl
 have HF:=Aside0.mk hf
 have HO:=Own.start w
 clear hr hl hf
 go_enter Try.func68,Try.ntmps68
 go_wp2
 go_loopw [3,11] (fun v3 v11 w'=>∃ (k s:Nat),v11=.int .i64 k∧v3=.int .i64 s∧Aside0 (k≤ls.length)∧Aside0 ((ls.take k).flatten.length=s)∧Aside0 (Own w w' [])) (fun _ v11 _=>ls.length - (intOf v11).toNat)
 case atStart=>exact ⟨0,0,rfl,rfl,⟨Nat.zero_le _⟩,⟨rfl⟩,⟨HO⟩⟩
 case round =>
  clear HO
  obtain ⟨k,s,rfl,rfl,HK,HP,HOO⟩:=hrel
  have HO:=HOO.out
  clear HOO
  by_cases hlt:k<ls.length
  case pos =>
   obtain ⟨ad,A0,c0,hA,x0,y0,y1⟩:=at_sl (HO.old HR.out) k hlt
   subst hA
   clear y0 y1
   have hfs:=congrArg List.length (flat_step ls k hlt)
   rw [List.length_append] at hfs
   have hfl:=flat_le ls (k+1)
   rw [HP.out] at hfs
   generalize hm:(ls.getD k []).length=m at x0 hfs
   have HFS:=Aside0.mk hfs
   have b0:(s:Int)+(m:Int)≤1000000:=by have:=HF.out;omega
   have hkb:(k:Int)+1≤1001:=by have:=HL.out;omega
   have q1:((k:Int)<(ls.length:Int))=True:=eq_true (by omega)
   have q0:(0≤(k:Int))=True:=eq_true (by omega)
   have q2:((s:Int)+(m:Int)<0)=False:=eq_false (by omega)
   have HKL:=Aside0.mk hlt
   clear hlt hfs hfl hm
   go_wp2
   go_roundw
   case rel=>exact ⟨k+1,s+m,by go_num,by go_num,⟨HKL.out⟩,⟨HFS.out⟩,⟨HO⟩⟩
   case measure=>have:=HKL.out;simp [intOf];omega
  have hk:k=ls.length:=by have:=HK.out;omega
  have q1:¬ ((k:Int)<(ls.length:Int)):=by omega
  have hs1:s≤1000000:=by have:=HP.out;have h2:=flat_le ls k;have:=HF.out;omega
  have hgr:=fun W=>growT_calls k55 rfl s hs1 W
  clear hk hlt hs1
  go_wp2_with (first
   | (go_at_call 72;(with_reducible refine (hgr _).mono ?_);rintro e W1 ⟨v1,rfl,hR1,hb1⟩;have HO1:=HO.called hb1 hR1;clear HO hR1 hb1;obtain ⟨A1,c1,rfl,-,-⟩:=HO1.row_at 0 rfl))
  clear hgr q1 HK HP
  go_loopw [6,27] (fun v6 v27 w'=>∃ (k:Nat) (pre:List S55) (A6:Option Addr) (c6:Nat),v27=.int .i64 k∧v6=.slice A6 pre.length c6∧Aside0 (k≤ls.length)∧Aside0 ((ls.take k).flatten=pre)∧Aside0 (Own w w' [.row k55 55 w.heap.size (.slice A6 pre.length c6) pre])) (fun _ v27 _=>ls.length - (intOf v27).toNat)
  case atStart=>exact ⟨0,[],A1,c1,rfl,rfl,⟨Nat.zero_le _⟩,⟨rfl⟩,⟨HO1⟩⟩
  case round =>
   clear HO1
   obtain ⟨k,pre,A6,c6,rfl,rfl,HK,HP,HOO⟩:=hrel
   have HO:=HOO.out
   clear HOO
   by_cases hlt:k<ls.length
   case neg =>
    have hk:k=ls.length:=by have:=HK.out;omega
    have q1:¬ ((k:Int)<(ls.length:Int)):=by omega
    have HFU:Aside0 (pre=ls.flatten):=⟨by rw [← HP.out,hk,List.take_length]⟩
    clear hk hlt
    go_wp2
    go_ret
    refine ⟨_,rfl,?_,HO.below⟩
    rw [← HFU.out]
    exact HO.row_R 0 rfl
   obtain ⟨ad,A0,c0,hA,x00,y0,y1⟩:=at_sl HR.out k hlt
   have x0:=pw_cell_below HO.below x00
   subst hA
   have HY:=Aside0.mk y1
   have hfs:=flat_step ls k hlt
   rw [HP.out] at hfs
   have hfl:=flat_le ls (k+1)
   rw [hfs,List.length_append] at hfl
   have HFL:=Aside0.mk hfl
   clear y0 y1 x00 hfl
   generalize ls.getD k []=ys at x0 HY hfs HFL
   have HFS:=Aside0.mk hfs
   have hkb:(k:Int)+1≤1001:=by have:=HL.out;omega
   have q1:((k:Int)<(ls.length:Int))=True:=eq_true (by omega)
   have q0:(0≤(k:Int))=True:=eq_true (by omega)
   have HKL:=Aside0.mk hlt
   clear hlt hfs
   go_wp2_with (first
    | ((with_reducible refine gate_builtin (b:=.append) (xs:=#[.tmp 31,.tmp 32]) rfl ?_);at_builtin;refine ev_rows 0 HO rfl rfl (.tmp 31) (.tmp 32) 33 (.agg #[.int .i64 0,.int .i64 0]) 16 rfl Try.underlying33 hinf55 rfl (Nat.succ_pos _) (by decide) ys A0 c0 rfl rfl (Kd.C_below HY.out HO.below) (fun _ _ h=>h) ?aL ?_;(case aL=>have:=HFL.out;have:=HF.out;omega);intro A9 c9 W9 HO9;clear HO))
   go_roundw
   case rel=>exact ⟨k+1,pre++ys,A9,c9,by go_num,by first|rfl|rw [List.length_append],⟨HKL.out⟩,⟨HFS.out⟩,⟨HO9⟩⟩
   case measure=>have:=HKL.out;simp [intOf];omega
end Go.Proofs.Ytlgkeaildncojaa.Q
end
section
namespace Go.Proofs.Ytlgkeaildncojaa.Q
open Go.RowKit Go.Proofs.YtlgkeaildncojaaW.PrintWords Go.Proofs.YtlgkeaildncojaaW.PrintLast Go.Proofs.YtlgkeaildncojaaW.PrintMore
attribute [local go_sem] max2_int min2_int max_two min_two max_three min_three max_four min_four   -- for this text's walks alone
set_option linter.unusedVariables false
set_option linter.unusedSimpArgs false
def rules_checkRule_1_1.f (a0:Int) (a1:Int):Option (Bool):=if a0<0 then (some true) else (some (decide (a0 ≥ a1)))
set_option maxHeartbeats 8000000 in
set_option maxRecDepth 100000 in
theorem rules_checkRule_1_1.calls {gb50:Nat} (a0:Int) (a1:Int) (r:Bool) (w:World) (hb50:w.heap[gb50]?=some (.cells #[.int .i64 a1] 3 (0,0))) (h:rules_checkRule_1_1.f a0 a1=some r) :
  Calls Try.prog 46 #[.int .i64 a0,.pointer (some ⟨gb50,0,none⟩)] w fun e w'=>e=.returned (.bool r)∧Below w.heap.size w w':=by
 have BK50:=Aside0.mk hb50
 clear hb50
 have HB:=Aside0.mk (Below.refl w.heap.size w)
 have H:(if a0<0 then (some true) else (some (decide (a0 ≥ a1))))=some r:=h
 clear h
 by_cases c3:a0<0
 ·
  rw [if_pos c3] at H
  have c3b0:decide (a0<0)=true:=decide_eq_true c3
  clear c3
  obtain rfl:=Option.some.inj H
  go_enter Try.func46,Try.ntmps46
  go_wp2
  go_ret
  exact ⟨by first|rfl|(simp [errW_none,errW_some]<;>rfl)|(simp [*,errW_none,errW_some]<;>rfl),by repeat (first|(with_reducible first|exact HB.out|apply below_alloc|apply pw_below_drewN|apply below_drew1|refine below_set ?_ GE50.out)|exact HB.out)⟩
 ·
  rw [if_neg c3] at H
  have c3b0:decide (a0<0)=false:=decide_eq_false c3
  clear c3
  obtain rfl:=Option.some.inj H
  have hcz4_0:w.cell? ⟨gb50,0,none⟩=some (.int .i64 a1):=(blk_cell BK50.out 0).trans rfl
  have hfz4_0:=blk_frozen BK50.out 0
  go_enter Try.func46,Try.ntmps46
  go_wp2
  go_ret
  exact ⟨by first|rfl|(simp [errW_none,errW_some]<;>rfl)|(simp [*,errW_none,errW_some]<;>rfl),by repeat (first|(with_reducible first|exact HB.out|apply below_alloc|apply pw_below_drewN|apply below_drew1|refine below_set ?_ GE50.out)|exact HB.out)⟩
def rules_checkRule_2.f (a0_0:Int) (a0_1:Int) (l1_0:List (List Int)) (l1_1:List (List Int)) (l1_2:List (List Int)) (l1_3:List Int) (l1_4:List (S60)) (a2:Int) (a3:Int):Option (Bool):=if a0_0<0 then (some true) else (if a0_0 ≥ (l1_1.length:Int) then (some true) else (if a0_1≤a2 then (some true) else (some (decide (a0_1 ≥ a3)))))
set_option maxHeartbeats 8000000 in
set_option maxRecDepth 100000 in
theorem rules_checkRule_2.calls {gb50:Nat} {gb51:Nat} {gb52:Nat} (a0_0:Int) (a0_1:Int) (A1_0:Option Addr) (c1_0:Nat) (l1_0:List (List Int)) (A1_1:Option Addr) (c1_1:Nat) (l1_1:List (List Int)) (A1_2:Option Addr) (c1_2:Nat) (l1_2:List (List Int)) (A1_3:Option Addr) (c1_3:Nat) (l1_3:List Int) (A1_4:Option Addr) (c1_4:Nat) (l1_4:List (S60)) (a2:Int) (a3:Int) (r:Bool) (w:World) (jl_:Kd.C (Kd.slice 3 (Kd.int .i64)) w A1_0 l1_0.length l1_0) (hc1_0:l1_0.length≤c1_0) (jm_:Kd.C (Kd.slice 3 (Kd.int .i64)) w A1_1 l1_1.length l1_1) (hc1_1:l1_1.length≤c1_1) (jn_:Kd.C (Kd.slice 3 (Kd.int .i64)) w A1_2 l1_2.length l1_2) (hc1_2:l1_2.length≤c1_2) (jo_:Kd.C (Kd.int .i64) w A1_3 l1_3.length l1_3) (hc1_3:l1_3.length≤c1_3) (jp_:Kd.C k60 w A1_4 l1_4.length l1_4) (hc1_4:l1_4.length≤c1_4) (hb50:w.heap[gb50]?=some (.cells #[.slice A1_0 l1_0.length c1_0,.slice A1_1 l1_1.length c1_1,.slice A1_2 l1_2.length c1_2,.slice A1_3 l1_3.length c1_3,.slice A1_4 l1_4.length c1_4] 49 (0,0))) (hb51:w.heap[gb51]?=some (.cells #[.int .i64 a2] 3 (0,0))) (hb52:w.heap[gb52]?=some (.cells #[.int .i64 a3] 3 (0,0))) (j9_:gb50≠gb51) (ja_:gb50≠gb52) (jb_:gb51≠gb52) (h:rules_checkRule_2.f a0_0 a0_1 l1_0 l1_1 l1_2 l1_3 l1_4 a2 a3=some r) :
  Calls Try.prog 47 #[.agg #[.int .i64 a0_0,.int .i64 a0_1],.pointer (some ⟨gb50,0,none⟩),.pointer (some ⟨gb51,0,none⟩),.pointer (some ⟨gb52,0,none⟩)] w fun e w'=>e=.returned (.bool r)∧Below w.heap.size w w':=by
 have hu60:=Try.underlying60
 have js_:=Aside0.mk jl_
 have jt_:=Aside0.mk hc1_0
 clear jl_ hc1_0
 have ju_:=Aside0.mk jm_
 have jv_:=Aside0.mk hc1_1
 clear jm_ hc1_1
 have jw_:=Aside0.mk jn_
 have jx_:=Aside0.mk hc1_2
 clear jn_ hc1_2
 have jy_:=Aside0.mk jo_
 have jz_:=Aside0.mk hc1_3
 clear jo_ hc1_3
 have j10:=Aside0.mk jp_
 have j11:=Aside0.mk hc1_4
 clear jp_ hc1_4
 have BK50:=Aside0.mk hb50
 clear hb50
 have BK51:=Aside0.mk hb51
 clear hb51
 have BK52:=Aside0.mk hb52
 clear hb52
 have jc_:=Aside0.mk j9_
 have jd_:=Aside0.mk (Ne.symm j9_)
 clear j9_
 have je_:=Aside0.mk ja_
 have jf_:=Aside0.mk (Ne.symm ja_)
 clear ja_
 have jg_:=Aside0.mk jb_
 have jh_:=Aside0.mk (Ne.symm jb_)
 clear jb_
 have HB:=Aside0.mk (Below.refl w.heap.size w)
 have H:(if a0_0<0 then (some true) else (if a0_0 ≥ (l1_1.length:Int) then (some true) else (if a0_1≤a2 then (some true) else (some (decide (a0_1 ≥ a3))))))=some r:=h
 clear h
 by_cases c5:a0_0<0
 ·
  rw [if_pos c5] at H
  have c5b0:decide (a0_0<0)=true:=decide_eq_true c5
  clear c5
  obtain rfl:=Option.some.inj H
  go_enter Try.func47,Try.ntmps47
  go_wp2_with (first|((with_reducible refine gate_dst (N:=4) rfl ?_);(try (refine gate_guard (by rfl) ?_;dsimp only));refine box_event ?hg (N:=4) ?hd (cs:=#[.int .i64 a0_0,.int .i64 a0_1]) (t:=60) ?hr ?_;(case hd=>rfl);(case hg=>rfl);(case hr=>first|(go_simp;done)|(go_simp;rfl));intro j0_ hg w6 hbox hb;have n0_:=Aside0.mk (blk_below (g:=gb50) (o:=.cells #[.slice A1_0 l1_0.length c1_0,.slice A1_1 l1_1.length c1_1,.slice A1_2 l1_2.length c1_2,.slice A1_3 l1_3.length c1_3,.slice A1_4 l1_4.length c1_4] 49 (0,0)) za42 hb);have n1_:=Aside0.mk (blk_below (g:=gb51) (o:=.cells #[.int .i64 a2] 3 (0,0)) za43 hb);have n2_:=Aside0.mk (blk_below (g:=gb52) (o:=.cells #[.int .i64 a3] 3 (0,0)) za44 hb);have n3_:=Aside0.mk (below_step za14 hb);have n4_:=Aside0.mk (hbox);have n5_:=Aside0.mk ((za6:w.heap.size≤j0_));have n6_:=Aside0.mk ((za6:w.heap.size≤j0_));have n7_:=Aside0.mk ((za4:gb50≠j0_));have n8_:=Aside0.mk ((za5:j0_≠gb50));have n9_:=Aside0.mk ((za17:gb51≠j0_));have n10_:=Aside0.mk ((za18:j0_≠gb51));have n11_:=Aside0.mk ((za19:gb52≠j0_));have n12_:=Aside0.mk ((za20:j0_≠gb52));clear BK50;clear BK51;clear BK52;clear HB;have BK50:=n0_;have BK51:=n1_;have BK52:=n2_;have HB:=n3_;have j1_:=n4_;have ji_:=n5_;have j8_:=n6_;have j2_:=n7_;have j3_:=n8_;have j4_:=n9_;have j5_:=n10_;have j6_:=n11_;have j7_:=n12_;clear n0_ n1_ n2_ n3_ n4_ n5_ n6_ n7_ n8_ n9_ n10_ n11_ n12_;clear hb hbox hg;have hnb7:=j3_.out;have hnc7:=j2_.out;have hnb8:=j5_.out;have hnc8:=j4_.out;have hnb9:=j7_.out;have hnc9:=j6_.out;have hcz10_0:w6.cell? ⟨j0_,0,none⟩=some (.int .i64 a0_0):=(blk_cell j1_.out 0).trans rfl;have hcz10_1:w6.cell? ⟨j0_,1,none⟩=some (.int .i64 a0_1):=(blk_cell j1_.out 1).trans rfl;have hfz10_0:=blk_frozen j1_.out 0;have hfz10_1:=blk_frozen j1_.out 1))
  go_ret
  exact ⟨by first|rfl|(simp [errW_none,errW_some]<;>rfl)|(simp [*,errW_none,errW_some]<;>rfl),by repeat (first|(with_reducible first|exact HB.out|apply below_alloc|apply pw_below_drewN|apply below_drew1|refine below_set ?_ GE50.out|refine below_set ?_ GE51.out|refine below_set ?_ GE52.out|refine below_set ?_ j8_.out)|exact HB.out)⟩
 ·
  rw [if_neg c5] at H
  have c5b0:decide (a0_0<0)=false:=decide_eq_false c5
  clear c5
  by_cases c11:a0_0 ≥ (l1_1.length:Int)
  ·
   rw [if_pos c11] at H
   have c11b0:decide ((l1_1.length:Int)≤a0_0)=true:=decide_eq_true c11
   clear c11
   obtain rfl:=Option.some.inj H
   go_enter Try.func47,Try.ntmps47
   go_wp2_with (first|((with_reducible refine gate_dst (N:=4) rfl ?_);(try (refine gate_guard (by rfl) ?_;dsimp only));refine box_event ?hg (N:=4) ?hd (cs:=#[.int .i64 a0_0,.int .i64 a0_1]) (t:=60) ?hr ?_;(case hd=>rfl);(case hg=>rfl);(case hr=>first|(go_simp;done)|(go_simp;rfl));intro j0_ hg w12 hbox hb;have n0_:=Aside0.mk (blk_below (g:=gb50) (o:=.cells #[.slice A1_0 l1_0.length c1_0,.slice A1_1 l1_1.length c1_1,.slice A1_2 l1_2.length c1_2,.slice A1_3 l1_3.length c1_3,.slice A1_4 l1_4.length c1_4] 49 (0,0)) za42 hb);have n1_:=Aside0.mk (blk_below (g:=gb51) (o:=.cells #[.int .i64 a2] 3 (0,0)) za43 hb);have n2_:=Aside0.mk (blk_below (g:=gb52) (o:=.cells #[.int .i64 a3] 3 (0,0)) za44 hb);have n3_:=Aside0.mk (below_step za14 hb);have n4_:=Aside0.mk (hbox);have n5_:=Aside0.mk ((za6:w.heap.size≤j0_));have n6_:=Aside0.mk ((za6:w.heap.size≤j0_));have n7_:=Aside0.mk ((za4:gb50≠j0_));have n8_:=Aside0.mk ((za5:j0_≠gb50));have n9_:=Aside0.mk ((za17:gb51≠j0_));have n10_:=Aside0.mk ((za18:j0_≠gb51));have n11_:=Aside0.mk ((za19:gb52≠j0_));have n12_:=Aside0.mk ((za20:j0_≠gb52));clear BK50;clear BK51;clear BK52;clear HB;have BK50:=n0_;have BK51:=n1_;have BK52:=n2_;have HB:=n3_;have j1_:=n4_;have ji_:=n5_;have j8_:=n6_;have j2_:=n7_;have j3_:=n8_;have j4_:=n9_;have j5_:=n10_;have j6_:=n11_;have j7_:=n12_;clear n0_ n1_ n2_ n3_ n4_ n5_ n6_ n7_ n8_ n9_ n10_ n11_ n12_;clear hb hbox hg;have hnb13:=j3_.out;have hnc13:=j2_.out;have hnb14:=j5_.out;have hnc14:=j4_.out;have hnb15:=j7_.out;have hnc15:=j6_.out;have hcz16_0:w12.cell? ⟨j0_,0,none⟩=some (.int .i64 a0_0):=(blk_cell j1_.out 0).trans rfl;have hcz16_1:w12.cell? ⟨j0_,1,none⟩=some (.int .i64 a0_1):=(blk_cell j1_.out 1).trans rfl;have hfz16_0:=blk_frozen j1_.out 0;have hfz16_1:=blk_frozen j1_.out 1;have hnb17:=jc_.out;have hnc17:=jd_.out;have hnb18:=je_.out;have hnc18:=jf_.out;have hcz19_0:w12.cell? ⟨gb50,0,none⟩=some (.slice A1_0 l1_0.length c1_0):=(blk_cell BK50.out 0).trans rfl;have hcz19_1:w12.cell? ⟨gb50,1,none⟩=some (.slice A1_1 l1_1.length c1_1):=(blk_cell BK50.out 1).trans rfl;have hcz19_2:w12.cell? ⟨gb50,2,none⟩=some (.slice A1_2 l1_2.length c1_2):=(blk_cell BK50.out 2).trans rfl;have hcz19_3:w12.cell? ⟨gb50,3,none⟩=some (.slice A1_3 l1_3.length c1_3):=(blk_cell BK50.out 3).trans rfl;have hcz19_4:w12.cell? ⟨gb50,4,none⟩=some (.slice A1_4 l1_4.length c1_4):=(blk_cell BK50.out 4).trans rfl;have hfz19_0:=blk_frozen BK50.out 0;have hfz19_1:=blk_frozen BK50.out 1;have hfz19_2:=blk_frozen BK50.out 2;have hfz19_3:=blk_frozen BK50.out 3;have hfz19_4:=blk_frozen BK50.out 4))
   go_ret
   exact ⟨by first|rfl|(simp [errW_none,errW_some]<;>rfl)|(simp [*,errW_none,errW_some]<;>rfl),by repeat (first|(with_reducible first|exact HB.out|apply below_alloc|apply pw_below_drewN|apply below_drew1|refine below_set ?_ GE50.out|refine below_set ?_ GE51.out|refine below_set ?_ GE52.out|refine below_set ?_ j8_.out)|exact HB.out)⟩
  ·
   rw [if_neg c11] at H
   have c11b0:decide ((l1_1.length:Int)≤a0_0)=false:=decide_eq_false c11
   clear c11
   by_cases c20:a0_1≤a2
   ·
    rw [if_pos c20] at H
    have c20b0:decide (a0_1≤a2)=true:=decide_eq_true c20
    clear c20
    obtain rfl:=Option.some.inj H
    go_enter Try.func47,Try.ntmps47
    go_wp2_with (first|((with_reducible refine gate_dst (N:=4) rfl ?_);(try (refine gate_guard (by rfl) ?_;dsimp only));refine box_event ?hg (N:=4) ?hd (cs:=#[.int .i64 a0_0,.int .i64 a0_1]) (t:=60) ?hr ?_;(case hd=>rfl);(case hg=>rfl);(case hr=>first|(go_simp;done)|(go_simp;rfl));intro j0_ hg w21 hbox hb;have n0_:=Aside0.mk (blk_below (g:=gb50) (o:=.cells #[.slice A1_0 l1_0.length c1_0,.slice A1_1 l1_1.length c1_1,.slice A1_2 l1_2.length c1_2,.slice A1_3 l1_3.length c1_3,.slice A1_4 l1_4.length c1_4] 49 (0,0)) za42 hb);have n1_:=Aside0.mk (blk_below (g:=gb51) (o:=.cells #[.int .i64 a2] 3 (0,0)) za43 hb);have n2_:=Aside0.mk (blk_below (g:=gb52) (o:=.cells #[.int .i64 a3] 3 (0,0)) za44 hb);have n3_:=Aside0.mk (below_step za14 hb);have n4_:=Aside0.mk (hbox);have n5_:=Aside0.mk ((za6:w.heap.size≤j0_));have n6_:=Aside0.mk ((za6:w.heap.size≤j0_));have n7_:=Aside0.mk ((za4:gb50≠j0_));have n8_:=Aside0.mk ((za5:j0_≠gb50));have n9_:=Aside0.mk ((za17:gb51≠j0_));have n10_:=Aside0.mk ((za18:j0_≠gb51));have n11_:=Aside0.mk ((za19:gb52≠j0_));have n12_:=Aside0.mk ((za20:j0_≠gb52));clear BK50;clear BK51;clear BK52;clear HB;have BK50:=n0_;have BK51:=n1_;have BK52:=n2_;have HB:=n3_;have j1_:=n4_;have ji_:=n5_;have j8_:=n6_;have j2_:=n7_;have j3_:=n8_;have j4_:=n9_;have j5_:=n10_;have j6_:=n11_;have j7_:=n12_;clear n0_ n1_ n2_ n3_ n4_ n5_ n6_ n7_ n8_ n9_ n10_ n11_ n12_;clear hb hbox hg;have hnb22:=j3_.out;have hnc22:=j2_.out;have hnb23:=j5_.out;have hnc23:=j4_.out;have hnb24:=j7_.out;have hnc24:=j6_.out;have hcz25_0:w21.cell? ⟨j0_,0,none⟩=some (.int .i64 a0_0):=(blk_cell j1_.out 0).trans rfl;have hcz25_1:w21.cell? ⟨j0_,1,none⟩=some (.int .i64 a0_1):=(blk_cell j1_.out 1).trans rfl;have hfz25_0:=blk_frozen j1_.out 0;have hfz25_1:=blk_frozen j1_.out 1;have hnb26:=jc_.out;have hnc26:=jd_.out;have hnb27:=je_.out;have hnc27:=jf_.out;have hcz28_0:w21.cell? ⟨gb50,0,none⟩=some (.slice A1_0 l1_0.length c1_0):=(blk_cell BK50.out 0).trans rfl;have hcz28_1:w21.cell? ⟨gb50,1,none⟩=some (.slice A1_1 l1_1.length c1_1):=(blk_cell BK50.out 1).trans rfl;have hcz28_2:w21.cell? ⟨gb50,2,none⟩=some (.slice A1_2 l1_2.length c1_2):=(blk_cell BK50.out 2).trans rfl;have hcz28_3:w21.cell? ⟨gb50,3,none⟩=some (.slice A1_3 l1_3.length c1_3):=(blk_cell BK50.out 3).trans rfl;have hcz28_4:w21.cell? ⟨gb50,4,none⟩=some (.slice A1_4 l1_4.length c1_4):=(blk_cell BK50.out 4).trans rfl;have hfz28_0:=blk_frozen BK50.out 0;have hfz28_1:=blk_frozen BK50.out 1;have hfz28_2:=blk_frozen BK50.out 2;have hfz28_3:=blk_frozen BK50.out 3;have hfz28_4:=blk_frozen BK50.out 4;have hnb29:=jg_.out;have hnc29:=jh_.out;have hcz30_0:w21.cell? ⟨gb51,0,none⟩=some (.int .i64 a2):=(blk_cell BK51.out 0).trans rfl;have hfz30_0:=blk_frozen BK51.out 0))
    go_ret
    exact ⟨by first|rfl|(simp [errW_none,errW_some]<;>rfl)|(simp [*,errW_none,errW_some]<;>rfl),by repeat (first|(with_reducible first|exact HB.out|apply below_alloc|apply pw_below_drewN|apply below_drew1|refine below_set ?_ GE50.out|refine below_set ?_ GE51.out|refine below_set ?_ GE52.out|refine below_set ?_ j8_.out)|exact HB.out)⟩
   ·
    rw [if_neg c20] at H
    have c20b0:decide (a0_1≤a2)=false:=decide_eq_false c20
    clear c20
    obtain rfl:=Option.some.inj H
    go_enter Try.func47,Try.ntmps47
    go_wp2_with (first|((with_reducible refine gate_dst (N:=4) rfl ?_);(try (refine gate_guard (by rfl) ?_;dsimp only));refine box_event ?hg (N:=4) ?hd (cs:=#[.int .i64 a0_0,.int .i64 a0_1]) (t:=60) ?hr ?_;(case hd=>rfl);(case hg=>rfl);(case hr=>first|(go_simp;done)|(go_simp;rfl));intro j0_ hg w31 hbox hb;have n0_:=Aside0.mk (blk_below (g:=gb50) (o:=.cells #[.slice A1_0 l1_0.length c1_0,.slice A1_1 l1_1.length c1_1,.slice A1_2 l1_2.length c1_2,.slice A1_3 l1_3.length c1_3,.slice A1_4 l1_4.length c1_4] 49 (0,0)) za42 hb);have n1_:=Aside0.mk (blk_below (g:=gb51) (o:=.cells #[.int .i64 a2] 3 (0,0)) za43 hb);have n2_:=Aside0.mk (blk_below (g:=gb52) (o:=.cells #[.int .i64 a3] 3 (0,0)) za44 hb);have n3_:=Aside0.mk (below_step za14 hb);have n4_:=Aside0.mk (hbox);have n5_:=Aside0.mk ((za6:w.heap.size≤j0_));have n6_:=Aside0.mk ((za6:w.heap.size≤j0_));have n7_:=Aside0.mk ((za4:gb50≠j0_));have n8_:=Aside0.mk ((za5:j0_≠gb50));have n9_:=Aside0.mk ((za17:gb51≠j0_));have n10_:=Aside0.mk ((za18:j0_≠gb51));have n11_:=Aside0.mk ((za19:gb52≠j0_));have n12_:=Aside0.mk ((za20:j0_≠gb52));clear BK50;clear BK51;clear BK52;clear HB;have BK50:=n0_;have BK51:=n1_;have BK52:=n2_;have HB:=n3_;have j1_:=n4_;have ji_:=n5_;have j8_:=n6_;have j2_:=n7_;have j3_:=n8_;have j4_:=n9_;have j5_:=n10_;have j6_:=n11_;have j7_:=n12_;clear n0_ n1_ n2_ n3_ n4_ n5_ n6_ n7_ n8_ n9_ n10_ n11_ n12_;clear hb hbox hg;have hnb32:=j3_.out;have hnc32:=j2_.out;have hnb33:=j5_.out;have hnc33:=j4_.out;have hnb34:=j7_.out;have hnc34:=j6_.out;have hcz35_0:w31.cell? ⟨j0_,0,none⟩=some (.int .i64 a0_0):=(blk_cell j1_.out 0).trans rfl;have hcz35_1:w31.cell? ⟨j0_,1,none⟩=some (.int .i64 a0_1):=(blk_cell j1_.out 1).trans rfl;have hfz35_0:=blk_frozen j1_.out 0;have hfz35_1:=blk_frozen j1_.out 1;have hnb36:=jc_.out;have hnc36:=jd_.out;have hnb37:=je_.out;have hnc37:=jf_.out;have hcz38_0:w31.cell? ⟨gb50,0,none⟩=some (.slice A1_0 l1_0.length c1_0):=(blk_cell BK50.out 0).trans rfl;have hcz38_1:w31.cell? ⟨gb50,1,none⟩=some (.slice A1_1 l1_1.length c1_1):=(blk_cell BK50.out 1).trans rfl;have hcz38_2:w31.cell? ⟨gb50,2,none⟩=some (.slice A1_2 l1_2.length c1_2):=(blk_cell BK50.out 2).trans rfl;have hcz38_3:w31.cell? ⟨gb50,3,none⟩=some (.slice A1_3 l1_3.length c1_3):=(blk_cell BK50.out 3).trans rfl;have hcz38_4:w31.cell? ⟨gb50,4,none⟩=some (.slice A1_4 l1_4.length c1_4):=(blk_cell BK50.out 4).trans rfl;have hfz38_0:=blk_frozen BK50.out 0;have hfz38_1:=blk_frozen BK50.out 1;have hfz38_2:=blk_frozen BK50.out 2;have hfz38_3:=blk_frozen BK50.out 3;have hfz38_4:=blk_frozen BK50.out 4;have hnb39:=jg_.out;have hnc39:=jh_.out;have hcz40_0:w31.cell? ⟨gb51,0,none⟩=some (.int .i64 a2):=(blk_cell BK51.out 0).trans rfl;have hfz40_0:=blk_frozen BK51.out 0;have hcz41_0:w31.cell? ⟨gb52,0,none⟩=some (.int .i64 a3):=(blk_cell BK52.out 0).trans rfl;have hfz41_0:=blk_frozen BK52.out 0))
    go_ret
    exact ⟨by first|rfl|(simp [errW_none,errW_some]<;>rfl)|(simp [*,errW_none,errW_some]<;>rfl),by repeat (first|(with_reducible first|exact HB.out|apply below_alloc|apply pw_below_drewN|apply below_drew1|refine below_set ?_ GE50.out|refine below_set ?_ GE51.out|refine below_set ?_ GE52.out|refine below_set ?_ j8_.out)|exact HB.out)⟩
def sets_Right.l0:Nat→List Int→Int→Option (Bool)
 | 0,_,_=>none
 | k+1,x0,x3=>if x3<(x0.length:Int) then (if 0≤(wrap64 (x3 - 1)) then (if (wrap64 (x3 - 1))<(x0.length:Int) then (if 0≤x3 then (if (rd x0 (wrap64 (x3 - 1))) ≥ (rd x0 x3) then (some false) else (sets_Right.l0 k x0 (wrap64 (x3+1)))) else (none)) else (none)) else (none)) else (some true)
def sets_Right.f (k:Nat) (l0:List Int):Option (Bool):=sets_Right.l0 k l0 1
theorem sets_Right.mono_l:∀ k,(∀ y0 y1,LeO (sets_Right.l0 k y0 y1) (sets_Right.l0 (k+1) y0 y1))
 | 0=>fun _ _ r h=>by simp [sets_Right.l0] at h
 | k+1=>by
  have ih0:=sets_Right.mono_l k
  ·
   intro y0 y1
   unfold sets_Right.l0
   repeat' first
   | (with_reducible exact ih0 _ _)
   | (with_reducible exact LeO.refl _)
   | (with_reducible exact LeO.none _)
   | (with_reducible refine LeO.ite ?_ ?_)
   | (with_reducible refine LeO.bind ?_ (fun _=>?_))
   | exact ih0 _ _
   | exact LeO.none _
   | refine LeO.ite ?_ ?_
   | refine LeO.bind ?_ (fun _=>?_)
theorem sets_Right.mono:∀ a0 k,LeO (sets_Right.f k a0) (sets_Right.f (k+1) a0):=by
 intro a0 k
 have ih0:=sets_Right.mono_l k
 unfold sets_Right.f
 repeat' first
   | (with_reducible exact ih0 _ _)
   | (with_reducible exact LeO.refl _)
   | (with_reducible exact LeO.none _)
   | (with_reducible refine LeO.ite ?_ ?_)
   | (with_reducible refine LeO.bind ?_ (fun _=>?_))
   | exact ih0 _ _
   | exact LeO.none _
   | refine LeO.ite ?_ ?_
   | refine LeO.bind ?_ (fun _=>?_)
set_option maxHeartbeats 8000000 in
set_option maxRecDepth 100000 in
theorem sets_Right.calls (k:Nat) (A0:Option Addr) (c0:Nat) (l0:List Int) (r:Bool) (w:World) (hr0:Kd.C (Kd.int .i64) w A0 l0.length l0) (hc0:l0.length≤c0) (h:sets_Right.f k l0=some r) :
  Calls Try.prog 65 #[.slice A0 l0.length c0] w fun e w'=>e=.returned (.bool r)∧Drawn0 w w':=by
 have HR0:=Aside0.mk hr0
 have HC0:=Aside0.mk hc0
 clear hr0 hc0
 have H:(sets_Right.l0 k l0 1)=some r:=h
 clear h
 have H':=Aside0.mk H
 clear H
 go_enter Try.func65,Try.ntmps65
 go_wp2
 repeat (go_quiet (fail);try go_wp2)
 go_loopg [3] k (fun kq v3 w'=>∃ (x3_1:Int),v3=.int .i64 x3_1∧Aside0 (sets_Right.l0 kq l0 x3_1=some r)∧Aside0 (kq≤k)∧Drawn0 w w')
 case atStart=>exact ⟨(1),za76,H',⟨Nat.le_refl _⟩,by repeat (first|exact Drawn0.refl _|apply Drawn0.step)⟩
 case round =>
  clear H'
  obtain ⟨x3_1,rfl,HA,HK1,⟨m1,rfl⟩⟩:=hrel
  cases gk with
  | zero=>exact absurd HA.out (by simp [sets_Right.l0])
  | succ k1 =>
   have H:=HA.out
   clear HA
   simp only [sets_Right.l0] at H
   by_cases c2:x3_1<(l0.length:Int)
   ·
    rw [if_pos c2] at H
    have c2b0:decide (x3_1<(l0.length:Int))=true:=decide_eq_true c2
    clear c2
    obtain ⟨ji3,hji3⟩:∃ j_:Int,(wrap64 (x3_1 - 1))=j_:=⟨_,rfl⟩
    replace H:(if 0≤(ji3) then (if (ji3)<(l0.length:Int) then (if 0≤x3_1 then (if (rd l0 (ji3)) ≥ (rd l0 x3_1) then (some false) else (sets_Right.l0 k1 l0 (wrap64 (x3_1+1)))) else (none)) else (none)) else (none))=some r:=by first|(rw [hji3] at H;exact H)|(simp only [hji3] at H ⊢;exact H)
    have hji3w:(IntKind.i64.wrap (x3_1 - 1))=ji3:=(i64_w _).trans hji3
    by_cases c4:0≤(ji3)
    ·
     rw [if_pos c4] at H
     have c4b0:decide (0≤(ji3))=true:=decide_eq_true c4
     clear c4
     by_cases c5:(ji3)<(l0.length:Int)
     ·
      rw [if_pos c5] at H
      have c5b0:decide ((ji3)<(l0.length:Int))=true:=decide_eq_true c5
      clear c5
      by_cases c6:0≤x3_1
      ·
       rw [if_pos c6] at H
       have c6b0:decide (0≤x3_1)=true:=decide_eq_true c6
       clear c6
       by_cases c7:(rd l0 (ji3)) ≥ (rd l0 x3_1)
       ·
        rw [if_pos c7] at H
        have c7b0:decide ((rd l0 x3_1)≤(rd l0 (ji3)))=true:=decide_eq_true c7
        clear c7
        obtain rfl:=Option.some.inj H
        have p107:0≤((ji3):Int):=of_decide_eq_true za73
        have q107:(ji3)<(l0.length:Int):=of_decide_eq_true za73
        obtain ⟨jj_,e107,jq_⟩:=Kd.at_int HR0.out (ji3) p107 q107
        cases e107
        replace p107:=eq_true p107
        replace q107:=eq_true q107
        have p108:0≤(x3_1:Int):=of_decide_eq_true za73
        have q108:x3_1<(l0.length:Int):=of_decide_eq_true za73
        obtain ⟨jk_,e108,jr_⟩:=Kd.at_int HR0.out x3_1 p108 q108
        obtain rfl:jj_=jk_:=(by injection e108)
        replace p108:=eq_true p108
        replace q108:=eq_true q108
        go_wp2
        repeat (go_quiet (fail);try go_wp2)
        go_ret
        exact ⟨by first|rfl|(simp;done)|(simp only [← hji3]<;>(first|rfl|simp))|(simp [*];done),by repeat (first|exact Drawn0.refl _|apply Drawn0.step)⟩
       ·
        rw [if_neg c7] at H
        have c7b0:decide ((rd l0 x3_1)≤(rd l0 (ji3)))=false:=decide_eq_false c7
        clear c7
        have H':=Aside0.mk H
        clear H
        have p107:0≤((ji3):Int):=of_decide_eq_true za73
        have q107:(ji3)<(l0.length:Int):=of_decide_eq_true za73
        obtain ⟨jj_,e107,jq_⟩:=Kd.at_int HR0.out (ji3) p107 q107
        cases e107
        replace p107:=eq_true p107
        replace q107:=eq_true q107
        have p108:0≤(x3_1:Int):=of_decide_eq_true za73
        have q108:x3_1<(l0.length:Int):=of_decide_eq_true za73
        obtain ⟨jk_,e108,jr_⟩:=Kd.at_int HR0.out x3_1 p108 q108
        obtain rfl:jj_=jk_:=(by injection e108)
        replace p108:=eq_true p108
        replace q108:=eq_true q108
        go_wp2
        repeat (go_quiet (fail);try go_wp2)
        go_roundg k1
        case measure=>have:=HK1.out;omega
        case rel=>exact ⟨(wrap64 (x3_1+1)),za76,H',⟨by have:=HK1.out;omega⟩,by repeat (first|exact Drawn0.refl _|apply Drawn0.step)⟩
      ·
       rw [if_neg c6] at H
       exact absurd H (by simp)
     ·
      rw [if_neg c5] at H
      exact absurd H (by simp)
    ·
     rw [if_neg c4] at H
     exact absurd H (by simp)
   ·
    rw [if_neg c2] at H
    have c2b0:decide (x3_1<(l0.length:Int))=false:=decide_eq_false c2
    clear c2
    obtain rfl:=Option.some.inj H
    go_wp2
    repeat (go_quiet (fail);try go_wp2)
    go_ret
    exact ⟨by first|rfl|(simp;done)|(simp [*];done),by repeat (first|exact Drawn0.refl _|apply Drawn0.step)⟩
def rules_wrongSet.f (k:Nat) (l0:List Int):Option (Bool):=if (l0.length:Int)=0 then (some true) else ((sets_Right.f k l0).bind fun t109=>(some (!t109)))
theorem rules_wrongSet.mono:∀ a0 k,LeO (rules_wrongSet.f k a0) (rules_wrongSet.f (k+1) a0):=by
 intro a0 k
 unfold rules_wrongSet.f
 repeat' first
   | (with_reducible exact sets_Right.mono _ _)
   | (with_reducible exact LeO.refl _)
   | (with_reducible exact LeO.none _)
   | (with_reducible refine LeO.ite ?_ ?_)
   | (with_reducible refine LeO.bind ?_ (fun _=>?_))
   | exact sets_Right.mono _ _
   | exact LeO.none _
   | refine LeO.ite ?_ ?_
   | refine LeO.bind ?_ (fun _=>?_)
set_option maxHeartbeats 8000000 in
set_option maxRecDepth 100000 in
theorem rules_wrongSet.calls (k:Nat) (A0:Option Addr) (c0:Nat) (l0:List Int) (r:Bool) (w:World) (hr0:Kd.C (Kd.int .i64) w A0 l0.length l0) (hc0:l0.length≤c0) (h:rules_wrongSet.f k l0=some r) :
  Calls Try.prog 50 #[.slice A0 l0.length c0] w fun e w'=>e=.returned (.bool r)∧Drawn0 w w':=by
 have HR0:=Aside0.mk hr0
 have HC0:=Aside0.mk hc0
 clear hr0 hc0
 have H:(if (l0.length:Int)=0 then (some true) else ((sets_Right.f k l0).bind fun t109=>(some (!t109))))=some r:=h
 clear h
 by_cases c2:(l0.length:Int)=0
 ·
  rw [if_pos c2] at H
  have c2b0:((l0.length:Int)==0)=true:=beq_iff_eq.mpr c2
  have c2b1:((l0.length:Int) != 0)=false:=bne_eq_false_iff_eq.mpr c2
  clear c2
  obtain rfl:=Option.some.inj H
  go_enter Try.func50,Try.ntmps50
  go_wp2
  go_ret
  exact ⟨by first|rfl|(simp;done)|(simp [*];done),by repeat (first|exact Drawn0.refl _|apply Drawn0.step)⟩
 ·
  rw [if_neg c2] at H
  have c2b0:((l0.length:Int)==0)=false:=beq_eq_false_iff_ne.mpr c2
  have c2b1:((l0.length:Int) != 0)=true:=bne_iff_ne.mpr c2
  have c2b2:¬ (l0=[]):=fun h_=>c2 (by rw [h_];rfl)
  replace H:=Option.bind_eq_some_iff.mp H
  obtain ⟨t109,A30,H⟩:=H
  replace H:(some (!t109))=some r:=H
  have A3:=Aside0.mk A30
  clear A30
  obtain rfl:=Option.some.inj H
  go_enter Try.func50,Try.ntmps50
  go_wp2_with (first|(go_at_call 65;(with_reducible refine (sets_Right.calls k _ _ l0 t109 _ ?side1 ?side2 A3.out).mono ?_);(case side1=>repeat (first|exact HR0.out|(with_reducible refine Kd.C_alloc ?_ _)|(with_reducible refine Kd.C_drewN ?_ _)|(with_reducible refine Kd.C_drew ?_)));(case side2=>exact HC0.out);rintro e w' ⟨rfl,⟨nd,rfl⟩⟩))
  go_ret
  exact ⟨by first|rfl|(simp;done)|(simp [*];done),by repeat (first|exact Drawn0.refl _|apply Drawn0.step)⟩
end Go.Proofs.Ytlgkeaildncojaa.Q
end
