/- Lat5 Mov15 -/
import Derived.Test.YtcmkopogafchiaaGreatXM02
import Derived.Test.YtcmkopogafchiaaGreatProg
import Derived.Test.YtcmkopogafchiaaGreatRows
import Derived.Deep.Slices
import Derived.Test.YtcmkopogafchiaaGreatShelf
import Derived.Test.YtcmkopogafchiaaGreatX13
import Derived.Test.YtcmkopogafchiaaGreatShelfC
set_option maxHeartbeats 8000000
set_option linter.unusedVariables false
set_option linter.unusedSimpArgs false
set_option linter.constructorNameAsVariable false
namespace Go.Proofs.YtcmkopogafchiaaGreat
open Go.ChangeShapes Go.WideShapes Go.ChangeAt Go.RowKit Go.Joins Go.Deep
structure I8A (W:World) (v:Value) where
 A:Option Addr
 l:List Int
 c:Nat
 te:TypeId
 eq:v= .slice A l.length c
 ints:Ints W A te .i8 l
 i8:I8 l
 len:l.length<=9223372036854775807
set_option maxRecDepth 100000 in
theorem open_i8A {H:Type} {enc:TypeId×Value->H} {W:World} {r:Reach} {b0:Nat} {v:Value} {d:DataW H} {p:List MemPlace} (hv:Value.okWide Tryz.prog W r b0 22 v) (h:DataW.Trod enc Tryz.prog W 0 (fun _=>true) true 22 v d p):
  Nonempty (I8A W v)/\∀(W':World) (sp:Nat->Bool),Below W.heap.size W W'->(∀q∈p,sp q.block=true)->DataW.Trod enc Tryz.prog W' 0 sp true 22 v d p:=by
 obtain ⟨A0,l0,c0,rfl⟩:=okWide_slice Tryz.underlying22 hv
 have h':=h
 obtain ⟨n,hn⟩:=h'
 have hn2:DataW.trod enc Tryz.prog W 0 (fun _=>true) true n 22 [.slice A0 l0 c0]=some (d,p):=by simpa [Value.cells] using hn
 obtain ⟨A,c,l,te,e,h1,h2,h3,h4⟩:=ints_open Tryz.underlying22 Tryz.underlying109 (by kernel_rfl) hn2
 exact ⟨⟨⟨A,l,c,te,e,h3,i8_wf h4,by omega⟩⟩,fun W' sp hb hs=>arg_stay c_laid (by kernel_rfl) (of_decide_eq_true (by kernel_rfl)) h hb hs⟩
end Go.Proofs.YtcmkopogafchiaaGreat
namespace Go.Proofs.YtcmkopogafchiaaGreat
open Go.RowKit
def dg (p q:Int):List (List Int):=[[p,0],[0,q]]
theorem dg_red {p q:Int} (hp:1<=p/\p<=4) (hq:1<=q/\q<=4) (h1:3*p<=4*q) (h2:3*q<=4*p):isRedB (dg p q)=true:=by
 have e1:p=1∨p=2∨p=3∨p=4:=by omega
 have e2:q=1∨q=2∨q=3∨q=4:=by omega
 rcases e1 with rfl |rfl |rfl |rfl<;>rcases e2 with rfl |rfl |rfl |rfl<;>first |omega |decide+kernel
theorem sq8 {y:Int} (h:y*y<=64):-8<=y/\y<=8:=by
 refine ⟨Int.not_lt.1 fun h1=>?_,Int.not_lt.1 fun h1=>?_⟩
 ·have :=Int.mul_le_mul (show (9:Int)<=-y by omega) (show (9:Int)<=-y by omega) (by omega) (by omega)
  rw [Int.neg_mul_neg] at this
  omega
 ·have :=Int.mul_le_mul (show (9:Int)<=y by omega) (show (9:Int)<=y by omega) (by omega) (by omega)
  omega
theorem sq0 (y:Int):0<=y*y:=by
 rcases Int.le_total 0 y with h |h
 ·exact Int.mul_nonneg h h
 ·have :=Int.mul_nonneg (show 0<=-y by omega) (show 0<=-y by omega)
  rwa [Int.neg_mul_neg] at this
theorem nrm_dg (p q a b:Int):nrm (dg p q) [a,b]=p*(a*a)+q*(b*b):=by
 unfold nrm applyL dg
 simp only [List.map_cons,List.map_nil,dotL,Int.zero_mul,Int.add_zero,Int.zero_add]
 rw [Int.mul_comm a (p*a),Int.mul_comm b (q*b),Int.mul_assoc,Int.mul_assoc]
theorem mul_ge {p x:Int} (hp:1<=p) (hx:0<=x):x<=p*x:=by
 have :=Int.mul_le_mul_of_nonneg_right hp hx
 rwa [Int.one_mul] at this
theorem mul_bd {p x B C:Int} (hp:-B<=p/\p<=B) (hx:-C<=x/\x<=C) (hB:0<=B) (hC:0<=C):-(B*C)<=p*x/\p*x<=B*C:=by
 have key:(p*x).natAbs<=(B*C).natAbs:=by
  rw [Int.natAbs_mul,Int.natAbs_mul]
  exact Nat.mul_le_mul (by omega) (by omega)
 have :=Int.mul_nonneg hB hC
 omega
theorem dg_list {p q:Int} {n:Nat} {L:List (List Int)} (hp:1<=p/\p<=4) (hq:1<=q/\q<=4) (hn:n<=8) (h:VecList (dg p q) n false L) (hl:L.length<=8000) {c d:Int} (hc:-128<=c/\c<=127) (hd:-128<=d/\d<=127):PrfL (dg p q) L/\InnB (dg p q) L [c,d]:=by
 have hv:∀y∈L,∃a b,y=[a,b]/\0<=nrm (dg p q) y/\nrm (dg p q) y<=8/\(-8<=a/\a<=8)/\(-8<=b/\b<=8):=fun y hy=>by
  obtain ⟨h1,-,h3,-⟩:=(h.mem y).1 hy
  obtain ⟨a,b,rfl⟩:=len2 h1
  have h0:=sq0 a
  have h0':=sq0 b
  rw [nrm_dg] at h3 |-
  have g1:=mul_ge hp.1 h0
  have g2:=mul_ge hq.1 h0'
  exact ⟨a,b,rfl,by omega,by omega,sq8 (by omega),sq8 (by omega)⟩
 refine ⟨⟨by omega,h.rows,List.pairwise_map.2 h.norms,fun y hy=>?_⟩,fun y hy=>?_⟩
 ·obtain ⟨a,b,-,h1,h2,-⟩:=hv y hy
  omega
 ·obtain ⟨a,b,rfl,-,-,h3,h4⟩:=hv y hy
  have e:dotL (applyL (dg p q) [a,b]) [c,d]=p*a*c+q*b*d:=by
   unfold applyL dg
   simp only [List.map_cons,List.map_nil,dotL,Int.zero_mul,Int.add_zero,Int.zero_add]
  rw [e]
  have f1:=mul_bd (B:=4) (C:=8) (p:=p) (x:=a) (by omega) h3 (by omega) (by omega)
  have f2:=mul_bd (B:=4) (C:=8) (p:=q) (x:=b) (by omega) h4 (by omega) (by omega)
  have f3:=mul_bd (B:=32) (C:=128) (p:=p*a) (x:=c) (by omega) (by omega) (by omega) (by omega)
  have f4:=mul_bd (B:=32) (C:=128) (p:=q*b) (x:=d) (by omega) (by omega) (by omega) (by omega)
  omega
theorem mat2_of {W:World} {g1 g2 g3:Nat} {a b c d:Int} (h3:W.heap[g3]? =some (.cells #[.slice (some ⟨g1,0,none⟩) 2 2,.slice (some ⟨g2,0,none⟩) 2 2] 28 (0,0))) (h1:W.heap[g1]? =some (.cells #[.int .i64 a,.int .i64 b] 2 (0,0))) (h2:W.heap[g2]? =some (.cells #[.int .i64 c,.int .i64 d] 2 (0,0))):Mat64 W (some ⟨g3,0,none⟩) [[a,b],[c,d]]:=by
 have k1:Ints W (some ⟨g1,0,none⟩) 2 .i64 [a,b]:=fun _=>⟨g1,0,_,_,rfl,h1,fun j u hu=>by simpa using hu⟩
 have k2:Ints W (some ⟨g2,0,none⟩) 2 .i64 [c,d]:=fun _=>⟨g2,0,_,_,rfl,h2,fun j u hu=>by simpa using hu⟩
 refine ⟨[.slice (some ⟨g1,0,none⟩) 2 2,.slice (some ⟨g2,0,none⟩) 2 2],rfl,fun _=>⟨g3,0,_,_,rfl,h3,fun j u hu=>by simpa using hu⟩,fun i r hr=>?_⟩
 match i with
 |0=>obtain rfl:[a,b]=r:=by simpa using hr
     exact ⟨_,2,rfl,k1,by simp,by omega⟩
 |1=>obtain rfl:[c,d]=r:=by simpa using hr
     exact ⟨_,2,rfl,k2,by simp,by omega⟩
 |i+2=>simp at hr
theorem ints2_of {W:World} {g:Nat} {a b:Int} (h:W.heap[g]? =some (.cells #[.int .i64 a,.int .i64 b] 2 (0,0))):Ints W (some ⟨g,0,none⟩) 2 .i64 [a,b]:=fun _=>⟨g,0,_,_,rfl,h,fun j u hu=>by simpa using hu⟩
def RetDg (W:World) (p q:Int) (n:Nat) (c d:Int) (e:Ending) (w':World):Prop:=∃B k L,e= .returned (.tuple #[.slice B (profM (dg p q) L [c,d]).length k,.int .i64 0])/\VecList (dg p q) n false L/\L.length<=8000/\CtV w' B (profM (dg p q) L [c,d])/\Step W w'
theorem fProfile_dg {W:World} {A X:Option Addr} {p q c d:Int} {n:Nat} (hp:1<=p/\p<=4) (hq:1<=q/\q<=4) (h1:3*p<=4*q) (h2:3*q<=4*p) (hn:n<=8) (hc:-128<=c/\c<=127) (hd:-128<=d/\d<=127) (hM:Mat64 W A (dg p q)) (hX:Ints W X 2 .i64 [c,d]):
  Calls Tryz.prog 15 #[.slice A 2 2,.int .i64 n,.int .i64 20000,.slice X 2 2] W (RetDg W p q n c d):=by
 have hr:=dg_red hp hq h1 h2
 have hR:=redM_of hr
 have hl2:(dg p q).length=2:=rfl
 have hnb:dotB (nrm (dg p q) [c,d])=true:=by
  rw [nrm_dg]
  have f1:=mul_bd (B:=128) (C:=128) (p:=c) (x:=c) (by omega) (by omega) (by omega) (by omega)
  have f2:=mul_bd (B:=128) (C:=128) (p:=d) (x:=d) (by omega) (by omega) (by omega) (by omega)
  have f3:=mul_bd (B:=4) (C:=16384) (p:=p) (x:=c*c) (by omega) (by omega) (by omega) (by omega)
  have f4:=mul_bd (B:=4) (C:=16384) (p:=q) (x:=d*d) (by omega) (by omega) (by omega) (by omega)
  exact decide_eq_true (by omega)
 refine (fProfile_ok (w0:=W) (w:=W) (c:=2) (d:=2) (P:=fun L=>VecList (dg p q) n false L/\L.length<=8000) hM.a (by omega) (by omega) hR hX rfl (fun y hy=>?_) hnb (fun W' e=>?_) (fun L hL=>dg_list hp hq hn hL.1 hL.2 hc hd)).mono fun e w' ⟨B,k,L,he,hL,hO,hs⟩=>⟨B,k,L,he,hL.1,hL.2,⟨_,hO.arr⟩,hs⟩
 ·simp only [List.mem_cons,List.not_mem_nil,or_false] at hy
  omega
 ·have hfew:=few_steps2 hr (b:=n) (by omega) (.inr (.inr ⟨by omega,hn⟩))
  exact (Vectors_red (w0:=W') (w:=W') (c:=2) (b:=n) (budget:=20000) (hM.ext e) (by omega) (by omega) hr (by omega) (.inr (.inr ⟨by omega,hn⟩)) (by omega) (by omega)).mono fun e w' ⟨B,d,L,he,hM,h1,h2,hv,hl,hs⟩=>⟨B,d,L,_,he,hM,h1,h2,⟨hv,hl⟩,hs⟩
theorem vecF2 (l:List Int):vecF l 2=[l.getD 0 0,l.getD 1 0]:=rfl
set_option maxRecDepth 20000 in
theorem FingerprintMoves_any {w:World} {a b z:Int} {te:TypeId} {A:Option Addr} {l:List Int} {c:Nat} (ha0:0<=a) (ha1:a<256) (hb0:0<=b) (hb1:b<256) (hz0:0<=z) (hz1:z<256) (hI:Ints w A te .i8 l) (h8:I8 l) (hl:l.length<=9223372036854775807):
  Calls Tryz.prog 7 #[.int .u8 a,.int .u8 b,.int .u8 z,.slice A l.length c] w (RetVal w (.bool true)):=by
 have HAW:Hid (∀W,Calls Tryz.prog 18 #[] W (RetVal W (.bool true))):=Lib.hid (fun W=>awake15_any)
 have hwa:IntKind.i64.wrap a=a:=IntWalk.i64_in _ (by omega)
 have hwb:IntKind.i64.wrap b=b:=IntWalk.i64_in _ (by omega)
 have hwz:IntKind.i64.wrap z=z:=IntWalk.i64_in _ (by omega)
 obtain ⟨p,hp⟩:∃p,a%4+1=p:=⟨_,rfl⟩
 obtain ⟨q,hq⟩:∃q,b%4+1=q:=⟨_,rfl⟩
 obtain ⟨n,hn⟩:∃n:Nat,z%9=(n:Int):=⟨(z%9).toNat,by omega⟩
 have hp4:1<=p/\p<=4:=by omega
 have hq4:1<=q/\q<=4:=by omega
 have hn8:n<=8:=by omega
 have hwp:IntKind.i64.wrap p=p:=IntWalk.i64_in _ (by omega)
 have hwq:IntKind.i64.wrap q=q:=IntWalk.i64_in _ (by omega)
 have w4q:IntKind.i64.wrap (4*q)=4*q:=IntWalk.i64_in _ (by omega)
 have w3p:IntKind.i64.wrap (3*p)=3*p:=IntWalk.i64_in _ (by omega)
 have w4p:IntKind.i64.wrap (4*p)=4*p:=IntWalk.i64_in _ (by omega)
 have w3q:IntKind.i64.wrap (3*q)=3*q:=IntWalk.i64_in _ (by omega)
 by_cases h1:4*q<3*p
 ·clear hI h8
  generalize l.length=ll at*
  go_enter Tryz.func7,Tryz.ntmps7
  go_wp2_with (go_at_call 18;refine (HAW.out _).mono ?_;rintro e w1 ⟨rfl,hs1⟩)
  go_ret
  exact ⟨rfl,Step.of _ _⟩
 ·by_cases h2:4*p<3*q
  ·clear hI h8
   generalize l.length=ll at*
   go_enter Tryz.func7,Tryz.ntmps7
   go_wp2_with (go_at_call 18;refine (HAW.out _).mono ?_;rintro e w1 ⟨rfl,hs1⟩)
   go_ret
   exact ⟨rfl,Step.of _ _⟩
  ·have HV:=Lib.hid (rVector_ok (w:=w) (c:=c) (n:=2) hI h8 hl (by omega))
   have hx0:=h8.get 0
   have hx1:=h8.get 1
   rw [vecF2] at HV
   clear hI h8
   generalize l.length=ll at*
   generalize l.getD 0 0=x0 at*
   generalize l.getD 1 0=x1 at*
   have HP1:Hid (∀W A X,Mat64 W A (dg p q)->Ints W X 2 .i64 [x0,x1]->Calls Tryz.prog 15 #[.slice A 2 2,.int .i64 n,.int .i64 20000,.slice X 2 2] W (RetDg W p q n x0 x1)):=Lib.hid (fun W A X hM hX=>fProfile_dg hp4 hq4 (by omega) (by omega) hn8 hx0 hx1 hM hX)
   have HP2:Hid (∀W A X,Mat64 W A (dg q p)->Ints W X 2 .i64 [x1,x0]->Calls Tryz.prog 15 #[.slice A 2 2,.int .i64 n,.int .i64 20000,.slice X 2 2] W (RetDg W q p n x1 x0)):=Lib.hid (fun W A X hM hX=>fProfile_dg hq4 hp4 (by omega) (by omega) hn8 hx1 hx0 hM hX)
   unfold RetVc at HV
   unfold RetDg at HP1 HP2
   clear hx0 hx1 hl
   go_enter Tryz.func7,Tryz.ntmps7
   go_upto_region 7 with (first
    |(go_at_call 14;refine HV.out.mono ?_;rintro e w1 ⟨g,rfl,-,hR,hs1⟩;have HR:=Lib.hid hR;clear hR)
    |(go_at_call 15;refine (HP1.out _ _ _ (by exact mat2_of HasBlk.eq HasBlk.eq HasBlk.eq) (by exact HR.out.ints.ext inferInstance)).mono ?_;rintro e w2 ⟨B1,k1,L1,rfl,hL1,hl1,hC1,hs2⟩;have HL1:=Lib.hid (And.intro hL1 hl1);have HC1:=Lib.hid hC1;clear hL1 hl1 hC1))
   obtain ⟨pr,hpr⟩:∃pr,pr=profM (dg p q) L1 [x0,x1]:=⟨_,rfl⟩
   have hlen:pr.length<=8000:=by
    have :=prof_len (dg p q) L1 [x0,x1]
    have :=HL1.out.2
    rw [hpr];omega
   have HP3:Hid (∀W A X,Mat64 W A (dg q p)->Ints W X 2 .i64 [x1,x0]->Calls Tryz.prog 15 #[.slice A 2 2,.int .i64 n,.int .i64 20000,.slice X 2 2] W fun e w'=>∃B k,e= .returned (.tuple #[.slice B pr.length k,.int .i64 0])/\CtV w' B pr/\Step W w'):=Lib.hid (fun W A X hM hX=>(HP2.out W A X hM hX).mono fun e w' ⟨B,k,L,he,hL,hl,hC,hs⟩=>by
    have hm:profM (dg q p) L [x1,x0]=pr:=(moves HL1.out.1 hL x0 x1).trans hpr.symm
    rw [hm] at he hC
    exact ⟨B,k,he,hC,hs⟩)
   have hC1:=HC1.out
   rw [<-hpr] at hC1 |-
   have HC:=Lib.hid hC1
   have HSP:Hid (∀W B C c d,CtV W B pr->CtV W C pr->Calls Tryz.prog 17 #[.slice B pr.length c,.slice C pr.length d] W (RetVal W (.bool true))):=Lib.hid (fun W B C c d h1 h2=>by
    have h:=rSameP_any (w0:=W) (w:=W) (c:=c) (d:=d) h1 h2 (by omega) (by omega)
    rw [decide_eq_true rfl] at h
    exact h)
   obtain ⟨-,f0,f1⟩:True/\w1.cell? ⟨g,0,none⟩=some (.int .i64 x0)/\w1.cell? ⟨g,1,none⟩=some (.int .i64 x1):=by
    have h:=HR.out
    unfold Row at h
    exact ⟨trivial,by simp [World.cell?,h],by simp [World.cell?,h]⟩
   have oG1:Old g w1:=⟨HR.out.lt⟩
   have e0:w2.cell? ⟨g,0,none⟩=some (.int .i64 x0):=(cellE w1).trans f0
   have e1:w2.cell? ⟨g,1,none⟩=some (.int .i64 x1):=(cellE w1).trans f1
   have oG:Old g w2:=⟨Nat.lt_of_lt_of_le HR.out.lt (inferInstance:Ext w1 w2).size⟩
   generalize pr.length=pl at*
   clear hC1 HC1 HL1 hpr f0 f1 HP1 HP2 HV h1 h2
   have hxw2:Ext w w2:=inferInstance
   go_cut [15,16] (fun s15 s16 wx=>∃B2 k2,s15= .slice B2 pl k2/\s16= .int .i64 0/\Hid (CtV wx B2 pr)/\Ext w2 wx)
   case first=>
    go_region_held3 (fun w'=>w'.cell? ⟨g,0,none⟩=some (.int .i64 x0)/\w'.cell? ⟨g,1,none⟩=some (.int .i64 x1)) ((simp only [cellE w2];exact ⟨e0,e1⟩))
     ((go_at_call 15;refine (HP3.out _ _ _ (by exact mat2_of HasBlk.eq HasBlk.eq HasBlk.eq) (by exact ints2_of HasBlk.eq)).mono ?_;rintro e w3 ⟨B2,k2,rfl,hC2,hs3⟩;have HC2:=Lib.hid hC2;clear hC2))
    all_goals
     go_wp2_with fail
     go_meet
     exact ⟨B2,k2,rfl,rfl,Lib.hid (HC2.out.ext inferInstance),inferInstance⟩
   case rest=>
    obtain ⟨B2,k2,rfl,rfl,HC2,hxc⟩:=hcut
    go_wp2_with (first
     |(go_at_call 17;refine (HSP.out _ _ _ _ _ (by exact HC.out.ext inferInstance) (by exact HC2.out.ext inferInstance)).mono ?_;rintro e w4 ⟨rfl,hs4⟩)
     |(go_at_call 18;refine (HAW.out _).mono ?_;rintro e w5 ⟨rfl,hs5⟩))
    go_ret
    exact ⟨rfl,((hxw2.trans hxc).trans inferInstance).toStep⟩
end Go.Proofs.YtcmkopogafchiaaGreat
