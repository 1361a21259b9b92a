import Derived.Test.YtgoaelchibpffaaGreatT17
import Derived.Lib.SmallJoins
import Derived.ChangeSlices
import Derived.Test.YtgoaelchibpffaaGreatRows
set_option maxHeartbeats 8000000
set_option linter.unusedVariables false
set_option linter.unusedSimpArgs false
namespace Go.Proofs.YtgoaelchibpffaaGreat
variable {b:Bool} {x:Int} {k:IntKind} {m:List (List Int)} {l:List Int} {n:Nat} {P:Program} {e t:TypeId} {v:Value}
section
open Go.RowKit
theorem zhN(fork:Bool)(n i j:Nat):-2<=ent (qm fork n) i j/\ent (qm fork n) i j<=2:=by
 unfold qm;by_cases h:i<n/\j<n
 ·rw[qg _ n n i j h.1 h.2];unfold qw;split
  ·omega
  ·split<;>omega
 ·rw[JC _ n n i j h];omega
theorem zoA(h:zM m=true){b:Nat}(h4:m.length<=4)(hb:b+2*m.length<=12∨b<=6∨(m.length<=3/\b<=8)):zP m b<=8000:=by
 have hl:=Z2 (Zk h).small;have zys:b<=10:=aa
 have hc:=(zcg h (b:=b) aa).2;have key:∀n,n<4->∀b,b<11->(b+2*(n+1)<=12∨b<=6∨(n+1<=3/\b<=8))->j5 b n<=8000/\zw b<=3000:=by decide+kernel
 have:=key (m.length-1) aa b aa aa;rcases hc with h|h<;>omega
theorem zoB(h:∀y∈l,1<=y)(hx:x∈l):x<=l.sum:=by
 induction l with
 |nil=>simp at hx
 |cons a l ih=>
  have h0:=zd4 l (fun y hy=>h y (by simp[hy]));have h1:=h a af;rw[List.sum_cons];rcases List.mem_cons.1 hx with rfl|hx
  ·omega
  ·have:=ih (fun y hy=>h y (by simp[hy])) hx;omega
end
section
open Go.ChangeShapes Go.WideShapes Go.ChangeAt Go.RowKit Go.Joins
section
variable {H:Type} {enc:TypeId×Value->H} {P:Program} {W W':World} {sp:Nat->Bool}
theorem zoC(hb:Below W.heap.size W W'){a:Addr}(h:W.cell? a=some v):W'.cell? a=some v:=by
 unfold World.cell? at h|-
 split at h
 ·rename_i c t f hc
  have hlt:=zi hc;rw[hb.block _ hlt,hc];exact h
 ·cases h
theorem zhO{y:DataW H×List MemPlace}(ht:P.underlying t=some (.slice e))(he:P.underlying e=some (.int k))(hc:P.cellsOf e=1)
  (h:DataW.trod enc P W 0 (fun _=>true) true n t [v]=some y) (hb:Below W.heap.size W W') (hs:∀q∈y.2,sp q.block=true):∃n,DataW.trod enc P W' 0 sp true n t [v]=some y:=by
 rcases open_ints ht he hc h with ⟨h1,h2⟩|⟨a,len,cap,zs,hcs,hb0,hl,hm,hz,hx,zsU,hw⟩
 ·injection h1 with h1
  subst h1 h2;exact field_of_Trod (shut_slice_nil ht) rfl
 ·injection hcs with hcs
  subst hcs hx;rw[if_pos rfl]at hz;refine⟨2,shut_ints 0 ht he hc hb0 hl hm ?_ (fun i hi=>zoC hb (zsU i hi)) hw⟩;by_cases h0:cap=0
  ·rw[hz];split<;>omega
  ·have hsa:sp a.block=true:=hs (.cell a.block (a.off+0)) (MemPlace.mem_row.2 ⟨0,aa,rfl⟩);rw[if_pos hsa];exact hz
theorem zhP{y:DataW H×List MemPlace}(ht:P.underlying t=some (.slice e))(he:P.underlying e=some (.int k))(hc:P.cellsOf e=1)
  (h:DataW.trod enc P W 0 (fun _=>true) true n t [v]=some y):∃(A:Option Addr) (c:Nat) (l:List Int) (te:TypeId),v= .slice A l.length c/\l.length<=c/\c<=9223372036854775807/\Ints W A te k l/\∀x∈l,(Lit.int k x).wf=true:=by
 rcases open_ints ht he hc h with ⟨h1,h2⟩|⟨a,len,cap,zs,hcs,hb0,hl,hm,hz,hx,zsU,hw⟩
 ·injection h1 with h1
  exact⟨none,0,[],0,by rw[h1];rfl,Zr,aa,Ints.nil,af⟩
 ·injection hcs with hcs
  rw[if_pos rfl]at hz;have zss:(zs.take len).length=len:=by rw[List.length_take];omega
  have hm2:cap<=9223372036854775807:=hm;by_cases h0:len=0
  ·refine⟨some a,cap,[],0,by rw[hcs,h0];rfl,af,hm2,Ints.nil,af⟩
  ·have hc0:=zsU 0 aa;have ha:a.add 0=a:=by simp[Addr.add]
   rw[ha]at hc0;unfold World.cell? at hc0;split at hc0
   ·rename_i c te fr hbl
    split at hc0
    ·cases hc0
    rename_i hsp
    obtain⟨ab,ao,asp⟩:=a;have has:asp=none:=by cases asp<;>simp_all
    subst has;refine⟨_,cap,zs.take len,te,by rw[zss];exact hcs,aa,hm2,fun _=>⟨ab,ao,c,fr,rfl,hbl,fun j u hu=>?_⟩,fun x hx=>hw x (List.mem_of_mem_take hx)⟩;rw[List.getElem?_map,List.getElem?_take]at hu;split at hu
    ·rename_i hj
     have hcj:=zsU j aa;rw[show (⟨ab,ao,none⟩:Addr).add j=⟨ab,ao+j,none⟩ by unfold Addr.add;split<;>simp_all]at hcj;unfold World.cell? at hcj;simp only[hbl]at hcj;rw[Ze aa]at hu;simp at hu;subst hu;have:zs.getD j 0=zs[j]'aa:=by simp[List.getD,(aa:j<zs.length)]
     rw[this]at hcj;simpa using hcj
    ·cases hu
   ·cases hc0
end
theorem zcx(h:(Lit.int .u8 x).wf=true):0<=x/\x<256:=by
 have e1:IntKind.u8.min=0:=rfl;have e2:IntKind.u8.max=255:=rfl;simp[Lit.wf]at h;omega
theorem zhQ(h:∀x∈l,(Lit.int .i8 x).wf=true):I8 l:=fun x hx=>by
 have h:=h x hx;have e1:IntKind.i8.min=-128:=rfl;have e2:IntKind.i8.max=127:=rfl;simp[Lit.wf]at h;omega
structure Latt(W:World)(v:Value)where
 dim:Int
 kind:Int
 A:Option Addr
 l:List Int
 c:Nat
 B:Option Addr
 b:List Int
 d:Nat
 te:TypeId
 tb:TypeId
 eq:v= .agg #[.int .u8 dim,.int .u8 kind,.slice A l.length c,.slice B b.length d]
 ints:Ints W A te .i8 l
 i8:I8 l
 len:l.length<=9223372036854775807
 bints:Ints W B tb .i8 b
 bi8:I8 b
 blen:b.length<=9223372036854775807
 dim0:0<=dim
 dim1:dim<256
 kind0:0<=kind
 kind1:kind<256
set_option maxRecDepth 100000 in
theorem zoD{H:Type}{enc:TypeId×Value->H}{W:World}{r:Reach}{b0:Nat}{d:DataW H}{p:List MemPlace}(hv:Value.okWide Tryz.prog W r b0 24 v)(h:DataW.Trod enc Tryz.prog W 0 (fun _=>true) true 24 v d p):
  Nonempty (Latt W v)/\∀(W':World)(sp:Nat->Bool),Below W.heap.size W W'->(∀q∈p,sp q.block=true)->DataW.Trod enc Tryz.prog W' 0 sp true 24 v d p:=by
 obtain⟨v0,v1,v2,v3,y0,y1,y2,y3,n,rfl,rfl,rfl,h0,h1,h2,h3⟩:=open_agg4 Tryz.underlying24 ai ai hv h;have hu8:Tryz.prog.underlying 5=some (.int .u8):=Tryz.underlying5;have hsl:Tryz.prog.underlying 22=some (.slice 38):=Tryz.underlying22;have hi8:Tryz.prog.underlying 38=some (.int .i8):=Tryz.underlying38;have hce:Tryz.prog.cellsOf 38=1:=ai
 obtain⟨dim,e0,rfl,w0⟩:=DataW.trod_int hu8 h0;obtain⟨kind,e1,rfl,w1⟩:=DataW.trod_int hu8 h1;injection e0 with e0
 injection e1 with e1
 subst e0 e1;refine⟨?_,fun W' sp hb hs=>?_⟩
 ·obtain⟨A,c,l,te,e2,k1,k2,hI,h8⟩:=zhP hsl hi8 hce h2;obtain⟨B,c',b,tb,e3,k3,k4,hI',h8'⟩:=zhP hsl hi8 hce h3;exact⟨⟨dim,kind,A,l,c,B,b,c',te,tb,by rw[e2,e3],hI,zhQ h8,aa,hI',zhQ h8',aa,(zcx w0).1,(zcx w0).2,(zcx w1).1,(zcx w1).2⟩⟩
 ·exact shut_agg4 Tryz.underlying24 ai ai (field_of_Trod (shut_int hu8 w0) rfl) (field_of_Trod (shut_int hu8 w1) rfl) (zhO hsl hi8 hce h2 hb (fun q hq=>hs q (by simp[hq]))) (zhO hsl hi8 hce h3 hb (fun q hq=>hs q (by simp[hq])))
end
section
set_option maxRecDepth 100000
def io:{L:List Char // Tryz.prog.initOrder.toList=L}:=⟨_,(congrArg String.toList (rfl:Tryz.prog.initOrder=String.ofList _)).trans String.toList_ofList⟩
theorem zoE:Tryz.prog.laysLater=false:=ai
theorem zoF:Tryz.prog.bearsReflect=false:=ai
theorem zoG:Tryz.prog.doorRows=[]:=ai
theorem zel : ∃ rest, behindMainWord (wordsSigns Tryz.prog.initOrder.toList) = "cut".toList :: rest := by
 rw[io.2];exact⟨(behindMainWord (wordsSigns io.1)).tail,ai⟩
theorem zoH {m : Make} {rest : List (List Char)} (h : behindMainWord (wordsSigns P.initOrder.toList) = "cut".toList :: rest) (hm : m = .cut) : (P.make == some m) = true := by
 subst hm;unfold Program.make;rw[h];kernel_rfl
theorem zoI {rest : List (List Char)} (h : behindMainWord (wordsSigns P.initOrder.toList) = "cut".toList :: rest) (hb : b = false) : (b == P.liftsFinal) = true := by
 subst hb;unfold Program.liftsFinal Program.headLifts;rw[h];kernel_rfl
theorem zoJ {rest : List (List Char)} (h : behindMainWord (wordsSigns P.initOrder.toList) = "cut".toList :: rest) (h1 : P.laysLater = false) (h2 : P.bearsReflect = false) (h3 : P.doorRows = []) : P.mayEnter = true := by
 unfold Program.mayEnter Program.doorFits;rw[h,h1,h2,h3];kernel_rfl
theorem zoK:Tryz.prog.mayEnter=true:=by
 obtain⟨rest,h⟩:=zel;exact zoJ h zoE zoF zoG
theorem zoL{m:Make}(hm:m= .cut):(Tryz.prog.make==some m)=true:=by
 obtain⟨rest,h⟩:=zel;exact zoH h hm
theorem zoM(hb:b=false):(b==Tryz.prog.liftsFinal)=true:=by
 obtain⟨rest,h⟩:=zel;exact zoI h hb
theorem zrd:laidOutB Tryz.prog=true:=ai
theorem ZW{a:Bool}(ha:a=true)(hb:b=true):(a&&b)=true:=by rw[ha,hb];rfl
end
section
open Go.RowKit
theorem zoN{w0 w:World}{A:Option Addr}{c:Nat}{za budget k:Int}(h:MatA w0 A m)(zss:m.length<=1099511627776)(hc:m.length<=c)(hc2:c<=9223372036854775807)(hf:zM m=true->FormOK m)(hs:qh m za budget=([],k))(h1:1<=k)(h2:k<=100)[hx:Ext w0 w]:
  Cq 88 #[.slice A m.length c,.int .i64 za,.int .i64 budget] w (zA w (.tuple #[.slice none 0 0,.int .i64 0,.int .i64 k])):=by
 have hst:=fun W(hh:Ext w0 W)=>zdE (w:=W) (za:=za) (budget:=budget) h zss hc hc2 hf
 rw[hs]at hst;have HST:=Zh hst;have hk:(k !=0)=true:=by simp;omega
 clear hst hs hf;go_enter Tryz.func88,Tryz.ntmps88;go_wp2_with (go_at_call 132;refine(HST.out _ Zi).mono ?_;rintro e w1 ⟨A1,c1,rfl,hI,k1,k2,hs1⟩)
 go_ret3
 exact⟨rfl,Step.of _ _⟩
end
section
open Go.RowKit
open La
theorem LLLed.symO(h:LLLed m):Sym (zf (ent m)):=fun i j=>by
 by_cases hi:i<m.length
 ·by_cases hj:j<m.length
  ·unfold zf;rw[h.sym i j hi hj]
  ·unfold zf;rw[qL h.all (i:=i) (j:=j) (.inr aa),qL h.all (i:=j) (j:=i) (.inl aa)]
 ·unfold zf;rw[qL h.all (i:=i) (j:=j) (.inl aa),qL h.all (i:=j) (j:=i) (.inr aa)]
end
section
open La
def Q9(m:List (List Int))(b:Int)(k:Nat)(t:List Int):Int:=zR (zl m m.length) (zq m m.length) k (left (ent m) b (k+1) t) t
def tHi(m:List (List Int))(b:Int)(k:Nat)(t:List Int):Int:=Z6 (zl m m.length) (zq m m.length) k (left (ent m) b (k+1) t) t
def zbr(m:List (List Int))(b:Int)(k:Nat)(t:List Int):Nat:=(tHi m b k t-Q9 m b k t+1).toNat
theorem zhR{x:List Int}(h:0<zD x):zJ x=x:=by unfold zJ;rw[if_neg aa]
theorem zoO(hr:RedOK m){b:Int}(hb:0<=b)(exact:Bool)(x:List Int):x∈(zB m b exact).map zJ↔x.length=m.length/\0<zD x/\zh m x<=b/\(exact=true->zh m x=b):=by
 rw[List.mem_map];constructor
 ·rintro⟨y,hy,rfl⟩;obtain⟨h1,h2,h3,h4⟩:=(Q5 hr hb exact y).1 hy;rw[JU,JV];exact⟨h1,zcf y (fun e=>JX h2 (Jy e)),h3,h4⟩
 ·rintro⟨h1,h2,h3,h4⟩;have hne:¬∀y∈x,y=0:=fun hz=>by
   have:zD x=0:=by
    clear h1 h2 h3 h4;induction x with
    |nil=>rfl
    |cons a x ih=>
     have ha:=hz a af;simp only[zD,ha,if_true];exact ih (fun y hy=>hz y (by simp[hy]))
   omega
  rcases zce hne with h5|h5
  ·refine⟨x,(Q5 hr hb exact x).2 ⟨h1,h5,h3,h4⟩,?_⟩;unfold zJ;rw[if_neg aa]
  ·refine⟨x.map fun c=>-c,(Q5 hr hb exact _).2 ⟨by simpa using h1,h5,by rw[jl];exact h3,by rw[jl];exact h4⟩,?_⟩;unfold zJ;rw[jM,if_pos aa,Jz]
end
end Go.Proofs.YtgoaelchibpffaaGreat
