import Derived.Test.YtcmkopogafchiaaGreatI17
import Derived.Lib.SmallJoins
import Derived.ChangeSlices
import Derived.Test.YtcmkopogafchiaaGreatRows
set_option maxHeartbeats 8000000
set_option linter.unusedVariables false
set_option linter.unusedSimpArgs false
namespace Go.Proofs.YtcmkopogafchiaaGreat
variable {x:Int} {k:IntKind} {a m:List (List Int)} {l:List Int} {b c n:Nat} {A:Option Addr} {P:Program} {e t:TypeId} {v:Value} {w w0:World}
section
open Go.RowKit
theorem zol(s:Bool)(hs:s=true↔jS a/\detF a<=10000)(h:Mat64 w0 A a)(h1:a.length=n)(h3:1<=n)(h4:n<=8)(hn:AllLen a n)(h64:Z9 a)(hb:BdM 199 a)[hx:Ext w0 w]:
  Cq 100 #[.slice A n c] w (zF w (.bool s)):=by
 have HOF:Hid (∀W,Ext w W->Cq 58 #[.slice A n c] W (RetOwnI W n a)):=Zh (fun W e=>by
  have:Ext w0 W:=hx.trans e;have:=zci (w:=W) (c:=c) h.a n (by omega) (by omega) h3 (by omega) hn h64;rwa [h1]at this)
 obtain⟨sv,hsv⟩:∃sv:Bool,sv=true↔jS a:=⟨@decide (jS a) (Classical.propDecidable _),by simp⟩;have HVA:Hid (∀(W1 W:World)(A1:Option Addr)(c1:Nat),MatV W1 A1 a->Ext W1 W->Cq 84 #[.slice A1 n c1] W (fun e w'=>∃v:Int,e= .returned (.int .i64 v)/\(v=0↔sv=true)/\0<=v/\v<=5/\Step W w')):=Zh (fun W1 W A1 c1 hM e=>zeo sv hsv hM h1 h3 h4 hn hb (by omega) (by omega));have HDT:Hid (∀(W1 W:World)(A1:Option Addr)(c1:Nat),MatV W1 A1 a->Ext W1 W->Cq 118 #[.slice A1 n c1] W (zz W (detF a))):=Zh (fun W1 W A1 c1 hM e=>zej hM h1 h3 h4 hn hb (by omega) (by omega))
 have hbd:=zem h1 h4 (by omega) hb;have HC:Hid (∀(W1 W2 W:World)(g1:Bool)B1 n1 c1(g2:Bool)B2 n2 c2,IntV W1 g1 B1 n1 c1 (detF a)->IntV W2 g2 B2 n2 c2 10000->Ext W1 W->Ext W2 W->Cq 137 #[.agg #[.bool g1,.slice B1 n1 c1],.agg #[.bool g2,.slice B2 n2 c2]] W (zF W (.int .i64 (zm (detF a) 10000)))):=Zh (fun W1 W2 W g1 B1 n1 c1 g2 B2 n2 c2 ha hb e1 e2=>zas ha hb (by have:=ha.bd hbd (by omega);omega) (by have:=hb.len (k:=1) (by decide);omega))
 have HL:=Zh h1
 cases hsb:sv
 ·rw[hsb]at HVA hsv;have HF:Hid (s=false):=Zh (by
   cases s with
   |false=>rfl
   |true=>exact absurd (hsv.2 (hs.1 rfl).1) (by simp))
  clear hsb hsv hs hbd hn hb h64 h1;go_enter Tryz.func100,Tryz.ntmps100;go_wp2_with (first
   |(go_at_call 58;refine(HOF.out _ Zi).mono ?_;rintro e w1 ⟨g1,zvn,c1,rfl,hO1,-,-,hs1⟩;rw[HL.out];have HM:=Zh hO1.mat;clear hO1)
   |(go_at_call 84;refine(HVA.out _ _ _ _ HM.out Zi).mono ?_;rintro e w2 ⟨v,rfl,hv,hv0,hv5,hs2⟩;have hvz:(v==0)=false:=(by simp at hv;simp;exact hv);clear hv))
  go_ret;exact⟨by rw[HF.out];simp,Step.of _ _⟩
 ·rw[hsb]at HVA hsv;have HF:Hid (decide (zm (detF a) 10000<=0)=s):=Zh (by
   rw[zcq]
   cases s with
   |false=>
    refine decide_eq_false fun hd=>?_
    have:=hs.2 ⟨hsv.1 rfl,hd⟩
    cases this
   |true=>exact decide_eq_true (hs.1 rfl).2)
  clear hsb hsv hs hbd hn hb h64 h1;generalize detF a=D at*
  go_enter Tryz.func100,Tryz.ntmps100;go_wp2_with (first
   |(go_at_call 58;refine(HOF.out _ Zi).mono ?_;rintro e w1 ⟨g1,zvn,c1,rfl,hO1,-,-,hs1⟩;rw[HL.out];have HM:=Zh hO1.mat;clear hO1)
   |(go_at_call 84;refine(HVA.out _ _ _ _ HM.out Zi).mono ?_;rintro e w2 ⟨v,rfl,hv,hv0,hv5,hs2⟩;obtain rfl:v=0:=(by simpa using hv);clear hv)
   |(go_at_call 118;refine(HDT.out _ _ _ _ HM.out Zi).mono ?_;rintro e w3 ⟨g3,B3,k3,d3,rfl,hz3,hs3⟩)
   |(go_at_call 72;refine(Qg 10000 (by omega) (by omega) _).mono ?_;rintro e w4 ⟨g4,B4,k4,d4,rfl,hz4,hs4⟩)
   |(go_at_call 137;refine(HC.out _ _ _ _ _ _ _ _ _ _ _ hz3 hz4 Zi Zi).mono ?_;rintro e w5 ⟨rfl,hs5⟩))
  go_ret;exact⟨by rw[<-HF.out];simp,Step.of _ _⟩
def SmM(a:List (List Int)):Prop:=∀i j,-100<=ent a i j/\ent a i j<=100
theorem SmM.bd(h:SmM a):BdM 199 a:=fun i j=>by
 have:=h i j;refine Nat.lt_of_lt_of_le (m:=2^7) (by omega) (Nat.pow_le_pow_right (by omega) (by omega))
theorem SmM.fits(h:SmM a)(hn:AllLen a n):Z9 a:=by
 rw[<-zfH a n hn];intro r hr x hx;obtain⟨i,hi,rfl⟩:=List.mem_map.1 hr;obtain⟨j,hj,rfl⟩:=List.mem_map.1 hx;have:=h i j;omega
theorem SmM.tab{F:Nat->Nat->Int}{r:Nat}(h:∀i j,-100<=F i j/\F i j<=100):SmM (tab F n r):=fun i j=>by
 by_cases hi:i<n/\j<r
 ·rw[qo F n r i j hi.1 hi.2];exact h i j
 ·rw[JA F n r i j hi];omega
theorem SmM.set{i j:Nat}{z:Int}(h:SmM a)(hn:AllLen a n)(hi:i<a.length)(hj:j<n)(hz:-100<=z/\z<=100):SmM (zO a i j z):=fun x y=>by
 have hrl:(a.getD i []).length=n:=by
  have e:a.getD i []=a[i]:=by simp[List.getD,hi]
  rw[e];exact hn _ (List.getElem_mem hi)
 rw[zg7 hi (by rw[hrl];exact hj)];split
 ·exact hz
 ·exact h x y
theorem J8(l:List Int)(k n most:Nat)(h1:1<=most)(h2:most<=9):SmM (ZX l k n most):=SmM.tab fun i j=>by
 split
 ·have h3:=Int.emod_nonneg (l.getD (k+i) 0%256) (show (most:Int)≠0 by omega);have h4:=Int.emod_lt_of_pos (l.getD (k+i) 0%256) (show (0:Int)<most by omega);omega
 ·omega
theorem zom(l:List Int)(k n:Nat):SmM (zbu l k n):=SmM.tab fun i j=>by
 unfold Qk;split
 ·omega
 ·split
  ·unfold JB;have:=zeq (l.getD (k+n+qS (max i j)+min i j) 0);omega
  ·omega
theorem zhM(fork:Bool)(n:Nat):SmM (qA fork n):=SmM.tab fun i j=>by
 unfold qK;split
 ·omega
 ·split<;>omega
theorem zbv(l:List Int)(k n:Nat)(n1:1<=n)(n8:n<=8):Gm n (ZX l k n 2):=by
 refine znq n1 n8 (zv _ _ _) (Qn _ _ _) (fun i j hij=>?_) (fun i hi=>?_)
 ·unfold ZX;by_cases h:i<n/\j<n
  ·rw[qo _ n n i j h.1 h.2,if_neg hij]
  ·rw[JA _ n n i j h]
 ·unfold ZX;rw[qo _ n n i i hi hi,if_pos rfl];omega
theorem zhN(fork:Bool)(n i j:Nat):-2<=ent (qA fork n) i j/\ent (qA fork n) i j<=2:=by
 unfold qA;by_cases h:i<n/\j<n
 ·rw[qo _ n n i j h.1 h.2];unfold qK;split
  ·omega
  ·split<;>omega
 ·rw[JA _ n n i j h];omega
theorem zcv(h:ZI m=true)(h4:m.length<=4)(hb:b+2*m.length<=12∨b<=6∨(m.length<=3/\b<=8)):Z4 m b<=8000:=by
 have hl:=Qo (Qi h).small;have zuk:b<=10:=by omega
 have hc:=(zbk h (b:=b) (by omega)).2;have key:∀n,n<4->∀b,b<11->(b+2*(n+1)<=12∨b<=6∨(n+1<=3/\b<=8))->QM b n<=8000/\zu b<=3000:=by decide+kernel
 have:=key (m.length-1) (by omega) b (by omega) (by omega);rcases hc with h|h<;>omega
def zon(w:World)(m:List (List Int))(b:Int)(e:Ending)(w':World):Prop:=∃B d L,e= .returned (.tuple #[.slice B (List.length L) d,.int .i64 (Z4 m b),.int .i64 0])/\Mat64 w' B L/\L.length<=d/\d<=9223372036854775807/\VecList m b false L/\L.length<=8000/\Step w w'
theorem VecList.zd{b:Int}{e:Bool}{L:List (List Int)}(h:VecList m b e L):∀r∈L,r.length=m.length:=fun r hr=>((h.mem r).1 hr).1
theorem zoo(h:∀y∈l,1<=y)(hx:x∈l):x<=l.sum:=by
 induction l with
 |nil=>simp at hx
 |cons a l ih=>
  have h0:=zd2 l (fun y hy=>h y (by simp[hy]));have h1:=h a (by simp);rw[List.sum_cons];rcases List.mem_cons.1 hx with rfl|hx
  ·omega
  ·have:=ih (fun y hy=>h y (by simp[hy])) hx;omega
theorem zop{budget:Int}(h:Mat64 w0 A m)(hc:m.length<=c)(hc2:c<=9223372036854775807)(hr:ZI m=true)(h4:m.length<=4)(hb:b+2*m.length<=12∨b<=6∨(m.length<=3/\b<=8))(hbd:Z4 m b<=budget)(zxA:budget<=1000000)[hx:Ext w0 w]:
  Cq 60 #[.slice A m.length c,.int .i64 b,.int .i64 budget] w (zon w m b):=by
 have hR:=Qi hr;have hl:=Qo hR.small;have hst:=(zbk hr (b:=b) (by omega)).1;have zvo:=zcv hr h4 hb;have zs4:=hst.last_le (by omega);have hll:=hst.ze;have hsl:=zd2 _ hst.one;have zuK:=hst.sum;have zsB:=hst.len;have hcl:(Zx m b false).length<=8000:=by omega
 have hmx:∀x∈qz m b,0<=x/\x<=1099511627776:=fun x hx=>by
  have h1:=hst.one x hx;have:x<=(qz m b).sum:=zoo hst.one hx;omega
 have zue:=hst.spec budget (by omega) zxA;rw[if_pos hbd]at zue;refine(zgC h.a hc hc2 (znb hr (by omega) false (by omega)) zue (by omega) (by omega) (by omega) hmx (by omega)).mono ?_;rintro e w' ⟨B,d,L,he,hM,h1,h2,hp,hw,hs⟩;rw[zuK]at he;refine⟨B,d,L,he,hM,h1,h2,zmY hR (by omega) hp hw,?_,hs⟩;have:=hp.length_eq;simp at this;omega
end
section
open Go.ChangeShapes Go.WideShapes Go.ChangeAt Go.RowKit Go.Joins
section
variable {H:Type} {enc:TypeId×Value->H} {P:Program} {W W':World} {sp:Nat->Bool}
theorem zoq(hb:Below W.heap.size W W'){a:Addr}(h:W.cell? a=some v):W'.cell? a=some v:=by
 unfold World.cell? at h|-
 split at h
 ·rename_i c t f hc
  have hlt:=zD hc;rw[hb.block _ hlt,hc];exact h
 ·cases h
theorem zhO{y:DataW H×List MemPlace}(ht:P.underlying t=some (.slice e))(he:P.underlying e=some (.int k))(hc:P.cellsOf e=1)
  (h:DataW.trod enc P W 0 (fun _=>true) true n t [v]=some y) (hb:Below W.heap.size W W') (hs:∀q∈y.2,sp q.block=true):∃n,DataW.trod enc P W' 0 sp true n t [v]=some y:=by
 rcases open_ints ht he hc h with ⟨h1,h2⟩|⟨a,len,cap,zs,hcs,hb0,hl,hm,hz,hx,zsZ,hw⟩
 ·injection h1 with h1
  subst h1 h2;exact field_of_Trod (shut_slice_nil ht) rfl
 ·injection hcs with hcs
  subst hcs hx;rw[if_pos rfl]at hz;refine⟨2,shut_ints 0 ht he hc hb0 hl hm ?_ (fun i hi=>zoq hb (zsZ i hi)) hw⟩;by_cases h0:cap=0
  ·rw[hz];split<;>omega
  ·have hsa:sp a.block=true:=hs (.cell a.block (a.off+0)) (MemPlace.mem_row.2 ⟨0,by omega,rfl⟩);rw[if_pos hsa];exact hz
theorem zhP{y:DataW H×List MemPlace}(ht:P.underlying t=some (.slice e))(he:P.underlying e=some (.int k))(hc:P.cellsOf e=1)
  (h:DataW.trod enc P W 0 (fun _=>true) true n t [v]=some y):∃(A:Option Addr) (c:Nat) (l:List Int) (te:TypeId),v= .slice A l.length c/\l.length<=c/\c<=9223372036854775807/\Ints W A te k l/\∀x∈l,(Lit.int k x).wf=true:=by
 rcases open_ints ht he hc h with ⟨h1,h2⟩|⟨a,len,cap,zs,hcs,hb0,hl,hm,hz,hx,zsZ,hw⟩
 ·injection h1 with h1
  exact⟨none,0,[],0,by rw[h1];rfl,Zr,by omega,Ints.nil,by simp⟩
 ·injection hcs with hcs
  rw[if_pos rfl]at hz;have zsB:(zs.take len).length=len:=by rw[List.length_take];omega
  have hm2:cap<=9223372036854775807:=hm;by_cases h0:len=0
  ·refine⟨some a,cap,[],0,by rw[hcs,h0];rfl,by simp,hm2,Ints.nil,by simp⟩
  ·have hc0:=zsZ 0 (by omega);have ha:a.add 0=a:=by simp[Addr.add]
   rw[ha]at hc0;unfold World.cell? at hc0;split at hc0
   ·rename_i c te fr hbl
    split at hc0
    ·cases hc0
    rename_i hsp
    obtain⟨ab,ao,asp⟩:=a;have has:asp=none:=by cases asp<;>simp_all
    subst has;refine⟨_,cap,zs.take len,te,by rw[zsB];exact hcs,by omega,hm2,fun _=>⟨ab,ao,c,fr,rfl,hbl,fun j u hu=>?_⟩,fun x hx=>hw x (List.mem_of_mem_take hx)⟩;rw[List.getElem?_map,List.getElem?_take]at hu;split at hu
    ·rename_i hj
     have hcj:=zsZ j (by omega);rw[show (⟨ab,ao,none⟩:Addr).add j=⟨ab,ao+j,none⟩ by unfold Addr.add;split<;>simp_all]at hcj;unfold World.cell? at hcj;simp only[hbl]at hcj;rw[Ze (by omega)]at hu;simp at hu;subst hu;have:zs.getD j 0=zs[j]'(by omega):=by simp[List.getD,show j<zs.length by omega]
     rw[this]at hcj;simpa using hcj
    ·cases hu
   ·cases hc0
end
theorem zcw(h:(Lit.int .u8 x).wf=true):0<=x/\x<256:=by
 have e1:IntKind.u8.min=0:=rfl;have e2:IntKind.u8.max=255:=rfl;simp[Lit.wf]at h;omega
theorem zhQ(h:∀x∈l,(Lit.int .i8 x).wf=true):I8 l:=fun x hx=>by
 have h:=h x hx;have e1:IntKind.i8.min=-128:=rfl;have e2:IntKind.i8.max=127:=rfl;simp[Lit.wf]at h;omega
structure Latt(W:World)(v:Value)where
 dim:Int
 kind:Int
 A:Option Addr
 l:List Int
 c:Nat
 B:Option Addr
 b:List Int
 d:Nat
 te:TypeId
 tb:TypeId
 eq:v= .agg #[.int .u8 dim,.int .u8 kind,.slice A l.length c,.slice B b.length d]
 ints:Ints W A te .i8 l
 i8:I8 l
 len:l.length<=9223372036854775807
 bints:Ints W B tb .i8 b
 bi8:I8 b
 blen:b.length<=9223372036854775807
 dim0:0<=dim
 dim1:dim<256
 kind0:0<=kind
 kind1:kind<256
set_option maxRecDepth 100000 in
theorem zor{H:Type}{enc:TypeId×Value->H}{W:World}{r:Reach}{b0:Nat}{d:DataW H}{p:List MemPlace}(hv:Value.okWide Tryz.prog W r b0 24 v)(h:DataW.Trod enc Tryz.prog W 0 (fun _=>true) true 24 v d p):
  Nonempty (Latt W v)/\∀(W':World)(sp:Nat->Bool),Below W.heap.size W W'->(∀q∈p,sp q.block=true)->DataW.Trod enc Tryz.prog W' 0 sp true 24 v d p:=by
 obtain⟨v0,v1,v2,v3,y0,y1,y2,y3,n,rfl,rfl,rfl,h0,h1,h2,h3⟩:=open_agg4 Tryz.underlying24 (by kernel_rfl) (by kernel_rfl) hv h;have hu8:Tryz.prog.underlying 5=some (.int .u8):=Tryz.underlying5;have hsl:Tryz.prog.underlying 22=some (.slice 109):=Tryz.underlying22;have hi8:Tryz.prog.underlying 109=some (.int .i8):=Tryz.underlying109;have hce:Tryz.prog.cellsOf 109=1:=by kernel_rfl
 obtain⟨dim,e0,rfl,w0⟩:=DataW.trod_int hu8 h0;obtain⟨kind,e1,rfl,w1⟩:=DataW.trod_int hu8 h1;injection e0 with e0
 injection e1 with e1
 subst e0 e1;refine⟨?_,fun W' sp hb hs=>?_⟩
 ·obtain⟨A,c,l,te,e2,k1,k2,hI,h8⟩:=zhP hsl hi8 hce h2;obtain⟨B,c',b,tb,e3,k3,k4,hI',h8'⟩:=zhP hsl hi8 hce h3;exact⟨⟨dim,kind,A,l,c,B,b,c',te,tb,by rw[e2,e3],hI,zhQ h8,by omega,hI',zhQ h8',by omega,(zcw w0).1,(zcw w0).2,(zcw w1).1,(zcw w1).2⟩⟩
 ·exact shut_agg4 Tryz.underlying24 (by kernel_rfl) (by kernel_rfl) (field_of_Trod (shut_int hu8 w0) rfl) (field_of_Trod (shut_int hu8 w1) rfl) (zhO hsl hi8 hce h2 hb (fun q hq=>hs q (by simp[hq]))) (zhO hsl hi8 hce h3 hb (fun q hq=>hs q (by simp[hq])))
end
section
set_option maxRecDepth 100000
def io:{L:List Char // Tryz.prog.initOrder.toList=L}:=⟨_,(congrArg String.toList (rfl:Tryz.prog.initOrder=String.ofList _)).trans String.toList_ofList⟩
theorem zos:Tryz.prog.laysLater=false:=by kernel_rfl
theorem zot:Tryz.prog.bearsReflect=false:=by kernel_rfl
theorem zou:Tryz.prog.doorRows=[]:=by kernel_rfl
theorem zer : ∃ rest, behindMainWord (wordsSigns Tryz.prog.initOrder.toList) = "cut".toList :: rest := by
 rw[io.2];exact⟨(behindMainWord (wordsSigns io.1)).tail,by kernel_rfl⟩
theorem zov {m : Make} {rest : List (List Char)} (h : behindMainWord (wordsSigns P.initOrder.toList) = "cut".toList :: rest) (hm : m = .cut) : (P.make == some m) = true := by
 subst hm;unfold Program.make;rw[h];kernel_rfl
theorem zow {b : Bool} {rest : List (List Char)} (h : behindMainWord (wordsSigns P.initOrder.toList) = "cut".toList :: rest) (hb : b = false) : (b == P.liftsFinal) = true := by
 subst hb;unfold Program.liftsFinal Program.headLifts;rw[h];kernel_rfl
theorem zox {rest : List (List Char)} (h : behindMainWord (wordsSigns P.initOrder.toList) = "cut".toList :: rest) (h1 : P.laysLater = false) (h2 : P.bearsReflect = false) (h3 : P.doorRows = []) : P.mayEnter = true := by
 unfold Program.mayEnter Program.doorFits;rw[h,h1,h2,h3];kernel_rfl
theorem zoy:Tryz.prog.mayEnter=true:=by
 obtain⟨rest,h⟩:=zer;exact zox h zos zot zou
theorem zoz{m:Make}(hm:m= .cut):(Tryz.prog.make==some m)=true:=by
 obtain⟨rest,h⟩:=zer;exact zov h hm
theorem zoA{b:Bool}(hb:b=false):(b==Tryz.prog.liftsFinal)=true:=by
 obtain⟨rest,h⟩:=zer;exact zow h hb
theorem zoB:laidOutB Tryz.prog=true:=by kernel_rfl
theorem Z5{a b:Bool}(ha:a=true)(hb:b=true):(a&&b)=true:=by rw[ha,hb];rfl
end
section
open Go.RowKit
open La
theorem zoC(h:MatV w0 A m)(h1:m.length=n)(h3:1<=n)(h4:n<=8)(hn:AllLen m n)(hb:BdM b m)(hb1:1<=b)(hbb:b<=1000000)(hp:Pos (zg (ent m)) n)(hs:Sym (zg (ent m)))(hfu:∀r,r<n->Qz (zg (ent m)) r)(hlo:∀p,p+1<n->qC (zg (ent m)) p)[hx:Ext w0 w]:
  Cq 133 #[.slice A n c] w (zF w (.bool true)):=by
 have h0:=h.ext hx;have HLE:=Zh (fun W(e1:Ext w W)=>zbr (w:=W) (c:=c) h0 h1 h3 h4 hn hb hb1 hbb);have HLL:Hid ((zw m).length=n):=Zh (by rw[QN];exact h1);have HSZ:Hid (∀(W1 W:World)(B:Option Addr)(d i j:Nat),i<n->j<i->IntsV W1 B (zw m)->Ext w W->Ext W1 W->Cq 140 #[.slice A n c,.slice B n d,.int .i64 i,.int .i64 j] W (zF W (.bool true))):=Zh (fun W1 W B d i j hi hj hI e1 e2=>by
  have:=zhw (w:=W) (c:=c) (d:=d) h0 hI h1 h4 hn hb hb1 hbb hi (show j<n by omega);rwa [decide_eq_true ((zhB h1 hp (show j<n by omega)).2 (hfu i hi j hj))]at this)
 have HLV:Hid (∀(W1 W:World)(B:Option Addr)(d i:Nat),i<n->1<=i->IntsV W1 B (zw m)->Ext w W->Ext W1 W->Cq 144 #[.slice A n c,.slice B n d,.int .i64 i] W (zF W (.bool true))):=Zh (fun W1 W B d i hi hi1 hI e1 e2=>by
  have:=zhx (w:=W) (c:=c) (d:=d) h0 hI h1 h4 hn hb hb1 hbb hi hi1;obtain⟨p,rfl⟩:∃p,i=p+1:=⟨i-1,by omega⟩;rwa [decide_eq_true ((zhC h1 hp hs hi).2 (hlo p hi))]at this)
 clear hn hb hp hs h1 hfu hlo;go_enter Tryz.func133,Tryz.ntmps133;go_wp2_with (go_at_call 71;refine(HLE.out _ Zi).mono ?_;rintro e w1 ⟨BD,dD,rfl,hI1,-,-,hs1⟩;rw[HLL.out];have HI:=Zh hI1;clear hI1)
 have zti:Ext w w1:=Zi;go_loopw [5,6,14] (fun _ _ i wr=>∃k:Nat,k<=n/\i= .int .i64 k/\Ext w1 wr) (fun _ _ i _=>n-(intOf i).toNat)
 case atStart=>exact⟨0,by omega,rfl,Zi⟩
 case round=>
  obtain⟨k,hk,rfl,hxr⟩:=hrel;by_cases hlt:k<n
  ·go_wp2_with fail
   go_loopw [6] (fun s6 wr=>∃q:Nat,q<=k/\s6= .int .i64 q/\Ext w1 wr) (fun s6 _=>k-(intOf s6).toNat)
   case atStart=>exact⟨0,by omega,rfl,Zi⟩
   case round=>
    obtain⟨q,hq,rfl,hxq⟩:=hrel;have zth:Ext w wr:=zti.trans hxq;by_cases hqk:q<k
    ·have HSB:=Zh (fun W(e1:Ext wr W)=>HSZ.out w1 W BD dD k q hlt hqk HI.out (zth.trans e1) (hxq.trans e1));go_wp2_with (go_at_call 140;refine(HSB.out _ Zi).mono ?_;rintro e w6 ⟨rfl,hs6⟩)
     exact⟨⟨q+1,by omega,by go_num,Zi⟩,by simp[intOf]<;>omega⟩
    ·by_cases hk0:k=0
     ·subst hk0;go_wp2_with fail
      exact⟨⟨1,by omega,rfl,hxq⟩,by simp[intOf]<;>omega⟩
     ·have HLB:=Zh (fun W(e1:Ext wr W)=>HLV.out w1 W BD dD k hlt (by omega) HI.out (zth.trans e1) (hxq.trans e1));have hgt:decide ((0:Int)<(k:Int))=true:=by simp;omega
      have zxv:0<k:=by omega
      have zxw:(0:Int)<(k:Int):=by omega
      clear hk0;go_wp2_with (go_at_call 144;refine(HLB.out _ Zi).mono ?_;rintro e w6 ⟨rfl,hs6⟩)
      exact⟨⟨k+1,by omega,by go_num,Zi⟩,by simp[intOf]<;>omega⟩
  ·have zsW:Ext w wr:=zti.trans hxr;go_wp2_with fail
   go_ret;exact⟨rfl,⟨zsW.below⟩⟩
theorem LLLed.val(h:LLLed m):jS m:=⟨fun i hi j hj=>h.sym i j hi (by omega),zdN.2 h.pos⟩
theorem LLLed.detF(h:LLLed m):detF m<=10000:=by
 rw[zdM h.len1 (fun l hl=>by have:=qt h.pos (k:=l) (by omega);omega)];exact h.det
theorem LLLed.symO(h:LLLed m):Sym (zg (ent m)):=fun i j=>by
 by_cases hi:i<m.length
 ·by_cases hj:j<m.length
  ·unfold zg;rw[h.sym i j hi hj]
  ·unfold zg;rw[qI h.all (i:=i) (j:=j) (.inr (by omega)),qI h.all (i:=j) (j:=i) (.inl (by omega))]
 ·unfold zg;rw[qI h.all (i:=i) (j:=j) (.inl (by omega)),qI h.all (i:=j) (j:=i) (.inr (by omega))]
theorem zoD(h:MatA w0 A m)(hL:LLLed m)(h1:m.length=n)(h64:Z9 m)(hb:BdM 199 m)[hx:Ext w0 w]:
  Cq 79 #[.slice A n c] w (zF w (.bool true)):=by
 have h3:1<=n:=by rw[<-h1];exact hL.len1
 have h4:n<=8:=by rw[<-h1];exact hL.len8
 have hn:AllLen m n:=by rw[<-h1];exact hL.all
 have hp:Pos (zg (ent m)) n:=by rw[<-h1];exact hL.pos
 have HFI:Hid (∀W,Ext w W->Cq 95 #[.slice A n c] W (zbm W n m)):=Zh (fun W e=>by
  have:Ext w0 W:=hx.trans e;have:=zhm (w:=W) (c:=c) h n (by omega) (by omega) h3 (by omega) hn h64;rwa [h1]at this)
 have HVA:Hid (∀(W1 W:World)(A1:Option Addr)(c1:Nat),MatV W1 A1 m->Ext W1 W->Cq 84 #[.slice A1 n c1] W (fun e w'=>∃v:Int,e= .returned (.int .i64 v)/\(v=0↔true=true)/\0<=v/\v<=5/\Step W w')):=Zh (fun W1 W A1 c1 hM e=>zeo true (by simp[hL.val]) hM h1 h3 h4 hn hb (by omega) (by omega));have HSM:Hid (∀(W1 W:World)(A1:Option Addr)(c1:Nat),MatV W1 A1 m->Ext W1 W->Cq 85 #[.slice A1 n c1] W (zF W (.bool true))):=Zh (fun W1 W A1 c1 hM e=>by
  have:=zhv (w:=W) (c:=c1) hM h1 h3 h4 hn hb (by omega) (by omega);rwa [decide_eq_true hL.detF]at this)
 have HRE:Hid (∀(W1 W:World)(A1:Option Addr)(c1:Nat),MatV W1 A1 m->Ext W1 W->Cq 133 #[.slice A1 n c1] W (zF W (.bool true))):=Zh (fun W1 W A1 c1 hM e=>zoC hM h1 h3 h4 hn hb (by omega) (by omega) hp hL.symO (fun r hr=>hL.full r (by omega)) (fun p hp=>hL.lov p (by omega)));have HL:=Zh h1;clear hn hb h64 h1 hp hL;go_enter Tryz.func79,Tryz.ntmps79;go_wp2_with (first
  |(go_at_call 95;refine(HFI.out _ Zi).mono ?_;rintro e w1 ⟨g1,zvn,c1,rfl,hO1,-,-,hs1⟩;rw[HL.out];have HM:=Zh hO1.mat;clear hO1)
  |(go_at_call 84;refine(HVA.out _ _ _ _ HM.out Zi).mono ?_;rintro e w2 ⟨v,rfl,hv,hv0,hv5,hs2⟩;have hvz:v=0:=(hv.2 (by trivial));subst hvz;clear hv hv0 hv5)
  |(go_at_call 85;refine(HSM.out _ _ _ _ HM.out Zi).mono ?_;rintro e w3 ⟨rfl,hs3⟩)
  |(go_at_call 133;refine(HRE.out _ _ _ _ HM.out Zi).mono ?_;rintro e w4 ⟨rfl,hs4⟩))
 go_ret;exact⟨rfl,Step.of _ _⟩
end
end Go.Proofs.YtcmkopogafchiaaGreat
