import Derived.Test.YtpijjipngkdhdaaGreatE17
set_option maxHeartbeats 8000000
set_option linter.unusedVariables false
set_option linter.unusedSimpArgs false
namespace Go.Proofs.YtpijjipngkdhdaaGreat
variable {m:List (List Int)} {x:List Int} {vs:List Value} {b c k n q:Nat} {A:Option Addr} {w w0:World}
section
open Go.RowKit
open La
theorem zmS(h:MatV w0 A m)(h1:m.length=n)(h3:1<=n)(h4:n<=8)(hn:AllLen m n)(hb:BdM b m)(hb1:1<=b)(hbb:b<=1000000)(hp:Pos (zf (ent m)) n)(hs:Sym (zf (ent m)))(hfu:∀r,r<n->q9 (zf (ent m)) r)(hlo:∀p,p+1<n->qb (zf (ent m)) p)[hx:Ext w0 w]:
  Cq 114 #[.slice A n c] w (zz w (.bool true)):=by
 have h0:=h.ext hx;have HLE:=Zh (fun W(e1:Ext w W)=>zaS (w:=W) (c:=c) h0 h1 h3 h4 hn hb hb1 hbb);have HLL:Hid ((zr m).length=n):=Zh (by rw[Qp];exact h1);have HSZ:Hid (∀(W1 W:World)(B:Option Addr)(d i j:Nat),i<n->j<i->IntsV W1 B (zr m)->Ext w W->Ext W1 W->Cq 195 #[.slice A n c,.slice B n d,.int .i64 i,.int .i64 j] W (zz W (.bool true))):=Zh (fun W1 W B d i j hi hj hI e1 e2=>by
  have:=zgB (w:=W) (c:=c) (d:=d) h0 hI h1 h4 hn hb hb1 hbb hi (show j<n by omega);rwa [decide_eq_true ((zgF h1 hp (show j<n by omega)).2 (hfu i hi j hj))]at this)
 have HLV:Hid (∀(W1 W:World)(B:Option Addr)(d i:Nat),i<n->1<=i->IntsV W1 B (zr m)->Ext w W->Ext W1 W->Cq 196 #[.slice A n c,.slice B n d,.int .i64 i] W (zz W (.bool true))):=Zh (fun W1 W B d i hi hi1 hI e1 e2=>by
  have:=zgC (w:=W) (c:=c) (d:=d) h0 hI h1 h4 hn hb hb1 hbb hi hi1;obtain⟨p,rfl⟩:∃p,i=p+1:=⟨i-1,by omega⟩;rwa [decide_eq_true ((zgG h1 hp hs hi).2 (hlo p hi))]at this)
 clear hn hb hp hs h1 hfu hlo;go_enter Tryz.func114,Tryz.ntmps114;go_wp2_with (go_at_call 161;refine(HLE.out _ Zi).mono ?_;rintro e w1 ⟨BD,dD,rfl,hI1,-,-,hs1⟩;rw[HLL.out];have HI:=Zh hI1;clear hI1)
 have zq0:Ext w w1:=Zi;go_loopw [5,6,14] (fun _ _ i wr=>∃k:Nat,k<=n/\i= .int .i64 k/\Ext w1 wr) (fun _ _ i _=>n-(intOf i).toNat)
 case atStart=>exact⟨0,by omega,rfl,Zi⟩
 case round=>
  obtain⟨k,hk,rfl,hxr⟩:=hrel;by_cases hlt:k<n
  ·go_wp2_with fail
   go_loopw [6] (fun s6 wr=>∃q:Nat,q<=k/\s6= .int .i64 q/\Ext w1 wr) (fun s6 _=>k-(intOf s6).toNat)
   case atStart=>exact⟨0,by omega,rfl,Zi⟩
   case round=>
    obtain⟨q,hq,rfl,hxq⟩:=hrel;have zqQ:Ext w wr:=zq0.trans hxq;by_cases hqk:q<k
    ·have HSB:=Zh (fun W(e1:Ext wr W)=>HSZ.out w1 W BD dD k q hlt hqk HI.out (zqQ.trans e1) (hxq.trans e1));go_wp2_with (go_at_call 195;refine(HSB.out _ Zi).mono ?_;rintro e w6 ⟨rfl,hs6⟩)
     exact⟨⟨q+1,by omega,by go_num,Zi⟩,by simp[intOf]<;>omega⟩
    ·by_cases hk0:k=0
     ·subst hk0;go_wp2_with fail
      exact⟨⟨1,by omega,rfl,hxq⟩,by simp[intOf]<;>omega⟩
     ·have HLB:=Zh (fun W(e1:Ext wr W)=>HLV.out w1 W BD dD k hlt (by omega) HI.out (zqQ.trans e1) (hxq.trans e1));have hgt:decide ((0:Int)<(k:Int))=true:=by simp;omega
      have zuU:0<k:=by omega
      have zuV:(0:Int)<(k:Int):=by omega
      clear hk0;go_wp2_with (go_at_call 196;refine(HLB.out _ Zi).mono ?_;rintro e w6 ⟨rfl,hs6⟩)
      exact⟨⟨k+1,by omega,by go_num,Zi⟩,by simp[intOf]<;>omega⟩
  ·have zra:Ext w wr:=zq0.trans hxr;go_wp2_with fail
   go_ret;exact⟨rfl,⟨zra.below⟩⟩
theorem LLLed.val(h:LLLed m):jG m:=⟨fun i hi j hj=>h.sym i j hi (by omega),zcU.2 h.pos⟩
theorem LLLed.detF(h:LLLed m):detF m<=10000:=by
 rw[zcT h.len1 (fun l hl=>by have:=Z5 h.pos (k:=l) (by omega);omega)];exact h.det
theorem LLLed.symO(h:LLLed m):Sym (zf (ent m)):=fun i j=>by
 by_cases hi:i<m.length
 ·by_cases hj:j<m.length
  ·unfold zf;rw[h.sym i j hi hj]
  ·unfold zf;rw[qp h.all (i:=i) (j:=j) (.inr (by omega)),qp h.all (i:=j) (j:=i) (.inl (by omega))]
 ·unfold zf;rw[qp h.all (i:=i) (j:=j) (.inl (by omega)),qp h.all (i:=j) (j:=i) (.inr (by omega))]
theorem zmT(h:MatA w0 A m)(hL:LLLed m)(h1:m.length=n)(h64:qw m)(hb:BdM 199 m)[hx:Ext w0 w]:
  Cq 52 #[.slice A n c] w (zz w (.bool true)):=by
 have h3:1<=n:=by rw[<-h1];exact hL.len1
 have h4:n<=8:=by rw[<-h1];exact hL.len8
 have hn:AllLen m n:=by rw[<-h1];exact hL.all
 have hp:Pos (zf (ent m)) n:=by rw[<-h1];exact hL.pos
 have HFI:Hid (∀W,Ext w W->Cq 111 #[.slice A n c] W (zaN W n m)):=Zh (fun W e=>by
  have:Ext w0 W:=hx.trans e;have:=zgn (w:=W) (c:=c) h n (by omega) (by omega) h3 (by omega) hn h64;rwa [h1]at this)
 have HVA:Hid (∀(W1 W:World)(A1:Option Addr)(c1:Nat),MatV W1 A1 m->Ext W1 W->Cq 112 #[.slice A1 n c1] W (fun e w'=>∃v:Int,e= .returned (.int .i64 v)/\(v=0↔true=true)/\0<=v/\v<=5/\Step W w')):=Zh (fun W1 W A1 c1 hM e=>zdw true (by simp[hL.val]) hM h1 h3 h4 hn hb (by omega) (by omega));have HSM:Hid (∀(W1 W:World)(A1:Option Addr)(c1:Nat),MatV W1 A1 m->Ext W1 W->Cq 113 #[.slice A1 n c1] W (zz W (.bool true))):=Zh (fun W1 W A1 c1 hM e=>by
  have:=zgA (w:=W) (c:=c1) hM h1 h3 h4 hn hb (by omega) (by omega);rwa [decide_eq_true hL.detF]at this)
 have HRE:Hid (∀(W1 W:World)(A1:Option Addr)(c1:Nat),MatV W1 A1 m->Ext W1 W->Cq 114 #[.slice A1 n c1] W (zz W (.bool true))):=Zh (fun W1 W A1 c1 hM e=>zmS hM h1 h3 h4 hn hb (by omega) (by omega) hp hL.symO (fun r hr=>hL.full r (by omega)) (fun p hp=>hL.lov p (by omega)));have HL:=Zh h1;clear hn hb h64 h1 hp hL;go_enter Tryz.func52,Tryz.ntmps52;go_wp2_with (first
  |(go_at_call 111;refine(HFI.out _ Zi).mono ?_;rintro e w1 ⟨g1,zsN,c1,rfl,hO1,-,-,hs1⟩;rw[HL.out];have HM:=Zh hO1.mat;clear hO1)
  |(go_at_call 112;refine(HVA.out _ _ _ _ HM.out Zi).mono ?_;rintro e w2 ⟨v,rfl,hv,hv0,hv5,hs2⟩;have hvz:v=0:=(hv.2 (by trivial));subst hvz;clear hv hv0 hv5)
  |(go_at_call 113;refine(HSM.out _ _ _ _ HM.out Zi).mono ?_;rintro e w3 ⟨rfl,hs3⟩)
  |(go_at_call 114;refine(HRE.out _ _ _ _ HM.out Zi).mono ?_;rintro e w4 ⟨rfl,hs4⟩))
 go_ret;exact⟨rfl,Step.of _ _⟩
end
section
open La
def zX(m:List (List Int))(b:Int)(k:Nat)(t:List Int):Int:=zK (zj m m.length) (zo m m.length) k (left (ent m) b (k+1) t) t
def Zb(m:List (List Int))(b:Int)(k:Nat)(t:List Int):Int:=ZN (zj m m.length) (zo m m.length) k (left (ent m) b (k+1) t) t
def QW(m:List (List Int))(b:Int)(k:Nat)(t:List Int):Nat:=(Zb m b k t-zX m b k t+1).toNat
theorem zmU(hr:RedOK m){b:Int}(hb:0<=b)(exact:Bool)(x:List Int):x∈(zP m b exact).map zW↔x.length=m.length/\0<zZ x/\zi m x<=b/\(exact=true->zi m x=b):=by
 rw[List.mem_map];constructor
 ·rintro⟨y,hy,rfl⟩;obtain⟨h1,h2,h3,h4⟩:=(jm hr hb exact y).1 hy;rw[zcI,zaG];exact⟨h1,zfY y (fun e=>Jv h2 (zc3 e)),h3,h4⟩
 ·rintro⟨h1,h2,h3,h4⟩;have hne:¬∀y∈x,y=0:=fun hz=>by
   have:zZ x=0:=by
    clear h1 h2 h3 h4;induction x with
    |nil=>rfl
    |cons a x ih=>
     have ha:=hz a (by simp);simp only[zZ,ha,if_true];exact ih (fun y hy=>hz y (by simp[hy]))
   omega
  rcases zc5 hne with h5|h5
  ·refine⟨x,(jm hr hb exact x).2 ⟨h1,h5,h3,h4⟩,?_⟩;unfold zW;rw[if_neg (by omega)]
  ·refine⟨x.map fun c=>-c,(jm hr hb exact _).2 ⟨by simpa using h1,h5,by rw[Jr];exact h3,by rw[Jr];exact h4⟩,?_⟩;unfold zW;rw[zc6,if_pos (by omega),Jw]
theorem zmV(n:Nat)(F:Nat->Int):zq (n+1) F=F 0+zq n fun i=>F (i+1):=by
 induction n with
 |zero=>simp[zq]
 |succ n ih=>rw[qr,ih,qr];omega
theorem JA(g:Nat->Int)(t:List Int):∀k,Zz g k t=zq t.length fun i=>g (k+i)*t.getD i 0:=by
 induction t with
 |nil=>intro k;simp[Zz,zq]
 |cons c t ih=>
  intro k;rw[Zz,ih (k+1),List.length_cons,zmV];congr 1
  refine Z0 fun i _=>?_
  rw[show k+1+i=k+(i+1) by omega];rfl
theorem zbJ(a:Int)(n:Nat)(F:Nat->Int):(zq n fun i=>a*F i)=a*zq n F:=by
 induction n with
 |zero=>simp[zq]
 |succ n ih=>rw[qr,ih,qr,Int.mul_add]
theorem zaV(n:Nat)(F G:Nat->Int):(zq n fun i=>F i+G i)=zq n F+zq n G:=by
 induction n with
 |zero=>simp[zq]
 |succ n ih=>rw[qr,ih,qr,qr];omega
def QX(m:List (List Int))(x y:List Int):Int:=zq m.length fun i=>x.getD i 0*zq m.length fun j=>ent m i j*y.getD j 0
theorem zbK(hn:AllLen m m.length)(x:List Int)(hx:x.length=m.length):QX m x x=zi m x:=by
 rw[JZ hn x hx];unfold QX qE jl;rw[JA,hx];refine Z0 fun i _=>?_
 simp only[Nat.zero_add];rw[JA,hx,Int.mul_comm];simp only[Nat.zero_add];rfl
theorem zmW(hr:RedOK m)(hk:k<m.length)(za:Int)(t:List Int):
  lE (ent m) k (0::t)*lE (ent m) k (0::t)-zu (ent m) (k+1)*(qE (ent m) k (0::t)-za*zu (ent m) k)=zu (ent m) k*left (ent m) za (k+1) t:=by
 have hs:Sym (zf (ent m)):=QA (ZZ hr.small) (fun i j hi hj=>((of_decide_eq_true hr.small).2.2.2 i hi j hj).1);have:=zbt hs (hr.pos.le (by omega:k+1<=m.length)) 0 t;unfold left;grind
theorem zmX(hr:RedOK m)(t:List Int):∀k,k+t.length=m.length->qE (ent m) k t=0->∀x∈t,x=0:=by
 induction t with
 |nil=>intro k _ _ x hx;cases hx
 |cons c t ih=>
  intro k hk h0;simp only[List.length_cons]at hk;have hs:Sym (zf (ent m)):=QA (ZZ hr.small) (fun i j hi hj=>((of_decide_eq_true hr.small).2.2.2 i hi j hj).1);have h1:=zbt hs (hr.pos.le (by omega:k+1<=m.length)) c t;rw[h0,Int.mul_zero]at h1;have p0:=Zy hr.pos (by omega:k<=m.length);have p1:=Zy hr.pos (by omega:k+1<=m.length);have q1:=zfX hr t (k+1) (by omega);have q2:=Int.mul_nonneg (Int.le_of_lt p0) q1
  have q3:=zcX (lE (ent m) k (c::t));have e1:zu (ent m) k*qE (ent m) (k+1) t=0:=by omega
  have e2:lE (ent m) k (c::t)*lE (ent m) k (c::t)=0:=by omega
  have e3:qE (ent m) (k+1) t=0:=by
   rcases Int.mul_eq_zero.1 e1 with h|h
   ·omega
   ·exact h
  have ht:=ih (k+1) (by omega) e3;have e4:lE (ent m) k (c::t)=0:=by
   rcases Int.mul_eq_zero.1 e2 with h|h<;>exact h
  have e5:lE (ent m) k (c::t)=E (ent m) k k k*c:=by
   unfold lE;rw[Zz,zfU _ _ ht,Int.add_zero]
  rw[e5]at e4;have p2:0<E (ent m) k k k:=p1;have hc:c=0:=by
   rcases Int.mul_eq_zero.1 e4 with h|h
   ·omega
   ·exact h
  intro x hx;rcases List.mem_cons.1 hx with rfl|hx
  ·exact hc
  ·exact ht x hx
theorem zmY(h:∀y∈x,y=0):zZ x=0:=by
 induction x with
 |nil=>rfl
 |cons a x ih=>
  have ha:=h a (by simp);simp only[zZ,ha,if_true];exact ih (fun y hy=>h y (by simp[hy]))
theorem zmZ(hr:RedOK m)(hx:x.length=m.length)(h:zZ x≠0):1<=zi m x:=by
 have h0:=J0 hr x hx;rcases Int.lt_or_le (zi m x) 1 with h1|h1
 ·have e:zi m x=0:=by omega
  rw[JZ (ZZ hr.small) x hx]at e;exact absurd (zmY (zmX hr x 0 (by omega) e)) h
 ·exact h1
theorem zm0(hr:RedOK m){b:Int}(hb:0<=b){e:Bool}{L:List (List Int)}(h:VecList m b e L):L.length=(zP m b e).length:=by
 have hp:L.Perm ((zP m b e).map zW):=(List.perm_ext_iff_of_nodup h.nodup (zf0 hr hb e)).2 fun x=>by rw[h.mem,zmU hr hb]
 simpa using hp.length_eq
end
section
open Go.RowKit
open La
theorem LLLed.fits(h:LLLed m):qw m:=(qT h.red).form.fits
theorem zm1{z:Int}(h1:-262144<=z)(h2:z<=262144):Bd 199 z:=by
 unfold Bd;have:z.natAbs<=262144:=by omega
 exact Nat.lt_of_le_of_lt this (by decide)
theorem LLLed.bd(h:LLLed m):BdM 199 m:=fun i j=>by
 by_cases hi:i<m.length
 ·by_cases hj:j<m.length
  ·have hr:m[i]? =some m[i]:=Ze hi;have hl:m[i].length=m.length:=h.all _ (List.getElem_mem hi);have he:ent m i j=m[i][j]'(by omega):=jQ hr (Ze (by omega));have:=(J1 h.red).ent m[i] (List.getElem_mem hi) (m[i][j]'(by omega)) (List.getElem_mem _);rw[he];exact zm1 this.1 this.2
  ·rw[qp h.all (.inr (by omega))];exact Bd.zero _
 ·rw[qp h.all (.inl (by omega))];exact Bd.zero _
def zdz(w:World)(zs:List Int)(e:Ending)(w':World):Prop:=∃B d,e= .returned (.slice B zs.length d)/\IntsV w' B zs/\zs.length<=d/\d<=9223372036854775807/\Step w w'
theorem zm2(h:Ints w0 A 2 .i64 x)(h1:x.length<=1000)(hb:∀a∈x,-9223372036854775808<=a/\a<=9223372036854775807)[hx:Ext w0 w]:
  Cq 175 #[.slice A x.length c] w (zdz w x):=by
 have h0:=h.ext hx;have HB:=Zh hb;obtain⟨n,hn⟩:=Xz x.length;unfold zdz;rw[<-hn]at h1|-
 have HL:=Zh hn;clear hb h hn;go_enter Tryz.func175,Tryz.ntmps175;go_wp2;go_loopw [3,5,8] (fun s3 _ i wr=>∃(q:Nat) (A1:Option Addr) (c1:Nat) (vs:List Value),q<=n/\i= .int .i64 q/\s3= .slice A1 q c1/\Hid (Own wr w.heap.size 178 2 A1 q c1 vs)/\Hid (VsOf wr vs (x.take q))/\Ext w wr) (fun _ _ i _=>n-(intOf i).toNat)
 case atStart=>exact⟨0,none,0,[],by omega,rfl,rfl,Zh (Own.nil _ _ _ _),Zh (fun i z hz=>by simp at hz),Zi⟩
 case round=>
  obtain⟨q,A1,c1,vs,hq,rfl,rfl,HO,HV,hxr⟩:=hrel;by_cases hlt:q<n
  ·have hlx:q<x.length:=by rw[<-HL.out];exact hlt
   obtain⟨b1,o1,a,rfl,ha,g1,g2⟩:=(h0.ext hxr).at_ hlx;have hab:=HB.out a (Zm ha);have hae:Hid (x.getD q 0=a):=Zh (by simp[List.getD,ha]);have HS:=Zh (fun W=>qI a hab.1 hab.2 W);clear ha;go_wp2_with fail
   refine(HS.out _).mono ?_;rintro e w5 ⟨g5,B5,k5,d5,rfl,hz5,hs5⟩;have hx5:Ext wr w5:=Zi;have HZ5:=Zh hz5;clear hz5;go_wp2_with (at_builtin;refine Zd _ rfl _ _ 126 rfl w.heap.size 178 (.agg #[.bool false,.slice none 0 0]) 2 32 Tryz.underlying126 Q9 rfl (by omega) (by omega) A1 q c1 vs rfl (HO.out.ext Zi) (some ⟨w5.heap.size,0,none⟩) 1 1 [.bool g5,.slice B5 k5 d5] rfl (Arr.new w5 178 #[.bool g5,.slice B5 k5 d5]) rfl (zdp _ _ _ _) (by omega) (by have:=(hxr.trans hx5).size;simp;omega) ?_;intro A6 c6 w6 zqd hg;have HO6:=Zh zqd;have HG6:=Zh hg;have hx6:Ext w w6:=hg.ext Zi Zr;clear zqd hg)
   refine⟨⟨q+1,A6,c6,vs++[.bool g5,.slice B5 k5 d5],by omega,by go_num,rfl,HO6,Zh ?_,hx6⟩,by simp[intOf]<;>omega⟩;have hxa:Ext w5 (w5.alloc (.cells #[.bool g5,.slice B5 k5 d5] 178)):=Zi;have hv5:VsOf (w5.alloc (.cells #[.bool g5,.slice B5 k5 d5] 178)) (vs++[.bool g5,.slice B5 k5 d5]) (x.take q++[x.getD q 0]):=VsOf.snoc (HV.out.map fun hz=>(hz.ext hx5).ext hxa) (by rw[HO.out.len,List.length_take,<-HL.out,Nat.min_eq_left hq]) (by rw[hae.out];exact HZ5.out.ext hxa)
   rw[zaR (by rw[<-HL.out];exact hlt)];exact hv5.grow HG6.out (by decide)
  ·obtain rfl:q=n:=by omega
   go_wp2;go_ret;have h2:=HV.out;rw[List.take_of_length_le (by rw[<-HL.out];exact Zr)]at h2;exact⟨A1,c1,rfl,h2.intsV (by rw[HO.out.len,<-HL.out]) HO.out.arr (Ext.refl _),HO.out.cap.1,HO.out.cap.2,hxr.toStep⟩
def qB(m:List (List Int))(k:Nat):List (List Int):=tab (fun i j=>E (ent m) k (k+i) (k+j)) (m.length-k) (m.length-k)
theorem zbL(m:List (List Int))(k:Nat):(qB m k).length=m.length-k:=zt _ _ _
theorem zm3(h:MatV w0 A m)(h1:m.length=n)(h4:n<=8)(hn:AllLen m n)(hb:BdM b m)(hb1:1<=b)(hbb:b<=1000000)(hk:k<n)(hp:∀l,l<k->E (ent m) l l l≠0)[hx:Ext w0 w]:
  Cq 244 #[.slice A n c,.int .i64 k] w (RetOwnI w (n-k) (qB m k)):=by
 have h0:=h.ext hx;obtain⟨r,hr⟩:=Xz (n-k);have HSE:Hid (∀(W1 W2 W:World)(A1 A2:Option Addr)(c1 c2 i j:Nat),i<r->j<r->Ints W1 A1 3 .i64 (zL (zv k (k+i)))->Ints W2 A2 3 .i64 (zL (zv k (k+j)))->Ext w W->Ext W1 W->Ext W2 W->Cq 207 #[.slice A n c,.slice A1 (k+1) c1,.slice A2 (k+1) c2] W (jB W (zI m (zv k (k+i)) (zv k (k+j))))):=Zh (fun W1 W2 W A1 A2 c1 c2 i j hi hj e1 e2 x0 x1 x2=>by
  have:=zdq (w:=W) (c:=c) (cR:=c1) (cC:=c2) h0 e1 e2 hn (by rw[Z8];omega) (by rw[Z8];omega) (by rw[h1];exact J8 (by omega) (by omega)) (J8 (by omega) (by omega));rw[h1,Z8,Z8]at this;exact this)
 have HDT:Hid (∀(W1 W:World)(A1:Option Addr)(c1 i j:Nat),i<r->j<r->MatV W1 A1 (zI m (zv k (k+i)) (zv k (k+j)))->Ext W1 W->Cq 131 #[.slice A1 (k+1) c1] W (zx W (E (ent m) k (k+i) (k+j)))):=Zh (fun W1 W A1 c1 i j hi hj hM e1=>by
  rw[<-JY hp (k+i) (k+j)];exact zds hM (by omega) hb hb1 hbb)
 have HSL:Hid (∀i j,(zI m (zv k i) (zv k j)).length=k+1):=Zh (fun i j=>by rw[J7,Z8]);have HFL:Hid (∀i,(zL (zv k i)).length=k+1):=Zh (fun i=>by rw[zdo,Z8]);have HFI:Hid (∀(W:World)(i:Nat),Cq 245 #[.int .i64 k,.int .i64 i] W (zdm W (zL (zv k i)))):=Zh (fun W i=>zgu k i (by omega));have HST:Hid (qB m k=tab (fun i j=>E (ent m) k (k+i) (k+j)) r r):=Zh (by unfold qB;rw[h1,hr]);rw[HST.out,<-hr]
 obtain⟨F,hF⟩:∃F:Nat->Nat->Int,F=fun i j=>E (ent m) k (k+i) (k+j):=⟨_,rfl⟩
 rw[<-hF];have hFij:∀i j,E (ent m) k (k+i) (k+j)=F i j:=fun i j=>by rw[hF]
 have zpW:Hid (∀(W1 W:World)(A1:Option Addr)(c1 i j:Nat),i<r->j<r->MatV W1 A1 (zI m (zv k (k+i)) (zv k (k+j)))->Ext W1 W->Cq 131 #[.slice A1 (k+1) c1] W (zx W (F i j))):=Zh (fun W1 W A1 c1 i j hi hj hM e1=>by
  have:=HDT.out W1 W A1 c1 i j hi hj hM e1;rwa [hFij]at this)
 have hnk:(n:Int)-(k:Int)=(r:Int):=by omega
 have hrw:IntKind.i64.wrap ((n:Int)-k)=(r:Int):=by rw[show (n:Int)-k=(r:Int) by omega];exact Iw
 clear hn hb h1 hp HDT HST hF hFij hr;go_enter Tryz.func244,Tryz.ntmps244;go_wp2_with (go_at_call 192;refine(zaO r r (by omega) (by omega)).mono ?_;rintro e w3 ⟨g,hs,cz,rfl,hO,zqt,zqG,hs2⟩;rw[zt]at zqt|-;have HO:=Zh hO;clear hO)
 have hx3:Ext w w3:=Zi;go_loopw [7,8,18,26] (fun _ _ i _ wr=>∃q:Nat,q<=r/\i= .int .i64 q/\Hid (OwnI wr w.heap.size g r hs (tab (qL F q 0) r r))/\Ext w wr) (fun _ _ i _ _=>r-(intOf i).toNat)
 case atStart=>exact⟨0,by omega,rfl,Zh (by rw[zdj];exact HO.out),Zi⟩
 case round=>
  obtain⟨i,hi,rfl,HO1,hxr⟩:=hrel;obtain⟨wo,rfl⟩:∃wo:World,wo=wr:=⟨_,rfl⟩;by_cases hlt:i<r
  ·obtain⟨b0,c0,hp0,d1,d2,d3,d4,d5,d6⟩:=HO1.out.hdr (i:=i) (by rw[zt];exact hlt);clear hp0;go_wp2_with fail
   go_loopw [8,26] (fun _ j wr=>∃q:Nat,q<=r/\j= .int .i64 q/\Hid (OwnI wr w.heap.size g r hs (tab (qL F i q) r r))/\Ext w wr) (fun _ j _=>r-(intOf j).toNat)
   case atStart=>exact⟨0,by omega,rfl,HO1,Zi⟩
   case round=>
    obtain⟨q,hq,rfl,HO2,hxq⟩:=hrel;by_cases zqj:q<r
    ·obtain⟨b1,c1,hp1,f1,f2,f3,f4,f5,f6⟩:=HO2.out.hdr (i:=i) (by rw[zt];exact hlt);have HP1:=Zh hp1;have HX:=Zh (fun W hh=>HO2.out.hdrX hp1 (by rw[zt];exact hlt) W hh);have hlo:=HO2.out.lo_row hp1;have hnw:New b1 w:=⟨hlo⟩;have HE:Hid (∀W,Ext wr W->∃s B k' d,W.cell? ⟨b1,q*2,none⟩=some (.bool s)/\W.cell? ⟨b1,q*2+1,none⟩=some (.slice B k' d)/\W.frozen? ⟨b1,q*2,none⟩=false/\W.frozen? ⟨b1,q*2+1,none⟩=false/\b1<W.heap.size):=Zh (fun W hh=>by
      obtain⟨s,B,k',d,a1,a2,-,a4,a5⟩:=(HO2.out.ext hh).entry (i:=i) HP1.out (by rw[zt];exact hlt) zqj;exact⟨s,B,k',d,a1,a2,a4,a5,Nat.lt_of_lt_of_le f5 hh.size⟩)
     have hki:IntKind.i64.wrap ((k:Int)+(i:Int))=((k+i:Nat):Int):=by rw[show (k:Int)+(i:Int)=((k+i:Nat):Int) by simp];exact Iw
     have hkq:IntKind.i64.wrap ((k:Int)+(q:Int))=((k+q:Nat):Int):=by rw[show (k:Int)+(q:Int)=((k+q:Nat):Int) by simp];exact Iw
     have HF1:=Zh (fun W=>HFI.out W (k+i));have HF2:=Zh (fun W=>HFI.out W (k+q));clear hp1;go_wp2_with fail
     go_region_held3 (fun w'=>w'.cell? ⟨g,i,none⟩=some (.slice (some ⟨b1,0,none⟩) r c1))
      (first|exact(HX.out _ Zi).1|exact(HX.out _ Zi).2 _ _ _ _)
      (first
       |(have hh:=hI6;clear hh;go_at_call 245;refine(HF2.out _).mono ?_;rintro e w7 ⟨A7,c7,rfl,hI7,-,-,hs7⟩;rw[HFL.out])
       |(go_at_call 245;refine(HF1.out _).mono ?_;rintro e w6 ⟨A6,c6,rfl,hI6,-,-,hs6⟩;rw[HFL.out])
       |(go_at_call 207;refine(HSE.out _ _ _ _ _ _ _ i q hlt zqj hI6 hI7 Zi Zi Zi).mono ?_;rintro e w8 ⟨A8,c8,rfl,hM8,-,-,hs8⟩;rw[HSL.out])
       |(go_at_call 131;refine(zpW.out _ _ _ _ i q hlt zqj hM8 Zi).mono ?_;rintro e w5 ⟨g5,B5,k5,n5,rfl,hz5,hs5⟩;obtain⟨s6,B6,k6,n6,u1,u2,u3,u4,u5⟩:=HE.out w5 Zi))
     go_wp2_with fail
     refine⟨⟨q+1,by omega,by go_num,Zh ?_,?_⟩,by simp[intOf]<;>omega⟩
     ·have hO5:=(HO2.out.ext (Zi:Ext wr w5)).set HP1.out (by rw[zt];exact hlt) zqj hz5;rw[zdg hlt zqj]at hO5;exact hO5
     ·exact((Zi:Ext w w5).setCell (p:=⟨b1,q*2,none⟩) hlo _).setCell (p:=⟨b1,q*2+1,none⟩) hlo _
    ·obtain rfl:q=r:=by omega
     go_wp2_with fail
     exact⟨⟨i+1,by omega,by go_num,Zh (by rw[<-zdh];exact HO2.out),hxq⟩,by simp[intOf]<;>omega⟩
  ·obtain rfl:i=r:=by omega
   go_wp2_with fail
   go_ret;have h:=HO1.out;rw[zdi]at h;exact⟨g,hs,cz,by rw[zt];rfl,h,by rw[zt];exact zqt,zqG,hxr.toStep⟩
def zbM(w:World)(m:List (List Int))(e:Ending)(w':World):Prop:=∃B d,e= .returned (.tuple #[.slice B m.length d,.bool true])/\StV w' B ((List.range m.length).map (qB m))/\m.length<=d/\d<=9223372036854775807/\Step w w'
def StHd(w:World)(m:List (List Int))(q:Nat)(vs:List Value):Prop:=vs.length=q/\∀i,i<q->∃B c,vs[i]? =some (.slice B (m.length-i) c)/\MatV w B (qB m i)/\m.length-i<=c/\c<=9223372036854775807
theorem StHd.map{w':World}(h:StHd w m q vs)(hk:∀{B:Option Addr}{M:List (List Int)},MatV w B M->MatV w' B M):StHd w' m q vs:=⟨h.1,fun i hi=>by
 obtain⟨B,c,a1,a2,a3⟩:=h.2 i hi;exact⟨B,c,a1,hk a2,a3⟩⟩
theorem StHd.snoc(h:StHd w m q vs){B:Option Addr}(hM:MatV w B (qB m q))(h1:m.length-q<=c)(h2:c<=9223372036854775807):StHd w m (q+1) (vs++[.slice B (m.length-q) c]):=by
 refine⟨by simp[h.1],fun i hi=>?_⟩;rcases Zl i q with hlt|hge
 ·obtain⟨B',c',a1,a2,a3⟩:=h.2 i hlt;exact⟨B',c',by rw[List.getElem?_append_left (by rw[h.1];exact hlt)];exact a1,a2,a3⟩
 ·obtain rfl:i=q:=by omega
  exact⟨B,c,by rw[List.getElem?_append_right (by rw[h.1];exact Zr),h.1,Nat.sub_self];rfl,hM,h1,h2⟩
theorem StHd.stV(h:StHd w m m.length vs)(ha:Arr w A 91 vs):StV w A ((List.range m.length).map (qB m)):=by
 refine⟨vs,by simp[h.1],ha,fun i M hM=>?_⟩;rw[List.getElem?_map]at hM
 cases hr:(List.range m.length)[i]? with
 |none=>rw[hr]at hM;cases hM
 |some j=>
  have hij:i=j/\i<m.length:=by
   obtain⟨h1,h2⟩:=Zg.1 hr;simp at h1 h2;exact⟨h2,h1⟩
  obtain⟨rfl,hi⟩:=hij;rw[hr]at hM;injection hM with hM
  subst hM;obtain⟨B,c,a1,a2,a3⟩:=h.2 i hi;exact⟨B,c,by rw[zbL];exact a1,a2,by rw[zbL];exact a3.1,a3.2⟩
set_option maxRecDepth 20000 in
theorem zm4(h:MatV w0 A m)(h1:m.length=n)(h3:1<=n)(h4:n<=8)(hn:AllLen m n)(hb:BdM b m)(hb1:1<=b)(hbb:b<=1000000)(hp:Pos (zf (ent m)) n)[hx:Ext w0 w]:
  Cq 160 #[.slice A n c] w (zbM w m):=by
 have h0:=h.ext hx;have HLE:=Zh (fun W(e1:Ext w W)=>zaS (w:=W) (c:=c) h0 h1 h3 h4 hn hb hb1 hbb);have HLL:Hid ((zr m).length=n):=Zh (by rw[Qp];exact h1);have HPX:Hid (∀i,i<n->0<(zr m).getD i 0):=Zh (fun i hi=>by
  rw[zcV (by rw[h1];exact hp) (by rw[h1];exact hi)];exact Z5 hp hi)
 have HBX:Hid (jZ (256*(b+1)) (zr m)):=Zh (zaa (by omega) hb1 hb);have HSG:Hid (∀(W:World)(k:Nat),k<n->Ext w W->Cq 244 #[.slice A n c,.int .i64 k] W (RetOwnI W (n-k) (qB m k))):=Zh (fun W k hk e=>zm3 h0 h1 h4 hn hb hb1 hbb hk (fun l hl=>by have:=Z5 hp (show l<n by omega);omega));have HSL:Hid (∀k,(qB m k).length=n-k):=Zh (fun k=>by rw[zbL,h1]);unfold zbM;have HM1:=Zh h1;rw[h1];have hbk:b<=1000000:=hbb
 have hw:IntKind.i64.wrap ((n:Int)-1)=((n-1:Nat):Int):=by rw[show (n:Int)-1=((n-1:Nat):Int) by omega];exact Iw
 clear hn hb hp h1 h;generalize zr m=ds at*
 go_enter Tryz.func160,Tryz.ntmps160;go_wp2_with (go_at_call 161;refine(HLE.out _ Zi).mono ?_;rintro e w1 ⟨BD,dD,rfl,hI1,hd1,hd2,hs1⟩;rw[HLL.out]at hd1|-;have HI:=Zh hI1;clear hI1)
 have zq0:Ext w w1:=Zi;go_loopw [7,23] (fun _ i wr=>∃q:Nat,q<=n-1/\i= .int .i64 q/\Ext w1 wr) (fun _ i _=>n-1-(intOf i).toNat)
 case atStart=>exact⟨0,by omega,rfl,Zi⟩
 case round=>
  obtain⟨q,hq,rfl,hxr⟩:=hrel;have zra:Ext w wr:=zq0.trans hxr;by_cases hlt:q<n-1
  ·obtain⟨bb,ob,g,B,k,d,rfl,y1,y2,hz,hb2⟩:=(HI.out.ext hxr).atD (i:=q) (by rw[HLL.out];omega);have zqk:=HPX.out q (by omega);have zqf:=hz.bd (HBX.out q) (by omega);generalize ds.getD q 0=z at*
   have hcz:(zk z 0==0)=false:=by rw[qC zqk];rfl
   have HS:Hid (∀W,Ext wr W->Cq 211 #[.agg #[.bool g,.slice B k d]] W (zz W (.int .i64 (zk z 0)))):=Zh (fun W e=>Qw hz (by omega));clear hz zqk;generalize zk z 0=cz at*
   go_wp2_with (go_at_call 211;refine(HS.out _ Zi).mono ?_;rintro e w2 ⟨rfl,hs2⟩)
   exact⟨⟨q+1,by omega,by go_num,Zi⟩,by simp[intOf]<;>omega⟩
  ·obtain rfl:q=n-1:=by omega
   clear hlt hq;go_wp2_with fail
   go_loopw [8,9,33] (fun s8 _ i wr'=>∃(q:Nat) (A1:Option Addr) (c1:Nat) (vs:List Value),q<=n/\i= .int .i64 q/\s8= .slice A1 q c1/\Hid (Own wr' w.heap.size 91 1 A1 q c1 vs)/\Hid (StHd wr' m q vs)/\Ext w wr') (fun _ _ i _=>n-(intOf i).toNat)
   case atStart=>exact⟨0,none,0,[],by omega,rfl,rfl,Zh (Own.nil _ _ _ _),Zh ⟨rfl,fun i hi=>absurd hi (by omega)⟩,zra⟩
   case round=>
    obtain⟨k,A1,c1,vs,hk,rfl,rfl,HO,HV,hxk⟩:=hrel;by_cases hlt:k<n
    ·have HS:Hid (∀W,Ext w W->Cq 244 #[.slice A n c,.int .i64 k] W (jB W (qB m k))):=Zh (fun W e=>(HSG.out W k hlt e).mono fun _ _ h=>h.mat);have hkl:=HSL.out k;go_wp2_with fail
     refine(HS.out _ Zi).mono ?_;rintro e w5 ⟨B5,c5,rfl,hM5,zr2,zsq,hs5⟩;rw[hkl]at zr2|-
     have hx5:Ext wr w5:=Zi;have HM5:=Zh hM5;clear hM5 hkl;go_wp2_with (at_builtin;refine Zd _ rfl _ _ 125 rfl w.heap.size 91 (.slice none 0 0) 1 24 Tryz.underlying125 zci rfl (by omega) (by omega) A1 k c1 vs rfl (HO.out.ext Zi) (some ⟨w5.heap.size,0,none⟩) 1 1 [.slice B5 (n-k) c5] rfl (Arr.new w5 91 #[.slice B5 (n-k) c5]) rfl (zgv _ _ _) (by omega) (by have:=(hxk.trans hx5).size;simp;omega) ?_;intro A6 c6 w6 zqd hg;have HO6:=Zh zqd;have HG6:=Zh hg;have hx6:Ext w w6:=hg.ext Zi Zr;clear zqd hg)
     refine⟨⟨k+1,A6,c6,vs++[.slice B5 (n-k) c5],by omega,by go_num,rfl,HO6,Zh ?_,hx6⟩,by simp[intOf]<;>omega⟩;have hxa:Ext w5 (w5.alloc (.cells #[.slice B5 (n-k) c5] 91)):=Zi;have h6:=StHd.snoc (m:=m) (HV.out.map fun h=>(h.ext hx5).ext hxa) (HM5.out.ext hxa) (c:=c5) (by rw[HM1.out];exact zr2) zsq;rw[HM1.out]at h6;exact h6.map fun h=>h.grow HG6.out (by decide) (by decide) (by decide)
    ·obtain rfl:k=n:=by omega
     go_wp2_with fail
     go_ret2
     have hst:=HV.out;rw[<-HM1.out]at hst;have zrt:=hst.stV HO.out.arr;rw[HM1.out]at zrt;exact⟨A1,c1,rfl,zrt,HO.out.cap.1,HO.out.cap.2,hxk.toStep⟩
end
section
open La
def QY(x:List Int)(s:Int)(y:List Int):List Int:=(List.range x.length).map fun i=>x.getD i 0+s*y.getD i 0
theorem zdA(x:List Int)(s:Int)(y:List Int):(QY x s y).length=x.length:=by simp[QY]
theorem zgP{s:Int}{y:List Int}{i:Nat}(hi:i<x.length):(QY x s y).getD i 0=x.getD i 0+s*y.getD i 0:=by
 simp[QY,List.getD,hi]
def zbN(m:List (List Int))(x y:List Int):Int:=zq m.length fun i=>x.getD i 0*(zq m.length fun j=>ent m i j*y.getD j 0)+y.getD i 0*(zq m.length fun j=>ent m i j*x.getD j 0)
theorem zgQ(hn:AllLen m m.length)(x y:List Int)(s:Int)(hx:x.length=m.length)(hy:y.length=m.length):zi m (QY x s y)=zi m x+s*zbN m x y+s*s*zi m y:=by
 rw[<-zbK hn x hx,<-zbK hn y hy,<-zbK hn (QY x s y) (by rw[zdA,hx])];unfold QX zbN;have h1:(zq m.length fun i=>(QY x s y).getD i 0*zq m.length fun j=>ent m i j*(QY x s y).getD j 0)=
   zq m.length fun i=>(x.getD i 0*(zq m.length fun j=>ent m i j*x.getD j 0))+(s*(x.getD i 0*(zq m.length fun j=>ent m i j*y.getD j 0)+y.getD i 0*(zq m.length fun j=>ent m i j*x.getD j 0))+s*s*(y.getD i 0*(zq m.length fun j=>ent m i j*y.getD j 0))):=by
  refine Z0 fun i hi=>?_
  have h2:(zq m.length fun j=>ent m i j*(QY x s y).getD j 0)=(zq m.length fun j=>ent m i j*x.getD j 0)+s*(zq m.length fun j=>ent m i j*y.getD j 0):=by
   rw[<-zbJ,<-zaV];refine Z0 fun j hj=>?_
   rw[zgP (by omega)];grind
  rw[h2,zgP (by omega)];generalize (zq m.length fun j=>ent m i j*x.getD j 0)=X;generalize (zq m.length fun j=>ent m i j*y.getD j 0)=Y;grind
 rw[h1,zaV,zaV,zbJ,zbJ];omega
end
end Go.Proofs.YtpijjipngkdhdaaGreat
