import Derived.Test.YtcmkopogafchiaaGreatI26
set_option maxHeartbeats 8000000
set_option linter.unusedVariables false
set_option linter.unusedSimpArgs false
namespace Go.Proofs.YtcmkopogafchiaaGreat
variable {dim kind za:Int} {L a m:List (List Int)} {l x:List Int} {b c n nc:Nat} {A NA:Option Addr} {te:TypeId} {w w0:World}
section
open Go.RowKit
theorem zjt{C:List CE}(h:Arr w A 64 (ZL C)){j:Nat}{z:CE}(hz:C[j]? =some z):∃b o,A=some ⟨b,o,none⟩/\w.cell? ⟨b,o+j*3,none⟩=some (.int .i64 z.n)/\w.cell? ⟨b,o+j*3+1,none⟩=some (.slice z.A z.p.length z.c)/\w.cell? ⟨b,o+j*3+2,none⟩=some (.int .i64 z.N)/\b<w.heap.size:=by
 obtain⟨f0,f1,f2⟩:=zbG C j z hz;obtain⟨b,o,cs,fr,rfl,hb,hc⟩:=h (by have:=(Zg.1 f0).1;omega);have key:∀i u,(ZL C)[i]? =some u->w.cell? ⟨b,o+i,none⟩=some u:=fun i u hu=>by simpa[World.cell?,hb] using hc i u hu
 exact⟨b,o,rfl,key _ _ f0,by rw[Nat.add_assoc];exact key _ _ f1,by rw[Nat.add_assoc];exact key _ _ f2,zD hb⟩
set_option maxRecDepth 20000 in
theorem zrg{B:Option Addr}{C D:List CE}{d q:Nat}(hA:Arr w0 A 64 (ZL C))(hC:∀x∈C,x.ok w0)(hB:Arr w0 B 64 (ZL D))(hD:∀x∈D,x.ok w0)(he:C.map CE.key=D.map CE.key)(hl:C.length=q)(hq:q<=1000000)[hx:Ext w0 w]:
  Cq 21 #[.slice A q c,.slice B q d] w (zF w (.bool true)):=by
 have HA:=Zh hA;have HB:=Zh hB;have HC:=Zh hC;have HD:=Zh hD;have HE:=Zh he;have HL:=Zh hl;clear hA hB hC hD he hl;go_enter Tryz.func21,Tryz.ntmps21;go_wp2_with fail
 go_loopw [5,13] (fun _ i wr=>∃k:Nat,k<=q/\i= .int .i64 k/\Ext w wr) (fun _ i _=>q-(intOf i).toNat)
 case atStart=>exact⟨0,by omega,rfl,Zi⟩
 case round=>
  obtain⟨k,hk,rfl,hxr⟩:=hrel;have ztf:Ext w0 wr:=hx.trans hxr;by_cases hlt:k<q
  ·obtain⟨z,hz⟩:∃z,C[k]? =some z:=⟨_,Ze (by rw[HL.out];exact hlt)⟩;have hdl:D.length=q:=by have:=congrArg List.length HE.out;rw[List.length_map,List.length_map,HL.out]at this;exact this.symm
   obtain⟨y,hy⟩:∃y,D[k]? =some y:=⟨_,Ze (by rw[hdl];exact hlt)⟩;have hzy:z.key=y.key:=by
    have h1:(C.map CE.key)[k]? =some z.key:=by rw[List.getElem?_map,hz];rfl
    rw[HE.out,List.getElem?_map,hy]at h1;injection h1 with h1
    exact h1.symm
   obtain⟨b1,o1,rfl,e1,e2,e3,e4⟩:=zjt (HA.out.ext ztf) hz;obtain⟨b2,o2,rfl,f1,f2,f3,f4⟩:=zjt (HB.out.ext ztf) hy;have oB1:Old b1 wr:=⟨e4⟩;have oB2:Old b2 wr:=⟨f4⟩;have ztP:=HC.out z (Zm hz);have ztM:=HD.out y (Zm hy);clear hz hy hdl;obtain⟨zn,zA,zc,zp,zN⟩:=z;obtain⟨yn,yA,yc,yp,yN⟩:=y;simp only[CE.key,Prod.mk.injEq]at hzy;obtain⟨⟨rfl,rfl⟩,rfl⟩:=hzy;have HSP:Hid (∀W,Ext w0 W->Cq 17 #[.slice zA zp.length zc,.slice yA zp.length yc] W (zF W (.bool true))):=Zh (fun W e=>by
    have h:=zi2 (w0:=w0) (w:=W) (c:=zc) (d:=yc) ztP.ct ztM.ct ztP.2 ztM.2;rw[decide_eq_true rfl]at h;exact h)
   simp only at e1 e2 e3 f1 f2 f3;clear ztP ztM e4 f4;generalize zp.length=zl at*
   have d1:(zn !=zn)=false:=by simp
   have d2:(zN !=zN)=false:=by simp
   go_wp2_with fail
   go_region_held3 (fun w'=>w'.cell? ⟨b1,o1+k*3,none⟩=some (.int .i64 zn)/\w'.cell? ⟨b1,o1+k*3+1,none⟩=some (.slice zA zl zc)/\w'.cell? ⟨b1,o1+k*3+2,none⟩=some (.int .i64 zN)/\w'.cell? ⟨b2,o2+k*3,none⟩=some (.int .i64 zn)/\w'.cell? ⟨b2,o2+k*3+1,none⟩=some (.slice yA zl yc)/\w'.cell? ⟨b2,o2+k*3+2,none⟩=some (.int .i64 zN))
    ((simp only[zh wr];exact⟨e1,e2,e3,f1,f2,f3⟩))
    ((go_at_call 17;refine(HSP.out _ (ztf.trans Zi)).mono ?_;rintro e w6 ⟨rfl,hs6⟩))
   all_goals
    go_wp2_with fail
    exact⟨⟨k+1,by omega,by go_num,hxr.trans Zi⟩,by simp[intOf];omega⟩
  ·obtain rfl:k=q:=by omega
   go_wp2_with fail
   go_ret;exact⟨rfl,hxr.toStep⟩
end
section
open Go.RowKit
open La
def LstOf(m:List (List Int))(b:Nat)(L:List (List Int)):Prop:=VecList m b false L/\L.length<=8000
theorem LstOf.prf(h:LstOf m b L)(hL:LLLed m)(hb:(b:Int)<1073741824):PrfL m L/\∀x∈L,zaR m L x:=by
 have hO:=Qi hL.red;exact⟨zrc hO (by omega) h.1 (by have:=h.2;omega),fun x hx=>zrd hO (by omega) h.1 (h.1.zd x hx) (by have:=((h.1.mem x).1 hx).2.2.1;omega)⟩
theorem zrh(hM:Mat64 w0 A m)(hc:n<=c)(hc2:c<=9223372036854775807)(hL:LLLed m)(hmn:m.length=n)(h4:n<=4)(hb:b+2*n<=12)[hx:Ext w0 w]:
  Cq 60 #[.slice A n c,.int .i64 b,.int .i64 20000] w (zbD w (LstOf m b)):=by
 subst hmn;have zvo:=zcv hL.red (b:=b) h4 (.inl hb);exact(zop (w:=w) (c:=c) (b:=b) (budget:=20000) hM hc hc2 hL.red h4 (.inl hb) (by omega) (by omega)).mono fun e w'⟨B,d,L,he,hM,h1,h2,hv,hl,hs⟩=>⟨B,d,L,_,he,hM,h1,h2,⟨hv,hl⟩,hs⟩
theorem zri(hM:Mat64 w0 A m)(hc:n<=c)(hc2:c<=9223372036854775807)(hL:LLLed m)(hmn:m.length=n)(h4:n<=4)(hb:b+2*n<=12)[hx:Ext w0 w]:
  Cq 19 #[.slice A n c,.int .i64 b,.int .i64 20000] w (ze5 w m (LstOf m b)):=by
 subst hmn;have hR:=zdX hL.red;refine(zjn (w0:=w0) (w:=w) (c:=c) (b:=b) (u:=20000) (P:=LstOf m b) hM.a (by omega) (fun r hr=>Nat.le_of_eq (hR.all r hr)) (fun W e=>zrh hM hc hc2 hL rfl h4 hb) (fun L h=>h.prf hL (by omega))).mono ?_;rintro e w' ⟨A1,c1,L,C,he,hP,hO,hok,hct,hs⟩;have hk:=hct.unique JF (Jf JF (L.map (Zz m L)));have hl:=zjs m L L.length;unfold jZ at hl;rw[List.take_length,<-hk,List.length_map]at hl
 exact⟨A1,c1,C,L,he,hP,hO.arr,hok,hk,hl,hs⟩
theorem zrj(hM:Mat64 w0 A m)(hL:LLLed m)(hmn:m.length=n)(h4:n<=4)(hb:b+2*n<=12)[hx:Ext w0 w]:
  Cq 25 #[.slice A n c,.int .i64 b,.int .i64 20000] w (fun e w'=>∃B d,e= .returned (.tuple #[B,d,.int .i64 0])/\Step w w'):=by
 have zvo:=zcv hL.red (b:=b) (by omega) (.inl (by omega));have hst:=(zbk hL.red (b:=b) (by omega)).1;have zs4:=hst.last_le (by have:=hL.len1;omega);refine(zp3 (w:=w) (c:=c) (budget:=20000) hM.a hL hmn (by omega) (by omega) (by omega) (by omega) (fun _=>by omega)).mono ?_;rintro e w' (⟨-,B,d,L,he,-,-,-,-,hs⟩|⟨zs5,-⟩)
 ·exact⟨_,_,he,hs⟩
 ·omega
def ze6(w:World)(n:Nat)(l:List Int)(kk za:Int)(e:Ending)(w':World):Prop:=∃a hh A c,e= .returned (.tuple #[.slice A n c,.int .i64 (za%(11-2*n))])/\GrOf l n kk a/\LLLed hh/\hh.length=n/\Bs n (ent a) (ent hh)/\Mat64 w' A hh/\n<=c/\c<=9223372036854775807/\Step w w'
theorem zrk{v3:Value}(hN:Ints w NA te .i8 l)(h8:I8 l)(hl:l.length<=9223372036854775807)(hd0:0<=dim)(hd1:dim<256)(hk0:0<=kind)(hk1:kind<256)(hb0:0<=za)(hb1:za<256):
  Cq 13 #[.agg #[.int .u8 dim,.int .u8 kind,.slice NA l.length nc,v3],.int .u8 za] w (ze6 w (1+(dim%4).toNat) l (kind%8) za):=by
 have HG:Hid (∀W,Ext w W->Cq 28 #[.agg #[.int .u8 dim,.int .u8 kind,.slice NA l.length nc,v3],.int .i64 4] W (zaP W (1+(dim%4).toNat) l (kind%8))):=Zh (fun W e=>zpY (most:=4) (hN.ext e) h8 hl hd0 hd1 hk0 hk1 (by omega) (by omega));have hn4:1+(dim%4).toNat<=4:=by omega
 clear hN h8;generalize 1+(dim%4).toNat=n at*
 generalize kind%8=kk at*
 have e1:IntKind.i64.wrap (2*(n:Int))=2*(n:Int):=Iw;have e2:IntKind.i64.wrap (11-2*(n:Int))=11-2*(n:Int):=Iw;have e3:((11-2*(n:Int))==0)=false:=by simp;omega
 have e4:za.tmod (11-2*(n:Int))=za%(11-2*(n:Int)):=Int.tmod_eq_emod_of_nonneg hb0;have e5:IntKind.i64.wrap za=za:=Iw;have e6:=Int.emod_nonneg za (show 11-2*(n:Int)≠0 by omega);have e7:=Int.emod_lt_of_pos za (show 0<11-2*(n:Int) by omega);have e8:IntKind.i64.wrap (za%(11-2*(n:Int)))=za%(11-2*(n:Int)):=Iw;unfold zaP at HG;go_enter Tryz.func13,Tryz.ntmps13
 go_wp2_with (go_at_call 28;refine(HG.out _ Zi).mono ?_;rintro e w1 ⟨a,hh,A1,c1,rfl,hGr,hLL,zsB,hBs,hM3,hc1,hc2,hs3⟩)
 have HM:=Zh hM3;clear hM3;go_quiet (fail)
 go_wp2_with fail
 go_ret2
 exact⟨a,hh,A1,c1,rfl,hGr,hLL,zsB,hBs,HM.out.ext Zi,hc1,hc2,Step.of _ _⟩
end
section
open La
theorem zrl{b:List (List Int)}{u v:(Nat->Int)->Nat->Int}(ha:AllLen a a.length)(hb:AllLen b b.length)(hl:a.length=b.length)(h:Bij a.length (ent a) (ent b) u v){y:List Int}(hx:x.length=a.length)(hy:y.length=a.length):zC (zV b y) x=zC (zV a (Zy u y)) (Zy u x):=by
 rw[<-ze3 hb (by omega) (by omega),<-ze3 ha (by rw[ju,hx]) (by rw[ju,hy])];have h1:=h.bil (fun k=>x.getD k 0) fun k=>y.getD k 0
 rw[<-zac h hx,<-zac h hy]at h1;have e:∀(m:List (List Int))(x y:List Int),QF m x y=bz m.length (ent m) (fun k=>x.getD k 0) (fun k=>y.getD k 0):=fun _ _ _=>rfl
 rw[e,e,<-hl];exact h1
theorem zrm(m:List (List Int))(x y:List Int):ZP m (x.map fun c=>-c) y=ZP m x y:=by
 unfold ZP;rw[zbc,Int.natAbs_neg]
theorem zrn(m:List (List Int))(x y:List Int):ZP m (zH x) y=ZP m x y:=by
 unfold zH;split
 ·exact zrm m x y
 ·rfl
section
variable {a b:List (List Int)} {u v:(Nat->Int)->Nat->Int} (ha:AllLen a a.length) (hb:AllLen b b.length) (hl:a.length=b.length) (h:Bij a.length (ent a) (ent b) u v) {q:Int} {L T:List (List Int)} (hL:VecList a q false L) (hT:VecList b q false T)
include ha hb hl h hL hT
theorem zro(hx:x∈T):Zz b T x=Zz a L (zH (Zy u x)):=by
 have hxl:x.length=a.length:=by rw[((hT.mem x).1 hx).1,hl]
 have hp:=ziF ha hb hl h hL hT;unfold Zz;rw[JZ,zcI ha hb hl h hxl];congr 1
 unfold zL;have e:T.map (ZP b x)=(T.map fun y=>zH (Zy u y)).map (ZP a (zH (Zy u x))):=by
  rw[List.map_map];refine List.map_congr_left fun y hy=>?_
  have hyl:y.length=a.length:=by rw[((hT.mem y).1 hy).1,hl]
  show ZP b x y=ZP a (zH (Zy u x)) (zH (Zy u y));rw[zp7,zrn];unfold ZP;rw[zcI ha hb hl h hyl,zrl ha hb hl h hxl hyl]
 rw[e];exact ziT zbz (hp.map _)
theorem zrp:ZZ qL (T.map (Zz b T))=ZZ qL (L.map (Zz a L)):=by
 have hp:=ziF ha hb hl h hL hT;have e:T.map (Zz b T)=(T.map fun y=>zH (Zy u y)).map (Zz a L):=by
  rw[List.map_map];exact List.map_congr_left fun y hy=>zro ha hb hl h hL hT hy
 rw[e];exact ziT JF (hp.map _)
end
theorem zrq{g:List (List Int)}{b:List (List Int)}(h1:Bs n (ent g) (ent a))(h2:Bs n (ent g) (ent b))(la:a.length=n)(lb:b.length=n)(ha:AllLen a n)(hb:AllLen b n){q:Int}{T:List (List Int)}(hL:VecList a q false L)(hT:VecList b q false T):ZZ qL (T.map (Zz b T))=ZZ qL (L.map (Zz a L)):=by
 obtain⟨u1,v1,b1⟩:=h1.bij;obtain⟨u2,v2,b2⟩:=h2.bij;subst la;exact zrp ha (by rw[lb];exact hb) lb.symm (b1.symm.trans b2) hL hT
end
section
open Go.RowKit
open La
set_option maxRecDepth 20000 in
theorem zrr{BA:Option Addr}{bl:List Int}{bc:Nat}{tb:TypeId}(hN:Ints w NA te .i8 l)(h8:I8 l)(hl:l.length<=9223372036854775807)(hB:Ints w BA tb .i8 bl)(hb8:I8 bl)(hbl:bl.length<=9223372036854775807)(hd0:0<=dim)(hd1:dim<256)(hk0:0<=kind)(hk1:kind<256)(hb0:0<=za)(hb1:za<256):
  Cq 6 #[.agg #[.int .u8 dim,.int .u8 kind,.slice NA l.length nc,.slice BA bl.length bc],.int .u8 za] w (zF w (.bool true)):=by
 have HAW:Hid (∀W,Cq 18 #[] W (zF W (.bool true))):=Zh (fun W=>zq8);have HG:Hid (∀W,Ext w W->Cq 13 #[.agg #[.int .u8 dim,.int .u8 kind,.slice NA l.length nc,.slice BA bl.length bc],.int .u8 za] W (ze6 W (1+(dim%4).toNat) l (kind%8) za)):=Zh (fun W e=>zrk (hN.ext e) h8 hl hd0 hd1 hk0 hk1 hb0 hb1);have HO:Hid (∀W,Ext w W->Cq 24 #[.agg #[.int .u8 dim,.int .u8 kind,.slice NA l.length nc,.slice BA bl.length bc],.int .i64 4] W (zaP W (1+(dim%4).toNat) l (kind%8))):=Zh (fun W e=>zp0 (most:=4) (hN.ext e) h8 hl (hB.ext e) hb8 hbl hd0 hd1 hk0 hk1 (by omega) (by omega))
 have hn1:1<=1+(dim%4).toNat:=by omega
 have hn4:1+(dim%4).toNat<=4:=by omega
 clear hN h8 hB hb8;generalize 1+(dim%4).toNat=n at*
 generalize kind%8=kk at*
 have e6:=Int.emod_nonneg za (show 11-2*(n:Int)≠0 by omega);have e7:=Int.emod_lt_of_pos za (show 0<11-2*(n:Int) by omega);unfold ze6 at HG;unfold zaP at HO;obtain⟨b,hb⟩:∃b:Nat,za%(11-2*(n:Int))=b:=⟨(za%(11-2*(n:Int))).toNat,by omega⟩;rw[hb]at HG e6 e7;have zuk:b+2*n<=12:=by omega
 have HFS:Hid (∀(m:List (List Int))(W0 W:World)A c,LLLed m->m.length=n->Mat64 W0 A m->n<=c->c<=9223372036854775807->Ext W0 W->Cq 19 #[.slice A n c,.int .i64 b,.int .i64 20000] W (ze5 W m (LstOf m b))):=Zh (fun m W0 W A c hL hmn hM h1 h2 e=>zri hM h1 h2 hL hmn hn4 zuk);have HVE:Hid (∀(m:List (List Int))(W0 W:World)A c,LLLed m->m.length=n->Mat64 W0 A m->Ext W0 W->Cq 25 #[.slice A n c,.int .i64 b,.int .i64 20000] W (fun e w'=>∃B d,e= .returned (.tuple #[B,d,.int .i64 0])/\Step W w')):=Zh (fun m W0 W A c hL hmn hM e=>zrj hM hL hmn hn4 zuk)
 have HIT:Hid (∀(m:List (List Int))(W0 W:World)A c,LLLed m->m.length=n->Mat64 W0 A m->Ext W0 W->Cq 22 #[.slice A n c,.int .i64 b] W (ze4 W m b)):=Zh (fun m W0 W A c hL hmn hM e=>zre hM hL hmn hn4 zuk);unfold ze5 at HFS;unfold ze4 at HIT;clear hb e6 e7 zuk hb0 hb1 hd0 hd1 hk0 hk1;go_enter Tryz.func6,Tryz.ntmps6;go_upto_region 3 with (first
  |(go_at_call 13;refine(HG.out _ Zi).mono ?_;rintro e w1 ⟨g,m,A1,c1,rfl,hGr,hLL,zsB,hBs,hM1,hc1,hc2,hs1⟩;have HM:=Zh hM1;have HR:=Zh (And.intro hLL zsB);have HB:=Zh (And.intro hGr hBs);clear hM1 hLL zsB hGr hBs)
  |(go_at_call 19;refine(HFS.out m w1 _ _ _ HR.out.1 HR.out.2 HM.out hc1 hc2 Zi).mono ?_;rintro e w3 ⟨B3,k3,C3,L3,rfl,hP3,hA3,zut,hk3,zuT,hs3⟩;have H3:=Zh (And.intro hP3 (And.intro hA3 (And.intro zut (And.intro hk3 zuT))));clear hP3 hA3 zut hk3 zuT))
 go_upto_region 5 with (first
  |(go_at_call 24;refine(HO.out _ Zi).mono ?_;rintro e w4 ⟨g2,m2,A4,c4,rfl,hGr2,hLL2,zwy,hBs2,hM4,hc5,hc6,hs4⟩;have HM2:=Zh hM4;have HR2:=Zh (And.intro hLL2 zwy);have HB2:=Zh (And.intro hGr2 hBs2);clear hM4 hLL2 zwy hGr2 hBs2)
  |(go_at_call 19;refine(HFS.out m2 w4 _ _ _ HR2.out.1 HR2.out.2 HM2.out hc5 hc6 Zi).mono ?_;rintro e w5 ⟨B5,k5,C5,L5,rfl,hP5,hA5,zuu,hk5,zuU,hs5⟩;have H5:=Zh (And.intro hP5 (And.intro hA5 (And.intro zuu (And.intro hk5 zuU))));clear hP5 hA5 zuu hk5 zuU)
  |(go_at_call 25;refine(HVE.out m w1 _ _ _ HR.out.1 HR.out.2 HM.out Zi).mono ?_;rintro e w6 ⟨B6,d6,rfl,hs6⟩))
 obtain⟨hP3,hA3,zut,hk3,zuT⟩:=H3.out;obtain⟨hP5,hA5,zuu,hk5,zuU⟩:=H5.out;obtain rfl:=GrOf.uniq HB.out.1 HB2.out.1;have hkk:C3.map CE.key=C5.map CE.key:=by
  rw[hk3,hk5];exact(zrq HB.out.2 HB2.out.2 HR.out.2 HR2.out.2 (by have:=HR.out.1.all;rwa [HR.out.2]at this) (by have:=HR2.out.1.all;rwa [HR2.out.2]at this) hP3.1 hP5.1).symm
 have zsB:C5.length=C3.length:=by have:=congrArg List.length hkk;simpa using this.symm
 have zwz:Ext w3 w6:=Zi;have zwA:Ext w5 w6:=Zi;have HSC:Hid (∀W,Ext w6 W->Cq 21 #[.slice B3 C3.length k3,.slice B5 C3.length k5] W (zF W (.bool true))):=Zh (fun W e=>zrg (w0:=w6) (w:=W) (hA3.ext zwz) (fun x hx=>(zut x hx).kp (Kp.of_ext zwz)) (hA5.ext zwA) (fun x hx=>(zuu x hx).kp (Kp.of_ext zwA)) hkk rfl (by have:=hP3.2;omega));have hqN:0<C3.length↔0<L3.length:=by
  constructor
  ·intro h;omega
  ·intro h;have hne:C3.map CE.key≠[]:=by
    rw[hk3];exact zjl JF (fun hh=>by rw[List.map_eq_nil_iff]at hh;rw[hh]at h;simp at h)
   exact List.length_pos_iff.2 (fun hh=>hne (by rw[hh];rfl))
 have HV3:=Zh hP3.1;rw[zsB];generalize C3.length=q at*
 clear hP3 hA3 zut hk3 zuT hP5 hA5 zuu hk5 zuU hkk zsB H3 H5 HFS HVE HG HO HB HB2 HR2 HM2;by_cases hq:0<q
 ·have hNp:=hqN.1 hq;have d1:decide ((q:Int)>0)=true:=by simp;omega
  have d2:decide ((L3.length:Int)>0)=true:=by simp;omega
  clear hqN;go_wp2_with (first
   |(go_at_call 21;refine(HSC.out _ Zi).mono ?_;rintro e w7 ⟨rfl,hs7⟩)
   |(go_at_call 22;refine(HIT.out m w1 _ _ _ HR.out.1 HR.out.2 HM.out Zi).mono ?_;rintro e w8 ⟨IA,ic,vs,L8,rfl,-,-,hL8,-,hs8⟩;obtain rfl:=VecList.unique HV3.out hL8;clear hL8)
   |(go_at_call 18;refine(HAW.out _).mono ?_;rintro e w9 ⟨rfl,hs9⟩))
  go_ret;exact⟨rfl,Step.of _ _⟩
 ·have hNz:¬0<L3.length:=fun h=>hq (hqN.2 h)
  have d1:decide ((q:Int)>0)=false:=by simp;omega
  have d2:decide ((L3.length:Int)>0)=false:=decide_eq_false (by omega);clear hqN;go_wp2_with (first
   |(go_at_call 21;refine(HSC.out _ Zi).mono ?_;rintro e w7 ⟨rfl,hs7⟩)
   |(go_at_call 22;refine(HIT.out m w1 _ _ _ HR.out.1 HR.out.2 HM.out Zi).mono ?_;rintro e w8 ⟨IA,ic,vs,L8,rfl,-,-,hL8,-,hs8⟩;obtain rfl:=VecList.unique HV3.out hL8;clear hL8)
   |(go_at_call 18;refine(HAW.out _).mono ?_;rintro e w9 ⟨rfl,hs9⟩))
  go_ret;exact⟨rfl,Step.of _ _⟩
end
end Go.Proofs.YtcmkopogafchiaaGreat
