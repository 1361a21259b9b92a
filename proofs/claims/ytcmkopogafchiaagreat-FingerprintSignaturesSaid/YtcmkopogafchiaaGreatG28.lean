import Derived.Test.YtcmkopogafchiaaGreatG27
set_option maxHeartbeats 8000000
set_option linter.unusedVariables false
set_option linter.unusedSimpArgs false
namespace Go.Proofs.YtcmkopogafchiaaGreat
open Go.RowKit
set_option maxRecDepth 20000 in
theorem zqK{w:World}{dim kind za:Int}{NA:Option Addr}{l:List Int}{nc:Nat}{v3:Value}{te:TypeId}(hN:Ints w NA te .i8 l)(h8:I8 l)(hl:l.length<=9223372036854775807)(hd0:0<=dim)(hd1:dim<256)(hk0:0<=kind)(hk1:kind<256)(hb0:0<=za)(hb1:za<256):
  Cq 4 #[.agg #[.int .u8 dim,.int .u8 kind,.slice NA l.length nc,v3],.int .u8 za] w (zy w (.bool true)):=by
 have HAW:Hid (∀W,Cq 18 #[] W (zy W (.bool true))):=Zh (fun W=>zqo);have HG:Hid (∀W,Ext w W->Cq 13 #[.agg #[.int .u8 dim,.int .u8 kind,.slice NA l.length nc,v3],.int .u8 za] W (zeK W (1+(dim%4).toNat) za)):=Zh (fun W e=>zqu (hN.ext e) h8 hl hd0 hd1 hk0 hk1 hb0 hb1);have hn1:1<=1+(dim%4).toNat:=by omega
 have hn4:1+(dim%4).toNat<=4:=by omega
 clear hN h8;generalize 1+(dim%4).toNat=n at*
 generalize l.length=ln at*
 have e6:=Int.emod_nonneg za (show 11-2*(n:Int)≠0 by omega);have e7:=Int.emod_lt_of_pos za (show 0<11-2*(n:Int) by omega);unfold zeK at HG;obtain⟨b,hb⟩:∃b:Nat,za%(11-2*(n:Int))=b:=⟨(za%(11-2*(n:Int))).toNat,by omega⟩;rw[hb]at HG e6 e7;have zua:b+2*n<=12:=by omega
 have HFS:Hid (∀(m:List (List Int))(W0 W:World)A c,LLLed m->m.length=n->Mat64 W0 A m->n<=c->c<=9223372036854775807->Ext W0 W->Cq 19 #[.slice A n c,.int .i64 b,.int .i64 20000] W (J2 W m (LstOf m b))):=Zh (fun m W0 W A c hL hmn hM h1 h2 e=>zqC hM h1 h2 hL hmn hn4 zua);have HRS:Hid (∀(m:List (List Int))(W0 W:World)A c,LLLed m->m.length=n->Mat64 W0 A m->Ext W0 W->Cq 20 #[.slice A n c,.int .i64 b,.int .i64 20000] W (J2 W m (LstOf m b))):=Zh (fun m W0 W A c hL hmn hM e=>zqJ hM hL hmn hn4 zua)
 unfold J2 at HFS HRS;clear hb e6 e7 zua;go_enter Tryz.func4,Tryz.ntmps4;go_upto_region 2 with (go_at_call 13;refine(HG.out _ Zi).mono ?_;rintro e w1 ⟨g,m,A1,c1,rfl,-,hLL,zrT,-,hM1,hc1,hc2,hs1⟩;have HM:=Zh hM1;have HR:=Zh (And.intro hLL zrT);clear hM1 hLL zrT)
 go_upto_region 4 with (first
  |(go_at_call 19;refine(HFS.out m w1 _ _ _ HR.out.1 HR.out.2 HM.out hc1 hc2 Zi).mono ?_;rintro e w3 ⟨B3,k3,C3,L3,rfl,hP3,hA3,ztQ,hk3,zue,hs3⟩;have H3:=Zh (And.intro hP3 (And.intro hA3 (And.intro ztQ (And.intro hk3 zue))));clear hP3 hA3 ztQ hk3 zue)
  |(go_at_call 20;refine(HRS.out m w1 _ _ _ HR.out.1 HR.out.2 HM.out Zi).mono ?_;rintro e w4 ⟨B4,k4,C4,L4,rfl,hP4,hA4,ztR,hk4,zuf,hs4⟩;have H4:=Zh (And.intro hP4 (And.intro hA4 (And.intro ztR (And.intro hk4 zuf))));clear hP4 hA4 ztR hk4 zuf))
 obtain⟨hP3,hA3,ztQ,hk3,zue⟩:=H3.out;obtain⟨hP4,hA4,ztR,hk4,zuf⟩:=H4.out;obtain rfl:=VecList.unique hP3.1 hP4.1;have hkk:C3.map CE.key=C4.map CE.key:=hk3.trans hk4.symm;have zrT:C4.length=C3.length:=by have:=congrArg List.length hkk;simpa using this.symm
 have zvW:Ext w3 w4:=Zi;have HSC:Hid (∀W,Ext w4 W->Cq 21 #[.slice B3 C3.length k3,.slice B4 C3.length k4] W (zy W (.bool true))):=Zh (fun W e=>zqA (w0:=w4) (w:=W) (hA3.ext zvW) (fun x hx=>(ztQ x hx).kp (Kp.of_ext zvW)) hA4 ztR hkk rfl (by have:=hP3.2;omega));rw[zrT];generalize C3.length=q at*
 clear hP3 hA3 ztQ hk3 zue hP4 hA4 ztR hk4 zuf hkk zrT H3 H4 HFS HRS HG;go_wp2_with (first
  |(go_at_call 21;refine(HSC.out _ Zi).mono ?_;rintro e w5 ⟨rfl,hs5⟩)
  |(go_at_call 18;refine(HAW.out _).mono ?_;rintro e w6 ⟨rfl,hs6⟩))
 go_ret;exact⟨rfl,Step.of _ _⟩
end Go.Proofs.YtcmkopogafchiaaGreat
