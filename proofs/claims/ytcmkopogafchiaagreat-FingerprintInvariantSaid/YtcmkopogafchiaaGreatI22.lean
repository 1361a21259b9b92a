import Derived.Test.YtcmkopogafchiaaGreatI21
set_option maxHeartbeats 8000000
set_option linter.unusedVariables false
set_option linter.unusedSimpArgs false
namespace Go.Proofs.YtcmkopogafchiaaGreat
variable {B c dim kind kk:Int} {U a b u:List (List Int)} {bl l x:List Int} {T bc i j k lo most n nc r:Nat} {f g t t':Nat->Nat->Int} {A BA NA:Option Addr} {tb te:TypeId} {v3:Value} {w:World}
section
open La
theorem Rel.bs{h:List (List Int)}(hr:Rel n a h)(hl:a.length=n)(ha:AllLen a n):Bs n (ent a) (ent h)/\h.length=n/\AllLen h n:=by
 induction hr with
 |refl=>exact⟨.refl,hl,ha⟩
 |red i j q _ h1 h2 ih=>
  obtain⟨b,c,d⟩:=ih;refine⟨?_,zaz _ _ _,zbd _ _ _⟩;rw[ziv ((zgK (q:=q) c d h2 h1).trans (zit i j q _).symm)];exact b.red i j q h1 h2
 |swap p _ h1 ih=>
  obtain⟨b,c,d⟩:=ih;refine⟨?_,zaz _ _ _,zbd _ _ _⟩;rw[ziv ((zgL c d h1).trans (ziu p _).symm)];exact b.sw p h1
def Zy(u:(Nat->Int)->Nat->Int)(x:List Int):List Int:=(List.range x.length).map (u fun k=>x.getD k 0)
theorem ju(u:(Nat->Int)->Nat->Int)(x:List Int):(Zy u x).length=x.length:=by simp[Zy]
theorem zac{u v:(Nat->Int)->Nat->Int}(h:Bij n f g u v)(hx:x.length=n):(fun k=>(Zy u x).getD k 0)=u fun k=>x.getD k 0:=by
 funext k
 unfold Zy;rcases Zl k n with hk|hk
 ·simp[List.getD,hx,hk]
 ·rw[h.off _ k hk];simp[List.getD,hx,show ¬k<n by omega]
theorem ziA{y:List Int}(hl:x.length=y.length)(h:∀k,x.getD k 0=y.getD k 0):x=y:=by
 refine List.ext_getElem hl fun k h1 h2=>?_
 have:=h k;simpa[List.getD,h1,h2] using this
theorem ziB{u v:(Nat->Int)->Nat->Int}(h:Bij n f g u v)(hx:x.length=n):Zy u (Zy v x)=x:=by
 refine ziA (by rw[ju,ju]) fun k=>?_
 have h1:=zac h (x:=Zy v x) (by rw[ju,hx]);rw[zac h.symm hx,h.uv]at h1;exact congrFun h1 k
theorem ziC(x:List Int)(k:Nat):(x.map fun c=>-c).getD k 0=-x.getD k 0:=by
 simp only[List.getD,List.getElem?_map]
 cases x[k]? <;>simp
theorem ziD{u v:(Nat->Int)->Nat->Int}(h:Bij n f g u v)(hx:x.length=n):Zy u (x.map fun c=>-c)=(Zy u x).map fun c=>-c:=by
 refine ziA (by simp[ju]) fun k=>?_
 have h1:=congrFun (zac h (x:=x.map fun c=>-c) (by simpa using hx)) k;have h2:=congrFun (zac h hx) k;rw[h1,ziC,h2];have:(fun k=>(x.map fun c=>-c).getD k 0)=fun k=>-x.getD k 0:=funext (ziC x)
 rw[this,h.neg]
theorem zcI{u v:(Nat->Int)->Nat->Int}(ha:AllLen a a.length)(hb:AllLen b b.length)(hl:a.length=b.length)(h:Bij a.length (ent a) (ent b) u v)(hx:x.length=a.length):zi b x=zi a (Zy u x):=by
 have h1:=h.bil (fun k=>x.getD k 0) fun k=>x.getD k 0
 rw[<-zac h hx]at h1;rw[<-zaa hb x (by omega),<-zaa ha (Zy u x) (by rw[ju,hx])];have e:∀(m:List (List Int))(y:List Int),QF m y y=bz m.length (ent m) (fun k=>y.getD k 0) (fun k=>y.getD k 0):=fun _ _=>rfl
 rw[e,e,<-hl];exact h1
theorem zpH(x:List Int):zH x=x∨zH x=x.map fun c=>-c:=by
 unfold zH;split
 ·exact .inr rfl
 ·exact .inl rfl
theorem zeJ{u v:(Nat->Int)->Nat->Int}(h:Bij n f g u v)(hx:x.length=n)(h0:0<zG x):zH (Zy u (zH (Zy v x)))=x:=by
 have h1:=ziB h hx;rcases zpH (Zy v x) with e|e
 ·rw[e,h1,zhR h0]
 ·rw[e,ziD h (by rw[ju,hx]),h1];unfold zH;rw[zcf,if_pos (by omega),J2]
theorem ziE{u v:(Nat->Int)->Nat->Int}(h:Bij n f g u v)(hx:x.length=n)(h0:0<zG x):zG (Zy v x)≠0:=fun hz=>by
 have hzz:=zdV hz;have e:(Zy v x).map (fun c=>-c)=Zy v x:=by
  conv=>rhs;rw[<-List.map_id (Zy v x)]
  exact List.map_congr_left fun y hy=>by rw[hzz y hy];rfl
 have h1:=ziB h hx;have h2:=ziD h (x:=Zy v x) (by rw[ju,hx]);rw[e,h1]at h2;have h3:=zcf x;rw[<-h2]at h3;omega
theorem ziF{u v:(Nat->Int)->Nat->Int}(ha:AllLen a a.length)(hb:AllLen b b.length)(hl:a.length=b.length)(h:Bij a.length (ent a) (ent b) u v){q:Int}{e:Bool}{L T:List (List Int)}(hL:VecList a q e L)(hT:VecList b q e T):(T.map fun x=>zH (Zy u x)).Perm L:=by
 have hb':Bij b.length (ent b) (ent a) v u:=by rw[<-hl];exact h.symm
 refine(List.perm_ext_iff_of_nodup ?_ hL.nodup).2 fun y=>?_
 ·rw[List.Nodup,List.pairwise_map];refine List.Pairwise.imp_of_mem ?_ hT.nodup;intro x x' hx hx' hne he;obtain⟨p1,p2,-⟩:=(hT.mem x).1 hx;obtain⟨q1,q2,-⟩:=(hT.mem x').1 hx';apply hne;rw[<-zeJ h.symm (by omega:x.length=a.length) p2,<-zeJ h.symm (by omega:x'.length=a.length) q2,he]
 ·rw[List.mem_map];constructor
  ·rintro⟨x,hx,rfl⟩;obtain⟨p1,p2,p3,p4⟩:=(hT.mem x).1 hx;have e1:=zcI ha hb hl h (x:=x) (by omega);refine(hL.mem _).2 ⟨by rw[jM,ju];omega,zcg _ (ziE h.symm (by omega) p2),by rw[JZ,<-e1];exact p3,fun he=>by rw[JZ,<-e1];exact p4 he⟩
  ·intro hy;obtain⟨p1,p2,p3,p4⟩:=(hL.mem y).1 hy;have e1:=zcI hb ha hl.symm hb' (x:=y) (by omega);exact⟨zH (Zy v y),(hT.mem _).2 ⟨by rw[jM,ju];omega,zcg _ (ziE h p1 p2),by rw[JZ,<-e1];exact p3,fun he=>by rw[JZ,<-e1];exact p4 he⟩,zeJ h p1 p2⟩
end
section
open Go.RowKit
def zcJ(a:List (List Int)):Prop:=jS a/\detF a<=10000
def PreOf(l:List Int)(n:Nat)(kk:Int)(P:List (List Int))(k:Nat):Prop:=
 (kk<=3/\P=zbu l 0 n/\k=0+n+qS n)∨(kk=4/\P=zO (qA false n) 0 0 (ent (qA false n) 0 0+l.getD 0 0%256%((3:Nat):Int))/\k=1)∨(kk=5/\P=zO (qA true n) (n-1) (n-1) (ent (qA true n) (n-1) (n-1)+l.getD 0 0%256%((2:Nat):Int))/\k=1)∨(kk=6/\P=ZX l 0 n 9/\k=0+n)∨(kk=7/\P=ZX l 0 n 1/\k=0+n)
def GrOf(l:List Int)(n:Nat)(kk:Int)(a:List (List Int)):Prop:=∃P k,PreOf l n kk P k/\((zcJ P/\a=P)∨(¬zcJ P/\a=ZX l k n 2))
theorem PreOf.uniq{P P':List (List Int)}{k':Nat}(h:PreOf l n kk P k)(h':PreOf l n kk P' k'):P=P'/\k=k':=by
 unfold PreOf at h h';rcases h with ⟨a,b,c⟩|⟨a,b,c⟩|⟨a,b,c⟩|⟨a,b,c⟩|⟨a,b,c⟩<;>rcases h' with ⟨a',b',c'⟩|⟨a',b',c'⟩|⟨a',b',c'⟩|⟨a',b',c'⟩|⟨a',b',c'⟩<;>first|(exfalso;omega)|exact⟨by rw[b,b'],by rw[c,c']⟩
theorem GrOf.uniq{a':List (List Int)}(h:GrOf l n kk a)(h':GrOf l n kk a'):a=a':=by
 obtain⟨P,k,h1,h2⟩:=h;obtain⟨P',k',h1',h2'⟩:=h';obtain⟨rfl,rfl⟩:=h1.uniq h1';rcases h2 with ⟨p,q⟩|⟨p,q⟩<;>rcases h2' with ⟨p',q'⟩|⟨p',q'⟩
 ·rw[q,q']
 ·exact absurd p p'
 ·exact absurd p' p
 ·rw[q,q']
def zeK(w:World)(n:Nat)(l:List Int)(kk:Int)(e:Ending)(w':World):Prop:=∃g a,e= .returned (.slice (some ⟨g,0,none⟩) n n)/\Mat64 w' (some ⟨g,0,none⟩) a/\Gm n a/\Z9 a/\GrOf l n kk a/\Ext w w'
set_option maxRecDepth 10000 in
theorem ziG(hN:Ints w NA te .i8 l)(h8:I8 l)(hl:l.length<=9223372036854775807)(hd0:0<=dim)(hd1:dim<256)(hk0:0<=kind)(hk1:kind<256)(hm1:1<=most)(hm8:most<=8):
  Cq 59 #[.agg #[.int .u8 dim,.int .u8 kind,.slice NA l.length nc,v3],.int .i64 most] w (zeK w (1+(dim%most).toNat) l (kind%8)):=by
 have hmz:((most:Int)==0)=false:=by simp;omega
 have hdm:=Int.emod_nonneg dim (show (most:Int)≠0 by omega);have zuQ:=Int.emod_lt_of_pos dim (show (0:Int)<most by omega);have hdt:dim.tmod most=dim%most:=Int.tmod_eq_emod_of_nonneg hd0;have hdw:IntKind.i64.wrap dim=dim:=Iw;obtain⟨n,hn⟩:=Xz (1+(dim%most).toNat);rw[<-hn];have hne:1+dim%most=(n:Int):=by omega
 have hn1:1<=n:=by omega
 have hn8:n<=8:=by omega
 have hnw:IntKind.i64.wrap (1+dim%most)=(n:Int):=by rw[hne];exact Iw
 have hkm:=Int.emod_nonneg kind (show (8:Int)≠0 by omega);have zxL:=Int.emod_lt_of_pos kind (show (0:Int)<8 by omega);have hkt:kind.tmod 8=kind%8:=Int.tmod_eq_emod_of_nonneg hk0;generalize kind%8=kk at*
 have hkw:IntKind.u8.wrap kk=kk:=by rw[IntKind.wrap_u8];omega
 have HN:=Zh hN;have hT0:TapeAt ((w.alloc (.cells #[.int .u8 dim,.int .u8 kind,.slice NA l.length nc,v3] 24)).alloc (.cells #[.slice NA l.length nc,.int .i64 0] 67)) (w.heap.size+1) l 0:=by
  refine⟨te,NA,nc,?_,hN.ext Zi,fun h0 a ha=>?_⟩
  ·rw[Nat.zero_min];have:=heap_alloc_new (w.alloc (.cells #[.int .u8 dim,.int .u8 kind,.slice NA l.length nc,v3] 24)) (.cells #[.slice NA l.length nc,.int .i64 0] 67);have e:(w.alloc (.cells #[.int .u8 dim,.int .u8 kind,.slice NA l.length nc,v3] 24)).heap.size=w.heap.size+1:=by simp
   rw[e]at this;exact this
  ·obtain⟨b,o,cs,fr,rfl,hb,hc⟩:=hN (by simpa using h0);injection ha with ha
   subst ha;have:=zD hb;simp only;omega
 have hx2:Ext w ((w.alloc (.cells #[.int .u8 dim,.int .u8 kind,.slice NA l.length nc,v3] 24)).alloc (.cells #[.slice NA l.length nc,.int .i64 0] 67)):=Zi;have ztL:((w.alloc (.cells #[.int .u8 dim,.int .u8 kind,.slice NA l.length nc,v3] 24)).alloc (.cells #[.slice NA l.length nc,.int .i64 0] 67)).heap.size=w.heap.size+2:=by simp
 clear hN hn HN;go_enter Tryz.func59,Tryz.ntmps59;go_upto_region 6 with fail
 generalize ((w.alloc (.cells #[.int .u8 dim,.int .u8 kind,.slice NA l.length nc,v3] 24)).alloc (.cells #[.slice NA l.length nc,.int .i64 0] 67))=w2 at*
 have HT0:=Zh hT0;have HGD:Hid (∀(W:World)g hs a,P64 W (w.heap.size+2) g n n hs a->a.length=n->SmM a->∃s:Bool,((s=true->Gm n a/\zcJ a)/\(s=false->¬zcJ a))/\Cq 100 #[.slice (some ⟨g,0,none⟩) n n] W (zF W (.bool s))):=Zh (fun W g hs a hP hL hS=>by
  obtain⟨s,hs⟩:∃s:Bool,s=true↔jS a/\detF a<=10000:=⟨@decide (jS a/\detF a<=10000) (Classical.propDecidable _),by simp⟩;refine⟨s,⟨fun hst=>⟨?_,hs.1 hst⟩,fun hst hg=>by rw[hs.2 hg]at hst;cases hst⟩,zol s hs (hP.mat hL (by omega)) hL hn1 hn8 hP.all (hS.fits hP.all) hS.bd⟩;obtain⟨⟨h1,h2⟩,h3⟩:=hs.1 hst;exact znr hn1 hn8 hL hP.all (by rw[hL]at h1;exact h1) h2 h3 hS.bd)
 have HDG:Hid (∀(W:World)(k most:Nat),TapeAt W (w.heap.size+1) l k->1<=most->most<=1000->Cq 99 #[.pointer (some ⟨w.heap.size+1,0,none⟩),.int .i64 n,.int .i64 most] W (zcu W (w.heap.size+1) l (k+n) n (ZX l k n most))):=Zh (fun W k most hT h1 h2=>zhJ hT h8 hl (by omega) h1 h2);have HGN:Hid (∀(W:World)(k:Nat),TapeAt W (w.heap.size+1) l k->Cq 96 #[.pointer (some ⟨w.heap.size+1,0,none⟩),.int .i64 n] W (zcu W (w.heap.size+1) l (k+n+qS n) n (zbu l k n))):=Zh (fun W k hT=>zog hT h8 hl (by omega))
 have HCH:Hid (∀(W:World)(f:Bool),Cq 97 #[.int .i64 n,.bool f] W (zhL W n (qA f n))):=Zh (fun W f=>zok f (by omega));have HBL:Hid (∀(W:World)(k m:Nat),TapeAt W (w.heap.size+1) l k->1<=m->m<=1000->Cq 98 #[.pointer (some ⟨w.heap.size+1,0,none⟩),.int .i64 m] W (zaM W (w.heap.size+1) l (k+1) (.int .i64 (l.getD k 0%256%m)))):=Zh (fun W k m hT h1 h2=>zhH hT h8 hl h1 h2);clear hT0 h8 hne hnw hdt hdw hdm zuQ hd0 hd1 hmz hkt hkw hk0 hk1
 have ztF:(kk=0∨kk=1∨kk=2∨kk=3)∨kk=4∨kk=5∨kk=6∨kk=7:=by omega
 clear hkm zxL;have HTail:Hid True:=Zh trivial;rcases ztF with hc|rfl|rfl|rfl|rfl
 ·rcases hc with rfl|rfl|rfl|rfl
  all_goals
   go_upto_region 19 with (go_at_call 96;refine(HGN.out _ 0 (HT0.out.ext Zi)).mono ?_;rintro e w3 ⟨g,hs,rfl,hP,hL,hT3,hO3⟩)
   have hP2:=hP.lower (lo':=w.heap.size+2) (by have:=hx2.size;omega);have HSM:=Zh (zom l 0 n);have zr1:Hid (∀kk:Int,kk<=3->PreOf l n kk (zbu l 0 n) (0+n+qS n)):=Zh (fun kk hk=> .inl ⟨hk,rfl,rfl⟩);obtain⟨s,hsg,hC⟩:=HGD.out w3 g hs _ hP2 hL HSM.out;have zsY:=hO3.ext hx2 (show w.heap.size<=w.heap.size+1 by omega);have HC:=Zh hC;have HS:=Zh hsg;have HPx:=Zh hP2;have HLx:=Zh hL;have HTx:=Zh hT3;clear hC hsg hP2 hP hL hT3 hO3
   cases s
   ·go_wp2_with (first
     |(go_at_call 100;refine HC.out.mono ?_;rintro e w4 ⟨rfl,hs4⟩)
     |(go_at_call 99;refine(HDG.out w4 _ 2 (HTx.out.ext Zi) (by omega) (by omega)).mono ?_;rintro e w5 ⟨g5,hs5,rfl,hP5,hL5,hT5,hO5⟩))
    go_ret;exact⟨g5,_,rfl,hP5.mat hL5 (by omega),zbv _ _ _ hn1 hn8,(J8 _ _ _ 2 (by omega) (by omega)).fits hP5.all,⟨_,_,zr1.out _ (by omega),.inr ⟨HS.out.2 (by simp),rfl⟩⟩,hO5.ext Zi (by omega)⟩
   ·go_wp2_with (go_at_call 100;refine HC.out.mono ?_;rintro e w4 ⟨rfl,hs4⟩)
    go_ret;exact⟨g,_,rfl,(HPx.out.ext Zi).mat HLx.out (by omega),(HS.out.1 (by simp)).1,HSM.out.fits HPx.out.all,⟨_,_,zr1.out _ (by omega),.inl ⟨(HS.out.1 (by simp)).2,rfl⟩⟩,Zi⟩
 ·go_upto_region 13 with (go_at_call 97;refine(HCH.out _ _).mono ?_;rintro e w3 ⟨g,hs,rfl,hP,hL,hx3⟩)
  have hP2:=hP.lower (lo':=w.heap.size+2) (by have:=hx2.size;omega);have hTa:TapeAt w3 (w.heap.size+1) l 0:=HT0.out.ext Zi;have hO0:Only (w.heap.size+1) w2 w3:=Only.of_ext hx3 (by omega);have hTl:=hTa.lt;have HTa:=Zh hTa;have HO0:=Zh hO0;have HP2:=Zh hP2;have hi0:0<(qA false n).length:=by rw[hL];omega
  obtain⟨b,hb,c1,c2,c3,c4,c5⟩:=hP2.hdr (i:=0) hi0;obtain⟨d1,d2⟩:=hP2.entry (i:=0) (j:=0) hb hi0 (by omega);have hv:=zhN false n 0 0;have HB:Hid (∀W,Ext w3 W->Cq 98 #[.pointer (some ⟨w.heap.size+1,0,none⟩),.int .i64 ((3:Nat):Int)] W (zaM W (w.heap.size+1) l 1 (.int .i64 (l.getD 0 0%256%((3:Nat):Int))))):=Zh (fun W e=>HBL.out W 0 3 (hTa.ext e) (by omega) (by omega));have hz0:0<=l.getD 0 0%256%((3:Nat):Int)/\l.getD 0 0%256%((3:Nat):Int)<=2:=by omega
  have HBD:=Zh hb;have zrT:=Zh (zhM false n);have HAL:=Zh hP2.all;have HLL:=Zh hL;have zru:Hid (PreOf l n 4 (zO (qA false n) 0 0 (ent (qA false n) 0 0+l.getD 0 0%256%((3:Nat):Int))) 1):=Zh (.inr (.inl ⟨rfl,rfl,rfl⟩));generalize hve:ent (qA false n) 0 0=v at*
  have HE:=Zh hve;clear hve;generalize l.getD 0 0%256%((3:Nat):Int)=z at*
  generalize qA false n=a at*
  have hvw:IntKind.i64.wrap (v+z)=v+z:=Iw;have hnz:(0:Int)<n:=by omega
  clear hP hP2 hL hTa hO0 hb;go_region_with (go_at_call 98;refine(HB.out _ Zi).mono ?_;rintro e w5 ⟨rfl,hT5,hO5'⟩;have hO5:Only (w.heap.size+1) w3 w5:=(Only.of_ext Zi (Nat.le_of_lt hTl)).trans hO5';obtain⟨b',e1,f1,f2,f3,f4,-⟩:=(HP2.out.only hO5 (by omega)).hdr (i:=0) hi0;rw[HBD.out]at e1;injection e1 with e1;subst e1;obtain⟨g1,g2⟩:=(HP2.out.only hO5 (by omega)).entry (i:=0) (j:=0) HBD.out hi0 (by omega);rw[HE.out]at g1)
  all_goals
   have hTl5:w.heap.size+1<w5.heap.size:=hT5.lt;obtain⟨wc,hwc⟩:∃x,x=w5.setCell ⟨b,0,none⟩ (.int .i64 (v+z)):=⟨_,rfl⟩;have hP2:=(HP2.out.only hO5 (by omega)).set HBD.out hi0 (by omega) (v+z);have hT3:TapeAt wc (w.heap.size+1) l 1:=by
    rw[hwc];exact hT5.only fun x hx=>Below.heap_setCell _ ⟨b,0,none⟩ _ x (by simp;omega)
   have hO3:Only (w.heap.size+1) w2 wc:=by
    rw[hwc];exact(HO0.out.trans hO5).setNew (p:=⟨b,0,none⟩) (by simp;omega) (by omega) _
   have hL:(zO a 0 0 (v+z)).length=n:=by rw[Jb];exact HLL.out
   have HSM:=Zh (zrT.out.set HAL.out hi0 (by omega) (z:=v+z) (by omega));go_upto_region 19 with fail
   rw[<-hwc];rw[<-hwc]at hP2;clear hwc hT5 hO5 hO5' f1 f2 f3 f4 g1 g2;have hP:=hP2;obtain⟨s,hsg,hC⟩:=HGD.out wc g hs _ hP2 hL HSM.out;have zsY:=hO3.ext hx2 (show w.heap.size<=w.heap.size+1 by omega);have HC:=Zh hC;have HS:=Zh hsg;have HPx:=Zh hP2;have HLx:=Zh hL;have HTx:=Zh hT3;clear hC hsg hP2 hP hL hT3 hO3
   cases s
   ·go_wp2_with (first
     |(go_at_call 100;refine HC.out.mono ?_;rintro e w4 ⟨rfl,hs4⟩)
     |(go_at_call 99;refine(HDG.out w4 _ 2 (HTx.out.ext Zi) (by omega) (by omega)).mono ?_;rintro e w5 ⟨g5,hs5,rfl,hP5,hL5,hT5,hO5⟩))
    go_ret;exact⟨g5,_,rfl,hP5.mat hL5 (by omega),zbv _ _ _ hn1 hn8,(J8 _ _ _ 2 (by omega) (by omega)).fits hP5.all,⟨_,_,zru.out,.inr ⟨HS.out.2 (by simp),rfl⟩⟩,hO5.ext Zi (by omega)⟩
   ·go_wp2_with (go_at_call 100;refine HC.out.mono ?_;rintro e w4 ⟨rfl,hs4⟩)
    go_ret;exact⟨g,_,rfl,(HPx.out.ext Zi).mat HLx.out (by omega),(HS.out.1 (by simp)).1,HSM.out.fits HPx.out.all,⟨_,_,zru.out,.inl ⟨(HS.out.1 (by simp)).2,rfl⟩⟩,Zi⟩
 ·go_upto_region 16 with (go_at_call 97;refine(HCH.out _ _).mono ?_;rintro e w3 ⟨g,hs,rfl,hP,hL,hx3⟩)
  have hP2:=hP.lower (lo':=w.heap.size+2) (by have:=hx2.size;omega);have hTa:TapeAt w3 (w.heap.size+1) l 0:=HT0.out.ext Zi;have hO0:Only (w.heap.size+1) w2 w3:=Only.of_ext hx3 (by omega);have hTl:=hTa.lt;have HTa:=Zh hTa;have HO0:=Zh hO0;have HP2:=Zh hP2;obtain⟨p,hp⟩:∃p,p+1=n:=⟨n-1,by omega⟩;have hnp:(n:Int)-1=(p:Int):=by omega
  have zyQ:IntKind.i64.wrap ((n:Int)-1)=(p:Int):=by rw[hnp];exact Iw
  have hi0:p<(qA true n).length:=by rw[hL];omega
  obtain⟨b,hb,c1,c2,c3,c4,c5⟩:=hP2.hdr (i:=p) hi0;obtain⟨d1,d2⟩:=hP2.entry (i:=p) (j:=p) hb hi0 (by omega);have hv:=zhN true n p p;have HB:Hid (∀W,Ext w3 W->Cq 98 #[.pointer (some ⟨w.heap.size+1,0,none⟩),.int .i64 ((2:Nat):Int)] W (zaM W (w.heap.size+1) l 1 (.int .i64 (l.getD 0 0%256%((2:Nat):Int))))):=Zh (fun W e=>HBL.out W 0 2 (hTa.ext e) (by omega) (by omega));have hz0:0<=l.getD 0 0%256%((2:Nat):Int)/\l.getD 0 0%256%((2:Nat):Int)<=2:=by omega
  have HBD:=Zh hb;have zrT:=Zh (zhM true n);have HAL:=Zh hP2.all;have HLL:=Zh hL;have zru:Hid (PreOf l n 5 (zO (qA true n) p p (ent (qA true n) p p+l.getD 0 0%256%((2:Nat):Int))) 1):=Zh (.inr (.inr (.inl ⟨rfl,by rw[show n-1=p by omega],rfl⟩)));generalize hve:ent (qA true n) p p=v at*
  have HE:=Zh hve;clear hve;generalize l.getD 0 0%256%((2:Nat):Int)=z at*
  generalize qA true n=a at*
  have hvw:IntKind.i64.wrap (v+z)=v+z:=Iw;have hnz:(p:Int)<n:=by omega
  have hpp:p<n:=by omega
  have hpw:IntKind.i64.wrap (p:Int)=(p:Int):=Iw;clear hP hP2 hL hTa hO0 hb;go_region_with (go_at_call 98;refine(HB.out _ Zi).mono ?_;rintro e w5 ⟨rfl,hT5,hO5'⟩;have hO5:Only (w.heap.size+1) w3 w5:=(Only.of_ext Zi (Nat.le_of_lt hTl)).trans hO5';obtain⟨b',e1,f1,f2,f3,f4,-⟩:=(HP2.out.only hO5 (by omega)).hdr (i:=p) hi0;rw[HBD.out]at e1;injection e1 with e1;subst e1;obtain⟨g1,g2⟩:=(HP2.out.only hO5 (by omega)).entry (i:=p) (j:=p) HBD.out hi0 (by omega);rw[HE.out]at g1)
  all_goals
   have hTl5:w.heap.size+1<w5.heap.size:=hT5.lt;obtain⟨wc,hwc⟩:∃x,x=w5.setCell ⟨b,p,none⟩ (.int .i64 (v+z)):=⟨_,rfl⟩;have hP2:=(HP2.out.only hO5 (by omega)).set HBD.out hi0 (by omega) (v+z);have hT3:TapeAt wc (w.heap.size+1) l 1:=by
    rw[hwc];exact hT5.only fun x hx=>Below.heap_setCell _ ⟨b,p,none⟩ _ x (by simp;omega)
   have hO3:Only (w.heap.size+1) w2 wc:=by
    rw[hwc];exact(HO0.out.trans hO5).setNew (p:=⟨b,p,none⟩) (by simp;omega) (by omega) _
   have hL:(zO a p p (v+z)).length=n:=by rw[Jb];exact HLL.out
   have HSM:=Zh (zrT.out.set HAL.out hi0 (by omega) (z:=v+z) (by omega));go_upto_region 19 with fail
   rw[<-hwc];rw[<-hwc]at hP2;clear hwc hT5 hO5 hO5' f1 f2 f3 f4 g1 g2;have hP:=hP2;obtain⟨s,hsg,hC⟩:=HGD.out wc g hs _ hP2 hL HSM.out;have zsY:=hO3.ext hx2 (show w.heap.size<=w.heap.size+1 by omega);have HC:=Zh hC;have HS:=Zh hsg;have HPx:=Zh hP2;have HLx:=Zh hL;have HTx:=Zh hT3;clear hC hsg hP2 hP hL hT3 hO3
   cases s
   ·go_wp2_with (first
     |(go_at_call 100;refine HC.out.mono ?_;rintro e w4 ⟨rfl,hs4⟩)
     |(go_at_call 99;refine(HDG.out w4 _ 2 (HTx.out.ext Zi) (by omega) (by omega)).mono ?_;rintro e w5 ⟨g5,hs5,rfl,hP5,hL5,hT5,hO5⟩))
    go_ret;exact⟨g5,_,rfl,hP5.mat hL5 (by omega),zbv _ _ _ hn1 hn8,(J8 _ _ _ 2 (by omega) (by omega)).fits hP5.all,⟨_,_,zru.out,.inr ⟨HS.out.2 (by simp),rfl⟩⟩,hO5.ext Zi (by omega)⟩
   ·go_wp2_with (go_at_call 100;refine HC.out.mono ?_;rintro e w4 ⟨rfl,hs4⟩)
    go_ret;exact⟨g,_,rfl,(HPx.out.ext Zi).mat HLx.out (by omega),(HS.out.1 (by simp)).1,HSM.out.fits HPx.out.all,⟨_,_,zru.out,.inl ⟨(HS.out.1 (by simp)).2,rfl⟩⟩,Zi⟩
 ·go_upto_region 19 with (go_at_call 99;refine(HDG.out _ 0 9 (HT0.out.ext Zi) (by omega) (by omega)).mono ?_;rintro e w3 ⟨g,hs,rfl,hP,hL,hT3,hO3⟩)
  have hP2:=hP.lower (lo':=w.heap.size+2) (by have:=hx2.size;omega);have HSM:=Zh (J8 l 0 n 9 (by omega) (by omega));have zru:Hid (PreOf l n 6 (ZX l 0 n 9) (0+n)):=Zh (.inr (.inr (.inr (.inl ⟨rfl,rfl,rfl⟩))));obtain⟨s,hsg,hC⟩:=HGD.out w3 g hs _ hP2 hL HSM.out;have zsY:=hO3.ext hx2 (show w.heap.size<=w.heap.size+1 by omega);have HC:=Zh hC;have HS:=Zh hsg;have HPx:=Zh hP2;have HLx:=Zh hL;have HTx:=Zh hT3
  clear hC hsg hP2 hP hL hT3 hO3
  cases s
  ·go_wp2_with (first
    |(go_at_call 100;refine HC.out.mono ?_;rintro e w4 ⟨rfl,hs4⟩)
    |(go_at_call 99;refine(HDG.out w4 _ 2 (HTx.out.ext Zi) (by omega) (by omega)).mono ?_;rintro e w5 ⟨g5,hs5,rfl,hP5,hL5,hT5,hO5⟩))
   go_ret;exact⟨g5,_,rfl,hP5.mat hL5 (by omega),zbv _ _ _ hn1 hn8,(J8 _ _ _ 2 (by omega) (by omega)).fits hP5.all,⟨_,_,zru.out,.inr ⟨HS.out.2 (by simp),rfl⟩⟩,hO5.ext Zi (by omega)⟩
  ·go_wp2_with (go_at_call 100;refine HC.out.mono ?_;rintro e w4 ⟨rfl,hs4⟩)
   go_ret;exact⟨g,_,rfl,(HPx.out.ext Zi).mat HLx.out (by omega),(HS.out.1 (by simp)).1,HSM.out.fits HPx.out.all,⟨_,_,zru.out,.inl ⟨(HS.out.1 (by simp)).2,rfl⟩⟩,Zi⟩
 ·go_upto_region 19 with (go_at_call 99;refine(HDG.out _ 0 1 (HT0.out.ext Zi) (by omega) (by omega)).mono ?_;rintro e w3 ⟨g,hs,rfl,hP,hL,hT3,hO3⟩)
  have hP2:=hP.lower (lo':=w.heap.size+2) (by have:=hx2.size;omega);have HSM:=Zh (J8 l 0 n 1 (by omega) (by omega));have zru:Hid (PreOf l n 7 (ZX l 0 n 1) (0+n)):=Zh (.inr (.inr (.inr (.inr ⟨rfl,rfl,rfl⟩))));obtain⟨s,hsg,hC⟩:=HGD.out w3 g hs _ hP2 hL HSM.out;have zsY:=hO3.ext hx2 (show w.heap.size<=w.heap.size+1 by omega);have HC:=Zh hC;have HS:=Zh hsg;have HPx:=Zh hP2;have HLx:=Zh hL;have HTx:=Zh hT3
  clear hC hsg hP2 hP hL hT3 hO3
  cases s
  ·go_wp2_with (first
    |(go_at_call 100;refine HC.out.mono ?_;rintro e w4 ⟨rfl,hs4⟩)
    |(go_at_call 99;refine(HDG.out w4 _ 2 (HTx.out.ext Zi) (by omega) (by omega)).mono ?_;rintro e w5 ⟨g5,hs5,rfl,hP5,hL5,hT5,hO5⟩))
   go_ret;exact⟨g5,_,rfl,hP5.mat hL5 (by omega),zbv _ _ _ hn1 hn8,(J8 _ _ _ 2 (by omega) (by omega)).fits hP5.all,⟨_,_,zru.out,.inr ⟨HS.out.2 (by simp),rfl⟩⟩,hO5.ext Zi (by omega)⟩
  ·go_wp2_with (go_at_call 100;refine HC.out.mono ?_;rintro e w4 ⟨rfl,hs4⟩)
   go_ret;exact⟨g,_,rfl,(HPx.out.ext Zi).mat HLx.out (by omega),(HS.out.1 (by simp)).1,HSM.out.fits HPx.out.all,⟨_,_,zru.out,.inl ⟨(HS.out.1 (by simp)).2,rfl⟩⟩,Zi⟩
end
section
open La
def Dz(n:Nat)(g t:Nat->Nat->Int)(x y:Nat):Int:=zj n fun q=>(zj n fun p=>t p x*g p q)*t q y
def Qc(n:Nat)(f:Nat->Nat->Int):Nat->Nat->Int:=fun x y=>if x<n/\y<n then f x y else 0
def UOK(n:Nat)(t:Nat->Nat->Int):Prop:=∀g:Nat->Nat->Int,(∀x y,n<=x∨n<=y->g x y=0)->Bs n g (Qc n (Dz n g t))
theorem zpI(g:Nat->Nat->Int)(h:∀p x,p<n->x<n->t p x=t' p x){x y:Nat}(hx:x<n)(hy:y<n):Dz n g t x y=Dz n g t' x y:=by
 unfold Dz;refine zX fun q hq=>?_
 rw[h q y hq hy];congr 1
 exact zX fun p hp=>by rw[h p x hp hx]
theorem UOK.congr(h:UOK n t)(he:∀p x,p<n->x<n->t p x=t' p x):UOK n t':=fun g hg=>by
 have e:Qc n (Dz n g t')=Qc n (Dz n g t):=by
  funext x y
  unfold Qc;split
  ·rename_i hxy
   exact(zpI g he hxy.1 hxy.2).symm
  ·rfl
 rw[e];exact h g hg
theorem UOK.one(n:Nat):UOK n fun p x=>if p=x then 1 else 0:=fun g hg=>by
 have e:Qc n (Dz n g fun p x=>if p=x then 1 else 0)=g:=by
  funext x y
  unfold Qc;split
  ·rename_i hxy
   unfold Dz;show (zj n fun q=>(zj n fun p=>(if p=x then 1 else 0)*g p q)*(if q=y then 1 else 0))=g x y;rw[zay hxy.2 (fun q _ hne=>by rw[if_neg hne,Int.mul_zero]),if_pos rfl,Int.mul_one];rw[zay hxy.1 (fun p _ hne=>by rw[if_neg hne,Int.zero_mul]),if_pos rfl,Int.one_mul]
  ·rename_i hxy
   exact(hg x y (by omega)).symm
 rw[e];exact .refl
theorem zaO(n:Nat)(F G:Nat->Int):(zj n fun i=>F i+G i)=zj n F+zj n G:=by
 induction n with
 |zero=>simp[zj]
 |succ n ih=>rw[ZD,ih,ZD,ZD];omega
theorem UOK.add(c:Int)(h:UOK n t)(hi:i<n)(hj:j<n)(hne:i≠j):UOK n fun p x=>if x=i then t p i+c*t p j else t p x:=fun g hg=>by
 have e:Qc n (Dz n g fun p x=>if x=i then t p i+c*t p j else t p x)=QP i j (-c) (Qc n (Dz n g t)):=by
  funext x y
  have e1:∀x q,(zj n fun p=>(if x=i then t p i+c*t p j else t p x)*g p q)=(zj n fun p=>t p x*g p q)+(if x=i then c*zj n (fun p=>t p j*g p q) else 0):=fun x q=>by
   by_cases hx:x=i
   ·subst hx;simp only[if_true];rw[<-jV,<-zaO];exact zX fun p _=>by grind
   ·simp only[if_neg hx];omega
  have e2:∀x y,Dz n g (fun p x=>if x=i then t p i+c*t p j else t p x) x y=(Dz n g t x y+(if x=i then c*Dz n g t j y else 0))+(if y=i then c*(Dz n g t x j+(if x=i then c*Dz n g t j j else 0)) else 0):=fun x y=>by
   unfold Dz;simp only[e1];by_cases hx:x=i
   ·by_cases hy:y=i
    ·simp only[if_pos hx,if_pos hy];rw[<-jV,<-jV,<-zaO,<-zaO,<-jV,<-zaO];exact zX fun p _=>by rw[hy];grind
    ·simp only[if_pos hx,if_neg hy];rw[<-jV,<-zaO,Int.add_zero];exact zX fun p _=>by grind
   ·by_cases hy:y=i
    ·simp only[if_neg hx,if_pos hy];rw[Int.add_zero,Int.add_zero,<-jV,<-zaO];exact zX fun p _=>by rw[hy];grind
    ·simp only[if_neg hx,if_neg hy,Int.add_zero]
  unfold Qc QP;simp only[e2];by_cases hx:x<n
  ·by_cases hy:y<n
   ·simp only[hx,hy,hj,and_self,if_true];by_cases hxi:x=i<;>by_cases hyi:y=i<;>simp only[hxi,hyi,if_true,if_false]<;>grind
   ·have:y≠i:=by omega
    simp only[hx,hy,this,and_false,if_false];split<;>omega
  ·have:x≠i:=by omega
   simp only[hx,this,false_and,if_false];split<;>omega
 rw[e];exact(h g hg).add (-c) hi hj hne
theorem zpJ{x:Nat}(hi:i<n)(hj:j<n):La.tr i j x<n↔x<n:=by unfold La.tr;(repeat' split)<;>omega
theorem UOK.swap(h:UOK n t)(hi:i<n)(hj:j<n)(hne:i≠j):UOK n fun p x=>t p (La.tr i j x):=fun g hg=>by
 have e:Qc n (Dz n g fun p x=>t p (La.tr i j x))=Qs i j (Qc n (Dz n g t)):=by
  funext x y
  unfold Qc Qs;simp only[zpJ hi hj];rfl
 rw[e];exact(h g hg).tr hi hj hne
theorem UOK.neg(h:UOK n t)(hi:i<n):UOK n fun p x=>if x=i then-t p x else t p x:=fun g hg=>by
 have e:Qc n (Dz n g fun p x=>if x=i then-t p x else t p x)=ngZ i (Qc n (Dz n g t)):=by
  funext x y
  have e1:∀p x,(if x=i then-t p x else t p x)=qe i x*t p x:=fun p x=>by unfold qe;split<;>omega
  unfold Qc ngZ;by_cases hxy:x<n/\y<n
  ·simp only[if_pos hxy];unfold Dz;simp only[e1];rw[<-jV];refine zX fun q _=>?_
   have:(zj n fun p=>qe i x*t p x*g p q)=qe i x*zj n fun p=>t p x*g p q:=by
    rw[<-jV];exact zX fun p _=>Int.mul_assoc _ _ _
   rw[this];grind
  ·simp only[if_neg hxy,Int.mul_zero]
 rw[e];exact(h g hg).ng i hi
theorem zpK :ent (Zk n a u)=Qc n (Dz n (ent a) (ent u)):=by
 funext x y
 unfold Qc;split
 ·rename_i h
  exact zdJ h.1 h.2
 ·rename_i h
  exact zdL (by omega)
def jW(i j:Nat)(c:Int)(f:Nat->Nat->Int):Nat->Nat->Int:=fun p x=>
 if i=j then (if c<0 then (if x=i then-f p x else f p x) else f p x)
 else if c=0 then f p (La.tr i j x) else (if x=i then f p i+c*f p j else f p x)
theorem UOK.step(c:Int)(h:UOK n t)(hi:i<n)(hj:j<n):UOK n (jW i j c t):=by
 unfold jW;by_cases hij:i=j
 ·by_cases hc:c<0
  ·simp only[if_pos hij,if_pos hc];exact h.neg hi
  ·simp only[if_pos hij,if_neg hc];exact h
 ·by_cases hc:c=0
  ·simp only[if_neg hij,if_pos hc];exact h.swap hi hj hij
  ·simp only[if_neg hij,if_neg hc];exact h.add c hi hj hij
theorem zpL(hc:-2<=c/\c<=2)(h:∀p x,-B<=f p x/\f p x<=B)(p x:Nat):-(3*B)<=jW i j c f p x/\jW i j c f p x<=3*B:=by
 have h1:=h p x;have h2:=h p i;have h3:=h p j;have h4:=h p (La.tr i j x);unfold jW;have h5:-(2*B)<=c*f p j/\c*f p j<=2*B:=by
  rcases(by omega:c=-2∨c=-1∨c=0∨c=1∨c=2) with rfl|rfl|rfl|rfl|rfl<;>omega
 (repeat' split)<;>omega
theorem Gm.cong(g:Gm n a)(hu:UOK n (ent u))(hbd:BdM 199 (Zk n a u)):Gm n (Zk n a u)/\Bs n (ent a) (ent (Zk n a u)):=by
 have hb:Bs n (ent a) (ent (Zk n a u)):=by
  rw[zpK];exact hu _ fun x y hxy=>qI g.all (by rw[g.len];exact hxy)
 have hs:Sym (zg (ent a)):=QZ (by have:=g.all;rw[<-g.len]at this;exact this) (fun i j hi hj=>g.sym i j (by rw[<-g.len];exact hi) (by rw[<-g.len];exact hj));obtain⟨h1,h2,h3⟩:=hb.ok hs g.pos;refine⟨⟨g.n1,g.n8,zaz _ _ _,zbd _ _ _,fun i j _ _=>?_,h2,?_,hbd⟩,hb⟩
 ·have:=h1 i j;simpa[zg,Rat.intCast_inj] using this
 ·have hn:=g.n1;have d1:=(qg (ent a) n g.pos.piv).2.1;have d2:=(qg (ent (Zk n a u)) n h2.piv).2.1;have e:zx (ent (Zk n a u)) n=zx (ent a) n:=by
   have:((zx (ent (Zk n a u)) n:Int):Rat)=((zx (ent a) n:Int):Rat):=by rw[d2,d1,h3]
   exact Rat.intCast_inj.1 this
  obtain⟨k,rfl⟩:∃k,n=k+1:=⟨n-1,by omega⟩;have g1:=g.det;rw[show k+1-1=k by omega]at g1|-
  have e2:E (ent (Zk (k+1) a u)) k k k=E (ent a) k k k:=e;rw[e2];exact g1
end
section
open Go.RowKit
open La
def TapeA(w:World)(T:Nat)(te:TypeId)(A:Option Addr)(c:Nat)(l:List Int)(k:Nat):Prop:=w.heap[T]? =some (.cells #[.slice A l.length c,.int .i64 (min k l.length:Nat)] 67 (0,0))/\Ints w A te .i8 l/\(0<l.length->∀a,A=some a->a.block<T)
section
variable {w w':World} {T:Nat} {te:TypeId} {A:Option Addr} {c:Nat} {l:List Int} {k:Nat}
theorem TapeA.ext(h:TapeA w T te A c l k)(hx:Ext w w'):TapeA w' T te A c l k:=⟨zk hx h.1,h.2.1.ext hx,h.2.2⟩
theorem TapeA.lt(h:TapeA w T te A c l k):T<w.heap.size:=zD h.1
theorem TapeA.keep(h:TapeA w T te A c l k)(hA:0<l.length->∀a,A=some a->a.block<lo)(hk:∀b,(b=T∨b<lo)->w'.heap[b]? =w.heap[b]?):TapeA w' T te A c l k:=by
 refine⟨(hk T (.inl rfl)).trans h.1,fun h0=>?_,h.2.2⟩;obtain⟨b,o,cs,fr,rfl,hb,hc⟩:=h.2.1 h0;exact⟨b,o,cs,fr,rfl,(hk b (.inr (hA (by simpa using h0) _ rfl))).trans hb,hc⟩
end
def zcK(w:World)(T:Nat)(te:TypeId)(A:Option Addr)(c:Nat)(l:List Int)(k:Nat)(v:Value)(e:Ending)(w':World):Prop:=e= .returned v/\TapeA w' T te A c l k/\Only T w w'
theorem ziH{c:Nat}(h:TapeA w T te A c l k)(h8:I8 l)(hl:l.length<=9223372036854775807):
  Cq 34 #[.pointer (some ⟨T,0,none⟩)] w (zcK w T te A c l (k+1) (.int .i64 (l.getD k 0))):=by
 have hT:=h.lt;obtain⟨h1,h2,h3⟩:=id h;obtain⟨q1,q2,q3,q4,q5⟩:=zR h1;by_cases hk:k<l.length
 ·rw[show min k l.length=k by omega]at q2 h1;obtain⟨b,o,x,rfl,hx,hc,hb⟩:=h2.at_ hk;have hbT:=h3 (by omega) _ rfl;simp only at hbT;have hxe:l.getD k 0=x:=by simp[hx]
  have hx8:=h8 x (Zm hx);have HG:=Zh h;have H1:=Zh h1;have H2:=Zh h2;have hge:decide ((l.length:Int)<=(k:Int))=false:=by simp;omega
  have hap:Apart b T:=⟨by omega⟩;rw[hxe];clear h h1 h2 h3 hx hxe;go_enter Tryz.func34,Tryz.ntmps34;go_wp2_with fail
  go_quiet (fail)
  go_wp2_with fail
  go_quiet (fail)
  go_wp2_with fail
  go_ret;rename_i nq1 _
  have hxa:Ext w (w.drewN nq1):=Zi;have hT2:T<(w.drewN nq1).heap.size:=hT;have hb2:((w.drewN nq1).setCell ⟨T,1,none⟩ (.int .i64 ((k:Int)+1))).heap[T]? =some (.cells #[.slice (some ⟨b,o,none⟩) l.length c,.int .i64 ((k:Int)+1)] 67 (0,0)):=zap (zk hxa H1.out);refine⟨rfl,⟨?_,?_,fun _ a ha=>?_⟩,?_⟩
  ·rw[show ((min (k+1) l.length:Nat):Int)=(k:Int)+1 by omega];exact hb2
  ·have hA1:Ints ((w.drewN nq1).setCell ⟨T,1,none⟩ (.int .i64 ((k:Int)+1))) (some ⟨b,o,none⟩) te .i8 l:=fun h0=>by
    obtain⟨b',o',cs,fr,e1,hb',hc'⟩:=(H2.out.ext hxa) h0;have e2:b=b':=by injection e1 with e1;injection e1
    exact⟨b',o',cs,fr,e1,(Below.heap_setCell _ ⟨T,1,none⟩ _ b' (by simp;omega)).trans hb',hc'⟩
   exact hA1.ext Zi
  ·injection ha with ha
   subst ha;exact hbT
  ·exact((Only.of_ext hxa (Nat.le_of_lt hT)).trans (Only.set hT2 1 (.int .i64 ((k:Int)+1)))).trans (Only.of_ext Zi (by rw[qG];exact Nat.le_of_lt hT2))
 ·rw[show min k l.length=l.length by omega]at q2 h1;have hxe:l.getD k 0=0:=by rw[List.getD_eq_getElem?_getD,List.getElem?_eq_none (by omega)];rfl
  have hge:decide ((l.length:Int)<=(l.length:Int))=true:=by simp
  have HH:Hid (∀W,Ext w W->TapeA W T te A c l (k+1)):=Zh (fun W hh=>by
   obtain⟨a1,a2,a3⟩:=h.ext hh;exact⟨by rw[show min (k+1) l.length=min k l.length by omega];exact a1,a2,a3⟩)
  rw[hxe];clear h h1 h2 h3 hxe hk;go_enter Tryz.func34,Tryz.ntmps34;go_wp2_with fail
  go_quiet (fail)
  go_wp2_with fail
  go_ret;exact⟨rfl,HH.out _ Zi,Only.of_ext Zi (Nat.le_of_lt hT)⟩
theorem zpM{c:Nat}{m:Nat}(h:TapeA w T te A c l k)(h8:I8 l)(hl:l.length<=9223372036854775807)(hm:1<=m)(hm2:m<=1000):
  Cq 98 #[.pointer (some ⟨T,0,none⟩),.int .i64 m] w (zcK w T te A c l (k+1) (.int .i64 (l.getD k 0%256%m))):=by
 have HN:=Zh (ziH h h8 hl);have hx8:=h8.get k;clear h;generalize l.getD k 0=x at*
 have hu:IntKind.u8.wrap x=x%256:=by simp only[IntKind.wrap_u8]
 have hu2:IntKind.i64.wrap (x%256)=x%256:=Iw;have hx0:0<=x%256:=by omega
 have hx1:x%256<256:=by omega
 have hmz:((m:Int)==0)=false:=by simp;omega
 have hrm:(x%256).tmod m=x%256%m:=Int.tmod_eq_emod_of_nonneg hx0;go_enter Tryz.func98,Tryz.ntmps98;go_wp2_with (go_at_call 34;refine HN.out.mono ?_;rintro e w1 ⟨rfl,hT1,hO1⟩)
 go_ret;exact⟨by simp,hT1,hO1⟩
theorem P64.onlyT{w':World}{g zd:Nat}{hs:List Nat}(h:P64 w lo g n zd hs a)(ho:Only T w w')(hT:g<T)(hh:∀b∈hs,b<T):P64 w' lo g n zd hs a:=
 ⟨(ho.below.block g hT).trans h.head,h.glo,h.le,h.len,h.dist,h.new,h.all,fun i b r hp hr=>(ho.below.block b (hh b (Zm hp))).trans (h.row i b r hp hr)⟩
def ZO(i j:Nat)(c:Int)(U:List (List Int))(n r:Nat):List (List Int):=tab (fun p x=>if p<r then jW i j c (ent U) p x else ent U p x) n n
def zeL(w:World)(n:Nat)(e:Ending)(w':World):Prop:=∃g hs U,e= .returned (.slice (some ⟨g,0,none⟩) n n)/\P64 w' w.heap.size g n n hs U/\U.length=n/\UOK n (ent U)/\(∀p x,-531441<=ent U p x/\ent U p x<=531441)/\Ext w w'
def ziI(w:World)(n lo g T:Nat)(hs:List Nat)(te:TypeId)(A:Option Addr)(c:Nat)(l:List Int)(s8:Value)(wr:World):Prop:=
 ∃(k p:Nat) (U:List (List Int)),k<=12/\s8= .int .i64 k/\Hid (P64 wr lo g n n hs U)/\U.length=n/\Hid (UOK n (ent U))/\Hid (∀p x,-((3^k:Nat):Int)<=ent U p x/\ent U p x<=((3^k:Nat):Int))/\Hid (TapeA wr T te A c l p)/\Ext w wr
def ziJ(w:World)(n lo g T:Nat)(hs:List Nat)(te:TypeId)(A:Option Addr)(c:Nat)(l:List Int)(p i j:Nat)(d:Int)(U:List (List Int))(s62:Value)(wr:World):Prop:=
 ∃r:Nat,r<=n/\s62= .int .i64 r/\Hid (P64 wr lo g n n hs (ZO i j d U n r))/\Hid (TapeA wr T te A c l p)/\Ext w wr
theorem ziK(i j:Nat)(c:Int)(U:List (List Int))(n r:Nat):(ZO i j c U n r).length=n:=zv _ _ _
theorem ziL{x:Nat}(hr:r<n)(hx:x<n):ent (ZO i j c U n r) r x=ent U r x:=by
 unfold ZO;rw[qo _ _ _ _ _ hr hx,if_neg (by omega)]
theorem zpN(hl:U.length=n)(ha:AllLen U n):ZO i j c U n 0=U:=by
 have h:=Jq U n ha;rw[hl]at h;conv=>rhs;rw[<-h]
 exact ZE fun p x _ _=>by rw[if_neg (by omega)];rfl
theorem zpO(hr:r<n)(hi:i<n)(hc:c<0):zO (ZO i i c U n r) r i (-ent U r i)=ZO i i c U n (r+1):=by
 unfold ZO;rw[Qr hr hi];refine ZE fun p x _ _=>?_
 unfold jW;simp only[if_true,if_pos hc];by_cases h1:p=r
 ·subst h1;by_cases h2:x=i
  ·subst h2;simp
  ·simp[h2]
 ·by_cases h2:p<r
  ·have h3:p<r+1:=by omega
   simp[h1,h2,h3]
  ·have h3:¬p<r+1:=by omega
   simp[h1,h2,h3]
theorem zpP(hr:r<n)(hi:i<n)(hj:j<n)(hne:i≠j):zO (zO (ZO i j 0 U n r) r i (ent U r j)) r j (ent U r i)=ZO i j 0 U n (r+1):=by
 unfold ZO;rw[Qr hr hi,Qr hr hj];refine ZE fun p x _ _=>?_
 unfold jW La.tr;simp only[if_neg hne,if_true];by_cases h1:p=r
 ·subst h1;by_cases h2:x=i
  ·subst h2;simp[hne]
  ·by_cases h3:x=j
   ·subst h3;simp[h2]
   ·simp[h2,h3]
 ·by_cases h2:p<r
  ·have h3:p<r+1:=by omega
   simp[h1,h2,h3]
  ·have h3:¬p<r+1:=by omega
   simp[h1,h2,h3]
theorem zpQ(hr:r<n)(hi:i<n)(hne:i≠j)(hc:c≠0):zO (ZO i j c U n r) r i (ent U r i+c*ent U r j)=ZO i j c U n (r+1):=by
 unfold ZO;rw[Qr hr hi];refine ZE fun p x _ _=>?_
 unfold jW;simp only[if_neg hne,if_neg hc];by_cases h1:p=r
 ·subst h1;by_cases h2:x=i
  ·subst h2;simp
  ·simp[h2]
 ·by_cases h2:p<r
  ·have h3:p<r+1:=by omega
   simp[h1,h2,h3]
  ·have h3:¬p<r+1:=by omega
   simp[h1,h2,h3]
theorem zpR(hc:¬c<0):ZO i i c U n r=ZO i i c U n (r+1):=by
 unfold ZO;refine ZE fun p x _ _=>?_
 unfold jW;simp only[if_true,if_neg hc];split<;>split<;>rfl
theorem zpS(h:UOK n (ent U))(hi:i<n)(hj:j<n):UOK n (ent (ZO i j c U n n)):=(h.step c hi hj).congr fun p x hp hx=>by
 unfold ZO;rw[qo _ _ _ _ _ hp hx,if_pos hp]
theorem zpT(hB:0<=B)(hc:-2<=c/\c<=2)(h:∀p x,-B<=ent U p x/\ent U p x<=B)(p x:Nat):-(3*B)<=ent (ZO i j c U n n) p x/\ent (ZO i j c U n n) p x<=3*B:=by
 by_cases hpx:p<n/\x<n
 ·unfold ZO;rw[qo _ _ _ _ _ hpx.1 hpx.2,if_pos hpx.1];exact zpL hc h p x
 ·have:ent (ZO i j c U n n) p x=0:=JA _ _ _ _ _ hpx;rw[this];omega
theorem zpU{g q b:Nat}{hs:List Nat}(h:P64 w lo g n n (hs++[b]) (zO (tab (fun x y=>if x=y then (1:Int) else 0) q n++[List.replicate n 0]) q q 1)):P64 w lo g n n (hs++[b]) (tab (fun x y=>if x=y then 1 else 0) (q+1) n):=by
 have e:zO (tab (fun x y=>if x=y then (1:Int) else 0) q n++[List.replicate n 0]) q q 1=tab (fun x y=>if x=y then 1 else 0) (q+1) n:=by
  have h1:=zhI (a:=tab (fun x y=>if x=y then (1:Int) else 0) q n) (r:=List.replicate n 0) (j:=q) (z:=1);rw[zv]at h1;rw[h1];unfold tab;rw[List.range_succ,List.map_append];congr 1
  rw[List.map_singleton];congr 1
  apply List.ext_getElem?;intro j;by_cases hj:j<n
  ·by_cases e:q=j
   ·subst e;rw[List.getElem?_set_self (by simpa using hj)];simp[hj]
   ·rw[List.getElem?_set_ne e];simp[hj,e]
  ·rw[List.getElem?_eq_none (by simp;omega),List.getElem?_eq_none (by simp;omega)]
 rwa [e]at h
set_option maxRecDepth 20000 in
theorem zpV{c:Nat}(hI:Ints w A te .i8 l)(h8:I8 l)(hl:l.length<=9223372036854775807)(hn1:1<=n)(hn:n<=1000):
  Cq 92 #[.slice A l.length c,.int .i64 n] w (zeL w n):=by
 have hmk:=Z8 (P:=Tryz.prog) Tryz.underlying25 qW (by omega) (n:Int) (by omega) (by omega);have ztx:=je (P:=Tryz.prog) Tryz.underlying28 qV (by omega) (n:Int) (by omega) (by omega);have hAlo:0<l.length->∀a,A=some a->a.block<w.heap.size:=fun h0 a ha=>by
  obtain⟨b,o,cs,fr,hA,hb,-⟩:=hI (by simpa using h0);rw[hA]at ha;injection ha with ha
  rw[<-ha];exact zD hb
 have HAL:=Zh hAlo;have HI:=Zh hI;have H8:=Zh h8;clear hI h8 hAlo;go_enter Tryz.func92,Tryz.ntmps92;go_wp2_with fail
 go_loopg [6,17] n (fun gk _ i wr=>∃(q:Nat) (hs:List Nat),q<=n/\gk=n-q/\i= .int .i64 q/\Hid (hs.length=q)/\Hid (P64 wr w.heap.size w.heap.size n n hs (tab (fun x y=>if x=y then 1 else 0) q n))/\Ext w wr)
 case atStart=>exact⟨0,[],by omega,by omega,rfl,Zh rfl,Zh (by simpa[Value.cells,tab] using P64.start w w.heap.size n n Zr),Zi⟩
 case round=>
  obtain⟨q,hs,hq,rfl,rfl,HL,HP,hxr⟩:=hrel;have ztE:=hxr.size;by_cases hlt:q<n
  ·have hc:=HP.out.cells (by rw[HL.out];exact hlt);rw[HL.out]at hc;obtain⟨c1,c2,c3⟩:=hc;have ztg:=HP.out.old;have hP1:=(HP.out.ext (Zi:Ext wr (wr.alloc (.cells (qF n .i64) 2)))).put (by rw[HL.out];exact hlt) (Row.made wr n .i64 2) (by simp) ztE (fun hb=>by have:=ztg _ hb;omega);rw[HL.out]at hP1;have ztr:=World.setCell_alloc_past (w:=wr) (.cells (qF n .i64) 2) w.heap.size q (.slice (some ⟨wr.heap.size,0,none⟩) n n) c3
   rw[ztr]at hP1;obtain⟨w2,hw2⟩:=Xz ((wr.setCell ⟨w.heap.size,q,none⟩ (.slice (some ⟨wr.heap.size,0,none⟩) n n)).alloc (.cells (qF n .i64) 2));rw[<-hw2]at hP1;have zta:Ext w w2:=by rw[hw2];exact Zi
   have hpl:(hs++[wr.heap.size])[q]? =some wr.heap.size:=by rw[List.getElem?_append_right (by rw[HL.out];exact Zr),HL.out,Nat.sub_self];rfl
   have hal:(tab (fun x y=>if x=y then (1:Int) else 0) q n++[List.replicate n 0]).length=q+1:=by simp[zv]
   obtain⟨b',e1,h1,h2,h3,h4,-⟩:=hP1.hdr (i:=q) (by rw[hal];omega);rw[hpl]at e1;injection e1 with e1
   subst e1;obtain⟨k1,k2⟩:=hP1.entry (i:=q) (j:=q) hpl (by rw[hal];omega) hlt;have hP2:=hP1.set hpl (by rw[hal];omega) hlt 1;generalize ent (tab (fun x y=>if x=y then (1:Int) else 0) q n++[List.replicate n 0]) q q=v0 at k1;have HP2:=Zh hP2;have HPL:=Zh hpl;have zrW:=Zh hal;clear hP1 hP2 hpl hal;go_upto_region 6 with fail
   rw[<-hw2];have hnb:New wr.heap.size w:=⟨ztE⟩;clear hw2 ztr c1 c2;go_wp2_with fail
   go_roundg (n-(q+1))
   case measure=>omega
   case rel=>exact⟨q+1,hs++[wr.heap.size],by omega,by omega,by go_num,Zh (by simp[HL.out]),Zh (zpU HP2.out),by first|exact Zi|(rw[<-hw2];exact Zi)⟩
  ·obtain rfl:q=n:=by omega
   have hl0:(tab (fun x y=>if x=y then (1:Int) else 0) q q).length=q:=zv _ _ _;obtain⟨U0,hU0⟩:∃U0,U0=tab (fun x y=>if x=y then (1:Int) else 0) q q:=⟨_,rfl⟩;have HU0:Hid (UOK q (ent U0)):=Zh ((UOK.one q).congr fun p x hp hx=>by rw[hU0,qo _ _ _ _ _ hp hx]);have HB0:Hid (∀p x,-((3^0:Nat):Int)<=ent U0 p x/\ent U0 p x<=((3^0:Nat):Int)):=Zh (fun p x=>by
    rw[hU0];by_cases hpx:p<q/\x<q
    ·rw[qo _ _ _ _ _ hpx.1 hpx.2];split<;>simp
    ·rw[JA _ _ _ _ _ hpx];simp)
   rw[<-hU0]at HP hl0;clear hU0;have ztg:∀b∈hs,b<wr.heap.size:=HP.out.old;have zrU:=Zh ztg;have HDR:=HP.out.head.lt;have hgT:w.heap.size<wr.heap.size:=HDR;have HT0:Hid (TapeA (wr.alloc (.cells #[.slice A l.length c,.int .i64 0] 67)) wr.heap.size te A c l 0):=Zh ⟨by have:=heap_alloc_new wr (.cells #[.slice A l.length c,.int .i64 0] 67);simpa using this,HI.out.ext Zi,fun h0 a ha=>Nat.lt_trans (HAL.out h0 a ha) hgT⟩
   have HP0:Hid (P64 (wr.alloc (.cells #[.slice A l.length c,.int .i64 0] 67)) w.heap.size w.heap.size q q hs U0):=Zh (HP.out.ext Zi);obtain⟨T,hT⟩:=Xz wr.heap.size;obtain⟨w1,hw1⟩:=Xz (wr.alloc (.cells #[.slice A l.length c,.int .i64 0] 67));have zti:Ext w w1:=by rw[hw1];exact Zi
   rw[<-hw1]at HT0 HP0;rw[<-hT]at HT0 hgT;rw[<-hT]at zrU;clear ztg HDR HP;go_wp2_with fail
   simp only[<-hw1,<-hT];clear hT hw1;have hn1:1<=q:=hn1;go_loopw [8] (fun s8 wr=>ziI w q w.heap.size w.heap.size T hs te A c l s8 wr) (fun s8 _=>12-(intOf s8).toNat)
   case atStart=>exact⟨0,0,U0,by omega,rfl,HP0,hl0,HU0,HB0,HT0,zti⟩
   case round=>
    unfold ziI at hrel;obtain⟨k,p,U,hk,rfl,HP,hUl,HUO,HUB,HTA,hxr⟩:=hrel;obtain⟨q1,q2,q3,q4,q5⟩:=zR HTA.out.1;have oT:Old T wr:=⟨q5⟩;by_cases hgo:k<12/\p<l.length
    ·obtain⟨zyR,hpl⟩:=hgo;have hd1:decide ((k:Int)<12)=true:=by simp;omega
     have hd2:decide ((p:Int)<(l.length:Int))=true:=by simp;omega
     rw[show min p l.length=p by omega]at q2;clear oT;go_wp2_with fail
     go_quiet (fail)
     have HBL:Hid (∀W k,TapeA W T te A c l k->Cq 98 #[.pointer (some ⟨T,0,none⟩),.int .i64 q] W (zcK W T te A c l (k+1) (.int .i64 (l.getD k 0%256%q)))):=Zh (fun W k h=>zpM h H8.out hl hn1 hn);have HNX:Hid (∀W k,TapeA W T te A c l k->Cq 34 #[.pointer (some ⟨T,0,none⟩)] W (zcK W T te A c l (k+1) (.int .i64 (l.getD k 0)))):=Zh (fun W k h=>ziH h H8.out hl);go_upto_region 14 with (first
      |(go_at_call 34;refine(HNX.out _ _ hT7).mono ?_;rintro e w8 ⟨rfl,hT8,hO8⟩)
      |(go_at_call 98;refine(HBL.out _ _ hT6).mono ?_;rintro e w7 ⟨rfl,hT7,hO7⟩)
      |(go_at_call 98;refine(HBL.out _ _ (HTA.out.ext Zi)).mono ?_;rintro e w6 ⟨rfl,hT6,hO6⟩))
     have hO:Only T wr w8:=((Only.of_ext (Zi:Ext wr (wr.drewN nq)) (Nat.le_of_lt q5)).trans (hO6.trans hO7)).trans hO8;have HP8:Hid (P64 w8 w.heap.size w.heap.size q q hs U):=Zh (HP.out.onlyT hO hgT zrU.out);have hx8:Ext w w8:=hO.ext hxr (Nat.le_of_lt hgT);have HT8:=Zh hT8;obtain⟨xp,hxp⟩:=Yz (l[p]);obtain⟨xq,hxq⟩:=Yz (l[p+1]?.getD 0);obtain⟨xd,hxd⟩:=Yz (l[p+1+1]?.getD 0)
     rw[hxp,hxq,hxd];obtain⟨i,hi⟩:∃i:Nat,xp%256%(q:Int)=i:=⟨(xp%256%(q:Int)).toNat,by have:=Int.emod_nonneg (xp%256) (show (q:Int)≠0 by omega);omega⟩;obtain⟨j,hj⟩:∃j:Nat,xq%256%(q:Int)=j:=⟨(xq%256%(q:Int)).toNat,by have:=Int.emod_nonneg (xq%256) (show (q:Int)≠0 by omega);omega⟩;have hiq:i<q:=by have:=Int.emod_lt_of_pos (xp%256) (show (0:Int)<(q:Int) by omega);omega
     have hjq:j<q:=by have:=Int.emod_lt_of_pos (xq%256) (show (0:Int)<(q:Int) by omega);omega
     obtain⟨hd3,hd4⟩:=zeq xd;rw[hi,hj];clear hxp hxq hxd;generalize xd.tmod 3=d at*
     have h3k:(3^k:Nat)<=3^11:=Nat.pow_le_pow_right (by omega) (by omega);rw[show (3:Nat)^11=177147 by decide]at h3k;have HUL:Hid (AllLen U q):=Zh HP8.out.all;have HPU:Hid (P64 w8 w.heap.size w.heap.size q q hs (ZO i j d U q 0)):=Zh (by rw[zpN hUl HUL.out];exact HP8.out);clear hT6 hT7 hT8 hO6 hO7 hO8 hO hi hj q1 q2 q3 q4 hd1 hd2 HT0 HP0 HB0 HU0 zti HI HL hxr HP HTA HBL HNX HP8 hpl hl0;go_wp2_with fail
     go_loopw [12,62] (fun _ s62 wr=>ziJ w q w.heap.size w.heap.size T hs te A c l (p+1+1+1) i j d U s62 wr) (fun _ s62 _=>q-(intOf s62).toNat)
     case atStart=>exact⟨0,by omega,rfl,HPU,HT8,hx8⟩
     case round=>
      unfold ziJ at hrel;obtain⟨r,hr,rfl,HP,HTA,hxr⟩:=hrel;by_cases hlt:r<q
      ·have hML:(ZO i j d U q r).length=q:=ziK _ _ _ _ _ _;obtain⟨br,hpr,c1,c2,c3,c4,c5⟩:=HP.out.hdr (i:=r) (by rw[hML];exact hlt);have zyS:=HP.out.gne hpr (by rw[hML];exact hlt);obtain⟨f1,f2⟩:=HP.out.entry (i:=r) (j:=i) hpr (by rw[hML];exact hlt) hiq;obtain⟨f3,f4⟩:=HP.out.entry (i:=r) (j:=j) hpr (by rw[hML];exact hlt) hjq;rw[ziL hlt hiq]at f1;rw[ziL hlt hjq]at f3;have hbi:=HUB.out r i;have hbj:=HUB.out r j
       have hnb:New br w:=⟨c5⟩;have hbT:=zrU.out br (Zm hpr);by_cases hij:i=j
       ·subst hij;by_cases hdn:d<0
        ·have hS:=HP.out.set hpr (by rw[hML];exact hlt) hiq (-ent U r i);rw[zpO hlt hiq hdn]at hS;have HS:=Zh hS;generalize ent U r i=ei at*
         have hwn:IntKind.i64.wrap (-ei)=-ei:=Iw;have hdd:decide (d<0)=true:=by simpa using hdn
         clear hS hpr;go_wp2_with fail
         go_region
         all_goals
          go_wp2_with fail
          exact⟨⟨r+1,by omega,by go_num,Zh (HS.out.ext Zi),Zh (TapeA.ext (TapeA.keep HTA.out HAL.out fun b hb=>Below.heap_setCell wr ⟨br,i,none⟩ (.int .i64 (-ei)) b (by simp;omega)) Zi),Zi⟩,by simp[intOf]<;>omega⟩
        ·have hdd:decide (d<0)=false:=by simpa using hdn
         rw[zpR hdn]at HP;clear hpr f1 f3 hbi hbj;go_wp2_with fail
         exact⟨⟨r+1,by omega,by go_num,Zh (HP.out.ext Zi),Zh (HTA.out.ext Zi),Zi⟩,by simp[intOf]<;>omega⟩
       ·have zyT:((i:Int)==(j:Int))=false:=by simp;omega
        have zyU:((i:Int) !=(j:Int))=true:=by simp;omega
        by_cases hd0:d=0
        ·subst hd0;have hS:=(HP.out.set hpr (by rw[hML];exact hlt) hiq (ent U r j)).set hpr (by rw[Jb,hML];exact hlt) hjq (ent U r i);rw[zpP hlt hiq hjq hij]at hS;have HS:=Zh hS;generalize ent U r i=ei at*
         generalize ent U r j=ej at*
         clear hS hpr hbi hbj;go_wp2_with fail
         go_region
         all_goals
          go_wp2_with fail
          exact⟨⟨r+1,by omega,by go_num,Zh (HS.out.ext Zi),Zh (TapeA.ext (TapeA.keep (TapeA.keep HTA.out HAL.out fun b hb=>Below.heap_setCell wr ⟨br,i,none⟩ (.int .i64 ej) b (by simp;omega)) HAL.out fun b hb=>Below.heap_setCell _ ⟨br,j,none⟩ (.int .i64 ei) b (by simp;omega)) Zi),Zi⟩,by simp[intOf]<;>omega⟩
        ·have hS:=HP.out.set hpr (by rw[hML];exact hlt) hiq (ent U r i+d*ent U r j);rw[zpQ hlt hiq hij hd0]at hS;have HS:=Zh hS;generalize ent U r i=ei at*
         generalize ent U r j=ej at*
         have hdz:(d==0)=false:=by simpa using hd0
         have hm:-400000<=d*ej/\d*ej<=400000:=by
          rcases(by omega:d=-2∨d=-1∨d=1∨d=2) with rfl|rfl|rfl|rfl<;>omega
         obtain⟨hm1,hm2⟩:=hm;have hwm:IntKind.i64.wrap (d*ej)=d*ej:=Iw;have hws:IntKind.i64.wrap (ei+d*ej)=ei+d*ej:=Iw;clear hS hpr hbi hbj;go_wp2_with fail
         go_region
         all_goals
          go_wp2_with fail
          exact⟨⟨r+1,by omega,by go_num,Zh (HS.out.ext Zi),Zh (TapeA.ext (TapeA.keep HTA.out HAL.out fun b hb=>Below.heap_setCell wr ⟨br,i,none⟩ (.int .i64 (ei+d*ej)) b (by simp;omega)) Zi),Zi⟩,by simp[intOf]<;>omega⟩
      ·obtain rfl:r=q:=by omega
       go_wp2_with fail
       exact⟨⟨k+1,_,_,by omega,by go_num,Zh (HP.out.ext Zi),ziK _ _ _ _ _ _,Zh (zpS HUO.out hiq hjq),Zh (fun p x=>by
        have:=zpT (i:=i) (j:=j) (n:=r) (B:=((3^k:Nat):Int)) (Int.natCast_nonneg _) ⟨hd3,hd4⟩ HUB.out p x;rw[Nat.pow_succ];omega),Zh (HTA.out.ext Zi),Zi⟩,by simp[intOf]<;>omega⟩
    ·have hor:decide ((k:Int)<12)=false∨(decide ((k:Int)<12)=true/\¬p<l.length):=by
      by_cases h:k<12
      ·exact .inr ⟨by simp;omega,fun h2=>hgo ⟨h,h2⟩⟩
      ·exact .inl (by simp;omega)
     have zrs:Hid (∀W,Ext wr W->zeL w q (.returned (.slice (some ⟨w.heap.size,0,none⟩) q q)) W):=Zh (fun W e=>⟨_,hs,U,rfl,HP.out.ext e,hUl,HUO.out,fun p x=>by
      have:=HUB.out p x;have h3k:(3^k:Nat)<=3^12:=Nat.pow_le_pow_right (by omega) hk;rw[show (3:Nat)^12=531441 by decide]at h3k;omega,hxr.trans e⟩)
     rcases hor with hd1|⟨hd1,hpl⟩
     ·clear oT;go_wp2_with fail
      go_quiet (fail)
      go_wp2_with fail
      go_ret;exact zrs.out _ Zi
     ·rw[show min p l.length=l.length by omega]at q2;have hd2:decide ((l.length:Int)<(l.length:Int))=false:=by simp
      clear oT;go_wp2_with fail
      go_quiet (fail)
      go_wp2_with fail
      go_ret;exact zrs.out _ Zi
theorem La.Bs.trans{k:Nat->Nat->Int}(h:Bs n f g)(h':Bs n g k):Bs n f k:=by
 induction h' with
 |refl=>exact h
 |red i j q _ h1 h2 ih=>exact ih.red i j q h1 h2
 |sw p _ h1 ih=>exact ih.sw p h1
 |ng i _ h1 ih=>exact ih.ng i h1
theorem zeM{z:Int}(h:-531441<=z/\z<=531441):Bd 20 z:=by
 unfold Bd;have:(2:Nat)^20=1048576:=by decide
 omega
theorem ziM(h:Z9 a)(i j:Nat):Bd 64 (ent a i j):=by
 unfold ent;rcases Zl i a.length with hi|hi
 ·have e:a.getD i []=a[i]:=by simp[List.getD,hi]
  rw[e];rcases Zl j (a[i]).length with hj|hj
  ·have e2:(a[i]).getD j 0=(a[i])[j]:=by simp[List.getD,hj]
   rw[e2];have:=h _ (List.getElem_mem hi) _ (List.getElem_mem hj);exact Bd.of64 this.1 this.2
  ·have e2:(a[i]).getD j 0=0:=by rw[List.getD_eq_getElem?_getD,List.getElem?_eq_none hj];rfl
   rw[e2];exact Bd.zero _
 ·have e:a.getD i []=[]:=by rw[List.getD_eq_getElem?_getD,List.getElem?_eq_none hi];rfl
  rw[e];exact Bd.zero _
theorem zpW(h4:n<=16)(ha:Z9 a)(hu:∀p x,-531441<=ent u p x/\ent u p x<=531441):BdM 199 (Zk n a u):=fun i j=>by
 have h1:=zct (n:=n) h4 (zec (n:=n) (a:=u) (fun i j=>zeM (hu i j))) (fun i j=>ziM ha i j);have h2:=zct (n:=n) h4 h1 (fun i j=>zeM (hu i j));exact(h2 i j).mono (by omega)
theorem zpX(ha:AllLen a n)(hu:∀p x,-531441<=ent a p x/\ent a p x<=531441):Z9 a:=fun r hr x hx=>by
 obtain⟨i,j,-,-,h⟩:=zdE ha hr hx;have:=hu i j;omega
def zaP(w:World)(n:Nat)(l:List Int)(kk:Int)(e:Ending)(w':World):Prop:=∃a hh A c,e= .returned (.slice A n c)/\GrOf l n kk a/\LLLed hh/\hh.length=n/\Bs n (ent a) (ent hh)/\Mat64 w' A hh/\n<=c/\c<=9223372036854775807/\Step w w'
def ziN(w:World)(n:Nat)(l:List Int)(kk:Int)(e:Ending)(w':World):Prop:=∃a b A c,e= .returned (.slice A n c)/\GrOf l n kk a/\Gm n b/\Bs n (ent a) (ent b)/\MatV w' A b/\Step w w'
theorem zpY(hN:Ints w NA te .i8 l)(h8:I8 l)(hl:l.length<=9223372036854775807)(hd0:0<=dim)(hd1:dim<256)(hk0:0<=kind)(hk1:kind<256)(hm1:1<=most)(hm4:most<=4):
  Cq 28 #[.agg #[.int .u8 dim,.int .u8 kind,.slice NA l.length nc,v3],.int .i64 most] w (zaP w (1+(dim%most).toNat) l (kind%8)):=by
 have zuQ:=Int.emod_lt_of_pos dim (show (0:Int)<most by omega);have HG:Hid (∀W,Ext w W->Cq 59 #[.agg #[.int .u8 dim,.int .u8 kind,.slice NA l.length nc,v3],.int .i64 most] W (zeK W (1+(dim%most).toNat) l (kind%8))):=Zh (fun W e=>ziG (hN.ext e) h8 hl hd0 hd1 hk0 hk1 hm1 (by omega));have hn4:1+(dim%most).toNat<=4:=by omega
 clear hN h8;generalize 1+(dim%most).toNat=n at*
 have HOF:Hid (∀(W0 W:World)(A:Option Addr)(c:Nat)(a:List (List Int)),Gm n a->Mat64 W0 A a->Z9 a->Ext W0 W->Cq 58 #[.slice A n c] W (RetOwnI W n a)):=Zh (fun W0 W A c a g hM hF e=>by
  have h:=zci (w:=W) (c:=c) hM.a n (by have:=g.n1;have:=g.len;omega) (by have:=g.len;omega) g.n1 (by omega) g.all hF;rwa [g.len]at h)
 go_enter Tryz.func28,Tryz.ntmps28;go_wp2_with (first
  |(go_at_call 59;refine(HG.out _ Zi).mono ?_;rintro e w1 ⟨g,a,rfl,hM,hGm,hF,hgr,hs1⟩;have hL:=hGm.len;have HM:=Zh hM;have HGm:=Zh hGm;have HF:=Zh hF;have HGR:=Zh hgr;have zxM:=Step.of _ _ (h:=hs1);clear hM hGm hF hs1 hgr)
  |(go_at_call 58;refine(HOF.out _ _ _ _ _ HGm.out HM.out HF.out Zi).mono ?_;rintro e w2 ⟨g2,zxm,c2,rfl,hO2,-,-,hs2⟩;rw[hL];have HMV:=Zh hO2.mat;clear hO2)
  |(go_at_call 52;refine(zhF HMV.out HGm.out hn4).mono ?_;rintro e w3 ⟨hh,A1,c1,A2,c2',rfl,hLL,zsB,hRel,hM3,hc1,hc2,hs3⟩))
 go_ret;exact⟨a,hh,A1,c1,rfl,HGR.out,hLL,zsB,(hRel.bs HGm.out.len HGm.out.all).1,hM3,hc1,hc2,Step.of _ _⟩
theorem zpZ(hN:Ints w NA te .i8 l)(h8:I8 l)(hl:l.length<=9223372036854775807)(hB:Ints w BA tb .i8 bl)(hb8:I8 bl)(hbl:bl.length<=9223372036854775807)(hd0:0<=dim)(hd1:dim<256)(hk0:0<=kind)(hk1:kind<256)(hm1:1<=most)(hm4:most<=8):
  Cq 53 #[.agg #[.int .u8 dim,.int .u8 kind,.slice NA l.length nc,.slice BA bl.length bc],.int .i64 most] w (ziN w (1+(dim%most).toNat) l (kind%8)):=by
 have zuQ:=Int.emod_lt_of_pos dim (show (0:Int)<most by omega);have HG:Hid (∀W,Ext w W->Cq 59 #[.agg #[.int .u8 dim,.int .u8 kind,.slice NA l.length nc,.slice BA bl.length bc],.int .i64 most] W (zeK W (1+(dim%most).toNat) l (kind%8))):=Zh (fun W e=>ziG (hN.ext e) h8 hl hd0 hd1 hk0 hk1 hm1 (by omega));have hn8:1+(dim%most).toNat<=8:=by omega
 have hn1:1<=1+(dim%most).toNat:=by omega
 clear hN h8;generalize 1+(dim%most).toNat=n at*
 have HU:Hid (∀W,Ext w W->Cq 92 #[.slice BA bl.length bc,.int .i64 n] W (zeL W n)):=Zh (fun W e=>zpV (hB.ext e) hb8 hbl hn1 (by omega));have HOF:Hid (∀(W0 W:World)(A:Option Addr)(c:Nat)(a:List (List Int)),a.length=n->AllLen a n->Mat64 W0 A a->Z9 a->Ext W0 W->Cq 58 #[.slice A n c] W (RetOwnI W n a)):=Zh (fun W0 W A c a gl ga hM hF e=>by
  have h:=zci (w:=W) (c:=c) hM.a n (by omega) (by omega) hn1 (by omega) ga hF;rwa [gl]at h)
 have HCG:Hid (∀(W0 W1 W:World)(A B:Option Addr)(c d:Nat)(a u:List (List Int)),Gm n a->Z9 a->MatV W0 A a->MatV W1 B u->u.length=n->AllLen u n->(∀p x,-531441<=ent u p x/\ent u p x<=531441)->Ext W0 W->Ext W1 W->Cq 90 #[.slice A n c,.slice B n d] W (RetOwnI W n (Zk n a u))):=Zh (fun W0 W1 W A B c d a u g hF hA hB hul hua hub e1 e2=>
  zed (w:=W) (k:=64) hA hB g.len hul hn1 (by omega) g.all hua (by omega) (ziM hF) (fun i j=>(zeM (hub i j)).mono (by omega)))
 clear hB hb8;go_enter Tryz.func53,Tryz.ntmps53;go_upto_region 2 with (go_at_call 59;refine(HG.out _ Zi).mono ?_;rintro e w1 ⟨g,a,rfl,hM,hGm,hF,hgr,hs1⟩;have hL:=hGm.len;have HM:=Zh hM;have HGm:=Zh hGm;have HF:=Zh hF;have HGR:=Zh hgr;have zxM:=Step.of _ _ (h:=hs1);clear hM hGm hF hs1 hgr)
 have hfb:=zk (Zi:Ext (w.alloc (.cells #[.int .u8 dim,.int .u8 kind,.slice NA l.length nc,.slice BA bl.length bc] 24)) w1) (heap_alloc_new w _);have HFB:Hid (∀W,Ext w1 W->W.cell? ⟨w.heap.size,3,none⟩=some (.slice BA bl.length bc)):=Zh (fun W e=>by
  have:=zk e hfb;simp[World.cell?,this])
 have HOA:=Zh (fun W(e:Ext w1 W)=>HOF.out w1 W (some ⟨g,0,none⟩) n a HGm.out.len HGm.out.all HM.out HF.out e);obtain⟨f0,f1,f2,f3⟩:True/\True/\True/\w1.cell? ⟨w.heap.size,3,none⟩=some (.slice BA bl.length bc):=⟨trivial,trivial,trivial,HFB.out w1 (Ext.refl _)⟩;clear HG hfb hL;go_region_held3 (fun w'=>w'.cell? ⟨w.heap.size,3,none⟩=some (.slice BA bl.length bc))
  (exact HFB.out _ Zi)
  (first
   |(go_at_call 92;refine(HU.out _ Zi).mono ?_;rintro e w2 ⟨gu,hsu,U,rfl,hPu,hUl,hUk,hUb,hxu⟩;have hua:=hPu.all;have HOU:=Zh (fun W(e:Ext w2 W)=>HOF.out w2 W (some ⟨gu,0,none⟩) n U hUl hua (hPu.mat hUl (by omega)) (zpX hua hUb) e);have HUA:=Zh (And.intro hUl (And.intro hua (And.intro hUk hUb)));have zyV:=hxu.toStep;clear hPu hUl hUk hUb hua hxu)
   |(go_at_call_of 58 (Value.slice (some ⟨g,0,none⟩) n n);refine(HOA.out _ Zi).mono ?_;rintro e w3 ⟨ga,hsa,ca,rfl,hOa,-,-,hs3⟩;have hMa:=hOa.mat;rw[HGm.out.len];clear hOa)
   |(go_at_call_of 58 (Value.slice (some ⟨gu,0,none⟩) n n);refine(HOU.out _ Zi).mono ?_;rintro e w4 ⟨gv,hsv,cv,rfl,hOv,-,-,hs4⟩;have hMv:=hOv.mat;rw[HUA.out.1];clear hOv)
   |(go_at_call 90;refine(HCG.out _ _ _ _ _ _ _ _ _ HGm.out HF.out hMa hMv HUA.out.1 HUA.out.2.1 HUA.out.2.2.2 Zi Zi).mono ?_;rintro e w5 ⟨gc,hsc,cc,rfl,hOc,-,-,hs5⟩;have hMc:=hOc.mat;rw[zaz];clear hOc))
 all_goals
  have hG2:=HGm.out.cong HUA.out.2.2.1 (zpW (n:=n) (by omega) HF.out HUA.out.2.2.2);have hxw:Ext w w5:=Zi;go_wp2_with fail
  go_ret;exact⟨a,Zk n a U,_,_,rfl,HGR.out,hG2.1,hG2.2,hMc.ext Zi,Step.of _ _⟩
theorem zp0(hN:Ints w NA te .i8 l)(h8:I8 l)(hl:l.length<=9223372036854775807)(hB:Ints w BA tb .i8 bl)(hb8:I8 bl)(hbl:bl.length<=9223372036854775807)(hd0:0<=dim)(hd1:dim<256)(hk0:0<=kind)(hk1:kind<256)(hm1:1<=most)(hm4:most<=4):
  Cq 24 #[.agg #[.int .u8 dim,.int .u8 kind,.slice NA l.length nc,.slice BA bl.length bc],.int .i64 most] w (zaP w (1+(dim%most).toNat) l (kind%8)):=by
 have zuQ:=Int.emod_lt_of_pos dim (show (0:Int)<most by omega);have HR:Hid (∀W,Ext w W->Cq 53 #[.agg #[.int .u8 dim,.int .u8 kind,.slice NA l.length nc,.slice BA bl.length bc],.int .i64 most] W (ziN W (1+(dim%most).toNat) l (kind%8))):=Zh (fun W e=>zpZ (hN.ext e) h8 hl (hB.ext e) hb8 hbl hd0 hd1 hk0 hk1 hm1 (by omega));have hn4:1+(dim%most).toNat<=4:=by omega
 clear hN h8 hB hb8;generalize 1+(dim%most).toNat=n at*
 go_enter Tryz.func24,Tryz.ntmps24;go_wp2_with (first
  |(go_at_call 53;refine(HR.out _ Zi).mono ?_;rintro e w1 ⟨a,b,A1,c1,rfl,hgr,hGm,hBs,hM,hs1⟩;have HM:=Zh hM;have HGm:=Zh hGm;have HGR:=Zh hgr;have HBS:=Zh hBs;clear hM hGm hgr hBs)
  |(go_at_call 52;refine(zhF HM.out HGm.out hn4).mono ?_;rintro e w3 ⟨hh,A2,c2,A3,c3,rfl,hLL,zsB,hRel,hM3,hc1,hc2,hs3⟩))
 go_ret;exact⟨a,hh,A2,c2,rfl,HGR.out,hLL,zsB,HBS.out.trans (hRel.bs HGm.out.len HGm.out.all).1,hM3,hc1,hc2,Step.of _ _⟩
def ziO(w:World)(its:List (Int×List Int))(N:Nat)(s3 i:Value)(wr:World):Prop:=∃(k:Nat) (B:Option Addr) (d:Nat) (vs:List Value),k<=N/\i= .int .i64 k/\s3= .slice B k d/\Hid (MOwn wr w.heap.size B k d ((its.take k).map Prod.snd) vs)/\Ext w wr
set_option maxRecDepth 20000 in
theorem zp1{w0:World}{c:Nat}{us:List Value}{its:List (Int×List Int)}(hA':Arr w0 A 47 us)(hV':ItV w0 us its)(hl:its.length<=1000000)[hx:Ext w0 w]:
  Cq 55 #[.slice A its.length c] w (Jv w (its.map Prod.snd)):=by
 have HA:=Zh (hA'.ext hx);have HV:=Zh (hV'.ext hx);obtain⟨N,hN⟩:=Xz its.length;have HN:=Zh hN;rw[<-hN]at hl|-
 clear hA' hV' hN;unfold Jv;go_enter Tryz.func55,Tryz.ntmps55;go_wp2;go_loopw [3,8] (fun s3 i wr=>ziO w its N s3 i wr) (fun _ i _=>N-(intOf i).toNat)
 case atStart=>exact⟨0,none,0,[],by omega,rfl,rfl,Zh (MOwn.nil _ _),Zi⟩
 case round=>
  unfold ziO at hrel;obtain⟨k,B,d,vs,hk,rfl,rfl,HM,hxr⟩:=hrel;by_cases hlt:k<N
  ·obtain⟨p,hp⟩:∃p,its[k]? =some p:=⟨_,Ze (by rw[<-HN.out];exact hlt)⟩;obtain⟨xa,x⟩:=p;obtain⟨X,cx,a1,a2,a3,a4,a5⟩:=HV.out.2 k _ hp;obtain⟨b,o,rfl,z1,z3⟩:=HA.out.at_ a1;obtain⟨b',o',hA',z2,-⟩:=HA.out.at_ a2;injection hA' with hA'
   injection hA' with y1 y2
   subst y1 y2;rw[<-Nat.add_assoc]at z2;simp only at a3 a4 z1 z2;have oB:Old b w:=⟨z3⟩;have hc1:wr.cell? ⟨b,o+k*2,none⟩=some (.int .i64 xa):=(zh w).trans z1;have hc2:wr.cell? ⟨b,o+k*2+1,none⟩=some (.slice X x.length cx):=(zh w).trans z2;have HX:=Zh a3;have HTK:Hid ((its.take (k+1)).map Prod.snd=(its.take k).map Prod.snd++[x]):=Zh (by rw[List.take_add_one,hp];simp);obtain⟨xl,hxl⟩:=Xz x.length
   have HXL:=Zh hxl;rw[<-hxl]at hc2 a4;clear a1 a2 a3 z1 z2 hp hxl;have zsR:Arr ((wr.alloc (.cells #[.int .i64 xa,.slice X xl cx] 47)).alloc (.cells #[.slice X xl cx] 28)) (some ⟨wr.heap.size+1,0,none⟩) 28 [.slice X xl cx]:=by
    have:=Arr.new (wr.alloc (.cells #[.int .i64 xa,.slice X xl cx] 47)) 28 #[.slice X xl cx];rwa [World.size_alloc]at this
   go_wp2_with (at_builtin;refine zM _ rfl _ _ 25 rfl w.heap.size 28 (.slice none 0 0) 1 24 Tryz.underlying25 qW rfl (by omega) (by omega) B k d vs rfl (HM.out.own.ext Zi) _ 1 1 [.slice X xl cx] rfl zsR (by simp) (by simp[Value.oneCell']) (by omega) (by have:=hxr.size;simp;omega) ?_;intro A4 d4 w4 zs1 hg4)
   have hx4:Ext w w4:=hg4.ext (hxr.trans Zi) Zr;refine⟨⟨k+1,A4,d4,vs++[.slice X xl cx],by omega,by go_num,rfl,Zh ?_,hx4⟩,by simp[intOf]<;>omega⟩;rw[HTK.out];rw[HXL.out]at zs1 a4|-
   exact HM.out.snoc (r:=x) Zi hg4 zs1 (HX.out.ext (hxr.trans Zi)) a4 a5
  ·obtain rfl:k=N:=by omega
   have htk:its.take k=its:=List.take_of_length_le (by rw[<-HN.out];exact Zr);rw[htk]at HM;have HCP:=Zh HM.out.own.cap;go_wp2_with fail
   go_ret;exact⟨B,d,by rw[List.length_map,<-HN.out];rfl,HM.out.mat,by rw[List.length_map,<-HN.out];exact HCP.out.1,HCP.out.2,Step.of _ _⟩
end
end Go.Proofs.YtcmkopogafchiaaGreat
