import Derived.Test.YtgoaelchibpffaaGreatT29
set_option maxHeartbeats 8000000
set_option linter.unusedVariables false
set_option linter.unusedSimpArgs false
namespace Go.Proofs.YtgoaelchibpffaaGreat
open Go.RowKit La
theorem zq6{w w':World}{a b:List (List Int)}{n q:Nat}{e:Ending}(h:zeX w a b n q e w'):∃(T:Option Addr) (m c:Nat) (ok:Bool) (k:Int),e= .returned (.tuple #[.slice T m c,.bool ok,.int .i64 k])/\Step w w'/\Hid ((T=none/\m=0/\c=0/\ok=false/\k=9)∨(m=n/\c=n/\ok=true/\k=0/\zP a q<=4000/\∃P t,PtsOf a q P/\Zt (Zy a b) P n []=some t/\Mat64 w' T (qZ n t))):=by
 obtain⟨hs,he|⟨ht,P,t,T,hP,hE,he,hT⟩⟩:=h
 ·exact⟨none,0,0,false,9,he,hs,Zh (.inl ⟨rfl,rfl,rfl,rfl,rfl⟩)⟩
 ·exact⟨T,n,n,true,0,he,hs,Zh (.inr ⟨rfl,rfl,rfl,rfl,ht,P,t,hP,hE,hT⟩)⟩
set_option maxRecDepth 20000 in
theorem zq7{w:World}{dim kind:Int}{NA BA:Option Addr}{l bl:List Int}{nc bc:Nat}{te tb:TypeId}(hN:Ints w NA te .i8 l)(h8:I8 l)(hl:l.length<=9223372036854775807)(hB:Ints w BA tb .i8 bl)(hb8:I8 bl)(hbl:bl.length<=9223372036854775807)(hd0:0<=dim)(hd1:dim<256)(hk0:0<=kind)(hk1:kind<256):
  Cq 3 #[.agg #[.int .u8 dim,.int .u8 kind,.slice NA l.length nc,.slice BA bl.length bc]] w (zA w (.bool true)):=by
 have HAW:Hid (∀W,Cq 11 #[] W (zA W (.bool true))):=Zh (fun W=>zqX);have HF:Hid (∀W,Ext w W->Cq 8 #[.agg #[.int .u8 dim,.int .u8 kind,.slice NA l.length nc,.slice BA bl.length bc],.int .i64 4] W (zcE W (1+(dim%4).toNat) l (kind%8))):=Zh (fun W e=>zps (most:=4) (hN.ext e) h8 hl hd0 hd1 hk0 hk1 aa aa);have HO:Hid (∀W,Ext w W->Cq 9 #[.agg #[.int .u8 dim,.int .u8 kind,.slice NA l.length nc,.slice BA bl.length bc],.int .i64 4] W (zcE W (1+(dim%4).toNat) l (kind%8))):=Zh (fun W e=>zpu (most:=4) (hN.ext e) h8 hl (hB.ext e) hb8 hbl hd0 hd1 hk0 hk1 aa aa)
 have hn1:1<=1+(dim%4).toNat:=aa
 have hn4:1+(dim%4).toNat<=4:=aa
 clear hN h8 hB hb8 hd0 hd1 hk0 hk1;generalize 1+(dim%4).toNat=n at*
 generalize kind%8=kk at*
 generalize l.length=ln at*
 generalize bl.length=bln at*
 have HBX:Hid (∀W,Ext (w.alloc (.cells #[.int .u8 dim,.int .u8 kind,.slice NA ln nc,.slice BA bln bc] 24)) W->W.cell? ⟨w.heap.size,0,none⟩=some (.int .u8 dim)/\W.cell? ⟨w.heap.size,1,none⟩=some (.int .u8 kind)/\W.cell? ⟨w.heap.size,2,none⟩=some (.slice NA ln nc)/\W.cell? ⟨w.heap.size,3,none⟩=some (.slice BA bln bc)):=Zh (fun W e=>by
  have h:=zg e (heap_alloc_new w (.cells #[.int .u8 dim,.int .u8 kind,.slice NA ln nc,.slice BA bln bc] 24));exact⟨by simp[World.cell?,h],by simp[World.cell?,h],by simp[World.cell?,h],by simp[World.cell?,h]⟩)
 go_enter Tryz.func3,Tryz.ntmps3;go_wp2_with fail
 go_region_held3 (fun w'=>w'.cell? ⟨w.heap.size,0,none⟩=some (.int .u8 dim)/\w'.cell? ⟨w.heap.size,1,none⟩=some (.int .u8 kind)/\w'.cell? ⟨w.heap.size,2,none⟩=some (.slice NA ln nc)/\w'.cell? ⟨w.heap.size,3,none⟩=some (.slice BA bln bc)) (exact HBX.out _ Zi)
  (first
  |(go_at_call 8;refine(HF.out _ Zi).mono ?_;rintro e w1 ⟨a,m1,A1,c1,rfl,hg1,hL1,hl1,hb1,hM1,hc1,hc2,hs1⟩;have HM1:=Zh hM1;have HL1:=Zh hL1;have HB1:=Zh hb1;have HG1:=Zh hg1;clear hM1 hL1 hb1 hg1)
  |(go_at_call 9;refine(HO.out _ Zi).mono ?_;rintro e w2 ⟨a',m2,A2,c2,rfl,hg2,hL2,hl2,hb2,hM2,hc3,hc4,hs2⟩;obtain rfl:=GrOf.uniq HG1.out hg2;have HM2:=Zh hM2;have HL2:=Zh hL2;have HB2:=Zh hb2;clear hM2 hL2 hb2 hg2))
 clear HBX;obtain⟨q,hq⟩:∃q:Nat,Zu m2 n=q:=⟨(Zu m2 n).toNat,by have:=ziP m2 n;omega⟩;have HFD:Hid (∀W,Ext w2 W->Cq 10 #[.slice A1 n c1,.slice A2 n c2,.int .i64 4000] W (zeX W m1 m2 n q)):=Zh (fun W e=>zq4 (w0:=W) ((HM1.out.ext (Zi:Ext w1 w2)).ext e) (HM2.out.ext e) hc1 hc2 hc3 hc4 HB1.out HB2.out HL1.out HL2.out hl1 hl2 hq);clear HF HO HG1;go_upto_region 3 with (go_at_call 10;refine(HFD.out _ Zi).mono ?_;rintro e w3 h3;obtain⟨T,tm,tc,ok,k3,rfl,hs3,h6⟩:=zq6 h3)
 rcases h6.out with ⟨rfl,rfl,rfl,rfl,rfl⟩|⟨rfl,rfl,rfl,rfl,zsP,P,t,hP,hE,hT⟩
 ·clear h6 h3;go_wp2_with (go_at_call 11;refine(HAW.out _).mono ?_;rintro e w8 ⟨rfl,hs8⟩)
  go_ret;exact⟨rfl,Step.of _ _⟩
 ·have hRa:=Zk HL1.out.red;have hRb:=Zk HL2.out.red;obtain⟨htl,htm,-⟩:=zeY hRa hRb hl1 hl2 hP hE (j:=0) aa;have HTL:Hid (t.length=tc/\∀x∈t,x.length=tc):=Zh ⟨htl,fun x hx=>by rw[((hP.mem x).1 (htm x hx)).1,hl1]⟩;have HT:=Zh hT;have HCN:Hid (∀(j:Nat)(C:Option Addr)(cc:Nat)(W0 W:World),j<tc->Mat64 W0 C (t.take j)->Ext w3 W0->Ext W0 W->Cq 13 #[.slice A1 tc c1,.slice A2 tc c2,.int .i64 4000,.slice C j cc] W (zjv W tc (t.getD j []))):=Zh (fun j C cc W0 W hj hC e0 e=>zq5 (w0:=W0) (((HM1.out.ext (Zi:Ext w1 w3)).ext e0)) ((HM2.out.ext (Zi:Ext w2 w3)).ext e0) hc1 hc2 hc3 hc4 HB1.out HB2.out HL1.out HL2.out hl1 hl2 hq zsP hP hE hj hC)
  have HSQ:Hid (∀W,Ext w3 W->Cq 12 #[.slice T tc tc,.int .i64 tc] W (zA W (.bool true))):=Zh (fun W e=>by
   have h:=zqY (w:=W) (c:=tc) (r:=tc) (n:=tc) HT.out (zbB _ _) (zjo HTL.out.1) aa aa;rwa [beq_self_eq_true]at h)
  have HCO:Hid (∀(j:Nat)(W:World),j<tc->Ext w3 W->Cq 15 #[.slice T tc tc,.int .i64 j] W fun e w'=>∃S d,e= .returned (.slice S tc d)/\Ints w' S 2 .i64 (t.getD j [])/\tc<=d/\d<=9223372036854775807/\Step W w'):=Zh (fun j W hj e=>by
   have h:=zjl (w:=W) (c:=tc) (r:=tc) (n:=tc) (j:=j) (HT.out.ext e) (zbB _ _) (zjo HTL.out.1) aa aa hj;rwa [zq0 HTL.out.1 HTL.out.2 hj]at h)
  have hxa:Ext w w3:=Zi;clear hRa hRb htl htm hT hP hE zsP h6 h3 HFD HM1 HM2 HL1 HL2 HB1 HB2 hq hl1 hl2;go_wp2_with (go_at_call 12;refine(HSQ.out _ Zi).mono ?_;rintro e w5 ⟨rfl,hs5⟩)
  go_loopw [2,8,9,10,11,12,14,44] (fun s1 s7 _ _ _ _ _ i wr=>∃(j:Nat) (S:Option Addr) (dd:Nat) (vs:List Value),j<=tc/\i= .int .i64 j/\s1= .bool false/\s7= .slice S j dd/\Hid (MOwn wr w5.heap.size S j dd (t.take j) vs)/\Ext w5 wr) (fun _ _ _ _ _ _ _ i _=>tc-(intOf i).toNat)
  case atStart=>exact⟨0,none,0,[],aa,rfl,rfl,rfl,Zh (MOwn.nil _ _),Zi⟩
  case round=>
   obtain⟨j,S,dd,vs,hj,rfl,rfl,rfl,HM,hxj⟩:=hrel;obtain⟨wj,rfl⟩:∃wj:World,wj=wr:=⟨_,rfl⟩;have hxb:Ext w3 wj:=(Zi:Ext w3 w5).trans hxj;by_cases hjl:j<tc
   ·have HCJ:=Zh (fun W(e:Ext wj W)=>HCN.out j S dd wj W hjl HM.out.mat hxb e);have zrM:=Zh (fun W(e:Ext wj W)=>HCO.out j W hjl (hxb.trans e));obtain⟨x,hx⟩:=Xz (t.getD j []);have hxl:x.length=tc:=by
     rw[hx,List.getD_eq_getElem?_getD,Ze (by rw[HTL.out.1];exact hjl)];exact HTL.out.2 _ (List.getElem_mem _)
    have HTK:Hid (t.take (j+1)=t.take j++[x]):=Zh (by
     have h:t[j]? =some x:=by
      rw[hx,List.getD_eq_getElem?_getD,Ze (by rw[HTL.out.1];exact hjl)];rfl
     rw[List.take_add_one,h];rfl)
    rw[<-hx]at HCJ zrM;have HXL:=Zh hxl;clear hx hxl;go_wp2_with (go_at_call 13;refine(HCJ.out _ Zi).mono ?_;rintro e w6 ⟨LA,lc,L,rfl,hLM,hxL,hLl,hL8,hs6⟩;have HLM:=Zh hLM;have HXI:=Zh hxL;have HLL:=Zh hLl;clear hLM hxL hLl)
    obtain⟨ll,hll⟩:=Xz L.length;have HL8:=Zh hll;rw[<-hll]at hL8|-
    clear hll;go_loopw [12,14,56] (fun f _ i wr=>∃(r:Nat) (fb:Bool),r<=ll/\i= .int .i64 r/\f= .bool fb/\Hid (x∈L.take r->fb=true)/\Ext w6 wr) (fun _ _ i _=>ll-(intOf i).toNat)
    case atStart=>exact⟨0,false,aa,rfl,rfl,Zh (fun h=>by simp at h),Zi⟩
    case round=>
     obtain⟨r,fb,hr,rfl,rfl,HFB,hxr⟩:=hrel;obtain⟨wi,rfl⟩:∃wi:World,wi=wr:=⟨_,rfl⟩;by_cases hrl:r<ll
     ·obtain⟨y,hy⟩:∃y,L[r]? =some y:=⟨_,Ze (by rw[<-HL8.out];exact hrl)⟩;obtain⟨yb,yo,B,c2,rfl,yc1,hYI,h1,h2,h3⟩:=(HLM.out.ext hxr).at_ hy;have hyl:y.length=tc:=HLL.out y (Zm hy);rw[hyl]at yc1;have HYI:=Zh (And.intro hYI hyl)
      cases fb with
      |true=>
       clear hYI h1 h2 hyl;go_wp2_with fail
       exact⟨⟨r+1,true,aa,by go_num,rfl,Zh (fun _=>rfl),hxr⟩,by simp[intOf]<;>omega⟩
      |false=>
       obtain⟨z,hz⟩:=Xz (zn y x);have zrT:=Zh (fun W(e:Ext wi W)=>zrM.out W (((Zi:Ext wj w6).trans hxr).trans e));have HCM:Hid (∀W S d,Ext wi W->Ints W S 2 .i64 x->Cq 14 #[.slice B tc c2,.slice S tc d] W (zA W (.int .i64 z))):=Zh (fun W S d e hS=>by
        have h:=zgv (w:=W) (c:=c2) (d:=d) (HYI.out.1.ext e) hS (by rw[HYI.out.2];omega) (by rw[HXL.out];omega);rw[HYI.out.2,HXL.out,<-hz]at h;refine h.mono ?_;rintro e w' ⟨rfl,nn,rfl⟩;exact⟨rfl,Step.of _ _⟩)
       have HST:Hid (∀g:Bool,(z=0->g=true)->x∈L.take (r+1)->g=true):=Zh (fun g hg hm=>by
        rw[List.take_add_one,hy]at hm;rcases List.mem_append.1 hm with hm|hm
        ·exact absurd (HFB.out hm) af
        ·have e:x=y:=by simpa using hm
         exact hg (by rw[hz,e,jk]))
       clear hYI h1 h2 hyl hz hy;by_cases hz0:z=0
       ·subst hz0;go_wp2_with (first
         |(go_at_call 15;refine(zrT.out _ Zi).mono ?_;rintro e w7 ⟨S7,d7,rfl,hI7,-,-,hs7⟩)
         |(go_at_call 14;refine(HCM.out _ _ _ Zi hI7).mono ?_;rintro e w8 ⟨rfl,hs8⟩))
        exact⟨⟨r+1,true,aa,by go_num,rfl,Zh (fun _=>rfl),hxr.trans (hs7.ext.trans hs8.ext)⟩,by simp[intOf]<;>omega⟩
       ·have hz1:(z==0)=false:=by simpa using hz0
        go_wp2_with (first
         |(go_at_call 15;refine(zrT.out _ Zi).mono ?_;rintro e w7 ⟨S7,d7,rfl,hI7,-,-,hs7⟩)
         |(go_at_call 14;refine(HCM.out _ _ _ Zi hI7).mono ?_;rintro e w8 ⟨rfl,hs8⟩))
        exact⟨⟨r+1,false,aa,by go_num,rfl,Zh (HST.out false (fun h=>absurd h hz0)),hxr.trans (hs7.ext.trans hs8.ext)⟩,by simp[intOf]<;>omega⟩
     ·obtain rfl:r=ll:=aa
      obtain rfl:fb=true:=HFB.out (by rw[List.take_of_length_le (by rw[<-HL8.out];exact Zr)];exact HXI.out);have hwi:Ext wj wi:=(Zi:Ext wj w6).trans hxr;have hz5:w5.heap.size<=wi.heap.size:=(hxj.trans hwi).size;have HMW:=Zh (HM.out.ext hwi);have zsm:=Zh (fun W(e:Ext wi W)=>zrM.out W (((Zi:Ext wj w6).trans hxr).trans e));go_wp2_with (first
       |(go_at_call 15;refine(zsm.out _ Zi).mono ?_;rintro e w7 ⟨S7,d7,rfl,hI7,k1,k2,hs7⟩)
       |(at_builtin;refine Zp _ rfl _ _ 25 rfl w5.heap.size 34 (.slice none 0 0) 1 24 Tryz.underlying25 qe rfl aa aa S j dd vs rfl ((HMW.out.own.ext hs7.ext).ext Zi) (some ⟨w7.heap.size,0,none⟩) 1 1 [.slice S7 tc d7] rfl (Arr.new w7 34 #[.slice S7 tc d7]) rfl (by simp[Value.oneCell']) aa (by have:=hs7.ext.size;simp<;>omega) ?_;intro S9 d9 w9 zwl hg9;have HO9:=Zh zwl;have HG9:=Zh hg9;clear zwl hg9))
      have hsn:=HMW.out.snoc (r:=x) (d:=d7) (hs7.ext.trans Zi) HG9.out (by rw[HXL.out];exact HO9.out) ((hI7.ext (Zi:Ext w7 (w7.alloc (.cells #[.slice S7 tc d7] 34))))) (by rw[HXL.out];exact k1) k2;exact⟨⟨j+1,S9,d9,_,aa,by go_num,rfl,rfl,Zh (by rw[HTK.out];exact hsn),HG9.out.ext ((hxj.trans (hwi.trans hs7.ext)).trans Zi) Zr⟩,by simp[intOf]<;>omega⟩
   ·obtain rfl:j=tc:=aa
    have hxc:Ext w wj:=hxa.trans hxb;go_wp2_with (go_at_call 11;refine(HAW.out _).mono ?_;rintro e w8 ⟨rfl,hs8⟩)
    go_ret;exact⟨rfl,Step.of _ _⟩
end Go.Proofs.YtgoaelchibpffaaGreat
