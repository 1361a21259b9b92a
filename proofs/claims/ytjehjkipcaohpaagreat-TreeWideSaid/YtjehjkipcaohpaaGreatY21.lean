/- Tr11 Tr12 Tr13 Tr14 Tr15 Tr16 Tr17 -/
import Derived.Test.YtjehjkipcaohpaaGreatY20
import Derived.Test.YtjehjkipcaohpaaGreatProg
import Derived.Test.YtjehjkipcaohpaaGreatYSh
import Derived.Deep.LoopGhost
import Derived.Defers
import Derived.Recover
set_option maxHeartbeats 8000000
set_option linter.unusedVariables false
set_option linter.unusedSimpArgs false
set_option linter.constructorNameAsVariable false
namespace Go.Proofs.YtjehjkipcaohpaaGreat
open Go.RowKit
def IvV (w:World) (A:Option Addr) (C:List (Int×Int)):Prop:=(∃te,Arr w A te (C.flatMap fun p=>[.int .i64 p.1,.int .i64 p.2]))/\∀p∈C,-9223372036854775808<=p.1/\p.1<=9223372036854775807/\-9223372036854775808<=p.2/\p.2<=9223372036854775807
theorem IvV.ext {w w':World} {A:Option Addr} {C:List (Int×Int)} (h:IvV w A C) (hx:Ext w w'):IvV w' A C:=by
 obtain ⟨⟨te,h1⟩,h2⟩:=h;exact ⟨⟨te,h1.ext hx⟩,h2⟩
def IvT (w:World) (A:Option Addr) (C:List (Int×Int)):Prop:=Arr w A 64 (C.flatMap fun p=>[.int .i64 p.1,.int .i64 p.2])/\∀p∈C,-9223372036854775808<=p.1/\p.1<=9223372036854775807/\-9223372036854775808<=p.2/\p.2<=9223372036854775807
theorem IvT.toV {w:World} {A:Option Addr} {C:List (Int×Int)} (h:IvT w A C):IvV w A C:=⟨⟨_,h.1⟩,h.2⟩
theorem zfm:∀(C:List (Int×Int)) (i:Nat) (p:Int×Int),C[i]? =some p->(C.flatMap fun p=>[Value.int .i64 p.1,Value.int .i64 p.2])[i*2]? =some (.int .i64 p.1)/\(C.flatMap fun p=>[Value.int .i64 p.1,Value.int .i64 p.2])[i*2+1]? =some (.int .i64 p.2)
 |[],i,p,h=>by simp at h
 |q::C,0,p,h=>by simp at h;subst h;exact ⟨rfl,rfl⟩
 |q::C,i+1,p,h=>by
  have :=zfm C i p (by simpa using h);rw [show (i+1)*2=i*2+2 by omega];exact this
theorem IvV.at_ {w:World} {A:Option Addr} {C:List (Int×Int)} (h:IvV w A C) {i:Nat} {p:Int×Int} (hi:C[i]? =some p):∃b o,A=some ⟨b,o,none⟩/\w.cell? ⟨b,o+i*2,none⟩=some (.int .i64 p.1)/\w.cell? ⟨b,o+i*2+1,none⟩=some (.int .i64 p.2)/\b<w.heap.size:=by
 obtain ⟨f1,f2⟩:=zfm C i p hi;obtain ⟨⟨te,ha⟩,-⟩:=h;obtain ⟨b,o,hA,h1,h2⟩:=ha.at_ f1;obtain ⟨b',o',hA',h1',-⟩:=ha.at_ f2;rw [hA] at hA';injection hA' with hA'
 injection hA' with z1 z2
 subst z1 z2;exact ⟨b,o,hA,h1,h1',h2⟩
def zk1 (w:World) (y:Lay) (D:List Int) (L:List (List Int)) (R:Option (List (List Int))) (e:Ending) (W':World):Prop:=
 (∃l',R=some l'/\e= .returned (.tuple #[])/\∃x rest lv lB c vs,CMem w W' y D L x rest lv lB c l' vs)∨(R=none/\(∃u pv,e= .panicked [{v:= .iface u pv,recovered:=false}])/\Ext w W'/\Keeps 4 y.gw W')
set_option maxRecDepth 100000 in
theorem zk2 {w W:World} {y:Lay} {D:List Int} {L:List (List Int)} {bound:Int} {x rest:List Int} {lv:List Lvl} {lB:Option Addr} {c cc:Nat} {l:List (List Int)} {vs:List Value} {A:Option Addr} {C:List (Int×Int)} (hN:ChkN D L y.n bound) (hI:ChkInv D L y.n bound (y.n-1) x rest lv) (hM:CMem w W y D L x rest lv lB c l vs) (hC:IvV w A C) (zqg:C.length<=1099511627776) (hl:l.length<=4097):
  Calls Tryz.prog 116 #[.pointer (some ⟨y.K,0,none⟩),.slice A C.length cc] W (zk1 w y D L (ZR D L y.n C (y.n-1) x rest lv l)):=by
 obtain ⟨K,bx,br,bl,base,n,mA,lA,mc,lc,gw⟩:=y;simp only at hN hI |-
 have hn1:=hN.n1;have hn8:=hN.n8;obtain ⟨R,hR⟩:∃R,ZR D L n C (n-1) x rest lv l=R:=⟨_,rfl⟩;rw [hR];obtain ⟨q0,q1,q2,q3,q4,q5,q6,q7⟩:=hM.kc;simp only at q0 q1 q2 q3 q4 q5 q6 q7;obtain ⟨cl,hcl⟩:∃cl,C.length=cl:=⟨_,rfl⟩;rw [hcl] at zqg |-
 have HN:=Zh hN;have HI:=Zh hI;have HM:=Zh hM;have HC:=Zh hC;have HR:=Zh hR;have HL:=Zh hl;have HCL:=Zh hcl;clear hN hI hM hC hR hl hcl;go_enter Tryz.func116,Tryz.ntmps116;go_wp2_with fail
 go_step3
 go_wp2_with fail
 go_step3
 go_wp2_with fail
 go_loopw [5,6,16] (fun s5 _ s16 wr=>∃(i:Nat) (kz:Int) (k:Nat) (x rest:List Int) (lv:List Lvl) (lB:Option Addr) (c:Nat) (l:List (List Int)) (vs:List Value),s16= .int .i64 i/\i<=cl/\s5= .int .i64 kz/\Hid (kz=(k:Int))/\0<=kz/\kz<n/\Hid (ChkInv D L n bound k x rest lv)/\Hid (CMem w wr ⟨K,bx,br,bl,base,n,mA,lA,mc,lc,gw⟩ D L x rest lv lB c l vs)/\Hid (l.length<=4097)/\Hid (ZR D L n (C.drop i) k x rest lv l=R)) (fun _ _ s16 _=>cl-(intOf s16).toNat)
 case atStart=>exact ⟨0,_,n-1,x,rest,lv,lB,c,l,vs,rfl,by omega,rfl,Zh (by omega),by omega,by omega,HI,HM,HL,HR⟩
 case round=>
  obtain ⟨i,kz,k,x,rest,lv,lB,c,l,vs,rfl,hi,rfl,HKZ,ztd,zvD,HI,HM,HL,HR⟩:=hrel;obtain ⟨wo,rfl⟩:∃wo:World,wo=wr:=⟨_,rfl⟩;obtain rfl:kz=(k:Int):=HKZ.out;clear q0 q1 q2 q3 q4 q5 q6 q7 HKZ;by_cases hlt:i<cl
  ·obtain ⟨⟨lo,hi'⟩,hp⟩:∃p,C[i]? =some p:=⟨_,List.getElem?_eq_getElem (by rw [HCL.out];exact hlt)⟩;obtain ⟨b,o,rfl,c1,c2,c3⟩:=(HC.out.ext HM.out.ext).at_ hp;simp only at c1 c2;obtain ⟨bd1,bd2,bd3,bd4⟩:=HC.out.2 _ (List.mem_of_getElem? hp);simp only at bd1 bd2 bd3 bd4;have zte:C.drop i=(lo,hi')::C.drop (i+1):=by
    have h1:=(List.getElem?_eq_some_iff.1 hp).1;rw [List.drop_eq_getElem_cons h1,(List.getElem?_eq_some_iff.1 hp).2]
   have zqy:=HR.out;rw [zte,ZR] at zqy;try simp only at zqy
   have hkn:k<n:=by omega
   have zqA:=HI.out.lev HN.out;have hr1:rest[k+1]? =some (rest.getD (k+1) 0):=by have :=HI.out.rl;simp [show k+1<rest.length by omega]
   obtain ⟨v,hv⟩:∃v,zV D L k x rest hi'=v:=⟨_,rfl⟩;rw [hv] at zqy;have zrZ:=fun W' (hh:Ext wo W')=>zkV (W:=W') (lo:=lo) (hi:=hi') (HM.out.to hh) zqA hr1 bd1 bd2 bd3 bd4
   have hv':(⟨vD D (k+1),zy (L.getD k []) (x.drop (k+1)),rest.getD (k+1) 0*vD D k,hi'⟩:Lvl)=v:=hv;have hvh:v.hi=hi':=by rw [<-hv']
   have hvm:v.mi=vD D (k+1)/\v.sh=zy (L.getD k []) (x.drop (k+1))/\v.lim=rest.getD (k+1) 0*vD D k:=by rw [<-hv'];exact ⟨rfl,rfl,rfl⟩
   obtain ⟨zst,zsu,zsv⟩:=hvm;rw [hv',<-zst,<-zsu,<-zsv] at zrZ;try simp only at zrZ
   have zpr:=Zh zrZ;have HST:=Zh zqy;have HV:=Zh hv;have HVH:=Zh hvh;have HPI:=Zh hp;have oC:Old b wo:=⟨c3⟩;have hI1:=HI.out.setLv v;have hvg:(lv.set k v).getD k ⟨0,0,0,0⟩=v:=Q7 _ _ _ _ (by rw [HI.out.ll];exact hkn);have HI1:=Zh hI1;have HVG:=Zh hvg;have hmi:1<=v.mi/\v.mi<65536:=by rw [zst];exact ⟨HN.out.d1 _ (by omega),HN.out.d2 _ (by omega)⟩
   have hsb:-288230376151711744<=v.sh/\v.sh<=288230376151711744:=by rw [zsu];exact zbc zqA.n8 zqA.ll zqA.bl zqA.bx
   have hlm:v.lim<18446744073709551616:=by rw [zsv];exact zqA.r1
   clear zrZ zqy hv hv' hvh zte hI1 hvg zst zsu zsv hp zqA hr1;obtain ⟨ok,hok⟩:∃ok,ZH v.mi v.sh v.lim lo hi'=ok:=⟨_,rfl⟩;rw [hok] at zpr HST;have HOK:=Zh hok;clear hok
   cases ok
   ·have zpj:Hid (R=none):=Zh (by have :=HST.out;simpa using this.symm);go_wp2_with (go_at_call 176;refine (zpr.out _ Zi).mono ?_;rintro e W1 ⟨hM1,hh⟩;rcases hh with ⟨h0,-⟩ |⟨-,vu,vv,rfl⟩;(first |cases h0 |skip))
    rw [Exit.noGoto_panic];exact zar rfl (.inr ⟨zpj.out,⟨vu,vv,rfl⟩,hM1.ext,hM1.kp⟩)
   ·obtain ⟨ab1,ab2,ab3,ab4⟩:=zfl HOK.out;have zps:Hid (∀W',Ext wo W'->Calls Tryz.prog 176 #[.pointer (some ⟨K,0,none⟩),.int .i64 k,.agg #[.int .i64 lo,.int .i64 hi']] W' fun e W1=>e= .returned (.tuple #[])/\CMem w W1 ⟨K,bx,br,bl,base,n,mA,lA,mc,lc,gw⟩ D L x rest (lv.set k v) lB c l vs):=Zh (fun W' hh=>(zpr.out W' hh).mono (fun e W1 ⟨hM1,h2⟩=>by
     rcases h2 with ⟨-,he⟩ |⟨h0,-⟩
     ·exact ⟨he,hM1⟩
     ·cases h0))
    clear zpr;have zpt:Hid ((if 0<k/\lo<=hi' then ZR D L n (C.drop (i+1)) (k-1) (x.set k lo) (rest.set k (qu v lo)) (lv.set k v) l else match qm n x (lv.set k v) (k+1) with |some k1=>ZR D L n (C.drop (i+1)) (k1-1) (x.set k1 (x.getD k1 0+1)) (rest.set k1 (qu ((lv.set k v).getD k1 ⟨0,0,0,0⟩) (x.getD k1 0+1))) (lv.set k v) (Qu k x lo hi' l) |none=>if C.drop (i+1)=[] then some (Qu k x lo hi' l) else none)=R):=Zh (by have :=HST.out;rw [if_pos rfl] at this;exact this)
    clear HST;by_cases hdn:0<k/\lo<=hi'
    ·have HR2:Hid (ZR D L n (C.drop (i+1)) (k-1) (x.set k lo) (rest.set k (qu v lo)) (lv.set k v) l=R):=Zh (by have :=zpt.out;rwa [if_pos hdn] at this);obtain ⟨hk0,hle⟩:=hdn;obtain ⟨in1,in2⟩:=ab4 hle;have d1:decide ((0:Int)<(k:Int))=true:=by simp;omega
     have d2:decide (lo<=hi')=true:=by simpa using hle
     have zqr:=zbb (x:=lo) hmi.1 hmi.2 hsb ⟨by omega,by omega⟩;have zqH:=fun (W':World) (hM':CMem w W' ⟨K,bx,br,bl,base,n,mA,lA,mc,lc,gw⟩ D L x rest (lv.set k v) lB c l vs)=>zcB (xv:=lo) (u:=zG v.mi v.sh lo) hM' hkn hn8 (k:=k) (v:=v) (by rw [List.getElem?_set_self (by rw [HI.out.ll];exact hkn)]) zqr rfl hmi.1 hmi.2 (zbd in1) hlm
     have zpn:=Zh zqH;have HI2:Hid (ChkInv D L n bound (k-1) (x.set k lo) (rest.set k (qu v lo)) (lv.set k v)):=Zh (by
      have :=HI1.out.next HN.out (a:=lo) hk0 (by rw [HVG.out,HVH.out,HV.out]) (by have h1:=in1;rw [<-HV.out] at h1;exact h1) (by rw [HVG.out,HVH.out];have h1:=in2;rw [<-HV.out] at h1;exact h1) (by rw [HVG.out,HVH.out];exact ab2) ab1 (by omega);rwa [HVG.out] at this)
     clear zqH zpt zqr in1 in2 ab4;go_wp2_with (go_at_call 176;refine (zps.out _ Zi).mono ?_;rintro e W1 ⟨rfl,hM1⟩;have hcc:=(HC.out.ext hM1.ext).at_ (i:=i) (p:=(lo,hi')) HPI.out;obtain ⟨b',o',hA',c1',c2',c3'⟩:=hcc;injection hA' with hA';injection hA' with z1 z2;subst z1 z2;simp only at c1' c2';have HM1:=Zh hM1;clear hM1)
     go_quiet (fail)
     go_wp2_with (go_at_call 177;refine (zpn.out _ (HM1.out.to Zi)).mono ?_;rintro e W2 ⟨rfl,hM2⟩;have HM2:=Zh hM2;clear hM2)
     exact ⟨⟨i+1,(k:Int)-1,k-1,_,_,_,_,_,_,_,by go_num,by omega,rfl,Zh (by omega),by omega,by omega,HI2,HM2,HL,HR2⟩,by simp [intOf];omega⟩
    ·have HR2:Hid ((match qm n x (lv.set k v) (k+1) with |some k1=>ZR D L n (C.drop (i+1)) (k1-1) (x.set k1 (x.getD k1 0+1)) (rest.set k1 (qu ((lv.set k v).getD k1 ⟨0,0,0,0⟩) (x.getD k1 0+1))) (lv.set k v) (Qu k x lo hi' l) |none=>if C.drop (i+1)=[] then some (Qu k x lo hi' l) else none)=R):=Zh (by have :=zpt.out;rwa [if_neg hdn] at this);have hgd:(decide ((0:Int)<(k:Int))=true/\decide (lo<=hi')=false)∨decide ((0:Int)<(k:Int))=false:=by
      by_cases h0:0<k
      ·exact .inl ⟨by simp;omega,by simp;omega⟩
      ·exact .inr (by simp;omega)
     clear zpt ab4 hgd;obtain ⟨l1,hl1⟩:∃l1,Qu k x lo hi' l=l1:=⟨_,rfl⟩;rw [hl1] at HR2;have HR3:=HR2;clear HR2;by_cases hk0:k=0
     ·have dk:decide ((0:Int)<(k:Int))=false:=by simp;omega
      have ek:((k:Int)==0)=true:=by simp;omega
      have hne:x≠[]:=fun h0=>by have :=HI.out.xl;rw [h0] at this;simp at this;omega
      obtain ⟨x0,tail,hxt⟩:∃x0 tail,x=x0::tail:=by
       cases x with
       |nil=>exact absurd rfl hne
       |cons a t=>exact ⟨a,t,rfl⟩
      have zrp:=fun (W':World) (hM':CMem w W' ⟨K,bx,br,bl,base,n,mA,lA,mc,lc,gw⟩ D L x rest (lv.set k v) lB c l vs)=>zk0 (lo:=lo) (hi:=hi') (x0:=x0) (tail:=tail) (by rw [<-hxt];exact hM') hn8 ab1 (by omega) (by omega) ab2 HL.out
      have zr0:l++zZ tail (ZQ tail lo) (zO (ZQ tail lo) hi' l.length)=l1:=by rw [<-hl1,Qu,if_pos hk0,hxt];rfl
      rw [zr0,<-hxt] at zrp;have HL1:Hid (l1.length<=4097):=Zh (by rw [<-zr0,List.length_append,jp];have :=HL.out;unfold zO;omega);have zpY:=Zh zrp;have hkb:¬((0:Int)<k):=by omega
      have zur:k<1:=by omega
      have zvE:decide (0<k)=false:=by simp;omega
      have HK0:=Zh hk0;clear zrp zr0 hxt hl1 hne hk0 hdn;go_wp2_with (go_at_call 176;refine (zps.out _ Zi).mono ?_;rintro e W1 ⟨rfl,hM1⟩;have hcc:=(HC.out.ext hM1.ext).at_ (i:=i) (p:=(lo,hi')) HPI.out;obtain ⟨b',o',hA',c1',c2',c3'⟩:=hcc;injection hA' with hA';injection hA' with z1 z2;subst z1 z2;simp only at c1' c2';have HM1:=Zh hM1;clear hM1)
      go_quiet (fail)
      go_wp2_with (go_at_call 178;refine (zpY.out _ (HM1.out.to Zi)).mono ?_;rintro e W2 ⟨rfl,lB2,c2,vs2,hM2⟩;have HM2:=Zh hM2;clear hM2)
      go_loopw [5] (fun s5 wr2=>∃(kz:Int) (k':Nat),s5= .int .i64 kz/\Hid (kz=(k':Int))/\0<=kz/\k<k'/\k'<=n/\Hid (qm n x (lv.set k v) (k+1)=qm n x (lv.set k v) k')/\Hid (CMem w wr2 ⟨K,bx,br,bl,base,n,mA,lA,mc,lc,gw⟩ D L x rest (lv.set k v) lB2 c2 l1 vs2)) (fun s5 _=>n-(intOf s5).toNat)
      case atStart=>exact ⟨_,k+1,rfl,Zh (by omega),by omega,by omega,by omega,Zh rfl,Zh (HM2.out.to Zi)⟩
      case round=>
       obtain ⟨kz,k',rfl,HKZ,ztd,hkk,zus,HUP,HM3⟩:=hrel;obtain rfl:kz=(k':Int):=HKZ.out;clear HKZ;by_cases hin:k'<n
       ·obtain ⟨q0,q1,q2,q3,q4,q5,q6,q7⟩:=HM3.out.kc;simp only at q0 q1 q2 q3 q4 q5 q6 q7;obtain ⟨xk,hxk,x1⟩:=HM3.out.xr.cell (i:=k') (by rw [HI.out.xl];exact hin);simp only at x1;have hxg:x.getD k' 0=xk:=by simp [hxk]
        obtain ⟨v1,hv1⟩:∃v1,(lv.set k v)[k']? =some v1:=⟨_,List.getElem?_eq_getElem (by rw [HI1.out.ll];exact hin)⟩;have zq5:(lv.set k v).getD k' ⟨0,0,0,0⟩=v1:=by simp [hv1]
        obtain ⟨hLv1,w5⟩:=HM3.out.lr.at_ hv1;simp only at hLv1 w5;have hLl:=hLv1.lt;obtain ⟨lo1,lo2,lo3,lo4⟩:=HI1.out.lo k' hkk hin;rw [zq5] at lo1 lo3 lo4;rw [hxg] at lo2;have hxb:=HI.out.xb xk (List.mem_of_getElem? hxk);have zrk:=HUP.out;rw [zfj hin,hxg,zq5] at zrk;have zpo:=Zh lo1;have zpk:=Zh lo2;have zpg:=Zh lo3;have HV1:=Zh hv1;have zpd:=Zh zq5;have HXG:=Zh hxg;have HUE:=Zh zrk;have oX:Old bx wr:=⟨by have h1:=HM3.out.sz;have h2:=HM3.out.bx;simp only at h1 h2;omega⟩
        clear zrk zq5 hxg hxk hv1 lo1 lo2 lo3 hLv1;by_cases hup:xk<v1.hi
        ·have d3:decide (xk<v1.hi)=true:=by simpa using hup
         have HR4:Hid (ZR D L n (C.drop (i+1)) (k'-1) (x.set k' (xk+1)) (rest.set k' (qu v1 (xk+1))) (lv.set k v) l1=R):=Zh (by
          have h1:=HR3.out;rw [HUE.out,if_pos hup] at h1;simp only [zpd.out,HXG.out] at h1;exact h1)
         have zsw:v1.mi=vD D (k'+1)/\v1.sh=zy (L.getD k' []) (x.drop (k'+1))/\v1.lim=rest.getD (k'+1) 0*vD D k':=by rw [zpo.out];exact ⟨rfl,rfl,rfl⟩
         obtain ⟨m1,m2,m3⟩:=zsw;have zqD:=(HI1.out.mono (Nat.le_of_lt hkk) hin).lev HN.out;have in3:zS v1.mi v1.sh v1.lim (xk+1)=true:=by
          rw [m1,m2,m3];exact zfk zqD.c0 zpk.out zpg.out (by omega) (by omega)
         have zrG:-288230376151711744<=v1.sh/\v1.sh<=288230376151711744:=by rw [m2];exact zbc zqD.n8 zqD.ll zqD.bl zqD.bx
         have zq6:1<=v1.mi/\v1.mi<65536:=by rw [m1];exact ⟨zqD.c0,zqD.c1⟩
         have zrH:=zbb (x:=xk+1) zq6.1 zq6.2 zrG ⟨by omega,by omega⟩;have zqH:=fun (W':World) (hM':CMem w W' ⟨K,bx,br,bl,base,n,mA,lA,mc,lc,gw⟩ D L x rest (lv.set k v) lB2 c2 l1 vs2)=>zcB (xv:=xk+1) (u:=zG v1.mi v1.sh (xk+1)) hM' hin hn8 (k:=k') (v:=v1) HV1.out zrH rfl zq6.1 zq6.2 (zbd in3) (by rw [m3];exact zqD.r1)
         have zpn:=Zh zqH;have HI2:Hid (ChkInv D L n bound (k'-1) (x.set k' (xk+1)) (rest.set k' (qu v1 (xk+1))) (lv.set k v)):=Zh (by
          have h1:=in3;rw [m1,m2,m3] at h1;have :=(HI1.out.mono (Nat.le_of_lt hkk) hin).next HN.out (a:=xk+1) (by omega) (by rw [zpd.out];exact zpo.out) h1 (by rw [zpd.out];exact zpg.out) (by rw [zpd.out];exact lo4) (by omega) (by omega);rwa [zpd.out] at this)
         have exk:IntKind.i64.wrap (xk+1)=xk+1:=IntWalk.i64_in _ (by omega);generalize v1.hi=h1i at w5 d3 hup lo4 zpg;clear zqH m1 m2 m3 zqD in3 zrH;go_wp2_with fail
         go_quiet (fail)
         clear exk;go_wp2_with (go_at_call 177;refine (zpn.out _ (HM3.out.to Zi)).mono ?_;rintro e W4 ⟨rfl,hM4⟩;have HM4:=Zh hM4;clear hM4)
         exact ⟨⟨i+1,(k':Int)-1,k'-1,_,_,_,_,_,_,_,by go_num,by omega,rfl,Zh (by omega),by omega,by omega,HI2,HM4,HL1,HR4⟩,by simp [intOf];omega⟩
        ·have d3:decide (xk<v1.hi)=false:=by simpa using hup
         have zpA:Hid (qm n x (lv.set k v) (k+1)=qm n x (lv.set k v) (k'+1)):=Zh (by rw [HUE.out,if_neg hup]);generalize v1.hi=h1i at w5 d3 hup lo4 zpg;go_wp2_with fail
         go_quiet (fail)
         go_wp2_with fail
         exact ⟨⟨(k':Int)+1,k'+1,rfl,Zh (by omega),by omega,by omega,by omega,zpA,Zh (HM3.out.to Zi)⟩,by simp [intOf];omega⟩
       ·have HR4:Hid ((if C.drop (i+1)=[] then some l1 else none)=R):=Zh (by
         have h1:=HR3.out;rw [HUP.out,zcC hin] at h1;exact h1)
        by_cases hls:i+1<cl
        ·have zpj:Hid (R=none):=Zh (by
          have h1:=HR4.out;rw [if_neg (by intro h0;have :=List.drop_eq_nil_iff.1 h0;have :=HCL.out;omega)] at h1;exact h1.symm)
         go_wp2_with fail
         rw [Exit.noGoto_panic];exact zar rfl (.inr ⟨zpj.out,⟨_,_,rfl⟩,HM3.out.ext,HM3.out.kp⟩)
        ·have zpB:Hid (R=some l1):=Zh (by
          have h1:=HR4.out;rw [if_pos (List.drop_eq_nil_iff.2 (by have :=HCL.out;omega))] at h1;exact h1.symm)
         go_wp2_with fail
         rw [Exit.noGoto_ret];refine bodyPost_ret (results_none rfl _ _ _) rfl ?_;exact .inl ⟨l1,zpB.out,rfl,_,_,_,_,_,_,HM3.out⟩
     ·have dk:decide ((0:Int)<(k:Int))=true:=by simp;omega
      have dl:decide (lo<=hi')=false:=by simp;omega
      have ek:((k:Int)==0)=false:=by simp;omega
      obtain rfl:l1=l:=by rw [<-hl1,Qu,if_neg hk0]
      have HL1:=HL;have hkp:0<k:=by omega
      have hgt:hi'<lo:=by omega
      clear hl1 hdn;obtain ⟨lB2,hlB2⟩:∃lB2,lB2=lB:=⟨_,rfl⟩;obtain ⟨c2,hc2⟩:∃c2,c2=c:=⟨_,rfl⟩;obtain ⟨vs2,ztf⟩:∃vs2,vs2=vs:=⟨_,rfl⟩;rw [<-hlB2,<-hc2,<-ztf] at zps;clear hlB2 hc2 ztf;go_wp2_with (go_at_call 176;refine (zps.out _ Zi).mono ?_;rintro e W1 ⟨rfl,hM1⟩;have hcc:=(HC.out.ext hM1.ext).at_ (i:=i) (p:=(lo,hi')) HPI.out;obtain ⟨b',o',hA',c1',c2',c3'⟩:=hcc;injection hA' with hA';injection hA' with z1 z2;subst z1 z2;simp only at c1' c2';have HM2:=Zh hM1;clear hM1)
      go_quiet (fail)
      go_wp2_with fail
      go_loopw [5] (fun s5 wr2=>∃(kz:Int) (k':Nat),s5= .int .i64 kz/\Hid (kz=(k':Int))/\0<=kz/\k<k'/\k'<=n/\Hid (qm n x (lv.set k v) (k+1)=qm n x (lv.set k v) k')/\Hid (CMem w wr2 ⟨K,bx,br,bl,base,n,mA,lA,mc,lc,gw⟩ D L x rest (lv.set k v) lB2 c2 l1 vs2)) (fun s5 _=>n-(intOf s5).toNat)
      case atStart=>exact ⟨_,k+1,rfl,Zh (by omega),by omega,by omega,by omega,Zh rfl,Zh (HM2.out.to Zi)⟩
      case round=>
       obtain ⟨kz,k',rfl,HKZ,ztd,hkk,zus,HUP,HM3⟩:=hrel;obtain rfl:kz=(k':Int):=HKZ.out;clear HKZ;by_cases hin:k'<n
       ·obtain ⟨q0,q1,q2,q3,q4,q5,q6,q7⟩:=HM3.out.kc;simp only at q0 q1 q2 q3 q4 q5 q6 q7;obtain ⟨xk,hxk,x1⟩:=HM3.out.xr.cell (i:=k') (by rw [HI.out.xl];exact hin);simp only at x1;have hxg:x.getD k' 0=xk:=by simp [hxk]
        obtain ⟨v1,hv1⟩:∃v1,(lv.set k v)[k']? =some v1:=⟨_,List.getElem?_eq_getElem (by rw [HI1.out.ll];exact hin)⟩;have zq5:(lv.set k v).getD k' ⟨0,0,0,0⟩=v1:=by simp [hv1]
        obtain ⟨hLv1,w5⟩:=HM3.out.lr.at_ hv1;simp only at hLv1 w5;have hLl:=hLv1.lt;obtain ⟨lo1,lo2,lo3,lo4⟩:=HI1.out.lo k' hkk hin;rw [zq5] at lo1 lo3 lo4;rw [hxg] at lo2;have hxb:=HI.out.xb xk (List.mem_of_getElem? hxk);have zrk:=HUP.out;rw [zfj hin,hxg,zq5] at zrk;have zpo:=Zh lo1;have zpk:=Zh lo2;have zpg:=Zh lo3;have HV1:=Zh hv1;have zpd:=Zh zq5;have HXG:=Zh hxg;have HUE:=Zh zrk;have oX:Old bx wr:=⟨by have h1:=HM3.out.sz;have h2:=HM3.out.bx;simp only at h1 h2;omega⟩
        clear zrk zq5 hxg hxk hv1 lo1 lo2 lo3 hLv1;by_cases hup:xk<v1.hi
        ·have d3:decide (xk<v1.hi)=true:=by simpa using hup
         have HR4:Hid (ZR D L n (C.drop (i+1)) (k'-1) (x.set k' (xk+1)) (rest.set k' (qu v1 (xk+1))) (lv.set k v) l1=R):=Zh (by
          have h1:=HR3.out;rw [HUE.out,if_pos hup] at h1;simp only [zpd.out,HXG.out] at h1;exact h1)
         have zsw:v1.mi=vD D (k'+1)/\v1.sh=zy (L.getD k' []) (x.drop (k'+1))/\v1.lim=rest.getD (k'+1) 0*vD D k':=by rw [zpo.out];exact ⟨rfl,rfl,rfl⟩
         obtain ⟨m1,m2,m3⟩:=zsw;have zqD:=(HI1.out.mono (Nat.le_of_lt hkk) hin).lev HN.out;have in3:zS v1.mi v1.sh v1.lim (xk+1)=true:=by
          rw [m1,m2,m3];exact zfk zqD.c0 zpk.out zpg.out (by omega) (by omega)
         have zrG:-288230376151711744<=v1.sh/\v1.sh<=288230376151711744:=by rw [m2];exact zbc zqD.n8 zqD.ll zqD.bl zqD.bx
         have zq6:1<=v1.mi/\v1.mi<65536:=by rw [m1];exact ⟨zqD.c0,zqD.c1⟩
         have zrH:=zbb (x:=xk+1) zq6.1 zq6.2 zrG ⟨by omega,by omega⟩;have zqH:=fun (W':World) (hM':CMem w W' ⟨K,bx,br,bl,base,n,mA,lA,mc,lc,gw⟩ D L x rest (lv.set k v) lB2 c2 l1 vs2)=>zcB (xv:=xk+1) (u:=zG v1.mi v1.sh (xk+1)) hM' hin hn8 (k:=k') (v:=v1) HV1.out zrH rfl zq6.1 zq6.2 (zbd in3) (by rw [m3];exact zqD.r1)
         have zpn:=Zh zqH;have HI2:Hid (ChkInv D L n bound (k'-1) (x.set k' (xk+1)) (rest.set k' (qu v1 (xk+1))) (lv.set k v)):=Zh (by
          have h1:=in3;rw [m1,m2,m3] at h1;have :=(HI1.out.mono (Nat.le_of_lt hkk) hin).next HN.out (a:=xk+1) (by omega) (by rw [zpd.out];exact zpo.out) h1 (by rw [zpd.out];exact zpg.out) (by rw [zpd.out];exact lo4) (by omega) (by omega);rwa [zpd.out] at this)
         have exk:IntKind.i64.wrap (xk+1)=xk+1:=IntWalk.i64_in _ (by omega);generalize v1.hi=h1i at w5 d3 hup lo4 zpg;clear zqH m1 m2 m3 zqD in3 zrH;go_wp2_with fail
         go_quiet (fail)
         clear exk;go_wp2_with (go_at_call 177;refine (zpn.out _ (HM3.out.to Zi)).mono ?_;rintro e W4 ⟨rfl,hM4⟩;have HM4:=Zh hM4;clear hM4)
         exact ⟨⟨i+1,(k':Int)-1,k'-1,_,_,_,_,_,_,_,by go_num,by omega,rfl,Zh (by omega),by omega,by omega,HI2,HM4,HL1,HR4⟩,by simp [intOf];omega⟩
        ·have d3:decide (xk<v1.hi)=false:=by simpa using hup
         have zpA:Hid (qm n x (lv.set k v) (k+1)=qm n x (lv.set k v) (k'+1)):=Zh (by rw [HUE.out,if_neg hup]);generalize v1.hi=h1i at w5 d3 hup lo4 zpg;go_wp2_with fail
         go_quiet (fail)
         go_wp2_with fail
         exact ⟨⟨(k':Int)+1,k'+1,rfl,Zh (by omega),by omega,by omega,by omega,zpA,Zh (HM3.out.to Zi)⟩,by simp [intOf];omega⟩
       ·have HR4:Hid ((if C.drop (i+1)=[] then some l1 else none)=R):=Zh (by
         have h1:=HR3.out;rw [HUP.out,zcC hin] at h1;exact h1)
        by_cases hls:i+1<cl
        ·have zpj:Hid (R=none):=Zh (by
          have h1:=HR4.out;rw [if_neg (by intro h0;have :=List.drop_eq_nil_iff.1 h0;have :=HCL.out;omega)] at h1;exact h1.symm)
         go_wp2_with fail
         rw [Exit.noGoto_panic];exact zar rfl (.inr ⟨zpj.out,⟨_,_,rfl⟩,HM3.out.ext,HM3.out.kp⟩)
        ·have zpB:Hid (R=some l1):=Zh (by
          have h1:=HR4.out;rw [if_pos (List.drop_eq_nil_iff.2 (by have :=HCL.out;omega))] at h1;exact h1.symm)
         go_wp2_with fail
         rw [Exit.noGoto_ret];refine bodyPost_ret (results_none rfl _ _ _) rfl ?_;exact .inl ⟨l1,zpB.out,rfl,_,_,_,_,_,_,HM3.out⟩
  ·have zpj:Hid (R=none):=Zh (by
    have h1:=HR.out;rw [List.drop_eq_nil_iff.2 (by have :=HCL.out;omega),ZR] at h1;exact h1.symm)
   go_wp2_with fail
   exact zar rfl (.inr ⟨zpj.out,⟨_,_,rfl⟩,HM.out.ext,HM.out.kp⟩)
theorem zk3 (p:Addr) (x:Bool) (u:TypeId) (pv:Value) (older:List PanicEntry) (w:World) (hc:w.cell? p=some (.bool x)) (hz:w.frozen? p=false):
  CallsD Tryz.prog 115 #[.pointer (some p)] (.panicking ({v:= .iface u pv,recovered:=false}::older)) w fun e u' w'=>
   e= .returned (.tuple #[])/\u'= .panicking ({v:= .iface u pv,recovered:=true}::older)/\w'=w.setCell p (.bool false):=by
 refine callsD_of_wpS Tryz.func115 rfl fun c₀ cs hu=>?_
 apply wpS_seq;apply wpS_region;simp [wpOpsS,go_sem,recoverD,hu,Tryz.ntmps115,Exit.thenS];refine wpS_cond (t:=true) (by simp [Act.eval,Array.replicate]) ?_;simp only [if_true];apply wpS_region;simp [wpOpsS,go_sem,hc,hz,bodyPostS,results,Tryz.results115]
theorem zk4 (p:Addr) (w:World):
  CallsD Tryz.prog 115 #[.pointer (some p)] .returning w fun e u' w'=>e= .returned (.tuple #[])/\u'= .returning/\w'=w:=by
 refine callsD_of_wpS Tryz.func115 rfl fun c₀ cs hu=>?_
 apply wpS_seq;apply wpS_region;simp [wpOpsS,go_sem,recoverD,hu,Tryz.ntmps115,Exit.thenS];refine wpS_cond (t:=false) (by simp [Act.eval,Array.replicate]) ?_;simp only [Bool.false_eq_true,if_false];refine wpS_of_wp (wp_skip ?_)
 cases c₀
 simp_all [bodyPostS,results,Tryz.results115]
def zbe (w:World) (y:Lay) (D:List Int) (L:List (List Int)) (R:Option (List (List Int))) (e:Ending) (W':World):Prop:=
 (∃l',R=some l'/\e= .returned (.bool true)/\∃x rest lv lB c vs,CMem w W' y D L x rest lv lB c l' vs)∨(R=none/\e= .returned (.bool false)/\Ext w W')
theorem LOwn.oth {w w':World} {base:Nat} {A:Option Addr} {c:Nat} {l:List (List Int)} {vs:List Value} (h:LOwn w base A c l vs) (ho:Oth 4 w w'):LOwn w' base A c l vs:=
 ⟨h.own.oth ho (by decide),fun i r hr=>by obtain ⟨B,d,a,b,e⟩:=h.row i r hr;exact ⟨B,d,a,b.oth ho (by decide),e⟩⟩
theorem CMem.setB {w W:World} {y:Lay} {D:List Int} {L:List (List Int)} {x rest:List Int} {lv:List Lvl} {lB:Option Addr} {c:Nat} {l:List (List Int)} {vs:List Value} (h:CMem w W y D L x rest lv lB c l vs) {ub:Nat} {cs:Array Value} (hu:W.heap[ub]? =some (.cells cs 4 (0,0))) (hb:w.heap.size<=ub) (u:Value):CMem w (W.setCell ⟨ub,0,none⟩ u) {y with gw:=W.setCell ⟨ub,0,none⟩ u} D L x rest lv lB c l vs:=by
 obtain ⟨cr,hr,-⟩:=h.rr;obtain ⟨cl,hl,-⟩:=h.lr;have hx:=h.xr.heapE;have hk:∀b,b≠ub->(W.setCell ⟨ub,0,none⟩ u).heap[b]? =W.heap[b]? :=fun b hb=>Below.heap_setCell W ⟨ub,0,none⟩ _ b hb
 exact {
  ext:=h.ext.setCell (p:=⟨ub,0,none⟩) hb _
  kb:=(hk _ (zR h.kb hu (by decide))).trans h.kb
  xr:=(hk _ (zR hx hu (by decide))).trans hx
  xl:=h.xl
  rr:=h.rr.keep (hk _ (zR hr hu (by decide)))
  rl:=h.rl
  lr:=h.lr.keep (hk _ (zR hl hu (by decide)))
  ll:=h.ll
  fv:=h.fv.keep fun b cs e fr p q z=>hk b (zR z hu (by rcases q with rfl |rfl<;>decide))
  ls:=h.ls.oth (Oth.set (p:=⟨ub,0,none⟩) hu u)
  sz:=by rw [Zo];exact h.sz
  wK:=h.wK
  wx:=h.wx
  wr:=h.wr
  wl:=h.wl
  bK:=h.bK
  bx:=h.bx
  br:=h.br
  bl:=h.bl
  kp:=Keeps.refl _ _}
set_option maxRecDepth 100000 in
theorem zk5 {w W:World} {y:Lay} {D:List Int} {L:List (List Int)} {bound:Int} {x rest:List Int} {lv:List Lvl} {lB:Option Addr} {c cc:Nat} {l:List (List Int)} {vs:List Value} {A:Option Addr} {C:List (Int×Int)} (hN:ChkN D L y.n bound) (hI:ChkInv D L y.n bound (y.n-1) x rest lv) (hM:CMem w W y D L x rest lv lB c l vs) (hC:IvV w A C) (zqg:C.length<=1099511627776) (hl:l.length<=4097):
  Calls Tryz.prog 68 #[.pointer (some ⟨y.K,0,none⟩),.slice A C.length cc] W (fun e W'=>∃gw,zbe w {y with gw:=gw} D L (ZR D L y.n C (y.n-1) x rest lv l) e W'):=by
 obtain ⟨R,hR⟩:∃R,ZR D L y.n C (y.n-1) x rest lv l=R:=⟨_,rfl⟩;have hM0:=(hM.to (W':=W.alloc (.cells #[.bool false] 4)) Zi).regw;have hck:=zk2 (y:={y with gw:=W.alloc (.cells #[.bool false] 4)}) (cc:=cc) hN hI hM0 hC zqg hl;have hub:(W.alloc (.cells #[.bool false] 4)).heap[W.heap.size]? =some (.cells #[.bool false] 4 (0,0)):=heap_alloc_new W _;have hwu:w.heap.size<=W.heap.size:=hM.ext.size;simp only at hck
 rw [hR] at hck |-
 have hmf:∀(fn:Fn) (first cap:Array Value) (w:World),(Instr.makeFunc fn first cap).run Tryz.prog w= .ok (.func fn first cap) w:=fun _ _ _ _=>rfl
 cases R with
 |some l'=>
  have HCK:Hid (Calls Tryz.prog 116 #[.pointer (some ⟨y.K,0,none⟩),.slice A C.length cc] (W.alloc (.cells #[.bool false] 4)) fun e W1=>e= .returned (.tuple #[])/\W1.heap[W.heap.size]? =some (.cells #[.bool false] 4 (0,0))/\Hid (∃x rest lv lB c vs,CMem w W1 {y with gw:=W.alloc (.cells #[.bool false] 4)} D L x rest lv lB c l' vs)):=Zh (hck.mono (fun e W1 h=>by
   rcases h with ⟨l2,h1,he,h2⟩ |⟨h1,-⟩
   ·injection h1 with h1
    subst h1;obtain ⟨x1,r1,lv1,lB1,c1,vs1,hM1⟩:=h2;exact ⟨he,hM1.kp.keep _ _ _ hub,Zh ⟨x1,r1,lv1,lB1,c1,vs1,hM1⟩⟩
   ·cases h1))
  clear hck hub hM0 hM hI hN hC;go_enter_defers Tryz.func68,Tryz.ntmps68
  go_wp2_with (go_at_call 116;refine HCK.out.mono ?_;rintro e W1 ⟨rfl,hb1,HM1⟩;have u1:W1.cell? ⟨W.heap.size,0,none⟩=some (.bool false):=(by simp [World.cell?,hb1]);have u2:W1.frozen? ⟨W.heap.size,0,none⟩=false:=(by simp [World.frozen?,hb1]);have u3:W.heap.size<W1.heap.size:=zw hb1;have HB1:=Zh hb1;clear hb1)
  have hb2:=Zd (i:=0) HB1.out (.bool true);have hc2:(W1.setCell ⟨W.heap.size,0,none⟩ (.bool true)).cell? ⟨W.heap.size,0,none⟩=some (.bool true):=by simp [World.cell?,hb2]
  refine leaves_cons (f:=115) (args:=#[.pointer (some ⟨W.heap.size,0,none⟩)]) (by simp) (by simp [go_sem]) ?_;refine (zk4 ⟨W.heap.size,0,none⟩ _).mono ?_;rintro e u' w'' ⟨rfl,rfl,rfl⟩;have zqh:∃gw,zbe w {y with gw:=gw} D L (some l') (.returned (.bool true)) (W1.setCell ⟨W.heap.size,0,none⟩ (.bool true)):=by
   obtain ⟨x1,r1,lv1,lB1,c1,vs1,hM1⟩:=HM1.out;exact ⟨_,.inl ⟨l',rfl,rfl,x1,r1,lv1,lB1,c1,vs1,hM1.setB HB1.out hwu _⟩⟩
  simp [Leaves,settle,results,Tryz.results68,go_sem,hc2];exact zqh
 |none=>
  have HCK:Hid (Calls Tryz.prog 116 #[.pointer (some ⟨y.K,0,none⟩),.slice A C.length cc] (W.alloc (.cells #[.bool false] 4)) fun e W1=>(∃u pv,e= .panicked [{v:= .iface u pv,recovered:=false}])/\W1.heap[W.heap.size]? =some (.cells #[.bool false] 4 (0,0))/\Hid (Ext w W1)):=Zh (hck.mono (fun e W1 h=>by
   rcases h with ⟨l2,h1,-⟩ |⟨-,h2,h3,h4⟩
   ·cases h1
   ·exact ⟨h2,h4.keep _ _ _ hub,Zh h3⟩))
  clear hck hub hM0 hM hI hN hC;go_enter_defers Tryz.func68,Tryz.ntmps68
  go_wp2_with (go_at_call 116;refine HCK.out.mono ?_;rintro e W1 ⟨⟨vu,vv,rfl⟩,hb1,HM1⟩;have u1:W1.cell? ⟨W.heap.size,0,none⟩=some (.bool false):=(by simp [World.cell?,hb1]);have u2:W1.frozen? ⟨W.heap.size,0,none⟩=false:=(by simp [World.frozen?,hb1]);have u3:W.heap.size<W1.heap.size:=zw hb1;have HB1:=Zh hb1;clear hb1)
  have hb2:=Zd (i:=0) HB1.out (.bool false);have hc2:(W1.setCell ⟨W.heap.size,0,none⟩ (.bool false)).cell? ⟨W.heap.size,0,none⟩=some (.bool false):=by simp [World.cell?,hb2]
  refine leaves_cons (f:=115) (args:=#[.pointer (some ⟨W.heap.size,0,none⟩)]) (by simp) (by simp [go_sem]) ?_;refine (zk3 ⟨W.heap.size,0,none⟩ false vu vv [] _ u1 u2).mono ?_;rintro e u' w'' ⟨rfl,rfl,rfl⟩;have zqh:∃gw,zbe w {y with gw:=gw} D L none (.returned (.bool false)) (W1.setCell ⟨W.heap.size,0,none⟩ (.bool false)):=⟨W,.inr ⟨rfl,rfl,HM1.out.setCell (p:=⟨W.heap.size,0,none⟩) hwu _⟩⟩;simp [Leaves,settle,results,Tryz.results68,go_sem,hc2]
  exact zqh
def q9 (m:List (List Int)) (bound:Int) (C:List (Int×Int)):Option (List (List Int)):=
 ZR (za m m.length) (zd m m.length) m.length C (m.length-1) (List.replicate m.length 0) ((List.replicate (m.length+1) 0).set m.length (bound*vD (za m m.length) m.length)) (List.replicate m.length Qg) []
theorem zk6 {D:List Int} {L:List (List Int)} {n:Nat} {bound:Int} (hN:ChkN D L n bound):ChkInv D L n bound (n-1) (List.replicate n 0) ((List.replicate (n+1) 0).set n (bound*vD D n)) (List.replicate n Qg):=by
 have h1:=hN.n1;have d1:=hN.d1 n (by omega);refine ⟨by omega,by simp,by simp,by simp,fun y hy=>?_,fun j j1 j2=>?_,fun j j1 j2=>absurd j2 (by omega)⟩
 ·have :=(List.mem_replicate.1 hy).2;omega
 ·obtain rfl:j=n:=by omega
  rw [Q7 _ _ _ _ (by simp)];have :=Int.mul_nonneg hN.b0 (show 0<=vD D j by omega);rw [Int.mul_comm] at this |-
  exact ⟨this,Int.le_refl _⟩
structure TreeOK (m:List (List Int)) (bound:Int):Prop where
 form:FormOK m
 s64:jH m
 red:RedM m
 b0:0<=bound
 b1:bound<=4611686018427387904
 num:ChkN (za m m.length) (zd m m.length) m.length bound
theorem zcD {w0 w:World} {A B:Option Addr} {c d:Nat} {m:List (List Int)} {bound:Int} {C:List (Int×Int)} (h:Mat64 w0 A m) (hc:m.length<=c) (hc2:c<=9223372036854775807) (hok:TreeOK m bound) (hC:IvV w0 B C) (zqg:C.length<=1099511627776)
  (hv:∀l,q9 m bound C=some l->l.length<=4096->(∀x∈l,VecOK m x)/\(l.map zC).Nodup) [hx:Ext w0 w]:
  Calls Tryz.prog 42 #[.slice A m.length c,.int .i64 bound,.slice B C.length d] w fun e w'=>
   match q9 m bound C with
   |none=>zt w (.tuple #[.slice none 0 0,.int .i64 10]) e w'
   |some l=>if 4096<l.length then zt w (.tuple #[.slice none 0 0,.int .i64 7]) e w' else zkk w m l e w':=by
 have hn8:=hok.red.n8;have zqo:=fun W (hh:Ext w0 W)=>zad (w:=W) h (by omega) hc hc2
 rw [hok.red.red] at zqo;have hnc:=fun W (hh:Ext w0 W)=>zkT (w:=W) (c:=c) h hok.form hok.s64 hok.b0 hok.b1
 have hb0:=hok.b0;have hb1:=hok.b1;have zrI:=fun (W W':World) (y:Lay) (hh:Ext w0 W) (hy:y.n=m.length) (hM:CMem W W' y (za m m.length) (zd m m.length) (List.replicate m.length 0) ((List.replicate (m.length+1) 0).set m.length (bound*vD (za m m.length) m.length)) (List.replicate m.length Qg) none 0 [] [])=>
  zk5 (cc:=d) (bound:=bound) (by rw [hy];exact hok.num) (by rw [hy];exact zk6 hok.num) hM (hC.ext hh) zqg (by simp)
 have zsx:∀(W W':World) (y:Lay),Ext w0 W->y.n=m.length->CMem W W' y (za m m.length) (zd m m.length) (List.replicate m.length 0) ((List.replicate (m.length+1) 0).set m.length (bound*vD (za m m.length) m.length)) (List.replicate m.length Qg) none 0 [] []->Calls Tryz.prog 68 #[.pointer (some ⟨y.K,0,none⟩),.slice B C.length d] W' fun e W2=>∃gw,zbe W {y with gw:=gw} (za m m.length) (zd m m.length) (q9 m bound C) e W2:=fun W W' y hh hy hM=>by
  obtain ⟨K,bx,br,bl,base,n,mA,lA,mc,lc,gw⟩:=y;simp only at hy;subst hy;exact zrI W W' _ hh rfl hM
 have hso:=fun W X dd l (hh:Ext w0 W) (hX:Mat64 W X l) (hl:l.length<=4096) (h1:∀x∈l,VecOK m x) (h2:(l.map zC).Nodup)=>zkd (w0:=W) (w:=W) (c:=c) (d:=dd) (h.ext hh) hc hc2 hX (by omega) hok.red h1 h2
 obtain ⟨R,hR⟩:∃R,q9 m bound C=R:=⟨_,rfl⟩;rw [hR] at zsx hv |-
 have zpp:=Zh zqo;have HNC:=Zh hnc;have zpu:=Zh zsx;have HSO:=Zh hso;have HV:=Zh hv;have db0:decide (bound<0)=false:=by simp;omega
 have db1:decide (4611686018427387904<bound)=false:=by simp;omega
 clear zqo hnc zrI zsx hso hv hR hok hC
 cases R with
 |none=>
  simp only;have HA2:Hid (∀(W W':World) (y:Lay),Ext w0 W->y.n=m.length->CMem W W' y (za m m.length) (zd m m.length) (List.replicate m.length 0) ((List.replicate (m.length+1) 0).set m.length (bound*vD (za m m.length) m.length)) (List.replicate m.length Qg) none 0 [] []->Calls Tryz.prog 68 #[.pointer (some ⟨y.K,0,none⟩),.slice B C.length d] W' fun e W2=>e= .returned (.bool false)/\Step W W2):=Zh (fun W W' y hh hy hM=>(zpu.out W W' y hh hy hM).mono (fun e W2 ⟨gw,hp⟩=>by
   rcases hp with ⟨l',h1,-⟩ |⟨-,he,hx2⟩
   ·cases h1
   ·exact ⟨he,hx2.toStep⟩))
  clear zpu;go_enter Tryz.func42,Tryz.ntmps42;go_wp2_with (first
   |(go_at_call 66;refine (zpp.out _ Zi).mono ?_;rintro e w1 ⟨rfl,hs1⟩)
   |(go_at_call 67;refine (HNC.out _ Zi).mono ?_;rintro e w2 ⟨y,hy,rfl,hM2⟩)
   |(go_at_call 68;refine (HA2.out _ _ _ Zi hy hM2).mono ?_;rintro e w3 ⟨rfl,hs3⟩))
  go_ret2
  exact ⟨rfl,Step.of _ _⟩
 |some l=>
  simp only;have HA2:Hid (∀(W W':World) (y:Lay),Ext w0 W->y.n=m.length->CMem W W' y (za m m.length) (zd m m.length) (List.replicate m.length 0) ((List.replicate (m.length+1) 0).set m.length (bound*vD (za m m.length) m.length)) (List.replicate m.length Qg) none 0 [] []->Calls Tryz.prog 68 #[.pointer (some ⟨y.K,0,none⟩),.slice B C.length d] W' fun e W2=>e= .returned (.bool true)/\Step W W2/\∃lB c,W2.cell? ⟨y.K,5,none⟩=some (.slice lB l.length c)/\y.K<W2.heap.size/\Hid (Mat64 W2 lB l)):=Zh (fun W W' y hh hy hM=>(zpu.out W W' y hh hy hM).mono (fun e W2 ⟨gw,hp⟩=>by
   rcases hp with ⟨l',h1,he,x1,r1,lv1,lB1,c1,vs1,hM1⟩ |⟨h1,-⟩
   ·injection h1 with h1
    subst h1;obtain ⟨-,-,-,-,-,k5,-,k7⟩:=hM1.kc;exact ⟨he,hM1.ext.toStep,lB1,c1,k5,k7,Zh hM1.ls.mat⟩
   ·cases h1))
  clear zpu;obtain ⟨ln,hln⟩:∃ln,l.length=ln:=⟨_,rfl⟩;rw [hln] at HA2 |-
  by_cases zq9:4096<ln
  ·simp only [if_pos zq9];have dbg:decide (4096<ln)=true:=by simpa using zq9
   clear hln;go_enter Tryz.func42,Tryz.ntmps42;go_wp2_with (first
    |(go_at_call 66;refine (zpp.out _ Zi).mono ?_;rintro e w1 ⟨rfl,hs1⟩)
    |(go_at_call 67;refine (HNC.out _ Zi).mono ?_;rintro e w2 ⟨y,hy,rfl,hM2⟩)
    |(go_at_call 68;refine (HA2.out _ _ _ Zi hy hM2).mono ?_;rintro e w3 ⟨rfl,hs3,lB3,c3,k5,k6,HM3⟩))
   go_ret2
   exact ⟨rfl,Step.of _ _⟩
  ·simp only [if_neg zq9];have dbg:decide (4096<ln)=false:=by simpa using zq9
   obtain ⟨hv1,hv2⟩:=HV.out l rfl (by omega);have zsy:=fun W X dd (hh:Ext w0 W) (hX:Mat64 W X l)=>HSO.out W X dd l hh hX (by omega) hv1 hv2
   rw [hln] at zsy;have zpZ:=Zh zsy;clear hln zsy hv1 hv2 HSO HV;go_enter Tryz.func42,Tryz.ntmps42;go_wp2_with (first
    |(go_at_call 66;refine (zpp.out _ Zi).mono ?_;rintro e w1 ⟨rfl,hs1⟩)
    |(go_at_call 67;refine (HNC.out _ Zi).mono ?_;rintro e w2 ⟨y,hy,rfl,hM2⟩)
    |(go_at_call 68;refine (HA2.out _ _ _ Zi hy hM2).mono ?_;rintro e w3 ⟨rfl,hs3,lB3,c3,k5,k6,HM3⟩)
    |(go_at_call 51;refine (zpZ.out _ _ _ Zi HM3.out).mono ?_;rintro e w4 ⟨A4,c4,L4,rfl,hM4,z1,z2,hp,hw,hs4⟩))
   go_ret2
   exact ⟨A4,c4,L4,rfl,hM4,z1,z2,hp,hw,Step.of _ _⟩
theorem zk7 {w:World} {a b:Int} (ha0:-9223372036854775807<=a) (ha1:a<=9223372036854775807) (hb:1<=b) (hb1:b<=9223372036854775807):
  Calls Tryz.prog 120 #[.int .i64 a,.int .i64 b] w (Zl w (.int .i64 (a / b))):=by
 have HF:=Zh (zeD (a:=a) (b:=b) (by omega));have hq:=tdiv_between a b hb;have hq1:-9223372036854775807<=a.tdiv b:=by omega
 have hq2:a.tdiv b<=9223372036854775807:=by omega
 have hm:=Zh (Int.tmod_def a b);have hr:-9223372036854775807<=a.tmod b/\a.tmod b<=9223372036854775807:=by
  have h1:=Int.tmod_lt_of_pos a (show 0<b by omega);have h2:=Int.lt_tmod_of_pos a (show 0<b by omega);omega
 have hb0:(b==0)=false:=by simp;omega
 clear hq;by_cases zqi:a.tmod b<0
 ·have hd:decide (a.tmod b<0)=true:=by simpa using zqi
  have HV:=Zh (HF.out.trans (if_pos zqi));clear zqi HF;go_enter Tryz.func120,Tryz.ntmps120;go_wp2;go_ret;exact ⟨by rw [HV.out];rfl,rfl⟩
 ·have hd:decide (a.tmod b<0)=false:=by simpa using zqi
  have HV:=Zh (HF.out.trans (if_neg zqi));clear zqi HF;go_enter Tryz.func120,Tryz.ntmps120;go_wp2;go_ret;exact ⟨by rw [HV.out];rfl,rfl⟩
set_option maxRecDepth 10000 in
theorem zk8 {w:World} {a:Nat} (ha:a<9223372036854775808):
  Calls Tryz.prog 117 #[.int .i64 a] w (Zl w (.int .i64 (zk a))):=by
 by_cases h0:a=0
 ·subst h0;go_enter Tryz.func117,Tryz.ntmps117;go_wp2;go_ret;exact ⟨rfl,rfl⟩
 have hb0:((a:Int)==0)=false:=by simp;omega
 have h1:1<=a:=by omega
 obtain ⟨s,hs,zrx,zrg,hL1,hL2⟩:=zeC h1 ha;obtain ⟨L,hL⟩:∃L,L=Lib.bitLen a:=⟨_,rfl⟩;rw [<-hL] at hs hL1 hL2;have hp:(2:Nat)^s<=2^32:=Nat.pow_le_pow_right (by omega) zrx;have hp1:1<=(2:Nat)^s:=Nat.one_le_two_pow;have hst:((L:Int)+1) / 2=(s:Int):=by omega
 have hpw:(2:Int)^s=((2^s:Nat):Int):=by simp
 obtain ⟨p,hpp⟩:∃p,p=2^s:=⟨_,rfl⟩;rw [<-hpp] at hpw hp1 hp zrg;have HL:=Zh hL;have hc:=Tryz.bits_Len64 (a:Int) w (by omega) (by omega);rw [show ((a:Int).toNat)=a by omega,<-hL] at hc;have HC:=Zh hc;have HR:=Zh zrg;clear hc hL h0 hpp hs zrg;go_enter Tryz.func117,Tryz.ntmps117;go_wp2_with fail
 refine HC.out.mono ?_;rintro e w' ⟨rfl,rfl⟩;go_wp2;go_loop [3,4] (fun r _=>∃p:Nat,1<=p/\p<=4294967296/\Hid (zk a<=p)/\r= .int .i64 p) (fun r _=>(intOf r).toNat)
 case atStart=>exact ⟨p,hp1,by omega,HR,rfl⟩
 case round=>
  clear HR hpw hp hp1 hst HL HC hL1 hL2 zrx;obtain ⟨p,hp1,hp,HR,rfl⟩:=hrel;have hge:=Zh (zez (a:=a) hp1);have zqO:=Zh (zeA (a:=a) hp1);have hy:=zeB (a:=a) HR.out;obtain ⟨y,ey⟩:∃y,y=a / p:=⟨_,rfl⟩;have ztY:(a:Int) / (p:Int)=(y:Int):=by rw [ey];simp
  rw [<-ey] at hge zqO hy;obtain ⟨q,eq⟩:∃q,q=(p+y) / 2:=⟨_,rfl⟩;have zry:((p:Int)+(y:Int)) / 2=(q:Int):=by omega
  have hq:q<=p+1:=by omega
  rw [<-eq] at hge zqO;clear ey eq;by_cases hle:p<=q
  ·have HV:=Zh (zqO.out hle HR.out);go_wp2;go_ret;exact ⟨by rw [HV.out];rfl,rfl⟩
  ·have hlt:q<p:=by omega
   have hq1:1<=q:=by
    have :=hge.out;have h2:=(qJ a).2;rcases Nat.lt_or_ge 0 (zk a) with h |h
    ·omega
    ·have :zk a=0:=by omega
     rw [this] at h2;omega
   go_wp2;refine ⟨⟨q,hq1,by omega,hge,by rw [zry]⟩,by rw [zry];simp [intOf]<;>omega⟩
theorem zk9 {w0 w:World} {A B:Option Addr} {c d:Nat} {a b:List (Int×Int)} (hA:IvV w0 A a) (hB:IvV w0 B b) (ha1:a.length<=1099511627776) [hx:Ext w0 w]:
  Calls Tryz.prog 46 #[.slice A a.length c,.slice B b.length d] w (jo w (.bool (decide (a=b)))):=by
 by_cases hl:a.length=b.length
 ·rw [<-hl];have hlb:((a.length:Int) !=(a.length:Int))=false:=by simp
  have HL:=Zh hl;clear hl;obtain ⟨q,hq⟩:∃q,q=a.length:=⟨_,rfl⟩;rw [<-hq] at hlb ha1 |-
  have HQ:=Zh hq;clear hq;go_enter Tryz.func46,Tryz.ntmps46;go_wp2;go_loopw [5,13] (fun _ i wr=>∃k:Nat,k<=q/\i= .int .i64 k/\Hid (a.take k=b.take k)/\Hid (∃n,wr=w.drewN n)) (fun _ i _=>q-(intOf i).toNat)
  case atStart=>exact ⟨0,by omega,rfl,Zh rfl,Zh ⟨0,rfl⟩⟩
  case round=>
   obtain ⟨k,hk,rfl,HE,HN⟩:=hrel;have hxn:Ext w0 wr:=by obtain ⟨n,hn⟩:=HN.out;rw [hn];infer_instance
   by_cases hlt:k<q
   ·have hka:k<a.length:=by have :=HQ.out;omega
    have hkb:k<b.length:=by have :=HQ.out;have :=HL.out;omega
    obtain ⟨⟨x1,x2⟩,hxx⟩:∃p,a[k]? =some p:=⟨_,List.getElem?_eq_getElem hka⟩;obtain ⟨⟨y1,y2⟩,hyy⟩:∃p,b[k]? =some p:=⟨_,List.getElem?_eq_getElem hkb⟩;obtain ⟨b1,o1,rfl,e1,e2,e3⟩:=(hA.ext hxn).at_ hxx;obtain ⟨b2,o2,rfl,f1,f2,f3⟩:=(hB.ext hxn).at_ hyy;simp only at e1 e2 f1 f2;have HX:=Zh hxx;have HY:=Zh hyy;clear hxx hyy;by_cases hxy:x1=y1/\x2=y2
    ·obtain ⟨rfl,rfl⟩:=hxy;have HT:Hid (a.take (k+1)=b.take (k+1)):=Zh (by rw [List.take_add_one,List.take_add_one,HE.out,HX.out,HY.out]);go_wp2;go_quiet (fail)
     go_wp2;exact ⟨⟨k+1,by omega,by go_num,HT,Zh (by obtain ⟨n,hn⟩:=HN.out;exact ⟨_,by rw [hn,World.drewN_drewN]⟩)⟩,by simp [intOf];omega⟩
    ·have HV:Hid (decide (a=b)=false):=Zh (by simp;intro h;apply hxy;have h1:=HX.out;rw [h,HY.out] at h1;injection h1 with h1;injection h1 with h1 h2;exact ⟨h1.symm,h2.symm⟩);have hor:(x1==y1)=false∨((x1==y1)=true/\(x2==y2)=false):=by
      by_cases h1:x1=y1
      ·exact .inr ⟨by simp [h1],by simp;intro h2;exact hxy ⟨h1,h2⟩⟩
      ·exact .inl (by simp [h1])
     clear hxy;rcases hor with h1 |⟨h1,h2⟩
     ·go_wp2;go_quiet (fail)
      go_wp2;go_ret;exact ⟨by rw [HV.out];rfl,by obtain ⟨n,hn⟩:=HN.out;exact ⟨_,by rw [hn,World.drewN_drewN]⟩⟩
     ·go_wp2;go_quiet (fail)
      go_wp2;go_ret;exact ⟨by rw [HV.out];rfl,by obtain ⟨n,hn⟩:=HN.out;exact ⟨_,by rw [hn,World.drewN_drewN]⟩⟩
   ·have HV:Hid (decide (a=b)=true):=Zh (by
     have h1:a.take k=a:=List.take_of_length_le (by have :=HQ.out;omega);have h2:b.take k=b:=List.take_of_length_le (by have :=HQ.out;have :=HL.out;omega);have :=HE.out;rw [h1,h2] at this;simp [this])
    go_wp2;go_ret;exact ⟨by rw [HV.out];rfl,HN.out⟩
 ·have hlb:((a.length:Int) !=(b.length:Int))=true:=by simp;omega
  have HV:Hid (decide (a=b)=false):=Zh (by simp;intro h;exact hl (by rw [h]));clear hl;go_enter Tryz.func46,Tryz.ntmps46;go_wp2;go_ret;exact ⟨by rw [HV.out];rfl,0,rfl⟩
def Zu (D:List Int) (L:List (List Int)):Nat->Int->List Int->List (Int×Int)
 |0,rest,tail=>[(zB D L 0 rest tail,Zf D L 0 rest tail)]
 |k+1,rest,tail=>(zB D L (k+1) rest tail,Zf D L (k+1) rest tail)::
   (List.range (zK D L (k+1) rest tail).toNat).flatMap fun (j:Nat)=>Zu D L k (Zq D L (k+1) rest tail (zB D L (k+1) rest tail+(j:Int))) ((zB D L (k+1) rest tail+(j:Int))::tail)
def jI (D:List Int) (L:List (List Int)) (k:Nat) (rest:Int) (tail:List Int) (j:Nat):List (Int×Int):=
 (List.range j).flatMap fun (i:Nat)=>Zu D L k (Zq D L (k+1) rest tail (zB D L (k+1) rest tail+(i:Int))) ((zB D L (k+1) rest tail+(i:Int))::tail)
theorem zfn (D:List Int) (L:List (List Int)) (k:Nat) (rest:Int) (tail:List Int) (j:Nat):jI D L k rest tail (j+1)=jI D L k rest tail j++Zu D L k (Zq D L (k+1) rest tail (zB D L (k+1) rest tail+(j:Int))) ((zB D L (k+1) rest tail+(j:Int))::tail):=by
 simp [jI,List.range_succ]
theorem zla (D:List Int) (L:List (List Int)) (k:Nat) (rest:Int) (tail:List Int) {i j:Nat} (h:i<=j):(jI D L k rest tail i).length<=(jI D L k rest tail j).length:=by
 obtain ⟨m,rfl⟩:∃m,j=i+m:=⟨j-i,by omega⟩;induction m with
 |zero=>exact Nat.le_refl _
 |succ m ih=>rw [<-Nat.add_assoc,zfn,List.length_append];have :=ih (by omega);omega
theorem zlb (D:List Int) (L:List (List Int)) (k:Nat) (rest:Int) (tail:List Int):Zu D L (k+1) rest tail=(zB D L (k+1) rest tail,Zf D L (k+1) rest tail)::jI D L k rest tail (zK D L (k+1) rest tail).toNat:=rfl
def zat (C:List (Int×Int)):List Value:=C.flatMap fun p=>[.int .i64 p.1,.int .i64 p.2]
theorem zlc (C:List (Int×Int)) (lo hi:Int):zat (C++[(lo,hi)])=zat C++[.int .i64 lo,.int .i64 hi]:=by simp [zat]
theorem Own.setLow {w:World} {base size n c:Nat} {e:TypeId} {A:Option Addr} {xs:List Value} (h:Own w base e size A n c xs) {p:Addr} (hp:p.block<base) (u:Value):Own (w.setCell p u) base e size A n c xs:=by
 refine ⟨h.1,?_⟩;rcases h.2 with hv |⟨g,cap,cur,hv,h1,h2,h3⟩
 ·exact .inl hv
 ·exact .inr ⟨g,cap,cur,hv,h1,(Below.heap_setCell w p u g (by omega)).trans h2,h3⟩
def jJ (s:Nat):Array Value:=#[.pointer (some ⟨s,0,none⟩),.pointer (some ⟨s+2,0,none⟩),.pointer (some ⟨s+3,0,none⟩),.pointer (some ⟨s+4,0,none⟩)]
structure EMem (w1 W:World) (n:Nat) (mA lA:Option Addr) (mc lc:Nat) (lB:Option Addr) (c:Nat) (C:List (Int×Int)):Prop where
 ext:Ext w1 W
 fb:W.heap[w1.heap.size]? =some (.cells #[.slice mA (n+1) mc,.slice lA n lc] 99 (0,0))
 xb:W.heap[w1.heap.size+2]? =some (.cells #[.slice (some ⟨w1.heap.size+1,0,none⟩) n n] 37 (0,0))
 lb:W.heap[w1.heap.size+3]? =some (.cells #[.slice lB C.length c] 58 (0,0))
 sb:W.heap[w1.heap.size+4]? =some (.cells #[.func (.func 118) #[] (jJ w1.heap.size)] 165 (0,0))
 ls:Own W (w1.heap.size+5) 64 2 lB C.length c (zat C)
 sz:w1.heap.size+5<=W.heap.size
theorem EMem.setX {w1 W:World} {n:Nat} {mA lA:Option Addr} {mc lc:Nat} {lB:Option Addr} {c:Nat} {C:List (Int×Int)} (h:EMem w1 W n mA lA mc lc lB c C) (i:Nat) (u:Value):EMem w1 (W.setCell ⟨w1.heap.size+1,i,none⟩ u) n mA lA mc lc lB c C where
 ext:=h.ext.setCell (p:=⟨w1.heap.size+1,i,none⟩) (Nat.le_succ _) u
 fb:=Za h.fb (show w1.heap.size≠w1.heap.size+1 by omega) u
 xb:=Za h.xb (show w1.heap.size+2≠w1.heap.size+1 by omega) u
 lb:=Za h.lb (show w1.heap.size+3≠w1.heap.size+1 by omega) u
 sb:=Za h.sb (show w1.heap.size+4≠w1.heap.size+1 by omega) u
 ls:=h.ls.setLow (p:=⟨w1.heap.size+1,i,none⟩) (show w1.heap.size+1<w1.heap.size+5 by omega) u
 sz:=by rw [Zo];exact h.sz
theorem EMem.to {w1 W W':World} {n:Nat} {mA lA:Option Addr} {mc lc:Nat} {lB:Option Addr} {c:Nat} {C:List (Int×Int)} (h:EMem w1 W n mA lA mc lc lB c C) (hx:Ext W W'):EMem w1 W' n mA lA mc lc lB c C:=
 ⟨h.ext.trans hx,zc hx h.fb,zc hx h.xb,zc hx h.lb,zc hx h.sb,h.ls.ext hx,Nat.le_trans h.sz hx.size⟩
theorem EMem.snoc {w1 W W3 w4:World} {n:Nat} {mA lA:Option Addr} {mc lc:Nat} {lB:Option Addr} {c:Nat} {C:List (Int×Int)} (h:EMem w1 W n mA lA mc lc lB c C) (hx:Ext W W3) {A4:Option Addr} {d4 ln:Nat} {lo hi:Int} (hln:C.length=ln) (hg:Grow (w1.heap.size+5) 64 W3 w4) (ho:Own w4 (w1.heap.size+5) 64 2 A4 (ln+1) d4 (zat C++[.int .i64 lo,.int .i64 hi])):
  EMem w1 (w4.setCell ⟨w1.heap.size+3,0,none⟩ (.slice A4 (ln+1) d4)) n mA lA mc lc A4 d4 (C++[(lo,hi)]):=by
 subst hln;have hk:∀b,b<w1.heap.size+5->∀o,W.heap[b]? =some o->w4.heap[b]? =some o:=fun b hb o ho=>(hg.below.block b hb).trans (zc hx ho)
 refine ⟨(hg.ext (h.ext.trans hx) (by omega)).setCell (p:=⟨w1.heap.size+3,0,none⟩) (by simp) _,?_,?_,?_,?_,?_,?_⟩
 ·exact Za (hk _ (by omega) _ h.fb) (show w1.heap.size≠w1.heap.size+3 by omega) _
 ·exact Za (hk _ (by omega) _ h.xb) (show w1.heap.size+2≠w1.heap.size+3 by omega) _
 ·rw [List.length_append];exact zkj (hk _ (by omega) _ h.lb)
 ·exact Za (hk _ (by omega) _ h.sb) (show w1.heap.size+4≠w1.heap.size+3 by omega) _
 ·rw [List.length_append,zlc];exact ho.setLow (p:=⟨w1.heap.size+3,0,none⟩) (show w1.heap.size+3<w1.heap.size+5 by omega) _
 ·rw [Zo];have :=h.sz;have :=hx.size;have :=hg.below.size;omega
theorem XRow.to {w w':World} {sz n k:Nat} {tail:List Int} (h:XRow w sz n k tail) (hx:Ext w w'):XRow w' sz n k tail:=by
 obtain ⟨xs,h1,h2,h3⟩:=h;exact ⟨xs,zc hx h1,h2,h3⟩
def zld (w1:World) (n:Nat) (mA lA:Option Addr) (mc lc:Nat) (C:List (Int×Int)) (k:Nat) (tail:List Int) (e:Ending) (W':World):Prop:=
 e= .returned (.tuple #[])/\XRow W' (w1.heap.size+1) n k tail/\∃lB c,EMem w1 W' n mA lA mc lc lB c C
theorem zfo:qe 118:=j0 Tryz.func118 (by kernel_rfl) (by kernel_rfl)
theorem zfp:(Tryz.prog.info? 64).map (fun i=>(i.zero,i.size,i.bytes))=some (some (.agg #[.int .i64 0,.int .i64 0]),2,16):=by kernel_rfl
theorem zle {w0 w:World} {K lc n k bx:Nat} {lA:Option Addr} {L:List (List Int)} {xs lam:List Int} (hc:w0.cell? ⟨K,1,none⟩=some (.slice lA n lc)) (hK:K<w0.heap.size) (hL:Mat64 w0 lA L) (hl:L[k]? =some lam) (hx:Row w0 bx 2 .i64 xs) (hxl:xs.length=n) (hk:k<n) (hn8:n<=8) (hll:lam.length=n-1-k) (hb1:∀a∈lam,-32768<=a/\a<=32768) (hb2:∀y∈xs.drop (k+1),-1099511627776<=y/\y<=1099511627776) [hxx:Ext w0 w]:
  Calls Tryz.prog 119 #[.pointer (some ⟨K,0,none⟩),.int .i64 k,.slice (some ⟨bx,0,none⟩) n n] w (Zl w (.int .i64 (zy lam (xs.drop (k+1))))):=by
 obtain ⟨b,o,B,c1,rfl,l3,l5,l1,l2,l4⟩:=(hL.ext hxx).at_ hl;have f1:w.cell? ⟨K,1,none⟩=some (.slice (some ⟨b,o,none⟩) n lc):=(hxx.below.cell (p:=⟨K,1,none⟩) hK).trans hc;have f2:K<w.heap.size:=Nat.lt_of_lt_of_le hK hxx.size;have zqf:Row w bx 2 .i64 xs:=zc hxx hx;obtain ⟨tail,ht⟩:∃tail,tail=xs.drop (k+1):=⟨_,rfl⟩;obtain ⟨r,hr⟩:∃r,r=n-1-k:=⟨_,rfl⟩;have htl:tail.length=r:=by rw [ht,List.length_drop];omega
 rw [<-ht];rw [<-hr] at hll;rw [hll] at l3 l1;have hr1:r+k+1<=n:=by omega
 have HT:=Zh ht;have HLL:=Zh hll;have HTL:=Zh htl;have HL5:=Zh l5;have zpe:=Zh zqf;have HB1:=Zh hb1;have HB2:=Zh hb2;have HXL:=Zh hxl;have htb:Hid (∀y∈tail,-1099511627776<=y/\y<=1099511627776):=Zh fun y hy=>hb2 y (by rw [<-ht];exact hy)
 clear ht hr hll htl l5 zqf hb1 hb2 hxl hx hL hl hc hK;go_enter Tryz.func119,Tryz.ntmps119;go_wp2_with fail
 go_loop [7,8,9,18] (fun s _ _ i=>∃q:Nat,q<=r/\i= .int .i64 q/\s= .int .i64 (zy (lam.take q) (tail.take q))) (fun _ _ _ i=>r-(intOf i).toNat)
 case atStart=>exact ⟨0,by omega,rfl,by simp [zy]⟩
 case round=>
  obtain ⟨q,hq,rfl,rfl⟩:=hrel;by_cases hlt:q<r
  ·obtain ⟨a,ha⟩:∃a,lam[q]? =some a:=⟨_,List.getElem?_eq_getElem (by have :=HLL.out;omega)⟩;obtain ⟨y,hy⟩:∃y,tail[q]? =some y:=⟨_,List.getElem?_eq_getElem (by have :=HTL.out;omega)⟩;obtain ⟨b1,o1,-,rfl,-⟩:=HL5.out.at_ (i:=q) (by have :=HLL.out;omega);obtain ⟨g1,g2⟩:=qY HL5.out ha;have hxy:xs[k+1+q]? =some y:=by rw [<-hy,HT.out,List.getElem?_drop]
   obtain ⟨y',hy1,hy2⟩:=zpe.out.cell (i:=k+1+q) (by rw [HXL.out];omega);rw [hxy] at hy1;injection hy1 with hy1
   subst hy1;have ba:=HB1.out a (List.mem_of_getElem? ha);have bb:=htb.out y (List.mem_of_getElem? hy);have bs:=j5 (A:=32768) (B:=1099511627776) (by omega) (by omega) (lam.take q) (tail.take q) (fun z hz=>HB1.out z (List.mem_of_mem_take hz)) (fun z hz=>htb.out z (List.mem_of_mem_take hz));have bm:=qs (a:=a) (b:=y) (A:=32768) (B:=1099511627776) (by omega) (by omega) (by omega) (by omega);have zqy:=Zh (zah lam tail q a y ha hy)
   have htl:(lam.take q).length<=8:=by rw [List.length_take];omega
   obtain ⟨s,hs⟩:∃s,s=zy (lam.take q) (tail.take q):=⟨_,rfl⟩;rw [<-hs] at bs zqy |-
   have bs1:-288230376151711744<=s:=by omega
   have bs2:s<=288230376151711744:=by omega
   obtain ⟨bm1,bm2⟩:=bm;have bm3:-36028797018963968<=a*y:=by omega
   have bm4:a*y<=36028797018963968:=by omega
   clear ba bb bs bm1 bm2 hs ha hy hxy htl;go_wp2_with fail
   exact ⟨⟨q+1,by omega,by go_num,by rw [zqy.out]⟩,by simp [intOf]<;>omega⟩
  ·obtain rfl:q=r:=by omega
   clear hlt;have e1:lam.take q=lam:=List.take_of_length_le (by have :=HLL.out;omega);have e2:tail.take q=tail:=List.take_of_length_le (by have :=HTL.out;omega);rw [e1,e2];clear e1 e2;go_wp2_with fail
   go_ret;exact ⟨rfl,rfl⟩
set_option maxRecDepth 100000 in
theorem zlf {w1:World} {bound:Int} {D:List Int} {L:List (List Int)} {n:Nat} {mA lA:Option Addr} {mc lc:Nat} (hD:Ints w1 mA 2 .i64 D) (hL:Mat64 w1 lA L) (hN:NumOK D L n bound) (k:Nat):
  ∀(rest:Int) (tail:List Int) (W:World) (lB:Option Addr) (c:Nat) (C:List (Int×Int)),LevOK D n bound k rest tail->XRow W (w1.heap.size+1) n k tail->EMem w1 W n mA lA mc lc lB c C->(C++Zu D L k rest tail).length<=1073741824->
   Calls Tryz.prog 118 (#[.int .i64 k,.int .i64 rest]++jJ w1.heap.size) W (zld w1 n mA lA mc lc (C++Zu D L k rest tail) k tail):=by
 induction k using Nat.strongRecOn with
 |ind k ih=>
  intro rest tail W lB c C hLv hX hM zqg;have hkn:=hLv.kn;have hn8:=hN.n8;obtain ⟨f1,f2,-,-,f5⟩:=zF hM.fb;have xb1:W.cell? ⟨w1.heap.size+2,0,none⟩=some (.slice (some ⟨w1.heap.size+1,0,none⟩) n n):=by simp [World.cell?,hM.xb]
  have lb1:W.cell? ⟨w1.heap.size+3,0,none⟩=some (.slice lB C.length c):=by simp [World.cell?,hM.lb]
  have lb2:W.frozen? ⟨w1.heap.size+3,0,none⟩=false:=by simp [World.frozen?,hM.lb]
  obtain ⟨xs,zqf,hxl,hxd⟩:=id hX;have hdl:=hN.dl;have hll:=hN.ll;have hd0:D[k]? =some (vD D k):=by unfold vD;simp [show k<D.length by omega]
  have ztg:D[k+1]? =some (vD D (k+1)):=by unfold vD;simp [show k+1<D.length by omega]
  obtain ⟨bm,om,-,rfl,-⟩:=hD.at_ (i:=k) (by omega);obtain ⟨m3,m4⟩:=qY (hD.ext hM.ext) hd0;obtain ⟨m1,-⟩:=qY (hD.ext hM.ext) ztg;have hSb:=jm hN hLv;have zq4:=fun W' (hh:Ext W W')=>zle (w:=W') f2 f5 (hL.ext hM.ext) (k:=k) (lam:=L.getD k []) (by simp [show k<L.length by omega]) zqf hxl hkn hn8 (hN.row k hkn) (fun a ha=>by have h1:=hN.lam k hkn a ha;have h2:=hN.d2 (k+1) (by omega);omega) (fun y hy=>by
   rw [hxd] at hy;obtain ⟨j,hj,e⟩:=List.getElem_of_mem hy;have :=JA tail j y (by simp [hj,e]);omega)
  rw [hxd] at zq4;have zrT:zy (L.getD k []) tail=Zp L k tail:=rfl;rw [zrT] at zq4;obtain ⟨sh,hsh⟩:∃sh,sh=Zp L k tail:=⟨_,rfl⟩;have bsh:=zcg hN hLv;have bmS:=zeK hN hLv;rw [<-hsh] at bsh zq4;have bsh1:-36028247263150080<=sh:=by omega
  have bsh2:sh<=36028247263150080:=by omega
  have HSH:=Zh hsh;have HSC:=Zh zq4;have hsq:=zak hN hLv;have hR:=QX hN hLv;have hd1:=hN.d1 (k+1) (by omega);have hd2:=hN.d2 (k+1) (by omega);obtain ⟨sqn,zrh⟩:∃sqn,sqn=(Zj D k rest).toNat:=⟨_,rfl⟩;have zrA:vD D k*rest=(sqn:Int):=by have :=hsq.1;rw [zrh];unfold Zj at this |-;omega
  have zt1:sqn<4611686018427387904:=by have :=hsq.2;omega
  have HSQ:Hid (Zj D k rest=(sqn:Int)):=Zh zrA;have HRT:Hid (vR D k rest=(zk sqn:Nat)):=Zh (by rw [zrh];rfl);have zt2:zk sqn<2147483648:=by have :=hR.2.1;rw [HRT.out] at this;omega
  obtain ⟨d,hd⟩:∃d,d=vD D (k+1):=⟨_,rfl⟩;rw [<-hd] at m1 hd1 hd2;have HD:=Zh hd;obtain ⟨dk,hdk⟩:∃dk,dk=vD D k:=⟨_,rfl⟩;rw [<-hdk] at m3 zrA;obtain ⟨p,hp⟩:∃p,p=((zk sqn:Int)+sh) / d:=⟨_,rfl⟩;obtain ⟨hi,hhi⟩:∃hi,hi=((zk sqn:Int)-sh) / d:=⟨_,rfl⟩;have HLO:Hid (zB D L k rest tail=-p):=Zh (by rw [hp,hsh,HD.out,zB,HRT.out]);have HHI:Hid (Zf D L k rest tail=hi):=Zh (by rw [hhi,hsh,HD.out,Zf,HRT.out]);have zrB:=j6 hN hLv
  have zrb:=QI hN hLv;have zpf:Hid (zK D L k rest tail=hi+p+1):=Zh (by rw [zK,HLO.out,HHI.out];omega);rw [HLO.out,HHI.out,HRT.out] at zrB;rw [zpf.out] at zrb;have hp1:-1099511627776<=p:=by omega
  have hp2:p<=1099511627776:=by omega
  have hi1:-1099511627776<=hi:=by omega
  have hi2:hi<=1099511627776:=by omega
  have hq1:=hp.symm;have hq2:=hhi.symm;obtain ⟨ln,hln⟩:∃ln,C.length=ln:=⟨_,rfl⟩;rw [hln] at lb1;have HLN:=Zh hln;have zqe:=hM.ls;rw [hln] at zqe;have HO:=Zh zqe;have zr0:ln+1<=1073741824:=by
   rw [List.length_append,hln] at zqg;have :1<=(Zu D L k rest tail).length:=by cases k<;>simp [Zu]
   omega
  have zut:=hM.sz;have e1:IntKind.i64.wrap ((k:Int)+1)=(k:Int)+1:=IntWalk.i64_in _ (by omega);have zqP:(k:Int)+1<(n:Int)+1:=by omega
  have hge:(0:Int)<=(k:Int)+1:=by omega
  have hto:((k:Int)+1).toNat=k+1:=by omega
  have HM:=Zh hM;have HX:=Zh hX;have HLV:=Zh hLv;have zpl:=Zh zqg;have HLB:=Zh hM.lb;have oS3:Old (w1.heap.size+3) W:=⟨by omega⟩;clear hd hdk zrh hsq hR hxd hdl hll hd0 ztg hX hM zqg bsh bmS zrB hSb hp hhi hsh zq4 zrT hln zqe zrb;unfold jJ;go_enter Tryz.func118,Tryz.ntmps118;go_wp2_with fail
  go_quiet ((go_at_call 119;refine (HSC.out _ Zi).mono ?_;rintro e w' ⟨rfl,rfl⟩;exact ⟨rfl,_,rfl⟩))
  clear e1 zqP hge hto;go_upto_region 5 with (first
   |(go_at_call 117;refine (zk8 (a:=sqn) (by omega)).mono ?_;rintro e w' ⟨rfl,rfl⟩)
   |(go_at_call 120;refine (zk7 (by omega) (by omega) (by omega) (by omega)).mono ?_;rintro e w' ⟨rfl,rfl⟩)
   |(at_builtin;refine zE _ rfl _ _ 58 rfl (w1.heap.size+5) 64 (.agg #[.int .i64 0,.int .i64 0]) 2 16 Tryz.underlying58 zfp rfl (by omega) (by omega) lB ln c _ rfl (HO.out.ext Zi) _ 1 1 [.int .i64 (-p),.int .i64 hi] rfl (Arr.new (W.drewN nq) 64 #[.int .i64 (-p),.int .i64 hi]) (by simp) (by simp [Value.oneCell']) (by omega) (by simp;omega) ?_;intro A4 d4 w4 zqn hg4;have hb4:=(hg4.below.block (w1.heap.size+3) (by omega)).trans (zc (Zi:Ext W ((W.drewN nq).alloc (Obj.cells #[Value.int .i64 (-p),Value.int .i64 hi] 64))) HLB.out);have q1:w4.cell? ⟨w1.heap.size+3,0,none⟩=some (.slice lB C.length c):=(by simp [World.cell?,hb4]);have q2:w4.frozen? ⟨w1.heap.size+3,0,none⟩=false:=(by simp [World.frozen?,hb4]);have q3:w1.heap.size+3<w4.heap.size:=zw hb4;clear hb4))
  have hM2:=HM.out.snoc (Zi:Ext W ((W.drewN nq).alloc (Obj.cells #[Value.int .i64 (-p),Value.int .i64 hi] 64))) HLN.out hg4 zqn;have hX2:XRow (w4.setCell ⟨w1.heap.size+3,0,none⟩ (.slice A4 (ln+1) d4)) (w1.heap.size+1) n k tail:=HX.out.keep (by
   rw [Below.heap_setCell _ _ _ _ (show w1.heap.size+1≠w1.heap.size+3 by omega),hg4.below.block _ (by omega)];exact (Zi:Ext W ((W.drewN nq).alloc (Obj.cells #[Value.int .i64 (-p),Value.int .i64 hi] 64))).below.block _ (by omega))
  generalize w4.setCell ⟨w1.heap.size+3,0,none⟩ (.slice A4 (ln+1) d4)=W2 at hM2 hX2 |-
  have HM2:=Zh hM2;have HX2:=Zh hX2;clear q1 q2 q3 zqn hg4 hM2 hX2 HM HX HO HLB HSC f1 f2 f5 xb1 lb1 lb2 m1 m3 m4 oS3 zqf hxl zut;by_cases hk0:k=0
  ·have HE:Hid (C++Zu D L k rest tail=C++[(-p,hi)]):=Zh (by
    have h1:=HLO.out;have h2:=HHI.out;rw [hk0] at h1 h2 |-
    rw [Zu,h1,h2])
   have ek:((k:Int)==0)=true:=by simp;omega
   have zur:k<1:=by omega
   clear hk0;go_wp2_with fail
   refine bodyPost_ret (results_none rfl _ _ _) rfl ?_;exact ⟨rfl,HX2.out,A4,d4,by rw [HE.out];exact HM2.out⟩
  ·obtain ⟨k',HK1⟩:∃k',Hid (k=k'+1):=⟨k-1,Zh (by omega)⟩;have ek:((k:Int)==0)=false:=by simp;omega
   have zt4:1<=k:=by omega
   obtain ⟨T,HT⟩:∃T:Nat->List (Int×Int),Hid (∀j,T j=jI D L k' rest tail j):=⟨_,Zh fun _=>rfl⟩;have HTN:Hid (C++Zu D L k rest tail=C++[(-p,hi)]++T (hi+p+1).toNat):=Zh (by
    have h1:=HLO.out;have h2:=HHI.out;have h3:=zpf.out;rw [HK1.out] at h1 h2 h3 |-
    rw [zlb,h1,h2,h3,HT.out];simp)
   have HTL:Hid (∀(x:Int) (j:Nat),x=-p+j->x<=hi->(C++[(-p,hi)]++T (j+1)).length<=1073741824):=Zh fun x j h1 h2=>by
    have hh:=zpl.out;rw [HTN.out,HT.out,List.length_append] at hh;have :=zla D L k' rest tail (i:=j+1) (j:=(hi+p+1).toNat) (by omega);rw [HT.out,List.length_append];omega
   have zs0:0<=hi+p+1:=by have :=(QI hN hLv).1;rw [zpf.out] at this;exact this
   rw [HTN.out];clear hk0;go_wp2_with fail
   go_loopw [14,15] (fun s14 _ wr=>∃(x:Int) (j:Nat),s14= .int .i64 x/\Hid (x=-p+j)/\-p<=x/\x<=hi+1/\Hid (XRow wr (w1.heap.size+1) n k tail)/\∃lB c,Hid (EMem w1 wr n (some ⟨bm,om,none⟩) lA mc lc lB c (C++[(-p,hi)]++T j))) (fun s14 _ _=>(hi+1-intOf s14).toNat)
   case atStart=>exact ⟨_,0,rfl,Zh (by omega),by omega,by omega,HX2,A4,d4,Zh (by rw [HT.out];simpa [jI] using HM2.out)⟩
   case round=>
    obtain ⟨x,j,rfl,HXJ,hx1,hx2,HXr,lB2,c2,HMr⟩:=hrel;by_cases hlt:x<=hi
    ·have zq1:zB D L k rest tail<=x:=by rw [HLO.out];exact hx1
     have zq2:x<=Zf D L k rest tail:=by rw [HHI.out];exact hlt
     have hub:=zch hN hLv zq1 zq2;obtain ⟨zrC,zsk,-,-⟩:=zci hN hLv zq1 zq2;obtain ⟨u,hu⟩:∃u,u=d*x+sh:=⟨_,rfl⟩;have HU:Hid (vU D L k tail x=u):=Zh (by rw [hu,HSH.out,HD.out];rfl);have HRS:Hid (Zq D L k rest tail x=((sqn:Int)-u*u) / d):=Zh (by rw [Zq,HU.out,HSQ.out,<-HD.out]);rw [HU.out] at hub zrC zsk;rw [HSQ.out] at zrC;rw [HRT.out] at hub;have hln:=HTL.out x j HXJ.out hlt;have xb2:wr.cell? ⟨w1.heap.size+2,0,none⟩=some (.slice (some ⟨w1.heap.size+1,0,none⟩) n n):=by simp [World.cell?,HMr.out.xb]
     have bw2:w1.heap.size+5<=wr.heap.size:=HMr.out.sz;obtain ⟨xs2,zsz,zuu,-⟩:=id HXr.out;obtain ⟨y0,-,hc0⟩:=zsz.cell (i:=k) (by omega);have hf0:=zsz.frozen k;have hu':=hu.symm;have zt5:-2147483648<=u:=by omega
     have zt6:u<=2147483648:=by omega
     have hus:u*u<=4611686018427387904:=by omega
     have hdx:=qs (a:=d) (b:=x) (A:=65536) (B:=2199023255552) (by omega) (by omega) (by omega) (by omega);have zt7:-144115188075855872<=d*x:=by omega
     have zt8:d*x<=144115188075855872:=by omega
     have hLn:LevOK D n bound (k'+1) rest tail:=by rw [<-HK1.out];exact hLv
     have hL':LevOK D n bound k' (((sqn:Int)-u*u) / d) (x::tail):=by
      have :=LevOK.next hN hLn (x:=x) (by rw [<-HK1.out];exact zq1) (by rw [<-HK1.out];exact zq2);rw [<-HK1.out,HRS.out] at this;exact this
     have hX3:XRow (wr.setCell ⟨w1.heap.size+1,k,none⟩ (.int .i64 x)) (w1.heap.size+1) n k' (x::tail):=by
      have h1:XRow wr (w1.heap.size+1) n (k'+1) tail:=by rw [<-HK1.out];exact HXr.out
      have :=h1.put (by have :=HK1.out;omega) x;rw [<-HK1.out] at this;exact this
     have HNX:Hid (T (j+1)=T j++Zu D L k' (((sqn:Int)-u*u) / d) (x::tail)):=Zh (by
      have h1:=HLO.out;have h2:=HRS.out;rw [HK1.out] at h1 h2;rw [HT.out,HT.out,zfn,h1,<-HXJ.out,h2])
     have hM3:=HMr.out.setX k (.int .i64 x);obtain ⟨q,hq⟩:∃q,q=((sqn:Int)-u*u) / d:=⟨_,rfl⟩;rw [<-hq] at hL' HNX;have zqt:=fun (W':World) (hh:Ext (wr.setCell ⟨w1.heap.size+1,k,none⟩ (.int .i64 x)) W')=>ih k' (by have :=HK1.out;omega) q (x::tail) W' lB2 c2 (C++[(-p,hi)]++T j) hL' (hX3.to hh) (hM3.to hh) (by rw [List.append_assoc,<-HNX.out];exact hln)
     rw [List.append_assoc,<-HNX.out,show ((k':Nat):Int)=(k:Int)-1 by have :=HK1.out;omega] at zqt;unfold jJ at zqt;simp only [List.append_toArray,List.cons_append,List.nil_append] at zqt;have HC:=Zh zqt;have hfn:=zfo;unfold qe at hfn;have hq0:0<=q:=by rw [hq];exact Int.ediv_nonneg (by omega) (by omega)
     have hqm:q<=(sqn:Int)-u*u:=by rw [hq];exact Int.ediv_le_self _ (by omega)
     have g1:IntKind.i64.wrap ((k:Int)-1)=(k:Int)-1:=IntWalk.i64_in _ (by omega);have g2:IntKind.i64.wrap (u*u)=u*u:=IntWalk.i64_in _ (by omega);have g3:IntKind.i64.wrap ((sqn:Int)-u*u)=(sqn:Int)-u*u:=IntWalk.i64_in _ (by omega);have g4:((sqn:Int)-u*u).tdiv d=q:=by rw [hq];exact Int.tdiv_eq_ediv_of_nonneg (by omega)
     have g5:IntKind.i64.wrap q=q:=IntWalk.i64_in _ (by omega);have g6:¬d=0:=by omega
     have HQ:=Zh hq;have sb3:(wr.setCell ⟨w1.heap.size+1,k,none⟩ (.int .i64 x)).cell? ⟨w1.heap.size+4,0,none⟩=some (.func (.func 118) #[] (jJ w1.heap.size)):=by simp [World.cell?,hM3.sb]
     unfold jJ at sb3;clear hub hu zq1 zq2 hX3 hL' hLn zqt hdx zuu zsz hln hq hM3;go_upto_region 11 with fail
     generalize wr.setCell ⟨w1.heap.size+1,k,none⟩ (.int .i64 x)=W3 at HC sb3 |-
     go_region_with (refine (HC.out _ Zi).mono ?_;rintro e W5 ⟨rfl,hX5,lB5,c5,hM5⟩)
     all_goals (
      have HX5:=Zh hX5.up;have HM5:=Zh hM5;clear hX5 hM5 g1 g2 g3 g4 g5;go_wp2_with fail
      exact ⟨⟨x+1,j+1,rfl,Zh (by have :=HXJ.out;omega),by omega,by omega,Zh (by have :=HX5.out;rw [<-HK1.out] at this;exact this),lB5,c5,HM5⟩,by simp [intOf];omega⟩)
    ·have HJE:Hid ((hi+p+1).toNat=j):=Zh (by have :=HXJ.out;omega);go_wp2_with fail
     go_end0
     exact ⟨rfl,HXr.out,lB2,c2,by rw [HTN.out,HJE.out];exact HMr.out⟩
def zfq (w:World) (C:List (Int×Int)) (e:Ending) (w':World):Prop:=∃A c,e= .returned (.slice A C.length c)/\IvT w' A C/\C.length<=c/\c<=9223372036854775807/\Step w w'
theorem EMem.start {w1:World} {n mc lc:Nat} {mA lA:Option Addr} (hn:1<=n):
  XRow (((((w1.alloc (.cells #[.slice mA (n+1) mc,.slice lA n lc] 99)).alloc (.cells (zQ #[.int .i64 0] n) 2)).alloc (.cells #[.slice (some ⟨w1.heap.size+1,0,none⟩) n n] 37)).alloc (.cells #[.slice none 0 0] 58)).alloc (.cells #[.func (.func 118) #[] #[.pointer (some ⟨w1.heap.size,0,none⟩),.pointer (some ⟨w1.heap.size+1+1,0,none⟩),.pointer (some ⟨w1.heap.size+1+1+1,0,none⟩),.pointer (some ⟨w1.heap.size+1+1+1+1,0,none⟩)]] 165)) (w1.heap.size+1) n (n-1) []/\
  EMem w1 (((((w1.alloc (.cells #[.slice mA (n+1) mc,.slice lA n lc] 99)).alloc (.cells (zQ #[.int .i64 0] n) 2)).alloc (.cells #[.slice (some ⟨w1.heap.size+1,0,none⟩) n n] 37)).alloc (.cells #[.slice none 0 0] 58)).alloc (.cells #[.func (.func 118) #[] #[.pointer (some ⟨w1.heap.size,0,none⟩),.pointer (some ⟨w1.heap.size+1+1,0,none⟩),.pointer (some ⟨w1.heap.size+1+1+1,0,none⟩),.pointer (some ⟨w1.heap.size+1+1+1+1,0,none⟩)]] 165)) n mA lA mc lc none 0 []:=by
 generalize e1:w1.alloc (.cells #[.slice mA (n+1) mc,.slice lA n lc] 99)=W1;generalize e2:W1.alloc (.cells (zQ #[.int .i64 0] n) 2)=W2;generalize e3:W2.alloc (.cells #[.slice (some ⟨w1.heap.size+1,0,none⟩) n n] 37)=W3;generalize e4:W3.alloc (.cells #[.slice none 0 0] 58)=W4;generalize e5:W4.alloc (.cells #[.func (.func 118) #[] #[.pointer (some ⟨w1.heap.size,0,none⟩),.pointer (some ⟨w1.heap.size+1+1,0,none⟩),.pointer (some ⟨w1.heap.size+1+1+1,0,none⟩),.pointer (some ⟨w1.heap.size+1+1+1+1,0,none⟩)]] 165)=W5
 have s1:W1.heap.size=w1.heap.size+1:=by rw [<-e1,World.size_alloc]
 have s2:W2.heap.size=w1.heap.size+2:=by rw [<-e2,World.size_alloc,s1]
 have s3:W3.heap.size=w1.heap.size+3:=by rw [<-e3,World.size_alloc,s2]
 have s4:W4.heap.size=w1.heap.size+4:=by rw [<-e4,World.size_alloc,s3]
 have s5:W5.heap.size=w1.heap.size+5:=by rw [<-e5,World.size_alloc,s4]
 have x1:Ext w1 W1:=by rw [<-e1];infer_instance
 have x2:Ext W1 W2:=by rw [<-e2];infer_instance
 have x3:Ext W2 W3:=by rw [<-e3];infer_instance
 have x4:Ext W3 W4:=by rw [<-e4];infer_instance
 have x5:Ext W4 W5:=by rw [<-e5];infer_instance
 have h1:=heap_alloc_new w1 (.cells #[.slice mA (n+1) mc,.slice lA n lc] 99);have h2:=heap_alloc_new W1 (.cells (zQ #[.int .i64 0] n) 2);have h3:=heap_alloc_new W2 (.cells #[.slice (some ⟨w1.heap.size+1,0,none⟩) n n] 37);have h4:=heap_alloc_new W3 (.cells #[.slice none 0 0] 58);have h5:=heap_alloc_new W4 (.cells #[.func (.func 118) #[] #[.pointer (some ⟨w1.heap.size,0,none⟩),.pointer (some ⟨w1.heap.size+1+1,0,none⟩),.pointer (some ⟨w1.heap.size+1+1+1,0,none⟩),.pointer (some ⟨w1.heap.size+1+1+1+1,0,none⟩)]] 165)
 rw [e1] at h1;rw [e2,s1] at h2;rw [e3,s2] at h3;rw [e4,s3] at h4;rw [e5,s4] at h5;have x35:=x4.trans x5;have x25:=x3.trans x35;have x15:=x2.trans x25;refine ⟨⟨List.replicate n 0,?_,by simp,by simp;omega⟩,x1.trans x15,zc x15 h1,zc x35 h3,zc x5 h4,h5,Own.nil _ _ _ _,by omega⟩;have :(zQ #[.int .i64 0] n)=((List.replicate n (0:Int)).map (Value.int .i64)).toArray:=by
  apply Array.ext';rw [QH];simp
 rw [this] at h2;exact zc x25 h2
theorem zlg {w0 w:World} {A:Option Addr} {c:Nat} {m:List (List Int)} {bound:Int} (h:Mat64 w0 A m) (h2:2<=m.length) (hf:FormOK m) (h64:jH m) (hb0:0<=bound) (hb1:bound<1073741824) (zqg:(Zu (za m m.length) (zd m m.length) (m.length-1) (vD (za m m.length) m.length*bound) []).length<=1073741824) (hbd:∀p∈Zu (za m m.length) (zd m m.length) (m.length-1) (vD (za m m.length) m.length*bound) [],-9223372036854775808<=p.1/\p.1<=9223372036854775807/\-9223372036854775808<=p.2/\p.2<=9223372036854775807) [hx:Ext w0 w]:
  Calls Tryz.prog 70 #[.slice A m.length c,.int .i64 bound] w (zfq w (Zu (za m m.length) (zd m m.length) (m.length-1) (vD (za m m.length) m.length*bound) [])):=by
 have hN:=hf.num bound hb0 hb1;have h8:=hN.n8;have hnf:=fun W (hh:Ext w0 W)=>zfi (w:=W) (c:=c) h hf.len1 h8 hf.all hf.fits hf.elim h64
 have hDl:(za m m.length).length=m.length+1:=Jy m _;have hLl:(zd m m.length).length=m.length:=by simp [zd]
 obtain ⟨D,hD⟩:∃D,D=za m m.length:=⟨_,rfl⟩;obtain ⟨L,hL⟩:∃L,L=zd m m.length:=⟨_,rfl⟩;rw [<-hD,<-hL] at hnf hN zqg hbd |-
 rw [<-hD] at hDl;rw [<-hL] at hLl;unfold zcz at hnf;rw [hDl,hLl] at hnf;obtain ⟨n,hn⟩:∃n,n=m.length:=⟨_,rfl⟩;rw [<-hn] at hnf hN hDl hLl h2 h8 zqg hbd |-
 obtain ⟨dn,hdn⟩:∃dn,dn=vD D n:=⟨_,rfl⟩;have e1:=hN.d1 n (by omega);have e2:=hN.d2 n (by omega);rw [<-hdn] at e1 e2 zqg hbd |-
 have hm1:0<=dn*bound:=Int.mul_nonneg (by omega) (by omega);have hm2:dn*bound<=65535*1073741823:=Int.mul_le_mul (by omega) (by omega) (by omega) (by omega);have zqA:LevOK D n bound (n-1) (dn*bound) []:=⟨by omega,hm1,by rw [show n-1+1=n by omega,hdn];exact Int.le_refl _,by simp,by simp [zY]⟩;obtain ⟨rest,zr1⟩:∃rest,dn*bound=rest:=⟨_,rfl⟩;rw [zr1] at hm1 hm2 zqA zqg hbd |-
 have hdi:D[n]? =some dn:=by rw [hdn];unfold vD;simp [show n<D.length by omega]
 have HNF:=Zh hnf;have HDL:=Zh hDl;have zp0:=Zh zqA;have zpl:=Zh zqg;have HDI:=Zh hdi;have HBD:=Zh hbd;have hne:((n:Int)==1)=false:=by simp;omega
 have hmk:=ZC (P:=Tryz.prog) Tryz.underlying37 qG (by omega) (n:Int) (by omega) (by omega);clear hnf hD hL hn hDl hLl zqA hdi hdn zqg hf h64 hbd;go_enter Tryz.func70,Tryz.ntmps70;go_wp2_with (go_at_call 113;refine (HNF.out _ Zi).mono ?_;clear HNF;rintro e w1 ⟨mA,mc,lA,lc,rfl,hDX,hLX,d1,d2,d3,d4,hs1⟩)
 have hfv:=Mat64X.fv (P:=fun _=>True) hDX hLX (Ext.refl _) (fun _ _ _=>trivial);have hD:=hfv.ints;have hL:=hfv.mat;clear hDX hLX hfv;obtain ⟨hX,hM⟩:=EMem.start (mA:=mA) (lA:=lA) (mc:=mc) (lc:=lc) (n:=n) (by omega);generalize (((((w1.alloc (.cells #[.slice mA (n+1) mc,.slice lA n lc] 99)).alloc (.cells (zQ #[.int .i64 0] n) 2)).alloc (.cells #[.slice (some ⟨w1.heap.size+1,0,none⟩) n n] 37)).alloc (.cells #[.slice none 0 0] 58)).alloc (.cells #[.func (.func 118) #[] #[.pointer (some ⟨w1.heap.size,0,none⟩),.pointer (some ⟨w1.heap.size+1+1,0,none⟩),.pointer (some ⟨w1.heap.size+1+1+1,0,none⟩),.pointer (some ⟨w1.heap.size+1+1+1+1,0,none⟩)]] 165))=W at hX hM |-
 obtain ⟨f1,f2,f3,f4,f5⟩:=zF hM.fb;have sb1:W.cell? ⟨w1.heap.size+1+1+1+1,0,none⟩=some (.func (.func 118) #[] #[.pointer (some ⟨w1.heap.size,0,none⟩),.pointer (some ⟨w1.heap.size+1+1,0,none⟩),.pointer (some ⟨w1.heap.size+1+1+1,0,none⟩),.pointer (some ⟨w1.heap.size+1+1+1+1,0,none⟩)]):=by
  have :W.cell? ⟨w1.heap.size+4,0,none⟩=some (.func (.func 118) #[] (jJ w1.heap.size)):=by simp [World.cell?,hM.sb]
  exact this
 obtain ⟨bm,om,-,rfl,-⟩:=hD.at_ (i:=n) (by have :=HDL.out;omega);obtain ⟨m3,m4⟩:=qY (hD.ext hM.ext) HDI.out;have zqt:=fun (W':World) hX' hM'=>zlf (mc:=mc) (lc:=lc) hD hL hN (n-1) rest [] W' none 0 [] zp0.out hX' hM' (by rw [List.nil_append];exact zpl.out)
 rw [show ((n-1:Nat):Int)=(n:Int)-1 by omega,List.nil_append] at zqt;unfold jJ at zqt;simp only [List.append_toArray,List.cons_append,List.nil_append] at zqt;have HC:=Zh zqt;have hfn:=zfo;unfold qe at hfn;have HX:=Zh hX;have HM:=Zh hM;have w1e:IntKind.i64.wrap ((n:Int)-1)=(n:Int)-1:=IntWalk.i64_in _ (by omega);have w2e:IntKind.i64.wrap rest=rest:=IntWalk.i64_in _ (by omega);clear zqt hX hM;go_region_with (refine (HC.out _ HX.out.drew (HM.out.to (zcA _))).mono ?_;rintro e W3 ⟨rfl,hX4,lB4,c4,hM4⟩)
 all_goals (
  have lb4:W3.cell? ⟨w1.heap.size+1+1+1,0,none⟩=some (.slice lB4 (Zu D L (n-1) rest []).length c4):=by
   have :W3.cell? ⟨w1.heap.size+3,0,none⟩=some (.slice lB4 (Zu D L (n-1) rest []).length c4):=by simp [World.cell?,hM4.lb]
   exact this
  have zvF:w1.heap.size+1+1+1<W3.heap.size:=by have :=hM4.sz;omega
  have zqh:zfq w (Zu D L (n-1) rest []) (.returned (.slice lB4 (Zu D L (n-1) rest []).length c4)) W3:=by
   have hc:=hM4.ls.cap;have hxw:Ext w w1:=Zi;exact ⟨lB4,c4,rfl,⟨hM4.ls.arr,HBD.out⟩,hc.1,hc.2,(hxw.trans hM4.ext).toStep⟩
  have HF:=Zh zqh;clear zqh hM4 hX4;generalize (Zu D L (n-1) rest []).length=ln at lb4 HF |-
  go_wp2;go_ret;exact HF.out)
end Go.Proofs.YtjehjkipcaohpaaGreat
