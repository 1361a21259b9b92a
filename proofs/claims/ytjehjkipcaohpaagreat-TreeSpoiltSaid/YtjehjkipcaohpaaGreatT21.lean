/- Tr11 Tr12 Tr13 Tr14 Tr15 Tr16 Tr17 -/
import Derived.Test.YtjehjkipcaohpaaGreatT20
import Derived.Deep.LoopGhost
import Derived.Defers
import Derived.Recover
set_option maxHeartbeats 8000000
set_option linter.unusedVariables false
set_option linter.unusedSimpArgs false
set_option linter.constructorNameAsVariable false
namespace Go.Proofs.YtjehjkipcaohpaaGreat
open Go.RowKit
def IvV (w:World) (A:Option Addr) (C:List (Int×Int)):Prop:=(∃te,Arr w A te (C.flatMap fun p=>[.int .i64 p.1,.int .i64 p.2]))/\∀p∈C,-9223372036854775808<=p.1/\p.1<=9223372036854775807/\-9223372036854775808<=p.2/\p.2<=9223372036854775807
theorem IvV.ext {w w':World} {A:Option Addr} {C:List (Int×Int)} (h:IvV w A C) (hx:Ext w w'):IvV w' A C:=by
 obtain ⟨⟨te,h1⟩,h2⟩:=h;exact ⟨⟨te,h1.ext hx⟩,h2⟩
def IvT (w:World) (A:Option Addr) (C:List (Int×Int)):Prop:=Arr w A 64 (C.flatMap fun p=>[.int .i64 p.1,.int .i64 p.2])/\∀p∈C,-9223372036854775808<=p.1/\p.1<=9223372036854775807/\-9223372036854775808<=p.2/\p.2<=9223372036854775807
theorem IvT.toV {w:World} {A:Option Addr} {C:List (Int×Int)} (h:IvT w A C):IvV w A C:=⟨⟨_,h.1⟩,h.2⟩
theorem zfB:∀(C:List (Int×Int)) (i:Nat) (p:Int×Int),C[i]? =some p->(C.flatMap fun p=>[Value.int .i64 p.1,Value.int .i64 p.2])[i*2]? =some (.int .i64 p.1)/\(C.flatMap fun p=>[Value.int .i64 p.1,Value.int .i64 p.2])[i*2+1]? =some (.int .i64 p.2)
 |[],i,p,h=>by simp at h
 |q::C,0,p,h=>by simp at h;subst h;exact ⟨rfl,rfl⟩
 |q::C,i+1,p,h=>by
  have :=zfB C i p (by simpa using h);rw [show (i+1)*2=i*2+2 by omega];exact this
theorem IvV.at_ {w:World} {A:Option Addr} {C:List (Int×Int)} (h:IvV w A C) {i:Nat} {p:Int×Int} (hi:C[i]? =some p):∃b o,A=some ⟨b,o,none⟩/\w.cell? ⟨b,o+i*2,none⟩=some (.int .i64 p.1)/\w.cell? ⟨b,o+i*2+1,none⟩=some (.int .i64 p.2)/\b<w.heap.size:=by
 obtain ⟨f1,f2⟩:=zfB C i p hi;obtain ⟨⟨te,ha⟩,-⟩:=h;obtain ⟨b,o,hA,h1,h2⟩:=ha.at_ f1;obtain ⟨b',o',hA',h1',-⟩:=ha.at_ f2;rw [hA] at hA';injection hA' with hA'
 injection hA' with z1 z2
 subst z1 z2;exact ⟨b,o,hA,h1,h1',h2⟩
def zla (w:World) (y:Lay) (D:List Int) (L:List (List Int)) (R:Option (List (List Int))) (e:Ending) (W':World):Prop:=
 (∃l',R=some l'/\e= .returned (.tuple #[])/\∃x rest lv lB c vs,CMem w W' y D L x rest lv lB c l' vs)∨(R=none/\(∃u pv,e= .panicked [{v:= .iface u pv,recovered:=false}])/\Ext w W'/\Keeps 4 y.gw W')
set_option maxRecDepth 100000 in
theorem zlb {w W:World} {y:Lay} {D:List Int} {L:List (List Int)} {za:Int} {x rest:List Int} {lv:List Lvl} {lB:Option Addr} {c cc:Nat} {l:List (List Int)} {vs:List Value} {A:Option Addr} {C:List (Int×Int)} (hN:ChkN D L y.n za) (hI:ChkInv D L y.n za (y.n-1) x rest lv) (hM:CMem w W y D L x rest lv lB c l vs) (hC:IvV w A C) (zp9:C.length<=1099511627776) (hl:l.length<=4097):
  Calls Tryz.prog 116 #[.pointer (some ⟨y.K,0,none⟩),.slice A C.length cc] W (zla w y D L (qe D L y.n C (y.n-1) x rest lv l)):=by
 obtain ⟨K,bx,br,bl,zd,n,mA,lA,mc,lc,gw⟩:=y;simp only at hN hI |-
 have hn1:=hN.n1;have hn8:=hN.n8;obtain ⟨R,hR⟩:∃R,qe D L n C (n-1) x rest lv l=R:=⟨_,rfl⟩;rw [hR];obtain ⟨q0,q1,q2,q3,q4,q5,q6,q7⟩:=hM.kc;simp only at q0 q1 q2 q3 q4 q5 q6 q7;obtain ⟨cl,hcl⟩:∃cl,C.length=cl:=⟨_,rfl⟩;rw [hcl] at zp9 |-
 have HN:=Zh hN;have HI:=Zh hI;have HM:=Zh hM;have HC:=Zh hC;have HR:=Zh hR;have HL:=Zh hl;have HCL:=Zh hcl;clear hN hI hM hC hR hl hcl;go_enter Tryz.func116,Tryz.ntmps116;go_wp2_with fail
 go_step3
 go_wp2_with fail
 go_step3
 go_wp2_with fail
 go_loopw [5,6,16] (fun s5 _ s16 wr=>∃(i:Nat) (kz:Int) (k:Nat) (x rest:List Int) (lv:List Lvl) (lB:Option Addr) (c:Nat) (l:List (List Int)) (vs:List Value),s16= .int .i64 i/\i<=cl/\s5= .int .i64 kz/\Hid (kz=(k:Int))/\0<=kz/\kz<n/\Hid (ChkInv D L n za k x rest lv)/\Hid (CMem w wr ⟨K,bx,br,bl,zd,n,mA,lA,mc,lc,gw⟩ D L x rest lv lB c l vs)/\Hid (l.length<=4097)/\Hid (qe D L n (C.drop i) k x rest lv l=R)) (fun _ _ s16 _=>cl-(intOf s16).toNat)
 case atStart=>exact ⟨0,_,n-1,x,rest,lv,lB,c,l,vs,rfl,by omega,rfl,Zh (by omega),by omega,by omega,HI,HM,HL,HR⟩
 case round=>
  obtain ⟨i,kz,k,x,rest,lv,lB,c,l,vs,rfl,hi,rfl,HKZ,ztg,zvx,HI,HM,HL,HR⟩:=hrel;obtain ⟨wo,rfl⟩:∃wo:World,wo=wr:=⟨_,rfl⟩;obtain rfl:kz=(k:Int):=HKZ.out;clear q0 q1 q2 q3 q4 q5 q6 q7 HKZ;by_cases hlt:i<cl
  ·obtain ⟨⟨lo,hi'⟩,hp⟩:∃p,C[i]? =some p:=⟨_,Ze (by rw [HCL.out];exact hlt)⟩;obtain ⟨b,o,rfl,c1,c2,c3⟩:=(HC.out.ext HM.out.ext).at_ hp;simp only at c1 c2;obtain ⟨bd1,bd2,bd3,bd4⟩:=HC.out.2 _ (Zm hp);simp only at bd1 bd2 bd3 bd4;have zth:C.drop i=(lo,hi')::C.drop (i+1):=by
    have h1:=(Zg.1 hp).1;rw [List.drop_eq_getElem_cons h1,(Zg.1 hp).2]
   have zqu:=HR.out;rw [zth,qe] at zqu;try simp only at zqu
   have hkn:k<n:=by omega
   have zqw:=HI.out.lev HN.out;have hr1:rest[k+1]? =some (rest.getD (k+1) 0):=by have :=HI.out.rl;simp [show k+1<rest.length by omega]
   obtain ⟨v,hv⟩:∃v,z7 D L k x rest hi'=v:=⟨_,rfl⟩;rw [hv] at zqu;have zr0:=fun W' (hh:Ext wo W')=>zk4 (W:=W') (lo:=lo) (hi:=hi') (HM.out.to hh) zqw hr1 bd1 bd2 bd3 bd4
   have hv':(⟨vD D (k+1),zC (L.getD k []) (x.drop (k+1)),rest.getD (k+1) 0*vD D k,hi'⟩:Lvl)=v:=hv;have hvh:v.hi=hi':=by rw [<-hv']
   have hvm:v.mi=vD D (k+1)/\v.sh=zC (L.getD k []) (x.drop (k+1))/\v.lim=rest.getD (k+1) 0*vD D k:=by rw [<-hv'];exact ⟨rfl,rfl,rfl⟩
   obtain ⟨zsu,zsv,zsw⟩:=hvm;rw [hv',<-zsu,<-zsv,<-zsw] at zr0;try simp only at zr0
   have zpk:=Zh zr0;have HST:=Zh zqu;have HV:=Zh hv;have HVH:=Zh hvh;have HPI:=Zh hp;have oC:Old b wo:=⟨c3⟩;have hI1:=HI.out.setLv v;have hvg:(lv.set k v).getD k ⟨0,0,0,0⟩=v:=jh _ _ _ _ (by rw [HI.out.ll];exact hkn);have HI1:=Zh hI1;have HVG:=Zh hvg;have hmi:1<=v.mi/\v.mi<65536:=by rw [zsu];exact ⟨HN.out.d1 _ (by omega),HN.out.d2 _ (by omega)⟩
   have hsb:-288230376151711744<=v.sh/\v.sh<=288230376151711744:=by rw [zsv];exact zbr zqw.n8 zqw.ll zqw.bl zqw.bx
   have hlm:v.lim<18446744073709551616:=by rw [zsw];exact zqw.r1
   clear zr0 zqu hv hv' hvh zth hI1 hvg zsu zsv zsw hp zqw hr1;obtain ⟨ok,hok⟩:∃ok,Z2 v.mi v.sh v.lim lo hi'=ok:=⟨_,rfl⟩;rw [hok] at zpk HST;have HOK:=Zh hok;clear hok
   cases ok
   ·have zpc:Hid (R=none):=Zh (by have :=HST.out;simpa using this.symm);go_wp2_with (go_at_call 176;refine (zpk.out _ Zi).mono ?_;rintro e W1 ⟨hM1,hh⟩;rcases hh with ⟨h0,-⟩ |⟨-,vu,vv,rfl⟩;(first |cases h0 |skip))
    rw [Exit.noGoto_panic];exact zaF rfl (.inr ⟨zpc.out,⟨vu,vv,rfl⟩,hM1.ext,hM1.kp⟩)
   ·obtain ⟨ab1,ab2,ab3,ab4⟩:=zfA HOK.out;have zpl:Hid (∀W',Ext wo W'->Calls Tryz.prog 176 #[.pointer (some ⟨K,0,none⟩),.int .i64 k,.agg #[.int .i64 lo,.int .i64 hi']] W' fun e W1=>e= .returned (.tuple #[])/\CMem w W1 ⟨K,bx,br,bl,zd,n,mA,lA,mc,lc,gw⟩ D L x rest (lv.set k v) lB c l vs):=Zh (fun W' hh=>(zpk.out W' hh).mono (fun e W1 ⟨hM1,h2⟩=>by
     rcases h2 with ⟨-,he⟩ |⟨h0,-⟩
     ·exact ⟨he,hM1⟩
     ·cases h0))
    clear zpk;have zpm:Hid ((if 0<k/\lo<=hi' then qe D L n (C.drop (i+1)) (k-1) (x.set k lo) (rest.set k (qD v lo)) (lv.set k v) l else match qw n x (lv.set k v) (k+1) with |some k1=>qe D L n (C.drop (i+1)) (k1-1) (x.set k1 (x.getD k1 0+1)) (rest.set k1 (qD ((lv.set k v).getD k1 ⟨0,0,0,0⟩) (x.getD k1 0+1))) (lv.set k v) (QS k x lo hi' l) |none=>if C.drop (i+1)=[] then some (QS k x lo hi' l) else none)=R):=Zh (by have :=HST.out;rw [if_pos rfl] at this;exact this)
    clear HST;by_cases hdn:0<k/\lo<=hi'
    ·have HR2:Hid (qe D L n (C.drop (i+1)) (k-1) (x.set k lo) (rest.set k (qD v lo)) (lv.set k v) l=R):=Zh (by have :=zpm.out;rwa [if_pos hdn] at this);obtain ⟨hk0,hle⟩:=hdn;obtain ⟨in1,in2⟩:=ab4 hle;have d1:decide ((0:Int)<(k:Int))=true:=by simp;omega
     have d2:decide (lo<=hi')=true:=by simpa using hle
     have zql:=zbq (x:=lo) hmi.1 hmi.2 hsb ⟨by omega,by omega⟩;have zqC:=fun (W':World) (hM':CMem w W' ⟨K,bx,br,bl,zd,n,mA,lA,mc,lc,gw⟩ D L x rest (lv.set k v) lB c l vs)=>zcQ (xv:=lo) (u:=zM v.mi v.sh lo) hM' hkn hn8 (k:=k) (v:=v) (by rw [List.getElem?_set_self (by rw [HI.out.ll];exact hkn)]) zql rfl hmi.1 hmi.2 (zbs in1) hlm
     have zpg:=Zh zqC;have HI2:Hid (ChkInv D L n za (k-1) (x.set k lo) (rest.set k (qD v lo)) (lv.set k v)):=Zh (by
      have :=HI1.out.next HN.out (a:=lo) hk0 (by rw [HVG.out,HVH.out,HV.out]) (by have h1:=in1;rw [<-HV.out] at h1;exact h1) (by rw [HVG.out,HVH.out];have h1:=in2;rw [<-HV.out] at h1;exact h1) (by rw [HVG.out,HVH.out];exact ab2) ab1 (by omega);rwa [HVG.out] at this)
     clear zqC zpm zql in1 in2 ab4;go_wp2_with (go_at_call 176;refine (zpl.out _ Zi).mono ?_;rintro e W1 ⟨rfl,hM1⟩;have hcc:=(HC.out.ext hM1.ext).at_ (i:=i) (p:=(lo,hi')) HPI.out;obtain ⟨b',o',hA',c1',c2',c3'⟩:=hcc;injection hA' with hA';injection hA' with z1 z2;subst z1 z2;simp only at c1' c2';have HM1:=Zh hM1;clear hM1)
     go_quiet (fail)
     go_wp2_with (go_at_call 177;refine (zpg.out _ (HM1.out.to Zi)).mono ?_;rintro e W2 ⟨rfl,hM2⟩;have HM2:=Zh hM2;clear hM2)
     exact ⟨⟨i+1,(k:Int)-1,k-1,_,_,_,_,_,_,_,by go_num,by omega,rfl,Zh (by omega),by omega,by omega,HI2,HM2,HL,HR2⟩,by simp [intOf];omega⟩
    ·have HR2:Hid ((match qw n x (lv.set k v) (k+1) with |some k1=>qe D L n (C.drop (i+1)) (k1-1) (x.set k1 (x.getD k1 0+1)) (rest.set k1 (qD ((lv.set k v).getD k1 ⟨0,0,0,0⟩) (x.getD k1 0+1))) (lv.set k v) (QS k x lo hi' l) |none=>if C.drop (i+1)=[] then some (QS k x lo hi' l) else none)=R):=Zh (by have :=zpm.out;rwa [if_neg hdn] at this);have hgd:(decide ((0:Int)<(k:Int))=true/\decide (lo<=hi')=false)∨decide ((0:Int)<(k:Int))=false:=by
      by_cases h0:0<k
      ·exact .inl ⟨by simp;omega,by simp;omega⟩
      ·exact .inr (by simp;omega)
     clear zpm ab4 hgd;obtain ⟨l1,hl1⟩:∃l1,QS k x lo hi' l=l1:=⟨_,rfl⟩;rw [hl1] at HR2;have HR3:=HR2;clear HR2;by_cases hk0:k=0
     ·have dk:decide ((0:Int)<(k:Int))=false:=by simp;omega
      have ek:((k:Int)==0)=true:=by simp;omega
      have hne:x≠[]:=fun h0=>by have :=HI.out.xl;rw [h0] at this;simp at this;omega
      obtain ⟨x0,tail,hxt⟩:∃x0 tail,x=x0::tail:=by
       cases x with
       |nil=>exact absurd rfl hne
       |cons a t=>exact ⟨a,t,rfl⟩
      have zrp:=fun (W':World) (hM':CMem w W' ⟨K,bx,br,bl,zd,n,mA,lA,mc,lc,gw⟩ D L x rest (lv.set k v) lB c l vs)=>zk9 (lo:=lo) (hi:=hi') (x0:=x0) (tail:=tail) (by rw [<-hxt];exact hM') hn8 ab1 (by omega) (by omega) ab2 HL.out
      have zru:l++Zb tail (qd tail lo) (zT (qd tail lo) hi' l.length)=l1:=by rw [<-hl1,QS,if_pos hk0,hxt];rfl
      rw [zru,<-hxt] at zrp;have HL1:Hid (l1.length<=4097):=Zh (by rw [<-zru,List.length_append,Jp];have :=HL.out;unfold zT;omega);have zpR:=Zh zrp;have hkb:¬((0:Int)<k):=by omega
      have zun:k<1:=by omega
      have zvy:decide (0<k)=false:=by simp;omega
      have HK0:=Zh hk0;clear zrp zru hxt hl1 hne hk0 hdn;go_wp2_with (go_at_call 176;refine (zpl.out _ Zi).mono ?_;rintro e W1 ⟨rfl,hM1⟩;have hcc:=(HC.out.ext hM1.ext).at_ (i:=i) (p:=(lo,hi')) HPI.out;obtain ⟨b',o',hA',c1',c2',c3'⟩:=hcc;injection hA' with hA';injection hA' with z1 z2;subst z1 z2;simp only at c1' c2';have HM1:=Zh hM1;clear hM1)
      go_quiet (fail)
      go_wp2_with (go_at_call 178;refine (zpR.out _ (HM1.out.to Zi)).mono ?_;rintro e W2 ⟨rfl,lB2,c2,vs2,hM2⟩;have HM2:=Zh hM2;clear hM2)
      go_loopw [5] (fun s5 wr2=>∃(kz:Int) (k':Nat),s5= .int .i64 kz/\Hid (kz=(k':Int))/\0<=kz/\k<k'/\k'<=n/\Hid (qw n x (lv.set k v) (k+1)=qw n x (lv.set k v) k')/\Hid (CMem w wr2 ⟨K,bx,br,bl,zd,n,mA,lA,mc,lc,gw⟩ D L x rest (lv.set k v) lB2 c2 l1 vs2)) (fun s5 _=>n-(intOf s5).toNat)
      case atStart=>exact ⟨_,k+1,rfl,Zh (by omega),by omega,by omega,by omega,Zh rfl,Zh (HM2.out.to Zi)⟩
      case round=>
       obtain ⟨kz,k',rfl,HKZ,ztg,hkk,zuo,HUP,HM3⟩:=hrel;obtain rfl:kz=(k':Int):=HKZ.out;clear HKZ;by_cases hin:k'<n
       ·obtain ⟨q0,q1,q2,q3,q4,q5,q6,q7⟩:=HM3.out.kc;simp only at q0 q1 q2 q3 q4 q5 q6 q7;obtain ⟨xk,hxk,x1⟩:=HM3.out.xr.cell (i:=k') (by rw [HI.out.xl];exact hin);simp only at x1;have hxg:x.getD k' 0=xk:=by simp [hxk]
        obtain ⟨v1,hv1⟩:∃v1,(lv.set k v)[k']? =some v1:=⟨_,Ze (by rw [HI1.out.ll];exact hin)⟩;have zq1:(lv.set k v).getD k' ⟨0,0,0,0⟩=v1:=by simp [hv1]
        obtain ⟨hLv1,w5⟩:=HM3.out.lr.at_ hv1;simp only at hLv1 w5;have hLl:=hLv1.lt;obtain ⟨lo1,lo2,lo3,lo4⟩:=HI1.out.lo k' hkk hin;rw [zq1] at lo1 lo3 lo4;rw [hxg] at lo2;have hxb:=HI.out.xb xk (Zm hxk);have zri:=HUP.out;rw [zfy hin,hxg,zq1] at zri;have zph:=Zh lo1;have zpd:=Zh lo2;have zo9:=Zh lo3;have HV1:=Zh hv1;have zo6:=Zh zq1;have HXG:=Zh hxg;have HUE:=Zh zri;have oX:Old bx wr:=⟨by have h1:=HM3.out.sz;have h2:=HM3.out.bx;simp only at h1 h2;omega⟩
        clear zri zq1 hxg hxk hv1 lo1 lo2 lo3 hLv1;by_cases hup:xk<v1.hi
        ·have d3:decide (xk<v1.hi)=true:=by simpa using hup
         have HR4:Hid (qe D L n (C.drop (i+1)) (k'-1) (x.set k' (xk+1)) (rest.set k' (qD v1 (xk+1))) (lv.set k v) l1=R):=Zh (by
          have h1:=HR3.out;rw [HUE.out,if_pos hup] at h1;simp only [zo6.out,HXG.out] at h1;exact h1)
         have zsx:v1.mi=vD D (k'+1)/\v1.sh=zC (L.getD k' []) (x.drop (k'+1))/\v1.lim=rest.getD (k'+1) 0*vD D k':=by rw [zph.out];exact ⟨rfl,rfl,rfl⟩
         obtain ⟨m1,m2,m3⟩:=zsx;have zqz:=(HI1.out.mono (Nat.le_of_lt hkk) hin).lev HN.out;have in3:Za v1.mi v1.sh v1.lim (xk+1)=true:=by
          rw [m1,m2,m3];exact zfz zqz.c0 zpd.out zo9.out (by omega) (by omega)
         have zrH:-288230376151711744<=v1.sh/\v1.sh<=288230376151711744:=by rw [m2];exact zbr zqz.n8 zqz.ll zqz.bl zqz.bx
         have zq2:1<=v1.mi/\v1.mi<65536:=by rw [m1];exact ⟨zqz.c0,zqz.c1⟩
         have zrI:=zbq (x:=xk+1) zq2.1 zq2.2 zrH ⟨by omega,by omega⟩;have zqC:=fun (W':World) (hM':CMem w W' ⟨K,bx,br,bl,zd,n,mA,lA,mc,lc,gw⟩ D L x rest (lv.set k v) lB2 c2 l1 vs2)=>zcQ (xv:=xk+1) (u:=zM v1.mi v1.sh (xk+1)) hM' hin hn8 (k:=k') (v:=v1) HV1.out zrI rfl zq2.1 zq2.2 (zbs in3) (by rw [m3];exact zqz.r1)
         have zpg:=Zh zqC;have HI2:Hid (ChkInv D L n za (k'-1) (x.set k' (xk+1)) (rest.set k' (qD v1 (xk+1))) (lv.set k v)):=Zh (by
          have h1:=in3;rw [m1,m2,m3] at h1;have :=(HI1.out.mono (Nat.le_of_lt hkk) hin).next HN.out (a:=xk+1) (by omega) (by rw [zo6.out];exact zph.out) h1 (by rw [zo6.out];exact zo9.out) (by rw [zo6.out];exact lo4) (by omega) (by omega);rwa [zo6.out] at this)
         have exk:IntKind.i64.wrap (xk+1)=xk+1:=IntWalk.i64_in _ (by omega);generalize v1.hi=h1i at w5 d3 hup lo4 zo9;clear zqC m1 m2 m3 zqz in3 zrI;go_wp2_with fail
         go_quiet (fail)
         clear exk;go_wp2_with (go_at_call 177;refine (zpg.out _ (HM3.out.to Zi)).mono ?_;rintro e W4 ⟨rfl,hM4⟩;have HM4:=Zh hM4;clear hM4)
         exact ⟨⟨i+1,(k':Int)-1,k'-1,_,_,_,_,_,_,_,by go_num,by omega,rfl,Zh (by omega),by omega,by omega,HI2,HM4,HL1,HR4⟩,by simp [intOf];omega⟩
        ·have d3:decide (xk<v1.hi)=false:=by simpa using hup
         have zpt:Hid (qw n x (lv.set k v) (k+1)=qw n x (lv.set k v) (k'+1)):=Zh (by rw [HUE.out,if_neg hup]);generalize v1.hi=h1i at w5 d3 hup lo4 zo9;go_wp2_with fail
         go_quiet (fail)
         go_wp2_with fail
         exact ⟨⟨(k':Int)+1,k'+1,rfl,Zh (by omega),by omega,by omega,by omega,zpt,Zh (HM3.out.to Zi)⟩,by simp [intOf];omega⟩
       ·have HR4:Hid ((if C.drop (i+1)=[] then some l1 else none)=R):=Zh (by
         have h1:=HR3.out;rw [HUP.out,zfx hin] at h1;exact h1)
        by_cases hls:i+1<cl
        ·have zpc:Hid (R=none):=Zh (by
          have h1:=HR4.out;rw [if_neg (by intro h0;have :=List.drop_eq_nil_iff.1 h0;have :=HCL.out;omega)] at h1;exact h1.symm)
         go_wp2_with fail
         rw [Exit.noGoto_panic];exact zaF rfl (.inr ⟨zpc.out,⟨_,_,rfl⟩,HM3.out.ext,HM3.out.kp⟩)
        ·have zpu:Hid (R=some l1):=Zh (by
          have h1:=HR4.out;rw [if_pos (List.drop_eq_nil_iff.2 (by have :=HCL.out;omega))] at h1;exact h1.symm)
         go_wp2_with fail
         rw [Exit.noGoto_ret];refine bodyPost_ret (results_none rfl _ _ _) rfl ?_;exact .inl ⟨l1,zpu.out,rfl,_,_,_,_,_,_,HM3.out⟩
     ·have dk:decide ((0:Int)<(k:Int))=true:=by simp;omega
      have dl:decide (lo<=hi')=false:=by simp;omega
      have ek:((k:Int)==0)=false:=by simp;omega
      obtain rfl:l1=l:=by rw [<-hl1,QS,if_neg hk0]
      have HL1:=HL;have hkp:0<k:=by omega
      have hgt:hi'<lo:=by omega
      clear hl1 hdn;obtain ⟨lB2,hlB2⟩:∃lB2,lB2=lB:=⟨_,rfl⟩;obtain ⟨c2,hc2⟩:∃c2,c2=c:=⟨_,rfl⟩;obtain ⟨vs2,zti⟩:∃vs2,vs2=vs:=⟨_,rfl⟩;rw [<-hlB2,<-hc2,<-zti] at zpl;clear hlB2 hc2 zti;go_wp2_with (go_at_call 176;refine (zpl.out _ Zi).mono ?_;rintro e W1 ⟨rfl,hM1⟩;have hcc:=(HC.out.ext hM1.ext).at_ (i:=i) (p:=(lo,hi')) HPI.out;obtain ⟨b',o',hA',c1',c2',c3'⟩:=hcc;injection hA' with hA';injection hA' with z1 z2;subst z1 z2;simp only at c1' c2';have HM2:=Zh hM1;clear hM1)
      go_quiet (fail)
      go_wp2_with fail
      go_loopw [5] (fun s5 wr2=>∃(kz:Int) (k':Nat),s5= .int .i64 kz/\Hid (kz=(k':Int))/\0<=kz/\k<k'/\k'<=n/\Hid (qw n x (lv.set k v) (k+1)=qw n x (lv.set k v) k')/\Hid (CMem w wr2 ⟨K,bx,br,bl,zd,n,mA,lA,mc,lc,gw⟩ D L x rest (lv.set k v) lB2 c2 l1 vs2)) (fun s5 _=>n-(intOf s5).toNat)
      case atStart=>exact ⟨_,k+1,rfl,Zh (by omega),by omega,by omega,by omega,Zh rfl,Zh (HM2.out.to Zi)⟩
      case round=>
       obtain ⟨kz,k',rfl,HKZ,ztg,hkk,zuo,HUP,HM3⟩:=hrel;obtain rfl:kz=(k':Int):=HKZ.out;clear HKZ;by_cases hin:k'<n
       ·obtain ⟨q0,q1,q2,q3,q4,q5,q6,q7⟩:=HM3.out.kc;simp only at q0 q1 q2 q3 q4 q5 q6 q7;obtain ⟨xk,hxk,x1⟩:=HM3.out.xr.cell (i:=k') (by rw [HI.out.xl];exact hin);simp only at x1;have hxg:x.getD k' 0=xk:=by simp [hxk]
        obtain ⟨v1,hv1⟩:∃v1,(lv.set k v)[k']? =some v1:=⟨_,Ze (by rw [HI1.out.ll];exact hin)⟩;have zq1:(lv.set k v).getD k' ⟨0,0,0,0⟩=v1:=by simp [hv1]
        obtain ⟨hLv1,w5⟩:=HM3.out.lr.at_ hv1;simp only at hLv1 w5;have hLl:=hLv1.lt;obtain ⟨lo1,lo2,lo3,lo4⟩:=HI1.out.lo k' hkk hin;rw [zq1] at lo1 lo3 lo4;rw [hxg] at lo2;have hxb:=HI.out.xb xk (Zm hxk);have zri:=HUP.out;rw [zfy hin,hxg,zq1] at zri;have zph:=Zh lo1;have zpd:=Zh lo2;have zo9:=Zh lo3;have HV1:=Zh hv1;have zo6:=Zh zq1;have HXG:=Zh hxg;have HUE:=Zh zri;have oX:Old bx wr:=⟨by have h1:=HM3.out.sz;have h2:=HM3.out.bx;simp only at h1 h2;omega⟩
        clear zri zq1 hxg hxk hv1 lo1 lo2 lo3 hLv1;by_cases hup:xk<v1.hi
        ·have d3:decide (xk<v1.hi)=true:=by simpa using hup
         have HR4:Hid (qe D L n (C.drop (i+1)) (k'-1) (x.set k' (xk+1)) (rest.set k' (qD v1 (xk+1))) (lv.set k v) l1=R):=Zh (by
          have h1:=HR3.out;rw [HUE.out,if_pos hup] at h1;simp only [zo6.out,HXG.out] at h1;exact h1)
         have zsx:v1.mi=vD D (k'+1)/\v1.sh=zC (L.getD k' []) (x.drop (k'+1))/\v1.lim=rest.getD (k'+1) 0*vD D k':=by rw [zph.out];exact ⟨rfl,rfl,rfl⟩
         obtain ⟨m1,m2,m3⟩:=zsx;have zqz:=(HI1.out.mono (Nat.le_of_lt hkk) hin).lev HN.out;have in3:Za v1.mi v1.sh v1.lim (xk+1)=true:=by
          rw [m1,m2,m3];exact zfz zqz.c0 zpd.out zo9.out (by omega) (by omega)
         have zrH:-288230376151711744<=v1.sh/\v1.sh<=288230376151711744:=by rw [m2];exact zbr zqz.n8 zqz.ll zqz.bl zqz.bx
         have zq2:1<=v1.mi/\v1.mi<65536:=by rw [m1];exact ⟨zqz.c0,zqz.c1⟩
         have zrI:=zbq (x:=xk+1) zq2.1 zq2.2 zrH ⟨by omega,by omega⟩;have zqC:=fun (W':World) (hM':CMem w W' ⟨K,bx,br,bl,zd,n,mA,lA,mc,lc,gw⟩ D L x rest (lv.set k v) lB2 c2 l1 vs2)=>zcQ (xv:=xk+1) (u:=zM v1.mi v1.sh (xk+1)) hM' hin hn8 (k:=k') (v:=v1) HV1.out zrI rfl zq2.1 zq2.2 (zbs in3) (by rw [m3];exact zqz.r1)
         have zpg:=Zh zqC;have HI2:Hid (ChkInv D L n za (k'-1) (x.set k' (xk+1)) (rest.set k' (qD v1 (xk+1))) (lv.set k v)):=Zh (by
          have h1:=in3;rw [m1,m2,m3] at h1;have :=(HI1.out.mono (Nat.le_of_lt hkk) hin).next HN.out (a:=xk+1) (by omega) (by rw [zo6.out];exact zph.out) h1 (by rw [zo6.out];exact zo9.out) (by rw [zo6.out];exact lo4) (by omega) (by omega);rwa [zo6.out] at this)
         have exk:IntKind.i64.wrap (xk+1)=xk+1:=IntWalk.i64_in _ (by omega);generalize v1.hi=h1i at w5 d3 hup lo4 zo9;clear zqC m1 m2 m3 zqz in3 zrI;go_wp2_with fail
         go_quiet (fail)
         clear exk;go_wp2_with (go_at_call 177;refine (zpg.out _ (HM3.out.to Zi)).mono ?_;rintro e W4 ⟨rfl,hM4⟩;have HM4:=Zh hM4;clear hM4)
         exact ⟨⟨i+1,(k':Int)-1,k'-1,_,_,_,_,_,_,_,by go_num,by omega,rfl,Zh (by omega),by omega,by omega,HI2,HM4,HL1,HR4⟩,by simp [intOf];omega⟩
        ·have d3:decide (xk<v1.hi)=false:=by simpa using hup
         have zpt:Hid (qw n x (lv.set k v) (k+1)=qw n x (lv.set k v) (k'+1)):=Zh (by rw [HUE.out,if_neg hup]);generalize v1.hi=h1i at w5 d3 hup lo4 zo9;go_wp2_with fail
         go_quiet (fail)
         go_wp2_with fail
         exact ⟨⟨(k':Int)+1,k'+1,rfl,Zh (by omega),by omega,by omega,by omega,zpt,Zh (HM3.out.to Zi)⟩,by simp [intOf];omega⟩
       ·have HR4:Hid ((if C.drop (i+1)=[] then some l1 else none)=R):=Zh (by
         have h1:=HR3.out;rw [HUP.out,zfx hin] at h1;exact h1)
        by_cases hls:i+1<cl
        ·have zpc:Hid (R=none):=Zh (by
          have h1:=HR4.out;rw [if_neg (by intro h0;have :=List.drop_eq_nil_iff.1 h0;have :=HCL.out;omega)] at h1;exact h1.symm)
         go_wp2_with fail
         rw [Exit.noGoto_panic];exact zaF rfl (.inr ⟨zpc.out,⟨_,_,rfl⟩,HM3.out.ext,HM3.out.kp⟩)
        ·have zpu:Hid (R=some l1):=Zh (by
          have h1:=HR4.out;rw [if_pos (List.drop_eq_nil_iff.2 (by have :=HCL.out;omega))] at h1;exact h1.symm)
         go_wp2_with fail
         rw [Exit.noGoto_ret];refine bodyPost_ret (results_none rfl _ _ _) rfl ?_;exact .inl ⟨l1,zpu.out,rfl,_,_,_,_,_,_,HM3.out⟩
  ·have zpc:Hid (R=none):=Zh (by
    have h1:=HR.out;rw [List.drop_eq_nil_iff.2 (by have :=HCL.out;omega),qe] at h1;exact h1.symm)
   go_wp2_with fail
   exact zaF rfl (.inr ⟨zpc.out,⟨_,_,rfl⟩,HM.out.ext,HM.out.kp⟩)
theorem zlc (p:Addr) (x:Bool) (u:TypeId) (pv:Value) (older:List PanicEntry) (w:World) (hc:w.cell? p=some (.bool x)) (hz:w.frozen? p=false):
  CallsD Tryz.prog 115 #[.pointer (some p)] (.panicking ({v:= .iface u pv,recovered:=false}::older)) w fun e u' w'=>
   e= .returned (.tuple #[])/\u'= .panicking ({v:= .iface u pv,recovered:=true}::older)/\w'=w.setCell p (.bool false):=by
 refine callsD_of_wpS Tryz.func115 rfl fun c₀ cs hu=>?_
 apply wpS_seq;apply wpS_region;simp [wpOpsS,go_sem,recoverD,hu,Tryz.ntmps115,Exit.thenS];refine wpS_cond (t:=true) (by simp [Act.eval,Array.replicate]) ?_;simp only [if_true];apply wpS_region;simp [wpOpsS,go_sem,hc,hz,bodyPostS,results,Tryz.results115]
theorem zld (p:Addr) (w:World):
  CallsD Tryz.prog 115 #[.pointer (some p)] .returning w fun e u' w'=>e= .returned (.tuple #[])/\u'= .returning/\w'=w:=by
 refine callsD_of_wpS Tryz.func115 rfl fun c₀ cs hu=>?_
 apply wpS_seq;apply wpS_region;simp [wpOpsS,go_sem,recoverD,hu,Tryz.ntmps115,Exit.thenS];refine wpS_cond (t:=false) (by simp [Act.eval,Array.replicate]) ?_;simp only [Bool.false_eq_true,if_false];refine wpS_of_wp (wp_skip ?_)
 cases c₀
 simp_all [bodyPostS,results,Tryz.results115]
def zbt (w:World) (y:Lay) (D:List Int) (L:List (List Int)) (R:Option (List (List Int))) (e:Ending) (W':World):Prop:=
 (∃l',R=some l'/\e= .returned (.bool true)/\∃x rest lv lB c vs,CMem w W' y D L x rest lv lB c l' vs)∨(R=none/\e= .returned (.bool false)/\Ext w W')
theorem LOwn.oth {w w':World} {zd:Nat} {A:Option Addr} {c:Nat} {l:List (List Int)} {vs:List Value} (h:LOwn w zd A c l vs) (ho:Oth 4 w w'):LOwn w' zd A c l vs:=
 ⟨h.own.oth ho (by decide),fun i r hr=>by obtain ⟨B,d,a,b,e⟩:=h.row i r hr;exact ⟨B,d,a,b.oth ho (by decide),e⟩⟩
theorem CMem.setB {w W:World} {y:Lay} {D:List Int} {L:List (List Int)} {x rest:List Int} {lv:List Lvl} {lB:Option Addr} {c:Nat} {l:List (List Int)} {vs:List Value} (h:CMem w W y D L x rest lv lB c l vs) {ub:Nat} {cs:Array Value} (hu:W.heap[ub]? =some (.cells cs 4 (0,0))) (hb:w.heap.size<=ub) (u:Value):CMem w (W.setCell ⟨ub,0,none⟩ u) {y with gw:=W.setCell ⟨ub,0,none⟩ u} D L x rest lv lB c l vs:=by
 obtain ⟨cr,hr,-⟩:=h.rr;obtain ⟨cl,hl,-⟩:=h.lr;have hx:=h.xr.heapE;have hk:∀b,b≠ub->(W.setCell ⟨ub,0,none⟩ u).heap[b]? =W.heap[b]? :=fun b hb=>Below.heap_setCell W ⟨ub,0,none⟩ _ b hb
 exact {
  ext:=h.ext.setCell (p:=⟨ub,0,none⟩) hb _
  kb:=(hk _ (zW h.kb hu (by decide))).trans h.kb
  xr:=(hk _ (zW hx hu (by decide))).trans hx
  xl:=h.xl
  rr:=h.rr.keep (hk _ (zW hr hu (by decide)))
  rl:=h.rl
  lr:=h.lr.keep (hk _ (zW hl hu (by decide)))
  ll:=h.ll
  fv:=h.fv.keep fun b cs e fr p q z=>hk b (zW z hu (by rcases q with rfl |rfl<;>decide))
  ls:=h.ls.oth (Oth.set (p:=⟨ub,0,none⟩) hu u)
  sz:=by rw [Zt];exact h.sz
  wK:=h.wK
  wx:=h.wx
  wr:=h.wr
  wl:=h.wl
  bK:=h.bK
  bx:=h.bx
  br:=h.br
  bl:=h.bl
  kp:=Keeps.refl _ _}
set_option maxRecDepth 100000 in
theorem zle {w W:World} {y:Lay} {D:List Int} {L:List (List Int)} {za:Int} {x rest:List Int} {lv:List Lvl} {lB:Option Addr} {c cc:Nat} {l:List (List Int)} {vs:List Value} {A:Option Addr} {C:List (Int×Int)} (hN:ChkN D L y.n za) (hI:ChkInv D L y.n za (y.n-1) x rest lv) (hM:CMem w W y D L x rest lv lB c l vs) (hC:IvV w A C) (zp9:C.length<=1099511627776) (hl:l.length<=4097):
  Calls Tryz.prog 68 #[.pointer (some ⟨y.K,0,none⟩),.slice A C.length cc] W (fun e W'=>∃gw,zbt w {y with gw:=gw} D L (qe D L y.n C (y.n-1) x rest lv l) e W'):=by
 obtain ⟨R,hR⟩:∃R,qe D L y.n C (y.n-1) x rest lv l=R:=⟨_,rfl⟩;have hM0:=(hM.to (W':=W.alloc (.cells #[.bool false] 4)) Zi).regw;have hck:=zlb (y:={y with gw:=W.alloc (.cells #[.bool false] 4)}) (cc:=cc) hN hI hM0 hC zp9 hl;have hub:(W.alloc (.cells #[.bool false] 4)).heap[W.heap.size]? =some (.cells #[.bool false] 4 (0,0)):=heap_alloc_new W _;have hwu:w.heap.size<=W.heap.size:=hM.ext.size;simp only at hck
 rw [hR] at hck |-
 have hmf:∀(fn:Fn) (first cap:Array Value) (w:World),(Instr.makeFunc fn first cap).run Tryz.prog w= .ok (.func fn first cap) w:=fun _ _ _ _=>rfl
 cases R with
 |some l'=>
  have HCK:Hid (Calls Tryz.prog 116 #[.pointer (some ⟨y.K,0,none⟩),.slice A C.length cc] (W.alloc (.cells #[.bool false] 4)) fun e W1=>e= .returned (.tuple #[])/\W1.heap[W.heap.size]? =some (.cells #[.bool false] 4 (0,0))/\Hid (∃x rest lv lB c vs,CMem w W1 {y with gw:=W.alloc (.cells #[.bool false] 4)} D L x rest lv lB c l' vs)):=Zh (hck.mono (fun e W1 h=>by
   rcases h with ⟨l2,h1,he,h2⟩ |⟨h1,-⟩
   ·injection h1 with h1
    subst h1;obtain ⟨x1,r1,lv1,lB1,c1,vs1,hM1⟩:=h2;exact ⟨he,hM1.kp.keep _ _ _ hub,Zh ⟨x1,r1,lv1,lB1,c1,vs1,hM1⟩⟩
   ·cases h1))
  clear hck hub hM0 hM hI hN hC;go_enter_defers Tryz.func68,Tryz.ntmps68
  go_wp2_with (go_at_call 116;refine HCK.out.mono ?_;rintro e W1 ⟨rfl,hb1,HM1⟩;have u1:W1.cell? ⟨W.heap.size,0,none⟩=some (.bool false):=(by simp [World.cell?,hb1]);have u2:W1.frozen? ⟨W.heap.size,0,none⟩=false:=(by simp [World.frozen?,hb1]);have u3:W.heap.size<W1.heap.size:=zA hb1;have HB1:=Zh hb1;clear hb1)
  have hb2:=Zo (i:=0) HB1.out (.bool true);have hc2:(W1.setCell ⟨W.heap.size,0,none⟩ (.bool true)).cell? ⟨W.heap.size,0,none⟩=some (.bool true):=by simp [World.cell?,hb2]
  refine leaves_cons (f:=115) (args:=#[.pointer (some ⟨W.heap.size,0,none⟩)]) (by simp) (by simp [go_sem]) ?_;refine (zld ⟨W.heap.size,0,none⟩ _).mono ?_;rintro e u' w'' ⟨rfl,rfl,rfl⟩;have zqa:∃gw,zbt w {y with gw:=gw} D L (some l') (.returned (.bool true)) (W1.setCell ⟨W.heap.size,0,none⟩ (.bool true)):=by
   obtain ⟨x1,r1,lv1,lB1,c1,vs1,hM1⟩:=HM1.out;exact ⟨_,.inl ⟨l',rfl,rfl,x1,r1,lv1,lB1,c1,vs1,hM1.setB HB1.out hwu _⟩⟩
  simp [Leaves,settle,results,Tryz.results68,go_sem,hc2];exact zqa
 |none=>
  have HCK:Hid (Calls Tryz.prog 116 #[.pointer (some ⟨y.K,0,none⟩),.slice A C.length cc] (W.alloc (.cells #[.bool false] 4)) fun e W1=>(∃u pv,e= .panicked [{v:= .iface u pv,recovered:=false}])/\W1.heap[W.heap.size]? =some (.cells #[.bool false] 4 (0,0))/\Hid (Ext w W1)):=Zh (hck.mono (fun e W1 h=>by
   rcases h with ⟨l2,h1,-⟩ |⟨-,h2,h3,h4⟩
   ·cases h1
   ·exact ⟨h2,h4.keep _ _ _ hub,Zh h3⟩))
  clear hck hub hM0 hM hI hN hC;go_enter_defers Tryz.func68,Tryz.ntmps68
  go_wp2_with (go_at_call 116;refine HCK.out.mono ?_;rintro e W1 ⟨⟨vu,vv,rfl⟩,hb1,HM1⟩;have u1:W1.cell? ⟨W.heap.size,0,none⟩=some (.bool false):=(by simp [World.cell?,hb1]);have u2:W1.frozen? ⟨W.heap.size,0,none⟩=false:=(by simp [World.frozen?,hb1]);have u3:W.heap.size<W1.heap.size:=zA hb1;have HB1:=Zh hb1;clear hb1)
  have hb2:=Zo (i:=0) HB1.out (.bool false);have hc2:(W1.setCell ⟨W.heap.size,0,none⟩ (.bool false)).cell? ⟨W.heap.size,0,none⟩=some (.bool false):=by simp [World.cell?,hb2]
  refine leaves_cons (f:=115) (args:=#[.pointer (some ⟨W.heap.size,0,none⟩)]) (by simp) (by simp [go_sem]) ?_;refine (zlc ⟨W.heap.size,0,none⟩ false vu vv [] _ u1 u2).mono ?_;rintro e u' w'' ⟨rfl,rfl,rfl⟩;have zqa:∃gw,zbt w {y with gw:=gw} D L none (.returned (.bool false)) (W1.setCell ⟨W.heap.size,0,none⟩ (.bool false)):=⟨W,.inr ⟨rfl,rfl,HM1.out.setCell (p:=⟨W.heap.size,0,none⟩) hwu _⟩⟩;simp [Leaves,settle,results,Tryz.results68,go_sem,hc2]
  exact zqa
def QT (m:List (List Int)) (za:Int) (C:List (Int×Int)):Option (List (List Int)):=
 qe (ze m m.length) (zh m m.length) m.length C (m.length-1) (List.replicate m.length 0) ((List.replicate (m.length+1) 0).set m.length (za*vD (ze m m.length) m.length)) (List.replicate m.length QB) []
theorem zlf {D:List Int} {L:List (List Int)} {n:Nat} {za:Int} (hN:ChkN D L n za):ChkInv D L n za (n-1) (List.replicate n 0) ((List.replicate (n+1) 0).set n (za*vD D n)) (List.replicate n QB):=by
 have h1:=hN.n1;have d1:=hN.d1 n (by omega);refine ⟨by omega,by simp,by simp,by simp,fun y hy=>?_,fun j j1 j2=>?_,fun j j1 j2=>absurd j2 (by omega)⟩
 ·have :=(List.mem_replicate.1 hy).2;omega
 ·obtain rfl:j=n:=by omega
  rw [jh _ _ _ _ (by simp)];have :=Int.mul_nonneg hN.b0 (show 0<=vD D j by omega);rw [Int.mul_comm] at this |-
  exact ⟨this,Int.le_refl _⟩
structure TreeOK (m:List (List Int)) (za:Int):Prop where
 form:FormOK m
 s64:Jo m
 red:RedM m
 b0:0<=za
 b1:za<=4611686018427387904
 num:ChkN (ze m m.length) (zh m m.length) m.length za
theorem zfC {w0 w:World} {A B:Option Addr} {c d:Nat} {m:List (List Int)} {za:Int} {C:List (Int×Int)} (h:Mat64 w0 A m) (hc:m.length<=c) (hc2:c<=9223372036854775807) (hok:TreeOK m za) (hC:IvV w0 B C) (zp9:C.length<=1099511627776)
  (hv:∀l,QT m za C=some l->l.length<=4096->(∀x∈l,VecOK m x)/\(l.map zJ).Nodup) [hx:Ext w0 w]:
  Calls Tryz.prog 42 #[.slice A m.length c,.int .i64 za,.slice B C.length d] w fun e w'=>
   match QT m za C with
   |none=>zz w (.tuple #[.slice none 0 0,.int .i64 10]) e w'
   |some l=>if 4096<l.length then zz w (.tuple #[.slice none 0 0,.int .i64 7]) e w' else zkz w m l e w':=by
 have hn8:=hok.red.n8;have zqi:=fun W (hh:Ext w0 W)=>zas (w:=W) h (by omega) hc hc2
 rw [hok.red.red] at zqi;have hnc:=fun W (hh:Ext w0 W)=>zk2 (w:=W) (c:=c) h hok.form hok.s64 hok.b0 hok.b1
 have hb0:=hok.b0;have hb1:=hok.b1;have zrJ:=fun (W W':World) (y:Lay) (hh:Ext w0 W) (hy:y.n=m.length) (hM:CMem W W' y (ze m m.length) (zh m m.length) (List.replicate m.length 0) ((List.replicate (m.length+1) 0).set m.length (za*vD (ze m m.length) m.length)) (List.replicate m.length QB) none 0 [] [])=>
  zle (cc:=d) (za:=za) (by rw [hy];exact hok.num) (by rw [hy];exact zlf hok.num) hM (hC.ext hh) zp9 (by simp)
 have zsy:∀(W W':World) (y:Lay),Ext w0 W->y.n=m.length->CMem W W' y (ze m m.length) (zh m m.length) (List.replicate m.length 0) ((List.replicate (m.length+1) 0).set m.length (za*vD (ze m m.length) m.length)) (List.replicate m.length QB) none 0 [] []->Calls Tryz.prog 68 #[.pointer (some ⟨y.K,0,none⟩),.slice B C.length d] W' fun e W2=>∃gw,zbt W {y with gw:=gw} (ze m m.length) (zh m m.length) (QT m za C) e W2:=fun W W' y hh hy hM=>by
  obtain ⟨K,bx,br,bl,zd,n,mA,lA,mc,lc,gw⟩:=y;simp only at hy;subst hy;exact zrJ W W' _ hh rfl hM
 have hso:=fun W X dd l (hh:Ext w0 W) (hX:Mat64 W X l) (hl:l.length<=4096) (h1:∀x∈l,VecOK m x) (h2:(l.map zJ).Nodup)=>zks (w0:=W) (w:=W) (c:=c) (d:=dd) (h.ext hh) hc hc2 hX (by omega) hok.red h1 h2
 obtain ⟨R,hR⟩:∃R,QT m za C=R:=⟨_,rfl⟩;rw [hR] at zsy hv |-
 have zpi:=Zh zqi;have HNC:=Zh hnc;have zpn:=Zh zsy;have HSO:=Zh hso;have HV:=Zh hv;have db0:decide (za<0)=false:=by simp;omega
 have db1:decide (4611686018427387904<za)=false:=by simp;omega
 clear zqi hnc zrJ zsy hso hv hR hok hC
 cases R with
 |none=>
  simp only;have HA2:Hid (∀(W W':World) (y:Lay),Ext w0 W->y.n=m.length->CMem W W' y (ze m m.length) (zh m m.length) (List.replicate m.length 0) ((List.replicate (m.length+1) 0).set m.length (za*vD (ze m m.length) m.length)) (List.replicate m.length QB) none 0 [] []->Calls Tryz.prog 68 #[.pointer (some ⟨y.K,0,none⟩),.slice B C.length d] W' fun e W2=>e= .returned (.bool false)/\Step W W2):=Zh (fun W W' y hh hy hM=>(zpn.out W W' y hh hy hM).mono (fun e W2 ⟨gw,hp⟩=>by
   rcases hp with ⟨l',h1,-⟩ |⟨-,he,hx2⟩
   ·cases h1
   ·exact ⟨he,hx2.toStep⟩))
  clear zpn;go_enter Tryz.func42,Tryz.ntmps42;go_wp2_with (first
   |(go_at_call 66;refine (zpi.out _ Zi).mono ?_;rintro e w1 ⟨rfl,hs1⟩)
   |(go_at_call 67;refine (HNC.out _ Zi).mono ?_;rintro e w2 ⟨y,hy,rfl,hM2⟩)
   |(go_at_call 68;refine (HA2.out _ _ _ Zi hy hM2).mono ?_;rintro e w3 ⟨rfl,hs3⟩))
  go_ret2
  exact ⟨rfl,Step.of _ _⟩
 |some l=>
  simp only;have HA2:Hid (∀(W W':World) (y:Lay),Ext w0 W->y.n=m.length->CMem W W' y (ze m m.length) (zh m m.length) (List.replicate m.length 0) ((List.replicate (m.length+1) 0).set m.length (za*vD (ze m m.length) m.length)) (List.replicate m.length QB) none 0 [] []->Calls Tryz.prog 68 #[.pointer (some ⟨y.K,0,none⟩),.slice B C.length d] W' fun e W2=>e= .returned (.bool true)/\Step W W2/\∃lB c,W2.cell? ⟨y.K,5,none⟩=some (.slice lB l.length c)/\y.K<W2.heap.size/\Hid (Mat64 W2 lB l)):=Zh (fun W W' y hh hy hM=>(zpn.out W W' y hh hy hM).mono (fun e W2 ⟨gw,hp⟩=>by
   rcases hp with ⟨l',h1,he,x1,r1,lv1,lB1,c1,vs1,hM1⟩ |⟨h1,-⟩
   ·injection h1 with h1
    subst h1;obtain ⟨-,-,-,-,-,k5,-,k7⟩:=hM1.kc;exact ⟨he,hM1.ext.toStep,lB1,c1,k5,k7,Zh hM1.ls.mat⟩
   ·cases h1))
  clear zpn;obtain ⟨ln,hln⟩:∃ln,l.length=ln:=⟨_,rfl⟩;rw [hln] at HA2 |-
  by_cases zq7:4096<ln
  ·simp only [if_pos zq7];have dbg:decide (4096<ln)=true:=by simpa using zq7
   clear hln;go_enter Tryz.func42,Tryz.ntmps42;go_wp2_with (first
    |(go_at_call 66;refine (zpi.out _ Zi).mono ?_;rintro e w1 ⟨rfl,hs1⟩)
    |(go_at_call 67;refine (HNC.out _ Zi).mono ?_;rintro e w2 ⟨y,hy,rfl,hM2⟩)
    |(go_at_call 68;refine (HA2.out _ _ _ Zi hy hM2).mono ?_;rintro e w3 ⟨rfl,hs3,lB3,c3,k5,k6,HM3⟩))
   go_ret2
   exact ⟨rfl,Step.of _ _⟩
  ·simp only [if_neg zq7];have dbg:decide (4096<ln)=false:=by simpa using zq7
   obtain ⟨hv1,hv2⟩:=HV.out l rfl (by omega);have zsz:=fun W X dd (hh:Ext w0 W) (hX:Mat64 W X l)=>HSO.out W X dd l hh hX (by omega) hv1 hv2
   rw [hln] at zsz;have zpS:=Zh zsz;clear hln zsz hv1 hv2 HSO HV;go_enter Tryz.func42,Tryz.ntmps42;go_wp2_with (first
    |(go_at_call 66;refine (zpi.out _ Zi).mono ?_;rintro e w1 ⟨rfl,hs1⟩)
    |(go_at_call 67;refine (HNC.out _ Zi).mono ?_;rintro e w2 ⟨y,hy,rfl,hM2⟩)
    |(go_at_call 68;refine (HA2.out _ _ _ Zi hy hM2).mono ?_;rintro e w3 ⟨rfl,hs3,lB3,c3,k5,k6,HM3⟩)
    |(go_at_call 51;refine (zpS.out _ _ _ Zi HM3.out).mono ?_;rintro e w4 ⟨A4,c4,L4,rfl,hM4,z1,z2,hp,hw,hs4⟩))
   go_ret2
   exact ⟨A4,c4,L4,rfl,hM4,z1,z2,hp,hw,Step.of _ _⟩
theorem zlg {w:World} {a b:Int} (ha0:-9223372036854775807<=a) (ha1:a<=9223372036854775807) (hb:1<=b) (hb1:b<=9223372036854775807):
  Calls Tryz.prog 120 #[.int .i64 a,.int .i64 b] w (Zw w (.int .i64 (a / b))):=by
 have HF:=Zh (zeS (a:=a) (b:=b) (by omega));have hq:=tdiv_between a b hb;have hq1:-9223372036854775807<=a.tdiv b:=by omega
 have hq2:a.tdiv b<=9223372036854775807:=by omega
 have hm:=Zh (Int.tmod_def a b);have hr:-9223372036854775807<=a.tmod b/\a.tmod b<=9223372036854775807:=by
  have h1:=Int.tmod_lt_of_pos a (show 0<b by omega);have h2:=Int.lt_tmod_of_pos a (show 0<b by omega);omega
 have hb0:(b==0)=false:=by simp;omega
 clear hq;by_cases zqb:a.tmod b<0
 ·have hd:decide (a.tmod b<0)=true:=by simpa using zqb
  have HV:=Zh (HF.out.trans (if_pos zqb));clear zqb HF;go_enter Tryz.func120,Tryz.ntmps120;go_wp2;go_ret;exact ⟨by rw [HV.out];rfl,rfl⟩
 ·have hd:decide (a.tmod b<0)=false:=by simpa using zqb
  have HV:=Zh (HF.out.trans (if_neg zqb));clear zqb HF;go_enter Tryz.func120,Tryz.ntmps120;go_wp2;go_ret;exact ⟨by rw [HV.out];rfl,rfl⟩
set_option maxRecDepth 10000 in
theorem zlh {w:World} {a:Nat} (ha:a<9223372036854775808):
  Calls Tryz.prog 117 #[.int .i64 a] w (Zw w (.int .i64 (zo a))):=by
 by_cases h0:a=0
 ·subst h0;go_enter Tryz.func117,Tryz.ntmps117;go_wp2;go_ret;exact ⟨rfl,rfl⟩
 have hb0:((a:Int)==0)=false:=by simp;omega
 have h1:1<=a:=by omega
 obtain ⟨s,hs,zry,zre,hL1,hL2⟩:=zeR h1 ha;obtain ⟨L,hL⟩:∃L,L=Lib.bitLen a:=⟨_,rfl⟩;rw [<-hL] at hs hL1 hL2;have hp:(2:Nat)^s<=2^32:=Nat.pow_le_pow_right (by omega) zry;have hp1:1<=(2:Nat)^s:=Nat.one_le_two_pow;have hst:((L:Int)+1) / 2=(s:Int):=by omega
 have hpw:(2:Int)^s=((2^s:Nat):Int):=by simp
 obtain ⟨p,hpp⟩:∃p,p=2^s:=⟨_,rfl⟩;rw [<-hpp] at hpw hp1 hp zre;have HL:=Zh hL;have hc:=Tryz.bits_Len64 (a:Int) w (by omega) (by omega);rw [show ((a:Int).toNat)=a by omega,<-hL] at hc;have HC:=Zh hc;have HR:=Zh zre;clear hc hL h0 hpp hs zre;go_enter Tryz.func117,Tryz.ntmps117;go_wp2_with fail
 refine HC.out.mono ?_;rintro e w' ⟨rfl,rfl⟩;go_wp2;go_loop [3,4] (fun r _=>∃p:Nat,1<=p/\p<=4294967296/\Hid (zo a<=p)/\r= .int .i64 p) (fun r _=>(intOf r).toNat)
 case atStart=>exact ⟨p,hp1,by omega,HR,rfl⟩
 case round=>
  clear HR hpw hp hp1 hst HL HC hL1 hL2 zry;obtain ⟨p,hp1,hp,HR,rfl⟩:=hrel;have hge:=Zh (zeO (a:=a) hp1);have zqK:=Zh (zeP (a:=a) hp1);have hy:=zeQ (a:=a) HR.out;obtain ⟨y,ey⟩:∃y,y=a / p:=⟨_,rfl⟩;have ztY:(a:Int) / (p:Int)=(y:Int):=by rw [ey];simp
  rw [<-ey] at hge zqK hy;obtain ⟨q,eq⟩:∃q,q=(p+y) / 2:=⟨_,rfl⟩;have zrz:((p:Int)+(y:Int)) / 2=(q:Int):=by omega
  have hq:q<=p+1:=by omega
  rw [<-eq] at hge zqK;clear ey eq;by_cases hle:p<=q
  ·have HV:=Zh (zqK.out hle HR.out);go_wp2;go_ret;exact ⟨by rw [HV.out];rfl,rfl⟩
  ·have hlt:q<p:=by omega
   have hq1:1<=q:=by
    have :=hge.out;have h2:=(qS a).2;rcases Zl 0 (zo a) with h |h
    ·omega
    ·have :zo a=0:=by omega
     rw [this] at h2;omega
   go_wp2;refine ⟨⟨q,hq1,by omega,hge,by rw [zrz]⟩,by rw [zrz];simp [intOf]<;>omega⟩
theorem zli {w0 w:World} {A B:Option Addr} {c d:Nat} {a b:List (Int×Int)} (hA:IvV w0 A a) (hB:IvV w0 B b) (ha1:a.length<=1099511627776) [hx:Ext w0 w]:
  Calls Tryz.prog 46 #[.slice A a.length c,.slice B b.length d] w (jA w (.bool (decide (a=b)))):=by
 by_cases hl:a.length=b.length
 ·rw [<-hl];have hlb:((a.length:Int) !=(a.length:Int))=false:=by simp
  have HL:=Zh hl;clear hl;obtain ⟨q,hq⟩:∃q,q=a.length:=⟨_,rfl⟩;rw [<-hq] at hlb ha1 |-
  have HQ:=Zh hq;clear hq;go_enter Tryz.func46,Tryz.ntmps46;go_wp2;go_loopw [5,13] (fun _ i wr=>∃k:Nat,k<=q/\i= .int .i64 k/\Hid (a.take k=b.take k)/\Hid (∃n,wr=w.drewN n)) (fun _ i _=>q-(intOf i).toNat)
  case atStart=>exact ⟨0,by omega,rfl,Zh rfl,Zh ⟨0,rfl⟩⟩
  case round=>
   obtain ⟨k,hk,rfl,HE,HN⟩:=hrel;have hxn:Ext w0 wr:=by obtain ⟨n,hn⟩:=HN.out;rw [hn];infer_instance
   by_cases hlt:k<q
   ·have hka:k<a.length:=by have :=HQ.out;omega
    have hkb:k<b.length:=by have :=HQ.out;have :=HL.out;omega
    obtain ⟨⟨x1,x2⟩,hxx⟩:∃p,a[k]? =some p:=⟨_,Ze hka⟩;obtain ⟨⟨y1,y2⟩,hyy⟩:∃p,b[k]? =some p:=⟨_,Ze hkb⟩;obtain ⟨b1,o1,rfl,e1,e2,e3⟩:=(hA.ext hxn).at_ hxx;obtain ⟨b2,o2,rfl,f1,f2,f3⟩:=(hB.ext hxn).at_ hyy;simp only at e1 e2 f1 f2;have HX:=Zh hxx;have HY:=Zh hyy;clear hxx hyy;by_cases hxy:x1=y1/\x2=y2
    ·obtain ⟨rfl,rfl⟩:=hxy;have HT:Hid (a.take (k+1)=b.take (k+1)):=Zh (by rw [List.take_add_one,List.take_add_one,HE.out,HX.out,HY.out]);go_wp2;go_quiet (fail)
     go_wp2;exact ⟨⟨k+1,by omega,by go_num,HT,Zh (by obtain ⟨n,hn⟩:=HN.out;exact ⟨_,by rw [hn,World.drewN_drewN]⟩)⟩,by simp [intOf];omega⟩
    ·have HV:Hid (decide (a=b)=false):=Zh (by simp;intro h;apply hxy;have h1:=HX.out;rw [h,HY.out] at h1;injection h1 with h1;injection h1 with h1 h2;exact ⟨h1.symm,h2.symm⟩);have hor:(x1==y1)=false∨((x1==y1)=true/\(x2==y2)=false):=by
      by_cases h1:x1=y1
      ·exact .inr ⟨by simp [h1],by simp;intro h2;exact hxy ⟨h1,h2⟩⟩
      ·exact .inl (by simp [h1])
     clear hxy;rcases hor with h1 |⟨h1,h2⟩
     ·go_wp2;go_quiet (fail)
      go_wp2;go_ret;exact ⟨by rw [HV.out];rfl,by obtain ⟨n,hn⟩:=HN.out;exact ⟨_,by rw [hn,World.drewN_drewN]⟩⟩
     ·go_wp2;go_quiet (fail)
      go_wp2;go_ret;exact ⟨by rw [HV.out];rfl,by obtain ⟨n,hn⟩:=HN.out;exact ⟨_,by rw [hn,World.drewN_drewN]⟩⟩
   ·have HV:Hid (decide (a=b)=true):=Zh (by
     have h1:a.take k=a:=List.take_of_length_le (by have :=HQ.out;omega);have h2:b.take k=b:=List.take_of_length_le (by have :=HQ.out;have :=HL.out;omega);have :=HE.out;rw [h1,h2] at this;simp [this])
    go_wp2;go_ret;exact ⟨by rw [HV.out];rfl,HN.out⟩
 ·have hlb:((a.length:Int) !=(b.length:Int))=true:=by simp;omega
  have HV:Hid (decide (a=b)=false):=Zh (by simp;intro h;exact hl (by rw [h]));clear hl;go_enter Tryz.func46,Tryz.ntmps46;go_wp2;go_ret;exact ⟨by rw [HV.out];rfl,0,rfl⟩
def ZD (D:List Int) (L:List (List Int)):Nat->Int->List Int->List (Int×Int)
 |0,rest,tail=>[(zG D L 0 rest tail,Zq D L 0 rest tail)]
 |k+1,rest,tail=>(zG D L (k+1) rest tail,Zq D L (k+1) rest tail)::
   (List.range (zP D L (k+1) rest tail).toNat).flatMap fun (j:Nat)=>ZD D L k (ZA D L (k+1) rest tail (zG D L (k+1) rest tail+(j:Int))) ((zG D L (k+1) rest tail+(j:Int))::tail)
def jR (D:List Int) (L:List (List Int)) (k:Nat) (rest:Int) (tail:List Int) (j:Nat):List (Int×Int):=
 (List.range j).flatMap fun (i:Nat)=>ZD D L k (ZA D L (k+1) rest tail (zG D L (k+1) rest tail+(i:Int))) ((zG D L (k+1) rest tail+(i:Int))::tail)
theorem zfD (D:List Int) (L:List (List Int)) (k:Nat) (rest:Int) (tail:List Int) (j:Nat):jR D L k rest tail (j+1)=jR D L k rest tail j++ZD D L k (ZA D L (k+1) rest tail (zG D L (k+1) rest tail+(j:Int))) ((zG D L (k+1) rest tail+(j:Int))::tail):=by
 simp [jR,List.range_succ]
theorem zlj (D:List Int) (L:List (List Int)) (k:Nat) (rest:Int) (tail:List Int) {i j:Nat} (h:i<=j):(jR D L k rest tail i).length<=(jR D L k rest tail j).length:=by
 obtain ⟨m,rfl⟩:∃m,j=i+m:=⟨j-i,by omega⟩;induction m with
 |zero=>exact Zr
 |succ m ih=>rw [<-Nat.add_assoc,zfD,List.length_append];have :=ih (by omega);omega
theorem zlk (D:List Int) (L:List (List Int)) (k:Nat) (rest:Int) (tail:List Int):ZD D L (k+1) rest tail=(zG D L (k+1) rest tail,Zq D L (k+1) rest tail)::jR D L k rest tail (zP D L (k+1) rest tail).toNat:=rfl
def zaH (C:List (Int×Int)):List Value:=C.flatMap fun p=>[.int .i64 p.1,.int .i64 p.2]
theorem zll (C:List (Int×Int)) (lo hi:Int):zaH (C++[(lo,hi)])=zaH C++[.int .i64 lo,.int .i64 hi]:=by simp [zaH]
theorem Own.setLow {w:World} {zd size n c:Nat} {e:TypeId} {A:Option Addr} {xs:List Value} (h:Own w zd e size A n c xs) {p:Addr} (hp:p.block<zd) (u:Value):Own (w.setCell p u) zd e size A n c xs:=by
 refine ⟨h.1,?_⟩;rcases h.2 with hv |⟨g,cap,cur,hv,h1,h2,h3⟩
 ·exact .inl hv
 ·exact .inr ⟨g,cap,cur,hv,h1,(Below.heap_setCell w p u g (by omega)).trans h2,h3⟩
def jS (s:Nat):Array Value:=#[.pointer (some ⟨s,0,none⟩),.pointer (some ⟨s+2,0,none⟩),.pointer (some ⟨s+3,0,none⟩),.pointer (some ⟨s+4,0,none⟩)]
structure EMem (w1 W:World) (n:Nat) (mA lA:Option Addr) (mc lc:Nat) (lB:Option Addr) (c:Nat) (C:List (Int×Int)):Prop where
 ext:Ext w1 W
 fb:W.heap[w1.heap.size]? =some (.cells #[.slice mA (n+1) mc,.slice lA n lc] 99 (0,0))
 xb:W.heap[w1.heap.size+2]? =some (.cells #[.slice (some ⟨w1.heap.size+1,0,none⟩) n n] 37 (0,0))
 lb:W.heap[w1.heap.size+3]? =some (.cells #[.slice lB C.length c] 58 (0,0))
 sb:W.heap[w1.heap.size+4]? =some (.cells #[.func (.func 118) #[] (jS w1.heap.size)] 165 (0,0))
 ls:Own W (w1.heap.size+5) 64 2 lB C.length c (zaH C)
 sz:w1.heap.size+5<=W.heap.size
theorem EMem.setX {w1 W:World} {n:Nat} {mA lA:Option Addr} {mc lc:Nat} {lB:Option Addr} {c:Nat} {C:List (Int×Int)} (h:EMem w1 W n mA lA mc lc lB c C) (i:Nat) (u:Value):EMem w1 (W.setCell ⟨w1.heap.size+1,i,none⟩ u) n mA lA mc lc lB c C where
 ext:=h.ext.setCell (p:=⟨w1.heap.size+1,i,none⟩) (Nat.le_succ _) u
 fb:=Zj h.fb (show w1.heap.size≠w1.heap.size+1 by omega) u
 xb:=Zj h.xb (show w1.heap.size+2≠w1.heap.size+1 by omega) u
 lb:=Zj h.lb (show w1.heap.size+3≠w1.heap.size+1 by omega) u
 sb:=Zj h.sb (show w1.heap.size+4≠w1.heap.size+1 by omega) u
 ls:=h.ls.setLow (p:=⟨w1.heap.size+1,i,none⟩) (show w1.heap.size+1<w1.heap.size+5 by omega) u
 sz:=by rw [Zt];exact h.sz
theorem EMem.to {w1 W W':World} {n:Nat} {mA lA:Option Addr} {mc lc:Nat} {lB:Option Addr} {c:Nat} {C:List (Int×Int)} (h:EMem w1 W n mA lA mc lc lB c C) (hx:Ext W W'):EMem w1 W' n mA lA mc lc lB c C:=
 ⟨h.ext.trans hx,zg hx h.fb,zg hx h.xb,zg hx h.lb,zg hx h.sb,h.ls.ext hx,Nat.le_trans h.sz hx.size⟩
theorem EMem.snoc {w1 W W3 w4:World} {n:Nat} {mA lA:Option Addr} {mc lc:Nat} {lB:Option Addr} {c:Nat} {C:List (Int×Int)} (h:EMem w1 W n mA lA mc lc lB c C) (hx:Ext W W3) {A4:Option Addr} {d4 ln:Nat} {lo hi:Int} (hln:C.length=ln) (hg:Grow (w1.heap.size+5) 64 W3 w4) (ho:Own w4 (w1.heap.size+5) 64 2 A4 (ln+1) d4 (zaH C++[.int .i64 lo,.int .i64 hi])):
  EMem w1 (w4.setCell ⟨w1.heap.size+3,0,none⟩ (.slice A4 (ln+1) d4)) n mA lA mc lc A4 d4 (C++[(lo,hi)]):=by
 subst hln;have hk:∀b,b<w1.heap.size+5->∀o,W.heap[b]? =some o->w4.heap[b]? =some o:=fun b hb o ho=>(hg.below.block b hb).trans (zg hx ho)
 refine ⟨(hg.ext (h.ext.trans hx) (by omega)).setCell (p:=⟨w1.heap.size+3,0,none⟩) (by simp) _,?_,?_,?_,?_,?_,?_⟩
 ·exact Zj (hk _ (by omega) _ h.fb) (show w1.heap.size≠w1.heap.size+3 by omega) _
 ·exact Zj (hk _ (by omega) _ h.xb) (show w1.heap.size+2≠w1.heap.size+3 by omega) _
 ·rw [List.length_append];exact zky (hk _ (by omega) _ h.lb)
 ·exact Zj (hk _ (by omega) _ h.sb) (show w1.heap.size+4≠w1.heap.size+3 by omega) _
 ·rw [List.length_append,zll];exact ho.setLow (p:=⟨w1.heap.size+3,0,none⟩) (show w1.heap.size+3<w1.heap.size+5 by omega) _
 ·rw [Zt];have :=h.sz;have :=hx.size;have :=hg.below.size;omega
theorem XRow.to {w w':World} {sz n k:Nat} {tail:List Int} (h:XRow w sz n k tail) (hx:Ext w w'):XRow w' sz n k tail:=by
 obtain ⟨xs,h1,h2,h3⟩:=h;exact ⟨xs,zg hx h1,h2,h3⟩
def zlm (w1:World) (n:Nat) (mA lA:Option Addr) (mc lc:Nat) (C:List (Int×Int)) (k:Nat) (tail:List Int) (e:Ending) (W':World):Prop:=
 e= .returned (.tuple #[])/\XRow W' (w1.heap.size+1) n k tail/\∃lB c,EMem w1 W' n mA lA mc lc lB c C
theorem zfE:qm 118:=Jd Tryz.func118 (by kernel_rfl) (by kernel_rfl)
theorem jB:(Tryz.prog.info? 64).map (fun i=>(i.zero,i.size,i.bytes))=some (some (.agg #[.int .i64 0,.int .i64 0]),2,16):=by kernel_rfl
theorem zln {w0 w:World} {K lc n k bx:Nat} {lA:Option Addr} {L:List (List Int)} {xs lam:List Int} (hc:w0.cell? ⟨K,1,none⟩=some (.slice lA n lc)) (hK:K<w0.heap.size) (hL:Mat64 w0 lA L) (hl:L[k]? =some lam) (hx:Row w0 bx 2 .i64 xs) (hxl:xs.length=n) (hk:k<n) (hn8:n<=8) (hll:lam.length=n-1-k) (hb1:∀a∈lam,-32768<=a/\a<=32768) (hb2:∀y∈xs.drop (k+1),-1099511627776<=y/\y<=1099511627776) [hxx:Ext w0 w]:
  Calls Tryz.prog 119 #[.pointer (some ⟨K,0,none⟩),.int .i64 k,.slice (some ⟨bx,0,none⟩) n n] w (Zw w (.int .i64 (zC lam (xs.drop (k+1))))):=by
 obtain ⟨b,o,B,c1,rfl,l3,l5,l1,l2,l4⟩:=(hL.ext hxx).at_ hl;have f1:w.cell? ⟨K,1,none⟩=some (.slice (some ⟨b,o,none⟩) n lc):=(hxx.below.cell (p:=⟨K,1,none⟩) hK).trans hc;have f2:K<w.heap.size:=Nat.lt_of_lt_of_le hK hxx.size;have zp8:Row w bx 2 .i64 xs:=zg hxx hx;obtain ⟨tail,ht⟩:∃tail,tail=xs.drop (k+1):=⟨_,rfl⟩;obtain ⟨r,hr⟩:∃r,r=n-1-k:=⟨_,rfl⟩;have htl:tail.length=r:=by rw [ht,List.length_drop];omega
 rw [<-ht];rw [<-hr] at hll;rw [hll] at l3 l1;have hr1:r+k+1<=n:=by omega
 have HT:=Zh ht;have HLL:=Zh hll;have HTL:=Zh htl;have HL5:=Zh l5;have zo7:=Zh zp8;have HB1:=Zh hb1;have HB2:=Zh hb2;have HXL:=Zh hxl;have htb:Hid (∀y∈tail,-1099511627776<=y/\y<=1099511627776):=Zh fun y hy=>hb2 y (by rw [<-ht];exact hy)
 clear ht hr hll htl l5 zp8 hb1 hb2 hxl hx hL hl hc hK;go_enter Tryz.func119,Tryz.ntmps119;go_wp2_with fail
 go_loop [7,8,9,18] (fun s _ _ i=>∃q:Nat,q<=r/\i= .int .i64 q/\s= .int .i64 (zC (lam.take q) (tail.take q))) (fun _ _ _ i=>r-(intOf i).toNat)
 case atStart=>exact ⟨0,by omega,rfl,by simp [zC]⟩
 case round=>
  obtain ⟨q,hq,rfl,rfl⟩:=hrel;by_cases hlt:q<r
  ·obtain ⟨a,ha⟩:∃a,lam[q]? =some a:=⟨_,Ze (by have :=HLL.out;omega)⟩;obtain ⟨y,hy⟩:∃y,tail[q]? =some y:=⟨_,Ze (by have :=HTL.out;omega)⟩;obtain ⟨b1,o1,-,rfl,-⟩:=HL5.out.at_ (i:=q) (by have :=HLL.out;omega);obtain ⟨g1,g2⟩:=Qg HL5.out ha;have hxy:xs[k+1+q]? =some y:=by rw [<-hy,HT.out,List.getElem?_drop]
   obtain ⟨y',hy1,hy2⟩:=zo7.out.cell (i:=k+1+q) (by rw [HXL.out];omega);rw [hxy] at hy1;injection hy1 with hy1
   subst hy1;have ba:=HB1.out a (Zm ha);have bb:=htb.out y (Zm hy);have bs:=Jg (A:=32768) (B:=1099511627776) (by omega) (by omega) (lam.take q) (tail.take q) (fun z hz=>HB1.out z (List.mem_of_mem_take hz)) (fun z hz=>htb.out z (List.mem_of_mem_take hz));have bm:=qB (a:=a) (b:=y) (A:=32768) (B:=1099511627776) (by omega) (by omega) (by omega) (by omega);have zqu:=Zh (zaw lam tail q a y ha hy);have htl:(lam.take q).length<=8:=by rw [List.length_take];omega
   obtain ⟨s,hs⟩:∃s,s=zC (lam.take q) (tail.take q):=⟨_,rfl⟩;rw [<-hs] at bs zqu |-
   have bs1:-288230376151711744<=s:=by omega
   have bs2:s<=288230376151711744:=by omega
   obtain ⟨bm1,bm2⟩:=bm;have bm3:-36028797018963968<=a*y:=by omega
   have bm4:a*y<=36028797018963968:=by omega
   clear ba bb bs bm1 bm2 hs ha hy hxy htl;go_wp2_with fail
   exact ⟨⟨q+1,by omega,by go_num,by rw [zqu.out]⟩,by simp [intOf]<;>omega⟩
  ·obtain rfl:q=r:=by omega
   clear hlt;have e1:lam.take q=lam:=List.take_of_length_le (by have :=HLL.out;omega);have e2:tail.take q=tail:=List.take_of_length_le (by have :=HTL.out;omega);rw [e1,e2];clear e1 e2;go_wp2_with fail
   go_ret;exact ⟨rfl,rfl⟩
set_option maxRecDepth 100000 in
theorem zlo {w1:World} {za:Int} {D:List Int} {L:List (List Int)} {n:Nat} {mA lA:Option Addr} {mc lc:Nat} (hD:Ints w1 mA 2 .i64 D) (hL:Mat64 w1 lA L) (hN:NumOK D L n za) (k:Nat):
  ∀(rest:Int) (tail:List Int) (W:World) (lB:Option Addr) (c:Nat) (C:List (Int×Int)),LevOK D n za k rest tail->XRow W (w1.heap.size+1) n k tail->EMem w1 W n mA lA mc lc lB c C->(C++ZD D L k rest tail).length<=1073741824->
   Calls Tryz.prog 118 (#[.int .i64 k,.int .i64 rest]++jS w1.heap.size) W (zlm w1 n mA lA mc lc (C++ZD D L k rest tail) k tail):=by
 induction k using Nat.strongRecOn with
 |ind k ih=>
  intro rest tail W lB c C hLv hX hM zp9;have hkn:=hLv.kn;have hn8:=hN.n8;obtain ⟨f1,f2,-,-,f5⟩:=zK hM.fb;have xb1:W.cell? ⟨w1.heap.size+2,0,none⟩=some (.slice (some ⟨w1.heap.size+1,0,none⟩) n n):=by simp [World.cell?,hM.xb]
  have lb1:W.cell? ⟨w1.heap.size+3,0,none⟩=some (.slice lB C.length c):=by simp [World.cell?,hM.lb]
  have lb2:W.frozen? ⟨w1.heap.size+3,0,none⟩=false:=by simp [World.frozen?,hM.lb]
  obtain ⟨xs,zp8,hxl,hxd⟩:=id hX;have hdl:=hN.dl;have hll:=hN.ll;have hd0:D[k]? =some (vD D k):=by unfold vD;simp [show k<D.length by omega]
  have ztj:D[k+1]? =some (vD D (k+1)):=by unfold vD;simp [show k+1<D.length by omega]
  obtain ⟨bm,om,-,rfl,-⟩:=hD.at_ (i:=k) (by omega);obtain ⟨m3,m4⟩:=Qg (hD.ext hM.ext) hd0;obtain ⟨m1,-⟩:=Qg (hD.ext hM.ext) ztj;have hSb:=jx hN hLv;have zq0:=fun W' (hh:Ext W W')=>zln (w:=W') f2 f5 (hL.ext hM.ext) (k:=k) (lam:=L.getD k []) (by simp [show k<L.length by omega]) zp8 hxl hkn hn8 (hN.row k hkn) (fun a ha=>by have h1:=hN.lam k hkn a ha;have h2:=hN.d2 (k+1) (by omega);omega) (fun y hy=>by
   rw [hxd] at hy;obtain ⟨j,hj,e⟩:=List.getElem_of_mem hy;have :=JO tail j y (by simp [hj,e]);omega)
  rw [hxd] at zq0;have zrU:zC (L.getD k []) tail=Zz L k tail:=rfl;rw [zrU] at zq0;obtain ⟨sh,hsh⟩:∃sh,sh=Zz L k tail:=⟨_,rfl⟩;have bsh:=zcw hN hLv;have bmS:=zeZ hN hLv;rw [<-hsh] at bsh zq0;have bsh1:-36028247263150080<=sh:=by omega
  have bsh2:sh<=36028247263150080:=by omega
  have HSH:=Zh hsh;have HSC:=Zh zq0;have hsq:=zay hN hLv;have hR:=jc hN hLv;have hd1:=hN.d1 (k+1) (by omega);have hd2:=hN.d2 (k+1) (by omega);obtain ⟨sqn,zrf⟩:∃sqn,sqn=(Zu D k rest).toNat:=⟨_,rfl⟩;have zrB:vD D k*rest=(sqn:Int):=by have :=hsq.1;rw [zrf];unfold Zu at this |-;omega
  have zt1:sqn<4611686018427387904:=by have :=hsq.2;omega
  have HSQ:Hid (Zu D k rest=(sqn:Int)):=Zh zrB;have HRT:Hid (vR D k rest=(zo sqn:Nat)):=Zh (by rw [zrf];rfl);have zt2:zo sqn<2147483648:=by have :=hR.2.1;rw [HRT.out] at this;omega
  obtain ⟨d,hd⟩:∃d,d=vD D (k+1):=⟨_,rfl⟩;rw [<-hd] at m1 hd1 hd2;have HD:=Zh hd;obtain ⟨dk,hdk⟩:∃dk,dk=vD D k:=⟨_,rfl⟩;rw [<-hdk] at m3 zrB;obtain ⟨p,hp⟩:∃p,p=((zo sqn:Int)+sh) / d:=⟨_,rfl⟩;obtain ⟨hi,hhi⟩:∃hi,hi=((zo sqn:Int)-sh) / d:=⟨_,rfl⟩;have HLO:Hid (zG D L k rest tail=-p):=Zh (by rw [hp,hsh,HD.out,zG,HRT.out]);have HHI:Hid (Zq D L k rest tail=hi):=Zh (by rw [hhi,hsh,HD.out,Zq,HRT.out]);have zrC:=Jh hN hLv
  have zq9:=QQ hN hLv;have zo8:Hid (zP D L k rest tail=hi+p+1):=Zh (by rw [zP,HLO.out,HHI.out];omega);rw [HLO.out,HHI.out,HRT.out] at zrC;rw [zo8.out] at zq9;have hp1:-1099511627776<=p:=by omega
  have hp2:p<=1099511627776:=by omega
  have hi1:-1099511627776<=hi:=by omega
  have hi2:hi<=1099511627776:=by omega
  have hq1:=hp.symm;have hq2:=hhi.symm;obtain ⟨ln,hln⟩:∃ln,C.length=ln:=⟨_,rfl⟩;rw [hln] at lb1;have HLN:=Zh hln;have zp7:=hM.ls;rw [hln] at zp7;have HO:=Zh zp7;have zru:ln+1<=1073741824:=by
   rw [List.length_append,hln] at zp9;have :1<=(ZD D L k rest tail).length:=by cases k<;>simp [ZD]
   omega
  have zup:=hM.sz;have e1:IntKind.i64.wrap ((k:Int)+1)=(k:Int)+1:=IntWalk.i64_in _ (by omega);have zqL:(k:Int)+1<(n:Int)+1:=by omega
  have hge:(0:Int)<=(k:Int)+1:=by omega
  have hto:((k:Int)+1).toNat=k+1:=by omega
  have HM:=Zh hM;have HX:=Zh hX;have HLV:=Zh hLv;have zpe:=Zh zp9;have HLB:=Zh hM.lb;have oS3:Old (w1.heap.size+3) W:=⟨by omega⟩;clear hd hdk zrf hsq hR hxd hdl hll hd0 ztj hX hM zp9 bsh bmS zrC hSb hp hhi hsh zq0 zrU hln zp7 zq9;unfold jS;go_enter Tryz.func118,Tryz.ntmps118;go_wp2_with fail
  go_quiet ((go_at_call 119;refine (HSC.out _ Zi).mono ?_;rintro e w' ⟨rfl,rfl⟩;exact ⟨rfl,_,rfl⟩))
  clear e1 zqL hge hto;go_upto_region 5 with (first
   |(go_at_call 117;refine (zlh (a:=sqn) (by omega)).mono ?_;rintro e w' ⟨rfl,rfl⟩)
   |(go_at_call 120;refine (zlg (by omega) (by omega) (by omega) (by omega)).mono ?_;rintro e w' ⟨rfl,rfl⟩)
   |(at_builtin;refine zI _ rfl _ _ 58 rfl (w1.heap.size+5) 64 (.agg #[.int .i64 0,.int .i64 0]) 2 16 Tryz.underlying58 jB rfl (by omega) (by omega) lB ln c _ rfl (HO.out.ext Zi) _ 1 1 [.int .i64 (-p),.int .i64 hi] rfl (Arr.new (W.drewN nq) 64 #[.int .i64 (-p),.int .i64 hi]) (by simp) (by simp [Value.oneCell']) (by omega) (by simp;omega) ?_;intro A4 d4 w4 zqd hg4;have hb4:=(hg4.below.block (w1.heap.size+3) (by omega)).trans (zg (Zi:Ext W ((W.drewN nq).alloc (Obj.cells #[Value.int .i64 (-p),Value.int .i64 hi] 64))) HLB.out);have q1:w4.cell? ⟨w1.heap.size+3,0,none⟩=some (.slice lB C.length c):=(by simp [World.cell?,hb4]);have q2:w4.frozen? ⟨w1.heap.size+3,0,none⟩=false:=(by simp [World.frozen?,hb4]);have q3:w1.heap.size+3<w4.heap.size:=zA hb4;clear hb4))
  have hM2:=HM.out.snoc (Zi:Ext W ((W.drewN nq).alloc (Obj.cells #[Value.int .i64 (-p),Value.int .i64 hi] 64))) HLN.out hg4 zqd;have hX2:XRow (w4.setCell ⟨w1.heap.size+3,0,none⟩ (.slice A4 (ln+1) d4)) (w1.heap.size+1) n k tail:=HX.out.keep (by
   rw [Below.heap_setCell _ _ _ _ (show w1.heap.size+1≠w1.heap.size+3 by omega),hg4.below.block _ (by omega)];exact (Zi:Ext W ((W.drewN nq).alloc (Obj.cells #[Value.int .i64 (-p),Value.int .i64 hi] 64))).below.block _ (by omega))
  generalize w4.setCell ⟨w1.heap.size+3,0,none⟩ (.slice A4 (ln+1) d4)=W2 at hM2 hX2 |-
  have HM2:=Zh hM2;have HX2:=Zh hX2;clear q1 q2 q3 zqd hg4 hM2 hX2 HM HX HO HLB HSC f1 f2 f5 xb1 lb1 lb2 m1 m3 m4 oS3 zp8 hxl zup;by_cases hk0:k=0
  ·have HE:Hid (C++ZD D L k rest tail=C++[(-p,hi)]):=Zh (by
    have h1:=HLO.out;have h2:=HHI.out;rw [hk0] at h1 h2 |-
    rw [ZD,h1,h2])
   have ek:((k:Int)==0)=true:=by simp;omega
   have zun:k<1:=by omega
   clear hk0;go_wp2_with fail
   refine bodyPost_ret (results_none rfl _ _ _) rfl ?_;exact ⟨rfl,HX2.out,A4,d4,by rw [HE.out];exact HM2.out⟩
  ·obtain ⟨k',HK1⟩:∃k',Hid (k=k'+1):=⟨k-1,Zh (by omega)⟩;have ek:((k:Int)==0)=false:=by simp;omega
   have zs2:1<=k:=by omega
   obtain ⟨T,HT⟩:∃T:Nat->List (Int×Int),Hid (∀j,T j=jR D L k' rest tail j):=⟨_,Zh fun _=>rfl⟩;have HTN:Hid (C++ZD D L k rest tail=C++[(-p,hi)]++T (hi+p+1).toNat):=Zh (by
    have h1:=HLO.out;have h2:=HHI.out;have h3:=zo8.out;rw [HK1.out] at h1 h2 h3 |-
    rw [zlk,h1,h2,h3,HT.out];simp)
   have HTL:Hid (∀(x:Int) (j:Nat),x=-p+j->x<=hi->(C++[(-p,hi)]++T (j+1)).length<=1073741824):=Zh fun x j h1 h2=>by
    have hh:=zpe.out;rw [HTN.out,HT.out,List.length_append] at hh;have :=zlj D L k' rest tail (i:=j+1) (j:=(hi+p+1).toNat) (by omega);rw [HT.out,List.length_append];omega
   have zs1:0<=hi+p+1:=by have :=(QQ hN hLv).1;rw [zo8.out] at this;exact this
   rw [HTN.out];clear hk0;go_wp2_with fail
   go_loopw [14,15] (fun s14 _ wr=>∃(x:Int) (j:Nat),s14= .int .i64 x/\Hid (x=-p+j)/\-p<=x/\x<=hi+1/\Hid (XRow wr (w1.heap.size+1) n k tail)/\∃lB c,Hid (EMem w1 wr n (some ⟨bm,om,none⟩) lA mc lc lB c (C++[(-p,hi)]++T j))) (fun s14 _ _=>(hi+1-intOf s14).toNat)
   case atStart=>exact ⟨_,0,rfl,Zh (by omega),by omega,by omega,HX2,A4,d4,Zh (by rw [HT.out];simpa [jR] using HM2.out)⟩
   case round=>
    obtain ⟨x,j,rfl,HXJ,hx1,hx2,HXr,lB2,c2,HMr⟩:=hrel;by_cases hlt:x<=hi
    ·have zqX:zG D L k rest tail<=x:=by rw [HLO.out];exact hx1
     have zqY:x<=Zq D L k rest tail:=by rw [HHI.out];exact hlt
     have hub:=zcx hN hLv zqX zqY;obtain ⟨zrD,zsk,-,-⟩:=zcy hN hLv zqX zqY;obtain ⟨u,hu⟩:∃u,u=d*x+sh:=⟨_,rfl⟩;have HU:Hid (vU D L k tail x=u):=Zh (by rw [hu,HSH.out,HD.out];rfl);have HRS:Hid (ZA D L k rest tail x=((sqn:Int)-u*u) / d):=Zh (by rw [ZA,HU.out,HSQ.out,<-HD.out]);rw [HU.out] at hub zrD zsk;rw [HSQ.out] at zrD;rw [HRT.out] at hub;have hln:=HTL.out x j HXJ.out hlt;have xb2:wr.cell? ⟨w1.heap.size+2,0,none⟩=some (.slice (some ⟨w1.heap.size+1,0,none⟩) n n):=by simp [World.cell?,HMr.out.xb]
     have bw2:w1.heap.size+5<=wr.heap.size:=HMr.out.sz;obtain ⟨xs2,zsA,zuq,-⟩:=id HXr.out;obtain ⟨y0,-,hc0⟩:=zsA.cell (i:=k) (by omega);have hf0:=zsA.frozen k;have hu':=hu.symm;have zt4:-2147483648<=u:=by omega
     have zt5:u<=2147483648:=by omega
     have hus:u*u<=4611686018427387904:=by omega
     have hdx:=qB (a:=d) (b:=x) (A:=65536) (B:=2199023255552) (by omega) (by omega) (by omega) (by omega);have zt6:-144115188075855872<=d*x:=by omega
     have zt7:d*x<=144115188075855872:=by omega
     have hLn:LevOK D n za (k'+1) rest tail:=by rw [<-HK1.out];exact hLv
     have hL':LevOK D n za k' (((sqn:Int)-u*u) / d) (x::tail):=by
      have :=LevOK.next hN hLn (x:=x) (by rw [<-HK1.out];exact zqX) (by rw [<-HK1.out];exact zqY);rw [<-HK1.out,HRS.out] at this;exact this
     have hX3:XRow (wr.setCell ⟨w1.heap.size+1,k,none⟩ (.int .i64 x)) (w1.heap.size+1) n k' (x::tail):=by
      have h1:XRow wr (w1.heap.size+1) n (k'+1) tail:=by rw [<-HK1.out];exact HXr.out
      have :=h1.put (by have :=HK1.out;omega) x;rw [<-HK1.out] at this;exact this
     have HNX:Hid (T (j+1)=T j++ZD D L k' (((sqn:Int)-u*u) / d) (x::tail)):=Zh (by
      have h1:=HLO.out;have h2:=HRS.out;rw [HK1.out] at h1 h2;rw [HT.out,HT.out,zfD,h1,<-HXJ.out,h2])
     have hM3:=HMr.out.setX k (.int .i64 x);obtain ⟨q,hq⟩:∃q,q=((sqn:Int)-u*u) / d:=⟨_,rfl⟩;rw [<-hq] at hL' HNX;have zqn:=fun (W':World) (hh:Ext (wr.setCell ⟨w1.heap.size+1,k,none⟩ (.int .i64 x)) W')=>ih k' (by have :=HK1.out;omega) q (x::tail) W' lB2 c2 (C++[(-p,hi)]++T j) hL' (hX3.to hh) (hM3.to hh) (by rw [List.append_assoc,<-HNX.out];exact hln)
     rw [List.append_assoc,<-HNX.out,show ((k':Nat):Int)=(k:Int)-1 by have :=HK1.out;omega] at zqn;unfold jS at zqn;simp only [List.append_toArray,List.cons_append,List.nil_append] at zqn;have HC:=Zh zqn;have hfn:=zfE;unfold qm at hfn;have hq0:0<=q:=by rw [hq];exact Int.ediv_nonneg (by omega) (by omega)
     have hqm:q<=(sqn:Int)-u*u:=by rw [hq];exact Int.ediv_le_self _ (by omega)
     have g1:IntKind.i64.wrap ((k:Int)-1)=(k:Int)-1:=IntWalk.i64_in _ (by omega);have g2:IntKind.i64.wrap (u*u)=u*u:=IntWalk.i64_in _ (by omega);have g3:IntKind.i64.wrap ((sqn:Int)-u*u)=(sqn:Int)-u*u:=IntWalk.i64_in _ (by omega);have g4:((sqn:Int)-u*u).tdiv d=q:=by rw [hq];exact Int.tdiv_eq_ediv_of_nonneg (by omega)
     have g5:IntKind.i64.wrap q=q:=IntWalk.i64_in _ (by omega);have g6:¬d=0:=by omega
     have HQ:=Zh hq;have sb3:(wr.setCell ⟨w1.heap.size+1,k,none⟩ (.int .i64 x)).cell? ⟨w1.heap.size+4,0,none⟩=some (.func (.func 118) #[] (jS w1.heap.size)):=by simp [World.cell?,hM3.sb]
     unfold jS at sb3;clear hub hu zqX zqY hX3 hL' hLn zqn hdx zuq zsA hln hq hM3;go_upto_region 11 with fail
     generalize wr.setCell ⟨w1.heap.size+1,k,none⟩ (.int .i64 x)=W3 at HC sb3 |-
     go_region_with (refine (HC.out _ Zi).mono ?_;rintro e W5 ⟨rfl,hX5,lB5,c5,hM5⟩)
     all_goals (
      have HX5:=Zh hX5.up;have HM5:=Zh hM5;clear hX5 hM5 g1 g2 g3 g4 g5;go_wp2_with fail
      exact ⟨⟨x+1,j+1,rfl,Zh (by have :=HXJ.out;omega),by omega,by omega,Zh (by have :=HX5.out;rw [<-HK1.out] at this;exact this),lB5,c5,HM5⟩,by simp [intOf];omega⟩)
    ·have HJE:Hid ((hi+p+1).toNat=j):=Zh (by have :=HXJ.out;omega);go_wp2_with fail
     go_end0
     exact ⟨rfl,HXr.out,lB2,c2,by rw [HTN.out,HJE.out];exact HMr.out⟩
def zfF (w:World) (C:List (Int×Int)) (e:Ending) (w':World):Prop:=∃A c,e= .returned (.slice A C.length c)/\IvT w' A C/\C.length<=c/\c<=9223372036854775807/\Step w w'
theorem EMem.start {w1:World} {n mc lc:Nat} {mA lA:Option Addr} (hn:1<=n):
  XRow (((((w1.alloc (.cells #[.slice mA (n+1) mc,.slice lA n lc] 99)).alloc (.cells (zV #[.int .i64 0] n) 2)).alloc (.cells #[.slice (some ⟨w1.heap.size+1,0,none⟩) n n] 37)).alloc (.cells #[.slice none 0 0] 58)).alloc (.cells #[.func (.func 118) #[] #[.pointer (some ⟨w1.heap.size,0,none⟩),.pointer (some ⟨w1.heap.size+1+1,0,none⟩),.pointer (some ⟨w1.heap.size+1+1+1,0,none⟩),.pointer (some ⟨w1.heap.size+1+1+1+1,0,none⟩)]] 165)) (w1.heap.size+1) n (n-1) []/\
  EMem w1 (((((w1.alloc (.cells #[.slice mA (n+1) mc,.slice lA n lc] 99)).alloc (.cells (zV #[.int .i64 0] n) 2)).alloc (.cells #[.slice (some ⟨w1.heap.size+1,0,none⟩) n n] 37)).alloc (.cells #[.slice none 0 0] 58)).alloc (.cells #[.func (.func 118) #[] #[.pointer (some ⟨w1.heap.size,0,none⟩),.pointer (some ⟨w1.heap.size+1+1,0,none⟩),.pointer (some ⟨w1.heap.size+1+1+1,0,none⟩),.pointer (some ⟨w1.heap.size+1+1+1+1,0,none⟩)]] 165)) n mA lA mc lc none 0 []:=by
 generalize e1:w1.alloc (.cells #[.slice mA (n+1) mc,.slice lA n lc] 99)=W1;generalize e2:W1.alloc (.cells (zV #[.int .i64 0] n) 2)=W2;generalize e3:W2.alloc (.cells #[.slice (some ⟨w1.heap.size+1,0,none⟩) n n] 37)=W3;generalize e4:W3.alloc (.cells #[.slice none 0 0] 58)=W4;generalize e5:W4.alloc (.cells #[.func (.func 118) #[] #[.pointer (some ⟨w1.heap.size,0,none⟩),.pointer (some ⟨w1.heap.size+1+1,0,none⟩),.pointer (some ⟨w1.heap.size+1+1+1,0,none⟩),.pointer (some ⟨w1.heap.size+1+1+1+1,0,none⟩)]] 165)=W5
 have s1:W1.heap.size=w1.heap.size+1:=by rw [<-e1,World.size_alloc]
 have s2:W2.heap.size=w1.heap.size+2:=by rw [<-e2,World.size_alloc,s1]
 have s3:W3.heap.size=w1.heap.size+3:=by rw [<-e3,World.size_alloc,s2]
 have s4:W4.heap.size=w1.heap.size+4:=by rw [<-e4,World.size_alloc,s3]
 have s5:W5.heap.size=w1.heap.size+5:=by rw [<-e5,World.size_alloc,s4]
 have x1:Ext w1 W1:=by rw [<-e1];infer_instance
 have x2:Ext W1 W2:=by rw [<-e2];infer_instance
 have x3:Ext W2 W3:=by rw [<-e3];infer_instance
 have x4:Ext W3 W4:=by rw [<-e4];infer_instance
 have x5:Ext W4 W5:=by rw [<-e5];infer_instance
 have h1:=heap_alloc_new w1 (.cells #[.slice mA (n+1) mc,.slice lA n lc] 99);have h2:=heap_alloc_new W1 (.cells (zV #[.int .i64 0] n) 2);have h3:=heap_alloc_new W2 (.cells #[.slice (some ⟨w1.heap.size+1,0,none⟩) n n] 37);have h4:=heap_alloc_new W3 (.cells #[.slice none 0 0] 58);have h5:=heap_alloc_new W4 (.cells #[.func (.func 118) #[] #[.pointer (some ⟨w1.heap.size,0,none⟩),.pointer (some ⟨w1.heap.size+1+1,0,none⟩),.pointer (some ⟨w1.heap.size+1+1+1,0,none⟩),.pointer (some ⟨w1.heap.size+1+1+1+1,0,none⟩)]] 165)
 rw [e1] at h1;rw [e2,s1] at h2;rw [e3,s2] at h3;rw [e4,s3] at h4;rw [e5,s4] at h5;have x35:=x4.trans x5;have x25:=x3.trans x35;have x15:=x2.trans x25;refine ⟨⟨List.replicate n 0,?_,by simp,by simp;omega⟩,x1.trans x15,zg x15 h1,zg x35 h3,zg x5 h4,h5,Own.nil _ _ _ _,by omega⟩;have :(zV #[.int .i64 0] n)=((List.replicate n (0:Int)).map (Value.int .i64)).toArray:=by
  apply Array.ext';rw [QP];simp
 rw [this] at h2;exact zg x25 h2
theorem zlp {w0 w:World} {A:Option Addr} {c:Nat} {m:List (List Int)} {za:Int} (h:Mat64 w0 A m) (h2:2<=m.length) (hf:FormOK m) (h64:Jo m) (hb0:0<=za) (hb1:za<1073741824) (zp9:(ZD (ze m m.length) (zh m m.length) (m.length-1) (vD (ze m m.length) m.length*za) []).length<=1073741824) (hbd:∀p∈ZD (ze m m.length) (zh m m.length) (m.length-1) (vD (ze m m.length) m.length*za) [],-9223372036854775808<=p.1/\p.1<=9223372036854775807/\-9223372036854775808<=p.2/\p.2<=9223372036854775807) [hx:Ext w0 w]:
  Calls Tryz.prog 70 #[.slice A m.length c,.int .i64 za] w (zfF w (ZD (ze m m.length) (zh m m.length) (m.length-1) (vD (ze m m.length) m.length*za) [])):=by
 have hN:=hf.num za hb0 hb1;have h8:=hN.n8;have hnf:=fun W (hh:Ext w0 W)=>zfw (w:=W) (c:=c) h hf.len1 h8 hf.all hf.fits hf.elim h64
 have hDl:(ze m m.length).length=m.length+1:=JM m _;have hLl:(zh m m.length).length=m.length:=by simp [zh]
 obtain ⟨D,hD⟩:∃D,D=ze m m.length:=⟨_,rfl⟩;obtain ⟨L,hL⟩:∃L,L=zh m m.length:=⟨_,rfl⟩;rw [<-hD,<-hL] at hnf hN zp9 hbd |-
 rw [<-hD] at hDl;rw [<-hL] at hLl;unfold zcO at hnf;rw [hDl,hLl] at hnf;obtain ⟨n,hn⟩:∃n,n=m.length:=⟨_,rfl⟩;rw [<-hn] at hnf hN hDl hLl h2 h8 zp9 hbd |-
 obtain ⟨dn,hdn⟩:∃dn,dn=vD D n:=⟨_,rfl⟩;have e1:=hN.d1 n (by omega);have e2:=hN.d2 n (by omega);rw [<-hdn] at e1 e2 zp9 hbd |-
 have hm1:0<=dn*za:=Int.mul_nonneg (by omega) (by omega);have hm2:dn*za<=65535*1073741823:=Int.mul_le_mul (by omega) (by omega) (by omega) (by omega);have zqw:LevOK D n za (n-1) (dn*za) []:=⟨by omega,hm1,by rw [show n-1+1=n by omega,hdn];exact Int.le_refl _,by simp,by simp [z6]⟩;obtain ⟨rest,zr1⟩:∃rest,dn*za=rest:=⟨_,rfl⟩;rw [zr1] at hm1 hm2 zqw zp9 hbd |-
 have hdi:D[n]? =some dn:=by rw [hdn];unfold vD;simp [show n<D.length by omega]
 have HNF:=Zh hnf;have HDL:=Zh hDl;have zpT:=Zh zqw;have zpe:=Zh zp9;have HDI:=Zh hdi;have HBD:=Zh hbd;have hne:((n:Int)==1)=false:=by simp;omega
 have hmk:=ZL (P:=Tryz.prog) Tryz.underlying37 qP (by omega) (n:Int) (by omega) (by omega);clear hnf hD hL hn hDl hLl zqw hdi hdn zp9 hf h64 hbd;go_enter Tryz.func70,Tryz.ntmps70;go_wp2_with (go_at_call 113;refine (HNF.out _ Zi).mono ?_;clear HNF;rintro e w1 ⟨mA,mc,lA,lc,rfl,hDX,hLX,d1,d2,d3,d4,hs1⟩)
 have hfv:=Mat64X.fv (P:=fun _=>True) hDX hLX (Ext.refl _) (fun _ _ _=>trivial);have hD:=hfv.ints;have hL:=hfv.mat;clear hDX hLX hfv;obtain ⟨hX,hM⟩:=EMem.start (mA:=mA) (lA:=lA) (mc:=mc) (lc:=lc) (n:=n) (by omega);generalize (((((w1.alloc (.cells #[.slice mA (n+1) mc,.slice lA n lc] 99)).alloc (.cells (zV #[.int .i64 0] n) 2)).alloc (.cells #[.slice (some ⟨w1.heap.size+1,0,none⟩) n n] 37)).alloc (.cells #[.slice none 0 0] 58)).alloc (.cells #[.func (.func 118) #[] #[.pointer (some ⟨w1.heap.size,0,none⟩),.pointer (some ⟨w1.heap.size+1+1,0,none⟩),.pointer (some ⟨w1.heap.size+1+1+1,0,none⟩),.pointer (some ⟨w1.heap.size+1+1+1+1,0,none⟩)]] 165))=W at hX hM |-
 obtain ⟨f1,f2,f3,f4,f5⟩:=zK hM.fb;have sb1:W.cell? ⟨w1.heap.size+1+1+1+1,0,none⟩=some (.func (.func 118) #[] #[.pointer (some ⟨w1.heap.size,0,none⟩),.pointer (some ⟨w1.heap.size+1+1,0,none⟩),.pointer (some ⟨w1.heap.size+1+1+1,0,none⟩),.pointer (some ⟨w1.heap.size+1+1+1+1,0,none⟩)]):=by
  have :W.cell? ⟨w1.heap.size+4,0,none⟩=some (.func (.func 118) #[] (jS w1.heap.size)):=by simp [World.cell?,hM.sb]
  exact this
 obtain ⟨bm,om,-,rfl,-⟩:=hD.at_ (i:=n) (by have :=HDL.out;omega);obtain ⟨m3,m4⟩:=Qg (hD.ext hM.ext) HDI.out;have zqn:=fun (W':World) hX' hM'=>zlo (mc:=mc) (lc:=lc) hD hL hN (n-1) rest [] W' none 0 [] zpT.out hX' hM' (by rw [List.nil_append];exact zpe.out)
 rw [show ((n-1:Nat):Int)=(n:Int)-1 by omega,List.nil_append] at zqn;unfold jS at zqn;simp only [List.append_toArray,List.cons_append,List.nil_append] at zqn;have HC:=Zh zqn;have hfn:=zfE;unfold qm at hfn;have HX:=Zh hX;have HM:=Zh hM;have w1e:IntKind.i64.wrap ((n:Int)-1)=(n:Int)-1:=IntWalk.i64_in _ (by omega);have w2e:IntKind.i64.wrap rest=rest:=IntWalk.i64_in _ (by omega);clear zqn hX hM;go_region_with (refine (HC.out _ HX.out.drew (HM.out.to (zcP _))).mono ?_;rintro e W3 ⟨rfl,hX4,lB4,c4,hM4⟩)
 all_goals (
  have lb4:W3.cell? ⟨w1.heap.size+1+1+1,0,none⟩=some (.slice lB4 (ZD D L (n-1) rest []).length c4):=by
   have :W3.cell? ⟨w1.heap.size+3,0,none⟩=some (.slice lB4 (ZD D L (n-1) rest []).length c4):=by simp [World.cell?,hM4.lb]
   exact this
  have zvz:w1.heap.size+1+1+1<W3.heap.size:=by have :=hM4.sz;omega
  have zqa:zfF w (ZD D L (n-1) rest []) (.returned (.slice lB4 (ZD D L (n-1) rest []).length c4)) W3:=by
   have hc:=hM4.ls.cap;have hxw:Ext w w1:=Zi;exact ⟨lB4,c4,rfl,⟨hM4.ls.arr,HBD.out⟩,hc.1,hc.2,(hxw.trans hM4.ext).toStep⟩
  have HF:=Zh zqa;clear zqa hM4 hX4;generalize (ZD D L (n-1) rest []).length=ln at lb4 HF |-
  go_wp2;go_ret;exact HF.out)
end Go.Proofs.YtjehjkipcaohpaaGreat
