import Derived.Test.YtpcgfpmiphiacaaGreatC16
set_option maxHeartbeats 8000000
set_option linter.unusedVariables false
set_option linter.unusedSimpArgs false
namespace Go.Proofs.YtpcgfpmiphiacaaGreat
open List (getElem?_set_self getElem?_set_ne getElem?_eq_none getElem?_append_right getElem?_append_left)
variable {fork:Bool} {z:Int} {a m:List (List Int)} {l r:List Int} {T b c i j k most n:Nat} {A:Option Addr} {w w' w0:World}
section
open Go.RowKit
set_option maxRecDepth 10000 in
theorem znP(h:MatV w0 A m)(h1:m.length=n)(h3:1<=n)(h4:n<=16)(hn:AllLen m n)(h64:∀i j,-9223372036854775808<=ent m i j/\ent m i j<=9223372036854775807)[hx:Ext w0 w]:
  Cq 66 #[.slice A n c] w (zkt w m true):=by
 have h0:=h.ext hx;have hsh:=fun W(hh:Ext w W)=>zbl (w:=W) (c:=c) h0 n (by omega) (by omega) h3 h4 hn
 rw[h1]at hsh;have HSH:=Zh hsh;have hte:=JK m n hn;rw[h1]at hte;have HT:=Zh hte;have hmk:=qf (P:=Tryz.prog) Tryz.underlying25 Qc (by omega) (n:Int) (by omega) (by omega);have ztd:=qf (P:=Tryz.prog) Tryz.underlying35 Qb (by omega) (n:Int) (by omega) (by omega);obtain⟨F,hF⟩:∃F:Nat->Nat->Int,F=fun i j=>(m.getD i []).getD j 0:=⟨_,rfl⟩
 rw[<-hF]at HT;have HF:Hid (∀i j,ent m i j=F i j):=Zh (fun i j=>by rw[hF];rfl);have HA:=Zh hn;have HL:=Zh h1;have H64:=Zh h64;clear hsh hte hF hn h1 h64;go_enter Tryz.func66,Tryz.ntmps66;go_wp2_with (go_at_call 126;refine(HSH.out _ Zi).mono ?_;rintro e w1 ⟨rfl,hs1⟩)
 have zs4:Ext w w1:=Zi;go_loopw [8,9,10,11,24] (fun _ _ _ _ i wr=>∃k:Nat,k<=n/\i= .int .i64 k/\Hid (Heads1 wr w1.heap.size F n n k)/\Ext w1 wr) (fun _ _ _ _ i _=>n-(intOf i).toNat)
 case atStart=>exact⟨0,by omega,rfl,Zh (by simpa[Value.cells] using Heads1.made w1 F n n),Zi⟩
 case round=>
  obtain⟨k,hk,rfl,HH,hxr⟩:=hrel;by_cases hlt:k<n
  ·obtain⟨hd,v1,v2,v3,v4⟩:=HH.out;have hc1:=v1.cell (v4 k Zr hlt);have hc2:=v1.frozen k;have hsz:=v1.lt;obtain⟨wo,rfl⟩:∃wo:World,wo=wr:=⟨_,rfl⟩;have V1:=Zh v1;have V2:=Zh v2;have V3:=Zh v3;have V4:=Zh v4;have hkl:k<hd.length:=by omega
   have hv5:=v1.set k (.slice (some ⟨wo.heap.size,0,none⟩) n n);have hcs:(wo.setCell ⟨w1.heap.size,k,none⟩ (.slice (some ⟨wo.heap.size,0,none⟩) n n)).cell? ⟨w1.heap.size,k,none⟩=some (.slice (some ⟨wo.heap.size,0,none⟩) n n):=hv5.cell (by rw[getElem?_set_self hkl]);clear v1 v2 v3 v4 hv5;go_wp2_with fail
   go_loopw [9,10,11,37] (fun _ _ _ j wr=>∃q:Nat,q<=n/\j= .int .i64 q/\Hid (Grow w1.heap.size 35 wo wr)/\Hid (VRow wr w1.heap.size 35 (hd.set k (.slice (some ⟨wo.heap.size,0,none⟩) n n)))/\Hid (Cells1 wr wo.heap.size (F k) n q)/\Ext w1 wr) (fun _ _ _ j _=>n-(intOf j).toNat)
   case atStart=>
    refine⟨0,by omega,rfl,Zh ?_,Zh ?_,Zh ?_,?_⟩
    ·exact((Grow.refl _ _ _).setOld (p:=⟨w1.heap.size,k,none⟩) V1.out Zr rfl _).alloc hxr.size _
    ·exact(V1.out.set _ _).ext Zi
    ·have:=Cells1.made (wo.setCell ⟨w1.heap.size,k,none⟩ (.slice (some ⟨wo.heap.size,0,none⟩) n n)) (F k) n;rw[qy,Nat.mul_one]at this;exact this
    ·exact Zi
   case round=>
    obtain⟨q,hq,rfl,HG,HV,HC,hxq⟩:=hrel;have zsP:Ext w wr:=zs4.trans hxq;by_cases zsb:q<n
    ·obtain⟨b2,o2,b3,o3,c2,g3,B3,n3,c3,rfl,e1,e2,e3,hz3,hb2,hb3,-,-⟩:=(h0.ext zsP).entry HA.out (i:=k) (j:=q) (by rw[HL.out];exact hlt) zsb;have zse:=H64.out k q;have HIN:=Zh (fun W(hh:Ext wr W)=>za4 (w:=W) hz3 zse.1 zse.2);rw[HF.out k q]at HIN zse;have hne:w1.heap.size≠wo.heap.size:=by omega
     have HNE:=Zh hne;obtain⟨hf1,hf2⟩:=zse;clear hz3 hne;generalize hFq:F k q=z at*
     have HFQ:=Zh hFq;clear hFq;go_wp2_with (go_at_call 91;refine(HIN.out _ Zi).mono ?_;rintro e w5 ⟨rfl,hs5⟩;have r1:w5.cell? ⟨w1.heap.size,k,none⟩=some (.slice (some ⟨wo.heap.size,0,none⟩) n n):=(HV.out.ext (Zi:Ext wr w5)).cell (by rw[getElem?_set_self hkl]);obtain⟨d1,d2,d3⟩:=(HC.out.ext (Zi:Ext wr w5)).cells zsb)
     refine⟨⟨q+1,by omega,by go_num,Zh ?_,Zh ?_,Zh ?_,?_⟩,by simp[intOf]<;>omega⟩
     ·exact(HG.out.trans (Zi:Ext wr w5) hxr.size).setNew (p:=⟨wo.heap.size,q,none⟩) Zr hxr.size _
     ·exact(HV.out.ext (Zi:Ext wr w5)).far (p:=⟨wo.heap.size,q,none⟩) HNE.out _
     ·have:=(HC.out.ext (Zi:Ext wr w5)).put zsb;rwa [HFQ.out]at this
     ·exact(Zi:Ext w1 w5).setCell (p:=⟨wo.heap.size,q,none⟩) hxr.size _
    ·obtain rfl:q=n:=by omega
     have zte:=HC.out.full;go_wp2_with fail
     refine⟨⟨k+1,by omega,by go_num,Zh ⟨_,HV.out,by rw[List.length_set];exact V2.out,fun i hi=>?_,fun i hi1 hi2=>?_⟩,hxq⟩,by simp[intOf]<;>omega⟩
     ·rcases Zl i k with h|h
      ·obtain⟨B,b1,b2⟩:=V3.out i h;exact⟨B,by rw[getElem?_set_ne (by omega)];exact b1,b2.grow HG.out (by decide)⟩
      ·obtain rfl:i=k:=by omega
       exact⟨_,by rw[getElem?_set_self hkl],zte⟩
     ·rw[getElem?_set_ne (by omega)];exact V4.out i (by omega) hi2
  ·obtain rfl:k=n:=by omega
   go_wp2_with fail
   go_ret2
   obtain⟨hd,v1,v2,v3,v4⟩:=HH.out;rw[<-HT.out];refine⟨_,k,by rw[zw];rfl,⟨hd,by rw[v2,zw],v1.arr,fun i r hr=>?_⟩,by rw[zw];omega,by omega,(zs4.trans hxr).toStep⟩;have hi:i<k:=by
    rcases Zl i k with hi|hi
    ·exact hi
    ·rw[getElem?_eq_none (by rw[zw];exact hi)]at hr;cases hr
   rw[QR _ _ _ _ hi]at hr;injection hr with hr
   subst hr;obtain⟨B,b1,b2⟩:=v3 i hi;exact⟨B,k,by simpa using b1,b2,by simp,by omega⟩
end
section
open Go.RowKit
open La
theorem zhD{k1 k2:Nat}{b:List (List Int)}(h4:n<=16)(hA:∀i j,Bd k1 (ent a i j))(hB:∀i j,Bd k2 (ent b i j))(i j:Nat):Bd (k1+k2+16) (ent (ZO n a b) i j):=by
 by_cases h:i<n/\j<n
 ·unfold ZO;rw[j2 _ _ _ _ _ h.1 h.2];exact Bd.mono (JW (k:=k1+k2) (n:=n) (fun x _=>(hA i x).mul (hB x j)) n Zr) (by omega)
 ·have:ent (ZO n a b) i j=0:=zar _ _ _ _ _ h;rw[this];exact Bd.zero _
theorem znQ(hl:m.length=n)(h8:n<=8)(hp:Pos (zh (ent m)) n)(hj:j<n)(hb1:1<=b)(hb:BdM b m):Bd (256*(b+1)+2) (qW m i j):=by
 rw[zhC hl hp hj];have hbl:Bd (256*(b+1)) (Zt m i j):=zaw (by omega) hb1 hb;have hbm:Bd (256*(b+1)) (zT (zu m) (j+1)):=zcm (zay (by omega) hb1 hb) (by omega);refine Bd.div _ ?_;have h2:Bd (256*(b+1)+1) (2*Zt m i j):=by
  have:=hbl.add hbl;rwa [show Zt m i j+Zt m i j=2*Zt m i j by omega]at this
 exact h2.add (hbm.mono (by omega))
theorem znR{q:Int}(hk:1<=k)(hq:Bd k q):BdM k (qr n i j q):=BdM.tab fun x y _ _=>by
 split
 ·exact hq.neg
 ·split
  ·exact Bd.one hk
  ·exact Bd.zero _
theorem znS{p:Nat}(hk:1<=k):BdM k (qB n p):=BdM.tab fun x y _ _=>by
 split
 ·exact Bd.one hk
 ·exact Bd.zero _
theorem znT(hk:1<=k):BdM k (QZ n):=BdM.tab fun x y _ _=>by
 split
 ·exact Bd.one hk
 ·exact Bd.zero _
theorem Gm.val(g:Gm n a):j3 a:=by
 refine⟨fun i hi j hj=>g.sym i j (by have:=g.len;omega) (by have:=g.len;omega),?_⟩;exact zdD.2 (by rw[g.len];exact g.pos)
theorem Gm.detF(g:Gm n a):detF a<=10000:=by
 rw[zdC (by have:=g.len;have:=g.n1;omega) (fun l hl=>by have:=qN g.pos (k:=l) (by have:=g.len;omega);omega),g.len];exact g.det
def zbq(n:Nat):Nat:=Qk n (jm n) 0 0 0
theorem znU(h:n<=4):zbq n<=192080:=by
 unfold zbq Qk jm;simp only[Nat.sub_zero];have h1:n*n<=16:=by have:=Nat.mul_le_mul h h;omega
 have h2:n*(n+1)<=20:=by have:=Nat.mul_le_mul h (show n+1<=5 by omega);omega
 have h3:3*(200*n*n+1)<=9603:=by rw[Nat.mul_assoc];omega
 have h4:=Nat.mul_le_mul h3 h2;omega
def znV(w:World)(n:Nat)(a:List (List Int))(e:Ending)(w':World):Prop:=∃hh A1 c1 A2 c2,e= .returned (.tuple #[.slice A1 n c1,.slice A2 n c2,.int .i64 0])/\LLLed hh/\hh.length=n/\Rel n a hh/\Mat64 w' A1 hh/\n<=c1/\c1<=9223372036854775807/\Step w w'
theorem znW(h:MatV w0 A a)(g:Gm n a)(h4:n<=4)[hx:Ext w0 w]:
  Cq 31 #[.slice A n c] w (znV w n a):=by
 have h0:=h.ext hx;have hn1:=g.n1;have HV:=Zh (fun W(e:Ext w W)=>zec (w:=W) (c:=c) true ⟨fun _=>g.val,fun _=>rfl⟩ h0 g.len g.n1 g.n8 g.all g.bd (by omega) (by omega));have HSM:=Zh (fun W(e:Ext w W)=>zht (w:=W) (c:=c) h0 g.len g.n1 g.n8 g.all g.bd (by omega) (by omega));rw[show decide (detF a<=10000)=true from decide_eq_true g.detF]at HSM;have HCO:=Zh (fun W(e:Ext w W)=>zhn (w:=W) (c:=c) h0 n n g.len (by omega) g.n1 (by omega) g.all (fun i j=>⟨199,by omega,g.bd i j⟩))
 have HID:=Zh (fun(W:World)=>zhj (w:=W) n hn1 (by omega));have HST:Hid (LS n a a (jm n) 0 0 0):=Zh g.start;have HAL:=Zh g.len;have HIL:Hid ((QZ n).length=n):=Zh (zw _ _ _);have HR0:=Zh (znU h4);clear g;go_enter Tryz.func31,Tryz.ntmps31;go_wp2_with (first
  |(go_at_call 61;refine(HV.out _ Zi).mono ?_;rintro e w1 ⟨v,rfl,hv,-,-,hs1⟩;obtain rfl:v=0:=hv.2 rfl;clear hv)
  |(go_at_call 62;refine(HSM.out _ Zi).mono ?_;rintro e w2 ⟨rfl,hs2⟩)
  |(go_at_call 63;refine(HCO.out _ Zi).mono ?_;rintro e w3 ⟨g3,zvz,c3,rfl,hO3,-,-,hs3⟩;rw[HAL.out];have HM3:=Zh hO3.mat;clear hO3)
  |(go_at_call 64;refine(HID.out _).mono ?_;rintro e w4 ⟨g4,zvD,c4,rfl,hO4,-,-,hs4⟩;rw[HIL.out];have HM4:=Zh hO4.mat;clear hO4))
 go_loopg [6,7,9,10] (zbq n) (fun gk s6 s7 _ _ wr=>∃(hh t:List (List Int)) (s i c Tb:Nat) (Ah At:Option Addr) (ch ct:Nat),s6= .slice Ah n ch/\s7= .slice At n ct/\Hid (MatV wr Ah hh)/\Hid (MatV wr At t)/\Hid (LS n a hh (jm n) s i c)/\Hid (gk=Qk n (jm n) s i c)/\Hid (t.length=n/\AllLen t n/\BdM Tb t)/\Hid (Tb<=(zbq n-gk)*1024600+1)/\gk<=zbq n/\Ext w wr)
 case atStart=>exact⟨a,QZ n,0,0,0,1,_,_,_,_,rfl,rfl,Zh (HM3.out.ext Zi),HM4,HST,Zh rfl,Zh ⟨HIL.out,Qm _ _ _,znT (by omega)⟩,Zh (by omega),Zr,Zi⟩
 case round=>
  obtain⟨hh,t,s,i,c',Tb,Ah,At,ch,ct,rfl,rfl,HH,HT,HLS,HGK,HTB,HTL,zyh,hxr⟩:=hrel;have HSP:=Zh (fun W(e:Ext wr W)=>znO (w:=W) (c:=ch) (b:=4001) HH.out HLS.out.len hn1 (by omega) HLS.out.all HLS.out.bd (by omega) (by omega) HLS.out.ll.j.pos HLS.out.ll.j.sym);go_wp2_with fail
  refine(HSP.out _ Zi).mono ?_;rintro e w5 hst;rcases hst with ⟨rfl,zvK,zvL,hs5⟩|⟨i',j',A5,c5,rfl,hat,hM5,hs5⟩|⟨p',A5,c5,rfl,hat,hM5,hs5⟩
  ·have HLD:=Zh (HLS.out.done zvK zvL);have HTI:=Zh (fun W(e:Ext wr W)=>znP (w:=W) (c:=ch) HH.out HLS.out.len hn1 (by omega) HLS.out.all (fun x y=>by
    by_cases hxy:x<hh.length/\y<hh.length
    ·have:=HLD.out.entry hxy.1 hxy.2;omega
    ·rw[qO HLD.out.all (by omega)];omega))
   have HHL:=Zh HLS.out.len;clear zvK zvL;go_wp2_with (go_at_call 66;refine(HTI.out _ Zi).mono ?_;rintro e w6 ⟨A6,c6,rfl,hM6,zum,zuW,hs6⟩;rw[HHL.out]at zum|-)
   go_ret3
   exact⟨hh,A6,c6,At,ct,rfl,HLD.out,HHL.out,HLS.out.rel,hM6,zum,zuW,Step.of _ _⟩
  ·obtain⟨ztT,hrd⟩:=HLS.out.red hat;have hub:BdM 1024516 (qr n i' j' (qW hh i' j')):=znR (by omega) (by have:=znQ (i:=i') (j:=j') HLS.out.len (by omega) HLS.out.ll.j.pos (by have:=hat.hi;have:=hat.hj;omega) (by omega) HLS.out.bd;exact this.mono (by omega));have hul:(qr n i' j' (qW hh i' j')).length=n:=zw _ _ _;have hua:AllLen (qr n i' j' (qW hh i' j')) n:=Qm _ _ _;generalize qr n i' j' (qW hh i' j')=u at*
   have hgl:=HGK.out;rw[<-hgl]at hrd;have hr0:=HR0.out;have htl:=HTL.out;have HCG:=Zh (fun W(e1:Ext wr W)(e2:Ext w5 W)=>zhm (w:=W) (c:=ch) (d:=c5) (k:=1024516) HH.out hM5 HLS.out.len hul hn1 (by omega) HLS.out.all hua (by omega) (fun x y=>(HLS.out.bd x y).mono (by omega)) hub);have HPR:=Zh (fun W(e1:Ext wr W)(e2:Ext w5 W)=>zcg (w:=W) (c:=ct) (d:=c5) (k:=Tb+1024516) HT.out hM5 HTB.out.1 hul hn1 (by omega) HTB.out.2.1 hua (by omega) (fun x y=>(HTB.out.2.2 x y).mono (by omega)) (fun x y=>(hub x y).mono (by omega)))
   have zq9:Hid ((ZO n t u).length=n/\AllLen (ZO n t u) n/\BdM (Tb+1024516+16) (ZO n t u)):=Zh ⟨zw _ _ _,Qm _ _ _,zhD (by omega) HTB.out.2.2 hub⟩;have hcl:(Z7 n hh u).length=n:=zw _ _ _;have HCL:=Zh hcl;have zrl:=Zh ztT;have HRD:=Zh hrd;clear ztT hub hul hua hM5 hat hcl hgl;go_wp2_with (first
    |(go_at_call 67;refine(HCG.out _ Zi Zi).mono ?_;rintro e w6 ⟨g6,zuj,c6,rfl,hO6,-,-,hs6⟩;rw[HCL.out];have HM6:=Zh hO6.mat;clear hO6)
    |(go_at_call 68;refine(HPR.out _ Zi Zi).mono ?_;rintro e w7 ⟨g7,zxb,c7,rfl,hO7,-,-,hs7⟩;rw[zq9.out.1];have HM7:=Zh hO7.mat;clear hO7))
   go_roundg (Qk n (jm n) s i' (i'-j'))
   case measure=>exact HRD.out
   case rel=>exact⟨Z7 n hh u,ZO n t u,s,i',i'-j',Tb+1024516+16,_,_,_,_,rfl,rfl,Zh (HM6.out.ext Zi),HM7,zrl,Zh rfl,zq9,Zh (by have:=HRD.out;omega),by have:=HRD.out;omega,Zi⟩
  ·obtain⟨ztT,hrd⟩:=HLS.out.swap hat;have hub:BdM 1024516 (qB n p'):=znS (by omega);have hul:(qB n p').length=n:=zw _ _ _;have hua:AllLen (qB n p') n:=Qm _ _ _;generalize qB n p'=u at*
   have hgl:=HGK.out;rw[<-hgl]at hrd;have hr0:=HR0.out;have htl:=HTL.out;have HCG:=Zh (fun W(e1:Ext wr W)(e2:Ext w5 W)=>zhm (w:=W) (c:=ch) (d:=c5) (k:=1024516) HH.out hM5 HLS.out.len hul hn1 (by omega) HLS.out.all hua (by omega) (fun x y=>(HLS.out.bd x y).mono (by omega)) hub);have HPR:=Zh (fun W(e1:Ext wr W)(e2:Ext w5 W)=>zcg (w:=W) (c:=ct) (d:=c5) (k:=Tb+1024516) HT.out hM5 HTB.out.1 hul hn1 (by omega) HTB.out.2.1 hua (by omega) (fun x y=>(HTB.out.2.2 x y).mono (by omega)) (fun x y=>(hub x y).mono (by omega)))
   have zq9:Hid ((ZO n t u).length=n/\AllLen (ZO n t u) n/\BdM (Tb+1024516+16) (ZO n t u)):=Zh ⟨zw _ _ _,Qm _ _ _,zhD (by omega) HTB.out.2.2 hub⟩;have hcl:(Z7 n hh u).length=n:=zw _ _ _;have HCL:=Zh hcl;have zrl:=Zh ztT;have HRD:=Zh hrd;clear ztT hub hul hua hM5 hat hcl hgl;go_wp2_with (first
    |(go_at_call 67;refine(HCG.out _ Zi Zi).mono ?_;rintro e w6 ⟨g6,zuj,c6,rfl,hO6,-,-,hs6⟩;rw[HCL.out];have HM6:=Zh hO6.mat;clear hO6)
    |(go_at_call 68;refine(HPR.out _ Zi Zi).mono ?_;rintro e w7 ⟨g7,zxb,c7,rfl,hO7,-,-,hs7⟩;rw[zq9.out.1];have HM7:=Zh hO7.mat;clear hO7))
   go_roundg (Qk n (jm n) (s+1) 0 0)
   case measure=>exact HRD.out
   case rel=>exact⟨Z7 n hh u,ZO n t u,s+1,0,0,Tb+1024516+16,_,_,_,_,rfl,rfl,Zh (HM6.out.ext Zi),HM7,zrl,Zh rfl,zq9,Zh (by have:=HRD.out;omega),by have:=HRD.out;omega,Zi⟩
end
section
open Go.RowKit
def JY(n:Nat)(b:Nat):Value:= .slice (some ⟨b,0,none⟩) n n
structure P64(w:World)(lo g n zd:Nat)(hs:List Nat)(a:List (List Int)):Prop where
 head:VRow w g 35 (hs.map (JY n)++List.replicate (zd-hs.length) (.slice none 0 0))
 glo:lo<=g
 le:hs.length<=zd
 len:hs.length=a.length
 dist:∀(i j p:Nat),hs[i]? =some p->hs[j]? =some p->i=j
 new:∀b∈hs,lo<=b
 all:AllLen a n
 row:∀(i b:Nat)(r:List Int),hs[i]? =some b->a[i]? =some r->Row w b 2 .i64 r
section
variable {w w':World} {lo g n zd:Nat} {hs:List Nat} {a:List (List Int)}
theorem P64.start(w:World)(lo n zd:Nat)(h:lo<=w.heap.size):P64 (w.alloc (.cells (Zb #[.slice none 0 0] (zd*1)) 35)) lo w.heap.size n zd [] []:=by
 refine⟨?_,h,by simp,rfl,fun i j p hp=>by simp at hp,fun p hp=>by simp at hp,fun r hr=>by simp at hr,fun i p r hp=>by simp at hp⟩;have:=VRow.new w 35 (Zb #[.slice none 0 0] (zd*1));rw[jw,Nat.mul_one]at this;simpa[jw] using this
theorem P64.keep(h:P64 w lo g n zd hs a)(hk:∀b,lo<=b->b<w.heap.size->w'.heap[b]? =w.heap[b]?):P64 w' lo g n zd hs a:=
 ⟨(hk g h.glo h.head.lt).trans h.head,h.glo,h.le,h.len,h.dist,h.new,h.all,fun i b r hp hr=>(hk b (h.new b (Zm hp)) (h.row i b r hp hr).lt).trans (h.row i b r hp hr)⟩
theorem P64.ext(h:P64 w lo g n zd hs a)(hx:Ext w w'):P64 w' lo g n zd hs a:=h.keep fun b _ hb=>hx.below.block b hb
theorem P64.lower{lo':Nat}(h:P64 w lo g n zd hs a)(hl:lo'<=lo):P64 w lo' g n zd hs a:=
 ⟨h.head,Nat.le_trans hl h.glo,h.le,h.len,h.dist,fun b hb=>Nat.le_trans hl (h.new b hb),h.all,h.row⟩
theorem P64.cells(h:P64 w lo g n zd hs a)(hk:hs.length<zd):w.cell? ⟨g,hs.length,none⟩=some (.slice none 0 0)/\w.frozen? ⟨g,hs.length,none⟩=false/\g<w.heap.size:=by
 refine⟨h.head.cell ?_,h.head.frozen _,h.head.lt⟩;rw[getElem?_append_right (by simp),List.length_map,Nat.sub_self,List.getElem?_replicate,if_pos (by omega)]
theorem P64.hdr(h:P64 w lo g n zd hs a)(hi:i<a.length):∃b,hs[i]? =some b/\w.cell? ⟨g,i,none⟩=some (.slice (some ⟨b,0,none⟩) n n)/\w.frozen? ⟨g,i,none⟩=false/\b<w.heap.size/\g<w.heap.size/\lo<=b:=by
 have hi':i<hs.length:=by rw[h.len];exact hi
 obtain⟨b,hp⟩:∃p,hs[i]? =some p:=⟨_,Ze hi'⟩;obtain⟨r,hr⟩:∃r,a[i]? =some r:=⟨_,Ze hi⟩;refine⟨b,hp,h.head.cell ?_,h.head.frozen _,(h.row i b r hp hr).lt,h.head.lt,h.new b (Zm hp)⟩;rw[getElem?_append_left (by simpa using hi')];simp[hp,JY]
theorem P64.entry(h:P64 w lo g n zd hs a)(hp:hs[i]? =some b)(hi:i<a.length)(hj:j<n):w.cell? ⟨b,j,none⟩=some (.int .i64 (ent a i j))/\w.frozen? ⟨b,j,none⟩=false:=by
 obtain⟨r,hr⟩:∃r,a[i]? =some r:=⟨_,Ze hi⟩;have hl:=h.all r (Zm hr);obtain⟨x,hx,hc⟩:=(h.row i b r hp hr).cell (i:=j) (by omega);have he:=zdT hr (j:=j) (by omega);rw[hx]at he;injection he with he
 rw[<-he];exact⟨hc,(h.row i b r hp hr).frozen j⟩
theorem P64.gne(h:P64 w lo g n zd hs a)(hp:hs[i]? =some b)(hi:i<a.length):g≠b:=fun e=>by
 obtain⟨r,hr⟩:∃r,a[i]? =some r:=⟨_,Ze hi⟩;have h2:=h.row i b r hp hr;have h1:=h.head;unfold VRow at h1;unfold Row at h2;rw[e,h2]at h1;injection h1 with h1
 injection h1 with _ h1
 exact absurd h1 (by decide)
theorem P64.set(h:P64 w lo g n zd hs a)(hp:hs[i]? =some b)(hi:i<a.length)(hj:j<n)(z:Int):P64 (w.setCell ⟨b,j,none⟩ (.int .i64 z)) lo g n zd hs (Zf a i j z):=by
 obtain⟨r,hr⟩:∃r,a[i]? =some r:=⟨_,Ze hi⟩;have hl:=h.all r (Zm hr);have hgd:a.getD i []=r:=by simp[List.getD,hr]
 refine⟨h.head.far (p:=⟨b,j,none⟩) (h.gne hp hi) _,h.glo,h.le,by rw[Jn];exact h.len,h.dist,h.new,fun x hx=>?_,fun i' b' r' hp' hr'=>?_⟩
 ·rcases List.mem_or_eq_of_mem_set hx with hx|rfl
  ·exact h.all x hx
  ·rw[hgd,List.length_set,hl]
 ·by_cases e:i'=i
  ·subst e;rw[hp]at hp';injection hp' with hp'
   subst hp';unfold Zf at hr';rw[getElem?_set_self hi,hgd]at hr';injection hr' with hr'
   subst hr';exact(h.row i' b r hp hr).set j z
  ·unfold Zf at hr';rw[getElem?_set_ne (by omega)]at hr';exact(h.row i' b' r' hp' hr').far (p:=⟨b,j,none⟩) (fun e2=>e (h.dist i' i b (by have e3:b'=b:=e2;rw[<-e3];exact hp') hp)) _
theorem P64.put(h:P64 w lo g n zd hs a)(hk:hs.length<zd)(hr:Row w b 2 .i64 r)(hrl:r.length=n)(hb:lo<=b)(hd:b∉hs):
  P64 (w.setCell ⟨g,hs.length,none⟩ (.slice (some ⟨b,0,none⟩) n n)) lo g n zd (hs++[b]) (a++[r]):=by
 have zvM:∀(b':Nat)(r':List Int),Row w b' 2 .i64 r'->Row (w.setCell ⟨g,hs.length,none⟩ (.slice (some ⟨b,0,none⟩) n n)) b' 2 .i64 r':=fun b' r' hr'=>hr'.far (p:=⟨g,hs.length,none⟩) (fun e=>by
  have h1:=h.head;unfold VRow at h1;unfold Row at hr';have e2:b'=g:=e;rw[<-e2,hr']at h1;injection h1 with h1
  injection h1 with _ h1
  exact absurd h1 (by decide)) _
 refine⟨?_,h.glo,by simp;omega,by simp[h.len],?_,?_,?_,?_⟩
 ·have h1:=h.head.set hs.length (.slice (some ⟨b,0,none⟩) n n);have e:(hs.map (JY n)++List.replicate (zd-hs.length) (Value.slice none 0 0)).set hs.length (.slice (some ⟨b,0,none⟩) n n)=(hs++[b]).map (JY n)++List.replicate (zd-(hs++[b]).length) (.slice none 0 0):=by
   obtain⟨t,ht⟩:∃t,zd-hs.length=t+1:=⟨zd-hs.length-1,by omega⟩;have ht2:zd-(hs++[b]).length=t:=by simp;omega
   rw[ht,ht2,List.set_append_right _ _ (by simp)];simp[List.replicate_succ,JY]
  rw[e]at h1;exact h1
 ·intro i j p hp hq;rcases Zl i hs.length with hi|hi
  ·rw[getElem?_append_left hi]at hp;rcases Zl j hs.length with hj|hj
   ·rw[getElem?_append_left hj]at hq;exact h.dist i j p hp hq
   ·rw[getElem?_append_right hj]at hq;have:p=b:=by have:=Zm hq;simpa using this
    subst this;exact absurd (Zm hp) hd
  ·rw[getElem?_append_right hi]at hp;have hi':i=hs.length:=by have:=(Zg.1 hp).1;simp at this;omega
   have:p=b:=by have:=Zm hp;simpa using this
   subst this;rcases Zl j hs.length with hj|hj
   ·rw[getElem?_append_left hj]at hq;exact absurd (Zm hq) hd
   ·rw[getElem?_append_right hj]at hq;have hj':j=hs.length:=by have:=(Zg.1 hq).1;simp at this;omega
    omega
 ·intro p hp;rcases List.mem_append.1 hp with hp|hp
  ·exact h.new p hp
  ·have:p=b:=by simpa using hp
   subst this;exact hb
 ·intro x hx;rcases List.mem_append.1 hx with hx|hx
  ·exact h.all x hx
  ·have:x=r:=by simpa using hx
   subst this;exact hrl
 ·intro i p x hp hx;have hl:=h.len;rcases Zl i hs.length with hi|hi
  ·rw[getElem?_append_left hi]at hp;rw[getElem?_append_left (by omega)]at hx;exact zvM _ _ (h.row i p x hp hx)
  ·rw[getElem?_append_right hi]at hp;rw[getElem?_append_right (by omega)]at hx;have e1:p=b:=by have:=Zm hp;simpa using this
   have e2:x=r:=by have:=Zm hx;simpa using this
   subst e1 e2;exact zvM _ _ hr
theorem P64.old(h:P64 w lo g n zd hs a):∀p∈hs,p<w.heap.size:=fun p hp=>by
 obtain⟨i,hi⟩:=List.getElem?_of_mem hp;obtain⟨r,hr⟩:∃r,a[i]? =some r:=⟨_,Ze (by have:=(Zg.1 hi).1;rw[<-h.len];exact this)⟩;exact(h.row i p r hi hr).lt
theorem P64.mat(h:P64 w lo g n zd hs a)(hl:a.length=zd)(hn:n<=9223372036854775807):Mat64 w (some ⟨g,0,none⟩) a:=by
 have h1:=h.head;have hl2:=h.len;rw[show zd-hs.length=0 by omega]at h1;simp only[List.replicate_zero,List.append_nil]at h1;refine⟨hs.map (JY n),by simp[h.len],h1.arr,fun i r hr=>?_⟩;have hi:i<a.length:=(Zg.1 hr).1;obtain⟨b,hp⟩:∃p,hs[i]? =some p:=⟨_,Ze (by rw[h.len];exact hi)⟩;have hll:=h.all r (Zm hr);exact⟨some ⟨b,0,none⟩,n,by simp[hp,JY,hll],(h.row i b r hp hr).ints,by omega,hn⟩
end
structure Only(T:Nat)(w w':World):Prop where
 below:Below T w w'
 rest:∀b,T<b->b<w.heap.size->w'.heap[b]? =w.heap[b]?
section
variable {T:Nat} {w w' w2 w0:World}
theorem Only.refl(T:Nat)(w:World):Only T w w:=⟨Below.refl _ _,fun _ _ _=>rfl⟩
theorem Only.trans(h:Only T w w')(h':Only T w' w2):Only T w w2:=
 ⟨h.below.trans h'.below,fun b h1 h2=>(h'.rest b h1 (Nat.lt_of_lt_of_le h2 h.below.size)).trans (h.rest b h1 h2)⟩
theorem Only.of_ext(h:Ext w w')(hT:T<=w.heap.size):Only T w w':=⟨h.below.mono hT,fun b _ hb=>h.below.block b hb⟩
theorem Only.set(hT:T<w.heap.size)(i:Nat)(u:Value):Only T w (w.setCell ⟨T,i,none⟩ u):=
 ⟨(Below.refl T w).setCell Zr u,fun b h1 _=>Below.heap_setCell w ⟨T,i,none⟩ u b (by simp;omega)⟩
theorem Only.ext(h:Only T w w')(hx:Ext w0 w)(hT:w0.heap.size<=T):Ext w0 w':=⟨hx.below.trans (h.below.mono hT)⟩
theorem Only.size(h:Only T w w'):w.heap.size<=w'.heap.size:=h.below.size
theorem P64.only{lo g zd:Nat}{hs:List Nat}(h:P64 w lo g n zd hs a)(ho:Only T w w')(hT:T<lo):P64 w' lo g n zd hs a:=h.keep fun b h1 h2=>ho.rest b (by omega) h2
theorem Only.setNew{p:Addr}(h:Only T w w')(hp:w.heap.size<=p.block)(hT:T<w.heap.size)(u:Value):Only T w (w'.setCell p u):=
 ⟨h.below.setCell (by omega) u,fun b h1 h2=>(Below.heap_setCell w' p u b (by omega)).trans (h.rest b h1 h2)⟩
theorem Only.alloc(h:Only T w w')(hT:T<=w.heap.size)(o:Obj):Only T w (w'.alloc o):=h.trans (Only.of_ext Zi (Nat.le_trans hT h.size))
end
def TapeAt(w:World)(T:Nat)(l:List Int)(k:Nat):Prop:=∃(te:TypeId) (A:Option Addr) (c:Nat),w.heap[T]? =some (.cells #[.slice A l.length c,.int .i64 (min k l.length:Nat)] 75 (0,0))/\Ints w A te .i8 l/\(0<l.length->∀a,A=some a->a.block<T)
theorem TapeAt.only(h:TapeAt w T l k)(hk:∀b,b<=T->w'.heap[b]? =w.heap[b]?):TapeAt w' T l k:=by
 obtain⟨te,A,c,h1,h2,h3⟩:=h;refine⟨te,A,c,(hk T Zr).trans h1,fun h0=>?_,h3⟩;obtain⟨b,o,cs,fr,rfl,hb,hc⟩:=h2 h0;exact⟨b,o,cs,fr,rfl,(hk b (Nat.le_of_lt (h3 (by simpa using h0) _ rfl))).trans hb,hc⟩
theorem TapeAt.ext(h:TapeAt w T l k)(hx:Ext w w'):TapeAt w' T l k:=by
 obtain⟨te,A,c,h1,h2,h3⟩:=h;exact⟨te,A,c,zj hx h1,h2.ext hx,h3⟩
theorem TapeAt.lt(h:TapeAt w T l k):T<w.heap.size:=by
 obtain⟨te,A,c,h1,_⟩:=h;exact zF h1
def I8(l:List Int):Prop:=∀x∈l,-128<=x/\x<=127
theorem I8.get(h:I8 l)(k:Nat):-128<=l.getD k 0/\l.getD k 0<=127:=by
 rcases Zl k l.length with hk|hk
 ·have:l.getD k 0=l[k]:=by simp[List.getD,hk]
  rw[this];exact h _ (List.getElem_mem hk)
 ·rw[List.getD_eq_getElem?_getD,getElem?_eq_none hk];simp
def zaC(w:World)(T:Nat)(l:List Int)(k:Nat)(v:Value)(e:Ending)(w':World):Prop:=e= .returned v/\TapeAt w' T l k/\Only T w w'
theorem zhE(h:TapeAt w T l k)(h8:I8 l)(hl:l.length<=9223372036854775807):
  Cq 57 #[.pointer (some ⟨T,0,none⟩)] w (zaC w T l (k+1) (.int .i64 (l.getD k 0))):=by
 have hT:=h.lt;obtain⟨te,A,c,h1,h2,h3⟩:=id h;obtain⟨q1,q2,q3,q4,q5⟩:=zQ h1;by_cases hk:k<l.length
 ·rw[show min k l.length=k by omega]at q2 h1;obtain⟨b,o,x,rfl,hx,hc,hb⟩:=h2.at_ hk;have hbT:=h3 (by omega) _ rfl;simp only at hbT;have hxe:l.getD k 0=x:=by simp[hx]
  have hx8:=h8 x (Zm hx);have HG:=Zh h;have H1:=Zh h1;have H2:=Zh h2;have hge:decide ((l.length:Int)<=(k:Int))=false:=by simp;omega
  have hap:Apart b T:=⟨by omega⟩;rw[hxe];clear h h1 h2 h3 hx hxe;go_enter Tryz.func57,Tryz.ntmps57;go_wp2_with fail
  go_quiet (fail)
  go_wp2_with fail
  go_quiet (fail)
  go_wp2_with fail
  go_ret;rename_i nq1 _
  have hxa:Ext w (w.drewN nq1):=Zi;have hT2:T<(w.drewN nq1).heap.size:=hT;have hb2:((w.drewN nq1).setCell ⟨T,1,none⟩ (.int .i64 ((k:Int)+1))).heap[T]? =some (.cells #[.slice (some ⟨b,o,none⟩) l.length c,.int .i64 ((k:Int)+1)] 75 (0,0)):=za1 (zj hxa H1.out);refine⟨rfl,⟨te,some ⟨b,o,none⟩,c,?_,?_,fun _ a ha=>?_⟩,?_⟩
  ·rw[show ((min (k+1) l.length:Nat):Int)=(k:Int)+1 by omega];exact hb2
  ·have hA1:Ints ((w.drewN nq1).setCell ⟨T,1,none⟩ (.int .i64 ((k:Int)+1))) (some ⟨b,o,none⟩) te .i8 l:=fun h0=>by
    obtain⟨b',o',cs,fr,e1,hb',hc'⟩:=(H2.out.ext hxa) h0;have e2:b=b':=by injection e1 with e1;injection e1
    exact⟨b',o',cs,fr,e1,(Below.heap_setCell _ ⟨T,1,none⟩ _ b' (by simp;omega)).trans hb',hc'⟩
   exact hA1.ext Zi
  ·injection ha with ha
   subst ha;exact hbT
  ·exact((Only.of_ext hxa (Nat.le_of_lt hT)).trans (Only.set hT2 1 (.int .i64 ((k:Int)+1)))).trans (Only.of_ext Zi (by rw[qy];exact Nat.le_of_lt hT2))
 ·rw[show min k l.length=l.length by omega]at q2 h1;have hxe:l.getD k 0=0:=by rw[List.getD_eq_getElem?_getD,getElem?_eq_none (by omega)];rfl
  have hge:decide ((l.length:Int)<=(l.length:Int))=true:=by simp
  have HH:Hid (∀W,Ext w W->TapeAt W T l (k+1)):=Zh (fun W hh=>by
   obtain⟨te',A',c',a1,a2,a3⟩:=h.ext hh;exact⟨te',A',c',by rw[show min (k+1) l.length=min k l.length by omega];exact a1,a2,a3⟩)
  rw[hxe];clear h h1 h2 h3 hxe hk;go_enter Tryz.func57,Tryz.ntmps57;go_wp2_with fail
  go_quiet (fail)
  go_wp2_with fail
  go_ret;exact⟨rfl,HH.out _ Zi,Only.of_ext Zi (Nat.le_of_lt hT)⟩
theorem zhF{m:Nat}(h:TapeAt w T l k)(h8:I8 l)(hl:l.length<=9223372036854775807)(hm:1<=m)(hm2:m<=1000):
  Cq 28 #[.pointer (some ⟨T,0,none⟩),.int .i64 m] w (zaC w T l (k+1) (.int .i64 (l.getD k 0%256%m))):=by
 have HN:=Zh (zhE h h8 hl);have hx8:=h8.get k;clear h;generalize l.getD k 0=x at*
 have hu:IntKind.u8.wrap x=x%256:=by simp only[IntKind.wrap_u8]
 have hu2:IntKind.i64.wrap (x%256)=x%256:=Iw;have hx0:0<=x%256:=by omega
 have hx1:x%256<256:=by omega
 have hmz:((m:Int)==0)=false:=by simp;omega
 have hrm:(x%256).tmod m=x%256%m:=Int.tmod_eq_emod_of_nonneg hx0;go_enter Tryz.func28,Tryz.ntmps28;go_wp2_with (go_at_call 57;refine HN.out.mono ?_;rintro e w1 ⟨rfl,hT1,hO1⟩)
 go_ret;exact⟨by simp,hT1,hO1⟩
def qC(l:List Int)(k n most:Nat):List (List Int):=tab (fun i j=>if i=j then 1+l.getD (k+i) 0%256%most else 0) n n
def zco(w:World)(T:Nat)(l:List Int)(k n:Nat)(a:List (List Int))(e:Ending)(w':World):Prop:=∃g hs,e= .returned (.slice (some ⟨g,0,none⟩) n n)/\P64 w' w.heap.size g n n hs a/\a.length=n/\TapeAt w' T l k/\Only T w w'
theorem znX(hi:i<n):(List.replicate n (0:Int)).set i (1+l.getD (k+i) 0%256%most)=(List.range n).map fun j=>if i=j then 1+l.getD (k+i) 0%256%most else 0:=by
 apply List.ext_getElem?;intro j;by_cases e:i=j
 ·subst e;rw[getElem?_set_self (by simpa using hi)];simp[hi]
 ·rw[getElem?_set_ne e];rcases Zl j n with hj|hj
  ·simp[hj,e]
  ·rw[getElem?_eq_none (by simpa using hj),getElem?_eq_none (by simpa using hj)]
theorem znY(F:Nat->Nat->Int)(r c i:Nat)(hi:i<r):(tab F r c).take (i+1)=(tab F r c).take i++[(List.range c).map fun j=>F i j]:=by
 rw[List.take_succ_eq_append_getElem (by rw[zw];exact hi)];congr 2
 have:=QR F r c i hi;rw[Ze (by rw[zw];exact hi)]at this;injection this
theorem znZ :Zf (a++[r]) a.length j z=a++[r.set j z]:=by
 unfold Zf;simp[List.getD]
set_option maxRecDepth 10000 in
theorem zhG(h:TapeAt w T l k)(h8:I8 l)(hl:l.length<=9223372036854775807)(hn:n<=1000)(hm:1<=most)(hm2:most<=1000):
  Cq 72 #[.pointer (some ⟨T,0,none⟩),.int .i64 n,.int .i64 most] w (zco w T l (k+n) n (qC l k n most)):=by
 have hmk:=qf (P:=Tryz.prog) Tryz.underlying25 Qc (by omega) (n:Int) (by omega) (by omega);have ztd:=ja (P:=Tryz.prog) Tryz.underlying35 Qb (by omega) (n:Int) (by omega) (by omega);have hT:=h.lt;have HB:Hid (∀(W:World)(q:Nat),TapeAt W T l q->Cq 28 #[.pointer (some ⟨T,0,none⟩),.int .i64 most] W (zaC W T l (q+1) (.int .i64 (l.getD q 0%256%most)))):=Zh (fun W q hq=>zhF hq h8 hl hm hm2);have HTP:=Zh h
 have HRB:Hid (∀q,0<=l.getD q 0%256%(most:Int)/\l.getD q 0%256%(most:Int)<1000):=Zh (fun q=>⟨Int.emod_nonneg _ (by omega),by have:=Int.emod_lt_of_pos (l.getD q 0%256) (show (0:Int)<most by omega);omega⟩);clear h h8;go_enter Tryz.func72,Tryz.ntmps72;go_wp2_with fail
 go_loopw [8,13] (fun _ i wr=>∃(q:Nat) (hs:List Nat),q<=n/\i= .int .i64 q/\Hid (hs.length=q)/\Hid (P64 wr w.heap.size w.heap.size n n hs ((qC l k n most).take q))/\Hid (TapeAt wr T l (k+q))/\Hid (Only T w wr)) (fun _ i _=>n-(intOf i).toNat)
 case atStart=>exact⟨0,[],by omega,rfl,Zh rfl,Zh (by simpa[Value.cells] using P64.start w w.heap.size n n Zr),Zh (HTP.out.ext Zi),Zh (Only.of_ext Zi (Nat.le_of_lt hT))⟩
 case round=>
  obtain⟨q,hs,hq,rfl,HL,HP,HTA,HON⟩:=hrel;have ztU:=HON.out.size;by_cases hlt:q<n
  ·have hc:=HP.out.cells (by rw[HL.out];exact hlt);rw[HL.out]at hc;obtain⟨c1,c2,c3⟩:=hc;have ztl:=HP.out.old;have hP1:=(HP.out.ext (Zi:Ext wr (wr.alloc (.cells (qS n .i64) 2)))).put (by rw[HL.out];exact hlt) (Row.made wr n .i64 2) (by simp) ztU (fun hb=>by have:=ztl _ hb;omega);rw[HL.out]at hP1;have ztm:=World.setCell_alloc_past (w:=wr) (.cells (qS n .i64) 2) w.heap.size q (.slice (some ⟨wr.heap.size,0,none⟩) n n) c3
   rw[ztm]at hP1;obtain⟨w2,hw2⟩:=Xz ((wr.setCell ⟨w.heap.size,q,none⟩ (.slice (some ⟨wr.heap.size,0,none⟩) n n)).alloc (.cells (qS n .i64) 2));rw[<-hw2]at hP1;have hdl:((qC l k n most).take q).length=q:=by rw[List.length_take];have:(qC l k n most).length=n:=zw _ _ _;omega
   have HP1:=Zh hP1;have hO2:Only T w w2:=by rw[hw2,<-ztm];exact(HON.out.alloc (Nat.le_of_lt hT) _).setNew (p:=⟨w.heap.size,q,none⟩) Zr hT _
   have hT2:TapeAt w2 T l (k+q):=by
    refine HTA.out.only fun b hb=>?_
    rw[hw2,<-ztm,Below.heap_setCell _ ⟨w.heap.size,q,none⟩ _ b (by simp;omega),Below.heap_alloc _ _ b (by omega)]
   have hTlt:T<w2.heap.size:=hT2.lt;have zxc:wr.heap.size<w2.heap.size:=by rw[hw2];simp[World.setCell]
   have hpl:(hs++[wr.heap.size])[q]? =some wr.heap.size:=by rw[getElem?_append_right (by rw[HL.out];exact Zr),HL.out,Nat.sub_self];rfl
   have hal:((qC l k n most).take q++[List.replicate n 0]).length=q+1:=by simp[hdl]
   have hTlo:T<w.heap.size:=hT;have HX:Hid (∀W,Only T w2 W->W.cell? ⟨w.heap.size,q,none⟩=some (.slice (some ⟨wr.heap.size,0,none⟩) n n)):=Zh (fun W hW=>by
    obtain⟨b,e1,e2,-⟩:=(HP1.out.only hW hTlo).hdr (i:=q) (by rw[hal];omega);rw[hpl]at e1;injection e1 with e1
    subst e1;exact e2)
   have HX2:Hid (∀W,Only T w2 W->∀(u:Value),(W.setCell ⟨wr.heap.size,q,none⟩ u).cell? ⟨w.heap.size,q,none⟩=some (.slice (some ⟨wr.heap.size,0,none⟩) n n)):=Zh (fun W hW u=>by
    rw[World.cell?_setCell_other _ _ _ _ (by intro e;injection e with e1 e2;omega)];exact HX.out W hW)
   have HE:Hid (∀W,Only T w2 W->W.cell? ⟨wr.heap.size,q,none⟩=some (.int .i64 0)/\W.frozen? ⟨wr.heap.size,q,none⟩=false/\wr.heap.size<W.heap.size):=Zh (fun W hW=>by
    obtain⟨e1,e2⟩:=(HP1.out.only hW hTlo).entry (i:=q) (j:=q) hpl (by rw[hal];omega) hlt;have:ent ((qC l k n most).take q++[List.replicate n 0]) q q=0:=by
     unfold ent;rw[List.getD_eq_getElem?_getD (l:=(qC l k n most).take q++[List.replicate n 0]),getElem?_append_right (by omega),hdl,Nat.sub_self];simp[List.getD,hlt]
    rw[this]at e1;exact⟨e1,e2,Nat.lt_of_lt_of_le zxc hW.size⟩)
   have zrP:=Zh hT2;have HPL:=Zh hpl;have HAL:=Zh hal;have HO2:=Zh hO2;have HDL:=Zh hdl;obtain⟨hr0,hr1⟩:=HRB.out (k+q);have HBQ:=Zh (fun W(hW:TapeAt W T l (k+q))=>HB.out W (k+q) hW);have HRW:=Zh (znX (l:=l) (k:=k) (most:=most) hlt);have HTK:Hid ((qC l k n most).take (q+1)=(qC l k n most).take q++[(List.range n).map fun j=>if q=j then 1+l.getD (k+q) 0%256%(most:Int) else 0]):=Zh (znY _ n n q hlt)
   generalize l.getD (k+q) 0%256%(most:Int)=z at*
   have hzw:IntKind.i64.wrap (1+z)=1+z:=Iw;clear hP1 hT2 hpl hal hO2 hdl;go_wp2_with fail
   rw[<-hw2];clear hw2 ztm c1 c2;go_region_held3 (fun w'=>w'.cell? ⟨w.heap.size,q,none⟩=some (.slice (some ⟨wr.heap.size,0,none⟩) n n))
    (first|exact HX.out _ (Only.of_ext Zi (Nat.le_of_lt hTlt))|exact HX.out _ hOx|exact HX2.out _ hOx _)
    ((go_at_call 28;refine(HBQ.out _ (zrP.out.ext Zi)).mono ?_;rintro e w5 ⟨rfl,hT5,hO5⟩;have hOx:Only T w2 w5:=(Only.of_ext Zi (Nat.le_of_lt hTlt)).trans hO5;obtain⟨d1,d2,d3⟩:=HE.out w5 hOx))
   go_wp2_with fail
   refine⟨⟨q+1,hs++[wr.heap.size],by omega,by go_num,Zh (by simp[HL.out]),Zh ?_,Zh ?_,Zh ?_⟩,by simp[intOf]<;>omega⟩
   ·have h5:=(HP1.out.only hOx hTlo).set HPL.out (by rw[HAL.out];omega) hlt (1+z);have e5:Zf ((qC l k n most).take q++[List.replicate n 0]) q q (1+z)=(qC l k n most).take (q+1):=by
     have e:=znZ (a:=(qC l k n most).take q) (r:=List.replicate n 0) (j:=q) (z:=1+z);rw[HDL.out,HRW.out,<-HTK.out]at e;exact e
    rw[e5]at h5;exact h5
   ·refine hT5.only fun b hb=>Below.heap_setCell _ ⟨wr.heap.size,q,none⟩ _ b (by simp;omega)
   ·exact(HO2.out.trans hOx).setNew (p:=⟨wr.heap.size,q,none⟩) (by simpa using ztU) hT _
  ·obtain rfl:q=n:=by omega
   go_wp2_with fail
   go_ret;have h1:=HP.out;have hdl:(qC l k q most).length=q:=zw _ _ _;rw[List.take_of_length_le (by omega)]at h1;exact⟨w.heap.size,hs,rfl,h1,hdl,HTA.out,HON.out⟩
def Qi:Nat->Nat
 |0=>0
 |i+1=>Qi i+i
theorem zhH(x:Int):-2<=x.tmod 3/\x.tmod 3<=2:=by
 rcases Int.le_total 0 x with h|h
 ·rw[Int.tmod_eq_emod_of_nonneg h];omega
 ·have h2:x=-(-x):=by omega
  rw[h2,Int.neg_tmod,Int.tmod_eq_emod_of_nonneg (by omega)];omega
def Jq(l:List Int)(k n i j:Nat):Int:=(l.getD (k+n+Qi i+j) 0).tmod 3
def Qj(l:List Int)(k n i q:Nat):Nat->Nat->Int:=fun x y=>if x=y then 1+l.getD (k+x) 0%256%6 else if max x y<i∨(max x y=i/\min x y<q) then Jq l k n (max x y) (min x y) else 0
def zee(l:List Int)(k n:Nat):List (List Int):=tab (Qj l k n n 0) n n
theorem zn0(l:List Int)(k n:Nat):tab (Qj l k n 0 0) n n=qC l k n 6:=Z8 fun x y _ _=>by
 unfold Qj;by_cases h:x=y
 ·rw[if_pos h,if_pos h];rfl
 ·rw[if_neg h,if_neg h,if_neg (by omega)]
theorem zn1(l:List Int)(k n i:Nat):tab (Qj l k n i i) n n=tab (Qj l k n (i+1) 0) n n:=Z8 fun x y _ _=>by
 unfold Qj;by_cases h:x=y
 ·rw[if_pos h,if_pos h]
 ·rw[if_neg h,if_neg h];by_cases h2:max x y<i∨(max x y=i/\min x y<i)
  ·rw[if_pos h2,if_pos (by omega)]
  ·rw[if_neg h2,if_neg (by omega)]
theorem zn2{q:Nat}(hi:i<n)(hq:q<i):Zf (Zf (tab (Qj l k n i q) n n) i q (Jq l k n i q)) q i (Jq l k n i q)=tab (Qj l k n i (q+1)) n n:=by
 rw[jn hi (by omega),jn (by omega) hi];refine Z8 fun x y _ _=>?_
 unfold Qj;by_cases h1:x=q/\y=i
 ·rw[if_pos h1];obtain⟨rfl,rfl⟩:=h1;rw[if_neg (by omega),if_pos (by omega),show max x y=y by omega,show min x y=x by omega]
 ·rw[if_neg h1];by_cases h2:x=i/\y=q
  ·rw[if_pos h2];obtain⟨rfl,rfl⟩:=h2;rw[if_neg (by omega),if_pos (by omega),show max x y=x by omega,show min x y=y by omega]
  ·rw[if_neg h2];by_cases h3:x=y
   ·rw[if_pos h3,if_pos h3]
   ·rw[if_neg h3,if_neg h3];by_cases h4:max x y<i∨(max x y=i/\min x y<q)
    ·rw[if_pos h4,if_pos (by omega)]
    ·rw[if_neg h4,if_neg (by omega)]
theorem zn3(hn:AllLen m n)(hi:i<m.length):(m.getD i []).length=n:=by
 have e:m.getD i []=m[i]:=by simp[List.getD,hi]
 rw[e];exact hn _ (List.getElem_mem hi)
theorem zn4(ha:AllLen a n)(hi:i<a.length)(hj:j<n):ent (Zf a i j z) i j=z:=by
 rw[zg3 hi (by rw[zn3 ha hi];exact hj),if_pos ⟨rfl,rfl⟩]
set_option maxRecDepth 10000 in
theorem zn5(h:TapeAt w T l k)(h8:I8 l)(hl:l.length<=9223372036854775807)(hn:n<=1000):
  Cq 70 #[.pointer (some ⟨T,0,none⟩),.int .i64 n] w (zco w T l (k+n+Qi n) n (zee l k n)):=by
 have hT:=h.lt;have HD:=Zh (fun(W:World)(hW:TapeAt W T l k)=>zhG (w:=W) (n:=n) (most:=6) hW h8 hl hn (by omega) (by omega));have HNX:=Zh (fun(W:World)(q:Nat)(hW:TapeAt W T l q)=>zhE hW h8 hl);have HTP:=Zh h;have H8:=Zh h8;clear h h8;go_enter Tryz.func70,Tryz.ntmps70;go_wp2_with (go_at_call 72;refine(HD.out _ HTP.out).mono ?_;rintro e w1 ⟨g,hs,rfl,hP1,hL1,hT1,hO1⟩)
 have HP1:=Zh hP1;have HT1:=Zh hT1;have HO1:=Zh hO1;clear hP1 hT1 hO1 hL1;go_loopw [6,7,13] (fun _ _ s13 wr=>∃i:Nat,i<=n/\s13= .int .i64 i/\Hid (P64 wr w.heap.size g n n hs (tab (Qj l k n i 0) n n))/\Hid (TapeAt wr T l (k+n+Qi i))/\Hid (Only T w wr)) (fun _ _ s13 _=>n-(intOf s13).toNat)
 case atStart=>exact⟨0,by omega,rfl,Zh (by rw[zn0];exact HP1.out),HT1,HO1⟩
 case round=>
  obtain⟨i,hi,rfl,HP,HTA,HON⟩:=hrel;by_cases hlt:i<n
  ·go_wp2_with fail
   go_loopw [7] (fun s7 wr=>∃q:Nat,q<=i/\s7= .int .i64 q/\Hid (P64 wr w.heap.size g n n hs (tab (Qj l k n i q) n n))/\Hid (TapeAt wr T l (k+n+Qi i+q))/\Hid (Only T w wr)) (fun s7 _=>i-(intOf s7).toNat)
   case atStart=>exact⟨0,by omega,rfl,HP,HTA,HON⟩
   case round=>
    obtain⟨q,hq,rfl,HP2,zrm,zrs⟩:=hrel;by_cases zsb:q<i
    ·have hqn:q<n:=by omega
     have hML:(tab (Qj l k n i q) n n).length=n:=zw _ _ _;have hAL:AllLen (tab (Qj l k n i q) n n) n:=Qm _ _ _;obtain⟨bi,hpi,c1,c2,c3,c4,c5⟩:=HP2.out.hdr (i:=i) (by rw[hML];exact hlt);obtain⟨bq,hpq,d1,d2,d3,d4,d5⟩:=HP2.out.hdr (i:=q) (by rw[hML];exact hqn);have hne:bi≠bq:=fun e=>by
      rw[<-e]at hpq;have:=HP2.out.dist i q bi hpi hpq;omega
     have hgi:=HP2.out.gne hpi (by rw[hML];exact hlt);have hgq:=HP2.out.gne hpq (by rw[hML];exact hqn);have hTr:T<wr.heap.size:=zrm.out.lt;have HX:Hid (∀W,Only T wr W->W.cell? ⟨g,i,none⟩=some (.slice (some ⟨bi,0,none⟩) n n)):=Zh (fun W hW=>by
      obtain⟨b,e1,e2,-⟩:=(HP2.out.only hW hT).hdr (i:=i) (by rw[hML];exact hlt);rw[hpi]at e1;injection e1 with e1
      subst e1;exact e2)
     have HX2:Hid (∀W,Only T wr W->∀(u:Value),(W.setCell ⟨bi,q,none⟩ u).cell? ⟨g,i,none⟩=some (.slice (some ⟨bi,0,none⟩) n n)):=Zh (fun W hW u=>by
      rw[World.cell?_setCell_other _ _ _ _ (by intro e;injection e with e1 e2;omega)];exact HX.out W hW)
     have HE:Hid (∀W,Only T wr W->(∃v,W.cell? ⟨bi,q,none⟩=some (.int .i64 v))/\W.frozen? ⟨bi,q,none⟩=false/\bi<W.heap.size):=Zh (fun W hW=>by
      obtain⟨e1,e2⟩:=(HP2.out.only hW hT).entry (i:=i) (j:=q) hpi (by rw[hML];exact hlt) hqn;exact⟨⟨_,e1⟩,e2,Nat.lt_of_lt_of_le c3 hW.size⟩)
     have HNQ:=Zh (fun W(hW:TapeAt W T l (k+n+Qi i+q))=>HNX.out W _ hW);have hv8:=H8.out.get (k+n+Qi i+q);have HGS:=Zh (zn2 (l:=l) (k:=k) hlt zsb);have HPI:=Zh hpi;have HPQ:=Zh hpq;have hgv:(l.getD (k+n+Qi i+q) 0).tmod 3=Jq l k n i q:=rfl;have hvb:-2<=Jq l k n i q/\Jq l k n i q<=2:=by
      rw[<-hgv];exact zhH _
     obtain⟨zyi,zyj⟩:=hvb;generalize hG:Jq l k n i q=v at*
     generalize l.getD (k+n+Qi i+q) 0=y at*
     have hvw:IntKind.i64.wrap v=v:=Iw;clear hpi hpq c1 c2 d1 d2 hG;go_wp2_with fail
     go_cut [] (fun wx=>∃w5:World,wx=w5.setCell ⟨bi,q,none⟩ (.int .i64 v)/\Hid (TapeAt w5 T l (k+n+Qi i+q+1))/\Hid (Only T wr w5))
     case first=>
      go_region_held3 (fun w'=>w'.cell? ⟨g,i,none⟩=some (.slice (some ⟨bi,0,none⟩) n n))
       (first|exact HX.out _ (Only.of_ext Zi (Nat.le_of_lt hTr))|exact HX.out _ hOx|exact HX2.out _ hOx _)
       ((go_at_call 57;refine(HNQ.out _ (zrm.out.ext Zi)).mono ?_;rintro e w5 ⟨rfl,hT5,hO5⟩;have hOx:Only T wr w5:=(Only.of_ext Zi (Nat.le_of_lt hTr)).trans hO5;obtain⟨⟨v5,e1⟩,e2,e3⟩:=HE.out w5 hOx))
      go_wp2_with fail
      go_meet
      exact⟨w5,rfl,Zh hT5,Zh hOx⟩
     case rest=>
      obtain⟨w5,hw5,HT5,HO5⟩:=hcut;have hP5:=(HP2.out.only HO5.out hT).set HPI.out (by rw[hML];exact hlt) hqn v;have hML5:(Zf (tab (Qj l k n i q) n n) i q v).length=n:=by rw[Jn];exact hML
      rw[<-hw5]at hP5;obtain⟨b',e1,f1,f2,f3,f4,-⟩:=hP5.hdr (i:=i) (by rw[hML5];exact hlt);rw[HPI.out]at e1;injection e1 with e1
      subst e1;obtain⟨b'',e1,g1,g2,g3,g4,-⟩:=hP5.hdr (i:=q) (by rw[hML5];exact hqn);rw[HPQ.out]at e1;injection e1 with e1
      subst e1;obtain⟨h1e,h1f⟩:=hP5.entry (i:=i) (j:=q) HPI.out (by rw[hML5];exact hlt) hqn;rw[zn4 hAL (by rw[hML];exact hlt) hqn]at h1e;obtain⟨h2e,h2f⟩:=hP5.entry (i:=q) (j:=i) HPQ.out (by rw[hML5];exact hqn) hlt;generalize ent (Zf (tab (Qj l k n i q) n n) i q v) q i=v2 at h2e;have hP6:=hP5.set HPQ.out (by rw[hML5];exact hqn) hlt v;rw[HGS.out]at hP6;have HP6:=Zh hP6;have HW5:=Zh hw5;have hTc:T<wc.heap.size:=by rw[hw5,qy];exact HT5.out.lt
      have hbiT:T<bi:=by omega
      have hTcA:TapeAt wc T l (k+n+Qi i+q+1):=by rw[hw5];exact HT5.out.only fun b hb=>Below.heap_setCell _ ⟨bi,q,none⟩ _ b (by simp;omega)
      have hOc:Only T w wc:=by rw[hw5];exact(zrs.out.trans HO5.out).setNew (p:=⟨bi,q,none⟩) (by simpa using c5) hT _
      have HTC:=Zh hTcA;have HOC:=Zh hOc;clear hP5 hP6 hw5 hTcA hOc;go_wp2_with fail
      go_region
      all_goals
       go_wp2_with fail
       refine⟨⟨q+1,by omega,by go_num,Zh (HP6.out.ext Zi),Zh ?_,Zh ?_⟩,by simp[intOf]<;>omega⟩
       ·refine TapeAt.ext (TapeAt.only HTC.out fun b hb=>Below.heap_setCell wc ⟨bq,i,none⟩ (.int .i64 v) b (by simp;omega)) Zi
       ·exact(HOC.out.setNew (p:=⟨bq,i,none⟩) (by simpa using d5) hT (.int .i64 v)).trans (Only.of_ext Zi (by rw[qy];omega))
    ·obtain rfl:q=i:=by omega
     go_wp2_with fail
     exact⟨⟨q+1,by omega,by go_num,Zh (by rw[<-zn1];exact HP2.out),Zh (by have:=zrm.out;rwa [show k+n+Qi q+q=k+n+Qi (q+1) by simp[Qi];omega]at this),zrs⟩,by simp[intOf]<;>omega⟩
  ·obtain rfl:i=n:=by omega
   go_wp2_with fail
   go_ret;exact⟨g,hs,rfl,HP.out,zw _ _ _,HTA.out,HON.out⟩
def jN(fork:Bool)(n i:Nat):Nat:=if fork=true/\i=n-1/\3<n then i-2 else i-1
def qD(fork:Bool)(n i:Nat):Nat->Nat->Int:=fun x y=>if x=y then 2 else if max x y<i/\min x y=jN fork n (max x y) then-1 else 0
def Q6(fork:Bool)(n:Nat):List (List Int):=tab (qD fork n n) n n
theorem zhI(hi:0<i):jN fork n i<i:=by
 unfold jN;split<;>omega
theorem zn6(F:Nat->Nat->Int)(r c:Nat):tab F (r+1) c=tab F r c++[(List.range c).map fun j=>F r j]:=by
 unfold tab;rw[List.range_succ,List.map_append];rfl
theorem zn7 :Zf (tab (qD fork n 0) 0 n++[List.replicate n 0]) 0 0 2=tab (qD fork n 1) 1 n:=by
 have e:tab (qD fork n 0) 0 n++[List.replicate n 0]=tab (fun _ _=>(0:Int)) 1 n:=by
  rw[zhg];rfl
 rcases Nat.eq_zero_or_pos n with h|h
 ·subst h;rfl
 ·rw[e,jn (by omega) h];refine Z8 fun x y hx _=>?_
  unfold qD;by_cases h1:x=y
  ·rw[if_pos h1,if_pos (by omega)]
  ·rw[if_neg h1,if_neg (by omega),if_neg (by omega)]
theorem zn8(hi:0<i)(hn:i<n):Zf (Zf (Zf (tab (qD fork n i) i n++[List.replicate n 0]) i i 2) i (jN fork n i) (-1)) (jN fork n i) i (-1)=tab (qD fork n (i+1)) (i+1) n:=by
 have hp:=zhI (fork:=fork) (n:=n) hi;generalize hP:jN fork n i=p at*
 have e:tab (qD fork n i) i n++[List.replicate n 0]=tab (fun x y=>if x<i then qD fork n i x y else 0) (i+1) n:=by
  rw[zn6];congr 1
  ·refine Z8 fun x y hx _=>?_
   rw[if_pos hx]
  ·congr 1
   apply List.ext_getElem?;intro j;rcases Zl j n with hj|hj
   ·simp[hj]
   ·rw[getElem?_eq_none (by simpa using hj),getElem?_eq_none (by simpa using hj)]
 rw[e,jn (by omega) hn,jn (by omega) (by omega),jn (by omega) hn];refine Z8 fun x y hx hy=>?_
 unfold qD;by_cases h1:x=p/\y=i
 ·rw[if_pos h1,if_neg (by omega),if_pos ⟨by omega,by rw[show max x y=i by omega,hP];omega⟩]
 ·rw[if_neg h1];by_cases h2:x=i/\y=p
  ·rw[if_pos h2,if_neg (by omega),if_pos ⟨by omega,by rw[show max x y=i by omega,hP];omega⟩]
  ·rw[if_neg h2];by_cases h3:x=i/\y=i
   ·rw[if_pos h3,if_pos (by omega)]
   ·rw[if_neg h3];by_cases h4:x<i
    ·rw[if_pos h4];by_cases h5:x=y
     ·rw[if_pos h5,if_pos h5]
     ·rw[if_neg h5,if_neg h5];by_cases h6:max x y<i/\min x y=jN fork n (max x y)
      ·rw[if_pos h6,if_pos ⟨by omega,h6.2⟩]
      ·rw[if_neg h6,if_neg];intro h7;by_cases h8:max x y<i
       ·exact h6 ⟨h8,h7.2⟩
       ·have:max x y=i:=by omega
        rw[this,hP]at h7;omega
    ·rw[if_neg h4,if_neg (by omega),if_neg];intro h7;by_cases h8:y<=i
     ·have:max x y=i:=by omega
      rw[this,hP]at h7;omega
     ·omega
def zhJ(w:World)(n:Nat)(a:List (List Int))(e:Ending)(w':World):Prop:=∃g hs,e= .returned (.slice (some ⟨g,0,none⟩) n n)/\P64 w' w.heap.size g n n hs a/\a.length=n/\Ext w w'
set_option maxRecDepth 10000 in
theorem zn9(fork:Bool)(hn:n<=1000):
  Cq 71 #[.int .i64 n,.bool fork] w (zhJ w n (Q6 fork n)):=by
 have hmk:=qf (P:=Tryz.prog) Tryz.underlying25 Qc (by omega) (n:Int) (by omega) (by omega);have ztd:=ja (P:=Tryz.prog) Tryz.underlying35 Qb (by omega) (n:Int) (by omega) (by omega);go_enter Tryz.func71,Tryz.ntmps71;go_wp2_with fail
 go_loopg [6,7,12] n (fun gk _ _ i wr=>∃(q:Nat) (hs:List Nat),q<=n/\gk=n-q/\i= .int .i64 q/\Hid (hs.length=q)/\Hid (P64 wr w.heap.size w.heap.size n n hs (tab (qD fork n q) q n))/\Ext w wr)
 case atStart=>exact⟨0,[],by omega,by omega,rfl,Zh rfl,Zh (by simpa[Value.cells,tab] using P64.start w w.heap.size n n Zr),Zi⟩
 case round=>
  obtain⟨q,hs,hq,rfl,rfl,HL,HP,hxr⟩:=hrel;have ztU:=hxr.size;by_cases hlt:q<n
  ·have hc:=HP.out.cells (by rw[HL.out];exact hlt);rw[HL.out]at hc;obtain⟨c1,c2,c3⟩:=hc;have ztl:=HP.out.old;have hP1:=(HP.out.ext (Zi:Ext wr (wr.alloc (.cells (qS n .i64) 2)))).put (by rw[HL.out];exact hlt) (Row.made wr n .i64 2) (by simp) ztU (fun hb=>by have:=ztl _ hb;omega);rw[HL.out]at hP1;have ztm:=World.setCell_alloc_past (w:=wr) (.cells (qS n .i64) 2) w.heap.size q (.slice (some ⟨wr.heap.size,0,none⟩) n n) c3
   rw[ztm]at hP1;obtain⟨w2,hw2⟩:=Xz ((wr.setCell ⟨w.heap.size,q,none⟩ (.slice (some ⟨wr.heap.size,0,none⟩) n n)).alloc (.cells (qS n .i64) 2));rw[<-hw2]at hP1;have zsQ:Ext w w2:=by rw[hw2];exact Zi
   have hpl:(hs++[wr.heap.size])[q]? =some wr.heap.size:=by rw[getElem?_append_right (by rw[HL.out];exact Zr),HL.out,Nat.sub_self];rfl
   have hal:(tab (qD fork n q) q n++[List.replicate n 0]).length=q+1:=by simp[zw]
   obtain⟨b',e1,h1,h2,h3,h4,-⟩:=hP1.hdr (i:=q) (by rw[hal];omega);rw[hpl]at e1;injection e1 with e1
   subst e1;obtain⟨k1,k2⟩:=hP1.entry (i:=q) (j:=q) hpl (by rw[hal];omega) hlt;have hP2:=hP1.set hpl (by rw[hal];omega) hlt 2;generalize ent (tab (qD fork n q) q n++[List.replicate n 0]) q q=v0 at k1;have HP2:=Zh hP2;have HPL:=Zh hpl;have HAL:=Zh hal;clear hP1 hP2 hpl hal;go_upto_region 6 with fail
   rw[<-hw2];have hnb:New wr.heap.size w:=⟨ztU⟩;have zst:Ext w (w2.setCell ⟨wr.heap.size,q,none⟩ (.int .i64 2)):=Zi;obtain⟨w3,hw3⟩:=Xz (w2.setCell ⟨wr.heap.size,q,none⟩ (.int .i64 2));rw[<-hw3]at HP2 zst;clear hw2 ztm c1 c2;by_cases hq0:q=0
   ·subst hq0;have hC:(fork=true/\(0:Nat)=n-1/\3<n)->False:=by omega
    have HZ:Hid (P64 w3 w.heap.size w.heap.size n n (hs++[wr.heap.size]) (tab (qD fork n 1) 1 n)):=Zh (by rw[<-zn7];exact HP2.out);have hd1:decide ((3:Int)<(n:Int))=false∨((0:Int)==(n:Int)-1)=false:=by
     by_cases h:3<n
     ·exact .inr (by simp;omega)
     ·exact .inl (by simp;omega)
    have hnw:IntKind.i64.wrap ((n:Int)-1)=(n:Int)-1:=Iw;have zsM:∀(F:Prop),F->F:=fun _ h=>h
    cases fork
    ·go_wp2_with fail
     all_goals (go_roundg (n-1)
                case measure=>omega
                case rel=>exact⟨1,hs++[wr.heap.size],by omega,by omega,by first|rfl|(congr 1;omega),Zh (by simp[HL.out]),by rw[<-hw3];exact HZ,by rw[<-hw3];exact zst⟩)
    ·rcases hd1 with hd1|hd1
     ·go_wp2_with fail
      all_goals (go_roundg (n-1)
                 case measure=>omega
                 case rel=>exact⟨1,hs++[wr.heap.size],by omega,by omega,by first|rfl|(congr 1;omega),Zh (by simp[HL.out]),by rw[<-hw3];exact HZ,by rw[<-hw3];exact zst⟩)
     ·go_wp2_with fail
      all_goals (go_roundg (n-1)
                 case measure=>omega
                 case rel=>exact⟨1,hs++[wr.heap.size],by omega,by omega,by first|rfl|(congr 1;omega),Zh (by simp[HL.out]),by rw[<-hw3];exact HZ,by rw[<-hw3];exact zst⟩)
   ·have hq1:0<q:=by omega
    have hpp:=zhI (fork:=fork) (n:=n) hq1;have HCS:=Zh (zn8 (fork:=fork) (n:=n) hq1 hlt);obtain⟨p,hp⟩:=Yz (jN fork n q);rw[hp]at HCS hpp;have hpn:p<n:=by omega
    have hsl:(Zf (tab (qD fork n q) q n++[List.replicate n 0]) q q 2).length=q+1:=by rw[Jn];exact HAL.out
    obtain⟨b1,e1,f1,f2,f3,f4,f5⟩:=HP2.out.hdr (i:=q) (by rw[hsl];omega);rw[HPL.out]at e1;injection e1 with e1
    subst e1;obtain⟨bp,hbp,g1,g2,g3,g4,g5⟩:=HP2.out.hdr (i:=p) (by rw[hsl];omega);obtain⟨m1,m2⟩:=HP2.out.entry (i:=q) (j:=p) HPL.out (by rw[hsl];omega) hpn;obtain⟨m3,m4⟩:=HP2.out.entry (i:=p) (j:=q) hbp (by rw[hsl];omega) hlt;have hne:wr.heap.size≠bp:=fun e=>by
     rw[<-e]at hbp;have:=HP2.out.dist q p wr.heap.size HPL.out hbp;omega
    have hP4:=(HP2.out.set HPL.out (by rw[hsl];omega) hpn (-1)).set hbp (by rw[Jn,hsl];omega) hlt (-1);rw[HCS.out]at hP4;have HP4:=Zh hP4;generalize ent (Zf (tab (qD fork n q) q n++[List.replicate n 0]) q q 2) q p=v1 at m1;generalize ent (Zf (tab (qD fork n q) q n++[List.replicate n 0]) q q 2) p q=v2 at m3;have hnp:New bp w:=⟨g5⟩;have hnw:IntKind.i64.wrap ((n:Int)-1)=(n:Int)-1:=Iw
    have zyk:(0:Int)<q:=by omega
    have ap1:Apart wr.heap.size bp:=⟨hne⟩;have ap2:Apart bp wr.heap.size:=⟨fun e=>hne e.symm⟩;clear hP4;by_cases hC:fork=true/\q=n-1/\3<n
    ·have hpe:p+2=q:=by rw[<-hp];unfold jN;rw[if_pos hC];omega
     obtain⟨rfl,hc1,hc2⟩:=hC;have hk1:((q:Int)==(n:Int)-1)=true:=by simp;omega
     have hk2:decide ((3:Int)<(n:Int))=true:=by simp;omega
     have hqp:(q:Int)-2=(p:Int):=by omega
     have hqw:IntKind.i64.wrap ((q:Int)-2)=(p:Int):=by rw[hqp];exact Iw
     clear hpe hc1 hp hq0 HCS;go_upto_region 7 with fail
     rw[<-hw3];clear hw3;go_wp2_with fail
     all_goals
      go_region
      all_goals
       go_wp2_with fail
       go_roundg (n-(q+1))
       case measure=>omega
       case rel=>exact⟨q+1,hs++[wr.heap.size],by omega,by omega,by go_num,Zh (by simp[HL.out]),Zh (HP4.out.ext Zi),Zi⟩
    ·have hpe:p+1=q:=by rw[<-hp];unfold jN;rw[if_neg hC];omega
     have hqp:(q:Int)-1=(p:Int):=by omega
     have hqw:IntKind.i64.wrap ((q:Int)-1)=(p:Int):=by rw[hqp];exact Iw
     cases fork
     ·clear hpe hp hq0 HCS hC;go_upto_region 7 with fail
      rw[<-hw3];clear hw3;go_wp2_with fail
      all_goals
       go_region
       all_goals
        go_wp2_with fail
        go_roundg (n-(q+1))
        case measure=>omega
        case rel=>exact⟨q+1,hs++[wr.heap.size],by omega,by omega,by go_num,Zh (by simp[HL.out]),Zh (HP4.out.ext Zi),Zi⟩
     ·have hC2:¬(q=n-1/\3<n):=fun h=>hC ⟨rfl,h⟩
      have hd1:((q:Int)==(n:Int)-1)=false∨decide ((3:Int)<(n:Int))=false:=by
       by_cases h:3<n
       ·exact .inl (by simp;omega)
       ·exact .inr (by simp;omega)
      clear hpe hp hq0 HCS hC hC2;rcases hd1 with hd1|hd1
      ·skip
       go_upto_region 7 with fail
       rw[<-hw3];clear hw3;go_wp2_with fail
       all_goals
        go_region
        all_goals
         go_wp2_with fail
         go_roundg (n-(q+1))
         case measure=>omega
         case rel=>exact⟨q+1,hs++[wr.heap.size],by omega,by omega,by go_num,Zh (by simp[HL.out]),Zh (HP4.out.ext Zi),Zi⟩
      ·by_cases hqn:q=n-1
       ·have hk1:((q:Int)==(n:Int)-1)=true:=by simp;omega
        clear hqn;go_upto_region 7 with fail
        rw[<-hw3];clear hw3;go_wp2_with fail
        all_goals
         go_region
         all_goals
          go_wp2_with fail
          go_roundg (n-(q+1))
          case measure=>omega
          case rel=>exact⟨q+1,hs++[wr.heap.size],by omega,by omega,by go_num,Zh (by simp[HL.out]),Zh (HP4.out.ext Zi),Zi⟩
       ·have hk1:((q:Int)==(n:Int)-1)=false:=by simp;omega
        clear hqn;go_upto_region 7 with fail
        rw[<-hw3];clear hw3;go_wp2_with fail
        all_goals
         go_region
         all_goals
          go_wp2_with fail
          go_roundg (n-(q+1))
          case measure=>omega
          case rel=>exact⟨q+1,hs++[wr.heap.size],by omega,by omega,by go_num,Zh (by simp[HL.out]),Zh (HP4.out.ext Zi),Zi⟩
  ·obtain rfl:q=n:=by omega
   go_wp2_with fail
   go_ret;exact⟨w.heap.size,hs,rfl,HP.out,zw _ _ _,hxr⟩
end
end Go.Proofs.YtpcgfpmiphiacaaGreat
