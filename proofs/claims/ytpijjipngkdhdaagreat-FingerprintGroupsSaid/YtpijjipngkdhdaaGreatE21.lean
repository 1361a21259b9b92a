import Derived.Test.YtpijjipngkdhdaaGreatE20
import Derived.Test.YtpijjipngkdhdaaGreatE18
import Derived.Maps.RangeWalk
import Derived.Maps.OwnOps
import Derived.DeepKeys4
import Derived.WideKeyEntry
set_option maxHeartbeats 8000000
set_option linter.unusedVariables false
set_option linter.unusedSimpArgs false
namespace Go.Proofs.YtpijjipngkdhdaaGreat
open List (mem_map mem_cons mem_cons_of_mem length_cons mem_append count_eq_zero mem_singleton pairwise_cons)
variable {budget za:Int} {L m:List (List Int)} {cs:List Int} {a b c cnt e n r:Nat} {A:Option Addr} {w w' w0:World}
section
open Go.RowKit
open La
theorem Only.oth{T:TypeId}{g:Nat}{cs:Array Value}{fr:Nat×Nat}(h:Only g w w')(hg:w.heap[g]? =some (.cells cs T fr)):Oth T w w':=fun b cs' e fr' hn hb=>by
 rcases Nat.lt_trichotomy b g with hlt|rfl|hgt
 ·exact(h.below.block b hlt).trans hb
 ·rw[hg]at hb;injection hb with hb
  injection hb with _ he
  exact absurd he.symm hn
 ·exact(h.rest b hgt (zw hb)).trans hb
def zah(w:World)(m:List (List Int))(za:Int)(budget:Int)(k:Nat)(t cs:List Int)(g:Nat)(e:Ending)(w':World):Prop:=∃(ok:Bool) (cs':List Int),e= .returned (.bool ok)/\Only g w w'/\Row w' g 3 .i64 cs'/\cs'.length=cs.length/\(ok=true->cs'=Zk cs (ZR m za k t)/\cs.sum+zC (ZR m za k t)<=budget)/\(ok=false->budget<cs.sum+zC (ZR m za k t))
theorem zbS(h:∀x∈cs,0<=x)(i:Nat):0<=cs.getD i 0/\cs.getD i 0<=cs.sum:=by
 induction cs generalizing i with
 |nil=>simp
 |cons a cs ih=>
  have ha:=h a (by simp);have hc:=fun i=>ih (fun x hx=>h x (by simp[hx])) i
  have h0:0<=cs.sum:=by have:=hc 0;omega
  cases i with
  |zero=>simp only[List.getD_cons_zero,List.sum_cons];omega
  |succ i=>have:=hc i;simp only[List.getD_cons_succ,List.sum_cons];omega
theorem zhg{ys:List (Int×Int)}(h:∀x∈cs,0<=x)(hy:∀p∈ys,0<=p.2):∀x∈Zk cs ys,0<=x:=fun x hx=>by
 unfold Zk at hx;rw[mem_map]at hx;obtain⟨i,-,rfl⟩:=hx;have:=(zbS h i).1;have:=zf5 hy i;omega
theorem znM(h:∀x∈cs,0<=x)(k:Nat):0<=(cs.take k).sum/\(cs.take k).sum<=cs.sum:=by
 have h1:=zbS (cs:=cs.take k) (fun x hx=>h x (List.mem_of_mem_take hx)) 0;have h2:=zbS (cs:=cs.drop k) (fun x hx=>h x (List.mem_of_mem_drop hx)) 0;have e:cs.sum=(cs.take k).sum+(cs.drop k).sum:=by rw[<-List.sum_append,List.take_append_drop]
 omega
set_option maxRecDepth 20000 in
theorem znN(hL:LLLed m)(h1:m.length=n)(hb:0<=za)(hb1:za<1073741824)(hu0:0<=budget)(hu1:budget<=1000000)(k:Nat):
  ∀(w:World)(SB DB TA:Option Addr)(sc dc tc q g:Nat)(t cs:List Int),n=k+q+1->FrV w m SB DB->Ints w TA 2 .i64 t->t.length=q->(∀a∈t,-9223372036854775808<=a/\a<=9223372036854775807)->0<=left (ent m) za (k+1) t->Row w g 3 .i64 cs->cs.length=n->(∀x∈cs,0<=x)->cs.sum<=budget->
  Cq 159 #[.agg #[.int .i64 n,.slice SB n sc,.slice DB (n+1) dc],.int .i64 za,.slice TA q tc,.slice (some ⟨g,0,none⟩) n n,.int .i64 budget] w (zah w m za budget k t cs g):=by
 induction k using Nat.strongRecOn with
 |ind k ih=>
  intro w SB DB TA sc dc tc q g t cs hq hF hT htl htb h0 hR hcl hc0 hcs;have IH:=Zh ih;clear ih;have hr:=qT hL.red;have hn8:=hL.len8;have hkm:k<m.length:=by omega
  have htm:t.length=m.length-1-k:=by omega
  obtain⟨v1,v2,v3,v4,v5,v6⟩:=znc hr hb hb1 hkm htm h0;have HIV:Hid (∀W,Ext w W->Cq 163 #[.agg #[.int .i64 n,.slice SB n sc,.slice DB (n+1) dc],.int .i64 za,.slice TA q tc] W (zz W (.tuple #[.int .i64 (zX m za k t),.int .i64 (Zb m za k t)]))):=Zh (fun W e=>
   znt hF hL h1 hq hT htl htb (by omega) (by omega) h0 (by omega) (by omega) (by omega) (by omega))
  have hys:=znd hr hkm za t htm;have hok:=zdC hr hb hb1 hkm htm h0;rw[h1]at hys;unfold zah;have hgs:g<w.heap.size:=hR.lt;have hq8:q<cs.length:=by omega
  have hgd:=zbS hc0 q;obtain⟨y0,hy0,zqB⟩:=hR.cell (i:=q) hq8;have hyd:cs.getD q 0=y0:=by simp[List.getD,hy0]
  rw[hyd]at hgd;have zrb:=zm9 (cs:=cs) (i:=q) (z:=Zb m za k t-zX m za k t+1) hq8;rw[hyd]at zrb;have hnk:(n:Int)-(k:Nat)=(q:Int)+1:=by omega
  rw[hnk]at hys;have zsQ:∀p∈[((q:Int)+1,Zb m za k t-zX m za k t+1)],0<=p.2/\1<=p.1/\p.1<=(cs.length:Int):=fun p hp=>by
   have:=hok p (by rw[hys];exact mem_cons.2 (.inl (by simpa using hp)));omega
  have zrT:=zgW (cs:=cs) (ys:=[((q:Int)+1,Zb m za k t-zX m za k t+1)]) (fun p hp=>(zsQ p hp).2);rw[zrb]at zrT;simp only[zC,Int.add_zero]at zrT;have hn1:∀x∈cs.set q (y0+(Zb m za k t-zX m za k t+1)),0<=x:=by
   rw[<-zrb];exact zhg hc0 (fun p hp=>(zsQ p hp).1)
  have zq7:∀p∈JB m za k t,0<=p.2/\1<=p.1/\p.1<=(m.length:Int):=fun p hp=>hok p (by rw[hys];exact mem_cons_of_mem _ hp)
  have hrt:=zgX (fun p hp=>(zq7 p hp).1);have zrx:zC (ZR m za k t)=(Zb m za k t-zX m za k t+1)+zC (JB m za k t):=by rw[hys];rfl
  have ztH:Zk cs (ZR m za k t)=Zk (cs.set q (y0+(Zb m za k t-zX m za k t+1))) (JB m za k t):=by rw[<-zrb,zgV,hys];rfl
  have ztI:Zb m za k t-zX m za k t+1=0->JB m za k t=[]/\cs.set q (y0+(Zb m za k t-zX m za k t+1))=cs:=fun e=>by
   refine⟨?_,?_⟩
   ·cases k with
    |zero=>rfl
    |succ k=>show ZA m za k t (QW m za (k+1) t)=[];rw[show QW m za (k+1) t=0 by unfold QW;omega];rfl
   ·rw[e,Int.add_zero];obtain⟨h5,h6⟩:=Zg.1 hy0;rw[<-h6,List.set_getElem_self]
  rw[zrx,ztH];have HZR:=Zh ztI;have HN1:=Zh hn1;have HFV:=Zh hF;have HTV:=Zh hT;have HTB:=Zh htb;have H0:=Zh h0;have HH1:=Zh h1;have HTL:=Zh htl;have HQ:=Zh hq;have HRW:=Zh hR;have hfr:=hR.frozen q;clear hok hys zrb zsQ zq7 zrx ztH ztI hn1 hy0 hyd hF hT htb h0 hR htm hr hc0;obtain⟨rest,hrs⟩:=Xz (JB m za k t);have HRS:=Zh hrs;rw[<-hrs]at hrt HZR|-
  clear hrs;obtain⟨lo,hlo⟩:=Xz (zX m za k t);obtain⟨hi,hhi⟩:=Xz (Zb m za k t);have HLO:=Zh (And.intro hlo hhi);rw[<-hlo]at v1 v2 v3 v4 zrT HZR HN1 HIV|-
  rw[<-hhi]at v1 v2 v5 v6 zrT HZR HN1 HIV|-
  have hqn:q<n:=by omega
  have hn9:n<=8:=by omega
  clear hlo hhi h1 hkm hq hnk htl;obtain⟨cs1,zsi⟩:=Xz (cs.set q (y0+(hi-lo+1)));have zwb:cs1.length=n:=by rw[zsi,List.length_set];exact hcl
  have zpA:=Zh zsi;rw[<-zsi]at zrT HZR HN1|-
  clear zsi;have ogw:Old g w:=⟨hgs⟩;go_enter Tryz.func159,Tryz.ntmps159;by_cases zqh:hi<lo
  ·have HH:=Zh (HZR.out (by omega));have HX0:=Zh HRW.out;go_wp2_with (go_at_call 163;refine(HIV.out _ Zi).mono ?_;rintro e w1 ⟨rfl,hs1⟩)
   go_ret;refine⟨true,cs,rfl,Only.of_ext Zi (Nat.le_of_lt hgs),HX0.out.ext Zi,rfl,fun _=>⟨?_,?_⟩,fun h=>by cases h⟩
   ·rw[HH.out.1,HH.out.2,zdB]
   ·rw[HH.out.1];simp only[zC];omega
  ·by_cases zso:budget<=hi-lo
   ·have HX0:=Zh HRW.out;have HCL:=Zh (show budget<cs.sum+(hi-lo+1+zC rest) by have:=hgd;omega);have hbb:decide (budget<=hi-lo)=true:=by simpa using zso
    go_wp2_with (go_at_call 163;refine(HIV.out _ Zi).mono ?_;rintro e w1 ⟨rfl,hs1⟩)
    go_ret;exact⟨false,cs,rfl,Only.of_ext Zi (Nat.le_of_lt hgs),HX0.out.ext Zi,rfl,(fun h=>by cases h),fun _=>HCL.out⟩
   ·have hw1:IntKind.i64.wrap (y0+(hi-lo+1))=y0+(hi-lo+1):=by rw[IntKind.wrap_i64];omega
    go_upto_region 7 with (go_at_call 163;refine(HIV.out _ Zi).mono ?_;rintro e w1 ⟨rfl,hs1⟩)
    have hc1:w1.cell? ⟨g,q,none⟩=some (.int .i64 y0):=(zg w).trans zqB;have hf1:w1.frozen? ⟨g,q,none⟩=false:=(ZU w).trans hfr;have hg1:g<w1.heap.size:=Nat.lt_of_lt_of_le hgs (Zi:Ext w w1).size;have hR1:Row (w1.setCell ⟨g,q,none⟩ (.int .i64 (y0+(hi-lo+1)))) g 3 .i64 cs1:=by
     rw[zpA.out];exact(HRW.out.ext (Zi:Ext w w1)).set q _
    have hO1:Only g w (w1.setCell ⟨g,q,none⟩ (.int .i64 (y0+(hi-lo+1)))):=(Only.of_ext (Zi:Ext w w1) (Nat.le_of_lt hgs)).trans (Only.set hg1 q _);have hfb:w1.heap[w.heap.size]? =some (.cells #[.int .i64 n,.slice SB n sc,.slice DB (n+1) dc] 128 (0,0)):=zh (Zi:Ext (w.alloc (.cells #[.int .i64 n,.slice SB n sc,.slice DB (n+1) dc] 128)) w1) (heap_alloc_new w _);have ztJ:(w1.setCell ⟨g,q,none⟩ (.int .i64 (y0+(hi-lo+1)))).heap[w.heap.size]? =some (.cells #[.int .i64 n,.slice SB n sc,.slice DB (n+1) dc] 128 (0,0)):=(Below.heap_setCell w1 ⟨g,q,none⟩ _ w.heap.size (by simp;omega)).trans hfb
    have HFB:=Zh ztJ;have HR1:=Zh hR1;have HO1:=Zh hO1;clear hfb ztJ hR1 hO1;go_upto_region 8 with fail
    have hgl:g<w.heap.size:=hgs;generalize w1.setCell ⟨g,q,none⟩ (.int .i64 (y0+(hi-lo+1)))=ws at*
    have ztK:g<ws.heap.size:=HR1.out.lt;have hws:w.heap.size<ws.heap.size:=zw HFB.out;have HSB:Hid (∀j,0<=(cs1.take j).sum/\(cs1.take j).sum<=cs1.sum):=Zh (fun j=>znM HN1.out j);have hc2:cs1.sum<=2000001:=by omega
    have HOT:=Zh (HO1.out.oth HRW.out);clear zqB hfr hc1 hf1 hs1 hw1 HRW zpA;go_wp2_with fail
    go_loopw [14,47] (fun s14 i wr=>∃j:Nat,j<=n/\i= .int .i64 j/\s14= .int .i64 (cs1.take j).sum/\Ext ws wr) (fun _ i _=>n-(intOf i).toNat)
    case atStart=>exact⟨0,by omega,rfl,by simp,Zi⟩
    case round=>
     obtain⟨j,hj,rfl,rfl,hxr⟩:=hrel;by_cases hlt:j<n
     ·obtain⟨y,hy,hcy⟩:=(HR1.out.ext hxr).cell (i:=j) (by omega);have hsb:=HSB.out j;have zu8:=HSB.out (j+1);have hts:=zcK cs1 j y hy;rw[hts]at zu8;have HT:=Zh hts;have hw2:IntKind.i64.wrap ((cs1.take j).sum+y)=(cs1.take j).sum+y:=by rw[IntKind.wrap_i64];omega
      clear hts hy;go_wp2_with fail
      exact⟨⟨j+1,by omega,by go_num,by rw[HT.out],Zi⟩,by simp[intOf]<;>omega⟩
     ·obtain rfl:j=n:=by omega
      have htk:(cs1.take j).sum=cs1.sum:=by rw[List.take_of_length_le (by omega)]
      rw[htk];obtain⟨wt,hwt⟩:∃wt:World,wt=wr:=⟨_,rfl⟩;by_cases hov:budget<cs1.sum
      ·have zu9:decide (budget<cs1.sum)=true:=by simpa using hov
       go_wp2_with fail
       go_ret;exact⟨false,cs1,rfl,(HO1.out.trans (Only.of_ext (Zi:Ext ws wr) (Nat.le_of_lt ztK))),HR1.out.ext Zi,by omega,(fun h=>by cases h),fun _=>by omega⟩
      ·have zu9:decide (budget<cs1.sum)=false:=by simpa using hov
       obtain⟨wL,rfl⟩:∃wL:World,wL=wr:=⟨_,rfl⟩;clear hwt htk;have HRL:=Zh (HR1.out.ext hxr);have HOL:=Zh (HO1.out.trans (Only.of_ext hxr (Nat.le_of_lt ztK)));have HFL:=Zh (zh hxr HFB.out);have zpY:=Zh (HOT.out.trans (Oth.of_ext hxr));have hgL:g<wL.heap.size:=HRL.out.lt;have hwL:w.heap.size<wL.heap.size:=zw HFL.out;have HFW:Hid (∀W,Only g wL W->W.heap[w.heap.size]? =some (.cells #[.int .i64 j,.slice SB j sc,.slice DB (j+1) dc] 128 (0,0))):=Zh (fun W h=>(h.rest w.heap.size hgl hwL).trans HFL.out)
       clear hlt hj
       cases k with
       |zero=>
        have hb0:decide ((q:Int)+1<(j:Int))=false:=by have:=HQ.out;simp;omega
        obtain⟨⟨f0,-,-⟩,-,-⟩:=zag (HFW.out wL (Only.refl _ _));have hre:rest=[]:=HRS.out;go_wp2_with fail
        go_loopw [17] (fun x wr=>x= .int .i64 lo/\Ext wL wr) (fun _ _=>0)
        case atStart=>exact⟨rfl,Zi⟩
        case round=>
         obtain⟨rfl,hxq⟩:=hrel;have oW:Old w.heap.size wL:=⟨hwL⟩;have f1:wr.cell? ⟨w.heap.size,0,none⟩=some (.int .i64 j):=(zg wL).trans f0;go_wp2_with fail
         go_ret;refine⟨true,cs1,rfl,HOL.out.trans (Only.of_ext hxq (Nat.le_of_lt hgL)),HRL.out.ext hxq,by omega,fun _=>⟨?_,?_⟩,fun h=>by cases h⟩
         ·rw[hre,zdB]
         ·rw[hre];simp only[zC];omega
       |succ k=>
        have hr:=qT hL.red;have hq0:=HQ.out;have hmj:=HH1.out;have htq:=HTL.out;have hkm:k+1<m.length:=by omega
        have htm:t.length=m.length-1-(k+1):=by omega
        obtain⟨hlo,hhi⟩:=HLO.out;obtain⟨J,hJ⟩:=Xz (QW m za (k+1) t);have hJ2:J=(hi-lo+1).toNat:=by rw[hJ,hlo,hhi];rfl
        have hre:rest=ZA m za k t J:=by rw[hJ];exact HRS.out
        have HK1:Hid (∀i,i<J->0<=left (ent m) za (k+1) ((lo+(i:Int))::t)):=Zh (fun i hi'=>by
         rw[hlo];exact J2 hr t hkm htm H0.out (j:=i) (by rw[hJ]at hi';exact hi'))
        have HK2:Hid (∀i,i<=J->(Zk cs1 (ZA m za k t i)).sum=cs1.sum+zC (ZA m za k t i)/\(∀x∈Zk cs1 (ZA m za k t i),0<=x)/\zC (ZA m za k t i)<=zC rest):=Zh (fun i hi'=>by
         have hk:=zna hr hb hb1 hkm htm H0.out (q:=i) (by omega);refine⟨zgW (fun p hp=>by have:=hk p hp;omega),zhg HN1.out (fun p hp=>(hk p hp).1),?_⟩;rw[hre];exact znb hr hb hb1 hkm htm H0.out hi' (by omega))
        have HK4:Hid (∀i:Nat,Zk (Zk cs1 (ZA m za k t i)) (ZR m za k ((lo+(i:Int))::t))=Zk cs1 (ZA m za k t (i+1))/\zC (ZA m za k t (i+1))=zC (ZA m za k t i)+zC (ZR m za k ((lo+(i:Int))::t))):=Zh (fun i=>by
         rw[zgV,zgT,<-hlo,zc7];exact⟨rfl,rfl⟩)
        have HRE:=Zh hre;have zpZ:Hid (∀i,i<J->∀a∈(lo+(i:Int))::t,-9223372036854775808<=a/\a<=9223372036854775807):=Zh (fun i hi' a ha=>by
         rcases mem_cons.1 ha with rfl|ha
         ·omega
         ·exact HTB.out a ha)
        have hq1:q+1<j:=by omega
        have hJn:0<J:=by omega
        have hhl:hi-lo+1=(J:Int):=by omega
        have HIH:=Zh (IH.out k (by omega));clear hre hr hq0 hmj htq hkm htm hlo hhi hJ hJ2 IH;go_wp2_with fail
        go_loopw [17] (fun x wr=>∃i:Nat,i<=J/\x= .int .i64 (lo+(i:Int))/\Hid (Row wr g 3 .i64 (Zk cs1 (ZA m za k t i)))/\Hid (Only g wL wr)/\Hid (cs1.sum+zC (ZA m za k t i)<=budget)) (fun x _=>(hi-intOf x+1).toNat)
        case atStart=>exact⟨0,by omega,by simp,Zh (by show Row wL g _ _ (Zk cs1 []);rw[zdB];exact HRL.out),Zh (Only.refl _ _),Zh (by show cs1.sum+0<=budget;omega)⟩
        case round=>
         obtain⟨i,hi',rfl,HRI,HOI,HBI⟩:=hrel;have hfr:=HFW.out wr HOI.out;obtain⟨⟨f0,f1,f2⟩,-,f3⟩:=zag hfr;have oW:Old w.heap.size wr:=⟨f3⟩;by_cases hlt:i<J
         ·have hgr:g<wr.heap.size:=HRI.out.lt;have hOT:Oth 3 w wr:=zpY.out.trans (HOI.out.oth HRL.out);have hF:=HFV.out.oth hOT (by decide) (by decide) (by decide) (by decide);have hT:=HTV.out.oth hOT (by decide);obtain⟨k1,k2,k3⟩:=HK2.out i (by omega);obtain⟨k4,k5⟩:=HK4.out i;have k6:=(HK2.out (i+1) (by omega)).2.2;have HK6:=Zh (show cs1.sum+zC (ZA m za k t i)+zC (ZR m za k ((lo+(i:Int))::t))<=cs1.sum+zC rest by omega)
          have hle:lo+(i:Int)<=hi:=by omega
          have HLG:Hid (∀W,Ext wr W->Cq 164 #[.int .i64 (lo+(i:Int)),.slice TA q tc] W (fun e w'=>∃A c,e= .returned (.slice A (q+1) c)/\Ints w' A 2 .i64 ((lo+(i:Int))::t)/\Step W w')):=Zh (fun W e=>by
           have:=znh (w:=W) (c:=tc) (lo+(i:Int)) hT (by rw[HTL.out];omega);rw[HTL.out]at this;refine this.mono ?_;rintro e w' ⟨A,c,rfl,a1,-,-,a4⟩;exact⟨A,c,by rw[length_cons,HTL.out],a1,a4⟩)
          have HCN:Hid (∀(W:World)(A:Option Addr)(c:Nat),Ints W A 2 .i64 ((lo+(i:Int))::t)->Ext wr W->Cq 159 #[.agg #[.int .i64 j,.slice SB j sc,.slice DB (j+1) dc],.int .i64 za,.slice A (q+1) c,.slice (some ⟨g,0,none⟩) j j,.int .i64 budget] W (zah W m za budget k ((lo+(i:Int))::t) (Zk cs1 (ZA m za k t i)) g)):=Zh (fun W A c hI e=>
           HIH.out W SB DB A sc dc c (q+1) g _ _ (by have:=HQ.out;omega) (hF.ext e) hI (by rw[length_cons,HTL.out]) (zpZ.out i hlt) (HK1.out i hlt) (HRI.out.ext e) (by rw[zbO];omega) k2 (by have:=HBI.out;omega))
          have HEX:Hid (∀W,Ext wr W->W.cell? ⟨w.heap.size,0,none⟩=some (.int .i64 j)/\W.cell? ⟨w.heap.size,1,none⟩=some (.slice SB j sc)/\W.cell? ⟨w.heap.size,2,none⟩=some (.slice DB (j+1) dc)):=Zh (fun W e=>(zag (zh e hfr)).1);have HEO:Hid (∀W,Only g wr W->W.cell? ⟨w.heap.size,0,none⟩=some (.int .i64 j)/\W.cell? ⟨w.heap.size,1,none⟩=some (.slice SB j sc)/\W.cell? ⟨w.heap.size,2,none⟩=some (.slice DB (j+1) dc)):=Zh (fun W e=>(zag (HFW.out W (HOI.out.trans e))).1)
          unfold zah at HCN;obtain⟨t2,ht2⟩:∃t2,t2=(lo+(i:Int))::t:=⟨_,rfl⟩;rw[<-ht2]at HLG HCN HK6 k4 k5;rw[k1]at HCN;have zpB:=Zh (And.intro k4 k5);clear hF hT hOT k1 k2 k3 k4 k5 k6 ht2 hfr;generalize ZR m za k t2=yT at*
          go_wp2_with fail
          go_region_held3 (fun w'=>w'.cell? ⟨w.heap.size,0,none⟩=some (.int .i64 j)/\w'.cell? ⟨w.heap.size,1,none⟩=some (.slice SB j sc)/\w'.cell? ⟨w.heap.size,2,none⟩=some (.slice DB (j+1) dc))
           (first|exact HEX.out _ Zi|exact HEO.out _ hOx)
           (first
            |(go_at_call 164;refine(HLG.out _ Zi).mono ?_;rintro e w5 ⟨A5,c5,rfl,hI5,hs5⟩)
            |(go_at_call 159;refine(HCN.out _ _ _ hI5 Zi).mono ?_;rintro e w6 ⟨ok,cs2,rfl,hO6,hR6,hl6,ht6,hf6⟩;have hOx:Only g wr w6:=(Only.of_ext (Zi:Ext wr w5) (Nat.le_of_lt hgr)).trans hO6))
          have ztL:g<w6.heap.size:=hR6.lt;have HR6:=Zh hR6;have HT6:=Zh ht6;have HF6:=Zh hf6;have HO6:=Zh hOx;have HXW:=Zh (HOL.out.trans (HOI.out.trans hOx));have hal:=zbO cs1 (ZA m za k t i);have hl7:cs2.length=cs.length:=by omega
          clear hR6 ht6 hf6 hO6 hOx
          cases ok with
          |false=>
           go_wp2_with fail
           go_ret;have h8:=HF6.out trivial;have h9:=HK6.out;exact .inl ⟨rfl,HXW.out.trans (Only.of_ext Zi (Nat.le_of_lt ztL)),cs2,HR6.out.ext Zi,by omega,by omega⟩
          |true=>
           obtain⟨h8,h9⟩:=HT6.out rfl;have hw3:IntKind.i64.wrap (lo+(i:Int)+1)=lo+((i+1:Nat):Int):=by rw[IntKind.wrap_i64];omega
           have HS8:=Zh h8;have HK9:=Zh h9;clear h8 h9;go_wp2_with fail
           refine⟨⟨i+1,by omega,by first|rfl|(congr 1;omega),Zh ?_,Zh ?_,Zh ?_⟩,by simp[intOf]<;>omega⟩
           ·have h1:=HR6.out;rw[HS8.out,zpB.out.1]at h1;exact h1.ext Zi
           ·exact(HOI.out.trans HO6.out).trans (Only.of_ext Zi (Nat.le_of_lt ztL))
           ·rw[zpB.out.2];have:=HK9.out;omega
         ·obtain rfl:i=J:=by omega
          have zqR:decide (lo+(i:Int)<=hi)=false:=by simp;omega
          have zqA:Only g w wr:=HOL.out.trans HOI.out;go_wp2_with fail
          go_ret;refine⟨true,_,rfl,zqA.trans (Only.of_ext Zi (by have:=HRI.out.lt;omega)),HRI.out.ext Zi,by rw[zbO];omega,fun _=>⟨by rw[HRE.out],?_⟩,fun h=>by cases h⟩;have:=HBI.out;rw[HRE.out];omega
set_option maxRecDepth 20000 in
theorem znO{most:Int}(hM:MatA w0 A m)(hL:LLLed m)(h1:m.length=n)(hb0:0<=za)(hb1:za<=most)(hu0:0<=budget)(hu1:budget<=1000000)[hx:Ext w0 w]:
  Cq 138 #[.slice A n c,.int .i64 za,.int .i64 most,.int .i64 budget] w (zz w (.int .i64 0)):=by
 have HR:=Zh (fun W(e:Ext w0 W)=>zmT (w:=W) (c:=c) hM hL h1 hL.fits hL.bd);have c1:decide (za<0)=false:=by simp;omega
 have c2:decide (most<za)=false:=by simp;omega
 have c3:decide (budget<0)=false:=by simp;omega
 have c4:decide (1000000<budget)=false:=by simp;omega
 clear hM hL h1;go_enter Tryz.func138,Tryz.ntmps138;go_wp2_with (go_at_call 52;refine(HR.out _ Zi).mono ?_;rintro e w2 ⟨rfl,hs2⟩)
 go_ret;exact⟨rfl,Step.of _ _⟩
def zdG(w:World)(m:List (List Int))(n:Nat)(za budget:Int)(e:Ending)(w':World):Prop:=
 (qV m za<=budget/\∃g,e= .returned (.tuple #[.slice (some ⟨g,0,none⟩) n n,.int .i64 0])/\Row w' g 3 .i64 (qK m za)/\w.heap.size<=g/\Step w w')∨(budget<qV m za/\e= .returned (.tuple #[.slice none 0 0,.int .i64 9])/\Step w w')
set_option maxRecDepth 20000 in
theorem znP(hM:MatA w0 A m)(hL:LLLed m)(h1:m.length=n)(hb:0<=za)(hb1:za<1073741824)(hu0:0<=budget)(hu1:budget<=1000000)[hx:Ext w0 w]:
  Cq 83 #[.slice A n c,.int .i64 za,.int .i64 budget] w (zdG w m n za budget):=by
 have hr:=qT hL.red;have hn8:=hL.len8;have hn1:=hL.len1;have HAR:Hid (∀W,Ext w0 W->Cq 138 #[.slice A n c,.int .i64 za,.int .i64 4611686018427387904,.int .i64 budget] W (zz W (.int .i64 0))):=Zh (fun W e=>znO hM hL h1 hb (by omega) hu0 hu1);have HOF:Hid (∀W,Ext w0 W->Cq 84 #[.slice A n c] W (zg0 W m n)):=Zh (fun W e=>znj hM hL h1);have hmk:=Qt (P:=Tryz.prog) (k:= .i64) Tryz.underlying36 jA (by omega) (n:Int) (by omega) (by omega)
 simp only[Int.toNat_natCast]at hmk;have h0n:∀x∈List.replicate n (0:Int),0<=x:=fun x hx=>by rw[List.eq_of_mem_replicate hx];omega
 have hs0:(List.replicate n (0:Int)).sum=0:=by simp
 have zqW:=zbw hr hb;have HCN:Hid (∀(W:World)(SB DB:Option Addr)(sc dc g:Nat),FrV W m SB DB->Row W g 3 .i64 (List.replicate n 0)->Cq 159 #[.agg #[.int .i64 n,.slice SB n sc,.slice DB (n+1) dc],.int .i64 za,.slice none 0 0,.slice (some ⟨g,0,none⟩) n n,.int .i64 budget] W (zah W m za budget (n-1) [] (List.replicate n 0) g)):=Zh (fun W SB DB sc dc g hF hR=>
  znN hL h1 hb hb1 hu0 hu1 (n-1) W SB DB none sc dc 0 0 g [] _ (by omega) hF Ints.nil rfl (fun a ha=>by simp at ha) (by rw[h1]at zqW;exact zqW) hR (by simp) h0n (by rw[hs0];exact hu0))
 have e1:=znf hr hb;have e2:=zng hr hb;rw[h1]at e1 e2;have HT:Hid (qV m za=zC (ZR m za (n-1) [])):=Zh e1;have HS:Hid (qK m za=Zk (List.replicate n 0) (ZR m za (n-1) [])):=Zh e2;unfold zah at HCN;rw[hs0,Int.zero_add,<-HT.out,<-HS.out]at HCN;unfold zdG;generalize qV m za=tot at*
 generalize qK m za=st at*
 clear hr hL h1 zqW e1 e2 HT HS h0n hs0 hM;obtain⟨zs,hzs⟩:∃zs,zs=List.replicate n (0:Int):=⟨_,rfl⟩;have HZS:=Zh hzs;rw[<-hzs]at HCN;clear hzs;go_enter Tryz.func83,Tryz.ntmps83;go_wp2_with (first
  |(go_at_call 138;refine(HAR.out _ Zi).mono ?_;rintro e w1 ⟨rfl,hs1⟩)
  |(go_at_call 84;refine(HOF.out _ Zi).mono ?_;rintro e w2 ⟨SB,sc,DB,dc,rfl,hF,-,-,-,-,hs2⟩;have hR2:Row w2 w1.heap.size 3 .i64 zs:=(by rw[HZS.out];exact(Row.made w1 n .i64 3).ext Zi);have zq9:Ext w1 w2:=Zi;have zva:Ext w w2:=Zi;have hws:w.heap.size<=w1.heap.size:=(Zi:Ext w w1).size)
  |(go_at_call 159;refine(HCN.out _ _ _ _ _ _ hF hR2).mono ?_;rintro e w6 ⟨ok,cs2,rfl,hO6,hR6,hl6,ht6,hf6⟩;have hx6:Ext w w6:=hO6.ext zva hws;have HR6:=Zh hR6;have HT6:=Zh ht6;have HF6:=Zh hf6;clear hR6 ht6 hf6 hO6;cases ok))
 ·go_ret2
  exact .inr ⟨HF6.out trivial,rfl,hx6.toStep⟩
 ·obtain⟨h8,h9⟩:=HT6.out trivial;have h10:=HR6.out;rw[h8]at h10;go_ret2
  exact .inl ⟨h9,_,rfl,h10,hws,hx6.toStep⟩
set_option maxRecDepth 20000 in
theorem znQ(hM:MatA w0 A m)(hL:LLLed m)(h1:m.length=n)(hb:0<=za)(hb1:za<1073741824)(hu0:0<=budget)(hu1:budget<=1000000)(zrx:qV m za<=budget)[hx:Ext w0 w]:
  Cq 31 #[.slice A n c,.int .i64 za,.int .i64 budget] w (zz w (.tuple #[.int .i64 (ZE (qK m za) / 2),.int .i64 0])):=by
 have hn8:=hL.len8;have hn1:=hL.len1;have HST:=Zh (fun W(e:Ext w0 W)=>znP (w:=W) (c:=c) hM hL h1 hb hb1 hu0 hu1);obtain⟨b,rfl⟩:∃b:Nat,za=b:=⟨za.toNat,by omega⟩;have hso:=(zbx hL.red (b:=b) hb1).1;have zqf:(qK m b).length=n:=by rw[hso.len,h1]
 have zp0:=Zh zrx;have zrb:=hso.one;have hsl:ZE (qK m b)<=1000000:=by
  have:=hso.last_le hn1;omega
 have hl1:1<=ZE (qK m b):=by
  unfold ZE;have:(qK m b).length-1<(qK m b).length:=by omega
  simp only[List.getD,Ze this,Option.getD_some];exact zrb _ (List.getElem_mem this)
 clear hM hL hso zrx zrb;unfold zdG at HST;generalize qV m b=tot at*
 generalize qK m b=st at*
 have hlo:ZE st=st.getD (n-1) 0:=by unfold ZE;rw[zqf]
 have HLO:=Zh hlo;have HLN:=Zh zqf;have hw1:IntKind.i64.wrap ((n:Int)-1)=((n-1:Nat):Int):=by rw[show (n:Int)-1=((n-1:Nat):Int) by omega];exact Iw
 have htd:Int.tdiv (ZE st) 2=ZE st / 2:=Int.tdiv_eq_ediv_of_nonneg (by omega);have hn0:0<n:=by omega
 clear hlo zqf h1;obtain⟨y,hyl⟩:=Xz (ZE st);have HYL:=Zh hyl;rw[<-hyl]at hsl hl1 htd|-
 clear hyl;go_enter Tryz.func31,Tryz.ntmps31;go_wp2_with (go_at_call 83;refine(HST.out _ Zi).mono ?_;rintro e w1 (⟨-,g,rfl,hR,-,hs1⟩|⟨zrc,-⟩);(rotate_left;(exact absurd zp0.out (by omega)));obtain⟨y',hy',hcy⟩:=hR.cell (i:=n-1) (by rw[HLN.out];omega);have hye:y'=y:=(by rw[HYL.out,HLO.out];simp[List.getD,hy']);rw[hye]at hcy;have hgl:=hR.lt)
 go_ret2
 exact⟨rfl,hs1⟩
end
section
open Go.RowKit
open La
theorem znR(g:Bool)(B:Option Addr)(k d:Nat)(g':Bool)(B':Option Addr)(k' d':Nat)(w:World):(Instr.field 220 (.agg #[.bool g,.slice B k d,.bool g',.slice B' k' d']) 0).run Tryz.prog w= .ok (.agg #[.bool g,.slice B k d]) w:=by
 obtain⟨i,h1,h2,h3,h4⟩:=info_parts Q9;simp[Instr.field,run_underlying Tryz.underlying220,asAgg,part,sizeOf,typeInfo,go_sem,h1,h3]
attribute [local go_sem] znR
end
section
structure STO{κ:Type}(lt:κ->κ->Prop):Prop where
 irr:∀a,¬lt a a
 trans:∀{a b c},lt a b->lt b c->lt a c
 tri:∀{a b},a≠b->lt a b∨lt b a
theorem STO.anti{κ:Type}{lt:κ->κ->Prop}(O:STO lt){a b:κ}(h:lt a b):¬lt b a:=fun h'=>O.irr a (O.trans h h')
section
variable {κ:Type} [DecidableEq κ] {lt:κ->κ->Prop}
structure CountOK(lt:κ->κ->Prop)(L:List κ)(p:List (κ×Int)):Prop where
 sorted:p.Pairwise (fun a b=>lt a.1 b.1)
 mem:∀c,c∈p↔0<c.2/\c.2=(L.count c.1:Int)
theorem CountOK.nodup(O:STO lt){L:List κ}{p}(h:CountOK lt L p):p.Nodup:=h.sorted.imp (fun{a b}h(e:a=b)=>O.irr b.1 (by rw[e]at h;exact h))
theorem CountOK.unique(O:STO lt){L:List κ}{p q}(h:CountOK lt L p)(h':CountOK lt L q):p=q:=
 List.Perm.eq_of_pairwise (fun _ _ _ _ h1 h2=>absurd h2 (O.anti h1)) h.sorted h'.sorted ((List.perm_ext_iff_of_nodup (h.nodup O) (h'.nodup O)).2 fun c=>(h.mem c).trans (h'.mem c).symm)
theorem CountOK.perm{L L':List κ}{p}(h:CountOK lt L p)(hp:L.Perm L'):CountOK lt L' p:=⟨h.sorted,fun c=>by rw[h.mem,hp.count_eq]⟩
theorem CountOK.nil:CountOK lt ([]:List κ) []:=⟨List.Pairwise.nil,fun c=>by simp;omega⟩
theorem CountOK.append{L S:List κ}{p q}(h:CountOK lt L p)(h':CountOK lt S q)(hd:∀x∈L,∀y∈S,lt x y)(O:STO lt):CountOK lt (L++S) (p++q):=by
 have hin:∀{T:List κ}{r},CountOK lt T r->∀c∈r,c.1∈T:=fun h c hc=>List.count_pos_iff.1 (by have:=(h.mem c).1 hc;omega)
 refine⟨List.pairwise_append.2 ⟨h.sorted,h'.sorted,fun a ha b hb=>hd _ (hin h a ha) _ (hin h' b hb)⟩,fun c=>?_⟩;rw[mem_append,h.mem,h'.mem,List.count_append];by_cases hL:c.1∈L
 ·have hS:c.1∉S:=fun hs=>O.irr _ (hd _ hL _ hs)
  rw[count_eq_zero.2 hS];constructor
  ·rintro(⟨a,b⟩|⟨a,b⟩)<;>exact⟨a,by omega⟩
  ·rintro⟨a,b⟩;exact .inl ⟨a,by omega⟩
 ·rw[count_eq_zero.2 hL];constructor
  ·rintro(⟨a,b⟩|⟨a,b⟩)<;>exact⟨a,by omega⟩
  ·rintro⟨a,b⟩;exact .inr ⟨a,by omega⟩
variable [DecidableRel lt]
def Zq(lt:κ->κ->Prop)[DecidableRel lt]:List (κ×Int)->κ->List (κ×Int)
 |[],k=>[(k,1)]
 |c::l,k=>if lt c.1 k then c::Zq lt l k else if c.1=k then (k,c.2+1)::l else (k,1)::c::l
theorem zdH(O:STO lt):∀(p:List (κ×Int))(k:κ),p.Pairwise (fun a b=>lt a.1 b.1)->∀c,c∈Zq lt p k↔(c∈p/\c.1≠k)∨(c.1=k/\((∃d∈p,d.1=k/\c.2=d.2+1)∨((∀d∈p,d.1≠k)/\c.2=1)))
 |[],k,_,c=>by
  simp only[Zq,mem_singleton,List.not_mem_nil,false_and,false_or];constructor
  ·rintro rfl;exact⟨rfl,.inr ⟨fun d hd=>absurd hd (by simp),rfl⟩⟩
  ·rintro⟨h1,h⟩;rcases h with ⟨d,hd⟩|⟨-,h3⟩
   ·exact absurd hd (by simp)
   ·exact Prod.ext h1 h3
 |x::p,k,hs,c=>by
  obtain⟨hs1,hs2⟩:=pairwise_cons.1 hs;have ih:=zdH O p k hs2 c;unfold Zq;by_cases h1:lt x.1 k
  ·rw[if_pos h1,mem_cons,ih];have hxn:x.1≠k:=fun e=>O.irr _ (e▸h1)
   constructor
   ·rintro(rfl|⟨a,b⟩|⟨a,⟨d,e,f⟩|⟨d,e⟩⟩)
    ·exact .inl ⟨List.mem_cons_self ..,hxn⟩
    ·exact .inl ⟨mem_cons_of_mem _ a,b⟩
    ·exact .inr ⟨a,.inl ⟨d,mem_cons_of_mem _ e,f⟩⟩
    ·exact .inr ⟨a,.inr ⟨fun y hy=>by rcases mem_cons.1 hy with rfl|hy;exact hxn;exact d y hy,e⟩⟩
   ·rintro(⟨a,b⟩|⟨a,⟨d,e,f⟩|⟨d,e⟩⟩)
    ·rcases mem_cons.1 a with rfl|a
     ·exact .inl rfl
     ·exact .inr (.inl ⟨a,b⟩)
    ·rcases mem_cons.1 e with rfl|e
     ·exact absurd f.1 hxn
     ·exact .inr (.inr ⟨a,.inl ⟨d,e,f⟩⟩)
    ·exact .inr (.inr ⟨a,.inr ⟨fun y hy=>d y (mem_cons_of_mem _ hy),e⟩⟩)
  ·rw[if_neg h1];have zq7:∀d∈p,d.1≠k:=fun d hd e=>h1 (e▸hs1 d hd)
   by_cases h2:x.1=k
   ·rw[if_pos h2,mem_cons];constructor
    ·rintro(rfl|h)
     ·exact .inr ⟨rfl,.inl ⟨x,List.mem_cons_self ..,h2,rfl⟩⟩
     ·exact .inl ⟨mem_cons_of_mem _ h,zq7 c h⟩
    ·rintro(⟨a,b⟩|⟨a,⟨d,e,f,g⟩|⟨d,e⟩⟩)
     ·rcases mem_cons.1 a with rfl|a
      ·exact absurd h2 b
      ·exact .inr a
     ·rcases mem_cons.1 e with rfl|e
      ·exact .inl (Prod.ext a g)
      ·exact absurd f (zq7 d e)
     ·exact absurd h2 (d x (List.mem_cons_self ..))
   ·rw[if_neg h2,mem_cons];have zqi:∀d∈x::p,d.1≠k:=fun d hd=>by
     rcases mem_cons.1 hd with rfl|hd
     ·exact h2
     ·exact zq7 d hd
    constructor
    ·rintro(rfl|h)
     ·exact .inr ⟨rfl,.inr ⟨zqi,rfl⟩⟩
     ·exact .inl ⟨h,zqi c h⟩
    ·rintro(⟨a,b⟩|⟨a,⟨d,e,f⟩|⟨d,e⟩⟩)
     ·exact .inr a
     ·exact absurd f.1 (zqi d e)
     ·exact .inl (Prod.ext a e)
theorem zhh(O:STO lt):∀(p:List (κ×Int))(k:κ),p.Pairwise (fun a b=>lt a.1 b.1)->(Zq lt p k).Pairwise (fun a b=>lt a.1 b.1)
 |[],k,_=>by simp[Zq]
 |x::p,k,hs=>by
  obtain⟨hs1,hs2⟩:=pairwise_cons.1 hs;have ih:=zhh O p k hs2;unfold Zq;by_cases h1:lt x.1 k
  ·rw[if_pos h1];refine pairwise_cons.2 ⟨fun c hc=>?_,ih⟩;rcases(zdH O p k hs2 c).1 hc with ⟨a,-⟩|⟨a,-⟩
   ·exact hs1 c a
   ·rw[a];exact h1
  ·rw[if_neg h1];by_cases h2:x.1=k
   ·rw[if_pos h2];exact pairwise_cons.2 ⟨fun c hc=>h2▸hs1 c hc,hs2⟩
   ·rw[if_neg h2];have hx2:lt k x.1:=(O.tri h2).resolve_left h1;refine pairwise_cons.2 ⟨fun c hc=>?_,hs⟩;rcases mem_cons.1 hc with rfl|hc
    ·exact hx2
    ·exact O.trans hx2 (hs1 c hc)
theorem CountOK.tally(O:STO lt){L:List κ}{p}(h:CountOK lt L p)(k:κ):CountOK lt (L++[k]) (Zq lt p k):=by
 refine⟨zhh O p k h.sorted,fun c=>?_⟩;rw[zdH O p k h.sorted,List.count_append];have hd:∀d:κ×Int,d.1=k->(d∈p↔0<d.2/\d.2=(L.count k:Int)):=fun d a=>by rw[h.mem,a]
 by_cases e:c.1=k
 ·have hcs:List.count c.1 [k]=1:=by rw[e];simp
  rw[hcs,e];constructor
  ·rintro(⟨-,b⟩|⟨-,⟨d,a,b,g⟩|⟨a,g⟩⟩)
   ·exact absurd rfl b
   ·have:=(hd d b).1 a;omega
   ·have h0:L.count k=0:=by
     rcases Nat.eq_zero_or_pos (L.count k) with h0|h0
     ·exact h0
     ·exact absurd rfl (a (k,(L.count k:Int)) ((hd _ rfl).2 ⟨by simp only;omega,rfl⟩))
    omega
  ·rintro⟨a,b⟩;refine .inr ⟨rfl,?_⟩;rcases Nat.eq_zero_or_pos (L.count k) with h0|h0
   ·refine .inr ⟨fun d hdm hdn=>?_,by omega⟩;have:=(hd d hdn).1 hdm;omega
   ·exact .inl ⟨(k,(L.count k:Int)),(hd _ rfl).2 ⟨by simp only;omega,rfl⟩,rfl,by simp only;omega⟩
 ·have hcs:List.count c.1 [k]=0:=by rw[count_eq_zero];simp[e]
  rw[hcs,h.mem];constructor
  ·rintro(⟨⟨a,b⟩,-⟩|⟨a,-⟩)
   ·exact⟨a,by omega⟩
   ·exact absurd a e
  ·rintro⟨a,b⟩;exact .inl ⟨⟨a,by omega⟩,e⟩
def qi(lt:κ->κ->Prop)[DecidableRel lt](L:List κ):List (κ×Int):=L.foldl (fun p q=>Zq lt p q) []
theorem znS(L:List κ)(q:κ):qi lt (L++[q])=Zq lt (qi lt L) q:=by unfold qi;rw[List.foldl_append];rfl
theorem j2(O:STO lt)(L:List κ):CountOK lt L (qi lt L):=by
 have h:∀(T:List κ)(L:List κ)(p:List (κ×Int)),CountOK lt L p->CountOK lt (L++T) (T.foldl (fun p q=>Zq lt p q) p):=by
  intro T;induction T with
  |nil=>intro L p h;simpa using h
  |cons q T ih=>intro L p h;have:=ih (L++[q]) _ (h.tally O q);simpa using this
 have:=h L [] [] CountOK.nil;simpa[qi] using this
end
abbrev Kc:=Int×Int
abbrev Ct:=Kc×Int
def jq(a b:Kc):Prop:=a.1<b.1∨(a.1=b.1/\a.2<b.2)
instance:DecidableRel jq:=fun a b=>by unfold jq;exact Zi
theorem zbT:STO jq:=⟨fun a h=>by unfold jq at h;omega,fun{a b c}h h'=>by unfold jq at*;omega,fun{a b}h=>by
 unfold jq;rcases Int.lt_trichotomy a.1 b.1 with h1|h1|h1
 ·exact .inl (.inl h1)
 ·rcases Int.lt_trichotomy a.2 b.2 with h2|h2|h2
  ·exact .inl (.inr ⟨h1,h2⟩)
  ·exact absurd (Prod.ext h1 h2) h
  ·exact .inr (.inr ⟨h1.symm,h2⟩)
 ·exact .inr (.inl h1)⟩
def Zv(a b:Ct):Prop:=a.1.1<b.1.1∨(a.1.1=b.1.1/\(a.1.2<b.1.2∨(a.1.2=b.1.2/\a.2<b.2)))
instance:DecidableRel Zv:=fun a b=>by unfold Zv;exact Zi
theorem Qq:STO Zv:=⟨fun a h=>by unfold Zv at h;omega,fun{a b c}h h'=>by unfold Zv at*;omega,fun{a b}h=>by
 unfold Zv;rcases Int.lt_trichotomy a.1.1 b.1.1 with h1|h1|h1
 ·exact .inl (.inl h1)
 ·rcases Int.lt_trichotomy a.1.2 b.1.2 with h2|h2|h2
  ·exact .inl (.inr ⟨h1,.inl h2⟩)
  ·rcases Int.lt_trichotomy a.2 b.2 with h3|h3|h3
   ·exact .inl (.inr ⟨h1,.inr ⟨h2,h3⟩⟩)
   ·exact absurd (Prod.ext (Prod.ext h1 h2) h3) h
   ·exact .inr (.inr ⟨h1.symm,.inr ⟨h2.symm,h3⟩⟩)
  ·exact .inr (.inr ⟨h1.symm,.inl h2⟩)
 ·exact .inr (.inl h1)⟩
def zM:List Ct->List Ct->Bool
 |_,[]=>false
 |[],_::_=>true
 |a::l,b::m=>if a=b then zM l m else decide (Zv a b)
theorem j3:∀l,zM l l=false
 |[]=>rfl
 |a::l=>by simp[zM,j3 l]
theorem zdI:∀{l m:List Ct},l≠m->zM l m=true∨zM m l=true
 |[],[],h=>absurd rfl h
 |_::_,[],_=> .inr rfl
 |[],_::_,_=> .inl rfl
 |a::l,b::m,h=>by
  unfold zM;by_cases hab:a=b
  ·rw[if_pos hab,if_pos hab.symm];exact zdI (fun e=>h (by rw[hab,e]))
  ·rw[if_neg hab,if_neg (Ne.symm hab)];rcases Qq.tri hab with h|h
   ·exact .inl (decide_eq_true h)
   ·exact .inr (decide_eq_true h)
theorem j4:∀{l m k:List Ct},zM l m=true->zM m k=true->zM l k=true
 |_,[],_,h,_=>by simp[zM]at h
 |_,_::_,[],_,h=>by simp[zM]at h
 |[],_::_,_::_,_,_=>rfl
 |a::l,b::m,c::k,h,h'=>by
  unfold zM at*
  by_cases hab:a=b
  ·subst hab;rw[if_pos rfl]at h;by_cases hac:a=c
   ·subst hac;rw[if_pos rfl]at h'|-;exact j4 h h'
   ·rw[if_neg hac]at h'|-;exact h'
  ·rw[if_neg hab]at h;by_cases hbc:b=c
   ·subst hbc;rw[if_neg hab];exact h
   ·rw[if_neg hbc]at h';have h1:=of_decide_eq_true h;have h2:=of_decide_eq_true h';rw[if_neg (fun e:a=c=>Qq.anti h1 (by rw[e];exact h2))];exact decide_eq_true (Qq.trans h1 h2)
abbrev Ks:=Int×List Ct
def Z1(a b:Ks):Prop:=a.1<b.1∨(a.1=b.1/\zM a.2 b.2=true)
instance:DecidableRel Z1:=fun a b=>by unfold Z1;exact Zi
theorem jr:STO Z1 where
 irr a h:=by
  rcases h with h|⟨-,h⟩
  ·omega
  ·rw[j3]at h;cases h
 trans {a b c} h h':=by
  rcases h with h|⟨h,k⟩<;>rcases h' with h'|⟨h',k'⟩
  ·exact .inl (by omega)
  ·exact .inl (by omega)
  ·exact .inl (by omega)
  ·exact .inr ⟨by omega,j4 k k'⟩
 tri {a b} h:=by
  rcases Int.lt_trichotomy a.1 b.1 with h1|h1|h1
  ·exact .inl (.inl h1)
  ·rcases zdI (fun e=>h (Prod.ext h1 e)) with h2|h2
   ·exact .inl (.inr ⟨h1,h2⟩)
   ·exact .inr (.inr ⟨h1.symm,h2⟩)
  ·exact .inr (.inl h1)
theorem znT(l m:List Ct):(!(zM l m)&&!(zM m l))=decide (l=m):=by
 by_cases e:l=m
 ·subst e;simp[j3]
 ·rw[decide_eq_false e];rcases zdI e with h|h<;>simp[h]
def js(m:List (List Int))(x y:List Int):Kc:=(zi m y,(((zy (zN m y) x).natAbs:Nat):Int))
def zA(m L:List (List Int))(x:List Int):List Ct:=qi jq (L.map (js m x))
theorem VecList.norms{b:Int}{e:Bool}(h:VecList m b e L):L.Pairwise (fun x y=>zi m x<=zi m y):=h.sorted.imp (fun{x y}h=>by
 rcases Int.lt_or_le (zi m y) (zi m x) with h1|h1
 ·unfold qo ZD at h;rw[qC h1,if_neg (by decide)]at h;omega
 ·exact h1)
def Bdry(ns:List Int)(a:Nat):Prop:=∀(i j:Nat)(x y:Int),i<a->a<=j->ns[i]? =some x->ns[j]? =some y->x<y
theorem Bdry.zero(ns:List Int):Bdry ns 0:=fun i _ _ _ h=>absurd h (by omega)
theorem Bdry.end_{ns:List Int}{n:Int}(hs:ns.Pairwise (·<=·))(hae:a<e)(ha:ns[a]? =some n)(hin:∀k x,a<=k->k<e->ns[k]? =some x->x=n)(zqR:∀x,ns[e]? =some x->x≠n):Bdry ns e:=by
 have hle:∀(i j:Nat)(x y:Int),i<=j->ns[i]? =some x->ns[j]? =some y->x<=y:=by
  intro i j x y hij hx hy;rcases Nat.lt_or_eq_of_le hij with h|rfl
  ·obtain⟨h1,rfl⟩:=Zg.1 hx;obtain⟨h2,rfl⟩:=Zg.1 hy;exact List.pairwise_iff_getElem.1 hs i j h1 h2 h
  ·rw[hx]at hy;injection hy with hy;omega
 intro i j x y hi hj hx hy;have zwc:x<=n:=by
  rcases Zl i a with h|h
  ·exact hle i a x n (by omega) hx ha
  ·rw[hin i x h hi hx];exact Int.le_refl _
 obtain⟨z,hz⟩:∃z,ns[e]? =some z:=⟨_,Ze (by have:=(Zg.1 hy).1;omega)⟩;have h1:=hle a e n z (by omega) ha hz;have h2:=zqR z hz;have h3:=hle e j z y hj hz hy;omega
theorem znU{κ:Type}[DecidableEq κ]{lt:κ->κ->Prop}[DecidableRel lt](O:STO lt){L S:List κ}(hd:∀x∈L,∀y∈S,lt x y):qi lt (L++S)=qi lt L++qi lt S:=
 CountOK.unique O (j2 O _) ((j2 O L).append (j2 O S) hd O)
theorem znV{x:List Int}(hae:a<=e)(hb:Bdry (L.map (zi m)) a):zA m (L.take e) x=zA m (L.take a) x++zA m ((L.take e).drop a) x:=by
 have hsp:L.take e=L.take a++(L.take e).drop a:=by
  have h:=List.take_append_drop a (L.take e);rw[List.take_take,Nat.min_eq_left hae]at h;exact h.symm
 unfold zA;rw[hsp,List.map_append,znU zbT]
 ·congr 3
  rw[<-hsp]
 ·intro k hk k' hk';obtain⟨y,hy,rfl⟩:=mem_map.1 hk;obtain⟨y',hy',rfl⟩:=mem_map.1 hk';obtain⟨i,hi⟩:=List.getElem?_of_mem hy;obtain⟨j,hj⟩:=List.getElem?_of_mem hy';rw[List.getElem?_drop]at hj;have h1:i<a/\L[i]? =some y:=by
   rw[List.getElem?_take]at hi;split at hi
   ·exact⟨by assumption,hi⟩
   ·cases hi
  have h2:L[a+j]? =some y':=by
   rw[List.getElem?_take]at hj;split at hj
   ·exact hj
   ·cases hj
  exact .inl (hb i (a+j) _ _ h1.1 (by omega) (by rw[List.getElem?_map,h1.2];rfl) (by rw[List.getElem?_map,h2];rfl))
def QZ(c:Ct):List Value:=[.int .i64 c.1.1,.int .i64 c.1.2,.int .i64 c.2]
def zF(p:List Ct):List Value:=p.flatMap QZ
theorem Qg(p:List Ct):(zF p).length=p.length*3:=by
 induction p with
 |nil=>rfl
 |cons x l ih=>simp only[zF,List.flatMap_cons,List.length_append,length_cons]at ih|-;rw[ih];simp[QZ];omega
theorem zhi(p q:List Ct):zF (p++q)=zF p++zF q:=List.flatMap_append
theorem zdJ:∀(p:List Ct)(i:Nat)(c:Ct),p[i]? =some c->(zF p)[i*3]? =some (.int .i64 c.1.1)/\(zF p)[i*3+1]? =some (.int .i64 c.1.2)/\(zF p)[i*3+2]? =some (.int .i64 c.2)
 |[],i,c,h=>by simp at h
 |y::l,0,c,h=>by simp at h;subst h;exact⟨rfl,rfl,rfl⟩
 |y::l,i+1,c,h=>by
  have:=zdJ l i c (by simpa using h);rw[show (i+1)*3=i*3+3 by omega];exact this
def ZM(a b:Ct):Int:=ZD (zk a.1.1 b.1.1) (ZD (zk a.1.2 b.1.2) (zk a.2 b.2))
theorem jH(a b:Ct):(Zv a b/\ZM a b=-1)∨(a=b/\ZM a b=0)∨(Zv b a/\ZM a b=1):=by
 unfold ZM Zv ZD;rcases jT a.1.1 b.1.1 with ⟨h1,h2⟩|⟨h1,h2⟩|⟨h1,h2⟩
 ·exact .inl ⟨.inl h1,by rw[h2];rfl⟩
 ·rw[h2,if_pos rfl];rcases jT a.1.2 b.1.2 with ⟨k1,k2⟩|⟨k1,k2⟩|⟨k1,k2⟩
  ·exact .inl ⟨.inr ⟨h1,.inl k1⟩,by rw[k2];rfl⟩
  ·rw[k2,if_pos rfl];rcases jT a.2 b.2 with ⟨g1,g2⟩|⟨g1,g2⟩|⟨g1,g2⟩
   ·exact .inl ⟨.inr ⟨h1,.inr ⟨k1,g1⟩⟩,g2⟩
   ·exact .inr (.inl ⟨Prod.ext (Prod.ext h1 k1) g1,g2⟩)
   ·exact .inr (.inr ⟨.inr ⟨h1.symm,.inr ⟨k1.symm,g1⟩⟩,g2⟩)
  ·exact .inr (.inr ⟨.inr ⟨h1.symm,.inl k1⟩,by rw[k2];rfl⟩)
 ·exact .inr (.inr ⟨.inl h1,by rw[h2];rfl⟩)
def Zc:List Ct->List Ct->Int
 |[],[]=>0
 |[],_::_=>-1
 |_::_,[]=>1
 |a::l,b::m=>if a=b then Zc l m else ZM a b
theorem zaX:∀l m:List Ct,(zM l m=true/\Zc l m=-1)∨(l=m/\Zc l m=0)∨(zM m l=true/\Zc l m=1)
 |[],[]=> .inr (.inl ⟨rfl,rfl⟩)
 |[],_::_=> .inl ⟨rfl,rfl⟩
 |_::_,[]=> .inr (.inr ⟨rfl,rfl⟩)
 |a::l,b::m=>by
  unfold zM Zc;by_cases h:a=b
  ·subst h;rw[if_pos rfl,if_pos rfl,if_pos rfl];rcases zaX l m with h|⟨rfl,h⟩|h
   ·exact .inl h
   ·exact .inr (.inl ⟨rfl,h⟩)
   ·exact .inr (.inr h)
  ·rw[if_neg h,if_neg h,if_neg (Ne.symm h)];rcases jH a b with ⟨h1,h2⟩|⟨h1,h2⟩|⟨h1,h2⟩
   ·exact .inl ⟨decide_eq_true h1,h2⟩
   ·exact absurd h1 h
   ·exact .inr (.inr ⟨decide_eq_true h1,h2⟩)
theorem zaY(l m:List Ct):decide (Zc l m<0)=zM l m:=by
 rcases zaX l m with ⟨h1,h2⟩|⟨rfl,h2⟩|⟨h1,h2⟩
 ·rw[h1,h2];rfl
 ·rw[j3,h2];rfl
 ·have:zM l m=false:=by
   cases h:zM l m
   ·rfl
   ·have:=j4 h h1;rw[j3]at this;cases this
  rw[this,h2];rfl
theorem zdK(l m:List Ct):Zc l m=0↔l=m:=by
 rcases zaX l m with ⟨h1,h2⟩|⟨rfl,h2⟩|⟨h1,h2⟩
 ·constructor
  ·intro h;omega
  ·rintro rfl;rw[j3]at h1;cases h1
 ·exact⟨fun _=>rfl,fun _=>h2⟩
 ·constructor
  ·intro h;omega
  ·rintro rfl;rw[j3]at h1;cases h1
end
section
open Go.RowKit Go.Maps
open Go.ChangeMaps (setBlock heap_setBlock_same heap_setBlock_other)
def Z2(k:Kc):Value:= .agg #[.int .i64 k.1,.int .i64 k.2,.int .i64 0]
def qX(k:Kc):Lit:= .string (keyBytes [.int .i64 k.1,.int .i64 k.2,.int .i64 0])
def QG(k:Kc):Prop:=(Lit.int .i64 k.1).wf=true/\(Lit.int .i64 k.2).wf=true
theorem znW:∃m,Tryz.prog.types.size=m+1+1:=⟨Tryz.prog.types.size-2,by
 have:(2:Nat)<=Tryz.prog.types.size:=of_decide_eq_true (by kernel_rfl);omega⟩
theorem JD:WideMaps.KeyLaw Tryz.prog 108:=deep_law_laid znL (m:=2) (by omega) (of_decide_eq_true (by kernel_rfl)) (by kernel_rfl) (by rw[Tryz.underlying108])
theorem jI:Keyed Tryz.prog 108:=Keyed.of_law JD
theorem zaZ{k:Kc}(h:QG k):keyOf Tryz.prog 108 (Z2 k)=some (qX k):=by
 obtain⟨a,b⟩:=k;obtain⟨wa,wb⟩:=h;simp only at wa wb;have w0:(Lit.int .i64 0).wf=true:=by decide
 have hkt:Tryz.prog.keyType 108=true:=by kernel_rfl
 have c0:Tryz.prog.cellsOf 108=3:=by kernel_rfl
 have c1:Tryz.prog.cellsOf 2=1:=by kernel_rfl
 have c2:Tryz.prog.cellsOf 3=1:=by kernel_rfl
 obtain⟨m,hm⟩:=znW;unfold keyOf Z2 qX;simp only[Tryz.underlying108];rw[if_pos (by simp[hkt,Value.formed,Tryz.underlying108,c0]),hm];unfold Program.keyLits;simp only[Tryz.underlying108,Value.cells];rw[if_pos (by simp[c0])];simp[c1,c2,Program.keyLits,Tryz.underlying2,Tryz.underlying3,wa,wb,w0]
theorem zbU(k:Kc):WideAt.IsKeyLit (qX k):=trivial
theorem zhj{a b:Kc}(ha:QG a)(hb:QG b)(h:qX a=qX b):a=b:=by
 have h1:=zaZ ha;rw[h]at h1;have h2:Z2 a=Z2 b:=jI.inj h1 (zaZ hb);have h3:(Z2 a).cells.toList=(Z2 b).cells.toList:=by rw[h2]
 simp[Z2,Value.cells]at h3;exact Prod.ext h3.1 h3.2
structure TalD(D:DataW Unit)(L:List Kc):Prop where
 map:IsMap D
 at_:∀k,QG k->D.atKey (qX k) (.lit (.int .i64 0))= .lit (.int .i64 (L.count k))
 has1:∀k,QG k->(has D (qX k)=true↔k∈L)
 has2:∀l,has D l=true->∃k∈L,l=qX k
 wf:∀k∈L,QG k
theorem TalD.nil:TalD (.map []) []:=⟨⟨[],rfl⟩,fun k _=>rfl,fun k _=>by simp[has],fun l h=>by simp[has]at h,fun k h=>by simp at h⟩
theorem znX{D:DataW Unit}(h:IsMap D)(k:Lit)(d:DataW Unit):IsMap (D.put k d):=by
 obtain⟨es,rfl⟩:=h;exact⟨_,rfl⟩
theorem TalD.put{D:DataW Unit}{L:List Kc}(h:TalD D L){k:Kc}(hk:QG k):TalD (D.put (qX k) (.lit (.int .i64 ((L.count k:Int)+1)))) (L++[k]):=by
 have hne:∀{k':Kc},QG k'->k'≠k->qX k'≠qX k:=fun hw hne e=>hne (zhj hw hk e)
 refine⟨znX h.map _ _,fun k' hw=>?_,fun k' hw=>?_,fun l hl=>?_,fun k' hk'=>?_⟩
 ·rw[List.count_append];by_cases e:k'=k
  ·subst e;rw[atKey_put_same h.map (zbU _)];simp
  ·rw[atKey_put_other (hne hw e),h.at_ k' hw];have:List.count k' [k]=0:=by rw[count_eq_zero];simp[e]
   rw[this];simp
 ·by_cases e:k'=k
  ·subst e;rw[has_put_same h.map (zbU _)];simp
  ·rw[has_put_other (hne hw e),h.has1 k' hw];simp[e]
 ·by_cases e:l=qX k
  ·exact⟨k,by simp,e⟩
  ·rw[has_put_other e]at hl;obtain⟨k',h1,h2⟩:=h.has2 l hl;exact⟨k',by simp[h1],h2⟩
 ·rcases mem_append.1 hk' with h1|h1
  ·exact h.wf k' h1
  ·rw[mem_singleton.1 h1];exact hk
def MapC(w:World)(b n:Nat)(L:List Kc):Prop:=∃D,w.ownsMap Tryz.prog 108 (plainElem (H:=Unit) Tryz.prog 3) b n D/\TalD D L
theorem MapC.lt{L:List Kc}(h:MapC w b n L):b<w.heap.size:=by
 obtain⟨D,h,-⟩:=h;exact h.lt
theorem MapC.ext{L:List Kc}(h:MapC w b n L)(hx:Ext w w'):MapC w' b n L:=by
 have hb:=hx.below.block b h.lt;obtain⟨D,⟨es,clock,h1,h2⟩,h3⟩:=h;exact⟨D,⟨es,clock,hb.trans h1,h2⟩,h3⟩
theorem MapC.made(w:World):MapC (w.alloc (.map #[] 0)) w.heap.size 0 []:=⟨_,World.ownsMap_made w _ _ _,TalD.nil⟩
theorem MapC.look{L:List Kc}(h:MapC w b n L){k:Kc}(hk:QG k):(Instr.lookup 113 (.map (some b)) (Z2 k) false).run Tryz.prog w= .ok (.int .i64 (L.count k)) w:=by
 obtain⟨D,h1,h2⟩:=h;obtain⟨c,zqv,hat,-⟩:=h1.lookup_int jI Tryz.underlying113 Tryz.underlying3 (by kernel_rfl) (zaZ hk);rw[h2.at_ k hk]at hat;simp only[DataW.lit.injEq,Lit.int.injEq,true_and]at hat;rw[hat];exact zqv
structure MidC(w:World)(b n:Nat)(L:List Kc)(k:Kc)(st:Int):Prop where
 lt:b<w.heap.size
 look:(Instr.lookup 113 (.map (some b)) (Z2 k) false).run Tryz.prog w= .ok (.int .i64 (L.count k)) w
 store:∃es1 c1,w.heap[b]? =some (.map es1 c1)/\∀w2:World,w2.heap[b]? =some (.map es1 c1)->∃w3,(Instr.entryStore 113 (.map (some b)) (goInt st) (.int .i64 ((L.count k:Int)+1))).run Tryz.prog w2= .ok () w3/\MapC w3 b (n+1) (L++[k])/\w2.grownBy w3 (some b)
theorem znY{D:DataW Unit}{es:Array MapEntry}(h:w.ownsMap Tryz.prog 108 (plainElem (H:=Unit) Tryz.prog 3) b n D)(h1:w.heap[b]? =some (.map es c))(h2:w'.heap[b]? =some (.map es c)):w'.ownsMap Tryz.prog 108 (plainElem (H:=Unit) Tryz.prog 3) b n D:=by
 obtain⟨es',c',h3,h4⟩:=h;rw[h1]at h3;injection h3 with h3
 injection h3 with e1 e2
 subst e1 e2;exact⟨_,_,h2,h4⟩
theorem zbV(w:World):(zeroValue 3).run Tryz.prog w= .ok (.int .i64 0) w:=by kernel_rfl
theorem MapC.entry{L:List Kc}(h:MapC w b n L)(hn:n<maxLen)(hL:L.length<4611686018427387904){k:Kc}(hk:QG k):
  ∃v0 st w1,(Instr.mapEntry 113 (.map (some b)) (Z2 k)).run Tryz.prog w= .ok (.tuple #[v0,goInt st]) w1/\MidC w1 b n L k st/\w.grownBy w1 (some b):=by
 have hm:=h;have zvb:=h.look hk;obtain⟨D,zqd,hT⟩:=h;have zrU:=zqd;obtain⟨es,clock,hb,F,hs,rfl⟩:=zqd;have zqH:=zaZ hk;have hlt:b<w.heap.size:=(Array.getElem?_eq_some_iff.1 hb).1;obtain⟨v0,st,es1,c1,hE,zqK,hS⟩:=WideElems.entry_then_store (w:=w) JD Tryz.underlying113 zbV hb F zqH;have hb1:(setBlock w b (.map es1 c1)).heap[b]? =some (.map es1 c1):=heap_setBlock_same hb _;have hg1:w.grownBy (setBlock w b (.map es1 c1)) (some b):=⟨rfl,rfl,rfl,by simp[setBlock],fun i _ hi=>heap_setBlock_other hb _ (fun e=>hi (by rw[e]))⟩
 have zqS:(L.count k:Int)<=L.length:=by have:=List.count_le_length (a:=k) (l:=L);omega
 have hcw:(Lit.int .i64 (L.count k:Int)).wf=true:=by
  have e1:IntKind.i64.min=-9223372036854775808:=rfl;have e2:IntKind.i64.max=9223372036854775807:=rfl;simp[Lit.wf];omega
 have zvc:(Lit.int .i64 ((L.count k:Int)+1)).wf=true:=by
  have e1:IntKind.i64.min=-9223372036854775808:=rfl;have e2:IntKind.i64.max=9223372036854775807:=rfl;simp[Lit.wf];omega
 refine⟨v0,st,_,hE,⟨by simp[setBlock];exact hlt,?_,es1,c1,hb1,fun w2 hw2=>?_⟩,hg1⟩
 ·--the number is there as it was
  rcases JD.find w zqH es.toList F.keys with ⟨h1,h2⟩|⟨j,e0,h1,h2,h3⟩
  ·have hE2:(Instr.mapEntry 113 (.map (some b)) (Z2 k)).run Tryz.prog w= .ok (.tuple #[.int .i64 0,goInt clock]) (setBlock w b (.map (es.push ⟨Z2 k,.int .i64 0,clock⟩) (clock+1))):=by
    simp[Instr.mapEntry,run_underlying Tryz.underlying113,MapKept.run_getObj_map hb,JD.check w false zqH,h1,zbV w,MapKept.run_setObj_map _ hb,Result.andThen,setBlock]
   have hU:(Instr.mapUpdate 113 (.map (some b)) (Z2 k) (.int .i64 0)).run Tryz.prog w= .ok () (setBlock w b (.map (es.push ⟨Z2 k,.int .i64 0,clock⟩) (clock+1))):=by
    simp[Instr.mapUpdate,run_underlying Tryz.underlying113,MapKept.run_getObj_map hb,JD.check w false zqH,h1,MapKept.run_setObj_map _ hb,Result.andThen,setBlock]
   have hw:=(Result.ok.inj (hE.symm.trans hE2)).2;obtain⟨w3,hr3,ho3,-⟩:=zrU.update jI Tryz.underlying113 hn zqH (plainElem_int Tryz.underlying3 (show (Lit.int .i64 0).wf=true by decide));have hr3:=(Result.ok.inj (hU.symm.trans hr3)).2;rw[<-hr3,<-hw]at ho3;obtain⟨c,zqv,hat,-⟩:=ho3.lookup_int jI Tryz.underlying113 Tryz.underlying3 (zbV _) zqH;rw[atKey_put_same hT.map (zbU k)]at hat;simp only[DataW.lit.injEq,Lit.int.injEq,true_and]at hat
   rw[zqv,<-hat];have h0:(L.count k:Int)=0:=by
    rcases Maps.fit_look false jI Tryz.underlying113 (zbV w) hb F zqH with ⟨hr,_,_⟩|⟨e0,y,h5,h6,_⟩
    ·have hr2:=(Result.ok.inj (zvb.symm.trans hr)).1;simpa using hr2
    ·exact absurd h6 (h2 e0 (by simpa using h5))
   rw[h0]
  ·have zqE:es1=es/\c1=clock:=by
    have hj:es[j]? =some e0:=by simpa using h2
    have hsm:es.modify j (fun e=>{e with key:=Z2 k})=es:=by
     apply Array.ext';rw[Array.toList_modify,ChangeMaps.modify_eq_set _ _ _ _ h2];have:({e0 with key:=Z2 k}:MapEntry)=e0:=by rw[<-h3]
     rw[this];exact WideElems.set_self _ _ _ h2
    have hE2:(Instr.mapEntry 113 (.map (some b)) (Z2 k)).run Tryz.prog w= .ok (.tuple #[e0.val,goInt e0.born]) (setBlock w b (.map es clock)):=by
     simp[Instr.mapEntry,run_underlying Tryz.underlying113,MapKept.run_getObj_map hb,JD.check w false zqH,h1,hj,h3,JD.stays w zqH,hsm,MapKept.run_setObj_map _ hb,Result.andThen,setBlock]
    have hw:=(Result.ok.inj (hE.symm.trans hE2)).2;rw[hw,heap_setBlock_same hb]at hb1;injection hb1 with hb1
    injection hb1 with e1 e2
    exact⟨e1.symm,e2.symm⟩
   obtain⟨rfl,rfl⟩:=zqE;exact MapC.look ⟨_,⟨_,_,hb1,F,hs,rfl⟩,hT⟩ hk
 ·obtain⟨es',c',hr1,hr2⟩:=hS w2 (.int .i64 ((L.count k:Int)+1)) hw2;obtain⟨w3,hr3,ho3,-⟩:=zrU.update jI Tryz.underlying113 hn zqH (plainElem_int Tryz.underlying3 zvc);have hr3:=(Result.ok.inj (hr2.symm.trans hr3)).2;rw[<-hr3]at ho3;exact⟨_,hr1,⟨_,znY ho3 (heap_setBlock_same hb _) (heap_setBlock_same hw2 _),hT.put hk⟩,⟨rfl,rfl,rfl,by simp[setBlock],fun i _ hi=>heap_setBlock_other hw2 _ (fun e=>hi (by rw[e]))⟩⟩
def RngC(w:World)(b r n:Nat)(L ks:List Kc)(cnt:Nat):Prop:=
 ∃D left,w.ranges Tryz.prog 108 (plainElem (H:=Unit) Tryz.prog 3) b r n D left cnt/\TalD D L/\(∀k,QG k->(left (qX k)=true↔k∈L/\k∉ks))/\ks.Nodup/\(∀k∈ks,k∈L)/\∀l,left l=true->has D l=true
theorem RngC.map{L ks:List Kc}(h:RngC w b r n L ks cnt):MapC w b n L:=by
 obtain⟨D,left,h1,h2,-⟩:=h;exact⟨D,h1.owns,h2⟩
theorem RngC.lt{L ks:List Kc}(h:RngC w b r n L ks cnt):r<w.heap.size/\r≠b:=by
 obtain⟨D,left,h1,-⟩:=h;exact⟨h1.lt,h1.ne⟩
theorem RngC.kept{L ks:List Kc}(h:RngC w b r n L ks cnt)(hb:w'.heap[b]? =w.heap[b]?)(hr:w'.heap[r]? =w.heap[r]?):RngC w' b r n L ks cnt:=by
 obtain⟨D,left,⟨es,clock,since,seen,c0,h1,h2,h3,h4,h5,h6⟩,h7⟩:=h;exact⟨D,left,⟨es,clock,since,seen,c0,hb.trans h1,h2,h3,h4,hr.trans h5,h6⟩,h7⟩
theorem MapC.range{L:List Kc}(h:MapC w b n L):∃w' cnt,(Instr.range 113 (.map (some b))).run Tryz.prog w= .ok (.pointer (some ⟨w.heap.size,0,none⟩)) w'/\RngC w' b w.heap.size n L [] cnt/\w.grownBy w' none/\w'.heap.size=w.heap.size+1:=by
 obtain⟨D,h1,h2⟩:=h;obtain⟨w',hr,hg,hgr,hs⟩:=h1.range jI Tryz.underlying113;exact⟨w',_,hr,⟨D,_,hg,h2,fun k hk=>by rw[h2.has1 k hk];simp,List.nodup_nil,fun k hk=>by simp at hk,fun l hl=>hl⟩,hgr,hs⟩
theorem RngC.next{L ks:List Kc}(h:RngC w b r n L ks cnt)(ty:TypeId):
  ((∀k∈L,k∈ks)/\(Instr.next (.pointer (some ⟨r,0,none⟩)) false ty).run Tryz.prog w= .ok (.tuple #[.bool false]) w)∨
  ∃k w' cnt',k∈L/\(Instr.next (.pointer (some ⟨r,0,none⟩)) false ty).run Tryz.prog w= .ok (.tuple #[.bool true,Z2 k,.int .i64 (L.count k)]) w'/\RngC w' b r n L (ks++[k]) cnt'/\cnt'<cnt/\w.grownBy w' (some r)/\w'.heap.size=w.heap.size/\(Instr.entry (.pointer (some ⟨r,0,none⟩))).run Tryz.prog w'= .ok (.tuple #[Z2 k,.int .i64 (L.count k)]) w':=by
 obtain⟨D,left,h1,h2,h3,h4,h5,h6⟩:=h;rcases h1.next jI ty with ⟨-,hl,zqv⟩|⟨key,v,kl,y,w',cnt',zqH,hlk,hv,hat,zqv,hrg,hlt,hgr,hsz,hen⟩
 ·refine .inl ⟨fun k hk=>?_,zqv⟩;by_cases hin:k∈ks
  ·exact hin
  ·have:=(h3 k (h2.wf k hk)).2 ⟨hk,hin⟩;rw[hl]at this
   cases this
 ·obtain⟨k,hkL,rfl⟩:=h2.has2 kl (h6 kl hlk);have hw:=h2.wf k hkL;obtain rfl:key=Z2 k:=jI.inj zqH (zaZ hw);obtain⟨c,rfl,rfl,-⟩:=plainElem_int_inv Tryz.underlying3 hv;have hc:=hat (.lit (.int .i64 0));rw[h2.at_ k hw]at hc;simp only[DataW.lit.injEq,Lit.int.injEq,true_and]at hc;subst hc;have hnk:=((h3 k hw).1 hlk).2;refine .inr ⟨k,w',cnt',hkL,zqv,⟨D,_,hrg,h2,fun k' hw'=>?_,?_,fun k' hk'=>?_,fun l hl=>?_⟩,hlt,hgr,hsz,hen⟩
  ·have e:(qX k').sameKey (qX k)=decide (k'=k):=by
    by_cases e:k'=k
    ·subst e;rw[WideAt.sameKey_self (zbU _)];simp
    ·rw[sameKey_ne (fun h=>e (zhj hw' hw h))];simp[e]
   rw[e,Bool.and_eq_true,h3 k' hw'];simp[and_assoc]
  ·exact List.nodup_append.2 ⟨h4,by simp,fun a ha c hc=>by rw[mem_singleton.1 hc];exact fun e=>hnk (e▸ha)⟩
  ·rcases mem_append.1 hk' with h7|h7
   ·exact h5 k' h7
   ·rw[mem_singleton.1 h7];exact hkL
  ·simp only[Bool.and_eq_true]at hl;exact h6 l hl.1
theorem MapC.clear{L:List Kc}(h:MapC w b n L):∃w',(∀ty,(Builtin.clear_ #[113] ty #[.map (some b)]).run Tryz.prog w= .ok (.tuple #[]) w')/\MapC w' b 0 []/\w.grownBy w' (some b):=by
 obtain⟨D,⟨es,clock,hb,F,hs,-⟩,-⟩:=h;refine⟨setBlock w b (.map #[] clock),fun ty=>?_,⟨.map [],⟨#[],clock,heap_setBlock_same hb _,?_,Zr,rfl⟩,TalD.nil⟩,⟨rfl,rfl,rfl,by simp[setBlock],fun i _ hi=>heap_setBlock_other hb _ (fun e=>hi (by rw[e]))⟩⟩
 ·simp[Builtin.clear_,run_underlying Tryz.underlying113,MapKept.run_getObj_map hb,MapKept.run_setObj_map _ hb,Result.andThen,setBlock]
 ·exact⟨by simp,MapKept.stamped_empty clock,by simp⟩
theorem RngC.left_eq{L ks:List Kc}(h:RngC w b r n L ks cnt):w.rangeLeft b r=cnt:=by
 obtain⟨D,left,h1,-⟩:=h;exact h1.left_eq
theorem RngC.keys{L ks:List Kc}(h:RngC w b r n L ks cnt):ks.Nodup/\∀k∈ks,k∈L:=by
 obtain⟨D,left,-,-,-,h4,h5,-⟩:=h;exact⟨h4,h5⟩
theorem RngC.cnt_le{L ks:List Kc}(h:RngC w b r n L ks cnt):cnt<=n:=by
 obtain⟨D,left,⟨es,clock,since,seen,c0,-,-,hn,-,-,-,hc,-⟩,-⟩:=h;rw[<-hc];unfold leftOf;exact Nat.le_trans (Array.size_filter_le ..) hn
end
end Go.Proofs.YtpijjipngkdhdaaGreat
