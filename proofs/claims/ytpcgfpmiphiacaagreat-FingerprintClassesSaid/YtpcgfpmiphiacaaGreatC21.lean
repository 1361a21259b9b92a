import Derived.Test.YtpcgfpmiphiacaaGreatC20
set_option maxHeartbeats 8000000
set_option linter.unusedVariables false
set_option linter.unusedSimpArgs false
namespace Go.Proofs.YtpcgfpmiphiacaaGreat
open List (mem_cons length_cons getElem?_append_left getElem?_append_right length_append length_take getElem?_take length_drop nil_append append_nil)
variable {a budget za:Int} {its l:List (Int×List Int)} {m:List (List Int)} {cs x:List Int} {vs:List Value} {c n xc zf:Nat} {A XA:Option Addr} {e:TypeId} {w w' w0:World}
section
open Go.RowKit
open La
theorem Only.oth{T:TypeId}{g:Nat}{cs:Array Value}{fr:Nat×Nat}(h:Only g w w')(hg:w.heap[g]? =some (.cells cs T fr)):Oth T w w':=fun b cs' e fr' hn hb=>by
 rcases Nat.lt_trichotomy b g with hlt|rfl|hgt
 ·exact(h.below.block b hlt).trans hb
 ·rw[hg]at hb;injection hb with hb
  injection hb with _ he
  exact absurd he.symm hn
 ·exact(h.rest b hgt (zF hb)).trans hb
def zaE(w:World)(m:List (List Int))(za:Int)(budget:Int)(k:Nat)(t cs:List Int)(g:Nat)(e:Ending)(w':World):Prop:=∃(ok:Bool) (cs':List Int),e= .returned (.bool ok)/\Only g w w'/\Row w' g 3 .i64 cs'/\cs'.length=cs.length/\(ok=true->cs'=Zx cs (ZS m za k t)/\cs.sum+zJ (ZS m za k t)<=budget)/\(ok=false->budget<cs.sum+zJ (ZS m za k t))
theorem zbv(h:∀x∈cs,0<=x)(i:Nat):0<=cs.getD i 0/\cs.getD i 0<=cs.sum:=by
 induction cs generalizing i with
 |nil=>simp
 |cons a cs ih=>
  have ha:=h a (by simp);have hc:=fun i=>ih (fun x hx=>h x (by simp[hx])) i
  have h0:0<=cs.sum:=by have:=hc 0;omega
  cases i with
  |zero=>simp only[List.getD_cons_zero,List.sum_cons];omega
  |succ i=>have:=hc i;simp only[List.getD_cons_succ,List.sum_cons];omega
theorem zic{ys:List (Int×Int)}(h:∀x∈cs,0<=x)(hy:∀p∈ys,0<=p.2):∀x∈Zx cs ys,0<=x:=fun x hx=>by
 unfold Zx at hx;rw[List.mem_map]at hx;obtain⟨i,-,rfl⟩:=hx;have:=(zbv h i).1;have:=zg0 hy i;omega
theorem zoQ(h:∀x∈cs,0<=x)(k:Nat):0<=(cs.take k).sum/\(cs.take k).sum<=cs.sum:=by
 have h1:=zbv (cs:=cs.take k) (fun x hx=>h x (List.mem_of_mem_take hx)) 0;have h2:=zbv (cs:=cs.drop k) (fun x hx=>h x (List.mem_of_mem_drop hx)) 0;have e:cs.sum=(cs.take k).sum+(cs.drop k).sum:=by rw[<-List.sum_append,List.take_append_drop]
 omega
set_option maxRecDepth 20000 in
theorem zoR(hL:LLLed m)(h1:m.length=n)(hb:0<=za)(hb1:za<1073741824)(hu0:0<=budget)(hu1:budget<=1000000)(k:Nat):
  ∀(w:World)(SB DB TA:Option Addr)(sc dc tc q g:Nat)(t cs:List Int),n=k+q+1->FrV w m SB DB->Ints w TA 2 .i64 t->t.length=q->(∀a∈t,-9223372036854775808<=a/\a<=9223372036854775807)->0<=left (ent m) za (k+1) t->Row w g 3 .i64 cs->cs.length=n->(∀x∈cs,0<=x)->cs.sum<=budget->
  Cq 149 #[.agg #[.int .i64 n,.slice SB n sc,.slice DB (n+1) dc],.int .i64 za,.slice TA q tc,.slice (some ⟨g,0,none⟩) n n,.int .i64 budget] w (zaE w m za budget k t cs g):=by
 induction k using Nat.strongRecOn with
 |ind k ih=>
  intro w SB DB TA sc dc tc q g t cs hq hF hT htl htb h0 hR hcl hc0 hcs;have IH:=Zh ih;clear ih;have hr:=qA hL.red;have hn8:=hL.len8;have hkm:k<m.length:=by omega
  have htm:t.length=m.length-1-k:=by omega
  obtain⟨v1,v2,v3,v4,v5,v6⟩:=zeq hr hb hb1 hkm htm h0;have HIV:Hid (∀W,Ext w W->Cq 89 #[.agg #[.int .i64 n,.slice SB n sc,.slice DB (n+1) dc],.int .i64 za,.slice TA q tc] W (zy W (.tuple #[.int .i64 (zL m za k t),.int .i64 (Za m za k t)]))):=Zh (fun W e=>
   zib hF hL h1 hq hT htl htb (by omega) (by omega) h0 (by omega) (by omega) (by omega) (by omega))
  have hys:=zoC hr hkm za t htm;have hok:=zep hr hb hb1 hkm htm h0;rw[h1]at hys;unfold zaE;have hgs:g<w.heap.size:=hR.lt;have hq8:q<cs.length:=by omega
  have hgd:=zbv hc0 q;obtain⟨y0,hy0,zsv⟩:=hR.cell (i:=q) hq8;have hyd:cs.getD q 0=y0:=by simp[List.getD,hy0]
  rw[hyd]at hgd;have zsz:=zoz (cs:=cs) (i:=q) (z:=Za m za k t-zL m za k t+1) hq8;rw[hyd]at zsz;have hnk:(n:Int)-(k:Nat)=(q:Int)+1:=by omega
  rw[hnk]at hys;have zs5:∀p∈[((q:Int)+1,Za m za k t-zL m za k t+1)],0<=p.2/\1<=p.1/\p.1<=(cs.length:Int):=fun p hp=>by
   have:=hok p (by rw[hys];exact mem_cons.2 (.inl (by simpa using hp)));omega
  have ztW:=zhY (cs:=cs) (ys:=[((q:Int)+1,Za m za k t-zL m za k t+1)]) (fun p hp=>(zs5 p hp).2);rw[zsz]at ztW;simp only[zJ,Int.add_zero]at ztW;have hn1:∀x∈cs.set q (y0+(Za m za k t-zL m za k t+1)),0<=x:=by
   rw[<-zsz];exact zic hc0 (fun p hp=>(zs5 p hp).1)
  have zug:∀p∈ysR m za k t,0<=p.2/\1<=p.1/\p.1<=(m.length:Int):=fun p hp=>hok p (by rw[hys];exact List.mem_cons_of_mem _ hp)
  have hrt:=zhZ (fun p hp=>(zug p hp).1);have ztz:zJ (ZS m za k t)=(Za m za k t-zL m za k t+1)+zJ (ysR m za k t):=by rw[hys];rfl
  have zvR:Zx cs (ZS m za k t)=Zx (cs.set q (y0+(Za m za k t-zL m za k t+1))) (ysR m za k t):=by rw[<-zsz,zhX,hys];rfl
  have zvS:Za m za k t-zL m za k t+1=0->ysR m za k t=[]/\cs.set q (y0+(Za m za k t-zL m za k t+1))=cs:=fun e=>by
   refine⟨?_,?_⟩
   ·cases k with
    |zero=>rfl
    |succ k=>show ZE m za k t (Z9 m za (k+1) t)=[];rw[show Z9 m za (k+1) t=0 by unfold Z9;omega];rfl
   ·rw[e,Int.add_zero];obtain⟨h5,h6⟩:=Zg.1 hy0;rw[<-h6,List.set_getElem_self]
  rw[ztz,zvR];have HZR:=Zh zvS;have HN1:=Zh hn1;have HFV:=Zh hF;have HTV:=Zh hT;have HTB:=Zh htb;have H0:=Zh h0;have HH1:=Zh h1;have HTL:=Zh htl;have HQ:=Zh hq;have HRW:=Zh hR;have hfr:=hR.frozen q;clear hok hys zsz zs5 zug ztz zvR zvS hn1 hy0 hyd hF hT htb h0 hR htm hr hc0;obtain⟨rest,hrs⟩:=Xz (ysR m za k t);have HRS:=Zh hrs;rw[<-hrs]at hrt HZR|-
  clear hrs;obtain⟨lo,hlo⟩:=Xz (zL m za k t);obtain⟨hi,hhi⟩:=Xz (Za m za k t);have HLO:=Zh (And.intro hlo hhi);rw[<-hlo]at v1 v2 v3 v4 ztW HZR HN1 HIV|-
  rw[<-hhi]at v1 v2 v5 v6 ztW HZR HN1 HIV|-
  have hqn:q<n:=by omega
  have hn9:n<=8:=by omega
  clear hlo hhi h1 hkm hq hnk htl;obtain⟨cs1,zun⟩:=Xz (cs.set q (y0+(hi-lo+1)));have ztX:cs1.length=n:=by rw[zun,List.length_set];exact hcl
  have zru:=Zh zun;rw[<-zun]at ztW HZR HN1|-
  clear zun;have ogw:Old g w:=⟨hgs⟩;go_enter Tryz.func149,Tryz.ntmps149;by_cases zsa:hi<lo
  ·have HH:=Zh (HZR.out (by omega));have HX0:=Zh HRW.out;go_wp2_with (go_at_call 89;refine(HIV.out _ Zi).mono ?_;rintro e w1 ⟨rfl,hs1⟩)
   go_ret;refine⟨true,cs,rfl,Only.of_ext Zi (Nat.le_of_lt hgs),HX0.out.ext Zi,rfl,fun _=>⟨?_,?_⟩,fun h=>by cases h⟩
   ·rw[HH.out.1,HH.out.2,zeo]
   ·rw[HH.out.1];simp only[zJ];omega
  ·by_cases zuA:budget<=hi-lo
   ·have HX0:=Zh HRW.out;have HCL:=Zh (show budget<cs.sum+(hi-lo+1+zJ rest) by have:=hgd;omega);have hbb:decide (budget<=hi-lo)=true:=by simpa using zuA
    go_wp2_with (go_at_call 89;refine(HIV.out _ Zi).mono ?_;rintro e w1 ⟨rfl,hs1⟩)
    go_ret;exact⟨false,cs,rfl,Only.of_ext Zi (Nat.le_of_lt hgs),HX0.out.ext Zi,rfl,(fun h=>by cases h),fun _=>HCL.out⟩
   ·have hw1:IntKind.i64.wrap (y0+(hi-lo+1))=y0+(hi-lo+1):=by rw[IntKind.wrap_i64];omega
    go_upto_region 7 with (go_at_call 89;refine(HIV.out _ Zi).mono ?_;rintro e w1 ⟨rfl,hs1⟩)
    have hc1:w1.cell? ⟨g,q,none⟩=some (.int .i64 y0):=(zi w).trans zsv;have hf1:w1.frozen? ⟨g,q,none⟩=false:=(qc w).trans hfr;have hg1:g<w1.heap.size:=Nat.lt_of_lt_of_le hgs (Zi:Ext w w1).size;have hR1:Row (w1.setCell ⟨g,q,none⟩ (.int .i64 (y0+(hi-lo+1)))) g 3 .i64 cs1:=by
     rw[zru.out];exact(HRW.out.ext (Zi:Ext w w1)).set q _
    have hO1:Only g w (w1.setCell ⟨g,q,none⟩ (.int .i64 (y0+(hi-lo+1)))):=(Only.of_ext (Zi:Ext w w1) (Nat.le_of_lt hgs)).trans (Only.set hg1 q _);have hfb:w1.heap[w.heap.size]? =some (.cells #[.int .i64 n,.slice SB n sc,.slice DB (n+1) dc] 96 (0,0)):=zj (Zi:Ext (w.alloc (.cells #[.int .i64 n,.slice SB n sc,.slice DB (n+1) dc] 96)) w1) (heap_alloc_new w _);have zvT:(w1.setCell ⟨g,q,none⟩ (.int .i64 (y0+(hi-lo+1)))).heap[w.heap.size]? =some (.cells #[.int .i64 n,.slice SB n sc,.slice DB (n+1) dc] 96 (0,0)):=(Below.heap_setCell w1 ⟨g,q,none⟩ _ w.heap.size (by simp;omega)).trans hfb
    have HFB:=Zh zvT;have HR1:=Zh hR1;have HO1:=Zh hO1;clear hfb zvT hR1 hO1;go_upto_region 8 with fail
    have hgl:g<w.heap.size:=hgs;generalize w1.setCell ⟨g,q,none⟩ (.int .i64 (y0+(hi-lo+1)))=ws at*
    have zvU:g<ws.heap.size:=HR1.out.lt;have hws:w.heap.size<ws.heap.size:=zF HFB.out;have HSB:Hid (∀j,0<=(cs1.take j).sum/\(cs1.take j).sum<=cs1.sum):=Zh (fun j=>zoQ HN1.out j);have hc2:cs1.sum<=2000001:=by omega
    have HOT:=Zh (HO1.out.oth HRW.out);clear zsv hfr hc1 hf1 hs1 hw1 HRW zru;go_wp2_with fail
    go_loopw [14,47] (fun s14 i wr=>∃j:Nat,j<=n/\i= .int .i64 j/\s14= .int .i64 (cs1.take j).sum/\Ext ws wr) (fun _ i _=>n-(intOf i).toNat)
    case atStart=>exact⟨0,by omega,rfl,by simp,Zi⟩
    case round=>
     obtain⟨j,hj,rfl,rfl,hxr⟩:=hrel;by_cases hlt:j<n
     ·obtain⟨y,hy,hcy⟩:=(HR1.out.ext hxr).cell (i:=j) (by omega);have hsb:=HSB.out j;have zxj:=HSB.out (j+1);have hts:=zb8 cs1 j y hy;rw[hts]at zxj;have HT:=Zh hts;have hw2:IntKind.i64.wrap ((cs1.take j).sum+y)=(cs1.take j).sum+y:=by rw[IntKind.wrap_i64];omega
      clear hts hy;go_wp2_with fail
      exact⟨⟨j+1,by omega,by go_num,by rw[HT.out],Zi⟩,by simp[intOf]<;>omega⟩
     ·obtain rfl:j=n:=by omega
      have htk:(cs1.take j).sum=cs1.sum:=by rw[List.take_of_length_le (by omega)]
      rw[htk];obtain⟨wt,hwt⟩:∃wt:World,wt=wr:=⟨_,rfl⟩;by_cases hov:budget<cs1.sum
      ·have zxk:decide (budget<cs1.sum)=true:=by simpa using hov
       go_wp2_with fail
       go_ret;exact⟨false,cs1,rfl,(HO1.out.trans (Only.of_ext (Zi:Ext ws wr) (Nat.le_of_lt zvU))),HR1.out.ext Zi,by omega,(fun h=>by cases h),fun _=>by omega⟩
      ·have zxk:decide (budget<cs1.sum)=false:=by simpa using hov
       obtain⟨wL,rfl⟩:∃wL:World,wL=wr:=⟨_,rfl⟩;clear hwt htk;have HRL:=Zh (HR1.out.ext hxr);have HOL:=Zh (HO1.out.trans (Only.of_ext hxr (Nat.le_of_lt zvU)));have HFL:=Zh (zj hxr HFB.out);have zrS:=Zh (HOT.out.trans (Oth.of_ext hxr));have hgL:g<wL.heap.size:=HRL.out.lt;have hwL:w.heap.size<wL.heap.size:=zF HFL.out;have HFW:Hid (∀W,Only g wL W->W.heap[w.heap.size]? =some (.cells #[.int .i64 j,.slice SB j sc,.slice DB (j+1) dc] 96 (0,0))):=Zh (fun W h=>(h.rest w.heap.size hgl hwL).trans HFL.out)
       clear hlt hj
       cases k with
       |zero=>
        have hb0:decide ((q:Int)+1<(j:Int))=false:=by have:=HQ.out;simp;omega
        obtain⟨⟨f0,-,-⟩,-,-⟩:=j4 (HFW.out wL (Only.refl _ _));have hre:rest=[]:=HRS.out;go_wp2_with fail
        go_loopw [17] (fun x wr=>x= .int .i64 lo/\Ext wL wr) (fun _ _=>0)
        case atStart=>exact⟨rfl,Zi⟩
        case round=>
         obtain⟨rfl,hxq⟩:=hrel;have oW:Old w.heap.size wL:=⟨hwL⟩;have f1:wr.cell? ⟨w.heap.size,0,none⟩=some (.int .i64 j):=(zi wL).trans f0;go_wp2_with fail
         go_ret;refine⟨true,cs1,rfl,HOL.out.trans (Only.of_ext hxq (Nat.le_of_lt hgL)),HRL.out.ext hxq,by omega,fun _=>⟨?_,?_⟩,fun h=>by cases h⟩
         ·rw[hre,zeo]
         ·rw[hre];simp only[zJ];omega
       |succ k=>
        have hr:=qA hL.red;have hq0:=HQ.out;have hmj:=HH1.out;have htq:=HTL.out;have hkm:k+1<m.length:=by omega
        have htm:t.length=m.length-1-(k+1):=by omega
        obtain⟨hlo,hhi⟩:=HLO.out;obtain⟨J,hJ⟩:=Xz (Z9 m za (k+1) t);have hJ2:J=(hi-lo+1).toNat:=by rw[hJ,hlo,hhi];rfl
        have hre:rest=ZE m za k t J:=by rw[hJ];exact HRS.out
        have HK1:Hid (∀i,i<J->0<=left (ent m) za (k+1) ((lo+(i:Int))::t)):=Zh (fun i hi'=>by
         rw[hlo];exact jZ hr t hkm htm H0.out (j:=i) (by rw[hJ]at hi';exact hi'))
        have HK2:Hid (∀i,i<=J->(Zx cs1 (ZE m za k t i)).sum=cs1.sum+zJ (ZE m za k t i)/\(∀x∈Zx cs1 (ZE m za k t i),0<=x)/\zJ (ZE m za k t i)<=zJ rest):=Zh (fun i hi'=>by
         have hk:=zoA hr hb hb1 hkm htm H0.out (q:=i) (by omega);refine⟨zhY (fun p hp=>by have:=hk p hp;omega),zic HN1.out (fun p hp=>(hk p hp).1),?_⟩;rw[hre];exact zoB hr hb hb1 hkm htm H0.out hi' (by omega))
        have HK4:Hid (∀i:Nat,Zx (Zx cs1 (ZE m za k t i)) (ZS m za k ((lo+(i:Int))::t))=Zx cs1 (ZE m za k t (i+1))/\zJ (ZE m za k t (i+1))=zJ (ZE m za k t i)+zJ (ZS m za k ((lo+(i:Int))::t))):=Zh (fun i=>by
         rw[zhX,zen,<-hlo,zdO];exact⟨rfl,rfl⟩)
        have HRE:=Zh hre;have zrc:Hid (∀i,i<J->∀a∈(lo+(i:Int))::t,-9223372036854775808<=a/\a<=9223372036854775807):=Zh (fun i hi' a ha=>by
         rcases mem_cons.1 ha with rfl|ha
         ·omega
         ·exact HTB.out a ha)
        have hq1:q+1<j:=by omega
        have hJn:0<J:=by omega
        have hhl:hi-lo+1=(J:Int):=by omega
        have HIH:=Zh (IH.out k (by omega));clear hre hr hq0 hmj htq hkm htm hlo hhi hJ hJ2 IH;go_wp2_with fail
        go_loopw [17] (fun x wr=>∃i:Nat,i<=J/\x= .int .i64 (lo+(i:Int))/\Hid (Row wr g 3 .i64 (Zx cs1 (ZE m za k t i)))/\Hid (Only g wL wr)/\Hid (cs1.sum+zJ (ZE m za k t i)<=budget)) (fun x _=>(hi-intOf x+1).toNat)
        case atStart=>exact⟨0,by omega,by simp,Zh (by show Row wL g _ _ (Zx cs1 []);rw[zeo];exact HRL.out),Zh (Only.refl _ _),Zh (by show cs1.sum+0<=budget;omega)⟩
        case round=>
         obtain⟨i,hi',rfl,HRI,HOI,HBI⟩:=hrel;have hfr:=HFW.out wr HOI.out;obtain⟨⟨f0,f1,f2⟩,-,f3⟩:=j4 hfr;have oW:Old w.heap.size wr:=⟨f3⟩;by_cases hlt:i<J
         ·have hgr:g<wr.heap.size:=HRI.out.lt;have hOT:Oth 3 w wr:=zrS.out.trans (HOI.out.oth HRL.out);have hF:=HFV.out.oth hOT (by decide) (by decide) (by decide) (by decide);have hT:=HTV.out.oth hOT (by decide);obtain⟨k1,k2,k3⟩:=HK2.out i (by omega);obtain⟨k4,k5⟩:=HK4.out i;have k6:=(HK2.out (i+1) (by omega)).2.2;have HK6:=Zh (show cs1.sum+zJ (ZE m za k t i)+zJ (ZS m za k ((lo+(i:Int))::t))<=cs1.sum+zJ rest by omega)
          have hle:lo+(i:Int)<=hi:=by omega
          have HLG:Hid (∀W,Ext wr W->Cq 90 #[.int .i64 (lo+(i:Int)),.slice TA q tc] W (fun e w'=>∃A c,e= .returned (.slice A (q+1) c)/\Ints w' A 2 .i64 ((lo+(i:Int))::t)/\Step W w')):=Zh (fun W e=>by
           have:=zh3 (w:=W) (c:=tc) (lo+(i:Int)) hT (by rw[HTL.out];omega);rw[HTL.out]at this;refine this.mono ?_;rintro e w' ⟨A,c,rfl,a1,-,-,a4⟩;exact⟨A,c,by rw[length_cons,HTL.out],a1,a4⟩)
          have HCN:Hid (∀(W:World)(A:Option Addr)(c:Nat),Ints W A 2 .i64 ((lo+(i:Int))::t)->Ext wr W->Cq 149 #[.agg #[.int .i64 j,.slice SB j sc,.slice DB (j+1) dc],.int .i64 za,.slice A (q+1) c,.slice (some ⟨g,0,none⟩) j j,.int .i64 budget] W (zaE W m za budget k ((lo+(i:Int))::t) (Zx cs1 (ZE m za k t i)) g)):=Zh (fun W A c hI e=>
           HIH.out W SB DB A sc dc c (q+1) g _ _ (by have:=HQ.out;omega) (hF.ext e) hI (by rw[length_cons,HTL.out]) (zrc.out i hlt) (HK1.out i hlt) (HRI.out.ext e) (by rw[zcu];omega) k2 (by have:=HBI.out;omega))
          have HEX:Hid (∀W,Ext wr W->W.cell? ⟨w.heap.size,0,none⟩=some (.int .i64 j)/\W.cell? ⟨w.heap.size,1,none⟩=some (.slice SB j sc)/\W.cell? ⟨w.heap.size,2,none⟩=some (.slice DB (j+1) dc)):=Zh (fun W e=>(j4 (zj e hfr)).1);have HEO:Hid (∀W,Only g wr W->W.cell? ⟨w.heap.size,0,none⟩=some (.int .i64 j)/\W.cell? ⟨w.heap.size,1,none⟩=some (.slice SB j sc)/\W.cell? ⟨w.heap.size,2,none⟩=some (.slice DB (j+1) dc)):=Zh (fun W e=>(j4 (HFW.out W (HOI.out.trans e))).1)
          unfold zaE at HCN;obtain⟨t2,ht2⟩:∃t2,t2=(lo+(i:Int))::t:=⟨_,rfl⟩;rw[<-ht2]at HLG HCN HK6 k4 k5;rw[k1]at HCN;have zrv:=Zh (And.intro k4 k5);clear hF hT hOT k1 k2 k3 k4 k5 k6 ht2 hfr;generalize ZS m za k t2=yT at*
          go_wp2_with fail
          go_region_held3 (fun w'=>w'.cell? ⟨w.heap.size,0,none⟩=some (.int .i64 j)/\w'.cell? ⟨w.heap.size,1,none⟩=some (.slice SB j sc)/\w'.cell? ⟨w.heap.size,2,none⟩=some (.slice DB (j+1) dc))
           (first|exact HEX.out _ Zi|exact HEO.out _ hOx)
           (first
            |(go_at_call 90;refine(HLG.out _ Zi).mono ?_;rintro e w5 ⟨A5,c5,rfl,hI5,hs5⟩)
            |(go_at_call 149;refine(HCN.out _ _ _ hI5 Zi).mono ?_;rintro e w6 ⟨ok,cs2,rfl,hO6,hR6,hl6,ht6,hf6⟩;have hOx:Only g wr w6:=(Only.of_ext (Zi:Ext wr w5) (Nat.le_of_lt hgr)).trans hO6))
          have zvV:g<w6.heap.size:=hR6.lt;have HR6:=Zh hR6;have HT6:=Zh ht6;have HF6:=Zh hf6;have HO6:=Zh hOx;have HXW:=Zh (HOL.out.trans (HOI.out.trans hOx));have hal:=zcu cs1 (ZE m za k t i);have hl7:cs2.length=cs.length:=by omega
          clear hR6 ht6 hf6 hO6 hOx
          cases ok with
          |false=>
           go_wp2_with fail
           go_ret;have h8:=HF6.out trivial;have h9:=HK6.out;exact .inl ⟨rfl,HXW.out.trans (Only.of_ext Zi (Nat.le_of_lt zvV)),cs2,HR6.out.ext Zi,by omega,by omega⟩
          |true=>
           obtain⟨h8,h9⟩:=HT6.out rfl;have hw3:IntKind.i64.wrap (lo+(i:Int)+1)=lo+((i+1:Nat):Int):=by rw[IntKind.wrap_i64];omega
           have HS8:=Zh h8;have HK9:=Zh h9;clear h8 h9;go_wp2_with fail
           refine⟨⟨i+1,by omega,by first|rfl|(congr 1;omega),Zh ?_,Zh ?_,Zh ?_⟩,by simp[intOf]<;>omega⟩
           ·have h1:=HR6.out;rw[HS8.out,zrv.out.1]at h1;exact h1.ext Zi
           ·exact(HOI.out.trans HO6.out).trans (Only.of_ext Zi (Nat.le_of_lt zvV))
           ·rw[zrv.out.2];have:=HK9.out;omega
         ·obtain rfl:i=J:=by omega
          have zsM:decide (lo+(i:Int)<=hi)=false:=by simp;omega
          have zsu:Only g w wr:=HOL.out.trans HOI.out;go_wp2_with fail
          go_ret;refine⟨true,_,rfl,zsu.trans (Only.of_ext Zi (by have:=HRI.out.lt;omega)),HRI.out.ext Zi,by rw[zcu];omega,fun _=>⟨by rw[HRE.out],?_⟩,fun h=>by cases h⟩;have:=HBI.out;rw[HRE.out];omega
set_option maxRecDepth 20000 in
theorem zoS{most:Int}(hM:MatA w0 A m)(hL:LLLed m)(h1:m.length=n)(hb0:0<=za)(hb1:za<=most)(hu0:0<=budget)(hu1:budget<=1000000)[hx:Ext w0 w]:
  Cq 148 #[.slice A n c,.int .i64 za,.int .i64 most,.int .i64 budget] w (zy w (.int .i64 0)):=by
 have HR:=Zh (fun W(e:Ext w0 W)=>zhK (w:=W) (c:=c) hM hL h1 hL.fits hL.bd);have c1:decide (za<0)=false:=by simp;omega
 have c2:decide (most<za)=false:=by simp;omega
 have c3:decide (budget<0)=false:=by simp;omega
 have c4:decide (1000000<budget)=false:=by simp;omega
 clear hM hL h1;go_enter Tryz.func148,Tryz.ntmps148;go_wp2_with (go_at_call 166;refine(HR.out _ Zi).mono ?_;rintro e w2 ⟨rfl,hs2⟩)
 go_ret;exact⟨rfl,Step.of _ _⟩
def zeu(w:World)(m:List (List Int))(n:Nat)(za budget:Int)(e:Ending)(w':World):Prop:=
 (ZX m za<=budget/\∃g,e= .returned (.tuple #[.slice (some ⟨g,0,none⟩) n n,.int .i64 0])/\Row w' g 3 .i64 (qu m za)/\w.heap.size<=g/\Step w w')∨(budget<ZX m za/\e= .returned (.tuple #[.slice none 0 0,.int .i64 9])/\Step w w')
set_option maxRecDepth 20000 in
theorem zoT(hM:MatA w0 A m)(hL:LLLed m)(h1:m.length=n)(hb:0<=za)(hb1:za<1073741824)(hu0:0<=budget)(hu1:budget<=1000000)[hx:Ext w0 w]:
  Cq 83 #[.slice A n c,.int .i64 za,.int .i64 budget] w (zeu w m n za budget):=by
 have hr:=qA hL.red;have hn8:=hL.len8;have hn1:=hL.len1;have HAR:Hid (∀W,Ext w0 W->Cq 148 #[.slice A n c,.int .i64 za,.int .i64 4611686018427387904,.int .i64 budget] W (zy W (.int .i64 0))):=Zh (fun W e=>zoS hM hL h1 hb (by omega) hu0 hu1);have HOF:Hid (∀W,Ext w0 W->Cq 44 #[.slice A n c] W (zer W m n)):=Zh (fun W e=>zh4 hM hL h1);have hmk:=ja (P:=Tryz.prog) (k:= .i64) Tryz.underlying28 ju (by omega) (n:Int) (by omega) (by omega)
 simp only[Int.toNat_natCast]at hmk;have h0n:∀x∈List.replicate n (0:Int),0<=x:=fun x hx=>by rw[List.eq_of_mem_replicate hx];omega
 have hs0:(List.replicate n (0:Int)).sum=0:=by simp
 have zsH:=JU hr hb;have HCN:Hid (∀(W:World)(SB DB:Option Addr)(sc dc g:Nat),FrV W m SB DB->Row W g 3 .i64 (List.replicate n 0)->Cq 149 #[.agg #[.int .i64 n,.slice SB n sc,.slice DB (n+1) dc],.int .i64 za,.slice none 0 0,.slice (some ⟨g,0,none⟩) n n,.int .i64 budget] W (zaE W m za budget (n-1) [] (List.replicate n 0) g)):=Zh (fun W SB DB sc dc g hF hR=>
  zoR hL h1 hb hb1 hu0 hu1 (n-1) W SB DB none sc dc 0 0 g [] _ (by omega) hF Ints.nil rfl (fun a ha=>by simp at ha) (by rw[h1]at zsH;exact zsH) hR (by simp) h0n (by rw[hs0];exact hu0))
 have e1:=zoE hr hb;have e2:=zh1 hr hb;rw[h1]at e1 e2;have HT:Hid (ZX m za=zJ (ZS m za (n-1) [])):=Zh e1;have HS:Hid (qu m za=Zx (List.replicate n 0) (ZS m za (n-1) [])):=Zh e2;unfold zaE at HCN;rw[hs0,Int.zero_add,<-HT.out,<-HS.out]at HCN;unfold zeu;generalize ZX m za=tot at*
 generalize qu m za=st at*
 clear hr hL h1 zsH e1 e2 HT HS h0n hs0 hM;obtain⟨zs,hzs⟩:∃zs,zs=List.replicate n (0:Int):=⟨_,rfl⟩;have HZS:=Zh hzs;rw[<-hzs]at HCN;clear hzs;go_enter Tryz.func83,Tryz.ntmps83;go_wp2_with (first
  |(go_at_call 148;refine(HAR.out _ Zi).mono ?_;rintro e w1 ⟨rfl,hs1⟩)
  |(go_at_call 44;refine(HOF.out _ Zi).mono ?_;rintro e w2 ⟨SB,sc,DB,dc,rfl,hF,-,-,-,-,hs2⟩;have hR2:Row w2 w1.heap.size 3 .i64 zs:=(by rw[HZS.out];exact(Row.made w1 n .i64 3).ext Zi);have zsU:Ext w1 w2:=Zi;have zxl:Ext w w2:=Zi;have hws:w.heap.size<=w1.heap.size:=(Zi:Ext w w1).size)
  |(go_at_call 149;refine(HCN.out _ _ _ _ _ _ hF hR2).mono ?_;rintro e w6 ⟨ok,cs2,rfl,hO6,hR6,hl6,ht6,hf6⟩;have hx6:Ext w w6:=hO6.ext zxl hws;have HR6:=Zh hR6;have HT6:=Zh ht6;have HF6:=Zh hf6;clear hR6 ht6 hf6 hO6;cases ok))
 ·go_ret2
  exact .inr ⟨HF6.out trivial,rfl,hx6.toStep⟩
 ·obtain⟨h8,h9⟩:=HT6.out trivial;have h10:=HR6.out;rw[h8]at h10;go_ret2
  exact .inl ⟨h9,_,rfl,h10,hws,hx6.toStep⟩
theorem zoU(hn:AllLen m m.length):qj m 0=m:=by
 unfold qj;rw[Nat.sub_zero];have:tab (fun i j=>E (ent m) 0 (0+i) (0+j)) m.length m.length=tab (fun i j=>ent m i j) m.length m.length:=zgy fun i j _ _=>by rw[Nat.zero_add,Nat.zero_add];rfl
 rw[this];exact(zhB rfl hn).symm
theorem zoV(hL:LLLed m)(hxl:x.length=m.length)(hxb:∀a∈x,-9223372036854775808<=a/\a<=9223372036854775807):Bd 100000 (zg m x):=by
 have h8:=hL.len8;rw[<-zbs hL.all x hxl,zej];have h1:=zei (m:=m) (n:=m.length) (k:=199) (x:=x) (by omega) hL.bd (fun i=>(zbu hxb i).mono (by omega));exact(JW (k:=64+(2*199+m.length)) (n:=m.length) (fun i _=>(zbu hxb i).mul (h1 i)) m.length Zr).mono (by omega)
set_option maxRecDepth 20000 in
theorem zoW{w1:World}{SB DB:Option Addr}{sc dc:Nat}(hF':FrV w0 m SB DB)(hL:LLLed m)(h1:m.length=n)(hX:Ints w1 XA 2 .i64 x)(hxl:x.length=n)(hxb:∀a∈x,-9223372036854775808<=a/\a<=9223372036854775807)[hx:Ext w0 w][hy:Ext w1 w]:
  Cq 92 #[.agg #[.int .i64 n,.slice SB n sc,.slice DB (n+1) dc],.slice XA n xc] w (jo w (fun p q=>p=zg m x/\q=1)):=by
 have h8:=hL.len8;have h3:=hL.len1;have hF:=hF'.ext hx;have hms:((List.range m.length).map (qj m))[0]? =some (qj m 0):=by rw[List.getElem?_map,List.getElem?_range (by omega)];rfl
 obtain⟨bs,os,BM,cM,rfl,g1,hM,-,-,g2⟩:=hF.1.at_ hms;rw[zoU hL.all]at g1 hM;obtain⟨bd,od,gD,BD,kD,dD,rfl,d1,d2,hzD,d3⟩:=hF.2.atD (i:=0) (by simp);simp only[List.getD_cons_zero]at hzD;rw[h1]at g1;simp only[Nat.add_zero,Nat.zero_mul]at g1 d1 d2;have zr9:AllLen m n:=by rw[<-h1];exact hL.all
 have HCO:Hid (∀W,Ext w1 W->Cq 155 #[.slice XA n xc] W (zaD W x)):=Zh (fun W e=>by
  have:=zcq (w:=W) (c:=xc) hX (by omega) hxb;rwa [hxl]at this)
 have hnv:(zt n fun i=>x.getD i 0*(ZR m n x).getD i 0)=zg m x:=by
  rw[<-zbs hL.all x (by omega),zej,h1]
 have HVA:Hid (∀(W1 W:World)(A1:Option Addr)(c1:Nat),IntsV W1 A1 x->Ext W1 W->Ext w W->Cq 165 #[.slice BM n cM,.slice A1 n c1] W (zD W (zg m x))):=Zh (fun W1 W A1 c1 i1 e1 e2=>by
  rw[<-hnv];exact zoF (k:=199) (hM.ext e2) i1 h1 (by omega) (by omega) zr9 hxl (by omega) hL.bd (fun i=>(zbu hxb i).mono (by omega)))
 have hnb:=zoV hL (x:=x) (by omega) hxb;have HQU:Hid (∀(W1 W:World)g B k d,IntV W1 g B k d (zg m x)->Ext W1 W->Ext w W->Cq 122 #[.agg #[.bool g,.slice B k d],.agg #[.bool gD,.slice BD kD dD]] W (jo W (RatOf (zg m x) 1))):=Zh (fun W1 W g B k d hz e1 e2=>zhy hz (hzD.ext e2) (kk:=100000) (by omega) hnb (Bd.one (by omega)) (by omega));have HXL:=Zh hxl;have hn0:((n:Int)==0)=false:=by simp;omega
 have hn8:n<=8:=by omega
 have hn1:0<n:=by omega
 unfold jo at HQU|-
 generalize zg m x=nv at*
 clear hF hF' hms hM hL h1 hX hxl hxb zr9 hnv hnb hzD h8 h3;have oa:Old bs w:=⟨g2⟩;have ob:Old bd w:=⟨d3⟩;go_enter Tryz.func92,Tryz.ntmps92;go_wp2_with fail
 have HKP:Hid (∀W,Ext (w.alloc (.cells #[.int .i64 n,.slice (some ⟨bs,os,none⟩) n sc,.slice (some ⟨bd,od,none⟩) (n+1) dc] 96)) W->W.cell? ⟨w.heap.size,1,none⟩=some (.slice (some ⟨bs,os,none⟩) n sc)/\W.cell? ⟨w.heap.size,2,none⟩=some (.slice (some ⟨bd,od,none⟩) (n+1) dc)/\W.cell? ⟨bs,os,none⟩=some (.slice BM n cM)/\W.cell? ⟨bd,od,none⟩=some (.bool gD)/\W.cell? ⟨bd,od+1,none⟩=some (.slice BD kD dD)):=Zh (fun W e=>by
  have hb:=zj e (heap_alloc_new w _);obtain⟨⟨-,f1,f2⟩,-,-⟩:=j4 hb;have e2:Ext w W:=Ext.trans Zi e;exact⟨f1,f2,(zi w).trans g1,(zi w).trans d1,(zi w).trans d2⟩)
 go_region_held3 (fun w'=>w'.cell? ⟨w.heap.size,1,none⟩=some (.slice (some ⟨bs,os,none⟩) n sc)/\w'.cell? ⟨w.heap.size,2,none⟩=some (.slice (some ⟨bd,od,none⟩) (n+1) dc)/\w'.cell? ⟨bs,os,none⟩=some (.slice BM n cM)/\w'.cell? ⟨bd,od,none⟩=some (.bool gD)/\w'.cell? ⟨bd,od+1,none⟩=some (.slice BD kD dD))
  (exact HKP.out _ Zi)
  (first
   |(go_at_call 155;refine(HCO.out _ Zi).mono ?_;rintro e w3 ⟨A3,c3,rfl,hI3,-,-,hs3⟩;rw[HXL.out])
   |(go_at_call 165;refine(HVA.out _ _ _ _ hI3 Zi Zi).mono ?_;rintro e w4 ⟨g4,B4,k4,d4,rfl,hz4,hs4⟩)
   |(go_at_call 122;refine(HQU.out _ _ _ _ _ _ hz4 Zi Zi).mono ?_;rintro e w5 ⟨g6,B6,k6,d6,g7,B7,k7,d7,p,q,rfl,hz6,hz7,hPQ,hs5⟩;have hbk:=(Zi:BlkAt (w.heap.size+1) #[.bool false,.slice none 0 0,.bool false,.slice none 0 0] 156 w5).eq;have HBK:=Zh hbk;obtain⟨⟨a0,a1,a2,a3⟩,⟨f0,f1,f2,f3⟩,a4⟩:=Q5 hbk;have tq:Typed (w.heap.size+1) 156 w5:=⟨_,_,hbk⟩;clear hbk))
 have hq1:q=1:=by
  have:=hPQ.pos;have:=hPQ.le2;omega
 have hp1:p=nv:=by
  have:=hPQ.eq;rw[hq1]at this;omega
 clear hPQ;go_wp2_with fail
 exact bodyPost_ret (v:= .agg #[.bool g6,.slice B6 k6 d6,.bool g7,.slice B7 k7 d7]) (by simp[results,Tryz.results92,go_sem,a0,a1,a2,a3]) rfl ⟨_,_,_,_,_,_,_,_,p,q,rfl,hz6.keeps,hz7.keeps,⟨hp1,hq1⟩,Step.of _ _⟩
def ItV(w:World)(vs:List Value)(its:List (Int×List Int)):Prop:=vs.length=its.length*2/\∀(i:Nat)(p:Int×List Int),its[i]? =some p->∃B c,vs[i*2]? =some (.int .i64 p.1)/\vs[i*2+1]? =some (.slice B p.2.length c)/\Ints w B 2 .i64 p.2/\p.2.length<=c/\c<=9223372036854775807
theorem ItV.map(h:ItV w vs its)(hk:∀{B:Option Addr}{l:List Int},Ints w B 2 .i64 l->Ints w' B 2 .i64 l):ItV w' vs its:=⟨h.1,fun i p hp=>by
 obtain⟨B,c,a1,a2,a3,a4⟩:=h.2 i p hp;exact⟨B,c,a1,a2,hk a3,a4⟩⟩
theorem ItV.ext(h:ItV w vs its)(hx:Ext w w'):ItV w' vs its:=h.map fun h=>h.ext hx
theorem ItV.nil(w:World):ItV w [] []:=⟨rfl,fun i p hp=>by simp at hp⟩
theorem ItV.snoc(h:ItV w vs its){B:Option Addr}(hI:Ints w B 2 .i64 x)(h1:x.length<=c)(h2:c<=9223372036854775807):ItV w (vs++[.int .i64 a,.slice B x.length c]) (its++[(a,x)]):=by
 refine⟨by simp[h.1];omega,fun i p hp=>?_⟩;rcases Zl i its.length with hlt|hge
 ·rw[getElem?_append_left hlt]at hp;obtain⟨B',c',a1,a2,a3⟩:=h.2 i p hp;have hl:=h.1;exact⟨B',c',by rw[getElem?_append_left (by omega)];exact a1,by rw[getElem?_append_left (by omega)];exact a2,a3⟩
 ·have hi:i=its.length:=by
   have:=(Zg.1 hp).1;simp at this;omega
  subst hi;rw[getElem?_append_right Zr,Nat.sub_self]at hp;simp only[List.getElem?_cons_zero]at hp;injection hp with hp
  subst hp;have hl:=h.1;exact⟨B,c,by rw[getElem?_append_right (by omega),hl,Nat.sub_self];rfl,by rw[getElem?_append_right (by omega),hl,Nat.add_sub_cancel_left];rfl,hI,h1,h2⟩
end
section
open Go.RowKit
open La
theorem QJ:(Tryz.prog.info? 62).map (fun i=>(i.zero,i.size,i.bytes))=some (some (.agg #[.int .i64 0,.slice none 0 0]),2,32):=by kernel_rfl
theorem Grow.stepI{w2:World}(h:Grow zf e w w')(h':Grow zf e w' w2):Grow zf e w w2:=⟨h.below.trans h'.below,fun k hk hne=>by
 have e1:=h.typed k hk hne;exact(h'.typed k (Nat.lt_of_lt_of_le hk h.below.size) (fun cs fr hh=>hne cs fr (by rw[<-e1];exact hh))).trans e1⟩
theorem zoX(g:Bool)(B:Option Addr)(k d:Nat)(g':Bool)(B':Option Addr)(k' d':Nat)(w:World):(Instr.field 156 (.agg #[.bool g,.slice B k d,.bool g',.slice B' k' d']) 0).run Tryz.prog w= .ok (.agg #[.bool g,.slice B k d]) w:=by
 obtain⟨i,h1,h2,h3,h4⟩:=info_parts jd;simp[Instr.field,run_underlying Tryz.underlying156,asAgg,part,sizeOf,typeInfo,go_sem,h1,h3]
attribute [local go_sem] zoX
def lvN(m:List (List Int))(b:Int):Nat->List Int->List (List Int)
 |0,t=>[t]
 |k+1,t=>Zp m b k t
def qY(m:List (List Int))(b:Int)(k:Nat)(t:List Int)(q:Nat):List (List Int):=(List.range q).flatMap fun(j:Nat)=>lvN m b k ((zL m b k t+(j:Int))::t)
theorem zoY(m:List (List Int))(b:Int)(k:Nat)(t:List Int):Zp m b k t=qY m b k t (Z9 m b k t):=by
 cases k with
 |zero=>
  unfold qY lvN;rw[Zp];induction List.range (Z9 m b 0 t) with
  |nil=>rfl
  |cons a l ih=>rw[List.map_cons,List.flatMap_cons,ih];rfl
 |succ k=>rfl
theorem zid(m:List (List Int))(b:Int)(k:Nat)(t:List Int)(q:Nat):qY m b k t (q+1)=qY m b k t q++lvN m b k ((zL m b k t+(q:Int))::t):=by
 unfold qY;rw[List.range_succ,List.flatMap_append,List.flatMap_singleton]
theorem zoZ(m:List (List Int))(b:Int)(k:Nat)(t:List Int){p q:Nat}(h:p<=q):(qY m b k t p).length<=(qY m b k t q).length:=by
 induction q with
 |zero=>obtain rfl:p=0:=by omega
        exact Zr
 |succ q ih=>
  rcases Zl p (q+1) with h1|h1
  ·have:=ih (by omega);rw[zid,length_append];omega
  ·obtain rfl:p=q+1:=by omega
   exact Zr
def jO(m:List (List Int))(L:List (List Int)):List (Int×List Int):=L.map fun x=>(zg m x,x)
theorem zie(m:List (List Int))(L L':List (List Int)):jO m (L++L')=jO m L++jO m L':=List.map_append
def zcw(w:World)(zf len:Nat)(its:List (Int×List Int))(m L:List (List Int))(e:Ending)(w':World):Prop:=∃A c vs,e= .returned (.slice A (len+L.length) c)/\Own w' zf 62 2 A (len+L.length) c vs/\ItV w' vs (its++jO m L)/\Grow zf 62 w w'
set_option maxRecDepth 20000 in
theorem zo0(hL:LLLed m)(h1:m.length=n)(hb:0<=za)(hb1:za<1073741824)(k:Nat):
  ∀(w:World)(SB DB TA OA:Option Addr)(sc dc tc oc q len:Nat)(t:List Int)(vs:List Value)(its:List (Int×List Int)),n=k+q+1->FrV w m SB DB->Ints w TA 2 .i64 t->t.length=q->(∀a∈t,-9223372036854775808<=a/\a<=9223372036854775807)->0<=left (ent m) za (k+1) t->Own w zf 62 2 OA len oc vs->ItV w vs its->zf<=w.heap.size->len+(Zp m za k t).length<=4000000->
  Cq 45 #[.agg #[.int .i64 n,.slice SB n sc,.slice DB (n+1) dc],.int .i64 za,.slice TA q tc,.slice OA len oc] w (zcw w zf len its m (Zp m za k t)):=by
 induction k using Nat.strongRecOn with
 |ind k ih=>
  intro w SB DB TA OA sc dc tc oc q len t vs its hq hF hT htl htb h0 hO hV hbs hln;have IH:=Zh ih;clear ih;have hr:=qA hL.red;have hn8:=hL.len8;have hkm:k<m.length:=by omega
  have htm:t.length=m.length-1-k:=by omega
  obtain⟨v1,v2,v3,v4,v5,v6⟩:=zeq hr hb hb1 hkm htm h0;have HIV:Hid (∀W,Ext w W->Cq 89 #[.agg #[.int .i64 n,.slice SB n sc,.slice DB (n+1) dc],.int .i64 za,.slice TA q tc] W (zy W (.tuple #[.int .i64 (zL m za k t),.int .i64 (Za m za k t)]))):=Zh (fun W e=>
   zib hF hL h1 hq hT htl htb (by omega) (by omega) h0 (by omega) (by omega) (by omega) (by omega))
  rw[zoY]at hln|-
  unfold zcw;obtain⟨J,hJ⟩:=Xz (Z9 m za k t);rw[<-hJ]at hln|-
  have hJ2:J=(Za m za k t-zL m za k t+1).toNat:=hJ;have HK1:Hid (∀i,i<J->0<=left (ent m) za k ((zL m za k t+(i:Int))::t)):=Zh (fun i hi'=>jZ hr t hkm htm h0 (j:=i) (by rw[hJ]at hi';exact hi'));have HK2:Hid (∀i,i<=J->(qY m za k t i).length<=(qY m za k t J).length):=Zh (fun i hi'=>zoZ m za k t hi');have HK4:=Zh (zid m za k t);obtain⟨lo,hlo⟩:=Xz (zL m za k t);obtain⟨hi,hhi⟩:=Xz (Za m za k t)
  rw[<-hlo]at v1 v2 v3 v4 HIV HK1 HK4 hJ2;rw[<-hhi]at v1 v2 v5 v6 HIV hJ2;have hhl:hi-lo+1=(J:Int):=by omega
  have zrc:Hid (∀i,i<J->∀a∈(lo+(i:Int))::t,-9223372036854775808<=a/\a<=9223372036854775807):=Zh (fun i hi' a ha=>by
   rcases mem_cons.1 ha with rfl|ha
   ·omega
   ·exact htb a ha)
  have HNB:Hid (k=0->∀i,i<J->-9223372036854775808<=zg m ((lo+(i:Int))::t)/\zg m ((lo+(i:Int))::t)<=9223372036854775807):=Zh (fun e i hi'=>by
   have h4:=HK1.out i hi';subst e;have hlx:((lo+(i:Int))::t).length=m.length:=by simp;omega
   rw[jK hL.all za _ hlx]at h4;have:=zbg hr _ hlx;omega)
  have HFV:=Zh hF;have HTV:=Zh hT;have HH1:=Zh h1;have HTL:=Zh htl;have HQ:=Zh hq;have HO:=Zh hO;have HV:=Zh hV;have hqn:q<n:=by omega
  have hn9:n<=8:=by omega
  clear hlo hhi h1 hkm hq htl hJ hF hT htb h0 hO hV hr htm hJ2;go_enter Tryz.func45,Tryz.ntmps45;go_upto_region 2 with (go_at_call 89;refine(HIV.out _ Zi).mono ?_;rintro e w1 ⟨rfl,hs1⟩)
  have hx1:Ext w w1:=Zi;have zvW:zf<=w1.heap.size:=Nat.le_trans hbs hx1.size;have hfb:w1.heap[w.heap.size]? =some (.cells #[.int .i64 n,.slice SB n sc,.slice DB (n+1) dc] 96 (0,0)):=zj (Zi:Ext (w.alloc (.cells #[.int .i64 n,.slice SB n sc,.slice DB (n+1) dc] 96)) w1) (heap_alloc_new w _);have HFW:Hid (∀W,Grow zf 62 w1 W->W.heap[w.heap.size]? =some (.cells #[.int .i64 n,.slice SB n sc,.slice DB (n+1) dc] 96 (0,0))):=Zh (fun W h=>h.heap hfb (by decide))
  have HG0:Hid (Grow zf 62 w w1):=Zh (Grow.of_ext hx1 hbs);clear hfb;go_wp2_with fail
  go_loopw [3,11] (fun s3 x wr=>∃(i:Nat) (A3:Option Addr) (c3:Nat) (vs3:List Value),i<=J/\x= .int .i64 (lo+(i:Int))/\s3= .slice A3 (len+(qY m za k t i).length) c3/\Hid (Own wr zf 62 2 A3 (len+(qY m za k t i).length) c3 vs3)/\Hid (ItV wr vs3 (its++jO m (qY m za k t i)))/\Hid (Grow zf 62 w1 wr)) (fun _ x _=>(hi-intOf x+1).toNat)
  case atStart=>exact⟨0,OA,oc,vs,by omega,by simp,rfl,Zh (HO.out.ext hx1),Zh (by have:=HV.out.ext hx1;simpa[qY,jO] using this),Zh (Grow.of_ext (Ext.refl _) zvW)⟩
  case round=>
   obtain⟨i,A3,c3,vs3,hi',rfl,rfl,HOI,HVI,HGI⟩:=hrel;have hfr:=HFW.out wr HGI.out;obtain⟨⟨f0,f1,f2⟩,-,f3⟩:=j4 hfr;have oW:Old w.heap.size wr:=⟨f3⟩;have zuo:zf<=wr.heap.size:=Nat.le_trans zvW HGI.out.below.size;by_cases hlt:i<J
   ·have hG:=HG0.out.stepI HGI.out;have hF:=HFV.out.oth (Oth.of_grow hG) (by decide) (by decide) (by decide) (by decide);have hT:=HTV.out.oth (Oth.of_grow hG) (by decide);have hk4:=HK4.out i;have hk2:=HK2.out (i+1) (by omega);rw[hk4,length_append]at hk2;have hle:lo+(i:Int)<=hi:=by omega
    have HLG:Hid (∀W,Ext wr W->Cq 90 #[.int .i64 (lo+(i:Int)),.slice TA q tc] W (fun e w'=>∃A c,e= .returned (.slice A (q+1) c)/\Ints w' A 2 .i64 ((lo+(i:Int))::t)/\q+1<=c/\c<=9223372036854775807/\Step W w')):=Zh (fun W e=>by
     have:=zh3 (w:=W) (c:=tc) (lo+(i:Int)) hT (by rw[HTL.out];omega);rw[HTL.out]at this;refine this.mono ?_;rintro e w' ⟨A,c,rfl,a1,a2,a3,a4⟩;rw[length_cons,HTL.out]at a2;exact⟨A,c,by rw[length_cons,HTL.out],a1,a2,a3,a4⟩)
    have hw3:IntKind.i64.wrap (lo+(i:Int)+1)=lo+((i+1:Nat):Int):=by rw[IntKind.wrap_i64];omega
    have HEX:Hid (∀W,Ext wr W->W.cell? ⟨w.heap.size,0,none⟩=some (.int .i64 n)/\W.cell? ⟨w.heap.size,1,none⟩=some (.slice SB n sc)/\W.cell? ⟨w.heap.size,2,none⟩=some (.slice DB (n+1) dc)):=Zh (fun W e=>(j4 (zj e hfr)).1);rcases k with _|k
    ·have hqe:q+1=n:=by have:=HQ.out;omega
     have hb0:decide ((q:Int)+1<(n:Int))=false:=by simp;omega
     have HPA:Hid (∀(W1 W:World)(A:Option Addr)(c:Nat),Ints W1 A 2 .i64 ((lo+(i:Int))::t)->Ext W1 W->Ext wr W->Cq 92 #[.agg #[.int .i64 n,.slice SB n sc,.slice DB (n+1) dc],.slice A (q+1) c] W (jo W (fun p q=>p=zg m ((lo+(i:Int))::t)/\q=1))):=Zh (fun W1 W A c i1 e1 e2=>by
      rw[hqe];exact zoW (hF.ext e2) hL HH1.out i1 (by rw[length_cons,HTL.out];exact hqe) (zrc.out i hlt))
     have hnb:=HNB.out rfl i hlt;have HLN:Hid (lvN m za 0 ((lo+(i:Int))::t)=[(lo+(i:Int))::t]):=Zh rfl;rw[HLN.out]at hk4 hk2;have HK4':=Zh hk4;have zrn:Hid (((lo+(i:Int))::t).length=q+1):=Zh (by rw[length_cons,HTL.out]);simp only[length_cons,List.length_nil]at hk2;obtain⟨t2,ht2⟩:∃t2,t2=(lo+(i:Int))::t:=⟨_,rfl⟩;rw[<-ht2]at HLG HPA hnb HK4' zrn;have HN2:Hid (jO m [t2]=[(zg m t2,t2)]):=Zh rfl
     unfold jo at HPA;generalize zg m t2=nv at*
     clear hF hT hG hk4 ht2 hfr hqe;go_wp2_with (first
      |(go_at_call 90;refine(HLG.out _ Zi).mono ?_;rintro e w5 ⟨A5,c5,rfl,hI5,h51,h52,hs5⟩;obtain⟨x0,x1,x2⟩:=HEX.out w5 Zi;have zvX:Ext wr w5:=Zi)
      |(go_at_call 92;refine(HPA.out _ _ _ _ hI5 Zi Zi).mono ?_;rintro e w6 ⟨g6,B6,k6,d6,g7,B7,k7,d7,p,qq,rfl,hz6,hz7,⟨rfl,-⟩,hs6⟩)
      |(go_at_call 91;refine(za4 hz6 hnb.1 hnb.2).mono ?_;rintro e w7 ⟨rfl,hs7⟩;have hI7:=hI5.ext (Zi:Ext w5 w7);have hx7:Ext wr w7:=Zi;have zys:zf<=w7.heap.size:=Nat.le_trans zuo hx7.size)
      |(at_builtin;go_loud (refine zM _ rfl _ _ 59 rfl zf 62 (.agg #[.int .i64 0,.slice none 0 0]) 2 32 Tryz.underlying59 QJ rfl (by omega) (by omega) A3 (len+(qY m za 0 t i).length) c3 vs3 rfl (HOI.out.ext Zi) (some ⟨w7.heap.size,0,none⟩) 1 1 [.int .i64 p,.slice A5 (q+1) c5] rfl (Arr.new w7 62 #[.int .i64 p,.slice A5 (q+1) c5]) (by simp) (by simp[Value.oneCell']) (by omega) (by simp;omega) ?_);intro A8 c8 w8 zr5 hg;have HO8:=Zh zr5;have HG8:=Zh hg;clear zr5 hg))
     refine⟨⟨i+1,A8,c8,vs3++[.int .i64 p,.slice A5 (q+1) c5],by omega,by first|rfl|(congr 1;omega),?_,Zh ?_,Zh ?_,Zh (HGI.out.stepI ((Grow.of_ext (Zi:Ext wr (w7.alloc (.cells #[.int .i64 p,.slice A5 (q+1) c5] 62))) zuo).stepI HG8.out))⟩,by simp[intOf]<;>omega⟩
     ·rw[HK4'.out];simp only[length_append,length_cons,List.length_nil];rfl
     ·rw[HK4'.out,length_append,List.length_singleton,<-Nat.add_assoc];exact HO8.out
     ·rw[HK4'.out,zie,HN2.out,<-List.append_assoc];rw[<-zrn.out];exact(ItV.snoc (HVI.out.ext (Zi:Ext wr w7)) (hI7) (by rw[zrn.out];exact h51) h52).map fun h=>(h.ext (Zi:Ext w7 (w7.alloc (.cells #[.int .i64 p,.slice A5 (q+1) c5] 62)))).oth (Oth.of_grow HG8.out) (by decide)
    ·have hq1:q+1<n:=by have:=HQ.out;omega
     have hb0:decide ((q:Int)+1<(n:Int))=true:=by simp;omega
     have HLN:Hid (lvN m za (k+1) ((lo+(i:Int))::t)=Zp m za k ((lo+(i:Int))::t)):=Zh rfl;rw[HLN.out]at hk4 hk2;have HCN:Hid (∀(W:World)(A:Option Addr)(c:Nat),Ints W A 2 .i64 ((lo+(i:Int))::t)->Ext wr W->Cq 45 #[.agg #[.int .i64 n,.slice SB n sc,.slice DB (n+1) dc],.int .i64 za,.slice A (q+1) c,.slice A3 (len+(qY m za (k+1) t i).length) c3] W (zcw W zf (len+(qY m za (k+1) t i).length) (its++jO m (qY m za (k+1) t i)) m (Zp m za k ((lo+(i:Int))::t)))):=Zh (fun W A c hI e=>
      IH.out k (by omega) W SB DB A A3 sc dc c c3 (q+1) _ _ vs3 _ (by have:=HQ.out;omega) (hF.ext e) hI (by rw[length_cons,HTL.out]) (zrc.out i hlt) (HK1.out i hlt) (HOI.out.ext e) (HVI.out.ext e) (Nat.le_trans zuo e.size) (by omega))
     have HK4':=Zh hk4;unfold zcw at HCN;obtain⟨t2,ht2⟩:∃t2,t2=(lo+(i:Int))::t:=⟨_,rfl⟩;rw[<-ht2]at HLG HCN HK4';clear hF hT hG hk4 hk2 ht2 hfr HLN;generalize Zp m za k t2=L2 at*
     go_wp2_with (first
      |(go_at_call 90;refine(HLG.out _ Zi).mono ?_;rintro e w5 ⟨A5,c5,rfl,hI5,h51,h52,hs5⟩;obtain⟨x0,x1,x2⟩:=HEX.out w5 Zi;have zvX:Ext wr w5:=Zi)
      |(go_at_call 45;refine(HCN.out _ _ _ hI5 Zi).mono ?_;rintro e w6 ⟨A6,c6,vs6,rfl,hO6,hV6,hG6⟩;have HO6:=Zh hO6;have HV6:=Zh hV6;have HG6:=Zh ((Grow.of_ext zvX zuo).stepI hG6);clear hO6 hV6 hG6))
     refine⟨⟨i+1,A6,c6,vs6,by omega,by first|rfl|(congr 1;omega),?_,Zh ?_,Zh ?_,Zh (HGI.out.stepI HG6.out)⟩,by simp[intOf]<;>omega⟩
     ·rw[HK4'.out,length_append,<-Nat.add_assoc]
     ·rw[HK4'.out,length_append,<-Nat.add_assoc];exact HO6.out
     ·rw[HK4'.out,zie,<-List.append_assoc];exact HV6.out
   ·obtain rfl:i=J:=by omega
    have zsM:decide (lo+(i:Int)<=hi)=false:=by simp;omega
    go_wp2_with fail
    go_ret;exact⟨A3,c3,vs3,rfl,HOI.out,HVI.out,HG0.out.stepI HGI.out⟩
end
section
open Go.RowKit
open La
theorem Arr.take(h:Arr w A e vs)(k:Nat):Arr w A e (vs.take k):=fun h0=>by
 obtain⟨b,o,cs,fr,hA,hb,hc⟩:=h (by rw[length_take]at h0;omega);refine⟨b,o,cs,fr,hA,hb,fun j u hu=>?_⟩;rw[getElem?_take]at hu;split at hu
 ·exact hc _ _ hu
 ·cases hu
theorem ItV.one(h:ItV w vs its):∀u∈vs,u.oneCell'=true:=fun u hu=>by
 obtain⟨j,hj⟩:=List.getElem?_of_mem hu;have hjl:=(Zg.1 hj).1;have hl:=h.1;have hi:j / 2<its.length:=by omega
 obtain⟨B,c,a1,a2,-⟩:=h.2 (j / 2) its[j / 2] (Ze hi);rcases Nat.mod_two_eq_zero_or_one j with e|e
 ·rw[show j / 2*2=j by omega,hj]at a1;injection a1 with a1
  rw[a1];rfl
 ·rw[show j / 2*2+1=j by omega,hj]at a2;injection a2 with a2
  rw[a2];rfl
theorem ItV.take(h:ItV w vs its)(k:Nat):ItV w (vs.take (k*2)) (its.take k):=by
 refine⟨by rw[length_take,length_take,h.1];omega,fun i p hp=>?_⟩;rw[getElem?_take]at hp;split at hp
 ·rename_i hi
  obtain⟨B,c,a1,a2,a3⟩:=h.2 i p hp;exact⟨B,c,by rw[getElem?_take,if_pos (by omega)];exact a1,by rw[getElem?_take,if_pos (by omega)];exact a2,a3⟩
 ·cases hp
theorem ItV.drop(h:ItV w vs its)(k:Nat):ItV w (vs.drop (k*2)) (its.drop k):=by
 refine⟨by rw[length_drop,length_drop,h.1];omega,fun i p hp=>?_⟩;rw[List.getElem?_drop]at hp;obtain⟨B,c,a1,a2,a3⟩:=h.2 _ p hp;exact⟨B,c,by rw[List.getElem?_drop,show k*2+i*2=(k+i)*2 by omega];exact a1,by rw[List.getElem?_drop,show k*2+(i*2+1)=(k+i)*2+1 by omega];exact a2,a3⟩
theorem ItV.append{vs':List Value}{its':List (Int×List Int)}(h:ItV w vs its)(h':ItV w vs' its'):ItV w (vs++vs') (its++its'):=by
 refine⟨by simp[h.1,h'.1];omega,fun i p hp=>?_⟩;have hl:=h.1;rcases Zl i its.length with hlt|hge
 ·rw[getElem?_append_left hlt]at hp;obtain⟨B,c,a1,a2,a3⟩:=h.2 i p hp;exact⟨B,c,by rw[getElem?_append_left (by omega)];exact a1,by rw[getElem?_append_left (by omega)];exact a2,a3⟩
 ·rw[getElem?_append_right hge]at hp;obtain⟨B,c,a1,a2,a3⟩:=h'.2 _ p hp;exact⟨B,c,by rw[getElem?_append_right (by omega),show i*2-vs.length=(i-its.length)*2 by omega];exact a1,by rw[getElem?_append_right (by omega),show i*2+1-vs.length=(i-its.length)*2+1 by omega];exact a2,a3⟩
theorem zo1{x:Int×List Int}(h:qa l x=l.length):Zj l x=l.take (qa l x)++x::l.drop (qa l x):=by
 unfold Zj;rw[h];simp
theorem zo2{x y:Int×List Int}(h:l[qa l x]? =some y)(hl:Zq x y=true):Zj l x=l.take (qa l x)++x::l.drop (qa l x):=by
 unfold Zj;rw[h];simp[hl]
theorem zo3{x y:Int×List Int}(h:l[qa l x]? =some y)(hl:Zq x y=false):Zj l x=l:=by
 unfold Zj;rw[h];simp[hl]
def zcx(w:World)(zf:Nat)(its:List (Int×List Int))(e:Ending)(w':World):Prop:=∃A c vs,e= .returned (.slice A its.length c)/\Own w' zf 62 2 A its.length c vs/\ItV w' vs its/\Ext w w'
set_option maxRecDepth 20000 in
theorem zo4{len lc:Nat}{LA:Option Addr}(hO:Own w zf 62 2 LA len lc vs)(hV:ItV w vs its)(hbs:zf<=w.heap.size)(hl:its.length<=1000000)(hX:Ints w XA 2 .i64 x)(hxc:x.length<=xc)(zup:xc<=9223372036854775807)(hx8:x.length<=1000)(hr8:∀p∈its,p.2.length<=1000):
  Cq 47 #[.slice LA len lc,.agg #[.int .i64 a,.slice XA x.length xc]] w (zcx w zf (Zj its (a,x))):=by
 have zr7:its.length=len:=by have:=hO.len;have:=hV.1;omega
 have zsf:=hO.cap;have zs7:=hO.arr;have hE:∀k p,its[k]? =some p->∃b o B c,LA=some ⟨b,o,none⟩/\w.cell? ⟨b,o+k*2,none⟩=some (.int .i64 p.1)/\w.cell? ⟨b,o+k*2+1,none⟩=some (.slice B p.2.length c)/\Ints w B 2 .i64 p.2/\b<w.heap.size:=fun k p hp=>by
  obtain⟨B,c,a1,a2,a3,-⟩:=hV.2 k p hp;obtain⟨b,o,hA,h1,h2⟩:=zs7.at_ a1;obtain⟨b',o',hA',h1',-⟩:=zs7.at_ a2;rw[hA]at hA';injection hA' with hA'
  injection hA' with z1 z2
  subst z1 z2;exact⟨b,o,B,c,hA,h1,by rw[Nat.add_assoc];exact h1',a3,h2⟩
 have HE:=Zh hE;have HV:=Zh hV;have HO:=Zh hO;have HAR:=Zh zs7;have HX:=Zh hX;have HR8:=Zh hr8;have HLN:=Zh zr7;obtain⟨xl,hxl⟩:=Xz x.length;have HXL:=Zh hxl;rw[<-hxl]at hxc hx8|-
 rw[zr7]at hl;clear hE hV hO zs7 hX hr8 zr7 hxl;unfold zcx;have hxb:Ext w (w.alloc (.cells #[.int .i64 a,.slice XA xl xc] 62)):=Zi;go_enter Tryz.func47,Tryz.ntmps47;go_wp2_with fail
 go_loopw [5] (fun i wr=>∃k:Nat,k<=len/\i= .int .i64 k/\Hid (∀j y,j<k->its[j]? =some y->Zq y (a,x)=true)/\Ext (w.alloc (.cells #[.int .i64 a,.slice XA xl xc] 62)) wr) (fun i _=>len-(intOf i).toNat)
 case atStart=>exact⟨0,by omega,rfl,Zh (fun j y hj=>absurd hj (by omega)),Zi⟩
 case round=>
  obtain⟨k,hk,rfl,HP,hxr⟩:=hrel;have zsr:Ext w wr:=hxb.trans hxr;have HKX:Hid (∀W,Ext wr W->W.cell? ⟨w.heap.size,0,none⟩=some (.int .i64 a)/\W.cell? ⟨w.heap.size,1,none⟩=some (.slice XA xl xc)):=Zh (fun W e=>by
   obtain⟨p1,p2,-⟩:=zQ (zj (hxr.trans e) (heap_alloc_new w _));exact⟨p1,p2⟩)
  by_cases hlt:k<len
  ·obtain⟨y,hy⟩:∃y,its[k]? =some y:=⟨_,Ze (by rw[HLN.out];exact hlt)⟩;obtain⟨b,o,B,c,rfl,z1,z2,hI,z3⟩:=HE.out k y hy;have hy8:=HR8.out y (Zm hy);have oB:Old b w:=⟨z3⟩;have HZ:=Zh (And.intro z1 z2);obtain⟨ya,yx⟩:=y;simp only at z1 z2 hI hy8;have hkd:decide ((k:Int)<(len:Int))=true:=by simp;omega
   have HLE:Hid (∀W,Ext w W->Cq 94 #[.agg #[.int .i64 ya,.slice B yx.length c],.agg #[.int .i64 a,.slice XA xl xc]] W (zy W (.bool (Zq (ya,yx) (a,x))))):=Zh (fun W e=>by
    rw[HXL.out];exact zhS hI HX.out (by omega) (by rw[<-HXL.out];omega))
   have HHD:Hid (∀W,Ext wr W->W.cell? ⟨w.heap.size,0,none⟩=some (.int .i64 a)/\W.cell? ⟨w.heap.size,1,none⟩=some (.slice XA xl xc)/\W.cell? ⟨b,o+k*2,none⟩=some (.int .i64 ya)/\W.cell? ⟨b,o+k*2+1,none⟩=some (.slice B yx.length c)):=Zh (fun W e=>⟨(HKX.out W e).1,(HKX.out W e).2,(zi w (hx:=zsr.trans e)).trans HZ.out.1,(zi w (hx:=zsr.trans e)).trans HZ.out.2⟩)
   cases zuq:Zq (ya,yx) (a,x) with
   |true=>
    have HPN:Hid (∀j y,j<k+1->its[j]? =some y->Zq y (a,x)=true):=Zh (fun j y hj hjy=>by
     rcases Zl j k with h|h
     ·exact HP.out j y h hjy
     ·obtain rfl:j=k:=by omega
      rw[hy]at hjy;injection hjy with hjy
      rw[<-hjy];exact zuq)
    rw[zuq]at HLE;clear z1 z2 hI hy;go_wp2_with fail
    go_region_held3 (fun w'=>w'.cell? ⟨w.heap.size,0,none⟩=some (.int .i64 a)/\w'.cell? ⟨w.heap.size,1,none⟩=some (.slice XA xl xc)/\w'.cell? ⟨b,o+k*2,none⟩=some (.int .i64 ya)/\w'.cell? ⟨b,o+k*2+1,none⟩=some (.slice B yx.length c))
     (exact HHD.out _ Zi)
     ((go_at_call 94;refine(HLE.out _ Zi).mono ?_;rintro e w5 ⟨rfl,hs5⟩))
    all_goals
     go_wp2_with fail
     exact⟨⟨k+1,by omega,by go_num,HPN,hxr.trans Zi⟩,by simp[intOf]<;>omega⟩
   |false=>
    have hpi:=zef its (a,x) k HP.out (by rw[HLN.out];omega) (fun y' hy'=>by rw[hy]at hy';injection hy' with hy';rw[<-hy'];exact zuq);have HPI:=Zh hpi;have HY:=Zh hy;have HII:=Zh hI;rw[zuq]at HLE;clear z1 z2 hI hpi hy;go_wp2_with fail
    go_region_held3 (fun w'=>w'.cell? ⟨w.heap.size,0,none⟩=some (.int .i64 a)/\w'.cell? ⟨w.heap.size,1,none⟩=some (.slice XA xl xc)/\w'.cell? ⟨b,o+k*2,none⟩=some (.int .i64 ya)/\w'.cell? ⟨b,o+k*2+1,none⟩=some (.slice B yx.length c))
     (exact HHD.out _ Zi)
     ((go_at_call 94;refine(HLE.out _ Zi).mono ?_;rintro e w5 ⟨rfl,hs5⟩))
    have hx5:Ext wr w5:=Zi;have ztc:Ext w w5:=zsr.trans hx5;have zrd:Hid (∀W,Ext w W->Cq 94 #[.agg #[.int .i64 a,.slice XA xl xc],.agg #[.int .i64 ya,.slice B yx.length c]] W (zy W (.bool (Zq (a,x) (ya,yx))))):=Zh (fun W e=>by
     rw[HXL.out];exact zhS HX.out HII.out (by rw[<-HXL.out];omega) (by omega))
    cases hl2:Zq (a,x) (ya,yx) with
    |false=>
     have HPU:Hid (Zj its (a,x)=its):=Zh (zo3 (y:=(ya,yx)) (by rw[HPI.out];exact HY.out) hl2);rw[hl2]at zrd;go_wp2_with fail
     go_region_held3 (fun w'=>w'.cell? ⟨w.heap.size,0,none⟩=some (.int .i64 a)/\w'.cell? ⟨w.heap.size,1,none⟩=some (.slice XA xl xc)/\w'.cell? ⟨b,o+k*2,none⟩=some (.int .i64 ya)/\w'.cell? ⟨b,o+k*2+1,none⟩=some (.slice B yx.length c))
      (exact HHD.out _ (hx5.trans Zi))
      ((go_at_call 94;refine(zrd.out _ Zi).mono ?_;rintro e w6 ⟨rfl,hs6⟩))
     have hx6:Ext w w6:=ztc.trans Zi;go_wp2_with fail
     go_ret;rw[HPU.out,HLN.out];exact⟨_,lc,vs,rfl,HO.out.ext (hx6.trans Zi),HV.out.ext (hx6.trans Zi),hx6.trans Zi⟩
    |true=>
     have HPU:Hid (Zj its (a,x)=its.take k++((a,x)::its.drop k)):=Zh (by
      have h:=zo2 (l:=its) (x:=(a,x)) (y:=(ya,yx)) (by rw[HPI.out];exact HY.out) hl2;rwa [HPI.out]at h)
     rw[hl2]at zrd;go_wp2_with fail
     go_region_held3 (fun w'=>w'.cell? ⟨w.heap.size,0,none⟩=some (.int .i64 a)/\w'.cell? ⟨w.heap.size,1,none⟩=some (.slice XA xl xc)/\w'.cell? ⟨b,o+k*2,none⟩=some (.int .i64 ya)/\w'.cell? ⟨b,o+k*2+1,none⟩=some (.slice B yx.length c))
      (exact HHD.out _ (hx5.trans Zi))
      ((go_at_call 94;refine(zrd.out _ Zi).mono ?_;rintro e w6 ⟨rfl,hs6⟩))
     have hx6:Ext w w6:=ztc.trans Zi;have ztA:Ext wr w6:=hx5.trans Zi;have hvt:(vs.take (k*2)).length=k*2:=by rw[length_take];have:=HO.out.len;omega
     have hvd:(vs.drop (k*2)).length=(len-k)*2:=by rw[length_drop];have:=HO.out.len;omega
     have hck:lc≠k:=by omega
     have zyt:w.heap.size<=w6.heap.size:=hx6.size;have HVT:=Zh (And.intro hvt hvd);have HON:=Zh HV.out.one;clear hvt hvd;go_wp2_with (first
      |(have hh:=HO8;clear hh;at_builtin;go_loud (refine zM _ rfl _ _ 59 rfl w6.heap.size 62 (.agg #[.int .i64 0,.slice none 0 0]) 2 32 Tryz.underlying59 QJ rfl (by omega) (by omega) A8 (k+1) c8 _ rfl HO8.out _ (len-k) (lc-k) (vs.drop (k*2)) rfl ((HAR.out.drop (k*2)).ext (hx6.trans zsR)) HVT.out.2 (fun u hu=>HON.out u (List.mem_of_mem_drop hu)) (by omega) (by have:=zsR.size;omega) ?_);intro A9 c9 w9 zr5 hg;have HO9:=Zh zr5;have hx9:Ext w6 w9:=hg.ext zsR Zr;clear zr5 hg)
      |(have hh:=HO7;clear hh;at_builtin;go_loud (refine zM _ rfl _ _ 59 rfl w6.heap.size 62 (.agg #[.int .i64 0,.slice none 0 0]) 2 32 Tryz.underlying59 QJ rfl (by omega) (by omega) A7 k c7 _ rfl (HO7.out.ext Zi) (some ⟨w7.heap.size,0,none⟩) 1 1 [.int .i64 a,.slice XA xl xc] rfl (Arr.new w7 62 #[.int .i64 a,.slice XA xl xc]) (by simp) (by simp[Value.oneCell']) (by omega) (by have:=zsF.size;simp;omega) ?_);intro A8 c8 w8 zr5 hg;have HO8:=Zh zr5;have zsR:Ext w6 w8:=hg.ext (zsF.trans Zi) Zr;clear zr5 hg)
      |(at_builtin;go_loud (refine zM _ rfl _ _ 59 rfl w6.heap.size 62 (.agg #[.int .i64 0,.slice none 0 0]) 2 32 Tryz.underlying59 QJ rfl (by omega) (by omega) none 0 0 [] rfl (Own.nil _ _ _ _) _ k lc (vs.take (k*2)) rfl ((HAR.out.ext (hx6.trans Zi)).take (k*2)) HVT.out.1 (fun u hu=>HON.out u (List.mem_of_mem_take hu)) (by omega) (by simp) ?_);intro A7 c7 w7 zr5 hg;rw[Nat.zero_add,nil_append]at zr5;rw[Nat.zero_add];have HO7:=Zh zr5;have zsF:Ext w6 w7:=hg.ext Zi (by simp);obtain⟨x0,x1⟩:=HKX.out w7 (ztA.trans zsF);clear zr5 hg))
     have hpl:(Zj its (a,x)).length=k+1+(len-k):=by
      rw[HPU.out,length_append,length_cons,length_take,length_drop,HLN.out];omega
     have zsV:Ext w w9:=hx6.trans hx9;have zsz:ItV w [.int .i64 a,.slice XA xl xc] [(a,x)]:=by
      have h:=ItV.snoc (a:=a) (ItV.nil w) HX.out (by rw[<-HXL.out];exact hxc) zup;rw[<-HXL.out]at h;exact h
     have hit:ItV w (vs.take (k*2)++[.int .i64 a,.slice XA xl xc]++vs.drop (k*2)) (Zj its (a,x)):=by
      have h:=((HV.out.take k).append zsz).append (HV.out.drop k);rw[HPU.out];simpa[List.append_assoc] using h
     rw[<-hpl]at HO9|-
     go_ret;exact⟨A9,c9,_,rfl,(HO9.out.lower (Nat.le_trans hbs hx6.size)).ext Zi,hit.ext (zsV.trans Zi),zsV.trans Zi⟩
  ·obtain rfl:k=len:=by omega
   have hpi:=zef its (a,x) k HP.out (by rw[HLN.out];omega) (fun y' hy'=>by rw[List.getElem?_eq_none (by rw[HLN.out];omega)]at hy';cases hy');have HPU:Hid (Zj its (a,x)=its.take k++((a,x)::its.drop k)):=Zh (by
    have h:=zo1 (l:=its) (x:=(a,x)) (by rw[hpi,HLN.out]);rwa [hpi]at h)
   have hkd:decide ((k:Int)<(k:Int))=false:=by simp
   clear hpi hlt hk;go_wp2_with fail
   go_quiet (fail)
   go_wp2_with fail
   go_quiet (fail)
   rename_i nq0 Ka ha Kb hb
   have ztA:Ext wr ((wr.drewN nq0).drewN nq):=Zi;have hx6:Ext w ((wr.drewN nq0).drewN nq):=zsr.trans ztA;generalize (wr.drewN nq0).drewN nq=w6 at*
   have zq8:Hid (Zj its (a,x)=its++[(a,x)]):=Zh (by
    rw[HPU.out,List.take_of_length_le (by rw[HLN.out];exact Zr),List.drop_eq_nil_of_le (by rw[HLN.out];exact Zr)])
   have HVL:Hid (vs.length=k*2):=Zh HO.out.len;have HON:=Zh HV.out.one;rcases HO.out.2 with ⟨hv,hn⟩|⟨g,cap,cur,hv,-⟩
   ·injection hv with h1 h2 h3
    subst h1 h2 h3;go_wp2_with (first
     |(have hh:=HO8;clear hh;at_builtin;go_loud (refine zM _ rfl _ _ 59 rfl w6.heap.size 62 (.agg #[.int .i64 0,.slice none 0 0]) 2 32 Tryz.underlying59 QJ rfl (by omega) (by omega) A8 (0+1) c8 _ rfl HO8.out _ 0 _ [] rfl (Arr.nil (e:=62)) rfl (by simp) (by omega) (by have:=zsR.size;omega) ?_);intro A9 c9 w9 zr5 hg;have HO9:=Zh zr5;have hx9:Ext w6 w9:=hg.ext zsR Zr;clear zr5 hg)
     |(have hh:=HO7;clear hh;at_builtin;go_loud (refine zM _ rfl _ _ 59 rfl w6.heap.size 62 (.agg #[.int .i64 0,.slice none 0 0]) 2 32 Tryz.underlying59 QJ rfl (by omega) (by omega) A7 0 c7 _ rfl (HO7.out.ext Zi) (some ⟨w7.heap.size,0,none⟩) 1 1 [.int .i64 a,.slice XA xl xc] rfl (Arr.new w7 62 #[.int .i64 a,.slice XA xl xc]) (by simp) (by simp[Value.oneCell']) (by omega) (by have:=zsF.size;simp;omega) ?_);intro A8 c8 w8 zr5 hg;have HO8:=Zh zr5;have zsR:Ext w6 w8:=hg.ext (zsF.trans Zi) Zr;clear zr5 hg)
     |(at_builtin;go_loud (refine zM _ rfl _ _ 59 rfl w6.heap.size 62 (.agg #[.int .i64 0,.slice none 0 0]) 2 32 Tryz.underlying59 QJ rfl (by omega) (by omega) none 0 0 [] rfl (Own.nil _ _ _ _) _ 0 _ vs rfl (HO.out.arr.ext hx6) HVL.out (fun u hu=>HON.out u hu) (by omega) (by simp) ?_);intro A7 c7 w7 zr5 hg;rw[Nat.zero_add,nil_append]at zr5;rw[Nat.zero_add];have HO7:=Zh zr5;have zsF:Ext w6 w7:=hg.ext Zi (by simp);obtain⟨x0,x1⟩:=HKX.out w7 (ztA.trans zsF);clear zr5 hg))
    have zsV:Ext w w9:=hx6.trans hx9;have zsz:ItV w [.int .i64 a,.slice XA xl xc] [(a,x)]:=by
     have h:=ItV.snoc (a:=a) (ItV.nil w) HX.out (by rw[<-HXL.out];exact hxc) zup;rw[<-HXL.out]at h;exact h
    have hit:ItV w (vs++[.int .i64 a,.slice XA xl xc]++[]) (Zj its (a,x)):=by
     rw[append_nil,zq8.out];exact HV.out.append zsz
    have hpl:(Zj its (a,x)).length=0+1:=by rw[zq8.out,length_append,HLN.out];rfl
    have h9:=HO9.out;rw[Nat.add_zero]at h9;rw[hpl];go_ret;exact⟨A9,c9,rfl,_,(h9.lower (Nat.le_trans hbs hx6.size)).ext Zi,hit.ext (zsV.trans Zi),zsV.trans Zi⟩
   ·injection hv with h1 h2 h3
    subst h1 h3;by_cases hcc:lc=k
    ·subst hcc;go_wp2_with (first
      |(have hh:=HO8;clear hh;at_builtin;go_loud (refine zM _ rfl _ _ 59 rfl w6.heap.size 62 (.agg #[.int .i64 0,.slice none 0 0]) 2 32 Tryz.underlying59 QJ rfl (by omega) (by omega) A8 (lc+1) c8 _ rfl HO8.out _ 0 _ [] rfl (Arr.nil (e:=62)) rfl (by simp) (by omega) (by have:=zsR.size;omega) ?_);intro A9 c9 w9 zr5 hg;have HO9:=Zh zr5;have hx9:Ext w6 w9:=hg.ext zsR Zr;clear zr5 hg)
      |(have hh:=HO7;clear hh;at_builtin;go_loud (refine zM _ rfl _ _ 59 rfl w6.heap.size 62 (.agg #[.int .i64 0,.slice none 0 0]) 2 32 Tryz.underlying59 QJ rfl (by omega) (by omega) A7 lc c7 _ rfl (HO7.out.ext Zi) (some ⟨w7.heap.size,0,none⟩) 1 1 [.int .i64 a,.slice XA xl xc] rfl (Arr.new w7 62 #[.int .i64 a,.slice XA xl xc]) (by simp) (by simp[Value.oneCell']) (by omega) (by have:=zsF.size;simp;omega) ?_);intro A8 c8 w8 zr5 hg;have HO8:=Zh zr5;have zsR:Ext w6 w8:=hg.ext (zsF.trans Zi) Zr;clear zr5 hg)
      |(at_builtin;go_loud (refine zM _ rfl _ _ 59 rfl w6.heap.size 62 (.agg #[.int .i64 0,.slice none 0 0]) 2 32 Tryz.underlying59 QJ rfl (by omega) (by omega) none 0 0 [] rfl (Own.nil _ _ _ _) _ lc _ vs rfl (HO.out.arr.ext hx6) HVL.out (fun u hu=>HON.out u hu) (by omega) (by simp) ?_);intro A7 c7 w7 zr5 hg;rw[Nat.zero_add,nil_append]at zr5;rw[Nat.zero_add];have HO7:=Zh zr5;have zsF:Ext w6 w7:=hg.ext Zi (by simp);obtain⟨x0,x1⟩:=HKX.out w7 (ztA.trans zsF);clear zr5 hg))
     have zsV:Ext w w9:=hx6.trans hx9;have zsz:ItV w [.int .i64 a,.slice XA xl xc] [(a,x)]:=by
      have h:=ItV.snoc (a:=a) (ItV.nil w) HX.out (by rw[<-HXL.out];exact hxc) zup;rw[<-HXL.out]at h;exact h
     have hit:ItV w (vs++[.int .i64 a,.slice XA xl xc]++[]) (Zj its (a,x)):=by
      rw[append_nil,zq8.out];exact HV.out.append zsz
     have hpl:(Zj its (a,x)).length=lc+1:=by rw[zq8.out,length_append,HLN.out];rfl
     have h9:=HO9.out;rw[Nat.add_zero]at h9;rw[hpl];go_ret;exact⟨A9,c9,rfl,_,(h9.lower (Nat.le_trans hbs hx6.size)).ext Zi,hit.ext (zsV.trans Zi),zsV.trans Zi⟩
    ·go_wp2_with (first
      |(have hh:=HO8;clear hh;at_builtin;go_loud (refine zM _ rfl _ _ 59 rfl w6.heap.size 62 (.agg #[.int .i64 0,.slice none 0 0]) 2 32 Tryz.underlying59 QJ rfl (by omega) (by omega) A8 (k+1) c8 _ rfl HO8.out _ 0 _ [] rfl (Arr.nil (e:=62)) rfl (by simp) (by omega) (by have:=zsR.size;omega) ?_);intro A9 c9 w9 zr5 hg;have HO9:=Zh zr5;have hx9:Ext w6 w9:=hg.ext zsR Zr;clear zr5 hg)
      |(have hh:=HO7;clear hh;at_builtin;go_loud (refine zM _ rfl _ _ 59 rfl w6.heap.size 62 (.agg #[.int .i64 0,.slice none 0 0]) 2 32 Tryz.underlying59 QJ rfl (by omega) (by omega) A7 k c7 _ rfl (HO7.out.ext Zi) (some ⟨w7.heap.size,0,none⟩) 1 1 [.int .i64 a,.slice XA xl xc] rfl (Arr.new w7 62 #[.int .i64 a,.slice XA xl xc]) (by simp) (by simp[Value.oneCell']) (by omega) (by have:=zsF.size;simp;omega) ?_);intro A8 c8 w8 zr5 hg;have HO8:=Zh zr5;have zsR:Ext w6 w8:=hg.ext (zsF.trans Zi) Zr;clear zr5 hg)
      |(at_builtin;go_loud (refine zM _ rfl _ _ 59 rfl w6.heap.size 62 (.agg #[.int .i64 0,.slice none 0 0]) 2 32 Tryz.underlying59 QJ rfl (by omega) (by omega) none 0 0 [] rfl (Own.nil _ _ _ _) _ k _ vs rfl (HO.out.arr.ext hx6) HVL.out (fun u hu=>HON.out u hu) (by omega) (by simp) ?_);intro A7 c7 w7 zr5 hg;rw[Nat.zero_add,nil_append]at zr5;rw[Nat.zero_add];have HO7:=Zh zr5;have zsF:Ext w6 w7:=hg.ext Zi (by simp);obtain⟨x0,x1⟩:=HKX.out w7 (ztA.trans zsF);clear zr5 hg))
     have zsV:Ext w w9:=hx6.trans hx9;have zsz:ItV w [.int .i64 a,.slice XA xl xc] [(a,x)]:=by
      have h:=ItV.snoc (a:=a) (ItV.nil w) HX.out (by rw[<-HXL.out];exact hxc) zup;rw[<-HXL.out]at h;exact h
     have hit:ItV w (vs++[.int .i64 a,.slice XA xl xc]++[]) (Zj its (a,x)):=by
      rw[append_nil,zq8.out];exact HV.out.append zsz
     have hpl:(Zj its (a,x)).length=k+1:=by rw[zq8.out,length_append,HLN.out];rfl
     have h9:=HO9.out;rw[Nat.add_zero]at h9;rw[hpl];go_ret;exact⟨A9,c9,rfl,_,(h9.lower (Nat.le_trans hbs hx6.size)).ext Zi,hit.ext (zsV.trans Zi),zsV.trans Zi⟩
theorem zo5(hr:RedOK m){b:Int}(hb:0<=b)(hb1:b<1073741824)(k:Nat):∀t:List Int,k<m.length->t.length=m.length-1-k->0<=left (ent m) b (k+1) t->
  ((Zp m b k t).length:Int)=zW (ZS m b k t) (m.length-1):=by
 induction k with
 |zero=>
  intro t hk ht h0;obtain⟨v1,v2,-⟩:=zeq hr hb hb1 hk ht h0;rw[zox,Zp];simp only[zW,List.length_map,List.length_range];rw[if_pos (by omega)];unfold Z9;omega
 |succ k ih=>
  intro t hk ht h0;have key:∀q:Nat,q<=Z9 m b (k+1) t->(((List.range q).flatMap fun(j:Nat)=>Zp m b k ((zL m b (k+1) t+(j:Int))::t)).length:Int)=zW (ZE m b k t q) (m.length-1):=by
   intro q;induction q with
   |zero=>intro _;simp[ZE,zW]
   |succ q ihq=>
    intro hq;have a1:=ihq (by omega);have b1:=ih ((zL m b (k+1) t+(q:Int))::t) (by omega) (by simp[ht];omega) (jZ hr t hk ht h0 (j:=q) (by unfold Z9 Za zL at hq;unfold Zc;omega));rw[List.range_succ,List.flatMap_append,List.flatMap_singleton,zen,zdP,length_append,Int.natCast_add];omega
  have k1:=key _ Zr;rw[zhW hr hk b t ht,Zp];simp only[zW];rw[if_neg (by omega)];omega
theorem zif(zsy:ZH m=true){b:Nat}(hb1:(b:Int)<1073741824):((Zp m b (m.length-1) []).length:Int)<=ZX m b:=by
 have hr:=qA zsy;have hl:=Qy hr.small;have hst:=(zbh zsy (b:=b) hb1).1;have h1:=zo5 hr (b:=(b:Int)) (by omega) hb1 (m.length-1) [] (by omega) (by simp) (JU hr (by omega));have h2:=zh1 hr (b:=(b:Int)) (by omega);have h3:(qu m b).getD (m.length-1) 0=zW (ZS m b (m.length-1) []) (m.length-1):=by
  rw[h2,zoy (by simp;omega)];simp[List.getD,show m.length-1<m.length by omega]
 have h4:=zbv (cs:=qu m b) (fun x hx=>by have:=hst.one x hx;omega) (m.length-1);have h5:=hst.sum;omega
def J0(m:List (List Int))(l:List (Int×List Int))(x:List Int):List (Int×List Int):=if 0<zI x then Zj l (zg m x,x) else l
theorem zo6(m:List (List Int))(xs:List (List Int))(x:List Int):Zs m (xs++[x])=J0 m (Zs m xs) x:=by
 unfold Zs J0;rw[List.foldl_append];rfl
theorem zo7(l:List (Int×List Int))(x:Int×List Int):(Zj l x).length<=l.length+1:=by
 unfold Zj;split
 ·split
  ·simp only[length_append,length_take,length_cons,length_drop];omega
  ·omega
 ·simp
theorem zo8(m:List (List Int))(xs:List (List Int)):∀l:List (Int×List Int),(xs.foldl (fun l x=>if 0<zI x then Zj l (zg m x,x) else l) l).length<=l.length+xs.length:=by
 induction xs with
 |nil=>intro l;exact Zr
 |cons x xs ih=>
  intro l;rw[List.foldl_cons,length_cons];refine Nat.le_trans (ih _) ?_;split
  ·have:=zo7 l (zg m x,x);omega
  ·omega
theorem zev(m:List (List Int))(xs:List (List Int)):(Zs m xs).length<=xs.length:=by
 have:=zo8 m xs [];unfold Zs;simpa using this
theorem zo9{xs:List (List Int)}:∀p∈Zs m xs,p.2∈xs:=fun p hp=>by
 rcases((zhN m xs [] List.Pairwise.nil).2 p).1 hp with h|⟨x,hx,-,rfl⟩
 ·simp at h
 ·exact hx
theorem zig(h:zI x≠0):zS x=x↔0<zI x:=by
 constructor
 ·intro e;have:=zgU x h;rwa [e]at this
 ·exact zob
def zcy(w:World)(its:List (Int×List Int))(e:Ending)(w':World):Prop:=∃A c vs,e= .returned (.slice A its.length c)/\Own w' w.heap.size 62 2 A its.length c vs/\ItV w' vs its/\Step w w'
end
end Go.Proofs.YtpcgfpmiphiacaaGreat
