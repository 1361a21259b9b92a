import Derived.Test.YtpijjipngkdhdaaGreatE24
set_option maxHeartbeats 8000000
set_option linter.unusedVariables false
set_option linter.unusedSimpArgs false
namespace Go.Proofs.YtpijjipngkdhdaaGreat
open List (mem_map length_map take_add_one map_append map_cons map_nil getElem_mem)
variable {L m:List (List Int)} {x y:List Int} {b c k n:Nat} {A X:Option Addr} {W w w0:World}
section
open Go.RowKit
structure Kx(a b:Nat)(w w':World):Prop where
 os:w'.os=w.os
 tape:w'.tape=w.tape
 output:w'.output=w.output
 size:w.heap.size<=w'.heap.size
 block:∀k,k<w.heap.size->k≠a->k≠b->w'.heap[k]? =w.heap[k]?
section
variable {a b:Nat} {u w w' w0:World}
theorem Kx.refl(a b:Nat)(w:World):Kx a b w w:=⟨rfl,rfl,rfl,Zr,fun _ _ _ _=>rfl⟩
theorem Kx.trans(h:Kx a b u w)(h':Kx a b w w'):Kx a b u w':=⟨h'.os.trans h.os,h'.tape.trans h.tape,h'.output.trans h.output,Nat.le_trans h.size h'.size,fun k hk h1 h2=>(h'.block k (Nat.lt_of_lt_of_le hk h.size) h1 h2).trans (h.block k hk h1 h2)⟩
theorem Kx.of_ext(h:Ext w w'):Kx a b w w':=⟨h.below.os,h.below.tape,h.below.output,h.below.size,fun k hk _ _=>h.below.block k hk⟩
theorem Kx.set(w:World){p:Addr}(hp:p.block=a∨p.block=b)(u:Value):Kx a b w (w.setCell p u):=
 ⟨rfl,rfl,rfl,Nat.le_of_eq (qd w p u).symm,fun k _ h1 h2=>Below.heap_setCell w p u k (by rcases hp with h|h<;>omega)⟩
theorem Kx.ext(h:Kx a b w w')(hx:Ext w0 w)(ha:w0.heap.size<=a)(hb:w0.heap.size<=b):Ext w0 w':=
 ⟨⟨h.os.trans hx.below.os,h.tape.trans hx.below.tape,h.output.trans hx.below.output,Nat.le_trans hx.size h.size,fun k hk=>(h.block k (Nat.lt_of_lt_of_le hk hx.size) (by omega) (by omega)).trans (hx.below.block k hk)⟩⟩
theorem Kx.arr{T Ta Tb:TypeId}{vs:List Value}{ca cb:Array Value}{fa fb:Nat×Nat}(h:Arr w A T vs)(hk:Kx a b w w')(h1:w.heap[a]? =some (.cells ca Ta fa))(h2:w.heap[b]? =some (.cells cb Tb fb))(n1:T≠Ta)(n2:T≠Tb):Arr w' A T vs:=
 h.keep fun k cs fr hb=>hk.block k (zw hb) (fun e=>by
  rw[e,h1]at hb;injection hb with hb
  injection hb with _ hb
  exact n1 hb.symm) (fun e=>by
  rw[e,h2]at hb;injection hb with hb
  injection hb with _ hb
  exact n2 hb.symm)
end
def Hits(I:List Int)(K:List Ks)(j:Nat)(k:Ks):Prop:=∃i:Nat,I[j]? =some (i:Int)/\K[i]? =some k
theorem Hits.more{I:List Int}{K:List Ks}{j j':Nat}{k k':Ks}{v:Int}(h:Hits I K j k)(K':List Ks)(hne:j'≠j∨(k=k'/\∃i:Nat,v=(i:Int)/\(K++K')[i]? =some k'))(hj':j'<I.length):Hits (I.set j' v) (K++K') j k:=by
 obtain⟨i,h1,h2⟩:=h;by_cases e:j'=j
 ·rcases hne with hne|⟨rfl,i',rfl,hk⟩
  ·exact absurd e hne
  ·exact⟨i',by rw[<-e,List.getElem?_set_self hj'],hk⟩
 ·exact⟨i,by rw[List.getElem?_set_ne e];exact h1,by rw[List.getElem?_append_left (Zg.1 h2).1];exact h2⟩
def zd0(w:World)(m:List (List Int))(P:List (List Int)->Prop)(e:Ending)(w':World):Prop:=
 ∃g L I,e= .returned (.tuple #[.slice (some ⟨g,0,none⟩) (List.length L) L.length,.int .i64 0])/\P L/\Row w' g 3 .i64 I/\I.length=L.length/\(∀j y,L[j]? =some y->Hits I ((qi Z1 (L.map (Za m L))).map Prod.fst) j (Za m L y))/\Step w w'
theorem MemOK.all{a:Nat}{els:List ME}(h:MemOK m L a k els):∀j,a<=j->j<k->∃x∈els,x.i=(j:Int):=fun j h1 h2=>by
 rcases h with ⟨hk,rfl⟩|⟨-,hp,-⟩
 ·exact⟨_,List.mem_singleton.2 rfl,by show (a:Int)=j;omega⟩
 ·have hm:(((j:Nat):Int),zA m L (L.getD j []))∈els.map fun x=>(x.i,x.p):=by
   rw[hp.mem_iff,mem_map];exact⟨j-a,List.mem_range.2 (by omega),by rw[show a+(j-a)=j by omega]⟩
  obtain⟨x,hx,he⟩:=mem_map.1 hm;injection he with he
  exact⟨x,hx,he⟩
set_option maxRecDepth 20000 in
theorem zoO{b u:Int}{P:List (List Int)->Prop}(hM:MatA w0 A m)(hml:m.length<=1000)(zqi:∀r∈m,r.length<=m.length)
  (zqT:∀W,Ext w0 W->Cq 148 #[.slice A m.length c,.int .i64 b,.int .i64 u] W (zai W P))
  (hP:∀L,P L->PrfL m L/\(∀x∈L,JE m L x)) [hx:Ext w0 w]:
  Cq 26 #[.slice A m.length c,.int .i64 b,.int .i64 u] w (zd0 w m P):=by
 have hPN:∀L,P L->L.length<=100000/\(∀y∈L,y.length=m.length)/\∀y∈L,-9223372036854775808<=zi m y/\zi m y<=9223372036854775807:=fun L hL=>by
  obtain⟨⟨h1,h2,-,h4⟩,-⟩:=hP L hL;exact⟨h1,h2,fun y hy=>by have:=h4 y hy;omega⟩
 have HNS:Hid (∀W,Ext w0 W->Cq 76 #[.slice A m.length c,.int .i64 b,.int .i64 u] W (j5 W m P)):=Zh (fun W e=>zdQ (w:=W) hM hml zqi zqT hPN);have HME:Hid (∀(W0 W:World)(LA NA DA:Option Addr)(lc nc dc mb q a k:Nat)(n:Int)(L:List (List Int)),P L->L.length=q->SysV W0 m L LA NA DA->q<=dc->dc<=9223372036854775807->Ext W0 W->W0.heap.size<=mb->MapC W mb 0 []->a<k->k<=q->(∀(j:Nat)(x:Int),a<=j->j<k->(L.map (zi m))[j]? =some x->x=n)->Cq 78 #[.agg #[.slice LA q lc,.slice NA q nc,.slice DA q dc],.int .i64 a,.int .i64 k,.map (some mb)] W (zaj W mb m L a k)):=Zh (fun W0 W LA NA DA lc nc dc mb q a k n L hL hq hS h1 h2 e1 hmb hMC hak hkq hsh=>by
  obtain⟨hp,hi⟩:=hP L hL;subst hq;exact zhC (w0:=W0) (w:=W) hS rfl hp.len h1 h2 rfl hml hp.srt hp.zc hp.nb hi hmb hMC hak hkq)
 have HPL:Hid (∀L,P L->PrfL m L):=Zh (fun L hL=>(hP L hL).1);clear hPN zqT hP hM zqi;unfold j5 at HNS;unfold zaj at HME;unfold zd0;obtain⟨n,hn⟩:=Yz m.length;rw[hn]at HNS hml|-
 clear hn;have hmk:=@run_makeMap Tryz.prog;go_enter Tryz.func26,Tryz.ntmps26;go_upto_region 4 with (go_at_call 76;refine(HNS.out _ Zi).mono ?_;rintro e w1 ⟨LA,NA,DA,lc,nc,dc,L,rfl,hS,hPL,-,-,-,-,hd1,hd2,hs1⟩;have HSY:=Zh hS;have HP:=Zh hPL;clear hS hPL)
 obtain⟨q,hq⟩:=Yz L.length;rw[hq]at hd1;have hqb:q<=100000:=by rw[<-hq];exact(HPL.out L HP.out).len
 have hmi:=Qt (P:=Tryz.prog) Tryz.underlying36 jA (by omega) (q:Int) (by omega) (by omega);obtain⟨wB,hwB⟩:=Xz (w1.alloc (.cells #[.slice LA q lc,.slice NA q nc,.slice DA q dc] 110));have hxB:Ext w1 wB:=by rw[hwB];infer_instance
 have hsB:wB.heap.size=w1.heap.size+1:=by rw[hwB];simp
 have hbx:wB.heap[w1.heap.size]? =some (.cells #[.slice LA q lc,.slice NA q nc,.slice DA q dc] 110 (0,0)):=by rw[hwB];exact heap_alloc_new w1 _
 have HBX:=Zh hbx;rw[hq,<-hwB];obtain⟨⟨c1,c2,c3⟩,-,c4⟩:=qs hbx;have oB:Old w1.heap.size wB:=⟨c4⟩;have HQ:=Zh hq;clear hwB hbx hq;go_wp2_with fail
 obtain⟨wI,hwI⟩:=Xz (wB.alloc (.cells (qv q .i64) 3));obtain⟨wM,hwM⟩:=Xz (wI.alloc (.map #[] 0));have hxI:Ext wB wI:=by rw[hwI];infer_instance
 have hxM:Ext wI wM:=by rw[hwM];infer_instance
 have hsI:wI.heap.size=w1.heap.size+2:=by rw[hwI];simp[hsB]
 have hsM:wM.heap.size=w1.heap.size+3:=by rw[hwM];simp[hsI]
 have hm0:MapC wM wI.heap.size 0 []:=by rw[hwM];exact MapC.made wI
 have hr0:Row wM wB.heap.size 3 .i64 (List.replicate q 0):=by rw[hwM,hwI];exact(Row.made wB q .i64 3).ext Zi
 rw[hsI]at hm0;rw[hsB]at hr0;rw[<-hwI,<-hwM];obtain⟨gi,hgi⟩:=Xz (w1.heap.size+1);obtain⟨mb,hmb⟩:=Xz (gi+1);rw[show w1.heap.size+2=mb by omega]at hm0;rw[<-hgi]at hr0;try rw[<-hgi,<-hmb]
 have HM0:=Zh hm0;have HR0:=Zh hr0;have HXX:Hid (Ext wB wM):=Zh (hxI.trans hxM);have HSZ:=Zh (And.intro hsB (And.intro hsM (And.intro hgi hmb)));have hx1B:=hxB;clear hwI hwM hsI hsM hsB hm0 hr0 hgi hmb HNS hmk hmi hxI hxM oB c1 c2 c3 c4 hxB;go_loopw [11,13,14,15,16,17] (fun cv s _ _ _ _ wr=>∃(a:Nat) (C:List (Ks×Int)) (I:List Int) (k:Nat),a<=q/\s= .int .i64 a/\cv= .int .i64 ((k:Int)-1)/\k<=a/\Hid (C.length=k)/\Hid (Bdry (L.map (zi m)) a)/\Hid (CountOK Z1 ((L.take a).map (Za m L)) C)/\Hid (Row wr gi 3 .i64 I)/\Hid (I.length=q)/\Hid (∀(j:Nat)(y:List Int),j<a->L[j]? =some y->Hits I (C.map Prod.fst) j (Za m L y))/\Hid (MapC wr mb 0 [])/\Ext wB wr) (fun _ s _ _ _ _ _=>q-(intOf s).toNat)
 case atStart=>exact⟨0,[],List.replicate q 0,0,by omega,rfl,rfl,by omega,Zh rfl,Zh (Bdry.zero _),Zh CountOK.nil,HR0,Zh (by simp),Zh (fun j y h=>by omega),HM0,HXX.out⟩
 case round=>
  obtain⟨a,C,I,k0,ha,rfl,rfl,hka,HCL,HB,HCT,HR,HIL,HI,HM,hxr⟩:=hrel;have zsS:Ext w1 wr:=hx1B.trans hxr;have zro:w1.heap.size<=mb:=by have:=HSZ.out;omega
  obtain⟨⟨c1,c2,c3⟩,-,c4⟩:=qs (zh hxr HBX.out);have oB:Old w1.heap.size wr:=⟨c4⟩;by_cases hlt:a<q
  ·obtain⟨y0,hy0⟩:∃y,L[a]? =some y:=⟨_,Ze (by rw[HQ.out];exact hlt)⟩;obtain⟨na,hna⟩:∃v,zi m y0=v:=⟨_,rfl⟩;have zqL:(L.map (zi m))[a]? =some na:=by rw[List.getElem?_map,hy0,<-hna];rfl
   have hnl:(L.map (zi m)).length=q:=by rw[length_map];exact HQ.out
   have HSH:=Zh (fun W(e:Ext w1 W)=>zdP (w:=W) (nc:=nc) (SL:= .slice LA q lc) (SD:= .slice DA q dc) HSY.out.norms zqL hnl (by omega));have zph:=Zh zqL;have HNL:=Zh hnl;unfold za0 at HSH;clear hy0 hna zqL hnl;go_upto_region 10 with (go_at_call 77;refine(HSH.out _ Zi).mono ?_;rintro e w2 ⟨k,rfl,hk1,hk2,hk3,hk4,hs2⟩;rw[HNL.out]at hk2;have HK3:=Zh hk3;have HK4:=Zh hk4;clear hk3 hk4)
   go_upto_region 11 with fail
   have zqA:Ext wr w2:=Zi;obtain⟨wL,hwL⟩:=Xz (w2.alloc (.cells #[.int .i64 0,.slice none 0 0] 116));have hxL:Ext w2 wL:=by rw[hwL];infer_instance
   obtain⟨lb,hlb⟩:=Xz w2.heap.size;have hbl:wL.heap[lb]? =some (.cells #[.int .i64 0,.slice none 0 0] 116 (0,0)):=by rw[hwL,hlb];exact heap_alloc_new w2 _
   try rw[<-hwL,<-hlb]
   have hxBL:Ext wB wL:=(hxr.trans zqA).trans hxL;have zpE:Hid (wL.heap.size=lb+1/\wB.heap.size<=lb/\mb<lb):=Zh ⟨by rw[hwL,hlb];simp,by rw[hlb];exact(hxr.trans zqA).size,by rw[hlb];exact Nat.lt_of_lt_of_le HM.out.lt zqA.size⟩;have HML:Hid (MapC wL mb 0 []):=Zh (HM.out.ext (zqA.trans hxL));have HRL:Hid (Row wL gi 3 .i64 I):=Zh (HR.out.ext (zqA.trans hxL));have HBL:=Zh hbl;have HMC:=Zh (HME.out w1 wL LA NA DA lc nc dc mb q a k na L HP.out HQ.out HSY.out hd1 hd2 (hx1B.trans hxBL) zro HML.out hk1 hk2 HK3.out)
   have oBL:Old w1.heap.size wL:=⟨Nat.lt_of_lt_of_le c4 (zqA.trans hxL).size⟩;obtain⟨⟨c1',c2',c4'⟩,-,-⟩:=qs (zh hxBL HBX.out);clear HSH HM HR hwL hlb hbl hxL;go_upto_region 12 with (go_at_call 78;refine HMC.out.mono ?_;rintro e w3 ⟨g,c3',els,rfl,hg3,hR3,hE3,hM3,hF3,hMO3⟩)
   obtain⟨el,hel⟩:=Yz els.length;rw[hel];have HMU:=Zh (zhF hMO3 hE3 (by rw[HQ.out];omega));have zpv:=Zh hMO3.all;have HEL:=Zh hel;have zrX:el=k-a:=by
    have h1:=HMU.out.1.length_eq;simp only[length_map,List.length_range]at h1;omega
   have HR3:=Zh hR3;have HM3:=Zh hM3;have ztZ:gi<mb/\mb<lb/\lb<g/\w1.heap.size<gi:=by have h1:=HSZ.out;have h2:=zpE.out;omega
   have hxB3:Ext wB w3:=Fm.ext0 hxBL (by have:=HSZ.out;omega) hF3;have HRI:Hid (Row w3 gi 3 .i64 I):=Zh (hF3.cells HML.out HRL.out);have HB3:=Zh (hF3.cells HML.out HBL.out);have HOK:Hid (∀W,Kx gi lb w3 W->∀x∈els,x.ok W):=Zh (fun W hk x hx=>⟨Kx.arr (hE3 x hx).1 hk HRI.out HB3.out (by decide) (by decide),(hE3 x hx).2⟩);have HXB:Hid (∀W,Kx gi lb w3 W->Ext wB W):=Zh (fun W hk=>hk.ext hxB3 (by have:=HSZ.out;omega) zpE.out.2.1)
   have HMB:Hid (∀W,Kx gi lb w3 W->MapC W mb 0 []):=Zh (fun W hk=>HM3.out.at_block (hk.block mb HM3.out.lt (by omega) (by omega)));have HRG:Hid (∀W,Kx gi lb w3 W->MRow W g els):=Zh (fun W hk=>by
    obtain⟨cur,h1,h2⟩:=hR3;exact⟨cur,(hk.block g (zw h1) (by omega) (by omega)).trans h1,h2⟩)
   have HLO:Hid (∀s∈(L.take a).map (Za m L),s.1<na):=Zh (fun s hs=>by
    obtain⟨y,hy,rfl⟩:=mem_map.1 hs;obtain⟨i,hi,he⟩:=List.mem_iff_getElem.1 hy;simp only[List.length_take]at hi;rw[List.getElem_take]at he;refine HB.out i a (zi m y) na (by omega) Zr ?_ zph.out;rw[List.getElem?_map,Ze (by omega),he];rfl)
   have HGS:=Zh ztZ;clear hel hR3 hE3 hM3 hF3 hMO3 HMC HME c1 c2 c3 c4 oB c1' c2' c4' oBL HML HRL HBL hxBL ztZ;go_loopw [11,16,17,47] (fun cv _ _ ix wz=>∃(r:Nat) (C':List (Ks×Int)) (I':List Int) (k':Nat) (z:ME),r<=el/\ix= .int .i64 r/\cv= .int .i64 ((k':Int)-1)/\k'<=k0+r/\Hid (C'.length=k')/\Hid (CountOK Z1 ((L.take a).map (Za m L)++(els.take r).map fun x=>(na,zA m L (L.getD x.i.toNat []))) C')/\Hid (Row wz gi 3 .i64 I')/\Hid (I'.length=q)/\Hid (∀(j:Nat)(y:List Int),j<a->L[j]? =some y->Hits I' (C'.map Prod.fst) j (Za m L y))/\Hid (∀x∈els.take r,Hits I' (C'.map Prod.fst) x.i.toNat (na,zA m L (L.getD x.i.toNat [])))/\Hid (wz.heap[lb]? =some (.cells #[.int .i64 z.i,.slice z.A z.p.length z.c] 116 (0,0)))/\Hid (z.ok wz)/\Hid (Kx gi lb w3 wz)/\Hid (0<r->els[r-1]? =some z/\∃C0 N,C'=C0++[((na,zA m L (L.getD z.i.toNat [])),N)])) (fun _ _ _ ix _=>el-(intOf ix).toNat)
   case atStart=>exact⟨0,C,I,k0,⟨0,none,0,[]⟩,by omega,rfl,rfl,by omega,HCL,Zh (by simpa using HCT.out),HRI,HIL,HI,Zh (fun x hx=>by simp at hx),HB3,Zh ⟨Arr.nil,by simp⟩,Zh (Kx.refl _ _ _),Zh (fun h=>by omega)⟩
   case round=>
    obtain⟨r,C',I',k',z,hr,rfl,rfl,hk',HCL',HCT',HR',HIL',HI',HJ',HLB,HZ,HKX,HLZ⟩:=hrel;by_cases hrl:r<el
    ·obtain⟨x,hxr⟩:∃x,els[r]? =some x:=⟨_,Ze (by rw[HEL.out];exact hrl)⟩;have hxm:=Zm hxr;obtain⟨⟨j,hj1,hj2,hxi⟩,zq1⟩:=HMU.out.2.1 x hxm;obtain⟨y,hy⟩:∃y,L[j]? =some y:=⟨_,Ze (by rw[HQ.out];omega)⟩;have hgd:L.getD x.i.toNat []=y:=by rw[hxi];simp[List.getD_eq_getElem?_getD,hy]
     obtain⟨pr,hpr⟩:=Xz (zA m L y);rw[hgd,<-hpr]at zq1;have zq3:(els.take (r+1)).map (fun x=>((na,zA m L (L.getD x.i.toNat [])):Ks))=(els.take r).map (fun x=>(na,zA m L (L.getD x.i.toNat [])))++[(na,pr)]:=by
      rw[take_add_one,hxr,map_append];simp only[Option.toList,map_cons,map_nil,hgd,<-hpr]
     have zrY:∀s∈(L.take a).map (Za m L)++(els.take r).map (fun x=>((na,zA m L (L.getD x.i.toNat [])):Ks)),¬Z1 (na,pr) s:=fun s hs hlt=>by
      rcases List.mem_append.1 hs with hs|hs
      ·have h1:=HLO.out s hs;rcases hlt with h|⟨h,-⟩
       ·simp only at h;omega
       ·simp only at h;omega
      ·obtain⟨z,hz,rfl⟩:=mem_map.1 hs;obtain⟨i,hi,he⟩:=List.mem_iff_getElem.1 hz;simp only[List.length_take]at hi;rw[List.getElem_take]at he;have h2:=(List.pairwise_iff_getElem.1 HMU.out.2.2) i r (by omega) (by rw[HEL.out];exact hrl) (by omega);have h3:els[r]'(by rw[HEL.out];exact hrl)=x:=(Zg.1 hxr).2;rw[h3,he,hgd,<-hpr]at h2;rcases hlt with h|⟨-,h⟩
       ·simp only at h;omega
       ·exact h2 h
     obtain⟨hb,zqK⟩:∃hb:Bool,(r=0/\hb=true)∨(0<r/\hb=!decide (z.p=x.p)):=by
      rcases Nat.eq_zero_or_pos r with h0|h0
      ·exact⟨true,.inl ⟨h0,rfl⟩⟩
      ·exact⟨_,.inr ⟨h0,rfl⟩⟩
     have zqE:0<r->x.p=pr/\z.p=zA m L (L.getD z.i.toNat []):=fun h0=>by
      have h1:=(HLZ.out h0).1;have h2:=(HMU.out.2.1 z (Zm h1)).2;have h3:=HEL.out;rcases zq1 with ⟨-,-,-,h⟩|⟨-,h⟩
      ·omega
      ·rcases h2 with ⟨-,-,-,h2⟩|⟨-,h2⟩
       ·omega
       ·exact⟨h,h2⟩
     obtain⟨k2,zsX,hN⟩:∃k2,((hb=true/\k2=k'+1)∨(hb=false/\k2=k'))/\∃(C2:List (Ks×Int)) (K2:List Ks),C2.length=k2/\0<k2/\C2.map Prod.fst=C'.map Prod.fst++K2/\(C2.map Prod.fst)[k2-1]? =some (na,pr)/\CountOK Z1 ((L.take a).map (Za m L)++(els.take (r+1)).map fun x=>(na,zA m L (L.getD x.i.toNat []))) C2/\∃C0 N,C2=C0++[((na,pr),N)]:=by
      rw[zq3,<-List.append_assoc]
      cases hb with
      |true=>
       refine⟨k'+1,.inl ⟨rfl,rfl⟩,C'++[((na,pr),1)],[(na,pr)],by simp[HCL'.out],by omega,by simp,?_,HCT'.out.fresh jr zrY ?_,C',1,rfl⟩
       ·rw[map_append,Nat.add_sub_cancel,List.getElem?_append_right (by simp[HCL'.out]),length_map,HCL'.out,Nat.sub_self];rfl
       ·intro C1 d he hd;rcases zqK with ⟨h0,-⟩|⟨h0,hbd⟩
        ·have hdm:d∈C':=by rw[he];simp
         have h2:=(HCT'.out.mem d).1 hdm;have h3:d.1∈(L.take a).map (Za m L)++(els.take r).map fun x=>(na,zA m L (L.getD x.i.toNat [])):=(@List.count_pos_iff _ instBEqOfDecidableEq Zi _ _).1 (by have:=h2.1;rw[h2.2]at this;exact Int.natCast_pos.1 this)
         rw[h0,List.take_zero,map_nil,List.append_nil]at h3;have h4:=HLO.out _ h3;rw[hd]at h4;simp only at h4;omega
        ·obtain⟨-,C0,N,hC⟩:=HLZ.out h0;obtain⟨h1,h2⟩:=zqE h0;rw[hC]at he;obtain⟨-,he⟩:=List.append_inj' he rfl;injection he with he
         rw[<-he,<-h2]at hd;injection hd with _ hd
         rw[hd,h1]at hbd;simp at hbd
      |false=>
       rcases zqK with ⟨-,h⟩|⟨h0,hbd⟩
       ·cases h
       ·obtain⟨-,C0,N,hC⟩:=HLZ.out h0;obtain⟨h1,h2⟩:=zqE h0;have h3:z.p=x.p:=by simpa using hbd
        rw[<-h2,h3,h1]at hC;have hct:=HCT'.out;rw[hC]at hct;have hl:=HCL'.out;rw[hC,List.length_append]at hl;simp only[List.length_cons,List.length_nil]at hl;refine⟨k',.inr ⟨rfl,rfl⟩,C0++[((na,pr),N+1)],[],by rw[List.length_append];exact hl,by omega,by rw[hC];simp,?_,hct.hit jr,C0,N+1,rfl⟩;rw[map_append,List.getElem?_append_right (by simp;omega),length_map,show k'-1-C0.length=0 by omega]
        rfl
     have zrZ:x.ok wr:=HOK.out wr HKX.out x hxm;obtain⟨cur,hcg,zqM⟩:=HRG.out wr HKX.out;obtain⟨f0,f1⟩:=zqM r x hxr;have e0:wr.cell? ⟨g,r*2,none⟩=some (.int .i64 x.i):=by rw[Nat.mul_comm];simpa[World.cell?,hcg] using f0
     have e1:wr.cell? ⟨g,r*2+1,none⟩=some (.slice x.A x.p.length x.c):=by rw[Nat.mul_comm];simpa[World.cell?,hcg] using f1
     have oG:Old g wr:=⟨zw hcg⟩;have oGi:Old gi wr:=⟨HR'.out.lt⟩;have oLb:Old lb wr:=⟨zw HLB.out⟩;obtain⟨l0,l1,l2,l3,-⟩:=j8 HLB.out;have HXR:=Zh hxr;have HXM:=Zh hxm;have HGD:=Zh hgd;have zpw:=Zh hpr;have HNX:=Zh hN;have HXO:=Zh zrZ;have zpb:=Zh zqK;have HXI:=Zh hxi;have HKA:=Zh (And.intro zrX hj1);obtain⟨xi,xA,xc,xp⟩:=x;simp only at hxi e0 e1 zpb;subst hxi;obtain⟨xl,hxl⟩:=Yz xp.length
     have HXE:=Zh hxl;rw[hxl]at e1;have hrb:r<100000:=by omega
     have hji:(j:Int)<(q:Int):=by omega
     have hwk:IntKind.i64.wrap ((k':Int)-1+1)=(k':Int):=by rw[Int.sub_add_cancel];exact Iw
     obtain⟨wm,hwm⟩:=Xz (wr.alloc (.cells #[.int .i64 j,.slice xA xl xc] 116));have zsk:Ext wr wm:=by rw[hwm];infer_instance
     have hbm:wm.heap[wr.heap.size]? =some (.cells #[.int .i64 j,.slice xA xl xc] 116 (0,0)):=by rw[hwm];exact heap_alloc_new wr _
     have HBM:=Zh hbm;have HWM:=Zh hwm;obtain⟨d0,d1,d2,d3,d4⟩:=j8 hbm;have oM:Old wr.heap.size wm:=⟨d4⟩;clear zqK hwm hbm zq1 hxl hj1 hj2 zq3 zrY hxr hpr hy hgd zqM hcg f0 f1 zrZ hxm hN zqE zrX;go_upto_region 14 with fail
     rw[<-HWM.out];go_cut [61] (fun c W=>c= .bool hb/\Ext wm W)
     case first=>
      rcases zpb.out with ⟨h0,hbd⟩|⟨h0,hbd⟩
      ·subst h0 hbd;go_wp2_with fail
       go_meet
       exact⟨rfl,Zi⟩
      ·have hr1:¬(r:Int)=0:=by omega
       have hrd:decide ((r:Int)=0)=false:=by simp;omega
       have hr2:((r:Int)==0)=false:=by simp;omega
       have l1m:wm.cell? ⟨lb,1,none⟩=some (.slice z.A z.p.length z.c):=(zg wr).trans l1;have oLm:Old lb wm:=⟨Nat.lt_of_lt_of_le oLb.lt zsk.size⟩;have hz:=HZ.out;have hxo:=HXO.out;have hcz:(Zc z.p xp==0)=!hb:=by
        rw[hbd,Bool.eq_iff_iff];simp[zdK]
       have HCP:=Zh (fun W(e:Ext wm W)=>zdO (w:=W) (c:=z.c) (d:=xc) (hz.ct.ext (zsk.trans e)) (hxo.ct.ext (zsk.trans e)) hz.2 hxo.2);simp only at HCP;rw[HXE.out]at HCP;generalize Zc z.p xp=cv at hcz HCP;generalize z.p.length=zl at l1m HCP;clear hbd hz hxo l0 l1 l2 l3;go_wp2_with (go_at_call 79;refine(HCP.out _ Zi).mono ?_;rintro e w5 ⟨rfl,hG⟩;have hx5:=hG.ext)
       all_goals
        go_meet
        exact⟨by show Value.bool (!(cv==0))=_;rw[hcz,Bool.not_not],Ext.trans Zi hx5⟩
     case rest=>
     obtain⟨rfl,hxW⟩:=hcut;obtain⟨W0,hW0⟩:=Xz wc;rw[<-hW0]at hxW|-
     clear hW0;go_upto_if 61 with fail
     go_cut [11] (fun cv W=>cv= .int .i64 ((k2:Int)-1)/\W=W0)
     case first=>
      rcases zsX with ⟨h1,h2⟩|⟨h1,h2⟩
      ·have h2:=Zh h2;subst h1;go_wp2_with fail
       go_meet
       exact⟨by rw[h2.out];congr 1;omega,rfl⟩
      ·subst h1 h2;go_wp2_with fail
       go_meet
       exact⟨rfl,rfl⟩
     case rest=>
     obtain⟨rfl,hW⟩:=hcut;rw[hW];clear hW;have hxrW:Ext wr W0:=zsk.trans hxW;have d0W:W0.cell? ⟨wr.heap.size,0,none⟩=some (.int .i64 j):=(zg wm).trans d0;have oMW:Old wr.heap.size W0:=⟨Nat.lt_of_lt_of_le d4 hxW.size⟩;have zqe:Row W0 gi 3 .i64 I':=HR'.out.ext hxrW;obtain⟨vo,-,ej⟩:=zqe.cell (i:=j) (by rw[HIL'.out];omega);have ef:=zqe.frozen j;have oGW:Old gi W0:=⟨zqe.lt⟩;have zpa:=Zh (zqe.set j ((k2:Int)-1))
     have HBW:=Zh ((Below.heap_setCell W0 ⟨gi,j,none⟩ (.int .i64 ((k2:Int)-1)) wr.heap.size (Nat.ne_of_gt oGi.lt)).trans (zh hxW HBM.out));have HLW:=Zh ((Below.heap_setCell W0 ⟨gi,j,none⟩ (.int .i64 ((k2:Int)-1)) lb (by have:=HGS.out;show lb≠gi;omega)).trans (zh hxrW HLB.out));have hk1:Kx gi lb w3 (W0.setCell ⟨gi,j,none⟩ (.int .i64 ((k2:Int)-1))):=(HKX.out.trans (Kx.of_ext hxrW)).trans (Kx.set W0 (p:=⟨gi,j,none⟩) (.inl rfl) _)
     have HK1:=Zh hk1;have zp7:=Zh zsX;clear zqe HBM l0 l1 l2 l3 e0 e1 oG oM d0 d1 d2 d3 d4 oLb hwk zsX hk1;go_upto_region 17 with fail
     obtain⟨W1,hW1⟩:∃W1,W1=W0.setCell ⟨gi,j,none⟩ (.int .i64 ((k2:Int)-1)):=⟨_,rfl⟩;rw[<-hW1]at zpa HBW HLW HK1;try rw[<-hW1]
     clear hW1 d0W oMW ej ef oGW oGi;obtain⟨d0,d1,-,-,d4⟩:=j8 HBW.out;obtain⟨l0,l1,l2,l3,l4⟩:=j8 HLW.out;have zsO:=zY (i:=0) HLW.out (.int .i64 j);obtain⟨-,m1,-,m3,-⟩:=j8 (w:=W1.setCell ⟨lb,0,none⟩ (.int .i64 j)) (by simpa using zsO);have oMW:Old wr.heap.size W1:=⟨d4⟩;have oLW:Old lb W1:=⟨l4⟩;go_wp2_with fail
     obtain⟨C2,K2,g1,g2,g3,g4,g5,C0,N,g6⟩:=HNX.out;have hj1:=HKA.out.2;have hjI:j<I'.length:=by rw[HIL'.out];omega
     have hgj:zA m L (L.getD ((j:Int).toNat) [])=pr:=by
      have:=HGD.out;simp only at this;rw[this,zpw.out]
     have hK2:Kx gi lb w3 ((W1.setCell ⟨lb,0,none⟩ (.int .i64 j)).setCell ⟨lb,1,none⟩ (.slice xA xl xc)):=HK1.out.trans ((Kx.set W1 (p:=⟨lb,0,none⟩) (.inr rfl) _).trans (Kx.set _ (p:=⟨lb,1,none⟩) (.inr rfl) _));have hgl:gi≠lb:=by have:=HGS.out;omega
     have hH1:∀(i:Nat)(y:List Int),i<a->L[i]? =some y->Hits (I'.set j ((k2:Int)-1)) (C2.map Prod.fst) i (Za m L y):=fun i y h1 h2=>by
      rw[g3];exact(HI'.out i y h1 h2).more K2 (k':=(na,pr)) (.inl (by omega)) hjI
     have hv:(k2:Int)-1=((k2-1:Nat):Int):=by omega
     have hH2:∀x∈els.take (r+1),Hits (I'.set j ((k2:Int)-1)) (C2.map Prod.fst) x.i.toNat (na,zA m L (L.getD x.i.toNat [])):=fun x hx=>by
      rw[take_add_one,HXR.out]at hx;rcases List.mem_append.1 hx with hx|hx
      ·rw[g3];by_cases e:j=x.i.toNat
       ·refine(HJ'.out x hx).more K2 (k':=(na,pr)) (.inr ⟨?_,k2-1,hv,by rw[<-g3];exact g4⟩) hjI;rw[<-e];rw[Int.toNat_natCast]at hgj;rw[hgj]
       ·exact(HJ'.out x hx).more K2 (k':=(na,pr)) (.inl e) hjI
      ·have hx:=List.mem_singleton.1 (show x∈[_] from hx);rw[hx];simp only[hgj];rw[Int.toNat_natCast];exact⟨k2-1,by rw[List.getElem?_set_self hjI,hv],g4⟩
     have zvo:=zY (i:=1) zsO (.slice xA xl xc);refine⟨⟨r+1,C2,I'.set j ((k2:Int)-1),k2,⟨j,xA,xc,xp⟩,by omega,by go_num,rfl,by rcases zp7.out with h|h<;>omega,Zh g1,Zh g5,Zh ((zpa.out.far (p:=⟨lb,0,none⟩) hgl _).far (p:=⟨lb,1,none⟩) hgl _),Zh (by rw[List.length_set];exact HIL'.out),Zh hH1,Zh hH2,Zh (by rw[zvo,<-HXE.out];rfl),Zh (HOK.out _ hK2 _ HXM.out),Zh hK2,Zh (fun _=>⟨HXR.out,C0,N,by rw[hgj];exact g6⟩)⟩,by simp[intOf];omega⟩
    ·obtain rfl:r=el:=by omega
     clear hrl;go_wp2_with fail
     have hbd:Bdry (L.map (zi m)) k:=Bdry.end_ (HPL.out L HP.out).srt hk1 zph.out (fun i y h1 h2 h3=>HK3.out i y h1 h2 h3) HK4.out;have htk:els.take r=els:=List.take_of_length_le (by rw[HEL.out];exact Zr);have hct:=HCT'.out;have hJ:=HJ'.out;rw[htk]at hct hJ;have zsW:CountOK Z1 ((L.take k).map (Za m L)) C':=hct.perm (zhH (by rw[HQ.out];omega) (by omega) HK3.out HMU.out.1);have hH:∀(i:Nat)(y:List Int),i<k->L[i]? =some y->Hits I' (C'.map Prod.fst) i (Za m L y):=fun i y h1 h2=>by
      by_cases h3:i<a
      ·exact HI'.out i y h3 h2
      ·obtain⟨x,hx,he⟩:=zpv.out i (by omega) h1;have h4:=hJ x hx;rw[he,Int.toNat_natCast]at h4;have h5:L.getD i []=y:=by simp[List.getD_eq_getElem?_getD,h2]
       have h6:=HK3.out i (zi m y) (by omega) h1 (by rw[List.getElem?_map,h2];rfl);rw[h5,<-h6]at h4;exact h4
     have hkk:k'<=k:=by omega
     exact⟨⟨k,C',I',k',hk2,rfl,rfl,hkk,HCL',Zh hbd,Zh zsW,HR',HIL',Zh hH,Zh (HMB.out _ HKX.out),HXB.out _ HKX.out⟩,by simp[intOf];omega⟩
  ·obtain rfl:a=q:=by omega
   clear hlt;have zqg:L.take a=L:=List.take_of_length_le (by rw[HQ.out];exact Zr);have zpk:=HCT.out;rw[zqg]at zpk;go_wp2_with fail
   go_ret2
   have hxx:Ext w wr:=hs1.ext.trans zsS;refine⟨gi,L,I,by rw[HQ.out];rfl,HP.out,HR.out,by rw[HIL.out,HQ.out],fun j y hy=>?_,hxx.toStep⟩;rw[<-zpk.unique jr (j2 jr _)];exact HI.out j y (by have:=(Zg.1 hy).1;rw[HQ.out]at this;exact this) hy
def Q6:List Ct:=[((2,1),2),((2,2),1)]
theorem zoP:∀y∈QQ,zA m2 QQ y=Q6:=by decide
theorem zoQ:qi Z1 (QQ.map (Za m2 QQ))=[((2,Q6),3)]:=by decide
theorem zhJ:PrfL m2 QQ:=⟨by decide,by decide,by decide,by decide⟩
theorem zhK:∀x∈QQ,JE m2 QQ x:=by unfold JE;decide
theorem zhL(hM:Mat64 W A m2):Cq 148 #[.slice A 2 2,.int .i64 2,.int .i64 100] W (zai W fun L=>L=QQ):=
 (zfB (w0:=W) (w:=W) (c:=2) (st:=[3,7]) hM.a (by decide) (by decide) zkS zkR (by decide) (by decide) (by decide) (by decide) (by decide)).mono fun e w'⟨B,c,L,he,h1,h2,h3,hp,hw,hs⟩=>by
  obtain rfl:=zkU hp hw;exact⟨B,c,_,_,he,h1,h2,h3,rfl,hs⟩
theorem zoR(hM:Mat64 W A m2)(hX:Ints W X 2 .i64 [1,0]):
  Cq 30 #[.slice A 2 2,.int .i64 2,.int .i64 100,.slice X 2 2] W fun e w'=>∃B c,e= .returned (.tuple #[.slice B 2 c,.int .i64 0])/\Arr w' B 108 (zF Q6)/\Step W w':=
 (zhy (w0:=W) (w:=W) (c:=2) (d:=2) (P:=fun L=>L=QQ) hM.a (by decide) (by decide) zfD hX rfl (by decide) (by decide) (fun W' e=>zhL (hM.ext e)) (fun L hL=>by
  rw[hL];exact⟨zhJ,zhK [1,0] (by decide)⟩)).mono fun e w'⟨B,c,L,he,hL,hO,hs⟩=>by
  rw[hL,zoP [1,0] (by decide)]at he hO;exact⟨B,c,he,hO.arr,hs⟩
theorem zoS(hM:Mat64 W A m2):
  Cq 29 #[.slice A 2 2,.int .i64 2,.int .i64 100] W fun e w'=>∃g c D d,e= .returned (.tuple #[.slice (some ⟨g,0,none⟩) 1 c,.int .i64 0])/\w'.cell? ⟨g,0,none⟩=some (.int .i64 2)/\w'.cell? ⟨g,1,none⟩=some (.slice D 2 d)/\w'.cell? ⟨g,2,none⟩=some (.int .i64 3)/\g<w'.heap.size/\Arr w' D 108 (zF Q6)/\Step W w':=
 (zhI (w0:=W) (w:=W) (c:=2) (P:=fun L=>L=QQ) hM.a (by decide) (by decide) (fun W' e=>zhL (hM.ext e)) (fun L hL=>by
  rw[hL];exact⟨zhJ,zhK⟩)).mono fun e w'⟨A,c,L,C,he,hL,hO,hok,hct,hs⟩=>by
  rw[hL]at hct;have hk:=(hct.unique jr (j2 jr _)).trans zoQ;have zqf:C.length=1:=by have:=congrArg List.length hk;simpa using this
  match C,zqf with
  |[x],_=>
   simp only[map_cons,map_nil,List.cons.injEq,and_true]at hk;have e1:x.n=2:=congrArg (fun z=>z.1.1) hk;have e2:x.p=Q6:=congrArg (fun z=>z.1.2) hk;have e3:x.N=3:=congrArg (fun z=>z.2) hk;obtain⟨g,cur,rfl,-,hh,-,zqP,-⟩:=zdZ hO (by simp);obtain⟨f0,f1,f2⟩:=zbW [x] 0 x rfl;rw[e1]at f0;rw[e2,show Q6.length=2 from rfl]at f1;rw[e3]at f2;have har:=(hok x (by simp)).1;rw[e2]at har;exact⟨g,c,x.A,x.c,he,by simpa[World.cell?,hh] using zqP _ _ f0,by simpa[World.cell?,hh] using zqP _ _ f1,by simpa[World.cell?,hh] using zqP _ _ f2,zw hh,har,hs⟩
set_option maxRecDepth 20000 in
theorem zoT :Cq 23 #[] w (zz w (.bool true)):=by
 have HSP:Hid (∀W B c D d,Arr W B 108 (zF Q6)->Arr W D 108 (zF Q6)->Cq 33 #[.slice B 2 c,.slice D 2 d] W (zz W (.bool true))):=Zh (fun W B c D d h1 h2=>by
  have h:=zn3 (w0:=W) (w:=W) (c:=c) (d:=d) (p:=Q6) (q:=Q6) ⟨_,h1⟩ ⟨_,h2⟩ (by decide) (by decide);rw[decide_eq_true rfl]at h;exact h)
 have HPF:=Zh (fun W A X(h1:Mat64 W A m2)(h2:Ints W X 2 .i64 [1,0])=>zoR h1 h2);have HSG:=Zh (fun W A(h1:Mat64 W A m2)=>zoS h1);have zp8:Hid (∀(W:World)(n:Nat)[Sz W n],Ints (W.alloc (.cells #[.int .i64 1,.int .i64 0] 2)) (some ⟨n,0,none⟩) 2 .i64 [1,0]):=Zh (fun W n h=>by rw[<-h.eq];exact Arr.new W 2 #[.int .i64 1,.int .i64 0]);have HLT:Hid (∀(W:World)(n:Nat)[Sz W n],Arr (W.alloc (.cells #[.int .i64 2,.int .i64 1,.int .i64 2,.int .i64 2,.int .i64 2,.int .i64 1] 108)) (some ⟨n,0,none⟩) 108 (zF Q6)):=Zh (fun W n h=>by rw[<-h.eq];exact Arr.new W 108 #[.int .i64 2,.int .i64 1,.int .i64 2,.int .i64 2,.int .i64 2,.int .i64 1])
 have k1:True:=trivial;go_enter Tryz.func23,Tryz.ntmps23;go_wp2_with (first
  |(go_at_call 30;refine(HPF.out _ _ _ ((zfF w 2 1 1 2).ext Zi) (zp8.out _ _)).mono ?_;rintro e w1 ⟨B1,c1,rfl,hA1,hs1⟩)
  |(go_at_call 29;refine(HSG.out _ _ ((zfF w 2 1 1 2).ext Zi)).mono ?_;rintro e w2 ⟨g,c2,D,d,rfl,q0,q1,q2,q3,hA2,hs2⟩;have oG:Old g w2:=⟨q3⟩)
  |(go_at_call 33;have _t:=k1;clear _t k1;refine(HSP.out _ _ _ _ _ (hA1.ext Zi) (HLT.out _ _)).mono ?_;rintro e w3 ⟨rfl,hs3⟩)
  |(go_at_call 33;refine(HSP.out _ _ _ _ _ (hA2.ext Zi) (hA1.ext Zi)).mono ?_;rintro e w4 ⟨rfl,hs4⟩))
 go_ret;exact⟨rfl,Step.of _ _⟩
end
section
open La
theorem zoU(n k:Nat)(F:Nat->Nat->Int):(zq n fun i=>zq k fun j=>F i j)=zq k fun j=>zq n fun i=>F i j:=by
 induction n with
 |zero=>
  have:∀j,(zq 0 fun i=>F i j)=0:=fun j=>rfl
  simp only[this];exact(zcQ fun _ _=>rfl).symm
 |succ n ih=>rw[qr,ih,<-zaV];exact Z0 fun j _=>(qr n _).symm
theorem zoV(hs:∀i j,i<m.length->j<m.length->ent m i j=ent m j i)(x y:List Int):QX m x y=QX m y x:=by
 unfold QX;have h1:∀u v:List Int,(zq m.length fun i=>u.getD i 0*zq m.length fun j=>ent m i j*v.getD j 0)=zq m.length fun i=>zq m.length fun j=>u.getD i 0*(ent m i j*v.getD j 0):=fun u v=>Z0 fun i _=>(zbJ _ _ _).symm
 rw[h1,h1,zoU];refine Z0 fun i hi=>Z0 fun j hj=>?_
 rw[hs i j hi hj];grind
theorem zoW(hn:AllLen m m.length)(hx:x.length=m.length)(hy:y.length=m.length):QX m x y=zy (zN m y) x:=by
 have h:=zbu (fun i=>(zN m y).getD i 0) x 0 (zN m y) (by rw[JS,hx]) (fun i _=>by rw[Nat.zero_add]);rw[h,JA,hx];unfold QX;refine Z0 fun i hi=>?_
 have e:(zN m y).getD i 0=zy (m.getD i []) y:=by simp[zN,hi]
 rw[Nat.zero_add,e,zfW hn hi y hy,JA,hy,Int.mul_comm];simp only[Nat.zero_add]
theorem zoX(hr:RedOK m)(hx:x.length=m.length)(hy:y.length=m.length):-(zi m x+zi m y)<=2*zy (zN m y) x/\2*zy (zN m y) x<=zi m x+zi m y:=by
 have zqi:=ZZ hr.small;have p1:=zgQ zqi x y 1 hx hy;have p2:=zgQ zqi x y (-1) hx hy;have q1:=J0 hr (QY x 1 y) (by rw[zdA,hx]);have q2:=J0 hr (QY x (-1) y) (by rw[zdA,hx]);have hc:zbN m x y=2*zy (zN m y) x:=by
  have h1:zbN m x y=QX m x y+QX m y x:=zaV _ _ _;rw[h1,zoV (fun i j hi hj=>((of_decide_eq_true hr.small).2.2.2 i hi j hj).1) y x,zoW zqi hx hy];omega
 omega
theorem zhM(hr:RedOK m){b:Int}(hb:b<=4611686018427387904)(h:VecList m b false L)(hl:L.length<=100000):PrfL m L:=
 ⟨hl,h.zc,List.pairwise_map.2 h.norms,fun y hy=>⟨J0 hr y (h.zc y hy),Int.le_trans ((h.mem y).1 hy).2.2.1 hb⟩⟩
theorem zhN(hr:RedOK m){b:Int}(hb:b<=4611686018427387904)(h:VecList m b false L)(hx:x.length=m.length)(hn:zi m x<=4611686018427387904):JE m L x:=fun y hy=>by
 have h1:=zoX hr hx (h.zc y hy);have h2:=((h.mem y).1 hy).2.2.1;omega
theorem zoY(h:Zt m=true){ys:List Int}(hl:ys.length=m.length)(hb:∀y∈ys,-128<=y/\y<=128):zi m ys<=4611686018427387904:=by
 have hR:=qT h;have hn:=ZZ hR.small;have h8:=(Qf hR.small).2;have hy:∀i,-128<=ys.getD i 0/\ys.getD i 0<=128:=fun i=>by
  rw[List.getD_eq_getElem?_getD]
  cases hh:ys[i]? with
  |none=>simp
  |some y=>exact hb y (Zm hh)
 have he:∀i j,i<m.length->j<m.length->-262144<=ent m i j/\ent m i j<=262144:=fun i j hi hj=>by
  have hr:m[i]? =some m[i]:=Ze hi;have hlr:m[i].length=m.length:=hn _ (getElem_mem hi);have e:ent m i j=m[i][j]'(by omega):=jQ hr (Ze (by omega));rw[e];exact(J1 h).ent m[i] (getElem_mem hi) (m[i][j]'(by omega)) (getElem_mem _)
 rw[<-zbK hn ys hl];unfold QX;have h1:∀i,i<m.length->-268435456<=(zq m.length fun j=>ent m i j*ys.getD j 0)/\(zq m.length fun j=>ent m i j*ys.getD j 0)<=268435456:=fun i hi=>by
  have:=zgR (n:=m.length) (F:=fun j=>ent m i j*ys.getD j 0) (B:=33554432) (fun j hj=>by
   have:=qH (a:=ent m i j) (b:=ys.getD j 0) (A:=262144) (B:=128) (he i j hi hj).1 (he i j hi hj).2 (hy j).1 (hy j).2;omega)
  have:(m.length:Int)*33554432<=8*33554432:=by omega
  omega
 have h2:=zgR (n:=m.length) (F:=fun i=>ys.getD i 0*zq m.length fun j=>ent m i j*ys.getD j 0) (B:=34359738368) (fun i hi=>by
  have:=qH (a:=ys.getD i 0) (b:=zq m.length fun j=>ent m i j*ys.getD j 0) (A:=128) (B:=268435456) (hy i).1 (hy i).2 (h1 i hi).1 (h1 i hi).2;omega)
 have:(m.length:Int)*34359738368<=8*34359738368:=by omega
 omega
end
section
open Go.RowKit
def zd1(w:World)(n:Nat)(za:Int)(e:Ending)(w':World):Prop:=∃a hh A c,e= .returned (.tuple #[.slice A n c,.int .i64 (za%(11-2*n))])/\Gm n a/\LLLed hh/\hh.length=n/\Rel n a hh/\Mat64 w' A hh/\n<=c/\c<=9223372036854775807/\Step w w'
theorem zoZ{dim kind za:Int}{NA:Option Addr}{l:List Int}{nc:Nat}{v3:Value}{te:TypeId}(hN:Ints w NA te .i8 l)(h8:I8 l)(hl:l.length<=9223372036854775807)(hd0:0<=dim)(hd1:dim<256)(hk0:0<=kind)(hk1:kind<256)(hb0:0<=za)(hb1:za<256):
  Cq 25 #[.agg #[.int .u8 dim,.int .u8 kind,.slice NA l.length nc,v3],.int .u8 za] w (zd1 w (1+(dim%4).toNat) za):=by
 have HG:Hid (∀W,Ext w W->Cq 22 #[.agg #[.int .u8 dim,.int .u8 kind,.slice NA l.length nc,v3],.int .i64 4] W (zhb W (1+(dim%4).toNat))):=Zh (fun W e=>znx (most:=4) (hN.ext e) h8 hl hd0 hd1 hk0 hk1 (by omega) (by omega));have hn4:1+(dim%4).toNat<=4:=by omega
 clear hN h8;generalize 1+(dim%4).toNat=n at*
 have e1:IntKind.i64.wrap (2*(n:Int))=2*(n:Int):=Iw;have e2:IntKind.i64.wrap (11-2*(n:Int))=11-2*(n:Int):=Iw;have e3:((11-2*(n:Int))==0)=false:=by simp;omega
 have e4:za.tmod (11-2*(n:Int))=za%(11-2*(n:Int)):=Int.tmod_eq_emod_of_nonneg hb0;have e5:IntKind.i64.wrap za=za:=Iw;have e6:=Int.emod_nonneg za (show 11-2*(n:Int)≠0 by omega);have e7:=Int.emod_lt_of_pos za (show 0<11-2*(n:Int) by omega);have e8:IntKind.i64.wrap (za%(11-2*(n:Int)))=za%(11-2*(n:Int)):=Iw;go_enter Tryz.func25,Tryz.ntmps25;go_wp2_with (go_at_call 22;refine(HG.out _ Zi).mono ?_;rintro e w1 ⟨a,hh,A1,c1,rfl,hGm,hLL,zqf,hRel,hM3,hc1,hc2,hs3⟩)
 have HM:=Zh hM3;clear hM3;go_quiet (fail)
 go_wp2_with fail
 go_ret2
 exact⟨a,hh,A1,c1,rfl,hGm,hLL,zqf,hRel,HM.out.ext Zi,hc1,hc2,Step.of _ _⟩
def ju(m L:List (List Int))(k:Nat):List (Ks×Int):=qi Z1 ((L.take k).map (Za m L))
theorem zo0(h:L[k]? =some y):ju m L (k+1)=Zq Z1 (ju m L k) (Za m L y):=by
 unfold ju;rw[take_add_one,h,map_append];simp only[Option.toList_some,map_cons,map_nil];exact znS _ _
theorem zhO{κ:Type}[DecidableEq κ]{lt:κ->κ->Prop}[DecidableRel lt]:∀(p:List (κ×Int))(k:κ),(Zq lt p k).length<=p.length+1
 |[],_=>by simp[Zq]
 |c::p,k=>by
  unfold Zq;split
  ·have:=zhO (lt:=lt) p k;simp only[List.length_cons];omega
  ·split<;>simp
theorem zhP(m L:List (List Int)):∀k,(ju m L k).length<=k
 |0=>by simp[ju,qi]
 |k+1=>by
  have ih:=zhP m L k
  cases h:L[k]? with
  |none=>
   have e:ju m L (k+1)=ju m L k:=by unfold ju;rw[take_add_one,h];simp
   rw[e];omega
  |some y=>
   rw[zo0 h];have:=zhO (lt:=Z1) (ju m L k) (Za m L y);omega
def zo1(w:World)(m:List (List Int))(P:List (List Int)->Prop)(e:Ending)(w':World):Prop:=∃A c C L,e= .returned (.tuple #[.slice A (List.length C) c,.int .i64 0])/\P L/\Arr w' A 53 (ZT C)/\(∀x∈C,x.ok w')/\C.map CE.key=qi Z1 (L.map (Za m L))/\C.length<=L.length/\Step w w'
end
section
open Go.RowKit
open La
def LstOf(m:List (List Int))(b:Nat)(L:List (List Int)):Prop:=VecList m b false L/\L.length<=8000
theorem LstOf.prf(h:LstOf m b L)(hL:LLLed m)(hb:(b:Int)<1073741824):PrfL m L/\∀x∈L,JE m L x:=by
 have hO:=qT hL.red;exact⟨zhM hO (by omega) h.1 (by have:=h.2;omega),fun x hx=>zhN hO (by omega) h.1 (h.1.zc x hx) (by have:=((h.1.mem x).1 hx).2.2.1;omega)⟩
theorem zhQ(hM:Mat64 w0 A m)(hc:n<=c)(hc2:c<=9223372036854775807)(hL:LLLed m)(hmn:m.length=n)(h4:n<=4)(hb:b+2*n<=12)[hx:Ext w0 w]:
  Cq 148 #[.slice A n c,.int .i64 b,.int .i64 20000] w (zai w (LstOf m b)):=by
 subst hmn;have zsP:=zbQ hL.red (b:=b) h4 (.inl hb);exact(zhc (w:=w) (c:=c) (b:=b) (budget:=20000) hM hc hc2 hL.red h4 (.inl hb) (by omega) (by omega)).mono fun e w'⟨B,d,L,he,hM,h1,h2,hv,hl,hs⟩=>⟨B,d,L,_,he,hM,h1,h2,⟨hv,hl⟩,hs⟩
theorem zo2(hM:Mat64 w0 A m)(hc:n<=c)(hc2:c<=9223372036854775807)(hL:LLLed m)(hmn:m.length=n)(h4:n<=4)(hb:b+2*n<=12)[hx:Ext w0 w]:
  Cq 29 #[.slice A n c,.int .i64 b,.int .i64 20000] w (zo1 w m (LstOf m b)):=by
 subst hmn;have hR:=J1 hL.red;refine(zhI (w0:=w0) (w:=w) (c:=c) (b:=b) (u:=20000) (P:=LstOf m b) hM.a (by omega) (fun r hr=>Nat.le_of_eq (hR.all r hr)) (fun W e=>zhQ hM hc hc2 hL rfl h4 hb) (fun L h=>h.prf hL (by omega))).mono ?_;rintro e w' ⟨A1,c1,L,C,he,hP,hO,hok,hct,hs⟩;have hk:=hct.unique jr (j2 jr (L.map (Za m L)));have hl:=zhP m L L.length;unfold ju at hl;rw[List.take_length,<-hk,length_map]at hl
 exact⟨A1,c1,C,L,he,hP,hO.arr,hok,hk,hl,hs⟩
end
section
open Go.RowKit
def zo3(W:World)(m:List (List Int))(b:Nat)(x:List Int)(e:Ending)(w':World):Prop:=∃B k L,e= .returned (.tuple #[.slice B (zA m L x).length k,.int .i64 0])/\VecList m b false L/\L.length<=8000/\CtV w' B (zA m L x)/\Step W w'
theorem zo4{d:Nat}(hM:Mat64 W A m)(hc:n<=c)(hc2:c<=9223372036854775807)(hL:LLLed m)(hmn:m.length=n)(h4:n<=4)(hb:b+2*n<=12)(hX:Ints W X 2 .i64 x)(hxl:x.length=n)(hx8:∀y∈x,-128<=y/\y<=128):
  Cq 30 #[.slice A n c,.int .i64 b,.int .i64 20000,.slice X n d] W (zo3 W m b x):=by
 subst hmn;have hr:=hL.red;have hR:=J1 hr;have hO:=qT hr;have hnn:=J0 hO x hxl;have hn8:=zoY hr hxl hx8;have h:=zhy (w0:=W) (w:=W) (c:=c) (d:=d) (b:=b) (u:=20000) (P:=fun L=>VecList m b false L/\L.length<=8000) hM.a hc hc2 hR hX hxl (fun y hy=>by have:=hx8 y hy;omega) (decide_eq_true (by omega)) (fun W' e=>?_) (fun L hL=>⟨zhM hO (by omega) hL.1 (by omega),zhN hO (by omega) hL.1 hxl hn8⟩)
 ·rw[hxl]at h;exact h.mono fun e w'⟨B,k,L,he,hL,hO,hs⟩=>⟨B,k,L,he,hL.1,hL.2,⟨_,hO.arr⟩,hs⟩
 ·have zsP:=zbQ hr (b:=b) h4 (.inl hb);exact(zhc (w0:=W') (w:=W') (c:=c) (b:=b) (budget:=20000) (hM.ext e) hc hc2 hr h4 (.inl hb) (by omega) (by omega)).mono fun e w'⟨B,d,L,he,hM,h1,h2,hv,hl,hs⟩=>⟨B,d,L,_,he,hM,h1,h2,⟨hv,hl⟩,hs⟩
end
end Go.Proofs.YtpijjipngkdhdaaGreat
