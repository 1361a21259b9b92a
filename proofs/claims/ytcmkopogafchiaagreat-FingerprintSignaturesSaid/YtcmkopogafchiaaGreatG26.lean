import Derived.Test.YtcmkopogafchiaaGreatG25
set_option maxHeartbeats 8000000
set_option linter.unusedVariables false
set_option linter.unusedSimpArgs false
namespace Go.Proofs.YtcmkopogafchiaaGreat
open List (length_map map_append length_take map_cons map_nil mem_append)
variable {b:Int} {L m:List (List Int)} {x y:List Int} {c k n zf:Nat} {A X:Option Addr} {e:TypeId} {W w w0 w2:World}
section
open Go.RowKit
def ZT(m L:List (List Int))(y:List Int):Ks:=(zh m y,zI m L y)
def ziQ(w:World)(m:List (List Int))(P:List (List Int)->Prop)(e:Ending)(w':World):Prop:=
 ∃A c L C,e= .returned (.tuple #[.slice A (List.length C) c,.int .i64 0])/\P L/\Own w' w.heap.size 64 3 A C.length c (zJ C)/\(∀x∈C,x.ok w')/\CountOK ZE (L.map (ZT m L)) (C.map CE.key)/\Step w w'
theorem zqj{a:Nat}{na:Int}{els:List ME}(hk:k<=L.length)(hak:a<=k)(hn:∀(j:Nat)(x:Int),a<=j->j<k->(L.map (zh m))[j]? =some x->x=na)
  (hp:(els.map fun x=>zI m L (L.getD x.i.toNat [])).Perm ((List.range (k-a)).map fun j=>zI m L (L.getD (a+j) []))):
  ((L.take a).map (ZT m L)++els.map fun x=>(na,zI m L (L.getD x.i.toNat []))).Perm ((L.take k).map (ZT m L)):=by
 have h1:=hp.map fun p=>(na,p)
 rw[List.map_map,List.map_map]at h1;have hsp:L.take k=L.take a++(L.take k).drop a:=by
  have h:=List.take_append_drop a (L.take k);rw[List.take_take,Nat.min_eq_left hak]at h;exact h.symm
 have h2:(List.range (k-a)).map ((fun p=>(na,p))∘fun j=>zI m L (L.getD (a+j) []))=((L.take k).drop a).map (ZT m L):=by
  apply List.ext_getElem
  ·simp;omega
  ·intro i h1 h2;simp only[length_map,List.length_range]at h1;simp only[List.getElem_map,List.getElem_range,Function.comp,List.getElem_drop,List.getElem_take];have hi:a+i<L.length:=by omega
   have hg:L.getD (a+i) []=L[a+i]:=by simp[hi]
   rw[hg];unfold ZT;rw[hn (a+i) (zh m L[a+i]) (by omega) (by omega) (by simp[hi])]
 rw[hsp,map_append,<-h2];exact(List.Perm.append_left _ h1)
set_option maxRecDepth 20000 in
theorem ziR{u:Int}{P:List (List Int)->Prop}(hM:MatA w0 A m)(hml:m.length<=1000)(zrV:∀r∈m,r.length<=m.length)
  (zsX:∀W,Ext w0 W->Cq 60 #[.slice A m.length c,.int .i64 b,.int .i64 u] W (zbw W P))
  (hP:∀L,P L->PrfL m L/\(∀x∈L,Jr m L x)) [hx:Ext w0 w]:
  Cq 19 #[.slice A m.length c,.int .i64 b,.int .i64 u] w (ziQ w m P):=by
 have hPN:∀L,P L->L.length<=100000/\(∀y∈L,y.length=m.length)/\∀y∈L,-9223372036854775808<=zh m y/\zh m y<=9223372036854775807:=fun L hL=>by
  obtain⟨⟨h1,h2,-,h4⟩,-⟩:=hP L hL;exact⟨h1,h2,fun y hy=>by have:=h4 y hy;omega⟩
 have HNS:Hid (∀W,Ext w0 W->Cq 35 #[.slice A m.length c,.int .i64 b,.int .i64 u] W (zaF W m P)):=Zh (fun W e=>ziE (w:=W) hM hml zrV zsX hPN);have HPR:Hid (∀(W0 W:World)(LA NA DA XA:Option Addr)(lc nc dc xc mb q:Nat)(L:List (List Int))(x:List Int),P L->x∈L->L.length=q->IntsA W0 XA x->SysV W0 m L LA NA DA->q<=dc->dc<=9223372036854775807->Ext W0 W->W0.heap.size<=mb->MapC W mb 0 []->Cq 37 #[.agg #[.slice LA q lc,.slice NA q nc,.slice DA q dc],.slice XA m.length xc,.map (some mb)] W (jN W mb (zI m L x))):=Zh (fun W0 W LA NA DA XA lc nc dc xc mb q L x hL hxL hq hX hS h1 h2 e1 hmb hMC=>by
  obtain⟨hp,hi⟩:=hP L hL;subst hq;exact zeB (w0:=W0) (w:=W) hS rfl hp.len h1 h2 rfl hml hp.srt hX (hp.zd x hxL) hp.nb (hi x hxL) hmb hMC)
 have HME:Hid (∀(W0 W:World)(LA NA DA:Option Addr)(lc nc dc mb q a k:Nat)(n:Int)(L:List (List Int)),P L->L.length=q->SysV W0 m L LA NA DA->q<=dc->dc<=9223372036854775807->Ext W0 W->W0.heap.size<=mb->MapC W mb 0 []->a<k->k<=q->(∀(j:Nat)(x:Int),a<=j->j<k->(L.map (zh m))[j]? =some x->x=n)->Cq 41 #[.agg #[.slice LA q lc,.slice NA q nc,.slice DA q dc],.int .i64 a,.int .i64 k,.map (some mb)] W (zcy W mb m L a k)):=Zh (fun W0 W LA NA DA lc nc dc mb q a k n L hL hq hS h1 h2 e1 hmb hMC hak hkq hsh=>by
  obtain⟨hp,hi⟩:=hP L hL;subst hq;exact zqd (w0:=W0) (w:=W) hS rfl hp.len h1 h2 rfl hml hp.srt hp.zd hp.nb hi hmb hMC hak hkq)
 have HPL:Hid (∀L,P L->PrfL m L):=Zh (fun L hL=>(hP L hL).1);clear hPN zsX hP hM zrV;unfold zaF at HNS;unfold jN at HPR;unfold zcy at HME;unfold ziQ;obtain⟨n,hn⟩:=Yz m.length;rw[hn]at HNS HPR hml|-
 have HN:=Zh hn;clear hn;have hmk:=@run_makeMap Tryz.prog;go_enter Tryz.func19,Tryz.ntmps19;go_wp2_with (go_at_call 35;refine(HNS.out _ Zi).mono ?_;rintro e w1 ⟨LA,NA,DA,lc,nc,dc,L,rfl,hS,hPL,-,-,-,-,hd1,hd2,hs1⟩;have HSY:=Zh hS;have HP:=Zh hPL;clear hS hPL)
 obtain⟨q,hq⟩:=Yz L.length;rw[hq]at hd1;obtain⟨wB,hwB⟩:=Xz (w1.alloc (.cells #[.slice LA q lc,.slice NA q nc,.slice DA q dc] 70));obtain⟨wM,hwM⟩:=Xz (wB.alloc (.map #[] 0));have hxB:Ext w1 wB:=by rw[hwB];infer_instance
 have hxM:Ext wB wM:=by rw[hwM];infer_instance
 have hsB:wB.heap.size=w1.heap.size+1:=by rw[hwB];simp
 have hsM:wM.heap.size=w1.heap.size+2:=by rw[hwM];simp[hsB]
 have hbx:wB.heap[w1.heap.size]? =some (.cells #[.slice LA q lc,.slice NA q nc,.slice DA q dc] 70 (0,0)):=by rw[hwB];exact heap_alloc_new w1 _
 have HBX:=Zh (zj hxM hbx);have hm0:MapC wM wB.heap.size 0 []:=by rw[hwM];exact MapC.made wB
 rw[hsB]at hm0;rw[hq];rw[<-hwB,<-hwM];obtain⟨mb,hmb⟩:=Xz (w1.heap.size+1);rw[<-hmb]at hm0;have HM0:=Zh hm0;have hx1M:Ext w1 wM:=hxB.trans hxM;have HQ:=Zh hq;have HSZ:=Zh (And.intro hsM hmb);obtain⟨hqb,zyr⟩:q<=100000/\Hid (∀y∈L,0<=zh m y/\zh m y<=4611686018427387904):=⟨by rw[<-hq];exact(HPL.out L HP.out).len,Zh (HPL.out L HP.out).nb⟩;try rw[<-hmb]
 clear hwB hwM hsB hsM hbx hm0 hq hmb HNS hmk;go_loopw [10,12,13,14,16,17] (fun cl s _ _ _ _ wr=>∃(a:Nat) (C:List CE) (A':Option Addr) (c' k:Nat),a<=q/\s= .int .i64 a/\Hid (Bdry (L.map (zh m)) a)/\cl= .slice A' k c'/\k<=a/\Hid (C.length=k)/\Hid (Own wr wM.heap.size 64 3 A' k c' (zJ C))/\Hid (∀x∈C,x.ok wr)/\Hid (CountOK ZE ((L.take a).map (ZT m L)) (C.map CE.key))/\Hid (MapC wr mb 0 [])/\Hid (Fm mb wM wr)) (fun _ s _ _ _ _ _=>q-(intOf s).toNat)
 case atStart=>exact⟨0,[],none,0,0,by omega,rfl,Zh (Bdry.zero _),rfl,by omega,Zh rfl,Zh (Own.nil _ _ _ _),Zh (fun x hx=>by simp at hx),Zh CountOK.nil,HM0,Zh (Fm.refl _ _)⟩
 case round=>
  obtain⟨a,C,A',c',k0,ha,rfl,HB,rfl,hka,HCL,HO,HK,HCT,HM,HF⟩:=hrel;have ztL:w1.heap.size<=mb:=by have:=HSZ.out;omega
  have zxf:Ext w1 wr:=Fm.ext0 hx1M ztL HF.out;obtain⟨⟨c1,c2,c3⟩,-,c4⟩:=Qh (HF.out.cells HM0.out HBX.out);have oB:Old w1.heap.size wr:=⟨c4⟩;by_cases hlt:a<q
  ·obtain⟨y0,hy0⟩:∃y,L[a]? =some y:=⟨_,Ze (by rw[HQ.out];exact hlt)⟩;obtain⟨na,hna⟩:∃v,zh m y0=v:=⟨_,rfl⟩;have zsO:(L.map (zh m))[a]? =some na:=by rw[List.getElem?_map,hy0,<-hna];rfl
   have hnl:(L.map (zh m)).length=q:=by rw[length_map];exact HQ.out
   have HSH:=Zh (fun W(e:Ext w1 W)=>ziB (w:=W) (nc:=nc) (SL:= .slice LA q lc) (SD:= .slice DA q dc) HSY.out.norms zsO hnl (by omega));obtain⟨bl,ol,B0,cb0,rfl,-,-,-,-,d5⟩:=HSY.out.list.a.at_ (i:=a) (r:=y0) hy0;obtain⟨bn,on,na',rfl,ztK,n5,n6⟩:=HSY.out.norms.at_ (i:=a) (by omega);rw[zsO]at ztK;obtain rfl:na=na':=by injection ztK
   have zq1:=Zh zsO;have HNL:=Zh hnl;have HNA:=Zh (And.intro hy0 hna);have oL:Old bl w1:=⟨d5⟩;have oN:Old bn w1:=⟨n6⟩;unfold zcx at HSH;clear hy0 hna zsO hnl;go_upto_region 10 with (go_at_call 40;refine(HSH.out _ Zi).mono ?_;rintro e w2 ⟨k,rfl,hk1,hk2,hk3,hk4,hs2⟩;rw[HNL.out]at hk2;have HK3:=Zh hk3;have HK4:=Zh hk4;clear hk3 hk4)
   have zsF:Ext wr w2:=Zi;have HF2:Hid (Fm mb wM w2):=Zh (HF.out.trans (Fm.of_ext zsF));have HM2:Hid (MapC w2 mb 0 []):=Zh (HM.out.ext zsF);have HO2:Hid (Own w2 wM.heap.size 64 3 A' k0 c' (zJ C)):=Zh (HO.out.ext zsF);have HK2:Hid (∀x∈C,x.ok w2):=Zh (fun x hx=>(HK.out x hx).kp (Kp.of_ext zsF));have HMC:=Zh (HME.out w1 w2 (some ⟨bl,ol,none⟩) (some ⟨bn,on,none⟩) DA lc nc dc mb q a k na L HP.out HQ.out HSY.out hd1 hd2 (zxf.trans zsF) ztL HM2.out hk1 hk2 HK3.out)
   clear HO HM HF HK HSH;go_wp2_with (go_at_call 41;refine HMC.out.mono ?_;rintro e w3 ⟨g,c3',els,rfl,hg3,hR3,hE3,hM3,hF3,hMO3⟩)
   obtain⟨el,hel⟩:=Yz els.length;rw[hel];have HMU:=Zh (zqi hMO3 hE3 (by rw[HQ.out];omega));have HEL:=Zh hel;have zvN:el=k-a:=by
    have h1:=HMU.out.1.length_eq;simp only[length_map,List.length_range]at h1;omega
   have HR3:=Zh hR3;have HE3:=Zh hE3;have HM3:=Zh hM3;have HF3:Hid (Fm mb wM w3):=Zh (HF2.out.trans hF3);have HO3:Hid (Own w3 wM.heap.size 64 3 A' k0 c' (zJ C)):=Zh (hF3.own HM2.out HO2.out);have HKC:Hid (∀x∈C,x.ok w3):=Zh (fun x hx=>(HK2.out x hx).kp (Kp.of_fm hF3 HM2.out));have HLO:Hid (∀s∈(L.take a).map (ZT m L),s.1<na):=Zh (fun s hs=>by
    obtain⟨y,hy,rfl⟩:=List.mem_map.1 hs;obtain⟨i,hi,he⟩:=List.mem_iff_getElem.1 hy;simp only[length_take]at hi;rw[List.getElem_take]at he;refine HB.out i a (zh m y) na (by omega) Zr ?_ zq1.out;rw[List.getElem?_map,Ze (by omega),he];rfl)
   clear hel hR3 hE3 hM3 hF3 hMO3 HMC HO2 HK2 HME c1 c2 c3 c4 oB;go_loopw [10,16,17,45] (fun cl _ _ ix wz=>∃(r:Nat) (C':List CE) (A2:Option Addr) (c2' k':Nat),r<=el/\ix= .int .i64 r/\cl= .slice A2 k' c2'/\Hid (C'.length=k')/\k'<=k0+r/\Hid (Own wz wM.heap.size 64 3 A2 k' c2' (zJ C'))/\Hid (∀x∈C',x.ok wz)/\Hid (CountOK ZE ((L.take a).map (ZT m L)++(els.take r).map fun x=>(na,zI m L (L.getD x.i.toNat []))) (C'.map CE.key))/\Hid (MapC wz mb 0 [])/\Hid (Fm mb wM wz)/\Hid (Kp w3 wz)/\(r=0->k'=k0)/\Hid (0<r->∃C0 x,C'=C0++[x]/\x.n=na/\k0<k')) (fun _ _ _ ix _=>el-(intOf ix).toNat)
   case atStart=>exact⟨0,C,A',c',k0,by omega,rfl,rfl,HCL,by omega,HO3,HKC,Zh (by simpa using HCT.out),HM3,HF3,Zh (Kp.refl _),fun _=>rfl,Zh (fun h=>by omega)⟩
   case round=>
    obtain⟨r,C',A2,c2',k',hr,rfl,rfl,HCL',hk',HO',HK',HCT',HM',HF',HKP,hr0,HR1⟩:=hrel;by_cases hrl:r<el
    ·obtain⟨x,hxr⟩:∃x,els[r]? =some x:=⟨_,Ze (by rw[HEL.out];exact hrl)⟩;have hxm:=Zm hxr;obtain⟨⟨j,hj1,hj2,hxi⟩,ztM⟩:=HMU.out.2.1 x hxm;obtain⟨y,hy⟩:∃y,L[j]? =some y:=⟨_,Ze (by rw[HQ.out];omega)⟩;have hyL:=Zm hy;have hgd:L.getD x.i.toNat []=y:=by rw[hxi];simp[List.getD_eq_getElem?_getD,hy]
     obtain⟨pr,hpr⟩:=Xz (zI m L y);rw[hgd,<-hpr]at ztM;have zxg:pr.length<=100000:=by
      have:=zby m L y;rw[hpr];rw[HQ.out]at this;omega
     have ztp:(els.take (r+1)).map (fun x=>((na,zI m L (L.getD x.i.toNat [])):Ks))=(els.take r).map (fun x=>(na,zI m L (L.getD x.i.toNat [])))++[(na,pr)]:=by
      rw[List.take_add_one,hxr,map_append];simp only[Option.toList,map_cons,map_nil,hgd,<-hpr]
     have zvO:∀s∈(L.take a).map (ZT m L)++(els.take r).map (fun x=>((na,zI m L (L.getD x.i.toNat [])):Ks)),¬ZE (na,pr) s:=fun s hs hlt=>by
      rcases mem_append.1 hs with hs|hs
      ·have h1:=HLO.out s hs;rcases hlt with h|⟨h,-⟩
       ·simp only at h;omega
       ·simp only at h;omega
      ·obtain⟨z,hz,rfl⟩:=List.mem_map.1 hs;obtain⟨i,hi,he⟩:=List.mem_iff_getElem.1 hz;simp only[length_take]at hi;rw[List.getElem_take]at he;have h2:=(List.pairwise_iff_getElem.1 HMU.out.2.2) i r (by omega) (by rw[HEL.out];exact hrl) (by omega);have h3:els[r]'(by rw[HEL.out];exact hrl)=x:=(Zg.1 hxr).2;rw[h3,he,hgd,<-hpr]at h2;rcases hlt with h|⟨-,h⟩
       ·simp only at h;omega
       ·exact h2 h
     have zvP:x.ok wr:=(HE3.out x hxm).kp HKP.out;obtain⟨cur,hcg,zsu⟩:=HR3.out.kp HKP.out;obtain⟨f0,f1⟩:=zsu r x hxr;have e0:wr.cell? ⟨g,r*2,none⟩=some (.int .i64 x.i):=by rw[Nat.mul_comm];simpa[World.cell?,hcg] using f0
     have e1:wr.cell? ⟨g,r*2+1,none⟩=some (.slice x.A x.p.length x.c):=by rw[Nat.mul_comm];simpa[World.cell?,hcg] using f1
     have hgl:=zG hcg;have oG:Old g wr:=⟨hgl⟩;have zuJ:Ext w1 wr:=Fm.ext0 hx1M ztL HF'.out;obtain⟨⟨c1,c2,c3⟩,-,c4⟩:=Qh (HF'.out.cells HM0.out HBX.out);have oB:Old w1.heap.size wr:=⟨c4⟩;obtain⟨xi,xA,xc,xp⟩:=x;simp only at hxi ztM e0 e1;subst hxi;have hnx:=Zh ztp;have zrL:=Zh zvO;have HXR:=Zh hxr;have zrM:=Zh hpr;have HY:=Zh (And.intro hy hyL);have HXO:=Zh zvP;clear ztp zvO hxr hpr hy hyL hgd zsu hcg f0 f1 zvP hxm
     have HNZ:Hid (r=0->∀C0 d,C'.map CE.key=C0++[d]->d.1≠(na,pr)):=Zh (fun hrz C0 d he hd=>by
      have hdm:d∈C'.map CE.key:=by rw[he];simp
      have h2:=(HCT'.out.mem d).1 hdm;have h3:d.1∈(L.take a).map (ZT m L)++(els.take r).map fun x=>(na,zI m L (L.getD x.i.toNat [])):=(@List.count_pos_iff _ instBEqOfDecidableEq Zi _ _).1 (by have:=h2.1;rw[h2.2]at this;exact Int.natCast_pos.1 this)
      rw[hrz,List.take_zero,map_nil,List.append_nil]at h3;have h4:=HLO.out _ h3;rw[hd]at h4;simp only at h4;omega)
     have hrb:r<100000:=by omega
     obtain⟨hb,zsW⟩:∃hb:Bool,(r=0/\k'=k0/\hb=false)∨(k0<k'/\∃(C0:List CE) (z:CE),C'=C0++[z]/\z.n=na/\hb=decide (z.p=xp)):=by
      rcases Nat.eq_zero_or_pos r with h0|h0
      ·exact⟨false,.inl ⟨h0,hr0 h0,rfl⟩⟩
      ·obtain⟨C0,z,h1,h2,h3⟩:=HR1.out h0;exact⟨_,.inr ⟨h3,C0,z,h1,h2,rfl⟩⟩
     have zqV:=Zh zsW;have zq2:Hid ((xA=none/\xp.length=0/\xc=0/\k'=k0)∨(xA≠none/\xp=pr)):=Zh (by
      rcases ztM with ⟨h1,h2,h3,h4⟩|h
      ·rw[HEL.out]at h4;exact .inl ⟨h1,by rw[h3];rfl,h2,hr0 (by omega)⟩
      ·exact .inr h)
     obtain⟨pl,hpl⟩:=Yz pr.length;obtain⟨xl,hxl⟩:=Yz xp.length;have zys:xl<=100000:=by
      rcases ztM with ⟨-,-,h3,-⟩|⟨-,h⟩
      ·rw[h3]at hxl;simp at hxl;omega
      ·rw[h]at hxl;omega
     have HPE:=Zh hpl;have HXE:=Zh hxl;rw[hpl]at zxg;rw[hxl]at e1;have hwk:IntKind.i64.wrap ((k':Int)-1)=(k':Int)-1:=Iw;obtain⟨wm,hwm⟩:=Xz (wr.alloc (.cells #[.int .i64 j,.slice xA xl xc] 82));have hxm:Ext wr wm:=by rw[hwm];infer_instance
     have hbm:wm.heap[wr.heap.size]? =some (.cells #[.int .i64 j,.slice xA xl xc] 82 (0,0)):=by rw[hwm];exact heap_alloc_new wr _
     have HBM:=Zh hbm;have hsm:wm.heap.size=wr.heap.size+1:=by rw[hwm];simp
     have HWM:=Zh hwm;have HSM:=Zh hsm;obtain⟨d0,d1,d2,d3,d4⟩:=zeG hbm;have oM:Old wr.heap.size wm:=⟨d4⟩;have HKA:=Zh zvN;have hji:(j:Int)<(q:Int):=by omega
     clear zsW zvN hr0 HR1 hwm hbm hsm ztM hpl hxl hj1 hj2;go_upto_region 14 with fail
     rw[<-HWM.out];go_cut [65] (fun c W=>c= .bool hb/\Ext wm W)
     case first=>
      rcases zqV.out with ⟨-,hk,hbf⟩|⟨hk,C0,z,hC,-,hbd⟩
      ·subst hk;have zxh:decide ((k':Int)-1≥(k':Int))=false:=by simp;omega
       have zxi:decide ((k':Int)<=(k':Int)-1)=false:=by simp;omega
       have HBF:=Zh hbf;clear hbf;go_quiet (fail)
       go_wp2_with fail
       go_meet
       exact⟨by rw[HBF.out],Zi⟩
      ·obtain⟨g2,cur2,hA2,-,hh2,-,ztN,-⟩:=zeH (HO'.out.ext hxm) (by omega);subst hA2;obtain⟨kl,hkl⟩:∃kl,k'=kl+1:=⟨k'-1,by omega⟩;have hc0:C0.length=kl:=by have:=HCL'.out;rw[hC]at this;simp at this;omega
       obtain⟨-,f1,-⟩:=zaI C' kl z (by rw[hC,List.getElem?_append_right (by omega),hc0,Nat.sub_self];rfl);have e5:wm.cell? ⟨g2,kl*3+1,none⟩=some (.slice z.A z.p.length z.c):=by simpa[World.cell?,hh2] using ztN _ _ f1
       have oG2:Old g2 wm:=⟨zG hh2⟩;have hkt:((k':Int)-1).toNat=kl:=by omega
       have zxj:(0:Int)<=(k':Int)-1:=by omega
       have zxk:(k':Int)-1<(k':Int):=by omega
       have zxh:decide ((k':Int)-1≥(k0:Int))=true:=by simp;omega
       have zxi:decide ((k0:Int)<=(k':Int)-1)=true:=by simp;omega
       have zuK:z.ok wm:=((HK'.out z (by rw[hC];simp)).kp (Kp.of_ext hxm));have zuL:=HXO.out;have hcz:(Zx z.p xp==0)=hb:=by
        rw[hbd,Bool.eq_iff_iff];simp[zin]
       have HCP:=Zh (fun W(e:Ext wm W)=>ziA (w:=W) (c:=z.c) (d:=xc) (zuK.ct.ext e) (zuL.ct.ext (hxm.trans e)) zuK.2 zuL.2);simp only at HCP;rw[HXE.out]at HCP;generalize Zx z.p xp=cv at hcz HCP;generalize z.p.length=zl at e5 HCP;clear hkl hC hc0 hbd zuK zuL hh2 ztN f1 hk;go_region_with (go_at_call 42;refine(HCP.out _ Zi).mono ?_;rintro e w5 ⟨rfl,hG⟩;have hx5:=hG.ext)
       all_goals
        go_wp2_with fail
        go_meet
        exact⟨rfl,Ext.trans Zi hx5⟩
     case rest=>
     obtain⟨rfl,hxW⟩:=hcut;obtain⟨W0,hW0⟩:=Xz wc;rw[<-hW0]at hxW|-
     clear hW0;have hxrW:Ext wr W0:=hxm.trans hxW;have d1W:W0.cell? ⟨wr.heap.size,1,none⟩=some (.slice xA xl xc):=(zi wm).trans d1;have d0W:W0.cell? ⟨wr.heap.size,0,none⟩=some (.int .i64 j):=(zi wm).trans d0;have oMW:Old wr.heap.size W0:=⟨Nat.lt_of_lt_of_le d4 hxW.size⟩
     cases hb with
     |true=>
      obtain⟨hk,C0,z,hC,hzn,hzp⟩:k0<k'/\∃(C0:List CE) (z:CE),C'=C0++[z]/\z.n=na/\z.p=pr:=by
       rcases zqV.out with ⟨-,-,h⟩|⟨hk,C0,z,hC,hzn,hbd⟩
       ·cases h
       ·rcases zq2.out with ⟨-,-,-,h⟩|⟨-,h⟩
        ·omega
        ·exact⟨hk,C0,z,hC,hzn,(of_decide_eq_true hbd.symm).trans h⟩
      obtain⟨g2,cur2,hA2,hg2,hh2,-,ztN,zsJ⟩:=zeH (HO'.out.ext hxrW) (by omega);subst hA2;obtain⟨kl,hkl⟩:∃kl,k'=kl+1:=⟨k'-1,by omega⟩;have hc0:C0.length=kl:=by have:=HCL'.out;rw[hC]at this;simp at this;omega
      obtain⟨-,-,f2⟩:=zaI C' kl z (by rw[hC,List.getElem?_append_right (by omega),hc0,Nat.sub_self];rfl);have e5:W0.cell? ⟨g2,kl*3+2,none⟩=some (.int .i64 z.N):=by simpa[World.cell?,hh2] using ztN _ _ f2
      have e6:W0.frozen? ⟨g2,kl*3+2,none⟩=false:=by simp[World.frozen?,hh2]
      have hkt:((k':Int)-1).toNat=kl:=by omega
      have zxj:(0:Int)<=(k':Int)-1:=by omega
      have zxk:(k':Int)-1<(k':Int):=by omega
      have hct:=HCT'.out;rw[hC,map_append]at hct;have hN:0<z.N/\z.N<=200000:=by
       have h1:=(hct.mem z.key).1 (by simp);have h2:=@List.count_le_length _ instBEqOfDecidableEq z.key.1 ((L.take a).map (ZT m L)++(els.take r).map fun x=>((na,zI m L (L.getD x.i.toNat [])):Ks));simp only[List.length_append,length_map,length_take]at h2;have h3:=h1.2;have h4:z.key.2=z.N:=rfl;have h5:=HKA.out;omega
      have hwN:IntKind.i64.wrap (z.N+1)=z.N+1:=Iw;have HO9:Hid (Own (W0.setCell ⟨g2,kl*3+2,none⟩ (.int .i64 (z.N+1))) wM.heap.size 64 3 (some ⟨g2,0,none⟩) k' c2' (zJ (C0++[{z with N:=z.N+1}]))):=Zh (by
       have h:=zsJ (kl*3+2) (.int .i64 (z.N+1)) (by rw[zaH,HCL'.out];omega);rw[zqe,hc0,<-hC];exact h)
      have hKp:Kp wr (W0.setCell ⟨g2,kl*3+2,none⟩ (.int .i64 (z.N+1))):=(Kp.of_ext hxrW).trans (Kp.of_set hh2 rfl _);have HK9:Hid (∀x∈C0++[{z with N:=z.N+1}],x.ok (W0.setCell ⟨g2,kl*3+2,none⟩ (.int .i64 (z.N+1)))):=Zh (fun x hx=>by
       rcases mem_append.1 hx with hx|hx
       ·exact(HK'.out x (by rw[hC];simp[hx])).kp hKp
       ·rw[List.mem_singleton.1 hx];exact CE.ok.kp (x:=z) (HK'.out z (by rw[hC];simp)) hKp)
      have HC9:Hid (CountOK ZE ((L.take a).map (ZT m L)++(els.take (r+1)).map fun x=>(na,zI m L (L.getD x.i.toNat []))) ((C0++[{z with N:=z.N+1}]).map CE.key)):=Zh (by
       rw[hnx.out,<-List.append_assoc,map_append];have hkz:CE.key z=((na,pr),z.N):=by rw[<-hzn,<-hzp];rfl
       simp only[map_cons,map_nil,hkz]at hct;have h:=hct.hit j2;rw[<-hzn,<-hzp]at h|-
       exact h)
      have zxl:mb≠g2:=by have:=HSZ.out;omega
      have HM9:Hid (MapC (W0.setCell ⟨g2,kl*3+2,none⟩ (.int .i64 (z.N+1))) mb 0 []):=Zh ((HM'.out.ext hxrW).at_block (Below.heap_setCell W0 _ _ mb zxl));have HF9:Hid (Fm mb wM (W0.setCell ⟨g2,kl*3+2,none⟩ (.int .i64 (z.N+1)))):=Zh ((HF'.out.trans (Fm.of_ext hxrW)).new (Below.setAt W0 hg2 _));have HP9:=Zh (HKP.out.trans hKp);have HL9:Hid ((C0++[{z with N:=z.N+1}]).length=k'):=Zh (by simp[hc0,hkl])
      have HZN:=Zh hzn;have oG2:Old g2 W0:=⟨zG hh2⟩;clear hKp zsJ hct hC hc0 hzn hzp ztN hh2 f2 hkl zqV HNZ;go_wp2_with fail
      exact⟨⟨r+1,C0++[{z with N:=z.N+1}],some ⟨g2,0,none⟩,c2',k',by omega,by go_num,rfl,HL9,by omega,HO9,HK9,HC9,HM9,HF9,HP9,fun h=>by omega,Zh (fun _=>⟨C0,_,rfl,HZN.out,hk⟩)⟩,by simp[intOf];omega⟩
     |false=>
      have HNF:Hid (∀C1 d,C'.map CE.key=C1++[d]->d.1≠(na,pr)):=Zh (by
       rcases zqV.out with ⟨h1,-,-⟩|⟨hk,C0,z,hC,-,hbd⟩
       ·exact HNZ.out h1
       ·intro C1 d he hd;rcases zq2.out with ⟨-,-,-,h⟩|⟨-,h⟩
        ·omega
        ·rw[hC,map_append]at he;obtain⟨-,he⟩:=List.append_inj' he rfl;injection he with he
         rw[<-he]at hd;refine of_decide_eq_false hbd.symm ?_;rw[h];exact congrArg Prod.snd hd)
      have zyt:k0<=k':=by rcases zqV.out with ⟨-,h,-⟩|⟨h,-⟩<;>omega
      clear zqV HNZ;go_upto_region 16 with fail
      obtain⟨nb,hnb⟩:∃nb:Bool,nb=xA.isNone:=⟨_,rfl⟩;have HNB:=Zh hnb;clear hnb;go_cut [76] (fun c W=>c= .bool nb/\W=W0)
      case first=>
       have hq0:=zcT (P:=Tryz.prog) Tryz.underlying30;go_wp2_with fail
       go_meet
       exact⟨by rw[HNB.out],rfl⟩
      case rest=>
      obtain⟨rfl,hW⟩:=hcut;rw[hW];clear hW;go_upto_if 76 with fail
      go_cut [] (fun W=>∃A5 c5,Hid (W.heap[wr.heap.size]? =some (.cells #[.int .i64 j,.slice A5 pl c5] 82 (0,0)))/\Hid (Arr W A5 45 (zz pr))/\Hid (MapC W mb 0 [])/\Hid (Fm mb wr W))
      case first=>
       cases nb with
       |false=>
        rcases zq2.out with ⟨h,-⟩|⟨-,h⟩
        ·rw[h]at HNB;exact absurd HNB.out (by simp)
        ·have hpe:=HXE.out;rw[h,HPE.out]at hpe;subst hpe;have har:=HXO.out.1;simp only at har;rw[h]at har;have zqQ:Hid (∃A5 c5,Hid (W0.heap[wr.heap.size]? =some (.cells #[.int .i64 j,.slice A5 pl c5] 82 (0,0)))/\Hid (Arr W0 A5 45 (zz pr))/\Hid (MapC W0 mb 0 [])/\Hid (Fm mb wr W0)):=Zh ⟨xA,xc,Zh (zj hxW HBM.out),Zh (har.ext hxrW),Zh (HM'.out.ext hxrW),Zh (Fm.of_ext hxrW)⟩;clear har h;go_wp2_with fail
         go_meet
         exact zqQ.out
       |true=>
        rcases zq2.out with ⟨-,h2,-,-⟩|⟨h,-⟩
        ·rw[HXE.out]at h2;obtain⟨bl',ol',B,cb,hA,g0,hB,g2,g3,g4⟩:=HSY.out.list.a.at_ HY.out.1;injection hA with hA
         injection hA with z1 z2
         subst z1 z2;rw[(HPL.out L HP.out).zd y HY.out.2,HN.out]at g0 g2;have hx1W:Ext w1 W0:=zuJ.trans hxrW;have g0':W0.cell? ⟨bl,ol+j,none⟩=some (.slice B n cb):=(zi w1).trans g0;have oLW:Old bl W0:=⟨Nat.lt_of_lt_of_le g4 hx1W.size⟩;have hFm0:Fm mb wM W0:=HF'.out.trans (Fm.of_ext hxrW);obtain⟨⟨h1',h2',h3'⟩,-,h4'⟩:=Qh (hFm0.cells HM0.out HBX.out);have oBW:Old w1.heap.size W0:=⟨h4'⟩;have HMW:Hid (MapC W0 mb 0 []):=Zh (HM'.out.ext hxrW)
         have HBW:Hid (W0.heap[wr.heap.size]? =some (.cells #[.int .i64 j,.slice xA xl xc] 82 (0,0))):=Zh (zj hxW HBM.out);have zrd:Hid (∀W,Ext w1 W->MapC W mb 0 []->Cq 37 #[.agg #[.slice (some ⟨bl,ol,none⟩) q lc,.slice (some ⟨bn,on,none⟩) q nc,.slice DA q dc],.slice B n cb,.map (some mb)] W (jN W mb pr)):=Zh (fun W e hMC=>by
          rw[zrM.out];exact HPR.out w1 W (some ⟨bl,ol,none⟩) (some ⟨bn,on,none⟩) DA B lc nc dc cb mb q L y HP.out HY.out.2 HQ.out hB HSY.out hd1 hd2 e ztL hMC)
         unfold jN at zrd;rw[HPE.out]at zrd;have HXW:=Zh hxrW;clear hB g0 HPR h2 hFm0 hxrW zuJ c1 c2 c3 c4 oB e0 e1 hxm HSM;go_wp2_with fail
         go_region_law (first
          |(go_simp;go_at_call 37;refine(zrd.out _ Zi (HMW.out.ext Zi)).mono ?_;rintro e w5 ⟨A5,c5,rfl,hO5,hM5,hF5⟩;have hb5:=hF5.cells (HMW.out.ext Zi) (zj (Zi:Ext W0 _) HBW.out);have HB5:=Zh hb5;obtain⟨d0,d1,d2,d3,d4⟩:=zeG hb5;have oX:Old wr.heap.size w5:=⟨d4⟩;have HO5:=Zh hO5;have HM5:=Zh hM5;have HF5:=Zh hF5;have hs5:=hF5.size;clear hO5 hM5 hF5 hb5))
         all_goals
          have hr5:Fm mb wr w5:=(Fm.of_ext (HXW.out.trans Zi)).trans HF5.out;have hrW:Fm mb wr (w5.setCell ⟨wr.heap.size,1,none⟩ (.slice A5 pl c5)):=hr5.new (Below.setAt (n:=wr.heap.size) (p:=⟨wr.heap.size,1,none⟩) w5 Zr _);have hbW:=Zt (i:=1) HB5.out (.slice A5 pl c5);have hmW:MapC (w5.setCell ⟨wr.heap.size,1,none⟩ (.slice A5 pl c5)) mb 0 []:=HM5.out.at_block (Below.heap_setCell w5 _ _ mb (Nat.ne_of_lt HM'.out.lt))
          have haW:Arr (w5.setCell ⟨wr.heap.size,1,none⟩ (.slice A5 pl c5)) A5 45 (zz pr):=(HO5.out.far (p:=⟨wr.heap.size,1,none⟩) HB5.out (by decide) (.slice A5 pl c5)).arr;have zqQ:=Zh (And.intro hbW (And.intro haW (And.intro hmW hrW)));clear hr5 hrW hbW hmW haW HB5 HO5 HM5 HF5;go_wp2_with fail
          go_meet
          exact⟨A5,c5,Zh zqQ.out.1,Zh zqQ.out.2.1,Zh zqQ.out.2.2.1,Zh zqQ.out.2.2.2⟩
        ·have hn:=HNB.out
         cases xA with
         |none=>exact absurd rfl h
         |some a=>cases hn
      case rest=>
      obtain⟨A5,c5,HB5,HA5,HM5,HF5⟩:=hcut;obtain⟨W,hW⟩:=Xz wc;rw[<-hW]at HB5 HA5 HM5 HF5|-
      clear hW d0W d1W oMW hxW hxrW e0 e1 oG hgl;obtain⟨d0',d1',-,-,d4'⟩:=zeG HB5.out;have hrW:=HF5.out;have HFW:Hid (Fm mb wM W):=Zh (HF'.out.trans hrW);have HOW:Hid (Own W wM.heap.size 64 3 A2 k' c2' (zJ C')):=Zh (hrW.own HM'.out HO'.out);have HPW:Hid (Kp w3 W):=Zh (HKP.out.trans (Kp.of_fm hrW HM'.out));have HKW:Hid (∀x∈C',x.ok W):=Zh (fun x hx=>(HK'.out x hx).kp (Kp.of_fm hrW HM'.out));obtain⟨⟨h1',h2',h3'⟩,-,h4'⟩:=Qh (HFW.out.cells HM0.out HBX.out)
      have oBW:Old w1.heap.size W:=⟨h4'⟩;have oXW:Old wr.heap.size W:=⟨d4'⟩;have hx1W:Ext w1 W:=Fm.ext0 hx1M ztL HFW.out;have hsW:=HFW.out.size;have n5W:W.cell? ⟨bn,on+a,none⟩=some (.int .i64 na):=(zi w1).trans n5;have hkb:k'<=300000:=by have:=HKA.out;omega
      clear hrW c1 c2 c3 c4 oB HF' HM' HO' HK' HKP zuJ;go_wp2_with fail
      go_region_law ((refine QB _ rfl (.tmp 87) (.tmp 96) 37 rfl wM.heap.size 64 (.agg #[.int .i64 0,.slice none 0 0,.int .i64 0]) 3 40 Tryz.underlying37 zbA rfl (by decide) (by decide) A2 k' c2' (zJ C') (by simp[Act.eval]) (HOW.out.ext Zi) (some ⟨W.drew.heap.size,0,none⟩) 1 1 [.int .i64 na,.slice A5 pl c5,.int .i64 1] (by simp[Act.eval]) (Arr.new W.drew 64 #[.int .i64 na,.slice A5 pl c5,.int .i64 1]) rfl (by simp[Value.oneCell']) (by omega) (by simp;omega) ?_);intro A9 c9 w9 zvQ hg9)
      all_goals
       have hxa:Ext W (W.drew.alloc (.cells #[.int .i64 na,.slice A5 pl c5,.int .i64 1] 64)):=(Zi:Ext W W.drew).trans Zi;have hK9:Kp W w9:=(Kp.of_ext hxa).trans (Kp.of_grow hg9);have hcf:zJ (C'++[⟨na,A5,c5,pr,1⟩])=zJ C'++[.int .i64 na,.slice A5 pl c5,.int .i64 1]:=by rw[zcz,<-HPE.out];rfl
       have hO9:Own w9 wM.heap.size 64 3 A9 (k'+1) c9 (zJ (C'++[⟨na,A5,c5,pr,1⟩])):=by rw[hcf];exact zvQ
       have hM9:MapC w9 mb 0 []:=(HM5.out.ext hxa).grow hg9;have hF9:Fm mb wM w9:=(HFW.out.trans (Fm.of_ext hxa)).new hg9.below;have zvR:∀x∈C'++[(⟨na,A5,c5,pr,1⟩:CE)],x.ok w9:=fun x hx=>by
        rcases mem_append.1 hx with hx|hx
        ·exact(HKW.out x hx).kp hK9
        ·rw[List.mem_singleton.1 hx];exact CE.ok.kp (w:=W) ⟨HA5.out,by simp only[HPE.out];omega⟩ hK9
       have zvS:CountOK ZE ((L.take a).map (ZT m L)++(els.take (r+1)).map fun x=>(na,zI m L (L.getD x.i.toNat []))) ((C'++[(⟨na,A5,c5,pr,1⟩:CE)]).map CE.key):=by
        rw[hnx.out,<-List.append_assoc,map_append];exact HCT'.out.fresh j2 zrL.out HNF.out
       have HO9:=Zh hO9;have HM9:=Zh hM9;have HF9:=Zh hF9;have HK9:=Zh zvR;have HC9:=Zh zvS;have HP9:=Zh (HPW.out.trans hK9);clear hxa hK9 hcf hO9 hM9 hF9 zvR zvS zvQ hg9;go_wp2_with fail
       exact⟨⟨r+1,C'++[⟨na,A5,c5,pr,1⟩],A9,c9,k'+1,by omega,by go_num,rfl,Zh (by rw[List.length_append,HCL'.out];rfl),by omega,HO9,HK9,HC9,HM9,HF9,HP9,fun h=>by omega,Zh (fun _=>⟨C',_,rfl,rfl,by omega⟩)⟩,by simp[intOf];omega⟩
    ·obtain rfl:r=el:=by omega
     go_wp2_with fail
     have hbd:Bdry (L.map (zh m)) k:=Bdry.end_ (HPL.out L HP.out).srt hk1 zq1.out (fun i y h1 h2 h3=>HK3.out i y h1 h2 h3) HK4.out;have hct:=HCT'.out;rw[List.take_of_length_le (l:=els) (by rw[HEL.out];exact Zr)]at hct;have zxm:CountOK ZE ((L.take k).map (ZT m L)) (C'.map CE.key):=hct.perm (zqj (by rw[HQ.out];omega) (by omega) HK3.out HMU.out.1);exact⟨⟨k,C',A2,c2',k',hk2,rfl,Zh hbd,rfl,by omega,HCL',HO',HK',Zh zxm,HM',HF'⟩,by simp[intOf];omega⟩
  ·obtain rfl:a=q:=by omega
   clear hlt;have zrW:L.take a=L:=List.take_of_length_le (by rw[HQ.out];exact Zr);have zrk:=HCT.out;rw[zrW]at zrk;go_wp2_with fail
   go_ret2
   have hsz:=HSZ.out;have ztU:=hs1.ext.size;have hxx:Ext w wr:=Fm.ext0 (hs1.ext.trans hx1M) (by omega) HF.out;refine⟨A',c',L,C,by rw[HCL.out];rfl,HP.out,?_,HK.out,zrk,hxx.toStep⟩;rw[HCL.out];exact HO.out.lower (by omega)
def jp:List Ct:=[((2,1),2),((2,2),1)]
theorem zqk:∀y∈jg,zI m2 jg y=jp:=by decide
theorem zql:qC ZE (jg.map (ZT m2 jg))=[((2,jp),3)]:=by decide
theorem ziS:PrfL m2 jg:=⟨by decide,by decide,by decide,by decide⟩
theorem ziT:∀x∈jg,Jr m2 jg x:=by unfold Jr;decide
theorem ziU(hM:Mat64 W A m2):Cq 60 #[.slice A 2 2,.int .i64 2,.int .i64 100] W (zbw W fun L=>L=jg):=
 (zgk (w0:=W) (w:=W) (c:=2) (st:=[3,7]) hM.a (by decide) (by decide) zl7 zl6 (by decide) (by decide) (by decide) (by decide) (by decide)).mono fun e w'⟨B,c,L,he,h1,h2,h3,hp,hw,hs⟩=>by
  obtain rfl:=zl9 hp hw;exact⟨B,c,_,_,he,h1,h2,h3,rfl,hs⟩
theorem zqm(hM:Mat64 W A m2)(hX:Ints W X 2 .i64 [1,0]):
  Cq 15 #[.slice A 2 2,.int .i64 2,.int .i64 100,.slice X 2 2] W fun e w'=>∃B c,e= .returned (.tuple #[.slice B 2 c,.int .i64 0])/\Arr w' B 45 (zz jp)/\Step W w':=
 (zpQ (w0:=W) (w:=W) (c:=2) (d:=2) (P:=fun L=>L=jg) hM.a (by decide) (by decide) zgm hX rfl (by decide) (by decide) (fun W' e=>ziU (hM.ext e)) (fun L hL=>by
  rw[hL];exact⟨ziS,ziT [1,0] (by decide)⟩)).mono fun e w'⟨B,c,L,he,hL,hO,hs⟩=>by
  rw[hL,zqk [1,0] (by decide)]at he hO;exact⟨B,c,he,hO.arr,hs⟩
theorem zqn(hM:Mat64 W A m2):
  Cq 19 #[.slice A 2 2,.int .i64 2,.int .i64 100] W fun e w'=>∃g c D d,e= .returned (.tuple #[.slice (some ⟨g,0,none⟩) 1 c,.int .i64 0])/\w'.cell? ⟨g,0,none⟩=some (.int .i64 2)/\w'.cell? ⟨g,1,none⟩=some (.slice D 2 d)/\w'.cell? ⟨g,2,none⟩=some (.int .i64 3)/\g<w'.heap.size/\Arr w' D 45 (zz jp)/\Step W w':=
 (ziR (w0:=W) (w:=W) (c:=2) (P:=fun L=>L=jg) hM.a (by decide) (by decide) (fun W' e=>ziU (hM.ext e)) (fun L hL=>by
  rw[hL];exact⟨ziS,ziT⟩)).mono fun e w'⟨A,c,L,C,he,hL,hO,hok,hct,hs⟩=>by
  rw[hL]at hct;have hk:=(hct.unique j2 (j1 j2 _)).trans zql;have zrT:C.length=1:=by have:=congrArg List.length hk;simpa using this
  match C,zrT with
  |[x],_=>
   simp only[map_cons,map_nil,List.cons.injEq,and_true]at hk;have e1:x.n=2:=congrArg (fun z=>z.1.1) hk;have e2:x.p=jp:=congrArg (fun z=>z.1.2) hk;have e3:x.N=3:=congrArg (fun z=>z.2) hk;obtain⟨g,cur,rfl,-,hh,-,zsy,-⟩:=zeH hO (by simp);obtain⟨f0,f1,f2⟩:=zaI [x] 0 x rfl;rw[e1]at f0;rw[e2,show jp.length=2 from rfl]at f1;rw[e3]at f2;have har:=(hok x (by simp)).1;rw[e2]at har;exact⟨g,c,x.A,x.c,he,by simpa[World.cell?,hh] using zsy _ _ f0,by simpa[World.cell?,hh] using zsy _ _ f1,by simpa[World.cell?,hh] using zsy _ _ f2,zG hh,har,hs⟩
set_option maxRecDepth 20000 in
theorem zqo :Cq 18 #[] w (zy w (.bool true)):=by
 have HSP:Hid (∀W B c D d,Arr W B 45 (zz jp)->Arr W D 45 (zz jp)->Cq 17 #[.slice B 2 c,.slice D 2 d] W (zy W (.bool true))):=Zh (fun W B c D d h1 h2=>by
  have h:=ziv (w0:=W) (w:=W) (c:=c) (d:=d) (p:=jp) (q:=jp) ⟨_,h1⟩ ⟨_,h2⟩ (by decide) (by decide);rw[decide_eq_true rfl]at h;exact h)
 have HPF:=Zh (fun W A X(h1:Mat64 W A m2)(h2:Ints W X 2 .i64 [1,0])=>zqm h1 h2);have HSG:=Zh (fun W A(h1:Mat64 W A m2)=>zqn h1);have zrN:Hid (∀(W:World)(n:Nat)[Sz W n],Ints (W.alloc (.cells #[.int .i64 1,.int .i64 0] 2)) (some ⟨n,0,none⟩) 2 .i64 [1,0]):=Zh (fun W n h=>by rw[<-h.eq];exact Arr.new W 2 #[.int .i64 1,.int .i64 0]);have HLT:Hid (∀(W:World)(n:Nat)[Sz W n],Arr (W.alloc (.cells #[.int .i64 2,.int .i64 1,.int .i64 2,.int .i64 2,.int .i64 2,.int .i64 1] 45)) (some ⟨n,0,none⟩) 45 (zz jp)):=Zh (fun W n h=>by rw[<-h.eq];exact Arr.new W 45 #[.int .i64 2,.int .i64 1,.int .i64 2,.int .i64 2,.int .i64 2,.int .i64 1])
 have k1:True:=trivial;go_enter Tryz.func18,Tryz.ntmps18;go_wp2_with (first
  |(go_at_call 15;refine(HPF.out _ _ _ ((zgo w 2 1 1 2).ext Zi) (zrN.out _ _)).mono ?_;rintro e w1 ⟨B1,c1,rfl,hA1,hs1⟩)
  |(go_at_call 19;refine(HSG.out _ _ ((zgo w 2 1 1 2).ext Zi)).mono ?_;rintro e w2 ⟨g,c2,D,d,rfl,q0,q1,q2,q3,hA2,hs2⟩;have oG:Old g w2:=⟨q3⟩)
  |(go_at_call 17;have _t:=k1;clear _t k1;refine(HSP.out _ _ _ _ _ (hA1.ext Zi) (HLT.out _ _)).mono ?_;rintro e w3 ⟨rfl,hs3⟩)
  |(go_at_call 17;refine(HSP.out _ _ _ _ _ (hA2.ext Zi) (hA1.ext Zi)).mono ?_;rintro e w4 ⟨rfl,hs4⟩))
 go_ret;exact⟨rfl,Step.of _ _⟩
section
variable {κ:Type} [DecidableEq κ] {lt:κ->κ->Prop} [DecidableRel lt]
theorem zeI:∀(p:List (κ×Int))(k:κ)(j:Nat),(∀i d,i<j->p[i]? =some d->lt d.1 k)->
  (p.length=j->Zb lt p k=p++[(k,1)])/\∀d,p[j]? =some d->¬lt d.1 k->(d.1=k->Zb lt p k=p.set j (d.1,d.2+1))/\(d.1≠k->Zb lt p k=p.take j++(k,1)::p.drop j)
 |[],k,j,_=>⟨fun _=>rfl,fun d hd=>by simp at hd⟩
 |c::p,k,0,h=>⟨fun h=>by simp at h,fun d hd hn=>by
  simp at hd;subst hd;unfold Zb;rw[if_neg hn];refine⟨fun e=>?_,fun e=>?_⟩
  ·rw[if_pos e,<-e];rfl
  ·rw[if_neg e];rfl⟩
 |c::p,k,j+1,h=>by
  obtain⟨h1,h2⟩:=zeI p k j fun i d hi hd=>h (i+1) d (by omega) (by simpa using hd)
  have hc:lt c.1 k:=h 0 c (by omega) rfl;unfold Zb;rw[if_pos hc];refine⟨fun e=>by rw[h1 (by simpa using e)];rfl,fun d hd hn=>?_⟩;obtain⟨h3,h4⟩:=h2 d (by simpa using hd) hn;exact⟨fun e=>by rw[h3 e];rfl,fun e=>by rw[h4 e];rfl⟩
end
theorem ziV:∀(p:List Ct)(j:Nat)(d:Ct)(v:Int),p[j]? =some d->zz (p.set j (d.1,v))=(zz p).set (j*3+2) (.int .i64 v)
 |[],j,d,v,h=>by simp at h
 |c::p,0,d,v,h=>by simp at h;subst h;rfl
 |c::p,j+1,d,v,h=>by
  have:=ziV p j d v (by simpa using h);rw[show (j+1)*3+2=j*3+2+1+1+1 by omega];show Qy c++zz (p.set j (d.1,v))=_;rw[this];rfl
theorem Grow.andG{w':World}(h:Grow zf e w w')(h':Grow zf e w' w2):Grow zf e w w2:=⟨h.below.trans h'.below,fun k hk hne=>by
 have h1:=h.typed k hk hne;exact(h'.typed k (Nat.lt_of_lt_of_le hk h.below.size) fun cs fr h=>hne cs fr (h1▸h)).trans h1⟩
theorem zeJ{size:Nat}{xs:List Value}(ho:Own w zf e size A n c xs)(h0:0<n):∃(g:Nat) (cur:Array Value),A=some ⟨g,0,none⟩/\zf<=g/\w.heap[g]? =some (.cells cur e (0,0))/\n<=c/\(∀(j:Nat)(u:Value),xs[j]? =some u->cur[j]? =some u)/\
  ∀(i:Nat)(u:Value),i<xs.length->Own (w.setCell ⟨g,i,none⟩ u) zf e size A n c (xs.set i u):=by
 rcases ho.2 with ⟨-,hn⟩|⟨g,cap,cur,hv,h1,h2,h3,h4,h5,h6⟩
 ·omega
 ·injection hv with z1 _ z3
  subst z3;have hm:=Nat.mul_le_mul_right size h3;refine⟨g,cur,z1,h1,h2,h3,fun j u hu=>?_,fun i u hi=>⟨by simp[ho.1],.inr ⟨g,c,cur.set! i u,by rw[z1],h1,?_,h3,h4,by simpa using h5,?_⟩⟩⟩
  ·rw[<-h6,List.getElem?_take]at hu;split at hu
   ·simpa using hu
   ·cases hu
  ·rw[Zt h2];simp
  ·rw[<-h6]at hi|-
   apply List.ext_getElem?;intro j;simp only[length_take]at hi;simp only[List.getElem?_take,Array.getElem?_toList,List.getElem?_set,Array.set!_eq_setIfInBounds,Array.getElem?_setIfInBounds,length_take];split<;>rename_i hj
   ·split<;>rename_i he
    ·subst he;simp;omega
    ·rfl
   ·split<;>rename_i he
    ·omega
    ·rfl
theorem Grow.setAt{g:Nat}{cur:Array Value}{fr:Nat×Nat}(hg:w.heap[g]? =some (.cells cur e fr))(hb:zf<=g)(i:Nat)(u:Value):Grow zf e w (w.setCell ⟨g,i,none⟩ u):=
 ⟨Below.setAt (p:=⟨g,i,none⟩) w hb u,fun k _ hne=>Below.heap_setCell w ⟨g,i,none⟩ u k fun h=>hne cur fr (by rw[h];exact hg)⟩
end
section
open La
theorem zqp(n k:Nat)(F:Nat->Nat->Int):(zu n fun i=>zu k fun j=>F i j)=zu k fun j=>zu n fun i=>F i j:=by
 induction n with
 |zero=>
  have:∀j,(zu 0 fun i=>F i j)=0:=fun j=>rfl
  simp only[this];exact(zdu fun _ _=>rfl).symm
 |succ n ih=>rw[qS,ih,<-zbm];exact ZY fun j _=>(qS n _).symm
theorem zqq(hs:∀i j,i<m.length->j<m.length->ent m i j=ent m j i)(x y:List Int):qB m x y=qB m y x:=by
 unfold qB;have h1:∀u v:List Int,(zu m.length fun i=>u.getD i 0*zu m.length fun j=>ent m i j*v.getD j 0)=zu m.length fun i=>zu m.length fun j=>u.getD i 0*(ent m i j*v.getD j 0):=fun u v=>ZY fun i _=>(zch _ _ _).symm
 rw[h1,h1,zqp];refine ZY fun i hi=>ZY fun j hj=>?_
 rw[hs i j hi hj];grind
theorem ziW(hn:AllLen m m.length)(hx:x.length=m.length)(hy:y.length=m.length):qB m x y=zD (zT m y) x:=by
 have h:=zb2 (fun i=>(zT m y).getD i 0) x 0 (zT m y) (by rw[zah,hx]) (fun i _=>by rw[Nat.zero_add]);rw[h,JW,hx];unfold qB;refine ZY fun i hi=>?_
 have e:(zT m y).getD i 0=zD (m.getD i []) y:=by simp[zT,hi]
 rw[Nat.zero_add,e,zgH hn hi y hy,JW,hy,Int.mul_comm];simp only[Nat.zero_add]
theorem zqr(hr:RedOK m)(hx:x.length=m.length)(hy:y.length=m.length):-(zh m x+zh m y)<=2*zD (zT m y) x/\2*zD (zT m y) x<=zh m x+zh m y:=by
 have zrV:=qg hr.small;have p1:=zhM zrV x y 1 hx hy;have p2:=zhM zrV x y (-1) hx hy;have q1:=zbb hr (jn x 1 y) (by rw[zeh,hx]);have q2:=zbb hr (jn x (-1) y) (by rw[zeh,hx]);have hc:zcl m x y=2*zD (zT m y) x:=by
  have h1:zcl m x y=qB m x y+qB m y x:=zbm _ _ _;rw[h1,zqq (fun i j hi hj=>((of_decide_eq_true hr.small).2.2.2 i hi j hj).1) y x,ziW zrV hx hy];omega
 omega
theorem zqs(hr:RedOK m)(hb:b<=4611686018427387904)(h:VecList m b false L)(hl:L.length<=100000):PrfL m L:=
 ⟨hl,h.zd,List.pairwise_map.2 h.norms,fun y hy=>⟨zbb hr y (h.zd y hy),Int.le_trans ((h.mem y).1 hy).2.2.1 hb⟩⟩
theorem zqt(hr:RedOK m)(hb:b<=4611686018427387904)(h:VecList m b false L)(hx:x.length=m.length)(hn:zh m x<=4611686018427387904):Jr m L x:=fun y hy=>by
 have h1:=zqr hr hx (h.zd y hy);have h2:=((h.mem y).1 hy).2.2.1;omega
end
section
open Go.RowKit
def zeK(w:World)(n:Nat)(za:Int)(e:Ending)(w':World):Prop:=∃a hh A c,e= .returned (.tuple #[.slice A n c,.int .i64 (za%(11-2*n))])/\Gm n a/\LLLed hh/\hh.length=n/\Rel n a hh/\Mat64 w' A hh/\n<=c/\c<=9223372036854775807/\Step w w'
theorem zqu{dim kind za:Int}{NA:Option Addr}{l:List Int}{nc:Nat}{v3:Value}{te:TypeId}(hN:Ints w NA te .i8 l)(h8:I8 l)(hl:l.length<=9223372036854775807)(hd0:0<=dim)(hd1:dim<256)(hk0:0<=kind)(hk1:kind<256)(hb0:0<=za)(hb1:za<256):
  Cq 13 #[.agg #[.int .u8 dim,.int .u8 kind,.slice NA l.length nc,v3],.int .u8 za] w (zeK w (1+(dim%4).toNat) za):=by
 have HG:Hid (∀W,Ext w W->Cq 28 #[.agg #[.int .u8 dim,.int .u8 kind,.slice NA l.length nc,v3],.int .i64 4] W (zic W (1+(dim%4).toNat))):=Zh (fun W e=>zo5 (most:=4) (hN.ext e) h8 hl hd0 hd1 hk0 hk1 (by omega) (by omega));have hn4:1+(dim%4).toNat<=4:=by omega
 clear hN h8;generalize 1+(dim%4).toNat=n at*
 have e1:IntKind.i64.wrap (2*(n:Int))=2*(n:Int):=Iw;have e2:IntKind.i64.wrap (11-2*(n:Int))=11-2*(n:Int):=Iw;have e3:((11-2*(n:Int))==0)=false:=by simp;omega
 have e4:za.tmod (11-2*(n:Int))=za%(11-2*(n:Int)):=Int.tmod_eq_emod_of_nonneg hb0;have e5:IntKind.i64.wrap za=za:=Iw;have e6:=Int.emod_nonneg za (show 11-2*(n:Int)≠0 by omega);have e7:=Int.emod_lt_of_pos za (show 0<11-2*(n:Int) by omega);have e8:IntKind.i64.wrap (za%(11-2*(n:Int)))=za%(11-2*(n:Int)):=Iw;go_enter Tryz.func13,Tryz.ntmps13;go_wp2_with (go_at_call 28;refine(HG.out _ Zi).mono ?_;rintro e w1 ⟨a,hh,A1,c1,rfl,hGm,hLL,zrT,hRel,hM3,hc1,hc2,hs3⟩)
 have HM:=Zh hM3;clear hM3;go_quiet (fail)
 go_wp2_with fail
 go_ret2
 exact⟨a,hh,A1,c1,rfl,hGm,hLL,zrT,hRel,HM.out.ext Zi,hc1,hc2,Step.of _ _⟩
end
section
open Go.RowKit
open La
theorem zqv(hr:RedOK m){b:Nat}(hb:(b:Int)<1073741824)(h:VecList m b false L):∀y∈L,y.length=m.length/\∀a∈y,-1099511627776<=a/\a<=1099511627776:=fun y hy=>by
 obtain⟨h1,-,h3,-⟩:=(h.mem y).1 hy;exact⟨h1,fun a ha=>zaf.1 (zgI (zdG hr (by omega) hb y h1 h3)) a ha⟩
def zqw(W:World)(m:List (List Int))(b:Nat)(e:Ending)(w':World):Prop:=∃A c vs L,e= .returned (.slice A (List.length L) c)/\Arr w' A 47 vs/\ItV w' vs (L.map fun y=>(zh m y,y))/\VecList m b false L/\L.length<=8000/\Step W w'
theorem zqx{b:Nat}(hM:Mat64 w0 A m)(hL:LLLed m)(hmn:m.length=n)(h4:n<=4)(hb:b+2*n<=12)[hx:Ext w0 w]:
  Cq 22 #[.slice A n c,.int .i64 b] w (zqw w m b):=by
 have hr:=hL.red;have hO:=qL hr;have zuI:=zcr hr (b:=b) (by omega) (.inl (by omega));have hlt:=zh7 hr (b:=b) (by omega);rw[hmn]at hlt;obtain⟨hvl,zuc⟩:=zhG hO (b:=b) (by omega);rw[hmn]at hvl zuc;have hil:=zer m (Zn m b (n-1) []);refine(zig (w:=w) (c:=c) (za:=b) hM.a hL hmn (by omega) (by omega) (by omega)).mono ?_;generalize Zp m (Zn m b (n-1) [])=its at*
 rintro e w' ⟨A1,c1,vs,he,hOw,hV,hs⟩;rw[zuc]at hV;exact⟨A1,c1,vs,its.map Prod.snd,by rw[length_map];exact he,hOw.arr,hV,hvl,by rw[length_map];omega,hs⟩
theorem zqy{w1:World}{Y:Option Addr}{d dy:Nat}(hM:MatA w0 A m)(hL:LLLed m)(hmn:m.length=n)(hX:Ints w1 X 2 .i64 x)(hxl:x.length=n)(hxb:∀a∈x,-1099511627776<=a/\a<=1099511627776)(hlb:∀y∈L,y.length=n/\∀a∈y,-1099511627776<=a/\a<=1099511627776)(hib:Jr m L x)(hy:y∈L)(hY:Ints w2 Y 2 .i64 y)[hx0:Ext w0 w][hx1:Ext w1 w][hx2:Ext w2 w]:
  Cq 23 #[.slice A n c,.slice X n d,.slice Y n dy] w (zy w (.tuple #[.int .i64 (zD (zT m y) x),.bool true])):=by
 have hr:=qL hL.red;obtain⟨hyl,hyb⟩:=hlb y hy;have hd:=ziW (qg hr.small) (x:=x) (y:=y) (by omega) (by omega);have hb:=hib y hy;have h:=zog (w:=w) (c:=c) (d:=d) (e':=dy) hM hL hX hY (by omega) (by omega) hxb hyb (by omega) (by omega);rw[hd,hmn]at h;exact h
end
section
open Go.RowKit
def Zq(m L:List (List Int))(k:Nat):List (Ks×Int):=qC ZE ((L.take k).map (ZT m L))
theorem ziX(h:L[k]? =some y):Zq m L (k+1)=Zb ZE (Zq m L k) (ZT m L y):=by
 unfold Zq;rw[List.take_add_one,h,map_append];simp only[Option.toList_some,map_cons,map_nil];exact zim _ _
theorem zqz(m L:List (List Int))(k:Nat):∀c∈Zq m L k,0<=c.2/\c.2<=L.length:=fun c hc=>by
 have h1:=((j1 j2 ((L.take k).map (ZT m L))).mem c).1 hc;have h2:=@List.count_le_length _ instBEqOfDecidableEq c.1 ((L.take k).map (ZT m L));rw[length_map,length_take]at h2;omega
theorem ziY{κ:Type}[DecidableEq κ]{lt:κ->κ->Prop}[DecidableRel lt]:∀(p:List (κ×Int))(k:κ),(Zb lt p k).length<=p.length+1
 |[],_=>by simp[Zb]
 |c::p,k=>by
  unfold Zb;split
  ·have:=ziY (lt:=lt) p k;simp only[List.length_cons];omega
  ·split<;>simp
theorem ziZ(m L:List (List Int)):∀k,(Zq m L k).length<=k
 |0=>by simp[Zq,qC]
 |k+1=>by
  have ih:=ziZ m L k
  cases h:L[k]? with
  |none=>
   have e:Zq m L (k+1)=Zq m L k:=by unfold Zq;rw[List.take_add_one,h];simp
   rw[e];omega
  |some y=>
   rw[ziX h];have:=ziY (lt:=ZE) (Zq m L k) (ZT m L y);omega
def J2(w:World)(m:List (List Int))(P:List (List Int)->Prop)(e:Ending)(w':World):Prop:=∃A c C L,e= .returned (.tuple #[.slice A (List.length C) c,.int .i64 0])/\P L/\Arr w' A 64 (zJ C)/\(∀x∈C,x.ok w')/\C.map CE.key=qC ZE (L.map (ZT m L))/\C.length<=L.length/\Step w w'
end
end Go.Proofs.YtcmkopogafchiaaGreat
