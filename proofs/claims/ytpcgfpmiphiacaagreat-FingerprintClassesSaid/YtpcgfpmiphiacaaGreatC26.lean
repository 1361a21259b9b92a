import Derived.Test.YtpcgfpmiphiacaaGreatC25
set_option maxHeartbeats 8000000
set_option linter.unusedVariables false
set_option linter.unusedSimpArgs false
namespace Go.Proofs.YtpcgfpmiphiacaaGreat
open List (length_map getElem_take map_append getElem?_map mem_map mem_iff_getElem length_take map_cons map_nil mem_append length_append mem_singleton)
variable {b u:Int} {L m:List (List Int)} {x y:List Int} {a c k n zf:Nat} {A X:Option Addr} {e:TypeId} {W w w0 w2:World}
section
open Go.RowKit
def zP(m L:List (List Int))(y:List Int):Ks:=(zg m y,zx m L y)
def ziV(w:World)(m:List (List Int))(P:List (List Int)->Prop)(e:Ending)(w':World):Prop:=
 ∃A c L C,e= .returned (.tuple #[.slice A (List.length C) c,.int .i64 0])/\P L/\Own w' w.heap.size 66 3 A C.length c (zK C)/\(∀x∈C,x.ok w')/\CountOK Zu (L.map (zP m L)) (C.map CE.key)/\Step w w'
theorem ziW{na:Int}{els:List ME}(hk:k<=L.length)(hak:a<=k)(hn:∀(j:Nat)(x:Int),a<=j->j<k->(L.map (zg m))[j]? =some x->x=na)
  (hp:(els.map fun x=>zx m L (L.getD x.i.toNat [])).Perm ((List.range (k-a)).map fun j=>zx m L (L.getD (a+j) []))):
  ((L.take a).map (zP m L)++els.map fun x=>(na,zx m L (L.getD x.i.toNat []))).Perm ((L.take k).map (zP m L)):=by
 have h1:=hp.map fun p=>(na,p)
 rw[List.map_map,List.map_map]at h1;have hsp:L.take k=L.take a++(L.take k).drop a:=by
  have h:=List.take_append_drop a (L.take k);rw[List.take_take,Nat.min_eq_left hak]at h;exact h.symm
 have h2:(List.range (k-a)).map ((fun p=>(na,p))∘fun j=>zx m L (L.getD (a+j) []))=((L.take k).drop a).map (zP m L):=by
  apply List.ext_getElem
  ·simp;omega
  ·intro i h1 h2;simp only[length_map,List.length_range]at h1;simp only[List.getElem_map,List.getElem_range,Function.comp,List.getElem_drop,getElem_take];have hi:a+i<L.length:=by omega
   have hg:L.getD (a+i) []=L[a+i]:=by simp[hi]
   rw[hg];unfold zP;rw[hn (a+i) (zg m L[a+i]) (by omega) (by omega) (by simp[hi])]
 rw[hsp,map_append,<-h2];exact(List.Perm.append_left _ h1)
set_option maxRecDepth 20000 in
theorem zqp{P:List (List Int)->Prop}(hM:MatA w0 A m)(hml:m.length<=1000)(zr9:∀r∈m,r.length<=m.length)
  (zsW:∀W,Ext w0 W->Cq 34 #[.slice A m.length c,.int .i64 b,.int .i64 u] W (zaF W P))
  (hP:∀L,P L->PrfL m L/\(∀x∈L,j7 m L x)) [hx:Ext w0 w]:
  Cq 26 #[.slice A m.length c,.int .i64 b,.int .i64 u] w (ziV w m P):=by
 have hPN:∀L,P L->L.length<=100000/\(∀y∈L,y.length=m.length)/\∀y∈L,-9223372036854775808<=zg m y/\zg m y<=9223372036854775807:=fun L hL=>by
  obtain⟨⟨h1,h2,-,h4⟩,-⟩:=hP L hL;exact⟨h1,h2,fun y hy=>by have:=h4 y hy;omega⟩
 have HNS:Hid (∀W,Ext w0 W->Cq 17 #[.slice A m.length c,.int .i64 b,.int .i64 u] W (Ju W m P)):=Zh (fun W e=>zeI (w:=W) hM hml zr9 zsW hPN);have HPR:Hid (∀(W0 W:World)(LA NA DA XA:Option Addr)(lc nc dc xc mb q:Nat)(L:List (List Int))(x:List Int),P L->x∈L->L.length=q->IntsA W0 XA x->SysV W0 m L LA NA DA->q<=dc->dc<=9223372036854775807->Ext W0 W->W0.heap.size<=mb->MapC W mb 0 []->Cq 37 #[.agg #[.slice LA q lc,.slice NA q nc,.slice DA q dc],.slice XA m.length xc,.map (some mb)] W (jQ W mb (zx m L x))):=Zh (fun W0 W LA NA DA XA lc nc dc xc mb q L x hL hxL hq hX hS h1 h2 e1 hmb hMC=>by
  obtain⟨hp,hi⟩:=hP L hL;subst hq;exact zeJ (w0:=W0) (w:=W) hS rfl hp.len h1 h2 rfl hml hp.srt hX (hp.zd x hxL) hp.nb (hi x hxL) hmb hMC)
 have HME:Hid (∀(W0 W:World)(LA NA DA:Option Addr)(lc nc dc mb q a k:Nat)(n:Int)(L:List (List Int)),P L->L.length=q->SysV W0 m L LA NA DA->q<=dc->dc<=9223372036854775807->Ext W0 W->W0.heap.size<=mb->MapC W mb 0 []->a<k->k<=q->(∀(j:Nat)(x:Int),a<=j->j<k->(L.map (zg m))[j]? =some x->x=n)->Cq 19 #[.agg #[.slice LA q lc,.slice NA q nc,.slice DA q dc],.int .i64 a,.int .i64 k,.map (some mb)] W (zaI W mb m L a k)):=Zh (fun W0 W LA NA DA lc nc dc mb q a k n L hL hq hS h1 h2 e1 hmb hMC hak hkq hsh=>by
  obtain⟨hp,hi⟩:=hP L hL;subst hq;exact ziR (w0:=W0) (w:=W) hS rfl hp.len h1 h2 rfl hml hp.srt hp.zd hp.nb hi hmb hMC hak hkq)
 have HPL:Hid (∀L,P L->PrfL m L):=Zh (fun L hL=>(hP L hL).1);clear hPN zsW hP hM zr9;unfold Ju at HNS;unfold jQ at HPR;unfold zaI at HME;unfold ziV;obtain⟨n,hn⟩:=Yz m.length;rw[hn]at HNS HPR hml|-
 have HN:=Zh hn;clear hn;have hmk:=@run_makeMap Tryz.prog;go_enter Tryz.func26,Tryz.ntmps26;go_wp2_with (go_at_call 17;refine(HNS.out _ Zi).mono ?_;rintro e w1 ⟨LA,NA,DA,lc,nc,dc,L,rfl,hS,hPL,-,-,-,-,hd1,hd2,hs1⟩;have HSY:=Zh hS;have HP:=Zh hPL;clear hS hPL)
 obtain⟨q,hq⟩:=Yz L.length;rw[hq]at hd1;obtain⟨wB,hwB⟩:=Xz (w1.alloc (.cells #[.slice LA q lc,.slice NA q nc,.slice DA q dc] 45));obtain⟨wM,hwM⟩:=Xz (wB.alloc (.map #[] 0));have hxB:Ext w1 wB:=by rw[hwB];infer_instance
 have hxM:Ext wB wM:=by rw[hwM];infer_instance
 have hsB:wB.heap.size=w1.heap.size+1:=by rw[hwB];simp
 have hsM:wM.heap.size=w1.heap.size+2:=by rw[hwM];simp[hsB]
 have hbx:wB.heap[w1.heap.size]? =some (.cells #[.slice LA q lc,.slice NA q nc,.slice DA q dc] 45 (0,0)):=by rw[hwB];exact heap_alloc_new w1 _
 have HBX:=Zh (zj hxM hbx);have hm0:MapC wM wB.heap.size 0 []:=by rw[hwM];exact MapC.made wB
 rw[hsB]at hm0;rw[hq];rw[<-hwB,<-hwM];obtain⟨mb,hmb⟩:=Xz (w1.heap.size+1);rw[<-hmb]at hm0;have HM0:=Zh hm0;have hx1M:Ext w1 wM:=hxB.trans hxM;have HQ:=Zh hq;have HSZ:=Zh (And.intro hsM hmb);obtain⟨hqb,zyH⟩:q<=100000/\Hid (∀y∈L,0<=zg m y/\zg m y<=4611686018427387904):=⟨by rw[<-hq];exact(HPL.out L HP.out).len,Zh (HPL.out L HP.out).nb⟩;try rw[<-hmb]
 clear hwB hwM hsB hsM hbx hm0 hq hmb HNS hmk;go_loopw [10,12,13,14,16,17] (fun cl s _ _ _ _ wr=>∃(a:Nat) (C:List CE) (A':Option Addr) (c' k:Nat),a<=q/\s= .int .i64 a/\Hid (Bdry (L.map (zg m)) a)/\cl= .slice A' k c'/\k<=a/\Hid (C.length=k)/\Hid (Own wr wM.heap.size 66 3 A' k c' (zK C))/\Hid (∀x∈C,x.ok wr)/\Hid (CountOK Zu ((L.take a).map (zP m L)) (C.map CE.key))/\Hid (MapC wr mb 0 [])/\Hid (Fm mb wM wr)) (fun _ s _ _ _ _ _=>q-(intOf s).toNat)
 case atStart=>exact⟨0,[],none,0,0,by omega,rfl,Zh (Bdry.zero _),rfl,by omega,Zh rfl,Zh (Own.nil _ _ _ _),Zh (fun x hx=>by simp at hx),Zh CountOK.nil,HM0,Zh (Fm.refl _ _)⟩
 case round=>
  obtain⟨a,C,A',c',k0,ha,rfl,HB,rfl,hka,HCL,HO,HK,HCT,HM,HF⟩:=hrel;have zto:w1.heap.size<=mb:=by have:=HSZ.out;omega
  have zu3:Ext w1 wr:=Fm.ext0 hx1M zto HF.out;obtain⟨⟨c1,c2,c3⟩,-,c4⟩:=qF (HF.out.cells HM0.out HBX.out);have oB:Old w1.heap.size wr:=⟨c4⟩;by_cases hlt:a<q
  ·obtain⟨y0,hy0⟩:∃y,L[a]? =some y:=⟨_,Ze (by rw[HQ.out];exact hlt)⟩;obtain⟨na,hna⟩:∃v,zg m y0=v:=⟨_,rfl⟩;have zsK:(L.map (zg m))[a]? =some na:=by rw[getElem?_map,hy0,<-hna];rfl
   have hnl:(L.map (zg m)).length=q:=by rw[length_map];exact HQ.out
   have HSH:=Zh (fun W(e:Ext w1 W)=>zeH (w:=W) (nc:=nc) (SL:= .slice LA q lc) (SD:= .slice DA q dc) HSY.out.norms zsK hnl (by omega));obtain⟨bl,ol,B0,cb0,rfl,-,-,-,-,d5⟩:=HSY.out.list.a.at_ (i:=a) (r:=y0) hy0;obtain⟨bn,on,na',rfl,zt0,n5,n6⟩:=HSY.out.norms.at_ (i:=a) (by omega);rw[zsK]at zt0;obtain rfl:na=na':=by injection zt0
   have zq7:=Zh zsK;have HNL:=Zh hnl;have HNA:=Zh (And.intro hy0 hna);have oL:Old bl w1:=⟨d5⟩;have oN:Old bn w1:=⟨n6⟩;unfold zbB at HSH;clear hy0 hna zsK hnl;go_upto_region 10 with (go_at_call 18;refine(HSH.out _ Zi).mono ?_;rintro e w2 ⟨k,rfl,hk1,hk2,hk3,hk4,hs2⟩;rw[HNL.out]at hk2;have HK3:=Zh hk3;have HK4:=Zh hk4;clear hk3 hk4)
   have zsu:Ext wr w2:=Zi;have HF2:Hid (Fm mb wM w2):=Zh (HF.out.trans (Fm.of_ext zsu));have HM2:Hid (MapC w2 mb 0 []):=Zh (HM.out.ext zsu);have HO2:Hid (Own w2 wM.heap.size 66 3 A' k0 c' (zK C)):=Zh (HO.out.ext zsu);have HK2:Hid (∀x∈C,x.ok w2):=Zh (fun x hx=>(HK.out x hx).kp (Kp.of_ext zsu));have HMC:=Zh (HME.out w1 w2 (some ⟨bl,ol,none⟩) (some ⟨bn,on,none⟩) DA lc nc dc mb q a k na L HP.out HQ.out HSY.out hd1 hd2 (zu3.trans zsu) zto HM2.out hk1 hk2 HK3.out)
   clear HO HM HF HK HSH;go_wp2_with (go_at_call 19;refine HMC.out.mono ?_;rintro e w3 ⟨g,c3',els,rfl,hg3,hR3,hE3,hM3,hF3,hMO3⟩)
   obtain⟨el,hel⟩:=Yz els.length;rw[hel];have HMU:=Zh (ziU hMO3 hE3 (by rw[HQ.out];omega));have HEL:=Zh hel;have zt1:el=k-a:=by
    have h1:=HMU.out.1.length_eq;simp only[length_map,List.length_range]at h1;omega
   have HR3:=Zh hR3;have HE3:=Zh hE3;have HM3:=Zh hM3;have HF3:Hid (Fm mb wM w3):=Zh (HF2.out.trans hF3);have HO3:Hid (Own w3 wM.heap.size 66 3 A' k0 c' (zK C)):=Zh (hF3.own HM2.out HO2.out);have HKC:Hid (∀x∈C,x.ok w3):=Zh (fun x hx=>(HK2.out x hx).kp (Kp.of_fm hF3 HM2.out));have HLO:Hid (∀s∈(L.take a).map (zP m L),s.1<na):=Zh (fun s hs=>by
    obtain⟨y,hy,rfl⟩:=mem_map.1 hs;obtain⟨i,hi,he⟩:=mem_iff_getElem.1 hy;simp only[length_take]at hi;rw[getElem_take]at he;refine HB.out i a (zg m y) na (by omega) Zr ?_ zq7.out;rw[getElem?_map,Ze (by omega),he];rfl)
   clear hel hR3 hE3 hM3 hF3 hMO3 HMC HO2 HK2 HME c1 c2 c3 c4 oB;go_loopw [10,16,17,45] (fun cl _ _ ix wz=>∃(r:Nat) (C':List CE) (A2:Option Addr) (c2' k':Nat),r<=el/\ix= .int .i64 r/\cl= .slice A2 k' c2'/\Hid (C'.length=k')/\k'<=k0+r/\Hid (Own wz wM.heap.size 66 3 A2 k' c2' (zK C'))/\Hid (∀x∈C',x.ok wz)/\Hid (CountOK Zu ((L.take a).map (zP m L)++(els.take r).map fun x=>(na,zx m L (L.getD x.i.toNat []))) (C'.map CE.key))/\Hid (MapC wz mb 0 [])/\Hid (Fm mb wM wz)/\Hid (Kp w3 wz)/\(r=0->k'=k0)/\Hid (0<r->∃C0 x,C'=C0++[x]/\x.n=na/\k0<k')) (fun _ _ _ ix _=>el-(intOf ix).toNat)
   case atStart=>exact⟨0,C,A',c',k0,by omega,rfl,rfl,HCL,by omega,HO3,HKC,Zh (by simpa using HCT.out),HM3,HF3,Zh (Kp.refl _),fun _=>rfl,Zh (fun h=>by omega)⟩
   case round=>
    obtain⟨r,C',A2,c2',k',hr,rfl,rfl,HCL',hk',HO',HK',HCT',HM',HF',HKP,hr0,HR1⟩:=hrel;by_cases hrl:r<el
    ·obtain⟨x,hxr⟩:∃x,els[r]? =some x:=⟨_,Ze (by rw[HEL.out];exact hrl)⟩;have hxm:=Zm hxr;obtain⟨⟨j,hj1,hj2,hxi⟩,zs6⟩:=HMU.out.2.1 x hxm;obtain⟨y,hy⟩:∃y,L[j]? =some y:=⟨_,Ze (by rw[HQ.out];omega)⟩;have hyL:=Zm hy;have hgd:L.getD x.i.toNat []=y:=by rw[hxi];simp[List.getD_eq_getElem?_getD,hy]
     obtain⟨pr,hpr⟩:=Xz (zx m L y);rw[hgd,<-hpr]at zs6;have zxw:pr.length<=100000:=by
      have:=zaG m L y;rw[hpr];rw[HQ.out]at this;omega
     have zs9:(els.take (r+1)).map (fun x=>((na,zx m L (L.getD x.i.toNat [])):Ks))=(els.take r).map (fun x=>(na,zx m L (L.getD x.i.toNat [])))++[(na,pr)]:=by
      rw[List.take_add_one,hxr,map_append];simp only[Option.toList,map_cons,map_nil,hgd,<-hpr]
     have zt2:∀s∈(L.take a).map (zP m L)++(els.take r).map (fun x=>((na,zx m L (L.getD x.i.toNat [])):Ks)),¬Zu (na,pr) s:=fun s hs hlt=>by
      rcases mem_append.1 hs with hs|hs
      ·have h1:=HLO.out s hs;rcases hlt with h|⟨h,-⟩
       ·simp only at h;omega
       ·simp only at h;omega
      ·obtain⟨z,hz,rfl⟩:=mem_map.1 hs;obtain⟨i,hi,he⟩:=mem_iff_getElem.1 hz;simp only[length_take]at hi;rw[getElem_take]at he;have h2:=(List.pairwise_iff_getElem.1 HMU.out.2.2) i r (by omega) (by rw[HEL.out];exact hrl) (by omega);have h3:els[r]'(by rw[HEL.out];exact hrl)=x:=(Zg.1 hxr).2;rw[h3,he,hgd,<-hpr]at h2;rcases hlt with h|⟨-,h⟩
       ·simp only at h;omega
       ·exact h2 h
     have zt3:x.ok wr:=(HE3.out x hxm).kp HKP.out;obtain⟨cur,hcg,zsB⟩:=HR3.out.kp HKP.out;obtain⟨f0,f1⟩:=zsB r x hxr;have e0:wr.cell? ⟨g,r*2,none⟩=some (.int .i64 x.i):=by rw[Nat.mul_comm];simpa[World.cell?,hcg] using f0
     have e1:wr.cell? ⟨g,r*2+1,none⟩=some (.slice x.A x.p.length x.c):=by rw[Nat.mul_comm];simpa[World.cell?,hcg] using f1
     have hgl:=zF hcg;have oG:Old g wr:=⟨hgl⟩;have zu4:Ext w1 wr:=Fm.ext0 hx1M zto HF'.out;obtain⟨⟨c1,c2,c3⟩,-,c4⟩:=qF (HF'.out.cells HM0.out HBX.out);have oB:Old w1.heap.size wr:=⟨c4⟩;obtain⟨xi,xA,xc,xp⟩:=x;simp only at hxi zs6 e0 e1;subst hxi;have hnx:=Zh zs9;have zrY:=Zh zt2;have HXR:=Zh hxr;have zrq:=Zh hpr;have HY:=Zh (And.intro hy hyL);have HXO:=Zh zt3;clear zs9 zt2 hxr hpr hy hyL hgd zsB hcg f0 f1 zt3 hxm
     have HNZ:Hid (r=0->∀C0 d,C'.map CE.key=C0++[d]->d.1≠(na,pr)):=Zh (fun hrz C0 d he hd=>by
      have hdm:d∈C'.map CE.key:=by rw[he];simp
      have h2:=(HCT'.out.mem d).1 hdm;have h3:d.1∈(L.take a).map (zP m L)++(els.take r).map fun x=>(na,zx m L (L.getD x.i.toNat [])):=(@List.count_pos_iff _ instBEqOfDecidableEq Zi _ _).1 (by have:=h2.1;rw[h2.2]at this;exact Int.natCast_pos.1 this)
      rw[hrz,List.take_zero,map_nil,List.append_nil]at h3;have h4:=HLO.out _ h3;rw[hd]at h4;simp only at h4;omega)
     have hrb:r<100000:=by omega
     obtain⟨hb,zsJ⟩:∃hb:Bool,(r=0/\k'=k0/\hb=false)∨(k0<k'/\∃(C0:List CE) (z:CE),C'=C0++[z]/\z.n=na/\hb=decide (z.p=xp)):=by
      rcases Nat.eq_zero_or_pos r with h0|h0
      ·exact⟨false,.inl ⟨h0,hr0 h0,rfl⟩⟩
      ·obtain⟨C0,z,h1,h2,h3⟩:=HR1.out h0;exact⟨_,.inr ⟨h3,C0,z,h1,h2,rfl⟩⟩
     have zq0:=Zh zsJ;have zre:Hid ((xA=none/\xp.length=0/\xc=0/\k'=k0)∨(xA≠none/\xp=pr)):=Zh (by
      rcases zs6 with ⟨h1,h2,h3,h4⟩|h
      ·rw[HEL.out]at h4;exact .inl ⟨h1,by rw[h3];rfl,h2,hr0 (by omega)⟩
      ·exact .inr h)
     obtain⟨pl,hpl⟩:=Yz pr.length;obtain⟨xl,hxl⟩:=Yz xp.length;have zyI:xl<=100000:=by
      rcases zs6 with ⟨-,-,h3,-⟩|⟨-,h⟩
      ·rw[h3]at hxl;simp at hxl;omega
      ·rw[h]at hxl;omega
     have HPE:=Zh hpl;have HXE:=Zh hxl;rw[hpl]at zxw;rw[hxl]at e1;have hwk:IntKind.i64.wrap ((k':Int)-1)=(k':Int)-1:=Iw;obtain⟨wm,hwm⟩:=Xz (wr.alloc (.cells #[.int .i64 j,.slice xA xl xc] 52));have hxm:Ext wr wm:=by rw[hwm];infer_instance
     have hbm:wm.heap[wr.heap.size]? =some (.cells #[.int .i64 j,.slice xA xl xc] 52 (0,0)):=by rw[hwm];exact heap_alloc_new wr _
     have HBM:=Zh hbm;have hsm:wm.heap.size=wr.heap.size+1:=by rw[hwm];simp
     have HWM:=Zh hwm;have HSM:=Zh hsm;obtain⟨d0,d1,d2,d3,d4⟩:=Jz hbm;have oM:Old wr.heap.size wm:=⟨d4⟩;have HKA:=Zh zt1;have hji:(j:Int)<(q:Int):=by omega
     clear zsJ zt1 hr0 HR1 hwm hbm hsm zs6 hpl hxl hj1 hj2;go_upto_region 14 with fail
     rw[<-HWM.out];go_cut [65] (fun c W=>c= .bool hb/\Ext wm W)
     case first=>
      rcases zq0.out with ⟨-,hk,hbf⟩|⟨hk,C0,z,hC,-,hbd⟩
      ·subst hk;have zxx:decide ((k':Int)-1≥(k':Int))=false:=by simp;omega
       have zxy:decide ((k':Int)<=(k':Int)-1)=false:=by simp;omega
       have HBF:=Zh hbf;clear hbf;go_quiet (fail)
       go_wp2_with fail
       go_meet
       exact⟨by rw[HBF.out],Zi⟩
      ·obtain⟨g2,cur2,hA2,-,hh2,-,zt4,-⟩:=zeO (HO'.out.ext hxm) (by omega);subst hA2;obtain⟨kl,hkl⟩:∃kl,k'=kl+1:=⟨k'-1,by omega⟩;have hc0:C0.length=kl:=by have:=HCL'.out;rw[hC]at this;simp at this;omega
       obtain⟨-,f1,-⟩:=zaK C' kl z (by rw[hC,List.getElem?_append_right (by omega),hc0,Nat.sub_self];rfl);have e5:wm.cell? ⟨g2,kl*3+1,none⟩=some (.slice z.A z.p.length z.c):=by simpa[World.cell?,hh2] using zt4 _ _ f1
       have oG2:Old g2 wm:=⟨zF hh2⟩;have hkt:((k':Int)-1).toNat=kl:=by omega
       have zxz:(0:Int)<=(k':Int)-1:=by omega
       have zxA:(k':Int)-1<(k':Int):=by omega
       have zxx:decide ((k':Int)-1≥(k0:Int))=true:=by simp;omega
       have zxy:decide ((k0:Int)<=(k':Int)-1)=true:=by simp;omega
       have zu5:z.ok wm:=((HK'.out z (by rw[hC];simp)).kp (Kp.of_ext hxm));have zu6:=HXO.out;have hcz:(Zw z.p xp==0)=hb:=by
        rw[hbd,Bool.eq_iff_iff];simp[zeB]
       have HCP:=Zh (fun W(e:Ext wm W)=>zeG (w:=W) (c:=z.c) (d:=xc) (zu5.ct.ext e) (zu6.ct.ext (hxm.trans e)) zu5.2 zu6.2);simp only at HCP;rw[HXE.out]at HCP;generalize Zw z.p xp=cv at hcz HCP;generalize z.p.length=zl at e5 HCP;clear hkl hC hc0 hbd zu5 zu6 hh2 zt4 f1 hk;go_region_with (go_at_call 20;refine(HCP.out _ Zi).mono ?_;rintro e w5 ⟨rfl,hG⟩;have hx5:=hG.ext)
       all_goals
        go_wp2_with fail
        go_meet
        exact⟨rfl,Ext.trans Zi hx5⟩
     case rest=>
     obtain⟨rfl,hxW⟩:=hcut;obtain⟨W0,hW0⟩:=Xz wc;rw[<-hW0]at hxW|-
     clear hW0;have hxrW:Ext wr W0:=hxm.trans hxW;have d1W:W0.cell? ⟨wr.heap.size,1,none⟩=some (.slice xA xl xc):=(zi wm).trans d1;have d0W:W0.cell? ⟨wr.heap.size,0,none⟩=some (.int .i64 j):=(zi wm).trans d0;have oMW:Old wr.heap.size W0:=⟨Nat.lt_of_lt_of_le d4 hxW.size⟩
     cases hb with
     |true=>
      obtain⟨hk,C0,z,hC,hzn,hzp⟩:k0<k'/\∃(C0:List CE) (z:CE),C'=C0++[z]/\z.n=na/\z.p=pr:=by
       rcases zq0.out with ⟨-,-,h⟩|⟨hk,C0,z,hC,hzn,hbd⟩
       ·cases h
       ·rcases zre.out with ⟨-,-,-,h⟩|⟨-,h⟩
        ·omega
        ·exact⟨hk,C0,z,hC,hzn,(of_decide_eq_true hbd.symm).trans h⟩
      obtain⟨g2,cur2,hA2,hg2,hh2,-,zt4,zsZ⟩:=zeO (HO'.out.ext hxrW) (by omega);subst hA2;obtain⟨kl,hkl⟩:∃kl,k'=kl+1:=⟨k'-1,by omega⟩;have hc0:C0.length=kl:=by have:=HCL'.out;rw[hC]at this;simp at this;omega
      obtain⟨-,-,f2⟩:=zaK C' kl z (by rw[hC,List.getElem?_append_right (by omega),hc0,Nat.sub_self];rfl);have e5:W0.cell? ⟨g2,kl*3+2,none⟩=some (.int .i64 z.N):=by simpa[World.cell?,hh2] using zt4 _ _ f2
      have e6:W0.frozen? ⟨g2,kl*3+2,none⟩=false:=by simp[World.frozen?,hh2]
      have hkt:((k':Int)-1).toNat=kl:=by omega
      have zxz:(0:Int)<=(k':Int)-1:=by omega
      have zxA:(k':Int)-1<(k':Int):=by omega
      have hct:=HCT'.out;rw[hC,map_append]at hct;have hN:0<z.N/\z.N<=200000:=by
       have h1:=(hct.mem z.key).1 (by simp);have h2:=@List.count_le_length _ instBEqOfDecidableEq z.key.1 ((L.take a).map (zP m L)++(els.take r).map fun x=>((na,zx m L (L.getD x.i.toNat [])):Ks));simp only[length_append,length_map,length_take]at h2;have h3:=h1.2;have h4:z.key.2=z.N:=rfl;have h5:=HKA.out;omega
      have hwN:IntKind.i64.wrap (z.N+1)=z.N+1:=Iw;have HO9:Hid (Own (W0.setCell ⟨g2,kl*3+2,none⟩ (.int .i64 (z.N+1))) wM.heap.size 66 3 (some ⟨g2,0,none⟩) k' c2' (zK (C0++[{z with N:=z.N+1}]))):=Zh (by
       have h:=zsZ (kl*3+2) (.int .i64 (z.N+1)) (by rw[zaJ,HCL'.out];omega);rw[zql,hc0,<-hC];exact h)
      have hKp:Kp wr (W0.setCell ⟨g2,kl*3+2,none⟩ (.int .i64 (z.N+1))):=(Kp.of_ext hxrW).trans (Kp.of_set hh2 rfl _);have HK9:Hid (∀x∈C0++[{z with N:=z.N+1}],x.ok (W0.setCell ⟨g2,kl*3+2,none⟩ (.int .i64 (z.N+1)))):=Zh (fun x hx=>by
       rcases mem_append.1 hx with hx|hx
       ·exact(HK'.out x (by rw[hC];simp[hx])).kp hKp
       ·rw[mem_singleton.1 hx];exact CE.ok.kp (x:=z) (HK'.out z (by rw[hC];simp)) hKp)
      have HC9:Hid (CountOK Zu ((L.take a).map (zP m L)++(els.take (r+1)).map fun x=>(na,zx m L (L.getD x.i.toNat []))) ((C0++[{z with N:=z.N+1}]).map CE.key)):=Zh (by
       rw[hnx.out,<-List.append_assoc,map_append];have hkz:CE.key z=((na,pr),z.N):=by rw[<-hzn,<-hzp];rfl
       simp only[map_cons,map_nil,hkz]at hct;have h:=hct.hit QL;rw[<-hzn,<-hzp]at h|-
       exact h)
      have zxB:mb≠g2:=by have:=HSZ.out;omega
      have HM9:Hid (MapC (W0.setCell ⟨g2,kl*3+2,none⟩ (.int .i64 (z.N+1))) mb 0 []):=Zh ((HM'.out.ext hxrW).at_block (Below.heap_setCell W0 _ _ mb zxB));have HF9:Hid (Fm mb wM (W0.setCell ⟨g2,kl*3+2,none⟩ (.int .i64 (z.N+1)))):=Zh ((HF'.out.trans (Fm.of_ext hxrW)).new (Below.setAt W0 hg2 _));have HP9:=Zh (HKP.out.trans hKp);have HL9:Hid ((C0++[{z with N:=z.N+1}]).length=k'):=Zh (by simp[hc0,hkl])
      have HZN:=Zh hzn;have oG2:Old g2 W0:=⟨zF hh2⟩;clear hKp zsZ hct hC hc0 hzn hzp zt4 hh2 f2 hkl zq0 HNZ;go_wp2_with fail
      exact⟨⟨r+1,C0++[{z with N:=z.N+1}],some ⟨g2,0,none⟩,c2',k',by omega,by go_num,rfl,HL9,by omega,HO9,HK9,HC9,HM9,HF9,HP9,fun h=>by omega,Zh (fun _=>⟨C0,_,rfl,HZN.out,hk⟩)⟩,by simp[intOf];omega⟩
     |false=>
      have HNF:Hid (∀C1 d,C'.map CE.key=C1++[d]->d.1≠(na,pr)):=Zh (by
       rcases zq0.out with ⟨h1,-,-⟩|⟨hk,C0,z,hC,-,hbd⟩
       ·exact HNZ.out h1
       ·intro C1 d he hd;rcases zre.out with ⟨-,-,-,h⟩|⟨-,h⟩
        ·omega
        ·rw[hC,map_append]at he;obtain⟨-,he⟩:=List.append_inj' he rfl;injection he with he
         rw[<-he]at hd;refine of_decide_eq_false hbd.symm ?_;rw[h];exact congrArg Prod.snd hd)
      have zyJ:k0<=k':=by rcases zq0.out with ⟨-,h,-⟩|⟨h,-⟩<;>omega
      clear zq0 HNZ;go_upto_region 16 with fail
      obtain⟨nb,hnb⟩:∃nb:Bool,nb=xA.isNone:=⟨_,rfl⟩;have HNB:=Zh hnb;clear hnb;go_cut [76] (fun c W=>c= .bool nb/\W=W0)
      case first=>
       have hq0:=zcZ (P:=Tryz.prog) Tryz.underlying50;go_wp2_with fail
       go_meet
       exact⟨by rw[HNB.out],rfl⟩
      case rest=>
      obtain⟨rfl,hW⟩:=hcut;rw[hW];clear hW;go_upto_if 76 with fail
      go_cut [] (fun W=>∃A5 c5,Hid (W.heap[wr.heap.size]? =some (.cells #[.int .i64 j,.slice A5 pl c5] 52 (0,0)))/\Hid (Arr W A5 71 (zz pr))/\Hid (MapC W mb 0 [])/\Hid (Fm mb wr W))
      case first=>
       cases nb with
       |false=>
        rcases zre.out with ⟨h,-⟩|⟨-,h⟩
        ·rw[h]at HNB;exact absurd HNB.out (by simp)
        ·have hpe:=HXE.out;rw[h,HPE.out]at hpe;subst hpe;have har:=HXO.out.1;simp only at har;rw[h]at har;have zq3:Hid (∃A5 c5,Hid (W0.heap[wr.heap.size]? =some (.cells #[.int .i64 j,.slice A5 pl c5] 52 (0,0)))/\Hid (Arr W0 A5 71 (zz pr))/\Hid (MapC W0 mb 0 [])/\Hid (Fm mb wr W0)):=Zh ⟨xA,xc,Zh (zj hxW HBM.out),Zh (har.ext hxrW),Zh (HM'.out.ext hxrW),Zh (Fm.of_ext hxrW)⟩;clear har h;go_wp2_with fail
         go_meet
         exact zq3.out
       |true=>
        rcases zre.out with ⟨-,h2,-,-⟩|⟨h,-⟩
        ·rw[HXE.out]at h2;obtain⟨bl',ol',B,cb,hA,g0,hB,g2,g3,g4⟩:=HSY.out.list.a.at_ HY.out.1;injection hA with hA
         injection hA with z1 z2
         subst z1 z2;rw[(HPL.out L HP.out).zd y HY.out.2,HN.out]at g0 g2;have hx1W:Ext w1 W0:=zu4.trans hxrW;have g0':W0.cell? ⟨bl,ol+j,none⟩=some (.slice B n cb):=(zi w1).trans g0;have oLW:Old bl W0:=⟨Nat.lt_of_lt_of_le g4 hx1W.size⟩;have hFm0:Fm mb wM W0:=HF'.out.trans (Fm.of_ext hxrW);obtain⟨⟨h1',h2',h3'⟩,-,h4'⟩:=qF (hFm0.cells HM0.out HBX.out);have oBW:Old w1.heap.size W0:=⟨h4'⟩;have HMW:Hid (MapC W0 mb 0 []):=Zh (HM'.out.ext hxrW)
         have HBW:Hid (W0.heap[wr.heap.size]? =some (.cells #[.int .i64 j,.slice xA xl xc] 52 (0,0))):=Zh (zj hxW HBM.out);have zrr:Hid (∀W,Ext w1 W->MapC W mb 0 []->Cq 37 #[.agg #[.slice (some ⟨bl,ol,none⟩) q lc,.slice (some ⟨bn,on,none⟩) q nc,.slice DA q dc],.slice B n cb,.map (some mb)] W (jQ W mb pr)):=Zh (fun W e hMC=>by
          rw[zrq.out];exact HPR.out w1 W (some ⟨bl,ol,none⟩) (some ⟨bn,on,none⟩) DA B lc nc dc cb mb q L y HP.out HY.out.2 HQ.out hB HSY.out hd1 hd2 e zto hMC)
         unfold jQ at zrr;rw[HPE.out]at zrr;have HXW:=Zh hxrW;clear hB g0 HPR h2 hFm0 hxrW zu4 c1 c2 c3 c4 oB e0 e1 hxm HSM;go_wp2_with fail
         go_region_law (first
          |(go_simp;go_at_call 37;refine(zrr.out _ Zi (HMW.out.ext Zi)).mono ?_;rintro e w5 ⟨A5,c5,rfl,hO5,hM5,hF5⟩;have hb5:=hF5.cells (HMW.out.ext Zi) (zj (Zi:Ext W0 _) HBW.out);have HB5:=Zh hb5;obtain⟨d0,d1,d2,d3,d4⟩:=Jz hb5;have oX:Old wr.heap.size w5:=⟨d4⟩;have HO5:=Zh hO5;have HM5:=Zh hM5;have HF5:=Zh hF5;have hs5:=hF5.size;clear hO5 hM5 hF5 hb5))
         all_goals
          have hr5:Fm mb wr w5:=(Fm.of_ext (HXW.out.trans Zi)).trans HF5.out;have hrW:Fm mb wr (w5.setCell ⟨wr.heap.size,1,none⟩ (.slice A5 pl c5)):=hr5.new (Below.setAt (n:=wr.heap.size) (p:=⟨wr.heap.size,1,none⟩) w5 Zr _);have hbW:=Zo (i:=1) HB5.out (.slice A5 pl c5);have hmW:MapC (w5.setCell ⟨wr.heap.size,1,none⟩ (.slice A5 pl c5)) mb 0 []:=HM5.out.at_block (Below.heap_setCell w5 _ _ mb (Nat.ne_of_lt HM'.out.lt))
          have haW:Arr (w5.setCell ⟨wr.heap.size,1,none⟩ (.slice A5 pl c5)) A5 71 (zz pr):=(HO5.out.far (p:=⟨wr.heap.size,1,none⟩) HB5.out (by decide) (.slice A5 pl c5)).arr;have zq3:=Zh (And.intro hbW (And.intro haW (And.intro hmW hrW)));clear hr5 hrW hbW hmW haW HB5 HO5 HM5 HF5;go_wp2_with fail
          go_meet
          exact⟨A5,c5,Zh zq3.out.1,Zh zq3.out.2.1,Zh zq3.out.2.2.1,Zh zq3.out.2.2.2⟩
        ·have hn:=HNB.out
         cases xA with
         |none=>exact absurd rfl h
         |some a=>cases hn
      case rest=>
      obtain⟨A5,c5,HB5,HA5,HM5,HF5⟩:=hcut;obtain⟨W,hW⟩:=Xz wc;rw[<-hW]at HB5 HA5 HM5 HF5|-
      clear hW d0W d1W oMW hxW hxrW e0 e1 oG hgl;obtain⟨d0',d1',-,-,d4'⟩:=Jz HB5.out;have hrW:=HF5.out;have HFW:Hid (Fm mb wM W):=Zh (HF'.out.trans hrW);have HOW:Hid (Own W wM.heap.size 66 3 A2 k' c2' (zK C')):=Zh (hrW.own HM'.out HO'.out);have HPW:Hid (Kp w3 W):=Zh (HKP.out.trans (Kp.of_fm hrW HM'.out));have HKW:Hid (∀x∈C',x.ok W):=Zh (fun x hx=>(HK'.out x hx).kp (Kp.of_fm hrW HM'.out));obtain⟨⟨h1',h2',h3'⟩,-,h4'⟩:=qF (HFW.out.cells HM0.out HBX.out)
      have oBW:Old w1.heap.size W:=⟨h4'⟩;have oXW:Old wr.heap.size W:=⟨d4'⟩;have hx1W:Ext w1 W:=Fm.ext0 hx1M zto HFW.out;have hsW:=HFW.out.size;have n5W:W.cell? ⟨bn,on+a,none⟩=some (.int .i64 na):=(zi w1).trans n5;have hkb:k'<=300000:=by have:=HKA.out;omega
      clear hrW c1 c2 c3 c4 oB HF' HM' HO' HK' HKP zu4;go_wp2_with fail
      go_region_law ((refine QB _ rfl (.tmp 87) (.tmp 96) 56 rfl wM.heap.size 66 (.agg #[.int .i64 0,.slice none 0 0,.int .i64 0]) 3 40 Tryz.underlying56 zbE rfl (by decide) (by decide) A2 k' c2' (zK C') (by simp[Act.eval]) (HOW.out.ext Zi) (some ⟨W.drew.heap.size,0,none⟩) 1 1 [.int .i64 na,.slice A5 pl c5,.int .i64 1] (by simp[Act.eval]) (Arr.new W.drew 66 #[.int .i64 na,.slice A5 pl c5,.int .i64 1]) rfl (by simp[Value.oneCell']) (by omega) (by simp;omega) ?_);intro A9 c9 w9 zuv hg9)
      all_goals
       have hxa:Ext W (W.drew.alloc (.cells #[.int .i64 na,.slice A5 pl c5,.int .i64 1] 66)):=(Zi:Ext W W.drew).trans Zi;have hK9:Kp W w9:=(Kp.of_ext hxa).trans (Kp.of_grow hg9);have hcf:zK (C'++[⟨na,A5,c5,pr,1⟩])=zK C'++[.int .i64 na,.slice A5 pl c5,.int .i64 1]:=by rw[zcF,<-HPE.out];rfl
       have hO9:Own w9 wM.heap.size 66 3 A9 (k'+1) c9 (zK (C'++[⟨na,A5,c5,pr,1⟩])):=by rw[hcf];exact zuv
       have hM9:MapC w9 mb 0 []:=(HM5.out.ext hxa).grow hg9;have hF9:Fm mb wM w9:=(HFW.out.trans (Fm.of_ext hxa)).new hg9.below;have zv9:∀x∈C'++[(⟨na,A5,c5,pr,1⟩:CE)],x.ok w9:=fun x hx=>by
        rcases mem_append.1 hx with hx|hx
        ·exact(HKW.out x hx).kp hK9
        ·rw[mem_singleton.1 hx];exact CE.ok.kp (w:=W) ⟨HA5.out,by simp only[HPE.out];omega⟩ hK9
       have zwa:CountOK Zu ((L.take a).map (zP m L)++(els.take (r+1)).map fun x=>(na,zx m L (L.getD x.i.toNat []))) ((C'++[(⟨na,A5,c5,pr,1⟩:CE)]).map CE.key):=by
        rw[hnx.out,<-List.append_assoc,map_append];exact HCT'.out.fresh QL zrY.out HNF.out
       have HO9:=Zh hO9;have HM9:=Zh hM9;have HF9:=Zh hF9;have HK9:=Zh zv9;have HC9:=Zh zwa;have HP9:=Zh (HPW.out.trans hK9);clear hxa hK9 hcf hO9 hM9 hF9 zv9 zwa zuv hg9;go_wp2_with fail
       exact⟨⟨r+1,C'++[⟨na,A5,c5,pr,1⟩],A9,c9,k'+1,by omega,by go_num,rfl,Zh (by rw[length_append,HCL'.out];rfl),by omega,HO9,HK9,HC9,HM9,HF9,HP9,fun h=>by omega,Zh (fun _=>⟨C',_,rfl,rfl,by omega⟩)⟩,by simp[intOf];omega⟩
    ·obtain rfl:r=el:=by omega
     go_wp2_with fail
     have hbd:Bdry (L.map (zg m)) k:=Bdry.end_ (HPL.out L HP.out).srt hk1 zq7.out (fun i y h1 h2 h3=>HK3.out i y h1 h2 h3) HK4.out;have hct:=HCT'.out;rw[List.take_of_length_le (l:=els) (by rw[HEL.out];exact Zr)]at hct;have zu7:CountOK Zu ((L.take k).map (zP m L)) (C'.map CE.key):=hct.perm (ziW (by rw[HQ.out];omega) (by omega) HK3.out HMU.out.1);exact⟨⟨k,C',A2,c2',k',hk2,rfl,Zh hbd,rfl,by omega,HCL',HO',HK',Zh zu7,HM',HF'⟩,by simp[intOf];omega⟩
  ·obtain rfl:a=q:=by omega
   clear hlt;have zr8:L.take a=L:=List.take_of_length_le (by rw[HQ.out];exact Zr);have zrb:=HCT.out;rw[zr8]at zrb;go_wp2_with fail
   go_ret2
   have hsz:=HSZ.out;have zua:=hs1.ext.size;have hxx:Ext w wr:=Fm.ext0 (hs1.ext.trans hx1M) (by omega) HF.out;refine⟨A',c',L,C,by rw[HCL.out];rfl,HP.out,?_,HK.out,zrb,hxx.toStep⟩;rw[HCL.out];exact HO.out.lower (by omega)
structure Kx(a b:Nat)(w w':World):Prop where
 os:w'.os=w.os
 tape:w'.tape=w.tape
 output:w'.output=w.output
 size:w.heap.size<=w'.heap.size
 block:∀k,k<w.heap.size->k≠a->k≠b->w'.heap[k]? =w.heap[k]?
section
variable {a b:Nat} {u w w' w0:World}
theorem Kx.refl(a b:Nat)(w:World):Kx a b w w:=⟨rfl,rfl,rfl,Zr,fun _ _ _ _=>rfl⟩
theorem Kx.trans(h:Kx a b u w)(h':Kx a b w w'):Kx a b u w':=⟨h'.os.trans h.os,h'.tape.trans h.tape,h'.output.trans h.output,Nat.le_trans h.size h'.size,fun k hk h1 h2=>(h'.block k (Nat.lt_of_lt_of_le hk h.size) h1 h2).trans (h.block k hk h1 h2)⟩
theorem Kx.of_ext(h:Ext w w'):Kx a b w w':=⟨h.below.os,h.below.tape,h.below.output,h.below.size,fun k hk _ _=>h.below.block k hk⟩
theorem Kx.set(w:World){p:Addr}(hp:p.block=a∨p.block=b)(u:Value):Kx a b w (w.setCell p u):=
 ⟨rfl,rfl,rfl,Nat.le_of_eq (qy w p u).symm,fun k _ h1 h2=>Below.heap_setCell w p u k (by rcases hp with h|h<;>omega)⟩
theorem Kx.ext(h:Kx a b w w')(hx:Ext w0 w)(ha:w0.heap.size<=a)(hb:w0.heap.size<=b):Ext w0 w':=
 ⟨⟨h.os.trans hx.below.os,h.tape.trans hx.below.tape,h.output.trans hx.below.output,Nat.le_trans hx.size h.size,fun k hk=>(h.block k (Nat.lt_of_lt_of_le hk hx.size) (by omega) (by omega)).trans (hx.below.block k hk)⟩⟩
theorem Kx.arr{T Ta Tb:TypeId}{vs:List Value}{ca cb:Array Value}{fa fb:Nat×Nat}(h:Arr w A T vs)(hk:Kx a b w w')(h1:w.heap[a]? =some (.cells ca Ta fa))(h2:w.heap[b]? =some (.cells cb Tb fb))(n1:T≠Ta)(n2:T≠Tb):Arr w' A T vs:=
 h.keep fun k cs fr hb=>hk.block k (zF hb) (fun e=>by
  rw[e,h1]at hb;injection hb with hb
  injection hb with _ hb
  exact n1 hb.symm) (fun e=>by
  rw[e,h2]at hb;injection hb with hb
  injection hb with _ hb
  exact n2 hb.symm)
end
def Hits(I:List Int)(K:List Ks)(j:Nat)(k:Ks):Prop:=∃i:Nat,I[j]? =some (i:Int)/\K[i]? =some k
theorem Hits.more{I:List Int}{K:List Ks}{j j':Nat}{k k':Ks}{v:Int}(h:Hits I K j k)(K':List Ks)(hne:j'≠j∨(k=k'/\∃i:Nat,v=(i:Int)/\(K++K')[i]? =some k'))(hj':j'<I.length):Hits (I.set j' v) (K++K') j k:=by
 obtain⟨i,h1,h2⟩:=h;by_cases e:j'=j
 ·rcases hne with hne|⟨rfl,i',rfl,hk⟩
  ·exact absurd e hne
  ·exact⟨i',by rw[<-e,List.getElem?_set_self hj'],hk⟩
 ·exact⟨i,by rw[List.getElem?_set_ne e];exact h1,by rw[List.getElem?_append_left (Zg.1 h2).1];exact h2⟩
def zbF(w:World)(m:List (List Int))(P:List (List Int)->Prop)(e:Ending)(w':World):Prop:=
 ∃g L I,e= .returned (.tuple #[.slice (some ⟨g,0,none⟩) (List.length L) L.length,.int .i64 0])/\P L/\Row w' g 3 .i64 I/\I.length=L.length/\(∀j y,L[j]? =some y->Hits I ((qv Zu (L.map (zP m L))).map Prod.fst) j (zP m L y))/\Step w w'
theorem MemOK.all{els:List ME}(h:MemOK m L a k els):∀j,a<=j->j<k->∃x∈els,x.i=(j:Int):=fun j h1 h2=>by
 rcases h with ⟨hk,rfl⟩|⟨-,hp,-⟩
 ·exact⟨_,mem_singleton.2 rfl,by show (a:Int)=j;omega⟩
 ·have hm:(((j:Nat):Int),zx m L (L.getD j []))∈els.map fun x=>(x.i,x.p):=by
   rw[hp.mem_iff,mem_map];exact⟨j-a,List.mem_range.2 (by omega),by rw[show a+(j-a)=j by omega]⟩
  obtain⟨x,hx,he⟩:=mem_map.1 hm;injection he with he
  exact⟨x,hx,he⟩
set_option maxRecDepth 20000 in
theorem zqq{P:List (List Int)->Prop}(hM:MatA w0 A m)(hml:m.length<=1000)(zr9:∀r∈m,r.length<=m.length)
  (zsW:∀W,Ext w0 W->Cq 34 #[.slice A m.length c,.int .i64 b,.int .i64 u] W (zaF W P))
  (hP:∀L,P L->PrfL m L/\(∀x∈L,j7 m L x)) [hx:Ext w0 w]:
  Cq 6 #[.slice A m.length c,.int .i64 b,.int .i64 u] w (zbF w m P):=by
 have hPN:∀L,P L->L.length<=100000/\(∀y∈L,y.length=m.length)/\∀y∈L,-9223372036854775808<=zg m y/\zg m y<=9223372036854775807:=fun L hL=>by
  obtain⟨⟨h1,h2,-,h4⟩,-⟩:=hP L hL;exact⟨h1,h2,fun y hy=>by have:=h4 y hy;omega⟩
 have HNS:Hid (∀W,Ext w0 W->Cq 17 #[.slice A m.length c,.int .i64 b,.int .i64 u] W (Ju W m P)):=Zh (fun W e=>zeI (w:=W) hM hml zr9 zsW hPN);have HME:Hid (∀(W0 W:World)(LA NA DA:Option Addr)(lc nc dc mb q a k:Nat)(n:Int)(L:List (List Int)),P L->L.length=q->SysV W0 m L LA NA DA->q<=dc->dc<=9223372036854775807->Ext W0 W->W0.heap.size<=mb->MapC W mb 0 []->a<k->k<=q->(∀(j:Nat)(x:Int),a<=j->j<k->(L.map (zg m))[j]? =some x->x=n)->Cq 19 #[.agg #[.slice LA q lc,.slice NA q nc,.slice DA q dc],.int .i64 a,.int .i64 k,.map (some mb)] W (zaI W mb m L a k)):=Zh (fun W0 W LA NA DA lc nc dc mb q a k n L hL hq hS h1 h2 e1 hmb hMC hak hkq hsh=>by
  obtain⟨hp,hi⟩:=hP L hL;subst hq;exact ziR (w0:=W0) (w:=W) hS rfl hp.len h1 h2 rfl hml hp.srt hp.zd hp.nb hi hmb hMC hak hkq)
 have HPL:Hid (∀L,P L->PrfL m L):=Zh (fun L hL=>(hP L hL).1);clear hPN zsW hP hM zr9;unfold Ju at HNS;unfold zaI at HME;unfold zbF;obtain⟨n,hn⟩:=Yz m.length;rw[hn]at HNS hml|-
 clear hn;have hmk:=@run_makeMap Tryz.prog;go_enter Tryz.func6,Tryz.ntmps6;go_upto_region 4 with (go_at_call 17;refine(HNS.out _ Zi).mono ?_;rintro e w1 ⟨LA,NA,DA,lc,nc,dc,L,rfl,hS,hPL,-,-,-,-,hd1,hd2,hs1⟩;have HSY:=Zh hS;have HP:=Zh hPL;clear hS hPL)
 obtain⟨q,hq⟩:=Yz L.length;rw[hq]at hd1;have hqb:q<=100000:=by rw[<-hq];exact(HPL.out L HP.out).len
 have hmi:=ja (P:=Tryz.prog) Tryz.underlying28 ju (by omega) (q:Int) (by omega) (by omega);obtain⟨wB,hwB⟩:=Xz (w1.alloc (.cells #[.slice LA q lc,.slice NA q nc,.slice DA q dc] 45));have hxB:Ext w1 wB:=by rw[hwB];infer_instance
 have hsB:wB.heap.size=w1.heap.size+1:=by rw[hwB];simp
 have hbx:wB.heap[w1.heap.size]? =some (.cells #[.slice LA q lc,.slice NA q nc,.slice DA q dc] 45 (0,0)):=by rw[hwB];exact heap_alloc_new w1 _
 have HBX:=Zh hbx;rw[hq,<-hwB];obtain⟨⟨c1,c2,c3⟩,-,c4⟩:=qF hbx;have oB:Old w1.heap.size wB:=⟨c4⟩;have HQ:=Zh hq;clear hwB hbx hq;go_wp2_with fail
 obtain⟨wI,hwI⟩:=Xz (wB.alloc (.cells (qS q .i64) 3));obtain⟨wM,hwM⟩:=Xz (wI.alloc (.map #[] 0));have hxI:Ext wB wI:=by rw[hwI];infer_instance
 have hxM:Ext wI wM:=by rw[hwM];infer_instance
 have hsI:wI.heap.size=w1.heap.size+2:=by rw[hwI];simp[hsB]
 have hsM:wM.heap.size=w1.heap.size+3:=by rw[hwM];simp[hsI]
 have hm0:MapC wM wI.heap.size 0 []:=by rw[hwM];exact MapC.made wI
 have hr0:Row wM wB.heap.size 3 .i64 (List.replicate q 0):=by rw[hwM,hwI];exact(Row.made wB q .i64 3).ext Zi
 rw[hsI]at hm0;rw[hsB]at hr0;rw[<-hwI,<-hwM];obtain⟨gi,hgi⟩:=Xz (w1.heap.size+1);obtain⟨mb,hmb⟩:=Xz (gi+1);rw[show w1.heap.size+2=mb by omega]at hm0;rw[<-hgi]at hr0;try rw[<-hgi,<-hmb]
 have HM0:=Zh hm0;have HR0:=Zh hr0;have HXX:Hid (Ext wB wM):=Zh (hxI.trans hxM);have HSZ:=Zh (And.intro hsB (And.intro hsM (And.intro hgi hmb)));have hx1B:=hxB;clear hwI hwM hsI hsM hsB hm0 hr0 hgi hmb HNS hmk hmi hxI hxM oB c1 c2 c3 c4 hxB;go_loopw [11,13,14,15,16,17] (fun cv s _ _ _ _ wr=>∃(a:Nat) (C:List (Ks×Int)) (I:List Int) (k:Nat),a<=q/\s= .int .i64 a/\cv= .int .i64 ((k:Int)-1)/\k<=a/\Hid (C.length=k)/\Hid (Bdry (L.map (zg m)) a)/\Hid (CountOK Zu ((L.take a).map (zP m L)) C)/\Hid (Row wr gi 3 .i64 I)/\Hid (I.length=q)/\Hid (∀(j:Nat)(y:List Int),j<a->L[j]? =some y->Hits I (C.map Prod.fst) j (zP m L y))/\Hid (MapC wr mb 0 [])/\Ext wB wr) (fun _ s _ _ _ _ _=>q-(intOf s).toNat)
 case atStart=>exact⟨0,[],List.replicate q 0,0,by omega,rfl,rfl,by omega,Zh rfl,Zh (Bdry.zero _),Zh CountOK.nil,HR0,Zh (by simp),Zh (fun j y h=>by omega),HM0,HXX.out⟩
 case round=>
  obtain⟨a,C,I,k0,ha,rfl,rfl,hka,HCL,HB,HCT,HR,HIL,HI,HM,hxr⟩:=hrel;have zu3:Ext w1 wr:=hx1B.trans hxr;have zto:w1.heap.size<=mb:=by have:=HSZ.out;omega
  obtain⟨⟨c1,c2,c3⟩,-,c4⟩:=qF (zj hxr HBX.out);have oB:Old w1.heap.size wr:=⟨c4⟩;by_cases hlt:a<q
  ·obtain⟨y0,hy0⟩:∃y,L[a]? =some y:=⟨_,Ze (by rw[HQ.out];exact hlt)⟩;obtain⟨na,hna⟩:∃v,zg m y0=v:=⟨_,rfl⟩;have zsK:(L.map (zg m))[a]? =some na:=by rw[getElem?_map,hy0,<-hna];rfl
   have hnl:(L.map (zg m)).length=q:=by rw[length_map];exact HQ.out
   have HSH:=Zh (fun W(e:Ext w1 W)=>zeH (w:=W) (nc:=nc) (SL:= .slice LA q lc) (SD:= .slice DA q dc) HSY.out.norms zsK hnl (by omega));have zq7:=Zh zsK;have HNL:=Zh hnl;unfold zbB at HSH;clear hy0 hna zsK hnl;go_upto_region 10 with (go_at_call 18;refine(HSH.out _ Zi).mono ?_;rintro e w2 ⟨k,rfl,hk1,hk2,hk3,hk4,hs2⟩;rw[HNL.out]at hk2;have HK3:=Zh hk3;have HK4:=Zh hk4;clear hk3 hk4)
   go_upto_region 11 with fail
   have zsu:Ext wr w2:=Zi;obtain⟨wL,hwL⟩:=Xz (w2.alloc (.cells #[.int .i64 0,.slice none 0 0] 52));have hxL:Ext w2 wL:=by rw[hwL];infer_instance
   obtain⟨lb,hlb⟩:=Xz w2.heap.size;have hbl:wL.heap[lb]? =some (.cells #[.int .i64 0,.slice none 0 0] 52 (0,0)):=by rw[hwL,hlb];exact heap_alloc_new w2 _
   try rw[<-hwL,<-hlb]
   have hxBL:Ext wB wL:=(hxr.trans zsu).trans hxL;have zry:Hid (wL.heap.size=lb+1/\wB.heap.size<=lb/\mb<lb):=Zh ⟨by rw[hwL,hlb];simp,by rw[hlb];exact(hxr.trans zsu).size,by rw[hlb];exact Nat.lt_of_lt_of_le HM.out.lt zsu.size⟩;have HML:Hid (MapC wL mb 0 []):=Zh (HM.out.ext (zsu.trans hxL));have HRL:Hid (Row wL gi 3 .i64 I):=Zh (HR.out.ext (zsu.trans hxL));have HBL:=Zh hbl;have HMC:=Zh (HME.out w1 wL LA NA DA lc nc dc mb q a k na L HP.out HQ.out HSY.out hd1 hd2 (hx1B.trans hxBL) zto HML.out hk1 hk2 HK3.out)
   have oBL:Old w1.heap.size wL:=⟨Nat.lt_of_lt_of_le c4 (zsu.trans hxL).size⟩;obtain⟨⟨c1',c2',c4'⟩,-,-⟩:=qF (zj hxBL HBX.out);clear HSH HM HR hwL hlb hbl hxL;go_upto_region 12 with (go_at_call 19;refine HMC.out.mono ?_;rintro e w3 ⟨g,c3',els,rfl,hg3,hR3,hE3,hM3,hF3,hMO3⟩)
   obtain⟨el,hel⟩:=Yz els.length;rw[hel];have HMU:=Zh (ziU hMO3 hE3 (by rw[HQ.out];omega));have zrp:=Zh hMO3.all;have HEL:=Zh hel;have zt1:el=k-a:=by
    have h1:=HMU.out.1.length_eq;simp only[length_map,List.length_range]at h1;omega
   have HR3:=Zh hR3;have HM3:=Zh hM3;have zwb:gi<mb/\mb<lb/\lb<g/\w1.heap.size<gi:=by have h1:=HSZ.out;have h2:=zry.out;omega
   have hxB3:Ext wB w3:=Fm.ext0 hxBL (by have:=HSZ.out;omega) hF3;have HRI:Hid (Row w3 gi 3 .i64 I):=Zh (hF3.cells HML.out HRL.out);have HB3:=Zh (hF3.cells HML.out HBL.out);have HOK:Hid (∀W,Kx gi lb w3 W->∀x∈els,x.ok W):=Zh (fun W hk x hx=>⟨Kx.arr (hE3 x hx).1 hk HRI.out HB3.out (by decide) (by decide),(hE3 x hx).2⟩);have HXB:Hid (∀W,Kx gi lb w3 W->Ext wB W):=Zh (fun W hk=>hk.ext hxB3 (by have:=HSZ.out;omega) zry.out.2.1)
   have HMB:Hid (∀W,Kx gi lb w3 W->MapC W mb 0 []):=Zh (fun W hk=>HM3.out.at_block (hk.block mb HM3.out.lt (by omega) (by omega)));have HRG:Hid (∀W,Kx gi lb w3 W->MRow W g els):=Zh (fun W hk=>by
    obtain⟨cur,h1,h2⟩:=hR3;exact⟨cur,(hk.block g (zF h1) (by omega) (by omega)).trans h1,h2⟩)
   have HLO:Hid (∀s∈(L.take a).map (zP m L),s.1<na):=Zh (fun s hs=>by
    obtain⟨y,hy,rfl⟩:=mem_map.1 hs;obtain⟨i,hi,he⟩:=mem_iff_getElem.1 hy;simp only[length_take]at hi;rw[getElem_take]at he;refine HB.out i a (zg m y) na (by omega) Zr ?_ zq7.out;rw[getElem?_map,Ze (by omega),he];rfl)
   have HGS:=Zh zwb;clear hel hR3 hE3 hM3 hF3 hMO3 HMC HME c1 c2 c3 c4 oB c1' c2' c4' oBL HML HRL HBL hxBL zwb;go_loopw [11,16,17,47] (fun cv _ _ ix wz=>∃(r:Nat) (C':List (Ks×Int)) (I':List Int) (k':Nat) (z:ME),r<=el/\ix= .int .i64 r/\cv= .int .i64 ((k':Int)-1)/\k'<=k0+r/\Hid (C'.length=k')/\Hid (CountOK Zu ((L.take a).map (zP m L)++(els.take r).map fun x=>(na,zx m L (L.getD x.i.toNat []))) C')/\Hid (Row wz gi 3 .i64 I')/\Hid (I'.length=q)/\Hid (∀(j:Nat)(y:List Int),j<a->L[j]? =some y->Hits I' (C'.map Prod.fst) j (zP m L y))/\Hid (∀x∈els.take r,Hits I' (C'.map Prod.fst) x.i.toNat (na,zx m L (L.getD x.i.toNat [])))/\Hid (wz.heap[lb]? =some (.cells #[.int .i64 z.i,.slice z.A z.p.length z.c] 52 (0,0)))/\Hid (z.ok wz)/\Hid (Kx gi lb w3 wz)/\Hid (0<r->els[r-1]? =some z/\∃C0 N,C'=C0++[((na,zx m L (L.getD z.i.toNat [])),N)])) (fun _ _ _ ix _=>el-(intOf ix).toNat)
   case atStart=>exact⟨0,C,I,k0,⟨0,none,0,[]⟩,by omega,rfl,rfl,by omega,HCL,Zh (by simpa using HCT.out),HRI,HIL,HI,Zh (fun x hx=>by simp at hx),HB3,Zh ⟨Arr.nil,by simp⟩,Zh (Kx.refl _ _ _),Zh (fun h=>by omega)⟩
   case round=>
    obtain⟨r,C',I',k',z,hr,rfl,rfl,hk',HCL',HCT',HR',HIL',HI',HJ',HLB,HZ,HKX,HLZ⟩:=hrel;by_cases hrl:r<el
    ·obtain⟨x,hxr⟩:∃x,els[r]? =some x:=⟨_,Ze (by rw[HEL.out];exact hrl)⟩;have hxm:=Zm hxr;obtain⟨⟨j,hj1,hj2,hxi⟩,zs6⟩:=HMU.out.2.1 x hxm;obtain⟨y,hy⟩:∃y,L[j]? =some y:=⟨_,Ze (by rw[HQ.out];omega)⟩;have hgd:L.getD x.i.toNat []=y:=by rw[hxi];simp[List.getD_eq_getElem?_getD,hy]
     obtain⟨pr,hpr⟩:=Xz (zx m L y);rw[hgd,<-hpr]at zs6;have zs9:(els.take (r+1)).map (fun x=>((na,zx m L (L.getD x.i.toNat [])):Ks))=(els.take r).map (fun x=>(na,zx m L (L.getD x.i.toNat [])))++[(na,pr)]:=by
      rw[List.take_add_one,hxr,map_append];simp only[Option.toList,map_cons,map_nil,hgd,<-hpr]
     have zt2:∀s∈(L.take a).map (zP m L)++(els.take r).map (fun x=>((na,zx m L (L.getD x.i.toNat [])):Ks)),¬Zu (na,pr) s:=fun s hs hlt=>by
      rcases mem_append.1 hs with hs|hs
      ·have h1:=HLO.out s hs;rcases hlt with h|⟨h,-⟩
       ·simp only at h;omega
       ·simp only at h;omega
      ·obtain⟨z,hz,rfl⟩:=mem_map.1 hs;obtain⟨i,hi,he⟩:=mem_iff_getElem.1 hz;simp only[length_take]at hi;rw[getElem_take]at he;have h2:=(List.pairwise_iff_getElem.1 HMU.out.2.2) i r (by omega) (by rw[HEL.out];exact hrl) (by omega);have h3:els[r]'(by rw[HEL.out];exact hrl)=x:=(Zg.1 hxr).2;rw[h3,he,hgd,<-hpr]at h2;rcases hlt with h|⟨-,h⟩
       ·simp only at h;omega
       ·exact h2 h
     obtain⟨hb,zsJ⟩:∃hb:Bool,(r=0/\hb=true)∨(0<r/\hb=!decide (z.p=x.p)):=by
      rcases Nat.eq_zero_or_pos r with h0|h0
      ·exact⟨true,.inl ⟨h0,rfl⟩⟩
      ·exact⟨_,.inr ⟨h0,rfl⟩⟩
     have zsC:0<r->x.p=pr/\z.p=zx m L (L.getD z.i.toNat []):=fun h0=>by
      have h1:=(HLZ.out h0).1;have h2:=(HMU.out.2.1 z (Zm h1)).2;have h3:=HEL.out;rcases zs6 with ⟨-,-,-,h⟩|⟨-,h⟩
      ·omega
      ·rcases h2 with ⟨-,-,-,h2⟩|⟨-,h2⟩
       ·omega
       ·exact⟨h,h2⟩
     obtain⟨k2,zu8,hN⟩:∃k2,((hb=true/\k2=k'+1)∨(hb=false/\k2=k'))/\∃(C2:List (Ks×Int)) (K2:List Ks),C2.length=k2/\0<k2/\C2.map Prod.fst=C'.map Prod.fst++K2/\(C2.map Prod.fst)[k2-1]? =some (na,pr)/\CountOK Zu ((L.take a).map (zP m L)++(els.take (r+1)).map fun x=>(na,zx m L (L.getD x.i.toNat []))) C2/\∃C0 N,C2=C0++[((na,pr),N)]:=by
      rw[zs9,<-List.append_assoc]
      cases hb with
      |true=>
       refine⟨k'+1,.inl ⟨rfl,rfl⟩,C'++[((na,pr),1)],[(na,pr)],by simp[HCL'.out],by omega,by simp,?_,HCT'.out.fresh QL zt2 ?_,C',1,rfl⟩
       ·rw[map_append,Nat.add_sub_cancel,List.getElem?_append_right (by simp[HCL'.out]),length_map,HCL'.out,Nat.sub_self];rfl
       ·intro C1 d he hd;rcases zsJ with ⟨h0,-⟩|⟨h0,hbd⟩
        ·have hdm:d∈C':=by rw[he];simp
         have h2:=(HCT'.out.mem d).1 hdm;have h3:d.1∈(L.take a).map (zP m L)++(els.take r).map fun x=>(na,zx m L (L.getD x.i.toNat [])):=(@List.count_pos_iff _ instBEqOfDecidableEq Zi _ _).1 (by have:=h2.1;rw[h2.2]at this;exact Int.natCast_pos.1 this)
         rw[h0,List.take_zero,map_nil,List.append_nil]at h3;have h4:=HLO.out _ h3;rw[hd]at h4;simp only at h4;omega
        ·obtain⟨-,C0,N,hC⟩:=HLZ.out h0;obtain⟨h1,h2⟩:=zsC h0;rw[hC]at he;obtain⟨-,he⟩:=List.append_inj' he rfl;injection he with he
         rw[<-he,<-h2]at hd;injection hd with _ hd
         rw[hd,h1]at hbd;simp at hbd
      |false=>
       rcases zsJ with ⟨-,h⟩|⟨h0,hbd⟩
       ·cases h
       ·obtain⟨-,C0,N,hC⟩:=HLZ.out h0;obtain⟨h1,h2⟩:=zsC h0;have h3:z.p=x.p:=by simpa using hbd
        rw[<-h2,h3,h1]at hC;have hct:=HCT'.out;rw[hC]at hct;have hl:=HCL'.out;rw[hC,length_append]at hl;simp only[List.length_cons,List.length_nil]at hl;refine⟨k',.inr ⟨rfl,rfl⟩,C0++[((na,pr),N+1)],[],by rw[length_append];exact hl,by omega,by rw[hC];simp,?_,hct.hit QL,C0,N+1,rfl⟩;rw[map_append,List.getElem?_append_right (by simp;omega),length_map,show k'-1-C0.length=0 by omega]
        rfl
     have zt3:x.ok wr:=HOK.out wr HKX.out x hxm;obtain⟨cur,hcg,zsB⟩:=HRG.out wr HKX.out;obtain⟨f0,f1⟩:=zsB r x hxr;have e0:wr.cell? ⟨g,r*2,none⟩=some (.int .i64 x.i):=by rw[Nat.mul_comm];simpa[World.cell?,hcg] using f0
     have e1:wr.cell? ⟨g,r*2+1,none⟩=some (.slice x.A x.p.length x.c):=by rw[Nat.mul_comm];simpa[World.cell?,hcg] using f1
     have oG:Old g wr:=⟨zF hcg⟩;have oGi:Old gi wr:=⟨HR'.out.lt⟩;have oLb:Old lb wr:=⟨zF HLB.out⟩;obtain⟨l0,l1,l2,l3,-⟩:=Jz HLB.out;have HXR:=Zh hxr;have HXM:=Zh hxm;have HGD:=Zh hgd;have zrq:=Zh hpr;have HNX:=Zh hN;have HXO:=Zh zt3;have zq0:=Zh zsJ;have HXI:=Zh hxi;have HKA:=Zh (And.intro zt1 hj1);obtain⟨xi,xA,xc,xp⟩:=x;simp only at hxi e0 e1 zq0;subst hxi;obtain⟨xl,hxl⟩:=Yz xp.length
     have HXE:=Zh hxl;rw[hxl]at e1;have hrb:r<100000:=by omega
     have hji:(j:Int)<(q:Int):=by omega
     have hwk:IntKind.i64.wrap ((k':Int)-1+1)=(k':Int):=by rw[Int.sub_add_cancel];exact Iw
     obtain⟨wm,hwm⟩:=Xz (wr.alloc (.cells #[.int .i64 j,.slice xA xl xc] 52));have zuw:Ext wr wm:=by rw[hwm];infer_instance
     have hbm:wm.heap[wr.heap.size]? =some (.cells #[.int .i64 j,.slice xA xl xc] 52 (0,0)):=by rw[hwm];exact heap_alloc_new wr _
     have HBM:=Zh hbm;have HWM:=Zh hwm;obtain⟨d0,d1,d2,d3,d4⟩:=Jz hbm;have oM:Old wr.heap.size wm:=⟨d4⟩;clear zsJ hwm hbm zs6 hxl hj1 hj2 zs9 zt2 hxr hpr hy hgd zsB hcg f0 f1 zt3 hxm hN zsC zt1;go_upto_region 14 with fail
     rw[<-HWM.out];go_cut [61] (fun c W=>c= .bool hb/\Ext wm W)
     case first=>
      rcases zq0.out with ⟨h0,hbd⟩|⟨h0,hbd⟩
      ·subst h0 hbd;go_wp2_with fail
       go_meet
       exact⟨rfl,Zi⟩
      ·have hr1:¬(r:Int)=0:=by omega
       have hrd:decide ((r:Int)=0)=false:=by simp;omega
       have hr2:((r:Int)==0)=false:=by simp;omega
       have l1m:wm.cell? ⟨lb,1,none⟩=some (.slice z.A z.p.length z.c):=(zi wr).trans l1;have oLm:Old lb wm:=⟨Nat.lt_of_lt_of_le oLb.lt zuw.size⟩;have hz:=HZ.out;have hxo:=HXO.out;have hcz:(Zw z.p xp==0)=!hb:=by
        rw[hbd,Bool.eq_iff_iff];simp[zeB]
       have HCP:=Zh (fun W(e:Ext wm W)=>zeG (w:=W) (c:=z.c) (d:=xc) (hz.ct.ext (zuw.trans e)) (hxo.ct.ext (zuw.trans e)) hz.2 hxo.2);simp only at HCP;rw[HXE.out]at HCP;generalize Zw z.p xp=cv at hcz HCP;generalize z.p.length=zl at l1m HCP;clear hbd hz hxo l0 l1 l2 l3;go_wp2_with (go_at_call 20;refine(HCP.out _ Zi).mono ?_;rintro e w5 ⟨rfl,hG⟩;have hx5:=hG.ext)
       all_goals
        go_meet
        exact⟨by show Value.bool (!(cv==0))=_;rw[hcz,Bool.not_not],Ext.trans Zi hx5⟩
     case rest=>
     obtain⟨rfl,hxW⟩:=hcut;obtain⟨W0,hW0⟩:=Xz wc;rw[<-hW0]at hxW|-
     clear hW0;go_upto_if 61 with fail
     go_cut [11] (fun cv W=>cv= .int .i64 ((k2:Int)-1)/\W=W0)
     case first=>
      rcases zu8 with ⟨h1,h2⟩|⟨h1,h2⟩
      ·have h2:=Zh h2;subst h1;go_wp2_with fail
       go_meet
       exact⟨by rw[h2.out];congr 1;omega,rfl⟩
      ·subst h1 h2;go_wp2_with fail
       go_meet
       exact⟨rfl,rfl⟩
     case rest=>
     obtain⟨rfl,hW⟩:=hcut;rw[hW];clear hW;have hxrW:Ext wr W0:=zuw.trans hxW;have d0W:W0.cell? ⟨wr.heap.size,0,none⟩=some (.int .i64 j):=(zi wm).trans d0;have oMW:Old wr.heap.size W0:=⟨Nat.lt_of_lt_of_le d4 hxW.size⟩;have zr6:Row W0 gi 3 .i64 I':=HR'.out.ext hxrW;obtain⟨vo,-,ej⟩:=zr6.cell (i:=j) (by rw[HIL'.out];omega);have ef:=zr6.frozen j;have oGW:Old gi W0:=⟨zr6.lt⟩;have zqY:=Zh (zr6.set j ((k2:Int)-1))
     have HBW:=Zh ((Below.heap_setCell W0 ⟨gi,j,none⟩ (.int .i64 ((k2:Int)-1)) wr.heap.size (Nat.ne_of_gt oGi.lt)).trans (zj hxW HBM.out));have HLW:=Zh ((Below.heap_setCell W0 ⟨gi,j,none⟩ (.int .i64 ((k2:Int)-1)) lb (by have:=HGS.out;show lb≠gi;omega)).trans (zj hxrW HLB.out));have hk1:Kx gi lb w3 (W0.setCell ⟨gi,j,none⟩ (.int .i64 ((k2:Int)-1))):=(HKX.out.trans (Kx.of_ext hxrW)).trans (Kx.set W0 (p:=⟨gi,j,none⟩) (.inl rfl) _)
     have HK1:=Zh hk1;have zrZ:=Zh zu8;clear zr6 HBM l0 l1 l2 l3 e0 e1 oG oM d0 d1 d2 d3 d4 oLb hwk zu8 hk1;go_upto_region 17 with fail
     obtain⟨W1,hW1⟩:∃W1,W1=W0.setCell ⟨gi,j,none⟩ (.int .i64 ((k2:Int)-1)):=⟨_,rfl⟩;rw[<-hW1]at zqY HBW HLW HK1;try rw[<-hW1]
     clear hW1 d0W oMW ej ef oGW oGi;obtain⟨d0,d1,-,-,d4⟩:=Jz HBW.out;obtain⟨l0,l1,l2,l3,l4⟩:=Jz HLW.out;have zu1:=Zo (i:=0) HLW.out (.int .i64 j);obtain⟨-,m1,-,m3,-⟩:=Jz (w:=W1.setCell ⟨lb,0,none⟩ (.int .i64 j)) (by simpa using zu1);have oMW:Old wr.heap.size W1:=⟨d4⟩;have oLW:Old lb W1:=⟨l4⟩;go_wp2_with fail
     obtain⟨C2,K2,g1,g2,g3,g4,g5,C0,N,g6⟩:=HNX.out;have hj1:=HKA.out.2;have hjI:j<I'.length:=by rw[HIL'.out];omega
     have hgj:zx m L (L.getD ((j:Int).toNat) [])=pr:=by
      have:=HGD.out;simp only at this;rw[this,zrq.out]
     have hK2:Kx gi lb w3 ((W1.setCell ⟨lb,0,none⟩ (.int .i64 j)).setCell ⟨lb,1,none⟩ (.slice xA xl xc)):=HK1.out.trans ((Kx.set W1 (p:=⟨lb,0,none⟩) (.inr rfl) _).trans (Kx.set _ (p:=⟨lb,1,none⟩) (.inr rfl) _));have hgl:gi≠lb:=by have:=HGS.out;omega
     have hH1:∀(i:Nat)(y:List Int),i<a->L[i]? =some y->Hits (I'.set j ((k2:Int)-1)) (C2.map Prod.fst) i (zP m L y):=fun i y h1 h2=>by
      rw[g3];exact(HI'.out i y h1 h2).more K2 (k':=(na,pr)) (.inl (by omega)) hjI
     have hv:(k2:Int)-1=((k2-1:Nat):Int):=by omega
     have hH2:∀x∈els.take (r+1),Hits (I'.set j ((k2:Int)-1)) (C2.map Prod.fst) x.i.toNat (na,zx m L (L.getD x.i.toNat [])):=fun x hx=>by
      rw[List.take_add_one,HXR.out]at hx;rcases mem_append.1 hx with hx|hx
      ·rw[g3];by_cases e:j=x.i.toNat
       ·refine(HJ'.out x hx).more K2 (k':=(na,pr)) (.inr ⟨?_,k2-1,hv,by rw[<-g3];exact g4⟩) hjI;rw[<-e];rw[Int.toNat_natCast]at hgj;rw[hgj]
       ·exact(HJ'.out x hx).more K2 (k':=(na,pr)) (.inl e) hjI
      ·have hx:=mem_singleton.1 (show x∈[_] from hx);rw[hx];simp only[hgj];rw[Int.toNat_natCast];exact⟨k2-1,by rw[List.getElem?_set_self hjI,hv],g4⟩
     have zxC:=Zo (i:=1) zu1 (.slice xA xl xc);refine⟨⟨r+1,C2,I'.set j ((k2:Int)-1),k2,⟨j,xA,xc,xp⟩,by omega,by go_num,rfl,by rcases zrZ.out with h|h<;>omega,Zh g1,Zh g5,Zh ((zqY.out.far (p:=⟨lb,0,none⟩) hgl _).far (p:=⟨lb,1,none⟩) hgl _),Zh (by rw[List.length_set];exact HIL'.out),Zh hH1,Zh hH2,Zh (by rw[zxC,<-HXE.out];rfl),Zh (HOK.out _ hK2 _ HXM.out),Zh hK2,Zh (fun _=>⟨HXR.out,C0,N,by rw[hgj];exact g6⟩)⟩,by simp[intOf];omega⟩
    ·obtain rfl:r=el:=by omega
     clear hrl;go_wp2_with fail
     have hbd:Bdry (L.map (zg m)) k:=Bdry.end_ (HPL.out L HP.out).srt hk1 zq7.out (fun i y h1 h2 h3=>HK3.out i y h1 h2 h3) HK4.out;have htk:els.take r=els:=List.take_of_length_le (by rw[HEL.out];exact Zr);have hct:=HCT'.out;have hJ:=HJ'.out;rw[htk]at hct hJ;have zu7:CountOK Zu ((L.take k).map (zP m L)) C':=hct.perm (ziW (by rw[HQ.out];omega) (by omega) HK3.out HMU.out.1);have hH:∀(i:Nat)(y:List Int),i<k->L[i]? =some y->Hits I' (C'.map Prod.fst) i (zP m L y):=fun i y h1 h2=>by
      by_cases h3:i<a
      ·exact HI'.out i y h3 h2
      ·obtain⟨x,hx,he⟩:=zrp.out i (by omega) h1;have h4:=hJ x hx;rw[he,Int.toNat_natCast]at h4;have h5:L.getD i []=y:=by simp[List.getD_eq_getElem?_getD,h2]
       have h6:=HK3.out i (zg m y) (by omega) h1 (by rw[getElem?_map,h2];rfl);rw[h5,<-h6]at h4;exact h4
     have hkk:k'<=k:=by omega
     exact⟨⟨k,C',I',k',hk2,rfl,rfl,hkk,HCL',Zh hbd,Zh zu7,HR',HIL',Zh hH,Zh (HMB.out _ HKX.out),HXB.out _ HKX.out⟩,by simp[intOf];omega⟩
  ·obtain rfl:a=q:=by omega
   clear hlt;have zr8:L.take a=L:=List.take_of_length_le (by rw[HQ.out];exact Zr);have zrb:=HCT.out;rw[zr8]at zrb;go_wp2_with fail
   go_ret2
   have hxx:Ext w wr:=hs1.ext.trans zu3;refine⟨gi,L,I,by rw[HQ.out];rfl,HP.out,HR.out,by rw[HIL.out,HQ.out],fun j y hy=>?_,hxx.toStep⟩;rw[<-zrb.unique QL (jP QL _)];exact HI.out j y (by have:=(Zg.1 hy).1;rw[HQ.out]at this;exact this) hy
def jr:List Ct:=[((2,1),2),((2,2),1)]
theorem zqr:∀y∈ji,zx m2 ji y=jr:=by decide
theorem zqs:qv Zu (ji.map (zP m2 ji))=[((2,jr),3)]:=by decide
theorem ziX:PrfL m2 ji:=⟨by decide,by decide,by decide,by decide⟩
theorem ziY:∀x∈ji,j7 m2 ji x:=by unfold j7;decide
theorem ziZ(hM:Mat64 W A m2):Cq 34 #[.slice A 2 2,.int .i64 2,.int .i64 100] W (zaF W fun L=>L=ji):=
 (zgs (w0:=W) (w:=W) (c:=2) (st:=[3,7]) hM.a (by decide) (by decide) zme zmd (by decide) (by decide) (by decide) (by decide) (by decide)).mono fun e w'⟨B,c,L,he,h1,h2,h3,hp,hw,hs⟩=>by
  obtain rfl:=zmg hp hw;exact⟨B,c,_,_,he,h1,h2,h3,rfl,hs⟩
theorem zqt(hM:Mat64 W A m2)(hX:Ints W X 2 .i64 [1,0]):
  Cq 25 #[.slice A 2 2,.int .i64 2,.int .i64 100,.slice X 2 2] W fun e w'=>∃B c,e= .returned (.tuple #[.slice B 2 c,.int .i64 0])/\Arr w' B 71 (zz jr)/\Step W w':=
 (zpY (w0:=W) (w:=W) (c:=2) (d:=2) (P:=fun L=>L=ji) hM.a (by decide) (by decide) zgu hX rfl (by decide) (by decide) (fun W' e=>ziZ (hM.ext e)) (fun L hL=>by
  rw[hL];exact⟨ziX,ziY [1,0] (by decide)⟩)).mono fun e w'⟨B,c,L,he,hL,hO,hs⟩=>by
  rw[hL,zqr [1,0] (by decide)]at he hO;exact⟨B,c,he,hO.arr,hs⟩
theorem zqu(hM:Mat64 W A m2):
  Cq 26 #[.slice A 2 2,.int .i64 2,.int .i64 100] W fun e w'=>∃g c D d,e= .returned (.tuple #[.slice (some ⟨g,0,none⟩) 1 c,.int .i64 0])/\w'.cell? ⟨g,0,none⟩=some (.int .i64 2)/\w'.cell? ⟨g,1,none⟩=some (.slice D 2 d)/\w'.cell? ⟨g,2,none⟩=some (.int .i64 3)/\g<w'.heap.size/\Arr w' D 71 (zz jr)/\Step W w':=
 (zqp (w0:=W) (w:=W) (c:=2) (P:=fun L=>L=ji) hM.a (by decide) (by decide) (fun W' e=>ziZ (hM.ext e)) (fun L hL=>by
  rw[hL];exact⟨ziX,ziY⟩)).mono fun e w'⟨A,c,L,C,he,hL,hO,hok,hct,hs⟩=>by
  rw[hL]at hct;have hk:=(hct.unique QL (jP QL _)).trans zqs;have zr7:C.length=1:=by have:=congrArg List.length hk;simpa using this
  match C,zr7 with
  |[x],_=>
   simp only[map_cons,map_nil,List.cons.injEq,and_true]at hk;have e1:x.n=2:=congrArg (fun z=>z.1.1) hk;have e2:x.p=jr:=congrArg (fun z=>z.1.2) hk;have e3:x.N=3:=congrArg (fun z=>z.2) hk;obtain⟨g,cur,rfl,-,hh,-,zsO,-⟩:=zeO hO (by simp);obtain⟨f0,f1,f2⟩:=zaK [x] 0 x rfl;rw[e1]at f0;rw[e2,show jr.length=2 from rfl]at f1;rw[e3]at f2;have har:=(hok x (by simp)).1;rw[e2]at har;exact⟨g,c,x.A,x.c,he,by simpa[World.cell?,hh] using zsO _ _ f0,by simpa[World.cell?,hh] using zsO _ _ f1,by simpa[World.cell?,hh] using zsO _ _ f2,zF hh,har,hs⟩
set_option maxRecDepth 20000 in
theorem zqv :Cq 9 #[] w (zy w (.bool true)):=by
 have HSP:Hid (∀W B c D d,Arr W B 71 (zz jr)->Arr W D 71 (zz jr)->Cq 24 #[.slice B 2 c,.slice D 2 d] W (zy W (.bool true))):=Zh (fun W B c D d h1 h2=>by
  have h:=ziC (w0:=W) (w:=W) (c:=c) (d:=d) (p:=jr) (q:=jr) ⟨_,h1⟩ ⟨_,h2⟩ (by decide) (by decide);rw[decide_eq_true rfl]at h;exact h)
 have HPF:=Zh (fun W A X(h1:Mat64 W A m2)(h2:Ints W X 2 .i64 [1,0])=>zqt h1 h2);have HSG:=Zh (fun W A(h1:Mat64 W A m2)=>zqu h1);have zr0:Hid (∀(W:World)(n:Nat)[Sz W n],Ints (W.alloc (.cells #[.int .i64 1,.int .i64 0] 2)) (some ⟨n,0,none⟩) 2 .i64 [1,0]):=Zh (fun W n h=>by rw[<-h.eq];exact Arr.new W 2 #[.int .i64 1,.int .i64 0]);have HLT:Hid (∀(W:World)(n:Nat)[Sz W n],Arr (W.alloc (.cells #[.int .i64 2,.int .i64 1,.int .i64 2,.int .i64 2,.int .i64 2,.int .i64 1] 71)) (some ⟨n,0,none⟩) 71 (zz jr)):=Zh (fun W n h=>by rw[<-h.eq];exact Arr.new W 71 #[.int .i64 2,.int .i64 1,.int .i64 2,.int .i64 2,.int .i64 2,.int .i64 1])
 have k1:True:=trivial;go_enter Tryz.func9,Tryz.ntmps9;go_wp2_with (first
  |(go_at_call 25;refine(HPF.out _ _ _ ((zgw w 2 1 1 2).ext Zi) (zr0.out _ _)).mono ?_;rintro e w1 ⟨B1,c1,rfl,hA1,hs1⟩)
  |(go_at_call 26;refine(HSG.out _ _ ((zgw w 2 1 1 2).ext Zi)).mono ?_;rintro e w2 ⟨g,c2,D,d,rfl,q0,q1,q2,q3,hA2,hs2⟩;have oG:Old g w2:=⟨q3⟩)
  |(go_at_call 24;have _t:=k1;clear _t k1;refine(HSP.out _ _ _ _ _ (hA1.ext Zi) (HLT.out _ _)).mono ?_;rintro e w3 ⟨rfl,hs3⟩)
  |(go_at_call 24;refine(HSP.out _ _ _ _ _ (hA2.ext Zi) (hA1.ext Zi)).mono ?_;rintro e w4 ⟨rfl,hs4⟩))
 go_ret;exact⟨rfl,Step.of _ _⟩
section
variable {κ:Type} [DecidableEq κ] {lt:κ->κ->Prop} [DecidableRel lt]
theorem zeP:∀(p:List (κ×Int))(k:κ)(j:Nat),(∀i d,i<j->p[i]? =some d->lt d.1 k)->
  (p.length=j->Zk lt p k=p++[(k,1)])/\∀d,p[j]? =some d->¬lt d.1 k->(d.1=k->Zk lt p k=p.set j (d.1,d.2+1))/\(d.1≠k->Zk lt p k=p.take j++(k,1)::p.drop j)
 |[],k,j,_=>⟨fun _=>rfl,fun d hd=>by simp at hd⟩
 |c::p,k,0,h=>⟨fun h=>by simp at h,fun d hd hn=>by
  simp at hd;subst hd;unfold Zk;rw[if_neg hn];refine⟨fun e=>?_,fun e=>?_⟩
  ·rw[if_pos e,<-e];rfl
  ·rw[if_neg e];rfl⟩
 |c::p,k,j+1,h=>by
  obtain⟨h1,h2⟩:=zeP p k j fun i d hi hd=>h (i+1) d (by omega) (by simpa using hd)
  have hc:lt c.1 k:=h 0 c (by omega) rfl;unfold Zk;rw[if_pos hc];refine⟨fun e=>by rw[h1 (by simpa using e)];rfl,fun d hd hn=>?_⟩;obtain⟨h3,h4⟩:=h2 d (by simpa using hd) hn;exact⟨fun e=>by rw[h3 e];rfl,fun e=>by rw[h4 e];rfl⟩
end
theorem zi0:∀(p:List Ct)(j:Nat)(d:Ct)(v:Int),p[j]? =some d->zz (p.set j (d.1,v))=(zz p).set (j*3+2) (.int .i64 v)
 |[],j,d,v,h=>by simp at h
 |c::p,0,d,v,h=>by simp at h;subst h;rfl
 |c::p,j+1,d,v,h=>by
  have:=zi0 p j d v (by simpa using h);rw[show (j+1)*3+2=j*3+2+1+1+1 by omega];show Qz c++zz (p.set j (d.1,v))=_;rw[this];rfl
theorem Grow.andG{w':World}(h:Grow zf e w w')(h':Grow zf e w' w2):Grow zf e w w2:=⟨h.below.trans h'.below,fun k hk hne=>by
 have h1:=h.typed k hk hne;exact(h'.typed k (Nat.lt_of_lt_of_le hk h.below.size) fun cs fr h=>hne cs fr (h1▸h)).trans h1⟩
theorem zeQ{size:Nat}{xs:List Value}(ho:Own w zf e size A n c xs)(h0:0<n):∃(g:Nat) (cur:Array Value),A=some ⟨g,0,none⟩/\zf<=g/\w.heap[g]? =some (.cells cur e (0,0))/\n<=c/\(∀(j:Nat)(u:Value),xs[j]? =some u->cur[j]? =some u)/\
  ∀(i:Nat)(u:Value),i<xs.length->Own (w.setCell ⟨g,i,none⟩ u) zf e size A n c (xs.set i u):=by
 rcases ho.2 with ⟨-,hn⟩|⟨g,cap,cur,hv,h1,h2,h3,h4,h5,h6⟩
 ·omega
 ·injection hv with z1 _ z3
  subst z3;have hm:=Nat.mul_le_mul_right size h3;refine⟨g,cur,z1,h1,h2,h3,fun j u hu=>?_,fun i u hi=>⟨by simp[ho.1],.inr ⟨g,c,cur.set! i u,by rw[z1],h1,?_,h3,h4,by simpa using h5,?_⟩⟩⟩
  ·rw[<-h6,List.getElem?_take]at hu;split at hu
   ·simpa using hu
   ·cases hu
  ·rw[Zo h2];simp
  ·rw[<-h6]at hi|-
   apply List.ext_getElem?;intro j;simp only[length_take]at hi;simp only[List.getElem?_take,Array.getElem?_toList,List.getElem?_set,Array.set!_eq_setIfInBounds,Array.getElem?_setIfInBounds,length_take];split<;>rename_i hj
   ·split<;>rename_i he
    ·subst he;simp;omega
    ·rfl
   ·split<;>rename_i he
    ·omega
    ·rfl
theorem Grow.setAt{g:Nat}{cur:Array Value}{fr:Nat×Nat}(hg:w.heap[g]? =some (.cells cur e fr))(hb:zf<=g)(i:Nat)(u:Value):Grow zf e w (w.setCell ⟨g,i,none⟩ u):=
 ⟨Below.setAt (p:=⟨g,i,none⟩) w hb u,fun k _ hne=>Below.heap_setCell w ⟨g,i,none⟩ u k fun h=>hne cur fr (by rw[h];exact hg)⟩
end
section
open La
theorem zqw(n k:Nat)(F:Nat->Nat->Int):(zt n fun i=>zt k fun j=>F i j)=zt k fun j=>zt n fun i=>F i j:=by
 induction n with
 |zero=>
  exact(zdz fun _ _=>rfl).symm
 |succ n ih=>rw[qV,ih,<-zbr];exact qi fun j _=>(qV n _).symm
theorem zqx(hs:∀i j,i<m.length->j<m.length->ent m i j=ent m j i)(x y:List Int):qP m x y=qP m y x:=by
 unfold qP;have h1:∀u v:List Int,(zt m.length fun i=>u.getD i 0*zt m.length fun j=>ent m i j*v.getD j 0)=zt m.length fun i=>zt m.length fun j=>u.getD i 0*(ent m i j*v.getD j 0):=fun u v=>qi fun i _=>(zcp _ _ _).symm
 rw[h1,h1,zqw];refine qi fun i hi=>qi fun j hj=>?_
 grind
theorem zi1(hn:AllLen m m.length)(hx:x.length=m.length)(hy:y.length=m.length):qP m x y=zG (zU m y) x:=by
 have h:=zca (fun i=>(zU m y).getD i 0) x 0 (zU m y) (by rw[zah,hx]) (fun i _=>by grind);rw[h,JZ,hx];refine qi fun i hi=>?_
 have e:(zU m y).getD i 0=zG (m.getD i []) y:=by simp[zU,hi]
 rw[Nat.zero_add,e,zgP hn hi y hy,JZ,hy,Int.mul_comm];grind
theorem zqy(hr:RedOK m)(hx:x.length=m.length)(hy:y.length=m.length):-(zg m x+zg m y)<=2*zG (zU m y) x/\2*zG (zU m y) x<=zg m x+zg m y:=by
 have zr9:=qh hr.small;have p1:=zhU zr9 x y 1 hx hy;have p2:=zhU zr9 x y (-1) hx hy;have q1:=zbg hr (jp x 1 y) (by rw[zem,hx]);have q2:=zbg hr (jp x (-1) y) (by rw[zem,hx]);have hc:zct m x y=2*zG (zU m y) x:=by
  have h1:zct m x y=qP m x y+qP m y x:=zbr _ _ _;rw[h1,zqx (fun i j hi hj=>((of_decide_eq_true hr.small).2.2.2 i hi j hj).1) y x,zi1 zr9 hx hy];omega
 omega
theorem zqz(hr:RedOK m)(hb:b<=4611686018427387904)(h:VecList m b false L)(hl:L.length<=100000):PrfL m L:=
 ⟨hl,h.zd,List.pairwise_map.2 h.norms,fun y hy=>⟨zbg hr y (h.zd y hy),Int.le_trans ((h.mem y).1 hy).2.2.1 hb⟩⟩
theorem zqA(hr:RedOK m)(hb:b<=4611686018427387904)(h:VecList m b false L)(hx:x.length=m.length)(hn:zg m x<=4611686018427387904):j7 m L x:=fun y hy=>by
 have h1:=zqy hr hx (h.zd y hy);have h2:=((h.mem y).1 hy).2.2.1;omega
end
section
open Go.RowKit
def zeR(w:World)(n:Nat)(za:Int)(e:Ending)(w':World):Prop:=∃a hh A c,e= .returned (.tuple #[.slice A n c,.int .i64 (za%(11-2*n))])/\Gm n a/\LLLed hh/\hh.length=n/\Rel n a hh/\Mat64 w' A hh/\n<=c/\c<=9223372036854775807/\Step w w'
theorem zqB{dim kind za:Int}{NA:Option Addr}{l:List Int}{nc:Nat}{v3:Value}{te:TypeId}(hN:Ints w NA te .i8 l)(h8:I8 l)(hl:l.length<=9223372036854775807)(hd0:0<=dim)(hd1:dim<256)(hk0:0<=kind)(hk1:kind<256)(hb0:0<=za)(hb1:za<256):
  Cq 5 #[.agg #[.int .u8 dim,.int .u8 kind,.slice NA l.length nc,v3],.int .u8 za] w (zeR w (1+(dim%4).toNat) za):=by
 have HG:Hid (∀W,Ext w W->Cq 16 #[.agg #[.int .u8 dim,.int .u8 kind,.slice NA l.length nc,v3],.int .i64 4] W (zik W (1+(dim%4).toNat))):=Zh (fun W e=>zpd (most:=4) (hN.ext e) h8 hl hd0 hd1 hk0 hk1 (by omega) (by omega));have hn4:1+(dim%4).toNat<=4:=by omega
 clear hN h8;generalize 1+(dim%4).toNat=n at*
 have e1:IntKind.i64.wrap (2*(n:Int))=2*(n:Int):=Iw;have e2:IntKind.i64.wrap (11-2*(n:Int))=11-2*(n:Int):=Iw;have e3:((11-2*(n:Int))==0)=false:=by simp;omega
 have e4:za.tmod (11-2*(n:Int))=za%(11-2*(n:Int)):=Int.tmod_eq_emod_of_nonneg hb0;have e5:IntKind.i64.wrap za=za:=Iw;have e6:=Int.emod_nonneg za (show 11-2*(n:Int)≠0 by omega);have e7:=Int.emod_lt_of_pos za (show 0<11-2*(n:Int) by omega);have e8:IntKind.i64.wrap (za%(11-2*(n:Int)))=za%(11-2*(n:Int)):=Iw;go_enter Tryz.func5,Tryz.ntmps5;go_wp2_with (go_at_call 16;refine(HG.out _ Zi).mono ?_;rintro e w1 ⟨a,hh,A1,c1,rfl,hGm,hLL,zr7,hRel,hM3,hc1,hc2,hs3⟩)
 have HM:=Zh hM3;clear hM3;go_quiet (fail)
 go_wp2_with fail
 go_ret2
 exact⟨a,hh,A1,c1,rfl,hGm,hLL,zr7,hRel,HM.out.ext Zi,hc1,hc2,Step.of _ _⟩
end
section
open Go.RowKit
open La
theorem zi2(hr:RedOK m){b:Nat}(hb:(b:Int)<1073741824)(h:VecList m b false L):∀y∈L,y.length=m.length/\∀a∈y,-1099511627776<=a/\a<=1099511627776:=fun y hy=>by
 obtain⟨h1,-,h3,-⟩:=(h.mem y).1 hy;exact⟨h1,fun a ha=>zaf.1 (zgQ (zdL hr (by omega) hb y h1 h3)) a ha⟩
def zqC(W:World)(m:List (List Int))(b:Nat)(e:Ending)(w':World):Prop:=∃A c vs L,e= .returned (.slice A (List.length L) c)/\Arr w' A 62 vs/\ItV w' vs (L.map fun y=>(zg m y,y))/\VecList m b false L/\L.length<=8000/\Step W w'
theorem zi3{b:Nat}(hM:Mat64 w0 A m)(hL:LLLed m)(hmn:m.length=n)(h4:n<=4)(hb:b+2*n<=12)[hx:Ext w0 w]:
  Cq 22 #[.slice A n c,.int .i64 b] w (zqC w m b):=by
 have hr:=hL.red;have hO:=qA hr;have zu2:=zcz hr (b:=b) (by omega) (.inl (by omega));have hlt:=zif hr (b:=b) (by omega);rw[hmn]at hlt;obtain⟨hvl,zut⟩:=zhO hO (b:=b) (by omega);rw[hmn]at hvl zut;have hil:=zev m (Zp m b (n-1) []);refine(zio (w:=w) (c:=c) (za:=b) hM.a hL hmn (by omega) (by omega) (by omega)).mono ?_;generalize Zs m (Zp m b (n-1) [])=its at*
 rintro e w' ⟨A1,c1,vs,he,hOw,hV,hs⟩;rw[zut]at hV;exact⟨A1,c1,vs,its.map Prod.snd,by rw[length_map];exact he,hOw.arr,hV,hvl,by rw[length_map];omega,hs⟩
theorem zqD{w1:World}{Y:Option Addr}{d dy:Nat}(hM:MatA w0 A m)(hL:LLLed m)(hmn:m.length=n)(hX:Ints w1 X 2 .i64 x)(hxl:x.length=n)(hxb:∀a∈x,-1099511627776<=a/\a<=1099511627776)(hlb:∀y∈L,y.length=n/\∀a∈y,-1099511627776<=a/\a<=1099511627776)(hib:j7 m L x)(hy:y∈L)(hY:Ints w2 Y 2 .i64 y)[hx0:Ext w0 w][hx1:Ext w1 w][hx2:Ext w2 w]:
  Cq 48 #[.slice A n c,.slice X n d,.slice Y n dy] w (zy w (.tuple #[.int .i64 (zG (zU m y) x),.bool true])):=by
 have hr:=qA hL.red;obtain⟨hyl,hyb⟩:=hlb y hy;have hd:=zi1 (qh hr.small) (x:=x) (y:=y) (by omega) (by omega);have hb:=hib y hy;have h:=zon (w:=w) (c:=c) (d:=d) (e':=dy) hM hL hX hY (by omega) (by omega) hxb hyb (by omega) (by omega);rw[hd,hmn]at h;exact h
end
end Go.Proofs.YtpcgfpmiphiacaaGreat
