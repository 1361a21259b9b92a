/- Fp13 Lat5 Awk15 R14p Pf4 Sm15 R14d -/
import Derived.Test.YtcmkopogafchiaaGreatP24
import Derived.Test.YtcmkopogafchiaaGreatP18
import Derived.Deep.Slices
set_option maxHeartbeats 8000000
set_option linter.unusedVariables false
set_option linter.unusedSimpArgs false
set_option linter.constructorNameAsVariable false
namespace Go.Proofs.YtcmkopogafchiaaGreat
open List (length_map map_append length_take map_cons map_nil mem_append getElem_mem)
variable {b:Int} {L m:List (List Int)} {x y:List Int} {c n ze:Nat} {A X:Option Addr} {e:TypeId} {W w w0 w2:World}
section
open Go.RowKit
def Qj (m L:List (List Int)) (y:List Int):Ks:=(zg m y,zE m L y)
def ziy (m L:List (List Int)):Prop:=∀(a k:Nat) (n:Int),a<k->k<=L.length->(∀(j:Nat) (x:Int),a<=j->j<k->(L.map (zg m))[j]? =some x->x=n)->k-a<20
def ziz (w:World) (m:List (List Int)) (P:List (List Int)->Prop) (e:Ending) (w':World):Prop:=
 ∃A c L C,e= .returned (.tuple #[.slice A (List.length C) c,.int .i64 0])/\P L/\Own w' w.heap.size 64 3 A C.length c (qa C)/\(∀x∈C,x.ok w')/\CountOK jh (L.map (Qj m L)) (C.map CE.key)/\Step w w'
theorem zpI {a k:Nat} {na:Int} {els:List ME} (hk:k<=L.length) (hak:a<=k) (hn:∀(j:Nat) (x:Int),a<=j->j<k->(L.map (zg m))[j]? =some x->x=na)
  (hp:(els.map fun x=>zE m L (L.getD x.i.toNat [])).Perm ((List.range (k-a)).map fun j=>zE m L (L.getD (a+j) []))):
  ((L.take a).map (Qj m L)++els.map fun x=>(na,zE m L (L.getD x.i.toNat []))).Perm ((L.take k).map (Qj m L)):=by
 have h1:=hp.map fun p=>(na,p)
 rw [List.map_map,List.map_map] at h1;have hsp:L.take k=L.take a++(L.take k).drop a:=by
  have h:=List.take_append_drop a (L.take k);rw [List.take_take,Nat.min_eq_left hak] at h;exact h.symm
 have h2:(List.range (k-a)).map ((fun p=>(na,p))∘fun j=>zE m L (L.getD (a+j) []))=((L.take k).drop a).map (Qj m L):=by
  apply List.ext_getElem
  ·simp;omega
  ·intro i h1 h2;simp only [length_map,List.length_range] at h1;simp only [List.getElem_map,List.getElem_range,Function.comp,List.getElem_drop,List.getElem_take];have hi:a+i<L.length:=by omega
   have hg:L.getD (a+i) []=L[a+i]:=by simp [hi]
   rw [hg];unfold Qj;rw [hn (a+i) (zg m L[a+i]) (by omega) (by omega) (by simp [hi])]
 rw [hsp,map_append,<-h2];exact (List.Perm.append_left _ h1)
set_option maxRecDepth 20000 in
theorem zpJ {u:Int} {P:List (List Int)->Prop} (hM:MatA w0 A m) (hml:m.length<=1000) (zrd:∀r∈m,r.length<=m.length)
  (zsc:∀W,Ext w0 W->Calls Tryz.prog 60 #[.slice A m.length c,.int .i64 b,.int .i64 u] W (zcg W P))
  (hP:∀L,P L->PrfL m L/\(∀x∈L,JP m L x)/\ziy m L) [hx:Ext w0 w]:
  Calls Tryz.prog 19 #[.slice A m.length c,.int .i64 b,.int .i64 u] w (ziz w m P):=by
 have hPN:∀L,P L->L.length<=100000/\(∀y∈L,y.length=m.length)/\∀y∈L,-9223372036854775808<=zg m y/\zg m y<=9223372036854775807:=fun L hL=>by
  obtain ⟨⟨h1,h2,-,h4⟩,-⟩:=hP L hL;exact ⟨h1,h2,fun y hy=>by have :=h4 y hy;omega⟩
 have HNS:Hid (∀W,Ext w0 W->Calls Tryz.prog 35 #[.slice A m.length c,.int .i64 b,.int .i64 u] W (zas W m P)):=Zh (fun W e=>zie (w:=W) hM hml zrd zsc hPN);have HPR:Hid (∀(W0 W:World) (LA NA DA XA:Option Addr) (lc nc dc xc mb q:Nat) (L:List (List Int)) (x:List Int),P L->x∈L->L.length=q->IntsA W0 XA x->SysV W0 m L LA NA DA->q<=dc->dc<=9223372036854775807->Ext W0 W->W0.heap.size<=mb->MapC W mb 0 []->Calls Tryz.prog 37 #[.agg #[.slice LA q lc,.slice NA q nc,.slice DA q dc],.slice XA m.length xc,.map (some mb)] W (jE W mb (zE m L x))):=Zh (fun W0 W LA NA DA XA lc nc dc xc mb q L x hL hxL hq hX hS h1 h2 e1 hmb hMC=>by
  obtain ⟨hp,hi,-⟩:=hP L hL;subst hq;exact zem (w0:=W0) (w:=W) hS rfl hp.len h1 h2 rfl hml hp.srt hX (hp.zc x hxL) hp.nb (hi x hxL) hmb hMC)
 have HME:Hid (∀(W0 W:World) (LA NA DA:Option Addr) (lc nc dc mb q a k:Nat) (n:Int) (L:List (List Int)),P L->L.length=q->SysV W0 m L LA NA DA->q<=dc->dc<=9223372036854775807->Ext W0 W->W0.heap.size<=mb->MapC W mb 0 []->a<k->k<=q->(∀(j:Nat) (x:Int),a<=j->j<k->(L.map (zg m))[j]? =some x->x=n)->Calls Tryz.prog 41 #[.agg #[.slice LA q lc,.slice NA q nc,.slice DA q dc],.int .i64 a,.int .i64 k,.map (some mb)] W (zch W mb m L a k)):=Zh (fun W0 W LA NA DA lc nc dc mb q a k n L hL hq hS h1 h2 e1 hmb hMC hak hkq hsh=>by
  obtain ⟨hp,hi,h20⟩:=hP L hL;subst hq;exact zpp (w0:=W0) (w:=W) hS rfl hp.len h1 h2 rfl hml hp.srt hp.zc hp.nb hi hmb hMC hak hkq (h20 a k n hak hkq hsh))
 have HPL:Hid (∀L,P L->PrfL m L):=Zh (fun L hL=>(hP L hL).1);clear hPN zsc hP hM zrd;unfold zas at HNS;unfold jE at HPR;unfold zch at HME;unfold ziz;obtain ⟨n,hn⟩:∃n,m.length=n:=⟨_,rfl⟩;rw [hn] at HNS HPR hml |-
 have HN:=Zh hn;clear hn;have hmk:=@run_makeMap Tryz.prog;go_enter Tryz.func19,Tryz.ntmps19;go_wp2_with (go_at_call 35;refine (HNS.out _ Zi).mono ?_;rintro e w1 ⟨LA,NA,DA,lc,nc,dc,L,rfl,hS,hPL,-,-,-,-,hd1,hd2,hs1⟩;have HSY:=Zh hS;have HP:=Zh hPL;clear hS hPL)
 obtain ⟨q,hq⟩:∃q,L.length=q:=⟨_,rfl⟩;rw [hq] at hd1;obtain ⟨wB,hwB⟩:∃wB,wB=w1.alloc (.cells #[.slice LA q lc,.slice NA q nc,.slice DA q dc] 70):=⟨_,rfl⟩;obtain ⟨wM,hwM⟩:∃wM,wM=wB.alloc (.map #[] 0):=⟨_,rfl⟩;have hxB:Ext w1 wB:=by rw [hwB];infer_instance
 have hxM:Ext wB wM:=by rw [hwM];infer_instance
 have hsB:wB.heap.size=w1.heap.size+1:=by rw [hwB];simp
 have hsM:wM.heap.size=w1.heap.size+2:=by rw [hwM];simp [hsB]
 have hbx:wB.heap[w1.heap.size]? =some (.cells #[.slice LA q lc,.slice NA q nc,.slice DA q dc] 70 (0,0)):=by rw [hwB];exact heap_alloc_new w1 _
 have HBX:=Zh (zi hxM hbx);have hm0:MapC wM wB.heap.size 0 []:=by rw [hwM];exact MapC.made wB
 rw [hsB] at hm0;rw [hq];rw [<-hwB,<-hwM];obtain ⟨mb,hmb⟩:∃mb,mb=w1.heap.size+1:=⟨_,rfl⟩;rw [<-hmb] at hm0;have HM0:=Zh hm0;have hx1M:Ext w1 wM:=hxB.trans hxM;have HQ:=Zh hq;have HSZ:=Zh (And.intro hsM hmb);obtain ⟨hqb,zxr⟩:q<=100000/\Hid (∀y∈L,0<=zg m y/\zg m y<=4611686018427387904):=⟨by rw [<-hq];exact (HPL.out L HP.out).len,Zh (HPL.out L HP.out).nb⟩;try rw [<-hmb]
 clear hwB hwM hsB hsM hbx hm0 hq hmb HNS hmk;go_loopw [10,12,13,14,16,17] (fun cl s _ _ _ _ wr=>∃(a:Nat) (C:List CE) (A':Option Addr) (c' k:Nat),a<=q/\s= .int .i64 a/\Hid (Bdry (L.map (zg m)) a)/\cl= .slice A' k c'/\k<=a/\Hid (C.length=k)/\Hid (Own wr wM.heap.size 64 3 A' k c' (qa C))/\Hid (∀x∈C,x.ok wr)/\Hid (CountOK jh ((L.take a).map (Qj m L)) (C.map CE.key))/\Hid (MapC wr mb 0 [])/\Hid (Fm mb wM wr)) (fun _ s _ _ _ _ _=>q-(intOf s).toNat)
 case atStart=>exact ⟨0,[],none,0,0,by omega,rfl,Zh (Bdry.zero _),rfl,by omega,Zh rfl,Zh (Own.nil _ _ _ _),Zh (fun x hx=>by simp at hx),Zh CountOK.nil,HM0,Zh (Fm.refl _ _)⟩
 case round=>
  obtain ⟨a,C,A',c',k0,ha,rfl,HB,rfl,hka,HCL,HO,HK,HCT,HM,HF⟩:=hrel;have zsY:w1.heap.size<=mb:=by have :=HSZ.out;omega
  have zwm:Ext w1 wr:=Fm.ext0 hx1M zsY HF.out;obtain ⟨⟨c1,c2,c3⟩,-,c4⟩:=Qi (HF.out.cells HM0.out HBX.out);have oB:Old w1.heap.size wr:=⟨c4⟩;by_cases hlt:a<q
  ·obtain ⟨y0,hy0⟩:∃y,L[a]? =some y:=⟨_,Ze (by rw [HQ.out];exact hlt)⟩;obtain ⟨na,hna⟩:∃v,zg m y0=v:=⟨_,rfl⟩;have zr2:(L.map (zg m))[a]? =some na:=by rw [List.getElem?_map,hy0,<-hna];rfl
   have hnl:(L.map (zg m)).length=q:=by rw [length_map];exact HQ.out
   have HSH:=Zh (fun W (e:Ext w1 W)=>zib (w:=W) (nc:=nc) (SL:= .slice LA q lc) (SD:= .slice DA q dc) HSY.out.norms zr2 hnl (by omega));obtain ⟨bl,ol,B0,cb0,rfl,-,-,-,-,d5⟩:=HSY.out.list.a.at_ (i:=a) (r:=y0) hy0;obtain ⟨bn,on,na',rfl,zsX,n5,n6⟩:=HSY.out.norms.at_ (i:=a) (by omega);rw [zr2] at zsX;obtain rfl:na=na':=by injection zsX
   have zql:=Zh zr2;have HNL:=Zh hnl;have HNA:=Zh (And.intro hy0 hna);have oL:Old bl w1:=⟨d5⟩;have oN:Old bn w1:=⟨n6⟩;unfold zcf at HSH;clear hy0 hna zr2 hnl;go_upto_region 10 with (go_at_call 40;refine (HSH.out _ Zi).mono ?_;rintro e w2 ⟨k,rfl,hk1,hk2,hk3,hk4,hs2⟩;rw [HNL.out] at hk2;have HK3:=Zh hk3;have HK4:=Zh hk4;clear hk3 hk4)
   have zrS:Ext wr w2:=Zi;have HF2:Hid (Fm mb wM w2):=Zh (HF.out.trans (Fm.of_ext zrS));have HM2:Hid (MapC w2 mb 0 []):=Zh (HM.out.ext zrS);have HO2:Hid (Own w2 wM.heap.size 64 3 A' k0 c' (qa C)):=Zh (HO.out.ext zrS);have HK2:Hid (∀x∈C,x.ok w2):=Zh (fun x hx=>(HK.out x hx).kp (Kp.of_ext zrS));have HMC:=Zh (HME.out w1 w2 (some ⟨bl,ol,none⟩) (some ⟨bn,on,none⟩) DA lc nc dc mb q a k na L HP.out HQ.out HSY.out hd1 hd2 (zwm.trans zrS) zsY HM2.out hk1 hk2 HK3.out)
   clear HO HM HF HK HSH;go_wp2_with (go_at_call 41;refine HMC.out.mono ?_;rintro e w3 ⟨g,c3',els,rfl,hg3,hR3,hE3,hM3,hF3,hMO3⟩)
   obtain ⟨el,hel⟩:∃el,els.length=el:=⟨_,rfl⟩;rw [hel];have HMU:=Zh (zpu hMO3 hE3 (by rw [HQ.out];omega));have HEL:=Zh hel;have zuV:el=k-a:=by
    have h1:=HMU.out.1.length_eq;simp only [length_map,List.length_range] at h1;omega
   have HR3:=Zh hR3;have HE3:=Zh hE3;have HM3:=Zh hM3;have HF3:Hid (Fm mb wM w3):=Zh (HF2.out.trans hF3);have HO3:Hid (Own w3 wM.heap.size 64 3 A' k0 c' (qa C)):=Zh (hF3.own HM2.out HO2.out);have HKC:Hid (∀x∈C,x.ok w3):=Zh (fun x hx=>(HK2.out x hx).kp (Kp.of_fm hF3 HM2.out));have HLO:Hid (∀s∈(L.take a).map (Qj m L),s.1<na):=Zh (fun s hs=>by
    obtain ⟨y,hy,rfl⟩:=List.mem_map.1 hs;obtain ⟨i,hi,he⟩:=List.mem_iff_getElem.1 hy;simp only [length_take] at hi;rw [List.getElem_take] at he;refine HB.out i a (zg m y) na (by omega) Zr ?_ zql.out;rw [List.getElem?_map,Ze (by omega),he];rfl)
   clear hel hR3 hE3 hM3 hF3 hMO3 HMC HO2 HK2 HME c1 c2 c3 c4 oB;go_loopw [10,16,17,45] (fun cl _ _ ix wz=>∃(r:Nat) (C':List CE) (A2:Option Addr) (c2' k':Nat),r<=el/\ix= .int .i64 r/\cl= .slice A2 k' c2'/\Hid (C'.length=k')/\k'<=k0+r/\Hid (Own wz wM.heap.size 64 3 A2 k' c2' (qa C'))/\Hid (∀x∈C',x.ok wz)/\Hid (CountOK jh ((L.take a).map (Qj m L)++(els.take r).map fun x=>(na,zE m L (L.getD x.i.toNat []))) (C'.map CE.key))/\Hid (MapC wz mb 0 [])/\Hid (Fm mb wM wz)/\Hid (Kp w3 wz)/\(r=0->k'=k0)/\Hid (0<r->∃C0 x,C'=C0++[x]/\x.n=na/\k0<k')) (fun _ _ _ ix _=>el-(intOf ix).toNat)
   case atStart=>exact ⟨0,C,A',c',k0,by omega,rfl,rfl,HCL,by omega,HO3,HKC,Zh (by simpa using HCT.out),HM3,HF3,Zh (Kp.refl _),fun _=>rfl,Zh (fun h=>by omega)⟩
   case round=>
    obtain ⟨r,C',A2,c2',k',hr,rfl,rfl,HCL',hk',HO',HK',HCT',HM',HF',HKP,hr0,HR1⟩:=hrel;by_cases hrl:r<el
    ·obtain ⟨x,hxr⟩:∃x,els[r]? =some x:=⟨_,Ze (by rw [HEL.out];exact hrl)⟩;have hxm:=Zm hxr;obtain ⟨⟨j,hj1,hj2,hxi⟩,zsZ⟩:=HMU.out.2.1 x hxm;obtain ⟨y,hy⟩:∃y,L[j]? =some y:=⟨_,Ze (by rw [HQ.out];omega)⟩;have hyL:=Zm hy;have hgd:L.getD x.i.toNat []=y:=by rw [hxi];simp [List.getD_eq_getElem?_getD,hy]
     obtain ⟨pr,hpr⟩:∃pr,pr=zE m L y:=⟨_,rfl⟩;rw [hgd,<-hpr] at zsZ;have zwn:pr.length<=100000:=by
      have :=zbg m L y;rw [hpr];rw [HQ.out] at this;omega
     have zsA:(els.take (r+1)).map (fun x=>((na,zE m L (L.getD x.i.toNat [])):Ks))=(els.take r).map (fun x=>(na,zE m L (L.getD x.i.toNat [])))++[(na,pr)]:=by
      rw [List.take_add_one,hxr,map_append];simp only [Option.toList,map_cons,map_nil,hgd,<-hpr]
     have zuW:∀s∈(L.take a).map (Qj m L)++(els.take r).map (fun x=>((na,zE m L (L.getD x.i.toNat [])):Ks)),¬jh (na,pr) s:=fun s hs hlt=>by
      rcases mem_append.1 hs with hs |hs
      ·have h1:=HLO.out s hs;rcases hlt with h |⟨h,-⟩
       ·simp only at h;omega
       ·simp only at h;omega
      ·obtain ⟨z,hz,rfl⟩:=List.mem_map.1 hs;obtain ⟨i,hi,he⟩:=List.mem_iff_getElem.1 hz;simp only [length_take] at hi;rw [List.getElem_take] at he;have h2:=(List.pairwise_iff_getElem.1 HMU.out.2.2) i r (by omega) (by rw [HEL.out];exact hrl) (by omega);have h3:els[r]'(by rw [HEL.out];exact hrl)=x:=(Zg.1 hxr).2;rw [h3,he,hgd,<-hpr] at h2;rcases hlt with h |⟨-,h⟩
       ·simp only at h;omega
       ·exact h2 h
     have zuX:x.ok wr:=(HE3.out x hxm).kp HKP.out;obtain ⟨cur,hcg,zrX⟩:=HR3.out.kp HKP.out;obtain ⟨f0,f1⟩:=zrX r x hxr;have e0:wr.cell? ⟨g,r*2,none⟩=some (.int .i64 x.i):=by rw [Nat.mul_comm];simpa [World.cell?,hcg] using f0
     have e1:wr.cell? ⟨g,r*2+1,none⟩=some (.slice x.A x.p.length x.c):=by rw [Nat.mul_comm];simpa [World.cell?,hcg] using f1
     have hgl:=zC hcg;have oG:Old g wr:=⟨hgl⟩;have ztS:Ext w1 wr:=Fm.ext0 hx1M zsY HF'.out;obtain ⟨⟨c1,c2,c3⟩,-,c4⟩:=Qi (HF'.out.cells HM0.out HBX.out);have oB:Old w1.heap.size wr:=⟨c4⟩;obtain ⟨xi,xA,xc,xp⟩:=x;simp only at hxi zsZ e0 e1;subst hxi;have hnx:=Zh zsA;have zq4:=Zh zuW;have HXR:=Zh hxr;have zq5:=Zh hpr;have HY:=Zh (And.intro hy hyL);have HXO:=Zh zuX;clear zsA zuW hxr hpr hy hyL hgd zrX hcg f0 f1 zuX hxm
     have HNZ:Hid (r=0->∀C0 d,C'.map CE.key=C0++[d]->d.1≠(na,pr)):=Zh (fun hrz C0 d he hd=>by
      have hdm:d∈C'.map CE.key:=by rw [he];simp
      have h2:=(HCT'.out.mem d).1 hdm;have h3:d.1∈(L.take a).map (Qj m L)++(els.take r).map fun x=>(na,zE m L (L.getD x.i.toNat [])):=(@List.count_pos_iff _ instBEqOfDecidableEq Zi _ _).1 (by have :=h2.1;rw [h2.2] at this;exact Int.natCast_pos.1 this)
      rw [hrz,List.take_zero,map_nil,List.append_nil] at h3;have h4:=HLO.out _ h3;rw [hd] at h4;simp only at h4;omega)
     have hrb:r<100000:=by omega
     obtain ⟨hb,zsV⟩:∃hb:Bool,(r=0/\k'=k0/\hb=false)∨(k0<k'/\∃(C0:List CE) (z:CE),C'=C0++[z]/\z.n=na/\hb=decide (z.p=xp)):=by
      rcases Nat.eq_zero_or_pos r with h0 |h0
      ·exact ⟨false,.inl ⟨h0,hr0 h0,rfl⟩⟩
      ·obtain ⟨C0,z,h1,h2,h3⟩:=HR1.out h0;exact ⟨_,.inr ⟨h3,C0,z,h1,h2,rfl⟩⟩
     have zqh:=Zh zsV;have zqm:Hid ((xA=none/\xp.length=0/\xc=0/\k'=k0)∨(xA≠none/\xp=pr)):=Zh (by
      rcases zsZ with ⟨h1,h2,h3,h4⟩ |h
      ·rw [HEL.out] at h4;exact .inl ⟨h1,by rw [h3];rfl,h2,hr0 (by omega)⟩
      ·exact .inr h)
     obtain ⟨pl,hpl⟩:∃pl,pr.length=pl:=⟨_,rfl⟩;obtain ⟨xl,hxl⟩:∃xl,xp.length=xl:=⟨_,rfl⟩;have zxs:xl<=100000:=by
      rcases zsZ with ⟨-,-,h3,-⟩ |⟨-,h⟩
      ·rw [h3] at hxl;simp at hxl;omega
      ·rw [h] at hxl;omega
     have HPE:=Zh hpl;have HXE:=Zh hxl;rw [hpl] at zwn;rw [hxl] at e1;have hwk:IntKind.i64.wrap ((k':Int)-1)=(k':Int)-1:=IntWalk.i64_in _ (by omega);obtain ⟨wm,hwm⟩:∃wm,wm=wr.alloc (.cells #[.int .i64 j,.slice xA xl xc] 82):=⟨_,rfl⟩;have hxm:Ext wr wm:=by rw [hwm];infer_instance
     have hbm:wm.heap[wr.heap.size]? =some (.cells #[.int .i64 j,.slice xA xl xc] 82 (0,0)):=by rw [hwm];exact heap_alloc_new wr _
     have HBM:=Zh hbm;have hsm:wm.heap.size=wr.heap.size+1:=by rw [hwm];simp
     have HWM:=Zh hwm;have HSM:=Zh hsm;obtain ⟨d0,d1,d2,d3,d4⟩:=zep hbm;have oM:Old wr.heap.size wm:=⟨d4⟩;have HKA:=Zh zuV;have hji:(j:Int)<(q:Int):=by omega
     clear zsV zuV hr0 HR1 hwm hbm hsm zsZ hpl hxl hj1 hj2;go_upto_region 14 with fail
     rw [<-HWM.out];go_cut [65] (fun c W=>c= .bool hb/\Ext wm W)
     case first=>
      rcases zqh.out with ⟨-,hk,hbf⟩ |⟨hk,C0,z,hC,-,hbd⟩
      ·subst hk;have zwo:decide ((k':Int)-1≥(k':Int))=false:=by simp;omega
       have zwp:decide ((k':Int)<=(k':Int)-1)=false:=by simp;omega
       have HBF:=Zh hbf;clear hbf;go_quiet (fail)
       go_wp2_with fail
       go_meet
       exact ⟨by rw [HBF.out],Zi⟩
      ·obtain ⟨g2,cur2,hA2,-,hh2,-,zs0,-⟩:=zeq (HO'.out.ext hxm) (by omega);subst hA2;obtain ⟨kl,hkl⟩:∃kl,k'=kl+1:=⟨k'-1,by omega⟩;have hc0:C0.length=kl:=by have :=HCL'.out;rw [hC] at this;simp at this;omega
       obtain ⟨-,f1,-⟩:=zci C' kl z (by rw [hC,List.getElem?_append_right (by omega),hc0,Nat.sub_self];rfl);have e5:wm.cell? ⟨g2,kl*3+1,none⟩=some (.slice z.A z.p.length z.c):=by simpa [World.cell?,hh2] using zs0 _ _ f1
       have oG2:Old g2 wm:=⟨zC hh2⟩;have hkt:((k':Int)-1).toNat=kl:=by omega
       have zwq:(0:Int)<=(k':Int)-1:=by omega
       have zwr:(k':Int)-1<(k':Int):=by omega
       have zwo:decide ((k':Int)-1≥(k0:Int))=true:=by simp;omega
       have zwp:decide ((k0:Int)<=(k':Int)-1)=true:=by simp;omega
       have ztT:z.ok wm:=((HK'.out z (by rw [hC];simp)).kp (Kp.of_ext hxm));have ztU:=HXO.out;have hcz:(Zo z.p xp==0)=hb:=by
        rw [hbd,Bool.eq_iff_iff];simp [zhX]
       have HCP:=Zh (fun W (e:Ext wm W)=>zia (w:=W) (c:=z.c) (d:=xc) (ztT.ct.ext e) (ztU.ct.ext (hxm.trans e)) ztT.2 ztU.2);simp only at HCP;rw [HXE.out] at HCP;generalize Zo z.p xp=cv at hcz HCP;generalize z.p.length=zl at e5 HCP;clear hkl hC hc0 hbd ztT ztU hh2 zs0 f1 hk;go_region_with (go_at_call 42;refine (HCP.out _ Zi).mono ?_;rintro e w5 ⟨rfl,hG⟩;have hx5:=hG.ext)
       all_goals
        go_wp2_with fail
        go_meet
        exact ⟨rfl,Ext.trans Zi hx5⟩
     case rest=>
     obtain ⟨rfl,hxW⟩:=hcut;obtain ⟨W0,hW0⟩:∃W0,W0=wc:=⟨_,rfl⟩;rw [<-hW0] at hxW |-
     clear hW0;have hxrW:Ext wr W0:=hxm.trans hxW;have d1W:W0.cell? ⟨wr.heap.size,1,none⟩=some (.slice xA xl xc):=(zh wm).trans d1;have d0W:W0.cell? ⟨wr.heap.size,0,none⟩=some (.int .i64 j):=(zh wm).trans d0;have oMW:Old wr.heap.size W0:=⟨Nat.lt_of_lt_of_le d4 hxW.size⟩
     cases hb with
     |true=>
      obtain ⟨hk,C0,z,hC,hzn,hzp⟩:k0<k'/\∃(C0:List CE) (z:CE),C'=C0++[z]/\z.n=na/\z.p=pr:=by
       rcases zqh.out with ⟨-,-,h⟩ |⟨hk,C0,z,hC,hzn,hbd⟩
       ·cases h
       ·rcases zqm.out with ⟨-,-,-,h⟩ |⟨-,h⟩
        ·omega
        ·exact ⟨hk,C0,z,hC,hzn,(of_decide_eq_true hbd.symm).trans h⟩
      obtain ⟨g2,cur2,hA2,hg2,hh2,-,zs0,zr5⟩:=zeq (HO'.out.ext hxrW) (by omega);subst hA2;obtain ⟨kl,hkl⟩:∃kl,k'=kl+1:=⟨k'-1,by omega⟩;have hc0:C0.length=kl:=by have :=HCL'.out;rw [hC] at this;simp at this;omega
      obtain ⟨-,-,f2⟩:=zci C' kl z (by rw [hC,List.getElem?_append_right (by omega),hc0,Nat.sub_self];rfl);have e5:W0.cell? ⟨g2,kl*3+2,none⟩=some (.int .i64 z.N):=by simpa [World.cell?,hh2] using zs0 _ _ f2
      have e6:W0.frozen? ⟨g2,kl*3+2,none⟩=false:=by simp [World.frozen?,hh2]
      have hkt:((k':Int)-1).toNat=kl:=by omega
      have zwq:(0:Int)<=(k':Int)-1:=by omega
      have zwr:(k':Int)-1<(k':Int):=by omega
      have hct:=HCT'.out;rw [hC,map_append] at hct;have hN:0<z.N/\z.N<=200000:=by
       have h1:=(hct.mem z.key).1 (by simp);have h2:=@List.count_le_length _ instBEqOfDecidableEq z.key.1 ((L.take a).map (Qj m L)++(els.take r).map fun x=>((na,zE m L (L.getD x.i.toNat [])):Ks));simp only [List.length_append,length_map,length_take] at h2;have h3:=h1.2;have h4:z.key.2=z.N:=rfl;have h5:=HKA.out;omega
      have hwN:IntKind.i64.wrap (z.N+1)=z.N+1:=IntWalk.i64_in _ (by omega);have HO9:Hid (Own (W0.setCell ⟨g2,kl*3+2,none⟩ (.int .i64 (z.N+1))) wM.heap.size 64 3 (some ⟨g2,0,none⟩) k' c2' (qa (C0++[{z with N:=z.N+1}]))):=Zh (by
       have h:=zr5 (kl*3+2) (.int .i64 (z.N+1)) (by rw [zeo,HCL'.out];omega);rw [zpq,hc0,<-hC];exact h)
      have hKp:Kp wr (W0.setCell ⟨g2,kl*3+2,none⟩ (.int .i64 (z.N+1))):=(Kp.of_ext hxrW).trans (Kp.of_set hh2 rfl _);have HK9:Hid (∀x∈C0++[{z with N:=z.N+1}],x.ok (W0.setCell ⟨g2,kl*3+2,none⟩ (.int .i64 (z.N+1)))):=Zh (fun x hx=>by
       rcases mem_append.1 hx with hx |hx
       ·exact (HK'.out x (by rw [hC];simp [hx])).kp hKp
       ·rw [List.mem_singleton.1 hx];exact CE.ok.kp (x:=z) (HK'.out z (by rw [hC];simp)) hKp)
      have HC9:Hid (CountOK jh ((L.take a).map (Qj m L)++(els.take (r+1)).map fun x=>(na,zE m L (L.getD x.i.toNat []))) ((C0++[{z with N:=z.N+1}]).map CE.key)):=Zh (by
       rw [hnx.out,<-List.append_assoc,map_append];have hkz:CE.key z=((na,pr),z.N):=by rw [<-hzn,<-hzp];rfl
       simp only [map_cons,map_nil,hkz] at hct;have h:=hct.hit zca;rw [<-hzn,<-hzp] at h |-
       exact h)
      have zws:mb≠g2:=by have :=HSZ.out;omega
      have HM9:Hid (MapC (W0.setCell ⟨g2,kl*3+2,none⟩ (.int .i64 (z.N+1))) mb 0 []):=Zh ((HM'.out.ext hxrW).at_block (Below.heap_setCell W0 _ _ mb zws));have HF9:Hid (Fm mb wM (W0.setCell ⟨g2,kl*3+2,none⟩ (.int .i64 (z.N+1)))):=Zh ((HF'.out.trans (Fm.of_ext hxrW)).new (Below.setAt W0 hg2 _));have HP9:=Zh (HKP.out.trans hKp);have HL9:Hid ((C0++[{z with N:=z.N+1}]).length=k'):=Zh (by simp [hc0,hkl])
      have HZN:=Zh hzn;have oG2:Old g2 W0:=⟨zC hh2⟩;clear hKp zr5 hct hC hc0 hzn hzp zs0 hh2 f2 hkl zqh HNZ;go_wp2_with fail
      exact ⟨⟨r+1,C0++[{z with N:=z.N+1}],some ⟨g2,0,none⟩,c2',k',by omega,by go_num,rfl,HL9,by omega,HO9,HK9,HC9,HM9,HF9,HP9,fun h=>by omega,Zh (fun _=>⟨C0,_,rfl,HZN.out,hk⟩)⟩,by simp [intOf];omega⟩
     |false=>
      have HNF:Hid (∀C1 d,C'.map CE.key=C1++[d]->d.1≠(na,pr)):=Zh (by
       rcases zqh.out with ⟨h1,-,-⟩ |⟨hk,C0,z,hC,-,hbd⟩
       ·exact HNZ.out h1
       ·intro C1 d he hd;rcases zqm.out with ⟨-,-,-,h⟩ |⟨-,h⟩
        ·omega
        ·rw [hC,map_append] at he;obtain ⟨-,he⟩:=List.append_inj' he rfl;injection he with he
         rw [<-he] at hd;refine of_decide_eq_false hbd.symm ?_;rw [h];exact congrArg Prod.snd hd)
      have zxt:k0<=k':=by rcases zqh.out with ⟨-,h,-⟩ |⟨h,-⟩<;>omega
      clear zqh HNZ;go_upto_region 16 with fail
      obtain ⟨nb,hnb⟩:∃nb:Bool,nb=xA.isNone:=⟨_,rfl⟩;have HNB:=Zh hnb;clear hnb;go_cut [76] (fun c W=>c= .bool nb/\W=W0)
      case first=>
       have hq0:=zcE (P:=Tryz.prog) Tryz.underlying30;go_wp2_with fail
       go_meet
       exact ⟨by rw [HNB.out],rfl⟩
      case rest=>
      obtain ⟨rfl,hW⟩:=hcut;rw [hW];clear hW;go_upto_if 76 with fail
      go_cut [] (fun W=>∃A5 c5,Hid (W.heap[wr.heap.size]? =some (.cells #[.int .i64 j,.slice A5 pl c5] 82 (0,0)))/\Hid (Arr W A5 45 (zx pr))/\Hid (MapC W mb 0 [])/\Hid (Fm mb wr W))
      case first=>
       cases nb with
       |false=>
        rcases zqm.out with ⟨h,-⟩ |⟨-,h⟩
        ·rw [h] at HNB;exact absurd HNB.out (by simp)
        ·have hpe:=HXE.out;rw [h,HPE.out] at hpe;subst hpe;have har:=HXO.out.1;simp only at har;rw [h] at har;have zqc:Hid (∃A5 c5,Hid (W0.heap[wr.heap.size]? =some (.cells #[.int .i64 j,.slice A5 pl c5] 82 (0,0)))/\Hid (Arr W0 A5 45 (zx pr))/\Hid (MapC W0 mb 0 [])/\Hid (Fm mb wr W0)):=Zh ⟨xA,xc,Zh (zi hxW HBM.out),Zh (har.ext hxrW),Zh (HM'.out.ext hxrW),Zh (Fm.of_ext hxrW)⟩;clear har h;go_wp2_with fail
         go_meet
         exact zqc.out
       |true=>
        rcases zqm.out with ⟨-,h2,-,-⟩ |⟨h,-⟩
        ·rw [HXE.out] at h2;obtain ⟨bl',ol',B,cb,hA,g0,hB,g2,g3,g4⟩:=HSY.out.list.a.at_ HY.out.1;injection hA with hA
         injection hA with z1 z2
         subst z1 z2;rw [(HPL.out L HP.out).zc y HY.out.2,HN.out] at g0 g2;have hx1W:Ext w1 W0:=ztS.trans hxrW;have g0':W0.cell? ⟨bl,ol+j,none⟩=some (.slice B n cb):=(zh w1).trans g0;have oLW:Old bl W0:=⟨Nat.lt_of_lt_of_le g4 hx1W.size⟩;have hFm0:Fm mb wM W0:=HF'.out.trans (Fm.of_ext hxrW);obtain ⟨⟨h1',h2',h3'⟩,-,h4'⟩:=Qi (hFm0.cells HM0.out HBX.out);have oBW:Old w1.heap.size W0:=⟨h4'⟩;have HMW:Hid (MapC W0 mb 0 []):=Zh (HM'.out.ext hxrW)
         have HBW:Hid (W0.heap[wr.heap.size]? =some (.cells #[.int .i64 j,.slice xA xl xc] 82 (0,0))):=Zh (zi hxW HBM.out);have zqx:Hid (∀W,Ext w1 W->MapC W mb 0 []->Calls Tryz.prog 37 #[.agg #[.slice (some ⟨bl,ol,none⟩) q lc,.slice (some ⟨bn,on,none⟩) q nc,.slice DA q dc],.slice B n cb,.map (some mb)] W (jE W mb pr)):=Zh (fun W e hMC=>by
          rw [zq5.out];exact HPR.out w1 W (some ⟨bl,ol,none⟩) (some ⟨bn,on,none⟩) DA B lc nc dc cb mb q L y HP.out HY.out.2 HQ.out hB HSY.out hd1 hd2 e zsY hMC)
         unfold jE at zqx;rw [HPE.out] at zqx;have HXW:=Zh hxrW;clear hB g0 HPR h2 hFm0 hxrW ztS c1 c2 c3 c4 oB e0 e1 hxm HSM;go_wp2_with fail
         go_region_law (first
          |(go_simp;go_at_call 37;refine (zqx.out _ Zi (HMW.out.ext Zi)).mono ?_;rintro e w5 ⟨A5,c5,rfl,hO5,hM5,hF5⟩;have hb5:=hF5.cells (HMW.out.ext Zi) (zi (Zi:Ext W0 _) HBW.out);have HB5:=Zh hb5;obtain ⟨d0,d1,d2,d3,d4⟩:=zep hb5;have oX:Old wr.heap.size w5:=⟨d4⟩;have HO5:=Zh hO5;have HM5:=Zh hM5;have HF5:=Zh hF5;have hs5:=hF5.size;clear hO5 hM5 hF5 hb5))
         all_goals
          have hr5:Fm mb wr w5:=(Fm.of_ext (HXW.out.trans Zi)).trans HF5.out;have hrW:Fm mb wr (w5.setCell ⟨wr.heap.size,1,none⟩ (.slice A5 pl c5)):=hr5.new (Below.setAt (n:=wr.heap.size) (p:=⟨wr.heap.size,1,none⟩) w5 Zr _);have hbW:=Zj (i:=1) HB5.out (.slice A5 pl c5);have hmW:MapC (w5.setCell ⟨wr.heap.size,1,none⟩ (.slice A5 pl c5)) mb 0 []:=HM5.out.at_block (Below.heap_setCell w5 _ _ mb (Nat.ne_of_lt HM'.out.lt))
          have haW:Arr (w5.setCell ⟨wr.heap.size,1,none⟩ (.slice A5 pl c5)) A5 45 (zx pr):=(HO5.out.far (p:=⟨wr.heap.size,1,none⟩) HB5.out (by decide) (.slice A5 pl c5)).arr;have zqc:=Zh (And.intro hbW (And.intro haW (And.intro hmW hrW)));clear hr5 hrW hbW hmW haW HB5 HO5 HM5 HF5;go_wp2_with fail
          go_meet
          exact ⟨A5,c5,Zh zqc.out.1,Zh zqc.out.2.1,Zh zqc.out.2.2.1,Zh zqc.out.2.2.2⟩
        ·have hn:=HNB.out
         cases xA with
         |none=>exact absurd rfl h
         |some a=>cases hn
      case rest=>
      obtain ⟨A5,c5,HB5,HA5,HM5,HF5⟩:=hcut;obtain ⟨W,hW⟩:∃W,W=wc:=⟨_,rfl⟩;rw [<-hW] at HB5 HA5 HM5 HF5 |-
      clear hW d0W d1W oMW hxW hxrW e0 e1 oG hgl;obtain ⟨d0',d1',-,-,d4'⟩:=zep HB5.out;have hrW:=HF5.out;have HFW:Hid (Fm mb wM W):=Zh (HF'.out.trans hrW);have HOW:Hid (Own W wM.heap.size 64 3 A2 k' c2' (qa C')):=Zh (hrW.own HM'.out HO'.out);have HPW:Hid (Kp w3 W):=Zh (HKP.out.trans (Kp.of_fm hrW HM'.out));have HKW:Hid (∀x∈C',x.ok W):=Zh (fun x hx=>(HK'.out x hx).kp (Kp.of_fm hrW HM'.out));obtain ⟨⟨h1',h2',h3'⟩,-,h4'⟩:=Qi (HFW.out.cells HM0.out HBX.out)
      have oBW:Old w1.heap.size W:=⟨h4'⟩;have oXW:Old wr.heap.size W:=⟨d4'⟩;have hx1W:Ext w1 W:=Fm.ext0 hx1M zsY HFW.out;have hsW:=HFW.out.size;have n5W:W.cell? ⟨bn,on+a,none⟩=some (.int .i64 na):=(zh w1).trans n5;have hkb:k'<=300000:=by have :=HKA.out;omega
      clear hrW c1 c2 c3 c4 oB HF' HM' HO' HK' HKP ztS;go_wp2_with fail
      go_region_law ((refine QX _ rfl (.tmp 87) (.tmp 96) 37 rfl wM.heap.size 64 (.agg #[.int .i64 0,.slice none 0 0,.int .i64 0]) 3 40 Tryz.underlying37 zpr rfl (by decide) (by decide) A2 k' c2' (qa C') (by simp [Act.eval]) (HOW.out.ext Zi) (some ⟨W.drew.heap.size,0,none⟩) 1 1 [.int .i64 na,.slice A5 pl c5,.int .i64 1] (by simp [Act.eval]) (Arr.new W.drew 64 #[.int .i64 na,.slice A5 pl c5,.int .i64 1]) rfl (by simp [Value.oneCell']) (by omega) (by simp;omega) ?_);intro A9 c9 w9 zuY hg9)
      all_goals
       have hxa:Ext W (W.drew.alloc (.cells #[.int .i64 na,.slice A5 pl c5,.int .i64 1] 64)):=(Zi:Ext W W.drew).trans Zi;have hK9:Kp W w9:=(Kp.of_ext hxa).trans (Kp.of_grow hg9);have hcf:qa (C'++[⟨na,A5,c5,pr,1⟩])=qa C'++[.int .i64 na,.slice A5 pl c5,.int .i64 1]:=by rw [zen,<-HPE.out];rfl
       have hO9:Own w9 wM.heap.size 64 3 A9 (k'+1) c9 (qa (C'++[⟨na,A5,c5,pr,1⟩])):=by rw [hcf];exact zuY
       have hM9:MapC w9 mb 0 []:=(HM5.out.ext hxa).grow hg9;have hF9:Fm mb wM w9:=(HFW.out.trans (Fm.of_ext hxa)).new hg9.below;have zuZ:∀x∈C'++[(⟨na,A5,c5,pr,1⟩:CE)],x.ok w9:=fun x hx=>by
        rcases mem_append.1 hx with hx |hx
        ·exact (HKW.out x hx).kp hK9
        ·rw [List.mem_singleton.1 hx];exact CE.ok.kp (w:=W) ⟨HA5.out,by simp only [HPE.out];omega⟩ hK9
       have zu0:CountOK jh ((L.take a).map (Qj m L)++(els.take (r+1)).map fun x=>(na,zE m L (L.getD x.i.toNat []))) ((C'++[(⟨na,A5,c5,pr,1⟩:CE)]).map CE.key):=by
        rw [hnx.out,<-List.append_assoc,map_append];exact HCT'.out.fresh zca zq4.out HNF.out
       have HO9:=Zh hO9;have HM9:=Zh hM9;have HF9:=Zh hF9;have HK9:=Zh zuZ;have HC9:=Zh zu0;have HP9:=Zh (HPW.out.trans hK9);clear hxa hK9 hcf hO9 hM9 hF9 zuZ zu0 zuY hg9;go_wp2_with fail
       exact ⟨⟨r+1,C'++[⟨na,A5,c5,pr,1⟩],A9,c9,k'+1,by omega,by go_num,rfl,Zh (by rw [List.length_append,HCL'.out];rfl),by omega,HO9,HK9,HC9,HM9,HF9,HP9,fun h=>by omega,Zh (fun _=>⟨C',_,rfl,rfl,by omega⟩)⟩,by simp [intOf];omega⟩
    ·obtain rfl:r=el:=by omega
     go_wp2_with fail
     have hbd:Bdry (L.map (zg m)) k:=Bdry.end_ (HPL.out L HP.out).srt hk1 zql.out (fun i y h1 h2 h3=>HK3.out i y h1 h2 h3) HK4.out;have hct:=HCT'.out;rw [List.take_of_length_le (l:=els) (by rw [HEL.out];exact Zr)] at hct;have zwt:CountOK jh ((L.take k).map (Qj m L)) (C'.map CE.key):=hct.perm (zpI (by rw [HQ.out];omega) (by omega) HK3.out HMU.out.1);exact ⟨⟨k,C',A2,c2',k',hk2,rfl,Zh hbd,rfl,by omega,HCL',HO',HK',Zh zwt,HM',HF'⟩,by simp [intOf];omega⟩
  ·obtain rfl:a=q:=by omega
   clear hlt;have zre:L.take a=L:=List.take_of_length_le (by rw [HQ.out];exact Zr);have zqD:=HCT.out;rw [zre] at zqD;go_wp2_with fail
   go_ret2
   have hsz:=HSZ.out;have zs3:=hs1.ext.size;have hxx:Ext w wr:=Fm.ext0 (hs1.ext.trans hx1M) (by omega) HF.out;refine ⟨A',c',L,C,by rw [HCL.out];rfl,HP.out,?_,HK.out,zqD,hxx.toStep⟩;rw [HCL.out];exact HO.out.lower (by omega)
end
section
open Go.ChangeShapes Go.WideShapes Go.ChangeAt Go.RowKit Go.Joins Go.Deep
structure I8A (W:World) (v:Value) where
 A:Option Addr
 l:List Int
 c:Nat
 te:TypeId
 eq:v= .slice A l.length c
 ints:Ints W A te .i8 l
 i8:I8 l
 len:l.length<=9223372036854775807
set_option maxRecDepth 100000 in
theorem zpK {H:Type} {enc:TypeId×Value->H} {r:Reach} {b0:Nat} {v:Value} {d:DataW H} {p:List MemPlace} (hv:Value.okWide Tryz.prog W r b0 22 v) (h:DataW.Trod enc Tryz.prog W 0 (fun _=>true) true 22 v d p):
  Nonempty (I8A W v)/\∀(W':World) (sp:Nat->Bool),Below W.heap.size W W'->(∀q∈p,sp q.block=true)->DataW.Trod enc Tryz.prog W' 0 sp true 22 v d p:=by
 obtain ⟨A0,l0,c0,rfl⟩:=okWide_slice Tryz.underlying22 hv;have h':=h;obtain ⟨n,hn⟩:=h';have hn2:DataW.trod enc Tryz.prog W 0 (fun _=>true) true n 22 [.slice A0 l0 c0]=some (d,p):=by simpa [Value.cells] using hn
 obtain ⟨A,c,l,te,e,h1,h2,h3,h4⟩:=zer Tryz.underlying22 Tryz.underlying109 (by kernel_rfl) hn2;exact ⟨⟨⟨A,l,c,te,e,h3,zes h4,by omega⟩⟩,fun W' sp hb hs=>zlN zhh (by kernel_rfl) (of_decide_eq_true (by kernel_rfl)) h hb hs⟩
end
section
open Go.RowKit
def jj:List Ct:=[((2,1),2),((2,2),1)]
theorem zpL:∀y∈Qx,zE m2 Qx y=jj:=by decide
theorem zpM:Qg jh (Qx.map (Qj m2 Qx))=[((2,jj),3)]:=by decide
theorem ziA:PrfL m2 Qx:=⟨by decide,by decide,by decide,by decide⟩
theorem ziB:∀x∈Qx,JP m2 Qx x:=by unfold JP;decide
theorem zpN:ziy m2 Qx:=fun a k n h1 h2 _=>by
 have :Qx.length=3:=rfl;omega
theorem ziC (hM:Mat64 W A m2):Calls Tryz.prog 60 #[.slice A 2 2,.int .i64 2,.int .i64 100] W (zcg W fun L=>L=Qx):=
 (zf2 (w0:=W) (w:=W) (c:=2) (st:=[3,7]) hM.a (by decide) (by decide) zlI zlH (by decide) (by decide) (by decide) (by decide) (by decide)).mono fun e w' ⟨B,c,L,he,h1,h2,h3,hp,hw,hs⟩=>by
  obtain rfl:=zlK hp hw;exact ⟨B,c,_,_,he,h1,h2,h3,rfl,hs⟩
theorem zpO (hM:Mat64 W A m2) (hX:Ints W X 2 .i64 [1,0]):
  Calls Tryz.prog 15 #[.slice A 2 2,.int .i64 2,.int .i64 100,.slice X 2 2] W fun e w'=>∃B c,e= .returned (.tuple #[.slice B 2 c,.int .i64 0])/\Arr w' B 45 (zx jj)/\Step W w':=
 (zik (w0:=W) (w:=W) (c:=2) (d:=2) (P:=fun L=>L=Qx) hM.a (by decide) (by decide) zf4 hX rfl (by decide) (by decide) (fun W' e=>ziC (hM.ext e)) (fun L hL=>by
  rw [hL];exact ⟨ziA,ziB [1,0] (by decide)⟩)).mono fun e w' ⟨B,c,L,he,hL,hO,hs⟩=>by
  rw [hL,zpL [1,0] (by decide)] at he hO;exact ⟨B,c,he,hO.arr,hs⟩
theorem zpP (hM:Mat64 W A m2):
  Calls Tryz.prog 19 #[.slice A 2 2,.int .i64 2,.int .i64 100] W fun e w'=>∃g c D d,e= .returned (.tuple #[.slice (some ⟨g,0,none⟩) 1 c,.int .i64 0])/\w'.cell? ⟨g,0,none⟩=some (.int .i64 2)/\w'.cell? ⟨g,1,none⟩=some (.slice D 2 d)/\w'.cell? ⟨g,2,none⟩=some (.int .i64 3)/\g<w'.heap.size/\Arr w' D 45 (zx jj)/\Step W w':=
 (zpJ (w0:=W) (w:=W) (c:=2) (P:=fun L=>L=Qx) hM.a (by decide) (by decide) (fun W' e=>ziC (hM.ext e)) (fun L hL=>by
  rw [hL];exact ⟨ziA,ziB,zpN⟩)).mono fun e w' ⟨A,c,L,C,he,hL,hO,hok,hct,hs⟩=>by
  rw [hL] at hct;have hk:=(hct.unique zca (JN zca _)).trans zpM;have zrc:C.length=1:=by have :=congrArg List.length hk;simpa using this
  match C,zrc with
  |[x],_=>
   simp only [map_cons,map_nil,List.cons.injEq,and_true] at hk;have e1:x.n=2:=congrArg (fun z=>z.1.1) hk;have e2:x.p=jj:=congrArg (fun z=>z.1.2) hk;have e3:x.N=3:=congrArg (fun z=>z.2) hk;obtain ⟨g,cur,rfl,-,hh,-,zrL,-⟩:=zeq hO (by simp);obtain ⟨f0,f1,f2⟩:=zci [x] 0 x rfl;rw [e1] at f0;rw [e2,show jj.length=2 from rfl] at f1;rw [e3] at f2;have har:=(hok x (by simp)).1;rw [e2] at har;exact ⟨g,c,x.A,x.c,he,by simpa [World.cell?,hh] using zrL _ _ f0,by simpa [World.cell?,hh] using zrL _ _ f1,by simpa [World.cell?,hh] using zrL _ _ f2,zC hh,har,hs⟩
set_option maxRecDepth 20000 in
theorem zpQ :Calls Tryz.prog 18 #[] w (zw w (.bool true)):=by
 have HSP:Hid (∀W B c D d,Arr W B 45 (zx jj)->Arr W D 45 (zx jj)->Calls Tryz.prog 17 #[.slice B 2 c,.slice D 2 d] W (zw W (.bool true))):=Zh (fun W B c D d h1 h2=>by
  have h:=zh5 (w0:=W) (w:=W) (c:=c) (d:=d) (p:=jj) (q:=jj) ⟨_,h1⟩ ⟨_,h2⟩ (by decide) (by decide);rw [decide_eq_true rfl] at h;exact h)
 have HPF:=Zh (fun W A X (h1:Mat64 W A m2) (h2:Ints W X 2 .i64 [1,0])=>zpO h1 h2);have HSG:=Zh (fun W A (h1:Mat64 W A m2)=>zpP h1);have zq6:Hid (∀(W:World) (n:Nat) [Sz W n],Ints (W.alloc (.cells #[.int .i64 1,.int .i64 0] 2)) (some ⟨n,0,none⟩) 2 .i64 [1,0]):=Zh (fun W n h=>by rw [<-h.eq];exact Arr.new W 2 #[.int .i64 1,.int .i64 0]);have HLT:Hid (∀(W:World) (n:Nat) [Sz W n],Arr (W.alloc (.cells #[.int .i64 2,.int .i64 1,.int .i64 2,.int .i64 2,.int .i64 2,.int .i64 1] 45)) (some ⟨n,0,none⟩) 45 (zx jj)):=Zh (fun W n h=>by rw [<-h.eq];exact Arr.new W 45 #[.int .i64 2,.int .i64 1,.int .i64 2,.int .i64 2,.int .i64 2,.int .i64 1])
 have k1:True:=trivial;go_enter Tryz.func18,Tryz.ntmps18;go_wp2_with (first
  |(go_at_call 15;refine (HPF.out _ _ _ ((zf6 w 2 1 1 2).ext Zi) (zq6.out _ _)).mono ?_;rintro e w1 ⟨B1,c1,rfl,hA1,hs1⟩)
  |(go_at_call 19;refine (HSG.out _ _ ((zf6 w 2 1 1 2).ext Zi)).mono ?_;rintro e w2 ⟨g,c2,D,d,rfl,q0,q1,q2,q3,hA2,hs2⟩;have oG:Old g w2:=⟨q3⟩)
  |(go_at_call 17;have _t:=k1;clear _t k1;refine (HSP.out _ _ _ _ _ (hA1.ext Zi) (HLT.out _ _)).mono ?_;rintro e w3 ⟨rfl,hs3⟩)
  |(go_at_call 17;refine (HSP.out _ _ _ _ _ (hA2.ext Zi) (hA1.ext Zi)).mono ?_;rintro e w4 ⟨rfl,hs4⟩))
 go_ret;exact ⟨rfl,Step.of _ _⟩
section
variable {κ:Type} [DecidableEq κ] {lt:κ->κ->Prop} [DecidableRel lt]
theorem ziD:∀(p:List (κ×Int)) (k:κ) (j:Nat),(∀i d,i<j->p[i]? =some d->lt d.1 k)->
  (p.length=j->Zd lt p k=p++[(k,1)])/\∀d,p[j]? =some d->¬lt d.1 k->(d.1=k->Zd lt p k=p.set j (d.1,d.2+1))/\(d.1≠k->Zd lt p k=p.take j++(k,1)::p.drop j)
 |[],k,j,_=>⟨fun _=>rfl,fun d hd=>by simp at hd⟩
 |c::p,k,0,h=>⟨fun h=>by simp at h,fun d hd hn=>by
  simp at hd;subst hd;unfold Zd;rw [if_neg hn];refine ⟨fun e=>?_,fun e=>?_⟩
  ·rw [if_pos e,<-e];rfl
  ·rw [if_neg e];rfl⟩
 |c::p,k,j+1,h=>by
  obtain ⟨h1,h2⟩:=ziD p k j fun i d hi hd=>h (i+1) d (by omega) (by simpa using hd)
  have hc:lt c.1 k:=h 0 c (by omega) rfl;unfold Zd;rw [if_pos hc];refine ⟨fun e=>by rw [h1 (by simpa using e)];rfl,fun d hd hn=>?_⟩;obtain ⟨h3,h4⟩:=h2 d (by simpa using hd) hn;exact ⟨fun e=>by rw [h3 e];rfl,fun e=>by rw [h4 e];rfl⟩
end
theorem ziE:∀(p:List Ct) (j:Nat) (d:Ct) (v:Int),p[j]? =some d->zx (p.set j (d.1,v))=(zx p).set (j*3+2) (.int .i64 v)
 |[],j,d,v,h=>by simp at h
 |c::p,0,d,v,h=>by simp at h;subst h;rfl
 |c::p,j+1,d,v,h=>by
  have :=ziE p j d v (by simpa using h);rw [show (j+1)*3+2=j*3+2+1+1+1 by omega];show Qr c++zx (p.set j (d.1,v))=_;rw [this];rfl
theorem Grow.andG {w':World} (h:Grow ze e w w') (h':Grow ze e w' w2):Grow ze e w w2:=⟨h.below.trans h'.below,fun k hk hne=>by
 have h1:=h.typed k hk hne;exact (h'.typed k (Nat.lt_of_lt_of_le hk h.below.size) fun cs fr h=>hne cs fr (h1▸h)).trans h1⟩
theorem zpR {size:Nat} {xs:List Value} (ho:Own w ze e size A n c xs) (h0:0<n):∃(g:Nat) (cur:Array Value),A=some ⟨g,0,none⟩/\ze<=g/\w.heap[g]? =some (.cells cur e (0,0))/\n<=c/\(∀(j:Nat) (u:Value),xs[j]? =some u->cur[j]? =some u)/\
  ∀(i:Nat) (u:Value),i<xs.length->Own (w.setCell ⟨g,i,none⟩ u) ze e size A n c (xs.set i u):=by
 rcases ho.2 with ⟨-,hn⟩ |⟨g,cap,cur,hv,h1,h2,h3,h4,h5,h6⟩
 ·omega
 ·injection hv with z1 _ z3
  subst z3;have hm:=Nat.mul_le_mul_right size h3;refine ⟨g,cur,z1,h1,h2,h3,fun j u hu=>?_,fun i u hi=>⟨by simp [ho.1],.inr ⟨g,c,cur.set! i u,by rw [z1],h1,?_,h3,h4,by simpa using h5,?_⟩⟩⟩
  ·rw [<-h6,List.getElem?_take] at hu;split at hu
   ·simpa using hu
   ·cases hu
  ·rw [Zj h2];simp
  ·rw [<-h6] at hi |-
   apply List.ext_getElem?;intro j;simp only [length_take] at hi;simp only [List.getElem?_take,Array.getElem?_toList,List.getElem?_set,Array.set!_eq_setIfInBounds,Array.getElem?_setIfInBounds,length_take];split<;>rename_i hj
   ·split<;>rename_i he
    ·subst he;simp;omega
    ·rfl
   ·split<;>rename_i he
    ·omega
    ·rfl
theorem Grow.setAt {g:Nat} {cur:Array Value} {fr:Nat×Nat} (hg:w.heap[g]? =some (.cells cur e fr)) (hb:ze<=g) (i:Nat) (u:Value):Grow ze e w (w.setCell ⟨g,i,none⟩ u):=
 ⟨Below.setAt (p:=⟨g,i,none⟩) w hb u,fun k _ hne=>Below.heap_setCell w ⟨g,i,none⟩ u k fun h=>hne cur fr (by rw [h];exact hg)⟩
end
section
open La
theorem zpS (n k:Nat) (F:Nat->Nat->Int):(zp n fun i=>zp k fun j=>F i j)=zp k fun j=>zp n fun i=>F i j:=by
 induction n with
 |zero=>
  have :∀j,(zp 0 fun i=>F i j)=0:=fun j=>rfl
  simp only [this];exact (zdf fun _ _=>rfl).symm
 |succ n ih=>rw [qD,ih,<-za7];exact ZP fun j _=>(qD n _).symm
theorem zpT (hs:∀i j,i<m.length->j<m.length->ent m i j=ent m j i) (x y:List Int):qm m x y=qm m y x:=by
 unfold qm;have h1:∀u v:List Int,(zp m.length fun i=>u.getD i 0*zp m.length fun j=>ent m i j*v.getD j 0)=zp m.length fun i=>zp m.length fun j=>u.getD i 0*(ent m i j*v.getD j 0):=fun u v=>ZP fun i _=>(zb0 _ _ _).symm
 rw [h1,h1,zpS];refine ZP fun i hi=>ZP fun j hj=>?_
 rw [hs i j hi hj];grind
theorem ziF (hn:AllLen m m.length) (hx:x.length=m.length) (hy:y.length=m.length):qm m x y=zA (zN m y) x:=by
 have h:=zbK (fun i=>(zN m y).getD i 0) x 0 (zN m y) (by rw [J5,hx]) (fun i _=>by rw [Nat.zero_add]);rw [h,JJ,hx];unfold qm;refine ZP fun i hi=>?_
 have e:(zN m y).getD i 0=zA (m.getD i []) y:=by simp [zN,hi]
 rw [Nat.zero_add,e,zgp hn hi y hy,JJ,hy,Int.mul_comm];simp only [Nat.zero_add]
theorem zpU (hr:RedOK m) (hx:x.length=m.length) (hy:y.length=m.length):-(zg m x+zg m y)<=2*zA (zN m y) x/\2*zA (zN m y) x<=zg m x+zg m y:=by
 have zrd:=ZX hr.small;have p1:=zht zrd x y 1 hx hy;have p2:=zht zrd x y (-1) hx hy;have q1:=Ja hr (jg x 1 y) (by rw [zd4,hx]);have q2:=Ja hr (jg x (-1) y) (by rw [zd4,hx]);have hc:zb4 m x y=2*zA (zN m y) x:=by
  have h1:zb4 m x y=qm m x y+qm m y x:=za7 _ _ _;rw [h1,zpT (fun i j hi hj=>((of_decide_eq_true hr.small).2.2.2 i hi j hj).1) y x,ziF zrd hx hy];omega
 omega
theorem zpV (hr:RedOK m) (hb:b<=4611686018427387904) (h:VecList m b false L) (hl:L.length<=100000):PrfL m L:=
 ⟨hl,h.zc,List.pairwise_map.2 h.norms,fun y hy=>⟨Ja hr y (h.zc y hy),Int.le_trans ((h.mem y).1 hy).2.2.1 hb⟩⟩
theorem ziG (hr:RedOK m) (hb:b<=4611686018427387904) (h:VecList m b false L) (hx:x.length=m.length) (hn:zg m x<=4611686018427387904):JP m L x:=fun y hy=>by
 have h1:=zpU hr hx (h.zc y hy);have h2:=((h.mem y).1 hy).2.2.1;omega
theorem ziH (h:Zw m=true) {ys:List Int} (hl:ys.length=m.length) (hb:∀y∈ys,-128<=y/\y<=128):zg m ys<=4611686018427387904:=by
 have hR:=qg h;have hn:=ZX hR.small;have h8:=(qW hR.small).2;have hy:∀i,-128<=ys.getD i 0/\ys.getD i 0<=128:=fun i=>by
  rw [List.getD_eq_getElem?_getD]
  cases hh:ys[i]? with
  |none=>simp
  |some y=>exact hb y (Zm hh)
 have he:∀i j,i<m.length->j<m.length->-262144<=ent m i j/\ent m i j<=262144:=fun i j hi hj=>by
  have hr:m[i]? =some m[i]:=Ze hi;have hlr:m[i].length=m.length:=hn _ (getElem_mem hi);have e:ent m i j=m[i][j]'(by omega):=j2 hr (Ze (by omega));rw [e];exact (zbN h).ent m[i] (getElem_mem hi) (m[i][j]'(by omega)) (getElem_mem _)
 rw [<-JK hn ys hl];unfold qm;have h1:∀i,i<m.length->-268435456<=(zp m.length fun j=>ent m i j*ys.getD j 0)/\(zp m.length fun j=>ent m i j*ys.getD j 0)<=268435456:=fun i hi=>by
  have :=zhu (n:=m.length) (F:=fun j=>ent m i j*ys.getD j 0) (B:=33554432) (fun j hj=>by
   have :=qT (a:=ent m i j) (b:=ys.getD j 0) (A:=262144) (B:=128) (he i j hi hj).1 (he i j hi hj).2 (hy j).1 (hy j).2;omega)
  have :(m.length:Int)*33554432<=8*33554432:=by omega
  omega
 have h2:=zhu (n:=m.length) (F:=fun i=>ys.getD i 0*zp m.length fun j=>ent m i j*ys.getD j 0) (B:=34359738368) (fun i hi=>by
  have :=qT (a:=ys.getD i 0) (b:=zp m.length fun j=>ent m i j*ys.getD j 0) (A:=128) (B:=268435456) (hy i).1 (hy i).2 (h1 i hi).1 (h1 i hi).2;omega)
 have :(m.length:Int)*34359738368<=8*34359738368:=by omega
 omega
end
section
open Go.RowKit
def zet (w:World) (n:Nat) (za:Int) (e:Ending) (w':World):Prop:=∃a hh A c,e= .returned (.tuple #[.slice A n c,.int .i64 (za%(11-2*n))])/\Gm n a/\LLLed hh/\hh.length=n/\Rel n a hh/\Mat64 w' A hh/\n<=c/\c<=9223372036854775807/\Step w w'
theorem zpW {dim kind za:Int} {NA:Option Addr} {l:List Int} {nc:Nat} {v3:Value} {te:TypeId} (hN:Ints w NA te .i8 l) (h8:I8 l) (hl:l.length<=9223372036854775807) (hd0:0<=dim) (hd1:dim<256) (hk0:0<=kind) (hk1:kind<256) (hb0:0<=za) (hb1:za<256):
  Calls Tryz.prog 13 #[.agg #[.int .u8 dim,.int .u8 kind,.slice NA l.length nc,v3],.int .u8 za] w (zet w (1+(dim%4).toNat) za):=by
 have HG:Hid (∀W,Ext w W->Calls Tryz.prog 28 #[.agg #[.int .u8 dim,.int .u8 kind,.slice NA l.length nc,v3],.int .i64 4] W (ziw W (1+(dim%4).toNat))):=Zh (fun W e=>zpC (most:=4) (hN.ext e) h8 hl hd0 hd1 hk0 hk1 (by omega) (by omega));have hn4:1+(dim%4).toNat<=4:=by omega
 clear hN h8;generalize 1+(dim%4).toNat=n at*
 have e1:IntKind.i64.wrap (2*(n:Int))=2*(n:Int):=IntWalk.i64_in _ (by omega);have e2:IntKind.i64.wrap (11-2*(n:Int))=11-2*(n:Int):=IntWalk.i64_in _ (by omega);have e3:((11-2*(n:Int))==0)=false:=by simp;omega
 have e4:za.tmod (11-2*(n:Int))=za%(11-2*(n:Int)):=Int.tmod_eq_emod_of_nonneg hb0;have e5:IntKind.i64.wrap za=za:=IntWalk.i64_in _ (by omega);have e6:=Int.emod_nonneg za (show 11-2*(n:Int)≠0 by omega);have e7:=Int.emod_lt_of_pos za (show 0<11-2*(n:Int) by omega);have e8:IntKind.i64.wrap (za%(11-2*(n:Int)))=za%(11-2*(n:Int)):=IntWalk.i64_in _ (by omega);go_enter Tryz.func13,Tryz.ntmps13;go_wp2_with (go_at_call 28;refine (HG.out _ Zi).mono ?_;rintro e w1 ⟨a,hh,A1,c1,rfl,hGm,hLL,zrc,hRel,hM3,hc1,hc2,hs3⟩)
 have HM:=Zh hM3;clear hM3;go_quiet (fail)
 go_wp2_with fail
 go_ret2
 exact ⟨a,hh,A1,c1,rfl,hGm,hLL,zrc,hRel,HM.out.ext Zi,hc1,hc2,Step.of _ _⟩
end
section
open Go.RowKit
open La
theorem zpX (hr:RedOK m) {b:Nat} (hb:(b:Int)<1073741824) (h:VecList m b false L):∀y∈L,y.length=m.length/\∀a∈y,-1099511627776<=a/\a<=1099511627776:=fun y hy=>by
 obtain ⟨h1,-,h3,-⟩:=(h.mem y).1 hy;exact ⟨h1,fun a ha=>J3.1 (zgq (zdr hr (by omega) hb y h1 h3)) a ha⟩
def ziI (W:World) (m:List (List Int)) (b:Nat) (e:Ending) (w':World):Prop:=∃A c vs L,e= .returned (.slice A (List.length L) c)/\Arr w' A 47 vs/\ItV w' vs (L.map fun y=>(zg m y,y))/\VecList m b false L/\L.length<=8000/\Step W w'
theorem zpY {b:Nat} (hM:Mat64 w0 A m) (hL:LLLed m) (hmn:m.length=n) (h4:n<=4) (hb:b+2*n<=12) [hx:Ext w0 w]:
  Calls Tryz.prog 22 #[.slice A n c,.int .i64 b] w (ziI w m b):=by
 have hr:=hL.red;have hO:=qg hr;have ztn:=zcj hr (b:=b) (by omega) (.inl (by omega));have hlt:=zhP hr (b:=b) (by omega);rw [hmn] at hlt;obtain ⟨hvl,ztl⟩:=zhm hO (b:=b) (by omega);rw [hmn] at hvl ztl;have hil:=zee m (Za m b (n-1) []);refine (zhR (w:=w) (c:=c) (za:=b) hM.a hL hmn (by omega) (by omega) (by omega)).mono ?_;generalize Zc m (Za m b (n-1) [])=its at*
 rintro e w' ⟨A1,c1,vs,he,hOw,hV,hs⟩;rw [ztl] at hV;exact ⟨A1,c1,vs,its.map Prod.snd,by rw [length_map];exact he,hOw.arr,hV,hvl,by rw [length_map];omega,hs⟩
theorem zpZ {w1:World} {Y:Option Addr} {d dy:Nat} (hM:MatA w0 A m) (hL:LLLed m) (hmn:m.length=n) (hX:Ints w1 X 2 .i64 x) (hxl:x.length=n) (hxb:∀a∈x,-1099511627776<=a/\a<=1099511627776) (hlb:∀y∈L,y.length=n/\∀a∈y,-1099511627776<=a/\a<=1099511627776) (hib:JP m L x) (hy:y∈L) (hY:Ints w2 Y 2 .i64 y) [hx0:Ext w0 w] [hx1:Ext w1 w] [hx2:Ext w2 w]:
  Calls Tryz.prog 23 #[.slice A n c,.slice X n d,.slice Y n dy] w (zw w (.tuple #[.int .i64 (zA (zN m y) x),.bool true])):=by
 have hr:=qg hL.red;obtain ⟨hyl,hyb⟩:=hlb y hy;have hd:=ziF (ZX hr.small) (x:=x) (y:=y) (by omega) (by omega);have hb:=hib y hy;have h:=zhq (w:=w) (c:=c) (d:=d) (e':=dy) hM hL hX hY (by omega) (by omega) hxb hyb (by omega) (by omega);rw [hd,hmn] at h;exact h
end
end Go.Proofs.YtcmkopogafchiaaGreat
