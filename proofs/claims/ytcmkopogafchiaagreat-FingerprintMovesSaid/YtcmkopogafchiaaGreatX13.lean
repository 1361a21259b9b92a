/- Fp13 Awk15 -/
import Derived.Test.YtcmkopogafchiaaGreatX12
import Derived.Test.YtcmkopogafchiaaGreatProg
import Derived.Test.YtcmkopogafchiaaGreatShelf
import Derived.Test.YtcmkopogafchiaaGreatRows
import Derived.Test.YtcmkopogafchiaaGreatShelfC
set_option maxHeartbeats 8000000
set_option linter.unusedVariables false
set_option linter.unusedSimpArgs false
set_option linter.constructorNameAsVariable false
namespace Go.Proofs.YtcmkopogafchiaaGreat
open Go.RowKit
def keyS (m L:List (List Int)) (y:List Int):Ks:=(nrm m y,profM m L y)
def Sh20 (m L:List (List Int)):Prop:=∀(a k:Nat) (n:Int),a<k->k<=L.length->(∀(j:Nat) (x:Int),a<=j->j<k->(L.map (nrm m))[j]? =some x->x=n)->k-a<20
def RetSig (w:World) (m:List (List Int)) (P:List (List Int)->Prop) (e:Ending) (w':World):Prop:=
 ∃A c L C,e= .returned (.tuple #[.slice A (List.length C) c,.int .i64 0])/\P L/\Own w' w.heap.size 64 3 A C.length c (ceF C)/\(∀x∈C,x.ok w')/\CountOK ltS (L.map (keyS m L)) (C.map CE.key)/\Step w w'
theorem shell_keys {m L:List (List Int)} {a k:Nat} {na:Int} {els:List ME} (hk:k<=L.length) (hak:a<=k) (hn:∀(j:Nat) (x:Int),a<=j->j<k->(L.map (nrm m))[j]? =some x->x=na)
  (hp:(els.map fun x=>profM m L (L.getD x.i.toNat [])).Perm ((List.range (k-a)).map fun j=>profM m L (L.getD (a+j) []))):
  ((L.take a).map (keyS m L)++els.map fun x=>(na,profM m L (L.getD x.i.toNat []))).Perm ((L.take k).map (keyS m L)):=by
 have h1:=hp.map fun p=>(na,p)
 rw [List.map_map,List.map_map] at h1
 have hsp:L.take k=L.take a++(L.take k).drop a:=by
  have h:=List.take_append_drop a (L.take k)
  rw [List.take_take,Nat.min_eq_left hak] at h
  exact h.symm
 have h2:(List.range (k-a)).map ((fun p=>(na,p))∘fun j=>profM m L (L.getD (a+j) []))=((L.take k).drop a).map (keyS m L):=by
  apply List.ext_getElem
  ·simp;omega
  ·intro i h1 h2
   simp only [List.length_map,List.length_range] at h1
   simp only [List.getElem_map,List.getElem_range,Function.comp,List.getElem_drop,List.getElem_take]
   have hi:a+i<L.length:=by omega
   have hg:L.getD (a+i) []=L[a+i]:=by simp [hi]
   rw [hg]
   unfold keyS
   rw [hn (a+i) (nrm m L[a+i]) (by omega) (by omega) (by simp [hi])]
 rw [hsp,List.map_append,<-h2]
 exact (List.Perm.append_left _ h1)
set_option maxRecDepth 20000 in
theorem fSignature_ok {w0 w:World} {A:Option Addr} {c:Nat} {b u:Int} {m:List (List Int)} {P:List (List Int)->Prop} (hM:MatA w0 A m) (hml:m.length<=1000) (hall:∀r∈m,r.length<=m.length)
  (hvec:∀W,Ext w0 W->Calls Tryz.prog 60 #[.slice A m.length c,.int .i64 b,.int .i64 u] W (RetVQ W P))
  (hP:∀L,P L->PrfL m L/\(∀x∈L,InnB m L x)/\Sh20 m L) [hx:Ext w0 w]:
  Calls Tryz.prog 19 #[.slice A m.length c,.int .i64 b,.int .i64 u] w (RetSig w m P):=by
 have hPN:∀L,P L->L.length<=100000/\(∀y∈L,y.length=m.length)/\∀y∈L,-9223372036854775808<=nrm m y/\nrm m y<=9223372036854775807:=fun L hL=>by
  obtain ⟨⟨h1,h2,-,h4⟩,-⟩:=hP L hL
  exact ⟨h1,h2,fun y hy=>by have :=h4 y hy;omega⟩
 have HNS:Hid (∀W,Ext w0 W->Calls Tryz.prog 35 #[.slice A m.length c,.int .i64 b,.int .i64 u] W (RetSys W m P)):=Lib.hid (fun W e=>newSystem_ok (w:=W) hM hml hall hvec hPN)
 have HPR:Hid (∀(W0 W:World) (LA NA DA XA:Option Addr) (lc nc dc xc mb q:Nat) (L:List (List Int)) (x:List Int),P L->x∈L->L.length=q->IntsA W0 XA x->SysV W0 m L LA NA DA->q<=dc->dc<=9223372036854775807->Ext W0 W->W0.heap.size<=mb->MapC W mb 0 []->Calls Tryz.prog 37 #[.agg #[.slice LA q lc,.slice NA q nc,.slice DA q dc],.slice XA m.length xc,.map (some mb)] W (RetPrf W mb (profM m L x))):=Lib.hid (fun W0 W LA NA DA XA lc nc dc xc mb q L x hL hxL hq hX hS h1 h2 e1 hmb hMC=>by
  obtain ⟨hp,hi,-⟩:=hP L hL
  subst hq
  exact fprofile_ok (w0:=W0) (w:=W) hS rfl hp.len h1 h2 rfl hml hp.srt hX (hp.rows x hxL) hp.nb (hi x hxL) hmb hMC)
 have HME:Hid (∀(W0 W:World) (LA NA DA:Option Addr) (lc nc dc mb q a k:Nat) (n:Int) (L:List (List Int)),P L->L.length=q->SysV W0 m L LA NA DA->q<=dc->dc<=9223372036854775807->Ext W0 W->W0.heap.size<=mb->MapC W mb 0 []->a<k->k<=q->(∀(j:Nat) (x:Int),a<=j->j<k->(L.map (nrm m))[j]? =some x->x=n)->Calls Tryz.prog 41 #[.agg #[.slice LA q lc,.slice NA q nc,.slice DA q dc],.int .i64 a,.int .i64 k,.map (some mb)] W (RetMem W mb m L a k)):=Lib.hid (fun W0 W LA NA DA lc nc dc mb q a k n L hL hq hS h1 h2 e1 hmb hMC hak hkq hsh=>by
  obtain ⟨hp,hi,h20⟩:=hP L hL
  subst hq
  exact members_ok (w0:=W0) (w:=W) hS rfl hp.len h1 h2 rfl hml hp.srt hp.rows hp.nb hi hmb hMC hak hkq (h20 a k n hak hkq hsh))
 have HPL:Hid (∀L,P L->PrfL m L):=Lib.hid (fun L hL=>(hP L hL).1)
 clear hPN hvec hP hM hall
 unfold RetSys at HNS
 unfold RetPrf at HPR
 unfold RetMem at HME
 unfold RetSig
 obtain ⟨n,hn⟩:∃n,m.length=n:=⟨_,rfl⟩
 rw [hn] at HNS HPR hml |-
 have HN:=Lib.hid hn
 clear hn
 have hmk:=@run_makeMap Tryz.prog
 go_enter Tryz.func19,Tryz.ntmps19
 go_wp2_with (go_at_call 35;refine (HNS.out _ inferInstance).mono ?_;rintro e w1 ⟨LA,NA,DA,lc,nc,dc,L,rfl,hS,hPL,-,-,-,-,hd1,hd2,hs1⟩;have HSY:=Lib.hid hS;have HP:=Lib.hid hPL;clear hS hPL)
 obtain ⟨q,hq⟩:∃q,L.length=q:=⟨_,rfl⟩
 rw [hq] at hd1
 obtain ⟨wB,hwB⟩:∃wB,wB=w1.alloc (.cells #[.slice LA q lc,.slice NA q nc,.slice DA q dc] 70):=⟨_,rfl⟩
 obtain ⟨wM,hwM⟩:∃wM,wM=wB.alloc (.map #[] 0):=⟨_,rfl⟩
 have hxB:Ext w1 wB:=by rw [hwB];infer_instance
 have hxM:Ext wB wM:=by rw [hwM];infer_instance
 have hsB:wB.heap.size=w1.heap.size+1:=by rw [hwB];simp
 have hsM:wM.heap.size=w1.heap.size+2:=by rw [hwM];simp [hsB]
 have hbx:wB.heap[w1.heap.size]? =some (.cells #[.slice LA q lc,.slice NA q nc,.slice DA q dc] 70 (0,0)):=by rw [hwB];exact heap_alloc_new w1 _
 have HBX:=Lib.hid (heap_of_ext hxM hbx)
 have hm0:MapC wM wB.heap.size 0 []:=by rw [hwM];exact MapC.made wB
 rw [hsB] at hm0
 rw [hq]
 rw [<-hwB,<-hwM]
 obtain ⟨mb,hmb⟩:∃mb,mb=w1.heap.size+1:=⟨_,rfl⟩
 rw [<-hmb] at hm0
 have HM0:=Lib.hid hm0
 have hx1M:Ext w1 wM:=hxB.trans hxM
 have HQ:=Lib.hid hq
 have HSZ:=Lib.hid (And.intro hsM hmb)
 obtain ⟨hqb,hnorm⟩:q<=100000/\Hid (∀y∈L,0<=nrm m y/\nrm m y<=4611686018427387904):=⟨by rw [<-hq];exact (HPL.out L HP.out).len,Lib.hid (HPL.out L HP.out).nb⟩
 try rw [<-hmb]
 clear hwB hwM hsB hsM hbx hm0 hq hmb HNS hmk
 go_loopw [10,12,13,14,16,17] (fun cl s _ _ _ _ wr=>∃(a:Nat) (C:List CE) (A':Option Addr) (c' k:Nat),a<=q/\s= .int .i64 a/\Hid (Bdry (L.map (nrm m)) a)/\cl= .slice A' k c'/\k<=a/\Hid (C.length=k)/\Hid (Own wr wM.heap.size 64 3 A' k c' (ceF C))/\Hid (∀x∈C,x.ok wr)/\Hid (CountOK ltS ((L.take a).map (keyS m L)) (C.map CE.key))/\Hid (MapC wr mb 0 [])/\Hid (Fm mb wM wr)) (fun _ s _ _ _ _ _=>q-(intOf s).toNat)
 case atStart=>exact ⟨0,[],none,0,0,by omega,rfl,Lib.hid (Bdry.zero _),rfl,by omega,Lib.hid rfl,Lib.hid (Own.nil _ _ _ _),Lib.hid (fun x hx=>by simp at hx),Lib.hid CountOK.nil,HM0,Lib.hid (Fm.refl _ _)⟩
 case round=>
  obtain ⟨a,C,A',c',k0,ha,rfl,HB,rfl,hka,HCL,HO,HK,HCT,HM,HF⟩:=hrel
  have hmb1:w1.heap.size<=mb:=by have :=HSZ.out;omega
  have hx1r:Ext w1 wr:=Fm.ext0 hx1M hmb1 HF.out
  obtain ⟨⟨c1,c2,c3⟩,-,c4⟩:=blk3c (HF.out.cells HM0.out HBX.out)
  have oB:Old w1.heap.size wr:=⟨c4⟩
  by_cases hlt:a<q
  ·obtain ⟨y0,hy0⟩:∃y,L[a]? =some y:=⟨_,List.getElem?_eq_getElem (by rw [HQ.out];exact hlt)⟩
   obtain ⟨na,hna⟩:∃v,nrm m y0=v:=⟨_,rfl⟩
   have hnsa:(L.map (nrm m))[a]? =some na:=by rw [List.getElem?_map,hy0,<-hna];rfl
   have hnl:(L.map (nrm m)).length=q:=by rw [List.length_map];exact HQ.out
   have HSH:=Lib.hid (fun W (e:Ext w1 W)=>fshell_any (w:=W) (nc:=nc) (SL:= .slice LA q lc) (SD:= .slice DA q dc) HSY.out.norms hnsa hnl (by omega))
   obtain ⟨bl,ol,B0,cb0,rfl,-,-,-,-,d5⟩:=HSY.out.list.a.at_ (i:=a) (r:=y0) hy0
   obtain ⟨bn,on,na',rfl,hna',n5,n6⟩:=HSY.out.norms.at_ (i:=a) (by omega)
   rw [hnsa] at hna'
   obtain rfl:na=na':=by injection hna'
   have HNSA:=Lib.hid hnsa
   have HNL:=Lib.hid hnl
   have HNA:=Lib.hid (And.intro hy0 hna)
   have oL:Old bl w1:=⟨d5⟩
   have oN:Old bn w1:=⟨n6⟩
   unfold RetShl at HSH
   clear hy0 hna hnsa hnl
   go_upto_region 10 with (go_at_call 40;refine (HSH.out _ inferInstance).mono ?_;rintro e w2 ⟨k,rfl,hk1,hk2,hk3,hk4,hs2⟩;rw [HNL.out] at hk2;have HK3:=Lib.hid hk3;have HK4:=Lib.hid hk4;clear hk3 hk4)
   have hxr2:Ext wr w2:=inferInstance
   have HF2:Hid (Fm mb wM w2):=Lib.hid (HF.out.trans (Fm.of_ext hxr2))
   have HM2:Hid (MapC w2 mb 0 []):=Lib.hid (HM.out.ext hxr2)
   have HO2:Hid (Own w2 wM.heap.size 64 3 A' k0 c' (ceF C)):=Lib.hid (HO.out.ext hxr2)
   have HK2:Hid (∀x∈C,x.ok w2):=Lib.hid (fun x hx=>(HK.out x hx).kp (Kp.of_ext hxr2))
   have HMC:=Lib.hid (HME.out w1 w2 (some ⟨bl,ol,none⟩) (some ⟨bn,on,none⟩) DA lc nc dc mb q a k na L HP.out HQ.out HSY.out hd1 hd2 (hx1r.trans hxr2) hmb1 HM2.out hk1 hk2 HK3.out)
   clear HO HM HF HK HSH
   go_wp2_with (go_at_call 41;refine HMC.out.mono ?_;rintro e w3 ⟨g,c3',els,rfl,hg3,hR3,hE3,hM3,hF3,hMO3⟩)
   obtain ⟨el,hel⟩:∃el,els.length=el:=⟨_,rfl⟩
   rw [hel]
   have HMU:=Lib.hid (mem_uni hMO3 hE3 (by rw [HQ.out];omega))
   have HEL:=Lib.hid hel
   have hel8:el=k-a:=by
    have h1:=HMU.out.1.length_eq
    simp only [List.length_map,List.length_range] at h1
    omega
   have HR3:=Lib.hid hR3
   have HE3:=Lib.hid hE3
   have HM3:=Lib.hid hM3
   have HF3:Hid (Fm mb wM w3):=Lib.hid (HF2.out.trans hF3)
   have HO3:Hid (Own w3 wM.heap.size 64 3 A' k0 c' (ceF C)):=Lib.hid (hF3.own HM2.out HO2.out)
   have HKC:Hid (∀x∈C,x.ok w3):=Lib.hid (fun x hx=>(HK2.out x hx).kp (Kp.of_fm hF3 HM2.out))
   have HLO:Hid (∀s∈(L.take a).map (keyS m L),s.1<na):=Lib.hid (fun s hs=>by
    obtain ⟨y,hy,rfl⟩:=List.mem_map.1 hs
    obtain ⟨i,hi,he⟩:=List.mem_iff_getElem.1 hy
    simp only [List.length_take] at hi
    rw [List.getElem_take] at he
    refine HB.out i a (nrm m y) na (by omega) (Nat.le_refl _) ?_ HNSA.out
    rw [List.getElem?_map,List.getElem?_eq_getElem (by omega),he]
    rfl)
   clear hel hR3 hE3 hM3 hF3 hMO3 HMC HO2 HK2 HME c1 c2 c3 c4 oB
   go_loopw [10,16,17,45] (fun cl _ _ ix wz=>∃(r:Nat) (C':List CE) (A2:Option Addr) (c2' k':Nat),r<=el/\ix= .int .i64 r/\cl= .slice A2 k' c2'/\Hid (C'.length=k')/\k'<=k0+r/\Hid (Own wz wM.heap.size 64 3 A2 k' c2' (ceF C'))/\Hid (∀x∈C',x.ok wz)/\Hid (CountOK ltS ((L.take a).map (keyS m L)++(els.take r).map fun x=>(na,profM m L (L.getD x.i.toNat []))) (C'.map CE.key))/\Hid (MapC wz mb 0 [])/\Hid (Fm mb wM wz)/\Hid (Kp w3 wz)/\(r=0->k'=k0)/\Hid (0<r->∃C0 x,C'=C0++[x]/\x.n=na/\k0<k')) (fun _ _ _ ix _=>el-(intOf ix).toNat)
   case atStart=>exact ⟨0,C,A',c',k0,by omega,rfl,rfl,HCL,by omega,HO3,HKC,Lib.hid (by simpa using HCT.out),HM3,HF3,Lib.hid (Kp.refl _),fun _=>rfl,Lib.hid (fun h=>by omega)⟩
   case round=>
    obtain ⟨r,C',A2,c2',k',hr,rfl,rfl,HCL',hk',HO',HK',HCT',HM',HF',HKP,hr0,HR1⟩:=hrel
    by_cases hrl:r<el
    ·obtain ⟨x,hxr⟩:∃x,els[r]? =some x:=⟨_,List.getElem?_eq_getElem (by rw [HEL.out];exact hrl)⟩
     have hxm:=List.mem_of_getElem? hxr
     obtain ⟨⟨j,hj1,hj2,hxi⟩,halt⟩:=HMU.out.2.1 x hxm
     obtain ⟨y,hy⟩:∃y,L[j]? =some y:=⟨_,List.getElem?_eq_getElem (by rw [HQ.out];omega)⟩
     have hyL:=List.mem_of_getElem? hy
     have hgd:L.getD x.i.toNat []=y:=by rw [hxi];simp [List.getD_eq_getElem?_getD,hy]
     obtain ⟨pr,hpr⟩:∃pr,pr=profM m L y:=⟨_,rfl⟩
     rw [hgd,<-hpr] at halt
     have hprl:pr.length<=100000:=by
      have :=prof_len m L y
      rw [hpr];rw [HQ.out] at this;omega
     have hnext:(els.take (r+1)).map (fun x=>((na,profM m L (L.getD x.i.toNat [])):Ks))=(els.take r).map (fun x=>(na,profM m L (L.getD x.i.toNat [])))++[(na,pr)]:=by
      rw [List.take_add_one,hxr,List.map_append]
      simp only [Option.toList,List.map_cons,List.map_nil,hgd,<-hpr]
     have hord:∀s∈(L.take a).map (keyS m L)++(els.take r).map (fun x=>((na,profM m L (L.getD x.i.toNat [])):Ks)),¬ltS (na,pr) s:=fun s hs hlt=>by
      rcases List.mem_append.1 hs with hs |hs
      ·have h1:=HLO.out s hs
       rcases hlt with h |⟨h,-⟩
       ·simp only at h;omega
       ·simp only at h;omega
      ·obtain ⟨z,hz,rfl⟩:=List.mem_map.1 hs
       obtain ⟨i,hi,he⟩:=List.mem_iff_getElem.1 hz
       simp only [List.length_take] at hi
       rw [List.getElem_take] at he
       have h2:=(List.pairwise_iff_getElem.1 HMU.out.2.2) i r (by omega) (by rw [HEL.out];exact hrl) (by omega)
       have h3:els[r]'(by rw [HEL.out];exact hrl)=x:=(List.getElem?_eq_some_iff.1 hxr).2
       rw [h3,he,hgd,<-hpr] at h2
       rcases hlt with h |⟨-,h⟩
       ·simp only at h;omega
       ·exact h2 h
     have hxok:x.ok wr:=(HE3.out x hxm).kp HKP.out
     obtain ⟨cur,hcg,hcells⟩:=HR3.out.kp HKP.out
     obtain ⟨f0,f1⟩:=hcells r x hxr
     have e0:wr.cell? ⟨g,r*2,none⟩=some (.int .i64 x.i):=by rw [Nat.mul_comm];simpa [World.cell?,hcg] using f0
     have e1:wr.cell? ⟨g,r*2+1,none⟩=some (.slice x.A x.p.length x.c):=by rw [Nat.mul_comm];simpa [World.cell?,hcg] using f1
     have hgl:=lt_of_heap hcg
     have oG:Old g wr:=⟨hgl⟩
     have hx1z:Ext w1 wr:=Fm.ext0 hx1M hmb1 HF'.out
     obtain ⟨⟨c1,c2,c3⟩,-,c4⟩:=blk3c (HF'.out.cells HM0.out HBX.out)
     have oB:Old w1.heap.size wr:=⟨c4⟩
     obtain ⟨xi,xA,xc,xp⟩:=x
     simp only at hxi halt e0 e1
     subst hxi
     have hnx:=Lib.hid hnext
     have HORD:=Lib.hid hord
     have HXR:=Lib.hid hxr
     have HPRE:=Lib.hid hpr
     have HY:=Lib.hid (And.intro hy hyL)
     have HXO:=Lib.hid hxok
     clear hnext hord hxr hpr hy hyL hgd hcells hcg f0 f1 hxok hxm
     have HNZ:Hid (r=0->∀C0 d,C'.map CE.key=C0++[d]->d.1≠(na,pr)):=Lib.hid (fun hrz C0 d he hd=>by
      have hdm:d∈C'.map CE.key:=by rw [he];simp
      have h2:=(HCT'.out.mem d).1 hdm
      have h3:d.1∈(L.take a).map (keyS m L)++(els.take r).map fun x=>(na,profM m L (L.getD x.i.toNat [])):=(@List.count_pos_iff _ instBEqOfDecidableEq inferInstance _ _).1 (by have :=h2.1;rw [h2.2] at this;exact Int.natCast_pos.1 this)
      rw [hrz,List.take_zero,List.map_nil,List.append_nil] at h3
      have h4:=HLO.out _ h3
      rw [hd] at h4
      simp only at h4
      omega)
     have hrb:r<100000:=by omega
     obtain ⟨hb,hcase⟩:∃hb:Bool,(r=0/\k'=k0/\hb=false)∨(k0<k'/\∃(C0:List CE) (z:CE),C'=C0++[z]/\z.n=na/\hb=decide (z.p=xp)):=by
      rcases Nat.eq_zero_or_pos r with h0 |h0
      ·exact ⟨false,.inl ⟨h0,hr0 h0,rfl⟩⟩
      ·obtain ⟨C0,z,h1,h2,h3⟩:=HR1.out h0
       exact ⟨_,.inr ⟨h3,C0,z,h1,h2,rfl⟩⟩
     have HCASE:=Lib.hid hcase
     have HALT:Hid ((xA=none/\xp.length=0/\xc=0/\k'=k0)∨(xA≠none/\xp=pr)):=Lib.hid (by
      rcases halt with ⟨h1,h2,h3,h4⟩ |h
      ·rw [HEL.out] at h4
       exact .inl ⟨h1,by rw [h3];rfl,h2,hr0 (by omega)⟩
      ·exact .inr h)
     obtain ⟨pl,hpl⟩:∃pl,pr.length=pl:=⟨_,rfl⟩
     obtain ⟨xl,hxl⟩:∃xl,xp.length=xl:=⟨_,rfl⟩
     have hxlb:xl<=100000:=by
      rcases halt with ⟨-,-,h3,-⟩ |⟨-,h⟩
      ·rw [h3] at hxl;simp at hxl;omega
      ·rw [h] at hxl;omega
     have HPE:=Lib.hid hpl
     have HXE:=Lib.hid hxl
     rw [hpl] at hprl
     rw [hxl] at e1
     have hwk:IntKind.i64.wrap ((k':Int)-1)=(k':Int)-1:=IntWalk.i64_in _ (by omega)
     obtain ⟨wm,hwm⟩:∃wm,wm=wr.alloc (.cells #[.int .i64 j,.slice xA xl xc] 82):=⟨_,rfl⟩
     have hxm:Ext wr wm:=by rw [hwm];infer_instance
     have hbm:wm.heap[wr.heap.size]? =some (.cells #[.int .i64 j,.slice xA xl xc] 82 (0,0)):=by rw [hwm];exact heap_alloc_new wr _
     have HBM:=Lib.hid hbm
     have hsm:wm.heap.size=wr.heap.size+1:=by rw [hwm];simp
     have HWM:=Lib.hid hwm
     have HSM:=Lib.hid hsm
     obtain ⟨d0,d1,d2,d3,d4⟩:=blk2c hbm
     have oM:Old wr.heap.size wm:=⟨d4⟩
     have HKA:=Lib.hid hel8
     have hji:(j:Int)<(q:Int):=by omega
     clear hcase hel8 hr0 HR1 hwm hbm hsm halt hpl hxl hj1 hj2
     go_upto_region 14 with fail
     rw [<-HWM.out]
     go_cut [65] (fun c W=>c= .bool hb/\Ext wm W)
     case first=>
      rcases HCASE.out with ⟨-,hk,hbf⟩ |⟨hk,C0,z,hC,-,hbd⟩
      ·subst hk
       have hd14:decide ((k':Int)-1≥(k':Int))=false:=by simp;omega
       have hd14b:decide ((k':Int)<=(k':Int)-1)=false:=by simp;omega
       have HBF:=Lib.hid hbf
       clear hbf
       go_quiet (fail)
       go_wp2_with fail
       go_meet
       exact ⟨by rw [HBF.out],inferInstance⟩
      ·obtain ⟨g2,cur2,hA2,-,hh2,-,hcur2,-⟩:=own_classes (HO'.out.ext hxm) (by omega)
       subst hA2
       obtain ⟨kl,hkl⟩:∃kl,k'=kl+1:=⟨k'-1,by omega⟩
       have hc0:C0.length=kl:=by have :=HCL'.out;rw [hC] at this;simp at this;omega
       obtain ⟨-,f1,-⟩:=ceF_get C' kl z (by rw [hC,List.getElem?_append_right (by omega),hc0,Nat.sub_self];rfl)
       have e5:wm.cell? ⟨g2,kl*3+1,none⟩=some (.slice z.A z.p.length z.c):=by simpa [World.cell?,hh2] using hcur2 _ _ f1
       have oG2:Old g2 wm:=⟨lt_of_heap hh2⟩
       have hkt:((k':Int)-1).toNat=kl:=by omega
       have hk0i:(0:Int)<=(k':Int)-1:=by omega
       have hk1i:(k':Int)-1<(k':Int):=by omega
       have hd14:decide ((k':Int)-1≥(k0:Int))=true:=by simp;omega
       have hd14b:decide ((k0:Int)<=(k':Int)-1)=true:=by simp;omega
       have hzok:z.ok wm:=((HK'.out z (by rw [hC];simp)).kp (Kp.of_ext hxm))
       have hxok2:=HXO.out
       have hcz:(cmpP z.p xp==0)=hb:=by
        rw [hbd,Bool.eq_iff_iff]
        simp [cmpP_zero]
       have HCP:=Lib.hid (fun W (e:Ext wm W)=>compareProfiles_any (w:=W) (c:=z.c) (d:=xc) (hzok.ct.ext e) (hxok2.ct.ext (hxm.trans e)) hzok.2 hxok2.2)
       simp only at HCP
       rw [HXE.out] at HCP
       generalize cmpP z.p xp=cv at hcz HCP
       generalize z.p.length=zl at e5 HCP
       clear hkl hC hc0 hbd hzok hxok2 hh2 hcur2 f1 hk
       go_region_with (go_at_call 42;refine (HCP.out _ inferInstance).mono ?_;rintro e w5 ⟨rfl,hG⟩;have hx5:=hG.ext)
       all_goals
        go_wp2_with fail
        go_meet
        exact ⟨rfl,Ext.trans inferInstance hx5⟩
     case rest=>
     obtain ⟨rfl,hxW⟩:=hcut
     obtain ⟨W0,hW0⟩:∃W0,W0=wc:=⟨_,rfl⟩
     rw [<-hW0] at hxW |-
     clear hW0
     have hxrW:Ext wr W0:=hxm.trans hxW
     have d1W:W0.cell? ⟨wr.heap.size,1,none⟩=some (.slice xA xl xc):=(cellE wm).trans d1
     have d0W:W0.cell? ⟨wr.heap.size,0,none⟩=some (.int .i64 j):=(cellE wm).trans d0
     have oMW:Old wr.heap.size W0:=⟨Nat.lt_of_lt_of_le d4 hxW.size⟩
     cases hb with
     |true=>
      obtain ⟨hk,C0,z,hC,hzn,hzp⟩:k0<k'/\∃(C0:List CE) (z:CE),C'=C0++[z]/\z.n=na/\z.p=pr:=by
       rcases HCASE.out with ⟨-,-,h⟩ |⟨hk,C0,z,hC,hzn,hbd⟩
       ·cases h
       ·rcases HALT.out with ⟨-,-,-,h⟩ |⟨-,h⟩
        ·omega
        ·exact ⟨hk,C0,z,hC,hzn,(of_decide_eq_true hbd.symm).trans h⟩
      obtain ⟨g2,cur2,hA2,hg2,hh2,-,hcur2,hset⟩:=own_classes (HO'.out.ext hxrW) (by omega)
      subst hA2
      obtain ⟨kl,hkl⟩:∃kl,k'=kl+1:=⟨k'-1,by omega⟩
      have hc0:C0.length=kl:=by have :=HCL'.out;rw [hC] at this;simp at this;omega
      obtain ⟨-,-,f2⟩:=ceF_get C' kl z (by rw [hC,List.getElem?_append_right (by omega),hc0,Nat.sub_self];rfl)
      have e5:W0.cell? ⟨g2,kl*3+2,none⟩=some (.int .i64 z.N):=by simpa [World.cell?,hh2] using hcur2 _ _ f2
      have e6:W0.frozen? ⟨g2,kl*3+2,none⟩=false:=by simp [World.frozen?,hh2]
      have hkt:((k':Int)-1).toNat=kl:=by omega
      have hk0i:(0:Int)<=(k':Int)-1:=by omega
      have hk1i:(k':Int)-1<(k':Int):=by omega
      have hct:=HCT'.out
      rw [hC,List.map_append] at hct
      have hN:0<z.N/\z.N<=200000:=by
       have h1:=(hct.mem z.key).1 (by simp)
       have h2:=@List.count_le_length _ instBEqOfDecidableEq z.key.1 ((L.take a).map (keyS m L)++(els.take r).map fun x=>((na,profM m L (L.getD x.i.toNat [])):Ks))
       simp only [List.length_append,List.length_map,List.length_take] at h2
       have h3:=h1.2
       have h4:z.key.2=z.N:=rfl
       have h5:=HKA.out
       omega
      have hwN:IntKind.i64.wrap (z.N+1)=z.N+1:=IntWalk.i64_in _ (by omega)
      have HO9:Hid (Own (W0.setCell ⟨g2,kl*3+2,none⟩ (.int .i64 (z.N+1))) wM.heap.size 64 3 (some ⟨g2,0,none⟩) k' c2' (ceF (C0++[{z with N:=z.N+1}]))):=Lib.hid (by
       have h:=hset (kl*3+2) (.int .i64 (z.N+1)) (by rw [ceF_len,HCL'.out];omega)
       rw [ceF_bump,hc0,<-hC]
       exact h)
      have hKp:Kp wr (W0.setCell ⟨g2,kl*3+2,none⟩ (.int .i64 (z.N+1))):=(Kp.of_ext hxrW).trans (Kp.of_set hh2 rfl _)
      have HK9:Hid (∀x∈C0++[{z with N:=z.N+1}],x.ok (W0.setCell ⟨g2,kl*3+2,none⟩ (.int .i64 (z.N+1)))):=Lib.hid (fun x hx=>by
       rcases List.mem_append.1 hx with hx |hx
       ·exact (HK'.out x (by rw [hC];simp [hx])).kp hKp
       ·rw [List.mem_singleton.1 hx]
        exact CE.ok.kp (x:=z) (HK'.out z (by rw [hC];simp)) hKp)
      have HC9:Hid (CountOK ltS ((L.take a).map (keyS m L)++(els.take (r+1)).map fun x=>(na,profM m L (L.getD x.i.toNat []))) ((C0++[{z with N:=z.N+1}]).map CE.key)):=Lib.hid (by
       rw [hnx.out,<-List.append_assoc,List.map_append]
       have hkz:CE.key z=((na,pr),z.N):=by rw [<-hzn,<-hzp];rfl
       simp only [List.map_cons,List.map_nil,hkz] at hct
       have h:=hct.hit ltS_sto
       rw [<-hzn,<-hzp] at h |-
       exact h)
      have hmne:mb≠g2:=by have :=HSZ.out;omega
      have HM9:Hid (MapC (W0.setCell ⟨g2,kl*3+2,none⟩ (.int .i64 (z.N+1))) mb 0 []):=Lib.hid ((HM'.out.ext hxrW).at_block (Below.heap_setCell W0 _ _ mb hmne))
      have HF9:Hid (Fm mb wM (W0.setCell ⟨g2,kl*3+2,none⟩ (.int .i64 (z.N+1)))):=Lib.hid ((HF'.out.trans (Fm.of_ext hxrW)).new (Below.setAt W0 hg2 _))
      have HP9:=Lib.hid (HKP.out.trans hKp)
      have HL9:Hid ((C0++[{z with N:=z.N+1}]).length=k'):=Lib.hid (by simp [hc0,hkl])
      have HZN:=Lib.hid hzn
      have oG2:Old g2 W0:=⟨lt_of_heap hh2⟩
      clear hKp hset hct hC hc0 hzn hzp hcur2 hh2 f2 hkl HCASE HNZ
      go_wp2_with fail
      exact ⟨⟨r+1,C0++[{z with N:=z.N+1}],some ⟨g2,0,none⟩,c2',k',by omega,by go_num,rfl,HL9,by omega,HO9,HK9,HC9,HM9,HF9,HP9,fun h=>by omega,Lib.hid (fun _=>⟨C0,_,rfl,HZN.out,hk⟩)⟩,by simp [intOf];omega⟩
     |false=>
      have HNF:Hid (∀C1 d,C'.map CE.key=C1++[d]->d.1≠(na,pr)):=Lib.hid (by
       rcases HCASE.out with ⟨h1,-,-⟩ |⟨hk,C0,z,hC,-,hbd⟩
       ·exact HNZ.out h1
       ·intro C1 d he hd
        rcases HALT.out with ⟨-,-,-,h⟩ |⟨-,h⟩
        ·omega
        ·rw [hC,List.map_append] at he
         obtain ⟨-,he⟩:=List.append_inj' he rfl
         injection he with he
         rw [<-he] at hd
         refine of_decide_eq_false hbd.symm ?_
         rw [h]
         exact congrArg Prod.snd hd)
      have hk0k:k0<=k':=by rcases HCASE.out with ⟨-,h,-⟩ |⟨h,-⟩<;>omega
      clear HCASE HNZ
      go_upto_region 16 with fail
      obtain ⟨nb,hnb⟩:∃nb:Bool,nb=xA.isNone:=⟨_,rfl⟩
      have HNB:=Lib.hid hnb
      clear hnb
      go_cut [76] (fun c W=>c= .bool nb/\W=W0)
      case first=>
       have hq0:=run_eql_nil (P:=Tryz.prog) Tryz.underlying30
       go_wp2_with fail
       go_meet
       exact ⟨by rw [HNB.out],rfl⟩
      case rest=>
      obtain ⟨rfl,hW⟩:=hcut
      rw [hW]
      clear hW
      go_upto_if 76 with fail
      go_cut [] (fun W=>∃A5 c5,Hid (W.heap[wr.heap.size]? =some (.cells #[.int .i64 j,.slice A5 pl c5] 82 (0,0)))/\Hid (Arr W A5 45 (ctF pr))/\Hid (MapC W mb 0 [])/\Hid (Fm mb wr W))
      case first=>
       cases nb with
       |false=>
        rcases HALT.out with ⟨h,-⟩ |⟨-,h⟩
        ·rw [h] at HNB;exact absurd HNB.out (by simp)
        ·have hpe:=HXE.out
         rw [h,HPE.out] at hpe
         subst hpe
         have har:=HXO.out.1
         simp only at har
         rw [h] at har
         have HRES:Hid (∃A5 c5,Hid (W0.heap[wr.heap.size]? =some (.cells #[.int .i64 j,.slice A5 pl c5] 82 (0,0)))/\Hid (Arr W0 A5 45 (ctF pr))/\Hid (MapC W0 mb 0 [])/\Hid (Fm mb wr W0)):=Lib.hid ⟨xA,xc,Lib.hid (heap_of_ext hxW HBM.out),Lib.hid (har.ext hxrW),Lib.hid (HM'.out.ext hxrW),Lib.hid (Fm.of_ext hxrW)⟩
         clear har h
         go_wp2_with fail
         go_meet
         exact HRES.out
       |true=>
        rcases HALT.out with ⟨-,h2,-,-⟩ |⟨h,-⟩
        ·rw [HXE.out] at h2
         obtain ⟨bl',ol',B,cb,hA,g0,hB,g2,g3,g4⟩:=HSY.out.list.a.at_ HY.out.1
         injection hA with hA
         injection hA with z1 z2
         subst z1 z2
         rw [(HPL.out L HP.out).rows y HY.out.2,HN.out] at g0 g2
         have hx1W:Ext w1 W0:=hx1z.trans hxrW
         have g0':W0.cell? ⟨bl,ol+j,none⟩=some (.slice B n cb):=(cellE w1).trans g0
         have oLW:Old bl W0:=⟨Nat.lt_of_lt_of_le g4 hx1W.size⟩
         have hFm0:Fm mb wM W0:=HF'.out.trans (Fm.of_ext hxrW)
         obtain ⟨⟨h1',h2',h3'⟩,-,h4'⟩:=blk3c (hFm0.cells HM0.out HBX.out)
         have oBW:Old w1.heap.size W0:=⟨h4'⟩
         have HMW:Hid (MapC W0 mb 0 []):=Lib.hid (HM'.out.ext hxrW)
         have HBW:Hid (W0.heap[wr.heap.size]? =some (.cells #[.int .i64 j,.slice xA xl xc] 82 (0,0))):=Lib.hid (heap_of_ext hxW HBM.out)
         have HPRC:Hid (∀W,Ext w1 W->MapC W mb 0 []->Calls Tryz.prog 37 #[.agg #[.slice (some ⟨bl,ol,none⟩) q lc,.slice (some ⟨bn,on,none⟩) q nc,.slice DA q dc],.slice B n cb,.map (some mb)] W (RetPrf W mb pr)):=Lib.hid (fun W e hMC=>by
          rw [HPRE.out]
          exact HPR.out w1 W (some ⟨bl,ol,none⟩) (some ⟨bn,on,none⟩) DA B lc nc dc cb mb q L y HP.out HY.out.2 HQ.out hB HSY.out hd1 hd2 e hmb1 hMC)
         unfold RetPrf at HPRC
         rw [HPE.out] at HPRC
         have HXW:=Lib.hid hxrW
         clear hB g0 HPR h2 hFm0 hxrW hx1z c1 c2 c3 c4 oB e0 e1 hxm HSM
         go_wp2_with fail
         go_region_law (first
          |(go_simp;go_at_call 37;refine (HPRC.out _ inferInstance (HMW.out.ext inferInstance)).mono ?_;rintro e w5 ⟨A5,c5,rfl,hO5,hM5,hF5⟩;have hb5:=hF5.cells (HMW.out.ext inferInstance) (heap_of_ext (inferInstance:Ext W0 _) HBW.out);have HB5:=Lib.hid hb5;obtain ⟨d0,d1,d2,d3,d4⟩:=blk2c hb5;have oX:Old wr.heap.size w5:=⟨d4⟩;have HO5:=Lib.hid hO5;have HM5:=Lib.hid hM5;have HF5:=Lib.hid hF5;have hs5:=hF5.size;clear hO5 hM5 hF5 hb5))
         all_goals
          have hr5:Fm mb wr w5:=(Fm.of_ext (HXW.out.trans inferInstance)).trans HF5.out
          have hrW:Fm mb wr (w5.setCell ⟨wr.heap.size,1,none⟩ (.slice A5 pl c5)):=hr5.new (Below.setAt (n:=wr.heap.size) (p:=⟨wr.heap.size,1,none⟩) w5 (Nat.le_refl _) _)
          have hbW:=heap_setCell_self (i:=1) HB5.out (.slice A5 pl c5)
          have hmW:MapC (w5.setCell ⟨wr.heap.size,1,none⟩ (.slice A5 pl c5)) mb 0 []:=HM5.out.at_block (Below.heap_setCell w5 _ _ mb (Nat.ne_of_lt HM'.out.lt))
          have haW:Arr (w5.setCell ⟨wr.heap.size,1,none⟩ (.slice A5 pl c5)) A5 45 (ctF pr):=(HO5.out.far (p:=⟨wr.heap.size,1,none⟩) HB5.out (by decide) (.slice A5 pl c5)).arr
          have HRES:=Lib.hid (And.intro hbW (And.intro haW (And.intro hmW hrW)))
          clear hr5 hrW hbW hmW haW HB5 HO5 HM5 HF5
          go_wp2_with fail
          go_meet
          exact ⟨A5,c5,Lib.hid HRES.out.1,Lib.hid HRES.out.2.1,Lib.hid HRES.out.2.2.1,Lib.hid HRES.out.2.2.2⟩
        ·have hn:=HNB.out
         cases xA with
         |none=>exact absurd rfl h
         |some a=>cases hn
      case rest=>
      obtain ⟨A5,c5,HB5,HA5,HM5,HF5⟩:=hcut
      obtain ⟨W,hW⟩:∃W,W=wc:=⟨_,rfl⟩
      rw [<-hW] at HB5 HA5 HM5 HF5 |-
      clear hW d0W d1W oMW hxW hxrW e0 e1 oG hgl
      obtain ⟨d0',d1',-,-,d4'⟩:=blk2c HB5.out
      have hrW:=HF5.out
      have HFW:Hid (Fm mb wM W):=Lib.hid (HF'.out.trans hrW)
      have HOW:Hid (Own W wM.heap.size 64 3 A2 k' c2' (ceF C')):=Lib.hid (hrW.own HM'.out HO'.out)
      have HPW:Hid (Kp w3 W):=Lib.hid (HKP.out.trans (Kp.of_fm hrW HM'.out))
      have HKW:Hid (∀x∈C',x.ok W):=Lib.hid (fun x hx=>(HK'.out x hx).kp (Kp.of_fm hrW HM'.out))
      obtain ⟨⟨h1',h2',h3'⟩,-,h4'⟩:=blk3c (HFW.out.cells HM0.out HBX.out)
      have oBW:Old w1.heap.size W:=⟨h4'⟩
      have oXW:Old wr.heap.size W:=⟨d4'⟩
      have hx1W:Ext w1 W:=Fm.ext0 hx1M hmb1 HFW.out
      have hsW:=HFW.out.size
      have n5W:W.cell? ⟨bn,on+a,none⟩=some (.int .i64 na):=(cellE w1).trans n5
      have hkb:k'<=300000:=by have :=HKA.out;omega
      clear hrW c1 c2 c3 c4 oB HF' HM' HO' HK' HKP hx1z
      go_wp2_with fail
      go_region_law ((refine step_app _ rfl (.tmp 87) (.tmp 96) 37 rfl wM.heap.size 64 (.agg #[.int .i64 0,.slice none 0 0,.int .i64 0]) 3 40 Tryz.underlying37 infoCl rfl (by decide) (by decide) A2 k' c2' (ceF C') (by simp [Act.eval]) (HOW.out.ext inferInstance) (some ⟨W.drew.heap.size,0,none⟩) 1 1 [.int .i64 na,.slice A5 pl c5,.int .i64 1] (by simp [Act.eval]) (Arr.new W.drew 64 #[.int .i64 na,.slice A5 pl c5,.int .i64 1]) rfl (by simp [Value.oneCell']) (by omega) (by simp;omega) ?_);intro A9 c9 w9 hown9 hg9)
      all_goals
       have hxa:Ext W (W.drew.alloc (.cells #[.int .i64 na,.slice A5 pl c5,.int .i64 1] 64)):=(inferInstance:Ext W W.drew).trans inferInstance
       have hK9:Kp W w9:=(Kp.of_ext hxa).trans (Kp.of_grow hg9)
       have hcf:ceF (C'++[⟨na,A5,c5,pr,1⟩])=ceF C'++[.int .i64 na,.slice A5 pl c5,.int .i64 1]:=by rw [ceF_append,<-HPE.out];rfl
       have hO9:Own w9 wM.heap.size 64 3 A9 (k'+1) c9 (ceF (C'++[⟨na,A5,c5,pr,1⟩])):=by rw [hcf];exact hown9
       have hM9:MapC w9 mb 0 []:=(HM5.out.ext hxa).grow hg9
       have hF9:Fm mb wM w9:=(HFW.out.trans (Fm.of_ext hxa)).new hg9.below
       have hok9:∀x∈C'++[(⟨na,A5,c5,pr,1⟩:CE)],x.ok w9:=fun x hx=>by
        rcases List.mem_append.1 hx with hx |hx
        ·exact (HKW.out x hx).kp hK9
        ·rw [List.mem_singleton.1 hx]
         exact CE.ok.kp (w:=W) ⟨HA5.out,by simp only [HPE.out];omega⟩ hK9
       have hct9:CountOK ltS ((L.take a).map (keyS m L)++(els.take (r+1)).map fun x=>(na,profM m L (L.getD x.i.toNat []))) ((C'++[(⟨na,A5,c5,pr,1⟩:CE)]).map CE.key):=by
        rw [hnx.out,<-List.append_assoc,List.map_append]
        exact HCT'.out.fresh ltS_sto HORD.out HNF.out
       have HO9:=Lib.hid hO9
       have HM9:=Lib.hid hM9
       have HF9:=Lib.hid hF9
       have HK9:=Lib.hid hok9
       have HC9:=Lib.hid hct9
       have HP9:=Lib.hid (HPW.out.trans hK9)
       clear hxa hK9 hcf hO9 hM9 hF9 hok9 hct9 hown9 hg9
       go_wp2_with fail
       exact ⟨⟨r+1,C'++[⟨na,A5,c5,pr,1⟩],A9,c9,k'+1,by omega,by go_num,rfl,Lib.hid (by rw [List.length_append,HCL'.out];rfl),by omega,HO9,HK9,HC9,HM9,HF9,HP9,fun h=>by omega,Lib.hid (fun _=>⟨C',_,rfl,rfl,by omega⟩)⟩,by simp [intOf];omega⟩
    ·obtain rfl:r=el:=by omega
     go_wp2_with fail
     have hbd:Bdry (L.map (nrm m)) k:=Bdry.end_ (HPL.out L HP.out).srt hk1 HNSA.out (fun i y h1 h2 h3=>HK3.out i y h1 h2 h3) HK4.out
     have hct:=HCT'.out
     rw [List.take_of_length_le (l:=els) (by rw [HEL.out];exact Nat.le_refl _)] at hct
     have hct2:CountOK ltS ((L.take k).map (keyS m L)) (C'.map CE.key):=hct.perm (shell_keys (by rw [HQ.out];omega) (by omega) HK3.out HMU.out.1)
     exact ⟨⟨k,C',A2,c2',k',hk2,rfl,Lib.hid hbd,rfl,by omega,HCL',HO',HK',Lib.hid hct2,HM',HF'⟩,by simp [intOf];omega⟩
  ·obtain rfl:a=q:=by omega
   clear hlt
   have hfin:L.take a=L:=List.take_of_length_le (by rw [HQ.out];exact Nat.le_refl _)
   have HCT2:=HCT.out
   rw [hfin] at HCT2
   go_wp2_with fail
   go_ret2
   have hsz:=HSZ.out
   have hsz1:=hs1.ext.size
   have hxx:Ext w wr:=Fm.ext0 (hs1.ext.trans hx1M) (by omega) HF.out
   refine ⟨A',c',L,C,by rw [HCL.out];rfl,HP.out,?_,HK.out,HCT2,hxx.toStep⟩
   rw [HCL.out]
   exact HO.out.lower (by omega)
def prf_m2:List Ct:=[((2,1),2),((2,2),1)]
theorem prof_m2:∀y∈vecs_m2,profM m2 vecs_m2 y=prf_m2:=by decide
theorem cls_m2:countL ltS (vecs_m2.map (keyS m2 vecs_m2))=[((2,prf_m2),3)]:=by decide
theorem prfL_m2:PrfL m2 vecs_m2:=⟨by decide,by decide,by decide,by decide⟩
theorem innB_m2:∀x∈vecs_m2,InnB m2 vecs_m2 x:=by unfold InnB;decide
theorem sh20_m2:Sh20 m2 vecs_m2:=fun a k n h1 h2 _=>by
 have :vecs_m2.length=3:=rfl
 omega
theorem vecs_m2_any {W:World} {A:Option Addr} (hM:Mat64 W A m2):Calls Tryz.prog 60 #[.slice A 2 2,.int .i64 2,.int .i64 100] W (RetVQ W fun L=>L=vecs_m2):=
 (Vectors_ok (w0:=W) (w:=W) (c:=2) (st:=[3,7]) hM.a (by decide) (by decide) enum_m2 steps_m2 (by decide) (by decide) (by decide) (by decide) (by decide)).mono fun e w' ⟨B,c,L,he,h1,h2,h3,hp,hw,hs⟩=>by
  obtain rfl:=sorted_m2 hp hw
  exact ⟨B,c,_,_,he,h1,h2,h3,rfl,hs⟩
theorem awkP {W:World} {A X:Option Addr} (hM:Mat64 W A m2) (hX:Ints W X 2 .i64 [1,0]):
  Calls Tryz.prog 15 #[.slice A 2 2,.int .i64 2,.int .i64 100,.slice X 2 2] W fun e w'=>∃B c,e= .returned (.tuple #[.slice B 2 c,.int .i64 0])/\Arr w' B 45 (ctF prf_m2)/\Step W w':=
 (fProfile_ok (w0:=W) (w:=W) (c:=2) (d:=2) (P:=fun L=>L=vecs_m2) hM.a (by decide) (by decide) red_m2 hX rfl (by decide) (by decide) (fun W' e=>vecs_m2_any (hM.ext e)) (fun L hL=>by
  rw [hL]
  exact ⟨prfL_m2,innB_m2 [1,0] (by decide)⟩)).mono fun e w' ⟨B,c,L,he,hL,hO,hs⟩=>by
  rw [hL,prof_m2 [1,0] (by decide)] at he hO
  exact ⟨B,c,he,hO.arr,hs⟩
theorem awkS {W:World} {A:Option Addr} (hM:Mat64 W A m2):
  Calls Tryz.prog 19 #[.slice A 2 2,.int .i64 2,.int .i64 100] W fun e w'=>∃g c D d,e= .returned (.tuple #[.slice (some ⟨g,0,none⟩) 1 c,.int .i64 0])/\w'.cell? ⟨g,0,none⟩=some (.int .i64 2)/\w'.cell? ⟨g,1,none⟩=some (.slice D 2 d)/\w'.cell? ⟨g,2,none⟩=some (.int .i64 3)/\g<w'.heap.size/\Arr w' D 45 (ctF prf_m2)/\Step W w':=
 (fSignature_ok (w0:=W) (w:=W) (c:=2) (P:=fun L=>L=vecs_m2) hM.a (by decide) (by decide) (fun W' e=>vecs_m2_any (hM.ext e)) (fun L hL=>by
  rw [hL]
  exact ⟨prfL_m2,innB_m2,sh20_m2⟩)).mono fun e w' ⟨A,c,L,C,he,hL,hO,hok,hct,hs⟩=>by
  rw [hL] at hct
  have hk:=(hct.unique ltS_sto (countL_ok ltS_sto _)).trans cls_m2
  have hlen:C.length=1:=by have :=congrArg List.length hk;simpa using this
  match C,hlen with
  |[x],_=>
   simp only [List.map_cons,List.map_nil,List.cons.injEq,and_true] at hk
   have e1:x.n=2:=congrArg (fun z=>z.1.1) hk
   have e2:x.p=prf_m2:=congrArg (fun z=>z.1.2) hk
   have e3:x.N=3:=congrArg (fun z=>z.2) hk
   obtain ⟨g,cur,rfl,-,hh,-,hcur,-⟩:=own_classes hO (by simp)
   obtain ⟨f0,f1,f2⟩:=ceF_get [x] 0 x rfl
   rw [e1] at f0
   rw [e2,show prf_m2.length=2 from rfl] at f1
   rw [e3] at f2
   have har:=(hok x (by simp)).1
   rw [e2] at har
   exact ⟨g,c,x.A,x.c,he,by simpa [World.cell?,hh] using hcur _ _ f0,by simpa [World.cell?,hh] using hcur _ _ f1,by simpa [World.cell?,hh] using hcur _ _ f2,lt_of_heap hh,har,hs⟩
set_option maxRecDepth 20000 in
theorem awake15_any {w:World}:Calls Tryz.prog 18 #[] w (RetVal w (.bool true)):=by
 have HSP:Hid (∀W B c D d,Arr W B 45 (ctF prf_m2)->Arr W D 45 (ctF prf_m2)->Calls Tryz.prog 17 #[.slice B 2 c,.slice D 2 d] W (RetVal W (.bool true))):=Lib.hid (fun W B c D d h1 h2=>by
  have h:=rSameP_any (w0:=W) (w:=W) (c:=c) (d:=d) (p:=prf_m2) (q:=prf_m2) ⟨_,h1⟩ ⟨_,h2⟩ (by decide) (by decide)
  rw [decide_eq_true rfl] at h
  exact h)
 have HPF:=Lib.hid (fun W A X (h1:Mat64 W A m2) (h2:Ints W X 2 .i64 [1,0])=>awkP h1 h2)
 have HSG:=Lib.hid (fun W A (h1:Mat64 W A m2)=>awkS h1)
 have HX10:Hid (∀(W:World) (n:Nat) [Sz W n],Ints (W.alloc (.cells #[.int .i64 1,.int .i64 0] 2)) (some ⟨n,0,none⟩) 2 .i64 [1,0]):=Lib.hid (fun W n h=>by rw [<-h.eq];exact Arr.new W 2 #[.int .i64 1,.int .i64 0])
 have HLT:Hid (∀(W:World) (n:Nat) [Sz W n],Arr (W.alloc (.cells #[.int .i64 2,.int .i64 1,.int .i64 2,.int .i64 2,.int .i64 2,.int .i64 1] 45)) (some ⟨n,0,none⟩) 45 (ctF prf_m2)):=Lib.hid (fun W n h=>by rw [<-h.eq];exact Arr.new W 45 #[.int .i64 2,.int .i64 1,.int .i64 2,.int .i64 2,.int .i64 2,.int .i64 1])
 have k1:True:=trivial
 go_enter Tryz.func18,Tryz.ntmps18
 go_wp2_with (first
  |(go_at_call 15;refine (HPF.out _ _ _ ((mat22 w 2 1 1 2).ext inferInstance) (HX10.out _ _)).mono ?_;rintro e w1 ⟨B1,c1,rfl,hA1,hs1⟩)
  |(go_at_call 19;refine (HSG.out _ _ ((mat22 w 2 1 1 2).ext inferInstance)).mono ?_;rintro e w2 ⟨g,c2,D,d,rfl,q0,q1,q2,q3,hA2,hs2⟩;have oG:Old g w2:=⟨q3⟩)
  |(go_at_call 17;have _t:=k1;clear _t k1;refine (HSP.out _ _ _ _ _ (hA1.ext inferInstance) (HLT.out _ _)).mono ?_;rintro e w3 ⟨rfl,hs3⟩)
  |(go_at_call 17;refine (HSP.out _ _ _ _ _ (hA2.ext inferInstance) (hA1.ext inferInstance)).mono ?_;rintro e w4 ⟨rfl,hs4⟩))
 go_ret
 exact ⟨rfl,Step.of _ _⟩
end Go.Proofs.YtcmkopogafchiaaGreat
