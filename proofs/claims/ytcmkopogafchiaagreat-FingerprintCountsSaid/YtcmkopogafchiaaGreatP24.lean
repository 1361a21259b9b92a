/- Fp7 Fp8 Fp9 Fp10 Fp11 Fp12 -/
import Derived.Test.YtcmkopogafchiaaGreatP23
set_option maxHeartbeats 8000000
set_option linter.unusedVariables false
set_option linter.unusedSimpArgs false
set_option linter.constructorNameAsVariable false
namespace Go.Proofs.YtcmkopogafchiaaGreat
open Go.RowKit
open List (map_map mem_map count_pos_iff length_append getElem?_take getElem?_map length_map map_append length_take mem_singleton)
variable {p:Addr} {cur:Array Value} {L m:List (List Int)} {x:List Int} {xs:List Value} {a c cap d dc g k lc mb n nc q ze:Nat} {A DA LA NA X:Option Addr} {T:TypeId} {w w' w0:World}
theorem zih (S:List Kc) (k:Kc):S.count k=@List.count Kc instBEqOfDecidableEq k S:=by
 unfold List.count;congr 1
 funext x
 rw [Bool.eq_iff_iff];simp
theorem zpc {S ks:List Kc} {els':List Ct} (hnd:ks.Nodup) (h1:∀k∈ks,k∈S) (h2:∀k∈S,k∈ks) (hp:els'.Perm (ks.map fun k=>(k,(S.count k:Int)))) (hs:els'.Pairwise (fun x y=>¬ZU y x<0)):els'=Qg ZT S:=by
 have hk:(els'.map Prod.fst).Nodup:=by
  have h:=hp.map Prod.fst;rw [map_map] at h;have e:(Prod.fst∘fun k:Kc=>(k,(S.count k:Int)))=id:=rfl;rw [e,List.map_id] at h;exact (h.nodup_iff).2 hnd
 refine CountOK.unique zbb ⟨?_,fun c=>?_⟩ (JN zbb S)
 ·have hk2:els'.Pairwise (fun x y=>x.1≠y.1):=List.pairwise_map.1 hk;refine (hs.and hk2).imp ?_;rintro x y ⟨h,hne⟩;rcases jT y x with ⟨-,h3⟩ |⟨h3,-⟩ |⟨h3,-⟩
  ·exact absurd (show ZU y x<0 by omega) h
  ·exact absurd (by rw [h3]) hne
  ·unfold Zv at h3;unfold ZT;rcases h3 with h3 |⟨h3,h4 |⟨h4,-⟩⟩
   ·exact .inl h3
   ·exact .inr ⟨h3,h4⟩
   ·exact absurd (Prod.ext h3 h4) hne
 ·rw [hp.mem_iff,mem_map];constructor
  ·rintro ⟨k,hk,rfl⟩;have h3:=count_pos_iff.2 (h1 k hk);exact ⟨by show (0:Int)<(S.count k:Int);omega,by show (S.count k:Int)=_;rw [zih]⟩
  ·rintro ⟨h3,h4⟩;obtain ⟨k,n⟩:=c;simp only at h3 h4;rw [<-zih] at h4;exact ⟨k,h2 k (count_pos_iff.1 (by omega)),by rw [h4]⟩
theorem zii {κ:Type} [DecidableEq κ] {lt:κ->κ->Prop} [DecidableRel lt]:∀(p:List (κ×Int)) (k:κ),(Zd lt p k).length<=p.length+1
 |[],k=>by simp [Zd]
 |c::p,k=>by
  have ih:=zii (lt:=lt) p k;unfold Zd;split
  ·simp;omega
  ·split<;>simp
theorem zpd {κ:Type} [DecidableEq κ] {lt:κ->κ->Prop} [DecidableRel lt] (L:List κ):(Qg lt L).length<=L.length:=by
 have key:∀(L:List κ) (p:List (κ×Int)),(L.foldl (fun p q=>Zd lt p q) p).length<=p.length+L.length:=by
  intro L;induction L with
  |nil=>intro p;simp
  |cons k L ih=>
   intro p;have h1:=ih (Zd lt p k);have h2:=zii (lt:=lt) p k;simp only [List.foldl_cons,List.length_cons];omega
 have :=key L [];simpa [Qg] using this
theorem zbg (m L:List (List Int)) (x:List Int):(zE m L x).length<=L.length:=by
 have :=zpd (lt:=ZT) (L.map (QF m x));simpa [zE] using this
theorem zpe {p els els':List Ct} (ho:Own w ze 45 3 (some ⟨g,0,none⟩) n c (zx p++zx els)) (hpe:els'.Perm els)
  {cur':Array Value} (hg:w.heap[g]? =some (.cells cur 45 (0,0))) (hg':w'.heap[g]? =some (.cells cur' 45 (0,0))) (hsz:cur'.size=cur.size) (htl:∀j u,(zx els')[j]? =some u->cur'[p.length*3+j]? =some u) (hhd:∀j,j<p.length*3->cur'[j]? =cur[j]?):
  Own w' ze 45 3 (some ⟨g,0,none⟩) n c (zx p++zx els'):=by
 have hel:els'.length=els.length:=hpe.length_eq;have zrc:=ho.1;rw [length_append,qN,qN] at zrc;rcases ho.2 with ⟨hv,-⟩ |⟨g2,cap,cur2,hv,h1,h2,h3,h4,h5,h6⟩
 ·cases hv
 ·injection hv with z1 z2 z3
  injection z1 with z1
  injection z1 with z1
  subst z1 z3;rw [hg] at h2;injection h2 with h2
  injection h2 with z4
  subst z4;refine ⟨by rw [length_append,qN,qN,hel];exact zrc,.inr ⟨g,c,cur',rfl,h1,hg',h3,h4,by rw [hsz];exact h5,?_⟩⟩;have hcs:n*3<=cur'.size:=by rw [hsz,h5];exact Nat.mul_le_mul_right 3 h3
  apply List.ext_getElem?;intro j;rcases Zl j (n*3) with hj |hj
  ·rw [getElem?_take,if_pos hj,Array.getElem?_toList];rcases Zl j (p.length*3) with hjp |hjp
   ·rw [List.getElem?_append_left (by rw [qN];exact hjp),hhd j hjp];have h7:(cur.toList.take (n*3))[j]? =(zx p++zx els)[j]? :=by rw [h6]
    rw [getElem?_take,if_pos hj,Array.getElem?_toList,List.getElem?_append_left (by rw [qN];exact hjp)] at h7;exact h7
   ·rw [List.getElem?_append_right (by rw [qN];exact hjp),qN];have hjl:j-p.length*3<els'.length*3:=by omega
    have h7:=htl _ _ (zbf els' _ hjl);rw [show p.length*3+(j-p.length*3)=j by omega] at h7;rw [h7,zbf els' _ hjl]
  ·rw [getElem?_take,if_neg (by omega),List.getElem?_eq_none];rw [length_append,qN,qN,hel,zrc];exact hj
theorem zpf (ho:Own w ze 45 3 A n c xs) (h0:0<n):∃(g:Nat) (cur:Array Value),A=some ⟨g,0,none⟩/\ze<=g/\w.heap[g]? =some (.cells cur 45 (0,0))/\n<=c/\∀(j:Nat) (u:Value),xs[j]? =some u->cur[j]? =some u:=by
 rcases ho.2 with ⟨-,hn⟩ |⟨g,cap,cur,hv,h1,h2,h3,h4,h5,h6⟩
 ·omega
 ·injection hv with z1 _ z3
  subst z3;refine ⟨g,cur,z1,h1,h2,h3,fun j u hu=>?_⟩;rw [<-h6,getElem?_take] at hu;split at hu
  ·simpa using hu
  ·cases hu
theorem zat:(Tryz.prog.info? 45).map (fun i=>(i.zero,i.size,i.bytes))=some (some (.agg #[.int .i64 0,.int .i64 0,.int .i64 0]),3,24):=by kernel_rfl
def jE (w:World) (mb:Nat) (p:List Ct) (e:Ending) (w':World):Prop:=
 ∃A c,e= .returned (.slice A p.length c)/\Own w' w.heap.size 45 3 A p.length c (zx p)/\MapC w' mb 0 []/\Fm mb w w'
set_option maxRecDepth 20000 in
theorem zem {XA:Option Addr} {xc:Nat} (hS:SysV w0 m L LA NA DA) (hq:L.length=q) (hq8:q<=100000) (hdc:q<=dc) (zuM:dc<=9223372036854775807) (hmn:m.length=n) (hn:n<=1000)
  (zsW:(L.map (zg m)).Pairwise (·<=·)) (hX:IntsA w0 XA x) (hxn:x.length=n) (hnb:∀y∈L,0<=zg m y/\zg m y<=4611686018427387904) (hib:∀y∈L,-4611686018427387904<=zA (zN m y) x/\zA (zN m y) x<=4611686018427387904)
  (hmb:w0.heap.size<=mb) (hM:MapC w mb 0 []) [hx:Ext w0 w]:
  Calls Tryz.prog 37 #[.agg #[.slice LA q lc,.slice NA q nc,.slice DA q dc],.slice XA n xc,.map (some mb)] w (jE w mb (zE m L x)):=by
 have HS:=Zh hS;have HQ:=Zh hq;have HX:=Zh (And.intro hX hxn);have HSR:=Zh zsW;have HNB:=Zh hnb;have HIB:=Zh hib;have HMN:=Zh hmn;have HM0:=Zh hM;have zwg:=hM.lt;unfold jE;obtain ⟨w1,hw1⟩:∃w1,w1=w.alloc (.cells #[.slice LA q lc,.slice NA q nc,.slice DA q dc] 70):=⟨_,rfl⟩;have hbx:w1.heap[w.heap.size]? =some (.cells #[.slice LA q lc,.slice NA q nc,.slice DA q dc] 70 (0,0)):=by rw [hw1];exact heap_alloc_new w _
 have hx1:Ext w w1:=by rw [hw1];infer_instance
 have HBX:=Zh hbx;have hs1:w1.heap.size=w.heap.size+1:=by rw [hw1];simp
 have HM1:Hid (MapC w1 mb 0 []):=Zh (hM.ext hx1);have zsl:Ext w0 w1:=hx.trans hx1;clear hS hq hX hxn zsW hnb hib hmn hM hbx;go_enter Tryz.func37,Tryz.ntmps37;go_wp2_with fail
 rw [<-hw1];clear hw1;go_loopw [7,8,9,11,12,13,14,15] (fun p s _ _ _ _ _ _ wr=>∃(a pl c:Nat) (A:Option Addr),a<=q/\s= .int .i64 a/\Hid (Bdry (L.map (zg m)) a)/\p= .slice A pl c/\Hid ((zE m (L.take a) x).length=pl)/\Hid (Own wr w1.heap.size 45 3 A pl c (zx (zE m (L.take a) x)))/\Hid (MapC wr mb 0 [])/\Hid (Fm mb w1 wr)) (fun _ s _ _ _ _ _ _ _=>q-(intOf s).toNat)
 case atStart=>exact ⟨0,0,0,none,by omega,rfl,Zh (Bdry.zero _),rfl,Zh rfl,Zh (Own.nil _ _ _ _),HM1,Zh (Fm.refl _ _)⟩
 case round=>
  obtain ⟨a,pl,c,A,ha,rfl,HB,rfl,HPL,HO,HM,HF⟩:=hrel;obtain ⟨⟨c1,c2,c3⟩,-,c4⟩:=Qi (HF.out.cells HM1.out HBX.out);have oB:Old w.heap.size wr:=⟨c4⟩;have zrW:Ext w0 wr:=Fm.ext0 zsl hmb HF.out;by_cases hlt:a<q
  ·obtain ⟨y0,hy0⟩:∃y,L[a]? =some y:=⟨_,Ze (by rw [HQ.out];exact hlt)⟩;obtain ⟨na,hna⟩:∃v,zg m y0=v:=⟨_,rfl⟩;have zr2:(L.map (zg m))[a]? =some na:=by rw [getElem?_map,hy0,<-hna];rfl
   have hnl:(L.map (zg m)).length=q:=by rw [length_map];exact HQ.out
   have HSH:=Zh (fun W (e:Ext w0 W)=>zib (w:=W) (nc:=nc) (SL:= .slice LA q lc) (SD:= .slice DA q dc) HS.out.norms zr2 hnl (by omega));obtain ⟨bd,od,B0,cb0,rfl,-,-,-,-,d5⟩:=HS.out.duals.a.at_ (i:=a) (r:=Zy m y0) (by rw [getElem?_map,hy0];rfl);obtain ⟨bn,on,na',rfl,zsX,n5,n6⟩:=HS.out.norms.at_ (i:=a) (by omega);rw [zr2] at zsX;obtain rfl:na=na':=by injection zsX
   have zql:=Zh zr2;have HNL:=Zh hnl;have HNA:=Zh (And.intro hy0 hna);have oD:Old bd w0:=⟨d5⟩;have oN:Old bn w0:=⟨n6⟩;unfold zcf at HSH;clear hy0 hna zr2 hnl;go_upto_region 5 with (go_at_call 40;refine (HSH.out _ Zi).mono ?_;rintro e w2 ⟨k,rfl,hk1,hk2,hk3,hk4,hs2⟩;rw [HNL.out] at hk2;have HK3:=Zh hk3;have HK4:=Zh hk4;clear hk3 hk4)
   have zrS:Ext wr w2:=Zi;have hda:(dc==a)=false:=by simp;omega
   have hkq:k<=dc:=by omega
   go_wp2_with fail
   obtain ⟨l,hl⟩:∃l,l=k-a:=⟨_,rfl⟩;have HL:=Zh hl;have hlq:l<=100000:=by omega
   have HF2:Hid (Fm mb w1 w2):=Zh (HF.out.trans (Fm.of_ext zrS));have HM2:Hid (MapC w2 mb 0 []):=Zh (HM.out.ext zrS);have HO2:Hid (Own w2 w1.heap.size 45 3 A pl c (zx (zE m (L.take a) x))):=Zh (HO.out.ext zrS);try rw [show ((k:Int)-(a:Int)).toNat=l by omega]
   try rw [show k-a=l by omega]
   clear HM HF HO hl;obtain ⟨wo,rfl⟩:∃wo:World,wo=wr:=⟨_,rfl⟩;clear c1 c2 c3 c4;go_loopw [11,12,30] (fun _ _ i wq=>∃j:Nat,j<=l/\i= .int .i64 j/\Hid (MapC wq mb j (((L.drop a).take j).map (QF m x)))/\Hid (Fm mb w2 wq)) (fun _ _ i _=>l-(intOf i).toNat)
   case atStart=>exact ⟨0,by omega,rfl,HM2,Zh (Fm.refl _ _)⟩
   case round=>
    obtain ⟨j,hj,rfl,HMj,HFj⟩:=hrel;have hFq:Fm mb w1 wr:=HF2.out.trans HFj.out;have zwh:Ext w0 wr:=Fm.ext0 zsl hmb hFq;obtain ⟨⟨c1,c2,c3⟩,-,c4⟩:=Qi (hFq.cells HM1.out HBX.out);have oBq:Old w.heap.size wr:=⟨c4⟩;by_cases hjl:j<l
    ·obtain ⟨y,hy⟩:∃y,L[a+j]? =some y:=⟨_,Ze (by rw [HQ.out];have :=HL.out;omega)⟩;obtain ⟨bd',od',B,cb,hA,e0,hB,e2,e3,-⟩:=HS.out.duals.a.at_ (i:=a+j) (r:=Zy m y) (by rw [getElem?_map,hy];rfl);injection hA with hA
     injection hA with z1 z2
     subst z1 z2;have hlA:(Zy m y).length=n:=by simp [Zy];exact HMN.out
     rw [hlA] at e0 e2;have e1:wr.cell? ⟨bd,od+a+j,none⟩=some (.slice B n cb):=by rw [Nat.add_assoc];exact (zh w0).trans e0
     obtain ⟨v,hv⟩:∃v,zA (zN m y) x=v:=⟨_,rfl⟩;have hvb:=HIB.out y (Zm hy);rw [hv] at hvb;have hdw:Z2 (Zy m y) x=v:=by rw [zid];unfold Z2;rw [hv];exact IntWalk.i64_in _ (by omega)
     have HD:=Zh (fun W (e:Ext w0 W)=>zek (w:=W) (c:=cb) (d:=xc) hB HX.out.1 hlA HX.out.2 Zr (by omega));rw [hdw] at HD;have hnv:zg m y=na:=HK3.out (a+j) _ (by omega) (by have :=HL.out;omega) (by rw [getElem?_map,hy];rfl);have zuN:=HNB.out y (Zm hy);rw [hnv] at zuN;obtain ⟨av,hav⟩:∃av,((v.natAbs:Nat):Int)=av:=⟨_,rfl⟩;have zrH:QF m x y=(na,av):=by unfold QF;rw [hnv,hv,hav]
     have hkw:QT (na,av):=by
      have e1:IntKind.i64.min=-9223372036854775808:=rfl;have e2:IntKind.i64.max=9223372036854775807:=rfl;refine ⟨?_,?_⟩<;>simp [Lit.wf]<;>omega
     have hMj:=HMj.out;have hKS:((L.drop a).take (j+1)).map (QF m x)=((L.drop a).take j).map (QF m x)++[(na,av)]:=by
      rw [List.take_add_one,List.getElem?_drop,hy,map_append];simp [zrH]
     have hSl:(((L.drop a).take j).map (QF m x)).length<=j:=by simp;omega
     have HKS:=Zh hKS;clear hKS;generalize ((L.drop a).take j).map (QF m x)=S at*
     have zrR:(S.count (na,av):Int)<=100000:=by have :=List.count_le_length (a:=(na,av)) (l:=S);omega
     have zuO:(Instr.lookup 75 (.map (some mb)) (.agg #[.int .i64 na,.int .i64 av,.int .i64 0]) false).run Tryz.prog wr.drew= .ok (.int .i64 (S.count (na,av))) wr.drew:=MapC.look (w:=wr.drew) hMj hkw;obtain ⟨v0',st,wE,hE',hMid,hgE⟩:=MapC.entry (w:=wr.drew) hMj (by simp [maxLen];omega) (by omega) hkw;have hE:(Instr.mapEntry 75 (.map (some mb)) (.agg #[.int .i64 na,.int .i64 av,.int .i64 0])).run Tryz.prog wr.drew= .ok (.tuple #[v0',goInt st]) wE:=hE'
     have zuP:(Instr.lookup 75 (.map (some mb)) (.agg #[.int .i64 na,.int .i64 av,.int .i64 0]) false).run Tryz.prog wE= .ok (.int .i64 (S.count (na,av))) wE:=hMid.look;obtain ⟨es1,cl1,hb1,hst⟩:=hMid.store;obtain ⟨w3,hS3',hM3,hg3⟩:=hst wE hb1;have hS3:(Instr.entryStore 75 (.map (some mb)) (.int .i64 st) (.int .i64 ((S.count (na,av):Int)+1))).run Tryz.prog wE= .ok () w3:=hS3';clear hS3';have hF3:Fm mb wr w3:=(Fm.of_ext (Zi:Ext wr wr.drew)).trans ((Fm.of_grown hgE).trans (Fm.of_grown hg3))
     have hbn:bn≠mb:=by omega
     have hbw:w.heap.size≠mb:=by omega
     have n5q:wr.cell? ⟨bn,on+a,none⟩=some (.int .i64 na):=(zh w0).trans n5;have n5E:wE.cell? ⟨bn,on+a,none⟩=some (.int .i64 na):=(World.cell?_of_block (hgE.block bn (Nat.lt_of_lt_of_le n6 zwh.size) (fun h=>hbn (by injection h)))).trans n5q;have c2E:wE.cell? ⟨w.heap.size,1,none⟩=some (.slice (some ⟨bn,on,none⟩) q nc):=(World.cell?_of_block (hgE.block w.heap.size c4 (fun h=>hbw (by injection h)))).trans c2
     have hcw:IntKind.i64.wrap ((S.count (na,av):Int)+1)=(S.count (na,av):Int)+1:=IntWalk.i64_in _ (by omega);have HM3:=Zh hM3;have HF3:=Zh hF3;generalize S.count (na,av)=cnt at*
     clear hst hb1 hMid hE' hgE hg3 hM3 hF3 hMj zrH;have HAV:=Zh hav;clear hav hv hdw hkw zuN zrR hy hB e0 hlA hSl;by_cases zrf:v<0
     ·have hwn:IntKind.i64.wrap (-v)=av:=by
       have h1:=HAV.out;rw [IntWalk.i64_in _ (by omega)];omega
      go_upto_region 11 with (go_at_call 62;refine (HD.out _ Zi).mono ?_;rintro e w5 ⟨rfl,rfl⟩)
      go_region
      all_goals
       clear hE zuO zuP hS3 n5q n5E c2E;go_wp2_with fail
       exact ⟨⟨j+1,by omega,by go_num,Zh (by rw [HKS.out];exact HM3.out),Zh (HFj.out.trans HF3.out)⟩,by simp [intOf];omega⟩
     ·have hvn:v=av:=by have h1:=HAV.out;omega
      subst hvn;go_upto_region 11 with (go_at_call 62;refine (HD.out _ Zi).mono ?_;rintro e w5 ⟨rfl,rfl⟩)
      go_region
      all_goals
       clear hE zuO zuP hS3 n5q n5E c2E;go_wp2_with fail
       exact ⟨⟨j+1,by omega,by go_num,Zh (by rw [HKS.out];exact HM3.out),Zh (HFj.out.trans HF3.out)⟩,by simp [intOf];omega⟩
    ·obtain rfl:j=l:=by omega
     clear hjl hj;obtain ⟨S,hS⟩:∃S,S=((L.drop a).take j).map (QF m x):=⟨_,rfl⟩;have HSE:=Zh hS;have hMS:=HMj.out;rw [<-hS] at hMS;clear hS HMj;obtain ⟨wR,cnt0,hR,hRng,hgR,hsR⟩:=hMS.range;have HRng:=Zh hRng;have hc0:cnt0<=j:=hRng.cnt_le;have hxR:Ext wr wR:=⟨⟨hgR.os,hgR.tape,hgR.output,hgR.size,fun b hb=>hgR.block b hb (by simp)⟩⟩;have hOq:Own wr w1.heap.size 45 3 A pl c (zx (zE m (L.take a) x)):=HFj.out.own HM2.out HO2.out
     have hOR:=hOq.ext hxR;have HOR:=Zh hOR;have HFR:Hid (Fm mb w1 wR):=Zh (hFq.trans (Fm.of_ext hxR));obtain ⟨wq,hwq⟩:∃wq:World,wq=wr:=⟨_,rfl⟩;have hrg:w1.heap.size<=wr.heap.size:=hFq.size;obtain ⟨it,hit⟩:∃it,it=wr.heap.size:=⟨_,rfl⟩;rw [<-hit] at hR HRng hrg;have HIT:=Zh hit;clear hOq hOR hRng hgR hMS hwq hit;obtain ⟨P,hP⟩:∃P,P=zE m (L.take a) x:=⟨_,rfl⟩;have HP:=Zh hP;rw [<-hP] at HOR HPL;clear hP HO2
     have zxl:pl<=100000:=by
      have h1:=zbg m (L.take a) x;rw [<-HP.out,HPL.out,length_take] at h1;omega
     go_upto_region 15 with fail
     go_loopw [7,14,15] (fun p _ _ wz=>∃(ks:List Kc) (A':Option Addr) (c' cnt:Nat),p= .slice A' (pl+ks.length) c'/\ks.length+cnt<=cnt0/\Hid (Own wz w1.heap.size 45 3 A' (pl+ks.length) c' (zx P++zx (ks.map fun k=>(k,(S.count k:Int)))))/\Hid (RngC wz mb it j S ks cnt)/\Hid (Fm mb w1 wz)) (fun _ _ _ wz=>wz.rangeLeft mb it)
     case atStart=>exact ⟨[],A,c,cnt0,rfl,by simp,Zh (by have h:=HOR.out;simpa [zx] using h),HRng,HFR⟩
     case round=>
      obtain ⟨ks,A',c',cnt,rfl,hkc,HOz,HRz,HFz⟩:=hrel;have zwi:Ext w0 wr:=Fm.ext0 zsl hmb HFz.out;rcases HRz.out.next 0 with ⟨zrd,zrs⟩ |⟨k1,w5,cnt1,hkS,zrs,hR1,zuQ,hg1,zs3,hen⟩
      ·have hSl:S.length=j:=by
        have h1:=HL.out;have h2:=HQ.out;rw [HSE.out,length_map,length_take,List.length_drop];omega
       have hkl:0<ks.length:=by
        obtain ⟨k0,hk0⟩:∃k0,k0∈S:=⟨S[0]'(by have :=HL.out;omega),List.getElem_mem _⟩;exact List.length_pos_of_mem (zrd k0 hk0)
       obtain ⟨g,cur,rfl,hbg,hgc,hnc,zsx⟩:=zpf HOz.out (by omega);obtain ⟨els,zss⟩:∃els:List Ct,els=ks.map fun k=>(k,(S.count k:Int)):=⟨_,rfl⟩
       have hel:els.length=ks.length:=by rw [zss];simp
       rw [<-zss] at zsx;have zrk:=HOz.out.cap;have HSO:Hid (Calls Tryz.prog 64 #[.slice (some ⟨g,pl*3,none⟩) ks.length (c'-pl),.func (.func 65) #[] #[]] wr fun e w'=>e= .returned (.tuple #[])/\∃(els':List Ct) (cur':Array Value),els'.Perm els/\els'.Pairwise (fun x y=>¬ZU y x<0)/\w'.heap[g]? =some (.cells cur' 45 (0,0))/\cur'.size=cur.size/\(∀j u,(zx els')[j]? =some u->cur'[pl*3+j]? =some u)/\(∀j,j<pl*3->cur'[j]? =cur[j]?)/\(∀b,b<wr.heap.size->b≠g->w'.heap[b]? =wr.heap[b]?)/\∀B,B<=g->Below B wr w'):=Zh (by
        rw [<-hel];refine zpb hgc (fun j' u hu=>zsx _ u ?_) (by omega);rw [List.getElem?_append_right (by rw [qN,HPL.out];omega),qN,HPL.out,show pl*3+j'-pl*3=j' by omega];exact hu)
       have hcp:(c'==pl)=false:=by simp;omega
       have hgm:mb≠g:=fun e=>HRz.out.map.not_cells (by rw [e];exact hgc)
       have HEL:=Zh zss;have zq0:=Zh zrd;have HGC:=Zh hgc;have zuR:mb<wr.heap.size:=HRz.out.map.lt;have zs9:pl+ks.length-pl=ks.length:=by omega
       clear zsx zss hel zrd hgc;go_upto_region 20 with (go_at_call 64;refine HSO.out.mono ?_;rintro e w6 ⟨rfl,els',cur',p1,p2,p3,p4,p5,p6,p7,p8⟩;obtain ⟨wC,hC,hMC,hgC⟩:=(HRz.out.map.at_block (p7 mb zuR hgm)).clear)
       have hM6:=HRz.out.map.at_block (p7 mb zuR hgm);have HM6:=Zh hM6;have HMC:=Zh hMC;have zq1:=Zh hgC;have HP7:=Zh p8;have HP5:=Zh (And.intro p5 p6);have HP2:=Zh (And.intro p1 p2);have HP3:=Zh (And.intro p3 p4);clear hM6 hMC hgC p8 p5 p6 p7 p1 p2 p3 p4 HSO;go_wp2_with fail
       have zrj:Own w6 w1.heap.size 45 3 (some ⟨g,0,none⟩) (pl+ks.length) c' (zx P++zx els'):=zpe (p:=P) (els:=els) (by rw [HEL.out];exact HOz.out) HP2.out.1 HGC.out HP3.out.1 HP3.out.2 (by rw [HPL.out];exact HP5.out.1) (by rw [HPL.out];exact HP5.out.2);have hfC:Fm mb w6 wC:=Fm.of_grown zq1.out;have hownC:=hfC.own HM6.out zrj;have hbd:Bdry (L.map (zg m)) k:=Bdry.end_ HSR.out hk1 zql.out (fun i y h1 h2 h3=>HK3.out i y h1 h2 h3) HK4.out
       have hks:=HRz.out.keys;have hdt:(L.take k).drop a=(L.drop a).take j:=by
        rw [List.drop_take,HL.out]
       have hpr:els'=zE m ((L.take k).drop a) x:=by
        rw [hdt];unfold zE;rw [<-HSE.out];exact zpc hks.1 hks.2 zq0.out (by rw [<-HEL.out];exact HP2.out.1) (HP2.out.2.imp fun h=>by omega)
       have hsh:=zoS (x:=x) (show a<=k by omega) HB.out;rw [<-hpr,<-HP.out] at hsh;have hle:(zE m (L.take k) x).length=pl+ks.length:=by
        rw [hsh,length_append,HPL.out,HP2.out.1.length_eq,HEL.out,length_map]
       refine ⟨⟨k,pl+ks.length,c',some ⟨g,0,none⟩,hk2,rfl,Zh hbd,rfl,Zh hle,Zh ?_,HMC,Zh ((HFz.out.new (HP7.out _ hbg)).trans hfC)⟩,by simp [intOf];omega⟩;rw [hsh,zei];exact hownC
      ·unfold Z9 at zrs hen;have HO5:Hid (Own w5 w1.heap.size 45 3 A' (pl+ks.length) c' (zx P++zx (ks.map fun k=>(k,(S.count k:Int))))):=Zh (zo7 hg1 (fun cs T fr=>HRz.out.iter) HOz.out);have HF5:Hid (Fm mb w1 w5):=Zh (HFz.out.new ⟨hg1.os,hg1.tape,hg1.output,hg1.size,fun b hb=>hg1.block b (Nat.lt_of_lt_of_le hb HFz.out.size) (fun e=>by injection e with e;omega)⟩);have HR5:=Zh hR1;have HLQ:Hid (w5.rangeLeft mb it<wr.rangeLeft mb it):=Zh (by rw [hR1.left_eq,HRz.out.left_eq];exact zuQ)
       have HRS:=Zh (show zx P++zx (ks.map fun k=>(k,(S.count k:Int)))++[.int .i64 k1.1,.int .i64 k1.2,.int .i64 (S.count k1)]=zx P++zx ((ks++[k1]).map fun k=>(k,(S.count k:Int))) by
        rw [map_append,zei,List.append_assoc];rfl)
       generalize hcn:(S.count k1:Int)=cn at*
       have hs5:=HF5.out.size;clear hR1 hg1 hkS zwi zs3;go_upto_region 18 with fail
       go_wp2_with (at_builtin;go_loud (refine zH _ rfl _ _ 30 rfl w1.heap.size 45 (.agg #[.int .i64 0,.int .i64 0,.int .i64 0]) 3 24 Tryz.underlying30 zat rfl (by omega) (by omega) A' (pl+ks.length) c' _ rfl (HO5.out.ext Zi) (some ⟨w5.heap.size+1,0,none⟩) 1 1 [.int .i64 k1.1,.int .i64 k1.2,.int .i64 cn] rfl (by have h:=Arr.new (w5.alloc (.cells #[.int .i64 k1.1,.int .i64 k1.2,.int .i64 cn] 45)) 45 #[.int .i64 k1.1,.int .i64 k1.2,.int .i64 cn];rw [World.size_alloc] at h;exact h) (by simp) (by simp [Value.oneCell']) (by omega) (by simp;omega) ?_);intro A6 c6 w6 zra hg6)
       have hxb:Ext w5 ((w5.alloc (.cells #[.int .i64 k1.1,.int .i64 k1.2,.int .i64 cn] 45)).alloc (.cells #[.int .i64 k1.1,.int .i64 k1.2,.int .i64 cn] 45)):=Zi;have hR6:=(HR5.out.ext hxb).grow hg6;rw [HRS.out] at zra;refine ⟨⟨ks++[k1],A6,c6,cnt1,by simp [Nat.add_assoc],by simp;omega,Zh (by rw [length_append,<-Nat.add_assoc];exact zra),Zh hR6,Zh ((HF5.out.trans (Fm.of_ext hxb)).new (hg6.below.mono Zr))⟩,?_⟩
       rw [hR6.left_eq,HRz.out.left_eq];exact zuQ
  ·obtain rfl:a=q:=by omega
   clear hlt;have zre:L.take a=L:=List.take_of_length_le (by rw [HQ.out];exact Zr);have zqC:=HPL.out;have HO2:=HO.out;rw [zre] at zqC HO2;go_wp2_with fail
   go_ret;rw [zqC];exact ⟨A,c,rfl,HO2.lower (by omega),HM.out,(Fm.of_ext hx1).trans HF.out⟩
theorem zpg (hM:MatA w0 A m) (zrc:m.length<=1099511627776) (hc:m.length<=c) (hc2:c<=9223372036854775807) (hr:Zw m=true) (hX:Ints w0 X 2 .i64 x) (hl:x.length<=1099511627776) [hx:Ext w0 w]:
  Calls Tryz.prog 105 #[.slice A m.length c,.slice X x.length d] w (zw w (.bool (Q5 m.length x))):=by
 have zrC:=fun W (e:Ext w0 W)=>zbt (w:=W) hM zrc hc hc2
 rw [hr] at zrC;have HR:=Zh zrC;have HF:=Zh (fun W (e:Ext w0 W)=>zcK (w:=W) (c:=d) (n:=m.length) hX hl);clear zrC hM hX hr;generalize Q5 m.length x=r at*
 generalize x.length=xl at*
 go_enter Tryz.func105,Tryz.ntmps105;go_wp2_with (first
  |(go_at_call 147;refine (HR.out _ Zi).mono ?_;rintro e w1 ⟨rfl,hs1⟩)
  |(go_at_call 106;refine (HF.out _ Zi).mono ?_;rintro e w2 ⟨rfl,rfl⟩))
 go_ret;exact ⟨rfl,Step.of _ _⟩
theorem zph (hM:MatA w0 A m) (hc:m.length<=c) (hc2:c<=9223372036854775807) (hR:RedM m) (hX:Ints w0 X 2 .i64 x) (hxl:x.length=m.length) (hb:∀y∈x,-1099511627776<=y/\y<=1099511627776) [hx:Ext w0 w]:
  Calls Tryz.prog 36 #[.slice A m.length c,.slice X x.length d] w (zw w (.tuple #[.int .i64 (if QN (zg m x) then zg m x else 0),.bool (QN (zg m x))])):=by
 obtain ⟨u,hu⟩:∃u,u=(if QN (zg m x)=true then zg m x else 0):=⟨_,rfl⟩;obtain ⟨r,hr'⟩:∃r,r=QN (zg m x):=⟨_,rfl⟩;rw [<-hu,<-hr'];have h8:=hR.n8;have zri:Q5 m.length x=true:=by
  rw [zfl hxl];exact J3.2 hb
 have hv:=fun W (e:Ext w0 W)=>zpg (w:=W) (c:=c) (d:=d) hM (by omega) hc hc2 hR.red hX (by omega)
 have hf:=fun W (e:Ext w0 W)=>zcK (w:=W) (c:=d) (n:=m.length) hX (by omega)
 rw [zri] at hv hf;have HV:=Zh hv;have HF:=Zh hf;have HA:=Zh (fun W (e:Ext w0 W)=>zfm (w:=W) (c:=c) (d:=d) hM hX hR.all hxl h8 hR.ent hb);have HD:Hid (∀W Y dy,Ext w0 W->Ints W Y 2 .i64 (zN m x)->Calls Tryz.prog 107 #[.slice X x.length d,.slice Y (zN m x).length dy] W (zw W (.tuple #[.int .i64 u,.bool r]))):=Zh (fun W Y dy e hY=>by
  have h:=zfL (w0:=W) (w:=W) (c:=d) (d:=dy) (hX.ext e) hY (by rw [J5,hxl]) (by omega) hb (fun z hz=>by
   obtain ⟨r,hr,rfl⟩:=mem_map.1 hz;have hb:=J4 (A:=262144) (B:=1099511627776) (by omega) (by omega) r x (hR.ent r hr) hb;have hrl:=hR.all r hr;omega)
  rw [J5,<-hxl];exact h.mono fun e w' ⟨he,hs⟩=>⟨by rw [he,hu,hr'];rfl,hs⟩)
 unfold zcF at HA;clear hu hr';obtain ⟨al,hal⟩:∃al,(zN m x).length=al:=⟨_,rfl⟩;rw [hal] at HA HD;generalize zN m x=Y at*
 clear hv hf zri hM hX hR hb hal;rw [hxl] at*
 generalize m.length=n at*
 have HI:Hid (∀W,Ext w0 W->Calls Tryz.prog 63 #[.slice A n c,.slice X n d,.slice X n d] W (zw W (.tuple #[.int .i64 u,.bool r]))):=Zh (fun W e=>by
  go_enter Tryz.func63,Tryz.ntmps63;go_wp2_with (first
   |(go_at_call 105;refine (HV.out _ Zi).mono ?_;rintro e w1 ⟨rfl,hs1⟩)
   |(go_at_call 106;refine (HF.out _ Zi).mono ?_;rintro e w2 ⟨rfl,rfl⟩)
   |(go_at_call 108;refine (HA.out _ Zi).mono ?_;rintro e w3 ⟨B3,d3,rfl,hI3,-,-,hs3⟩)
   |(go_at_call 107;refine (HD.out _ _ _ Zi hI3).mono ?_;rintro e w4 ⟨rfl,hs4⟩))
  go_ret2
  exact ⟨rfl,Step.of _ _⟩)
 clear HV HF HA HD;go_enter Tryz.func36,Tryz.ntmps36;go_wp2_with (go_at_call 63;refine (HI.out _ Zi).mono ?_;rintro e w1 ⟨rfl,hs1⟩)
 go_ret2
 exact ⟨rfl,Step.of _ _⟩
structure PrfL (m L:List (List Int)):Prop where
 len:L.length<=100000
 zc:∀y∈L,y.length=m.length
 srt:(L.map (zg m)).Pairwise (·<=·)
 nb:∀y∈L,0<=zg m y/\zg m y<=4611686018427387904
def JP (m L:List (List Int)) (x:List Int):Prop:=∀y∈L,-4611686018427387904<=zA (zN m y) x/\zA (zN m y) x<=4611686018427387904
def zij (w:World) (m:List (List Int)) (P:List (List Int)->Prop) (x:List Int) (e:Ending) (w':World):Prop:=
 ∃A c L,e= .returned (.tuple #[.slice A (zE m L x).length c,.int .i64 0])/\P L/\Own w' w.heap.size 45 3 A (zE m L x).length c (zx (zE m L x))/\Step w w'
set_option maxRecDepth 20000 in
theorem zik {b u:Int} {P:List (List Int)->Prop} (hM:MatA w0 A m) (hc:m.length<=c) (hc2:c<=9223372036854775807) (hR:RedM m) (hX:Ints w0 X 2 .i64 x) (hxl:x.length=m.length) (hb:∀y∈x,-1099511627776<=y/\y<=1099511627776) (hnb:QN (zg m x)=true)
  (zsc:∀W,Ext w0 W->Calls Tryz.prog 60 #[.slice A m.length c,.int .i64 b,.int .i64 u] W (zcg W P)) (hP:∀L,P L->PrfL m L/\JP m L x) [hx:Ext w0 w]:
  Calls Tryz.prog 15 #[.slice A m.length c,.int .i64 b,.int .i64 u,.slice X x.length d] w (zij w m P x):=by
 have h8:=hR.n8;have zrd:∀r∈m,r.length<=m.length:=fun r hr=>Nat.le_of_eq (hR.all r hr)
 have hPN:∀L,P L->L.length<=100000/\(∀y∈L,y.length=m.length)/\∀y∈L,-9223372036854775808<=zg m y/\zg m y<=9223372036854775807:=fun L hL=>by
  obtain ⟨⟨h1,h2,-,h4⟩,-⟩:=hP L hL;exact ⟨h1,h2,fun y hy=>by have :=h4 y hy;omega⟩
 have HNS:Hid (∀W,Ext w0 W->Calls Tryz.prog 35 #[.slice A m.length c,.int .i64 b,.int .i64 u] W (zas W m P)):=Zh (fun W e=>zie (w:=W) hM (by omega) zrd zsc hPN);clear zrd hPN;have hn:=fun W (e:Ext w0 W)=>zph (w:=W) (c:=c) (d:=d) hM hc hc2 hR hX hxl hb
 rw [hnb,if_pos rfl,hxl] at hn;rw [hxl];have HN:=Zh hn;have HPR:Hid (∀(W0 W:World) (LA NA DA:Option Addr) (lc nc dc mb:Nat) (L:List (List Int)),P L->SysV W0 m L LA NA DA->L.length<=dc->dc<=9223372036854775807->Ext w0 W0->Ext W0 W->W0.heap.size<=mb->MapC W mb 0 []->Calls Tryz.prog 37 #[.agg #[.slice LA L.length lc,.slice NA L.length nc,.slice DA L.length dc],.slice X m.length d,.map (some mb)] W (jE W mb (zE m L x))):=Zh (fun W0 W LA NA DA lc nc dc mb L hL hS h1 h2 e0 e1 hmb hMC=>by
  obtain ⟨hp,hi⟩:=hP L hL;have h:=zem (w0:=W0) (w:=W) (lc:=lc) (nc:=nc) (dc:=dc) (xc:=d) (n:=m.length) hS rfl hp.len h1 h2 rfl (by omega) hp.srt ⟨_,hX.ext e0⟩ hxl hp.nb hi hmb hMC;exact h)
 clear hn hP zsc hM hX hb hnb hR hxl;unfold zas at HNS;unfold jE at HPR;unfold zij;generalize m.length=n at*
 have hmk:=@run_makeMap Tryz.prog;go_enter Tryz.func15,Tryz.ntmps15;go_upto_region 7 with (first
  |(go_at_call 35;refine (HNS.out _ Zi).mono ?_;rintro e w1 ⟨LA,NA,DA,lc,nc,dc,L,rfl,hS,hPL,-,-,-,-,hd1,hd2,hs1⟩;have HSY:=Zh hS;have HPL:=Zh hPL;clear hS hPL)
  |(go_at_call 36;refine (HN.out _ Zi).mono ?_;rintro e w2 ⟨rfl,hs2⟩))
 have hx2:Ext w w2:=(Zi:Ext w (w1.alloc (.cells #[.slice LA L.length lc,.slice NA L.length nc,.slice DA L.length dc] 70))).trans Zi;have zsb:Ext w1 w2:=Zi;have HPC:=Zh (HPR.out w2 (w2.alloc (.map #[] 0)) LA NA DA lc nc dc w2.heap.size L HPL.out (HSY.out.ext zsb) hd1 hd2 (hx.trans hx2) Zi Zr (MapC.made w2));clear HPR HN HNS;go_wp2_with (go_at_call 37;refine HPC.out.mono ?_;rintro e w3 ⟨A3,c3,rfl,hO3,hM3,hF3⟩)
 go_ret2
 have hx3:Ext w w3:=Fm.ext0 (hx2.trans Zi) hx2.size hF3;have hsz:=hx2.size;exact ⟨A3,c3,L,rfl,HPL.out,hO3.lower (by simp;omega),hx3.toStep⟩
structure ME where
 i:Int
 A:Option Addr
 c:Nat
 p:List Ct
def ME.enc (x:ME):List Value:=[.int .i64 x.i,.slice x.A x.p.length x.c]
def ME.ok (w:World) (x:ME):Prop:=Arr w x.A 45 (zx x.p)/\x.p.length<=1099511627776
theorem ME.ok.ext {x:ME} (h:x.ok w) (hx:Ext w w'):x.ok w':=⟨h.1.ext hx,h.2⟩
theorem ME.ok.ct {x:ME} (h:x.ok w):CtV w x.A x.p:=⟨_,h.1⟩
theorem GrowD.alloc (w:World) (o:Obj):GrowD w (w.alloc o):=⟨0,#[o],by rw [Sort.alloc_eq_grow];rfl⟩
theorem zpi {x y:ME} (hx:x.ok w) (hy:y.ok w):
  Calls Tryz.prog 68 #[.agg #[.int .i64 x.i,.slice x.A x.p.length x.c],.agg #[.int .i64 y.i,.slice y.A y.p.length y.c]] w fun e w'=>e= .returned (.int .i64 (Zo x.p y.p))/\GrowD w w':=by
 have HC:=Zh (fun W (e:Ext w W)=>zia (w:=W) (c:=x.c) (d:=y.c) (hx.ext e).ct (hy.ext e).ct hx.2 hy.2);obtain ⟨xi,xA,xc,xp⟩:=x;obtain ⟨yi,yA,yc,yp⟩:=y;simp only at HC |-
 generalize Zo xp yp=r at*
 generalize xp.length=xl at*
 generalize yp.length=yl at*
 have hg2:GrowD w ((w.alloc (.cells #[.int .i64 xi,.slice xA xl xc] 82)).alloc (.cells #[.int .i64 yi,.slice yA yl yc] 82)):=(GrowD.alloc w _).trans (GrowD.alloc _ _);clear hx hy;go_enter Tryz.func68,Tryz.ntmps68;go_wp2_with (go_at_call 42;refine (HC.out _ Zi).mono ?_;rintro e w1 ⟨rfl,hG⟩)
 go_ret;exact ⟨rfl,hg2.trans hG⟩
def MRow (w:World) (g:Nat) (els:List ME):Prop:=∃cur,w.heap[g]? =some (.cells cur 82 (0,0))/\∀(i:Nat) (x:ME),els[i]? =some x->cur[2*i]? =some (.int .i64 x.i)/\cur[2*i+1]? =some (.slice x.A x.p.length x.c)
structure MEw (w:World) where
 val:ME
 ok:val.ok w
instance (w:World):Inhabited (MEw w):=⟨⟨⟨0,none,0,[]⟩,Arr.nil,by simp⟩⟩
def jF (w:World) (x:MEw w):List Value:=x.val.enc
def cfM (w:World) (x y:MEw w):Int:=Zo x.val.p y.val.p
theorem zpj (w:World):Sort.SWO (ltOf (cfM w)) where
 irrefl x:=by
  have :=(zhX x.1.p x.1.p).2 rfl;simp [ltOf,cfM,this]
 trans x y z h1 h2:=by
  have h1:Zo x.1.p y.1.p<0:=of_decide_eq_true h1;have h2:Zo y.1.p z.1.p<0:=of_decide_eq_true h2;have a1:zS x.1.p y.1.p=true:=by rw [<-zbd];exact decide_eq_true h1
  have a2:zS y.1.p z.1.p=true:=by rw [<-zbd];exact decide_eq_true h2
  have a3:=Ji a1 a2;rw [<-zbd] at a3;exact a3
 ntrans x y z h1 h2:=by
  have h1:¬Zo x.1.p y.1.p<0:=of_decide_eq_false h1;have h2:¬Zo y.1.p z.1.p<0:=of_decide_eq_false h2;refine decide_eq_false (fun (h3:Zo x.1.p z.1.p<0)=>?_);have a3:zS x.1.p z.1.p=true:=by rw [<-zbd];exact decide_eq_true h3
  have b1:x.1.p=y.1.p∨zS y.1.p x.1.p=true:=by rcases zbc x.1.p y.1.p with ⟨-,h⟩ |⟨h,-⟩ |⟨h,-⟩<;>first |exact .inl h |exact .inr h |omega
  have b2:y.1.p=z.1.p∨zS z.1.p y.1.p=true:=by rcases zbc y.1.p z.1.p with ⟨-,h⟩ |⟨h,-⟩ |⟨h,-⟩<;>first |exact .inl h |exact .inr h |omega
  have no:∀a:List Ct,zS a a=true->False:=fun a h=>by rw [Jh] at h;cases h
  rcases b1 with b1 |b1
  ·rcases b2 with b2 |b2
   ·rw [b1,b2] at a3;exact no _ a3
   ·rw [b1] at a3;exact no _ (Ji a3 b2)
  ·rcases b2 with b2 |b2
   ·rw [<-b2] at a3;exact no _ (Ji a3 b1)
   ·exact no _ (Ji a3 (Ji b2 b1))
theorem ME.ok_sort {α:Type} [Inhabited α] (enc:α->List Value) (k:Nat) {m:Nat} {d:Array α} {os:Array Obj} (hg:w.heap[g]? =some (.cells cur 82 (0,0))) {x:ME} (h:x.ok w):x.ok (sortWorldK enc k w g 0 m d os):=by
 refine ⟨h.1.keep fun b cs fr hb=>zaQ enc k w g m d os (zC hb) (fun hh=>?_),h.2⟩;subst hh;rw [hg] at hb;injection hb with hb
 injection hb with _ he
 exact absurd he (by decide)
theorem zpk {els:List ME} (zrb:MRow w g els) (hok:∀x∈els,x.ok w) (hn:els.length<4611686018427387904):
  Calls Tryz.prog 173 #[.slice (some ⟨g,0,none⟩) els.length cap,.int .i64 0,.int .i64 els.length,.func (.func 68) #[] #[]] w fun e w'=>e= .returned (.tuple #[])/\∃els':List ME,els'.Perm els/\els'.Pairwise (fun x y=>¬Zo y.p x.p<0)/\MRow w' g els'/\(∀x∈els',x.ok w')/\Same g w w':=by
 obtain ⟨cur,hg,zrL⟩:=zrb;obtain ⟨D,hD⟩:∃D:List (MEw w),D.map MEw.val=els:=⟨els.pmap MEw.mk hok,by rw [List.map_pmap];simp⟩;have hDl:D.length=els.length:=by rw [<-hD];simp
 have zsJ:CmpLays Tryz.prog 68 #[] (jF w) 2 (cfM w) g 0 D.toArray.size w:=fun m os dk _ x y=>by
  have hx:=ME.ok_sort (jF w) 2 (m:=m) (d:=dk) (os:=os) hg x.ok;have hy:=ME.ok_sort (jF w) 2 (m:=m) (d:=dk) (os:=os) hg y.ok;exact zpi hx hy
 have hH:Sort.HoldsK (jF w) 2 w g 0 D.toArray:=fun j hj=>by
  rw [Sort.size_flatK] at hj;have hj2:j / 2<D.length:=by simp at hj;omega
  obtain ⟨x,hx⟩:∃x,D[j / 2]? =some x:=⟨_,Ze hj2⟩;have hel:els[j / 2]? =some x.val:=by rw [<-hD,getElem?_map,hx];rfl
  have hc:=zrL (j / 2) _ hel;have e1:(Sort.flatK (jF w) 2 D.toArray)[j]! =(x.val.enc)[j%2]! :=by
   rw [Sort.get_flatK _ _ _ _ (by simpa using hj)];have :D.toArray[j / 2]! =x:=by simp [hx]
   rw [this];rfl
  refine ⟨?_,by simp [World.frozen?,hg]⟩;rw [id,e1,Nat.zero_add,cell_of_row w g j _ _ _ hg];rcases Nat.mod_two_eq_zero_or_one j with h0 |h0
  ·rw [h0];have :=hc.1;rw [show 2*(j / 2)=j by omega] at this;exact this
  ·rw [h0];have :=hc.2;rw [show 2*(j / 2)+1=j by omega] at this;exact this
 have h:=AnyQ.insertionSortCmpFunc (P:=Tryz.prog) Tryz.laysIns 2 Tryz.isAgg82 Tryz.sizeOf82 (jF w) (fun x=>rfl) (fun x v hv=>by
   simp only [jF,ME.enc,List.mem_cons,List.not_mem_nil,or_false] at hv;rcases hv with rfl |rfl<;>rfl) (cfM w) 68 #[] g 0 cap 0 els.length D.toArray w (enters_of Tryz.func68 (by kernel_rfl) rfl) zsJ hH (zC hg) (Nat.zero_le _) (by simp [hDl]) (by simpa [hDl] using hn)
 have e0:D.toArray.size=els.length:=by simpa using hDl
 rw [e0] at h;refine h.mono ?_;rintro e w' ⟨he,n,os,hw⟩;obtain ⟨⟨hp1,-,hp2⟩,hs⟩:=Sort.insertionSort_holds (zpj w) D.toArray 0 els.length (Nat.zero_le _) (by rw [e0];exact Zr);generalize Sort.insertionSort (ltOf (cfM w)) D.toArray 0 els.length=d' at*
 rw [e0] at hp1;refine ⟨he,d'.toList.map MEw.val,?_,?_,?_,?_,?_⟩
 ·have e1:d'.extract 0 els.length=d':=by apply Array.ext';simp;rw [List.take_of_length_le (by simp;omega)]
  have e2:(D.toArray).extract 0 els.length=D.toArray:=by rw [<-e0];exact Array.extract_size
  rw [e1,e2] at hp2;rw [<-hD];exact hp2.map _
 ·rw [List.pairwise_map,List.pairwise_iff_getElem];intro i j hi hj hij;have :=hs i j (Nat.zero_le _) hij (by simp at hj;omega);have e3:d'[j]! =d'.toList[j]:=by simp at hj;simp [hj]
  have e4:d'[i]! =d'.toList[i]:=by simp at hi;simp [hi]
  rw [e3,e4] at this;exact of_decide_eq_false this
 ·refine ⟨_,by rw [hw];exact zfP (jF w) 2 w g n d' os hg,fun i x hx=>?_⟩;rw [getElem?_map] at hx;obtain ⟨y,hy,rfl⟩:∃y,d'.toList[i]? =some y/\y.val=x:=by
   cases hh:d'.toList[i]? with
   |none=>rw [hh] at hx;cases hx
   |some y=>rw [hh] at hx;exact ⟨y,rfl,by simpa using hx⟩
  have hi:i<d'.size:=by simpa using (Zg.1 hy).1
  have hdi:d'[i]! =y:=by
   have :=(Zg.1 hy).2;simp [hi];simpa using this
  have hcs:2*i+1<cur.size:=by
   have zrc:i<els.length:=by omega
   have :=(zrL i els[i] (by simp [zrc])).2;exact (Array.getElem?_eq_some_iff.1 this).1
  have key:∀t,t<2->(Sort.putCells id 0 (Sort.flatK (jF w) 2 d') cur)[2*i+t]? =some ((y.val.enc)[t]!):=fun t ht=>by
   unfold Sort.putCells;rw [Array.getElem?_mapIdx,Array.getElem?_eq_getElem (by omega)];simp only [Option.map_some];rw [if_pos (by rw [Sort.size_flatK];omega),Nat.sub_zero,id,Sort.get_flatK _ _ _ _ (by omega),show (2*i+t) / 2=i by omega,show (2*i+t)%2=t by omega,hdi];rfl
  exact ⟨key 0 (by omega),key 1 (by omega)⟩
 ·intro x hx;obtain ⟨y,-,rfl⟩:=mem_map.1 hx;rw [hw];exact ME.ok_sort (jF w) 2 hg y.ok
 ·rw [hw];exact ⟨fun b hb hne=>zaQ _ _ w g n d' os hb hne,fun B hB=>zfQ _ _ w g n d' os hB (zC hg)⟩
def zbh (w:World) (g:Nat) (els:List ME) (e:Ending) (w':World):Prop:=e= .returned (.tuple #[])/\∃els':List ME,els'.Perm els/\els'.Pairwise (fun x y=>¬Zo y.p x.p<0)/\MRow w' g els'/\(∀x∈els',x.ok w')/\Same g w w'
theorem zpl {els:List ME} (zrb:MRow w g els) (hok:∀x∈els,x.ok w) (hl:els.length=n) (hn:n<20):
  Calls Tryz.prog 113 #[.slice (some ⟨g,0,none⟩) n cap,.int .i64 n,.func (.func 68) #[] #[]] w (zbh w g els):=by
 have hi:=zpk (cap:=cap) zrb hok (by omega);rw [hl] at hi;have HI:=Zh hi;unfold zbh;clear hi zrb hok hl;go_enter Tryz.func113,Tryz.ntmps113;go_wp2_with fail
 go_loopw [7,8] (fun a b wr=>a= .int .i64 0/\b= .int .i64 20/\wr=w) (fun _ _ _=>0)
 case atStart=>exact ⟨rfl,rfl,rfl⟩
 case round=>
  obtain ⟨rfl,rfl,rfl⟩:=hrel;have hd:decide ((20:Int)<=(n:Int))=false:=by simp;omega
  have hd2:decide ((20:Int)<(n:Int))=false:=by simp;omega
  go_wp2_with (go_at_call 173;refine HI.out.mono ?_;rintro e w1 ⟨rfl,hp⟩;have HP:=Zh hp;clear hp)
  go_loopw [6,7,8,9] (fun s _ _ _ wr=>s= .int .i64 20/\wr=w1) (fun _ _ _ _ _=>0)
  case atStart=>exact ⟨rfl,rfl⟩
  case round=>
   obtain ⟨rfl,rfl⟩:=hrel;go_wp2_with fail
   go_end0
   exact ⟨rfl,HP.out⟩
theorem zpm {els:List ME} (zrb:MRow w g els) (hok:∀x∈els,x.ok w) (hl:els.length=n) (hn:n<20):
  Calls Tryz.prog 67 #[.slice (some ⟨g,0,none⟩) n cap,.func (.func 68) #[] #[]] w (zbh w g els):=by
 have HI:=Zh (zpl (cap:=cap) zrb hok hl hn);unfold zbh at*
 clear zrb hok hl;go_enter Tryz.func67,Tryz.ntmps67;go_wp2_with (go_at_call 113;refine HI.out.mono ?_;rintro e w1 ⟨rfl,hp⟩)
 go_end0
 exact ⟨rfl,hp⟩
def zil (m L:List (List Int)) (a k:Nat) (els:List ME):Prop:=
 (k=a+1/\els=[⟨a,none,0,[]⟩])∨(a+1<k/\(els.map fun x=>(x.i,x.p)).Perm ((List.range (k-a)).map fun j=>(((a+j:Nat):Int),zE m L (L.getD (a+j) [])))/\els.Pairwise (fun x y=>¬Zo y.p x.p<0))
def zch (w:World) (mb:Nat) (m L:List (List Int)) (a k:Nat) (e:Ending) (w':World):Prop:=
 ∃g c els,e= .returned (.slice (some ⟨g,0,none⟩) (List.length els) c)/\w.heap.size<=g/\MRow w' g els/\(∀x∈els,x.ok w')/\MapC w' mb 0 []/\Fm mb w w'/\zil m L a k els
def meV (x:ME):List Value:=[.int .i64 x.i,.slice x.A x.p.length x.c]
def ji (l:List ME):List Value:=l.flatMap meV
theorem zpn (p q:List ME):ji (p++q)=ji p++ji q:=List.flatMap_append
theorem zim:∀(p:List ME) (i:Nat) (c:ME),p[i]? =some c->(ji p)[2*i]? =some (.int .i64 c.i)/\(ji p)[2*i+1]? =some (.slice c.A c.p.length c.c)
 |[],i,c,h=>by simp at h
 |y::l,0,c,h=>by simp at h;subst h;exact ⟨rfl,rfl⟩
 |y::l,i+1,c,h=>by
  have :=zim l i c (by simpa using h);rw [show 2*(i+1)=2*i+2 by omega];exact this
theorem zin:(Tryz.prog.info? 82).map (fun i=>(i.zero,i.size,i.bytes))=some (some (.agg #[.int .i64 0,.slice none 0 0]),2,32):=by kernel_rfl
theorem zpo {els:List ME} (ho:Own w ze 82 2 A n c (ji els)) (h0:0<n):∃g:Nat,A=some ⟨g,0,none⟩/\ze<=g/\MRow w g els:=by
 rcases ho.2 with ⟨-,hn⟩ |⟨g,cap,cur,hv,h1,h2,h3,h4,h5,h6⟩
 ·omega
 ·injection hv with z1 _ z3
  refine ⟨g,z1,h1,cur,h2,fun i x hx=>?_⟩;obtain ⟨f0,f1⟩:=zim els i x hx;have key:∀(j:Nat) (u:Value),(ji els)[j]? =some u->cur[j]? =some u:=fun j u hu=>by
   rw [<-h6,getElem?_take] at hu;split at hu
   ·simpa using hu
   ·cases hu
  exact ⟨key _ _ f0,key _ _ f1⟩
theorem Fm.meok {L:List Kc} (h:Fm mb w w') (hm:MapC w mb n L) {x:ME} (hx:x.ok w):x.ok w':=⟨h.arr hm hx.1,hx.2⟩
set_option maxRecDepth 20000 in
theorem zpp (hS:SysV w0 m L LA NA DA) (hq:L.length=q) (hq8:q<=100000) (hdc:q<=dc) (zuM:dc<=9223372036854775807) (hmn:m.length=n) (hn:n<=1000)
  (zsW:(L.map (zg m)).Pairwise (·<=·)) (zrb:∀y∈L,y.length=n) (hnb:∀y∈L,0<=zg m y/\zg m y<=4611686018427387904) (hib:∀x∈L,∀y∈L,-4611686018427387904<=zA (zN m y) x/\zA (zN m y) x<=4611686018427387904)
  (hmb:w0.heap.size<=mb) (hM:MapC w mb 0 []) (hak:a<k) (hkq:k<=q) (h20:k-a<20) [hx:Ext w0 w]:
  Calls Tryz.prog 41 #[.agg #[.slice LA q lc,.slice NA q nc,.slice DA q dc],.int .i64 a,.int .i64 k,.map (some mb)] w (zch w mb m L a k):=by
 have zwg:=hM.lt;have hw1:IntKind.i64.wrap ((a:Int)+1)=(a:Int)+1:=IntWalk.i64_in _ (by omega);obtain ⟨w1,zsy⟩:∃w1,w1=w.alloc (.cells #[.slice LA q lc,.slice NA q nc,.slice DA q dc] 70):=⟨_,rfl⟩;have hbx:w1.heap[w.heap.size]? =some (.cells #[.slice LA q lc,.slice NA q nc,.slice DA q dc] 70 (0,0)):=by rw [zsy];exact heap_alloc_new w _
 have hx1:Ext w w1:=by rw [zsy];infer_instance
 have hs1:w1.heap.size=w.heap.size+1:=by rw [zsy];simp
 have HM1:Hid (MapC w1 mb 0 []):=Zh (hM.ext hx1);have zsl:Ext w0 w1:=hx.trans hx1;have HBX:=Zh hbx;have HS:=Zh hS;have HPR:Hid (∀(W:World) (XA:Option Addr) (xc:Nat) (x:List Int),x∈L->IntsA w0 XA x->Ext w0 W->MapC W mb 0 []->Calls Tryz.prog 37 #[.agg #[.slice LA q lc,.slice NA q nc,.slice DA q dc],.slice XA n xc,.map (some mb)] W (jE W mb (zE m L x))):=Zh (fun W XA xc x hxL hX e hMC=>
  zem (w0:=w0) (w:=W) hS hq hq8 hdc zuM hmn hn zsW hX (zrb x hxL) hnb (hib x hxL) hmb hMC)
 have HQ:=Zh hq;have zp9:=Zh zrb;unfold zch;clear hS hq zsW zrb hnb hib hM hbx;by_cases hk1:k=a+1
 ·have hd:((k:Int)==(a:Int)+1)=true:=by simp [hk1]
  have HK1:=Zh hk1;clear hk1;go_enter Tryz.func41,Tryz.ntmps41;go_wp2_with fail
  go_ret;have hxx:Ext w1 (w1.alloc (.cells #[.int .i64 a,.slice none 0 0] 82)):=Zi;rw [<-zsy];refine ⟨w.heap.size+1,1,[⟨a,none,0,[]⟩],rfl,by omega,⟨_,by rw [<-hs1];exact heap_alloc_new w1 _,fun i x hi=>?_⟩,fun x hxm=>?_,HM1.out.ext hxx,Fm.of_ext (hx1.trans hxx),.inl ⟨HK1.out,rfl⟩⟩
  ·rcases i with _ |i
   ·simp at hi;subst hi;exact ⟨rfl,rfl⟩
   ·simp at hi
  ·obtain rfl:=mem_singleton.1 hxm;exact ⟨Arr.nil,by simp⟩
 ·have hd:((k:Int)==(a:Int)+1)=false:=by simp;omega
  obtain ⟨l,hl⟩:∃l,l=k-a:=⟨_,rfl⟩;have hl2:2<=l:=by omega
  have hw2:IntKind.i64.wrap ((k:Int)-(a:Int))=(l:Int):=by rw [IntWalk.i64_in _ (by omega)];omega
  obtain ⟨i0,hi1,hz,hs,hby⟩:=info_parts zin;obtain ⟨w2,hmk,zsU,zsz⟩:=run_make_own (P:=Tryz.prog) w1 w1.heap.size 79 82 i0 _ 2 Tryz.underlying79 hi1 hz hs .i64 .i64 l (by rw [hby];omega) (by simp [maxLen];omega) Zr;have zsb:Ext w1 w2:=⟨⟨zsz.os,zsz.tape,zsz.output,zsz.size,fun b hb=>zsz.block b hb (by simp)⟩⟩;have zq2:Hid (Own w2 w1.heap.size 82 2 (some ⟨w1.heap.size,0,none⟩) 0 l []):=Zh zsU;have HHL:=Zh hl
  have HW1:=Zh zsy;have HS1:=Zh hs1;clear zsU zsz hl hi1 hz hs hby zsy hs1;go_enter Tryz.func41,Tryz.ntmps41;go_upto_region 3 with fail
  rw [<-HW1.out];clear HW1;go_upto_region 5 with fail
  have zs3:w1.heap.size<=w2.heap.size:=zsb.size;have HF2:Hid (Fm mb w1 w2):=Zh (Fm.of_ext zsb);have HM2:Hid (MapC w2 mb 0 []):=Zh (HM1.out.ext zsb);clear hmk;go_loopw [9,10] (fun ls i wr=>∃(j:Nat) (A:Option Addr) (c:Nat) (els:List ME),j<=l/\i= .int .i64 ((a:Int)+(j:Int))/\ls= .slice A j c/\Hid (Own wr w1.heap.size 82 2 A j c (ji els))/\Hid ((els.map fun x=>(x.i,x.p))=(List.range j).map fun r=>(((a+r:Nat):Int),zE m L (L.getD (a+r) [])))/\Hid (∀x∈els,x.ok wr)/\Hid (MapC wr mb 0 [])/\Hid (Fm mb w1 wr)) (fun _ i _=>k-(intOf i).toNat)
  case atStart=>exact ⟨0,_,l,[],by omega,by simp,rfl,zq2,Zh rfl,Zh (fun x hx=>by simp at hx),HM2,HF2⟩
  case round=>
   obtain ⟨j,A,c,els,hj,rfl,rfl,HO,HEL,HOK,HM,HF⟩:=hrel;have zrW:Ext w0 wr:=Fm.ext0 zsl hmb HF.out;have hsr:=HF.out.size;by_cases hjl:j<l
   ·obtain ⟨y,hy⟩:∃y,L[a+j]? =some y:=⟨_,Ze (by rw [HQ.out];have :=HHL.out;omega)⟩;obtain ⟨bl,ol,B,cb,rfl,e0,hB,e2,e3,e4⟩:=HS.out.list.a.at_ hy;rw [zp9.out y (Zm hy)] at e0 e2;have oL:Old bl w0:=⟨e4⟩;have e1:wr.cell? ⟨bl,ol+(a+j),none⟩=some (.slice B n cb):=(zh w0).trans e0;obtain ⟨⟨c1,c2,c3⟩,-,c4⟩:=Qi (HF.out.cells HM1.out HBX.out);have oB:Old w.heap.size wr:=⟨c4⟩;have oLr:Old bl wr:=⟨Nat.lt_of_lt_of_le e4 zrW.size⟩
    have HPC:=Zh (HPR.out wr.drew B cb y (Zm hy) hB (zrW.trans Zi) (HM.out.ext Zi));have hgd:L.getD (a+j) []=y:=by simp [List.getD_eq_getElem?_getD,hy]
    obtain ⟨p,hp⟩:∃p,p=zE m L y:=⟨_,rfl⟩;have hpl:p.length<=100000:=by
     have :=zbg m L y;rw [hp];rw [HQ.out] at this;omega
    rw [<-hp] at HPC;have HP:=Zh hp;have HGD:=Zh hgd;have HMD:Hid (MapC wr.drew mb 0 []):=Zh (HM.out.ext Zi);unfold jE at HPC;obtain ⟨pl,hpe⟩:∃pl,p.length=pl:=⟨_,rfl⟩;rw [hpe] at HPC hpl;have HPE:=Zh hpe;have zxm:a+j<q:=by have :=HHL.out;omega
    have zwj:a+j<k:=by have :=HHL.out;omega
    have hi0:(0:Int)<=(a:Int)+(j:Int):=by omega
    have hi1:(a:Int)+(j:Int)<(q:Int):=by omega
    have hi2:((a:Int)+(j:Int)).toNat=a+j:=by omega
    have hi3:((a:Int)+(j:Int))<(k:Int):=by omega
    clear hy hB e0 hgd hp hpe;go_wp2_with fail
    go_region_law (first
     |((refine QX _ rfl (.tmp 28) (.tmp 39) 79 rfl w1.heap.size 82 (.agg #[.int .i64 0,.slice none 0 0]) 2 32 Tryz.underlying79 zin rfl (by decide) (by decide) A j c (ji els) (by simp [Act.eval]) (HO5.out.ext Zi) (some ⟨w5.heap.size,0,none⟩) 1 1 [.int .i64 ((a:Int)+(j:Int)),.slice A5 pl c5] (by simp [Act.eval]) (Arr.new w5 82 #[.int .i64 ((a:Int)+(j:Int)),.slice A5 pl c5]) rfl (by simp [Value.oneCell']) (by omega) (by simp;omega) ?_);intro A6 c6 w6 zrj hg6)
     |(go_simp;go_at_call 37;refine HPC.out.mono ?_;rintro e w5 ⟨A5,c5,rfl,hO5,hM5,hF5⟩;have HO5:=Zh (hF5.own HMD.out (HO.out.ext (Zi:Ext wr wr.drew)));have zq3:=Zh hO5;have HM5:=Zh hM5;have HF5:=Zh hF5;have hs5:=hF5.size;have zxn:wr.heap.size<=w5.heap.size:=hs5;clear hO5 hM5 hF5))
    all_goals
     have hxa:Ext w5 (w5.alloc (.cells #[.int .i64 ((a:Int)+(j:Int)),.slice A5 pl c5] 82)):=Zi;have hO6:Own w6 w1.heap.size 82 2 A6 (j+1) c6 (ji (els++[⟨(a:Int)+(j:Int),A5,c5,p⟩])):=by
      rw [zpn,show ji [(⟨(a:Int)+(j:Int),A5,c5,p⟩:ME)]=[.int .i64 ((a:Int)+(j:Int)),.slice A5 pl c5] by rw [<-HPE.out];rfl];exact zrj
     have hM6:MapC w6 mb 0 []:=(HM5.out.ext hxa).grow hg6;have hF6:Fm mb w1 w6:=(((HF.out.trans (Fm.of_ext (Zi:Ext wr wr.drew))).trans HF5.out).trans (Fm.of_ext hxa)).new hg6.below;have hk6:∀x:ME,x.ok (w5.alloc (.cells #[.int .i64 ((a:Int)+(j:Int)),.slice A5 pl c5] 82))->x.ok w6:=fun x hx=>⟨hx.1.keep fun b cs fr hb=>(hg6.heap hb (by decide)).trans hb.symm,hx.2⟩
     have zuS:∀x∈els++[(⟨(a:Int)+(j:Int),A5,c5,p⟩:ME)],x.ok w6:=fun x hx=>by
      rcases List.mem_append.1 hx with hx |hx
      ·exact hk6 x ((HF5.out.meok HMD.out ((HOK.out x hx).ext Zi)).ext hxa)
      ·obtain rfl:=mem_singleton.1 hx;exact hk6 _ (ME.ok.ext (w:=w5) ⟨zq3.out.arr,by simp only [HPE.out];omega⟩ hxa)
     have zuT:((els++[(⟨(a:Int)+(j:Int),A5,c5,p⟩:ME)]).map fun x=>(x.i,x.p))=(List.range (j+1)).map fun r=>(((a+r:Nat):Int),zE m L (L.getD (a+r) [])):=by
      rw [map_append,HEL.out,List.range_succ,map_append];simp only [List.map_cons,List.map_nil,HGD.out,<-HP.out,Int.natCast_add]
     have HO6:=Zh hO6;have HM6:=Zh hM6;have HF6:=Zh hF6;have HK6:=Zh zuS;have HE6:=Zh zuT;clear hO6 hM6 hF6 zuS zuT hk6 zrj hg6;go_wp2_with fail
     exact ⟨⟨j+1,A6,c6,_,by omega,by go_num,rfl,HO6,HE6,HK6,HM6,HF6⟩,by simp [intOf];omega⟩
   ·obtain rfl:j=l:=by omega
    obtain ⟨g,rfl,hbg,hrw⟩:=zpo HO.out (by omega);have zrc:els.length=j:=by have :=congrArg List.length HEL.out;simpa using this
    have zwj:((a:Int)+(j:Int))<(k:Int)↔False:=by have :=HHL.out;simp;omega
    have HSO:=Zh (zpm (cap:=c) hrw HOK.out zrc (by have :=HHL.out;omega));unfold zbh at HSO;go_wp2_with (go_at_call 67;refine HSO.out.mono ?_;rintro e w3 ⟨rfl,els',hp1,hp2,hp3,hp4,hs3⟩)
    go_ret;have hmg:mb≠g:=by have :=hx1.size;omega
    have hmw:mb<wr.heap.size:=HM.out.lt;refine ⟨g,c,els',by rw [hp1.length_eq,zrc];rfl,by have :=hx1.size;omega,hp3,hp4,HM.out.at_block (hs3.1 mb hmw hmg),?_,.inr ⟨by have :=HHL.out;omega,?_,hp2.imp fun h=>by omega⟩⟩
    ·exact ((Fm.of_ext hx1).trans HF.out).new (hs3.2 _ (by have :=hx1.size;omega))
    ·rw [<-HHL.out,<-HEL.out];exact hp1.map _
section
variable {κ:Type} [DecidableEq κ] {lt:κ->κ->Prop} [DecidableRel lt]
theorem zio:∀(G:List (κ×Int)) (k:κ),(∀c∈G,lt c.1 k)->Zd lt G k=G++[(k,1)]
 |[],_,_=>rfl
 |c::G,k,h=>by
  unfold Zd;rw [if_pos (h c (List.mem_cons_self ..)),zio G k fun d hd=>h d (List.mem_cons_of_mem _ hd)];rfl
theorem ziq (O:STO lt):∀(G:List (κ×Int)) (k:κ) (n:Int),(∀c∈G,lt c.1 k)->Zd lt (G++[(k,n)]) k=G++[(k,n+1)]
 |[],k,n,_=>by
  show Zd lt [(k,n)] k=_;unfold Zd;rw [if_neg (O.irr k),if_pos rfl];rfl
 |c::G,k,n,h=>by
  show Zd lt (c::(G++[(k,n)])) k=_;unfold Zd;rw [if_pos (h c (List.mem_cons_self ..)),ziq O G k n fun d hd=>h d (List.mem_cons_of_mem _ hd)];rfl
theorem CountOK.hit (O:STO lt) {S:List κ} {C:List (κ×Int)} {k:κ} {n:Int} (h:CountOK lt S (C++[(k,n)])):CountOK lt (S++[k]) (C++[(k,n+1)]):=by
 rw [<-ziq O C k n fun c hc=>(List.pairwise_append.1 h.sorted).2.2 c hc _ (mem_singleton.2 rfl)];exact h.tally O k
theorem CountOK.fresh (O:STO lt) {S:List κ} {C:List (κ×Int)} {k:κ} (h:CountOK lt S C) (hs:∀s∈S,¬lt k s) (hl:∀C0 d,C=C0++[d]->d.1≠k):CountOK lt (S++[k]) (C++[(k,1)]):=by
 rw [<-zio (lt:=lt) C k]
 ·exact h.tally O k
 ·have hin:∀c∈C,c.1∈S:=fun c hc=>count_pos_iff.1 (by have :=(h.mem c).1 hc;omega)
  rcases List.eq_nil_or_concat C with rfl |⟨C0,d,rfl⟩
  ·intro c hc;simp at hc
  ·rw [List.concat_eq_append] at*
   have hd:lt d.1 k:=(O.tri (hl C0 d rfl)).resolve_right (hs _ (hin d (by simp)));intro c hc;rcases List.mem_append.1 hc with hc |hc
   ·exact O.trans ((List.pairwise_append.1 h.sorted).2.2 c hc d (mem_singleton.2 rfl)) hd
   ·rw [mem_singleton.1 hc];exact hd
end
structure CE where
 n:Int
 A:Option Addr
 c:Nat
 p:List Ct
 N:Int
def CE.key (x:CE):Ks×Int:=((x.n,x.p),x.N)
def ceV (x:CE):List Value:=[.int .i64 x.n,.slice x.A x.p.length x.c,.int .i64 x.N]
def qa (l:List CE):List Value:=l.flatMap ceV
theorem zen (p q:List CE):qa (p++q)=qa p++qa q:=List.flatMap_append
theorem zeo (p:List CE):(qa p).length=p.length*3:=by
 induction p with
 |nil=>rfl
 |cons x l ih=>simp only [qa,List.flatMap_cons,length_append,List.length_cons] at ih |-;rw [ih];simp [ceV];omega
theorem zci:∀(p:List CE) (i:Nat) (c:CE),p[i]? =some c->(qa p)[i*3]? =some (.int .i64 c.n)/\(qa p)[i*3+1]? =some (.slice c.A c.p.length c.c)/\(qa p)[i*3+2]? =some (.int .i64 c.N)
 |[],i,c,h=>by simp at h
 |y::l,0,c,h=>by simp at h;subst h;exact ⟨rfl,rfl,rfl⟩
 |y::l,i+1,c,h=>by
  have :=zci l i c (by simpa using h);rw [show (i+1)*3=i*3+3 by omega];exact this
theorem zpq (C:List CE) (x:CE) (v:Int):qa (C++[{x with N:=v}])=(qa (C++[x])).set (C.length*3+2) (.int .i64 v):=by
 rw [zen,zen,List.set_append_right _ _ (by rw [zeo];omega),zeo,show C.length*3+2-C.length*3=2 by omega];rfl
theorem zpr:(Tryz.prog.info? 64).map (fun i=>(i.zero,i.size,i.bytes))=some (some (.agg #[.int .i64 0,.slice none 0 0,.int .i64 0]),3,40):=by kernel_rfl
def CE.ok (w:World) (x:CE):Prop:=Arr w x.A 45 (zx x.p)/\x.p.length<=1099511627776
theorem CE.ok.ct {x:CE} (h:x.ok w):CtV w x.A x.p:=⟨_,h.1⟩
def Kp (w w':World):Prop:=w.heap.size<=w'.heap.size/\∀(b:Nat) (cs:Array Value) (T:TypeId) (fr:Nat×Nat),T≠64->w.heap[b]? =some (.cells cs T fr)->w'.heap[b]? =some (.cells cs T fr)
theorem Kp.refl (w:World):Kp w w:=⟨Zr,fun _ _ _ _ _ h=>h⟩
theorem Kp.trans {a b c:World} (h:Kp a b) (h':Kp b c):Kp a c:=⟨Nat.le_trans h.1 h'.1,fun k cs T fr hn hk=>h'.2 k cs T fr hn (h.2 k cs T fr hn hk)⟩
theorem Kp.of_ext (h:Ext w w'):Kp w w':=⟨h.size,fun b _ _ _ _ hb=>(h.below.block b (zC hb)).trans hb⟩
theorem Kp.of_fm {L:List Kc} (h:Fm mb w w') (hm:MapC w mb n L):Kp w w':=⟨h.size,fun _ _ _ _ _ hb=>h.cells hm hb⟩
theorem Kp.of_grow (h:Grow ze 64 w w'):Kp w w':=⟨h.below.size,fun _ _ _ _ hn hb=>h.heap hb hn⟩
theorem Kp.of_set {fr:Nat×Nat} (hg:w.heap[g]? =some (.cells cur 64 fr)) (hp:p.block=g) (u:Value):Kp w (w.setCell p u):=by
 refine ⟨Nat.le_of_eq (qy w p u).symm,fun b cs T fr' hn hb=>?_⟩;have hne:b≠p.block:=fun e=>by
  rw [e,hp,hg] at hb;injection hb with hb
  injection hb with _ hb
  exact hn hb.symm
 exact Z5 hb hne u
theorem Arr.kp {vs:List Value} (h:Arr w A T vs) (hk:Kp w w') (hT:T≠64):Arr w' A T vs:=
 h.keep fun _ _ _ hb=>(hk.2 _ _ _ _ hT hb).trans hb.symm
theorem CE.ok.kp {x:CE} (h:x.ok w) (hk:Kp w w'):x.ok w':=⟨h.1.kp hk (by decide),h.2⟩
theorem ME.ok.kp {x:ME} (h:x.ok w) (hk:Kp w w'):x.ok w':=⟨h.1.kp hk (by decide),h.2⟩
theorem MRow.kp {els:List ME} (h:MRow w g els) (hk:Kp w w'):MRow w' g els:=by
 obtain ⟨cur,h1,h2⟩:=h;exact ⟨cur,hk.2 _ _ _ _ (by decide) h1,h2⟩
theorem Below.setAt (w:World) (hp:n<=p.block) (u:Value):Below n w (w.setCell p u):=
 ⟨rfl,rfl,rfl,Nat.le_of_eq (qy w p u).symm,fun b hb=>Below.heap_setCell w p u b (by omega)⟩
theorem zep {b:Nat} {x y:Value} (h:w.heap[b]? =some (.cells #[x,y] T (0,0))):w.cell? ⟨b,0,none⟩=some x/\w.cell? ⟨b,1,none⟩=some y/\w.frozen? ⟨b,0,none⟩=false/\w.frozen? ⟨b,1,none⟩=false/\b<w.heap.size:=
 ⟨by simp [World.cell?,h],by simp [World.cell?,h],by simp [World.frozen?,h],by simp [World.frozen?,h],zC h⟩
theorem zeq (ho:Own w ze 64 3 A n c xs) (h0:0<n):∃(g:Nat) (cur:Array Value),A=some ⟨g,0,none⟩/\ze<=g/\w.heap[g]? =some (.cells cur 64 (0,0))/\n<=c/\(∀(j:Nat) (u:Value),xs[j]? =some u->cur[j]? =some u)/\
  ∀(i:Nat) (u:Value),i<xs.length->Own (w.setCell ⟨g,i,none⟩ u) ze 64 3 A n c (xs.set i u):=by
 rcases ho.2 with ⟨-,hn⟩ |⟨g,cap,cur,hv,h1,h2,h3,h4,h5,h6⟩
 ·omega
 ·injection hv with z1 _ z3
  subst z3;refine ⟨g,cur,z1,h1,h2,h3,fun j u hu=>?_,fun i u hi=>⟨by simp [ho.1],.inr ⟨g,c,cur.set! i u,by rw [z1],h1,?_,h3,h4,by simpa using h5,?_⟩⟩⟩
  ·rw [<-h6,getElem?_take] at hu;split at hu
   ·simpa using hu
   ·cases hu
  ·rw [Zj h2];simp
  ·rw [<-h6] at hi |-
   apply List.ext_getElem?;intro j;simp only [length_take] at hi;simp only [getElem?_take,Array.getElem?_toList,List.getElem?_set,Array.set!_eq_setIfInBounds,Array.getElem?_setIfInBounds,length_take];split<;>rename_i hj
   ·split<;>rename_i he
    ·subst he;simp;omega
    ·rfl
   ·split<;>rename_i he
    ·omega
    ·rfl
theorem zps {κ:Type} [DecidableEq κ] {lt:κ->κ->Prop} [DecidableRel lt] (O:STO lt) {S:List κ} (hS:S≠[]):Qg lt S≠[]:=fun h=>by
 obtain ⟨y,hy⟩:=List.exists_mem_of_ne_nil S hS;have h2:(y,(S.count y:Int))∈Qg lt S:=((JN O S).mem _).2 ⟨Int.natCast_pos.2 (count_pos_iff.2 hy),rfl⟩;rw [h] at h2
 cases h2
theorem zpt (hL:L≠[]):zE m L x≠[]:=zps zbb fun h=>hL (List.map_eq_nil_iff.1 h)
theorem zpu {els:List ME} (h:zil m L a k els) (hok:∀x∈els,x.ok w) (hkl:k<=L.length):
  (els.map fun x=>zE m L (L.getD x.i.toNat [])).Perm ((List.range (k-a)).map fun j=>zE m L (L.getD (a+j) []))/\
  (∀x∈els,(∃j:Nat,a<=j/\j<k/\x.i=(j:Int))/\((x.A=none/\x.c=0/\x.p=[]/\els.length=1)∨(x.A≠none/\x.p=zE m L (L.getD x.i.toNat []))))/\
  els.Pairwise (fun x y=>¬zS (zE m L (L.getD y.i.toNat [])) (zE m L (L.getD x.i.toNat []))=true):=by
 rcases h with ⟨hk,rfl⟩ |⟨hk,hp,hs⟩
 ·subst hk;refine ⟨by simp,fun x hx=>?_,by simp⟩;rw [mem_singleton.1 hx];exact ⟨⟨a,Zr,by omega,rfl⟩,.inl ⟨rfl,rfl,rfl,rfl⟩⟩
 ·have hx:∀x∈els,∃j:Nat,a<=j/\j<k/\x.i=(j:Int)/\x.p=zE m L (L.getD j []):=fun x hx=>by
   have h1:=hp.mem_iff.1 (List.mem_map_of_mem (f:=fun x:ME=>(x.i,x.p)) hx);obtain ⟨j,hj,he⟩:=mem_map.1 h1;rw [List.mem_range] at hj;injection he with e1 e2
   exact ⟨a+j,by omega,by omega,e1.symm,e2.symm⟩
  have hx2:∀x∈els,x.p=zE m L (L.getD x.i.toNat []):=fun x hxm=>by
   obtain ⟨j,-,-,h3,h4⟩:=hx x hxm;rw [h3];exact h4
  refine ⟨?_,fun x hxm=>?_,?_⟩
  ·have h1:=hp.map Prod.snd;rw [map_map,map_map] at h1;have h2:(els.map fun x=>zE m L (L.getD x.i.toNat []))=els.map (Prod.snd∘fun x:ME=>(x.i,x.p)):=List.map_congr_left fun x hxm=>(hx2 x hxm).symm
   rw [h2];exact h1
  ·obtain ⟨j,h1,h2,h3,h4⟩:=hx x hxm;refine ⟨⟨j,h1,h2,h3⟩,.inr ⟨fun hn=>?_,hx2 x hxm⟩⟩;have hne:x.p≠[]:=by
    rw [h4];have hL:L≠[]:=fun e=>by rw [e] at hkl;simp at hkl;omega
    exact zpt hL
   have hA:=(hok x hxm).1;rw [hn] at hA;obtain ⟨b,o,cs,fr,h,-⟩:=hA (by
    rw [qN];exact Nat.mul_pos (List.length_pos_iff.2 hne) (by decide))
   cases h
  ·refine List.Pairwise.imp_of_mem ?_ hs;intro x y hxm hym h;rw [<-hx2 x hxm,<-hx2 y hym,<-zbd];simpa using h
end Go.Proofs.YtcmkopogafchiaaGreat
