import Derived.Test.YtpcgfpmiphiacaaGreatC23
import Derived.Sort.LotA
import Derived.Shelf.SlSortCmp.KitK
import Derived.Sort.WalkB2
import Derived.Sort.WalkB12
set_option maxHeartbeats 8000000
set_option linter.unusedVariables false
set_option linter.unusedSimpArgs false
namespace Go.Proofs.YtpcgfpmiphiacaaGreat
open List (length_append getElem?_take getElem?_map length_map)
variable {x:List Int} {a b c d hi i j k lo m mid n r r0 s s0 t zf:Nat} {A X:Option Addr} {w w0:World}
section
open Go.RowKit
theorem ziL(S:List Kc)(k:Kc):S.count k=@List.count Kc instBEqOfDecidableEq k S:=by
 unfold List.count;congr 1
 funext x
 rw[Bool.eq_iff_iff];simp
theorem zpS{S ks:List Kc}{els':List Ct}(hnd:ks.Nodup)(h1:∀k∈ks,k∈S)(h2:∀k∈S,k∈ks)(hp:els'.Perm (ks.map fun k=>(k,(S.count k:Int))))(hs:els'.Pairwise (fun x y=>¬Z1 y x<0)):els'=qv Z0 S:=by
 have hk:(els'.map Prod.fst).Nodup:=by
  have h:=hp.map Prod.fst;rw[List.map_map]at h;have e:(Prod.fst∘fun k:Kc=>(k,(S.count k:Int)))=id:=rfl;rw[e,List.map_id]at h;exact(h.nodup_iff).2 hnd
 refine CountOK.unique zbx ⟨?_,fun c=>?_⟩ (jP zbx S)
 ·have hk2:els'.Pairwise (fun x y=>x.1≠y.1):=List.pairwise_map.1 hk;refine(hs.and hk2).imp ?_;rintro x y ⟨h,hne⟩;rcases j5 y x with ⟨-,h3⟩|⟨h3,-⟩|⟨h3,-⟩
  ·exact absurd (show Z1 y x<0 by omega) h
  ·exact absurd (by rw[h3]) hne
  ·unfold ZD at h3;unfold Z0;rcases h3 with h3|⟨h3,h4|⟨h4,-⟩⟩
   ·exact .inl h3
   ·exact .inr ⟨h3,h4⟩
   ·exact absurd (Prod.ext h3 h4) hne
 ·rw[hp.mem_iff,List.mem_map];constructor
  ·rintro⟨k,hk,rfl⟩;have h3:=List.count_pos_iff.2 (h1 k hk);exact⟨by show (0:Int)<(S.count k:Int);omega,by show (S.count k:Int)=_;rw[ziL]⟩
  ·rintro⟨h3,h4⟩;obtain⟨k,n⟩:=c;simp only at h3 h4;rw[<-ziL]at h4;exact⟨k,h2 k (List.count_pos_iff.1 (by omega)),by rw[h4]⟩
theorem ziM{κ:Type}[DecidableEq κ]{lt:κ->κ->Prop}[DecidableRel lt]:∀(p:List (κ×Int))(k:κ),(Zk lt p k).length<=p.length+1
 |[],k=>by simp[Zk]
 |c::p,k=>by
  have ih:=ziM (lt:=lt) p k;unfold Zk;split
  ·simp;omega
  ·split<;>simp
theorem zpT{κ:Type}[DecidableEq κ]{lt:κ->κ->Prop}[DecidableRel lt](L:List κ):(qv lt L).length<=L.length:=by
 have key:∀(L:List κ)(p:List (κ×Int)),(L.foldl (fun p q=>Zk lt p q) p).length<=p.length+L.length:=by
  intro L;induction L with
  |nil=>intro p;simp
  |cons k L ih=>
   intro p;have h1:=ih (Zk lt p k);have h2:=ziM (lt:=lt) p k;simp only[List.foldl_cons,List.length_cons];omega
 have:=key L [];simpa[qv] using this
theorem zaG(m L:List (List Int))(x:List Int):(zx m L x).length<=L.length:=by
 have:=zpT (lt:=Z0) (L.map (QM m x));simpa[zx] using this
theorem zpU{w':World}{g:Nat}{p els els':List Ct}(ho:Own w zf 71 3 (some ⟨g,0,none⟩) n c (zz p++zz els))(hpe:els'.Perm els)
  {cur cur':Array Value} (hg:w.heap[g]? =some (.cells cur 71 (0,0))) (hg':w'.heap[g]? =some (.cells cur' 71 (0,0))) (hsz:cur'.size=cur.size) (htl:∀j u,(zz els')[j]? =some u->cur'[p.length*3+j]? =some u) (hhd:∀j,j<p.length*3->cur'[j]? =cur[j]?):
  Own w' zf 71 3 (some ⟨g,0,none⟩) n c (zz p++zz els'):=by
 have hel:els'.length=els.length:=hpe.length_eq;have zr7:=ho.1;rw[length_append,qZ,qZ]at zr7;rcases ho.2 with ⟨hv,-⟩|⟨g2,cap,cur2,hv,h1,h2,h3,h4,h5,h6⟩
 ·cases hv
 ·injection hv with z1 z2 z3
  injection z1 with z1
  injection z1 with z1
  subst z1 z3;rw[hg]at h2;injection h2 with h2
  injection h2 with z4
  subst z4;refine⟨by rw[length_append,qZ,qZ,hel];exact zr7,.inr ⟨g,c,cur',rfl,h1,hg',h3,h4,by rw[hsz];exact h5,?_⟩⟩;have hcs:n*3<=cur'.size:=by rw[hsz,h5];exact Nat.mul_le_mul_right 3 h3
  apply List.ext_getElem?;intro j;rcases Zl j (n*3) with hj|hj
  ·rw[getElem?_take,if_pos hj,Array.getElem?_toList];rcases Zl j (p.length*3) with hjp|hjp
   ·rw[List.getElem?_append_left (by rw[qZ];exact hjp),hhd j hjp];have h7:(cur.toList.take (n*3))[j]? =(zz p++zz els)[j]? :=by rw[h6]
    rw[getElem?_take,if_pos hj,Array.getElem?_toList,List.getElem?_append_left (by rw[qZ];exact hjp)]at h7;exact h7
   ·rw[List.getElem?_append_right (by rw[qZ];exact hjp),qZ];have hjl:j-p.length*3<els'.length*3:=by omega
    have h7:=htl _ _ (zbC els' _ hjl);rw[show p.length*3+(j-p.length*3)=j by omega]at h7;rw[h7,zbC els' _ hjl]
  ·rw[getElem?_take,if_neg (by omega),List.getElem?_eq_none];rw[length_append,qZ,qZ,hel,zr7];exact hj
theorem zpV{xs:List Value}(ho:Own w zf 71 3 A n c xs)(h0:0<n):∃(g:Nat) (cur:Array Value),A=some ⟨g,0,none⟩/\zf<=g/\w.heap[g]? =some (.cells cur 71 (0,0))/\n<=c/\∀(j:Nat)(u:Value),xs[j]? =some u->cur[j]? =some u:=by
 rcases ho.2 with ⟨-,hn⟩|⟨g,cap,cur,hv,h1,h2,h3,h4,h5,h6⟩
 ·omega
 ·injection hv with z1 _ z3
  subst z3;refine⟨g,cur,z1,h1,h2,h3,fun j u hu=>?_⟩;rw[<-h6,getElem?_take]at hu;split at hu
  ·simpa using hu
  ·cases hu
theorem zaH:(Tryz.prog.info? 71).map (fun i=>(i.zero,i.size,i.bytes))=some (some (.agg #[.int .i64 0,.int .i64 0,.int .i64 0]),3,24):=by kernel_rfl
def jQ(w:World)(mb:Nat)(p:List Ct)(e:Ending)(w':World):Prop:=
 ∃A c,e= .returned (.slice A p.length c)/\Own w' w.heap.size 71 3 A p.length c (zz p)/\MapC w' mb 0 []/\Fm mb w w'
set_option maxRecDepth 20000 in
theorem zeJ{LA NA DA XA:Option Addr}{lc nc dc xc q mb:Nat}{m L:List (List Int)}(hS:SysV w0 m L LA NA DA)(hq:L.length=q)(hq8:q<=100000)(hdc:q<=dc)(zv0:dc<=9223372036854775807)(hmn:m.length=n)(hn:n<=1000)
  (ztZ:(L.map (zg m)).Pairwise (·<=·)) (hX:IntsA w0 XA x) (hxn:x.length=n) (hnb:∀y∈L,0<=zg m y/\zg m y<=4611686018427387904) (hib:∀y∈L,-4611686018427387904<=zG (zU m y) x/\zG (zU m y) x<=4611686018427387904)
  (hmb:w0.heap.size<=mb) (hM:MapC w mb 0 []) [hx:Ext w0 w]:
  Cq 37 #[.agg #[.slice LA q lc,.slice NA q nc,.slice DA q dc],.slice XA n xc,.map (some mb)] w (jQ w mb (zx m L x)):=by
 have HS:=Zh hS;have HQ:=Zh hq;have HX:=Zh (And.intro hX hxn);have HSR:=Zh ztZ;have HNB:=Zh hnb;have HIB:=Zh hib;have HMN:=Zh hmn;have HM0:=Zh hM;have zxs:=hM.lt;unfold jQ;obtain⟨w1,hw1⟩:=Xz (w.alloc (.cells #[.slice LA q lc,.slice NA q nc,.slice DA q dc] 45));have hbx:w1.heap[w.heap.size]? =some (.cells #[.slice LA q lc,.slice NA q nc,.slice DA q dc] 45 (0,0)):=by rw[hw1];exact heap_alloc_new w _
 have hx1:Ext w w1:=by rw[hw1];infer_instance
 have HBX:=Zh hbx;have hs1:w1.heap.size=w.heap.size+1:=by rw[hw1];simp
 have HM1:Hid (MapC w1 mb 0 []):=Zh (hM.ext hx1);have ztn:Ext w0 w1:=hx.trans hx1;clear hS hq hX hxn ztZ hnb hib hmn hM hbx;go_enter Tryz.func37,Tryz.ntmps37;go_wp2_with fail
 rw[<-hw1];clear hw1;go_loopw [7,8,9,11,12,13,14,15] (fun p s _ _ _ _ _ _ wr=>∃(a pl c:Nat) (A:Option Addr),a<=q/\s= .int .i64 a/\Hid (Bdry (L.map (zg m)) a)/\p= .slice A pl c/\Hid ((zx m (L.take a) x).length=pl)/\Hid (Own wr w1.heap.size 71 3 A pl c (zz (zx m (L.take a) x)))/\Hid (MapC wr mb 0 [])/\Hid (Fm mb w1 wr)) (fun _ s _ _ _ _ _ _ _=>q-(intOf s).toNat)
 case atStart=>exact⟨0,0,0,none,by omega,rfl,Zh (Bdry.zero _),rfl,Zh rfl,Zh (Own.nil _ _ _ _),HM1,Zh (Fm.refl _ _)⟩
 case round=>
  obtain⟨a,pl,c,A,ha,rfl,HB,rfl,HPL,HO,HM,HF⟩:=hrel;obtain⟨⟨c1,c2,c3⟩,-,c4⟩:=qF (HF.out.cells HM1.out HBX.out);have oB:Old w.heap.size wr:=⟨c4⟩;have zs0:Ext w0 wr:=Fm.ext0 ztn hmb HF.out;by_cases hlt:a<q
  ·obtain⟨y0,hy0⟩:∃y,L[a]? =some y:=⟨_,Ze (by rw[HQ.out];exact hlt)⟩;obtain⟨na,hna⟩:∃v,zg m y0=v:=⟨_,rfl⟩;have zsK:(L.map (zg m))[a]? =some na:=by rw[getElem?_map,hy0,<-hna];rfl
   have hnl:(L.map (zg m)).length=q:=by rw[length_map];exact HQ.out
   have HSH:=Zh (fun W(e:Ext w0 W)=>zeH (w:=W) (nc:=nc) (SL:= .slice LA q lc) (SD:= .slice DA q dc) HS.out.norms zsK hnl (by omega));obtain⟨bd,od,B0,cb0,rfl,-,-,-,-,d5⟩:=HS.out.duals.a.at_ (i:=a) (r:=ZF m y0) (by rw[getElem?_map,hy0];rfl);obtain⟨bn,on,na',rfl,zt0,n5,n6⟩:=HS.out.norms.at_ (i:=a) (by omega);rw[zsK]at zt0;obtain rfl:na=na':=by injection zt0
   have zq7:=Zh zsK;have HNL:=Zh hnl;have HNA:=Zh (And.intro hy0 hna);have oD:Old bd w0:=⟨d5⟩;have oN:Old bn w0:=⟨n6⟩;unfold zbB at HSH;clear hy0 hna zsK hnl;go_upto_region 5 with (go_at_call 18;refine(HSH.out _ Zi).mono ?_;rintro e w2 ⟨k,rfl,hk1,hk2,hk3,hk4,hs2⟩;rw[HNL.out]at hk2;have HK3:=Zh hk3;have HK4:=Zh hk4;clear hk3 hk4)
   have zsu:Ext wr w2:=Zi;have hda:(dc==a)=false:=by simp;omega
   have hkq:k<=dc:=by omega
   go_wp2_with fail
   obtain⟨l,hl⟩:=Xz (k-a);have HL:=Zh hl;have hlq:l<=100000:=by omega
   have HF2:Hid (Fm mb w1 w2):=Zh (HF.out.trans (Fm.of_ext zsu));have HM2:Hid (MapC w2 mb 0 []):=Zh (HM.out.ext zsu);have HO2:Hid (Own w2 w1.heap.size 71 3 A pl c (zz (zx m (L.take a) x))):=Zh (HO.out.ext zsu);try rw[show ((k:Int)-(a:Int)).toNat=l by omega]
   try rw[show k-a=l by omega]
   clear HM HF HO hl;obtain⟨wo,rfl⟩:∃wo:World,wo=wr:=⟨_,rfl⟩;clear c1 c2 c3 c4;go_loopw [11,12,30] (fun _ _ i wq=>∃j:Nat,j<=l/\i= .int .i64 j/\Hid (MapC wq mb j (((L.drop a).take j).map (QM m x)))/\Hid (Fm mb w2 wq)) (fun _ _ i _=>l-(intOf i).toNat)
   case atStart=>exact⟨0,by omega,rfl,HM2,Zh (Fm.refl _ _)⟩
   case round=>
    obtain⟨j,hj,rfl,HMj,HFj⟩:=hrel;have hFq:Fm mb w1 wr:=HF2.out.trans HFj.out;have zxt:Ext w0 wr:=Fm.ext0 ztn hmb hFq;obtain⟨⟨c1,c2,c3⟩,-,c4⟩:=qF (hFq.cells HM1.out HBX.out);have oBq:Old w.heap.size wr:=⟨c4⟩;by_cases hjl:j<l
    ·obtain⟨y,hy⟩:∃y,L[a+j]? =some y:=⟨_,Ze (by rw[HQ.out];have:=HL.out;omega)⟩;obtain⟨bd',od',B,cb,hA,e0,hB,e2,e3,-⟩:=HS.out.duals.a.at_ (i:=a+j) (r:=ZF m y) (by rw[getElem?_map,hy];rfl);injection hA with hA
     injection hA with z1 z2
     subst z1 z2;have hlA:(ZF m y).length=n:=by simp[ZF];exact HMN.out
     rw[hlA]at e0 e2;have e1:wr.cell? ⟨bd,od+a+j,none⟩=some (.slice B n cb):=by rw[Nat.add_assoc];exact(zi w0).trans e0
     obtain⟨v,hv⟩:=Yz (zG (zU m y) x);have hvb:=HIB.out y (Zm hy);rw[hv]at hvb;have hdw:qb (ZF m y) x=v:=by rw[ziI];unfold qb;rw[hv];exact Iw
     have HD:=Zh (fun W(e:Ext w0 W)=>zeE (w:=W) (c:=cb) (d:=xc) hB HX.out.1 hlA HX.out.2 Zr (by omega));rw[hdw]at HD;have hnv:zg m y=na:=HK3.out (a+j) _ (by omega) (by have:=HL.out;omega) (by rw[getElem?_map,hy];rfl);have zv1:=HNB.out y (Zm hy);rw[hnv]at zv1;obtain⟨av,hav⟩:∃av,((v.natAbs:Nat):Int)=av:=⟨_,rfl⟩;have zsG:QM m x y=(na,av):=by unfold QM;rw[hnv,hv,hav]
     have hkw:Q8 (na,av):=by
      have e1:IntKind.i64.min=-9223372036854775808:=rfl;have e2:IntKind.i64.max=9223372036854775807:=rfl;refine⟨?_,?_⟩<;>simp[Lit.wf]<;>omega
     have hMj:=HMj.out;have hKS:((L.drop a).take (j+1)).map (QM m x)=((L.drop a).take j).map (QM m x)++[(na,av)]:=by
      rw[List.take_add_one,List.getElem?_drop,hy,List.map_append];simp[zsG]
     have hSl:(((L.drop a).take j).map (QM m x)).length<=j:=by simp;omega
     have HKS:=Zh hKS;clear hKS;generalize ((L.drop a).take j).map (QM m x)=S at*
     have zsT:(S.count (na,av):Int)<=100000:=by have:=List.count_le_length (a:=(na,av)) (l:=S);omega
     have zv2:(Instr.lookup 48 (.map (some mb)) (.agg #[.int .i64 na,.int .i64 av,.int .i64 0]) false).run Tryz.prog wr.drew= .ok (.int .i64 (S.count (na,av))) wr.drew:=MapC.look (w:=wr.drew) hMj hkw;obtain⟨v0',st,wE,hE',hMid,hgE⟩:=MapC.entry (w:=wr.drew) hMj (by simp[maxLen];omega) (by omega) hkw;have hE:(Instr.mapEntry 48 (.map (some mb)) (.agg #[.int .i64 na,.int .i64 av,.int .i64 0])).run Tryz.prog wr.drew= .ok (.tuple #[v0',goInt st]) wE:=hE'
     have zv3:(Instr.lookup 48 (.map (some mb)) (.agg #[.int .i64 na,.int .i64 av,.int .i64 0]) false).run Tryz.prog wE= .ok (.int .i64 (S.count (na,av))) wE:=hMid.look;obtain⟨es1,cl1,hb1,hst⟩:=hMid.store;obtain⟨w3,hS3',hM3,hg3⟩:=hst wE hb1;have hS3:(Instr.entryStore 48 (.map (some mb)) (.int .i64 st) (.int .i64 ((S.count (na,av):Int)+1))).run Tryz.prog wE= .ok () w3:=hS3';clear hS3';have hF3:Fm mb wr w3:=(Fm.of_ext (Zi:Ext wr wr.drew)).trans ((Fm.of_grown hgE).trans (Fm.of_grown hg3))
     have hbn:bn≠mb:=by omega
     have hbw:w.heap.size≠mb:=by omega
     have n5q:wr.cell? ⟨bn,on+a,none⟩=some (.int .i64 na):=(zi w0).trans n5;have n5E:wE.cell? ⟨bn,on+a,none⟩=some (.int .i64 na):=(World.cell?_of_block (hgE.block bn (Nat.lt_of_lt_of_le n6 zxt.size) (fun h=>hbn (by injection h)))).trans n5q;have c2E:wE.cell? ⟨w.heap.size,1,none⟩=some (.slice (some ⟨bn,on,none⟩) q nc):=(World.cell?_of_block (hgE.block w.heap.size c4 (fun h=>hbw (by injection h)))).trans c2
     have hcw:IntKind.i64.wrap ((S.count (na,av):Int)+1)=(S.count (na,av):Int)+1:=Iw;have HM3:=Zh hM3;have HF3:=Zh hF3;generalize S.count (na,av)=cnt at*
     clear hst hb1 hMid hE' hgE hg3 hM3 hF3 hMj zsG;have HAV:=Zh hav;clear hav hv hdw hkw zv1 zsT hy hB e0 hlA hSl;by_cases zsa:v<0
     ·have hwn:IntKind.i64.wrap (-v)=av:=by
       have h1:=HAV.out;rw[Iw];omega
      go_upto_region 11 with (go_at_call 36;refine(HD.out _ Zi).mono ?_;rintro e w5 ⟨rfl,rfl⟩)
      go_region
      all_goals
       clear hE zv2 zv3 hS3 n5q n5E c2E;go_wp2_with fail
       exact⟨⟨j+1,by omega,by go_num,Zh (by rw[HKS.out];exact HM3.out),Zh (HFj.out.trans HF3.out)⟩,by simp[intOf];omega⟩
     ·have hvn:v=av:=by have h1:=HAV.out;omega
      subst hvn;go_upto_region 11 with (go_at_call 36;refine(HD.out _ Zi).mono ?_;rintro e w5 ⟨rfl,rfl⟩)
      go_region
      all_goals
       clear hE zv2 zv3 hS3 n5q n5E c2E;go_wp2_with fail
       exact⟨⟨j+1,by omega,by go_num,Zh (by rw[HKS.out];exact HM3.out),Zh (HFj.out.trans HF3.out)⟩,by simp[intOf];omega⟩
    ·obtain rfl:j=l:=by omega
     clear hjl hj;obtain⟨S,hS⟩:=Xz (((L.drop a).take j).map (QM m x));have HSE:=Zh hS;have hMS:=HMj.out;rw[<-hS]at hMS;clear hS HMj;obtain⟨wR,cnt0,hR,hRng,hgR,hsR⟩:=hMS.range;have HRng:=Zh hRng;have hc0:cnt0<=j:=hRng.cnt_le;have hxR:Ext wr wR:=⟨⟨hgR.os,hgR.tape,hgR.output,hgR.size,fun b hb=>hgR.block b hb (by simp)⟩⟩;have hOq:Own wr w1.heap.size 71 3 A pl c (zz (zx m (L.take a) x)):=HFj.out.own HM2.out HO2.out
     have hOR:=hOq.ext hxR;have HOR:=Zh hOR;have HFR:Hid (Fm mb w1 wR):=Zh (hFq.trans (Fm.of_ext hxR));obtain⟨wq,hwq⟩:∃wq:World,wq=wr:=⟨_,rfl⟩;have hrg:w1.heap.size<=wr.heap.size:=hFq.size;obtain⟨it,hit⟩:=Xz wr.heap.size;rw[<-hit]at hR HRng hrg;have HIT:=Zh hit;clear hOq hOR hRng hgR hMS hwq hit;obtain⟨P,hP⟩:=Xz (zx m (L.take a) x);have HP:=Zh hP;rw[<-hP]at HOR HPL;clear hP HO2
     have zyx:pl<=100000:=by
      have h1:=zaG m (L.take a) x;rw[<-HP.out,HPL.out,List.length_take]at h1;omega
     go_upto_region 15 with fail
     go_loopw [7,14,15] (fun p _ _ wz=>∃(ks:List Kc) (A':Option Addr) (c' cnt:Nat),p= .slice A' (pl+ks.length) c'/\ks.length+cnt<=cnt0/\Hid (Own wz w1.heap.size 71 3 A' (pl+ks.length) c' (zz P++zz (ks.map fun k=>(k,(S.count k:Int)))))/\Hid (RngC wz mb it j S ks cnt)/\Hid (Fm mb w1 wz)) (fun _ _ _ wz=>wz.rangeLeft mb it)
     case atStart=>exact⟨[],A,c,cnt0,rfl,by simp,Zh (by have h:=HOR.out;simpa[zz] using h),HRng,HFR⟩
     case round=>
      obtain⟨ks,A',c',cnt,rfl,hkc,HOz,HRz,HFz⟩:=hrel;have zxu:Ext w0 wr:=Fm.ext0 ztn hmb HFz.out;rcases HRz.out.next 0 with ⟨zr9,zsl⟩|⟨k1,w5,cnt1,hkS,zsl,hR1,zv4,hg1,zua,hen⟩
      ·have hSl:S.length=j:=by
        have h1:=HL.out;have h2:=HQ.out;rw[HSE.out,length_map,List.length_take,List.length_drop];omega
       have hkl:0<ks.length:=by
        obtain⟨k0,hk0⟩:∃k0,k0∈S:=⟨S[0]'(by have:=HL.out;omega),List.getElem_mem _⟩;exact List.length_pos_of_mem (zr9 k0 hk0)
       obtain⟨g,cur,rfl,hbg,hgc,hnc,zs1⟩:=zpV HOz.out (by omega);obtain⟨els,ztw⟩:∃els:List Ct,els=ks.map fun k=>(k,(S.count k:Int)):=⟨_,rfl⟩
       have hel:els.length=ks.length:=by rw[ztw];simp
       rw[<-ztw]at zs1;have zsf:=HOz.out.cap;have HSO:Hid (Cq 78 #[.slice (some ⟨g,pl*3,none⟩) ks.length (c'-pl),.func (.func 40) #[] #[]] wr fun e w'=>e= .returned (.tuple #[])/\∃(els':List Ct) (cur':Array Value),els'.Perm els/\els'.Pairwise (fun x y=>¬Z1 y x<0)/\w'.heap[g]? =some (.cells cur' 71 (0,0))/\cur'.size=cur.size/\(∀j u,(zz els')[j]? =some u->cur'[pl*3+j]? =some u)/\(∀j,j<pl*3->cur'[j]? =cur[j]?)/\(∀b,b<wr.heap.size->b≠g->w'.heap[b]? =wr.heap[b]?)/\∀B,B<=g->Below B wr w'):=Zh (by
        rw[<-hel];refine zpR hgc (fun j' u hu=>zs1 _ u ?_) (by omega);rw[List.getElem?_append_right (by rw[qZ,HPL.out];omega),qZ,HPL.out,show pl*3+j'-pl*3=j' by omega];exact hu)
       have hcp:(c'==pl)=false:=by simp;omega
       have hgm:mb≠g:=fun e=>HRz.out.map.not_cells (by rw[e];exact hgc)
       have HEL:=Zh ztw;have zrp:=Zh zr9;have HGC:=Zh hgc;have zv5:mb<wr.heap.size:=HRz.out.map.lt;have zuh:pl+ks.length-pl=ks.length:=by omega
       clear zs1 ztw hel zr9 hgc;go_upto_region 20 with (go_at_call 78;refine HSO.out.mono ?_;rintro e w6 ⟨rfl,els',cur',p1,p2,p3,p4,p5,p6,p7,p8⟩;obtain⟨wC,hC,hMC,hgC⟩:=(HRz.out.map.at_block (p7 mb zv5 hgm)).clear)
       have hM6:=HRz.out.map.at_block (p7 mb zv5 hgm);have HM6:=Zh hM6;have HMC:=Zh hMC;have zrV:=Zh hgC;have HP7:=Zh p8;have HP5:=Zh (And.intro p5 p6);have HP2:=Zh (And.intro p1 p2);have HP3:=Zh (And.intro p3 p4);clear hM6 hMC hgC p8 p5 p6 p7 p1 p2 p3 p4 HSO;go_wp2_with fail
       have zsd:Own w6 w1.heap.size 71 3 (some ⟨g,0,none⟩) (pl+ks.length) c' (zz P++zz els'):=zpU (p:=P) (els:=els) (by rw[HEL.out];exact HOz.out) HP2.out.1 HGC.out HP3.out.1 HP3.out.2 (by rw[HPL.out];exact HP5.out.1) (by rw[HPL.out];exact HP5.out.2);have hfC:Fm mb w6 wC:=Fm.of_grown zrV.out;have hownC:=hfC.own HM6.out zsd;have hbd:Bdry (L.map (zg m)) k:=Bdry.end_ HSR.out hk1 zq7.out (fun i y h1 h2 h3=>HK3.out i y h1 h2 h3) HK4.out
       have hks:=HRz.out.keys;have hdt:(L.take k).drop a=(L.drop a).take j:=by
        rw[List.drop_take,HL.out]
       have hpr:els'=zx m ((L.take k).drop a) x:=by
        rw[hdt];unfold zx;rw[<-HSE.out];exact zpS hks.1 hks.2 zrp.out (by rw[<-HEL.out];exact HP2.out.1) (HP2.out.2.imp fun h=>by omega)
       have hsh:=zpy (x:=x) (show a<=k by omega) HB.out;rw[<-hpr,<-HP.out]at hsh;have hle:(zx m (L.take k) x).length=pl+ks.length:=by
        rw[hsh,length_append,HPL.out,HP2.out.1.length_eq,HEL.out,length_map]
       refine⟨⟨k,pl+ks.length,c',some ⟨g,0,none⟩,hk2,rfl,Zh hbd,rfl,Zh hle,Zh ?_,HMC,Zh ((HFz.out.new (HP7.out _ hbg)).trans hfC)⟩,by simp[intOf];omega⟩;rw[hsh,zeA];exact hownC
      ·unfold qk at zsl hen;have HO5:Hid (Own w5 w1.heap.size 71 3 A' (pl+ks.length) c' (zz P++zz (ks.map fun k=>(k,(S.count k:Int))))):=Zh (zpN hg1 (fun cs T fr=>HRz.out.iter) HOz.out);have HF5:Hid (Fm mb w1 w5):=Zh (HFz.out.new ⟨hg1.os,hg1.tape,hg1.output,hg1.size,fun b hb=>hg1.block b (Nat.lt_of_lt_of_le hb HFz.out.size) (fun e=>by injection e with e;omega)⟩);have HR5:=Zh hR1;have HLQ:Hid (w5.rangeLeft mb it<wr.rangeLeft mb it):=Zh (by rw[hR1.left_eq,HRz.out.left_eq];exact zv4)
       have HRS:=Zh (show zz P++zz (ks.map fun k=>(k,(S.count k:Int)))++[.int .i64 k1.1,.int .i64 k1.2,.int .i64 (S.count k1)]=zz P++zz ((ks++[k1]).map fun k=>(k,(S.count k:Int))) by
        rw[List.map_append,zeA,List.append_assoc];rfl)
       generalize hcn:(S.count k1:Int)=cn at*
       have hs5:=HF5.out.size;clear hR1 hg1 hkS zxu zua;go_upto_region 18 with fail
       go_wp2_with (at_builtin;go_loud (refine zM _ rfl _ _ 50 rfl w1.heap.size 71 (.agg #[.int .i64 0,.int .i64 0,.int .i64 0]) 3 24 Tryz.underlying50 zaH rfl (by omega) (by omega) A' (pl+ks.length) c' _ rfl (HO5.out.ext Zi) (some ⟨w5.heap.size+1,0,none⟩) 1 1 [.int .i64 k1.1,.int .i64 k1.2,.int .i64 cn] rfl (by have h:=Arr.new (w5.alloc (.cells #[.int .i64 k1.1,.int .i64 k1.2,.int .i64 cn] 71)) 71 #[.int .i64 k1.1,.int .i64 k1.2,.int .i64 cn];rw[World.size_alloc]at h;exact h) (by simp) (by simp[Value.oneCell']) (by omega) (by simp;omega) ?_);intro A6 c6 w6 zr5 hg6)
       have hxb:Ext w5 ((w5.alloc (.cells #[.int .i64 k1.1,.int .i64 k1.2,.int .i64 cn] 71)).alloc (.cells #[.int .i64 k1.1,.int .i64 k1.2,.int .i64 cn] 71)):=Zi;have hR6:=(HR5.out.ext hxb).grow hg6;rw[HRS.out]at zr5;refine⟨⟨ks++[k1],A6,c6,cnt1,by simp[Nat.add_assoc],by simp;omega,Zh (by rw[length_append,<-Nat.add_assoc];exact zr5),Zh hR6,Zh ((HF5.out.trans (Fm.of_ext hxb)).new (hg6.below.mono Zr))⟩,?_⟩
       rw[hR6.left_eq,HRz.out.left_eq];exact zv4
  ·obtain rfl:a=q:=by omega
   clear hlt;have zr8:L.take a=L:=List.take_of_length_le (by rw[HQ.out];exact Zr);have zrw:=HPL.out;have HO2:=HO.out;rw[zr8]at zrw HO2;go_wp2_with fail
   go_ret;rw[zrw];exact⟨A,c,rfl,HO2.lower (by omega),HM.out,(Fm.of_ext hx1).trans HF.out⟩
theorem zpW{m:List (List Int)}(hM:MatA w0 A m)(zr7:m.length<=1099511627776)(hc:m.length<=c)(hc2:c<=9223372036854775807)(hr:ZH m=true)(hX:Ints w0 X 2 .i64 x)(hl:x.length<=1099511627776)[hx:Ext w0 w]:
  Cq 102 #[.slice A m.length c,.slice X x.length d] w (zy w (.bool (je m.length x))):=by
 have zsy:=fun W(e:Ext w0 W)=>zbT (w:=W) hM zr7 hc hc2
 rw[hr]at zsy;have HR:=Zh zsy;have HF:=Zh (fun W(e:Ext w0 W)=>zc5 (w:=W) (c:=d) (n:=m.length) hX hl);clear zsy hM hX hr;generalize je m.length x=r at*
 generalize x.length=xl at*
 go_enter Tryz.func102,Tryz.ntmps102;go_wp2_with (first
  |(go_at_call 100;refine(HR.out _ Zi).mono ?_;rintro e w1 ⟨rfl,hs1⟩)
  |(go_at_call 132;refine(HF.out _ Zi).mono ?_;rintro e w2 ⟨rfl,rfl⟩))
 go_ret;exact⟨rfl,Step.of _ _⟩
theorem zpX{m:List (List Int)}(hM:MatA w0 A m)(hc:m.length<=c)(hc2:c<=9223372036854775807)(hR:RedM m)(hX:Ints w0 X 2 .i64 x)(hxl:x.length=m.length)(hb:∀y∈x,-1099511627776<=y/\y<=1099511627776)[hx:Ext w0 w]:
  Cq 51 #[.slice A m.length c,.slice X x.length d] w (zy w (.tuple #[.int .i64 (if QW (zg m x) then zg m x else 0),.bool (QW (zg m x))])):=by
 obtain⟨u,hu⟩:∃u,u=(if QW (zg m x)=true then zg m x else 0):=⟨_,rfl⟩;obtain⟨r,hr'⟩:∃r,r=QW (zg m x):=⟨_,rfl⟩;rw[<-hu,<-hr'];have h8:=hR.n8;have zse:je m.length x=true:=by
  rw[zfK hxl];exact zaf.2 hb
 have hv:=fun W(e:Ext w0 W)=>zpW (w:=W) (c:=c) (d:=d) hM (by omega) hc hc2 hR.red hX (by omega)
 have hf:=fun W(e:Ext w0 W)=>zc5 (w:=W) (c:=d) (n:=m.length) hX (by omega)
 rw[zse]at hv hf;have HV:=Zh hv;have HF:=Zh hf;have HA:=Zh (fun W(e:Ext w0 W)=>zfL (w:=W) (c:=c) (d:=d) hM hX hR.all hxl h8 hR.ent hb);have HD:Hid (∀W Y dy,Ext w0 W->Ints W Y 2 .i64 (zU m x)->Cq 133 #[.slice X x.length d,.slice Y (zU m x).length dy] W (zy W (.tuple #[.int .i64 u,.bool r]))):=Zh (fun W Y dy e hY=>by
  have h:=zga (w0:=W) (w:=W) (c:=d) (d:=dy) (hX.ext e) hY (by rw[zah,hxl]) (by omega) hb (fun z hz=>by
   obtain⟨r,hr,rfl⟩:=List.mem_map.1 hz;have hb:=zag (A:=262144) (B:=1099511627776) (by omega) (by omega) r x (hR.ent r hr) hb;have hrl:=hR.all r hr;omega)
  rw[zah,<-hxl];exact h.mono fun e w'⟨he,hs⟩=>⟨by rw[he,hu,hr'];rfl,hs⟩)
 unfold zc0 at HA;clear hu hr';obtain⟨al,hal⟩:=Yz ((zU m x).length);rw[hal]at HA HD;generalize zU m x=Y at*
 clear hv hf zse hM hX hR hb hal;rw[hxl] at*
 generalize m.length=n at*
 have HI:Hid (∀W,Ext w0 W->Cq 99 #[.slice A n c,.slice X n d,.slice X n d] W (zy W (.tuple #[.int .i64 u,.bool r]))):=Zh (fun W e=>by
  go_enter Tryz.func99,Tryz.ntmps99;go_wp2_with (first
   |(go_at_call 102;refine(HV.out _ Zi).mono ?_;rintro e w1 ⟨rfl,hs1⟩)
   |(go_at_call 132;refine(HF.out _ Zi).mono ?_;rintro e w2 ⟨rfl,rfl⟩)
   |(go_at_call 134;refine(HA.out _ Zi).mono ?_;rintro e w3 ⟨B3,d3,rfl,hI3,-,-,hs3⟩)
   |(go_at_call 133;refine(HD.out _ _ _ Zi hI3).mono ?_;rintro e w4 ⟨rfl,hs4⟩))
  go_ret2
  exact⟨rfl,Step.of _ _⟩)
 clear HV HF HA HD;go_enter Tryz.func51,Tryz.ntmps51;go_wp2_with (go_at_call 99;refine(HI.out _ Zi).mono ?_;rintro e w1 ⟨rfl,hs1⟩)
 go_ret2
 exact⟨rfl,Step.of _ _⟩
structure PrfL(m L:List (List Int)):Prop where
 len:L.length<=100000
 zd:∀y∈L,y.length=m.length
 srt:(L.map (zg m)).Pairwise (·<=·)
 nb:∀y∈L,0<=zg m y/\zg m y<=4611686018427387904
def j7(m L:List (List Int))(x:List Int):Prop:=∀y∈L,-4611686018427387904<=zG (zU m y) x/\zG (zU m y) x<=4611686018427387904
def ziN(w:World)(m:List (List Int))(P:List (List Int)->Prop)(x:List Int)(e:Ending)(w':World):Prop:=
 ∃A c L,e= .returned (.tuple #[.slice A (zx m L x).length c,.int .i64 0])/\P L/\Own w' w.heap.size 71 3 A (zx m L x).length c (zz (zx m L x))/\Step w w'
set_option maxRecDepth 20000 in
theorem zpY{b u:Int}{m:List (List Int)}{P:List (List Int)->Prop}(hM:MatA w0 A m)(hc:m.length<=c)(hc2:c<=9223372036854775807)(hR:RedM m)(hX:Ints w0 X 2 .i64 x)(hxl:x.length=m.length)(hb:∀y∈x,-1099511627776<=y/\y<=1099511627776)(hnb:QW (zg m x)=true)
  (zsW:∀W,Ext w0 W->Cq 34 #[.slice A m.length c,.int .i64 b,.int .i64 u] W (zaF W P)) (hP:∀L,P L->PrfL m L/\j7 m L x) [hx:Ext w0 w]:
  Cq 25 #[.slice A m.length c,.int .i64 b,.int .i64 u,.slice X x.length d] w (ziN w m P x):=by
 have h8:=hR.n8;have zr9:∀r∈m,r.length<=m.length:=fun r hr=>Nat.le_of_eq (hR.all r hr)
 have hPN:∀L,P L->L.length<=100000/\(∀y∈L,y.length=m.length)/\∀y∈L,-9223372036854775808<=zg m y/\zg m y<=9223372036854775807:=fun L hL=>by
  obtain⟨⟨h1,h2,-,h4⟩,-⟩:=hP L hL;exact⟨h1,h2,fun y hy=>by have:=h4 y hy;omega⟩
 have HNS:Hid (∀W,Ext w0 W->Cq 17 #[.slice A m.length c,.int .i64 b,.int .i64 u] W (Ju W m P)):=Zh (fun W e=>zeI (w:=W) hM (by omega) zr9 zsW hPN);clear zr9 hPN;have hn:=fun W(e:Ext w0 W)=>zpX (w:=W) (c:=c) (d:=d) hM hc hc2 hR hX hxl hb
 rw[hnb,if_pos rfl,hxl]at hn;rw[hxl];have HN:=Zh hn;have HPR:Hid (∀(W0 W:World)(LA NA DA:Option Addr)(lc nc dc mb:Nat)(L:List (List Int)),P L->SysV W0 m L LA NA DA->L.length<=dc->dc<=9223372036854775807->Ext w0 W0->Ext W0 W->W0.heap.size<=mb->MapC W mb 0 []->Cq 37 #[.agg #[.slice LA L.length lc,.slice NA L.length nc,.slice DA L.length dc],.slice X m.length d,.map (some mb)] W (jQ W mb (zx m L x))):=Zh (fun W0 W LA NA DA lc nc dc mb L hL hS h1 h2 e0 e1 hmb hMC=>by
  obtain⟨hp,hi⟩:=hP L hL;have h:=zeJ (w0:=W0) (w:=W) (lc:=lc) (nc:=nc) (dc:=dc) (xc:=d) (n:=m.length) hS rfl hp.len h1 h2 rfl (by omega) hp.srt ⟨_,hX.ext e0⟩ hxl hp.nb hi hmb hMC;exact h)
 clear hn hP zsW hM hX hb hnb hR hxl;unfold Ju at HNS;unfold jQ at HPR;unfold ziN;generalize m.length=n at*
 have hmk:=@run_makeMap Tryz.prog;go_enter Tryz.func25,Tryz.ntmps25;go_upto_region 7 with (first
  |(go_at_call 17;refine(HNS.out _ Zi).mono ?_;rintro e w1 ⟨LA,NA,DA,lc,nc,dc,L,rfl,hS,hPL,-,-,-,-,hd1,hd2,hs1⟩;have HSY:=Zh hS;have HPL:=Zh hPL;clear hS hPL)
  |(go_at_call 51;refine(HN.out _ Zi).mono ?_;rintro e w2 ⟨rfl,hs2⟩))
 have hx2:Ext w w2:=(Zi:Ext w (w1.alloc (.cells #[.slice LA L.length lc,.slice NA L.length nc,.slice DA L.length dc] 45))).trans Zi;have zsU:Ext w1 w2:=Zi;have HPC:=Zh (HPR.out w2 (w2.alloc (.map #[] 0)) LA NA DA lc nc dc w2.heap.size L HPL.out (HSY.out.ext zsU) hd1 hd2 (hx.trans hx2) Zi Zr (MapC.made w2));clear HPR HN HNS;go_wp2_with (go_at_call 37;refine HPC.out.mono ?_;rintro e w3 ⟨A3,c3,rfl,hO3,hM3,hF3⟩)
 go_ret2
 have hx3:Ext w w3:=Fm.ext0 (hx2.trans Zi) hx2.size hF3;have hsz:=hx2.size;exact⟨A3,c3,L,rfl,HPL.out,hO3.lower (by simp;omega),hx3.toStep⟩
end
section
open Go.Sort
section
variable {α:Type} [Inhabited α] {lt:α->α->Bool} {d d' e:Array α}
theorem gi(h:i=j):d[i]! =d[j]! :=by rw[h]
def RotIn(a m b:Nat)(d d':Array α):Prop:=∀i,d'[i]! =if a<=i/\i<a+(b-m) then d[m+(i-a)]! else if a+(b-m)<=i/\i<b then d[a+(i-(a+(b-m)))]! else d[i]!
def SwpIn(a b n:Nat)(d d':Array α):Prop:=∀i,d'[i]! =if a<=i/\i<a+n then d[b+(i-a)]! else if b<=i/\i<b+n then d[a+(i-b)]! else d[i]!
theorem SwpIn.zero(a b:Nat)(d:Array α):SwpIn a b 0 d d:=fun i=>by grind
theorem SwpIn.step(h:SwpIn a b n d d')(hd:a+n<b)(hb:b+n<d'.size):SwpIn a b (n+1) d (swp d' (a+n) (b+n)):=fun i=>by
 have h1:d'[a+n]! =d[a+n]! :=by rw[h (a+n),if_neg (by omega),if_neg (by omega)]
 have h2:d'[b+n]! =d[b+n]! :=by rw[h (b+n),if_neg (by omega),if_neg (by omega)]
 rw[swp_get d' (by omega) hb,h1,h2,h i];grind
theorem zpZ(hi:i<=m)(h:j<i)(hs:SwpIn (m-i) m j d d')(hr:RotIn (m-(i-j)) m (m+j) d' e):RotIn (m-i) m (m+j) d e:=fun x=>by
 rw[hr x];repeat' split
 all_goals (rw[hs];grind)
theorem zp0(hi:i<=m)(h:i<j)(hs:SwpIn (m-i) (m+j-i) i d d')(hr:RotIn (m-i) m (m+(j-i)) d' e):RotIn (m-i) m (m+j) d e:=fun x=>by
 rw[hr x];repeat' split
 all_goals (rw[hs];grind)
theorem zp1(hi:i<=m)(hs:SwpIn (m-i) m i d e):RotIn (m-i) m (m+i) d e:=fun x=>by
 rw[hs x];grind
theorem zeK(h:s=m∨b<=m):RotIn s m b d d:=fun x=>by grind
theorem RotIn.up(h:RotIn a (a+1) (k+1) d d')(hk:a<=k)(hb:k+1<d'.size):RotIn a (a+1) (k+2) d (swp d' k (k+1)):=fun i=>by
 have h1:d'[k]! =d[a]! :=by rw[h k,if_neg (by omega),if_pos (by omega)];grind
 have h2:d'[k+1]! =d[k+1]! :=by rw[h (k+1),if_neg (by omega),if_neg (by omega)]
 rw[swp_get d' (by omega) hb,h1,h2,h i];grind
theorem RotIn.down(h:RotIn (k+1) m (m+1) d d')(hk:k+1<=m)(hb:m<d'.size):RotIn k m (m+1) d (swp d' (k+1) k):=fun i=>by
 have h1:d'[k+1]! =d[m]! :=by rw[h (k+1),if_pos (by omega)];grind
 have h2:d'[k]! =d[k]! :=by rw[h k,if_neg (by omega),if_neg (by omega)]
 rw[swp_get d' (by omega) (by omega),h1,h2,h i];grind
theorem Jv(S:SWO lt)(h:SortedIn lt a b d)(h1:a<=i)(h2:i<=j)(h3:j<b):lt d[j]! d[i]! =false:=by
 rcases Nat.lt_or_eq_of_le h2 with h2|rfl
 ·exact h i j h1 h2 h3
 ·exact S.irrefl _
theorem Q9{a' b':Nat}(h:SortedIn lt a b d)(h1:a<=a')(h2:b'<=b):SortedIn lt a' b' d:=fun i j x y z=>h i j (by omega) y (by omega)
theorem J3(h:SortedIn lt lo hi d)(hp:PermIn a b d d')(ho:hi<=a∨b<=lo):SortedIn lt lo hi d':=fun i j x y z=>by
 rw[hp.2.1 j (by omega),hp.2.1 i (by omega)];exact h i j x y z
theorem zp2(S:SWO lt)(h:SortedIn lt (a+1) b d)(h1:a+1<=i)(h2:i<=b)(hq1:∀x,a+1<=x->x<i->lt d[x]! d[a]! =true)(hq2:∀x,i<=x->x<b->lt d[x]! d[a]! =false)(hr:RotIn a (a+1) i d d'):SortedIn lt a b d':=by
 have g1:∀x,a<=x->x+1<i->d'[x]! =d[x+1]! :=fun x h3 h4=>by rw[hr x,if_pos (by omega)];exact gi (by omega)
 have g2:d'[i-1]! =d[a]! :=by rw[hr,if_neg (by omega),if_pos (by omega)];exact gi (by omega)
 have g3:∀x,i<=x->d'[x]! =d[x]! :=fun x h3=>by rw[hr x,if_neg (by omega),if_neg (by omega)]
 intro x y hx hxy hy;by_cases c1:x+1<i
 ·rw[g1 x hx c1];by_cases c2:y+1<i
  ·rw[g1 y (by omega) c2];exact h _ _ (by omega) (by omega) (by omega)
  ·by_cases c3:y+1=i
   ·rw[gi (d:=d') (show y=i-1 by omega),g2];exact S.asymmA (hq1 _ (by omega) (by omega))
   ·rw[g3 y (by omega)];exact h _ _ (by omega) (by omega) (by omega)
 ·by_cases c3:x+1=i
  ·grind
  ·rw[g3 x (by omega),g3 y (by omega)];exact h _ _ (by omega) (by omega) (by omega)
theorem zp3(S:SWO lt)(h:SortedIn lt a m d)(h1:a<=i)(h2:i<=m)(hq1:∀x,a<=x->x<i->lt d[m]! d[x]! =false)(hq2:∀x,i<=x->x<m->lt d[m]! d[x]! =true)(hr:RotIn i m (m+1) d d'):SortedIn lt a (m+1) d':=by
 have g1:∀x,x<i->d'[x]! =d[x]! :=fun x h3=>by rw[hr x,if_neg (by omega),if_neg (by omega)]
 have g2:d'[i]! =d[m]! :=by rw[hr,if_pos (by omega)];exact gi (by omega)
 have g3:∀x,i<x->x<=m->d'[x]! =d[x-1]! :=fun x h3 h4=>by rw[hr x,if_neg (by omega),if_pos (by omega)];exact gi (by omega)
 intro x y hx hxy hy;by_cases c1:x<i
 ·rw[g1 x c1];by_cases c2:y<i
  ·rw[g1 y c2];exact h _ _ hx hxy (by omega)
  ·by_cases c3:y=i
   ·grind
   ·rw[g3 y (by omega) (by omega)];exact h _ _ hx (by omega) (by omega)
 ·rw[g3 y (by omega) (by omega)];by_cases c3:x=i
  ·rw[c3,g2];exact S.asymmA (hq2 _ (by omega) (by omega))
  ·rw[g3 x (by omega) (by omega)];exact h _ _ (by omega) (by omega) (by omega)
def Bis(q:Nat->Bool)(lo hi s r:Nat):Prop:=lo<=s/\s<=r/\r<=hi/\(∀c,lo<=c->c<s->q c=true)/\∀c,r<=c->c<hi->q c=false
def Jw(q:Nat->Bool)(lo hi:Nat):Prop:=∀c c',lo<=c'->c'<=c->c<hi->q c=true->q c'=true
theorem Bis.start{q:Nat->Bool}(h:lo<=hi):Bis q lo hi lo hi:=⟨Zr,h,Zr,fun c _ _=>by omega,fun c _ _=>by omega⟩
theorem Bis.up{q:Nat->Bool}(h:Bis q lo hi s r)(hm:Jw q lo hi)(h1:s<=c)(h2:c<r)(hc:q c=true):Bis q lo hi (c+1) r:=by
 obtain⟨a1,a2,a3,a4,a5⟩:=h;exact⟨by omega,by omega,a3,fun x h3 h4=>hm c x h3 (by omega) (by omega) hc,a5⟩
theorem Bis.down{q:Nat->Bool}(h:Bis q lo hi s r)(hm:Jw q lo hi)(h1:s<=c)(h2:c<r)(hc:q c=false):Bis q lo hi s c:=by
 obtain⟨a1,a2,a3,a4,a5⟩:=h;refine⟨a1,h1,by omega,a4,fun x h3 h4=>?_⟩
 cases hx:q x
 ·rfl
 ·rw[hm x c (by omega) h3 h4 hx]at hc;grind
theorem zp4(S:SWO lt)(x:α)(h:SortedIn lt m b d):Jw (fun c=>lt d[c]! x) m b:=fun c c' h1 h2 h3 hc=>by
 cases hx:lt d[c']! x
 ·have:=S.ntrans _ _ _ (Jv S h h1 h2 h3) hx;grind
 grind
theorem zp5(S:SWO lt)(x:α)(h:SortedIn lt a m d):Jw (fun c=>!lt x d[c]!) a m:=fun c c' h1 h2 h3 hc=>by
 simp only[Bool.not_eq_true']at hc|-
 exact S.ntrans _ _ _ hc (Jv S h h1 h2 h3)
def zeL(a m b mid s0 r0:Nat):Prop:=a<m/\m<b/\mid=(a+b) / 2/\((m<=mid/\s0=a/\r0=m)∨(mid<m/\s0=mid+m-b/\r0=mid))
theorem zp6(S:SWO lt)(hR:zeL a m b mid s0 r0)(h1:SortedIn lt a m d)(h2:SortedIn lt m b d):Jw (fun c=>!lt d[mid+m-1-c]! d[c]!) s0 r0:=fun c c' h3 h4 h5 hc=>by
 obtain⟨r1,r2,r3,hR⟩:=hR;simp only[Bool.not_eq_true']at hc|-
 exact S.ntrans _ _ _ (S.ntrans _ _ _ (Jv S h2 (i:=mid+m-1-c) (j:=mid+m-1-c') (by omega) (by omega) (by omega)) hc) (Jv S h1 (by omega) h4 (by omega))
theorem zp7(S:SWO lt)(hR:zeL a m b mid s0 r0)(h1:SortedIn lt a m d)(h2:SortedIn lt m b d)(hB:Bis (fun c=>!lt d[mid+m-1-c]! d[c]!) s0 r0 s s)(hr:RotIn s m (mid+m-s) d d'):
  SortedIn lt a s d'/\SortedIn lt s mid d'/\SortedIn lt mid (mid+m-s) d'/\SortedIn lt (mid+m-s) b d'/\∀x y,a<=x->x<mid->mid<=y->y<b->lt d'[y]! d'[x]! =false:=by
 obtain⟨r1,r2,r3,hR⟩:=hR;obtain⟨b1,-,b2,q1,q2⟩:=hB;simp only[Bool.not_eq_true',Bool.not_eq_false']at q1 q2;have g1:∀x,x<s->d'[x]! =d[x]! :=fun x h=>by rw[hr x,if_neg (by omega),if_neg (by omega)]
 have g2:∀x,s<=x->x<mid->d'[x]! =d[m+(x-s)]! :=fun x h h'=>by rw[hr x,if_pos (by omega)]
 have g3:∀x,mid<=x->x<mid+m-s->d'[x]! =d[s+(x-mid)]! :=fun x h h'=>by rw[hr x,if_neg (by omega),if_pos (by omega)];exact gi (by omega)
 have g4:∀x,mid+m-s<=x->d'[x]! =d[x]! :=fun x h=>by rw[hr x,if_neg (by omega),if_neg (by omega)]
 refine⟨fun x y hx hxy hy=>?_,fun x y hx hxy hy=>?_,fun x y hx hxy hy=>?_,fun x y hx hxy hy=>?_,fun x y hx hx2 hy hy2=>?_⟩
 ·rw[g1 x (by omega),g1 y hy];exact h1 _ _ hx hxy (by omega)
 ·rw[g2 x hx (by omega),g2 y (by omega) hy];exact h2 _ _ (by omega) (by omega) (by omega)
 ·rw[g3 x hx (by omega),g3 y (by omega) hy];exact h1 _ _ (by omega) (by omega) (by omega)
 ·rw[g4 x hx,g4 y (by omega)];exact h2 _ _ (by omega) (by omega) (by omega)
 ·by_cases c1:x<s
  ·rw[g1 x c1];by_cases c2:y<mid+m-s
   ·rw[g3 y hy c2];exact h1 _ _ hx (by omega) (by omega)
   ·rw[g4 y (by omega)];have hs:s0<s:=by omega
    have hq:=q1 (s-1) (by omega) (by omega);rw[gi (d:=d) (show mid+m-1-(s-1)=mid+m-s by omega)]at hq;exact S.ntrans _ _ _ (S.ntrans _ _ _ (Jv S h2 (by omega) (by omega) hy2) hq) (Jv S h1 hx (by omega) (by omega))
  ·rw[g2 x (by omega) hx2];by_cases c2:y<mid+m-s
   ·rw[g3 y hy c2];have hs:s<r0:=by omega
    have hq:=S.asymmA (q2 s Zr hs);exact S.ntrans _ _ _ (S.ntrans _ _ _ (Jv S h1 (i:=s) (by omega) (by omega) (by omega)) hq) (Jv S h2 (by omega) (by omega) (by omega))
   ·rw[g4 y (by omega)];exact h2 _ _ (by omega) (by omega) hy2
theorem zp8{d1 d2:Array α}(hm:a<=mid/\mid<=b)(hb:b<=d.size)(hx:∀x y,a<=x->x<mid->mid<=y->y<b->lt d[y]! d[x]! =false)(p1:PermIn a mid d d1)(s1:SortedIn lt a mid d1)(p2:PermIn mid b d1 d2)(s2:SortedIn lt mid b d2):SortedIn lt a b d2:=by
 have h1:=permIn_all d d1 a mid (fun z=>∀y,mid<=y->y<b->lt d[y]! z=false) (by omega) p1 (fun x h1 h2 y h3 h4=>hx x y h1 h2 h3 h4);have h2:=permIn_all d1 d2 mid b (fun z=>∀x,a<=x->x<mid->lt z d1[x]! =false) (by rw[p1.1];grind) p2 (fun y h3 h4 x h5 h6=>by
  rw[p1.2.1 y (by omega)];grind)
 intro x y hx1 hxy hy;by_cases c1:y<mid
 ·rw[p2.2.1 x (by omega),p2.2.1 y (by omega)];exact s1 _ _ hx1 hxy c1
 ·by_cases c2:x<mid
  ·rw[p2.2.1 x (by omega)];grind
  ·exact s2 _ _ (by omega) hxy hy
def FstIn(lt:α->α->Bool)(t:Nat)(d:Array α):Prop:=∀u,u<t->SortedIn lt (u*20) (u*20+20) d
def BlkIn(lt:α->α->Bool)(k n:Nat)(d:Array α):Prop:=∀t,SortedIn lt (t*k) (min (t*k+k) n) d
def MidIn(lt:α->α->Bool)(k t n:Nat)(d:Array α):Prop:=(∀u,u<t->SortedIn lt (u*(2*k)) (u*(2*k)+2*k) d)/\∀u,2*t<=u->SortedIn lt (u*k) (min (u*k+k) n) d
theorem zeM{u:Nat}(h:u<t):u*k+k<=t*k:=by
 have:=Nat.mul_le_mul_right k (show u+1<=t from h);rwa [Nat.add_mul,Nat.one_mul]at this
theorem FstIn.step(h:FstIn lt t d)(hp:PermIn (t*20) (t*20+20) d d')(hs:SortedIn lt (t*20) (t*20+20) d'):FstIn lt (t+1) d':=fun u hu=>by
 rcases Zl u t with h1|h1
 ·exact J3 (h u h1) hp (.inl (by omega))
 ·obtain rfl:u=t:=by omega
  exact hs
theorem FstIn.end_(h:FstIn lt t d)(ht:t*20<=n)(ht2:n<t*20+20)(hp:PermIn (t*20) n d d')(hs:SortedIn lt (t*20) n d'):BlkIn lt 20 n d':=fun u=>by
 rcases Zl u t with h1|h1
 ·exact Q9 (J3 (h u h1) hp (.inl (by omega))) Zr (by omega)
 ·rcases Zl t u with h2|h2
  ·intro x y h3 h4 h5;omega
  ·obtain rfl:u=t:=by omega
   exact Q9 hs Zr (by omega)
theorem MidIn.zero(h:BlkIn lt k n d):MidIn lt k 0 n d:=⟨fun u hu=>absurd hu (by omega),fun u _=>h u⟩
theorem MidIn.parts(h:MidIn lt k t n d)(hn:t*(2*k)+k<=n):SortedIn lt (t*(2*k)) (t*(2*k)+k) d/\SortedIn lt (t*(2*k)+k) (min (t*(2*k)+2*k) n) d:=by
 have e1:2*t*k=t*(2*k):=by rw[Nat.mul_comm 2 t,Nat.mul_assoc]
 have e2:(2*t+1)*k=t*(2*k)+k:=by rw[Nat.add_mul,e1,Nat.one_mul]
 have h1:=h.2 (2*t) Zr;have h2:=h.2 (2*t+1) (by omega);rw[e1]at h1;rw[e2]at h2;exact⟨Q9 h1 Zr (by omega),Q9 h2 Zr (by omega)⟩
theorem MidIn.step(h:MidIn lt k t n d)(hp:PermIn (t*(2*k)) (t*(2*k)+2*k) d d')(hs:SortedIn lt (t*(2*k)) (t*(2*k)+2*k) d'):MidIn lt k (t+1) n d':=by
 refine⟨fun u hu=>?_,fun u hu=>?_⟩
 ·rcases Zl u t with h1|h1
  ·exact J3 (h.1 u h1) hp (.inl (zeM h1))
  ·obtain rfl:u=t:=by omega
   exact hs
 ·refine J3 (h.2 u (by omega)) hp (.inr ?_);have:=Nat.mul_le_mul_right k hu;have e:2*(t+1)*k=t*(2*k)+2*k:=by rw[Nat.mul_comm 2 (t+1),Nat.mul_assoc,Nat.add_mul,Nat.one_mul]
  omega
theorem MidIn.end_(h:MidIn lt k t n d)(ht:t*(2*k)<=n)(ht2:n<t*(2*k)+2*k)(hp:PermIn (t*(2*k)) n d d')(hs:SortedIn lt (t*(2*k)) n d'):BlkIn lt (2*k) n d':=fun u=>by
 rcases Zl u t with h1|h1
 ·exact Q9 (J3 (h.1 u h1) hp (.inl (zeM h1))) Zr (by omega)
 ·rcases Zl t u with h2|h2
  ·have:=zeM (k:=2*k) h2;intro x y h3 h4 h5;omega
  ·obtain rfl:u=t:=by omega
   exact Q9 hs Zr (by omega)
theorem MidIn.ze(h:MidIn lt k t n d)(hn:n<=t*(2*k)+k):SortedIn lt (t*(2*k)) n d:=by
 have e1:2*t*k=t*(2*k):=by rw[Nat.mul_comm 2 t,Nat.mul_assoc]
 have h1:=h.2 (2*t) Zr;rw[e1]at h1;exact Q9 h1 Zr (by omega)
theorem BlkIn.all(h:BlkIn lt k n d)(hk:n<=k):SortedIn lt 0 n d:=by
 have:=h 0;rw[Nat.zero_mul]at this;exact Q9 this Zr (by omega)
end
end
section
open Go.RowKit Go.Shelf Go.Lib Go.Sort
def qQ{α:Type}[Inhabited α](enc:α->List Value)(k:Nat)(w0:World)(blk off:Nat)(Q:Array α->Prop)(e:Ending)(w':World):Prop:=e= .returned (.tuple #[])/\∃dk,SWK enc k w0 blk off dk w'/\Q dk
section
variable {α:Type} [Inhabited α] {enc:α->List Value} {k:Nat} {w0 w:World} {blk off:Nat} {d0 d:Array α}
set_option maxRecDepth 1000000 in
theorem zp9(aE:∀w,(isAgg 52).run Tryz.prog w= .ok true w)(zE:∀w,(Go.sizeOf 52).run Tryz.prog w= .ok k w)(g cap a b n:Nat)(cb:Array Value)(R:RowK enc k w0 blk off d0)(hs:d0.size=d.size)(S:SWK enc k w0 blk off d w)(h1:a+n<=b)(h2:b+n<=d.size)(hsz:d.size<4611686018427387904):
  Cq 253 #[.slice (some ⟨blk,off,none⟩) d.size cap,.int .i64 a,.int .i64 b,.int .i64 n,.func (.func g) #[] cb] w (qQ enc k w0 blk off fun dk=>SwpIn a b n d dk/\PermIn a (b+n) d dk):=by
 have S0:Hid (SWK enc k w0 blk off d w):=S;unfold qQ;clear S;have mixed:Tryz.prog.follows Departure.mixedOrders=true:=by kernel_rfl
 go_enter Tryz.func253,Tryz.ntmps253;go_wp2_with fail
 go_loopw [10] (fun iv wr=>∃(i:Nat) (dk:Array α),iv= .int .i64 i/\i<=n/\dk.size=d.size/\Hid (SWK enc k w0 blk off dk wr)/\Hid (SwpIn a b i d dk)/\Hid (PermIn a (b+n) d dk)) (fun iv _=>n-(intOf iv).toNat)
 case atStart=>exact⟨0,d,rfl,by omega,rfl,S0,Zh (SwpIn.zero _ _ _),Zh (permIn_refl _ _ _)⟩
 case round=>
  clear S0;obtain⟨i,dk,rfl,hi,hds,S1,HW,HP⟩:=hrel;by_cases hlt:i<n
  ·have ea1:((a:Int)+(i:Int)).toNat=a+i:=by omega
   have pa1:(0:Int)<=(a:Int)+(i:Int):=by omega
   have ba1:(a:Int)+(i:Int)<(d.size:Int):=by omega
   have ra1:IntKind.i64.wrap ((a:Int)+(i:Int))=(a:Int)+(i:Int):=by rw[IntKind.wrap_i64];omega
   have ec1:((b:Int)+(i:Int)).toNat=b+i:=by omega
   have pc1:(0:Int)<=(b:Int)+(i:Int):=by omega
   have bc1:(b:Int)+(i:Int)<(d.size:Int):=by omega
   have rc1:IntKind.i64.wrap ((b:Int)+(i:Int))=(b:Int)+(i:Int):=by rw[IntKind.wrap_i64];omega
   have S2:Hid (SWK enc k w0 blk off (swp dk (a+i) (b+i)) ((wr.drew.setCells blk (off+(a+i)*k) (enc dk[b+i]!)).setCells blk (off+(b+i)*k) (enc dk[a+i]!))):=S1.out.swapped R (a+i) (b+i) (by omega) (by omega);have l1a:=S1.out.ld1 R (by omega) Tryz.prog (a+i) (by omega);have l1b:=S1.out.ld1 R (by omega) Tryz.prog (b+i) (by omega);have s1a:=S1.out.st1 R (by omega) Tryz.prog (a+i) (by omega) dk[b+i]!;have s1b:=S1.out.st2 R (by omega) Tryz.prog (a+i) (b+i) (by omega) (by omega) dk[b+i]! dk[a+i]!
   have n1a:(enc dk[a+i]!).length=k:=R.hk _;have n1b:(enc dk[b+i]!).length=k:=R.hk _;generalize enc dk[a+i]! =cI at S2 l1a s1b n1a;generalize enc dk[b+i]! =cJ at S2 l1b s1a s1b n1b;clear S1;go_wp2_with fail
   go_big_region_o
   clear l1a l1b s1a s1b;generalize (wr.drew.setCells blk (off+(a+i)*k) cJ).setCells blk (off+(b+i)*k) cI=w2 at S2|-
   go_wp2;exact⟨⟨i+1,swp dk (a+i) (b+i),by go_num,by omega,by rw[size_swp];exact hds,S2,Zh (HW.out.step (by omega) (by omega)),Zh (permIn_trans _ _ _ _ _ HP.out (swp_permIn _ _ _ _ _ (by omega) (by omega) (by omega) (by omega) (by omega)))⟩,by simp[intOf];omega⟩
  ·obtain rfl:i=n:=by omega
   go_wp2;go_end0
   exact⟨rfl,dk,S1.out,HW.out,HP.out⟩
set_option maxRecDepth 1000000 in
theorem zqa(aE:∀w,(isAgg 52).run Tryz.prog w= .ok true w)(zE:∀w,(Go.sizeOf 52).run Tryz.prog w= .ok k w)(g cap a m b:Nat)(cb:Array Value)(R:RowK enc k w0 blk off d0)(hs:d0.size=d.size)(S:SWK enc k w0 blk off d w)(h1:a<m)(h2:m<b)(h3:b<=d.size)(hsz:d.size<4611686018427387904):
  Cq 211 #[.slice (some ⟨blk,off,none⟩) d.size cap,.int .i64 a,.int .i64 m,.int .i64 b,.func (.func g) #[] cb] w (qQ enc k w0 blk off fun dk=>RotIn a m b d dk/\PermIn a b d dk):=by
 have S0:Hid (SWK enc k w0 blk off d w):=S;have HC:Hid (∀(W:World)(dk:Array α)(a b n:Nat),SWK enc k w0 blk off dk W->dk.size=d.size->a+n<=b->b+n<=d.size->Cq 253 #[.slice (some ⟨blk,off,none⟩) d.size cap,.int .i64 a,.int .i64 b,.int .i64 n,.func (.func g) #[] cb] W (qQ enc k w0 blk off fun dk'=>SwpIn a b n dk dk'/\PermIn a (b+n) dk dk')):=Zh (fun W dk a b n h1 h2 h3 h4=>by
  have h:=zp9 aE zE g cap a b n cb R (by omega) h1 h3 (by omega) (by omega);rw[h2]at h;exact h)
 obtain⟨i0,hi0⟩:=Xz (m-a);obtain⟨j0,hj0⟩:=Xz (b-m);have hw1:IntKind.i64.wrap ((m:Int)-(a:Int))=(i0:Int):=by rw[Iw];omega
 have hw2:IntKind.i64.wrap ((b:Int)-(m:Int))=(j0:Int):=by rw[Iw];omega
 have HR0:Hid (∀e,RotIn (m-i0) m (m+j0) d e->RotIn a m b d e):=Zh (fun e h=>by rwa [show m-i0=a by omega,show m+j0=b by omega]at h);have HN:=Zh (And.intro hi0 hj0);have hi1:0<i0/\a+i0<=m:=by omega
 have hj1:0<j0/\m+j0<=b:=by omega
 unfold qQ at*
 clear S R hi0 hj0;go_enter Tryz.func211,Tryz.ntmps211;go_wp2_with fail
 go_loopw [10,11] (fun iv jv wr=>∃(i j:Nat) (dk:Array α),iv= .int .i64 i/\jv= .int .i64 j/\0<i/\0<j/\a+i<=m/\m+j<=b/\dk.size=d.size/\Hid (SWK enc k w0 blk off dk wr)/\Hid (∀e,RotIn (m-i) m (m+j) dk e->RotIn a m b d e)/\Hid (PermIn a b d dk)) (fun iv jv _=>(intOf iv).toNat+(intOf jv).toNat)
 case atStart=>exact⟨i0,j0,d,rfl,rfl,hi1.1,hj1.1,hi1.2,hj1.2,rfl,S0,HR0,Zh (permIn_refl _ _ _)⟩
 case round=>
  clear S0 HR0 HN hw1 hw2 hi1 hj1;obtain⟨i,j,dk,rfl,rfl,hi,hj,hia,hjb,hds,S1,HR,HP⟩:=hrel;obtain⟨p,hp⟩:=Xz (m-i);have hwp:IntKind.i64.wrap ((m:Int)-(i:Int))=(p:Int):=by rw[Iw];omega
  by_cases hij:i=j
  ·subst hij;have hd:((i:Int) !=(i:Int))=false:=by simp
   have HCC:=Zh (HC.out wr dk p m i S1.out hds (by omega) (by omega));have HPP:=Zh hp;clear hp HC;go_wp2_with (go_at_call 253;refine HCC.out.mono ?_;rintro e w1 ⟨rfl,dk',hS',hW,hP'⟩)
   go_end0
   have hp:=HPP.out;rw[hp]at hW;exact⟨rfl,dk',hS',HR.out _ (zp1 (by omega) hW),permIn_trans _ _ _ _ _ HP.out (permIn_mono _ _ _ _ _ _ (by omega) (by omega) (by omega) hP')⟩
  ·have hd:((i:Int) !=(j:Int))=true:=by simp;omega
   by_cases hgt:j<i
   ·obtain⟨q,hq⟩:=Xz (i-j);have hwq:IntKind.i64.wrap ((i:Int)-(j:Int))=(q:Int):=by rw[Iw];omega
    have HCC:=Zh (HC.out wr dk p m j S1.out hds (by omega) (by omega));have HPP:=Zh (And.intro hp hq);clear hp hq HC;go_wp2_with (go_at_call 253;refine HCC.out.mono ?_;rintro e w1 ⟨rfl,dk',hS',hW,hP'⟩)
    obtain⟨hp,hq⟩:=HPP.out;rw[hp]at hW;exact⟨⟨q,j,dk',rfl,rfl,by omega,hj,by omega,hjb,hP'.1.trans hds,Zh hS',Zh (fun e he=>HR.out e (zpZ (by omega) hgt hW (by rw[<-hq];exact he))),Zh (permIn_trans _ _ _ _ _ HP.out (permIn_mono _ _ _ _ _ _ (by omega) (by omega) (by omega) hP'))⟩,by simp[intOf];omega⟩
   ·obtain⟨q,hq⟩:=Xz (j-i);obtain⟨r,hr⟩:=Xz (m+j-i);have hwq:IntKind.i64.wrap ((j:Int)-(i:Int))=(q:Int):=by rw[Iw];omega
    have hwr:IntKind.i64.wrap ((m:Int)+(j:Int))=(m:Int)+(j:Int):=Iw;have zyy:IntKind.i64.wrap ((m:Int)+(j:Int)-(i:Int))=(r:Int):=by rw[Iw];omega
    have HCC:=Zh (HC.out wr dk p r i S1.out hds (by omega) (by omega));have HPP:=Zh (And.intro hp (And.intro hq hr));clear hp hq hr HC;go_wp2_with (go_at_call 253;refine HCC.out.mono ?_;rintro e w1 ⟨rfl,dk',hS',hW,hP'⟩)
    obtain⟨hp,hq,hr⟩:=HPP.out;rw[hp,hr]at hW;exact⟨⟨i,q,dk',rfl,rfl,hi,by omega,hia,by omega,hP'.1.trans hds,Zh hS',Zh (fun e he=>HR.out e (zp0 (by omega) (by omega) hW (by rw[<-hq];exact he))),Zh (permIn_trans _ _ _ _ _ HP.out (permIn_mono _ _ _ _ _ _ (by omega) (by omega) (by omega) hP'))⟩,by simp[intOf];omega⟩
end
end
end Go.Proofs.YtpcgfpmiphiacaaGreat
