import Derived.Test.YtpijjipngkdhdaaGreatE22
import Derived.Sort.LotA
import Derived.Shelf.SlSortCmp.KitK
import Derived.Sort.WalkB2
import Derived.Sort.WalkB12
set_option maxHeartbeats 8000000
set_option linter.unusedVariables false
set_option linter.unusedSimpArgs false
namespace Go.Proofs.YtpijjipngkdhdaaGreat
variable {x:List Int} {a b c d hi i j k lo m mid n r r0 s s0 t:Nat} {A X:Option Addr} {w w0:World}
section
open Go.RowKit
def jt(w:World)(mb:Nat)(p:List Ct)(e:Ending)(w':World):Prop:=
 ∃A c,e= .returned (.slice A p.length c)/\Own w' w.heap.size 108 3 A p.length c (zF p)/\MapC w' mb 0 []/\Fm mb w w'
set_option maxRecDepth 20000 in
theorem zdS{LA NA DA XA:Option Addr}{lc nc dc xc q mb:Nat}{m L:List (List Int)}(hS:SysV w0 m L LA NA DA)(hq:L.length=q)(hq8:q<=100000)(hdc:q<=dc)(ztN:dc<=9223372036854775807)(hmn:m.length=n)(hn:n<=1000)
  (zrV:(L.map (zi m)).Pairwise (·<=·)) (hX:IntsA w0 XA x) (hxn:x.length=n) (hnb:∀y∈L,0<=zi m y/\zi m y<=4611686018427387904) (hib:∀y∈L,-4611686018427387904<=zy (zN m y) x/\zy (zN m y) x<=4611686018427387904)
  (hmb:w0.heap.size<=mb) (hM:MapC w mb 0 []) [hx:Ext w0 w]:
  Cq 81 #[.agg #[.slice LA q lc,.slice NA q nc,.slice DA q dc],.slice XA n xc,.map (some mb)] w (jt w mb (zA m L x)):=by
 have HS:=Zh hS;have HQ:=Zh hq;have HX:=Zh (And.intro hX hxn);have HSR:=Zh zrV;have HNB:=Zh hnb;have HIB:=Zh hib;have HMN:=Zh hmn;have HM0:=Zh hM;have zve:=hM.lt;unfold jt;obtain⟨w1,hw1⟩:=Xz (w.alloc (.cells #[.slice LA q lc,.slice NA q nc,.slice DA q dc] 110));have hbx:w1.heap[w.heap.size]? =some (.cells #[.slice LA q lc,.slice NA q nc,.slice DA q dc] 110 (0,0)):=by rw[hw1];exact heap_alloc_new w _
 have hx1:Ext w w1:=by rw[hw1];infer_instance
 have HBX:=Zh hbx;have hs1:w1.heap.size=w.heap.size+1:=by rw[hw1];simp
 have HM1:Hid (MapC w1 mb 0 []):=Zh (hM.ext hx1);have zrn:Ext w0 w1:=hx.trans hx1;clear hS hq hX hxn zrV hnb hib hmn hM hbx;go_enter Tryz.func81,Tryz.ntmps81;go_wp2_with fail
 rw[<-hw1];clear hw1;go_loopw [7,8,9,11,12,13,14,15] (fun p s _ _ _ _ _ _ wr=>∃(a pl c:Nat) (A:Option Addr),a<=q/\s= .int .i64 a/\Hid (Bdry (L.map (zi m)) a)/\p= .slice A pl c/\Hid ((zA m (L.take a) x).length=pl)/\Hid (Own wr w1.heap.size 108 3 A pl c (zF (zA m (L.take a) x)))/\Hid (MapC wr mb 0 [])/\Hid (Fm mb w1 wr)) (fun _ s _ _ _ _ _ _ _=>q-(intOf s).toNat)
 case atStart=>exact⟨0,0,0,none,by omega,rfl,Zh (Bdry.zero _),rfl,Zh rfl,Zh (Own.nil _ _ _ _),HM1,Zh (Fm.refl _ _)⟩
 case round=>
  obtain⟨a,pl,c,A,ha,rfl,HB,rfl,HPL,HO,HM,HF⟩:=hrel;obtain⟨⟨c1,c2,c3⟩,-,c4⟩:=qs (HF.out.cells HM1.out HBX.out);have oB:Old w.heap.size wr:=⟨c4⟩;have zq5:Ext w0 wr:=Fm.ext0 zrn hmb HF.out;by_cases hlt:a<q
  ·obtain⟨y0,hy0⟩:∃y,L[a]? =some y:=⟨_,Ze (by rw[HQ.out];exact hlt)⟩;obtain⟨na,hna⟩:∃v,zi m y0=v:=⟨_,rfl⟩;have zqL:(L.map (zi m))[a]? =some na:=by rw[List.getElem?_map,hy0,<-hna];rfl
   have hnl:(L.map (zi m)).length=q:=by rw[List.length_map];exact HQ.out
   have HSH:=Zh (fun W(e:Ext w0 W)=>zdP (w:=W) (nc:=nc) (SL:= .slice LA q lc) (SD:= .slice DA q dc) HS.out.norms zqL hnl (by omega));obtain⟨bd,od,B0,cb0,rfl,-,-,-,-,d5⟩:=HS.out.duals.a.at_ (i:=a) (r:=Zs m y0) (by rw[List.getElem?_map,hy0];rfl);obtain⟨bn,on,na',rfl,zrW,n5,n6⟩:=HS.out.norms.at_ (i:=a) (by omega);rw[zqL]at zrW;obtain rfl:na=na':=by injection zrW
   have zph:=Zh zqL;have HNL:=Zh hnl;have HNA:=Zh (And.intro hy0 hna);have oD:Old bd w0:=⟨d5⟩;have oN:Old bn w0:=⟨n6⟩;unfold za0 at HSH;clear hy0 hna zqL hnl;go_upto_region 5 with (go_at_call 77;refine(HSH.out _ Zi).mono ?_;rintro e w2 ⟨k,rfl,hk1,hk2,hk3,hk4,hs2⟩;rw[HNL.out]at hk2;have HK3:=Zh hk3;have HK4:=Zh hk4;clear hk3 hk4)
   have zqA:Ext wr w2:=Zi;have hda:(dc==a)=false:=by simp;omega
   have hkq:k<=dc:=by omega
   go_wp2_with fail
   obtain⟨l,hl⟩:=Xz (k-a);have HL:=Zh hl;have hlq:l<=100000:=by omega
   have HF2:Hid (Fm mb w1 w2):=Zh (HF.out.trans (Fm.of_ext zqA));have HM2:Hid (MapC w2 mb 0 []):=Zh (HM.out.ext zqA);have HO2:Hid (Own w2 w1.heap.size 108 3 A pl c (zF (zA m (L.take a) x))):=Zh (HO.out.ext zqA);try rw[show ((k:Int)-(a:Int)).toNat=l by omega]
   try rw[show k-a=l by omega]
   clear HM HF HO hl;obtain⟨wo,rfl⟩:∃wo:World,wo=wr:=⟨_,rfl⟩;clear c1 c2 c3 c4;go_loopw [11,12,30] (fun _ _ i wq=>∃j:Nat,j<=l/\i= .int .i64 j/\Hid (MapC wq mb j (((L.drop a).take j).map (js m x)))/\Hid (Fm mb w2 wq)) (fun _ _ i _=>l-(intOf i).toNat)
   case atStart=>exact⟨0,by omega,rfl,HM2,Zh (Fm.refl _ _)⟩
   case round=>
    obtain⟨j,hj,rfl,HMj,HFj⟩:=hrel;have hFq:Fm mb w1 wr:=HF2.out.trans HFj.out;have zvf:Ext w0 wr:=Fm.ext0 zrn hmb hFq;obtain⟨⟨c1,c2,c3⟩,-,c4⟩:=qs (hFq.cells HM1.out HBX.out);have oBq:Old w.heap.size wr:=⟨c4⟩;by_cases hjl:j<l
    ·obtain⟨y,hy⟩:∃y,L[a+j]? =some y:=⟨_,Ze (by rw[HQ.out];have:=HL.out;omega)⟩;obtain⟨bd',od',B,cb,hA,e0,hB,e2,e3,-⟩:=HS.out.duals.a.at_ (i:=a+j) (r:=Zs m y) (by rw[List.getElem?_map,hy];rfl);injection hA with hA
     injection hA with z1 z2
     subst z1 z2;have hlA:(Zs m y).length=n:=by simp[Zs];exact HMN.out
     rw[hlA]at e0 e2;have e1:wr.cell? ⟨bd,od+a+j,none⟩=some (.slice B n cb):=by rw[Nat.add_assoc];exact(zg w0).trans e0
     obtain⟨v,hv⟩:=Yz (zy (zN m y) x);have hvb:=HIB.out y (Zm hy);rw[hv]at hvb;have hdw:ZS (Zs m y) x=v:=by rw[zhs];unfold ZS;rw[hv];exact Iw
     have HD:=Zh (fun W(e:Ext w0 W)=>zdM (w:=W) (c:=cb) (d:=xc) hB HX.out.1 hlA HX.out.2 Zr (by omega));rw[hdw]at HD;have hnv:zi m y=na:=HK3.out (a+j) _ (by omega) (by have:=HL.out;omega) (by rw[List.getElem?_map,hy];rfl);have ztO:=HNB.out y (Zm hy);rw[hnv]at ztO;obtain⟨av,hav⟩:∃av,((v.natAbs:Nat):Int)=av:=⟨_,rfl⟩;have zqH:js m x y=(na,av):=by unfold js;rw[hnv,hv,hav]
     have hkw:QG (na,av):=by
      have e1:IntKind.i64.min=-9223372036854775808:=rfl;have e2:IntKind.i64.max=9223372036854775807:=rfl;refine⟨?_,?_⟩<;>simp[Lit.wf]<;>omega
     have hMj:=HMj.out;have hKS:((L.drop a).take (j+1)).map (js m x)=((L.drop a).take j).map (js m x)++[(na,av)]:=by
      rw[List.take_add_one,List.getElem?_drop,hy,List.map_append];simp[zqH]
     have hSl:(((L.drop a).take j).map (js m x)).length<=j:=by simp;omega
     have HKS:=Zh hKS;clear hKS;generalize ((L.drop a).take j).map (js m x)=S at*
     have zqS:(S.count (na,av):Int)<=100000:=by have:=List.count_le_length (a:=(na,av)) (l:=S);omega
     have ztP:(Instr.lookup 113 (.map (some mb)) (.agg #[.int .i64 na,.int .i64 av,.int .i64 0]) false).run Tryz.prog wr.drew= .ok (.int .i64 (S.count (na,av))) wr.drew:=MapC.look (w:=wr.drew) hMj hkw;obtain⟨v0',st,wE,hE',hMid,hgE⟩:=MapC.entry (w:=wr.drew) hMj (by simp[maxLen];omega) (by omega) hkw;have hE:(Instr.mapEntry 113 (.map (some mb)) (.agg #[.int .i64 na,.int .i64 av,.int .i64 0])).run Tryz.prog wr.drew= .ok (.tuple #[v0',goInt st]) wE:=hE'
     have ztQ:(Instr.lookup 113 (.map (some mb)) (.agg #[.int .i64 na,.int .i64 av,.int .i64 0]) false).run Tryz.prog wE= .ok (.int .i64 (S.count (na,av))) wE:=hMid.look;obtain⟨es1,cl1,hb1,hst⟩:=hMid.store;obtain⟨w3,hS3',hM3,hg3⟩:=hst wE hb1;have hS3:(Instr.entryStore 113 (.map (some mb)) (.int .i64 st) (.int .i64 ((S.count (na,av):Int)+1))).run Tryz.prog wE= .ok () w3:=hS3';clear hS3';have hF3:Fm mb wr w3:=(Fm.of_ext (Zi:Ext wr wr.drew)).trans ((Fm.of_grown hgE).trans (Fm.of_grown hg3))
     have hbn:bn≠mb:=by omega
     have hbw:w.heap.size≠mb:=by omega
     have n5q:wr.cell? ⟨bn,on+a,none⟩=some (.int .i64 na):=(zg w0).trans n5;have n5E:wE.cell? ⟨bn,on+a,none⟩=some (.int .i64 na):=(World.cell?_of_block (hgE.block bn (Nat.lt_of_lt_of_le n6 zvf.size) (fun h=>hbn (by injection h)))).trans n5q;have c2E:wE.cell? ⟨w.heap.size,1,none⟩=some (.slice (some ⟨bn,on,none⟩) q nc):=(World.cell?_of_block (hgE.block w.heap.size c4 (fun h=>hbw (by injection h)))).trans c2
     have hcw:IntKind.i64.wrap ((S.count (na,av):Int)+1)=(S.count (na,av):Int)+1:=Iw;have HM3:=Zh hM3;have HF3:=Zh hF3;generalize S.count (na,av)=cnt at*
     clear hst hb1 hMid hE' hgE hg3 hM3 hF3 hMj zqH;have HAV:=Zh hav;clear hav hv hdw hkw ztO zqS hy hB e0 hlA hSl;by_cases zqh:v<0
     ·have hwn:IntKind.i64.wrap (-v)=av:=by
       have h1:=HAV.out;rw[Iw];omega
      go_upto_region 11 with (go_at_call 150;refine(HD.out _ Zi).mono ?_;rintro e w5 ⟨rfl,rfl⟩)
      go_region
      all_goals
       clear hE ztP ztQ hS3 n5q n5E c2E;go_wp2_with fail
       exact⟨⟨j+1,by omega,by go_num,Zh (by rw[HKS.out];exact HM3.out),Zh (HFj.out.trans HF3.out)⟩,by simp[intOf];omega⟩
     ·have hvn:v=av:=by have h1:=HAV.out;omega
      subst hvn;go_upto_region 11 with (go_at_call 150;refine(HD.out _ Zi).mono ?_;rintro e w5 ⟨rfl,rfl⟩)
      go_region
      all_goals
       clear hE ztP ztQ hS3 n5q n5E c2E;go_wp2_with fail
       exact⟨⟨j+1,by omega,by go_num,Zh (by rw[HKS.out];exact HM3.out),Zh (HFj.out.trans HF3.out)⟩,by simp[intOf];omega⟩
    ·obtain rfl:j=l:=by omega
     clear hjl hj;obtain⟨S,hS⟩:=Xz (((L.drop a).take j).map (js m x));have HSE:=Zh hS;have hMS:=HMj.out;rw[<-hS]at hMS;clear hS HMj;obtain⟨wR,cnt0,hR,hRng,hgR,hsR⟩:=hMS.range;have HRng:=Zh hRng;have hc0:cnt0<=j:=hRng.cnt_le;have hxR:Ext wr wR:=⟨⟨hgR.os,hgR.tape,hgR.output,hgR.size,fun b hb=>hgR.block b hb (by simp)⟩⟩;have hOq:Own wr w1.heap.size 108 3 A pl c (zF (zA m (L.take a) x)):=HFj.out.own HM2.out HO2.out
     have hOR:=hOq.ext hxR;have HOR:=Zh hOR;have HFR:Hid (Fm mb w1 wR):=Zh (hFq.trans (Fm.of_ext hxR));obtain⟨wq,hwq⟩:∃wq:World,wq=wr:=⟨_,rfl⟩;have hrg:w1.heap.size<=wr.heap.size:=hFq.size;obtain⟨it,hit⟩:=Xz wr.heap.size;rw[<-hit]at hR HRng hrg;have HIT:=Zh hit;clear hOq hOR hRng hgR hMS hwq hit;obtain⟨P,hP⟩:=Xz (zA m (L.take a) x);have HP:=Zh hP;rw[<-hP]at HOR HPL;clear hP HO2
     have zwe:pl<=100000:=by
      have h1:=zdR m (L.take a) x;rw[<-HP.out,HPL.out,List.length_take]at h1;omega
     go_upto_region 15 with fail
     go_loopw [7,14,15] (fun p _ _ wz=>∃(ks:List Kc) (A':Option Addr) (c' cnt:Nat),p= .slice A' (pl+ks.length) c'/\ks.length+cnt<=cnt0/\Hid (Own wz w1.heap.size 108 3 A' (pl+ks.length) c' (zF P++zF (ks.map fun k=>(k,(S.count k:Int)))))/\Hid (RngC wz mb it j S ks cnt)/\Hid (Fm mb w1 wz)) (fun _ _ _ wz=>wz.rangeLeft mb it)
     case atStart=>exact⟨[],A,c,cnt0,rfl,by simp,Zh (by have h:=HOR.out;simpa[zF] using h),HRng,HFR⟩
     case round=>
      obtain⟨ks,A',c',cnt,rfl,hkc,HOz,HRz,HFz⟩:=hrel;have zvg:Ext w0 wr:=Fm.ext0 zrn hmb HFz.out;rcases HRz.out.next 0 with ⟨zqi,zqv⟩|⟨k1,w5,cnt1,hkS,zqv,hR1,ztR,hg1,zr4,hen⟩
      ·have hSl:S.length=j:=by
        have h1:=HL.out;have h2:=HQ.out;rw[HSE.out,List.length_map,List.length_take,List.length_drop];omega
       have hkl:0<ks.length:=by
        obtain⟨k0,hk0⟩:∃k0,k0∈S:=⟨S[0]'(by have:=HL.out;omega),List.getElem_mem _⟩;exact List.length_pos_of_mem (zqi k0 hk0)
       obtain⟨g,cur,rfl,hbg,hgc,hnc,zsR⟩:=zok HOz.out (by omega);obtain⟨els,zru⟩:∃els:List Ct,els=ks.map fun k=>(k,(S.count k:Int)):=⟨_,rfl⟩
       have hel:els.length=ks.length:=by rw[zru];simp
       rw[<-zru]at zsR;have zqn:=HOz.out.cap;have HSO:Hid (Cq 157 #[.slice (some ⟨g,pl*3,none⟩) ks.length (c'-pl),.func (.func 153) #[] #[]] wr fun e w'=>e= .returned (.tuple #[])/\∃(els':List Ct) (cur':Array Value),els'.Perm els/\els'.Pairwise (fun x y=>¬ZM y x<0)/\w'.heap[g]? =some (.cells cur' 108 (0,0))/\cur'.size=cur.size/\(∀j u,(zF els')[j]? =some u->cur'[pl*3+j]? =some u)/\(∀j,j<pl*3->cur'[j]? =cur[j]?)/\(∀b,b<wr.heap.size->b≠g->w'.heap[b]? =wr.heap[b]?)/\∀B,B<=g->Below B wr w'):=Zh (by
        rw[<-hel];refine zog hgc (fun j' u hu=>zsR _ u ?_) (by omega);rw[List.getElem?_append_right (by rw[Qg,HPL.out];omega),Qg,HPL.out,show pl*3+j'-pl*3=j' by omega];exact hu)
       have hcp:(c'==pl)=false:=by simp;omega
       have hgm:mb≠g:=fun e=>HRz.out.map.not_cells (by rw[e];exact hgc)
       have HEL:=Zh zru;have zpv:=Zh zqi;have HGC:=Zh hgc;have ztS:mb<wr.heap.size:=HRz.out.map.lt;have zsb:pl+ks.length-pl=ks.length:=by omega
       clear zsR zru hel zqi hgc;go_upto_region 20 with (go_at_call 157;refine HSO.out.mono ?_;rintro e w6 ⟨rfl,els',cur',p1,p2,p3,p4,p5,p6,p7,p8⟩;obtain⟨wC,hC,hMC,hgC⟩:=(HRz.out.map.at_block (p7 mb ztS hgm)).clear)
       have hM6:=HRz.out.map.at_block (p7 mb ztS hgm);have HM6:=Zh hM6;have HMC:=Zh hMC;have zp3:=Zh hgC;have HP7:=Zh p8;have HP5:=Zh (And.intro p5 p6);have HP2:=Zh (And.intro p1 p2);have HP3:=Zh (And.intro p3 p4);clear hM6 hMC hgC p8 p5 p6 p7 p1 p2 p3 p4 HSO;go_wp2_with fail
       have zqm:Own w6 w1.heap.size 108 3 (some ⟨g,0,none⟩) (pl+ks.length) c' (zF P++zF els'):=zoj (p:=P) (els:=els) (by rw[HEL.out];exact HOz.out) HP2.out.1 HGC.out HP3.out.1 HP3.out.2 (by rw[HPL.out];exact HP5.out.1) (by rw[HPL.out];exact HP5.out.2);have hfC:Fm mb w6 wC:=Fm.of_grown zp3.out;have hownC:=hfC.own HM6.out zqm;have hbd:Bdry (L.map (zi m)) k:=Bdry.end_ HSR.out hk1 zph.out (fun i y h1 h2 h3=>HK3.out i y h1 h2 h3) HK4.out
       have hks:=HRz.out.keys;have hdt:(L.take k).drop a=(L.drop a).take j:=by
        rw[List.drop_take,HL.out]
       have hpr:els'=zA m ((L.take k).drop a) x:=by
        rw[hdt];unfold zA;rw[<-HSE.out];exact zoh hks.1 hks.2 zpv.out (by rw[<-HEL.out];exact HP2.out.1) (HP2.out.2.imp fun h=>by omega)
       have hsh:=znV (x:=x) (show a<=k by omega) HB.out;rw[<-hpr,<-HP.out]at hsh;have hle:(zA m (L.take k) x).length=pl+ks.length:=by
        rw[hsh,List.length_append,HPL.out,HP2.out.1.length_eq,HEL.out,List.length_map]
       refine⟨⟨k,pl+ks.length,c',some ⟨g,0,none⟩,hk2,rfl,Zh hbd,rfl,Zh hle,Zh ?_,HMC,Zh ((HFz.out.new (HP7.out _ hbg)).trans hfC)⟩,by simp[intOf];omega⟩;rw[hsh,zhi];exact hownC
      ·unfold Z2 at zqv hen;have HO5:Hid (Own w5 w1.heap.size 108 3 A' (pl+ks.length) c' (zF P++zF (ks.map fun k=>(k,(S.count k:Int))))):=Zh (zoc hg1 (fun cs T fr=>HRz.out.iter) HOz.out);have HF5:Hid (Fm mb w1 w5):=Zh (HFz.out.new ⟨hg1.os,hg1.tape,hg1.output,hg1.size,fun b hb=>hg1.block b (Nat.lt_of_lt_of_le hb HFz.out.size) (fun e=>by injection e with e;omega)⟩);have HR5:=Zh hR1;have HLQ:Hid (w5.rangeLeft mb it<wr.rangeLeft mb it):=Zh (by rw[hR1.left_eq,HRz.out.left_eq];exact ztR)
       have HRS:=Zh (show zF P++zF (ks.map fun k=>(k,(S.count k:Int)))++[.int .i64 k1.1,.int .i64 k1.2,.int .i64 (S.count k1)]=zF P++zF ((ks++[k1]).map fun k=>(k,(S.count k:Int))) by
        rw[List.map_append,zhi,List.append_assoc];rfl)
       generalize hcn:(S.count k1:Int)=cn at*
       have hs5:=HF5.out.size;clear hR1 hg1 hkS zvg zr4;go_upto_region 18 with fail
       go_wp2_with (at_builtin;go_loud (refine Zd _ rfl _ _ 45 rfl w1.heap.size 108 (.agg #[.int .i64 0,.int .i64 0,.int .i64 0]) 3 24 Tryz.underlying45 zol rfl (by omega) (by omega) A' (pl+ks.length) c' _ rfl (HO5.out.ext Zi) (some ⟨w5.heap.size+1,0,none⟩) 1 1 [.int .i64 k1.1,.int .i64 k1.2,.int .i64 cn] rfl (by have h:=Arr.new (w5.alloc (.cells #[.int .i64 k1.1,.int .i64 k1.2,.int .i64 cn] 108)) 108 #[.int .i64 k1.1,.int .i64 k1.2,.int .i64 cn];rw[World.size_alloc]at h;exact h) (by simp) (by simp[Value.oneCell']) (by omega) (by simp;omega) ?_);intro A6 c6 w6 zqd hg6)
       have hxb:Ext w5 ((w5.alloc (.cells #[.int .i64 k1.1,.int .i64 k1.2,.int .i64 cn] 108)).alloc (.cells #[.int .i64 k1.1,.int .i64 k1.2,.int .i64 cn] 108)):=Zi;have hR6:=(HR5.out.ext hxb).grow hg6;rw[HRS.out]at zqd;refine⟨⟨ks++[k1],A6,c6,cnt1,by simp[Nat.add_assoc],by simp;omega,Zh (by rw[List.length_append,<-Nat.add_assoc];exact zqd),Zh hR6,Zh ((HF5.out.trans (Fm.of_ext hxb)).new (hg6.below.mono Zr))⟩,?_⟩
       rw[hR6.left_eq,HRz.out.left_eq];exact ztR
  ·obtain rfl:a=q:=by omega
   clear hlt;have zqg:L.take a=L:=List.take_of_length_le (by rw[HQ.out];exact Zr);have zpC:=HPL.out;have HO2:=HO.out;rw[zqg]at zpC HO2;go_wp2_with fail
   go_ret;rw[zpC];exact⟨A,c,rfl,HO2.lower (by omega),HM.out,(Fm.of_ext hx1).trans HF.out⟩
theorem zom{m:List (List Int)}(hM:MatA w0 A m)(zqf:m.length<=1099511627776)(hc:m.length<=c)(hc2:c<=9223372036854775807)(hr:Zt m=true)(hX:Ints w0 X 2 .i64 x)(hl:x.length<=1099511627776)[hx:Ext w0 w]:
  Cq 178 #[.slice A m.length c,.slice X x.length d] w (zz w (.bool (QL m.length x))):=by
 have zqJ:=fun W(e:Ext w0 W)=>zbd (w:=W) hM zqf hc hc2
 rw[hr]at zqJ;have HR:=Zh zqJ;have HF:=Zh (fun W(e:Ext w0 W)=>zcl (w:=W) (c:=d) (n:=m.length) hX hl);clear zqJ hM hX hr;generalize QL m.length x=r at*
 generalize x.length=xl at*
 go_enter Tryz.func178,Tryz.ntmps178;go_wp2_with (first
  |(go_at_call 115;refine(HR.out _ Zi).mono ?_;rintro e w1 ⟨rfl,hs1⟩)
  |(go_at_call 225;refine(HF.out _ Zi).mono ?_;rintro e w2 ⟨rfl,rfl⟩))
 go_ret;exact⟨rfl,Step.of _ _⟩
theorem zon{m:List (List Int)}(hM:MatA w0 A m)(hc:m.length<=c)(hc2:c<=9223372036854775807)(hR:RedM m)(hX:Ints w0 X 2 .i64 x)(hxl:x.length=m.length)(hb:∀y∈x,-1099511627776<=y/\y<=1099511627776)[hx:Ext w0 w]:
  Cq 82 #[.slice A m.length c,.slice X x.length d] w (zz w (.tuple #[.int .i64 (if Qz (zi m x) then zi m x else 0),.bool (Qz (zi m x))])):=by
 obtain⟨u,hu⟩:∃u,u=(if Qz (zi m x)=true then zi m x else 0):=⟨_,rfl⟩;obtain⟨r,hr'⟩:∃r,r=Qz (zi m x):=⟨_,rfl⟩;rw[<-hu,<-hr'];have h8:=hR.n8;have zql:QL m.length x=true:=by
  rw[zeT hxl];exact zaz.2 hb
 have hv:=fun W(e:Ext w0 W)=>zom (w:=W) (c:=c) (d:=d) hM (by omega) hc hc2 hR.red hX (by omega)
 have hf:=fun W(e:Ext w0 W)=>zcl (w:=W) (c:=d) (n:=m.length) hX (by omega)
 rw[zql]at hv hf;have HV:=Zh hv;have HF:=Zh hf;have HA:=Zh (fun W(e:Ext w0 W)=>zeU (w:=W) (c:=c) (d:=d) hM hX hR.all hxl h8 hR.ent hb);have HD:Hid (∀W Y dy,Ext w0 W->Ints W Y 2 .i64 (zN m x)->Cq 226 #[.slice X x.length d,.slice Y (zN m x).length dy] W (zz W (.tuple #[.int .i64 u,.bool r]))):=Zh (fun W Y dy e hY=>by
  have h:=zfj (w0:=W) (w:=W) (c:=d) (d:=dy) (hX.ext e) hY (by rw[JS,hxl]) (by omega) hb (fun z hz=>by
   obtain⟨r,hr,rfl⟩:=List.mem_map.1 hz;have hb:=JR (A:=262144) (B:=1099511627776) (by omega) (by omega) r x (hR.ent r hr) hb;have hrl:=hR.all r hr;omega)
  rw[JS,<-hxl];exact h.mono fun e w'⟨he,hs⟩=>⟨by rw[he,hu,hr'];rfl,hs⟩)
 unfold zcg at HA;clear hu hr';obtain⟨al,hal⟩:=Yz ((zN m x).length);rw[hal]at HA HD;generalize zN m x=Y at*
 clear hv hf zql hM hX hR hb hal;rw[hxl] at*
 generalize m.length=n at*
 have HI:Hid (∀W,Ext w0 W->Cq 158 #[.slice A n c,.slice X n d,.slice X n d] W (zz W (.tuple #[.int .i64 u,.bool r]))):=Zh (fun W e=>by
  go_enter Tryz.func158,Tryz.ntmps158;go_wp2_with (first
   |(go_at_call 178;refine(HV.out _ Zi).mono ?_;rintro e w1 ⟨rfl,hs1⟩)
   |(go_at_call 225;refine(HF.out _ Zi).mono ?_;rintro e w2 ⟨rfl,rfl⟩)
   |(go_at_call 227;refine(HA.out _ Zi).mono ?_;rintro e w3 ⟨B3,d3,rfl,hI3,-,-,hs3⟩)
   |(go_at_call 226;refine(HD.out _ _ _ Zi hI3).mono ?_;rintro e w4 ⟨rfl,hs4⟩))
  go_ret2
  exact⟨rfl,Step.of _ _⟩)
 clear HV HF HA HD;go_enter Tryz.func82,Tryz.ntmps82;go_wp2_with (go_at_call 158;refine(HI.out _ Zi).mono ?_;rintro e w1 ⟨rfl,hs1⟩)
 go_ret2
 exact⟨rfl,Step.of _ _⟩
structure PrfL(m L:List (List Int)):Prop where
 len:L.length<=100000
 zc:∀y∈L,y.length=m.length
 srt:(L.map (zi m)).Pairwise (·<=·)
 nb:∀y∈L,0<=zi m y/\zi m y<=4611686018427387904
def JE(m L:List (List Int))(x:List Int):Prop:=∀y∈L,-4611686018427387904<=zy (zN m y) x/\zy (zN m y) x<=4611686018427387904
def zhx(w:World)(m:List (List Int))(P:List (List Int)->Prop)(x:List Int)(e:Ending)(w':World):Prop:=
 ∃A c L,e= .returned (.tuple #[.slice A (zA m L x).length c,.int .i64 0])/\P L/\Own w' w.heap.size 108 3 A (zA m L x).length c (zF (zA m L x))/\Step w w'
set_option maxRecDepth 20000 in
theorem zhy{b u:Int}{m:List (List Int)}{P:List (List Int)->Prop}(hM:MatA w0 A m)(hc:m.length<=c)(hc2:c<=9223372036854775807)(hR:RedM m)(hX:Ints w0 X 2 .i64 x)(hxl:x.length=m.length)(hb:∀y∈x,-1099511627776<=y/\y<=1099511627776)(hnb:Qz (zi m x)=true)
  (zqT:∀W,Ext w0 W->Cq 148 #[.slice A m.length c,.int .i64 b,.int .i64 u] W (zai W P)) (hP:∀L,P L->PrfL m L/\JE m L x) [hx:Ext w0 w]:
  Cq 30 #[.slice A m.length c,.int .i64 b,.int .i64 u,.slice X x.length d] w (zhx w m P x):=by
 have h8:=hR.n8;have zqi:∀r∈m,r.length<=m.length:=fun r hr=>Nat.le_of_eq (hR.all r hr)
 have hPN:∀L,P L->L.length<=100000/\(∀y∈L,y.length=m.length)/\∀y∈L,-9223372036854775808<=zi m y/\zi m y<=9223372036854775807:=fun L hL=>by
  obtain⟨⟨h1,h2,-,h4⟩,-⟩:=hP L hL;exact⟨h1,h2,fun y hy=>by have:=h4 y hy;omega⟩
 have HNS:Hid (∀W,Ext w0 W->Cq 76 #[.slice A m.length c,.int .i64 b,.int .i64 u] W (j5 W m P)):=Zh (fun W e=>zdQ (w:=W) hM (by omega) zqi zqT hPN);clear zqi hPN;have hn:=fun W(e:Ext w0 W)=>zon (w:=W) (c:=c) (d:=d) hM hc hc2 hR hX hxl hb
 rw[hnb,if_pos rfl,hxl]at hn;rw[hxl];have HN:=Zh hn;have HPR:Hid (∀(W0 W:World)(LA NA DA:Option Addr)(lc nc dc mb:Nat)(L:List (List Int)),P L->SysV W0 m L LA NA DA->L.length<=dc->dc<=9223372036854775807->Ext w0 W0->Ext W0 W->W0.heap.size<=mb->MapC W mb 0 []->Cq 81 #[.agg #[.slice LA L.length lc,.slice NA L.length nc,.slice DA L.length dc],.slice X m.length d,.map (some mb)] W (jt W mb (zA m L x))):=Zh (fun W0 W LA NA DA lc nc dc mb L hL hS h1 h2 e0 e1 hmb hMC=>by
  obtain⟨hp,hi⟩:=hP L hL;have h:=zdS (w0:=W0) (w:=W) (lc:=lc) (nc:=nc) (dc:=dc) (xc:=d) (n:=m.length) hS rfl hp.len h1 h2 rfl (by omega) hp.srt ⟨_,hX.ext e0⟩ hxl hp.nb hi hmb hMC;exact h)
 clear hn hP zqT hM hX hb hnb hR hxl;unfold j5 at HNS;unfold jt at HPR;unfold zhx;generalize m.length=n at*
 have hmk:=@run_makeMap Tryz.prog;go_enter Tryz.func30,Tryz.ntmps30;go_upto_region 7 with (first
  |(go_at_call 76;refine(HNS.out _ Zi).mono ?_;rintro e w1 ⟨LA,NA,DA,lc,nc,dc,L,rfl,hS,hPL,-,-,-,-,hd1,hd2,hs1⟩;have HSY:=Zh hS;have HPL:=Zh hPL;clear hS hPL)
  |(go_at_call 82;refine(HN.out _ Zi).mono ?_;rintro e w2 ⟨rfl,hs2⟩))
 have hx2:Ext w w2:=(Zi:Ext w (w1.alloc (.cells #[.slice LA L.length lc,.slice NA L.length nc,.slice DA L.length dc] 110))).trans Zi;have zq9:Ext w1 w2:=Zi;have HPC:=Zh (HPR.out w2 (w2.alloc (.map #[] 0)) LA NA DA lc nc dc w2.heap.size L HPL.out (HSY.out.ext zq9) hd1 hd2 (hx.trans hx2) Zi Zr (MapC.made w2));clear HPR HN HNS;go_wp2_with (go_at_call 81;refine HPC.out.mono ?_;rintro e w3 ⟨A3,c3,rfl,hO3,hM3,hF3⟩)
 go_ret2
 have hx3:Ext w w3:=Fm.ext0 (hx2.trans Zi) hx2.size hF3;have hsz:=hx2.size;exact⟨A3,c3,L,rfl,HPL.out,hO3.lower (by simp;omega),hx3.toStep⟩
end
section
open Go.Sort
section
variable {α:Type} [Inhabited α] {lt:α->α->Bool} {d d' e:Array α}
theorem gi(h:i=j):d[i]! =d[j]! :=by rw[h]
def RotIn(a m b:Nat)(d d':Array α):Prop:=∀i,d'[i]! =if a<=i/\i<a+(b-m) then d[m+(i-a)]! else if a+(b-m)<=i/\i<b then d[a+(i-(a+(b-m)))]! else d[i]!
def SwpIn(a b n:Nat)(d d':Array α):Prop:=∀i,d'[i]! =if a<=i/\i<a+n then d[b+(i-a)]! else if b<=i/\i<b+n then d[a+(i-b)]! else d[i]!
theorem SwpIn.zero(a b:Nat)(d:Array α):SwpIn a b 0 d d:=fun i=>by
 rw[if_neg (by omega),if_neg (by omega)]
theorem SwpIn.step(h:SwpIn a b n d d')(hd:a+n<b)(hb:b+n<d'.size):SwpIn a b (n+1) d (swp d' (a+n) (b+n)):=fun i=>by
 have h1:d'[a+n]! =d[a+n]! :=by rw[h (a+n),if_neg (by omega),if_neg (by omega)]
 have h2:d'[b+n]! =d[b+n]! :=by rw[h (b+n),if_neg (by omega),if_neg (by omega)]
 rw[swp_get d' (by omega) hb,h1,h2,h i];repeat' split
 all_goals first|exact gi (by omega)|(exfalso;omega)
theorem zoo(hi:i<=m)(h:j<i)(hs:SwpIn (m-i) m j d d')(hr:RotIn (m-(i-j)) m (m+j) d' e):RotIn (m-i) m (m+j) d e:=fun x=>by
 rw[hr x];repeat' split
 all_goals (rw[hs];repeat' split)
 all_goals first|exact gi (by omega)|(exfalso;omega)
theorem zop(hi:i<=m)(h:i<j)(hs:SwpIn (m-i) (m+j-i) i d d')(hr:RotIn (m-i) m (m+(j-i)) d' e):RotIn (m-i) m (m+j) d e:=fun x=>by
 rw[hr x];repeat' split
 all_goals (rw[hs];repeat' split)
 all_goals first|exact gi (by omega)|(exfalso;omega)
theorem zoq(hi:i<=m)(hs:SwpIn (m-i) m i d e):RotIn (m-i) m (m+i) d e:=fun x=>by
 rw[hs x];repeat' split
 all_goals first|exact gi (by omega)|(exfalso;omega)
theorem zdT(h:s=m∨b<=m):RotIn s m b d d:=fun x=>by
 repeat' split
 all_goals first|exact gi (by omega)|(exfalso;omega)
theorem RotIn.up(h:RotIn a (a+1) (k+1) d d')(hk:a<=k)(hb:k+1<d'.size):RotIn a (a+1) (k+2) d (swp d' k (k+1)):=fun i=>by
 have h1:d'[k]! =d[a]! :=by rw[h k,if_neg (by omega),if_pos (by omega)];exact gi (by omega)
 have h2:d'[k+1]! =d[k+1]! :=by rw[h (k+1),if_neg (by omega),if_neg (by omega)]
 rw[swp_get d' (by omega) hb,h1,h2,h i];repeat' split
 all_goals first|exact gi (by omega)|(exfalso;omega)
theorem RotIn.down(h:RotIn (k+1) m (m+1) d d')(hk:k+1<=m)(hb:m<d'.size):RotIn k m (m+1) d (swp d' (k+1) k):=fun i=>by
 have h1:d'[k+1]! =d[m]! :=by rw[h (k+1),if_pos (by omega)];exact gi (by omega)
 have h2:d'[k]! =d[k]! :=by rw[h k,if_neg (by omega),if_neg (by omega)]
 rw[swp_get d' (by omega) (by omega),h1,h2,h i];repeat' split
 all_goals first|exact gi (by omega)|(exfalso;omega)
theorem j6(S:SWO lt)(h:SortedIn lt a b d)(h1:a<=i)(h2:i<=j)(h3:j<b):lt d[j]! d[i]! =false:=by
 rcases Nat.lt_or_eq_of_le h2 with h2|rfl
 ·exact h i j h1 h2 h3
 ·exact S.irrefl _
theorem QH{a' b':Nat}(h:SortedIn lt a b d)(h1:a<=a')(h2:b'<=b):SortedIn lt a' b' d:=fun i j x y z=>h i j (by omega) y (by omega)
theorem JF(h:SortedIn lt lo hi d)(hp:PermIn a b d d')(ho:hi<=a∨b<=lo):SortedIn lt lo hi d':=fun i j x y z=>by
 rw[hp.2.1 j (by omega),hp.2.1 i (by omega)];exact h i j x y z
theorem zor(S:SWO lt)(h:SortedIn lt (a+1) b d)(h1:a+1<=i)(h2:i<=b)(hq1:∀x,a+1<=x->x<i->lt d[x]! d[a]! =true)(hq2:∀x,i<=x->x<b->lt d[x]! d[a]! =false)(hr:RotIn a (a+1) i d d'):SortedIn lt a b d':=by
 have g1:∀x,a<=x->x+1<i->d'[x]! =d[x+1]! :=fun x h3 h4=>by rw[hr x,if_pos (by omega)];exact gi (by omega)
 have g2:d'[i-1]! =d[a]! :=by rw[hr,if_neg (by omega),if_pos (by omega)];exact gi (by omega)
 have g3:∀x,i<=x->d'[x]! =d[x]! :=fun x h3=>by rw[hr x,if_neg (by omega),if_neg (by omega)]
 intro x y hx hxy hy;by_cases c1:x+1<i
 ·rw[g1 x hx c1];by_cases c2:y+1<i
  ·rw[g1 y (by omega) c2];exact h _ _ (by omega) (by omega) (by omega)
  ·by_cases c3:y+1=i
   ·rw[gi (d:=d') (show y=i-1 by omega),g2];exact S.asymmA (hq1 _ (by omega) (by omega))
   ·rw[g3 y (by omega)];exact h _ _ (by omega) (by omega) (by omega)
 ·by_cases c3:x+1=i
  ·rw[gi (d:=d') (show x=i-1 by omega),g2,g3 y (by omega)];exact hq2 _ (by omega) hy
  ·rw[g3 x (by omega),g3 y (by omega)];exact h _ _ (by omega) (by omega) (by omega)
theorem zos(S:SWO lt)(h:SortedIn lt a m d)(h1:a<=i)(h2:i<=m)(hq1:∀x,a<=x->x<i->lt d[m]! d[x]! =false)(hq2:∀x,i<=x->x<m->lt d[m]! d[x]! =true)(hr:RotIn i m (m+1) d d'):SortedIn lt a (m+1) d':=by
 have g1:∀x,x<i->d'[x]! =d[x]! :=fun x h3=>by rw[hr x,if_neg (by omega),if_neg (by omega)]
 have g2:d'[i]! =d[m]! :=by rw[hr,if_pos (by omega)];exact gi (by omega)
 have g3:∀x,i<x->x<=m->d'[x]! =d[x-1]! :=fun x h3 h4=>by rw[hr x,if_neg (by omega),if_pos (by omega)];exact gi (by omega)
 intro x y hx hxy hy;by_cases c1:x<i
 ·rw[g1 x c1];by_cases c2:y<i
  ·rw[g1 y c2];exact h _ _ hx hxy (by omega)
  ·by_cases c3:y=i
   ·rw[c3,g2];exact hq1 _ hx c1
   ·rw[g3 y (by omega) (by omega)];exact h _ _ hx (by omega) (by omega)
 ·rw[g3 y (by omega) (by omega)];by_cases c3:x=i
  ·rw[c3,g2];exact S.asymmA (hq2 _ (by omega) (by omega))
  ·rw[g3 x (by omega) (by omega)];exact h _ _ (by omega) (by omega) (by omega)
def Bis(q:Nat->Bool)(lo hi s r:Nat):Prop:=lo<=s/\s<=r/\r<=hi/\(∀c,lo<=c->c<s->q c=true)/\∀c,r<=c->c<hi->q c=false
def j7(q:Nat->Bool)(lo hi:Nat):Prop:=∀c c',lo<=c'->c'<=c->c<hi->q c=true->q c'=true
theorem Bis.start{q:Nat->Bool}(h:lo<=hi):Bis q lo hi lo hi:=⟨Zr,h,Zr,fun c _ _=>by omega,fun c _ _=>by omega⟩
theorem Bis.up{q:Nat->Bool}(h:Bis q lo hi s r)(hm:j7 q lo hi)(h1:s<=c)(h2:c<r)(hc:q c=true):Bis q lo hi (c+1) r:=by
 obtain⟨a1,a2,a3,a4,a5⟩:=h;exact⟨by omega,by omega,a3,fun x h3 h4=>hm c x h3 (by omega) (by omega) hc,a5⟩
theorem Bis.down{q:Nat->Bool}(h:Bis q lo hi s r)(hm:j7 q lo hi)(h1:s<=c)(h2:c<r)(hc:q c=false):Bis q lo hi s c:=by
 obtain⟨a1,a2,a3,a4,a5⟩:=h;refine⟨a1,h1,by omega,a4,fun x h3 h4=>?_⟩
 cases hx:q x
 ·rfl
 ·rw[hm x c (by omega) h3 h4 hx]at hc;cases hc
theorem zot(S:SWO lt)(x:α)(h:SortedIn lt m b d):j7 (fun c=>lt d[c]! x) m b:=fun c c' h1 h2 h3 hc=>by
 cases hx:lt d[c']! x
 ·have:=S.ntrans _ _ _ (j6 S h h1 h2 h3) hx;simp only at hc;rw[this]at hc;cases hc
 ·exact hx
theorem zou(S:SWO lt)(x:α)(h:SortedIn lt a m d):j7 (fun c=>!lt x d[c]!) a m:=fun c c' h1 h2 h3 hc=>by
 simp only[Bool.not_eq_true']at hc|-
 exact S.ntrans _ _ _ hc (j6 S h h1 h2 h3)
def zdU(a m b mid s0 r0:Nat):Prop:=a<m/\m<b/\mid=(a+b) / 2/\((m<=mid/\s0=a/\r0=m)∨(mid<m/\s0=mid+m-b/\r0=mid))
theorem zov(S:SWO lt)(hR:zdU a m b mid s0 r0)(h1:SortedIn lt a m d)(h2:SortedIn lt m b d):j7 (fun c=>!lt d[mid+m-1-c]! d[c]!) s0 r0:=fun c c' h3 h4 h5 hc=>by
 obtain⟨r1,r2,r3,hR⟩:=hR;simp only[Bool.not_eq_true']at hc|-
 exact S.ntrans _ _ _ (S.ntrans _ _ _ (j6 S h2 (i:=mid+m-1-c) (j:=mid+m-1-c') (by omega) (by omega) (by omega)) hc) (j6 S h1 (by omega) h4 (by omega))
theorem zow(S:SWO lt)(hR:zdU a m b mid s0 r0)(h1:SortedIn lt a m d)(h2:SortedIn lt m b d)(hB:Bis (fun c=>!lt d[mid+m-1-c]! d[c]!) s0 r0 s s)(hr:RotIn s m (mid+m-s) d d'):
  SortedIn lt a s d'/\SortedIn lt s mid d'/\SortedIn lt mid (mid+m-s) d'/\SortedIn lt (mid+m-s) b d'/\∀x y,a<=x->x<mid->mid<=y->y<b->lt d'[y]! d'[x]! =false:=by
 obtain⟨r1,r2,r3,hR⟩:=hR;obtain⟨b1,-,b2,q1,q2⟩:=hB;simp only[Bool.not_eq_true',Bool.not_eq_false']at q1 q2;have g1:∀x,x<s->d'[x]! =d[x]! :=fun x h=>by rw[hr x,if_neg (by omega),if_neg (by omega)]
 have g2:∀x,s<=x->x<mid->d'[x]! =d[m+(x-s)]! :=fun x h h'=>by rw[hr x,if_pos (by omega)]
 have g3:∀x,mid<=x->x<mid+m-s->d'[x]! =d[s+(x-mid)]! :=fun x h h'=>by rw[hr x,if_neg (by omega),if_pos (by omega)];exact gi (by omega)
 have g4:∀x,mid+m-s<=x->d'[x]! =d[x]! :=fun x h=>by rw[hr x,if_neg (by omega),if_neg (by omega)]
 refine⟨fun x y hx hxy hy=>?_,fun x y hx hxy hy=>?_,fun x y hx hxy hy=>?_,fun x y hx hxy hy=>?_,fun x y hx hx2 hy hy2=>?_⟩
 ·rw[g1 x (by omega),g1 y hy];exact h1 _ _ hx hxy (by omega)
 ·rw[g2 x hx (by omega),g2 y (by omega) hy];exact h2 _ _ (by omega) (by omega) (by omega)
 ·rw[g3 x hx (by omega),g3 y (by omega) hy];exact h1 _ _ (by omega) (by omega) (by omega)
 ·rw[g4 x hx,g4 y (by omega)];exact h2 _ _ (by omega) (by omega) (by omega)
 ·by_cases c1:x<s
  ·rw[g1 x c1];by_cases c2:y<mid+m-s
   ·rw[g3 y hy c2];exact h1 _ _ hx (by omega) (by omega)
   ·rw[g4 y (by omega)];have hs:s0<s:=by omega
    have hq:=q1 (s-1) (by omega) (by omega);rw[gi (d:=d) (show mid+m-1-(s-1)=mid+m-s by omega)]at hq;exact S.ntrans _ _ _ (S.ntrans _ _ _ (j6 S h2 (by omega) (by omega) hy2) hq) (j6 S h1 hx (by omega) (by omega))
  ·rw[g2 x (by omega) hx2];by_cases c2:y<mid+m-s
   ·rw[g3 y hy c2];have hs:s<r0:=by omega
    have hq:=S.asymmA (q2 s Zr hs);exact S.ntrans _ _ _ (S.ntrans _ _ _ (j6 S h1 (i:=s) (by omega) (by omega) (by omega)) hq) (j6 S h2 (by omega) (by omega) (by omega))
   ·rw[g4 y (by omega)];exact h2 _ _ (by omega) (by omega) hy2
theorem zox{d1 d2:Array α}(hm:a<=mid/\mid<=b)(hb:b<=d.size)(hx:∀x y,a<=x->x<mid->mid<=y->y<b->lt d[y]! d[x]! =false)(p1:PermIn a mid d d1)(s1:SortedIn lt a mid d1)(p2:PermIn mid b d1 d2)(s2:SortedIn lt mid b d2):SortedIn lt a b d2:=by
 have h1:=permIn_all d d1 a mid (fun z=>∀y,mid<=y->y<b->lt d[y]! z=false) (by omega) p1 (fun x h1 h2 y h3 h4=>hx x y h1 h2 h3 h4);have h2:=permIn_all d1 d2 mid b (fun z=>∀x,a<=x->x<mid->lt z d1[x]! =false) (by rw[p1.1];exact hb) p2 (fun y h3 h4 x h5 h6=>by
  rw[p1.2.1 y (by omega)];exact h1 x h5 h6 y h3 h4)
 intro x y hx1 hxy hy;by_cases c1:y<mid
 ·rw[p2.2.1 x (by omega),p2.2.1 y (by omega)];exact s1 _ _ hx1 hxy c1
 ·by_cases c2:x<mid
  ·rw[p2.2.1 x (by omega)];exact h2 y (by omega) hy x hx1 c2
  ·exact s2 _ _ (by omega) hxy hy
def FstIn(lt:α->α->Bool)(t:Nat)(d:Array α):Prop:=∀u,u<t->SortedIn lt (u*20) (u*20+20) d
def BlkIn(lt:α->α->Bool)(k n:Nat)(d:Array α):Prop:=∀t,SortedIn lt (t*k) (min (t*k+k) n) d
def MidIn(lt:α->α->Bool)(k t n:Nat)(d:Array α):Prop:=(∀u,u<t->SortedIn lt (u*(2*k)) (u*(2*k)+2*k) d)/\∀u,2*t<=u->SortedIn lt (u*k) (min (u*k+k) n) d
theorem zdV{u:Nat}(h:u<t):u*k+k<=t*k:=by
 have:=Nat.mul_le_mul_right k (show u+1<=t from h);rwa [Nat.add_mul,Nat.one_mul]at this
theorem FstIn.step(h:FstIn lt t d)(hp:PermIn (t*20) (t*20+20) d d')(hs:SortedIn lt (t*20) (t*20+20) d'):FstIn lt (t+1) d':=fun u hu=>by
 rcases Zl u t with h1|h1
 ·exact JF (h u h1) hp (.inl (by omega))
 ·obtain rfl:u=t:=by omega
  exact hs
theorem FstIn.end_(h:FstIn lt t d)(ht:t*20<=n)(ht2:n<t*20+20)(hp:PermIn (t*20) n d d')(hs:SortedIn lt (t*20) n d'):BlkIn lt 20 n d':=fun u=>by
 rcases Zl u t with h1|h1
 ·exact QH (JF (h u h1) hp (.inl (by omega))) Zr (by omega)
 ·rcases Zl t u with h2|h2
  ·intro x y h3 h4 h5;omega
  ·obtain rfl:u=t:=by omega
   exact QH hs Zr (by omega)
theorem MidIn.zero(h:BlkIn lt k n d):MidIn lt k 0 n d:=⟨fun u hu=>absurd hu (by omega),fun u _=>h u⟩
theorem MidIn.parts(h:MidIn lt k t n d)(hn:t*(2*k)+k<=n):SortedIn lt (t*(2*k)) (t*(2*k)+k) d/\SortedIn lt (t*(2*k)+k) (min (t*(2*k)+2*k) n) d:=by
 have e1:2*t*k=t*(2*k):=by rw[Nat.mul_comm 2 t,Nat.mul_assoc]
 have e2:(2*t+1)*k=t*(2*k)+k:=by rw[Nat.add_mul,e1,Nat.one_mul]
 have h1:=h.2 (2*t) Zr;have h2:=h.2 (2*t+1) (by omega);rw[e1]at h1;rw[e2]at h2;exact⟨QH h1 Zr (by omega),QH h2 Zr (by omega)⟩
theorem MidIn.step(h:MidIn lt k t n d)(hp:PermIn (t*(2*k)) (t*(2*k)+2*k) d d')(hs:SortedIn lt (t*(2*k)) (t*(2*k)+2*k) d'):MidIn lt k (t+1) n d':=by
 refine⟨fun u hu=>?_,fun u hu=>?_⟩
 ·rcases Zl u t with h1|h1
  ·exact JF (h.1 u h1) hp (.inl (zdV h1))
  ·obtain rfl:u=t:=by omega
   exact hs
 ·refine JF (h.2 u (by omega)) hp (.inr ?_);have:=Nat.mul_le_mul_right k hu;have e:2*(t+1)*k=t*(2*k)+2*k:=by rw[Nat.mul_comm 2 (t+1),Nat.mul_assoc,Nat.add_mul,Nat.one_mul]
  omega
theorem MidIn.end_(h:MidIn lt k t n d)(ht:t*(2*k)<=n)(ht2:n<t*(2*k)+2*k)(hp:PermIn (t*(2*k)) n d d')(hs:SortedIn lt (t*(2*k)) n d'):BlkIn lt (2*k) n d':=fun u=>by
 rcases Zl u t with h1|h1
 ·exact QH (JF (h.1 u h1) hp (.inl (zdV h1))) Zr (by omega)
 ·rcases Zl t u with h2|h2
  ·have:=zdV (k:=2*k) h2;intro x y h3 h4 h5;omega
  ·obtain rfl:u=t:=by omega
   exact QH hs Zr (by omega)
theorem MidIn.zd(h:MidIn lt k t n d)(hn:n<=t*(2*k)+k):SortedIn lt (t*(2*k)) n d:=by
 have e1:2*t*k=t*(2*k):=by rw[Nat.mul_comm 2 t,Nat.mul_assoc]
 have h1:=h.2 (2*t) Zr;rw[e1]at h1;exact QH h1 Zr (by omega)
theorem BlkIn.all(h:BlkIn lt k n d)(hk:n<=k):SortedIn lt 0 n d:=by
 have:=h 0;rw[Nat.zero_mul]at this;exact QH this Zr (by omega)
end
end
section
open Go.RowKit Go.Shelf Go.Lib Go.Sort
def qt{α:Type}[Inhabited α](enc:α->List Value)(k:Nat)(w0:World)(blk off:Nat)(Q:Array α->Prop)(e:Ending)(w':World):Prop:=e= .returned (.tuple #[])/\∃dk,SWK enc k w0 blk off dk w'/\Q dk
section
variable {α:Type} [Inhabited α] {enc:α->List Value} {k:Nat} {w0 w:World} {blk off:Nat} {d0 d:Array α}
set_option maxRecDepth 1000000 in
theorem zoy(aE:∀w,(isAgg 116).run Tryz.prog w= .ok true w)(zE:∀w,(Go.sizeOf 116).run Tryz.prog w= .ok k w)(g cap a b n:Nat)(cb:Array Value)(R:RowK enc k w0 blk off d0)(hs:d0.size=d.size)(S:SWK enc k w0 blk off d w)(h1:a+n<=b)(h2:b+n<=d.size)(hsz:d.size<4611686018427387904):
  Cq 375 #[.slice (some ⟨blk,off,none⟩) d.size cap,.int .i64 a,.int .i64 b,.int .i64 n,.func (.func g) #[] cb] w (qt enc k w0 blk off fun dk=>SwpIn a b n d dk/\PermIn a (b+n) d dk):=by
 have S0:Hid (SWK enc k w0 blk off d w):=S;unfold qt;clear S;have mixed:Tryz.prog.follows Departure.mixedOrders=true:=by kernel_rfl
 go_enter Tryz.func375,Tryz.ntmps375;go_wp2_with fail
 go_loopw [10] (fun iv wr=>∃(i:Nat) (dk:Array α),iv= .int .i64 i/\i<=n/\dk.size=d.size/\Hid (SWK enc k w0 blk off dk wr)/\Hid (SwpIn a b i d dk)/\Hid (PermIn a (b+n) d dk)) (fun iv _=>n-(intOf iv).toNat)
 case atStart=>exact⟨0,d,rfl,by omega,rfl,S0,Zh (SwpIn.zero _ _ _),Zh (permIn_refl _ _ _)⟩
 case round=>
  clear S0;obtain⟨i,dk,rfl,hi,hds,S1,HW,HP⟩:=hrel;by_cases hlt:i<n
  ·have ea1:((a:Int)+(i:Int)).toNat=a+i:=by omega
   have pa1:(0:Int)<=(a:Int)+(i:Int):=by omega
   have ba1:(a:Int)+(i:Int)<(d.size:Int):=by omega
   have ra1:IntKind.i64.wrap ((a:Int)+(i:Int))=(a:Int)+(i:Int):=by rw[IntKind.wrap_i64];omega
   have ec1:((b:Int)+(i:Int)).toNat=b+i:=by omega
   have pc1:(0:Int)<=(b:Int)+(i:Int):=by omega
   have bc1:(b:Int)+(i:Int)<(d.size:Int):=by omega
   have rc1:IntKind.i64.wrap ((b:Int)+(i:Int))=(b:Int)+(i:Int):=by rw[IntKind.wrap_i64];omega
   have S2:Hid (SWK enc k w0 blk off (swp dk (a+i) (b+i)) ((wr.drew.setCells blk (off+(a+i)*k) (enc dk[b+i]!)).setCells blk (off+(b+i)*k) (enc dk[a+i]!))):=S1.out.swapped R (a+i) (b+i) (by omega) (by omega);have l1a:=S1.out.ld1 R (by omega) Tryz.prog (a+i) (by omega);have l1b:=S1.out.ld1 R (by omega) Tryz.prog (b+i) (by omega);have s1a:=S1.out.st1 R (by omega) Tryz.prog (a+i) (by omega) dk[b+i]!;have s1b:=S1.out.st2 R (by omega) Tryz.prog (a+i) (b+i) (by omega) (by omega) dk[b+i]! dk[a+i]!
   have n1a:(enc dk[a+i]!).length=k:=R.hk _;have n1b:(enc dk[b+i]!).length=k:=R.hk _;generalize enc dk[a+i]! =cI at S2 l1a s1b n1a;generalize enc dk[b+i]! =cJ at S2 l1b s1a s1b n1b;clear S1;go_wp2_with fail
   go_big_region_o
   clear l1a l1b s1a s1b;generalize (wr.drew.setCells blk (off+(a+i)*k) cJ).setCells blk (off+(b+i)*k) cI=w2 at S2|-
   go_wp2;exact⟨⟨i+1,swp dk (a+i) (b+i),by go_num,by omega,by rw[size_swp];exact hds,S2,Zh (HW.out.step (by omega) (by omega)),Zh (permIn_trans _ _ _ _ _ HP.out (swp_permIn _ _ _ _ _ (by omega) (by omega) (by omega) (by omega) (by omega)))⟩,by simp[intOf];omega⟩
  ·obtain rfl:i=n:=by omega
   go_wp2;go_end0
   exact⟨rfl,dk,S1.out,HW.out,HP.out⟩
set_option maxRecDepth 1000000 in
theorem zoz(aE:∀w,(isAgg 116).run Tryz.prog w= .ok true w)(zE:∀w,(Go.sizeOf 116).run Tryz.prog w= .ok k w)(g cap a m b:Nat)(cb:Array Value)(R:RowK enc k w0 blk off d0)(hs:d0.size=d.size)(S:SWK enc k w0 blk off d w)(h1:a<m)(h2:m<b)(h3:b<=d.size)(hsz:d.size<4611686018427387904):
  Cq 346 #[.slice (some ⟨blk,off,none⟩) d.size cap,.int .i64 a,.int .i64 m,.int .i64 b,.func (.func g) #[] cb] w (qt enc k w0 blk off fun dk=>RotIn a m b d dk/\PermIn a b d dk):=by
 have S0:Hid (SWK enc k w0 blk off d w):=S;have HC:Hid (∀(W:World)(dk:Array α)(a b n:Nat),SWK enc k w0 blk off dk W->dk.size=d.size->a+n<=b->b+n<=d.size->Cq 375 #[.slice (some ⟨blk,off,none⟩) d.size cap,.int .i64 a,.int .i64 b,.int .i64 n,.func (.func g) #[] cb] W (qt enc k w0 blk off fun dk'=>SwpIn a b n dk dk'/\PermIn a (b+n) dk dk')):=Zh (fun W dk a b n h1 h2 h3 h4=>by
  have h:=zoy aE zE g cap a b n cb R (by omega) h1 h3 (by omega) (by omega);rw[h2]at h;exact h)
 obtain⟨i0,hi0⟩:=Xz (m-a);obtain⟨j0,hj0⟩:=Xz (b-m);have hw1:IntKind.i64.wrap ((m:Int)-(a:Int))=(i0:Int):=by rw[Iw];omega
 have hw2:IntKind.i64.wrap ((b:Int)-(m:Int))=(j0:Int):=by rw[Iw];omega
 have HR0:Hid (∀e,RotIn (m-i0) m (m+j0) d e->RotIn a m b d e):=Zh (fun e h=>by rwa [show m-i0=a by omega,show m+j0=b by omega]at h);have HN:=Zh (And.intro hi0 hj0);have hi1:0<i0/\a+i0<=m:=by omega
 have hj1:0<j0/\m+j0<=b:=by omega
 unfold qt at*
 clear S R hi0 hj0;go_enter Tryz.func346,Tryz.ntmps346;go_wp2_with fail
 go_loopw [10,11] (fun iv jv wr=>∃(i j:Nat) (dk:Array α),iv= .int .i64 i/\jv= .int .i64 j/\0<i/\0<j/\a+i<=m/\m+j<=b/\dk.size=d.size/\Hid (SWK enc k w0 blk off dk wr)/\Hid (∀e,RotIn (m-i) m (m+j) dk e->RotIn a m b d e)/\Hid (PermIn a b d dk)) (fun iv jv _=>(intOf iv).toNat+(intOf jv).toNat)
 case atStart=>exact⟨i0,j0,d,rfl,rfl,hi1.1,hj1.1,hi1.2,hj1.2,rfl,S0,HR0,Zh (permIn_refl _ _ _)⟩
 case round=>
  clear S0 HR0 HN hw1 hw2 hi1 hj1;obtain⟨i,j,dk,rfl,rfl,hi,hj,hia,hjb,hds,S1,HR,HP⟩:=hrel;obtain⟨p,hp⟩:=Xz (m-i);have hwp:IntKind.i64.wrap ((m:Int)-(i:Int))=(p:Int):=by rw[Iw];omega
  by_cases hij:i=j
  ·subst hij;have hd:((i:Int) !=(i:Int))=false:=by simp
   have HCC:=Zh (HC.out wr dk p m i S1.out hds (by omega) (by omega));have HPP:=Zh hp;clear hp HC;go_wp2_with (go_at_call 375;refine HCC.out.mono ?_;rintro e w1 ⟨rfl,dk',hS',hW,hP'⟩)
   go_end0
   have hp:=HPP.out;rw[hp]at hW;exact⟨rfl,dk',hS',HR.out _ (zoq (by omega) hW),permIn_trans _ _ _ _ _ HP.out (permIn_mono _ _ _ _ _ _ (by omega) (by omega) (by omega) hP')⟩
  ·have hd:((i:Int) !=(j:Int))=true:=by simp;omega
   by_cases hgt:j<i
   ·obtain⟨q,hq⟩:=Xz (i-j);have hwq:IntKind.i64.wrap ((i:Int)-(j:Int))=(q:Int):=by rw[Iw];omega
    have HCC:=Zh (HC.out wr dk p m j S1.out hds (by omega) (by omega));have HPP:=Zh (And.intro hp hq);clear hp hq HC;go_wp2_with (go_at_call 375;refine HCC.out.mono ?_;rintro e w1 ⟨rfl,dk',hS',hW,hP'⟩)
    obtain⟨hp,hq⟩:=HPP.out;rw[hp]at hW;exact⟨⟨q,j,dk',rfl,rfl,by omega,hj,by omega,hjb,hP'.1.trans hds,Zh hS',Zh (fun e he=>HR.out e (zoo (by omega) hgt hW (by rw[<-hq];exact he))),Zh (permIn_trans _ _ _ _ _ HP.out (permIn_mono _ _ _ _ _ _ (by omega) (by omega) (by omega) hP'))⟩,by simp[intOf];omega⟩
   ·obtain⟨q,hq⟩:=Xz (j-i);obtain⟨r,hr⟩:=Xz (m+j-i);have hwq:IntKind.i64.wrap ((j:Int)-(i:Int))=(q:Int):=by rw[Iw];omega
    have hwr:IntKind.i64.wrap ((m:Int)+(j:Int))=(m:Int)+(j:Int):=Iw;have zwf:IntKind.i64.wrap ((m:Int)+(j:Int)-(i:Int))=(r:Int):=by rw[Iw];omega
    have HCC:=Zh (HC.out wr dk p r i S1.out hds (by omega) (by omega));have HPP:=Zh (And.intro hp (And.intro hq hr));clear hp hq hr HC;go_wp2_with (go_at_call 375;refine HCC.out.mono ?_;rintro e w1 ⟨rfl,dk',hS',hW,hP'⟩)
    obtain⟨hp,hq,hr⟩:=HPP.out;rw[hp,hr]at hW;exact⟨⟨i,q,dk',rfl,rfl,hi,by omega,hia,by omega,hP'.1.trans hds,Zh hS',Zh (fun e he=>HR.out e (zop (by omega) (by omega) hW (by rw[<-hq];exact he))),Zh (permIn_trans _ _ _ _ _ HP.out (permIn_mono _ _ _ _ _ _ (by omega) (by omega) (by omega) hP'))⟩,by simp[intOf];omega⟩
end
section
variable {α:Type} [Inhabited α] {enc:α->List Value} {k:Nat} {w0:World} {blk off:Nat} {d0:Array α} {cf:α->α->Int}
set_option maxRecDepth 1000000 in
theorem zoA{d:Array α}(aE:∀w,(isAgg 116).run Tryz.prog w= .ok true w)(zE:∀w,(Go.sizeOf 116).run Tryz.prog w= .ok k w)(O:SWO (ltOf cf))(cap a m b:Nat)(zqp:CmpLays Tryz.prog 152 #[] enc k cf blk off d0.size w0)(R:RowK enc k w0 blk off d0)(hs:d0.size=d.size)(S:SWK enc k w0 blk off d w)(h1:a<m)(h2:m<b)(h3:b<=d.size)(hsz:d.size<4611686018427387904)(s1:SortedIn (ltOf cf) a m d)(s2:SortedIn (ltOf cf) m b d)(hm:m=a+1):
  Cq 295 #[.slice (some ⟨blk,off,none⟩) d.size cap,.int .i64 a,.int .i64 m,.int .i64 b,.func (.func 152) #[] #[]] w (qt enc k w0 blk off fun dk=>PermIn a b d dk/\SortedIn (ltOf cf) a b dk):=by
 have eg:∀args w,(callFunc 152 args).run Tryz.prog w= .ok (.enter 152 args) w:=enters_of Tryz.func152 (by kernel_rfl) rfl;have HC:Hid (CmpLays Tryz.prog 152 #[] enc k cf blk off d0.size w0):=zqp;have S0:Hid (SWK enc k w0 blk off d w):=S;have H1:=Zh s1;have H2:=Zh s2;unfold qt;clear S zqp s1 s2;have hw1:IntKind.i64.wrap ((m:Int)-(a:Int))=1:=by rw[Iw];omega
 have HM:Hid (j7 (fun c=>ltOf cf d[c]! d[a]!) m b):=Zh (zot O _ H2.out);have HMM:=Zh hm;clear hm;have mixed:Tryz.prog.follows Departure.mixedOrders=true:=by kernel_rfl
 go_enter Tryz.func295,Tryz.ntmps295;go_wp2_with fail
 go_loopw [10,11,12] (fun iv jv _ wr=>∃(i j:Nat),iv= .int .i64 i/\jv= .int .i64 j/\m<=i/\i<=j/\j<=b/\Hid (Bis (fun c=>ltOf cf d[c]! d[a]!) m b i j)/\Hid (SWK enc k w0 blk off d wr)) (fun iv jv _ _=>(intOf jv).toNat-(intOf iv).toNat)
 case atStart=>exact⟨m,b,rfl,rfl,Zr,by omega,Zr,Zh (Bis.start (by omega)),S0⟩
 case round=>
  clear S0;obtain⟨i,j,rfl,rfl,hi1,hij,hjb,HB,S1⟩:=hrel;by_cases hlt:i<j
  ·obtain⟨h,hh⟩:=Xz ((i+j) / 2);have hhz:((i:Int)+(j:Int)) / 2=(h:Int):=by omega
   have hh2:i<=h/\h<j:=by omega
   have HH:=Zh hh;clear hh
   cases hlv:ltOf cf d[h]! d[a]! with
   |true=>
    have HB2:=Zh (HB.out.up HM.out hh2.1 hh2.2 hlv);have ea:((h:Int):Int).toNat=h:=by omega
    have pa:(0:Int)<=(h:Int):=by omega
    have ba:(h:Int)<(d.size:Int):=by omega
    have ra:IntKind.i64.wrap ((h:Int))=(h:Int):=by rw[IntKind.wrap_i64];omega
    have ec:((a:Int):Int).toNat=a:=by omega
    have pc:(0:Int)<=(a:Int):=by omega
    have bc:(a:Int)<(d.size:Int):=by omega
    have rc:IntKind.i64.wrap ((a:Int))=(a:Int):=by rw[IntKind.wrap_i64];omega
    obtain⟨x,hx⟩:=Xz (d[h]! );obtain⟨y,hy⟩:=Xz (d[a]! );have la:=S1.out.ld R (by omega) Tryz.prog (h) (by omega);have lb:=S1.out.ld R (by omega) Tryz.prog (a) (by omega);rw[<-hx]at la;rw[<-hy]at lb;have hc:=S1.out.cmp HC.out (by omega) x y;have hv:cf x y<0:=by rw[hx,hy];exact of_decide_eq_true hlv
    have hd:decide (cf x y<0)=true:=decide_eq_true hv;have HXY:=Zh (And.intro hx hy);clear hx hy;go_wp2_with fail
    go_quiet_grown (first|(go_at_fn 152;refine Calls.grown_of (hc _ _)))
    have SU2:Hid (SWK enc k w0 blk off d (grow (wr.drewN nq) osq)):=S1.out.grown nq osq;clear la lb hc S1 HC;generalize grow (wr.drewN nq) osq=wu at SU2|-
    clear nq osq;go_wp2;exact⟨⟨h+1,j,by go_num,rfl,by omega,by omega,hjb,HB2,SU2⟩,by simp[intOf];omega⟩
   |false=>
    have HB2:=Zh (HB.out.down HM.out hh2.1 hh2.2 hlv);have ea:((h:Int):Int).toNat=h:=by omega
    have pa:(0:Int)<=(h:Int):=by omega
    have ba:(h:Int)<(d.size:Int):=by omega
    have ra:IntKind.i64.wrap ((h:Int))=(h:Int):=by rw[IntKind.wrap_i64];omega
    have ec:((a:Int):Int).toNat=a:=by omega
    have pc:(0:Int)<=(a:Int):=by omega
    have bc:(a:Int)<(d.size:Int):=by omega
    have rc:IntKind.i64.wrap ((a:Int))=(a:Int):=by rw[IntKind.wrap_i64];omega
    obtain⟨x,hx⟩:=Xz (d[h]! );obtain⟨y,hy⟩:=Xz (d[a]! );have la:=S1.out.ld R (by omega) Tryz.prog (h) (by omega);have lb:=S1.out.ld R (by omega) Tryz.prog (a) (by omega);rw[<-hx]at la;rw[<-hy]at lb;have hc:=S1.out.cmp HC.out (by omega) x y;have hv:¬cf x y<0:=by rw[hx,hy];exact of_decide_eq_false hlv
    have hd:decide (cf x y<0)=false:=decide_eq_false hv;have HXY:=Zh (And.intro hx hy);clear hx hy;go_wp2_with fail
    go_quiet_grown (first|(go_at_fn 152;refine Calls.grown_of (hc _ _)))
    have SU2:Hid (SWK enc k w0 blk off d (grow (wr.drewN nq) osq)):=S1.out.grown nq osq;clear la lb hc S1 HC;generalize grow (wr.drewN nq) osq=wu at SU2|-
    clear nq osq;go_wp2;exact⟨⟨i,h,rfl,rfl,hi1,hh2.1,by omega,HB2,SU2⟩,by simp[intOf];omega⟩
  ·obtain rfl:i=j:=by omega
   obtain⟨p,hp⟩:=Xz (i-1);have hwp:IntKind.i64.wrap ((i:Int)-1)=(p:Int):=by rw[Iw];omega
   have hpi:p+1=i:=by omega
   clear hp;go_wp2_with fail
   go_loopw [13] (fun kv wr=>∃(q:Nat) (dk:Array α),kv= .int .i64 q/\a<=q/\q<=p/\dk.size=d.size/\Hid (RotIn a (a+1) (q+1) d dk)/\Hid (PermIn a b d dk)/\Hid (SWK enc k w0 blk off dk wr)) (fun kv _=>p-(intOf kv).toNat)
   case atStart=>exact⟨a,d,rfl,Zr,by omega,rfl,Zh (zdT (.inr Zr)),Zh (permIn_refl _ _ _),S1⟩
   case round=>
    clear S1;obtain⟨q,dk,rfl,hq1,hq2,hds,HR,HP,S1⟩:=hrel;by_cases hlq:q<p
    ·have HR2:=Zh (HR.out.up hq1 (by omega));have HP2:Hid (PermIn a b d (swp dk q (q+1))):=Zh (permIn_trans _ _ _ _ _ HP.out (swp_permIn _ _ _ _ _ (by omega) (by omega) (by omega) (by omega) (by omega)));have ea1:((q:Int):Int).toNat=q:=by omega
     have pa1:(0:Int)<=(q:Int):=by omega
     have ba1:(q:Int)<(d.size:Int):=by omega
     have ra1:IntKind.i64.wrap ((q:Int))=(q:Int):=by rw[IntKind.wrap_i64];omega
     have ec1:((q:Int)+1:Int).toNat=q+1:=by omega
     have pc1:(0:Int)<=(q:Int)+1:=by omega
     have bc1:(q:Int)+1<(d.size:Int):=by omega
     have rc1:IntKind.i64.wrap ((q:Int)+1)=(q:Int)+1:=by rw[IntKind.wrap_i64];omega
     have S2:Hid (SWK enc k w0 blk off (swp dk (q) (q+1)) ((wr.drew.setCells blk (off+(q)*k) (enc dk[q+1]!)).setCells blk (off+(q+1)*k) (enc dk[q]!))):=S1.out.swapped R (q) (q+1) (by omega) (by omega);have l1a:=S1.out.ld1 R (by omega) Tryz.prog (q) (by omega);have l1b:=S1.out.ld1 R (by omega) Tryz.prog (q+1) (by omega);have s1a:=S1.out.st1 R (by omega) Tryz.prog (q) (by omega) dk[q+1]!;have s1b:=S1.out.st2 R (by omega) Tryz.prog (q) (q+1) (by omega) (by omega) dk[q+1]! dk[q]!
     have n1a:(enc dk[q]!).length=k:=R.hk _;have n1b:(enc dk[q+1]!).length=k:=R.hk _;generalize enc dk[q]! =cI at S2 l1a s1b n1a;generalize enc dk[q+1]! =cJ at S2 l1b s1a s1b n1b;clear S1;go_wp2_with fail
     go_big_region_o
     clear l1a l1b s1a s1b;generalize (wr.drew.setCells blk (off+(q)*k) cJ).setCells blk (off+(q+1)*k) cI=w2 at S2|-
     go_wp2;exact⟨⟨q+1,swp dk q (q+1),by go_num,by omega,by omega,by rw[size_swp];exact hds,HR2,HP2,S2⟩,by simp[intOf];omega⟩
    ·obtain rfl:q=p:=by omega
     go_wp2;refine bodyPost_ret (results_none rfl _ _ _) rfl ?_;obtain⟨b1,b2,b3,q1,q2⟩:=HB.out;have hr:=HR.out;rw[hpi]at hr;have hsm:=H2.out;rw[HMM.out]at hsm;simp only[HMM.out]at q1;exact⟨rfl,dk,S1.out,HP.out,zor O hsm (by omega) hjb q1 q2 hr⟩
set_option maxRecDepth 1000000 in
theorem zoB{d:Array α}(aE:∀w,(isAgg 116).run Tryz.prog w= .ok true w)(zE:∀w,(Go.sizeOf 116).run Tryz.prog w= .ok k w)(O:SWO (ltOf cf))(cap a m b:Nat)(zqp:CmpLays Tryz.prog 152 #[] enc k cf blk off d0.size w0)(R:RowK enc k w0 blk off d0)(hs:d0.size=d.size)(S:SWK enc k w0 blk off d w)(h1:a<m)(h2:m<b)(h3:b<=d.size)(hsz:d.size<4611686018427387904)(s1:SortedIn (ltOf cf) a m d)(s2:SortedIn (ltOf cf) m b d)(hm:m≠a+1)(hb:b=m+1):
  Cq 295 #[.slice (some ⟨blk,off,none⟩) d.size cap,.int .i64 a,.int .i64 m,.int .i64 b,.func (.func 152) #[] #[]] w (qt enc k w0 blk off fun dk=>PermIn a b d dk/\SortedIn (ltOf cf) a b dk):=by
 have eg:∀args w,(callFunc 152 args).run Tryz.prog w= .ok (.enter 152 args) w:=enters_of Tryz.func152 (by kernel_rfl) rfl;have HC:Hid (CmpLays Tryz.prog 152 #[] enc k cf blk off d0.size w0):=zqp;have S0:Hid (SWK enc k w0 blk off d w):=S;have H1:=Zh s1;have H2:=Zh s2;unfold qt;clear S zqp s1 s2;obtain⟨u,hu⟩:=Xz (m-a);have hw1:IntKind.i64.wrap ((m:Int)-(a:Int))=(u:Int):=by rw[Iw];omega
 have hu1:((u:Int)==1)=false:=by simp;omega
 have hw2:IntKind.i64.wrap ((b:Int)-(m:Int))=1:=by rw[Iw];omega
 have HM:Hid (j7 (fun c=>!ltOf cf d[m]! d[c]!) a m):=Zh (zou O _ H1.out);have HBB:=Zh hb;clear hu hb;have mixed:Tryz.prog.follows Departure.mixedOrders=true:=by kernel_rfl
 go_enter Tryz.func295,Tryz.ntmps295;go_wp2_with fail
 go_loopw [14,15,16] (fun iv jv _ wr=>∃(i j:Nat),iv= .int .i64 i/\jv= .int .i64 j/\a<=i/\i<=j/\j<=m/\Hid (Bis (fun c=>!ltOf cf d[m]! d[c]!) a m i j)/\Hid (SWK enc k w0 blk off d wr)) (fun iv jv _ _=>(intOf jv).toNat-(intOf iv).toNat)
 case atStart=>exact⟨a,m,rfl,rfl,Zr,by omega,Zr,Zh (Bis.start (by omega)),S0⟩
 case round=>
  clear S0;obtain⟨i,j,rfl,rfl,hi1,hij,hjb,HB,S1⟩:=hrel;by_cases hlt:i<j
  ·obtain⟨h,hh⟩:=Xz ((i+j) / 2);have hhz:((i:Int)+(j:Int)) / 2=(h:Int):=by omega
   have hh2:i<=h/\h<j:=by omega
   have HH:=Zh hh;clear hh
   cases hlv:ltOf cf d[m]! d[h]! with
   |false=>
    have HB2:=Zh (HB.out.up HM.out hh2.1 hh2.2 (by simp only[hlv,Bool.not_false]));have ea:((m:Int):Int).toNat=m:=by omega
    have pa:(0:Int)<=(m:Int):=by omega
    have ba:(m:Int)<(d.size:Int):=by omega
    have ra:IntKind.i64.wrap ((m:Int))=(m:Int):=by rw[IntKind.wrap_i64];omega
    have ec:((h:Int):Int).toNat=h:=by omega
    have pc:(0:Int)<=(h:Int):=by omega
    have bc:(h:Int)<(d.size:Int):=by omega
    have rc:IntKind.i64.wrap ((h:Int))=(h:Int):=by rw[IntKind.wrap_i64];omega
    obtain⟨x,hx⟩:=Xz (d[m]! );obtain⟨y,hy⟩:=Xz (d[h]! );have la:=S1.out.ld R (by omega) Tryz.prog (m) (by omega);have lb:=S1.out.ld R (by omega) Tryz.prog (h) (by omega);rw[<-hx]at la;rw[<-hy]at lb;have hc:=S1.out.cmp HC.out (by omega) x y;have hv:¬cf x y<0:=by rw[hx,hy];exact of_decide_eq_false hlv
    have hd:decide (cf x y<0)=false:=decide_eq_false hv;have HXY:=Zh (And.intro hx hy);clear hx hy;go_wp2_with fail
    go_quiet_grown (first|(go_at_fn 152;refine Calls.grown_of (hc _ _)))
    have SU2:Hid (SWK enc k w0 blk off d (grow (wr.drewN nq) osq)):=S1.out.grown nq osq;clear la lb hc S1 HC;generalize grow (wr.drewN nq) osq=wu at SU2|-
    clear nq osq;go_wp2;exact⟨⟨h+1,j,by go_num,rfl,by omega,by omega,hjb,HB2,SU2⟩,by simp[intOf];omega⟩
   |true=>
    have HB2:=Zh (HB.out.down HM.out hh2.1 hh2.2 (by simp only[hlv,Bool.not_true]));have ea:((m:Int):Int).toNat=m:=by omega
    have pa:(0:Int)<=(m:Int):=by omega
    have ba:(m:Int)<(d.size:Int):=by omega
    have ra:IntKind.i64.wrap ((m:Int))=(m:Int):=by rw[IntKind.wrap_i64];omega
    have ec:((h:Int):Int).toNat=h:=by omega
    have pc:(0:Int)<=(h:Int):=by omega
    have bc:(h:Int)<(d.size:Int):=by omega
    have rc:IntKind.i64.wrap ((h:Int))=(h:Int):=by rw[IntKind.wrap_i64];omega
    obtain⟨x,hx⟩:=Xz (d[m]! );obtain⟨y,hy⟩:=Xz (d[h]! );have la:=S1.out.ld R (by omega) Tryz.prog (m) (by omega);have lb:=S1.out.ld R (by omega) Tryz.prog (h) (by omega);rw[<-hx]at la;rw[<-hy]at lb;have hc:=S1.out.cmp HC.out (by omega) x y;have hv:cf x y<0:=by rw[hx,hy];exact of_decide_eq_true hlv
    have hd:decide (cf x y<0)=true:=decide_eq_true hv;have HXY:=Zh (And.intro hx hy);clear hx hy;go_wp2_with fail
    go_quiet_grown (first|(go_at_fn 152;refine Calls.grown_of (hc _ _)))
    have SU2:Hid (SWK enc k w0 blk off d (grow (wr.drewN nq) osq)):=S1.out.grown nq osq;clear la lb hc S1 HC;generalize grow (wr.drewN nq) osq=wu at SU2|-
    clear nq osq;go_wp2;exact⟨⟨i,h,rfl,rfl,hi1,hh2.1,by omega,HB2,SU2⟩,by simp[intOf];omega⟩
  ·obtain rfl:i=j:=by omega
   go_wp2_with fail
   go_loopw [17] (fun kv wr=>∃(q:Nat) (dk:Array α),kv= .int .i64 q/\i<=q/\q<=m/\dk.size=d.size/\Hid (RotIn q m (m+1) d dk)/\Hid (PermIn a b d dk)/\Hid (SWK enc k w0 blk off dk wr)) (fun kv _=>(intOf kv).toNat-i)
   case atStart=>exact⟨m,d,rfl,hjb,Zr,rfl,Zh (zdT (.inl rfl)),Zh (permIn_refl _ _ _),S1⟩
   case round=>
    clear S1;obtain⟨q,dk,rfl,hq1,hq2,hds,HR,HP,S1⟩:=hrel;by_cases hlq:i<q
    ·obtain⟨p,hp⟩:∃p,q=p+1:=⟨q-1,by omega⟩;have hwp:IntKind.i64.wrap ((q:Int)-1)=(p:Int):=by rw[Iw];omega
     have hr:=HR.out;rw[hp]at hr;have HR2:=Zh (hr.down (by omega) (by omega));rw[<-hp]at HR2;have HP2:Hid (PermIn a b d (swp dk q p)):=Zh (permIn_trans _ _ _ _ _ HP.out (swp_permIn _ _ _ _ _ (by omega) (by omega) (by omega) (by omega) (by omega)));have hpq:p+1=q:=by omega
     clear hr hp;have ea1:((q:Int):Int).toNat=q:=by omega
     have pa1:(0:Int)<=(q:Int):=by omega
     have ba1:(q:Int)<(d.size:Int):=by omega
     have ra1:IntKind.i64.wrap ((q:Int))=(q:Int):=by rw[IntKind.wrap_i64];omega
     have ec1:((p:Int):Int).toNat=p:=by omega
     have pc1:(0:Int)<=(p:Int):=by omega
     have bc1:(p:Int)<(d.size:Int):=by omega
     have rc1:IntKind.i64.wrap ((p:Int))=(p:Int):=by rw[IntKind.wrap_i64];omega
     have S2:Hid (SWK enc k w0 blk off (swp dk (q) (p)) ((wr.drew.setCells blk (off+(q)*k) (enc dk[p]!)).setCells blk (off+(p)*k) (enc dk[q]!))):=S1.out.swapped R (q) (p) (by omega) (by omega);have l1a:=S1.out.ld1 R (by omega) Tryz.prog (q) (by omega);have l1b:=S1.out.ld1 R (by omega) Tryz.prog (p) (by omega);have s1a:=S1.out.st1 R (by omega) Tryz.prog (q) (by omega) dk[p]!;have s1b:=S1.out.st2 R (by omega) Tryz.prog (q) (p) (by omega) (by omega) dk[p]! dk[q]!
     have n1a:(enc dk[q]!).length=k:=R.hk _;have n1b:(enc dk[p]!).length=k:=R.hk _;generalize enc dk[q]! =cI at S2 l1a s1b n1a;generalize enc dk[p]! =cJ at S2 l1b s1a s1b n1b;clear S1;go_wp2_with fail
     go_big_region_o
     clear l1a l1b s1a s1b;generalize (wr.drew.setCells blk (off+(q)*k) cJ).setCells blk (off+(p)*k) cI=w2 at S2|-
     go_wp2;exact⟨⟨p,swp dk q p,by first|rfl|go_num,by omega,by omega,by rw[size_swp];exact hds,HR2,HP2,S2⟩,by simp[intOf];omega⟩
    ·obtain rfl:q=i:=by omega
     go_wp2;refine bodyPost_ret (results_none rfl _ _ _) rfl ?_;obtain⟨b1,b2,b3,q1,q2⟩:=HB.out;simp only[Bool.not_eq_true',Bool.not_eq_false']at q1 q2;exact⟨rfl,dk,S1.out,HP.out,by rw[HBB.out];exact zos O H1.out b1 b3 q1 q2 HR.out⟩
def zdW (cap:Nat) (enc:α->List Value) (k:Nat) (w0:World) (blk off:Nat) (cf:α->α->Int) (sz N:Nat):Prop:=∀(a m b:Nat) (d:Array α) (W:World),b-a<N->a<m->m<b->b<=sz->d.size=sz->SortedIn (ltOf cf) a m d->SortedIn (ltOf cf) m b d->SWK enc k w0 blk off d W->
    Cq 295 #[.slice (some ⟨blk,off,none⟩) sz cap,.int .i64 a,.int .i64 m,.int .i64 b,.func (.func 152) #[] #[]] W (qt enc k w0 blk off fun dk=>PermIn a b d dk/\SortedIn (ltOf cf) a b dk)
set_option maxRecDepth 1000000 in
theorem zoC{d:Array α}(aE:∀w,(isAgg 116).run Tryz.prog w= .ok true w)(zE:∀w,(Go.sizeOf 116).run Tryz.prog w= .ok k w)(O:SWO (ltOf cf))(cap a m b:Nat)(zqp:CmpLays Tryz.prog 152 #[] enc k cf blk off d0.size w0)(R:RowK enc k w0 blk off d0)(hs:d0.size=d.size)(S:SWK enc k w0 blk off d w)(h1:a<m)(h2:m<b)(h3:b<=d.size)(hsz:d.size<4611686018427387904)(s1:SortedIn (ltOf cf) a m d)(s2:SortedIn (ltOf cf) m b d)(hm:m≠a+1)(hb:b≠m+1)(zqO:zdW cap enc k w0 blk off cf d.size (b-a)):
  Cq 295 #[.slice (some ⟨blk,off,none⟩) d.size cap,.int .i64 a,.int .i64 m,.int .i64 b,.func (.func 152) #[] #[]] w (qt enc k w0 blk off fun dk=>PermIn a b d dk/\SortedIn (ltOf cf) a b dk):=by
 have eg:∀args w,(callFunc 152 args).run Tryz.prog w= .ok (.enter 152 args) w:=enters_of Tryz.func152 (by kernel_rfl) rfl;have HC:Hid (CmpLays Tryz.prog 152 #[] enc k cf blk off d0.size w0):=zqp;have S0:Hid (SWK enc k w0 blk off d w):=S;have H1:=Zh s1;have H2:=Zh s2;unfold qt;clear S zqp s1 s2;have HRC:=Zh zqO;have zpD:Hid (∀(W:World)(dk:Array α)(a m b:Nat),SWK enc k w0 blk off dk W->dk.size=d.size->a<m->m<b->b<=d.size->Cq 346 #[.slice (some ⟨blk,off,none⟩) d.size cap,.int .i64 a,.int .i64 m,.int .i64 b,.func (.func 152) #[] #[]] W (qt enc k w0 blk off fun dk'=>RotIn a m b dk dk'/\PermIn a b dk dk')):=Zh (fun W dk a m b h1 h2 h3 h4 h5=>by
  have h:=zoz aE zE 152 cap a m b #[] R (by omega) h1 h3 h4 (by omega) (by omega);rw[h2]at h;exact h)
 unfold zdW at HRC;unfold qt at HRC zpD;obtain⟨u,hu⟩:=Xz (m-a);obtain⟨v,hv⟩:=Xz (b-m);have hw1:IntKind.i64.wrap ((m:Int)-(a:Int))=(u:Int):=by rw[Iw];omega
 have hu1:((u:Int)==1)=false:=by simp;omega
 have hw2:IntKind.i64.wrap ((b:Int)-(m:Int))=(v:Int):=by rw[Iw];omega
 have hv1:((v:Int)==1)=false:=by simp;omega
 obtain⟨mid,zrk⟩:=Xz ((a+b) / 2);have hmz:((a:Int)+(b:Int)) / 2=(mid:Int):=by omega
 have hm3:a<mid/\mid<b:=by omega
 have hwn:IntKind.i64.wrap ((mid:Int)+(m:Int))=(mid:Int)+(m:Int):=Iw;obtain⟨n,hn⟩:=Xz (mid+m);have hnz:(mid:Int)+(m:Int)=(n:Int):=by omega
 obtain⟨s0,r0,hR0,zqK⟩:∃s0 r0,zdU a m b mid s0 r0/\((m<=mid/\s0=a/\r0=m)∨(mid<m/\s0=n-b/\r0=mid)):=by
  rcases Zl mid m with h|h
  ·exact⟨n-b,mid,⟨h1,h2,zrk,.inr ⟨h,by rw[hn],rfl⟩⟩,.inr ⟨h,rfl,rfl⟩⟩
  ·exact⟨a,m,⟨h1,h2,zrk,.inl ⟨h,rfl,rfl⟩⟩,.inl ⟨h,rfl,rfl⟩⟩
 have HR0:=Zh hR0;have HM:Hid (j7 (fun c=>!ltOf cf d[mid+m-1-c]! d[c]!) s0 r0):=Zh (zov O hR0 H1.out H2.out);obtain⟨pp,hpp⟩:=Xz (n-1);have hwp:IntKind.i64.wrap ((n:Int)-1)=(pp:Int):=by rw[Iw];omega
 have hsr:a<=s0/\s0<=r0/\r0<=m/\r0<=mid/\n-s0<=b/\m<=n-r0/\mid<=n-r0:=by omega
 have hwb:mid<m->IntKind.i64.wrap ((n:Int)-(b:Int))=(s0:Int):=fun h=>by rw[Iw];omega
 have HNN:=Zh (And.intro hn hpp);have HCS:=Zh zqK;have zqc:=Zh zrk;have zwg:n<=pp+1:=by omega
 have zwh:pp+1<=n:=by omega
 clear hu hv zrk hn hpp zqK hR0 zqO;have mixed:Tryz.prog.follows Departure.mixedOrders=true:=by kernel_rfl
 go_enter Tryz.func295,Tryz.ntmps295;go_upto_if 140 with fail
 go_cut [20,21] (fun sv rv W=>sv= .int .i64 s0/\rv= .int .i64 r0/\W=w)
 case first=>as_aux_lemma=>
  rcases HCS.out with ⟨hc1,hc2,hc3⟩|⟨hc1,hc2,hc3⟩
  ·have hd:decide ((m:Int)>(mid:Int))=false:=by simp;omega
   subst hc2 hc3;go_wp2_with fail
   go_meet
   exact⟨rfl,rfl,rfl⟩
  ·have zwi:=hwb hc1;subst hc3;go_wp2_with fail
   go_meet
   exact⟨by rw[hc2],rfl,rfl⟩
 case rest=>
  obtain⟨rfl,rfl,hW⟩:=hcut;rw[hW];clear hW hwb;go_wp2_with fail
  go_loopw [20,21,23] (fun sv rv _ wr=>∃(s r:Nat),sv= .int .i64 s/\rv= .int .i64 r/\s0<=s/\s<=r/\r<=r0/\Hid (Bis (fun c=>!ltOf cf d[mid+m-1-c]! d[c]!) s0 r0 s r)/\Hid (SWK enc k w0 blk off d wr)) (fun sv rv _ _=>(intOf rv).toNat-(intOf sv).toNat)
  case atStart=>exact⟨s0,r0,rfl,rfl,Zr,by omega,Zr,Zh (Bis.start (by omega)),S0⟩
  case round=>
   clear S0;obtain⟨s,r,rfl,rfl,hs1,zwj,hr1,HB,S1⟩:=hrel;by_cases hlt:s<r
   ·obtain⟨h,hh⟩:=Xz ((s+r) / 2);have hhz:((s:Int)+(r:Int)) / 2=(h:Int):=by omega
    have hh2:s<=h/\h<r:=by omega
    obtain⟨z,hz⟩:=Xz (pp-h);have hwz:IntKind.i64.wrap ((pp:Int)-(h:Int))=(z:Int):=by rw[Iw];omega
    have hzl:z<d.size:=by omega
    have hpi:mid+m-1-h=z:=by have:=HNN.out;omega
    have HPI:=Zh hpi;clear hh hpi hz
    cases hlv:ltOf cf d[z]! d[h]! with
    |false=>as_aux_lemma=>
     have HB2:=Zh (HB.out.up HM.out hh2.1 hh2.2 (by simp only[HPI.out,hlv,Bool.not_false]));have ea:((z:Int):Int).toNat=z:=by omega
     have pa:(0:Int)<=(z:Int):=by omega
     have ba:(z:Int)<(d.size:Int):=by omega
     have ra:IntKind.i64.wrap ((z:Int))=(z:Int):=by rw[IntKind.wrap_i64];omega
     have ec:((h:Int):Int).toNat=h:=by omega
     have pc:(0:Int)<=(h:Int):=by omega
     have bc:(h:Int)<(d.size:Int):=by omega
     have rc:IntKind.i64.wrap ((h:Int))=(h:Int):=by rw[IntKind.wrap_i64];omega
     obtain⟨x,hx⟩:=Xz (d[z]! );obtain⟨y,hy⟩:=Xz (d[h]! );have la:=S1.out.ld R (by omega) Tryz.prog (z) (by omega);have lb:=S1.out.ld R (by omega) Tryz.prog (h) (by omega);rw[<-hx]at la;rw[<-hy]at lb;have hc:=S1.out.cmp HC.out (by omega) x y;have hv:¬cf x y<0:=by rw[hx,hy];exact of_decide_eq_false hlv
     have hd:decide (cf x y<0)=false:=decide_eq_false hv;have HXY:=Zh (And.intro hx hy);clear hx hy;go_wp2_with fail
     go_quiet_grown (first|(go_at_fn 152;refine Calls.grown_of (hc _ _)))
     have SU2:Hid (SWK enc k w0 blk off d (grow (wr.drewN nq) osq)):=S1.out.grown nq osq;clear la lb hc S1 HC;generalize grow (wr.drewN nq) osq=wu at SU2|-
     clear nq osq;go_wp2;exact⟨⟨h+1,r,by go_num,rfl,by omega,by omega,hr1,HB2,SU2⟩,by simp[intOf];omega⟩
    |true=>as_aux_lemma=>
     have HB2:=Zh (HB.out.down HM.out hh2.1 hh2.2 (by simp only[HPI.out,hlv,Bool.not_true]));have ea:((z:Int):Int).toNat=z:=by omega
     have pa:(0:Int)<=(z:Int):=by omega
     have ba:(z:Int)<(d.size:Int):=by omega
     have ra:IntKind.i64.wrap ((z:Int))=(z:Int):=by rw[IntKind.wrap_i64];omega
     have ec:((h:Int):Int).toNat=h:=by omega
     have pc:(0:Int)<=(h:Int):=by omega
     have bc:(h:Int)<(d.size:Int):=by omega
     have rc:IntKind.i64.wrap ((h:Int))=(h:Int):=by rw[IntKind.wrap_i64];omega
     obtain⟨x,hx⟩:=Xz (d[z]! );obtain⟨y,hy⟩:=Xz (d[h]! );have la:=S1.out.ld R (by omega) Tryz.prog (z) (by omega);have lb:=S1.out.ld R (by omega) Tryz.prog (h) (by omega);rw[<-hx]at la;rw[<-hy]at lb;have hc:=S1.out.cmp HC.out (by omega) x y;have hv:cf x y<0:=by rw[hx,hy];exact of_decide_eq_true hlv
     have hd:decide (cf x y<0)=true:=decide_eq_true hv;have HXY:=Zh (And.intro hx hy);clear hx hy;go_wp2_with fail
     go_quiet_grown (first|(go_at_fn 152;refine Calls.grown_of (hc _ _)))
     have SU2:Hid (SWK enc k w0 blk off d (grow (wr.drewN nq) osq)):=S1.out.grown nq osq;clear la lb hc S1 HC;generalize grow (wr.drewN nq) osq=wu at SU2|-
     clear nq osq;go_wp2;exact⟨⟨s,h,rfl,rfl,hs1,hh2.1,by omega,HB2,SU2⟩,by simp[intOf];omega⟩
   ·obtain rfl:s=r:=by omega
    obtain⟨t,ht⟩:=Xz (n-s);have hwt:IntKind.i64.wrap ((n:Int)-(s:Int))=(t:Int):=by rw[Iw];omega
    have ht2:mid<=t/\m<=t/\t<=b:=by omega
    have hmt:mid+m-s=t:=by have:=HNN.out;omega
    have HT:=Zh (And.intro ht hmt);clear ht hmt;obtain⟨cb,hcb⟩:∃cb:Bool,cb=decide (s<m/\m<t):=⟨_,rfl⟩;have HCB:=Zh hcb;clear hcb;go_upto_region 39 with fail
    go_cut [185] (fun c W=>c= .bool cb/\W=wr)
    case first=>as_aux_lemma=>
     by_cases hc1:s<m
     ·by_cases hc2:m<t
      ·go_wp2_with fail
       go_meet
       exact⟨by rw[HCB.out,decide_eq_true ⟨hc1,hc2⟩],rfl⟩
      ·go_wp2_with fail
       go_meet
       exact⟨by rw[HCB.out,decide_eq_false fun h=>hc2 h.2],rfl⟩
     ·go_wp2_with fail
      go_meet
      exact⟨by rw[HCB.out,decide_eq_false fun h=>hc1 h.1],rfl⟩
    case rest=>
    obtain⟨rfl,hW⟩:=hcut;rw[hW];clear hW;go_upto_if 185 with fail
    go_cut [] (fun W=>∃dk,dk.size=d.size/\Hid (SWK enc k w0 blk off dk W)/\Hid (RotIn s m t d dk)/\Hid (PermIn a b d dk))
    case first=>as_aux_lemma=>
     cases cb with
     |true=>
      ·have hc:=of_decide_eq_true HCB.out.symm;have hc1:=hc.1;have hc2:=hc.2;clear hc;have HCC:=Zh (zpD.out wr d s m t S1.out rfl hc1 hc2 (by omega));go_wp2_with (go_at_call 346;refine HCC.out.mono ?_;rintro e1 w1 ⟨rfl,dk',hS',hW,hP'⟩)
       go_meet
       exact⟨dk',hP'.1,Zh hS',Zh hW,Zh (permIn_mono _ _ _ _ _ _ (by omega) (by omega) (by omega) hP')⟩
     |false=>
      have hc:=of_decide_eq_false HCB.out.symm;go_wp2_with fail
      go_meet
      exact⟨d,rfl,S1,Zh (zdT (by omega)),Zh (permIn_refl _ _ _)⟩
    case rest=>
     obtain⟨dk,hds,S2,HRT,HP⟩:=hcut;have hst:=zow O HR0.out H1.out H2.out HB.out (d':=dk) (by rw[HT.out.2];exact HRT.out);rw[HT.out.2]at hst;have HST:=Zh hst;clear hst S1;obtain⟨wA,hwA⟩:=Xz wc;rw[<-hwA]at S2|-
     clear hwA;obtain⟨cb2,hcb⟩:∃cb:Bool,cb=decide (a<s/\s<mid):=⟨_,rfl⟩;have zpj:=Zh hcb;clear hcb;go_upto_region 41 with fail
     go_cut [199] (fun c W=>c= .bool cb2/\W=wA)
     case first=>as_aux_lemma=>
      by_cases hc1:a<s
      ·by_cases hc2:s<mid
       ·go_wp2_with fail
        go_meet
        exact⟨by rw[zpj.out,decide_eq_true ⟨hc1,hc2⟩],rfl⟩
       ·go_wp2_with fail
        go_meet
        exact⟨by rw[zpj.out,decide_eq_false fun h=>hc2 h.2],rfl⟩
      ·go_wp2_with fail
       go_meet
       exact⟨by rw[zpj.out,decide_eq_false fun h=>hc1 h.1],rfl⟩
     case rest=>
     obtain⟨rfl,hW⟩:=hcut;rw[hW];clear hW;go_upto_if 199 with fail
     go_cut [] (fun W=>∃d1,d1.size=d.size/\Hid (SWK enc k w0 blk off d1 W)/\Hid (PermIn a mid dk d1)/\Hid (SortedIn (ltOf cf) a mid d1))
     case first=>as_aux_lemma=>
      cases cb2 with
      |true=>
       ·have hc:=of_decide_eq_true zpj.out.symm;have hc1:=hc.1;have hc2:=hc.2;clear hc;have HCC:=Zh (HRC.out a s mid dk _ (by omega) hc1 hc2 (by omega) hds HST.out.1 HST.out.2.1 S2.out);go_wp2_with (go_at_call 295;refine HCC.out.mono ?_;rintro e1 w1 ⟨rfl,dk',hS',hP',hs'⟩)
        go_meet
        exact⟨dk',hP'.1.trans hds,Zh hS',Zh hP',Zh hs'⟩
      |false=>
       have hc:=of_decide_eq_false zpj.out.symm;have HF:Hid (SortedIn (ltOf cf) a mid dk):=Zh (by
        rcases Zl a s with h|h
        ·exact QH HST.out.1 Zr (by omega)
        ·exact QH HST.out.2.1 h Zr)
       go_wp2_with fail
       go_meet
       exact⟨dk,hds,S2,Zh (permIn_refl _ _ _),HF⟩
     case rest=>
      obtain⟨d1,zsj,S3,HP1,HS1⟩:=hcut;clear S2;have F3:=Zh (JF HST.out.2.2.1 HP1.out (.inr Zr));have F4:=Zh (JF HST.out.2.2.2.1 HP1.out (.inr (by omega)));have zo9:Hid (∀d2,PermIn mid b d1 d2->SortedIn (ltOf cf) mid b d2->PermIn a b d d2/\SortedIn (ltOf cf) a b d2):=Zh (fun d2 hp hs=>⟨permIn_trans _ _ _ _ _ (permIn_trans _ _ _ _ _ HP.out (permIn_mono _ _ _ _ _ _ (by omega) (by omega) (by omega) HP1.out)) (permIn_mono _ _ _ _ _ _ (by omega) (by omega) (by omega) hp),zox (by omega) (by omega) HST.out.2.2.2.2 HP1.out HS1.out hp hs⟩)
      as_aux_lemma=>
      by_cases hc1:mid<t
      ·by_cases hc2:t<b
       ·have HCC:=Zh (HRC.out mid t b d1 _ (by omega) hc1 hc2 (by omega) zsj F3.out F4.out S3.out);go_wp2_with (go_at_call 295;refine HCC.out.mono ?_;rintro e1 w1 ⟨rfl,dk',hS',hP',hs'⟩)
        go_end0
        exact⟨rfl,dk',hS',zo9.out dk' hP' hs'⟩
       ·go_wp2_with fail
        go_end0
        exact⟨rfl,d1,S3.out,zo9.out d1 (permIn_refl _ _ _) (QH F3.out Zr (by omega))⟩
      ·go_wp2_with fail
       go_end0
       exact⟨rfl,d1,S3.out,zo9.out d1 (permIn_refl _ _ _) (QH F4.out (by omega) Zr)⟩
theorem zhz(aE:∀w,(isAgg 116).run Tryz.prog w= .ok true w)(zE:∀w,(Go.sizeOf 116).run Tryz.prog w= .ok k w)(O:SWO (ltOf cf))(cap:Nat)(zqp:CmpLays Tryz.prog 152 #[] enc k cf blk off d0.size w0)(R:RowK enc k w0 blk off d0)(hsz:d0.size<4611686018427387904):∀N,zdW cap enc k w0 blk off cf d0.size N
 |0=>fun a m b d W h=>absurd h (by omega)
 |N+1=>fun a m b d W h h1 h2 h3 h4 s1 s2 S=>by
  have ih:=zhz aE zE O cap zqp R hsz N;rw[<-h4]at h3|-
  by_cases hm:m=a+1
  ·exact zoA aE zE O cap a m b zqp R h4.symm S h1 h2 h3 (by omega) s1 s2 hm
  ·by_cases hb:b=m+1
   ·exact zoB aE zE O cap a m b zqp R h4.symm S h1 h2 h3 (by omega) s1 s2 hm hb
   ·exact zoC aE zE O cap a m b zqp R h4.symm S h1 h2 h3 (by omega) s1 s2 hm hb (fun a' m' b' d' W' g g1 g2 g3 g4=>by
     rw[h4];exact ih a' m' b' d' W' (by omega) g1 g2 (by omega) (g4.trans h4))
end
end
end Go.Proofs.YtpijjipngkdhdaaGreat
