import Derived.Test.YtpcgfpmiphiacaaGreatC21
import Derived.Test.YtpcgfpmiphiacaaGreatC18
import Derived.Maps.RangeWalk
import Derived.Maps.OwnOps
import Derived.DeepKeys4
import Derived.WideKeyEntry
set_option maxHeartbeats 8000000
set_option linter.unusedVariables false
set_option linter.unusedSimpArgs false
namespace Go.Proofs.YtpcgfpmiphiacaaGreat
open List (length_map mem_append pairwise_cons)
variable {za:Int} {L m:List (List Int)} {l:List Int} {a b c cnt e n r:Nat} {A:Option Addr} {w w' w0:World}
section
open Go.RowKit
open La
def zex(w w3:World)(m xs:List (List Int))(N:Nat)(s5 i:Value)(wr:World):Prop:=∃(k:Nat) (A5:Option Addr) (c5:Nat) (vs:List Value),k<=N/\i= .int .i64 k/\s5= .slice A5 (Zs m (xs.take k)).length c5/\Hid (Own wr w.heap.size 62 2 A5 (Zs m (xs.take k)).length c5 vs)/\Hid (ItV wr vs (Zs m (xs.take k)))/\Ext w3 wr
set_option maxRecDepth 20000 in
theorem zio(hM:MatA w0 A m)(hL:LLLed m)(h1:m.length=n)(hb:0<=za)(hb1:za<1073741824)(ztz:((Zp m za (n-1) []).length)<=1000000)[hx:Ext w0 w]:
  Cq 22 #[.slice A n c,.int .i64 za] w (zcy w (Zs m (Zp m za (n-1) []))):=by
 have hr:=qA hL.red;have hn8:=hL.len8;have hn1:=hL.len1;have HOF:Hid (∀W,Ext w0 W->Cq 44 #[.slice A n c] W (zer W m n)):=Zh (fun W e=>zh4 hM hL h1);have zsH:=JU hr hb;have zr9:=zhL hr hb;rw[h1]at zsH zr9;obtain⟨xs,hxs⟩:=Xz (Zp m za (n-1) []);have HLV:Hid (∀(W:World)(SB DB:Option Addr)(sc dc:Nat),FrV W m SB DB->Cq 45 #[.agg #[.int .i64 n,.slice SB n sc,.slice DB (n+1) dc],.int .i64 za,.slice none 0 0,.slice none 0 0] W (fun e w'=>∃A c vs,e= .returned (.slice A xs.length c)/\Arr w' A 62 vs/\ItV w' vs (jO m xs)/\Ext W w')):=Zh (fun W SB DB sc dc hF=>by
  have:=zo0 (zf:=W.heap.size) hL h1 hb hb1 (n-1) W SB DB none none sc dc 0 0 0 0 [] [] [] (by omega) hF Ints.nil rfl (fun a ha=>by simp at ha) zsH (Own.nil _ _ _ _) (ItV.nil _) Zr (by omega);refine this.mono ?_;rintro e w' ⟨A,c,vs,rfl,hO,hV,hG⟩;rw[<-hxs,Nat.zero_add,List.nil_append] at*
  exact⟨A,c,vs,rfl,hO.arr,hV,hG.ext (Ext.refl _) Zr⟩)
 rw[<-hxs]at ztz|-
 rw[<-hxs]at zr9;have HXS:Hid (∀x∈xs,x.length=n/\(∀a∈x,-1099511627776<=a/\a<=1099511627776)):=Zh (fun x hx=>by
  obtain⟨h2,h3⟩:=(zr9 x).1 hx;refine⟨h2,fun a ha=>?_⟩;have h4:=zdL hr hb hb1 x (by omega) h3;obtain⟨i,hi⟩:=List.getElem?_of_mem ha;have:=JO x i a hi;omega)
 have HTK:Hid (∀(k:Nat)(x:List Int),xs[k]? =some x->Zs m (xs.take (k+1))=J0 m (Zs m (xs.take k)) x):=Zh (fun k x hk=>by rw[List.take_add_one,hk];exact zo6 m _ _);have HIL:Hid (∀k,(Zs m (xs.take k)).length<=1000000):=Zh (fun k=>by
  have h2:=zev m (xs.take k);rw[List.length_take]at h2;omega)
 have HIM:Hid (∀k,∀p∈Zs m (xs.take k),p.2.length<=1000):=Zh (fun k p hp=>by
  have:=(HXS.out p.2 (List.mem_of_mem_take (zo9 p hp))).1;omega)
 unfold zcy;have hn9:n<=8:=by omega
 clear hM hL hr zsH zr9 hxs h1;go_enter Tryz.func22,Tryz.ntmps22;go_wp2_with (first
  |(go_at_call 44;refine(HOF.out _ Zi).mono ?_;rintro e w2 ⟨SB,sc,DB,dc,rfl,hF,-,-,-,-,hs2⟩)
  |(go_at_call 45;refine(HLV.out _ _ _ _ _ hF).mono ?_;rintro e w3 ⟨A3,c3,vs3,rfl,hA3,hV3,hx3⟩;have HA3:=Zh hA3;have HV3:=Zh hV3;have zst:Ext w w3:=(Zi:Ext w w2).trans hx3;clear hA3 hV3))
 obtain⟨N,hN⟩:=Xz xs.length;have HN:=Zh hN;have hN6:N<=1000000:=by omega
 rw[<-hN];clear hN ztz;go_loopw [5,15] (fun s5 i wr=>zex w w3 m xs N s5 i wr) (fun _ i _=>N-(intOf i).toNat)
 case atStart=>
  unfold zex;exact⟨0,none,0,[],by omega,rfl,rfl,Zh (Own.nil _ _ _ _),Zh (ItV.nil _),Zi⟩
 case round=>
  unfold zex at hrel;obtain⟨k,A5,c5,vs,hk,rfl,rfl,HO5,HV5,hxr⟩:=hrel;have zsr:Ext w wr:=zst.trans hxr;by_cases hlt:k<N
  ·obtain⟨x,hxk⟩:∃x,xs[k]? =some x:=⟨_,Ze (by rw[<-HN.out];exact hlt)⟩;obtain⟨hxl,hxb⟩:=HXS.out x (Zm hxk);obtain⟨B,cx,a1,a2,a3,a4,a5⟩:=HV3.out.2 k (zg m x,x) (by unfold jO;rw[List.getElem?_map,hxk];rfl);obtain⟨b,o,rfl,z1,z3⟩:=HA3.out.at_ a1;obtain⟨b',o',hA',z2,-⟩:=HA3.out.at_ a2;injection hA' with hA'
   injection hA' with y1 y2
   subst y1 y2;rw[<-Nat.add_assoc]at z2;simp only at a3 a4 z1 z2;have oB:Old b w3:=⟨z3⟩;have hc1:wr.cell? ⟨b,o+k*2,none⟩=some (.int .i64 (zg m x)):=(zi w3).trans z1;have hc2:wr.cell? ⟨b,o+k*2+1,none⟩=some (.slice B x.length cx):=(zi w3).trans z2;have HCA:=Zh (fun W(e:Ext w3 W)=>zor (w:=W) (c:=cx) a3 (by omega) hxb);have HT:=Zh (HTK.out k x hxk);have HIX:=Zh a3;unfold zek at HCA;rw[hxl]at HCA hc2 a4
   have zqZ:=Zh hxl;clear a1 a2 a3 z1 z2 hxk hxl hxb;obtain⟨nv,hnv⟩:=Xz (zg m x);have HNV:=Zh hnv;rw[<-hnv]at hc1;clear hnv;by_cases hz:zI x=0
   ·have hps:J0 m (Zs m (xs.take k)) x=Zs m (xs.take k):=by unfold J0;rw[if_neg (by omega)]
    have HPS:=Zh (HT.out.trans hps);clear hps;go_wp2_with (go_at_call 46;refine(HCA.out _ Zi).mono ?_;rintro e w5 (⟨-,rfl,hs5⟩|⟨zsA,-⟩);(rotate_left;(exact absurd hz zsA)))
    refine⟨⟨k+1,A5,c5,vs,by omega,by go_num,by rw[HPS.out],Zh ?_,Zh ?_,Zi⟩,by simp[intOf]<;>omega⟩
    ·rw[HPS.out];exact HO5.out.ext Zi
    ·rw[HPS.out];exact HV5.out.ext Zi
   ·by_cases hp:0<zI x
    ·have hcx:zS x=x:=(zig hz).2 hp;have hlx:zC x (zS x)=0:=by rw[hcx];exact zdn x
     have HPS:Hid (Zs m (xs.take (k+1))=Zj (Zs m (xs.take k)) (zg m x,x)):=Zh (by rw[HT.out];unfold J0;rw[if_pos hp]);have HCM:Hid (∀(W1 W:World)C d,Ints W1 C 2 .i64 (zS x)->Ext W1 W->Ext w3 W->Cq 13 #[.slice B n cx,.slice C n d] W (zdr W (.int .i64 0))):=Zh (fun W1 W C d i1 e1 e2=>by
      have h:=zds (w0:=W) (w:=W) (c:=cx) (d:=d) (HIX.out.ext e2) (i1.ext e1) (by rw[zqZ.out];omega) (by rw[Jj,zqZ.out];omega);rw[Jj,hlx,zqZ.out]at h;exact h)
     have HPT:Hid (∀W,Ext wr W->Cq 47 #[.slice A5 (Zs m (xs.take k)).length c5,.agg #[.int .i64 nv,.slice B n cx]] W (zcx W w.heap.size (Zj (Zs m (xs.take k)) (zg m x,x)))):=Zh (fun W e=>by
      have h:=zo4 (a:=nv) (HO5.out.ext e) (HV5.out.ext e) (zsr.trans e).size (HIL.out k) (HIX.out.ext (hxr.trans e)) (by rw[zqZ.out];exact a4) a5 (by rw[zqZ.out];omega) (HIM.out k);rw[zqZ.out,HNV.out]at h;rw[HNV.out];exact h)
     unfold zcx at HPT;rw[<-HPS.out]at HPT;clear hcx hlx;obtain⟨I2,hI2⟩:=Xz (Zs m (xs.take (k+1)));rw[<-hI2]at HPT;have HI2:=Zh hI2;clear hI2;go_wp2_with (first
      |(go_at_call 46;refine(HCA.out _ Zi).mono ?_;rintro e w5 (⟨zsA,-⟩|⟨-,C5,d5,rfl,hI5,-,-,hs5⟩);(exact absurd zsA hz);have HI5:=Zh hI5;clear hI5)
      |(go_at_call 13;refine(HCM.out _ _ _ _ HI5.out Zi Zi).mono ?_;rintro e w6 ⟨rfl,nq,rfl⟩)
      |(go_at_call 47;refine(HPT.out _ Zi).mono ?_;rintro e w7 ⟨A7,c7,vs7,rfl,hO7,hV7,hx7⟩;have HO7:=Zh hO7;have HV7:=Zh hV7;have zxo:Ext w3 w7:=(Zi:Ext w3 (w5.drewN nq)).trans hx7;clear hO7 hV7))
     exact⟨⟨k+1,A7,c7,vs7,by omega,by go_num,by rw[HI2.out],by rw[<-HI2.out];exact HO7,by rw[<-HI2.out];exact HV7,zxo.trans Zi⟩,by simp[intOf]<;>omega⟩
    ·have hlx:zC x (zS x)≠0:=fun h=>hp ((zig hz).1 (zal _ _ h).symm)
     have hle:(zC x (zS x)==0)=false:=by simpa using hlx
     have HPS:Hid (Zs m (xs.take (k+1))=Zs m (xs.take k)):=Zh (by rw[HT.out];unfold J0;rw[if_neg hp]);have HCM:Hid (∀(W1 W:World)C d,Ints W1 C 2 .i64 (zS x)->Ext W1 W->Ext w3 W->Cq 13 #[.slice B n cx,.slice C n d] W (zdr W (.int .i64 (zC x (zS x))))):=Zh (fun W1 W C d i1 e1 e2=>by
      have h:=zds (w0:=W) (w:=W) (c:=cx) (d:=d) (HIX.out.ext e2) (i1.ext e1) (by rw[zqZ.out];omega) (by rw[Jj,zqZ.out];omega);rw[Jj,zqZ.out]at h;exact h)
     clear hlx;generalize zC x (zS x)=lx at*
     go_wp2_with (first
      |(go_at_call 46;refine(HCA.out _ Zi).mono ?_;rintro e w5 (⟨zsA,-⟩|⟨-,C5,d5,rfl,hI5,-,-,hs5⟩);(exact absurd zsA hz);have HI5:=Zh hI5;clear hI5)
      |(go_at_call 13;refine(HCM.out _ _ _ _ HI5.out Zi Zi).mono ?_;rintro e w6 ⟨rfl,nq,rfl⟩))
     refine⟨⟨k+1,A5,c5,vs,by omega,by go_num,by rw[HPS.out],Zh ?_,Zh ?_,Zi⟩,by simp[intOf]<;>omega⟩
     ·rw[HPS.out];exact HO5.out.ext Zi
     ·rw[HPS.out];exact HV5.out.ext Zi
  ·obtain rfl:k=N:=by omega
   have htk:xs.take k=xs:=List.take_of_length_le (by rw[<-HN.out];exact Zr);rw[htk]at HO5 HV5;rw[htk];go_wp2_with fail
   go_ret;exact⟨A5,c5,vs,rfl,HO5.out,HV5.out,zsr.toStep⟩
def ziq(w:World)(its:List (Int×List Int))(N:Nat)(s3 i:Value)(wr:World):Prop:=∃(k:Nat) (B:Option Addr) (d:Nat) (vs:List Value),k<=N/\i= .int .i64 k/\s3= .slice B k d/\Hid (MOwn wr w.heap.size B k d ((its.take k).map Prod.snd) vs)/\Ext w wr
set_option maxRecDepth 20000 in
theorem zpt{us:List Value}{its:List (Int×List Int)}(hA':Arr w0 A 62 us)(hV':ItV w0 us its)(hl:its.length<=1000000)[hx:Ext w0 w]:
  Cq 84 #[.slice A its.length c] w (Jk w (its.map Prod.snd)):=by
 have HA:=Zh (hA'.ext hx);have HV:=Zh (hV'.ext hx);obtain⟨N,hN⟩:=Xz its.length;have HN:=Zh hN;rw[<-hN]at hl|-
 clear hA' hV' hN;unfold Jk;go_enter Tryz.func84,Tryz.ntmps84;go_wp2;go_loopw [3,8] (fun s3 i wr=>ziq w its N s3 i wr) (fun _ i _=>N-(intOf i).toNat)
 case atStart=>exact⟨0,none,0,[],by omega,rfl,rfl,Zh (MOwn.nil _ _),Zi⟩
 case round=>
  unfold ziq at hrel;obtain⟨k,B,d,vs,hk,rfl,rfl,HM,hxr⟩:=hrel;by_cases hlt:k<N
  ·obtain⟨p,hp⟩:∃p,its[k]? =some p:=⟨_,Ze (by rw[<-HN.out];exact hlt)⟩;obtain⟨xa,x⟩:=p;obtain⟨X,cx,a1,a2,a3,a4,a5⟩:=HV.out.2 k _ hp;obtain⟨b,o,rfl,z1,z3⟩:=HA.out.at_ a1;obtain⟨b',o',hA',z2,-⟩:=HA.out.at_ a2;injection hA' with hA'
   injection hA' with y1 y2
   subst y1 y2;rw[<-Nat.add_assoc]at z2;simp only at a3 a4 z1 z2;have oB:Old b w:=⟨z3⟩;have hc1:wr.cell? ⟨b,o+k*2,none⟩=some (.int .i64 xa):=(zi w).trans z1;have hc2:wr.cell? ⟨b,o+k*2+1,none⟩=some (.slice X x.length cx):=(zi w).trans z2;have HX:=Zh a3;have HTK:Hid ((its.take (k+1)).map Prod.snd=(its.take k).map Prod.snd++[x]):=Zh (by rw[List.take_add_one,hp];simp);obtain⟨xl,hxl⟩:=Xz x.length
   have HXL:=Zh hxl;rw[<-hxl]at hc2 a4;clear a1 a2 a3 z1 z2 hp hxl;have zsg:Arr ((wr.alloc (.cells #[.int .i64 xa,.slice X xl cx] 62)).alloc (.cells #[.slice X xl cx] 35)) (some ⟨wr.heap.size+1,0,none⟩) 35 [.slice X xl cx]:=by
    have:=Arr.new (wr.alloc (.cells #[.int .i64 xa,.slice X xl cx] 62)) 35 #[.slice X xl cx];rwa [World.size_alloc]at this
   go_wp2_with (at_builtin;refine zM _ rfl _ _ 25 rfl w.heap.size 35 (.slice none 0 0) 1 24 Tryz.underlying25 Qc rfl (by omega) (by omega) B k d vs rfl (HM.out.own.ext Zi) _ 1 1 [.slice X xl cx] rfl zsg (by simp) (by simp[Value.oneCell']) (by omega) (by have:=hxr.size;simp;omega) ?_;intro A4 d4 w4 zsx hg4)
   have hx4:Ext w w4:=hg4.ext (hxr.trans Zi) Zr;refine⟨⟨k+1,A4,d4,vs++[.slice X xl cx],by omega,by go_num,rfl,Zh ?_,hx4⟩,by simp[intOf]<;>omega⟩;rw[HTK.out];rw[HXL.out]at zsx a4|-
   exact HM.out.snoc (r:=x) Zi hg4 zsx (HX.out.ext (hxr.trans Zi)) a4 a5
  ·obtain rfl:k=N:=by omega
   have htk:its.take k=its:=List.take_of_length_le (by rw[<-HN.out];exact Zr);rw[htk]at HM;have HCP:=Zh HM.out.own.cap;go_wp2_with fail
   go_ret;exact⟨B,d,by rw[length_map,<-HN.out];rfl,HM.out.mat,by rw[length_map,<-HN.out];exact HCP.out.1,HCP.out.2,Step.of _ _⟩
theorem zir(h:∀x∈l,0<=x)(k:Nat):(l.take k).sum<=l.sum:=by
 have:=List.take_append_drop k l;have h2:(l.take k).sum+(l.drop k).sum=l.sum:=by rw[<-List.sum_append,this]
 have h3:0<=(l.drop k).sum:=by
  have:∀m:List Int,(∀x∈m,0<=x)->0<=m.sum:=fun m=>by
   induction m with
   |nil=>intro _;simp
   |cons a m ih=>intro hm;rw[List.sum_cons];have:=ih (fun x hx=>hm x (by simp[hx]));have:=hm a (by simp);omega
  exact this _ fun x hx=>h x (List.mem_of_mem_drop hx)
 omega
def zis(l:List Int)(N:Nat)(w:World)(s3 i:Value)(wr:World):Prop:=∃k:Nat,k<=N/\i= .int .i64 k/\s3= .int .i64 (l.take k).sum/\∃q,wr=w.drewN q
set_option maxRecDepth 20000 in
theorem zpu(hA:Ints w0 A 3 .i64 l)(hl:l.length<=1000000)(h0:∀x∈l,0<=x)(hs:l.sum<=1000000000)[hx:Ext w0 w]:
  Cq 85 #[.slice A l.length c] w (zy w (.int .i64 l.sum)):=by
 have HA:=Zh (hA.ext hx);obtain⟨N,hN⟩:=Xz l.length;have HN:=Zh hN;have H0:=Zh (fun k=>zir h0 k);have H1:Hid (∀k,0<=(l.take k).sum):=Zh (fun k=>by
  have:=zir (l:=l.take k) (fun x hx=>h0 x (List.mem_of_mem_take hx)) 0;simpa using this)
 rw[<-hN]at hl|-
 clear hA hN;unfold zy;go_enter Tryz.func85,Tryz.ntmps85;go_wp2;go_loopw [3,8] (fun s3 i wr=>zis l N w s3 i wr) (fun _ i _=>N-(intOf i).toNat)
 case atStart=>exact⟨0,by omega,rfl,rfl,0,rfl⟩
 case round=>
  unfold zis at hrel;obtain⟨k,hk,rfl,rfl,q,rfl⟩:=hrel;by_cases hlt:k<N
  ·obtain⟨x,hp⟩:∃x,l[k]? =some x:=⟨_,Ze (by rw[<-HN.out];exact hlt)⟩;obtain⟨b,o,-,rfl,-⟩:=HA.out.at_ (by rw[<-HN.out];omega);have hc:=(jV HA.out hp).1;have HTK:=Zh (zb8 l k x hp);have hx1:IntKind.i64.wrap ((l.take k).sum+x)=(l.take (k+1)).sum:=by
    rw[<-HTK.out];have a1:=H0.out (k+1);have a2:=H1.out (k+1);exact Iw
   clear hp;go_wp2_with fail
   exact⟨⟨k+1,by omega,by go_num,by first|rfl|simpa using hx1,_,rfl⟩,by simp[intOf]<;>omega⟩
  ·obtain rfl:k=N:=by omega
   have htk:(l.take k).sum=l.sum:=by rw[List.take_of_length_le (by rw[<-HN.out];exact Zr)]
   rw[htk];go_wp2_with fail
   go_ret;exact⟨rfl,Step.of _ _⟩
def zit(w:World)(m:List (List Int))(za budget:Int)(e:Ending)(w':World):Prop:=
 (ZX m za<=budget/\∃B d L,e= .returned (.tuple #[.slice B (List.length L) d,.int .i64 (ZX m za),.int .i64 0])/\Mat64 w' B L/\L.length<=d/\d<=9223372036854775807/\VecList m za false L/\Step w w')∨(budget<ZX m za/\e= .returned (.tuple #[.slice none 0 0,.int .i64 0,.int .i64 9])/\Step w w')
set_option maxRecDepth 20000 in
theorem zpv{budget:Int}(hM:MatA w0 A m)(hL:LLLed m)(h1:m.length=n)(hb:0<=za)(hb1:za<1073741824)(hu0:0<=budget)(hu1:budget<=1000000)(hmx:ZX m za<=budget->qo (qu m za)<=8193)[hx:Ext w0 w]:
  Cq 42 #[.slice A n c,.int .i64 za,.int .i64 budget] w (zit w m za budget):=by
 have hn8:=hL.len8;have hn1:=hL.len1;have hr:=qA hL.red;have HST:=Zh (fun W(e:Ext w0 W)=>zoT (w:=W) (c:=c) hM hL h1 hb hb1 hu0 hu1);obtain⟨b,rfl⟩:∃b:Nat,za=b:=⟨za.toNat,by omega⟩;have hso:=(zbh hL.red (b:=b) hb1).1;have zr7:(qu m b).length=n:=by rw[hso.len,h1]
 have zsz:=hso.one;have zus:=hso.sum;have hlt:=zif hL.red (b:=b) hb1;rw[h1]at hlt;have HIT:Hid (ZX m b<=budget->∀W,Ext w0 W->Cq 22 #[.slice A n c,.int .i64 b] W (zcy W (Zs m (Zp m b (n-1) [])))):=Zh (fun ht W e=>zio hM hL h1 hb hb1 (by omega));obtain⟨hvl,zut⟩:=zhO hr hb;rw[h1]at hvl;have HVL:=Zh hvl;have HIL:Hid (ZX m b<=budget->(Zs m (Zp m b (n-1) [])).length<=1000000):=Zh (fun ht=>by
  have:=zev m (Zp m b (n-1) []);omega)
 generalize Zs m (Zp m b (n-1) [])=its at*
 have HSU:Hid (ZX m b<=budget->∀(W0 W:World)g,Row W0 g 3 .i64 (qu m b)->Ext W0 W->Cq 85 #[.slice (some ⟨g,0,none⟩) n n] W (zy W (.int .i64 (ZX m b)))):=Zh (fun ht W0 W g hg e=>by
  have:=zpu (w:=W) (c:=n) hg.ints (by rw[zr7];omega) (fun x hx=>by have:=zsz x hx;omega) (by omega);rwa [zr7,zus]at this)
 have HMX:=Zh hmx;have HGE:Hid ((qu m b)[n-1]? =some (qo (qu m b))):=Zh (by
  have h2:n-1<(qu m b).length:=by rw[zr7];omega
  unfold qo;rw[zr7,Ze h2];simp[List.getD,Ze h2])
 have hl1:1<=qo (qu m b):=zsz _ (Zm HGE.out);have HLN:=Zh zr7;have hw1:IntKind.i64.wrap ((n:Int)-1)=((n-1:Nat):Int):=by rw[show (n:Int)-1=((n-1:Nat):Int) by omega];exact Iw
 have hn0:0<n:=by omega
 clear hM hL hso zsz h1 hr hvl zut hlt zr7 zus hmx;unfold zit;unfold zeu at HST;generalize ZX m b=tot at*
 generalize qo (qu m b)=la at*
 generalize qu m b=st at*
 unfold zcy at HIT;go_enter Tryz.func42,Tryz.ntmps42;go_upto_region 2 with (go_at_call 83;refine(HST.out _ Zi).mono ?_;rintro e w1 (⟨ht,g,rfl,hR,hgs,hs1⟩|⟨zsA,rfl,hs1⟩))
 ·have HR:=Zh hR;have hcy:w1.cell? ⟨g,n-1,none⟩=some (.int .i64 la):=by
   obtain⟨y',hy',hcy⟩:=hR.cell (i:=n-1) (by rw[HLN.out];omega);rw[HGE.out]at hy';injection hy' with hy'
   rwa [<-hy']at hcy
  have hgl:=hR.lt;have hla:=HMX.out ht;have hd1:decide (8193<la)=false:=by simp;omega
  have HI2:=Zh (HIT.out ht);have HI3:=Zh (HIL.out ht);have HS2:=Zh (HSU.out ht);clear hR HIT HSU HIL HST HMX;go_wp2_with (first
   |(go_at_call 22;refine(HI2.out _ Zi).mono ?_;rintro e w2 ⟨A2,c2,vs2,rfl,hO2,hV2,hs2⟩)
   |(go_at_call 84;refine(zpt hO2.arr hV2 HI3.out).mono ?_;unfold Jk;rintro e w3 ⟨A3,c3,rfl,hM3,h31,h32,hs3⟩)
   |(go_at_call 85;refine(HS2.out _ _ _ HR.out Zi).mono ?_;rintro e w4 ⟨rfl,hs4⟩))
  go_ret3
  exact .inl ⟨ht,A3,c3,its.map Prod.snd,by rw[length_map];rfl,hM3.ext Zi,h31,h32,HVL.out,Step.of _ _⟩
 ·go_wp2_with fail
  go_ret3
  exact .inr ⟨zsA,rfl,Step.of _ _⟩
end
section
structure STO{κ:Type}(lt:κ->κ->Prop):Prop where
 irr:∀a,¬lt a a
 trans:∀{a b c},lt a b->lt b c->lt a c
 tri:∀{a b},a≠b->lt a b∨lt b a
theorem STO.anti{κ:Type}{lt:κ->κ->Prop}(O:STO lt){a b:κ}(h:lt a b):¬lt b a:=fun h'=>O.irr a (O.trans h h')
section
variable {κ:Type} [DecidableEq κ] {lt:κ->κ->Prop}
structure CountOK(lt:κ->κ->Prop)(L:List κ)(p:List (κ×Int)):Prop where
 sorted:p.Pairwise (fun a b=>lt a.1 b.1)
 mem:∀c,c∈p↔0<c.2/\c.2=(L.count c.1:Int)
theorem CountOK.nodup(O:STO lt){L:List κ}{p}(h:CountOK lt L p):p.Nodup:=h.sorted.imp (fun{a b}h(e:a=b)=>O.irr b.1 (by grind))
theorem CountOK.unique(O:STO lt){L:List κ}{p q}(h:CountOK lt L p)(h':CountOK lt L q):p=q:=
 List.Perm.eq_of_pairwise (fun _ _ _ _ h1 h2=>absurd h2 (O.anti h1)) h.sorted h'.sorted ((List.perm_ext_iff_of_nodup (h.nodup O) (h'.nodup O)).2 fun c=>(h.mem c).trans (h'.mem c).symm)
theorem CountOK.perm{L L':List κ}{p}(h:CountOK lt L p)(hp:L.Perm L'):CountOK lt L' p:=⟨h.sorted,fun c=>by rw[h.mem,hp.count_eq]⟩
theorem CountOK.nil:CountOK lt ([]:List κ) []:=⟨List.Pairwise.nil,fun c=>by grind⟩
theorem CountOK.append{L S:List κ}{p q}(h:CountOK lt L p)(h':CountOK lt S q)(hd:∀x∈L,∀y∈S,lt x y)(O:STO lt):CountOK lt (L++S) (p++q):=by
 have hin:∀{T:List κ}{r},CountOK lt T r->∀c∈r,c.1∈T:=fun h c hc=>List.count_pos_iff.1 (by have:=(h.mem c).1 hc;omega)
 refine⟨List.pairwise_append.2 ⟨h.sorted,h'.sorted,fun a ha b hb=>hd _ (hin h a ha) _ (hin h' b hb)⟩,fun c=>?_⟩;rw[mem_append,h.mem,h'.mem,List.count_append];by_cases hL:c.1∈L
 ·have hS:=fun hs=>O.irr _ (hd _ hL _ hs)
  grind
 grind
variable [DecidableRel lt]
def Zk(lt:κ->κ->Prop)[DecidableRel lt]:List (κ×Int)->κ->List (κ×Int)
 |[],k=>[(k,1)]
 |c::l,k=>if lt c.1 k then c::Zk lt l k else if c.1=k then (k,c.2+1)::l else (k,1)::c::l
theorem zey(O:STO lt):∀(p:List (κ×Int))(k:κ),p.Pairwise (fun a b=>lt a.1 b.1)->∀c,c∈Zk lt p k↔(c∈p/\c.1≠k)∨(c.1=k/\((∃d∈p,d.1=k/\c.2=d.2+1)∨((∀d∈p,d.1≠k)/\c.2=1)))
 |[],k,_,c=>by
  simp only[Zk];grind
 |x::p,k,hs,c=>by
  obtain⟨hs1,hs2⟩:=pairwise_cons.1 hs;have ih:=zey O p k hs2 c;unfold Zk;by_cases h1:lt x.1 k
  ·have hxn:x.1≠k:=fun e=>O.irr _ (e▸h1)
   grind
  grind
theorem ziu(O:STO lt):∀(p:List (κ×Int))(k:κ),p.Pairwise (fun a b=>lt a.1 b.1)->(Zk lt p k).Pairwise (fun a b=>lt a.1 b.1)
 |[],k,_=>by simp[Zk]
 |x::p,k,hs=>by
  obtain⟨hs1,hs2⟩:=pairwise_cons.1 hs;have ih:=ziu O p k hs2;unfold Zk;by_cases h1:lt x.1 k
  ·rw[if_pos h1];refine pairwise_cons.2 ⟨fun c hc=>?_,ih⟩;rcases(zey O p k hs2 c).1 hc with ⟨a,-⟩|⟨a,-⟩
   ·grind
   grind
  ·rw[if_neg h1];by_cases h2:x.1=k
   ·rw[if_pos h2];exact pairwise_cons.2 ⟨fun c hc=>h2▸hs1 c hc,hs2⟩
   ·rw[if_neg h2];have hx2:=(O.tri h2).resolve_left h1;refine pairwise_cons.2 ⟨fun c hc=>?_,hs⟩;rcases List.mem_cons.1 hc with rfl|hc
    ·grind
    ·exact O.trans hx2 (hs1 c hc)
theorem CountOK.tally(O:STO lt){L:List κ}{p}(h:CountOK lt L p)(k:κ):CountOK lt (L++[k]) (Zk lt p k):=by
 refine⟨ziu O p k h.sorted,fun c=>?_⟩;rw[zey O p k h.sorted,List.count_append];have hd:∀d:κ×Int,d.1=k->(d∈p↔0<d.2/\d.2=(L.count k:Int)):=fun d a=>by rw[h.mem,a]
 by_cases e:c.1=k
 ·have hcs:List.count c.1 [k]=1:=by rw[e];simp
  rw[hcs,e];constructor
  ·rintro(⟨-,b⟩|⟨-,⟨d,a,b,g⟩|⟨a,g⟩⟩)
   ·exact absurd rfl b
   ·grind
   ·have h0:L.count k=0:=by
     rcases Nat.eq_zero_or_pos (L.count k) with h0|h0
     ·exact h0
     ·exact absurd rfl (a (k,(L.count k:Int)) ((hd _ rfl).2 ⟨by grind,rfl⟩))
    omega
  ·rintro⟨a,b⟩;refine .inr ⟨rfl,?_⟩;rcases Nat.eq_zero_or_pos (L.count k) with h0|h0
   ·grind
   simp_all
 ·have hcs:List.count c.1 [k]=0:=by grind
  rw[hcs,h.mem];grind
def qv(lt:κ->κ->Prop)[DecidableRel lt](L:List κ):List (κ×Int):=L.foldl (fun p q=>Zk lt p q) []
theorem ziv(L:List κ)(q:κ):qv lt (L++[q])=Zk lt (qv lt L) q:=by unfold qv;grind
theorem jP(O:STO lt)(L:List κ):CountOK lt L (qv lt L):=by
 have h:∀(T:List κ)(L:List κ)(p:List (κ×Int)),CountOK lt L p->CountOK lt (L++T) (T.foldl (fun p q=>Zk lt p q) p):=by
  intro T;induction T with
  |nil=>grind
  |cons q T ih=>intro L p h;have:=ih (L++[q]) _ (h.tally O q);grind
 have:=h L [] [] CountOK.nil;simpa[qv] using this
end
abbrev Kc:=Int×Int
abbrev Ct:=Kc×Int
def Z0(a b:Kc):Prop:=a.1<b.1∨(a.1=b.1/\a.2<b.2)
instance:DecidableRel Z0:=fun a b=>by unfold Z0;exact Zi
theorem zbx:STO Z0:=⟨fun a h=>by unfold Z0 at h;omega,fun{a b c}h h'=>by unfold Z0 at*;omega,fun{a b}h=>by
 unfold Z0;grind⟩
def ZD(a b:Ct):Prop:=a.1.1<b.1.1∨(a.1.1=b.1.1/\(a.1.2<b.1.2∨(a.1.2=b.1.2/\a.2<b.2)))
instance:DecidableRel ZD:=fun a b=>by unfold ZD;exact Zi
theorem QK:STO ZD:=⟨fun a h=>by unfold ZD at h;omega,fun{a b c}h h'=>by unfold ZD at*;omega,fun{a b}h=>by
 unfold ZD;grind⟩
def zX:List Ct->List Ct->Bool
 |_,[]=>false
 |[],_::_=>true
 |a::l,b::m=>if a=b then zX l m else decide (ZD a b)
theorem Js:∀l,zX l l=false
 |[]=>rfl
 |a::l=>by simp[zX,Js l]
theorem zez:∀{l m:List Ct},l≠m->zX l m=true∨zX m l=true
 |[],[],h=>absurd rfl h
 |_::_,[],_=> .inr rfl
 |[],_::_,_=> .inl rfl
 |a::l,b::m,h=>by
  unfold zX;by_cases hab:a=b
  ·rw[if_pos hab,if_pos hab.symm];exact zez (fun e=>h (by grind))
  ·rcases QK.tri hab with h|h
   ·grind
   grind
theorem Jt:∀{l m k:List Ct},zX l m=true->zX m k=true->zX l k=true
 |_,[],_,h,_=>by simp[zX]at h
 |_,_::_,[],_,h=>by simp[zX]at h
 |[],_::_,_::_,_,_=>rfl
 |a::l,b::m,c::k,h,h'=>by
  unfold zX at*
  by_cases hab:a=b
  ·subst hab;rw[if_pos rfl]at h;by_cases hac:a=c
   ·subst hac;rw[if_pos rfl]at h'|-;exact Jt h h'
   grind
  ·rw[if_neg hab]at h;by_cases hbc:b=c
   ·grind
   ·rw[if_neg hbc]at h';have h1:=of_decide_eq_true h;have h2:=of_decide_eq_true h';rw[if_neg (fun e:a=c=>QK.anti h1 (by grind))];exact decide_eq_true (QK.trans h1 h2)
abbrev Ks:=Int×List Ct
def Zu(a b:Ks):Prop:=a.1<b.1∨(a.1=b.1/\zX a.2 b.2=true)
instance:DecidableRel Zu:=fun a b=>by unfold Zu;exact Zi
theorem QL:STO Zu where
 irr a h:=by
  rcases h with h|⟨-,h⟩
  ·omega
  ·rw[Js]at h;cases h
 trans {a b c} h h':=by
  rcases h with h|⟨h,k⟩<;>rcases h' with h'|⟨h',k'⟩
  ·exact .inl (by omega)
  ·exact .inl (by omega)
  ·exact .inl (by omega)
  ·exact .inr ⟨by omega,Jt k k'⟩
 tri {a b} h:=by
  rcases Int.lt_trichotomy a.1 b.1 with h1|h1|h1
  ·exact .inl (.inl h1)
  ·rcases zez (fun e=>h (Prod.ext h1 e)) with h2|h2
   ·exact .inl (.inr ⟨h1,h2⟩)
   ·exact .inr (.inr ⟨h1.symm,h2⟩)
  ·exact .inr (.inl h1)
theorem zpw(l m:List Ct):(!(zX l m)&&!(zX m l))=decide (l=m):=by
 by_cases e:l=m
 ·subst e;simp[Js]
 ·rw[decide_eq_false e];rcases zez e with h|h<;>simp[h]
def QM(m:List (List Int))(x y:List Int):Kc:=(zg m y,(((zG (zU m y) x).natAbs:Nat):Int))
def zx(m L:List (List Int))(x:List Int):List Ct:=qv Z0 (L.map (QM m x))
theorem VecList.norms{b:Int}{e:Bool}(h:VecList m b e L):L.Pairwise (fun x y=>zg m x<=zg m y):=h.sorted.imp (fun{x y}h=>by
 rcases Int.lt_or_le (zg m y) (zg m x) with h1|h1
 ·unfold qM ZN at h;rw[qH h1,if_neg (by decide)]at h;omega
 ·exact h1)
def Bdry(ns:List Int)(a:Nat):Prop:=∀(i j:Nat)(x y:Int),i<a->a<=j->ns[i]? =some x->ns[j]? =some y->x<y
theorem Bdry.zero(ns:List Int):Bdry ns 0:=fun i _ _ _ h=>absurd h (by omega)
theorem Bdry.end_{ns:List Int}{n:Int}(hs:ns.Pairwise (·<=·))(hae:a<e)(ha:ns[a]? =some n)(hin:∀k x,a<=k->k<e->ns[k]? =some x->x=n)(zsM:∀x,ns[e]? =some x->x≠n):Bdry ns e:=by
 have hle:∀(i j:Nat)(x y:Int),i<=j->ns[i]? =some x->ns[j]? =some y->x<=y:=by
  intro i j x y hij hx hy;rcases Nat.lt_or_eq_of_le hij with h|rfl
  ·obtain⟨h1,rfl⟩:=Zg.1 hx;obtain⟨h2,rfl⟩:=Zg.1 hy;exact List.pairwise_iff_getElem.1 hs i j h1 h2 h
  ·rw[hx]at hy;injection hy with hy;omega
 intro i j x y hi hj hx hy;have zyv:x<=n:=by
  rcases Zl i a with h|h
  ·exact hle i a x n (by omega) hx ha
  ·rw[hin i x h hi hx];exact Int.le_refl _
 obtain⟨z,hz⟩:∃z,ns[e]? =some z:=⟨_,Ze (by have:=(Zg.1 hy).1;omega)⟩;have h1:=hle a e n z (by omega) ha hz;have h2:=zsM z hz;have h3:=hle e j z y hj hz hy;omega
theorem zpx{κ:Type}[DecidableEq κ]{lt:κ->κ->Prop}[DecidableRel lt](O:STO lt){L S:List κ}(hd:∀x∈L,∀y∈S,lt x y):qv lt (L++S)=qv lt L++qv lt S:=
 CountOK.unique O (jP O _) ((jP O L).append (jP O S) hd O)
theorem zpy{x:List Int}(hae:a<=e)(hb:Bdry (L.map (zg m)) a):zx m (L.take e) x=zx m (L.take a) x++zx m ((L.take e).drop a) x:=by
 have hsp:L.take e=L.take a++(L.take e).drop a:=by
  have h:=List.take_append_drop a (L.take e);rw[List.take_take,Nat.min_eq_left hae]at h;exact h.symm
 unfold zx;rw[hsp,List.map_append,zpx zbx]
 ·congr 3
  rw[<-hsp]
 ·intro k hk k' hk';obtain⟨y,hy,rfl⟩:=List.mem_map.1 hk;obtain⟨y',hy',rfl⟩:=List.mem_map.1 hk';obtain⟨i,hi⟩:=List.getElem?_of_mem hy;obtain⟨j,hj⟩:=List.getElem?_of_mem hy';rw[List.getElem?_drop]at hj;have h1:i<a/\L[i]? =some y:=by
   rw[List.getElem?_take]at hi;split at hi
   ·exact⟨by assumption,hi⟩
   ·cases hi
  have h2:L[a+j]? =some y':=by
   rw[List.getElem?_take]at hj;split at hj
   ·exact hj
   ·cases hj
  exact .inl (hb i (a+j) _ _ h1.1 (by omega) (by rw[List.getElem?_map,h1.2];rfl) (by rw[List.getElem?_map,h2];rfl))
def Qz(c:Ct):List Value:=[.int .i64 c.1.1,.int .i64 c.1.2,.int .i64 c.2]
def zz(p:List Ct):List Value:=p.flatMap Qz
theorem qZ(p:List Ct):(zz p).length=p.length*3:=by
 induction p with
 |nil=>rfl
 |cons x l ih=>simp only[zz,List.flatMap_cons,List.length_append,List.length_cons]at ih|-;rw[ih];simp[Qz];omega
theorem zeA(p q:List Ct):zz (p++q)=zz p++zz q:=List.flatMap_append
theorem zcB:∀(p:List Ct)(i:Nat)(c:Ct),p[i]? =some c->(zz p)[i*3]? =some (.int .i64 c.1.1)/\(zz p)[i*3+1]? =some (.int .i64 c.1.2)/\(zz p)[i*3+2]? =some (.int .i64 c.2)
 |[],i,c,h=>by simp at h
 |y::l,0,c,h=>by simp at h;subst h;exact⟨rfl,rfl,rfl⟩
 |y::l,i+1,c,h=>by
  have:=zcB l i c (by simpa using h);rw[show (i+1)*3=i*3+3 by omega];exact this
def Z1(a b:Ct):Int:=ZN (zk a.1.1 b.1.1) (ZN (zk a.1.2 b.1.2) (zk a.2 b.2))
theorem j5(a b:Ct):(ZD a b/\Z1 a b=-1)∨(a=b/\Z1 a b=0)∨(ZD b a/\Z1 a b=1):=by
 unfold Z1 ZD ZN;rcases Jg a.1.1 b.1.1 with ⟨h1,h2⟩|⟨h1,h2⟩|⟨h1,h2⟩
 ·exact .inl ⟨.inl h1,by rw[h2];rfl⟩
 ·rw[h2,if_pos rfl];rcases Jg a.1.2 b.1.2 with ⟨k1,k2⟩|⟨k1,k2⟩|⟨k1,k2⟩
  ·exact .inl ⟨.inr ⟨h1,.inl k1⟩,by rw[k2];rfl⟩
  ·rw[k2,if_pos rfl];rcases Jg a.2 b.2 with ⟨g1,g2⟩|⟨g1,g2⟩|⟨g1,g2⟩
   ·exact .inl ⟨.inr ⟨h1,.inr ⟨k1,g1⟩⟩,g2⟩
   ·exact .inr (.inl ⟨Prod.ext (Prod.ext h1 k1) g1,g2⟩)
   ·exact .inr (.inr ⟨.inr ⟨h1.symm,.inr ⟨k1.symm,g1⟩⟩,g2⟩)
  ·exact .inr (.inr ⟨.inr ⟨h1.symm,.inl k1⟩,by rw[k2];rfl⟩)
 ·exact .inr (.inr ⟨.inl h1,by rw[h2];rfl⟩)
def Zw:List Ct->List Ct->Int
 |[],[]=>0
 |[],_::_=>-1
 |_::_,[]=>1
 |a::l,b::m=>if a=b then Zw l m else Z1 a b
theorem zby:∀l m:List Ct,(zX l m=true/\Zw l m=-1)∨(l=m/\Zw l m=0)∨(zX m l=true/\Zw l m=1)
 |[],[]=> .inr (.inl ⟨rfl,rfl⟩)
 |[],_::_=> .inl ⟨rfl,rfl⟩
 |_::_,[]=> .inr (.inr ⟨rfl,rfl⟩)
 |a::l,b::m=>by
  unfold zX Zw;by_cases h:a=b
  ·subst h;rw[if_pos rfl,if_pos rfl,if_pos rfl];rcases zby l m with h|⟨rfl,h⟩|h
   ·exact .inl h
   ·exact .inr (.inl ⟨rfl,h⟩)
   ·exact .inr (.inr h)
  ·rw[if_neg h,if_neg h,if_neg (Ne.symm h)];rcases j5 a b with ⟨h1,h2⟩|⟨h1,h2⟩|⟨h1,h2⟩
   ·exact .inl ⟨decide_eq_true h1,h2⟩
   ·exact absurd h1 h
   ·exact .inr (.inr ⟨decide_eq_true h1,h2⟩)
theorem zbz(l m:List Ct):decide (Zw l m<0)=zX l m:=by
 rcases zby l m with ⟨h1,h2⟩|⟨rfl,h2⟩|⟨h1,h2⟩
 ·rw[h1,h2];rfl
 ·rw[Js,h2];rfl
 ·have:zX l m=false:=by
   cases h:zX l m
   ·rfl
   ·have:=Jt h h1;rw[Js]at this;cases this
  rw[this,h2];rfl
theorem zeB(l m:List Ct):Zw l m=0↔l=m:=by
 rcases zby l m with ⟨h1,h2⟩|⟨rfl,h2⟩|⟨h1,h2⟩
 ·constructor
  ·intro h;omega
  ·rintro rfl;rw[Js]at h1;cases h1
 ·exact⟨fun _=>rfl,fun _=>h2⟩
 ·constructor
  ·intro h;omega
  ·rintro rfl;rw[Js]at h1;cases h1
end
section
open Go.RowKit Go.Maps
open Go.ChangeMaps (setBlock heap_setBlock_same heap_setBlock_other)
def qk(k:Kc):Value:= .agg #[.int .i64 k.1,.int .i64 k.2,.int .i64 0]
def Qq(k:Kc):Lit:= .string (keyBytes [.int .i64 k.1,.int .i64 k.2,.int .i64 0])
def Q8(k:Kc):Prop:=(Lit.int .i64 k.1).wf=true/\(Lit.int .i64 k.2).wf=true
theorem zpz:∃m,Tryz.prog.types.size=m+1+1:=⟨Tryz.prog.types.size-2,by
 have:(2:Nat)<=Tryz.prog.types.size:=of_decide_eq_true (by kernel_rfl);omega⟩
theorem J2:WideMaps.KeyLaw Tryz.prog 71:=deep_law_laid zps (m:=2) (by omega) (of_decide_eq_true (by kernel_rfl)) (by kernel_rfl) (by rw[Tryz.underlying71])
theorem j6:Keyed Tryz.prog 71:=Keyed.of_law J2
theorem zbA{k:Kc}(h:Q8 k):keyOf Tryz.prog 71 (qk k)=some (Qq k):=by
 obtain⟨a,b⟩:=k;obtain⟨wa,wb⟩:=h;simp only at wa wb;have w0:(Lit.int .i64 0).wf=true:=by decide
 have hkt:Tryz.prog.keyType 71=true:=by kernel_rfl
 have c0:Tryz.prog.cellsOf 71=3:=by kernel_rfl
 have c1:Tryz.prog.cellsOf 2=1:=by kernel_rfl
 have c2:Tryz.prog.cellsOf 3=1:=by kernel_rfl
 obtain⟨m,hm⟩:=zpz;unfold keyOf qk Qq;simp only[Tryz.underlying71];rw[if_pos (by simp[hkt,Value.formed,Tryz.underlying71,c0]),hm];unfold Program.keyLits;simp only[Tryz.underlying71,Value.cells];rw[if_pos (by simp[c0])];simp[c1,c2,Program.keyLits,Tryz.underlying2,Tryz.underlying3,wa,wb,w0]
theorem zcC(k:Kc):WideAt.IsKeyLit (Qq k):=trivial
theorem ziw{a b:Kc}(ha:Q8 a)(hb:Q8 b)(h:Qq a=Qq b):a=b:=by
 have h1:=zbA ha;rw[h]at h1;have h2:qk a=qk b:=j6.inj h1 (zbA hb);have h3:(qk a).cells.toList=(qk b).cells.toList:=by rw[h2]
 simp[qk,Value.cells]at h3;exact Prod.ext h3.1 h3.2
structure TalD(D:DataW Unit)(L:List Kc):Prop where
 map:IsMap D
 at_:∀k,Q8 k->D.atKey (Qq k) (.lit (.int .i64 0))= .lit (.int .i64 (L.count k))
 has1:∀k,Q8 k->(has D (Qq k)=true↔k∈L)
 has2:∀l,has D l=true->∃k∈L,l=Qq k
 wf:∀k∈L,Q8 k
theorem TalD.nil:TalD (.map []) []:=⟨⟨[],rfl⟩,fun k _=>rfl,fun k _=>by simp[has],fun l h=>by simp[has]at h,fun k h=>by simp at h⟩
theorem zpA{D:DataW Unit}(h:IsMap D)(k:Lit)(d:DataW Unit):IsMap (D.put k d):=by
 obtain⟨es,rfl⟩:=h;exact⟨_,rfl⟩
theorem TalD.put{D:DataW Unit}{L:List Kc}(h:TalD D L){k:Kc}(hk:Q8 k):TalD (D.put (Qq k) (.lit (.int .i64 ((L.count k:Int)+1)))) (L++[k]):=by
 have hne:∀{k':Kc},Q8 k'->k'≠k->Qq k'≠Qq k:=fun hw hne e=>hne (ziw hw hk e)
 refine⟨zpA h.map _ _,fun k' hw=>?_,fun k' hw=>?_,fun l hl=>?_,fun k' hk'=>?_⟩
 ·rw[List.count_append];by_cases e:k'=k
  ·subst e;rw[atKey_put_same h.map (zcC _)];simp
  ·rw[atKey_put_other (hne hw e),h.at_ k' hw];have:List.count k' [k]=0:=by rw[List.count_eq_zero];simp[e]
   rw[this];simp
 ·by_cases e:k'=k
  ·subst e;rw[has_put_same h.map (zcC _)];simp
  ·rw[has_put_other (hne hw e),h.has1 k' hw];simp[e]
 ·by_cases e:l=Qq k
  ·exact⟨k,by simp,e⟩
  ·rw[has_put_other e]at hl;obtain⟨k',h1,h2⟩:=h.has2 l hl;exact⟨k',by simp[h1],h2⟩
 ·rcases mem_append.1 hk' with h1|h1
  ·exact h.wf k' h1
  ·rw[List.mem_singleton.1 h1];exact hk
def MapC(w:World)(b n:Nat)(L:List Kc):Prop:=∃D,w.ownsMap Tryz.prog 71 (plainElem (H:=Unit) Tryz.prog 3) b n D/\TalD D L
theorem MapC.lt{L:List Kc}(h:MapC w b n L):b<w.heap.size:=by
 obtain⟨D,h,-⟩:=h;exact h.lt
theorem MapC.ext{L:List Kc}(h:MapC w b n L)(hx:Ext w w'):MapC w' b n L:=by
 have hb:=hx.below.block b h.lt;obtain⟨D,⟨es,clock,h1,h2⟩,h3⟩:=h;exact⟨D,⟨es,clock,hb.trans h1,h2⟩,h3⟩
theorem MapC.made(w:World):MapC (w.alloc (.map #[] 0)) w.heap.size 0 []:=⟨_,World.ownsMap_made w _ _ _,TalD.nil⟩
theorem MapC.look{L:List Kc}(h:MapC w b n L){k:Kc}(hk:Q8 k):(Instr.lookup 48 (.map (some b)) (qk k) false).run Tryz.prog w= .ok (.int .i64 (L.count k)) w:=by
 obtain⟨D,h1,h2⟩:=h;obtain⟨c,zsl,hat,-⟩:=h1.lookup_int j6 Tryz.underlying48 Tryz.underlying3 (by kernel_rfl) (zbA hk);rw[h2.at_ k hk]at hat;simp only[DataW.lit.injEq,Lit.int.injEq,true_and]at hat;rw[hat];exact zsl
structure MidC(w:World)(b n:Nat)(L:List Kc)(k:Kc)(st:Int):Prop where
 lt:b<w.heap.size
 look:(Instr.lookup 48 (.map (some b)) (qk k) false).run Tryz.prog w= .ok (.int .i64 (L.count k)) w
 store:∃es1 c1,w.heap[b]? =some (.map es1 c1)/\∀w2:World,w2.heap[b]? =some (.map es1 c1)->∃w3,(Instr.entryStore 48 (.map (some b)) (goInt st) (.int .i64 ((L.count k:Int)+1))).run Tryz.prog w2= .ok () w3/\MapC w3 b (n+1) (L++[k])/\w2.grownBy w3 (some b)
theorem zpB{D:DataW Unit}{es:Array MapEntry}(h:w.ownsMap Tryz.prog 71 (plainElem (H:=Unit) Tryz.prog 3) b n D)(h1:w.heap[b]? =some (.map es c))(h2:w'.heap[b]? =some (.map es c)):w'.ownsMap Tryz.prog 71 (plainElem (H:=Unit) Tryz.prog 3) b n D:=by
 obtain⟨es',c',h3,h4⟩:=h;rw[h1]at h3;injection h3 with h3
 injection h3 with e1 e2
 subst e1 e2;exact⟨_,_,h2,h4⟩
theorem zcD(w:World):(zeroValue 3).run Tryz.prog w= .ok (.int .i64 0) w:=by kernel_rfl
theorem MapC.entry{L:List Kc}(h:MapC w b n L)(hn:n<maxLen)(hL:L.length<4611686018427387904){k:Kc}(hk:Q8 k):
  ∃v0 st w1,(Instr.mapEntry 48 (.map (some b)) (qk k)).run Tryz.prog w= .ok (.tuple #[v0,goInt st]) w1/\MidC w1 b n L k st/\w.grownBy w1 (some b):=by
 have hm:=h;have zxp:=h.look hk;obtain⟨D,zr5,hT⟩:=h;have ztY:=zr5;obtain⟨es,clock,hb,F,hs,rfl⟩:=zr5;have zsG:=zbA hk;have hlt:b<w.heap.size:=(Array.getElem?_eq_some_iff.1 hb).1;obtain⟨v0,st,es1,c1,hE,zsJ,hS⟩:=WideElems.entry_then_store (w:=w) J2 Tryz.underlying48 zcD hb F zsG;have hb1:(setBlock w b (.map es1 c1)).heap[b]? =some (.map es1 c1):=heap_setBlock_same hb _;have hg1:w.grownBy (setBlock w b (.map es1 c1)) (some b):=⟨rfl,rfl,rfl,by simp[setBlock],fun i _ hi=>heap_setBlock_other hb _ (fun e=>hi (by rw[e]))⟩
 have zsT:(L.count k:Int)<=L.length:=by have:=List.count_le_length (a:=k) (l:=L);omega
 have hcw:(Lit.int .i64 (L.count k:Int)).wf=true:=by
  have e1:IntKind.i64.min=-9223372036854775808:=rfl;have e2:IntKind.i64.max=9223372036854775807:=rfl;simp[Lit.wf];omega
 have zxq:(Lit.int .i64 ((L.count k:Int)+1)).wf=true:=by
  have e1:IntKind.i64.min=-9223372036854775808:=rfl;have e2:IntKind.i64.max=9223372036854775807:=rfl;simp[Lit.wf];omega
 refine⟨v0,st,_,hE,⟨by simp[setBlock];exact hlt,?_,es1,c1,hb1,fun w2 hw2=>?_⟩,hg1⟩
 ·--the number is there as it was
  rcases J2.find w zsG es.toList F.keys with ⟨h1,h2⟩|⟨j,e0,h1,h2,h3⟩
  ·have hE2:(Instr.mapEntry 48 (.map (some b)) (qk k)).run Tryz.prog w= .ok (.tuple #[.int .i64 0,goInt clock]) (setBlock w b (.map (es.push ⟨qk k,.int .i64 0,clock⟩) (clock+1))):=by
    simp[Instr.mapEntry,run_underlying Tryz.underlying48,MapKept.run_getObj_map hb,J2.check w false zsG,h1,zcD w,MapKept.run_setObj_map _ hb,Result.andThen,setBlock]
   have hU:(Instr.mapUpdate 48 (.map (some b)) (qk k) (.int .i64 0)).run Tryz.prog w= .ok () (setBlock w b (.map (es.push ⟨qk k,.int .i64 0,clock⟩) (clock+1))):=by
    simp[Instr.mapUpdate,run_underlying Tryz.underlying48,MapKept.run_getObj_map hb,J2.check w false zsG,h1,MapKept.run_setObj_map _ hb,Result.andThen,setBlock]
   have hw:=(Result.ok.inj (hE.symm.trans hE2)).2;obtain⟨w3,hr3,ho3,-⟩:=ztY.update j6 Tryz.underlying48 hn zsG (plainElem_int Tryz.underlying3 (show (Lit.int .i64 0).wf=true by decide));have hr3:=(Result.ok.inj (hU.symm.trans hr3)).2;rw[<-hr3,<-hw]at ho3;obtain⟨c,zsl,hat,-⟩:=ho3.lookup_int j6 Tryz.underlying48 Tryz.underlying3 (zcD _) zsG;rw[atKey_put_same hT.map (zcC k)]at hat;simp only[DataW.lit.injEq,Lit.int.injEq,true_and]at hat
   rw[zsl,<-hat];have h0:(L.count k:Int)=0:=by
    rcases Maps.fit_look false j6 Tryz.underlying48 (zcD w) hb F zsG with ⟨hr,_,_⟩|⟨e0,y,h5,h6,_⟩
    ·have hr2:=(Result.ok.inj (zxp.symm.trans hr)).1;simpa using hr2
    ·exact absurd h6 (h2 e0 (by simpa using h5))
   rw[h0]
  ·have zsC:es1=es/\c1=clock:=by
    have hj:es[j]? =some e0:=by simpa using h2
    have hsm:es.modify j (fun e=>{e with key:=qk k})=es:=by
     apply Array.ext';rw[Array.toList_modify,ChangeMaps.modify_eq_set _ _ _ _ h2];have:({e0 with key:=qk k}:MapEntry)=e0:=by rw[<-h3]
     rw[this];exact WideElems.set_self _ _ _ h2
    have hE2:(Instr.mapEntry 48 (.map (some b)) (qk k)).run Tryz.prog w= .ok (.tuple #[e0.val,goInt e0.born]) (setBlock w b (.map es clock)):=by
     simp[Instr.mapEntry,run_underlying Tryz.underlying48,MapKept.run_getObj_map hb,J2.check w false zsG,h1,hj,h3,J2.stays w zsG,hsm,MapKept.run_setObj_map _ hb,Result.andThen,setBlock]
    have hw:=(Result.ok.inj (hE.symm.trans hE2)).2;rw[hw,heap_setBlock_same hb]at hb1;injection hb1 with hb1
    injection hb1 with e1 e2
    exact⟨e1.symm,e2.symm⟩
   obtain⟨rfl,rfl⟩:=zsC;exact MapC.look ⟨_,⟨_,_,hb1,F,hs,rfl⟩,hT⟩ hk
 ·obtain⟨es',c',hr1,hr2⟩:=hS w2 (.int .i64 ((L.count k:Int)+1)) hw2;obtain⟨w3,hr3,ho3,-⟩:=ztY.update j6 Tryz.underlying48 hn zsG (plainElem_int Tryz.underlying3 zxq);have hr3:=(Result.ok.inj (hr2.symm.trans hr3)).2;rw[<-hr3]at ho3;exact⟨_,hr1,⟨_,zpB ho3 (heap_setBlock_same hb _) (heap_setBlock_same hw2 _),hT.put hk⟩,⟨rfl,rfl,rfl,by simp[setBlock],fun i _ hi=>heap_setBlock_other hw2 _ (fun e=>hi (by rw[e]))⟩⟩
def RngC(w:World)(b r n:Nat)(L ks:List Kc)(cnt:Nat):Prop:=
 ∃D left,w.ranges Tryz.prog 71 (plainElem (H:=Unit) Tryz.prog 3) b r n D left cnt/\TalD D L/\(∀k,Q8 k->(left (Qq k)=true↔k∈L/\k∉ks))/\ks.Nodup/\(∀k∈ks,k∈L)/\∀l,left l=true->has D l=true
theorem RngC.map{L ks:List Kc}(h:RngC w b r n L ks cnt):MapC w b n L:=by
 obtain⟨D,left,h1,h2,-⟩:=h;exact⟨D,h1.owns,h2⟩
theorem RngC.lt{L ks:List Kc}(h:RngC w b r n L ks cnt):r<w.heap.size/\r≠b:=by
 obtain⟨D,left,h1,-⟩:=h;exact⟨h1.lt,h1.ne⟩
theorem RngC.kept{L ks:List Kc}(h:RngC w b r n L ks cnt)(hb:w'.heap[b]? =w.heap[b]?)(hr:w'.heap[r]? =w.heap[r]?):RngC w' b r n L ks cnt:=by
 obtain⟨D,left,⟨es,clock,since,seen,c0,h1,h2,h3,h4,h5,h6⟩,h7⟩:=h;exact⟨D,left,⟨es,clock,since,seen,c0,hb.trans h1,h2,h3,h4,hr.trans h5,h6⟩,h7⟩
theorem MapC.range{L:List Kc}(h:MapC w b n L):∃w' cnt,(Instr.range 48 (.map (some b))).run Tryz.prog w= .ok (.pointer (some ⟨w.heap.size,0,none⟩)) w'/\RngC w' b w.heap.size n L [] cnt/\w.grownBy w' none/\w'.heap.size=w.heap.size+1:=by
 obtain⟨D,h1,h2⟩:=h;obtain⟨w',hr,hg,hgr,hs⟩:=h1.range j6 Tryz.underlying48;exact⟨w',_,hr,⟨D,_,hg,h2,fun k hk=>by rw[h2.has1 k hk];simp,List.nodup_nil,fun k hk=>by simp at hk,fun l hl=>hl⟩,hgr,hs⟩
theorem RngC.next{L ks:List Kc}(h:RngC w b r n L ks cnt)(ty:TypeId):
  ((∀k∈L,k∈ks)/\(Instr.next (.pointer (some ⟨r,0,none⟩)) false ty).run Tryz.prog w= .ok (.tuple #[.bool false]) w)∨
  ∃k w' cnt',k∈L/\(Instr.next (.pointer (some ⟨r,0,none⟩)) false ty).run Tryz.prog w= .ok (.tuple #[.bool true,qk k,.int .i64 (L.count k)]) w'/\RngC w' b r n L (ks++[k]) cnt'/\cnt'<cnt/\w.grownBy w' (some r)/\w'.heap.size=w.heap.size/\(Instr.entry (.pointer (some ⟨r,0,none⟩))).run Tryz.prog w'= .ok (.tuple #[qk k,.int .i64 (L.count k)]) w':=by
 obtain⟨D,left,h1,h2,h3,h4,h5,h6⟩:=h;rcases h1.next j6 ty with ⟨-,hl,zsl⟩|⟨key,v,kl,y,w',cnt',zsG,hlk,hv,hat,zsl,hrg,hlt,hgr,hsz,hen⟩
 ·refine .inl ⟨fun k hk=>?_,zsl⟩;by_cases hin:k∈ks
  ·exact hin
  ·have:=(h3 k (h2.wf k hk)).2 ⟨hk,hin⟩;rw[hl]at this
   cases this
 ·obtain⟨k,hkL,rfl⟩:=h2.has2 kl (h6 kl hlk);have hw:=h2.wf k hkL;obtain rfl:key=qk k:=j6.inj zsG (zbA hw);obtain⟨c,rfl,rfl,-⟩:=plainElem_int_inv Tryz.underlying3 hv;have hc:=hat (.lit (.int .i64 0));rw[h2.at_ k hw]at hc;simp only[DataW.lit.injEq,Lit.int.injEq,true_and]at hc;subst hc;have hnk:=((h3 k hw).1 hlk).2;refine .inr ⟨k,w',cnt',hkL,zsl,⟨D,_,hrg,h2,fun k' hw'=>?_,?_,fun k' hk'=>?_,fun l hl=>?_⟩,hlt,hgr,hsz,hen⟩
  ·have e:(Qq k').sameKey (Qq k)=decide (k'=k):=by
    by_cases e:k'=k
    ·subst e;rw[WideAt.sameKey_self (zcC _)];simp
    ·rw[sameKey_ne (fun h=>e (ziw hw' hw h))];simp[e]
   rw[e,Bool.and_eq_true,h3 k' hw'];simp[and_assoc]
  ·exact List.nodup_append.2 ⟨h4,by simp,fun a ha c hc=>by rw[List.mem_singleton.1 hc];exact fun e=>hnk (e▸ha)⟩
  ·rcases mem_append.1 hk' with h7|h7
   ·exact h5 k' h7
   ·rw[List.mem_singleton.1 h7];exact hkL
  ·simp only[Bool.and_eq_true]at hl;exact h6 l hl.1
theorem MapC.clear{L:List Kc}(h:MapC w b n L):∃w',(∀ty,(Builtin.clear_ #[48] ty #[.map (some b)]).run Tryz.prog w= .ok (.tuple #[]) w')/\MapC w' b 0 []/\w.grownBy w' (some b):=by
 obtain⟨D,⟨es,clock,hb,F,hs,-⟩,-⟩:=h;refine⟨setBlock w b (.map #[] clock),fun ty=>?_,⟨.map [],⟨#[],clock,heap_setBlock_same hb _,?_,Zr,rfl⟩,TalD.nil⟩,⟨rfl,rfl,rfl,by simp[setBlock],fun i _ hi=>heap_setBlock_other hb _ (fun e=>hi (by rw[e]))⟩⟩
 ·simp[Builtin.clear_,run_underlying Tryz.underlying48,MapKept.run_getObj_map hb,MapKept.run_setObj_map _ hb,Result.andThen,setBlock]
 ·exact⟨by simp,MapKept.stamped_empty clock,by simp⟩
theorem RngC.left_eq{L ks:List Kc}(h:RngC w b r n L ks cnt):w.rangeLeft b r=cnt:=by
 obtain⟨D,left,h1,-⟩:=h;exact h1.left_eq
theorem RngC.keys{L ks:List Kc}(h:RngC w b r n L ks cnt):ks.Nodup/\∀k∈ks,k∈L:=by
 obtain⟨D,left,-,-,-,h4,h5,-⟩:=h;exact⟨h4,h5⟩
theorem RngC.cnt_le{L ks:List Kc}(h:RngC w b r n L ks cnt):cnt<=n:=by
 obtain⟨D,left,⟨es,clock,since,seen,c0,-,-,hn,-,-,-,hc,-⟩,-⟩:=h;rw[<-hc];unfold leftOf;exact Nat.le_trans (Array.size_filter_le ..) hn
end
end Go.Proofs.YtpcgfpmiphiacaaGreat
