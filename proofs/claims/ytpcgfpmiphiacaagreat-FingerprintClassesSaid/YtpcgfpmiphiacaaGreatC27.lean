import Derived.Test.YtpcgfpmiphiacaaGreatC26
set_option maxHeartbeats 8000000
set_option linter.unusedVariables false
set_option linter.unusedSimpArgs false
namespace Go.Proofs.YtpcgfpmiphiacaaGreat
open List (map_append map_cons length_map length_take getElem?_eq_none length_drop)
variable {a:Int} {L m:List (List Int)} {b c j n q zf:Nat} {A:Option Addr} {w w0:World}
section
open Go.RowKit
def ZG(m L:List (List Int))(k:Nat):List (Ks×Int):=qv Zu ((L.take k).map (zP m L))
theorem zqE{k:Nat}{y:List Int}(h:L[k]? =some y):ZG m L (k+1)=Zk Zu (ZG m L k) (zP m L y):=by
 unfold ZG;rw[List.take_add_one,h,map_append];simp only[Option.toList_some,map_cons,List.map_nil];exact ziv _ _
theorem zqF(m L:List (List Int))(k:Nat):∀c∈ZG m L k,0<=c.2/\c.2<=L.length:=fun c hc=>by
 have h1:=((jP QL ((L.take k).map (zP m L))).mem c).1 hc;have h2:=@List.count_le_length _ instBEqOfDecidableEq c.1 ((L.take k).map (zP m L));rw[length_map,length_take]at h2;omega
def zbG(w:World)(m:List (List Int))(P:List (List Int)->Prop)(e:Ending)(w':World):Prop:=∃A c C L,e= .returned (.tuple #[.slice A (List.length C) c,.int .i64 0])/\P L/\Arr w' A 66 (zK C)/\(∀x∈C,x.ok w')/\C.map CE.key=qv Zu (L.map (zP m L))/\C.length<=L.length/\Step w w'
theorem zqG{C:List CE}(h:Arr w A 66 (zK C)){z:CE}(hz:C[j]? =some z):∃b o,A=some ⟨b,o,none⟩/\w.cell? ⟨b,o+j*3,none⟩=some (.int .i64 z.n)/\w.cell? ⟨b,o+j*3+1,none⟩=some (.slice z.A z.p.length z.c)/\w.cell? ⟨b,o+j*3+2,none⟩=some (.int .i64 z.N)/\b<w.heap.size:=by
 obtain⟨f0,f1,f2⟩:=zaK C j z hz;obtain⟨b,o,cs,fr,rfl,hb,hc⟩:=h (by have:=(Zg.1 f0).1;omega);have key:∀i u,(zK C)[i]? =some u->w.cell? ⟨b,o+i,none⟩=some u:=fun i u hu=>by simpa[World.cell?,hb] using hc i u hu
 exact⟨b,o,rfl,key _ _ f0,by rw[Nat.add_assoc];exact key _ _ f1,by rw[Nat.add_assoc];exact key _ _ f2,zF hb⟩
end
section
open Go.RowKit
open La
def LstOf(m:List (List Int))(b:Nat)(L:List (List Int)):Prop:=VecList m b false L/\L.length<=8000
theorem LstOf.prf(h:LstOf m b L)(hL:LLLed m)(hb:(b:Int)<1073741824):PrfL m L/\∀x∈L,j7 m L x:=by
 have hO:=qA hL.red;exact⟨zqz hO (by omega) h.1 (by have:=h.2;omega),fun x hx=>zqA hO (by omega) h.1 (h.1.zd x hx) (by have:=((h.1.mem x).1 hx).2.2.1;omega)⟩
theorem zqH(hM:Mat64 w0 A m)(hc:n<=c)(hc2:c<=9223372036854775807)(hL:LLLed m)(hmn:m.length=n)(h4:n<=4)(hb:b+2*n<=12)[hx:Ext w0 w]:
  Cq 34 #[.slice A n c,.int .i64 b,.int .i64 20000] w (zaF w (LstOf m b)):=by
 subst hmn;have zu2:=zcz hL.red (b:=b) h4 (.inl hb);exact(zpg (w:=w) (c:=c) (b:=b) (budget:=20000) hM hc hc2 hL.red h4 (.inl hb) (by omega) (by omega)).mono fun e w'⟨B,d,L,he,hM,h1,h2,hv,hl,hs⟩=>⟨B,d,L,_,he,hM,h1,h2,⟨hv,hl⟩,hs⟩
theorem zqI(hM:Mat64 w0 A m)(hL:LLLed m)(hmn:m.length=n)(h4:n<=4)(hb:b+2*n<=12)[hx:Ext w0 w]:
  Cq 42 #[.slice A n c,.int .i64 b,.int .i64 20000] w (fun e w'=>∃B d,e= .returned (.tuple #[B,d,.int .i64 0])/\Step w w'):=by
 have zu2:=zcz hL.red (b:=b) (by omega) (.inl (by omega));have hst:=(zbh hL.red (b:=b) (by omega)).1;have zsD:=hst.last_le (by have:=hL.len1;omega);refine(zpv (w:=w) (c:=c) (budget:=20000) hM.a hL hmn (by omega) (by omega) (by omega) (by omega) (fun _=>by omega)).mono ?_;rintro e w' (⟨-,B,d,L,he,-,-,-,-,hs⟩|⟨zsA,-⟩)
 ·exact⟨_,_,he,hs⟩
 ·omega
end
section
open Go.RowKit
def J4(w:World)(zf:Nat)(p:List Ct)(e:Ending)(w':World):Prop:=
 ∃A c,e= .returned (.slice A p.length c)/\Own w' zf 71 3 A p.length c (zz p)/\Grow zf 71 w w'
set_option maxRecDepth 20000 in
theorem zqJ{len lc:Nat}{LA:Option Addr}{p:List Ct}{b:Int}(hO:Own w zf 71 3 LA len lc (zz p))(hbs:zf<=w.heap.size)(zr7:p.length=len)(hl:len<=1000000)(zsc:∀c∈p,0<=c.2/\c.2<=1000000):
  Cq 49 #[.slice LA len lc,.int .i64 a,.int .i64 b] w (J4 w zf (Zk Z0 p (a,b))):=by
 have zsf:=hO.cap;have HCV:Hid (CtV w LA p):=Zh ⟨_,hO.arr⟩;have HO:=Zh hO;have HAR:=Zh hO.arr;have HPS:=Zh zsc;have HLN:=Zh zr7;have HTA:=Zh (zeP (lt:=Z0) p (a,b));clear hO zsc zr7;unfold J4;go_enter Tryz.func49,Tryz.ntmps49;go_wp2_with fail
 go_loopw [7] (fun i wr=>∃k:Nat,k<=len/\i= .int .i64 k/\Hid (∀j d,j<k->p[j]? =some d->Z0 d.1 (a,b))/\Ext w wr) (fun i _=>len-(intOf i).toNat)
 case atStart=>exact⟨0,by omega,rfl,Zh (fun j d hj=>absurd hj (by omega)),Zi⟩
 case round=>
  obtain⟨k,hk,rfl,HP,hxr⟩:=hrel;obtain⟨cont,zt5⟩:∃cont:Bool,cont=(p[k]?).any (fun d=>decide (Z0 d.1 (a,b))):=⟨_,rfl⟩;obtain⟨hit,zt6⟩:∃hit:Bool,hit=(p[k]?).any (fun d=>decide (d.1=(a,b))):=⟨_,rfl⟩;have HC:=Zh zt5;have HH:=Zh zt6;clear zt5 zt6;go_upto_region 2 with fail
  go_cut [22] (fun c W=>c= .bool cont/\Ext wr W)
  case first=>as_aux_lemma=>
   by_cases hlt:k<len
   ·obtain⟨⟨⟨x1,x2⟩,x3⟩,hxx⟩:∃z,p[k]? =some z:=⟨_,Ze (by rw[HLN.out];exact hlt)⟩;obtain⟨b1,o1,rfl,e1,e2,e3,e4⟩:=(HCV.out.ext hxr).at_ hxx;have hp3:=HPS.out _ (Zm hxx);simp only at e1 e2 e3 hp3;have HB:Hid (∀W,Cq 98 #[.agg #[.int .i64 x1,.int .i64 x2,.int .i64 x3],.agg #[.int .i64 a,.int .i64 b,.int .i64 0]] W (zy W (.bool cont))):=Zh (fun W=>by
     have h:=ziB (w:=W) ((x1,x2),x3) ((a,b),0);have ztr:decide (ZD ((x1,x2),x3) ((a,b),0))=cont:=by
      rw[HC.out,hxx,Option.any_some];unfold ZD Z0;simp only;congr 1
      simp only[eq_iff_iff];constructor
      ·rintro(h|⟨h,h'|⟨-,h'⟩⟩)
       ·exact .inl h
       ·exact .inr ⟨h,h'⟩
       ·omega
      ·rintro(h|⟨h,h'⟩)
       ·exact .inl h
       ·exact .inr ⟨h,.inl h'⟩
     rw[ztr]at h;exact h)
    clear hxx hp3;go_wp2_with (go_at_call 98;refine(HB.out _).mono ?_;rintro e w1 ⟨rfl,hs1⟩)
    go_meet
    exact⟨rfl,Zi⟩
   ·have HF:Hid (cont=false):=Zh (by rw[HC.out,getElem?_eq_none (by rw[HLN.out];omega)];rfl);go_wp2_with fail
    go_meet
    exact⟨by rw[HF.out],Zi⟩
  case rest=>
   obtain⟨rfl,hxc⟩:=hcut;have hxw:Ext w wc:=hxr.trans hxc
   cases cont with
   |true=>
    obtain⟨z,hz,hzl⟩:∃z,p[k]? =some z/\Z0 z.1 (a,b):=by
     have h:=HC.out
     cases hh:p[k]? with
     |none=>rw[hh]at h;cases h
     |some z=>rw[hh,Option.any_some]at h;exact⟨z,rfl,of_decide_eq_true h.symm⟩
    have hkl:k<len:=by have:=(Zg.1 hz).1;rw[HLN.out]at this;exact this
    have HP2:Hid (∀j d,j<k+1->p[j]? =some d->Z0 d.1 (a,b)):=Zh (fun j d hj hd=>by
     rcases Zl j k with h|h
     ·exact HP.out j d h hd
     ·obtain rfl:j=k:=by omega
      rw[hz]at hd;injection hd with hd
      rw[<-hd];exact hzl)
    clear hz hzl;go_wp2_with fail
    exact⟨⟨k+1,by omega,by go_num,HP2,hxw⟩,by simp[intOf];omega⟩
   |false=>
    have HNL:Hid (∀d,p[k]? =some d->¬Z0 d.1 (a,b)):=Zh (fun d hd hl=>by
     have h:=HC.out;rw[hd,Option.any_some,decide_eq_true hl]at h
     cases h)
    go_upto_region 4 with fail
    obtain⟨wA,hwA⟩:=Xz wc;rw[<-hwA]at hxw|-
    clear hwA hxc;go_cut [46] (fun c W=>c= .bool hit/\W=wA)
    case first=>as_aux_lemma=>
     by_cases hlt:k<len
     ·obtain⟨⟨⟨x1,x2⟩,x3⟩,hxx⟩:∃z,p[k]? =some z:=⟨_,Ze (by rw[HLN.out];exact hlt)⟩;obtain⟨b1,o1,rfl,e1,e2,e3,e4⟩:=(HCV.out.ext hxw).at_ hxx;simp only at e1 e2 e3;have HV:Hid (hit=decide (x1=a/\x2=b)):=Zh (by rw[HH.out,hxx,Option.any_some];simp);clear hxx;by_cases h1:x1=a
      ·by_cases h2:x2=b
       ·have d1:(x1==a)=true:=by simp[h1]
        have d2:(x2==b)=true:=by simp[h2]
        have HVV:Hid (hit=true):=Zh (by rw[HV.out];simp[h1,h2]);clear h1 h2;go_wp2_with fail
        go_meet
        exact⟨by rw[HVV.out],rfl⟩
       ·have d1:(x1==a)=true:=by simp[h1]
        have d2:(x2==b)=false:=by simp[h2]
        have HVV:Hid (hit=false):=Zh (by rw[HV.out];simp[h2]);clear h1 h2;go_wp2_with fail
        go_meet
        exact⟨by rw[HVV.out],rfl⟩
      ·have d1:(x1==a)=false:=by simp[h1]
       have HVV:Hid (hit=false):=Zh (by rw[HV.out];simp[h1]);clear h1;go_wp2_with fail
       go_meet
       exact⟨by rw[HVV.out],rfl⟩
     ·have HF:Hid (hit=false):=Zh (by rw[HH.out,getElem?_eq_none (by rw[HLN.out];omega)];rfl);go_wp2_with fail
      go_meet
      exact⟨by rw[HF.out],rfl⟩
    case rest=>
     obtain⟨rfl,hW⟩:=hcut;rw[hW];clear hW
     cases hit with
     |true=>
      obtain⟨z,hz,hzl⟩:∃z,p[k]? =some z/\z.1=(a,b):=by
       have h:=HH.out
       cases hh:p[k]? with
       |none=>rw[hh]at h;cases h
       |some z=>rw[hh,Option.any_some]at h;exact⟨z,rfl,of_decide_eq_true h.symm⟩
      have hkl:k<len:=by have:=(Zg.1 hz).1;rw[HLN.out]at this;exact this
      have HTQ:Hid (Zk Z0 p (a,b)=p.set k (z.1,z.2+1)):=Zh (((HTA.out k HP.out).2 z hz (HNL.out z hz)).1 hzl);obtain⟨g,cur,rfl,hbg,hgc,-,zs1,zsZ⟩:=zeQ (HO.out.ext hxw) (by omega);obtain⟨-,-,f2⟩:=zcB p k z hz;have e2:wA.cell? ⟨g,k*3+2,none⟩=some (.int .i64 z.2):=by simpa[World.cell?,hgc] using zs1 _ _ f2
      have e3:wA.frozen? ⟨g,k*3+2,none⟩=false:=by simp[World.frozen?,hgc]
      have hz2:=HPS.out z (Zm hz);have hwz:IntKind.i64.wrap (z.2+1)=z.2+1:=Iw;have HS:Hid (Own (wA.setCell ⟨g,k*3+2,none⟩ (.int .i64 (z.2+1))) zf 71 3 (some ⟨g,0,none⟩) len lc (zz (p.set k (z.1,z.2+1)))):=Zh (by
       rw[zi0 p k z _ hz];exact zsZ _ _ (by rw[qZ,HLN.out];omega))
      have HG:Hid (Grow zf 71 w (wA.setCell ⟨g,k*3+2,none⟩ (.int .i64 (z.2+1)))):=Zh ((Grow.of_ext hxw hbs).andG (Grow.setAt hgc hbg _ _));have oG:Old g wA:=⟨zF hgc⟩;generalize z.2=zn at*
      clear hz hzl zsZ zs1 f2 hgc;go_wp2_with fail
      go_ret;rw[HTQ.out,List.length_set,HLN.out];exact⟨_,lc,rfl,HS.out,HG.out⟩
     |false=>
      have HTQ:Hid (Zk Z0 p (a,b)=p.take k++((a,b),1)::p.drop k):=Zh (by
       obtain⟨t1,t2⟩:=HTA.out k HP.out
       cases hh:p[k]? with
       |none=>
        have hkl:p.length=k:=by have:=List.getElem?_eq_none_iff.1 hh;rw[HLN.out]at this|-;omega
        rw[t1 hkl,List.take_of_length_le (by omega),List.drop_eq_nil_of_le (by omega)]
       |some z=>
        refine(t2 z hh (HNL.out z hh)).2 fun e=>?_
        have h:=HH.out;rw[hh,Option.any_some,decide_eq_true e]at h
        cases h)
      have HVT:Hid ((zz (p.take k)).length=k*3/\(zz (p.drop k)).length=(len-k)*3):=Zh (by
       rw[qZ,qZ,length_take,length_drop,HLN.out];exact⟨by omega,rfl⟩)
      have HAT:Hid (∀W,Ext w W->Arr W LA 71 (zz (p.take k))):=Zh (fun W e=>by rw[ziD];exact(HAR.out.ext e).takeC _);have HAD:Hid (∀W,Ext w W->Arr W LA 71 (zz p)):=Zh (fun W e=>HAR.out.ext e);have hs0:w.heap.size<=wA.heap.size:=hxw.size;have HPL:Hid ((p.take k++((a,b),1)::p.drop k).length=k+1+(len-k)):=Zh (by rw[List.length_append,List.length_cons,length_take,length_drop,HLN.out];omega)
      have HPF:Hid (zz (p.take k++((a,b),1)::p.drop k)=zz (p.take k)++[.int .i64 a,.int .i64 b,.int .i64 1]++zz (p.drop k)):=Zh (by
       rw[zeA,List.append_assoc];rfl)
      go_upto_region 8 with (at_builtin;go_loud (refine zM _ rfl _ _ 50 rfl wA.heap.size 71 (.agg #[.int .i64 0,.int .i64 0,.int .i64 0]) 3 24 Tryz.underlying50 zaH rfl (by omega) (by omega) none 0 0 [] rfl (Own.nil _ _ _ _) LA k lc (zz (p.take k)) rfl (HAT.out _ (hxw.trans Zi)) HVT.out.1 (zcE _) (by omega) (by simp) ?_);intro A7 c7 w7 zr5 hg;rw[Nat.zero_add,List.nil_append]at zr5;rw[Nat.zero_add];have HO7:=Zh zr5;have hx7:Ext wA w7:=hg.ext Zi (by simp);clear zr5 hg)
      go_upto_region 9 with (at_builtin;go_loud (refine zM _ rfl _ _ 50 rfl wA.heap.size 71 (.agg #[.int .i64 0,.int .i64 0,.int .i64 0]) 3 24 Tryz.underlying50 zaH rfl (by omega) (by omega) A7 k c7 _ rfl (HO7.out.ext Zi) (some ⟨w7.heap.size,0,none⟩) 1 1 [.int .i64 a,.int .i64 b,.int .i64 1] rfl (Arr.new w7 71 #[.int .i64 a,.int .i64 b,.int .i64 1]) (by simp) (by simp[Value.oneCell']) (by omega) (by have:=hx7.size;simp;omega) ?_);intro A8 c8 w8 zr5 hg;have HO8:=Zh zr5;have hx8:Ext wA w8:=hg.ext (hx7.trans Zi) Zr;clear zr5 hg)
      have zu9:wA.heap.size<=w8.heap.size:=hx8.size;have zwc:Ext w w8:=hxw.trans hx8;have zqW:Hid (∀(A9:Option Addr)(c9:Nat)(w9:World),Own w9 wA.heap.size 71 3 A9 (k+1+(len-k)) c9 (zz (p.take k)++[.int .i64 a,.int .i64 b,.int .i64 1]++zz (p.drop k))->Grow wA.heap.size 71 w8 w9->J4 w zf (Zk Z0 p (a,b)) (.returned (.slice A9 (k+1+(len-k)) c9)) w9):=Zh (fun A9 c9 w9 h1 h2=>by
       have hx9:Ext w w9:=hxw.trans (h2.ext hx8 Zr);unfold J4;rw[HTQ.out,HPL.out,HPF.out];exact⟨A9,c9,rfl,h1.lower (by omega),Grow.of_ext hx9 hbs⟩)
      unfold J4 at zqW;clear HTQ HPL HPF HC HH HNL hxr HCV HTA HPS;rcases(show (LA=none/\len=0/\lc=0)∨(∃g,LA=some ⟨g,0,none⟩) from by
       rcases HO.out.2 with ⟨hv,hn⟩|⟨g,cap,cur,hv,-⟩
       ·injection hv with h1 h2 h3
        exact .inl ⟨h1,hn,h3⟩
       ·injection hv with h1 h2 h3
        exact .inr ⟨g,h1⟩) with ⟨rfl,rfl,rfl⟩|⟨g,rfl⟩
      ·obtain rfl:k=0:=by omega
       go_wp2_with (at_builtin;go_loud (refine zM _ rfl _ _ 50 rfl wA.heap.size 71 (.agg #[.int .i64 0,.int .i64 0,.int .i64 0]) 3 24 Tryz.underlying50 zaH rfl (by omega) (by omega) A8 (0+1) c8 _ rfl HO8.out _ (0-0) _ (zz (p.drop 0)) rfl (HAD.out _ zwc) HVT.out.2 (zcE _) (by omega) zu9 ?_);intro A9 c9 w9 zr5 hg;have HR9:=Zh (zqW.out _ _ _ zr5 hg);clear zr5 hg)
       go_ret;exact HR9.out
      ·by_cases hcc:lc=k
       ·have hkl:k=len:=by omega
        subst hcc;subst hkl;have HDN:Hid (zz (p.drop lc)=[]):=Zh (by rw[List.drop_eq_nil_of_le (by rw[HLN.out];exact Zr)];rfl);have hll:lc-lc=0:=by omega
        rw[hll]at zqW HVT;have hdn:Arr w8 (some ⟨g,0,none⟩) 71 (zz (p.drop lc)):=by rw[HDN.out];exact Arr.nil
        go_wp2_with (at_builtin;go_loud (refine zM _ rfl _ _ 50 rfl wA.heap.size 71 (.agg #[.int .i64 0,.int .i64 0,.int .i64 0]) 3 24 Tryz.underlying50 zaH rfl (by omega) (by omega) A8 (lc+1) c8 _ rfl HO8.out _ 0 _ (zz (p.drop lc)) rfl hdn HVT.out.2 (zcE _) (by omega) zu9 ?_);intro A9 c9 w9 zr5 hg;have HR9:=Zh (zqW.out _ _ _ zr5 hg);clear zr5 hg)
        go_ret;exact HR9.out
       ·have hdr:Arr w8 (some ⟨g,k*3,none⟩) 71 (zz (p.drop k)):=by
         have h:=(HAR.out.drop (k*3)).ext zwc;rw[Nat.zero_add]at h;rw[ziE];exact h
        go_wp2_with (at_builtin;go_loud (refine zM _ rfl _ _ 50 rfl wA.heap.size 71 (.agg #[.int .i64 0,.int .i64 0,.int .i64 0]) 3 24 Tryz.underlying50 zaH rfl (by omega) (by omega) A8 (k+1) c8 _ rfl HO8.out _ (len-k) (lc-k) (zz (p.drop k)) rfl hdr HVT.out.2 (zcE _) (by omega) zu9 ?_);intro A9 c9 w9 zr5 hg;have HR9:=Zh (zqW.out _ _ _ zr5 hg);clear zr5 hg)
        go_ret;exact HR9.out
def zaL(w:World)(p:List Ct)(e:Ending)(w':World):Prop:=
 ∃A c,e= .returned (.tuple #[.slice A p.length c,.bool true])/\Arr w' A 71 (zz p)/\Step w w'
theorem zqK(m L:List (List Int))(x y:List Int):zx m (L++[y]) x=Zk Z0 (zx m L x) (QM m x y):=by
 unfold zx;rw[map_append,map_cons,List.map_nil,ziv]
theorem zqL(m L:List (List Int))(x:List Int):∀c∈zx m L x,0<=c.2/\c.2<=L.length:=fun c hc=>by
 have h1:=((jP zbx (L.map (QM m x))).mem c).1 hc;have h2:=@List.count_le_length _ instBEqOfDecidableEq c.1 (L.map (QM m x));rw[length_map]at h2;omega
set_option maxRecDepth 20000 in
theorem zi4{IA X:Option Addr}{ic d N:Nat}{x:List Int}{vs:List Value}(hM:MatA w0 A m)(hL:LLLed m)(hmn:m.length=n)(hI:Arr w0 IA 62 vs)(hV:ItV w0 vs (L.map fun y=>(zg m y,y)))(hN:L.length=N)(hN6:N<=1000000)(hX:Ints w0 X 2 .i64 x)(hxl:x.length=n)(hxb:∀a∈x,-1099511627776<=a/\a<=1099511627776)(hlb:∀y∈L,y.length=n/\∀a∈y,-1099511627776<=a/\a<=1099511627776)(hib:j7 m L x)[hx:Ext w0 w]:
  Cq 23 #[.slice A n c,.slice IA N ic,.slice X n d] w (zaL w (zx m L x)):=by
 have HIN:Hid (∀W Y dy y,y∈L->Ints w0 Y 2 .i64 y->Ext w0 W->Cq 48 #[.slice A n c,.slice X n d,.slice Y n dy] W (zy W (.tuple #[.int .i64 (zG (zU m y) x),.bool true]))):=Zh (fun W Y dy y hy hY e=>zqD hM hL hmn hX hxl hxb hlb hib hy hY);have HE:Hid (∀(k:Nat)(y:List Int),L[k]? =some y->∃b o B cb,IA=some ⟨b,o,none⟩/\w0.cell? ⟨b,o+k*2,none⟩=some (.int .i64 (zg m y))/\w0.cell? ⟨b,o+k*2+1,none⟩=some (.slice B n cb)/\Ints w0 B 2 .i64 y/\b<w0.heap.size):=Zh (fun k y hy=>by
  obtain⟨B,cb,a1,a2,a3,-⟩:=hV.2 k (zg m y,y) (by rw[List.getElem?_map,hy];rfl);obtain⟨b,o,hA,h1,h2⟩:=hI.at_ a1;obtain⟨b',o',hA',h1',-⟩:=hI.at_ a2;rw[hA]at hA';injection hA' with hA'
  injection hA' with z1 z2
  subst z1 z2;simp only[(hlb y (Zm hy)).1]at h1';exact⟨b,o,B,cb,hA,h1,by rw[Nat.add_assoc];exact h1',a3,h2⟩)
 have HNB:Hid (∀y∈L,-4611686018427387904<=zG (zU m y) x/\zG (zU m y) x<=4611686018427387904):=Zh hib;have HN:=Zh hN;have HPS:Hid (∀k,(∀c∈zx m (L.take k) x,0<=c.2/\c.2<=1000000)/\(zx m (L.take k) x).length<=1000000):=Zh (fun k=>by
  have h0:(L.take k).length<=N:=by rw[length_take];omega
  refine⟨fun c hc=>?_,?_⟩
  ·have:=zqL m (L.take k) x c hc;omega
  ·have:=zaG m (L.take k) x;omega)
 have HST:Hid (∀(k:Nat)(y:List Int),L[k]? =some y->zx m (L.take (k+1)) x=Zk Z0 (zx m (L.take k) x) (zg m y,(((zG (zU m y) x).natAbs:Nat):Int))):=Zh (fun k y hy=>by
  rw[List.take_add_one,hy];exact zqK m (L.take k) x y)
 clear hM hL hmn hI hV hN hX hxl hxb hlb hib;unfold zaL;go_enter Tryz.func23,Tryz.ntmps23;go_wp2_with fail
 go_loopw [8,10,11,12,15] (fun out _ _ _ i wr=>∃(k q:Nat) (A1:Option Addr) (c1:Nat),k<=N/\i= .int .i64 k/\out= .slice A1 q c1/\Hid ((zx m (L.take k) x).length=q)/\Hid (Own wr w.heap.size 71 3 A1 q c1 (zz (zx m (L.take k) x)))/\Ext w wr) (fun _ _ _ _ i _=>N-(intOf i).toNat)
 case atStart=>exact⟨0,0,none,0,by omega,rfl,rfl,Zh rfl,Zh (Own.nil _ _ _ _),Zi⟩
 case round=>
  obtain⟨k,q,A1,c1,hk,rfl,rfl,HQ,HO,hxr⟩:=hrel;have zs0:Ext w0 wr:=hx.trans hxr;by_cases hlt:k<N
  ·obtain⟨y,hy⟩:∃y,L[k]? =some y:=⟨_,Ze (by rw[HN.out];exact hlt)⟩;obtain⟨b,o,B,cb,rfl,z1,z2,hI,z3⟩:=HE.out k y hy;have hnb:=HNB.out y (Zm hy);have hIN:=fun W(e:Ext w0 W)=>HIN.out W B cb y (Zm hy) hI e
   have hST:=HST.out k y hy;have oB:Old b w0:=⟨z3⟩;have e1:wr.cell? ⟨b,o+k*2,none⟩=some (.int .i64 (zg m y)):=(zi w0).trans z1;have e2:wr.cell? ⟨b,o+k*2+1,none⟩=some (.slice B n cb):=(zi w0).trans z2;have oBr:Old b wr:=⟨Nat.lt_of_lt_of_le z3 zs0.size⟩;generalize zg m y=ny at*
   generalize zG (zU m y) x=v at*
   have HIY:=Zh hIN;have HSY:=Zh hST;obtain⟨av,hav⟩:∃av,((v.natAbs:Nat):Int)=av:=⟨_,rfl⟩;have hwv:IntKind.i64.wrap (-v)=-v:=Iw;have hmx:max v (-v)=av:=by omega
   have HTL:Hid (∀W,Ext w W->Own W w.heap.size 71 3 A1 q c1 (zz (zx m (L.take k) x))->Cq 49 #[.slice A1 q c1,.int .i64 ny,.int .i64 av] W (J4 W w.heap.size (zx m (L.take (k+1)) x))):=Zh (fun W e hO=>by
    have h:=zqJ (a:=ny) (b:=av) hO e.size HQ.out (by have:=(HPS.out k).2;rw[HQ.out]at this;exact this) (HPS.out k).1;rw[HSY.out,hav];exact h)
   unfold J4 at HTL;clear hIN hST hav hy z1 z2 hI HST HE HIN;go_upto_region 6 with (go_at_call 48;refine(HIY.out _ Zi).mono ?_;rintro e w5 ⟨rfl,hs5⟩;have hb5:=(Zi:BlkAt wr.heap.size #[.int .i64 ny,.slice B n cb] 62 w5).eq;obtain⟨t1,t2,-,-,t5⟩:=zQ hb5;clear hb5)
   have oY:Old wr.heap.size w5:=⟨t5⟩;have hx5:Ext wr w5:=Zi;go_wp2_with (go_at_call 49;refine(HTL.out _ (hxr.trans Zi) (HO.out.ext Zi)).mono ?_;rintro e w6 ⟨A6,c6,rfl,hO6,hG6⟩;have HO6:=Zh hO6;have hx6:Ext w w6:=hG6.ext (hxr.trans Zi) Zr;clear hO6 hG6)
   exact⟨⟨k+1,_,A6,c6,by omega,by go_num,rfl,Zh rfl,HO6,hx6⟩,by simp[intOf];omega⟩
  ·obtain rfl:k=N:=by omega
   have HF:Hid (L.take k=L):=Zh (List.take_of_length_le (by rw[HN.out];exact Zr));go_wp2_with fail
   go_ret2
   have h1:=HO.out;have h2:=HQ.out;rw[HF.out]at h1 h2;exact⟨A1,c1,by rw[h2];rfl,h1.arr,hxr.toStep⟩
theorem zi5:∀(p:List CE)(j:Nat),zK (p.take j)=(zK p).take (j*3)
 |[],j=>by simp[zK]
 |c::p,0=>by simp[zK]
 |c::p,j+1=>by
  rw[show (j+1)*3=j*3+1+1+1 by omega];show Jy c++zK (p.take j)=_;rw[zi5 p j];rfl
theorem zi6:∀(p:List CE)(j:Nat),zK (p.drop j)=(zK p).drop (j*3)
 |[],j=>by simp[zK]
 |c::p,0=>by simp
 |c::p,j+1=>by
  rw[show (j+1)*3=j*3+1+1+1 by omega];show zK (p.drop j)=_;rw[zi6 p j];rfl
theorem zeS(p:List CE):∀u∈zK p,u.oneCell'=true:=fun u hu=>by
 obtain⟨c,-,h⟩:=List.mem_flatMap.1 hu;exact zqm c u h
theorem zi7:∀(p:List CE)(j:Nat)(d:CE)(v:Int),p[j]? =some d->zK (p.set j {d with N:=v})=(zK p).set (j*3+2) (.int .i64 v)
 |[],j,d,v,h=>by simp at h
 |c::p,0,d,v,h=>by simp at h;subst h;rfl
 |c::p,j+1,d,v,h=>by
  have:=zi7 p j d v (by simpa using h);rw[show (j+1)*3+2=j*3+2+1+1+1 by omega];show Jy c++zK (p.set j {d with N:=v})=_;rw[this];rfl
theorem zi8{b:Int}{x y:CE}(hx:x.ok w0)(hy:y.ok w0)(hp1:x.p.length<=1099511627776)(hp2:y.p.length<=1099511627776)[h0:Ext w0 w]:
  Cq 43 #[.agg #[.int .i64 x.n,.slice x.A x.p.length x.c,.int .i64 a],.agg #[.int .i64 y.n,.slice y.A y.p.length y.c,.int .i64 b]] w (zy w (.bool (decide (Zu (x.n,x.p) (y.n,y.p))))):=by
 have HL:=Zh (fun W(e:Ext w0 W)=>zeC (w:=W) (c:=x.c) (d:=y.c) hx.ct hy.ct hp1 hp2);have HV:Hid (decide (Zu (x.n,x.p) (y.n,y.p))=(decide (x.n<y.n)||(decide (x.n=y.n)&&zX x.p y.p))):=Zh (by
  rw[Bool.eq_iff_iff,decide_eq_true_iff];unfold Zu;simp)
 rw[HV.out];clear HV hx hy;obtain⟨n1,A1,c1,p1,N1⟩:=x;obtain⟨n2,A2,c2,p2,N2⟩:=y;simp only at HL|-
 generalize zX p1 p2=r at*
 generalize p1.length=l1 at*
 generalize p2.length=l2 at*
 by_cases h1:n1<n2
 ·have d1:decide (n1<n2)=true:=by simpa using h1
  have HR:Hid ((decide (n1<n2)||(decide (n1=n2)&&r))=true):=Zh (by simp[h1]);rw[HR.out];clear h1 HR;go_enter Tryz.func43,Tryz.ntmps43;go_wp2_with fail
  go_ret;exact⟨rfl,Step.of _ _⟩
 ·by_cases h2:n1=n2
  ·have d1:decide (n1<n2)=false:=by simpa using h1
   have d2:(n1==n2)=true:=by simpa using h2
   have HR:Hid ((decide (n1<n2)||(decide (n1=n2)&&r))=r):=Zh (by simp[h2]);rw[HR.out];clear h1 h2 HR;go_enter Tryz.func43,Tryz.ntmps43;go_wp2_with (go_at_call 50;refine(HL.out _ Zi).mono ?_;rintro e w1 ⟨rfl,hs1⟩)
   go_ret;exact⟨rfl,Step.of _ _⟩
  ·have d1:decide (n1<n2)=false:=by simpa using h1
   have d2:(n1==n2)=false:=by simpa using h2
   have HR:Hid ((decide (n1<n2)||(decide (n1=n2)&&r))=false):=Zh (by simp[h1,h2]);rw[HR.out];clear h1 h2 HR;go_enter Tryz.func43,Tryz.ntmps43;go_wp2_with fail
   go_ret;exact⟨rfl,Step.of _ _⟩
structure SigV(w:World)(zf:Nat)(A:Option Addr)(q c:Nat)(C:List CE)(S:List (Ks×Int)):Prop where
 own:Own w zf 66 3 A q c (zK C)
 len:C.length=q
 ok:∀x∈C,x.ok w
 key:C.map CE.key=S
theorem SigV.ext{w':World}{C:List CE}{S:List (Ks×Int)}(h:SigV w zf A q c C S)(hx:Ext w w'):SigV w' zf A q c C S:=⟨h.own.ext hx,h.len,fun x hm=>(h.ok x hm).kp (Kp.of_ext hx),h.key⟩
theorem SigV.at_{C:List CE}{S:List (Ks×Int)}(h:SigV w zf A q c C S){z:CE}(hz:C[j]? =some z):∃g,A=some ⟨g,0,none⟩/\w.cell? ⟨g,j*3,none⟩=some (.int .i64 z.n)/\w.cell? ⟨g,j*3+1,none⟩=some (.slice z.A z.p.length z.c)/\w.cell? ⟨g,j*3+2,none⟩=some (.int .i64 z.N)/\w.frozen? ⟨g,j*3+2,none⟩=false/\g<w.heap.size/\j<q/\S[j]? =some z.key:=by
 have hj:=(Zg.1 hz).1;rw[h.len]at hj;obtain⟨g,cur,hA,-,hgc,-,zs1,-⟩:=zeQ h.own (by omega);obtain⟨f0,f1,f2⟩:=zaK C j z hz;refine⟨g,hA,by simpa[World.cell?,hgc] using zs1 _ _ f0,by simpa[World.cell?,hgc] using zs1 _ _ f1,by simpa[World.cell?,hgc] using zs1 _ _ f2,by simp[World.frozen?,hgc],zF hgc,hj,?_⟩;rw[<-h.key,List.getElem?_map,hz];rfl
theorem SigV.bump{g:Nat}{C:List CE}{S:List (Ks×Int)}(h:SigV w zf (some ⟨g,0,none⟩) q c C S){z:CE}(hz:C[j]? =some z):SigV (w.setCell ⟨g,j*3+2,none⟩ (.int .i64 (z.N+1))) zf (some ⟨g,0,none⟩) q c (C.set j {z with N:=z.N+1}) (S.set j (z.key.1,z.N+1))/\Below zf w (w.setCell ⟨g,j*3+2,none⟩ (.int .i64 (z.N+1))):=by
 have hj:=(Zg.1 hz).1;have hjq:=hj;rw[h.len]at hjq;obtain⟨g',cur,hA,hbg,hgc,-,-,zsZ⟩:=zeQ h.own (by omega);injection hA with hA
 injection hA with hA
 subst hA;refine⟨⟨?_,by rw[List.length_set];exact h.len,fun x hx=>?_,?_⟩,Below.setAt (p:=⟨g,j*3+2,none⟩) w hbg _⟩
 ·rw[zi7 C j z _ hz];exact zsZ _ _ (by rw[zaJ,h.len];omega)
 ·have hkp:=Kp.of_set hgc (p:=⟨g,j*3+2,none⟩) rfl (.int .i64 (z.N+1));rcases List.mem_or_eq_of_mem_set hx with hx|rfl
  ·exact(h.ok x hx).kp hkp
  ·exact CE.ok.kp (x:=z) (h.ok z (Zm hz)) hkp
 ·rw[List.map_set,h.key];rfl
def zcG(w:World)(m:List (List Int))(P:List (List Int)->Prop)(e:Ending)(w':World):Prop:=∃A c vs L,e= .returned (.slice A (List.length L) c)/\Arr w' A 62 vs/\ItV w' vs (L.map fun y=>(zg m y,y))/\P L/\Step w w'
set_option maxRecDepth 20000 in
theorem zqM{b u:Int}{P:List (List Int)->Prop}
  (hve:∀W,Ext w W->Cq 42 #[.slice A n c,.int .i64 b,.int .i64 u] W (fun e w'=>∃B d,e= .returned (.tuple #[B,d,.int .i64 0])/\Step W w'))
  (hit:∀W,Ext w W->Cq 22 #[.slice A n c,.int .i64 b] W (zcG W m P))
  (hpr:∀L W0 W IA ic vs X d y,P L->y∈L->Ext w W0->Arr W0 IA 62 vs->ItV W0 vs (L.map fun y=>(zg m y,y))->Ints W0 X 2 .i64 y->Ext W0 W->Cq 23 #[.slice A n c,.slice IA L.length ic,.slice X n d] W (zaL W (zx m L y)))
  (hl6:∀L,P L->L.length<=1000000/\∀y∈L,y.length=n):
  Cq 21 #[.slice A n c,.int .i64 b,.int .i64 u] w (zbG w m P):=by
 have HVE:=Zh hve;have HIT:=Zh hit;have HPR:=Zh hpr;have HL6:=Zh hl6;unfold zcG at HIT;unfold zaL at HPR;unfold zbG;clear hve hit hpr hl6;go_enter Tryz.func21,Tryz.ntmps21;go_upto_region 6 with (first
  |(go_at_call 42;refine(HVE.out _ Zi).mono ?_;rintro e w1 ⟨B1,d1,rfl,hs1⟩)
  |(go_at_call 22;refine(HIT.out _ Zi).mono ?_;rintro e w2 ⟨IA,ic,vs,L,rfl,hA2,hV2,hPL,hs2⟩;have HA2:=Zh hA2;have HV2:=Zh hV2;have HPL:=Zh hPL;clear hA2 hV2 hPL))
 have hx2:Ext w w2:=Zi;obtain⟨hN6,zt7⟩:=HL6.out L HPL.out;have HE:Hid (∀(j:Nat)(y:List Int),L[j]? =some y->∃b o B cb,IA=some ⟨b,o,none⟩/\w2.cell? ⟨b,o+j*2,none⟩=some (.int .i64 (zg m y))/\w2.cell? ⟨b,o+j*2+1,none⟩=some (.slice B n cb)/\Ints w2 B 2 .i64 y/\b<w2.heap.size):=Zh (fun j y hy=>by
  obtain⟨B,cb,a1,a2,a3,-⟩:=HV2.out.2 j (zg m y,y) (by rw[List.getElem?_map,hy];rfl);obtain⟨b,o,hA,h1,h2⟩:=HA2.out.at_ a1;obtain⟨b',o',hA',h1',-⟩:=HA2.out.at_ a2;rw[hA]at hA';injection hA' with hA'
  injection hA' with z1 z2
  subst z1 z2;simp only[zt7 y (Zm hy)]at h1';exact⟨b,o,B,cb,hA,h1,by rw[Nat.add_assoc];exact h1',a3,h2⟩)
 obtain⟨N,hN⟩:=Yz L.length;have HPC:Hid (∀(W:World)X d y,y∈L->Ints w2 X 2 .i64 y->Ext w2 W->Cq 23 #[.slice A n c,.slice IA N ic,.slice X n d] W fun e w'=>∃A c,e= .returned (.tuple #[.slice A (zx m L y).length c,.bool true])/\Arr w' A 71 (zz (zx m L y))/\Step W w'):=Zh (fun W X d y hy hX e=>by
  have h:=HPR.out L w2 W IA ic vs X d y HPL.out hy hx2 HA2.out HV2.out hX e;rwa [hN]at h)
 have HNN:=Zh hN;rw[hN]at hN6|-
 have HPB:Hid (∀y,(zx m L y).length<=1000000):=Zh (fun y=>by have:=zaG m L y;omega);clear hN zt7 HVE HIT HPR HL6 HA2 HV2;go_wp2_with fail
 go_loopw [11,14,15,16,17,18,19,36] (fun ov _ _ _ _ _ _ i wr=>∃(k q c':Nat) (A':Option Addr) (C:List CE),k<=N/\i= .int .i64 k/\ov= .slice A' q c'/\q<=k/\Hid (SigV wr w2.heap.size A' q c' C (ZG m L k))/\Ext w2 wr) (fun _ _ _ _ _ _ _ i _=>N-(intOf i).toNat)
 case atStart=>exact⟨0,0,0,none,[],by omega,rfl,rfl,by omega,Zh ⟨Own.nil _ _ _ _,rfl,fun x hx=>by simp at hx,rfl⟩,Zi⟩
 case round=>
  obtain⟨k,q,c',A',C,hk,rfl,rfl,hqk,HS,hxr⟩:=hrel;by_cases hlt:k<N
  ·obtain⟨y,hy⟩:∃y,L[k]? =some y:=⟨_,Ze (by rw[HNN.out];exact hlt)⟩;obtain⟨ib,io,B,cb,rfl,z1,z2,hI,z3⟩:=HE.out k y hy;have oB:Old ib w2:=⟨z3⟩;have oBr:Old ib wr:=⟨Nat.lt_of_lt_of_le z3 hxr.size⟩;have e1:wr.cell? ⟨ib,io+k*2,none⟩=some (.int .i64 (zg m y)):=(zi w2).trans z1;have e2:wr.cell? ⟨ib,io+k*2+1,none⟩=some (.slice B n cb):=(zi w2).trans z2;have hSY:=zqE (m:=m) hy;have hPY:=fun W(e:Ext w2 W)=>HPC.out W B cb y (Zm hy) hI e
   have hPB:=HPB.out y;unfold zP at hSY;generalize zg m y=ny at*
   generalize zx m L y=pr at*
   have HSY:=Zh hSY;have HPY:=Zh hPY;clear hSY hPY z1 z2 hI hy;obtain⟨pl,hpl⟩:=Yz pr.length;rw[hpl]at HPY hPB;have zq1:=Zh hpl;clear hpl;go_upto_region 10 with (go_at_call 23;refine(HPY.out _ (hxr.trans Zi)).mono ?_;rintro e w5 ⟨A5,c5,rfl,hA5,hs5⟩;have HA5:=Zh hA5;clear hA5;have hb5:=(Zi:BlkAt wr.heap.size #[.int .i64 ny,.slice B n cb] 62 w5).eq;obtain⟨t1,t2,-,-,t5⟩:=zQ hb5;clear hb5)
   have oY:Old wr.heap.size w5:=⟨t5⟩;have hx5:Ext wr w5:=Zi;have hx2C0:Ext w2 w5:=hxr.trans hx5;obtain⟨wC,hwC⟩:=Xz (w5.alloc (.cells #[.int .i64 ny,.slice A5 pl c5,.int .i64 1] 66));have hxC:Ext w5 wC:=by rw[hwC];infer_instance
   have hbC:wC.heap[w5.heap.size]? =some (.cells #[.int .i64 ny,.slice A5 pl c5,.int .i64 1] 66 (0,0)):=by rw[hwC];exact heap_alloc_new w5 _
   have HKC:Hid (∀W,Ext wC W->(W.cell? ⟨w5.heap.size,0,none⟩=some (.int .i64 ny)/\W.cell? ⟨w5.heap.size,1,none⟩=some (.slice A5 pl c5)/\W.cell? ⟨w5.heap.size,2,none⟩=some (.int .i64 1))/\w5.heap.size<W.heap.size):=Zh (fun W e=>⟨(qF (zj e hbC)).1,zF (zj e hbC)⟩);have HX0:Hid (CE.ok wC ⟨ny,A5,c5,pr,1⟩):=Zh ⟨HA5.out.ext hxC,by simp only[zq1.out];omega⟩;have HSC:Hid (SigV wC w2.heap.size A' q c' C (ZG m L k)):=Zh (HS.out.ext (hx5.trans hxC))
   have hx2C:Ext w2 wC:=hx2C0.trans hxC;have HWC:=Zh hwC;clear hwC hbC HS HA5;go_upto_region 11 with fail
   rw[<-HWC.out];clear HWC hxC hx2C0 hx5 oY t1 t2 t5 e1 e2 oBr hxr;go_wp2_with fail
   go_loopw [18] (fun iv wz=>∃j:Nat,j<=q/\iv= .int .i64 j/\Hid (∀r d,r<j->(ZG m L k)[r]? =some d->Zu d.1 (ny,pr))/\Ext wC wz) (fun iv _=>q-(intOf iv).toNat)
   case atStart=>exact⟨0,by omega,rfl,Zh (fun r d hr=>absurd hr (by omega)),Zi⟩
   case round=>
    obtain⟨j,hj,rfl,HP,hxz⟩:=hrel;obtain⟨cont,zt5⟩:∃cont:Bool,cont=((ZG m L k)[j]?).any (fun d=>decide (Zu d.1 (ny,pr))):=⟨_,rfl⟩;obtain⟨hit,zt6⟩:∃hit:Bool,hit=((ZG m L k)[j]?).any (fun d=>decide (d.1=(ny,pr))):=⟨_,rfl⟩;have HC:=Zh zt5;have HH:=Zh zt6;clear zt5 zt6;obtain⟨wA,hwA⟩:=Xz wr;rw[<-hwA]at hxz|-
    clear hwA;obtain⟨⟨k0,k1,k2⟩,k3⟩:=HKC.out wA hxz;have oC:Old w5.heap.size wA:=⟨k3⟩;have zwd:(ZG m L k).length=q:=by rw[<-HSC.out.key,length_map,HSC.out.len]
    have HLK:=Zh zwd;clear zwd;go_upto_region 12 with fail
    go_cut [63] (fun cv W=>cv= .bool cont/\Ext wA W)
    case first=>as_aux_lemma=>
     by_cases zsI:j<q
     ·obtain⟨z,hz⟩:∃z,C[j]? =some z:=⟨_,Ze (by rw[HSC.out.len];exact zsI)⟩;have hsv:=HSC.out.ext hxz;obtain⟨g,rfl,f1,f2,f3,-,f5,-,hkz⟩:=hsv.at_ hz;have HLC:Hid (∀W,Ext wA W->Cq 43 #[.agg #[.int .i64 z.n,.slice z.A z.p.length z.c,.int .i64 z.N],.agg #[.int .i64 ny,.slice A5 pl c5,.int .i64 1]] W (zy W (.bool cont))):=Zh (fun W e=>by
       have h:=zi8 (w0:=wA) (w:=W) (a:=z.N) (b:=1) (x:=z) (y:=⟨ny,A5,c5,pr,1⟩) (hsv.ok z (Zm hz)) (HX0.out.kp (Kp.of_ext hxz)) (hsv.ok z (Zm hz)).2 (by simp only[zq1.out];omega);have hv:decide (Zu (z.n,z.p) (ny,pr))=cont:=by rw[HC.out,hkz,Option.any_some];rfl
       simp only[zq1.out,hv]at h;exact h)
      have oG:Old g wA:=⟨f5⟩;clear hsv hz hkz f5;obtain⟨zn,zA,zc,zp,zN⟩:=z;simp only at f1 f2 f3 HLC;generalize zp.length=zl at*
      go_region_held3 (fun w'=>w'.cell? ⟨g,j*3,none⟩=some (.int .i64 zn)/\w'.cell? ⟨g,j*3+1,none⟩=some (.slice zA zl zc)/\w'.cell? ⟨g,j*3+2,none⟩=some (.int .i64 zN)/\w'.cell? ⟨w5.heap.size,0,none⟩=some (.int .i64 ny)/\w'.cell? ⟨w5.heap.size,1,none⟩=some (.slice A5 pl c5)/\w'.cell? ⟨w5.heap.size,2,none⟩=some (.int .i64 1))
       ((simp only[zi wA];exact⟨f1,f2,f3,k0,k1,k2⟩))
       ((go_at_call 43;refine(HLC.out _ Zi).mono ?_;rintro e w6 ⟨rfl,hs6⟩))
      all_goals
       go_wp2_with fail
       go_meet
       exact⟨rfl,Zi⟩
     ·have HF:Hid (cont=false):=Zh (by rw[HC.out,getElem?_eq_none (by rw[HLK.out];omega)];rfl);go_quiet (fail)
      go_wp2_with fail
      go_meet
      exact⟨by rw[HF.out],Zi⟩
    case rest=>
     obtain⟨rfl,hxc⟩:=hcut;have hxCc:Ext wC wc:=hxz.trans hxc
     cases cont with
     |true=>
      obtain⟨d,hd,hdl⟩:∃d,(ZG m L k)[j]? =some d/\Zu d.1 (ny,pr):=by
       have h:=HC.out
       cases hh:(ZG m L k)[j]? with
       |none=>rw[hh]at h;cases h
       |some d=>rw[hh,Option.any_some]at h;exact⟨d,rfl,of_decide_eq_true h.symm⟩
      have hjl:j<q:=by have:=(Zg.1 hd).1;rw[HLK.out]at this;exact this
      have HP2:Hid (∀r d,r<j+1->(ZG m L k)[r]? =some d->Zu d.1 (ny,pr)):=Zh (fun r d' hr hd'=>by
       rcases Zl r j with h|h
       ·exact HP.out r d' h hd'
       ·obtain rfl:r=j:=by omega
        rw[hd]at hd';injection hd' with hd'
        rw[<-hd'];exact hdl)
      clear hd hdl;go_wp2_with fail
      exact⟨⟨j+1,by omega,by go_num,HP2,hxCc⟩,by simp[intOf];omega⟩
     |false=>
      have HNL:Hid (∀d,(ZG m L k)[j]? =some d->¬Zu d.1 (ny,pr)):=Zh (fun d hd hl=>by
       have h:=HC.out;rw[hd,Option.any_some,decide_eq_true hl]at h
       cases h)
      go_upto_region 14 with fail
      obtain⟨wB,hwB⟩:=Xz wc;rw[<-hwB]at hxCc|-
      clear hwB hxc k0 k1 k2 k3 oC;obtain⟨⟨k0,k1,k2⟩,k3⟩:=HKC.out wB hxCc;have oC:Old w5.heap.size wB:=⟨k3⟩;go_cut [78] (fun cv W=>cv= .bool hit/\Ext wB W)
      case first=>as_aux_lemma=>
       by_cases zsI:j<q
       ·obtain⟨z,hz⟩:∃z,C[j]? =some z:=⟨_,Ze (by rw[HSC.out.len];exact zsI)⟩;have hsv:=HSC.out.ext hxCc;obtain⟨g,rfl,f1,f2,f3,-,f5,-,hkz⟩:=hsv.at_ hz;have HLC:Hid (∀W,Ext wB W->Cq 43 #[.agg #[.int .i64 ny,.slice A5 pl c5,.int .i64 1],.agg #[.int .i64 z.n,.slice z.A z.p.length z.c,.int .i64 z.N]] W (zy W (.bool (!hit)))):=Zh (fun W e=>by
         have h:=zi8 (w0:=wB) (w:=W) (a:=1) (b:=z.N) (x:=⟨ny,A5,c5,pr,1⟩) (y:=z) (HX0.out.kp (Kp.of_ext hxCc)) (hsv.ok z (Zm hz)) (by simp only[zq1.out];omega) (hsv.ok z (Zm hz)).2;have hv:decide (Zu (ny,pr) (z.n,z.p))=!hit:=by
          rw[HH.out,hkz,Option.any_some];have hn:=HNL.out _ hkz;have hkk:z.key.1=(z.n,z.p):=rfl;rw[hkk]at hn|-
          by_cases he:(z.n,z.p)=(ny,pr)
          ·rw[decide_eq_true he,he,decide_eq_false (QL.irr _)];rfl
          ·rw[decide_eq_false he,decide_eq_true ((QL.tri he).resolve_left hn)];rfl
         simp only[zq1.out,hv]at h;exact h)
        have oG:Old g wB:=⟨f5⟩;clear hsv hz hkz f5;obtain⟨zn,zA,zc,zp,zN⟩:=z;simp only at f1 f2 f3 HLC;generalize zp.length=zl at*
        go_region_held3 (fun w'=>w'.cell? ⟨g,j*3,none⟩=some (.int .i64 zn)/\w'.cell? ⟨g,j*3+1,none⟩=some (.slice zA zl zc)/\w'.cell? ⟨g,j*3+2,none⟩=some (.int .i64 zN)/\w'.cell? ⟨w5.heap.size,0,none⟩=some (.int .i64 ny)/\w'.cell? ⟨w5.heap.size,1,none⟩=some (.slice A5 pl c5)/\w'.cell? ⟨w5.heap.size,2,none⟩=some (.int .i64 1))
         ((simp only[zi wB];exact⟨f1,f2,f3,k0,k1,k2⟩))
         ((go_at_call 43;refine(HLC.out _ Zi).mono ?_;rintro e w6 ⟨rfl,hs6⟩))
        all_goals
         go_wp2_with fail
         go_meet
         exact⟨by first|rfl|simp,Zi⟩
       ·have HF:Hid (hit=false):=Zh (by rw[HH.out,getElem?_eq_none (by rw[HLK.out];omega)];rfl);go_quiet (fail)
        go_wp2_with fail
        go_meet
        exact⟨by rw[HF.out],Zi⟩
      case rest=>
       obtain⟨rfl,hxd⟩:=hcut;obtain⟨wD,hwD⟩:=Xz wc;rw[<-hwD]at hxd|-
       clear hwD k0 k1 k2 k3 oC;have hxCD:Ext wC wD:=hxCc.trans hxd;have hsv:=HSC.out.ext hxCD;have HTA:=Zh (zeP (lt:=Zu) (ZG m L k) (ny,pr) j HP.out)
       cases hit with
       |true=>
        obtain⟨d,hd,hdl⟩:∃d,(ZG m L k)[j]? =some d/\d.1=(ny,pr):=by
         have h:=HH.out
         cases hh:(ZG m L k)[j]? with
         |none=>rw[hh]at h;cases h
         |some d=>rw[hh,Option.any_some]at h;exact⟨d,rfl,of_decide_eq_true h.symm⟩
        have hjl:j<q:=by have:=(Zg.1 hd).1;rw[HLK.out]at this;exact this
        obtain⟨z,hz⟩:∃z,C[j]? =some z:=⟨_,Ze (by rw[HSC.out.len];exact hjl)⟩;obtain⟨g,rfl,f1,f2,f3,f4,f5,-,hkz⟩:=hsv.at_ hz;obtain⟨hbp,hbl⟩:=hsv.bump hz;have hzp:=zqF m L k _ (Zm hkz);have hzN:z.key.2=z.N:=rfl;rw[hzN,HNN.out]at hzp;have hSB:(ZG m L k).set j (z.key.1,z.N+1)=ZG m L (k+1):=by
         rw[HSY.out];exact((HTA.out.2 _ hkz (HNL.out _ hkz)).1 (by rw[hd]at hkz;injection hkz with hkz;rw[<-hkz];exact hdl)).symm
        rw[hSB]at hbp;have HBP:=Zh hbp;have hx2D:Ext w2 (wD.setCell ⟨g,j*3+2,none⟩ (.int .i64 (z.N+1))):=⟨(hx2C.trans hxCD).below.trans hbl⟩;have hwz:IntKind.i64.wrap (z.N+1)=z.N+1:=Iw;have oG:Old g wD:=⟨f5⟩;clear hsv hbp hbl hzp hzN hSB hkz hd hdl f1 f2 f5 hz;generalize z.N=zN at*
        go_wp2_with fail
        exact⟨⟨k+1,q,c',_,_,by omega,by go_num,rfl,by omega,HBP,hx2D⟩,by simp[intOf];omega⟩
       |false=>
        have HTQ:Hid (ZG m L (k+1)=(ZG m L k).take j++((ny,pr),1)::(ZG m L k).drop j):=Zh (by
         rw[HSY.out];obtain⟨t1,t2⟩:=HTA.out
         cases hh:(ZG m L k)[j]? with
         |none=>
          have hkl:(ZG m L k).length=j:=by have:=List.getElem?_eq_none_iff.1 hh;rw[HLK.out]at this|-;omega
          rw[t1 hkl,List.take_of_length_le (by omega),List.drop_eq_nil_of_le (by omega)]
         |some z=>
          refine(t2 z hh (HNL.out z hh)).2 fun e=>?_
          have h:=HH.out;rw[hh,Option.any_some,decide_eq_true e]at h
          cases h)
        have HVT:Hid ((zK (C.take j)).length=j*3/\(zK (C.drop j)).length=(q-j)*3):=Zh (by
         rw[zaJ,zaJ,length_take,length_drop,HSC.out.len];exact⟨by omega,rfl⟩)
        have HAT:Hid (∀W,Ext wD W->Arr W A' 66 (zK (C.take j))):=Zh (fun W e=>by rw[zi5];exact(hsv.own.arr.ext e).takeC _);have zqW:Hid (∀(wE:World)(A9:Option Addr)(c9:Nat)(w9:World),Ext wD wE->Own w9 wE.heap.size 66 3 A9 (j+(1+(q-j))) c9 (zK (C.take j)++([.int .i64 ny,.slice A5 pl c5,.int .i64 1]++zK (C.drop j)))->Ext wE w9->SigV w9 w2.heap.size A9 (j+(1+(q-j))) c9 (C.take j++(⟨ny,A5,c5,pr,1⟩:CE)::C.drop j) (ZG m L (k+1))/\Ext w2 w9):=Zh (fun wE A9 c9 w9 e1 ho e2=>by
         have zxD:Ext w2 w9:=(hx2C.trans (hxCD.trans e1)).trans e2;have zxE:w2.heap.size<=wE.heap.size:=(hx2C.trans (hxCD.trans e1)).size;have hcf:zK (C.take j++(⟨ny,A5,c5,pr,1⟩:CE)::C.drop j)=zK (C.take j)++([.int .i64 ny,.slice A5 pl c5,.int .i64 1]++zK (C.drop j)):=by
          rw[zcF,show [.int .i64 ny,.slice A5 pl c5,.int .i64 1]=Jy (⟨ny,A5,c5,pr,1⟩:CE) by unfold Jy;simp only[zq1.out]];rfl
         refine⟨⟨by rw[hcf];exact ho.lower zxE,by rw[List.length_append,List.length_cons,length_take,length_drop,HSC.out.len];omega,fun z hz=>?_,?_⟩,zxD⟩
         ·have hk9:=Kp.of_ext (e1.trans e2);rcases List.mem_append.1 hz with hz|hz
          ·exact(hsv.ok z (List.mem_of_mem_take hz)).kp hk9
          ·rcases List.mem_cons.1 hz with rfl|hz
           ·exact HX0.out.kp ((Kp.of_ext hxCD).trans hk9)
           ·exact(hsv.ok z (List.mem_of_mem_drop hz)).kp hk9
         ·rw[HTQ.out,map_append,map_cons,List.map_take,List.map_drop,hsv.key];rfl)
        have hk8:q<=1000000:=by omega
        obtain⟨⟨k0,k1,k2⟩,k3⟩:=HKC.out wD hxCD;have oC:Old w5.heap.size wD:=⟨k3⟩;have HDR:=Zh hsv.own;have hCA:(A'=none/\q=0/\c'=0)∨∃g,A'=some ⟨g,0,none⟩:=by
         rcases hsv.own.2 with ⟨hv,hn⟩|⟨g,cap,cur,hv,-⟩
         ·injection hv with h1 h2 h3
          exact .inl ⟨h1,hn,h3⟩
         ·injection hv with h1 h2 h3
          exact .inr ⟨g,h1⟩
        clear hsv HTQ HTA HC HH HNL HSY HP hxCc hxd hxz;go_upto_region 16 with fail
        go_cut [19] (fun rv W=>∃(A6:Option Addr) (c6:Nat),rv= .slice A6 (1+(q-j)) c6/\Hid (Arr W A6 66 ([.int .i64 ny,.slice A5 pl c5,.int .i64 1]++zK (C.drop j)))/\Ext wD W)
        case first=>as_aux_lemma=>
         have zsf:=HDR.out.cap;rcases hCA with ⟨rfl,rfl,rfl⟩|⟨g,rfl⟩
         ·obtain rfl:j=0:=by omega
          have HAD:Hid (∀W,Ext wD W->Arr W none 66 (zK (C.drop 0))):=Zh (fun W e=>HDR.out.arr.ext e);have hce:zK (C.drop 0)=[]:=List.eq_nil_of_length_eq_zero (by simpa using HVT.out.2);go_region_law (fail)
          all_goals
           go_wp2_with fail
           go_meet
           exact⟨_,_,rfl,Zh (by rw[hce];exact(Arr.new wD 66 #[.int .i64 ny,.slice A5 pl c5,.int .i64 1]).ext Zi),Zi⟩
         ·by_cases hcc:c'=j
          ·have hjq:j=q:=by omega
           subst hcc;subst hjq;have HAD:Hid (∀W,Ext wD W->Arr W (some ⟨g,0,none⟩) 66 (zK (C.drop c'))):=Zh (fun W e=>by
            rw[List.drop_eq_nil_of_le (by rw[HSC.out.len];exact Zr)];exact Arr.nil)
           have hcj:c'-c'=0:=by omega
           go_region_law ((refine QB _ rfl (.tmp 88) (.tmp 91) 56 rfl wD.heap.size 66 (.agg #[.int .i64 0,.slice none 0 0,.int .i64 0]) 3 40 Tryz.underlying56 zbE rfl (by decide) (by decide) (some ⟨wD.heap.size,0,none⟩) 1 1 [.int .i64 ny,.slice A5 pl c5,.int .i64 1] (by simp[Act.eval]) (Own.new _ 66 3 1 #[.int .i64 ny,.slice A5 pl c5,.int .i64 1] rfl (by omega)) (some ⟨g,0,none⟩) (c'-c') (0) (zK (C.drop c')) (by simp[Act.eval]) (HAD.out _ Zi) HVT.out.2 (zeS _) (by omega) (by simp) ?_);intro A6 c6 w6 zsd hg6)
           all_goals
            have HO6:=Zh zsd.arr;have hx6:Ext wD w6:=hg6.ext Zi (by simp);clear zsd hg6;go_wp2_with fail
            go_meet
            exact⟨A6,c6,by rw[hcj],HO6,hx6⟩
          ·have HAD:Hid (∀W,Ext wD W->Arr W (some ⟨g,j*3,none⟩) 66 (zK (C.drop j))):=Zh (fun W e=>by
            have h:=(HDR.out.arr.drop (j*3)).ext e;rw[Nat.zero_add]at h;rw[zi6];exact h)
           go_region_law ((refine QB _ rfl (.tmp 88) (.tmp 91) 56 rfl wD.heap.size 66 (.agg #[.int .i64 0,.slice none 0 0,.int .i64 0]) 3 40 Tryz.underlying56 zbE rfl (by decide) (by decide) (some ⟨wD.heap.size,0,none⟩) 1 1 [.int .i64 ny,.slice A5 pl c5,.int .i64 1] (by simp[Act.eval]) (Own.new _ 66 3 1 #[.int .i64 ny,.slice A5 pl c5,.int .i64 1] rfl (by omega)) (some ⟨g,j*3,none⟩) (q-j) (c'-j) (zK (C.drop j)) (by simp[Act.eval]) (HAD.out _ Zi) HVT.out.2 (zeS _) (by omega) (by simp) ?_);intro A6 c6 w6 zsd hg6)
           all_goals
            have HO6:=Zh zsd.arr;have hx6:Ext wD w6:=hg6.ext Zi (by simp);clear zsd hg6;go_wp2_with fail
            go_meet
            exact⟨A6,c6,rfl,HO6,hx6⟩
        case rest=>
         obtain⟨A6,c6,rfl,HR6,hx6⟩:=hcut;obtain⟨wE,hwE⟩:=Xz wc;rw[<-hwE]at HR6 hx6|-
         clear hwE k0 k1 k2 k3 oC;have zsf:=HDR.out.cap;have HRL:Hid ((([.int .i64 ny,.slice A5 pl c5,.int .i64 1]:List Value)++zK (C.drop j)).length=(1+(q-j))*3):=Zh (by rw[List.length_append,HVT.out.2];simp;omega);have HR1:Hid (∀u∈(([.int .i64 ny,.slice A5 pl c5,.int .i64 1]:List Value)++zK (C.drop j)),u.oneCell'=true):=Zh (fun u hu=>by
          rcases List.mem_append.1 hu with hu|hu
          ·simp only[List.mem_cons,List.not_mem_nil,or_false]at hu;rcases hu with rfl|rfl|rfl<;>rfl
          ·exact zeS _ u hu)
         rcases hCA with ⟨rfl,rfl,rfl⟩|⟨g,rfl⟩
         ·obtain rfl:j=0:=by omega
          go_wp2_with (at_builtin;go_loud (refine zM _ rfl _ _ 56 rfl wE.heap.size 66 (.agg #[.int .i64 0,.slice none 0 0,.int .i64 0]) 3 40 Tryz.underlying56 zbE rfl (by omega) (by omega) none 0 0 [] rfl (Own.nil _ _ _ _) A6 (1+(0-0)) c6 _ rfl HR6.out HRL.out HR1.out (by omega) (by simp) ?_);intro A9 c9 w9 zr5 hg;have HF9:=Zh (zqW.out wE A9 c9 w9 hx6 zr5 (hg.ext (Ext.refl _) Zr));clear zr5 hg)
          exact⟨⟨k+1,_,c9,A9,_,by omega,by go_num,rfl,by omega,Zh HF9.out.1,HF9.out.2⟩,by simp[intOf];omega⟩
         ·go_wp2_with (at_builtin;go_loud (refine zj4 _ rfl _ _ 56 rfl 66 (.agg #[.int .i64 0,.slice none 0 0,.int .i64 0]) 3 40 Tryz.underlying56 zbE rfl (by omega) (by omega) g j (zK (C.take j)) rfl (HAT.out _ hx6) HVT.out.1 A6 (1+(q-j)) c6 _ rfl HR6.out HRL.out (by omega) (by omega) ?_);intro c9 w9 zr5 hx9;have HF9:=Zh (zqW.out wE _ c9 w9 hx6 zr5 hx9);clear zr5)
          exact⟨⟨k+1,_,c9,_,_,by omega,by go_num,rfl,by omega,Zh HF9.out.1,HF9.out.2⟩,by simp[intOf];omega⟩
  ·obtain rfl:k=N:=by omega
   have HFN:Hid (ZG m L k=qv Zu (L.map (zP m L))):=Zh (by unfold ZG;rw[List.take_of_length_le (by rw[HNN.out];exact Zr)]);go_wp2_with fail
   go_ret2
   obtain⟨h1,h2,h3,h4⟩:=HS.out;exact⟨A',c',C,L,by rw[h2];rfl,HPL.out,h1.arr,h3,h4.trans HFN.out,by rw[h2,HNN.out];exact hqk,(hx2.trans hxr).toStep⟩
end
end Go.Proofs.YtpcgfpmiphiacaaGreat
