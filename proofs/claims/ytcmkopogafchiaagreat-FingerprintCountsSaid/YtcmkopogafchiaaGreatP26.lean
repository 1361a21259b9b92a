/- R14a R14b R14c Prf15 -/
import Derived.Test.YtcmkopogafchiaaGreatP25
set_option maxHeartbeats 8000000
set_option linter.unusedVariables false
set_option linter.unusedSimpArgs false
set_option linter.constructorNameAsVariable false
namespace Go.Proofs.YtcmkopogafchiaaGreat
open Go.RowKit
variable {m:List (List Int)} {x:List Int} {b c d n:Nat} {A X:Option Addr} {w w0:World}
def JR (w:World) (ze:Nat) (p:List Ct) (e:Ending) (w':World):Prop:=
 ∃A c,e= .returned (.slice A p.length c)/\Own w' ze 45 3 A p.length c (zx p)/\Grow ze 45 w w'
set_option maxRecDepth 20000 in
theorem zp0 {ze len lc:Nat} {LA:Option Addr} {p:List Ct} {a b:Int} (hO:Own w ze 45 3 LA len lc (zx p)) (hbs:ze<=w.heap.size) (zrc:p.length=len) (hl:len<=1000000) (zrh:∀c∈p,0<=c.2/\c.2<=1000000):
  Calls Tryz.prog 66 #[.slice LA len lc,.int .i64 a,.int .i64 b] w (JR w ze (Zd ZT p (a,b))):=by
 have zrk:=hO.cap;have HCV:Hid (CtV w LA p):=Zh ⟨_,hO.arr⟩;have HO:=Zh hO;have HAR:=Zh hO.arr;have HPS:=Zh zrh;have HLN:=Zh zrc;have HTA:=Zh (ziD (lt:=ZT) p (a,b));clear hO zrh zrc;unfold JR;go_enter Tryz.func66,Tryz.ntmps66;go_wp2_with fail
 go_loopw [7] (fun i wr=>∃k:Nat,k<=len/\i= .int .i64 k/\Hid (∀j d,j<k->p[j]? =some d->ZT d.1 (a,b))/\Ext w wr) (fun i _=>len-(intOf i).toNat)
 case atStart=>exact ⟨0,by omega,rfl,Zh (fun j d hj=>absurd hj (by omega)),Zi⟩
 case round=>
  obtain ⟨k,hk,rfl,HP,hxr⟩:=hrel;obtain ⟨cont,zu1⟩:∃cont:Bool,cont=(p[k]?).any (fun d=>decide (ZT d.1 (a,b))):=⟨_,rfl⟩;obtain ⟨hit,zu2⟩:∃hit:Bool,hit=(p[k]?).any (fun d=>decide (d.1=(a,b))):=⟨_,rfl⟩;have HC:=Zh zu1;have HH:=Zh zu2;clear zu1 zu2;go_upto_region 2 with fail
  go_cut [22] (fun c W=>c= .bool cont/\Ext wr W)
  case first=>as_aux_lemma=>
   by_cases hlt:k<len
   ·obtain ⟨⟨⟨x1,x2⟩,x3⟩,hxx⟩:∃z,p[k]? =some z:=⟨_,Ze (by rw [HLN.out];exact hlt)⟩;obtain ⟨b1,o1,rfl,e1,e2,e3,e4⟩:=(HCV.out.ext hxr).at_ hxx;have hp3:=HPS.out _ (Zm hxx);simp only at e1 e2 e3 hp3;have HB:Hid (∀W,Calls Tryz.prog 57 #[.agg #[.int .i64 x1,.int .i64 x2,.int .i64 x3],.agg #[.int .i64 a,.int .i64 b,.int .i64 0]] W (zw W (.bool cont))):=Zh (fun W=>by
     have h:=zh3 (w:=W) ((x1,x2),x3) ((a,b),0);have zsn:decide (Zv ((x1,x2),x3) ((a,b),0))=cont:=by
      rw [HC.out,hxx,Option.any_some];unfold Zv ZT;simp only;congr 1
      simp only [eq_iff_iff];constructor
      ·rintro (h |⟨h,h' |⟨-,h'⟩⟩)
       ·exact .inl h
       ·exact .inr ⟨h,h'⟩
       ·omega
      ·rintro (h |⟨h,h'⟩)
       ·exact .inl h
       ·exact .inr ⟨h,.inl h'⟩
     rw [zsn] at h;exact h)
    clear hxx hp3;go_wp2_with (go_at_call 57;refine (HB.out _).mono ?_;rintro e w1 ⟨rfl,hs1⟩)
    go_meet
    exact ⟨rfl,Zi⟩
   ·have HF:Hid (cont=false):=Zh (by rw [HC.out,List.getElem?_eq_none (by rw [HLN.out];omega)];rfl);go_wp2_with fail
    go_meet
    exact ⟨by rw [HF.out],Zi⟩
  case rest=>
   obtain ⟨rfl,hxc⟩:=hcut;have hxw:Ext w wc:=hxr.trans hxc
   cases cont with
   |true=>
    obtain ⟨z,hz,hzl⟩:∃z,p[k]? =some z/\ZT z.1 (a,b):=by
     have h:=HC.out
     cases hh:p[k]? with
     |none=>rw [hh] at h;cases h
     |some z=>rw [hh,Option.any_some] at h;exact ⟨z,rfl,of_decide_eq_true h.symm⟩
    have hkl:k<len:=by have :=(Zg.1 hz).1;rw [HLN.out] at this;exact this
    have HP2:Hid (∀j d,j<k+1->p[j]? =some d->ZT d.1 (a,b)):=Zh (fun j d hj hd=>by
     rcases Zl j k with h |h
     ·exact HP.out j d h hd
     ·obtain rfl:j=k:=by omega
      rw [hz] at hd;injection hd with hd
      rw [<-hd];exact hzl)
    clear hz hzl;go_wp2_with fail
    exact ⟨⟨k+1,by omega,by go_num,HP2,hxw⟩,by simp [intOf];omega⟩
   |false=>
    have HNL:Hid (∀d,p[k]? =some d->¬ZT d.1 (a,b)):=Zh (fun d hd hl=>by
     have h:=HC.out;rw [hd,Option.any_some,decide_eq_true hl] at h
     cases h)
    go_upto_region 4 with fail
    obtain ⟨wA,hwA⟩:∃wA,wA=wc:=⟨_,rfl⟩;rw [<-hwA] at hxw |-
    clear hwA hxc;go_cut [46] (fun c W=>c= .bool hit/\W=wA)
    case first=>as_aux_lemma=>
     by_cases hlt:k<len
     ·obtain ⟨⟨⟨x1,x2⟩,x3⟩,hxx⟩:∃z,p[k]? =some z:=⟨_,Ze (by rw [HLN.out];exact hlt)⟩;obtain ⟨b1,o1,rfl,e1,e2,e3,e4⟩:=(HCV.out.ext hxw).at_ hxx;simp only at e1 e2 e3;have HV:Hid (hit=decide (x1=a/\x2=b)):=Zh (by rw [HH.out,hxx,Option.any_some];simp);clear hxx;by_cases h1:x1=a
      ·by_cases h2:x2=b
       ·have d1:(x1==a)=true:=by simp [h1]
        have d2:(x2==b)=true:=by simp [h2]
        have HVV:Hid (hit=true):=Zh (by rw [HV.out];simp [h1,h2]);clear h1 h2;go_wp2_with fail
        go_meet
        exact ⟨by rw [HVV.out],rfl⟩
       ·have d1:(x1==a)=true:=by simp [h1]
        have d2:(x2==b)=false:=by simp [h2]
        have HVV:Hid (hit=false):=Zh (by rw [HV.out];simp [h2]);clear h1 h2;go_wp2_with fail
        go_meet
        exact ⟨by rw [HVV.out],rfl⟩
      ·have d1:(x1==a)=false:=by simp [h1]
       have HVV:Hid (hit=false):=Zh (by rw [HV.out];simp [h1]);clear h1;go_wp2_with fail
       go_meet
       exact ⟨by rw [HVV.out],rfl⟩
     ·have HF:Hid (hit=false):=Zh (by rw [HH.out,List.getElem?_eq_none (by rw [HLN.out];omega)];rfl);go_wp2_with fail
      go_meet
      exact ⟨by rw [HF.out],rfl⟩
    case rest=>
     obtain ⟨rfl,hW⟩:=hcut;rw [hW];clear hW
     cases hit with
     |true=>
      obtain ⟨z,hz,hzl⟩:∃z,p[k]? =some z/\z.1=(a,b):=by
       have h:=HH.out
       cases hh:p[k]? with
       |none=>rw [hh] at h;cases h
       |some z=>rw [hh,Option.any_some] at h;exact ⟨z,rfl,of_decide_eq_true h.symm⟩
      have hkl:k<len:=by have :=(Zg.1 hz).1;rw [HLN.out] at this;exact this
      have HTQ:Hid (Zd ZT p (a,b)=p.set k (z.1,z.2+1)):=Zh (((HTA.out k HP.out).2 z hz (HNL.out z hz)).1 hzl);obtain ⟨g,cur,rfl,hbg,hgc,-,zsx,zr5⟩:=zpR (HO.out.ext hxw) (by omega);obtain ⟨-,-,f2⟩:=zcb p k z hz;have e2:wA.cell? ⟨g,k*3+2,none⟩=some (.int .i64 z.2):=by simpa [World.cell?,hgc] using zsx _ _ f2
      have e3:wA.frozen? ⟨g,k*3+2,none⟩=false:=by simp [World.frozen?,hgc]
      have hz2:=HPS.out z (Zm hz);have hwz:IntKind.i64.wrap (z.2+1)=z.2+1:=IntWalk.i64_in _ (by omega);have HS:Hid (Own (wA.setCell ⟨g,k*3+2,none⟩ (.int .i64 (z.2+1))) ze 45 3 (some ⟨g,0,none⟩) len lc (zx (p.set k (z.1,z.2+1)))):=Zh (by
       rw [ziE p k z _ hz];exact zr5 _ _ (by rw [qN,HLN.out];omega))
      have HG:Hid (Grow ze 45 w (wA.setCell ⟨g,k*3+2,none⟩ (.int .i64 (z.2+1)))):=Zh ((Grow.of_ext hxw hbs).andG (Grow.setAt hgc hbg _ _));have oG:Old g wA:=⟨zC hgc⟩;generalize z.2=zn at*
      clear hz hzl zr5 zsx f2 hgc;go_wp2_with fail
      go_ret;rw [HTQ.out,List.length_set,HLN.out];exact ⟨_,lc,rfl,HS.out,HG.out⟩
     |false=>
      have HTQ:Hid (Zd ZT p (a,b)=p.take k++((a,b),1)::p.drop k):=Zh (by
       obtain ⟨t1,t2⟩:=HTA.out k HP.out
       cases hh:p[k]? with
       |none=>
        have hkl:p.length=k:=by have :=List.getElem?_eq_none_iff.1 hh;rw [HLN.out] at this |-;omega
        rw [t1 hkl,List.take_of_length_le (by omega),List.drop_eq_nil_of_le (by omega)]
       |some z=>
        refine (t2 z hh (HNL.out z hh)).2 fun e=>?_
        have h:=HH.out;rw [hh,Option.any_some,decide_eq_true e] at h
        cases h)
      have HVT:Hid ((zx (p.take k)).length=k*3/\(zx (p.drop k)).length=(len-k)*3):=Zh (by
       rw [qN,qN,List.length_take,List.length_drop,HLN.out];exact ⟨by omega,rfl⟩)
      have HAT:Hid (∀W,Ext w W->Arr W LA 45 (zx (p.take k))):=Zh (fun W e=>by rw [zh6];exact (HAR.out.ext e).takeC _);have HAD:Hid (∀W,Ext w W->Arr W LA 45 (zx p)):=Zh (fun W e=>HAR.out.ext e);have hs0:w.heap.size<=wA.heap.size:=hxw.size;have HPL:Hid ((p.take k++((a,b),1)::p.drop k).length=k+1+(len-k)):=Zh (by rw [List.length_append,List.length_cons,List.length_take,List.length_drop,HLN.out];omega)
      have HPF:Hid (zx (p.take k++((a,b),1)::p.drop k)=zx (p.take k)++[.int .i64 a,.int .i64 b,.int .i64 1]++zx (p.drop k)):=Zh (by
       rw [zei,List.append_assoc];rfl)
      go_upto_region 8 with (at_builtin;go_loud (refine zH _ rfl _ _ 30 rfl wA.heap.size 45 (.agg #[.int .i64 0,.int .i64 0,.int .i64 0]) 3 24 Tryz.underlying30 zat rfl (by omega) (by omega) none 0 0 [] rfl (Own.nil _ _ _ _) LA k lc (zx (p.take k)) rfl (HAT.out _ (hxw.trans Zi)) HVT.out.1 (zce _) (by omega) (by simp) ?_);intro A7 c7 w7 zra hg;rw [Nat.zero_add,List.nil_append] at zra;rw [Nat.zero_add];have HO7:=Zh zra;have hx7:Ext wA w7:=hg.ext Zi (by simp);clear zra hg)
      go_upto_region 9 with (at_builtin;go_loud (refine zH _ rfl _ _ 30 rfl wA.heap.size 45 (.agg #[.int .i64 0,.int .i64 0,.int .i64 0]) 3 24 Tryz.underlying30 zat rfl (by omega) (by omega) A7 k c7 _ rfl (HO7.out.ext Zi) (some ⟨w7.heap.size,0,none⟩) 1 1 [.int .i64 a,.int .i64 b,.int .i64 1] rfl (Arr.new w7 45 #[.int .i64 a,.int .i64 b,.int .i64 1]) (by simp) (by simp [Value.oneCell']) (by omega) (by have :=hx7.size;simp;omega) ?_);intro A8 c8 w8 zra hg;have HO8:=Zh zra;have hx8:Ext wA w8:=hg.ext (hx7.trans Zi) Zr;clear zra hg)
      have ztV:wA.heap.size<=w8.heap.size:=hx8.size;have zu3:Ext w w8:=hxw.trans hx8;have zp8:Hid (∀(A9:Option Addr) (c9:Nat) (w9:World),Own w9 wA.heap.size 45 3 A9 (k+1+(len-k)) c9 (zx (p.take k)++[.int .i64 a,.int .i64 b,.int .i64 1]++zx (p.drop k))->Grow wA.heap.size 45 w8 w9->JR w ze (Zd ZT p (a,b)) (.returned (.slice A9 (k+1+(len-k)) c9)) w9):=Zh (fun A9 c9 w9 h1 h2=>by
       have hx9:Ext w w9:=hxw.trans (h2.ext hx8 Zr);unfold JR;rw [HTQ.out,HPL.out,HPF.out];exact ⟨A9,c9,rfl,h1.lower (by omega),Grow.of_ext hx9 hbs⟩)
      unfold JR at zp8;clear HTQ HPL HPF HC HH HNL hxr HCV HTA HPS;rcases (show (LA=none/\len=0/\lc=0)∨(∃g,LA=some ⟨g,0,none⟩) from by
       rcases HO.out.2 with ⟨hv,hn⟩ |⟨g,cap,cur,hv,-⟩
       ·injection hv with h1 h2 h3
        exact .inl ⟨h1,hn,h3⟩
       ·injection hv with h1 h2 h3
        exact .inr ⟨g,h1⟩) with ⟨rfl,rfl,rfl⟩ |⟨g,rfl⟩
      ·obtain rfl:k=0:=by omega
       go_wp2_with (at_builtin;go_loud (refine zH _ rfl _ _ 30 rfl wA.heap.size 45 (.agg #[.int .i64 0,.int .i64 0,.int .i64 0]) 3 24 Tryz.underlying30 zat rfl (by omega) (by omega) A8 (0+1) c8 _ rfl HO8.out _ (0-0) _ (zx (p.drop 0)) rfl (HAD.out _ zu3) HVT.out.2 (zce _) (by omega) ztV ?_);intro A9 c9 w9 zra hg;have HR9:=Zh (zp8.out _ _ _ zra hg);clear zra hg)
       go_ret;exact HR9.out
      ·by_cases hcc:lc=k
       ·have hkl:k=len:=by omega
        subst hcc;subst hkl;have HDN:Hid (zx (p.drop lc)=[]):=Zh (by rw [List.drop_eq_nil_of_le (by rw [HLN.out];exact Zr)];rfl);have hll:lc-lc=0:=by omega
        rw [hll] at zp8 HVT;have hdn:Arr w8 (some ⟨g,0,none⟩) 45 (zx (p.drop lc)):=by rw [HDN.out];exact Arr.nil
        go_wp2_with (at_builtin;go_loud (refine zH _ rfl _ _ 30 rfl wA.heap.size 45 (.agg #[.int .i64 0,.int .i64 0,.int .i64 0]) 3 24 Tryz.underlying30 zat rfl (by omega) (by omega) A8 (lc+1) c8 _ rfl HO8.out _ 0 _ (zx (p.drop lc)) rfl hdn HVT.out.2 (zce _) (by omega) ztV ?_);intro A9 c9 w9 zra hg;have HR9:=Zh (zp8.out _ _ _ zra hg);clear zra hg)
        go_ret;exact HR9.out
       ·have hdr:Arr w8 (some ⟨g,k*3,none⟩) 45 (zx (p.drop k)):=by
         have h:=(HAR.out.drop (k*3)).ext zu3;rw [Nat.zero_add] at h;rw [zh7];exact h
        go_wp2_with (at_builtin;go_loud (refine zH _ rfl _ _ 30 rfl wA.heap.size 45 (.agg #[.int .i64 0,.int .i64 0,.int .i64 0]) 3 24 Tryz.underlying30 zat rfl (by omega) (by omega) A8 (k+1) c8 _ rfl HO8.out _ (len-k) (lc-k) (zx (p.drop k)) rfl hdr HVT.out.2 (zce _) (by omega) ztV ?_);intro A9 c9 w9 zra hg;have HR9:=Zh (zp8.out _ _ _ zra hg);clear zra hg)
        go_ret;exact HR9.out
def zcl (w:World) (p:List Ct) (e:Ending) (w':World):Prop:=
 ∃A c,e= .returned (.tuple #[.slice A p.length c,.bool true])/\Arr w' A 45 (zx p)/\Step w w'
theorem zp1 (m L:List (List Int)) (x y:List Int):zE m (L++[y]) x=Zd ZT (zE m L x) (QF m x y):=by
 unfold zE;rw [List.map_append,List.map_cons,List.map_nil,zoP]
theorem zp2 (m L:List (List Int)) (x:List Int):∀c∈zE m L x,0<=c.2/\c.2<=L.length:=fun c hc=>by
 have h1:=((JN zbb (L.map (QF m x))).mem c).1 hc;have h2:=@List.count_le_length _ instBEqOfDecidableEq c.1 (L.map (QF m x));rw [List.length_map] at h2;omega
set_option maxRecDepth 20000 in
theorem zp3 {IA:Option Addr} {ic N:Nat} {L:List (List Int)} {vs:List Value} (hM:MatA w0 A m) (hL:LLLed m) (hmn:m.length=n) (hI:Arr w0 IA 47 vs) (hV:ItV w0 vs (L.map fun y=>(zg m y,y))) (hN:L.length=N) (hN6:N<=1000000) (hX:Ints w0 X 2 .i64 x) (hxl:x.length=n) (hxb:∀a∈x,-1099511627776<=a/\a<=1099511627776) (hlb:∀y∈L,y.length=n/\∀a∈y,-1099511627776<=a/\a<=1099511627776) (hib:JP m L x) [hx:Ext w0 w]:
  Calls Tryz.prog 38 #[.slice A n c,.slice IA N ic,.slice X n d] w (zcl w (zE m L x)):=by
 have HIN:Hid (∀W Y dy y,y∈L->Ints w0 Y 2 .i64 y->Ext w0 W->Calls Tryz.prog 23 #[.slice A n c,.slice X n d,.slice Y n dy] W (zw W (.tuple #[.int .i64 (zA (zN m y) x),.bool true]))):=Zh (fun W Y dy y hy hY e=>zpZ hM hL hmn hX hxl hxb hlb hib hy hY);have HE:Hid (∀(k:Nat) (y:List Int),L[k]? =some y->∃b o B cb,IA=some ⟨b,o,none⟩/\w0.cell? ⟨b,o+k*2,none⟩=some (.int .i64 (zg m y))/\w0.cell? ⟨b,o+k*2+1,none⟩=some (.slice B n cb)/\Ints w0 B 2 .i64 y/\b<w0.heap.size):=Zh (fun k y hy=>by
  obtain ⟨B,cb,a1,a2,a3,-⟩:=hV.2 k (zg m y,y) (by rw [List.getElem?_map,hy];rfl);obtain ⟨b,o,hA,h1,h2⟩:=hI.at_ a1;obtain ⟨b',o',hA',h1',-⟩:=hI.at_ a2;rw [hA] at hA';injection hA' with hA'
  injection hA' with z1 z2
  subst z1 z2;simp only [(hlb y (Zm hy)).1] at h1';exact ⟨b,o,B,cb,hA,h1,by rw [Nat.add_assoc];exact h1',a3,h2⟩)
 have HNB:Hid (∀y∈L,-4611686018427387904<=zA (zN m y) x/\zA (zN m y) x<=4611686018427387904):=Zh hib;have HN:=Zh hN;have HPS:Hid (∀k,(∀c∈zE m (L.take k) x,0<=c.2/\c.2<=1000000)/\(zE m (L.take k) x).length<=1000000):=Zh (fun k=>by
  have h0:(L.take k).length<=N:=by rw [List.length_take];omega
  refine ⟨fun c hc=>?_,?_⟩
  ·have :=zp2 m (L.take k) x c hc;omega
  ·have :=zbg m (L.take k) x;omega)
 have HST:Hid (∀(k:Nat) (y:List Int),L[k]? =some y->zE m (L.take (k+1)) x=Zd ZT (zE m (L.take k) x) (zg m y,(((zA (zN m y) x).natAbs:Nat):Int))):=Zh (fun k y hy=>by
  rw [List.take_add_one,hy];exact zp1 m (L.take k) x y)
 clear hM hL hmn hI hV hN hX hxl hxb hlb hib;unfold zcl;go_enter Tryz.func38,Tryz.ntmps38;go_wp2_with fail
 go_loopw [8,10,11,12,15] (fun out _ _ _ i wr=>∃(k q:Nat) (A1:Option Addr) (c1:Nat),k<=N/\i= .int .i64 k/\out= .slice A1 q c1/\Hid ((zE m (L.take k) x).length=q)/\Hid (Own wr w.heap.size 45 3 A1 q c1 (zx (zE m (L.take k) x)))/\Ext w wr) (fun _ _ _ _ i _=>N-(intOf i).toNat)
 case atStart=>exact ⟨0,0,none,0,by omega,rfl,rfl,Zh rfl,Zh (Own.nil _ _ _ _),Zi⟩
 case round=>
  obtain ⟨k,q,A1,c1,hk,rfl,rfl,HQ,HO,hxr⟩:=hrel;have zrW:Ext w0 wr:=hx.trans hxr;by_cases hlt:k<N
  ·obtain ⟨y,hy⟩:∃y,L[k]? =some y:=⟨_,Ze (by rw [HN.out];exact hlt)⟩;obtain ⟨b,o,B,cb,rfl,z1,z2,hI,z3⟩:=HE.out k y hy;have hnb:=HNB.out y (Zm hy);have hIN:=fun W (e:Ext w0 W)=>HIN.out W B cb y (Zm hy) hI e
   have hST:=HST.out k y hy;have oB:Old b w0:=⟨z3⟩;have e1:wr.cell? ⟨b,o+k*2,none⟩=some (.int .i64 (zg m y)):=(zh w0).trans z1;have e2:wr.cell? ⟨b,o+k*2+1,none⟩=some (.slice B n cb):=(zh w0).trans z2;have oBr:Old b wr:=⟨Nat.lt_of_lt_of_le z3 zrW.size⟩;generalize zg m y=ny at*
   generalize zA (zN m y) x=v at*
   have HIY:=Zh hIN;have HSY:=Zh hST;obtain ⟨av,hav⟩:∃av,((v.natAbs:Nat):Int)=av:=⟨_,rfl⟩;have hwv:IntKind.i64.wrap (-v)=-v:=IntWalk.i64_in _ (by omega);have hmx:max v (-v)=av:=by omega
   have HTL:Hid (∀W,Ext w W->Own W w.heap.size 45 3 A1 q c1 (zx (zE m (L.take k) x))->Calls Tryz.prog 66 #[.slice A1 q c1,.int .i64 ny,.int .i64 av] W (JR W w.heap.size (zE m (L.take (k+1)) x))):=Zh (fun W e hO=>by
    have h:=zp0 (a:=ny) (b:=av) hO e.size HQ.out (by have :=(HPS.out k).2;rw [HQ.out] at this;exact this) (HPS.out k).1;rw [HSY.out,hav];exact h)
   unfold JR at HTL;clear hIN hST hav hy z1 z2 hI HST HE HIN;go_upto_region 6 with (go_at_call 23;refine (HIY.out _ Zi).mono ?_;rintro e w5 ⟨rfl,hs5⟩;have hb5:=(Zi:BlkAt wr.heap.size #[.int .i64 ny,.slice B n cb] 47 w5).eq;obtain ⟨t1,t2,-,-,t5⟩:=zK hb5;clear hb5)
   have oY:Old wr.heap.size w5:=⟨t5⟩;have hx5:Ext wr w5:=Zi;go_wp2_with (go_at_call 66;refine (HTL.out _ (hxr.trans Zi) (HO.out.ext Zi)).mono ?_;rintro e w6 ⟨A6,c6,rfl,hO6,hG6⟩;have HO6:=Zh hO6;have hx6:Ext w w6:=hG6.ext (hxr.trans Zi) Zr;clear hO6 hG6)
   exact ⟨⟨k+1,_,A6,c6,by omega,by go_num,rfl,Zh rfl,HO6,hx6⟩,by simp [intOf];omega⟩
  ·obtain rfl:k=N:=by omega
   have HF:Hid (L.take k=L):=Zh (List.take_of_length_le (by rw [HN.out];exact Zr));go_wp2_with fail
   go_ret2
   have h1:=HO.out;have h2:=HQ.out;rw [HF.out] at h1 h2;exact ⟨A1,c1,by rw [h2];rfl,h1.arr,hxr.toStep⟩
def zau (W:World) (m:List (List Int)) (b:Nat) (x:List Int) (e:Ending) (w':World):Prop:=∃B k L,e= .returned (.tuple #[.slice B (zE m L x).length k,.int .i64 0])/\VecList m b false L/\L.length<=8000/\CtV w' B (zE m L x)/\Step W w'
theorem zp4 {W:World} (hM:Mat64 W A m) (hc:n<=c) (hc2:c<=9223372036854775807) (hL:LLLed m) (hmn:m.length=n) (h4:n<=4) (hb:b+2*n<=12) (hX:Ints W X 2 .i64 x) (hxl:x.length=n) (hx8:∀y∈x,-128<=y/\y<=128):
  Calls Tryz.prog 15 #[.slice A n c,.int .i64 b,.int .i64 20000,.slice X n d] W (zau W m b x):=by
 subst hmn;have hr:=hL.red;have hR:=zbN hr;have hO:=qg hr;have hnn:=Ja hO x hxl;have hn8:=ziH hr hxl hx8;have h:=zik (w0:=W) (w:=W) (c:=c) (d:=d) (b:=b) (u:=20000) (P:=fun L=>VecList m b false L/\L.length<=8000) hM.a hc hc2 hR hX hxl (fun y hy=>by have :=hx8 y hy;omega) (decide_eq_true (by omega)) (fun W' e=>?_) (fun L hL=>⟨zpV hO (by omega) hL.1 (by omega),ziG hO (by omega) hL.1 hxl hn8⟩)
 ·rw [hxl] at h;exact h.mono fun e w' ⟨B,k,L,he,hL,hO,hs⟩=>⟨B,k,L,he,hL.1,hL.2,⟨_,hO.arr⟩,hs⟩
 ·have ztn:=zcj hr (b:=b) h4 (.inl hb);exact (zpF (w0:=W') (w:=W') (c:=c) (b:=b) (budget:=20000) (hM.ext e) hc hc2 hr h4 (.inl hb) (by omega) (by omega)).mono fun e w' ⟨B,d,L,he,hM,h1,h2,hv,hl,hs⟩=>⟨B,d,L,_,he,hM,h1,h2,⟨hv,hl⟩,hs⟩
set_option maxRecDepth 20000 in
theorem zp5 (hM:Mat64 w0 A m) (hL:LLLed m) (hmn:m.length=n) (h4:n<=4) (hb:b+2*n<=12) (hX:Ints w0 X 2 .i64 x) (hxl:x.length=n) (hx8:∀y∈x,-128<=y/\y<=128) [hx:Ext w0 w]:
  Calls Tryz.prog 16 #[.slice A n c,.int .i64 b,.int .i64 20000,.slice X n d] w (zau w m b x):=by
 have hr:=hL.red;have hO:=qg hr;have ztn:=zcj hr (b:=b) (by omega) (.inl (by omega));have hst:=(zaX hr (b:=b) (by omega)).1;have zrA:=hst.last_le (by have :=hL.len1;omega);have HVE:Hid (∀W,Ext w0 W->Calls Tryz.prog 25 #[.slice A n c,.int .i64 b,.int .i64 20000] W (fun e w'=>(∃B d q,e= .returned (.tuple #[B,d,.int .i64 0])/\q=w'/\Step W w'))):=Zh (fun W e=>by
  refine (zoO (w:=W) (c:=c) (budget:=20000) hM.a hL hmn (by omega) (by omega) (by omega) (by omega) (fun _=>by omega)).mono ?_;rintro e w' (⟨-,B,d,L,he,-,-,-,-,hs⟩ |⟨zrE,-⟩)
  ·exact ⟨_,_,_,he,rfl,hs⟩
  ·omega)
 have hnn:=Ja hO x (by omega);have hn8:=ziH hr (ys:=x) (by omega) hx8;have HIT:=Zh (fun W (e:Ext w0 W)=>zpY (w:=W) (c:=c) (b:=b) hM hL hmn h4 hb);have HPR:Hid (∀(W0 W:World) IA ic vs L,Ext w0 W0->VecList m b false L->L.length<=8000->Arr W0 IA 47 vs->ItV W0 vs (L.map fun y=>(zg m y,y))->Ext W0 W->Calls Tryz.prog 38 #[.slice A n c,.slice IA L.length ic,.slice X n d] W (zcl W (zE m L x))):=Zh (fun W0 W IA ic vs L e0 hvl hL8 h1 h2 e=>
  zp3 (w0:=W0) (w:=W) (c:=c) (ic:=ic) (d:=d) (hM.ext e0).a hL hmn h1 h2 rfl (by omega) (hX.ext e0) hxl (fun a ha=>by have :=hx8 a ha;omega) (by rw [<-hmn];exact zpX hO (by omega) hvl) (ziG hO (by omega) hvl (by omega) hn8))
 have HNO:Hid (∀W,Ext w0 W->Calls Tryz.prog 39 #[.slice A n c,.slice X n d] W (zw W (.tuple #[.int .i64 (zg m x),.bool true]))):=Zh (fun W e=>by
  have h:=zn0 (w0:=w0) (w1:=w0) (w:=W) (c:=c) (d:=d) hM.a hL hX (by omega) (fun a ha=>by have :=hx8 a ha;omega) hn8;rwa [hmn] at h)
 unfold ziI at HIT;unfold zcl at HPR;clear hr hO ztn hst zrA hM hL hX hnn hn8;unfold zau;generalize zg m x=nx at*
 go_enter Tryz.func16,Tryz.ntmps16;go_wp2_with (first
  |(go_at_call 25;refine (HVE.out _ Zi).mono ?_;rintro e w1 ⟨B1,d1,q1,rfl,-,hs1⟩)
  |(go_at_call 22;refine (HIT.out _ Zi).mono ?_;rintro e w2 ⟨IA,ic,vs,L,rfl,hA2,hV2,hvl,hL8,hs2⟩;have HPC:=Zh (fun W (e:Ext w2 W)=>HPR.out w2 W IA ic vs L Zi hvl hL8 hA2 hV2 e);have HVL:=Zh (And.intro hvl hL8);clear hvl hL8 hA2 hV2)
  |(go_at_call 38;refine (HPC.out _ Zi).mono ?_;rintro e w3 ⟨A3,c3,rfl,hA3,hs3⟩;have HA3:=Zh hA3;clear hA3)
  |(go_at_call 39;refine (HNO.out _ Zi).mono ?_;rintro e w4 ⟨rfl,hs4⟩))
 go_ret2
 exact ⟨A3,c3,L,rfl,HVL.out.1,HVL.out.2,⟨_,HA3.out.ext Zi⟩,Step.of _ _⟩
set_option maxRecDepth 20000 in
theorem zp6 {dim kind za:Int} {NA:Option Addr} {l:List Int} {nc:Nat} {v3:Value} {te:TypeId} (hN:Ints w NA te .i8 l) (h8:I8 l) (hl:l.length<=9223372036854775807) (hd0:0<=dim) (hd1:dim<256) (hk0:0<=kind) (hk1:kind<256) (hb0:0<=za) (hb1:za<256) {te2:TypeId} {A2:Option Addr} {l2:List Int} {c2:Nat} (hI:Ints w A2 te2 .i8 l2) (h82:I8 l2) (hl2:l2.length<=9223372036854775807):
  Calls Tryz.prog 3 #[.agg #[.int .u8 dim,.int .u8 kind,.slice NA l.length nc,v3],.int .u8 za,.slice A2 l2.length c2] w (zw w (.bool true)):=by
 have HAW:Hid (∀W,Calls Tryz.prog 18 #[] W (zw W (.bool true))):=Zh (fun W=>zpQ);have HG:Hid (∀W,Ext w W->Calls Tryz.prog 13 #[.agg #[.int .u8 dim,.int .u8 kind,.slice NA l.length nc,v3],.int .u8 za] W (zet W (1+(dim%4).toNat) za)):=Zh (fun W e=>zpW (hN.ext e) h8 hl hd0 hd1 hk0 hk1 hb0 hb1);have hn1:1<=1+(dim%4).toNat:=by omega
 have hn4:1+(dim%4).toNat<=4:=by omega
 have HVC:=Zh (fun W (e:Ext w W)=>znu (w:=W) (c:=c2) (n:=1+(dim%4).toNat) (hI.ext e) h82 hl2 (by omega));have HV8:Hid (∀y∈Qf l2 (1+(dim%4).toNat),-128<=y/\y<=128):=Zh (fun y hy=>by
  obtain ⟨i,-,rfl⟩:=List.mem_map.1 hy;have :=h82.get i;omega)
 have HVL:Hid ((Qf l2 (1+(dim%4).toNat)).length=1+(dim%4).toNat):=Zh (by simp [Qf]);clear hN h8 hI h82;generalize 1+(dim%4).toNat=n at*
 generalize Qf l2 n=x at*
 generalize l2.length=l2n at*
 generalize l.length=ln at*
 have e6:=Int.emod_nonneg za (show 11-2*(n:Int)≠0 by omega);have e7:=Int.emod_lt_of_pos za (show 0<11-2*(n:Int) by omega);unfold zet at HG;unfold zdU at HVC;obtain ⟨b,hb⟩:∃b:Nat,za%(11-2*(n:Int))=b:=⟨(za%(11-2*(n:Int))).toNat,by omega⟩;rw [hb] at HG e6 e7;have ztm:b+2*n<=12:=by omega
 have HFP:Hid (∀(m:List (List Int)) (W0 W:World) A X c d,LLLed m->m.length=n->Mat64 W0 A m->n<=c->c<=9223372036854775807->Ints W X 2 .i64 x->Ext W0 W->Calls Tryz.prog 15 #[.slice A n c,.int .i64 b,.int .i64 20000,.slice X n d] W (zau W m b x)):=Zh (fun m W0 W A X c d hL hmn hM h1 h2 hX e=>zp4 (hM.ext e) h1 h2 hL hmn hn4 ztm hX HVL.out HV8.out);have HRP:Hid (∀(m:List (List Int)) (W0 W:World) A X c d,LLLed m->m.length=n->Mat64 W0 A m->Ints W X 2 .i64 x->Ext W0 W->Calls Tryz.prog 16 #[.slice A n c,.int .i64 b,.int .i64 20000,.slice X n d] W (zau W m b x)):=Zh (fun m W0 W A X c d hL hmn hM hX e=>zp5 (w0:=W) (hM.ext e) hL hmn hn4 ztm hX HVL.out HV8.out)
 unfold zau at HFP HRP;clear hb e6 e7 ztm;go_enter Tryz.func3,Tryz.ntmps3;go_upto_region 3 with (first
  |(go_at_call 13;refine (HG.out _ Zi).mono ?_;rintro e w1 ⟨g,m,A1,c1,rfl,-,hLL,zrc,-,hM1,hc1,hc2,hs1⟩;have HM:=Zh hM1;have HR:=Zh (And.intro hLL zrc);clear hM1 hLL zrc)
  |(go_at_call 14;refine (HVC.out _ Zi).mono ?_;rintro e w2 ⟨g2,rfl,-,hR2,hs2⟩;have HX:=Zh hR2.ints;clear hR2))
 go_wp2_with (first
  |(go_at_call 15;refine (HFP.out m w1 _ _ _ _ _ HR.out.1 HR.out.2 HM.out hc1 hc2 (HX.out.ext Zi) Zi).mono ?_;rintro e w3 ⟨B3,k3,L3,rfl,hL3,hl3,hC3,hs3⟩;have HC3:=Zh hC3;have HL3:=Zh hL3;clear hC3 hL3)
  |(go_at_call 16;refine (HRP.out m w1 _ _ _ _ _ HR.out.1 HR.out.2 HM.out (HX.out.ext Zi) Zi).mono ?_;rintro e w4 ⟨B4,k4,L4,rfl,hL4,hl4,hC4,hs4⟩;obtain rfl:=VecList.unique HL3.out hL4;have HC4:=Zh hC4;have hpl:(zE m L3 x).length<=8000:=(by have :=zbg m L3 x;omega);have HSP:Hid (∀W,Ext w4 W->Calls Tryz.prog 17 #[.slice B3 (zE m L3 x).length k3,.slice B4 (zE m L3 x).length k4] W (zw W (.bool true))):=Zh (fun W e=>(by have h:=zh5 (w0:=w4) (w:=W) (c:=k3) (d:=k4) (HC3.out.ext Zi) HC4.out (by omega) (by omega);rw [decide_eq_true rfl] at h;exact h));clear hC4 hL4)
  |(go_at_call 17;refine (HSP.out _ Zi).mono ?_;rintro e w5 ⟨rfl,hs5⟩)
  |(go_at_call 18;refine (HAW.out _).mono ?_;rintro e w6 ⟨rfl,hs6⟩))
 go_ret;exact ⟨rfl,Step.of _ _⟩
end Go.Proofs.YtcmkopogafchiaaGreat
