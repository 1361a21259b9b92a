/- R09a R09b R10a Tr18 Sm12 Prov12 Fr2 -/
import Derived.Test.YtjehjkipcaohpaaGreatT22
import Derived.Test.YtjehjkipcaohpaaGreatT18
set_option maxHeartbeats 8000000
set_option linter.unusedVariables false
set_option linter.unusedSimpArgs false
set_option linter.constructorNameAsVariable false
namespace Go.Proofs.YtjehjkipcaohpaaGreat
section
open Go.RowKit
open La
theorem znZ {w0 w:World} {A:Option Addr} {c:Nat} {x:List Int} (h:Ints w0 A 2 .i64 x) (h1:x.length<=1099511627776) (hb:∀a∈x,-1099511627776<=a/\a<=1099511627776) [hx:Ext w0 w]:
  Calls Tryz.prog 60 #[.slice A x.length c] w (Zw w (.bool true)):=by
 have h0:=h.ext hx;have HB:=Zh hb;clear hb h;go_enter Tryz.func60,Tryz.ntmps60;go_wp2;go_loop [4,7] (fun _ i=>∃k:Nat,k<=x.length/\i= .int .i64 k) (fun _ i=>x.length-(intOf i).toNat)
 case atStart=>exact ⟨0,by omega,rfl⟩
 case round=>
  obtain ⟨k,hk,rfl⟩:=hrel;by_cases hlt:k<x.length
  ·obtain ⟨b1,o1,a,rfl,ha,g1,g2⟩:=h0.at_ hlt;have hab:=HB.out a (Zm ha);have d1:decide (a< -1099511627776)=false:=by simp;omega
   have d2:decide (1099511627776<a)=false:=by simp;omega
   clear ha;go_wp2;exact ⟨⟨k+1,by omega,by go_num⟩,by simp [intOf];omega⟩
  ·go_wp2;go_ret;exact ⟨rfl,rfl⟩
theorem LLLed.fits {m:List (List Int)} (h:LLLed m):qr m:=(ZF h.red).form.fits
theorem zn0 {z:Int} (h1:-262144<=z) (h2:z<=262144):Bd 199 z:=by
 unfold Bd;have :z.natAbs<=262144:=by omega
 exact Nat.lt_of_le_of_lt this (by decide)
theorem LLLed.bd {m:List (List Int)} (h:LLLed m):BdM 199 m:=fun i j=>by
 by_cases hi:i<m.length
 ·by_cases hj:j<m.length
  ·have hr:m[i]? =some m[i]:=Ze hi;have hl:m[i].length=m.length:=h.all _ (List.getElem_mem hi);have he:ent m i j=m[i][j]'(by omega):=Jf hr (Ze (by omega));have :=(zgd h.red).ent m[i] (List.getElem_mem hi) (m[i][j]'(by omega)) (List.getElem_mem _);rw [he];exact zn0 this.1 this.2
  ·rw [qp h.all (.inr (by omega))];exact Bd.zero _
 ·rw [qp h.all (.inl (by omega))];exact Bd.zero _
def zbR (w:World) (zs:List Int) (e:Ending) (w':World):Prop:=∃B d,e= .returned (.slice B zs.length d)/\IntsV w' B zs/\zs.length<=d/\d<=9223372036854775807/\Step w w'
theorem zhu {w0 w:World} {A:Option Addr} {c:Nat} {x:List Int} (h:Ints w0 A 2 .i64 x) (h1:x.length<=1000) (hb:∀a∈x,-9223372036854775808<=a/\a<=9223372036854775807) [hx:Ext w0 w]:
  Calls Tryz.prog 162 #[.slice A x.length c] w (zbR w x):=by
 have h0:=h.ext hx;have HB:=Zh hb;obtain ⟨n,hn⟩:∃n,n=x.length:=⟨_,rfl⟩;unfold zbR;rw [<-hn] at h1 |-
 have HL:=Zh hn;clear hb h hn;go_enter Tryz.func162,Tryz.ntmps162;go_wp2;go_loopw [3,5,8] (fun s3 _ i wr=>∃(q:Nat) (A1:Option Addr) (c1:Nat) (vs:List Value),q<=n/\i= .int .i64 q/\s3= .slice A1 q c1/\Hid (Own wr w.heap.size 148 2 A1 q c1 vs)/\Hid (VsOf wr vs (x.take q))/\Ext w wr) (fun _ _ i _=>n-(intOf i).toNat)
 case atStart=>exact ⟨0,none,0,[],by omega,rfl,rfl,Zh (Own.nil _ _ _ _),Zh (fun i z hz=>by simp at hz),Zi⟩
 case round=>
  obtain ⟨q,A1,c1,vs,hq,rfl,rfl,HO,HV,hxr⟩:=hrel;by_cases hlt:q<n
  ·have hlx:q<x.length:=by rw [<-HL.out];exact hlt
   obtain ⟨b1,o1,a,rfl,ha,g1,g2⟩:=(h0.ext hxr).at_ hlx;have hab:=HB.out a (Zm ha);have hae:Hid (x.getD q 0=a):=Zh (by simp [List.getD,ha]);have HS:=Zh (fun W=>qF a hab.1 hab.2 W);clear ha;go_wp2_with fail
   refine (HS.out _).mono ?_;rintro e w5 ⟨g5,B5,k5,d5,rfl,hz5,hs5⟩;have hx5:Ext wr w5:=Zi;have HZ5:=Zh hz5;clear hz5;go_wp2_with (at_builtin;refine zI _ rfl _ _ 87 rfl w.heap.size 148 (.agg #[.bool false,.slice none 0 0]) 2 32 Tryz.underlying87 QO rfl (by omega) (by omega) A1 q c1 vs rfl (HO.out.ext Zi) (some ⟨w5.heap.size,0,none⟩) 1 1 [.bool g5,.slice B5 k5 d5] rfl (Arr.new w5 148 #[.bool g5,.slice B5 k5 d5]) rfl (zbI _ _ _ _) (by omega) (by have :=(hxr.trans hx5).size;simp;omega) ?_;intro A6 c6 w6 zp7 hg;have HO6:=Zh zp7;have HG6:=Zh hg;have hx6:Ext w w6:=hg.ext Zi Zr;clear zp7 hg)
   refine ⟨⟨q+1,A6,c6,vs++[.bool g5,.slice B5 k5 d5],by omega,by go_num,rfl,HO6,Zh ?_,hx6⟩,by simp [intOf]<;>omega⟩;have hxa:Ext w5 (w5.alloc (.cells #[.bool g5,.slice B5 k5 d5] 148)):=Zi;have hv5:VsOf (w5.alloc (.cells #[.bool g5,.slice B5 k5 d5] 148)) (vs++[.bool g5,.slice B5 k5 d5]) (x.take q++[x.getD q 0]):=VsOf.snoc (HV.out.map fun hz=>(hz.ext hx5).ext hxa) (by rw [HO.out.len,List.length_take,<-HL.out,Nat.min_eq_left hq]) (by rw [hae.out];exact HZ5.out.ext hxa)
   rw [J2 (by rw [<-HL.out];exact hlt)];exact hv5.grow HG6.out (by decide)
  ·obtain rfl:q=n:=by omega
   go_wp2;go_ret;have h2:=HV.out;rw [List.take_of_length_le (by rw [<-HL.out];exact Zr)] at h2;exact ⟨A1,c1,rfl,h2.intsV (by rw [HO.out.len,<-HL.out]) HO.out.arr (Ext.refl _),HO.out.cap.1,HO.out.cap.2,hxr.toStep⟩
def Z8 (m:List (List Int)) (n:Nat) (x:List Int):List Int:=m.map fun r=>zD n fun i=>r.getD i 0*x.getD i 0
theorem zdN (m:List (List Int)) (n:Nat) (x:List Int):(Z8 m n x).length=m.length:=by simp [Z8]
theorem zdO {m:List (List Int)} {n i:Nat} {x r:List Int} (hr:m[i]? =some r):(Z8 m n x).getD i 0=zD n fun j=>r.getD j 0*x.getD j 0:=by
 simp [Z8,List.getD,hr]
theorem zn1 {w0 w1 w:World} {A B:Option Addr} {c d n k:Nat} {m:List (List Int)} {x:List Int} (hM:MatV w0 A m) (hX:IntsV w1 B x) (h1:1<=m.length) (h2:m.length<=16) (h3:1<=n) (h4:n<=16) (hn:AllLen m n) (hxl:x.length=n) (hk:k<=1000000000000) (hbm:∀i j,Bd k (ent m i j)) (hbx:QG k x) [hx:Ext w0 w] [hy:Ext w1 w]:
  Calls Tryz.prog 161 #[.slice A m.length c,.slice B n d] w (zaT w (Z8 m n x)):=by
 have h0:=hM.ext hx;have hX0:=hX.ext hy;have HSH:=Zh (fun W (e:Ext w W)=>zaR (w:=W) (c:=c) h0 n h1 h2 h3 h4 hn);have HDT:Hid (∀(W0 W:World) (A1:Option Addr) (c1 i:Nat) (r:List Int),m[i]? =some r->IntsV W0 A1 r->Ext W0 W->Ext w W->Calls Tryz.prog 163 #[.slice A1 n c1,.slice B n d] W (zx W ((Z8 m n x).getD i 0))):=Zh (fun W0 W A1 c1 i r hr hI e1 e2=>by
  have hrl:r.length=n:=hn r (Zm hr);rw [zdO hr];refine zbE hI hX0 hrl hxl h4 hk (fun j=>?_) hbx;have :=hbm i j;unfold ent at this;simp only [List.getD,hr,Option.getD_some] at this;exact this)
 have HAL:Hid (∀(i:Nat) (r:List Int),m[i]? =some r->r.length=n):=Zh (fun i r hr=>hn r (Zm hr));have HAR:Hid ((Z8 m n x).length=m.length):=Zh (zdN m n x);unfold zaT;obtain ⟨Z,hZ⟩:∃Z,Z=Z8 m n x:=⟨_,rfl⟩;rw [<-hZ] at HDT HAR |-
 obtain ⟨zb,hrw⟩:∃zb,zb=m.length:=⟨_,rfl⟩;rw [<-hrw] at HSH HAR h1 h2 |-
 have HRW:=Zh hrw;clear hn hM hX hX0 hxl hbm hbx hZ hrw;go_enter Tryz.func161,Tryz.ntmps161;go_wp2_with (go_at_call 156;refine (HSH.out _ Zi).mono ?_;rintro e w2 ⟨rfl,hs2⟩)
 have zqO:Ext w w2:=Zi;go_loopw [9,11,28] (fun s9 _ i wr=>∃(q:Nat) (A1:Option Addr) (c1:Nat) (vs:List Value),q<=zb/\i= .int .i64 q/\s9= .slice A1 q c1/\Hid (Own wr w2.heap.size 148 2 A1 q c1 vs)/\Hid (VsOf wr vs (Z.take q))/\Ext w2 wr) (fun _ _ i _=>zb-(intOf i).toNat)
 case atStart=>exact ⟨0,none,0,[],by omega,rfl,rfl,Zh (Own.nil _ _ _ _),Zh (fun i z hz=>by simp at hz),Zi⟩
 case round=>
  obtain ⟨q,A1,c1,vs,hq,rfl,rfl,HO,HV,hxr⟩:=hrel;have zqx:Ext w wr:=zqO.trans hxr;by_cases hlt:q<zb
  ·obtain ⟨r,hr⟩:∃r,m[q]? =some r:=⟨_,Ze (by rw [<-HRW.out];exact hlt)⟩;have hrl:=HAL.out q r hr;obtain ⟨b1,o1,B1,d1,rfl,g1,g2,-,-,g3⟩:=(h0.ext zqx).at_ hr;rw [hrl] at g1;have HD:=Zh (fun W (e:Ext wr W)=>HDT.out wr W B1 d1 q r hr g2 e (zqx.trans e));clear hr hrl g2;go_wp2_with fail
   refine (HD.out _ Zi).mono ?_;rintro e w5 ⟨g5,B5,k5,d5,rfl,hz5,hs5⟩;have hx5:Ext wr w5:=Zi;have HZ5:=Zh hz5;clear hz5;go_wp2_with (at_builtin;refine zI _ rfl _ _ 87 rfl w2.heap.size 148 (.agg #[.bool false,.slice none 0 0]) 2 32 Tryz.underlying87 QO rfl (by omega) (by omega) A1 q c1 vs rfl (HO.out.ext Zi) (some ⟨w5.heap.size,0,none⟩) 1 1 [.bool g5,.slice B5 k5 d5] rfl (Arr.new w5 148 #[.bool g5,.slice B5 k5 d5]) rfl (zbI _ _ _ _) (by omega) (by have :=(hxr.trans hx5).size;simp;omega) ?_;intro A6 c6 w6 zp7 hg;have HO6:=Zh zp7;have HG6:=Zh hg;have hx6:Ext w2 w6:=hg.ext Zi Zr;clear zp7 hg)
   refine ⟨⟨q+1,A6,c6,vs++[.bool g5,.slice B5 k5 d5],by omega,by go_num,rfl,HO6,Zh ?_,hx6⟩,by simp [intOf]<;>omega⟩;have hxa:Ext w5 (w5.alloc (.cells #[.bool g5,.slice B5 k5 d5] 148)):=Zi;have hv5:VsOf (w5.alloc (.cells #[.bool g5,.slice B5 k5 d5] 148)) (vs++[.bool g5,.slice B5 k5 d5]) (Z.take q++[Z.getD q 0]):=VsOf.snoc (HV.out.map fun hz=>(hz.ext hx5).ext hxa) (by rw [HO.out.len,List.length_take,HAR.out,Nat.min_eq_left hq]) (HZ5.out.ext hxa)
   rw [J2 (by rw [HAR.out];exact hlt)];exact hv5.grow HG6.out (by decide)
  ·obtain rfl:q=zb:=by omega
   go_wp2;go_ret2
   have h2:=HV.out;rw [List.take_of_length_le (by rw [HAR.out];exact Zr)] at h2;exact ⟨A1,c1,by rw [HAR.out];rfl,h2.intsV (by rw [HO.out.len,HAR.out]) HO.out.arr (Ext.refl _),by rw [HAR.out];exact HO.out.cap.1,HO.out.cap.2,zqx.toStep⟩
theorem zhv {m:List (List Int)} {n k:Nat} {x:List Int} (hn:n<=16) (hbm:∀i j,Bd k (ent m i j)) (hbx:QG k x):QG (2*k+n) (Z8 m n x):=fun i=>by
 rw [List.getD_eq_getElem?_getD]
 cases h:m[i]? with
 |none=>simp [Z8,h];exact Bd.zero _
 |some r=>
  have e:((Z8 m n x)[i]?).getD 0=zD n fun j=>r.getD j 0*x.getD j 0:=by
   rw [<-List.getD_eq_getElem?_getD];exact zdO h
  rw [e];refine Ju (n:=n) (fun j _=>?_) n Zr;have h1:=hbm i j;unfold ent at h1;simp only [List.getD,h,Option.getD_some] at h1;have :=h1.mul (hbx j);rw [show k+k=2*k by omega] at this;exact this
theorem zhw {m:List (List Int)} (x y:List Int):ipR m x y=zD m.length fun i=>x.getD i 0*(Z8 m m.length y).getD i 0:=by
 unfold ipR;refine qG fun i hi=>?_
 have hr:m[i]? =some m[i]:=Ze hi;rw [zdO hr];congr 1
 refine qG fun j _=>?_
 unfold ent;simp [List.getD,hr]
theorem zn2 (x:List Int) (k:Nat) (a:Int) (h:x[k]? =some a):zv (x.take (k+1))=if zv (x.take k)=0 then a else zv (x.take k):=by
 induction x generalizing k with
 |nil=>simp at h
 |cons y x ih=>
  cases k with
  |zero=>
   simp at h;subst h;simp only [List.take_succ_cons,List.take_zero,zv];by_cases h:y=0
   ·simp [h]
   ·simp [h]
  |succ k=>
   simp only [List.getElem?_cons_succ] at h;have :=ih k h;simp only [List.take_succ_cons,zv];by_cases hy:y=0
   ·simp only [hy,if_true];exact this
   ·simp [hy]
def ZP (a:Int):Int:=if a<0 then-1 else if a=0 then 0 else 1
theorem zn3 (x:List Int) (h:zv x≠0):x.map (fun c=>ZP (zv x)*c)=zJ x:=by
 unfold zJ ZP;by_cases h1:zv x<0
 ·rw [if_pos h1,if_pos h1];exact List.map_congr_left fun c _=>by omega
 ·rw [if_neg h1,if_neg h1,if_neg h];simp
def zdP (w:World) (x:List Int) (e:Ending) (w':World):Prop:=
 (zv x=0/\e= .returned (.tuple #[.slice none 0 0,.bool false])/\Step w w')∨
 (zv x≠0/\∃B d,e= .returned (.tuple #[.slice B x.length d,.bool true])/\Ints w' B 2 .i64 (zJ x)/\x.length<=d/\d<=9223372036854775807/\Step w w')
theorem zdQ (a:Int):(a<0/\ZP a=-1)∨(a=0/\ZP a=0)∨(0<a/\ZP a=1):=by
 unfold ZP;split
 ·exact .inl ⟨by assumption,rfl⟩
 ·split
  ·exact .inr (.inl ⟨by assumption,rfl⟩)
  ·exact .inr (.inr ⟨by omega,rfl⟩)
theorem zn4 (x:List Int) (s:Int) (q:Nat) (a:Int) (h:x[q]? =some a):((x.take (q+1)).map fun a=>Value.int .i64 (s*a))=((x.take q).map fun a=>Value.int .i64 (s*a))++[.int .i64 (s*a)]:=by
 rw [List.take_add_one,h];simp
theorem zn5 {w0 w:World} {A:Option Addr} {c:Nat} {x:List Int} (h:Ints w0 A 2 .i64 x) (h1:x.length<=1000) (hb:∀a∈x,-1099511627776<=a/\a<=1099511627776) [hx:Ext w0 w]:
  Calls Tryz.prog 29 #[.slice A x.length c] w (zdP w x):=by
 have h0:=h.ext hx;have HI:=Zh (fun W (e:Ext w0 W)=>znZ (w:=W) (c:=c) h (by omega) hb);have HB:=Zh hb;unfold zdP;obtain ⟨n,hn⟩:∃n,n=x.length:=⟨_,rfl⟩;rw [<-hn] at HI h1 |-
 have HL:=Zh hn;clear hb h hn;go_enter Tryz.func29,Tryz.ntmps29;go_wp2_with (go_at_call 60;refine (HI.out _ Zi).mono ?_;rintro e w1 ⟨rfl,rfl⟩)
 go_loop [4,6,15] (fun s _ i=>∃k:Nat,k<=n/\i= .int .i64 k/\s= .int .i64 (ZP (zv (x.take k)))) (fun _ _ i=>n-(intOf i).toNat)
 case atStart=>exact ⟨0,by omega,rfl,rfl⟩
 case round=>
  obtain ⟨k,hk,rfl,rfl⟩:=hrel;by_cases hlt:k<n
  ·have hlx:k<x.length:=by rw [<-HL.out];exact hlt
   obtain ⟨b1,o1,a,rfl,ha,g1,g2⟩:=h0.at_ hlx;have zqu:=zn2 x k a ha;have hs:=zdQ (zv (x.take k));have HN:Hid (ZP (zv (x.take (k+1)))=if ZP (zv (x.take k))=0 then ZP a else ZP (zv (x.take k))):=Zh (by
    rw [zqu];by_cases h:zv (x.take k)=0
    ·rw [if_pos h,if_pos (by omega)]
    ·rw [if_neg h,if_neg (by omega)])
   clear zqu hs ha;generalize ZP (zv (x.take k))=s at*
   rcases zdQ a with ⟨ha,hsa⟩ |⟨ha,hsa⟩ |⟨ha,hsa⟩
   ·have e1:(a !=0)=true:=by simp;omega
    have e2:decide (a<0)=true:=by simpa using ha
    by_cases hs:s=0
    ·subst hs;have HN2:Hid (ZP (zv (x.take (k+1)))=-1):=Zh (by rw [HN.out,if_pos rfl,hsa]);clear ha hsa;go_wp2;exact ⟨⟨k+1,by omega,by go_num,by rw [HN2.out]⟩,by simp [intOf];omega⟩
    ·have HN2:Hid (ZP (zv (x.take (k+1)))=s):=Zh (by rw [HN.out,if_neg hs]);have e3:(s==0)=false:=by simpa using hs
     clear ha hsa hs;go_wp2;exact ⟨⟨k+1,by omega,by go_num,by rw [HN2.out]⟩,by simp [intOf];omega⟩
   ·subst ha;by_cases hs:s=0
    ·subst hs;have HN2:Hid (ZP (zv (x.take (k+1)))=0):=Zh (by rw [HN.out,if_pos rfl,hsa]);clear hsa;go_wp2;exact ⟨⟨k+1,by omega,by go_num,by rw [HN2.out]⟩,by simp [intOf];omega⟩
    ·have HN2:Hid (ZP (zv (x.take (k+1)))=s):=Zh (by rw [HN.out,if_neg hs]);have e3:(s==0)=false:=by simpa using hs
     clear hsa hs;go_wp2;exact ⟨⟨k+1,by omega,by go_num,by rw [HN2.out]⟩,by simp [intOf];omega⟩
   ·have e1:(a !=0)=true:=by simp;omega
    have e2:decide (a<0)=false:=by simp;omega
    by_cases hs:s=0
    ·subst hs;have HN2:Hid (ZP (zv (x.take (k+1)))=1):=Zh (by rw [HN.out,if_pos rfl,hsa]);clear ha hsa;go_wp2;exact ⟨⟨k+1,by omega,by go_num,by rw [HN2.out]⟩,by simp [intOf];omega⟩
    ·have HN2:Hid (ZP (zv (x.take (k+1)))=s):=Zh (by rw [HN.out,if_neg hs]);have e3:(s==0)=false:=by simpa using hs
     clear ha hsa hs;go_wp2;exact ⟨⟨k+1,by omega,by go_num,by rw [HN2.out]⟩,by simp [intOf];omega⟩
  ·have htk:x.take k=x:=List.take_of_length_le (by have :=HL.out;omega);rw [htk];have hs:=zdQ (zv x);clear htk;by_cases hz:zv x=0
   ·have hsz:ZP (zv x)=0:=by omega
    rw [hsz];have HZ:=Zh hz;clear hs hsz hz;go_wp2;go_ret2
    exact .inl ⟨HZ.out,rfl,Step.of _ _⟩
   ·have HC:=Zh (zn3 x hz);have HZ:=Zh hz;have e3:(ZP (zv x)==0)=false:=by simp;omega
    have hs2:ZP (zv x)=-1∨ZP (zv x)=1:=by omega
    clear hs hz;generalize ZP (zv x)=s at*
    go_wp2;go_loopw [7,9,32] (fun s7 _ i wr=>∃(q:Nat) (A1:Option Addr) (c1:Nat),q<=n/\i= .int .i64 q/\s7= .slice A1 q c1/\Hid (Own wr w.heap.size 2 1 A1 q c1 ((x.take q).map fun a=>Value.int .i64 (s*a)))/\Ext w wr) (fun _ _ i _=>n-(intOf i).toNat)
    case atStart=>exact ⟨0,none,0,by omega,rfl,rfl,Zh (Own.nil _ _ _ _),Zi⟩
    case round=>
     obtain ⟨q,A1,c1,hq,rfl,rfl,HO,hxr⟩:=hrel;by_cases zqc:q<n
     ·have hlx:q<x.length:=by rw [<-HL.out];exact zqc
      obtain ⟨b1,o1,a,rfl,ha,g1,g2⟩:=(h0.ext hxr).at_ hlx;have hab:=HB.out a (Zm ha);have hsa:-1099511627776<=s*a/\s*a<=1099511627776:=by rcases hs2 with rfl |rfl<;>omega
      have HT:=Zh (zn4 x s q a ha);obtain ⟨p,hp⟩:∃p,s*a=p:=⟨_,rfl⟩;rw [hp] at hsa HT;have hpw:IntKind.i64.wrap p=p:=IntWalk.i64_in _ (by omega);clear ha hs2;go_wp2_with (at_builtin;refine zI _ rfl _ _ 37 rfl w.heap.size 2 (.int .i64 0) 1 8 Tryz.underlying37 qP rfl (by omega) (by omega) A1 q c1 ((x.take q).map fun a=>Value.int .i64 (s*a)) rfl (HO.out.ext Zi) (some ⟨wr.heap.size,0,none⟩) 1 1 [.int .i64 p] rfl (Arr.new wr 2 #[.int .i64 p]) rfl (Jv _) (by omega) (by have :=hxr.size;simp;omega) ?_;intro A6 c6 w6 zp7 hg;have HO6:=Zh zp7;have hx6:Ext w w6:=hg.ext Zi Zr;clear zp7 hg)
      exact ⟨⟨q+1,A6,c6,by omega,by go_num,rfl,Zh (by rw [HT.out];exact HO6.out),hx6⟩,by simp [intOf]<;>omega⟩
     ·obtain rfl:q=n:=by omega
      go_wp2;go_ret2
      have h2:=HO.out;rw [List.take_of_length_le (by rw [<-HL.out];exact Zr)] at h2;refine .inr ⟨HZ.out,A1,c1,rfl,?_,h2.cap.1,h2.cap.2,hxr.toStep⟩;have h3:=h2.arr;have e:(x.map fun a=>Value.int .i64 (s*a))=(zJ x).map (Value.int .i64):=by rw [<-HC.out,List.map_map];rfl
      rw [e] at h3;exact h3
theorem zhx {w0 w1 w:World} {X Y:Option Addr} {a b:Int} {c d:Nat} {x y:List Int} (hX:Ints w0 X 2 .i64 x) (hY:Ints w1 Y 2 .i64 y) (hx1:x.length<=1099511627776) (hy1:y.length<=1099511627776) [hx:Ext w0 w] [hy:Ext w1 w]:
  Calls Tryz.prog 32 #[.agg #[.int .i64 a,.slice X x.length c],.agg #[.int .i64 b,.slice Y y.length d]] w (zz w (.bool (z8 (a,x) (b,y)))):=by
 have hXw:=hX.ext hx;have hYw:=hY.ext hy;have HC:=Zh (fun W (e:Ext w W)=>zbn (w0:=w) (w:=W) (c:=c) (d:=d) hXw hYw hx1 hy1);clear hX hY hXw hYw;rcases Int.lt_trichotomy a b with h |h |h
 ·have HV:Hid (z8 (a,x) (b,y)=true):=Zh (by simp [z8,jZ,zw,qk h]);have d1:decide (a<b)=true:=by simpa using h
  rw [HV.out];clear h;go_enter Tryz.func32,Tryz.ntmps32;go_wp2_with fail
  go_ret;exact ⟨rfl,Step.of _ _⟩
 ·subst h;have HV:Hid (z8 (a,x) (a,y)=decide (zw x y<0)):=Zh (by simp [z8,jZ,zw,Qc]);rw [HV.out];have d1:decide (a<a)=false:=by simp
  have d2:(a==a)=true:=by simp
  go_enter Tryz.func32,Tryz.ntmps32;go_wp2_with (go_at_call 31;refine (HC.out _ Zi).mono ?_;rintro e w3 ⟨rfl,nq,rfl⟩)
  go_ret;exact ⟨rfl,Step.of _ _⟩
 ·have HV:Hid (z8 (a,x) (b,y)=false):=Zh (by simp [z8,jZ,zw,qO h]);have d1:decide (a<b)=false:=by simp;omega
  have d2:(a==b)=false:=by simp;omega
  rw [HV.out];clear h;go_enter Tryz.func32,Tryz.ntmps32;go_wp2_with fail
  go_ret;exact ⟨rfl,Step.of _ _⟩
def ZY (m:List (List Int)) (k:Nat):List (List Int):=tab (fun i j=>E (ent m) k (k+i) (k+j)) (m.length-k) (m.length-k)
theorem zbS (m:List (List Int)) (k:Nat):(ZY m k).length=m.length-k:=zr _ _ _
theorem zn6 {w0 w:World} {A:Option Addr} {c n b k:Nat} {m:List (List Int)} (h:MatV w0 A m) (h1:m.length=n) (h4:n<=8) (hn:AllLen m n) (hb:BdM b m) (hb1:1<=b) (hbb:b<=1000000) (hk:k<n) (hp:∀l,l<k->E (ent m) l l l≠0) [hx:Ext w0 w]:
  Calls Tryz.prog 166 #[.slice A n c,.int .i64 k] w (RetOwnI w (n-k) (ZY m k)):=by
 have h0:=h.ext hx;obtain ⟨r,hr⟩:∃r,r=n-k:=⟨_,rfl⟩;have HSE:Hid (∀(W1 W2 W:World) (A1 A2:Option Addr) (c1 c2 i j:Nat),i<r->j<r->Ints W1 A1 3 .i64 (zU (zy k (k+i)))->Ints W2 A2 3 .i64 (zU (zy k (k+j)))->Ext w W->Ext W1 W->Ext W2 W->Calls Tryz.prog 167 #[.slice A n c,.slice A1 (k+1) c1,.slice A2 (k+1) c2] W (jw W (zQ m (zy k (k+i)) (zy k (k+j))))):=Zh (fun W1 W2 W A1 A2 c1 c2 i j hi hj e1 e2 x0 x1 x2=>by
  have :=zdA (w:=W) (c:=c) (cR:=c1) (cC:=c2) h0 e1 e2 hn (by rw [Z5];omega) (by rw [Z5];omega) (by rw [h1];exact J5 (by omega) (by omega)) (J5 (by omega) (by omega));rw [h1,Z5,Z5] at this;exact this)
 have HDT:Hid (∀(W1 W:World) (A1:Option Addr) (c1 i j:Nat),i<r->j<r->MatV W1 A1 (zQ m (zy k (k+i)) (zy k (k+j)))->Ext W1 W->Calls Tryz.prog 146 #[.slice A1 (k+1) c1] W (zx W (E (ent m) k (k+i) (k+j)))):=Zh (fun W1 W A1 c1 i j hi hj hM e1=>by
  rw [<-JW hp (k+i) (k+j)];exact zdC hM (by omega) hb hb1 hbb)
 have HSL:Hid (∀i j,(zQ m (zy k i) (zy k j)).length=k+1):=Zh (fun i j=>by rw [J4,Z5]);have HFL:Hid (∀i,(zU (zy k i)).length=k+1):=Zh (fun i=>by rw [zdz,Z5]);have HFI:Hid (∀(W:World) (i:Nat),Calls Tryz.prog 168 #[.int .i64 k,.int .i64 i] W (zdx W (zU (zy k i)))):=Zh (fun W i=>zgG k i (by omega));have HST:Hid (ZY m k=tab (fun i j=>E (ent m) k (k+i) (k+j)) r r):=Zh (by unfold ZY;rw [h1,hr]);rw [HST.out,<-hr]
 obtain ⟨F,hF⟩:∃F:Nat->Nat->Int,F=fun i j=>E (ent m) k (k+i) (k+j):=⟨_,rfl⟩
 rw [<-hF];have hFij:∀i j,E (ent m) k (k+i) (k+j)=F i j:=fun i j=>by rw [hF]
 have zp2:Hid (∀(W1 W:World) (A1:Option Addr) (c1 i j:Nat),i<r->j<r->MatV W1 A1 (zQ m (zy k (k+i)) (zy k (k+j)))->Ext W1 W->Calls Tryz.prog 146 #[.slice A1 (k+1) c1] W (zx W (F i j))):=Zh (fun W1 W A1 c1 i j hi hj hM e1=>by
  have :=HDT.out W1 W A1 c1 i j hi hj hM e1;rwa [hFij] at this)
 have hnk:(n:Int)-(k:Int)=(r:Int):=by omega
 have hrw:IntKind.i64.wrap ((n:Int)-k)=(r:Int):=by rw [show (n:Int)-k=(r:Int) by omega];exact IntWalk.i64_in _ (by omega)
 clear hn hb h1 hp HDT HST hF hFij hr;go_enter Tryz.func166,Tryz.ntmps166;go_wp2_with (go_at_call 148;refine (zaQ r r (by omega) (by omega)).mono ?_;rintro e w3 ⟨g,hs,cz,rfl,hO,zqs,zqE,hs2⟩;rw [zr] at zqs |-;have HO:=Zh hO;clear hO)
 have hx3:Ext w w3:=Zi;go_loopw [7,8,18,26] (fun _ _ i _ wr=>∃q:Nat,q<=r/\i= .int .i64 q/\Hid (OwnI wr w.heap.size g r hs (tab (qI F q 0) r r))/\Ext w wr) (fun _ _ i _ _=>r-(intOf i).toNat)
 case atStart=>exact ⟨0,by omega,rfl,Zh (by rw [zdu];exact HO.out),Zi⟩
 case round=>
  obtain ⟨i,hi,rfl,HO1,hxr⟩:=hrel;obtain ⟨wo,rfl⟩:∃wo:World,wo=wr:=⟨_,rfl⟩;by_cases hlt:i<r
  ·obtain ⟨b0,c0,hp0,d1,d2,d3,d4,d5,d6⟩:=HO1.out.hdr (i:=i) (by rw [zr];exact hlt);clear hp0;go_wp2_with fail
   go_loopw [8,26] (fun _ j wr=>∃q:Nat,q<=r/\j= .int .i64 q/\Hid (OwnI wr w.heap.size g r hs (tab (qI F i q) r r))/\Ext w wr) (fun _ j _=>r-(intOf j).toNat)
   case atStart=>exact ⟨0,by omega,rfl,HO1,Zi⟩
   case round=>
    obtain ⟨q,hq,rfl,HO2,hxq⟩:=hrel;by_cases zqc:q<r
    ·obtain ⟨b1,c1,hp1,f1,f2,f3,f4,f5,f6⟩:=HO2.out.hdr (i:=i) (by rw [zr];exact hlt);have HP1:=Zh hp1;have HX:=Zh (fun W hh=>HO2.out.hdrX hp1 (by rw [zr];exact hlt) W hh);have hlo:=HO2.out.lo_row hp1;have hnw:New b1 w:=⟨hlo⟩;have HE:Hid (∀W,Ext wr W->∃s B k' d,W.cell? ⟨b1,q*2,none⟩=some (.bool s)/\W.cell? ⟨b1,q*2+1,none⟩=some (.slice B k' d)/\W.frozen? ⟨b1,q*2,none⟩=false/\W.frozen? ⟨b1,q*2+1,none⟩=false/\b1<W.heap.size):=Zh (fun W hh=>by
      obtain ⟨s,B,k',d,a1,a2,-,a4,a5⟩:=(HO2.out.ext hh).entry (i:=i) HP1.out (by rw [zr];exact hlt) zqc;exact ⟨s,B,k',d,a1,a2,a4,a5,Nat.lt_of_lt_of_le f5 hh.size⟩)
     have hki:IntKind.i64.wrap ((k:Int)+(i:Int))=((k+i:Nat):Int):=by rw [show (k:Int)+(i:Int)=((k+i:Nat):Int) by simp];exact IntWalk.i64_in _ (by omega)
     have hkq:IntKind.i64.wrap ((k:Int)+(q:Int))=((k+q:Nat):Int):=by rw [show (k:Int)+(q:Int)=((k+q:Nat):Int) by simp];exact IntWalk.i64_in _ (by omega)
     have HF1:=Zh (fun W=>HFI.out W (k+i));have HF2:=Zh (fun W=>HFI.out W (k+q));clear hp1;go_wp2_with fail
     go_region_held3 (fun w'=>w'.cell? ⟨g,i,none⟩=some (.slice (some ⟨b1,0,none⟩) r c1))
      (first |exact (HX.out _ Zi).1 |exact (HX.out _ Zi).2 _ _ _ _)
      (first
       |(have hh:=hI6;clear hh;go_at_call 168;refine (HF2.out _).mono ?_;rintro e w7 ⟨A7,c7,rfl,hI7,-,-,hs7⟩;rw [HFL.out])
       |(go_at_call 168;refine (HF1.out _).mono ?_;rintro e w6 ⟨A6,c6,rfl,hI6,-,-,hs6⟩;rw [HFL.out])
       |(go_at_call 167;refine (HSE.out _ _ _ _ _ _ _ i q hlt zqc hI6 hI7 Zi Zi Zi).mono ?_;rintro e w8 ⟨A8,c8,rfl,hM8,-,-,hs8⟩;rw [HSL.out])
       |(go_at_call 146;refine (zp2.out _ _ _ _ i q hlt zqc hM8 Zi).mono ?_;rintro e w5 ⟨g5,B5,k5,n5,rfl,hz5,hs5⟩;obtain ⟨s6,B6,k6,n6,u1,u2,u3,u4,u5⟩:=HE.out w5 Zi))
     go_wp2_with fail
     refine ⟨⟨q+1,by omega,by go_num,Zh ?_,?_⟩,by simp [intOf]<;>omega⟩
     ·have hO5:=(HO2.out.ext (Zi:Ext wr w5)).set HP1.out (by rw [zr];exact hlt) zqc hz5;rw [zdr hlt zqc] at hO5;exact hO5
     ·exact ((Zi:Ext w w5).setCell (p:=⟨b1,q*2,none⟩) hlo _).setCell (p:=⟨b1,q*2+1,none⟩) hlo _
    ·obtain rfl:q=r:=by omega
     go_wp2_with fail
     exact ⟨⟨i+1,by omega,by go_num,Zh (by rw [<-zds];exact HO2.out),hxq⟩,by simp [intOf]<;>omega⟩
  ·obtain rfl:i=r:=by omega
   go_wp2_with fail
   go_ret;have h:=HO1.out;rw [zdt] at h;exact ⟨g,hs,cz,by rw [zr];rfl,h,by rw [zr];exact zqs,zqE,hxr.toStep⟩
def zbT (w:World) (m:List (List Int)) (e:Ending) (w':World):Prop:=∃B d,e= .returned (.tuple #[.slice B m.length d,.bool true])/\StV w' B ((List.range m.length).map (ZY m))/\m.length<=d/\d<=9223372036854775807/\Step w w'
def StHd (w:World) (m:List (List Int)) (q:Nat) (vs:List Value):Prop:=vs.length=q/\∀i,i<q->∃B c,vs[i]? =some (.slice B (m.length-i) c)/\MatV w B (ZY m i)/\m.length-i<=c/\c<=9223372036854775807
theorem StHd.map {w w':World} {m:List (List Int)} {q:Nat} {vs:List Value} (h:StHd w m q vs) (hk:∀{B:Option Addr} {M:List (List Int)},MatV w B M->MatV w' B M):StHd w' m q vs:=⟨h.1,fun i hi=>by
 obtain ⟨B,c,a1,a2,a3⟩:=h.2 i hi;exact ⟨B,c,a1,hk a2,a3⟩⟩
theorem StHd.snoc {w:World} {m:List (List Int)} {q:Nat} {vs:List Value} (h:StHd w m q vs) {B:Option Addr} {c:Nat} (hM:MatV w B (ZY m q)) (h1:m.length-q<=c) (h2:c<=9223372036854775807):StHd w m (q+1) (vs++[.slice B (m.length-q) c]):=by
 refine ⟨by simp [h.1],fun i hi=>?_⟩;rcases Zl i q with hlt |hge
 ·obtain ⟨B',c',a1,a2,a3⟩:=h.2 i hlt;exact ⟨B',c',by rw [List.getElem?_append_left (by rw [h.1];exact hlt)];exact a1,a2,a3⟩
 ·obtain rfl:i=q:=by omega
  exact ⟨B,c,by rw [List.getElem?_append_right (by rw [h.1];exact Zr),h.1,Nat.sub_self];rfl,hM,h1,h2⟩
theorem StHd.stV {w:World} {m:List (List Int)} {vs:List Value} {A:Option Addr} (h:StHd w m m.length vs) (ha:Arr w A 79 vs):StV w A ((List.range m.length).map (ZY m)):=by
 refine ⟨vs,by simp [h.1],ha,fun i M hM=>?_⟩;rw [List.getElem?_map] at hM
 cases hr:(List.range m.length)[i]? with
 |none=>rw [hr] at hM;cases hM
 |some j=>
  have hij:i=j/\i<m.length:=by
   obtain ⟨h1,h2⟩:=Zg.1 hr;simp at h1 h2;exact ⟨h2,h1⟩
  obtain ⟨rfl,hi⟩:=hij;rw [hr] at hM;injection hM with hM
  subst hM;obtain ⟨B,c,a1,a2,a3⟩:=h.2 i hi;exact ⟨B,c,by rw [zbS];exact a1,a2,by rw [zbS];exact a3.1,a3.2⟩
set_option maxRecDepth 20000 in
theorem zn7 {w0 w:World} {A:Option Addr} {c n b:Nat} {m:List (List Int)} (h:MatV w0 A m) (h1:m.length=n) (h3:1<=n) (h4:n<=8) (hn:AllLen m n) (hb:BdM b m) (hb1:1<=b) (hbb:b<=1000000) (hp:Pos (zf (ent m)) n) [hx:Ext w0 w]:
  Calls Tryz.prog 105 #[.slice A n c] w (zbT w m):=by
 have h0:=h.ext hx;have HLE:=Zh (fun W (e1:Ext w W)=>zaU (w:=W) (c:=c) h0 h1 h3 h4 hn hb hb1 hbb);have HLL:Hid ((zp m).length=n):=Zh (by rw [Qt];exact h1);have HPX:Hid (∀i,i<n->0<(zp m).getD i 0):=Zh (fun i hi=>by
  rw [zc9 (by rw [h1];exact hp) (by rw [h1];exact hi)];exact qf hp hi)
 have HBX:Hid (QG (256*(b+1)) (zp m)):=Zh (J7 (by omega) hb1 hb);have HSG:Hid (∀(W:World) (k:Nat),k<n->Ext w W->Calls Tryz.prog 166 #[.slice A n c,.int .i64 k] W (RetOwnI W (n-k) (ZY m k))):=Zh (fun W k hk e=>zn6 h0 h1 h4 hn hb hb1 hbb hk (fun l hl=>by have :=qf hp (show l<n by omega);omega));have HSL:Hid (∀k,(ZY m k).length=n-k):=Zh (fun k=>by rw [zbS,h1]);unfold zbT;have HM1:=Zh h1;rw [h1];have hbk:b<=1000000:=hbb
 have hw:IntKind.i64.wrap ((n:Int)-1)=((n-1:Nat):Int):=by rw [show (n:Int)-1=((n-1:Nat):Int) by omega];exact IntWalk.i64_in _ (by omega)
 clear hn hb hp h1 h;generalize zp m=ds at*
 go_enter Tryz.func105,Tryz.ntmps105;go_wp2_with (go_at_call 106;refine (HLE.out _ Zi).mono ?_;rintro e w1 ⟨BD,dD,rfl,hI1,hd1,hd2,hs1⟩;rw [HLL.out] at hd1 |-;have HI:=Zh hI1;clear hI1)
 have zqq:Ext w w1:=Zi;go_loopw [7,23] (fun _ i wr=>∃q:Nat,q<=n-1/\i= .int .i64 q/\Ext w1 wr) (fun _ i _=>n-1-(intOf i).toNat)
 case atStart=>exact ⟨0,by omega,rfl,Zi⟩
 case round=>
  obtain ⟨q,hq,rfl,hxr⟩:=hrel;have zqx:Ext w wr:=zqq.trans hxr;by_cases hlt:q<n-1
  ·obtain ⟨bb,ob,g,B,k,d,rfl,y1,y2,hz,hb2⟩:=(HI.out.ext hxr).atD (i:=q) (by rw [HLL.out];omega);have zqg:=HPX.out q (by omega);have zp9:=hz.bd (HBX.out q) (by omega);generalize ds.getD q 0=z at*
   have hcz:(zk z 0==0)=false:=by rw [qO zqg];rfl
   have HS:Hid (∀W,Ext wr W->Calls Tryz.prog 165 #[.agg #[.bool g,.slice B k d]] W (zz W (.int .i64 (zk z 0)))):=Zh (fun W e=>QC hz (by omega));clear hz zqg;generalize zk z 0=cz at*
   go_wp2_with (go_at_call 165;refine (HS.out _ Zi).mono ?_;rintro e w2 ⟨rfl,hs2⟩)
   exact ⟨⟨q+1,by omega,by go_num,Zi⟩,by simp [intOf]<;>omega⟩
  ·obtain rfl:q=n-1:=by omega
   clear hlt hq;go_wp2_with fail
   go_loopw [8,9,33] (fun s8 _ i wr'=>∃(q:Nat) (A1:Option Addr) (c1:Nat) (vs:List Value),q<=n/\i= .int .i64 q/\s8= .slice A1 q c1/\Hid (Own wr' w.heap.size 79 1 A1 q c1 vs)/\Hid (StHd wr' m q vs)/\Ext w wr') (fun _ _ i _=>n-(intOf i).toNat)
   case atStart=>exact ⟨0,none,0,[],by omega,rfl,rfl,Zh (Own.nil _ _ _ _),Zh ⟨rfl,fun i hi=>absurd hi (by omega)⟩,zqx⟩
   case round=>
    obtain ⟨k,A1,c1,vs,hk,rfl,rfl,HO,HV,hxk⟩:=hrel;by_cases hlt:k<n
    ·have HS:Hid (∀W,Ext w W->Calls Tryz.prog 166 #[.slice A n c,.int .i64 k] W (jw W (ZY m k))):=Zh (fun W e=>(HSG.out W k hlt e).mono fun _ _ h=>h.mat);have hkl:=HSL.out k;go_wp2_with fail
     refine (HS.out _ Zi).mono ?_;rintro e w5 ⟨B5,c5,rfl,hM5,zrT,zsh,hs5⟩;rw [hkl] at zrT |-
     have hx5:Ext wr w5:=Zi;have HM5:=Zh hM5;clear hM5 hkl;go_wp2_with (at_builtin;refine zI _ rfl _ _ 86 rfl w.heap.size 79 (.slice none 0 0) 1 24 Tryz.underlying86 zcq rfl (by omega) (by omega) A1 k c1 vs rfl (HO.out.ext Zi) (some ⟨w5.heap.size,0,none⟩) 1 1 [.slice B5 (n-k) c5] rfl (Arr.new w5 79 #[.slice B5 (n-k) c5]) rfl (zgH _ _ _) (by omega) (by have :=(hxk.trans hx5).size;simp;omega) ?_;intro A6 c6 w6 zp7 hg;have HO6:=Zh zp7;have HG6:=Zh hg;have hx6:Ext w w6:=hg.ext Zi Zr;clear zp7 hg)
     refine ⟨⟨k+1,A6,c6,vs++[.slice B5 (n-k) c5],by omega,by go_num,rfl,HO6,Zh ?_,hx6⟩,by simp [intOf]<;>omega⟩;have hxa:Ext w5 (w5.alloc (.cells #[.slice B5 (n-k) c5] 79)):=Zi;have h6:=StHd.snoc (m:=m) (HV.out.map fun h=>(h.ext hx5).ext hxa) (HM5.out.ext hxa) (c:=c5) (by rw [HM1.out];exact zrT) zsh;rw [HM1.out] at h6;exact h6.map fun h=>h.grow HG6.out (by decide) (by decide) (by decide)
    ·obtain rfl:k=n:=by omega
     go_wp2_with fail
     go_ret2
     have hst:=HV.out;rw [<-HM1.out] at hst;have zrt:=hst.stV HO.out.arr;rw [HM1.out] at zrt;exact ⟨A1,c1,rfl,zrt,HO.out.cap.1,HO.out.cap.2,hxk.toStep⟩
def zn8 (w:World) (m:List (List Int)) (b:Int) (e:Ending) (w':World):Prop:=∃B d L,e= .returned (.tuple #[.slice B (List.length L) d,.int .i64 0])/\Mat64 w' B L/\L.length<=d/\d<=9223372036854775807/\VecList m b false L/\L.length<=8000/\Step w w'
theorem zn9 {m:List (List Int)} (hr:Zp m=true) {b:Int} (hb0:0<=b) (hb:b<1073741824):TreeOK m b:=by
 have hR:=ZF hr;have hl:=ZR hR.small;have hN:=hR.form.num b hb0 hb;refine ⟨hR.form,hR.s64,zgd hr,hb0,by omega,hl.1,hl.2,hN.dl,hN.ll,hN.row,hN.d1,hN.d2,hN.lam,hb0,fun k hk=>?_⟩;have a1:=hN.d1 k (by omega);have a2:=hN.d2 k (by omega);have b1:=hN.d1 (k+1) (by omega);have b2:=hN.d2 (k+1) (by omega);have m1:vD (ze m m.length) (k+1)*b<=65535*1073741823:=Int.mul_le_mul (by omega) (by omega) (by omega) (by omega)
 have m0:0<=vD (ze m m.length) (k+1)*b:=Int.mul_nonneg (by omega) (by omega);have m2:vD (ze m m.length) (k+1)*b*vD (ze m m.length) k<=65535*1073741823*65535:=Int.mul_le_mul m1 (by omega) (by omega) (by omega);omega
end
section
open Go.RowKit
theorem zoa {w:World} {dim kind za:Int} {NA:Option Addr} {l:List Int} {nc:Nat} {v3:Value} {te:TypeId} (hN:Ints w NA te .i8 l) (h8:I8 l) (hl:l.length<=9223372036854775807) (hd0:0<=dim) (hd1:dim<256) (hk0:0<=kind) (hk1:kind<256) (hb0:0<=za) (hb1:za<256):
  Calls Tryz.prog 40 #[.agg #[.int .u8 dim,.int .u8 kind,.slice NA l.length nc,v3],.int .u8 za] w (zdM w (1+(dim%4).toNat) za):=by
 have HG:Hid (∀W,Ext w W->Calls Tryz.prog 27 #[.agg #[.int .u8 dim,.int .u8 kind,.slice NA l.length nc,v3],.int .i64 4] W (zhp W (1+(dim%4).toNat))):=Zh (fun W e=>znW (most:=4) (hN.ext e) h8 hl hd0 hd1 hk0 hk1 (by omega) (by omega));have hn4:1+(dim%4).toNat<=4:=by omega
 clear hN h8;generalize 1+(dim%4).toNat=n at*
 have e1:IntKind.i64.wrap (2*(n:Int))=2*(n:Int):=IntWalk.i64_in _ (by omega);have e2:IntKind.i64.wrap (13-2*(n:Int))=13-2*(n:Int):=IntWalk.i64_in _ (by omega);have e3:((13-2*(n:Int))==0)=false:=by simp;omega
 have e4:za.tmod (13-2*(n:Int))=za%(13-2*(n:Int)):=Int.tmod_eq_emod_of_nonneg hb0;have e5:IntKind.i64.wrap za=za:=IntWalk.i64_in _ (by omega);have e6:=Int.emod_nonneg za (show 13-2*(n:Int)≠0 by omega);have e7:=Int.emod_lt_of_pos za (show 0<13-2*(n:Int) by omega);have e8:IntKind.i64.wrap (za%(13-2*(n:Int)))=za%(13-2*(n:Int)):=IntWalk.i64_in _ (by omega);go_enter Tryz.func40,Tryz.ntmps40;go_wp2_with (go_at_call 27;refine (HG.out _ Zi).mono ?_;rintro e w1 ⟨a,hh,A1,c1,rfl,hGm,hLL,zp9,hRel,hM3,hc1,hc2,hs3⟩)
 have HM:=Zh hM3;clear hM3;go_quiet (fail)
 go_wp2_with fail
 go_ret2
 exact ⟨a,hh,A1,c1,rfl,hGm,hLL,zp9,hRel,HM.out.ext Zi,hc1,hc2,Step.of _ _⟩
end
section
open Go.RowKit
open La
theorem zob (m:List (List Int)) (b:Int):1<=(Zd m b).length:=by
 unfold Zd
 cases m.length-1<;>simp [tE]
theorem zoc {m:List (List Int)} (hr:Zp m=true) {b:Nat} (h4:m.length<=4) (hb:b+2*m.length<=12∨b<=6∨(m.length<=3/\b<=8)):(Zd m b).length<=8001:=by
 have hR:=ZF hr;have hl:=ZR hR.small;by_cases h1:m.length=1
 ·rw [znL hR h1 (by omega)];simp
 ·have :=znJ hR (by omega) (b:=(b:Int)) (by omega) (by omega);have :=zhq hr h4 hb;omega
end
section
open La
def fB (m:List (List Int)) (s i j:Nat):Int:=E (ent m) s (s+i) (s+j)
def fL (m:List (List Int)) (s:Nat) (t:List Int):Int:=zD t.length fun j=>fB m s 0 (j+1)*t.getD j 0
def fC (m:List (List Int)) (s:Nat) (t:List Int):Int:=zD t.length fun i=>t.getD i 0*zD t.length fun j=>fB m s (i+1) (j+1)*t.getD j 0
theorem zhy (m:List (List Int)) (s:Nat) (t:List Int):fL m s t=ZB (E (ent m) s s) (s+1) t:=by
 rw [zaX];refine qG fun j _=>?_
 unfold fB;rw [show s+1+j=s+(j+1) by omega,Nat.add_zero]
theorem zod (m:List (List Int)) (s:Nat) (t:List Int):fL m s t=lE (ent m) s (0::t):=by
 rw [zhy];unfold lE;rw [ZB,Int.mul_zero,Int.zero_add]
theorem zoe (m:List (List Int)) (s:Nat) (t:List Int):fC m s t=qE (ent m) s (0::t):=by
 unfold qE QX;rw [ZB,Int.mul_zero,Int.zero_add,zaX];unfold fC;refine qG fun i _=>?_
 rw [Int.mul_comm];congr 1
 rw [ZB,Int.mul_zero,Int.zero_add,zaX];refine qG fun j _=>?_
 unfold fB;rw [show s+1+j=s+(j+1) by omega,show s+1+i=s+(i+1) by omega]
theorem zof {m:List (List Int)} (hr:RedOK m) {s:Nat} (hs:s<m.length) (b:Int) (t:List Int) (ht:t.length=m.length-1-s) (h0:0<=left (ent m) b (s+1) t):
  0<=fL m s t*fL m s t-fB m s 0 0*(fC m s t-b*zt (ent m) s)/\
  ((zo (fL m s t*fL m s t-fB m s 0 0*(fC m s t-b*zt (ent m) s)).toNat:Int)-fL m s t) / fB m s 0 0=zB m b s t/\
  -(((zo (fL m s t*fL m s t-fB m s 0 0*(fC m s t-b*zt (ent m) s)).toNat:Int)+fL m s t) / fB m s 0 0)=zj m b s t/\0<fB m s 0 0:=by
 have hp:=qf hr.pos hs;have hb:fB m s 0 0=zt (ent m) (s+1):=rfl;have hd:fL m s t*fL m s t-fB m s 0 0*(fC m s t-b*zt (ent m) s)=Zu (ze m m.length) s (left (ent m) b (s+1) t):=by
  rw [zod,zoe,hb,znN hr hs,Zu,Z3 (by omega)]
 have hl:0<zt (ent m) s:=ZE hr.pos (by omega);rw [hd];have hv:Zz (zh m m.length) s t=fL m s t:=by rw [zdf hs t ht,zhy]
 have hD:vD (ze m m.length) (s+1)=fB m s 0 0:=by rw [Z3 (by omega)];rfl
 refine ⟨?_,?_,?_,hp⟩
 ·unfold Zu;rw [Z3 (by omega)];exact Int.mul_nonneg (Int.le_of_lt hl) h0
 ·unfold zB Zq vR;rw [hv,hD]
 ·unfold zj zG vR;rw [hv,hD]
def ZJ (m:List (List Int)) (b:Int) (k:Nat) (t:List Int):List (Int×Int):=Zf (ze m m.length) (zh m m.length) m.length k (left (ent m) b (k+1) t) t
def Zv (m:List (List Int)) (b:Int) (k:Nat) (t:List Int) (q:Nat):List (Int×Int):=(List.range q).flatMap fun (j:Nat)=>ZJ m b k ((zj m b (k+1) t+(j:Int))::t)
theorem zdR (m:List (List Int)) (b:Int) (k:Nat) (t:List Int) (q:Nat):Zv m b k t (q+1)=Zv m b k t q++ZJ m b k ((zj m b (k+1) t+(q:Int))::t):=by
 unfold Zv;rw [List.range_succ,List.flatMap_append,List.flatMap_singleton]
theorem zdS (m:List (List Int)) (b:Int) (t:List Int):ZJ m b 0 t=[((m.length:Int),zB m b 0 t-zj m b 0 t+1)]:=rfl
theorem zhz {m:List (List Int)} (hr:RedOK m) {k:Nat} (hk:k+1<m.length) (b:Int) (t:List Int) (ht:t.length=m.length-1-(k+1)):
  ZJ m b (k+1) t=((m.length:Int)-(k+1:Nat),zB m b (k+1) t-zj m b (k+1) t+1)::Zv m b k t (zH m b (k+1) t):=by
 unfold ZJ Zv zH;rw [Zf];congr 1
 refine congrArg (fun F=>List.flatMap F _) ?_;funext j
 rw [qH hr (by omega) b t ht];rfl
def Zk (cs:List Int) (ys:List (Int×Int)):List Int:=(List.range cs.length).map fun i=>cs.getD i 0+zR ys i
theorem zbU (cs:List Int) (ys:List (Int×Int)):(Zk cs ys).length=cs.length:=by simp [Zk]
theorem zog {cs:List Int} {ys:List (Int×Int)} {i:Nat} (h:i<cs.length):(Zk cs ys).getD i 0=cs.getD i 0+zR ys i:=by
 simp [Zk,List.getD,h]
theorem zdT (cs:List Int):Zk cs []=cs:=by
 apply List.ext_getElem
 ·exact zbU _ _
 ·intro i h1 h2;simp [Zk,zR,h2]
theorem zhA (cs:List Int) (a b:List (Int×Int)):Zk (Zk cs a) b=Zk cs (a++b):=by
 unfold Zk;simp only [List.length_map,List.length_range];refine List.map_congr_left fun i hi=>?_
 have hi':i<cs.length:=by simpa using hi
 rw [zdj];simp [List.getD,hi'];omega
theorem zhB {cs:List Int} {ys:List (Int×Int)} (h:∀p∈ys,1<=p.1/\p.1<=(cs.length:Int)):(Zk cs ys).sum=cs.sum+zE ys:=by
 unfold Zk;rw [zgk (List.range cs.length) (fun i=>cs.getD i 0) (zR ys),zdl _ _ h];congr 2
 apply List.ext_getElem
 ·simp
 ·intro i h1 h2;simp [h2]
theorem zoh {cs:List Int} {i:Nat} {z:Int} (h:i<cs.length):Zk cs [((i:Int)+1,z)]=cs.set i (cs.getD i 0+z):=by
 apply List.ext_getElem
 ·simp [Zk]
 ·intro j h1 h2;have hj:j<cs.length:=by simpa using h2
  simp only [Zk,List.getElem_map,List.getElem_range,zR,List.getElem_set];by_cases e:i=j
  ·subst e;rw [if_pos (by omega),if_pos rfl];simp [h]
  ·rw [if_neg (by omega),if_neg e];simp [hj]
theorem zdU {m:List (List Int)} (hr:RedOK m) {b:Int} (hb:0<=b) (hb1:b<1073741824) {k:Nat} {t:List Int} (hk:k<m.length) (ht:t.length=m.length-1-k) (h0:0<=left (ent m) b (k+1) t):∀p∈ZJ m b k t,0<=p.2/\1<=p.1/\p.1<=(m.length:Int):=zdk hr hb hb1 k t hk ht h0
theorem zoi {m:List (List Int)} (hr:RedOK m) {b:Int} (hb:0<=b) (hb1:b<1073741824) {k:Nat} {t:List Int} (hk:k+1<m.length) (ht:t.length=m.length-1-(k+1)) (h0:0<=left (ent m) b (k+2) t) {q:Nat} (hq:q<=zH m b (k+1) t):∀p∈Zv m b k t q,0<=p.2/\1<=p.1/\p.1<=(m.length:Int):=fun p hp=>by
 unfold Zv at hp;rw [List.mem_flatMap] at hp;obtain ⟨j,hj,hp⟩:=hp;rw [List.mem_range] at hj;exact zdU hr hb hb1 (by omega) (by simp [ht];omega) (qU hr t (by omega) ht h0 (j:=j) (by unfold zH zB zj at hq;unfold zP;omega)) p hp
theorem zhC {ys:List (Int×Int)} (h:∀p∈ys,0<=p.2):0<=zE ys:=by
 induction ys with
 |nil=>exact Int.le_refl _
 |cons p ys ih=>
  have :=h p (by simp);have :=ih (fun q hq=>h q (by simp [hq]));simp only [zE];omega
theorem zoj {m:List (List Int)} (hr:RedOK m) {b:Int} (hb:0<=b) (hb1:b<1073741824) {k:Nat} {t:List Int} (hk:k+1<m.length) (ht:t.length=m.length-1-(k+1)) (h0:0<=left (ent m) b (k+2) t) {p q:Nat} (hpq:p<=q) (hq:q<=zH m b (k+1) t):zE (Zv m b k t p)<=zE (Zv m b k t q):=by
 induction q with
 |zero=>obtain rfl:p=0:=by omega
        exact Int.le_refl _
 |succ q ih=>
  rcases Zl p (q+1) with h |h
  ·have h1:=ih (by omega) (by omega);rw [zdR,zdi];have h2:=zhC (fun p hp=>(zdU hr hb hb1 (b:=b) (k:=k) (t:=(zj m b (k+1) t+(q:Int))::t) (by omega) (by simp [ht];omega) (qU hr t (by omega) ht h0 (j:=q) (by unfold zH zB zj at hq;unfold zP;omega)) p hp).1);omega
  ·obtain rfl:p=q+1:=by omega
   exact Int.le_refl _
theorem zaZ {m:List (List Int)} (hr:RedOK m) {b:Int} (hb:0<=b) (hb1:b<1073741824) {k:Nat} {t:List Int} (hk:k<m.length) (ht:t.length=m.length-1-k) (h0:0<=left (ent m) b (k+1) t):
  0<=zB m b k t-zj m b k t+1/\zB m b k t-zj m b k t+1<=1099511627776/\-1099511627776<=zj m b k t/\zj m b k t<=1099511627776/\-1099511627776<=zB m b k t/\zB m b k t<=1099511627776:=by
 have hv:=QQ (hr.num hb hb1) (Qs hr hb hb1 t k hk ht h0);have he:=Jh (hr.num hb hb1) (Qs hr hb hb1 t k hk ht h0);have hS:=jx (hr.num hb hb1) (Qs hr hb hb1 t k hk ht h0);have hR:=jc (hr.num hb hb1) (Qs hr hb hb1 t k hk ht h0);unfold zB zj;unfold zP at hv;refine ⟨hv.1,hv.2,?_⟩;omega
def Jz (m:List (List Int)) (b:Int):Nat->List Int->List (Int×Int)
 |0,_=>[]
 |k+1,t=>Zv m b k t (zH m b (k+1) t)
theorem zok {m:List (List Int)} (hr:RedOK m) {k:Nat} (hk:k<m.length) (b:Int) (t:List Int) (ht:t.length=m.length-1-k):
  ZJ m b k t=((m.length:Int)-(k:Nat),zB m b k t-zj m b k t+1)::Jz m b k t:=by
 cases k with
 |zero=>rw [zdS];simp [Jz]
 |succ k=>exact zhz hr hk b t ht
theorem zol {m:List (List Int)} (hr:RedOK m) (h1:m.length=1) {b:Int} (hb:0<=b):zj m b 0 []=-((zo (b / ent m 0 0).toNat:Nat):Int)/\zB m b 0 []=((zo (b / ent m 0 0).toNat:Nat):Int):=by
 have zqg:1<=ent m 0 0:=by
  have :=ZE hr.pos (k:=1) (by omega);have e:zt (ent m) 1=ent m 0 0:=rfl;omega
 obtain ⟨hin,zqR⟩:=zcL zqg hb;have key:∀c:Int,(zj m b 0 []<=c/\c<=zB m b 0 [])↔ent m 0 0*c*c<=b:=fun c=>by
  have h:=Qq hr (k:=0) (by omega) (za:=b) [] (by simp [h1]) (by have :=Qi hr hb;rw [h1] at this;exact this) c;refine h.trans ?_;rw [Qr (ZO hr.small) b [c] (by simp [h1])];have e:zu m [c]=ent m 0 0*c*c:=by
   rw [JX (ZO hr.small) _ (by simp [h1])];simp [qE,QX,ZB,E,ent]
  rw [e];omega
 obtain ⟨r,hrr⟩:∃r:Nat,zo (b / ent m 0 0).toNat=r:=⟨_,rfl⟩;rw [hrr] at hin zqR |-
 have a1:ent m 0 0*(r:Int)*r<=b:=by
  by_cases h0:r=0
  ·subst h0;simpa using hb
  ·exact hin r (by omega) (by omega)
 have a2:ent m 0 0*(-(r:Int))*(-(r:Int))<=b:=by
  have :ent m 0 0*(-(r:Int))*(-(r:Int))=ent m 0 0*(r:Int)*r:=by grind
  omega
 have a3:¬ent m 0 0*(-((r:Int)+1))*(-((r:Int)+1))<=b:=by
  have :ent m 0 0*(-((r:Int)+1))*(-((r:Int)+1))=ent m 0 0*((r:Int)+1)*((r:Int)+1):=by grind
  omega
 have b1:=(key r).2 a1;have b2:=(key (-(r:Int))).2 a2;have b3:¬(zj m b 0 []<=-((r:Int)+1)/\-((r:Int)+1)<=zB m b 0 []):=fun h=>a3 ((key (-((r:Int)+1))).1 h)
 have b4:¬(zj m b 0 []<=(r:Int)+1/\(r:Int)+1<=zB m b 0 []):=fun h=>(show ¬ent m 0 0*((r:Int)+1)*((r:Int)+1)<=b by omega) ((key ((r:Int)+1)).1 h)
 constructor<;>omega
theorem zhD {m:List (List Int)} (hr:RedOK m) {b:Int} (hb:0<=b):ZZ (ze m m.length) (zh m m.length) m.length b=ZJ m b (m.length-1) []:=by
 have hl:=ZR hr.small;unfold ZZ;by_cases h1:m.length=1
 ·rw [if_pos h1];have e:vD (ze m m.length) 1=ent m 0 0:=by rw [Z3 (by omega)];rfl
  rw [e];obtain ⟨a1,a2⟩:=zol hr h1 hb;have :ZJ m b (m.length-1) []=[((m.length:Int),zB m b 0 []-zj m b 0 []+1)]:=by rw [show m.length-1=0 by omega];exact zdS m b []
  rw [this,a1,a2,h1];congr 1
  congr 1
  omega
 ·rw [if_neg h1,zbB hr];rfl
theorem zhE {m:List (List Int)} (hr:RedOK m) {b:Int} (hb:0<=b):Z7 m b=zE (ZJ m b (m.length-1) []):=by
 unfold Z7;rw [zhD hr hb]
theorem zhF {m:List (List Int)} (hr:RedOK m) {b:Int} (hb:0<=b):jo m b=Zk (List.replicate m.length 0) (ZJ m b (m.length-1) []):=by
 unfold jo Zk;rw [zhD hr hb,List.length_replicate];refine List.map_congr_left fun i hi=>?_
 have hi':i<m.length:=by simpa using hi
 simp [List.getD,hi']
end
end Go.Proofs.YtjehjkipcaohpaaGreat
