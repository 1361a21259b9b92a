/- R09a R09b R10a Tr18 Sm12 Prov12 Fr2 -/
import Derived.Test.YtjehjkipcaohpaaGreatY22
import Derived.Test.YtjehjkipcaohpaaGreatProg
import Derived.Test.YtjehjkipcaohpaaGreatYSh
import Derived.Test.YtjehjkipcaohpaaGreatY18
set_option maxHeartbeats 8000000
set_option linter.unusedVariables false
set_option linter.unusedSimpArgs false
set_option linter.constructorNameAsVariable false
namespace Go.Proofs.YtjehjkipcaohpaaGreat
open Go.RowKit
open La
theorem znV {w0 w:World} {A:Option Addr} {c:Nat} {x:List Int} (h:Ints w0 A 2 .i64 x) (h1:x.length<=1099511627776) (hb:∀a∈x,-1099511627776<=a/\a<=1099511627776) [hx:Ext w0 w]:
  Calls Tryz.prog 60 #[.slice A x.length c] w (Zl w (.bool true)):=by
 have h0:=h.ext hx;have HB:=Zh hb;clear hb h;go_enter Tryz.func60,Tryz.ntmps60;go_wp2;go_loop [4,7] (fun _ i=>∃k:Nat,k<=x.length/\i= .int .i64 k) (fun _ i=>x.length-(intOf i).toNat)
 case atStart=>exact ⟨0,by omega,rfl⟩
 case round=>
  obtain ⟨k,hk,rfl⟩:=hrel;by_cases hlt:k<x.length
  ·obtain ⟨b1,o1,a,rfl,ha,g1,g2⟩:=h0.at_ hlt;have hab:=HB.out a (List.mem_of_getElem? ha);have d1:decide (a< -1099511627776)=false:=by simp;omega
   have d2:decide (1099511627776<a)=false:=by simp;omega
   clear ha;go_wp2;exact ⟨⟨k+1,by omega,by go_num⟩,by simp [intOf];omega⟩
  ·go_wp2;go_ret;exact ⟨rfl,rfl⟩
theorem LLLed.fits {m:List (List Int)} (h:LLLed m):Z5 m:=(Zw h.red).form.fits
theorem znW {z:Int} (h1:-262144<=z) (h2:z<=262144):Bd 199 z:=by
 unfold Bd;have :z.natAbs<=262144:=by omega
 exact Nat.lt_of_le_of_lt this (by decide)
theorem LLLed.bd {m:List (List Int)} (h:LLLed m):BdM 199 m:=fun i j=>by
 by_cases hi:i<m.length
 ·by_cases hj:j<m.length
  ·have hr:m[i]? =some m[i]:=List.getElem?_eq_getElem hi;have hl:m[i].length=m.length:=h.all _ (List.getElem_mem hi);have he:ent m i j=m[i][j]'(by omega):=j4 hr (List.getElem?_eq_getElem (by omega));have :=(zfY h.red).ent m[i] (List.getElem_mem hi) (m[i][j]'(by omega)) (List.getElem_mem _);rw [he];exact znW this.1 this.2
  ·rw [qh h.all (.inr (by omega))];exact Bd.zero _
 ·rw [qh h.all (.inl (by omega))];exact Bd.zero _
def zbC (w:World) (zs:List Int) (e:Ending) (w':World):Prop:=∃B d,e= .returned (.slice B zs.length d)/\IntsV w' B zs/\zs.length<=d/\d<=9223372036854775807/\Step w w'
theorem zhf {w0 w:World} {A:Option Addr} {c:Nat} {x:List Int} (h:Ints w0 A 2 .i64 x) (h1:x.length<=1000) (hb:∀a∈x,-9223372036854775808<=a/\a<=9223372036854775807) [hx:Ext w0 w]:
  Calls Tryz.prog 162 #[.slice A x.length c] w (zbC w x):=by
 have h0:=h.ext hx;have HB:=Zh hb;obtain ⟨n,hn⟩:∃n,n=x.length:=⟨_,rfl⟩;unfold zbC;rw [<-hn] at h1 |-
 have HL:=Zh hn;clear hb h hn;go_enter Tryz.func162,Tryz.ntmps162;go_wp2;go_loopw [3,5,8] (fun s3 _ i wr=>∃(q:Nat) (A1:Option Addr) (c1:Nat) (vs:List Value),q<=n/\i= .int .i64 q/\s3= .slice A1 q c1/\Hid (Own wr w.heap.size 148 2 A1 q c1 vs)/\Hid (VsOf wr vs (x.take q))/\Ext w wr) (fun _ _ i _=>n-(intOf i).toNat)
 case atStart=>exact ⟨0,none,0,[],by omega,rfl,rfl,Zh (Own.nil _ _ _ _),Zh (fun i z hz=>by simp at hz),Zi⟩
 case round=>
  obtain ⟨q,A1,c1,vs,hq,rfl,rfl,HO,HV,hxr⟩:=hrel;by_cases hlt:q<n
  ·have hlx:q<x.length:=by rw [<-HL.out];exact hlt
   obtain ⟨b1,o1,a,rfl,ha,g1,g2⟩:=(h0.ext hxr).at_ hlx;have hab:=HB.out a (List.mem_of_getElem? ha);have hae:Hid (x.getD q 0=a):=Zh (by simp [List.getD,ha]);have HS:=Zh (fun W=>qv a hab.1 hab.2 W);clear ha;go_wp2_with fail
   refine (HS.out _).mono ?_;rintro e w5 ⟨g5,B5,k5,d5,rfl,hz5,hs5⟩;have hx5:Ext wr w5:=Zi;have HZ5:=Zh hz5;clear hz5;go_wp2_with (at_builtin;refine zE _ rfl _ _ 87 rfl w.heap.size 148 (.agg #[.bool false,.slice none 0 0]) 2 32 Tryz.underlying87 QG rfl (by omega) (by omega) A1 q c1 vs rfl (HO.out.ext Zi) (some ⟨w5.heap.size,0,none⟩) 1 1 [.bool g5,.slice B5 k5 d5] rfl (Arr.new w5 148 #[.bool g5,.slice B5 k5 d5]) rfl (zbt _ _ _ _) (by omega) (by have :=(hxr.trans hx5).size;simp;omega) ?_;intro A6 c6 w6 zqe hg;have HO6:=Zh zqe;have HG6:=Zh hg;have hx6:Ext w w6:=hg.ext Zi (Nat.le_refl _);clear zqe hg)
   refine ⟨⟨q+1,A6,c6,vs++[.bool g5,.slice B5 k5 d5],by omega,by go_num,rfl,HO6,Zh ?_,hx6⟩,by simp [intOf]<;>omega⟩;have hxa:Ext w5 (w5.alloc (.cells #[.bool g5,.slice B5 k5 d5] 148)):=Zi;have hv5:VsOf (w5.alloc (.cells #[.bool g5,.slice B5 k5 d5] 148)) (vs++[.bool g5,.slice B5 k5 d5]) (x.take q++[x.getD q 0]):=VsOf.snoc (HV.out.map fun hz=>(hz.ext hx5).ext hxa) (by rw [HO.out.len,List.length_take,<-HL.out,Nat.min_eq_left hq]) (by rw [hae.out];exact HZ5.out.ext hxa)
   rw [JO (by rw [<-HL.out];exact hlt)];exact hv5.grow HG6.out (by decide)
  ·obtain rfl:q=n:=by omega
   go_wp2;go_ret;have h2:=HV.out;rw [List.take_of_length_le (by rw [<-HL.out];exact Nat.le_refl _)] at h2;exact ⟨A1,c1,rfl,h2.intsV (by rw [HO.out.len,<-HL.out]) HO.out.arr (Ext.refl _),HO.out.cap.1,HO.out.cap.2,hxr.toStep⟩
def Z1 (m:List (List Int)) (n:Nat) (x:List Int):List Int:=m.map fun r=>zz n fun i=>r.getD i 0*x.getD i 0
theorem zdA (m:List (List Int)) (n:Nat) (x:List Int):(Z1 m n x).length=m.length:=by simp [Z1]
theorem zdB {m:List (List Int)} {n i:Nat} {x r:List Int} (hr:m[i]? =some r):(Z1 m n x).getD i 0=zz n fun j=>r.getD j 0*x.getD j 0:=by
 simp [Z1,List.getD,hr]
theorem znX {w0 w1 w:World} {A B:Option Addr} {c d n k:Nat} {m:List (List Int)} {x:List Int} (hM:MatV w0 A m) (hX:IntsV w1 B x) (h1:1<=m.length) (h2:m.length<=16) (h3:1<=n) (h4:n<=16) (hn:AllLen m n) (hxl:x.length=n) (hk:k<=1000000000000) (hbm:∀i j,Bd k (ent m i j)) (hbx:Qz k x) [hx:Ext w0 w] [hy:Ext w1 w]:
  Calls Tryz.prog 161 #[.slice A m.length c,.slice B n d] w (zaF w (Z1 m n x)):=by
 have h0:=hM.ext hx;have hX0:=hX.ext hy;have HSH:=Zh (fun W (e:Ext w W)=>zaD (w:=W) (c:=c) h0 n h1 h2 h3 h4 hn);have HDT:Hid (∀(W0 W:World) (A1:Option Addr) (c1 i:Nat) (r:List Int),m[i]? =some r->IntsV W0 A1 r->Ext W0 W->Ext w W->Calls Tryz.prog 163 #[.slice A1 n c1,.slice B n d] W (zu W ((Z1 m n x).getD i 0))):=Zh (fun W0 W A1 c1 i r hr hI e1 e2=>by
  have hrl:r.length=n:=hn r (List.mem_of_getElem? hr);rw [zdB hr];refine zbp hI hX0 hrl hxl h4 hk (fun j=>?_) hbx;have :=hbm i j;unfold ent at this;simp only [List.getD,hr,Option.getD_some] at this;exact this)
 have HAL:Hid (∀(i:Nat) (r:List Int),m[i]? =some r->r.length=n):=Zh (fun i r hr=>hn r (List.mem_of_getElem? hr));have HAR:Hid ((Z1 m n x).length=m.length):=Zh (zdA m n x);unfold zaF;obtain ⟨Z,hZ⟩:∃Z,Z=Z1 m n x:=⟨_,rfl⟩;rw [<-hZ] at HDT HAR |-
 obtain ⟨rows,hrw⟩:∃rows,rows=m.length:=⟨_,rfl⟩;rw [<-hrw] at HSH HAR h1 h2 |-
 have HRW:=Zh hrw;clear hn hM hX hX0 hxl hbm hbx hZ hrw;go_enter Tryz.func161,Tryz.ntmps161;go_wp2_with (go_at_call 156;refine (HSH.out _ Zi).mono ?_;rintro e w2 ⟨rfl,hs2⟩)
 have zqS:Ext w w2:=Zi;go_loopw [9,11,28] (fun s9 _ i wr=>∃(q:Nat) (A1:Option Addr) (c1:Nat) (vs:List Value),q<=rows/\i= .int .i64 q/\s9= .slice A1 q c1/\Hid (Own wr w2.heap.size 148 2 A1 q c1 vs)/\Hid (VsOf wr vs (Z.take q))/\Ext w2 wr) (fun _ _ i _=>rows-(intOf i).toNat)
 case atStart=>exact ⟨0,none,0,[],by omega,rfl,rfl,Zh (Own.nil _ _ _ _),Zh (fun i z hz=>by simp at hz),Zi⟩
 case round=>
  obtain ⟨q,A1,c1,vs,hq,rfl,rfl,HO,HV,hxr⟩:=hrel;have zqB:Ext w wr:=zqS.trans hxr;by_cases hlt:q<rows
  ·obtain ⟨r,hr⟩:∃r,m[q]? =some r:=⟨_,List.getElem?_eq_getElem (by rw [<-HRW.out];exact hlt)⟩;have hrl:=HAL.out q r hr;obtain ⟨b1,o1,B1,d1,rfl,g1,g2,-,-,g3⟩:=(h0.ext zqB).at_ hr;rw [hrl] at g1;have HD:=Zh (fun W (e:Ext wr W)=>HDT.out wr W B1 d1 q r hr g2 e (zqB.trans e));clear hr hrl g2;go_wp2_with fail
   refine (HD.out _ Zi).mono ?_;rintro e w5 ⟨g5,B5,k5,d5,rfl,hz5,hs5⟩;have hx5:Ext wr w5:=Zi;have HZ5:=Zh hz5;clear hz5;go_wp2_with (at_builtin;refine zE _ rfl _ _ 87 rfl w2.heap.size 148 (.agg #[.bool false,.slice none 0 0]) 2 32 Tryz.underlying87 QG rfl (by omega) (by omega) A1 q c1 vs rfl (HO.out.ext Zi) (some ⟨w5.heap.size,0,none⟩) 1 1 [.bool g5,.slice B5 k5 d5] rfl (Arr.new w5 148 #[.bool g5,.slice B5 k5 d5]) rfl (zbt _ _ _ _) (by omega) (by have :=(hxr.trans hx5).size;simp;omega) ?_;intro A6 c6 w6 zqe hg;have HO6:=Zh zqe;have HG6:=Zh hg;have hx6:Ext w2 w6:=hg.ext Zi (Nat.le_refl _);clear zqe hg)
   refine ⟨⟨q+1,A6,c6,vs++[.bool g5,.slice B5 k5 d5],by omega,by go_num,rfl,HO6,Zh ?_,hx6⟩,by simp [intOf]<;>omega⟩;have hxa:Ext w5 (w5.alloc (.cells #[.bool g5,.slice B5 k5 d5] 148)):=Zi;have hv5:VsOf (w5.alloc (.cells #[.bool g5,.slice B5 k5 d5] 148)) (vs++[.bool g5,.slice B5 k5 d5]) (Z.take q++[Z.getD q 0]):=VsOf.snoc (HV.out.map fun hz=>(hz.ext hx5).ext hxa) (by rw [HO.out.len,List.length_take,HAR.out,Nat.min_eq_left hq]) (HZ5.out.ext hxa)
   rw [JO (by rw [HAR.out];exact hlt)];exact hv5.grow HG6.out (by decide)
  ·obtain rfl:q=rows:=by omega
   go_wp2;go_ret2
   have h2:=HV.out;rw [List.take_of_length_le (by rw [HAR.out];exact Nat.le_refl _)] at h2;exact ⟨A1,c1,by rw [HAR.out];rfl,h2.intsV (by rw [HO.out.len,HAR.out]) HO.out.arr (Ext.refl _),by rw [HAR.out];exact HO.out.cap.1,HO.out.cap.2,zqB.toStep⟩
theorem zhg {m:List (List Int)} {n k:Nat} {x:List Int} (hn:n<=16) (hbm:∀i j,Bd k (ent m i j)) (hbx:Qz k x):Qz (2*k+n) (Z1 m n x):=fun i=>by
 rw [List.getD_eq_getElem?_getD]
 cases h:m[i]? with
 |none=>simp [Z1,h];exact Bd.zero _
 |some r=>
  have e:((Z1 m n x)[i]?).getD 0=zz n fun j=>r.getD j 0*x.getD j 0:=by
   rw [<-List.getD_eq_getElem?_getD];exact zdB h
  rw [e];refine Jh (n:=n) (fun j _=>?_) n (Nat.le_refl _);have h1:=hbm i j;unfold ent at h1;simp only [List.getD,h,Option.getD_some] at h1;have :=h1.mul (hbx j);rw [show k+k=2*k by omega] at this;exact this
theorem zhh {m:List (List Int)} (x y:List Int):ipR m x y=zz m.length fun i=>x.getD i 0*(Z1 m m.length y).getD i 0:=by
 unfold ipR;refine qw fun i hi=>?_
 have hr:m[i]? =some m[i]:=List.getElem?_eq_getElem hi;rw [zdB hr];congr 1
 refine qw fun j _=>?_
 unfold ent;simp [List.getD,hr]
theorem znY (x:List Int) (k:Nat) (a:Int) (h:x[k]? =some a):zq (x.take (k+1))=if zq (x.take k)=0 then a else zq (x.take k):=by
 induction x generalizing k with
 |nil=>simp at h
 |cons y x ih=>
  cases k with
  |zero=>
   simp at h;subst h;simp only [List.take_succ_cons,List.take_zero,zq];by_cases h:y=0
   ·simp [h]
   ·simp [h]
  |succ k=>
   simp only [List.getElem?_cons_succ] at h;have :=ih k h;simp only [List.take_succ_cons,zq];by_cases hy:y=0
   ·simp only [hy,if_true];exact this
   ·simp [hy]
def ZG (a:Int):Int:=if a<0 then-1 else if a=0 then 0 else 1
theorem znZ (x:List Int) (h:zq x≠0):x.map (fun c=>ZG (zq x)*c)=zC x:=by
 unfold zC ZG;by_cases h1:zq x<0
 ·rw [if_pos h1,if_pos h1];exact List.map_congr_left fun c _=>by omega
 ·rw [if_neg h1,if_neg h1,if_neg h];simp
def zdC (w:World) (x:List Int) (e:Ending) (w':World):Prop:=
 (zq x=0/\e= .returned (.tuple #[.slice none 0 0,.bool false])/\Step w w')∨
 (zq x≠0/\∃B d,e= .returned (.tuple #[.slice B x.length d,.bool true])/\Ints w' B 2 .i64 (zC x)/\x.length<=d/\d<=9223372036854775807/\Step w w')
theorem zdD (a:Int):(a<0/\ZG a=-1)∨(a=0/\ZG a=0)∨(0<a/\ZG a=1):=by
 unfold ZG;split
 ·exact .inl ⟨by assumption,rfl⟩
 ·split
  ·exact .inr (.inl ⟨by assumption,rfl⟩)
  ·exact .inr (.inr ⟨by omega,rfl⟩)
theorem zn0 (x:List Int) (s:Int) (q:Nat) (a:Int) (h:x[q]? =some a):((x.take (q+1)).map fun a=>Value.int .i64 (s*a))=((x.take q).map fun a=>Value.int .i64 (s*a))++[.int .i64 (s*a)]:=by
 rw [List.take_add_one,h];simp
theorem zn1 {w0 w:World} {A:Option Addr} {c:Nat} {x:List Int} (h:Ints w0 A 2 .i64 x) (h1:x.length<=1000) (hb:∀a∈x,-1099511627776<=a/\a<=1099511627776) [hx:Ext w0 w]:
  Calls Tryz.prog 29 #[.slice A x.length c] w (zdC w x):=by
 have h0:=h.ext hx;have HI:=Zh (fun W (e:Ext w0 W)=>znV (w:=W) (c:=c) h (by omega) hb);have HB:=Zh hb;unfold zdC;obtain ⟨n,hn⟩:∃n,n=x.length:=⟨_,rfl⟩;rw [<-hn] at HI h1 |-
 have HL:=Zh hn;clear hb h hn;go_enter Tryz.func29,Tryz.ntmps29;go_wp2_with (go_at_call 60;refine (HI.out _ Zi).mono ?_;rintro e w1 ⟨rfl,rfl⟩)
 go_loop [4,6,15] (fun s _ i=>∃k:Nat,k<=n/\i= .int .i64 k/\s= .int .i64 (ZG (zq (x.take k)))) (fun _ _ i=>n-(intOf i).toNat)
 case atStart=>exact ⟨0,by omega,rfl,rfl⟩
 case round=>
  obtain ⟨k,hk,rfl,rfl⟩:=hrel;by_cases hlt:k<n
  ·have hlx:k<x.length:=by rw [<-HL.out];exact hlt
   obtain ⟨b1,o1,a,rfl,ha,g1,g2⟩:=h0.at_ hlx;have zqy:=znY x k a ha;have hs:=zdD (zq (x.take k));have HN:Hid (ZG (zq (x.take (k+1)))=if ZG (zq (x.take k))=0 then ZG a else ZG (zq (x.take k))):=Zh (by
    rw [zqy];by_cases h:zq (x.take k)=0
    ·rw [if_pos h,if_pos (by omega)]
    ·rw [if_neg h,if_neg (by omega)])
   clear zqy hs ha;generalize ZG (zq (x.take k))=s at*
   rcases zdD a with ⟨ha,hsa⟩ |⟨ha,hsa⟩ |⟨ha,hsa⟩
   ·have e1:(a !=0)=true:=by simp;omega
    have e2:decide (a<0)=true:=by simpa using ha
    by_cases hs:s=0
    ·subst hs;have HN2:Hid (ZG (zq (x.take (k+1)))=-1):=Zh (by rw [HN.out,if_pos rfl,hsa]);clear ha hsa;go_wp2;exact ⟨⟨k+1,by omega,by go_num,by rw [HN2.out]⟩,by simp [intOf];omega⟩
    ·have HN2:Hid (ZG (zq (x.take (k+1)))=s):=Zh (by rw [HN.out,if_neg hs]);have e3:(s==0)=false:=by simpa using hs
     clear ha hsa hs;go_wp2;exact ⟨⟨k+1,by omega,by go_num,by rw [HN2.out]⟩,by simp [intOf];omega⟩
   ·subst ha;by_cases hs:s=0
    ·subst hs;have HN2:Hid (ZG (zq (x.take (k+1)))=0):=Zh (by rw [HN.out,if_pos rfl,hsa]);clear hsa;go_wp2;exact ⟨⟨k+1,by omega,by go_num,by rw [HN2.out]⟩,by simp [intOf];omega⟩
    ·have HN2:Hid (ZG (zq (x.take (k+1)))=s):=Zh (by rw [HN.out,if_neg hs]);have e3:(s==0)=false:=by simpa using hs
     clear hsa hs;go_wp2;exact ⟨⟨k+1,by omega,by go_num,by rw [HN2.out]⟩,by simp [intOf];omega⟩
   ·have e1:(a !=0)=true:=by simp;omega
    have e2:decide (a<0)=false:=by simp;omega
    by_cases hs:s=0
    ·subst hs;have HN2:Hid (ZG (zq (x.take (k+1)))=1):=Zh (by rw [HN.out,if_pos rfl,hsa]);clear ha hsa;go_wp2;exact ⟨⟨k+1,by omega,by go_num,by rw [HN2.out]⟩,by simp [intOf];omega⟩
    ·have HN2:Hid (ZG (zq (x.take (k+1)))=s):=Zh (by rw [HN.out,if_neg hs]);have e3:(s==0)=false:=by simpa using hs
     clear ha hsa hs;go_wp2;exact ⟨⟨k+1,by omega,by go_num,by rw [HN2.out]⟩,by simp [intOf];omega⟩
  ·have htk:x.take k=x:=List.take_of_length_le (by have :=HL.out;omega);rw [htk];have hs:=zdD (zq x);clear htk;by_cases hz:zq x=0
   ·have hsz:ZG (zq x)=0:=by omega
    rw [hsz];have HZ:=Zh hz;clear hs hsz hz;go_wp2;go_ret2
    exact .inl ⟨HZ.out,rfl,Step.of _ _⟩
   ·have HC:=Zh (znZ x hz);have HZ:=Zh hz;have e3:(ZG (zq x)==0)=false:=by simp;omega
    have hs2:ZG (zq x)=-1∨ZG (zq x)=1:=by omega
    clear hs hz;generalize ZG (zq x)=s at*
    go_wp2;go_loopw [7,9,32] (fun s7 _ i wr=>∃(q:Nat) (A1:Option Addr) (c1:Nat),q<=n/\i= .int .i64 q/\s7= .slice A1 q c1/\Hid (Own wr w.heap.size 2 1 A1 q c1 ((x.take q).map fun a=>Value.int .i64 (s*a)))/\Ext w wr) (fun _ _ i _=>n-(intOf i).toNat)
    case atStart=>exact ⟨0,none,0,by omega,rfl,rfl,Zh (Own.nil _ _ _ _),Zi⟩
    case round=>
     obtain ⟨q,A1,c1,hq,rfl,rfl,HO,hxr⟩:=hrel;by_cases zqj:q<n
     ·have hlx:q<x.length:=by rw [<-HL.out];exact zqj
      obtain ⟨b1,o1,a,rfl,ha,g1,g2⟩:=(h0.ext hxr).at_ hlx;have hab:=HB.out a (List.mem_of_getElem? ha);have hsa:-1099511627776<=s*a/\s*a<=1099511627776:=by rcases hs2 with rfl |rfl<;>omega
      have HT:=Zh (zn0 x s q a ha);obtain ⟨p,hp⟩:∃p,s*a=p:=⟨_,rfl⟩;rw [hp] at hsa HT;have hpw:IntKind.i64.wrap p=p:=IntWalk.i64_in _ (by omega);clear ha hs2;go_wp2_with (at_builtin;refine zE _ rfl _ _ 37 rfl w.heap.size 2 (.int .i64 0) 1 8 Tryz.underlying37 qG rfl (by omega) (by omega) A1 q c1 ((x.take q).map fun a=>Value.int .i64 (s*a)) rfl (HO.out.ext Zi) (some ⟨wr.heap.size,0,none⟩) 1 1 [.int .i64 p] rfl (Arr.new wr 2 #[.int .i64 p]) rfl (Ji _) (by omega) (by have :=hxr.size;simp;omega) ?_;intro A6 c6 w6 zqe hg;have HO6:=Zh zqe;have hx6:Ext w w6:=hg.ext Zi (Nat.le_refl _);clear zqe hg)
      exact ⟨⟨q+1,A6,c6,by omega,by go_num,rfl,Zh (by rw [HT.out];exact HO6.out),hx6⟩,by simp [intOf]<;>omega⟩
     ·obtain rfl:q=n:=by omega
      go_wp2;go_ret2
      have h2:=HO.out;rw [List.take_of_length_le (by rw [<-HL.out];exact Nat.le_refl _)] at h2;refine .inr ⟨HZ.out,A1,c1,rfl,?_,h2.cap.1,h2.cap.2,hxr.toStep⟩;have h3:=h2.arr;have e:(x.map fun a=>Value.int .i64 (s*a))=(zC x).map (Value.int .i64):=by rw [<-HC.out,List.map_map];rfl
      rw [e] at h3;exact h3
theorem zhi {w0 w1 w:World} {X Y:Option Addr} {a b:Int} {c d:Nat} {x y:List Int} (hX:Ints w0 X 2 .i64 x) (hY:Ints w1 Y 2 .i64 y) (hx1:x.length<=1099511627776) (hy1:y.length<=1099511627776) [hx:Ext w0 w] [hy:Ext w1 w]:
  Calls Tryz.prog 32 #[.agg #[.int .i64 a,.slice X x.length c],.agg #[.int .i64 b,.slice Y y.length d]] w (zt w (.bool (z0 (a,x) (b,y)))):=by
 have hXw:=hX.ext hx;have hYw:=hY.ext hy;have HC:=Zh (fun W (e:Ext w W)=>za7 (w0:=w) (w:=W) (c:=c) (d:=d) hXw hYw hx1 hy1);clear hX hY hXw hYw;rcases Int.lt_trichotomy a b with h |h |h
 ·have HV:Hid (z0 (a,x) (b,y)=true):=Zh (by simp [z0,jP,zr,qc h]);have d1:decide (a<b)=true:=by simpa using h
  rw [HV.out];clear h;go_enter Tryz.func32,Tryz.ntmps32;go_wp2_with fail
  go_ret;exact ⟨rfl,Step.of _ _⟩
 ·subst h;have HV:Hid (z0 (a,x) (a,y)=decide (zr x y<0)):=Zh (by simp [z0,jP,zr,qU]);rw [HV.out];have d1:decide (a<a)=false:=by simp
  have d2:(a==a)=true:=by simp
  go_enter Tryz.func32,Tryz.ntmps32;go_wp2_with (go_at_call 31;refine (HC.out _ Zi).mono ?_;rintro e w3 ⟨rfl,nq,rfl⟩)
  go_ret;exact ⟨rfl,Step.of _ _⟩
 ·have HV:Hid (z0 (a,x) (b,y)=false):=Zh (by simp [z0,jP,zr,qF h]);have d1:decide (a<b)=false:=by simp;omega
  have d2:(a==b)=false:=by simp;omega
  rw [HV.out];clear h;go_enter Tryz.func32,Tryz.ntmps32;go_wp2_with fail
  go_ret;exact ⟨rfl,Step.of _ _⟩
def ZS (m:List (List Int)) (k:Nat):List (List Int):=tab (fun i j=>E (ent m) k (k+i) (k+j)) (m.length-k) (m.length-k)
theorem zbD (m:List (List Int)) (k:Nat):(ZS m k).length=m.length-k:=zn _ _ _
theorem zn2 {w0 w:World} {A:Option Addr} {c n b k:Nat} {m:List (List Int)} (h:MatV w0 A m) (h1:m.length=n) (h4:n<=8) (hn:AllLen m n) (hb:BdM b m) (hb1:1<=b) (hbb:b<=1000000) (hk:k<n) (hp:∀l,l<k->E (ent m) l l l≠0) [hx:Ext w0 w]:
  Calls Tryz.prog 166 #[.slice A n c,.int .i64 k] w (RetOwnI w (n-k) (ZS m k)):=by
 have h0:=h.ext hx;obtain ⟨r,hr⟩:∃r,r=n-k:=⟨_,rfl⟩;have HSE:Hid (∀(W1 W2 W:World) (A1 A2:Option Addr) (c1 c2 i j:Nat),i<r->j<r->Ints W1 A1 3 .i64 (zP (zv k (k+i)))->Ints W2 A2 3 .i64 (zP (zv k (k+j)))->Ext w W->Ext W1 W->Ext W2 W->Calls Tryz.prog 167 #[.slice A n c,.slice A1 (k+1) c1,.slice A2 (k+1) c2] W (jl W (zL m (zv k (k+i)) (zv k (k+j))))):=Zh (fun W1 W2 W A1 A2 c1 c2 i j hi hj e1 e2 x0 x1 x2=>by
  have :=zdn (w:=W) (c:=c) (cR:=c1) (cC:=c2) h0 e1 e2 hn (by rw [ZY];omega) (by rw [ZY];omega) (by rw [h1];exact JR (by omega) (by omega)) (JR (by omega) (by omega));rw [h1,ZY,ZY] at this;exact this)
 have HDT:Hid (∀(W1 W:World) (A1:Option Addr) (c1 i j:Nat),i<r->j<r->MatV W1 A1 (zL m (zv k (k+i)) (zv k (k+j)))->Ext W1 W->Calls Tryz.prog 146 #[.slice A1 (k+1) c1] W (zu W (E (ent m) k (k+i) (k+j)))):=Zh (fun W1 W A1 c1 i j hi hj hM e1=>by
  rw [<-JI hp (k+i) (k+j)];exact zdp hM (by omega) hb hb1 hbb)
 have HSL:Hid (∀i j,(zL m (zv k i) (zv k j)).length=k+1):=Zh (fun i j=>by rw [JQ,ZY]);have HFL:Hid (∀i,(zP (zv k i)).length=k+1):=Zh (fun i=>by rw [zdm,ZY]);have HFI:Hid (∀(W:World) (i:Nat),Calls Tryz.prog 168 #[.int .i64 k,.int .i64 i] W (zdk W (zP (zv k i)))):=Zh (fun W i=>zgr k i (by omega));have HST:Hid (ZS m k=tab (fun i j=>E (ent m) k (k+i) (k+j)) r r):=Zh (by unfold ZS;rw [h1,hr]);rw [HST.out,<-hr]
 obtain ⟨F,hF⟩:∃F:Nat->Nat->Int,F=fun i j=>E (ent m) k (k+i) (k+j):=⟨_,rfl⟩
 rw [<-hF];have hFij:∀i j,E (ent m) k (k+i) (k+j)=F i j:=fun i j=>by rw [hF]
 have zp9:Hid (∀(W1 W:World) (A1:Option Addr) (c1 i j:Nat),i<r->j<r->MatV W1 A1 (zL m (zv k (k+i)) (zv k (k+j)))->Ext W1 W->Calls Tryz.prog 146 #[.slice A1 (k+1) c1] W (zu W (F i j))):=Zh (fun W1 W A1 c1 i j hi hj hM e1=>by
  have :=HDT.out W1 W A1 c1 i j hi hj hM e1;rwa [hFij] at this)
 have hnk:(n:Int)-(k:Int)=(r:Int):=by omega
 have hrw:IntKind.i64.wrap ((n:Int)-k)=(r:Int):=by rw [show (n:Int)-k=(r:Int) by omega];exact IntWalk.i64_in _ (by omega)
 clear hn hb h1 hp HDT HST hF hFij hr;go_enter Tryz.func166,Tryz.ntmps166;go_wp2_with (go_at_call 148;refine (zaC r r (by omega) (by omega)).mono ?_;rintro e w3 ⟨g,hs,cz,rfl,hO,zqw,zqJ,hs2⟩;rw [zn] at zqw |-;have HO:=Zh hO;clear hO)
 have hx3:Ext w w3:=Zi;go_loopw [7,8,18,26] (fun _ _ i _ wr=>∃q:Nat,q<=r/\i= .int .i64 q/\Hid (OwnI wr w.heap.size g r hs (tab (qy F q 0) r r))/\Ext w wr) (fun _ _ i _ _=>r-(intOf i).toNat)
 case atStart=>exact ⟨0,by omega,rfl,Zh (by rw [zdh];exact HO.out),Zi⟩
 case round=>
  obtain ⟨i,hi,rfl,HO1,hxr⟩:=hrel;obtain ⟨wo,rfl⟩:∃wo:World,wo=wr:=⟨_,rfl⟩;by_cases hlt:i<r
  ·obtain ⟨b0,c0,hp0,d1,d2,d3,d4,d5,d6⟩:=HO1.out.hdr (i:=i) (by rw [zn];exact hlt);clear hp0;go_wp2_with fail
   go_loopw [8,26] (fun _ j wr=>∃q:Nat,q<=r/\j= .int .i64 q/\Hid (OwnI wr w.heap.size g r hs (tab (qy F i q) r r))/\Ext w wr) (fun _ j _=>r-(intOf j).toNat)
   case atStart=>exact ⟨0,by omega,rfl,HO1,Zi⟩
   case round=>
    obtain ⟨q,hq,rfl,HO2,hxq⟩:=hrel;by_cases zqj:q<r
    ·obtain ⟨b1,c1,hp1,f1,f2,f3,f4,f5,f6⟩:=HO2.out.hdr (i:=i) (by rw [zn];exact hlt);have HP1:=Zh hp1;have HX:=Zh (fun W hh=>HO2.out.hdrX hp1 (by rw [zn];exact hlt) W hh);have hlo:=HO2.out.lo_row hp1;have hnw:New b1 w:=⟨hlo⟩;have HE:Hid (∀W,Ext wr W->∃s B k' d,W.cell? ⟨b1,q*2,none⟩=some (.bool s)/\W.cell? ⟨b1,q*2+1,none⟩=some (.slice B k' d)/\W.frozen? ⟨b1,q*2,none⟩=false/\W.frozen? ⟨b1,q*2+1,none⟩=false/\b1<W.heap.size):=Zh (fun W hh=>by
      obtain ⟨s,B,k',d,a1,a2,-,a4,a5⟩:=(HO2.out.ext hh).entry (i:=i) HP1.out (by rw [zn];exact hlt) zqj;exact ⟨s,B,k',d,a1,a2,a4,a5,Nat.lt_of_lt_of_le f5 hh.size⟩)
     have hki:IntKind.i64.wrap ((k:Int)+(i:Int))=((k+i:Nat):Int):=by rw [show (k:Int)+(i:Int)=((k+i:Nat):Int) by simp];exact IntWalk.i64_in _ (by omega)
     have hkq:IntKind.i64.wrap ((k:Int)+(q:Int))=((k+q:Nat):Int):=by rw [show (k:Int)+(q:Int)=((k+q:Nat):Int) by simp];exact IntWalk.i64_in _ (by omega)
     have HF1:=Zh (fun W=>HFI.out W (k+i));have HF2:=Zh (fun W=>HFI.out W (k+q));clear hp1;go_wp2_with fail
     go_region_held3 (fun w'=>w'.cell? ⟨g,i,none⟩=some (.slice (some ⟨b1,0,none⟩) r c1))
      (first |exact (HX.out _ Zi).1 |exact (HX.out _ Zi).2 _ _ _ _)
      (first
       |(have hh:=hI6;clear hh;go_at_call 168;refine (HF2.out _).mono ?_;rintro e w7 ⟨A7,c7,rfl,hI7,-,-,hs7⟩;rw [HFL.out])
       |(go_at_call 168;refine (HF1.out _).mono ?_;rintro e w6 ⟨A6,c6,rfl,hI6,-,-,hs6⟩;rw [HFL.out])
       |(go_at_call 167;refine (HSE.out _ _ _ _ _ _ _ i q hlt zqj hI6 hI7 Zi Zi Zi).mono ?_;rintro e w8 ⟨A8,c8,rfl,hM8,-,-,hs8⟩;rw [HSL.out])
       |(go_at_call 146;refine (zp9.out _ _ _ _ i q hlt zqj hM8 Zi).mono ?_;rintro e w5 ⟨g5,B5,k5,n5,rfl,hz5,hs5⟩;obtain ⟨s6,B6,k6,n6,u1,u2,u3,u4,u5⟩:=HE.out w5 Zi))
     go_wp2_with fail
     refine ⟨⟨q+1,by omega,by go_num,Zh ?_,?_⟩,by simp [intOf]<;>omega⟩
     ·have hO5:=(HO2.out.ext (Zi:Ext wr w5)).set HP1.out (by rw [zn];exact hlt) zqj hz5;rw [zde hlt zqj] at hO5;exact hO5
     ·exact ((Zi:Ext w w5).setCell (p:=⟨b1,q*2,none⟩) hlo _).setCell (p:=⟨b1,q*2+1,none⟩) hlo _
    ·obtain rfl:q=r:=by omega
     go_wp2_with fail
     exact ⟨⟨i+1,by omega,by go_num,Zh (by rw [<-zdf];exact HO2.out),hxq⟩,by simp [intOf]<;>omega⟩
  ·obtain rfl:i=r:=by omega
   go_wp2_with fail
   go_ret;have h:=HO1.out;rw [zdg] at h;exact ⟨g,hs,cz,by rw [zn];rfl,h,by rw [zn];exact zqw,zqJ,hxr.toStep⟩
def zbE (w:World) (m:List (List Int)) (e:Ending) (w':World):Prop:=∃B d,e= .returned (.tuple #[.slice B m.length d,.bool true])/\StV w' B ((List.range m.length).map (ZS m))/\m.length<=d/\d<=9223372036854775807/\Step w w'
def StHd (w:World) (m:List (List Int)) (q:Nat) (vs:List Value):Prop:=vs.length=q/\∀i,i<q->∃B c,vs[i]? =some (.slice B (m.length-i) c)/\MatV w B (ZS m i)/\m.length-i<=c/\c<=9223372036854775807
theorem StHd.map {w w':World} {m:List (List Int)} {q:Nat} {vs:List Value} (h:StHd w m q vs) (hk:∀{B:Option Addr} {M:List (List Int)},MatV w B M->MatV w' B M):StHd w' m q vs:=⟨h.1,fun i hi=>by
 obtain ⟨B,c,a1,a2,a3⟩:=h.2 i hi;exact ⟨B,c,a1,hk a2,a3⟩⟩
theorem StHd.snoc {w:World} {m:List (List Int)} {q:Nat} {vs:List Value} (h:StHd w m q vs) {B:Option Addr} {c:Nat} (hM:MatV w B (ZS m q)) (h1:m.length-q<=c) (h2:c<=9223372036854775807):StHd w m (q+1) (vs++[.slice B (m.length-q) c]):=by
 refine ⟨by simp [h.1],fun i hi=>?_⟩;rcases Nat.lt_or_ge i q with hlt |hge
 ·obtain ⟨B',c',a1,a2,a3⟩:=h.2 i hlt;exact ⟨B',c',by rw [List.getElem?_append_left (by rw [h.1];exact hlt)];exact a1,a2,a3⟩
 ·obtain rfl:i=q:=by omega
  exact ⟨B,c,by rw [List.getElem?_append_right (by rw [h.1];exact Nat.le_refl _),h.1,Nat.sub_self];rfl,hM,h1,h2⟩
theorem StHd.stV {w:World} {m:List (List Int)} {vs:List Value} {A:Option Addr} (h:StHd w m m.length vs) (ha:Arr w A 79 vs):StV w A ((List.range m.length).map (ZS m)):=by
 refine ⟨vs,by simp [h.1],ha,fun i M hM=>?_⟩;rw [List.getElem?_map] at hM
 cases hr:(List.range m.length)[i]? with
 |none=>rw [hr] at hM;cases hM
 |some j=>
  have hij:i=j/\i<m.length:=by
   obtain ⟨h1,h2⟩:=List.getElem?_eq_some_iff.1 hr;simp at h1 h2;exact ⟨h2,h1⟩
  obtain ⟨rfl,hi⟩:=hij;rw [hr] at hM;injection hM with hM
  subst hM;obtain ⟨B,c,a1,a2,a3⟩:=h.2 i hi;exact ⟨B,c,by rw [zbD];exact a1,a2,by rw [zbD];exact a3.1,a3.2⟩
set_option maxRecDepth 20000 in
theorem zn3 {w0 w:World} {A:Option Addr} {c n b:Nat} {m:List (List Int)} (h:MatV w0 A m) (h1:m.length=n) (h3:1<=n) (h4:n<=8) (hn:AllLen m n) (hb:BdM b m) (hb1:1<=b) (hbb:b<=1000000) (hp:Pos (zb (ent m)) n) [hx:Ext w0 w]:
  Calls Tryz.prog 105 #[.slice A n c] w (zbE w m):=by
 have h0:=h.ext hx;have HLE:=Zh (fun W (e1:Ext w W)=>zaG (w:=W) (c:=c) h0 h1 h3 h4 hn hb hb1 hbb);have HLL:Hid ((zl m).length=n):=Zh (by rw [Qm];exact h1);have HPX:Hid (∀i,i<n->0<(zl m).getD i 0):=Zh (fun i hi=>by
  rw [zcW (by rw [h1];exact hp) (by rw [h1];exact hi)];exact Z7 hp hi)
 have HBX:Hid (Qz (256*(b+1)) (zl m)):=Zh (JT (by omega) hb1 hb);have HSG:Hid (∀(W:World) (k:Nat),k<n->Ext w W->Calls Tryz.prog 166 #[.slice A n c,.int .i64 k] W (RetOwnI W (n-k) (ZS m k))):=Zh (fun W k hk e=>zn2 h0 h1 h4 hn hb hb1 hbb hk (fun l hl=>by have :=Z7 hp (show l<n by omega);omega));have HSL:Hid (∀k,(ZS m k).length=n-k):=Zh (fun k=>by rw [zbD,h1]);unfold zbE;have HM1:=Zh h1;rw [h1];have hbk:b<=1000000:=hbb
 have hw:IntKind.i64.wrap ((n:Int)-1)=((n-1:Nat):Int):=by rw [show (n:Int)-1=((n-1:Nat):Int) by omega];exact IntWalk.i64_in _ (by omega)
 clear hn hb hp h1 h;generalize zl m=ds at*
 go_enter Tryz.func105,Tryz.ntmps105;go_wp2_with (go_at_call 106;refine (HLE.out _ Zi).mono ?_;rintro e w1 ⟨BD,dD,rfl,hI1,hd1,hd2,hs1⟩;rw [HLL.out] at hd1 |-;have HI:=Zh hI1;clear hI1)
 have zqV:Ext w w1:=Zi;go_loopw [7,23] (fun _ i wr=>∃q:Nat,q<=n-1/\i= .int .i64 q/\Ext w1 wr) (fun _ i _=>n-1-(intOf i).toNat)
 case atStart=>exact ⟨0,by omega,rfl,Zi⟩
 case round=>
  obtain ⟨q,hq,rfl,hxr⟩:=hrel;have zqB:Ext w wr:=zqV.trans hxr;by_cases hlt:q<n-1
  ·obtain ⟨bb,ob,g,B,k,d,rfl,y1,y2,hz,hb2⟩:=(HI.out.ext hxr).atD (i:=q) (by rw [HLL.out];omega);have zqm:=HPX.out q (by omega);have zqg:=hz.bd (HBX.out q) (by omega);generalize ds.getD q 0=z at*
   have hcz:(zg z 0==0)=false:=by rw [qF zqm];rfl
   have HS:Hid (∀W,Ext wr W->Calls Tryz.prog 165 #[.agg #[.bool g,.slice B k d]] W (zt W (.int .i64 (zg z 0)))):=Zh (fun W e=>Qv hz (by omega));clear hz zqm;generalize zg z 0=cz at*
   go_wp2_with (go_at_call 165;refine (HS.out _ Zi).mono ?_;rintro e w2 ⟨rfl,hs2⟩)
   exact ⟨⟨q+1,by omega,by go_num,Zi⟩,by simp [intOf]<;>omega⟩
  ·obtain rfl:q=n-1:=by omega
   clear hlt hq;go_wp2_with fail
   go_loopw [8,9,33] (fun s8 _ i wr'=>∃(q:Nat) (A1:Option Addr) (c1:Nat) (vs:List Value),q<=n/\i= .int .i64 q/\s8= .slice A1 q c1/\Hid (Own wr' w.heap.size 79 1 A1 q c1 vs)/\Hid (StHd wr' m q vs)/\Ext w wr') (fun _ _ i _=>n-(intOf i).toNat)
   case atStart=>exact ⟨0,none,0,[],by omega,rfl,rfl,Zh (Own.nil _ _ _ _),Zh ⟨rfl,fun i hi=>absurd hi (by omega)⟩,zqB⟩
   case round=>
    obtain ⟨k,A1,c1,vs,hk,rfl,rfl,HO,HV,hxk⟩:=hrel;by_cases hlt:k<n
    ·have HS:Hid (∀W,Ext w W->Calls Tryz.prog 166 #[.slice A n c,.int .i64 k] W (jl W (ZS m k))):=Zh (fun W e=>(HSG.out W k hlt e).mono fun _ _ h=>h.mat);have hkl:=HSL.out k;go_wp2_with fail
     refine (HS.out _ Zi).mono ?_;rintro e w5 ⟨B5,c5,rfl,hM5,zrS,zsh,hs5⟩;rw [hkl] at zrS |-
     have hx5:Ext wr w5:=Zi;have HM5:=Zh hM5;clear hM5 hkl;go_wp2_with (at_builtin;refine zE _ rfl _ _ 86 rfl w.heap.size 79 (.slice none 0 0) 1 24 Tryz.underlying86 zcb rfl (by omega) (by omega) A1 k c1 vs rfl (HO.out.ext Zi) (some ⟨w5.heap.size,0,none⟩) 1 1 [.slice B5 (n-k) c5] rfl (Arr.new w5 79 #[.slice B5 (n-k) c5]) rfl (zgs _ _ _) (by omega) (by have :=(hxk.trans hx5).size;simp;omega) ?_;intro A6 c6 w6 zqe hg;have HO6:=Zh zqe;have HG6:=Zh hg;have hx6:Ext w w6:=hg.ext Zi (Nat.le_refl _);clear zqe hg)
     refine ⟨⟨k+1,A6,c6,vs++[.slice B5 (n-k) c5],by omega,by go_num,rfl,HO6,Zh ?_,hx6⟩,by simp [intOf]<;>omega⟩;have hxa:Ext w5 (w5.alloc (.cells #[.slice B5 (n-k) c5] 79)):=Zi;have h6:=StHd.snoc (m:=m) (HV.out.map fun h=>(h.ext hx5).ext hxa) (HM5.out.ext hxa) (c:=c5) (by rw [HM1.out];exact zrS) zsh;rw [HM1.out] at h6;exact h6.map fun h=>h.grow HG6.out (by decide) (by decide) (by decide)
    ·obtain rfl:k=n:=by omega
     go_wp2_with fail
     go_ret2
     have hst:=HV.out;rw [<-HM1.out] at hst;have zrt:=hst.stV HO.out.arr;rw [HM1.out] at zrt;exact ⟨A1,c1,rfl,zrt,HO.out.cap.1,HO.out.cap.2,hxk.toStep⟩
def zn4 (w:World) (m:List (List Int)) (b:Int) (e:Ending) (w':World):Prop:=∃B d L,e= .returned (.tuple #[.slice B (List.length L) d,.int .i64 0])/\Mat64 w' B L/\L.length<=d/\d<=9223372036854775807/\VecList m b false L/\L.length<=8000/\Step w w'
theorem zn5 {m:List (List Int)} (hr:Ze m=true) {b:Int} (hb0:0<=b) (hb:b<1073741824):TreeOK m b:=by
 have hR:=Zw hr;have hl:=ZJ hR.small;have hN:=hR.form.num b hb0 hb;refine ⟨hR.form,hR.s64,zfY hr,hb0,by omega,hl.1,hl.2,hN.dl,hN.ll,hN.row,hN.d1,hN.d2,hN.lam,hb0,fun k hk=>?_⟩;have a1:=hN.d1 k (by omega);have a2:=hN.d2 k (by omega);have b1:=hN.d1 (k+1) (by omega);have b2:=hN.d2 (k+1) (by omega);have m1:vD (za m m.length) (k+1)*b<=65535*1073741823:=Int.mul_le_mul (by omega) (by omega) (by omega) (by omega)
 have m0:0<=vD (za m m.length) (k+1)*b:=Int.mul_nonneg (by omega) (by omega);have m2:vD (za m m.length) (k+1)*b*vD (za m m.length) k<=65535*1073741823*65535:=Int.mul_le_mul m1 (by omega) (by omega) (by omega);omega
end Go.Proofs.YtjehjkipcaohpaaGreat
namespace Go.Proofs.YtjehjkipcaohpaaGreat
open Go.RowKit
theorem zn6 {w:World} {dim kind bound:Int} {NA:Option Addr} {l:List Int} {nc:Nat} {v3:Value} {te:TypeId} (hN:Ints w NA te .i8 l) (h8:I8 l) (hl:l.length<=9223372036854775807) (hd0:0<=dim) (hd1:dim<256) (hk0:0<=kind) (hk1:kind<256) (hb0:0<=bound) (hb1:bound<256):
  Calls Tryz.prog 40 #[.agg #[.int .u8 dim,.int .u8 kind,.slice NA l.length nc,v3],.int .u8 bound] w (zdz w (1+(dim%4).toNat) bound):=by
 have HG:Hid (∀W,Ext w W->Calls Tryz.prog 27 #[.agg #[.int .u8 dim,.int .u8 kind,.slice NA l.length nc,v3],.int .i64 4] W (zha W (1+(dim%4).toNat))):=Zh (fun W e=>znS (most:=4) (hN.ext e) h8 hl hd0 hd1 hk0 hk1 (by omega) (by omega));have hn4:1+(dim%4).toNat<=4:=by omega
 clear hN h8;generalize 1+(dim%4).toNat=n at*
 have e1:IntKind.i64.wrap (2*(n:Int))=2*(n:Int):=IntWalk.i64_in _ (by omega);have e2:IntKind.i64.wrap (13-2*(n:Int))=13-2*(n:Int):=IntWalk.i64_in _ (by omega);have e3:((13-2*(n:Int))==0)=false:=by simp;omega
 have e4:bound.tmod (13-2*(n:Int))=bound%(13-2*(n:Int)):=Int.tmod_eq_emod_of_nonneg hb0;have e5:IntKind.i64.wrap bound=bound:=IntWalk.i64_in _ (by omega);have e6:=Int.emod_nonneg bound (show 13-2*(n:Int)≠0 by omega);have e7:=Int.emod_lt_of_pos bound (show 0<13-2*(n:Int) by omega);have e8:IntKind.i64.wrap (bound%(13-2*(n:Int)))=bound%(13-2*(n:Int)):=IntWalk.i64_in _ (by omega);go_enter Tryz.func40,Tryz.ntmps40
 go_wp2_with (go_at_call 27;refine (HG.out _ Zi).mono ?_;rintro e w1 ⟨a,hh,A1,c1,rfl,hGm,hLL,zqg,hRel,hM3,hc1,hc2,hs3⟩)
 have HM:=Zh hM3;clear hM3;go_quiet (fail)
 go_wp2_with fail
 go_ret2
 exact ⟨a,hh,A1,c1,rfl,hGm,hLL,zqg,hRel,HM.out.ext Zi,hc1,hc2,Step.of _ _⟩
end Go.Proofs.YtjehjkipcaohpaaGreat
namespace Go.Proofs.YtjehjkipcaohpaaGreat
open Go.RowKit
open La
theorem zn7 (m:List (List Int)) (b:Int):1<=(z8 m b).length:=by
 unfold z8
 cases m.length-1<;>simp [tE]
theorem zn8 {m:List (List Int)} (hr:Ze m=true) {b:Nat} (h4:m.length<=4) (hb:b+2*m.length<=12∨b<=6∨(m.length<=3/\b<=8)):(z8 m b).length<=8001:=by
 have hR:=Zw hr;have hl:=ZJ hR.small;by_cases h1:m.length=1
 ·rw [znH hR h1 (by omega)];simp
 ·have :=znF hR (by omega) (b:=(b:Int)) (by omega) (by omega);have :=zhb hr h4 hb;omega
end Go.Proofs.YtjehjkipcaohpaaGreat
namespace Go.Proofs.YtjehjkipcaohpaaGreat
open La
def fB (m:List (List Int)) (s i j:Nat):Int:=E (ent m) s (s+i) (s+j)
def fL (m:List (List Int)) (s:Nat) (t:List Int):Int:=zz t.length fun j=>fB m s 0 (j+1)*t.getD j 0
def fC (m:List (List Int)) (s:Nat) (t:List Int):Int:=zz t.length fun i=>t.getD i 0*zz t.length fun j=>fB m s (i+1) (j+1)*t.getD j 0
theorem zhj (m:List (List Int)) (s:Nat) (t:List Int):fL m s t=Zr (E (ent m) s s) (s+1) t:=by
 rw [zaJ];refine qw fun j _=>?_
 unfold fB;rw [show s+1+j=s+(j+1) by omega,Nat.add_zero]
theorem zn9 (m:List (List Int)) (s:Nat) (t:List Int):fL m s t=lE (ent m) s (0::t):=by
 rw [zhj];unfold lE;rw [Zr,Int.mul_zero,Int.zero_add]
theorem zoa (m:List (List Int)) (s:Nat) (t:List Int):fC m s t=qE (ent m) s (0::t):=by
 unfold qE QN;rw [Zr,Int.mul_zero,Int.zero_add,zaJ];unfold fC;refine qw fun i _=>?_
 rw [Int.mul_comm];congr 1
 rw [Zr,Int.mul_zero,Int.zero_add,zaJ];refine qw fun j _=>?_
 unfold fB;rw [show s+1+j=s+(j+1) by omega,show s+1+i=s+(i+1) by omega]
theorem zob {m:List (List Int)} (hr:RedOK m) {s:Nat} (hs:s<m.length) (b:Int) (t:List Int) (ht:t.length=m.length-1-s) (h0:0<=left (ent m) b (s+1) t):
  0<=fL m s t*fL m s t-fB m s 0 0*(fC m s t-b*zo (ent m) s)/\
  ((zk (fL m s t*fL m s t-fB m s 0 0*(fC m s t-b*zo (ent m) s)).toNat:Int)-fL m s t) / fB m s 0 0=zx m b s t/\
  -(((zk (fL m s t*fL m s t-fB m s 0 0*(fC m s t-b*zo (ent m) s)).toNat:Int)+fL m s t) / fB m s 0 0)=zf m b s t/\0<fB m s 0 0:=by
 have hp:=Z7 hr.pos hs;have hb:fB m s 0 0=zo (ent m) (s+1):=rfl;have hd:fL m s t*fL m s t-fB m s 0 0*(fC m s t-b*zo (ent m) s)=Zj (za m m.length) s (left (ent m) b (s+1) t):=by
  rw [zn9,zoa,hb,znJ hr hs,Zj,ZW (by omega)]
 have hl:0<zo (ent m) s:=Zv hr.pos (by omega);rw [hd];have hv:Zp (zd m m.length) s t=fL m s t:=by rw [zc2 hs t ht,zhj]
 have hD:vD (za m m.length) (s+1)=fB m s 0 0:=by rw [ZW (by omega)];rfl
 refine ⟨?_,?_,?_,hp⟩
 ·unfold Zj;rw [ZW (by omega)];exact Int.mul_nonneg (Int.le_of_lt hl) h0
 ·unfold zx Zf vR;rw [hv,hD]
 ·unfold zf zB vR;rw [hv,hD]
def ZA (m:List (List Int)) (b:Int) (k:Nat) (t:List Int):List (Int×Int):=z9 (za m m.length) (zd m m.length) m.length k (left (ent m) b (k+1) t) t
def Zk (m:List (List Int)) (b:Int) (k:Nat) (t:List Int) (q:Nat):List (Int×Int):=(List.range q).flatMap fun (j:Nat)=>ZA m b k ((zf m b (k+1) t+(j:Int))::t)
theorem zdE (m:List (List Int)) (b:Int) (k:Nat) (t:List Int) (q:Nat):Zk m b k t (q+1)=Zk m b k t q++ZA m b k ((zf m b (k+1) t+(q:Int))::t):=by
 unfold Zk;rw [List.range_succ,List.flatMap_append,List.flatMap_singleton]
theorem zdF (m:List (List Int)) (b:Int) (t:List Int):ZA m b 0 t=[((m.length:Int),zx m b 0 t-zf m b 0 t+1)]:=rfl
theorem zhk {m:List (List Int)} (hr:RedOK m) {k:Nat} (hk:k+1<m.length) (b:Int) (t:List Int) (ht:t.length=m.length-1-(k+1)):
  ZA m b (k+1) t=((m.length:Int)-(k+1:Nat),zx m b (k+1) t-zf m b (k+1) t+1)::Zk m b k t (zD m b (k+1) t):=by
 unfold ZA Zk zD;rw [z9];congr 1
 refine congrArg (fun F=>List.flatMap F _) ?_;funext j
 rw [qx hr (by omega) b t ht];rfl
def Zb (cs:List Int) (ys:List (Int×Int)):List Int:=(List.range cs.length).map fun i=>cs.getD i 0+zM ys i
theorem zbF (cs:List Int) (ys:List (Int×Int)):(Zb cs ys).length=cs.length:=by simp [Zb]
theorem zoc {cs:List Int} {ys:List (Int×Int)} {i:Nat} (h:i<cs.length):(Zb cs ys).getD i 0=cs.getD i 0+zM ys i:=by
 simp [Zb,List.getD,h]
theorem zdG (cs:List Int):Zb cs []=cs:=by
 apply List.ext_getElem
 ·exact zbF _ _
 ·intro i h1 h2;simp [Zb,zM,h2]
theorem zhl (cs:List Int) (a b:List (Int×Int)):Zb (Zb cs a) b=Zb cs (a++b):=by
 unfold Zb;simp only [List.length_map,List.length_range];refine List.map_congr_left fun i hi=>?_
 have hi':i<cs.length:=by simpa using hi
 rw [zc6];simp [List.getD,hi'];omega
theorem zhm {cs:List Int} {ys:List (Int×Int)} (h:∀p∈ys,1<=p.1/\p.1<=(cs.length:Int)):(Zb cs ys).sum=cs.sum+zA ys:=by
 unfold Zb;rw [zf5 (List.range cs.length) (fun i=>cs.getD i 0) (zM ys),zc8 _ _ h];congr 2
 apply List.ext_getElem
 ·simp
 ·intro i h1 h2;simp [h2]
theorem zod {cs:List Int} {i:Nat} {z:Int} (h:i<cs.length):Zb cs [((i:Int)+1,z)]=cs.set i (cs.getD i 0+z):=by
 apply List.ext_getElem
 ·simp [Zb]
 ·intro j h1 h2;have hj:j<cs.length:=by simpa using h2
  simp only [Zb,List.getElem_map,List.getElem_range,zM,List.getElem_set];by_cases e:i=j
  ·subst e;rw [if_pos (by omega),if_pos rfl];simp [h]
  ·rw [if_neg (by omega),if_neg e];simp [hj]
theorem zdH {m:List (List Int)} (hr:RedOK m) {b:Int} (hb:0<=b) (hb1:b<1073741824) {k:Nat} {t:List Int} (hk:k<m.length) (ht:t.length=m.length-1-k) (h0:0<=left (ent m) b (k+1) t):∀p∈ZA m b k t,0<=p.2/\1<=p.1/\p.1<=(m.length:Int):=zc7 hr hb hb1 k t hk ht h0
theorem zoe {m:List (List Int)} (hr:RedOK m) {b:Int} (hb:0<=b) (hb1:b<1073741824) {k:Nat} {t:List Int} (hk:k+1<m.length) (ht:t.length=m.length-1-(k+1)) (h0:0<=left (ent m) b (k+2) t) {q:Nat} (hq:q<=zD m b (k+1) t):∀p∈Zk m b k t q,0<=p.2/\1<=p.1/\p.1<=(m.length:Int):=fun p hp=>by
 unfold Zk at hp;rw [List.mem_flatMap] at hp;obtain ⟨j,hj,hp⟩:=hp;rw [List.mem_range] at hj;exact zdH hr hb hb1 (by omega) (by simp [ht];omega) (qL hr t (by omega) ht h0 (j:=j) (by unfold zD zx zf at hq;unfold zK;omega)) p hp
theorem zhn {ys:List (Int×Int)} (h:∀p∈ys,0<=p.2):0<=zA ys:=by
 induction ys with
 |nil=>exact Int.le_refl _
 |cons p ys ih=>
  have :=h p (by simp);have :=ih (fun q hq=>h q (by simp [hq]));simp only [zA];omega
theorem zof {m:List (List Int)} (hr:RedOK m) {b:Int} (hb:0<=b) (hb1:b<1073741824) {k:Nat} {t:List Int} (hk:k+1<m.length) (ht:t.length=m.length-1-(k+1)) (h0:0<=left (ent m) b (k+2) t) {p q:Nat} (hpq:p<=q) (hq:q<=zD m b (k+1) t):zA (Zk m b k t p)<=zA (Zk m b k t q):=by
 induction q with
 |zero=>obtain rfl:p=0:=by omega
        exact Int.le_refl _
 |succ q ih=>
  rcases Nat.lt_or_ge p (q+1) with h |h
  ·have h1:=ih (by omega) (by omega);rw [zdE,zc5];have h2:=zhn (fun p hp=>(zdH hr hb hb1 (b:=b) (k:=k) (t:=(zf m b (k+1) t+(q:Int))::t) (by omega) (by simp [ht];omega) (qL hr t (by omega) ht h0 (j:=q) (by unfold zD zx zf at hq;unfold zK;omega)) p hp).1);omega
  ·obtain rfl:p=q+1:=by omega
   exact Int.le_refl _
theorem zaL {m:List (List Int)} (hr:RedOK m) {b:Int} (hb:0<=b) (hb1:b<1073741824) {k:Nat} {t:List Int} (hk:k<m.length) (ht:t.length=m.length-1-k) (h0:0<=left (ent m) b (k+1) t):
  0<=zx m b k t-zf m b k t+1/\zx m b k t-zf m b k t+1<=1099511627776/\-1099511627776<=zf m b k t/\zf m b k t<=1099511627776/\-1099511627776<=zx m b k t/\zx m b k t<=1099511627776:=by
 have hv:=QI (hr.num hb hb1) (Ql hr hb hb1 t k hk ht h0);have he:=j6 (hr.num hb hb1) (Ql hr hb hb1 t k hk ht h0);have hS:=jm (hr.num hb hb1) (Ql hr hb hb1 t k hk ht h0);have hR:=QX (hr.num hb hb1) (Ql hr hb hb1 t k hk ht h0);unfold zx zf;unfold zK at hv;refine ⟨hv.1,hv.2,?_⟩;omega
def Jl (m:List (List Int)) (b:Int):Nat->List Int->List (Int×Int)
 |0,_=>[]
 |k+1,t=>Zk m b k t (zD m b (k+1) t)
theorem zog {m:List (List Int)} (hr:RedOK m) {k:Nat} (hk:k<m.length) (b:Int) (t:List Int) (ht:t.length=m.length-1-k):
  ZA m b k t=((m.length:Int)-(k:Nat),zx m b k t-zf m b k t+1)::Jl m b k t:=by
 cases k with
 |zero=>rw [zdF];simp [Jl]
 |succ k=>exact zhk hr hk b t ht
theorem zoh {m:List (List Int)} (hr:RedOK m) (h1:m.length=1) {b:Int} (hb:0<=b):zf m b 0 []=-((zk (b / ent m 0 0).toNat:Nat):Int)/\zx m b 0 []=((zk (b / ent m 0 0).toNat:Nat):Int):=by
 have zqm:1<=ent m 0 0:=by
  have :=Zv hr.pos (k:=1) (by omega);have e:zo (ent m) 1=ent m 0 0:=rfl;omega
 obtain ⟨hin,zqW⟩:=zcv zqm hb;have key:∀c:Int,(zf m b 0 []<=c/\c<=zx m b 0 [])↔ent m 0 0*c*c<=b:=fun c=>by
  have h:=Qj hr (k:=0) (by omega) (bound:=b) [] (by simp [h1]) (by have :=Qa hr hb;rw [h1] at this;exact this) c;refine h.trans ?_;rw [Qk (ZF hr.small) b [c] (by simp [h1])];have e:zp m [c]=ent m 0 0*c*c:=by
   rw [JJ (ZF hr.small) _ (by simp [h1])];simp [qE,QN,Zr,E,ent]
  rw [e];omega
 obtain ⟨r,hrr⟩:∃r:Nat,zk (b / ent m 0 0).toNat=r:=⟨_,rfl⟩;rw [hrr] at hin zqW |-
 have a1:ent m 0 0*(r:Int)*r<=b:=by
  by_cases h0:r=0
  ·subst h0;simpa using hb
  ·exact hin r (by omega) (by omega)
 have a2:ent m 0 0*(-(r:Int))*(-(r:Int))<=b:=by
  have :ent m 0 0*(-(r:Int))*(-(r:Int))=ent m 0 0*(r:Int)*r:=by grind
  omega
 have a3:¬ent m 0 0*(-((r:Int)+1))*(-((r:Int)+1))<=b:=by
  have :ent m 0 0*(-((r:Int)+1))*(-((r:Int)+1))=ent m 0 0*((r:Int)+1)*((r:Int)+1):=by grind
  omega
 have b1:=(key r).2 a1;have b2:=(key (-(r:Int))).2 a2;have b3:¬(zf m b 0 []<=-((r:Int)+1)/\-((r:Int)+1)<=zx m b 0 []):=fun h=>a3 ((key (-((r:Int)+1))).1 h)
 have b4:¬(zf m b 0 []<=(r:Int)+1/\(r:Int)+1<=zx m b 0 []):=fun h=>(show ¬ent m 0 0*((r:Int)+1)*((r:Int)+1)<=b by omega) ((key ((r:Int)+1)).1 h)
 constructor<;>omega
theorem zho {m:List (List Int)} (hr:RedOK m) {b:Int} (hb:0<=b):ZT (za m m.length) (zd m m.length) m.length b=ZA m b (m.length-1) []:=by
 have hl:=ZJ hr.small;unfold ZT;by_cases h1:m.length=1
 ·rw [if_pos h1];have e:vD (za m m.length) 1=ent m 0 0:=by rw [ZW (by omega)];rfl
  rw [e];obtain ⟨a1,a2⟩:=zoh hr h1 hb;have :ZA m b (m.length-1) []=[((m.length:Int),zx m b 0 []-zf m b 0 []+1)]:=by rw [show m.length-1=0 by omega];exact zdF m b []
  rw [this,a1,a2,h1];congr 1
  congr 1
  omega
 ·rw [if_neg h1,zbm hr];rfl
theorem zhp {m:List (List Int)} (hr:RedOK m) {b:Int} (hb:0<=b):Z0 m b=zA (ZA m b (m.length-1) []):=by
 unfold Z0;rw [zho hr hb]
theorem zhq {m:List (List Int)} (hr:RedOK m) {b:Int} (hb:0<=b):je m b=Zb (List.replicate m.length 0) (ZA m b (m.length-1) []):=by
 unfold je Zb;rw [zho hr hb,List.length_replicate];refine List.map_congr_left fun i hi=>?_
 have hi':i<m.length:=by simpa using hi
 simp [List.getD,hi']
end Go.Proofs.YtjehjkipcaohpaaGreat
