/- Awk12 Tm1 RefI Tl Tm2 Fr1 Ls1 -/
import Derived.Test.YtjehjkipcaohpaaGreatT21
import Derived.Test.YtjehjkipcaohpaaGreatT17
set_option maxHeartbeats 8000000
set_option linter.unusedVariables false
set_option linter.unusedSimpArgs false
set_option linter.constructorNameAsVariable false
namespace Go.Proofs.YtjehjkipcaohpaaGreat
section
open Go.RowKit
theorem znm {w0 w:World} {A:Option Addr} {c:Nat} {m:List (List Int)} {za budget:Int} {st:List Int} (h:Mat64 w0 A m) (hc:m.length<=c) (hc2:c<=9223372036854775807) (h2:2<=m.length) (hf:FormOK m) (h64:Jo m) (h8:m.length<=8) (hb0:0<=za) (hb1:za<1073741824) (hs:qn m za budget=(st,0)) {C:List (Int×Int)} (hC:ZD (ze m m.length) (zh m m.length) (m.length-1) (vD (ze m m.length) m.length*za) []=C) (zp9:C.length<=1073741824) (hbd:∀p∈C,-9223372036854775808<=p.1/\p.1<=9223372036854775807/\-9223372036854775808<=p.2/\p.2<=9223372036854775807) [hx:Ext w0 w]:
  Calls Tryz.prog 45 #[.slice A m.length c,.int .i64 za,.int .i64 budget] w fun e w'=>∃B d,e= .returned (.tuple #[.slice B C.length d,.int .i64 0])/\IvV w' B C/\Step w w':=by
 have hst:=fun W (hh:Ext w0 W)=>zjY (w:=W) (za:=za) (budget:=budget) h (by omega) hc hc2 (fun _=>hf)
 rw [hs] at hst;have hiv:=fun W (hh:Ext w0 W)=>zlp (w:=W) (c:=c) h h2 hf h64 hb0 hb1 (by rw [hC];exact zp9) (by rw [hC];exact hbd)
 rw [hC] at hiv;have HST:=Zh hst;have HIV:=Zh hiv;clear hst hiv hs hC hf;go_enter Tryz.func45,Tryz.ntmps45;go_wp2_with (first
  |(go_at_call 49;refine (HST.out _ Zi).mono ?_;rintro e w1 ⟨A1,c1,rfl,hI,k1,k2,hs1⟩)
  |(go_at_call 70;refine (HIV.out _ Zi).mono ?_;rintro e w2 ⟨A2,c2,rfl,hI2,k3,k4,hs2⟩))
 go_ret2
 exact ⟨A2,c2,rfl,hI2.toV,Step.of _ _⟩
theorem znn:ChkN (ze m2 2) (zh m2 2) 2 2:=by
 rw [zfo,zfp];exact ⟨by decide,by decide,rfl,rfl,by decide,by decide,by decide,by decide,by decide,by decide⟩
theorem zno:TreeOK m2 2:=⟨zfr,zfs,zkB,by decide,by decide,znn⟩
def Q6:List (Int×Int):=[(-1,1),(0,1),(-1,1),(-1,0)]
theorem znp:ZD (ze m2 m2.length) (zh m2 m2.length) (m2.length-1) (vD (ze m2 m2.length) m2.length*2) []=Q6:=by decide
def zdJ:List (List Int):=[[1,-1],[1,0],[0,1]]
theorem zg2:QT m2 2 Q6=some zdJ:=by decide
theorem znq {L:List (List Int)} (hp:L.Perm (zdJ.map zJ)) (hw:L.Pairwise (fun x y=>qu (zu m2 x) (zu m2 y) x y<0)):L=zaE:=
 zkG hp hw (by decide) (by decide) (by decide)
theorem znr {w0 w:World} {A B:Option Addr} {d:Nat} (h:Mat64 w0 A m2) (hC:IvV w0 B Q6) [hx:Ext w0 w]:
  Calls Tryz.prog 42 #[.slice A 2 2,.int .i64 2,.slice B 4 d] w fun e w'=>∃X c,e= .returned (.tuple #[.slice X 3 c,.int .i64 0])/\Mat64 w' X zaE/\Step w w':=by
 have hv:∀l,QT m2 2 Q6=some l->l.length<=4096->(∀x∈l,VecOK m2 x)/\(l.map zJ).Nodup:=fun l hl _=>by
  rw [zg2] at hl;injection hl with hl
  subst hl;refine ⟨fun x hx=>?_,by decide⟩;simp only [zdJ,List.mem_cons,List.not_mem_nil,or_false] at hx;rcases hx with rfl |rfl |rfl<;>exact ⟨by decide,by decide,by decide⟩
 have :=zfC (w:=w) (c:=2) (d:=d) h (by decide) (by decide) zno hC (by decide) hv;rw [zg2] at this;refine this.mono ?_;intro e w' hp;simp only at hp;rw [if_neg (by decide)] at hp;obtain ⟨X,c,L,he,hM,_,_,h1,h2,hs⟩:=hp;obtain rfl:=znq h1 h2;exact ⟨X,c,he,hM,hs⟩
theorem zns {w0 w:World} {A:Option Addr} (h:Mat64 w0 A m2) [hx:Ext w0 w]:
  Calls Tryz.prog 45 #[.slice A 2 2,.int .i64 2,.int .i64 100] w fun e w'=>∃B d,e= .returned (.tuple #[.slice B 4 d,.int .i64 0])/\IvV w' B Q6/\Step w w':=
 znm (c:=2) h (by decide) (by decide) (by decide) zfr zfs (by decide) (by decide) (by decide) zkF znp (by decide) (by decide)
theorem znt (w:World):IvV (w.alloc (.cells #[.int .i64 (-1),.int .i64 1,.int .i64 0,.int .i64 1,.int .i64 (-1),.int .i64 1,.int .i64 (-1),.int .i64 0] 64)) (some ⟨w.heap.size,0,none⟩) Q6:=
 ⟨⟨_,Arr.new w 64 #[.int .i64 (-1),.int .i64 1,.int .i64 0,.int .i64 1,.int .i64 (-1),.int .i64 1,.int .i64 (-1),.int .i64 0]⟩,by decide⟩
theorem znu (w:World) (s:Nat) (hs:w.heap.size=s) (a b c d e f:Int):Mat64 ((((w.alloc (.cells #[.int .i64 a,.int .i64 b] 2)).alloc (.cells #[.int .i64 c,.int .i64 d] 2)).alloc (.cells #[.int .i64 e,.int .i64 f] 2)).alloc (.cells #[.slice (some ⟨s,0,none⟩) 2 2,.slice (some ⟨s+1,0,none⟩) 2 2,.slice (some ⟨s+1+1,0,none⟩) 2 2] 37)) (some ⟨s+1+1+1,0,none⟩) [[a,b],[c,d],[e,f]]:=by
 subst hs;exact zkI w a b c d e f
set_option maxRecDepth 100000 in
theorem jY {w:World}:Calls Tryz.prog 43 #[] w (zz w (.bool true)):=by
 have HE:Hid (∀W0 W A,Mat64 W0 A m2->Ext W0 W->Calls Tryz.prog 45 #[.slice A 2 2,.int .i64 2,.int .i64 100] W fun e w'=>∃B d,e= .returned (.tuple #[.slice B 4 d,.int .i64 0])/\IvV w' B Q6/\Step W w'):=Zh (fun W0 W A h hx=>zns h);have HV:Hid (∀W A B d,Mat64 W A m2->IvV W B Q6->Calls Tryz.prog 42 #[.slice A 2 2,.int .i64 2,.slice B 4 d] W fun e w'=>∃X c,e= .returned (.tuple #[.slice X 3 c,.int .i64 0])/\Mat64 w' X zaE/\Step W w'):=Zh (fun W A B d h hC=>znr h hC)
 have HSI:Hid (∀W B c C d,IvV W B Q6->IvV W C Q6->Calls Tryz.prog 46 #[.slice B 4 c,.slice C 4 d] W (jA W (.bool true))):=Zh (fun W B c C d h1 h2=>zli (w0:=W) (w:=W) (c:=c) (d:=d) h1 h2 (by simp [Q6]));have HS:Hid (∀W B c C d,Mat64 W B zaE->Mat64 W C zaE->Calls Tryz.prog 25 #[.slice B 3 c,.slice C 3 d] W (jA W (.bool true))):=Zh (fun W B c C d h1 h2=>zfn (w0:=W) (w:=W) (c:=c) (d:=d) h1 h2 (by decide) (by decide) (by decide) (by decide))
 have hM:=zkH w 2 1 1 2;have HM:=Zh hM;clear hM;go_enter Tryz.func43,Tryz.ntmps43;go_wp2_with (first
  |(go_at_call 45;refine (HE.out _ _ _ HM.out Zi).mono ?_;rintro e w1 ⟨B1,d1,rfl,hI1,hs1⟩)
  |(go_at_call 42;refine (HV.out _ _ _ _ (HM.out.ext Zi) hI1).mono ?_;rintro e w2 ⟨X2,c2,rfl,hM2,hs2⟩)
  |(go_at_call 46;refine (HSI.out _ _ _ _ _ (hI1.ext Zi) (znt w2)).mono ?_;rintro e w3 ⟨rfl,n3,rfl⟩)
  |(go_at_call 25;refine (HS.out _ _ _ _ _ (hM2.ext Zi) (znu ((w2.alloc (.cells #[.int .i64 (-1),.int .i64 1,.int .i64 0,.int .i64 1,.int .i64 (-1),.int .i64 1,.int .i64 (-1),.int .i64 0] 64)).drewN n3) (w2.heap.size+1) Sz.eq 0 1 1 (-1) 1 0)).mono ?_;rintro e w4 ⟨rfl,n4,rfl⟩))
 go_ret;exact ⟨rfl,Step.of _ _⟩
end
section
open La
theorem znv {mi sh lim c:Int}:Za mi sh lim c=true↔zM mi sh c*zM mi sh c<=lim:=by
 simp [Za]
theorem znw {mi sh lim lo hi:Int} (hm:1<=mi) {a b:Int} (hab:a-1<=b) (h:∀c,(a<=c/\c<=b)↔zM mi sh c*zM mi sh c<=lim) (h1:zM mi sh (a-1)<0) (h2:0<zM mi sh (b+1)) (ha:-1099511627776<=a) (hb:b<=1099511627776):Z2 mi sh lim lo hi=true↔lo=a/\hi=b:=by
 have hin:∀c,Za mi sh lim c=true↔a<=c/\c<=b:=fun c=>by rw [znv,<-h]
 have zqR:∀c,Za mi sh lim c=false↔¬(a<=c/\c<=b):=fun c=>by rw [<-hin];cases Za mi sh lim c<;>simp
 have mono:∀c d,c<=d->zM mi sh c<=zM mi sh d:=fun c d hcd=>by
  unfold zM;have :mi*c<=mi*d:=Int.mul_le_mul_of_nonneg_left hcd (by omega);omega
 unfold Z2;constructor
 ·intro hh;split at hh
  ·cases hh
  ·rename_i g0
   split at hh
   ·cases hh
   ·rename_i g
    simp only [Bool.or_eq_true,not_or,Bool.not_eq_true] at g;have g1:=(zqR (lo-1)).1 g.1;have g2:=(zqR (hi+1)).1 g.2;split at hh
    ·rename_i h3
     simp only [Bool.and_eq_true] at hh;have g3:=(hin lo).1 hh.1;have g4:=(hin hi).1 hh.2;omega
    ·rename_i h3
     simp only [Bool.and_eq_true,decide_eq_true_eq] at hh;have e:hi=lo-1:=by omega
     rw [show hi+1=lo by omega] at g2;rw [e] at hh;rcases (by omega:a<=b∨b=a-1) with h4 |h4
     ·exfalso;have k1:=(h a).1 ⟨by omega,by omega⟩;have k2:¬zM mi sh lo*zM mi sh lo<=lim:=fun hc=>g2 ((h lo).2 hc)
      have k3:¬zM mi sh (lo-1)*zM mi sh (lo-1)<=lim:=fun hc=>g1 ((h (lo-1)).2 hc)
      rcases (by omega:lo<=a∨a<=lo-1) with h5 |h5
      ·have m1:=mono lo a h5;have :=Int.mul_le_mul m1 m1 (by omega) (by omega);omega
      ·have m1:=mono a (lo-1) h5;have :=Int.mul_le_mul (a:=-zM mi sh (lo-1)) (b:=-zM mi sh (lo-1)) (c:=-zM mi sh a) (d:=-zM mi sh a) (by omega) (by omega) (by omega) (by omega);rw [Int.neg_mul_neg,Int.neg_mul_neg] at this;omega
     ·subst h4;rw [show a-1+1=a by omega] at h2;rcases (by omega:lo=a∨lo<=a-1∨a<=lo-1) with h5 |h5 |h5
      ·omega
      ·have :=mono _ _ h5;omega
      ·have :=mono _ _ h5;omega
 ·rintro ⟨rfl,rfl⟩;rw [if_neg (by omega),if_neg]
  ·split
   ·rename_i h3
    rw [(hin lo).2 (by omega),(hin hi).2 (by omega)];rfl
   ·rename_i h3
    have e:hi=lo-1:=by omega
    rw [show hi+1=lo by omega] at h2;rw [e];simp [h1,h2]
  ·simp only [Bool.or_eq_true,not_or,Bool.not_eq_true];exact ⟨(zqR _).2 (by omega),(zqR _).2 (by omega)⟩
theorem zg3 {m:List (List Int)} (hr:RedOK m) {za:Int} (hb:0<=za) (hb1:za<1073741824) {k:Nat} (t:List Int) (hk:k<m.length) (ht:t.length=m.length-1-k) (h0:0<=left (ent m) za (k+1) t) (lo hi:Int):
  Z2 (vD (ze m m.length) (k+1)) (Zz (zh m m.length) k t) (Zu (ze m m.length) k (left (ent m) za (k+1) t)) lo hi=true↔lo=zG (ze m m.length) (zh m m.length) k (left (ent m) za (k+1) t) t/\hi=Zq (ze m m.length) (zh m m.length) k (left (ent m) za (k+1) t) t:=by
 have hN:=hr.num hb hb1;have zqw:=Qs hr hb hb1 t k hk ht h0;have hd:=hN.d1 (k+1) (by omega);obtain ⟨s0,s1⟩:=zay hN zqw;obtain ⟨r0,r1,r2⟩:=jc hN zqw;have hS:=jx hN zqw;have he:=Jh hN zqw;have hc:=(QQ hN zqw).1;have hq:=fun u=>zf2 s0 u
 have hu:∀c,zM (vD (ze m m.length) (k+1)) (Zz (zh m m.length) k t) c=vD (ze m m.length) (k+1)*c+Zz (zh m m.length) k t:=fun c=>rfl
 refine znw hd (by unfold zP at hc;omega) (fun c=>?_) ?_ ?_ (by omega) (by omega)
 ·rw [<-hq,hu];show _↔(-vR (ze m m.length) k (left (ent m) za (k+1) t)<=_/\_<=vR (ze m m.length) k (left (ent m) za (k+1) t));unfold zG Zq;generalize vD (ze m m.length) (k+1)=d at hd |-
  generalize Zz (zh m m.length) k t=s;generalize vR (ze m m.length) k (left (ent m) za (k+1) t)=r;have e1:-((r+s) / d)<=c↔-r<=d*c+s:=by
   have h1:=Int.le_ediv_iff_mul_le (a:=-c) (b:=r+s) (show 0<d by omega);have h2:-c*d=-(d*c):=by rw [Int.neg_mul,Int.mul_comm]
   omega
  have e2:c<=(r-s) / d↔d*c+s<=r:=by
   have h1:=Int.le_ediv_iff_mul_le (a:=c) (b:=r-s) (show 0<d by omega);have h2:c*d=d*c:=Int.mul_comm _ _;omega
  rw [e1,e2]
 ·rw [hu];unfold zG;generalize vD (ze m m.length) (k+1)=d at hd |-
  generalize Zz (zh m m.length) k t=s;generalize vR (ze m m.length) k (left (ent m) za (k+1) t)=r at r0 |-
  have a1:=Int.mul_ediv_add_emod (r+s) d;have a2:=Int.emod_lt_of_pos (r+s) (show 0<d by omega);have e:d*(-((r+s) / d)-1)=-(d*((r+s) / d))-d:=by rw [Int.mul_sub,Int.mul_neg,Int.mul_one]
  omega
 ·rw [hu];unfold Zq;generalize vD (ze m m.length) (k+1)=d at hd |-
  generalize Zz (zh m m.length) k t=s;generalize vR (ze m m.length) k (left (ent m) za (k+1) t)=r at r0 |-
  have a1:=Int.mul_ediv_add_emod (r-s) d;have a2:=Int.emod_lt_of_pos (r-s) (show 0<d by omega);have e:d*((r-s) / d+1)=d*((r-s) / d)+d:=by rw [Int.mul_add,Int.mul_one]
  omega
end
section
open Go.RowKit
open La
theorem znx {w0 w:World} {A:Option Addr} {c n b:Nat} {m:List (List Int)} (h:MatV w0 A m) (h1:m.length=n) (h3:1<=n) (h4:n<=8) (hn:AllLen m n) (hb:BdM b m) (hb1:1<=b) (hbb:b<=1000000) (hp:Pos (zf (ent m)) n) (hs:Sym (zf (ent m))) (hfu:∀r,r<n->Qa (zf (ent m)) r) (hlo:∀p,p+1<n->qa (zf (ent m)) p) [hx:Ext w0 w]:
  Calls Tryz.prog 164 #[.slice A n c] w (zz w (.bool true)):=by
 have h0:=h.ext hx;have HLE:=Zh (fun W (e1:Ext w W)=>zaU (w:=W) (c:=c) h0 h1 h3 h4 hn hb hb1 hbb);have HLL:Hid ((zp m).length=n):=Zh (by rw [Qt];exact h1);have HSZ:Hid (∀(W1 W:World) (B:Option Addr) (d i j:Nat),i<n->j<i->IntsV W1 B (zp m)->Ext w W->Ext W1 W->Calls Tryz.prog 149 #[.slice A n c,.slice B n d,.int .i64 i,.int .i64 j] W (zz W (.bool true))):=Zh (fun W1 W B d i j hi hj hI e1 e2=>by
  have :=zgM (w:=W) (c:=c) (d:=d) h0 hI h1 h4 hn hb hb1 hbb hi (show j<n by omega);rwa [decide_eq_true ((zgR h1 hp (show j<n by omega)).2 (hfu i hi j hj))] at this)
 have HLV:Hid (∀(W1 W:World) (B:Option Addr) (d i:Nat),i<n->1<=i->IntsV W1 B (zp m)->Ext w W->Ext W1 W->Calls Tryz.prog 155 #[.slice A n c,.slice B n d,.int .i64 i] W (zz W (.bool true))):=Zh (fun W1 W B d i hi hi1 hI e1 e2=>by
  have :=zgN (w:=W) (c:=c) (d:=d) h0 hI h1 h4 hn hb hb1 hbb hi hi1;obtain ⟨p,rfl⟩:∃p,i=p+1:=⟨i-1,by omega⟩;rwa [decide_eq_true ((zgS h1 hp hs hi).2 (hlo p hi))] at this)
 clear hn hb hp hs h1 hfu hlo;go_enter Tryz.func164,Tryz.ntmps164;go_wp2_with (go_at_call 106;refine (HLE.out _ Zi).mono ?_;rintro e w1 ⟨BD,dD,rfl,hI1,-,-,hs1⟩;rw [HLL.out];have HI:=Zh hI1;clear hI1)
 have zqq:Ext w w1:=Zi;go_loopw [5,6,14] (fun _ _ i wr=>∃k:Nat,k<=n/\i= .int .i64 k/\Ext w1 wr) (fun _ _ i _=>n-(intOf i).toNat)
 case atStart=>exact ⟨0,by omega,rfl,Zi⟩
 case round=>
  obtain ⟨k,hk,rfl,hxr⟩:=hrel;by_cases hlt:k<n
  ·go_wp2_with fail
   go_loopw [6] (fun s6 wr=>∃q:Nat,q<=k/\s6= .int .i64 q/\Ext w1 wr) (fun s6 _=>k-(intOf s6).toNat)
   case atStart=>exact ⟨0,by omega,rfl,Zi⟩
   case round=>
    obtain ⟨q,hq,rfl,hxq⟩:=hrel;have zqN:Ext w wr:=zqq.trans hxq;by_cases hqk:q<k
    ·have HSB:=Zh (fun W (e1:Ext wr W)=>HSZ.out w1 W BD dD k q hlt hqk HI.out (zqN.trans e1) (hxq.trans e1));go_wp2_with (go_at_call 149;refine (HSB.out _ Zi).mono ?_;rintro e w6 ⟨rfl,hs6⟩)
     exact ⟨⟨q+1,by omega,by go_num,Zi⟩,by simp [intOf]<;>omega⟩
    ·by_cases hk0:k=0
     ·subst hk0;go_wp2_with fail
      exact ⟨⟨1,by omega,rfl,hxq⟩,by simp [intOf]<;>omega⟩
     ·have HLB:=Zh (fun W (e1:Ext wr W)=>HLV.out w1 W BD dD k hlt (by omega) HI.out (zqN.trans e1) (hxq.trans e1));have hgt:decide ((0:Int)<(k:Int))=true:=by simp;omega
      have zuQ:0<k:=by omega
      have zuR:(0:Int)<(k:Int):=by omega
      clear hk0;go_wp2_with (go_at_call 155;refine (HLB.out _ Zi).mono ?_;rintro e w6 ⟨rfl,hs6⟩)
      exact ⟨⟨k+1,by omega,by go_num,Zi⟩,by simp [intOf]<;>omega⟩
  ·have zqx:Ext w wr:=zqq.trans hxr;go_wp2_with fail
   go_ret;exact ⟨rfl,⟨zqx.below⟩⟩
theorem LLLed.val {m:List (List Int)} (h:LLLed m):jE m:=⟨fun i hi j hj=>h.sym i j hi (by omega),zc8.2 h.pos⟩
theorem LLLed.detF {m:List (List Int)} (h:LLLed m):detF m<=10000:=by
 rw [zc7 h.len1 (fun l hl=>by have :=qf h.pos (k:=l) (by omega);omega)];exact h.det
theorem LLLed.symO {m:List (List Int)} (h:LLLed m):Sym (zf (ent m)):=fun i j=>by
 by_cases hi:i<m.length
 ·by_cases hj:j<m.length
  ·unfold zf;rw [h.sym i j hi hj]
  ·unfold zf;rw [qp h.all (i:=i) (j:=j) (.inr (by omega)),qp h.all (i:=j) (j:=i) (.inl (by omega))]
 ·unfold zf;rw [qp h.all (i:=i) (j:=j) (.inl (by omega)),qp h.all (i:=j) (j:=i) (.inr (by omega))]
theorem zg4 {w0 w:World} {A:Option Addr} {c n:Nat} {m:List (List Int)} (h:Mat64 w0 A m) (hL:LLLed m) (h1:m.length=n) (h64:qr m) (hb:BdM 199 m) [hx:Ext w0 w]:
  Calls Tryz.prog 104 #[.slice A n c] w (zz w (.bool true)):=by
 have h3:1<=n:=by rw [<-h1];exact hL.len1
 have h4:n<=8:=by rw [<-h1];exact hL.len8
 have hn:AllLen m n:=by rw [<-h1];exact hL.all
 have hp:Pos (zf (ent m)) n:=by rw [<-h1];exact hL.pos
 have HFI:Hid (∀W,Ext w W->Calls Tryz.prog 95 #[.slice A n c] W (zaP W n m)):=Zh (fun W e=>by
  have :Ext w0 W:=hx.trans e;have :=zgA (w:=W) (c:=c) h n (by omega) (by omega) h3 (by omega) hn h64;rwa [h1] at this)
 have HVA:Hid (∀(W1 W:World) (A1:Option Addr) (c1:Nat),MatV W1 A1 m->Ext W1 W->Calls Tryz.prog 87 #[.slice A1 n c1] W (fun e w'=>∃v:Int,e= .returned (.int .i64 v)/\(v=0↔true=true)/\0<=v/\v<=5/\Step W w')):=Zh (fun W1 W A1 c1 hM e=>zdG true (by simp [hL.val]) hM h1 h3 h4 hn hb (by omega) (by omega));have HSM:Hid (∀(W1 W:World) (A1:Option Addr) (c1:Nat),MatV W1 A1 m->Ext W1 W->Calls Tryz.prog 88 #[.slice A1 n c1] W (zz W (.bool true))):=Zh (fun W1 W A1 c1 hM e=>by
  have :=zgL (w:=W) (c:=c1) hM h1 h3 h4 hn hb (by omega) (by omega);rwa [decide_eq_true hL.detF] at this)
 have HRE:Hid (∀(W1 W:World) (A1:Option Addr) (c1:Nat),MatV W1 A1 m->Ext W1 W->Calls Tryz.prog 164 #[.slice A1 n c1] W (zz W (.bool true))):=Zh (fun W1 W A1 c1 hM e=>znx hM h1 h3 h4 hn hb (by omega) (by omega) hp hL.symO (fun r hr=>hL.full r (by omega)) (fun p hp=>hL.lov p (by omega)));have HL:=Zh h1;clear hn hb h64 h1 hp hL;go_enter Tryz.func104,Tryz.ntmps104;go_wp2_with (first
  |(go_at_call 95;refine (HFI.out _ Zi).mono ?_;rintro e w1 ⟨g1,zsP,c1,rfl,hO1,-,-,hs1⟩;rw [HL.out];have HM:=Zh hO1.mat;clear hO1)
  |(go_at_call 87;refine (HVA.out _ _ _ _ HM.out Zi).mono ?_;rintro e w2 ⟨v,rfl,hv,hv0,hv5,hs2⟩;have hvz:v=0:=(hv.2 (by trivial));subst hvz;clear hv hv0 hv5)
  |(go_at_call 88;refine (HSM.out _ _ _ _ HM.out Zi).mono ?_;rintro e w3 ⟨rfl,hs3⟩)
  |(go_at_call 164;refine (HRE.out _ _ _ _ HM.out Zi).mono ?_;rintro e w4 ⟨rfl,hs4⟩))
 go_ret;exact ⟨rfl,Step.of _ _⟩
end
section
open La
def zj (m:List (List Int)) (b:Int) (k:Nat) (t:List Int):Int:=zG (ze m m.length) (zh m m.length) k (left (ent m) b (k+1) t) t
def zB (m:List (List Int)) (b:Int) (k:Nat) (t:List Int):Int:=Zq (ze m m.length) (zh m m.length) k (left (ent m) b (k+1) t) t
def zH (m:List (List Int)) (b:Int) (k:Nat) (t:List Int):Nat:=(zB m b k t-zj m b k t+1).toNat
theorem zny (c:Int) (t:List Int):0<zv (c::t)↔0<c∨(c=0/\0<zv t):=by
 show 0<(if c=0 then zv t else c)↔_;by_cases h:c=0
 ·rw [if_pos h];subst h;simp
 ·rw [if_neg h];omega
theorem zg5 {x:List Int} (h:0<zv x):zJ x=x:=by unfold zJ;rw [if_neg (by omega)]
theorem zg6 {m:List (List Int)} (hr:RedOK m) {b:Int} (hb:0<=b) (exact:Bool) (x:List Int):x∈(qv m b exact).map zJ↔x.length=m.length/\0<zv x/\zu m x<=b/\(exact=true->zu m x=b):=by
 rw [List.mem_map];constructor
 ·rintro ⟨y,hy,rfl⟩;obtain ⟨h1,h2,h3,h4⟩:=(JY hr hb exact y).1 hy;rw [zfj,jQ];exact ⟨h1,zga y (fun e=>zaN h2 (zlX e)),h3,h4⟩
 ·rintro ⟨h1,h2,h3,h4⟩;have hne:¬∀y∈x,y=0:=fun hz=>by
   have :zv x=0:=by
    clear h1 h2 h3 h4;induction x with
    |nil=>rfl
    |cons a x ih=>
     have ha:=hz a (by simp);simp only [zv,ha,if_true];exact ih (fun y hy=>hz y (by simp [hy]))
   omega
  rcases zf8 hne with h5 |h5
  ·refine ⟨x,(JY hr hb exact x).2 ⟨h1,h5,h3,h4⟩,?_⟩;unfold zJ;rw [if_neg (by omega)]
  ·refine ⟨x.map fun c=>-c,(JY hr hb exact _).2 ⟨by simpa using h1,h5,by rw [zaC];exact h3,by rw [zaC];exact h4⟩,?_⟩;unfold zJ;rw [zf9,if_pos (by omega),JZ]
def tE (m:List (List Int)) (b:Int):Nat->List Int->List (Int×Int)
 |0,t=>[(zj m b 0 t,zB m b 0 t)]
 |k+1,t=>(zj m b (k+1) t,zB m b (k+1) t)::(List.range (zH m b (k+1) t)).flatMap fun (j:Nat)=>tE m b k ((zj m b (k+1) t+(j:Int))::t)
def QJ (m:List (List Int)) (b:Int) (k:Nat) (t:List Int) (i:Nat):List (Int×Int):=
 (List.range' i (zH m b k t-i)).flatMap fun (j:Nat)=>tE m b (k-1) ((zj m b k t+(j:Int))::t)
def tC (m:List (List Int)) (b:Int):Nat->List Int->List (List Int)->List (List Int)
 |0,t,l=>l++Zb t (qd t (zj m b 0 t)) (zT (qd t (zj m b 0 t)) (zB m b 0 t) l.length)
 |k+1,t,l=>(List.range (zH m b (k+1) t)).foldl (fun l (j:Nat)=>tC m b k ((zj m b (k+1) t+(j:Int))::t) l) l
def Q7 (m:List (List Int)) (b:Int) (k:Nat) (t:List Int) (i:Nat) (l:List (List Int)):List (List Int):=
 (List.range' i (zH m b k t-i)).foldl (fun l (j:Nat)=>tC m b (k-1) ((zj m b k t+(j:Int))::t) l) l
def qW (m:List (List Int)) (b:Int) (x:List Int):Nat->Nat->List (Int×Int)
 |0,_=>[]
 |f+1,k=>QJ m b k (x.drop (k+1)) (x.getD k 0-zj m b k (x.drop (k+1))+1).toNat++qW m b x f (k+1)
def qX (m:List (List Int)) (b:Int) (x:List Int):Nat->Nat->List (List Int)->List (List Int)
 |0,_,l=>l
 |f+1,k,l=>qX m b x f (k+1) (Q7 m b k (x.drop (k+1)) (x.getD k 0-zj m b k (x.drop (k+1))+1).toNat l)
theorem znz (m:List (List Int)) (b:Int) (k:Nat) (t:List Int):tE m b (k+1) t=(zj m b (k+1) t,zB m b (k+1) t)::QJ m b (k+1) t 0:=by
 simp [tE,QJ,List.range_eq_range']
theorem zg7 (m:List (List Int)) (b:Int) (k:Nat) (t:List Int) (l:List (List Int)):tC m b (k+1) t l=Q7 m b (k+1) t 0 l:=by
 simp [tC,Q7,List.range_eq_range']
theorem zg8 {m:List (List Int)} {b:Int} {k:Nat} {t:List Int} {i:Nat} (h:zH m b k t<=i):QJ m b k t i=[]:=by
 simp [QJ,show zH m b k t-i=0 by omega]
theorem zg9 {m:List (List Int)} {b:Int} {k:Nat} {t:List Int} {i:Nat} (h:zH m b k t<=i) (l:List (List Int)):Q7 m b k t i l=l:=by
 simp [Q7,show zH m b k t-i=0 by omega]
theorem zha {m:List (List Int)} {b:Int} {k:Nat} {t:List Int} {i:Nat} (h:i<zH m b k t):QJ m b k t i=tE m b (k-1) ((zj m b k t+(i:Int))::t)++QJ m b k t (i+1):=by
 rw [QJ,show zH m b k t-i=(zH m b k t-(i+1))+1 by omega,List.range'_succ,List.flatMap_cons,QJ]
theorem zhb {m:List (List Int)} {b:Int} {k:Nat} {t:List Int} {i:Nat} (h:i<zH m b k t) (l:List (List Int)):Q7 m b k t i l=Q7 m b k t (i+1) (tC m b (k-1) ((zj m b k t+(i:Int))::t) l):=by
 rw [Q7,show zH m b k t-i=(zH m b k t-(i+1))+1 by omega,List.range'_succ,List.foldl_cons,Q7]
theorem zhc {m:List (List Int)} {b:Int} {x y:List Int}:∀f k,x.drop k=y.drop k->qW m b x f k=qW m b y f k:=by
 intro f;induction f with
 |zero=>intro k _;rfl
 |succ f ih=>
  intro k h;have h1:x.drop (k+1)=y.drop (k+1):=by
   have e:∀z:List Int,z.drop (k+1)=(z.drop k).drop 1:=fun z=>by rw [List.drop_drop]
   rw [e,e,h]
  have h2:x.getD k 0=y.getD k 0:=by
   have e:∀z:List Int,z.getD k 0=(z.drop k).headD 0:=fun z=>by simp [List.getD_eq_getElem?_getD,List.headD_eq_head?_getD,List.head?_drop]
   rw [e,e,h]
  simp only [qW,h1,h2,ih (k+1) h1]
theorem zhd {m:List (List Int)} {b:Int} {x y:List Int}:∀f k,x.drop k=y.drop k->∀l,qX m b x f k l=qX m b y f k l:=by
 intro f;induction f with
 |zero=>intro k _ l;rfl
 |succ f ih=>
  intro k h l;have h1:x.drop (k+1)=y.drop (k+1):=by
   have e:∀z:List Int,z.drop (k+1)=(z.drop k).drop 1:=fun z=>by rw [List.drop_drop]
   rw [e,e,h]
  have h2:x.getD k 0=y.getD k 0:=by
   have e:∀z:List Int,z.getD k 0=(z.drop k).headD 0:=fun z=>by simp [List.getD_eq_getElem?_getD,List.headD_eq_head?_getD,List.head?_drop]
   rw [e,e,h]
  simp only [qX,h1,h2,ih (k+1) h1]
structure ChkSt (m:List (List Int)) (b:Int) (k:Nat) (x rest:List Int) (lv:List Lvl):Prop where
 kn:k<m.length
 xl:x.length=m.length
 rl:rest.length=m.length+1
 ll:lv.length=m.length
 rs:∀j,k<=j->j<m.length->rest.getD (j+1) 0=left (ent m) b (j+1) (x.drop (j+1))/\0<=left (ent m) b (j+1) (x.drop (j+1))
 lv:∀j,k<j->j<m.length->lv.getD j ⟨0,0,0,0⟩=z7 (ze m m.length) (zh m m.length) j x rest (zB m b j (x.drop (j+1)))/\zj m b j (x.drop (j+1))<=x.getD j 0/\x.getD j 0<=zB m b j (x.drop (j+1))
theorem zdK {x:List Int} {k:Nat} {a:Int} (h:k<x.length):(x.set k a).drop k=a::x.drop (k+1):=by
 rw [List.drop_eq_getElem_cons (by simpa using h)];simp [List.drop_set_of_lt (show k<k+1 by omega)]
theorem ChkSt.next {m:List (List Int)} (hr:RedOK m) {b:Int} {k:Nat} {x rest:List Int} {lv:List Lvl} (h:ChkSt m b k x rest lv) (hk:0<k) {a:Int} (hv:lv.getD k ⟨0,0,0,0⟩=z7 (ze m m.length) (zh m m.length) k x rest (zB m b k (x.drop (k+1))))
  (a1:zj m b k (x.drop (k+1))<=a) (a2:a<=zB m b k (x.drop (k+1))):
  ChkSt m b (k-1) (x.set k a) (rest.set k (qD (lv.getD k ⟨0,0,0,0⟩) a)) lv:=by
 have hkn:=h.kn;have hxl:=h.xl;have hrl:=h.rl;have hdk:(x.drop (k+1)).length=m.length-1-k:=by rw [List.length_drop];omega
 obtain ⟨r1,r2⟩:=h.rs k Zr hkn;refine ⟨by omega,by rw [List.length_set];exact h.xl,by rw [List.length_set];exact h.rl,h.ll,fun j j1 j2=>?_,fun j j1 j2=>?_⟩
 ·rcases Zl j k with hj |hj
  ·obtain rfl:j=k-1:=by omega
   rw [show k-1+1=k by omega,jh _ _ _ _ (by omega),hv,zdK (by omega)];have e:qD (z7 (ze m m.length) (zh m m.length) k x rest (zB m b k (x.drop (k+1)))) a=ZA (ze m m.length) (zh m m.length) k (left (ent m) b (k+1) (x.drop (k+1))) (x.drop (k+1)) a:=by
    unfold qD z7 ZA Zu vU zM Zz;simp only;rw [r1,Int.mul_comm (left _ _ _ _)]
   rw [e,qH hr hkn b _ hdk];exact ⟨rfl,(Qq hr hkn _ hdk r2 a).1 ⟨a1,a2⟩⟩
  ·rw [Jq _ _ _ _ _ (by omega),List.drop_set_of_lt (by omega)];exact h.rs j hj j2
 ·rcases Zl k j with hj |hj
  ·rw [JU (by omega),List.drop_set_of_lt (by omega),Jq x _ _ _ _ (by omega)];exact h.lv j hj j2
  ·obtain rfl:j=k:=by omega
   rw [JU (by omega),List.drop_set_of_lt (by omega),jh x _ _ _ (by omega)];exact ⟨hv,a1,a2⟩
theorem ChkSt.mono {m:List (List Int)} {b:Int} {k k1:Nat} {x rest:List Int} {lv:List Lvl} (h:ChkSt m b k x rest lv) (h1:k<=k1) (h2:k1<m.length):ChkSt m b k1 x rest lv:=
 ⟨h2,h.xl,h.rl,h.ll,fun j a c=>h.rs j (by omega) c,fun j a c=>h.lv j (by omega) c⟩
theorem ChkSt.setLv {m:List (List Int)} {b:Int} {k:Nat} {x rest:List Int} {lv:List Lvl} (h:ChkSt m b k x rest lv) (v:Lvl):ChkSt m b k x rest (lv.set k v):=
 ⟨h.kn,h.xl,h.rl,by rw [List.length_set];exact h.ll,h.rs,fun j a c=>by rw [Jq _ _ _ _ _ (by omega)];exact h.lv j a c⟩
theorem znA {m:List (List Int)} {b:Int} {x rest:List Int} {lv:List Lvl} {k0:Nat} (h:ChkSt m b k0 x rest lv):∀f k,m.length-k=f->k0<k->
  match zaG m.length x lv f k with
  |some k1=>k<=k1/\k1<m.length/\x.getD k1 0<zB m b k1 (x.drop (k1+1))/\qW m b x f k=QJ m b k1 (x.drop (k1+1)) (x.getD k1 0-zj m b k1 (x.drop (k1+1))+1).toNat++qW m b x (m.length-(k1+1)) (k1+1)/\
    ∀l,qX m b x f k l=qX m b x (m.length-(k1+1)) (k1+1) (Q7 m b k1 (x.drop (k1+1)) (x.getD k1 0-zj m b k1 (x.drop (k1+1))+1).toNat l)
  |none=>qW m b x f k=[]/\∀l,qX m b x f k l=l:=by
 intro f;induction f with
 |zero=>intro k _ _;exact ⟨rfl,fun _=>rfl⟩
 |succ f ih=>
  intro k hf hk;have hkn:k<m.length:=by omega
  obtain ⟨hv,l1,l2⟩:=h.lv k hk hkn;have hhi:(lv.getD k ⟨0,0,0,0⟩).hi=zB m b k (x.drop (k+1)):=by rw [hv];rfl
  rw [zaG,if_pos hkn,hhi];by_cases hlt:x.getD k 0<zB m b k (x.drop (k+1))
  ·rw [if_pos hlt];refine ⟨Zr,hkn,hlt,?_,fun l=>?_⟩
   ·rw [qW,show m.length-(k+1)=f by omega]
   ·rw [qX,show m.length-(k+1)=f by omega]
  ·rw [if_neg hlt];have zqR:zH m b k (x.drop (k+1))<=(x.getD k 0-zj m b k (x.drop (k+1))+1).toNat:=by unfold zH;omega
   have e1:qW m b x (f+1) k=qW m b x f (k+1):=by rw [qW,zg8 zqR,List.nil_append]
   have e2:∀l,qX m b x (f+1) k l=qX m b x f (k+1) l:=fun l=>by rw [qX,zg9 zqR]
   have :=ih (k+1) (by omega) (by omega);split<;>rename_i hu<;>rw [hu] at this
   ·obtain ⟨a1,a2,a3,a4,a5⟩:=this;exact ⟨by omega,a2,a3,by rw [e1];exact a4,fun l=>by rw [e2];exact a5 l⟩
   ·exact ⟨by rw [e1];exact this.1,fun l=>by rw [e2];exact this.2 l⟩
theorem znB {m:List (List Int)} (hr:RedOK m) {b:Int} (hb:0<=b) (hb1:b<1073741824) (C:List (Int×Int)):∀k x rest lv l,ChkSt m b k x rest lv->∀r,
  qe (ze m m.length) (zh m m.length) m.length C k x rest lv l=some r↔
   C=tE m b k (x.drop (k+1))++qW m b x (m.length-(k+1)) (k+1)/\r=qX m b x (m.length-(k+1)) (k+1) (tC m b k (x.drop (k+1)) l):=by
 induction C with
 |nil=>
  intro k x rest lv l h r;rw [qe];have :tE m b k (x.drop (k+1))≠[]:=by cases k<;>simp [tE]
  constructor
  ·intro h;cases h
  ·rintro ⟨h1,-⟩;exact absurd (List.append_eq_nil_iff.1 h1.symm).1 this
 |cons p C ih=>
  obtain ⟨lo,hi⟩:=p;intro k x rest lv l h r;have hkn:=h.kn;have hxl:=h.xl;obtain ⟨r1,r2⟩:=h.rs k Zr hkn;have hdk:(x.drop (k+1)).length=m.length-1-k:=by rw [List.length_drop];omega
  have zrJ:Z2 (z7 (ze m m.length) (zh m m.length) k x rest hi).mi (z7 (ze m m.length) (zh m m.length) k x rest hi).sh (z7 (ze m m.length) (zh m m.length) k x rest hi).lim lo hi=true↔lo=zj m b k (x.drop (k+1))/\hi=zB m b k (x.drop (k+1)):=by
   have :=zg3 hr hb hb1 (x.drop (k+1)) hkn hdk r2 lo hi;unfold z7;simp only;rw [r1,Int.mul_comm (left _ _ _ _)];exact this
  have ztG:tE m b k (x.drop (k+1))=(zj m b k (x.drop (k+1)),zB m b k (x.drop (k+1)))::(if k=0 then [] else QJ m b k (x.drop (k+1)) 0):=by
   cases k with
   |zero=>rfl
   |succ k=>rw [znz,if_neg (by omega)]
  simp only [qe];by_cases hA:Z2 (z7 (ze m m.length) (zh m m.length) k x rest hi).mi (z7 (ze m m.length) (zh m m.length) k x rest hi).sh (z7 (ze m m.length) (zh m m.length) k x rest hi).lim lo hi=true
  ·rw [if_pos hA];obtain ⟨rfl,rfl⟩:=zrJ.1 hA;rw [ztG,List.cons_append,List.cons.injEq];simp only [true_and];have zqC:=h.setLv (z7 (ze m m.length) (zh m m.length) k x rest (zB m b k (x.drop (k+1))));have zqQ:(lv.set k (z7 (ze m m.length) (zh m m.length) k x rest (zB m b k (x.drop (k+1))))).getD k ⟨0,0,0,0⟩=z7 (ze m m.length) (zh m m.length) k x rest (zB m b k (x.drop (k+1))):=jh _ _ _ _ (by rw [h.ll];exact hkn)
   by_cases hd:0<k/\zj m b k (x.drop (k+1))<=zB m b k (x.drop (k+1))
   ·rw [if_pos hd,if_neg (show ¬k=0 by omega)];have hn:=zqC.next hr hd.1 (a:=zj m b k (x.drop (k+1))) zqQ (Int.le_refl _) hd.2;rw [zqQ] at hn;rw [ih _ _ _ _ _ hn];have e1:(x.set k (zj m b k (x.drop (k+1)))).drop (k-1+1)=zj m b k (x.drop (k+1))::x.drop (k+1):=by
     rw [show k-1+1=k by omega,zdK (by omega)]
    have e2:(x.set k (zj m b k (x.drop (k+1)))).drop (k+1)=x.drop (k+1):=List.drop_set_of_lt (by omega);have hc:0<zH m b k (x.drop (k+1)):=by unfold zH;omega
    rw [e1,show m.length-(k-1+1)=(m.length-(k+1))+1 by omega,show k-1+1=k by omega];simp only [qW,qX,e2];rw [jh _ _ _ _ (by omega),show (zj m b k (x.drop (k+1))-zj m b k (x.drop (k+1))+1).toNat=1 by omega,zhc (m:=m) (b:=b) (m.length-(k+1)) (k+1) e2,zhd (m:=m) (b:=b) (m.length-(k+1)) (k+1) e2,zha hc];have e3:tC m b k (x.drop (k+1)) l=Q7 m b k (x.drop (k+1)) (0+1) (tC m b (k-1) ((zj m b k (x.drop (k+1))+((0:Nat):Int))::x.drop (k+1)) l):=by
     cases k with
     |zero=>omega
     |succ k=>rw [zg7,zhb hc]
    rw [e3];simp only [Int.add_zero,Int.natCast_zero,Nat.zero_add,List.append_assoc]
   ·rw [if_neg hd];have e0:(if k=0 then [] else QJ m b k (x.drop (k+1)) 0)=[]:=by
     by_cases hk:k=0
     ·rw [if_pos hk]
     ·rw [if_neg hk,zg8];unfold zH;omega
    have e1:tC m b k (x.drop (k+1)) l=QS k x (zj m b k (x.drop (k+1))) (zB m b k (x.drop (k+1))) l:=by
     unfold QS
     cases k with
     |zero=>rw [if_pos rfl,tC,<-List.drop_one]
     |succ k=>
      rw [if_neg (by omega),zg7,zg9];unfold zH;omega
    rw [e0,List.nil_append,e1];have hup:=znA zqC (m.length-(k+1)) (k+1) rfl (by omega);unfold qw;split<;>rename_i hu<;>rw [hu] at hup
    ·rename_i k1
     obtain ⟨a1,a2,a3,a4,a5⟩:=hup;obtain ⟨b1,b2,b3⟩:=zqC.lv k1 (by omega) a2;have hn:=(zqC.mono (show k<=k1 by omega) a2).next hr (by omega) (a:=x.getD k1 0+1) b1 (by omega) (by omega);rw [ih _ _ _ _ _ hn,a4,a5];have e1:(x.set k1 (x.getD k1 0+1)).drop (k1-1+1)=(x.getD k1 0+1)::x.drop (k1+1):=by
      rw [show k1-1+1=k1 by omega,zdK (by omega)]
     have e2:(x.set k1 (x.getD k1 0+1)).drop (k1+1)=x.drop (k1+1):=List.drop_set_of_lt (by omega);have hc:(x.getD k1 0-zj m b k1 (x.drop (k1+1))+1).toNat<zH m b k1 (x.drop (k1+1)):=by unfold zH;omega
     have e3:zj m b k1 (x.drop (k1+1))+(((x.getD k1 0-zj m b k1 (x.drop (k1+1))+1).toNat:Nat):Int)=x.getD k1 0+1:=by omega
     rw [e1,show m.length-(k1-1+1)=(m.length-(k1+1))+1 by omega,show k1-1+1=k1 by omega];simp only [qW,qX,e2];rw [jh _ _ _ _ (by omega),zhc (m:=m) (b:=b) (m.length-(k1+1)) (k1+1) e2,zhd (m:=m) (b:=b) (m.length-(k1+1)) (k1+1) e2,zha hc,zhb hc,e3,show (x.getD k1 0+1-zj m b k1 (x.drop (k1+1))+1).toNat=(x.getD k1 0-zj m b k1 (x.drop (k1+1))+1).toNat+1 by omega];simp only [List.append_assoc]
    ·rw [hup.1,hup.2];by_cases hC:C=[]
     ·rw [if_pos hC];simp [hC,eq_comm]
     ·rw [if_neg hC];simp [hC]
  ·rw [if_neg hA];constructor
   ·intro h;cases h
   ·rintro ⟨h1,-⟩;rw [ztG,List.cons_append,List.cons.injEq,Prod.mk.injEq] at h1;exact absurd (zrJ.2 h1.1) hA
def Zd (m:List (List Int)) (b:Int):List (Int×Int):=tE m b (m.length-1) []
theorem znC {m:List (List Int)} (hr:RedOK m) {b:Int} (hb:0<=b) (hb1:b<1073741824) (C:List (Int×Int)) (r:List (List Int)):QT m b C=some r↔C=Zd m b/\r=tC m b (m.length-1) [] []:=by
 have hl:=ZR hr.small;have hst:ChkSt m b (m.length-1) (List.replicate m.length 0) ((List.replicate (m.length+1) 0).set m.length (b*vD (ze m m.length) m.length)) (List.replicate m.length QB):=by
  refine ⟨by omega,by simp,by simp,by simp,fun j j1 j2=>?_,fun j j1 j2=>absurd j2 (by omega)⟩;obtain rfl:j=m.length-1:=by omega
  have e:(List.replicate m.length (0:Int)).drop (m.length-1+1)=[]:=by
   rw [show m.length-1+1=m.length by omega];simp
  rw [e];refine ⟨?_,Qi hr hb⟩;rw [show m.length-1+1=m.length by omega,jh _ _ _ _ (by simp),Int.mul_comm,zbB hr,show m.length-1+1=m.length by omega]
 unfold QT Zd;rw [znB hr hb hb1 C _ _ _ _ _ hst];have e:(List.replicate m.length (0:Int)).drop (m.length-1+1)=[]:=by
  rw [show m.length-1+1=m.length by omega];simp
 rw [e,show m.length-(m.length-1+1)=0 by omega];simp [qW,qX]
theorem zo5 {m:List (List Int)} (hr:RedOK m) {b:Int} (k:Nat):∀t:List Int,k<m.length->t.length=m.length-1-k->0<=left (ent m) b (k+1) t->
  ZD (ze m m.length) (zh m m.length) k (left (ent m) b (k+1) t) t=tE m b k t:=by
 induction k with
 |zero=>intro t _ _ _;rfl
 |succ k ih=>
  intro t hk ht h0;rw [ZD,tE];have e:(zP (ze m m.length) (zh m m.length) (k+1) (left (ent m) b (k+1+1) t) t).toNat=zH m b (k+1) t:=rfl;rw [e];congr 1
  rw [List.flatMap_def,List.flatMap_def];congr 1
  refine List.map_congr_left fun j hj=>?_
  have hk0:=qU hr t hk ht h0 (j:=j) (by rw [e];simpa using hj);rw [qH hr hk b t ht];exact ih _ (by omega) (by simp [ht];omega) hk0
def tV (m:List (List Int)) (b:Int):Nat->List Int->List (List Int)
 |0,t=>Zb t (qd t (zj m b 0 t)) (zB m b 0 t-qd t (zj m b 0 t)+1).toNat
 |k+1,t=>(List.range (zH m b (k+1) t)).flatMap fun (j:Nat)=>tV m b k ((zj m b (k+1) t+(j:Int))::t)
theorem znD (t:List Int) (a:Int) (n j:Nat):(Zb t a n).take j=Zb t a (min j n):=by
 unfold Zb;rw [<-List.map_take,List.take_range]
theorem znE (m:List (List Int)) (b:Int) (k:Nat):∀(t:List Int) (l:List (List Int)),l.length<=4097->tC m b k t l=(l++tV m b k t).take 4097:=by
 induction k with
 |zero=>
  intro t l hl;rw [tC,tV,List.take_append,List.take_of_length_le hl,znD];congr 2
  unfold zT;omega
 |succ k ih=>
  intro t l hl;rw [tC,tV];generalize List.range (zH m b (k+1) t)=js;induction js generalizing l with
  |nil=>simp [List.take_of_length_le hl]
  |cons j js ihj=>
   rw [List.foldl_cons,ih _ _ hl,ihj _ (by rw [List.length_take];omega),List.flatMap_cons,<-List.append_assoc];generalize l++tV m b k ((zj m b (k+1) t+(j:Int))::t)=u;rw [List.take_append,List.take_append,List.take_take,Nat.min_self,List.length_take];congr 1
   rcases Nat.le_total u.length 4097 with h |h
   ·rw [Nat.min_eq_right h]
   ·rw [Nat.min_eq_left h,show 4097-4097=0 by omega,show 4097-u.length=0 by omega]
theorem znF {m:List (List Int)} (hr:RedOK m) {b:Int} (x:List Int) (k:Nat):∀t:List Int,k<m.length->t.length=m.length-1-k->0<=left (ent m) b (k+1) t->
  (x∈tV m b k t↔∃p:List Int,p.length=k+1/\x=p++t/\0<zv x/\0<=left (ent m) b 0 x):=by
 induction k with
 |zero=>
  intro t hk ht h0;have hin:=fun c=>Qq hr hk t ht h0 c
  rw [tV];simp only [Zb,List.mem_map,List.mem_range];have hcl:∀c,(qd t (zj m b 0 t)<=c/\c<=zB m b 0 t)↔(zj m b 0 t<=c/\c<=zB m b 0 t)/\0<zv (c::t):=fun c=>by
   rw [zny];unfold qd;split<;>omega
  constructor
  ·rintro ⟨i,hi,rfl⟩;have h1:=(hcl (qd t (zj m b 0 t)+(i:Int))).1 ⟨by omega,by omega⟩;exact ⟨[qd t (zj m b 0 t)+(i:Int)],rfl,rfl,h1.2,(hin _).1 h1.1⟩
  ·rintro ⟨p,hp,rfl,h1,h2⟩;obtain ⟨c,rfl⟩:∃c,p=[c]:=List.length_eq_one_iff.1 hp;have h3:=(hcl c).2 ⟨(hin c).2 h2,h1⟩;refine ⟨(c-qd t (zj m b 0 t)).toNat,by omega,?_⟩;rw [show qd t (zj m b 0 t)+(((c-qd t (zj m b 0 t)).toNat:Nat):Int)=c by omega];rfl
 |succ k ih=>
  intro t hk ht h0;have hin:=fun c=>Qq hr hk t ht h0 c
  rw [tV];simp only [List.mem_flatMap,List.mem_range];constructor
  ·rintro ⟨j,hj,hx⟩;have hk0:0<=left (ent m) b (k+1) ((zj m b (k+1) t+(j:Int))::t):=qU hr t hk ht h0 (j:=j) hj;obtain ⟨p,hp,rfl,h1,h2⟩:=(ih _ (by omega) (by simp [ht];omega) hk0).1 hx;exact ⟨p++[zj m b (k+1) t+(j:Int)],by simp [hp],by simp,h1,h2⟩
  ·rintro ⟨p,hp,rfl,h1,h2⟩;obtain ⟨q,c,rfl,hq⟩:=zaK hp;have hs:=zdg hr b q 0 (c::t) (by simp [ht];omega) (by simpa using h2);rw [hq,Nat.zero_add] at hs;have hc:zj m b (k+1) t<=c/\c<=zB m b (k+1) t:=(hin c).2 hs;refine ⟨(c-zj m b (k+1) t).toNat,by unfold zH;omega,?_⟩;have e:zj m b (k+1) t+(((c-zj m b (k+1) t).toNat:Nat):Int)=c:=by omega
   rw [e];exact (ih _ (by omega) (by simp [ht];omega) hs).2 ⟨q,hq,by simp,h1,h2⟩
theorem zhe {m:List (List Int)} (b:Int) (k:Nat):∀t:List Int,(tV m b k t).Nodup/\∀x∈tV m b k t,x.drop (k+1)=t:=by
 induction k with
 |zero=>
  intro t;rw [tV];refine ⟨?_,fun x hx=>?_⟩
  ·unfold Zb;rw [List.Nodup,List.pairwise_map];refine List.Pairwise.imp ?_ (List.nodup_range (n:=_));intro i j hij h;injection h with h
   omega
  ·obtain ⟨i,-,rfl⟩:=List.mem_map.1 hx;rfl
 |succ k ih=>
  intro t;rw [tV];have hd:∀(j:Nat),∀x∈tV m b k ((zj m b (k+1) t+(j:Int))::t),x.drop (k+1)=(zj m b (k+1) t+(j:Int))::t:=fun j=>(ih _).2
  refine ⟨?_,fun x hx=>?_⟩
  ·rw [List.Nodup,List.pairwise_flatMap];refine ⟨fun j _=>(ih _).1,?_⟩;refine List.Pairwise.imp ?_ (List.nodup_range (n:=zH m b (k+1) t));intro i j hij x hx y hy e;subst e;have :=(hd i x hx).symm.trans (hd j x hy);injection this with h
   omega
  ·obtain ⟨j,-,hx⟩:=List.mem_flatMap.1 hx;have :=hd j x hx;have e:x.drop (k+1+1)=(x.drop (k+1)).drop 1:=by rw [List.drop_drop]
   rw [e,this];rfl
theorem zbP {m:List (List Int)} (hr:RedOK m) {b:Int} (hb:0<=b) (x:List Int):x∈tV m b (m.length-1) []↔x.length=m.length/\0<zv x/\zu m x<=b:=by
 have hl:=ZR hr.small;rw [znF hr x (m.length-1) [] (by omega) (by simp) (Qi hr hb)];constructor
 ·rintro ⟨p,hp,rfl,h1,h2⟩;have hpl:(p++[]).length=m.length:=by simp [hp];omega
  rw [Qr (ZO hr.small) b _ hpl] at h2;exact ⟨hpl,h1,by omega⟩
 ·rintro ⟨h1,h2,h3⟩;refine ⟨x,by omega,by simp,h2,?_⟩;rw [Qr (ZO hr.small) b _ h1];omega
theorem zhf {m:List (List Int)} (hr:RedOK m) {b:Int} (hb:0<=b):(tV m b (m.length-1) []).map zJ=tV m b (m.length-1) []:=by
 conv=>rhs;rw [<-List.map_id (tV m b (m.length-1) [])]
 exact List.map_congr_left fun x hx=>zg5 ((zbP hr hb x).1 hx).2.1
theorem znG {m:List (List Int)} (hr:RedOK m) {b:Int} (hb:0<=b) {L:List (List Int)} (hp:L.Perm ((tV m b (m.length-1) []).map zJ)) (hw:L.Pairwise (fun x y=>qu (zu m x) (zu m y) x y<0)):VecList m b false L:=by
 refine ⟨hw,fun x=>?_⟩;rw [hp.mem_iff,zhf hr hb,zbP hr hb];simp
theorem znH {m:List (List Int)} (hr:RedOK m) {b:Int} (hb:0<=b):(tV m b (m.length-1) []).length=(qv m b false).length:=by
 have hp:(tV m b (m.length-1) []).Perm ((qv m b false).map zJ):=by
  refine (List.perm_ext_iff_of_nodup (zhe b _ _).1 (zgc hr hb false)).2 fun x=>?_
  rw [zbP hr hb,zg6 hr hb];simp
 simpa using hp.length_eq
theorem zhg {m:List (List Int)} (hr:RedOK m) {b:Int} (hb:0<=b) (hb1:b<1073741824) (k:Nat):∀t:List Int,k<m.length->t.length=m.length-1-k->0<=left (ent m) b (k+1) t->
  ((tE m b k t).length:Int)<=1+zE (Zf (ze m m.length) (zh m m.length) m.length k (left (ent m) b (k+1) t) t):=by
 induction k with
 |zero=>
  intro t hk ht h0;have :=QQ (hr.num hb hb1) (Qs hr hb hb1 t 0 hk ht h0);simp only [tE,Zf,zE,List.length_singleton];omega
 |succ k ih=>
  intro t hk ht h0;have hc:=QQ (hr.num hb hb1) (Qs hr hb hb1 t (k+1) hk ht h0);simp only [tE,Zf,zE,List.length_cons];rw [zgf];have e:zH m b (k+1) t=(zP (ze m m.length) (zh m m.length) (k+1) (left (ent m) b (k+1+1) t) t).toNat:=rfl;rw [e];have key:∀l:List Nat,(∀j∈l,j<(zP (ze m m.length) (zh m m.length) (k+1) (left (ent m) b (k+1+1) t) t).toNat)->
    ((l.flatMap fun j:Nat=>tE m b k ((zj m b (k+1) t+(j:Int))::t)).length:Int)<=(l.length:Int)+(l.map fun j:Nat=>zE (Zf (ze m m.length) (zh m m.length) m.length k (ZA (ze m m.length) (zh m m.length) (k+1) (left (ent m) b (k+1+1) t) t (zG (ze m m.length) (zh m m.length) (k+1) (left (ent m) b (k+1+1) t) t+(j:Int))) ((zG (ze m m.length) (zh m m.length) (k+1) (left (ent m) b (k+1+1) t) t+(j:Int))::t))).sum:=by
   intro l;induction l with
   |nil=>intro _;simp
   |cons j l ihl=>
    intro hl;have hk0:=qU hr t hk ht h0 (hl j (by simp));have h1:=ihl (fun x hx=>hl x (by simp [hx]));have h2:=ih _ (by omega) (by simp [ht];omega) hk0;simp only [List.flatMap_cons,List.length_append,List.map_cons,List.sum_cons,List.length_cons,Int.natCast_add,Int.natCast_one];rw [qH hr hk b t ht];unfold zj;unfold zj at h1;omega
  have :=key (List.range (zP (ze m m.length) (zh m m.length) (k+1) (left (ent m) b (k+1+1) t) t).toNat) (fun j hj=>by simpa using hj);rw [List.length_range] at this;simp only [Int.natCast_add,Int.natCast_one];omega
theorem znI {m:List (List Int)} (hr:RedOK m) {b:Int} (hb:0<=b) (hb1:b<1073741824) (k:Nat):∀t:List Int,k<m.length->t.length=m.length-1-k->0<=left (ent m) b (k+1) t->
  ∀p∈tE m b k t,-1099511627776<=p.1/\p.2<=1099511627776/\p.1-1<=p.2:=by
 have h1:∀(k:Nat) (t:List Int),k<m.length->t.length=m.length-1-k->0<=left (ent m) b (k+1) t->-1099511627776<=zj m b k t/\zB m b k t<=1099511627776/\zj m b k t-1<=zB m b k t:=fun k t hk ht h0=>by
  have :=zfA ((zg3 hr hb hb1 t hk ht h0 (zj m b k t) (zB m b k t)).2 ⟨rfl,rfl⟩);exact ⟨this.1,this.2.1,this.2.2.1⟩
 induction k with
 |zero=>
  intro t hk ht h0 p hp;simp only [tE,List.mem_singleton] at hp;subst hp;exact h1 0 t hk ht h0
 |succ k ih=>
  intro t hk ht h0 p hp;simp only [tE,List.mem_cons,List.mem_flatMap,List.mem_range] at hp;rcases hp with rfl |⟨j,hj,hp⟩
  ·exact h1 (k+1) t hk ht h0
  ·exact ih _ (by omega) (by simp [ht];omega) (qU hr t hk ht h0 hj) p hp
theorem znJ {m:List (List Int)} (hr:RedOK m) (h2:2<=m.length) {b:Int} (hb:0<=b) (hb1:b<1073741824):((Zd m b).length:Int)<=1+Z7 m b:=by
 have :=zhg hr hb hb1 (m.length-1) [] (by omega) (by simp) (Qi hr hb);unfold Z7 ZZ;rw [if_neg (by omega),zbB hr];exact this
theorem znK {m:List (List Int)} (hr:RedOK m) {b:Int} (hb:0<=b) (hb1:b<1073741824):∀p∈Zd m b,-1099511627776<=p.1/\p.2<=1099511627776/\p.1-1<=p.2:=
 znI hr hb hb1 (m.length-1) [] (by have :=ZR hr.small;omega) (by simp) (Qi hr hb)
theorem znL {m:List (List Int)} (hr:RedOK m) (h1:m.length=1) {b:Int} (hb:0<=b):Zd m b=[(-((zo (b / ent m 0 0).toNat:Nat):Int),((zo (b / ent m 0 0).toNat:Nat):Int))]:=by
 have zqg:1<=ent m 0 0:=by
  have :=ZE hr.pos (k:=1) (by omega);have e:zt (ent m) 1=ent m 0 0:=rfl;omega
 obtain ⟨hin,zqR⟩:=zcL zqg hb;have key:∀c:Int,(zj m b 0 []<=c/\c<=zB m b 0 [])↔ent m 0 0*c*c<=b:=fun c=>by
  have h:=Qq hr (k:=0) (by omega) (za:=b) [] (by simp [h1]) (by have :=Qi hr hb;rw [h1] at this;exact this) c;refine h.trans ?_;rw [Qr (ZO hr.small) b [c] (by simp [h1])];have e:zu m [c]=ent m 0 0*c*c:=by
   rw [JX (ZO hr.small) _ (by simp [h1])];simp [qE,QX,ZB,E,ent]
  rw [e];omega
 obtain ⟨r,hrr⟩:∃r:Nat,zo (b / ent m 0 0).toNat=r:=⟨_,rfl⟩;rw [hrr] at hin zqR |-
 have a1:ent m 0 0*(r:Int)*r<=b:=by
  by_cases h0:r=0
  ·subst h0;simpa using hb
  ·exact hin r (by omega) (by omega)
 have a2:ent m 0 0*(-(r:Int))*(-(r:Int))<=b:=by
  have :ent m 0 0*(-(r:Int))*(-(r:Int))=ent m 0 0*(r:Int)*r:=by grind
  omega
 have a3:¬ent m 0 0*(-((r:Int)+1))*(-((r:Int)+1))<=b:=by
  have :ent m 0 0*(-((r:Int)+1))*(-((r:Int)+1))=ent m 0 0*((r:Int)+1)*((r:Int)+1):=by grind
  omega
 have b1:=(key r).2 a1;have b2:=(key (-(r:Int))).2 a2;have b3:¬(zj m b 0 []<=-((r:Int)+1)/\-((r:Int)+1)<=zB m b 0 []):=fun h=>a3 ((key (-((r:Int)+1))).1 h)
 have b4:¬(zj m b 0 []<=(r:Int)+1/\(r:Int)+1<=zB m b 0 []):=fun h=>(show ¬ent m 0 0*((r:Int)+1)*((r:Int)+1)<=b by omega) ((key ((r:Int)+1)).1 h)
 have c1:zj m b 0 []=-(r:Int):=by omega
 have c2:zB m b 0 []=(r:Int):=by omega
 unfold Zd;rw [h1];show [(zj m b 0 [],zB m b 0 [])]=_;rw [c1,c2]
theorem znM (n:Nat) (F:Nat->Int):zD (n+1) F=F 0+zD n fun i=>F (i+1):=by
 induction n with
 |zero=>simp [zD]
 |succ n ih=>rw [jn,ih,jn];omega
theorem zaX (g:Nat->Int) (t:List Int):∀k,ZB g k t=zD t.length fun i=>g (k+i)*t.getD i 0:=by
 induction t with
 |nil=>intro k;simp [ZB,zD]
 |cons c t ih=>
  intro k;rw [ZB,ih (k+1),List.length_cons,znM];congr 1
  refine qG fun i _=>?_
  rw [show k+1+i=k+(i+1) by omega];rfl
def ipR (m:List (List Int)) (x y:List Int):Int:=zD m.length fun i=>x.getD i 0*zD m.length fun j=>ent m i j*y.getD j 0
theorem zhh {m:List (List Int)} (hn:AllLen m m.length) (x:List Int) (hx:x.length=m.length):ipR m x x=zu m x:=by
 rw [JX hn x hx];unfold ipR qE QX;rw [zaX,hx];refine qG fun i _=>?_
 simp only [Nat.zero_add];rw [zaX,hx,Int.mul_comm];simp only [Nat.zero_add];rfl
theorem znN {m:List (List Int)} (hr:RedOK m) {k:Nat} (hk:k<m.length) (za:Int) (t:List Int):
  lE (ent m) k (0::t)*lE (ent m) k (0::t)-zt (ent m) (k+1)*(qE (ent m) k (0::t)-za*zt (ent m) k)=zt (ent m) k*left (ent m) za (k+1) t:=by
 have hs:Sym (zf (ent m)):=QU (ZO hr.small) (fun i j hi hj=>((of_decide_eq_true hr.small).2.2.2 i hi j hj).1);have :=zdb hs (hr.pos.le (by omega:k+1<=m.length)) 0 t;unfold left;grind
def zS (m:List (List Int)) (b:Int):Nat->List Int->List (List Int)
 |0,t=>(List.range (zH m b 0 t)).map fun (j:Nat)=>(zj m b 0 t+(j:Int))::t
 |k+1,t=>(List.range (zH m b (k+1) t)).flatMap fun (j:Nat)=>zS m b k ((zj m b (k+1) t+(j:Int))::t)
theorem znO {m:List (List Int)} (hr:RedOK m) {b:Int} (x:List Int) (k:Nat):∀t:List Int,k<m.length->t.length=m.length-1-k->0<=left (ent m) b (k+1) t->
  (x∈zS m b k t↔∃p:List Int,p.length=k+1/\x=p++t/\0<=left (ent m) b 0 x):=by
 induction k with
 |zero=>
  intro t hk ht h0;have hin:∀c,(zj m b 0 t<=c/\c<=zB m b 0 t)↔0<=left (ent m) b 0 (c::t):=fun c=>Qq hr hk t ht h0 c
  rw [zS];simp only [List.mem_map,List.mem_range];constructor
  ·rintro ⟨j,hj,rfl⟩;unfold zH at hj;exact ⟨[zj m b 0 t+(j:Int)],rfl,rfl,(hin _).1 ⟨by omega,by omega⟩⟩
  ·rintro ⟨p,hp,rfl,h2⟩;obtain ⟨c,rfl⟩:∃c,p=[c]:=List.length_eq_one_iff.1 hp;have h3:=(hin c).2 h2;refine ⟨(c-zj m b 0 t).toNat,by unfold zH;omega,?_⟩;rw [show zj m b 0 t+(((c-zj m b 0 t).toNat:Nat):Int)=c by omega];rfl
 |succ k ih=>
  intro t hk ht h0;have hin:∀c,(zj m b (k+1) t<=c/\c<=zB m b (k+1) t)↔0<=left (ent m) b (k+1) (c::t):=fun c=>Qq hr hk t ht h0 c
  rw [zS];simp only [List.mem_flatMap,List.mem_range];constructor
  ·rintro ⟨j,hj,hx⟩;have hk0:0<=left (ent m) b (k+1) ((zj m b (k+1) t+(j:Int))::t):=qU hr t hk ht h0 (j:=j) hj;obtain ⟨p,hp,rfl,h2⟩:=(ih _ (by omega) (by simp [ht];omega) hk0).1 hx;exact ⟨p++[zj m b (k+1) t+(j:Int)],by simp [hp],by simp,h2⟩
  ·rintro ⟨p,hp,rfl,h2⟩;obtain ⟨q,c,rfl,hq⟩:=zaK hp;have hs:=zdg hr b q 0 (c::t) (by simp [ht];omega) (by simpa using h2);rw [hq,Nat.zero_add] at hs;have hc:=(hin c).2 hs;refine ⟨(c-zj m b (k+1) t).toNat,by unfold zH;omega,?_⟩;have e:zj m b (k+1) t+(((c-zj m b (k+1) t).toNat:Nat):Int)=c:=by omega
   rw [e];exact (ih _ (by omega) (by simp [ht];omega) hs).2 ⟨q,hq,by simp,h2⟩
theorem zhi {m:List (List Int)} (hr:RedOK m) {b:Int} (hb:0<=b) (x:List Int):x∈zS m b (m.length-1) []↔x.length=m.length/\zu m x<=b:=by
 have hl:=ZR hr.small;rw [znO hr x (m.length-1) [] (by omega) (by simp) (Qi hr hb)];constructor
 ·rintro ⟨p,hp,rfl,h2⟩;have hpl:(p++[]).length=m.length:=by simp [hp];omega
  rw [Qr (ZO hr.small) b _ hpl] at h2;exact ⟨hpl,by omega⟩
 ·rintro ⟨h1,h3⟩;refine ⟨x,by omega,by simp,?_⟩;rw [Qr (ZO hr.small) b _ h1];omega
def jZ (p:Int×List Int):List Int:=p.1::p.2
def z8 (p q:Int×List Int):Bool:=decide (zw (jZ p) (jZ q)<0)
theorem znP {p q:Int×List Int} (h:jZ p=jZ q):p=q:=by
 obtain ⟨a,x⟩:=p;obtain ⟨b,y⟩:=q;simpa [jZ] using h
theorem znQ {p q r:Int×List Int} (h1:z8 p q=true) (h2:z8 q r=true):z8 p r=true:=by
 unfold z8 at*
 rw [decide_eq_true_eq] at*
 exact zbm _ _ _ h1 h2
theorem znR {p q:Int×List Int} (h1:z8 p q=false) (h2:z8 q p=false):p=q:=by
 unfold z8 at*
 rw [decide_eq_false_iff_not] at*
 rw [jO] at h2;exact znP (Jm _ _ (by omega))
def ZU:List (Int×List Int)->Int×List Int->Nat
 |[],_=>0
 |y::l,x=>if z8 y x then ZU l x+1 else 0
theorem zdL:∀(l:List (Int×List Int)) (x:Int×List Int) (k:Nat),(∀j y,j<k->l[j]? =some y->z8 y x=true)->k<=l.length->(∀y,l[k]? =some y->z8 y x=false)->ZU l x=k
 |[],x,k,_,hk,_=>by simp at hk;simp [ZU,hk]
 |y::l,x,0,_,_,h=>by have :=h y rfl;simp [ZU,this]
 |y::l,x,k+1,h1,hk,h2=>by
  have e:=h1 0 y (by omega) rfl;rw [ZU,if_pos e,zdL l x k (fun j z hj hz=>h1 (j+1) z (by omega) (by simpa using hz)) (by simpa using hk) (fun z hz=>h2 z (by simpa using hz))]
def zZ (l:List (Int×List Int)) (x:Int×List Int):List (Int×List Int):=
 match l[ZU l x]? with
 |some y=>if z8 x y then l.take (ZU l x)++x::l.drop (ZU l x) else l
 |none=>l++[x]
theorem zhj:∀(l:List (Int×List Int)) (x:Int×List Int),l.Pairwise (fun p q=>z8 p q=true)->(zZ l x).Pairwise (fun p q=>z8 p q=true)/\∀y,y∈zZ l x↔y∈l∨y=x
 |[],x,_=>by simp [zZ,ZU]
 |y::l,x,h=>by
  by_cases hyx:z8 y x=true
  ·have hp:(y::l)[ZU (y::l) x]? =l[ZU l x]? :=by simp [ZU,hyx]
   have e:zZ (y::l) x=y::zZ l x:=by
    unfold zZ;rw [hp];simp only [ZU,if_pos hyx];split<;>simp
    split<;>simp
   rw [List.pairwise_cons] at h;obtain ⟨h1,h2⟩:=zhj l x h.2;rw [e,List.pairwise_cons];refine ⟨⟨fun z hz=>?_,h1⟩,fun z=>?_⟩
   ·rcases (h2 z).1 hz with hz |rfl
    ·exact h.1 z hz
    ·exact hyx
   ·simp only [List.mem_cons,h2];constructor
    ·rintro (h |h |h)
     ·exact .inl (.inl h)
     ·exact .inl (.inr h)
     ·exact .inr h
    ·rintro ((h |h) |h)
     ·exact .inl h
     ·exact .inr (.inl h)
     ·exact .inr (.inr h)
  ·have e0:ZU (y::l) x=0:=by simp [ZU,hyx]
   have e:zZ (y::l) x=if z8 x y then x::y::l else y::l:=by
    unfold zZ;rw [e0];simp
   rw [e];by_cases hxy:z8 x y=true
   ·rw [if_pos hxy];refine ⟨List.pairwise_cons.2 ⟨fun z hz=>?_,h⟩,fun z=>?_⟩
    ·rcases List.mem_cons.1 hz with rfl |hz
     ·exact hxy
     ·exact znQ hxy ((List.pairwise_cons.1 h).1 z hz)
    ·simp only [List.mem_cons];constructor
     ·rintro (h |h)
      ·exact .inr h
      ·exact .inl h
     ·rintro (h |h)
      ·exact .inr h
      ·exact .inl h
   ·rw [if_neg hxy];have hxe:=znR (p:=y) (q:=x) (by simpa using hyx) (by simpa using hxy);subst hxe;refine ⟨h,fun z=>?_⟩;simp only [List.mem_cons];constructor
    ·exact fun h=> .inl h
    ·rintro (h |h)
     ·exact h
     ·exact .inl h
def z9 (m:List (List Int)) (xs:List (List Int)):List (Int×List Int):=
 xs.foldl (fun l x=>if 0<zv x then zZ l (zu m x,x) else l) []
theorem zhk (m:List (List Int)) (xs:List (List Int)):∀l:List (Int×List Int),l.Pairwise (fun p q=>z8 p q=true)->
  (xs.foldl (fun l x=>if 0<zv x then zZ l (zu m x,x) else l) l).Pairwise (fun p q=>z8 p q=true)/\∀y,y∈xs.foldl (fun l x=>if 0<zv x then zZ l (zu m x,x) else l) l↔y∈l∨∃x∈xs,0<zv x/\y=(zu m x,x):=by
 induction xs with
 |nil=>intro l h;exact ⟨h,fun y=>by simp⟩
 |cons x xs ih=>
  intro l h;simp only [List.foldl_cons];by_cases hx:0<zv x
  ·rw [if_pos hx];obtain ⟨h1,h2⟩:=zhj l (zu m x,x) h;obtain ⟨h3,h4⟩:=ih _ h1;refine ⟨h3,fun y=>?_⟩;rw [h4,h2];simp only [List.mem_cons];constructor
   ·rintro ((h |h) |⟨z,hz,a,b⟩)
    ·exact .inl h
    ·exact .inr ⟨x,.inl rfl,hx,h⟩
    ·exact .inr ⟨z,.inr hz,a,b⟩
   ·rintro (h |⟨z,(rfl |hz),a,b⟩)
    ·exact .inl (.inl h)
    ·exact .inl (.inr b)
    ·exact .inr ⟨z,hz,a,b⟩
  ·rw [if_neg hx];obtain ⟨h3,h4⟩:=ih _ h;refine ⟨h3,fun y=>?_⟩;rw [h4];simp only [List.mem_cons];constructor
   ·rintro (h |⟨z,hz,a,b⟩)
    ·exact .inl h
    ·exact .inr ⟨z,.inr hz,a,b⟩
   ·rintro (h |⟨z,(rfl |hz),a,b⟩)
    ·exact .inl h
    ·exact absurd a hx
    ·exact .inr ⟨z,hz,a,b⟩
theorem zhl {m:List (List Int)} (hr:RedOK m) {b:Int} (hb:0<=b):VecList m b false ((z9 m (zS m b (m.length-1) [])).map Prod.snd)/\z9 m (zS m b (m.length-1) [])=((z9 m (zS m b (m.length-1) [])).map Prod.snd).map fun x=>(zu m x,x):=by
 obtain ⟨h1,h2⟩:=zhk m (zS m b (m.length-1) []) [] List.Pairwise.nil;have hm:∀y,y∈z9 m (zS m b (m.length-1) [])↔∃x,(x.length=m.length/\0<zv x/\zu m x<=b)/\y=(zu m x,x):=fun y=>by
  unfold z9;rw [h2];simp only [zhi hr hb];constructor
  ·rintro (h |⟨x,⟨a1,a2⟩,a3,a4⟩)
   ·simp at h
   ·exact ⟨x,⟨a1,a3,a2⟩,a4⟩
  ·rintro ⟨x,⟨a1,a3,a2⟩,a4⟩;exact .inr ⟨x,⟨a1,a2⟩,a3,a4⟩
 have he:∀y∈z9 m (zS m b (m.length-1) []),y=(zu m y.2,y.2):=fun y hy=>by
  obtain ⟨x,-,rfl⟩:=(hm y).1 hy;rfl
 refine ⟨⟨?_,fun x=>?_⟩,?_⟩
 ·rw [List.pairwise_map];refine List.Pairwise.imp_of_mem ?_ h1;intro p q hp hq h;unfold z8 at h;rw [decide_eq_true_eq,he p hp,he q hq] at h;rw [zcG];exact h
 ·rw [List.mem_map];constructor
  ·rintro ⟨y,hy,rfl⟩;obtain ⟨x,⟨a1,a2,a3⟩,rfl⟩:=(hm y).1 hy;exact ⟨a1,a2,a3,fun h=>by cases h⟩
  ·rintro ⟨a1,a2,a3,-⟩;exact ⟨(zu m x,x),(hm _).2 ⟨x,⟨a1,a2,a3⟩,rfl⟩,rfl⟩
 ·rw [List.map_map];conv=>lhs;rw [<-List.map_id (z9 m (zS m b (m.length-1) []))]
  exact List.map_congr_left fun y hy=>he y hy
theorem znS {m:List (List Int)} (hr:RedOK m) {b:Int} (hb:0<=b) {e:Bool} {L:List (List Int)} (h:VecList m b e L):L.length=(qv m b e).length:=by
 have hp:L.Perm ((qv m b e).map zJ):=(List.perm_ext_iff_of_nodup h.nodup (zgc hr hb e)).2 fun x=>by rw [h.mem,zg6 hr hb]
 simpa using hp.length_eq
end
end Go.Proofs.YtjehjkipcaohpaaGreat
