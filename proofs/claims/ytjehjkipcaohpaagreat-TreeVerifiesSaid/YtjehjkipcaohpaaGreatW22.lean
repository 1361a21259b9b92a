/- Awk12 Tm1 RefI Tl Tm2 Fr1 R09a -/
import Derived.Test.YtjehjkipcaohpaaGreatW21
import Derived.Test.YtjehjkipcaohpaaGreatProg
import Derived.Test.YtjehjkipcaohpaaGreatWSh
import Derived.Test.YtjehjkipcaohpaaGreatW17
set_option maxHeartbeats 8000000
set_option linter.unusedVariables false
set_option linter.unusedSimpArgs false
set_option linter.constructorNameAsVariable false
namespace Go.Proofs.YtjehjkipcaohpaaGreat
open Go.RowKit
theorem zmU {w0 w:World} {A:Option Addr} {c:Nat} {m:List (List Int)} {bound budget:Int} {st:List Int} (h:Mat64 w0 A m) (hc:m.length<=c) (hc2:c<=9223372036854775807) (h2:2<=m.length) (hf:FormOK m) (h64:Jc m) (h8:m.length<=8) (hb0:0<=bound) (hb1:bound<1073741824) (hs:qd m bound budget=(st,0)) {C:List (Int×Int)} (hC:Zt (za m m.length) (zd m m.length) (m.length-1) (vD (za m m.length) m.length*bound) []=C) (hlen:C.length<=1073741824) (hbd:∀p∈C,-9223372036854775808<=p.1/\p.1<=9223372036854775807/\-9223372036854775808<=p.2/\p.2<=9223372036854775807) [hx:Ext w0 w]:
  Calls Tryz.prog 45 #[.slice A m.length c,.int .i64 bound,.int .i64 budget] w fun e w'=>∃B d,e= .returned (.tuple #[.slice B C.length d,.int .i64 0])/\IvV w' B C/\Step w w':=by
 have hst:=fun W (hh:Ext w0 W)=>zjw (w:=W) (bound:=bound) (budget:=budget) h (by omega) hc hc2 (fun _=>hf)
 rw [hs] at hst;have hiv:=fun W (hh:Ext w0 W)=>zkW (w:=W) (c:=c) h h2 hf h64 hb0 hb1 (by rw [hC];exact hlen) (by rw [hC];exact hbd)
 rw [hC] at hiv;have HST:=Zh hst;have HIV:=Zh hiv;clear hst hiv hs hC hf;go_enter Tryz.func45,Tryz.ntmps45;go_wp2_with (first
  |(go_at_call 49;refine (HST.out _ Zi).mono ?_;rintro e w1 ⟨A1,c1,rfl,hI,k1,k2,hs1⟩)
  |(go_at_call 70;refine (HIV.out _ Zi).mono ?_;rintro e w2 ⟨A2,c2,rfl,hI2,k3,k4,hs2⟩))
 go_ret2
 exact ⟨A2,c2,rfl,hI2.toV,Step.of _ _⟩
theorem zmV:ChkN (za m2 2) (zd m2 2) 2 2:=by
 rw [ze2,ze3];exact ⟨by decide,by decide,rfl,rfl,by decide,by decide,by decide,by decide,by decide,by decide⟩
theorem zmW:TreeOK m2 2:=⟨ze5,ze6,zj8,by decide,by decide,zmV⟩
def QT:List (Int×Int):=[(-1,1),(0,1),(-1,1),(-1,0)]
theorem zmX:Zt (za m2 m2.length) (zd m2 m2.length) (m2.length-1) (vD (za m2 m2.length) m2.length*2) []=QT:=by decide
def zdn:List (List Int):=[[1,-1],[1,0],[0,1]]
theorem zgG:QL m2 2 QT=some zdn:=by decide
theorem zmY {L:List (List Int)} (hp:L.Perm (zdn.map zE)) (hw:L.Pairwise (fun x y=>qj (zp m2 x) (zp m2 y) x y<0)):L=zan:=
 zkd hp hw (by decide) (by decide) (by decide)
theorem zmZ {w0 w:World} {A B:Option Addr} {d:Nat} (h:Mat64 w0 A m2) (hC:IvV w0 B QT) [hx:Ext w0 w]:
  Calls Tryz.prog 42 #[.slice A 2 2,.int .i64 2,.slice B 4 d] w fun e w'=>∃X c,e= .returned (.tuple #[.slice X 3 c,.int .i64 0])/\Mat64 w' X zan/\Step w w':=by
 have hv:∀l,QL m2 2 QT=some l->l.length<=4096->(∀x∈l,VecOK m2 x)/\(l.map zE).Nodup:=fun l hl _=>by
  rw [zgG] at hl;injection hl with hl
  subst hl;refine ⟨fun x hx=>?_,by decide⟩
  simp only [zdn,List.mem_cons,List.not_mem_nil,or_false] at hx;rcases hx with rfl |rfl |rfl<;>exact ⟨by decide,by decide,by decide⟩
 have :=zfg (w:=w) (c:=2) (d:=d) h (by decide) (by decide) zmW hC (by decide) hv
 rw [zgG] at this;refine this.mono ?_;intro e w' hp;simp only at hp
 rw [if_neg (by decide)] at hp
 obtain ⟨X,c,L,he,hM,_,_,h1,h2,hs⟩:=hp
 obtain rfl:=zmY h1 h2
 exact ⟨X,c,he,hM,hs⟩
theorem zm0 {w0 w:World} {A:Option Addr} (h:Mat64 w0 A m2) [hx:Ext w0 w]:
  Calls Tryz.prog 45 #[.slice A 2 2,.int .i64 2,.int .i64 100] w fun e w'=>∃B d,e= .returned (.tuple #[.slice B 4 d,.int .i64 0])/\IvV w' B QT/\Step w w':=
 zmU (c:=2) h (by decide) (by decide) (by decide) ze5 ze6 (by decide) (by decide) (by decide) zkc zmX (by decide) (by decide)
theorem zm1 (w:World):IvV (w.alloc (.cells #[.int .i64 (-1),.int .i64 1,.int .i64 0,.int .i64 1,.int .i64 (-1),.int .i64 1,.int .i64 (-1),.int .i64 0] 64)) (some ⟨w.heap.size,0,none⟩) QT:=
 ⟨⟨_,Arr.new w 64 #[.int .i64 (-1),.int .i64 1,.int .i64 0,.int .i64 1,.int .i64 (-1),.int .i64 1,.int .i64 (-1),.int .i64 0]⟩,by decide⟩
theorem zm2 (w:World) (s:Nat) (hs:w.heap.size=s) (a b c d e f:Int):Mat64 ((((w.alloc (.cells #[.int .i64 a,.int .i64 b] 2)).alloc (.cells #[.int .i64 c,.int .i64 d] 2)).alloc (.cells #[.int .i64 e,.int .i64 f] 2)).alloc (.cells #[.slice (some ⟨s,0,none⟩) 2 2,.slice (some ⟨s+1,0,none⟩) 2 2,.slice (some ⟨s+1+1,0,none⟩) 2 2] 37)) (some ⟨s+1+1+1,0,none⟩) [[a,b],[c,d],[e,f]]:=by
 subst hs;exact zkf w a b c d e f
set_option maxRecDepth 100000 in
theorem zm3 {w:World}:Calls Tryz.prog 43 #[] w (zv w (.bool true)):=by
 have HE:Hid (∀W0 W A,Mat64 W0 A m2->Ext W0 W->Calls Tryz.prog 45 #[.slice A 2 2,.int .i64 2,.int .i64 100] W fun e w'=>∃B d,e= .returned (.tuple #[.slice B 4 d,.int .i64 0])/\IvV w' B QT/\Step W w'):=Zh (fun W0 W A h hx=>zm0 h)
 have HV:Hid (∀W A B d,Mat64 W A m2->IvV W B QT->Calls Tryz.prog 42 #[.slice A 2 2,.int .i64 2,.slice B 4 d] W fun e w'=>∃X c,e= .returned (.tuple #[.slice X 3 c,.int .i64 0])/\Mat64 w' X zan/\Step W w'):=Zh (fun W A B d h hC=>zmZ h hC)
 have HSI:Hid (∀W B c C d,IvV W B QT->IvV W C QT->Calls Tryz.prog 46 #[.slice B 4 c,.slice C 4 d] W (jp W (.bool true))):=Zh (fun W B c C d h1 h2=>zkP (w0:=W) (w:=W) (c:=c) (d:=d) h1 h2 (by simp [QT]))
 have HS:Hid (∀W B c C d,Mat64 W B zan->Mat64 W C zan->Calls Tryz.prog 25 #[.slice B 3 c,.slice C 3 d] W (jp W (.bool true))):=Zh (fun W B c C d h1 h2=>ze0 (w0:=W) (w:=W) (c:=c) (d:=d) h1 h2 (by decide) (by decide) (by decide) (by decide))
 have hM:=zke w 2 1 1 2
 have HM:=Zh hM
 clear hM;go_enter Tryz.func43,Tryz.ntmps43;go_wp2_with (first
  |(go_at_call 45;refine (HE.out _ _ _ HM.out Zi).mono ?_;rintro e w1 ⟨B1,d1,rfl,hI1,hs1⟩)
  |(go_at_call 42;refine (HV.out _ _ _ _ (HM.out.ext Zi) hI1).mono ?_;rintro e w2 ⟨X2,c2,rfl,hM2,hs2⟩)
  |(go_at_call 46;refine (HSI.out _ _ _ _ _ (hI1.ext Zi) (zm1 w2)).mono ?_;rintro e w3 ⟨rfl,n3,rfl⟩)
  |(go_at_call 25;refine (HS.out _ _ _ _ _ (hM2.ext Zi) (zm2 ((w2.alloc (.cells #[.int .i64 (-1),.int .i64 1,.int .i64 0,.int .i64 1,.int .i64 (-1),.int .i64 1,.int .i64 (-1),.int .i64 0] 64)).drewN n3) (w2.heap.size+1) Sz.eq 0 1 1 (-1) 1 0)).mono ?_;rintro e w4 ⟨rfl,n4,rfl⟩))
 go_ret
 exact ⟨rfl,Step.of _ _⟩
end Go.Proofs.YtjehjkipcaohpaaGreat
namespace Go.Proofs.YtjehjkipcaohpaaGreat
open La
theorem zm4 {mi sh lim c:Int}:zY mi sh lim c=true↔zH mi sh c*zH mi sh c<=lim:=by
 simp [zY]
theorem zm5 {mi sh lim lo hi:Int} (hm:1<=mi) {a b:Int} (hab:a-1<=b) (h:∀c,(a<=c/\c<=b)↔zH mi sh c*zH mi sh c<=lim) (h1:zH mi sh (a-1)<0) (h2:0<zH mi sh (b+1)) (ha:-1099511627776<=a) (hb:b<=1099511627776):ZR mi sh lim lo hi=true↔lo=a/\hi=b:=by
 have hin:∀c,zY mi sh lim c=true↔a<=c/\c<=b:=fun c=>by rw [zm4,<-h]
 have hout:∀c,zY mi sh lim c=false↔¬(a<=c/\c<=b):=fun c=>by rw [<-hin];cases zY mi sh lim c<;>simp
 have mono:∀c d,c<=d->zH mi sh c<=zH mi sh d:=fun c d hcd=>by
  unfold zH;have :mi*c<=mi*d:=Int.mul_le_mul_of_nonneg_left hcd (by omega)
  omega
 unfold ZR;constructor
 ·intro hh;split at hh
  ·cases hh
  ·rename_i g0
   split at hh
   ·cases hh
   ·rename_i g
    simp only [Bool.or_eq_true,not_or,Bool.not_eq_true] at g;have g1:=(hout (lo-1)).1 g.1;have g2:=(hout (hi+1)).1 g.2;split at hh
    ·rename_i h3
     simp only [Bool.and_eq_true] at hh;have g3:=(hin lo).1 hh.1;have g4:=(hin hi).1 hh.2;omega
    ·rename_i h3
     simp only [Bool.and_eq_true,decide_eq_true_eq] at hh;have e:hi=lo-1:=by omega
     rw [show hi+1=lo by omega] at g2
     rw [e] at hh;rcases (by omega:a<=b∨b=a-1) with h4 |h4
     ·exfalso
      have k1:=(h a).1 ⟨by omega,by omega⟩
      have k2:¬zH mi sh lo*zH mi sh lo<=lim:=fun hc=>g2 ((h lo).2 hc)
      have k3:¬zH mi sh (lo-1)*zH mi sh (lo-1)<=lim:=fun hc=>g1 ((h (lo-1)).2 hc)
      rcases (by omega:lo<=a∨a<=lo-1) with h5 |h5
      ·have m1:=mono lo a h5
       have :=Int.mul_le_mul m1 m1 (by omega) (by omega)
       omega
      ·have m1:=mono a (lo-1) h5
       have :=Int.mul_le_mul (a:=-zH mi sh (lo-1)) (b:=-zH mi sh (lo-1)) (c:=-zH mi sh a) (d:=-zH mi sh a) (by omega) (by omega) (by omega) (by omega)
       rw [Int.neg_mul_neg,Int.neg_mul_neg] at this;omega
     ·subst h4;rw [show a-1+1=a by omega] at h2
      rcases (by omega:lo=a∨lo<=a-1∨a<=lo-1) with h5 |h5 |h5
      ·omega
      ·have :=mono _ _ h5;omega
      ·have :=mono _ _ h5;omega
 ·rintro ⟨rfl,rfl⟩
  rw [if_neg (by omega),if_neg]
  ·split
   ·rename_i h3
    rw [(hin lo).2 (by omega),(hin hi).2 (by omega)];rfl
   ·rename_i h3
    have e:hi=lo-1:=by omega
    rw [show hi+1=lo by omega] at h2
    rw [e];simp [h1,h2]
  ·simp only [Bool.or_eq_true,not_or,Bool.not_eq_true];exact ⟨(hout _).2 (by omega),(hout _).2 (by omega)⟩
theorem zgH {m:List (List Int)} (hr:RedOK m) {bound:Int} (hb:0<=bound) (hb1:bound<1073741824) {k:Nat} (t:List Int) (hk:k<m.length) (ht:t.length=m.length-1-k) (h0:0<=left (ent m) bound (k+1) t) (lo hi:Int):
  ZR (vD (za m m.length) (k+1)) (Zp (zd m m.length) k t) (Zj (za m m.length) k (left (ent m) bound (k+1) t)) lo hi=true↔lo=zB (za m m.length) (zd m m.length) k (left (ent m) bound (k+1) t) t/\hi=Zf (za m m.length) (zd m m.length) k (left (ent m) bound (k+1) t) t:=by
 have hN:=hr.num hb hb1
 have hlev:=Qg hr hb hb1 t k hk ht h0
 have hd:=hN.d1 (k+1) (by omega)
 obtain ⟨s0,s1⟩:=zah hN hlev
 obtain ⟨r0,r1,r2⟩:=QZ hN hlev
 have hS:=jn hN hlev
 have he:=j5 hN hlev
 have hc:=(QH hN hlev).1
 have hq:=fun u=>zfH s0 u
 have hu:∀c,zH (vD (za m m.length) (k+1)) (Zp (zd m m.length) k t) c=vD (za m m.length) (k+1)*c+Zp (zd m m.length) k t:=fun c=>rfl
 refine zm5 hd (by unfold zK at hc;omega) (fun c=>?_) ?_ ?_ (by omega) (by omega)
 ·rw [<-hq,hu];show _↔(-vR (za m m.length) k (left (ent m) bound (k+1) t)<=_/\_<=vR (za m m.length) k (left (ent m) bound (k+1) t));unfold zB Zf;generalize vD (za m m.length) (k+1)=d at hd |-;generalize Zp (zd m m.length) k t=s;generalize vR (za m m.length) k (left (ent m) bound (k+1) t)=r;have e1:-((r+s) / d)<=c↔-r<=d*c+s:=by
   have h1:=Int.le_ediv_iff_mul_le (a:=-c) (b:=r+s) (show 0<d by omega)
   have h2:-c*d=-(d*c):=by rw [Int.neg_mul,Int.mul_comm]
   omega
  have e2:c<=(r-s) / d↔d*c+s<=r:=by
   have h1:=Int.le_ediv_iff_mul_le (a:=c) (b:=r-s) (show 0<d by omega)
   have h2:c*d=d*c:=Int.mul_comm _ _
   omega
  rw [e1,e2]
 ·rw [hu];unfold zB;generalize vD (za m m.length) (k+1)=d at hd |-;generalize Zp (zd m m.length) k t=s;generalize vR (za m m.length) k (left (ent m) bound (k+1) t)=r at r0 |-
  have a1:=Int.mul_ediv_add_emod (r+s) d
  have a2:=Int.emod_lt_of_pos (r+s) (show 0<d by omega)
  have e:d*(-((r+s) / d)-1)=-(d*((r+s) / d))-d:=by rw [Int.mul_sub,Int.mul_neg,Int.mul_one]
  omega
 ·rw [hu];unfold Zf;generalize vD (za m m.length) (k+1)=d at hd |-;generalize Zp (zd m m.length) k t=s;generalize vR (za m m.length) k (left (ent m) bound (k+1) t)=r at r0 |-
  have a1:=Int.mul_ediv_add_emod (r-s) d
  have a2:=Int.emod_lt_of_pos (r-s) (show 0<d by omega)
  have e:d*((r-s) / d+1)=d*((r-s) / d)+d:=by rw [Int.mul_add,Int.mul_one]
  omega
end Go.Proofs.YtjehjkipcaohpaaGreat
namespace Go.Proofs.YtjehjkipcaohpaaGreat
open Go.RowKit
open La
theorem zm6 {w0 w:World} {A:Option Addr} {c n b:Nat} {m:List (List Int)} (h:MatV w0 A m) (h1:m.length=n) (h3:1<=n) (h4:n<=8) (hn:AllLen m n) (hb:BdM b m) (hb1:1<=b) (hbb:b<=1000000) (hp:Pos (zb (ent m)) n) (hs:Sym (zb (ent m))) (hfu:∀r,r<n->qQ (zb (ent m)) r) (hlo:∀p,p+1<n->ZZ (zb (ent m)) p) [hx:Ext w0 w]:
  Calls Tryz.prog 164 #[.slice A n c] w (zv w (.bool true)):=by
 have h0:=h.ext hx
 have HLE:=Zh (fun W (e1:Ext w W)=>zaE (w:=W) (c:=c) h0 h1 h3 h4 hn hb hb1 hbb)
 have HLL:Hid ((zl m).length=n):=Zh (by rw [Qj];exact h1)
 have HSZ:Hid (∀(W1 W:World) (B:Option Addr) (d i j:Nat),i<n->j<i->IntsV W1 B (zl m)->Ext w W->Ext W1 W->Calls Tryz.prog 149 #[.slice A n c,.slice B n d,.int .i64 i,.int .i64 j] W (zv W (.bool true))):=Zh (fun W1 W B d i j hi hj hI e1 e2=>by
  have :=zgq (w:=W) (c:=c) (d:=d) h0 hI h1 h4 hn hb hb1 hbb hi (show j<n by omega)
  rwa [decide_eq_true ((zgv h1 hp (show j<n by omega)).2 (hfu i hi j hj))] at this)
 have HLV:Hid (∀(W1 W:World) (B:Option Addr) (d i:Nat),i<n->1<=i->IntsV W1 B (zl m)->Ext w W->Ext W1 W->Calls Tryz.prog 155 #[.slice A n c,.slice B n d,.int .i64 i] W (zv W (.bool true))):=Zh (fun W1 W B d i hi hi1 hI e1 e2=>by
  have :=zgr (w:=W) (c:=c) (d:=d) h0 hI h1 h4 hn hb hb1 hbb hi hi1
  obtain ⟨p,rfl⟩:∃p,i=p+1:=⟨i-1,by omega⟩
  rwa [decide_eq_true ((zgw h1 hp hs hi).2 (hlo p hi))] at this)
 clear hn hb hp hs h1 hfu hlo;go_enter Tryz.func164,Tryz.ntmps164;go_wp2_with (go_at_call 106;refine (HLE.out _ Zi).mono ?_;rintro e w1 ⟨BD,dD,rfl,hI1,-,-,hs1⟩;rw [HLL.out];have HI:=Zh hI1;clear hI1);have hxw1:Ext w w1:=Zi;go_loopw [5,6,14] (fun _ _ i wr=>∃k:Nat,k<=n/\i= .int .i64 k/\Ext w1 wr) (fun _ _ i _=>n-(intOf i).toNat)
 case atStart=>exact ⟨0,by omega,rfl,Zi⟩
 case round=>
  obtain ⟨k,hk,rfl,hxr⟩:=hrel
  by_cases hlt:k<n
  ·go_wp2_with fail
   go_loopw [6] (fun s6 wr=>∃q:Nat,q<=k/\s6= .int .i64 q/\Ext w1 wr) (fun s6 _=>k-(intOf s6).toNat)
   case atStart=>exact ⟨0,by omega,rfl,Zi⟩
   case round=>
    obtain ⟨q,hq,rfl,hxq⟩:=hrel
    have hxwq:Ext w wr:=hxw1.trans hxq
    by_cases hqk:q<k
    ·have HSB:=Zh (fun W (e1:Ext wr W)=>HSZ.out w1 W BD dD k q hlt hqk HI.out (hxwq.trans e1) (hxq.trans e1))
     go_wp2_with (go_at_call 149;refine (HSB.out _ Zi).mono ?_;rintro e w6 ⟨rfl,hs6⟩)
     exact ⟨⟨q+1,by omega,by go_num,Zi⟩,by simp [intOf]<;>omega⟩
    ·by_cases hk0:k=0
     ·subst hk0;go_wp2_with fail;exact ⟨⟨1,by omega,rfl,hxq⟩,by simp [intOf]<;>omega⟩
     ·have HLB:=Zh (fun W (e1:Ext wr W)=>HLV.out w1 W BD dD k hlt (by omega) HI.out (hxwq.trans e1) (hxq.trans e1))
      have hgt:decide ((0:Int)<(k:Int))=true:=by simp;omega
      have hkpos:0<k:=by omega
      have hkpos2:(0:Int)<(k:Int):=by omega
      clear hk0;go_wp2_with (go_at_call 155;refine (HLB.out _ Zi).mono ?_;rintro e w6 ⟨rfl,hs6⟩);exact ⟨⟨k+1,by omega,by go_num,Zi⟩,by simp [intOf]<;>omega⟩
  ·have hxwr:Ext w wr:=hxw1.trans hxr
   go_wp2_with fail
   go_ret
   exact ⟨rfl,⟨hxwr.below⟩⟩
theorem LLLed.val {m:List (List Int)} (h:LLLed m):jt m:=⟨fun i hi j hj=>h.sym i j hi (by omega),zcM.2 h.pos⟩
theorem LLLed.detF {m:List (List Int)} (h:LLLed m):detF m<=10000:=by
 rw [zcL h.len1 (fun l hl=>by have :=Z4 h.pos (k:=l) (by omega);omega)]
 exact h.det
theorem LLLed.symO {m:List (List Int)} (h:LLLed m):Sym (zb (ent m)):=fun i j=>by
 by_cases hi:i<m.length
 ·by_cases hj:j<m.length
  ·unfold zb;rw [h.sym i j hi hj]
  ·unfold zb;rw [qf h.all (i:=i) (j:=j) (.inr (by omega)),qf h.all (i:=j) (j:=i) (.inl (by omega))]
 ·unfold zb;rw [qf h.all (i:=i) (j:=j) (.inl (by omega)),qf h.all (i:=j) (j:=i) (.inr (by omega))]
theorem zm7 {w0 w:World} {A:Option Addr} {c n:Nat} {m:List (List Int)} (h:Mat64 w0 A m) (hL:LLLed m) (h1:m.length=n) (h64:qg m) (hb:BdM 199 m) [hx:Ext w0 w]:
  Calls Tryz.prog 104 #[.slice A n c] w (zv w (.bool true)):=by
 have h3:1<=n:=by rw [<-h1];exact hL.len1
 have h4:n<=8:=by rw [<-h1];exact hL.len8
 have hn:AllLen m n:=by rw [<-h1];exact hL.all
 have hp:Pos (zb (ent m)) n:=by rw [<-h1];exact hL.pos
 have HFI:Hid (∀W,Ext w W->Calls Tryz.prog 95 #[.slice A n c] W (zaz W n m)):=Zh (fun W e=>by
  have :Ext w0 W:=hx.trans e
  have :=zge (w:=W) (c:=c) h n (by omega) (by omega) h3 (by omega) hn h64
  rwa [h1] at this)
 have HVA:Hid (∀(W1 W:World) (A1:Option Addr) (c1:Nat),MatV W1 A1 m->Ext W1 W->Calls Tryz.prog 87 #[.slice A1 n c1] W (fun e w'=>∃v:Int,e= .returned (.int .i64 v)/\(v=0↔true=true)/\0<=v/\v<=5/\Step W w')):=Zh (fun W1 W A1 c1 hM e=>zdk true (by simp [hL.val]) hM h1 h3 h4 hn hb (by omega) (by omega))
 have HSM:Hid (∀(W1 W:World) (A1:Option Addr) (c1:Nat),MatV W1 A1 m->Ext W1 W->Calls Tryz.prog 88 #[.slice A1 n c1] W (zv W (.bool true))):=Zh (fun W1 W A1 c1 hM e=>by
  have :=zgp (w:=W) (c:=c1) hM h1 h3 h4 hn hb (by omega) (by omega)
  rwa [decide_eq_true hL.detF] at this)
 have HRE:Hid (∀(W1 W:World) (A1:Option Addr) (c1:Nat),MatV W1 A1 m->Ext W1 W->Calls Tryz.prog 164 #[.slice A1 n c1] W (zv W (.bool true))):=Zh (fun W1 W A1 c1 hM e=>zm6 hM h1 h3 h4 hn hb (by omega) (by omega) hp hL.symO (fun r hr=>hL.full r (by omega)) (fun p hp=>hL.lov p (by omega)))
 have HL:=Zh h1
 clear hn hb h64 h1 hp hL;go_enter Tryz.func104,Tryz.ntmps104;go_wp2_with (first
  |(go_at_call 95;refine (HFI.out _ Zi).mono ?_;rintro e w1 ⟨g1,hs1',c1,rfl,hO1,-,-,hs1⟩;rw [HL.out];have HM:=Zh hO1.mat;clear hO1)
  |(go_at_call 87;refine (HVA.out _ _ _ _ HM.out Zi).mono ?_;rintro e w2 ⟨v,rfl,hv,hv0,hv5,hs2⟩;have hvz:v=0:=(hv.2 (by trivial));subst hvz;clear hv hv0 hv5)
  |(go_at_call 88;refine (HSM.out _ _ _ _ HM.out Zi).mono ?_;rintro e w3 ⟨rfl,hs3⟩)
  |(go_at_call 164;refine (HRE.out _ _ _ _ HM.out Zi).mono ?_;rintro e w4 ⟨rfl,hs4⟩))
 go_ret
 exact ⟨rfl,Step.of _ _⟩
end Go.Proofs.YtjehjkipcaohpaaGreat
namespace Go.Proofs.YtjehjkipcaohpaaGreat
open La
def zf (m:List (List Int)) (b:Int) (k:Nat) (t:List Int):Int:=zB (za m m.length) (zd m m.length) k (left (ent m) b (k+1) t) t
def zx (m:List (List Int)) (b:Int) (k:Nat) (t:List Int):Int:=Zf (za m m.length) (zd m m.length) k (left (ent m) b (k+1) t) t
def zF (m:List (List Int)) (b:Int) (k:Nat) (t:List Int):Nat:=(zx m b k t-zf m b k t+1).toNat
theorem zm8 (c:Int) (t:List Int):0<zq (c::t)↔0<c∨(c=0/\0<zq t):=by
 show 0<(if c=0 then zq t else c)↔_
 by_cases h:c=0
 ·rw [if_pos h];subst h;simp
 ·rw [if_neg h];omega
theorem zgI {x:List Int} (h:0<zq x):zE x=x:=by unfold zE;rw [if_neg (by omega)]
theorem zm9 {m:List (List Int)} (hr:RedOK m) {b:Int} (hb:0<=b) (exact:Bool) (x:List Int):x∈(qX m b exact).map zE↔x.length=m.length/\0<zq x/\zp m x<=b/\(exact=true->zp m x=b):=by
 rw [List.mem_map];constructor
 ·rintro ⟨y,hy,rfl⟩
  obtain ⟨h1,h2,h3,h4⟩:=(JK hr hb exact y).1 hy
  rw [zeW,jG];exact ⟨h1,zfP y (fun e=>zaw h2 (zlu e)),h3,h4⟩
 ·rintro ⟨h1,h2,h3,h4⟩
  have hne:¬∀y∈x,y=0:=fun hz=>by
   have :zq x=0:=by
    clear h1 h2 h3 h4;induction x with
    |nil=>rfl
    |cons a x ih=>
     have ha:=hz a (by simp)
     simp only [zq,ha,if_true];exact ih (fun y hy=>hz y (by simp [hy]))
   omega
  rcases zfN hne with h5 |h5
  ·refine ⟨x,(JK hr hb exact x).2 ⟨h1,h5,h3,h4⟩,?_⟩
   unfold zE;rw [if_neg (by omega)]
  ·refine ⟨x.map fun c=>-c,(JK hr hb exact _).2 ⟨by simpa using h1,h5,by rw [zal];exact h3,by rw [zal];exact h4⟩,?_⟩
   unfold zE;rw [zfO,if_pos (by omega),JL]
def tE (m:List (List Int)) (b:Int):Nat->List Int->List (Int×Int)
 |0,t=>[(zf m b 0 t,zx m b 0 t)]
 |k+1,t=>(zf m b (k+1) t,zx m b (k+1) t)::(List.range (zF m b (k+1) t)).flatMap fun (j:Nat)=>tE m b k ((zf m b (k+1) t+(j:Int))::t)
def QB (m:List (List Int)) (b:Int) (k:Nat) (t:List Int) (i:Nat):List (Int×Int):=
 (List.range' i (zF m b k t-i)).flatMap fun (j:Nat)=>tE m b (k-1) ((zf m b k t+(j:Int))::t)
def tC (m:List (List Int)) (b:Int):Nat->List Int->List (List Int)->List (List Int)
 |0,t,l=>l++zZ t (Z2 t (zf m b 0 t)) (zN (Z2 t (zf m b 0 t)) (zx m b 0 t) l.length)
 |k+1,t,l=>(List.range (zF m b (k+1) t)).foldl (fun l (j:Nat)=>tC m b k ((zf m b (k+1) t+(j:Int))::t) l) l
def QU (m:List (List Int)) (b:Int) (k:Nat) (t:List Int) (i:Nat) (l:List (List Int)):List (List Int):=
 (List.range' i (zF m b k t-i)).foldl (fun l (j:Nat)=>tC m b (k-1) ((zf m b k t+(j:Int))::t) l) l
def qM (m:List (List Int)) (b:Int) (x:List Int):Nat->Nat->List (Int×Int)
 |0,_=>[]
 |f+1,k=>QB m b k (x.drop (k+1)) (x.getD k 0-zf m b k (x.drop (k+1))+1).toNat++qM m b x f (k+1)
def qN (m:List (List Int)) (b:Int) (x:List Int):Nat->Nat->List (List Int)->List (List Int)
 |0,_,l=>l
 |f+1,k,l=>qN m b x f (k+1) (QU m b k (x.drop (k+1)) (x.getD k 0-zf m b k (x.drop (k+1))+1).toNat l)
theorem zna (m:List (List Int)) (b:Int) (k:Nat) (t:List Int):tE m b (k+1) t=(zf m b (k+1) t,zx m b (k+1) t)::QB m b (k+1) t 0:=by
 simp [tE,QB,List.range_eq_range']
theorem zgJ (m:List (List Int)) (b:Int) (k:Nat) (t:List Int) (l:List (List Int)):tC m b (k+1) t l=QU m b (k+1) t 0 l:=by
 simp [tC,QU,List.range_eq_range']
theorem zgK {m:List (List Int)} {b:Int} {k:Nat} {t:List Int} {i:Nat} (h:zF m b k t<=i):QB m b k t i=[]:=by
 simp [QB,show zF m b k t-i=0 by omega]
theorem zgL {m:List (List Int)} {b:Int} {k:Nat} {t:List Int} {i:Nat} (h:zF m b k t<=i) (l:List (List Int)):QU m b k t i l=l:=by
 simp [QU,show zF m b k t-i=0 by omega]
theorem zgM {m:List (List Int)} {b:Int} {k:Nat} {t:List Int} {i:Nat} (h:i<zF m b k t):QB m b k t i=tE m b (k-1) ((zf m b k t+(i:Int))::t)++QB m b k t (i+1):=by
 rw [QB,show zF m b k t-i=(zF m b k t-(i+1))+1 by omega,List.range'_succ,List.flatMap_cons,QB]
theorem zgN {m:List (List Int)} {b:Int} {k:Nat} {t:List Int} {i:Nat} (h:i<zF m b k t) (l:List (List Int)):QU m b k t i l=QU m b k t (i+1) (tC m b (k-1) ((zf m b k t+(i:Int))::t) l):=by
 rw [QU,show zF m b k t-i=(zF m b k t-(i+1))+1 by omega,List.range'_succ,List.foldl_cons,QU]
theorem zgO {m:List (List Int)} {b:Int} {x y:List Int}:∀f k,x.drop k=y.drop k->qM m b x f k=qM m b y f k:=by
 intro f;induction f with
 |zero=>intro k _;rfl
 |succ f ih=>
  intro k h;have h1:x.drop (k+1)=y.drop (k+1):=by
   have e:∀z:List Int,z.drop (k+1)=(z.drop k).drop 1:=fun z=>by rw [List.drop_drop]
   rw [e,e,h]
  have h2:x.getD k 0=y.getD k 0:=by
   have e:∀z:List Int,z.getD k 0=(z.drop k).headD 0:=fun z=>by simp [List.getD_eq_getElem?_getD,List.headD_eq_head?_getD,List.head?_drop]
   rw [e,e,h]
  simp only [qM,h1,h2,ih (k+1) h1]
theorem zgP {m:List (List Int)} {b:Int} {x y:List Int}:∀f k,x.drop k=y.drop k->∀l,qN m b x f k l=qN m b y f k l:=by
 intro f;induction f with
 |zero=>intro k _ l;rfl
 |succ f ih=>
  intro k h l;have h1:x.drop (k+1)=y.drop (k+1):=by
   have e:∀z:List Int,z.drop (k+1)=(z.drop k).drop 1:=fun z=>by rw [List.drop_drop]
   rw [e,e,h]
  have h2:x.getD k 0=y.getD k 0:=by
   have e:∀z:List Int,z.getD k 0=(z.drop k).headD 0:=fun z=>by simp [List.getD_eq_getElem?_getD,List.headD_eq_head?_getD,List.head?_drop]
   rw [e,e,h]
  simp only [qN,h1,h2,ih (k+1) h1]
structure ChkSt (m:List (List Int)) (b:Int) (k:Nat) (x rest:List Int) (lv:List Lvl):Prop where
 kn:k<m.length
 xl:x.length=m.length
 rl:rest.length=m.length+1
 ll:lv.length=m.length
 rs:∀j,k<=j->j<m.length->rest.getD (j+1) 0=left (ent m) b (j+1) (x.drop (j+1))/\0<=left (ent m) b (j+1) (x.drop (j+1))
 lv:∀j,k<j->j<m.length->lv.getD j ⟨0,0,0,0⟩=zW (za m m.length) (zd m m.length) j x rest (zx m b j (x.drop (j+1)))/\zf m b j (x.drop (j+1))<=x.getD j 0/\x.getD j 0<=zx m b j (x.drop (j+1))
theorem zdo {x:List Int} {k:Nat} {a:Int} (h:k<x.length):(x.set k a).drop k=a::x.drop (k+1):=by
 rw [List.drop_eq_getElem_cons (by simpa using h)]
 simp [List.drop_set_of_lt (show k<k+1 by omega)]
theorem ChkSt.next {m:List (List Int)} (hr:RedOK m) {b:Int} {k:Nat} {x rest:List Int} {lv:List Lvl} (h:ChkSt m b k x rest lv) (hk:0<k) {a:Int} (hv:lv.getD k ⟨0,0,0,0⟩=zW (za m m.length) (zd m m.length) k x rest (zx m b k (x.drop (k+1))))
  (a1:zf m b k (x.drop (k+1))<=a) (a2:a<=zx m b k (x.drop (k+1))):
  ChkSt m b (k-1) (x.set k a) (rest.set k (qt (lv.getD k ⟨0,0,0,0⟩) a)) lv:=by
 have hkn:=h.kn
 have hxl:=h.xl
 have hrl:=h.rl
 have hdk:(x.drop (k+1)).length=m.length-1-k:=by rw [List.length_drop];omega
 obtain ⟨r1,r2⟩:=h.rs k (Nat.le_refl _) hkn
 refine ⟨by omega,by rw [List.length_set];exact h.xl,by rw [List.length_set];exact h.rl,h.ll,fun j j1 j2=>?_,fun j j1 j2=>?_⟩
 ·rcases Nat.lt_or_ge j k with hj |hj
  ·obtain rfl:j=k-1:=by omega
   rw [show k-1+1=k by omega,Q9 _ _ _ _ (by omega),hv,zdo (by omega)]
   have e:qt (zW (za m m.length) (zd m m.length) k x rest (zx m b k (x.drop (k+1)))) a=Zq (za m m.length) (zd m m.length) k (left (ent m) b (k+1) (x.drop (k+1))) (x.drop (k+1)) a:=by
    unfold qt zW Zq Zj vU zH Zp;simp only;rw [r1,Int.mul_comm (left _ _ _ _)]
   rw [e,qw hr hkn b _ hdk];exact ⟨rfl,(Qe hr hkn _ hdk r2 a).1 ⟨a1,a2⟩⟩
  ·rw [Je _ _ _ _ _ (by omega),List.drop_set_of_lt (by omega)]
   exact h.rs j hj j2
 ·rcases Nat.lt_or_ge k j with hj |hj
  ·rw [JG (by omega),List.drop_set_of_lt (by omega),Je x _ _ _ _ (by omega)]
   exact h.lv j hj j2
  ·obtain rfl:j=k:=by omega
   rw [JG (by omega),List.drop_set_of_lt (by omega),Q9 x _ _ _ (by omega)]
   exact ⟨hv,a1,a2⟩
theorem ChkSt.mono {m:List (List Int)} {b:Int} {k k1:Nat} {x rest:List Int} {lv:List Lvl} (h:ChkSt m b k x rest lv) (h1:k<=k1) (h2:k1<m.length):ChkSt m b k1 x rest lv:=
 ⟨h2,h.xl,h.rl,h.ll,fun j a c=>h.rs j (by omega) c,fun j a c=>h.lv j (by omega) c⟩
theorem ChkSt.setLv {m:List (List Int)} {b:Int} {k:Nat} {x rest:List Int} {lv:List Lvl} (h:ChkSt m b k x rest lv) (v:Lvl):ChkSt m b k x rest (lv.set k v):=
 ⟨h.kn,h.xl,h.rl,by rw [List.length_set];exact h.ll,h.rs,fun j a c=>by rw [Je _ _ _ _ _ (by omega)];exact h.lv j a c⟩
theorem znb {m:List (List Int)} {b:Int} {x rest:List Int} {lv:List Lvl} {k0:Nat} (h:ChkSt m b k0 x rest lv):∀f k,m.length-k=f->k0<k->
  match zap m.length x lv f k with
  |some k1=>k<=k1/\k1<m.length/\x.getD k1 0<zx m b k1 (x.drop (k1+1))/\qM m b x f k=QB m b k1 (x.drop (k1+1)) (x.getD k1 0-zf m b k1 (x.drop (k1+1))+1).toNat++qM m b x (m.length-(k1+1)) (k1+1)/\
    ∀l,qN m b x f k l=qN m b x (m.length-(k1+1)) (k1+1) (QU m b k1 (x.drop (k1+1)) (x.getD k1 0-zf m b k1 (x.drop (k1+1))+1).toNat l)
  |none=>qM m b x f k=[]/\∀l,qN m b x f k l=l:=by
 intro f;induction f with
 |zero=>intro k _ _;exact ⟨rfl,fun _=>rfl⟩
 |succ f ih=>
  intro k hf hk;have hkn:k<m.length:=by omega
  obtain ⟨hv,l1,l2⟩:=h.lv k hk hkn
  have hhi:(lv.getD k ⟨0,0,0,0⟩).hi=zx m b k (x.drop (k+1)):=by rw [hv];rfl
  rw [zap,if_pos hkn,hhi];by_cases hlt:x.getD k 0<zx m b k (x.drop (k+1))
  ·rw [if_pos hlt];refine ⟨Nat.le_refl _,hkn,hlt,?_,fun l=>?_⟩
   ·rw [qM,show m.length-(k+1)=f by omega]
   ·rw [qN,show m.length-(k+1)=f by omega]
  ·rw [if_neg hlt];have hout:zF m b k (x.drop (k+1))<=(x.getD k 0-zf m b k (x.drop (k+1))+1).toNat:=by unfold zF;omega
   have e1:qM m b x (f+1) k=qM m b x f (k+1):=by rw [qM,zgK hout,List.nil_append]
   have e2:∀l,qN m b x (f+1) k l=qN m b x f (k+1) l:=fun l=>by rw [qN,zgL hout]
   have :=ih (k+1) (by omega) (by omega)
   split<;>rename_i hu<;>rw [hu] at this
   ·obtain ⟨a1,a2,a3,a4,a5⟩:=this
    exact ⟨by omega,a2,a3,by rw [e1];exact a4,fun l=>by rw [e2];exact a5 l⟩
   ·exact ⟨by rw [e1];exact this.1,fun l=>by rw [e2];exact this.2 l⟩
theorem znc {m:List (List Int)} (hr:RedOK m) {b:Int} (hb:0<=b) (hb1:b<1073741824) (C:List (Int×Int)):∀k x rest lv l,ChkSt m b k x rest lv->∀r,
  Z3 (za m m.length) (zd m m.length) m.length C k x rest lv l=some r↔
   C=tE m b k (x.drop (k+1))++qM m b x (m.length-(k+1)) (k+1)/\r=qN m b x (m.length-(k+1)) (k+1) (tC m b k (x.drop (k+1)) l):=by
 induction C with
 |nil=>
  intro k x rest lv l h r;rw [Z3];have :tE m b k (x.drop (k+1))≠[]:=by cases k<;>simp [tE]
  constructor
  ·intro h;cases h
  ·rintro ⟨h1,-⟩
   exact absurd (List.append_eq_nil_iff.1 h1.symm).1 this
 |cons p C ih=>
  obtain ⟨lo,hi⟩:=p
  intro k x rest lv l h r;have hkn:=h.kn;have hxl:=h.xl;obtain ⟨r1,r2⟩:=h.rs k (Nat.le_refl _) hkn;have hdk:(x.drop (k+1)).length=m.length-1-k:=by rw [List.length_drop];omega
  have hacc:ZR (zW (za m m.length) (zd m m.length) k x rest hi).mi (zW (za m m.length) (zd m m.length) k x rest hi).sh (zW (za m m.length) (zd m m.length) k x rest hi).lim lo hi=true↔lo=zf m b k (x.drop (k+1))/\hi=zx m b k (x.drop (k+1)):=by
   have :=zgH hr hb hb1 (x.drop (k+1)) hkn hdk r2 lo hi
   unfold zW;simp only;rw [r1,Int.mul_comm (left _ _ _ _)];exact this
  have hhead:tE m b k (x.drop (k+1))=(zf m b k (x.drop (k+1)),zx m b k (x.drop (k+1)))::(if k=0 then [] else QB m b k (x.drop (k+1)) 0):=by
   cases k with
   |zero=>rfl
   |succ k=>rw [zna,if_neg (by omega)]
  simp only [Z3];by_cases hA:ZR (zW (za m m.length) (zd m m.length) k x rest hi).mi (zW (za m m.length) (zd m m.length) k x rest hi).sh (zW (za m m.length) (zd m m.length) k x rest hi).lim lo hi=true
  ·rw [if_pos hA];obtain ⟨rfl,rfl⟩:=hacc.1 hA;rw [hhead,List.cons_append,List.cons.injEq];simp only [true_and];have hset:=h.setLv (zW (za m m.length) (zd m m.length) k x rest (zx m b k (x.drop (k+1))));have hself:(lv.set k (zW (za m m.length) (zd m m.length) k x rest (zx m b k (x.drop (k+1))))).getD k ⟨0,0,0,0⟩=zW (za m m.length) (zd m m.length) k x rest (zx m b k (x.drop (k+1))):=Q9 _ _ _ _ (by rw [h.ll];exact hkn)
   by_cases hd:0<k/\zf m b k (x.drop (k+1))<=zx m b k (x.drop (k+1))
   ·rw [if_pos hd,if_neg (show ¬k=0 by omega)]
    have hn:=hset.next hr hd.1 (a:=zf m b k (x.drop (k+1))) hself (Int.le_refl _) hd.2
    rw [hself] at hn;rw [ih _ _ _ _ _ hn];have e1:(x.set k (zf m b k (x.drop (k+1)))).drop (k-1+1)=zf m b k (x.drop (k+1))::x.drop (k+1):=by
     rw [show k-1+1=k by omega,zdo (by omega)]
    have e2:(x.set k (zf m b k (x.drop (k+1)))).drop (k+1)=x.drop (k+1):=List.drop_set_of_lt (by omega)
    have hc:0<zF m b k (x.drop (k+1)):=by unfold zF;omega
    rw [e1,show m.length-(k-1+1)=(m.length-(k+1))+1 by omega,show k-1+1=k by omega]
    simp only [qM,qN,e2];rw [Q9 _ _ _ _ (by omega),show (zf m b k (x.drop (k+1))-zf m b k (x.drop (k+1))+1).toNat=1 by omega,zgO (m:=m) (b:=b) (m.length-(k+1)) (k+1) e2,zgP (m:=m) (b:=b) (m.length-(k+1)) (k+1) e2,zgM hc]
    have e3:tC m b k (x.drop (k+1)) l=QU m b k (x.drop (k+1)) (0+1) (tC m b (k-1) ((zf m b k (x.drop (k+1))+((0:Nat):Int))::x.drop (k+1)) l):=by
     cases k with
     |zero=>omega
     |succ k=>rw [zgJ,zgN hc]
    rw [e3];simp only [Int.add_zero,Int.natCast_zero,Nat.zero_add,List.append_assoc]
   ·rw [if_neg hd];have e0:(if k=0 then [] else QB m b k (x.drop (k+1)) 0)=[]:=by
     by_cases hk:k=0
     ·rw [if_pos hk]
     ·rw [if_neg hk,zgK];unfold zF;omega
    have e1:tC m b k (x.drop (k+1)) l=QK k x (zf m b k (x.drop (k+1))) (zx m b k (x.drop (k+1))) l:=by
     unfold QK
     cases k with
     |zero=>rw [if_pos rfl,tC,<-List.drop_one]
     |succ k=>
      rw [if_neg (by omega),zgJ,zgL]
      unfold zF;omega
    rw [e0,List.nil_append,e1];have hup:=znb hset (m.length-(k+1)) (k+1) rfl (by omega)
    unfold qk;split<;>rename_i hu<;>rw [hu] at hup
    ·rename_i k1
     obtain ⟨a1,a2,a3,a4,a5⟩:=hup
     obtain ⟨b1,b2,b3⟩:=hset.lv k1 (by omega) a2
     have hn:=(hset.mono (show k<=k1 by omega) a2).next hr (by omega) (a:=x.getD k1 0+1) b1 (by omega) (by omega)
     rw [ih _ _ _ _ _ hn,a4,a5];have e1:(x.set k1 (x.getD k1 0+1)).drop (k1-1+1)=(x.getD k1 0+1)::x.drop (k1+1):=by
      rw [show k1-1+1=k1 by omega,zdo (by omega)]
     have e2:(x.set k1 (x.getD k1 0+1)).drop (k1+1)=x.drop (k1+1):=List.drop_set_of_lt (by omega)
     have hc:(x.getD k1 0-zf m b k1 (x.drop (k1+1))+1).toNat<zF m b k1 (x.drop (k1+1)):=by unfold zF;omega
     have e3:zf m b k1 (x.drop (k1+1))+(((x.getD k1 0-zf m b k1 (x.drop (k1+1))+1).toNat:Nat):Int)=x.getD k1 0+1:=by omega
     rw [e1,show m.length-(k1-1+1)=(m.length-(k1+1))+1 by omega,show k1-1+1=k1 by omega]
     simp only [qM,qN,e2];rw [Q9 _ _ _ _ (by omega),zgO (m:=m) (b:=b) (m.length-(k1+1)) (k1+1) e2,zgP (m:=m) (b:=b) (m.length-(k1+1)) (k1+1) e2,zgM hc,zgN hc,e3,show (x.getD k1 0+1-zf m b k1 (x.drop (k1+1))+1).toNat=(x.getD k1 0-zf m b k1 (x.drop (k1+1))+1).toNat+1 by omega]
     simp only [List.append_assoc]
    ·rw [hup.1,hup.2];by_cases hC:C=[]
     ·rw [if_pos hC];simp [hC,eq_comm]
     ·rw [if_neg hC];simp [hC]
  ·rw [if_neg hA];constructor
   ·intro h;cases h
   ·rintro ⟨h1,-⟩
    rw [hhead,List.cons_append,List.cons.injEq,Prod.mk.injEq] at h1;exact absurd (hacc.2 h1.1) hA
def Zy (m:List (List Int)) (b:Int):List (Int×Int):=tE m b (m.length-1) []
theorem znd {m:List (List Int)} (hr:RedOK m) {b:Int} (hb:0<=b) (hb1:b<1073741824) (C:List (Int×Int)) (r:List (List Int)):QL m b C=some r↔C=Zy m b/\r=tC m b (m.length-1) [] []:=by
 have hl:=ZM hr.small
 have hst:ChkSt m b (m.length-1) (List.replicate m.length 0) ((List.replicate (m.length+1) 0).set m.length (b*vD (za m m.length) m.length)) (List.replicate m.length Qt):=by
  refine ⟨by omega,by simp,by simp,by simp,fun j j1 j2=>?_,fun j j1 j2=>absurd j2 (by omega)⟩
  obtain rfl:j=m.length-1:=by omega
  have e:(List.replicate m.length (0:Int)).drop (m.length-1+1)=[]:=by
   rw [show m.length-1+1=m.length by omega];simp
  rw [e];refine ⟨?_,Qh hr hb⟩;rw [show m.length-1+1=m.length by omega,Q9 _ _ _ _ (by simp),Int.mul_comm,zbk hr,show m.length-1+1=m.length by omega]
 unfold QL Zy;rw [znc hr hb hb1 C _ _ _ _ _ hst];have e:(List.replicate m.length (0:Int)).drop (m.length-1+1)=[]:=by
  rw [show m.length-1+1=m.length by omega];simp
 rw [e,show m.length-(m.length-1+1)=0 by omega]
 simp [qM,qN]
theorem zoC {m:List (List Int)} (hr:RedOK m) {b:Int} (k:Nat):∀t:List Int,k<m.length->t.length=m.length-1-k->0<=left (ent m) b (k+1) t->
  Zt (za m m.length) (zd m m.length) k (left (ent m) b (k+1) t) t=tE m b k t:=by
 induction k with
 |zero=>intro t _ _ _;rfl
 |succ k ih=>
  intro t hk ht h0;rw [Zt,tE];have e:(zK (za m m.length) (zd m m.length) (k+1) (left (ent m) b (k+1+1) t) t).toNat=zF m b (k+1) t:=rfl;rw [e];congr 1;rw [List.flatMap_def,List.flatMap_def];congr 1;refine List.map_congr_left fun j hj=>?_
  have hk0:=qY hr t hk ht h0 (j:=j) (by rw [e];simpa using hj)
  rw [qw hr hk b t ht];exact ih _ (by omega) (by simp [ht];omega) hk0
def tV (m:List (List Int)) (b:Int):Nat->List Int->List (List Int)
 |0,t=>zZ t (Z2 t (zf m b 0 t)) (zx m b 0 t-Z2 t (zf m b 0 t)+1).toNat
 |k+1,t=>(List.range (zF m b (k+1) t)).flatMap fun (j:Nat)=>tV m b k ((zf m b (k+1) t+(j:Int))::t)
theorem zne (t:List Int) (a:Int) (n j:Nat):(zZ t a n).take j=zZ t a (min j n):=by
 unfold zZ;rw [<-List.map_take,List.take_range]
theorem znf (m:List (List Int)) (b:Int) (k:Nat):∀(t:List Int) (l:List (List Int)),l.length<=4097->tC m b k t l=(l++tV m b k t).take 4097:=by
 induction k with
 |zero=>
  intro t l hl;rw [tC,tV,List.take_append,List.take_of_length_le hl,zne];congr 2;unfold zN;omega
 |succ k ih=>
  intro t l hl;rw [tC,tV];generalize List.range (zF m b (k+1) t)=js;induction js generalizing l with
  |nil=>simp [List.take_of_length_le hl]
  |cons j js ihj=>
   rw [List.foldl_cons,ih _ _ hl,ihj _ (by rw [List.length_take];omega),List.flatMap_cons,<-List.append_assoc]
   generalize l++tV m b k ((zf m b (k+1) t+(j:Int))::t)=u;rw [List.take_append,List.take_append,List.take_take,Nat.min_self,List.length_take];congr 1;rcases Nat.le_total u.length 4097 with h |h
   ·rw [Nat.min_eq_right h]
   ·rw [Nat.min_eq_left h,show 4097-4097=0 by omega,show 4097-u.length=0 by omega]
theorem zng {m:List (List Int)} (hr:RedOK m) {b:Int} (x:List Int) (k:Nat):∀t:List Int,k<m.length->t.length=m.length-1-k->0<=left (ent m) b (k+1) t->
  (x∈tV m b k t↔∃p:List Int,p.length=k+1/\x=p++t/\0<zq x/\0<=left (ent m) b 0 x):=by
 induction k with
 |zero=>
  intro t hk ht h0;have hin:=fun c=>Qe hr hk t ht h0 c
  rw [tV];simp only [zZ,List.mem_map,List.mem_range];have hcl:∀c,(Z2 t (zf m b 0 t)<=c/\c<=zx m b 0 t)↔(zf m b 0 t<=c/\c<=zx m b 0 t)/\0<zq (c::t):=fun c=>by
   rw [zm8];unfold Z2;split<;>omega
  constructor
  ·rintro ⟨i,hi,rfl⟩
   have h1:=(hcl (Z2 t (zf m b 0 t)+(i:Int))).1 ⟨by omega,by omega⟩
   exact ⟨[Z2 t (zf m b 0 t)+(i:Int)],rfl,rfl,h1.2,(hin _).1 h1.1⟩
  ·rintro ⟨p,hp,rfl,h1,h2⟩
   obtain ⟨c,rfl⟩:∃c,p=[c]:=List.length_eq_one_iff.1 hp
   have h3:=(hcl c).2 ⟨(hin c).2 h2,h1⟩
   refine ⟨(c-Z2 t (zf m b 0 t)).toNat,by omega,?_⟩
   rw [show Z2 t (zf m b 0 t)+(((c-Z2 t (zf m b 0 t)).toNat:Nat):Int)=c by omega]
   rfl
 |succ k ih=>
  intro t hk ht h0;have hin:=fun c=>Qe hr hk t ht h0 c
  rw [tV];simp only [List.mem_flatMap,List.mem_range];constructor
  ·rintro ⟨j,hj,hx⟩
   have hk0:0<=left (ent m) b (k+1) ((zf m b (k+1) t+(j:Int))::t):=qY hr t hk ht h0 (j:=j) hj
   obtain ⟨p,hp,rfl,h1,h2⟩:=(ih _ (by omega) (by simp [ht];omega) hk0).1 hx
   exact ⟨p++[zf m b (k+1) t+(j:Int)],by simp [hp],by simp,h1,h2⟩
  ·rintro ⟨p,hp,rfl,h1,h2⟩
   obtain ⟨q,c,rfl,hq⟩:=zat hp
   have hs:=zcU hr b q 0 (c::t) (by simp [ht];omega) (by simpa using h2)
   rw [hq,Nat.zero_add] at hs;have hc:zf m b (k+1) t<=c/\c<=zx m b (k+1) t:=(hin c).2 hs;refine ⟨(c-zf m b (k+1) t).toNat,by unfold zF;omega,?_⟩
   have e:zf m b (k+1) t+(((c-zf m b (k+1) t).toNat:Nat):Int)=c:=by omega
   rw [e];exact (ih _ (by omega) (by simp [ht];omega) hs).2 ⟨q,hq,by simp,h1,h2⟩
theorem zgQ {m:List (List Int)} (b:Int) (k:Nat):∀t:List Int,(tV m b k t).Nodup/\∀x∈tV m b k t,x.drop (k+1)=t:=by
 induction k with
 |zero=>
  intro t;rw [tV];refine ⟨?_,fun x hx=>?_⟩
  ·unfold zZ;rw [List.Nodup,List.pairwise_map];refine List.Pairwise.imp ?_ (List.nodup_range (n:=_));intro i j hij h;injection h with h
   omega
  ·obtain ⟨i,-,rfl⟩:=List.mem_map.1 hx
   rfl
 |succ k ih=>
  intro t;rw [tV];have hd:∀(j:Nat),∀x∈tV m b k ((zf m b (k+1) t+(j:Int))::t),x.drop (k+1)=(zf m b (k+1) t+(j:Int))::t:=fun j=>(ih _).2
  refine ⟨?_,fun x hx=>?_⟩
  ·rw [List.Nodup,List.pairwise_flatMap];refine ⟨fun j _=>(ih _).1,?_⟩
   refine List.Pairwise.imp ?_ (List.nodup_range (n:=zF m b (k+1) t))
   intro i j hij x hx y hy e;subst e;have :=(hd i x hx).symm.trans (hd j x hy);injection this with h
   omega
  ·obtain ⟨j,-,hx⟩:=List.mem_flatMap.1 hx
   have :=hd j x hx
   have e:x.drop (k+1+1)=(x.drop (k+1)).drop 1:=by rw [List.drop_drop]
   rw [e,this];rfl
theorem zbx {m:List (List Int)} (hr:RedOK m) {b:Int} (hb:0<=b) (x:List Int):x∈tV m b (m.length-1) []↔x.length=m.length/\0<zq x/\zp m x<=b:=by
 have hl:=ZM hr.small
 rw [zng hr x (m.length-1) [] (by omega) (by simp) (Qh hr hb)]
 constructor
 ·rintro ⟨p,hp,rfl,h1,h2⟩
  have hpl:(p++[]).length=m.length:=by simp [hp];omega
  rw [Qf (ZE hr.small) b _ hpl] at h2;exact ⟨hpl,h1,by omega⟩
 ·rintro ⟨h1,h2,h3⟩
  refine ⟨x,by omega,by simp,h2,?_⟩
  rw [Qf (ZE hr.small) b _ h1];omega
theorem zgR {m:List (List Int)} (hr:RedOK m) {b:Int} (hb:0<=b):(tV m b (m.length-1) []).map zE=tV m b (m.length-1) []:=by
 conv=>rhs;rw [<-List.map_id (tV m b (m.length-1) [])]
 exact List.map_congr_left fun x hx=>zgI ((zbx hr hb x).1 hx).2.1
theorem znh {m:List (List Int)} (hr:RedOK m) {b:Int} (hb:0<=b) {L:List (List Int)} (hp:L.Perm ((tV m b (m.length-1) []).map zE)) (hw:L.Pairwise (fun x y=>qj (zp m x) (zp m y) x y<0)):VecList m b false L:=by
 refine ⟨hw,fun x=>?_⟩
 rw [hp.mem_iff,zgR hr hb,zbx hr hb];simp
theorem zni {m:List (List Int)} (hr:RedOK m) {b:Int} (hb:0<=b):(tV m b (m.length-1) []).length=(qX m b false).length:=by
 have hp:(tV m b (m.length-1) []).Perm ((qX m b false).map zE):=by
  refine (List.perm_ext_iff_of_nodup (zgQ b _ _).1 (zlw hr hb false)).2 fun x=>?_
  rw [zbx hr hb,zm9 hr hb];simp
 simpa using hp.length_eq
theorem zgS {m:List (List Int)} (hr:RedOK m) {b:Int} (hb:0<=b) (hb1:b<1073741824) (k:Nat):∀t:List Int,k<m.length->t.length=m.length-1-k->0<=left (ent m) b (k+1) t->
  ((tE m b k t).length:Int)<=1+zA (z7 (za m m.length) (zd m m.length) m.length k (left (ent m) b (k+1) t) t):=by
 induction k with
 |zero=>
  intro t hk ht h0;have :=QH (hr.num hb hb1) (Qg hr hb hb1 t 0 hk ht h0);simp only [tE,z7,zA,List.length_singleton];omega
 |succ k ih=>
  intro t hk ht h0;have hc:=QH (hr.num hb hb1) (Qg hr hb hb1 t (k+1) hk ht h0);simp only [tE,z7,zA,List.length_cons];rw [zfT];have e:zF m b (k+1) t=(zK (za m m.length) (zd m m.length) (k+1) (left (ent m) b (k+1+1) t) t).toNat:=rfl;rw [e];have key:∀l:List Nat,(∀j∈l,j<(zK (za m m.length) (zd m m.length) (k+1) (left (ent m) b (k+1+1) t) t).toNat)->
    ((l.flatMap fun j:Nat=>tE m b k ((zf m b (k+1) t+(j:Int))::t)).length:Int)<=(l.length:Int)+(l.map fun j:Nat=>zA (z7 (za m m.length) (zd m m.length) m.length k (Zq (za m m.length) (zd m m.length) (k+1) (left (ent m) b (k+1+1) t) t (zB (za m m.length) (zd m m.length) (k+1) (left (ent m) b (k+1+1) t) t+(j:Int))) ((zB (za m m.length) (zd m m.length) (k+1) (left (ent m) b (k+1+1) t) t+(j:Int))::t))).sum:=by
   intro l;induction l with
   |nil=>intro _;simp
   |cons j l ihl=>
    intro hl;have hk0:=qY hr t hk ht h0 (hl j (by simp))
    have h1:=ihl (fun x hx=>hl x (by simp [hx]))
    have h2:=ih _ (by omega) (by simp [ht];omega) hk0
    simp only [List.flatMap_cons,List.length_append,List.map_cons,List.sum_cons,List.length_cons,Int.natCast_add,Int.natCast_one];rw [qw hr hk b t ht];unfold zf;unfold zf at h1;omega
  have :=key (List.range (zK (za m m.length) (zd m m.length) (k+1) (left (ent m) b (k+1+1) t) t).toNat) (fun j hj=>by simpa using hj)
  rw [List.length_range] at this;simp only [Int.natCast_add,Int.natCast_one];omega
theorem znj {m:List (List Int)} (hr:RedOK m) {b:Int} (hb:0<=b) (hb1:b<1073741824) (k:Nat):∀t:List Int,k<m.length->t.length=m.length-1-k->0<=left (ent m) b (k+1) t->
  ∀p∈tE m b k t,-1099511627776<=p.1/\p.2<=1099511627776/\p.1-1<=p.2:=by
 have h1:∀(k:Nat) (t:List Int),k<m.length->t.length=m.length-1-k->0<=left (ent m) b (k+1) t->-1099511627776<=zf m b k t/\zx m b k t<=1099511627776/\zf m b k t-1<=zx m b k t:=fun k t hk ht h0=>by
  have :=zfe ((zgH hr hb hb1 t hk ht h0 (zf m b k t) (zx m b k t)).2 ⟨rfl,rfl⟩)
  exact ⟨this.1,this.2.1,this.2.2.1⟩
 induction k with
 |zero=>
  intro t hk ht h0 p hp;simp only [tE,List.mem_singleton] at hp;subst hp;exact h1 0 t hk ht h0
 |succ k ih=>
  intro t hk ht h0 p hp;simp only [tE,List.mem_cons,List.mem_flatMap,List.mem_range] at hp;rcases hp with rfl |⟨j,hj,hp⟩
  ·exact h1 (k+1) t hk ht h0
  ·exact ih _ (by omega) (by simp [ht];omega) (qY hr t hk ht h0 hj) p hp
theorem znk {m:List (List Int)} (hr:RedOK m) (h2:2<=m.length) {b:Int} (hb:0<=b) (hb1:b<1073741824):((Zy m b).length:Int)<=1+Zc m b:=by
 have :=zgS hr hb hb1 (m.length-1) [] (by omega) (by simp) (Qh hr hb)
 unfold Zc ZO;rw [if_neg (by omega),zbk hr]
 exact this
theorem znl {m:List (List Int)} (hr:RedOK m) {b:Int} (hb:0<=b) (hb1:b<1073741824):∀p∈Zy m b,-1099511627776<=p.1/\p.2<=1099511627776/\p.1-1<=p.2:=
 znj hr hb hb1 (m.length-1) [] (by have :=ZM hr.small;omega) (by simp) (Qh hr hb)
theorem znm {m:List (List Int)} (hr:RedOK m) (h1:m.length=1) {b:Int} (hb:0<=b):Zy m b=[(-((zk (b / ent m 0 0).toNat:Nat):Int),((zk (b / ent m 0 0).toNat:Nat):Int))]:=by
 have hpos:1<=ent m 0 0:=by
  have :=Zu hr.pos (k:=1) (by omega)
  have e:zo (ent m) 1=ent m 0 0:=rfl
  omega
 obtain ⟨hin,hout⟩:=zcp hpos hb
 have key:∀c:Int,(zf m b 0 []<=c/\c<=zx m b 0 [])↔ent m 0 0*c*c<=b:=fun c=>by
  have h:=Qe hr (k:=0) (by omega) (bound:=b) [] (by simp [h1]) (by have :=Qh hr hb;rw [h1] at this;exact this) c
  refine h.trans ?_
  rw [Qf (ZE hr.small) b [c] (by simp [h1])]
  have e:zp m [c]=ent m 0 0*c*c:=by
   rw [JJ (ZE hr.small) _ (by simp [h1])]
   simp [qE,QP,Zr,E,ent]
  rw [e];omega
 obtain ⟨r,hrr⟩:∃r:Nat,zk (b / ent m 0 0).toNat=r:=⟨_,rfl⟩
 rw [hrr] at hin hout |-;have a1:ent m 0 0*(r:Int)*r<=b:=by
  by_cases h0:r=0
  ·subst h0;simpa using hb
  ·exact hin r (by omega) (by omega)
 have a2:ent m 0 0*(-(r:Int))*(-(r:Int))<=b:=by
  have :ent m 0 0*(-(r:Int))*(-(r:Int))=ent m 0 0*(r:Int)*r:=by grind
  omega
 have a3:¬ent m 0 0*(-((r:Int)+1))*(-((r:Int)+1))<=b:=by
  have :ent m 0 0*(-((r:Int)+1))*(-((r:Int)+1))=ent m 0 0*((r:Int)+1)*((r:Int)+1):=by grind
  omega
 have b1:=(key r).2 a1
 have b2:=(key (-(r:Int))).2 a2
 have b3:¬(zf m b 0 []<=-((r:Int)+1)/\-((r:Int)+1)<=zx m b 0 []):=fun h=>a3 ((key (-((r:Int)+1))).1 h)
 have b4:¬(zf m b 0 []<=(r:Int)+1/\(r:Int)+1<=zx m b 0 []):=fun h=>(show ¬ent m 0 0*((r:Int)+1)*((r:Int)+1)<=b by omega) ((key ((r:Int)+1)).1 h)
 have c1:zf m b 0 []=-(r:Int):=by omega
 have c2:zx m b 0 []=(r:Int):=by omega
 unfold Zy;rw [h1];show [(zf m b 0 [],zx m b 0 [])]=_;rw [c1,c2]
theorem znn (n:Nat) (F:Nat->Int):zz (n+1) F=F 0+zz n fun i=>F (i+1):=by
 induction n with
 |zero=>simp [zz]
 |succ n ih=>rw [jf,ih,jf];omega
theorem zaH (g:Nat->Int) (t:List Int):∀k,Zr g k t=zz t.length fun i=>g (k+i)*t.getD i 0:=by
 induction t with
 |nil=>intro k;simp [Zr,zz]
 |cons c t ih=>
  intro k;rw [Zr,ih (k+1),List.length_cons,znn];congr 1;refine qv fun i _=>?_
  rw [show k+1+i=k+(i+1) by omega]
  rfl
def ipR (m:List (List Int)) (x y:List Int):Int:=zz m.length fun i=>x.getD i 0*zz m.length fun j=>ent m i j*y.getD j 0
theorem zgT {m:List (List Int)} (hn:AllLen m m.length) (x:List Int) (hx:x.length=m.length):ipR m x x=zp m x:=by
 rw [JJ hn x hx];unfold ipR qE QP;rw [zaH,hx];refine qv fun i _=>?_
 simp only [Nat.zero_add];rw [zaH,hx,Int.mul_comm];simp only [Nat.zero_add];rfl
theorem zno {m:List (List Int)} (hr:RedOK m) {k:Nat} (hk:k<m.length) (bound:Int) (t:List Int):
  lE (ent m) k (0::t)*lE (ent m) k (0::t)-zo (ent m) (k+1)*(qE (ent m) k (0::t)-bound*zo (ent m) k)=zo (ent m) k*left (ent m) bound (k+1) t:=by
 have hs:Sym (zb (ent m)):=QM (ZE hr.small) (fun i j hi hj=>((of_decide_eq_true hr.small).2.2.2 i hi j hj).1)
 have :=zcP hs (hr.pos.le (by omega:k+1<=m.length)) 0 t
 unfold left;grind
def z8 (m:List (List Int)) (b:Int):Nat->List Int->List (List Int)
 |0,t=>(List.range (zF m b 0 t)).map fun (j:Nat)=>(zf m b 0 t+(j:Int))::t
 |k+1,t=>(List.range (zF m b (k+1) t)).flatMap fun (j:Nat)=>z8 m b k ((zf m b (k+1) t+(j:Int))::t)
theorem znp {m:List (List Int)} (hr:RedOK m) {b:Int} (x:List Int) (k:Nat):∀t:List Int,k<m.length->t.length=m.length-1-k->0<=left (ent m) b (k+1) t->
  (x∈z8 m b k t↔∃p:List Int,p.length=k+1/\x=p++t/\0<=left (ent m) b 0 x):=by
 induction k with
 |zero=>
  intro t hk ht h0;have hin:∀c,(zf m b 0 t<=c/\c<=zx m b 0 t)↔0<=left (ent m) b 0 (c::t):=fun c=>Qe hr hk t ht h0 c
  rw [z8];simp only [List.mem_map,List.mem_range];constructor
  ·rintro ⟨j,hj,rfl⟩
   unfold zF at hj;exact ⟨[zf m b 0 t+(j:Int)],rfl,rfl,(hin _).1 ⟨by omega,by omega⟩⟩
  ·rintro ⟨p,hp,rfl,h2⟩
   obtain ⟨c,rfl⟩:∃c,p=[c]:=List.length_eq_one_iff.1 hp
   have h3:=(hin c).2 h2
   refine ⟨(c-zf m b 0 t).toNat,by unfold zF;omega,?_⟩
   rw [show zf m b 0 t+(((c-zf m b 0 t).toNat:Nat):Int)=c by omega]
   rfl
 |succ k ih=>
  intro t hk ht h0;have hin:∀c,(zf m b (k+1) t<=c/\c<=zx m b (k+1) t)↔0<=left (ent m) b (k+1) (c::t):=fun c=>Qe hr hk t ht h0 c
  rw [z8];simp only [List.mem_flatMap,List.mem_range];constructor
  ·rintro ⟨j,hj,hx⟩
   have hk0:0<=left (ent m) b (k+1) ((zf m b (k+1) t+(j:Int))::t):=qY hr t hk ht h0 (j:=j) hj
   obtain ⟨p,hp,rfl,h2⟩:=(ih _ (by omega) (by simp [ht];omega) hk0).1 hx
   exact ⟨p++[zf m b (k+1) t+(j:Int)],by simp [hp],by simp,h2⟩
  ·rintro ⟨p,hp,rfl,h2⟩
   obtain ⟨q,c,rfl,hq⟩:=zat hp
   have hs:=zcU hr b q 0 (c::t) (by simp [ht];omega) (by simpa using h2)
   rw [hq,Nat.zero_add] at hs;have hc:=(hin c).2 hs;refine ⟨(c-zf m b (k+1) t).toNat,by unfold zF;omega,?_⟩
   have e:zf m b (k+1) t+(((c-zf m b (k+1) t).toNat:Nat):Int)=c:=by omega
   rw [e];exact (ih _ (by omega) (by simp [ht];omega) hs).2 ⟨q,hq,by simp,h2⟩
theorem zgU {m:List (List Int)} (hr:RedOK m) {b:Int} (hb:0<=b) (x:List Int):x∈z8 m b (m.length-1) []↔x.length=m.length/\zp m x<=b:=by
 have hl:=ZM hr.small
 rw [znp hr x (m.length-1) [] (by omega) (by simp) (Qh hr hb)]
 constructor
 ·rintro ⟨p,hp,rfl,h2⟩
  have hpl:(p++[]).length=m.length:=by simp [hp];omega
  rw [Qf (ZE hr.small) b _ hpl] at h2;exact ⟨hpl,by omega⟩
 ·rintro ⟨h1,h3⟩
  refine ⟨x,by omega,by simp,?_⟩
  rw [Qf (ZE hr.small) b _ h1];omega
def jO (p:Int×List Int):List Int:=p.1::p.2
def zX (p q:Int×List Int):Bool:=decide (zr (jO p) (jO q)<0)
theorem znq {p q:Int×List Int} (h:jO p=jO q):p=q:=by
 obtain ⟨a,x⟩:=p
 obtain ⟨b,y⟩:=q
 simpa [jO] using h
theorem znr {p q r:Int×List Int} (h1:zX p q=true) (h2:zX q r=true):zX p r=true:=by
 unfold zX at*;rw [decide_eq_true_eq] at*
 exact za5 _ _ _ h1 h2
theorem zns {p q:Int×List Int} (h1:zX p q=false) (h2:zX q p=false):p=q:=by
 unfold zX at*;rw [decide_eq_false_iff_not] at*
 rw [jE] at h2;exact znq (Ja _ _ (by omega))
def ZJ:List (Int×List Int)->Int×List Int->Nat
 |[],_=>0
 |y::l,x=>if zX y x then ZJ l x+1 else 0
theorem zdp:∀(l:List (Int×List Int)) (x:Int×List Int) (k:Nat),(∀j y,j<k->l[j]? =some y->zX y x=true)->k<=l.length->(∀y,l[k]? =some y->zX y x=false)->ZJ l x=k
 |[],x,k,_,hk,_=>by simp at hk;simp [ZJ,hk]
 |y::l,x,0,_,_,h=>by have :=h y rfl;simp [ZJ,this]
 |y::l,x,k+1,h1,hk,h2=>by
  have e:=h1 0 y (by omega) rfl
  rw [ZJ,if_pos e,zdp l x k (fun j z hj hz=>h1 (j+1) z (by omega) (by simpa using hz)) (by simpa using hk) (fun z hz=>h2 z (by simpa using hz))]
def zT (l:List (Int×List Int)) (x:Int×List Int):List (Int×List Int):=
 match l[ZJ l x]? with
 |some y=>if zX x y then l.take (ZJ l x)++x::l.drop (ZJ l x) else l
 |none=>l++[x]
theorem zgV:∀(l:List (Int×List Int)) (x:Int×List Int),l.Pairwise (fun p q=>zX p q=true)->(zT l x).Pairwise (fun p q=>zX p q=true)/\∀y,y∈zT l x↔y∈l∨y=x
 |[],x,_=>by simp [zT,ZJ]
 |y::l,x,h=>by
  by_cases hyx:zX y x=true
  ·have hp:(y::l)[ZJ (y::l) x]? =l[ZJ l x]? :=by simp [ZJ,hyx]
   have e:zT (y::l) x=y::zT l x:=by
    unfold zT;rw [hp];simp only [ZJ,if_pos hyx];split<;>simp
    split<;>simp
   rw [List.pairwise_cons] at h;obtain ⟨h1,h2⟩:=zgV l x h.2;rw [e,List.pairwise_cons];refine ⟨⟨fun z hz=>?_,h1⟩,fun z=>?_⟩
   ·rcases (h2 z).1 hz with hz |rfl
    ·exact h.1 z hz
    ·exact hyx
   ·simp only [List.mem_cons,h2];constructor
    ·rintro (h |h |h)
     ·exact .inl (.inl h)
     ·exact .inl (.inr h)
     ·exact .inr h
    ·rintro ((h |h) |h)
     ·exact .inl h
     ·exact .inr (.inl h)
     ·exact .inr (.inr h)
  ·have e0:ZJ (y::l) x=0:=by simp [ZJ,hyx]
   have e:zT (y::l) x=if zX x y then x::y::l else y::l:=by
    unfold zT;rw [e0];simp
   rw [e];by_cases hxy:zX x y=true
   ·rw [if_pos hxy];refine ⟨List.pairwise_cons.2 ⟨fun z hz=>?_,h⟩,fun z=>?_⟩
    ·rcases List.mem_cons.1 hz with rfl |hz
     ·exact hxy
     ·exact znr hxy ((List.pairwise_cons.1 h).1 z hz)
    ·simp only [List.mem_cons];constructor
     ·rintro (h |h)
      ·exact .inr h
      ·exact .inl h
     ·rintro (h |h)
      ·exact .inr h
      ·exact .inl h
   ·rw [if_neg hxy];have hxe:=zns (p:=y) (q:=x) (by simpa using hyx) (by simpa using hxy)
    subst hxe;refine ⟨h,fun z=>?_⟩
    simp only [List.mem_cons];constructor
    ·exact fun h=> .inl h
    ·rintro (h |h)
     ·exact h
     ·exact .inl h
def z6 (m:List (List Int)) (xs:List (List Int)):List (Int×List Int):=
 xs.foldl (fun l x=>if 0<zq x then zT l (zp m x,x) else l) []
theorem zgW (m:List (List Int)) (xs:List (List Int)):∀l:List (Int×List Int),l.Pairwise (fun p q=>zX p q=true)->
  (xs.foldl (fun l x=>if 0<zq x then zT l (zp m x,x) else l) l).Pairwise (fun p q=>zX p q=true)/\∀y,y∈xs.foldl (fun l x=>if 0<zq x then zT l (zp m x,x) else l) l↔y∈l∨∃x∈xs,0<zq x/\y=(zp m x,x):=by
 induction xs with
 |nil=>intro l h;exact ⟨h,fun y=>by simp⟩
 |cons x xs ih=>
  intro l h;simp only [List.foldl_cons];by_cases hx:0<zq x
  ·rw [if_pos hx];obtain ⟨h1,h2⟩:=zgV l (zp m x,x) h;obtain ⟨h3,h4⟩:=ih _ h1;refine ⟨h3,fun y=>?_⟩
   rw [h4,h2];simp only [List.mem_cons];constructor
   ·rintro ((h |h) |⟨z,hz,a,b⟩)
    ·exact .inl h
    ·exact .inr ⟨x,.inl rfl,hx,h⟩
    ·exact .inr ⟨z,.inr hz,a,b⟩
   ·rintro (h |⟨z,(rfl |hz),a,b⟩)
    ·exact .inl (.inl h)
    ·exact .inl (.inr b)
    ·exact .inr ⟨z,hz,a,b⟩
  ·rw [if_neg hx];obtain ⟨h3,h4⟩:=ih _ h;refine ⟨h3,fun y=>?_⟩
   rw [h4];simp only [List.mem_cons];constructor
   ·rintro (h |⟨z,hz,a,b⟩)
    ·exact .inl h
    ·exact .inr ⟨z,.inr hz,a,b⟩
   ·rintro (h |⟨z,(rfl |hz),a,b⟩)
    ·exact .inl h
    ·exact absurd a hx
    ·exact .inr ⟨z,hz,a,b⟩
theorem znt {m:List (List Int)} (hr:RedOK m) {b:Int} (hb:0<=b):VecList m b false ((z6 m (z8 m b (m.length-1) [])).map Prod.snd)/\z6 m (z8 m b (m.length-1) [])=((z6 m (z8 m b (m.length-1) [])).map Prod.snd).map fun x=>(zp m x,x):=by
 obtain ⟨h1,h2⟩:=zgW m (z8 m b (m.length-1) []) [] List.Pairwise.nil
 have hm:∀y,y∈z6 m (z8 m b (m.length-1) [])↔∃x,(x.length=m.length/\0<zq x/\zp m x<=b)/\y=(zp m x,x):=fun y=>by
  unfold z6;rw [h2];simp only [zgU hr hb];constructor
  ·rintro (h |⟨x,⟨a1,a2⟩,a3,a4⟩)
   ·simp at h
   ·exact ⟨x,⟨a1,a3,a2⟩,a4⟩
  ·rintro ⟨x,⟨a1,a3,a2⟩,a4⟩
   exact .inr ⟨x,⟨a1,a2⟩,a3,a4⟩
 have he:∀y∈z6 m (z8 m b (m.length-1) []),y=(zp m y.2,y.2):=fun y hy=>by
  obtain ⟨x,-,rfl⟩:=(hm y).1 hy
  rfl
 refine ⟨⟨?_,fun x=>?_⟩,?_⟩
 ·rw [List.pairwise_map];refine List.Pairwise.imp_of_mem ?_ h1;intro p q hp hq h;unfold zX at h;rw [decide_eq_true_eq,he p hp,he q hq] at h
  rw [zck];exact h
 ·rw [List.mem_map];constructor
  ·rintro ⟨y,hy,rfl⟩
   obtain ⟨x,⟨a1,a2,a3⟩,rfl⟩:=(hm y).1 hy
   exact ⟨a1,a2,a3,fun h=>by cases h⟩
  ·rintro ⟨a1,a2,a3,-⟩
   exact ⟨(zp m x,x),(hm _).2 ⟨x,⟨a1,a2,a3⟩,rfl⟩,rfl⟩
 ·rw [List.map_map];conv=>lhs;rw [<-List.map_id (z6 m (z8 m b (m.length-1) []))]
  exact List.map_congr_left fun y hy=>he y hy
end Go.Proofs.YtjehjkipcaohpaaGreat
namespace Go.Proofs.YtjehjkipcaohpaaGreat
open Go.RowKit
open La
theorem znu {w0 w:World} {A:Option Addr} {c:Nat} {x:List Int} (h:Ints w0 A 2 .i64 x) (h1:x.length<=1099511627776) (hb:∀a∈x,-1099511627776<=a/\a<=1099511627776) [hx:Ext w0 w]:
  Calls Tryz.prog 60 #[.slice A x.length c] w (Zl w (.bool true)):=by
 have h0:=h.ext hx
 have HB:=Zh hb
 clear hb h;go_enter Tryz.func60,Tryz.ntmps60;go_wp2;go_loop [4,7] (fun _ i=>∃k:Nat,k<=x.length/\i= .int .i64 k) (fun _ i=>x.length-(intOf i).toNat)
 case atStart=>exact ⟨0,by omega,rfl⟩
 case round=>
  obtain ⟨k,hk,rfl⟩:=hrel
  by_cases hlt:k<x.length
  ·obtain ⟨b1,o1,a,rfl,ha,g1,g2⟩:=h0.at_ hlt
   have hab:=HB.out a (List.mem_of_getElem? ha)
   have d1:decide (a< -1099511627776)=false:=by simp;omega
   have d2:decide (1099511627776<a)=false:=by simp;omega
   clear ha;go_wp2;exact ⟨⟨k+1,by omega,by go_num⟩,by simp [intOf];omega⟩
  ·go_wp2
   go_ret
   exact ⟨rfl,rfl⟩
theorem LLLed.fits {m:List (List Int)} (h:LLLed m):qg m:=(ZS h.red).form.fits
theorem znv {z:Int} (h1:-262144<=z) (h2:z<=262144):Bd 199 z:=by
 unfold Bd;have :z.natAbs<=262144:=by omega
 exact Nat.lt_of_le_of_lt this (by decide)
theorem LLLed.bd {m:List (List Int)} (h:LLLed m):BdM 199 m:=fun i j=>by
 by_cases hi:i<m.length
 ·by_cases hj:j<m.length
  ·have hr:m[i]? =some m[i]:=List.getElem?_eq_getElem hi
   have hl:m[i].length=m.length:=h.all _ (List.getElem_mem hi)
   have he:ent m i j=m[i][j]'(by omega):=j3 hr (List.getElem?_eq_getElem (by omega))
   have :=(zfR h.red).ent m[i] (List.getElem_mem hi) (m[i][j]'(by omega)) (List.getElem_mem _)
   rw [he];exact znv this.1 this.2
  ·rw [qf h.all (.inr (by omega))];exact Bd.zero _
 ·rw [qf h.all (.inl (by omega))];exact Bd.zero _
def zby (w:World) (zs:List Int) (e:Ending) (w':World):Prop:=∃B d,e= .returned (.slice B zs.length d)/\IntsV w' B zs/\zs.length<=d/\d<=9223372036854775807/\Step w w'
theorem zgX {w0 w:World} {A:Option Addr} {c:Nat} {x:List Int} (h:Ints w0 A 2 .i64 x) (h1:x.length<=1000) (hb:∀a∈x,-9223372036854775808<=a/\a<=9223372036854775807) [hx:Ext w0 w]:
  Calls Tryz.prog 162 #[.slice A x.length c] w (zby w x):=by
 have h0:=h.ext hx
 have HB:=Zh hb
 obtain ⟨n,hn⟩:∃n,n=x.length:=⟨_,rfl⟩
 unfold zby;rw [<-hn] at h1 |-;have HL:=Zh hn;clear hb h hn;go_enter Tryz.func162,Tryz.ntmps162;go_wp2;go_loopw [3,5,8] (fun s3 _ i wr=>∃(q:Nat) (A1:Option Addr) (c1:Nat) (vs:List Value),q<=n/\i= .int .i64 q/\s3= .slice A1 q c1/\Hid (Own wr w.heap.size 148 2 A1 q c1 vs)/\Hid (VsOf wr vs (x.take q))/\Ext w wr) (fun _ _ i _=>n-(intOf i).toNat)
 case atStart=>exact ⟨0,none,0,[],by omega,rfl,rfl,Zh (Own.nil _ _ _ _),Zh (fun i z hz=>by simp at hz),Zi⟩
 case round=>
  obtain ⟨q,A1,c1,vs,hq,rfl,rfl,HO,HV,hxr⟩:=hrel
  by_cases hlt:q<n
  ·have hlx:q<x.length:=by rw [<-HL.out];exact hlt
   obtain ⟨b1,o1,a,rfl,ha,g1,g2⟩:=(h0.ext hxr).at_ hlx
   have hab:=HB.out a (List.mem_of_getElem? ha)
   have hae:Hid (x.getD q 0=a):=Zh (by simp [List.getD,ha])
   have HS:=Zh (fun W=>qu a hab.1 hab.2 W)
   clear ha;go_wp2_with fail;refine (HS.out _).mono ?_;rintro e w5 ⟨g5,B5,k5,d5,rfl,hz5,hs5⟩;have hx5:Ext wr w5:=Zi;have HZ5:=Zh hz5;clear hz5;go_wp2_with (at_builtin;refine zC _ rfl _ _ 87 rfl w.heap.size 148 (.agg #[.bool false,.slice none 0 0]) 2 32 Tryz.underlying87 QF rfl (by omega) (by omega) A1 q c1 vs rfl (HO.out.ext Zi) (some ⟨w5.heap.size,0,none⟩) 1 1 [.bool g5,.slice B5 k5 d5] rfl (Arr.new w5 148 #[.bool g5,.slice B5 k5 d5]) rfl (zbq _ _ _ _) (by omega) (by have :=(hxr.trans hx5).size;simp;omega) ?_;intro A6 c6 w6 hown hg;have HO6:=Zh hown;have HG6:=Zh hg;have hx6:Ext w w6:=hg.ext Zi (Nat.le_refl _);clear hown hg)
   refine ⟨⟨q+1,A6,c6,vs++[.bool g5,.slice B5 k5 d5],by omega,by go_num,rfl,HO6,Zh ?_,hx6⟩,by simp [intOf]<;>omega⟩
   have hxa:Ext w5 (w5.alloc (.cells #[.bool g5,.slice B5 k5 d5] 148)):=Zi
   have hv5:VsOf (w5.alloc (.cells #[.bool g5,.slice B5 k5 d5] 148)) (vs++[.bool g5,.slice B5 k5 d5]) (x.take q++[x.getD q 0]):=VsOf.snoc (HV.out.map fun hz=>(hz.ext hx5).ext hxa) (by rw [HO.out.len,List.length_take,<-HL.out,Nat.min_eq_left hq]) (by rw [hae.out];exact HZ5.out.ext hxa)
   rw [JO (by rw [<-HL.out];exact hlt)]
   exact hv5.grow HG6.out (by decide)
  ·obtain rfl:q=n:=by omega
   go_wp2
   go_ret
   have h2:=HV.out
   rw [List.take_of_length_le (by rw [<-HL.out];exact Nat.le_refl _)] at h2
   exact ⟨A1,c1,rfl,h2.intsV (by rw [HO.out.len,<-HL.out]) HO.out.arr (Ext.refl _),HO.out.cap.1,HO.out.cap.2,hxr.toStep⟩
def ZX (m:List (List Int)) (n:Nat) (x:List Int):List Int:=m.map fun r=>zz n fun i=>r.getD i 0*x.getD i 0
theorem zdq (m:List (List Int)) (n:Nat) (x:List Int):(ZX m n x).length=m.length:=by simp [ZX]
theorem zdr {m:List (List Int)} {n i:Nat} {x r:List Int} (hr:m[i]? =some r):(ZX m n x).getD i 0=zz n fun j=>r.getD j 0*x.getD j 0:=by
 simp [ZX,List.getD,hr]
theorem znw {w0 w1 w:World} {A B:Option Addr} {c d n k:Nat} {m:List (List Int)} {x:List Int} (hM:MatV w0 A m) (hX:IntsV w1 B x) (h1:1<=m.length) (h2:m.length<=16) (h3:1<=n) (h4:n<=16) (hn:AllLen m n) (hxl:x.length=n) (hk:k<=1000000000000) (hbm:∀i j,Bd k (ent m i j)) (hbx:Qy k x) [hx:Ext w0 w] [hy:Ext w1 w]:
  Calls Tryz.prog 161 #[.slice A m.length c,.slice B n d] w (zaD w (ZX m n x)):=by
 have h0:=hM.ext hx
 have hX0:=hX.ext hy
 have HSH:=Zh (fun W (e:Ext w W)=>zaB (w:=W) (c:=c) h0 n h1 h2 h3 h4 hn)
 have HDT:Hid (∀(W0 W:World) (A1:Option Addr) (c1 i:Nat) (r:List Int),m[i]? =some r->IntsV W0 A1 r->Ext W0 W->Ext w W->Calls Tryz.prog 163 #[.slice A1 n c1,.slice B n d] W (zt W ((ZX m n x).getD i 0))):=Zh (fun W0 W A1 c1 i r hr hI e1 e2=>by
  have hrl:r.length=n:=hn r (List.mem_of_getElem? hr)
  rw [zdr hr];refine zbm hI hX0 hrl hxl h4 hk (fun j=>?_) hbx
  have :=hbm i j
  unfold ent at this;simp only [List.getD,hr,Option.getD_some] at this
  exact this)
 have HAL:Hid (∀(i:Nat) (r:List Int),m[i]? =some r->r.length=n):=Zh (fun i r hr=>hn r (List.mem_of_getElem? hr))
 have HAR:Hid ((ZX m n x).length=m.length):=Zh (zdq m n x)
 unfold zaD;obtain ⟨Z,hZ⟩:∃Z,Z=ZX m n x:=⟨_,rfl⟩;rw [<-hZ] at HDT HAR |-;obtain ⟨rows,hrw⟩:∃rows,rows=m.length:=⟨_,rfl⟩;rw [<-hrw] at HSH HAR h1 h2 |-
 have HRW:=Zh hrw
 clear hn hM hX hX0 hxl hbm hbx hZ hrw;go_enter Tryz.func161,Tryz.ntmps161;go_wp2_with (go_at_call 156;refine (HSH.out _ Zi).mono ?_;rintro e w2 ⟨rfl,hs2⟩);have hxw2:Ext w w2:=Zi;go_loopw [9,11,28] (fun s9 _ i wr=>∃(q:Nat) (A1:Option Addr) (c1:Nat) (vs:List Value),q<=rows/\i= .int .i64 q/\s9= .slice A1 q c1/\Hid (Own wr w2.heap.size 148 2 A1 q c1 vs)/\Hid (VsOf wr vs (Z.take q))/\Ext w2 wr) (fun _ _ i _=>rows-(intOf i).toNat)
 case atStart=>exact ⟨0,none,0,[],by omega,rfl,rfl,Zh (Own.nil _ _ _ _),Zh (fun i z hz=>by simp at hz),Zi⟩
 case round=>
  obtain ⟨q,A1,c1,vs,hq,rfl,rfl,HO,HV,hxr⟩:=hrel
  have hxwr:Ext w wr:=hxw2.trans hxr
  by_cases hlt:q<rows
  ·obtain ⟨r,hr⟩:∃r,m[q]? =some r:=⟨_,List.getElem?_eq_getElem (by rw [<-HRW.out];exact hlt)⟩
   have hrl:=HAL.out q r hr
   obtain ⟨b1,o1,B1,d1,rfl,g1,g2,-,-,g3⟩:=(h0.ext hxwr).at_ hr
   rw [hrl] at g1;have HD:=Zh (fun W (e:Ext wr W)=>HDT.out wr W B1 d1 q r hr g2 e (hxwr.trans e))
   clear hr hrl g2;go_wp2_with fail;refine (HD.out _ Zi).mono ?_;rintro e w5 ⟨g5,B5,k5,d5,rfl,hz5,hs5⟩;have hx5:Ext wr w5:=Zi;have HZ5:=Zh hz5;clear hz5;go_wp2_with (at_builtin;refine zC _ rfl _ _ 87 rfl w2.heap.size 148 (.agg #[.bool false,.slice none 0 0]) 2 32 Tryz.underlying87 QF rfl (by omega) (by omega) A1 q c1 vs rfl (HO.out.ext Zi) (some ⟨w5.heap.size,0,none⟩) 1 1 [.bool g5,.slice B5 k5 d5] rfl (Arr.new w5 148 #[.bool g5,.slice B5 k5 d5]) rfl (zbq _ _ _ _) (by omega) (by have :=(hxr.trans hx5).size;simp;omega) ?_;intro A6 c6 w6 hown hg;have HO6:=Zh hown;have HG6:=Zh hg;have hx6:Ext w2 w6:=hg.ext Zi (Nat.le_refl _);clear hown hg)
   refine ⟨⟨q+1,A6,c6,vs++[.bool g5,.slice B5 k5 d5],by omega,by go_num,rfl,HO6,Zh ?_,hx6⟩,by simp [intOf]<;>omega⟩
   have hxa:Ext w5 (w5.alloc (.cells #[.bool g5,.slice B5 k5 d5] 148)):=Zi
   have hv5:VsOf (w5.alloc (.cells #[.bool g5,.slice B5 k5 d5] 148)) (vs++[.bool g5,.slice B5 k5 d5]) (Z.take q++[Z.getD q 0]):=VsOf.snoc (HV.out.map fun hz=>(hz.ext hx5).ext hxa) (by rw [HO.out.len,List.length_take,HAR.out,Nat.min_eq_left hq]) (HZ5.out.ext hxa)
   rw [JO (by rw [HAR.out];exact hlt)]
   exact hv5.grow HG6.out (by decide)
  ·obtain rfl:q=rows:=by omega
   go_wp2
   go_ret2
   have h2:=HV.out
   rw [List.take_of_length_le (by rw [HAR.out];exact Nat.le_refl _)] at h2
   exact ⟨A1,c1,by rw [HAR.out];rfl,h2.intsV (by rw [HO.out.len,HAR.out]) HO.out.arr (Ext.refl _),by rw [HAR.out];exact HO.out.cap.1,HO.out.cap.2,hxwr.toStep⟩
end Go.Proofs.YtjehjkipcaohpaaGreat
