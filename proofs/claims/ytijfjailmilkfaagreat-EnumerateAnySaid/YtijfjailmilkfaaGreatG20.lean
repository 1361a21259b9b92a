/- Enum3 RefI Tl Fr1 Ls1 R09a R09b -/
import Derived.Test.YtijfjailmilkfaaGreatProg
import Derived.Test.YtijfjailmilkfaaGreatShelf
import Derived.Test.YtijfjailmilkfaaGreatG17
set_option maxHeartbeats 8000000
set_option linter.unusedVariables false
set_option linter.unusedSimpArgs false
set_option linter.constructorNameAsVariable false
namespace Go.Proofs.YtijfjailmilkfaaGreat
open Go.RowKit
theorem Vectors_err {w0 w:World} {A:Option Addr} {c:Nat} {m:List (List Int)} {bound budget k:Int} (h:MatA w0 A m) (hlen:m.length<=1099511627776) (hc:m.length<=c) (hc2:c<=9223372036854775807) (hf:isRedB m=true->FormOK m) (hs:stepsSpec m bound budget=([],k)) (h1:1<=k) (h2:k<=100) [hx:Ext w0 w]:
  Calls Tryz.prog 40 #[.slice A m.length c,.int .i64 bound,.int .i64 budget] w (RetVal w (.tuple #[.slice none 0 0,.int .i64 0,.int .i64 k])):=by
 have hst:=fun W (hh:Ext w0 W)=>Steps_any (w:=W) (bound:=bound) (budget:=budget) h hlen hc hc2 hf
 rw [hs] at hst
 have HST:=Lib.hid hst
 have hk:(k !=0)=true:=by simp;omega
 clear hst hs hf
 go_enter Tryz.func40,Tryz.ntmps40
 go_wp2_with (go_at_call 77;refine (HST.out _ inferInstance).mono ?_;rintro e w1 ⟨A1,c1,rfl,hI,k1,k2,hs1⟩)
 go_ret3
 exact ⟨rfl,Step.of _ _⟩
end Go.Proofs.YtijfjailmilkfaaGreat
namespace Go.Proofs.YtijfjailmilkfaaGreat
open Go.RowKit
open La
theorem rreduced_ok {w0 w:World} {A:Option Addr} {c n b:Nat} {m:List (List Int)} (h:MatV w0 A m) (h1:m.length=n) (h3:1<=n) (h4:n<=8) (hn:AllLen m n) (hb:BdM b m) (hb1:1<=b) (hbb:b<=1000000) (hp:Pos (ofZ (ent m)) n) (hs:Sym (ofZ (ent m))) (hfu:∀r,r<n->Full (ofZ (ent m)) r) (hlo:∀p,p+1<n->Lov (ofZ (ent m)) p) [hx:Ext w0 w]:
  Calls Tryz.prog 189 #[.slice A n c] w (RetVal w (.bool true)):=by
 have h0:=h.ext hx
 have HLE:=Lib.hid (fun W (e1:Ext w W)=>rLeading_ok (w:=W) (c:=c) h0 h1 h3 h4 hn hb hb1 hbb)
 have HLL:Hid ((leadF m).length=n):=Lib.hid (by rw [leadF_len];exact h1)
 have HSZ:Hid (∀(W1 W:World) (B:Option Addr) (d i j:Nat),i<n->j<i->IntsV W1 B (leadF m)->Ext w W->Ext W1 W->Calls Tryz.prog 148 #[.slice A n c,.slice B n d,.int .i64 i,.int .i64 j] W (RetVal W (.bool true))):=Lib.hid (fun W1 W B d i j hi hj hI e1 e2=>by
  have :=rSized_ok (w:=W) (c:=c) (d:=d) h0 hI h1 h4 hn hb hb1 hbb hi (show j<n by omega)
  rwa [decide_eq_true ((sized_iff h1 hp (show j<n by omega)).2 (hfu i hi j hj))] at this)
 have HLV:Hid (∀(W1 W:World) (B:Option Addr) (d i:Nat),i<n->1<=i->IntsV W1 B (leadF m)->Ext w W->Ext W1 W->Calls Tryz.prog 154 #[.slice A n c,.slice B n d,.int .i64 i] W (RetVal W (.bool true))):=Lib.hid (fun W1 W B d i hi hi1 hI e1 e2=>by
  have :=rLovasz_ok (w:=W) (c:=c) (d:=d) h0 hI h1 h4 hn hb hb1 hbb hi hi1
  obtain ⟨p,rfl⟩:∃p,i=p+1:=⟨i-1,by omega⟩
  rwa [decide_eq_true ((lovasz_iff h1 hp hs hi).2 (hlo p hi))] at this)
 clear hn hb hp hs h1 hfu hlo
 go_enter Tryz.func189,Tryz.ntmps189
 go_wp2_with (go_at_call 112;refine (HLE.out _ inferInstance).mono ?_;rintro e w1 ⟨BD,dD,rfl,hI1,-,-,hs1⟩;rw [HLL.out];have HI:=Lib.hid hI1;clear hI1)
 have hxw1:Ext w w1:=inferInstance
 go_loopw [5,6,14] (fun _ _ i wr=>∃k:Nat,k<=n/\i= .int .i64 k/\Ext w1 wr) (fun _ _ i _=>n-(intOf i).toNat)
 case atStart=>exact ⟨0,by omega,rfl,inferInstance⟩
 case round=>
  obtain ⟨k,hk,rfl,hxr⟩:=hrel
  by_cases hlt:k<n
  ·go_wp2_with fail
   go_loopw [6] (fun s6 wr=>∃q:Nat,q<=k/\s6= .int .i64 q/\Ext w1 wr) (fun s6 _=>k-(intOf s6).toNat)
   case atStart=>exact ⟨0,by omega,rfl,inferInstance⟩
   case round=>
    obtain ⟨q,hq,rfl,hxq⟩:=hrel
    have hxwq:Ext w wr:=hxw1.trans hxq
    by_cases hqk:q<k
    ·have HSB:=Lib.hid (fun W (e1:Ext wr W)=>HSZ.out w1 W BD dD k q hlt hqk HI.out (hxwq.trans e1) (hxq.trans e1))
     go_wp2_with (go_at_call 148;refine (HSB.out _ inferInstance).mono ?_;rintro e w6 ⟨rfl,hs6⟩)
     exact ⟨⟨q+1,by omega,by go_num,inferInstance⟩,by simp [intOf]<;>omega⟩
    ·by_cases hk0:k=0
     ·subst hk0
      go_wp2_with fail
      exact ⟨⟨1,by omega,rfl,hxq⟩,by simp [intOf]<;>omega⟩
     ·have HLB:=Lib.hid (fun W (e1:Ext wr W)=>HLV.out w1 W BD dD k hlt (by omega) HI.out (hxwq.trans e1) (hxq.trans e1))
      have hgt:decide ((0:Int)<(k:Int))=true:=by simp;omega
      have hkpos:0<k:=by omega
      have hkpos2:(0:Int)<(k:Int):=by omega
      clear hk0
      go_wp2_with (go_at_call 154;refine (HLB.out _ inferInstance).mono ?_;rintro e w6 ⟨rfl,hs6⟩)
      exact ⟨⟨k+1,by omega,by go_num,inferInstance⟩,by simp [intOf]<;>omega⟩
  ·have hxwr:Ext w wr:=hxw1.trans hxr
   go_wp2_with fail
   go_ret
   exact ⟨rfl,⟨hxwr.below⟩⟩
theorem LLLed.val {m:List (List Int)} (h:LLLed m):ValM m:=⟨fun i hi j hj=>h.sym i j hi (by omega),lead_pos.2 h.pos⟩
theorem LLLed.detF {m:List (List Int)} (h:LLLed m):detF m<=10000:=by
 rw [det_E h.len1 (fun l hl=>by have :=E_pos h.pos (k:=l) (by omega);omega)]
 exact h.det
theorem LLLed.symO {m:List (List Int)} (h:LLLed m):Sym (ofZ (ent m)):=fun i j=>by
 by_cases hi:i<m.length
 ·by_cases hj:j<m.length
  ·unfold ofZ;rw [h.sym i j hi hj]
  ·unfold ofZ;rw [ent_out h.all (i:=i) (j:=j) (.inr (by omega)),ent_out h.all (i:=j) (j:=i) (.inl (by omega))]
 ·unfold ofZ;rw [ent_out h.all (i:=i) (j:=j) (.inl (by omega)),ent_out h.all (i:=j) (j:=i) (.inr (by omega))]
theorem rIsReduced_ok {w0 w:World} {A:Option Addr} {c n:Nat} {m:List (List Int)} (h:MatA w0 A m) (hL:LLLed m) (h1:m.length=n) (h64:Fits64 m) (hb:BdM 199 m) [hx:Ext w0 w]:
  Calls Tryz.prog 120 #[.slice A n c] w (RetVal w (.bool true)):=by
 have h3:1<=n:=by rw [<-h1];exact hL.len1
 have h4:n<=8:=by rw [<-h1];exact hL.len8
 have hn:AllLen m n:=by rw [<-h1];exact hL.all
 have hp:Pos (ofZ (ent m)) n:=by rw [<-h1];exact hL.pos
 have HFI:Hid (∀W,Ext w W->Calls Tryz.prog 89 #[.slice A n c] W (RetOwnIB W n m)):=Lib.hid (fun W e=>by
  have :Ext w0 W:=hx.trans e
  have :=rFromInts_ok (w:=W) (c:=c) h n (by omega) (by omega) h3 (by omega) hn h64
  rwa [h1] at this)
 have HVA:Hid (∀(W1 W:World) (A1:Option Addr) (c1:Nat),MatV W1 A1 m->Ext W1 W->Calls Tryz.prog 81 #[.slice A1 n c1] W (fun e w'=>∃v:Int,e= .returned (.int .i64 v)/\(v=0↔true=true)/\0<=v/\v<=5/\Step W w')):=Lib.hid (fun W1 W A1 c1 hM e=>rValidate_ok true (by simp [hL.val]) hM h1 h3 h4 hn hb (by omega) (by omega))
 have HSM:Hid (∀(W1 W:World) (A1:Option Addr) (c1:Nat),MatV W1 A1 m->Ext W1 W->Calls Tryz.prog 82 #[.slice A1 n c1] W (RetVal W (.bool true))):=Lib.hid (fun W1 W A1 c1 hM e=>by
  have :=rsmall_ok (w:=W) (c:=c1) hM h1 h3 h4 hn hb (by omega) (by omega)
  rwa [decide_eq_true hL.detF] at this)
 have HRE:Hid (∀(W1 W:World) (A1:Option Addr) (c1:Nat),MatV W1 A1 m->Ext W1 W->Calls Tryz.prog 189 #[.slice A1 n c1] W (RetVal W (.bool true))):=Lib.hid (fun W1 W A1 c1 hM e=>rreduced_ok hM h1 h3 h4 hn hb (by omega) (by omega) hp hL.symO (fun r hr=>hL.full r (by omega)) (fun p hp=>hL.lov p (by omega)))
 have HL:=Lib.hid h1
 clear hn hb h64 h1 hp hL
 go_enter Tryz.func120,Tryz.ntmps120
 go_wp2_with (first
  |(go_at_call 89;refine (HFI.out _ inferInstance).mono ?_;rintro e w1 ⟨g1,hs1',c1,rfl,hO1,-,-,hs1⟩;rw [HL.out];have HM:=Lib.hid hO1.mat;clear hO1)
  |(go_at_call 81;refine (HVA.out _ _ _ _ HM.out inferInstance).mono ?_;rintro e w2 ⟨v,rfl,hv,hv0,hv5,hs2⟩;have hvz:v=0:=(hv.2 (by trivial));subst hvz;clear hv hv0 hv5)
  |(go_at_call 82;refine (HSM.out _ _ _ _ HM.out inferInstance).mono ?_;rintro e w3 ⟨rfl,hs3⟩)
  |(go_at_call 189;refine (HRE.out _ _ _ _ HM.out inferInstance).mono ?_;rintro e w4 ⟨rfl,hs4⟩))
 go_ret
 exact ⟨rfl,Step.of _ _⟩
end Go.Proofs.YtijfjailmilkfaaGreat
namespace Go.Proofs.YtijfjailmilkfaaGreat
open La
def tLo (m:List (List Int)) (b:Int) (k:Nat) (t:List Int):Int:=vLo (minorsTo m m.length) (lamTo m m.length) k (left (ent m) b (k+1) t) t
def tHi (m:List (List Int)) (b:Int) (k:Nat) (t:List Int):Int:=vHi (minorsTo m m.length) (lamTo m m.length) k (left (ent m) b (k+1) t) t
def tCnt (m:List (List Int)) (b:Int) (k:Nat) (t:List Int):Nat:=(tHi m b k t-tLo m b k t+1).toNat
theorem canonL_pos {x:List Int} (h:0<firstNZ x):canonL x=x:=by unfold canonL;rw [if_neg (by omega)]
theorem mem_canon {m:List (List Int)} (hr:RedOK m) {b:Int} (hb:0<=b) (exact:Bool) (x:List Int):x∈(collL m b exact).map canonL↔x.length=m.length/\0<firstNZ x/\nrm m x<=b/\(exact=true->nrm m x=b):=by
 rw [List.mem_map]
 constructor
 ·rintro ⟨y,hy,rfl⟩
  obtain ⟨h1,h2,h3,h4⟩:=(mem_coll hr hb exact y).1 hy
  rw [nrm_canon,canonL_length]
  exact ⟨h1,canon_first y (fun e=>lastPos_ne h2 (firstNZ_zero e)),h3,h4⟩
 ·rintro ⟨h1,h2,h3,h4⟩
  have hne:¬∀y∈x,y=0:=fun hz=>by
   have :firstNZ x=0:=by
    clear h1 h2 h3 h4
    induction x with
    |nil=>rfl
    |cons a x ih=>
     have ha:=hz a (by simp)
     simp only [firstNZ,ha,if_true]
     exact ih (fun y hy=>hz y (by simp [hy]))
   omega
  rcases lastPos_or hne with h5 |h5
  ·refine ⟨x,(mem_coll hr hb exact x).2 ⟨h1,h5,h3,h4⟩,?_⟩
   unfold canonL
   rw [if_neg (by omega)]
  ·refine ⟨x.map fun c=>-c,(mem_coll hr hb exact _).2 ⟨by simpa using h1,h5,by rw [nrm_neg];exact h3,by rw [nrm_neg];exact h4⟩,?_⟩
   unfold canonL
   rw [firstNZ_neg,if_pos (by omega),neg_neg_map]
theorem sumR_shift (n:Nat) (F:Nat->Int):sumR (n+1) F=F 0+sumR n fun i=>F (i+1):=by
 induction n with
 |zero=>simp [sumR]
 |succ n ih=>rw [sumR_succ,ih,sumR_succ];omega
theorem sumZ_sumR (g:Nat->Int) (t:List Int):∀k,sumZ g k t=sumR t.length fun i=>g (k+i)*t.getD i 0:=by
 induction t with
 |nil=>intro k;simp [sumZ,sumR]
 |cons c t ih=>
  intro k
  rw [sumZ,ih (k+1),List.length_cons,sumR_shift]
  congr 1
  refine sumR_congr fun i _=>?_
  rw [show k+1+i=k+(i+1) by omega]
  rfl
def ipR (m:List (List Int)) (x y:List Int):Int:=sumR m.length fun i=>x.getD i 0*sumR m.length fun j=>ent m i j*y.getD j 0
theorem ipR_nrm {m:List (List Int)} (hn:AllLen m m.length) (x:List Int) (hx:x.length=m.length):ipR m x x=nrm m x:=by
 rw [nrm_eq hn x hx]
 unfold ipR qE quadZ
 rw [sumZ_sumR,hx]
 refine sumR_congr fun i _=>?_
 simp only [Nat.zero_add]
 rw [sumZ_sumR,hx,Int.mul_comm]
 simp only [Nat.zero_add]
 rfl
theorem disc_eq {m:List (List Int)} (hr:RedOK m) {k:Nat} (hk:k<m.length) (bound:Int) (t:List Int):
  lE (ent m) k (0::t)*lE (ent m) k (0::t)-lastE (ent m) (k+1)*(qE (ent m) k (0::t)-bound*lastE (ent m) k)=lastE (ent m) k*left (ent m) bound (k+1) t:=by
 have hs:Sym (ofZ (ent m)):=sym_of (isSmallB_all hr.small) (fun i j hi hj=>((of_decide_eq_true hr.small).2.2.2 i hi j hj).1)
 have :=qE_step hs (hr.pos.le (by omega:k+1<=m.length)) 0 t
 unfold left
 grind
/-! ## The tails that the reference walks -/
def lvs (m:List (List Int)) (b:Int):Nat->List Int->List (List Int)
 |0,t=>(List.range (tCnt m b 0 t)).map fun (j:Nat)=>(tLo m b 0 t+(j:Int))::t
 |k+1,t=>(List.range (tCnt m b (k+1) t)).flatMap fun (j:Nat)=>lvs m b k ((tLo m b (k+1) t+(j:Int))::t)
theorem mem_lvs {m:List (List Int)} (hr:RedOK m) {b:Int} (x:List Int) (k:Nat):∀t:List Int,k<m.length->t.length=m.length-1-k->0<=left (ent m) b (k+1) t->
  (x∈lvs m b k t↔∃p:List Int,p.length=k+1/\x=p++t/\0<=left (ent m) b 0 x):=by
 induction k with
 |zero=>
  intro t hk ht h0
  have hin:∀c,(tLo m b 0 t<=c/\c<=tHi m b 0 t)↔0<=left (ent m) b 0 (c::t):=fun c=>inv_iff hr hk t ht h0 c
  rw [lvs]
  simp only [List.mem_map,List.mem_range]
  constructor
  ·rintro ⟨j,hj,rfl⟩
   unfold tCnt at hj
   exact ⟨[tLo m b 0 t+(j:Int)],rfl,rfl,(hin _).1 ⟨by omega,by omega⟩⟩
  ·rintro ⟨p,hp,rfl,h2⟩
   obtain ⟨c,rfl⟩:∃c,p=[c]:=List.length_eq_one_iff.1 hp
   have h3:=(hin c).2 h2
   refine ⟨(c-tLo m b 0 t).toNat,by unfold tCnt;omega,?_⟩
   rw [show tLo m b 0 t+(((c-tLo m b 0 t).toNat:Nat):Int)=c by omega]
   rfl
 |succ k ih=>
  intro t hk ht h0
  have hin:∀c,(tLo m b (k+1) t<=c/\c<=tHi m b (k+1) t)↔0<=left (ent m) b (k+1) (c::t):=fun c=>inv_iff hr hk t ht h0 c
  rw [lvs]
  simp only [List.mem_flatMap,List.mem_range]
  constructor
  ·rintro ⟨j,hj,hx⟩
   have hk0:0<=left (ent m) b (k+1) ((tLo m b (k+1) t+(j:Int))::t):=kid hr t hk ht h0 (j:=j) hj
   obtain ⟨p,hp,rfl,h2⟩:=(ih _ (by omega) (by simp [ht];omega) hk0).1 hx
   exact ⟨p++[tLo m b (k+1) t+(j:Int)],by simp [hp],by simp,h2⟩
  ·rintro ⟨p,hp,rfl,h2⟩
   obtain ⟨q,c,rfl,hq⟩:=snoc_split hp
   have hs:=left_suffix hr b q 0 (c::t) (by simp [ht];omega) (by simpa using h2)
   rw [hq,Nat.zero_add] at hs
   have hc:=(hin c).2 hs
   refine ⟨(c-tLo m b (k+1) t).toNat,by unfold tCnt;omega,?_⟩
   have e:tLo m b (k+1) t+(((c-tLo m b (k+1) t).toNat:Nat):Int)=c:=by omega
   rw [e]
   exact (ih _ (by omega) (by simp [ht];omega) hs).2 ⟨q,hq,by simp,h2⟩
theorem mem_all {m:List (List Int)} (hr:RedOK m) {b:Int} (hb:0<=b) (x:List Int):x∈lvs m b (m.length-1) []↔x.length=m.length/\nrm m x<=b:=by
 have hl:=isSmallB_len hr.small
 rw [mem_lvs hr x (m.length-1) [] (by omega) (by simp) (top_nonneg hr hb)]
 constructor
 ·rintro ⟨p,hp,rfl,h2⟩
  have hpl:(p++[]).length=m.length:=by simp [hp];omega
  rw [left_nrm (isSmallB_all hr.small) b _ hpl] at h2
  exact ⟨hpl,by omega⟩
 ·rintro ⟨h1,h3⟩
  refine ⟨x,by omega,by simp,?_⟩
  rw [left_nrm (isSmallB_all hr.small) b _ h1];omega
/-! ## Sorted lists of items -/
def itemL (p:Int×List Int):List Int:=p.1::p.2
def lessP (p q:Int×List Int):Bool:=decide (lexI (itemL p) (itemL q)<0)
theorem itemL_inj {p q:Int×List Int} (h:itemL p=itemL q):p=q:=by
 obtain ⟨a,x⟩:=p
 obtain ⟨b,y⟩:=q
 simpa [itemL] using h
theorem lessP_trans {p q r:Int×List Int} (h1:lessP p q=true) (h2:lessP q r=true):lessP p r=true:=by
 unfold lessP at*
 rw [decide_eq_true_eq] at*
 exact lexI_trans _ _ _ h1 h2
theorem lessP_tri {p q:Int×List Int} (h1:lessP p q=false) (h2:lessP q p=false):p=q:=by
 unfold lessP at*
 rw [decide_eq_false_iff_not] at*
 rw [lexI_anti] at h2
 exact itemL_inj (lexI_eq _ _ (by omega))
def putI:List (Int×List Int)->Int×List Int->Nat
 |[],_=>0
 |y::l,x=>if lessP y x then putI l x+1 else 0
theorem putI_iff:∀(l:List (Int×List Int)) (x:Int×List Int) (k:Nat),(∀j y,j<k->l[j]? =some y->lessP y x=true)->k<=l.length->(∀y,l[k]? =some y->lessP y x=false)->putI l x=k
 |[],x,k,_,hk,_=>by simp at hk;simp [putI,hk]
 |y::l,x,0,_,_,h=>by have :=h y rfl;simp [putI,this]
 |y::l,x,k+1,h1,hk,h2=>by
  have e:=h1 0 y (by omega) rfl
  rw [putI,if_pos e,putI_iff l x k (fun j z hj hz=>h1 (j+1) z (by omega) (by simpa using hz)) (by simpa using hk) (fun z hz=>h2 z (by simpa using hz))]
def putP (l:List (Int×List Int)) (x:Int×List Int):List (Int×List Int):=
 match l[putI l x]? with
 |some y=>if lessP x y then l.take (putI l x)++x::l.drop (putI l x) else l
 |none=>l++[x]
theorem putP_ok:∀(l:List (Int×List Int)) (x:Int×List Int),l.Pairwise (fun p q=>lessP p q=true)->(putP l x).Pairwise (fun p q=>lessP p q=true)/\∀y,y∈putP l x↔y∈l∨y=x
 |[],x,_=>by simp [putP,putI]
 |y::l,x,h=>by
  by_cases hyx:lessP y x=true
  ·have hp:(y::l)[putI (y::l) x]? =l[putI l x]? :=by simp [putI,hyx]
   have e:putP (y::l) x=y::putP l x:=by
    unfold putP
    rw [hp]
    simp only [putI,if_pos hyx]
    split<;>simp
    split<;>simp
   rw [List.pairwise_cons] at h
   obtain ⟨h1,h2⟩:=putP_ok l x h.2
   rw [e,List.pairwise_cons]
   refine ⟨⟨fun z hz=>?_,h1⟩,fun z=>?_⟩
   ·rcases (h2 z).1 hz with hz |rfl
    ·exact h.1 z hz
    ·exact hyx
   ·simp only [List.mem_cons,h2]
    constructor
    ·rintro (h |h |h)
     ·exact .inl (.inl h)
     ·exact .inl (.inr h)
     ·exact .inr h
    ·rintro ((h |h) |h)
     ·exact .inl h
     ·exact .inr (.inl h)
     ·exact .inr (.inr h)
  ·have e0:putI (y::l) x=0:=by simp [putI,hyx]
   have e:putP (y::l) x=if lessP x y then x::y::l else y::l:=by
    unfold putP
    rw [e0]
    simp
   rw [e]
   by_cases hxy:lessP x y=true
   ·rw [if_pos hxy]
    refine ⟨List.pairwise_cons.2 ⟨fun z hz=>?_,h⟩,fun z=>?_⟩
    ·rcases List.mem_cons.1 hz with rfl |hz
     ·exact hxy
     ·exact lessP_trans hxy ((List.pairwise_cons.1 h).1 z hz)
    ·simp only [List.mem_cons]
     constructor
     ·rintro (h |h)
      ·exact .inr h
      ·exact .inl h
     ·rintro (h |h)
      ·exact .inr h
      ·exact .inl h
   ·rw [if_neg hxy]
    have hxe:=lessP_tri (p:=y) (q:=x) (by simpa using hyx) (by simpa using hxy)
    subst hxe
    refine ⟨h,fun z=>?_⟩
    simp only [List.mem_cons]
    constructor
    ·exact fun h=> .inl h
    ·rintro (h |h)
     ·exact h
     ·exact .inl h
def itemsL (m:List (List Int)) (xs:List (List Int)):List (Int×List Int):=
 xs.foldl (fun l x=>if 0<firstNZ x then putP l (nrm m x,x) else l) []
theorem items_ok (m:List (List Int)) (xs:List (List Int)):∀l:List (Int×List Int),l.Pairwise (fun p q=>lessP p q=true)->
  (xs.foldl (fun l x=>if 0<firstNZ x then putP l (nrm m x,x) else l) l).Pairwise (fun p q=>lessP p q=true)/\∀y,y∈xs.foldl (fun l x=>if 0<firstNZ x then putP l (nrm m x,x) else l) l↔y∈l∨∃x∈xs,0<firstNZ x/\y=(nrm m x,x):=by
 induction xs with
 |nil=>intro l h;exact ⟨h,fun y=>by simp⟩
 |cons x xs ih=>
  intro l h
  simp only [List.foldl_cons]
  by_cases hx:0<firstNZ x
  ·rw [if_pos hx]
   obtain ⟨h1,h2⟩:=putP_ok l (nrm m x,x) h
   obtain ⟨h3,h4⟩:=ih _ h1
   refine ⟨h3,fun y=>?_⟩
   rw [h4,h2]
   simp only [List.mem_cons]
   constructor
   ·rintro ((h |h) |⟨z,hz,a,b⟩)
    ·exact .inl h
    ·exact .inr ⟨x,.inl rfl,hx,h⟩
    ·exact .inr ⟨z,.inr hz,a,b⟩
   ·rintro (h |⟨z,(rfl |hz),a,b⟩)
    ·exact .inl (.inl h)
    ·exact .inl (.inr b)
    ·exact .inr ⟨z,hz,a,b⟩
  ·rw [if_neg hx]
   obtain ⟨h3,h4⟩:=ih _ h
   refine ⟨h3,fun y=>?_⟩
   rw [h4]
   simp only [List.mem_cons]
   constructor
   ·rintro (h |⟨z,hz,a,b⟩)
    ·exact .inl h
    ·exact .inr ⟨z,.inr hz,a,b⟩
   ·rintro (h |⟨z,(rfl |hz),a,b⟩)
    ·exact .inl h
    ·exact absurd a hx
    ·exact .inr ⟨z,hz,a,b⟩
theorem items_vecList {m:List (List Int)} (hr:RedOK m) {b:Int} (hb:0<=b):VecList m b false ((itemsL m (lvs m b (m.length-1) [])).map Prod.snd)/\itemsL m (lvs m b (m.length-1) [])=((itemsL m (lvs m b (m.length-1) [])).map Prod.snd).map fun x=>(nrm m x,x):=by
 obtain ⟨h1,h2⟩:=items_ok m (lvs m b (m.length-1) []) [] List.Pairwise.nil
 have hm:∀y,y∈itemsL m (lvs m b (m.length-1) [])↔∃x,(x.length=m.length/\0<firstNZ x/\nrm m x<=b)/\y=(nrm m x,x):=fun y=>by
  unfold itemsL
  rw [h2]
  simp only [mem_all hr hb]
  constructor
  ·rintro (h |⟨x,⟨a1,a2⟩,a3,a4⟩)
   ·simp at h
   ·exact ⟨x,⟨a1,a3,a2⟩,a4⟩
  ·rintro ⟨x,⟨a1,a3,a2⟩,a4⟩
   exact .inr ⟨x,⟨a1,a2⟩,a3,a4⟩
 have he:∀y∈itemsL m (lvs m b (m.length-1) []),y=(nrm m y.2,y.2):=fun y hy=>by
  obtain ⟨x,-,rfl⟩:=(hm y).1 hy
  rfl
 refine ⟨⟨?_,fun x=>?_⟩,?_⟩
 ·rw [List.pairwise_map]
  refine List.Pairwise.imp_of_mem ?_ h1
  intro p q hp hq h
  unfold lessP at h
  rw [decide_eq_true_eq,he p hp,he q hq] at h
  rw [cmpK_lex]
  exact h
 ·rw [List.mem_map]
  constructor
  ·rintro ⟨y,hy,rfl⟩
   obtain ⟨x,⟨a1,a2,a3⟩,rfl⟩:=(hm y).1 hy
   exact ⟨a1,a2,a3,fun h=>by cases h⟩
  ·rintro ⟨a1,a2,a3,-⟩
   exact ⟨(nrm m x,x),(hm _).2 ⟨x,⟨a1,a2,a3⟩,rfl⟩,rfl⟩
 ·rw [List.map_map]
  conv=>lhs;rw [<-List.map_id (itemsL m (lvs m b (m.length-1) []))]
  exact List.map_congr_left fun y hy=>he y hy
theorem vecList_len {m:List (List Int)} (hr:RedOK m) {b:Int} (hb:0<=b) {e:Bool} {L:List (List Int)} (h:VecList m b e L):L.length=(collL m b e).length:=by
 have hp:L.Perm ((collL m b e).map canonL):=(List.perm_ext_iff_of_nodup h.nodup (nodup_canon hr hb e)).2 fun x=>by rw [h.mem,mem_canon hr hb]
 simpa using hp.length_eq
end Go.Proofs.YtijfjailmilkfaaGreat
namespace Go.Proofs.YtijfjailmilkfaaGreat
open Go.RowKit
open La
theorem rinside_ok {w0 w:World} {A:Option Addr} {c:Nat} {x:List Int} (h:Ints w0 A 2 .i64 x) (h1:x.length<=1099511627776) (hb:∀a∈x,-1099511627776<=a/\a<=1099511627776) [hx:Ext w0 w]:
  Calls Tryz.prog 118 #[.slice A x.length c] w (RetSame w (.bool true)):=by
 have h0:=h.ext hx
 have HB:=Lib.hid hb
 clear hb h
 go_enter Tryz.func118,Tryz.ntmps118
 go_wp2
 go_loop [4,7] (fun _ i=>∃k:Nat,k<=x.length/\i= .int .i64 k) (fun _ i=>x.length-(intOf i).toNat)
 case atStart=>exact ⟨0,by omega,rfl⟩
 case round=>
  obtain ⟨k,hk,rfl⟩:=hrel
  by_cases hlt:k<x.length
  ·obtain ⟨b1,o1,a,rfl,ha,g1,g2⟩:=h0.at_ hlt
   have hab:=HB.out a (List.mem_of_getElem? ha)
   have d1:decide (a< -1099511627776)=false:=by simp;omega
   have d2:decide (1099511627776<a)=false:=by simp;omega
   clear ha
   go_wp2
   exact ⟨⟨k+1,by omega,by go_num⟩,by simp [intOf];omega⟩
  ·go_wp2
   go_ret
   exact ⟨rfl,rfl⟩
theorem LLLed.fits {m:List (List Int)} (h:LLLed m):Fits64 m:=(red_ok h.red).form.fits
theorem bd_199 {z:Int} (h1:-262144<=z) (h2:z<=262144):Bd 199 z:=by
 unfold Bd
 have :z.natAbs<=262144:=by omega
 exact Nat.lt_of_le_of_lt this (by decide)
theorem LLLed.bd {m:List (List Int)} (h:LLLed m):BdM 199 m:=fun i j=>by
 by_cases hi:i<m.length
 ·by_cases hj:j<m.length
  ·have hr:m[i]? =some m[i]:=List.getElem?_eq_getElem hi
   have hl:m[i].length=m.length:=h.all _ (List.getElem_mem hi)
   have he:ent m i j=m[i][j]'(by omega):=ent_of hr (List.getElem?_eq_getElem (by omega))
   have :=(redM_of h.red).ent m[i] (List.getElem_mem hi) (m[i][j]'(by omega)) (List.getElem_mem _)
   rw [he]
   exact bd_199 this.1 this.2
  ·rw [ent_out h.all (.inr (by omega))];exact Bd.zero _
 ·rw [ent_out h.all (.inl (by omega))];exact Bd.zero _
def RetIntsL (w:World) (zs:List Int) (e:Ending) (w':World):Prop:=∃B d,e= .returned (.slice B zs.length d)/\IntsV w' B zs/\zs.length<=d/\d<=9223372036854775807/\Step w w'
theorem rColumn_ok {w0 w:World} {A:Option Addr} {c:Nat} {x:List Int} (h:Ints w0 A 2 .i64 x) (h1:x.length<=1000) (hb:∀a∈x,-9223372036854775808<=a/\a<=9223372036854775807) [hx:Ext w0 w]:
  Calls Tryz.prog 123 #[.slice A x.length c] w (RetIntsL w x):=by
 have h0:=h.ext hx
 have HB:=Lib.hid hb
 obtain ⟨n,hn⟩:∃n,n=x.length:=⟨_,rfl⟩
 unfold RetIntsL
 rw [<-hn] at h1 |-
 have HL:=Lib.hid hn
 clear hb h hn
 go_enter Tryz.func123,Tryz.ntmps123
 go_wp2
 go_loopw [3,5,8] (fun s3 _ i wr=>∃(q:Nat) (A1:Option Addr) (c1:Nat) (vs:List Value),q<=n/\i= .int .i64 q/\s3= .slice A1 q c1/\Hid (Own wr w.heap.size 117 2 A1 q c1 vs)/\Hid (VsOf wr vs (x.take q))/\Ext w wr) (fun _ _ i _=>n-(intOf i).toNat)
 case atStart=>exact ⟨0,none,0,[],by omega,rfl,rfl,Lib.hid (Own.nil _ _ _ _),Lib.hid (fun i z hz=>by simp at hz),inferInstance⟩
 case round=>
  obtain ⟨q,A1,c1,vs,hq,rfl,rfl,HO,HV,hxr⟩:=hrel
  by_cases hlt:q<n
  ·have hlx:q<x.length:=by rw [<-HL.out];exact hlt
   obtain ⟨b1,o1,a,rfl,ha,g1,g2⟩:=(h0.ext hxr).at_ hlx
   have hab:=HB.out a (List.mem_of_getElem? ha)
   have hae:Hid (x.getD q 0=a):=Lib.hid (by simp [List.getD,ha])
   have HS:=Lib.hid (fun W=>rSmall_any a hab.1 hab.2 W)
   clear ha
   go_wp2_with fail
   refine (HS.out _).mono ?_
   rintro e w5 ⟨g5,B5,k5,d5,rfl,hz5,hs5⟩
   have hx5:Ext wr w5:=inferInstance
   have HZ5:=Lib.hid hz5
   clear hz5
   go_wp2_with (at_builtin;refine wpList_app _ rfl _ _ 104 rfl w.heap.size 117 (.agg #[.bool false,.slice none 0 0]) 2 32 Tryz.underlying104 infoInt rfl (by omega) (by omega) A1 q c1 vs rfl (HO.out.ext inferInstance) (some ⟨w5.heap.size,0,none⟩) 1 1 [.bool g5,.slice B5 k5 d5] rfl (Arr.new w5 117 #[.bool g5,.slice B5 k5 d5]) rfl (two_int _ _ _ _) (by omega) (by have :=(hxr.trans hx5).size;simp;omega) ?_;intro A6 c6 w6 hown hg;have HO6:=Lib.hid hown;have HG6:=Lib.hid hg;have hx6:Ext w w6:=hg.ext inferInstance (Nat.le_refl _);clear hown hg)
   refine ⟨⟨q+1,A6,c6,vs++[.bool g5,.slice B5 k5 d5],by omega,by go_num,rfl,HO6,Lib.hid ?_,hx6⟩,by simp [intOf]<;>omega⟩
   have hxa:Ext w5 (w5.alloc (.cells #[.bool g5,.slice B5 k5 d5] 117)):=inferInstance
   have hv5:VsOf (w5.alloc (.cells #[.bool g5,.slice B5 k5 d5] 117)) (vs++[.bool g5,.slice B5 k5 d5]) (x.take q++[x.getD q 0]):=VsOf.snoc (HV.out.map fun hz=>(hz.ext hx5).ext hxa) (by rw [HO.out.len,List.length_take,<-HL.out,Nat.min_eq_left hq]) (by rw [hae.out];exact HZ5.out.ext hxa)
   rw [take_snoc (by rw [<-HL.out];exact hlt)]
   exact hv5.grow HG6.out (by decide)
  ·obtain rfl:q=n:=by omega
   go_wp2
   go_ret
   have h2:=HV.out
   rw [List.take_of_length_le (by rw [<-HL.out];exact Nat.le_refl _)] at h2
   exact ⟨A1,c1,rfl,h2.intsV (by rw [HO.out.len,<-HL.out]) HO.out.arr (Ext.refl _),HO.out.cap.1,HO.out.cap.2,hxr.toStep⟩
def applyR (m:List (List Int)) (n:Nat) (x:List Int):List Int:=m.map fun r=>sumR n fun i=>r.getD i 0*x.getD i 0
theorem applyR_len (m:List (List Int)) (n:Nat) (x:List Int):(applyR m n x).length=m.length:=by simp [applyR]
theorem applyR_get {m:List (List Int)} {n i:Nat} {x r:List Int} (hr:m[i]? =some r):(applyR m n x).getD i 0=sumR n fun j=>r.getD j 0*x.getD j 0:=by
 simp [applyR,List.getD,hr]
theorem rApply_ok {w0 w1 w:World} {A B:Option Addr} {c d n k:Nat} {m:List (List Int)} {x:List Int} (hM:MatV w0 A m) (hX:IntsV w1 B x) (h1:1<=m.length) (h2:m.length<=16) (h3:1<=n) (h4:n<=16) (hn:AllLen m n) (hxl:x.length=n) (hk:k<=1000000000000) (hbm:∀i j,Bd k (ent m i j)) (hbx:BdL k x) [hx:Ext w0 w] [hy:Ext w1 w]:
  Calls Tryz.prog 122 #[.slice A m.length c,.slice B n d] w (RetIntsB w (applyR m n x)):=by
 have h0:=hM.ext hx
 have hX0:=hX.ext hy
 have HSH:=Lib.hid (fun W (e:Ext w W)=>rShape_ok (w:=W) (c:=c) h0 n h1 h2 h3 h4 hn)
 have HDT:Hid (∀(W0 W:World) (A1:Option Addr) (c1 i:Nat) (r:List Int),m[i]? =some r->IntsV W0 A1 r->Ext W0 W->Ext w W->Calls Tryz.prog 124 #[.slice A1 n c1,.slice B n d] W (RetInt W ((applyR m n x).getD i 0))):=Lib.hid (fun W0 W A1 c1 i r hr hI e1 e2=>by
  have hrl:r.length=n:=hn r (List.mem_of_getElem? hr)
  rw [applyR_get hr]
  refine rDot_ok hI hX0 hrl hxl h4 hk (fun j=>?_) hbx
  have :=hbm i j
  unfold ent at this
  simp only [List.getD,hr,Option.getD_some] at this
  exact this)
 have HAL:Hid (∀(i:Nat) (r:List Int),m[i]? =some r->r.length=n):=Lib.hid (fun i r hr=>hn r (List.mem_of_getElem? hr))
 have HAR:Hid ((applyR m n x).length=m.length):=Lib.hid (applyR_len m n x)
 unfold RetIntsB
 obtain ⟨Z,hZ⟩:∃Z,Z=applyR m n x:=⟨_,rfl⟩
 rw [<-hZ] at HDT HAR |-
 obtain ⟨rows,hrw⟩:∃rows,rows=m.length:=⟨_,rfl⟩
 rw [<-hrw] at HSH HAR h1 h2 |-
 have HRW:=Lib.hid hrw
 clear hn hM hX hX0 hxl hbm hbx hZ hrw
 go_enter Tryz.func122,Tryz.ntmps122
 go_wp2_with (go_at_call 155;refine (HSH.out _ inferInstance).mono ?_;rintro e w2 ⟨rfl,hs2⟩)
 have hxw2:Ext w w2:=inferInstance
 go_loopw [9,11,28] (fun s9 _ i wr=>∃(q:Nat) (A1:Option Addr) (c1:Nat) (vs:List Value),q<=rows/\i= .int .i64 q/\s9= .slice A1 q c1/\Hid (Own wr w2.heap.size 117 2 A1 q c1 vs)/\Hid (VsOf wr vs (Z.take q))/\Ext w2 wr) (fun _ _ i _=>rows-(intOf i).toNat)
 case atStart=>exact ⟨0,none,0,[],by omega,rfl,rfl,Lib.hid (Own.nil _ _ _ _),Lib.hid (fun i z hz=>by simp at hz),inferInstance⟩
 case round=>
  obtain ⟨q,A1,c1,vs,hq,rfl,rfl,HO,HV,hxr⟩:=hrel
  have hxwr:Ext w wr:=hxw2.trans hxr
  by_cases hlt:q<rows
  ·obtain ⟨r,hr⟩:∃r,m[q]? =some r:=⟨_,List.getElem?_eq_getElem (by rw [<-HRW.out];exact hlt)⟩
   have hrl:=HAL.out q r hr
   obtain ⟨b1,o1,B1,d1,rfl,g1,g2,-,-,g3⟩:=(h0.ext hxwr).at_ hr
   rw [hrl] at g1
   have HD:=Lib.hid (fun W (e:Ext wr W)=>HDT.out wr W B1 d1 q r hr g2 e (hxwr.trans e))
   clear hr hrl g2
   go_wp2_with fail
   refine (HD.out _ inferInstance).mono ?_
   rintro e w5 ⟨g5,B5,k5,d5,rfl,hz5,hs5⟩
   have hx5:Ext wr w5:=inferInstance
   have HZ5:=Lib.hid hz5
   clear hz5
   go_wp2_with (at_builtin;refine wpList_app _ rfl _ _ 104 rfl w2.heap.size 117 (.agg #[.bool false,.slice none 0 0]) 2 32 Tryz.underlying104 infoInt rfl (by omega) (by omega) A1 q c1 vs rfl (HO.out.ext inferInstance) (some ⟨w5.heap.size,0,none⟩) 1 1 [.bool g5,.slice B5 k5 d5] rfl (Arr.new w5 117 #[.bool g5,.slice B5 k5 d5]) rfl (two_int _ _ _ _) (by omega) (by have :=(hxr.trans hx5).size;simp;omega) ?_;intro A6 c6 w6 hown hg;have HO6:=Lib.hid hown;have HG6:=Lib.hid hg;have hx6:Ext w2 w6:=hg.ext inferInstance (Nat.le_refl _);clear hown hg)
   refine ⟨⟨q+1,A6,c6,vs++[.bool g5,.slice B5 k5 d5],by omega,by go_num,rfl,HO6,Lib.hid ?_,hx6⟩,by simp [intOf]<;>omega⟩
   have hxa:Ext w5 (w5.alloc (.cells #[.bool g5,.slice B5 k5 d5] 117)):=inferInstance
   have hv5:VsOf (w5.alloc (.cells #[.bool g5,.slice B5 k5 d5] 117)) (vs++[.bool g5,.slice B5 k5 d5]) (Z.take q++[Z.getD q 0]):=VsOf.snoc (HV.out.map fun hz=>(hz.ext hx5).ext hxa) (by rw [HO.out.len,List.length_take,HAR.out,Nat.min_eq_left hq]) (HZ5.out.ext hxa)
   rw [take_snoc (by rw [HAR.out];exact hlt)]
   exact hv5.grow HG6.out (by decide)
  ·obtain rfl:q=rows:=by omega
   go_wp2
   go_ret2
   have h2:=HV.out
   rw [List.take_of_length_le (by rw [HAR.out];exact Nat.le_refl _)] at h2
   exact ⟨A1,c1,by rw [HAR.out];rfl,h2.intsV (by rw [HO.out.len,HAR.out]) HO.out.arr (Ext.refl _),by rw [HAR.out];exact HO.out.cap.1,HO.out.cap.2,hxwr.toStep⟩
theorem applyR_bd {m:List (List Int)} {n k:Nat} {x:List Int} (hn:n<=16) (hbm:∀i j,Bd k (ent m i j)) (hbx:BdL k x):BdL (2*k+n) (applyR m n x):=fun i=>by
 rw [List.getD_eq_getElem?_getD]
 cases h:m[i]? with
 |none=>simp [applyR,h];exact Bd.zero _
 |some r=>
  have e:((applyR m n x)[i]?).getD 0=sumR n fun j=>r.getD j 0*x.getD j 0:=by
   rw [<-List.getD_eq_getElem?_getD];exact applyR_get h
  rw [e]
  refine dot_bd (n:=n) (fun j _=>?_) n (Nat.le_refl _)
  have h1:=hbm i j
  unfold ent at h1
  simp only [List.getD,h,Option.getD_some] at h1
  have :=h1.mul (hbx j)
  rw [show k+k=2*k by omega] at this
  exact this
theorem ipR_apply {m:List (List Int)} (x y:List Int):ipR m x y=sumR m.length fun i=>x.getD i 0*(applyR m m.length y).getD i 0:=by
 unfold ipR
 refine sumR_congr fun i hi=>?_
 have hr:m[i]? =some m[i]:=List.getElem?_eq_getElem hi
 rw [applyR_get hr]
 congr 1
 refine sumR_congr fun j _=>?_
 unfold ent
 simp [List.getD,hr]
/-! ## CanonicalSign -/
theorem firstNZ_take_succ (x:List Int) (k:Nat) (a:Int) (h:x[k]? =some a):firstNZ (x.take (k+1))=if firstNZ (x.take k)=0 then a else firstNZ (x.take k):=by
 induction x generalizing k with
 |nil=>simp at h
 |cons y x ih=>
  cases k with
  |zero=>
   simp at h
   subst h
   simp only [List.take_succ_cons,List.take_zero,firstNZ]
   by_cases h:y=0
   ·simp [h]
   ·simp [h]
  |succ k=>
   simp only [List.getElem?_cons_succ] at h
   have :=ih k h
   simp only [List.take_succ_cons,firstNZ]
   by_cases hy:y=0
   ·simp only [hy,if_true];exact this
   ·simp [hy]
def sgnI (a:Int):Int:=if a<0 then-1 else if a=0 then 0 else 1
theorem canon_sgn (x:List Int) (h:firstNZ x≠0):x.map (fun c=>sgnI (firstNZ x)*c)=canonL x:=by
 unfold canonL sgnI
 by_cases h1:firstNZ x<0
 ·rw [if_pos h1,if_pos h1]
  exact List.map_congr_left fun c _=>by omega
 ·rw [if_neg h1,if_neg h1,if_neg h]
  simp
def RetCan (w:World) (x:List Int) (e:Ending) (w':World):Prop:=
 (firstNZ x=0/\e= .returned (.tuple #[.slice none 0 0,.bool false])/\Step w w')∨
 (firstNZ x≠0/\∃B d,e= .returned (.tuple #[.slice B x.length d,.bool true])/\Ints w' B 2 .i64 (canonL x)/\x.length<=d/\d<=9223372036854775807/\Step w w')
theorem sgnI_cases (a:Int):(a<0/\sgnI a=-1)∨(a=0/\sgnI a=0)∨(0<a/\sgnI a=1):=by
 unfold sgnI
 split
 ·exact .inl ⟨by assumption,rfl⟩
 ·split
  ·exact .inr (.inl ⟨by assumption,rfl⟩)
  ·exact .inr (.inr ⟨by omega,rfl⟩)
theorem map_take_snoc (x:List Int) (s:Int) (q:Nat) (a:Int) (h:x[q]? =some a):((x.take (q+1)).map fun a=>Value.int .i64 (s*a))=((x.take q).map fun a=>Value.int .i64 (s*a))++[.int .i64 (s*a)]:=by
 rw [List.take_add_one,h]
 simp
theorem rCanon_ok {w0 w:World} {A:Option Addr} {c:Nat} {x:List Int} (h:Ints w0 A 2 .i64 x) (h1:x.length<=1000) (hb:∀a∈x,-1099511627776<=a/\a<=1099511627776) [hx:Ext w0 w]:
  Calls Tryz.prog 66 #[.slice A x.length c] w (RetCan w x):=by
 have h0:=h.ext hx
 have HI:=Lib.hid (fun W (e:Ext w0 W)=>rinside_ok (w:=W) (c:=c) h (by omega) hb)
 have HB:=Lib.hid hb
 unfold RetCan
 obtain ⟨n,hn⟩:∃n,n=x.length:=⟨_,rfl⟩
 rw [<-hn] at HI h1 |-
 have HL:=Lib.hid hn
 clear hb h hn
 go_enter Tryz.func66,Tryz.ntmps66
 go_wp2_with (go_at_call 118;refine (HI.out _ inferInstance).mono ?_;rintro e w1 ⟨rfl,rfl⟩)
 go_loop [4,6,15] (fun s _ i=>∃k:Nat,k<=n/\i= .int .i64 k/\s= .int .i64 (sgnI (firstNZ (x.take k)))) (fun _ _ i=>n-(intOf i).toNat)
 case atStart=>exact ⟨0,by omega,rfl,rfl⟩
 case round=>
  obtain ⟨k,hk,rfl,rfl⟩:=hrel
  by_cases hlt:k<n
  ·have hlx:k<x.length:=by rw [<-HL.out];exact hlt
   obtain ⟨b1,o1,a,rfl,ha,g1,g2⟩:=h0.at_ hlx
   have hstep:=firstNZ_take_succ x k a ha
   have hs:=sgnI_cases (firstNZ (x.take k))
   have HN:Hid (sgnI (firstNZ (x.take (k+1)))=if sgnI (firstNZ (x.take k))=0 then sgnI a else sgnI (firstNZ (x.take k))):=Lib.hid (by
    rw [hstep]
    by_cases h:firstNZ (x.take k)=0
    ·rw [if_pos h,if_pos (by omega)]
    ·rw [if_neg h,if_neg (by omega)])
   clear hstep hs ha
   generalize sgnI (firstNZ (x.take k))=s at*
   rcases sgnI_cases a with ⟨ha,hsa⟩ |⟨ha,hsa⟩ |⟨ha,hsa⟩
   ·have e1:(a !=0)=true:=by simp;omega
    have e2:decide (a<0)=true:=by simpa using ha
    by_cases hs:s=0
    ·subst hs
     have HN2:Hid (sgnI (firstNZ (x.take (k+1)))=-1):=Lib.hid (by rw [HN.out,if_pos rfl,hsa])
     clear ha hsa
     go_wp2
     exact ⟨⟨k+1,by omega,by go_num,by rw [HN2.out]⟩,by simp [intOf];omega⟩
    ·have HN2:Hid (sgnI (firstNZ (x.take (k+1)))=s):=Lib.hid (by rw [HN.out,if_neg hs])
     have e3:(s==0)=false:=by simpa using hs
     clear ha hsa hs
     go_wp2
     exact ⟨⟨k+1,by omega,by go_num,by rw [HN2.out]⟩,by simp [intOf];omega⟩
   ·subst ha
    by_cases hs:s=0
    ·subst hs
     have HN2:Hid (sgnI (firstNZ (x.take (k+1)))=0):=Lib.hid (by rw [HN.out,if_pos rfl,hsa])
     clear hsa
     go_wp2
     exact ⟨⟨k+1,by omega,by go_num,by rw [HN2.out]⟩,by simp [intOf];omega⟩
    ·have HN2:Hid (sgnI (firstNZ (x.take (k+1)))=s):=Lib.hid (by rw [HN.out,if_neg hs])
     have e3:(s==0)=false:=by simpa using hs
     clear hsa hs
     go_wp2
     exact ⟨⟨k+1,by omega,by go_num,by rw [HN2.out]⟩,by simp [intOf];omega⟩
   ·have e1:(a !=0)=true:=by simp;omega
    have e2:decide (a<0)=false:=by simp;omega
    by_cases hs:s=0
    ·subst hs
     have HN2:Hid (sgnI (firstNZ (x.take (k+1)))=1):=Lib.hid (by rw [HN.out,if_pos rfl,hsa])
     clear ha hsa
     go_wp2
     exact ⟨⟨k+1,by omega,by go_num,by rw [HN2.out]⟩,by simp [intOf];omega⟩
    ·have HN2:Hid (sgnI (firstNZ (x.take (k+1)))=s):=Lib.hid (by rw [HN.out,if_neg hs])
     have e3:(s==0)=false:=by simpa using hs
     clear ha hsa hs
     go_wp2
     exact ⟨⟨k+1,by omega,by go_num,by rw [HN2.out]⟩,by simp [intOf];omega⟩
  ·have htk:x.take k=x:=List.take_of_length_le (by have :=HL.out;omega)
   rw [htk]
   have hs:=sgnI_cases (firstNZ x)
   clear htk
   by_cases hz:firstNZ x=0
   ·have hsz:sgnI (firstNZ x)=0:=by omega
    rw [hsz]
    have HZ:=Lib.hid hz
    clear hs hsz hz
    go_wp2
    go_ret2
    exact .inl ⟨HZ.out,rfl,Step.of _ _⟩
   ·have HC:=Lib.hid (canon_sgn x hz)
    have HZ:=Lib.hid hz
    have e3:(sgnI (firstNZ x)==0)=false:=by simp;omega
    have hs2:sgnI (firstNZ x)=-1∨sgnI (firstNZ x)=1:=by omega
    clear hs hz
    generalize sgnI (firstNZ x)=s at*
    go_wp2
    go_loopw [7,9,32] (fun s7 _ i wr=>∃(q:Nat) (A1:Option Addr) (c1:Nat),q<=n/\i= .int .i64 q/\s7= .slice A1 q c1/\Hid (Own wr w.heap.size 2 1 A1 q c1 ((x.take q).map fun a=>Value.int .i64 (s*a)))/\Ext w wr) (fun _ _ i _=>n-(intOf i).toNat)
    case atStart=>exact ⟨0,none,0,by omega,rfl,rfl,Lib.hid (Own.nil _ _ _ _),inferInstance⟩
    case round=>
     obtain ⟨q,A1,c1,hq,rfl,rfl,HO,hxr⟩:=hrel
     by_cases hltq:q<n
     ·have hlx:q<x.length:=by rw [<-HL.out];exact hltq
      obtain ⟨b1,o1,a,rfl,ha,g1,g2⟩:=(h0.ext hxr).at_ hlx
      have hab:=HB.out a (List.mem_of_getElem? ha)
      have hsa:-1099511627776<=s*a/\s*a<=1099511627776:=by rcases hs2 with rfl |rfl<;>omega
      have HT:=Lib.hid (map_take_snoc x s q a ha)
      obtain ⟨p,hp⟩:∃p,s*a=p:=⟨_,rfl⟩
      rw [hp] at hsa HT
      have hpw:IntKind.i64.wrap p=p:=IntWalk.i64_in _ (by omega)
      clear ha hs2
      go_wp2_with (at_builtin;refine wpList_app _ rfl _ _ 35 rfl w.heap.size 2 (.int .i64 0) 1 8 Tryz.underlying35 infoI64 rfl (by omega) (by omega) A1 q c1 ((x.take q).map fun a=>Value.int .i64 (s*a)) rfl (HO.out.ext inferInstance) (some ⟨wr.heap.size,0,none⟩) 1 1 [.int .i64 p] rfl (Arr.new wr 2 #[.int .i64 p]) rfl (one_i64 _) (by omega) (by have :=hxr.size;simp;omega) ?_;intro A6 c6 w6 hown hg;have HO6:=Lib.hid hown;have hx6:Ext w w6:=hg.ext inferInstance (Nat.le_refl _);clear hown hg)
      exact ⟨⟨q+1,A6,c6,by omega,by go_num,rfl,Lib.hid (by rw [HT.out];exact HO6.out),hx6⟩,by simp [intOf]<;>omega⟩
     ·obtain rfl:q=n:=by omega
      go_wp2
      go_ret2
      have h2:=HO.out
      rw [List.take_of_length_le (by rw [<-HL.out];exact Nat.le_refl _)] at h2
      refine .inr ⟨HZ.out,A1,c1,rfl,?_,h2.cap.1,h2.cap.2,hxr.toStep⟩
      have h3:=h2.arr
      have e:(x.map fun a=>Value.int .i64 (s*a))=(canonL x).map (Value.int .i64):=by rw [<-HC.out,List.map_map];rfl
      rw [e] at h3
      exact h3
/-! ## Less, has -/
theorem rLess_ok {w0 w1 w:World} {X Y:Option Addr} {a b:Int} {c d:Nat} {x y:List Int} (hX:Ints w0 X 2 .i64 x) (hY:Ints w1 Y 2 .i64 y) (hx1:x.length<=1099511627776) (hy1:y.length<=1099511627776) [hx:Ext w0 w] [hy:Ext w1 w]:
  Calls Tryz.prog 119 #[.agg #[.int .i64 a,.slice X x.length c],.agg #[.int .i64 b,.slice Y y.length d]] w (RetVal w (.bool (lessP (a,x) (b,y)))):=by
 have hXw:=hX.ext hx
 have hYw:=hY.ext hy
 have HC:=Lib.hid (fun W (e:Ext w W)=>ref09_Compare_any (w0:=w) (w:=W) (c:=c) (d:=d) hXw hYw hx1 hy1)
 clear hX hY hXw hYw
 rcases Int.lt_trichotomy a b with h |h |h
 ·have HV:Hid (lessP (a,x) (b,y)=true):=Lib.hid (by simp [lessP,itemL,lexI,cmpI_lt h])
  have d1:decide (a<b)=true:=by simpa using h
  rw [HV.out]
  clear h
  go_enter Tryz.func119,Tryz.ntmps119
  go_wp2_with fail
  go_ret
  exact ⟨rfl,Step.of _ _⟩
 ·subst h
  have HV:Hid (lessP (a,x) (a,y)=decide (lexI x y<0)):=Lib.hid (by simp [lessP,itemL,lexI,cmpI_eq])
  rw [HV.out]
  have d1:decide (a<a)=false:=by simp
  have d2:(a==a)=true:=by simp
  go_enter Tryz.func119,Tryz.ntmps119
  go_wp2_with (go_at_call 67;refine (HC.out _ inferInstance).mono ?_;rintro e w3 ⟨rfl,nq,rfl⟩)
  go_ret
  exact ⟨rfl,Step.of _ _⟩
 ·have HV:Hid (lessP (a,x) (b,y)=false):=Lib.hid (by simp [lessP,itemL,lexI,cmpI_gt h])
  have d1:decide (a<b)=false:=by simp;omega
  have d2:(a==b)=false:=by simp;omega
  rw [HV.out]
  clear h
  go_enter Tryz.func119,Tryz.ntmps119
  go_wp2_with fail
  go_ret
  exact ⟨rfl,Step.of _ _⟩
end Go.Proofs.YtijfjailmilkfaaGreat
