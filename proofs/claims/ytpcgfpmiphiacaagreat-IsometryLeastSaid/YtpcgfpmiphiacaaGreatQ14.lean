/- Enum3 Tl Fr1 Ls1 Ls2 Bas1 Bas2 -/
import Derived.Test.YtpcgfpmiphiacaaGreatProg
import Derived.Test.YtpcgfpmiphiacaaGreatShelf
import Derived.Test.YtpcgfpmiphiacaaGreatQ11
set_option maxHeartbeats 8000000
set_option linter.unusedVariables false
set_option linter.unusedSimpArgs false
set_option linter.constructorNameAsVariable false
namespace Go.Proofs.YtpcgfpmiphiacaaGreat
open Go.RowKit
theorem Vectors_err {w0 w:World} {A:Option Addr} {c:Nat} {m:List (List Int)} {bound budget k:Int} (h:MatA w0 A m) (hlen:m.length<=1099511627776) (hc:m.length<=c) (hc2:c<=9223372036854775807) (hf:isRedB m=true->FormOK m) (hs:stepsSpec m bound budget=([],k)) (h1:1<=k) (h2:k<=100) [hx:Ext w0 w]:
  Calls Tryz.prog 34 #[.slice A m.length c,.int .i64 bound,.int .i64 budget] w (RetVal w (.tuple #[.slice none 0 0,.int .i64 0,.int .i64 k])):=by
 have hst:=fun W (hh:Ext w0 W)=>Steps_any (w:=W) (bound:=bound) (budget:=budget) h hlen hc hc2 hf
 rw [hs] at hst
 have HST:=Lib.hid hst
 have hk:(k !=0)=true:=by simp;omega
 clear hst hs hf
 go_enter Tryz.func34,Tryz.ntmps34
 go_wp2_with (go_at_call 74;refine (HST.out _ inferInstance).mono ?_;rintro e w1 ⟨A1,c1,rfl,hI,k1,k2,hs1⟩)
 go_ret3
 exact ⟨rfl,Step.of _ _⟩
end Go.Proofs.YtpcgfpmiphiacaaGreat
namespace Go.Proofs.YtpcgfpmiphiacaaGreat
open La
theorem canonL_pos {x:List Int} (h:0<firstNZ x):canonL x=x:=by unfold canonL;rw [if_neg (by omega)]
theorem mem_canon {m:List (List Int)} (hr:RedOK m) {b:Int} (hb:0<=b) (exact:Bool) (x:List Int):x∈(collL m b exact).map canonL↔x.length=m.length/\0<firstNZ x/\nrm m x<=b/\(exact=true->nrm m x=b):=by
 rw [List.mem_map]
 constructor
 ·rintro ⟨y,hy,rfl⟩
  obtain ⟨h1,h2,h3,h4⟩:=(mem_coll hr hb exact y).1 hy
  rw [nrm_canon,canonL_length]
  exact ⟨h1,canon_first y (fun e=>lastPos_ne h2 (firstNZ_zero e)),h3,h4⟩
 ·rintro ⟨h1,h2,h3,h4⟩
  have hne:¬∀y∈x,y=0:=fun hz=>by
   have :firstNZ x=0:=by
    clear h1 h2 h3 h4
    induction x with
    |nil=>rfl
    |cons a x ih=>
     have ha:=hz a (by simp)
     simp only [firstNZ,ha,if_true]
     exact ih (fun y hy=>hz y (by simp [hy]))
   omega
  rcases lastPos_or hne with h5 |h5
  ·refine ⟨x,(mem_coll hr hb exact x).2 ⟨h1,h5,h3,h4⟩,?_⟩
   unfold canonL
   rw [if_neg (by omega)]
  ·refine ⟨x.map fun c=>-c,(mem_coll hr hb exact _).2 ⟨by simpa using h1,h5,by rw [nrm_neg];exact h3,by rw [nrm_neg];exact h4⟩,?_⟩
   unfold canonL
   rw [firstNZ_neg,if_pos (by omega),neg_neg_map]
theorem sumR_shift (n:Nat) (F:Nat->Int):sumR (n+1) F=F 0+sumR n fun i=>F (i+1):=by
 induction n with
 |zero=>simp [sumR]
 |succ n ih=>rw [sumR_succ,ih,sumR_succ];omega
theorem sumZ_sumR (g:Nat->Int) (t:List Int):∀k,sumZ g k t=sumR t.length fun i=>g (k+i)*t.getD i 0:=by
 induction t with
 |nil=>intro k;rfl
 |cons c t ih=>
  intro k
  rw [sumZ,ih (k+1),List.length_cons,sumR_shift]
  grind
theorem sumR_mul (a:Int) (n:Nat) (F:Nat->Int):(sumR n fun i=>a*F i)=a*sumR n F:=by
 induction n with
 |zero=>simp [sumR]
 |succ n ih=>rw [sumR_succ,ih,sumR_succ,Int.mul_add]
theorem sumR_add (n:Nat) (F G:Nat->Int):(sumR n fun i=>F i+G i)=sumR n F+sumR n G:=by
 induction n with
 |zero=>simp [sumR]
 |succ n ih=>rw [sumR_succ,ih,sumR_succ,sumR_succ];omega
def ipR (m:List (List Int)) (x y:List Int):Int:=sumR m.length fun i=>x.getD i 0*sumR m.length fun j=>ent m i j*y.getD j 0
theorem ipR_nrm {m:List (List Int)} (hn:AllLen m m.length) (x:List Int) (hx:x.length=m.length):ipR m x x=nrm m x:=by
 rw [nrm_eq hn x hx]
 unfold ipR qE quadZ
 rw [sumZ_sumR,hx]
 refine sumR_congr fun i _=>?_
 rw [sumZ_sumR,hx,Int.mul_comm]
 simp only [Nat.zero_add]
 rfl
/-! ## The tails that the reference walks -/
/-! ## Sorted lists of items -/
def itemL (p:Int×List Int):List Int:=p.1::p.2
def lessP (p q:Int×List Int):Bool:=decide (lexI (itemL p) (itemL q)<0)
theorem qE_zero {m:List (List Int)} (hr:RedOK m) (t:List Int):∀k,k+t.length=m.length->qE (ent m) k t=0->∀x∈t,x=0:=by
 induction t with
 |nil=>intro k _ _ x hx;cases hx
 |cons c t ih=>
  intro k hk h0
  simp only [List.length_cons] at hk
  have hs:Sym (ofZ (ent m)):=sym_of (isSmallB_all hr.small) (fun i j hi hj=>((of_decide_eq_true hr.small).2.2.2 i hi j hj).1)
  have h1:=qE_step hs (hr.pos.le (by omega:k+1<=m.length)) c t
  rw [h0,Int.mul_zero] at h1
  have p0:=lastE_pos hr.pos (by omega:k<=m.length)
  have p1:=lastE_pos hr.pos (by omega:k+1<=m.length)
  have q1:=qE_nonneg hr t (k+1) (by omega)
  have q2:=Int.mul_nonneg (Int.le_of_lt p0) q1
  have q3:=sq_nonnegZ (lE (ent m) k (c::t))
  have e1:lastE (ent m) k*qE (ent m) (k+1) t=0:=by omega
  have e2:lE (ent m) k (c::t)*lE (ent m) k (c::t)=0:=by omega
  have e3:qE (ent m) (k+1) t=0:=by
   rcases Int.mul_eq_zero.1 e1 with h |h
   ·omega
   ·exact h
  have ht:=ih (k+1) (by omega) e3
  have e4:lE (ent m) k (c::t)=0:=by
   rcases Int.mul_eq_zero.1 e2 with h |h<;>exact h
  have e5:lE (ent m) k (c::t)=E (ent m) k k k*c:=by
   unfold lE
   rw [sumZ,sumZ_zeros _ _ ht,Int.add_zero]
  rw [e5] at e4
  have p2:0<E (ent m) k k k:=p1
  have hc:c=0:=by
   rcases Int.mul_eq_zero.1 e4 with h |h
   ·omega
   ·exact h
  intro x hx
  rcases List.mem_cons.1 hx with rfl |hx
  ·exact hc
  ·exact ht x hx
theorem firstNZ_of_zero {x:List Int} (h:∀y∈x,y=0):firstNZ x=0:=by
 induction x with
 |nil=>rfl
 |cons a x ih=>
  have ha:=h a (by simp)
  simp only [firstNZ,ha,if_true]
  exact ih (fun y hy=>h y (by simp [hy]))
theorem nrm_pos {m:List (List Int)} (hr:RedOK m) {x:List Int} (hx:x.length=m.length) (h:firstNZ x≠0):1<=nrm m x:=by
 have h0:=nrm_nonneg hr x hx
 rcases Int.lt_or_le (nrm m x) 1 with h1 |h1
 ·have e:nrm m x=0:=by omega
  rw [nrm_eq (isSmallB_all hr.small) x hx] at e
  exact absurd (firstNZ_of_zero (qE_zero hr x 0 (by omega) e)) h
 ·exact h1
theorem vecList_len {m:List (List Int)} (hr:RedOK m) {b:Int} (hb:0<=b) {e:Bool} {L:List (List Int)} (h:VecList m b e L):L.length=(collL m b e).length:=by
 have hp:L.Perm ((collL m b e).map canonL):=(List.perm_ext_iff_of_nodup h.nodup (nodup_canon hr hb e)).2 fun x=>by rw [h.mem,mem_canon hr hb]
 simpa using hp.length_eq
theorem vecList_item {m:List (List Int)} (hr:RedOK m) {b:Int} (hb:0<=b) (hb1:b<1073741824) {L:List (List Int)} (h:VecList m b false L) {k:Nat} {y:List Int} (hk:L[k]? =some y):
  y.length=m.length/\(∀a∈y,-1099511627776<=a/\a<=1099511627776)/\1<=nrm m y/\nrm m y<=b/\firstNZ y≠0/\canonL y=y/\(k=0->lessP (0,[]) (nrm m y,y)=true)/\(∀j z,k=j+1->L[j]? =some z->lessP (nrm m z,z) (nrm m y,y)=true):=by
 obtain ⟨h1,h2,h3,-⟩:=(h.mem y).1 (List.mem_of_getElem? hk)
 have hp:=nrm_pos hr h1 (by omega)
 have hs:=coord_small hr hb hb1 y h1 h3
 refine ⟨h1,fun a ha=>?_,hp,h3,by omega,canonL_pos h2,fun _=>?_,fun j z hj hz=>?_⟩
 ·exact inRangeB_iff.1 (inRange_of hs) a ha
 ·have :cmpI 0 (nrm m y)=-1:=cmpI_lt (by omega)
  simp [lessP,itemL,lexI,this]
 ·subst hj
  have hw:=List.pairwise_iff_getElem.1 h.sorted
  obtain ⟨z1,z2⟩:=List.getElem?_eq_some_iff.1 hz
  obtain ⟨y1,y2⟩:=List.getElem?_eq_some_iff.1 hk
  have :=hw j (j+1) z1 y1 (by omega)
  rw [z2,y2,cmpK_lex] at this
  unfold lessP itemL
  exact decide_eq_true this
def sumV (x:List Int) (s:Int) (y:List Int):List Int:=(List.range x.length).map fun i=>x.getD i 0+s*y.getD i 0
theorem sumV_len (x:List Int) (s:Int) (y:List Int):(sumV x s y).length=x.length:=by simp [sumV]
theorem sumV_get {x:List Int} {s:Int} {y:List Int} {i:Nat} (hi:i<x.length):(sumV x s y).getD i 0=x.getD i 0+s*y.getD i 0:=by
 simp [sumV,List.getD,hi]
def crossV (m:List (List Int)) (x y:List Int):Int:=sumR m.length fun i=>x.getD i 0*(sumR m.length fun j=>ent m i j*y.getD j 0)+y.getD i 0*(sumR m.length fun j=>ent m i j*x.getD j 0)
theorem nrm_sum {m:List (List Int)} (hn:AllLen m m.length) (x y:List Int) (s:Int) (hx:x.length=m.length) (hy:y.length=m.length):nrm m (sumV x s y)=nrm m x+s*crossV m x y+s*s*nrm m y:=by
 rw [<-ipR_nrm hn x hx,<-ipR_nrm hn y hy,<-ipR_nrm hn (sumV x s y) (by rw [sumV_len,hx])]
 unfold ipR crossV
 have h1:(sumR m.length fun i=>(sumV x s y).getD i 0*sumR m.length fun j=>ent m i j*(sumV x s y).getD j 0)=
   sumR m.length fun i=>(x.getD i 0*(sumR m.length fun j=>ent m i j*x.getD j 0))+(s*(x.getD i 0*(sumR m.length fun j=>ent m i j*y.getD j 0)+y.getD i 0*(sumR m.length fun j=>ent m i j*x.getD j 0))+s*s*(y.getD i 0*(sumR m.length fun j=>ent m i j*y.getD j 0))):=by
  refine sumR_congr fun i hi=>?_
  have h2:(sumR m.length fun j=>ent m i j*(sumV x s y).getD j 0)=(sumR m.length fun j=>ent m i j*x.getD j 0)+s*(sumR m.length fun j=>ent m i j*y.getD j 0):=by
   rw [<-sumR_mul,<-sumR_add]
   refine sumR_congr fun j hj=>?_
   rw [sumV_get (by omega)]
   grind
  rw [h2,sumV_get (by omega)]
  generalize (sumR m.length fun j=>ent m i j*x.getD j 0)=X
  generalize (sumR m.length fun j=>ent m i j*y.getD j 0)=Y
  grind
 rw [h1,sumR_add,sumR_add,sumR_mul,sumR_mul]
 omega
end Go.Proofs.YtpcgfpmiphiacaaGreat
namespace Go.Proofs.YtpcgfpmiphiacaaGreat
namespace La
/-! ## The integers' operations on forms -/
def redZ (i j:Nat) (q:Int) (f:Nat->Nat->Int):Nat->Nat->Int:=fun x y=>(f x y-(if x=i then q*f j y else 0))-(if y=i then q*(f x j-(if x=i then q*f j j else 0)) else 0)
def swZ (p:Nat) (f:Nat->Nat->Int):Nat->Nat->Int:=fun x y=>f (sg p x) (sg p y)
def snZ (i x:Nat):Int:=if x=i then-1 else 1
def ngZ (i:Nat) (f:Nat->Nat->Int):Nat->Nat->Int:=fun x y=>snZ i x*snZ i y*f x y
def sn (i x:Nat):Rat:=if x=i then-1 else 1
def ngf (i:Nat) (f:Mx):Mx:=fun x y=>sn i x*sn i y*f x y
theorem sn_sq (i x:Nat):sn i x*sn i x=1:=by unfold sn;split<;>grind
theorem elim_ngf (i:Nat) (f:Mx) (k:Nat):elim (ngf i f) k=ngf i (elim f k):=by
 funext x y
 have h:=sn_sq i k
 simp only [elim,ngf]
 rw [h,Rat.one_mul,show sn i x*sn i k*f x k*(sn i k*sn i y*f k y)=(sn i k*sn i k)*(sn i x*sn i y*(f x k*f k y)) by grind,h]
 grind
theorem S_ngf (i:Nat) (f:Mx) (l:Nat):S (ngf i f) l=ngf i (S f l):=by
 induction l with
 |zero=>rfl
 |succ l ih=>
  show elim (S (ngf i f) l) l=ngf i (elim (S f l) l)
  rw [ih,elim_ngf]
theorem ngf_diag (i:Nat) (f:Mx) (l:Nat):ngf i f l l=f l l:=by unfold ngf;rw [sn_sq,Rat.one_mul]
theorem Pos.ngf {f:Mx} {n:Nat} (h:Pos f n) (i:Nat):Pos (ngf i f) n:=fun l hl=>by
 rw [S_ngf,ngf_diag];exact h l hl
theorem Sym.ngf {f:Mx} (h:Sym f) (i:Nat):Sym (ngf i f):=fun x y=>by
 unfold La.ngf;rw [h x y,Rat.mul_comm (sn i x)]
theorem dd_ngf (i:Nat) (f:Mx) (k:Nat):dd (ngf i f) k=dd f k:=by
 induction k with
 |zero=>rfl
 |succ k ih=>
  show dd (ngf i f) k*S (ngf i f) k k k=dd f k*S f k k k
  rw [ih,S_ngf,ngf_diag]
theorem ofZ_red (i j:Nat) (q:Int) (f:Nat->Nat->Int):ofZ (redZ i j q f)=redf i j q (ofZ f):=by
 funext x y
 simp only [ofZ,redZ,redf,rop,lop]
 split<;>split<;>simp only [Rat.intCast_sub,Rat.intCast_mul,Rat.intCast_zero]<;>grind
theorem ofZ_sw (p:Nat) (f:Nat->Nat->Int):ofZ (swZ p f)=swf p (ofZ f):=rfl
theorem ofZ_ng (i:Nat) (f:Nat->Nat->Int):ofZ (ngZ i f)=ngf i (ofZ f):=by
 funext x y
 simp only [ofZ,ngZ,ngf,snZ,sn,Rat.intCast_mul]
 split<;>split<;>simp
inductive Bs (n:Nat) (f:Nat->Nat->Int):(Nat->Nat->Int)->Prop
 |refl:Bs n f f
 |red {g:Nat->Nat->Int} (i j:Nat) (q:Int):Bs n f g->j<i->i<n->Bs n f (redZ i j q g)
 |sw {g:Nat->Nat->Int} (p:Nat):Bs n f g->p+1<n->Bs n f (swZ p g)
 |ng {g:Nat->Nat->Int} (i:Nat):Bs n f g->i<n->Bs n f (ngZ i g)
theorem Bs.ok {n:Nat} {f g:Nat->Nat->Int} (h:Bs n f g) (hs:Sym (ofZ f)) (hp:Pos (ofZ f) n):Sym (ofZ g)/\Pos (ofZ g) n/\dd (ofZ g) n=dd (ofZ f) n:=by
 induction h with
 |refl=>exact ⟨hs,hp,rfl⟩
 |red i j q _ h1 h2 ih=>
  obtain ⟨a,b,c⟩:=ih
  rw [ofZ_red]
  exact ⟨a.red i j q,b.red q h1,by rw [dd_red q h1 n b.piv,c]⟩
 |@sw g p _ h1 ih=>
  obtain ⟨a,b,c⟩:=ih
  rw [ofZ_sw]
  refine ⟨a.swf p,Pos.swf a b h1,?_⟩
  have hq:=S_pos a b (i:=p+1) (l:=p) h1 (by omega)
  have :=dd_swf_gt (p:=p) (b.le (by omega:p+2<=n)).piv (by grind) (n-(p+2))
  rw [show p+2+(n-(p+2))=n by omega] at this
  rw [this,c]
 |ng i _ h1 ih=>
  obtain ⟨a,b,c⟩:=ih
  rw [ofZ_ng]
  exact ⟨a.ngf i,b.ngf i,by rw [dd_ngf,c]⟩
/-! ## Any two vectors -/
/-! ## The vectors of a form and of another one -/
def bz (n:Nat) (f:Nat->Nat->Int) (x y:Nat->Int):Int:=sumR n fun i=>x i*sumR n fun j=>f i j*y j
theorem sumR_cmul (a:Int) (n:Nat) (F:Nat->Int):(sumR n fun i=>a*F i)=a*sumR n F:=by
 induction n with
 |zero=>simp [sumR]
 |succ n ih=>rw [sumR_succ,ih,sumR_succ,Int.mul_add]
structure Bij (n:Nat) (f g:Nat->Nat->Int) (u v:(Nat->Int)->Nat->Int):Prop where
 uv:∀x,u (v x)=x
 vu:∀x,v (u x)=x
 neg:∀x,u (fun k=>-x k)=fun k=>-u x k
 off:∀x k,n<=k->u x k=x k
 bil:∀x y,bz n g x y=bz n f (u x) (u y)
theorem Bij.symm {n:Nat} {f g:Nat->Nat->Int} {u v:(Nat->Int)->Nat->Int} (h:Bij n f g u v):Bij n g f v u where
 uv:=h.vu
 vu:=h.uv
 neg:=fun x=>by
  have :=h.neg (v x)
  rw [h.uv] at this
  have h2:=congrArg v this
  rw [h.vu] at h2
  exact h2.symm
 off:=fun x k hk=>by
  have :=h.off (v x) k hk
  rw [h.uv] at this
  exact this.symm
 bil:=fun x y=>by rw [h.bil (v x) (v y),h.uv,h.uv]
theorem Bij.trans {n:Nat} {f g k:Nat->Nat->Int} {u v u' v':(Nat->Int)->Nat->Int} (h:Bij n f g u v) (h':Bij n g k u' v'):Bij n f k (fun x=>u (u' x)) (fun x=>v' (v x)) where
 uv:=fun x=>by simp only [h'.uv,h.uv]
 vu:=fun x=>by simp only [h.vu,h'.vu]
 neg:=fun x=>by simp only [h'.neg,h.neg]
 off:=fun x j hj=>by rw [h.off _ _ hj,h'.off _ _ hj]
 bil:=fun x y=>by rw [h'.bil,h.bil]
end La
end Go.Proofs.YtpcgfpmiphiacaaGreat
namespace Go.Proofs.YtpcgfpmiphiacaaGreat
open La
theorem getD_ext {x y:List Int} (hl:x.length=y.length) (h:∀k,x.getD k 0=y.getD k 0):x=y:=by
 refine List.ext_getElem hl fun k h1 h2=>?_
 have :=h k
 simpa [List.getD,h1,h2] using this
theorem getD_neg (x:List Int) (k:Nat):(x.map fun c=>-c).getD k 0=-x.getD k 0:=by
 simp only [List.getD,List.getElem?_map]
 cases x[k]? <;>simp
end Go.Proofs.YtpcgfpmiphiacaaGreat
