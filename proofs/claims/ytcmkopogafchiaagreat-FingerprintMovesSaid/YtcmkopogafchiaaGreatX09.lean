/- Lat0 Red1 Red2 Vm1 Vm2 Vm3 OwnM -/
import Derived.Test.YtcmkopogafchiaaGreatX08
import Derived.Test.YtcmkopogafchiaaGreatProg
import Derived.WideKeyArgs
import Derived.Test.YtcmkopogafchiaaGreatShelf
set_option maxHeartbeats 8000000
set_option linter.unusedVariables false
set_option linter.unusedSimpArgs false
set_option linter.constructorNameAsVariable false
namespace Go.Proofs.YtcmkopogafchiaaGreat
open Go.ChangeShapes Go.WideShapes Go.ChangeAt Go.RowKit
theorem sameAt_of {W W':World} (hb:Below W.heap.size W W') {p:MemPlace} (hp:p.block<W.heap.size):W.sameAt W' p:=by
 cases p with
 |cell b off=>
  show W'.cell? ⟨b,off,none⟩=W.cell? ⟨b,off,none⟩
  unfold World.cell?
  rw [hb.block b hp]
 |map b=>exact hb.block b hp
theorem arg_stay {H:Type} {enc:TypeId×Value->H} {W W':World} {sp:Nat->Bool} {t:TypeId} {v:Value} {d:DataW H} {p:List MemPlace} (hl:laidOutB Tryz.prog=true) (hr:Tryz.prog.readableRec t=true) (hrow:t<Tryz.prog.types.size)
  (h:DataW.Trod enc Tryz.prog W 0 (fun _=>true) true t v d p) (hb:Below W.heap.size W W') (hs:∀q∈p,sp q.block=true):DataW.Trod enc Tryz.prog W' 0 sp true t v d p:=by
 refine Go.WideElems.Trod_stays hl hr hrow h (fun q hq=>sameAt_of hb ?_) hs
 obtain ⟨n,hn⟩:=h
 exact DataW.trod_lt n _ _ _ hn q hq
end Go.Proofs.YtcmkopogafchiaaGreat
namespace Go.Proofs.YtcmkopogafchiaaGreat
open La
theorem st_E (m:List (List Int)) (k:Nat):k<=m.length->(stAt m k).1=lastE (ent m) k/\∀i j,i<m.length-k->j<m.length-k->ent (stAt m k).2 i j=E (ent m) k (k+i) (k+j):=by
 induction k with
 |zero=>intro _;exact ⟨rfl,fun i j _ _=>by simp [stAt,E]⟩
 |succ k ih=>
  intro hk
  obtain ⟨h1,h2⟩:=ih (by omega)
  refine ⟨h2 0 0 (by omega) (by omega),fun i j hi hj=>?_⟩
  show ent (nextSt (stAt m k).1 (stAt m k).2) i j=_
  unfold nextSt
  rw [stAt_length,ent_tab _ _ _ _ _ (by omega) (by omega),E_succ,h1,h2 0 0 (by omega) (by omega),h2 (i+1) (j+1) (by omega) (by omega),h2 (i+1) 0 (by omega) (by omega),h2 0 (j+1) (by omega) (by omega)]
  simp only [Nat.add_zero]
  rw [show k+(i+1)=k+1+i by omega,show k+(j+1)=k+1+j by omega]
theorem st_ent {m:List (List Int)} {k i j:Nat} (hi:k+i<m.length) (hj:k+j<m.length):ent (stAt m k).2 i j=E (ent m) k (k+i) (k+j):=(st_E m k (by omega)).2 i j (by omega) (by omega)
theorem E_pos {m:Nat->Nat->Int} {k n:Nat} (h:Pos (ofZ m) n) (hk:k<n):0<E m k k k:=by
 have h2:=(E_eq m k (h.le (by omega)).piv).1 k k
 have h3:=dd_pos k (h.le (by omega))
 have h4:=Rat.mul_pos h3 (h k hk)
 rw [<-h2] at h4
 exact Rat.intCast_pos.1 h4
theorem lastE_pos {m:Nat->Nat->Int} {k n:Nat} (h:Pos (ofZ m) n) (hk:k<=n):0<lastE m k:=by
 cases k with
 |zero=>show (0:Int)<1;omega
 |succ k=>exact E_pos h (by omega)
structure RedOK (m:List (List Int)):Prop where
 small:isSmallB m=true
 pos:Pos (ofZ (ent m)) m.length
 sinv:∀k,k<m.length->SInv (stAt m k).1 (stAt m k).2
 short:∀k,k+1<m.length->shortB (stAt m k).2=true
 lov:∀k,k+1<m.length->3*(E (ent m) k k k*E (ent m) k k k)<=4*(lastE (ent m) k*E (ent m) (k+1) (k+1) (k+1)+E (ent m) k (k+1) k*E (ent m) k (k+1) k)
 det0:0<E (ent m) (m.length-1) (m.length-1) (m.length-1)
 det1:E (ent m) (m.length-1) (m.length-1) (m.length-1)<=10000
theorem RedOK.piv {m:List (List Int)} (h:RedOK m) {k:Nat} (hk:k<m.length):0<E (ent m) k k k/\E (ent m) k k k<65536:=by
 refine ⟨E_pos h.pos hk,?_⟩
 rcases (by omega:k+1<m.length∨k=m.length-1) with h1 |h1
 ·have :=(of_decide_eq_true (h.short k h1)).2.1
  rwa [st_ent (i:=0) (j:=0) (by omega) (by omega)] at this
 ·subst h1
  have :=h.det1
  omega
theorem isSmallB_all {m:List (List Int)} (hs:isSmallB m=true):AllLen m m.length:=fun r hr=>by
 obtain ⟨i,hi,rfl⟩:=List.getElem_of_mem hr
 have :=(of_decide_eq_true hs).2.2.1 i hi
 simpa [List.getD,hi] using this
theorem minorsTo_get {m:List (List Int)} {k:Nat} (hk:k<=m.length):vD (minorsTo m m.length) k=lastE (ent m) k:=by
 unfold vD minorsTo
 cases k with
 |zero=>rfl
 |succ k=>
  have :ent (stAt m k).2 0 0=E (ent m) k k k:=st_ent (i:=0) (j:=0) (by omega) (by omega)
  simp [(by omega:k<m.length),this,lastE]
theorem lamTo_get {m:List (List Int)} {k:Nat} (hk:k<m.length):(lamTo m m.length).getD k []=lamRow m k:=by
 simp [lamTo,hk]
/-! ## The minors of a reduced form are less than 2^16 -/
def tri:Nat->Nat
 |0=>0
 |k+1=>tri k+(k+1)
/-! ## Conditions in integers -/
theorem ent_out {m:List (List Int)} {n:Nat} (hn:AllLen m n) {i j:Nat} (h:m.length<=i∨n<=j):ent m i j=0:=by
 unfold ent
 rcases Nat.lt_or_ge i m.length with hi |hi
 ·have :m[i].length=n:=hn _ (List.getElem_mem _)
  have hj:n<=j:=by omega
  have e:m.getD i []=m[i]:=by simp [List.getD,hi]
  rw [e,List.getD,List.getElem?_eq_none (by omega)];rfl
 ·have e:m.getD i []=[]:=by simp [List.getD,hi]
  rw [e];rfl
theorem sym_of {m:List (List Int)} (hn:AllLen m m.length) (hs:∀i j,i<m.length->j<m.length->ent m i j=ent m j i):Sym (ofZ (ent m)):=fun i j=>by
 show ((ent m i j:Int):Rat)=((ent m j i:Int):Rat)
 congr 1
 rcases Nat.lt_or_ge i m.length with hi |hi
 ·rcases Nat.lt_or_ge j m.length with hj |hj
  ·exact hs i j hi hj
  ·rw [ent_out hn (.inr hj),ent_out hn (.inl hj)]
 ·rw [ent_out hn (.inl hi),ent_out hn (.inr hi)]
namespace La
def sumL (g:Nat->Rat):Nat->List Int->Rat
 |_,[]=>0
 |k,c::t=>g k*c+sumL g (k+1) t
def quad (F:Mx) (k:Nat) (t:List Int):Rat:=sumL (fun i=>sumL (F i) k t) k t
theorem sumL_sub (g h:Nat->Rat) (t:List Int):∀k,sumL (fun i=>g i-h i) k t=sumL g k t-sumL h k t:=by
 induction t with
 |nil=>intro k;simp only [sumL];grind
 |cons c t ih=>intro k;simp only [sumL,ih];grind
theorem sumL_mul (a:Rat) (g:Nat->Rat) (t:List Int):∀k,sumL (fun i=>a*g i) k t=a*sumL g k t:=by
 induction t with
 |nil=>intro k;simp only [sumL];grind
 |cons c t ih=>intro k;simp only [sumL,ih];grind
theorem sumL_mulr (a:Rat) (g:Nat->Rat) (t:List Int) (k:Nat):sumL (fun i=>g i*a) k t=sumL g k t*a:=by
 rw [<-Rat.mul_comm,<-sumL_mul];congr 1;funext i;exact Rat.mul_comm _ _
theorem sumL_zero (g:Nat->Rat) (h:∀i,g i=0) (t:List Int):∀k,sumL g k t=0:=by
 induction t with
 |nil=>intro k;rfl
 |cons c t ih=>intro k;simp only [sumL,ih,h];grind
theorem sumL_congr {g h:Nat->Rat} (t:List Int):∀k,(∀i,k<=i->i<k+t.length->g i=h i)->sumL g k t=sumL h k t:=by
 induction t with
 |nil=>intro k _;rfl
 |cons c t ih=>
  intro k hk
  simp only [sumL]
  rw [hk k (Nat.le_refl _) (by simp),ih (k+1) (fun i h1 h2=>hk i (by omega) (by simp;omega))]
theorem quad_step {f:Mx} {k:Nat} (hs:Sym f) (hp:Piv f (k+1)) (c:Int) (t:List Int):
  quad (S f k) k (c::t)=quad (S f (k+1)) (k+1) t+sumL (S f k k) k (c::t)*sumL (S f k k) k (c::t) / S f k k k:=by
 have hk:=hp k (by omega)
 have h1:quad (S f (k+1)) k (c::t)=quad (S f (k+1)) (k+1) t:=by
  have e1:∀i,S f (k+1) i k=0:=fun i=>S_lt_right (k+1) hp k (by omega) i
  have e2:∀j,S f (k+1) k j=0:=fun j=>S_lt_left (k+1) hp k (by omega) j
  unfold quad
  have e3:∀i,sumL (S f (k+1) i) k (c::t)=sumL (S f (k+1) i) (k+1) t:=fun i=>by simp only [sumL,e1];grind
  simp only [e3]
  show sumL (S f (k+1) k) (k+1) t*c+_=_
  rw [sumL_zero _ e2];grind
 have h2:quad (S f (k+1)) k (c::t)=quad (S f k) k (c::t)-sumL (S f k k) k (c::t)*sumL (S f k k) k (c::t) / S f k k k:=by
  unfold quad
  have e1:∀i,sumL (S f (k+1) i) k (c::t)=sumL (S f k i) k (c::t)-S f k i k*(sumL (S f k k) k (c::t) / S f k k k):=fun i=>by
   have :S f (k+1) i=fun j=>S f k i j-(S f k i k / S f k k k)*S f k k j:=by
    funext j
    show elim (S f k) k i j=_
    simp only [elim];grind
   rw [this,sumL_sub,sumL_mul];grind
  simp only [e1]
  rw [sumL_sub,sumL_mulr]
  have e2:sumL (fun i=>S f k i k) k (c::t)=sumL (S f k k) k (c::t):=sumL_congr _ _ (fun i _ _=>S_sym hs k i k)
  rw [e2];grind
 rw [h1] at h2
 grind
/-! ## In integers -/
def sumZ (g:Nat->Int):Nat->List Int->Int
 |_,[]=>0
 |k,c::t=>g k*c+sumZ g (k+1) t
def quadZ (F:Nat->Nat->Int) (k:Nat) (t:List Int):Int:=sumZ (fun i=>sumZ (F i) k t) k t
theorem sumZ_cast (g:Nat->Int) (t:List Int):∀k,((sumZ g k t:Int):Rat)=sumL (fun i=>(g i:Rat)) k t:=by
 induction t with
 |nil=>intro k;rfl
 |cons c t ih=>intro k;simp only [sumZ,sumL,Rat.intCast_add,Rat.intCast_mul,ih]
theorem quadZ_cast (F:Nat->Nat->Int) (k:Nat) (t:List Int):((quadZ F k t:Int):Rat)=quad (fun i j=>(F i j:Rat)) k t:=by
 unfold quadZ quad
 rw [sumZ_cast]
 refine sumL_congr _ _ fun i _ _=>sumZ_cast _ _ _
def qE (m:Nat->Nat->Int) (k:Nat) (t:List Int):Int:=quadZ (E m k) k t
theorem qE_cast {m:Nat->Nat->Int} {k:Nat} (hp:Piv (ofZ m) k) (t:List Int):((qE m k t:Int):Rat)=dd (ofZ m) k*quad (S (ofZ m) k) k t:=by
 unfold qE
 rw [quadZ_cast]
 have h:=(E_eq m k hp).1
 have e:(fun i j=>((E m k i j:Int):Rat))=fun i j=>dd (ofZ m) k*S (ofZ m) k i j:=by funext i j;exact h i j
 rw [e]
 unfold quad
 have e2:∀i,sumL (fun j=>dd (ofZ m) k*S (ofZ m) k i j) k t=dd (ofZ m) k*sumL (S (ofZ m) k i) k t:=fun i=>sumL_mul _ _ _ _
 simp only [e2]
 exact sumL_mul _ _ _ _
def lE (m:Nat->Nat->Int) (k:Nat) (t:List Int):Int:=sumZ (E m k k) k t
theorem lE_cast {m:Nat->Nat->Int} {k:Nat} (hp:Piv (ofZ m) k) (t:List Int):((lE m k t:Int):Rat)=dd (ofZ m) k*sumL (S (ofZ m) k k) k t:=by
 unfold lE
 rw [sumZ_cast]
 have h:=(E_eq m k hp).1
 have e:(fun j=>((E m k k j:Int):Rat))=fun j=>dd (ofZ m) k*S (ofZ m) k k j:=by funext j;exact h k j
 rw [e]
 exact sumL_mul _ _ _ _
theorem qE_step {m:Nat->Nat->Int} {k:Nat} (hs:Sym (ofZ m)) (hp:Pos (ofZ m) (k+1)) (c:Int) (t:List Int):
  lastE m k*qE m (k+1) t+lE m k (c::t)*lE m k (c::t)=lastE m (k+1)*qE m k (c::t):=by
 apply Rat.intCast_inj.1
 have p1:Piv (ofZ m) k:=(hp.le (by omega)).piv
 rw [Rat.intCast_add,Rat.intCast_mul,Rat.intCast_mul,Rat.intCast_mul,(E_eq m k p1).2.1,(E_eq m (k+1) hp.piv).2.1,qE_cast hp.piv,qE_cast p1,lE_cast p1,quad_step hs hp.piv]
 have hd:dd (ofZ m) (k+1)=dd (ofZ m) k*S (ofZ m) k k k:=rfl
 have hk:=hp k (by omega)
 rw [hd]
 grind
def left (m:Nat->Nat->Int) (bound:Int) (k:Nat) (t:List Int):Int:=lastE m k*bound-qE m k t
theorem left_step {m:Nat->Nat->Int} {k:Nat} (hs:Sym (ofZ m)) (hp:Pos (ofZ m) (k+1)) (bound c:Int) (t:List Int):
  lastE m k*left m bound (k+1) t-lE m k (c::t)*lE m k (c::t)=lastE m (k+1)*left m bound k (c::t):=by
 have :=qE_step hs hp c t
 unfold left
 grind
end La
theorem sumZ_dot (g:Nat->Int) (t:List Int):∀(k:Nat) (l:List Int),l.length=t.length->(∀i,i<t.length->l.getD i 0=g (k+i))->dotL l t=sumZ g k t:=by
 induction t with
 |nil=>intro k l hl _;obtain rfl:=List.eq_nil_of_length_eq_zero hl;rfl
 |cons c t ih=>
  intro k l hl h
  cases l with
  |nil=>simp at hl
  |cons a l=>
   have h0:=h 0 (by simp)
   simp only [List.getD_cons_zero,Nat.add_zero] at h0
   simp only [dotL,sumZ,h0]
   rw [ih (k+1) l (by simpa using hl) (fun i hi=>?_)]
   have :=h (i+1) (by simp;omega)
   rw [show k+1+i=k+(i+1) by omega]
   simpa using this
section
variable {m:List (List Int)} {k:Nat}
theorem vSh_eq (hk:k<m.length) (t:List Int) (ht:t.length=m.length-1-k):vSh (lamTo m m.length) k t=sumZ (E (ent m) k k) (k+1) t:=by
 unfold vSh
 rw [lamTo_get hk]
 refine sumZ_dot _ t (k+1) _ (by simp [lamRow];omega) (fun i hi=>?_)
 have h1:i<m.length-k-1:=by omega
 have h2:ent (stAt m k).2 0 (i+1)=E (ent m) k k (k+(i+1)):=by
  have :=st_ent (m:=m) (k:=k) (i:=0) (j:=i+1) (by omega) (by omega)
  simpa using this
 simp only [lamRow,List.getD_eq_getElem?_getD,List.getElem?_map,List.getElem?_range h1,Option.map_some,Option.getD_some,h2]
 congr 1;omega
theorem isq_le_iff {N:Int} (hN:0<=N) (u:Int):(-((isq N.toNat:Nat):Int)<=u/\u<=((isq N.toNat:Nat):Int))↔u*u<=N:=by
 obtain ⟨h1,h2⟩:=isq_spec N.toNat
 obtain ⟨r,hr⟩:∃r,r=isq N.toNat:=⟨_,rfl⟩
 rw [<-hr] at h1 h2 |-
 have g1:(r:Int)*r<=N:=by
  have :((r*r:Nat):Int)<=N:=by omega
  simpa using this
 have g2:N<((r:Int)+1)*((r:Int)+1):=by
  have :N<(((r+1)*(r+1):Nat):Int):=by omega
  simpa using this
 constructor
 ·rintro ⟨a,b⟩
  have :=mul_abs_le (a:=u) (b:=u) (A:=r) (B:=r) (by omega) (by omega) (by omega) (by omega)
  omega
 ·intro hu
  rcases (by omega:(-(r:Int)<=u/\u<=r)∨(r:Int)+1<=u∨(r:Int)+1<=-u) with h |h |h
  ·exact h
  ·have :=Int.mul_le_mul h h (by omega) (by omega);omega
  ·have :=Int.mul_le_mul h h (by omega) (by omega)
   rw [Int.neg_mul_neg] at this
   omega
theorem inv_iff (hr:RedOK m) (hk:k<m.length) {bound:Int} (t:List Int) (ht:t.length=m.length-1-k) (h0:0<=left (ent m) bound (k+1) t) (c:Int):
  (vLo (minorsTo m m.length) (lamTo m m.length) k (left (ent m) bound (k+1) t) t<=c/\c<=vHi (minorsTo m m.length) (lamTo m m.length) k (left (ent m) bound (k+1) t) t)↔0<=left (ent m) bound k (c::t):=by
 have hsym:=sym_of (isSmallB_all hr.small) (fun i j hi hj=>((of_decide_eq_true hr.small).2.2.2 i hi j hj).1)
 have hd:=lastE_pos hr.pos (by omega:k+1<=m.length)
 have hd0:=lastE_pos hr.pos (by omega:k<=m.length)
 have hst:=left_step hsym (hr.pos.le (by omega:k+1<=m.length)) bound c t
 have hu:lE (ent m) k (c::t)=lastE (ent m) (k+1)*c+sumZ (E (ent m) k k) (k+1) t:=rfl
 have hN:0<=lastE (ent m) k*left (ent m) bound (k+1) t:=Int.mul_nonneg (by omega) h0
 have hq:=isq_le_iff hN (lE (ent m) k (c::t))
 unfold vLo vHi vR vSq
 rw [vSh_eq hk t ht,minorsTo_get (by omega),minorsTo_get (by omega)]
 obtain ⟨r,hr'⟩:∃r,r=((isq (lastE (ent m) k*left (ent m) bound (k+1) t).toNat:Nat):Int):=⟨_,rfl⟩
 rw [<-hr'] at hq |-
 obtain ⟨s,hs⟩:∃s,s=sumZ (E (ent m) k k) (k+1) t:=⟨_,rfl⟩
 rw [<-hs] at hu |-
 obtain ⟨d,hd'⟩:∃d,d=lastE (ent m) (k+1):=⟨_,rfl⟩
 rw [<-hd'] at hu hd hst |-
 obtain ⟨u,hu'⟩:∃u,u=lE (ent m) k (c::t):=⟨_,rfl⟩
 rw [<-hu'] at hu hq hst
 have e1:-((r+s) / d)<=c↔-r<=u:=by
  have h1:=Int.le_ediv_iff_mul_le (a:=-c) (b:=r+s) hd
  have h2:-c*d=-(d*c):=by rw [Int.neg_mul,Int.mul_comm]
  omega
 have e2:c<=(r-s) / d↔u<=r:=by
  have h1:=Int.le_ediv_iff_mul_le (a:=c) (b:=r-s) hd
  have h2:c*d=d*c:=Int.mul_comm _ _
  omega
 rw [e1,e2,hq]
 constructor
 ·intro h
  rcases Int.lt_or_le (left (ent m) bound k (c::t)) 0 with h6 |h6
  ·have :=Int.mul_neg_of_pos_of_neg hd h6;omega
  ·exact h6
 ·intro h
  have :=Int.mul_nonneg (Int.le_of_lt hd) h
  omega
end
theorem sumZ_zeros (g:Nat->Int) (t:List Int) (h:∀x∈t,x=0):∀k,sumZ g k t=0:=by
 induction t with
 |nil=>intro k;rfl
 |cons c t ih=>
  intro k
  have hc:=h c (by simp)
  subst hc
  simp only [sumZ,ih (fun x hx=>h x (by simp [hx]))]
  simp
theorem left_zeros {m:List (List Int)} (hr:RedOK m) {bound:Int} (hb:0<=bound) {k:Nat} (hk:k<=m.length) (t:List Int) (h:∀x∈t,x=0):0<=left (ent m) bound k t:=by
 unfold left qE quadZ
 rw [sumZ_zeros _ t h]
 have :=Int.mul_nonneg (Int.le_of_lt (lastE_pos hr.pos hk)) hb
 omega
theorem tried {m:List (List Int)} (hr:RedOK m) {bound:Int} (hb:0<=bound) {k:Nat} (zero:Bool) (t:List Int) (hk:k<m.length) (ht:t.length=m.length-1-k) (h0:0<=left (ent m) bound (k+1) t) (hz:zero=true->∀x∈t,x=0) (c:Int):
  (∃j:Nat,j<sCnt (minorsTo m m.length) (lamTo m m.length) k (left (ent m) bound (k+1) t) zero t/\sLo (minorsTo m m.length) (lamTo m m.length) k (left (ent m) bound (k+1) t) zero t+(j:Int)=c)↔(0<=left (ent m) bound k (c::t)/\(zero=true->0<=c)):=by
 rw [<-inv_iff hr hk t ht h0 c]
 unfold sCnt sLo
 cases zero with
 |false=>
  simp only [Bool.false_eq_true,if_false,false_implies,and_true]
  constructor
  ·rintro ⟨j,h1,rfl⟩;omega
  ·rintro ⟨h1,h2⟩
   exact ⟨(c-vLo (minorsTo m m.length) (lamTo m m.length) k (left (ent m) bound (k+1) t) t).toNat,by omega,by omega⟩
 |true=>
  have hz0:=(inv_iff hr hk t ht h0 0).2 (left_zeros hr hb (by omega) (0::t) (fun x hx=>by
   rcases List.mem_cons.1 hx with rfl |hx
   ·rfl
   ·exact hz rfl x hx))
  simp only [if_true,true_implies]
  constructor
  ·rintro ⟨j,h1,rfl⟩;omega
  ·rintro ⟨⟨h1,h2⟩,h3⟩
   exact ⟨c.toNat,by omega,by omega⟩
theorem dotL_comm:∀l m:List Int,dotL l m=dotL m l
 |[],[]=>rfl
 |[],_::_=>rfl
 |_::_,[]=>rfl
 |a::l,b::m=>by simp only [dotL];rw [dotL_comm l m,Int.mul_comm]
/-! ## Levels -/
end Go.Proofs.YtcmkopogafchiaaGreat
namespace Go.Proofs.YtcmkopogafchiaaGreat
open Go.RowKit
def RowI (w:World) (b:Nat) (zs:List Int):Prop:=∃cs:List Value,VRow w b 99 cs/\zs.length*2<=cs.length/\VsOf w cs zs
section
variable {w w':World} {b:Nat} {zs:List Int}
theorem VsOf.map {vs:List Value} (h:VsOf w vs zs) (hk:∀{g:Bool} {B:Option Addr} {n c:Nat} {z:Int},IntV w g B n c z->IntV w' g B n c z):VsOf w' vs zs:=fun i z hz=>by
 obtain ⟨g,B,n,c,a1,a2,a3⟩:=h i z hz
 exact ⟨g,B,n,c,a1,a2,hk a3⟩
theorem RowI.heap (h:RowI w b zs):∃cs,w.heap[b]? =some (.cells cs 99 (0,0)):=by
 obtain ⟨cs,h1,_⟩:=h
 exact ⟨_,h1⟩
theorem RowI.lt (h:RowI w b zs):b<w.heap.size:=by
 obtain ⟨cs,h1⟩:=h.heap
 exact lt_of_heap h1
theorem RowI.cells (h:RowI w b zs) {j:Nat} {z:Int} (hz:zs[j]? =some z):∃g B n c,w.cell? ⟨b,j*2,none⟩=some (.bool g)/\w.cell? ⟨b,j*2+1,none⟩=some (.slice B n c)/\IntV w g B n c z/\w.frozen? ⟨b,j*2,none⟩=false/\w.frozen? ⟨b,j*2+1,none⟩=false:=by
 obtain ⟨cs,h1,h2,h3⟩:=h
 obtain ⟨g,B,n,c,a1,a2,a3⟩:=h3 j z hz
 exact ⟨g,B,n,c,h1.cell a1,h1.cell a2,a3,h1.frozen _,h1.frozen _⟩
end
def headV (n:Nat) (h:Nat×Nat):Value:= .slice (some ⟨h.1,0,none⟩) n h.2
section
variable {w w':World} {lo g n:Nat} {hs:List (Nat×Nat)} {a:List (List Int)}
end
end Go.Proofs.YtcmkopogafchiaaGreat
