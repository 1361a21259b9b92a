/- Vm1 Vm2 Vm3 Vm4 Vm5 OwnM Ref1 -/
import Derived.Test.YtpcgfpmiphiacaaGreatQ09
import Derived.Test.YtpcgfpmiphiacaaGreatProg
import Derived.Test.YtpcgfpmiphiacaaGreatShelf
set_option maxHeartbeats 8000000
set_option linter.unusedVariables false
set_option linter.unusedSimpArgs false
set_option linter.constructorNameAsVariable false
namespace Go.Proofs.YtpcgfpmiphiacaaGreat
open La
namespace La
def sumL (g:Nat->Rat):Nat->List Int->Rat
 |_,[]=>0
 |k,c::t=>g k*c+sumL g (k+1) t
def quad (F:Mx) (k:Nat) (t:List Int):Rat:=sumL (fun i=>sumL (F i) k t) k t
theorem sumL_sub (g h:Nat->Rat) (t:List Int):∀k,sumL (fun i=>g i-h i) k t=sumL g k t-sumL h k t:=by
 induction t with
 |nil=>intro k;simp only [sumL];grind
 |cons c t ih=>intro k;simp only [sumL,ih];grind
theorem sumL_mul (a:Rat) (g:Nat->Rat) (t:List Int):∀k,sumL (fun i=>a*g i) k t=a*sumL g k t:=by
 induction t with
 |nil=>intro k;simp only [sumL];grind
 |cons c t ih=>intro k;simp only [sumL,ih];grind
theorem sumL_mulr (a:Rat) (g:Nat->Rat) (t:List Int) (k:Nat):sumL (fun i=>g i*a) k t=sumL g k t*a:=by
 rw [<-Rat.mul_comm,<-sumL_mul];congr 1;funext i;exact Rat.mul_comm _ _
theorem sumL_zero (g:Nat->Rat) (h:∀i,g i=0) (t:List Int):∀k,sumL g k t=0:=by
 induction t with
 |nil=>intro k;rfl
 |cons c t ih=>intro k;simp only [sumL,ih,h];grind
theorem sumL_congr {g h:Nat->Rat} (t:List Int):∀k,(∀i,k<=i->i<k+t.length->g i=h i)->sumL g k t=sumL h k t:=by
 induction t with
 |nil=>intro k _;rfl
 |cons c t ih=>
  intro k hk
  simp only [sumL]
  rw [hk k (Nat.le_refl _) (by simp),ih (k+1) (fun i h1 h2=>hk i (by omega) (by simp;omega))]
theorem quad_step {f:Mx} {k:Nat} (hs:Sym f) (hp:Piv f (k+1)) (c:Int) (t:List Int):
  quad (S f k) k (c::t)=quad (S f (k+1)) (k+1) t+sumL (S f k k) k (c::t)*sumL (S f k k) k (c::t) / S f k k k:=by
 have hk:=hp k (by omega)
 have h1:quad (S f (k+1)) k (c::t)=quad (S f (k+1)) (k+1) t:=by
  have e1:∀i,S f (k+1) i k=0:=fun i=>S_lt_right (k+1) hp k (by omega) i
  have e2:∀j,S f (k+1) k j=0:=fun j=>S_lt_left (k+1) hp k (by omega) j
  unfold quad
  have e3:∀i,sumL (S f (k+1) i) k (c::t)=sumL (S f (k+1) i) (k+1) t:=fun i=>by simp only [sumL,e1];grind
  simp only [e3]
  show sumL (S f (k+1) k) (k+1) t*c+_=_
  rw [sumL_zero _ e2];grind
 have h2:quad (S f (k+1)) k (c::t)=quad (S f k) k (c::t)-sumL (S f k k) k (c::t)*sumL (S f k k) k (c::t) / S f k k k:=by
  unfold quad
  have e1:∀i,sumL (S f (k+1) i) k (c::t)=sumL (S f k i) k (c::t)-S f k i k*(sumL (S f k k) k (c::t) / S f k k k):=fun i=>by
   have :S f (k+1) i=fun j=>S f k i j-(S f k i k / S f k k k)*S f k k j:=by
    funext j
    show elim (S f k) k i j=_
    simp only [elim];grind
   rw [this,sumL_sub,sumL_mul];grind
  simp only [e1]
  rw [sumL_sub,sumL_mulr]
  have e2:sumL (fun i=>S f k i k) k (c::t)=sumL (S f k k) k (c::t):=sumL_congr _ _ (fun i _ _=>S_sym hs k i k)
  rw [e2];grind
 rw [h1] at h2
 grind
/-! ## In integers -/
def sumZ (g:Nat->Int):Nat->List Int->Int
 |_,[]=>0
 |k,c::t=>g k*c+sumZ g (k+1) t
def quadZ (F:Nat->Nat->Int) (k:Nat) (t:List Int):Int:=sumZ (fun i=>sumZ (F i) k t) k t
theorem sumZ_cast (g:Nat->Int) (t:List Int):∀k,((sumZ g k t:Int):Rat)=sumL (fun i=>(g i:Rat)) k t:=by
 induction t with
 |nil=>intro k;rfl
 |cons c t ih=>intro k;simp only [sumZ,sumL,Rat.intCast_add,Rat.intCast_mul,ih]
theorem quadZ_cast (F:Nat->Nat->Int) (k:Nat) (t:List Int):((quadZ F k t:Int):Rat)=quad (fun i j=>(F i j:Rat)) k t:=by
 unfold quadZ quad
 rw [sumZ_cast]
 refine sumL_congr _ _ fun i _ _=>sumZ_cast _ _ _
def qE (m:Nat->Nat->Int) (k:Nat) (t:List Int):Int:=quadZ (E m k) k t
theorem qE_cast {m:Nat->Nat->Int} {k:Nat} (hp:Piv (ofZ m) k) (t:List Int):((qE m k t:Int):Rat)=dd (ofZ m) k*quad (S (ofZ m) k) k t:=by
 unfold qE
 rw [quadZ_cast]
 have h:=(E_eq m k hp).1
 have e:(fun i j=>((E m k i j:Int):Rat))=fun i j=>dd (ofZ m) k*S (ofZ m) k i j:=by funext i j;exact h i j
 rw [e]
 unfold quad
 have e2:∀i,sumL (fun j=>dd (ofZ m) k*S (ofZ m) k i j) k t=dd (ofZ m) k*sumL (S (ofZ m) k i) k t:=fun i=>sumL_mul _ _ _ _
 simp only [e2]
 exact sumL_mul _ _ _ _
def lE (m:Nat->Nat->Int) (k:Nat) (t:List Int):Int:=sumZ (E m k k) k t
theorem lE_cast {m:Nat->Nat->Int} {k:Nat} (hp:Piv (ofZ m) k) (t:List Int):((lE m k t:Int):Rat)=dd (ofZ m) k*sumL (S (ofZ m) k k) k t:=by
 unfold lE
 rw [sumZ_cast]
 have h:=(E_eq m k hp).1
 have e:(fun j=>((E m k k j:Int):Rat))=fun j=>dd (ofZ m) k*S (ofZ m) k k j:=by funext j;exact h k j
 rw [e]
 exact sumL_mul _ _ _ _
theorem qE_step {m:Nat->Nat->Int} {k:Nat} (hs:Sym (ofZ m)) (hp:Pos (ofZ m) (k+1)) (c:Int) (t:List Int):
  lastE m k*qE m (k+1) t+lE m k (c::t)*lE m k (c::t)=lastE m (k+1)*qE m k (c::t):=by
 apply Rat.intCast_inj.1
 have p1:Piv (ofZ m) k:=(hp.le (by omega)).piv
 rw [Rat.intCast_add,Rat.intCast_mul,Rat.intCast_mul,Rat.intCast_mul,(E_eq m k p1).2.1,(E_eq m (k+1) hp.piv).2.1,qE_cast hp.piv,qE_cast p1,lE_cast p1,quad_step hs hp.piv]
 have hd:dd (ofZ m) (k+1)=dd (ofZ m) k*S (ofZ m) k k k:=rfl
 have hk:=hp k (by omega)
 rw [hd]
 grind
theorem sq_nonnegZ (a:Int):0<=a*a:=by
 rcases Int.le_total 0 a with h |h
 ·exact Int.mul_nonneg h h
 ·exact Int.mul_nonneg_of_nonpos_of_nonpos h h
def left (m:Nat->Nat->Int) (bound:Int) (k:Nat) (t:List Int):Int:=lastE m k*bound-qE m k t
theorem left_step {m:Nat->Nat->Int} {k:Nat} (hs:Sym (ofZ m)) (hp:Pos (ofZ m) (k+1)) (bound c:Int) (t:List Int):
  lastE m k*left m bound (k+1) t-lE m k (c::t)*lE m k (c::t)=lastE m (k+1)*left m bound k (c::t):=by
 have :=qE_step hs hp c t
 unfold left
 grind
theorem left_le {m:Nat->Nat->Int} {k:Nat} (hs:Sym (ofZ m)) (hp:Pos (ofZ m) (k+1)) (bound c:Int) (t:List Int) (h:0<=left m bound k (c::t)):0<=left m bound (k+1) t:=by
 have h1:=left_step hs hp bound c t
 have h2:=lastE_pos hp (by omega:k+1<=k+1)
 have h3:=lastE_pos hp (by omega:k<=k+1)
 have h4:=Int.mul_nonneg (Int.le_of_lt h2) h
 have h5:=sq_nonnegZ (lE m k (c::t))
 rcases Int.lt_or_le (left m bound (k+1) t) 0 with h6 |h6
 ·have :=Int.mul_neg_of_pos_of_neg h3 h6;omega
 ·exact h6
theorem left_top {m:Nat->Nat->Int} (bound:Int) (n:Nat):left m bound n []=lastE m n*bound:=by
 unfold left qE quadZ sumZ;omega
end La
theorem sumZ_dot (g:Nat->Int) (t:List Int):∀(k:Nat) (l:List Int),l.length=t.length->(∀i,i<t.length->l.getD i 0=g (k+i))->dotL l t=sumZ g k t:=by
 induction t with
 |nil=>intro k l hl _;obtain rfl:=List.eq_nil_of_length_eq_zero hl;rfl
 |cons c t ih=>
  intro k l hl h
  cases l with
  |nil=>grind
  |cons a l=>
   have h0:=h 0 (by simp)
   simp only [List.getD_cons_zero,Nat.add_zero] at h0
   simp only [dotL,sumZ,h0]
   rw [ih (k+1) l (by grind) (fun i hi=>?_)]
   have :=h (i+1) (by grind)
   grind
section
variable {m:List (List Int)} {k:Nat}
theorem vSh_eq (hk:k<m.length) (t:List Int) (ht:t.length=m.length-1-k):vSh (lamTo m m.length) k t=sumZ (E (ent m) k k) (k+1) t:=by
 unfold vSh
 rw [lamTo_get hk]
 refine sumZ_dot _ t (k+1) _ (by simp [lamRow];omega) (fun i hi=>?_)
 have h1:i<m.length-k-1:=by omega
 have h2:ent (stAt m k).2 0 (i+1)=E (ent m) k k (k+(i+1)):=by
  have :=st_ent (m:=m) (k:=k) (i:=0) (j:=i+1) (by omega) (by omega)
  grind
 simp only [lamRow]
 grind
theorem vU_eq (hk:k<m.length) (t:List Int) (ht:t.length=m.length-1-k) (c:Int):vU (minorsTo m m.length) (lamTo m m.length) k t c=lE (ent m) k (c::t):=by
 unfold vU lE
 rw [vSh_eq hk t ht,minorsTo_get (by omega)]
 rfl
theorem vRest_eq (hr:RedOK m) (hk:k<m.length) (bound:Int) (t:List Int) (ht:t.length=m.length-1-k) (c:Int):vRest (minorsTo m m.length) (lamTo m m.length) k (left (ent m) bound (k+1) t) t c=left (ent m) bound k (c::t):=by
 have hsym:=sym_of (isSmallB_all hr.small) (fun i j hi hj=>((of_decide_eq_true hr.small).2.2.2 i hi j hj).1)
 unfold vRest vSq
 rw [vU_eq hk t ht,minorsTo_get (by omega),minorsTo_get (by omega),left_step hsym (hr.pos.le (by omega))]
 have :=lastE_pos hr.pos (by omega:k+1<=m.length)
 exact Int.mul_ediv_cancel_left _ (by omega)
theorem isq_le_iff {N:Int} (hN:0<=N) (u:Int):(-((isq N.toNat:Nat):Int)<=u/\u<=((isq N.toNat:Nat):Int))↔u*u<=N:=by
 obtain ⟨h1,h2⟩:=isq_spec N.toNat
 obtain ⟨r,hr⟩:∃r,r=isq N.toNat:=⟨_,rfl⟩
 rw [<-hr] at h1 h2 |-
 have g2:N<((r:Int)+1)*((r:Int)+1):=by grind
 constructor
 ·rintro ⟨a,b⟩
  have :=mul_abs_le (a:=u) (b:=u) (A:=r) (B:=r) (by omega) (by omega) (by omega) (by omega)
  omega
 ·intro hu
  rcases (by omega:(-(r:Int)<=u/\u<=r)∨(r:Int)+1<=u∨(r:Int)+1<=-u) with h |h |h
  ·exact h
  ·have :=Int.mul_le_mul h h (by omega) (by omega);omega
  ·have :=Int.mul_le_mul h h (by omega) (by omega)
   grind
theorem inv_iff (hr:RedOK m) (hk:k<m.length) {bound:Int} (t:List Int) (ht:t.length=m.length-1-k) (h0:0<=left (ent m) bound (k+1) t) (c:Int):
  (vLo (minorsTo m m.length) (lamTo m m.length) k (left (ent m) bound (k+1) t) t<=c/\c<=vHi (minorsTo m m.length) (lamTo m m.length) k (left (ent m) bound (k+1) t) t)↔0<=left (ent m) bound k (c::t):=by
 have hsym:=sym_of (isSmallB_all hr.small) (fun i j hi hj=>((of_decide_eq_true hr.small).2.2.2 i hi j hj).1)
 have hd:=lastE_pos hr.pos (by omega:k+1<=m.length)
 have hd0:=lastE_pos hr.pos (by omega:k<=m.length)
 have hst:=left_step hsym (hr.pos.le (by omega:k+1<=m.length)) bound c t
 have hu:lE (ent m) k (c::t)=lastE (ent m) (k+1)*c+sumZ (E (ent m) k k) (k+1) t:=rfl
 have hN:0<=lastE (ent m) k*left (ent m) bound (k+1) t:=Int.mul_nonneg (by omega) h0
 have hq:=isq_le_iff hN (lE (ent m) k (c::t))
 unfold vLo vHi vR vSq
 rw [vSh_eq hk t ht,minorsTo_get (by omega),minorsTo_get (by omega)]
 obtain ⟨r,hr'⟩:∃r,r=((isq (lastE (ent m) k*left (ent m) bound (k+1) t).toNat:Nat):Int):=⟨_,rfl⟩
 rw [<-hr'] at hq |-
 obtain ⟨s,hs⟩:∃s,s=sumZ (E (ent m) k k) (k+1) t:=⟨_,rfl⟩
 rw [<-hs] at hu |-
 obtain ⟨d,hd'⟩:∃d,d=lastE (ent m) (k+1):=⟨_,rfl⟩
 rw [<-hd'] at hu hd hst |-
 obtain ⟨u,hu'⟩:∃u,u=lE (ent m) k (c::t):=⟨_,rfl⟩
 rw [<-hu'] at hu hq hst
 have e1:-((r+s) / d)<=c↔-r<=u:=by
  have h1:=Int.le_ediv_iff_mul_le (a:=-c) (b:=r+s) hd
  grind
 have e2:c<=(r-s) / d↔u<=r:=by
  have h1:=Int.le_ediv_iff_mul_le (a:=c) (b:=r-s) hd
  grind
 rw [e1,e2,hq]
 constructor
 ·intro h
  rcases Int.lt_or_le (left (ent m) bound k (c::t)) 0 with h6 |h6
  ·have :=Int.mul_neg_of_pos_of_neg hd h6;omega
  grind
 ·intro h
  have :=Int.mul_nonneg (Int.le_of_lt hd) h
  omega
end
def LastPos:List Int->Prop
 |[]=>False
 |c::t=>LastPos t∨((∀x∈t,x=0)/\0<c)
theorem lastPos_snoc (p:List Int) (c:Int):LastPos (p++[c])↔0<c∨(c=0/\LastPos p):=by
 induction p with
 |nil=>simp [LastPos]
 |cons a p ih=>
  simp only [List.cons_append,LastPos,ih]
  constructor
  ·rintro ((h |⟨h1,h2⟩) |⟨h1,h2⟩)
   ·grind
   ·grind
   simp_all
  grind
theorem left_suffix {m:List (List Int)} (hr:RedOK m) (bound:Int) (p:List Int):∀(k:Nat) (t:List Int),k+p.length<=m.length->0<=left (ent m) bound k (p++t)->0<=left (ent m) bound (k+p.length) t:=by
 have hsym:=sym_of (isSmallB_all hr.small) (fun i j hi hj=>((of_decide_eq_true hr.small).2.2.2 i hi j hj).1)
 induction p with
 |nil=>grind
 |cons c p ih=>
  intro k t hk h
  have h1:=left_le hsym (hr.pos.le (by grind:k+1<=m.length)) bound c (p++t) h
  grind
theorem snoc_split {α:Type} {p:List α} {k:Nat} (h:p.length=k+1):∃q c,p=q++[c]/\q.length=k:=by
 refine ⟨p.dropLast,p.getLast (by grind),(List.dropLast_concat_getLast _).symm,by grind⟩
theorem sumZ_zeros (g:Nat->Int) (t:List Int) (h:∀x∈t,x=0):∀k,sumZ g k t=0:=by
 induction t with
 |nil=>intro k;rfl
 |cons c t ih=>
  intro k
  have hc:=h c (by simp)
  subst hc
  simp only [sumZ,ih (fun x hx=>h x (by grind))]
  simp
theorem left_zeros {m:List (List Int)} (hr:RedOK m) {bound:Int} (hb:0<=bound) {k:Nat} (hk:k<=m.length) (t:List Int) (h:∀x∈t,x=0):0<=left (ent m) bound k t:=by
 unfold left qE quadZ
 rw [sumZ_zeros _ t h]
 have :=Int.mul_nonneg (Int.le_of_lt (lastE_pos hr.pos hk)) hb
 omega
theorem tried {m:List (List Int)} (hr:RedOK m) {bound:Int} (hb:0<=bound) {k:Nat} (zero:Bool) (t:List Int) (hk:k<m.length) (ht:t.length=m.length-1-k) (h0:0<=left (ent m) bound (k+1) t) (hz:zero=true->∀x∈t,x=0) (c:Int):
  (∃j:Nat,j<sCnt (minorsTo m m.length) (lamTo m m.length) k (left (ent m) bound (k+1) t) zero t/\sLo (minorsTo m m.length) (lamTo m m.length) k (left (ent m) bound (k+1) t) zero t+(j:Int)=c)↔(0<=left (ent m) bound k (c::t)/\(zero=true->0<=c)):=by
 rw [<-inv_iff hr hk t ht h0 c]
 unfold sCnt sLo
 cases zero with
 |false=>
  simp only [Bool.false_eq_true,if_false]
  constructor
  ·grind
  ·rintro ⟨h1,h2⟩
   exact ⟨(c-vLo (minorsTo m m.length) (lamTo m m.length) k (left (ent m) bound (k+1) t) t).toNat,by omega,by omega⟩
 |true=>
  have hz0:=(inv_iff hr hk t ht h0 0).2 (left_zeros hr hb (by omega) (0::t) (fun x hx=>by grind))
  simp only [if_true,true_implies]
  constructor
  ·grind
  ·rintro ⟨⟨h1,h2⟩,h3⟩
   exact ⟨c.toNat,by omega,by omega⟩
theorem mem_search {m:List (List Int)} (hr:RedOK m) {bound:Int} (hb:0<=bound) (exact:Bool) (x:List Int) (k:Nat):∀(zero:Bool) (t:List Int),k<m.length->t.length=m.length-1-k->0<=left (ent m) bound (k+1) t->(zero=true->∀x∈t,x=0)->
  (x∈searchL (minorsTo m m.length) (lamTo m m.length) exact k (left (ent m) bound (k+1) t) zero t↔
   ∃p:List Int,x=p++t/\p.length=k+1/\0<=left (ent m) bound 0 x/\(exact=true->left (ent m) bound 0 x=0)/\(zero=true->LastPos p)):=by
 induction k with
 |zero=>
  intro zero t hk ht h0 hz
  simp only [searchL,List.mem_flatMap,List.mem_range]
  constructor
  ·rintro ⟨j,hj,hx⟩
   obtain ⟨c,hc⟩:∃c,sLo (minorsTo m m.length) (lamTo m m.length) 0 (left (ent m) bound (0+1) t) zero t+(j:Int)=c:=⟨_,rfl⟩
   obtain ⟨g1,g2⟩:=(tried hr hb zero t hk ht h0 hz c).1 ⟨j,hj,hc⟩
   rw [hc,vRest_eq hr hk bound t ht] at hx
   split at hx
   ·rename_i htk
    obtain rfl:x=c::t:=by simpa using hx
    refine ⟨[c],rfl,rfl,g1,fun he=>?_,fun hzz=>?_⟩
    ·simp only [takes,he,Bool.true_and,Bool.not_not,Bool.and_eq_true,decide_eq_true_eq] at htk
     exact htk.2
    ·have :=g2 hzz
     simp only [takes,hzz,Bool.true_and,Bool.and_eq_true,Bool.not_eq_true',decide_eq_false_iff_not] at htk
     refine .inr ⟨by simp,by omega⟩
   ·simp at hx
  ·rintro ⟨p,rfl,hp,g1,g2,g3⟩
   obtain ⟨q,c,rfl,hq⟩:=snoc_split hp
   obtain rfl:=List.eq_nil_of_length_eq_zero hq
   simp only [List.nil_append,List.cons_append] at g1 g2 g3 |-
   have hc0:zero=true->0<c:=fun hzz=>by
    rcases g3 hzz with h |⟨_,h⟩
    ·exact absurd h (by simp [LastPos])
    ·exact h
   obtain ⟨j,hj,hc⟩:=(tried hr hb zero t hk ht h0 hz c).2 ⟨g1,fun hzz=>by have :=hc0 hzz;omega⟩
   refine ⟨j,hj,?_⟩
   rw [hc,vRest_eq hr hk bound t ht,if_pos]
   ·simp
   ·simp only [takes,Bool.and_eq_true,Bool.not_eq_true',Bool.and_eq_false_iff,decide_eq_false_iff_not,Bool.not_eq_false',decide_eq_true_eq]
    constructor
    ·cases zero with
     |false=>exact .inl rfl
     |true=>have :=hc0 rfl;exact .inr (by omega)
    ·cases exact with
     |false=>exact .inl rfl
     |true=>exact .inr (g2 rfl)
 |succ k ih=>
  intro zero t hk ht h0 hz
  simp only [searchL,List.mem_flatMap,List.mem_range]
  constructor
  ·rintro ⟨j,hj,hx⟩
   obtain ⟨c,hc⟩:∃c,sLo (minorsTo m m.length) (lamTo m m.length) (k+1) (left (ent m) bound (k+1+1) t) zero t+(j:Int)=c:=⟨_,rfl⟩
   obtain ⟨g1,g2⟩:=(tried hr hb zero t hk ht h0 hz c).1 ⟨j,hj,hc⟩
   rw [hc,vRest_eq hr hk bound t ht] at hx
   obtain ⟨p,rfl,hp,a1,a2,a3⟩:=(ih (zero&&decide (c=0)) (c::t) (by omega) (by simp [ht];omega) g1 (fun hh=>by
    simp only [Bool.and_eq_true,decide_eq_true_eq] at hh
    intro y hy
    rcases List.mem_cons.1 hy with rfl |hy
    ·exact hh.2
    ·exact hz hh.1 y hy)).1 hx
   refine ⟨p++[c],by simp,by simp [hp],a1,a2,fun hzz=>?_⟩
   rw [lastPos_snoc]
   have :=g2 hzz
   rcases (by omega:0<c∨c=0) with h |h
   ·exact .inl h
   ·exact .inr ⟨h,a3 (by simp [hzz,h])⟩
  ·rintro ⟨p,rfl,hp,g1,g2,g3⟩
   obtain ⟨q,c,rfl,hq⟩:=snoc_split hp
   have e:q++[c]++t=q++c::t:=by simp
   have hs:=left_suffix hr bound q 0 (c::t) (by omega) (by rw [<-e];exact g1)
   rw [Nat.zero_add,hq] at hs
   have hc0:zero=true->0<c∨(c=0/\LastPos q):=fun hzz=>(lastPos_snoc q c).1 (g3 hzz)
   obtain ⟨j,hj,hc⟩:=(tried hr hb zero t hk ht h0 hz c).2 ⟨hs,fun hzz=>by rcases hc0 hzz with h |h<;>omega⟩
   refine ⟨j,hj,?_⟩
   rw [hc,vRest_eq hr hk bound t ht]
   refine (ih (zero&&decide (c=0)) (c::t) (by omega) (by simp [ht];omega) hs (fun hh=>?_)).2 ⟨q,e,hq,g1,g2,fun hh=>?_⟩
   ·simp only [Bool.and_eq_true,decide_eq_true_eq] at hh
    intro y hy
    rcases List.mem_cons.1 hy with rfl |hy
    ·exact hh.2
    ·exact hz hh.1 y hy
   ·simp only [Bool.and_eq_true,decide_eq_true_eq] at hh
    rcases hc0 hh.1 with h |h
    ·omega
    ·exact h.2
theorem nodup_search {m:List (List Int)} (hr:RedOK m) {bound:Int} (hb:0<=bound) (exact:Bool) (k:Nat):∀(zero:Bool) (t:List Int),k<m.length->t.length=m.length-1-k->0<=left (ent m) bound (k+1) t->(zero=true->∀x∈t,x=0)->
  (searchL (minorsTo m m.length) (lamTo m m.length) exact k (left (ent m) bound (k+1) t) zero t).Nodup:=by
 induction k with
 |zero=>
  intro zero t hk ht h0 hz
  simp only [searchL]
  unfold List.Nodup
  rw [List.pairwise_flatMap]
  refine ⟨fun j _=>by split<;>simp,?_⟩
  refine List.Pairwise.imp_of_mem ?_ List.nodup_range
  grind
 |succ k ih=>
  intro zero t hk ht h0 hz
  simp only [searchL]
  unfold List.Nodup
  rw [List.pairwise_flatMap]
  have hsub:∀(j:Nat),j<sCnt (minorsTo m m.length) (lamTo m m.length) (k+1) (left (ent m) bound (k+1+1) t) zero t->∀c,sLo (minorsTo m m.length) (lamTo m m.length) (k+1) (left (ent m) bound (k+1+1) t) zero t+(j:Int)=c->0<=left (ent m) bound (k+1) (c::t)/\((zero&&decide (c=0))=true->∀x∈c::t,x=0):=by
   intro j hj c hc
   obtain ⟨g1,g2⟩:=(tried hr hb zero t hk ht h0 hz c).1 ⟨j,hj,hc⟩
   grind
  refine ⟨fun j hj=>?_,?_⟩
  ·obtain ⟨c,hc⟩:∃c,sLo (minorsTo m m.length) (lamTo m m.length) (k+1) (left (ent m) bound (k+1+1) t) zero t+(j:Int)=c:=⟨_,rfl⟩
   obtain ⟨g1,g2⟩:=hsub j (by simpa using hj) c hc
   rw [hc,vRest_eq hr hk bound t ht]
   exact ih _ (c::t) (by omega) (by simp [ht];omega) g1 g2
  ·refine List.Pairwise.imp_of_mem ?_ List.nodup_range
   intro a b ha hb' hab x hx y hy
   obtain ⟨c,hc⟩:∃c,sLo (minorsTo m m.length) (lamTo m m.length) (k+1) (left (ent m) bound (k+1+1) t) zero t+(a:Int)=c:=⟨_,rfl⟩
   obtain ⟨d,hd⟩:∃d,sLo (minorsTo m m.length) (lamTo m m.length) (k+1) (left (ent m) bound (k+1+1) t) zero t+(b:Int)=d:=⟨_,rfl⟩
   obtain ⟨g1,g2⟩:=hsub a (by simpa using ha) c hc
   obtain ⟨g3,g4⟩:=hsub b (by simpa using hb') d hd
   rw [hc,vRest_eq hr hk bound t ht] at hx
   rw [hd,vRest_eq hr hk bound t ht] at hy
   obtain ⟨p,rfl,hp,_⟩:=(mem_search hr hb exact x k _ (c::t) (by omega) (by simp [ht];omega) g1 g2).1 hx
   obtain ⟨q,hyq,hq,_⟩:=(mem_search hr hb exact y k _ (d::t) (by omega) (by simp [ht];omega) g3 g4).1 hy
   intro e
   rw [hyq] at e
   have :=List.append_inj_right e (by omega)
   injection this with e1
   omega
theorem dotL_comm:∀l m:List Int,dotL l m=dotL m l
 |[],[]=>rfl
 |[],_::_=>rfl
 |_::_,[]=>rfl
 |a::l,b::m=>by simp only [dotL];rw [dotL_comm l m,Int.mul_comm]
theorem row_ent {m:List (List Int)} {n i:Nat} (hn:AllLen m n) (hi:i<m.length) (x:List Int) (hx:x.length=n):dotL (m.getD i []) x=sumZ (ent m i) 0 x:=by
 have hl:(m.getD i []).length=n:=by
  have :m[i].length=n:=hn _ (List.getElem_mem _)
  grind
 exact sumZ_dot _ x 0 _ (by omega) (fun j _=>by simp [ent])
theorem nrm_eq {m:List (List Int)} (hn:AllLen m m.length) (x:List Int) (hx:x.length=m.length):nrm m x=qE (ent m) 0 x:=by
 unfold nrm qE quadZ
 rw [dotL_comm]
 refine sumZ_dot _ x 0 _ (by simp [applyL,hx]) (fun i hi=>?_)
 have hi':i<m.length:=by omega
 have :(applyL m x).getD i 0=dotL (m.getD i []) x:=by simp [applyL,hi']
 rw [this,row_ent hn hi' x hx,Nat.zero_add]
 rfl
theorem left_nrm {m:List (List Int)} (hn:AllLen m m.length) (bound:Int) (x:List Int) (hx:x.length=m.length):left (ent m) bound 0 x=bound-nrm m x:=by
 rw [nrm_eq hn x hx]
 show 1*bound-_=_
 omega
theorem mem_mult {h bound:Int} (h1:1<=h) (hb:0<=bound) (exact:Bool) (x:List Int):x∈multL h bound exact (isq (bound / h).toNat)↔∃c:Int,x=[c]/\1<=c/\h*c*c<=bound/\(exact=true->h*c*c=bound):=by
 obtain ⟨h2,h3⟩:=isq_bounds h1 hb
 obtain ⟨r,hr⟩:∃r,r=isq (bound / h).toNat:=⟨_,rfl⟩
 rw [<-hr] at h2 h3 |-
 simp only [multL,List.mem_map,List.mem_filter,List.mem_range]
 constructor
 ·rintro ⟨i,⟨hi,hp⟩,rfl⟩
  refine ⟨(i:Int)+1,rfl,by omega,h2 _ (by omega) (by omega),fun he=>?_⟩
  grind
 ·rintro ⟨c,rfl,c1,c2,c3⟩
  have hc:c<=r:=by
   rcases Int.lt_or_le (r:Int) c with hlt |hle
   ·have e1:h*((r:Int)+1)<=h*c:=Int.mul_le_mul_of_nonneg_left (by omega) (by omega)
    have e2:h*((r:Int)+1)*((r:Int)+1)<=h*c*c:=Int.mul_le_mul e1 (by omega) (by omega) (Int.mul_nonneg (by omega) (by omega))
    omega
   grind
  refine ⟨(c-1).toNat,⟨by omega,?_⟩,by grind⟩
  grind
theorem mem_coll {m:List (List Int)} (hr:RedOK m) {bound:Int} (hb:0<=bound) (exact:Bool) (x:List Int):x∈collL m bound exact↔x.length=m.length/\LastPos x/\nrm m x<=bound/\(exact=true->nrm m x=bound):=by
 have hall:=isSmallB_all hr.small
 have hl:=isSmallB_len hr.small
 unfold collL
 split
 ·rename_i h1
  have hd:1<=ent m 0 0:=by
   have :=E_pos (m:=ent m) hr.pos (k:=0) (by omega)
   exact this
  rw [mem_mult hd hb]
  have hn:∀c:Int,nrm m [c]=ent m 0 0*c*c:=fun c=>by
   rw [nrm_eq hall [c] (by simp [h1])]
   simp only [qE,quadZ,sumZ,E]
   grind
  constructor
  ·rintro ⟨c,rfl,c1,c2,c3⟩
   rw [hn]
   exact ⟨by simp [h1],.inr ⟨by simp,by omega⟩,c2,c3⟩
  ·rintro ⟨a1,a2,a3,a4⟩
   obtain ⟨c,rfl⟩:∃c,x=[c]:=by
    match x,a1 with
    |[c],_=>exact ⟨c,rfl⟩
    |[],h=>simp at h;omega
    |_::_::_,h=>simp at h;omega
   rw [hn] at a3 a4
   have :0<c:=by
    rcases a2 with h |⟨_,h⟩
    ·exact absurd h (by simp [LastPos])
    ·exact h
   exact ⟨c,rfl,by omega,a3,a4⟩
 ·have e:vD (minorsTo m m.length) m.length*bound=left (ent m) bound (m.length-1+1) []:=by
   rw [show m.length-1+1=m.length by omega,left_top,minorsTo_get (Nat.le_refl _)]
  rw [e,mem_search hr hb exact x (m.length-1) true [] (by omega) (by simp) ?_ (by simp)]
  ·constructor
   ·rintro ⟨p,rfl,hp,a1,a2,a3⟩
    simp only [List.append_nil] at a1 a2 |-
    have hpl:p.length=m.length:=by omega
    rw [left_nrm hall bound p hpl] at a1 a2
    grind
   ·rintro ⟨a1,a2,a3,a4⟩
    rw [left_nrm hall bound x a1]
    grind
  ·rw [<-e]
   have :=minorsTo_get (m:=m) (k:=m.length) (Nat.le_refl _)
   rw [this]
   exact Int.mul_nonneg (Int.le_of_lt (lastE_pos hr.pos (Nat.le_refl _))) hb
/-! ## Levels -/
theorem lev_of {m:List (List Int)} (hr:RedOK m) {bound:Int} (hb:0<=bound) (hb1:bound<1073741824) (t:List Int):∀k,k<m.length->t.length=m.length-1-k->0<=left (ent m) bound (k+1) t->LevOK (minorsTo m m.length) m.length bound k (left (ent m) bound (k+1) t) t:=by
 have hsym:=sym_of (isSmallB_all hr.small) (fun i j hi hj=>((of_decide_eq_true hr.small).2.2.2 i hi j hj).1)
 induction t with
 |nil=>
  intro k hk ht h0
  have e:k+1=m.length:=by grind
  refine ⟨hk,h0,?_,ht,by simp [absSum]⟩
  rw [left_top,e,minorsTo_get (Nat.le_refl _)]
  grind
 |cons c t ih=>
  intro k hk ht h0
  simp only [List.length_cons] at ht
  have h1:=left_le hsym (hr.pos.le (by omega:k+1+1<=m.length)) bound c t h0
  have h2:=ih (k+1) (by omega) (by omega) h1
  have h3:=(inv_iff hr (by omega:k+1<m.length) t (by omega) h1 c).2 h0
  have h4:=LevOK.next (hr.num hb hb1) h2 h3.1 h3.2
  rwa [vRest_eq hr (by omega) bound t (by omega)] at h4
theorem qE_nonneg {m:List (List Int)} (hr:RedOK m) (t:List Int):∀k,k+t.length<=m.length->0<=qE (ent m) k t:=by
 have hsym:=sym_of (isSmallB_all hr.small) (fun i j hi hj=>((of_decide_eq_true hr.small).2.2.2 i hi j hj).1)
 induction t with
 |nil=>intro k _;exact Int.le_refl _
 |cons c t ih=>
  intro k hk
  simp only [List.length_cons] at hk
  have h1:=ih (k+1) (by omega)
  have h2:=qE_step hsym (hr.pos.le (by omega:k+1<=m.length)) c t
  have h3:=lastE_pos hr.pos (by omega:k<=m.length)
  have h4:=lastE_pos hr.pos (by omega:k+1<=m.length)
  have h5:=Int.mul_nonneg (Int.le_of_lt h3) h1
  have h6:=sq_nonnegZ (lE (ent m) k (c::t))
  rcases Int.lt_or_le (qE (ent m) k (c::t)) 0 with h7 |h7
  ·have :=Int.mul_neg_of_pos_of_neg h4 h7;omega
  grind
theorem nrm_nonneg {m:List (List Int)} (hr:RedOK m) (x:List Int) (hx:x.length=m.length):0<=nrm m x:=by
 rw [nrm_eq (isSmallB_all hr.small) x hx]
 exact qE_nonneg hr x 0 (by omega)
theorem coord_small {m:List (List Int)} (hr:RedOK m) {bound:Int} (hb:0<=bound) (hb1:bound<1073741824) (x:List Int) (hx:x.length=m.length) (hn:nrm m x<=bound):absSum x<=1099511627776:=by
 have hall:=isSmallB_all hr.small
 have hl:=isSmallB_len hr.small
 have hsym:=sym_of (isSmallB_all hr.small) (fun i j hi hj=>((of_decide_eq_true hr.small).2.2.2 i hi j hj).1)
 have h0:0<=left (ent m) bound 0 x:=by rw [left_nrm hall bound x hx];omega
 cases x with
 |nil=>grind
 |cons c t=>
  simp only [List.length_cons] at hx
  have h1:=left_le hsym (hr.pos.le (by omega:0+1<=m.length)) bound c t h0
  have h2:=lev_of hr hb hb1 t 0 (by omega) (by omega) h1
  have h3:=(inv_iff hr (by omega:0<m.length) t (by omega) h1 c).2 h0
  have hN:=hr.num hb hb1
  have h4:=vEnds hN h2
  have h5:=absSum_bound hN h2
  have h6:=vR_bounds hN h2
  simp only [absSum]
  omega
theorem inRange_of {x:List Int} (h:absSum x<=1099511627776):inRangeB x=true:=by
 unfold inRangeB
 rw [List.all_eq_true]
 intro y hy
 obtain ⟨i,hi⟩:=List.getElem?_of_mem hy
 have :=le_absSum x i y hi
 grind
theorem firstNZ_zero {x:List Int} (h:firstNZ x=0):∀y∈x,y=0:=by
 induction x with
 |nil=>simp
 |cons a x ih=>
  simp only [firstNZ] at h
  grind
theorem lastPos_ne {x:List Int} (h:LastPos x):¬∀y∈x,y=0:=by
 induction x with
 |nil=>exact absurd h (by simp [LastPos])
 |cons a x ih=>
  intro hz
  rcases h with h |⟨_,h⟩
  ·grind
  simp_all
theorem lastPos_neg {x:List Int} (h:LastPos x):¬LastPos (x.map fun c=>-c):=by
 induction x with
 |nil=>exact absurd h (by simp [LastPos])
 |cons a x ih=>
  rintro (h2 |⟨h2,h3⟩)
  ·rcases h with h |⟨h,_⟩
   ·grind
   ·exact lastPos_ne h2 (fun y hy=>by grind)
  ·rcases h with h |⟨_,h⟩
   ·exact lastPos_ne h (fun y hy=>by
     have :=h2 (-y) (List.mem_map.2 ⟨y,hy,rfl⟩);omega)
   grind
theorem lastPos_or {x:List Int} (h:¬∀y∈x,y=0):LastPos x∨LastPos (x.map fun c=>-c):=by
 induction x with
 |nil=>grind
 |cons a x ih=>
  by_cases hx:∀y∈x,y=0
  ·have ha:a≠0:=fun ha=>h (fun y hy=>by grind)
   rcases (by omega:0<a∨0< -a) with h1 |h1
   ·exact .inl (.inr ⟨hx,h1⟩)
   ·refine .inr (.inr ⟨fun y hy=>?_,h1⟩)
    grind
  ·rcases ih hx with h1 |h1
   ·exact .inl (.inl h1)
   ·exact .inr (.inl h1)
theorem neg_neg_map (x:List Int):(x.map fun c=>-c).map (fun c=>-c)=x:=by
 induction x with
 |nil=>rfl
 |cons a x ih=>grind
theorem canon_inj {x y:List Int} (hx:LastPos x) (hy:LastPos y) (h:canonL x=canonL y):x=y:=by
 unfold canonL at h
 split at h<;>split at h
 ·have :=congrArg (List.map fun c=>-c) h
  rwa [neg_neg_map,neg_neg_map] at this
 ·rw [<-h] at hy;exact absurd hy (lastPos_neg hx)
 ·rw [h] at hx;exact absurd hx (lastPos_neg hy)
 grind
theorem firstNZ_neg (x:List Int):firstNZ (x.map fun c=>-c)=-firstNZ x:=by
 induction x with
 |nil=>rfl
 |cons a x ih=>
  simp only [List.map_cons,firstNZ]
  grind
theorem canon_first (x:List Int) (h:firstNZ x≠0):0<firstNZ (canonL x):=by
 unfold canonL
 split
 ·rw [firstNZ_neg];omega
 grind
theorem nodup_coll {m:List (List Int)} (hr:RedOK m) {bound:Int} (hb:0<=bound) (exact:Bool):(collL m bound exact).Nodup:=by
 have hl:=isSmallB_len hr.small
 unfold collL
 split
 ·unfold multL
  unfold List.Nodup
  rw [List.pairwise_map]
  refine List.Pairwise.imp ?_ (List.Pairwise.filter _ List.nodup_range)
  grind
 ·have e:vD (minorsTo m m.length) m.length*bound=left (ent m) bound (m.length-1+1) []:=by
   rw [show m.length-1+1=m.length by omega,left_top,minorsTo_get (Nat.le_refl _)]
  rw [e]
  refine nodup_search hr hb exact (m.length-1) true [] (by omega) (by simp) ?_ (by simp)
  rw [<-e,minorsTo_get (Nat.le_refl _)]
  exact Int.mul_nonneg (Int.le_of_lt (lastE_pos hr.pos (Nat.le_refl _))) hb
theorem nodup_canon {m:List (List Int)} (hr:RedOK m) {bound:Int} (hb:0<=bound) (exact:Bool):((collL m bound exact).map canonL).Nodup:=by
 unfold List.Nodup
 rw [List.pairwise_map]
 refine List.Pairwise.imp_of_mem ?_ (nodup_coll hr hb exact)
 intro a b ha hb' hab e
 exact hab (canon_inj ((mem_coll hr hb exact a).1 ha).2.1 ((mem_coll hr hb exact b).1 hb').2.1 e)
theorem vec_coll {m:List (List Int)} (hr:RedOK m) {bound:Int} (hb:0<=bound) (hb1:bound<1073741824) (exact:Bool) (x:List Int) (hx:x∈collL m bound exact):VecOK m x:=by
 obtain ⟨h1,h2,h3,_⟩:=(mem_coll hr hb exact x).1 hx
 have h4:=inRange_of (coord_small hr hb hb1 x h1 h3)
 refine ⟨by simp [fitsB,h1,h4],?_,?_⟩
 ·have :=nrm_nonneg hr x h1
  simp only [dotB,decide_eq_true_eq]
  omega
 ·simp only [canonB,h4,Bool.true_and,Bool.not_eq_true',decide_eq_false_iff_not]
  intro e
  exact lastPos_ne h2 (firstNZ_zero e)
theorem redM_of {m:List (List Int)} (h:isRedB m=true):RedM m:=by
 have hr:=red_ok h
 refine ⟨h,isSmallB_all hr.small,fun r hr' x hx=>?_,(isSmallB_len hr.small).2⟩
 obtain ⟨i,j,hi,hj,rfl⟩:=mem_ent (isSmallB_all hr.small) hr' hx
 have :=((of_decide_eq_true hr.small).2.2.2 i hi j hj).2
 omega
structure VecList (m:List (List Int)) (bound:Int) (exact:Bool) (L:List (List Int)):Prop where
 sorted:L.Pairwise (fun x y=>cmpK (nrm m x) (nrm m y) x y<0)
 mem:∀x,x∈L↔x.length=m.length/\0<firstNZ x/\nrm m x<=bound/\(exact=true->nrm m x=bound)
theorem vecList_of {m:List (List Int)} (hr:RedOK m) {bound:Int} (hb:0<=bound) {exact:Bool} {L:List (List Int)} (hp:L.Perm ((collL m bound exact).map canonL)) (hw:L.Pairwise (fun x y=>cmpK (nrm m x) (nrm m y) x y<0)):VecList m bound exact L:=by
 refine ⟨hw,fun x=>?_⟩
 rw [hp.mem_iff,List.mem_map]
 constructor
 ·rintro ⟨y,hy,rfl⟩
  obtain ⟨h1,h2,h3,h4⟩:=(mem_coll hr hb exact y).1 hy
  rw [nrm_canon,canonL_length]
  exact ⟨h1,canon_first y (fun e=>lastPos_ne h2 (firstNZ_zero e)),h3,h4⟩
 ·rintro ⟨h1,h2,h3,h4⟩
  have hne:¬∀y∈x,y=0:=fun hz=>by
   have :firstNZ x=0:=by
    clear h1 h2 h3 h4
    induction x with
    |nil=>rfl
    |cons a x ih=>
     have ha:=hz a (by simp)
     simp only [firstNZ]
     grind
   omega
  rcases lastPos_or hne with h5 |h5
  ·refine ⟨x,(mem_coll hr hb exact x).2 ⟨h1,h5,h3,h4⟩,?_⟩
   unfold canonL
   grind
  ·refine ⟨x.map fun c=>-c,(mem_coll hr hb exact _).2 ⟨by grind,h5,by rw [nrm_neg];grind,by rw [nrm_neg];grind⟩,?_⟩
   unfold canonL
   rw [firstNZ_neg,if_pos (by omega),neg_neg_map]
theorem cmpK_anti (m:List (List Int)) (x y:List Int) (h:cmpK (nrm m x) (nrm m y) x y<0):¬cmpK (nrm m y) (nrm m x) y x<0:=by
 rw [cmpK_lex] at h |-
 rw [lexI_anti]
 omega
theorem VecList.nodup {m:List (List Int)} {bound:Int} {exact:Bool} {L:List (List Int)} (h:VecList m bound exact L):L.Nodup:=by
 refine List.Pairwise.imp ?_ h.sorted
 intro a b hab e
 subst e
 exact cmpK_anti m a a hab hab
def totY:List (Int×Int)->Int
 |[]=>0
 |p::ys=>p.2+totY ys
def atY:List (Int×Int)->Nat->Int
 |[],_=>0
 |p::ys,i=>(if (p.1-1).toNat=i then p.2 else 0)+atY ys i
theorem totY_append (a b:List (Int×Int)):totY (a++b)=totY a+totY b:=by
 induction a with
 |nil=>simp [totY]
 |cons p a ih=>simp only [List.cons_append,totY];omega
theorem atY_append (a b:List (Int×Int)) (i:Nat):atY (a++b) i=atY a i+atY b i:=by
 induction a with
 |nil=>simp [atY]
 |cons p a ih=>simp only [List.cons_append,atY];omega
theorem totY_flat (F:Nat->List (Int×Int)) (l:List Nat):totY (l.flatMap F)=(l.map fun j=>totY (F j)).sum:=by
 induction l with
 |nil=>rfl
 |cons j l ih=>simp only [List.flatMap_cons,totY_append,ih,List.map_cons,List.sum_cons]
theorem atY_flat (F:Nat->List (Int×Int)) (i:Nat) (l:List Nat):atY (l.flatMap F) i=(l.map fun j=>atY (F j) i).sum:=by
 induction l with
 |nil=>rfl
 |cons j l ih=>simp only [List.flatMap_cons,atY_append,ih,List.map_cons,List.sum_cons]
theorem sum_le_of {l:List Nat} {g:Nat->Int} {B:Int} (h:∀j∈l,g j<=B):(l.map g).sum<=(l.length:Int)*B:=by
 induction l with
 |nil=>simp
 |cons j l ih=>
  have h1:=ih (fun x hx=>h x (by grind))
  have h2:=h j (by simp)
  simp only [List.map_cons,List.sum_cons,List.length_cons,Int.natCast_add,Int.add_mul]
  omega
theorem sum_nonneg_of {l:List Nat} {g:Nat->Int} (h:∀j∈l,0<=g j):0<=(l.map g).sum:=by
 induction l with
 |nil=>simp
 |cons j l ih=>
  grind
theorem sum_ge_one {l:List Nat} {g:Nat->Int} (h:∀j∈l,0<=g j) {a:Nat} (ha:a∈l):g a<=(l.map g).sum:=by
 induction l with
 |nil=>grind
 |cons j l ih=>
  have h0:=sum_nonneg_of (fun x hx=>h x (List.mem_cons_of_mem j hx))
  grind
theorem stepsGo_eq (n:Nat) (ys:List (Int×Int)):∀(left:Int) (st:List Int),(∀p∈ys,0<=p.2/\1<=p.1/\p.1<=n)->0<=left->st.length=n->
  stepsGo ys left st=if totY ys<=left then some (left-totY ys,(List.range n).map fun i=>st.getD i 0+atY ys i) else none:=by
 induction ys with
 |nil=>
  intro left st _ h0 hl
  rw [if_pos (show totY []<=left from h0)]
  have e1:left-totY []=left:=by simp only [totY];omega
  have e2:(List.range n).map (fun i=>st.getD i 0+atY [] i)=st:=by
   refine List.ext_getElem (by simp [hl]) fun i h1 h2=>?_
   simp [List.getD,h2,atY]
  rw [e1,e2]
  rfl
 |cons p ys ih=>
  obtain ⟨len,cnt⟩:=p
  intro left st hp h0 hl
  have hp0:=hp (len,cnt) (by simp)
  simp only at hp0
  have htot:0<=totY ys:=by
   have :∀l:List (Int×Int),(∀p∈l,0<=p.2)->0<=totY l:=fun l hh=>by
    induction l with
    |nil=>simp [totY]
    |cons q l ih2=>have a:=ih2 (fun p hp=>hh p (by simp [hp]));have b:=hh q (by simp);simp only [totY];omega
   exact this ys (fun p hp'=>(hp p (by simp [hp'])).1)
  have htc:totY ((len,cnt)::ys)=cnt+totY ys:=rfl
  simp only [stepsGo]
  split
  ·rw [if_neg (by omega)]
  ·rw [ih (left-cnt) _ (fun p hp'=>hp p (by simp [hp'])) (by omega) (by simpa using hl)]
   by_cases h:totY ys<=left-cnt
   ·rw [if_pos h,if_pos (by omega)]
    have e1:left-cnt-totY ys=left-totY ((len,cnt)::ys):=by omega
    rw [e1]
    congr 2
    ·refine List.map_congr_left fun i hi=>?_
     have hi':i<n:=by simpa using hi
     simp only [atY,List.getD_eq_getElem?_getD,List.getElem?_set]
     grind
   ·rw [if_neg h,if_neg (by omega)]
section
variable {m:List (List Int)} {bound:Int}
theorem top_nonneg (hr:RedOK m) (hb:0<=bound):0<=left (ent m) bound (m.length-1+1) []:=by
 have hl:=isSmallB_len hr.small
 rw [show m.length-1+1=m.length by omega,left_top]
 exact Int.mul_nonneg (Int.le_of_lt (lastE_pos hr.pos (Nat.le_refl _))) hb
theorem top_eq (hr:RedOK m):vD (minorsTo m m.length) m.length*bound=left (ent m) bound (m.length-1+1) []:=by
 have hl:=isSmallB_len hr.small
 rw [show m.length-1+1=m.length by omega,left_top,minorsTo_get (Nat.le_refl _)]
theorem kid (hr:RedOK m) {k:Nat} (t:List Int) (hk:k<m.length) (ht:t.length=m.length-1-k) (h0:0<=left (ent m) bound (k+1) t) {j:Nat} (hj:j<(vCnt (minorsTo m m.length) (lamTo m m.length) k (left (ent m) bound (k+1) t) t).toNat):
  0<=left (ent m) bound k ((vLo (minorsTo m m.length) (lamTo m m.length) k (left (ent m) bound (k+1) t) t+(j:Int))::t):=by
 refine (inv_iff hr hk t ht h0 _).1 ?_
 unfold vCnt at hj
 omega
theorem visit_ok (hr:RedOK m) (hb:0<=bound) (hb1:bound<1073741824) (k:Nat):∀t:List Int,k<m.length->t.length=m.length-1-k->0<=left (ent m) bound (k+1) t->
  ∀p∈visitY (minorsTo m m.length) (lamTo m m.length) m.length k (left (ent m) bound (k+1) t) t,0<=p.2/\1<=p.1/\p.1<=(m.length:Int):=by
 induction k with
 |zero=>
  intro t hk ht h0 p hp
  simp only [visitY] at hp
  have :=vCnt_bounds (hr.num hb hb1) (lev_of hr hb hb1 t 0 hk ht h0)
  grind
 |succ k ih=>
  intro t hk ht h0 p hp
  simp only [visitY,List.mem_cons,List.mem_flatMap,List.mem_range] at hp
  rcases hp with rfl |⟨j,hj,hp⟩
  ·have :=vCnt_bounds (hr.num hb hb1) (lev_of hr hb hb1 t (k+1) hk ht h0)
   grind
  ·have hk0:=kid hr t hk ht h0 hj
   rw [vRest_eq hr hk bound t ht] at hp
   grind
theorem atY_nonneg {ys:List (Int×Int)} (h:∀p∈ys,0<=p.2) (i:Nat):0<=atY ys i:=by
 induction ys with
 |nil=>simp [atY]
 |cons p ys ih=>
  simp only [atY]
  grind
theorem visit_full (hr:RedOK m) (hb:0<=bound) (hb1:bound<1073741824) (k:Nat):∀t:List Int,k<m.length->t.length=m.length-1-k->0<=left (ent m) bound (k+1) t->
  atY (visitY (minorsTo m m.length) (lamTo m m.length) m.length k (left (ent m) bound (k+1) t) t) (m.length-1)=((searchL (minorsTo m m.length) (lamTo m m.length) false k (left (ent m) bound (k+1) t) false t).length:Int):=by
 induction k with
 |zero=>
  intro t hk ht h0
  have :=vCnt_bounds (hr.num hb hb1) (lev_of hr hb hb1 t 0 hk ht h0)
  simp only [visitY,atY,searchL,takes,Bool.false_and,Bool.not_false,Bool.and_self,if_true,List.length_flatMap]
  rw [if_pos (by omega)]
  have e:sCnt (minorsTo m m.length) (lamTo m m.length) 0 (left (ent m) bound (0+1) t) false t=(vCnt (minorsTo m m.length) (lamTo m m.length) 0 (left (ent m) bound (0+1) t) t).toNat:=by rfl
  rw [e]
  simp only [List.length_cons,List.length_nil]
  rw [List.map_const',List.sum_replicate_nat]
  grind
 |succ k ih=>
  intro t hk ht h0
  have e:sCnt (minorsTo m m.length) (lamTo m m.length) (k+1) (left (ent m) bound (k+1+1) t) false t=(vCnt (minorsTo m m.length) (lamTo m m.length) (k+1) (left (ent m) bound (k+1+1) t) t).toNat:=by simp [sCnt,sLo,vCnt]
  have e2:sLo (minorsTo m m.length) (lamTo m m.length) (k+1) (left (ent m) bound (k+1+1) t) false t=vLo (minorsTo m m.length) (lamTo m m.length) (k+1) (left (ent m) bound (k+1+1) t) t:=by simp [sLo]
  simp only [visitY,atY,searchL,Bool.false_and]
  rw [if_neg (by omega),atY_flat,e,e2]
  have key:∀l:List Nat,(∀j∈l,j<(vCnt (minorsTo m m.length) (lamTo m m.length) (k+1) (left (ent m) bound (k+1+1) t) t).toNat)->
    (l.map fun j:Nat=>atY (visitY (minorsTo m m.length) (lamTo m m.length) m.length k (vRest (minorsTo m m.length) (lamTo m m.length) (k+1) (left (ent m) bound (k+1+1) t) t (vLo (minorsTo m m.length) (lamTo m m.length) (k+1) (left (ent m) bound (k+1+1) t) t+(j:Int))) ((vLo (minorsTo m m.length) (lamTo m m.length) (k+1) (left (ent m) bound (k+1+1) t) t+(j:Int))::t)) (m.length-1)).sum=
    ((l.flatMap fun j:Nat=>searchL (minorsTo m m.length) (lamTo m m.length) false k (vRest (minorsTo m m.length) (lamTo m m.length) (k+1) (left (ent m) bound (k+1+1) t) t (vLo (minorsTo m m.length) (lamTo m m.length) (k+1) (left (ent m) bound (k+1+1) t) t+(j:Int))) false ((vLo (minorsTo m m.length) (lamTo m m.length) (k+1) (left (ent m) bound (k+1+1) t) t+(j:Int))::t)).length:Int):=by
   intro l
   induction l with
   |nil=>intro _;rfl
   |cons j l ihl=>
    intro hl
    have hk0:=kid hr t hk ht h0 (hl j (by simp))
    simp only [List.map_cons,List.sum_cons,List.flatMap_cons,List.length_append,Int.natCast_add]
    rw [ihl (fun x hx=>hl x (by simp [hx])),vRest_eq hr hk bound t ht,ih _ (by omega) (by simp [ht];omega) hk0]
  grind
theorem visit_one (hr:RedOK m) (hb:0<=bound) (hb1:bound<1073741824) (k:Nat):∀t:List Int,k<m.length->t.length=m.length-1-k->(∀x∈t,x=0)->∀i,m.length-1-k<=i->i<m.length->
  1<=atY (visitY (minorsTo m m.length) (lamTo m m.length) m.length k (left (ent m) bound (k+1) t) t) i:=by
 have hcnt:∀(k:Nat) (t:List Int),k<m.length->t.length=m.length-1-k->(∀x∈t,x=0)->vLo (minorsTo m m.length) (lamTo m m.length) k (left (ent m) bound (k+1) t) t<=0/\0<=vHi (minorsTo m m.length) (lamTo m m.length) k (left (ent m) bound (k+1) t) t:=fun k t hk ht hz=>
  (inv_iff hr hk t ht (left_zeros hr hb (by omega) t hz) 0).2 (left_zeros hr hb (by omega) (0::t) (fun x hx=>by
   rcases List.mem_cons.1 hx with rfl |hx
   ·rfl
   ·exact hz x hx))
 induction k with
 |zero=>
  intro t hk ht hz i h1 h2
  have :=hcnt 0 t hk ht hz
  simp only [visitY,atY]
  rw [if_pos (by omega)]
  unfold vCnt
  omega
 |succ k ih=>
  intro t hk ht hz i h1 h2
  have h0:=left_zeros hr hb (by omega:k+1+1<=m.length) t hz
  have hc:=hcnt (k+1) t hk ht hz
  have hok:=visit_ok hr hb hb1 (k+1) t hk ht h0
  simp only [visitY,atY] at hok |-
  rw [atY_flat]
  have hnn:∀j∈List.range (vCnt (minorsTo m m.length) (lamTo m m.length) (k+1) (left (ent m) bound (k+1+1) t) t).toNat,0<=atY (visitY (minorsTo m m.length) (lamTo m m.length) m.length k (vRest (minorsTo m m.length) (lamTo m m.length) (k+1) (left (ent m) bound (k+1+1) t) t (vLo (minorsTo m m.length) (lamTo m m.length) (k+1) (left (ent m) bound (k+1+1) t) t+(j:Int))) ((vLo (minorsTo m m.length) (lamTo m m.length) (k+1) (left (ent m) bound (k+1+1) t) t+(j:Int))::t)) i:=fun j hj=>
   atY_nonneg (fun p hp=>(hok p (List.mem_cons_of_mem _ (List.mem_flatMap.2 ⟨j,hj,hp⟩))).1) i
  by_cases e:i=m.length-1-(k+1)
  ·rw [if_pos (by omega)]
   have :=sum_nonneg_of hnn
   unfold vCnt at this |-
   omega
  ·rw [if_neg (by omega)]
   obtain ⟨j,hj⟩:∃j:Nat,vLo (minorsTo m m.length) (lamTo m m.length) (k+1) (left (ent m) bound (k+1+1) t) t+(j:Int)=0:=⟨(-vLo (minorsTo m m.length) (lamTo m m.length) (k+1) (left (ent m) bound (k+1+1) t) t).toNat,by omega⟩
   have h3:=sum_ge_one hnn (a:=j) (by simp only [List.mem_range];unfold vCnt;omega)
   rw [hj,vRest_eq hr hk bound t ht] at h3
   grind
/-! ## How many -/
theorem half_minor (hr:RedOK m) (k:Nat):k<m.length->lastE (ent m) k<=2^k*lastE (ent m) (k+1):=by
 induction k with
 |zero=>
  intro hk
  have :=lastE_pos hr.pos (by omega:0+1<=m.length)
  show (1:Int)<=1*lastE (ent m) (0+1)
  omega
 |succ k ih=>
  intro hk
  have h1:=ih (by omega)
  have hL:=hr.lov k hk
  have hs:=(of_decide_eq_true (hr.short k hk)).2.2 1 (by rw [stAt_length];omega) (by omega)
  have e1:ent (stAt m k).2 1 0=E (ent m) k (k+1) k:=st_ent (i:=1) (j:=0) (by omega) (by omega)
  have e2:ent (stAt m k).2 0 0=E (ent m) k k k:=st_ent (i:=0) (j:=0) (by omega) (by omega)
  rw [e1,e2] at hs
  have p0:=lastE_pos hr.pos (by omega:k<=m.length)
  have p1:0<E (ent m) k k k:=lastE_pos hr.pos (by omega:k+1<=m.length)
  have p2:0<E (ent m) (k+1) (k+1) (k+1):=lastE_pos hr.pos (by omega:k+1+1<=m.length)
  have h1':lastE (ent m) k<=2^k*E (ent m) k k k:=h1
  show E (ent m) k k k<=2^(k+1)*E (ent m) (k+1) (k+1) (k+1)
  obtain ⟨x,hx⟩:∃x,E (ent m) k k k=x:=⟨_,rfl⟩
  obtain ⟨y,hy⟩:∃y,E (ent m) k (k+1) k=y:=⟨_,rfl⟩
  obtain ⟨u,hu⟩:∃u,lastE (ent m) k=u:=⟨_,rfl⟩
  obtain ⟨v,hv⟩:∃v,E (ent m) (k+1) (k+1) (k+1)=v:=⟨_,rfl⟩
  rw [hx,hy,hu,hv] at hL
  rw [hx,hy] at hs
  rw [hx] at p1 h1' |-
  rw [hu] at p0 h1'
  rw [hv] at p2 |-
  have q:=Int.mul_nonneg (show 0<=x-2*y by omega) (show 0<=x+2*y by omega)
  have q2:(x-2*y)*(x+2*y)=x*x-4*(y*y):=by grind
  rw [q2] at q
  have q3:x*x<=2*(u*v):=by grind
  have q4:u*v<=2^k*x*v:=Int.mul_le_mul_of_nonneg_right h1' (by omega)
  have q5:x*x<=x*(2^(k+1)*v):=by
   have :x*(2^(k+1)*v)=2*(2^k*x*v):=by grind
   omega
  simp_all
theorem cnt_sq (hr:RedOK m) (hb:0<=bound) (hb1:bound<1073741824) {k:Nat} (t:List Int) (hk:k<m.length) (ht:t.length=m.length-1-k) (h0:0<=left (ent m) bound (k+1) t) {c:Int} (hc:1<=c) (h:c<=vCnt (minorsTo m m.length) (lamTo m m.length) k (left (ent m) bound (k+1) t) t):(c-1)*(c-1)<=4*(2^k*bound):=by
 have hN:=hr.num hb hb1
 have hlev:=lev_of hr hb hb1 t k hk ht h0
 obtain ⟨r0,_,r2⟩:=vR_bounds hN hlev
 have r1:=hlev.r1
 have hd:=lastE_pos hr.pos (by omega:k+1<=m.length)
 have hd0:=lastE_pos hr.pos (by omega:k<=m.length)
 unfold vCnt vHi vLo at h
 unfold vSq at r2
 rw [minorsTo_get (by omega)] at h r1 r2
 obtain ⟨d,hd'⟩:∃d,d=lastE (ent m) (k+1):=⟨_,rfl⟩
 obtain ⟨e,he⟩:∃e,e=lastE (ent m) k:=⟨_,rfl⟩
 obtain ⟨r,hr'⟩:∃r,r=vR (minorsTo m m.length) k (left (ent m) bound (k+1) t):=⟨_,rfl⟩
 obtain ⟨s,hs⟩:∃s,s=vSh (lamTo m m.length) k t:=⟨_,rfl⟩
 obtain ⟨R,hR⟩:∃R,R=left (ent m) bound (k+1) t:=⟨_,rfl⟩
 have hh:=half_minor hr k hk
 rw [<-hd',<-he] at hh
 rw [<-hd'] at hd h r1
 rw [<-hR] at r0 r1 r2 h0 hr'
 rw [<-hR,<-hr',<-hs] at h
 rw [<-hr'] at r0 r2
 have a1:=Int.mul_ediv_self_le (x:=r+s) (k:=d) (by omega)
 have a2:=Int.mul_ediv_self_le (x:=r-s) (k:=d) (by omega)
 -- d (c - 1) <= 2 r
 have b1:d*(c-1)<=2*r:=by
  have :d*(c-1)<=d*((r+s) / d+(r-s) / d):=Int.mul_le_mul_of_nonneg_left (by omega) (by omega)
  grind
 have b0:0<=d*(c-1):=Int.mul_nonneg (by omega) (by omega)
 have b2:d*(c-1)*(d*(c-1))<=2*r*(2*r):=Int.mul_le_mul b1 b1 b0 (by omega)
 have b3:e*R<=e*(d*bound):=Int.mul_le_mul_of_nonneg_left r1 (by omega)
 have b4:e*(d*bound)<=2^k*d*(d*bound):=Int.mul_le_mul_of_nonneg_right hh (Int.mul_nonneg (by omega) hb)
 have b5:(d*d)*((c-1)*(c-1))<=(d*d)*(4*(2^k*bound)):=by grind
 exact Int.le_of_mul_le_mul_left b5 (Int.mul_pos hd hd)
def capT (b:Nat):Nat->Nat
 |0=>isq (4*b)+1
 |k+1=>(isq (4*(2^(k+1)*b))+1)*(1+capT b k)
theorem cnt_cap (hr:RedOK m) {b:Nat} (hb1:(b:Int)<1073741824) {k:Nat} (t:List Int) (hk:k<m.length) (ht:t.length=m.length-1-k) (h0:0<=left (ent m) b (k+1) t):vCnt (minorsTo m m.length) (lamTo m m.length) k (left (ent m) b (k+1) t) t<=(isq (4*(2^k*b))+1:Nat):=by
 rcases Int.lt_or_le (vCnt (minorsTo m m.length) (lamTo m m.length) k (left (ent m) b (k+1) t) t) 1 with h |h
 ·omega
 ·have h1:=cnt_sq hr (by omega) hb1 t hk ht h0 h (Int.le_refl _)
  obtain ⟨c,hc⟩:∃c:Nat,vCnt (minorsTo m m.length) (lamTo m m.length) k (left (ent m) b (k+1) t) t-1=(c:Int):=⟨(vCnt (minorsTo m m.length) (lamTo m m.length) k (left (ent m) b (k+1) t) t-1).toNat,by omega⟩
  have h2:c*c<=4*(2^k*b):=by grind
  have h3:=(isq_spec (4*(2^k*b))).2
  have h4:=sq_lt_of (Nat.lt_of_le_of_lt h2 h3)
  omega
theorem tot_cap (hr:RedOK m) {b:Nat} (hb1:(b:Int)<1073741824) (k:Nat):∀t:List Int,k<m.length->t.length=m.length-1-k->0<=left (ent m) b (k+1) t->totY (visitY (minorsTo m m.length) (lamTo m m.length) m.length k (left (ent m) b (k+1) t) t)<=(capT b k:Nat):=by
 induction k with
 |zero=>
  intro t hk ht h0
  have :=cnt_cap hr hb1 t hk ht h0
  simp only [visitY,totY,capT]
  grind
 |succ k ih=>
  intro t hk ht h0
  have h1:=cnt_cap hr hb1 t hk ht h0
  have h2:=vCnt_bounds (hr.num (by omega) hb1) (lev_of hr (by omega) hb1 t (k+1) hk ht h0)
  simp only [visitY,totY,capT]
  rw [totY_flat]
  have h3:=sum_le_of (l:=List.range (vCnt (minorsTo m m.length) (lamTo m m.length) (k+1) (left (ent m) b (k+1+1) t) t).toNat) (B:=((capT b k:Nat):Int))
   (g:=fun j=>totY (visitY (minorsTo m m.length) (lamTo m m.length) m.length k (vRest (minorsTo m m.length) (lamTo m m.length) (k+1) (left (ent m) b (k+1+1) t) t (vLo (minorsTo m m.length) (lamTo m m.length) (k+1) (left (ent m) b (k+1+1) t) t+(j:Int))) ((vLo (minorsTo m m.length) (lamTo m m.length) (k+1) (left (ent m) b (k+1+1) t) t+(j:Int))::t)))
   (fun j hj=>by
    have hk0:=kid hr t hk ht h0 (j:=j) (by grind)
    rw [vRest_eq hr hk b t ht]
    grind)
  obtain ⟨c,hc⟩:∃c:Nat,vCnt (minorsTo m m.length) (lamTo m m.length) (k+1) (left (ent m) b (k+1+1) t) t=(c:Int):=⟨(vCnt (minorsTo m m.length) (lamTo m m.length) (k+1) (left (ent m) b (k+1+1) t) t).toNat,by omega⟩
  have h5:c*(1+capT b k)<=(isq (4*(2^(k+1)*b))+1)*(1+capT b k):=Nat.mul_le_mul_right _ (by omega)
  grind
end
theorem sum_ite (n a:Nat) (c:Int) (h:a<n):((List.range n).map fun i=>if a=i then c else 0).sum=c:=by
 induction n with
 |zero=>omega
 |succ n ih=>
  rw [List.range_succ,List.map_append,List.sum_append]
  simp only [List.map_cons,List.map_nil,List.sum_cons,List.sum_nil]
  by_cases e:a=n
  ·have :∀l:List Nat,(∀i∈l,i<n)->(l.map fun i=>if a=i then c else 0).sum=0:=fun l hl=>by
    induction l with
    |nil=>rfl
    |cons i l ih2=>
     have :=hl i (by simp)
     simp only [List.map_cons,List.sum_cons]
     rw [ih2 (fun x hx=>hl x (by simp [hx])),if_neg (by omega)];rfl
   rw [this _ (fun i hi=>by simpa using hi),if_pos e];omega
  ·rw [ih (by omega),if_neg e];omega
theorem sum_map_add (l:List Nat) (f g:Nat->Int):(l.map fun i=>f i+g i).sum=(l.map f).sum+(l.map g).sum:=by
 induction l with
 |nil=>rfl
 |cons i l ih=>simp only [List.map_cons,List.sum_cons,ih];omega
theorem sum_at (n:Nat) (ys:List (Int×Int)) (h:∀p∈ys,1<=p.1/\p.1<=(n:Int)):((List.range n).map (atY ys)).sum=totY ys:=by
 induction ys with
 |nil=>
  have :∀l:List Nat,(l.map (atY [])).sum=0:=fun l=>by
   induction l with
   |nil=>rfl
   |cons i l ih=>rw [List.map_cons,List.sum_cons,ih];rfl
  exact this _
 |cons p ys ih=>
  have h1:=ih (fun q hq=>h q (by simp [hq]))
  have h2:=h p (by simp)
  have e:(atY (p::ys))=fun i=>(if (p.1-1).toNat=i then p.2 else 0)+atY ys i:=rfl
  rw [e,sum_map_add,sum_ite n _ _ (by omega),h1]
  rfl
theorem full_len {m:List (List Int)} (hr:RedOK m) {bound:Int} (hb:0<=bound) (h2:2<=m.length):
  (searchL (minorsTo m m.length) (lamTo m m.length) false (m.length-1) (left (ent m) bound (m.length-1+1) []) false []).length=2*(collL m bound false).length+1:=by
 have hall:=isSmallB_all hr.small
 have htop:=top_nonneg hr hb
 have hmemF:∀x,x∈searchL (minorsTo m m.length) (lamTo m m.length) false (m.length-1) (left (ent m) bound (m.length-1+1) []) false []↔x.length=m.length/\nrm m x<=bound:=fun x=>by
  rw [mem_search hr hb false x (m.length-1) false [] (by omega) (by simp) htop (by simp)]
  constructor
  ·rintro ⟨p,rfl,hp,a1,_,_⟩
   simp only [List.append_nil] at a1 |-
   have hpl:p.length=m.length:=by omega
   rw [left_nrm hall bound p hpl] at a1
   exact ⟨hpl,by omega⟩
  ·rintro ⟨a1,a2⟩
   rw [left_nrm hall bound x a1]
   exact ⟨x,by simp,by omega,by omega,by simp,by simp⟩
 have hnd:=nodup_search hr hb false (m.length-1) false [] (by omega) (by simp) htop (by simp)
 have hmem:=mem_coll hr hb false
 have hndc:=nodup_coll hr hb false
 obtain ⟨C,hC⟩:∃C,C=collL m bound false:=⟨_,rfl⟩
 rw [<-hC] at hmem hndc |-
 have hz:LastPos (List.replicate m.length 0)->False:=fun h=>lastPos_ne h (fun y hy=>List.eq_of_mem_replicate hy)
 have hnd2:((List.replicate m.length 0)::(C++C.map (List.map fun c=>-c))).Nodup:=by
  refine List.nodup_cons.2 ⟨fun hh=>?_,List.nodup_append.2 ⟨hndc,?_,?_⟩⟩
  ·rcases List.mem_append.1 hh with hh |hh
   ·exact hz ((hmem _).1 hh).2.1
   ·obtain ⟨y,hy,e⟩:=List.mem_map.1 hh
    have hy2:=((hmem y).1 hy).2.1
    exact lastPos_ne hy2 (fun c hc=>by
     have :-c∈List.replicate m.length (0:Int):=by rw [<-e];exact List.mem_map.2 ⟨c,hc,rfl⟩
     have :=List.eq_of_mem_replicate this
     omega)
  ·unfold List.Nodup
   rw [List.pairwise_map]
   refine List.Pairwise.imp ?_ hndc
   intro a b hab e
   have :=congrArg (List.map fun c=>-c) e
   rw [neg_neg_map,neg_neg_map] at this
   exact hab this
  ·intro a ha b hb' e
   obtain ⟨y,hy,rfl⟩:=List.mem_map.1 hb'
   subst e
   exact lastPos_neg ((hmem y).1 hy).2.1 ((hmem _).1 ha).2.1
 have hp:=(List.perm_ext_iff_of_nodup hnd hnd2).2 fun x=>by
  rw [hmemF,List.mem_cons,List.mem_append,hmem]
  constructor
  ·rintro ⟨a1,a2⟩
   by_cases h0:∀y∈x,y=0
   ·exact .inl (List.eq_replicate_iff.2 ⟨a1,h0⟩)
   ·rcases lastPos_or h0 with h |h
    ·exact .inr (.inl ⟨a1,h,a2,by simp⟩)
    ·refine .inr (.inr (List.mem_map.2 ⟨x.map fun c=>-c,(hmem _).2 ⟨by simpa using a1,h,by rw [nrm_neg];exact a2,by simp⟩,neg_neg_map x⟩))
  ·rintro (rfl |⟨a1,_,a3,_⟩ |hx)
   ·refine ⟨by simp,?_⟩
    have :=left_zeros hr hb (by omega:0<=m.length) (List.replicate m.length 0) (fun y hy=>List.eq_of_mem_replicate hy)
    rw [left_nrm hall bound _ (by simp)] at this
    omega
   ·exact ⟨a1,a3⟩
   ·obtain ⟨y,hy,rfl⟩:=List.mem_map.1 hx
    obtain ⟨b1,_,b3,_⟩:=(hmem y).1 hy
    rw [nrm_neg]
    exact ⟨by simpa using b1,b3⟩
 have :=hp.length_eq
 simp at this
 omega
structure StepsOK (m:List (List Int)) (bound:Int) (st:List Int) (total:Int):Prop where
 spec:∀budget:Int,0<=budget->budget<=1000000->stepsSpec m bound budget=if total<=budget then (st,0) else ([],9)
 len:st.length=m.length
 sum:st.sum=total
 one:∀x∈st,1<=x
 last:lastOf st=2*(collL m bound false).length+1
theorem mult_len {h bound:Int} (r:Nat):(multL h bound false r).length=r:=by
 unfold multL
 rw [List.length_map,List.filter_eq_self.2 (by simp),List.length_range]
theorem sum_ge_len (l:List Int) (h:∀x∈l,1<=x):(l.length:Int)<=l.sum:=by
 induction l with
 |nil=>simp
 |cons a l ih=>
  have :=ih (fun x hx=>h x (by simp [hx]))
  have :=h a (by simp)
  simp only [List.sum_cons,List.length_cons];omega
def totS (m:List (List Int)) (b:Int):Int:=totY (tailsY (minorsTo m m.length) (lamTo m m.length) m.length b)
def stS (m:List (List Int)) (b:Int):List Int:=(List.range m.length).map (atY (tailsY (minorsTo m m.length) (lamTo m m.length) m.length b))
theorem steps_ok {m:List (List Int)} (h:isRedB m=true) {b:Nat} (hb1:(b:Int)<1073741824):StepsOK m b (stS m b) (totS m b)/\(totS m b<=(capT b (m.length-1):Nat)∨(m.length=1/\totS m b<=2*isq b+1)):=by
 have hr:=red_ok h
 have hl:=isSmallB_len hr.small
 have hcrowd:crowdB m b=false:=by simp [crowdB];omega
 obtain ⟨ys,hys⟩:∃ys,ys=tailsY (minorsTo m m.length) (lamTo m m.length) m.length b:=⟨_,rfl⟩
 have e1:totS m b=totY ys:=by rw [hys];rfl
 have e2:stS m b=(List.range m.length).map (atY ys):=by rw [hys];rfl
 rw [e1,e2]
 have hspec:(∀p∈ys,0<=p.2/\1<=p.1/\p.1<=(m.length:Int))->∀budget:Int,0<=budget->budget<=1000000->stepsSpec m b budget=if totY ys<=budget then ((List.range m.length).map (atY ys),0) else ([],9):=fun hok budget b0 b1=>by
  have hargs:argsB b budget=true:=by simp [argsB];omega
  unfold stepsSpec
  rw [h,hargs,hcrowd]
  simp only [if_true,Bool.false_eq_true,if_false]
  unfold stepsOf
  rw [<-hys,stepsGo_eq m.length ys budget _ hok b0 (by simp)]
  have e:((List.range m.length).map fun i=>(List.replicate m.length (0:Int)).getD i 0+atY ys i)=(List.range m.length).map (atY ys):=by
   refine List.map_congr_left fun i hi=>?_
   have hi':i<m.length:=by simpa using hi
   simp [List.getD,hi']
  rw [e]
  by_cases ht:totY ys<=budget
  ·rw [if_pos ht,if_pos ht]
  ·rw [if_neg ht,if_neg ht]
 have hlast:∀F:Nat->Int,lastOf ((List.range m.length).map F)=F (m.length-1):=fun F=>by
  have :m.length-1<m.length:=by omega
  simp [lastOf,List.getD,this]
 by_cases h1:m.length=1
 ·have hy:ys=[(1,2*((isq ((b:Int) / vD (minorsTo m m.length) 1).toNat:Nat):Int)+1)]:=by rw [hys];unfold tailsY;rw [if_pos h1]
  have hok:∀p∈ys,0<=p.2/\1<=p.1/\p.1<=(m.length:Int):=fun p hp=>by
   rw [hy] at hp
   obtain rfl:p=_:=by simpa using hp
   simp only
   omega
  have hd:vD (minorsTo m m.length) 1=ent m 0 0:=by
   rw [minorsTo_get (by omega)];rfl
  have hd1:1<=ent m 0 0:=E_pos (m:=ent m) hr.pos (k:=0) (by omega)
  refine ⟨⟨hspec hok,by simp,sum_at _ ys (fun p hp=>(hok p hp).2),fun x hx=>?_,?_⟩,.inr ⟨h1,?_⟩⟩
  ·obtain ⟨i,hi,rfl⟩:=List.mem_map.1 hx
   have hi':i=0:=by have :i<m.length:=by simpa using hi
                    omega
   subst hi'
   rw [hy]
   simp only [atY]
   rw [if_pos (by decide)]
   omega
  ·rw [hlast,hy,show m.length-1=0 by omega]
   simp only [atY]
   rw [if_pos (by decide)]
   have e:collL m b false=multL (ent m 0 0) b false (isq ((b:Int) / ent m 0 0).toNat):=by unfold collL;rw [if_pos h1]
   rw [e,mult_len,hd]
   omega
  ·rw [hy]
   simp only [totY]
   have q:((b:Int) / vD (minorsTo m m.length) 1).toNat<=b:=by
    rw [hd]
    have :=Int.ediv_le_self (a:=(b:Int)) (ent m 0 0) (by omega)
    omega
   have :isq ((b:Int) / vD (minorsTo m m.length) 1).toNat<=isq b:=by
    obtain ⟨s1,_⟩:=isq_spec ((b:Int) / vD (minorsTo m m.length) 1).toNat
    obtain ⟨_,s2⟩:=isq_spec b
    have :=sq_lt_of (Nat.lt_of_le_of_lt (Nat.le_trans s1 q) s2)
    omega
   omega
 ·have hy:ys=visitY (minorsTo m m.length) (lamTo m m.length) m.length (m.length-1) (left (ent m) b (m.length-1+1) []) []:=by
   rw [hys];unfold tailsY;rw [if_neg h1,top_eq hr]
  have htop:=top_nonneg (bound:=(b:Int)) hr (by omega)
  have hok:=visit_ok hr (by omega) hb1 (m.length-1) [] (by omega) (by simp) htop
  rw [<-hy] at hok
  refine ⟨⟨hspec hok,by simp,sum_at _ ys (fun p hp=>(hok p hp).2),fun x hx=>?_,?_⟩,.inl ?_⟩
  ·obtain ⟨i,hi,rfl⟩:=List.mem_map.1 hx
   have hi':i<m.length:=by simpa using hi
   rw [hy]
   exact visit_one hr (by omega) hb1 (m.length-1) [] (by omega) (by simp) (by simp) i (by omega) hi'
  ·rw [hlast,hy,visit_full hr (by omega) hb1 (m.length-1) [] (by omega) (by simp) htop,full_len hr (by omega) (by omega)]
   omega
  ·rw [hy]
   exact tot_cap hr hb1 (m.length-1) [] (by omega) (by simp) htop
theorem StepsOK.last_le {m:List (List Int)} {bound:Int} {st:List Int} {total:Int} (h:StepsOK m bound st total) (h1:1<=m.length):lastOf st+(m.length-1:Nat)<=total:=by
 have hl:=h.len
 have hs:=h.sum
 obtain ⟨p,c,rfl,hp⟩:=snoc_split (p:=st) (k:=m.length-1) (by omega)
 have e:lastOf (p++[c])=c:=by simp [lastOf]
 rw [e]
 have h2:=sum_ge_len p (fun x hx=>h.one x (by simp [hx]))
 simp only [List.sum_append,List.sum_cons,List.sum_nil] at hs
 omega
theorem enum_ok {m:List (List Int)} (h:isRedB m=true) {b:Nat} (hb1:(b:Int)<1073741824) (exact:Bool) (hlen:(collL m b exact).length<=1073741824):EnumOK m b exact:=by
 have hr:=red_ok h
 refine ⟨hr.form,hr.s64,redM_of h,by omega,fun _=>hb1,fun h1=>?_,hlen,fun x hx=>vec_coll hr (by omega) hb1 exact x hx,nodup_canon hr (by omega) exact⟩
 have hd1:1<=ent m 0 0:=E_pos (m:=ent m) hr.pos (k:=0) (by omega)
 have q:((b:Int) / ent m 0 0).toNat<=b:=by
  have :=Int.ediv_le_self (a:=(b:Int)) (ent m 0 0) (by omega)
  omega
 obtain ⟨s1,_⟩:=isq_spec ((b:Int) / ent m 0 0).toNat
 rcases Nat.lt_or_ge (isq ((b:Int) / ent m 0 0).toNat) 1048577 with h2 |h2
 ·omega
 ·have :=Nat.mul_le_mul h2 h2
  omega
end Go.Proofs.YtpcgfpmiphiacaaGreat
namespace Go.Proofs.YtpcgfpmiphiacaaGreat
open Go.RowKit
def RowI (w:World) (b:Nat) (zs:List Int):Prop:=∃cs:List Value,VRow w b 149 cs/\zs.length*2<=cs.length/\VsOf w cs zs
section
variable {w w':World} {b:Nat} {zs:List Int}
theorem VsOf.map {vs:List Value} (h:VsOf w vs zs) (hk:∀{g:Bool} {B:Option Addr} {n c:Nat} {z:Int},IntV w g B n c z->IntV w' g B n c z):VsOf w' vs zs:=fun i z hz=>by
 obtain ⟨g,B,n,c,a1,a2,a3⟩:=h i z hz
 exact ⟨g,B,n,c,a1,a2,hk a3⟩
theorem RowI.ext (h:RowI w b zs) (hx:Ext w w'):RowI w' b zs:=by
 obtain ⟨cs,h1,h2,h3⟩:=h
 exact ⟨cs,h1.ext hx,h2,h3.map fun hz=>hz.ext hx⟩
theorem RowI.oth {T:TypeId} (h:RowI w b zs) (ho:Oth T w w') (h1:149≠T) (h2:271≠T):RowI w' b zs:=by
 obtain ⟨cs,a1,a2,a3⟩:=h
 exact ⟨cs,ho _ _ _ _ h1 a1,a2,a3.map fun hz=>hz.oth ho h2⟩
theorem RowI.heap (h:RowI w b zs):∃cs,w.heap[b]? =some (.cells cs 149 (0,0)):=by
 obtain ⟨cs,h1,_⟩:=h
 exact ⟨_,h1⟩
theorem RowI.lt (h:RowI w b zs):b<w.heap.size:=by
 obtain ⟨cs,h1⟩:=h.heap
 exact lt_of_heap h1
theorem RowI.far (h:RowI w b zs) {p:Addr} {cs:Array Value} {fr:Nat×Nat} (hp:w.heap[p.block]? =some (.cells cs 149 fr)) (hne:b≠p.block) (u:Value):RowI (w.setCell p u) b zs:=by
 obtain ⟨cs,h1,h2,h3⟩:=h
 exact ⟨cs,h1.far hne u,h2,h3.map fun hz=>hz.setCell hp (by decide) u⟩
theorem RowI.far2 (h:RowI w b zs) {b' i j:Nat} {cs:Array Value} (hp:w.heap[b']? =some (.cells cs 149 (0,0))) (hne:b≠b') (u v:Value):RowI ((w.setCell ⟨b',i,none⟩ u).setCell ⟨b',j,none⟩ v) b zs:=
 (h.far (p:=⟨b',i,none⟩) hp hne u).far (p:=⟨b',j,none⟩) (heap_setCell_self hp u) hne v
theorem RowI.cells (h:RowI w b zs) {j:Nat} {z:Int} (hz:zs[j]? =some z):∃g B n c,w.cell? ⟨b,j*2,none⟩=some (.bool g)/\w.cell? ⟨b,j*2+1,none⟩=some (.slice B n c)/\IntV w g B n c z/\w.frozen? ⟨b,j*2,none⟩=false/\w.frozen? ⟨b,j*2+1,none⟩=false:=by
 obtain ⟨cs,h1,h2,h3⟩:=h
 obtain ⟨g,B,n,c,a1,a2,a3⟩:=h3 j z hz
 exact ⟨g,B,n,c,h1.cell a1,h1.cell a2,a3,h1.frozen _,h1.frozen _⟩
theorem RowI.set (h:RowI w b zs) {j:Nat} (hj:j<zs.length) {g:Bool} {B:Option Addr} {n c:Nat} {z:Int} (hz:IntV w g B n c z):RowI ((w.setCell ⟨b,j*2,none⟩ (.bool g)).setCell ⟨b,j*2+1,none⟩ (.slice B n c)) b (zs.set j z):=by
 obtain ⟨cs,h1,h2,h3⟩:=h
 have key:∀{s':Bool} {B':Option Addr} {n' c':Nat} {z:Int},IntV w s' B' n' c' z->IntV ((w.setCell ⟨b,j*2,none⟩ (.bool g)).setCell ⟨b,j*2+1,none⟩ (.slice B n c)) s' B' n' c' z:=fun hz'=>
  (hz'.setCell (p:=⟨b,j*2,none⟩) h1 (by decide) _).setCell (p:=⟨b,j*2+1,none⟩) (h1.set _ _) (by decide) _
 refine ⟨_,(h1.set (j*2) (.bool g)).set (j*2+1) (.slice B n c),by simp;omega,fun i y hy=>?_⟩
 by_cases e:i=j
 ·subst e
  rw [List.getElem?_set_self hj] at hy
  injection hy with hy
  subst hy
  refine ⟨g,B,n,c,?_,?_,key hz⟩
  ·rw [List.getElem?_set_ne (by omega),List.getElem?_set_self (by omega)]
  ·rw [List.getElem?_set_self (by rw [List.length_set];omega)]
 ·rw [List.getElem?_set_ne (by omega)] at hy
  obtain ⟨g',B',n',c',a1,a2,a3⟩:=h3 i y hy
  refine ⟨g',B',n',c',?_,?_,key a3⟩
  ·rw [List.getElem?_set_ne (by omega),List.getElem?_set_ne (by omega)];exact a1
  ·rw [List.getElem?_set_ne (by omega),List.getElem?_set_ne (by omega)];exact a2
theorem RowI.drewN (h:RowI w b zs) (k:Nat):RowI (w.drewN k) b zs:=h.ext inferInstance
end
def headV (n:Nat) (h:Nat×Nat):Value:= .slice (some ⟨h.1,0,none⟩) n h.2
structure OwnI (w:World) (lo g n:Nat) (hs:List (Nat×Nat)) (a:List (List Int)):Prop where
 head:VRow w g 94 (hs.map (headV n))
 glo:lo<=g
 len:hs.length=a.length
 dist:∀(i j:Nat) (p q:Nat×Nat),hs[i]? =some p->hs[j]? =some q->i≠j->p.1≠q.1
 new:∀h∈hs,lo<=h.1/\n<=h.2/\h.2<=9223372036854775807
 all:AllLen a n
 row:∀(i:Nat) (h:Nat×Nat) (r:List Int),hs[i]? =some h->a[i]? =some r->RowI w h.1 r
section
variable {w w':World} {lo g n:Nat} {hs:List (Nat×Nat)} {a:List (List Int)}
theorem OwnI.ext (h:OwnI w lo g n hs a) (hx:Ext w w'):OwnI w' lo g n hs a:=
 ⟨h.head.ext hx,h.glo,h.len,h.dist,h.new,h.all,fun i p r hp hr=>(h.row i p r hp hr).ext hx⟩
theorem OwnI.oth {T:TypeId} (h:OwnI w lo g n hs a) (ho:Oth T w w') (h0:94≠T) (h1:149≠T) (h2:271≠T):OwnI w' lo g n hs a:=
 ⟨ho _ _ _ _ h0 h.head,h.glo,h.len,h.dist,h.new,h.all,fun i p r hp hr=>(h.row i p r hp hr).oth ho h1 h2⟩
theorem OwnI.hdr (h:OwnI w lo g n hs a) {i:Nat} (hi:i<a.length):∃b c,hs[i]? =some (b,c)/\w.cell? ⟨g,i,none⟩=some (.slice (some ⟨b,0,none⟩) n c)/\w.frozen? ⟨g,i,none⟩=false/\n<=c/\c<=9223372036854775807/\b<w.heap.size/\g<w.heap.size:=by
 have hi':i<hs.length:=by rw [h.len];exact hi
 obtain ⟨⟨b,c⟩,hp⟩:∃p,hs[i]? =some p:=⟨_,List.getElem?_eq_getElem hi'⟩
 obtain ⟨r,hr⟩:∃r,a[i]? =some r:=⟨_,List.getElem?_eq_getElem hi⟩
 have hn:=h.new _ (List.mem_of_getElem? hp)
 exact ⟨b,c,hp,h.head.cell (by simp [hp,headV]),h.head.frozen _,hn.2.1,hn.2.2,(h.row i _ r hp hr).lt,h.head.lt⟩
theorem ent_get {m:List (List Int)} {i j:Nat} {r:List Int} (hr:m[i]? =some r) (hj:j<r.length):r[j]? =some (ent m i j):=by
 unfold ent
 simp [hr,hj]
theorem OwnI.entry (h:OwnI w lo g n hs a) {i j b c:Nat} (hp:hs[i]? =some (b,c)) (hi:i<a.length) (hj:j<n):∃s B k d,w.cell? ⟨b,j*2,none⟩=some (.bool s)/\w.cell? ⟨b,j*2+1,none⟩=some (.slice B k d)/\IntV w s B k d (ent a i j)/\w.frozen? ⟨b,j*2,none⟩=false/\w.frozen? ⟨b,j*2+1,none⟩=false:=by
 obtain ⟨r,hr⟩:∃r,a[i]? =some r:=⟨_,List.getElem?_eq_getElem hi⟩
 exact (h.row i _ r hp hr).cells (ent_get hr (by rw [h.all r (List.mem_of_getElem? hr)];exact hj))
def setE (a:List (List Int)) (i j:Nat) (z:Int):List (List Int):=a.set i ((a.getD i []).set j z)
theorem ent_setE {a:List (List Int)} {i j:Nat} {z:Int} (hi:i<a.length) (hj:j<(a.getD i []).length) (x y:Nat):ent (setE a i j z) x y=if x=i/\y=j then z else ent a x y:=by
 unfold ent setE
 by_cases hx:x=i
 ·subst hx
  by_cases hy:y=j
  ·subst hy
   simp only [List.getD_eq_getElem?_getD] at hj |-
   rw [List.getElem?_set_self hi,Option.getD_some,List.getElem?_set_self hj];simp
  ·simp only [List.getD_eq_getElem?_getD]
   rw [List.getElem?_set_self hi,Option.getD_some,List.getElem?_set_ne (by omega)];simp [hy]
 ·simp only [List.getD_eq_getElem?_getD]
  rw [List.getElem?_set_ne (by omega)];simp [hx]
theorem setE_len (a:List (List Int)) (i j:Nat) (z:Int):(setE a i j z).length=a.length:=by simp [setE]
theorem OwnI.set (h:OwnI w lo g n hs a) {i j b c:Nat} (hp:hs[i]? =some (b,c)) (hi:i<a.length) (hj:j<n) {s:Bool} {B:Option Addr} {k d:Nat} {z:Int} (hz:IntV w s B k d z):
  OwnI ((w.setCell ⟨b,j*2,none⟩ (.bool s)).setCell ⟨b,j*2+1,none⟩ (.slice B k d)) lo g n hs (setE a i j z):=by
 obtain ⟨r,hr⟩:∃r,a[i]? =some r:=⟨_,List.getElem?_eq_getElem hi⟩
 have hR:=h.row i _ r hp hr
 have hl:=h.all r (List.mem_of_getElem? hr)
 obtain ⟨cs,hcs⟩:=hR.heap
 have hgd:a.getD i []=r:=by simp [List.getD,hr]
 have hgb:g≠b:=fun e=>by
  have h1:=h.head
  unfold VRow at h1
  rw [e,hcs] at h1
  injection h1 with h1
  injection h1 with _ h1
  exact absurd h1 (by decide)
 refine ⟨(h.head.far (p:=⟨b,j*2,none⟩) hgb _).far (p:=⟨b,j*2+1,none⟩) hgb _,h.glo,by rw [setE_len];exact h.len,h.dist,h.new,fun x hx=>?_,fun i' p' r' hp' hr'=>?_⟩
 ·rcases List.mem_or_eq_of_mem_set hx with hx |rfl
  ·exact h.all x hx
  ·rw [hgd,List.length_set,hl]
 ·by_cases e:i'=i
  ·subst e
   rw [hp] at hp'
   injection hp' with hp'
   subst hp'
   unfold setE at hr'
   rw [List.getElem?_set_self hi,hgd] at hr'
   injection hr' with hr'
   subst hr'
   exact hR.set (by omega) hz
  ·unfold setE at hr'
   rw [List.getElem?_set_ne (by omega)] at hr'
   exact (h.row i' p' r' hp' hr').far2 hcs (h.dist _ _ _ _ hp' hp e) _ _
end
def NatX (base:Nat) (w:World) (A:Option Addr) (n c:Nat) (z:Int):Prop:=∃l:List Int,n=l.length/\Own w base 271 1 A n c (l.map (Value.int .u32))/\Limbs l/\Tight l/\val l=z
theorem NatX.ext {base:Nat} {w w':World} {A:Option Addr} {n c:Nat} {z:Int} (h:NatX base w A n c z) (hx:Ext w w'):NatX base w' A n c z:=by
 obtain ⟨l,rfl,h1,h2⟩:=h
 exact ⟨l,rfl,h1.ext hx,h2⟩
theorem NatX.set {base:Nat} {w:World} {A:Option Addr} {n c:Nat} {z:Int} (h:NatX base w A n c z) {p:Addr} (hp:p.block<base) (u:Value):NatX base (w.setCell p u) A n c z:=by
 obtain ⟨l,rfl,h1,h2⟩:=h
 refine ⟨l,rfl,⟨h1.1,?_⟩,h2⟩
 rcases h1.2 with hv |⟨g,cap,cur,hv,g1,g2,g3⟩
 ·exact .inl hv
 ·exact .inr ⟨g,cap,cur,hv,g1,(Below.heap_setCell w p u g (by omega)).trans g2,g3⟩
end Go.Proofs.YtpcgfpmiphiacaaGreat
