/- La1 La2 La3 La4 La5 Base Int1 -/
import Derived.Test.YtpcgfpmiphiacaaGreatProg
import Derived.WalkKit
import Derived.WalkSpells
import Derived.WalkLawsBesides
import Derived.Lib.Hide
import Derived.Deep.QuietTactic
import Derived.BigQuiet
import Derived.Deep.Draws
import Derived.Laws.Rows
set_option maxHeartbeats 8000000
set_option linter.unusedVariables false
set_option linter.unusedSimpArgs false
set_option linter.constructorNameAsVariable false
namespace Go.Proofs.YtpcgfpmiphiacaaGreat
namespace La
abbrev Vec:=Nat->Rat
def lap (D:List Vec->Rat) (c:Nat):List Vec->List Vec->Rat
 |_,[]=>0
 |pre,r::rest=>r c*D (pre++rest)-lap D c (pre++[r]) rest
def det:List Nat->List Vec->Rat
 |[],[]=>1
 |[],_::_=>0
 |c::cs,R=>lap (det cs) c [] R
def addm (a:Vec) (t:Rat) (b:Vec):Vec:=fun j=>a j+t*b j
def Lin (D:List Vec->Rat):Prop:=∀X Z a t b,D (X++addm a t b::Z)=D (X++a::Z)+t*D (X++b::Z)
def Alt (D:List Vec->Rat):Prop:=∀X Z a,D (X++a::a::Z)=0
theorem lap_lin_pre {D:List Vec->Rat} (h:Lin D) (c:Nat) (rest:List Vec):∀(P Q:List Vec) (a:Vec) (t:Rat) (b:Vec),
  lap D c (P++addm a t b::Q) rest=lap D c (P++a::Q) rest+t*lap D c (P++b::Q) rest:=by
 induction rest with
 |nil=>intro P Q a t b;simp only [lap];grind
 |cons r rest ih=>
  intro P Q a t b
  have h1:=h P (Q++rest) a t b
  have h2:=ih P (Q++[r]) a t b
  simp only [lap] at h1 h2 |-
  grind
theorem lap_lin {D:List Vec->Rat} (h:Lin D) (c:Nat) (Z:List Vec) (a:Vec) (t:Rat) (b:Vec) (X:List Vec):∀(P:List Vec),
  lap D c P (X++addm a t b::Z)=lap D c P (X++a::Z)+t*lap D c P (X++b::Z):=by
 induction X with
 |nil=>
  intro P
  have h1:=lap_lin_pre h c Z P [] a t b
  have h2:addm a t b c=a c+t*b c:=rfl
  simp only [lap,List.nil_append] at h1 |-
  grind
 |cons x X ih=>
  intro P
  have h1:=h (P++X) Z a t b
  have h2:=ih (P++[x])
  simp only [lap,List.cons_append] at h1 h2 |-
  grind
theorem lap_alt_pre {D:List Vec->Rat} (h:Alt D) (c:Nat) (rest:List Vec):∀(P Q:List Vec) (a:Vec),lap D c (P++a::a::Q) rest=0:=by
 induction rest with
 |nil=>intro P Q a;simp [lap]
 |cons r rest ih=>
  intro P Q a
  have h1:=h P (Q++rest) a
  have h2:=ih P (Q++[r]) a
  simp only [lap] at h1 h2 |-
  grind
theorem lap_alt {D:List Vec->Rat} (h:Alt D) (c:Nat) (Z:List Vec) (a:Vec) (X:List Vec):∀(P:List Vec),lap D c P (X++a::a::Z)=0:=by
 induction X with
 |nil=>
  intro P
  have h1:=lap_alt_pre h c Z P [] a
  simp only [lap,List.nil_append] at h1 |-
  grind
 |cons x X ih=>
  intro P
  have h1:=h (P++X) Z a
  have h2:=ih (P++[x])
  simp only [lap,List.cons_append] at h1 h2 |-
  grind
theorem det_lin (cs:List Nat):Lin (det cs):=by
 induction cs with
 |nil=>intro X Z a t b;cases X<;>(simp only [det,List.nil_append,List.cons_append];grind)
 |cons c cs ih=>intro X Z a t b;exact lap_lin ih c Z a t b X []
theorem det_alt (cs:List Nat):Alt (det cs):=by
 induction cs with
 |nil=>intro X Z a;cases X<;>simp [det]
 |cons c cs ih=>intro X Z a;exact lap_alt ih c Z a X []
theorem swap {D:List Vec->Rat} (hl:Lin D) (ha:Alt D) (X Z:List Vec) (a b:Vec):D (X++a::b::Z)=-D (X++b::a::Z):=by
 have h0:=ha X Z (addm a 1 b)
 have h1:=hl X (addm a 1 b::Z) a 1 b
 have h2:=hl (X++[a]) Z a 1 b
 have h3:=hl (X++[b]) Z a 1 b
 have h4:=ha X Z a
 have h5:=ha X Z b
 grind
theorem rep {D:List Vec->Rat} (hl:Lin D) (ha:Alt D) (a:Vec) (Z Y:List Vec):∀X:List Vec,D (X++a::(Y++a::Z))=0:=by
 induction Y with
 |nil=>intro X;exact ha X Z a
 |cons y Y ih=>
  intro X
  have h1:=swap hl ha X (Y++a::Z) a y
  have h2:=ih (X++[y])
  grind
theorem rowop {D:List Vec->Rat} (hl:Lin D) (ha:Alt D) (r:Vec) (t:Vec->Rat) (Z:List Vec):∀Y:List Vec,D (r::(Y++Z.map fun x=>addm x (t x) r))=D (r::(Y++Z)):=by
 induction Z with
 |nil=>grind
 |cons z Z ih=>
  intro Y
  have h1:=hl (r::Y) (Z.map fun x=>addm x (t x) r) z (t z) r
  have h2:=rep hl ha r (Z.map fun x=>addm x (t x) r) Y []
  have h3:=ih (Y++[z])
  grind
theorem lap_zero {D:List Vec->Rat} (c:Nat) (R:List Vec) (h:∀r∈R,r c=0):∀P,lap D c P R=0:=by
 induction R with
 |nil=>intro P;rfl
 |cons r R ih=>
  intro P
  have h2:=h r (by simp)
  simp only [lap]
  grind
theorem det_elim (c:Nat) (cs:List Nat) (r:Vec) (R:List Vec) (hr:r c≠0):det (c::cs) (r::R)=r c*det cs (R.map fun x=>addm x (-(x c) / r c) r):=by
 have h1:=rowop (det_lin (c::cs)) (det_alt (c::cs)) r (fun x=>-(x c) / r c) R []
 simp only [List.nil_append] at h1
 rw [<-h1]
 have h2:∀P,lap (det cs) c P (R.map fun x=>addm x (-(x c) / r c) r)=0:=lap_zero c _ (fun x hx=>by
  obtain ⟨y,_,rfl⟩:=List.mem_map.1 hx
  simp only [addm]
  grind)
 show lap (det cs) c [] (r::_)=_
 simp only [lap]
 grind
def IsZ (x:Rat):Prop:=∃z:Int,x=(z:Rat)
theorem IsZ.sub {x y:Rat} (h:IsZ x) (k:IsZ y):IsZ (x-y):=by
 obtain ⟨a,rfl⟩:=h;obtain ⟨b,rfl⟩:=k;exact ⟨a-b,by grind⟩
theorem IsZ.mul {x y:Rat} (h:IsZ x) (k:IsZ y):IsZ (x*y):=by
 obtain ⟨a,rfl⟩:=h;obtain ⟨b,rfl⟩:=k;exact ⟨a*b,by grind⟩
theorem IsZ.zero:IsZ 0:=⟨0,by simp⟩
theorem IsZ.one:IsZ 1:=⟨1,by simp⟩
theorem lap_int {D:List Vec->Rat} (c:Nat) (hD:∀R:List Vec,(∀r∈R,∀j,IsZ (r j))->IsZ (D R)) (R:List Vec):∀P:List Vec,(∀r∈P,∀j,IsZ (r j))->(∀r∈R,∀j,IsZ (r j))->IsZ (lap D c P R):=by
 induction R with
 |nil=>intro P _ _;exact IsZ.zero
 |cons r R ih=>
  intro P hP hR
  refine IsZ.sub (IsZ.mul (hR r (by simp) c) (hD _ ?_)) (ih _ ?_ (fun x hx=>hR x (List.mem_cons_of_mem _ hx)))
  ·intro x hx
   rcases List.mem_append.1 hx with hx |hx
   ·exact hP x hx
   simp_all
  ·intro x hx
   rcases List.mem_append.1 hx with hx |hx
   ·exact hP x hx
   simp_all
theorem det_int (cs:List Nat):∀R:List Vec,(∀r∈R,∀j,IsZ (r j))->IsZ (det cs R):=by
 induction cs with
 |nil=>intro R _;cases R<;>simp only [det];exact IsZ.one;exact IsZ.zero
 |cons c cs ih=>intro R hR;exact lap_int c ih R [] (by simp) hR
/-! ## Elimination -/
abbrev Mx:=Nat->Nat->Rat
def elim (f:Mx) (k:Nat):Mx:=fun i j=>f i j-f i k*f k j / f k k
def S (f:Mx):Nat->Mx
 |0=>f
 |k+1=>elim (S f k) k
def dd (f:Mx):Nat->Rat
 |0=>1
 |k+1=>dd f k*S f k k k
def Piv (f:Mx) (k:Nat):Prop:=∀l,l<k->S f l l l≠0
def prodFrom (f:Mx) (l:Nat):Nat->Rat
 |0=>1
 |m+1=>S f l l l*prodFrom f (l+1) m
theorem prodFrom_succ (f:Mx) (m:Nat):∀l,prodFrom f l (m+1)=prodFrom f l m*S f (l+m) (l+m) (l+m):=by
 induction m with
 |zero=>intro l;simp [prodFrom]
 |succ m ih=>
  intro l
  show S f l l l*prodFrom f (l+1) (m+1)=S f l l l*prodFrom f (l+1) m*_
  grind
theorem dd_prod (f:Mx) (k:Nat):dd f k=prodFrom f 0 k:=by
 induction k with
 |zero=>rfl
 |succ k ih=>rw [prodFrom_succ,<-ih,Nat.zero_add];rfl
theorem det_stage (f:Mx) (i j:Nat) (m:Nat):∀l,(∀t,l<=t->t<l+m->S f t t t≠0)->
  det (List.range' l m++[j]) ((List.range' l m).map (fun x=>S f l x)++[S f l i])=prodFrom f l m*S f (l+m) i j:=by
 induction m with
 |zero=>intro l _;simp only [List.range'_zero,List.map_nil,List.nil_append,det,lap,prodFrom];grind
 |succ m ih=>
  intro l h
  rw [List.range'_succ]
  simp only [List.map_cons,List.cons_append]
  rw [det_elim l _ _ _ (h l (by omega) (by omega))]
  have h1:=ih (l+1) (fun t h1 h2=>h t (by omega) (by omega))
  have e:∀x,addm (S f l x) (-(S f l x l) / S f l l l) (S f l l)=S f (l+1) x:=by
   intro x;funext y
   simp only [addm,S,elim]
   grind
  simp only [List.map_append,List.map_map,List.map_cons,List.map_nil,Function.comp_def,e]
  rw [h1,show l+1+m=l+(m+1) by omega,<-Rat.mul_assoc]
  rfl
theorem stage_int (f:Mx) (hf:∀i j,IsZ (f i j)) (k:Nat) (hp:Piv f k) (i j:Nat):IsZ (dd f k*S f k i j):=by
 have h:=det_stage f i j k 0 (fun t _ h2=>hp t (by omega))
 rw [Nat.zero_add,<-dd_prod] at h
 rw [<-h]
 refine det_int _ _ fun r hr c=>?_
 rcases List.mem_append.1 hr with hr |hr
 ·obtain ⟨x,_,rfl⟩:=List.mem_map.1 hr
  exact hf x c
 ·obtain rfl:r=S f 0 i:=by grind
  exact hf i c
end La
namespace La
def Sym (f:Mx):Prop:=∀i j,f i j=f j i
theorem elim_sym {f:Mx} (h:Sym f) (k:Nat):Sym (elim f k):=fun i j=>by
 simp only [elim];rw [h i j,h i k,h k j,Rat.mul_comm]
theorem S_sym {f:Mx} (h:Sym f) (k:Nat):Sym (S f k):=by
 induction k with
 |zero=>exact h
 |succ k ih=>exact elim_sym ih k
theorem S_lt_left {f:Mx} (k:Nat):Piv f k->∀i,i<k->∀j,S f k i j=0:=by
 induction k with
 |zero=>grind
 |succ k ih=>
  intro h i hi j
  show elim (S f k) k i j=0
  simp only [elim]
  have hk:=h k (by omega)
  by_cases e:i=k
  ·grind
  ·have h1:=ih (fun l hl=>h l (by omega)) i (by omega)
   grind
theorem S_lt_right {f:Mx} (k:Nat):Piv f k->∀j,j<k->∀i,S f k i j=0:=by
 induction k with
 |zero=>grind
 |succ k ih=>
  intro h j hj i
  show elim (S f k) k i j=0
  simp only [elim]
  have hk:=h k (by omega)
  by_cases e:j=k
  ·grind
  ·have h1:=ih (fun l hl=>h l (by omega)) j (by omega)
   grind
/-! ## Vector i is replaced by b_i - q b_j -/
def lop (i j:Nat) (q:Rat) (f:Mx):Mx:=fun x y=>f x y-(if x=i then q*f j y else 0)
def rop (i j:Nat) (q:Rat) (f:Mx):Mx:=fun x y=>f x y-(if y=i then q*f x j else 0)
def redf (i j:Nat) (q:Rat) (f:Mx):Mx:=rop i j q (lop i j q f)
theorem elim_lop {i j k:Nat} (q:Rat) (f:Mx) (h:k≠i):elim (lop i j q f) k=lop i j q (elim f k):=by
 funext x y
 simp only [elim,lop]
 grind
theorem elim_rop {i j k:Nat} (q:Rat) (f:Mx) (h:k≠i):elim (rop i j q f) k=rop i j q (elim f k):=by
 funext x y
 simp only [elim,rop]
 grind
theorem S_red_le {i j:Nat} (q:Rat) (f:Mx) (l:Nat):l<=i->S (redf i j q f) l=redf i j q (S f l):=by
 induction l with
 |zero=>intro _;rfl
 |succ l ih=>
  intro h
  show elim (S (redf i j q f) l) l=redf i j q (elim (S f l) l)
  rw [ih (by omega)]
  unfold redf
  rw [elim_rop q _ (by omega),elim_lop q _ (by omega)]
theorem red_zero {i j:Nat} (q:Rat) {f:Mx} (h1:∀y,f j y=0) (h2:∀x,f x j=0):redf i j q f=f:=by
 funext x y
 simp only [redf,rop,lop]
 grind
theorem S_red_gt {i j:Nat} (q:Rat) {f:Mx} (hj:j<i) (l:Nat):j<l->Piv f l->S (redf i j q f) l=S f l:=by
 induction l with
 |zero=>grind
 |succ l ih=>
  intro h hp
  by_cases hl:l+1<=i
  ·rw [S_red_le q f (l+1) hl]
   exact red_zero q (S_lt_left _ hp j h) (fun x=>S_lt_right _ hp j h x)
  ·show elim (S (redf i j q f) l) l=elim (S f l) l
   rw [ih (by omega) (fun t ht=>hp t (by omega))]
theorem S_red_piv {i j:Nat} (q:Rat) {f:Mx} (hj:j<i) (l:Nat) (hp:Piv f l):S (redf i j q f) l l l=S f l l l:=by
 by_cases h:l<=j
 ·rw [S_red_le q f l (by omega)]
  simp only [redf,rop,lop]
  grind
 ·rw [S_red_gt q hj l (by omega) hp]
theorem Piv.le {f:Mx} {k l:Nat} (h:Piv f k) (hl:l<=k):Piv f l:=fun t ht=>h t (by omega)
theorem dd_red {i j:Nat} (q:Rat) {f:Mx} (hj:j<i) (k:Nat):Piv f k->dd (redf i j q f) k=dd f k:=by
 induction k with
 |zero=>intro _;rfl
 |succ k ih=>
  intro h
  show dd (redf i j q f) k*_=dd f k*_
  rw [ih (h.le (by omega)),S_red_piv q hj k (h.le (by omega))]
/-! ## The neighbours p and p + 1 are exchanged -/
def sg (p x:Nat):Nat:=if x=p then p+1 else if x=p+1 then p else x
def swf (p:Nat) (f:Mx):Mx:=fun x y=>f (sg p x) (sg p y)
theorem sg_ne {p x:Nat} (h1:x≠p) (h2:x≠p+1):sg p x=x:=by simp [sg,h1,h2]
theorem sg_p (p:Nat):sg p p=p+1:=by simp [sg]
theorem sg_q (p:Nat):sg p (p+1)=p:=by simp [sg]
theorem elim_swf {p k:Nat} (f:Mx) (h1:k≠p) (h2:k≠p+1):elim (swf p f) k=swf p (elim f k):=by
 funext x y
 simp only [elim,swf,sg_ne h1 h2]
theorem S_swf_le {p:Nat} (f:Mx) (l:Nat):l<=p->S (swf p f) l=swf p (S f l):=by
 induction l with
 |zero=>intro _;rfl
 |succ l ih=>
  intro h
  show elim (S (swf p f) l) l=swf p (elim (S f l) l)
  rw [ih (by omega),elim_swf _ (by omega) (by omega)]
theorem elim_two (g:Mx) (p q:Nat) (h1:g p p≠0) (h2:g q q≠0) (h3:g p p*g q q-g p q*g q p≠0) (x y:Nat):
  elim (elim g p) q x y=elim (elim g q) p x y:=by
 have e1:g q q-g q p*g p q / g p p≠0:=by grind
 simp only [elim]
 grind
theorem S_swf_gt {p:Nat} {f:Mx} (hp:Piv f (p+2)) (hq:S f p (p+1) (p+1)≠0) (l:Nat):S (swf p f) (p+2+l)=swf p (S f (p+2+l)):=by
 induction l with
 |zero=>
  show elim (elim (S (swf p f) p) p) (p+1)=swf p (elim (elim (S f p) p) (p+1))
  rw [S_swf_le f p (Nat.le_refl _)]
  funext x y
  have h1:=hp p (by omega)
  have h2:elim (S f p) p (p+1) (p+1)≠0:=hp (p+1) (by omega)
  have h3:S f p p p*S f p (p+1) (p+1)-S f p p (p+1)*S f p (p+1) p≠0:=by
   intro e;apply h2;simp only [elim];grind
  have h4:=elim_two (S f p) p (p+1) h1 hq h3 (sg p x) (sg p y)
  simp only [elim,swf,sg_p,sg_q] at h4 |-
  grind
 |succ l ih=>
  show elim (S (swf p f) (p+2+l)) (p+2+l)=swf p (elim (S f (p+2+l)) (p+2+l))
  rw [ih,elim_swf _ (by omega) (by omega)]
theorem dd_swf_le {p:Nat} (f:Mx) (k:Nat):k<=p->dd (swf p f) k=dd f k:=by
 induction k with
 |zero=>intro _;rfl
 |succ k ih=>
  intro h
  show dd (swf p f) k*S (swf p f) k k k=dd f k*S f k k k
  rw [ih (by omega),S_swf_le f k (by omega)]
  simp only [swf,sg_ne (by omega:k≠p) (by omega:k≠p+1)]
theorem dd_swf_at {p:Nat} (f:Mx):dd (swf p f) (p+1)=dd f p*S f p (p+1) (p+1):=by
 show dd (swf p f) p*S (swf p f) p p p=_
 rw [dd_swf_le f p (Nat.le_refl _),S_swf_le f p (Nat.le_refl _)]
 simp only [swf,sg_p]
theorem S_swf_mid {p:Nat} (f:Mx):S (swf p f) (p+1) (p+1) (p+1)=S f p p p-S f p p (p+1)*S f p (p+1) p / S f p (p+1) (p+1):=by
 show elim (S (swf p f) p) p (p+1) (p+1)=_
 rw [S_swf_le f p (Nat.le_refl _)]
 simp only [elim,swf,sg_p,sg_q]
theorem dd_swf_gt {p:Nat} {f:Mx} (hp:Piv f (p+2)) (hq:S f p (p+1) (p+1)≠0) (l:Nat):dd (swf p f) (p+2+l)=dd f (p+2+l):=by
 induction l with
 |zero=>
  show dd (swf p f) (p+1)*S (swf p f) (p+1) (p+1) (p+1)=dd f p*S f p p p*elim (S f p) p (p+1) (p+1)
  rw [dd_swf_at,S_swf_mid]
  simp only [elim]
  have h1:=hp p (by omega)
  grind
 |succ l ih=>
  show dd (swf p f) (p+2+l)*S (swf p f) (p+2+l) (p+2+l) (p+2+l)=dd f (p+2+l)*S f (p+2+l) (p+2+l) (p+2+l)
  rw [ih,S_swf_gt hp hq l]
  simp only [swf,sg_ne (by omega:p+2+l≠p) (by omega:p+2+l≠p+1)]
end La
namespace La
theorem sq_nonneg (a:Rat):0<=a*a:=by
 rcases (by grind:0<=a∨0<=-a) with h |h
 ·exact Rat.mul_nonneg h h
 ·have :=Rat.mul_nonneg h h;grind
theorem div_mul {x s:Rat} (h:s≠0):x / s*s=x:=by grind
theorem nonneg_of_mul {y s:Rat} (hs:0<s) (h:0<=y*s):0<=y:=by
 rcases (by grind:0<=y∨0< -y) with h1 |h1
 ·grind
 ·have :=Rat.mul_pos h1 hs;grind
theorem pos_of_mul {y s:Rat} (hs:0<s) (h:0<y*s):0<y:=by
 rcases (by grind:0<y∨0<=-y) with h1 |h1
 ·grind
 ·have :=Rat.mul_nonneg h1 (Rat.le_of_lt hs);grind
theorem div_nonneg {x s:Rat} (hx:0<=x) (hs:0<s):0<=x / s:=
 nonneg_of_mul hs (by rw [div_mul (by grind)];grind)
theorem div_le {x y s:Rat} (hs:0<s) (h:y<=x*s):y / s<=x:=by
 have h1:y / s*s=y:=div_mul (by grind)
 have :=nonneg_of_mul (y:=x-y / s) hs (by grind)
 grind
theorem mul_le_left {a b c:Rat} (hc:0<=c) (h:a<=b):c*a<=c*b:=Rat.mul_le_mul_of_nonneg_left h hc
theorem le_of_mul {a b c:Rat} (hc:0<c) (h:c*a<=c*b):a<=b:=by
 have :=nonneg_of_mul (y:=b-a) hc (by grind)
 grind
def Pos (f:Mx) (n:Nat):Prop:=∀l,l<n->0<S f l l l
theorem Pos.piv {f:Mx} {n:Nat} (h:Pos f n):Piv f n:=fun l hl=>by have :=h l hl;grind
theorem Pos.le {f:Mx} {n m:Nat} (h:Pos f n) (hm:m<=n):Pos f m:=fun l hl=>h l (by omega)
theorem dd_pos {f:Mx} (k:Nat):Pos f k->0<dd f k:=by
 induction k with
 |zero=>intro _;rfl
 |succ k ih=>intro h;exact Rat.mul_pos (ih (h.le (by omega))) (h k (by omega))
theorem Pos.red {f:Mx} {n i j:Nat} (q:Rat) (h:Pos f n) (hj:j<i):Pos (redf i j q f) n:=fun l hl=>by
 rw [S_red_piv q hj l (h.le (by omega)).piv];exact h l hl
theorem S_diag {f:Mx} (hs:Sym f) (l i:Nat):S f l i i=S f (l+1) i i+S f l i l*S f l i l / S f l l l:=by
 have :=S_sym hs l l i
 show _=elim (S f l) l i i+_
 simp only [elim]
 grind
theorem S_nonneg {f:Mx} {n:Nat} (hs:Sym f) (h:Pos f n) {i:Nat} (hi:i<n) (t:Nat):t<=i->0<S f (i-t) i i:=by
 induction t with
 |zero=>intro _;exact h i hi
 |succ t ih=>
  intro ht
  obtain ⟨l,hl⟩:∃l,i-(t+1)=l:=⟨_,rfl⟩
  have h2:=S_diag hs l i
  have h3:=div_nonneg (sq_nonneg (S f l i l)) (h l (by omega))
  grind
theorem S_pos {f:Mx} {n:Nat} (hs:Sym f) (h:Pos f n) {i l:Nat} (hi:i<n) (hl:l<=i):0<S f l i i:=by
 have :=S_nonneg hs h hi (i-l) (by omega)
 grind
theorem S_le {f:Mx} {n:Nat} (hs:Sym f) (h:Pos f n) (i l:Nat):l<=n->S f l i i<=f i i:=by
 induction l with
 |zero=>intro _;exact Rat.le_refl
 |succ l ih=>
  intro hl
  have h2:=S_diag hs l i
  have h3:=div_nonneg (sq_nonneg (S f l i l)) (h l (by omega))
  grind
theorem S_sq {f:Mx} {n:Nat} (hs:Sym f) (h:Pos f n) {i l:Nat} (hi:i<n) (hl:l<i):S f l i l*S f l i l<=f i i*S f l l l:=by
 have h1:=S_diag hs l i
 have h2:=S_pos hs h hi (l:=l+1) (by omega)
 have h3:=S_le hs h i l (by omega)
 have hp:=h l (by omega)
 have h4:S f l i l*S f l i l / S f l l l*S f l l l=S f l i l*S f l i l:=div_mul (by grind)
 have h5:=mul_le_left (Rat.le_of_lt hp) (show S f l i l*S f l i l / S f l l l<=f i i by grind)
 grind
theorem Pos.swf {f:Mx} {n p:Nat} (hs:Sym f) (h:Pos f n) (hp:p+1<n):Pos (swf p f) n:=fun l hl=>by
 have hq:=S_pos hs h (i:=p+1) (l:=p) hp (by omega)
 have hP:Piv f (p+2):=(h.le (by omega)).piv
 rcases (by omega:l<p∨l=p∨l=p+1∨p+2<=l) with h1 |h1 |h1 |h1
 ·rw [S_swf_le f l (by omega)]
  simp only [La.swf,sg_ne (by omega:l≠p) (by omega:l≠p+1)]
  exact h l hl
 ·subst h1
  rw [S_swf_le f l (Nat.le_refl _)]
  simp only [La.swf,sg_p]
  exact hq
 ·subst h1
  rw [S_swf_mid]
  have h2:=h p (by omega)
  have h3:=h (p+1) hp
  have h4:=S_diag hs p (p+1)
  have h5:=S_sym hs p p (p+1)
  rw [h5]
  obtain ⟨y,hy⟩:∃y,S f p (p+1) p*S f p (p+1) p / S f p (p+1) (p+1)=y:=⟨_,rfl⟩
  obtain ⟨z,hz⟩:∃z,S f p (p+1) p*S f p (p+1) p / S f p p p=z:=⟨_,rfl⟩
  have e1:y*S f p (p+1) (p+1)=S f p (p+1) p*S f p (p+1) p:=by grind
  have e2:z*S f p p p=S f p (p+1) p*S f p (p+1) p:=by grind
  rw [hy]
  rw [hz] at h4
  refine pos_of_mul hq ?_
  have h6:=Rat.mul_pos h2 h3
  have e3:(S f p p p-y)*S f p (p+1) (p+1)=S f p p p*S f (p+1) (p+1) (p+1):=by grind
  grind
 ·obtain ⟨t,rfl⟩:∃t,l=p+2+t:=⟨l-(p+2),by omega⟩
  rw [S_swf_gt hP (by grind) t]
  simp only [La.swf,sg_ne (by omega:p+2+t≠p) (by omega:p+2+t≠p+1)]
  exact h _ hl
theorem Sym.swf {f:Mx} (h:Sym f) (p:Nat):Sym (swf p f):=fun _ _=>h _ _
theorem Sym.red {f:Mx} (h:Sym f) (i j:Nat) (q:Rat):Sym (redf i j q f):=fun x y=>by
 have h1:=h x y
 have h2:=h j y
 have h3:=h x j
 simp only [redf,rop,lop]
 grind
theorem S_mean {f:Mx} {n:Nat} (hs:Sym f) (h:Pos f n) {r s:Nat} (hr:r<s) (hn:s<n) (t:Nat):t<=r->2*S f (r-t) r s<=S f (r-t) r r+S f (r-t) s s/\-(2*S f (r-t) r s)<=S f (r-t) r r+S f (r-t) s s:=by
 induction t with
 |zero=>
  intro _
  rw [Nat.sub_zero]
  have h1:=S_diag hs r s
  have h2:=S_pos hs h hn (l:=r+1) (by omega)
  have hp:=h r (by omega)
  have h3:=S_sym hs r r s
  rw [h3]
  obtain ⟨z,hz⟩:∃z,S f r s r*S f r s r / S f r r r=z:=⟨_,rfl⟩
  have e2:z*S f r r r=S f r s r*S f r s r:=by rw [<-hz];exact div_mul (by grind)
  rw [hz] at h1
  have a1:=sq_nonneg (S f r s r-S f r r r)
  have a2:=sq_nonneg (S f r s r+S f r r r)
  constructor
  ·have :=nonneg_of_mul (y:=S f r r r+z-2*S f r s r) hp (by grind)
   grind
  ·have :=nonneg_of_mul (y:=S f r r r+z+2*S f r s r) hp (by grind)
   grind
 |succ t ih=>
  intro ht
  have ⟨i1,i2⟩:=ih (by omega)
  obtain ⟨l,hl⟩:∃l,r-(t+1)=l:=⟨_,rfl⟩
  rw [hl]
  rw [show r-t=l+1 by omega] at i1 i2
  have hp:=h l (by omega)
  have d1:=S_diag hs l r
  have d2:=S_diag hs l s
  have d3:S f l r s=S f (l+1) r s+S f l r l*S f l s l / S f l l l:=by
   have :=S_sym hs l l s
   show _=elim (S f l) l r s+_
   simp only [elim];rw [this];grind
  have a1:=div_nonneg (sq_nonneg (S f l r l-S f l s l)) hp
  have a2:=div_nonneg (sq_nonneg (S f l r l+S f l s l)) hp
  grind
theorem entry_mean {f:Mx} {n:Nat} (hs:Sym f) (h:Pos f n) {r s:Nat} (hr:r<n) (hn:s<n):2*f r s<=f r r+f s s/\-(2*f r s)<=f r r+f s s:=by
 rcases (by omega:r<s∨r=s∨s<r) with h1 |h1 |h1
 ·have :=S_mean hs h h1 hn r (Nat.le_refl _)
  rwa [Nat.sub_self] at this
 ·have :=S_pos hs h hr (l:=0) (by omega)
  have e:S f 0 r r=f r r:=rfl
  grind
 ·have :=S_mean hs h h1 hr s (Nat.le_refl _)
  have e:=hs r s
  have e1:S f 0 s r=f s r:=rfl
  have e2:S f 0 s s=f s s:=rfl
  have e3:S f 0 r r=f r r:=rfl
  grind
/-! ## Integer elimination -/
def ofZ (m:Nat->Nat->Int):Mx:=fun i j=>(m i j:Rat)
def E (m:Nat->Nat->Int):Nat->Nat->Nat->Int
 |0=>m
 |k+1=>fun i j=>(E m k k k*E m k i j-E m k i k*E m k k j) / (match k with |0=>1 |l+1=>E m l l l)
def lastE (m:Nat->Nat->Int) (k:Nat):Int:=match k with |0=>1 |l+1=>E m l l l
theorem E_succ (m:Nat->Nat->Int) (k i j:Nat):E m (k+1) i j=(E m k k k*E m k i j-E m k i k*E m k k j) / lastE m k:=by
 cases k<;>rfl
theorem E_eq (m:Nat->Nat->Int) (k:Nat):Piv (ofZ m) k->(∀i j,(E m k i j:Rat)=dd (ofZ m) k*S (ofZ m) k i j)/\(lastE m k:Rat)=dd (ofZ m) k/\dd (ofZ m) k≠0:=by
 induction k with
 |zero=>intro _;refine ⟨fun i j=>?_,?_,?_⟩<;>simp only [E,lastE,dd,S,ofZ]<;>grind
 |succ k ih=>
  intro h
  obtain ⟨h1,h2,h3⟩:=ih (h.le (by omega))
  have hk:=h k (by omega)
  have hd:dd (ofZ m) (k+1)=dd (ofZ m) k*S (ofZ m) k k k:=rfl
  refine ⟨fun i j=>?_,?_,?_⟩
  ·obtain ⟨z,hz⟩:=stage_int (ofZ m) (fun i j=>⟨m i j,rfl⟩) (k+1) h i j
   have e:E m k k k*E m k i j-E m k i k*E m k k j=lastE m k*z:=by
    apply Rat.intCast_inj.1
    rw [Rat.intCast_sub,Rat.intCast_mul,Rat.intCast_mul,Rat.intCast_mul,h1,h1,h1,h1,h2,<-hz,hd]
    show _=_*(_*elim (S (ofZ m) k) k i j)
    simp only [elim]
    grind
   have hl:lastE m k≠0:=by
    intro hh;simp_all
   rw [E_succ,e,Int.mul_ediv_cancel_left _ hl,<-hz]
  ·show (E m k k k:Rat)=_
   grind
  grind
theorem E_exact (m:Nat->Nat->Int) (k:Nat) (h:Piv (ofZ m) (k+1)) (i j:Nat):E m k k k*E m k i j-E m k i k*E m k k j=lastE m k*E m (k+1) i j:=by
 obtain ⟨h1,h2,h3⟩:=E_eq m k (h.le (by omega))
 obtain ⟨g1,_,_⟩:=E_eq m (k+1) h
 have hk:=h k (by omega)
 apply Rat.intCast_inj.1
 rw [Rat.intCast_sub,Rat.intCast_mul,Rat.intCast_mul,Rat.intCast_mul,h1,h1,h1,h1,h2,g1]
 show _=_*(dd (ofZ m) k*S (ofZ m) k k k*elim (S (ofZ m) k) k i j)
 simp only [elim]
 grind
end La
namespace La
def Szd (f:Mx) (i j:Nat):Prop:=2*S f j i j<=S f j j j/\-(2*S f j i j)<=S f j j j
def Lov (f:Mx) (p:Nat):Prop:=3*S f p p p<=4*S f p (p+1) (p+1)
def Full (f:Mx) (i:Nat):Prop:=∀j,j<i->Szd f i j
def Mu (f:Mx) (i:Nat) (U:Rat):Prop:=∀l,l<i->S f l i l<=U*S f l l l/\-(S f l i l)<=U*S f l l l
structure Good (f:Mx) (i c:Nat):Prop where
 full:∀r,r<i->Full f r
 lov:∀p,p+1<i->Lov f p
 part:∀j,i-c<=j->j<i->Szd f i j
structure J (n:Nat) (A D X U:Rat) (f:Mx) (i c:Nat):Prop where
 sym:Sym f
 pos:Pos f n
 int:∀x y,IsZ (f x y)
 piv:∀l,l<n->S f l l l<=A
 min:∀l,l<=n->dd f l<=D
 hi:i<n
 hc:c<=i
 good:Good f i c
 norm:∀r,r<n->r≠i->f r r<=X
 mu:Mu f i (2^c*U)
structure Cst (n:Nat) (A D X U:Rat):Prop where
 n1:1<=n
 a1:1<=A
 d1:1<=D
 x:X=A*n
 u:U=X*D
theorem natCast_le {a b:Nat} (h:a<=b):(a:Rat)<=(b:Rat):=by
 exact Rat.natCast_le_natCast.2 h
theorem Cst.x1 {n:Nat} {A D X U:Rat} (h:Cst n A D X U):1<=X:=by
 have h1:=natCast_le h.n1
 have h2:=mul_le_left (c:=A) (by have :=h.a1;grind) h1
 have :=h.a1
 have :=h.x
 have e:((1:Nat):Rat)=1:=rfl
 grind
theorem Cst.u1 {n:Nat} {A D X U:Rat} (h:Cst n A D X U):X<=U/\1<=U:=by
 have h1:=h.x1
 have h2:=mul_le_left (c:=X) (by grind) h.d1
 have :=h.u
 grind
theorem S_up {f:Mx} {A V:Rat} (hs:Sym f) {i:Nat} (hA:S f i i i<=A)
  (h:∀l,l<i->S f l i l*S f l i l / S f l l l<=V) (t:Nat):t<=i->S f (i-t) i i<=A+t*V:=by
 induction t with
 |zero=>intro _;rw [Nat.sub_zero];have e:((0:Nat):Rat)=0:=rfl;grind
 |succ t ih=>
  intro ht
  have h1:=ih (by omega)
  obtain ⟨l,hl⟩:∃l,i-(t+1)=l:=⟨_,rfl⟩
  rw [hl]
  rw [show i-t=l+1 by omega] at h1
  have h2:=S_diag hs l i
  have h3:=h l (by omega)
  have e:((t+1:Nat):Rat)=t+1:=by simp
  rw [e];grind
theorem sq_le_of_abs {a b:Rat} (h1:a<=b) (h2:-a<=b):a*a<=b*b:=by
 have :=Rat.mul_nonneg (by grind:0<=b-a) (by grind:0<=b+a)
 grind
theorem abs_le_of_sq {a b:Rat} (hb:0<=b) (h:a*a<=b*b):a<=b/\-a<=b:=by
 constructor
 ·rcases (by grind:a<=b∨0<a-b) with h1 |h1
  ·exact h1
  ·have :=Rat.mul_pos h1 (by grind:0<a+b);grind
 ·rcases (by grind:-a<=b∨0< -a-b) with h1 |h1
  ·exact h1
  ·have :=Rat.mul_pos h1 (by grind:0< -a+b);grind
theorem full_mu {f:Mx} {i:Nat} (h:Full f i):Mu f i (1 / 2):=fun l hl=>by
 obtain ⟨h1,h2⟩:=h l hl
 constructor<;>grind
theorem full_norm {n:Nat} {A D X U:Rat} (hc:Cst n A D X U) {f:Mx} {i:Nat} (hs:Sym f) (hp:Pos f n) (hi:i<n) (hA:∀l,l<n->S f l l l<=A) (h:Full f i):f i i<=X:=by
 have h1:∀l,l<i->S f l i l*S f l i l / S f l l l<=A / 4:=fun l hl=>by
  obtain ⟨h1,h2⟩:=full_mu h l hl
  have h3:=sq_le_of_abs h1 h2
  have hl0:=hp l (by omega)
  refine div_le hl0 ?_
  have h4:=mul_le_left (Rat.le_of_lt hl0) (hA l (by omega))
  grind
 have h2:=S_up hs (hA i hi) h1 i (Nat.le_refl _)
 rw [Nat.sub_self] at h2
 have e:S f 0 i i=f i i:=rfl
 have h3:=mul_le_left (c:=A) (by have :=hc.a1;grind) (natCast_le (by omega:i+1<=n))
 have e2:((i+1:Nat):Rat)=i+1:=by simp
 rw [e2] at h3
 have h4:=mul_le_left (c:=A) (by have :=hc.a1;grind) (natCast_le (by omega:0<=i))
 have e3:((0:Nat):Rat)=0:=rfl
 have :=hc.x
 grind
theorem dd_one {f:Mx} {k:Nat} (h:Pos f k) (hf:∀x y,IsZ (f x y)):1<=dd f k:=by
 have hz:IsZ (dd f k):=by
  cases k with
  |zero=>exact IsZ.one
  |succ k=>exact stage_int f hf k (h.le (by omega)).piv k k
 have hp:=dd_pos k h
 obtain ⟨z,hz⟩:=hz
 rw [hz] at hp |-
 have :=Rat.intCast_pos.1 hp
 have :=(Rat.intCast_le_intCast (a:=1) (b:=z)).2 (by omega)
 simpa using this
theorem mu_start {n:Nat} {A D X U:Rat} (hc:Cst n A D X U) {f:Mx} {i:Nat} (hs:Sym f) (hp:Pos f n) (hf:∀x y,IsZ (f x y)) (hD:∀l,l<=n->dd f l<=D) (hi:i<n) (h:f i i<=X):Mu f i U:=fun l hl=>by
 have hl0:=hp l (by omega)
 have h1:=S_sq hs hp hi hl
 have h2:=dd_one (hp.le (by omega:l+1<=n)) hf
 have h3:dd f (l+1)=dd f l*S f l l l:=rfl
 have h4:=mul_le_left (Rat.le_of_lt hl0) (hD l (by omega))
 have hD1:1<=D*S f l l l:=by grind
 have hx:=hc.x1
 have hu:=hc.u1
 refine abs_le_of_sq (Rat.mul_nonneg (by grind) (Rat.le_of_lt hl0)) ?_
 -- X <= X * (D s) <= U * U * s
 have h5:=mul_le_left (Rat.le_of_lt hl0) h
 have h6:=mul_le_left (c:=X*S f l l l) (Rat.mul_nonneg (by grind) (Rat.le_of_lt hl0)) hD1
 have h7:=mul_le_left (c:=U*S f l l l*S f l l l) (Rat.mul_nonneg (Rat.mul_nonneg (by grind) (Rat.le_of_lt hl0)) (Rat.le_of_lt hl0)) hu.2
 have hu2:=hc.u
 have e:X*S f l l l*(D*S f l l l)=U*S f l l l*S f l l l:=by rw [hu2];grind
 rw [e] at h6
 have e2:U*S f l l l*(U*S f l l l)=U*S f l l l*S f l l l*U:=by grind
 rw [e2]
 grind
theorem S_red_row {i j:Nat} (q:Rat) {f:Mx} {l:Nat} (hl:l<i) (x:Nat):S (redf i j q f) l x l=S f l x l-(if x=i then q*S f l j l else 0):=by
 rw [S_red_le q f l (by omega)]
 simp only [redf,rop,lop,if_neg (by omega:¬l=i)]
 grind
def Near (f:Mx) (i j:Nat) (q:Rat):Prop:=2*(S f j i j-q*S f j j j)<=S f j j j/\-(2*(S f j i j-q*S f j j j))<=S f j j j
theorem near_le {f:Mx} {i j:Nat} {q U:Rat} (hj:0<S f j j j) (hq:Near f i j q) (h:S f j i j<=U*S f j j j/\-(S f j i j)<=U*S f j j j):q<=U+1 / 2/\-q<=U+1 / 2:=by
 obtain ⟨h1,h2⟩:=hq
 constructor
 ·refine le_of_mul hj ?_;grind
 ·refine le_of_mul hj ?_;grind
theorem mu_step {n:Nat} {f:Mx} {i j:Nat} {q U:Rat} (hp:Pos f n) (hi:i<n) (hj:j<i) (hq:Near f i j q) (hF:Full f j) (hU:1<=U) (h:Mu f i U):Mu (redf i j q f) i (2*U):=fun l hl=>by
 have hl0:=hp l (by omega)
 rw [S_red_piv q hj l (hp.le (by omega)).piv,S_red_row q hl,if_pos rfl]
 obtain ⟨a1,a2⟩:=h l hl
 have hU0:=mul_le_left (Rat.le_of_lt hl0) hU
 rcases (by omega:l<j∨l=j∨j<l) with hlj |hlj |hlj
 ·obtain ⟨q1,q2⟩:=near_le (hp j (by omega)) hq (h j hj)
  obtain ⟨b1,b2⟩:=full_mu hF l hlj
  have b3:=sq_le_of_abs q1 q2
  have b4:=sq_le_of_abs b1 b2
  -- |q * S l j l| <= (U + 1/2) * (s / 2)
  have c:q*S f l j l<=(U+1 / 2)*(1 / 2*S f l l l)/\-(q*S f l j l)<=(U+1 / 2)*(1 / 2*S f l l l):=by
   refine abs_le_of_sq (Rat.mul_nonneg (by grind) (by grind)) ?_
   have d1:=mul_le_left (sq_nonneg q) b4
   have d2:=mul_le_left (sq_nonneg (1 / 2*S f l l l)) b3
   grind
  constructor<;>grind
 ·subst hlj
  obtain ⟨h1,h2⟩:=hq
  constructor<;>grind
 ·rw [S_lt_left l (hp.le (by omega)).piv j hlj]
  constructor<;>grind
theorem Good.red {f:Mx} {n i j:Nat} (q:Rat) (hp:Pos f n) (hi:i<n) (hj:j<i) (hq:Near f i j q) (h:∀r,r<i->Full f r) (hl:∀p,p+1<i->Lov f p) (hb:∀k,j<k->k<i->Szd f i k):Good (redf i j q f) i (i-j):=by
 refine ⟨fun r hr k hk=>?_,fun p hp'=>?_,fun k h1 h2=>?_⟩
 ·have :=h r hr k hk
  unfold Szd at this |-
  rw [S_red_piv q hj k (hp.le (by omega)).piv,S_red_row q (by omega:k<i),if_neg (by omega:¬r=i)]
  grind
 ·have :=hl p hp'
  unfold Lov at this |-
  rw [S_red_piv q hj p (hp.le (by omega)).piv,S_red_le q f p (by omega)]
  simp only [redf,rop,lop,if_neg (by omega:¬p+1=i)]
  grind
 ·unfold Szd
  rw [S_red_piv q hj k (hp.le (by omega)).piv,S_red_row q h2,if_pos rfl]
  by_cases e:k=j
  ·subst e;exact hq
  ·rw [S_lt_left k (hp.le (by omega)).piv j (by omega)]
   have :=hb k (by omega) h2
   unfold Szd at this
   grind
structure AtRed (f:Mx) (n i j:Nat):Prop where
 hi:i<n
 hj:j<i
 full:∀r,r<i->Full f r
 lov:∀p,p+1<i->Lov f p
 part:∀k,j<k->k<i->Szd f i k
 bad:¬Szd f i j
theorem redf_diag {f:Mx} {i j:Nat} (q:Rat) {r:Nat} (h:r≠i):redf i j q f r r=f r r:=by
 simp only [redf,rop,lop,if_neg h];grind
theorem redf_int {f:Mx} {i j:Nat} {q:Rat} (hf:∀x y,IsZ (f x y)) (hq:IsZ q) (x y:Nat):IsZ (redf i j q f x y):=by
 simp only [redf,rop,lop]
 refine IsZ.sub (IsZ.sub (hf _ _) ?_) ?_
 ·split
  ·exact hq.mul (hf _ _)
  ·exact IsZ.zero
 ·split
  ·refine hq.mul (IsZ.sub (hf _ _) ?_)
   split
   ·exact hq.mul (hf _ _)
   ·exact IsZ.zero
  ·exact IsZ.zero
theorem pow2_pos (c:Nat):(1:Rat)<=2^c:=by
 induction c with
 |zero=>rw [Rat.pow_zero];exact Rat.le_refl
 |succ c ih=>rw [Rat.pow_succ];grind
theorem pow2_mono {c d:Nat} (h:c<=d):(2:Rat)^c<=2^d:=by
 obtain ⟨k,rfl⟩:∃k,d=c+k:=⟨d-c,by omega⟩
 induction k with
 |zero=>exact Rat.le_refl
 |succ k ih=>rw [show c+(k+1)=(c+k)+1 by omega,Rat.pow_succ];have :=ih (by omega);have :=pow2_pos (c+k);grind
theorem Mu.mono {f:Mx} {i n:Nat} {U V:Rat} (h:Mu f i U) (hp:Pos f n) (hi:i<n) (hUV:U<=V):Mu f i V:=fun l hl=>by
 obtain ⟨h1,h2⟩:=h l hl
 have :=mul_le_left (Rat.le_of_lt (hp l (by omega))) hUV
 constructor<;>grind
theorem J.all {n:Nat} {A D X U:Rat} (hc:Cst n A D X U) {f:Mx} {i c:Nat} (h:J n A D X U f i c) (hF:Full f i) (r:Nat) (hr:r<n):f r r<=X:=by
 by_cases e:r=i
 ·subst e;exact full_norm hc h.sym h.pos hr h.piv hF
 ·exact h.norm r hr e
theorem J.red {n:Nat} {A D X U:Rat} (hc:Cst n A D X U) {f:Mx} {i c:Nat} (h:J n A D X U f i c) {i' j:Nat} (ha:AtRed f n i' j) {q:Rat} (hz:IsZ q) (hq:Near f i' j q):
  J n A D X U (redf i' j q f) i' (i'-j)/\i*(n+1)+c<i'*(n+1)+(i'-j):=by
 have hu:=hc.u1
 have key:Mu f i' (2^(i'-j-1)*U)/\(∀r,r<n->r≠i'->f r r<=X)/\i*(n+1)+c<i'*(n+1)+(i'-j):=by
  rcases (by omega:i'<i∨i'=i∨i<i') with h1 |h1 |h1
  ·exact absurd (h.good.full i' h1 j ha.hj) ha.bad
  ·subst h1
   have hj:j<i'-c:=by
    rcases (by omega:j<i'-c∨i'-c<=j) with h2 |h2
    ·exact h2
    ·exact absurd (h.good.part j h2 ha.hj) ha.bad
   refine ⟨h.mu.mono h.pos ha.hi ?_,h.norm,by omega⟩
   have :=mul_le_left (c:=U) (by grind) (pow2_mono (by omega:c<=i'-j-1))
   grind
  ·have hall:=h.all hc (ha.full i h1)
   refine ⟨(mu_start hc h.sym h.pos h.int h.min ha.hi (hall i' ha.hi)).mono h.pos ha.hi ?_,fun r hr _=>hall r hr,?_⟩
   ·have :=mul_le_left (c:=U) (by grind) (pow2_pos (i'-j-1))
    grind
   ·have g1:(i+1)*(n+1)<=i'*(n+1):=Nat.mul_le_mul_right (n+1) h1
    have g2:=h.hi
    have g3:=h.hc
    rw [Nat.add_mul] at g1
    have g4:=ha.hj
    omega
 obtain ⟨k1,k2,k3⟩:=key
 refine ⟨⟨h.sym.red _ _ _,h.pos.red q ha.hj,redf_int h.int hz,fun l hl=>?_,fun l hl=>?_,ha.hi,by omega,Good.red q h.pos ha.hi ha.hj hq ha.full ha.lov ha.part,fun r hr hne=>?_,?_⟩,k3⟩
 ·rw [S_red_piv q ha.hj l (h.pos.le (by omega)).piv];exact h.piv l hl
 ·rw [dd_red q ha.hj l (h.pos.le hl).piv];exact h.min l hl
 ·rw [redf_diag q hne];exact k2 r hr hne
 ·have h2:=pow2_pos (i'-j-1)
  have h3:=mul_le_left (c:=U) (by grind) h2
  have :=mu_step h.pos ha.hi ha.hj hq (ha.full j ha.hj) (U:=2^(i'-j-1)*U) (by grind) k1
  have hj:=ha.hj
  rw [show i'-j=(i'-j-1)+1 by omega,Rat.pow_succ]
  have e:2^(i'-j-1)*2*U=2*(2^(i'-j-1)*U):=by grind
  rw [e];exact this
end La
namespace La
def pot (f:Mx):Nat->Rat
 |0=>1
 |k+1=>pot f k*dd f (k+1)
theorem pot_one {f:Mx} (hf:∀x y,IsZ (f x y)) (k:Nat):Pos f k->1<=pot f k:=by
 induction k with
 |zero=>intro _;rfl
 |succ k ih=>
  intro h
  have h1:=ih (h.le (by omega))
  have h2:=dd_one h hf
  have h3:=mul_le_left (c:=pot f k) (by grind) h2
  show 1<=pot f k*dd f (k+1)
  grind
theorem pot_red {i j:Nat} (q:Rat) {f:Mx} (hj:j<i) (k:Nat):Piv f k->pot (redf i j q f) k=pot f k:=by
 induction k with
 |zero=>intro _;rfl
 |succ k ih=>
  intro h
  show pot (redf i j q f) k*dd (redf i j q f) (k+1)=pot f k*dd f (k+1)
  rw [ih (h.le (by omega)),dd_red q hj (k+1) h]
structure LL (n:Nat) (A D X U P0:Rat) (N:Nat) (f:Mx) (s i c:Nat):Prop where
 j:J n A D X U f i c
 cst:Cst n A D X U
 pot:4^s*pot f (n-1)<=3^s*P0
 p0:0<=P0
 big:3^N*P0<4^N
theorem rpow_add (b:Rat) (k t:Nat):b^(k+t)=b^k*b^t:=by grind
theorem pow_pos' (b:Rat) (hb:1<=b) (k:Nat):1<=b^k:=by
 induction k with
 |zero=>grind
 |succ k ih=>rw [Rat.pow_succ];have :=mul_le_left (c:=b^k) (by grind) hb;grind
theorem pow34 (k:Nat):(3:Rat)^k<=4^k:=by
 induction k with
 |zero=>grind
 |succ k ih=>rw [Rat.pow_succ,Rat.pow_succ];have :=pow_pos' 4 (by grind) k;grind
theorem LL.lt {n:Nat} {A D X U P0:Rat} {N:Nat} {f:Mx} {s i c:Nat} (h:LL n A D X U P0 N f s i c):s<N:=by
 rcases Nat.lt_or_ge s N with h1 |h1
 ·grind
 ·obtain ⟨t,rfl⟩:∃t,s=N+t:=⟨s-N,by omega⟩
  have hp:=pot_one h.j.int (n-1) (h.j.pos.le (by omega))
  have h2:=h.pot
  have h3:=mul_le_left (c:=4^(N+t)) (by have :=pow_pos' 4 (by grind) (N+t);grind) hp
  rw [rpow_add,rpow_add] at h2
  rw [rpow_add] at h3
  have h4:=h.big
  have a1:=pow_pos' 3 (by grind) t
  have a2:=pow34 t
  have a3:=pow_pos' 4 (by grind) N
  -- 4^N 4^t <= 3^N 3^t P0 < 4^N 3^t <= 4^N 4^t
  have b1:=Rat.mul_pos (show 0<(3:Rat)^t by grind) (show 0<4^N-3^N*P0 by grind)
  have b2:=mul_le_left (c:=(4:Rat)^N) (by grind) a2
  grind
theorem LL.bnd {n:Nat} {A D X U P0:Rat} {N:Nat} {f:Mx} {s i c:Nat} (h:LL n A D X U P0 N f s i c):i*(n+1)+c<n*(n+1):=by
 have h1:=h.j.hi
 have h2:=h.j.hc
 have h3:=Nat.mul_le_mul_right (n+1) h1
 grind
def rounds (n N s i c:Nat):Nat:=(N-s)*(n*(n+1))+(n*(n+1)-(i*(n+1)+c))
theorem LL.red {n:Nat} {A D X U P0:Rat} {N:Nat} {f:Mx} {s i c:Nat} (h:LL n A D X U P0 N f s i c) {i' j:Nat} (ha:AtRed f n i' j) {q:Rat} (hz:IsZ q) (hq:Near f i' j q):
  LL n A D X U P0 N (redf i' j q f) s i' (i'-j)/\rounds n N s i' (i'-j)<rounds n N s i c:=by
 obtain ⟨h1,h2⟩:=h.j.red h.cst ha hz hq
 have hl:LL n A D X U P0 N (redf i' j q f) s i' (i'-j):=⟨h1,h.cst,by rw [pot_red q ha.hj (n-1) (h.j.pos.le (by omega)).piv];exact h.pot,h.p0,h.big⟩
 have :=h.bnd
 exact ⟨hl,by unfold rounds;omega⟩
/-! ## The start -/
theorem near_exists {f:Mx} {n i j:Nat} (hp:Pos f n) (hj:j<n) {lam d:Int} (hd:0<d) (h1:(lam:Rat)=dd f j*S f j i j) (h2:(d:Rat)=dd f j*S f j j j):Near f i j (((2*lam+d) / (2*d):Int):Rat):=by
 have hdd:=dd_pos j (hp.le (by omega))
 obtain ⟨q,hq⟩:∃q,(2*lam+d) / (2*d)=q:=⟨_,rfl⟩
 have a1:=Int.mul_ediv_add_emod (2*lam+d) (2*d)
 have a2:=Int.emod_nonneg (2*lam+d) (show 2*d≠0 by omega)
 have a3:=Int.emod_lt_of_pos (2*lam+d) (show 0<2*d by omega)
 rw [hq] at a1 |-
 -- 2 d q <= 2 lam + d < 2 d q + 2 d
 have b1:2*d*q<=2*lam+d:=by omega
 have b2:2*lam+d<=2*d*q+2*d:=by omega
 have c1:=Rat.intCast_le_intCast.2 b1
 have c2:=Rat.intCast_le_intCast.2 b2
 constructor
 ·refine le_of_mul hdd ?_;grind
 ·refine le_of_mul hdd ?_;grind
end La
end Go.Proofs.YtpcgfpmiphiacaaGreat
namespace Go.Proofs.YtpcgfpmiphiacaaGreat
open Go.RowKit
class Ext (w w':World):Prop where
 below:Below w.heap.size w w'
class Step (w:outParam World) (w':World):Prop where
 below:Below w.heap.size w w'
theorem Ext.trans {a b c:World} (h:Ext a b) (k:Ext b c):Ext a c:=⟨h.below.trans (k.below.mono h.below.size)⟩
instance Ext.refl (w:World):Ext w w:=⟨Below.refl _ _⟩
instance Ext.alloc (w w':World) (o:Obj) [h:Ext w w']:Ext w (w'.alloc o):=⟨h.below.alloc h.below.size o⟩
instance Ext.drew (w w':World) [h:Ext w w']:Ext w w'.drew:=⟨h.below.drew⟩
instance Ext.drewN (w w':World) (n:Nat) [h:Ext w w']:Ext w (w'.drewN n):=⟨⟨h.below.os,h.below.tape,h.below.output,h.below.size,h.below.block⟩⟩
instance (priority:=50) Ext.step (w W w':World) [s:Step W w'] [h:Ext w W]:Ext w w':=h.trans ⟨s.below⟩
theorem Ext.setCell {w w':World} (h:Ext w w') {p:Addr} (hp:w.heap.size<=p.block) (u:Value):Ext w (w'.setCell p u):=⟨h.below.setCell hp u⟩
instance Ext.setCell0 (w w':World) (i:Nat) (s:Option Nat) (u:Value) [h:Ext w w']:Ext w (w'.setCell ⟨w.heap.size,i,s⟩ u):=h.setCell (Nat.le_refl _) u
instance Ext.setCellN (w w':World) (k i:Nat) (s:Option Nat) (u:Value) [h:Ext w w']:Ext w (w'.setCell ⟨w.heap.size+k,i,s⟩ u):=h.setCell (Nat.le_add_right _ _) u
instance Ext.setCellN2 (w w':World) (i:Nat) (s:Option Nat) (u:Value) [h:Ext w w']:Ext w (w'.setCell ⟨w.heap.size+1+1,i,s⟩ u):=h.setCell (show w.heap.size<=w.heap.size+1+1 by omega) u
instance Ext.setCellN3 (w w':World) (i:Nat) (s:Option Nat) (u:Value) [h:Ext w w']:Ext w (w'.setCell ⟨w.heap.size+1+1+1,i,s⟩ u):=h.setCell (show w.heap.size<=w.heap.size+1+1+1 by omega) u
instance Ext.setCellA1 (w w':World) (b0:Obj) (i:Nat) (s:Option Nat) (u:Value) [h:Ext (w.alloc b0) w']:Ext (w.alloc b0) (w'.setCell ⟨w.heap.size+1,i,s⟩ u):=h.setCell (by simp) u
instance Ext.setCellA2 (w w':World) (b0 b1:Obj) (i:Nat) (s:Option Nat) (u:Value) [h:Ext ((w.alloc b0).alloc b1) w']:Ext ((w.alloc b0).alloc b1) (w'.setCell ⟨w.heap.size+1+1,i,s⟩ u):=h.setCell (by simp) u
instance Ext.setCellA3 (w w':World) (b0 b1 b2:Obj) (i:Nat) (s:Option Nat) (u:Value) [h:Ext (((w.alloc b0).alloc b1).alloc b2) w']:Ext (((w.alloc b0).alloc b1).alloc b2) (w'.setCell ⟨w.heap.size+1+1+1,i,s⟩ u):=h.setCell (by simp) u
theorem Ext.toStep {w w':World} (h:Ext w w'):Step w w':=⟨h.below⟩
theorem Step.of (w w':World) [h:Ext w w']:Step w w':=⟨h.below⟩
theorem Step.ext {w w':World} (h:Step w w'):Ext w w':=⟨h.below⟩
theorem Ext.size {w w':World} (h:Ext w w'):w.heap.size<=w'.heap.size:=h.below.size
theorem Step.size {w w':World} (h:Step w w'):w.heap.size<=w'.heap.size:=h.below.size
theorem heap_of_ext {w w':World} (h:Ext w w') {b:Nat} {o:Obj} (hb:w.heap[b]? =some o):w'.heap[b]? =some o:=(h.below.block _ (Array.getElem?_eq_some_iff.1 hb).1).trans hb
class Sz (w:World) (n:outParam Nat):Prop where
 eq:w.heap.size=n
instance (priority:=10) Sz.base (w:World):Sz w w.heap.size:=⟨rfl⟩
instance Sz.alloc (w:World) (n:Nat) (o:Obj) [h:Sz w n]:Sz (w.alloc o) (n+1):=⟨by simp [h.eq]⟩
instance Sz.setCell (w:World) (n:Nat) (p:Addr) (u:Value) [h:Sz w n]:Sz (w.setCell p u) n:=⟨by simp [World.setCell,h.eq]⟩
instance Sz.drew (w:World) (n:Nat) [h:Sz w n]:Sz w.drew n:=⟨h.eq⟩
instance Sz.drewN (w:World) (n k:Nat) [h:Sz w n]:Sz (w.drewN k) n:=⟨h.eq⟩
class Old (b:Nat) (w:World):Prop where
 lt:b<w.heap.size
instance Old.new (w:World) (n:Nat) (o:Obj) [h:Sz w n]:Old n (w.alloc o):=⟨by simp [h.eq]⟩
instance Old.alloc (w:World) (b:Nat) (o:Obj) [h:Old b w]:Old b (w.alloc o):=⟨by have :=h.lt;simp;omega⟩
instance Old.setCell (w:World) (b:Nat) (p:Addr) (u:Value) [h:Old b w]:Old b (w.setCell p u):=⟨by simpa [World.setCell] using h.lt⟩
instance Old.drew (w:World) (b:Nat) [h:Old b w]:Old b w.drew:=⟨h.lt⟩
instance Old.drewN (w:World) (b k:Nat) [h:Old b w]:Old b (w.drewN k):=⟨h.lt⟩
instance (priority:=50) Old.step (W w':World) (b:Nat) [s:Step W w'] [h:Old b W]:Old b w':=⟨Nat.lt_of_lt_of_le h.lt s.size⟩
def cellOf (w:World) (b o:Nat):Option Value:=w.cell? ⟨b,o,none⟩
def frozenOf (w:World) (b o:Nat):Bool:=w.frozen? ⟨b,o,none⟩
theorem cellOf_eq (w:World) (b o:Nat):cellOf w b o=w.cell? ⟨b,o,none⟩:=rfl
theorem frozenOf_eq (w:World) (b o:Nat):frozenOf w b o=w.frozen? ⟨b,o,none⟩:=rfl
theorem cell_step {W w':World} {b o:Nat} [s:Step W w'] [h:Old b W]:w'.cell? ⟨b,o,none⟩=cellOf W b o:=s.below.cell (p:=⟨b,o,none⟩) h.lt
theorem frozen_step {W w':World} {b o:Nat} [s:Step W w'] [h:Old b W]:w'.frozen? ⟨b,o,none⟩=frozenOf W b o:=s.below.frozen (p:=⟨b,o,none⟩) h.lt
theorem cell_alloc_old {w:World} {o:Obj} {b i:Nat} [h:Old b w]:(w.alloc o).cell? ⟨b,i,none⟩=cellOf w b i:=World.cell?_alloc_lt w o ⟨b,i,none⟩ h.lt
theorem frozen_alloc_old {w:World} {o:Obj} {b i:Nat} [h:Old b w]:(w.alloc o).frozen? ⟨b,i,none⟩=frozenOf w b i:=by
 show (w.alloc o).frozen? ⟨b,i,none⟩=w.frozen? ⟨b,i,none⟩
 unfold World.frozen?
 rw [Below.heap_alloc w o b h.lt]
theorem cellE (W:World) {w':World} {b o:Nat} [hx:Ext W w'] [h:Old b W]:w'.cell? ⟨b,o,none⟩=cellOf W b o:=hx.below.cell (p:=⟨b,o,none⟩) h.lt
theorem frozenE (W:World) {w':World} {b o:Nat} [hx:Ext W w'] [h:Old b W]:w'.frozen? ⟨b,o,none⟩=frozenOf W b o:=hx.below.frozen (p:=⟨b,o,none⟩) h.lt
class Apart (a b:Nat):Prop where
 ne:a≠b
instance Apart.old (W:World) (b:Nat) [h:Old b W]:Apart b W.heap.size:=⟨Nat.ne_of_lt h.lt⟩
instance Apart.old' (W:World) (b:Nat) [h:Old b W]:Apart W.heap.size b:=⟨fun e=>Nat.ne_of_lt h.lt e.symm⟩
instance Apart.old1 (W:World) (b:Nat) [h:Old b W]:Apart b (W.heap.size+1):=⟨fun e=>by have :=h.lt;omega⟩
instance Apart.old1' (W:World) (b:Nat) [h:Old b W]:Apart (W.heap.size+1) b:=⟨fun e=>by have :=h.lt;omega⟩
theorem cell_setCell_apart {w:World} {p i q j:Nat} {u:Value} [h:Apart q p]:(w.setCell ⟨p,i,none⟩ u).cell? ⟨q,j,none⟩=cellOf w q j:=
 World.cell?_of_block (w:=w) (Below.heap_setCell w ⟨p,i,none⟩ u q h.ne)
attribute [go_sem] cell_step frozen_step cellOf_eq frozenOf_eq cell_alloc_old frozen_alloc_old cell_setCell_apart
class New (b:Nat) (w:World):Prop where
 le:w.heap.size<=b
instance New.at_ (w w':World) [h:Ext w w']:New w'.heap.size w:=⟨h.below.size⟩
instance New.sz (w:World) (n:Nat) [h:Sz w n]:New n w:=⟨by rw [h.eq];exact Nat.le_refl _⟩
instance New.succ (w:World) (b:Nat) [h:New b w]:New (b+1) w:=⟨Nat.le_succ_of_le h.le⟩
instance (priority:=60) Ext.setCellNew (w w':World) (b i:Nat) (s:Option Nat) (u:Value) [h:Ext w w'] [hn:New b w]:Ext w (w'.setCell ⟨b,i,s⟩ u):=h.setCell hn.le u
theorem box2 (w w':World) (x y:Value) (T:TypeId) [h:Ext (w.alloc (.cells #[x,y] T)) w']:
  w'.heap[w.heap.size]? =some (.cells #[x,y] T (0,0))/\w'.cell? ⟨w.heap.size,0,none⟩=some x/\w'.cell? ⟨w.heap.size,1,none⟩=some y/\w'.frozen? ⟨w.heap.size,0,none⟩=false/\w'.frozen? ⟨w.heap.size,1,none⟩=false/\w.heap.size<w'.heap.size:=by
 have h0:w'.heap[w.heap.size]? =some (.cells #[x,y] T (0,0)):=heap_of_ext h (heap_alloc_new w _)
 exact ⟨h0,by simp [World.cell?,h0],by simp [World.cell?,h0],by simp [World.frozen?,h0],by simp [World.frozen?,h0],(Array.getElem?_eq_some_iff.1 h0).1⟩
theorem box2At (W w':World) (s:Nat) (x y:Value) (T:TypeId) (hs:W.heap.size=s) [h:Ext (W.alloc (.cells #[x,y] T)) w']:
  w'.heap[s]? =some (.cells #[x,y] T (0,0))/\w'.cell? ⟨s,0,none⟩=some x/\w'.cell? ⟨s,1,none⟩=some y/\w'.frozen? ⟨s,0,none⟩=false/\w'.frozen? ⟨s,1,none⟩=false/\s<w'.heap.size:=by
 subst hs;exact box2 W w' x y T
theorem box2_1 (w w':World) (b0:Obj) (x y:Value) (T:TypeId) [h:Ext ((w.alloc b0).alloc (.cells #[x,y] T)) w']:
  w'.heap[w.heap.size+1]? =some (.cells #[x,y] T (0,0))/\w'.cell? ⟨w.heap.size+1,0,none⟩=some x/\w'.cell? ⟨w.heap.size+1,1,none⟩=some y/\w'.frozen? ⟨w.heap.size+1,0,none⟩=false/\w'.frozen? ⟨w.heap.size+1,1,none⟩=false/\w.heap.size+1<w'.heap.size:=
 box2At (w.alloc b0) w' _ x y T (by simp)
theorem box2_2 (w w':World) (b0 b1:Obj) (x y:Value) (T:TypeId) [h:Ext (((w.alloc b0).alloc b1).alloc (.cells #[x,y] T)) w']:
  w'.heap[w.heap.size+1+1]? =some (.cells #[x,y] T (0,0))/\w'.cell? ⟨w.heap.size+1+1,0,none⟩=some x/\w'.cell? ⟨w.heap.size+1+1,1,none⟩=some y/\w'.frozen? ⟨w.heap.size+1+1,0,none⟩=false/\w'.frozen? ⟨w.heap.size+1+1,1,none⟩=false/\w.heap.size+1+1<w'.heap.size:=
 box2At ((w.alloc b0).alloc b1) w' _ x y T (by simp)
theorem boxes2 (w w':World) (x y x' y':Value) (T T':TypeId) [h:Ext ((w.alloc (.cells #[x,y] T)).alloc (.cells #[x',y'] T')) w']:
  w'.cell? ⟨w.heap.size,0,none⟩=some x/\w'.cell? ⟨w.heap.size,1,none⟩=some y/\w'.cell? ⟨w.heap.size+1,0,none⟩=some x'/\w'.cell? ⟨w.heap.size+1,1,none⟩=some y':=by
 have h1:Ext (w.alloc (.cells #[x,y] T)) w':=Ext.trans inferInstance h
 obtain ⟨_,a1,a2,_⟩:=box2 w w' x y T
 obtain ⟨_,b1,b2,_⟩:=box2_1 w w' (.cells #[x,y] T) x' y' T'
 exact ⟨a1,a2,b1,b2⟩
theorem box1 (w w':World) (x y:Value) (T:TypeId) [h:Ext (w.alloc (.cells #[x,y] T)) w']:
  w'.cell? ⟨w.heap.size,0,none⟩=some x/\w'.cell? ⟨w.heap.size,1,none⟩=some y:=by
 obtain ⟨_,a1,a2,_⟩:=box2 w w' x y T
 exact ⟨a1,a2⟩
def Arr (w:World) (A:Option Addr) (e:TypeId) (vs:List Value):Prop:=
 0<vs.length->∃(b o:Nat) (cs:Array Value) (fr:Nat×Nat),A=some ⟨b,o,none⟩/\w.heap[b]? =some (.cells cs e fr)/\∀(j:Nat) (u:Value),vs[j]? =some u->cs[o+j]? =some u
theorem lt_of_heap {w:World} {b:Nat} {o:Obj} (h:w.heap[b]? =some o):b<w.heap.size:=(Array.getElem?_eq_some_iff.1 h).1
section
variable {w w':World} {A:Option Addr} {e:TypeId} {vs:List Value}
theorem Arr.nil:Arr w A e []:=fun h=>absurd h (by simp)
theorem Arr.keep (h:Arr w A e vs) (hk:∀(b:Nat) (cs:Array Value) (fr:Nat×Nat),w.heap[b]? =some (Obj.cells cs e fr)->w'.heap[b]? =w.heap[b]?):Arr w' A e vs:=fun h0=>by
 obtain ⟨b,o,cs,fr,rfl,hb,hc⟩:=h h0
 exact ⟨b,o,cs,fr,rfl,(hk _ _ _ hb).trans hb,hc⟩
theorem Arr.ext (h:Arr w A e vs) (hx:Ext w w'):Arr w' A e vs:=h.keep fun _ _ _ hb=>hx.below.block _ (lt_of_heap hb)
theorem Arr.setCell (h:Arr w A e vs) {p:Addr} {cs:Array Value} {e':TypeId} {fr:Nat×Nat} (hp:w.heap[p.block]? =some (.cells cs e' fr)) (hne:e≠e') (u:Value):Arr (w.setCell p u) A e vs:=
 h.keep fun b cs' fr' hb=>Below.heap_setCell w p u b (fun hh=>by subst hh;rw [hp] at hb;injection hb with hb;injection hb with _ he;exact hne he.symm)
theorem Arr.at_ (h:Arr w A e vs) {i:Nat} {u:Value} (hu:vs[i]? =some u):∃b o,A=some ⟨b,o,none⟩/\w.cell? ⟨b,o+i,none⟩=some u/\b<w.heap.size:=by
 have hl:0<vs.length:=by
  rcases Nat.eq_zero_or_pos vs.length with h0 |h0
  ·have :=List.eq_nil_of_length_eq_zero h0;subst this;simp at hu
  ·exact h0
 obtain ⟨b,o,cs,fr,rfl,hb,hc⟩:=h hl
 exact ⟨b,o,rfl,by rw [cell_of_row w b (o+i) cs e fr hb];exact hc i u hu,lt_of_heap hb⟩
end
theorem Arr.new (w:World) (e:TypeId) (cs:Array Value):Arr (w.alloc (.cells cs e)) (some ⟨w.heap.size,0,none⟩) e cs.toList:=fun _=>
 ⟨w.heap.size,0,cs,(0,0),rfl,heap_alloc_new w _,fun j u hu=>by simpa using hu⟩
theorem heap_setCell_self' {w:World} {s i:Nat} {cs:Array Value} {T:TypeId} (q:w.heap[s]? =some (.cells cs T (0,0))) (u:Value):(w.setCell ⟨s,i,none⟩ u).heap[s]? =some (.cells (cs.setIfInBounds i u) T (0,0)):=by
 simp [World.setCell,Array.getElem?_modify,q]
def Ints (w:World) (A:Option Addr) (e:TypeId) (k:IntKind) (l:List Int):Prop:=Arr w A e (l.map (Value.int k))
section
variable {w w':World} {A:Option Addr} {e:TypeId} {k:IntKind} {l:List Int}
theorem Ints.nil:Ints w A e k []:=Arr.nil
theorem Ints.ext (h:Ints w A e k l) (hx:Ext w w'):Ints w' A e k l:=Arr.ext h hx
theorem Ints.at_ (h:Ints w A e k l) {i:Nat} (hi:i<l.length):∃b o x,A=some ⟨b,o,none⟩/\l[i]? =some x/\w.cell? ⟨b,o+i,none⟩=some (.int k x)/\b<w.heap.size:=by
 obtain ⟨b,o,h1,h2,h3⟩:=Arr.at_ h (i:=i) (u:= .int k l[i]) (by simp [hi])
 exact ⟨b,o,l[i],h1,by simp [hi],h2,h3⟩
theorem Ints.at0 (h:Ints w A e k l) (hi:0<l.length):∃b o x,A=some ⟨b,o,none⟩/\l[0]? =some x/\w.cell? ⟨b,o,none⟩=some (.int k x)/\b<w.heap.size:=by
 simpa using h.at_ hi
theorem Ints.take (h:Ints w A e k l) (m:Nat):Ints w A e k (l.take m):=fun h0=>by
 obtain ⟨b,o,cs,fr,hA,hb,hc⟩:=h (by simp at h0 |-;omega)
 refine ⟨b,o,cs,fr,hA,hb,fun j u hu=>hc j u ?_⟩
 rw [List.getElem?_map,List.getElem?_take] at hu
 rw [List.getElem?_map]
 split at hu
 ·exact hu
 ·simp at hu
end
/-! ## A row of integers that the call made: known whole -/
def Row (w:World) (g:Nat) (e:TypeId) (k:IntKind) (l:List Int):Prop:=w.heap[g]? =some (.cells (l.map (Value.int k)).toArray e (0,0))
section
variable {w w':World} {g:Nat} {e:TypeId} {k:IntKind} {l:List Int}
theorem Row.lt (h:Row w g e k l):g<w.heap.size:=lt_of_heap h
theorem Row.cell (h:Row w g e k l) {i:Nat} (hi:i<l.length):∃x,l[i]? =some x/\w.cell? ⟨g,i,none⟩=some (.int k x):=by
 refine ⟨l[i],by simp [hi],?_⟩
 rw [cell_of_row w g i _ e (0,0) h]
 simp [hi]
theorem Row.frozen (h:Row w g e k l) (i:Nat):w.frozen? ⟨g,i,none⟩=false:=by
 unfold Row at h
 simp [World.frozen?,h]
theorem Row.set (h:Row w g e k l) (i:Nat) (x:Int):Row (w.setCell ⟨g,i,none⟩ (.int k x)) g e k (l.set i x):=by
 unfold Row at h |-
 rw [heap_setCell_self' h]
 simp [List.map_set]
theorem Row.ext (h:Row w g e k l) (hx:Ext w w'):Row w' g e k l:=heap_of_ext hx h
theorem Row.ints (h:Row w g e k l):Ints w (some ⟨g,0,none⟩) e k l:=fun _=>⟨g,0,_,_,rfl,h,fun j u hu=>by simpa using hu⟩
theorem Row.far (h:Row w g e k l) {p:Addr} (hp:g≠p.block) (u:Value):Row (w.setCell p u) g e k l:=(Below.heap_setCell w p u g hp).trans h
end
def mkRow (n:Nat) (k:IntKind):Array Value:=((List.replicate n (0:Int)).map (Value.int k)).toArray
theorem Row.made (w:World) (n:Nat) (k:IntKind) (e:TypeId):Row (w.alloc (.cells (mkRow n k) e)) w.heap.size e k (List.replicate n 0):=heap_alloc_new w _
theorem run_make_ints {P:Program} {t e:TypeId} {k:IntKind} {by_:Nat} (ht:P.underlying t=some (.slice e)) (hi:(P.info? e).map (fun i=>(i.zero,i.size,i.bytes))=some (some (.int k 0),1,by_)) (h8:by_<=8)
  (n:Int) (h0:0<=n) (h1:n<=35184372088832) (w:World):
  (Instr.makeSlice t (.int .i64 n) (.int .i64 n)).run P w= .ok (.slice (some ⟨w.heap.size,0,none⟩) n.toNat n.toNat) (w.alloc (.cells (mkRow n.toNat k) e)):=by
 obtain ⟨i,hi1,hz,hs,hb⟩:=info_parts hi
 have hb':(i.bytes:Int)*n<=8*n:=Int.mul_le_mul_of_nonneg_right (by omega) h0
 rw [run_make (P:=P) w t e i (.int k 0) ht hi1 hz .i64 .i64 n n h0 (Int.le_refl _) (by omega) (by omega)]
 rw [hs,Nat.mul_one]
 congr 3
 apply Array.ext'
 show (madeCells #[Value.int k 0] n.toNat).toList=_
 rw [toList_madeCells_one]
 simp [mkRow]
theorem set_fill (s:List Int) (n:Nat) (x:Int) (h:0<n):(s++List.replicate n 0).set s.length x=(s++[x])++List.replicate (n-1) 0:=by
 obtain ⟨m,rfl⟩:∃m,n=m+1:=⟨n-1,by omega⟩
 simp [List.replicate_succ]
/-! ## Natural numbers as lists of limbs -/
def val:List Int->Int
 |[]=>0
 |x::l=>x+4294967296*val l
def Limbs (l:List Int):Prop:=∀x∈l,0<=x/\x<4294967296
def Tight (l:List Int):Prop:=l.getLast?≠some 0
theorem Limbs.nil:Limbs []:=fun _ h=>absurd h (by simp)
theorem Limbs.cons {x:Int} {l:List Int} (hx:0<=x/\x<4294967296) (h:Limbs l):Limbs (x::l):=fun y hy=>by
 rcases List.mem_cons.1 hy with rfl |hy
 ·exact hx
 ·exact h y hy
theorem Limbs.tail {x:Int} {l:List Int} (h:Limbs (x::l)):Limbs l:=fun y hy=>h y (List.mem_cons_of_mem _ hy)
theorem Limbs.head {x:Int} {l:List Int} (h:Limbs (x::l)):0<=x/\x<4294967296:=h x (by simp)
theorem Limbs.get {l:List Int} (h:Limbs l) {i:Nat} {x:Int} (hx:l[i]? =some x):0<=x/\x<4294967296:=h x (List.mem_of_getElem? hx)
theorem Limbs.take {l:List Int} (h:Limbs l) (m:Nat):Limbs (l.take m):=fun x hx=>h x (List.mem_of_mem_take hx)
theorem Limbs.drop {l:List Int} (h:Limbs l) (m:Nat):Limbs (l.drop m):=fun x hx=>h x (List.mem_of_mem_drop hx)
theorem Limbs.append {l m:List Int} (h:Limbs l) (h':Limbs m):Limbs (l++m):=fun x hx=>by
 rcases List.mem_append.1 hx with hx |hx
 ·exact h x hx
 ·exact h' x hx
theorem val_nonneg {l:List Int} (h:Limbs l):0<=val l:=by
 induction l with
 |nil=>simp [val]
 |cons x l ih=>have :=ih h.tail;have :=h.head;simp only [val];omega
theorem val_append (l m:List Int):val (l++m)=val l+(4294967296:Int)^l.length*val m:=by
 induction l with
 |nil=>simp [val]
 |cons x l ih=>
  simp only [List.cons_append,val,ih,List.length_cons,Int.pow_succ]
  rw [Int.mul_add,Int.mul_comm ((4294967296:Int)^l.length) 4294967296,Int.mul_assoc,Int.add_assoc]
theorem pow_pos_B (n:Nat):(0:Int)<(4294967296:Int)^n:=Int.pow_pos (by decide)
theorem val_lt {l:List Int} (h:Limbs l):val l<(4294967296:Int)^l.length:=by
 induction l with
 |nil=>simp [val]
 |cons x l ih=>
  have h1:=ih h.tail
  have h2:=h.head
  simp only [val,List.length_cons,Int.pow_succ]
  have :=pow_pos_B l.length
  omega
theorem val_snoc (l:List Int) (x:Int):val (l++[x])=val l+(4294967296:Int)^l.length*x:=by
 rw [val_append];simp [val]
theorem val_take_succ {l:List Int} {i:Nat} {x:Int} (h:l[i]? =some x):val (l.take (i+1))=val (l.take i)+(4294967296:Int)^i*x:=by
 have hi:i<l.length:=(List.getElem?_eq_some_iff.1 h).1
 have hx:l[i]=x:=(List.getElem?_eq_some_iff.1 h).2
 rw [List.take_succ_eq_append_getElem hi,val_snoc,hx,List.length_take,Nat.min_eq_left (by omega)]
theorem pow_mono_B {m n:Nat} (h:m<=n):(4294967296:Int)^m<=(4294967296:Int)^n:=by
 obtain ⟨k,rfl⟩:∃k,n=m+k:=⟨n-m,by omega⟩
 rw [Int.pow_add]
 have h1:=pow_pos_B m
 have h2:=pow_pos_B k
 have h3:(4294967296:Int)^m*1<=(4294967296:Int)^m*(4294967296:Int)^k:=Int.mul_le_mul_of_nonneg_left (by omega) (by omega)
 simpa using h3
theorem tight_lower {l:List Int} (h:Limbs l) (ht:Tight l) (h0:0<l.length):(4294967296:Int)^(l.length-1)<=val l:=by
 obtain ⟨m,x,rfl⟩:∃m x,l=m++[x]:=⟨l.dropLast,l.getLast (by intro hh;simp [hh] at h0),(List.dropLast_concat_getLast _).symm⟩
 have hx:x≠0:=by intro hx;subst hx;exact ht (by simp)
 have hx2:=h x (by simp)
 have hm:Limbs m:=fun y hy=>h y (by simp [hy])
 rw [val_snoc]
 simp only [List.length_append,List.length_cons,List.length_nil,Nat.zero_add,Nat.add_sub_cancel]
 have :=val_nonneg hm
 have hp:=pow_pos_B m.length
 have :(4294967296:Int)^m.length*1<=(4294967296:Int)^m.length*x:=Int.mul_le_mul_of_nonneg_left (by omega) (by omega)
 omega
theorem tight_zero {l:List Int} (h:Limbs l) (ht:Tight l):val l=0↔l=[]:=by
 constructor
 ·intro hv
  rcases Nat.eq_zero_or_pos l.length with h0 |h0
  ·exact List.eq_nil_of_length_eq_zero h0
  ·have :=tight_lower h ht h0
   have :=pow_pos_B (l.length-1)
   omega
 ·rintro rfl;rfl
theorem length_le_of_val {l:List Int} (h:Limbs l) (ht:Tight l) {k:Nat} (hv:val l<(4294967296:Int)^k):l.length<=k:=by
 rcases Nat.lt_or_ge k l.length with hlt |hge
 ·have h1:=tight_lower h ht (by omega)
  have h2:=pow_mono_B (m:=k) (n:=l.length-1) (by omega)
  omega
 ·exact hge
theorem Tight.nil:Tight []:=by simp [Tight]
def IntV (w:World) (neg:Bool) (A:Option Addr) (n c:Nat) (z:Int):Prop:=
 ∃l:List Int,n=l.length/\Limbs l/\Tight l/\val l=z.natAbs/\neg=decide (z<0)/\Ints w A 271 .u32 l/\n<=c/\c<=9223372036854775807
theorem IntV.ext {w w':World} {neg:Bool} {A:Option Addr} {n c:Nat} {z:Int} (h:IntV w neg A n c z) (hx:Ext w w'):IntV w' neg A n c z:=by
 obtain ⟨l,h1,h2,h3,h4,h5,h6,h7⟩:=h
 exact ⟨l,h1,h2,h3,h4,h5,h6.ext hx,h7⟩
theorem IntV.zero (w:World) (A:Option Addr) (c:Nat) (hc:c<=9223372036854775807):IntV w false A 0 c 0:=⟨[],rfl,Limbs.nil,Tight.nil,rfl,rfl,Ints.nil,Nat.zero_le _,hc⟩
theorem IntV.len {w:World} {neg:Bool} {A:Option Addr} {n c:Nat} {z:Int} (h:IntV w neg A n c z) {k:Nat} (hz:(z.natAbs:Int)<(4294967296:Int)^k):n<=k:=by
 obtain ⟨l,rfl,h2,h3,h4,_⟩:=h
 exact length_le_of_val h2 h3 (by rw [h4];exact hz)
theorem IntV.setCell {w:World} {neg:Bool} {A:Option Addr} {n c:Nat} {z:Int} (h:IntV w neg A n c z) {p:Addr} {cs:Array Value} {e':TypeId} {fr:Nat×Nat} (hp:w.heap[p.block]? =some (.cells cs e' fr)) (hne:271≠e') (u:Value):IntV (w.setCell p u) neg A n c z:=by
 obtain ⟨l,h1,h2,h3,h4,h5,h6,h7⟩:=h
 exact ⟨l,h1,h2,h3,h4,h5,Arr.setCell h6 hp hne u,h7⟩
theorem heap_setCell_self {w:World} {s i:Nat} {cs:Array Value} {T:TypeId} (q:w.heap[s]? =some (.cells cs T (0,0))) (u:Value):(w.setCell ⟨s,i,none⟩ u).heap[s]? =some (.cells (cs.setIfInBounds i u) T (0,0)):=by
 simp [World.setCell,Array.getElem?_modify,q]
theorem IntV.boxed {w:World} {g:Bool} {B:Option Addr} {k d:Nat} {z:Int} (hz:IntV w g B k d z) {s:Nat} {cs:Array Value} {T:TypeId} (hT:271≠T) (q:w.heap[s]? =some (.cells cs T (0,0))) (u v:Value):
  IntV ((w.setCell ⟨s,0,none⟩ u).setCell ⟨s,1,none⟩ v) g B k d z:=
 (hz.setCell (p:=⟨s,0,none⟩) q hT u).setCell (p:=⟨s,1,none⟩) (heap_setCell_self q u) hT v
/-! ## Stores into blocks of another type, found by instances -/
class Typed (b:Nat) (e:outParam TypeId) (w:World):Prop where
 ex:∃cs fr,w.heap[b]? =some (.cells cs e fr)
instance Typed.new (w:World) (n:Nat) (cs:Array Value) (e:TypeId) [h:Sz w n]:Typed n e (w.alloc (.cells cs e)):=⟨cs,(0,0),by rw [<-h.eq];exact heap_alloc_new w _⟩
instance Typed.alloc (w:World) (b:Nat) (e:TypeId) (o:Obj) [h:Typed b e w]:Typed b e (w.alloc o):=by
 obtain ⟨cs,fr,hb⟩:=h.ex
 exact ⟨cs,fr,(Below.heap_alloc w o b (lt_of_heap hb)).trans hb⟩
instance Typed.setCell (w:World) (b:Nat) (e:TypeId) (p:Addr) (u:Value) [h:Typed b e w]:Typed b e (w.setCell p u):=by
 obtain ⟨cs,fr,hb⟩:=h.ex
 by_cases hp:b=p.block
 ·subst hp
  refine ⟨if p.spot.isSome then cs else cs.setIfInBounds p.off u,fr,?_⟩
  simp [World.setCell,Array.getElem?_modify,hb]
 ·exact ⟨cs,fr,(Below.heap_setCell w p u b hp).trans hb⟩
instance Typed.drew (w:World) (b:Nat) (e:TypeId) [h:Typed b e w]:Typed b e w.drew:=⟨h.ex⟩
instance Typed.drewN (w:World) (b k:Nat) (e:TypeId) [h:Typed b e w]:Typed b e (w.drewN k):=⟨h.ex⟩
instance (priority:=50) Typed.step (W w':World) (b:Nat) (e:TypeId) [s:Step W w'] [h:Typed b e W]:Typed b e w':=by
 obtain ⟨cs,fr,hb⟩:=h.ex
 exact ⟨cs,fr,heap_of_ext s.ext hb⟩
class TNe (e e':TypeId):Prop where
 ne:e≠e'
instance TNe.u32_Int:TNe 271 149:=⟨by decide⟩
instance TNe.u32_slInt:TNe 271 94:=⟨by decide⟩
instance TNe.u32_slslInt:TNe 271 79:=⟨by decide⟩
instance TNe.Int_slInt:TNe 149 94:=⟨by decide⟩
instance TNe.Int_slslInt:TNe 149 79:=⟨by decide⟩
instance TNe.slInt_slslInt:TNe 94 79:=⟨by decide⟩
class Keeps (e:TypeId) (w w':World):Prop where
 keep:∀(b:Nat) (cs:Array Value) (fr:Nat×Nat),w.heap[b]? =some (Obj.cells cs e fr)->w'.heap[b]? =some (Obj.cells cs e fr)
instance Keeps.refl (e:TypeId) (w:World):Keeps e w w:=⟨fun _ _ _ h=>h⟩
instance Keeps.alloc (e:TypeId) (w w':World) (o:Obj) [h:Keeps e w w']:Keeps e w (w'.alloc o):=⟨fun b cs fr hb=>by
 have :=h.keep b cs fr hb
 exact (Below.heap_alloc w' o b (lt_of_heap this)).trans this⟩
instance Keeps.drew (e:TypeId) (w w':World) [h:Keeps e w w']:Keeps e w w'.drew:=⟨h.keep⟩
instance Keeps.drewN (e:TypeId) (w w':World) (n:Nat) [h:Keeps e w w']:Keeps e w (w'.drewN n):=⟨h.keep⟩
instance (priority:=50) Keeps.step (e:TypeId) (w W w':World) [s:Step W w'] [h:Keeps e w W]:Keeps e w w':=⟨fun b cs fr hb=>heap_of_ext s.ext (h.keep b cs fr hb)⟩
instance Keeps.setCell (e e':TypeId) (w w':World) (b i:Nat) (s:Option Nat) (u:Value) [h:Keeps e w w'] [ht:Typed b e' w'] [hn:TNe e e']:Keeps e w (w'.setCell ⟨b,i,s⟩ u):=⟨fun q cs fr hq=>by
 have h1:=h.keep q cs fr hq
 obtain ⟨cs',fr',hb⟩:=ht.ex
 refine (Below.heap_setCell w' ⟨b,i,s⟩ u q (fun hh=>?_)).trans h1
 subst hh
 rw [h1] at hb
 injection hb with hb
 injection hb with _ he
 exact hn.ne he⟩
theorem Arr.keeps {w w':World} {A:Option Addr} {e:TypeId} {vs:List Value} (h:Arr w A e vs) [hk:Keeps e w w']:Arr w' A e vs:=fun h0=>by
 obtain ⟨b,o,cs,fr,rfl,hb,hc⟩:=h h0
 exact ⟨b,o,cs,fr,rfl,hk.keep _ _ _ hb,hc⟩
theorem IntV.keeps {w w':World} {neg:Bool} {A:Option Addr} {n c:Nat} {z:Int} (h:IntV w neg A n c z) [hk:Keeps 271 w w']:IntV w' neg A n c z:=by
 obtain ⟨l,h1,h2,h3,h4,h5,h6,h7⟩:=h
 exact ⟨l,h1,h2,h3,h4,h5,Arr.keeps h6,h7⟩
/-! ## Results, behind definitions (the walk would take an open '∃' apart) -/
def RetInt (w:World) (z:Int) (e:Ending) (w':World):Prop:=∃g B n d,e= .returned (.agg #[.bool g,.slice B n d])/\IntV w' g B n d z/\Step w w'
def RetNat (w:World) (z:Int) (e:Ending) (w':World):Prop:=∃B d l,e= .returned (.slice B (List.length l) d)/\Ints w' B 271 .u32 l/\Limbs l/\Tight l/\val l=z/\l.length<=d/\d<=9223372036854775807/\Step w w'
def RetVal (w:World) (v:Value) (e:Ending) (w':World):Prop:=e= .returned v/\Step w w'
def RetSame (w:World) (v:Value) (e:Ending) (w':World):Prop:=e= .returned v/\w=w'
def sgn (neg:Bool) (z:Int):Int:=if neg then-z else z
end Go.Proofs.YtpcgfpmiphiacaaGreat
namespace Go.Proofs.YtpcgfpmiphiacaaGreat
open Go.RowKit
theorem Tryz.infoU32:(Tryz.prog.info? 271).map (fun i=>(i.zero,i.size,i.bytes))=some (some (.int .u32 0),1,4):=by kernel_rfl
theorem tight_take_succ {l:List Int} {k:Nat} {x:Int} (hx:l[k]? =some x) (h0:x≠0):Tight (l.take (k+1)):=by
 have hi:k<l.length:=(List.getElem?_eq_some_iff.1 hx).1
 have hx':l[k]=x:=(List.getElem?_eq_some_iff.1 hx).2
 rw [List.take_succ_eq_append_getElem hi,hx']
 simp [Tight,h0]
theorem val_take_zero {l:List Int} {k:Nat} (hx:l[k]? =some 0):val (l.take (k+1))=val (l.take k):=by
 rw [val_take_succ hx];simp
def RetTrim (w:World) (A:Option Addr) (c:Nat) (l:List Int) (e:Ending) (w':World):Prop:=∃m:Nat,m<=l.length/\Tight (l.take m)/\val (l.take m)=val l/\e= .returned (.slice A m c)/\w=w'
theorem trim_any {A:Option Addr} {c:Nat} {l:List Int} {w:World} (h:Ints w A 271 .u32 l) (hc:l.length<=c) (hc2:c<=9223372036854775807):
  Calls Tryz.prog 223 #[.slice A l.length c] w (RetTrim w A c l):=by
 go_enter Tryz.func223,Tryz.ntmps223
 go_wp2
 go_loop [0] (fun v=>∃m:Nat,m<=l.length/\Hid (val (l.take m)=val l)/\v= .slice A m c) (fun v=>match v with | .slice _ m _=>m |_=>0)
 case atStart=>exact ⟨l.length,Nat.le_refl _,by rw [List.take_length];exact Lib.hid rfl,rfl⟩
 case round=>
  obtain ⟨m,hm,hv,rfl⟩:=hrel
  by_cases h0:0<m
  ·obtain ⟨k,rfl⟩:∃k,m=k+1:=⟨m-1,by omega⟩
   obtain ⟨b,o,x,rfl,hx',hcell,hb⟩:=h.at_ (i:=k) (by omega)
   have hx:=Lib.hid hx'
   clear hx'
   by_cases hx0:x=0
   ·subst hx0
    go_wp2
    exact ⟨⟨k,by omega,by rw [Hid,<-val_take_zero hx.out];exact hv,rfl⟩,by simp⟩
   ·have hx1:(x==0)=false:=by simp [hx0]
    have ht:=Lib.hid (tight_take_succ hx.out hx0)
    clear hx0
    go_wp2
    go_ret
    exact ⟨k+1,hm,ht.out,hv.out,rfl,rfl⟩
  ·obtain rfl:m=0:=by omega
   go_wp2
   go_ret
   exact ⟨0,by omega,by simp [Tight],hv.out,rfl,rfl⟩
theorem build_any {w0 w:World} {A:Option Addr} {c:Nat} {l:List Int} (neg:Bool) (h:Ints w0 A 271 .u32 l) (hl:Limbs l) (ht:Tight l) (hc:l.length<=c) (hc2:c<=9223372036854775807) [hx:Ext w0 w]:
  Calls Tryz.prog 255 #[.bool neg,.slice A l.length c] w (RetInt w (sgn neg (val l))):=by
 have h1:=h.ext hx
 by_cases h0:l=[]
 ·subst h0
  go_enter Tryz.func255,Tryz.ntmps255
  go_wp2
  refine bodyPost_ret (v:= .agg #[.bool false,.slice none 0 0]) (by simp [results,Tryz.results255,go_sem]) rfl ⟨_,_,_,_,rfl,?_,Step.of _ _⟩
  cases neg<;>simpa [val,sgn] using IntV.zero _ none 0 (by omega)
 ·have hlen:0<l.length:=List.length_pos_iff.2 h0
  have hz:((l.length:Int)==0)=false:=by simp [h0]
  have hv:0<val l:=by
   have :=val_nonneg hl
   have :val l≠0:=fun hh=>h0 ((tight_zero hl ht).1 hh)
   omega
  have hpost:∀w',Ext w w'->IntV w' neg A l.length c (sgn neg (val l)):=fun w' hxw=>by
   refine ⟨l,rfl,hl,ht,?_,?_,h1.ext hxw,hc,hc2⟩
   ·cases neg<;>simp [sgn]<;>omega
   ·cases neg<;>simp [sgn]<;>omega
  have HP:=Lib.hid hpost
  clear h0 h1 hv hpost
  go_enter Tryz.func255,Tryz.ntmps255
  go_wp2
  exact bodyPost_ret (v:= .agg #[.bool neg,.slice A l.length c]) (by simp [results,Tryz.results255,go_sem]) rfl ⟨_,_,_,_,rfl,HP.out _ inferInstance,Step.of _ _⟩
theorem or_hi (a x:Int) (h1:0<=a) (h2:a<4294967296) (h3:0<=x) (h4:x<4294967296):bits .or .u64 a (x*4294967296)=a+x*4294967296:=by
 rw [u64_or a _ h1 (by omega) (by omega) (by omega),nat_join32' _ _ (by omega) (by omega)]
 omega
theorem or_zero_left (x:Int) (h3:0<=x) (h4:x<18446744073709551616):bits .or .u64 0 x=x:=by
 rw [u64_or 0 _ (by omega) (by omega) (by omega) (by omega)]
 simp;omega
theorem val_take1 {l:List Int} {x:Int} (h:l[0]? =some x):val (l.take 1)=x:=by
 have :=val_take_succ h
 simpa [val] using this
theorem word_any {A:Option Addr} {c:Nat} {l:List Int} {w:World} (h:Ints w A 271 .u32 l) (hl:Limbs l) (h2:l.length<=2):
  Calls Tryz.prog 224 #[.slice A l.length c] w (RetSame w (.int .u64 (val l))):=by
 go_enter Tryz.func224,Tryz.ntmps224
 go_wp2
 go_loop [3,8] (fun v i=>∃k:Nat,k<=l.length/\i= .int .i64 k/\v= .int .u64 (val (l.take k))) (fun _ i=>l.length-(intOf i).toNat)
 case atStart=>exact ⟨0,by omega,rfl,rfl⟩
 case round=>
  obtain ⟨k,hk,rfl,rfl⟩:=hrel
  by_cases hlt:k<l.length
  ·obtain rfl |rfl:k=0∨k=1:=by omega
   ·obtain ⟨b,o,x,rfl,hx',hcell,hb⟩:=h.at0 hlt
    obtain ⟨hx0,hx1⟩:=hl.get hx'
    have hs:=Lib.hid (val_take1 hx')
    clear hx'
    simp only [List.take_zero,val]
    go_wp2
    refine ⟨⟨1,by omega,rfl,?_⟩,by simp [intOf];omega⟩
    rw [or_zero_left _ hx0 (by omega),hs.out]
   ·obtain ⟨b,o,x,rfl,hx',hcell,hb⟩:=h.at_ hlt
    obtain ⟨hx0,hx1⟩:=hl.get hx'
    have hs:=Lib.hid (val_take_succ hx')
    clear hx'
    have hy0:=val_nonneg (hl.take 1)
    have hy1:=val_lt (hl.take 1)
    have hy2:(l.take 1).length=1:=by simp;omega
    rw [hy2] at hy1
    clear hy2
    go_wp2
    refine ⟨⟨2,by omega,rfl,?_⟩,by simp [intOf];omega⟩
    rw [or_hi _ _ hy0 (by omega) hx0 hx1,hs.out]
    congr 1;omega
  ·obtain rfl:k=l.length:=by omega
   go_wp2
   go_ret
   exact ⟨by simp,rfl⟩
theorem val_two (n:Int):val [n%4294967296,n / 4294967296]=n:=by
 simp only [val];omega
theorem fromWord_any (n:Int) (h0:0<=n) (h1:n<18446744073709551616) (w:World):
  Calls Tryz.prog 256 #[.int .u64 n] w (RetNat w n):=by
 have hl:Limbs [n%4294967296,n / 4294967296]:=Limbs.cons (by omega) (Limbs.cons (by omega) Limbs.nil)
 have hi:=Arr.new w 271 #[.int .u32 (n%4294967296),.int .u32 (n / 4294967296)]
 have hi':Ints (w.alloc (.cells #[.int .u32 (n%4294967296),.int .u32 (n / 4294967296)] 271)) (some ⟨w.heap.size,0,none⟩) 271 .u32 [n%4294967296,n / 4294967296]:=hi
 have hc:=trim_any (c:=2) hi' (by simp) (by omega)
 have HC:=Lib.hid hc
 clear hc hi
 go_enter Tryz.func256,Tryz.ntmps256
 go_wp2_with (go_at_call 223;refine (HC.out).mono ?_;rintro e w' ⟨m,hm,ht,hv,rfl,rfl⟩)
 go_ret
 refine ⟨_,2,[n%4294967296,n / 4294967296].take m,?_,hi'.take m,hl.take m,ht,by rw [hv,val_two],?_,by omega,Step.of _ _⟩
 ·have :m<=2:=hm
  simp [Nat.min_eq_left this]
 ·simp;omega
theorem Small_neg (n:Int) (h0:n<0) (h1:-9223372036854775808<=n) (w:World):
  Calls Tryz.prog 220 #[.int .i64 n] w (RetInt w n):=by
 go_enter Tryz.func220,Tryz.ntmps220
 go_wp2_with fail
 rw [show IntKind.u64.wrap (-IntKind.u64.wrap n)=-n by simp only [IntKind.wrap_u64];omega]
 refine (fromWord_any (-n) (by omega) (by omega) _).mono ?_
 rintro e w1 ⟨B1,d1,l1,rfl,hi1,hl1,ht1,hv1,hd1,hd2,hs1⟩
 have HV:=Lib.hid hv1
 clear hv1
 go_wp2_with fail
 refine (build_any true hi1 hl1 ht1 hd1 hd2).mono ?_
 rintro e w2 ⟨g,B,k,d,rfl,hz,hs2⟩
 obtain ⟨q0,q1,q2,q3,q4,q5⟩:=box2 w w2 (.bool false) (.slice none 0 0) 149
 have Q0:=Lib.hid q0
 clear q0
 go_wp2
 refine bodyPost_ret (v:= .agg #[.bool g,.slice B k d]) (by simp [results,Tryz.results220,go_sem,q1,q2]) rfl ⟨_,_,_,_,rfl,?_,Step.of _ _⟩
 have e1:sgn true (val l1)=n:=by rw [HV.out];simp [sgn]
 rw [e1] at hz
 exact hz.boxed (by decide) Q0.out _ _
theorem Small_pos (n:Int) (h0:0<=n) (h1:n<=9223372036854775807) (w:World):
  Calls Tryz.prog 220 #[.int .i64 n] w (RetInt w n):=by
 go_enter Tryz.func220,Tryz.ntmps220
 go_wp2_with fail
 try rw [show IntKind.u64.wrap n=n by simp only [IntKind.wrap_u64];omega]
 refine (fromWord_any n (by omega) (by omega) _).mono ?_
 rintro e w1 ⟨B1,d1,l1,rfl,hi1,hl1,ht1,hv1,hd1,hd2,hs1⟩
 have HV:=Lib.hid hv1
 clear hv1
 go_wp2_with fail
 refine (build_any false hi1 hl1 ht1 hd1 hd2).mono ?_
 rintro e w2 ⟨g,B,k,d,rfl,hz,hs2⟩
 obtain ⟨q0,q1,q2,q3,q4,q5⟩:=box2 w w2 (.bool false) (.slice none 0 0) 149
 have Q0:=Lib.hid q0
 clear q0
 go_wp2
 refine bodyPost_ret (v:= .agg #[.bool g,.slice B k d]) (by simp [results,Tryz.results220,go_sem,q1,q2]) rfl ⟨_,_,_,_,rfl,?_,Step.of _ _⟩
 have e1:sgn false (val l1)=n:=by rw [HV.out];simp [sgn]
 rw [e1] at hz
 exact hz.boxed (by decide) Q0.out _ _
theorem Small_any (n:Int) (h0:-9223372036854775808<=n) (h1:n<=9223372036854775807) (w:World):
  Calls Tryz.prog 220 #[.int .i64 n] w (RetInt w n):=by
 by_cases h:n<0
 ·exact Small_neg n h h0 w
 ·exact Small_pos n (by omega) h1 w
/-! ## compareNat -/
def cmpI (a b:Int):Int:=if a<b then-1 else if a=b then 0 else 1
theorem cmpI_lt {a b:Int} (h:a<b):cmpI a b=-1:=by simp [cmpI,h]
theorem cmpI_gt {a b:Int} (h:b<a):cmpI a b=1:=by simp [cmpI];omega
theorem cmpI_eq {a b:Int} (h:a=b):cmpI a b=0:=by simp [cmpI,h]
theorem tight_len_lt {l m:List Int} (hl:Limbs l) (hm:Limbs m) (ht:Tight m) (h:l.length<m.length):val l<val m:=by
 have h1:=val_lt hl
 have h2:=tight_lower hm ht (by omega)
 have h3:=pow_mono_B (m:=l.length) (n:=m.length-1) (by omega)
 omega
theorem val_split {l:List Int} (k:Nat):val l=val (l.take k)+(4294967296:Int)^(l.take k).length*val (l.drop k):=by
 rw [<-val_append,List.take_append_drop]
theorem val_lt_of_limb {l m:List Int} (hl:Limbs l) (hm:Limbs m) {k:Nat} {x y:Int} (hx:l[k]? =some x) (hy:m[k]? =some y) (hd:l.drop (k+1)=m.drop (k+1)) (h:x<y):val l<val m:=by
 have hk:k<l.length:=(List.getElem?_eq_some_iff.1 hx).1
 have hk':k<m.length:=(List.getElem?_eq_some_iff.1 hy).1
 rw [val_split (l:=l) (k+1),val_split (l:=m) (k+1),hd,val_take_succ hx,val_take_succ hy]
 rw [List.length_take,List.length_take,Nat.min_eq_left (by omega),Nat.min_eq_left (by omega)]
 have h1:=val_lt (hl.take k)
 rw [List.length_take,Nat.min_eq_left (by omega)] at h1
 have h2:=val_nonneg (hm.take k)
 have h3:(4294967296:Int)^k*(x+1)<=(4294967296:Int)^k*y:=Int.mul_le_mul_of_nonneg_left (by omega) (by have :=pow_pos_B k;omega)
 rw [Int.mul_add] at h3
 omega
theorem compareNat_eq {w:World} {A B:Option Addr} {c d:Nat} {l m:List Int} (ha:Ints w A 271 .u32 l) (hb:Ints w B 271 .u32 m) (hl:Limbs l) (hm:Limbs m)
  (h1:l.length<=9223372036854775807) (hn:m.length=l.length):
  Calls Tryz.prog 287 #[.slice A l.length c,.slice B l.length d] w (RetVal w (.int .i64 (cmpI (val l) (val m)))):=by
 have HN:=Lib.hid hn
 clear hn
 go_enter Tryz.func287,Tryz.ntmps287
 go_wp2
 go_loopw [5] (fun i wr=>∃k:Nat,k<=l.length/\i= .int .i64 ((k:Int)-1)/\Hid (l.drop k=m.drop k)/\Ext w wr) (fun i _=>(intOf i+1).toNat)
 case atStart=>exact ⟨l.length,by omega,rfl,by simp [Hid,HN.out],inferInstance⟩
 case round=>
  obtain ⟨k,hk,rfl,hd,hxr⟩:=hrel
  cases k with
  |zero=>
   go_wp2
   go_ret
   refine ⟨?_,hxr.toStep⟩
   have :=hd.out
   simp only [List.drop_zero] at this
   rw [cmpI_eq (by rw [this])];rfl
  |succ j=>
   obtain ⟨b,o,x,rfl,hx',hcx,hbx⟩:=(ha.ext hxr).at_ (i:=j) (by omega)
   obtain ⟨b',o',y,rfl,hy',hcy,hby⟩:=(hb.ext hxr).at_ (i:=j) (by have :=HN.out;omega)
   obtain ⟨hx0,hx1⟩:=hl.get hx'
   obtain ⟨hy0,hy1⟩:=hm.get hy'
   have HX:=Lib.hid hx'
   have HY:=Lib.hid hy'
   clear hx' hy'
   rw [show ((j+1:Nat):Int)-1=(j:Int) by omega]
   by_cases hlt:x<y
   ·have hltb:decide (x<y)=true:=by simpa using hlt
    have e1:=Lib.hid (cmpI_lt (val_lt_of_limb hl hm HX.out HY.out hd.out hlt))
    go_wp2
    go_quiet (fail)
    go_wp2
    go_ret
    exact ⟨by rw [e1.out];rfl,(inferInstance:Ext w (wr.drewN nq)).toStep⟩
   ·by_cases hgt:y<x
    ·have hltb:decide (x<y)=false:=by simpa using hlt
     have hgtb:decide (y<x)=true:=by simpa using hgt
     have e1:=Lib.hid (cmpI_gt (val_lt_of_limb hm hl HY.out HX.out hd.out.symm hgt))
     clear hlt
     go_wp2
     go_quiet (fail)
     go_wp2
     go_quiet (fail)
     go_wp2
     go_ret
     exact ⟨by rw [e1.out];rfl,(inferInstance:Ext w _).toStep⟩
    ·obtain rfl:x=y:=by omega
     have hd':Hid (l.drop j=m.drop j):=by
      have h1:j<l.length:=(List.getElem?_eq_some_iff.1 HX.out).1
      have h2:j<m.length:=(List.getElem?_eq_some_iff.1 HY.out).1
      unfold Hid
      rw [List.drop_eq_getElem_cons h1,List.drop_eq_getElem_cons h2,hd.out,(List.getElem?_eq_some_iff.1 HX.out).2,(List.getElem?_eq_some_iff.1 HY.out).2]
     clear hlt hgt
     go_wp2
     go_quiet (fail)
     go_wp2
     go_quiet (fail)
     go_wp2
     exact ⟨⟨j,by omega,rfl,hd',inferInstance⟩,by simp [intOf]<;>omega⟩
theorem compareNat_any {w0 w1 w:World} {A B:Option Addr} {c d:Nat} {l m:List Int} (ha:Ints w0 A 271 .u32 l) (hb:Ints w1 B 271 .u32 m) (hl:Limbs l) (hm:Limbs m) (tl:Tight l) (tm:Tight m)
  (h1:l.length<=9223372036854775807) (h2:m.length<=9223372036854775807) [hx:Ext w0 w] [hy:Ext w1 w]:
  Calls Tryz.prog 287 #[.slice A l.length c,.slice B m.length d] w (RetVal w (.int .i64 (cmpI (val l) (val m)))):=by
 by_cases hlt:l.length<m.length
 ·have e1:=Lib.hid (cmpI_lt (tight_len_lt hl hm tm hlt))
  go_enter Tryz.func287,Tryz.ntmps287
  go_wp2
  go_ret
  exact ⟨by rw [e1.out];rfl,Step.of _ _⟩
 by_cases hgt:m.length<l.length
 ·have e1:=Lib.hid (cmpI_gt (tight_len_lt hm hl tl hgt))
  go_enter Tryz.func287,Tryz.ntmps287
  go_wp2
  go_ret
  exact ⟨by rw [e1.out];rfl,Step.of _ _⟩
 have hn:m.length=l.length:=by omega
 rw [hn]
 exact compareNat_eq (ha.ext hx) (hb.ext hy) hl hm h1 hn
end Go.Proofs.YtpcgfpmiphiacaaGreat
