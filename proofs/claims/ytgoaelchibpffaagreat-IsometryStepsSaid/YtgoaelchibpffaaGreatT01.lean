import Derived.Test.YtgoaelchibpffaaGreatProg
import Derived.WalkKit
import Derived.WalkSpells
import Derived.WalkLawsBesides
import Derived.Lib.Hide
import Derived.Deep.QuietTactic
import Derived.BigQuiet
import Derived.Deep.Draws
import Derived.Laws.Rows
set_option maxHeartbeats 8000000
set_option linter.unusedVariables false
set_option linter.unusedSimpArgs false
namespace Go.Proofs.YtgoaelchibpffaaGreat
theorem af{p:Prop}(h:p:=by simp):p:=h
theorem ae{p:Prop}(h:p:=by grind):p:=h
theorem ac{p:Prop}(h:p:=by decide):p:=h
theorem aa{p:Prop}(h:p:=by omega):p:=h
open List (nil_append cons_append mem_append length_cons)
variable {cs:Array Value} {z:Int} {l:List Int} {N b c d i j k m n o p r s:Nat} {fr:Nat×Nat} {A D P0 U V X q x y:Rat} {T e e':TypeId} {u:Value} {W w w':World}
section
namespace La
abbrev zG:=Nat->Rat
def ZG(D:List zG->Rat)(c:Nat):List zG->List zG->Rat
 |_,[]=>0
 |pre,r::rest=>r c*D (pre++rest)-ZG D c (pre++[r]) rest
def det:List Nat->List zG->Rat
 |[],[]=>1
 |[],_::_=>0
 |c::cs,R=>ZG (det cs) c [] R
def Qj(a:zG)(t:Rat)(b:zG):zG:=fun j=>a j+t*b j
def J6(D:List zG->Rat):Prop:=∀X Z a t b,D (X++Qj a t b::Z)=D (X++a::Z)+t*D (X++b::Z)
def J7(D:List zG->Rat):Prop:=∀X Z a,D (X++a::a::Z)=0
theorem zjw{D:List zG->Rat}(h:J6 D)(c:Nat)(rest:List zG):∀(P Q:List zG)(a:zG)(t:Rat)(b:zG),
  ZG D c (P++Qj a t b::Q) rest=ZG D c (P++a::Q) rest+t*ZG D c (P++b::Q) rest:=by
 induction rest with
 |nil=>intro P Q a t b;simp only[ZG];grind
 |cons r rest ih=>
  intro P Q a t b;have h1:=h P (Q++rest) a t b;have h2:=ih P (Q++[r]) a t b;simp only[ZG]at h1 h2 |-
  grind
theorem zjx{D:List zG->Rat}(h:J6 D)(c:Nat)(Z:List zG)(a:zG)(t:Rat)(b:zG)(X:List zG):∀(P:List zG),
  ZG D c P (X++Qj a t b::Z)=ZG D c P (X++a::Z)+t*ZG D c P (X++b::Z):=by
 induction X with
 |nil=>
  intro P;have h1:=zjw h c Z P [] a t b;have h2:Qj a t b c=a c+t*b c:=rfl;simp only[ZG,nil_append]at h1 |-
  grind
 |cons x X ih=>
  intro P;have h1:=h (P++X) Z a t b;have h2:=ih (P++[x]);simp only[ZG,cons_append]at h1 h2 |-
  grind
theorem zjy{D:List zG->Rat}(h:J7 D)(c:Nat)(rest:List zG):∀(P Q:List zG)(a:zG),ZG D c (P++a::a::Q) rest=0:=by
 induction rest with
 |nil=>intro P Q a;simp[ZG]
 |cons r rest ih=>
  intro P Q a;have h1:=h P (Q++rest) a;have h2:=ih P (Q++[r]) a;simp only[ZG]at h1 h2 |-
  grind
theorem zjz{D:List zG->Rat}(h:J7 D)(c:Nat)(Z:List zG)(a:zG)(X:List zG):∀(P:List zG),ZG D c P (X++a::a::Z)=0:=by
 induction X with
 |nil=>
  intro P;have h1:=zjy h c Z P [] a;simp only[ZG,nil_append]at h1 |-
  grind
 |cons x X ih=>
  intro P;have h1:=h (P++X) Z a;have h2:=ih (P++[x]);simp only[ZG,cons_append]at h1 h2 |-
  grind
theorem zjA(cs:List Nat):J6 (det cs):=by
 induction cs with
 |nil=>intro X Z a t b;cases X<;>(simp only[det,nil_append,cons_append];grind)
 |cons c cs ih=>intro X Z a t b;exact zjx ih c Z a t b X []
theorem zjB(cs:List Nat):J7 (det cs):=by
 induction cs with
 |nil=>intro X Z a;cases X<;>simp[det]
 |cons c cs ih=>intro X Z a;exact zjz ih c Z a X []
theorem swap{D:List zG->Rat}(hl:J6 D)(ha:J7 D)(X Z:List zG)(a b:zG):D (X++a::b::Z)=-D (X++b::a::Z):=by
 have h0:=ha X Z (Qj a 1 b);have h1:=hl X (Qj a 1 b::Z) a 1 b;have h2:=hl (X++[a]) Z a 1 b;have h3:=hl (X++[b]) Z a 1 b;have h4:=ha X Z a;have h5:=ha X Z b;grind
theorem rep{D:List zG->Rat}(hl:J6 D)(ha:J7 D)(a:zG)(Z Y:List zG):∀X:List zG,D (X++a::(Y++a::Z))=0:=by
 induction Y with
 |nil=>intro X;exact ha X Z a
 |cons y Y ih=>
  intro X;have h1:=swap hl ha X (Y++a::Z) a y;have h2:=ih (X++[y]);grind
theorem zjC{D:List zG->Rat}(hl:J6 D)(ha:J7 D)(r:zG)(t:zG->Rat)(Z:List zG):∀Y:List zG,D (r::(Y++Z.map fun x=>Qj x (t x) r))=D (r::(Y++Z)):=by
 induction Z with
 |nil=>grind
 |cons z Z ih=>
  intro Y;have h1:=hl (r::Y) (Z.map fun x=>Qj x (t x) r) z (t z) r;have h2:=rep hl ha r (Z.map fun x=>Qj x (t x) r) Y [];have h3:=ih (Y++[z]);grind
theorem zjD{D:List zG->Rat}(c:Nat)(R:List zG)(h:∀r∈R,r c=0):∀P,ZG D c P R=0:=by
 induction R with
 |nil=>intro P;rfl
 |cons r R ih=>
  intro P;have h2:=h r af;simp only[ZG];grind
theorem zjE(c:Nat)(cs:List Nat)(r:zG)(R:List zG)(hr:r c≠0):det (c::cs) (r::R)=r c*det cs (R.map fun x=>Qj x (-(x c) / r c) r):=by
 have h1:=zjC (zjA (c::cs)) (zjB (c::cs)) r (fun x=>-(x c) / r c) R [];simp only[nil_append]at h1;rw[<-h1];have h2:∀P,ZG (det cs) c P (R.map fun x=>Qj x (-(x c) / r c) r)=0:=zjD c _ (fun x hx=>by
  obtain⟨y,_,rfl⟩:=List.mem_map.1 hx;simp only[Qj];grind)
 show ZG (det cs) c [] (r::_)=_;simp only[ZG];grind
def IsZ(x:Rat):Prop:=∃z:Int,x=(z:Rat)
theorem IsZ.sub(h:IsZ x)(k:IsZ y):IsZ (x-y):=by
 obtain⟨a,rfl⟩:=h;obtain⟨b,rfl⟩:=k;exact⟨a-b,ae⟩
theorem IsZ.mul(h:IsZ x)(k:IsZ y):IsZ (x*y):=by
 obtain⟨a,rfl⟩:=h;obtain⟨b,rfl⟩:=k;exact⟨a*b,ae⟩
theorem IsZ.zero:IsZ 0:=⟨0,af⟩
theorem IsZ.one:IsZ 1:=⟨1,af⟩
theorem zjF{D:List zG->Rat}(c:Nat)(hD:∀R:List zG,(∀r∈R,∀j,IsZ (r j))->IsZ (D R))(R:List zG):∀P:List zG,(∀r∈P,∀j,IsZ (r j))->(∀r∈R,∀j,IsZ (r j))->IsZ (ZG D c P R):=by
 induction R with
 |nil=>intro P _ _;exact IsZ.zero
 |cons r R ih=>
  intro P hP hR;refine IsZ.sub (IsZ.mul (hR r af c) (hD _ ?_)) (ih _ ?_ (fun x hx=>hR x (List.mem_cons_of_mem _ hx)))
  ·intro x hx;rcases mem_append.1 hx with hx |hx
   ·exact hP x hx
   simp_all
  ·intro x hx;rcases mem_append.1 hx with hx |hx
   ·exact hP x hx
   simp_all
theorem zjG(cs:List Nat):∀R:List zG,(∀r∈R,∀j,IsZ (r j))->IsZ (det cs R):=by
 induction cs with
 |nil=>intro R _;cases R<;>simp only[det];exact IsZ.one;exact IsZ.zero
 |cons c cs ih=>intro R hR;exact zjF c ih R [] af hR
abbrev Mx:=Nat->Nat->Rat
def elim(f:Mx)(k:Nat):Mx:=fun i j=>f i j-f i k*f k j / f k k
def S(f:Mx):Nat->Mx
 |0=>f
 |k+1=>elim (S f k) k
def dd(f:Mx):Nat->Rat
 |0=>1
 |k+1=>dd f k*S f k k k
def Piv(f:Mx)(k:Nat):Prop:=∀l,l<k->S f l l l≠0
def jX(f:Mx)(l:Nat):Nat->Rat
 |0=>1
 |m+1=>S f l l l*jX f (l+1) m
theorem zjH(f:Mx)(m:Nat):∀l,jX f l (m+1)=jX f l m*S f (l+m) (l+m) (l+m):=by
 induction m with
 |zero=>intro l;simp[jX]
 |succ m ih=>
  intro l;show S f l l l*jX f (l+1) (m+1)=S f l l l*jX f (l+1) m*_;grind
theorem zjI(f:Mx)(k:Nat):dd f k=jX f 0 k:=by
 induction k with
 |zero=>rfl
 |succ k ih=>rw[zjH,<-ih,Nat.zero_add];rfl
theorem zjJ(f:Mx)(i j:Nat)(m:Nat):∀l,(∀t,l<=t->t<l+m->S f t t t≠0)->
  det (List.range' l m++[j]) ((List.range' l m).map (fun x=>S f l x)++[S f l i])=jX f l m*S f (l+m) i j:=by
 induction m with
 |zero=>intro l _;simp only[List.range'_zero,List.map_nil,nil_append,det,ZG,jX];grind
 |succ m ih=>
  intro l h;rw[List.range'_succ];simp only[List.map_cons,cons_append];rw[zjE l _ _ _ (h l aa aa)];have h1:=ih (l+1) (fun t h1 h2=>h t aa aa);have e:∀x,Qj (S f l x) (-(S f l x l) / S f l l l) (S f l l)=S f (l+1) x:=by
   intro x;funext y;simp only[Qj,S,elim];grind
  simp only[List.map_append,List.map_map,List.map_cons,List.map_nil,Function.comp_def,e];rw[h1,(aa:l+1+m=l+(m+1)),<-Rat.mul_assoc];rfl
theorem zeZ(f:Mx)(hf:∀i j,IsZ (f i j))(k:Nat)(hp:Piv f k)(i j:Nat):IsZ (dd f k*S f k i j):=by
 have h:=zjJ f i j k 0 (fun t _ h2=>hp t aa);rw[Nat.zero_add,<-zjI]at h;rw[<-h];refine zjG _ _ fun r hr c=>?_
 rcases mem_append.1 hr with hr |hr
 ·obtain⟨x,_,rfl⟩:=List.mem_map.1 hr;exact hf x c
 ·obtain rfl:r=S f 0 i:=ae
  exact hf i c
end La
namespace La
def Sym(f:Mx):Prop:=∀i j,f i j=f j i
theorem zjK{f:Mx}(h:Sym f)(k:Nat):Sym (elim f k):=fun i j=>by
 simp only[elim];rw[h i j,h i k,h k j,Rat.mul_comm]
theorem J8{f:Mx}(h:Sym f)(k:Nat):Sym (S f k):=by
 induction k with
 |zero=>exact h
 |succ k ih=>exact zjK ih k
theorem zbG{f:Mx}(k:Nat):Piv f k->∀i,i<k->∀j,S f k i j=0:=by
 induction k with
 |zero=>grind
 |succ k ih=>
  intro h i hi j;show elim (S f k) k i j=0;simp only[elim];have hk:=h k aa;by_cases e:i=k
  ·grind
  ·have h1:=ih (fun l hl=>h l aa) i aa;grind
theorem ze0{f:Mx}(k:Nat):Piv f k->∀j,j<k->∀i,S f k i j=0:=by
 induction k with
 |zero=>grind
 |succ k ih=>
  intro h j hj i;show elim (S f k) k i j=0;simp only[elim];have hk:=h k aa;by_cases e:j=k
  ·grind
  ·have h1:=ih (fun l hl=>h l aa) j aa;grind
def Qy(i j:Nat)(q:Rat)(f:Mx):Mx:=fun x y=>f x y-(if x=i then q*f j y else 0)
def Qz(i j:Nat)(q:Rat)(f:Mx):Mx:=fun x y=>f x y-(if y=i then q*f x j else 0)
def z7(i j:Nat)(q:Rat)(f:Mx):Mx:=Qz i j q (Qy i j q f)
theorem zjL(q:Rat)(f:Mx)(h:k≠i):elim (Qy i j q f) k=Qy i j q (elim f k):=by
 funext x y
 simp only[elim,Qy];grind
theorem zjM(q:Rat)(f:Mx)(h:k≠i):elim (Qz i j q f) k=Qz i j q (elim f k):=by
 funext x y
 simp only[elim,Qz];grind
theorem zbH(q:Rat)(f:Mx)(l:Nat):l<=i->S (z7 i j q f) l=z7 i j q (S f l):=by
 induction l with
 |zero=>intro _;rfl
 |succ l ih=>
  intro h;show elim (S (z7 i j q f) l) l=z7 i j q (elim (S f l) l);rw[ih aa];unfold z7;rw[zjM q _ aa,zjL q _ aa]
theorem zjN(q:Rat){f:Mx}(h1:∀y,f j y=0)(h2:∀x,f x j=0):z7 i j q f=f:=by
 funext x y
 simp only[z7,Qz,Qy];grind
theorem zjO(q:Rat){f:Mx}(hj:j<i)(l:Nat):j<l->Piv f l->S (z7 i j q f) l=S f l:=by
 induction l with
 |zero=>grind
 |succ l ih=>
  intro h hp;by_cases hl:l+1<=i
  ·rw[zbH q f (l+1) hl];exact zjN q (zbG _ hp j h) (fun x=>ze0 _ hp j h x)
  ·show elim (S (z7 i j q f) l) l=elim (S f l) l;rw[ih aa (fun t ht=>hp t aa)]
theorem JH(q:Rat){f:Mx}(hj:j<i)(l:Nat)(hp:Piv f l):S (z7 i j q f) l l l=S f l l l:=by
 by_cases h:l<=j
 ·rw[zbH q f l aa];simp only[z7,Qz,Qy];grind
 ·rw[zjO q hj l aa hp]
theorem Piv.le{f:Mx}{l:Nat}(h:Piv f k)(hl:l<=k):Piv f l:=fun t ht=>h t aa
theorem zbI(q:Rat){f:Mx}(hj:j<i)(k:Nat):Piv f k->dd (z7 i j q f) k=dd f k:=by
 induction k with
 |zero=>intro _;rfl
 |succ k ih=>
  intro h;show dd (z7 i j q f) k*_=dd f k*_;rw[ih (h.le aa),JH q hj k (h.le aa)]
def sg(p x:Nat):Nat:=if x=p then p+1 else if x=p+1 then p else x
def swf(p:Nat)(f:Mx):Mx:=fun x y=>f (sg p x) (sg p y)
theorem je{x:Nat}(h1:x≠p)(h2:x≠p+1):sg p x=x:=by simp[sg,h1,h2]
theorem J9(p:Nat):sg p p=p+1:=by simp[sg]
theorem zcX(p:Nat):sg p (p+1)=p:=by simp[sg]
theorem ze1(f:Mx)(h1:k≠p)(h2:k≠p+1):elim (swf p f) k=swf p (elim f k):=by
 funext x y
 simp only[elim,swf,je h1 h2]
theorem Jg(f:Mx)(l:Nat):l<=p->S (swf p f) l=swf p (S f l):=by
 induction l with
 |zero=>intro _;rfl
 |succ l ih=>
  intro h;show elim (S (swf p f) l) l=swf p (elim (S f l) l);rw[ih aa,ze1 _ aa aa]
theorem zjP(g:Mx)(p q:Nat)(h1:g p p≠0)(h2:g q q≠0)(h3:g p p*g q q-g p q*g q p≠0)(x y:Nat):
  elim (elim g p) q x y=elim (elim g q) p x y:=by
 have e1:g q q-g q p*g p q / g p p≠0:=ae
 simp only[elim];grind
theorem zcY{f:Mx}(hp:Piv f (p+2))(hq:S f p (p+1) (p+1)≠0)(l:Nat):S (swf p f) (p+2+l)=swf p (S f (p+2+l)):=by
 induction l with
 |zero=>
  show elim (elim (S (swf p f) p) p) (p+1)=swf p (elim (elim (S f p) p) (p+1));rw[Jg f p (Nat.le_refl _)];funext x y
  have h1:=hp p aa;have h2:elim (S f p) p (p+1) (p+1)≠0:=hp (p+1) aa;have h3:S f p p p*S f p (p+1) (p+1)-S f p p (p+1)*S f p (p+1) p≠0:=by
   intro e;apply h2;simp only[elim];grind
  have h4:=zjP (S f p) p (p+1) h1 hq h3 (sg p x) (sg p y);simp only[elim,swf,J9,zcX]at h4 |-
  grind
 |succ l ih=>
  show elim (S (swf p f) (p+2+l)) (p+2+l)=swf p (elim (S f (p+2+l)) (p+2+l));rw[ih,ze1 _ aa aa]
theorem zcZ(f:Mx)(k:Nat):k<=p->dd (swf p f) k=dd f k:=by
 induction k with
 |zero=>intro _;rfl
 |succ k ih=>
  intro h;show dd (swf p f) k*S (swf p f) k k k=dd f k*S f k k k;rw[ih aa,Jg f k aa];simp only[swf,je (aa:k≠p) (aa:k≠p+1)]
theorem ze2(f:Mx):dd (swf p f) (p+1)=dd f p*S f p (p+1) (p+1):=by
 show dd (swf p f) p*S (swf p f) p p p=_;rw[zcZ f p (Nat.le_refl _),Jg f p (Nat.le_refl _)];simp only[swf,J9]
theorem zc0(f:Mx):S (swf p f) (p+1) (p+1) (p+1)=S f p p p-S f p p (p+1)*S f p (p+1) p / S f p (p+1) (p+1):=by
 show elim (S (swf p f) p) p (p+1) (p+1)=_;rw[Jg f p (Nat.le_refl _)];simp only[elim,swf,J9,zcX]
theorem zbJ{f:Mx}(hp:Piv f (p+2))(hq:S f p (p+1) (p+1)≠0)(l:Nat):dd (swf p f) (p+2+l)=dd f (p+2+l):=by
 induction l with
 |zero=>
  show dd (swf p f) (p+1)*S (swf p f) (p+1) (p+1) (p+1)=dd f p*S f p p p*elim (S f p) p (p+1) (p+1);rw[ze2,zc0];simp only[elim];have h1:=hp p aa;grind
 |succ l ih=>
  show dd (swf p f) (p+2+l)*S (swf p f) (p+2+l) (p+2+l) (p+2+l)=dd f (p+2+l)*S f (p+2+l) (p+2+l) (p+2+l);rw[ih,zcY hp hq l];simp only[swf,je (aa:p+2+l≠p) (aa:p+2+l≠p+1)]
end La
namespace La
theorem jY(a:Rat):0<=a*a:=by
 rcases(ae:0<=a∨0<=-a) with h |h
 ·exact Rat.mul_nonneg h h
 ·have :=Rat.mul_nonneg h h;grind
theorem zbK{s:Rat}(h:s≠0):x / s*s=x:=ae
theorem zaO{s:Rat}(hs:0<s)(h:0<=y*s):0<=y:=by
 rcases(ae:0<=y∨0< -y) with h1 |h1
 ·grind
 ·have :=Rat.mul_pos h1 hs;grind
theorem ze3{s:Rat}(hs:0<s)(h:0<y*s):0<y:=by
 rcases(ae:0<y∨0<=-y) with h1 |h1
 ·grind
 ·have :=Rat.mul_nonneg h1 (Rat.le_of_lt hs);grind
theorem zaP{s:Rat}(hx:0<=x)(hs:0<s):0<=x / s:=
 zaO hs (by rw[zbK ae];grind)
theorem zc1{s:Rat}(hs:0<s)(h:y<=x*s):y / s<=x:=by
 have h1:y / s*s=y:=zbK ae;have :=zaO (y:=x-y / s) hs ae;grind
theorem zL{a b c:Rat}(hc:0<=c)(h:a<=b):c*a<=c*b:=Rat.mul_le_mul_of_nonneg_left h hc
theorem JI{a b c:Rat}(hc:0<c)(h:c*a<=c*b):a<=b:=by
 have :=zaO (y:=b-a) hc ae;grind
def Pos(f:Mx)(n:Nat):Prop:=∀l,l<n->0<S f l l l
theorem Pos.piv{f:Mx}(h:Pos f n):Piv f n:=fun l hl=>by have :=h l hl;grind
theorem Pos.le{f:Mx}(h:Pos f n)(hm:m<=n):Pos f m:=fun l hl=>h l aa
theorem jx{f:Mx}(k:Nat):Pos f k->0<dd f k:=by
 induction k with
 |zero=>intro _;rfl
 |succ k ih=>intro h;exact Rat.mul_pos (ih (h.le aa)) (h k aa)
theorem Pos.red{f:Mx}{n i j:Nat}(q:Rat)(h:Pos f n)(hj:j<i):Pos (z7 i j q f) n:=fun l hl=>by
 rw[JH q hj l (h.le aa).piv];exact h l hl
theorem jZ{f:Mx}(hs:Sym f)(l i:Nat):S f l i i=S f (l+1) i i+S f l i l*S f l i l / S f l l l:=by
 have :=J8 hs l l i;show _=elim (S f l) l i i+_;simp only[elim];grind
theorem zjQ{f:Mx}(hs:Sym f)(h:Pos f n)(hi:i<n)(t:Nat):t<=i->0<S f (i-t) i i:=by
 induction t with
 |zero=>intro _;exact h i hi
 |succ t ih=>
  intro ht;obtain⟨l,hl⟩:∃l,i-(t+1)=l:=⟨_,rfl⟩;have h2:=jZ hs l i;have h3:=zaP (jY (S f l i l)) (h l aa);grind
theorem Jh{f:Mx}(hs:Sym f)(h:Pos f n){l:Nat}(hi:i<n)(hl:l<=i):0<S f l i i:=by
 have :=zjQ hs h hi (i-l) aa;grind
theorem ze4{f:Mx}(hs:Sym f)(h:Pos f n)(i l:Nat):l<=n->S f l i i<=f i i:=by
 induction l with
 |zero=>intro _;exact Rat.le_refl
 |succ l ih=>
  intro hl;have h2:=jZ hs l i;have h3:=zaP (jY (S f l i l)) (h l aa);grind
theorem zjR{f:Mx}(hs:Sym f)(h:Pos f n){l:Nat}(hi:i<n)(hl:l<i):S f l i l*S f l i l<=f i i*S f l l l:=by
 have h1:=jZ hs l i;have h2:=Jh hs h hi (l:=l+1) aa;have h3:=ze4 hs h i l aa;have hp:=h l aa;have h4:S f l i l*S f l i l / S f l l l*S f l l l=S f l i l*S f l i l:=zbK ae;have h5:=zL (Rat.le_of_lt hp) (show S f l i l*S f l i l / S f l l l<=f i i by grind);grind
theorem Pos.swf{f:Mx}(hs:Sym f)(h:Pos f n)(hp:p+1<n):Pos (swf p f) n:=fun l hl=>by
 have hq:=Jh hs h (i:=p+1) (l:=p) hp aa;have hP:Piv f (p+2):=(h.le aa).piv;rcases(aa:l<p∨l=p∨l=p+1∨p+2<=l) with h1 |h1 |h1 |h1
 ·rw[Jg f l aa];simp only[La.swf,je (aa:l≠p) (aa:l≠p+1)];exact h l hl
 ·subst h1;rw[Jg f l (Nat.le_refl _)];simp only[La.swf,J9];exact hq
 ·subst h1;rw[zc0];have h2:=h p aa;have h3:=h (p+1) hp;have h4:=jZ hs p (p+1);have h5:=J8 hs p p (p+1);rw[h5];obtain⟨y,hy⟩:∃y,S f p (p+1) p*S f p (p+1) p / S f p (p+1) (p+1)=y:=⟨_,rfl⟩;obtain⟨z,hz⟩:∃z,S f p (p+1) p*S f p (p+1) p / S f p p p=z:=⟨_,rfl⟩;have e1:y*S f p (p+1) (p+1)=S f p (p+1) p*S f p (p+1) p:=ae
  have e2:z*S f p p p=S f p (p+1) p*S f p (p+1) p:=ae
  rw[hy];rw[hz]at h4;refine ze3 hq ?_;have h6:=Rat.mul_pos h2 h3;have e3:(S f p p p-y)*S f p (p+1) (p+1)=S f p p p*S f (p+1) (p+1) (p+1):=ae
  grind
 ·obtain⟨t,rfl⟩:∃t,l=p+2+t:=⟨l-(p+2),aa⟩;rw[zcY hP ae t];simp only[La.swf,je (aa:p+2+t≠p) (aa:p+2+t≠p+1)];exact h _ hl
theorem Sym.swf{f:Mx}(h:Sym f)(p:Nat):Sym (swf p f):=fun _ _=>h _ _
theorem Sym.red{f:Mx}(h:Sym f)(i j:Nat)(q:Rat):Sym (z7 i j q f):=fun x y=>by
 have h1:=h x y;have h2:=h j y;have h3:=h x j;simp only[z7,Qz,Qy];grind
theorem ze5{f:Mx}(hs:Sym f)(h:Pos f n)(hr:r<s)(hn:s<n)(t:Nat):t<=r->2*S f (r-t) r s<=S f (r-t) r r+S f (r-t) s s/\-(2*S f (r-t) r s)<=S f (r-t) r r+S f (r-t) s s:=by
 induction t with
 |zero=>
  intro _;rw[Nat.sub_zero];have h1:=jZ hs r s;have h2:=Jh hs h hn (l:=r+1) aa;have hp:=h r aa;have h3:=J8 hs r r s;rw[h3];obtain⟨z,hz⟩:∃z,S f r s r*S f r s r / S f r r r=z:=⟨_,rfl⟩;have e2:z*S f r r r=S f r s r*S f r s r:=by rw[<-hz];exact zbK ae
  rw[hz]at h1;have a1:=jY (S f r s r-S f r r r);have a2:=jY (S f r s r+S f r r r);constructor
  ·have :=zaO (y:=S f r r r+z-2*S f r s r) hp ae;grind
  ·have :=zaO (y:=S f r r r+z+2*S f r s r) hp ae;grind
 |succ t ih=>
  intro ht;have ⟨i1,i2⟩:=ih aa;obtain⟨l,hl⟩:∃l,r-(t+1)=l:=⟨_,rfl⟩;rw[hl];rw[(aa:r-t=l+1)]at i1 i2;have hp:=h l aa;have d1:=jZ hs l r;have d2:=jZ hs l s;have d3:S f l r s=S f (l+1) r s+S f l r l*S f l s l / S f l l l:=by
   have :=J8 hs l l s;show _=elim (S f l) l r s+_;simp only[elim];rw[this];grind
  have a1:=zaP (jY (S f l r l-S f l s l)) hp;have a2:=zaP (jY (S f l r l+S f l s l)) hp;grind
theorem ze6{f:Mx}(hs:Sym f)(h:Pos f n)(hr:r<n)(hn:s<n):2*f r s<=f r r+f s s/\-(2*f r s)<=f r r+f s s:=by
 rcases(aa:r<s∨r=s∨s<r) with h1 |h1 |h1
 ·have :=ze5 hs h h1 hn r (Nat.le_refl _);rwa [Nat.sub_self]at this
 ·have :=Jh hs h hr (l:=0) aa;have e:S f 0 r r=f r r:=rfl;grind
 ·have :=ze5 hs h h1 hr s (Nat.le_refl _);have e:=hs r s;have e1:S f 0 s r=f s r:=rfl;have e2:S f 0 s s=f s s:=rfl;have e3:S f 0 r r=f r r:=rfl;grind
def zf(m:Nat->Nat->Int):Mx:=fun i j=>(m i j:Rat)
def E(m:Nat->Nat->Int):Nat->Nat->Nat->Int
 |0=>m
 |k+1=>fun i j=>(E m k k k*E m k i j-E m k i k*E m k k j) / (match k with |0=>1 |l+1=>E m l l l)
def zF(m:Nat->Nat->Int)(k:Nat):Int:=match k with |0=>1 |l+1=>E m l l l
theorem zaQ(m:Nat->Nat->Int)(k i j:Nat):E m (k+1) i j=(E m k k k*E m k i j-E m k i k*E m k k j) / zF m k:=by
 cases k<;>rfl
theorem ZX(m:Nat->Nat->Int)(k:Nat):Piv (zf m) k->(∀i j,(E m k i j:Rat)=dd (zf m) k*S (zf m) k i j)/\(zF m k:Rat)=dd (zf m) k/\dd (zf m) k≠0:=by
 induction k with
 |zero=>intro _;refine⟨fun i j=>?_,?_,?_⟩<;>simp only[E,zF,dd,S,zf]<;>grind
 |succ k ih=>
  intro h;obtain⟨h1,h2,h3⟩:=ih (h.le aa);have hk:=h k aa;have hd:dd (zf m) (k+1)=dd (zf m) k*S (zf m) k k k:=rfl;refine⟨fun i j=>?_,?_,?_⟩
  ·obtain⟨z,hz⟩:=zeZ (zf m) (fun i j=>⟨m i j,rfl⟩) (k+1) h i j;have e:E m k k k*E m k i j-E m k i k*E m k k j=zF m k*z:=by
    apply Rat.intCast_inj.1;rw[Rat.intCast_sub,Rat.intCast_mul,Rat.intCast_mul,Rat.intCast_mul,h1,h1,h1,h1,h2,<-hz,hd];show _=_*(_*elim (S (zf m) k) k i j);simp only[elim];grind
   have hl:zF m k≠0:=by
    intro hh;simp_all
   rw[zaQ,e,Int.mul_ediv_cancel_left _ hl,<-hz]
  ·show (E m k k k:Rat)=_;grind
  grind
theorem zjS(m:Nat->Nat->Int)(k:Nat)(h:Piv (zf m) (k+1))(i j:Nat):E m k k k*E m k i j-E m k i k*E m k k j=zF m k*E m (k+1) i j:=by
 obtain⟨h1,h2,h3⟩:=ZX m k (h.le aa);obtain⟨g1,_,_⟩:=ZX m (k+1) h;have hk:=h k aa;apply Rat.intCast_inj.1;rw[Rat.intCast_sub,Rat.intCast_mul,Rat.intCast_mul,Rat.intCast_mul,h1,h1,h1,h1,h2,g1];show _=_*(dd (zf m) k*S (zf m) k k k*elim (S (zf m) k) k i j);simp only[elim];grind
end La
namespace La
def QA(f:Mx)(i j:Nat):Prop:=2*S f j i j<=S f j j j/\-(2*S f j i j)<=S f j j j
def qF(f:Mx)(p:Nat):Prop:=3*S f p p p<=4*S f p (p+1) (p+1)
def QB(f:Mx)(i:Nat):Prop:=∀j,j<i->QA f i j
def Mu(f:Mx)(i:Nat)(U:Rat):Prop:=∀l,l<i->S f l i l<=U*S f l l l/\-(S f l i l)<=U*S f l l l
structure Good(f:Mx)(i c:Nat):Prop where
 full:∀r,r<i->QB f r
 lov:∀p,p+1<i->qF f p
 part:∀j,i-c<=j->j<i->QA f i j
structure J(n:Nat)(A D X U:Rat)(f:Mx)(i c:Nat):Prop where
 sym:Sym f
 pos:Pos f n
 int:∀x y,IsZ (f x y)
 piv:∀l,l<n->S f l l l<=A
 min:∀l,l<=n->dd f l<=D
 hi:i<n
 hc:c<=i
 good:Good f i c
 norm:∀r,r<n->r≠i->f r r<=X
 mu:Mu f i (2^c*U)
structure Cst(n:Nat)(A D X U:Rat):Prop where
 n1:1<=n
 a1:1<=A
 d1:1<=D
 x:X=A*n
 u:U=X*D
theorem JJ{a:Nat}(h:a<=b):(a:Rat)<=(b:Rat):=by
 exact Rat.natCast_le_natCast.2 h
theorem Cst.x1(h:Cst n A D X U):1<=X:=by
 have h1:=JJ h.n1;have h2:=zL (c:=A) (by have :=h.a1;grind) h1;have :=h.a1;have :=h.x;grind
theorem Cst.u1(h:Cst n A D X U):X<=U/\1<=U:=by
 have h1:=h.x1;have h2:=zL (c:=X) ae h.d1;have :=h.u;grind
theorem zc2{f:Mx}(hs:Sym f)(hA:S f i i i<=A)
  (h:∀l,l<i->S f l i l*S f l i l / S f l l l<=V) (t:Nat):t<=i->S f (i-t) i i<=A+t*V:=by
 induction t with
 |zero=>grind
 |succ t ih=>
  intro ht;obtain⟨l,hl⟩:∃l,i-(t+1)=l:=⟨_,rfl⟩;have h2:=jZ hs l i;grind
theorem zjT{f:Mx}(hs:Sym f)(hi:i<n)(hA:S f i i i<=A)(hV:0<=V)
  (h:∀l,l<i->S f l i l*S f l i l / S f l l l<=V):f i i<=A+n*V:=by
 have h1:=zc2 hs hA h i (Nat.le_refl _);have h2:=zL hV (JJ (aa:i<=n));have e:S f 0 i i=f i i:=rfl;grind
theorem Ji{a b:Rat}(h1:a<=b)(h2:-a<=b):a*a<=b*b:=by
 have :=Rat.mul_nonneg (ae:0<=b-a) (ae:0<=b+a);grind
theorem ze7{a b:Rat}(hb:0<=b)(h:a*a<=b*b):a<=b/\-a<=b:=by
 constructor
 ·rcases(ae:a<=b∨0<a-b) with h1 |h1
  ·grind
  ·have :=Rat.mul_pos h1 (ae:0<a+b);grind
 ·rcases(ae:-a<=b∨0< -a-b) with h1 |h1
  ·grind
  ·have :=Rat.mul_pos h1 (ae:0< -a+b);grind
theorem zjU{f:Mx}(hs:Sym f)(hp:Pos f n)(hi:i<n)(hA:∀l,l<n->S f l l l<=A)(h:Mu f i U)(hU:0<=U):f i i<=A+n*(U*U*A):=by
 refine zjT hs hi (hA i hi) (Rat.mul_nonneg (Rat.mul_nonneg hU hU) (by have :=hp i hi;grind)) fun l hl=>?_
 obtain⟨h1,h2⟩:=h l hl;have h3:=Ji h1 h2;have hl0:=hp l aa;refine zc1 hl0 ?_;have h4:=zL (Rat.mul_nonneg (Rat.mul_nonneg hU hU) (Rat.le_of_lt hl0)) (hA l aa);grind
theorem zc3{f:Mx}(h:QB f i):Mu f i (1 / 2):=fun l hl=>by
 obtain⟨h1,h2⟩:=h l hl;grind
theorem zjV(hc:Cst n A D X U){f:Mx}(hs:Sym f)(hp:Pos f n)(hi:i<n)(hA:∀l,l<n->S f l l l<=A)(h:QB f i):f i i<=X:=by
 have h1:∀l,l<i->S f l i l*S f l i l / S f l l l<=A / 4:=fun l hl=>by
  obtain⟨h1,h2⟩:=zc3 h l hl;have h3:=Ji h1 h2;have hl0:=hp l aa;refine zc1 hl0 ?_;have h4:=zL (Rat.le_of_lt hl0) (hA l aa);grind
 have h2:=zc2 hs (hA i hi) h1 i (Nat.le_refl _);have e:S f 0 i i=f i i:=rfl;have h3:=zL (c:=A) (by have :=hc.a1;grind) (JJ (aa:i+1<=n));have h4:=zL (c:=A) (by have :=hc.a1;grind) (JJ (aa:0<=i));have :=hc.x;grind
theorem zc4{f:Mx}(h:Pos f k)(hf:∀x y,IsZ (f x y)):1<=dd f k:=by
 have hz:IsZ (dd f k):=by
  cases k with
  |zero=>exact IsZ.one
  |succ k=>exact zeZ f hf k (h.le aa).piv k k
 have hp:=jx k h;obtain⟨z,hz⟩:=hz;rw[hz]at hp |-
 have :=Rat.intCast_pos.1 hp;have :=(Rat.intCast_le_intCast (a:=1) (b:=z)).2 aa;grind
theorem zjW(hc:Cst n A D X U){f:Mx}(hs:Sym f)(hp:Pos f n)(hf:∀x y,IsZ (f x y))(hD:∀l,l<=n->dd f l<=D)(hi:i<n)(h:f i i<=X):Mu f i U:=fun l hl=>by
 have hl0:=hp l aa;have h1:=zjR hs hp hi hl;have h2:=zc4 (hp.le (aa:l+1<=n)) hf;have h3:dd f (l+1)=dd f l*S f l l l:=rfl;have h4:=zL (Rat.le_of_lt hl0) (hD l aa);have hD1:1<=D*S f l l l:=ae
 have hx:=hc.x1;have hu:=hc.u1;refine ze7 (Rat.mul_nonneg ae (Rat.le_of_lt hl0)) ?_;-- X <= X * (D s) <= U * U * s
 have h5:=zL (Rat.le_of_lt hl0) h;have h6:=zL (c:=X*S f l l l) (Rat.mul_nonneg ae (Rat.le_of_lt hl0)) hD1;have h7:=zL (c:=U*S f l l l*S f l l l) (Rat.mul_nonneg (Rat.mul_nonneg ae (Rat.le_of_lt hl0)) (Rat.le_of_lt hl0)) hu.2;have hu2:=hc.u;have e:X*S f l l l*(D*S f l l l)=U*S f l l l*S f l l l:=ae
 grind
theorem zc5(q:Rat){f:Mx}{l:Nat}(hl:l<i)(x:Nat):S (z7 i j q f) l x l=S f l x l-(if x=i then q*S f l j l else 0):=by
 rw[zbH q f l aa];simp only[z7,Qz,Qy];grind
def zaa(f:Mx)(i j:Nat)(q:Rat):Prop:=2*(S f j i j-q*S f j j j)<=S f j j j/\-(2*(S f j i j-q*S f j j j))<=S f j j j
theorem zjX{f:Mx}(hj:0<S f j j j)(hq:zaa f i j q)(h:S f j i j<=U*S f j j j/\-(S f j i j)<=U*S f j j j):q<=U+1 / 2/\-q<=U+1 / 2:=by
 obtain⟨h1,h2⟩:=hq;constructor
 ·refine JI hj ?_;grind
 ·refine JI hj ?_;grind
theorem zjY{f:Mx}(hp:Pos f n)(hi:i<n)(hj:j<i)(hq:zaa f i j q)(hF:QB f j)(hU:1<=U)(h:Mu f i U):Mu (z7 i j q f) i (2*U):=fun l hl=>by
 have hl0:=hp l aa;rw[JH q hj l (hp.le aa).piv,zc5 q hl,if_pos rfl];obtain⟨a1,a2⟩:=h l hl;have hU0:=zL (Rat.le_of_lt hl0) hU;rcases(aa:l<j∨l=j∨j<l) with hlj |hlj |hlj
 ·obtain⟨q1,q2⟩:=zjX (hp j aa) hq (h j hj);obtain⟨b1,b2⟩:=zc3 hF l hlj;have b3:=Ji q1 q2;have b4:=Ji b1 b2;-- |q * S l j l| <= (U + 1/2) * (s / 2)
  have c:q*S f l j l<=(U+1 / 2)*(1 / 2*S f l l l)/\-(q*S f l j l)<=(U+1 / 2)*(1 / 2*S f l l l):=by
   refine ze7 (Rat.mul_nonneg ae ae) ?_;have d1:=zL (jY q) b4;have d2:=zL (jY (1 / 2*S f l l l)) b3;grind
  grind
 ·obtain⟨h1,h2⟩:=hq;grind
 ·rw[zbG l (hp.le aa).piv j hlj];grind
theorem Good.red{f:Mx}{n i j:Nat}(q:Rat)(hp:Pos f n)(hi:i<n)(hj:j<i)(hq:zaa f i j q)(h:∀r,r<i->QB f r)(hl:∀p,p+1<i->qF f p)(hb:∀k,j<k->k<i->QA f i k):Good (z7 i j q f) i (i-j):=by
 refine⟨fun r hr k hk=>?_,fun p hp'=>?_,fun k h1 h2=>?_⟩
 ·have :=h r hr k hk;unfold QA at this |-
  rw[JH q hj k (hp.le aa).piv,zc5 q (aa:k<i),if_neg (aa:¬r=i)];grind
 ·have :=hl p hp';unfold qF at this |-
  rw[JH q hj p (hp.le aa).piv,zbH q f p aa];simp only[z7,Qz,Qy];grind
 ·unfold QA;rw[JH q hj k (hp.le aa).piv,zc5 q h2,if_pos rfl];by_cases e:k=j
  ·subst e;exact hq
  ·rw[zbG k (hp.le aa).piv j aa];have :=hb k aa h2;unfold QA at this;grind
structure AtRed(f:Mx)(n i j:Nat):Prop where
 hi:i<n
 hj:j<i
 full:∀r,r<i->QB f r
 lov:∀p,p+1<i->qF f p
 part:∀k,j<k->k<i->QA f i k
 bad:¬QA f i j
structure AtSwap(f:Mx)(n p:Nat):Prop where
 hp:p+1<n
 full:∀r,r<p+2->QB f r
 lov:∀t,t<p->qF f t
 bad:¬qF f p
theorem zjZ{f:Mx}(q:Rat)(h:r≠i):z7 i j q f r r=f r r:=by
 simp only[z7,Qz,Qy];grind
theorem zj0{f:Mx}(hf:∀x y,IsZ (f x y))(hq:IsZ q)(x y:Nat):IsZ (z7 i j q f x y):=by
 refine IsZ.sub (IsZ.sub (hf _ _) ?_) ?_
 ·split
  ·exact hq.mul (hf _ _)
  ·exact IsZ.zero
 ·split
  ·refine hq.mul (IsZ.sub (hf _ _) ?_);split
   ·exact hq.mul (hf _ _)
   ·exact IsZ.zero
  ·exact IsZ.zero
theorem zab(c:Nat):(1:Rat)<=2^c:=by
 induction c with
 |zero=>grind
 |succ c ih=>rw[Rat.pow_succ];grind
theorem ze8(h:c<=d):(2:Rat)^c<=2^d:=by
 obtain⟨k,rfl⟩:∃k,d=c+k:=⟨d-c,aa⟩;induction k with
 |zero=>grind
 |succ k ih=>rw[(aa:c+(k+1)=(c+k)+1),Rat.pow_succ];have :=zab (c+k);grind
theorem Mu.mono{f:Mx}(h:Mu f i U)(hp:Pos f n)(hi:i<n)(hUV:U<=V):Mu f i V:=fun l hl=>by
 obtain⟨h1,h2⟩:=h l hl;have :=zL (Rat.le_of_lt (hp l aa)) hUV;grind
theorem J.all(hc:Cst n A D X U){f:Mx}(h:J n A D X U f i c)(hF:QB f i)(r:Nat)(hr:r<n):f r r<=X:=by
 by_cases e:r=i
 ·subst e;exact zjV hc h.sym h.pos hr h.piv hF
 ·exact h.norm r hr e
theorem J.red{n:Nat}{A D X U:Rat}(hc:Cst n A D X U){f:Mx}{i c:Nat}(h:J n A D X U f i c){i' j:Nat}(ha:AtRed f n i' j){q:Rat}(hz:IsZ q)(hq:zaa f i' j q):
  J n A D X U (z7 i' j q f) i' (i'-j)/\i*(n+1)+c<i'*(n+1)+(i'-j):=by
 have hu:=hc.u1;have key:Mu f i' (2^(i'-j-1)*U)/\(∀r,r<n->r≠i'->f r r<=X)/\i*(n+1)+c<i'*(n+1)+(i'-j):=by
  rcases(aa:i'<i∨i'=i∨i<i') with h1 |h1 |h1
  ·exact absurd (h.good.full i' h1 j ha.hj) ha.bad
  ·subst h1;have hj:j<i'-c:=by
    rcases(aa:j<i'-c∨i'-c<=j) with h2 |h2
    ·exact h2
    ·exact absurd (h.good.part j h2 ha.hj) ha.bad
   refine⟨h.mu.mono h.pos ha.hi ?_,h.norm,aa⟩;have :=zL (c:=U) ae (ze8 (aa:c<=i'-j-1));grind
  ·have zsy:=h.all hc (ha.full i h1);refine⟨(zjW hc h.sym h.pos h.int h.min ha.hi (zsy i' ha.hi)).mono h.pos ha.hi ?_,fun r hr _=>zsy r hr,?_⟩
   ·have :=zL (c:=U) ae (zab (i'-j-1));grind
   ·have g1:(i+1)*(n+1)<=i'*(n+1):=Nat.mul_le_mul_right (n+1) h1;have g2:=h.hi;have g3:=h.hc;rw[Nat.add_mul]at g1;have g4:=ha.hj;omega
 obtain⟨k1,k2,k3⟩:=key;refine⟨⟨h.sym.red _ _ _,h.pos.red q ha.hj,zj0 h.int hz,fun l hl=>?_,fun l hl=>?_,ha.hi,aa,Good.red q h.pos ha.hi ha.hj hq ha.full ha.lov ha.part,fun r hr hne=>?_,?_⟩,k3⟩
 ·rw[JH q ha.hj l (h.pos.le aa).piv];exact h.piv l hl
 ·rw[zbI q ha.hj l (h.pos.le hl).piv];exact h.min l hl
 ·rw[zjZ q hne];exact k2 r hr hne
 ·have h2:=zab (i'-j-1);have h3:=zL (c:=U) ae h2;have :=zjY h.pos ha.hi ha.hj hq (ha.full j ha.hj) (U:=2^(i'-j-1)*U) ae k1;have hj:=ha.hj;rw[(aa:i'-j=(i'-j-1)+1),Rat.pow_succ];grind
theorem J.swap(hc:Cst n A D X U){f:Mx}(h:J n A D X U f i c)(ha:AtSwap f n p):
  J n A D X U (swf p f) 0 0/\4*dd (swf p f) (p+1)<3*dd f (p+1):=by
 have hi:i<p+2:=by
  rcases(aa:i<p+2∨p+1<i) with h1 |h1
  ·exact h1
  ·exact absurd (h.good.lov p h1) ha.bad
 have zsy:=h.all hc (ha.full i hi);have hq:=Jh h.sym h.pos (i:=p+1) (l:=p) ha.hp aa;have hP:Piv f (p+2):=(h.pos.le (by have :=ha.hp;omega)).piv;have ztA:4*S f p (p+1) (p+1)<3*S f p p p:=by
  have :=ha.bad;unfold qF at this;grind
 have hpp:=h.pos p (by have :=ha.hp;omega);have hA:=h.piv p (by have :=ha.hp;omega);have hdd:4*dd (swf p f) (p+1)<3*dd f (p+1):=by
  rw[ze2];have h1:=jx p (h.pos.le (by have :=ha.hp;omega));have h2:=Rat.mul_pos h1 (show 0<3*S f p p p-4*S f p (p+1) (p+1) by grind);have e:dd f (p+1)=dd f p*S f p p p:=rfl;grind
 refine⟨⟨h.sym.swf p,h.pos.swf h.sym ha.hp,fun x y=>h.int _ _,fun l hl=>?_,fun l hl=>?_,by have :=ha.hp;omega,aa,⟨fun r hr=>absurd hr aa,fun p' hp'=>absurd hp' aa,fun k _ hk=>absurd hk aa⟩,fun r hr _=>?_,fun l hl=>absurd hl aa⟩,hdd⟩
 ·rcases(aa:l<p∨l=p∨l=p+1∨p+2<=l) with h1 |h1 |h1 |h1
  ·rw[Jg f l aa];simp only[La.swf,je (aa:l≠p) (aa:l≠p+1)];exact h.piv l hl
  ·subst h1;rw[Jg f l (Nat.le_refl _)];simp only[La.swf,J9];grind
  ·subst h1;rw[zc0];have h5:=J8 h.sym p p (p+1);rw[h5];have :=zaP (jY (S f p (p+1) p)) hq;grind
  ·obtain⟨t,rfl⟩:∃t,l=p+2+t:=⟨l-(p+2),aa⟩;rw[zcY hP ae t];simp only[La.swf,je (aa:p+2+t≠p) (aa:p+2+t≠p+1)];exact h.piv _ hl
 ·rcases(aa:l<=p∨l=p+1∨p+2<=l) with h1 |h1 |h1
  ·rw[zcZ f l h1];exact h.min l hl
  ·subst h1;have :=h.min (p+1) hl;have :=jx (p+1) ((h.pos.le hl));grind
  ·obtain⟨t,rfl⟩:∃t,l=p+2+t:=⟨l-(p+2),aa⟩;rw[zbJ hP ae t];exact h.min _ hl
 ·show f (sg p r) (sg p r)<=X;refine zsy _ ?_;have :=ha.hp;unfold sg;split
  ·omega
  ·split<;>omega
theorem J.za(hc:Cst n A D X U){f:Mx}(h:J n A D X U f i c)(r:Nat)(hr:r<n):f r r<=A+n*(2^n*U*(2^n*U)*A):=by
 have hu:=hc.u1;have ha:=hc.a1;have hn:=hc.n1;have p1:=zab n;have p2:U<=2^n*U:=by have :=zL (c:=U) ae p1;grind
 have p3:U*U<=2^n*U*(2^n*U):=Ji p2 ae;have hn1:=JJ hn;have e1:((1:Nat):Rat)=1:=rfl;by_cases e:r=i
 ·subst e;have h1:=zjU h.sym h.pos hr h.piv h.mu (by have :=zab c;have :=zL (c:=U) ae this;grind);have h2:=zL (c:=U) ae (ze8 (by have :=h.hc;omega:c<=n));have h3:2^c*U*(2^c*U)<=2^n*U*(2^n*U):=Ji ae (by have :=zab c;have :=zL (c:=U) ae this;grind);have h4:=zL (c:=(n:Rat)*A) (Rat.mul_nonneg ae ae) h3;grind
 ·have h1:=h.norm r hr e;have h2:=hc.x;-- X = A n <= A + n (U U) A
  have h3:=zL (c:=(n:Rat)*A) (Rat.mul_nonneg ae ae) p3;have h4:=Ji (a:=1) (b:=U) hu.2 ae;have h5:=zL (c:=(n:Rat)*A) (Rat.mul_nonneg ae ae) h4;grind
end La
namespace La
def pot(f:Mx):Nat->Rat
 |0=>1
 |k+1=>pot f k*dd f (k+1)
theorem zc6{f:Mx}(hf:∀x y,IsZ (f x y))(k:Nat):Pos f k->1<=pot f k:=by
 induction k with
 |zero=>intro _;rfl
 |succ k ih=>
  intro h;have h1:=ih (h.le aa);have h2:=zc4 h hf;have h3:=zL (c:=pot f k) ae h2;show 1<=pot f k*dd f (k+1);grind
theorem zj1(q:Rat){f:Mx}(hj:j<i)(k:Nat):Piv f k->pot (z7 i j q f) k=pot f k:=by
 induction k with
 |zero=>intro _;rfl
 |succ k ih=>
  intro h;show pot (z7 i j q f) k*dd (z7 i j q f) (k+1)=pot f k*dd f (k+1);rw[ih (h.le aa),zbI q hj (k+1) h]
theorem zj2(f:Mx)(k:Nat):k<=p->pot (swf p f) k=pot f k:=by
 induction k with
 |zero=>intro _;rfl
 |succ k ih=>
  intro h;show pot (swf p f) k*dd (swf p f) (k+1)=pot f k*dd f (k+1);rw[ih aa,zcZ f (k+1) h]
theorem zj3{f:Mx}(hf:∀x y,IsZ (f x y))(t:Nat):Pos f (p+2+t)->S f p (p+1) (p+1)≠0->4*dd (swf p f) (p+1)<3*dd f (p+1)->4*pot (swf p f) (p+1+t)<=3*pot f (p+1+t):=by
 induction t with
 |zero=>
  intro hp hq h;show 4*(pot (swf p f) p*dd (swf p f) (p+1))<=3*(pot f p*dd f (p+1));rw[zj2 f p (Nat.le_refl _)];have h1:=zc6 hf p (hp.le aa);have h2:=zL (c:=pot f p) ae (Rat.le_of_lt h);grind
 |succ t ih=>
  intro hp hq h;have h1:=ih (hp.le aa) hq h;have h2:=zbJ (hp.le aa).piv hq t;show 4*(pot (swf p f) (p+1+t)*dd (swf p f) (p+1+t+1))<=3*(pot f (p+1+t)*dd f (p+1+t+1));have h3:=jx (p+2+t) (hp.le aa);have h4:=zL (Rat.le_of_lt h3) h1;grind
structure LL(n:Nat)(A D X U P0:Rat)(N:Nat)(f:Mx)(s i c:Nat):Prop where
 j:J n A D X U f i c
 cst:Cst n A D X U
 pot:4^s*pot f (n-1)<=3^s*P0
 p0:0<=P0
 big:3^N*P0<4^N
theorem zaR(b:Rat)(k t:Nat):b^(k+t)=b^k*b^t:=ae
theorem QR(b:Rat)(hb:1<=b)(k:Nat):1<=b^k:=by
 induction k with
 |zero=>grind
 |succ k ih=>rw[Rat.pow_succ];have :=zL (c:=b^k) ae hb;grind
theorem zj4(k:Nat):(3:Rat)^k<=4^k:=by
 induction k with
 |zero=>grind
 |succ k ih=>rw[Rat.pow_succ,Rat.pow_succ];have :=QR 4 ae k;grind
theorem LL.lt{f:Mx}(h:LL n A D X U P0 N f s i c):s<N:=by
 rcases Nat.lt_or_ge s N with h1 |h1
 ·grind
 ·obtain⟨t,rfl⟩:∃t,s=N+t:=⟨s-N,aa⟩;have hp:=zc6 h.j.int (n-1) (h.j.pos.le aa);have h2:=h.pot;have h3:=zL (c:=4^(N+t)) (by have :=QR 4 ae (N+t);grind) hp;rw[zaR,zaR]at h2;rw[zaR]at h3;have h4:=h.big;have a1:=QR 3 ae t;have a2:=zj4 t;have a3:=QR 4 ae N;-- 4^N 4^t <= 3^N 3^t P0 < 4^N 3^t <= 4^N 4^t
  have b1:=Rat.mul_pos (show 0<(3:Rat)^t by grind) (show 0<4^N-3^N*P0 by grind);have b2:=zL (c:=(4:Rat)^N) ae a2;grind
theorem LL.bnd{f:Mx}(h:LL n A D X U P0 N f s i c):i*(n+1)+c<n*(n+1):=by
 have h1:=h.j.hi;have h2:=h.j.hc;have h3:=Nat.mul_le_mul_right (n+1) h1;grind
def q9(n N s i c:Nat):Nat:=(N-s)*(n*(n+1))+(n*(n+1)-(i*(n+1)+c))
theorem LL.red{n:Nat}{A D X U P0:Rat}{N:Nat}{f:Mx}{s i c:Nat}(h:LL n A D X U P0 N f s i c){i' j:Nat}(ha:AtRed f n i' j){q:Rat}(hz:IsZ q)(hq:zaa f i' j q):
  LL n A D X U P0 N (z7 i' j q f) s i' (i'-j)/\q9 n N s i' (i'-j)<q9 n N s i c:=by
 obtain⟨h1,h2⟩:=h.j.red h.cst ha hz hq;have hl:LL n A D X U P0 N (z7 i' j q f) s i' (i'-j):=⟨h1,h.cst,by rw[zj1 q ha.hj (n-1) (h.j.pos.le aa).piv];exact h.pot,h.p0,h.big⟩;have :=h.bnd;exact⟨hl,by unfold q9;omega⟩
theorem LL.swap{f:Mx}(h:LL n A D X U P0 N f s i c)(ha:AtSwap f n p):
  LL n A D X U P0 N (swf p f) (s+1) 0 0/\q9 n N (s+1) 0 0<q9 n N s i c:=by
 obtain⟨h1,h2⟩:=h.j.swap h.cst ha;have hn:=ha.hp;have hq:=Jh h.j.sym h.j.pos (i:=p+1) (l:=p) ha.hp aa;obtain⟨t,ht⟩:∃t,n-1=p+1+t:=⟨n-1-(p+1),aa⟩;have h3:=zj3 h.j.int t (h.j.pos.le aa) ae h2;rw[<-ht]at h3;have hl:LL n A D X U P0 N (swf p f) (s+1) 0 0:=by
  refine⟨h1,h.cst,?_,h.p0,h.big⟩;have h4:=h.pot;rw[Rat.pow_succ,Rat.pow_succ];have h5:=QR 4 ae s;have h6:=zL (c:=(4:Rat)^s) ae h3;grind
 have hlt:=h.lt;have hb:=h.bnd;refine⟨hl,?_⟩;unfold q9;obtain⟨r,hr⟩:∃r,N-s=r+1:=⟨N-s-1,aa⟩;rw[hr,(aa:N-(s+1)=r),Nat.add_mul];omega
theorem zc7{b:Rat}(hb:1<=b){l:Nat}(h:k<=l):b^k<=b^l:=by
 obtain⟨t,rfl⟩:∃t,l=k+t:=⟨l-k,aa⟩;have :=zL (c:=b^k) (by have :=QR b hb k;grind) (QR b hb t);grind
theorem zj5{f:Mx}(hA:1<=A)(hp:Pos f n)(h:∀l,l<n->S f l l l<=A)(k:Nat):k<=n->dd f k<=A^k:=by
 induction k with
 |zero=>intro _;rw[Rat.pow_zero];rfl
 |succ k ih=>
  intro hk;have h1:=ih aa;have h2:=h k aa;have h3:=jx k (hp.le aa);have h4:=zL (Rat.le_of_lt h3) h2;have h5:=zL (c:=A) ae h1;show dd f k*S f k k k<=_;rw[Rat.pow_succ];grind
theorem zj6{f:Mx}(hD:1<=D)(hf:∀x y,IsZ (f x y))(hp:Pos f n)(h:∀l,l<=n->dd f l<=D)(k:Nat):k<=n->pot f k<=D^k:=by
 induction k with
 |zero=>intro _;rw[Rat.pow_zero];rfl
 |succ k ih=>
  intro hk;have h1:=ih aa;have h2:=h (k+1) hk;have h3:=zc6 hf k (hp.le aa);have h4:=zL (c:=pot f k) ae h2;have h5:=zL (c:=D) ae h1;show pot f k*dd f (k+1)<=_;rw[Rat.pow_succ];grind
theorem LL.start{f:Mx}(hn:1<=n)(hA:1<=A)(hs:Sym f)(hp:Pos f n)(hf:∀x y,IsZ (f x y))(hd:∀r,r<n->f r r<=A)(hN:3^N*(A^n)^n<4^N):
  LL n A (A^n) (A*n) (A*n*A^n) ((A^n)^n) N f 0 0 0:=by
 have hD:=QR A hA n;have zuz:∀l,l<n->S f l l l<=A:=fun l hl=>by
  have h1:=ze4 hs hp l l aa;grind
 have zvg:∀l,l<=n->dd f l<=A^n:=fun l hl=>by
  have h1:=zj5 hA hp zuz l hl;have h2:=zc7 hA hl;grind
 refine⟨⟨hs,hp,hf,zuz,zvg,aa,aa,⟨fun r hr=>absurd hr aa,fun p hp'=>absurd hp' aa,fun k _ hk=>absurd hk aa⟩,fun r hr _=>?_,fun l hl=>absurd hl aa⟩,⟨hn,hA,hD,rfl,rfl⟩,?_,?_,hN⟩
 ·have h1:=hd r hr;have h2:=zL (c:=A) ae (JJ hn);grind
 ·have h1:=zj6 hD hf hp zvg (n-1) aa;have h2:=zc7 hD (aa:n-1<=n);grind
 ·have :=QR (A^n) hD n;grind
theorem zj7{f:Mx}(hp:Pos f n)(hj:j<n){lam d:Int}(hd:0<d)(h1:(lam:Rat)=dd f j*S f j i j)(h2:(d:Rat)=dd f j*S f j j j):zaa f i j (((2*lam+d) / (2*d):Int):Rat):=by
 have hdd:=jx j (hp.le aa);obtain⟨q,hq⟩:∃q,(2*lam+d) / (2*d)=q:=⟨_,rfl⟩;have a1:=Int.mul_ediv_add_emod (2*lam+d) (2*d);have a2:=Int.emod_nonneg (2*lam+d) ((aa:2*d≠0));have a3:=Int.emod_lt_of_pos (2*lam+d) ((aa:0<2*d));rw[hq]at a1 |-
 -- 2 d q <= 2 lam + d < 2 d q + 2 d
 have b1:2*d*q<=2*lam+d:=aa
 have b2:2*lam+d<=2*d*q+2*d:=aa
 have c1:=Rat.intCast_le_intCast.2 b1;have c2:=Rat.intCast_le_intCast.2 b2;constructor
 ·refine JI hdd ?_;grind
 ·refine JI hdd ?_;grind
end La
end
section
open Go.RowKit
class Ext(w w':World):Prop where
 below:Below w.heap.size w w'
class Step(w:outParam World)(w':World):Prop where
 below:Below w.heap.size w w'
theorem Ext.trans{a b c:World}(h:Ext a b)(k:Ext b c):Ext a c:=⟨h.below.trans (k.below.mono h.below.size)⟩
instance Ext.refl (w:World):Ext w w:=⟨Below.refl _ _⟩
instance Ext.alloc (w w':World) (o:Obj) [h:Ext w w']:Ext w (w'.alloc o):=⟨h.below.alloc h.below.size o⟩
instance Ext.drew (w w':World) [h:Ext w w']:Ext w w'.drew:=⟨h.below.drew⟩
instance Ext.drewN (w w':World) (n:Nat) [h:Ext w w']:Ext w (w'.drewN n):=⟨⟨h.below.os,h.below.tape,h.below.output,h.below.size,h.below.block⟩⟩
instance (priority:=50) Ext.step (w W w':World) [s:Step W w'] [h:Ext w W]:Ext w w':=h.trans ⟨s.below⟩
theorem Ext.setCell(h:Ext w w'){p:Addr}(hp:w.heap.size<=p.block)(u:Value):Ext w (w'.setCell p u):=⟨h.below.setCell hp u⟩
instance Ext.setCell0 (w w':World) (i:Nat) (s:Option Nat) (u:Value) [h:Ext w w']:Ext w (w'.setCell ⟨w.heap.size,i,s⟩ u):=h.setCell (Nat.le_refl _) u
instance Ext.setCellN (w w':World) (k i:Nat) (s:Option Nat) (u:Value) [h:Ext w w']:Ext w (w'.setCell ⟨w.heap.size+k,i,s⟩ u):=h.setCell (Nat.le_add_right _ _) u
instance Ext.setCellN2 (w w':World) (i:Nat) (s:Option Nat) (u:Value) [h:Ext w w']:Ext w (w'.setCell ⟨w.heap.size+1+1,i,s⟩ u):=h.setCell ((aa:w.heap.size<=w.heap.size+1+1)) u
instance Ext.setCellN3 (w w':World) (i:Nat) (s:Option Nat) (u:Value) [h:Ext w w']:Ext w (w'.setCell ⟨w.heap.size+1+1+1,i,s⟩ u):=h.setCell ((aa:w.heap.size<=w.heap.size+1+1+1)) u
instance Ext.setCellA1 (w w':World) (b0:Obj) (i:Nat) (s:Option Nat) (u:Value) [h:Ext (w.alloc b0) w']:Ext (w.alloc b0) (w'.setCell ⟨w.heap.size+1,i,s⟩ u):=h.setCell af u
instance Ext.setCellA2 (w w':World) (b0 b1:Obj) (i:Nat) (s:Option Nat) (u:Value) [h:Ext ((w.alloc b0).alloc b1) w']:Ext ((w.alloc b0).alloc b1) (w'.setCell ⟨w.heap.size+1+1,i,s⟩ u):=h.setCell af u
instance Ext.setCellA3 (w w':World) (b0 b1 b2:Obj) (i:Nat) (s:Option Nat) (u:Value) [h:Ext (((w.alloc b0).alloc b1).alloc b2) w']:Ext (((w.alloc b0).alloc b1).alloc b2) (w'.setCell ⟨w.heap.size+1+1+1,i,s⟩ u):=h.setCell af u
theorem Ext.toStep(h:Ext w w'):Step w w':=⟨h.below⟩
theorem Step.of(w w':World)[h:Ext w w']:Step w w':=⟨h.below⟩
theorem Step.ext(h:Step w w'):Ext w w':=⟨h.below⟩
theorem Ext.size(h:Ext w w'):w.heap.size<=w'.heap.size:=h.below.size
theorem Step.size(h:Step w w'):w.heap.size<=w'.heap.size:=h.below.size
theorem zg(h:Ext w w'){o:Obj}(hb:w.heap[b]? =some o):w'.heap[b]? =some o:=(h.below.block _ (Array.getElem?_eq_some_iff.1 hb).1).trans hb
class Sz(w:World)(n:outParam Nat):Prop where
 eq:w.heap.size=n
instance (priority:=10) Sz.ze (w:World):Sz w w.heap.size:=⟨rfl⟩
instance Sz.alloc (w:World) (n:Nat) (o:Obj) [h:Sz w n]:Sz (w.alloc o) (n+1):=⟨by simp[h.eq]⟩
instance Sz.setCell (w:World) (n:Nat) (p:Addr) (u:Value) [h:Sz w n]:Sz (w.setCell p u) n:=⟨by simp[World.setCell,h.eq]⟩
instance Sz.drew (w:World) (n:Nat) [h:Sz w n]:Sz w.drew n:=⟨h.eq⟩
instance Sz.drewN (w:World) (n k:Nat) [h:Sz w n]:Sz (w.drewN k) n:=⟨h.eq⟩
class Old(b:Nat)(w:World):Prop where
 lt:b<w.heap.size
instance Old.new (w:World) (n:Nat) (o:Obj) [h:Sz w n]:Old n (w.alloc o):=⟨by simp[h.eq]⟩
instance Old.alloc (w:World) (b:Nat) (o:Obj) [h:Old b w]:Old b (w.alloc o):=⟨by have :=h.lt;simp;omega⟩
instance Old.setCell (w:World) (b:Nat) (p:Addr) (u:Value) [h:Old b w]:Old b (w.setCell p u):=⟨by simpa[World.setCell] using h.lt⟩
instance Old.drew (w:World) (b:Nat) [h:Old b w]:Old b w.drew:=⟨h.lt⟩
instance Old.drewN (w:World) (b k:Nat) [h:Old b w]:Old b (w.drewN k):=⟨h.lt⟩
instance (priority:=50) Old.step (W w':World) (b:Nat) [s:Step W w'] [h:Old b W]:Old b w':=⟨Nat.lt_of_lt_of_le h.lt s.size⟩
def zaS(w:World)(b o:Nat):Option Value:=w.cell? ⟨b,o,none⟩
def zbL(w:World)(b o:Nat):Bool:=w.frozen? ⟨b,o,none⟩
theorem zj8(w:World)(b o:Nat):zaS w b o=w.cell? ⟨b,o,none⟩:=rfl
theorem zj9(w:World)(b o:Nat):zbL w b o=w.frozen? ⟨b,o,none⟩:=rfl
theorem zka[s:Step W w'][h:Old b W]:w'.cell? ⟨b,o,none⟩=zaS W b o:=s.below.cell (p:=⟨b,o,none⟩) h.lt
theorem zkb[s:Step W w'][h:Old b W]:w'.frozen? ⟨b,o,none⟩=zbL W b o:=s.below.frozen (p:=⟨b,o,none⟩) h.lt
theorem zkc{o:Obj}[h:Old b w]:(w.alloc o).cell? ⟨b,i,none⟩=zaS w b i:=World.cell?_alloc_lt w o ⟨b,i,none⟩ h.lt
theorem zkd{o:Obj}[h:Old b w]:(w.alloc o).frozen? ⟨b,i,none⟩=zbL w b i:=by
 show (w.alloc o).frozen? ⟨b,i,none⟩=w.frozen? ⟨b,i,none⟩;unfold World.frozen?;rw[Below.heap_alloc w o b h.lt]
theorem zk(W:World)[hx:Ext W w'][h:Old b W]:w'.cell? ⟨b,o,none⟩=zaS W b o:=hx.below.cell (p:=⟨b,o,none⟩) h.lt
theorem ZY(W:World)[hx:Ext W w'][h:Old b W]:w'.frozen? ⟨b,o,none⟩=zbL W b o:=hx.below.frozen (p:=⟨b,o,none⟩) h.lt
class Apart(a b:Nat):Prop where
 ne:a≠b
instance Apart.old (W:World) (b:Nat) [h:Old b W]:Apart b W.heap.size:=⟨Nat.ne_of_lt h.lt⟩
instance Apart.old' (W:World) (b:Nat) [h:Old b W]:Apart W.heap.size b:=⟨fun e=>Nat.ne_of_lt h.lt e.symm⟩
instance Apart.old1 (W:World) (b:Nat) [h:Old b W]:Apart b (W.heap.size+1):=⟨fun e=>by have :=h.lt;omega⟩
instance Apart.old1' (W:World) (b:Nat) [h:Old b W]:Apart (W.heap.size+1) b:=⟨fun e=>by have :=h.lt;omega⟩
theorem zke{q:Nat}[h:Apart q p]:(w.setCell ⟨p,i,none⟩ u).cell? ⟨q,j,none⟩=zaS w q j:=
 World.cell?_of_block (w:=w) (Below.heap_setCell w ⟨p,i,none⟩ u q h.ne)
attribute [go_sem] zka zkb zj8 zj9 zkc zkd zke
class New(b:Nat)(w:World):Prop where
 le:w.heap.size<=b
instance New.at_ (w w':World) [h:Ext w w']:New w'.heap.size w:=⟨h.below.size⟩
instance New.sz (w:World) (n:Nat) [h:Sz w n]:New n w:=⟨by rw[h.eq];exact Nat.le_refl _⟩
instance New.succ (w:World) (b:Nat) [h:New b w]:New (b+1) w:=⟨Nat.le_succ_of_le h.le⟩
instance (priority:=60) Ext.setCellNew (w w':World) (b i:Nat) (s:Option Nat) (u:Value) [h:Ext w w'] [hn:New b w]:Ext w (w'.setCell ⟨b,i,s⟩ u):=h.setCell hn.le u
theorem qG(w w':World)(x y:Value)(T:TypeId)[h:Ext (w.alloc (.cells #[x,y] T)) w']:
  w'.heap[w.heap.size]? =some (.cells #[x,y] T (0,0))/\w'.cell? ⟨w.heap.size,0,none⟩=some x/\w'.cell? ⟨w.heap.size,1,none⟩=some y/\w'.frozen? ⟨w.heap.size,0,none⟩=false/\w'.frozen? ⟨w.heap.size,1,none⟩=false/\w.heap.size<w'.heap.size:=by
 have h0:w'.heap[w.heap.size]? =some (.cells #[x,y] T (0,0)):=zg h (heap_alloc_new w _);exact⟨h0,by simp[World.cell?,h0],by simp[World.cell?,h0],by simp[World.frozen?,h0],by simp[World.frozen?,h0],(Array.getElem?_eq_some_iff.1 h0).1⟩
theorem Jj(W w':World)(s:Nat)(x y:Value)(T:TypeId)(hs:W.heap.size=s)[h:Ext (W.alloc (.cells #[x,y] T)) w']:
  w'.heap[s]? =some (.cells #[x,y] T (0,0))/\w'.cell? ⟨s,0,none⟩=some x/\w'.cell? ⟨s,1,none⟩=some y/\w'.frozen? ⟨s,0,none⟩=false/\w'.frozen? ⟨s,1,none⟩=false/\s<w'.heap.size:=by
 subst hs;exact qG W w' x y T
theorem zaT(w w':World)(b0:Obj)(x y:Value)(T:TypeId)[h:Ext ((w.alloc b0).alloc (.cells #[x,y] T)) w']:
  w'.heap[w.heap.size+1]? =some (.cells #[x,y] T (0,0))/\w'.cell? ⟨w.heap.size+1,0,none⟩=some x/\w'.cell? ⟨w.heap.size+1,1,none⟩=some y/\w'.frozen? ⟨w.heap.size+1,0,none⟩=false/\w'.frozen? ⟨w.heap.size+1,1,none⟩=false/\w.heap.size+1<w'.heap.size:=
 Jj (w.alloc b0) w' _ x y T af
theorem jy(w w':World)(b0 b1:Obj)(x y:Value)(T:TypeId)[h:Ext (((w.alloc b0).alloc b1).alloc (.cells #[x,y] T)) w']:
  w'.heap[w.heap.size+1+1]? =some (.cells #[x,y] T (0,0))/\w'.cell? ⟨w.heap.size+1+1,0,none⟩=some x/\w'.cell? ⟨w.heap.size+1+1,1,none⟩=some y/\w'.frozen? ⟨w.heap.size+1+1,0,none⟩=false/\w'.frozen? ⟨w.heap.size+1+1,1,none⟩=false/\w.heap.size+1+1<w'.heap.size:=
 Jj ((w.alloc b0).alloc b1) w' _ x y T af
theorem qp(w w':World)(x y x' y':Value)(T T':TypeId)[h:Ext ((w.alloc (.cells #[x,y] T)).alloc (.cells #[x',y'] T')) w']:
  w'.cell? ⟨w.heap.size,0,none⟩=some x/\w'.cell? ⟨w.heap.size,1,none⟩=some y/\w'.cell? ⟨w.heap.size+1,0,none⟩=some x'/\w'.cell? ⟨w.heap.size+1,1,none⟩=some y':=by
 have h1:Ext (w.alloc (.cells #[x,y] T)) w':=Ext.trans inferInstance h;obtain⟨_,a1,a2,_⟩:=qG w w' x y T;obtain⟨_,b1,b2,_⟩:=zaT w w' (.cells #[x,y] T) x' y' T';exact⟨a1,a2,b1,b2⟩
theorem zaU(w w':World)(x y:Value)(T:TypeId)[h:Ext (w.alloc (.cells #[x,y] T)) w']:
  w'.cell? ⟨w.heap.size,0,none⟩=some x/\w'.cell? ⟨w.heap.size,1,none⟩=some y:=by
 obtain⟨_,a1,a2,_⟩:=qG w w' x y T;exact⟨a1,a2⟩
def Arr(w:World)(A:Option Addr)(e:TypeId)(vs:List Value):Prop:=
 0<vs.length->∃(b o:Nat) (cs:Array Value) (fr:Nat×Nat),A=some ⟨b,o,none⟩/\w.heap[b]? =some (.cells cs e fr)/\∀(j:Nat)(u:Value),vs[j]? =some u->cs[o+j]? =some u
theorem zi{o:Obj}(h:w.heap[b]? =some o):b<w.heap.size:=(Array.getElem?_eq_some_iff.1 h).1
section
variable {w w':World} {A:Option Addr} {e:TypeId} {vs:List Value}
theorem Arr.nil:Arr w A e []:=fun h=>absurd h af
theorem Arr.keep(h:Arr w A e vs)(hk:∀(b:Nat)(cs:Array Value)(fr:Nat×Nat),w.heap[b]? =some (Obj.cells cs e fr)->w'.heap[b]? =w.heap[b]?):Arr w' A e vs:=fun h0=>by
 obtain⟨b,o,cs,fr,rfl,hb,hc⟩:=h h0;exact⟨b,o,cs,fr,rfl,(hk _ _ _ hb).trans hb,hc⟩
theorem Arr.ext(h:Arr w A e vs)(hx:Ext w w'):Arr w' A e vs:=h.keep fun _ _ _ hb=>hx.below.block _ (zi hb)
theorem Arr.setCell(h:Arr w A e vs){p:Addr}(hp:w.heap[p.block]? =some (.cells cs e' fr))(hne:e≠e')(u:Value):Arr (w.setCell p u) A e vs:=
 h.keep fun b cs' fr' hb=>Below.heap_setCell w p u b (fun hh=>by subst hh;rw[hp]at hb;injection hb with hb;injection hb with _ he;exact hne he.symm)
theorem Arr.at_(h:Arr w A e vs)(hu:vs[i]? =some u):∃b o,A=some ⟨b,o,none⟩/\w.cell? ⟨b,o+i,none⟩=some u/\b<w.heap.size:=by
 have hl:0<vs.length:=by
  rcases Nat.eq_zero_or_pos vs.length with h0 |h0
  ·have :=List.eq_nil_of_length_eq_zero h0;subst this;simp at hu
  ·exact h0
 obtain⟨b,o,cs,fr,rfl,hb,hc⟩:=h hl;exact⟨b,o,rfl,by rw[cell_of_row w b (o+i) cs e fr hb];exact hc i u hu,zi hb⟩
end
theorem Arr.new(w:World)(e:TypeId)(cs:Array Value):Arr (w.alloc (.cells cs e)) (some ⟨w.heap.size,0,none⟩) e cs.toList:=fun _=>
 ⟨w.heap.size,0,cs,(0,0),rfl,heap_alloc_new w _,fun j u hu=>by simpa using hu⟩
theorem ze9(q:w.heap[s]? =some (.cells cs T (0,0)))(u:Value):(w.setCell ⟨s,i,none⟩ u).heap[s]? =some (.cells (cs.setIfInBounds i u) T (0,0)):=by
 simp[World.setCell,Array.getElem?_modify,q]
def Ints(w:World)(A:Option Addr)(e:TypeId)(k:IntKind)(l:List Int):Prop:=Arr w A e (l.map (Value.int k))
section
variable {w w':World} {A:Option Addr} {e:TypeId} {k:IntKind} {l:List Int}
theorem Ints.nil:Ints w A e k []:=Arr.nil
theorem Ints.ext(h:Ints w A e k l)(hx:Ext w w'):Ints w' A e k l:=Arr.ext h hx
theorem Ints.at_(h:Ints w A e k l)(hi:i<l.length):∃b o x,A=some ⟨b,o,none⟩/\l[i]? =some x/\w.cell? ⟨b,o+i,none⟩=some (.int k x)/\b<w.heap.size:=by
 obtain⟨b,o,h1,h2,h3⟩:=Arr.at_ h (i:=i) (u:= .int k l[i]) (by simp[hi]);exact⟨b,o,l[i],h1,by simp[hi],h2,h3⟩
theorem Ints.at0(h:Ints w A e k l)(hi:0<l.length):∃b o x,A=some ⟨b,o,none⟩/\l[0]? =some x/\w.cell? ⟨b,o,none⟩=some (.int k x)/\b<w.heap.size:=by
 simpa using h.at_ hi
theorem Ints.take(h:Ints w A e k l)(m:Nat):Ints w A e k (l.take m):=fun h0=>by
 obtain⟨b,o,cs,fr,hA,hb,hc⟩:=h (by simp at h0 |-;omega);refine⟨b,o,cs,fr,hA,hb,fun j u hu=>hc j u ?_⟩;rw[List.getElem?_map,List.getElem?_take]at hu;rw[List.getElem?_map];split at hu
 ·exact hu
 ·simp at hu
end
def Row(w:World)(g:Nat)(e:TypeId)(k:IntKind)(l:List Int):Prop:=w.heap[g]? =some (.cells (l.map (Value.int k)).toArray e (0,0))
section
variable {w w':World} {g:Nat} {e:TypeId} {k:IntKind} {l:List Int}
theorem Row.lt(h:Row w g e k l):g<w.heap.size:=zi h
theorem Row.cell(h:Row w g e k l)(hi:i<l.length):∃x,l[i]? =some x/\w.cell? ⟨g,i,none⟩=some (.int k x):=by
 refine⟨l[i],by simp[hi],?_⟩;rw[cell_of_row w g i _ e (0,0) h];simp[hi]
theorem Row.frozen(h:Row w g e k l)(i:Nat):w.frozen? ⟨g,i,none⟩=false:=by
 unfold Row at h;simp[World.frozen?,h]
theorem Row.set(h:Row w g e k l)(i:Nat)(x:Int):Row (w.setCell ⟨g,i,none⟩ (.int k x)) g e k (l.set i x):=by
 unfold Row at h |-
 rw[ze9 h];simp[List.map_set]
theorem Row.ext(h:Row w g e k l)(hx:Ext w w'):Row w' g e k l:=zg hx h
theorem Row.ints(h:Row w g e k l):Ints w (some ⟨g,0,none⟩) e k l:=fun _=>⟨g,0,_,_,rfl,h,fun j u hu=>by simpa using hu⟩
theorem Row.far(h:Row w g e k l){p:Addr}(hp:g≠p.block)(u:Value):Row (w.setCell p u) g e k l:=(Below.heap_setCell w p u g hp).trans h
end
def zO(n:Nat)(k:IntKind):Array Value:=((List.replicate n (0:Int)).map (Value.int k)).toArray
theorem Row.made(w:World)(n:Nat)(k:IntKind)(e:TypeId):Row (w.alloc (.cells (zO n k) e)) w.heap.size e k (List.replicate n 0):=heap_alloc_new w _
theorem qz{P:Program}{t:TypeId}{k:IntKind}{by_:Nat}(ht:P.underlying t=some (.slice e))(hi:(P.info? e).map (fun i=>(i.zero,i.size,i.bytes))=some (some (.int k 0),1,by_))(h8:by_<=8)
  (n:Int) (h0:0<=n) (h1:n<=35184372088832) (w:World):
  (Instr.makeSlice t (.int .i64 n) (.int .i64 n)).run P w= .ok (.slice (some ⟨w.heap.size,0,none⟩) n.toNat n.toNat) (w.alloc (.cells (zO n.toNat k) e)):=by
 obtain⟨i,hi1,hz,hs,hb⟩:=info_parts hi;have hb':(i.bytes:Int)*n<=8*n:=Int.mul_le_mul_of_nonneg_right aa h0;rw[run_make (P:=P) w t e i (.int k 0) ht hi1 hz .i64 .i64 n n h0 (Int.le_refl _) aa aa];rw[hs,Nat.mul_one];congr 3
 apply Array.ext';show (madeCells #[Value.int k 0] n.toNat).toList=_;rw[toList_madeCells_one];simp[zO]
theorem zkf(s:List Int)(n:Nat)(x:Int)(h:0<n):(s++List.replicate n 0).set s.length x=(s++[x])++List.replicate (n-1) 0:=by
 obtain⟨m,rfl⟩:∃m,n=m+1:=⟨n-1,aa⟩;simp[List.replicate_succ]
def val:List Int->Int
 |[]=>0
 |x::l=>x+4294967296*val l
def Limbs(l:List Int):Prop:=∀x∈l,0<=x/\x<4294967296
def Tight(l:List Int):Prop:=l.getLast?≠some 0
theorem Limbs.nil:Limbs []:=fun _ h=>absurd h af
theorem Limbs.cons{x:Int}(hx:0<=x/\x<4294967296)(h:Limbs l):Limbs (x::l):=fun y hy=>by
 rcases List.mem_cons.1 hy with rfl |hy
 ·exact hx
 ·exact h y hy
theorem Limbs.tail{x:Int}(h:Limbs (x::l)):Limbs l:=fun y hy=>h y (List.mem_cons_of_mem _ hy)
theorem Limbs.head{x:Int}(h:Limbs (x::l)):0<=x/\x<4294967296:=h x af
theorem Limbs.get(h:Limbs l){x:Int}(hx:l[i]? =some x):0<=x/\x<4294967296:=h x (List.mem_of_getElem? hx)
theorem Limbs.take(h:Limbs l)(m:Nat):Limbs (l.take m):=fun x hx=>h x (List.mem_of_mem_take hx)
theorem Limbs.drop(h:Limbs l)(m:Nat):Limbs (l.drop m):=fun x hx=>h x (List.mem_of_mem_drop hx)
theorem Limbs.append{m:List Int}(h:Limbs l)(h':Limbs m):Limbs (l++m):=fun x hx=>by
 rcases mem_append.1 hx with hx |hx
 ·exact h x hx
 ·exact h' x hx
theorem QC(h:Limbs l):0<=val l:=by
 induction l with
 |nil=>simp[val]
 |cons x l ih=>have :=ih h.tail;have :=h.head;simp only[val];omega
theorem zfa(l m:List Int):val (l++m)=val l+(4294967296:Int)^l.length*val m:=by
 induction l with
 |nil=>simp[val]
 |cons x l ih=>
  simp only[cons_append,val,ih,length_cons,Int.pow_succ];rw[Int.mul_add,Int.mul_comm ((4294967296:Int)^l.length) 4294967296,Int.mul_assoc,Int.add_assoc]
theorem jf(n:Nat):(0:Int)<(4294967296:Int)^n:=Int.pow_pos ac
theorem qH(h:Limbs l):val l<(4294967296:Int)^l.length:=by
 induction l with
 |nil=>simp[val]
 |cons x l ih=>
  have h1:=ih h.tail;have h2:=h.head;simp only[val,length_cons,Int.pow_succ];have :=jf l.length;omega
theorem JK(l:List Int)(x:Int):val (l++[x])=val l+(4294967296:Int)^l.length*x:=by
 rw[zfa];simp[val]
theorem ZK{x:Int}(h:l[i]? =some x):val (l.take (i+1))=val (l.take i)+(4294967296:Int)^i*x:=by
 have hi:i<l.length:=(List.getElem?_eq_some_iff.1 h).1;have hx:l[i]=x:=(List.getElem?_eq_some_iff.1 h).2;rw[List.take_succ_eq_append_getElem hi,JK,hx,List.length_take,Nat.min_eq_left aa]
theorem zaV(h:m<=n):(4294967296:Int)^m<=(4294967296:Int)^n:=by
 obtain⟨k,rfl⟩:∃k,n=m+k:=⟨n-m,aa⟩;rw[Int.pow_add];have h1:=jf m;have h2:=jf k;have h3:(4294967296:Int)^m*1<=(4294967296:Int)^m*(4294967296:Int)^k:=Int.mul_le_mul_of_nonneg_left aa aa;simpa using h3
theorem zc8(h:Limbs l)(ht:Tight l)(h0:0<l.length):(4294967296:Int)^(l.length-1)<=val l:=by
 obtain⟨m,x,rfl⟩:∃m x,l=m++[x]:=⟨l.dropLast,l.getLast (by intro hh;simp[hh]at h0),(List.dropLast_concat_getLast _).symm⟩;have hx:x≠0:=by intro hx;subst hx;exact ht af
 have hx2:=h x af;have hm:Limbs m:=fun y hy=>h y (by simp[hy])
 rw[JK];simp only[List.length_append,length_cons,List.length_nil,Nat.zero_add,Nat.add_sub_cancel];have :=QC hm;have hp:=jf m.length;have :(4294967296:Int)^m.length*1<=(4294967296:Int)^m.length*x:=Int.mul_le_mul_of_nonneg_left aa aa;omega
theorem zaW(h:Limbs l)(ht:Tight l):val l=0↔l=[]:=by
 constructor
 ·intro hv;rcases Nat.eq_zero_or_pos l.length with h0 |h0
  ·exact List.eq_nil_of_length_eq_zero h0
  ·have :=zc8 h ht h0;have :=jf (l.length-1);omega
 ·rintro rfl;rfl
theorem zc9(h:Limbs l)(ht:Tight l)(hv:val l<(4294967296:Int)^k):l.length<=k:=by
 rcases Nat.lt_or_ge k l.length with hlt |hge
 ·have h1:=zc8 h ht aa;have h2:=zaV (m:=k) (n:=l.length-1) aa;omega
 ·exact hge
theorem Tight.nil:Tight []:=by simp[Tight]
def IntV(w:World)(neg:Bool)(A:Option Addr)(n c:Nat)(z:Int):Prop:=
 ∃l:List Int,n=l.length/\Limbs l/\Tight l/\val l=z.natAbs/\neg=decide (z<0)/\Ints w A 212 .u32 l/\n<=c/\c<=9223372036854775807
theorem IntV.ext{neg:Bool}{A:Option Addr}(h:IntV w neg A n c z)(hx:Ext w w'):IntV w' neg A n c z:=by
 obtain⟨l,h1,h2,h3,h4,h5,h6,h7⟩:=h;exact⟨l,h1,h2,h3,h4,h5,h6.ext hx,h7⟩
theorem IntV.zero(w:World)(A:Option Addr)(c:Nat)(hc:c<=9223372036854775807):IntV w false A 0 c 0:=⟨[],rfl,Limbs.nil,Tight.nil,rfl,rfl,Ints.nil,Nat.zero_le _,hc⟩
theorem IntV.len{neg:Bool}{A:Option Addr}(h:IntV w neg A n c z)(hz:(z.natAbs:Int)<(4294967296:Int)^k):n<=k:=by
 obtain⟨l,rfl,h2,h3,h4,_⟩:=h;exact zc9 h2 h3 (by rw[h4];exact hz)
theorem IntV.setCell{neg:Bool}{A:Option Addr}(h:IntV w neg A n c z){p:Addr}(hp:w.heap[p.block]? =some (.cells cs e' fr))(hne:212≠e')(u:Value):IntV (w.setCell p u) neg A n c z:=by
 obtain⟨l,h1,h2,h3,h4,h5,h6,h7⟩:=h;exact⟨l,h1,h2,h3,h4,h5,Arr.setCell h6 hp hne u,h7⟩
theorem zX(q:w.heap[s]? =some (.cells cs T (0,0)))(u:Value):(w.setCell ⟨s,i,none⟩ u).heap[s]? =some (.cells (cs.setIfInBounds i u) T (0,0)):=by
 simp[World.setCell,Array.getElem?_modify,q]
theorem IntV.boxed{g:Bool}{B:Option Addr}(hz:IntV w g B k d z)(hT:212≠T)(q:w.heap[s]? =some (.cells cs T (0,0)))(u v:Value):
  IntV ((w.setCell ⟨s,0,none⟩ u).setCell ⟨s,1,none⟩ v) g B k d z:=
 (hz.setCell (p:=⟨s,0,none⟩) q hT u).setCell (p:=⟨s,1,none⟩) (zX q u) hT v
class Typed(b:Nat)(e:outParam TypeId)(w:World):Prop where
 ex:∃cs fr,w.heap[b]? =some (.cells cs e fr)
instance Typed.new (w:World) (n:Nat) (cs:Array Value) (e:TypeId) [h:Sz w n]:Typed n e (w.alloc (.cells cs e)):=⟨cs,(0,0),by rw[<-h.eq];exact heap_alloc_new w _⟩
instance Typed.alloc (w:World) (b:Nat) (e:TypeId) (o:Obj) [h:Typed b e w]:Typed b e (w.alloc o):=by
 obtain⟨cs,fr,hb⟩:=h.ex;exact⟨cs,fr,(Below.heap_alloc w o b (zi hb)).trans hb⟩
instance Typed.setCell (w:World) (b:Nat) (e:TypeId) (p:Addr) (u:Value) [h:Typed b e w]:Typed b e (w.setCell p u):=by
 obtain⟨cs,fr,hb⟩:=h.ex;by_cases hp:b=p.block
 ·subst hp;refine⟨if p.spot.isSome then cs else cs.setIfInBounds p.off u,fr,?_⟩;simp[World.setCell,Array.getElem?_modify,hb]
 ·exact⟨cs,fr,(Below.heap_setCell w p u b hp).trans hb⟩
instance Typed.drew (w:World) (b:Nat) (e:TypeId) [h:Typed b e w]:Typed b e w.drew:=⟨h.ex⟩
instance Typed.drewN (w:World) (b k:Nat) (e:TypeId) [h:Typed b e w]:Typed b e (w.drewN k):=⟨h.ex⟩
instance (priority:=50) Typed.step (W w':World) (b:Nat) (e:TypeId) [s:Step W w'] [h:Typed b e W]:Typed b e w':=by
 obtain⟨cs,fr,hb⟩:=h.ex;exact⟨cs,fr,zg s.ext hb⟩
class TNe(e e':TypeId):Prop where
 ne:e≠e'
instance TNe.u32_Int:TNe 212 102:=⟨ac⟩
instance TNe.u32_slInt:TNe 212 95:=⟨ac⟩
instance TNe.u32_slslInt:TNe 212 48:=⟨ac⟩
instance TNe.Int_slInt:TNe 102 95:=⟨ac⟩
instance TNe.Int_slslInt:TNe 102 48:=⟨ac⟩
instance TNe.slInt_slslInt:TNe 95 48:=⟨ac⟩
class Keeps(e:TypeId)(w w':World):Prop where
 keep:∀(b:Nat)(cs:Array Value)(fr:Nat×Nat),w.heap[b]? =some (Obj.cells cs e fr)->w'.heap[b]? =some (Obj.cells cs e fr)
instance Keeps.refl (e:TypeId) (w:World):Keeps e w w:=⟨fun _ _ _ h=>h⟩
instance Keeps.alloc (e:TypeId) (w w':World) (o:Obj) [h:Keeps e w w']:Keeps e w (w'.alloc o):=⟨fun b cs fr hb=>by
 have :=h.keep b cs fr hb;exact(Below.heap_alloc w' o b (zi this)).trans this⟩
instance Keeps.drew (e:TypeId) (w w':World) [h:Keeps e w w']:Keeps e w w'.drew:=⟨h.keep⟩
instance Keeps.drewN (e:TypeId) (w w':World) (n:Nat) [h:Keeps e w w']:Keeps e w (w'.drewN n):=⟨h.keep⟩
instance (priority:=50) Keeps.step (e:TypeId) (w W w':World) [s:Step W w'] [h:Keeps e w W]:Keeps e w w':=⟨fun b cs fr hb=>zg s.ext (h.keep b cs fr hb)⟩
instance Keeps.setCell (e e':TypeId) (w w':World) (b i:Nat) (s:Option Nat) (u:Value) [h:Keeps e w w'] [ht:Typed b e' w'] [hn:TNe e e']:Keeps e w (w'.setCell ⟨b,i,s⟩ u):=⟨fun q cs fr hq=>by
 have h1:=h.keep q cs fr hq;obtain⟨cs',fr',hb⟩:=ht.ex;refine(Below.heap_setCell w' ⟨b,i,s⟩ u q (fun hh=>?_)).trans h1;subst hh;rw[h1]at hb;injection hb with hb
 injection hb with _ he
 exact hn.ne he⟩
theorem Arr.keeps{A:Option Addr}{vs:List Value}(h:Arr w A e vs)[hk:Keeps e w w']:Arr w' A e vs:=fun h0=>by
 obtain⟨b,o,cs,fr,rfl,hb,hc⟩:=h h0;exact⟨b,o,cs,fr,rfl,hk.keep _ _ _ hb,hc⟩
theorem IntV.keeps{neg:Bool}{A:Option Addr}(h:IntV w neg A n c z)[hk:Keeps 212 w w']:IntV w' neg A n c z:=by
 obtain⟨l,h1,h2,h3,h4,h5,h6,h7⟩:=h;exact⟨l,h1,h2,h3,h4,h5,Arr.keeps h6,h7⟩
def zz(w:World)(z:Int)(e:Ending)(w':World):Prop:=∃g B n d,e= .returned (.agg #[.bool g,.slice B n d])/\IntV w' g B n d z/\Step w w'
def Qk(w:World)(z:Int)(e:Ending)(w':World):Prop:=∃B d l,e= .returned (.slice B (List.length l) d)/\Ints w' B 212 .u32 l/\Limbs l/\Tight l/\val l=z/\l.length<=d/\d<=9223372036854775807/\Step w w'
def zA(w:World)(v:Value)(e:Ending)(w':World):Prop:=e= .returned v/\Step w w'
def Zq(w:World)(v:Value)(e:Ending)(w':World):Prop:=e= .returned v/\w=w'
def zp(neg:Bool)(z:Int):Int:=if neg then-z else z
abbrev Cq:=Calls Tryz.prog
theorem Iw{n:Int}(h:-9223372036854775808≤n∧n≤9223372036854775807:=by omega):IntKind.i64.wrap n=n:=IntWalk.i64_in n h
theorem Xz{α:Sort _}(a:α):∃x,x=a:=⟨a,rfl⟩
theorem Yz{α:Sort _}(a:α):∃x,a=x:=⟨a,rfl⟩
set_option checkBinderAnnotations false in
abbrev Zi{α : Sort _}[i : α] : α := i
theorem Zh{p : Prop}(h : p) : Go.RowKit.Hid p := Lib.hid h
theorem Zg{α:Type _}{l:List α}{a:α}:l[i]? =some a↔∃h:i<l.length,l[i]=a:=List.getElem?_eq_some_iff
theorem Zm{α:Type _}{l:List α}{a:α}(h:l[i]? =some a):a∈l:=List.mem_of_getElem? h
theorem Ze{α:Type _}{l:List α}(h:i<l.length):l[i]? =some l[i]:=List.getElem?_eq_getElem h
theorem Zr :n<=n:=Nat.le_refl n
theorem Zl(a b:Nat):a<b∨a≥b:=Nat.lt_or_ge a b
end
end Go.Proofs.YtgoaelchibpffaaGreat
