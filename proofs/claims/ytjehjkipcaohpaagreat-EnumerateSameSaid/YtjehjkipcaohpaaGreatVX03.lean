/- Tl Fr1 Ls1 R11b Bas1 Bas2 Mk7b -/
import Derived.Test.YtjehjkipcaohpaaGreatVX02
import Derived.Test.YtjehjkipcaohpaaGreatProg
import Derived.Test.YtjehjkipcaohpaaGreatShelf
import Derived.Test.YtjehjkipcaohpaaGreatV19
set_option maxHeartbeats 8000000
set_option linter.unusedVariables false
set_option linter.unusedSimpArgs false
set_option linter.constructorNameAsVariable false
namespace Go.Proofs.YtjehjkipcaohpaaGreat
open La
theorem canonL_pos {x:List Int} (h:0<firstNZ x):canonL x=x:=by unfold canonL;rw [if_neg (by omega)]
theorem mem_canon {m:List (List Int)} (hr:RedOK m) {b:Int} (hb:0<=b) (exact:Bool) (x:List Int):x∈(collL m b exact).map canonL↔x.length=m.length/\0<firstNZ x/\nrm m x<=b/\(exact=true->nrm m x=b):=by
 rw [List.mem_map]
 constructor
 ·rintro ⟨y,hy,rfl⟩
  obtain ⟨h1,h2,h3,h4⟩:=(mem_coll hr hb exact y).1 hy
  rw [nrm_canon,canonL_length]
  exact ⟨h1,canon_first y (fun e=>lastPos_ne h2 (firstNZ_zero e)),h3,h4⟩
 ·rintro ⟨h1,h2,h3,h4⟩
  have hne:¬∀y∈x,y=0:=fun hz=>by
   have :firstNZ x=0:=by
    clear h1 h2 h3 h4
    induction x with
    |nil=>rfl
    |cons a x ih=>
     have ha:=hz a (by simp)
     simp only [firstNZ,ha,if_true]
     exact ih (fun y hy=>hz y (by simp [hy]))
   omega
  rcases lastPos_or hne with h5 |h5
  ·refine ⟨x,(mem_coll hr hb exact x).2 ⟨h1,h5,h3,h4⟩,?_⟩
   unfold canonL
   rw [if_neg (by omega)]
  ·refine ⟨x.map fun c=>-c,(mem_coll hr hb exact _).2 ⟨by simpa using h1,h5,by rw [nrm_neg];exact h3,by rw [nrm_neg];exact h4⟩,?_⟩
   unfold canonL
   rw [firstNZ_neg,if_pos (by omega),neg_neg_map]
def ipR (m:List (List Int)) (x y:List Int):Int:=sumR m.length fun i=>x.getD i 0*sumR m.length fun j=>ent m i j*y.getD j 0
theorem ipR_nrm {m:List (List Int)} (hn:AllLen m m.length) (x:List Int) (hx:x.length=m.length):ipR m x x=nrm m x:=by
 rw [nrm_eq hn x hx]
 unfold ipR qE quadZ
 rw [sumZ_sumR,hx]
 refine sumR_congr fun i _=>?_
 simp only [Nat.zero_add]
 rw [sumZ_sumR,hx,Int.mul_comm]
 simp only [Nat.zero_add]
 rfl
/-! ## The tails that the reference walks -/
def lvs (m:List (List Int)) (b:Int):Nat->List Int->List (List Int)
 |0,t=>(List.range (tCnt m b 0 t)).map fun (j:Nat)=>(tLo m b 0 t+(j:Int))::t
 |k+1,t=>(List.range (tCnt m b (k+1) t)).flatMap fun (j:Nat)=>lvs m b k ((tLo m b (k+1) t+(j:Int))::t)
theorem mem_lvs {m:List (List Int)} (hr:RedOK m) {b:Int} (x:List Int) (k:Nat):∀t:List Int,k<m.length->t.length=m.length-1-k->0<=left (ent m) b (k+1) t->
  (x∈lvs m b k t↔∃p:List Int,p.length=k+1/\x=p++t/\0<=left (ent m) b 0 x):=by
 induction k with
 |zero=>
  intro t hk ht h0
  have hin:∀c,(tLo m b 0 t<=c/\c<=tHi m b 0 t)↔0<=left (ent m) b 0 (c::t):=fun c=>inv_iff hr hk t ht h0 c
  rw [lvs]
  simp only [List.mem_map,List.mem_range]
  constructor
  ·rintro ⟨j,hj,rfl⟩
   unfold tCnt at hj
   exact ⟨[tLo m b 0 t+(j:Int)],rfl,rfl,(hin _).1 ⟨by omega,by omega⟩⟩
  ·rintro ⟨p,hp,rfl,h2⟩
   obtain ⟨c,rfl⟩:∃c,p=[c]:=List.length_eq_one_iff.1 hp
   have h3:=(hin c).2 h2
   refine ⟨(c-tLo m b 0 t).toNat,by unfold tCnt;omega,?_⟩
   rw [show tLo m b 0 t+(((c-tLo m b 0 t).toNat:Nat):Int)=c by omega]
   rfl
 |succ k ih=>
  intro t hk ht h0
  have hin:∀c,(tLo m b (k+1) t<=c/\c<=tHi m b (k+1) t)↔0<=left (ent m) b (k+1) (c::t):=fun c=>inv_iff hr hk t ht h0 c
  rw [lvs]
  simp only [List.mem_flatMap,List.mem_range]
  constructor
  ·rintro ⟨j,hj,hx⟩
   have hk0:0<=left (ent m) b (k+1) ((tLo m b (k+1) t+(j:Int))::t):=kid hr t hk ht h0 (j:=j) hj
   obtain ⟨p,hp,rfl,h2⟩:=(ih _ (by omega) (by simp [ht];omega) hk0).1 hx
   exact ⟨p++[tLo m b (k+1) t+(j:Int)],by simp [hp],by simp,h2⟩
  ·rintro ⟨p,hp,rfl,h2⟩
   obtain ⟨q,c,rfl,hq⟩:=snoc_split hp
   have hs:=left_suffix hr b q 0 (c::t) (by simp [ht];omega) (by simpa using h2)
   rw [hq,Nat.zero_add] at hs
   have hc:=(hin c).2 hs
   refine ⟨(c-tLo m b (k+1) t).toNat,by unfold tCnt;omega,?_⟩
   have e:tLo m b (k+1) t+(((c-tLo m b (k+1) t).toNat:Nat):Int)=c:=by omega
   rw [e]
   exact (ih _ (by omega) (by simp [ht];omega) hs).2 ⟨q,hq,by simp,h2⟩
theorem mem_all {m:List (List Int)} (hr:RedOK m) {b:Int} (hb:0<=b) (x:List Int):x∈lvs m b (m.length-1) []↔x.length=m.length/\nrm m x<=b:=by
 have hl:=isSmallB_len hr.small
 rw [mem_lvs hr x (m.length-1) [] (by omega) (by simp) (top_nonneg hr hb)]
 constructor
 ·rintro ⟨p,hp,rfl,h2⟩
  have hpl:(p++[]).length=m.length:=by simp [hp];omega
  rw [left_nrm (isSmallB_all hr.small) b _ hpl] at h2
  exact ⟨hpl,by omega⟩
 ·rintro ⟨h1,h3⟩
  refine ⟨x,by omega,by simp,?_⟩
  rw [left_nrm (isSmallB_all hr.small) b _ h1];omega
/-! ## Sorted lists of items -/
def itemL (p:Int×List Int):List Int:=p.1::p.2
def lessP (p q:Int×List Int):Bool:=decide (lexI (itemL p) (itemL q)<0)
theorem itemL_inj {p q:Int×List Int} (h:itemL p=itemL q):p=q:=by
 obtain ⟨a,x⟩:=p
 obtain ⟨b,y⟩:=q
 simpa [itemL] using h
theorem lessP_trans {p q r:Int×List Int} (h1:lessP p q=true) (h2:lessP q r=true):lessP p r=true:=by
 unfold lessP at*
 rw [decide_eq_true_eq] at*
 exact lexI_trans _ _ _ h1 h2
theorem lessP_tri {p q:Int×List Int} (h1:lessP p q=false) (h2:lessP q p=false):p=q:=by
 unfold lessP at*
 rw [decide_eq_false_iff_not] at*
 rw [lexI_anti] at h2
 exact itemL_inj (lexI_eq _ _ (by omega))
def putI:List (Int×List Int)->Int×List Int->Nat
 |[],_=>0
 |y::l,x=>if lessP y x then putI l x+1 else 0
def putP (l:List (Int×List Int)) (x:Int×List Int):List (Int×List Int):=
 match l[putI l x]? with
 |some y=>if lessP x y then l.take (putI l x)++x::l.drop (putI l x) else l
 |none=>l++[x]
theorem putP_ok:∀(l:List (Int×List Int)) (x:Int×List Int),l.Pairwise (fun p q=>lessP p q=true)->(putP l x).Pairwise (fun p q=>lessP p q=true)/\∀y,y∈putP l x↔y∈l∨y=x
 |[],x,_=>by simp [putP,putI]
 |y::l,x,h=>by
  by_cases hyx:lessP y x=true
  ·have hp:(y::l)[putI (y::l) x]? =l[putI l x]? :=by simp [putI,hyx]
   have e:putP (y::l) x=y::putP l x:=by
    unfold putP
    rw [hp]
    simp only [putI,if_pos hyx]
    split<;>simp
    split<;>simp
   rw [List.pairwise_cons] at h
   obtain ⟨h1,h2⟩:=putP_ok l x h.2
   rw [e,List.pairwise_cons]
   refine ⟨⟨fun z hz=>?_,h1⟩,fun z=>?_⟩
   ·rcases (h2 z).1 hz with hz |rfl
    ·exact h.1 z hz
    ·exact hyx
   ·simp only [List.mem_cons,h2]
    constructor
    ·rintro (h |h |h)
     ·exact .inl (.inl h)
     ·exact .inl (.inr h)
     ·exact .inr h
    ·rintro ((h |h) |h)
     ·exact .inl h
     ·exact .inr (.inl h)
     ·exact .inr (.inr h)
  ·have e0:putI (y::l) x=0:=by simp [putI,hyx]
   have e:putP (y::l) x=if lessP x y then x::y::l else y::l:=by
    unfold putP
    rw [e0]
    simp
   rw [e]
   by_cases hxy:lessP x y=true
   ·rw [if_pos hxy]
    refine ⟨List.pairwise_cons.2 ⟨fun z hz=>?_,h⟩,fun z=>?_⟩
    ·rcases List.mem_cons.1 hz with rfl |hz
     ·exact hxy
     ·exact lessP_trans hxy ((List.pairwise_cons.1 h).1 z hz)
    ·simp only [List.mem_cons]
     constructor
     ·rintro (h |h)
      ·exact .inr h
      ·exact .inl h
     ·rintro (h |h)
      ·exact .inr h
      ·exact .inl h
   ·rw [if_neg hxy]
    have hxe:=lessP_tri (p:=y) (q:=x) (by simpa using hyx) (by simpa using hxy)
    subst hxe
    refine ⟨h,fun z=>?_⟩
    simp only [List.mem_cons]
    constructor
    ·exact fun h=> .inl h
    ·rintro (h |h)
     ·exact h
     ·exact .inl h
def itemsL (m:List (List Int)) (xs:List (List Int)):List (Int×List Int):=
 xs.foldl (fun l x=>if 0<firstNZ x then putP l (nrm m x,x) else l) []
theorem items_ok (m:List (List Int)) (xs:List (List Int)):∀l:List (Int×List Int),l.Pairwise (fun p q=>lessP p q=true)->
  (xs.foldl (fun l x=>if 0<firstNZ x then putP l (nrm m x,x) else l) l).Pairwise (fun p q=>lessP p q=true)/\∀y,y∈xs.foldl (fun l x=>if 0<firstNZ x then putP l (nrm m x,x) else l) l↔y∈l∨∃x∈xs,0<firstNZ x/\y=(nrm m x,x):=by
 induction xs with
 |nil=>intro l h;exact ⟨h,fun y=>by simp⟩
 |cons x xs ih=>
  intro l h
  simp only [List.foldl_cons]
  by_cases hx:0<firstNZ x
  ·rw [if_pos hx]
   obtain ⟨h1,h2⟩:=putP_ok l (nrm m x,x) h
   obtain ⟨h3,h4⟩:=ih _ h1
   refine ⟨h3,fun y=>?_⟩
   rw [h4,h2]
   simp only [List.mem_cons]
   constructor
   ·rintro ((h |h) |⟨z,hz,a,b⟩)
    ·exact .inl h
    ·exact .inr ⟨x,.inl rfl,hx,h⟩
    ·exact .inr ⟨z,.inr hz,a,b⟩
   ·rintro (h |⟨z,(rfl |hz),a,b⟩)
    ·exact .inl (.inl h)
    ·exact .inl (.inr b)
    ·exact .inr ⟨z,hz,a,b⟩
  ·rw [if_neg hx]
   obtain ⟨h3,h4⟩:=ih _ h
   refine ⟨h3,fun y=>?_⟩
   rw [h4]
   simp only [List.mem_cons]
   constructor
   ·rintro (h |⟨z,hz,a,b⟩)
    ·exact .inl h
    ·exact .inr ⟨z,.inr hz,a,b⟩
   ·rintro (h |⟨z,(rfl |hz),a,b⟩)
    ·exact .inl h
    ·exact absurd a hx
    ·exact .inr ⟨z,hz,a,b⟩
theorem items_vecList {m:List (List Int)} (hr:RedOK m) {b:Int} (hb:0<=b):VecList m b false ((itemsL m (lvs m b (m.length-1) [])).map Prod.snd)/\itemsL m (lvs m b (m.length-1) [])=((itemsL m (lvs m b (m.length-1) [])).map Prod.snd).map fun x=>(nrm m x,x):=by
 obtain ⟨h1,h2⟩:=items_ok m (lvs m b (m.length-1) []) [] List.Pairwise.nil
 have hm:∀y,y∈itemsL m (lvs m b (m.length-1) [])↔∃x,(x.length=m.length/\0<firstNZ x/\nrm m x<=b)/\y=(nrm m x,x):=fun y=>by
  unfold itemsL
  rw [h2]
  simp only [mem_all hr hb]
  constructor
  ·rintro (h |⟨x,⟨a1,a2⟩,a3,a4⟩)
   ·simp at h
   ·exact ⟨x,⟨a1,a3,a2⟩,a4⟩
  ·rintro ⟨x,⟨a1,a3,a2⟩,a4⟩
   exact .inr ⟨x,⟨a1,a2⟩,a3,a4⟩
 have he:∀y∈itemsL m (lvs m b (m.length-1) []),y=(nrm m y.2,y.2):=fun y hy=>by
  obtain ⟨x,-,rfl⟩:=(hm y).1 hy
  rfl
 refine ⟨⟨?_,fun x=>?_⟩,?_⟩
 ·rw [List.pairwise_map]
  refine List.Pairwise.imp_of_mem ?_ h1
  intro p q hp hq h
  unfold lessP at h
  rw [decide_eq_true_eq,he p hp,he q hq] at h
  rw [cmpK_lex]
  exact h
 ·rw [List.mem_map]
  constructor
  ·rintro ⟨y,hy,rfl⟩
   obtain ⟨x,⟨a1,a2,a3⟩,rfl⟩:=(hm y).1 hy
   exact ⟨a1,a2,a3,fun h=>by cases h⟩
  ·rintro ⟨a1,a2,a3,-⟩
   exact ⟨(nrm m x,x),(hm _).2 ⟨x,⟨a1,a2,a3⟩,rfl⟩,rfl⟩
 ·rw [List.map_map]
  conv=>lhs;rw [<-List.map_id (itemsL m (lvs m b (m.length-1) []))]
  exact List.map_congr_left fun y hy=>he y hy
theorem vecList_len {m:List (List Int)} (hr:RedOK m) {b:Int} (hb:0<=b) {e:Bool} {L:List (List Int)} (h:VecList m b e L):L.length=(collL m b e).length:=by
 have hp:L.Perm ((collL m b e).map canonL):=(List.perm_ext_iff_of_nodup h.nodup (nodup_canon hr hb e)).2 fun x=>by rw [h.mem,mem_canon hr hb]
 simpa using hp.length_eq
end Go.Proofs.YtjehjkipcaohpaaGreat
namespace Go.Proofs.YtjehjkipcaohpaaGreat
open Go.RowKit
open La
theorem run_fieldQ0 (g:Bool) (B:Option Addr) (k d:Nat) (g':Bool) (B':Option Addr) (k' d':Nat) (w:World):(Instr.field 189 (.agg #[.bool g,.slice B k d,.bool g',.slice B' k' d']) 0).run Tryz.prog w= .ok (.agg #[.bool g,.slice B k d]) w:=by
 obtain ⟨i,h1,h2,h3,h4⟩:=info_parts infoInt
 simp [Instr.field,run_underlying Tryz.underlying189,asAgg,part,sizeOf,typeInfo,go_sem,h1,h3]
attribute [local go_sem] run_fieldQ0
end Go.Proofs.YtjehjkipcaohpaaGreat
namespace Go.Proofs.YtjehjkipcaohpaaGreat
namespace La
/-! ## The integers' operations on forms -/
def redZ (i j:Nat) (q:Int) (f:Nat->Nat->Int):Nat->Nat->Int:=fun x y=>(f x y-(if x=i then q*f j y else 0))-(if y=i then q*(f x j-(if x=i then q*f j j else 0)) else 0)
def swZ (p:Nat) (f:Nat->Nat->Int):Nat->Nat->Int:=fun x y=>f (sg p x) (sg p y)
def snZ (i x:Nat):Int:=if x=i then-1 else 1
def ngZ (i:Nat) (f:Nat->Nat->Int):Nat->Nat->Int:=fun x y=>snZ i x*snZ i y*f x y
def sn (i x:Nat):Rat:=if x=i then-1 else 1
def ngf (i:Nat) (f:Mx):Mx:=fun x y=>sn i x*sn i y*f x y
theorem sn_sq (i x:Nat):sn i x*sn i x=1:=by unfold sn;split<;>grind
theorem elim_ngf (i:Nat) (f:Mx) (k:Nat):elim (ngf i f) k=ngf i (elim f k):=by
 funext x y
 have h:=sn_sq i k
 simp only [elim,ngf]
 rw [h,Rat.one_mul,show sn i x*sn i k*f x k*(sn i k*sn i y*f k y)=(sn i k*sn i k)*(sn i x*sn i y*(f x k*f k y)) by grind,h]
 grind
theorem S_ngf (i:Nat) (f:Mx) (l:Nat):S (ngf i f) l=ngf i (S f l):=by
 induction l with
 |zero=>rfl
 |succ l ih=>
  show elim (S (ngf i f) l) l=ngf i (elim (S f l) l)
  rw [ih,elim_ngf]
theorem ngf_diag (i:Nat) (f:Mx) (l:Nat):ngf i f l l=f l l:=by unfold ngf;rw [sn_sq,Rat.one_mul]
theorem Pos.ngf {f:Mx} {n:Nat} (h:Pos f n) (i:Nat):Pos (ngf i f) n:=fun l hl=>by
 rw [S_ngf,ngf_diag];exact h l hl
theorem Sym.ngf {f:Mx} (h:Sym f) (i:Nat):Sym (ngf i f):=fun x y=>by
 unfold La.ngf;rw [h x y,Rat.mul_comm (sn i x)]
theorem dd_ngf (i:Nat) (f:Mx) (k:Nat):dd (ngf i f) k=dd f k:=by
 induction k with
 |zero=>rfl
 |succ k ih=>
  show dd (ngf i f) k*S (ngf i f) k k k=dd f k*S f k k k
  rw [ih,S_ngf,ngf_diag]
theorem ofZ_red (i j:Nat) (q:Int) (f:Nat->Nat->Int):ofZ (redZ i j q f)=redf i j q (ofZ f):=by
 funext x y
 simp only [ofZ,redZ,redf,rop,lop]
 split<;>split<;>simp only [Rat.intCast_sub,Rat.intCast_mul,Rat.intCast_zero]<;>grind
theorem ofZ_sw (p:Nat) (f:Nat->Nat->Int):ofZ (swZ p f)=swf p (ofZ f):=rfl
theorem ofZ_ng (i:Nat) (f:Nat->Nat->Int):ofZ (ngZ i f)=ngf i (ofZ f):=by
 funext x y
 simp only [ofZ,ngZ,ngf,snZ,sn,Rat.intCast_mul]
 split<;>split<;>simp
theorem ofZ_inj {f g:Nat->Nat->Int} (h:ofZ f=ofZ g):f=g:=by
 funext x y
 have :=congrFun (congrFun h x) y
 simpa [ofZ,Rat.intCast_inj] using this
inductive Bs (n:Nat) (f:Nat->Nat->Int):(Nat->Nat->Int)->Prop
 |refl:Bs n f f
 |red {g:Nat->Nat->Int} (i j:Nat) (q:Int):Bs n f g->j<i->i<n->Bs n f (redZ i j q g)
 |sw {g:Nat->Nat->Int} (p:Nat):Bs n f g->p+1<n->Bs n f (swZ p g)
 |ng {g:Nat->Nat->Int} (i:Nat):Bs n f g->i<n->Bs n f (ngZ i g)
theorem Bs.ok {n:Nat} {f g:Nat->Nat->Int} (h:Bs n f g) (hs:Sym (ofZ f)) (hp:Pos (ofZ f) n):Sym (ofZ g)/\Pos (ofZ g) n/\dd (ofZ g) n=dd (ofZ f) n:=by
 induction h with
 |refl=>exact ⟨hs,hp,rfl⟩
 |red i j q _ h1 h2 ih=>
  obtain ⟨a,b,c⟩:=ih
  rw [ofZ_red]
  exact ⟨a.red i j q,b.red q h1,by rw [dd_red q h1 n b.piv,c]⟩
 |@sw g p _ h1 ih=>
  obtain ⟨a,b,c⟩:=ih
  rw [ofZ_sw]
  refine ⟨a.swf p,Pos.swf a b h1,?_⟩
  have hq:=S_pos a b (i:=p+1) (l:=p) h1 (by omega)
  have :=dd_swf_gt (p:=p) (b.le (by omega:p+2<=n)).piv (by grind) (n-(p+2))
  rw [show p+2+(n-(p+2))=n by omega] at this
  rw [this,c]
 |ng i _ h1 ih=>
  obtain ⟨a,b,c⟩:=ih
  rw [ofZ_ng]
  exact ⟨a.ngf i,b.ngf i,by rw [dd_ngf,c]⟩
/-! ## Any two vectors -/
def tr (i j x:Nat):Nat:=if x=i then j else if x=j then i else x
def trZ (i j:Nat) (f:Nat->Nat->Int):Nat->Nat->Int:=fun x y=>f (tr i j x) (tr i j y)
theorem tr_tr (i j x:Nat):tr i j (tr i j x)=x:=by unfold tr;(repeat' split)<;>omega
theorem sg_sg' (p x:Nat):sg p (sg p x)=x:=by unfold sg;(repeat' split)<;>omega
theorem tr_succ (i j x:Nat) (h:i<j):tr i (j+1) x=sg j (tr i j (sg j x)):=by
 unfold tr sg;(repeat' split)<;>omega
theorem tr_comm (i j x:Nat):tr i j x=tr j i x:=by unfold tr;(repeat' split)<;>omega
theorem Bs.trUp {n:Nat} {f:Nat->Nat->Int} (i d:Nat):∀g,Bs n f g->i+d+1<n->Bs n f (trZ i (i+d+1) g):=by
 induction d with
 |zero=>
  intro g h hi
  have e:trZ i (i+0+1) g=swZ i g:=by
   funext x y
   have :∀x,tr i (i+0+1) x=sg i x:=fun x=>by unfold tr sg;(repeat' split)<;>omega
   simp only [trZ,swZ,this]
  rw [e]
  exact h.sw i hi
 |succ d ih=>
  intro g h hi
  have h1:=(ih _ (h.sw (i+d+1) (by omega)) (by omega)).sw (i+d+1) (by omega)
  have e:trZ i (i+(d+1)+1) g=swZ (i+d+1) (trZ i (i+d+1) (swZ (i+d+1) g)):=by
   funext x y
   simp only [trZ,swZ]
   rw [show i+(d+1)+1=(i+d+1)+1 by omega,tr_succ _ _ x (by omega),tr_succ _ _ y (by omega)]
  rw [e];exact h1
theorem Bs.tr {n:Nat} {f g:Nat->Nat->Int} {i j:Nat} (h:Bs n f g) (hi:i<n) (hj:j<n) (hne:i≠j):Bs n f (trZ i j g):=by
 rcases Nat.lt_or_gt_of_ne hne with h1 |h1
 ·have :=h.trUp i (j-i-1) (by omega)
  rw [show i+(j-i-1)+1=j by omega] at this
  exact this hj
 ·have :=h.trUp j (i-j-1) (by omega)
  rw [show j+(i-j-1)+1=i by omega] at this
  have e:trZ i j g=trZ j i g:=by
   funext x y
   simp only [trZ,tr_comm i j]
  rw [e];exact this hi
theorem Bs.add {n:Nat} {f g:Nat->Nat->Int} {i j:Nat} (q:Int) (h:Bs n f g) (hi:i<n) (hj:j<n) (hne:i≠j):Bs n f (redZ i j q g):=by
 rcases Nat.lt_or_gt_of_ne hne with h1 |h1
 ·have h2:=((h.tr hi hj hne).red j i q h1 hj).tr hi hj hne
  have e:redZ i j q g=trZ i j (redZ j i q (trZ i j g)):=by
   funext x y
   have t1:La.tr i j i=j:=by unfold La.tr;simp
   have t3:∀x,La.tr i j x=j↔x=i:=fun x=>by unfold La.tr;(repeat' split)<;>omega
   simp only [redZ,trZ,tr_tr,t1,t3]
  rwa [e]
 ·exact h.red i j q h1 hi
/-! ## The vectors of a form and of another one -/
def bz (n:Nat) (f:Nat->Nat->Int) (x y:Nat->Int):Int:=sumR n fun i=>x i*sumR n fun j=>f i j*y j
def fred (i j:Nat) (q:Int) (x:Nat->Int):Nat->Int:=fun k=>if k=j then x j-q*x i else x k
theorem sumR_ite {n a:Nat} (F:Nat->Int) (ha:a<n):(sumR n fun c=>if c=a then F c else 0)=F a:=by
 rw [sumR_one ha (fun i _ hne=>by rw [if_neg hne]),if_pos rfl]
theorem sumR_red {n i j:Nat} (q:Int) (A y:Nat->Int) (hi:i<n) (hj:j<n):(sumR n fun c=>(A c-(if c=i then q*A j else 0))*y c)=sumR n fun c=>A c*fred i j q y c:=by
 have e1:(sumR n fun c=>(A c-(if c=i then q*A j else 0))*y c)=(sumR n fun c=>A c*y c)-sumR n fun c=>if c=i then q*A j*y c else 0:=by
  rw [<-sumR_sub]
  exact sumR_congr fun c _=>by split<;>grind
 have e2:(sumR n fun c=>A c*fred i j q y c)=(sumR n fun c=>A c*y c)-sumR n fun c=>if c=j then A c*(q*y i) else 0:=by
  rw [<-sumR_sub]
  exact sumR_congr fun c _=>by unfold fred;split<;>grind
 rw [e1,e2,sumR_ite (fun c=>q*A j*y c) hi,sumR_ite (fun c=>A c*(q*y i)) hj]
 grind
theorem sumR_cmul (a:Int) (n:Nat) (F:Nat->Int):(sumR n fun i=>a*F i)=a*sumR n F:=by
 induction n with
 |zero=>simp [sumR]
 |succ n ih=>rw [sumR_succ,ih,sumR_succ,Int.mul_add]
theorem bz_red {n i j:Nat} (q:Int) (f:Nat->Nat->Int) (x y:Nat->Int) (hi:i<n) (hj:j<n):bz n (redZ i j q f) x y=bz n f (fred i j q x) (fred i j q y):=by
 unfold bz
 have e1:∀r,(sumR n fun c=>redZ i j q f r c*y c)=(sumR n fun c=>f r c*fred i j q y c)-(if r=i then q*sumR n (fun c=>f j c*fred i j q y c) else 0):=fun r=>by
  have h1:=sumR_red q (fun c=>f r c-(if r=i then q*f j c else 0)) y hi hj
  have h2:(sumR n fun c=>redZ i j q f r c*y c)=sumR n fun c=>(f r c-(if r=i then q*f j c else 0))*fred i j q y c:=h1
  rw [h2]
  split
  ·rw [<-sumR_cmul,<-sumR_sub]
   exact sumR_congr fun c _=>by grind
  ·rw [Int.sub_zero]
   exact sumR_congr fun c _=>by grind
 have e2:(sumR n fun r=>x r*sumR n fun c=>redZ i j q f r c*y c)=sumR n fun r=>((sumR n fun c=>f r c*fred i j q y c)-(if r=i then q*sumR n (fun c=>f j c*fred i j q y c) else 0))*x r:=sumR_congr fun r _=>by rw [e1 r,Int.mul_comm]
 rw [e2,sumR_red q (fun r=>sumR n fun c=>f r c*fred i j q y c) x hi hj]
 exact sumR_congr fun r _=>Int.mul_comm _ _
theorem sumR_sg {n p:Nat} (F:Nat->Int) (hp:p+1<n):(sumR n fun i=>F (sg p i))=sumR n F:=by
 obtain ⟨d,rfl⟩:∃d,n=p+2+d:=⟨n-(p+2),by omega⟩
 induction d with
 |zero=>
  show sumR (p+1+1) _=sumR (p+1+1) _
  rw [sumR_succ,sumR_succ,sumR_succ,sumR_succ,sg_p,sg_q]
  have :(sumR p fun i=>F (sg p i))=sumR p F:=sumR_congr fun i hi=>by rw [sg_ne (by omega) (by omega)]
  rw [this];omega
 |succ d ih=>
  show sumR (p+2+d+1) _=sumR (p+2+d+1) _
  rw [sumR_succ,sumR_succ,ih (by omega),sg_ne (by omega) (by omega)]
theorem bz_sw {n p:Nat} (f:Nat->Nat->Int) (x y:Nat->Int) (hp:p+1<n):bz n (swZ p f) x y=bz n f (fun k=>x (sg p k)) (fun k=>y (sg p k)):=by
 unfold bz
 have e1:∀r,(sumR n fun c=>swZ p f r c*y c)=sumR n fun c=>f (sg p r) c*y (sg p c):=fun r=>by
  rw [<-sumR_sg (fun c=>f (sg p r) c*y (sg p c)) hp]
  exact sumR_congr fun c _=>by rw [sg_sg'];rfl
 rw [<-sumR_sg (fun r=>x (sg p r)*sumR n fun c=>f r c*y (sg p c)) hp]
 exact sumR_congr fun r _=>by rw [e1 r,sg_sg']
theorem bz_ng {n:Nat} (i:Nat) (f:Nat->Nat->Int) (x y:Nat->Int):bz n (ngZ i f) x y=bz n f (fun k=>snZ i k*x k) (fun k=>snZ i k*y k):=by
 unfold bz
 refine sumR_congr fun r _=>?_
 show _=snZ i r*x r*_
 rw [Int.mul_comm (snZ i r) (x r),Int.mul_assoc]
 congr 1
 show _=snZ i r*sumR n fun c=>f r c*(snZ i c*y c)
 rw [<-sumR_cmul (snZ i r)]
 exact sumR_congr fun c _=>by unfold ngZ;grind
structure Bij (n:Nat) (f g:Nat->Nat->Int) (u v:(Nat->Int)->Nat->Int):Prop where
 uv:∀x,u (v x)=x
 vu:∀x,v (u x)=x
 neg:∀x,u (fun k=>-x k)=fun k=>-u x k
 off:∀x k,n<=k->u x k=x k
 nrm:∀x,bz n g x x=bz n f (u x) (u x)
theorem Bij.symm {n:Nat} {f g:Nat->Nat->Int} {u v:(Nat->Int)->Nat->Int} (h:Bij n f g u v):Bij n g f v u where
 uv:=h.vu
 vu:=h.uv
 neg:=fun x=>by
  have :=h.neg (v x)
  rw [h.uv] at this
  have h2:=congrArg v this
  rw [h.vu] at h2
  exact h2.symm
 off:=fun x k hk=>by
  have :=h.off (v x) k hk
  rw [h.uv] at this
  exact this.symm
 nrm:=fun x=>by rw [h.nrm (v x),h.uv]
theorem Bij.trans {n:Nat} {f g k:Nat->Nat->Int} {u v u' v':(Nat->Int)->Nat->Int} (h:Bij n f g u v) (h':Bij n g k u' v'):Bij n f k (fun x=>u (u' x)) (fun x=>v' (v x)) where
 uv:=fun x=>by simp only [h'.uv,h.uv]
 vu:=fun x=>by simp only [h.vu,h'.vu]
 neg:=fun x=>by simp only [h'.neg,h.neg]
 off:=fun x j hj=>by rw [h.off _ _ hj,h'.off _ _ hj]
 nrm:=fun x=>by rw [h'.nrm,h.nrm]
theorem snZ_sq (i k:Nat):snZ i k*snZ i k=1:=by unfold snZ;split<;>rfl
theorem Bs.bij {n:Nat} {f g:Nat->Nat->Int} (h:Bs n f g):∃u v,Bij n f g u v:=by
 induction h with
 |refl=>exact ⟨id,id,fun _=>rfl,fun _=>rfl,fun _=>rfl,fun _ _ _=>rfl,fun _=>rfl⟩
 |red i j q _ h1 h2 ih=>
  obtain ⟨u,v,ih⟩:=ih
  refine ⟨_,_,ih.trans (u':=fred i j q) (v':=fred i j (-q)) ⟨fun x=>?_,fun x=>?_,fun x=>?_,fun x k hk=>?_,fun x=>bz_red q _ x x h2 (by omega)⟩⟩
  ·funext k;unfold fred;(repeat' split)<;>first |omega |grind
  ·funext k;unfold fred;(repeat' split)<;>first |omega |grind
  ·funext k;unfold fred;split<;>grind
  ·unfold fred;rw [if_neg (by omega)]
 |sw p _ h1 ih=>
  obtain ⟨u,v,ih⟩:=ih
  refine ⟨_,_,ih.trans (u':=fun x k=>x (sg p k)) (v':=fun x k=>x (sg p k)) ⟨fun x=>?_,fun x=>?_,fun x=>rfl,fun x k hk=>?_,fun x=>bz_sw _ x x h1⟩⟩
  ·funext k;simp only [sg_sg']
  ·funext k;simp only [sg_sg']
  ·rw [sg_ne (by omega) (by omega)]
 |ng i _ h1 ih=>
  obtain ⟨u,v,ih⟩:=ih
  have e:∀(x:Nat->Int) k,snZ i k*(snZ i k*x k)=x k:=fun x k=>by rw [<-Int.mul_assoc,snZ_sq,Int.one_mul]
  refine ⟨_,_,ih.trans (u':=fun x k=>snZ i k*x k) (v':=fun x k=>snZ i k*x k) ⟨fun x=>?_,fun x=>?_,fun x=>?_,fun x k hk=>?_,fun x=>bz_ng i _ x x⟩⟩
  ·funext k;exact e x k
  ·funext k;exact e x k
  ·funext k;rw [Int.mul_neg]
  ·unfold snZ;rw [if_neg (by omega),Int.one_mul]
end La
end Go.Proofs.YtjehjkipcaohpaaGreat
namespace Go.Proofs.YtjehjkipcaohpaaGreat
open La
theorem Rel.bs {n:Nat} {a h:List (List Int)} (hr:Rel n a h) (hl:a.length=n) (ha:AllLen a n):Bs n (ent a) (ent h)/\h.length=n/\AllLen h n:=by
 induction hr with
 |refl=>exact ⟨.refl,hl,ha⟩
 |red i j q _ h1 h2 ih=>
  obtain ⟨b,c,d⟩:=ih
  refine ⟨?_,congM_len _ _ _,congM_all _ _ _⟩
  rw [ofZ_inj ((form_red (q:=q) c d h2 h1).trans (ofZ_red i j q _).symm)]
  exact b.red i j q h1 h2
 |swap p _ h1 ih=>
  obtain ⟨b,c,d⟩:=ih
  refine ⟨?_,congM_len _ _ _,congM_all _ _ _⟩
  rw [ofZ_inj ((form_swap c d h1).trans (ofZ_sw p _).symm)]
  exact b.sw p h1
def cvL (u:(Nat->Int)->Nat->Int) (x:List Int):List Int:=(List.range x.length).map (u fun k=>x.getD k 0)
theorem cvL_len (u:(Nat->Int)->Nat->Int) (x:List Int):(cvL u x).length=x.length:=by simp [cvL]
theorem cvL_get {n:Nat} {f g:Nat->Nat->Int} {u v:(Nat->Int)->Nat->Int} (h:Bij n f g u v) {x:List Int} (hx:x.length=n):(fun k=>(cvL u x).getD k 0)=u fun k=>x.getD k 0:=by
 funext k
 unfold cvL
 rcases Nat.lt_or_ge k n with hk |hk
 ·simp [List.getD,hx,hk]
 ·rw [h.off _ k hk]
  simp [List.getD,hx,show ¬k<n by omega]
theorem getD_ext {x y:List Int} (hl:x.length=y.length) (h:∀k,x.getD k 0=y.getD k 0):x=y:=by
 refine List.ext_getElem hl fun k h1 h2=>?_
 have :=h k
 simpa [List.getD,h1,h2] using this
theorem cvL_inv {n:Nat} {f g:Nat->Nat->Int} {u v:(Nat->Int)->Nat->Int} (h:Bij n f g u v) {x:List Int} (hx:x.length=n):cvL u (cvL v x)=x:=by
 refine getD_ext (by rw [cvL_len,cvL_len]) fun k=>?_
 have h1:=cvL_get h (x:=cvL v x) (by rw [cvL_len,hx])
 rw [cvL_get h.symm hx,h.uv] at h1
 exact congrFun h1 k
theorem getD_neg (x:List Int) (k:Nat):(x.map fun c=>-c).getD k 0=-x.getD k 0:=by
 simp only [List.getD,List.getElem?_map]
 cases x[k]? <;>simp
theorem cvL_neg {n:Nat} {f g:Nat->Nat->Int} {u v:(Nat->Int)->Nat->Int} (h:Bij n f g u v) {x:List Int} (hx:x.length=n):cvL u (x.map fun c=>-c)=(cvL u x).map fun c=>-c:=by
 refine getD_ext (by simp [cvL_len]) fun k=>?_
 have h1:=congrFun (cvL_get h (x:=x.map fun c=>-c) (by simpa using hx)) k
 have h2:=congrFun (cvL_get h hx) k
 rw [h1,getD_neg,h2]
 have :(fun k=>(x.map fun c=>-c).getD k 0)=fun k=>-x.getD k 0:=funext (getD_neg x)
 rw [this,h.neg]
theorem cvL_nrm {a b:List (List Int)} {u v:(Nat->Int)->Nat->Int} (ha:AllLen a a.length) (hb:AllLen b b.length) (hl:a.length=b.length) (h:Bij a.length (ent a) (ent b) u v) {x:List Int} (hx:x.length=a.length):nrm b x=nrm a (cvL u x):=by
 have h1:=h.nrm fun k=>x.getD k 0
 rw [<-cvL_get h hx] at h1
 rw [<-ipR_nrm hb x (by omega),<-ipR_nrm ha (cvL u x) (by rw [cvL_len,hx])]
 have e:∀(m:List (List Int)) (y:List Int),ipR m y y=bz m.length (ent m) (fun k=>y.getD k 0) (fun k=>y.getD k 0):=fun _ _=>rfl
 rw [e,e,<-hl]
 exact h1
theorem canonL_cases (x:List Int):canonL x=x∨canonL x=x.map fun c=>-c:=by
 unfold canonL;split
 ·exact .inr rfl
 ·exact .inl rfl
theorem cvL_canon {n:Nat} {f g:Nat->Nat->Int} {u v:(Nat->Int)->Nat->Int} (h:Bij n f g u v) {x:List Int} (hx:x.length=n) (h0:0<firstNZ x):canonL (cvL u (canonL (cvL v x)))=x:=by
 have h1:=cvL_inv h hx
 rcases canonL_cases (cvL v x) with e |e
 ·rw [e,h1,canonL_pos h0]
 ·rw [e,cvL_neg h (by rw [cvL_len,hx]),h1]
  unfold canonL
  rw [firstNZ_neg,if_pos (by omega),neg_neg_map]
theorem cvL_first {n:Nat} {f g:Nat->Nat->Int} {u v:(Nat->Int)->Nat->Int} (h:Bij n f g u v) {x:List Int} (hx:x.length=n) (h0:0<firstNZ x):firstNZ (cvL v x)≠0:=fun hz=>by
 have hzz:=firstNZ_zero hz
 have e:(cvL v x).map (fun c=>-c)=cvL v x:=by
  conv=>rhs;rw [<-List.map_id (cvL v x)]
  exact List.map_congr_left fun y hy=>by rw [hzz y hy];rfl
 have h1:=cvL_inv h hx
 have h2:=cvL_neg h (x:=cvL v x) (by rw [cvL_len,hx])
 rw [e,h1] at h2
 have h3:=firstNZ_neg x
 rw [<-h2] at h3
 omega
theorem same_len {a b:List (List Int)} {u v:(Nat->Int)->Nat->Int} (ha:AllLen a a.length) (hb:AllLen b b.length) (hl:a.length=b.length) (h:Bij a.length (ent a) (ent b) u v) {q:Int} {e:Bool} {L T:List (List Int)} (hL:VecList a q e L) (hT:VecList b q e T):L.length=T.length:=by
 have hb':Bij b.length (ent b) (ent a) v u:=by rw [<-hl];exact h.symm
 have hp:(T.map fun x=>canonL (cvL u x)).Perm L:=by
  refine (List.perm_ext_iff_of_nodup ?_ hL.nodup).2 fun y=>?_
  ·rw [List.Nodup,List.pairwise_map]
   refine List.Pairwise.imp_of_mem ?_ hT.nodup
   intro x x' hx hx' hne he
   obtain ⟨p1,p2,-⟩:=(hT.mem x).1 hx
   obtain ⟨q1,q2,-⟩:=(hT.mem x').1 hx'
   apply hne
   rw [<-cvL_canon h.symm (by omega:x.length=a.length) p2,<-cvL_canon h.symm (by omega:x'.length=a.length) q2,he]
  ·rw [List.mem_map]
   constructor
   ·rintro ⟨x,hx,rfl⟩
    obtain ⟨p1,p2,p3,p4⟩:=(hT.mem x).1 hx
    have e1:=cvL_nrm ha hb hl h (x:=x) (by omega)
    refine (hL.mem _).2 ⟨by rw [canonL_length,cvL_len];omega,canon_first _ (cvL_first h.symm (by omega) p2),by rw [nrm_canon,<-e1];exact p3,fun he=>by rw [nrm_canon,<-e1];exact p4 he⟩
   ·intro hy
    obtain ⟨p1,p2,p3,p4⟩:=(hL.mem y).1 hy
    have e1:=cvL_nrm hb ha hl.symm hb' (x:=y) (by omega)
    exact ⟨canonL (cvL v y),(hT.mem _).2 ⟨by rw [canonL_length,cvL_len];omega,canon_first _ (cvL_first h p1 p2),by rw [nrm_canon,<-e1];exact p3,fun he=>by rw [nrm_canon,<-e1];exact p4 he⟩,cvL_canon h p1 p2⟩
 have :=hp.length_eq
 rw [List.length_map] at this
 exact this.symm
end Go.Proofs.YtjehjkipcaohpaaGreat
namespace Go.Proofs.YtjehjkipcaohpaaGreat
open Go.RowKit
def GoodM (a:List (List Int)):Prop:=ValM a/\detF a<=10000
def PreOf (l:List Int) (n:Nat) (kk:Int) (P:List (List Int)) (k:Nat):Prop:=
 (kk<=3/\P=genF l 0 n/\k=0+n+trI n)∨(kk=4/\P=setE (chainF false n) 0 0 (ent (chainF false n) 0 0+l.getD 0 0%256%((3:Nat):Int))/\k=1)∨(kk=5/\P=setE (chainF true n) (n-1) (n-1) (ent (chainF true n) (n-1) (n-1)+l.getD 0 0%256%((2:Nat):Int))/\k=1)∨(kk=6/\P=diagF l 0 n 9/\k=0+n)∨(kk=7/\P=diagF l 0 n 1/\k=0+n)
def GrOf (l:List Int) (n:Nat) (kk:Int) (a:List (List Int)):Prop:=∃P k,PreOf l n kk P k/\((GoodM P/\a=P)∨(¬GoodM P/\a=diagF l k n 2))
theorem PreOf.uniq {l:List Int} {n:Nat} {kk:Int} {P P':List (List Int)} {k k':Nat} (h:PreOf l n kk P k) (h':PreOf l n kk P' k'):P=P'/\k=k':=by
 unfold PreOf at h h'
 rcases h with ⟨a,b,c⟩ |⟨a,b,c⟩ |⟨a,b,c⟩ |⟨a,b,c⟩ |⟨a,b,c⟩<;>rcases h' with ⟨a',b',c'⟩ |⟨a',b',c'⟩ |⟨a',b',c'⟩ |⟨a',b',c'⟩ |⟨a',b',c'⟩<;>first |(exfalso;omega) |exact ⟨by rw [b,b'],by rw [c,c']⟩
theorem GrOf.uniq {l:List Int} {n:Nat} {kk:Int} {a a':List (List Int)} (h:GrOf l n kk a) (h':GrOf l n kk a'):a=a':=by
 obtain ⟨P,k,h1,h2⟩:=h
 obtain ⟨P',k',h1',h2'⟩:=h'
 obtain ⟨rfl,rfl⟩:=h1.uniq h1'
 rcases h2 with ⟨p,q⟩ |⟨p,q⟩<;>rcases h2' with ⟨p',q'⟩ |⟨p',q'⟩
 ·rw [q,q']
 ·exact absurd p p'
 ·exact absurd p' p
 ·rw [q,q']
def RetGmD (w:World) (n:Nat) (l:List Int) (kk:Int) (e:Ending) (w':World):Prop:=∃g a,e= .returned (.slice (some ⟨g,0,none⟩) n n)/\Mat64 w' (some ⟨g,0,none⟩) a/\Gm n a/\Fits64 a/\GrOf l n kk a/\Ext w w'
set_option maxRecDepth 10000 in
theorem rGramD_ok {w:World} {dim kind:Int} {NA:Option Addr} {l:List Int} {nc most:Nat} {v3:Value} {te:TypeId} (hN:Ints w NA te .i8 l) (h8:I8 l) (hl:l.length<=9223372036854775807) (hd0:0<=dim) (hd1:dim<256) (hk0:0<=kind) (hk1:kind<256) (hm1:1<=most) (hm8:most<=8):
  Calls Tryz.prog 58 #[.agg #[.int .u8 dim,.int .u8 kind,.slice NA l.length nc,v3],.int .i64 most] w (RetGmD w (1+(dim%most).toNat) l (kind%8)):=by
 have hmz:((most:Int)==0)=false:=by simp;omega
 have hdm:=Int.emod_nonneg dim (show (most:Int)≠0 by omega)
 have hdm2:=Int.emod_lt_of_pos dim (show (0:Int)<most by omega)
 have hdt:dim.tmod most=dim%most:=Int.tmod_eq_emod_of_nonneg hd0
 have hdw:IntKind.i64.wrap dim=dim:=IntWalk.i64_in _ (by omega)
 obtain ⟨n,hn⟩:∃n,n=1+(dim%most).toNat:=⟨_,rfl⟩
 rw [<-hn]
 have hne:1+dim%most=(n:Int):=by omega
 have hn1:1<=n:=by omega
 have hn8:n<=8:=by omega
 have hnw:IntKind.i64.wrap (1+dim%most)=(n:Int):=by rw [hne];exact IntWalk.i64_in _ (by omega)
 have hkm:=Int.emod_nonneg kind (show (8:Int)≠0 by omega)
 have hkm2:=Int.emod_lt_of_pos kind (show (0:Int)<8 by omega)
 have hkt:kind.tmod 8=kind%8:=Int.tmod_eq_emod_of_nonneg hk0
 generalize kind%8=kk at*
 have hkw:IntKind.u8.wrap kk=kk:=by rw [IntKind.wrap_u8];omega
 have HN:=Lib.hid hN
 have hT0:TapeAt ((w.alloc (.cells #[.int .u8 dim,.int .u8 kind,.slice NA l.length nc,v3] 24)).alloc (.cells #[.slice NA l.length nc,.int .i64 0] 140)) (w.heap.size+1) l 0:=by
  refine ⟨te,NA,nc,?_,hN.ext inferInstance,fun h0 a ha=>?_⟩
  ·rw [Nat.zero_min]
   have :=heap_alloc_new (w.alloc (.cells #[.int .u8 dim,.int .u8 kind,.slice NA l.length nc,v3] 24)) (.cells #[.slice NA l.length nc,.int .i64 0] 140)
   have e:(w.alloc (.cells #[.int .u8 dim,.int .u8 kind,.slice NA l.length nc,v3] 24)).heap.size=w.heap.size+1:=by simp
   rw [e] at this
   exact this
  ·obtain ⟨b,o,cs,fr,rfl,hb,hc⟩:=hN (by simpa using h0)
   injection ha with ha
   subst ha
   have :=lt_of_heap hb
   simp only;omega
 have hx2:Ext w ((w.alloc (.cells #[.int .u8 dim,.int .u8 kind,.slice NA l.length nc,v3] 24)).alloc (.cells #[.slice NA l.length nc,.int .i64 0] 140)):=inferInstance
 have hsz2:((w.alloc (.cells #[.int .u8 dim,.int .u8 kind,.slice NA l.length nc,v3] 24)).alloc (.cells #[.slice NA l.length nc,.int .i64 0] 140)).heap.size=w.heap.size+2:=by simp
 clear hN hn HN
 go_enter Tryz.func58,Tryz.ntmps58
 go_upto_region 6 with fail
 generalize ((w.alloc (.cells #[.int .u8 dim,.int .u8 kind,.slice NA l.length nc,v3] 24)).alloc (.cells #[.slice NA l.length nc,.int .i64 0] 140))=w2 at*
 have HT0:=Lib.hid hT0
 have HGD:Hid (∀(W:World) g hs a,P64 W (w.heap.size+2) g n n hs a->a.length=n->SmM a->∃s:Bool,((s=true->Gm n a/\GoodM a)/\(s=false->¬GoodM a))/\Calls Tryz.prog 100 #[.slice (some ⟨g,0,none⟩) n n] W (RetVal W (.bool s))):=Lib.hid (fun W g hs a hP hL hS=>by
  obtain ⟨s,hs⟩:∃s:Bool,s=true↔ValM a/\detF a<=10000:=⟨@decide (ValM a/\detF a<=10000) (Classical.propDecidable _),by simp⟩
  refine ⟨s,⟨fun hst=>⟨?_,hs.1 hst⟩,fun hst hg=>by rw [hs.2 hg] at hst;cases hst⟩,rgood_ok s hs (hP.mat hL (by omega)) hL hn1 hn8 hP.all (hS.fits hP.all) hS.bd⟩
  obtain ⟨⟨h1,h2⟩,h3⟩:=hs.1 hst
  exact val_gm hn1 hn8 hL hP.all (by rw [hL] at h1;exact h1) h2 h3 hS.bd)
 have HDG:Hid (∀(W:World) (k most:Nat),TapeAt W (w.heap.size+1) l k->1<=most->most<=1000->Calls Tryz.prog 99 #[.pointer (some ⟨w.heap.size+1,0,none⟩),.int .i64 n,.int .i64 most] W (RetP64 W (w.heap.size+1) l (k+n) n (diagF l k n most))):=Lib.hid (fun W k most hT h1 h2=>rdiagonal_ok hT h8 hl (by omega) h1 h2)
 have HGN:Hid (∀(W:World) (k:Nat),TapeAt W (w.heap.size+1) l k->Calls Tryz.prog 96 #[.pointer (some ⟨w.heap.size+1,0,none⟩),.int .i64 n] W (RetP64 W (w.heap.size+1) l (k+n+trI n) n (genF l k n))):=Lib.hid (fun W k hT=>rgeneral_ok hT h8 hl (by omega))
 have HCH:Hid (∀(W:World) (f:Bool),Calls Tryz.prog 97 #[.int .i64 n,.bool f] W (RetC64 W n (chainF f n))):=Lib.hid (fun W f=>rchain_ok f (by omega))
 have HBL:Hid (∀(W:World) (k m:Nat),TapeAt W (w.heap.size+1) l k->1<=m->m<=1000->Calls Tryz.prog 98 #[.pointer (some ⟨w.heap.size+1,0,none⟩),.int .i64 m] W (RetTape W (w.heap.size+1) l (k+1) (.int .i64 (l.getD k 0%256%m)))):=Lib.hid (fun W k m hT h1 h2=>rBelow_ok hT h8 hl h1 h2)
 clear hT0 h8 hne hnw hdt hdw hdm hdm2 hd0 hd1 hmz hkt hkw hk0 hk1
 have hcase:(kk=0∨kk=1∨kk=2∨kk=3)∨kk=4∨kk=5∨kk=6∨kk=7:=by omega
 clear hkm hkm2
 have HTail:Hid True:=Lib.hid trivial
 rcases hcase with hc |rfl |rfl |rfl |rfl
 ·rcases hc with rfl |rfl |rfl |rfl
  all_goals
   go_upto_region 19 with (go_at_call 96;refine (HGN.out _ 0 (HT0.out.ext inferInstance)).mono ?_;rintro e w3 ⟨g,hs,rfl,hP,hL,hT3,hO3⟩)
   have hP2:=hP.lower (lo':=w.heap.size+2) (by have :=hx2.size;omega)
   have HSM:=Lib.hid (genF_sm l 0 n)
   have HPRX:Hid (∀kk:Int,kk<=3->PreOf l n kk (genF l 0 n) (0+n+trI n)):=Lib.hid (fun kk hk=> .inl ⟨hk,rfl,rfl⟩)
   obtain ⟨s,hsg,hC⟩:=HGD.out w3 g hs _ hP2 hL HSM.out
   have hxw3:=hO3.ext hx2 (show w.heap.size<=w.heap.size+1 by omega)
   have HC:=Lib.hid hC
   have HS:=Lib.hid hsg
   have HPx:=Lib.hid hP2
   have HLx:=Lib.hid hL
   have HTx:=Lib.hid hT3
   clear hC hsg hP2 hP hL hT3 hO3
   cases s
   ·go_wp2_with (first
     |(go_at_call 100;refine HC.out.mono ?_;rintro e w4 ⟨rfl,hs4⟩)
     |(go_at_call 99;refine (HDG.out w4 _ 2 (HTx.out.ext inferInstance) (by omega) (by omega)).mono ?_;rintro e w5 ⟨g5,hs5,rfl,hP5,hL5,hT5,hO5⟩))
    go_ret
    exact ⟨g5,_,rfl,hP5.mat hL5 (by omega),diagF_gm _ _ _ hn1 hn8,(diagF_sm _ _ _ 2 (by omega) (by omega)).fits hP5.all,⟨_,_,HPRX.out _ (by omega),.inr ⟨HS.out.2 (by simp),rfl⟩⟩,hO5.ext inferInstance (by omega)⟩
   ·go_wp2_with (go_at_call 100;refine HC.out.mono ?_;rintro e w4 ⟨rfl,hs4⟩)
    go_ret
    exact ⟨g,_,rfl,(HPx.out.ext inferInstance).mat HLx.out (by omega),(HS.out.1 (by simp)).1,HSM.out.fits HPx.out.all,⟨_,_,HPRX.out _ (by omega),.inl ⟨(HS.out.1 (by simp)).2,rfl⟩⟩,inferInstance⟩
 ·go_upto_region 13 with (go_at_call 97;refine (HCH.out _ _).mono ?_;rintro e w3 ⟨g,hs,rfl,hP,hL,hx3⟩)
  have hP2:=hP.lower (lo':=w.heap.size+2) (by have :=hx2.size;omega)
  have hTa:TapeAt w3 (w.heap.size+1) l 0:=HT0.out.ext inferInstance
  have hO0:Only (w.heap.size+1) w2 w3:=Only.of_ext hx3 (by omega)
  have hTl:=hTa.lt
  have HTa:=Lib.hid hTa
  have HO0:=Lib.hid hO0
  have HP2:=Lib.hid hP2
  have hi0:0<(chainF false n).length:=by rw [hL];omega
  obtain ⟨b,hb,c1,c2,c3,c4,c5⟩:=hP2.hdr (i:=0) hi0
  obtain ⟨d1,d2⟩:=hP2.entry (i:=0) (j:=0) hb hi0 (by omega)
  have hv:=chainF_sm2 false n 0 0
  have HB:Hid (∀W,Ext w3 W->Calls Tryz.prog 98 #[.pointer (some ⟨w.heap.size+1,0,none⟩),.int .i64 ((3:Nat):Int)] W (RetTape W (w.heap.size+1) l 1 (.int .i64 (l.getD 0 0%256%((3:Nat):Int))))):=Lib.hid (fun W e=>HBL.out W 0 3 (hTa.ext e) (by omega) (by omega))
  have hz0:0<=l.getD 0 0%256%((3:Nat):Int)/\l.getD 0 0%256%((3:Nat):Int)<=2:=by omega
  have HBD:=Lib.hid hb
  have HSM0:=Lib.hid (chainF_sm false n)
  have HAL:=Lib.hid hP2.all
  have HLL:=Lib.hid hL
  have HPRE:Hid (PreOf l n 4 (setE (chainF false n) 0 0 (ent (chainF false n) 0 0+l.getD 0 0%256%((3:Nat):Int))) 1):=Lib.hid (.inr (.inl ⟨rfl,rfl,rfl⟩))
  generalize hve:ent (chainF false n) 0 0=v at*
  have HE:=Lib.hid hve
  clear hve
  generalize l.getD 0 0%256%((3:Nat):Int)=z at*
  generalize chainF false n=a at*
  have hvw:IntKind.i64.wrap (v+z)=v+z:=IntWalk.i64_in _ (by omega)
  have hnz:(0:Int)<n:=by omega
  clear hP hP2 hL hTa hO0 hb
  go_region_with (go_at_call 98;refine (HB.out _ inferInstance).mono ?_;rintro e w5 ⟨rfl,hT5,hO5'⟩;have hO5:Only (w.heap.size+1) w3 w5:=(Only.of_ext inferInstance (Nat.le_of_lt hTl)).trans hO5';obtain ⟨b',e1,f1,f2,f3,f4,-⟩:=(HP2.out.only hO5 (by omega)).hdr (i:=0) hi0;rw [HBD.out] at e1;injection e1 with e1;subst e1;obtain ⟨g1,g2⟩:=(HP2.out.only hO5 (by omega)).entry (i:=0) (j:=0) HBD.out hi0 (by omega);rw [HE.out] at g1)
  all_goals
   have hTl5:w.heap.size+1<w5.heap.size:=hT5.lt
   obtain ⟨wc,hwc⟩:∃x,x=w5.setCell ⟨b,0,none⟩ (.int .i64 (v+z)):=⟨_,rfl⟩
   have hP2:=(HP2.out.only hO5 (by omega)).set HBD.out hi0 (by omega) (v+z)
   have hT3:TapeAt wc (w.heap.size+1) l 1:=by
    rw [hwc]
    exact hT5.only fun x hx=>Below.heap_setCell _ ⟨b,0,none⟩ _ x (by simp;omega)
   have hO3:Only (w.heap.size+1) w2 wc:=by
    rw [hwc]
    exact (HO0.out.trans hO5).setNew (p:=⟨b,0,none⟩) (by simp;omega) (by omega) _
   have hL:(setE a 0 0 (v+z)).length=n:=by rw [setE_len];exact HLL.out
   have HSM:=Lib.hid (HSM0.out.set HAL.out hi0 (by omega) (z:=v+z) (by omega))
   go_upto_region 19 with fail
   rw [<-hwc]
   rw [<-hwc] at hP2
   clear hwc hT5 hO5 hO5' f1 f2 f3 f4 g1 g2
   have hP:=hP2
   obtain ⟨s,hsg,hC⟩:=HGD.out wc g hs _ hP2 hL HSM.out
   have hxw3:=hO3.ext hx2 (show w.heap.size<=w.heap.size+1 by omega)
   have HC:=Lib.hid hC
   have HS:=Lib.hid hsg
   have HPx:=Lib.hid hP2
   have HLx:=Lib.hid hL
   have HTx:=Lib.hid hT3
   clear hC hsg hP2 hP hL hT3 hO3
   cases s
   ·go_wp2_with (first
     |(go_at_call 100;refine HC.out.mono ?_;rintro e w4 ⟨rfl,hs4⟩)
     |(go_at_call 99;refine (HDG.out w4 _ 2 (HTx.out.ext inferInstance) (by omega) (by omega)).mono ?_;rintro e w5 ⟨g5,hs5,rfl,hP5,hL5,hT5,hO5⟩))
    go_ret
    exact ⟨g5,_,rfl,hP5.mat hL5 (by omega),diagF_gm _ _ _ hn1 hn8,(diagF_sm _ _ _ 2 (by omega) (by omega)).fits hP5.all,⟨_,_,HPRE.out,.inr ⟨HS.out.2 (by simp),rfl⟩⟩,hO5.ext inferInstance (by omega)⟩
   ·go_wp2_with (go_at_call 100;refine HC.out.mono ?_;rintro e w4 ⟨rfl,hs4⟩)
    go_ret
    exact ⟨g,_,rfl,(HPx.out.ext inferInstance).mat HLx.out (by omega),(HS.out.1 (by simp)).1,HSM.out.fits HPx.out.all,⟨_,_,HPRE.out,.inl ⟨(HS.out.1 (by simp)).2,rfl⟩⟩,inferInstance⟩
 ·go_upto_region 16 with (go_at_call 97;refine (HCH.out _ _).mono ?_;rintro e w3 ⟨g,hs,rfl,hP,hL,hx3⟩)
  have hP2:=hP.lower (lo':=w.heap.size+2) (by have :=hx2.size;omega)
  have hTa:TapeAt w3 (w.heap.size+1) l 0:=HT0.out.ext inferInstance
  have hO0:Only (w.heap.size+1) w2 w3:=Only.of_ext hx3 (by omega)
  have hTl:=hTa.lt
  have HTa:=Lib.hid hTa
  have HO0:=Lib.hid hO0
  have HP2:=Lib.hid hP2
  obtain ⟨p,hp⟩:∃p,p+1=n:=⟨n-1,by omega⟩
  have hnp:(n:Int)-1=(p:Int):=by omega
  have hnpw:IntKind.i64.wrap ((n:Int)-1)=(p:Int):=by rw [hnp];exact IntWalk.i64_in _ (by omega)
  have hi0:p<(chainF true n).length:=by rw [hL];omega
  obtain ⟨b,hb,c1,c2,c3,c4,c5⟩:=hP2.hdr (i:=p) hi0
  obtain ⟨d1,d2⟩:=hP2.entry (i:=p) (j:=p) hb hi0 (by omega)
  have hv:=chainF_sm2 true n p p
  have HB:Hid (∀W,Ext w3 W->Calls Tryz.prog 98 #[.pointer (some ⟨w.heap.size+1,0,none⟩),.int .i64 ((2:Nat):Int)] W (RetTape W (w.heap.size+1) l 1 (.int .i64 (l.getD 0 0%256%((2:Nat):Int))))):=Lib.hid (fun W e=>HBL.out W 0 2 (hTa.ext e) (by omega) (by omega))
  have hz0:0<=l.getD 0 0%256%((2:Nat):Int)/\l.getD 0 0%256%((2:Nat):Int)<=2:=by omega
  have HBD:=Lib.hid hb
  have HSM0:=Lib.hid (chainF_sm true n)
  have HAL:=Lib.hid hP2.all
  have HLL:=Lib.hid hL
  have HPRE:Hid (PreOf l n 5 (setE (chainF true n) p p (ent (chainF true n) p p+l.getD 0 0%256%((2:Nat):Int))) 1):=Lib.hid (.inr (.inr (.inl ⟨rfl,by rw [show n-1=p by omega],rfl⟩)))
  generalize hve:ent (chainF true n) p p=v at*
  have HE:=Lib.hid hve
  clear hve
  generalize l.getD 0 0%256%((2:Nat):Int)=z at*
  generalize chainF true n=a at*
  have hvw:IntKind.i64.wrap (v+z)=v+z:=IntWalk.i64_in _ (by omega)
  have hnz:(p:Int)<n:=by omega
  have hpp:p<n:=by omega
  have hpw:IntKind.i64.wrap (p:Int)=(p:Int):=IntWalk.i64_in _ (by omega)
  clear hP hP2 hL hTa hO0 hb
  go_region_with (go_at_call 98;refine (HB.out _ inferInstance).mono ?_;rintro e w5 ⟨rfl,hT5,hO5'⟩;have hO5:Only (w.heap.size+1) w3 w5:=(Only.of_ext inferInstance (Nat.le_of_lt hTl)).trans hO5';obtain ⟨b',e1,f1,f2,f3,f4,-⟩:=(HP2.out.only hO5 (by omega)).hdr (i:=p) hi0;rw [HBD.out] at e1;injection e1 with e1;subst e1;obtain ⟨g1,g2⟩:=(HP2.out.only hO5 (by omega)).entry (i:=p) (j:=p) HBD.out hi0 (by omega);rw [HE.out] at g1)
  all_goals
   have hTl5:w.heap.size+1<w5.heap.size:=hT5.lt
   obtain ⟨wc,hwc⟩:∃x,x=w5.setCell ⟨b,p,none⟩ (.int .i64 (v+z)):=⟨_,rfl⟩
   have hP2:=(HP2.out.only hO5 (by omega)).set HBD.out hi0 (by omega) (v+z)
   have hT3:TapeAt wc (w.heap.size+1) l 1:=by
    rw [hwc]
    exact hT5.only fun x hx=>Below.heap_setCell _ ⟨b,p,none⟩ _ x (by simp;omega)
   have hO3:Only (w.heap.size+1) w2 wc:=by
    rw [hwc]
    exact (HO0.out.trans hO5).setNew (p:=⟨b,p,none⟩) (by simp;omega) (by omega) _
   have hL:(setE a p p (v+z)).length=n:=by rw [setE_len];exact HLL.out
   have HSM:=Lib.hid (HSM0.out.set HAL.out hi0 (by omega) (z:=v+z) (by omega))
   go_upto_region 19 with fail
   rw [<-hwc]
   rw [<-hwc] at hP2
   clear hwc hT5 hO5 hO5' f1 f2 f3 f4 g1 g2
   have hP:=hP2
   obtain ⟨s,hsg,hC⟩:=HGD.out wc g hs _ hP2 hL HSM.out
   have hxw3:=hO3.ext hx2 (show w.heap.size<=w.heap.size+1 by omega)
   have HC:=Lib.hid hC
   have HS:=Lib.hid hsg
   have HPx:=Lib.hid hP2
   have HLx:=Lib.hid hL
   have HTx:=Lib.hid hT3
   clear hC hsg hP2 hP hL hT3 hO3
   cases s
   ·go_wp2_with (first
     |(go_at_call 100;refine HC.out.mono ?_;rintro e w4 ⟨rfl,hs4⟩)
     |(go_at_call 99;refine (HDG.out w4 _ 2 (HTx.out.ext inferInstance) (by omega) (by omega)).mono ?_;rintro e w5 ⟨g5,hs5,rfl,hP5,hL5,hT5,hO5⟩))
    go_ret
    exact ⟨g5,_,rfl,hP5.mat hL5 (by omega),diagF_gm _ _ _ hn1 hn8,(diagF_sm _ _ _ 2 (by omega) (by omega)).fits hP5.all,⟨_,_,HPRE.out,.inr ⟨HS.out.2 (by simp),rfl⟩⟩,hO5.ext inferInstance (by omega)⟩
   ·go_wp2_with (go_at_call 100;refine HC.out.mono ?_;rintro e w4 ⟨rfl,hs4⟩)
    go_ret
    exact ⟨g,_,rfl,(HPx.out.ext inferInstance).mat HLx.out (by omega),(HS.out.1 (by simp)).1,HSM.out.fits HPx.out.all,⟨_,_,HPRE.out,.inl ⟨(HS.out.1 (by simp)).2,rfl⟩⟩,inferInstance⟩
 ·go_upto_region 19 with (go_at_call 99;refine (HDG.out _ 0 9 (HT0.out.ext inferInstance) (by omega) (by omega)).mono ?_;rintro e w3 ⟨g,hs,rfl,hP,hL,hT3,hO3⟩)
  have hP2:=hP.lower (lo':=w.heap.size+2) (by have :=hx2.size;omega)
  have HSM:=Lib.hid (diagF_sm l 0 n 9 (by omega) (by omega))
  have HPRE:Hid (PreOf l n 6 (diagF l 0 n 9) (0+n)):=Lib.hid (.inr (.inr (.inr (.inl ⟨rfl,rfl,rfl⟩))))
  obtain ⟨s,hsg,hC⟩:=HGD.out w3 g hs _ hP2 hL HSM.out
  have hxw3:=hO3.ext hx2 (show w.heap.size<=w.heap.size+1 by omega)
  have HC:=Lib.hid hC
  have HS:=Lib.hid hsg
  have HPx:=Lib.hid hP2
  have HLx:=Lib.hid hL
  have HTx:=Lib.hid hT3
  clear hC hsg hP2 hP hL hT3 hO3
  cases s
  ·go_wp2_with (first
    |(go_at_call 100;refine HC.out.mono ?_;rintro e w4 ⟨rfl,hs4⟩)
    |(go_at_call 99;refine (HDG.out w4 _ 2 (HTx.out.ext inferInstance) (by omega) (by omega)).mono ?_;rintro e w5 ⟨g5,hs5,rfl,hP5,hL5,hT5,hO5⟩))
   go_ret
   exact ⟨g5,_,rfl,hP5.mat hL5 (by omega),diagF_gm _ _ _ hn1 hn8,(diagF_sm _ _ _ 2 (by omega) (by omega)).fits hP5.all,⟨_,_,HPRE.out,.inr ⟨HS.out.2 (by simp),rfl⟩⟩,hO5.ext inferInstance (by omega)⟩
  ·go_wp2_with (go_at_call 100;refine HC.out.mono ?_;rintro e w4 ⟨rfl,hs4⟩)
   go_ret
   exact ⟨g,_,rfl,(HPx.out.ext inferInstance).mat HLx.out (by omega),(HS.out.1 (by simp)).1,HSM.out.fits HPx.out.all,⟨_,_,HPRE.out,.inl ⟨(HS.out.1 (by simp)).2,rfl⟩⟩,inferInstance⟩
 ·go_upto_region 19 with (go_at_call 99;refine (HDG.out _ 0 1 (HT0.out.ext inferInstance) (by omega) (by omega)).mono ?_;rintro e w3 ⟨g,hs,rfl,hP,hL,hT3,hO3⟩)
  have hP2:=hP.lower (lo':=w.heap.size+2) (by have :=hx2.size;omega)
  have HSM:=Lib.hid (diagF_sm l 0 n 1 (by omega) (by omega))
  have HPRE:Hid (PreOf l n 7 (diagF l 0 n 1) (0+n)):=Lib.hid (.inr (.inr (.inr (.inr ⟨rfl,rfl,rfl⟩))))
  obtain ⟨s,hsg,hC⟩:=HGD.out w3 g hs _ hP2 hL HSM.out
  have hxw3:=hO3.ext hx2 (show w.heap.size<=w.heap.size+1 by omega)
  have HC:=Lib.hid hC
  have HS:=Lib.hid hsg
  have HPx:=Lib.hid hP2
  have HLx:=Lib.hid hL
  have HTx:=Lib.hid hT3
  clear hC hsg hP2 hP hL hT3 hO3
  cases s
  ·go_wp2_with (first
    |(go_at_call 100;refine HC.out.mono ?_;rintro e w4 ⟨rfl,hs4⟩)
    |(go_at_call 99;refine (HDG.out w4 _ 2 (HTx.out.ext inferInstance) (by omega) (by omega)).mono ?_;rintro e w5 ⟨g5,hs5,rfl,hP5,hL5,hT5,hO5⟩))
   go_ret
   exact ⟨g5,_,rfl,hP5.mat hL5 (by omega),diagF_gm _ _ _ hn1 hn8,(diagF_sm _ _ _ 2 (by omega) (by omega)).fits hP5.all,⟨_,_,HPRE.out,.inr ⟨HS.out.2 (by simp),rfl⟩⟩,hO5.ext inferInstance (by omega)⟩
  ·go_wp2_with (go_at_call 100;refine HC.out.mono ?_;rintro e w4 ⟨rfl,hs4⟩)
   go_ret
   exact ⟨g,_,rfl,(HPx.out.ext inferInstance).mat HLx.out (by omega),(HS.out.1 (by simp)).1,HSM.out.fits HPx.out.all,⟨_,_,HPRE.out,.inl ⟨(HS.out.1 (by simp)).2,rfl⟩⟩,inferInstance⟩
end Go.Proofs.YtjehjkipcaohpaaGreat
