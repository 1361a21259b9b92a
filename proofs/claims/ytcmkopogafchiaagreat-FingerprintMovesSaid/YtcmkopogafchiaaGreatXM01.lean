/- La3 Blk Red1 Vm1 Vm2 Vm3 Vm4 -/
import Derived.Test.YtcmkopogafchiaaGreatProg
import Derived.Test.YtcmkopogafchiaaGreatX09
import Derived.Test.YtcmkopogafchiaaGreatShelf
set_option maxHeartbeats 8000000
set_option linter.unusedVariables false
set_option linter.unusedSimpArgs false
set_option linter.constructorNameAsVariable false
namespace Go.Proofs.YtcmkopogafchiaaGreat
namespace La
theorem pos_of_mul {y s:Rat} (hs:0<s) (h:0<y*s):0<y:=by
 rcases (by grind:0<y∨0<=-y) with h1 |h1
 ·exact h1
 ·have :=Rat.mul_nonneg h1 (Rat.le_of_lt hs);grind
/-! ## Integer elimination -/
theorem E_exact (m:Nat->Nat->Int) (k:Nat) (h:Piv (ofZ m) (k+1)) (i j:Nat):E m k k k*E m k i j-E m k i k*E m k k j=lastE m k*E m (k+1) i j:=by
 obtain ⟨h1,h2,h3⟩:=E_eq m k (h.le (by omega))
 obtain ⟨g1,_,_⟩:=E_eq m (k+1) h
 have hk:=h k (by omega)
 apply Rat.intCast_inj.1
 rw [Rat.intCast_sub,Rat.intCast_mul,Rat.intCast_mul,Rat.intCast_mul,h1,h1,h1,h1,h2,g1]
 show _=_*(dd (ofZ m) k*S (ofZ m) k k k*elim (S (ofZ m) k) k i j)
 simp only [elim]
 grind
end La
end Go.Proofs.YtcmkopogafchiaaGreat
namespace Go.Proofs.YtcmkopogafchiaaGreat
open Go.RowKit
/-! ## Blocks, found by instances -/
class HasBlk (b:Nat) (o:outParam Obj) (W:World):Prop where
 eq:W.heap[b]? =some o
instance HasBlk.new (w:World) (n:Nat) (o:Obj) [h:Sz w n]:HasBlk n o (w.alloc o):=⟨by rw [<-h.eq];exact heap_alloc_new w o⟩
instance (priority:=900) HasBlk.alloc (w:World) (b:Nat) (o o':Obj) [h:HasBlk b o w]:HasBlk b o (w.alloc o'):=⟨(Below.heap_alloc w o' b (lt_of_heap h.eq)).trans h.eq⟩
instance HasBlk.drew (w:World) (b:Nat) (o:Obj) [h:HasBlk b o w]:HasBlk b o w.drew:=⟨h.eq⟩
instance (priority:=50) HasBlk.step (W w':World) (b:Nat) (o:Obj) [s:Step W w'] [h:HasBlk b o W]:HasBlk b o w':=⟨heap_of_ext s.ext h.eq⟩
end Go.Proofs.YtcmkopogafchiaaGreat
namespace Go.Proofs.YtcmkopogafchiaaGreat
open La
theorem st_last {m:List (List Int)} {k:Nat} (hk:k<=m.length):(stAt m k).1=lastE (ent m) k:=(st_E m k hk).1
theorem pos_succ {m:Nat->Nat->Int} {k:Nat} (h:Pos (ofZ m) k) (he:0<E m k k k):Pos (ofZ m) (k+1):=fun l hl=>by
 rcases (by omega:l<k∨l=k) with h1 |h1
 ·exact h l h1
 ·subst h1
  have h2:=(E_eq m l h.piv).1 l l
  have h3:=dd_pos l h
  have h4:=(Rat.intCast_pos (a:=E m l l l)).2 he
  rw [h2] at h4
  exact pos_of_mul h3 (by grind)
theorem tab_congr {F G:Nat->Nat->Int} {r c:Nat} (h:∀i j,i<r->j<c->F i j=G i j):tab F r c=tab G r c:=by
 unfold tab
 refine List.map_congr_left fun i hi=>List.map_congr_left fun j hj=>h i j (by simpa using hi) (by simpa using hj)
theorem nextT_eq {m:List (List Int)} {k:Nat} (h:Pos (ofZ (ent m)) (k+1)) (hk:k+1<=m.length):nextT (stAt m k).1 (stAt m k).2=nextSt (stAt m k).1 (stAt m k).2:=by
 unfold nextT nextSt
 refine tab_congr fun i j hi hj=>?_
 rw [stAt_length] at hi hj
 rw [st_last (by omega),st_ent (i:=0) (j:=0) (by omega) (by omega),st_ent (i:=i+1) (j:=j+1) (by omega) (by omega),st_ent (i:=i+1) (j:=0) (by omega) (by omega),st_ent (i:=0) (j:=j+1) (by omega) (by omega)]
 simp only [Nat.add_zero]
 rw [E_exact (ent m) k h.piv]
 have hl:=lastE_pos h (by omega:k<=k+1)
 rw [Int.mul_tdiv_cancel_left _ (by omega),Int.mul_ediv_cancel_left _ (by omega)]
theorem red_go {m:List (List Int)} (hs:isSmallB m=true) (hr:redGo (m.length-1) 1 m=true) (k:Nat):k<m.length->Pos (ofZ (ent m)) k/\SInv (stAt m k).1 (stAt m k).2/\redGo (m.length-1-k) (stAt m k).1 (stAt m k).2=true:=by
 induction k with
 |zero=>intro _;exact ⟨fun l hl=>absurd hl (by omega),SInv.start hs,hr⟩
 |succ k ih=>
  intro hk
  obtain ⟨h1,h2,h3⟩:=ih (by omega)
  rw [show m.length-1-k=(m.length-1-(k+1))+1 by omega] at h3
  simp only [redGo,Bool.and_eq_true] at h3
  obtain ⟨a1,a2,a3⟩:=h3
  have hp:Pos (ofZ (ent m)) (k+1):=by
   refine pos_succ h1 ?_
   have :=(of_decide_eq_true a1).1
   rwa [st_ent (i:=0) (j:=0) (by omega) (by omega)] at this
  rw [nextT_eq hp (by omega)] at a3
  have hn:=h2.next (by rw [stAt_length];omega) a1
  rw [nextT_eq hp (by omega)] at hn
  exact ⟨hp,hn,a3⟩
theorem isSmallB_len {m:List (List Int)} (hs:isSmallB m=true):1<=m.length/\m.length<=8:=by
 have :=of_decide_eq_true hs
 exact ⟨this.1,this.2.1⟩
theorem red_ok {m:List (List Int)} (h:isRedB m=true):RedOK m:=by
 simp only [isRedB,Bool.and_eq_true] at h
 obtain ⟨hs,hr⟩:=h
 have hl:=isSmallB_len hs
 have hgo:=red_go hs hr
 have hlast:=(hgo (m.length-1) (by omega)).2.2
 rw [show m.length-1-(m.length-1)=0 by omega] at hlast
 have hd:=of_decide_eq_true hlast
 rw [st_ent (i:=0) (j:=0) (by omega) (by omega)] at hd
 simp only [Nat.add_zero] at hd
 have hmid:∀k,k+1<m.length->shortB (stAt m k).2=true/\¬(4*((stAt m k).1*ent (nextT (stAt m k).1 (stAt m k).2) 0 0+ent (stAt m k).2 1 0*ent (stAt m k).2 1 0)<3*ent (stAt m k).2 0 0*ent (stAt m k).2 0 0):=fun k hk=>by
  have h3:=(hgo k (by omega)).2.2
  rw [show m.length-1-k=(m.length-1-(k+1))+1 by omega] at h3
  simp only [redGo,Bool.and_eq_true] at h3
  exact ⟨h3.1,by simpa using h3.2.1⟩
 refine ⟨hs,?_,fun k hk=>(hgo k hk).2.1,fun k hk=>(hmid k hk).1,fun k hk=>?_,hd.1,hd.2⟩
 ·have :=pos_succ (hgo (m.length-1) (by omega)).1 hd.1
  rwa [show m.length-1+1=m.length by omega] at this
 ·have h4:=(hmid k hk).2
  have hp:=(hgo (k+1) (by omega)).1
  rw [nextT_eq hp (by omega)] at h4
  have e:ent (nextSt (stAt m k).1 (stAt m k).2) 0 0=E (ent m) (k+1) (k+1) (k+1):=st_ent (k:=k+1) (i:=0) (j:=0) (by omega) (by omega)
  rw [e,st_last (by omega),st_ent (i:=0) (j:=0) (by omega) (by omega),st_ent (i:=1) (j:=0) (by omega) (by omega)] at h4
  simp only [Nat.add_zero] at h4
  rw [Int.mul_assoc 3] at h4
  omega
theorem mem_ent {m:List (List Int)} {n:Nat} (hn:AllLen m n) {r:List Int} (hr:r∈m) {x:Int} (hx:x∈r):∃i j,i<m.length/\j<n/\ent m i j=x:=by
 obtain ⟨i,hi,rfl⟩:=List.getElem_of_mem hr
 obtain ⟨j,hj,rfl⟩:=List.getElem_of_mem hx
 refine ⟨i,j,hi,?_,?_⟩
 ·rw [<-hn _ hr];exact hj
 ·simp [ent,hi,hj]
theorem RedOK.s64 {m:List (List Int)} (h:RedOK m):St64 m:=fun k hk r hr x hx=>by
 obtain ⟨i,j,hi,hj,rfl⟩:=mem_ent (stAt_allLen m (isSmallB_all h.small) k) hr hx
 have :=(h.sinv k hk).b40 i hi j (by rw [stAt_length];exact hj)
 omega
theorem RedOK.num {m:List (List Int)} (h:RedOK m) {bound:Int} (h0:0<=bound) (h1:bound<1073741824):NumOK (minorsTo m m.length) (lamTo m m.length) m.length bound:=by
 have hl:=isSmallB_len h.small
 refine ⟨hl.2,by simp [minorsTo],by simp [lamTo],fun k hk=>?_,fun k hk=>?_,fun k hk=>?_,fun k hk x hx=>?_,h0,h1⟩
 ·rw [lamTo_get hk];simp [lamRow];omega
 ·rw [minorsTo_get hk]
  have :=lastE_pos h.pos hk
  omega
 ·rw [minorsTo_get hk]
  cases k with
  |zero=>show (1:Int)<65536;omega
  |succ k=>exact (h.piv (by omega)).2
 ·rw [lamTo_get hk] at hx
  rw [minorsTo_get (by omega)]
  obtain ⟨j,hj,rfl⟩:=List.mem_map.1 hx
  have hj':j<m.length-k-1:=by simpa using hj
  have hs:=(of_decide_eq_true (h.short k (by omega))).2.2 (j+1) (by rw [stAt_length];omega) (by omega)
  have hsym:=(h.sinv k hk).sym 0 (by rw [stAt_length];omega) (j+1) (by rw [stAt_length];omega)
  have e:ent (stAt m k).2 0 0=E (ent m) k k k:=st_ent (i:=0) (j:=0) (by omega) (by omega)
  show-(E (ent m) k k k)<=_/\_<=E (ent m) k k k
  rw [<-e,hsym]
  omega
theorem RedOK.form {m:List (List Int)} (h:RedOK m):FormOK m:=by
 have hl:=isSmallB_len h.small
 have hb:∀k,k<m.length->∀i j,i<m.length-k->j<m.length-k->-1099511627776<=ent (stAt m k).2 i j/\ent (stAt m k).2 i j<=1099511627776:=fun k hk i j hi hj=>
  (h.sinv k hk).b40 i (by rw [stAt_length];exact hi) j (by rw [stAt_length];exact hj)
 refine ⟨hl.1,isSmallB_all h.small,fun r hr x hx=>?_,⟨fun i j hi hj=>?_,fun k hk=>?_,fun k i j hi hj=>?_⟩,fun k hk j hj=>?_,fun bound h0 h1=>h.num h0 h1⟩
 ·have :=h.s64 0 (by omega) r hr x hx
  exact this
 ·have :=hb 0 (by omega) i j hi hj
  simp only [stAt] at this
  omega
 ·rw [st_ent (i:=0) (j:=0) (by omega) (by omega)]
  have :=E_pos h.pos (k:=k) (by omega)
  simp only [Nat.add_zero]
  omega
 ·have hk:k+1<m.length:=by omega
  have b1:=hb k (by omega) 0 0 (by omega) (by omega)
  have b2:=hb k (by omega) (i+1) 0 (by omega) (by omega)
  have b3:=hb k (by omega) 0 (j+1) (by omega) (by omega)
  have b4:=hb k (by omega) (i+1) (j+1) (by omega) (by omega)
  obtain ⟨_,_,c3,c4,c5,c6⟩:=(h.sinv k (by omega)).nums (h.short k hk) (i:=i) (j:=j) (by rw [stAt_length];omega) (by rw [stAt_length];omega)
  have l1:=(h.sinv k (by omega)).lp
  have l2:=(h.sinv k (by omega)).ll
  refine ⟨by omega,by omega,by omega,by omega,by omega,by omega,by omega,by omega,by omega⟩
 ·have :=hb k hk 0 j (by omega) hj
  omega
namespace La
/-! ## In integers -/
theorem sq_nonnegZ (a:Int):0<=a*a:=by
 rcases Int.le_total 0 a with h |h
 ·exact Int.mul_nonneg h h
 ·exact Int.mul_nonneg_of_nonpos_of_nonpos h h
theorem left_le {m:Nat->Nat->Int} {k:Nat} (hs:Sym (ofZ m)) (hp:Pos (ofZ m) (k+1)) (bound c:Int) (t:List Int) (h:0<=left m bound k (c::t)):0<=left m bound (k+1) t:=by
 have h1:=left_step hs hp bound c t
 have h2:=lastE_pos hp (by omega:k+1<=k+1)
 have h3:=lastE_pos hp (by omega:k<=k+1)
 have h4:=Int.mul_nonneg (Int.le_of_lt h2) h
 have h5:=sq_nonnegZ (lE m k (c::t))
 rcases Int.lt_or_le (left m bound (k+1) t) 0 with h6 |h6
 ·have :=Int.mul_neg_of_pos_of_neg h3 h6;omega
 ·exact h6
theorem left_top {m:Nat->Nat->Int} (bound:Int) (n:Nat):left m bound n []=lastE m n*bound:=by
 unfold left qE quadZ sumZ;omega
end La
section
variable {m:List (List Int)} {k:Nat}
theorem vU_eq (hk:k<m.length) (t:List Int) (ht:t.length=m.length-1-k) (c:Int):vU (minorsTo m m.length) (lamTo m m.length) k t c=lE (ent m) k (c::t):=by
 unfold vU lE
 rw [vSh_eq hk t ht,minorsTo_get (by omega)]
 rfl
theorem vRest_eq (hr:RedOK m) (hk:k<m.length) (bound:Int) (t:List Int) (ht:t.length=m.length-1-k) (c:Int):vRest (minorsTo m m.length) (lamTo m m.length) k (left (ent m) bound (k+1) t) t c=left (ent m) bound k (c::t):=by
 have hsym:=sym_of (isSmallB_all hr.small) (fun i j hi hj=>((of_decide_eq_true hr.small).2.2.2 i hi j hj).1)
 unfold vRest vSq
 rw [vU_eq hk t ht,minorsTo_get (by omega),minorsTo_get (by omega),left_step hsym (hr.pos.le (by omega))]
 have :=lastE_pos hr.pos (by omega:k+1<=m.length)
 exact Int.mul_ediv_cancel_left _ (by omega)
end
def LastPos:List Int->Prop
 |[]=>False
 |c::t=>LastPos t∨((∀x∈t,x=0)/\0<c)
theorem lastPos_snoc (p:List Int) (c:Int):LastPos (p++[c])↔0<c∨(c=0/\LastPos p):=by
 induction p with
 |nil=>simp [LastPos]
 |cons a p ih=>
  simp only [List.cons_append,LastPos,ih]
  constructor
  ·rintro ((h |⟨h1,h2⟩) |⟨h1,h2⟩)
   ·exact .inl h
   ·exact .inr ⟨h1,.inl h2⟩
   ·exact .inr ⟨h1 c (by simp),.inr ⟨fun x hx=>h1 x (by simp [hx]),h2⟩⟩
  ·rintro (h |⟨h1,h2 |⟨h2,h3⟩⟩)
   ·exact .inl (.inl h)
   ·exact .inl (.inr ⟨h1,h2⟩)
   ·refine .inr ⟨fun x hx=>?_,h3⟩
    rcases List.mem_append.1 hx with hx |hx
    ·exact h2 x hx
    ·obtain rfl:x=c:=by simpa using hx
     exact h1
theorem left_suffix {m:List (List Int)} (hr:RedOK m) (bound:Int) (p:List Int):∀(k:Nat) (t:List Int),k+p.length<=m.length->0<=left (ent m) bound k (p++t)->0<=left (ent m) bound (k+p.length) t:=by
 have hsym:=sym_of (isSmallB_all hr.small) (fun i j hi hj=>((of_decide_eq_true hr.small).2.2.2 i hi j hj).1)
 induction p with
 |nil=>intro k t _ h;exact h
 |cons c p ih=>
  intro k t hk h
  have h1:=left_le hsym (hr.pos.le (by simp at hk;omega:k+1<=m.length)) bound c (p++t) h
  have h2:=ih (k+1) t (by simp at hk;omega) h1
  rw [show k+(c::p).length=k+1+p.length by simp;omega]
  exact h2
theorem snoc_split {α:Type} {p:List α} {k:Nat} (h:p.length=k+1):∃q c,p=q++[c]/\q.length=k:=by
 refine ⟨p.dropLast,p.getLast (by intro e;simp [e] at h),(List.dropLast_concat_getLast _).symm,by simp [h]⟩
theorem mem_search {m:List (List Int)} (hr:RedOK m) {bound:Int} (hb:0<=bound) (exact:Bool) (x:List Int) (k:Nat):∀(zero:Bool) (t:List Int),k<m.length->t.length=m.length-1-k->0<=left (ent m) bound (k+1) t->(zero=true->∀x∈t,x=0)->
  (x∈searchL (minorsTo m m.length) (lamTo m m.length) exact k (left (ent m) bound (k+1) t) zero t↔
   ∃p:List Int,x=p++t/\p.length=k+1/\0<=left (ent m) bound 0 x/\(exact=true->left (ent m) bound 0 x=0)/\(zero=true->LastPos p)):=by
 induction k with
 |zero=>
  intro zero t hk ht h0 hz
  simp only [searchL,List.mem_flatMap,List.mem_range]
  constructor
  ·rintro ⟨j,hj,hx⟩
   obtain ⟨c,hc⟩:∃c,sLo (minorsTo m m.length) (lamTo m m.length) 0 (left (ent m) bound (0+1) t) zero t+(j:Int)=c:=⟨_,rfl⟩
   obtain ⟨g1,g2⟩:=(tried hr hb zero t hk ht h0 hz c).1 ⟨j,hj,hc⟩
   rw [hc,vRest_eq hr hk bound t ht] at hx
   split at hx
   ·rename_i htk
    obtain rfl:x=c::t:=by simpa using hx
    refine ⟨[c],rfl,rfl,g1,fun he=>?_,fun hzz=>?_⟩
    ·simp only [takes,he,Bool.true_and,Bool.not_not,Bool.and_eq_true,decide_eq_true_eq] at htk
     exact htk.2
    ·have :=g2 hzz
     simp only [takes,hzz,Bool.true_and,Bool.and_eq_true,Bool.not_eq_true',decide_eq_false_iff_not] at htk
     refine .inr ⟨by simp,by omega⟩
   ·simp at hx
  ·rintro ⟨p,rfl,hp,g1,g2,g3⟩
   obtain ⟨q,c,rfl,hq⟩:=snoc_split hp
   obtain rfl:=List.eq_nil_of_length_eq_zero hq
   simp only [List.nil_append,List.cons_append] at g1 g2 g3 |-
   have hc0:zero=true->0<c:=fun hzz=>by
    rcases g3 hzz with h |⟨_,h⟩
    ·exact absurd h (by simp [LastPos])
    ·exact h
   obtain ⟨j,hj,hc⟩:=(tried hr hb zero t hk ht h0 hz c).2 ⟨g1,fun hzz=>by have :=hc0 hzz;omega⟩
   refine ⟨j,hj,?_⟩
   rw [hc,vRest_eq hr hk bound t ht,if_pos]
   ·simp
   ·simp only [takes,Bool.and_eq_true,Bool.not_eq_true',Bool.and_eq_false_iff,decide_eq_false_iff_not,Bool.not_eq_false',decide_eq_true_eq]
    constructor
    ·cases zero with
     |false=>exact .inl rfl
     |true=>have :=hc0 rfl;exact .inr (by omega)
    ·cases exact with
     |false=>exact .inl rfl
     |true=>exact .inr (g2 rfl)
 |succ k ih=>
  intro zero t hk ht h0 hz
  simp only [searchL,List.mem_flatMap,List.mem_range]
  constructor
  ·rintro ⟨j,hj,hx⟩
   obtain ⟨c,hc⟩:∃c,sLo (minorsTo m m.length) (lamTo m m.length) (k+1) (left (ent m) bound (k+1+1) t) zero t+(j:Int)=c:=⟨_,rfl⟩
   obtain ⟨g1,g2⟩:=(tried hr hb zero t hk ht h0 hz c).1 ⟨j,hj,hc⟩
   rw [hc,vRest_eq hr hk bound t ht] at hx
   obtain ⟨p,rfl,hp,a1,a2,a3⟩:=(ih (zero&&decide (c=0)) (c::t) (by omega) (by simp [ht];omega) g1 (fun hh=>by
    simp only [Bool.and_eq_true,decide_eq_true_eq] at hh
    intro y hy
    rcases List.mem_cons.1 hy with rfl |hy
    ·exact hh.2
    ·exact hz hh.1 y hy)).1 hx
   refine ⟨p++[c],by simp,by simp [hp],a1,a2,fun hzz=>?_⟩
   rw [lastPos_snoc]
   have :=g2 hzz
   rcases (by omega:0<c∨c=0) with h |h
   ·exact .inl h
   ·exact .inr ⟨h,a3 (by simp [hzz,h])⟩
  ·rintro ⟨p,rfl,hp,g1,g2,g3⟩
   obtain ⟨q,c,rfl,hq⟩:=snoc_split hp
   have e:q++[c]++t=q++c::t:=by simp
   have hs:=left_suffix hr bound q 0 (c::t) (by omega) (by rw [<-e];exact g1)
   rw [Nat.zero_add,hq] at hs
   have hc0:zero=true->0<c∨(c=0/\LastPos q):=fun hzz=>(lastPos_snoc q c).1 (g3 hzz)
   obtain ⟨j,hj,hc⟩:=(tried hr hb zero t hk ht h0 hz c).2 ⟨hs,fun hzz=>by rcases hc0 hzz with h |h<;>omega⟩
   refine ⟨j,hj,?_⟩
   rw [hc,vRest_eq hr hk bound t ht]
   refine (ih (zero&&decide (c=0)) (c::t) (by omega) (by simp [ht];omega) hs (fun hh=>?_)).2 ⟨q,e,hq,g1,g2,fun hh=>?_⟩
   ·simp only [Bool.and_eq_true,decide_eq_true_eq] at hh
    intro y hy
    rcases List.mem_cons.1 hy with rfl |hy
    ·exact hh.2
    ·exact hz hh.1 y hy
   ·simp only [Bool.and_eq_true,decide_eq_true_eq] at hh
    rcases hc0 hh.1 with h |h
    ·omega
    ·exact h.2
theorem nodup_search {m:List (List Int)} (hr:RedOK m) {bound:Int} (hb:0<=bound) (exact:Bool) (k:Nat):∀(zero:Bool) (t:List Int),k<m.length->t.length=m.length-1-k->0<=left (ent m) bound (k+1) t->(zero=true->∀x∈t,x=0)->
  (searchL (minorsTo m m.length) (lamTo m m.length) exact k (left (ent m) bound (k+1) t) zero t).Nodup:=by
 induction k with
 |zero=>
  intro zero t hk ht h0 hz
  simp only [searchL]
  unfold List.Nodup
  rw [List.pairwise_flatMap]
  refine ⟨fun j _=>by split<;>simp,?_⟩
  refine List.Pairwise.imp_of_mem ?_ List.nodup_range
  intro a b _ _ hab x hx y hy
  split at hx
  ·split at hy
   ·simp only [List.mem_singleton] at hx hy
    subst hx hy
    intro e
    injection e with e1
    omega
   ·simp at hy
  ·simp at hx
 |succ k ih=>
  intro zero t hk ht h0 hz
  simp only [searchL]
  unfold List.Nodup
  rw [List.pairwise_flatMap]
  have hsub:∀(j:Nat),j<sCnt (minorsTo m m.length) (lamTo m m.length) (k+1) (left (ent m) bound (k+1+1) t) zero t->∀c,sLo (minorsTo m m.length) (lamTo m m.length) (k+1) (left (ent m) bound (k+1+1) t) zero t+(j:Int)=c->0<=left (ent m) bound (k+1) (c::t)/\((zero&&decide (c=0))=true->∀x∈c::t,x=0):=by
   intro j hj c hc
   obtain ⟨g1,g2⟩:=(tried hr hb zero t hk ht h0 hz c).1 ⟨j,hj,hc⟩
   refine ⟨g1,fun hh=>?_⟩
   simp only [Bool.and_eq_true,decide_eq_true_eq] at hh
   intro y hy
   rcases List.mem_cons.1 hy with rfl |hy
   ·exact hh.2
   ·exact hz hh.1 y hy
  refine ⟨fun j hj=>?_,?_⟩
  ·obtain ⟨c,hc⟩:∃c,sLo (minorsTo m m.length) (lamTo m m.length) (k+1) (left (ent m) bound (k+1+1) t) zero t+(j:Int)=c:=⟨_,rfl⟩
   obtain ⟨g1,g2⟩:=hsub j (by simpa using hj) c hc
   rw [hc,vRest_eq hr hk bound t ht]
   exact ih _ (c::t) (by omega) (by simp [ht];omega) g1 g2
  ·refine List.Pairwise.imp_of_mem ?_ List.nodup_range
   intro a b ha hb' hab x hx y hy
   obtain ⟨c,hc⟩:∃c,sLo (minorsTo m m.length) (lamTo m m.length) (k+1) (left (ent m) bound (k+1+1) t) zero t+(a:Int)=c:=⟨_,rfl⟩
   obtain ⟨d,hd⟩:∃d,sLo (minorsTo m m.length) (lamTo m m.length) (k+1) (left (ent m) bound (k+1+1) t) zero t+(b:Int)=d:=⟨_,rfl⟩
   obtain ⟨g1,g2⟩:=hsub a (by simpa using ha) c hc
   obtain ⟨g3,g4⟩:=hsub b (by simpa using hb') d hd
   rw [hc,vRest_eq hr hk bound t ht] at hx
   rw [hd,vRest_eq hr hk bound t ht] at hy
   obtain ⟨p,rfl,hp,_⟩:=(mem_search hr hb exact x k _ (c::t) (by omega) (by simp [ht];omega) g1 g2).1 hx
   obtain ⟨q,hyq,hq,_⟩:=(mem_search hr hb exact y k _ (d::t) (by omega) (by simp [ht];omega) g3 g4).1 hy
   intro e
   rw [hyq] at e
   have :=List.append_inj_right e (by omega)
   injection this with e1
   omega
theorem row_ent {m:List (List Int)} {n i:Nat} (hn:AllLen m n) (hi:i<m.length) (x:List Int) (hx:x.length=n):dotL (m.getD i []) x=sumZ (ent m i) 0 x:=by
 have hl:(m.getD i []).length=n:=by
  have :m[i].length=n:=hn _ (List.getElem_mem _)
  simpa [List.getD,hi] using this
 exact sumZ_dot _ x 0 _ (by omega) (fun j _=>by simp [ent])
theorem nrm_eq {m:List (List Int)} (hn:AllLen m m.length) (x:List Int) (hx:x.length=m.length):nrm m x=qE (ent m) 0 x:=by
 unfold nrm qE quadZ
 rw [dotL_comm]
 refine sumZ_dot _ x 0 _ (by simp [applyL,hx]) (fun i hi=>?_)
 have hi':i<m.length:=by omega
 have :(applyL m x).getD i 0=dotL (m.getD i []) x:=by simp [applyL,hi']
 rw [this,row_ent hn hi' x hx,Nat.zero_add]
 rfl
theorem left_nrm {m:List (List Int)} (hn:AllLen m m.length) (bound:Int) (x:List Int) (hx:x.length=m.length):left (ent m) bound 0 x=bound-nrm m x:=by
 unfold left
 rw [nrm_eq hn x hx]
 show 1*bound-_=_
 omega
theorem mem_mult {h bound:Int} (h1:1<=h) (hb:0<=bound) (exact:Bool) (x:List Int):x∈multL h bound exact (isq (bound / h).toNat)↔∃c:Int,x=[c]/\1<=c/\h*c*c<=bound/\(exact=true->h*c*c=bound):=by
 obtain ⟨h2,h3⟩:=isq_bounds h1 hb
 obtain ⟨r,hr⟩:∃r,r=isq (bound / h).toNat:=⟨_,rfl⟩
 rw [<-hr] at h2 h3 |-
 simp only [multL,List.mem_map,List.mem_filter,List.mem_range]
 constructor
 ·rintro ⟨i,⟨hi,hp⟩,rfl⟩
  refine ⟨(i:Int)+1,rfl,by omega,h2 _ (by omega) (by omega),fun he=>?_⟩
  simpa [he] using hp
 ·rintro ⟨c,rfl,c1,c2,c3⟩
  have hc:c<=r:=by
   rcases Int.lt_or_le (r:Int) c with hlt |hle
   ·have e1:h*((r:Int)+1)<=h*c:=Int.mul_le_mul_of_nonneg_left (by omega) (by omega)
    have e2:h*((r:Int)+1)*((r:Int)+1)<=h*c*c:=Int.mul_le_mul e1 (by omega) (by omega) (Int.mul_nonneg (by omega) (by omega))
    omega
   ·exact hle
  refine ⟨(c-1).toNat,⟨by omega,?_⟩,by congr 1;omega⟩
  rw [show ((c-1).toNat:Int)+1=c by omega]
  cases exact with
  |false=>rfl
  |true=>simp [c3 rfl]
theorem mem_coll {m:List (List Int)} (hr:RedOK m) {bound:Int} (hb:0<=bound) (exact:Bool) (x:List Int):x∈collL m bound exact↔x.length=m.length/\LastPos x/\nrm m x<=bound/\(exact=true->nrm m x=bound):=by
 have hall:=isSmallB_all hr.small
 have hl:=isSmallB_len hr.small
 unfold collL
 split
 ·rename_i h1
  have h00:=hr.pos
  have hd:1<=ent m 0 0:=by
   have :=E_pos (m:=ent m) hr.pos (k:=0) (by omega)
   exact this
  rw [mem_mult hd hb]
  have hn:∀c:Int,nrm m [c]=ent m 0 0*c*c:=fun c=>by
   rw [nrm_eq hall [c] (by simp [h1])]
   simp only [qE,quadZ,sumZ,E]
   grind
  constructor
  ·rintro ⟨c,rfl,c1,c2,c3⟩
   rw [hn]
   exact ⟨by simp [h1],.inr ⟨by simp,by omega⟩,c2,c3⟩
  ·rintro ⟨a1,a2,a3,a4⟩
   obtain ⟨c,rfl⟩:∃c,x=[c]:=by
    match x,a1 with
    |[c],_=>exact ⟨c,rfl⟩
    |[],h=>simp at h;omega
    |_::_::_,h=>simp at h;omega
   rw [hn] at a3 a4
   have :0<c:=by
    rcases a2 with h |⟨_,h⟩
    ·exact absurd h (by simp [LastPos])
    ·exact h
   exact ⟨c,rfl,by omega,a3,a4⟩
 ·have e:vD (minorsTo m m.length) m.length*bound=left (ent m) bound (m.length-1+1) []:=by
   rw [show m.length-1+1=m.length by omega,left_top,minorsTo_get (Nat.le_refl _)]
  rw [e,mem_search hr hb exact x (m.length-1) true [] (by omega) (by simp) ?_ (by simp)]
  ·constructor
   ·rintro ⟨p,rfl,hp,a1,a2,a3⟩
    simp only [List.append_nil] at a1 a2 |-
    have hpl:p.length=m.length:=by omega
    rw [left_nrm hall bound p hpl] at a1 a2
    exact ⟨hpl,a3 rfl,by omega,fun h=>by have :=a2 h;omega⟩
   ·rintro ⟨a1,a2,a3,a4⟩
    rw [left_nrm hall bound x a1]
    exact ⟨x,by simp,by omega,by omega,fun h=>by have :=a4 h;omega,fun _=>a2⟩
  ·rw [<-e]
   have :=minorsTo_get (m:=m) (k:=m.length) (Nat.le_refl _)
   rw [this]
   exact Int.mul_nonneg (Int.le_of_lt (lastE_pos hr.pos (Nat.le_refl _))) hb
/-! ## Levels -/
theorem lev_of {m:List (List Int)} (hr:RedOK m) {bound:Int} (hb:0<=bound) (hb1:bound<1073741824) (t:List Int):∀k,k<m.length->t.length=m.length-1-k->0<=left (ent m) bound (k+1) t->LevOK (minorsTo m m.length) m.length bound k (left (ent m) bound (k+1) t) t:=by
 have hsym:=sym_of (isSmallB_all hr.small) (fun i j hi hj=>((of_decide_eq_true hr.small).2.2.2 i hi j hj).1)
 induction t with
 |nil=>
  intro k hk ht h0
  have e:k+1=m.length:=by simp at ht;omega
  rw [e] at h0 |-
  refine ⟨hk,h0,?_,ht,by simp [absSum]⟩
  rw [left_top,e,minorsTo_get (Nat.le_refl _)]
  exact Int.le_refl _
 |cons c t ih=>
  intro k hk ht h0
  simp only [List.length_cons] at ht
  have h1:=left_le hsym (hr.pos.le (by omega:k+1+1<=m.length)) bound c t h0
  have h2:=ih (k+1) (by omega) (by omega) h1
  have h3:=(inv_iff hr (by omega:k+1<m.length) t (by omega) h1 c).2 h0
  have h4:=LevOK.next (hr.num hb hb1) h2 h3.1 h3.2
  rwa [vRest_eq hr (by omega) bound t (by omega)] at h4
theorem qE_nonneg {m:List (List Int)} (hr:RedOK m) (t:List Int):∀k,k+t.length<=m.length->0<=qE (ent m) k t:=by
 have hsym:=sym_of (isSmallB_all hr.small) (fun i j hi hj=>((of_decide_eq_true hr.small).2.2.2 i hi j hj).1)
 induction t with
 |nil=>intro k _;exact Int.le_refl _
 |cons c t ih=>
  intro k hk
  simp only [List.length_cons] at hk
  have h1:=ih (k+1) (by omega)
  have h2:=qE_step hsym (hr.pos.le (by omega:k+1<=m.length)) c t
  have h3:=lastE_pos hr.pos (by omega:k<=m.length)
  have h4:=lastE_pos hr.pos (by omega:k+1<=m.length)
  have h5:=Int.mul_nonneg (Int.le_of_lt h3) h1
  have h6:=sq_nonnegZ (lE (ent m) k (c::t))
  rcases Int.lt_or_le (qE (ent m) k (c::t)) 0 with h7 |h7
  ·have :=Int.mul_neg_of_pos_of_neg h4 h7;omega
  ·exact h7
theorem nrm_nonneg {m:List (List Int)} (hr:RedOK m) (x:List Int) (hx:x.length=m.length):0<=nrm m x:=by
 rw [nrm_eq (isSmallB_all hr.small) x hx]
 exact qE_nonneg hr x 0 (by omega)
theorem coord_small {m:List (List Int)} (hr:RedOK m) {bound:Int} (hb:0<=bound) (hb1:bound<1073741824) (x:List Int) (hx:x.length=m.length) (hn:nrm m x<=bound):absSum x<=1099511627776:=by
 have hall:=isSmallB_all hr.small
 have hl:=isSmallB_len hr.small
 have hsym:=sym_of (isSmallB_all hr.small) (fun i j hi hj=>((of_decide_eq_true hr.small).2.2.2 i hi j hj).1)
 have h0:0<=left (ent m) bound 0 x:=by rw [left_nrm hall bound x hx];omega
 cases x with
 |nil=>simp [absSum]
 |cons c t=>
  simp only [List.length_cons] at hx
  have h1:=left_le hsym (hr.pos.le (by omega:0+1<=m.length)) bound c t h0
  have h2:=lev_of hr hb hb1 t 0 (by omega) (by omega) h1
  have h3:=(inv_iff hr (by omega:0<m.length) t (by omega) h1 c).2 h0
  have hN:=hr.num hb hb1
  have h4:=vEnds hN h2
  have h5:=absSum_bound hN h2
  have h6:=vR_bounds hN h2
  simp only [absSum]
  omega
theorem inRange_of {x:List Int} (h:absSum x<=1099511627776):inRangeB x=true:=by
 unfold inRangeB
 rw [List.all_eq_true]
 intro y hy
 obtain ⟨i,hi⟩:=List.getElem?_of_mem hy
 have :=le_absSum x i y hi
 simp only [Bool.and_eq_true,decide_eq_true_eq]
 omega
theorem firstNZ_zero {x:List Int} (h:firstNZ x=0):∀y∈x,y=0:=by
 induction x with
 |nil=>simp
 |cons a x ih=>
  simp only [firstNZ] at h
  split at h
  ·rename_i ha
   intro y hy
   rcases List.mem_cons.1 hy with rfl |hy
   ·exact ha
   ·exact ih h y hy
  ·omega
theorem lastPos_ne {x:List Int} (h:LastPos x):¬∀y∈x,y=0:=by
 induction x with
 |nil=>exact absurd h (by simp [LastPos])
 |cons a x ih=>
  intro hz
  rcases h with h |⟨_,h⟩
  ·exact ih h (fun y hy=>hz y (by simp [hy]))
  ·have :=hz a (by simp);omega
theorem lastPos_neg {x:List Int} (h:LastPos x):¬LastPos (x.map fun c=>-c):=by
 induction x with
 |nil=>exact absurd h (by simp [LastPos])
 |cons a x ih=>
  rintro (h2 |⟨h2,h3⟩)
  ·rcases h with h |⟨h,_⟩
   ·exact ih h h2
   ·exact lastPos_ne h2 (fun y hy=>by
     obtain ⟨z,hz,rfl⟩:=List.mem_map.1 hy
     have :=h z hz;omega)
  ·rcases h with h |⟨_,h⟩
   ·exact lastPos_ne h (fun y hy=>by
     have :=h2 (-y) (List.mem_map.2 ⟨y,hy,rfl⟩);omega)
   ·have h4:0< -a:=h3
    omega
theorem lastPos_or {x:List Int} (h:¬∀y∈x,y=0):LastPos x∨LastPos (x.map fun c=>-c):=by
 induction x with
 |nil=>exact absurd (by simp) h
 |cons a x ih=>
  by_cases hx:∀y∈x,y=0
  ·have ha:a≠0:=fun ha=>h (fun y hy=>by
    rcases List.mem_cons.1 hy with rfl |hy
    ·exact ha
    ·exact hx y hy)
   rcases (by omega:0<a∨0< -a) with h1 |h1
   ·exact .inl (.inr ⟨hx,h1⟩)
   ·refine .inr (.inr ⟨fun y hy=>?_,h1⟩)
    obtain ⟨z,hz,rfl⟩:=List.mem_map.1 hy
    have :=hx z hz;omega
  ·rcases ih hx with h1 |h1
   ·exact .inl (.inl h1)
   ·exact .inr (.inl h1)
theorem neg_neg_map (x:List Int):(x.map fun c=>-c).map (fun c=>-c)=x:=by
 induction x with
 |nil=>rfl
 |cons a x ih=>simp only [List.map_cons,ih,Int.neg_neg]
theorem canon_inj {x y:List Int} (hx:LastPos x) (hy:LastPos y) (h:canonL x=canonL y):x=y:=by
 unfold canonL at h
 split at h<;>split at h
 ·have :=congrArg (List.map fun c=>-c) h
  rwa [neg_neg_map,neg_neg_map] at this
 ·rw [<-h] at hy;exact absurd hy (lastPos_neg hx)
 ·rw [h] at hx;exact absurd hx (lastPos_neg hy)
 ·exact h
theorem firstNZ_neg (x:List Int):firstNZ (x.map fun c=>-c)=-firstNZ x:=by
 induction x with
 |nil=>rfl
 |cons a x ih=>
  simp only [List.map_cons,firstNZ,ih]
  by_cases h:a=0
  ·simp [h]
  ·rw [if_neg h,if_neg (by omega)]
theorem canon_first (x:List Int) (h:firstNZ x≠0):0<firstNZ (canonL x):=by
 unfold canonL
 split
 ·rw [firstNZ_neg];omega
 ·omega
theorem nodup_coll {m:List (List Int)} (hr:RedOK m) {bound:Int} (hb:0<=bound) (exact:Bool):(collL m bound exact).Nodup:=by
 have hl:=isSmallB_len hr.small
 unfold collL
 split
 ·unfold multL
  unfold List.Nodup
  rw [List.pairwise_map]
  refine List.Pairwise.imp ?_ (List.Pairwise.filter _ List.nodup_range)
  intro a b hab e
  injection e with e1
  omega
 ·have e:vD (minorsTo m m.length) m.length*bound=left (ent m) bound (m.length-1+1) []:=by
   rw [show m.length-1+1=m.length by omega,left_top,minorsTo_get (Nat.le_refl _)]
  rw [e]
  refine nodup_search hr hb exact (m.length-1) true [] (by omega) (by simp) ?_ (by simp)
  rw [<-e,minorsTo_get (Nat.le_refl _)]
  exact Int.mul_nonneg (Int.le_of_lt (lastE_pos hr.pos (Nat.le_refl _))) hb
theorem nodup_canon {m:List (List Int)} (hr:RedOK m) {bound:Int} (hb:0<=bound) (exact:Bool):((collL m bound exact).map canonL).Nodup:=by
 unfold List.Nodup
 rw [List.pairwise_map]
 refine List.Pairwise.imp_of_mem ?_ (nodup_coll hr hb exact)
 intro a b ha hb' hab e
 exact hab (canon_inj ((mem_coll hr hb exact a).1 ha).2.1 ((mem_coll hr hb exact b).1 hb').2.1 e)
theorem vec_coll {m:List (List Int)} (hr:RedOK m) {bound:Int} (hb:0<=bound) (hb1:bound<1073741824) (exact:Bool) (x:List Int) (hx:x∈collL m bound exact):VecOK m x:=by
 obtain ⟨h1,h2,h3,_⟩:=(mem_coll hr hb exact x).1 hx
 have h4:=inRange_of (coord_small hr hb hb1 x h1 h3)
 refine ⟨by simp [fitsB,h1,h4],?_,?_⟩
 ·have :=nrm_nonneg hr x h1
  simp only [dotB,decide_eq_true_eq]
  omega
 ·simp only [canonB,h4,Bool.true_and,Bool.not_eq_true',decide_eq_false_iff_not]
  intro e
  exact lastPos_ne h2 (firstNZ_zero e)
theorem redM_of {m:List (List Int)} (h:isRedB m=true):RedM m:=by
 have hr:=red_ok h
 refine ⟨h,isSmallB_all hr.small,fun r hr' x hx=>?_,(isSmallB_len hr.small).2⟩
 obtain ⟨i,j,hi,hj,rfl⟩:=mem_ent (isSmallB_all hr.small) hr' hx
 have :=((of_decide_eq_true hr.small).2.2.2 i hi j hj).2
 omega
structure VecList (m:List (List Int)) (bound:Int) (exact:Bool) (L:List (List Int)):Prop where
 sorted:L.Pairwise (fun x y=>cmpK (nrm m x) (nrm m y) x y<0)
 mem:∀x,x∈L↔x.length=m.length/\0<firstNZ x/\nrm m x<=bound/\(exact=true->nrm m x=bound)
theorem vecList_of {m:List (List Int)} (hr:RedOK m) {bound:Int} (hb:0<=bound) {exact:Bool} {L:List (List Int)} (hp:L.Perm ((collL m bound exact).map canonL)) (hw:L.Pairwise (fun x y=>cmpK (nrm m x) (nrm m y) x y<0)):VecList m bound exact L:=by
 refine ⟨hw,fun x=>?_⟩
 rw [hp.mem_iff,List.mem_map]
 constructor
 ·rintro ⟨y,hy,rfl⟩
  obtain ⟨h1,h2,h3,h4⟩:=(mem_coll hr hb exact y).1 hy
  rw [nrm_canon,canonL_length]
  exact ⟨h1,canon_first y (fun e=>lastPos_ne h2 (firstNZ_zero e)),h3,h4⟩
 ·rintro ⟨h1,h2,h3,h4⟩
  have hne:¬∀y∈x,y=0:=fun hz=>by
   have :firstNZ x=0:=by
    clear h1 h2 h3 h4
    induction x with
    |nil=>rfl
    |cons a x ih=>
     have ha:=hz a (by simp)
     simp only [firstNZ,ha,if_true]
     exact ih (fun y hy=>hz y (by simp [hy]))
   omega
  rcases lastPos_or hne with h5 |h5
  ·refine ⟨x,(mem_coll hr hb exact x).2 ⟨h1,h5,h3,h4⟩,?_⟩
   unfold canonL
   rw [if_neg (by omega)]
  ·refine ⟨x.map fun c=>-c,(mem_coll hr hb exact _).2 ⟨by simpa using h1,h5,by rw [nrm_neg];exact h3,by rw [nrm_neg];exact h4⟩,?_⟩
   unfold canonL
   rw [firstNZ_neg,if_pos (by omega),neg_neg_map]
theorem cmpK_anti (m:List (List Int)) (x y:List Int) (h:cmpK (nrm m x) (nrm m y) x y<0):¬cmpK (nrm m y) (nrm m x) y x<0:=by
 rw [cmpK_lex] at h |-
 rw [lexI_anti]
 omega
theorem VecList.nodup {m:List (List Int)} {bound:Int} {exact:Bool} {L:List (List Int)} (h:VecList m bound exact L):L.Nodup:=by
 refine List.Pairwise.imp ?_ h.sorted
 intro a b hab e
 subst e
 exact cmpK_anti m a a hab hab
def totY:List (Int×Int)->Int
 |[]=>0
 |p::ys=>p.2+totY ys
def atY:List (Int×Int)->Nat->Int
 |[],_=>0
 |p::ys,i=>(if (p.1-1).toNat=i then p.2 else 0)+atY ys i
theorem totY_append (a b:List (Int×Int)):totY (a++b)=totY a+totY b:=by
 induction a with
 |nil=>simp [totY]
 |cons p a ih=>simp only [List.cons_append,totY,ih];omega
theorem atY_append (a b:List (Int×Int)) (i:Nat):atY (a++b) i=atY a i+atY b i:=by
 induction a with
 |nil=>simp [atY]
 |cons p a ih=>simp only [List.cons_append,atY,ih];omega
theorem totY_flat (F:Nat->List (Int×Int)) (l:List Nat):totY (l.flatMap F)=(l.map fun j=>totY (F j)).sum:=by
 induction l with
 |nil=>rfl
 |cons j l ih=>simp only [List.flatMap_cons,totY_append,ih,List.map_cons,List.sum_cons]
theorem atY_flat (F:Nat->List (Int×Int)) (i:Nat) (l:List Nat):atY (l.flatMap F) i=(l.map fun j=>atY (F j) i).sum:=by
 induction l with
 |nil=>rfl
 |cons j l ih=>simp only [List.flatMap_cons,atY_append,ih,List.map_cons,List.sum_cons]
theorem sum_le_of {l:List Nat} {g:Nat->Int} {B:Int} (h:∀j∈l,g j<=B):(l.map g).sum<=(l.length:Int)*B:=by
 induction l with
 |nil=>simp
 |cons j l ih=>
  have h1:=ih (fun x hx=>h x (by simp [hx]))
  have h2:=h j (by simp)
  simp only [List.map_cons,List.sum_cons,List.length_cons,Int.natCast_add,Int.add_mul]
  omega
theorem sum_nonneg_of {l:List Nat} {g:Nat->Int} (h:∀j∈l,0<=g j):0<=(l.map g).sum:=by
 induction l with
 |nil=>simp
 |cons j l ih=>
  have h1:=ih (fun x hx=>h x (by simp [hx]))
  have h2:=h j (by simp)
  simp only [List.map_cons,List.sum_cons];omega
theorem sum_ge_one {l:List Nat} {g:Nat->Int} (h:∀j∈l,0<=g j) {a:Nat} (ha:a∈l):g a<=(l.map g).sum:=by
 induction l with
 |nil=>simp at ha
 |cons j l ih=>
  have h0:=sum_nonneg_of (fun x hx=>h x (List.mem_cons_of_mem j hx))
  have h2:=h j (by simp)
  simp only [List.map_cons,List.sum_cons]
  rcases List.mem_cons.1 ha with rfl |ha
  ·omega
  ·have :=ih (fun x hx=>h x (by simp [hx])) ha
   omega
theorem stepsGo_eq (n:Nat) (ys:List (Int×Int)):∀(left:Int) (st:List Int),(∀p∈ys,0<=p.2/\1<=p.1/\p.1<=n)->0<=left->st.length=n->
  stepsGo ys left st=if totY ys<=left then some (left-totY ys,(List.range n).map fun i=>st.getD i 0+atY ys i) else none:=by
 induction ys with
 |nil=>
  intro left st _ h0 hl
  rw [if_pos (show totY []<=left from h0)]
  have e1:left-totY []=left:=by simp only [totY];omega
  have e2:(List.range n).map (fun i=>st.getD i 0+atY [] i)=st:=by
   refine List.ext_getElem (by simp [hl]) fun i h1 h2=>?_
   simp [List.getD,h2,atY]
  rw [e1,e2]
  rfl
 |cons p ys ih=>
  obtain ⟨len,cnt⟩:=p
  intro left st hp h0 hl
  have hp0:=hp (len,cnt) (by simp)
  simp only at hp0
  have htot:0<=totY ys:=by
   have :∀l:List (Int×Int),(∀p∈l,0<=p.2)->0<=totY l:=fun l hh=>by
    induction l with
    |nil=>simp [totY]
    |cons q l ih2=>have a:=ih2 (fun p hp=>hh p (by simp [hp]));have b:=hh q (by simp);simp only [totY];omega
   exact this ys (fun p hp'=>(hp p (by simp [hp'])).1)
  have htc:totY ((len,cnt)::ys)=cnt+totY ys:=rfl
  simp only [stepsGo]
  split
  ·rw [if_neg (by omega)]
  ·rw [ih (left-cnt) _ (fun p hp'=>hp p (by simp [hp'])) (by omega) (by simpa using hl)]
   by_cases h:totY ys<=left-cnt
   ·rw [if_pos h,if_pos (by omega)]
    have e1:left-cnt-totY ys=left-totY ((len,cnt)::ys):=by omega
    rw [e1]
    congr 2
    ·refine List.map_congr_left fun i hi=>?_
     have hi':i<n:=by simpa using hi
     simp only [atY,List.getD_eq_getElem?_getD,List.getElem?_set]
     by_cases e:(len-1).toNat=i
     ·rw [if_pos e,if_pos (by omega)]
      simp [e];omega
     ·rw [if_neg e,if_neg e];omega
   ·rw [if_neg h,if_neg (by omega)]
section
variable {m:List (List Int)} {bound:Int}
theorem top_nonneg (hr:RedOK m) (hb:0<=bound):0<=left (ent m) bound (m.length-1+1) []:=by
 have hl:=isSmallB_len hr.small
 rw [show m.length-1+1=m.length by omega,left_top]
 exact Int.mul_nonneg (Int.le_of_lt (lastE_pos hr.pos (Nat.le_refl _))) hb
theorem top_eq (hr:RedOK m):vD (minorsTo m m.length) m.length*bound=left (ent m) bound (m.length-1+1) []:=by
 have hl:=isSmallB_len hr.small
 rw [show m.length-1+1=m.length by omega,left_top,minorsTo_get (Nat.le_refl _)]
theorem kid (hr:RedOK m) {k:Nat} (t:List Int) (hk:k<m.length) (ht:t.length=m.length-1-k) (h0:0<=left (ent m) bound (k+1) t) {j:Nat} (hj:j<(vCnt (minorsTo m m.length) (lamTo m m.length) k (left (ent m) bound (k+1) t) t).toNat):
  0<=left (ent m) bound k ((vLo (minorsTo m m.length) (lamTo m m.length) k (left (ent m) bound (k+1) t) t+(j:Int))::t):=by
 refine (inv_iff hr hk t ht h0 _).1 ?_
 unfold vCnt at hj
 omega
theorem visit_ok (hr:RedOK m) (hb:0<=bound) (hb1:bound<1073741824) (k:Nat):∀t:List Int,k<m.length->t.length=m.length-1-k->0<=left (ent m) bound (k+1) t->
  ∀p∈visitY (minorsTo m m.length) (lamTo m m.length) m.length k (left (ent m) bound (k+1) t) t,0<=p.2/\1<=p.1/\p.1<=(m.length:Int):=by
 induction k with
 |zero=>
  intro t hk ht h0 p hp
  simp only [visitY,List.mem_singleton] at hp
  subst hp
  have :=vCnt_bounds (hr.num hb hb1) (lev_of hr hb hb1 t 0 hk ht h0)
  simp only
  omega
 |succ k ih=>
  intro t hk ht h0 p hp
  simp only [visitY,List.mem_cons,List.mem_flatMap,List.mem_range] at hp
  rcases hp with rfl |⟨j,hj,hp⟩
  ·have :=vCnt_bounds (hr.num hb hb1) (lev_of hr hb hb1 t (k+1) hk ht h0)
   simp only
   omega
  ·have hk0:=kid hr t hk ht h0 hj
   rw [vRest_eq hr hk bound t ht] at hp
   exact ih _ (by omega) (by simp [ht];omega) hk0 p hp
theorem atY_nonneg {ys:List (Int×Int)} (h:∀p∈ys,0<=p.2) (i:Nat):0<=atY ys i:=by
 induction ys with
 |nil=>simp [atY]
 |cons p ys ih=>
  have a:=ih (fun q hq=>h q (by simp [hq]))
  have b:=h p (by simp)
  simp only [atY]
  split<;>omega
theorem visit_full (hr:RedOK m) (hb:0<=bound) (hb1:bound<1073741824) (k:Nat):∀t:List Int,k<m.length->t.length=m.length-1-k->0<=left (ent m) bound (k+1) t->
  atY (visitY (minorsTo m m.length) (lamTo m m.length) m.length k (left (ent m) bound (k+1) t) t) (m.length-1)=((searchL (minorsTo m m.length) (lamTo m m.length) false k (left (ent m) bound (k+1) t) false t).length:Int):=by
 induction k with
 |zero=>
  intro t hk ht h0
  have :=vCnt_bounds (hr.num hb hb1) (lev_of hr hb hb1 t 0 hk ht h0)
  simp only [visitY,atY,searchL,takes,Bool.false_and,Bool.not_false,Bool.and_self,if_true,List.length_flatMap]
  rw [if_pos (by omega)]
  have e:sCnt (minorsTo m m.length) (lamTo m m.length) 0 (left (ent m) bound (0+1) t) false t=(vCnt (minorsTo m m.length) (lamTo m m.length) 0 (left (ent m) bound (0+1) t) t).toNat:=by simp [sCnt,sLo,vCnt]
  rw [e]
  simp only [List.length_cons,List.length_nil]
  rw [List.map_const',List.sum_replicate_nat]
  simp only [Nat.zero_add] at this
  simp
  omega
 |succ k ih=>
  intro t hk ht h0
  have e:sCnt (minorsTo m m.length) (lamTo m m.length) (k+1) (left (ent m) bound (k+1+1) t) false t=(vCnt (minorsTo m m.length) (lamTo m m.length) (k+1) (left (ent m) bound (k+1+1) t) t).toNat:=by simp [sCnt,sLo,vCnt]
  have e2:sLo (minorsTo m m.length) (lamTo m m.length) (k+1) (left (ent m) bound (k+1+1) t) false t=vLo (minorsTo m m.length) (lamTo m m.length) (k+1) (left (ent m) bound (k+1+1) t) t:=by simp [sLo]
  simp only [visitY,atY,searchL,Bool.false_and]
  rw [if_neg (by omega),atY_flat,e,e2]
  have key:∀l:List Nat,(∀j∈l,j<(vCnt (minorsTo m m.length) (lamTo m m.length) (k+1) (left (ent m) bound (k+1+1) t) t).toNat)->
    (l.map fun j:Nat=>atY (visitY (minorsTo m m.length) (lamTo m m.length) m.length k (vRest (minorsTo m m.length) (lamTo m m.length) (k+1) (left (ent m) bound (k+1+1) t) t (vLo (minorsTo m m.length) (lamTo m m.length) (k+1) (left (ent m) bound (k+1+1) t) t+(j:Int))) ((vLo (minorsTo m m.length) (lamTo m m.length) (k+1) (left (ent m) bound (k+1+1) t) t+(j:Int))::t)) (m.length-1)).sum=
    ((l.flatMap fun j:Nat=>searchL (minorsTo m m.length) (lamTo m m.length) false k (vRest (minorsTo m m.length) (lamTo m m.length) (k+1) (left (ent m) bound (k+1+1) t) t (vLo (minorsTo m m.length) (lamTo m m.length) (k+1) (left (ent m) bound (k+1+1) t) t+(j:Int))) false ((vLo (minorsTo m m.length) (lamTo m m.length) (k+1) (left (ent m) bound (k+1+1) t) t+(j:Int))::t)).length:Int):=by
   intro l
   induction l with
   |nil=>intro _;rfl
   |cons j l ihl=>
    intro hl
    have hk0:=kid hr t hk ht h0 (hl j (by simp))
    simp only [List.map_cons,List.sum_cons,List.flatMap_cons,List.length_append,Int.natCast_add]
    rw [ihl (fun x hx=>hl x (by simp [hx])),vRest_eq hr hk bound t ht,ih _ (by omega) (by simp [ht];omega) hk0]
  rw [key _ (fun j hj=>by simpa using hj)]
  omega
theorem visit_one (hr:RedOK m) (hb:0<=bound) (hb1:bound<1073741824) (k:Nat):∀t:List Int,k<m.length->t.length=m.length-1-k->(∀x∈t,x=0)->∀i,m.length-1-k<=i->i<m.length->
  1<=atY (visitY (minorsTo m m.length) (lamTo m m.length) m.length k (left (ent m) bound (k+1) t) t) i:=by
 have hcnt:∀(k:Nat) (t:List Int),k<m.length->t.length=m.length-1-k->(∀x∈t,x=0)->vLo (minorsTo m m.length) (lamTo m m.length) k (left (ent m) bound (k+1) t) t<=0/\0<=vHi (minorsTo m m.length) (lamTo m m.length) k (left (ent m) bound (k+1) t) t:=fun k t hk ht hz=>
  (inv_iff hr hk t ht (left_zeros hr hb (by omega) t hz) 0).2 (left_zeros hr hb (by omega) (0::t) (fun x hx=>by
   rcases List.mem_cons.1 hx with rfl |hx
   ·rfl
   ·exact hz x hx))
 induction k with
 |zero=>
  intro t hk ht hz i h1 h2
  have :=hcnt 0 t hk ht hz
  simp only [visitY,atY]
  rw [if_pos (by omega)]
  unfold vCnt
  omega
 |succ k ih=>
  intro t hk ht hz i h1 h2
  have h0:=left_zeros hr hb (by omega:k+1+1<=m.length) t hz
  have hc:=hcnt (k+1) t hk ht hz
  have hok:=visit_ok hr hb hb1 (k+1) t hk ht h0
  simp only [visitY,atY] at hok |-
  rw [atY_flat]
  have hnn:∀j∈List.range (vCnt (minorsTo m m.length) (lamTo m m.length) (k+1) (left (ent m) bound (k+1+1) t) t).toNat,0<=atY (visitY (minorsTo m m.length) (lamTo m m.length) m.length k (vRest (minorsTo m m.length) (lamTo m m.length) (k+1) (left (ent m) bound (k+1+1) t) t (vLo (minorsTo m m.length) (lamTo m m.length) (k+1) (left (ent m) bound (k+1+1) t) t+(j:Int))) ((vLo (minorsTo m m.length) (lamTo m m.length) (k+1) (left (ent m) bound (k+1+1) t) t+(j:Int))::t)) i:=fun j hj=>
   atY_nonneg (fun p hp=>(hok p (List.mem_cons_of_mem _ (List.mem_flatMap.2 ⟨j,hj,hp⟩))).1) i
  by_cases e:i=m.length-1-(k+1)
  ·rw [if_pos (by omega)]
   have :=sum_nonneg_of hnn
   unfold vCnt at this |-
   omega
  ·rw [if_neg (by omega)]
   obtain ⟨j,hj⟩:∃j:Nat,vLo (minorsTo m m.length) (lamTo m m.length) (k+1) (left (ent m) bound (k+1+1) t) t+(j:Int)=0:=⟨(-vLo (minorsTo m m.length) (lamTo m m.length) (k+1) (left (ent m) bound (k+1+1) t) t).toNat,by omega⟩
   have h3:=sum_ge_one hnn (a:=j) (by simp only [List.mem_range];unfold vCnt;omega)
   rw [hj,vRest_eq hr hk bound t ht] at h3
   have h4:=ih (0::t) (by omega) (by simp [ht];omega) (fun x hx=>by
    rcases List.mem_cons.1 hx with rfl |hx
    ·rfl
    ·exact hz x hx) i (by omega) h2
   omega
/-! ## How many -/
theorem half_minor (hr:RedOK m) (k:Nat):k<m.length->lastE (ent m) k<=2^k*lastE (ent m) (k+1):=by
 induction k with
 |zero=>
  intro hk
  have :=lastE_pos hr.pos (by omega:0+1<=m.length)
  show (1:Int)<=1*lastE (ent m) (0+1)
  omega
 |succ k ih=>
  intro hk
  have h1:=ih (by omega)
  have hL:=hr.lov k hk
  have hs:=(of_decide_eq_true (hr.short k hk)).2.2 1 (by rw [stAt_length];omega) (by omega)
  have e1:ent (stAt m k).2 1 0=E (ent m) k (k+1) k:=st_ent (i:=1) (j:=0) (by omega) (by omega)
  have e2:ent (stAt m k).2 0 0=E (ent m) k k k:=st_ent (i:=0) (j:=0) (by omega) (by omega)
  rw [e1,e2] at hs
  have p0:=lastE_pos hr.pos (by omega:k<=m.length)
  have p1:0<E (ent m) k k k:=lastE_pos hr.pos (by omega:k+1<=m.length)
  have p2:0<E (ent m) (k+1) (k+1) (k+1):=lastE_pos hr.pos (by omega:k+1+1<=m.length)
  have h1':lastE (ent m) k<=2^k*E (ent m) k k k:=h1
  show E (ent m) k k k<=2^(k+1)*E (ent m) (k+1) (k+1) (k+1)
  obtain ⟨x,hx⟩:∃x,E (ent m) k k k=x:=⟨_,rfl⟩
  obtain ⟨y,hy⟩:∃y,E (ent m) k (k+1) k=y:=⟨_,rfl⟩
  obtain ⟨u,hu⟩:∃u,lastE (ent m) k=u:=⟨_,rfl⟩
  obtain ⟨v,hv⟩:∃v,E (ent m) (k+1) (k+1) (k+1)=v:=⟨_,rfl⟩
  rw [hx,hy,hu,hv] at hL
  rw [hx,hy] at hs
  rw [hx] at p1 h1' |-
  rw [hu] at p0 h1'
  rw [hv] at p2 |-
  have q:=Int.mul_nonneg (show 0<=x-2*y by omega) (show 0<=x+2*y by omega)
  have q2:(x-2*y)*(x+2*y)=x*x-4*(y*y):=by grind
  rw [q2] at q
  have q3:x*x<=2*(u*v):=by grind
  have q4:u*v<=2^k*x*v:=Int.mul_le_mul_of_nonneg_right h1' (by omega)
  have q5:x*x<=x*(2^(k+1)*v):=by
   have :x*(2^(k+1)*v)=2*(2^k*x*v):=by rw [Int.pow_succ];grind
   omega
  exact Int.le_of_mul_le_mul_left q5 p1
theorem cnt_sq (hr:RedOK m) (hb:0<=bound) (hb1:bound<1073741824) {k:Nat} (t:List Int) (hk:k<m.length) (ht:t.length=m.length-1-k) (h0:0<=left (ent m) bound (k+1) t) {c:Int} (hc:1<=c) (h:c<=vCnt (minorsTo m m.length) (lamTo m m.length) k (left (ent m) bound (k+1) t) t):(c-1)*(c-1)<=4*(2^k*bound):=by
 have hN:=hr.num hb hb1
 have hlev:=lev_of hr hb hb1 t k hk ht h0
 obtain ⟨r0,_,r2⟩:=vR_bounds hN hlev
 have r1:=hlev.r1
 have hd:=lastE_pos hr.pos (by omega:k+1<=m.length)
 have hd0:=lastE_pos hr.pos (by omega:k<=m.length)
 unfold vCnt vHi vLo at h
 unfold vSq at r2
 rw [minorsTo_get (by omega)] at h r1 r2
 obtain ⟨d,hd'⟩:∃d,d=lastE (ent m) (k+1):=⟨_,rfl⟩
 obtain ⟨e,he⟩:∃e,e=lastE (ent m) k:=⟨_,rfl⟩
 obtain ⟨r,hr'⟩:∃r,r=vR (minorsTo m m.length) k (left (ent m) bound (k+1) t):=⟨_,rfl⟩
 obtain ⟨s,hs⟩:∃s,s=vSh (lamTo m m.length) k t:=⟨_,rfl⟩
 obtain ⟨R,hR⟩:∃R,R=left (ent m) bound (k+1) t:=⟨_,rfl⟩
 have hh:=half_minor hr k hk
 rw [<-hd',<-he] at hh
 rw [<-hd'] at hd h r1
 rw [<-he] at hd0 r2
 rw [<-hR] at r0 r1 r2 h0 hr'
 rw [<-hR,<-hr',<-hs] at h
 rw [<-hr'] at r0 r2
 have a1:=Int.mul_ediv_self_le (x:=r+s) (k:=d) (by omega)
 have a2:=Int.mul_ediv_self_le (x:=r-s) (k:=d) (by omega)
 -- d (c - 1) <= 2 r
 have b1:d*(c-1)<=2*r:=by
  have :d*(c-1)<=d*((r+s) / d+(r-s) / d):=Int.mul_le_mul_of_nonneg_left (by omega) (by omega)
  rw [Int.mul_add] at this
  omega
 have b0:0<=d*(c-1):=Int.mul_nonneg (by omega) (by omega)
 have b2:d*(c-1)*(d*(c-1))<=2*r*(2*r):=Int.mul_le_mul b1 b1 b0 (by omega)
 have b3:e*R<=e*(d*bound):=Int.mul_le_mul_of_nonneg_left r1 (by omega)
 have b4:e*(d*bound)<=2^k*d*(d*bound):=Int.mul_le_mul_of_nonneg_right hh (Int.mul_nonneg (by omega) hb)
 have b5:(d*d)*((c-1)*(c-1))<=(d*d)*(4*(2^k*bound)):=by
  have c1:d*(c-1)*(d*(c-1))=(d*d)*((c-1)*(c-1)):=by grind
  have c2:2^k*d*(d*bound)=(d*d)*(2^k*bound):=by grind
  have c3:2*r*(2*r)=4*(r*r):=by grind
  rw [c1,c3] at b2
  rw [c2] at b4
  have c4:(d*d)*(4*(2^k*bound))=4*((d*d)*(2^k*bound)):=by grind
  omega
 exact Int.le_of_mul_le_mul_left b5 (Int.mul_pos hd hd)
def capT (b:Nat):Nat->Nat
 |0=>isq (4*b)+1
 |k+1=>(isq (4*(2^(k+1)*b))+1)*(1+capT b k)
theorem cnt_cap (hr:RedOK m) {b:Nat} (hb1:(b:Int)<1073741824) {k:Nat} (t:List Int) (hk:k<m.length) (ht:t.length=m.length-1-k) (h0:0<=left (ent m) b (k+1) t):vCnt (minorsTo m m.length) (lamTo m m.length) k (left (ent m) b (k+1) t) t<=(isq (4*(2^k*b))+1:Nat):=by
 rcases Int.lt_or_le (vCnt (minorsTo m m.length) (lamTo m m.length) k (left (ent m) b (k+1) t) t) 1 with h |h
 ·omega
 ·have h1:=cnt_sq hr (by omega) hb1 t hk ht h0 h (Int.le_refl _)
  obtain ⟨c,hc⟩:∃c:Nat,vCnt (minorsTo m m.length) (lamTo m m.length) k (left (ent m) b (k+1) t) t-1=(c:Int):=⟨(vCnt (minorsTo m m.length) (lamTo m m.length) k (left (ent m) b (k+1) t) t-1).toNat,by omega⟩
  rw [hc] at h1
  have h2:c*c<=4*(2^k*b):=by
   have :((c*c:Nat):Int)<=((4*(2^k*b):Nat):Int):=by simpa using h1
   exact Int.ofNat_le.1 this
  have h3:=(isq_spec (4*(2^k*b))).2
  have h4:=sq_lt_of (Nat.lt_of_le_of_lt h2 h3)
  omega
theorem tot_cap (hr:RedOK m) {b:Nat} (hb1:(b:Int)<1073741824) (k:Nat):∀t:List Int,k<m.length->t.length=m.length-1-k->0<=left (ent m) b (k+1) t->totY (visitY (minorsTo m m.length) (lamTo m m.length) m.length k (left (ent m) b (k+1) t) t)<=(capT b k:Nat):=by
 induction k with
 |zero=>
  intro t hk ht h0
  have :=cnt_cap hr hb1 t hk ht h0
  simp only [visitY,totY,capT]
  simp only [Nat.pow_zero,Nat.one_mul] at this
  omega
 |succ k ih=>
  intro t hk ht h0
  have h1:=cnt_cap hr hb1 t hk ht h0
  have h2:=vCnt_bounds (hr.num (by omega) hb1) (lev_of hr (by omega) hb1 t (k+1) hk ht h0)
  simp only [visitY,totY,capT]
  rw [totY_flat]
  have h3:=sum_le_of (l:=List.range (vCnt (minorsTo m m.length) (lamTo m m.length) (k+1) (left (ent m) b (k+1+1) t) t).toNat) (B:=((capT b k:Nat):Int))
   (g:=fun j=>totY (visitY (minorsTo m m.length) (lamTo m m.length) m.length k (vRest (minorsTo m m.length) (lamTo m m.length) (k+1) (left (ent m) b (k+1+1) t) t (vLo (minorsTo m m.length) (lamTo m m.length) (k+1) (left (ent m) b (k+1+1) t) t+(j:Int))) ((vLo (minorsTo m m.length) (lamTo m m.length) (k+1) (left (ent m) b (k+1+1) t) t+(j:Int))::t)))
   (fun j hj=>by
    have hk0:=kid hr t hk ht h0 (j:=j) (by simpa using hj)
    rw [vRest_eq hr hk b t ht]
    exact ih _ (by omega) (by simp [ht];omega) hk0)
  simp only [List.length_range] at h3
  obtain ⟨c,hc⟩:∃c:Nat,vCnt (minorsTo m m.length) (lamTo m m.length) (k+1) (left (ent m) b (k+1+1) t) t=(c:Int):=⟨(vCnt (minorsTo m m.length) (lamTo m m.length) (k+1) (left (ent m) b (k+1+1) t) t).toNat,by omega⟩
  rw [hc] at h1 h3 |-
  simp only [Int.toNat_natCast] at h3 |-
  have h5:c*(1+capT b k)<=(isq (4*(2^(k+1)*b))+1)*(1+capT b k):=Nat.mul_le_mul_right _ (by omega)
  have h6:((c*(1+capT b k):Nat):Int)<=(((isq (4*(2^(k+1)*b))+1)*(1+capT b k):Nat):Int):=Int.ofNat_le.2 h5
  have h7:((c*(1+capT b k):Nat):Int)=(c:Int)+(c:Int)*(capT b k:Nat):=by rw [Nat.mul_add];simp
  omega
end
end Go.Proofs.YtcmkopogafchiaaGreat
