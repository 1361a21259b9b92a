/- Is1 Is2 Is3 Io1 Io2 Io3 Io4 -/
import Derived.Test.YtpcgfpmiphiacaaGreatQ16
import Derived.Test.YtpcgfpmiphiacaaGreatProg
import Derived.Test.YtpcgfpmiphiacaaGreatShelf
import Derived.Test.YtpcgfpmiphiacaaGreatRows
import Derived.Test.YtpcgfpmiphiacaaGreatShelfC
import Derived.Laws.Bits64
import Derived.Test.YtpcgfpmiphiacaaGreatShelfI
import Derived.Shelf.SlSortCmp.NoneTotal
import Derived.Shelf.SlCmpFuncs.BinarySearchFunc
set_option maxHeartbeats 8000000
set_option linter.unusedVariables false
set_option linter.unusedSimpArgs false
set_option linter.constructorNameAsVariable false
namespace Go.Proofs.YtpcgfpmiphiacaaGreat
open La
def lcL (n:Nat) (t:List (List Int)) (x:List Int):List Int:=(List.range n).map fun k=>sumR n fun j=>x.getD j 0*(t.getD j []).getD k 0
theorem lcL_len (n:Nat) (t:List (List Int)) (x:List Int):(lcL n t x).length=n:=by simp [lcL]
theorem getD_off {l:List Int} {k:Nat} (h:l.length<=k):l.getD k 0=0:=by simp [List.getD_eq_getElem?_getD,List.getElem?_eq_none h]
theorem lcL_get {n:Nat} (t:List (List Int)) (x:List Int) {k:Nat} (hk:k<n):(lcL n t x).getD k 0=sumR n fun j=>x.getD j 0*(t.getD j []).getD k 0:=by simp [lcL,hk]
theorem ipR_lc {m:List (List Int)} {n:Nat} (hn:m.length=n) (t:List (List Int)) (x y:List Int):ipR m (lcL n t x) y=sumR n fun j=>x.getD j 0*ipR m (t.getD j []) y:=by
 unfold ipR
 rw [hn]
 have h:∀Y:Nat->Int,(sumR n fun i=>(lcL n t x).getD i 0*Y i)=sumR n fun j=>x.getD j 0*sumR n fun i=>(t.getD j []).getD i 0*Y i:=fun Y=>by
  have e:(sumR n fun i=>(lcL n t x).getD i 0*Y i)=sumR n fun i=>sumR n fun j=>x.getD j 0*((t.getD j []).getD i 0*Y i):=sumR_congr fun i hi=>by
   rw [lcL_get t x hi,Int.mul_comm,<-sumR_mul]
   exact sumR_congr fun j _=>by rw [Int.mul_comm,Int.mul_assoc]
  rw [e,sumR_swap]
  exact sumR_congr fun j _=>sumR_mul _ _ _
 exact h _
structure IsoC (a b t:List (List Int)):Prop where
 len:t.length=a.length
 dim:b.length=a.length
 row:∀x∈t,x.length=a.length
 ip:∀i j,i<a.length->j<a.length->ipR a (t.getD i []) (t.getD j [])=ent b i j
theorem RedOK.sym {m:List (List Int)} (h:RedOK m):∀i j,i<m.length->j<m.length->ent m i j=ent m j i:=fun i j hi hj=>((of_decide_eq_true h.small).2.2.2 i hi j hj).1
theorem IsoC.lc {a b t:List (List Int)} (h:IsoC a b t) (ha:RedOK a) (x y:List Int):ipR a (lcL a.length t x) (lcL a.length t y)=ipR b x y:=by
 rw [ipR_lc rfl]
 show _=sumR b.length fun i=>x.getD i 0*sumR b.length fun j=>ent b i j*y.getD j 0
 rw [h.dim]
 refine sumR_congr fun i hi=>?_
 rw [ipR_comm ha.sym,ipR_lc rfl]
 congr 1
 exact sumR_congr fun j hj=>by rw [ipR_comm ha.sym,h.ip i j hi hj,Int.mul_comm]
theorem IsoC.nm {a b t:List (List Int)} (h:IsoC a b t) (ha:RedOK a) (hb:RedOK b) {x:List Int} (hx:x.length=a.length):nrm a (lcL a.length t x)=nrm b x:=by
 rw [<-ipR_nrm (isSmallB_all ha.small) _ (lcL_len _ _ _),h.lc ha,ipR_nrm (isSmallB_all hb.small) x (by rw [hx,h.dim])]
def unL (n k:Nat):List Int:=(List.replicate n 0).set k 1
theorem unL_len (n k:Nat):(unL n k).length=n:=by simp [unL]
theorem unL_get {n k j:Nat} (hk:k<n):(unL n k).getD j 0=if j=k then 1 else 0:=by
 unfold unL
 rw [List.getD_eq_getElem?_getD,List.getElem?_set]
 by_cases h:j=k
 ·subst h;simp [hk]
 ·rw [if_neg (fun e=>h e.symm),if_neg h]
  by_cases hj:j<n<;>simp [hj]
theorem lc_unit {n k:Nat} {t:List (List Int)} (hk:k<n) (ht:(t.getD k []).length=n):lcL n t (unL n k)=t.getD k []:=by
 refine getD_ext (by rw [lcL_len,ht]) fun i=>?_
 by_cases hi:i<n
 ·rw [lcL_get _ _ hi,sumR_one hk (fun j _ hne=>by rw [unL_get hk,if_neg hne,Int.zero_mul]),unL_get hk,if_pos rfl,Int.one_mul]
 ·rw [getD_off (by rw [lcL_len];omega),getD_off (by omega)]
theorem ipR_unit {m:List (List Int)} {i j:Nat} (hi:i<m.length) (hj:j<m.length):ipR m (unL m.length i) (unL m.length j)=ent m i j:=by
 unfold ipR
 rw [sumR_one hi (fun k _ hne=>by rw [unL_get hi,if_neg hne,Int.zero_mul]),unL_get hi,if_pos rfl,Int.one_mul,sumR_one hj (fun k _ hne=>by rw [unL_get hj,if_neg hne,Int.mul_zero]),unL_get hj,if_pos rfl,Int.mul_one]
theorem lc_sum (n:Nat) (t:List (List Int)) {x y:List Int} (s:Int) (hx:x.length=n):lcL n t (sumV x s y)=sumV (lcL n t x) s (lcL n t y):=by
 refine getD_ext (by rw [lcL_len,sumV_len,lcL_len]) fun k=>?_
 by_cases hk:k<n
 ·rw [lcL_get _ _ hk,sumV_get (by rw [lcL_len];exact hk),lcL_get _ _ hk,lcL_get _ _ hk,<-sumR_mul,<-sumR_add]
  exact sumR_congr fun j hj=>by rw [sumV_get (by omega),Int.add_mul,Int.mul_assoc]
 ·rw [getD_off (by rw [lcL_len];omega),getD_off (by rw [sumV_len,lcL_len];omega)]
theorem firstNZ_of {x:List Int} (h:∀y∈x,y=0):firstNZ x=0:=by
 induction x with
 |nil=>rfl
 |cons a l ih=>
  have :=h a (by simp)
  subst this
  exact ih fun y hy=>h y (by simp [hy])
theorem nrm_zero {m:List (List Int)} (hm:AllLen m m.length) {x:List Int} (hx:x.length=m.length) (h:firstNZ x=0):nrm m x=0:=by
 rw [<-ipR_nrm hm x hx]
 refine sumR_zero fun i hi=>?_
 have :x.getD i 0=0:=by
  rw [List.getD_eq_getElem?_getD,List.getElem?_eq_getElem (by omega)]
  exact firstNZ_zero h _ (List.getElem_mem _)
 rw [this,Int.zero_mul]
theorem IsoC.first {a b t:List (List Int)} (h:IsoC a b t) (ha:RedOK a) (hb:RedOK b) {x:List Int} (hx:x.length=a.length) (h0:firstNZ x≠0):firstNZ (lcL a.length t x)≠0:=fun e=>by
 have h1:=h.nm ha hb hx
 rw [nrm_zero (isSmallB_all ha.small) (lcL_len _ _ _) e] at h1
 have :=nrm_pos hb (x:=x) (by rw [hx,h.dim]) h0
 omega
theorem IsoC.inj {a b t:List (List Int)} (h:IsoC a b t) (ha:RedOK a) (hb:RedOK b) {x y:List Int} (hx:x.length=a.length) (hy:y.length=a.length) (he:lcL a.length t x=lcL a.length t y):x=y:=by
 have h1:=lc_sum a.length t (y:=y) (-1) hx
 have h2:firstNZ (lcL a.length t (sumV x (-1) y))=0:=by
  rw [h1,he]
  refine firstNZ_of fun z hz=>?_
  obtain ⟨i,hi,rfl⟩:=List.getElem_of_mem hz
  rw [sumV_len] at hi
  have :=sumV_get (x:=lcL a.length t y) (s:=-1) (y:=lcL a.length t y) hi
  rw [List.getD_eq_getElem?_getD,List.getElem?_eq_getElem (by rw [sumV_len];exact hi)] at this
  simp only [Option.getD_some] at this
  rw [this];omega
 have h3:firstNZ (sumV x (-1) y)=0:=by
  rcases Int.decEq (firstNZ (sumV x (-1) y)) 0 with hne |he
  ·exact absurd h2 (h.first ha hb (by rw [sumV_len,hx]) hne)
  ·exact he
 refine getD_ext (by rw [hx,hy]) fun k=>?_
 by_cases hk:k<x.length
 ·have e:=sumV_get (s:=-1) (y:=y) hk
  have :(sumV x (-1) y).getD k 0=0:=by
   rw [List.getD_eq_getElem?_getD,List.getElem?_eq_getElem (by rw [sumV_len];exact hk)]
   exact firstNZ_zero h3 _ (List.getElem_mem _)
  omega
 ·rw [getD_off (by omega),getD_off (by omega)]
/-! ## All vectors up to a norm, both signs -/
structure PtsOf (m:List (List Int)) (q:Int) (P:List (List Int)):Prop where
 sorted:P.Pairwise (fun x y=>lexI x y<0)
 mem:∀x,x∈P↔x.length=m.length/\firstNZ x≠0/\nrm m x<=q
theorem lex_nodup {P:List (List Int)} (h:P.Pairwise (fun x y=>lexI x y<0)):P.Nodup:=h.imp fun hxy e=>by
 subst e
 rw [lexI_self] at hxy
 omega
theorem lex_asymm {x y:List Int} (h:lexI x y<0) (h':lexI y x<0):False:=by
 have :=lexI_anti x y
 omega
theorem lex_uniq:∀{P Q:List (List Int)},P.Pairwise (fun x y=>lexI x y<0)->Q.Pairwise (fun x y=>lexI x y<0)->(∀x,x∈P↔x∈Q)->P=Q
 |[],[],_,_,_=>rfl
 |[],y::Q,_,_,h=>absurd ((h y).2 (by simp)) (by simp)
 |x::P,[],_,_,h=>absurd ((h x).1 (by simp)) (by simp)
 |x::P,y::Q,hP,hQ,h=>by
  have hP':=List.pairwise_cons.1 hP
  have hQ':=List.pairwise_cons.1 hQ
  have e:x=y:=by
   rcases List.mem_cons.1 ((h x).1 (by simp)) with h1 |h1
   ·exact h1
   ·rcases List.mem_cons.1 ((h y).2 (by simp)) with h2 |h2
    ·exact h2.symm
    ·exact (lex_asymm (hP'.1 y h2) (hQ'.1 x h1)).elim
  subst e
  have hx1:x∉P:=fun hm=>by have :=hP'.1 x hm;rw [lexI_self] at this;omega
  have hx2:x∉Q:=fun hm=>by have :=hQ'.1 x hm;rw [lexI_self] at this;omega
  rw [lex_uniq hP'.2 hQ'.2 fun z=>⟨fun hz=>(List.mem_cons.1 ((h z).1 (by simp [hz]))).resolve_left (fun e=>hx1 (e▸hz)),fun hz=>(List.mem_cons.1 ((h z).2 (by simp [hz]))).resolve_left (fun e=>hx2 (e▸hz))⟩]
theorem neg_neg_L (x:List Int):(x.map fun c=>-c).map (fun c=>-c)=x:=by simp [List.map_map,Function.comp_def]
theorem lex_neg:∀x y:List Int,lexI (y.map fun c=>-c) (x.map fun c=>-c)=lexI x y∨x.length≠y.length
 |[],[]=> .inl rfl
 |[],_::_=> .inr (by simp)
 |_::_,[]=> .inr (by simp)
 |a::l,b::m=>by
  rcases lex_neg l m with h |h
  ·refine .inl ?_
   simp only [List.map_cons,lexI]
   rcases cmpI_cases a b with ⟨h1,h2⟩ |⟨h1,h2⟩ |⟨h1,h2⟩
   ·rw [h2,cmpI_lt (show-b< -a by omega)];rfl
   ·rw [h2,cmpI_eq (show-b=-a by omega)];simpa using h
   ·rw [h2,cmpI_gt (show-a< -b by omega)];rfl
  ·exact .inr (by simpa using h)
theorem PtsOf.rev {m:List (List Int)} {q:Int} {P:List (List Int)} (h:PtsOf m q P):P.reverse.map (fun x=>x.map fun c=>-c)=P:=by
 refine lex_uniq ?_ h.sorted fun x=>?_
 ·rw [List.pairwise_map,List.pairwise_reverse]
  refine List.Pairwise.imp_of_mem ?_ h.sorted
  intro x y hx hy hxy
  rcases lex_neg x y with e |e
  ·rw [e];exact hxy
  ·exact absurd (((h.mem x).1 hx).1.trans ((h.mem y).1 hy).1.symm) e
 ·have key:∀y,y∈P->(y.map fun c=>-c)∈P:=fun y hy=>by
   obtain ⟨h1,h2,h3⟩:=(h.mem y).1 hy
   exact (h.mem _).2 ⟨by simpa using h1,by rw [firstNZ_neg];omega,by rw [nrm_neg];exact h3⟩
  rw [List.mem_map]
  constructor
  ·rintro ⟨y,hy,rfl⟩;exact key y (List.mem_reverse.1 hy)
  ·intro hx;exact ⟨_,List.mem_reverse.2 (key x hx),neg_neg_L x⟩
theorem perm_sub:∀{l k:List (List Int)},l.Nodup->(∀x∈l,x∈k)->k.length<=l.length->l.Perm k
 |[],k,_,_,h=>by
  have :k=[]:=List.eq_nil_of_length_eq_zero (by simpa using h)
  subst this;exact List.Perm.refl _
 |a::l,k,hn,hs,h=>by
  have hn':=List.nodup_cons.1 hn
  have ha:=hs a (by simp)
  have hl:=List.length_erase_of_mem ha
  have hp:0<k.length:=List.length_pos_of_mem ha
  refine ((perm_sub (l:=l) (k:=k.erase a) hn'.2 (fun x hx=>(List.mem_erase_of_ne (fun e=>by subst e;exact hn'.1 hx)).2 (hs x (by simp [hx]))) (by simp at h;omega)).cons a).trans (List.perm_cons_erase ha).symm
theorem IsoC.perm {a b t P Q:List (List Int)} {q:Int} (h:IsoC a b t) (ha:RedOK a) (hb:RedOK b) (hP:PtsOf a q P) (hQ:PtsOf b q Q) (hl:P.length=Q.length):(Q.map (lcL a.length t)).Perm P:=by
 refine perm_sub ?_ (fun y hy=>?_) (by rw [List.length_map];omega)
 ·rw [List.Nodup,List.pairwise_map]
  refine List.Pairwise.imp_of_mem ?_ (lex_nodup hQ.sorted)
  intro x y hx hy hne he
  exact hne (h.inj ha hb (((hQ.mem x).1 hx).1.trans h.dim) (((hQ.mem y).1 hy).1.trans h.dim) he)
 ·obtain ⟨x,hx,rfl⟩:=List.mem_map.1 hy
  obtain ⟨h1,h2,h3⟩:=(hQ.mem x).1 hx
  have hx':=h1.trans h.dim
  exact (hP.mem _).2 ⟨lcL_len _ _ _,h.first ha hb hx' h2,by rw [h.nm ha hb hx'];exact h3⟩
def wU (z:Int):Int:=IntKind.u64.wrap z
def wI (z:Int):Int:=IntKind.i64.wrap z
def absW (z:Int):Int:=max (wI z) (wI (-z))
theorem absW_neg (z:Int):absW (-z)=absW z:=by unfold absW;rw [Int.neg_neg,Int.max_comm]
def mixN (X:Nat):Nat:=((X^^^X / 1073741824)*0xbf58476d1ce4e5b9%18446744073709551616^^^(X^^^X / 1073741824)*0xbf58476d1ce4e5b9%18446744073709551616 / 134217728)*0x94d049bb133111eb%18446744073709551616^^^((X^^^X / 1073741824)*0xbf58476d1ce4e5b9%18446744073709551616^^^(X^^^X / 1073741824)*0xbf58476d1ce4e5b9%18446744073709551616 / 134217728)*0x94d049bb133111eb%18446744073709551616 / 2147483648
def mixZ (z:Int):Int:=(mixN z.toNat:Nat)
def blZ (c i:Int):Int:=mixZ (wU (c+i*0x9e3779b97f4a7c15+1))
def sumP (P:List (List Int)) (f:List Int->Int):Int:=(P.map f).sum
theorem sumP_perm {P Q:List (List Int)} (h:P.Perm Q) (f:List Int->Int):sumP P f=sumP Q f:=by
 unfold sumP
 induction h with
 |nil=>rfl
 |cons x _ ih=>simp [ih]
 |swap x y l=>simp only [List.map_cons,List.sum_cons];omega
 |trans _ _ h1 h2=>exact h1.trans h2
theorem sumP_congr {P:List (List Int)} {f g:List Int->Int} (h:∀x∈P,f x=g x):sumP P f=sumP P g:=by
 unfold sumP
 rw [List.map_congr_left h]
theorem sumP_map (P:List (List Int)) (u:List Int->List Int) (f:List Int->Int):sumP (P.map u) f=sumP P fun x=>f (u x):=by
 unfold sumP
 rw [List.map_map];rfl
def cl0 (m:List (List Int)) (x:List Int):Int:=mixZ (wU (nrm m x))
def clS (m P:List (List Int)) (c:List Int->Int) (x:List Int):Int:=wU (mixZ (c x)+sumP P (fun y=>blZ (c y) (absW (ipR m x y))) / 2)
def clP (m P:List (List Int)):List Int->Int:=clS m P (clS m P (cl0 m))
def clR (m:List (List Int)) (c:List Int->Int) (p x:List Int):Int:=blZ (c x) (wI (ipR m p x))
def clK (m P cols:List (List Int)):List Int->Int:=cols.foldl (clR m) (clP m P)
def clT (m P cols:List (List Int)):Int:=wU (sumP P (clK m P cols))
section
variable {a b t P Q:List (List Int)} {q:Int}
theorem IsoC.cS (h:IsoC a b t) (ha:RedOK a) (hb:RedOK b) (hP:PtsOf a q P) (hQ:PtsOf b q Q) (hl:P.length=Q.length) {c d:List Int->Int} (hc:∀x,x.length=a.length->c (lcL a.length t x)=d x) {x:List Int} (hx:x.length=a.length):clS a P c (lcL a.length t x)=clS b Q d x:=by
 unfold clS
 rw [hc x hx,<-sumP_perm (h.perm ha hb hP hQ hl),sumP_map,sumP_congr (fun y hy=>by rw [hc y (((hQ.mem y).1 hy).1.trans h.dim),h.lc ha])]
theorem IsoC.cP (h:IsoC a b t) (ha:RedOK a) (hb:RedOK b) (hP:PtsOf a q P) (hQ:PtsOf b q Q) (hl:P.length=Q.length) {x:List Int} (hx:x.length=a.length):clP a P (lcL a.length t x)=clP b Q x:=
 h.cS ha hb hP hQ hl (fun _ hx=>h.cS ha hb hP hQ hl (fun x hx=>by unfold cl0;rw [h.nm ha hb hx]) hx) hx
theorem IsoC.cF (h:IsoC a b t) (ha:RedOK a):∀(es:List (List Int)) (c d:List Int->Int),(∀x,x.length=a.length->c (lcL a.length t x)=d x)->∀x,x.length=a.length->(es.map (lcL a.length t)).foldl (clR a) c (lcL a.length t x)=es.foldl (clR b) d x
 |[],_,_,hc,x,hx=>hc x hx
 |e::es,_,_,hc,x,hx=>h.cF ha es _ _ (fun y hy=>by unfold clR;rw [hc y hy,h.lc ha]) x hx
theorem IsoC.cK (h:IsoC a b t) (ha:RedOK a) (hb:RedOK b) (hP:PtsOf a q P) (hQ:PtsOf b q Q) (hl:P.length=Q.length) (es:List (List Int)) {x:List Int} (hx:x.length=a.length):clK a P (es.map (lcL a.length t)) (lcL a.length t x)=clK b Q es x:=
 h.cF ha es _ _ (fun _ hx=>h.cP ha hb hP hQ hl hx) x hx
theorem IsoC.cT (h:IsoC a b t) (ha:RedOK a) (hb:RedOK b) (hP:PtsOf a q P) (hQ:PtsOf b q Q) (hl:P.length=Q.length) (es:List (List Int)):clT a P (es.map (lcL a.length t))=clT b Q es:=by
 unfold clT
 rw [<-sumP_perm (h.perm ha hb hP hQ hl),sumP_map,sumP_congr (fun y hy=>h.cK ha hb hP hQ hl es (((hQ.mem y).1 hy).1.trans h.dim))]
end
/-! ## The search -/
def unsL (n k:Nat):List (List Int):=(List.range k).map (unL n)
def fitB (a b cols:List (List Int)) (x:List Int):Bool:=decide (nrm a x=ent b cols.length cols.length)&&(List.range cols.length).all fun j=>decide (ipR a (cols.getD j []) x=ent b j cols.length)
def okC (cd:Bool) (a b P Q cols:List (List Int)) (x:List Int):Bool:=
 decide (nrm a x=ent b cols.length cols.length)&&(!cd||decide (clK a P cols x=clK b Q (unsL b.length cols.length) (unL b.length cols.length)))&&((List.range cols.length).all fun j=>decide (wI (ipR a (cols.getD j []) x)=ent b j cols.length))&&(!cd||decide (clT a P (cols++[x])=clT b Q (unsL b.length (cols.length+1))))
def extG (ok:List (List Int)->List Int->Bool) (P:List (List Int)):Nat->List (List Int)->Option (List (List Int))
 |0,cols=>some cols
 |r+1,cols=>P.findSome? fun x=>if ok cols x then extG ok P r (cols++[x]) else none
theorem findSome_congr {α β:Type} {f g:α->Option β}:∀{l:List α},(∀x∈l,f x=g x)->l.findSome? f=l.findSome? g
 |[],_=>rfl
 |x::l,h=>by rw [List.findSome?_cons,List.findSome?_cons,h x (by simp),findSome_congr fun y hy=>h y (by simp [hy])]
structure ParC (a b P cols:List (List Int)):Prop where
 mem:∀x∈cols,x∈P
 ip:∀i j,i<=j->j<cols.length->ipR a (cols.getD i []) (cols.getD j [])=ent b i j
theorem getD_app_l {α:Type} {l k:List α} {d:α} {i:Nat} (h:i<l.length):(l++k).getD i d=l.getD i d:=by simp [List.getD_eq_getElem?_getD,List.getElem?_append_left h]
theorem getD_app_r {α:Type} {l:List α} {x d:α}:(l++[x]).getD l.length d=x:=by simp [List.getD_eq_getElem?_getD]
section
variable {a b P Q:List (List Int)} {q:Int}
theorem ParC.nil:ParC a b P []:=⟨fun _ h=>by simp at h,fun _ _ _ h=>by simp at h⟩
theorem ParC.snoc {cols:List (List Int)} {x:List Int} (h:ParC a b P cols) (ha:RedOK a) (hP:PtsOf a q P) (hx:x∈P) (hf:fitB a b cols x=true):ParC a b P (cols++[x]):=by
 unfold fitB at hf
 rw [Bool.and_eq_true,List.all_eq_true] at hf
 have h1:=of_decide_eq_true hf.1
 refine ⟨fun y hy=>?_,fun i j hij hj=>?_⟩
 ·rcases List.mem_append.1 hy with hy |hy
  ·exact h.mem y hy
  ·rw [List.mem_singleton.1 hy];exact hx
 ·rw [List.length_append,List.length_singleton] at hj
  rcases Nat.lt_or_ge j cols.length with hlt |hge
  ·rw [getD_app_l (by omega),getD_app_l hlt];exact h.ip i j hij hlt
  ·obtain rfl:j=cols.length:=by omega
   rw [getD_app_r]
   rcases Nat.lt_or_ge i cols.length with hi |hi
   ·rw [getD_app_l hi];exact of_decide_eq_true (hf.2 i (by simpa using hi))
   ·obtain rfl:i=cols.length:=by omega
    rw [getD_app_r,ipR_nrm (isSmallB_all ha.small) x ((hP.mem x).1 hx).1];exact h1
theorem extG_some (ha:RedOK a) (hP:PtsOf a q P):∀(r:Nat) (cols t:List (List Int)),extG (fitB a b) P r cols=some t->ParC a b P cols->ParC a b P t/\t.length=cols.length+r/\t.take cols.length=cols
 |0,cols,t,h,hc=>by
  obtain rfl:cols=t:=by simpa [extG] using h
  exact ⟨hc,rfl,by simp⟩
 |r+1,cols,t,h,hc=>by
  obtain ⟨l1,x,l2,e,hx,-⟩:=List.findSome?_eq_some_iff.1 h
  have hxP:x∈P:=by rw [e];simp
  by_cases hf:fitB a b cols x=true
  ·rw [if_pos hf] at hx
   obtain ⟨h1,h2,h3⟩:=extG_some ha hP r _ t hx (hc.snoc ha hP hxP hf)
   rw [List.length_append,List.length_singleton] at h2 h3
   refine ⟨h1,by omega,?_⟩
   have :=congrArg (List.take cols.length) h3
   rw [List.take_take,Nat.min_eq_left (by omega),List.take_append_of_le_length (Nat.le_refl _),List.take_length] at this
   exact this
  ·rw [if_neg hf] at hx;cases hx
theorem ParC.iso {t:List (List Int)} (h:ParC a b P t) (ha:RedOK a) (hb:RedOK b) (hP:PtsOf a q P) (hd:b.length=a.length) (hl:t.length=a.length):IsoC a b t:=by
 refine ⟨hl,hd,fun x hx=>((hP.mem x).1 (h.mem x hx)).1,fun i j hi hj=>?_⟩
 rcases Nat.lt_or_ge j i with hlt |hge
 ·rw [ipR_comm ha.sym,hb.sym i j (by omega) (by omega)];exact h.ip j i (by omega) (by omega)
 ·exact h.ip i j hge (by omega)
theorem IsoC.take_map {t:List (List Int)} (h:IsoC a b t) {k:Nat} (hk:k<=a.length):t.take k=(unsL b.length k).map (lcL a.length t):=by
 have hl:=h.len
 refine List.ext_getElem (by simp [unsL];omega) fun i h1 h2=>?_
 have hi:i<k:=by simp at h1;omega
 have e:=lc_unit (n:=a.length) (k:=i) (t:=t) (by omega) (h.row _ (by rw [List.getD_eq_getElem?_getD,List.getElem?_eq_getElem (by omega)];exact List.getElem_mem _))
 simp only [unsL,List.getElem_take,List.getElem_map,List.getElem_range]
 rw [h.dim,e,List.getD_eq_getElem?_getD,List.getElem?_eq_getElem (by omega)];rfl
theorem IsoC.at_unit {t:List (List Int)} (h:IsoC a b t) {k:Nat} (hk:k<a.length):t.getD k []=lcL a.length t (unL b.length k):=by
 have hl:=h.len
 rw [h.dim,lc_unit hk (h.row _ (by rw [List.getD_eq_getElem?_getD,List.getElem?_eq_getElem (by omega)];exact List.getElem_mem _))]
theorem IsoC.pass {t cols:List (List Int)} {cd:Bool} (h:IsoC a b t) (ha:RedOK a) (hb:RedOK b) (hP:PtsOf a q P) (hQ:cd=true->PtsOf b q Q/\P.length=Q.length) (hq:q<=1099511627776) (hmem:∀x∈t,x∈P) (hc:t.take cols.length=cols) (hk:cols.length<a.length):okC cd a b P Q cols (t.getD cols.length [])=true:=by
 obtain ⟨k,hkk⟩:∃k,k=cols.length:=⟨_,rfl⟩
 have hl:=h.len
 have hat:∀j,j<a.length->t.getD j []∈t:=fun j hj=>by rw [List.getD_eq_getElem?_getD,List.getElem?_eq_getElem (by omega)];exact List.getElem_mem _
 have hcol:∀j,j<k->cols.getD j []=t.getD j []:=fun j hj=>by rw [<-hc,<-hkk,List.getD_eq_getElem?_getD,List.getElem?_take,if_pos hj,<-List.getD_eq_getElem?_getD]
 unfold okC
 rw [<-hkk] at hk hc |-
 have hnp:∀x∈t,x.length=a.length/\0<=nrm a x/\nrm a x<=q:=fun x hx=>by
  have h1:=(hP.mem x).1 (hmem x hx)
  exact ⟨h1.1,nrm_nonneg ha x h1.1,h1.2.2⟩
 have hw:∀i j,i<a.length->j<a.length->wI (ipR a (t.getD i []) (t.getD j []))=ipR a (t.getD i []) (t.getD j []):=fun i j hi hj=>by
  obtain ⟨x1,x2,x3⟩:=hnp _ (hat i hi)
  obtain ⟨y1,y2,y3⟩:=hnp _ (hat j hj)
  have :=ip_half ha x1 y1
  rw [ipR_dot (isSmallB_all ha.small) x1 y1]
  exact IntWalk.i64_in _ (by omega)
 rw [Bool.and_eq_true,Bool.and_eq_true,Bool.and_eq_true]
 refine ⟨⟨⟨?_,?_⟩,?_⟩,?_⟩
 ·refine decide_eq_true ?_
  rw [<-ipR_nrm (isSmallB_all ha.small) _ (hnp _ (hat k hk)).1]
  exact h.ip k k hk hk
 ·cases hcd:cd with
  |false=>rfl
  |true=>
   obtain ⟨h1,h2⟩:=hQ hcd
   refine decide_eq_true ?_
   rw [<-hc,h.take_map (by omega),h.at_unit hk]
   exact h.cK ha hb hP h1 h2 _ (by rw [unL_len,h.dim])
 ·rw [List.all_eq_true]
  intro j hj
  have hj:j<k:=by simpa using hj
  refine decide_eq_true ?_
  rw [hcol j hj,hw j k (by omega) hk]
  exact h.ip j k (by omega) hk
 ·cases hcd:cd with
  |false=>rfl
  |true=>
   obtain ⟨h1,h2⟩:=hQ hcd
   refine decide_eq_true ?_
   have e:cols++[t.getD k []]=t.take (k+1):=by
    rw [List.take_add_one,hc,List.getD_eq_getElem?_getD,List.getElem?_eq_getElem (by omega)];rfl
   rw [e,h.take_map (by omega)]
   exact h.cT ha hb hP h1 h2 _
theorem okC_fit {cols:List (List Int)} {x:List Int} {cd:Bool} (ha:RedOK a) (hP:PtsOf a q P) (hq:q<=1099511627776) (hc:∀y∈cols,y∈P) (hx:x∈P) (h:okC cd a b P Q cols x=true):fitB a b cols x=true:=by
 unfold okC at h
 rw [Bool.and_eq_true,Bool.and_eq_true,Bool.and_eq_true,List.all_eq_true] at h
 unfold fitB
 rw [Bool.and_eq_true,List.all_eq_true]
 refine ⟨h.1.1.1,fun j hj=>?_⟩
 have h1:=of_decide_eq_true (h.1.2 j hj)
 have hj:j<cols.length:=by simpa using hj
 have hy:=hc (cols.getD j []) (by rw [List.getD_eq_getElem?_getD,List.getElem?_eq_getElem hj];exact List.getElem_mem _)
 obtain ⟨x1,-,x3⟩:=(hP.mem x).1 hx
 obtain ⟨y1,-,y3⟩:=(hP.mem _).1 hy
 have h2:=ip_half ha y1 x1
 rw [<-ipR_dot (isSmallB_all ha.small) y1 x1] at h2
 refine decide_eq_true ?_
 rw [<-h1]
 exact (IntWalk.i64_in _ (by omega)).symm
theorem extG_eq {cd:Bool} (ha:RedOK a) (hb:RedOK b) (hd:b.length=a.length) (hP:PtsOf a q P) (hQ:cd=true->PtsOf b q Q/\P.length=Q.length) (hq:q<=1099511627776):∀(r:Nat) (cols:List (List Int)),cols.length+r=a.length->ParC a b P cols->extG (okC cd a b P Q) P r cols=extG (fitB a b) P r cols
 |0,_,_,_=>rfl
 |r+1,cols,hr,hc=>by
  refine findSome_congr fun x hx=>?_
  by_cases hf:fitB a b cols x=true
  ·rw [if_pos hf]
   have ih:=extG_eq ha hb hd hP hQ hq r (cols++[x]) (by simp;omega) (hc.snoc ha hP hx hf)
   by_cases ho:okC cd a b P Q cols x=true
   ·rw [if_pos ho,ih]
   ·rw [if_neg ho]
    cases he:extG (fitB a b) P r (cols++[x]) with
    |none=>rfl
    |some t=>
     obtain ⟨h1,h2,h3⟩:=extG_some ha hP r _ t he (hc.snoc ha hP hx hf)
     rw [List.length_append,List.length_singleton] at h2 h3
     have hi:=h1.iso ha hb hP hd (by omega)
     have e1:t.take cols.length=cols:=by
      have :=congrArg (List.take cols.length) h3
      rw [List.take_take,Nat.min_eq_left (by omega),List.take_append_of_le_length (Nat.le_refl _),List.take_length] at this
      exact this
     have e2:t.getD cols.length []=x:=by
      have e:t.getD cols.length []=(t.take (cols.length+1)).getD cols.length []:=by
       rw [List.getD_eq_getElem?_getD,List.getD_eq_getElem?_getD,List.getElem?_take,if_pos (by omega)]
      rw [e,h3,getD_app_r]
     have :=hi.pass (cd:=cd) (Q:=Q) ha hb hP hQ hq h1.mem e1 (by omega)
     rw [e2] at this
     exact absurd this ho
  ·rw [if_neg hf]
   by_cases ho:okC cd a b P Q cols x=true
   ·exact absurd (okC_fit ha hP hq hc.mem hx ho) hf
   ·rw [if_neg ho]
theorem extG_first (ha:RedOK a) (hP:PtsOf a q P) {s:List (List Int)} (hs:IsoC a b s) (hm:∀x∈s,x∈P):∀(r:Nat) (cols:List (List Int)),cols.length+r=a.length->s.take cols.length=cols->∃t,extG (fitB a b) P r cols=some t/\(t=s∨∃j,j<a.length/\t.take j=s.take j/\lexI (t.getD j []) (s.getD j [])<0)
 |0,cols,hr,hc=>⟨cols,rfl,.inl (by rw [<-hc,List.take_of_length_le (by have :=hs.len;omega)])⟩
 |r+1,cols,hr,hc=>by
  have hl:=hs.len
  have hk:cols.length<s.length:=by omega
  obtain ⟨x,hx⟩:∃x,x=s.getD cols.length []:=⟨_,rfl⟩
  have hxs:s[cols.length]? =some x:=by rw [hx,List.getD_eq_getElem?_getD,List.getElem?_eq_getElem hk];rfl
  have hxP:x∈P:=hm x (List.mem_of_getElem? hxs)
  have hcol:∀j,j<cols.length->cols.getD j []=s.getD j []:=fun j hj=>by rw [<-hc,List.getD_eq_getElem?_getD,List.getElem?_take,if_pos hj,<-List.getD_eq_getElem?_getD]
  have hfit:fitB a b cols x=true:=by
   unfold fitB
   rw [Bool.and_eq_true,List.all_eq_true]
   refine ⟨decide_eq_true ?_,fun j hj=>decide_eq_true ?_⟩
   ·rw [<-ipR_nrm (isSmallB_all ha.small) x ((hP.mem x).1 hxP).1,hx]
    exact hs.ip _ _ (by omega) (by omega)
   ·have hj:j<cols.length:=by simpa using hj
    rw [hcol j hj,hx]
    exact hs.ip _ _ (by omega) (by omega)
  have hc':s.take (cols++[x]).length=cols++[x]:=by
   rw [List.length_append,List.length_singleton,List.take_add_one,hc,hxs];rfl
  obtain ⟨t0,ht0,hlt0⟩:=extG_first ha hP hs hm r (cols++[x]) (by simp;omega) hc'
  obtain ⟨P1,P2,eP⟩:=List.append_of_mem hxP
  have hsome:∃t,extG (fitB a b) P (r+1) cols=some t:=by
   cases he:extG (fitB a b) P (r+1) cols with
   |some t=>exact ⟨t,rfl⟩
   |none=>
    have :=List.findSome?_eq_none_iff.1 he x hxP
    rw [if_pos hfit,ht0] at this
    cases this
  obtain ⟨t,ht⟩:=hsome
  refine ⟨t,ht,?_⟩
  obtain ⟨l1,y,l2,e,hy,hbefore⟩:=List.findSome?_eq_some_iff.1 ht
  have hyP:y∈P:=by rw [e];simp
  by_cases hyx:y=x
  ·subst hyx
   rw [if_pos hfit,ht0] at hy
   injection hy with hy
   subst hy
   exact hlt0
  ·have hxl:x∉l1:=fun hm=>by
    have :=hbefore x hm
    rw [if_pos hfit,ht0] at this
    cases this
   have hx2:x∈l2:=by
    rw [e] at hxP
    rcases List.mem_append.1 hxP with h |h
    ·exact absurd h hxl
    ·rcases List.mem_cons.1 h with h |h
     ·exact absurd h.symm hyx
     ·exact h
   have hlt:lexI y x<0:=by
    have h1:=hP.sorted
    rw [e] at h1
    exact (List.pairwise_cons.1 (List.pairwise_append.1 h1).2.1).1 x hx2
   by_cases hf:fitB a b cols y=true
   ·rw [if_pos hf] at hy
    have hpar:ParC a b P cols:=⟨fun z hz=>hm z (by rw [<-hc] at hz;exact List.mem_of_mem_take hz),fun i j hij hj=>by rw [hcol i (by omega),hcol j hj];exact hs.ip _ _ (by omega) (by omega)⟩
    obtain ⟨-,h2,h3⟩:=extG_some ha hP r _ t hy (hpar.snoc ha hP hyP hf)
    rw [List.length_append,List.length_singleton] at h2 h3
    refine .inr ⟨cols.length,by omega,?_,?_⟩
    ·have :=congrArg (List.take cols.length) h3
     rw [List.take_take,Nat.min_eq_left (by omega),List.take_append_of_le_length (Nat.le_refl _),List.take_length] at this
     rw [this,hc]
    ·have e:t.getD cols.length []=(t.take (cols.length+1)).getD cols.length []:=by
      rw [List.getD_eq_getElem?_getD,List.getD_eq_getElem?_getD,List.getElem?_take,if_pos (by omega)]
     rw [e,h3,getD_app_r,<-hx]
     exact hlt
   ·rw [if_neg hf] at hy;cases hy
end
section
variable (ok:List (List Int)->List Int->Bool) (P:List (List Int))
def fromG (r:Nat) (cols:List (List Int)) (i:Nat):Option (List (List Int)):=(P.drop i).findSome? fun x=>if ok cols x then extG ok P r (cols++[x]) else none
theorem from_zero (r:Nat) (cols:List (List Int)):fromG ok P r cols 0=extG ok P (r+1) cols:=rfl
theorem from_end {r i:Nat} {cols:List (List Int)} (h:P.length<=i):fromG ok P r cols i=none:=by
 unfold fromG
 rw [List.drop_eq_nil_of_le h];rfl
theorem from_step {r i:Nat} {cols:List (List Int)} {x:List Int} (h:P[i]? =some x):fromG ok P r cols i=(if ok cols x then extG ok P r (cols++[x]) else none).or (fromG ok P r cols (i+1)):=by
 obtain ⟨hi,rfl⟩:=List.getElem?_eq_some_iff.1 h
 unfold fromG
 rw [List.drop_eq_getElem_cons hi,List.findSome?_cons]
 split<;>simp_all
def levG (n first:Nat) (st:List (List Int)) (nx:List Nat):Nat->Option (List (List Int))
 |0=>fromG ok P (n-first-1) (st.take first) (nx.getD first 0)
 |d+1=>(fromG ok P (n-(first+d+1)-1) (st.take (first+d+1)) (nx.getD (first+d+1) 0)).or (levG n first st nx d)
theorem lev_congr {n first:Nat} {st st':List (List Int)} {nx nx':List Nat}:∀d:Nat,(∀j,j<=first+d->st.take j=st'.take j/\nx.getD j 0=nx'.getD j 0)->levG ok P n first st nx d=levG ok P n first st' nx' d
 |0,h=>by
  unfold levG
  rw [(h first (by omega)).1,(h first (by omega)).2]
 |d+1,h=>by
  unfold levG
  rw [(h (first+d+1) (by omega)).1,(h (first+d+1) (by omega)).2,lev_congr d fun j hj=>h j (by omega)]
def ansG (n first:Nat) (st:List (List Int)) (nx:List Nat):Option (List (List Int)):=if st.length=n then some st else levG ok P n first st nx (st.length-first)
theorem ans_start {n:Nat} {st:List (List Int)} {nx:List Nat} (h:st.length<=n) (h0:nx.getD st.length 0=0):ansG ok P n st.length st nx=extG ok P (n-st.length) st:=by
 unfold ansG
 by_cases e:st.length=n
 ·rw [if_pos e,e,Nat.sub_self];rfl
 ·rw [if_neg e,Nat.sub_self]
  unfold levG
  rw [h0,List.take_length,from_zero]
  congr 1;omega
theorem getD_set {l:List Nat} {i j v:Nat} (h:i<l.length):(l.set i v).getD j 0=if j=i then v else l.getD j 0:=by
 rw [List.getD_eq_getElem?_getD,List.getElem?_set]
 by_cases e:j=i
 ·subst e;simp [h]
 ·rw [if_neg (fun q=>e q.symm),if_neg e,List.getD_eq_getElem?_getD]
def lowG (n first:Nat) (st:List (List Int)) (nx:List Nat):Nat->Option (List (List Int))
 |0=>none
 |d+1=>levG ok P n first st nx d
theorem lev_split (n first:Nat) (st:List (List Int)) (nx:List Nat):∀d,levG ok P n first st nx d=(fromG ok P (n-(first+d)-1) (st.take (first+d)) (nx.getD (first+d) 0)).or (lowG ok P n first st nx d)
 |0=>by simp [levG,lowG]
 |d+1=>rfl
theorem low_congr {n first:Nat} {st st':List (List Int)} {nx nx':List Nat}:∀d:Nat,(∀j,j<first+d->st.take j=st'.take j/\nx.getD j 0=nx'.getD j 0)->lowG ok P n first st nx d=lowG ok P n first st' nx' d
 |0,_=>rfl
 |d+1,h=>lev_congr ok P d fun j hj=>h j (by omega)
theorem ans_push {n first i:Nat} {st:List (List Int)} {nx:List Nat} {x:List Int} (hf:first<=st.length) (hn:st.length<n) (hl:n<nx.length) (hi:nx.getD st.length 0=i) (hx:P[i]? =some x) (h:ok st x=true):
  ansG ok P n first st nx=ansG ok P n first (st++[x]) ((nx.set st.length (i+1)).set (st.length+1) 0):=by
 obtain ⟨d,hd⟩:∃d,st.length=first+d:=⟨st.length-first,by omega⟩
 have hnx:∀j,((nx.set st.length (i+1)).set (st.length+1) 0).getD j 0=if j=st.length+1 then 0 else if j=st.length then i+1 else nx.getD j 0:=fun j=>by
  rw [getD_set (by simp;omega),getD_set (by omega)]
 have hlow:∀j,j<=st.length->(st++[x]).take j=st.take j:=fun j hj=>by rw [List.take_append_of_le_length hj]
 have e1:levG ok P n first (st++[x]) ((nx.set st.length (i+1)).set (st.length+1) 0) d=(fromG ok P (n-st.length-1) st (i+1)).or (lowG ok P n first st nx d):=by
  rw [lev_split,<-hd,hnx,if_neg (by omega),if_pos rfl,hlow _ (Nat.le_refl _),List.take_length]
  congr 1
  exact low_congr ok P d fun j hj=>⟨hlow j (by omega),by rw [hnx,if_neg (by omega),if_neg (by omega)]⟩
 have e0:levG ok P n first st nx d=(fromG ok P (n-st.length-1) st i).or (lowG ok P n first st nx d):=by
  rw [lev_split,<-hd,hi,List.take_length]
 unfold ansG
 rw [if_neg (by omega),show st.length-first=d by omega,e0,from_step ok P hx,if_pos h]
 by_cases e:st.length+1=n
 ·rw [if_pos (by simpa using e),show n-st.length-1=0 by omega];rfl
 ·rw [if_neg (by simpa using e),show (st++[x]).length-first=d+1 by simp;omega,levG,e1,show first+d+1=st.length+1 by omega,hnx,if_pos rfl,from_zero]
  have e2:(st++[x]).take (st.length+1)=st++[x]:=List.take_of_length_le (by simp)
  rw [e2,show n-(st.length+1)-1+1=n-st.length-1 by omega,Option.or_assoc]
theorem ans_skip {n first i:Nat} {st:List (List Int)} {nx:List Nat} {x:List Int} (hf:first<=st.length) (hn:st.length<n) (hl:n<nx.length) (hi:nx.getD st.length 0=i) (hx:P[i]? =some x) (h:ok st x=false):
  ansG ok P n first st nx=ansG ok P n first st (nx.set st.length (i+1)):=by
 obtain ⟨d,hd⟩:∃d,st.length=first+d:=⟨st.length-first,by omega⟩
 unfold ansG
 have hst:=from_step ok P (r:=n-st.length-1) (cols:=st) hx
 rw [h] at hst
 simp only [Bool.false_eq_true,if_false,Option.none_or] at hst
 rw [if_neg (by omega),if_neg (by omega),show st.length-first=d by omega,lev_split,lev_split,<-hd,hi,List.take_length,hst,getD_set (by omega),if_pos rfl]
 congr 1
 exact low_congr ok P d fun j hj=>⟨rfl,by rw [getD_set (by omega),if_neg (by omega)]⟩
theorem ans_pop {n first:Nat} {st:List (List Int)} {nx:List Nat} (hf:first<st.length) (hn:st.length<n) (hi:P.length<=nx.getD st.length 0):ansG ok P n first st nx=ansG ok P n first (st.take (st.length-1)) nx:=by
 obtain ⟨d,hd⟩:∃d,st.length=first+d+1:=⟨st.length-first-1,by omega⟩
 unfold ansG
 rw [if_neg (by omega),if_neg (by rw [List.length_take];omega),show st.length-first=d+1 by omega,levG,show first+d+1=st.length by omega,from_end ok P hi,Option.none_or,show (st.take (st.length-1)).length-first=d by rw [List.length_take];omega]
 exact lev_congr ok P d fun j hj=>⟨by rw [List.take_take,Nat.min_eq_left (by omega)],rfl⟩
theorem ans_none {n:Nat} {st:List (List Int)} {nx:List Nat} (hn:st.length<n) (hi:P.length<=nx.getD st.length 0):ansG ok P n st.length st nx=none:=by
 unfold ansG
 rw [if_neg (by omega),Nat.sub_self]
 unfold levG
 exact from_end ok P hi
end
def msG (N n first:Nat) (nx:List Nat):Nat->Nat
 |0=>(N+1-nx.getD first 0)*(N+2)^(n-first)
 |d+1=>(N+1-nx.getD (first+d+1) 0)*(N+2)^(n-(first+d+1))+msG N n first nx d
theorem ms_congr {N n first:Nat} {nx nx':List Nat}:∀d:Nat,(∀j,j<=first+d->nx.getD j 0=nx'.getD j 0)->msG N n first nx d=msG N n first nx' d
 |0,h=>by unfold msG;rw [h first (by omega)]
 |d+1,h=>by unfold msG;rw [h (first+d+1) (by omega),ms_congr d fun j hj=>h j (by omega)]
theorem ms_push {N n first k i d:Nat} {nx:List Nat} (hd:k=first+d) (hk:k<n) (hl:n<nx.length) (hi:nx.getD k 0<=i) (hN:i<N):msG N n first ((nx.set k (i+1)).set (k+1) 0) (d+1)<msG N n first nx d:=by
 have hnx:∀j,((nx.set k (i+1)).set (k+1) 0).getD j 0=if j=k+1 then 0 else if j=k then i+1 else nx.getD j 0:=fun j=>by
  rw [getD_set (by simp;omega),getD_set (by omega)]
 have hp:(N+2)^(n-k)=(N+2)*(N+2)^(n-(k+1)):=by rw [show n-k=(n-(k+1))+1 by omega,Nat.pow_succ,Nat.mul_comm]
 have hpos:0<(N+2)^(n-(k+1)):=Nat.pow_pos (by omega)
 have key:(N+1-0)*(N+2)^(n-(k+1))+(N+1-(i+1))*(N+2)^(n-k)<(N+1-nx.getD k 0)*(N+2)^(n-k):=by
  have h1:(N+1-(i+1)+1)*(N+2)^(n-k)<=(N+1-nx.getD k 0)*(N+2)^(n-k):=Nat.mul_le_mul_right _ (by omega)
  rw [Nat.add_mul,Nat.one_mul] at h1
  have h2:(N+1-0)*(N+2)^(n-(k+1))<(N+2)^(n-k):=by
   rw [hp]
   exact Nat.mul_lt_mul_of_pos_right (by omega) hpos
  omega
 cases d with
 |zero=>
  obtain rfl:k=first:=by omega
  unfold msG msG
  rw [show k+0+1=k+1 by omega,hnx,hnx,if_pos rfl,if_neg (by omega),if_pos rfl]
  exact key
 |succ d=>
  rw [msG,msG,msG,show first+(d+1)+1=k+1 by omega,show first+d+1=k by omega,hnx,hnx,if_pos rfl,if_neg (by omega),if_pos rfl,ms_congr (nx':=nx) d fun j hj=>by rw [hnx,if_neg (by omega),if_neg (by omega)]]
  omega
theorem ms_pop {N n first k d:Nat} {nx:List Nat} {i:Nat} (hd:k=first+d+1) (hk:k<=n) (hl:n<nx.length) (hi:i<=N):msG N n first (nx.set k i) d<msG N n first nx (d+1)∨N<nx.getD k 0:=by
 rcases Nat.lt_or_ge N (nx.getD k 0) with h |h
 ·exact .inr h
 ·refine .inl ?_
  rw [msG,show first+d+1=k by omega,ms_congr (nx':=nx) d fun j hj=>by rw [getD_set (by omega),if_neg (by omega)]]
  have :0<(N+1-nx.getD k 0)*(N+2)^(n-k):=Nat.mul_pos (by omega) (Nat.pow_pos (by omega))
  omega
/-! ## Half of the points -/
theorem sumP_append (P Q:List (List Int)) (f:List Int->Int):sumP (P++Q) f=sumP P f+sumP Q f:=by unfold sumP;simp
theorem sumP_reverse (P:List (List Int)) (f:List Int->Int):sumP P.reverse f=sumP P f:=sumP_perm (List.reverse_perm P) f
theorem sum_half {P:List (List Int)} {h:Nat} (hsym:P.reverse.map (fun x=>x.map fun c=>-c)=P) (hl:P.length=2*h) {f:List Int->Int} (hf:∀x,f (x.map fun c=>-c)=f x):sumP P f / 2=sumP (P.take h) f:=by
 have e1:P.drop h=(P.take h).reverse.map fun x=>x.map fun c=>-c:=by
  have e:=congrArg (List.drop h) hsym
  rw [<-List.map_drop,List.drop_reverse,show P.length-h=h by omega] at e
  exact e.symm
 have e2:sumP P f=sumP (P.take h) f+sumP (P.take h) f:=by
  conv=>lhs;rw [<-List.take_append_drop h P]
  rw [sumP_append,e1,sumP_map,sumP_congr (f:=fun x=>f (x.map fun c=>-c)) (g:=f) (fun x _=>hf x),sumP_reverse]
 rw [e2];omega
theorem ipR_neg_left (m:List (List Int)) (x y:List Int):ipR m (x.map fun c=>-c) y=-ipR m x y:=by
 unfold ipR
 rw [<-Int.neg_one_mul,<-sumR_mul]
 exact sumR_congr fun j _=>by rw [getD_neg,<-Int.mul_assoc,Int.neg_one_mul]
theorem clS_neg {m P:List (List Int)} {c:List Int->Int} (hc:∀x,c (x.map fun c=>-c)=c x) (x:List Int):clS m P c (x.map fun c=>-c)=clS m P c x:=by
 unfold clS
 rw [hc,sumP_congr (fun y _=>by rw [ipR_neg_left,absW_neg])]
theorem cl0_neg (m:List (List Int)) (x:List Int):cl0 m (x.map fun c=>-c)=cl0 m x:=by unfold cl0;rw [nrm_neg]
end Go.Proofs.YtpcgfpmiphiacaaGreat
namespace Go.Proofs.YtpcgfpmiphiacaaGreat
open Go.RowKit
theorem idot_any {w0 w:World} {X Y:Option Addr} {c d n k:Nat} {x y:List Int} (hX:IntsA w0 X x) (hY:IntsA w0 Y y) (hxn:x.length=n) (hyn:y.length=k) (hl:n<=k) (hn:n<=1099511627776) [hx:Ext w0 w]:
  Calls Tryz.prog 110 #[.slice X n c,.slice Y k d] w (RetSame w (.int .i64 (dotW x y))):=by
 have hX0:=hX.ext hx
 have hY0:=hY.ext hx
 have HXN:=Lib.hid hxn
 have HYN:=Lib.hid hyn
 clear hxn hyn hX hY
 go_enter Tryz.func110,Tryz.ntmps110
 go_wp2
 go_loop [5,6,7,10] (fun s _ _ i=>∃q:Nat,q<=n/\i= .int .i64 q/\s= .int .i64 (dotW (x.take q) (y.take q))) (fun _ _ _ i=>n-(intOf i).toNat)
 case atStart=>exact ⟨0,by omega,rfl,rfl⟩
 case round=>
  obtain ⟨q,hq,rfl,rfl⟩:=hrel
  by_cases hlt:q<n
  ·obtain ⟨b1,o1,a,rfl,ha,e1,e2⟩:=hX0.at_ (i:=q) (by rw [HXN.out];exact hlt)
   obtain ⟨b2,o2,b,rfl,hb,f1,f2⟩:=hY0.at_ (i:=q) (by rw [HYN.out];omega)
   have hst:=dotL_take_succ x y q a b ha hb
   have HS:Hid (wrap64 (dotW (x.take q) (y.take q)+wrap64 (a*b))=dotW (x.take (q+1)) (y.take (q+1))):=Lib.hid (by
    unfold dotW
    rw [w64,w64,wrap_add_r,wrap_add_l,hst])
   generalize dotW (x.take q) (y.take q)=s at*
   clear hst ha hb
   go_wp2
   exact ⟨⟨q+1,by omega,by go_num,congrArg (Value.int IntKind.i64) HS.out⟩,by simp [intOf];omega⟩
  ·obtain rfl:q=n:=by omega
   have HV:Hid (dotW (x.take q) (y.take q)=dotW x y):=Lib.hid (by
    have h1:x.take q=x:=List.take_of_length_le (by rw [HXN.out];exact Nat.le_refl _)
    have h3:=dotL_cut x y
    rw [HXN.out] at h3
    unfold dotW
    rw [h1,h3])
   rw [HV.out]
   clear HV
   go_wp2
   go_ret
   exact ⟨rfl,rfl⟩
theorem mixN_lt (X:Nat) (h:X<18446744073709551616):mixN X<18446744073709551616:=by
 unfold mixN
 exact Nat.xor_lt_two_pow (n:=64) (Nat.mod_lt _ (by decide)) (Nat.lt_of_le_of_lt (Nat.div_le_self _ _) (Nat.mod_lt _ (by decide)))
theorem imix_any {w:World} (X:Nat) (h:X<18446744073709551616):Calls Tryz.prog 174 #[.int .u64 X] w (RetSame w (.int .u64 (mixZ X))):=by
 have h1:IntKind.u64.wrap (bits .xor .u64 (X:Int) ((X:Int) / 1073741824)*0xbf58476d1ce4e5b9)=_:=mixStep_u64 X 1073741824 0xbf58476d1ce4e5b9 h
 obtain ⟨Y,hY⟩:∃Y,(X^^^X / 1073741824)*0xbf58476d1ce4e5b9%18446744073709551616=Y:=⟨_,rfl⟩
 have hYl:Y<18446744073709551616:=by rw [<-hY];exact Nat.mod_lt _ (by decide)
 rw [hY] at h1
 have h2:IntKind.u64.wrap (bits .xor .u64 (Y:Int) ((Y:Int) / 134217728)*0x94d049bb133111eb)=_:=mixStep_u64 Y 134217728 0x94d049bb133111eb hYl
 obtain ⟨Z,hZ⟩:∃Z,(Y^^^Y / 134217728)*0x94d049bb133111eb%18446744073709551616=Z:=⟨_,rfl⟩
 have hZl:Z<18446744073709551616:=by rw [<-hZ];exact Nat.mod_lt _ (by decide)
 rw [hZ] at h2
 have h3:bits .xor .u64 (Z:Int) ((Z:Int) / 2147483648)=_:=xorShift_u64 Z 2147483648 hZl
 have HM:Hid (mixZ X=((Z^^^Z / 2147483648:Nat):Int)):=Lib.hid (by unfold mixZ mixN;rw [Int.toNat_natCast,hY,hZ])
 clear hY hZ
 rw [HM.out]
 clear HM
 go_enter Tryz.func174,Tryz.ntmps174
 go_wp2
 go_ret
 exact ⟨rfl,rfl⟩
structure VE where
 A:Option Addr
 c:Nat
 l:List Int
def VE.enc (x:VE):Value:= .slice x.A x.l.length x.c
def VE.ok (w:World) (x:VE):Prop:=Ints w x.A 2 .i64 x.l/\x.l.length<=1099511627776/\x.l.length<=x.c/\x.c<=9223372036854775807
structure VEw (w:World) where
 val:VE
 ok:val.ok w
instance (w:World):Inhabited (VEw w):=⟨⟨⟨none,0,[]⟩,Ints.nil,by simp⟩⟩
def encV (w:World) (x:VEw w):Value:=x.val.enc
def cfV (w:World) (x y:VEw w):Int:=lexI x.val.l y.val.l
theorem swoV (w:World):Sort.SWO (ltOf (cfV w)) where
 irrefl x:=by simp [ltOf,cfV,lexI_self]
 trans x y z h1 h2:=decide_eq_true (lexI_trans _ _ _ (of_decide_eq_true h1) (of_decide_eq_true h2))
 ntrans x y z h1 h2:=by
  have h1:¬lexI x.val.l y.val.l<0:=of_decide_eq_false h1
  have h2:¬lexI y.val.l z.val.l<0:=of_decide_eq_false h2
  refine decide_eq_false (fun (h3:lexI x.val.l z.val.l<0)=>?_)
  have e2:=lexI_anti x.val.l y.val.l
  have e3:=lexI_anti y.val.l z.val.l
  rcases lexI_range x.val.l y.val.l with h |h |h
  ·omega
  ·have :=lexI_eq _ _ h
   rw [this] at h3;omega
  ·rcases lexI_range y.val.l z.val.l with k |k |k
   ·omega
   ·have :=lexI_eq _ _ k
    rw [<-this] at h3;omega
   ·have :=lexI_trans _ _ _ (show lexI z.val.l y.val.l<0 by omega) (show lexI y.val.l x.val.l<0 by omega)
    have e1:=lexI_anti x.val.l z.val.l
    omega
theorem sortV_heap {α:Type} [Inhabited α] (enc:α->Value) (w:World) (g m:Nat) (d:Array α) (os:Array Obj) {b:Nat} (hb:b<w.heap.size) (hne:b≠g):(sortWorld enc w g 0 m d os).heap[b]? =w.heap[b]? :=by
 have h1:(sortWorld enc w g 0 m d os).heap[b]? =(w.heap.modify g (Sort.onCells (Sort.putCells enc 0 d)))[b]? :=by
  show ((w.heap.modify g _)++os)[b]? =_
  rw [Array.getElem?_append_left (by simpa using hb)]
 rw [h1,Array.getElem?_modify,if_neg (fun h=>hne h.symm)]
theorem sortV_row {α:Type} [Inhabited α] (enc:α->Value) (w:World) (g m:Nat) (d:Array α) (os:Array Obj) {cur:Array Value} {T:TypeId} (hg:w.heap[g]? =some (.cells cur T (0,0))):(sortWorld enc w g 0 m d os).heap[g]? =some (.cells (Sort.putCells enc 0 d cur) T (0,0)):=by
 have h1:(sortWorld enc w g 0 m d os).heap[g]? =(w.heap.modify g (Sort.onCells (Sort.putCells enc 0 d)))[g]? :=by
  show ((w.heap.modify g _)++os)[g]? =_
  rw [Array.getElem?_append_left (by simpa using lt_of_heap hg)]
 rw [h1,Array.getElem?_modify,if_pos rfl,hg];rfl
theorem sortV_below {α:Type} [Inhabited α] (enc:α->Value) (w:World) (g m:Nat) (d:Array α) (os:Array Obj) {B:Nat} (hB:B<=g) (hg:g<w.heap.size):Below B w (sortWorld enc w g 0 m d os):=
 ⟨rfl,rfl,rfl,by show w.heap.size<=((w.heap.modify g _)++os).size;simp,fun b hb=>sortV_heap enc w g m d os (by omega) (by omega)⟩
theorem VE.ok_sort {α:Type} [Inhabited α] (enc:α->Value) {w:World} {g m:Nat} {d:Array α} {os:Array Obj} {cur:Array Value} (hg:w.heap[g]? =some (.cells cur 35 (0,0))) {x:VE} (h:x.ok w):x.ok (sortWorld enc w g 0 m d os):=by
 refine ⟨h.1.keep fun b cs fr hb=>sortV_heap enc w g m d os (lt_of_heap hb) (fun hh=>?_),h.2⟩
 subst hh
 rw [hg] at hb
 injection hb with hb
 injection hb with _ he
 exact absurd he (by decide)
def VRowV (w:World) (g:Nat) (els:List VE):Prop:=∃cur,w.heap[g]? =some (.cells cur 35 (0,0))/\∀(i:Nat) (x:VE),els[i]? =some x->cur[i]? =some x.enc
theorem VRowV.cell {w:World} {g:Nat} {els:List VE} (h:VRowV w g els) {i:Nat} {x:VE} (hx:els[i]? =some x):w.cell? ⟨g,i,none⟩=some x.enc/\w.frozen? ⟨g,i,none⟩=false/\g<w.heap.size:=by
 obtain ⟨cur,hg,hc⟩:=h
 exact ⟨by rw [cell_of_row w g i _ _ _ hg];exact hc i x hx,by simp [World.frozen?,hg],lt_of_heap hg⟩
theorem VRowV.holds {w w0:World} {g:Nat} {D:List (VEw w0)} (h:VRowV w g (D.map VEw.val)):Sort.Holds (encV w0) w g 0 D.toArray:=fun j hj=>by
 have hj2:j<D.length:=by simpa using hj
 obtain ⟨x,hx⟩:∃x,D[j]? =some x:=⟨_,List.getElem?_eq_getElem hj2⟩
 have h1:=h.cell (i:=j) (x:=x.val) (by rw [List.getElem?_map,hx];rfl)
 have :D.toArray[j]! =x:=by simp [hx]
 rw [Nat.zero_add,this]
 exact ⟨h1.1,h1.2.1⟩
theorem exists_VEw {w:World} {els:List VE} (hok:∀x∈els,x.ok w):∃D:List (VEw w),D.map VEw.val=els:=⟨els.pmap VEw.mk hok,by rw [List.map_pmap];simp⟩
theorem SortV_any {w:World} {g cap:Nat} {els:List VE} (hrow:VRowV w g els) (hok:∀x∈els,x.ok w) (hn:els.length<4611686018427387904):
  Calls Tryz.prog 111 #[.slice (some ⟨g,0,none⟩) els.length cap,.func (.func 108) #[] #[]] w fun e w'=>e= .returned (.tuple #[])/\∃els':List VE,els'.Perm els/\els'.Pairwise (fun x y=>¬lexI y.l x.l<0)/\VRowV w' g els'/\(∀x∈els',x.ok w')/\Same g w w':=by
 obtain ⟨D,hD⟩:=exists_VEw hok
 have hDl:D.length=els.length:=by rw [<-hD];simp
 rw [<-hD] at hrow
 have hH:=hrow.holds
 obtain ⟨cur,hg,hcur⟩:=hrow
 have hcmp:CmpLays1 Tryz.prog 108 #[] (encV w) (cfV w) g 0 D.toArray.size w:=CmpReads.lays fun m os dk _ x y=>by
  have hx:=VE.ok_sort (encV w) (m:=m) (d:=dk) (os:=os) hg x.ok
  have hy:=VE.ok_sort (encV w) (m:=m) (d:=dk) (os:=os) hg y.ok
  exact (vCompare_any hx.1 hy.1 hx.2.1 hy.2.1).mono fun e w' h=>⟨h.1,0,h.2.symm⟩
 have h:=Any.slices_SortFunc (P:=Tryz.prog) Tryz.laysSortV (encV w) (fun x=>rfl) (cfV w) (swoV w) 108 #[] g 0 cap D.toArray w (enters_of Tryz.func108 (by kernel_rfl) rfl) hcmp hH (lt_of_heap hg) (by simpa [hDl] using hn)
 have e0:D.toArray.size=els.length:=by simpa using hDl
 rw [e0] at h
 refine h.mono ?_
 rintro e w' ⟨he,d',n,os,⟨hp1,-,hp2⟩,hs,hw⟩
 refine ⟨he,d'.toList.map VEw.val,?_,?_,?_,?_,?_⟩
 ·have e1:d'.extract 0 els.length=d':=by apply Array.ext';simp;rw [List.take_of_length_le (by simp;omega)]
  have e2:(D.toArray).extract 0 els.length=D.toArray:=by rw [<-e0];exact Array.extract_size
  rw [e1,e2] at hp2
  rw [<-hD]
  exact hp2.map _
 ·rw [List.pairwise_map,List.pairwise_iff_getElem]
  intro i j hi hj hij
  have :=hs i j (Nat.zero_le _) hij (by simp at hj;omega)
  have e3:d'[j]! =d'.toList[j]:=by simp at hj;simp [hj]
  have e4:d'[i]! =d'.toList[i]:=by simp at hi;simp [hi]
  rw [e3,e4] at this
  exact of_decide_eq_false this
 ·refine ⟨_,by rw [hw];exact sortV_row (encV w) w g n d' os hg,fun i x hx=>?_⟩
  rw [List.getElem?_map] at hx
  obtain ⟨y,hy,rfl⟩:∃y,d'.toList[i]? =some y/\y.val=x:=by
   cases hh:d'.toList[i]? with
   |none=>rw [hh] at hx;cases hx
   |some y=>rw [hh] at hx;exact ⟨y,rfl,by simpa using hx⟩
  have hi:i<d'.size:=by simpa using (List.getElem?_eq_some_iff.1 hy).1
  have hdi:d'[i]! =y:=by
   have :=(List.getElem?_eq_some_iff.1 hy).2
   simp [hi];simpa using this
  have hcs:i<cur.size:=by
   have hlen:i<D.length:=by omega
   have :=hcur i D[i].val (by simp [hlen])
   exact (Array.getElem?_eq_some_iff.1 this).1
  unfold Sort.putCells
  rw [Array.getElem?_mapIdx,Array.getElem?_eq_getElem hcs]
  simp only [Option.map_some]
  rw [if_pos (by omega),Nat.sub_zero,hdi];rfl
 ·intro x hx
  obtain ⟨y,-,rfl⟩:=List.mem_map.1 hx
  rw [hw]
  exact VE.ok_sort (encV w) hg y.ok
 ·rw [hw]
  exact ⟨fun b hb hne=>sortV_heap _ w g n d' os hb hne,fun B hB=>sortV_below _ w g n d' os hB (lt_of_heap hg)⟩
theorem SW.ext {w w':World} {g:Nat} {D:List (VEw w)} (hH:Sort.Holds (encV w) w g 0 D.toArray) (h:SW (encV w) w g 0 D.toArray w'):Ext w w':=by
 obtain ⟨n,os,rfl⟩:=h
 unfold sortWorld
 rw [Sort.putRow_self _ _ _ _ _ (Sort.holds_ahead _ _ n _ _ _ hH)]
 exact ⟨⟨rfl,rfl,rfl,by simp [Sort.grow,Sort.ahead],fun b hb=>Sort.heap_grow_old (Sort.ahead w n) os hb⟩⟩
def RetFind (w:World) (P:List (List Int)) (y:List Int) (e:Ending) (w':World):Prop:=∃(i:Nat) (b:Bool),e= .returned (.tuple #[.int .i64 i,.bool b])/\i<=P.length/\(b=true->P[i]? =some y)/\(b=false->y∉P)/\Step w w'
theorem SearchV_any {w:World} {g cap c:Nat} {els:List VE} {Y:Option Addr} {y:List Int} (hrow:VRowV w g els) (hok:∀x∈els,x.ok w) (hn:els.length<4611686018427387904) (hs:(els.map VE.l).Pairwise (fun x y=>lexI x y<0)) (hY:Ints w Y 2 .i64 y) (hy:y.length<=1099511627776):
  Calls Tryz.prog 107 #[.slice (some ⟨g,0,none⟩) els.length cap,.slice Y y.length c,.func (.func 108) #[] #[]] w (RetFind w (els.map VE.l) y):=by
 obtain ⟨D,hD⟩:=exists_VEw hok
 have hDl:D.length=els.length:=by rw [<-hD];simp
 rw [<-hD] at hrow
 have hH:=hrow.holds
 obtain ⟨cur,hg,hcur⟩:=hrow
 have hcmp:CmpLaysT Tryz.prog 108 #[] (encV w) (.slice Y y.length c) (fun x=>lexI x.val.l y) g 0 D.toArray.size w:=fun m os dk _ x=>by
  have hx:=VE.ok_sort (encV w) (m:=m) (d:=dk) (os:=os) hg x.ok
  have hy:=VE.ok_sort (encV w) (m:=m) (d:=dk) (os:=os) hg (x:=⟨Y,y.length,y⟩) ⟨hY,hy,Nat.le_refl _,Nat.le_trans hy (by decide)⟩
  exact (vCompare_any hx.1 hy.1 hx.2.1 hy.2.1).mono fun e w' h=>⟨h.1,0,#[],by rw [Sort.grow_empty];exact h.2.symm⟩
 have hpl:D.Pairwise fun a b=>lexI a.val.l b.val.l<0:=by
  rw [<-hD,List.map_map,List.pairwise_map] at hs
  exact hs
 have hget:∀i (hi:i<D.length),D.toArray[i]! =D[i]:=fun i hi=>by simp [hi]
 have h:=Any.slices_BinarySearchFunc (P:=Tryz.prog) Tryz.laysFindV (encV w) (fun x=>rfl) (.slice Y y.length c) (fun x=>lexI x.val.l y) 108 #[] g 0 cap D.toArray w (enters_of Tryz.func108 (by kernel_rfl) rfl) hcmp hH (lt_of_heap hg) (by simpa [hDl] using hn) (fun a b hab hb h0=>by
  have hb:b<D.length:=by simpa using hb
  rw [hget b hb] at h0
  rw [hget a (by omega)]
  rcases Nat.lt_or_ge a b with h |h
  ·exact lexI_trans _ _ _ (List.pairwise_iff_getElem.1 hpl a b (by omega) hb h) h0
  ·obtain rfl:a=b:=by omega
   exact h0)
 have e0:D.toArray.size=els.length:=by simpa using hDl
 rw [e0] at h
 refine h.mono ?_
 rintro e w' ⟨he,hsw⟩
 obtain ⟨i,hi⟩:∃i,i=D.countP fun x=>decide (lexI x.val.l y<0):=⟨_,rfl⟩
 have hil:i<=D.length:=by rw [hi];exact List.countP_le_length
 have e9:D.toArray.toList=D:=rfl
 rw [e9,<-hi] at he
 refine ⟨i,_,he,by rw [List.length_map];omega,fun hb=>?_,fun hb=>?_,(SW.ext hH hsw).toStep⟩
 ·rw [Bool.and_eq_true] at hb
  have h1:=of_decide_eq_true hb.1
  have h2:=of_decide_eq_true hb.2
  rw [hget i (by omega)] at h2
  have :=lexI_eq _ _ h2
  rw [<-hD,List.map_map,List.getElem?_map,List.getElem?_eq_getElem (by omega)]
  exact congrArg some this
 ·intro hm
  rw [<-hD,List.map_map] at hm
  obtain ⟨x,hx,hxy⟩:=List.mem_map.1 hm
  obtain ⟨j,hj,hjx⟩:=List.getElem_of_mem hx
  have hxy:x.val.l=y:=hxy
  -- what is before j is less, what is behind it is not
  have hcnt:i=j:=by
   rw [hi]
   have hsplit:D=D.take j++D.drop j:=(List.take_append_drop j D).symm
   have h1:(D.take j).countP (fun x=>decide (lexI x.val.l y<0))=j:=by
    have :(D.take j).countP (fun x=>decide (lexI x.val.l y<0))=(D.take j).length:=by
     rw [List.countP_eq_length]
     intro z hz
     obtain ⟨k,hk,hkz⟩:=List.getElem_of_mem hz
     rw [List.length_take] at hk
     rw [List.getElem_take] at hkz
     have :=List.pairwise_iff_getElem.1 hpl k j (by omega) hj (by omega)
     rw [hkz,hjx,hxy] at this
     exact decide_eq_true this
    rw [this,List.length_take];omega
   have h2:(D.drop j).countP (fun x=>decide (lexI x.val.l y<0))=0:=by
    rw [List.countP_eq_zero]
    intro z hz
    obtain ⟨k,hk,hkz⟩:=List.getElem_of_mem hz
    rw [List.length_drop] at hk
    rw [List.getElem_drop] at hkz
    rcases Nat.eq_zero_or_pos k with h0 |h0
    ·subst h0
     have :z=x:=by rw [<-hkz,<-hjx];rfl
     rw [this,hxy,lexI_self];decide
    ·have :=List.pairwise_iff_getElem.1 hpl j (j+k) hj (by omega) (by omega)
     rw [hkz,hjx,hxy] at this
     have e:=lexI_anti y z.val.l
     simp;omega
   rw [hsplit,List.countP_append,h1,h2];rfl
  subst hcnt
  rw [hget i hj,hjx,hxy,lexI_self] at hb
  simp at hb
  omega
end Go.Proofs.YtpcgfpmiphiacaaGreat
namespace Go.Proofs.YtpcgfpmiphiacaaGreat
open Go.RowKit La
theorem mixZ_lt {z:Int} (h:z<18446744073709551616):0<=mixZ z/\mixZ z<18446744073709551616:=by
 unfold mixZ
 have :=mixN_lt z.toNat (by omega)
 omega
theorem wU_def (z:Int):wU z=z%18446744073709551616:=IntKind.wrap_u64 z
theorem wU_lt (z:Int):0<=wU z/\wU z<18446744073709551616:=by rw [wU_def];omega
theorem blZ_lt (c i:Int):0<=blZ c i/\blZ c i<18446744073709551616:=mixZ_lt (wU_lt _).2
theorem clR_lt (m:List (List Int)) (c:List Int->Int) (p x:List Int):0<=clR m c p x/\clR m c p x<18446744073709551616:=blZ_lt _ _
theorem imix_int {w:World} {z:Int} (h0:0<=z) (h:z<18446744073709551616):Calls Tryz.prog 174 #[.int .u64 z] w (RetSame w (.int .u64 (mixZ z))):=by
 obtain ⟨X,rfl⟩:∃X:Nat,z=X:=⟨z.toNat,by omega⟩
 exact imix_any X (by omega)
theorem iblend_any {w:World} {c i:Int} (h0:0<=c) (h:c<18446744073709551616) (hi0:-9223372036854775808<=i) (hi:i<=9223372036854775807):Calls Tryz.prog 175 #[.int .u64 c,.int .i64 i] w (RetSame w (.int .u64 (blZ c i))):=by
 have e:IntKind.u64.wrap (IntKind.u64.wrap (c+IntKind.u64.wrap (IntKind.u64.wrap i*0x9e3779b97f4a7c15))+1)=wU (c+i*0x9e3779b97f4a7c15+1):=by
  unfold wU
  simp only [IntKind.wrap_u64]
  omega
 have HM:=Lib.hid (fun W=>imix_int (w:=W) (wU_lt (c+i*0x9e3779b97f4a7c15+1)).1 (wU_lt _).2)
 rw [<-e] at HM
 have HV:Hid (blZ c i=mixZ (IntKind.u64.wrap (IntKind.u64.wrap (c+IntKind.u64.wrap (IntKind.u64.wrap i*0x9e3779b97f4a7c15))+1))):=Lib.hid (by rw [e];rfl)
 rw [HV.out]
 clear HV e
 go_enter Tryz.func175,Tryz.ntmps175
 go_wp2_with (go_at_call 174;refine (HM.out _).mono ?_;rintro e w' ⟨rfl,rfl⟩)
 go_ret
 exact ⟨rfl,rfl⟩
theorem Only.at_ {g:Nat} {w w':World} (h:Only g w w') {b:Nat} (hb:b<w.heap.size) (hne:b≠g):w'.heap[b]? =w.heap[b]? :=by
 rcases Nat.lt_or_ge b g with h1 |h1
 ·exact h.below.block b h1
 ·exact h.rest b (by omega) hb
theorem Only.oth {g:Nat} {w w':World} {l:List Int} (h:Only g w w') (hg:Row w g 168 .u64 l):Oth 168 w w':=fun b cs e fr hne hb=>(h.at_ (lt_of_heap hb) (fun e'=>by
 subst e'
 unfold Row at hg
 rw [hg] at hb
 injection hb with hb
 injection hb with _ he
 exact hne he.symm)).trans hb
theorem Row.only {g b:Nat} {w w':World} {e:TypeId} {k:IntKind} {l:List Int} (h:Row w b e k l) (ho:Only g w w') (hne:b≠g):Row w' b e k l:=(ho.at_ h.lt hne).trans h
theorem Only.cell {g:Nat} {w w':World} (h:Only g w w') {p:Addr} (hp:p.block<w.heap.size) (hne:p.block≠g):w'.cell? p=w.cell? p:=by
 unfold World.cell?
 rw [h.at_ hp hne]
def mixL (F l:List Int) (j:Nat):List Int:=(List.range l.length).map fun t=>if t<j∨l.length<=t+j then F.getD t 0 else l.getD t 0
theorem mixL_len (F l:List Int) (j:Nat):(mixL F l j).length=l.length:=by simp [mixL]
theorem mixL_get (F l:List Int) (j:Nat) {t:Nat} (ht:t<l.length):(mixL F l j)[t]? =some (if t<j∨l.length<=t+j then F.getD t 0 else l.getD t 0):=by simp [mixL,ht]
theorem mixL_zero (F l:List Int):mixL F l 0=l:=by
 refine List.ext_getElem? fun t=>?_
 by_cases ht:t<l.length
 ·rw [mixL_get _ _ _ ht,if_neg (by omega),List.getD_eq_getElem?_getD,List.getElem?_eq_getElem ht];rfl
 ·rw [List.getElem?_eq_none (by rw [mixL_len];omega),List.getElem?_eq_none (by omega)]
theorem mixL_done {F l:List Int} {h:Nat} (hl:l.length=2*h) (hF:F.length=l.length):mixL F l h=F:=by
 refine List.ext_getElem? fun t=>?_
 by_cases ht:t<l.length
 ·rw [mixL_get _ _ _ ht,if_pos (by omega),List.getD_eq_getElem?_getD,List.getElem?_eq_getElem (by omega)];rfl
 ·rw [List.getElem?_eq_none (by rw [mixL_len];omega),List.getElem?_eq_none (by omega)]
theorem mixL_step {F l:List Int} {h j:Nat} (hl:l.length=2*h) (hj:j<h):((mixL F l j).set j (F.getD j 0)).set (l.length-1-j) (F.getD (l.length-1-j) 0)=mixL F l (j+1):=by
 refine List.ext_getElem? fun t=>?_
 rw [List.getElem?_set,List.getElem?_set,List.length_set,mixL_len]
 by_cases ht:t<l.length
 ·rw [mixL_get _ _ _ ht,mixL_get _ _ _ ht]
  by_cases e1:l.length-1-j=t
  ·subst e1
   rw [if_pos rfl,if_pos ht,if_pos (by omega)]
  ·rw [if_neg e1]
   by_cases e2:j=t
   ·subst e2
    rw [if_pos rfl,if_pos (by omega),if_pos (by omega)]
   ·rw [if_neg e2]
    congr 1
    by_cases e3:t<j∨l.length<=t+j
    ·rw [if_pos e3,if_pos (by omega)]
    ·rw [if_neg e3,if_neg (by omega)]
 ·rw [if_neg (by omega),if_neg (by omega),List.getElem?_eq_none (by rw [mixL_len];omega),List.getElem?_eq_none (by rw [mixL_len];omega)]
def endS (F:List Int):Nat->Int
 |0=>0
 |j+1=>endS F j+(F.getD j 0+F.getD (F.length-1-j) 0)
theorem endS_eq {F:List Int}:∀j,2*j<=F.length->endS F j=(F.take j).sum+(F.drop (F.length-j)).sum
 |0,_=>by simp [endS]
 |j+1,h=>by
  rw [endS,endS_eq j (by omega),List.take_add_one,List.sum_append]
  have e1:F[j]? =some (F.getD j 0):=by rw [List.getD_eq_getElem?_getD,List.getElem?_eq_getElem (by omega)];rfl
  have e2:F.drop (F.length-(j+1))=F.getD (F.length-1-j) 0::F.drop (F.length-j):=by
   rw [List.drop_eq_getElem_cons (by omega),List.getD_eq_getElem?_getD,List.getElem?_eq_getElem (show F.length-1-j<F.length by omega)]
   simp only [show F.length-(j+1)=F.length-1-j by omega,show F.length-1-j+1=F.length-j by omega,Option.getD_some]
  rw [e1,e2]
  simp
  omega
theorem endS_half {F:List Int} {h:Nat} (hl:F.length=2*h):endS F h=F.sum:=by
 rw [endS_eq h (by omega),show F.length-h=h by omega,<-List.sum_append,List.take_append_drop]
structure SysM (w:World) (sb so N pc dc:Nat) (PA DA:Option Addr) (m P:List (List Int)):Prop where
 cp:w.cell? ⟨sb,so,none⟩=some (.slice PA N pc)
 cd:w.cell? ⟨sb,so+1,none⟩=some (.slice DA N dc)
 lt:sb<w.heap.size
 pts:Mat64 w PA P
 duals:Mat64 w DA (P.map (applyW m))
 len:P.length=N
def RetRef (w:World) (g:Nat) (m P:List (List Int)) (c:List Int->Int) (p:List Int) (e:Ending) (w':World):Prop:=e= .returned (.int .u64 (wU (sumP P (clR m c p))))/\Row w' g 168 .u64 (P.map (clR m c p))/\Only g w w'
theorem rev_get {P:List (List Int)} (hsym:P.reverse.map (fun x=>x.map fun c=>-c)=P) {j:Nat} {x:List Int} (hj:P[j]? =some x):P[P.length-1-j]? =some (x.map fun c=>-c):=by
 have hl:=(List.getElem?_eq_some_iff.1 hj).1
 have h:=congrArg (fun l=>l[P.length-1-j]?) hsym
 simp only [List.getElem?_map] at h
 rw [List.getElem?_reverse (by omega),show P.length-1-(P.length-1-j)=j by omega,hj] at h
 exact h.symm
theorem ipR_neg_right (m:List (List Int)) (x y:List Int):ipR m x (y.map fun c=>-c)=-ipR m x y:=by
 unfold ipR
 rw [<-Int.neg_one_mul,<-sumR_mul]
 refine sumR_congr fun i _=>?_
 have e:(sumR m.length fun j=>ent m i j*(y.map fun c=>-c).getD j 0)=-1*sumR m.length fun j=>ent m i j*y.getD j 0:=by
  rw [<-sumR_mul]
  exact sumR_congr fun j _=>by rw [getD_neg,Int.mul_neg,Int.neg_one_mul]
 rw [e,<-Int.mul_assoc,<-Int.mul_assoc,Int.mul_comm (-1)]
set_option maxRecDepth 20000 in
theorem irefine_ok {w:World} {sb so N pc dc cc nc cg g h i n:Nat} {PA DA:Option Addr} {m P:List (List Int)} {c:List Int->Int} {p:List Int} {l:List Int}
  (hS:SysM w sb so N pc dc PA DA m P) (hsg:sb≠g) (hN:N=2*h) (hN8:N<=100000) (hC:Row w cg 168 .u64 (P.map c)) (hcg:cg≠g) (hG:Row w g 168 .u64 l) (hl:l.length=N) (hcb:∀x∈P,0<=c x/\c x<18446744073709551616)
  (hp:P[i]? =some p) (hml:m.length=n) (hrow:∀x∈P,x.length=n) (hn:n<=1000) (hsym:P.reverse.map (fun x=>x.map fun c=>-c)=P) (hip:∀x∈P,∀y∈P,ipR m x y=dotL (applyL m x) y):
  Calls Tryz.prog 177 #[.pointer (some ⟨sb,so,none⟩),.slice (some ⟨cg,0,none⟩) N cc,.int .i64 i,.slice (some ⟨g,0,none⟩) N nc] w (RetRef w g m P c p):=by
 obtain ⟨F,hF⟩:∃F,P.map (clR m c p)=F:=⟨_,rfl⟩
 have hFl:F.length=N:=by rw [<-hF,List.length_map];exact hS.len
 have HSUM:Hid (wU (sumP P (clR m c p))=wU (endS F h)):=Lib.hid (by
  unfold sumP
  rw [hF,endS_half (by omega)])
 have hFb:∀z∈F,0<=z/\z<18446744073709551616:=fun z hz=>by
  rw [<-hF] at hz
  obtain ⟨x,-,rfl⟩:=List.mem_map.1 hz
  exact clR_lt _ _ _ _
 have hFx:∀(j:Nat) (x:List Int),P[j]? =some x->F.getD j 0=blZ (c x) (wI (ipR m p x)):=fun j x hx=>by
  rw [<-hF,List.getD_eq_getElem?_getD,List.getElem?_map,hx];rfl
 have hpm:p∈P:=List.mem_of_getElem? hp
 have hiN:i<N:=by have h1:=(List.getElem?_eq_some_iff.1 hp).1;rw [hS.len] at h1;exact h1
 have hdv:(N:Int) / 2=(h:Int):=by omega
 have hN1:2*h<=N/\N<=2*h:=by omega
 obtain ⟨bd,od,DB,dcp,rfl,d1,hDB,d3,d4,d5⟩:=hS.duals.at_ (i:=i) (r:=applyW m p) (by rw [List.getElem?_map,hp];rfl)
 have hlA:(applyW m p).length=n:=by simp [applyW,hml]
 rw [hlA] at d1 d3
 have HS:=Lib.hid hS
 have HC:=Lib.hid hC
 have HCB:=Lib.hid hcb
 have HR:=Lib.hid hrow
 have HSY:=Lib.hid hsym
 have HIP:=Lib.hid hip
 have HFX:=Lib.hid hFx
 have HFL:=Lib.hid hFl
 have HFB:=Lib.hid hFb
 have HLL:=Lib.hid hl
 have HDB:=Lib.hid hDB
 have HLA:=Lib.hid hlA
 have HPM:=Lib.hid hpm
 have HM0:Hid (Row w g 168 .u64 (mixL F l 0)):=Lib.hid (by rw [mixL_zero];exact hG)
 have HG:=Lib.hid hG
 have s1:=hS.cp
 have s2:=hS.cd
 have oS:Old sb w:=⟨hS.lt⟩
 have oD:Old bd w:=⟨d5⟩
 have hgl:=hG.lt
 have hcl:=hC.lt
 unfold RetRef
 rw [HSUM.out,hF]
 clear HSUM hS hC hcb hrow hsym hip hFx hFl hFb hl hDB hlA hpm hG hp hF hN hml
 go_enter Tryz.func177,Tryz.ntmps177
 go_wp2_with fail
 go_loopw [11,12,13,33] (fun t _ _ j wr=>∃k:Nat,k<=h/\j= .int .i64 k/\t= .int .u64 (wU (endS F k))/\Hid (Row wr g 168 .u64 (mixL F l k))/\Hid (Only g w wr)) (fun _ _ _ j _=>h-(intOf j).toNat)
 case atStart=>exact ⟨0,by omega,rfl,rfl,HM0,Lib.hid (Only.refl _ _)⟩
 case round=>
  obtain ⟨k,hk,rfl,rfl,HM,HO⟩:=hrel
  have hOth:=HO.out.oth HG.out
  by_cases hlt:k<h
  ·obtain ⟨x,hx⟩:∃x,P[k]? =some x:=⟨_,List.getElem?_eq_getElem (by rw [HS.out.len];omega)⟩
   have hxm:=List.mem_of_getElem? hx
   have hxr:=rev_get HSY.out hx
   rw [HS.out.len] at hxr
   have hxrm:=List.mem_of_getElem? hxr
   obtain ⟨pb,po,B,c1,rfl,p1,hB,p3,p4,p5⟩:=(HS.out.pts.oth hOth (by decide) (by decide)).at_ hx
   rw [HR.out x hxm] at p1 p3
   have q1:wr.cell? ⟨sb,so,none⟩=some (.slice (some ⟨pb,po,none⟩) N pc):=(HO.out.cell (p:=⟨sb,so,none⟩) HS.out.lt hsg).trans s1
   have oSr:Old sb wr:=⟨Nat.lt_of_lt_of_le HS.out.lt HO.out.size⟩
   have oPr:Old pb wr:=⟨p5⟩
   have hdw:dotW (applyW m p) x=wI (ipR m p x):=by rw [dotW_apply];unfold dotW;rw [HIP.out p HPM.out x hxm];rfl
   have HD:=Lib.hid (fun W (e:Ext wr W)=>idot_any (w0:=wr) (w:=W) (c:=dcp) (d:=c1) ⟨_,HDB.out.oth hOth (by decide)⟩ ⟨_,hB⟩ HLA.out (HR.out x hxm) (Nat.le_refl _) (by omega))
   rw [hdw] at HD
   have hC:=HC.out.only HO.out hcg
   obtain ⟨ca,hca,a1⟩:=hC.cell (i:=k) (by rw [List.length_map,HS.out.len];omega)
   obtain ⟨cb,hcb,a2⟩:=hC.cell (i:=N-1-k) (by rw [List.length_map,HS.out.len];omega)
   rw [List.getElem?_map,hx] at hca
   rw [List.getElem?_map,hxr] at hcb
   simp only [Option.map_some,Option.some.injEq] at hca hcb
   have b1:=HCB.out x hxm
   have b2:=HCB.out _ hxrm
   rw [hca] at b1
   rw [hcb] at b2
   obtain ⟨v,hv⟩:∃v,wI (ipR m p x)=v:=⟨_,rfl⟩
   have hvb:-9223372036854775808<=v/\v<=9223372036854775807:=by rw [<-hv];unfold wI;simp only [IntKind.wrap_i64];omega
   have hv2:wI (ipR m p (x.map fun c=>-c))=IntKind.i64.wrap (-v):=by
    rw [ipR_neg_right,<-hv];unfold wI;simp only [IntKind.wrap_i64];omega
   obtain ⟨v2,hv2e⟩:∃v2,IntKind.i64.wrap (-v)=v2:=⟨_,rfl⟩
   have hvb2:-9223372036854775808<=v2/\v2<=9223372036854775807:=by rw [<-hv2e];simp only [IntKind.wrap_i64];omega
   rw [hv] at HD
   have hf1:=HFX.out k x hx
   have hf2:=HFX.out (N-1-k) _ hxr
   rw [hca,hv] at hf1
   rw [hcb,hv2,hv2e] at hf2
   have HB1:=Lib.hid (fun W=>iblend_any (w:=W) (c:=ca) (i:=v) b1.1 b1.2 hvb.1 hvb.2)
   have HB2:=Lib.hid (fun W=>iblend_any (w:=W) (c:=cb) (i:=v2) b2.1 b2.2 hvb2.1 hvb2.2)
   rw [<-hf1] at HB1
   rw [<-hf2] at HB2
   obtain ⟨y1,hy1,m1⟩:=HM.out.cell (i:=k) (by rw [mixL_len,HLL.out];omega)
   have m2:=HM.out.frozen k
   obtain ⟨y2,hy2,m3⟩:=HM.out.cell (i:=N-1-k) (by rw [mixL_len,HLL.out];omega)
   have m4:=HM.out.frozen (N-1-k)
   have hgr:=HM.out.lt
   have hcr:=hC.lt
   have HST:=Lib.hid (mixL_step (F:=F) (l:=l) (h:=h) (j:=k) (by rw [HLL.out];omega) hlt)
   rw [HLL.out] at HST
   have hfb1:0<=F.getD k 0/\F.getD k 0<18446744073709551616:=by rw [hf1];exact blZ_lt _ _
   have hfb2:0<=F.getD (N-1-k) 0/\F.getD (N-1-k) 0<18446744073709551616:=by rw [hf2];exact blZ_lt _ _
   have HSU:Hid (wU (endS F (k+1))=IntKind.u64.wrap (wU (endS F k)+IntKind.u64.wrap (F.getD k 0+F.getD (N-1-k) 0))):=Lib.hid (by
    rw [endS,HFL.out];unfold wU;simp only [IntKind.wrap_u64];omega)
   have HCC:=Lib.hid hC
   have hidx:(N:Int)-1-(k:Int)=((N-1-k:Nat):Int):=by omega
   generalize F.getD k 0=f1 at*
   generalize F.getD (N-1-k) 0=f2 at*
   generalize wU (endS F k)=t0 at*
   clear hdw hC hca hcb hx hxm hxr hxrm hv hv2 hf1 hf2 hB hy1 hy2 hOth p3 p4
   go_upto_region 9 with (first
    |(go_at_call 110;refine (HD.out _ inferInstance).mono ?_;rintro e w5 ⟨rfl,rfl⟩)
    |(go_at_call 175;refine (HB1.out _).mono ?_;rintro e w6 ⟨rfl,rfl⟩))
   have hR7:=HM.out.set k f1
   have hC7:=HCC.out.far (p:=⟨g,k,none⟩) hcg (.int .u64 f1)
   have hO7:=HO.out.trans (Only.set hgr k (.int .u64 f1))
   have hx7:wr.heap.size=(wr.setCell ⟨g,k,none⟩ (.int .u64 f1)).heap.size:=(size_setCell _ _ _).symm
   generalize wr.setCell ⟨g,k,none⟩ (.int .u64 f1)=w7 at*
   obtain ⟨z1,hz1,n1⟩:=hC7.cell (i:=N-1-k) (by rw [List.length_map,HS.out.len];omega)
   obtain ⟨z2,hz2,n2⟩:=hR7.cell (i:=N-1-k) (by rw [List.length_set,mixL_len,HLL.out];omega)
   have n3:=hR7.frozen (N-1-k)
   have hz:z1=cb:=by
    have h1:=HCC.out.cell (i:=N-1-k) (by rw [List.length_map,HS.out.len];omega)
    obtain ⟨z,e1,e2⟩:=h1
    rw [a2] at e2
    rw [hz1] at e1
    injection e1 with e1
    injection e2 with e2
    injection e2 with _ e2
    omega
   subst hz
   have hg7:=hR7.lt
   have hc7:=hC7.lt
   have HR7:=Lib.hid hR7
   have HO7:=Lib.hid hO7
   clear a1 a2 m1 m2 m3 m4 q1 p1 hR7 hC7 hO7 hz1 hz2 HD HB1
   rw [hidx] at*
   go_upto_region 10 with (go_at_call 175;refine (HB2.out _).mono ?_;rintro e w6 ⟨rfl,rfl⟩)
   have hR8:=HR7.out.set (N-1-k) f2
   rw [HST.out] at hR8
   have hO8:=HO7.out.trans (Only.set hg7 (N-1-k) (.int .u64 f2))
   have HG1:Hid ((mixL F l (k+1))[k]? =some f1/\(mixL F l (k+1))[N-1-k]? =some f2):=Lib.hid (by
    rw [<-HST.out]
    have hl1:((mixL F l k).set k f1).length=N:=by rw [List.length_set,mixL_len,HLL.out]
    refine ⟨?_,by rw [List.getElem?_set_self (by omega)]⟩
    rw [List.getElem?_set_ne (by omega),List.getElem?_set_self (by rw [List.length_set] at hl1;omega)])
   generalize w7.setCell ⟨g,N-1-k,none⟩ (.int .u64 f2)=w8 at*
   obtain ⟨u1,e1,r1⟩:=hR8.cell (i:=k) (by rw [mixL_len,HLL.out];omega)
   obtain ⟨u2,e2,r2⟩:=hR8.cell (i:=N-1-k) (by rw [mixL_len,HLL.out];omega)
   rw [HG1.out.1] at e1
   rw [HG1.out.2] at e2
   obtain rfl:f1=u1:=by injection e1
   obtain rfl:f2=u2:=by injection e2
   have HR8:=Lib.hid hR8
   have HO8:=Lib.hid hO8
   clear n1 n2 n3 hR8 hO8 e1 e2 HB2
   go_region
   all_goals
    go_wp2_with fail
    exact ⟨⟨k+1,by omega,by go_num,congrArg (Value.int IntKind.u64) HSU.out.symm,Lib.hid (HR8.out.ext inferInstance),Lib.hid (HO8.out.trans (Only.of_ext inferInstance (Nat.le_of_lt (lt_of_heap HR8.out))))⟩,by simp [intOf];omega⟩
  ·obtain rfl:k=h:=by omega
   have hmf:mixL F l k=F:=mixL_done (by rw [HLL.out];omega) (by rw [HLL.out,HFL.out])
   rw [hmf] at HM
   go_wp2_with fail
   go_ret
   exact ⟨rfl,HM.out,HO.out⟩
end Go.Proofs.YtpcgfpmiphiacaaGreat
namespace Go.Proofs.YtpcgfpmiphiacaaGreat
open Go.RowKit
def RetVG (w:World) (m:List (List Int)) (q:Nat) (budget:Int) (e:Ending) (w':World):Prop:=
 (∃B d L,e= .returned (.tuple #[.slice B (List.length L) d,.int .i64 (totS m q),.int .i64 0])/\Mat64 w' B L/\L.length<=d/\d<=9223372036854775807/\VecList m q false L/\L.length<=4096/\totS m q<=budget/\Step w w')∨
 ∃k:Int,e= .returned (.tuple #[.slice none 0 0,.int .i64 0,.int .i64 k])/\((k=7/\totS m q<=budget/\4096<(collL m q false).length)∨(k=9/\budget<totS m q))/\Step w w'
theorem Vectors_gen {w0 w:World} {A:Option Addr} {c q n:Nat} {m:List (List Int)} {budget:Int} (h:MatA w0 A m) (hn:m.length=n) (hc:n<=c) (hc2:c<=9223372036854775807) (hr:isRedB m=true) (hq:(q:Int)<1073741824) (hu0:0<=budget) (hu1:budget<=1000000) [hx:Ext w0 w]:
  Calls Tryz.prog 34 #[.slice A n c,.int .i64 q,.int .i64 budget] w (RetVG w m q budget):=by
 subst hn
 have hR:=red_ok hr
 have hl:=isSmallB_len hR.small
 have hst:=(steps_ok hr (b:=q) hq).1
 have hlast:=hst.last_le (by omega)
 have hll:=hst.last
 have hsl:=sum_ge_len _ hst.one
 have hsum:=hst.sum
 have hlen:=hst.len
 have hspec:=hst.spec budget hu0 hu1
 rcases Int.lt_or_le budget (totS m q) with hb |hb
 ·rw [if_neg (by omega)] at hspec
  exact (Vectors_err h (by omega) hc hc2 (fun _=>hR.form) hspec (by omega) (by omega)).mono fun e w' ⟨he,hs⟩=> .inr ⟨9,he,.inr ⟨rfl,hb⟩,hs⟩
 ·rw [if_pos hb] at hspec
  have hmx:∀x∈stS m q,0<=x/\x<=1099511627776:=fun x hx=>by
   have h1:=hst.one x hx
   have :x<=(stS m q).sum:=mem_le_sum hst.one hx
   omega
  rcases Nat.lt_or_ge 4096 (collL m q false).length with hbig |hsm
  ·exact (Vectors_big h (by omega) hc hc2 (fun _=>hR.form) hspec (by omega) (by omega) (by omega) (by omega) (by omega)).mono fun e w' ⟨he,hs⟩=> .inr ⟨7,he,.inl ⟨rfl,hb,hbig⟩,hs⟩
  ·refine (Vectors_ok h hc hc2 (enum_ok hr hq false (by omega)) hspec (by omega) (by omega) (by omega) hmx (by omega)).mono ?_
   rintro e w' ⟨B,d,L,he,hM,h1,h2,hp,hw,hs⟩
   rw [hsum] at he
   refine .inl ⟨B,d,L,he,hM,h1,h2,vecList_of hR (by omega) hp hw,?_,hb,hs⟩
   have :=hp.length_eq
   simp at this
   omega
end Go.Proofs.YtpcgfpmiphiacaaGreat
