/- Ref3 Bd0 Lp Rq Boxs OwnZ Ref6 -/
import Derived.Test.YtpcgfpmiphiacaaGreatQ10
import Derived.Test.YtpcgfpmiphiacaaGreatProg
import Derived.Test.YtpcgfpmiphiacaaGreatShelf
set_option maxHeartbeats 8000000
set_option linter.unusedVariables false
set_option linter.unusedSimpArgs false
set_option linter.constructorNameAsVariable false
namespace Go.Proofs.YtpcgfpmiphiacaaGreat
open Go.RowKit
theorem run_fieldI1 (g:Bool) (B:Option Addr) (k d:Nat) (w:World):(Instr.field 149 (.agg #[.bool g,.slice B k d]) 1).run Tryz.prog w= .ok (.slice B k d) w:=by
 simp [Instr.field,run_underlying Tryz.underlying149,asAgg,part,sizeOf,typeInfo,go_sem]
theorem run_fieldI0 (g:Bool) (B:Option Addr) (k d:Nat) (w:World):(Instr.field 149 (.agg #[.bool g,.slice B k d]) 0).run Tryz.prog w= .ok (.bool g) w:=by
 simp [Instr.field,run_underlying Tryz.underlying149,asAgg,part,sizeOf,typeInfo,go_sem]
attribute [go_sem] run_fieldI1 run_fieldI0
end Go.Proofs.YtpcgfpmiphiacaaGreat
namespace Go.Proofs.YtpcgfpmiphiacaaGreat
/-! ## Sizes in bits -/
def Bd (k:Nat) (z:Int):Prop:=z.natAbs<2^k
theorem Bd.mono {k l:Nat} {z:Int} (h:Bd k z) (hl:k<=l):Bd l z:=Nat.lt_of_lt_of_le h (Nat.pow_le_pow_right (by omega) hl)
theorem Bd.mul {k l:Nat} {x y:Int} (h:Bd k x) (h':Bd l y):Bd (k+l) (x*y):=by
 unfold Bd at*
 rw [Int.natAbs_mul,Nat.pow_add]
 exact Nat.mul_lt_mul_of_lt_of_lt h h'
theorem Bd.neg {k:Nat} {x:Int} (h:Bd k x):Bd k (-x):=by unfold Bd at*;rwa [Int.natAbs_neg]
theorem Bd.sub {k:Nat} {x y:Int} (h:Bd k x) (h':Bd k y):Bd (k+1) (x-y):=by
 unfold Bd at*;rw [Nat.pow_succ];omega
theorem Bd.zero (k:Nat):Bd k 0:=Nat.pow_pos (by omega)
theorem Bd.le {k:Nat} {x y:Int} (h:Bd k x) (hy:y.natAbs<=x.natAbs):Bd k y:=Nat.lt_of_le_of_lt hy h
theorem Bd.one {k:Nat} (h:1<=k):Bd k 1:=Nat.lt_of_lt_of_le (by decide:(1:Int).natAbs<2^1) (Nat.pow_le_pow_right (by omega) h)
end Go.Proofs.YtpcgfpmiphiacaaGreat
namespace Go.Proofs.YtpcgfpmiphiacaaGreat
open La
def BdM (k:Nat) (a:List (List Int)):Prop:=∀i j,Bd k (ent a i j)
theorem BdM.mono {k l:Nat} {a:List (List Int)} (h:BdM k a) (hl:k<=l):BdM l a:=fun i j=>(h i j).mono hl
/-! ## The state of the loop -/
def bigA:Rat:=((2^200:Nat):Rat)
inductive Rel (n:Nat) (a:List (List Int)):List (List Int)->Prop
 |refl:Rel n a a
 |red {h:List (List Int)} (i j:Nat) (q:Int):Rel n a h->j<i->i<n->Rel n a (congM n h (idRed n i j q))
 |swap {h:List (List Int)} (p:Nat):Rel n a h->p+1<n->Rel n a (congM n h (idSwap n p))
structure LS (n:Nat) (a h:List (List Int)) (N s i c:Nat):Prop where
 ll:LL n bigA (bigA^n) (bigA*n) (bigA*n*bigA^n) ((bigA^n)^n) N (ofZ (ent h)) s i c
 len:h.length=n
 all:AllLen h n
 det:dd (ofZ (ent h)) n<=10000
 n8:n<=8
 rel:Rel n a h
def nearQ (h:List (List Int)) (i j:Nat):Int:=(2*E (ent h) j i j+E (ent h) j j j) / (2*E (ent h) j j j)
theorem LS.red {n:Nat} {a h:List (List Int)} {N s i c:Nat} (hl:LS n a h N s i c) {i' j:Nat} (ha:AtRed (ofZ (ent h)) n i' j):
  LS n a (congM n h (idRed n i' j (nearQ h i' j))) N s i' (i'-j)/\rounds n N s i' (i'-j)<rounds n N s i c:=by
 have hpos:=hl.ll.j.pos
 have hj:j<n:=by have :=ha.hi;have :=ha.hj;omega
 have hE:=E_eq (ent h) j (hpos.le (by omega)).piv
 have hn:Near (ofZ (ent h)) i' j ((nearQ h i' j:Int):Rat):=near_exists hpos hj (E_pos hpos hj) (hE.1 i' j) (hE.1 j j)
 obtain ⟨h1,h2⟩:=hl.ll.red ha ⟨nearQ h i' j,rfl⟩ hn
 have hf:=form_red (q:=nearQ h i' j) hl.len hl.all ha.hi ha.hj
 refine ⟨⟨by rw [hf];exact h1,congM_len _ _ _,congM_all _ _ _,?_,hl.n8,.red _ _ _ hl.rel ha.hj ha.hi⟩,h2⟩
 rw [hf,dd_red _ ha.hj n hpos.piv]
 exact hl.det
theorem LS.sym {n:Nat} {a h:List (List Int)} {N s i c:Nat} (hl:LS n a h N s i c) (x y:Nat):ent h x y=ent h y x:=by
 have :=hl.ll.j.sym x y
 exact Rat.intCast_inj.1 this
/-! ## The start -/
structure Gm (n:Nat) (a:List (List Int)):Prop where
 n1:1<=n
 n8:n<=8
 len:a.length=n
 all:AllLen a n
 sym:∀i j,i<n->j<n->ent a i j=ent a j i
 pos:Pos (ofZ (ent a)) n
 det:E (ent a) (n-1) (n-1) (n-1)<=10000
 bd:BdM 199 a
end Go.Proofs.YtpcgfpmiphiacaaGreat
namespace Go.Proofs.YtpcgfpmiphiacaaGreat
structure RatOf (num den p q:Int):Prop where
 pos:0<q
 eq:p*den=num*q
 le1:p.natAbs<=num.natAbs
 le2:q.natAbs<=den.natAbs
theorem gcd_pos_of {num den:Int} (hd:den≠0):0<(Int.gcd num den:Int):=by
 have :Int.gcd num den≠0:=fun h=>hd (Int.gcd_eq_zero_iff.1 h).2
 omega
theorem RatOf.new {num den:Int} (hd:0<den):RatOf num den (num / Int.gcd num den) (den / Int.gcd num den):=by
 have hg:=gcd_pos_of (num:=num) (by omega:den≠0)
 obtain ⟨a,ha⟩:=Int.gcd_dvd_left (a:=num) (b:=den)
 obtain ⟨b,hb⟩:=Int.gcd_dvd_right (a:=num) (b:=den)
 generalize (Int.gcd num den:Int)=g at*
 have e1:num / g=a:=by rw [ha];exact Int.mul_ediv_cancel_left _ (by omega)
 have e2:den / g=b:=by rw [hb];exact Int.mul_ediv_cancel_left _ (by omega)
 refine ⟨?_,?_,Int.natAbs_ediv_le_natAbs _ _,Int.natAbs_ediv_le_natAbs _ _⟩
 ·rw [e2]
  rw [hb] at hd
  exact Int.pos_of_mul_pos_right hd (by omega)
 ·rw [e1,e2,ha,hb];grind
end Go.Proofs.YtpcgfpmiphiacaaGreat
namespace Go.Proofs.YtpcgfpmiphiacaaGreat
open Go.RowKit
class BlkAt (b:Nat) (cs:outParam (Array Value)) (T:outParam TypeId) (w:World):Prop where
 eq:w.heap[b]? =some (.cells cs T (0,0))
instance BlkAt.new (w:World) (n:Nat) (cs:Array Value) (T:TypeId) [h:Sz w n]:BlkAt n cs T (w.alloc (.cells cs T)):=⟨by rw [<-h.eq];exact heap_alloc_new w _⟩
instance (priority:=900) BlkAt.alloc (w:World) (b:Nat) (cs:Array Value) (T:TypeId) (o:Obj) [h:BlkAt b cs T w]:BlkAt b cs T (w.alloc o):=⟨(Below.heap_alloc w o b (lt_of_heap h.eq)).trans h.eq⟩
instance BlkAt.drew (w:World) (b:Nat) (cs:Array Value) (T:TypeId) [h:BlkAt b cs T w]:BlkAt b cs T w.drew:=⟨h.eq⟩
instance BlkAt.drewN (w:World) (b k:Nat) (cs:Array Value) (T:TypeId) [h:BlkAt b cs T w]:BlkAt b cs T (w.drewN k):=⟨h.eq⟩
instance (priority:=50) BlkAt.step (W w':World) (b:Nat) (cs:Array Value) (T:TypeId) [s:Step W w'] [h:BlkAt b cs T W]:BlkAt b cs T w':=⟨heap_of_ext s.ext h.eq⟩
instance BlkAt.set (w:World) (b i:Nat) (cs:Array Value) (T:TypeId) (u:Value) [h:BlkAt b cs T w]:BlkAt b (cs.setIfInBounds i u) T (w.setCell ⟨b,i,none⟩ u):=⟨heap_setCell_self h.eq u⟩
instance (priority:=900) BlkAt.far (w:World) (b b' i:Nat) (cs:Array Value) (T:TypeId) (u:Value) [h:BlkAt b cs T w] [ha:Apart b b']:BlkAt b cs T (w.setCell ⟨b',i,none⟩ u):=⟨heap_setCell_far h.eq ha.ne u⟩
instance Apart.s1 (n:Nat):Apart n (n+1):=⟨by omega⟩
instance Apart.s1' (n:Nat):Apart (n+1) n:=⟨by omega⟩
instance Apart.s2 (n:Nat):Apart n (n+1+1):=⟨by omega⟩
instance Apart.s2' (n:Nat):Apart (n+1+1) n:=⟨by omega⟩
instance Apart.s3 (n:Nat):Apart n (n+1+1+1):=⟨by omega⟩
instance Apart.s3' (n:Nat):Apart (n+1+1+1) n:=⟨by omega⟩
def Box (w:World) (b:Nat) (z:Int):Prop:=∃g B n c,w.heap[b]? =some (.cells #[.bool g,.slice B n c] 149 (0,0))/\IntV w g B n c z
section
variable {w w':World} {b b':Nat} {z:Int}
theorem Box.ext (h:Box w b z) (hx:Ext w w'):Box w' b z:=by
 obtain ⟨g,B,n,c,h1,h2⟩:=h
 exact ⟨g,B,n,c,heap_of_ext hx h1,h2.ext hx⟩
theorem Box.lt (h:Box w b z):b<w.heap.size:=by
 obtain ⟨g,B,n,c,h1,h2⟩:=h
 exact lt_of_heap h1
theorem Box.cells (h:Box w b z):∃g B n c,w.heap[b]? =some (.cells #[.bool g,.slice B n c] 149 (0,0))/\w.cell? ⟨b,0,none⟩=some (.bool g)/\w.cell? ⟨b,1,none⟩=some (.slice B n c)/\w.frozen? ⟨b,0,none⟩=false/\w.frozen? ⟨b,1,none⟩=false/\b<w.heap.size/\IntV w g B n c z:=by
 obtain ⟨g,B,n,c,h1,h2⟩:=h
 obtain ⟨a1,a2,a3,a4,a5⟩:=box_cells2 h1
 exact ⟨g,B,n,c,h1,a1,a2,a3,a4,a5,h2⟩
theorem Box.put {g:Bool} {B:Option Addr} {n c:Nat} {x y:Value} (h:w.heap[b]? =some (.cells #[x,y] 149 (0,0))) (hz:IntV w g B n c z):Box ((w.setCell ⟨b,0,none⟩ (.bool g)).setCell ⟨b,1,none⟩ (.slice B n c)) b z:=by
 refine ⟨g,B,n,c,?_,hz.boxed (by decide) h _ _⟩
 exact box_set2_1 (box_set2_0 h)
theorem Box.far {cs:Array Value} (h:Box w b z) (h':w.heap[b']? =some (.cells cs 149 (0,0))) (hne:b≠b') (i j:Nat) (u v:Value):Box ((w.setCell ⟨b',i,none⟩ u).setCell ⟨b',j,none⟩ v) b z:=by
 obtain ⟨g,B,n,c,h1,h2⟩:=h
 refine ⟨g,B,n,c,heap_setCell_far (heap_setCell_far h1 hne u) hne v,?_⟩
 exact (h2.setCell (p:=⟨b',i,none⟩) h' (by decide) u).setCell (p:=⟨b',j,none⟩) (heap_setCell_self h' u) (by decide) v
theorem Box.oth {T:TypeId} (h:Box w b z) (ho:Oth T w w') (h1:149≠T) (h2:271≠T):Box w' b z:=by
 obtain ⟨g,B,n,c,a1,a2⟩:=h
 exact ⟨g,B,n,c,ho _ _ _ _ h1 a1,a2.oth ho h2⟩
end
structure PartI (w:World) (lo g n rows:Nat) (hs:List (Nat×Nat)) (a:List (List Int)):Prop where
 head:VRow w g 94 (hs.map (headV n)++List.replicate (rows-hs.length) (.slice none 0 0))
 glo:lo<=g
 le:hs.length<=rows
 len:hs.length=a.length
 dist:∀(i j:Nat) (p q:Nat×Nat),hs[i]? =some p->hs[j]? =some q->i≠j->p.1≠q.1
 new:∀h∈hs,lo<=h.1/\n<=h.2/\h.2<=9223372036854775807
 all:AllLen a n
 row:∀(i:Nat) (h:Nat×Nat) (r:List Int),hs[i]? =some h->a[i]? =some r->RowI w h.1 r
section
variable {w w':World} {lo g n rows:Nat} {hs:List (Nat×Nat)} {a:List (List Int)}
theorem PartI.ext (h:PartI w lo g n rows hs a) (hx:Ext w w'):PartI w' lo g n rows hs a:=
 ⟨h.head.ext hx,h.glo,h.le,h.len,h.dist,h.new,h.all,fun i p r hp hr=>(h.row i p r hp hr).ext hx⟩
theorem PartI.cells (h:PartI w lo g n rows hs a) (hk:hs.length<rows):w.cell? ⟨g,hs.length,none⟩=some (.slice none 0 0)/\w.frozen? ⟨g,hs.length,none⟩=false/\g<w.heap.size:=by
 refine ⟨h.head.cell ?_,h.head.frozen _,h.head.lt⟩
 rw [List.getElem?_append_right (by simp),List.length_map,Nat.sub_self,List.getElem?_replicate,if_pos (by omega)]
theorem PartI.put (h:PartI w lo g n rows hs a) (hk:hs.length<rows) {b c:Nat} {r:List Int} (hr:RowI w b r) (hrl:r.length=n) (hb:lo<=b) (hc1:n<=c) (hc2:c<=9223372036854775807) (hd:∀p∈hs,p.1≠b):
  PartI (w.setCell ⟨g,hs.length,none⟩ (.slice (some ⟨b,0,none⟩) n c)) lo g n rows (hs++[(b,c)]) (a++[r]):=by
 have hoth:Oth 94 w (w.setCell ⟨g,hs.length,none⟩ (.slice (some ⟨b,0,none⟩) n c)):=Oth.set (p:=⟨g,hs.length,none⟩) h.head _
 refine ⟨?_,h.glo,by simp;omega,by simp [h.len],?_,?_,?_,?_⟩
 ·have h1:=h.head.set hs.length (.slice (some ⟨b,0,none⟩) n c)
  have e:(hs.map (headV n)++List.replicate (rows-hs.length) (Value.slice none 0 0)).set hs.length (.slice (some ⟨b,0,none⟩) n c)=(hs++[(b,c)]).map (headV n)++List.replicate (rows-(hs++[(b,c)]).length) (.slice none 0 0):=by
   obtain ⟨t,ht⟩:∃t,rows-hs.length=t+1:=⟨rows-hs.length-1,by omega⟩
   have ht2:rows-(hs++[(b,c)]).length=t:=by simp;omega
   rw [ht,ht2,List.set_append_right _ _ (by simp)]
   simp [List.replicate_succ,headV]
  rw [e] at h1
  exact h1
 ·intro i j p q hp hq hij
  rcases Nat.lt_or_ge i hs.length with hi |hi
  ·rw [List.getElem?_append_left hi] at hp
   rcases Nat.lt_or_ge j hs.length with hj |hj
   ·rw [List.getElem?_append_left hj] at hq
    exact h.dist i j p q hp hq hij
   ·rw [List.getElem?_append_right hj] at hq
    have :q=(b,c):=by
     have :=List.mem_of_getElem? hq
     simpa using this
    subst this
    exact hd p (List.mem_of_getElem? hp)
  ·rw [List.getElem?_append_right hi] at hp
   have hi':i=hs.length:=by have :=(List.getElem?_eq_some_iff.1 hp).1;simp at this;omega
   have :p=(b,c):=by
    have :=List.mem_of_getElem? hp
    simpa using this
   subst this
   rcases Nat.lt_or_ge j hs.length with hj |hj
   ·rw [List.getElem?_append_left hj] at hq
    exact fun e=>hd q (List.mem_of_getElem? hq) e.symm
   ·rw [List.getElem?_append_right hj] at hq
    have hj':j=hs.length:=by have :=(List.getElem?_eq_some_iff.1 hq).1;simp at this;omega
    omega
 ·intro p hp
  rcases List.mem_append.1 hp with hp |hp
  ·exact h.new p hp
  ·have :p=(b,c):=by simpa using hp
   subst this
   exact ⟨hb,hc1,hc2⟩
 ·intro x hx
  rcases List.mem_append.1 hx with hx |hx
  ·exact h.all x hx
  ·have :x=r:=by simpa using hx
   subst this
   exact hrl
 ·intro i p x hp hx
  have hl:=h.len
  rcases Nat.lt_or_ge i hs.length with hi |hi
  ·rw [List.getElem?_append_left hi] at hp
   rw [List.getElem?_append_left (by omega)] at hx
   exact (h.row i p x hp hx).oth hoth (by decide) (by decide)
  ·rw [List.getElem?_append_right hi] at hp
   rw [List.getElem?_append_right (by omega)] at hx
   have e1:p=(b,c):=by
    have :=List.mem_of_getElem? hp
    simpa using this
   have e2:x=r:=by
    have :=List.mem_of_getElem? hx
    simpa using this
   subst e1 e2
   exact hr.oth hoth (by decide) (by decide)
end
/-! ## Tables, filled entry by entry -/
theorem tab_eq_of {F G:Nat->Nat->Int} {r c:Nat} (h:∀i j,i<r->j<c->F i j=G i j):tab F r c=tab G r c:=by
 unfold tab
 refine List.map_congr_left fun i hi=>List.map_congr_left fun j hj=>h i j (by simpa using hi) (by simpa using hj)
theorem setE_tab {G:Nat->Nat->Int} {r c i j:Nat} {z:Int} (hi:i<r) (hj:j<c):setE (tab G r c) i j z=tab (fun x y=>if x=i/\y=j then z else G x y) r c:=by
 have hl:(setE (tab G r c) i j z).length=r:=by rw [setE_len,tab_length]
 have hrow:(tab G r c).getD i []=(List.range c).map fun y=>G i y:=by simp [List.getD,tab_get G r c i hi]
 apply List.ext_getElem?
 intro x
 rcases Nat.lt_or_ge x r with hx |hx
 ·rw [tab_get _ _ _ _ hx]
  unfold setE
  by_cases e:x=i
  ·subst e
   rw [List.getElem?_set_self (by rw [tab_length];exact hx),hrow]
   congr 1
   apply List.ext_getElem?
   intro y
   by_cases e2:y=j
   ·subst e2
    rw [List.getElem?_set_self (by simpa using hj)]
    simp [hj]
   ·rw [List.getElem?_set_ne (by omega)]
    rcases Nat.lt_or_ge y c with hy |hy
    ·simp [hy,e2]
    ·rw [List.getElem?_eq_none (by simpa using hy),List.getElem?_eq_none (by simpa using hy)]
  ·rw [List.getElem?_set_ne (by omega),tab_get _ _ _ _ hx]
   simp [e]
 ·rw [List.getElem?_eq_none (by omega),List.getElem?_eq_none (by rw [tab_length];exact hx)]
theorem OwnI.gne {w:World} {lo g n:Nat} {hs:List (Nat×Nat)} {a:List (List Int)} (h:OwnI w lo g n hs a) {i b c:Nat} (hp:hs[i]? =some (b,c)) (hi:i<a.length):g≠b:=fun e=>by
 obtain ⟨r,hr⟩:∃r,a[i]? =some r:=⟨_,List.getElem?_eq_getElem hi⟩
 obtain ⟨cs,hcs⟩:=(h.row i _ r hp hr).heap
 have h1:=h.head
 unfold VRow at h1
 rw [e,hcs] at h1
 injection h1 with h1
 injection h1 with _ h1
 exact absurd h1 (by decide)
end Go.Proofs.YtpcgfpmiphiacaaGreat
