/- Ref3 Boxs OwnZ Own64 Cl Pf1 Pf2 -/
import Derived.Test.YtcmkopogafchiaaGreatProg
import Derived.Test.YtcmkopogafchiaaGreatX09
import Derived.Test.YtcmkopogafchiaaGreatRows
import Derived.Test.YtcmkopogafchiaaGreatShelf
set_option maxHeartbeats 8000000
set_option linter.unusedVariables false
set_option linter.unusedSimpArgs false
set_option linter.constructorNameAsVariable false
namespace Go.Proofs.YtcmkopogafchiaaGreat
open Go.RowKit
theorem run_fieldI1 (g:Bool) (B:Option Addr) (k d:Nat) (w:World):(Instr.field 99 (.agg #[.bool g,.slice B k d]) 1).run Tryz.prog w= .ok (.slice B k d) w:=by
 simp [Instr.field,run_underlying Tryz.underlying99,asAgg,part,sizeOf,typeInfo,go_sem]
theorem run_fieldI0 (g:Bool) (B:Option Addr) (k d:Nat) (w:World):(Instr.field 99 (.agg #[.bool g,.slice B k d]) 0).run Tryz.prog w= .ok (.bool g) w:=by
 simp [Instr.field,run_underlying Tryz.underlying99,asAgg,part,sizeOf,typeInfo,go_sem]
attribute [go_sem] run_fieldI1 run_fieldI0
end Go.Proofs.YtcmkopogafchiaaGreat
namespace Go.Proofs.YtcmkopogafchiaaGreat
open Go.RowKit
class BlkAt (b:Nat) (cs:outParam (Array Value)) (T:outParam TypeId) (w:World):Prop where
 eq:w.heap[b]? =some (.cells cs T (0,0))
instance BlkAt.new (w:World) (n:Nat) (cs:Array Value) (T:TypeId) [h:Sz w n]:BlkAt n cs T (w.alloc (.cells cs T)):=⟨by rw [<-h.eq];exact heap_alloc_new w _⟩
instance (priority:=900) BlkAt.alloc (w:World) (b:Nat) (cs:Array Value) (T:TypeId) (o:Obj) [h:BlkAt b cs T w]:BlkAt b cs T (w.alloc o):=⟨(Below.heap_alloc w o b (lt_of_heap h.eq)).trans h.eq⟩
instance BlkAt.drew (w:World) (b:Nat) (cs:Array Value) (T:TypeId) [h:BlkAt b cs T w]:BlkAt b cs T w.drew:=⟨h.eq⟩
instance BlkAt.drewN (w:World) (b k:Nat) (cs:Array Value) (T:TypeId) [h:BlkAt b cs T w]:BlkAt b cs T (w.drewN k):=⟨h.eq⟩
instance (priority:=50) BlkAt.step (W w':World) (b:Nat) (cs:Array Value) (T:TypeId) [s:Step W w'] [h:BlkAt b cs T W]:BlkAt b cs T w':=⟨heap_of_ext s.ext h.eq⟩
instance BlkAt.set (w:World) (b i:Nat) (cs:Array Value) (T:TypeId) (u:Value) [h:BlkAt b cs T w]:BlkAt b (cs.setIfInBounds i u) T (w.setCell ⟨b,i,none⟩ u):=⟨heap_setCell_self h.eq u⟩
instance (priority:=900) BlkAt.far (w:World) (b b' i:Nat) (cs:Array Value) (T:TypeId) (u:Value) [h:BlkAt b cs T w] [ha:Apart b b']:BlkAt b cs T (w.setCell ⟨b',i,none⟩ u):=⟨heap_setCell_far h.eq ha.ne u⟩
instance Apart.s1 (n:Nat):Apart n (n+1):=⟨by omega⟩
instance Apart.s1' (n:Nat):Apart (n+1) n:=⟨by omega⟩
instance Apart.s2 (n:Nat):Apart n (n+1+1):=⟨by omega⟩
instance Apart.s2' (n:Nat):Apart (n+1+1) n:=⟨by omega⟩
instance Apart.s3 (n:Nat):Apart n (n+1+1+1):=⟨by omega⟩
instance Apart.s3' (n:Nat):Apart (n+1+1+1) n:=⟨by omega⟩
def Box (w:World) (b:Nat) (z:Int):Prop:=∃g B n c,w.heap[b]? =some (.cells #[.bool g,.slice B n c] 99 (0,0))/\IntV w g B n c z
section
variable {w w':World} {b b':Nat} {z:Int}
theorem Box.lt (h:Box w b z):b<w.heap.size:=by
 obtain ⟨g,B,n,c,h1,h2⟩:=h
 exact lt_of_heap h1
theorem Box.cells (h:Box w b z):∃g B n c,w.heap[b]? =some (.cells #[.bool g,.slice B n c] 99 (0,0))/\w.cell? ⟨b,0,none⟩=some (.bool g)/\w.cell? ⟨b,1,none⟩=some (.slice B n c)/\w.frozen? ⟨b,0,none⟩=false/\w.frozen? ⟨b,1,none⟩=false/\b<w.heap.size/\IntV w g B n c z:=by
 obtain ⟨g,B,n,c,h1,h2⟩:=h
 obtain ⟨a1,a2,a3,a4,a5⟩:=box_cells2 h1
 exact ⟨g,B,n,c,h1,a1,a2,a3,a4,a5,h2⟩
end
structure PartI (w:World) (lo g n rows:Nat) (hs:List (Nat×Nat)) (a:List (List Int)):Prop where
 head:VRow w g 86 (hs.map (headV n)++List.replicate (rows-hs.length) (.slice none 0 0))
 glo:lo<=g
 le:hs.length<=rows
 len:hs.length=a.length
 dist:∀(i j:Nat) (p q:Nat×Nat),hs[i]? =some p->hs[j]? =some q->i≠j->p.1≠q.1
 new:∀h∈hs,lo<=h.1/\n<=h.2/\h.2<=9223372036854775807
 all:AllLen a n
 row:∀(i:Nat) (h:Nat×Nat) (r:List Int),hs[i]? =some h->a[i]? =some r->RowI w h.1 r
section
variable {w w':World} {lo g n rows:Nat} {hs:List (Nat×Nat)} {a:List (List Int)}
theorem PartI.cells (h:PartI w lo g n rows hs a) (hk:hs.length<rows):w.cell? ⟨g,hs.length,none⟩=some (.slice none 0 0)/\w.frozen? ⟨g,hs.length,none⟩=false/\g<w.heap.size:=by
 refine ⟨h.head.cell ?_,h.head.frozen _,h.head.lt⟩
 rw [List.getElem?_append_right (by simp),List.length_map,Nat.sub_self,List.getElem?_replicate,if_pos (by omega)]
end
/-! ## Tables, filled entry by entry -/
def headW (n:Nat) (b:Nat):Value:= .slice (some ⟨b,0,none⟩) n n
structure P64 (w:World) (lo g n rows:Nat) (hs:List Nat) (a:List (List Int)):Prop where
 head:VRow w g 28 (hs.map (headW n)++List.replicate (rows-hs.length) (.slice none 0 0))
 glo:lo<=g
 le:hs.length<=rows
 len:hs.length=a.length
 dist:∀(i j p:Nat),hs[i]? =some p->hs[j]? =some p->i=j
 new:∀b∈hs,lo<=b
 all:AllLen a n
 row:∀(i b:Nat) (r:List Int),hs[i]? =some b->a[i]? =some r->Row w b 2 .i64 r
section
variable {w w':World} {lo g n rows:Nat} {hs:List Nat} {a:List (List Int)}
theorem P64.cells (h:P64 w lo g n rows hs a) (hk:hs.length<rows):w.cell? ⟨g,hs.length,none⟩=some (.slice none 0 0)/\w.frozen? ⟨g,hs.length,none⟩=false/\g<w.heap.size:=by
 refine ⟨h.head.cell ?_,h.head.frozen _,h.head.lt⟩
 rw [List.getElem?_append_right (by simp),List.length_map,Nat.sub_self,List.getElem?_replicate,if_pos (by omega)]
end
structure Only (T:Nat) (w w':World):Prop where
 below:Below T w w'
 rest:∀b,T<b->b<w.heap.size->w'.heap[b]? =w.heap[b]?
section
variable {T:Nat} {w w' w2 w0:World}
theorem Only.size (h:Only T w w'):w.heap.size<=w'.heap.size:=h.below.size
end
def TapeAt (w:World) (T:Nat) (l:List Int) (k:Nat):Prop:=∃(te:TypeId) (A:Option Addr) (c:Nat),w.heap[T]? =some (.cells #[.slice A l.length c,.int .i64 (min k l.length:Nat)] 67 (0,0))/\Ints w A te .i8 l/\(0<l.length->∀a,A=some a->a.block<T)
theorem TapeAt.lt {w:World} {T:Nat} {l:List Int} {k:Nat} (h:TapeAt w T l k):T<w.heap.size:=by
 obtain ⟨te,A,c,h1,_⟩:=h
 exact lt_of_heap h1
end Go.Proofs.YtcmkopogafchiaaGreat
namespace Go.Proofs.YtcmkopogafchiaaGreat
set_option maxRecDepth 100000
def io:{L:List Char // Tryz.prog.initOrder.toList=L}:=⟨_,(congrArg String.toList (rfl:Tryz.prog.initOrder=String.ofList _)).trans String.toList_ofList⟩
theorem c_later:Tryz.prog.laysLater=false:=by kernel_rfl
theorem c_reflect:Tryz.prog.bearsReflect=false:=by kernel_rfl
theorem c_doors:Tryz.prog.doorRows=[]:=by kernel_rfl
theorem c_words : ∃ rest, behindMainWord (wordsSigns Tryz.prog.initOrder.toList) = "cut".toList :: rest := by
 rw [io.2]
 exact ⟨(behindMainWord (wordsSigns io.1)).tail,by kernel_rfl⟩
theorem make_of {P : Program} {m : Make} {rest : List (List Char)} (h : behindMainWord (wordsSigns P.initOrder.toList) = "cut".toList :: rest) (hm : m = .cut) : (P.make == some m) = true := by
 subst hm
 unfold Program.make
 rw [h]
 kernel_rfl
theorem lifts_of {P : Program} {b : Bool} {rest : List (List Char)} (h : behindMainWord (wordsSigns P.initOrder.toList) = "cut".toList :: rest) (hb : b = false) : (b == P.liftsFinal) = true := by
 subst hb
 unfold Program.liftsFinal Program.headLifts
 rw [h]
 kernel_rfl
theorem may_of {P : Program} {rest : List (List Char)} (h : behindMainWord (wordsSigns P.initOrder.toList) = "cut".toList :: rest) (h1 : P.laysLater = false) (h2 : P.bearsReflect = false) (h3 : P.doorRows = []) : P.mayEnter = true := by
 unfold Program.mayEnter Program.doorFits
 rw [h,h1,h2,h3]
 kernel_rfl
theorem c_may:Tryz.prog.mayEnter=true:=by
 obtain ⟨rest,h⟩:=c_words
 exact may_of h c_later c_reflect c_doors
theorem c_make {m:Make} (hm:m= .cut):(Tryz.prog.make==some m)=true:=by
 obtain ⟨rest,h⟩:=c_words
 exact make_of h hm
theorem c_lifts {b:Bool} (hb:b=false):(b==Tryz.prog.liftsFinal)=true:=by
 obtain ⟨rest,h⟩:=c_words
 exact lifts_of h hb
theorem c_laid:laidOutB Tryz.prog=true:=by kernel_rfl
theorem and_mk {a b:Bool} (ha:a=true) (hb:b=true):(a&&b)=true:=by rw [ha,hb];rfl
end Go.Proofs.YtcmkopogafchiaaGreat
namespace Go.Proofs.YtcmkopogafchiaaGreat
structure STO {κ:Type} (lt:κ->κ->Prop):Prop where
 irr:∀a,¬lt a a
 trans:∀{a b c},lt a b->lt b c->lt a c
 tri:∀{a b},a≠b->lt a b∨lt b a
theorem STO.anti {κ:Type} {lt:κ->κ->Prop} (O:STO lt) {a b:κ} (h:lt a b):¬lt b a:=fun h'=>O.irr a (O.trans h h')
section
variable {κ:Type} [DecidableEq κ] {lt:κ->κ->Prop}
structure CountOK (lt:κ->κ->Prop) (L:List κ) (p:List (κ×Int)):Prop where
 sorted:p.Pairwise (fun a b=>lt a.1 b.1)
 mem:∀c,c∈p↔0<c.2/\c.2=(L.count c.1:Int)
theorem CountOK.nodup (O:STO lt) {L:List κ} {p} (h:CountOK lt L p):p.Nodup:=h.sorted.imp (fun {a b} h (e:a=b)=>O.irr b.1 (by rw [e] at h;exact h))
theorem CountOK.unique (O:STO lt) {L:List κ} {p q} (h:CountOK lt L p) (h':CountOK lt L q):p=q:=
 List.Perm.eq_of_pairwise (fun _ _ _ _ h1 h2=>absurd h2 (O.anti h1)) h.sorted h'.sorted ((List.perm_ext_iff_of_nodup (h.nodup O) (h'.nodup O)).2 fun c=>(h.mem c).trans (h'.mem c).symm)
theorem CountOK.perm {L L':List κ} {p} (h:CountOK lt L p) (hp:L.Perm L'):CountOK lt L' p:=⟨h.sorted,fun c=>by rw [h.mem,hp.count_eq]⟩
theorem CountOK.nil:CountOK lt ([]:List κ) []:=⟨List.Pairwise.nil,fun c=>by simp;omega⟩
theorem CountOK.append {L S:List κ} {p q} (h:CountOK lt L p) (h':CountOK lt S q) (hd:∀x∈L,∀y∈S,lt x y) (O:STO lt):CountOK lt (L++S) (p++q):=by
 have hin:∀{T:List κ} {r},CountOK lt T r->∀c∈r,c.1∈T:=fun h c hc=>List.count_pos_iff.1 (by have :=(h.mem c).1 hc;omega)
 refine ⟨List.pairwise_append.2 ⟨h.sorted,h'.sorted,fun a ha b hb=>hd _ (hin h a ha) _ (hin h' b hb)⟩,fun c=>?_⟩
 rw [List.mem_append,h.mem,h'.mem,List.count_append]
 by_cases hL:c.1∈L
 ·have hS:c.1∉S:=fun hs=>O.irr _ (hd _ hL _ hs)
  rw [List.count_eq_zero.2 hS]
  constructor
  ·rintro (⟨a,b⟩ |⟨a,b⟩)<;>exact ⟨a,by omega⟩
  ·rintro ⟨a,b⟩;exact .inl ⟨a,by omega⟩
 ·rw [List.count_eq_zero.2 hL]
  constructor
  ·rintro (⟨a,b⟩ |⟨a,b⟩)<;>exact ⟨a,by omega⟩
  ·rintro ⟨a,b⟩;exact .inr ⟨a,by omega⟩
variable [DecidableRel lt]
def tallyG (lt:κ->κ->Prop) [DecidableRel lt]:List (κ×Int)->κ->List (κ×Int)
 |[],k=>[(k,1)]
 |c::l,k=>if lt c.1 k then c::tallyG lt l k else if c.1=k then (k,c.2+1)::l else (k,1)::c::l
theorem tallyG_mem (O:STO lt):∀(p:List (κ×Int)) (k:κ),p.Pairwise (fun a b=>lt a.1 b.1)->∀c,c∈tallyG lt p k↔(c∈p/\c.1≠k)∨(c.1=k/\((∃d∈p,d.1=k/\c.2=d.2+1)∨((∀d∈p,d.1≠k)/\c.2=1)))
 |[],k,_,c=>by
  simp only [tallyG,List.mem_singleton,List.not_mem_nil,false_and,false_or]
  constructor
  ·rintro rfl;exact ⟨rfl,.inr ⟨fun d hd=>absurd hd (by simp),rfl⟩⟩
  ·rintro ⟨h1,h⟩
   rcases h with ⟨d,hd⟩ |⟨-,h3⟩
   ·exact absurd hd (by simp)
   ·exact Prod.ext h1 h3
 |x::p,k,hs,c=>by
  obtain ⟨hs1,hs2⟩:=List.pairwise_cons.1 hs
  have ih:=tallyG_mem O p k hs2 c
  unfold tallyG
  by_cases h1:lt x.1 k
  ·rw [if_pos h1,List.mem_cons,ih]
   have hxn:x.1≠k:=fun e=>O.irr _ (e▸h1)
   constructor
   ·rintro (rfl |⟨a,b⟩ |⟨a,⟨d,e,f⟩ |⟨d,e⟩⟩)
    ·exact .inl ⟨List.mem_cons_self ..,hxn⟩
    ·exact .inl ⟨List.mem_cons_of_mem _ a,b⟩
    ·exact .inr ⟨a,.inl ⟨d,List.mem_cons_of_mem _ e,f⟩⟩
    ·exact .inr ⟨a,.inr ⟨fun y hy=>by rcases List.mem_cons.1 hy with rfl |hy;exact hxn;exact d y hy,e⟩⟩
   ·rintro (⟨a,b⟩ |⟨a,⟨d,e,f⟩ |⟨d,e⟩⟩)
    ·rcases List.mem_cons.1 a with rfl |a
     ·exact .inl rfl
     ·exact .inr (.inl ⟨a,b⟩)
    ·rcases List.mem_cons.1 e with rfl |e
     ·exact absurd f.1 hxn
     ·exact .inr (.inr ⟨a,.inl ⟨d,e,f⟩⟩)
    ·exact .inr (.inr ⟨a,.inr ⟨fun y hy=>d y (List.mem_cons_of_mem _ hy),e⟩⟩)
  ·rw [if_neg h1]
   have hrest:∀d∈p,d.1≠k:=fun d hd e=>h1 (e▸hs1 d hd)
   by_cases h2:x.1=k
   ·rw [if_pos h2,List.mem_cons]
    constructor
    ·rintro (rfl |h)
     ·exact .inr ⟨rfl,.inl ⟨x,List.mem_cons_self ..,h2,rfl⟩⟩
     ·exact .inl ⟨List.mem_cons_of_mem _ h,hrest c h⟩
    ·rintro (⟨a,b⟩ |⟨a,⟨d,e,f,g⟩ |⟨d,e⟩⟩)
     ·rcases List.mem_cons.1 a with rfl |a
      ·exact absurd h2 b
      ·exact .inr a
     ·rcases List.mem_cons.1 e with rfl |e
      ·exact .inl (Prod.ext a g)
      ·exact absurd f (hrest d e)
     ·exact absurd h2 (d x (List.mem_cons_self ..))
   ·rw [if_neg h2,List.mem_cons]
    have hall:∀d∈x::p,d.1≠k:=fun d hd=>by
     rcases List.mem_cons.1 hd with rfl |hd
     ·exact h2
     ·exact hrest d hd
    constructor
    ·rintro (rfl |h)
     ·exact .inr ⟨rfl,.inr ⟨hall,rfl⟩⟩
     ·exact .inl ⟨h,hall c h⟩
    ·rintro (⟨a,b⟩ |⟨a,⟨d,e,f⟩ |⟨d,e⟩⟩)
     ·exact .inr a
     ·exact absurd f.1 (hall d e)
     ·exact .inl (Prod.ext a e)
theorem tallyG_sorted (O:STO lt):∀(p:List (κ×Int)) (k:κ),p.Pairwise (fun a b=>lt a.1 b.1)->(tallyG lt p k).Pairwise (fun a b=>lt a.1 b.1)
 |[],k,_=>by simp [tallyG]
 |x::p,k,hs=>by
  obtain ⟨hs1,hs2⟩:=List.pairwise_cons.1 hs
  have ih:=tallyG_sorted O p k hs2
  unfold tallyG
  by_cases h1:lt x.1 k
  ·rw [if_pos h1]
   refine List.pairwise_cons.2 ⟨fun c hc=>?_,ih⟩
   rcases (tallyG_mem O p k hs2 c).1 hc with ⟨a,-⟩ |⟨a,-⟩
   ·exact hs1 c a
   ·rw [a];exact h1
  ·rw [if_neg h1]
   by_cases h2:x.1=k
   ·rw [if_pos h2]
    exact List.pairwise_cons.2 ⟨fun c hc=>h2▸hs1 c hc,hs2⟩
   ·rw [if_neg h2]
    have hx2:lt k x.1:=(O.tri h2).resolve_left h1
    refine List.pairwise_cons.2 ⟨fun c hc=>?_,hs⟩
    rcases List.mem_cons.1 hc with rfl |hc
    ·exact hx2
    ·exact O.trans hx2 (hs1 c hc)
theorem CountOK.tally (O:STO lt) {L:List κ} {p} (h:CountOK lt L p) (k:κ):CountOK lt (L++[k]) (tallyG lt p k):=by
 refine ⟨tallyG_sorted O p k h.sorted,fun c=>?_⟩
 rw [tallyG_mem O p k h.sorted,List.count_append]
 have hd:∀d:κ×Int,d.1=k->(d∈p↔0<d.2/\d.2=(L.count k:Int)):=fun d a=>by rw [h.mem,a]
 by_cases e:c.1=k
 ·have hcs:List.count c.1 [k]=1:=by rw [e];simp
  rw [hcs,e]
  constructor
  ·rintro (⟨-,b⟩ |⟨-,⟨d,a,b,g⟩ |⟨a,g⟩⟩)
   ·exact absurd rfl b
   ·have :=(hd d b).1 a;omega
   ·have h0:L.count k=0:=by
     rcases Nat.eq_zero_or_pos (L.count k) with h0 |h0
     ·exact h0
     ·exact absurd rfl (a (k,(L.count k:Int)) ((hd _ rfl).2 ⟨by simp only;omega,rfl⟩))
    omega
  ·rintro ⟨a,b⟩
   refine .inr ⟨rfl,?_⟩
   rcases Nat.eq_zero_or_pos (L.count k) with h0 |h0
   ·refine .inr ⟨fun d hdm hdn=>?_,by omega⟩
    have :=(hd d hdn).1 hdm
    omega
   ·exact .inl ⟨(k,(L.count k:Int)),(hd _ rfl).2 ⟨by simp only;omega,rfl⟩,rfl,by simp only;omega⟩
 ·have hcs:List.count c.1 [k]=0:=by rw [List.count_eq_zero];simp [e]
  rw [hcs,h.mem]
  constructor
  ·rintro (⟨⟨a,b⟩,-⟩ |⟨a,-⟩)
   ·exact ⟨a,by omega⟩
   ·exact absurd a e
  ·rintro ⟨a,b⟩
   exact .inl ⟨⟨a,by omega⟩,e⟩
def countL (lt:κ->κ->Prop) [DecidableRel lt] (L:List κ):List (κ×Int):=L.foldl (fun p q=>tallyG lt p q) []
theorem countL_ok (O:STO lt) (L:List κ):CountOK lt L (countL lt L):=by
 have h:∀(T:List κ) (L:List κ) (p:List (κ×Int)),CountOK lt L p->CountOK lt (L++T) (T.foldl (fun p q=>tallyG lt p q) p):=by
  intro T
  induction T with
  |nil=>intro L p h;simpa using h
  |cons q T ih=>intro L p h;have :=ih (L++[q]) _ (h.tally O q);simpa using this
 have :=h L [] [] CountOK.nil
 simpa [countL] using this
end
abbrev Kc:=Int×Int
abbrev Ct:=Kc×Int
def ltK (a b:Kc):Prop:=a.1<b.1∨(a.1=b.1/\a.2<b.2)
instance:DecidableRel ltK:=fun a b=>by unfold ltK;exact inferInstance
theorem ltK_sto:STO ltK:=⟨fun a h=>by unfold ltK at h;omega,fun {a b c} h h'=>by unfold ltK at*;omega,fun {a b} h=>by
 unfold ltK
 rcases Int.lt_trichotomy a.1 b.1 with h1 |h1 |h1
 ·exact .inl (.inl h1)
 ·rcases Int.lt_trichotomy a.2 b.2 with h2 |h2 |h2
  ·exact .inl (.inr ⟨h1,h2⟩)
  ·exact absurd (Prod.ext h1 h2) h
  ·exact .inr (.inr ⟨h1.symm,h2⟩)
 ·exact .inr (.inl h1)⟩
def ltC (a b:Ct):Prop:=a.1.1<b.1.1∨(a.1.1=b.1.1/\(a.1.2<b.1.2∨(a.1.2=b.1.2/\a.2<b.2)))
instance:DecidableRel ltC:=fun a b=>by unfold ltC;exact inferInstance
theorem ltC_sto:STO ltC:=⟨fun a h=>by unfold ltC at h;omega,fun {a b c} h h'=>by unfold ltC at*;omega,fun {a b} h=>by
 unfold ltC
 rcases Int.lt_trichotomy a.1.1 b.1.1 with h1 |h1 |h1
 ·exact .inl (.inl h1)
 ·rcases Int.lt_trichotomy a.1.2 b.1.2 with h2 |h2 |h2
  ·exact .inl (.inr ⟨h1,.inl h2⟩)
  ·rcases Int.lt_trichotomy a.2 b.2 with h3 |h3 |h3
   ·exact .inl (.inr ⟨h1,.inr ⟨h2,h3⟩⟩)
   ·exact absurd (Prod.ext (Prod.ext h1 h2) h3) h
   ·exact .inr (.inr ⟨h1.symm,.inr ⟨h2.symm,h3⟩⟩)
  ·exact .inr (.inr ⟨h1.symm,.inl h2⟩)
 ·exact .inr (.inl h1)⟩
def lessQ:List Ct->List Ct->Bool
 |_,[]=>false
 |[],_::_=>true
 |a::l,b::m=>if a=b then lessQ l m else decide (ltC a b)
theorem lessQ_self:∀l,lessQ l l=false
 |[]=>rfl
 |a::l=>by simp [lessQ,lessQ_self l]
theorem lessQ_tri:∀{l m:List Ct},l≠m->lessQ l m=true∨lessQ m l=true
 |[],[],h=>absurd rfl h
 |_::_,[],_=> .inr rfl
 |[],_::_,_=> .inl rfl
 |a::l,b::m,h=>by
  unfold lessQ
  by_cases hab:a=b
  ·rw [if_pos hab,if_pos hab.symm];exact lessQ_tri (fun e=>h (by rw [hab,e]))
  ·rw [if_neg hab,if_neg (Ne.symm hab)]
   rcases ltC_sto.tri hab with h |h
   ·exact .inl (decide_eq_true h)
   ·exact .inr (decide_eq_true h)
theorem lessQ_trans:∀{l m k:List Ct},lessQ l m=true->lessQ m k=true->lessQ l k=true
 |_,[],_,h,_=>by simp [lessQ] at h
 |_,_::_,[],_,h=>by simp [lessQ] at h
 |[],_::_,_::_,_,_=>rfl
 |a::l,b::m,c::k,h,h'=>by
  unfold lessQ at*
  by_cases hab:a=b
  ·subst hab
   rw [if_pos rfl] at h
   by_cases hac:a=c
   ·subst hac;rw [if_pos rfl] at h' |-;exact lessQ_trans h h'
   ·rw [if_neg hac] at h' |-;exact h'
  ·rw [if_neg hab] at h
   by_cases hbc:b=c
   ·subst hbc;rw [if_neg hab];exact h
   ·rw [if_neg hbc] at h'
    have h1:=of_decide_eq_true h
    have h2:=of_decide_eq_true h'
    rw [if_neg (fun e:a=c=>ltC_sto.anti h1 (by rw [e];exact h2))]
    exact decide_eq_true (ltC_sto.trans h1 h2)
abbrev Ks:=Int×List Ct
def ltS (a b:Ks):Prop:=a.1<b.1∨(a.1=b.1/\lessQ a.2 b.2=true)
instance:DecidableRel ltS:=fun a b=>by unfold ltS;exact inferInstance
theorem ltS_sto:STO ltS where
 irr a h:=by
  rcases h with h |⟨-,h⟩
  ·omega
  ·rw [lessQ_self] at h;cases h
 trans {a b c} h h':=by
  rcases h with h |⟨h,k⟩<;>rcases h' with h' |⟨h',k'⟩
  ·exact .inl (by omega)
  ·exact .inl (by omega)
  ·exact .inl (by omega)
  ·exact .inr ⟨by omega,lessQ_trans k k'⟩
 tri {a b} h:=by
  rcases Int.lt_trichotomy a.1 b.1 with h1 |h1 |h1
  ·exact .inl (.inl h1)
  ·rcases lessQ_tri (fun e=>h (Prod.ext h1 e)) with h2 |h2
   ·exact .inl (.inr ⟨h1,h2⟩)
   ·exact .inr (.inr ⟨h1.symm,h2⟩)
  ·exact .inr (.inl h1)
theorem sameP_iff (l m:List Ct):(!lessQ l m&&!lessQ m l)=decide (l=m):=by
 by_cases e:l=m
 ·subst e;simp [lessQ_self]
 ·rw [decide_eq_false e]
  rcases lessQ_tri e with h |h<;>simp [h]
def keyM (m:List (List Int)) (x y:List Int):Kc:=(nrm m y,(((dotL (applyL m y) x).natAbs:Nat):Int))
def profM (m L:List (List Int)) (x:List Int):List Ct:=countL ltK (L.map (keyM m x))
def Bdry (ns:List Int) (a:Nat):Prop:=∀(i j:Nat) (x y:Int),i<a->a<=j->ns[i]? =some x->ns[j]? =some y->x<y
theorem Bdry.zero (ns:List Int):Bdry ns 0:=fun i _ _ _ h=>absurd h (by omega)
theorem Bdry.end_ {ns:List Int} {a e:Nat} {n:Int} (hs:ns.Pairwise (·<=·)) (hae:a<e) (ha:ns[a]? =some n) (hin:∀k x,a<=k->k<e->ns[k]? =some x->x=n) (hend:∀x,ns[e]? =some x->x≠n):Bdry ns e:=by
 have hle:∀(i j:Nat) (x y:Int),i<=j->ns[i]? =some x->ns[j]? =some y->x<=y:=by
  intro i j x y hij hx hy
  rcases Nat.lt_or_eq_of_le hij with h |rfl
  ·obtain ⟨h1,rfl⟩:=List.getElem?_eq_some_iff.1 hx
   obtain ⟨h2,rfl⟩:=List.getElem?_eq_some_iff.1 hy
   exact List.pairwise_iff_getElem.1 hs i j h1 h2 h
  ·rw [hx] at hy;injection hy with hy;omega
 intro i j x y hi hj hx hy
 have hle2:x<=n:=by
  rcases Nat.lt_or_ge i a with h |h
  ·exact hle i a x n (by omega) hx ha
  ·rw [hin i x h hi hx];exact Int.le_refl _
 obtain ⟨z,hz⟩:∃z,ns[e]? =some z:=⟨_,List.getElem?_eq_getElem (by have :=(List.getElem?_eq_some_iff.1 hy).1;omega)⟩
 have h1:=hle a e n z (by omega) ha hz
 have h2:=hend z hz
 have h3:=hle e j z y hj hz hy
 omega
theorem countL_append {κ:Type} [DecidableEq κ] {lt:κ->κ->Prop} [DecidableRel lt] (O:STO lt) {L S:List κ} (hd:∀x∈L,∀y∈S,lt x y):countL lt (L++S)=countL lt L++countL lt S:=
 CountOK.unique O (countL_ok O _) ((countL_ok O L).append (countL_ok O S) hd O)
theorem prof_shell {m L:List (List Int)} {x:List Int} {a e:Nat} (hae:a<=e) (hb:Bdry (L.map (nrm m)) a):profM m (L.take e) x=profM m (L.take a) x++profM m ((L.take e).drop a) x:=by
 have hsp:L.take e=L.take a++(L.take e).drop a:=by
  have h:=List.take_append_drop a (L.take e)
  rw [List.take_take,Nat.min_eq_left hae] at h
  exact h.symm
 unfold profM
 rw [hsp,List.map_append,countL_append ltK_sto]
 ·congr 3
  rw [<-hsp]
 ·intro k hk k' hk'
  obtain ⟨y,hy,rfl⟩:=List.mem_map.1 hk
  obtain ⟨y',hy',rfl⟩:=List.mem_map.1 hk'
  obtain ⟨i,hi⟩:=List.getElem?_of_mem hy
  obtain ⟨j,hj⟩:=List.getElem?_of_mem hy'
  rw [List.getElem?_drop] at hj
  have h1:i<a/\L[i]? =some y:=by
   rw [List.getElem?_take] at hi
   split at hi
   ·exact ⟨by assumption,hi⟩
   ·cases hi
  have h2:L[a+j]? =some y':=by
   rw [List.getElem?_take] at hj
   split at hj
   ·exact hj
   ·cases hj
  exact .inl (hb i (a+j) _ _ h1.1 (by omega) (by rw [List.getElem?_map,h1.2];rfl) (by rw [List.getElem?_map,h2];rfl))
/-! ## An exchange of two coordinates -/
end Go.Proofs.YtcmkopogafchiaaGreat
