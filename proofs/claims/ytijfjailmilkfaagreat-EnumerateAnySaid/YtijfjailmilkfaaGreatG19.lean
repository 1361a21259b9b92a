/- Tr2 TForm Tr4 Tr5 Tr9 Tr10 Tr11 -/
import Derived.Test.YtijfjailmilkfaaGreatG09
import Derived.Test.YtijfjailmilkfaaGreatProg
import Derived.Test.YtijfjailmilkfaaGreatShelf
import Derived.Deep.LoopGhost
set_option maxHeartbeats 8000000
set_option linter.unusedVariables false
set_option linter.unusedSimpArgs false
set_option linter.constructorNameAsVariable false
namespace Go.Proofs.YtijfjailmilkfaaGreat
open Go.RowKit
/-! ## A level of the checker in memory -/
structure LvAt (w:World) (b o:Nat) (mi sh lim:Int):Prop where
 c0:w.cell? ⟨b,o,none⟩=some (.int .i64 mi)
 c1:w.cell? ⟨b,o+1,none⟩=some (.int .i64 sh)
 c2:w.cell? ⟨b,o+2,none⟩=some (.int .u64 (hiW lim))
 c3:w.cell? ⟨b,o+3,none⟩=some (.int .u64 (loW lim))
 lt:b<w.heap.size
theorem LvAt.ext {w w':World} {b o:Nat} {mi sh lim:Int} (h:LvAt w b o mi sh lim) (hx:Ext w w'):LvAt w' b o mi sh lim:=
 ⟨(hx.below.cell (p:=⟨b,o,none⟩) h.lt).trans h.c0,(hx.below.cell (p:=⟨b,o+1,none⟩) h.lt).trans h.c1,(hx.below.cell (p:=⟨b,o+2,none⟩) h.lt).trans h.c2,(hx.below.cell (p:=⟨b,o+3,none⟩) h.lt).trans h.c3,Nat.lt_of_lt_of_le h.lt hx.size⟩
def lvU (mi sh x:Int):Int:=mi*x+sh
def insB (mi sh lim x:Int):Bool:=!decide (lim<lvU mi sh x*lvU mi sh x)
structure TFormI (m:List (List Int)) (wr:World) (base:Nat) (mB lB:Option Addr) (k mc lc:Nat) (vs:List Value):Prop where
 mi:Own wr base 2 1 mB (k+1) mc ((minorsTo m k).map (Value.int .i64))
 la:Own wr base 35 1 lB k lc vs
 row:∀i,i<k->∃B c,vs[i]? =some (.slice B (lamRow m i).length c)/\ArrN mB wr B 2 ((lamRow m i).map (Value.int .i64))/\(lamRow m i).length<=c/\c<=9223372036854775807/\(0<(lamRow m i).length->∃b o,B=some ⟨b,o,none⟩/\base<=b)
theorem TFormI.ext {m:List (List Int)} {w w':World} {base:Nat} {mB lB:Option Addr} {k mc lc:Nat} {vs:List Value} (h:TFormI m w base mB lB k mc lc vs) (hx:Ext w w'):TFormI m w' base mB lB k mc lc vs:=
 ⟨h.mi.ext hx,h.la.ext hx,fun i hi=>by obtain ⟨B,c,a,b,e⟩:=h.row i hi;exact ⟨B,c,a,b.ext hx,e⟩⟩
structure TFormJ (m:List (List Int)) (w2 w5:World) (mB lB:Option Addr) (k mc lc:Nat) (vs:List Value) (bx ox by_ oy r cy:Nat) (e0:Int):Prop where
 st:w5.heap[w2.heap.size+1]? =some (.cells #[.slice mB (k+1+1) mc,.slice lB k lc] 144 (0,0))
 mi:Own w5 w2.heap.size 2 1 mB (k+1+1) mc ((minorsTo m (k+1)).map (Value.int .i64))
 la:Own w5 w2.heap.size 35 1 lB k lc vs
 row:∀i,i<k->∃B c,vs[i]? =some (.slice B (lamRow m i).length c)/\ArrN mB w5 B 2 ((lamRow m i).map (Value.int .i64))/\(lamRow m i).length<=c/\c<=9223372036854775807/\(0<(lamRow m i).length->∃b o,B=some ⟨b,o,none⟩/\w2.heap.size<=b)
 nb:w2.heap.size<=by_
 hd:w5.cell? ⟨bx,ox,none⟩=some (.slice (some ⟨by_,oy,none⟩) (r+1) cy)
 bxl:bx<w5.heap.size
 new:ArrN mB w5 (some ⟨by_,oy,none⟩) 2 ((e0::lamRow m k).map (Value.int .i64))
 ex:Ext w2 w5
theorem TFormI.step1 {m:List (List Int)} {w2 wr W w4:World} {mB lB A4:Option Addr} {k mc lc d4:Nat} {vs:List Value} {bx ox by_ oy r cy:Nat} {e0:Int} {x1:Value}
  (hI:TFormI m wr w2.heap.size mB lB k mc lc vs) (hwr:w2.heap.size<=wr.heap.size) (hxw:Ext wr W) (hx2:Ext w2 W) (hown4:Own w4 w2.heap.size 2 1 A4 (k+1+1) d4 ((minorsTo m k).map (Value.int .i64)++[.int .i64 e0])) (hg4:Grow w2.heap.size 2 W w4) (hgr4:Grew mB A4 W w4) (he0:e0=ent (stAt m k).2 0 0)
  (hB4:w4.heap[w2.heap.size+1]? =some (.cells #[x1,.slice lB k lc] 144 (0,0))) (hX:∃cs fr,W.heap[bx]? =some (.cells cs 35 fr)/\cs[ox]? =some (.slice (some ⟨by_,oy,none⟩) (r+1) cy)) (hY:ArrX wr.heap.size W (some ⟨by_,oy,none⟩) 2 ((e0::lamRow m k).map (Value.int .i64))):
  TFormJ m w2 (w4.setCell ⟨w2.heap.size+1,0,none⟩ (.slice A4 (k+1+1) d4)) A4 lB k d4 lc vs bx ox by_ oy r cy e0:=by
 have hoS:=Oth.set (p:=⟨w2.heap.size+1,0,none⟩) hB4 (.slice A4 (k+1+1) d4)
 obtain ⟨cs,fr,hh,hc⟩:=hX
 have hh5:=hoS _ _ _ _ (by decide) (hg4.heap hh (by decide))
 refine ⟨box_set2_0 hB4,?_,((hI.la.ext hxw).grow hg4 (by decide)).oth hoS (by decide),fun i hi=>?_,?_,by simp [World.cell?,hh5];exact hc,lt_of_heap hh5,?_,?_⟩
 ·rw [minorsTo_succ,List.map_append,<-he0]
  exact hown4.oth hoS (by decide)
 ·obtain ⟨B,c,a,b,e⟩:=hI.row i hi
  exact ⟨B,c,a,((b.ext hxw).grew hgr4).oth hoS (by decide),e⟩
 ·obtain ⟨b,o,_,_,hA,hlo,_⟩:=hY (by simp)
  injection hA with hA
  injection hA with z1 z2
  subst z1
  exact Nat.le_trans hwr hlo
 ·exact ((hY.arrN hI.mi.blockLt).grew hgr4).oth hoS (by decide)
 ·exact (hg4.ext hx2 (Nat.le_refl _)).setCell (p:=⟨w2.heap.size+1,0,none⟩) (Nat.le_succ _) _
theorem TFormJ.step2 {m:List (List Int)} {w2 w5 W w6:World} {mB lB A6 Z:Option Addr} {k mc lc d6 dz:Nat} {vs:List Value} {bx ox by_ oy r cy:Nat} {e0:Int}
  (hJ:TFormJ m w2 w5 mB lB k mc lc vs bx ox by_ oy r cy e0) (hxw:Ext w5 W) (hown6:Own w6 w2.heap.size 35 1 A6 (k+1) d6 (vs++[.slice Z r dz])) (hg6:Grow w2.heap.size 35 W w6)
  (hr:(lamRow m k).length=r) (hZ:0<r->Z=some ⟨by_,oy+1,none⟩) (hd1:r<=dz) (hd2:dz<=9223372036854775807) (hB6:w6.heap[w2.heap.size+1]? =some (.cells #[.slice mB (k+1+1) mc,.slice lB k lc] 144 (0,0))):
  (w6.setCell ⟨w2.heap.size+1,1,none⟩ (.slice A6 (k+1) d6)).heap[w2.heap.size+1]? =some (.cells #[.slice mB (k+1+1) mc,.slice A6 (k+1) d6] 144 (0,0))/\TFormI m (w6.setCell ⟨w2.heap.size+1,1,none⟩ (.slice A6 (k+1) d6)) w2.heap.size mB A6 (k+1) mc d6 (vs++[.slice Z r dz])/\Ext w2 (w6.setCell ⟨w2.heap.size+1,1,none⟩ (.slice A6 (k+1) d6)):=by
 have hoS:=Oth.set (p:=⟨w2.heap.size+1,1,none⟩) hB6 (.slice A6 (k+1) d6)
 have hvl:vs.length=k:=by have :=hJ.la.len;omega
 refine ⟨box_set2_1 hB6,⟨((hJ.mi.ext hxw).grow hg6 (by decide)).oth hoS (by decide),hown6.oth hoS (by decide),fun i hi=>?_⟩,?_⟩
 ·rcases Nat.lt_or_ge i k with h |h
  ·obtain ⟨B,c,a,b,e⟩:=hJ.row i h
   exact ⟨B,c,by rw [List.getElem?_append_left (by omega)];exact a,((b.ext hxw).oth (Oth.of_grow hg6) (by decide)).oth hoS (by decide),e⟩
  ·obtain rfl:i=k:=by omega
   refine ⟨Z,dz,by rw [List.getElem?_append_right (by omega),hvl,hr];simp,fun h0=>?_,by rw [hr];exact hd1,hd2,fun h0=>⟨by_,oy+1,hZ (by omega),hJ.nb⟩⟩
   have h0':0<r:=by simp at h0;omega
   obtain ⟨b,o,cs,fr,hA,h1,hb,hc⟩:=((hJ.new.ext hxw).oth (Oth.of_grow hg6) (by decide)).oth hoS (by decide) (by simp)
   injection hA with hA
   injection hA with x1 x2
   subst x1 x2
   refine ⟨by_,oy+1,cs,fr,hZ h0',h1,hb,fun j u hu=>?_⟩
   have :=hc (j+1) u (by rw [List.map_cons,List.getElem?_cons_succ];exact hu)
   rw [show oy+1+j=oy+(j+1) by omega];exact this
 ·exact (hg6.ext (hJ.ex.trans hxw) (Nat.le_refl _)).setCell (p:=⟨w2.heap.size+1,1,none⟩) (Nat.le_succ _) _
/-! ## Blocks, found by instances -/
class HasBlk (b:Nat) (o:outParam Obj) (W:World):Prop where
 eq:W.heap[b]? =some o
instance HasBlk.new (w:World) (n:Nat) (o:Obj) [h:Sz w n]:HasBlk n o (w.alloc o):=⟨by rw [<-h.eq];exact heap_alloc_new w o⟩
instance (priority:=900) HasBlk.alloc (w:World) (b:Nat) (o o':Obj) [h:HasBlk b o w]:HasBlk b o (w.alloc o'):=⟨(Below.heap_alloc w o' b (lt_of_heap h.eq)).trans h.eq⟩
instance HasBlk.drew (w:World) (b:Nat) (o:Obj) [h:HasBlk b o w]:HasBlk b o w.drew:=⟨h.eq⟩
instance (priority:=50) HasBlk.step (W w':World) (b:Nat) (o:Obj) [s:Step W w'] [h:HasBlk b o W]:HasBlk b o w':=⟨heap_of_ext s.ext h.eq⟩
theorem ne_of_typed {w:World} {a b:Nat} {cs cs':Array Value} {e e':TypeId} {fr fr':Nat×Nat} (h:w.heap[a]? =some (.cells cs e fr)) (h':w.heap[b]? =some (.cells cs' e' fr')) (hne:e≠e'):a≠b:=fun hh=>by
 subst hh;rw [h] at h';injection h' with h';injection h' with _ he;exact hne he
/-! ## Rows of numbers of two words and of levels -/
def WRow (w:World) (g:Nat) (l:List Int):Prop:=∃cs,w.heap[g]? =some (.cells cs 219 (0,0))/\cs.size=l.length*2/\∀(i:Nat) (v:Int),l[i]? =some v->cs[i*2]? =some (.int .u64 (hiW v))/\cs[i*2+1]? =some (.int .u64 (loW v))
structure Lvl where
 mi:Int
 sh:Int
 lim:Int
 hi:Int
def LRow (w:World) (g:Nat) (l:List Lvl):Prop:=∃cs,w.heap[g]? =some (.cells cs 271 (0,0))/\cs.size=l.length*5/\∀(i:Nat) (v:Lvl),l[i]? =some v->cs[i*5]? =some (.int .i64 v.mi)/\cs[i*5+1]? =some (.int .i64 v.sh)/\cs[i*5+2]? =some (.int .u64 (hiW v.lim))/\cs[i*5+3]? =some (.int .u64 (loW v.lim))/\cs[i*5+4]? =some (.int .i64 v.hi)
theorem WRow.keep {w w':World} {g:Nat} {l:List Int} (h:WRow w g l) (hk:w'.heap[g]? =w.heap[g]?):WRow w' g l:=by
 obtain ⟨cs,h1,h2⟩:=h;exact ⟨cs,hk.trans h1,h2⟩
theorem LRow.keep {w w':World} {g:Nat} {l:List Lvl} (h:LRow w g l) (hk:w'.heap[g]? =w.heap[g]?):LRow w' g l:=by
 obtain ⟨cs,h1,h2⟩:=h;exact ⟨cs,hk.trans h1,h2⟩
theorem WRow.cell {w:World} {g i:Nat} {l:List Int} {v:Int} (h:WRow w g l) (hi:l[i]? =some v):w.cell? ⟨g,i*2,none⟩=some (.int .u64 (hiW v))/\w.cell? ⟨g,i*2+1,none⟩=some (.int .u64 (loW v))/\g<w.heap.size:=by
 obtain ⟨cs,h1,h2,h3⟩:=h
 obtain ⟨a,b⟩:=h3 i v hi
 exact ⟨by rw [cell_of_row w g _ cs _ _ h1];exact a,by rw [cell_of_row w g _ cs _ _ h1];exact b,lt_of_heap h1⟩
theorem LRow.at_ {w:World} {g i:Nat} {l:List Lvl} {v:Lvl} (h:LRow w g l) (hi:l[i]? =some v):LvAt w g (i*5) v.mi v.sh v.lim/\w.cell? ⟨g,i*5+4,none⟩=some (.int .i64 v.hi):=by
 obtain ⟨cs,h1,h2,h3⟩:=h
 obtain ⟨a,b,c,d,e⟩:=h3 i v hi
 refine ⟨⟨?_,?_,?_,?_,lt_of_heap h1⟩,?_⟩
 all_goals rw [cell_of_row w g _ cs _ _ h1]
 ·exact a
 ·exact b
 ·exact c
 ·exact d
 ·exact e
theorem WRow.frozen {w:World} {g:Nat} {l:List Int} (h:WRow w g l) (i:Nat):w.frozen? ⟨g,i,none⟩=false:=by
 obtain ⟨cs,h1,_⟩:=h;simp [World.frozen?,h1]
theorem LRow.frozen {w:World} {g:Nat} {l:List Lvl} (h:LRow w g l) (i:Nat):w.frozen? ⟨g,i,none⟩=false:=by
 obtain ⟨cs,h1,_⟩:=h;simp [World.frozen?,h1]
theorem WRow.put {w:World} {g:Nat} {l:List Int} (h:WRow w g l) (i:Nat) (v:Int):WRow ((w.setCell ⟨g,i*2,none⟩ (.int .u64 (hiW v))).setCell ⟨g,i*2+1,none⟩ (.int .u64 (loW v))) g (l.set i v):=by
 obtain ⟨cs,h1,h2,h3⟩:=h
 refine ⟨_,heap_setCell_self (heap_setCell_self h1 _) _,by simp [h2],fun j u hu=>?_⟩
 by_cases hij:i=j
 ·subst hij
  have hl:i<l.length:=by have :=(List.getElem?_eq_some_iff.1 hu).1;simpa using this
  rw [List.getElem?_set_self hl] at hu
  injection hu with hu
  subst hu
  constructor
  ·rw [Array.getElem?_setIfInBounds_ne (by omega),Array.getElem?_setIfInBounds_self_of_lt (by omega)]
  ·rw [Array.getElem?_setIfInBounds_self_of_lt (by simp;omega)]
 ·rw [List.getElem?_set_ne hij] at hu
  obtain ⟨a,b⟩:=h3 j u hu
  constructor
  ·rw [Array.getElem?_setIfInBounds_ne (by omega),Array.getElem?_setIfInBounds_ne (by omega)];exact a
  ·rw [Array.getElem?_setIfInBounds_ne (by omega),Array.getElem?_setIfInBounds_ne (by omega)];exact b
theorem LRow.put {w:World} {g:Nat} {l:List Lvl} (h:LRow w g l) (i:Nat) (v:Lvl):LRow (((((w.setCell ⟨g,i*5,none⟩ (.int .i64 v.mi)).setCell ⟨g,i*5+1,none⟩ (.int .i64 v.sh)).setCell ⟨g,i*5+2,none⟩ (.int .u64 (hiW v.lim))).setCell ⟨g,i*5+3,none⟩ (.int .u64 (loW v.lim))).setCell ⟨g,i*5+4,none⟩ (.int .i64 v.hi)) g (l.set i v):=by
 obtain ⟨cs,h1,h2,h3⟩:=h
 refine ⟨_,heap_setCell_self (heap_setCell_self (heap_setCell_self (heap_setCell_self (heap_setCell_self h1 _) _) _) _) _,by simp [h2],fun j u hu=>?_⟩
 by_cases hij:i=j
 ·subst hij
  have hl:i<l.length:=by have :=(List.getElem?_eq_some_iff.1 hu).1;simpa using this
  rw [List.getElem?_set_self hl] at hu
  injection hu with hu
  subst hu
  refine ⟨?_,?_,?_,?_,?_⟩
  ·iterate 4 rw [Array.getElem?_setIfInBounds_ne (by omega)]
   rw [Array.getElem?_setIfInBounds_self_of_lt (by omega)]
  ·iterate 3 rw [Array.getElem?_setIfInBounds_ne (by omega)]
   rw [Array.getElem?_setIfInBounds_self_of_lt (by simp;omega)]
  ·iterate 2 rw [Array.getElem?_setIfInBounds_ne (by omega)]
   rw [Array.getElem?_setIfInBounds_self_of_lt (by simp;omega)]
  ·rw [Array.getElem?_setIfInBounds_ne (by omega),Array.getElem?_setIfInBounds_self_of_lt (by simp;omega)]
  ·rw [Array.getElem?_setIfInBounds_self_of_lt (by simp;omega)]
 ·rw [List.getElem?_set_ne hij] at hu
  obtain ⟨a,b,c,d,e⟩:=h3 j u hu
  refine ⟨?_,?_,?_,?_,?_⟩
  all_goals iterate 5 rw [Array.getElem?_setIfInBounds_ne (by omega)]
  ·exact a
  ·exact b
  ·exact c
  ·exact d
  ·exact e
/-! ## The rows of the form: blocks that nobody writes -/
def ArrP (P:Nat->Prop) (w:World) (A:Option Addr) (e:TypeId) (vs:List Value):Prop:=
 0<vs.length->∃(b o:Nat) (cs:Array Value) (fr:Nat×Nat),A=some ⟨b,o,none⟩/\P b/\w.heap[b]? =some (.cells cs e fr)/\∀(j:Nat) (u:Value),vs[j]? =some u->cs[o+j]? =some u
theorem ArrP.arr {P:Nat->Prop} {w:World} {A:Option Addr} {e:TypeId} {vs:List Value} (h:ArrP P w A e vs):Arr w A e vs:=fun h0=>by
 obtain ⟨b,o,cs,fr,a,_,c,d⟩:=h h0;exact ⟨b,o,cs,fr,a,c,d⟩
theorem ArrP.keep {P:Nat->Prop} {w w':World} {A:Option Addr} {e:TypeId} {vs:List Value} (h:ArrP P w A e vs) (hk:∀b cs fr,P b->w.heap[b]? =some (Obj.cells cs e fr)->w'.heap[b]? =w.heap[b]?):ArrP P w' A e vs:=fun h0=>by
 obtain ⟨b,o,cs,fr,a,p,c,d⟩:=h h0;exact ⟨b,o,cs,fr,a,p,(hk b cs fr p c).trans c,d⟩
theorem ArrX.arrP {P:Nat->Prop} {lo:Nat} {w W:World} {A:Option Addr} {e:TypeId} {vs:List Value} (h:ArrX lo w A e vs) (hx:Ext w W) (hP:∀b,lo<=b->b<w.heap.size->P b):ArrP P W A e vs:=fun h0=>by
 obtain ⟨b,o,cs,fr,a,p,c,d⟩:=h h0;exact ⟨b,o,cs,fr,a,hP b p (lt_of_heap c),heap_of_ext hx c,d⟩
structure FV (P:Nat->Prop) (w:World) (mA lA:Option Addr) (D:List Int) (L:List (List Int)):Prop where
 mi:ArrP P w mA 2 (D.map (Value.int .i64))
 la:∃hs:List Value,hs.length=L.length/\ArrP P w lA 35 hs/\∀(i:Nat) (r:List Int),L[i]? =some r->∃B c,hs[i]? =some (.slice B r.length c)/\ArrP P w B 2 (r.map (Value.int .i64))/\r.length<=c/\c<=9223372036854775807
theorem FV.keep {P:Nat->Prop} {w w':World} {mA lA:Option Addr} {D:List Int} {L:List (List Int)} (h:FV P w mA lA D L) (hk:∀b cs e fr,P b->(e=2∨e=35)->w.heap[b]? =some (Obj.cells cs e fr)->w'.heap[b]? =w.heap[b]?):FV P w' mA lA D L:=by
 obtain ⟨hs,a,b,c⟩:=h.la
 refine ⟨h.mi.keep fun b cs fr p q=>hk b cs _ fr p (.inl rfl) q,hs,a,b.keep fun b cs fr p q=>hk b cs _ fr p (.inr rfl) q,fun i r hr=>?_⟩
 obtain ⟨B,d,x,y,z⟩:=c i r hr
 exact ⟨B,d,x,y.keep fun b cs fr p q=>hk b cs _ fr p (.inl rfl) q,z⟩
theorem FV.mat {P:Nat->Prop} {w:World} {mA lA:Option Addr} {D:List Int} {L:List (List Int)} (h:FV P w mA lA D L):Mat64 w lA L:=by
 obtain ⟨hs,a,b,c⟩:=h.la
 refine ⟨hs,a,b.arr,fun i r hr=>?_⟩
 obtain ⟨B,d,x,y,z⟩:=c i r hr
 exact ⟨B,d,x,y.arr,z⟩
theorem FV.ints {P:Nat->Prop} {w:World} {mA lA:Option Addr} {D:List Int} {L:List (List Int)} (h:FV P w mA lA D L):Ints w mA 2 .i64 D:=h.mi.arr
theorem Mat64X.fv {P:Nat->Prop} {lo:Nat} {w W:World} {mA lA:Option Addr} {D:List Int} {L:List (List Int)} (hD:ArrX lo w mA 2 (D.map (Value.int .i64))) (hL:Mat64X lo w lA L) (hx:Ext w W) (hP:∀b,lo<=b->b<w.heap.size->P b):FV P W mA lA D L:=by
 obtain ⟨hs,a,b,c⟩:=hL
 refine ⟨hD.arrP hx hP,hs,a,b.arrP hx hP,fun i r hr=>?_⟩
 obtain ⟨B,d,x,y,z⟩:=c i r hr
 exact ⟨B,d,x,y.arrP hx hP,z⟩
/-! ## The checker in memory -/
structure Lay where
 K:Nat
 bx:Nat
 br:Nat
 bl:Nat
 base:Nat
 n:Nat
 mA:Option Addr
 lA:Option Addr
 mc:Nat
 lc:Nat
 gw:World
def Lay.P (y:Lay) (b:Nat):Prop:=b≠y.bx/\b<y.base
def Lay.obj (y:Lay) (lB:Option Addr) (k c:Nat):Obj:= .cells #[.slice y.mA (y.n+1) y.mc,.slice y.lA y.n y.lc,.slice (some ⟨y.bx,0,none⟩) y.n y.n,.slice (some ⟨y.br,0,none⟩) (y.n+1) (y.n+1),.slice (some ⟨y.bl,0,none⟩) y.n y.n,.slice lB k c] 148 (0,0)
structure CMem (w W:World) (y:Lay) (D:List Int) (L:List (List Int)) (x rest:List Int) (lv:List Lvl) (lB:Option Addr) (c:Nat) (l:List (List Int)) (vs:List Value):Prop where
 ext:Ext w W
 kb:W.heap[y.K]? =some (y.obj lB l.length c)
 xr:Row W y.bx 2 .i64 x
 xl:x.length=y.n
 rr:WRow W y.br rest
 rl:rest.length=y.n+1
 lr:LRow W y.bl lv
 ll:lv.length=y.n
 fv:FV y.P W y.mA y.lA D L
 ls:LOwn W y.base lB c l vs
 sz:y.base<=W.heap.size
 wK:w.heap.size<=y.K
 wx:w.heap.size<=y.bx
 wr:w.heap.size<=y.br
 wl:w.heap.size<=y.bl
 bK:y.K<y.base
 bx:y.bx<y.base
 br:y.br<y.base
 bl:y.bl<y.base
 kp:Keeps 4 y.gw W
section
variable {w:World} {g i:Nat} {l:List Lvl} {v:Lvl}
end
section
variable {w W W':World} {y:Lay} {D:List Int} {L:List (List Int)} {x rest:List Int} {lv:List Lvl} {lB:Option Addr} {c:Nat} {l:List (List Int)} {vs:List Value}
theorem Row.heapE {w:World} {g:Nat} {e:TypeId} {k:IntKind} {l:List Int} (h:Row w g e k l):w.heap[g]? =some (.cells (l.map (Value.int k)).toArray e (0,0)):=h
theorem CMem.setX (h:CMem w W y D L x rest lv lB c l vs) (i:Nat) (v:Int):CMem w (W.setCell ⟨y.bx,i,none⟩ (.int .i64 v)) y D L (x.set i v) rest lv lB c l vs:=by
 obtain ⟨cr,hr,-⟩:=h.rr
 obtain ⟨cl,hl,-⟩:=h.lr
 have hx:=h.xr.heapE
 have hk:∀b,b≠y.bx->(W.setCell ⟨y.bx,i,none⟩ (.int .i64 v)).heap[b]? =W.heap[b]? :=fun b hb=>Below.heap_setCell W ⟨y.bx,i,none⟩ _ b hb
 exact {
  ext:=h.ext.setCell (p:=⟨y.bx,i,none⟩) h.wx _
  kb:=(hk _ (ne_of_typed h.kb hx (by decide))).trans h.kb
  xr:=h.xr.set i v
  xl:=by rw [List.length_set];exact h.xl
  rr:=h.rr.keep (hk _ (ne_of_typed hr hx (by decide)))
  rl:=h.rl
  lr:=h.lr.keep (hk _ (ne_of_typed hl hx (by decide)))
  ll:=h.ll
  fv:=h.fv.keep fun b cs e fr p _ _=>hk b p.1
  ls:=h.ls.set (p:=⟨y.bx,i,none⟩) h.bx _
  sz:=by rw [size_setCell];exact h.sz
  wK:=h.wK
  wx:=h.wx
  wr:=h.wr
  wl:=h.wl
  bK:=h.bK
  bx:=h.bx
  br:=h.br
  bl:=h.bl
  kp:=⟨fun b cs fr hb=>(hk b (ne_of_typed (h.kp.keep b cs fr hb) hx (by decide))).trans (h.kp.keep b cs fr hb)⟩}
end
theorem CMem.snoc {w W W3 w4:World} {y:Lay} {D:List Int} {L:List (List Int)} {x rest:List Int} {lv:List Lvl} {lB:Option Addr} {c:Nat} {l:List (List Int)} {vs:List Value} (h:CMem w W y D L x rest lv lB c l vs) (hx:Ext W W3) {A4 B:Option Addr} {d4 d:Nat} {r:List Int} (hg:Grow y.base 35 W3 w4) (ho:Own w4 y.base 35 1 A4 (l.length+1) d4 (vs++[.slice B r.length d])) (hr:ArrX y.base W3 B 2 (r.map (Value.int .i64))) (h1:r.length<=d) (h2:d<=9223372036854775807):
  CMem w (w4.setCell ⟨y.K,5,none⟩ (.slice A4 (l.length+1) d4)) y D L x rest lv A4 d4 (l++[r]) (vs++[.slice B r.length d]):=by
 obtain ⟨cr,hr',-⟩:=h.rr
 obtain ⟨cl,hl,-⟩:=h.lr
 have hxx:=h.xr.heapE
 have hsz:=h.sz
 have hk0:∀b,b<y.base->w4.heap[b]? =W.heap[b]? :=fun b hb=>(hg.below.block b hb).trans (hx.below.block b (by omega))
 have hk:∀b,b<y.base->b≠y.K->(w4.setCell ⟨y.K,5,none⟩ (.slice A4 (l.length+1) d4)).heap[b]? =W.heap[b]? :=fun b hb hne=>(Below.heap_setCell w4 ⟨y.K,5,none⟩ _ b hne).trans (hk0 b hb)
 exact {
  ext:=(hg.ext (h.ext.trans hx) (by have :=h.wK;have :=h.bK;omega)).setCell (p:=⟨y.K,5,none⟩) h.wK _
  kb:=by
   have h1:w4.heap[y.K]? =some (y.obj lB l.length c):=(hk0 _ h.bK).trans h.kb
   unfold Lay.obj at h1
   rw [heap_setCell_self h1,List.length_append]
   rfl
  xr:=(hk _ h.bx (ne_of_typed hxx h.kb (by decide))).trans hxx
  xl:=h.xl
  rr:=h.rr.keep (hk _ h.br (ne_of_typed hr' h.kb (by decide)))
  rl:=h.rl
  lr:=h.lr.keep (hk _ h.bl (ne_of_typed hl h.kb (by decide)))
  ll:=h.ll
  fv:=h.fv.keep fun b cs e fr p q z=>hk b p.2 (ne_of_typed z h.kb (by rcases q with rfl |rfl<;>decide))
  ls:=(h.ls.snoc hx hg ho hr h1 h2).set (p:=⟨y.K,5,none⟩) h.bK _
  sz:=by rw [size_setCell];have :=hx.size;have :=hg.below.size;omega
  wK:=h.wK
  wx:=h.wx
  wr:=h.wr
  wl:=h.wl
  bK:=h.bK
  bx:=h.bx
  br:=h.br
  bl:=h.bl
  kp:=⟨fun b cs fr hb=>by
   have h1:=h.kp.keep b cs fr hb
   have h2:=hg.heap (heap_of_ext hx h1) (by decide)
   exact (Below.heap_setCell w4 ⟨y.K,5,none⟩ _ b (ne_of_typed h1 h.kb (by decide))).trans h2⟩}
/-! ## What the check does, in plain numbers -/
def lvlAt (D:List Int) (L:List (List Int)) (k:Nat) (x rest:List Int) (hi:Int):Lvl:=⟨vD D (k+1),dotL (L.getD k []) (x.drop (k+1)),rest.getD (k+1) 0*vD D k,hi⟩
def restOf (v:Lvl) (a:Int):Int:=(v.lim-lvU v.mi v.sh a*lvU v.mi v.sh a) / v.mi
structure ChkInv (D:List Int) (L:List (List Int)) (n:Nat) (bound:Int) (k:Nat) (x rest:List Int) (lv:List Lvl):Prop where
 kn:k<n
 xl:x.length=n
 rl:rest.length=n+1
 ll:lv.length=n
 xb:∀y∈x,-1099511627776<=y/\y<=1099511627776
 rs:∀j,k<j->j<=n->0<=rest.getD j 0/\rest.getD j 0<=vD D j*bound
 lo:∀j,k<j->j<n->(lv.getD j ⟨0,0,0,0⟩)=lvlAt D L j x rest (lv.getD j ⟨0,0,0,0⟩).hi/\insB (lvlAt D L j x rest 0).mi (lvlAt D L j x rest 0).sh (lvlAt D L j x rest 0).lim (x.getD j 0)=true/\insB (lvlAt D L j x rest 0).mi (lvlAt D L j x rest 0).sh (lvlAt D L j x rest 0).lim (lv.getD j ⟨0,0,0,0⟩).hi=true/\(lv.getD j ⟨0,0,0,0⟩).hi<=1099511627776
structure ChkN (D:List Int) (L:List (List Int)) (n:Nat) (bound:Int):Prop where
 n1:1<=n
 n8:n<=8
 dl:D.length=n+1
 ll:L.length=n
 row:∀k,k<n->(L.getD k []).length=n-1-k
 d1:∀k,k<=n->1<=vD D k
 d2:∀k,k<=n->vD D k<65536
 lam:∀k,k<n->∀x∈L.getD k [],-(vD D (k+1))<=2*x/\2*x<=vD D (k+1)
 b0:0<=bound
 big:∀k,k<n->vD D (k+1)*bound*vD D k<79228162514264337593543950336
theorem insB_le {mi sh lim a:Int} (h:insB mi sh lim a=true):lvU mi sh a*lvU mi sh a<=lim:=by
 simp only [insB,Bool.not_eq_true',decide_eq_false_iff_not] at h;omega
theorem getD_set_ne {α:Type} (l:List α) (i j:Nat) (a d:α) (h:i≠j):(l.set i a).getD j d=l.getD j d:=by
 simp [List.getD_eq_getElem?_getD,List.getElem?_set_ne h]
theorem getD_set_self {α:Type} (l:List α) (i:Nat) (a d:α) (h:i<l.length):(l.set i a).getD i d=a:=by
 simp [List.getD_eq_getElem?_getD,List.getElem?_set_self h]
theorem lvlAt_set {D:List Int} {L:List (List Int)} {j k:Nat} {x rest:List Int} {a b hi:Int} (h:k<=j):lvlAt D L j (x.set k a) (rest.set k b) hi=lvlAt D L j x rest hi:=by
 unfold lvlAt
 rw [List.drop_set_of_lt (by omega),getD_set_ne _ _ _ _ _ (by omega)]
theorem ChkInv.mono {D:List Int} {L:List (List Int)} {n:Nat} {bound:Int} {k k1:Nat} {x rest:List Int} {lv:List Lvl} (h:ChkInv D L n bound k x rest lv) (h1:k<=k1) (h2:k1<n):ChkInv D L n bound k1 x rest lv:=
 ⟨h2,h.xl,h.rl,h.ll,h.xb,fun j a b=>h.rs j (by omega) b,fun j a b=>h.lo j (by omega) b⟩
theorem ChkInv.next {D:List Int} {L:List (List Int)} {n:Nat} {bound:Int} {k:Nat} {x rest:List Int} {lv:List Lvl} {a:Int} (hN:ChkN D L n bound) (h:ChkInv D L n bound k x rest lv) (hk:1<=k) (hv:lv.getD k ⟨0,0,0,0⟩=lvlAt D L k x rest (lv.getD k ⟨0,0,0,0⟩).hi)
  (ha:insB (lvlAt D L k x rest 0).mi (lvlAt D L k x rest 0).sh (lvlAt D L k x rest 0).lim a=true) (hh:insB (lvlAt D L k x rest 0).mi (lvlAt D L k x rest 0).sh (lvlAt D L k x rest 0).lim (lv.getD k ⟨0,0,0,0⟩).hi=true) (hb:(lv.getD k ⟨0,0,0,0⟩).hi<=1099511627776) (a1:-1099511627776<=a) (a2:a<=1099511627776):
  ChkInv D L n bound (k-1) (x.set k a) (rest.set k (restOf (lv.getD k ⟨0,0,0,0⟩) a)) lv:=by
 have hkn:=h.kn
 refine ⟨by omega,by rw [List.length_set];exact h.xl,by rw [List.length_set];exact h.rl,h.ll,fun y hy=>?_,fun j j1 j2=>?_,fun j j1 j2=>?_⟩
 ·rcases List.mem_or_eq_of_mem_set hy with hy |rfl
  ·exact h.xb y hy
  ·exact ⟨a1,a2⟩
 ·rcases Nat.lt_or_ge k j with hj |hj
  ·rw [getD_set_ne _ _ _ _ _ (by omega)];exact h.rs j hj j2
  ·obtain rfl:j=k:=by omega
   rw [getD_set_self _ _ _ _ (by rw [h.rl];omega),hv]
   have hle:=insB_le ha
   obtain ⟨r0,r1⟩:=h.rs (j+1) (by omega) (by omega)
   have d1:=hN.d1 (j+1) (by omega)
   have d0:=hN.d1 j (by omega)
   simp only [restOf,lvlAt] at hle |-
   generalize lvU (vD D (j+1)) (dotL (L.getD j []) (x.drop (j+1))) a=u at hle |-
   have u0:0<=u*u:=by
    rcases Int.le_total 0 u with hu |hu
    ·exact Int.mul_nonneg hu hu
    ·exact Int.mul_nonneg_of_nonpos_of_nonpos hu hu
   constructor
   ·exact Int.ediv_nonneg (by omega) (by omega)
   ·have hm:rest.getD (j+1) 0*vD D j<=vD D (j+1)*bound*vD D j:=Int.mul_le_mul_of_nonneg_right r1 (by omega)
    have :(rest.getD (j+1) 0*vD D j-u*u) / vD D (j+1)<=(vD D j*bound*vD D (j+1)) / vD D (j+1):=by
     apply Int.ediv_le_ediv (by omega)
     rw [show vD D j*bound*vD D (j+1)=vD D (j+1)*bound*vD D j by rw [Int.mul_comm (vD D j*bound),Int.mul_comm (vD D j),<-Int.mul_assoc]]
     omega
    rwa [Int.mul_ediv_cancel _ (by omega)] at this
 ·rcases Nat.lt_or_ge k j with hj |hj
  ·have :=h.lo j hj j2
   rw [lvlAt_set (by omega),lvlAt_set (by omega),getD_set_ne x _ _ _ _ (by omega)]
   exact this
  ·obtain rfl:j=k:=by omega
   rw [lvlAt_set (by omega),lvlAt_set (by omega),getD_set_self x _ _ _ (by rw [h.xl];omega)]
   exact ⟨hv,ha,hh,hb⟩
def IvV (w:World) (A:Option Addr) (C:List (Int×Int)):Prop:=(∃te,Arr w A te (C.flatMap fun p=>[.int .i64 p.1,.int .i64 p.2]))/\∀p∈C,-9223372036854775808<=p.1/\p.1<=9223372036854775807/\-9223372036854775808<=p.2/\p.2<=9223372036854775807
theorem IvV.ext {w w':World} {A:Option Addr} {C:List (Int×Int)} (h:IvV w A C) (hx:Ext w w'):IvV w' A C:=by
 obtain ⟨⟨te,h1⟩,h2⟩:=h
 exact ⟨⟨te,h1.ext hx⟩,h2⟩
def IvT (w:World) (A:Option Addr) (C:List (Int×Int)):Prop:=Arr w A 82 (C.flatMap fun p=>[.int .i64 p.1,.int .i64 p.2])/\∀p∈C,-9223372036854775808<=p.1/\p.1<=9223372036854775807/\-9223372036854775808<=p.2/\p.2<=9223372036854775807
theorem IvT.ext {w w':World} {A:Option Addr} {C:List (Int×Int)} (h:IvT w A C) (hx:Ext w w'):IvT w' A C:=⟨h.1.ext hx,h.2⟩
theorem ivFlat:∀(C:List (Int×Int)) (i:Nat) (p:Int×Int),C[i]? =some p->(C.flatMap fun p=>[Value.int .i64 p.1,Value.int .i64 p.2])[i*2]? =some (.int .i64 p.1)/\(C.flatMap fun p=>[Value.int .i64 p.1,Value.int .i64 p.2])[i*2+1]? =some (.int .i64 p.2)
 |[],i,p,h=>by simp at h
 |q::C,0,p,h=>by simp at h;subst h;exact ⟨rfl,rfl⟩
 |q::C,i+1,p,h=>by
  have :=ivFlat C i p (by simpa using h)
  rw [show (i+1)*2=i*2+2 by omega]
  exact this
theorem IvV.at_ {w:World} {A:Option Addr} {C:List (Int×Int)} (h:IvV w A C) {i:Nat} {p:Int×Int} (hi:C[i]? =some p):∃b o,A=some ⟨b,o,none⟩/\w.cell? ⟨b,o+i*2,none⟩=some (.int .i64 p.1)/\w.cell? ⟨b,o+i*2+1,none⟩=some (.int .i64 p.2)/\b<w.heap.size:=by
 obtain ⟨f1,f2⟩:=ivFlat C i p hi
 obtain ⟨⟨te,ha⟩,-⟩:=h
 obtain ⟨b,o,hA,h1,h2⟩:=ha.at_ f1
 obtain ⟨b',o',hA',h1',-⟩:=ha.at_ f2
 rw [hA] at hA'
 injection hA' with hA'
 injection hA' with z1 z2
 subst z1 z2
 exact ⟨b,o,hA,h1,h1',h2⟩
end Go.Proofs.YtijfjailmilkfaaGreat
