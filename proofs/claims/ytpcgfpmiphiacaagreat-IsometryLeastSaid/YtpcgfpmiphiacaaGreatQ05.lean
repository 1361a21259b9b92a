/- Elim Nwalk Vnum Visit Tails Range Steps1 -/
import Derived.Test.YtpcgfpmiphiacaaGreatQ04
import Derived.Test.YtpcgfpmiphiacaaGreatProg
import Derived.Test.YtpcgfpmiphiacaaGreatShelf
import Derived.RangeFuncNested
import Derived.RangeFuncBound
import Derived.RangeFuncCalls
import Derived.RangeFuncLeaves
import Derived.Shelf.Abstract
import Derived.OwnWalkIn
import Derived.TacticsInMore
import Derived.LoopNIn
import Derived.LoopIn
import Derived.Stop.RegionWithIn
set_option maxHeartbeats 8000000
set_option linter.unusedVariables false
set_option linter.unusedSimpArgs false
set_option linter.constructorNameAsVariable false
namespace Go.Proofs.YtpcgfpmiphiacaaGreat
open Go.RowKit
def RetElim (w:World) (m:List (List Int)) (e:Ending) (w':World):Prop:=∃A c B d,e= .returned (.agg #[.slice A m.length c,.slice B (m.length+1) d])/\StV w' A (stagesOf m)/\IntsV w' B (minorsTo m m.length)/\m.length<=c/\c<=9223372036854775807/\m.length+1<=d/\d<=9223372036854775807/\Step w w'
theorem eliminate_any {w0 w:World} {A:Option Addr} {c:Nat} {m:List (List Int)} (h:MatA w0 A m) (h1:1<=m.length) (h8:m.length<=8) (hn:AllLen m m.length) (hF:Fits64 m) (hok:ElimOK m) [hx:Ext w0 w]:
  Calls Tryz.prog 187 #[.slice A m.length c] w (RetElim w m):=by
 have HN:=Lib.hid hn
 have HOK:=Lib.hid hok
 have HFI:=Lib.hid hF
 clear hn hok hF
 go_enter Tryz.func187,Tryz.ntmps187
 go_wp2_with (first |(go_at_call 171;refine (FromInts_ok h m.length h1 (by omega) h1 (by omega) HN.out HFI.out).mono ?_;rintro e w1 ⟨A1,c1,rfl,hM,k1,k2,hs1⟩) |(go_at_call 199;refine (Stages_ok hM h1 (by omega) HN.out HOK.out).mono ?_;rintro e w2 ⟨A2,c2,rfl,hS,k3,k4,hs2⟩) |(go_at_call 220;refine (Small_any 1 (by omega) (by omega) _).mono ?_;rintro e w3 ⟨g3,B3,n3,d3,rfl,hI,hs3⟩))
 have hsl:(stagesOf m).length=m.length:=by simp [stagesOf]
 rw [hsl]
 have HSL:=Lib.hid hsl
 clear hsl
 have hx3:Ext w2 w3:=inferInstance
 obtain ⟨b,o,-,-,-,-,-,-,rfl,-⟩:=StV.rowAt hS HN.out (k:=0) (by omega)
 have hown0:Own ((w3.alloc (.cells #[.bool g3,.slice B3 n3 d3] 149)).alloc (.cells #[.slice (some ⟨b,o,none⟩) m.length c2,.slice (some ⟨w3.heap.size,0,none⟩) 1 1] 248)) w3.heap.size 149 2 (some ⟨w3.heap.size,0,none⟩) 1 1 [.bool g3,.slice B3 n3 d3]:=(Own.new w3 149 2 1 #[.bool g3,.slice B3 n3 d3] rfl (by omega)).ext inferInstance
 go_loopw [9,26] (fun _ i wr=>∃(k:Nat) (B:Option Addr) (d:Nat) (vs:List Value),k<=m.length/\i= .int .i64 k/\wr.heap[w3.heap.size+1]? =some (.cells #[.slice (some ⟨b,o,none⟩) m.length c2,.slice B (k+1) d] 248 (0,0))/\Own wr w3.heap.size 149 2 B (k+1) d vs/\Hid (VsOf w3 vs (minorsTo m k))/\Ext w3 wr) (fun _ i _=>m.length-(intOf i).toNat)
 case atStart=>
  refine ⟨0,_,_,_,by omega,rfl,?_,hown0,Lib.hid (VsOf.one hI),inferInstance⟩
  ·have :=heap_alloc_new (w3.alloc (.cells #[.bool g3,.slice B3 n3 d3] 149)) (.cells #[.slice (some ⟨b,o,none⟩) m.length c2,.slice (some ⟨w3.heap.size,0,none⟩) 1 1] 248)
   simpa using this
 case round=>
  obtain ⟨k,B,d,vs,hk,rfl,hbox,hown,HZ,hxr⟩:=hrel
  by_cases hlt:k<m.length
  ·obtain ⟨b',o',b1,o1,c1',b2,o2,c2',hA,l1,l2,l3,l4,L5,L6⟩:=StV.rowAt hS HN.out hlt
   injection hA with hA
   injection hA with x1 x2
   subst x1 x2
   obtain ⟨g,B',n',c',hV,L7⟩:=L6 0 (by omega)
   obtain ⟨p1,p2,p3,p4,p5⟩:=L5 wr (Ext.trans hx3 hxr)
   obtain ⟨p6,p7⟩:=L7 wr (Ext.trans hx3 hxr)
   simp only [Nat.zero_mul,Nat.add_zero] at p6 p7
   have L7':=Lib.hid L7
   have hk1:1<=m.length-k:=by omega
   obtain ⟨r,hr⟩:∃r,r=m.length-k:=⟨_,rfl⟩
   rw [<-hr] at p1 p2 hk1 l1 l3
   have HR:=Lib.hid hr
   have hr0:0<r:=by omega
   clear L5 L6 L7 hr
   have hc1:wr.cell? ⟨w3.heap.size+1,0,none⟩=some (.slice (some ⟨b,o,none⟩) m.length c2):=by simp [World.cell?,hbox]
   have hc2:wr.cell? ⟨w3.heap.size+1,1,none⟩=some (.slice B (k+1) d):=by simp [World.cell?,hbox]
   have hf2:wr.frozen? ⟨w3.heap.size+1,1,none⟩=false:=by simp [World.frozen?,hbox]
   have hsz:w3.heap.size+1<wr.heap.size:=lt_of_heap hbox
   have hB:=Lib.hid hbox
   clear hbox
   go_wp2
   go_region_law ((refine step_app _ rfl (.tmp 31) (.tmp 37) 94 rfl w3.heap.size 149 (.agg #[.bool false,.slice none 0 0]) 2 32 Tryz.underlying94 infoInt rfl (by decide) (by decide) B (k+1) d vs (by simp [Act.eval]) (hown.ext inferInstance) (some ⟨wr.heap.size,0,none⟩) 1 1 [.bool g,.slice B' n' c'] (by simp [Act.eval]) ((Arr.new wr 149 #[.bool g,.slice B' n' c']).ext inferInstance) rfl (by simp [Value.oneCell']) (by omega) (by simp<;>omega) ?_);intro A1 d1 w4 hown4 hg4;have hb4:=hg4.heap (heap_of_ext (inferInstance:Ext wr ((wr.alloc (Obj.cells #[Value.bool g,Value.slice B' n' c'] 149)).drew)) hB.out) (by decide);have hc4:w4.cell? ⟨w3.heap.size+1,1,none⟩=some (.slice B (k+1) d):=(by simp [World.cell?,hb4]);have hf4:w4.frozen? ⟨w3.heap.size+1,1,none⟩=false:=(by simp [World.frozen?,hb4]);have hs4:w3.heap.size+1<w4.heap.size:=lt_of_heap hb4;have HB4:=Lib.hid hb4;clear hb4)
   all_goals
    go_wp2
    refine ⟨⟨k+1,A1,d1,vs++[.bool g,.slice B' n' c'],by omega,by go_num,?_,?_,?_,?_⟩,by simp [intOf]<;>omega⟩
    ·rw [box_set2_1 HB4.out]
    ·exact hown4.far (p:=⟨w3.heap.size+1,1,none⟩) HB4.out (by decide) _
    ·rw [minorsTo_succ]
     exact Lib.hid (VsOf.snoc HZ.out (by rw [minorsTo_length];exact hown.len) (hV.ext hx3))
    ·exact (hg4.ext inferInstance (Nat.le_refl _)).setCell (p:=⟨w3.heap.size+1,1,none⟩) (Nat.le_succ _) _
  ·obtain rfl:k=m.length:=by omega
   clear hlt
   obtain ⟨hc1,hc2,-,-,hsz⟩:=box_cells2 hbox
   have hr1:wr.heap[w.heap.size]? =some (.cells #[.slice none 0 0,.slice none 0 0] 248 (0,0)):=heap_of_ext (Ext.trans (Ext.trans (hs1.ext) (hs2.ext)) (Ext.trans hs3.ext hxr)) (heap_alloc_new w _)
   obtain ⟨r1,r2,r3,r4,r5⟩:=box_cells2 hr1
   have HB:=Lib.hid hbox
   have HR:=Lib.hid hr1
   clear hbox hr1
   go_wp2
   refine bodyPost_ret (v:= .agg #[.slice (some ⟨b,o,none⟩) m.length c2,.slice B (m.length+1) d]) (by simp [results,Tryz.results187,go_sem,r1,r2]) rfl ⟨_,_,_,_,rfl,?_,?_,by have :=HSL.out;omega,k4,hown.cap.1,hown.cap.2,?_⟩
   ·exact (hS.ext (Ext.trans hx3 hxr)).oth (Oth.set2 HR.out 0 1 _ _) (by decide) (by decide) (by decide) (by decide)
   ·exact (HZ.out.intsV (by rw [minorsTo_length];exact hown.len) hown.arr hxr).oth (Oth.set2 HR.out 0 1 _ _) (by decide) (by decide)
   ·have hxw:Ext w wr:=Ext.trans (Ext.trans (Ext.trans (inferInstance:Ext w (w.alloc (.cells #[.slice none 0 0,.slice none 0 0] 248))) hs1.ext) hs2.ext) (Ext.trans hs3.ext hxr)
    exact ((hxw.setCell (p:=⟨w.heap.size,0,none⟩) (Nat.le_refl _) _).setCell (p:=⟨w.heap.size,1,none⟩) (Nat.le_refl _) _).toStep
theorem Oth.grow {T e:TypeId} {w w' w2:World} (h:Oth T w w') (hg:Grow w.heap.size e w' w2):Oth T w w2:=fun b cs e' fr hn hb=>(hg.below.block b (lt_of_heap hb)).trans (h b cs e' fr hn hb)
def lamRow (m:List (List Int)) (k:Nat):List Int:=(List.range (m.length-k-1)).map fun j=>ent (stAt m k).2 0 (j+1)
def lamTo (m:List (List Int)) (k:Nat):List (List Int):=(List.range k).map (lamRow m)
def Rows64 (m:List (List Int)):Prop:=∀k,k<m.length->∀j,j<m.length-k->-9223372036854775808<=ent (stAt m k).2 0 j/\ent (stAt m k).2 0 j<=9223372036854775807
theorem minors64 {m:List (List Int)} (h:Rows64 m) {i:Nat} {z:Int} (hz:(minorsTo m m.length)[i]? =some z):-9223372036854775808<=z/\z<=9223372036854775807:=by
 cases i with
 |zero=>simp [minorsTo] at hz;omega
 |succ i=>
  rw [minorsTo,List.getElem?_cons_succ,List.getElem?_map] at hz
  rcases Nat.lt_or_ge i m.length with hi |hi
  ·rw [List.getElem?_range hi] at hz
   simp at hz
   subst hz
   exact h i hi 0 (by omega)
  ·rw [List.getElem?_eq_none (by simpa using hi)] at hz
   cases hz
theorem box_cells4 {w:World} {b:Nat} {x0 x1 x2 x3:Value} {T:TypeId} (h:w.heap[b]? =some (.cells #[x0,x1,x2,x3] T (0,0))):w.cell? ⟨b,0,none⟩=some x0/\w.cell? ⟨b,1,none⟩=some x1/\w.cell? ⟨b,2,none⟩=some x2/\w.cell? ⟨b,3,none⟩=some x3/\(∀i,w.frozen? ⟨b,i,none⟩=false)/\b<w.heap.size:=
 ⟨by simp [World.cell?,h],by simp [World.cell?,h],by simp [World.cell?,h],by simp [World.cell?,h],fun i=>by simp [World.frozen?,h],lt_of_heap h⟩
def ArrX (lo:Nat) (w:World) (A:Option Addr) (e:TypeId) (vs:List Value):Prop:=
 0<vs.length->∃(b o:Nat) (cs:Array Value) (fr:Nat×Nat),A=some ⟨b,o,none⟩/\lo<=b/\w.heap[b]? =some (.cells cs e fr)/\∀(j:Nat) (u:Value),vs[j]? =some u->cs[o+j]? =some u
section
variable {lo:Nat} {w w':World} {A:Option Addr} {e e' T:TypeId} {vs:List Value}
theorem ArrX.keep (h:ArrX lo w A e vs) (hk:∀(b:Nat) (cs:Array Value) (fr:Nat×Nat),lo<=b->w.heap[b]? =some (Obj.cells cs e fr)->w'.heap[b]? =w.heap[b]?):ArrX lo w' A e vs:=fun h0=>by
 obtain ⟨b,o,cs,fr,rfl,hl,hb,hc⟩:=h h0
 exact ⟨b,o,cs,fr,rfl,hl,(hk _ _ _ hl hb).trans hb,hc⟩
theorem ArrX.ext (h:ArrX lo w A e vs) (hx:Ext w w'):ArrX lo w' A e vs:=h.keep fun _ _ _ _ hb=>hx.below.block _ (lt_of_heap hb)
theorem ArrX.oth (h:ArrX lo w A e vs) (ho:Oth T w w') (hn:e≠T):ArrX lo w' A e vs:=h.keep fun b cs fr _ hb=>(ho b cs e fr hn hb).trans hb.symm
theorem ArrX.arr (h:ArrX lo w A e vs):Arr w A e vs:=fun h0=>by
 obtain ⟨b,o,cs,fr,rfl,_,hb,hc⟩:=h h0
 exact ⟨b,o,cs,fr,rfl,hb,hc⟩
theorem ArrX.at_ (h:ArrX lo w A e vs) {i:Nat} {u:Value} (hu:vs[i]? =some u):∃b o,A=some ⟨b,o,none⟩/\w.cell? ⟨b,o+i,none⟩=some u/\lo<=b/\b<w.heap.size:=by
 have hl:0<vs.length:=by
  rcases Nat.eq_zero_or_pos vs.length with h0 |h0
  ·have :=List.eq_nil_of_length_eq_zero h0;subst this;simp at hu
  ·exact h0
 obtain ⟨b,o,cs,fr,rfl,hlo,hb,hc⟩:=h hl
 exact ⟨b,o,rfl,by rw [cell_of_row w b (o+i) cs e fr hb];exact hc i u hu,hlo,lt_of_heap hb⟩
theorem Own.arrX {base size n c:Nat} {xs:List Value} (h:Own w base e size A n c xs):ArrX base w A e xs:=fun h0=>by
 rcases h.2 with ⟨hv,hn⟩ |⟨g,cap,cur,hv,h1,h2,_,_,_,h4⟩
 ·have :=h.1;rw [hn] at this;omega
 ·injection hv with hA
  subst hA
  refine ⟨g,0,cur,(0,0),rfl,h1,h2,fun j u hu=>?_⟩
  rw [<-h4,List.getElem?_take] at hu
  split at hu
  ·simpa using hu
  ·cases hu
theorem ArrX.lower (h:ArrX lo w A e vs) {lo':Nat} (hl:lo'<=lo):ArrX lo' w A e vs:=fun h0=>by
 obtain ⟨b,o,cs,fr,rfl,h1,hb,hc⟩:=h h0
 exact ⟨b,o,cs,fr,rfl,by omega,hb,hc⟩
end
def Mat64X (lo:Nat) (w:World) (A:Option Addr) (L:List (List Int)):Prop:=
 ∃vs:List Value,vs.length=L.length/\ArrX lo w A 35 vs/\∀(i:Nat) (r:List Int),L[i]? =some r->∃B c,vs[i]? =some (.slice B r.length c)/\ArrX lo w B 2 (r.map (Value.int .i64))/\r.length<=c/\c<=9223372036854775807
structure WalkV (w w':World) (bound:Int) (D:List Int) (L:List (List Int)) (n:Nat) (mA lA:Option Addr) (mc lc:Nat):Prop where
 st:w'.heap[w.heap.size+1]? =some (.cells #[.int .i64 bound,.slice mA D.length mc,.slice lA L.length lc,.slice (some ⟨w.heap.size,0,none⟩) n n] 246 (0,0))
 xs:Row w' w.heap.size 2 .i64 (List.replicate n 0)
 mi:ArrX (w.heap.size+2) w' mA 2 (D.map (Value.int .i64))
 la:Mat64X (w.heap.size+2) w' lA L
 mc0:D.length<=mc
 mc1:mc<=9223372036854775807
 lc0:L.length<=lc
 lc1:lc<=9223372036854775807
def RetWalk (w:World) (bound:Int) (D:List Int) (L:List (List Int)) (n:Nat) (e:Ending) (w':World):Prop:=e= .returned (.pointer (some ⟨w.heap.size+1,0,none⟩))/\(∃mA lA mc lc,WalkV w w' bound D L n mA lA mc lc)/\Step w w'
theorem take_map_snoc (D:List Int) (k:Nat) (z:Int) (h:D[k]? =some z):(D.take (k+1)).map (Value.int .i64)=(D.take k).map (Value.int .i64)++[.int .i64 z]:=by
 rw [List.take_add_one,h];simp
theorem box_set4_1 {w:World} {b:Nat} {x0 x1 x2 x3 u:Value} {T:TypeId} (h:w.heap[b]? =some (.cells #[x0,x1,x2,x3] T (0,0))):(w.setCell ⟨b,1,none⟩ u).heap[b]? =some (.cells #[x0,u,x2,x3] T (0,0)):=by
 rw [heap_setCell_self h];rfl
theorem box_set4_2 {w:World} {b:Nat} {x0 x1 x2 x3 u:Value} {T:TypeId} (h:w.heap[b]? =some (.cells #[x0,x1,x2,x3] T (0,0))):(w.setCell ⟨b,2,none⟩ u).heap[b]? =some (.cells #[x0,x1,u,x3] T (0,0)):=by
 rw [heap_setCell_self h];rfl
set_option maxRecDepth 10000 in
theorem newWalk_any {w0 w:World} {A:Option Addr} {c:Nat} {m:List (List Int)} {bound:Int} (h:MatA w0 A m) (h1:1<=m.length) (h8:m.length<=8) (hn:AllLen m m.length) (hF:Fits64 m) (hok:ElimOK m) (h64:Rows64 m) [hx:Ext w0 w]:
  Calls Tryz.prog 129 #[.slice A m.length c,.int .i64 bound] w (RetWalk w bound (minorsTo m m.length) (lamTo m m.length) m.length):=by
 have hel:=fun W (hxx:Ext w0 W)=>eliminate_any (c:=c) (w:=W) h h1 h8 hn hF hok
 have HEL:=Lib.hid hel
 have hmk:=run_make_any (P:=Tryz.prog) Tryz.underlying35 infoI64 (by omega) (m.length:Int) (by omega) (by omega)
 have HN:=Lib.hid hn
 have H64:=Lib.hid h64
 clear hel hn hF hok h64
 go_enter Tryz.func129,Tryz.ntmps129
 go_wp2_with (go_at_call 187;refine (HEL.out _ inferInstance).mono ?_;rintro e w1 ⟨A1,c1,B1,d1,rfl,hS,hM,k1,k2,k3,k4,hs1⟩)
 have hst0:(w1.alloc (.cells #[.slice A1 m.length c1,.slice B1 (m.length+1) d1] 248)).heap[w.heap.size+1]? =some (.cells #[.int .i64 bound,.slice none 0 0,.slice none 0 0,.slice (some ⟨w.heap.size,0,none⟩) m.length m.length] 246 (0,0)):=by
  refine heap_of_ext (Ext.trans hs1.ext inferInstance) ?_
  have :=heap_alloc_new (w.alloc (.cells (mkCells #[.int .i64 0] m.length) 2)) (.cells #[.int .i64 bound,.slice none 0 0,.slice none 0 0,.slice (some ⟨w.heap.size,0,none⟩) m.length m.length] 246)
  simpa using this
 have hxr0:Row (w1.alloc (.cells #[.slice A1 m.length c1,.slice B1 (m.length+1) d1] 248)) w.heap.size 2 .i64 (List.replicate m.length 0):=by
  have h2:=Row.made w m.length .i64 2
  rw [<-mkCells_row] at h2
  exact (h2.ext inferInstance).ext (Ext.trans hs1.ext inferInstance)
 have hea:(w1.alloc (.cells #[.slice A1 m.length c1,.slice B1 (m.length+1) d1] 248)).heap[w1.heap.size]? =some (.cells #[.slice A1 m.length c1,.slice B1 (m.length+1) d1] 248 (0,0)):=heap_alloc_new _ _
 have hxa:Ext w (w1.alloc (.cells #[.slice A1 m.length c1,.slice B1 (m.length+1) d1] 248)):=Ext.trans (Ext.trans inferInstance hs1.ext) inferInstance
 have hSa:=hS.ext (inferInstance:Ext w1 (w1.alloc (.cells #[.slice A1 m.length c1,.slice B1 (m.length+1) d1] 248)))
 have hMa:=hM.ext (inferInstance:Ext w1 (w1.alloc (.cells #[.slice A1 m.length c1,.slice B1 (m.length+1) d1] 248)))
 have hsz1:w.heap.size+2<=w1.heap.size:=by have :=hs1.size;simpa using this
 generalize hwa:w1.alloc (.cells #[.slice A1 m.length c1,.slice B1 (m.length+1) d1] 248)=wa at*
 clear hwa hS hM hs1 HEL hmk
 have HST0:=Lib.hid hst0
 have HXR0:=Lib.hid hxr0
 have HEA:=Lib.hid hea
 have hDl:(minorsTo m m.length).length=m.length+1:=minorsTo_length _ _
 obtain ⟨D,hD⟩:∃D,D=minorsTo m m.length:=⟨_,rfl⟩
 rw [<-hD] at hMa hDl
 have HD:=Lib.hid hD
 have HDL:=Lib.hid hDl
 have HD64:Hid (∀i z,D[i]? =some z->-9223372036854775808<=z/\z<=9223372036854775807):=Lib.hid (fun i z hz=>minors64 H64.out (by rw [<-hD];exact hz))
 have hwsz:w1.heap.size<wa.heap.size:=lt_of_heap hea
 clear hst0 hxr0 hea hD hDl
 go_loopw [8,25] (fun _ i wr=>∃(k:Nat) (B:Option Addr) (d:Nat),k<=m.length+1/\i= .int .i64 k/\wr.heap[w.heap.size+1]? =some (.cells #[.int .i64 bound,.slice B k d,.slice none 0 0,.slice (some ⟨w.heap.size,0,none⟩) m.length m.length] 246 (0,0))/\Own wr wa.heap.size 2 1 B k d ((D.take k).map (Value.int .i64))/\Oth 246 wa wr/\Ext w wr/\wa.heap.size<=wr.heap.size) (fun _ i _=>m.length+1-(intOf i).toNat)
 case atStart=>exact ⟨0,none,0,by omega,rfl,HST0.out,Own.nil _ _ _ _,Oth.refl _ _,hxa,Nat.le_refl _⟩
 case round=>
  obtain ⟨k,B,d,hk,rfl,hst,hown,hoth,hxr,hwr⟩:=hrel
  obtain ⟨s1,s2,s3,s4,s5,s6⟩:=box_cells4 hst
  have s7:=s5 1
  have s8:=s5 2
  clear s5
  have HST:=Lib.hid hst
  clear hst
  by_cases hlt:k<m.length+1
  ·obtain ⟨b,o,g,B',n',c',rfl,e1,e2,e3,e4⟩:=(hMa.oth hoth (by decide) (by decide)).at_ (i:=k) (by have :=HDL.out;omega)
   obtain ⟨z,hz⟩:∃z,D[k]? =some z:=⟨_,List.getElem?_eq_getElem (by have :=HDL.out;omega)⟩
   have hzz:D[k]'(by have :=HDL.out;omega)=z:=(List.getElem?_eq_some_iff.1 hz).2
   rw [hzz] at e3
   have hb64:=HD64.out k z hz
   have HZ:=Lib.hid hz
   clear hz hzz
   have oS:Old (w.heap.size+1) wr:=⟨s6⟩
   go_wp2
   go_region_law (first
    |((refine step_app _ rfl (.tmp 33) (.tmp 36) 35 rfl wa.heap.size 2 (.int .i64 0) 1 8 Tryz.underlying35 infoI64 rfl (by decide) (by decide) B k d _ (by simp [Act.eval]) (hown.ext inferInstance) (some ⟨w3.heap.size,0,none⟩) 1 1 [.int .i64 z] (by simp [Act.eval]) (Arr.new w3 2 #[.int .i64 z]) rfl (by simp [Value.oneCell']) (by omega) (by have :=hs3.size;simp at this |-;omega) ?_);intro A4 d4 w4 hown4 hg4;have hb4:=hg4.heap (heap_of_ext (inferInstance:Ext wr (w3.alloc (Obj.cells #[Value.int .i64 z] 2))) HST.out) (by decide);obtain ⟨q1,q2,q3,q4,q5,q6⟩:=box_cells4 hb4;have q7:=q5 1;have HB4:=Lib.hid hb4;clear hb4 q5)
    |(go_simp;go_at_call 188;refine (small_any e3 hb64.1 hb64.2).mono ?_;rintro e w3 ⟨rfl,hs3⟩))
   all_goals
    go_wp2
    refine ⟨⟨k+1,A4,d4,by omega,by go_num,box_set4_1 HB4.out,?_,?_,?_,?_⟩,by simp [intOf]<;>omega⟩
    ·rw [take_map_snoc D k z HZ.out]
     exact hown4.far (p:=⟨w.heap.size+1,1,none⟩) HB4.out (by decide) _
    ·exact ((hoth.trans (Oth.of_ext (inferInstance:Ext wr (w3.alloc (Obj.cells #[Value.int .i64 z] 2))))).grow hg4).trans (Oth.set (p:=⟨w.heap.size+1,1,none⟩) HB4.out _)
    ·exact (hg4.ext inferInstance hxa.size).setCell (p:=⟨w.heap.size+1,1,none⟩) (Nat.le_succ _) _
    ·rw [size_setCell]
     have h1:=hg4.below.size
     have h2:=hs3.size
     simp at h1 h2
     omega
  ·obtain ⟨kk,rfl⟩:∃kk,kk=k:=⟨_,rfl⟩
   have hDt:D.take kk=D:=List.take_of_length_le (by rw [HDL.out];omega)
   have HKK:Hid (kk=m.length+1):=Lib.hid (by omega)
   have hkk9:kk<=9:=by omega
   have hkd:decide ((kk:Int)<(m.length:Int)+1)=false:=by simp;omega
   clear hlt hk
   rw [hDt] at hown
   clear hDt
   have hea:=hoth _ _ _ _ (by decide) HEA.out
   obtain ⟨t1,t2,-,-,t5⟩:=box_cells2 hea
   clear hea
   obtain ⟨wb,rfl⟩:∃wb:World,wb=wr:=⟨_,rfl⟩
   go_wp2
   go_loopw [10,11,13,44] (fun _ _ _ i wr=>∃(k:Nat) (Lh:Option Addr) (lc:Nat) (vs:List Value),k<=m.length/\i= .int .i64 k/\wr.heap[w.heap.size+1]? =some (.cells #[.int .i64 bound,.slice B kk d,.slice Lh k lc,.slice (some ⟨w.heap.size,0,none⟩) m.length m.length] 246 (0,0))/\Own wr wa.heap.size 2 1 B kk d (D.map (Value.int .i64))/\Own wr wa.heap.size 35 1 Lh k lc vs/\Hid (∀i,i<k->∃B c,vs[i]? =some (.slice B (lamRow m i).length c)/\ArrX wa.heap.size wr B 2 ((lamRow m i).map (Value.int .i64))/\(lamRow m i).length<=c/\c<=9223372036854775807)/\Oth 246 wa wr/\Ext w wr/\wa.heap.size<=wr.heap.size) (fun _ _ _ i _=>m.length-(intOf i).toNat)
   case atStart=>exact ⟨0,none,0,[],by omega,rfl,HST.out,hown,Own.nil _ _ _ _,Lib.hid (fun i hi=>absurd hi (by omega)),hoth,hxr,hwr⟩
   case round=>
    clear hown hoth s1 s2 s3 s4 s6 s7 s8 HST t1 t2 t5 hwr hxr
    obtain ⟨k,Lh,lc,vs,hk,rfl,hst,hown,hownL,HV,hoth,hxr,hwr⟩:=hrel
    obtain ⟨s1,s2,s3,s4,s5,s6⟩:=box_cells4 hst
    have s8:=s5 2
    clear s5
    have HST:=Lib.hid hst
    clear hst
    by_cases hlt:k<m.length
    ·obtain ⟨b',o',b1,o1,c1',b2,o2,c2',rfl,l1,l2,l3,l4,L5,L6⟩:=StV.rowAt (hSa.oth hoth (by decide) (by decide) (by decide) (by decide)) HN.out hlt
     obtain ⟨wi,rfl⟩:∃wi:World,wi=wr:=⟨_,rfl⟩
     obtain ⟨p1,p2,p3,p4,p5⟩:=L5 wi inferInstance
     obtain ⟨r,hr⟩:∃r,m.length-k=r+1:=⟨m.length-k-1,by omega⟩
     rw [hr] at p1 p2 l1 l3
     have HR:=Lib.hid hr
     have HL6:=Lib.hid L6
     have hlr:Hid ((lamRow m k).length=r):=Lib.hid (by simp [lamRow];omega)
     have hlg:Hid (∀q,q<r->(lamRow m k)[q]? =some (ent (stAt m k).2 0 (q+1))):=Lib.hid (fun q hq=>by rw [lamRow,List.getElem?_map,List.getElem?_range (by omega)];rfl)
     obtain ⟨R,hRR⟩:∃R,R=lamRow m k:=⟨_,rfl⟩
     rw [<-hRR] at hlr hlg
     have HRR:=Lib.hid hRR
     have hr8:r<=8:=by omega
     clear L5 L6 hr hRR
     by_cases hc1:c2'=1
     all_goals
      go_wp2
      go_loopw [11,13,53] (fun s _ i wr=>∃(q:Nat) (B:Option Addr) (c:Nat),q<=r/\i= .int .i64 q/\s= .slice B q c/\Own wr wi.heap.size 2 1 B q c ((R.take q).map (Value.int .i64))/\Ext wi wr) (fun _ _ i _=>r-(intOf i).toNat)
      case atStart=>exact ⟨0,none,0,by omega,rfl,rfl,Own.nil _ _ _ _,inferInstance⟩
      case round=>
       obtain ⟨q,B0,c0,hq,rfl,rfl,hown0,hxq⟩:=hrel
       by_cases hlt':q<r
       ·try (exfalso;omega)
        all_goals
         obtain ⟨g,B',n',c',e3,E4⟩:=HL6.out (q+1) (by have :=HR.out;omega)
         obtain ⟨e1,e2⟩:=E4 wr hxq
         have hb64:=H64.out k hlt (q+1) (by have :=HR.out;omega)
         have hg1:=hlg.out q hlt'
         obtain ⟨z,hz⟩:∃z,z=ent (stAt m k).2 0 (q+1):=⟨_,rfl⟩
         rw [<-hz] at hb64 hg1 e3
         rw [show o2+(q+1)*2=o2+2+q*2 by omega] at e1 e2
         have HZ:=Lib.hid hg1
         have p6:b2<wr.heap.size:=Nat.lt_of_lt_of_le p5 hxq.size
         clear hz hg1 E4
         go_wp2_with (first
          |(at_builtin;refine wpList_app _ rfl _ _ 35 rfl wi.heap.size 2 (.int .i64 0) 1 8 Tryz.underlying35 infoI64 rfl (by omega) (by omega) B0 q c0 _ rfl (hown0.ext inferInstance) _ 1 1 [.int .i64 z] rfl (Arr.new w3 2 #[.int .i64 z]) (by simp) (by simp [Value.oneCell']) (by omega) (by have :=hxq.size;have :=hs3.size;simp at this |-;omega) ?_;intro A4 d4 w4 hown4 hg4)
          |(go_at_call 188;refine (small_any e3 hb64.1 hb64.2).mono ?_;rintro e w3 ⟨rfl,hs3⟩))
         refine ⟨⟨q+1,A4,d4,by omega,by go_num,rfl,?_,?_⟩,by simp [intOf]<;>omega⟩
         ·rw [take_map_snoc R q z HZ.out];exact hown4
         ·exact hg4.ext inferInstance (Nat.le_refl _)
       ·obtain rfl:q=r:=by omega
        clear hlt'
        have hRt:R.take q=R:=List.take_of_length_le (by rw [hlr.out];omega)
        rw [hRt] at hown0
        clear hRt
        obtain ⟨u1,u2,u3,u4,u5,u6⟩:=box_cells4 (heap_of_ext hxq HST.out)
        have u7:=u5 2
        have oS:Old (w.heap.size+1) wr:=⟨u6⟩
        clear u5
        go_wp2_with (at_builtin;refine wpList_app _ rfl _ _ 25 rfl wa.heap.size 35 (.slice none 0 0) 1 24 Tryz.underlying25 infoSlI64 rfl (by omega) (by omega) Lh k lc vs rfl (hownL.ext inferInstance) _ 1 1 [.slice B0 q c0] rfl (Arr.new wr 35 #[.slice B0 q c0]) (by simp) (by simp [Value.oneCell']) (by omega) (by have :=hxq.size;simp at this |-;omega) ?_;intro A4 d4 w4 hown4 hg4;have hb4:=hg4.heap (heap_of_ext (inferInstance:Ext wi (wr.alloc (Obj.cells #[Value.slice B0 q c0] 35))) HST.out) (by decide);obtain ⟨q1,q2,q3,q4,q5,q6⟩:=box_cells4 hb4;have q7:=q5 2;have HB4:=Lib.hid hb4;clear hb4 q5)
        have hoT:=Oth.set (p:=⟨w.heap.size+1,2,none⟩) HB4.out (.slice A4 (k+1) d4)
        refine ⟨⟨k+1,A4,d4,vs++[.slice B0 q c0],by omega,by go_num,box_set4_2 HB4.out,?_,?_,Lib.hid (fun i hi=>?_),?_,?_,?_⟩,by simp [intOf]<;>omega⟩
        ·exact ((hown.ext (Ext.trans hxq inferInstance)).grow hg4 (by decide)).oth hoT (by decide)
        ·exact hown4.oth hoT (by decide)
        ·have hkl:vs.length=k:=by have :=hownL.len;omega
         rcases Nat.lt_or_ge i k with hi' |hi'
         ·obtain ⟨B5,c5,y1,y2,y3⟩:=HV.out i hi'
          exact ⟨B5,c5,by rw [List.getElem?_append_left (by omega)];exact y1,((y2.ext (Ext.trans hxq inferInstance)).oth (Oth.of_grow hg4) (by decide)).oth hoT (by decide),y3⟩
         ·obtain rfl:i=k:=by omega
          rw [<-HRR.out,hlr.out]
          have hcap:=hown0.cap
          exact ⟨B0,c0,by rw [List.getElem?_append_right (by omega),hkl];simp,(((hown0.arrX.lower hwr).ext inferInstance).oth (Oth.of_grow hg4) (by decide)).oth hoT (by decide),hcap.1,hcap.2⟩
        ·exact ((hoth.trans (Oth.of_ext (Ext.trans hxq inferInstance))).grow hg4).trans hoT
        ·exact (hg4.ext (Ext.trans hxr (Ext.trans hxq inferInstance)) hxa.size).setCell (p:=⟨w.heap.size+1,2,none⟩) (Nat.le_succ _) _
        ·rw [size_setCell]
         have h1:=hg4.below.size
         have h2:=hxq.size
         simp at h1
         omega
    ·obtain rfl:k=m.length:=by omega
     clear hlt
     go_wp2
     go_ret
     have hLl:(lamTo m m.length).length=m.length:=by simp [lamTo]
     have hcap:=hown.cap
     have hcapL:=hownL.cap
     have hDk:D.length=kk:=by rw [HDL.out,HKK.out]
     rw [<-HD.out]
     refine ⟨rfl,⟨B,Lh,d,lc,{st:=?_,xs:=?_,mi:=?_,la:=?_,mc0:=?_,mc1:=hcap.2,lc0:=?_,lc1:=hcapL.2}⟩,hxr.toStep⟩
     ·rw [hDk,hLl];exact HST.out
     ·exact hoth _ _ _ _ (by decide) HXR0.out
     ·exact hown.arrX.lower (lo':=w.heap.size+2) (by omega)
     ·refine ⟨vs,by rw [hLl];have :=hownL.len;omega,hownL.arrX.lower (by omega),fun i r hr=>?_⟩
      have hi:i<m.length:=by
       rcases Nat.lt_or_ge i m.length with hi |hi
       ·exact hi
       ·rw [List.getElem?_eq_none (by omega)] at hr;cases hr
      have hr':r=lamRow m i:=by
       rw [lamTo,List.getElem?_map,List.getElem?_range hi] at hr
       simpa using hr.symm
      subst hr'
      obtain ⟨B5,c5,y1,y2,y3,y4⟩:=HV.out i hi
      exact ⟨B5,c5,y1,y2.lower (by omega),y3,y4⟩
     ·rw [hDk];exact hcap.1
     ·rw [hLl];exact hcapL.1
def absSum:List Int->Int
 |[]=>0
 |x::l=>(x.natAbs:Int)+absSum l
theorem absSum_nonneg:∀l,0<=absSum l
 |[]=>Int.le_refl _
 |x::l=>by have :=absSum_nonneg l;simp only [absSum];omega
theorem le_absSum:∀(l:List Int) (i:Nat) (x:Int),l[i]? =some x->-absSum l<=x/\x<=absSum l
 |[],_,_,h=>by simp at h
 |y::l,0,x,h=>by simp at h;subst h;have :=absSum_nonneg l;simp only [absSum];omega
 |y::l,i+1,x,h=>by have :=le_absSum l i x (by simpa using h);simp only [absSum];omega
theorem dotL_half (d:Int) (hd:0<=d):∀(l m:List Int),(∀x∈l,-d<=2*x/\2*x<=d)->-(d*absSum m)<=2*dotL l m/\2*dotL l m<=d*absSum m
 |[],m,_=>by
  have :=Int.mul_nonneg hd (absSum_nonneg m)
  simp only [dotL_nil];omega
 |x::l,[],_=>by simp [dotL,absSum]
 |x::l,y::m,h=>by
  have ih:=dotL_half d hd l m (fun z hz=>h z (by simp [hz]))
  have hx:=h x (by simp)
  have hb:=mul_abs_le (a:=2*x) (b:=y) (A:=d) (B:=(y.natAbs:Int)) hx.1 hx.2 (by omega) (by omega)
  simp only [dotL,absSum]
  have e1:2*(x*y+dotL l m)=2*x*y+2*dotL l m:=by rw [Int.mul_add,Int.mul_assoc]
  have e2:d*((y.natAbs:Int)+absSum m)=d*(y.natAbs:Int)+d*absSum m:=Int.mul_add _ _ _
  rw [e1,e2];omega
/-! ## One step of the walk over the tails -/
def vSh (L:List (List Int)) (k:Nat) (tail:List Int):Int:=dotL (L.getD k []) tail
def vD (D:List Int) (k:Nat):Int:=D.getD k 0
def vSq (D:List Int) (k:Nat) (rest:Int):Int:=vD D k*rest
def vR (D:List Int) (k:Nat) (rest:Int):Int:=(isq (vSq D k rest).toNat:Nat)
def vLo (D:List Int) (L:List (List Int)) (k:Nat) (rest:Int) (tail:List Int):Int:=-((vR D k rest+vSh L k tail) / vD D (k+1))
def vHi (D:List Int) (L:List (List Int)) (k:Nat) (rest:Int) (tail:List Int):Int:=(vR D k rest-vSh L k tail) / vD D (k+1)
def vU (D:List Int) (L:List (List Int)) (k:Nat) (tail:List Int) (x:Int):Int:=vD D (k+1)*x+vSh L k tail
def vRest (D:List Int) (L:List (List Int)) (k:Nat) (rest:Int) (tail:List Int) (x:Int):Int:=(vSq D k rest-vU D L k tail x*vU D L k tail x) / vD D (k+1)
def vCnt (D:List Int) (L:List (List Int)) (k:Nat) (rest:Int) (tail:List Int):Int:=vHi D L k rest tail-vLo D L k rest tail+1
def visitY (D:List Int) (L:List (List Int)) (n:Nat):Nat->Int->List Int->List (Int×Int)
 |0,rest,tail=>[((n:Int),vCnt D L 0 rest tail)]
 |k+1,rest,tail=>((n:Int)-(k+1:Nat),vCnt D L (k+1) rest tail)::
   (List.range (vCnt D L (k+1) rest tail).toNat).flatMap fun (j:Nat)=>visitY D L n k (vRest D L (k+1) rest tail (vLo D L (k+1) rest tail+(j:Int))) ((vLo D L (k+1) rest tail+(j:Int))::tail)
structure NumOK (D:List Int) (L:List (List Int)) (n:Nat) (bound:Int):Prop where
 n8:n<=8
 dl:D.length=n+1
 ll:L.length=n
 row:∀k,k<n->(L.getD k []).length=n-1-k
 d1:∀k,k<=n->1<=vD D k
 d2:∀k,k<=n->vD D k<65536
 lam:∀k,k<n->∀x∈L.getD k [],-(vD D (k+1))<=2*x/\2*x<=vD D (k+1)
 b0:0<=bound
 b1:bound<1073741824
structure LevOK (D:List Int) (n:Nat) (bound:Int) (k:Nat) (rest:Int) (tail:List Int):Prop where
 kn:k<n
 r0:0<=rest
 r1:rest<=vD D (k+1)*bound
 tl:tail.length=n-1-k
 ts:absSum tail+4294967296<=4294967296*2^tail.length
section
variable {D:List Int} {L:List (List Int)} {n:Nat} {bound:Int} {k:Nat} {rest:Int} {tail:List Int}
theorem vSq_bounds (hN:NumOK D L n bound) (h:LevOK D n bound k rest tail):0<=vSq D k rest/\vSq D k rest<4611686018427387904:=by
 have h1:=hN.d1 k (by have :=h.kn;omega)
 have h2:=hN.d2 k (by have :=h.kn;omega)
 have h3:=hN.d1 (k+1) (by have :=h.kn;omega)
 have h4:=hN.d2 (k+1) (by have :=h.kn;omega)
 have b0:=hN.b0
 have b1:=hN.b1
 have r0:=h.r0
 have r1:=h.r1
 have e1:vD D (k+1)*bound<=65535*1073741823:=by
  have :=mul_abs_le (a:=vD D (k+1)) (b:=bound) (A:=65535) (B:=1073741823) (by omega) (by omega) (by omega) (by omega)
  exact this.2
 have e2:vD D k*rest<=65535*(65535*1073741823):=by
  have :=mul_abs_le (a:=vD D k) (b:=rest) (A:=65535) (B:=65535*1073741823) (by omega) (by omega) (by omega) (by omega)
  exact this.2
 refine ⟨Int.mul_nonneg (by omega) r0,?_⟩
 unfold vSq
 omega
theorem vR_bounds (hN:NumOK D L n bound) (h:LevOK D n bound k rest tail):0<=vR D k rest/\vR D k rest<2147483648/\vR D k rest*vR D k rest<=vSq D k rest:=by
 obtain ⟨h0,h1⟩:=vSq_bounds hN h
 obtain ⟨s1,s2⟩:=isq_spec (vSq D k rest).toNat
 unfold vR
 obtain ⟨q,hq⟩:∃q,q=isq (vSq D k rest).toNat:=⟨_,rfl⟩
 rw [<-hq] at s1 |-
 refine ⟨by omega,?_,?_⟩
 ·rcases Nat.lt_or_ge q 2147483648 with h |h
  ·omega
  ·have :=Nat.mul_le_mul h h
   omega
 ·have :((q*q:Nat):Int)<=vSq D k rest:=by omega
  simpa using this
theorem pow_len_le {m:Nat} (h:m<=7):(2:Int)^m<=128:=by
 have h1:(2:Nat)^m<=2^7:=Nat.pow_le_pow_right (by omega) h
 have h2:((2^m:Nat):Int)=(2:Int)^m:=by simp
 omega
theorem absSum_bound (hN:NumOK D L n bound) (h:LevOK D n bound k rest tail):0<=absSum tail/\absSum tail<=549755813888:=by
 have h1:=absSum_nonneg tail
 have h2:=h.ts
 have h3:=pow_len_le (m:=tail.length) (by have :=h.tl;have :=hN.n8;omega)
 omega
theorem vSh_bounds (hN:NumOK D L n bound) (h:LevOK D n bound k rest tail):-(vD D (k+1)*absSum tail)<=2*vSh L k tail/\2*vSh L k tail<=vD D (k+1)*absSum tail:=
 dotL_half _ (by have :=hN.d1 (k+1) (by have :=h.kn;omega);omega) _ _ (hN.lam k h.kn)
theorem mulS_bound (hN:NumOK D L n bound) (h:LevOK D n bound k rest tail):0<=vD D (k+1)*absSum tail/\vD D (k+1)*absSum tail<=36028247263150080:=by
 have h1:=hN.d1 (k+1) (by have :=h.kn;omega)
 have h2:=hN.d2 (k+1) (by have :=h.kn;omega)
 have h3:=absSum_bound hN h
 have :=mul_abs_le (a:=vD D (k+1)) (b:=absSum tail) (A:=65535) (B:=549755813888) (by omega) (by omega) (by omega) (by omega)
 exact ⟨Int.mul_nonneg (by omega) h3.1,by omega⟩
theorem quot_bounds {r t d S q:Int} (hr:0<=r) (hd:1<=d) (h1:-(d*S)<=2*t) (h2:2*t<=d*S) (hq:q=(r+t) / d):-S-1<=2*q/\2*q<=2*r+S:=by
 have e1:=Int.mul_ediv_add_emod (r+t) d
 have e2:=Int.emod_nonneg (r+t) (show d≠0 by omega)
 have e3:=Int.emod_lt_of_pos (r+t) (show 0<d by omega)
 rw [<-hq] at e1
 constructor
 ·rcases Int.lt_or_le (2*q) (-S-1) with h |h
  ·exfalso
   have h5:d*(2*q+2)<=d*(-S):=Int.mul_le_mul_of_nonneg_left (by omega) (by omega)
   rw [Int.mul_neg,Int.mul_add,Int.mul_left_comm] at h5
   omega
  ·exact h
 ·rcases Int.lt_or_le (2*r+S) (2*q) with h |h
  ·exfalso
   have h5:d*(2*r+S+1)<=d*(2*q):=Int.mul_le_mul_of_nonneg_left (by omega) (by omega)
   have h6:1*(2*r)<=d*(2*r):=Int.mul_le_mul_of_nonneg_right hd (by omega)
   rw [Int.mul_add,Int.mul_add,Int.mul_left_comm d 2 q] at h5
   omega
  ·exact h
theorem vEnds (hN:NumOK D L n bound) (h:LevOK D n bound k rest tail):
  -(2*vR D k rest+absSum tail)<=2*vLo D L k rest tail/\2*vLo D L k rest tail<=absSum tail+1/\-absSum tail-1<=2*vHi D L k rest tail/\2*vHi D L k rest tail<=2*vR D k rest+absSum tail:=by
 obtain ⟨r0,r1,-⟩:=vR_bounds hN h
 obtain ⟨s1,s2⟩:=vSh_bounds hN h
 have hd:=hN.d1 (k+1) (by have :=h.kn;omega)
 have hS:=absSum_nonneg tail
 have a:=quot_bounds r0 hd s1 s2 rfl
 have b:=quot_bounds (t:=-(vSh L k tail)) (S:=absSum tail) r0 hd (by omega) (by omega) rfl
 unfold vLo vHi
 rw [show vR D k rest-vSh L k tail=vR D k rest+-(vSh L k tail) by omega]
 omega
theorem vCnt_bounds (hN:NumOK D L n bound) (h:LevOK D n bound k rest tail):0<=vCnt D L k rest tail/\vCnt D L k rest tail<=1099511627776:=by
 obtain ⟨r0,r1,-⟩:=vR_bounds hN h
 obtain ⟨e1,e2,e3,e4⟩:=vEnds hN h
 have hS:=absSum_bound hN h
 refine ⟨?_,by unfold vCnt;omega⟩
 have hd:=hN.d1 (k+1) (by have :=h.kn;omega)
 unfold vCnt vLo vHi
 clear e1 e2 e3 e4
 generalize vD D (k+1)=d at hd |-
 generalize vSh L k tail=t
 generalize vR D k rest=r at r0 r1 |-
 have a1:=Int.mul_ediv_add_emod (r+t) d
 have a2:=Int.emod_lt_of_pos (r+t) (show 0<d by omega)
 have b1:=Int.mul_ediv_add_emod (r-t) d
 have b2:=Int.emod_lt_of_pos (r-t) (show 0<d by omega)
 obtain ⟨p,hp⟩:∃p,p=(r+t) / d:=⟨_,rfl⟩
 obtain ⟨q,hq⟩:∃q,q=(r-t) / d:=⟨_,rfl⟩
 rw [<-hp] at a1 |-
 rw [<-hq] at b1 |-
 rcases Int.lt_or_le (p+q) (-1) with h |h
 ·exfalso
  have h5:d*(p+q)<=d*(-2):=Int.mul_le_mul_of_nonneg_left (by omega) (by omega)
  rw [Int.mul_add] at h5
  omega
 ·omega
theorem vU_bounds (hN:NumOK D L n bound) (h:LevOK D n bound k rest tail) {x:Int} (h1:vLo D L k rest tail<=x) (h2:x<=vHi D L k rest tail):-(vR D k rest)<=vU D L k tail x/\vU D L k tail x<=vR D k rest:=by
 have hd:=hN.d1 (k+1) (by have :=h.kn;omega)
 unfold vLo at h1
 unfold vHi at h2
 unfold vU
 generalize vD D (k+1)=d at hd h1 h2 |-
 generalize vSh L k tail=t at h1 h2 |-
 generalize vR D k rest=r at h1 h2 |-
 have a1:=Int.mul_ediv_add_emod (r+t) d
 have a2:=Int.emod_nonneg (r+t) (show d≠0 by omega)
 have b1:=Int.mul_ediv_add_emod (r-t) d
 have b2:=Int.emod_nonneg (r-t) (show d≠0 by omega)
 have c1:d*(-x)<=d*((r+t) / d):=Int.mul_le_mul_of_nonneg_left (by omega) (by omega)
 have c2:d*x<=d*((r-t) / d):=Int.mul_le_mul_of_nonneg_left (by omega) (by omega)
 rw [Int.mul_neg] at c1
 omega
theorem vRest_bounds (hN:NumOK D L n bound) (h:LevOK D n bound k rest tail) {x:Int} (h1:vLo D L k rest tail<=x) (h2:x<=vHi D L k rest tail):0<=vSq D k rest-vU D L k tail x*vU D L k tail x/\0<=vU D L k tail x*vU D L k tail x/\0<=vRest D L k rest tail x/\vRest D L k rest tail x<=vD D k*bound:=by
 obtain ⟨u1,u2⟩:=vU_bounds hN h h1 h2
 obtain ⟨r0,r1,r2⟩:=vR_bounds hN h
 have hd:=hN.d1 (k+1) (by have :=h.kn;omega)
 have hdk:=hN.d1 k (by have :=h.kn;omega)
 obtain ⟨u,hu⟩:∃u,u=vU D L k tail x:=⟨_,rfl⟩
 have hu2:=mul_abs_le (a:=u) (b:=u) (A:=vR D k rest) (B:=vR D k rest) (by omega) (by omega) (by omega) (by omega)
 have hu3:0<=u*u:=by
  rcases Int.le_total 0 u with h |h
  ·exact Int.mul_nonneg h h
  ·exact Int.mul_nonneg_of_nonpos_of_nonpos h h
 have hb:=h.r1
 unfold vRest
 rw [<-hu]
 have hq:=vSq_bounds hN h
 have hp1:0<=vSq D k rest-u*u:=by omega
 refine ⟨hp1,hu3,Int.ediv_nonneg hp1 (by omega),?_⟩
 have e1:vSq D k rest-u*u<=vD D (k+1)*(vD D k*bound):=by
  have :vD D k*rest<=vD D k*(vD D (k+1)*bound):=Int.mul_le_mul_of_nonneg_left hb (by omega)
  rw [Int.mul_left_comm] at this
  unfold vSq;omega
 exact Int.ediv_le_of_le_mul (by omega) (by rw [Int.mul_comm (vD D k*bound)];exact e1)
theorem LevOK.next (hN:NumOK D L n bound) (h:LevOK D n bound (k+1) rest tail) {x:Int} (h1:vLo D L (k+1) rest tail<=x) (h2:x<=vHi D L (k+1) rest tail):LevOK D n bound k (vRest D L (k+1) rest tail x) (x::tail):=by
 obtain ⟨-,-,a,b⟩:=vRest_bounds hN h h1 h2
 obtain ⟨r0,r1,-⟩:=vR_bounds hN h
 obtain ⟨e1,e2,e3,e4⟩:=vEnds hN h
 have hS:=absSum_bound hN h
 have ht:=h.ts
 refine ⟨by have :=h.kn;omega,a,b,by simp [h.tl];have :=h.kn;omega,?_⟩
 simp only [absSum,List.length_cons,Int.pow_succ]
 omega
end
end Go.Proofs.YtpcgfpmiphiacaaGreat
namespace Go.Proofs.YtpcgfpmiphiacaaGreat
open Go.RowKit Go.Shelf
attribute [local go_sem] Oper.semAt_some
structure KeepW (lo hi:Nat) (w w':World):Prop where
 block:∀b,lo<=b->b<hi->w'.heap[b]? =w.heap[b]?
 size:w.heap.size<=w'.heap.size
theorem KeepW.refl (lo hi:Nat) (w:World):KeepW lo hi w w:=⟨fun _ _ _=>rfl,Nat.le_refl _⟩
theorem KeepW.trans {lo hi:Nat} {a b c:World} (h:KeepW lo hi a b) (h':KeepW lo hi b c):KeepW lo hi a c:=⟨fun i h1 h2=>(h'.block i h1 h2).trans (h.block i h1 h2),Nat.le_trans h.size h'.size⟩
theorem KeepW.mono {lo lo' hi:Nat} {a b:World} (h:KeepW lo hi a b) (hl:lo<=lo'):KeepW lo' hi a b:=⟨fun i h1 h2=>h.block i (by omega) h2,h.size⟩
theorem KeepW.set {lo hi:Nat} {a b:World} (h:KeepW lo hi a b) {p:Addr} (hp:p.block<lo) (u:Value):KeepW lo hi a (b.setCell p u):=
 ⟨fun i h1 h2=>(Below.heap_setCell b p u i (by omega)).trans (h.block i h1 h2),by rw [size_setCell];exact h.size⟩
theorem KeepW.cell {lo hi:Nat} {a b:World} (h:KeepW lo hi a b) {p o:Nat} (h1:lo<=p) (h2:p<hi):b.cell? ⟨p,o,none⟩=a.cell? ⟨p,o,none⟩:=World.cell?_of_block (h.block p h1 h2)
def XRow (w:World) (sz n k:Nat) (tail:List Int):Prop:=∃xs,Row w sz 2 .i64 xs/\xs.length=n/\xs.drop (k+1)=tail
def VisitPost (w wN:World) (n k:Nat) (tail:List Int) (ys:List (Int×Int)) (J Jx:List (Int×Int)->World->Prop) (pre:List (Int×Int)) (e:Ending) (W':World):Prop:=
 (e= .returned (.bool true)/\J (pre++ys) W'/\XRow W' w.heap.size n k tail/\KeepW (w.heap.size+1) wN.heap.size wN W')∨(e= .returned (.bool false)/\∃q,q<+:ys/\Jx (pre++q) W')
def ValidY (n:Nat) (x:Int×Int):Prop:=1<=x.1/\x.1<=n/\0<=x.2/\x.2<=1099511627776
theorem WalkV.read {w wN W:World} {bound:Int} {D:List Int} {L:List (List Int)} {n:Nat} {mA lA:Option Addr} {mc lc:Nat} (h:WalkV w wN bound D L n mA lA mc lc) (hk:KeepW (w.heap.size+1) wN.heap.size wN W):
  W.cell? ⟨w.heap.size+1,0,none⟩=some (.int .i64 bound)/\W.cell? ⟨w.heap.size+1,1,none⟩=some (.slice mA D.length mc)/\W.cell? ⟨w.heap.size+1,2,none⟩=some (.slice lA L.length lc)/\W.cell? ⟨w.heap.size+1,3,none⟩=some (.slice (some ⟨w.heap.size,0,none⟩) n n)/\w.heap.size+1<W.heap.size:=by
 have h1:=(hk.block (w.heap.size+1) (Nat.le_refl _) (lt_of_heap h.st)).trans h.st
 obtain ⟨a,b,c,d,-,e⟩:=box_cells4 h1
 exact ⟨a,b,c,d,e⟩
theorem WalkV.minor {w wN:World} {bound:Int} {D:List Int} {L:List (List Int)} {n:Nat} {mA lA:Option Addr} {mc lc:Nat} (h:WalkV w wN bound D L n mA lA mc lc) {k:Nat} (hk:k<D.length):
  ∃b o,mA=some ⟨b,o,none⟩/\∀W,KeepW (w.heap.size+1) wN.heap.size wN W->W.cell? ⟨b,o+k,none⟩=some (.int .i64 (vD D k))/\b<W.heap.size:=by
 have hd:D[k]? =some (vD D k):=by simp [vD,hk]
 obtain ⟨b,o,h1,h2,h3,h4⟩:=h.mi.at_ (i:=k) (u:= .int .i64 (vD D k)) (by rw [List.getElem?_map,hd];rfl)
 exact ⟨b,o,h1,fun W hW=>⟨(hW.cell (by omega) h4).trans h2,Nat.lt_of_lt_of_le h4 hW.size⟩⟩
theorem WalkV.lam {w wN:World} {bound:Int} {D:List Int} {L:List (List Int)} {n:Nat} {mA lA:Option Addr} {mc lc:Nat} (h:WalkV w wN bound D L n mA lA mc lc) {k:Nat} (hk:k<L.length):
  ∃b o B c,lA=some ⟨b,o,none⟩/\(L.getD k []).length<=c/\c<=9223372036854775807/\(∀W,KeepW (w.heap.size+1) wN.heap.size wN W->W.cell? ⟨b,o+k,none⟩=some (.slice B (L.getD k []).length c)/\b<W.heap.size)/\
   ∀i x,(L.getD k [])[i]? =some x->∃b1 o1,B=some ⟨b1,o1,none⟩/\∀W,KeepW (w.heap.size+1) wN.heap.size wN W->W.cell? ⟨b1,o1+i,none⟩=some (.int .i64 x)/\b1<W.heap.size:=by
 obtain ⟨vs,h1,h2,h3⟩:=h.la
 have hr:L[k]? =some (L.getD k []):=by simp [hk]
 obtain ⟨B,c,e1,e2,e3,e4⟩:=h3 k _ hr
 obtain ⟨b,o,f1,f2,f3,f4⟩:=h2.at_ e1
 refine ⟨b,o,B,c,f1,e3,e4,fun W hW=>⟨(hW.cell (by omega) f4).trans f2,Nat.lt_of_lt_of_le f4 hW.size⟩,fun i x hx=>?_⟩
 obtain ⟨b1,o1,g1,g2,g3,g4⟩:=e2.at_ (i:=i) (u:= .int .i64 x) (by rw [List.getElem?_map,hx];rfl)
 exact ⟨b1,o1,g1,fun W hW=>⟨(hW.cell (by omega) g4).trans g2,Nat.lt_of_lt_of_le g4 hW.size⟩⟩
def kidsTo (D:List Int) (L:List (List Int)) (n k:Nat) (rest:Int) (tail:List Int) (j:Nat):List (Int×Int):=
 (List.range j).flatMap fun (i:Nat)=>visitY D L n (k-1) (vRest D L k rest tail (vLo D L k rest tail+(i:Int))) ((vLo D L k rest tail+(i:Int))::tail)
theorem kidsTo_succ (D:List Int) (L:List (List Int)) (n k:Nat) (rest:Int) (tail:List Int) (j:Nat):
  kidsTo D L n k rest tail (j+1)=kidsTo D L n k rest tail j++visitY D L n (k-1) (vRest D L k rest tail (vLo D L k rest tail+(j:Int))) ((vLo D L k rest tail+(j:Int))::tail):=by
 simp [kidsTo,List.range_succ]
theorem visitY_zero (D:List Int) (L:List (List Int)) (n k:Nat) (rest:Int) (tail:List Int) (h:k=0):visitY D L n k rest tail=[((n:Int)-k,vCnt D L k rest tail)]:=by
 subst h;simp [visitY]
theorem visitY_pos (D:List Int) (L:List (List Int)) (n k:Nat) (rest:Int) (tail:List Int) (h:k≠0):visitY D L n k rest tail=((n:Int)-k,vCnt D L k rest tail)::kidsTo D L n k rest tail (vCnt D L k rest tail).toNat:=by
 obtain ⟨k,rfl⟩:∃k',k=k'+1:=⟨k-1,by omega⟩
 simp [visitY,kidsTo]
theorem kidsTo_prefix (D:List Int) (L:List (List Int)) (n k:Nat) (rest:Int) (tail:List Int) {i j:Nat} (h:i<=j):kidsTo D L n k rest tail i<+:kidsTo D L n k rest tail j:=by
 obtain ⟨m,rfl⟩:∃m,j=i+m:=⟨j-i,by omega⟩
 induction m with
 |zero=>exact List.prefix_rfl
 |succ m ih=>rw [<-Nat.add_assoc,kidsTo_succ];exact (ih (by omega)).trans (List.prefix_append _ _)
theorem XRow.keep {w w':World} {sz n k:Nat} {tail:List Int} (h:XRow w sz n k tail) (hb:w'.heap[sz]? =w.heap[sz]?):XRow w' sz n k tail:=by
 obtain ⟨xs,h1,h2,h3⟩:=h
 exact ⟨xs,hb.trans h1,h2,h3⟩
theorem XRow.put {w:World} {sz n k:Nat} {tail:List Int} (h:XRow w sz n (k+1) tail) (hk:k+1<n) (x:Int):XRow (w.setCell ⟨sz,k+1,none⟩ (.int .i64 x)) sz n k (x::tail):=by
 obtain ⟨xs,h1,h2,h3⟩:=h
 refine ⟨_,h1.set (k+1) x,by simp [h2],?_⟩
 have e:(xs.set (k+1) x).drop (k+1)=x::xs.drop (k+1+1):=by
  rw [List.drop_eq_getElem_cons (by simp;omega)]
  simp [List.drop_set]
 rw [e,h3]
theorem XRow.up {w:World} {sz n k:Nat} {x:Int} {tail:List Int} (h:XRow w sz n k (x::tail)):XRow w sz n (k+1) tail:=by
 obtain ⟨xs,h1,h2,h3⟩:=h
 refine ⟨xs,h1,h2,?_⟩
 rw [<-List.drop_drop,h3];rfl
set_option maxRecDepth 100000 in
theorem visit_in {w wN:World} {bound:Int} {D:List Int} {L:List (List Int)} {n:Nat} {mA lA:Option Addr} {mc lc:Nat} (hV:WalkV w wN bound D L n mA lA mc lc) (hN:NumOK D L n bound) (l:Nat) (J Jx:List (Int×Int)->World->Prop)
  (hJs:∀pre W i v,J pre W->J pre (W.setCell ⟨w.heap.size,i,none⟩ (.int .i64 v)))
  (hY:∀m pre x W,J pre W->ValidY n x->YieldAt Fence.wide m Tryz.prog l #[.int .i64 x.1,.int .i64 x.2] W fun e W'=>
   (e= .returned (.bool true)/\J (pre++[x]) W'/\KeepW w.heap.size wN.heap.size W W')∨(e= .returned (.bool false)/\Jx (pre++[x]) W')) (k:Nat):
  ∀(rest:Int) (tail:List Int) (m:Nat) (pre:List (Int×Int)) (W:World),LevOK D n bound k rest tail->XRow W w.heap.size n k tail->KeepW (w.heap.size+1) wN.heap.size wN W->J pre W->
   CallsIn Fence.wide m Tryz.prog 190 #[.pointer (some ⟨w.heap.size+1,0,none⟩),.int .i64 k,.int .i64 rest,.func (.yield l) #[] #[]] W (VisitPost w wN n k tail (visitY D L n k rest tail) J Jx pre):=by
 induction k using Nat.strongRecOn with
 |ind k ih=>
  intro rest tail m pre W hL hX hK hJ
  obtain ⟨s0,s1,s2,s3,s4⟩:=hV.read hK
  have hdl:=hN.dl
  have hll:=hN.ll
  have hkn:=hL.kn
  have hn8:=hN.n8
  rw [hdl] at s1
  rw [hll] at s2
  have hX0:=Lib.hid hX
  obtain ⟨xs,hrow,hxl,hxd⟩:=hX
  obtain ⟨bm,om,rfl,M1⟩:=hV.minor (k:=k+1) (by omega)
  obtain ⟨bm',om',hm',M0⟩:=hV.minor (k:=k) (by omega)
  injection hm' with hm'
  injection hm' with x1 x2
  subst x1 x2
  obtain ⟨m1,m2⟩:=M1 W hK
  obtain ⟨m3,m4⟩:=M0 W hK
  obtain ⟨bl,ol,B,c,rfl,l1,l2,L3,L4⟩:=hV.lam (k:=k) (by omega)
  obtain ⟨l3,l4⟩:=L3 W hK
  have hrl:=hN.row k hkn
  obtain ⟨lam,hlam⟩:∃lam,lam=L.getD k []:=⟨_,rfl⟩
  rw [hrl] at l1 l3
  rw [<-hlam] at hrl L4
  have HL4:=Lib.hid L4
  have HLAM:=Lib.hid hlam
  have HRL:=Lib.hid hrl
  clear L3 L4 hlam hrl M0 M1 hdl hll
  have hsq:=vSq_bounds hN hL
  have hR:=vR_bounds hN hL
  have hd1:=hN.d1 (k+1) (by omega)
  have hd2:=hN.d2 (k+1) (by omega)
  have hmc0:=hV.mc0
  have hmc1:=hV.mc1
  have hlc0:=hV.lc0
  have hlc1:=hV.lc1
  rw [hN.dl] at hmc0
  rw [hN.ll] at hlc0
  obtain ⟨sqn,hsqn⟩:∃sqn,sqn=(vSq D k rest).toNat:=⟨_,rfl⟩
  have hsqe:vD D k*rest=(sqn:Int):=by have :=hsq.1;rw [hsqn];unfold vSq at this |-;omega
  have hsq1:sqn<4611686018427387904:=by have :=hsq.2;omega
  have HSQ:Hid (vSq D k rest=(sqn:Int)):=Lib.hid hsqe
  have HRT:Hid (vR D k rest=(isq sqn:Nat)):=Lib.hid (by rw [hsqn];rfl)
  have hisq:isq sqn<2147483648:=by have :=hR.2.1;rw [HRT.out] at this;omega
  have hdd:∀k:Nat,(Fence.wide.depth.isSome=true->1<=k):=fun k h=>by cases h
  obtain ⟨r,hr⟩:∃r,r=n-1-k:=⟨_,rfl⟩
  rw [<-hr] at l1 l3 HRL
  have HRR:=Lib.hid hr
  have hr1:r+k+1<=n:=by omega
  have hr2:n<=r+k+1:=by omega
  obtain ⟨d,hd⟩:∃d,d=vD D (k+1):=⟨_,rfl⟩
  rw [<-hd] at m1 hd1 hd2
  have HD:=Lib.hid hd
  obtain ⟨dk,hdk⟩:∃dk,dk=vD D k:=⟨_,rfl⟩
  rw [<-hdk] at m3 hsqe
  have HXD:=Lib.hid hxd
  have HROW:=Lib.hid hrow
  clear hr hd hdk hsqn hsq hR hxd
  refine callsIn_of_wp Tryz.func190 rfl trivial ?_ rfl
  simp only [Tryz.ntmps190,List.size_toArray,List.length_cons,List.length_nil,Nat.reduceAdd,Nat.reduceSub,Array.replicate_succ,Array.replicate_zero,List.push_toArray,List.append_toArray,List.nil_append,List.cons_append]
  gi_wp2_with fail
  gi_loop [10,11,12,35] (fun s _ _ i=>∃q:Nat,q<=r/\i= .int .i64 q/\s= .int .i64 (dotL (lam.take q) (tail.take q))) (fun _ _ _ i=>r-(intOf i).toNat)
  case atStart=>exact ⟨0,by omega,rfl,by simp [dotL]⟩
  case round=>
   obtain ⟨q,hq,rfl,rfl⟩:=hrel
   by_cases hlt:q<r
   ·obtain ⟨a,ha⟩:∃a,lam[q]? =some a:=⟨_,List.getElem?_eq_getElem (by have :=HRL.out;omega)⟩
    obtain ⟨y,hy⟩:∃y,tail[q]? =some y:=⟨_,List.getElem?_eq_getElem (by have :=hL.tl;have :=HRR.out;omega)⟩
    obtain ⟨b1,o1,rfl,G⟩:=HL4.out q a ha
    obtain ⟨g1,g2⟩:=G W hK
    have hxy:xs[k+1+q]? =some y:=by rw [<-hy,<-HXD.out,List.getElem?_drop]
    obtain ⟨y',hy1,hy2⟩:=hrow.cell (i:=k+1+q) (by rw [hxl];omega)
    rw [hxy] at hy1
    injection hy1 with hy1
    subst hy1
    have hdv:=hN.d2 (k+1) (by omega)
    have ba:=hN.lam k hkn a (by rw [<-HLAM.out];exact List.mem_of_getElem? ha)
    have bb:=le_absSum tail q y hy
    have bS:=absSum_bound hN hL
    have bs:=dotL_bound (A:=32768) (B:=549755813888) (by omega) (by omega) (lam.take q) (tail.take q) (fun z hz=>by have :=hN.lam k hkn z (by rw [<-HLAM.out];exact List.mem_of_mem_take hz);omega) (fun z hz=>by
     obtain ⟨j,hj,e⟩:=List.getElem_of_mem (List.mem_of_mem_take hz)
     have :=le_absSum tail j z (by simp [hj,e])
     omega)
    have bm:=mul_abs_le (a:=a) (b:=y) (A:=32768) (B:=549755813888) (by omega) (by omega) (by omega) (by omega)
    have hstep:=Lib.hid (dotL_take_succ lam tail q a y ha hy)
    have htl:(lam.take q).length<=8:=by rw [List.length_take];omega
    obtain ⟨s,hs⟩:∃s,s=dotL (lam.take q) (tail.take q):=⟨_,rfl⟩
    rw [<-hs] at bs hstep |-
    have bs1:-144115188075855872<=s:=by omega
    have bs2:s<=144115188075855872:=by omega
    obtain ⟨bm1,bm2⟩:=bm
    have bm3:-18014398509481984<=a*y:=by omega
    have bm4:a*y<=18014398509481984:=by omega
    have bw:w.heap.size<W.heap.size:=by omega
    clear hdv ba bb bS bs bm1 bm2 hs ha hy hxy G htl
    gi_wp2_with fail
    refine ⟨⟨q+1,by omega,by go_num,by rw [hstep.out]⟩,by simp [intOf]<;>omega⟩
   ·obtain rfl:q=r:=by omega
    clear hlt
    have e1:lam.take q=lam:=List.take_of_length_le (by have :=HRL.out;omega)
    have e2:tail.take q=tail:=List.take_of_length_le (by have :=hL.tl;have :=HRR.out;omega)
    rw [e1,e2]
    clear e1 e2
    have hshe:Hid (dotL lam tail=vSh L k tail):=Lib.hid (by rw [HLAM.out];rfl)
    rw [hshe.out]
    obtain ⟨sh,hsh⟩:∃sh,sh=vSh L k tail:=⟨_,rfl⟩
    have bsh:=vSh_bounds hN hL
    have bmS:=mulS_bound hN hL
    rw [<-hsh] at bsh |-
    have bsh1:-36028247263150080<=sh:=by omega
    have bsh2:sh<=36028247263150080:=by omega
    have HSH:=Lib.hid hsh
    obtain ⟨p,hp⟩:∃p,p=((isq sqn:Int)+sh) / d:=⟨_,rfl⟩
    obtain ⟨hi,hhi⟩:∃hi,hi=((isq sqn:Int)-sh) / d:=⟨_,rfl⟩
    have HLO:Hid (vLo D L k rest tail=-p):=Lib.hid (by rw [hp,hsh,HD.out,vLo,HRT.out])
    have HHI:Hid (vHi D L k rest tail=hi):=Lib.hid (by rw [hhi,hsh,HD.out,vHi,HRT.out])
    have hends:=vEnds hN hL
    have hcnt:=vCnt_bounds hN hL
    have hSb:=absSum_bound hN hL
    have HCNT:Hid (vCnt D L k rest tail=hi+p+1):=Lib.hid (by rw [vCnt,HLO.out,HHI.out];omega)
    rw [HLO.out,HHI.out,HRT.out] at hends
    rw [HCNT.out] at hcnt
    have hp1:-1099511627776<=p:=by omega
    have hp2:p<=1099511627776:=by omega
    have hi1:-1099511627776<=hi:=by omega
    have hi2:hi<=1099511627776:=by omega
    have hq1:=hp.symm
    have hq2:=hhi.symm
    obtain ⟨hcnt0,hcnt1⟩:=hcnt
    clear bsh bmS hends hSb hp hhi hsh
    obtain ⟨fn,tmps,assign,body,hy,hRd⟩:=hY (m-1) pre ((n:Int)-k,hi+p+1) W hJ ⟨by simp only;omega,by simp only;omega,hcnt0,hcnt1⟩
    dsimp only at hy hRd
    by_cases hk0:k=0
    ·have hkb:((k:Int)==0)=true:=by simp;omega
     have HK0:=Lib.hid hk0
     clear hk0
     gi_wp2_with (first
      |(refine ⟨trivial,hdd _,?_⟩;gi_at_call 189;refine (callsIn_wide.2 (schur_root_any (a:=sqn) (by omega))).mono ?_;rintro e w' ⟨rfl,rfl⟩)
      |(refine ⟨trivial,hdd _,?_⟩;gi_at_call 234;refine (callsIn_wide.2 (schur_floor_any (by omega) (by omega) (by omega) (by omega))).mono ?_;rintro e w' ⟨rfl,rfl⟩)
      |((try refine ⟨hdd _,?_⟩);refine hRd.mono ?_;clear hRd;rintro e W1 (⟨rfl,hJ1,hk1⟩ |⟨rfl,hx1⟩)))
     ·go_ret
      refine .inl ⟨rfl,?_,hX0.out.keep (hk1.block _ (Nat.le_refl _) (by have :=lt_of_heap hV.st;omega)),hK.trans (hk1.mono (Nat.le_succ _))⟩
      rw [visitY_zero _ _ _ _ _ _ HK0.out,HCNT.out]
      exact hJ1
     ·go_ret
      refine .inr ⟨rfl,[((n:Int)-k,hi+p+1)],?_,hx1⟩
      rw [visitY_zero _ _ _ _ _ _ HK0.out,HCNT.out]
      exact List.prefix_rfl
    ·have hkb:((k:Int)==0)=false:=by simp;omega
     have hk1':1<=k:=by omega
     have HK0:=Lib.hid hk0
     clear hk0
     gi_wp2_with (first
      |(refine ⟨trivial,hdd _,?_⟩;gi_at_call 189;refine (callsIn_wide.2 (schur_root_any (a:=sqn) (by omega))).mono ?_;rintro e w' ⟨rfl,rfl⟩)
      |(refine ⟨trivial,hdd _,?_⟩;gi_at_call 234;refine (callsIn_wide.2 (schur_floor_any (by omega) (by omega) (by omega) (by omega))).mono ?_;rintro e w' ⟨rfl,rfl⟩)
      |((try refine ⟨hdd _,?_⟩);refine hRd.mono ?_;clear hRd;rintro e W1 (⟨rfl,hJ1,hk1⟩ |⟨rfl,hx1⟩)))
     ·gi_loopw [17,18] (fun sx _ wr=>∃(x:Int) (j:Nat),sx= .int .i64 x/\Hid (x=-p+j)/\-p<=x/\x<=hi+1/\J (pre++(((n:Int)-k,hi+p+1)::kidsTo D L n k rest tail j)) wr/\XRow wr w.heap.size n k tail/\KeepW (w.heap.size+1) wN.heap.size wN wr) (fun sx _ _=>(hi+1-intOf sx).toNat)
      case atStart=>
       refine ⟨-p,0,rfl,Lib.hid (by omega),by omega,by omega,?_,hX0.out.keep (hk1.block _ (Nat.le_refl _) (by have :=lt_of_heap hV.st;omega)),hK.trans (hk1.mono (Nat.le_succ _))⟩
       simpa [kidsTo] using hJ1
      case round=>
       obtain ⟨x,j,rfl,HXJ,hx1,hx2,hJ2,hX2,hK2⟩:=hrel
       clear s0 s1 s2 s3 s4 hK hJ hX0 m1 m2 m3 m4 l3 l4 hrow HROW hy hJ1 hk1 hxl HXD
       obtain ⟨s0,s1,s2,s3,s4⟩:=hV.read hK2
       rw [hN.dl] at s1
       rw [hN.ll] at s2
       by_cases hlt:x<=hi
       ·obtain ⟨k',HK1⟩:∃k',Hid (k=k'+1):=⟨k-1,Lib.hid (by omega)⟩
        have hLn:LevOK D n bound (k'+1) rest tail:=by rw [<-HK1.out];exact hL
        have hin1:vLo D L k rest tail<=x:=by rw [HLO.out];exact hx1
        have hin2:x<=vHi D L k rest tail:=by rw [HHI.out];exact hlt
        have hub:=vU_bounds hN hL hin1 hin2
        obtain ⟨hr1',hr2',-,-⟩:=vRest_bounds hN hL hin1 hin2
        obtain ⟨u,hu⟩:∃u,u=d*x+sh:=⟨_,rfl⟩
        have HU:Hid (vU D L k tail x=u):=Lib.hid (by rw [hu,HSH.out,HD.out];rfl)
        have HRS:Hid (vRest D L k rest tail x=((sqn:Int)-u*u) / d):=Lib.hid (by rw [vRest,HU.out,HSQ.out,<-HD.out])
        rw [HU.out] at hub hr1' hr2'
        rw [HSQ.out] at hr1'
        rw [HRT.out] at hub
        have hL':LevOK D n bound k' (((sqn:Int)-u*u) / d) (x::tail):=by
         have :=LevOK.next hN hLn (x:=x) (by rw [<-HK1.out];exact hin1) (by rw [<-HK1.out];exact hin2)
         rw [<-HK1.out,HRS.out] at this
         exact this
        have hX3:XRow (wr.setCell ⟨w.heap.size,k,none⟩ (.int .i64 x)) w.heap.size n k' (x::tail):=by
         have h1:XRow wr w.heap.size n (k'+1) tail:=by rw [<-HK1.out];exact hX2
         have :=h1.put (by have :=HK1.out;omega) x
         rw [<-HK1.out] at this;exact this
        have hcall:=ih k' (by have :=HK1.out;omega) _ _ (m-1) _ _ hL' hX3 (hK2.set (p:=⟨w.heap.size,k,none⟩) (Nat.lt_succ_self _) _) (hJs _ _ k x hJ2)
        rw [show ((k':Nat):Int)=(k:Int)-1 by have :=HK1.out;omega] at hcall
        have HC:=Lib.hid hcall
        obtain ⟨xs,hrow,hxl,-⟩:=id hX2
        obtain ⟨y0,-,hc0⟩:=hrow.cell (i:=k) (by omega)
        have hf0:=hrow.frozen k
        have hu':=hu.symm
        have hub1:-2147483648<=u:=by omega
        have hub2:u<=2147483648:=by omega
        have hus:u*u<=4611686018427387904:=by omega
        have hdx:=mul_abs_le (a:=d) (b:=x) (A:=65536) (B:=2199023255552) (by omega) (by omega) (by omega) (by omega)
        have hdx1:-144115188075855872<=d*x:=by omega
        have hdx2:d*x<=144115188075855872:=by omega
        have bw:w.heap.size<wr.heap.size:=by omega
        clear hub hu hin1 hin2 hX3 hL' hLn hcall hdx hxl hrow
        gi_wp2_with (refine ⟨trivial,hdd _,?_⟩;gi_at_call 190;refine HC.out.mono ?_;clear HC;rintro e W3 (⟨rfl,hJ3,hX4,hK4⟩ |⟨rfl,q',hq',hx3⟩))
        ·refine ⟨⟨x+1,j+1,rfl,Lib.hid (by have :=HXJ.out;omega),by omega,by omega,?_,?_,hK4⟩,by simp [intOf]<;>omega⟩
         ·rw [kidsTo_succ,HLO.out,<-HXJ.out,HRS.out,show k-1=k' by have :=HK1.out;omega]
          simpa [List.append_assoc] using hJ3
         ·have :=hX4.up
          rw [<-HK1.out] at this;exact this
        ·go_ret
         refine .inr ⟨rfl,(((n:Int)-k,hi+p+1)::kidsTo D L n k rest tail j)++q',?_,by simpa [List.append_assoc] using hx3⟩
         rw [visitY_pos _ _ _ _ _ _ HK0.out,HCNT.out,List.cons_append]
         refine List.cons_prefix_cons.2 ⟨rfl,?_⟩
         have h1:kidsTo D L n k rest tail j++q'<+:kidsTo D L n k rest tail (j+1):=by
          rw [kidsTo_succ,HLO.out,<-HXJ.out,HRS.out,show k-1=k' by have :=HK1.out;omega]
          exact (List.prefix_append_right_inj _).2 hq'
         exact h1.trans (kidsTo_prefix _ _ _ _ _ _ (by have :=HXJ.out;omega))
       ·have hj:j=(hi+p+1).toNat:=by have :=HXJ.out;omega
        have HJJ:=Lib.hid hj
        clear hj
        gi_wp2_with fail
        go_ret
        refine .inl ⟨rfl,?_,hX2,hK2⟩
        rw [visitY_pos _ _ _ _ _ _ HK0.out,HCNT.out,<-HJJ.out]
        exact hJ2
     ·go_ret
      refine .inr ⟨rfl,[((n:Int)-k,hi+p+1)],?_,hx1⟩
      rw [visitY_pos _ _ _ _ _ _ HK0.out,HCNT.out]
      exact ⟨_,rfl⟩
end Go.Proofs.YtpcgfpmiphiacaaGreat
namespace Go.Proofs.YtpcgfpmiphiacaaGreat
open Go.RowKit Go.Shelf
attribute [local go_sem] Oper.semAt_some
def tailsY (D:List Int) (L:List (List Int)) (n:Nat) (bound:Int):List (Int×Int):=
 if n=1 then [(1,2*(isq (bound / vD D 1).toNat:Nat)+1)] else visitY D L n (n-1) (vD D n*bound) []
theorem KeepW.drew {lo hi:Nat} {a b:World} (h:KeepW lo hi a b):KeepW lo hi a b.drew:=⟨h.block,h.size⟩
theorem bool_ret {e:Ending} {A B:Prop} (h:(e= .returned (.bool true)/\A)∨(e= .returned (.bool false)/\B)):∃b,e= .returned (.bool b)/\Hid (A∨B):=by
 rcases h with ⟨h,a⟩ |⟨h,b⟩
 ·exact ⟨_,h,Lib.hid (.inl a)⟩
 ·exact ⟨_,h,Lib.hid (.inr b)⟩
theorem tails_one {w wN:World} {bound:Int} {D:List Int} {L:List (List Int)} {mA lA:Option Addr} {mc lc:Nat} (hV:WalkV w wN bound D L 1 mA lA mc lc) (hdl:D.length=2) (hd1:1<=vD D 1) (hd2:vD D 1<65536) (hb0:0<=bound) (hb1:bound<=4611686018427387904) (l:Nat) (J Jx:List (Int×Int)->World->Prop)
  (hJd:∀pre W,J pre W->J pre W.drew)
  (hY:∀m pre x W,J pre W->ValidY 1 x->YieldAt Fence.wide m Tryz.prog l #[.int .i64 x.1,.int .i64 x.2] W fun e W'=>
   (e= .returned (.bool true)/\J (pre++[x]) W'/\KeepW w.heap.size wN.heap.size W W')∨(e= .returned (.bool false)/\Jx (pre++[x]) W'))
  (m:Nat) (W:World) (hK:KeepW (w.heap.size+1) wN.heap.size wN W) (hJ:J [] W):
  CallsIn Fence.wide m Tryz.prog 130 #[.pointer (some ⟨w.heap.size+1,0,none⟩),.func (.yield l) #[] #[]] W fun e W'=>(∃v,e= .returned v)/\(J (tailsY D L 1 bound) W'∨∃q,q<+:tailsY D L 1 bound/\Jx q W'):=by
 have hdd:∀k:Nat,(Fence.wide.depth.isSome=true->1<=k):=fun k h=>by cases h
 obtain ⟨s0,s1,s2,s3,s4⟩:=hV.read hK
 rw [hdl] at s1
 obtain ⟨bm,om,rfl,M1⟩:=hV.minor (k:=1) (by omega)
 obtain ⟨m1,m2⟩:=M1 W hK
 obtain ⟨d,hd⟩:∃d,d=vD D 1:=⟨_,rfl⟩
 rw [<-hd] at m1 hd1 hd2
 obtain ⟨q,hq⟩:∃q,q=(bound / d).toNat:=⟨_,rfl⟩
 have hqe:bound / d=(q:Int):=by
  have :=Int.ediv_nonneg hb0 (show 0<=d by omega)
  omega
 have hq1:q<9223372036854775808:=by
  have :bound / d<=bound:=Int.ediv_le_self _ hb0
  omega
 have hrt:isq q<4294967296:=by
  have h1:=(isq_spec q).1
  rcases Nat.lt_or_ge (isq q) 4294967296 with h |h
  ·exact h
  ·have :=Nat.mul_le_mul h h;omega
 have HT:Hid (tailsY D L 1 bound=[(1,2*(isq q:Int)+1)]):=Lib.hid (by unfold tailsY;rw [if_pos rfl,<-hd,<-hq])
 obtain ⟨fn,tmps,assign,body,hy,hRd⟩:=hY (m-1) [] (1,2*(isq q:Int)+1) W.drew (hJd _ _ hJ) ⟨by simp,by simp,by simp only;omega,by simp only;omega⟩
 dsimp only at hy hRd
 clear M1 hd hq hY
 refine callsIn_of_wp Tryz.func130 rfl trivial ?_ rfl
 simp only [Tryz.ntmps130,List.size_toArray,List.length_cons,List.length_nil,Nat.reduceAdd,Nat.reduceSub,Array.replicate_succ,Array.replicate_zero,List.push_toArray,List.append_toArray,List.nil_append,List.cons_append]
 have hw1:IntKind.i64.wrap (2*(isq q:Int))=2*(isq q:Int):=IntWalk.i64_in _ (by omega)
 have hw2:IntKind.i64.wrap (2*(isq q:Int)+1)=2*(isq q:Int)+1:=IntWalk.i64_in _ (by omega)
 gi_wp2_with fail
 gi_region_with (first
  |(refine ⟨trivial,hdd _,?_⟩;gi_at_call 189;refine (callsIn_wide.2 (schur_root_any (a:=q) (by omega))).mono ?_;rintro e w' ⟨rfl,rfl⟩)
  |((try refine ⟨hdd _,?_⟩);refine hRd.mono ?_;clear hRd;rintro e W1 h0;obtain ⟨bb,rfl,hh⟩:=bool_ret h0;clear h0))
 all_goals
  gi_wp2
  refine bodyPost_ret (v:= .tuple #[]) (by simp [results,Tryz.results130]) rfl ?_
  refine ⟨⟨_,rfl⟩,?_⟩
  rw [HT.out]
  rcases hh.out with ⟨hJ1,-⟩ |hx1
  ·exact .inl hJ1
  ·exact .inr ⟨_,List.prefix_rfl,hx1⟩
theorem tails_many {w wN:World} {bound:Int} {D:List Int} {L:List (List Int)} {n:Nat} {mA lA:Option Addr} {mc lc:Nat} (hV:WalkV w wN bound D L n mA lA mc lc) (hN:NumOK D L n bound) (hn2:2<=n) (l:Nat) (J Jx:List (Int×Int)->World->Prop)
  (hJd:∀pre W,J pre W->J pre W.drew)
  (hJs:∀pre W i v,J pre W->J pre (W.setCell ⟨w.heap.size,i,none⟩ (.int .i64 v)))
  (hY:∀m pre x W,J pre W->ValidY n x->YieldAt Fence.wide m Tryz.prog l #[.int .i64 x.1,.int .i64 x.2] W fun e W'=>
   (e= .returned (.bool true)/\J (pre++[x]) W'/\KeepW w.heap.size wN.heap.size W W')∨(e= .returned (.bool false)/\Jx (pre++[x]) W'))
  (m:Nat) (W:World) (hK:KeepW w.heap.size wN.heap.size wN W) (hJ:J [] W):
  CallsIn Fence.wide m Tryz.prog 130 #[.pointer (some ⟨w.heap.size+1,0,none⟩),.func (.yield l) #[] #[]] W fun e W'=>(∃v,e= .returned v)/\(J (tailsY D L n bound) W'∨∃q,q<+:tailsY D L n bound/\Jx q W'):=by
 have hdd:∀k:Nat,(Fence.wide.depth.isSome=true->1<=k):=fun k h=>by cases h
 have hK':=hK.mono (Nat.le_succ _)
 obtain ⟨s0,s1,s2,s3,s4⟩:=hV.read hK'
 have hdl:=hN.dl
 have hn8:=hN.n8
 rw [hdl] at s1
 obtain ⟨bm,om,rfl,M1⟩:=hV.minor (k:=n) (by omega)
 obtain ⟨m1,m2⟩:=M1 W hK'
 have hL:LevOK D n bound (n-1) (vD D n*bound) []:=by
  have e:n-1+1=n:=by omega
  have hd:=hN.d1 n (Nat.le_refl _)
  refine ⟨by omega,Int.mul_nonneg (by omega) hN.b0,by rw [e];exact Int.le_refl _,by simp,by simp [absSum]⟩
 have hX:XRow W w.heap.size n (n-1) []:=by
  refine ⟨List.replicate n 0,(hK.block _ (Nat.le_refl _) (by have :=lt_of_heap hV.st;omega)).trans hV.xs,by simp,by rw [List.drop_eq_nil_of_le (by simp;omega)]⟩
 have hv:=visit_in hV hN l J Jx hJs hY (n-1) (vD D n*bound) [] (m-1) [] W.drew hL (hX.keep rfl) hK'.drew (hJd _ _ hJ)
 have HT:Hid (tailsY D L n bound=visitY D L n (n-1) (vD D n*bound) []):=Lib.hid (by unfold tailsY;rw [if_neg (by omega)])
 rw [show ((n-1:Nat):Int)=(n:Int)-1 by omega] at hv
 have hne:((n:Int)==1)=false:=by simp;omega
 have hd1:=hN.d1 n (Nat.le_refl _)
 have hd2:=hN.d2 n (Nat.le_refl _)
 have hb0:=hN.b0
 have hb1:=hN.b1
 obtain ⟨d,hd⟩:∃d,d=vD D n:=⟨_,rfl⟩
 rw [<-hd] at m1 hd1 hd2 hv
 have hm:=mul_abs_le (a:=d) (b:=bound) (A:=65536) (B:=1073741824) (by omega) (by omega) (by omega) (by omega)
 have HC:=Lib.hid hv
 have HD:=Lib.hid hd
 have hw1:IntKind.i64.wrap (d*bound)=d*bound:=IntWalk.i64_in _ (by omega)
 have hw2:IntKind.i64.wrap ((n:Int)-1)=(n:Int)-1:=IntWalk.i64_in _ (by omega)
 clear M1 hv hd hm hY hL hX hdl
 refine callsIn_of_wp Tryz.func130 rfl trivial ?_ rfl
 simp only [Tryz.ntmps130,List.size_toArray,List.length_cons,List.length_nil,Nat.reduceAdd,Nat.reduceSub,Array.replicate_succ,Array.replicate_zero,List.push_toArray,List.append_toArray,List.nil_append,List.cons_append]
 gi_wp2_with fail
 gi_region_with (refine ⟨trivial,hdd _,?_⟩;gi_at_call 190;refine HC.out.mono ?_;clear HC;rintro e W1 h0;obtain ⟨bb,rfl,hh⟩:=bool_ret h0;clear h0)
 all_goals
  gi_wp2
  go_end0
  refine ⟨⟨_,rfl⟩,?_⟩
  rw [HT.out,<-HD.out]
  rcases hh.out with ⟨hJ1,-⟩ |⟨q,hq,hx1⟩
  ·exact .inl hJ1
  ·exact .inr ⟨q,hq,hx1⟩
end Go.Proofs.YtpcgfpmiphiacaaGreat
namespace Go.Proofs.YtpcgfpmiphiacaaGreat
open Go.RowKit Go.Shelf
attribute [local go_sem] Oper.semAt_some
structure OnlyB (base sz:Nat) (A B:World):Prop where
 block:∀b,b<base->b≠sz->B.heap[b]? =A.heap[b]?
 size:A.heap.size<=B.heap.size
 os:B.os=A.os
 tape:B.tape=A.tape
 output:B.output=A.output
theorem OnlyB.putObj {base sz:Nat} {A:World} {r:Nat} (h:base<=r) (o:Obj):OnlyB base sz A (A.putObj r o):=
 ⟨fun b hb _=>World.putObj_heap_other (by omega),by simp [World.putObj],rfl,rfl,rfl⟩
theorem OnlyB.alloc {base sz:Nat} {A:World} (h:base<=A.heap.size) (o:Obj):OnlyB base sz A (A.alloc o):=
 ⟨fun b hb _=>Below.heap_alloc A o b (by omega),by simp,rfl,rfl,rfl⟩
structure AboveK (sz:Nat) (A B:World):Prop where
 block:∀b,sz<=b->b<A.heap.size->B.heap[b]? =A.heap[b]?
 size:A.heap.size<=B.heap.size
def bodyX (I:List (Int×Int)->World->Prop) (Ix:List (Int×Int)->World->Prop) (sz:Nat) (ys:List (Int×Int)) (W:World):Exit->Act->World->Prop
 | .normal,_,W'=>AboveK sz W W'/\I ys W'
 | .ret,_,W'=>AboveK sz W W'/\Ix ys W'
 |_,_,_=>False
theorem roundIn_any {m m':Nat} {P:Program} {l:Nat} {f:FuncId} {tmps:Array Value} {assign body:Code} {w:World} {R:Ending->World->Prop} (h:RoundIn Fence.wide m P l f tmps assign body w R):RoundIn Fence.wide m' P l f tmps assign body w R:=⟨h.1,fun c cs _=>h.2 c cs (room_wide _)⟩
theorem wpIn_rangeX {P:Program} {n:Nat} {g:Operand} {ps:Array Tmp} {assign body:Code} {Q:Exit->Act->World->Prop} {a:Act} {w:World} {gf:Nat} {ptr:Value}
  (hg:a.eval g= .func (.func gf) #[ptr] #[]) (eg:∀args w,(callFunc gf args).run P w= .ok (.enter gf args) w) (hps:ps.size=2) (sz hi N:Nat) (hsz:sz<hi) (hhi:hi<=w.heap.size) (ys:List (Int×Int))
  (hseq:∀(l:Nat) (J Jx:List (Int×Int)->World->Prop),(∀pre W,J pre W->J pre W.drew)->(∀pre W i v,J pre W->J pre (W.setCell ⟨sz,i,none⟩ (.int .i64 v)))->
   (∀m pre x W,J pre W->ValidY N x->YieldAt Fence.wide m P l #[.int .i64 x.1,.int .i64 x.2] W fun e W'=>(e= .returned (.bool true)/\J (pre++[x]) W'/\KeepW sz hi W W')∨(e= .returned (.bool false)/\Jx (pre++[x]) W'))->
   ∀(m:Nat) (W:World),KeepW sz hi w W->J [] W->CallsIn Fence.wide m P gf #[ptr,.func (.yield l) #[] #[]] W fun e W'=>(∃v,e= .returned v)/\(J ys W'∨∃q,q<+:ys/\Jx q W'))
  (I Ix:List (Int×Int)->World->Prop) (hI:∀pre A B,I pre A->OnlyB w.heap.size sz A B->I pre B) (hIx:∀pre A B,Ix pre A->OnlyB w.heap.size sz A B->Ix pre B) (h0:I [] w)
  (hab:∀(l:Nat) (pre:List (Int×Int)) (x:Int×Int) (W:World),I pre W->ValidY N x->w.heap.size<=W.heap.size->
   assign.wpIn (Fence.wide.inRound l) n P (Exit.then (fun a₁ W₁=>W=W₁/\∀W',I pre W'->w.heap.size<=W'.heap.size->body.wpIn (Fence.wide.inRound l) n P (bodyX I Ix sz (pre++[x]) W') a₁ W') (fun _ _ _=>False)) {tmps:=(ps.zip #[.int .i64 x.1,.int .i64 x.2]).foldl (fun t (p,v)=>t.setIfInBounds p v) a.tmps,defers:=[]} W)
  (hdone:∀(D:Nat) (W:World),I ys W->w.heap.size<=D->W.heap[D]? =some (.deferred (some []))->Q .normal {a with defers:={target:= .collected D,args:=#[]}::a.defers} W)
  (hstop:∀(D:Nat) (q:List (Int×Int)) (W:World),q<+:ys->Ix q W->w.heap.size<=D->W.heap[D]? =some (.deferred (some []))->(Code.ret).wpIn Fence.wide n P Q {a with defers:={target:= .collected D,args:=#[]}::a.defers} W):
  (Code.rangeFunc g ps assign body).wpIn Fence.wide n P Q a w:=by
 refine wpIn_rangeFunc ?_
 intro fn hfn
 obtain ⟨rec,hrec⟩:∃rec:LoopState->Option Code->Loop,rec=fun st pe=>{state:=st,pending:=pe,fn,tmps:=a.tmps,params:=ps,assign,body,defers:=w.heap.size}:=⟨_,rfl⟩
 obtain ⟨W1,hW1⟩:∃W1,(w.alloc (.deferred (some []))).alloc (.loop (rec .ready none))=W1:=⟨_,rfl⟩
 have hL1:W1.heap[w.heap.size+1]? =some (.loop (rec .ready none)):=by
  rw [<-hW1];have :=World.alloc_heap_new (w.alloc (.deferred (some []))) (.loop (rec .ready none));rwa [World.size_alloc] at this
 have hK1:W1.heap[w.heap.size]? =some (.deferred (some [])):=by
  rw [<-hW1];exact (Below.heap_alloc _ _ _ (by simp)).trans (World.alloc_heap_new w _)
 have hI1:I [] W1:=by rw [<-hW1];exact hI _ _ _ (hI _ _ _ h0 (OnlyB.alloc (Nat.le_refl _) _)) (OnlyB.alloc (by simp) _)
 have hb1:KeepW sz hi w W1:=by
  rw [<-hW1]
  refine ⟨fun b h1 h2=>?_,by simp;omega⟩
  rw [Below.heap_alloc _ _ _ (by simp;omega),Below.heap_alloc _ _ _ (by omega)]
 refine ⟨w.heap.size+1,[{target:= .collected w.heap.size,args:=#[]}],W1,{target:= .fn (.func gf) #[],args:=#[ptr,.func (.yield (w.heap.size+1)) #[] #[]]},W1,gf,
  #[ptr,.func (.yield (w.heap.size+1)) #[] #[]],W1,?_,?_,?_,?_,fun h=>(by cases h),?_⟩
 ·rw [<-hW1,hrec];exact run_enterLoop_outer _ _ _ _ _
 ·simp only [resolve,hg]
  simp [go_sem]
 ·intro f' _;trivial
 ·simp [invoke,go_sem,eg]
 ·refine (hseq (w.heap.size+1)
   (fun pre W=>I pre W/\W.heap[w.heap.size+1]? =some (.loop (rec .ready none))/\W.heap[w.heap.size]? =some (.deferred (some [])))
   (fun pre W=>Ix pre W/\W.heap[w.heap.size+1]? =some (.loop (rec .done (some .ret)))/\W.heap[w.heap.size]? =some (.deferred (some [])))
   (fun pre W hs=>⟨hI _ _ _ hs.1 ⟨fun _ _ _=>rfl,Nat.le_refl _,rfl,rfl,rfl⟩,hs.2⟩)
   (fun pre W i v hs=>⟨hI _ _ _ hs.1 ⟨fun b _ hb=>Below.heap_setCell W ⟨sz,i,none⟩ _ b hb,by rw [size_setCell];exact Nat.le_refl _,rfl,rfl,rfl⟩,
    (Below.heap_setCell W ⟨sz,i,none⟩ _ _ (show w.heap.size+1≠sz by omega)).trans hs.2.1,(Below.heap_setCell W ⟨sz,i,none⟩ _ _ (show w.heap.size≠sz by omega)).trans hs.2.2⟩)
   ?_ (n-1) W1 hb1 ⟨hI1,hL1,hK1⟩).mono ?_
  ·rintro m pre x W ⟨hi',hl,hk⟩ hval
   have hlt:w.heap.size+1<W.heap.size:=(Array.getElem?_eq_some_iff.1 hl).1
   have hy:=run_yield (P:=P) (args:=#[.int .i64 x.1,.int .i64 x.2]) hl (by rw [hrec];exact hps.symm)
   rw [hrec] at hy
   refine ⟨fn,_,assign,body,hy,roundIn_any (roundIn_of_wpIn (n:=n) hfn (wpIn_mono (hab _ pre x W hi' hval (by omega)) ?_))⟩
   rintro e a1 Wx hp
   cases e with
   |ret=>exact hp.elim
   |exit id=>exact hp.elim
   |goto t=>exact hp.elim
   |panic ch=>exact hp.elim
   |outgrown=>exact hp.elim
   |normal=>
   obtain ⟨hWx,hbody⟩:=hp
   subst hWx
   refine ⟨_,run_beginRound hl (by rw [hrec]),?_⟩
   obtain ⟨Wb,hWb⟩:∃Wb,W.putObj (w.heap.size+1) (.loop {rec .ready none with state:= .busy})=Wb:=⟨_,rfl⟩
   have hszb:Wb.heap.size=W.heap.size:=by rw [<-hWb];simp [World.putObj]
   have hl2:Wb.heap[w.heap.size+1]? =some (.loop {rec .ready none with state:= .busy}):=by rw [<-hWb];exact World.putObj_heap_same hlt
   have hk2:Wb.heap[w.heap.size]? =some (.deferred (some [])):=by rw [<-hWb];exact (World.putObj_heap_other (by omega)).trans hk
   have hkw:KeepW sz hi W Wb:=by
    refine ⟨fun b h1 h2=>?_,by omega⟩
    rw [<-hWb];exact World.putObj_heap_other (by omega)
   have hib:I pre Wb:=by rw [<-hWb];exact hI _ _ _ hi' (OnlyB.putObj (Nat.le_succ _) _)
   rw [hWb]
   refine wpIn_mono (hbody Wb hib (by omega)) ?_
   have fin:∀(jump:Option Code) (W3:World),AboveK sz Wb W3->
     (Instr.endRound (w.heap.size+1) jump).run P W3= .ok (.bool jump.isNone) (W3.putObj (w.heap.size+1) (.loop (rec (if jump.isNone then .ready else .done) jump)))/\
     (W3.putObj (w.heap.size+1) (.loop (rec (if jump.isNone then .ready else .done) jump))).heap[w.heap.size+1]? =some (.loop (rec (if jump.isNone then .ready else .done) jump))/\
     (W3.putObj (w.heap.size+1) (.loop (rec (if jump.isNone then .ready else .done) jump))).heap[w.heap.size]? =some (.deferred (some []))/\
     KeepW sz hi W (W3.putObj (w.heap.size+1) (.loop (rec (if jump.isNone then .ready else .done) jump))):=fun jump W3 hk3=>by
    have hl3:=(hk3.block _ (by omega) (by omega)).trans hl2
    have :=run_endRound (P:=P) jump hl3
    rw [hrec] at this |-
    refine ⟨this,World.putObj_heap_same (Array.getElem?_eq_some_iff.1 hl3).1,(World.putObj_heap_other (by omega)).trans ((hk3.block _ (by omega) (by omega)).trans hk2),fun b h1 h2=>?_,?_⟩
    ·exact (World.putObj_heap_other (by omega)).trans ((hk3.block b h1 (by omega)).trans (hkw.block b h1 h2))
    ·have :=hk3.size
     simp [World.putObj];omega
   rintro e a3 W3 hp
   cases e with
   |normal=>
    obtain ⟨hk3,hi3⟩:=hp
    obtain ⟨hr,hl4,hk4,hkk⟩:=fin none W3 hk3
    exact ⟨_,_,hr,.inl ⟨rfl,⟨hI _ _ _ hi3 (OnlyB.putObj (Nat.le_succ _) _),hl4,hk4⟩,hkk⟩⟩
   |ret=>
    obtain ⟨hk3,hi3⟩:=hp
    obtain ⟨hr,hl4,hk4,hkk⟩:=fin (some .ret) W3 hk3
    exact ⟨_,_,hr,.inr ⟨rfl,hIx _ _ _ hi3 (OnlyB.putObj (Nat.le_succ _) _),hl4,hk4⟩⟩
   |exit id=>exact hp.elim
   |goto t=>exact hp.elim
   |panic ch=>exact hp.elim
   |outgrown=>exact hp.elim
  ·rintro e W2 ⟨⟨v,rfl⟩,(⟨hi',hl,hk⟩ |⟨q,hq,hi',hl,hk⟩)⟩
   ·exact ⟨none,_,by have :=run_endLoop (P:=P) hl (by rw [hrec];simp);rw [hrec] at this;exact this,hdone _ _ (hI _ _ _ hi' (OnlyB.putObj (Nat.le_succ _) _)) (Nat.le_refl _) ((World.putObj_heap_other (by omega)).trans hk)⟩
   ·exact ⟨some .ret,_,by have :=run_endLoop (P:=P) hl (by rw [hrec];simp);rw [hrec] at this;exact this,hstop _ q _ hq (hIx _ _ _ hi' (OnlyB.putObj (Nat.le_succ _) _)) (Nat.le_refl _) ((World.putObj_heap_other (by omega)).trans hk)⟩
end Go.Proofs.YtpcgfpmiphiacaaGreat
namespace Go.Proofs.YtpcgfpmiphiacaaGreat
open Go.RowKit Go.Shelf
attribute [local go_sem] Oper.semAt_some
def stepsGo:List (Int×Int)->Int->List Int->Option (Int×List Int)
 |[],left,st=>some (left,st)
 |(len,cnt)::ys,left,st=>if left<cnt then none else stepsGo ys (left-cnt) (st.set (len-1).toNat (st.getD (len-1).toNat 0+cnt))
theorem stepsGo_append (xs ys:List (Int×Int)):∀(left:Int) (st:List Int),stepsGo (xs++ys) left st=(stepsGo xs left st).bind fun p=>stepsGo ys p.1 p.2:=by
 induction xs with
 |nil=>intro left st;rfl
 |cons x xs ih=>
  intro left st
  obtain ⟨len,cnt⟩:=x
  simp only [List.cons_append,stepsGo]
  split
  ·rfl
  ·exact ih _ _
structure FormOK (m:List (List Int)):Prop where
 len1:1<=m.length
 all:AllLen m m.length
 fits:Fits64 m
 elim:ElimOK m
 rows:Rows64 m
 num:∀bound,0<=bound->bound<1073741824->NumOK (minorsTo m m.length) (lamTo m m.length) m.length bound
def stepsOf (m:List (List Int)) (bound budget:Int):Option (Int×List Int):=stepsGo (tailsY (minorsTo m m.length) (lamTo m m.length) m.length bound) budget (List.replicate m.length 0)
def argsB (bound budget:Int):Bool:=decide (0<=bound/\bound<=4611686018427387904/\0<=budget/\budget<=1000000)
def crowdB (m:List (List Int)) (bound:Int):Bool:=decide (1<m.length/\1073741824<=bound)
def stepsSpec (m:List (List Int)) (bound budget:Int):List Int×Int:=
 if isRedB m then (if argsB bound budget then (if crowdB m bound then ([],9) else match stepsOf m bound budget with |some p=>(p.2,0) |none=>([],9)) else ([],1)) else ([],6)
def RetSteps (w:World) (p:List Int×Int) (e:Ending) (w':World):Prop:=∃A c,e= .returned (.tuple #[.slice A p.1.length c,.int .i64 p.2])/\Ints w' A 3 .i64 p.1/\p.1.length<=c/\c<=9223372036854775807/\Step w w'
theorem RetSteps.err {w:World} {p:List Int×Int} {k:Int} {w':World} (h:p=([],k)) (hs:Step w w'):RetSteps w p (.returned (.tuple #[.slice none 0 0,.int .i64 k])) w':=by
 subst h;exact ⟨none,0,rfl,Ints.nil,Nat.le_refl _,by omega,hs⟩
theorem Steps_bad {w0 w:World} {A:Option Addr} {c:Nat} {m:List (List Int)} {bound budget:Int} (h:MatA w0 A m) (hlen:m.length<=1099511627776) (hc:m.length<=c) (hc2:c<=9223372036854775807) (hb:isRedB m=false∨argsB bound budget=false∨crowdB m bound=true) [hx:Ext w0 w]:
  Calls Tryz.prog 74 #[.slice A m.length c,.int .i64 bound,.int .i64 budget] w (RetSteps w (stepsSpec m bound budget)):=by
 have hred:=fun W (hxx:Ext w0 W)=>IsReduced_any (w:=W) h hlen hc hc2
 have HR:=Lib.hid hred
 clear hred
 cases hr:isRedB m
 ·have HS:=Lib.hid (show stepsSpec m bound budget=([],6) by simp [stepsSpec,hr])
  rw [hr] at HR
  clear hb hr
  go_enter Tryz.func74,Tryz.ntmps74
  go_wp2_with (go_at_call 100;refine (HR.out _ inferInstance).mono ?_;rintro e w1 ⟨rfl,hs1⟩)
  exact bodyPost_ret (v:= .tuple #[.slice none 0 0,.int .i64 6]) (by simp [results,Tryz.results74,go_sem]) rfl (RetSteps.err HS.out (Step.of _ _))
 ·rw [hr] at HR
  have hb':argsB bound budget=false∨crowdB m bound=true:=by simpa [hr] using hb
  clear hb
  cases ha:argsB bound budget
  ·have HS:=Lib.hid (show stepsSpec m bound budget=([],1) by simp [stepsSpec,hr,ha])
   have ha':¬(0<=bound/\bound<=4611686018427387904/\0<=budget/\budget<=1000000):=by simpa [argsB] using ha
   clear hb' ha hr
   by_cases g0:bound<0
   ·have d0:decide (bound<0)=true:=by simpa using g0
    clear g0 ha'
    go_enter Tryz.func74,Tryz.ntmps74
    go_wp2_with (go_at_call 100;refine (HR.out _ inferInstance).mono ?_;rintro e w1 ⟨rfl,hs1⟩)
    exact bodyPost_ret (v:= .tuple #[.slice none 0 0,.int .i64 1]) (by simp [results,Tryz.results74,go_sem]) rfl (RetSteps.err HS.out (Step.of _ _))
   have d0:decide (bound<0)=false:=by simpa using g0
   by_cases g1:4611686018427387904<bound
   ·have d1:decide (4611686018427387904<bound)=true:=by simpa using g1
    clear g1 ha'
    go_enter Tryz.func74,Tryz.ntmps74
    go_wp2_with (go_at_call 100;refine (HR.out _ inferInstance).mono ?_;rintro e w1 ⟨rfl,hs1⟩)
    exact bodyPost_ret (v:= .tuple #[.slice none 0 0,.int .i64 1]) (by simp [results,Tryz.results74,go_sem]) rfl (RetSteps.err HS.out (Step.of _ _))
   have d1:decide (4611686018427387904<bound)=false:=by simpa using g1
   by_cases g2:budget<0
   ·have d2:decide (budget<0)=true:=by simpa using g2
    clear g2 ha'
    go_enter Tryz.func74,Tryz.ntmps74
    go_wp2_with (go_at_call 100;refine (HR.out _ inferInstance).mono ?_;rintro e w1 ⟨rfl,hs1⟩)
    exact bodyPost_ret (v:= .tuple #[.slice none 0 0,.int .i64 1]) (by simp [results,Tryz.results74,go_sem]) rfl (RetSteps.err HS.out (Step.of _ _))
   have d2:decide (budget<0)=false:=by simpa using g2
   by_cases g3:1000000<budget
   ·have d3:decide (1000000<budget)=true:=by simpa using g3
    clear g3 ha'
    go_enter Tryz.func74,Tryz.ntmps74
    go_wp2_with (go_at_call 100;refine (HR.out _ inferInstance).mono ?_;rintro e w1 ⟨rfl,hs1⟩)
    exact bodyPost_ret (v:= .tuple #[.slice none 0 0,.int .i64 1]) (by simp [results,Tryz.results74,go_sem]) rfl (RetSteps.err HS.out (Step.of _ _))
   have d3:decide (1000000<budget)=false:=by simpa using g3
   exact absurd (by omega) ha'
  ·have hcr:crowdB m bound=true:=by simpa [ha] using hb'
   have HS:=Lib.hid (show stepsSpec m bound budget=([],9) by simp [stepsSpec,hr,ha,hcr])
   have ha':0<=bound/\bound<=4611686018427387904/\0<=budget/\budget<=1000000:=by simpa [argsB] using ha
   have hc':1<m.length/\1073741824<=bound:=by simpa [crowdB] using hcr
   obtain ⟨a1,a2,a3,a4⟩:=ha'
   obtain ⟨c1,c2⟩:=hc'
   clear hb' ha hr hcr
   go_enter Tryz.func74,Tryz.ntmps74
   go_wp2_with (go_at_call 100;refine (HR.out _ inferInstance).mono ?_;rintro e w1 ⟨rfl,hs1⟩)
   exact bodyPost_ret (v:= .tuple #[.slice none 0 0,.int .i64 9]) (by simp [results,Tryz.results74,go_sem]) rfl (RetSteps.err HS.out (Step.of _ _))
end Go.Proofs.YtpcgfpmiphiacaaGreat
