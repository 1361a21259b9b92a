/- Mat2 Bar Cross Stages -/
import Derived.Test.YtpcgfpmiphiacaaGreatQ02
import Derived.Test.YtpcgfpmiphiacaaGreatProg
import Derived.Deep.DeepCutAuto
set_option maxHeartbeats 8000000
set_option linter.unusedVariables false
set_option linter.unusedSimpArgs false
set_option linter.constructorNameAsVariable false
namespace Go.Proofs.YtpcgfpmiphiacaaGreat
open Go.RowKit
def tab (F:Nat->Nat->Int) (rows cols:Nat):List (List Int):=(List.range rows).map fun i=>(List.range cols).map fun j=>F i j
theorem tab_get (F:Nat->Nat->Int) (rows cols i:Nat) (hi:i<rows):(tab F rows cols)[i]? =some ((List.range cols).map fun j=>F i j):=by simp [tab,hi]
theorem tab_length (F:Nat->Nat->Int) (rows cols:Nat):(tab F rows cols).length=rows:=by simp [tab]
def RetMat (w:World) (m:List (List Int)) (e:Ending) (w':World):Prop:=∃A c,e= .returned (.slice A m.length c)/\MatV w' A m/\m.length<=c/\c<=9223372036854775807/\Step w w'
def Heads (w:World) (G:Nat) (F:Nat->Nat->Int) (rows cols k:Nat):Prop:=
 ∃hd:List Value,VRow w G 94 hd/\hd.length=rows/\(∀i,i<k->∃B,hd[i]? =some (.slice B cols cols)/\IntsV w B ((List.range cols).map fun j=>F i j))/\∀i,k<=i->i<rows->hd[i]? =some (.slice none 0 0)
def Cells2 (w:World) (g:Nat) (F:Nat->Int) (cols q:Nat):Prop:=
 ∃cs:List Value,VRow w g 149 cs/\cs.length=cols*2/\(∀j,j<q->∃s B n c,cs[j*2]? =some (.bool s)/\cs[j*2+1]? =some (.slice B n c)/\IntV w s B n c (F j))/\∀j,q<=j->j<cols->cs[j*2]? =some (.bool false)/\cs[j*2+1]? =some (.slice none 0 0)
theorem Heads.made (w:World) (F:Nat->Nat->Int) (rows cols:Nat):Heads (w.alloc (.cells (mkCells #[.slice none 0 0] (rows*1)) 94)) w.heap.size F rows cols 0:=by
 refine ⟨_,VRow.new w _ _,?_,fun i hi=>absurd hi (by omega),fun i _ hi=>?_⟩
 ·rw [mkCells_size];omega
 ·rw [mkCells_one,Nat.mul_one,List.getElem?_replicate];simp [hi]
theorem Cells2.made (w:World) (F:Nat->Int) (cols:Nat):Cells2 (w.alloc (.cells (mkCells #[.bool false,.slice none 0 0] (cols*2)) 149)) w.heap.size F cols 0:=by
 refine ⟨_,VRow.new w _ _,mkCells_size _ _,fun i hi=>absurd hi (by omega),fun j _ hj=>⟨?_,?_⟩⟩
 ·rw [mkCells_get _ _ _ (by omega) (by simp)];simp
 ·rw [mkCells_get _ _ _ (by omega) (by simp)];simp
theorem Cells2.full {w:World} {g:Nat} {F:Nat->Int} {cols:Nat} (h:Cells2 w g F cols cols):IntsV w (some ⟨g,0,none⟩) ((List.range cols).map F):=by
 obtain ⟨cs,h1,h2,h3,h4⟩:=h
 refine ⟨cs,by simp [h2],h1.arr,fun i z hz=>?_⟩
 have hi:i<cols:=by
  rcases Nat.lt_or_ge i cols with hi |hi
  ·exact hi
  ·rw [List.getElem?_eq_none (by simpa using hi)] at hz;cases hz
 simp [hi] at hz
 subst hz
 exact h3 i hi
theorem Cells2.ext {w w':World} {g:Nat} {F:Nat->Int} {cols q:Nat} (h:Cells2 w g F cols q) (hx:Ext w w'):Cells2 w' g F cols q:=by
 obtain ⟨cs,h1,h2,h3,h4⟩:=h
 refine ⟨cs,h1.ext hx,h2,fun j hj=>?_,h4⟩
 obtain ⟨s,B,n,c,a1,a2,a3⟩:=h3 j hj
 exact ⟨s,B,n,c,a1,a2,a3.ext hx⟩
theorem Cells2.put {w:World} {g:Nat} {F:Nat->Int} {cols q:Nat} (h:Cells2 w g F cols q) (hq:q<cols) {s:Bool} {B:Option Addr} {n c:Nat} (hz:IntV w s B n c (F q)):
  Cells2 ((w.setCell ⟨g,q*2,none⟩ (.bool s)).setCell ⟨g,q*2+1,none⟩ (.slice B n c)) g F cols (q+1):=by
 obtain ⟨cs,h1,h2,h3,h4⟩:=h
 have key:∀{s':Bool} {B':Option Addr} {n' c':Nat} {z:Int},IntV w s' B' n' c' z->IntV ((w.setCell ⟨g,q*2,none⟩ (.bool s)).setCell ⟨g,q*2+1,none⟩ (.slice B n c)) s' B' n' c' z:=fun hz'=>
  (hz'.setCell (p:=⟨g,q*2,none⟩) h1 (by decide) _).setCell (p:=⟨g,q*2+1,none⟩) (h1.set _ _) (by decide) _
 refine ⟨_,(h1.set (q*2) (.bool s)).set (q*2+1) (.slice B n c),by simp [h2],fun j hj=>?_,fun j hj1 hj2=>?_⟩
 ·rcases Nat.lt_or_ge j q with hjq |hjq
  ·obtain ⟨s',B',n',c',a1,a2,a3⟩:=h3 j hjq
   refine ⟨s',B',n',c',?_,?_,key a3⟩
   ·rw [List.getElem?_set_ne (by omega),List.getElem?_set_ne (by omega)];exact a1
   ·rw [List.getElem?_set_ne (by omega),List.getElem?_set_ne (by omega)];exact a2
  ·obtain rfl:j=q:=by omega
   refine ⟨s,B,n,c,?_,?_,key hz⟩
   ·rw [List.getElem?_set_ne (by omega),List.getElem?_set_self (by omega)]
   ·rw [List.getElem?_set_self (by rw [List.length_set];omega)]
 ·obtain ⟨a1,a2⟩:=h4 j (by omega) hj2
  constructor
  ·rw [List.getElem?_set_ne (by omega),List.getElem?_set_ne (by omega)];exact a1
  ·rw [List.getElem?_set_ne (by omega),List.getElem?_set_ne (by omega)];exact a2
theorem Cells2.cells {w:World} {g:Nat} {F:Nat->Int} {cols q:Nat} (h:Cells2 w g F cols q) (hq:q<cols):
  w.cell? ⟨g,q*2,none⟩=some (.bool false)/\w.cell? ⟨g,q*2+1,none⟩=some (.slice none 0 0)/\w.frozen? ⟨g,q*2,none⟩=false/\w.frozen? ⟨g,q*2+1,none⟩=false/\g<w.heap.size:=by
 obtain ⟨cs,h1,h2,h3,h4⟩:=h
 obtain ⟨a1,a2⟩:=h4 q (Nat.le_refl _) hq
 exact ⟨h1.cell a1,h1.cell a2,h1.frozen _,h1.frozen _,h1.lt⟩
theorem Cells2.far {w:World} {g:Nat} {F:Nat->Int} {cols q:Nat} (h:Cells2 w g F cols q) {p:Addr} {cs':Array Value} {e':TypeId} {fr:Nat×Nat} (hp:w.heap[p.block]? =some (.cells cs' e' fr)) (hne:149≠e') (hne':271≠e') (u:Value):Cells2 (w.setCell p u) g F cols q:=by
 obtain ⟨cs,h1,h2,h3,h4⟩:=h
 have hg:g≠p.block:=fun hh=>by
  rw [<-hh] at hp
  unfold VRow at h1
  rw [h1] at hp
  injection hp with hp
  injection hp with _ he
  exact hne he
 refine ⟨cs,h1.far hg u,h2,fun j hj=>?_,h4⟩
 obtain ⟨s',B',n',c',a1,a2,a3⟩:=h3 j hj
 exact ⟨s',B',n',c',a1,a2,a3.setCell hp hne' u⟩
theorem size_setCell (w:World) (p:Addr) (u:Value):(w.setCell p u).heap.size=w.heap.size:=by simp [World.setCell]
set_option maxRecDepth 10000 in
theorem buildInt_any {w:World} (f:FuncId) (caps:Array Value) (rows cols:Nat) (h1:rows<=1000000) (h2:cols<=1000000) (hf:IsFn f) (F:Nat->Nat->Int)
  (H:∀(i j:Nat) (W:World),i<rows->j<cols->Ext w W->Calls Tryz.prog f (#[.int .i64 i,.int .i64 j]++caps) W (RetInt W (F i j))):
  Calls Tryz.prog 218 #[.int .i64 rows,.int .i64 cols,.func (.func f) #[] caps] w (RetMat w (tab F rows cols)):=by
 have hmk:=run_make_any (P:=Tryz.prog) Tryz.underlying79 infoSlInt (by omega) (rows:Int) (by omega) (by omega)
 have hmk2:=run_make_any (P:=Tryz.prog) Tryz.underlying94 infoInt (by omega) (cols:Int) (by omega) (by omega)
 have HH:=Lib.hid H
 have HF:=Lib.hid hf
 clear H hf
 go_enter Tryz.func218,Tryz.ntmps218
 go_wp2
 go_loopw [8,9,14] (fun _ _ i wr=>∃k:Nat,k<=rows/\i= .int .i64 k/\Heads wr w.heap.size F rows cols k/\Ext w wr) (fun _ _ i _=>rows-(intOf i).toNat)
 case atStart=>exact ⟨0,by omega,rfl,by simpa [Value.cells] using Heads.made w F rows cols,inferInstance⟩
 case round=>
  obtain ⟨k,hk,rfl,hH,hxr⟩:=hrel
  by_cases hlt':k<rows
  ·obtain ⟨hd,v1,v2,v3,v4⟩:=hH
   have hc1:=v1.cell (v4 k (Nat.le_refl _) hlt')
   have hc2:=v1.frozen k
   have hsz:=v1.lt
   obtain ⟨wo,rfl⟩:∃wo:World,wo=wr:=⟨_,rfl⟩
   have V2:=Lib.hid v2
   have V3:=Lib.hid v3
   have V4:=Lib.hid v4
   clear v2 v3 v4
   go_wp2
   go_loopw [9,27] (fun _ j wr=>∃q:Nat,q<=cols/\j= .int .i64 q/\Grow w.heap.size 94 wo wr/\VRow wr w.heap.size 94 (hd.set k (.slice (some ⟨wo.heap.size,0,none⟩) cols cols))/\Cells2 wr wo.heap.size (F k) cols q/\Ext w wr) (fun _ j _=>cols-(intOf j).toNat)
   case atStart=>
    refine ⟨0,by omega,rfl,?_,?_,?_,?_⟩
    ·exact ((Grow.refl _ _ _).setOld (p:=⟨w.heap.size,k,none⟩) v1 (Nat.le_refl _) rfl _).alloc hxr.size _
    ·exact (v1.set _ _).ext inferInstance
    ·have :=Cells2.made (wo.setCell ⟨w.heap.size,k,none⟩ (.slice (some ⟨wo.heap.size,0,none⟩) cols cols)) (F k) cols
     rwa [size_setCell] at this
    ·exact inferInstance
   case round=>
    obtain ⟨q,hq,rfl,hG,hV,hC,hxq⟩:=hrel
    by_cases hlt:q<cols
    ·have hkl:k<hd.length:=by have :=V2.out;omega
     have hrow:wr.cell? ⟨w.heap.size,k,none⟩=some (.slice (some ⟨wo.heap.size,0,none⟩) cols cols):=hV.cell (by rw [List.getElem?_set_self hkl])
     obtain ⟨c1,c2,c3,c4,c5⟩:=hC.cells hlt
     go_wp2
     have hcf:=HF.out
     unfold IsFn at hcf
     have hne:w.heap.size≠wo.heap.size:=by omega
     have hself:(hd.set k (.slice (some ⟨wo.heap.size,0,none⟩) cols cols))[k]? =some (.slice (some ⟨wo.heap.size,0,none⟩) cols cols):=by rw [List.getElem?_set_self hkl]
     have HN:=Lib.hid hne
     have HS:=Lib.hid hself
     clear hne hself
     go_region_held3 (fun w'=>w'.cell? ⟨w.heap.size,k,none⟩=some (.slice (some ⟨wo.heap.size,0,none⟩) cols cols))
      (first
       |exact (hV.ext inferInstance).cell HS.out
       |exact (((hV.ext inferInstance).far (p:=⟨wo.heap.size,q*2,none⟩) HN.out _).far (p:=⟨wo.heap.size,q*2+1,none⟩) HN.out _).cell HS.out)
      (first
       |(refine (HH.out _ _ _ hlt' hlt inferInstance).mono ?_;rintro e w2 ⟨g,B,k',d,rfl,hz,hs2⟩;obtain ⟨d1,d2,d3,d4,d5⟩:=(hC.ext (inferInstance:Ext wr w2)).cells hlt))
     go_wp2
     refine ⟨⟨q+1,by omega,by go_num,?_,?_,?_,?_⟩,by simp [intOf]<;>omega⟩
     ·exact ((hG.trans (inferInstance:Ext wr w2) hxr.size).setNew (p:=⟨wo.heap.size,q*2,none⟩) (Nat.le_refl _) hxr.size _).setNew (p:=⟨wo.heap.size,q*2+1,none⟩) (Nat.le_refl _) hxr.size _
     ·exact ((hV.ext (inferInstance:Ext wr w2)).far (p:=⟨wo.heap.size,q*2,none⟩) HN.out _).far (p:=⟨wo.heap.size,q*2+1,none⟩) HN.out _
     ·exact (hC.ext (inferInstance:Ext wr w2)).put hlt hz
     ·exact ((inferInstance:Ext w w2).setCell (p:=⟨wo.heap.size,q*2,none⟩) hxr.size _).setCell (p:=⟨wo.heap.size,q*2+1,none⟩) hxr.size _
    ·obtain rfl:q=cols:=by omega
     have hrowk:=hC.full
     go_wp2
     refine ⟨⟨k+1,by omega,by go_num,⟨_,hV,by rw [List.length_set];exact V2.out,fun i hi=>?_,fun i hi1 hi2=>?_⟩,hxq⟩,by simp [intOf]<;>omega⟩
     ·have hkl:k<hd.length:=by have :=V2.out;omega
      rcases Nat.lt_or_ge i k with h |h
      ·obtain ⟨B,b1,b2⟩:=V3.out i h
       exact ⟨B,by rw [List.getElem?_set_ne (by omega)];exact b1,b2.grow hG (by decide) (by decide)⟩
      ·obtain rfl:i=k:=by omega
       exact ⟨_,by rw [List.getElem?_set_self hkl],hrowk⟩
     ·rw [List.getElem?_set_ne (by omega)];exact V4.out i (by omega) hi2
  ·obtain rfl:k=rows:=by omega
   have HHd:=Lib.hid hH
   clear hH
   go_wp2
   go_ret
   obtain ⟨hd,v1,v2,v3,v4⟩:=HHd.out
   refine ⟨_,k,by rw [tab_length];rfl,⟨hd,by rw [v2,tab_length],v1.arr,fun i r hr=>?_⟩,by rw [tab_length];omega,by omega,hxr.toStep⟩
   have hi:i<k:=by
    rcases Nat.lt_or_ge i k with hi |hi
    ·exact hi
    ·rw [List.getElem?_eq_none (by rw [tab_length];exact hi)] at hr;cases hr
   rw [tab_get _ _ _ _ hi] at hr
   injection hr with hr
   subst hr
   obtain ⟨B,b1,b2⟩:=v3 i hi
   exact ⟨B,cols,by simpa using b1,b2,by simp,by omega⟩
def Heads1 (w:World) (G:Nat) (F:Nat->Nat->Int) (rows cols k:Nat):Prop:=
 ∃hd:List Value,VRow w G 35 hd/\hd.length=rows/\(∀i,i<k->∃B,hd[i]? =some (.slice B cols cols)/\Ints w B 2 .i64 ((List.range cols).map fun j=>F i j))/\∀i,k<=i->i<rows->hd[i]? =some (.slice none 0 0)
def Cells1 (w:World) (g:Nat) (F:Nat->Int) (cols q:Nat):Prop:=Row w g 2 .i64 ((List.range q).map F++List.replicate (cols-q) 0)/\q<=cols
theorem Cells1.made (w:World) (F:Nat->Int) (cols:Nat):Cells1 (w.alloc (.cells (mkCells #[.int .i64 0] (cols*1)) 2)) w.heap.size F cols 0:=by
 refine ⟨?_,Nat.zero_le _⟩
 have :(mkCells #[.int .i64 0] (cols*1))=mkRow cols .i64:=by
  apply Array.ext'
  rw [mkCells_one];simp [mkRow]
 rw [this]
 simpa using Row.made w cols .i64 2
theorem Cells1.full {w:World} {g:Nat} {F:Nat->Int} {cols:Nat} (h:Cells1 w g F cols cols):Ints w (some ⟨g,0,none⟩) 2 .i64 ((List.range cols).map F):=by
 have :=h.1.ints
 simpa using this
theorem Cells1.ext {w w':World} {g:Nat} {F:Nat->Int} {cols q:Nat} (h:Cells1 w g F cols q) (hx:Ext w w'):Cells1 w' g F cols q:=⟨h.1.ext hx,h.2⟩
theorem Cells1.put {w:World} {g:Nat} {F:Nat->Int} {cols q:Nat} (h:Cells1 w g F cols q) (hq:q<cols):Cells1 (w.setCell ⟨g,q,none⟩ (.int .i64 (F q))) g F cols (q+1):=by
 refine ⟨?_,hq⟩
 have :=h.1.fill (by omega) (show ((List.range q).map F).length=q by simp) (F q)
 rw [List.range_succ,List.map_append,show cols-(q+1)=cols-q-1 by omega]
 exact this
theorem Cells1.cells {w:World} {g:Nat} {F:Nat->Int} {cols q:Nat} (h:Cells1 w g F cols q) (hq:q<cols):
  w.cell? ⟨g,q,none⟩=some (.int .i64 0)/\w.frozen? ⟨g,q,none⟩=false/\g<w.heap.size:=by
 obtain ⟨x,hx,hc⟩:=h.1.cell (i:=q) (by simp;omega)
 rw [List.getElem?_append_right (by simp)] at hx
 have hx0:x=0:=List.eq_of_mem_replicate (List.mem_of_getElem? hx)
 subst hx0
 exact ⟨hc,h.1.frozen _,h.1.lt⟩
theorem Heads1.made (w:World) (F:Nat->Nat->Int) (rows cols:Nat):Heads1 (w.alloc (.cells (mkCells #[.slice none 0 0] (rows*1)) 35)) w.heap.size F rows cols 0:=by
 refine ⟨_,VRow.new w _ _,?_,fun i hi=>absurd hi (by omega),fun i _ hi=>?_⟩
 ·rw [mkCells_size];omega
 ·rw [mkCells_one,Nat.mul_one,List.getElem?_replicate];simp [hi]
def AllLen (m:List (List Int)) (n:Nat):Prop:=∀r∈m,r.length=n
theorem shapeI64_ok {w0 w:World} {A:Option Addr} {c:Nat} {m:List (List Int)} (h:MatA w0 A m) (n:Nat) (h1:1<=m.length) (h2:m.length<=16) (h3:1<=n) (h4:n<=16) (hn:AllLen m n) [hx:Ext w0 w]:
  Calls Tryz.prog 217 #[.slice A m.length c] w (RetSame w (.tuple #[.int .i64 m.length,.int .i64 n,.bool true])):=by
 have h0:=h.ext hx
 have hg:∀(i:Nat) (r:List Int),m[i]? =some r->r.length=n:=fun i r hr=>hn r (List.mem_of_getElem? hr)
 obtain ⟨b,o,B,c0,rfl,hc0,-,-,-,hb⟩:=h0.at_ (i:=0) (r:=m[0]) (by simp)
 rw [hg 0 m[0] (by simp)] at hc0
 simp only [Nat.add_zero] at hc0
 have HG:=Lib.hid hg
 clear hg hn
 have hd1:decide ((m.length:Int)<1)=false:=by simp;omega
 have hd2:decide ((16:Int)<(m.length:Int))=false:=by simp;omega
 have hd3:decide ((n:Int)<1)=false:=by simp;omega
 have hd4:decide ((16:Int)<(n:Int))=false:=by simp;omega
 go_enter Tryz.func217,Tryz.ntmps217
 go_wp2
 go_loop [7,28] (fun _ i=>∃k:Nat,k<=m.length/\i= .int .i64 k) (fun _ i=>m.length-(intOf i).toNat)
 case atStart=>exact ⟨0,by omega,rfl⟩
 case round=>
  obtain ⟨k,hk,rfl⟩:=hrel
  by_cases hlt:k<m.length
  ·obtain ⟨b',o',B',c',hh,hc,-,-,-,-⟩:=h0.at_ (i:=k) (r:=m[k]) (by simp [hlt])
   injection hh with hh
   injection hh with e1 e2
   subst e1 e2
   rw [HG.out k m[k] (by simp [hlt])] at hc
   go_wp2
   exact ⟨⟨k+1,by omega,by go_num⟩,by simp [intOf]<;>omega⟩
  ·go_wp2
   go_ret3
   exact ⟨rfl,rfl⟩
theorem FromInts1_any {w0 w:World} {A:Option Addr} {c:Nat} {m:List (List Int)} {pb:Nat} (h:MatA w0 A m) (i j:Nat) (r:List Int) (x:Int) (hr:m[i]? =some r) (hxr:r[j]? =some x) (hx0:-9223372036854775808<=x) (hx1:x<=9223372036854775807)
  (hp:w.cell? ⟨pb,0,none⟩=some (.slice A m.length c)) (hpb:pb<w.heap.size) [hx:Ext w0 w]:
  Calls Tryz.prog 219 #[.int .i64 i,.int .i64 j,.pointer (some ⟨pb,0,none⟩)] w (RetInt w x):=by
 have h0:=h.ext hx
 obtain ⟨b,o,B,c0,rfl,hc0,hI,hc1,hc2,hb⟩:=h0.at_ hr
 have hi:i<m.length:=(List.getElem?_eq_some_iff.1 hr).1
 have hj:j<r.length:=(List.getElem?_eq_some_iff.1 hxr).1
 obtain ⟨b1,o1,x1,rfl,hx2,hc3,hb1⟩:=hI.at_ hj
 have hxx:x1=x:=by rw [hx2] at hxr;injection hxr
 subst hxx
 clear hx2 hxr hr
 go_enter Tryz.func219,Tryz.ntmps219
 go_wp2_with fail
 refine (Small_any x1 hx0 hx1 _).mono ?_
 rintro e w2 ⟨g,B2,k2,d2,rfl,hz,hs2⟩
 obtain ⟨q0,q1,q2,q3,q4,q5⟩:=box2 w w2 (.bool false) (.slice none 0 0) 149
 have Q0:=Lib.hid q0
 clear q0
 go_wp2
 exact bodyPost_ret (v:= .agg #[.bool g,.slice B2 k2 d2]) (by simp [results,Tryz.results219,go_sem,q1,q2]) rfl ⟨_,_,_,_,rfl,hz.boxed (by decide) Q0.out _ _,Step.of _ _⟩
def Fits64 (m:List (List Int)):Prop:=∀r∈m,∀x∈r,-9223372036854775808<=x/\x<=9223372036854775807
def RetMatB (w:World) (m:List (List Int)) (b:Bool) (e:Ending) (w':World):Prop:=∃A c,e= .returned (.tuple #[.slice A m.length c,.bool b])/\MatV w' A m/\m.length<=c/\c<=9223372036854775807/\Step w w'
theorem tab_eq (m:List (List Int)) (n:Nat) (hn:AllLen m n):tab (fun i j=>(m.getD i []).getD j 0) m.length n=m:=by
 apply List.ext_getElem?
 intro i
 rcases Nat.lt_or_ge i m.length with hi |hi
 ·rw [tab_get _ _ _ _ hi]
  have hr:m[i]? =some m[i]:=by simp
  rw [hr]
  congr 1
  have hl:m[i].length=n:=hn _ (List.getElem_mem hi)
  apply List.ext_getElem?
  intro j
  rcases Nat.lt_or_ge j n with hj |hj
  ·simp [hj,hi,List.getD,hl]
  ·rw [List.getElem?_eq_none (by simpa using hj),List.getElem?_eq_none (by omega)]
 ·rw [List.getElem?_eq_none (by rw [tab_length];exact hi),List.getElem?_eq_none hi]
theorem isFn_FromInts1:IsFn 219:=isFn_of Tryz.func219 (by kernel_rfl) (by kernel_rfl)
theorem FromInts_ok {w0 w:World} {A:Option Addr} {c:Nat} {m:List (List Int)} (h:MatA w0 A m) (n:Nat) (h1:1<=m.length) (h2:m.length<=16) (h3:1<=n) (h4:n<=16) (hn:AllLen m n) (h64:Fits64 m) [hx:Ext w0 w]:
  Calls Tryz.prog 171 #[.slice A m.length c] w (RetMatB w m true):=by
 have hb:=buildInt_any (w:=w.alloc (.cells #[.slice A m.length c] 25)) 219 #[.pointer (some ⟨w.heap.size,0,none⟩)] m.length n (by omega) (by omega) isFn_FromInts1 (fun i j=>(m.getD i []).getD j 0)
  (fun i j W hi hj hW=>by
   have hr:m[i]? =some m[i]:=by simp
   have hl:m[i].length=n:=hn _ (List.getElem_mem hi)
   have hxj:m[i][j]? =some (m[i][j]'(by omega)):=by simp
   have hfit:=h64 m[i] (List.getElem_mem hi) _ (List.getElem_mem (by omega:j<m[i].length))
   have e1:(m.getD i []).getD j 0=m[i][j]'(by omega):=by simp [List.getD,hi,hxj]
   rw [e1]
   have hcell:W.cell? ⟨w.heap.size,0,none⟩=some (.slice A m.length c):=by
    have :=heap_of_ext hW (heap_alloc_new w _)
    simp [World.cell?,this]
   have hsz:w.heap.size<W.heap.size:=lt_of_heap (heap_of_ext hW (heap_alloc_new w _))
   have :Ext w W:=Ext.trans inferInstance hW
   have :Ext w0 W:=hx.trans this
   exact FromInts1_any h i j m[i] _ hr hxj hfit.1 hfit.2 hcell hsz)
 rw [tab_eq m n hn] at hb
 have HB:=Lib.hid hb
 clear hb
 go_enter Tryz.func171,Tryz.ntmps171
 go_wp2_with fail
 refine (shapeI64_ok h n h1 h2 h3 h4 hn).mono ?_
 rintro e w' ⟨rfl,rfl⟩
 go_wp2_with fail
 refine HB.out.mono ?_
 rintro e w2 ⟨A2,c2,rfl,hm,hc1,hc2,hs2⟩
 go_wp2
 go_ret2
 exact ⟨A2,c2,rfl,hm,hc1,hc2,Step.of _ _⟩
theorem shapeInt_ok {w0 w:World} {A:Option Addr} {c:Nat} {m:List (List Int)} (h:MatV w0 A m) (n:Nat) (h1:1<=m.length) (h2:m.length<=16) (h3:1<=n) (h4:n<=16) (hn:AllLen m n) [hx:Ext w0 w]:
  Calls Tryz.prog 221 #[.slice A m.length c] w (RetSame w (.tuple #[.int .i64 m.length,.int .i64 n,.bool true])):=by
 have h0:=h.ext hx
 have hg:∀(i:Nat) (r:List Int),m[i]? =some r->r.length=n:=fun i r hr=>hn r (List.mem_of_getElem? hr)
 obtain ⟨b,o,B,c0,rfl,hc0,-,-,-,hb⟩:=h0.at_ (i:=0) (r:=m[0]) (by simp)
 rw [hg 0 m[0] (by simp)] at hc0
 simp only [Nat.add_zero] at hc0
 have HG:=Lib.hid hg
 clear hg hn
 have hd1:decide ((m.length:Int)<1)=false:=by simp;omega
 have hd2:decide ((16:Int)<(m.length:Int))=false:=by simp;omega
 have hd3:decide ((n:Int)<1)=false:=by simp;omega
 have hd4:decide ((16:Int)<(n:Int))=false:=by simp;omega
 go_enter Tryz.func221,Tryz.ntmps221
 go_wp2
 go_loop [7,28] (fun _ i=>∃k:Nat,k<=m.length/\i= .int .i64 k) (fun _ i=>m.length-(intOf i).toNat)
 case atStart=>exact ⟨0,by omega,rfl⟩
 case round=>
  obtain ⟨k,hk,rfl⟩:=hrel
  by_cases hlt:k<m.length
  ·obtain ⟨b',o',B',c',hh,hc,-,-,-,-⟩:=h0.at_ (i:=k) (r:=m[k]) (by simp [hlt])
   injection hh with hh
   injection hh with e1 e2
   subst e1 e2
   rw [HG.out k m[k] (by simp [hlt])] at hc
   go_wp2
   exact ⟨⟨k+1,by omega,by go_num⟩,by simp [intOf]<;>omega⟩
  ·go_wp2
   go_ret3
   exact ⟨rfl,rfl⟩
theorem Shape_ok {w0 w:World} {A:Option Addr} {c:Nat} {m:List (List Int)} (h:MatV w0 A m) (n:Nat) (h1:1<=m.length) (h2:m.length<=16) (h3:1<=n) (h4:n<=16) (hn:AllLen m n) [hx:Ext w0 w]:
  Calls Tryz.prog 273 #[.slice A m.length c] w (RetSame w (.tuple #[.int .i64 m.length,.int .i64 n,.bool true])):=by
 go_enter Tryz.func273,Tryz.ntmps273
 go_wp2_with (go_at_call 221;refine (shapeInt_ok h n h1 h2 h3 h4 hn).mono ?_;rintro e w' ⟨rfl,rfl⟩)
 go_ret3
 exact ⟨rfl,rfl⟩
theorem setCell_same {w:World} {b i:Nat} {v:Value} (h:w.cell? ⟨b,i,none⟩=some v):w.setCell ⟨b,i,none⟩ v=w:=by
 unfold World.cell? at h
 unfold World.setCell
 have :(w.heap.modify b fun x=>match x with
   | .cells c elem frozen=> .cells (if (none:Option Nat).isSome then c else c.setIfInBounds i v) elem frozen
   |o=>o)=w.heap:=by
  apply Array.ext_getElem?
  intro k
  rw [Array.getElem?_modify]
  split
  ·rename_i hk
   subst hk
   cases hb:w.heap[b]? with
   |none=>simp
   |some o=>
    simp only [hb] at h
    cases o with
    |cells cs e fr=>
     simp at h
     simp only [Option.map_some,Option.isSome_none,Bool.false_eq_true,if_false]
     congr 2
     apply Array.ext_getElem?
     intro q
     rw [Array.getElem?_setIfInBounds]
     split
     ·rename_i hq
      subst hq
      obtain ⟨hlt,hv⟩:=Array.getElem?_eq_some_iff.1 h
      simp [hlt,hv]
     ·rfl
    |_=>simp at h
  ·rfl
 exact (congrArg (fun hp=>({w with heap:=hp}:World)) this).trans rfl
theorem ToInts1_any {w0 w:World} {A:Option Addr} {c:Nat} {m:List (List Int)} {pb ob:Nat} (h:MatV w0 A m) (i j:Nat) (r:List Int) (x:Int) (hr:m[i]? =some r) (hxr:r[j]? =some x) (hx0:-9223372036854775808<=x) (hx1:x<=9223372036854775807)
  (hp:w.cell? ⟨pb,0,none⟩=some (.slice A m.length c)) (ho:w.cell? ⟨ob,0,none⟩=some (.bool true)) (hob:ob<w.heap.size) (hof:w.frozen? ⟨ob,0,none⟩=false) [hx:Ext w0 w]:
  Calls Tryz.prog 247 #[.int .i64 i,.int .i64 j,.pointer (some ⟨pb,0,none⟩),.pointer (some ⟨ob,0,none⟩)] w (RetVal w (.int .i64 x)):=by
 have h0:=h.ext hx
 obtain ⟨b,o,B,c0,rfl,hc0,hI,hc1,hc2,hb⟩:=h0.at_ hr
 have hi:i<m.length:=(List.getElem?_eq_some_iff.1 hr).1
 have hj:j<r.length:=(List.getElem?_eq_some_iff.1 hxr).1
 obtain ⟨b1,o1,g1,B1,n1,c1,rfl,hd1,hd2,hV,hb1⟩:=hI.at_ hj
 have hxx:r[j]=x:=(List.getElem?_eq_some_iff.1 hxr).2
 rw [hxx] at hV
 clear hxx hxr hr
 go_enter Tryz.func247,Tryz.ntmps247
 go_wp2_with fail
 refine (Int64_fit hV hx0 hx1).mono ?_
 rintro e w2 ⟨rfl,hs2⟩
 have hx2:Ext w w2:=hs2.ext
 have ho2:w2.cell? ⟨ob,0,none⟩=some (.bool true):=(hx2.below.cell (p:=⟨ob,0,none⟩) hob).trans ho
 have hf2:w2.frozen? ⟨ob,0,none⟩=false:=(hx2.below.frozen (p:=⟨ob,0,none⟩) hob).trans hof
 have hsame:=Lib.hid (setCell_same ho2)
 go_wp2
 go_ret
 refine ⟨rfl,?_⟩
 rw [hsame.out]
 exact hs2
theorem isFn_ToInts1:IsFn 247:=isFn_of Tryz.func247 (by kernel_rfl) (by kernel_rfl)
theorem box1At (W w':World) (s:Nat) (x:Value) (T:TypeId) (hs:W.heap.size=s) [h:Ext (W.alloc (.cells #[x] T)) w']:
  w'.heap[s]? =some (.cells #[x] T (0,0))/\w'.cell? ⟨s,0,none⟩=some x/\w'.frozen? ⟨s,0,none⟩=false/\s<w'.heap.size:=by
 subst hs
 have h0:w'.heap[W.heap.size]? =some (.cells #[x] T (0,0)):=heap_of_ext h (heap_alloc_new W _)
 exact ⟨h0,by simp [World.cell?,h0],by simp [World.frozen?,h0],(Array.getElem?_eq_some_iff.1 h0).1⟩
def HeadsT (w:World) (G E:Nat) (rows cols k:Nat):Prop:=
 ∃hd:List Value,VRow w G 94 hd/\hd.length=rows/\(∀i,i<k->hd[i]? =some (.slice (some ⟨E,i*cols*2,none⟩) cols cols))/\∀i,k<=i->i<rows->hd[i]? =some (.slice none 0 0)
theorem HeadsT.made (w:World) (E rows cols:Nat):HeadsT (w.alloc (.cells (mkCells #[.slice none 0 0] (rows*1)) 94)) w.heap.size E rows cols 0:=by
 refine ⟨_,VRow.new w _ _,?_,fun i hi=>absurd hi (by omega),fun i _ hi=>?_⟩
 ·rw [mkCells_size];omega
 ·rw [mkCells_one,Nat.mul_one,List.getElem?_replicate];simp [hi]
theorem HeadsT.cell {w:World} {G E rows cols k:Nat} (h:HeadsT w G E rows cols k) (hk:k<rows):w.cell? ⟨G,k,none⟩=some (.slice none 0 0)/\w.frozen? ⟨G,k,none⟩=false/\G<w.heap.size:=by
 obtain ⟨hd,h1,h2,h3,h4⟩:=h
 exact ⟨h1.cell (h4 k (Nat.le_refl _) hk),h1.frozen _,h1.lt⟩
theorem HeadsT.put {w:World} {G E rows cols k:Nat} (h:HeadsT w G E rows cols k) (hk:k<rows):HeadsT (w.setCell ⟨G,k,none⟩ (.slice (some ⟨E,k*cols*2,none⟩) cols cols)) G E rows cols (k+1):=by
 obtain ⟨hd,h1,h2,h3,h4⟩:=h
 refine ⟨_,h1.set k _,by simp [h2],fun i hi=>?_,fun i hi1 hi2=>?_⟩
 ·rcases Nat.lt_or_ge i k with h |h
  ·rw [List.getElem?_set_ne (by omega)];exact h3 i h
  ·obtain rfl:i=k:=by omega
   rw [List.getElem?_set_self (by omega)]
 ·rw [List.getElem?_set_ne (by omega)];exact h4 i (by omega) hi2
theorem HeadsT.row {w:World} {G E rows cols k:Nat} (h:HeadsT w G E rows cols (k+1)):w.cell? ⟨G,k,none⟩=some (.slice (some ⟨E,k*cols*2,none⟩) cols cols):=by
 obtain ⟨hd,h1,h2,h3,h4⟩:=h
 exact h1.cell (h3 k (Nat.lt_succ_self k))
theorem HeadsT.rowM {w:World} {G E rows cols k m:Nat} (h:HeadsT w G E rows cols (k+1)) (hm:m=k*cols):w.cell? ⟨G,k,none⟩=some (.slice (some ⟨E,m*2,none⟩) cols cols):=by rw [hm];exact h.row
theorem HeadsT.ext {w w':World} {G E rows cols k:Nat} (h:HeadsT w G E rows cols k) (hx:Ext w w'):HeadsT w' G E rows cols k:=by
 obtain ⟨hd,h1,h2⟩:=h
 exact ⟨hd,h1.ext hx,h2⟩
theorem HeadsT.far {w:World} {G E rows cols k:Nat} (h:HeadsT w G E rows cols k) {p:Addr} (hp:G≠p.block) (u:Value):HeadsT (w.setCell p u) G E rows cols k:=by
 obtain ⟨hd,h1,h2⟩:=h
 exact ⟨hd,h1.far hp u,h2⟩
theorem HeadsT.heap {w:World} {G E rows cols k:Nat} (h:HeadsT w G E rows cols k):∃cs,w.heap[G]? =some (.cells cs 94 (0,0)):=by
 obtain ⟨hd,h1,h2⟩:=h
 exact ⟨_,h1⟩
theorem Cells2.part {w:World} {g:Nat} {F:Nat->Int} {N:Nat} (h:Cells2 w g F N N) (a n:Nat) (ha:a+n<=N):IntsV w (some ⟨g,a*2,none⟩) ((List.range n).map fun j=>F (a+j)):=by
 obtain ⟨cs,h1,h2,h3,h4⟩:=h
 refine ⟨(cs.drop (a*2)).take (n*2),by simp;omega,fun h0=>?_,fun i z hz=>?_⟩
 ·refine ⟨g,a*2,cs.toArray,(0,0),rfl,h1,fun j u hu=>?_⟩
  rw [List.getElem?_take] at hu
  split at hu
  ·rw [List.getElem?_drop] at hu;simpa using hu
  ·cases hu
 ·have hi:i<n:=by
   rcases Nat.lt_or_ge i n with hi |hi
   ·exact hi
   ·rw [List.getElem?_eq_none (by simpa using hi)] at hz;cases hz
  simp [hi] at hz
  subst hz
  obtain ⟨s,B,m,c,a1,a2,a3⟩:=h3 (a+i) (by omega)
  refine ⟨s,B,m,c,?_,?_,a3⟩
  ·rw [List.getElem?_take,if_pos (by omega),List.getElem?_drop,<-Nat.add_mul];exact a1
  ·rw [List.getElem?_take,if_pos (by omega),List.getElem?_drop,<-Nat.add_assoc,<-Nat.add_mul];exact a2
theorem lin_div (F:Nat->Nat->Int) (k q cols:Nat) (hq:q<cols):F ((k*cols+q) / cols) ((k*cols+q)%cols)=F k q:=by
 rw [Nat.mul_comm,Nat.mul_add_div (by omega),Nat.div_eq_of_lt hq,Nat.mul_add_mod,Nat.mod_eq_of_lt hq,Nat.add_zero]
/-! ## Matrices whose rows lie in certain blocks -/
def IntsX (X:Nat->Prop) (w:World) (A:Option Addr) (zs:List Int):Prop:=IntsV w A zs/\(0<zs.length->∃b o,A=some ⟨b,o,none⟩/\X b)
def MatX (X:Nat->Prop) (w:World) (A:Option Addr) (m:List (List Int)):Prop:=
 ∃vs:List Value,vs.length=m.length/\Arr w A 94 vs/\∀(i:Nat) (r:List Int),m[i]? =some r->∃B c,vs[i]? =some (.slice B r.length c)/\IntsX X w B r/\r.length<=c/\c<=9223372036854775807
theorem MatX.mat {X:Nat->Prop} {w:World} {A:Option Addr} {m:List (List Int)} (h:MatX X w A m):MatV w A m:=by
 obtain ⟨vs,h1,h2,h3⟩:=h
 refine ⟨vs,h1,h2,fun i r hr=>?_⟩
 obtain ⟨B,c,a1,a2,a3⟩:=h3 i r hr
 exact ⟨B,c,a1,a2.1,a3⟩
theorem MatX.mono {X Y:Nat->Prop} {w:World} {A:Option Addr} {m:List (List Int)} (h:MatX X w A m) (hxy:∀b,X b->Y b):MatX Y w A m:=by
 obtain ⟨vs,h1,h2,h3⟩:=h
 refine ⟨vs,h1,h2,fun i r hr=>?_⟩
 obtain ⟨B,c,a1,a2,a3⟩:=h3 i r hr
 refine ⟨B,c,a1,⟨a2.1,fun h0=>?_⟩,a3⟩
 obtain ⟨b,o,e,hx⟩:=a2.2 h0
 exact ⟨b,o,e,hxy b hx⟩
theorem MatV.old {w:World} {A:Option Addr} {m:List (List Int)} (h:MatV w A m):MatX (·<w.heap.size) w A m:=by
 obtain ⟨vs,h1,h2,h3⟩:=h
 refine ⟨vs,h1,h2,fun i r hr=>?_⟩
 obtain ⟨B,c,a1,a2,a3⟩:=h3 i r hr
 refine ⟨B,c,a1,⟨a2,fun h0=>?_⟩,a3⟩
 obtain ⟨b,o,g,B',n,c',e,_,_,_,hb⟩:=a2.at_ h0
 exact ⟨b,o,e,hb⟩
theorem MatX.ext {X:Nat->Prop} {w w':World} {A:Option Addr} {m:List (List Int)} (h:MatX X w A m) (hx:Ext w w'):MatX X w' A m:=by
 obtain ⟨vs,h1,h2,h3⟩:=h
 refine ⟨vs,h1,h2.ext hx,fun i r hr=>?_⟩
 obtain ⟨B,c,a1,a2,a3⟩:=h3 i r hr
 exact ⟨B,c,a1,⟨a2.1.ext hx,a2.2⟩,a3⟩
theorem MatX.grow {X:Nat->Prop} {w w':World} {base:Nat} {e:TypeId} {A:Option Addr} {m:List (List Int)} (h:MatX X w A m) (hg:Grow base e w w') (h0:94≠e) (h1:149≠e) (h2:271≠e):MatX X w' A m:=by
 obtain ⟨vs,a1,a2,a3⟩:=h
 refine ⟨vs,a1,a2.grow hg h0,fun i r hr=>?_⟩
 obtain ⟨B,c,b1,b2,b3⟩:=a3 i r hr
 exact ⟨B,c,b1,⟨b2.1.grow hg h1 h2,b2.2⟩,b3⟩
theorem MatX.setBox {L:Nat} {w:World} {A:Option Addr} {m:List (List Int)} (h:MatX (·≠L) w A m) {cs:Array Value} {fr:Nat×Nat} (hL:w.heap[L]? =some (.cells cs 149 fr)) (i:Nat) (u:Value):MatX (·≠L) (w.setCell ⟨L,i,none⟩ u) A m:=by
 obtain ⟨vs,a1,a2,a3⟩:=h
 refine ⟨vs,a1,a2.setCell (p:=⟨L,i,none⟩) hL (by decide) u,fun k r hr=>?_⟩
 obtain ⟨B,c,b1,b2,b3⟩:=a3 k r hr
 refine ⟨B,c,b1,⟨?_,b2.2⟩,b3⟩
 obtain ⟨ws,c1,c2,c3⟩:=b2.1
 refine ⟨ws,c1,fun h0=>?_,fun j z hz=>?_⟩
 ·have hpos:0<r.length:=by omega
  obtain ⟨b,o,hB,hne⟩:=b2.2 hpos
  obtain ⟨b',o',cs',fr',hB',hh,hc⟩:=c2 h0
  rw [hB] at hB'
  injection hB' with hB'
  injection hB' with e1 e2
  subst e1 e2
  exact ⟨b,o,cs',fr',hB,(Below.heap_setCell w ⟨L,i,none⟩ u b hne).trans hh,hc⟩
 ·obtain ⟨g,B',n,c',d1,d2,d3⟩:=c3 j z hz
  exact ⟨g,B',n,c',d1,d2,d3.setCell (p:=⟨L,i,none⟩) hL (by decide) u⟩
def RetMatX (w:World) (m:List (List Int)) (e:Ending) (w':World):Prop:=∃A c,e= .returned (.slice A m.length c)/\MatX (w.heap.size<=·) w' A m/\m.length<=c/\c<=9223372036854775807/\Step w w'
set_option maxRecDepth 10000 in
theorem table_any {w:World} (f:FuncId) (caps:Array Value) (rows cols:Nat) (h1:rows<=1000) (h2:cols<=1000) (hc:1<=cols) (hf:IsFn f) (F:Nat->Nat->Int)
  (H:∀(i j:Nat) (W:World),i<rows->j<cols->Ext w W->Calls Tryz.prog f (#[.int .i64 i,.int .i64 j]++caps) W (RetInt W (F i j))):
  Calls Tryz.prog 240 #[.int .i64 rows,.int .i64 cols,.func (.func f) #[] caps] w (RetMatX w (tab F rows cols)):=by
 have hp1:rows*cols<=1000000:=Nat.mul_le_mul h1 h2
 obtain ⟨N,hN⟩:∃N,N=rows*cols:=⟨_,rfl⟩
 have hp2:(rows:Int)*(cols:Int)=(N:Int):=by rw [hN];simp
 rw [<-hN] at hp1
 have hmk:=run_make_any (P:=Tryz.prog) Tryz.underlying94 infoInt (by omega) (N:Int) (by omega) (by omega)
 have hmk2:=run_make_any (P:=Tryz.prog) Tryz.underlying79 infoSlInt (by omega) (rows:Int) (by omega) (by omega)
 have HH:=Lib.hid H
 have HF:=Lib.hid hf
 have HN:=Lib.hid hN
 clear H hf hN
 obtain ⟨L,hL⟩:∃L:Nat->Int,L=fun t=>F (t / cols) (t%cols):=⟨_,rfl⟩
 have HL:=Lib.hid hL
 clear hL
 go_enter Tryz.func240,Tryz.ntmps240
 go_wp2
 go_loopw [9,10,19] (fun _ _ i wr=>∃k:Nat,k<=rows/\i= .int .i64 k/\Cells2 wr w.heap.size L N (k*cols)/\HeadsT wr (w.heap.size+1) w.heap.size rows cols k/\Ext w wr) (fun _ _ i _=>rows-(intOf i).toNat)
 case atStart=>
  refine ⟨0,by omega,rfl,?_,?_,inferInstance⟩
  ·have :=(Cells2.made w L N).ext (inferInstance:Ext _ ((w.alloc (.cells (mkCells #[.bool false,.slice none 0 0] (N*2)) 149)).alloc (.cells (mkCells #[.slice none 0 0] (rows*1)) 94)))
   simpa [Value.cells] using this
  ·have :=HeadsT.made (w.alloc (.cells (mkCells #[.bool false,.slice none 0 0] (N*2)) 149)) w.heap.size rows cols
   simpa [Value.cells] using this
 case round=>
  obtain ⟨k,hk,rfl,hC,hH,hxr⟩:=hrel
  by_cases hlt':k<rows
  ·obtain ⟨m,hm⟩:∃m,m=k*cols:=⟨_,rfl⟩
   have hm1:(k:Int)*(cols:Int)=(m:Int):=by rw [hm];simp
   have hm2:((k:Int)+1)*(cols:Int)=(m:Int)+(cols:Int):=by rw [Int.add_mul,hm1];omega
   have hm3:m+cols<=N:=by rw [hm,HN.out,<-Nat.succ_mul];exact Nat.mul_le_mul_right _ hlt'
   have HM:=Lib.hid hm
   rw [<-hm] at hC
   clear hm
   obtain ⟨hc1,hc2,hsz⟩:=hH.cell hlt'
   have hH':=hH.put hlt'
   rw [<-HM.out] at hH'
   have hC':Cells2 (wr.setCell ⟨w.heap.size+1,k,none⟩ (.slice (some ⟨w.heap.size,m*2,none⟩) cols cols)) w.heap.size L N m:=by
    obtain ⟨cs,hcs⟩:=hH.heap
    exact hC.far (p:=⟨w.heap.size+1,k,none⟩) hcs (by decide) (by decide) _
   have hx':Ext w (wr.setCell ⟨w.heap.size+1,k,none⟩ (.slice (some ⟨w.heap.size,m*2,none⟩) cols cols)):=inferInstance
   go_wp2
   simp only [Nat.add_sub_cancel_left]
   go_loopw [10,43] (fun _ j wr=>∃q:Nat,q<=cols/\j= .int .i64 q/\Cells2 wr w.heap.size L N (m+q)/\HeadsT wr (w.heap.size+1) w.heap.size rows cols (k+1)/\Ext w wr) (fun _ j _=>cols-(intOf j).toNat)
   case atStart=>exact ⟨0,by omega,rfl,hC',hH',hx'⟩
   case round=>
    clear hC hH hxr hC' hH' hx' hc1 hc2 hsz
    obtain ⟨q,hq,rfl,hC,hH,hxr⟩:=hrel
    by_cases hlt:q<cols
    ·have hrow:=hH.row
     rw [<-HM.out] at hrow
     obtain ⟨c1,c2,c3,c4,c5⟩:=hC.cells (show m+q<N by omega)
     rw [Nat.add_mul] at c1 c2 c3 c4
     have hFq:=Lib.hid (show L (m+q)=F k q by rw [HL.out,HM.out];exact lin_div F k q cols hlt)
     have hcf:=HF.out
     unfold IsFn at hcf
     go_wp2
     go_region_held3 (fun w'=>w'.cell? ⟨w.heap.size+1,k,none⟩=some (.slice (some ⟨w.heap.size,m*2,none⟩) cols cols))
      (first
       |exact (hH.ext inferInstance).rowM HM.out
       |exact (((hH.ext inferInstance).far (p:=⟨w.heap.size,m*2+q*2,none⟩) (show w.heap.size+1≠w.heap.size by omega) _).far (p:=⟨w.heap.size,m*2+q*2+1,none⟩) (show w.heap.size+1≠w.heap.size by omega) _).rowM HM.out)
      (first
       |(refine (HH.out _ _ _ hlt' hlt inferInstance).mono ?_;rintro e w2 ⟨g,B,k',d,rfl,hz,hs2⟩;obtain ⟨d1,d2,d3,d4,d5⟩:=(hC.ext (inferInstance:Ext wr w2)).cells (show m+q<N by omega);rw [Nat.add_mul] at d1 d2 d3 d4))
     go_wp2
     refine ⟨⟨q+1,by omega,by go_num,?_,?_,inferInstance⟩,by simp [intOf]<;>omega⟩
     ·have h9:=(hC.ext (inferInstance:Ext wr w2)).put (show m+q<N by omega) (by rw [hFq.out];exact hz)
      rw [Nat.add_mul] at h9
      exact h9
     ·exact ((hH.ext (inferInstance:Ext wr w2)).far (p:=⟨w.heap.size,m*2+q*2,none⟩) (show w.heap.size+1≠w.heap.size by omega) _).far (p:=⟨w.heap.size,m*2+q*2+1,none⟩) (show w.heap.size+1≠w.heap.size by omega) _
    ·obtain rfl:q=cols:=by omega
     rw [HM.out,<-Nat.succ_mul] at hC
     go_wp2
     exact ⟨⟨k+1,by omega,by go_num,hC,hH,hxr⟩,by simp [intOf]<;>omega⟩
  ·obtain rfl:k=rows:=by omega
   rw [<-HN.out] at hC
   have HHd:=Lib.hid hH
   clear hH
   go_wp2
   go_ret
   obtain ⟨hd,v1,v2,v3,v4⟩:=HHd.out
   refine ⟨_,k,by rw [tab_length];rfl,⟨hd,by rw [v2,tab_length],v1.arr,fun i r hr=>?_⟩,by rw [tab_length];omega,by omega,hxr.toStep⟩
   have hi:i<k:=by
    rcases Nat.lt_or_ge i k with hi |hi
    ·exact hi
    ·rw [List.getElem?_eq_none (by rw [tab_length];exact hi)] at hr;cases hr
   rw [tab_get _ _ _ _ hi] at hr
   injection hr with hr
   subst hr
   have hle:i*cols+cols<=N:=by rw [HN.out,<-Nat.succ_mul];exact Nat.mul_le_mul_right _ hi
   have hp:=hC.part (i*cols) cols hle
   have he:((List.range cols).map fun j=>L (i*cols+j))=(List.range cols).map fun j=>F i j:=by
    apply List.map_congr_left
    intro j hj
    rw [HL.out]
    exact lin_div F i j cols (List.mem_range.1 hj)
   rw [he] at hp
   exact ⟨_,cols,by simpa using v3 i hi,⟨hp,fun _=>⟨_,_,rfl,Nat.le_refl _⟩⟩,by simp,by omega⟩
theorem IntV.len2 {w:World} {neg:Bool} {A:Option Addr} {n c:Nat} {z:Int} (h:IntV w neg A n c z) (hz:z.natAbs<18446744073709551616):n<=2:=h.len (k:=2) (by omega)
theorem Normalize_any {w0 w:World} {na:Bool} {A:Option Addr} {n c:Nat} {x:Int} (ha:IntV w0 na A n c x) (h1:n<=1099511627776) [hx:Ext w0 w]:
  Calls Tryz.prog 242 #[.agg #[.bool na,.slice A n c]] w (RetInt w x):=by
 have HE:=Lib.hid (show sgn na (x.natAbs:Int)=x by rw [ha.neg_eq];unfold sgn;split<;>simp_all<;>omega)
 go_enter Tryz.func242,Tryz.ntmps242
 go_wp2
 go_region_held3 (fun w'=>w'.cell? ⟨w.heap.size,0,none⟩=some (.bool na)/\w'.cell? ⟨w.heap.size,1,none⟩=some (.slice A n c)) (exact box1 w _ _ _ 149)
  (first
   |(go_at_call 223;refine (trimV_any ha).mono ?_;rintro e w' ⟨rfl,rfl⟩)
   |(go_at_call 274;refine (cloneN_any ha.nat h1).mono ?_;intro e w3 hr;obtain ⟨B3,n3,d3,rfl,hn3,hs3⟩:=NatV.of_ret hr;clear hr)
   |(go_at_call 255;refine (buildN_any na hn3).mono ?_;rintro e w2 ⟨g,B2,k2,d2,rfl,hz,hs2⟩;obtain ⟨q0,q1,q2,q3,q4,q5⟩:=box2_1 w w2 (.cells #[.bool na,.slice A n c] 149) (.bool false) (.slice none 0 0) 149))
 have Q0:=Lib.hid q0
 clear q0
 go_wp2
 exact bodyPost_ret (v:= .agg #[.bool g,.slice B2 k2 d2]) (by simp [results,Tryz.results242,go_sem,q1,q2]) rfl ⟨_,_,_,_,rfl,hz.boxedN HE.out (by decide) Q0.out _ _,Step.of _ _⟩
def ent (m:List (List Int)) (i j:Nat):Int:=(m.getD i []).getD j 0
theorem ent_of {m:List (List Int)} {i j:Nat} {r:List Int} {x:Int} (hr:m[i]? =some r) (hx:r[j]? =some x):ent m i j=x:=by
 simp [ent,List.getD,hr,hx]
theorem MatV.ent_ {w:World} {A:Option Addr} {m:List (List Int)} (h:MatV w A m) {n i j:Nat} (hn:AllLen m n) (hi:i<m.length) (hj:j<n):
  ∃b o b1 o1 c g B k d,A=some ⟨b,o,none⟩/\w.cell? ⟨b,o+i,none⟩=some (.slice (some ⟨b1,o1,none⟩) n c)/\w.cell? ⟨b1,o1+j*2,none⟩=some (.bool g)/\w.cell? ⟨b1,o1+j*2+1,none⟩=some (.slice B k d)/\IntV w g B k d (ent m i j)/\n<=c/\c<=9223372036854775807/\b<w.heap.size/\b1<w.heap.size:=by
 have hr:m[i]? =some m[i]:=by simp
 have hl:m[i].length=n:=hn _ (List.getElem_mem hi)
 obtain ⟨b,o,B0,c,hA,hc,hI,h1,h2,hb⟩:=h.at_ hr
 obtain ⟨b1,o1,g,B,k,d,rfl,c1,c2,hV,hb1⟩:=hI.at_ (i:=j) (by omega)
 have he:ent m i j=m[i][j]'(by omega):=ent_of hr (by simp)
 rw [he]
 rw [hl] at hc h1
 exact ⟨b,o,b1,o1,c,g,B,k,d,hA,hc,c1,c2,hV,h1,h2,hb,hb1⟩
theorem Stages1_any {w0 w:World} {A:Option Addr} {c:Nat} {m:List (List Int)} {pb n:Nat} (h:MatV w0 A m) (hn:AllLen m n) (i j:Nat) (hi:i<m.length) (hj:j<n) (hlen:(ent m i j).natAbs<18446744073709551616)
  (hp:w.cell? ⟨pb,0,none⟩=some (.slice A m.length c)) (hpb:pb<w.heap.size) [hx:Ext w0 w]:
  Calls Tryz.prog 241 #[.int .i64 i,.int .i64 j,.pointer (some ⟨pb,0,none⟩)] w (RetInt w (ent m i j)):=by
 obtain ⟨b,o,b1,o1,c1,g,B,k,d,rfl,e1,e2,e3,hV,e4,e5,e6,e7⟩:=(h.ext hx).ent_ hn hi hj
 have hk:=hV.len2 hlen
 go_enter Tryz.func241,Tryz.ntmps241
 go_wp2_with fail
 refine (Normalize_any hV (by omega)).mono ?_
 rintro e w2 ⟨g2,B2,k2,d2,rfl,hz,hs2⟩
 obtain ⟨q0,q1,q2,q3,q4,q5⟩:=box2 w w2 (.bool false) (.slice none 0 0) 149
 have Q0:=Lib.hid q0
 clear q0
 go_wp2
 exact bodyPost_ret (v:= .agg #[.bool g2,.slice B2 k2 d2]) (by simp [results,Tryz.results241,go_sem,q1,q2]) rfl ⟨_,_,_,_,rfl,hz.boxed (by decide) Q0.out _ _,Step.of _ _⟩
theorem square_ok {w0 w:World} {A:Option Addr} {c:Nat} {m:List (List Int)} (h:MatV w0 A m) (h1:1<=m.length) (h2:m.length<=16) (hn:AllLen m m.length) [hx:Ext w0 w]:
  Calls Tryz.prog 239 #[.slice A m.length c] w (RetSame w (.tuple #[.int .i64 m.length,.bool true])):=by
 go_enter Tryz.func239,Tryz.ntmps239
 go_wp2_with (go_at_call 273;refine (Shape_ok h m.length h1 h2 h1 h2 hn).mono ?_;rintro e w' ⟨rfl,rfl⟩)
 go_ret2
 exact ⟨rfl,rfl⟩
theorem boxes5 (w w':World) (x0 y0 x1 y1 x2 y2 x3 y3 x4 y4 x5 y5:Value) (T:TypeId) [h:Ext ((((((w.alloc (.cells #[x0,y0] T)).alloc (.cells #[x1,y1] T)).alloc (.cells #[x2,y2] T)).alloc (.cells #[x3,y3] T)).alloc (.cells #[x4,y4] T)).alloc (.cells #[x5,y5] T)) w']:
  w'.cell? ⟨w.heap.size,0,none⟩=some x0/\w'.cell? ⟨w.heap.size,1,none⟩=some y0/\w'.cell? ⟨w.heap.size+1,0,none⟩=some x1/\w'.cell? ⟨w.heap.size+1,1,none⟩=some y1/\
  w'.cell? ⟨w.heap.size+1+1,0,none⟩=some x2/\w'.cell? ⟨w.heap.size+1+1,1,none⟩=some y2/\w'.cell? ⟨w.heap.size+1+1+1,0,none⟩=some x3/\w'.cell? ⟨w.heap.size+1+1+1,1,none⟩=some y3/\
  w'.cell? ⟨w.heap.size+1+1+1+1,0,none⟩=some x4/\w'.cell? ⟨w.heap.size+1+1+1+1,1,none⟩=some y4:=by
 have e1:Ext (w.alloc (.cells #[x0,y0] T)) w':=Ext.trans inferInstance h
 have e2:Ext ((w.alloc (.cells #[x0,y0] T)).alloc (.cells #[x1,y1] T)) w':=Ext.trans inferInstance h
 have e3:Ext (((w.alloc (.cells #[x0,y0] T)).alloc (.cells #[x1,y1] T)).alloc (.cells #[x2,y2] T)) w':=Ext.trans inferInstance h
 have e4:Ext ((((w.alloc (.cells #[x0,y0] T)).alloc (.cells #[x1,y1] T)).alloc (.cells #[x2,y2] T)).alloc (.cells #[x3,y3] T)) w':=Ext.trans inferInstance h
 have e5:Ext (((((w.alloc (.cells #[x0,y0] T)).alloc (.cells #[x1,y1] T)).alloc (.cells #[x2,y2] T)).alloc (.cells #[x3,y3] T)).alloc (.cells #[x4,y4] T)) w':=Ext.trans inferInstance h
 obtain ⟨_,a1,a2,_⟩:=box2 w w' x0 y0 T
 obtain ⟨_,b1,b2,_⟩:=box2At (w.alloc (.cells #[x0,y0] T)) w' (w.heap.size+1) x1 y1 T (by simp)
 obtain ⟨_,c1,c2,_⟩:=box2At ((w.alloc (.cells #[x0,y0] T)).alloc (.cells #[x1,y1] T)) w' (w.heap.size+1+1) x2 y2 T (by simp)
 obtain ⟨_,d1,d2,_⟩:=box2At (((w.alloc (.cells #[x0,y0] T)).alloc (.cells #[x1,y1] T)).alloc (.cells #[x2,y2] T)) w' (w.heap.size+1+1+1) x3 y3 T (by simp)
 obtain ⟨_,f1,f2,_⟩:=box2At ((((w.alloc (.cells #[x0,y0] T)).alloc (.cells #[x1,y1] T)).alloc (.cells #[x2,y2] T)).alloc (.cells #[x3,y3] T)) w' (w.heap.size+1+1+1+1) x4 y4 T (by simp)
 exact ⟨a1,a2,b1,b2,c1,c2,d1,d2,f1,f2⟩
set_option maxRecDepth 10000 in
theorem cross_small {wa wb wc wd we w:World} {na nb nc nd ne:Bool} {A B C D E:Option Addr} {ka kb kc kd ke ca cb cc cd ce:Nat} {a b c d v:Int}
  (ha:IntV wa na A ka ca a) (hb:IntV wb nb B kb cb b) (hc:IntV wc nc C kc cc c) (hd:IntV wd nd D kd cd d) (he:IntV we ne E ke ce v)
  (ba:a.natAbs<18446744073709551616) (bb:b.natAbs<18446744073709551616) (bc:c.natAbs<18446744073709551616) (bd:d.natAbs<18446744073709551616) (b1:(a*d).natAbs<18446744073709551616) (b2:(b*c).natAbs<18446744073709551616)
  (b3:(a*d-b*c).natAbs<18446744073709551616) (hv:v≠0) (bv:v.natAbs<18446744073709551616) [xa:Ext wa w] [xb:Ext wb w] [xc:Ext wc w] [xd:Ext wd w] [xe:Ext we w]:
  Calls Tryz.prog 245 #[.agg #[.bool na,.slice A ka ca],.agg #[.bool nb,.slice B kb cb],.agg #[.bool nc,.slice C kc cc],.agg #[.bool nd,.slice D kd cd],.agg #[.bool ne,.slice E ke ce]] w (RetInt w ((a*d-b*c) / v)):=by
 have la:=ha.len2 ba
 have lb:=hb.len2 bb
 have lc:=hc.len2 bc
 have ld:=hd.len2 bd
 go_enter Tryz.func245,Tryz.ntmps245
 go_upto_region 1 with fail
 have hst:Step w ((((((w.alloc (.cells #[.bool na,.slice A ka ca] 149)).alloc (.cells #[.bool nb,.slice B kb cb] 149)).alloc (.cells #[.bool nc,.slice C kc cc] 149)).alloc (.cells #[.bool nd,.slice D kd cd] 149)).alloc (.cells #[.bool ne,.slice E ke ce] 149)).alloc (.cells #[.bool false,.slice none 0 0] 149)):=Step.of _ _
 have hbx:=boxes5 w ((((((w.alloc (.cells #[.bool na,.slice A ka ca] 149)).alloc (.cells #[.bool nb,.slice B kb cb] 149)).alloc (.cells #[.bool nc,.slice C kc cc] 149)).alloc (.cells #[.bool nd,.slice D kd cd] 149)).alloc (.cells #[.bool ne,.slice E ke ce] 149)).alloc (.cells #[.bool false,.slice none 0 0] 149)) (.bool na) (.slice A ka ca) (.bool nb) (.slice B kb cb) (.bool nc) (.slice C kc cc) (.bool nd) (.slice D kd cd) (.bool ne) (.slice E ke ce) (.bool false) (.slice none 0 0) 149
 have hrb:=box2At (((((w.alloc (.cells #[.bool na,.slice A ka ca] 149)).alloc (.cells #[.bool nb,.slice B kb cb] 149)).alloc (.cells #[.bool nc,.slice C kc cc] 149)).alloc (.cells #[.bool nd,.slice D kd cd] 149)).alloc (.cells #[.bool ne,.slice E ke ce] 149)) ((((((w.alloc (.cells #[.bool na,.slice A ka ca] 149)).alloc (.cells #[.bool nb,.slice B kb cb] 149)).alloc (.cells #[.bool nc,.slice C kc cc] 149)).alloc (.cells #[.bool nd,.slice D kd cd] 149)).alloc (.cells #[.bool ne,.slice E ke ce] 149)).alloc (.cells #[.bool false,.slice none 0 0] 149)) (w.heap.size+1+1+1+1+1) (.bool false) (.slice none 0 0) 149 (by simp)
 generalize ((((((w.alloc (.cells #[.bool na,.slice A ka ca] 149)).alloc (.cells #[.bool nb,.slice B kb cb] 149)).alloc (.cells #[.bool nc,.slice C kc cc] 149)).alloc (.cells #[.bool nd,.slice D kd cd] 149)).alloc (.cells #[.bool ne,.slice E ke ce] 149)).alloc (.cells #[.bool false,.slice none 0 0] 149))=W at hst hbx hrb |-
 obtain ⟨q0,q1,q2,q3,q4,q5⟩:=hrb
 have o0:Old w.heap.size W:=⟨by omega⟩
 have o1:Old (w.heap.size+1) W:=⟨by omega⟩
 have o2:Old (w.heap.size+1+1) W:=⟨by omega⟩
 have o3:Old (w.heap.size+1+1+1) W:=⟨by omega⟩
 have o4:Old (w.heap.size+1+1+1+1) W:=⟨by omega⟩
 have o5:Old (w.heap.size+1+1+1+1+1) W:=⟨by omega⟩
 have HB:=Lib.hid hbx
 have Q0:=Lib.hid q0
 have Q1:=Lib.hid q1
 have Q2:=Lib.hid q2
 have Q3:=Lib.hid q3
 have Q4:=Lib.hid q4
 clear hbx q0 q1 q2 q3 q4 q5
 go_cut [11] (fun s11 wx=>∃(p:Nat) (g:Bool) (B':Option Addr) (k' d':Nat),s11= .pointer (some ⟨p,0,none⟩)/\wx.cell? ⟨p,0,none⟩=some (.bool g)/\wx.cell? ⟨p,1,none⟩=some (.slice B' k' d')/\IntV wx g B' k' d' ((a*d-b*c) / v)/\Ext W wx)
 case first=>
  go_region_held3 (fun w'=>w'.cell? ⟨w.heap.size,0,none⟩=some (.bool na)/\w'.cell? ⟨w.heap.size,1,none⟩=some (.slice A ka ca)/\w'.cell? ⟨w.heap.size+1,0,none⟩=some (.bool nb)/\w'.cell? ⟨w.heap.size+1,1,none⟩=some (.slice B kb cb)/\w'.cell? ⟨w.heap.size+1+1,0,none⟩=some (.bool nc)/\w'.cell? ⟨w.heap.size+1+1,1,none⟩=some (.slice C kc cc)/\w'.cell? ⟨w.heap.size+1+1+1,0,none⟩=some (.bool nd)/\w'.cell? ⟨w.heap.size+1+1+1,1,none⟩=some (.slice D kd cd)/\w'.cell? ⟨w.heap.size+1+1+1+1,0,none⟩=some (.bool ne)/\w'.cell? ⟨w.heap.size+1+1+1+1,1,none⟩=some (.slice E ke ce))
   ((simp only [cellE W];exact HB.out))
   (first
    |(go_at_call_of 258 (Value.slice A ka ca);refine (Mul_any ha hd (by omega) (by omega)).mono ?_;rintro e w1 ⟨g1,B1,k1,d1,rfl,hz1,hs1⟩)
    |(go_at_call_of 258 (Value.slice B kb cb);refine (Mul_any hb hc (by omega) (by omega)).mono ?_;rintro e w2 ⟨g2,B2,k2,d2,rfl,hz2,hs2⟩)
    |(go_at_call 257;refine (Sub_any hz1 hz2 (by have :=hz1.len2 b1;omega) (by have :=hz2.len2 b2;omega)).mono ?_;rintro e w3 ⟨g3,B3,k3,d3,rfl,hz3,hs3⟩)
    |(go_at_call 259;refine (DivMod_small hz3 he b3 hv bv).mono ?_;rintro e w4 ⟨g4,B4,k4,d4,g5,B5,k5,d5,rfl,hz4,hz5,hs4⟩))
  all_goals (go_wp2_with fail;go_meet;exact ⟨_,g4,B4,k4,d4,rfl,by go_simp,by go_simp,hz4.keeps,inferInstance⟩)
 case rest=>
  obtain ⟨p,g,B',k',d',rfl,hp1,hp2,hz,hxx⟩:=hcut
  have r0:=heap_of_ext hxx Q0.out
  have r1:wc.cell? ⟨w.heap.size+1+1+1+1+1,0,none⟩=some (.bool false):=(cellE W).trans Q1.out
  have r2:wc.cell? ⟨w.heap.size+1+1+1+1+1,1,none⟩=some (.slice none 0 0):=(cellE W).trans Q2.out
  have r3:wc.frozen? ⟨w.heap.size+1+1+1+1+1,0,none⟩=false:=(frozenE W).trans Q3.out
  have r4:wc.frozen? ⟨w.heap.size+1+1+1+1+1,1,none⟩=false:=(frozenE W).trans Q4.out
  have R0:=Lib.hid r0
  clear r0
  go_wp2
  exact bodyPost_ret (v:= .agg #[.bool g,.slice B' k' d']) (by simp [results,Tryz.results245,go_sem,r1,r2]) rfl ⟨_,_,_,_,rfl,hz.boxed (by decide) R0.out _ _,(((hst.ext.trans hxx).setCell (p:=⟨w.heap.size+1+1+1+1+1,0,none⟩) (show w.heap.size<=w.heap.size+1+1+1+1+1 by omega) _).setCell (p:=⟨w.heap.size+1+1+1+1+1,1,none⟩) (show w.heap.size<=w.heap.size+1+1+1+1+1 by omega) _).toStep⟩
def CrossOK (last:Int) (b:List (List Int)) (i j:Nat):Prop:=
 (ent b 0 0).natAbs<18446744073709551616/\(ent b (i+1) 0).natAbs<18446744073709551616/\(ent b 0 (j+1)).natAbs<18446744073709551616/\(ent b (i+1) (j+1)).natAbs<18446744073709551616/\
 (ent b 0 0*ent b (i+1) (j+1)).natAbs<18446744073709551616/\(ent b (i+1) 0*ent b 0 (j+1)).natAbs<18446744073709551616/\
 (ent b 0 0*ent b (i+1) (j+1)-ent b (i+1) 0*ent b 0 (j+1)).natAbs<18446744073709551616/\last≠0/\last.natAbs<18446744073709551616
set_option maxRecDepth 10000 in
theorem Stages2_any {w0 w:World} {A:Option Addr} {c:Nat} {m:List (List Int)} {pb lb n:Nat} {gl:Bool} {Bl:Option Addr} {kl dl:Nat} {last:Int} (h:MatV w0 A m) (hl:IntV w0 gl Bl kl dl last) (hn:AllLen m n) (hm:m.length=n) (hn16:n<=16) (i j:Nat) (hi:i+1<n) (hj:j+1<n) (hok:CrossOK last m i j)
  (hp:w.cell? ⟨pb,0,none⟩=some (.slice A m.length c)) (hpb:pb<w.heap.size) (hl1:w.cell? ⟨lb,0,none⟩=some (.bool gl)) (hl2:w.cell? ⟨lb,1,none⟩=some (.slice Bl kl dl)) (hlb:lb<w.heap.size) [hx:Ext w0 w]:
  Calls Tryz.prog 244 #[.int .i64 i,.int .i64 j,.pointer (some ⟨pb,0,none⟩),.pointer (some ⟨lb,0,none⟩)] w (RetInt w ((ent m 0 0*ent m (i+1) (j+1)-ent m (i+1) 0*ent m 0 (j+1)) / last)):=by
 have h0:=h.ext hx
 obtain ⟨b,o,b1,o1,c1,g1,B1,k1,d1,rfl,e1,e2,e3,hV1,f1,f2,f3,f4⟩:=h0.ent_ (i:=0) (j:=0) hn (by omega) (by omega)
 obtain ⟨b',o',b2,o2,c2,g2,B2,k2,d2,hA,e4,e5,e6,hV2,f5,f6,f7,f8⟩:=h0.ent_ (i:=i+1) (j:=0) hn (by omega) (by omega)
 injection hA with hA
 injection hA with x1 x2
 subst x1 x2
 obtain ⟨b',o',b3,o3,c3,g3,B3,k3,d3,hA,e7,e8,e9,hV3,f9,f10,f11,f12⟩:=h0.ent_ (i:=0) (j:=j+1) hn (by omega) (by omega)
 injection hA with hA
 injection hA with x1 x2
 subst x1 x2
 rw [e1] at e7
 injection e7 with e7
 injection e7 with x1 x2 x3
 injection x1 with x1
 injection x1 with x1 x4
 subst x1 x4 x3
 obtain ⟨b',o',b4,o4,c4,g4,B4,k4,d4,hA,e10,e11,e12,hV4,f13,f14,f15,f16⟩:=h0.ent_ (i:=i+1) (j:=j+1) hn (by omega) (by omega)
 injection hA with hA
 injection hA with x1 x2
 subst x1 x2
 rw [e4] at e10
 injection e10 with e10
 injection e10 with x1 x2 x3
 injection x1 with x1
 injection x1 with x1 x4
 subst x1 x4 x3
 simp only [Nat.add_zero,Nat.zero_mul] at e1 e2 e3 e5 e6
 have w1:IntKind.i64.wrap ((i:Int)+1)=(i:Int)+1:=by rw [IntKind.wrap_i64];omega
 have w2:IntKind.i64.wrap ((j:Int)+1)=(j:Int)+1:=by rw [IntKind.wrap_i64];omega
 have w3:((i:Int)+1).toNat=i+1:=by omega
 have w4:((j:Int)+1).toNat=j+1:=by omega
 have w5:(0:Int)<=(i:Int)+1:=by omega
 have w6:(0:Int)<=(j:Int)+1:=by omega
 have w7:(i:Int)+1<(n:Int):=by omega
 have w8:(j:Int)+1<(n:Int):=by omega
 have w9:(0:Int)<(n:Int):=by omega
 have w10:0<n:=by omega
 have oa:Old b w:=⟨f3⟩
 have ob:Old b1 w:=⟨f4⟩
 have oc:Old b2 w:=⟨f8⟩
 have od:Old pb w:=⟨hpb⟩
 have oe:Old lb w:=⟨hlb⟩
 obtain ⟨k01,k02,k03,k04,k05,k06,k07,k08,k09⟩:=hok
 rw [hm] at hp
 have HS:=Lib.hid (show w.cell? ⟨pb,0,none⟩=some (.slice (some ⟨b,o,none⟩) n c)/\w.cell? ⟨b,o,none⟩=some (.slice (some ⟨b1,o1,none⟩) n c1)/\w.cell? ⟨b,o+(i+1),none⟩=some (.slice (some ⟨b2,o2,none⟩) n c2)/\w.cell? ⟨b1,o1,none⟩=some (.bool g1)/\w.cell? ⟨b1,o1+1,none⟩=some (.slice B1 k1 d1)/\w.cell? ⟨b2,o2,none⟩=some (.bool g2)/\w.cell? ⟨b2,o2+1,none⟩=some (.slice B2 k2 d2)/\w.cell? ⟨b1,o1+(j+1)*2,none⟩=some (.bool g3)/\w.cell? ⟨b1,o1+(j+1)*2+1,none⟩=some (.slice B3 k3 d3)/\w.cell? ⟨b2,o2+(j+1)*2,none⟩=some (.bool g4)/\w.cell? ⟨b2,o2+(j+1)*2+1,none⟩=some (.slice B4 k4 d4)/\w.cell? ⟨lb,0,none⟩=some (.bool gl)/\w.cell? ⟨lb,1,none⟩=some (.slice Bl kl dl) from ⟨hp,e1,e4,e2,e3,e5,e6,e8,e9,e11,e12,hl1,hl2⟩)
 clear hp e1 e4 e2 e3 e5 e6 e8 e9 e11 e12 hl1 hl2 h0
 have HN:=Lib.hid hn
 have HM:=Lib.hid hm
 clear hn hm
 go_enter Tryz.func244,Tryz.ntmps244
 go_wp2
 go_region_held3 (fun w'=>w'.cell? ⟨pb,0,none⟩=some (.slice (some ⟨b,o,none⟩) n c)/\w'.cell? ⟨b,o,none⟩=some (.slice (some ⟨b1,o1,none⟩) n c1)/\w'.cell? ⟨b,o+(i+1),none⟩=some (.slice (some ⟨b2,o2,none⟩) n c2)/\w'.cell? ⟨b1,o1,none⟩=some (.bool g1)/\w'.cell? ⟨b1,o1+1,none⟩=some (.slice B1 k1 d1)/\w'.cell? ⟨b2,o2,none⟩=some (.bool g2)/\w'.cell? ⟨b2,o2+1,none⟩=some (.slice B2 k2 d2)/\w'.cell? ⟨b1,o1+(j+1)*2,none⟩=some (.bool g3)/\w'.cell? ⟨b1,o1+(j+1)*2+1,none⟩=some (.slice B3 k3 d3)/\w'.cell? ⟨b2,o2+(j+1)*2,none⟩=some (.bool g4)/\w'.cell? ⟨b2,o2+(j+1)*2+1,none⟩=some (.slice B4 k4 d4)/\w'.cell? ⟨lb,0,none⟩=some (.bool gl)/\w'.cell? ⟨lb,1,none⟩=some (.slice Bl kl dl))
  ((simp only [cellE w];exact HS.out))
  (first
   |(go_at_call 245;refine (cross_small hV1 hV2 hV3 hV4 hl k01 k02 k03 k04 k05 k06 k07 k08 k09).mono ?_;rintro e wz ⟨gz,Bz,kz,dz,rfl,hz,hsz⟩))
 go_wp2
 exact bodyPost_ret (v:= .agg #[.bool gz,.slice Bz kz dz]) (by simp [results,Tryz.results244,go_sem]) rfl ⟨_,_,_,_,rfl,hz.keeps,Step.of _ _⟩
def nextSt (last:Int) (b:List (List Int)):List (List Int):=tab (fun i j=>(ent b 0 0*ent b (i+1) (j+1)-ent b (i+1) 0*ent b 0 (j+1)) / last) (b.length-1) (b.length-1)
def stAt (m:List (List Int)):Nat->Int×List (List Int)
 |0=>(1,m)
 |k+1=>(ent (stAt m k).2 0 0,nextSt (stAt m k).1 (stAt m k).2)
theorem tab_allLen (F:Nat->Nat->Int) (r c:Nat):AllLen (tab F r c) c:=by
 intro x hx
 simp only [tab,List.mem_map] at hx
 obtain ⟨i,_,rfl⟩:=hx
 simp
theorem stAt_length (m:List (List Int)):∀k,(stAt m k).2.length=m.length-k
 |0=>rfl
 |k+1=>by simp only [stAt,nextSt];rw [tab_length,stAt_length m k];omega
theorem stAt_allLen (m:List (List Int)) (hn:AllLen m m.length):∀k,AllLen (stAt m k).2 (m.length-k)
 |0=>hn
 |k+1=>by
  have h:=tab_allLen (fun i j=>(ent (stAt m k).2 0 0*ent (stAt m k).2 (i+1) (j+1)-ent (stAt m k).2 (i+1) 0*ent (stAt m k).2 0 (j+1)) / (stAt m k).1) ((stAt m k).2.length-1) ((stAt m k).2.length-1)
  rw [stAt_length] at h
  simp only [stAt,nextSt]
  rw [stAt_length,show m.length-(k+1)=m.length-k-1 by omega]
  exact h
structure ElimOK (m:List (List Int)):Prop where
 small:∀i j,i<m.length->j<m.length->(ent m i j).natAbs<18446744073709551616
 pivot:∀k,k+1<m.length->ent (stAt m k).2 0 0≠0
 cross:∀k i j,i+1<m.length-k->j+1<m.length-k->CrossOK (stAt m k).1 (stAt m k).2 i j
def stagesOf (m:List (List Int)):List (List (List Int)):=(List.range m.length).map fun k=>(stAt m k).2
def RetStB (w:World) (s:List (List (List Int))) (b:Bool) (e:Ending) (w':World):Prop:=∃A c,e= .returned (.tuple #[.slice A s.length c,.bool b])/\StV w' A s/\s.length<=c/\c<=9223372036854775807/\Step w w'
theorem isFn_Stages1:IsFn 241:=isFn_of Tryz.func241 (by kernel_rfl) (by kernel_rfl)
theorem isFn_Stages2:IsFn 244:=isFn_of Tryz.func244 (by kernel_rfl) (by kernel_rfl)
theorem tab_ent (m:List (List Int)) (n:Nat) (hn:AllLen m n):tab (ent m) m.length n=m:=tab_eq m n hn
def Sofar (w:World) (base L:Nat) (m:List (List Int)) (A:Option Addr) (k c:Nat):Prop:=
 ∃hd:List Value,Own w base 79 1 A k c hd/\∀i,i<k->∃B d,hd[i]? =some (.slice B (m.length-i) d)/\MatX (·≠L) w B (stAt m i).2/\m.length-i<=d/\d<=9223372036854775807
theorem Sofar.ext {w w':World} {base L:Nat} {m:List (List Int)} {A:Option Addr} {k c:Nat} (h:Sofar w base L m A k c) (hx:Ext w w'):Sofar w' base L m A k c:=by
 obtain ⟨hd,h1,h2⟩:=h
 refine ⟨hd,h1.ext hx,fun i hi=>?_⟩
 obtain ⟨B,d,a1,a2,a3⟩:=h2 i hi
 exact ⟨B,d,a1,a2.ext hx,a3⟩
theorem Grow.heap {w w':World} {base:Nat} {e e':TypeId} (h:Grow base e w w') {b:Nat} {cs:Array Value} {fr:Nat×Nat} (hb:w.heap[b]? =some (.cells cs e' fr)) (hne:e'≠e):w'.heap[b]? =some (.cells cs e' fr):=
 (h.typed b (lt_of_heap hb) fun cs' fr' hh=>by rw [hb] at hh;injection hh with hh;injection hh with _ he;exact hne he).trans hb
theorem Sofar.put {w W w':World} {base L:Nat} {m:List (List Int)} {A A' B:Option Addr} {k c c' d:Nat} {hd:List Value} (hown:Own w base 79 1 A k c hd)
  (hhd:∀i,i<k->∃B d,hd[i]? =some (.slice B (m.length-i) d)/\MatX (·≠L) w B (stAt m i).2/\m.length-i<=d/\d<=9223372036854775807)
  (hM:MatX (·≠L) w B (stAt m k).2) (hd1:m.length-k<=d) (hd2:d<=9223372036854775807) (hx:Ext w W) (hg:Grow base 79 W w') (hown':Own w' base 79 1 A' (k+1) c' (hd++[.slice B (m.length-k) d])):Sofar w' base L m A' (k+1) c':=by
 have hlen:hd.length=k:=by have :=hown.len;omega
 refine ⟨_,hown',fun i hi=>?_⟩
 rcases Nat.lt_or_ge i k with h |h
 ·obtain ⟨B',d',a1,a2,a3⟩:=hhd i h
  exact ⟨B',d',by rw [List.getElem?_append_left (by omega)];exact a1,(a2.ext hx).grow hg (by decide) (by decide) (by decide),a3⟩
 ·obtain rfl:i=k:=by omega
  exact ⟨B,d,by rw [List.getElem?_append_right (by omega),hlen];simp,(hM.ext hx).grow hg (by decide) (by decide) (by decide),hd1,hd2⟩
theorem Sofar.setBox {w:World} {base L:Nat} {m:List (List Int)} {A:Option Addr} {k c:Nat} (h:Sofar w base L m A k c) {cs:Array Value} {fr:Nat×Nat} (hL:w.heap[L]? =some (.cells cs 149 fr)) (i:Nat) (u:Value):Sofar (w.setCell ⟨L,i,none⟩ u) base L m A k c:=by
 obtain ⟨hd,⟨h1,h1'⟩,h2⟩:=h
 refine ⟨hd,⟨h1,?_⟩,fun i hi=>?_⟩
 ·rcases h1' with hv |⟨g,cap,cur,hv,a1,a2,a3⟩
  ·exact .inl hv
  ·refine .inr ⟨g,cap,cur,hv,a1,?_,a3⟩
   refine (Below.heap_setCell w ⟨L,i,none⟩ u g (fun hh=>?_)).trans a2
   have hh':g=L:=hh
   rw [hh'] at a2
   rw [hL] at a2
   injection a2 with a2
   injection a2 with _ he
   exact absurd he (by decide)
 ·obtain ⟨B,d,a1,a2,a3⟩:=h2 i hi
  exact ⟨B,d,a1,a2.setBox hL _ _,a3⟩
set_option maxRecDepth 10000 in
theorem Stages_ok {w0 w:World} {A:Option Addr} {c:Nat} {m:List (List Int)} (h:MatV w0 A m) (h1:1<=m.length) (h2:m.length<=16) (hn:AllLen m m.length) (hok:ElimOK m) [hx:Ext w0 w]:
  Calls Tryz.prog 199 #[.slice A m.length c] w (RetStB w (stagesOf m) true):=by
 have htab:=table_any (w:=w.alloc (.cells #[.slice A m.length c] 79)) 241 #[.pointer (some ⟨w.heap.size,0,none⟩)] m.length m.length (by omega) (by omega) h1 isFn_Stages1 (ent m)
  (fun i j W hi hj hW=>by
   obtain ⟨-,a1,a2,a3⟩:=box1At w W w.heap.size (.slice A m.length c) 79 rfl
   have :Ext w W:=Ext.trans inferInstance hW
   have :Ext w0 W:=hx.trans this
   exact Stages1_any h hn i j hi hj (hok.small i j hi hj) a1 a3)
 rw [tab_ent m _ hn] at htab
 have HT:=Lib.hid htab
 have HO:=Lib.hid hok
 have HN:=Lib.hid hn
 clear htab hok
 go_enter Tryz.func199,Tryz.ntmps199
 go_wp2_with fail
 go_step3
 go_wp2_with fail
 refine (square_ok h h1 h2 hn).mono ?_
 rintro e w' ⟨rfl,rfl⟩
 clear hn
 go_wp2_with fail
 refine HT.out.mono ?_
 rintro e w1 ⟨A1,c1,rfl,hm1,hc1,hc2,hs1⟩
 go_wp2_with fail
 refine (Small_any 1 (by omega) (by omega) _).mono ?_
 rintro e w2 ⟨g2,B2,k2,d2,rfl,hz2,hs2⟩
 have hmX:MatX (·≠w2.heap.size) (w2.alloc (.cells #[.bool g2,.slice B2 k2 d2] 149)) A1 (stAt m 0).2:=((hm1.mat.ext hs2.ext).old.mono (fun b hb=>by omega)).ext inferInstance
 go_wp2
 go_step3
 go_wp2
 go_loopw [6,8,9,10,24] (fun s6 s8 _ _ i wr=>∃(k:Nat) (A c:_) (Al:Option Addr) (cl:Nat) (gl:Bool) (Bl:Option Addr) (kl dl:Nat),k<m.length/\i= .int .i64 k/\s6= .slice A (m.length-k) c/\MatX (·≠w2.heap.size) wr A (stAt m k).2/\m.length-k<=c/\c<=9223372036854775807/\s8= .slice Al k cl/\Sofar wr w.heap.size w2.heap.size m Al k cl/\wr.heap[w2.heap.size]? =some (.cells #[.bool gl,.slice Bl kl dl] 149 (0,0))/\IntV wr gl Bl kl dl (stAt m k).1/\Ext w wr) (fun _ _ _ _ i _=>m.length-(intOf i).toNat)
 case atStart=>
  refine ⟨0,A1,c1,none,0,g2,B2,k2,d2,by omega,rfl,rfl,hmX,by omega,hc2,rfl,⟨[],Own.nil _ _ _ _,fun i hi=>absurd hi (by omega)⟩,heap_alloc_new w2 _,hz2.ext inferInstance,inferInstance⟩
 case round=>
  obtain ⟨k,A2,c2,Al,cl,gl,Bl,kl,dl,hk,rfl,rfl,hM,hcc1,hcc2,rfl,hS,hL,hI,hxr⟩:=hrel
  obtain ⟨wo,rfl⟩:∃wo:World,wo=wr:=⟨_,rfl⟩
  have HL:=Lib.hid hL
  clear hL
  obtain ⟨hd,hown,hhd⟩:=id hS
  have HH:=Lib.hid hhd
  clear hhd hS
  have hsrc:=Arr.new wo 79 #[.slice A2 (m.length-k) c2]
  by_cases hlast:k=m.length-1
  ·have HLast:=Lib.hid hlast
   have hlb:((k:Int)==(m.length:Int)-1)=true:=by simp;omega
   clear hlast
   go_wp2_with (at_builtin;refine wpList_app _ rfl _ _ 93 rfl w.heap.size 79 (.slice none 0 0) 1 24 Tryz.underlying93 infoSlSlInt rfl (by omega) (by omega) Al k cl hd rfl (hown.ext inferInstance) _ 1 1 [.slice A2 (m.length-k) c2] rfl hsrc (by simp) (by simp [Value.oneCell']) (by omega) (by have :=hxr.size;simp;omega) ?_;intro A3 c3 w3 hown3 hg3)
   go_ret2
   have hS3:=Sofar.put hown HH.out hM hcc1 hcc2 (inferInstance:Ext wo (wo.alloc (.cells #[.slice A2 (m.length-k) c2] 79))) hg3 hown3
   have hk1:k+1=m.length:=by have :=HLast.out;omega
   rw [hk1] at hS3 |-
   have hcap:=hown3.cap
   have hlen:(stagesOf m).length=m.length:=by simp [stagesOf]
   have hxx:Ext w w3:=hg3.ext inferInstance (Nat.le_refl _)
   refine ⟨A3,c3,by rw [hlen];rfl,?_,by omega,by omega,hxx.toStep⟩
   obtain ⟨hd',ho',hh'⟩:=hS3
   refine ⟨hd',by rw [hlen];simpa using ho'.len,ho'.arr,fun i r hr=>?_⟩
   have hi:i<m.length:=by
    rcases Nat.lt_or_ge i m.length with hi |hi
    ·exact hi
    ·rw [List.getElem?_eq_none (by omega)] at hr;cases hr
   have hr':r=(stAt m i).2:=by simp [stagesOf,hi] at hr;exact hr.symm
   subst hr'
   obtain ⟨B,d,a1,a2,a3,a4⟩:=hh' i hi
   rw [stAt_length]
   exact ⟨B,d,a1,a2.mat,a3,a4⟩
  ·have hlb:((k:Int)==(m.length:Int)-1)=false:=by simp;omega
   have hk1:k+1<m.length:=by omega
   clear hlast
   have hpiv:=HO.out.pivot k hk1
   have hsg:(cmpI (ent (stAt m k).2 0 0) 0==0)=false:=by unfold cmpI;split<;>simp_all
   go_wp2_with (first
    |(at_builtin;refine wpList_app _ rfl _ _ 93 rfl w.heap.size 79 (.slice none 0 0) 1 24 Tryz.underlying93 infoSlSlInt rfl (by omega) (by omega) Al k cl hd rfl (hown.ext inferInstance) _ 1 1 [.slice A2 (m.length-k) c2] rfl hsrc (by simp) (by simp [Value.oneCell']) (by omega) (by have :=hxr.size;simp;omega) ?_;intro A3 c3 w3 hown3 hg3;have hM3:=(hM.ext (inferInstance:Ext wo (wo.alloc (.cells #[.slice A2 (m.length-k) c2] 79)))).grow hg3 (by decide) (by decide) (by decide);have hL3:=Grow.heap hg3 (heap_of_ext (inferInstance:Ext wo (wo.alloc (.cells #[.slice A2 (m.length-k) c2] 79))) HL.out) (by decide);have hI3:=(hI.ext (inferInstance:Ext wo (wo.alloc (.cells #[.slice A2 (m.length-k) c2] 79)))).grow hg3 (by decide);have hS3:=Sofar.put hown HH.out hM hcc1 hcc2 (inferInstance:Ext wo (wo.alloc (.cells #[.slice A2 (m.length-k) c2] 79))) hg3 hown3;have hx3:Ext w w3:=hg3.ext inferInstance (Nat.le_refl _);obtain ⟨b0,o0,b1,o1,c0,g0,B0,k0,d0,rfl,e1,e2,e3,hV0,f1,f2,f3,f4⟩:=hM3.mat.ent_ (i:=0) (j:=0) (stAt_allLen m HN.out k) (by rw [stAt_length];omega) (by omega);simp only [Nat.add_zero,Nat.zero_mul] at e1 e2 e3;have ob0:Old b0 w3:=⟨f3⟩;have ob1:Old b1 w3:=⟨f4⟩;have HL3:=Lib.hid hL3;clear hL3)
    |(go_at_call 243;refine (Sign_any hV0).mono ?_;rintro e w4 ⟨rfl,hs4⟩)
    |fail)
   have hw34:Ext w3 w4:=hs4.ext
   have hst:(stAt m k).2.length=m.length-k:=stAt_length m k
   have htab2:=table_any (w:=w4.alloc (.cells #[.slice (some ⟨b0,o0,none⟩) (m.length-k) c2] 79)) 244 #[.pointer (some ⟨w4.heap.size,0,none⟩),.pointer (some ⟨w2.heap.size,0,none⟩)] (m.length-k-1) (m.length-k-1) (by omega) (by omega) (by omega) isFn_Stages2
    (fun i j=>(ent (stAt m k).2 0 0*ent (stAt m k).2 (i+1) (j+1)-ent (stAt m k).2 (i+1) 0*ent (stAt m k).2 0 (j+1)) / (stAt m k).1)
    (fun i j W hi hj hW=>by
     obtain ⟨-,a1,a2,a3⟩:=box1At w4 W w4.heap.size (.slice (some ⟨b0,o0,none⟩) (m.length-k) c2) 79 rfl
     have hx4:Ext w4 W:=Ext.trans inferInstance hW
     have hx3:Ext w3 W:=hw34.trans hx4
     have hLW:=heap_of_ext hx3 HL3.out
     refine Stages2_any (n:=m.length-k) (c:=c2) hM3.mat hI3 (stAt_allLen m HN.out k) hst (by omega) i j (by omega) (by omega) (HO.out.cross k i j (by omega) (by omega)) ?_ a3 ?_ ?_ (lt_of_heap hLW)
     ·rw [hst];exact a1
     ·simp [World.cell?,hLW]
     ·simp [World.cell?,hLW])
   rw [show ((m.length-k-1:Nat):Int)=(m.length:Int)-(k:Int)-1 by omega] at htab2
   have hnext:tab (fun i j=>(ent (stAt m k).2 0 0*ent (stAt m k).2 (i+1) (j+1)-ent (stAt m k).2 (i+1) 0*ent (stAt m k).2 0 (j+1)) / (stAt m k).1) (m.length-k-1) (m.length-k-1)=(stAt m (k+1)).2:=by
    simp only [stAt,nextSt];rw [hst]
   rw [hnext] at htab2
   have HNX:=Lib.hid hst
   clear hnext hst
   refine htab2.mono ?_
   clear htab2
   rintro e w5 ⟨A5,c5,rfl,hM5,hc51,hc52,hs5⟩
   rw [stAt_length] at hc51 |-
   have hx5:Ext w3 w5:=inferInstance
   have hL5:=heap_of_ext hx5 HL3.out
   have oL:Old w2.heap.size w3:=⟨lt_of_heap HL3.out⟩
   have q1:w5.cell? ⟨w2.heap.size,0,none⟩=some (.bool gl):=by simp [World.cell?,hL5]
   have q2:w5.cell? ⟨w2.heap.size,1,none⟩=some (.slice Bl kl dl):=by simp [World.cell?,hL5]
   have q3:w5.frozen? ⟨w2.heap.size,0,none⟩=false:=by simp [World.frozen?,hL5]
   have q4:w5.frozen? ⟨w2.heap.size,1,none⟩=false:=by simp [World.frozen?,hL5]
   have z5:w2.heap.size<(w4.alloc (.cells #[.slice (some ⟨b0,o0,none⟩) (m.length-k) c2] 79)).heap.size:=by
    have :=lt_of_heap HL3.out
    have :=hw34.size
    simp;omega
   have hMX:MatX (·≠w2.heap.size) w5 A5 (stAt m (k+1)).2:=hM5.mono (fun b hb=>by omega)
   have HL5:=Lib.hid hL5
   have hw2:w.heap.size<=w2.heap.size:=(inferInstance:Ext w w2).size
   clear hL5 z5
   go_wp2
   refine ⟨⟨k+1,A5,c5,A3,c3,g0,B0,k0,d0,by omega,by go_num,rfl,?_,?_,hc52,rfl,?_,?_,?_,?_⟩,by simp [intOf]<;>omega⟩
   ·exact (hMX.setBox HL5.out _ _).setBox (heap_setCell_self HL5.out _) _ _
   ·omega
   ·exact ((hS3.ext hx5).setBox HL5.out _ _).setBox (heap_setCell_self HL5.out _) _ _
   ·rw [heap_setCell_self (heap_setCell_self HL5.out _)];rfl
   ·exact (hV0.ext hx5).boxed (by decide) HL5.out _ _
   ·exact (((hx3.trans hx5).setCell (p:=⟨w2.heap.size,0,none⟩) hw2 _).setCell (p:=⟨w2.heap.size,1,none⟩) hw2 _)
end Go.Proofs.YtpcgfpmiphiacaaGreat
