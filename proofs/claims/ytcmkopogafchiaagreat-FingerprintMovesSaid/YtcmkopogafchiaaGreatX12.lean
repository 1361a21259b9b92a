/- Fp6 Fp7 Fp8 Fp9 Fp10 Fp11 Fp12 -/
import Derived.Test.YtcmkopogafchiaaGreatX11
import Derived.Test.YtcmkopogafchiaaGreatProg
import Derived.Test.YtcmkopogafchiaaGreatShelf
import Derived.Test.YtcmkopogafchiaaGreatRows
import Derived.Test.YtcmkopogafchiaaGreatShelfC
set_option maxHeartbeats 8000000
set_option linter.unusedVariables false
set_option linter.unusedSimpArgs false
set_option linter.constructorNameAsVariable false
namespace Go.Proofs.YtcmkopogafchiaaGreat
open Go.RowKit
structure Fm (mb:Nat) (w w':World):Prop where
 os:w'.os=w.os
 tape:w'.tape=w.tape
 output:w'.output=w.output
 size:w.heap.size<=w'.heap.size
 block:∀b,b<w.heap.size->b≠mb->w'.heap[b]? =w.heap[b]?
theorem Fm.refl (mb:Nat) (w:World):Fm mb w w:=⟨rfl,rfl,rfl,Nat.le_refl _,fun _ _ _=>rfl⟩
theorem Fm.trans {mb:Nat} {a b c:World} (h:Fm mb a b) (h':Fm mb b c):Fm mb a c:=
 ⟨h'.os.trans h.os,h'.tape.trans h.tape,h'.output.trans h.output,Nat.le_trans h.size h'.size,fun k hk hn=>(h'.block k (Nat.lt_of_lt_of_le hk h.size) hn).trans (h.block k hk hn)⟩
theorem Fm.of_ext {mb:Nat} {w w':World} (h:Ext w w'):Fm mb w w':=⟨h.below.os,h.below.tape,h.below.output,h.below.size,fun b hb _=>h.below.block b hb⟩
theorem Fm.of_grown {mb:Nat} {w w':World} (h:w.grownBy w' (some mb)):Fm mb w w':=⟨h.os,h.tape,h.output,h.size,fun b hb hn=>h.block b hb (fun e=>hn (by injection e))⟩
theorem Fm.new {mb:Nat} {w wr w':World} (h:Fm mb w wr) (hb:Below w.heap.size wr w'):Fm mb w w':=
 ⟨hb.os.trans h.os,hb.tape.trans h.tape,hb.output.trans h.output,Nat.le_trans h.size hb.size,fun b hk hn=>(hb.block b hk).trans (h.block b hk hn)⟩
theorem Fm.ext0 {mb:Nat} {w0 w w':World} (hx:Ext w0 w) (hm:w0.heap.size<=mb) (h:Fm mb w w'):Ext w0 w':=
 ⟨⟨h.os.trans hx.below.os,h.tape.trans hx.below.tape,h.output.trans hx.below.output,Nat.le_trans hx.size h.size,fun b hb=>(h.block b (Nat.lt_of_lt_of_le hb hx.size) (by omega)).trans (hx.below.block b hb)⟩⟩
theorem MapC.not_cells {w:World} {b n:Nat} {L:List Kc} (h:MapC w b n L) {cs:Array Value} {T:TypeId} {fr:Nat×Nat}:w.heap[b]?≠some (.cells cs T fr):=by
 obtain ⟨D,⟨es,c,h1,-⟩,-⟩:=h
 rw [h1]
 intro e
 cases e
theorem Fm.cells {mb n:Nat} {w w':World} {L:List Kc} (h:Fm mb w w') (hm:MapC w mb n L) {b:Nat} {cs:Array Value} {T:TypeId} {fr:Nat×Nat} (hb:w.heap[b]? =some (.cells cs T fr)):w'.heap[b]? =some (.cells cs T fr):=
 (h.block b (lt_of_heap hb) (fun e=>hm.not_cells (by rw [<-e];exact hb))).trans hb
theorem Fm.arr {mb n:Nat} {w w':World} {L:List Kc} (h:Fm mb w w') (hm:MapC w mb n L) {A:Option Addr} {T:TypeId} {vs:List Value} (ha:Arr w A T vs):Arr w' A T vs:=
 ha.keep fun _ _ _ hb=>(h.cells hm hb).trans hb.symm
theorem Fm.own {mb n:Nat} {w w':World} {L:List Kc} (h:Fm mb w w') (hm:MapC w mb n L) {base size k c:Nat} {A:Option Addr} {T:TypeId} {vs:List Value} (ho:Own w base T size A k c vs):Own w' base T size A k c vs:=by
 refine ⟨ho.1,?_⟩
 rcases ho.2 with hv |⟨g,cap,cur,hv,h1,h2,h3⟩
 ·exact .inl hv
 ·exact .inr ⟨g,cap,cur,hv,h1,h.cells hm h2,h3⟩
theorem MapC.grow {w w':World} {mb n base:Nat} {T:TypeId} {L:List Kc} (h:MapC w mb n L) (hg:Grow base T w w'):MapC w' mb n L:=by
 have hb:=hg.typed mb h.lt (fun _ _=>h.not_cells)
 obtain ⟨D,⟨es,c,h1,h2⟩,h3⟩:=h
 exact ⟨D,⟨es,c,hb.trans h1,h2⟩,h3⟩
theorem MapC.at_block {w w':World} {mb n:Nat} {L:List Kc} (h:MapC w mb n L) (hb:w'.heap[mb]? =w.heap[mb]?):MapC w' mb n L:=by
 obtain ⟨D,⟨es,c,h1,h2⟩,h3⟩:=h
 exact ⟨D,⟨es,c,hb.trans h1,h2⟩,h3⟩
theorem RngC.iter {w:World} {b r n cnt:Nat} {L ks:List Kc} (h:RngC w b r n L ks cnt) {cs:Array Value} {T:TypeId} {fr:Nat×Nat}:w.heap[r]?≠some (.cells cs T fr):=by
 obtain ⟨D,left,⟨es,clock,since,seen,c0,-,-,-,-,h5,-⟩,-⟩:=h
 rw [h5]
 intro e
 cases e
theorem RngC.grow {w w':World} {b r n cnt base:Nat} {T:TypeId} {L ks:List Kc} (h:RngC w b r n L ks cnt) (hg:Grow base T w w'):RngC w' b r n L ks cnt:=
 h.kept (hg.typed b h.map.lt (fun _ _=>h.map.not_cells)) (hg.typed r h.lt.1 (fun _ _=>h.iter))
theorem RngC.ext {w w':World} {b r n cnt:Nat} {L ks:List Kc} (h:RngC w b r n L ks cnt) (hx:Ext w w'):RngC w' b r n L ks cnt:=
 h.kept (hx.below.block b h.map.lt) (hx.below.block r h.lt.1)
theorem own_iter {w w':World} {r base size k c:Nat} {A:Option Addr} {T:TypeId} {vs:List Value} (h:w.grownBy w' (some r)) (hr:∀(cs:Array Value) (T:TypeId) (fr:Nat×Nat),w.heap[r]?≠some (.cells cs T fr)) (ho:Own w base T size A k c vs):Own w' base T size A k c vs:=by
 refine ⟨ho.1,?_⟩
 rcases ho.2 with hv |⟨g,cap,cur,hv,h1,h2,h3⟩
 ·exact .inl hv
 ·exact .inr ⟨g,cap,cur,hv,h1,(h.block g (lt_of_heap h2) (fun e=>by injection e with e;exact hr _ _ _ (by rw [<-e];exact h2))).trans h2,h3⟩
/-! ## slices.SortFunc at counts -/
theorem swoC:Sort.SWO (ltOf cmpC) where
 irrefl x:=by
  rcases cmpC_cases x x with ⟨h1,-⟩ |⟨-,h2⟩ |⟨h1,-⟩
  ·exact absurd h1 (ltC_sto.irr x)
  ·simp [ltOf,h2]
  ·exact absurd h1 (ltC_sto.irr x)
 trans x y z h1 h2:=by
  have h1:cmpC x y<0:=of_decide_eq_true h1
  have h2:cmpC y z<0:=of_decide_eq_true h2
  have a1:ltC x y:=by rcases cmpC_cases x y with ⟨h,-⟩ |⟨-,h⟩ |⟨-,h⟩<;>first |exact h |omega
  have a2:ltC y z:=by rcases cmpC_cases y z with ⟨h,-⟩ |⟨-,h⟩ |⟨-,h⟩<;>first |exact h |omega
  have a3:=ltC_sto.trans a1 a2
  refine decide_eq_true (?_:cmpC x z<0)
  rcases cmpC_cases x z with ⟨-,h⟩ |⟨h,-⟩ |⟨h,-⟩
  ·omega
  ·exact absurd a3 (by rw [h];exact ltC_sto.irr z)
  ·exact absurd h (ltC_sto.anti a3)
 ntrans x y z h1 h2:=by
  have h1:¬cmpC x y<0:=of_decide_eq_false h1
  have h2:¬cmpC y z<0:=of_decide_eq_false h2
  refine decide_eq_false (fun (h3:cmpC x z<0)=>?_)
  have a3:ltC x z:=by rcases cmpC_cases x z with ⟨h,-⟩ |⟨-,h⟩ |⟨-,h⟩<;>first |exact h |omega
  have b1:y=x∨ltC y x:=by rcases cmpC_cases x y with ⟨-,h⟩ |⟨h,-⟩ |⟨h,-⟩<;>first |exact .inl h.symm |exact .inr h |omega
  have b2:z=y∨ltC z y:=by rcases cmpC_cases y z with ⟨-,h⟩ |⟨h,-⟩ |⟨h,-⟩<;>first |exact .inl h.symm |exact .inr h |omega
  rcases b1 with rfl |b1
  ·rcases b2 with rfl |b2
   ·exact ltC_sto.irr _ a3
   ·exact ltC_sto.anti b2 a3
  ·rcases b2 with rfl |b2
   ·exact ltC_sto.anti b1 a3
   ·exact ltC_sto.anti (ltC_sto.trans b2 b1) a3
theorem sortO_heap {α:Type} [Inhabited α] (enc:α->List Value) (k:Nat) (w:World) (g off m:Nat) (d:Array α) (os:Array Obj) {b:Nat} (hb:b<w.heap.size) (hne:b≠g):(sortWorldK enc k w g off m d os).heap[b]? =w.heap[b]? :=by
 have h1:(sortWorldK enc k w g off m d os).heap[b]? =(w.heap.modify g (Sort.onCells (Sort.putCells id off (Sort.flatK enc k d))))[b]? :=by
  show ((w.heap.modify g _)++os)[b]? =_
  rw [Array.getElem?_append_left (by simpa using hb)]
 rw [h1,Array.getElem?_modify,if_neg (fun h=>hne h.symm)]
theorem sortO_row {α:Type} [Inhabited α] (enc:α->List Value) (k:Nat) (w:World) (g off m:Nat) (d:Array α) (os:Array Obj) {cur:Array Value} {T:TypeId} (hg:w.heap[g]? =some (.cells cur T (0,0))):(sortWorldK enc k w g off m d os).heap[g]? =some (.cells (Sort.putCells id off (Sort.flatK enc k d) cur) T (0,0)):=by
 have h1:(sortWorldK enc k w g off m d os).heap[g]? =(w.heap.modify g (Sort.onCells (Sort.putCells id off (Sort.flatK enc k d))))[g]? :=by
  show ((w.heap.modify g _)++os)[g]? =_
  rw [Array.getElem?_append_left (by simpa using lt_of_heap hg)]
 rw [h1,Array.getElem?_modify,if_pos rfl,hg];rfl
theorem sortO_below {α:Type} [Inhabited α] (enc:α->List Value) (k:Nat) (w:World) (g off m:Nat) (d:Array α) (os:Array Obj) {B:Nat} (hB:B<=g) (hg:g<w.heap.size):Below B w (sortWorldK enc k w g off m d os):=
 ⟨rfl,rfl,rfl,by show w.heap.size<=((w.heap.modify g _)++os).size;simp,fun b hb=>sortO_heap enc k w g off m d os (by omega) (by omega)⟩
theorem ctF_at (p:List Ct) (j:Nat) (h:j<p.length*3):(ctF p)[j]? =some ((ctV (p.getD (j / 3) ((0,0),0))).getD (j%3) undef):=by
 obtain ⟨c,hc⟩:∃c,p[j / 3]? =some c:=⟨_,List.getElem?_eq_getElem (by omega)⟩
 obtain ⟨h0,h1,h2⟩:=ctF_get p (j / 3) c hc
 have e:p.getD (j / 3) ((0,0),0)=c:=by simp [List.getD_eq_getElem?_getD,hc]
 rw [e]
 rcases (by omega:j%3=0∨j%3=1∨j%3=2) with h3 |h3 |h3<;>rw [h3]
 ·rw [show j / 3*3=j by omega] at h0;exact h0
 ·rw [show j / 3*3+1=j by omega] at h1;exact h1
 ·rw [show j / 3*3+2=j by omega] at h2;exact h2
instance:Inhabited Ct:=⟨((0,0),0)⟩
theorem flat_get (D:List Ct) (j:Nat) (h:j<D.length*3):(Sort.flatK ctV 3 D.toArray)[j]! =(ctV (D.getD (j / 3) ((0,0),0))).getD (j%3) undef:=by
 rw [Sort.get_flatK _ _ _ _ (by simpa using h)]
 have hj:j / 3<D.length:=by omega
 have e:D.toArray[j / 3]! =D.getD (j / 3) ((0,0),0):=by simp [hj]
 rw [e]
 rcases (by omega:j%3=0∨j%3=1∨j%3=2) with h3 |h3 |h3<;>rw [h3]<;>rfl
theorem SortC_any {w:World} {g off cap:Nat} {els:List Ct} {cur:Array Value} (hg:w.heap[g]? =some (.cells cur 45 (0,0))) (hcur:∀j u,(ctF els)[j]? =some u->cur[off+j]? =some u) (hn:els.length<4611686018427387904):
  Calls Tryz.prog 64 #[.slice (some ⟨g,off,none⟩) els.length cap,.func (.func 65) #[] #[]] w fun e w'=>e= .returned (.tuple #[])/\∃(els':List Ct) (cur':Array Value),els'.Perm els/\els'.Pairwise (fun x y=>¬cmpC y x<0)/\w'.heap[g]? =some (.cells cur' 45 (0,0))/\cur'.size=cur.size/\(∀j u,(ctF els')[j]? =some u->cur'[off+j]? =some u)/\(∀j,j<off->cur'[j]? =cur[j]?)/\(∀b,b<w.heap.size->b≠g->w'.heap[b]? =w.heap[b]?)/\∀B,B<=g->Below B w w':=by
 have hcmp:CmpLays Tryz.prog 65 #[] ctV 3 cmpC g off els.toArray.size w:=fun m os dk _ x y=>compareCounts_any x y
 have hH:Sort.HoldsK ctV 3 w g off els.toArray:=fun j hj=>by
  rw [Sort.size_flatK] at hj
  have hj2:j<els.length*3:=by simpa using hj
  refine ⟨?_,by simp [World.frozen?,hg]⟩
  rw [id,flat_get els j hj2,cell_of_row w g (off+j) _ _ _ hg]
  exact hcur j _ (ctF_at els j hj2)
 have h:=AnyQ.slices_SortFunc (P:=Tryz.prog) Tryz.laysSortC 3 Tryz.isAgg45 Tryz.sizeOf45 ctV (fun x=>rfl) (fun x v hv=>by
   simp only [ctV,List.mem_cons,List.not_mem_nil,or_false] at hv
   rcases hv with rfl |rfl |rfl<;>rfl) cmpC swoC 65 #[] g off cap els.toArray w (enters_of Tryz.func65 (by kernel_rfl) rfl) hcmp hH (lt_of_heap hg) (by simpa using hn)
 have e0:els.toArray.size=els.length:=by simp
 rw [e0] at h
 refine h.mono ?_
 rintro e w' ⟨he,d',n,os,⟨hp1,-,hp2⟩,hs,hw⟩
 have hdl:d'.toList.length=els.length:=by simpa using hp1
 refine ⟨he,d'.toList,_,?_,?_,by rw [hw];exact sortO_row ctV 3 w g off n d' os hg,?_,?_,?_,?_,?_⟩
 ·have e1:d'.extract 0 els.length=d':=by apply Array.ext';simp;rw [List.take_of_length_le (by simpa using Nat.le_of_eq hdl)]
  have e2:(els.toArray).extract 0 els.length=els.toArray:=by rw [<-e0];exact Array.extract_size
  rw [e1,e2] at hp2
  simpa using hp2
 ·rw [List.pairwise_iff_getElem]
  intro i j hi hj hij
  have :=hs i j (Nat.zero_le _) hij (by simp at hj hdl;omega)
  have e3:d'[j]! =d'.toList[j]:=by simp at hj;simp [hj]
  have e4:d'[i]! =d'.toList[i]:=by simp at hi;simp [hi]
  rw [e3,e4] at this
  exact of_decide_eq_false this
 ·unfold Sort.putCells;simp
 ·intro j u hu
  have hjl:=(List.getElem?_eq_some_iff.1 hu).1
  rw [ctF_len] at hjl
  have hcs:off+j<cur.size:=by
   have :=hcur j _ (ctF_at els j (by omega))
   exact (Array.getElem?_eq_some_iff.1 this).1
  have e:(ctF d'.toList)[j]? =some ((Sort.flatK ctV 3 d')[j]!):=by
   rw [ctF_at _ _ hjl,<-flat_get _ _ hjl]
  rw [e] at hu
  unfold Sort.putCells
  rw [Array.getElem?_mapIdx,Array.getElem?_eq_getElem hcs]
  simp only [Option.map_some]
  rw [if_pos (by rw [Sort.size_flatK];simp at hjl;omega),show off+j-off=j by omega,id]
  exact hu
 ·intro j hj
  unfold Sort.putCells
  rw [Array.getElem?_mapIdx]
  cases hc:cur[j]? with
  |none=>rfl
  |some u=>simp only [Option.map_some];rw [if_neg (by omega)]
 ·rw [hw];exact fun b hb hne=>sortO_heap _ _ w g off n d' os hb hne
 ·rw [hw];exact fun B hB=>sortO_below _ _ w g off n d' os hB (lt_of_heap hg)
theorem cnt_eq (S:List Kc) (k:Kc):S.count k=@List.count Kc instBEqOfDecidableEq k S:=by
 unfold List.count
 congr 1
 funext x
 rw [Bool.eq_iff_iff]
 simp
theorem counts_sorted {S ks:List Kc} {els':List Ct} (hnd:ks.Nodup) (h1:∀k∈ks,k∈S) (h2:∀k∈S,k∈ks) (hp:els'.Perm (ks.map fun k=>(k,(S.count k:Int)))) (hs:els'.Pairwise (fun x y=>¬cmpC y x<0)):els'=countL ltK S:=by
 have hk:(els'.map Prod.fst).Nodup:=by
  have h:=hp.map Prod.fst
  rw [List.map_map] at h
  have e:(Prod.fst∘fun k:Kc=>(k,(S.count k:Int)))=id:=rfl
  rw [e,List.map_id] at h
  exact (h.nodup_iff).2 hnd
 refine CountOK.unique ltK_sto ⟨?_,fun c=>?_⟩ (countL_ok ltK_sto S)
 ·have hk2:els'.Pairwise (fun x y=>x.1≠y.1):=List.pairwise_map.1 hk
  refine (hs.and hk2).imp ?_
  rintro x y ⟨h,hne⟩
  rcases cmpC_cases y x with ⟨-,h3⟩ |⟨h3,-⟩ |⟨h3,-⟩
  ·exact absurd (show cmpC y x<0 by omega) h
  ·exact absurd (by rw [h3]) hne
  ·unfold ltC at h3
   unfold ltK
   rcases h3 with h3 |⟨h3,h4 |⟨h4,-⟩⟩
   ·exact .inl h3
   ·exact .inr ⟨h3,h4⟩
   ·exact absurd (Prod.ext h3 h4) hne
 ·rw [hp.mem_iff,List.mem_map]
  constructor
  ·rintro ⟨k,hk,rfl⟩
   have h3:=List.count_pos_iff.2 (h1 k hk)
   exact ⟨by show (0:Int)<(S.count k:Int);omega,by show (S.count k:Int)=_;rw [cnt_eq]⟩
  ·rintro ⟨h3,h4⟩
   obtain ⟨k,n⟩:=c
   simp only at h3 h4
   rw [<-cnt_eq] at h4
   exact ⟨k,h2 k (List.count_pos_iff.1 (by omega)),by rw [h4]⟩
theorem tally_len {κ:Type} [DecidableEq κ] {lt:κ->κ->Prop} [DecidableRel lt]:∀(p:List (κ×Int)) (k:κ),(tallyG lt p k).length<=p.length+1
 |[],k=>by simp [tallyG]
 |c::p,k=>by
  have ih:=tally_len (lt:=lt) p k
  unfold tallyG
  split
  ·simp;omega
  ·split<;>simp
theorem countL_len {κ:Type} [DecidableEq κ] {lt:κ->κ->Prop} [DecidableRel lt] (L:List κ):(countL lt L).length<=L.length:=by
 have key:∀(L:List κ) (p:List (κ×Int)),(L.foldl (fun p q=>tallyG lt p q) p).length<=p.length+L.length:=by
  intro L
  induction L with
  |nil=>intro p;simp
  |cons k L ih=>
   intro p
   have h1:=ih (tallyG lt p k)
   have h2:=tally_len (lt:=lt) p k
   simp only [List.foldl_cons,List.length_cons]
   omega
 have :=key L []
 simpa [countL] using this
theorem prof_len (m L:List (List Int)) (x:List Int):(profM m L x).length<=L.length:=by
 have :=countL_len (lt:=ltK) (L.map (keyM m x))
 simpa [profM] using this
theorem own_sorted {w w':World} {base g c n:Nat} {p els els':List Ct} (ho:Own w base 45 3 (some ⟨g,0,none⟩) n c (ctF p++ctF els)) (hpe:els'.Perm els)
  {cur cur':Array Value} (hg:w.heap[g]? =some (.cells cur 45 (0,0))) (hg':w'.heap[g]? =some (.cells cur' 45 (0,0))) (hsz:cur'.size=cur.size) (htl:∀j u,(ctF els')[j]? =some u->cur'[p.length*3+j]? =some u) (hhd:∀j,j<p.length*3->cur'[j]? =cur[j]?):
  Own w' base 45 3 (some ⟨g,0,none⟩) n c (ctF p++ctF els'):=by
 have hel:els'.length=els.length:=hpe.length_eq
 have hlen:=ho.1
 rw [List.length_append,ctF_len,ctF_len] at hlen
 rcases ho.2 with ⟨hv,-⟩ |⟨g2,cap,cur2,hv,h1,h2,h3,h4,h5,h6⟩
 ·cases hv
 ·injection hv with z1 z2 z3
  injection z1 with z1
  injection z1 with z1
  subst z1 z3
  rw [hg] at h2
  injection h2 with h2
  injection h2 with z4
  subst z4
  refine ⟨by rw [List.length_append,ctF_len,ctF_len,hel];exact hlen,.inr ⟨g,c,cur',rfl,h1,hg',h3,h4,by rw [hsz];exact h5,?_⟩⟩
  have hcs:n*3<=cur'.size:=by rw [hsz,h5];exact Nat.mul_le_mul_right 3 h3
  apply List.ext_getElem?
  intro j
  rcases Nat.lt_or_ge j (n*3) with hj |hj
  ·rw [List.getElem?_take,if_pos hj,Array.getElem?_toList]
   rcases Nat.lt_or_ge j (p.length*3) with hjp |hjp
   ·rw [List.getElem?_append_left (by rw [ctF_len];exact hjp),hhd j hjp]
    have h7:(cur.toList.take (n*3))[j]? =(ctF p++ctF els)[j]? :=by rw [h6]
    rw [List.getElem?_take,if_pos hj,Array.getElem?_toList,List.getElem?_append_left (by rw [ctF_len];exact hjp)] at h7
    exact h7
   ·rw [List.getElem?_append_right (by rw [ctF_len];exact hjp),ctF_len]
    have hjl:j-p.length*3<els'.length*3:=by omega
    have h7:=htl _ _ (ctF_at els' _ hjl)
    rw [show p.length*3+(j-p.length*3)=j by omega] at h7
    rw [h7,ctF_at els' _ hjl]
  ·rw [List.getElem?_take,if_neg (by omega),List.getElem?_eq_none]
   rw [List.length_append,ctF_len,ctF_len,hel,hlen]
   exact hj
theorem own_block {w:World} {base n c:Nat} {A:Option Addr} {xs:List Value} (ho:Own w base 45 3 A n c xs) (h0:0<n):∃(g:Nat) (cur:Array Value),A=some ⟨g,0,none⟩/\base<=g/\w.heap[g]? =some (.cells cur 45 (0,0))/\n<=c/\∀(j:Nat) (u:Value),xs[j]? =some u->cur[j]? =some u:=by
 rcases ho.2 with ⟨-,hn⟩ |⟨g,cap,cur,hv,h1,h2,h3,h4,h5,h6⟩
 ·omega
 ·injection hv with z1 _ z3
  subst z3
  refine ⟨g,cur,z1,h1,h2,h3,fun j u hu=>?_⟩
  rw [<-h6,List.getElem?_take] at hu
  split at hu
  ·simpa using hu
  ·cases hu
theorem infoCt:(Tryz.prog.info? 45).map (fun i=>(i.zero,i.size,i.bytes))=some (some (.agg #[.int .i64 0,.int .i64 0,.int .i64 0]),3,24):=by kernel_rfl
def RetPrf (w:World) (mb:Nat) (p:List Ct) (e:Ending) (w':World):Prop:=
 ∃A c,e= .returned (.slice A p.length c)/\Own w' w.heap.size 45 3 A p.length c (ctF p)/\MapC w' mb 0 []/\Fm mb w w'
set_option maxRecDepth 20000 in
theorem fprofile_ok {w0 w:World} {LA NA DA XA:Option Addr} {lc nc dc xc n q mb:Nat} {m L:List (List Int)} {x:List Int} (hS:SysV w0 m L LA NA DA) (hq:L.length=q) (hq8:q<=100000) (hdc:q<=dc) (hdc2:dc<=9223372036854775807) (hmn:m.length=n) (hn:n<=1000)
  (hsrt:(L.map (nrm m)).Pairwise (·<=·)) (hX:IntsA w0 XA x) (hxn:x.length=n) (hnb:∀y∈L,0<=nrm m y/\nrm m y<=4611686018427387904) (hib:∀y∈L,-4611686018427387904<=dotL (applyL m y) x/\dotL (applyL m y) x<=4611686018427387904)
  (hmb:w0.heap.size<=mb) (hM:MapC w mb 0 []) [hx:Ext w0 w]:
  Calls Tryz.prog 37 #[.agg #[.slice LA q lc,.slice NA q nc,.slice DA q dc],.slice XA n xc,.map (some mb)] w (RetPrf w mb (profM m L x)):=by
 have HS:=Lib.hid hS
 have HQ:=Lib.hid hq
 have HX:=Lib.hid (And.intro hX hxn)
 have HSR:=Lib.hid hsrt
 have HNB:=Lib.hid hnb
 have HIB:=Lib.hid hib
 have HMN:=Lib.hid hmn
 have HM0:=Lib.hid hM
 have hmlt:=hM.lt
 unfold RetPrf
 obtain ⟨w1,hw1⟩:∃w1,w1=w.alloc (.cells #[.slice LA q lc,.slice NA q nc,.slice DA q dc] 70):=⟨_,rfl⟩
 have hbx:w1.heap[w.heap.size]? =some (.cells #[.slice LA q lc,.slice NA q nc,.slice DA q dc] 70 (0,0)):=by rw [hw1];exact heap_alloc_new w _
 have hx1:Ext w w1:=by rw [hw1];infer_instance
 have HBX:=Lib.hid hbx
 have hs1:w1.heap.size=w.heap.size+1:=by rw [hw1];simp
 have HM1:Hid (MapC w1 mb 0 []):=Lib.hid (hM.ext hx1)
 have hx01:Ext w0 w1:=hx.trans hx1
 clear hS hq hX hxn hsrt hnb hib hmn hM hbx
 go_enter Tryz.func37,Tryz.ntmps37
 go_wp2_with fail
 rw [<-hw1]
 clear hw1
 go_loopw [7,8,9,11,12,13,14,15] (fun p s _ _ _ _ _ _ wr=>∃(a pl c:Nat) (A:Option Addr),a<=q/\s= .int .i64 a/\Hid (Bdry (L.map (nrm m)) a)/\p= .slice A pl c/\Hid ((profM m (L.take a) x).length=pl)/\Hid (Own wr w1.heap.size 45 3 A pl c (ctF (profM m (L.take a) x)))/\Hid (MapC wr mb 0 [])/\Hid (Fm mb w1 wr)) (fun _ s _ _ _ _ _ _ _=>q-(intOf s).toNat)
 case atStart=>exact ⟨0,0,0,none,by omega,rfl,Lib.hid (Bdry.zero _),rfl,Lib.hid rfl,Lib.hid (Own.nil _ _ _ _),HM1,Lib.hid (Fm.refl _ _)⟩
 case round=>
  obtain ⟨a,pl,c,A,ha,rfl,HB,rfl,HPL,HO,HM,HF⟩:=hrel
  obtain ⟨⟨c1,c2,c3⟩,-,c4⟩:=blk3c (HF.out.cells HM1.out HBX.out)
  have oB:Old w.heap.size wr:=⟨c4⟩
  have hx0r:Ext w0 wr:=Fm.ext0 hx01 hmb HF.out
  by_cases hlt:a<q
  ·obtain ⟨y0,hy0⟩:∃y,L[a]? =some y:=⟨_,List.getElem?_eq_getElem (by rw [HQ.out];exact hlt)⟩
   obtain ⟨na,hna⟩:∃v,nrm m y0=v:=⟨_,rfl⟩
   have hnsa:(L.map (nrm m))[a]? =some na:=by rw [List.getElem?_map,hy0,<-hna];rfl
   have hnl:(L.map (nrm m)).length=q:=by rw [List.length_map];exact HQ.out
   have HSH:=Lib.hid (fun W (e:Ext w0 W)=>fshell_any (w:=W) (nc:=nc) (SL:= .slice LA q lc) (SD:= .slice DA q dc) HS.out.norms hnsa hnl (by omega))
   obtain ⟨bd,od,B0,cb0,rfl,-,-,-,-,d5⟩:=HS.out.duals.a.at_ (i:=a) (r:=applyW m y0) (by rw [List.getElem?_map,hy0];rfl)
   obtain ⟨bn,on,na',rfl,hna',n5,n6⟩:=HS.out.norms.at_ (i:=a) (by omega)
   rw [hnsa] at hna'
   obtain rfl:na=na':=by injection hna'
   have HNSA:=Lib.hid hnsa
   have HNL:=Lib.hid hnl
   have HNA:=Lib.hid (And.intro hy0 hna)
   have oD:Old bd w0:=⟨d5⟩
   have oN:Old bn w0:=⟨n6⟩
   unfold RetShl at HSH
   clear hy0 hna hnsa hnl
   go_upto_region 5 with (go_at_call 40;refine (HSH.out _ inferInstance).mono ?_;rintro e w2 ⟨k,rfl,hk1,hk2,hk3,hk4,hs2⟩;rw [HNL.out] at hk2;have HK3:=Lib.hid hk3;have HK4:=Lib.hid hk4;clear hk3 hk4)
   have hxr2:Ext wr w2:=inferInstance
   have hda:(dc==a)=false:=by simp;omega
   have hkq:k<=dc:=by omega
   go_wp2_with fail
   obtain ⟨l,hl⟩:∃l,l=k-a:=⟨_,rfl⟩
   have HL:=Lib.hid hl
   have hlq:l<=100000:=by omega
   have HF2:Hid (Fm mb w1 w2):=Lib.hid (HF.out.trans (Fm.of_ext hxr2))
   have HM2:Hid (MapC w2 mb 0 []):=Lib.hid (HM.out.ext hxr2)
   have HO2:Hid (Own w2 w1.heap.size 45 3 A pl c (ctF (profM m (L.take a) x))):=Lib.hid (HO.out.ext hxr2)
   try rw [show ((k:Int)-(a:Int)).toNat=l by omega]
   try rw [show k-a=l by omega]
   clear HM HF HO hl
   obtain ⟨wo,rfl⟩:∃wo:World,wo=wr:=⟨_,rfl⟩
   clear c1 c2 c3 c4
   go_loopw [11,12,30] (fun _ _ i wq=>∃j:Nat,j<=l/\i= .int .i64 j/\Hid (MapC wq mb j (((L.drop a).take j).map (keyM m x)))/\Hid (Fm mb w2 wq)) (fun _ _ i _=>l-(intOf i).toNat)
   case atStart=>exact ⟨0,by omega,rfl,HM2,Lib.hid (Fm.refl _ _)⟩
   case round=>
    obtain ⟨j,hj,rfl,HMj,HFj⟩:=hrel
    have hFq:Fm mb w1 wr:=HF2.out.trans HFj.out
    have hx0q:Ext w0 wr:=Fm.ext0 hx01 hmb hFq
    obtain ⟨⟨c1,c2,c3⟩,-,c4⟩:=blk3c (hFq.cells HM1.out HBX.out)
    have oBq:Old w.heap.size wr:=⟨c4⟩
    by_cases hjl:j<l
    ·obtain ⟨y,hy⟩:∃y,L[a+j]? =some y:=⟨_,List.getElem?_eq_getElem (by rw [HQ.out];have :=HL.out;omega)⟩
     obtain ⟨bd',od',B,cb,hA,e0,hB,e2,e3,-⟩:=HS.out.duals.a.at_ (i:=a+j) (r:=applyW m y) (by rw [List.getElem?_map,hy];rfl)
     injection hA with hA
     injection hA with z1 z2
     subst z1 z2
     have hlA:(applyW m y).length=n:=by simp [applyW];exact HMN.out
     rw [hlA] at e0 e2
     have e1:wr.cell? ⟨bd,od+a+j,none⟩=some (.slice B n cb):=by rw [Nat.add_assoc];exact (cellE w0).trans e0
     obtain ⟨v,hv⟩:∃v,dotL (applyL m y) x=v:=⟨_,rfl⟩
     have hvb:=HIB.out y (List.mem_of_getElem? hy)
     rw [hv] at hvb
     have hdw:dotW (applyW m y) x=v:=by rw [dotW_apply];unfold dotW;rw [hv];exact IntWalk.i64_in _ (by omega)
     have HD:=Lib.hid (fun W (e:Ext w0 W)=>fdot_any (w:=W) (c:=cb) (d:=xc) hB HX.out.1 hlA HX.out.2 (Nat.le_refl _) (by omega))
     rw [hdw] at HD
     have hnv:nrm m y=na:=HK3.out (a+j) _ (by omega) (by have :=HL.out;omega) (by rw [List.getElem?_map,hy];rfl)
     have hnab:=HNB.out y (List.mem_of_getElem? hy)
     rw [hnv] at hnab
     obtain ⟨av,hav⟩:∃av,((v.natAbs:Nat):Int)=av:=⟨_,rfl⟩
     have hkey:keyM m x y=(na,av):=by unfold keyM;rw [hnv,hv,hav]
     have hkw:KcW (na,av):=by
      have e1:IntKind.i64.min=-9223372036854775808:=rfl
      have e2:IntKind.i64.max=9223372036854775807:=rfl
      refine ⟨?_,?_⟩<;>simp [Lit.wf]<;>omega
     have hMj:=HMj.out
     have hKS:((L.drop a).take (j+1)).map (keyM m x)=((L.drop a).take j).map (keyM m x)++[(na,av)]:=by
      rw [List.take_add_one,List.getElem?_drop,hy,List.map_append]
      simp [hkey]
     have hSl:(((L.drop a).take j).map (keyM m x)).length<=j:=by simp;omega
     have HKS:=Lib.hid hKS
     clear hKS
     generalize ((L.drop a).take j).map (keyM m x)=S at*
     have hcnt:(S.count (na,av):Int)<=100000:=by have :=List.count_le_length (a:=(na,av)) (l:=S);omega
     have hlook0:(Instr.lookup 75 (.map (some mb)) (.agg #[.int .i64 na,.int .i64 av,.int .i64 0]) false).run Tryz.prog wr.drew= .ok (.int .i64 (S.count (na,av))) wr.drew:=MapC.look (w:=wr.drew) hMj hkw
     obtain ⟨v0',st,wE,hE',hMid,hgE⟩:=MapC.entry (w:=wr.drew) hMj (by simp [maxLen];omega) (by omega) hkw
     have hE:(Instr.mapEntry 75 (.map (some mb)) (.agg #[.int .i64 na,.int .i64 av,.int .i64 0])).run Tryz.prog wr.drew= .ok (.tuple #[v0',goInt st]) wE:=hE'
     have hlook1:(Instr.lookup 75 (.map (some mb)) (.agg #[.int .i64 na,.int .i64 av,.int .i64 0]) false).run Tryz.prog wE= .ok (.int .i64 (S.count (na,av))) wE:=hMid.look
     obtain ⟨es1,cl1,hb1,hst⟩:=hMid.store
     obtain ⟨w3,hS3',hM3,hg3⟩:=hst wE hb1
     have hS3:(Instr.entryStore 75 (.map (some mb)) (.int .i64 st) (.int .i64 ((S.count (na,av):Int)+1))).run Tryz.prog wE= .ok () w3:=hS3'
     clear hS3'
     have hF3:Fm mb wr w3:=(Fm.of_ext (inferInstance:Ext wr wr.drew)).trans ((Fm.of_grown hgE).trans (Fm.of_grown hg3))
     have hbn:bn≠mb:=by omega
     have hbw:w.heap.size≠mb:=by omega
     have n5q:wr.cell? ⟨bn,on+a,none⟩=some (.int .i64 na):=(cellE w0).trans n5
     have n5E:wE.cell? ⟨bn,on+a,none⟩=some (.int .i64 na):=(World.cell?_of_block (hgE.block bn (Nat.lt_of_lt_of_le n6 hx0q.size) (fun h=>hbn (by injection h)))).trans n5q
     have c2E:wE.cell? ⟨w.heap.size,1,none⟩=some (.slice (some ⟨bn,on,none⟩) q nc):=(World.cell?_of_block (hgE.block w.heap.size c4 (fun h=>hbw (by injection h)))).trans c2
     have hcw:IntKind.i64.wrap ((S.count (na,av):Int)+1)=(S.count (na,av):Int)+1:=IntWalk.i64_in _ (by omega)
     have HM3:=Lib.hid hM3
     have HF3:=Lib.hid hF3
     generalize S.count (na,av)=cnt at*
     clear hst hb1 hMid hE' hgE hg3 hM3 hF3 hMj hkey
     have HAV:=Lib.hid hav
     clear hav hv hdw hkw hnab hcnt hy hB e0 hlA hSl
     by_cases hneg:v<0
     ·have hwn:IntKind.i64.wrap (-v)=av:=by
       have h1:=HAV.out
       rw [IntWalk.i64_in _ (by omega)];omega
      go_upto_region 11 with (go_at_call 62;refine (HD.out _ inferInstance).mono ?_;rintro e w5 ⟨rfl,rfl⟩)
      go_region
      all_goals
       clear hE hlook0 hlook1 hS3 n5q n5E c2E
       go_wp2_with fail
       exact ⟨⟨j+1,by omega,by go_num,Lib.hid (by rw [HKS.out];exact HM3.out),Lib.hid (HFj.out.trans HF3.out)⟩,by simp [intOf];omega⟩
     ·have hvn:v=av:=by have h1:=HAV.out;omega
      subst hvn
      go_upto_region 11 with (go_at_call 62;refine (HD.out _ inferInstance).mono ?_;rintro e w5 ⟨rfl,rfl⟩)
      go_region
      all_goals
       clear hE hlook0 hlook1 hS3 n5q n5E c2E
       go_wp2_with fail
       exact ⟨⟨j+1,by omega,by go_num,Lib.hid (by rw [HKS.out];exact HM3.out),Lib.hid (HFj.out.trans HF3.out)⟩,by simp [intOf];omega⟩
    ·obtain rfl:j=l:=by omega
     clear hjl hj
     obtain ⟨S,hS⟩:∃S,S=((L.drop a).take j).map (keyM m x):=⟨_,rfl⟩
     have HSE:=Lib.hid hS
     have hMS:=HMj.out
     rw [<-hS] at hMS
     clear hS HMj
     obtain ⟨wR,cnt0,hR,hRng,hgR,hsR⟩:=hMS.range
     have HRng:=Lib.hid hRng
     have hc0:cnt0<=j:=hRng.cnt_le
     have hxR:Ext wr wR:=⟨⟨hgR.os,hgR.tape,hgR.output,hgR.size,fun b hb=>hgR.block b hb (by simp)⟩⟩
     have hOq:Own wr w1.heap.size 45 3 A pl c (ctF (profM m (L.take a) x)):=HFj.out.own HM2.out HO2.out
     have hOR:=hOq.ext hxR
     have HOR:=Lib.hid hOR
     have HFR:Hid (Fm mb w1 wR):=Lib.hid (hFq.trans (Fm.of_ext hxR))
     obtain ⟨wq,hwq⟩:∃wq:World,wq=wr:=⟨_,rfl⟩
     have hrg:w1.heap.size<=wr.heap.size:=hFq.size
     obtain ⟨it,hit⟩:∃it,it=wr.heap.size:=⟨_,rfl⟩
     rw [<-hit] at hR HRng hrg
     have HIT:=Lib.hid hit
     clear hOq hOR hRng hgR hMS hwq hit
     obtain ⟨P,hP⟩:∃P,P=profM m (L.take a) x:=⟨_,rfl⟩
     have HP:=Lib.hid hP
     rw [<-hP] at HOR HPL
     clear hP HO2
     have hplb:pl<=100000:=by
      have h1:=prof_len m (L.take a) x
      rw [<-HP.out,HPL.out,List.length_take] at h1
      omega
     go_upto_region 15 with fail
     go_loopw [7,14,15] (fun p _ _ wz=>∃(ks:List Kc) (A':Option Addr) (c' cnt:Nat),p= .slice A' (pl+ks.length) c'/\ks.length+cnt<=cnt0/\Hid (Own wz w1.heap.size 45 3 A' (pl+ks.length) c' (ctF P++ctF (ks.map fun k=>(k,(S.count k:Int)))))/\Hid (RngC wz mb it j S ks cnt)/\Hid (Fm mb w1 wz)) (fun _ _ _ wz=>wz.rangeLeft mb it)
     case atStart=>exact ⟨[],A,c,cnt0,rfl,by simp,Lib.hid (by have h:=HOR.out;simpa [ctF] using h),HRng,HFR⟩
     case round=>
      obtain ⟨ks,A',c',cnt,rfl,hkc,HOz,HRz,HFz⟩:=hrel
      have hx0z:Ext w0 wr:=Fm.ext0 hx01 hmb HFz.out
      rcases HRz.out.next 0 with ⟨hall,hrun⟩ |⟨k1,w5,cnt1,hkS,hrun,hR1,hlt1,hg1,hsz1,hen⟩
      ·have hSl:S.length=j:=by
        have h1:=HL.out
        have h2:=HQ.out
        rw [HSE.out,List.length_map,List.length_take,List.length_drop]
        omega
       have hkl:0<ks.length:=by
        obtain ⟨k0,hk0⟩:∃k0,k0∈S:=⟨S[0]'(by have :=HL.out;omega),List.getElem_mem _⟩
        exact List.length_pos_of_mem (hall k0 hk0)
       obtain ⟨g,cur,rfl,hbg,hgc,hnc,hcel⟩:=own_block HOz.out (by omega)
       obtain ⟨els,hels⟩:∃els:List Ct,els=ks.map fun k=>(k,(S.count k:Int)):=⟨_,rfl⟩
       have hel:els.length=ks.length:=by rw [hels];simp
       rw [<-hels] at hcel
       have hcap:=HOz.out.cap
       have HSO:Hid (Calls Tryz.prog 64 #[.slice (some ⟨g,pl*3,none⟩) ks.length (c'-pl),.func (.func 65) #[] #[]] wr fun e w'=>e= .returned (.tuple #[])/\∃(els':List Ct) (cur':Array Value),els'.Perm els/\els'.Pairwise (fun x y=>¬cmpC y x<0)/\w'.heap[g]? =some (.cells cur' 45 (0,0))/\cur'.size=cur.size/\(∀j u,(ctF els')[j]? =some u->cur'[pl*3+j]? =some u)/\(∀j,j<pl*3->cur'[j]? =cur[j]?)/\(∀b,b<wr.heap.size->b≠g->w'.heap[b]? =wr.heap[b]?)/\∀B,B<=g->Below B wr w'):=Lib.hid (by
        rw [<-hel]
        refine SortC_any hgc (fun j' u hu=>hcel _ u ?_) (by omega)
        rw [List.getElem?_append_right (by rw [ctF_len,HPL.out];omega),ctF_len,HPL.out,show pl*3+j'-pl*3=j' by omega]
        exact hu)
       have hcp:(c'==pl)=false:=by simp;omega
       have hgm:mb≠g:=fun e=>HRz.out.map.not_cells (by rw [e];exact hgc)
       have HEL:=Lib.hid hels
       have HALL:=Lib.hid hall
       have HGC:=Lib.hid hgc
       have hmbr:mb<wr.heap.size:=HRz.out.map.lt
       have hsub:pl+ks.length-pl=ks.length:=by omega
       clear hcel hels hel hall hgc
       go_upto_region 20 with (go_at_call 64;refine HSO.out.mono ?_;rintro e w6 ⟨rfl,els',cur',p1,p2,p3,p4,p5,p6,p7,p8⟩;obtain ⟨wC,hC,hMC,hgC⟩:=(HRz.out.map.at_block (p7 mb hmbr hgm)).clear)
       have hM6:=HRz.out.map.at_block (p7 mb hmbr hgm)
       have HM6:=Lib.hid hM6
       have HMC:=Lib.hid hMC
       have HGC2:=Lib.hid hgC
       have HP7:=Lib.hid p8
       have HP5:=Lib.hid (And.intro p5 p6)
       have HP2:=Lib.hid (And.intro p1 p2)
       have HP3:=Lib.hid (And.intro p3 p4)
       clear hM6 hMC hgC p8 p5 p6 p7 p1 p2 p3 p4 HSO
       go_wp2_with fail
       have hown6:Own w6 w1.heap.size 45 3 (some ⟨g,0,none⟩) (pl+ks.length) c' (ctF P++ctF els'):=own_sorted (p:=P) (els:=els) (by rw [HEL.out];exact HOz.out) HP2.out.1 HGC.out HP3.out.1 HP3.out.2 (by rw [HPL.out];exact HP5.out.1) (by rw [HPL.out];exact HP5.out.2)
       have hfC:Fm mb w6 wC:=Fm.of_grown HGC2.out
       have hownC:=hfC.own HM6.out hown6
       have hbd:Bdry (L.map (nrm m)) k:=Bdry.end_ HSR.out hk1 HNSA.out (fun i y h1 h2 h3=>HK3.out i y h1 h2 h3) HK4.out
       have hks:=HRz.out.keys
       have hdt:(L.take k).drop a=(L.drop a).take j:=by
        rw [List.drop_take,HL.out]
       have hpr:els'=profM m ((L.take k).drop a) x:=by
        rw [hdt]
        unfold profM
        rw [<-HSE.out]
        exact counts_sorted hks.1 hks.2 HALL.out (by rw [<-HEL.out];exact HP2.out.1) (HP2.out.2.imp fun h=>by omega)
       have hsh:=prof_shell (x:=x) (show a<=k by omega) HB.out
       rw [<-hpr,<-HP.out] at hsh
       have hle:(profM m (L.take k) x).length=pl+ks.length:=by
        rw [hsh,List.length_append,HPL.out,HP2.out.1.length_eq,HEL.out,List.length_map]
       refine ⟨⟨k,pl+ks.length,c',some ⟨g,0,none⟩,hk2,rfl,Lib.hid hbd,rfl,Lib.hid hle,Lib.hid ?_,HMC,Lib.hid ((HFz.out.new (HP7.out _ hbg)).trans hfC)⟩,by simp [intOf];omega⟩
       rw [hsh,ctF_append]
       exact hownC
      ·unfold ctK at hrun hen
       have HO5:Hid (Own w5 w1.heap.size 45 3 A' (pl+ks.length) c' (ctF P++ctF (ks.map fun k=>(k,(S.count k:Int))))):=Lib.hid (own_iter hg1 (fun cs T fr=>HRz.out.iter) HOz.out)
       have HF5:Hid (Fm mb w1 w5):=Lib.hid (HFz.out.new ⟨hg1.os,hg1.tape,hg1.output,hg1.size,fun b hb=>hg1.block b (Nat.lt_of_lt_of_le hb HFz.out.size) (fun e=>by injection e with e;omega)⟩)
       have HR5:=Lib.hid hR1
       have HLQ:Hid (w5.rangeLeft mb it<wr.rangeLeft mb it):=Lib.hid (by rw [hR1.left_eq,HRz.out.left_eq];exact hlt1)
       have HRS:=Lib.hid (show ctF P++ctF (ks.map fun k=>(k,(S.count k:Int)))++[.int .i64 k1.1,.int .i64 k1.2,.int .i64 (S.count k1)]=ctF P++ctF ((ks++[k1]).map fun k=>(k,(S.count k:Int))) by
        rw [List.map_append,ctF_append,List.append_assoc];rfl)
       generalize hcn:(S.count k1:Int)=cn at*
       have hs5:=HF5.out.size
       clear hR1 hg1 hkS hx0z hsz1
       go_upto_region 18 with fail
       go_wp2_with (at_builtin;go_loud (refine wpList_app _ rfl _ _ 30 rfl w1.heap.size 45 (.agg #[.int .i64 0,.int .i64 0,.int .i64 0]) 3 24 Tryz.underlying30 infoCt rfl (by omega) (by omega) A' (pl+ks.length) c' _ rfl (HO5.out.ext inferInstance) (some ⟨w5.heap.size+1,0,none⟩) 1 1 [.int .i64 k1.1,.int .i64 k1.2,.int .i64 cn] rfl (by have h:=Arr.new (w5.alloc (.cells #[.int .i64 k1.1,.int .i64 k1.2,.int .i64 cn] 45)) 45 #[.int .i64 k1.1,.int .i64 k1.2,.int .i64 cn];rw [World.size_alloc] at h;exact h) (by simp) (by simp [Value.oneCell']) (by omega) (by simp;omega) ?_);intro A6 c6 w6 hown hg6)
       have hxb:Ext w5 ((w5.alloc (.cells #[.int .i64 k1.1,.int .i64 k1.2,.int .i64 cn] 45)).alloc (.cells #[.int .i64 k1.1,.int .i64 k1.2,.int .i64 cn] 45)):=inferInstance
       have hR6:=(HR5.out.ext hxb).grow hg6
       rw [HRS.out] at hown
       refine ⟨⟨ks++[k1],A6,c6,cnt1,by simp [Nat.add_assoc],by simp;omega,Lib.hid (by rw [List.length_append,<-Nat.add_assoc];exact hown),Lib.hid hR6,Lib.hid ((HF5.out.trans (Fm.of_ext hxb)).new (hg6.below.mono (Nat.le_refl _)))⟩,?_⟩
       rw [hR6.left_eq,HRz.out.left_eq]
       exact hlt1
  ·obtain rfl:a=q:=by omega
   clear hlt
   have hfin:L.take a=L:=List.take_of_length_le (by rw [HQ.out];exact Nat.le_refl _)
   have HPL2:=HPL.out
   have HO2:=HO.out
   rw [hfin] at HPL2 HO2
   go_wp2_with fail
   go_ret
   rw [HPL2]
   exact ⟨A,c,rfl,HO2.lower (by omega),HM.out,(Fm.of_ext hx1).trans HF.out⟩
theorem vValid_any {w0 w:World} {A X:Option Addr} {c d:Nat} {m:List (List Int)} {x:List Int} (hM:MatA w0 A m) (hlen:m.length<=1099511627776) (hc:m.length<=c) (hc2:c<=9223372036854775807) (hr:isRedB m=true) (hX:Ints w0 X 2 .i64 x) (hl:x.length<=1099511627776) [hx:Ext w0 w]:
  Calls Tryz.prog 105 #[.slice A m.length c,.slice X x.length d] w (RetVal w (.bool (fitsB m.length x))):=by
 have hred:=fun W (e:Ext w0 W)=>IsReduced_any (w:=W) hM hlen hc hc2
 rw [hr] at hred
 have HR:=Lib.hid hred
 have HF:=Lib.hid (fun W (e:Ext w0 W)=>fits_any (w:=W) (c:=d) (n:=m.length) hX hl)
 clear hred hM hX hr
 generalize fitsB m.length x=r at*
 generalize x.length=xl at*
 go_enter Tryz.func105,Tryz.ntmps105
 go_wp2_with (first
  |(go_at_call 147;refine (HR.out _ inferInstance).mono ?_;rintro e w1 ⟨rfl,hs1⟩)
  |(go_at_call 106;refine (HF.out _ inferInstance).mono ?_;rintro e w2 ⟨rfl,rfl⟩))
 go_ret
 exact ⟨rfl,Step.of _ _⟩
theorem vNorm_ok {w0 w:World} {A X:Option Addr} {c d:Nat} {m:List (List Int)} {x:List Int} (hM:MatA w0 A m) (hc:m.length<=c) (hc2:c<=9223372036854775807) (hR:RedM m) (hX:Ints w0 X 2 .i64 x) (hxl:x.length=m.length) (hb:∀y∈x,-1099511627776<=y/\y<=1099511627776) [hx:Ext w0 w]:
  Calls Tryz.prog 36 #[.slice A m.length c,.slice X x.length d] w (RetVal w (.tuple #[.int .i64 (if dotB (nrm m x) then nrm m x else 0),.bool (dotB (nrm m x))])):=by
 obtain ⟨u,hu⟩:∃u,u=(if dotB (nrm m x)=true then nrm m x else 0):=⟨_,rfl⟩
 obtain ⟨r,hr'⟩:∃r,r=dotB (nrm m x):=⟨_,rfl⟩
 rw [<-hu,<-hr']
 have h8:=hR.n8
 have hfit:fitsB m.length x=true:=by
  rw [fitsB_eq hxl]
  exact inRangeB_iff.2 hb
 have hv:=fun W (e:Ext w0 W)=>vValid_any (w:=W) (c:=c) (d:=d) hM (by omega) hc hc2 hR.red hX (by omega)
 have hf:=fun W (e:Ext w0 W)=>fits_any (w:=W) (c:=d) (n:=m.length) hX (by omega)
 rw [hfit] at hv hf
 have HV:=Lib.hid hv
 have HF:=Lib.hid hf
 have HA:=Lib.hid (fun W (e:Ext w0 W)=>apply_any (w:=W) (c:=c) (d:=d) hM hX hR.all hxl h8 hR.ent hb)
 have HD:Hid (∀W Y dy,Ext w0 W->Ints W Y 2 .i64 (applyL m x)->Calls Tryz.prog 107 #[.slice X x.length d,.slice Y (applyL m x).length dy] W (RetVal W (.tuple #[.int .i64 u,.bool r]))):=Lib.hid (fun W Y dy e hY=>by
  have h:=dot_any (w0:=W) (w:=W) (c:=d) (d:=dy) (hX.ext e) hY (by rw [applyL_length,hxl]) (by omega) hb (fun z hz=>by
   obtain ⟨r,hr,rfl⟩:=List.mem_map.1 hz
   have hb:=dotL_bound (A:=262144) (B:=1099511627776) (by omega) (by omega) r x (hR.ent r hr) hb
   have hrl:=hR.all r hr
   omega)
  rw [applyL_length,<-hxl]
  exact h.mono fun e w' ⟨he,hs⟩=>⟨by rw [he,hu,hr'];rfl,hs⟩)
 unfold RetClone at HA
 clear hu hr'
 obtain ⟨al,hal⟩:∃al,(applyL m x).length=al:=⟨_,rfl⟩
 rw [hal] at HA HD
 generalize applyL m x=Y at*
 clear hv hf hfit hM hX hR hb hal
 rw [hxl] at*
 generalize m.length=n at*
 have HI:Hid (∀W,Ext w0 W->Calls Tryz.prog 63 #[.slice A n c,.slice X n d,.slice X n d] W (RetVal W (.tuple #[.int .i64 u,.bool r]))):=Lib.hid (fun W e=>by
  go_enter Tryz.func63,Tryz.ntmps63
  go_wp2_with (first
   |(go_at_call 105;refine (HV.out _ inferInstance).mono ?_;rintro e w1 ⟨rfl,hs1⟩)
   |(go_at_call 106;refine (HF.out _ inferInstance).mono ?_;rintro e w2 ⟨rfl,rfl⟩)
   |(go_at_call 108;refine (HA.out _ inferInstance).mono ?_;rintro e w3 ⟨B3,d3,rfl,hI3,-,-,hs3⟩)
   |(go_at_call 107;refine (HD.out _ _ _ inferInstance hI3).mono ?_;rintro e w4 ⟨rfl,hs4⟩))
  go_ret2
  exact ⟨rfl,Step.of _ _⟩)
 clear HV HF HA HD
 go_enter Tryz.func36,Tryz.ntmps36
 go_wp2_with (go_at_call 63;refine (HI.out _ inferInstance).mono ?_;rintro e w1 ⟨rfl,hs1⟩)
 go_ret2
 exact ⟨rfl,Step.of _ _⟩
structure PrfL (m L:List (List Int)):Prop where
 len:L.length<=100000
 rows:∀y∈L,y.length=m.length
 srt:(L.map (nrm m)).Pairwise (·<=·)
 nb:∀y∈L,0<=nrm m y/\nrm m y<=4611686018427387904
def InnB (m L:List (List Int)) (x:List Int):Prop:=∀y∈L,-4611686018427387904<=dotL (applyL m y) x/\dotL (applyL m y) x<=4611686018427387904
def RetPf (w:World) (m:List (List Int)) (P:List (List Int)->Prop) (x:List Int) (e:Ending) (w':World):Prop:=
 ∃A c L,e= .returned (.tuple #[.slice A (profM m L x).length c,.int .i64 0])/\P L/\Own w' w.heap.size 45 3 A (profM m L x).length c (ctF (profM m L x))/\Step w w'
set_option maxRecDepth 20000 in
theorem fProfile_ok {w0 w:World} {A X:Option Addr} {c d:Nat} {b u:Int} {m:List (List Int)} {x:List Int} {P:List (List Int)->Prop} (hM:MatA w0 A m) (hc:m.length<=c) (hc2:c<=9223372036854775807) (hR:RedM m) (hX:Ints w0 X 2 .i64 x) (hxl:x.length=m.length) (hb:∀y∈x,-1099511627776<=y/\y<=1099511627776) (hnb:dotB (nrm m x)=true)
  (hvec:∀W,Ext w0 W->Calls Tryz.prog 60 #[.slice A m.length c,.int .i64 b,.int .i64 u] W (RetVQ W P)) (hP:∀L,P L->PrfL m L/\InnB m L x) [hx:Ext w0 w]:
  Calls Tryz.prog 15 #[.slice A m.length c,.int .i64 b,.int .i64 u,.slice X x.length d] w (RetPf w m P x):=by
 have h8:=hR.n8
 have hall:∀r∈m,r.length<=m.length:=fun r hr=>Nat.le_of_eq (hR.all r hr)
 have hPN:∀L,P L->L.length<=100000/\(∀y∈L,y.length=m.length)/\∀y∈L,-9223372036854775808<=nrm m y/\nrm m y<=9223372036854775807:=fun L hL=>by
  obtain ⟨⟨h1,h2,-,h4⟩,-⟩:=hP L hL
  exact ⟨h1,h2,fun y hy=>by have :=h4 y hy;omega⟩
 have HNS:Hid (∀W,Ext w0 W->Calls Tryz.prog 35 #[.slice A m.length c,.int .i64 b,.int .i64 u] W (RetSys W m P)):=Lib.hid (fun W e=>newSystem_ok (w:=W) hM (by omega) hall hvec hPN)
 clear hall hPN
 have hn:=fun W (e:Ext w0 W)=>vNorm_ok (w:=W) (c:=c) (d:=d) hM hc hc2 hR hX hxl hb
 rw [hnb,if_pos rfl,hxl] at hn
 rw [hxl]
 have HN:=Lib.hid hn
 have HPR:Hid (∀(W0 W:World) (LA NA DA:Option Addr) (lc nc dc mb:Nat) (L:List (List Int)),P L->SysV W0 m L LA NA DA->L.length<=dc->dc<=9223372036854775807->Ext w0 W0->Ext W0 W->W0.heap.size<=mb->MapC W mb 0 []->Calls Tryz.prog 37 #[.agg #[.slice LA L.length lc,.slice NA L.length nc,.slice DA L.length dc],.slice X m.length d,.map (some mb)] W (RetPrf W mb (profM m L x))):=Lib.hid (fun W0 W LA NA DA lc nc dc mb L hL hS h1 h2 e0 e1 hmb hMC=>by
  obtain ⟨hp,hi⟩:=hP L hL
  have h:=fprofile_ok (w0:=W0) (w:=W) (lc:=lc) (nc:=nc) (dc:=dc) (xc:=d) (n:=m.length) hS rfl hp.len h1 h2 rfl (by omega) hp.srt ⟨_,hX.ext e0⟩ hxl hp.nb hi hmb hMC
  exact h)
 clear hn hP hvec hM hX hb hnb hR hxl
 unfold RetSys at HNS
 unfold RetPrf at HPR
 unfold RetPf
 generalize m.length=n at*
 have hmk:=@run_makeMap Tryz.prog
 go_enter Tryz.func15,Tryz.ntmps15
 go_upto_region 7 with (first
  |(go_at_call 35;refine (HNS.out _ inferInstance).mono ?_;rintro e w1 ⟨LA,NA,DA,lc,nc,dc,L,rfl,hS,hPL,-,-,-,-,hd1,hd2,hs1⟩;have HSY:=Lib.hid hS;have HPL:=Lib.hid hPL;clear hS hPL)
  |(go_at_call 36;refine (HN.out _ inferInstance).mono ?_;rintro e w2 ⟨rfl,hs2⟩))
 have hx2:Ext w w2:=(inferInstance:Ext w (w1.alloc (.cells #[.slice LA L.length lc,.slice NA L.length nc,.slice DA L.length dc] 70))).trans inferInstance
 have hx12:Ext w1 w2:=inferInstance
 have HPC:=Lib.hid (HPR.out w2 (w2.alloc (.map #[] 0)) LA NA DA lc nc dc w2.heap.size L HPL.out (HSY.out.ext hx12) hd1 hd2 (hx.trans hx2) inferInstance (Nat.le_refl _) (MapC.made w2))
 clear HPR HN HNS
 go_wp2_with (go_at_call 37;refine HPC.out.mono ?_;rintro e w3 ⟨A3,c3,rfl,hO3,hM3,hF3⟩)
 go_ret2
 have hx3:Ext w w3:=Fm.ext0 (hx2.trans inferInstance) hx2.size hF3
 have hsz:=hx2.size
 exact ⟨A3,c3,L,rfl,HPL.out,hO3.lower (by simp;omega),hx3.toStep⟩
structure ME where
 i:Int
 A:Option Addr
 c:Nat
 p:List Ct
def ME.enc (x:ME):List Value:=[.int .i64 x.i,.slice x.A x.p.length x.c]
def ME.ok (w:World) (x:ME):Prop:=Arr w x.A 45 (ctF x.p)/\x.p.length<=1099511627776
theorem ME.ok.ext {w w':World} {x:ME} (h:x.ok w) (hx:Ext w w'):x.ok w':=⟨h.1.ext hx,h.2⟩
theorem ME.ok.ct {w:World} {x:ME} (h:x.ok w):CtV w x.A x.p:=⟨_,h.1⟩
theorem GrowD.alloc (w:World) (o:Obj):GrowD w (w.alloc o):=⟨0,#[o],by rw [Sort.alloc_eq_grow];rfl⟩
theorem members1_any {w:World} {x y:ME} (hx:x.ok w) (hy:y.ok w):
  Calls Tryz.prog 68 #[.agg #[.int .i64 x.i,.slice x.A x.p.length x.c],.agg #[.int .i64 y.i,.slice y.A y.p.length y.c]] w fun e w'=>e= .returned (.int .i64 (cmpP x.p y.p))/\GrowD w w':=by
 have HC:=Lib.hid (fun W (e:Ext w W)=>compareProfiles_any (w:=W) (c:=x.c) (d:=y.c) (hx.ext e).ct (hy.ext e).ct hx.2 hy.2)
 obtain ⟨xi,xA,xc,xp⟩:=x
 obtain ⟨yi,yA,yc,yp⟩:=y
 simp only at HC |-
 generalize cmpP xp yp=r at*
 generalize xp.length=xl at*
 generalize yp.length=yl at*
 have hg2:GrowD w ((w.alloc (.cells #[.int .i64 xi,.slice xA xl xc] 82)).alloc (.cells #[.int .i64 yi,.slice yA yl yc] 82)):=(GrowD.alloc w _).trans (GrowD.alloc _ _)
 clear hx hy
 go_enter Tryz.func68,Tryz.ntmps68
 go_wp2_with (go_at_call 42;refine (HC.out _ inferInstance).mono ?_;rintro e w1 ⟨rfl,hG⟩)
 go_ret
 exact ⟨rfl,hg2.trans hG⟩
def MRow (w:World) (g:Nat) (els:List ME):Prop:=∃cur,w.heap[g]? =some (.cells cur 82 (0,0))/\∀(i:Nat) (x:ME),els[i]? =some x->cur[2*i]? =some (.int .i64 x.i)/\cur[2*i+1]? =some (.slice x.A x.p.length x.c)
structure MEw (w:World) where
 val:ME
 ok:val.ok w
instance (w:World):Inhabited (MEw w):=⟨⟨⟨0,none,0,[]⟩,Arr.nil,by simp⟩⟩
def encM (w:World) (x:MEw w):List Value:=x.val.enc
def cfM (w:World) (x y:MEw w):Int:=cmpP x.val.p y.val.p
theorem cmpP_swo (w:World):Sort.SWO (ltOf (cfM w)) where
 irrefl x:=by
  have :=(cmpP_zero x.1.p x.1.p).2 rfl
  simp [ltOf,cfM,this]
 trans x y z h1 h2:=by
  have h1:cmpP x.1.p y.1.p<0:=of_decide_eq_true h1
  have h2:cmpP y.1.p z.1.p<0:=of_decide_eq_true h2
  have a1:lessQ x.1.p y.1.p=true:=by rw [<-cmpP_neg];exact decide_eq_true h1
  have a2:lessQ y.1.p z.1.p=true:=by rw [<-cmpP_neg];exact decide_eq_true h2
  have a3:=lessQ_trans a1 a2
  rw [<-cmpP_neg] at a3
  exact a3
 ntrans x y z h1 h2:=by
  have h1:¬cmpP x.1.p y.1.p<0:=of_decide_eq_false h1
  have h2:¬cmpP y.1.p z.1.p<0:=of_decide_eq_false h2
  refine decide_eq_false (fun (h3:cmpP x.1.p z.1.p<0)=>?_)
  have a3:lessQ x.1.p z.1.p=true:=by rw [<-cmpP_neg];exact decide_eq_true h3
  have b1:x.1.p=y.1.p∨lessQ y.1.p x.1.p=true:=by rcases cmpP_cases x.1.p y.1.p with ⟨-,h⟩ |⟨h,-⟩ |⟨h,-⟩<;>first |exact .inl h |exact .inr h |omega
  have b2:y.1.p=z.1.p∨lessQ z.1.p y.1.p=true:=by rcases cmpP_cases y.1.p z.1.p with ⟨-,h⟩ |⟨h,-⟩ |⟨h,-⟩<;>first |exact .inl h |exact .inr h |omega
  have no:∀a:List Ct,lessQ a a=true->False:=fun a h=>by rw [lessQ_self] at h;cases h
  rcases b1 with b1 |b1
  ·rcases b2 with b2 |b2
   ·rw [b1,b2] at a3;exact no _ a3
   ·rw [b1] at a3;exact no _ (lessQ_trans a3 b2)
  ·rcases b2 with b2 |b2
   ·rw [<-b2] at a3;exact no _ (lessQ_trans a3 b1)
   ·exact no _ (lessQ_trans a3 (lessQ_trans b2 b1))
theorem ME.ok_sort {α:Type} [Inhabited α] (enc:α->List Value) (k:Nat) {w:World} {g m:Nat} {d:Array α} {os:Array Obj} {cur:Array Value} (hg:w.heap[g]? =some (.cells cur 82 (0,0))) {x:ME} (h:x.ok w):x.ok (sortWorldK enc k w g 0 m d os):=by
 refine ⟨h.1.keep fun b cs fr hb=>sortWorld_heap enc k w g m d os (lt_of_heap hb) (fun hh=>?_),h.2⟩
 subst hh
 rw [hg] at hb
 injection hb with hb
 injection hb with _ he
 exact absurd he (by decide)
theorem InsM_any {w:World} {g cap:Nat} {els:List ME} (hrow:MRow w g els) (hok:∀x∈els,x.ok w) (hn:els.length<4611686018427387904):
  Calls Tryz.prog 173 #[.slice (some ⟨g,0,none⟩) els.length cap,.int .i64 0,.int .i64 els.length,.func (.func 68) #[] #[]] w fun e w'=>e= .returned (.tuple #[])/\∃els':List ME,els'.Perm els/\els'.Pairwise (fun x y=>¬cmpP y.p x.p<0)/\MRow w' g els'/\(∀x∈els',x.ok w')/\Same g w w':=by
 obtain ⟨cur,hg,hcur⟩:=hrow
 obtain ⟨D,hD⟩:∃D:List (MEw w),D.map MEw.val=els:=⟨els.pmap MEw.mk hok,by rw [List.map_pmap];simp⟩
 have hDl:D.length=els.length:=by rw [<-hD];simp
 have hcmp:CmpLays Tryz.prog 68 #[] (encM w) 2 (cfM w) g 0 D.toArray.size w:=fun m os dk _ x y=>by
  have hx:=ME.ok_sort (encM w) 2 (m:=m) (d:=dk) (os:=os) hg x.ok
  have hy:=ME.ok_sort (encM w) 2 (m:=m) (d:=dk) (os:=os) hg y.ok
  exact members1_any hx hy
 have hH:Sort.HoldsK (encM w) 2 w g 0 D.toArray:=fun j hj=>by
  rw [Sort.size_flatK] at hj
  have hj2:j / 2<D.length:=by simp at hj;omega
  obtain ⟨x,hx⟩:∃x,D[j / 2]? =some x:=⟨_,List.getElem?_eq_getElem hj2⟩
  have hel:els[j / 2]? =some x.val:=by rw [<-hD,List.getElem?_map,hx];rfl
  have hc:=hcur (j / 2) _ hel
  have e1:(Sort.flatK (encM w) 2 D.toArray)[j]! =(x.val.enc)[j%2]! :=by
   rw [Sort.get_flatK _ _ _ _ (by simpa using hj)]
   have :D.toArray[j / 2]! =x:=by simp [hx]
   rw [this];rfl
  refine ⟨?_,by simp [World.frozen?,hg]⟩
  rw [id,e1,Nat.zero_add,cell_of_row w g j _ _ _ hg]
  rcases Nat.mod_two_eq_zero_or_one j with h0 |h0
  ·rw [h0]
   have :=hc.1
   rw [show 2*(j / 2)=j by omega] at this
   exact this
  ·rw [h0]
   have :=hc.2
   rw [show 2*(j / 2)+1=j by omega] at this
   exact this
 have h:=AnyQ.insertionSortCmpFunc (P:=Tryz.prog) Tryz.laysIns 2 Tryz.isAgg82 Tryz.sizeOf82 (encM w) (fun x=>rfl) (fun x v hv=>by
   simp only [encM,ME.enc,List.mem_cons,List.not_mem_nil,or_false] at hv
   rcases hv with rfl |rfl<;>rfl) (cfM w) 68 #[] g 0 cap 0 els.length D.toArray w (enters_of Tryz.func68 (by kernel_rfl) rfl) hcmp hH (lt_of_heap hg) (Nat.zero_le _) (by simp [hDl]) (by simpa [hDl] using hn)
 have e0:D.toArray.size=els.length:=by simpa using hDl
 rw [e0] at h
 refine h.mono ?_
 rintro e w' ⟨he,n,os,hw⟩
 obtain ⟨⟨hp1,-,hp2⟩,hs⟩:=Sort.insertionSort_holds (cmpP_swo w) D.toArray 0 els.length (Nat.zero_le _) (by rw [e0];exact Nat.le_refl _)
 generalize Sort.insertionSort (ltOf (cfM w)) D.toArray 0 els.length=d' at*
 rw [e0] at hp1
 refine ⟨he,d'.toList.map MEw.val,?_,?_,?_,?_,?_⟩
 ·have e1:d'.extract 0 els.length=d':=by apply Array.ext';simp;rw [List.take_of_length_le (by simp;omega)]
  have e2:(D.toArray).extract 0 els.length=D.toArray:=by rw [<-e0];exact Array.extract_size
  rw [e1,e2] at hp2
  rw [<-hD]
  exact hp2.map _
 ·rw [List.pairwise_map,List.pairwise_iff_getElem]
  intro i j hi hj hij
  have :=hs i j (Nat.zero_le _) hij (by simp at hj;omega)
  have e3:d'[j]! =d'.toList[j]:=by simp at hj;simp [hj]
  have e4:d'[i]! =d'.toList[i]:=by simp at hi;simp [hi]
  rw [e3,e4] at this
  exact of_decide_eq_false this
 ·refine ⟨_,by rw [hw];exact sortWorld_row (encM w) 2 w g n d' os hg,fun i x hx=>?_⟩
  rw [List.getElem?_map] at hx
  obtain ⟨y,hy,rfl⟩:∃y,d'.toList[i]? =some y/\y.val=x:=by
   cases hh:d'.toList[i]? with
   |none=>rw [hh] at hx;cases hx
   |some y=>rw [hh] at hx;exact ⟨y,rfl,by simpa using hx⟩
  have hi:i<d'.size:=by simpa using (List.getElem?_eq_some_iff.1 hy).1
  have hdi:d'[i]! =y:=by
   have :=(List.getElem?_eq_some_iff.1 hy).2
   simp [hi];simpa using this
  have hcs:2*i+1<cur.size:=by
   have hlen:i<els.length:=by omega
   have :=(hcur i els[i] (by simp [hlen])).2
   exact (Array.getElem?_eq_some_iff.1 this).1
  have key:∀t,t<2->(Sort.putCells id 0 (Sort.flatK (encM w) 2 d') cur)[2*i+t]? =some ((y.val.enc)[t]!):=fun t ht=>by
   unfold Sort.putCells
   rw [Array.getElem?_mapIdx,Array.getElem?_eq_getElem (by omega)]
   simp only [Option.map_some]
   rw [if_pos (by rw [Sort.size_flatK];omega),Nat.sub_zero,id,Sort.get_flatK _ _ _ _ (by omega),show (2*i+t) / 2=i by omega,show (2*i+t)%2=t by omega,hdi]
   rfl
  exact ⟨key 0 (by omega),key 1 (by omega)⟩
 ·intro x hx
  obtain ⟨y,-,rfl⟩:=List.mem_map.1 hx
  rw [hw]
  exact ME.ok_sort (encM w) 2 hg y.ok
 ·rw [hw]
  exact ⟨fun b hb hne=>sortWorld_heap _ _ w g n d' os hb hne,fun B hB=>sortWorld_below _ _ w g n d' os hB (lt_of_heap hg)⟩
def RetSrt (w:World) (g:Nat) (els:List ME) (e:Ending) (w':World):Prop:=e= .returned (.tuple #[])/\∃els':List ME,els'.Perm els/\els'.Pairwise (fun x y=>¬cmpP y.p x.p<0)/\MRow w' g els'/\(∀x∈els',x.ok w')/\Same g w w'
theorem stableM_any {w:World} {g cap n:Nat} {els:List ME} (hrow:MRow w g els) (hok:∀x∈els,x.ok w) (hl:els.length=n) (hn:n<20):
  Calls Tryz.prog 113 #[.slice (some ⟨g,0,none⟩) n cap,.int .i64 n,.func (.func 68) #[] #[]] w (RetSrt w g els):=by
 have hi:=InsM_any (cap:=cap) hrow hok (by omega)
 rw [hl] at hi
 have HI:=Lib.hid hi
 unfold RetSrt
 clear hi hrow hok hl
 go_enter Tryz.func113,Tryz.ntmps113
 go_wp2_with fail
 go_loopw [7,8] (fun a b wr=>a= .int .i64 0/\b= .int .i64 20/\wr=w) (fun _ _ _=>0)
 case atStart=>exact ⟨rfl,rfl,rfl⟩
 case round=>
  obtain ⟨rfl,rfl,rfl⟩:=hrel
  have hd:decide ((20:Int)<=(n:Int))=false:=by simp;omega
  have hd2:decide ((20:Int)<(n:Int))=false:=by simp;omega
  go_wp2_with (go_at_call 173;refine HI.out.mono ?_;rintro e w1 ⟨rfl,hp⟩;have HP:=Lib.hid hp;clear hp)
  go_loopw [6,7,8,9] (fun s _ _ _ wr=>s= .int .i64 20/\wr=w1) (fun _ _ _ _ _=>0)
  case atStart=>exact ⟨rfl,rfl⟩
  case round=>
   obtain ⟨rfl,rfl⟩:=hrel
   go_wp2_with fail
   go_end0
   exact ⟨rfl,HP.out⟩
theorem sortStableM_any {w:World} {g cap n:Nat} {els:List ME} (hrow:MRow w g els) (hok:∀x∈els,x.ok w) (hl:els.length=n) (hn:n<20):
  Calls Tryz.prog 67 #[.slice (some ⟨g,0,none⟩) n cap,.func (.func 68) #[] #[]] w (RetSrt w g els):=by
 have HI:=Lib.hid (stableM_any (cap:=cap) hrow hok hl hn)
 unfold RetSrt at*
 clear hrow hok hl
 go_enter Tryz.func67,Tryz.ntmps67
 go_wp2_with (go_at_call 113;refine HI.out.mono ?_;rintro e w1 ⟨rfl,hp⟩)
 go_end0
 exact ⟨rfl,hp⟩
def MemOK (m L:List (List Int)) (a k:Nat) (els:List ME):Prop:=
 (k=a+1/\els=[⟨a,none,0,[]⟩])∨(a+1<k/\(els.map fun x=>(x.i,x.p)).Perm ((List.range (k-a)).map fun j=>(((a+j:Nat):Int),profM m L (L.getD (a+j) [])))/\els.Pairwise (fun x y=>¬cmpP y.p x.p<0))
def RetMem (w:World) (mb:Nat) (m L:List (List Int)) (a k:Nat) (e:Ending) (w':World):Prop:=
 ∃g c els,e= .returned (.slice (some ⟨g,0,none⟩) (List.length els) c)/\w.heap.size<=g/\MRow w' g els/\(∀x∈els,x.ok w')/\MapC w' mb 0 []/\Fm mb w w'/\MemOK m L a k els
def meV (x:ME):List Value:=[.int .i64 x.i,.slice x.A x.p.length x.c]
def meF (l:List ME):List Value:=l.flatMap meV
theorem meF_append (p q:List ME):meF (p++q)=meF p++meF q:=List.flatMap_append
theorem meF_get:∀(p:List ME) (i:Nat) (c:ME),p[i]? =some c->(meF p)[2*i]? =some (.int .i64 c.i)/\(meF p)[2*i+1]? =some (.slice c.A c.p.length c.c)
 |[],i,c,h=>by simp at h
 |y::l,0,c,h=>by simp at h;subst h;exact ⟨rfl,rfl⟩
 |y::l,i+1,c,h=>by
  have :=meF_get l i c (by simpa using h)
  rw [show 2*(i+1)=2*i+2 by omega]
  exact this
theorem infoMe:(Tryz.prog.info? 82).map (fun i=>(i.zero,i.size,i.bytes))=some (some (.agg #[.int .i64 0,.slice none 0 0]),2,32):=by kernel_rfl
theorem own_mrow {w:World} {base n c:Nat} {A:Option Addr} {els:List ME} (ho:Own w base 82 2 A n c (meF els)) (h0:0<n):∃g:Nat,A=some ⟨g,0,none⟩/\base<=g/\MRow w g els:=by
 rcases ho.2 with ⟨-,hn⟩ |⟨g,cap,cur,hv,h1,h2,h3,h4,h5,h6⟩
 ·omega
 ·injection hv with z1 _ z3
  refine ⟨g,z1,h1,cur,h2,fun i x hx=>?_⟩
  obtain ⟨f0,f1⟩:=meF_get els i x hx
  have key:∀(j:Nat) (u:Value),(meF els)[j]? =some u->cur[j]? =some u:=fun j u hu=>by
   rw [<-h6,List.getElem?_take] at hu
   split at hu
   ·simpa using hu
   ·cases hu
  exact ⟨key _ _ f0,key _ _ f1⟩
theorem Fm.meok {mb n:Nat} {w w':World} {L:List Kc} (h:Fm mb w w') (hm:MapC w mb n L) {x:ME} (hx:x.ok w):x.ok w':=⟨h.arr hm hx.1,hx.2⟩
set_option maxRecDepth 20000 in
theorem members_ok {w0 w:World} {LA NA DA:Option Addr} {lc nc dc n q mb a k:Nat} {m L:List (List Int)} (hS:SysV w0 m L LA NA DA) (hq:L.length=q) (hq8:q<=100000) (hdc:q<=dc) (hdc2:dc<=9223372036854775807) (hmn:m.length=n) (hn:n<=1000)
  (hsrt:(L.map (nrm m)).Pairwise (·<=·)) (hrow:∀y∈L,y.length=n) (hnb:∀y∈L,0<=nrm m y/\nrm m y<=4611686018427387904) (hib:∀x∈L,∀y∈L,-4611686018427387904<=dotL (applyL m y) x/\dotL (applyL m y) x<=4611686018427387904)
  (hmb:w0.heap.size<=mb) (hM:MapC w mb 0 []) (hak:a<k) (hkq:k<=q) (h20:k-a<20) [hx:Ext w0 w]:
  Calls Tryz.prog 41 #[.agg #[.slice LA q lc,.slice NA q nc,.slice DA q dc],.int .i64 a,.int .i64 k,.map (some mb)] w (RetMem w mb m L a k):=by
 have hmlt:=hM.lt
 have hw1:IntKind.i64.wrap ((a:Int)+1)=(a:Int)+1:=IntWalk.i64_in _ (by omega)
 obtain ⟨w1,hw1e⟩:∃w1,w1=w.alloc (.cells #[.slice LA q lc,.slice NA q nc,.slice DA q dc] 70):=⟨_,rfl⟩
 have hbx:w1.heap[w.heap.size]? =some (.cells #[.slice LA q lc,.slice NA q nc,.slice DA q dc] 70 (0,0)):=by rw [hw1e];exact heap_alloc_new w _
 have hx1:Ext w w1:=by rw [hw1e];infer_instance
 have hs1:w1.heap.size=w.heap.size+1:=by rw [hw1e];simp
 have HM1:Hid (MapC w1 mb 0 []):=Lib.hid (hM.ext hx1)
 have hx01:Ext w0 w1:=hx.trans hx1
 have HBX:=Lib.hid hbx
 have HS:=Lib.hid hS
 have HPR:Hid (∀(W:World) (XA:Option Addr) (xc:Nat) (x:List Int),x∈L->IntsA w0 XA x->Ext w0 W->MapC W mb 0 []->Calls Tryz.prog 37 #[.agg #[.slice LA q lc,.slice NA q nc,.slice DA q dc],.slice XA n xc,.map (some mb)] W (RetPrf W mb (profM m L x))):=Lib.hid (fun W XA xc x hxL hX e hMC=>
  fprofile_ok (w0:=w0) (w:=W) hS hq hq8 hdc hdc2 hmn hn hsrt hX (hrow x hxL) hnb (hib x hxL) hmb hMC)
 have HQ:=Lib.hid hq
 have HROW:=Lib.hid hrow
 unfold RetMem
 clear hS hq hsrt hrow hnb hib hM hbx
 by_cases hk1:k=a+1
 ·have hd:((k:Int)==(a:Int)+1)=true:=by simp [hk1]
  have HK1:=Lib.hid hk1
  clear hk1
  go_enter Tryz.func41,Tryz.ntmps41
  go_wp2_with fail
  go_ret
  have hxx:Ext w1 (w1.alloc (.cells #[.int .i64 a,.slice none 0 0] 82)):=inferInstance
  rw [<-hw1e]
  refine ⟨w.heap.size+1,1,[⟨a,none,0,[]⟩],rfl,by omega,⟨_,by rw [<-hs1];exact heap_alloc_new w1 _,fun i x hi=>?_⟩,fun x hxm=>?_,HM1.out.ext hxx,Fm.of_ext (hx1.trans hxx),.inl ⟨HK1.out,rfl⟩⟩
  ·rcases i with _ |i
   ·simp at hi
    subst hi
    exact ⟨rfl,rfl⟩
   ·simp at hi
  ·obtain rfl:=List.mem_singleton.1 hxm
   exact ⟨Arr.nil,by simp⟩
 ·have hd:((k:Int)==(a:Int)+1)=false:=by simp;omega
  obtain ⟨l,hl⟩:∃l,l=k-a:=⟨_,rfl⟩
  have hl2:2<=l:=by omega
  have hw2:IntKind.i64.wrap ((k:Int)-(a:Int))=(l:Int):=by rw [IntWalk.i64_in _ (by omega)];omega
  obtain ⟨i0,hi1,hz,hs,hby⟩:=info_parts infoMe
  obtain ⟨w2,hmk,hown2,hgr2⟩:=run_make_own (P:=Tryz.prog) w1 w1.heap.size 79 82 i0 _ 2 Tryz.underlying79 hi1 hz hs .i64 .i64 l (by rw [hby];omega) (by simp [maxLen];omega) (Nat.le_refl _)
  have hx12:Ext w1 w2:=⟨⟨hgr2.os,hgr2.tape,hgr2.output,hgr2.size,fun b hb=>hgr2.block b hb (by simp)⟩⟩
  have HOW2:Hid (Own w2 w1.heap.size 82 2 (some ⟨w1.heap.size,0,none⟩) 0 l []):=Lib.hid hown2
  have HHL:=Lib.hid hl
  have HW1:=Lib.hid hw1e
  have HS1:=Lib.hid hs1
  clear hown2 hgr2 hl hi1 hz hs hby hw1e hs1
  go_enter Tryz.func41,Tryz.ntmps41
  go_upto_region 3 with fail
  rw [<-HW1.out]
  clear HW1
  go_upto_region 5 with fail
  have hsz1:w1.heap.size<=w2.heap.size:=hx12.size
  have HF2:Hid (Fm mb w1 w2):=Lib.hid (Fm.of_ext hx12)
  have HM2:Hid (MapC w2 mb 0 []):=Lib.hid (HM1.out.ext hx12)
  clear hmk
  go_loopw [9,10] (fun ls i wr=>∃(j:Nat) (A:Option Addr) (c:Nat) (els:List ME),j<=l/\i= .int .i64 ((a:Int)+(j:Int))/\ls= .slice A j c/\Hid (Own wr w1.heap.size 82 2 A j c (meF els))/\Hid ((els.map fun x=>(x.i,x.p))=(List.range j).map fun r=>(((a+r:Nat):Int),profM m L (L.getD (a+r) [])))/\Hid (∀x∈els,x.ok wr)/\Hid (MapC wr mb 0 [])/\Hid (Fm mb w1 wr)) (fun _ i _=>k-(intOf i).toNat)
  case atStart=>exact ⟨0,_,l,[],by omega,by simp,rfl,HOW2,Lib.hid rfl,Lib.hid (fun x hx=>by simp at hx),HM2,HF2⟩
  case round=>
   obtain ⟨j,A,c,els,hj,rfl,rfl,HO,HEL,HOK,HM,HF⟩:=hrel
   have hx0r:Ext w0 wr:=Fm.ext0 hx01 hmb HF.out
   have hsr:=HF.out.size
   by_cases hjl:j<l
   ·obtain ⟨y,hy⟩:∃y,L[a+j]? =some y:=⟨_,List.getElem?_eq_getElem (by rw [HQ.out];have :=HHL.out;omega)⟩
    obtain ⟨bl,ol,B,cb,rfl,e0,hB,e2,e3,e4⟩:=HS.out.list.a.at_ hy
    rw [HROW.out y (List.mem_of_getElem? hy)] at e0 e2
    have oL:Old bl w0:=⟨e4⟩
    have e1:wr.cell? ⟨bl,ol+(a+j),none⟩=some (.slice B n cb):=(cellE w0).trans e0
    obtain ⟨⟨c1,c2,c3⟩,-,c4⟩:=blk3c (HF.out.cells HM1.out HBX.out)
    have oB:Old w.heap.size wr:=⟨c4⟩
    have oLr:Old bl wr:=⟨Nat.lt_of_lt_of_le e4 hx0r.size⟩
    have HPC:=Lib.hid (HPR.out wr.drew B cb y (List.mem_of_getElem? hy) hB (hx0r.trans inferInstance) (HM.out.ext inferInstance))
    have hgd:L.getD (a+j) []=y:=by simp [List.getD_eq_getElem?_getD,hy]
    obtain ⟨p,hp⟩:∃p,p=profM m L y:=⟨_,rfl⟩
    have hpl:p.length<=100000:=by
     have :=prof_len m L y
     rw [hp];rw [HQ.out] at this;omega
    rw [<-hp] at HPC
    have HP:=Lib.hid hp
    have HGD:=Lib.hid hgd
    have HMD:Hid (MapC wr.drew mb 0 []):=Lib.hid (HM.out.ext inferInstance)
    unfold RetPrf at HPC
    obtain ⟨pl,hpe⟩:∃pl,p.length=pl:=⟨_,rfl⟩
    rw [hpe] at HPC hpl
    have HPE:=Lib.hid hpe
    have hajq:a+j<q:=by have :=HHL.out;omega
    have hajk:a+j<k:=by have :=HHL.out;omega
    have hi0:(0:Int)<=(a:Int)+(j:Int):=by omega
    have hi1:(a:Int)+(j:Int)<(q:Int):=by omega
    have hi2:((a:Int)+(j:Int)).toNat=a+j:=by omega
    have hi3:((a:Int)+(j:Int))<(k:Int):=by omega
    clear hy hB e0 hgd hp hpe
    go_wp2_with fail
    go_region_law (first
     |((refine step_app _ rfl (.tmp 28) (.tmp 39) 79 rfl w1.heap.size 82 (.agg #[.int .i64 0,.slice none 0 0]) 2 32 Tryz.underlying79 infoMe rfl (by decide) (by decide) A j c (meF els) (by simp [Act.eval]) (HO5.out.ext inferInstance) (some ⟨w5.heap.size,0,none⟩) 1 1 [.int .i64 ((a:Int)+(j:Int)),.slice A5 pl c5] (by simp [Act.eval]) (Arr.new w5 82 #[.int .i64 ((a:Int)+(j:Int)),.slice A5 pl c5]) rfl (by simp [Value.oneCell']) (by omega) (by simp;omega) ?_);intro A6 c6 w6 hown6 hg6)
     |(go_simp;go_at_call 37;refine HPC.out.mono ?_;rintro e w5 ⟨A5,c5,rfl,hO5,hM5,hF5⟩;have HO5:=Lib.hid (hF5.own HMD.out (HO.out.ext (inferInstance:Ext wr wr.drew)));have HOP5:=Lib.hid hO5;have HM5:=Lib.hid hM5;have HF5:=Lib.hid hF5;have hs5:=hF5.size;have hs5b:wr.heap.size<=w5.heap.size:=hs5;clear hO5 hM5 hF5))
    all_goals
     have hxa:Ext w5 (w5.alloc (.cells #[.int .i64 ((a:Int)+(j:Int)),.slice A5 pl c5] 82)):=inferInstance
     have hO6:Own w6 w1.heap.size 82 2 A6 (j+1) c6 (meF (els++[⟨(a:Int)+(j:Int),A5,c5,p⟩])):=by
      rw [meF_append,show meF [(⟨(a:Int)+(j:Int),A5,c5,p⟩:ME)]=[.int .i64 ((a:Int)+(j:Int)),.slice A5 pl c5] by rw [<-HPE.out];rfl]
      exact hown6
     have hM6:MapC w6 mb 0 []:=(HM5.out.ext hxa).grow hg6
     have hF6:Fm mb w1 w6:=(((HF.out.trans (Fm.of_ext (inferInstance:Ext wr wr.drew))).trans HF5.out).trans (Fm.of_ext hxa)).new hg6.below
     have hk6:∀x:ME,x.ok (w5.alloc (.cells #[.int .i64 ((a:Int)+(j:Int)),.slice A5 pl c5] 82))->x.ok w6:=fun x hx=>⟨hx.1.keep fun b cs fr hb=>(hg6.heap hb (by decide)).trans hb.symm,hx.2⟩
     have hok6:∀x∈els++[(⟨(a:Int)+(j:Int),A5,c5,p⟩:ME)],x.ok w6:=fun x hx=>by
      rcases List.mem_append.1 hx with hx |hx
      ·exact hk6 x ((HF5.out.meok HMD.out ((HOK.out x hx).ext inferInstance)).ext hxa)
      ·obtain rfl:=List.mem_singleton.1 hx
       exact hk6 _ (ME.ok.ext (w:=w5) ⟨HOP5.out.arr,by simp only [HPE.out];omega⟩ hxa)
     have hel6:((els++[(⟨(a:Int)+(j:Int),A5,c5,p⟩:ME)]).map fun x=>(x.i,x.p))=(List.range (j+1)).map fun r=>(((a+r:Nat):Int),profM m L (L.getD (a+r) [])):=by
      rw [List.map_append,HEL.out,List.range_succ,List.map_append]
      simp only [List.map_cons,List.map_nil,HGD.out,<-HP.out,Int.natCast_add]
     have HO6:=Lib.hid hO6
     have HM6:=Lib.hid hM6
     have HF6:=Lib.hid hF6
     have HK6:=Lib.hid hok6
     have HE6:=Lib.hid hel6
     clear hO6 hM6 hF6 hok6 hel6 hk6 hown6 hg6
     go_wp2_with fail
     exact ⟨⟨j+1,A6,c6,_,by omega,by go_num,rfl,HO6,HE6,HK6,HM6,HF6⟩,by simp [intOf];omega⟩
   ·obtain rfl:j=l:=by omega
    obtain ⟨g,rfl,hbg,hrw⟩:=own_mrow HO.out (by omega)
    have hlen:els.length=j:=by have :=congrArg List.length HEL.out;simpa using this
    have hajk:((a:Int)+(j:Int))<(k:Int)↔False:=by have :=HHL.out;simp;omega
    have HSO:=Lib.hid (sortStableM_any (cap:=c) hrw HOK.out hlen (by have :=HHL.out;omega))
    unfold RetSrt at HSO
    go_wp2_with (go_at_call 67;refine HSO.out.mono ?_;rintro e w3 ⟨rfl,els',hp1,hp2,hp3,hp4,hs3⟩)
    go_ret
    have hmg:mb≠g:=by have :=hx1.size;omega
    have hmw:mb<wr.heap.size:=HM.out.lt
    refine ⟨g,c,els',by rw [hp1.length_eq,hlen];rfl,by have :=hx1.size;omega,hp3,hp4,HM.out.at_block (hs3.1 mb hmw hmg),?_,.inr ⟨by have :=HHL.out;omega,?_,hp2.imp fun h=>by omega⟩⟩
    ·exact ((Fm.of_ext hx1).trans HF.out).new (hs3.2 _ (by have :=hx1.size;omega))
    ·rw [<-HHL.out,<-HEL.out]
     exact hp1.map _
section
variable {κ:Type} [DecidableEq κ] {lt:κ->κ->Prop} [DecidableRel lt]
theorem tally_pass:∀(G:List (κ×Int)) (k:κ),(∀c∈G,lt c.1 k)->tallyG lt G k=G++[(k,1)]
 |[],_,_=>rfl
 |c::G,k,h=>by
  unfold tallyG
  rw [if_pos (h c (List.mem_cons_self ..)),tally_pass G k fun d hd=>h d (List.mem_cons_of_mem _ hd)]
  rfl
theorem tally_hit (O:STO lt):∀(G:List (κ×Int)) (k:κ) (n:Int),(∀c∈G,lt c.1 k)->tallyG lt (G++[(k,n)]) k=G++[(k,n+1)]
 |[],k,n,_=>by
  show tallyG lt [(k,n)] k=_
  unfold tallyG
  rw [if_neg (O.irr k),if_pos rfl]
  rfl
 |c::G,k,n,h=>by
  show tallyG lt (c::(G++[(k,n)])) k=_
  unfold tallyG
  rw [if_pos (h c (List.mem_cons_self ..)),tally_hit O G k n fun d hd=>h d (List.mem_cons_of_mem _ hd)]
  rfl
theorem CountOK.hit (O:STO lt) {S:List κ} {C:List (κ×Int)} {k:κ} {n:Int} (h:CountOK lt S (C++[(k,n)])):CountOK lt (S++[k]) (C++[(k,n+1)]):=by
 rw [<-tally_hit O C k n fun c hc=>(List.pairwise_append.1 h.sorted).2.2 c hc _ (List.mem_singleton.2 rfl)]
 exact h.tally O k
theorem CountOK.fresh (O:STO lt) {S:List κ} {C:List (κ×Int)} {k:κ} (h:CountOK lt S C) (hs:∀s∈S,¬lt k s) (hl:∀C0 d,C=C0++[d]->d.1≠k):CountOK lt (S++[k]) (C++[(k,1)]):=by
 rw [<-tally_pass (lt:=lt) C k]
 ·exact h.tally O k
 ·have hin:∀c∈C,c.1∈S:=fun c hc=>List.count_pos_iff.1 (by have :=(h.mem c).1 hc;omega)
  rcases List.eq_nil_or_concat C with rfl |⟨C0,d,rfl⟩
  ·intro c hc;simp at hc
  ·rw [List.concat_eq_append] at*
   have hd:lt d.1 k:=(O.tri (hl C0 d rfl)).resolve_right (hs _ (hin d (by simp)))
   intro c hc
   rcases List.mem_append.1 hc with hc |hc
   ·exact O.trans ((List.pairwise_append.1 h.sorted).2.2 c hc d (List.mem_singleton.2 rfl)) hd
   ·rw [List.mem_singleton.1 hc];exact hd
end
structure CE where
 n:Int
 A:Option Addr
 c:Nat
 p:List Ct
 N:Int
def CE.key (x:CE):Ks×Int:=((x.n,x.p),x.N)
def ceV (x:CE):List Value:=[.int .i64 x.n,.slice x.A x.p.length x.c,.int .i64 x.N]
def ceF (l:List CE):List Value:=l.flatMap ceV
theorem ceF_append (p q:List CE):ceF (p++q)=ceF p++ceF q:=List.flatMap_append
theorem ceF_len (p:List CE):(ceF p).length=p.length*3:=by
 induction p with
 |nil=>rfl
 |cons x l ih=>simp only [ceF,List.flatMap_cons,List.length_append,List.length_cons] at ih |-;rw [ih];simp [ceV];omega
theorem ceF_get:∀(p:List CE) (i:Nat) (c:CE),p[i]? =some c->(ceF p)[i*3]? =some (.int .i64 c.n)/\(ceF p)[i*3+1]? =some (.slice c.A c.p.length c.c)/\(ceF p)[i*3+2]? =some (.int .i64 c.N)
 |[],i,c,h=>by simp at h
 |y::l,0,c,h=>by simp at h;subst h;exact ⟨rfl,rfl,rfl⟩
 |y::l,i+1,c,h=>by
  have :=ceF_get l i c (by simpa using h)
  rw [show (i+1)*3=i*3+3 by omega]
  exact this
theorem ceF_bump (C:List CE) (x:CE) (v:Int):ceF (C++[{x with N:=v}])=(ceF (C++[x])).set (C.length*3+2) (.int .i64 v):=by
 rw [ceF_append,ceF_append,List.set_append_right _ _ (by rw [ceF_len];omega),ceF_len,show C.length*3+2-C.length*3=2 by omega]
 rfl
theorem infoCl:(Tryz.prog.info? 64).map (fun i=>(i.zero,i.size,i.bytes))=some (some (.agg #[.int .i64 0,.slice none 0 0,.int .i64 0]),3,40):=by kernel_rfl
def CE.ok (w:World) (x:CE):Prop:=Arr w x.A 45 (ctF x.p)/\x.p.length<=1099511627776
theorem CE.ok.ct {w:World} {x:CE} (h:x.ok w):CtV w x.A x.p:=⟨_,h.1⟩
def Kp (w w':World):Prop:=w.heap.size<=w'.heap.size/\∀(b:Nat) (cs:Array Value) (T:TypeId) (fr:Nat×Nat),T≠64->w.heap[b]? =some (.cells cs T fr)->w'.heap[b]? =some (.cells cs T fr)
theorem Kp.refl (w:World):Kp w w:=⟨Nat.le_refl _,fun _ _ _ _ _ h=>h⟩
theorem Kp.trans {a b c:World} (h:Kp a b) (h':Kp b c):Kp a c:=⟨Nat.le_trans h.1 h'.1,fun k cs T fr hn hk=>h'.2 k cs T fr hn (h.2 k cs T fr hn hk)⟩
theorem Kp.of_ext {w w':World} (h:Ext w w'):Kp w w':=⟨h.size,fun b _ _ _ _ hb=>(h.below.block b (lt_of_heap hb)).trans hb⟩
theorem Kp.of_fm {w w':World} {mb n:Nat} {L:List Kc} (h:Fm mb w w') (hm:MapC w mb n L):Kp w w':=⟨h.size,fun _ _ _ _ _ hb=>h.cells hm hb⟩
theorem Kp.of_grow {w w':World} {base:Nat} (h:Grow base 64 w w'):Kp w w':=⟨h.below.size,fun _ _ _ _ hn hb=>h.heap hb hn⟩
theorem Kp.of_set {w:World} {g:Nat} {cur:Array Value} {fr:Nat×Nat} (hg:w.heap[g]? =some (.cells cur 64 fr)) {p:Addr} (hp:p.block=g) (u:Value):Kp w (w.setCell p u):=by
 refine ⟨Nat.le_of_eq (size_setCell w p u).symm,fun b cs T fr' hn hb=>?_⟩
 have hne:b≠p.block:=fun e=>by
  rw [e,hp,hg] at hb
  injection hb with hb
  injection hb with _ hb
  exact hn hb.symm
 exact heap_setCell_far hb hne u
theorem Arr.kp {w w':World} {A:Option Addr} {T:TypeId} {vs:List Value} (h:Arr w A T vs) (hk:Kp w w') (hT:T≠64):Arr w' A T vs:=
 h.keep fun _ _ _ hb=>(hk.2 _ _ _ _ hT hb).trans hb.symm
theorem CE.ok.kp {w w':World} {x:CE} (h:x.ok w) (hk:Kp w w'):x.ok w':=⟨h.1.kp hk (by decide),h.2⟩
theorem ME.ok.kp {w w':World} {x:ME} (h:x.ok w) (hk:Kp w w'):x.ok w':=⟨h.1.kp hk (by decide),h.2⟩
theorem MRow.kp {w w':World} {g:Nat} {els:List ME} (h:MRow w g els) (hk:Kp w w'):MRow w' g els:=by
 obtain ⟨cur,h1,h2⟩:=h
 exact ⟨cur,hk.2 _ _ _ _ (by decide) h1,h2⟩
theorem Below.setAt {n:Nat} (w:World) {p:Addr} (hp:n<=p.block) (u:Value):Below n w (w.setCell p u):=
 ⟨rfl,rfl,rfl,Nat.le_of_eq (size_setCell w p u).symm,fun b hb=>Below.heap_setCell w p u b (by omega)⟩
theorem blk2c {w:World} {b:Nat} {x y:Value} {T:TypeId} (h:w.heap[b]? =some (.cells #[x,y] T (0,0))):w.cell? ⟨b,0,none⟩=some x/\w.cell? ⟨b,1,none⟩=some y/\w.frozen? ⟨b,0,none⟩=false/\w.frozen? ⟨b,1,none⟩=false/\b<w.heap.size:=
 ⟨by simp [World.cell?,h],by simp [World.cell?,h],by simp [World.frozen?,h],by simp [World.frozen?,h],lt_of_heap h⟩
theorem own_classes {w:World} {base n c:Nat} {A:Option Addr} {xs:List Value} (ho:Own w base 64 3 A n c xs) (h0:0<n):∃(g:Nat) (cur:Array Value),A=some ⟨g,0,none⟩/\base<=g/\w.heap[g]? =some (.cells cur 64 (0,0))/\n<=c/\(∀(j:Nat) (u:Value),xs[j]? =some u->cur[j]? =some u)/\
  ∀(i:Nat) (u:Value),i<xs.length->Own (w.setCell ⟨g,i,none⟩ u) base 64 3 A n c (xs.set i u):=by
 rcases ho.2 with ⟨-,hn⟩ |⟨g,cap,cur,hv,h1,h2,h3,h4,h5,h6⟩
 ·omega
 ·injection hv with z1 _ z3
  subst z3
  refine ⟨g,cur,z1,h1,h2,h3,fun j u hu=>?_,fun i u hi=>⟨by simp [ho.1],.inr ⟨g,c,cur.set! i u,by rw [z1],h1,?_,h3,h4,by simpa using h5,?_⟩⟩⟩
  ·rw [<-h6,List.getElem?_take] at hu
   split at hu
   ·simpa using hu
   ·cases hu
  ·rw [heap_setCell_self h2];simp
  ·rw [<-h6] at hi |-
   apply List.ext_getElem?
   intro j
   simp only [List.length_take] at hi
   simp only [List.getElem?_take,Array.getElem?_toList,List.getElem?_set,Array.set!_eq_setIfInBounds,Array.getElem?_setIfInBounds,List.length_take]
   split<;>rename_i hj
   ·split<;>rename_i he
    ·subst he;simp;omega
    ·rfl
   ·split<;>rename_i he
    ·omega
    ·rfl
theorem countL_ne {κ:Type} [DecidableEq κ] {lt:κ->κ->Prop} [DecidableRel lt] (O:STO lt) {S:List κ} (hS:S≠[]):countL lt S≠[]:=fun h=>by
 obtain ⟨y,hy⟩:=List.exists_mem_of_ne_nil S hS
 have h2:(y,(S.count y:Int))∈countL lt S:=((countL_ok O S).mem _).2 ⟨Int.natCast_pos.2 (List.count_pos_iff.2 hy),rfl⟩
 rw [h] at h2
 cases h2
theorem profM_ne {m L:List (List Int)} {x:List Int} (hL:L≠[]):profM m L x≠[]:=countL_ne ltK_sto fun h=>hL (List.map_eq_nil_iff.1 h)
theorem mem_uni {m L:List (List Int)} {a k:Nat} {els:List ME} {w:World} (h:MemOK m L a k els) (hok:∀x∈els,x.ok w) (hkl:k<=L.length):
  (els.map fun x=>profM m L (L.getD x.i.toNat [])).Perm ((List.range (k-a)).map fun j=>profM m L (L.getD (a+j) []))/\
  (∀x∈els,(∃j:Nat,a<=j/\j<k/\x.i=(j:Int))/\((x.A=none/\x.c=0/\x.p=[]/\els.length=1)∨(x.A≠none/\x.p=profM m L (L.getD x.i.toNat []))))/\
  els.Pairwise (fun x y=>¬lessQ (profM m L (L.getD y.i.toNat [])) (profM m L (L.getD x.i.toNat []))=true):=by
 rcases h with ⟨hk,rfl⟩ |⟨hk,hp,hs⟩
 ·subst hk
  refine ⟨by simp,fun x hx=>?_,by simp⟩
  rw [List.mem_singleton.1 hx]
  exact ⟨⟨a,Nat.le_refl _,by omega,rfl⟩,.inl ⟨rfl,rfl,rfl,rfl⟩⟩
 ·have hx:∀x∈els,∃j:Nat,a<=j/\j<k/\x.i=(j:Int)/\x.p=profM m L (L.getD j []):=fun x hx=>by
   have h1:=hp.mem_iff.1 (List.mem_map_of_mem (f:=fun x:ME=>(x.i,x.p)) hx)
   obtain ⟨j,hj,he⟩:=List.mem_map.1 h1
   rw [List.mem_range] at hj
   injection he with e1 e2
   exact ⟨a+j,by omega,by omega,e1.symm,e2.symm⟩
  have hx2:∀x∈els,x.p=profM m L (L.getD x.i.toNat []):=fun x hxm=>by
   obtain ⟨j,-,-,h3,h4⟩:=hx x hxm
   rw [h3];exact h4
  refine ⟨?_,fun x hxm=>?_,?_⟩
  ·have h1:=hp.map Prod.snd
   rw [List.map_map,List.map_map] at h1
   have h2:(els.map fun x=>profM m L (L.getD x.i.toNat []))=els.map (Prod.snd∘fun x:ME=>(x.i,x.p)):=List.map_congr_left fun x hxm=>(hx2 x hxm).symm
   rw [h2]
   exact h1
  ·obtain ⟨j,h1,h2,h3,h4⟩:=hx x hxm
   refine ⟨⟨j,h1,h2,h3⟩,.inr ⟨fun hn=>?_,hx2 x hxm⟩⟩
   have hne:x.p≠[]:=by
    rw [h4]
    have hL:L≠[]:=fun e=>by rw [e] at hkl;simp at hkl;omega
    exact profM_ne hL
   have hA:=(hok x hxm).1
   rw [hn] at hA
   obtain ⟨b,o,cs,fr,h,-⟩:=hA (by
    rw [ctF_len]
    exact Nat.mul_pos (List.length_pos_iff.2 hne) (by decide))
   cases h
  ·refine List.Pairwise.imp_of_mem ?_ hs
   intro x y hxm hym h
   rw [<-hx2 x hxm,<-hx2 y hym,<-cmpP_neg]
   simpa using h
end Go.Proofs.YtcmkopogafchiaaGreat
