/- Pf3 Pm1 Fp1 Fp2 Fp3 Fp4 Fp5 -/
import Derived.Test.YtcmkopogafchiaaGreatX10
import Derived.Test.YtcmkopogafchiaaGreatProg
import Derived.Test.YtcmkopogafchiaaGreatShelf
import Derived.Test.YtcmkopogafchiaaGreatRows
import Derived.Maps.RangeWalk
import Derived.Maps.OwnOps
import Derived.DeepKeys4
import Derived.WideKeyEntry
import Derived.StillTailTactics
set_option maxHeartbeats 8000000
set_option linter.unusedVariables false
set_option linter.unusedSimpArgs false
set_option linter.constructorNameAsVariable false
namespace Go.Proofs.YtcmkopogafchiaaGreat
def ctV (c:Ct):List Value:=[.int .i64 c.1.1,.int .i64 c.1.2,.int .i64 c.2]
def ctF (p:List Ct):List Value:=p.flatMap ctV
theorem ctF_len (p:List Ct):(ctF p).length=p.length*3:=by
 induction p with
 |nil=>rfl
 |cons x l ih=>simp only [ctF,List.flatMap_cons,List.length_append,List.length_cons] at ih |-;rw [ih];simp [ctV];omega
theorem ctF_append (p q:List Ct):ctF (p++q)=ctF p++ctF q:=List.flatMap_append
theorem ctF_get:∀(p:List Ct) (i:Nat) (c:Ct),p[i]? =some c->(ctF p)[i*3]? =some (.int .i64 c.1.1)/\(ctF p)[i*3+1]? =some (.int .i64 c.1.2)/\(ctF p)[i*3+2]? =some (.int .i64 c.2)
 |[],i,c,h=>by simp at h
 |y::l,0,c,h=>by simp at h;subst h;exact ⟨rfl,rfl,rfl⟩
 |y::l,i+1,c,h=>by
  have :=ctF_get l i c (by simpa using h)
  rw [show (i+1)*3=i*3+3 by omega]
  exact this
def cmpC (a b:Ct):Int:=orI (cmpI a.1.1 b.1.1) (orI (cmpI a.1.2 b.1.2) (cmpI a.2 b.2))
theorem cmpC_cases (a b:Ct):(ltC a b/\cmpC a b=-1)∨(a=b/\cmpC a b=0)∨(ltC b a/\cmpC a b=1):=by
 unfold cmpC ltC orI
 rcases cmpI_cases a.1.1 b.1.1 with ⟨h1,h2⟩ |⟨h1,h2⟩ |⟨h1,h2⟩
 ·exact .inl ⟨.inl h1,by rw [h2];rfl⟩
 ·rw [h2,if_pos rfl]
  rcases cmpI_cases a.1.2 b.1.2 with ⟨k1,k2⟩ |⟨k1,k2⟩ |⟨k1,k2⟩
  ·exact .inl ⟨.inr ⟨h1,.inl k1⟩,by rw [k2];rfl⟩
  ·rw [k2,if_pos rfl]
   rcases cmpI_cases a.2 b.2 with ⟨g1,g2⟩ |⟨g1,g2⟩ |⟨g1,g2⟩
   ·exact .inl ⟨.inr ⟨h1,.inr ⟨k1,g1⟩⟩,g2⟩
   ·exact .inr (.inl ⟨Prod.ext (Prod.ext h1 k1) g1,g2⟩)
   ·exact .inr (.inr ⟨.inr ⟨h1.symm,.inr ⟨k1.symm,g1⟩⟩,g2⟩)
  ·exact .inr (.inr ⟨.inr ⟨h1.symm,.inl k1⟩,by rw [k2];rfl⟩)
 ·exact .inr (.inr ⟨.inl h1,by rw [h2];rfl⟩)
def cmpP:List Ct->List Ct->Int
 |[],[]=>0
 |[],_::_=>-1
 |_::_,[]=>1
 |a::l,b::m=>if a=b then cmpP l m else cmpC a b
theorem cmpP_cases:∀l m:List Ct,(lessQ l m=true/\cmpP l m=-1)∨(l=m/\cmpP l m=0)∨(lessQ m l=true/\cmpP l m=1)
 |[],[]=> .inr (.inl ⟨rfl,rfl⟩)
 |[],_::_=> .inl ⟨rfl,rfl⟩
 |_::_,[]=> .inr (.inr ⟨rfl,rfl⟩)
 |a::l,b::m=>by
  unfold lessQ cmpP
  by_cases h:a=b
  ·subst h
   rw [if_pos rfl,if_pos rfl,if_pos rfl]
   rcases cmpP_cases l m with h |⟨rfl,h⟩ |h
   ·exact .inl h
   ·exact .inr (.inl ⟨rfl,h⟩)
   ·exact .inr (.inr h)
  ·rw [if_neg h,if_neg h,if_neg (Ne.symm h)]
   rcases cmpC_cases a b with ⟨h1,h2⟩ |⟨h1,h2⟩ |⟨h1,h2⟩
   ·exact .inl ⟨decide_eq_true h1,h2⟩
   ·exact absurd h1 h
   ·exact .inr (.inr ⟨decide_eq_true h1,h2⟩)
theorem cmpP_neg (l m:List Ct):decide (cmpP l m<0)=lessQ l m:=by
 rcases cmpP_cases l m with ⟨h1,h2⟩ |⟨rfl,h2⟩ |⟨h1,h2⟩
 ·rw [h1,h2];rfl
 ·rw [lessQ_self,h2];rfl
 ·have :lessQ l m=false:=by
   cases h:lessQ l m
   ·rfl
   ·have :=lessQ_trans h h1;rw [lessQ_self] at this;cases this
  rw [this,h2];rfl
theorem cmpP_zero (l m:List Ct):cmpP l m=0↔l=m:=by
 rcases cmpP_cases l m with ⟨h1,h2⟩ |⟨rfl,h2⟩ |⟨h1,h2⟩
 ·constructor
  ·intro h;omega
  ·rintro rfl;rw [lessQ_self] at h1;cases h1
 ·exact ⟨fun _=>rfl,fun _=>h2⟩
 ·constructor
  ·intro h;omega
  ·rintro rfl;rw [lessQ_self] at h1;cases h1
end Go.Proofs.YtcmkopogafchiaaGreat
namespace Go.Proofs.YtcmkopogafchiaaGreat
open Go.RowKit Go.Maps
open Go.ChangeMaps (setBlock heap_setBlock_same heap_setBlock_other)
def ctK (k:Kc):Value:= .agg #[.int .i64 k.1,.int .i64 k.2,.int .i64 0]
def klK (k:Kc):Lit:= .string (keyBytes [.int .i64 k.1,.int .i64 k.2,.int .i64 0])
def KcW (k:Kc):Prop:=(Lit.int .i64 k.1).wf=true/\(Lit.int .i64 k.2).wf=true
theorem c_size:∃m,Tryz.prog.types.size=m+1+1:=⟨Tryz.prog.types.size-2,by
 have :(2:Nat)<=Tryz.prog.types.size:=of_decide_eq_true (by kernel_rfl)
 omega⟩
theorem c_law:WideMaps.KeyLaw Tryz.prog 45:=deep_law_laid c_laid (m:=2) (by omega) (of_decide_eq_true (by kernel_rfl)) (by kernel_rfl) (by rw [Tryz.underlying45])
theorem c_keyed:Keyed Tryz.prog 45:=Keyed.of_law c_law
theorem keyOf_ct {k:Kc} (h:KcW k):keyOf Tryz.prog 45 (ctK k)=some (klK k):=by
 obtain ⟨a,b⟩:=k
 obtain ⟨wa,wb⟩:=h
 simp only at wa wb
 have w0:(Lit.int .i64 0).wf=true:=by decide
 have hkt:Tryz.prog.keyType 45=true:=by kernel_rfl
 have c0:Tryz.prog.cellsOf 45=3:=by kernel_rfl
 have c1:Tryz.prog.cellsOf 2=1:=by kernel_rfl
 have c2:Tryz.prog.cellsOf 3=1:=by kernel_rfl
 obtain ⟨m,hm⟩:=c_size
 unfold keyOf ctK klK
 simp only [Tryz.underlying45]
 rw [if_pos (by simp [hkt,Value.formed,Tryz.underlying45,c0]),hm]
 unfold Program.keyLits
 simp only [Tryz.underlying45,Value.cells]
 rw [if_pos (by simp [c0])]
 simp [c1,c2,Program.keyLits,Tryz.underlying2,Tryz.underlying3,wa,wb,w0]
theorem klK_key (k:Kc):WideAt.IsKeyLit (klK k):=trivial
theorem klK_inj {a b:Kc} (ha:KcW a) (hb:KcW b) (h:klK a=klK b):a=b:=by
 have h1:=keyOf_ct ha
 rw [h] at h1
 have h2:ctK a=ctK b:=c_keyed.inj h1 (keyOf_ct hb)
 have h3:(ctK a).cells.toList=(ctK b).cells.toList:=by rw [h2]
 simp [ctK,Value.cells] at h3
 exact Prod.ext h3.1 h3.2
structure TalD (D:DataW Unit) (L:List Kc):Prop where
 map:IsMap D
 at_:∀k,KcW k->D.atKey (klK k) (.lit (.int .i64 0))= .lit (.int .i64 (L.count k))
 has1:∀k,KcW k->(has D (klK k)=true↔k∈L)
 has2:∀l,has D l=true->∃k∈L,l=klK k
 wf:∀k∈L,KcW k
theorem TalD.nil:TalD (.map []) []:=⟨⟨[],rfl⟩,fun k _=>rfl,fun k _=>by simp [has],fun l h=>by simp [has] at h,fun k h=>by simp at h⟩
theorem isMap_put {D:DataW Unit} (h:IsMap D) (k:Lit) (d:DataW Unit):IsMap (D.put k d):=by
 obtain ⟨es,rfl⟩:=h
 exact ⟨_,rfl⟩
theorem TalD.put {D:DataW Unit} {L:List Kc} (h:TalD D L) {k:Kc} (hk:KcW k):TalD (D.put (klK k) (.lit (.int .i64 ((L.count k:Int)+1)))) (L++[k]):=by
 have hne:∀{k':Kc},KcW k'->k'≠k->klK k'≠klK k:=fun hw hne e=>hne (klK_inj hw hk e)
 refine ⟨isMap_put h.map _ _,fun k' hw=>?_,fun k' hw=>?_,fun l hl=>?_,fun k' hk'=>?_⟩
 ·rw [List.count_append]
  by_cases e:k'=k
  ·subst e
   rw [atKey_put_same h.map (klK_key _)]
   simp
  ·rw [atKey_put_other (hne hw e),h.at_ k' hw]
   have :List.count k' [k]=0:=by rw [List.count_eq_zero];simp [e]
   rw [this];simp
 ·by_cases e:k'=k
  ·subst e
   rw [has_put_same h.map (klK_key _)]
   simp
  ·rw [has_put_other (hne hw e),h.has1 k' hw]
   simp [e]
 ·by_cases e:l=klK k
  ·exact ⟨k,by simp,e⟩
  ·rw [has_put_other e] at hl
   obtain ⟨k',h1,h2⟩:=h.has2 l hl
   exact ⟨k',by simp [h1],h2⟩
 ·rcases List.mem_append.1 hk' with h1 |h1
  ·exact h.wf k' h1
  ·rw [List.mem_singleton.1 h1];exact hk
def MapC (w:World) (b n:Nat) (L:List Kc):Prop:=∃D,w.ownsMap Tryz.prog 45 (plainElem (H:=Unit) Tryz.prog 3) b n D/\TalD D L
theorem MapC.lt {w:World} {b n:Nat} {L:List Kc} (h:MapC w b n L):b<w.heap.size:=by
 obtain ⟨D,h,-⟩:=h
 exact h.lt
theorem MapC.ext {w w':World} {b n:Nat} {L:List Kc} (h:MapC w b n L) (hx:Ext w w'):MapC w' b n L:=by
 have hb:=hx.below.block b h.lt
 obtain ⟨D,⟨es,clock,h1,h2⟩,h3⟩:=h
 exact ⟨D,⟨es,clock,hb.trans h1,h2⟩,h3⟩
theorem MapC.made (w:World):MapC (w.alloc (.map #[] 0)) w.heap.size 0 []:=⟨_,World.ownsMap_made w _ _ _,TalD.nil⟩
theorem MapC.look {w:World} {b n:Nat} {L:List Kc} (h:MapC w b n L) {k:Kc} (hk:KcW k):(Instr.lookup 75 (.map (some b)) (ctK k) false).run Tryz.prog w= .ok (.int .i64 (L.count k)) w:=by
 obtain ⟨D,h1,h2⟩:=h
 obtain ⟨c,hrun,hat,-⟩:=h1.lookup_int c_keyed Tryz.underlying75 Tryz.underlying3 (by kernel_rfl) (keyOf_ct hk)
 rw [h2.at_ k hk] at hat
 simp only [DataW.lit.injEq,Lit.int.injEq,true_and] at hat
 rw [hat];exact hrun
structure MidC (w:World) (b n:Nat) (L:List Kc) (k:Kc) (st:Int):Prop where
 lt:b<w.heap.size
 look:(Instr.lookup 75 (.map (some b)) (ctK k) false).run Tryz.prog w= .ok (.int .i64 (L.count k)) w
 store:∃es1 c1,w.heap[b]? =some (.map es1 c1)/\∀w2:World,w2.heap[b]? =some (.map es1 c1)->∃w3,(Instr.entryStore 75 (.map (some b)) (goInt st) (.int .i64 ((L.count k:Int)+1))).run Tryz.prog w2= .ok () w3/\MapC w3 b (n+1) (L++[k])/\w2.grownBy w3 (some b)
theorem owns_block {w w':World} {b n:Nat} {D:DataW Unit} {es:Array MapEntry} {c:Nat} (h:w.ownsMap Tryz.prog 45 (plainElem (H:=Unit) Tryz.prog 3) b n D) (h1:w.heap[b]? =some (.map es c)) (h2:w'.heap[b]? =some (.map es c)):w'.ownsMap Tryz.prog 45 (plainElem (H:=Unit) Tryz.prog 3) b n D:=by
 obtain ⟨es',c',h3,h4⟩:=h
 rw [h1] at h3
 injection h3 with h3
 injection h3 with e1 e2
 subst e1 e2
 exact ⟨_,_,h2,h4⟩
theorem zero_int (w:World):(zeroValue 3).run Tryz.prog w= .ok (.int .i64 0) w:=by kernel_rfl
theorem MapC.entry {w:World} {b n:Nat} {L:List Kc} (h:MapC w b n L) (hn:n<maxLen) (hL:L.length<4611686018427387904) {k:Kc} (hk:KcW k):
  ∃v0 st w1,(Instr.mapEntry 75 (.map (some b)) (ctK k)).run Tryz.prog w= .ok (.tuple #[v0,goInt st]) w1/\MidC w1 b n L k st/\w.grownBy w1 (some b):=by
 have hm:=h
 have hlook:=h.look hk
 obtain ⟨D,hown,hT⟩:=h
 have hown2:=hown
 obtain ⟨es,clock,hb,F,hs,rfl⟩:=hown
 have hkey:=keyOf_ct hk
 have hlt:b<w.heap.size:=(Array.getElem?_eq_some_iff.1 hb).1
 obtain ⟨v0,st,es1,c1,hE,hcase,hS⟩:=WideElems.entry_then_store (w:=w) c_law Tryz.underlying75 zero_int hb F hkey
 have hb1:(setBlock w b (.map es1 c1)).heap[b]? =some (.map es1 c1):=heap_setBlock_same hb _
 have hg1:w.grownBy (setBlock w b (.map es1 c1)) (some b):=⟨rfl,rfl,rfl,by simp [setBlock],fun i _ hi=>heap_setBlock_other hb _ (fun e=>hi (by rw [e]))⟩
 have hcnt:(L.count k:Int)<=L.length:=by have :=List.count_le_length (a:=k) (l:=L);omega
 have hcw:(Lit.int .i64 (L.count k:Int)).wf=true:=by
  have e1:IntKind.i64.min=-9223372036854775808:=rfl
  have e2:IntKind.i64.max=9223372036854775807:=rfl
  simp [Lit.wf];omega
 have hcw1:(Lit.int .i64 ((L.count k:Int)+1)).wf=true:=by
  have e1:IntKind.i64.min=-9223372036854775808:=rfl
  have e2:IntKind.i64.max=9223372036854775807:=rfl
  simp [Lit.wf];omega
 refine ⟨v0,st,_,hE,⟨by simp [setBlock];exact hlt,?_,es1,c1,hb1,fun w2 hw2=>?_⟩,hg1⟩
 ·--the number is there as it was
  rcases c_law.find w hkey es.toList F.keys with ⟨h1,h2⟩ |⟨j,e0,h1,h2,h3⟩
  ·have hE2:(Instr.mapEntry 75 (.map (some b)) (ctK k)).run Tryz.prog w= .ok (.tuple #[.int .i64 0,goInt clock]) (setBlock w b (.map (es.push ⟨ctK k,.int .i64 0,clock⟩) (clock+1))):=by
    simp [Instr.mapEntry,run_underlying Tryz.underlying75,MapKept.run_getObj_map hb,c_law.check w false hkey,h1,zero_int w,MapKept.run_setObj_map _ hb,Result.andThen,setBlock]
   have hU:(Instr.mapUpdate 75 (.map (some b)) (ctK k) (.int .i64 0)).run Tryz.prog w= .ok () (setBlock w b (.map (es.push ⟨ctK k,.int .i64 0,clock⟩) (clock+1))):=by
    simp [Instr.mapUpdate,run_underlying Tryz.underlying75,MapKept.run_getObj_map hb,c_law.check w false hkey,h1,MapKept.run_setObj_map _ hb,Result.andThen,setBlock]
   have hw:=(Result.ok.inj (hE.symm.trans hE2)).2
   obtain ⟨w3,hr3,ho3,-⟩:=hown2.update c_keyed Tryz.underlying75 hn hkey (plainElem_int Tryz.underlying3 (show (Lit.int .i64 0).wf=true by decide))
   have hr3:=(Result.ok.inj (hU.symm.trans hr3)).2
   rw [<-hr3,<-hw] at ho3
   obtain ⟨c,hrun,hat,-⟩:=ho3.lookup_int c_keyed Tryz.underlying75 Tryz.underlying3 (zero_int _) hkey
   rw [atKey_put_same hT.map (klK_key k)] at hat
   simp only [DataW.lit.injEq,Lit.int.injEq,true_and] at hat
   rw [hrun,<-hat]
   have h0:(L.count k:Int)=0:=by
    rcases Maps.fit_look false c_keyed Tryz.underlying75 (zero_int w) hb F hkey with ⟨hr,_,_⟩ |⟨e0,y,h5,h6,_⟩
    ·have hr2:=(Result.ok.inj (hlook.symm.trans hr)).1
     simpa using hr2
    ·exact absurd h6 (h2 e0 (by simpa using h5))
   rw [h0]
  ·have hsame:es1=es/\c1=clock:=by
    have hj:es[j]? =some e0:=by simpa using h2
    have hsm:es.modify j (fun e=>{e with key:=ctK k})=es:=by
     apply Array.ext'
     rw [Array.toList_modify,ChangeMaps.modify_eq_set _ _ _ _ h2]
     have :({e0 with key:=ctK k}:MapEntry)=e0:=by rw [<-h3]
     rw [this]
     exact WideElems.set_self _ _ _ h2
    have hE2:(Instr.mapEntry 75 (.map (some b)) (ctK k)).run Tryz.prog w= .ok (.tuple #[e0.val,goInt e0.born]) (setBlock w b (.map es clock)):=by
     simp [Instr.mapEntry,run_underlying Tryz.underlying75,MapKept.run_getObj_map hb,c_law.check w false hkey,h1,hj,h3,c_law.stays w hkey,hsm,MapKept.run_setObj_map _ hb,Result.andThen,setBlock]
    have hw:=(Result.ok.inj (hE.symm.trans hE2)).2
    rw [hw,heap_setBlock_same hb] at hb1
    injection hb1 with hb1
    injection hb1 with e1 e2
    exact ⟨e1.symm,e2.symm⟩
   obtain ⟨rfl,rfl⟩:=hsame
   exact MapC.look ⟨_,⟨_,_,hb1,F,hs,rfl⟩,hT⟩ hk
 ·obtain ⟨es',c',hr1,hr2⟩:=hS w2 (.int .i64 ((L.count k:Int)+1)) hw2
  obtain ⟨w3,hr3,ho3,-⟩:=hown2.update c_keyed Tryz.underlying75 hn hkey (plainElem_int Tryz.underlying3 hcw1)
  have hr3:=(Result.ok.inj (hr2.symm.trans hr3)).2
  rw [<-hr3] at ho3
  exact ⟨_,hr1,⟨_,owns_block ho3 (heap_setBlock_same hb _) (heap_setBlock_same hw2 _),hT.put hk⟩,⟨rfl,rfl,rfl,by simp [setBlock],fun i _ hi=>heap_setBlock_other hw2 _ (fun e=>hi (by rw [e]))⟩⟩
/-! ## The loop over the map -/
def RngC (w:World) (b r n:Nat) (L ks:List Kc) (cnt:Nat):Prop:=
 ∃D left,w.ranges Tryz.prog 45 (plainElem (H:=Unit) Tryz.prog 3) b r n D left cnt/\TalD D L/\(∀k,KcW k->(left (klK k)=true↔k∈L/\k∉ks))/\ks.Nodup/\(∀k∈ks,k∈L)/\∀l,left l=true->has D l=true
theorem RngC.map {w:World} {b r n cnt:Nat} {L ks:List Kc} (h:RngC w b r n L ks cnt):MapC w b n L:=by
 obtain ⟨D,left,h1,h2,-⟩:=h
 exact ⟨D,h1.owns,h2⟩
theorem RngC.lt {w:World} {b r n cnt:Nat} {L ks:List Kc} (h:RngC w b r n L ks cnt):r<w.heap.size/\r≠b:=by
 obtain ⟨D,left,h1,-⟩:=h
 exact ⟨h1.lt,h1.ne⟩
theorem RngC.kept {w w':World} {b r n cnt:Nat} {L ks:List Kc} (h:RngC w b r n L ks cnt) (hb:w'.heap[b]? =w.heap[b]?) (hr:w'.heap[r]? =w.heap[r]?):RngC w' b r n L ks cnt:=by
 obtain ⟨D,left,⟨es,clock,since,seen,c0,h1,h2,h3,h4,h5,h6⟩,h7⟩:=h
 exact ⟨D,left,⟨es,clock,since,seen,c0,hb.trans h1,h2,h3,h4,hr.trans h5,h6⟩,h7⟩
theorem MapC.range {w:World} {b n:Nat} {L:List Kc} (h:MapC w b n L):∃w' cnt,(Instr.range 75 (.map (some b))).run Tryz.prog w= .ok (.pointer (some ⟨w.heap.size,0,none⟩)) w'/\RngC w' b w.heap.size n L [] cnt/\w.grownBy w' none/\w'.heap.size=w.heap.size+1:=by
 obtain ⟨D,h1,h2⟩:=h
 obtain ⟨w',hr,hg,hgr,hs⟩:=h1.range c_keyed Tryz.underlying75
 exact ⟨w',_,hr,⟨D,_,hg,h2,fun k hk=>by rw [h2.has1 k hk];simp,List.nodup_nil,fun k hk=>by simp at hk,fun l hl=>hl⟩,hgr,hs⟩
theorem RngC.next {w:World} {b r n cnt:Nat} {L ks:List Kc} (h:RngC w b r n L ks cnt) (ty:TypeId):
  ((∀k∈L,k∈ks)/\(Instr.next (.pointer (some ⟨r,0,none⟩)) false ty).run Tryz.prog w= .ok (.tuple #[.bool false]) w)∨
  ∃k w' cnt',k∈L/\(Instr.next (.pointer (some ⟨r,0,none⟩)) false ty).run Tryz.prog w= .ok (.tuple #[.bool true,ctK k,.int .i64 (L.count k)]) w'/\RngC w' b r n L (ks++[k]) cnt'/\cnt'<cnt/\w.grownBy w' (some r)/\w'.heap.size=w.heap.size/\(Instr.entry (.pointer (some ⟨r,0,none⟩))).run Tryz.prog w'= .ok (.tuple #[ctK k,.int .i64 (L.count k)]) w':=by
 obtain ⟨D,left,h1,h2,h3,h4,h5,h6⟩:=h
 rcases h1.next c_keyed ty with ⟨-,hl,hrun⟩ |⟨key,v,kl,y,w',cnt',hkey,hlk,hv,hat,hrun,hrg,hlt,hgr,hsz,hen⟩
 ·refine .inl ⟨fun k hk=>?_,hrun⟩
  by_cases hin:k∈ks
  ·exact hin
  ·have :=(h3 k (h2.wf k hk)).2 ⟨hk,hin⟩
   rw [hl] at this
   cases this
 ·obtain ⟨k,hkL,rfl⟩:=h2.has2 kl (h6 kl hlk)
  have hw:=h2.wf k hkL
  obtain rfl:key=ctK k:=c_keyed.inj hkey (keyOf_ct hw)
  obtain ⟨c,rfl,rfl,-⟩:=plainElem_int_inv Tryz.underlying3 hv
  have hc:=hat (.lit (.int .i64 0))
  rw [h2.at_ k hw] at hc
  simp only [DataW.lit.injEq,Lit.int.injEq,true_and] at hc
  subst hc
  have hnk:=((h3 k hw).1 hlk).2
  refine .inr ⟨k,w',cnt',hkL,hrun,⟨D,_,hrg,h2,fun k' hw'=>?_,?_,fun k' hk'=>?_,fun l hl=>?_⟩,hlt,hgr,hsz,hen⟩
  ·have e:(klK k').sameKey (klK k)=decide (k'=k):=by
    by_cases e:k'=k
    ·subst e
     rw [WideAt.sameKey_self (klK_key _)];simp
    ·rw [sameKey_ne (fun h=>e (klK_inj hw' hw h))];simp [e]
   rw [e,Bool.and_eq_true,h3 k' hw']
   simp [and_assoc]
  ·exact List.nodup_append.2 ⟨h4,by simp,fun a ha c hc=>by rw [List.mem_singleton.1 hc];exact fun e=>hnk (e▸ha)⟩
  ·rcases List.mem_append.1 hk' with h7 |h7
   ·exact h5 k' h7
   ·rw [List.mem_singleton.1 h7];exact hkL
  ·simp only [Bool.and_eq_true] at hl
   exact h6 l hl.1
theorem MapC.clear {w:World} {b n:Nat} {L:List Kc} (h:MapC w b n L):∃w',(∀ty,(Builtin.clear_ #[75] ty #[.map (some b)]).run Tryz.prog w= .ok (.tuple #[]) w')/\MapC w' b 0 []/\w.grownBy w' (some b):=by
 obtain ⟨D,⟨es,clock,hb,F,hs,-⟩,-⟩:=h
 refine ⟨setBlock w b (.map #[] clock),fun ty=>?_,⟨.map [],⟨#[],clock,heap_setBlock_same hb _,?_,Nat.le_refl _,rfl⟩,TalD.nil⟩,⟨rfl,rfl,rfl,by simp [setBlock],fun i _ hi=>heap_setBlock_other hb _ (fun e=>hi (by rw [e]))⟩⟩
 ·simp [Builtin.clear_,run_underlying Tryz.underlying75,MapKept.run_getObj_map hb,MapKept.run_setObj_map _ hb,Result.andThen,setBlock]
 ·exact ⟨by simp,MapKept.stamped_empty clock,by simp⟩
theorem RngC.left_eq {w:World} {b r n cnt:Nat} {L ks:List Kc} (h:RngC w b r n L ks cnt):w.rangeLeft b r=cnt:=by
 obtain ⟨D,left,h1,-⟩:=h
 exact h1.left_eq
theorem RngC.keys {w:World} {b r n cnt:Nat} {L ks:List Kc} (h:RngC w b r n L ks cnt):ks.Nodup/\∀k∈ks,k∈L:=by
 obtain ⟨D,left,-,-,-,h4,h5,-⟩:=h
 exact ⟨h4,h5⟩
theorem RngC.cnt_le {w:World} {b r n cnt:Nat} {L ks:List Kc} (h:RngC w b r n L ks cnt):cnt<=n:=by
 obtain ⟨D,left,⟨es,clock,since,seen,c0,-,-,hn,-,-,-,hc,-⟩,-⟩:=h
 rw [<-hc]
 unfold leftOf
 exact Nat.le_trans (Array.size_filter_le ..) hn
end Go.Proofs.YtcmkopogafchiaaGreat
namespace Go.Proofs.YtcmkopogafchiaaGreat
open Go.RowKit
def CtV (w:World) (A:Option Addr) (p:List Ct):Prop:=∃te,Arr w A te (ctF p)
theorem CtV.ext {w w':World} {A:Option Addr} {p:List Ct} (h:CtV w A p) (hx:Ext w w'):CtV w' A p:=by
 obtain ⟨te,h⟩:=h
 exact ⟨te,h.ext hx⟩
theorem CtV.at_ {w:World} {A:Option Addr} {p:List Ct} (h:CtV w A p) {i:Nat} {c:Ct} (hi:p[i]? =some c):∃b o,A=some ⟨b,o,none⟩/\w.cell? ⟨b,o+i*3,none⟩=some (.int .i64 c.1.1)/\w.cell? ⟨b,o+i*3+1,none⟩=some (.int .i64 c.1.2)/\w.cell? ⟨b,o+i*3+2,none⟩=some (.int .i64 c.2)/\b<w.heap.size:=by
 obtain ⟨te,h⟩:=h
 obtain ⟨f0,f1,f2⟩:=ctF_get p i c hi
 obtain ⟨b,o,rfl,h0,hb⟩:=h.at_ f0
 obtain ⟨b',o',hA',h1,-⟩:=h.at_ f1
 injection hA' with hA'
 injection hA' with z1 z2
 subst z1 z2
 obtain ⟨b',o',hA',h2,-⟩:=h.at_ f2
 injection hA' with hA'
 injection hA' with z1 z2
 subst z1 z2
 exact ⟨b,o,rfl,h0,h1,h2,hb⟩
theorem boxesC (w w':World) (x y z x' y' z':Value) (T T':TypeId) [h:Ext ((w.alloc (.cells #[x,y,z] T)).alloc (.cells #[x',y',z'] T')) w']:
  (w'.cell? ⟨w.heap.size,0,none⟩=some x/\w'.cell? ⟨w.heap.size,1,none⟩=some y/\w'.cell? ⟨w.heap.size,2,none⟩=some z)/\w'.cell? ⟨w.heap.size+1,0,none⟩=some x'/\w'.cell? ⟨w.heap.size+1,1,none⟩=some y'/\w'.cell? ⟨w.heap.size+1,2,none⟩=some z':=by
 have h1:Ext (w.alloc (.cells #[x,y,z] T)) w':=Ext.trans inferInstance h
 have h0:w'.heap[w.heap.size]? =some (.cells #[x,y,z] T (0,0)):=heap_of_ext h1 (heap_alloc_new w _)
 have h2:w'.heap[w.heap.size+1]? =some (.cells #[x',y',z'] T' (0,0)):=heap_of_ext h (by
  have :=heap_alloc_new (w.alloc (.cells #[x,y,z] T)) (.cells #[x',y',z'] T')
  rwa [World.size_alloc] at this)
 exact ⟨⟨by simp [World.cell?,h0],by simp [World.cell?,h0],by simp [World.cell?,h0]⟩,by simp [World.cell?,h2],by simp [World.cell?,h2],by simp [World.cell?,h2]⟩
theorem cmp_Or3_any {w:World} {g:Nat} {a b c:Int} (h1:w.cell? ⟨g,0,none⟩=some (.int .i64 a)) (h2:w.cell? ⟨g,1,none⟩=some (.int .i64 b)) (h3:w.cell? ⟨g,2,none⟩=some (.int .i64 c)):
  Calls Tryz.prog 111 #[.slice (some ⟨g,0,none⟩) 3 3] w (RetSame w (.int .i64 (orI a (orI b c)))):=by
 go_enter Tryz.func111,Tryz.ntmps111
 go_wp2
 go_loop [5,8] (fun _ i=>(i= .int .i64 0)∨(i= .int .i64 1/\a=0)∨(i= .int .i64 2/\a=0/\b=0)∨(i= .int .i64 3/\a=0/\b=0/\c=0)) (fun _ i=>3-(intOf i).toNat)
 case atStart=>exact .inl rfl
 case round=>
  rcases hrel with rfl |⟨rfl,ha⟩ |⟨rfl,ha,hb⟩ |⟨rfl,ha,hb,hc⟩
  ·by_cases h0:a=0
   ·have hb0:(a !=0)=false:=by simp [h0]
    have H0:=Lib.hid h0
    clear h0
    go_wp2
    exact ⟨.inr (.inl ⟨rfl,H0.out⟩),by decide⟩
   ·have hb0:(a !=0)=true:=by simp [h0]
    have HV:Hid (orI a (orI b c)=a):=Lib.hid (if_neg h0)
    clear h0
    go_wp2
    go_ret
    exact ⟨by rw [HV.out];rfl,rfl⟩
  ·have HA:=Lib.hid ha
   by_cases h0:b=0
   ·have hb0:(b !=0)=false:=by simp [h0]
    have H0:=Lib.hid h0
    clear h0 ha
    go_wp2
    exact ⟨.inr (.inr (.inl ⟨rfl,HA.out,H0.out⟩)),by decide⟩
   ·have hb0:(b !=0)=true:=by simp [h0]
    have HV:Hid (orI a (orI b c)=b):=Lib.hid ((if_pos ha).trans (if_neg h0))
    clear h0 ha
    go_wp2
    go_ret
    exact ⟨by rw [HV.out];rfl,rfl⟩
  ·have HA:=Lib.hid ha
   have HB:=Lib.hid hb
   by_cases h0:c=0
   ·have hb0:(c !=0)=false:=by simp [h0]
    have H0:=Lib.hid h0
    clear h0 ha hb
    go_wp2
    exact ⟨.inr (.inr (.inr ⟨rfl,HA.out,HB.out,H0.out⟩)),by decide⟩
   ·have hb0:(c !=0)=true:=by simp [h0]
    have HV:Hid (orI a (orI b c)=c):=Lib.hid ((if_pos ha).trans (if_pos hb))
    clear h0 ha hb
    go_wp2
    go_ret
    exact ⟨by rw [HV.out];rfl,rfl⟩
  ·have HV:Hid (orI a (orI b c)=0):=Lib.hid (by unfold orI;rw [if_pos ha,if_pos hb,hc])
   clear ha hb hc
   go_wp2
   go_ret
   exact ⟨by rw [HV.out];rfl,rfl⟩
theorem cmp_CompareN_any {w:World} (a b:Int):Calls Tryz.prog 69 #[.int .i64 a,.int .i64 b] w (RetSame w (.int .i64 (cmpI a b))):=by
 by_cases h1:a<b
 ·have HC:=Lib.hid (cmpI_lt h1)
  have d1:decide (a<b)=true:=by simpa using h1
  clear h1
  go_enter Tryz.func69,Tryz.ntmps69
  go_wp2
  go_ret
  exact ⟨by rw [HC.out];rfl,rfl⟩
 ·have d1:decide (a<b)=false:=by simpa using h1
  by_cases h2:b<a
  ·have HC:=Lib.hid (cmpI_gt h2)
   have d2:decide (b<a)=true:=by simpa using h2
   clear h1 h2
   go_enter Tryz.func69,Tryz.ntmps69
   go_wp2
   go_ret
   exact ⟨by rw [HC.out];rfl,rfl⟩
  ·have HC:=Lib.hid (cmpI_eq (show a=b by omega))
   have d2:decide (b<a)=false:=by simpa using h2
   clear h1 h2
   go_enter Tryz.func69,Tryz.ntmps69
   go_wp2
   go_ret
   exact ⟨by rw [HC.out];rfl,rfl⟩
set_option maxRecDepth 20000 in
theorem compareCounts_any {w:World} (a b:Ct):
  Calls Tryz.prog 65 #[.agg #[.int .i64 a.1.1,.int .i64 a.1.2,.int .i64 a.2],.agg #[.int .i64 b.1.1,.int .i64 b.1.2,.int .i64 b.2]] w fun e w'=>e= .returned (.int .i64 (cmpC a b))/\∃q os,w'=Sort.grow (w.drewN q) os:=by
 obtain ⟨⟨a1,a2⟩,a3⟩:=a
 obtain ⟨⟨b1,b2⟩,b3⟩:=b
 simp only
 obtain ⟨k1,hk1⟩:∃k,k=cmpI a1 b1:=⟨_,rfl⟩
 obtain ⟨k2,hk2⟩:∃k,k=cmpI a2 b2:=⟨_,rfl⟩
 obtain ⟨k3,hk3⟩:∃k,k=cmpI a3 b3:=⟨_,rfl⟩
 have hc1:=fun W=>cmp_Compare_any (w:=W) a1 b1
 have hc2:=fun W=>cmp_Compare_any (w:=W) a2 b2
 have hc3:=fun W=>cmp_CompareN_any (w:=W) a3 b3
 rw [<-hk1] at hc1
 rw [<-hk2] at hc2
 rw [<-hk3] at hc3
 unfold RetSame at hc1 hc2 hc3
 have HK:Hid (cmpC ((a1,a2),a3) ((b1,b2),b3)=orI k1 (orI k2 k3)):=Lib.hid (by rw [hk1,hk2,hk3];rfl)
 have H1:=Lib.hid hc1
 have H2:=Lib.hid hc2
 have H3:=Lib.hid hc3
 clear hc1 hc2 hc3 hk1 hk2 hk3
 go_enter Tryz.func65,Tryz.ntmps65
 go_wp2_with fail
 have hb:=boxesC w ((w.alloc (.cells #[.int .i64 a1,.int .i64 a2,.int .i64 a3] 45)).alloc (.cells #[.int .i64 b1,.int .i64 b2,.int .i64 b3] 45)) (.int .i64 a1) (.int .i64 a2) (.int .i64 a3) (.int .i64 b1) (.int .i64 b2) (.int .i64 b3) 45 45
 have hWe:∃os,(w.alloc (.cells #[.int .i64 a1,.int .i64 a2,.int .i64 a3] 45)).alloc (.cells #[.int .i64 b1,.int .i64 b2,.int .i64 b3] 45)=Sort.grow w os:=⟨_,by rw [Sort.alloc_eq_grow,Sort.alloc_eq_grow,Sort.grow_grow]⟩
 have HWE:=Lib.hid hWe
 clear hWe
 generalize (w.alloc (.cells #[.int .i64 a1,.int .i64 a2,.int .i64 a3] 45)).alloc (.cells #[.int .i64 b1,.int .i64 b2,.int .i64 b3] 45)=W at*
 obtain ⟨⟨p1,p2,p3⟩,p4,p5,p6⟩:=hb
 refine wp_region_still_tail 15 (by kernel_rfl) (by kernel_rfl) ?_
 simp only [List.take_succ_cons,List.take_zero,List.drop_succ_cons,List.drop_zero]
 iterate 4 still_step
 still_call ((H1.out _).mono fun _ _ h=>⟨h.1,h.2.symm⟩)
 iterate 4 still_step
 still_call ((H2.out _).mono fun _ _ h=>⟨h.1,h.2.symm⟩)
 iterate 4 still_step
 still_call ((H3.out _).mono fun _ _ h=>⟨h.1,h.2.symm⟩)
 refine wpStill_nil ?_
 change wpList _ _ _ _ _ W.drew
 clear p1 p2 p3 p4 p5 p6
 go_wp2_with (go_at_call 111;refine (cmp_Or3_any (a:=k1) (b:=k2) (c:=k3) (by simp [go_sem]) (by simp [go_sem]) (by simp [go_sem])).mono ?_;rintro e w' ⟨rfl,rfl⟩)
 go_ret
 obtain ⟨os,rfl⟩:=HWE.out
 refine ⟨by rw [HK.out];rfl,1,os++#[.cells #[.int .i64 k1,.int .i64 k2,.int .i64 k3] 3],?_⟩
 rw [Sort.alloc_eq_grow,<-Sort.grow_grow];rfl
theorem lessQ_step {p q:List Ct} {k:Nat} {x y:Ct} (hp:p[k]? =some x) (hq:q[k]? =some y):lessQ (p.drop k) (q.drop k)=if x=y then lessQ (p.drop (k+1)) (q.drop (k+1)) else decide (ltC x y):=by
 obtain ⟨h1,rfl⟩:=List.getElem?_eq_some_iff.1 hp
 obtain ⟨h2,rfl⟩:=List.getElem?_eq_some_iff.1 hq
 rw [List.drop_eq_getElem_cons h1,List.drop_eq_getElem_cons h2]
 conv=>lhs;unfold lessQ
theorem lessQ_end {p q:List Ct} {k:Nat} (h:k=p.length∨k=q.length) (h1:k<=p.length) (h2:k<=q.length):lessQ (p.drop k) (q.drop k)=decide (p.length<q.length):=by
 rcases Nat.lt_or_ge k q.length with h3 |h3
 ·have h4:k=p.length:=by omega
  rw [List.drop_eq_nil_of_le (by omega:p.length<=k),List.drop_eq_getElem_cons h3,decide_eq_true (by omega)]
  rfl
 ·rw [List.drop_eq_nil_of_le (by omega:q.length<=k),decide_eq_false (by omega)]
  cases p.drop k<;>rfl
theorem ct_ne {x y:Ct} (h:x≠y):(x.1.1==y.1.1)=false∨((x.1.1==y.1.1)=true/\(x.1.2==y.1.2)=false)∨((x.1.1==y.1.1)=true/\(x.1.2==y.1.2)=true/\(x.2==y.2)=false):=by
 by_cases h1:x.1.1=y.1.1
 ·by_cases h2:x.1.2=y.1.2
  ·refine .inr (.inr ⟨by simp [h1],by simp [h2],?_⟩)
   simp only [beq_eq_false_iff_ne,ne_eq]
   exact fun h3=>h (Prod.ext (Prod.ext h1 h2) h3)
  ·exact .inr (.inl ⟨by simp [h1],by simp [h2]⟩)
 ·exact .inl (by simp [h1])
theorem rbefore_any {w:World} (a b:Ct):
  Calls Tryz.prog 57 #[.agg #[.int .i64 a.1.1,.int .i64 a.1.2,.int .i64 a.2],.agg #[.int .i64 b.1.1,.int .i64 b.1.2,.int .i64 b.2]] w (RetVal w (.bool (decide (ltC a b)))):=by
 obtain ⟨⟨a1,a2⟩,a3⟩:=a
 obtain ⟨⟨b1,b2⟩,b3⟩:=b
 simp only
 by_cases h1:a1=b1
 ·have d1:(a1 !=b1)=false:=by simp [h1]
  by_cases h2:a2=b2
  ·have d2:(a2 !=b2)=false:=by simp [h2]
   have HV:Hid (decide (ltC ((a1,a2),a3) ((b1,b2),b3))=decide (a3<b3)):=Lib.hid (by unfold ltC;simp [h1,h2])
   rw [HV.out]
   clear h1 h2 HV
   go_enter Tryz.func57,Tryz.ntmps57
   go_wp2_with fail
   go_ret
   exact ⟨rfl,Step.of _ _⟩
  ·have d2:(a2 !=b2)=true:=by simp [h2]
   have HV:Hid (decide (ltC ((a1,a2),a3) ((b1,b2),b3))=decide (a2<b2)):=Lib.hid (by unfold ltC;simp [h1,h2])
   rw [HV.out]
   clear h1 h2 HV
   go_enter Tryz.func57,Tryz.ntmps57
   go_wp2_with fail
   go_ret
   exact ⟨rfl,Step.of _ _⟩
 ·have d1:(a1 !=b1)=true:=by simp [h1]
  have HV:Hid (decide (ltC ((a1,a2),a3) ((b1,b2),b3))=decide (a1<b1)):=Lib.hid (by unfold ltC;simp [h1])
  rw [HV.out]
  clear h1 HV
  go_enter Tryz.func57,Tryz.ntmps57
  go_wp2_with fail
  go_ret
  exact ⟨rfl,Step.of _ _⟩
theorem rLess_any {w0 w:World} {A B:Option Addr} {c d:Nat} {p q:List Ct} (hA:CtV w0 A p) (hB:CtV w0 B q) (h1:p.length<=1099511627776) (h2:q.length<=1099511627776) [hx:Ext w0 w]:
  Calls Tryz.prog 27 #[.slice A p.length c,.slice B q.length d] w (RetVal w (.bool (lessQ p q))):=by
 have HEND:=Lib.hid (fun k=>lessQ_end (p:=p) (q:=q) (k:=k))
 obtain ⟨n,hn⟩:∃n,n=p.length:=⟨_,rfl⟩
 obtain ⟨m,hm⟩:∃m,m=q.length:=⟨_,rfl⟩
 rw [<-hn] at h1 |-
 rw [<-hm] at h2 |-
 have HN:=Lib.hid (And.intro hn hm)
 clear hn hm
 go_enter Tryz.func27,Tryz.ntmps27
 go_wp2_with fail
 go_loopw [5] (fun i wr=>∃k:Nat,k<=n/\k<=m/\i= .int .i64 k/\Hid (lessQ p q=lessQ (p.drop k) (q.drop k))/\Ext w wr) (fun i _=>n-(intOf i).toNat)
 case atStart=>exact ⟨0,by omega,by omega,rfl,Lib.hid rfl,inferInstance⟩
 case round=>
  obtain ⟨k,hk1,hk2,rfl,HE,hxr⟩:=hrel
  have hxw:Ext w0 wr:=Ext.trans hx hxr
  by_cases hk:k<n/\k<m
  ·obtain ⟨hka,hkb⟩:=hk
   obtain ⟨⟨⟨x1,x2⟩,x3⟩,hxx⟩:∃z,p[k]? =some z:=⟨_,List.getElem?_eq_getElem (by have :=HN.out.1;omega)⟩
   obtain ⟨⟨⟨y1,y2⟩,y3⟩,hyy⟩:∃z,q[k]? =some z:=⟨_,List.getElem?_eq_getElem (by have :=HN.out.2;omega)⟩
   obtain ⟨b1,o1,rfl,e1,e2,e3,e4⟩:=(hA.ext hxw).at_ hxx
   obtain ⟨b2,o2,rfl,f1,f2,f3,f4⟩:=(hB.ext hxw).at_ hyy
   simp only at e1 e2 e3 f1 f2 f3
   have hst:=lessQ_step hxx hyy
   rw [<-HE.out] at hst
   have HST:=Lib.hid hst
   clear hst hxx hyy HE
   by_cases hxy:((x1,x2),x3)=(((y1,y2),y3):Ct)
   ·have HS2:Hid (lessQ p q=lessQ (p.drop (k+1)) (q.drop (k+1))):=Lib.hid (by have :=HST.out;rwa [if_pos hxy] at this)
    simp only [Prod.mk.injEq] at hxy
    obtain ⟨⟨rfl,rfl⟩,rfl⟩:=hxy
    clear HST
    go_wp2_with fail
    go_quiet (fail)
    go_wp2_with fail
    exact ⟨⟨k+1,by omega,by omega,by go_num,HS2,inferInstance⟩,by simp [intOf];omega⟩
   ·have HS2:Hid (lessQ p q=decide (ltC ((x1,x2),x3) ((y1,y2),y3))):=Lib.hid (by have :=HST.out;rwa [if_neg hxy] at this)
    have HB:=Lib.hid (fun W=>rbefore_any (w:=W) ((x1,x2),x3) ((y1,y2),y3))
    have hor:=ct_ne hxy
    simp only at hor
    generalize decide (ltC ((x1,x2),x3) ((y1,y2),y3))=r at*
    clear HST hxy
    have oX:Old b1 wr:=⟨e4⟩
    have oY:Old b2 wr:=⟨f4⟩
    rcases hor with g1 |⟨g1,g2⟩ |⟨g1,g2,g3⟩<;>
    ·go_wp2_with fail
     go_quiet (fail)
     go_wp2_with fail
     go_region_held3 (fun w'=>(w'.cell? ⟨b1,o1+k*3,none⟩=some (.int .i64 x1)/\w'.cell? ⟨b1,o1+k*3+1,none⟩=some (.int .i64 x2)/\w'.cell? ⟨b1,o1+k*3+2,none⟩=some (.int .i64 x3))/\w'.cell? ⟨b2,o2+k*3,none⟩=some (.int .i64 y1)/\w'.cell? ⟨b2,o2+k*3+1,none⟩=some (.int .i64 y2)/\w'.cell? ⟨b2,o2+k*3+2,none⟩=some (.int .i64 y3)) ((simp only [cellE wr];exact ⟨⟨e1,e2,e3⟩,f1,f2,f3⟩))
      ((go_at_call 57;refine (HB.out _).mono ?_;rintro e w1 ⟨rfl,hs1⟩))
     all_goals
      go_wp2_with fail
      go_ret
      exact ⟨by rw [HS2.out];rfl,Step.of _ _⟩
  ·have HV:Hid (lessQ p q=decide (n<m)):=Lib.hid (by
    rw [HE.out,HN.out.1,HN.out.2]
    have h3:=HN.out.1
    have h4:=HN.out.2
    exact lessQ_end (by omega) (by omega) (by omega))
   clear HE
   by_cases h3:k<n
   ·obtain rfl:k=m:=by omega
    clear hk
    go_wp2_with fail
    go_ret
    exact ⟨by rw [HV.out];rfl,Step.of _ _⟩
   ·obtain rfl:k=n:=by omega
    clear hk h3
    go_wp2_with fail
    go_ret
    exact ⟨by rw [HV.out];rfl,Step.of _ _⟩
theorem rSameP_any {w0 w:World} {A B:Option Addr} {c d:Nat} {p q:List Ct} (hA:CtV w0 A p) (hB:CtV w0 B q) (h1:p.length<=1099511627776) (h2:q.length<=1099511627776) [hx:Ext w0 w]:
  Calls Tryz.prog 17 #[.slice A p.length c,.slice B q.length d] w (RetVal w (.bool (decide (p=q)))):=by
 have H1:=Lib.hid (fun W (e:Ext w0 W)=>rLess_any (w:=W) (c:=c) (d:=d) hA hB h1 h2)
 have H2:=Lib.hid (fun W (e:Ext w0 W)=>rLess_any (w:=W) (c:=d) (d:=c) hB hA h2 h1)
 have hs:=sameP_iff p q
 have k1:True:=trivial
 have HS:=Lib.hid hs
 generalize lessQ p q=r at*
 generalize lessQ q p=s at*
 rw [<-HS.out]
 clear hs HS
 generalize p.length=n at*
 generalize q.length=m at*
 cases r
 ·go_enter Tryz.func17,Tryz.ntmps17
  go_wp2_with (first |(go_at_call 27;have _t:=k1;clear _t k1;refine (H1.out _ inferInstance).mono ?_;rintro e w1 ⟨rfl,hs1⟩) |(go_at_call 27;refine (H2.out _ inferInstance).mono ?_;rintro e w2 ⟨rfl,hs2⟩))
  go_ret
  exact ⟨by simp,Step.of _ _⟩
 ·go_enter Tryz.func17,Tryz.ntmps17
  go_wp2_with (go_at_call 27;refine (H1.out _ inferInstance).mono ?_;rintro e w1 ⟨rfl,hs1⟩)
  go_ret
  exact ⟨by simp,Step.of _ _⟩
theorem wrap_add_r (a b:Int):IntKind.i64.wrap (a+IntKind.i64.wrap b)=IntKind.i64.wrap (a+b):=by simp only [IntKind.wrap_i64];omega
theorem wrap_add_l (a b:Int):IntKind.i64.wrap (IntKind.i64.wrap a+b)=IntKind.i64.wrap (a+b):=by simp only [IntKind.wrap_i64];omega
theorem w64 (n:Int):wrap64 n=IntKind.i64.wrap n:=by
 simp only [wrap64,IntKind.wrap_i64]<;>omega
theorem dotL_cut:∀x y:List Int,dotL x (y.take x.length)=dotL x y
 |[],y=>by rw [dotL_nil,dotL_nil]
 |a::x,[]=>rfl
 |a::x,b::y=>by
  simp only [List.length_cons,List.take_succ_cons,dotL]
  rw [dotL_cut x y]
def dotW (x y:List Int):Int:=IntKind.i64.wrap (dotL x y)
theorem fdot_any {w0 w:World} {X Y:Option Addr} {c d n k:Nat} {x y:List Int} (hX:IntsA w0 X x) (hY:IntsA w0 Y y) (hxn:x.length=n) (hyn:y.length=k) (hl:n<=k) (hn:n<=1099511627776) [hx:Ext w0 w]:
  Calls Tryz.prog 62 #[.slice X n c,.slice Y k d] w (RetSame w (.int .i64 (dotW x y))):=by
 have hX0:=hX.ext hx
 have hY0:=hY.ext hx
 have HXN:=Lib.hid hxn
 have HYN:=Lib.hid hyn
 clear hxn hyn hX hY
 go_enter Tryz.func62,Tryz.ntmps62
 go_wp2
 go_loop [5,6,7,10] (fun s _ _ i=>∃q:Nat,q<=n/\i= .int .i64 q/\s= .int .i64 (dotW (x.take q) (y.take q))) (fun _ _ _ i=>n-(intOf i).toNat)
 case atStart=>exact ⟨0,by omega,rfl,rfl⟩
 case round=>
  obtain ⟨q,hq,rfl,rfl⟩:=hrel
  by_cases hlt:q<n
  ·obtain ⟨b1,o1,a,rfl,ha,e1,e2⟩:=hX0.at_ (i:=q) (by rw [HXN.out];exact hlt)
   obtain ⟨b2,o2,b,rfl,hb,f1,f2⟩:=hY0.at_ (i:=q) (by rw [HYN.out];omega)
   have hst:=dotL_take_succ x y q a b ha hb
   have HS:Hid (wrap64 (dotW (x.take q) (y.take q)+wrap64 (a*b))=dotW (x.take (q+1)) (y.take (q+1))):=Lib.hid (by
    unfold dotW
    rw [w64,w64,wrap_add_r,wrap_add_l,hst])
   generalize dotW (x.take q) (y.take q)=s at*
   clear hst ha hb
   go_wp2
   exact ⟨⟨q+1,by omega,by go_num,congrArg (Value.int IntKind.i64) HS.out⟩,by simp [intOf];omega⟩
  ·obtain rfl:q=n:=by omega
   have HV:Hid (dotW (x.take q) (y.take q)=dotW x y):=Lib.hid (by
    have h1:x.take q=x:=List.take_of_length_le (by rw [HXN.out];exact Nat.le_refl _)
    have h2:dotL x (y.take q)=dotL x y:=by
     have h3:=dotL_cut x y
     rw [HXN.out] at h3
     exact h3
    unfold dotW
    rw [h1,h2])
   rw [HV.out]
   clear HV
   go_wp2
   go_ret
   exact ⟨rfl,rfl⟩
def applyW (m:List (List Int)) (x:List Int):List Int:=m.map fun r=>dotW r x
theorem fill_set (Y:List Int) (q n:Nat) (v:Int) (h:Y[q]? =some v) (hq:q<n):(Y.take q++List.replicate (n-q) 0).set q v=Y.take (q+1)++List.replicate (n-(q+1)) 0:=by
 have hl:(Y.take q).length=q:=by
  have :=(List.getElem?_eq_some_iff.1 h).1
  simp;omega
 have e:List.replicate (n-q) (0:Int)=0::List.replicate (n-(q+1)) 0:=by rw [<-List.replicate_succ];congr 1;omega
 rw [List.set_append_right _ _ (by omega),hl,Nat.sub_self,e,List.set_cons_zero,List.take_add_one,h]
 simp
def RetApp (w:World) (Y:List Int) (e:Ending) (w':World):Prop:=e= .returned (.slice (some ⟨w.heap.size,0,none⟩) Y.length Y.length)/\Row w' w.heap.size 2 .i64 Y/\Step w w'
theorem fapply_any {w0 w:World} {A X:Option Addr} {c d k:Nat} {m:List (List Int)} {x:List Int} (h:MatA w0 A m) (hX:IntsA w0 X x) (hxk:x.length=k) (hrl:∀r∈m,r.length<=k) (hk:k<=1099511627776) (hm:m.length<=1099511627776) [hx:Ext w0 w]:
  Calls Tryz.prog 61 #[.slice A m.length c,.slice X k d] w (RetApp w (applyW m x)):=by
 have h0:=h.ext hx
 have hX0:=hX.ext hx
 obtain ⟨n,hN⟩:∃n,n=m.length:=⟨_,rfl⟩
 rw [<-hN] at hm |-
 have hmk:=run_make_any (P:=Tryz.prog) Tryz.underlying28 infoI64 (by omega) (n:Int) (by omega) (by omega)
 have HN:=Lib.hid hN
 have HXK:=Lib.hid hxk
 have HRL:=Lib.hid hrl
 obtain ⟨Y,hY⟩:∃Y,Y=applyW m x:=⟨_,rfl⟩
 have HY:=Lib.hid hY
 rw [<-hY]
 have HYl:Hid (Y.length=n):=Lib.hid (by rw [HY.out,HN.out];simp [applyW])
 clear hN hxk hrl hY
 go_enter Tryz.func61,Tryz.ntmps61
 go_wp2
 go_loopw [6,7,13] (fun _ _ i wr=>∃q:Nat,q<=n/\i= .int .i64 q/\Row wr w.heap.size 2 .i64 (Y.take q++List.replicate (n-q) 0)/\Ext w wr) (fun _ _ i _=>n-(intOf i).toNat)
 case atStart=>exact ⟨0,by omega,rfl,by have :=Row.made w n .i64 2;simpa [mkRow,mkCells_row] using this,inferInstance⟩
 case round=>
  obtain ⟨q,hq,rfl,hV,hxq⟩:=hrel
  by_cases hlt:q<n
  ·obtain ⟨wi,rfl⟩:∃wi:World,wi=wr:=⟨_,rfl⟩
   have hkm:q<m.length:=by have :=HN.out;omega
   obtain ⟨b,o,B,c1,rfl,e1,f1,f2,f3,f4⟩:=h0.at_ (i:=q) (r:=m[q]) (by simp [hkm])
   obtain ⟨r,hr⟩:∃r,r=m[q]:=⟨_,rfl⟩
   rw [<-hr] at e1 f1 f2
   have hrk:=HRL.out m[q] (List.getElem_mem hkm)
   rw [<-hr] at hrk
   have HYk:Hid (Y[q]? =some (dotW r x)):=Lib.hid (by rw [HY.out,hr];simp [applyW,hkm])
   have HD:=Lib.hid (fun W (e:Ext w W)=>fdot_any (w:=W) (c:=c1) (d:=d) f1 hX0 rfl HXK.out hrk (by omega))
   have e3:wi.cell? ⟨b,o+q,none⟩=some (.slice B r.length c1):=(hxq.below.cell (p:=⟨b,o+q,none⟩) f4).trans e1
   have HSET:=Lib.hid (fill_set Y q n (dotW r x) HYk.out hlt)
   have hfz:=hV.frozen q
   obtain ⟨z0,-,hcz⟩:=hV.cell (i:=q) (by have :=HYl.out;simp;omega)
   have hsz:=hV.lt
   have oB:Old b wi:=⟨Nat.lt_of_lt_of_le f4 hxq.size⟩
   generalize hDW:dotW r x=v at*
   clear hr e1 f1 f2 f4 hDW HYk
   go_wp2_with (go_at_call 62;refine (HD.out _ inferInstance).mono ?_;rintro e w1 ⟨rfl,rfl⟩)
   refine ⟨⟨q+1,by omega,by go_num,?_,?_⟩,by simp [intOf];omega⟩
   ·have h2:=hV.set q v
    rw [HSET.out] at h2
    exact h2
   ·exact hxq.setCell (p:=⟨w.heap.size,q,none⟩) (Nat.le_refl _) _
  ·obtain rfl:q=n:=by omega
   clear hlt
   go_wp2
   go_ret
   have e:Y.take q++List.replicate (q-q) 0=Y:=by rw [Nat.sub_self,List.take_of_length_le (by rw [HYl.out];omega)];simp
   rw [e] at hV
   exact ⟨by rw [HYl.out];rfl,hV,Step.of _ _⟩
def GrowD (w w':World):Prop:=∃q os,w'=Sort.grow (w.drewN q) os
theorem GrowD.refl (w:World):GrowD w w:=⟨0,#[],by simp [Sort.grow,World.drewN]⟩
theorem GrowD.trans {a b c:World} (h:GrowD a b) (h':GrowD b c):GrowD a c:=by
 obtain ⟨q,os,rfl⟩:=h
 obtain ⟨q',os',rfl⟩:=h'
 refine ⟨q+q',os++os',?_⟩
 rw [<-World.drewN_drewN,<-Sort.grow_grow]
 rfl
theorem GrowD.drew (w:World) (n:Nat):GrowD w (w.drewN n):=⟨n,#[],by simp [Sort.grow];rfl⟩
theorem GrowD.ext {w w':World} (h:GrowD w w'):Ext w w':=by
 have :=step_of_grow h
 infer_instance
theorem cmpP_step {p q:List Ct} {k:Nat} {x y:Ct} (hp:p[k]? =some x) (hq:q[k]? =some y):cmpP (p.drop k) (q.drop k)=if x=y then cmpP (p.drop (k+1)) (q.drop (k+1)) else cmpC x y:=by
 obtain ⟨h1,rfl⟩:=List.getElem?_eq_some_iff.1 hp
 obtain ⟨h2,rfl⟩:=List.getElem?_eq_some_iff.1 hq
 rw [List.drop_eq_getElem_cons h1,List.drop_eq_getElem_cons h2]
 conv=>lhs;unfold cmpP
theorem cmpP_end {p q:List Ct} {k:Nat} (h:k=p.length∨k=q.length) (h1:k<=p.length) (h2:k<=q.length):cmpP (p.drop k) (q.drop k)=cmpI (p.length:Int) (q.length:Int):=by
 rcases Nat.lt_trichotomy p.length q.length with h3 |h3 |h3
 ·rw [List.drop_eq_nil_of_le (by omega:p.length<=k),List.drop_eq_getElem_cons (by omega:k<q.length),cmpI_lt (by omega)]
  rfl
 ·rw [List.drop_eq_nil_of_le (by omega:p.length<=k),List.drop_eq_nil_of_le (by omega:q.length<=k),cmpI_eq (by omega)]
  rfl
 ·rw [List.drop_eq_nil_of_le (by omega:q.length<=k),List.drop_eq_getElem_cons (by omega:k<p.length),cmpI_gt (by omega)]
  rfl
theorem compareProfiles_any {w:World} {A B:Option Addr} {c d:Nat} {p q:List Ct} (hA:CtV w A p) (hB:CtV w B q) (h1:p.length<=1099511627776) (_:q.length<=1099511627776):
  Calls Tryz.prog 42 #[.slice A p.length c,.slice B q.length d] w fun e w'=>e= .returned (.int .i64 (cmpP p q))/\GrowD w w':=by
 have HC:=Lib.hid (fun W=>cmp_CompareN_any (w:=W) (p.length:Int) (q.length:Int))
 obtain ⟨n,hn⟩:∃n,n=p.length:=⟨_,rfl⟩
 obtain ⟨m,hm⟩:∃m,m=q.length:=⟨_,rfl⟩
 have HN:=Lib.hid (And.intro hn hm)
 rw [<-hn] at h1 HC |-
 rw [<-hm] at HC |-
 clear hn hm
 obtain ⟨L,hL⟩:∃L:Nat,L=min n m:=⟨_,rfl⟩
 have hL2:min (n:Int) (m:Int)=(L:Int):=by omega
 go_enter Tryz.func42,Tryz.ntmps42
 go_wp2_with fail
 try rw [hL2]
 go_loopw [5,11] (fun _ i wr=>∃k:Nat,k<=L/\i= .int .i64 k/\Hid (cmpP p q=cmpP (p.drop k) (q.drop k))/\GrowD w wr) (fun _ i _=>L-(intOf i).toNat)
 case atStart=>exact ⟨0,by omega,rfl,Lib.hid rfl,GrowD.refl _⟩
 case round=>
  obtain ⟨k,hk1,rfl,HE,hG⟩:=hrel
  have hxw:Ext w wr:=hG.ext
  by_cases hk:k<L
  ·obtain ⟨⟨⟨x1,x2⟩,x3⟩,hxx⟩:∃z,p[k]? =some z:=⟨_,List.getElem?_eq_getElem (by have :=HN.out.1;omega)⟩
   obtain ⟨⟨⟨y1,y2⟩,y3⟩,hyy⟩:∃z,q[k]? =some z:=⟨_,List.getElem?_eq_getElem (by have :=HN.out.2;omega)⟩
   obtain ⟨b1,o1,rfl,e1,e2,e3,e4⟩:=(hA.ext hxw).at_ hxx
   obtain ⟨b2,o2,rfl,f1,f2,f3,f4⟩:=(hB.ext hxw).at_ hyy
   simp only at e1 e2 e3 f1 f2 f3
   have hst:=cmpP_step hxx hyy
   rw [<-HE.out] at hst
   have HST:=Lib.hid hst
   have hkn:k<n:=by omega
   have hkm:k<m:=by omega
   clear hst hxx hyy HE
   by_cases hxy:((x1,x2),x3)=(((y1,y2),y3):Ct)
   ·have HS2:Hid (cmpP p q=cmpP (p.drop (k+1)) (q.drop (k+1))):=Lib.hid (by have :=HST.out;rwa [if_pos hxy] at this)
    simp only [Prod.mk.injEq] at hxy
    obtain ⟨⟨rfl,rfl⟩,rfl⟩:=hxy
    clear HST
    go_wp2_with fail
    go_quiet (fail)
    go_wp2_with fail
    exact ⟨⟨k+1,by omega,by go_num,HS2,hG.trans (GrowD.drew _ _)⟩,by simp [intOf];omega⟩
   ·have HS2:Hid (cmpP p q=cmpC ((x1,x2),x3) ((y1,y2),y3)):=Lib.hid (by have :=HST.out;rwa [if_neg hxy] at this)
    have HB:=Lib.hid (fun W=>compareCounts_any (w:=W) ((x1,x2),x3) ((y1,y2),y3))
    have hor:=ct_ne hxy
    simp only at hor
    generalize cmpC ((x1,x2),x3) ((y1,y2),y3)=r at*
    clear HST hxy
    have oX:Old b1 wr:=⟨e4⟩
    have oY:Old b2 wr:=⟨f4⟩
    rcases hor with g1 |⟨g1,g2⟩ |⟨g1,g2,g3⟩<;>
    ·go_wp2_with fail
     go_quiet (fail)
     go_wp2_with fail
     go_region_held3 (fun w'=>(w'.cell? ⟨b1,o1+k*3,none⟩=some (.int .i64 x1)/\w'.cell? ⟨b1,o1+k*3+1,none⟩=some (.int .i64 x2)/\w'.cell? ⟨b1,o1+k*3+2,none⟩=some (.int .i64 x3))/\w'.cell? ⟨b2,o2+k*3,none⟩=some (.int .i64 y1)/\w'.cell? ⟨b2,o2+k*3+1,none⟩=some (.int .i64 y2)/\w'.cell? ⟨b2,o2+k*3+2,none⟩=some (.int .i64 y3)) ((simp only [cellE wr];exact ⟨⟨e1,e2,e3⟩,f1,f2,f3⟩))
      ((go_at_call 65;refine (HB.out _).mono ?_;rintro e w1 ⟨rfl,hq1⟩;have hs1:=step_of_grow hq1))
     all_goals
      have hG1:GrowD w w1:=(hG.trans (GrowD.drew wr _)).trans hq1
      go_wp2_with fail
      go_ret
      exact ⟨by rw [HS2.out];rfl,hG1⟩
  ·obtain rfl:k=L:=by omega
   have HV:Hid (cmpP p q=cmpI (n:Int) (m:Int)):=Lib.hid (by
    rw [HE.out,HN.out.1,HN.out.2]
    have h3:=HN.out.1
    have h4:=HN.out.2
    exact cmpP_end (by omega) (by omega) (by omega))
   generalize cmpI (n:Int) (m:Int)=r at*
   clear hk HE
   go_wp2_with (go_at_call 69;refine (HC.out _).mono ?_;rintro e w1 ⟨rfl,rfl⟩)
   go_ret
   exact ⟨by rw [HV.out];rfl,hG⟩
theorem blk3c {w:World} {b:Nat} {x y z:Value} {T:TypeId} (h:w.heap[b]? =some (.cells #[x,y,z] T (0,0))):(w.cell? ⟨b,0,none⟩=some x/\w.cell? ⟨b,1,none⟩=some y/\w.cell? ⟨b,2,none⟩=some z)/\(w.frozen? ⟨b,0,none⟩=false/\w.frozen? ⟨b,1,none⟩=false/\w.frozen? ⟨b,2,none⟩=false)/\b<w.heap.size:=
 ⟨⟨by simp [World.cell?,h],by simp [World.cell?,h],by simp [World.cell?,h]⟩,⟨by simp [World.frozen?,h],by simp [World.frozen?,h],by simp [World.frozen?,h]⟩,lt_of_heap h⟩
def RetShl (w:World) (ns:List Int) (a:Nat) (n:Int) (e:Ending) (w':World):Prop:=
 ∃k:Nat,e= .returned (.int .i64 k)/\a<k/\k<=ns.length/\(∀j x,a<=j->j<k->ns[j]? =some x->x=n)/\(∀x,ns[k]? =some x->x≠n)/\Step w w'
theorem fshell_any {w0 w:World} {NA:Option Addr} {nc a len:Nat} {n:Int} {ns:List Int} {SL SD:Value} (hN:Ints w0 NA 2 .i64 ns) (hn:ns[a]? =some n) (hln:ns.length=len) (hl:len<=1099511627776) [hx:Ext w0 w]:
  Calls Tryz.prog 40 #[.agg #[SL,.slice NA len nc,SD],.int .i64 a] w (RetShl w ns a n):=by
 have hal:a<len:=by have :=(List.getElem?_eq_some_iff.1 hn).1;omega
 obtain ⟨b,o,n',rfl,hn',c0,hb⟩:=(hN.ext hx).at_ (i:=a) (by omega)
 obtain rfl:n=n':=by rw [hn] at hn';injection hn'
 have HNS:=Lib.hid hN
 have HNA:=Lib.hid hn
 have HLN:=Lib.hid hln
 have oB:Old b w:=⟨hb⟩
 unfold RetShl
 clear hN hn hn' hln
 go_enter Tryz.func40,Tryz.ntmps40
 go_wp2_with fail
 go_loopw [5] (fun e wr=>∃k:Nat,a<k/\k<=len/\e= .int .i64 k/\Hid (∀j x,a<=j->j<k->ns[j]? =some x->x=n)/\Ext (w.alloc (.cells #[SL,.slice (some ⟨b,o,none⟩) len nc,SD] 70)) wr) (fun e _=>len-(intOf e).toNat)
 case atStart=>exact ⟨a+1,by omega,by omega,by go_num,Lib.hid (fun j x h1 h2 hj=>by
  obtain rfl:j=a:=by omega
  rw [HNA.out] at hj
  injection hj with hj
  exact hj.symm),inferInstance⟩
 case round=>
  obtain ⟨k,hk1,hk2,rfl,HP,hxr⟩:=hrel
  obtain ⟨⟨-,c1,-⟩,-,-⟩:=blk3c (heap_of_ext hxr (heap_alloc_new w _))
  have hxw:Ext w wr:=Ext.trans inferInstance hxr
  have c2:wr.cell? ⟨b,o+a,none⟩=some (.int .i64 n):=(cellE w).trans c0
  by_cases hk:k<len
  ·obtain ⟨b',o',x,hA,hkx,c3,-⟩:=(HNS.out.ext (hx.trans hxw)).at_ (i:=k) (by rw [HLN.out];exact hk)
   injection hA with hA
   injection hA with z1 z2
   subst z1 z2
   have HKX:=Lib.hid hkx
   clear hkx
   by_cases hxn:x=n
   ·subst hxn
    have HP2:Hid (∀j y,a<=j->j<k+1->ns[j]? =some y->y=x):=Lib.hid (fun j y h1 h2 hj=>by
     rcases Nat.lt_or_ge j k with h |h
     ·exact HP.out j y h1 h hj
     ·obtain rfl:j=k:=by omega
      rw [HKX.out] at hj
      injection hj with hj
      exact hj.symm)
    go_wp2_with fail
    go_quiet (fail)
    go_wp2_with fail
    exact ⟨⟨k+1,by omega,by omega,by go_num,HP2,hxr.trans inferInstance⟩,by simp [intOf];omega⟩
   ·have hd:(x==n)=false:=by simp [hxn]
    have HNE:Hid (∀y,ns[k]? =some y->y≠n):=Lib.hid (fun y hy=>by
     rw [HKX.out] at hy
     injection hy with hy
     rw [<-hy];exact hxn)
    clear hxn
    go_wp2_with fail
    go_quiet (fail)
    go_wp2_with fail
    go_ret
    exact ⟨k,rfl,hk1,by rw [HLN.out];exact hk2,HP.out,HNE.out,(hxw.trans inferInstance).toStep⟩
  ·obtain rfl:k=len:=by omega
   have hkd:decide ((k:Int)<(k:Int))=false:=by simp
   clear hk
   go_wp2_with fail
   go_quiet (fail)
   go_wp2_with fail
   go_ret
   exact ⟨k,rfl,hk1,by rw [HLN.out];exact Nat.le_refl _,HP.out,(fun y hy=>by rw [List.getElem?_eq_none (by rw [HLN.out];exact Nat.le_refl _)] at hy;cases hy),(hxw.trans inferInstance).toStep⟩
theorem wrap_shift (a t:Int):IntKind.i64.wrap (a+18446744073709551616*t)=IntKind.i64.wrap a:=by simp only [IntKind.wrap_i64];omega
theorem wrap_mul_l (a b:Int):IntKind.i64.wrap (IntKind.i64.wrap a*b)=IntKind.i64.wrap (a*b):=by
 obtain ⟨t,ht⟩:∃t,IntKind.i64.wrap a=a+18446744073709551616*t:=⟨-((a+9223372036854775808) / 18446744073709551616),by simp only [IntKind.wrap_i64];omega⟩
 rw [ht,Int.add_mul,Int.mul_assoc,wrap_shift]
theorem dotW_map:∀l x:List Int,dotW (l.map IntKind.i64.wrap) x=dotW l x
 |[],x=>rfl
 |a::l,[]=>rfl
 |a::l,b::x=>by
  have ih:=dotW_map l x
  unfold dotW at*
  simp only [List.map_cons,dotL]
  have h1:∀s t:Int,IntKind.i64.wrap (s+t)=IntKind.i64.wrap (s+IntKind.i64.wrap t):=fun s t=>(wrap_add_r s t).symm
  rw [h1,ih,<-h1,<-wrap_add_l,wrap_mul_l,wrap_add_l]
theorem applyW_eq (m:List (List Int)) (x:List Int):applyW m x=(applyL m x).map IntKind.i64.wrap:=by
 unfold applyW applyL
 rw [List.map_map];rfl
theorem dotW_apply (m:List (List Int)) (y x:List Int):dotW (applyW m y) x=dotW (applyL m y) x:=by rw [applyW_eq,dotW_map]
theorem dotW_norm {m:List (List Int)} {y:List Int} (h:-9223372036854775808<=nrm m y/\nrm m y<=9223372036854775807):dotW (applyW m y) y=nrm m y:=by
 rw [dotW_apply]
 unfold dotW
 rw [dotL_comm]
 exact IntWalk.i64_in _ h
structure SysV (w:World) (m L:List (List Int)) (LA NA DA:Option Addr):Prop where
 list:Mat64 w LA L
 norms:Ints w NA 2 .i64 (L.map (nrm m))
 duals:Mat64 w DA (L.map (applyW m))
theorem SysV.ext {w w':World} {m L:List (List Int)} {LA NA DA:Option Addr} (h:SysV w m L LA NA DA) (hx:Ext w w'):SysV w' m L LA NA DA:=⟨h.list.ext hx,h.norms.ext hx,h.duals.ext hx⟩
structure SysI (m L:List (List Int)) (wr:World) (sb:Nat) (LV:Value) (NA DA:Option Addr) (k nc dc:Nat) (vs:List Value):Prop where
 st:wr.heap[sb]? =some (.cells #[LV,.slice NA k nc,.slice DA k dc] 70 (0,0))
 ni:Own wr sb 2 1 NA k nc ((L.take k).map fun y=> .int .i64 (nrm m y))
 di:Own wr sb 28 1 DA k dc vs
 row:∀i y,i<k->L[i]? =some y->∃B c,vs[i]? =some (.slice B m.length c)/\ArrN NA wr B 2 ((applyW m y).map (Value.int .i64))/\m.length<=c/\c<=9223372036854775807
structure SysJ (m L:List (List Int)) (wr:World) (sb:Nat) (LV:Value) (NA DA:Option Addr) (k nc dc:Nat) (vs:List Value) (g:Nat) (y:List Int):Prop where
 st:wr.heap[sb]? =some (.cells #[LV,.slice NA k nc,.slice DA (k+1) dc] 70 (0,0))
 ni:Own wr sb 2 1 NA k nc ((L.take k).map fun y=> .int .i64 (nrm m y))
 di:Own wr sb 28 1 DA (k+1) dc (vs++[.slice (some ⟨g,0,none⟩) m.length m.length])
 row:∀i y,i<k->L[i]? =some y->∃B c,vs[i]? =some (.slice B m.length c)/\ArrN NA wr B 2 ((applyW m y).map (Value.int .i64))/\m.length<=c/\c<=9223372036854775807
 new:ArrN NA wr (some ⟨g,0,none⟩) 2 ((applyW m y).map (Value.int .i64))
theorem SysI.step1 {m L:List (List Int)} {wr W w3:World} {sb g k nc dc d3:Nat} {LV:Value} {NA DA A3:Option Addr} {vs:List Value} {y:List Int} (hI:SysI m L wr sb LV NA DA k nc dc vs) (hx:Ext wr W) (hrow:Row W g 2 .i64 (applyW m y)) (hg:wr.heap.size<=g)
  (hown:Own w3 sb 28 1 A3 (k+1) d3 (vs++[.slice (some ⟨g,0,none⟩) m.length m.length])) (hgr:Grow sb 28 W w3):SysJ m L (w3.setCell ⟨sb,2,none⟩ (.slice A3 (k+1) d3)) sb LV NA A3 k nc d3 vs g y:=by
 have hB3:=hgr.heap (heap_of_ext hx hI.st) (by decide)
 have hoS:=Oth.set (p:=⟨sb,2,none⟩) hB3 (.slice A3 (k+1) d3)
 refine ⟨by rw [heap_setCell_self hB3];rfl,((hI.ni.ext hx).grow hgr (by decide)).oth hoS (by decide),hown.oth hoS (by decide),fun i y hi hy=>?_,?_⟩
 ·obtain ⟨B,c,a,b,e⟩:=hI.row i y hi hy
  exact ⟨B,c,a,((b.ext hx).oth (Oth.of_grow hgr) (by decide)).oth hoS (by decide),e⟩
 ·have hlt:=hI.ni.blockLt
  have hnew:ArrN NA W (some ⟨g,0,none⟩) 2 ((applyW m y).map (Value.int .i64)):=fun _=>⟨g,0,_,_,rfl,fun a ha=>by have :=hlt a ha;omega,hrow,fun j u hu=>by simpa using hu⟩
  exact (hnew.oth (Oth.of_grow hgr) (by decide)).oth hoS (by decide)
theorem SysJ.step2 {m L:List (List Int)} {w4 W w6:World} {sb g k nc dc d6:Nat} {LV:Value} {NA DA A6:Option Addr} {vs:List Value} {y:List Int} (hJ:SysJ m L w4 sb LV NA DA k nc dc vs g y) (hy:L[k]? =some y) (hml:m.length<=1000) (hx:Ext w4 W)
  (hown:Own w6 sb 2 1 A6 (k+1) d6 (((L.take k).map fun y=> .int .i64 (nrm m y))++[.int .i64 (nrm m y)])) (hg:Grow sb 2 W w6) (hgr:Grew NA A6 W w6):SysI m L (w6.setCell ⟨sb,1,none⟩ (.slice A6 (k+1) d6)) sb LV A6 DA (k+1) d6 dc (vs++[.slice (some ⟨g,0,none⟩) m.length m.length]):=by
 have hB6:=hg.heap (heap_of_ext hx hJ.st) (by decide)
 have hoS:=Oth.set (p:=⟨sb,1,none⟩) hB6 (.slice A6 (k+1) d6)
 have hvl:vs.length=k:=by have :=hJ.di.len;simp at this;omega
 refine ⟨by rw [heap_setCell_self hB6];rfl,?_,((hJ.di.ext hx).grow hg (by decide)).oth hoS (by decide),fun i y' hi hy'=>?_⟩
 ·have e:L.take (k+1)=L.take k++[y]:=by rw [List.take_add_one,hy];rfl
  rw [e,List.map_append]
  exact hown.oth hoS (by decide)
 ·rcases Nat.lt_or_ge i k with h |h
  ·obtain ⟨B,c,a,b,e⟩:=hJ.row i y' h hy'
   exact ⟨B,c,by rw [List.getElem?_append_left (by omega)];exact a,((b.ext hx).grew hgr).oth hoS (by decide),e⟩
  ·obtain rfl:i=k:=by omega
   obtain rfl:y=y':=by rw [hy] at hy';injection hy'
   exact ⟨_,m.length,by rw [List.getElem?_append_right (by omega),hvl];simp,((hJ.new.ext hx).grew hgr).oth hoS (by decide),Nat.le_refl _,by omega⟩
theorem SysI.sys {m L:List (List Int)} {wr W:World} {sb nc dc:Nat} {LA NA DA:Option Addr} {LV:Value} {vs:List Value} (hI:SysI m L wr sb LV NA DA L.length nc dc vs) (hL:Mat64 W LA L) (ho:Oth 70 wr W):SysV W m L LA NA DA:=by
 refine ⟨hL,?_,vs,by have :=hI.di.len;simp;omega,(hI.di.oth ho (by decide)).arr,fun i r hr=>?_⟩
 ·have h:=(hI.ni.oth ho (by decide)).arr
  rw [List.take_length] at h
  show Arr _ _ _ _
  rw [List.map_map]
  exact h
 ·rw [List.getElem?_map] at hr
  obtain ⟨y,hy,rfl⟩:∃y,L[i]? =some y/\applyW m y=r:=by
   cases hh:L[i]? with
   |none=>rw [hh] at hr;cases hr
   |some y=>rw [hh] at hr;exact ⟨y,rfl,by simpa using hr⟩
  obtain ⟨B,c,a,b,e⟩:=hI.row i y (List.getElem?_eq_some_iff.1 hy).1 hy
  have hl:(applyW m y).length=m.length:=by simp [applyW]
  exact ⟨B,c,by rw [hl];exact a,(b.oth ho (by decide)).arr,by rw [hl];exact e.1,e.2⟩
def RetVQ (w:World) (P:List (List Int)->Prop) (e:Ending) (w':World):Prop:=∃B d L s,e= .returned (.tuple #[.slice B (List.length L) d,s,.int .i64 0])/\Mat64 w' B L/\L.length<=d/\d<=9223372036854775807/\P L/\Step w w'
def RetSys (w:World) (m:List (List Int)) (P:List (List Int)->Prop) (e:Ending) (w':World):Prop:=
 ∃LA NA DA lc nc dc L,e= .returned (.tuple #[.agg #[.slice LA (List.length L) lc,.slice NA L.length nc,.slice DA L.length dc],.int .i64 0])/\SysV w' m L LA NA DA/\P L/\L.length<=lc/\lc<=9223372036854775807/\L.length<=nc/\nc<=9223372036854775807/\L.length<=dc/\dc<=9223372036854775807/\Step w w'
set_option maxRecDepth 20000 in
theorem newSystem_ok {w0 w:World} {A:Option Addr} {c:Nat} {b u:Int} {m:List (List Int)} {P:List (List Int)->Prop} (hM:MatA w0 A m) (hml:m.length<=1000) (hall:∀r∈m,r.length<=m.length)
  (hvec:∀W,Ext w0 W->Calls Tryz.prog 60 #[.slice A m.length c,.int .i64 b,.int .i64 u] W (RetVQ W P))
  (hP:∀L,P L->L.length<=100000/\(∀y∈L,y.length=m.length)/\∀y∈L,-9223372036854775808<=nrm m y/\nrm m y<=9223372036854775807) [hx:Ext w0 w]:
  Calls Tryz.prog 35 #[.slice A m.length c,.int .i64 b,.int .i64 u] w (RetSys w m P):=by
 have HV:=Lib.hid hvec
 have HPP:=Lib.hid hP
 have HMA:=Lib.hid hM
 have HAL:=Lib.hid hall
 obtain ⟨n,hn⟩:∃n,n=m.length:=⟨_,rfl⟩
 have HN:=Lib.hid hn
 rw [<-hn] at hml HV |-
 unfold RetSys
 clear hvec hP hM hall hn
 go_enter Tryz.func35,Tryz.ntmps35
 go_wp2_with (go_at_call 60;refine (HV.out _ inferInstance).mono ?_;rintro e w1 ⟨LA,lc,L,s,rfl,hL,hl1,hl2,hPL,hs1⟩)
 obtain ⟨hL8,hLr,hLn⟩:=HPP.out L hPL
 obtain ⟨q,hq⟩:∃q,q=L.length:=⟨_,rfl⟩
 have HQ:=Lib.hid hq
 rw [<-hq] at hL8 hl1 |-
 have HL:=Lib.hid hL
 have HPL:=Lib.hid hPL
 have HLR:=Lib.hid hLr
 have HLNb:=Lib.hid hLn
 have hxw1:Ext w w1:=inferInstance
 have hx01:Ext w0 w1:=inferInstance
 clear hq hL hPL hLr hLn HPP HV
 go_loopw [13,14,31] (fun _ _ i wr=>∃(k:Nat) (NA DA:Option Addr) (nc dc:Nat) (vs:List Value),k<=q/\i= .int .i64 k/\Hid (SysI m L wr w1.heap.size (.slice LA q lc) NA DA k nc dc vs)/\Ext w1 wr) (fun _ _ i _=>q-(intOf i).toNat)
 case atStart=>
  exact ⟨0,none,none,0,0,[],by omega,rfl,Lib.hid ⟨heap_alloc_new w1 _,Own.nil _ _ _ _,Own.nil _ _ _ _,fun i y hi=>absurd hi (by omega)⟩,inferInstance⟩
 case round=>
  obtain ⟨k,NA,DA,nc,dc,vs,hk,rfl,HI,hxr⟩:=hrel
  have hx0r:Ext w0 wr:=hx01.trans hxr
  by_cases hlt:k<q
  ·obtain ⟨y,hy⟩:∃y,L[k]? =some y:=⟨_,List.getElem?_eq_getElem (by rw [<-HQ.out];exact hlt)⟩
   have hyn:y.length=n:=by rw [HN.out];exact HLR.out y (List.mem_of_getElem? hy)
   obtain ⟨bb,bo,B,c1,rfl,e0,hB,e2,e3,e4⟩:=HL.out.a.at_ hy
   rw [hyn] at e0 e2
   have oB1:Old bb w1:=⟨e4⟩
   have e1:wr.cell? ⟨bb,bo+k,none⟩=some (.slice B n c1):=(cellE w1).trans e0
   have oB:Old bb wr:=⟨Nat.lt_of_lt_of_le e4 hxr.size⟩
   have HAP:Hid (∀W,Ext wr W->Calls Tryz.prog 61 #[.slice A n c,.slice B n c1] W (RetApp W (applyW m y))):=Lib.hid (fun W e=>by
    have h:=fapply_any (w0:=W) (w:=W) (c:=c) (d:=c1) (HMA.out.ext (hx0r.trans e)) (hB.ext (hxr.trans e)) hyn (fun r hr=>by rw [HN.out];exact HAL.out r hr) (by omega) (by rw [<-HN.out];omega)
    rwa [<-HN.out] at h)
   have hlA:(applyW m y).length=n:=by rw [HN.out];simp [applyW]
   have HDT:Hid (∀W g,Ext w1 W->Row W g 2 .i64 (applyW m y)->Calls Tryz.prog 62 #[.slice (some ⟨g,0,none⟩) n n,.slice B n c1] W (RetSame W (.int .i64 (nrm m y)))):=Lib.hid (fun W g e hr=>by
    have h:=fdot_any (w0:=W) (w:=W) (c:=n) (d:=c1) ⟨_,hr.ints⟩ (hB.ext e) hlA hyn (Nat.le_refl _) (by omega)
    rwa [dotW_norm (HLNb.out y (List.mem_of_getElem? hy))] at h)
   obtain ⟨⟨s1,s2,s3⟩,⟨t1,t2,t3⟩,s4⟩:=blk3c HI.out.st
   have oS:Old w1.heap.size wr:=⟨s4⟩
   have HY:=Lib.hid hy
   have HLA:=Lib.hid hlA
   unfold RetApp at HAP
   rw [hlA] at HAP
   generalize hYY:applyW m y=Y at*
   clear hB hy hlA
   go_upto_region 10 with (first
    |(go_at_call 61;refine (HAP.out _ inferInstance).mono ?_;rintro e w2 ⟨rfl,hR2,hs2⟩;have HR2:=Lib.hid hR2;clear hR2)
    |(at_builtin;go_loud (refine wpList_app _ rfl _ _ 25 rfl w1.heap.size 28 (.slice none 0 0) 1 24 Tryz.underlying25 infoSlI64 rfl (by omega) (by omega) DA k dc vs rfl (HI.out.di.ext inferInstance) (some ⟨w2.heap.size,0,none⟩) 1 1 [.slice (some ⟨wr.heap.size,0,none⟩) n n] rfl (Arr.new w2 28 #[.slice (some ⟨wr.heap.size,0,none⟩) n n]) (by simp) (by simp [Value.oneCell']) (by omega) (by have :=hxr.size;have :=hs2.size;simp;omega) ?_);intro A3 d3 w3 hown hg;have hb3:=hg.heap (heap_of_ext (inferInstance:Ext wr (w2.alloc (.cells #[.slice (some ⟨wr.heap.size,0,none⟩) n n] 28))) HI.out.st) (by decide);obtain ⟨⟨q1,q2,q3⟩,⟨p1,p2,p3⟩,q4⟩:=blk3c hb3;have HB3:=Lib.hid hb3;clear hb3))
   have hx2:Ext wr (w2.alloc (.cells #[.slice (some ⟨wr.heap.size,0,none⟩) n n] 28)):=inferInstance
   have hJ:=HI.out.step1 (y:=y) (g:=wr.heap.size) hx2 (by rw [hYY];exact heap_of_ext (inferInstance:Ext w2 (w2.alloc (.cells #[.slice (some ⟨wr.heap.size,0,none⟩) n n] 28))) HR2.out) (Nat.le_refl _) (by rw [<-HN.out];exact hown) hg
   have hx4:Ext w1 (w3.setCell ⟨w1.heap.size,2,none⟩ (.slice A3 (k+1) d3)):=(hg.ext (hxr.trans hx2) (Nat.le_refl _)).setCell (p:=⟨w1.heap.size,2,none⟩) (Nat.le_refl _) _
   have hR4:Row (w3.setCell ⟨w1.heap.size,2,none⟩ (.slice A3 (k+1) d3)) wr.heap.size 2 .i64 Y:=(Oth.set (p:=⟨w1.heap.size,2,none⟩) HB3.out (.slice A3 (k+1) d3)) _ _ _ _ (by decide) (hg.heap (heap_of_ext (inferInstance:Ext w2 (w2.alloc (.cells #[.slice (some ⟨wr.heap.size,0,none⟩) n n] 28))) HR2.out) (by decide))
   have hxr4:Ext w1 wr:=hxr
   generalize w3.setCell ⟨w1.heap.size,2,none⟩ (.slice A3 (k+1) d3)=w4 at hJ hx4 hR4 |-
   clear hown hg HB3 q1 q2 q3 q4 p1 p2 p3 s1 s2 s3 t1 t2 t3 s4 hs2 hx2
   obtain ⟨⟨r1,r2,r3⟩,⟨p1,p2,p3⟩,p4⟩:=blk3c hJ.st
   have HJ:=Lib.hid hJ
   have HD4:=Lib.hid (fun W (e:Ext w4 W)=>HDT.out W wr.heap.size (hx4.trans e) (heap_of_ext e hR4))
   have oS4:Old w1.heap.size w4:=⟨p4⟩
   clear HDT HAP HR2 hJ hR4
   obtain ⟨nv,hnv⟩:∃nv,nv=nrm m y:=⟨_,rfl⟩
   rw [<-hnv] at HD4
   have HNV:=Lib.hid hnv
   clear hnv
   go_region_law (first
    |((refine step_appx _ rfl (.tmp 45) (.tmp 49) 28 rfl w1.heap.size 2 (.int .i64 0) 1 8 Tryz.underlying28 infoI64 rfl (by decide) (by decide) NA k nc _ (by simp [Act.eval]) (HJ.out.ni.ext inferInstance) ⟨w4.heap.size,0,none⟩ 1 1 [.int .i64 nv] (by simp [Act.eval]) ((Arr.new w4 2 #[.int .i64 nv]).ext inferInstance) rfl (by simp [Value.oneCell']) (by omega) (by have :=hx4.size;simp<;>omega) ?_);intro A6 d6 w6 hown6 hg6 hgr6;have hb6:=hg6.heap (heap_of_ext (inferInstance:Ext w4 ((w4.alloc (Obj.cells #[Value.int .i64 nv] 2)).drew)) HJ.out.st) (by decide);obtain ⟨⟨z1,z2,z3⟩,⟨z4,z5,z6⟩,z7⟩:=blk3c hb6)
    |(go_simp;go_at_call 62;refine (HD4.out _ inferInstance).mono ?_;rintro e w5 ⟨rfl,rfl⟩))
   all_goals
    have hfin:=HJ.out.step2 (W:=(w4.alloc (Obj.cells #[Value.int .i64 nv] 2)).drew) HY.out (by rw [<-HN.out];omega) inferInstance (by rw [<-HNV.out];exact hown6) hg6 hgr6
    have hx6:Ext w1 (w6.setCell ⟨w1.heap.size,1,none⟩ (.slice A6 (k+1) d6)):=(hg6.ext (hx4.trans (inferInstance:Ext w4 ((w4.alloc (Obj.cells #[Value.int .i64 nv] 2)).drew))) (Nat.le_refl _)).setCell (p:=⟨w1.heap.size,1,none⟩) (Nat.le_refl _) _
    have HFIN:=Lib.hid hfin
    clear hfin hown6 hg6 hgr6 hb6 z1 z2 z3
    go_wp2_with fail
    exact ⟨⟨k+1,A6,A3,d6,d3,_,by omega,by go_num,HFIN,hx6⟩,by simp [intOf];omega⟩
  ·obtain rfl:k=q:=by omega
   clear hlt hk
   obtain ⟨⟨s1,s2,s3⟩,⟨t1,t2,t3⟩,s4⟩:=blk3c HI.out.st
   have hrb:w1.heap[w.heap.size]? =some (.cells #[.slice none 0 0,.slice none 0 0,.slice none 0 0] 70 (0,0)):=heap_of_ext (inferInstance:Ext (w.alloc (.cells #[.slice none 0 0,.slice none 0 0,.slice none 0 0] 70)) w1) (heap_alloc_new w _)
   have hrr:=heap_of_ext hxr hrb
   obtain ⟨⟨a1,a2,a3⟩,⟨b1,b2,b3⟩,a4⟩:=blk3c hrr
   have oS:Old w1.heap.size wr:=⟨s4⟩
   have oR:Old w.heap.size wr:=⟨a4⟩
   have HRR:=Lib.hid hrr
   clear hrb hrr
   go_wp2_with fail
   have hfb:(((wr.setCell ⟨w.heap.size,0,none⟩ (.slice LA k lc)).setCell ⟨w.heap.size,1,none⟩ (.slice NA k nc)).setCell ⟨w.heap.size,2,none⟩ (.slice DA k dc)).heap[w.heap.size]? =some (.cells #[.slice LA k lc,.slice NA k nc,.slice DA k dc] 70 (0,0)):=by
    rw [heap_setCell_self (heap_setCell_self (heap_setCell_self HRR.out _) _) _];rfl
   have ho:Oth 70 wr (((wr.setCell ⟨w.heap.size,0,none⟩ (.slice LA k lc)).setCell ⟨w.heap.size,1,none⟩ (.slice NA k nc)).setCell ⟨w.heap.size,2,none⟩ (.slice DA k dc)):=
    (Oth.set2 HRR.out 0 1 _ _).trans (Oth.set (p:=⟨w.heap.size,2,none⟩) (heap_setCell_self (heap_setCell_self HRR.out _) _) _)
   have hxF:Ext w (((wr.setCell ⟨w.heap.size,0,none⟩ (.slice LA k lc)).setCell ⟨w.heap.size,1,none⟩ (.slice NA k nc)).setCell ⟨w.heap.size,2,none⟩ (.slice DA k dc)):=
    (((hxw1.trans hxr).setCell (p:=⟨w.heap.size,0,none⟩) (Nat.le_refl _) _).setCell (p:=⟨w.heap.size,1,none⟩) (Nat.le_refl _) _).setCell (p:=⟨w.heap.size,2,none⟩) (Nat.le_refl _) _
   have hLF:Mat64 (((wr.setCell ⟨w.heap.size,0,none⟩ (.slice LA k lc)).setCell ⟨w.heap.size,1,none⟩ (.slice NA k nc)).setCell ⟨w.heap.size,2,none⟩ (.slice DA k dc)) LA L:=(HL.out.ext hxr).oth ho (by decide) (by decide)
   generalize ((wr.setCell ⟨w.heap.size,0,none⟩ (.slice LA k lc)).setCell ⟨w.heap.size,1,none⟩ (.slice NA k nc)).setCell ⟨w.heap.size,2,none⟩ (.slice DA k dc)=wf at*
   obtain ⟨⟨c1,c2,c3⟩,-,-⟩:=blk3c hfb
   have hI:=HI.out
   rw [HQ.out] at hI
   have hni:=HI.out.ni.cap
   have hdi:=HI.out.di.cap
   have hqq:=HQ.out
   refine bodyPost_ret (v:= .tuple #[.agg #[.slice LA k lc,.slice NA k nc,.slice DA k dc],.int .i64 0]) (by simp [results,Tryz.results35,go_sem,c1,c2,c3]) rfl ⟨LA,NA,DA,lc,nc,dc,L,by rw [<-HQ.out],?_,HPL.out,by omega,hl2,by omega,by omega,by omega,by omega,hxF.toStep⟩
   exact hI.sys hLF ho
end Go.Proofs.YtcmkopogafchiaaGreat
