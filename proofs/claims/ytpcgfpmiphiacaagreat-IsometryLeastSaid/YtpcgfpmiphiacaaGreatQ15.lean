/- Un1 Mk9 Pf1 Pf2 Pf3 Pm1 Fp1 -/
import Derived.Test.YtpcgfpmiphiacaaGreatQ14
import Derived.Test.YtpcgfpmiphiacaaGreatProg
import Derived.Test.YtpcgfpmiphiacaaGreatShelf
import Derived.Test.YtpcgfpmiphiacaaGreatQ13
import Derived.Test.YtpcgfpmiphiacaaGreatRows
import Derived.Maps.RangeWalk
import Derived.Maps.OwnOps
import Derived.DeepKeys4
import Derived.WideKeyEntry
import Derived.StillTailTactics
set_option maxHeartbeats 8000000
set_option linter.unusedVariables false
set_option linter.unusedSimpArgs false
set_option linter.constructorNameAsVariable false
namespace Go.Proofs.YtpcgfpmiphiacaaGreat
open La
def Dz (n:Nat) (g t:Nat->Nat->Int) (x y:Nat):Int:=sumR n fun q=>(sumR n fun p=>t p x*g p q)*t q y
def cutZ (n:Nat) (f:Nat->Nat->Int):Nat->Nat->Int:=fun x y=>if x<n/\y<n then f x y else 0
def UOK (n:Nat) (t:Nat->Nat->Int):Prop:=∀g:Nat->Nat->Int,(∀x y,n<=x∨n<=y->g x y=0)->Bs n g (cutZ n (Dz n g t))
theorem UOK.one (n:Nat):UOK n fun p x=>if p=x then 1 else 0:=fun g hg=>by
 have e:cutZ n (Dz n g fun p x=>if p=x then 1 else 0)=g:=by
  funext x y
  unfold cutZ
  split
  ·rename_i hxy
   unfold Dz
   show (sumR n fun q=>(sumR n fun p=>(if p=x then 1 else 0)*g p q)*(if q=y then 1 else 0))=g x y
   rw [sumR_one hxy.2 (fun q _ hne=>by rw [if_neg hne,Int.mul_zero]),if_pos rfl,Int.mul_one]
   rw [sumR_one hxy.1 (fun p _ hne=>by rw [if_neg hne,Int.zero_mul]),if_pos rfl,Int.one_mul]
  ·rename_i hxy
   exact (hg x y (by omega)).symm
 rw [e]
 exact .refl
theorem UOK.neg {n:Nat} {t:Nat->Nat->Int} {i:Nat} (h:UOK n t) (hi:i<n):UOK n fun p x=>if x=i then-t p x else t p x:=fun g hg=>by
 have e:cutZ n (Dz n g fun p x=>if x=i then-t p x else t p x)=ngZ i (cutZ n (Dz n g t)):=by
  funext x y
  have e1:∀p x,(if x=i then-t p x else t p x)=snZ i x*t p x:=fun p x=>by unfold snZ;split<;>omega
  unfold cutZ ngZ
  by_cases hxy:x<n/\y<n
  ·simp only [if_pos hxy]
   unfold Dz
   simp only [e1]
   rw [<-sumR_cmul]
   refine sumR_congr fun q _=>?_
   have :(sumR n fun p=>snZ i x*t p x*g p q)=snZ i x*sumR n fun p=>t p x*g p q:=by
    rw [<-sumR_cmul]
    exact sumR_congr fun p _=>Int.mul_assoc _ _ _
   rw [this]
   grind
  ·simp only [if_neg hxy,Int.mul_zero]
 rw [e]
 exact (h g hg).ng i hi
end Go.Proofs.YtpcgfpmiphiacaaGreat
namespace Go.Proofs.YtpcgfpmiphiacaaGreat
open Go.RowKit
open La
def TapeA (w:World) (T:Nat) (te:TypeId) (A:Option Addr) (c:Nat) (l:List Int) (k:Nat):Prop:=w.heap[T]? =some (.cells #[.slice A l.length c,.int .i64 (min k l.length:Nat)] 75 (0,0))/\Ints w A te .i8 l/\(0<l.length->∀a,A=some a->a.block<T)
section
variable {w w':World} {T:Nat} {te:TypeId} {A:Option Addr} {c:Nat} {l:List Int} {k:Nat}
theorem TapeA.ext (h:TapeA w T te A c l k) (hx:Ext w w'):TapeA w' T te A c l k:=⟨heap_of_ext hx h.1,h.2.1.ext hx,h.2.2⟩
theorem TapeA.lt (h:TapeA w T te A c l k):T<w.heap.size:=lt_of_heap h.1
theorem TapeA.keep (h:TapeA w T te A c l k) {lo:Nat} (hA:0<l.length->∀a,A=some a->a.block<lo) (hk:∀b,(b=T∨b<lo)->w'.heap[b]? =w.heap[b]?):TapeA w' T te A c l k:=by
 refine ⟨(hk T (.inl rfl)).trans h.1,fun h0=>?_,h.2.2⟩
 obtain ⟨b,o,cs,fr,rfl,hb,hc⟩:=h.2.1 h0
 exact ⟨b,o,cs,fr,rfl,(hk b (.inr (hA (by simpa using h0) _ rfl))).trans hb,hc⟩
end
def RetTapeA (w:World) (T:Nat) (te:TypeId) (A:Option Addr) (c:Nat) (l:List Int) (k:Nat) (v:Value) (e:Ending) (w':World):Prop:=e= .returned v/\TapeA w' T te A c l k/\Only T w w'
theorem rNextA_ok {w:World} {T:Nat} {te:TypeId} {A:Option Addr} {c:Nat} {l:List Int} {k:Nat} (h:TapeA w T te A c l k) (h8:I8 l) (hl:l.length<=9223372036854775807):
  Calls Tryz.prog 57 #[.pointer (some ⟨T,0,none⟩)] w (RetTapeA w T te A c l (k+1) (.int .i64 (l.getD k 0))):=by
 have hT:=h.lt
 obtain ⟨h1,h2,h3⟩:=id h
 obtain ⟨q1,q2,q3,q4,q5⟩:=box_cells2 h1
 by_cases hk:k<l.length
 ·rw [show min k l.length=k by omega] at q2 h1
  obtain ⟨b,o,x,rfl,hx,hc,hb⟩:=h2.at_ hk
  have hbT:=h3 (by omega) _ rfl
  simp only at hbT
  have hxe:l.getD k 0=x:=by simp [hx]
  have hx8:=h8 x (List.mem_of_getElem? hx)
  have HG:=Lib.hid h
  have H1:=Lib.hid h1
  have H2:=Lib.hid h2
  have hge:decide ((l.length:Int)<=(k:Int))=false:=by simp;omega
  have hap:Apart b T:=⟨by omega⟩
  rw [hxe]
  clear h h1 h2 h3 hx hxe
  go_enter Tryz.func57,Tryz.ntmps57
  go_wp2_with fail
  go_quiet (fail)
  go_wp2_with fail
  go_quiet (fail)
  go_wp2_with fail
  go_ret
  rename_i nq1 _
  have hxa:Ext w (w.drewN nq1):=inferInstance
  have hT2:T<(w.drewN nq1).heap.size:=hT
  have hb2:((w.drewN nq1).setCell ⟨T,1,none⟩ (.int .i64 ((k:Int)+1))).heap[T]? =some (.cells #[.slice (some ⟨b,o,none⟩) l.length c,.int .i64 ((k:Int)+1)] 75 (0,0)):=box_set2_1 (heap_of_ext hxa H1.out)
  refine ⟨rfl,⟨?_,?_,fun _ a ha=>?_⟩,?_⟩
  ·rw [show ((min (k+1) l.length:Nat):Int)=(k:Int)+1 by omega]
   exact hb2
  ·have hA1:Ints ((w.drewN nq1).setCell ⟨T,1,none⟩ (.int .i64 ((k:Int)+1))) (some ⟨b,o,none⟩) te .i8 l:=fun h0=>by
    obtain ⟨b',o',cs,fr,e1,hb',hc'⟩:=(H2.out.ext hxa) h0
    have e2:b=b':=by injection e1 with e1;injection e1
    exact ⟨b',o',cs,fr,e1,(Below.heap_setCell _ ⟨T,1,none⟩ _ b' (by simp;omega)).trans hb',hc'⟩
   exact hA1.ext inferInstance
  ·injection ha with ha
   subst ha
   exact hbT
  ·exact ((Only.of_ext hxa (Nat.le_of_lt hT)).trans (Only.set hT2 1 (.int .i64 ((k:Int)+1)))).trans (Only.of_ext inferInstance (by rw [size_setCell];exact Nat.le_of_lt hT2))
 ·rw [show min k l.length=l.length by omega] at q2 h1
  have hxe:l.getD k 0=0:=by rw [List.getD_eq_getElem?_getD,List.getElem?_eq_none (by omega)];rfl
  have hge:decide ((l.length:Int)<=(l.length:Int))=true:=by simp
  have HH:Hid (∀W,Ext w W->TapeA W T te A c l (k+1)):=Lib.hid (fun W hh=>by
   obtain ⟨a1,a2,a3⟩:=h.ext hh
   exact ⟨by rw [show min (k+1) l.length=min k l.length by omega];exact a1,a2,a3⟩)
  rw [hxe]
  clear h h1 h2 h3 hxe hk
  go_enter Tryz.func57,Tryz.ntmps57
  go_wp2_with fail
  go_quiet (fail)
  go_wp2_with fail
  go_ret
  exact ⟨rfl,HH.out _ inferInstance,Only.of_ext inferInstance (Nat.le_of_lt hT)⟩
theorem rBelowA_ok {w:World} {T:Nat} {te:TypeId} {A:Option Addr} {c:Nat} {l:List Int} {k m:Nat} (h:TapeA w T te A c l k) (h8:I8 l) (hl:l.length<=9223372036854775807) (hm:1<=m) (hm2:m<=1000):
  Calls Tryz.prog 28 #[.pointer (some ⟨T,0,none⟩),.int .i64 m] w (RetTapeA w T te A c l (k+1) (.int .i64 (l.getD k 0%256%m))):=by
 have HN:=Lib.hid (rNextA_ok h h8 hl)
 have hx8:=h8.get k
 clear h
 generalize l.getD k 0=x at*
 have hu:IntKind.u8.wrap x=x%256:=by simp only [IntKind.wrap_u8]
 have hu2:IntKind.i64.wrap (x%256)=x%256:=IntWalk.i64_in _ (by omega)
 have hx0:0<=x%256:=by omega
 have hx1:x%256<256:=by omega
 have hmz:((m:Int)==0)=false:=by simp;omega
 have hrm:(x%256).tmod m=x%256%m:=Int.tmod_eq_emod_of_nonneg hx0
 go_enter Tryz.func28,Tryz.ntmps28
 go_wp2_with (go_at_call 57;refine HN.out.mono ?_;rintro e w1 ⟨rfl,hT1,hO1⟩)
 go_ret
 exact ⟨by simp,hT1,hO1⟩
end Go.Proofs.YtpcgfpmiphiacaaGreat
namespace Go.Proofs.YtpcgfpmiphiacaaGreat
structure STO {κ:Type} (lt:κ->κ->Prop):Prop where
 irr:∀a,¬lt a a
 trans:∀{a b c},lt a b->lt b c->lt a c
 tri:∀{a b},a≠b->lt a b∨lt b a
section
variable {κ:Type} [DecidableEq κ] {lt:κ->κ->Prop}
structure CountOK (lt:κ->κ->Prop) (L:List κ) (p:List (κ×Int)):Prop where
 sorted:p.Pairwise (fun a b=>lt a.1 b.1)
 mem:∀c,c∈p↔0<c.2/\c.2=(L.count c.1:Int)
theorem CountOK.append {L S:List κ} {p q} (h:CountOK lt L p) (h':CountOK lt S q) (hd:∀x∈L,∀y∈S,lt x y) (O:STO lt):CountOK lt (L++S) (p++q):=by
 have hin:∀{T:List κ} {r},CountOK lt T r->∀c∈r,c.1∈T:=fun h c hc=>List.count_pos_iff.1 (by have :=(h.mem c).1 hc;omega)
 refine ⟨List.pairwise_append.2 ⟨h.sorted,h'.sorted,fun a ha b hb=>hd _ (hin h a ha) _ (hin h' b hb)⟩,fun c=>?_⟩
 rw [List.mem_append,h.mem,h'.mem,List.count_append]
 by_cases hL:c.1∈L
 ·have hS:=fun hs=>O.irr _ (hd _ hL _ hs)
  grind
 grind
variable [DecidableRel lt]
end
abbrev Kc:=Int×Int
abbrev Ct:=Kc×Int
def ltK (a b:Kc):Prop:=a.1<b.1∨(a.1=b.1/\a.2<b.2)
instance:DecidableRel ltK:=fun a b=>by unfold ltK;exact inferInstance
def ltC (a b:Ct):Prop:=a.1.1<b.1.1∨(a.1.1=b.1.1/\(a.1.2<b.1.2∨(a.1.2=b.1.2/\a.2<b.2)))
instance:DecidableRel ltC:=fun a b=>by unfold ltC;exact inferInstance
def lessQ:List Ct->List Ct->Bool
 |_,[]=>false
 |[],_::_=>true
 |a::l,b::m=>if a=b then lessQ l m else decide (ltC a b)
abbrev Ks:=Int×List Ct
def ltS (a b:Ks):Prop:=a.1<b.1∨(a.1=b.1/\lessQ a.2 b.2=true)
instance:DecidableRel ltS:=fun a b=>by unfold ltS;exact inferInstance
theorem VecList.norms {m:List (List Int)} {b:Int} {e:Bool} {L:List (List Int)} (h:VecList m b e L):L.Pairwise (fun x y=>nrm m x<=nrm m y):=h.sorted.imp (fun {x y} h=>by
 rcases Int.lt_or_le (nrm m y) (nrm m x) with h1 |h1
 ·unfold cmpK orI at h
  rw [cmpI_gt h1,if_neg (by decide)] at h
  omega
 ·exact h1)
def Bdry (ns:List Int) (a:Nat):Prop:=∀(i j:Nat) (x y:Int),i<a->a<=j->ns[i]? =some x->ns[j]? =some y->x<y
theorem Bdry.zero (ns:List Int):Bdry ns 0:=fun i _ _ _ h=>absurd h (by omega)
/-! ## An exchange of two coordinates -/
def ctV (c:Ct):List Value:=[.int .i64 c.1.1,.int .i64 c.1.2,.int .i64 c.2]
def ctF (p:List Ct):List Value:=p.flatMap ctV
theorem ctF_get:∀(p:List Ct) (i:Nat) (c:Ct),p[i]? =some c->(ctF p)[i*3]? =some (.int .i64 c.1.1)/\(ctF p)[i*3+1]? =some (.int .i64 c.1.2)/\(ctF p)[i*3+2]? =some (.int .i64 c.2)
 |[],i,c,h=>by simp at h
 |y::l,0,c,h=>by simp at h;subst h;exact ⟨rfl,rfl,rfl⟩
 |y::l,i+1,c,h=>by
  have :=ctF_get l i c (by simpa using h)
  rw [show (i+1)*3=i*3+3 by omega]
  exact this
end Go.Proofs.YtpcgfpmiphiacaaGreat
namespace Go.Proofs.YtpcgfpmiphiacaaGreat
open Go.RowKit Go.Maps
open Go.ChangeMaps (setBlock heap_setBlock_same heap_setBlock_other)
def ctK (k:Kc):Value:= .agg #[.int .i64 k.1,.int .i64 k.2,.int .i64 0]
def klK (k:Kc):Lit:= .string (keyBytes [.int .i64 k.1,.int .i64 k.2,.int .i64 0])
def KcW (k:Kc):Prop:=(Lit.int .i64 k.1).wf=true/\(Lit.int .i64 k.2).wf=true
theorem c_size:∃m,Tryz.prog.types.size=m+1+1:=⟨Tryz.prog.types.size-2,by
 have :(2:Nat)<=Tryz.prog.types.size:=of_decide_eq_true (by kernel_rfl)
 omega⟩
theorem c_law:WideMaps.KeyLaw Tryz.prog 71:=deep_law_laid c_laid (m:=2) (by omega) (of_decide_eq_true (by kernel_rfl)) (by kernel_rfl) (by rw [Tryz.underlying71])
theorem c_keyed:Keyed Tryz.prog 71:=Keyed.of_law c_law
theorem keyOf_ct {k:Kc} (h:KcW k):keyOf Tryz.prog 71 (ctK k)=some (klK k):=by
 obtain ⟨a,b⟩:=k
 obtain ⟨wa,wb⟩:=h
 simp only at wa wb
 have w0:(Lit.int .i64 0).wf=true:=by decide
 have hkt:Tryz.prog.keyType 71=true:=by kernel_rfl
 have c0:Tryz.prog.cellsOf 71=3:=by kernel_rfl
 have c1:Tryz.prog.cellsOf 2=1:=by kernel_rfl
 have c2:Tryz.prog.cellsOf 3=1:=by kernel_rfl
 obtain ⟨m,hm⟩:=c_size
 unfold keyOf ctK klK
 simp only [Tryz.underlying71]
 rw [if_pos (by simp [hkt,Value.formed,Tryz.underlying71,c0]),hm]
 unfold Program.keyLits
 simp only [Tryz.underlying71,Value.cells]
 rw [if_pos (by simp [c0])]
 simp [c1,c2,Program.keyLits,Tryz.underlying2,Tryz.underlying3,wa,wb,w0]
theorem klK_key (k:Kc):WideAt.IsKeyLit (klK k):=trivial
theorem klK_inj {a b:Kc} (ha:KcW a) (hb:KcW b) (h:klK a=klK b):a=b:=by
 have h1:=keyOf_ct ha
 rw [h] at h1
 have h2:ctK a=ctK b:=c_keyed.inj h1 (keyOf_ct hb)
 have h3:(ctK a).cells.toList=(ctK b).cells.toList:=by rw [h2]
 simp [ctK,Value.cells] at h3
 exact Prod.ext h3.1 h3.2
structure TalD (D:DataW Unit) (L:List Kc):Prop where
 map:IsMap D
 at_:∀k,KcW k->D.atKey (klK k) (.lit (.int .i64 0))= .lit (.int .i64 (L.count k))
 has1:∀k,KcW k->(has D (klK k)=true↔k∈L)
 has2:∀l,has D l=true->∃k∈L,l=klK k
 wf:∀k∈L,KcW k
theorem isMap_put {D:DataW Unit} (h:IsMap D) (k:Lit) (d:DataW Unit):IsMap (D.put k d):=by
 obtain ⟨es,rfl⟩:=h
 exact ⟨_,rfl⟩
theorem TalD.put {D:DataW Unit} {L:List Kc} (h:TalD D L) {k:Kc} (hk:KcW k):TalD (D.put (klK k) (.lit (.int .i64 ((L.count k:Int)+1)))) (L++[k]):=by
 have hne:∀{k':Kc},KcW k'->k'≠k->klK k'≠klK k:=fun hw hne e=>hne (klK_inj hw hk e)
 refine ⟨isMap_put h.map _ _,fun k' hw=>?_,fun k' hw=>?_,fun l hl=>?_,fun k' hk'=>?_⟩
 ·rw [List.count_append]
  by_cases e:k'=k
  ·subst e
   rw [atKey_put_same h.map (klK_key _)]
   simp
  ·rw [atKey_put_other (hne hw e),h.at_ k' hw]
   have :List.count k' [k]=0:=by rw [List.count_eq_zero];simp [e]
   rw [this];simp
 ·by_cases e:k'=k
  ·subst e
   rw [has_put_same h.map (klK_key _)]
   simp
  ·rw [has_put_other (hne hw e),h.has1 k' hw]
   simp [e]
 ·by_cases e:l=klK k
  ·exact ⟨k,by simp,e⟩
  ·rw [has_put_other e] at hl
   obtain ⟨k',h1,h2⟩:=h.has2 l hl
   exact ⟨k',by simp [h1],h2⟩
 ·rcases List.mem_append.1 hk' with h1 |h1
  ·exact h.wf k' h1
  ·rw [List.mem_singleton.1 h1];exact hk
def MapC (w:World) (b n:Nat) (L:List Kc):Prop:=∃D,w.ownsMap Tryz.prog 71 (plainElem (H:=Unit) Tryz.prog 3) b n D/\TalD D L
theorem MapC.lt {w:World} {b n:Nat} {L:List Kc} (h:MapC w b n L):b<w.heap.size:=by
 obtain ⟨D,h,-⟩:=h
 exact h.lt
theorem MapC.mono {w:World} {b n n':Nat} {L:List Kc} (h:MapC w b n L) (hn:n<=n'):MapC w b n' L:=by
 obtain ⟨D,h,h2⟩:=h
 exact ⟨D,h.mono hn,h2⟩
theorem MapC.ext {w w':World} {b n:Nat} {L:List Kc} (h:MapC w b n L) (hx:Ext w w'):MapC w' b n L:=by
 have hb:=hx.below.block b h.lt
 obtain ⟨D,⟨es,clock,h1,h2⟩,h3⟩:=h
 exact ⟨D,⟨es,clock,hb.trans h1,h2⟩,h3⟩
theorem MapC.look {w:World} {b n:Nat} {L:List Kc} (h:MapC w b n L) {k:Kc} (hk:KcW k):(Instr.lookup 48 (.map (some b)) (ctK k) false).run Tryz.prog w= .ok (.int .i64 (L.count k)) w:=by
 obtain ⟨D,h1,h2⟩:=h
 obtain ⟨c,hrun,hat,-⟩:=h1.lookup_int c_keyed Tryz.underlying48 Tryz.underlying3 (by kernel_rfl) (keyOf_ct hk)
 rw [h2.at_ k hk] at hat
 simp only [DataW.lit.injEq,Lit.int.injEq,true_and] at hat
 rw [hat];exact hrun
structure MidC (w:World) (b n:Nat) (L:List Kc) (k:Kc) (st:Int):Prop where
 lt:b<w.heap.size
 look:(Instr.lookup 48 (.map (some b)) (ctK k) false).run Tryz.prog w= .ok (.int .i64 (L.count k)) w
 store:∃es1 c1,w.heap[b]? =some (.map es1 c1)/\∀w2:World,w2.heap[b]? =some (.map es1 c1)->∃w3,(Instr.entryStore 48 (.map (some b)) (goInt st) (.int .i64 ((L.count k:Int)+1))).run Tryz.prog w2= .ok () w3/\MapC w3 b (n+1) (L++[k])/\w2.grownBy w3 (some b)
theorem owns_block {w w':World} {b n:Nat} {D:DataW Unit} {es:Array MapEntry} {c:Nat} (h:w.ownsMap Tryz.prog 71 (plainElem (H:=Unit) Tryz.prog 3) b n D) (h1:w.heap[b]? =some (.map es c)) (h2:w'.heap[b]? =some (.map es c)):w'.ownsMap Tryz.prog 71 (plainElem (H:=Unit) Tryz.prog 3) b n D:=by
 obtain ⟨es',c',h3,h4⟩:=h
 rw [h1] at h3
 injection h3 with h3
 injection h3 with e1 e2
 subst e1 e2
 exact ⟨_,_,h2,h4⟩
theorem zero_int (w:World):(zeroValue 3).run Tryz.prog w= .ok (.int .i64 0) w:=by kernel_rfl
theorem MapC.entry {w:World} {b n:Nat} {L:List Kc} (h:MapC w b n L) (hn:n<maxLen) (hL:L.length<4611686018427387904) {k:Kc} (hk:KcW k):
  ∃v0 st w1,(Instr.mapEntry 48 (.map (some b)) (ctK k)).run Tryz.prog w= .ok (.tuple #[v0,goInt st]) w1/\MidC w1 b n L k st/\w.grownBy w1 (some b):=by
 have hm:=h
 have hlook:=h.look hk
 obtain ⟨D,hown,hT⟩:=h
 have hown2:=hown
 obtain ⟨es,clock,hb,F,hs,rfl⟩:=hown
 have hkey:=keyOf_ct hk
 have hlt:b<w.heap.size:=(Array.getElem?_eq_some_iff.1 hb).1
 obtain ⟨v0,st,es1,c1,hE,hcase,hS⟩:=WideElems.entry_then_store (w:=w) c_law Tryz.underlying48 zero_int hb F hkey
 have hb1:(setBlock w b (.map es1 c1)).heap[b]? =some (.map es1 c1):=heap_setBlock_same hb _
 have hg1:w.grownBy (setBlock w b (.map es1 c1)) (some b):=⟨rfl,rfl,rfl,by simp [setBlock],fun i _ hi=>heap_setBlock_other hb _ (fun e=>hi (by rw [e]))⟩
 have hcnt:(L.count k:Int)<=L.length:=by have :=List.count_le_length (a:=k) (l:=L);omega
 have hcw:(Lit.int .i64 (L.count k:Int)).wf=true:=by
  have e1:IntKind.i64.min=-9223372036854775808:=rfl
  have e2:IntKind.i64.max=9223372036854775807:=rfl
  simp [Lit.wf];omega
 have hcw1:(Lit.int .i64 ((L.count k:Int)+1)).wf=true:=by
  have e1:IntKind.i64.min=-9223372036854775808:=rfl
  have e2:IntKind.i64.max=9223372036854775807:=rfl
  simp [Lit.wf];omega
 refine ⟨v0,st,_,hE,⟨by simp [setBlock];exact hlt,?_,es1,c1,hb1,fun w2 hw2=>?_⟩,hg1⟩
 ·--the number is there as it was
  rcases c_law.find w hkey es.toList F.keys with ⟨h1,h2⟩ |⟨j,e0,h1,h2,h3⟩
  ·have hE2:(Instr.mapEntry 48 (.map (some b)) (ctK k)).run Tryz.prog w= .ok (.tuple #[.int .i64 0,goInt clock]) (setBlock w b (.map (es.push ⟨ctK k,.int .i64 0,clock⟩) (clock+1))):=by
    simp [Instr.mapEntry,run_underlying Tryz.underlying48,MapKept.run_getObj_map hb,c_law.check w false hkey,h1,zero_int w,MapKept.run_setObj_map _ hb,Result.andThen,setBlock]
   have hU:(Instr.mapUpdate 48 (.map (some b)) (ctK k) (.int .i64 0)).run Tryz.prog w= .ok () (setBlock w b (.map (es.push ⟨ctK k,.int .i64 0,clock⟩) (clock+1))):=by
    simp [Instr.mapUpdate,run_underlying Tryz.underlying48,MapKept.run_getObj_map hb,c_law.check w false hkey,h1,MapKept.run_setObj_map _ hb,Result.andThen,setBlock]
   have hw:=(Result.ok.inj (hE.symm.trans hE2)).2
   obtain ⟨w3,hr3,ho3,-⟩:=hown2.update c_keyed Tryz.underlying48 hn hkey (plainElem_int Tryz.underlying3 (show (Lit.int .i64 0).wf=true by decide))
   have hr3:=(Result.ok.inj (hU.symm.trans hr3)).2
   rw [<-hr3,<-hw] at ho3
   obtain ⟨c,hrun,hat,-⟩:=ho3.lookup_int c_keyed Tryz.underlying48 Tryz.underlying3 (zero_int _) hkey
   rw [atKey_put_same hT.map (klK_key k)] at hat
   simp only [DataW.lit.injEq,Lit.int.injEq,true_and] at hat
   rw [hrun,<-hat]
   have h0:(L.count k:Int)=0:=by
    rcases Maps.fit_look false c_keyed Tryz.underlying48 (zero_int w) hb F hkey with ⟨hr,_,_⟩ |⟨e0,y,h5,h6,_⟩
    ·have hr2:=(Result.ok.inj (hlook.symm.trans hr)).1
     simpa using hr2
    ·exact absurd h6 (h2 e0 (by simpa using h5))
   rw [h0]
  ·have hsame:es1=es/\c1=clock:=by
    have hj:es[j]? =some e0:=by simpa using h2
    have hsm:es.modify j (fun e=>{e with key:=ctK k})=es:=by
     apply Array.ext'
     rw [Array.toList_modify,ChangeMaps.modify_eq_set _ _ _ _ h2]
     have :({e0 with key:=ctK k}:MapEntry)=e0:=by rw [<-h3]
     rw [this]
     exact WideElems.set_self _ _ _ h2
    have hE2:(Instr.mapEntry 48 (.map (some b)) (ctK k)).run Tryz.prog w= .ok (.tuple #[e0.val,goInt e0.born]) (setBlock w b (.map es clock)):=by
     simp [Instr.mapEntry,run_underlying Tryz.underlying48,MapKept.run_getObj_map hb,c_law.check w false hkey,h1,hj,h3,c_law.stays w hkey,hsm,MapKept.run_setObj_map _ hb,Result.andThen,setBlock]
    have hw:=(Result.ok.inj (hE.symm.trans hE2)).2
    rw [hw,heap_setBlock_same hb] at hb1
    injection hb1 with hb1
    injection hb1 with e1 e2
    exact ⟨e1.symm,e2.symm⟩
   obtain ⟨rfl,rfl⟩:=hsame
   exact MapC.look ⟨_,⟨_,_,hb1,F,hs,rfl⟩,hT⟩ hk
 ·obtain ⟨es',c',hr1,hr2⟩:=hS w2 (.int .i64 ((L.count k:Int)+1)) hw2
  obtain ⟨w3,hr3,ho3,-⟩:=hown2.update c_keyed Tryz.underlying48 hn hkey (plainElem_int Tryz.underlying3 hcw1)
  have hr3:=(Result.ok.inj (hr2.symm.trans hr3)).2
  rw [<-hr3] at ho3
  exact ⟨_,hr1,⟨_,owns_block ho3 (heap_setBlock_same hb _) (heap_setBlock_same hw2 _),hT.put hk⟩,⟨rfl,rfl,rfl,by simp [setBlock],fun i _ hi=>heap_setBlock_other hw2 _ (fun e=>hi (by rw [e]))⟩⟩
/-! ## The loop over the map -/
def RngC (w:World) (b r n:Nat) (L ks:List Kc) (cnt:Nat):Prop:=
 ∃D left,w.ranges Tryz.prog 71 (plainElem (H:=Unit) Tryz.prog 3) b r n D left cnt/\TalD D L/\(∀k,KcW k->(left (klK k)=true↔k∈L/\k∉ks))/\ks.Nodup/\(∀k∈ks,k∈L)/\∀l,left l=true->has D l=true
theorem RngC.map {w:World} {b r n cnt:Nat} {L ks:List Kc} (h:RngC w b r n L ks cnt):MapC w b n L:=by
 obtain ⟨D,left,h1,h2,-⟩:=h
 exact ⟨D,h1.owns,h2⟩
theorem RngC.lt {w:World} {b r n cnt:Nat} {L ks:List Kc} (h:RngC w b r n L ks cnt):r<w.heap.size/\r≠b:=by
 obtain ⟨D,left,h1,-⟩:=h
 exact ⟨h1.lt,h1.ne⟩
theorem RngC.kept {w w':World} {b r n cnt:Nat} {L ks:List Kc} (h:RngC w b r n L ks cnt) (hb:w'.heap[b]? =w.heap[b]?) (hr:w'.heap[r]? =w.heap[r]?):RngC w' b r n L ks cnt:=by
 obtain ⟨D,left,⟨es,clock,since,seen,c0,h1,h2,h3,h4,h5,h6⟩,h7⟩:=h
 exact ⟨D,left,⟨es,clock,since,seen,c0,hb.trans h1,h2,h3,h4,hr.trans h5,h6⟩,h7⟩
theorem MapC.range {w:World} {b n:Nat} {L:List Kc} (h:MapC w b n L):∃w' cnt,(Instr.range 48 (.map (some b))).run Tryz.prog w= .ok (.pointer (some ⟨w.heap.size,0,none⟩)) w'/\RngC w' b w.heap.size n L [] cnt/\w.grownBy w' none/\w'.heap.size=w.heap.size+1:=by
 obtain ⟨D,h1,h2⟩:=h
 obtain ⟨w',hr,hg,hgr,hs⟩:=h1.range c_keyed Tryz.underlying48
 exact ⟨w',_,hr,⟨D,_,hg,h2,fun k hk=>by rw [h2.has1 k hk];simp,List.nodup_nil,fun k hk=>by simp at hk,fun l hl=>hl⟩,hgr,hs⟩
theorem RngC.keys {w:World} {b r n cnt:Nat} {L ks:List Kc} (h:RngC w b r n L ks cnt):ks.Nodup/\∀k∈ks,k∈L:=by
 obtain ⟨D,left,-,-,-,h4,h5,-⟩:=h
 exact ⟨h4,h5⟩
end Go.Proofs.YtpcgfpmiphiacaaGreat
namespace Go.Proofs.YtpcgfpmiphiacaaGreat
open Go.RowKit
def CtV (w:World) (A:Option Addr) (p:List Ct):Prop:=∃te,Arr w A te (ctF p)
theorem CtV.ext {w w':World} {A:Option Addr} {p:List Ct} (h:CtV w A p) (hx:Ext w w'):CtV w' A p:=by
 obtain ⟨te,h⟩:=h
 exact ⟨te,h.ext hx⟩
theorem CtV.at_ {w:World} {A:Option Addr} {p:List Ct} (h:CtV w A p) {i:Nat} {c:Ct} (hi:p[i]? =some c):∃b o,A=some ⟨b,o,none⟩/\w.cell? ⟨b,o+i*3,none⟩=some (.int .i64 c.1.1)/\w.cell? ⟨b,o+i*3+1,none⟩=some (.int .i64 c.1.2)/\w.cell? ⟨b,o+i*3+2,none⟩=some (.int .i64 c.2)/\b<w.heap.size:=by
 obtain ⟨te,h⟩:=h
 obtain ⟨f0,f1,f2⟩:=ctF_get p i c hi
 obtain ⟨b,o,rfl,h0,hb⟩:=h.at_ f0
 obtain ⟨b',o',hA',h1,-⟩:=h.at_ f1
 injection hA' with hA'
 injection hA' with z1 z2
 subst z1 z2
 obtain ⟨b',o',hA',h2,-⟩:=h.at_ f2
 injection hA' with hA'
 injection hA' with z1 z2
 subst z1 z2
 exact ⟨b,o,rfl,h0,h1,h2,hb⟩
end Go.Proofs.YtpcgfpmiphiacaaGreat
