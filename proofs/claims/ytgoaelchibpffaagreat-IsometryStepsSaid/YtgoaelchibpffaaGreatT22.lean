import Derived.Test.YtgoaelchibpffaaGreatT21
import Derived.Maps.RangeWalk
import Derived.Maps.OwnOps
import Derived.DeepKeys4
import Derived.WideKeyEntry
import Derived.StillTailTactics
set_option maxHeartbeats 8000000
set_option linter.unusedVariables false
set_option linter.unusedSimpArgs false
namespace Go.Proofs.YtgoaelchibpffaaGreat
variable {L m:List (List Int)} {A:Option Addr} {w w':World}
section
theorem VecList.norms{b:Int}{e:Bool}(h:VecList m b e L):L.Pairwise (fun x y=>zh m x<=zh m y):=h.sorted.imp (fun{x y}h=>by
 rcases Int.lt_or_le (zh m y) (zh m x) with h1|h1
 ·unfold qs Jp at h;rw[Ql h1,if_neg ac]at h;omega
 ·exact h1)
def Bdry(ns:List Int)(a:Nat):Prop:=∀(i j:Nat)(x y:Int),i<a->a<=j->ns[i]? =some x->ns[j]? =some y->x<y
theorem Bdry.zero(ns:List Int):Bdry ns 0:=fun i _ _ _ h=>absurd h aa
def ctV(c:Ct):List Value:=[.int .i64 c.1.1,.int .i64 c.1.2,.int .i64 c.2]
def ctF(p:List Ct):List Value:=p.flatMap ctV
theorem zih:∀(p:List Ct)(i:Nat)(c:Ct),p[i]? =some c->(ctF p)[i*3]? =some (.int .i64 c.1.1)/\(ctF p)[i*3+1]? =some (.int .i64 c.1.2)/\(ctF p)[i*3+2]? =some (.int .i64 c.2)
 |[],i,c,h=>by simp at h
 |y::l,0,c,h=>by simp at h;subst h;exact⟨rfl,rfl,rfl⟩
 |y::l,i+1,c,h=>by
  have:=zih l i c (by simpa using h);rw[(aa:(i+1)*3=i*3+3)];exact this
end
section
open Go.RowKit Go.Maps
open Go.ChangeMaps (setBlock heap_setBlock_same heap_setBlock_other)
def klK(k:Kc):Lit:= .string (keyBytes [.int .i64 k.1,.int .i64 k.2,.int .i64 0])
def KcW(k:Kc):Prop:=(Lit.int .i64 k.1).wf=true/\(Lit.int .i64 k.2).wf=true
structure TalD(D:DataW Unit)(L:List Kc):Prop where
 map:IsMap D
 at_:∀k,KcW k->D.atKey (klK k) (.lit (.int .i64 0))= .lit (.int .i64 (L.count k))
 zyz:∀k,KcW k->(has D (klK k)=true↔k∈L)
 zyA:∀l,has D l=true->∃k∈L,l=klK k
 wf:∀k∈L,KcW k
theorem TalD.nil:TalD (.map []) []:=⟨⟨[],rfl⟩,fun k _=>rfl,fun k _=>by simp[has],fun l h=>by simp[has]at h,fun k h=>by simp at h⟩
end
section
open Go.RowKit
def CtV(w:World)(A:Option Addr)(p:List Ct):Prop:=∃te,Arr w A te (ctF p)
theorem CtV.ext{p:List Ct}(h:CtV w A p)(hx:Ext w w'):CtV w' A p:=by
 obtain⟨te,h⟩:=h;exact⟨te,h.ext hx⟩
theorem CtV.nil(w:World):CtV w none []:=⟨0,Arr.nil⟩
theorem CtV.at_{p:List Ct}(h:CtV w A p){i:Nat}{c:Ct}(hi:p[i]? =some c):∃b o,A=some ⟨b,o,none⟩/\w.cell? ⟨b,o+i*3,none⟩=some (.int .i64 c.1.1)/\w.cell? ⟨b,o+i*3+1,none⟩=some (.int .i64 c.1.2)/\w.cell? ⟨b,o+i*3+2,none⟩=some (.int .i64 c.2)/\b<w.heap.size:=by
 obtain⟨te,h⟩:=h;obtain⟨f0,f1,f2⟩:=zih p i c hi;obtain⟨b,o,rfl,h0,hb⟩:=h.at_ f0;obtain⟨b',o',hA',h1,-⟩:=h.at_ f1;injection hA' with hA'
 injection hA' with z1 z2
 subst z1 z2;obtain⟨b',o',hA',h2,-⟩:=h.at_ f2;injection hA' with hA'
 injection hA' with z1 z2
 subst z1 z2;exact⟨b,o,rfl,h0,h1,h2,hb⟩
theorem zii(a b:Int):IntKind.i64.wrap (a+IntKind.i64.wrap b)=IntKind.i64.wrap (a+b):=by simp only[IntKind.wrap_i64];omega
theorem zer(a b:Int):IntKind.i64.wrap (IntKind.i64.wrap a+b)=IntKind.i64.wrap (a+b):=by simp only[IntKind.wrap_i64];omega
theorem JF(n:Int):wrap64 n=IntKind.i64.wrap n:=by
 simp only[wrap64,IntKind.wrap_i64]<;>omega
theorem zij:∀x y:List Int,zx x (y.take x.length)=zx x y
 |[],y=>by rw[za3,za3]
 |a::x,[]=>rfl
 |a::x,b::y=>by
  simp only[List.length_cons,List.take_succ_cons,zx];rw[zij x y]
def z6(x y:List Int):Int:=IntKind.i64.wrap (zx x y)
def zC(m:List (List Int))(x:List Int):List Int:=m.map fun r=>z6 r x
theorem zpz(Y:List Int)(q n:Nat)(v:Int)(h:Y[q]? =some v)(hq:q<n):(Y.take q++List.replicate (n-q) 0).set q v=Y.take (q+1)++List.replicate (n-(q+1)) 0:=by
 have hl:(Y.take q).length=q:=by
  have:=(Zg.1 h).1;simp;omega
 have e:List.replicate (n-q) (0:Int)=0::List.replicate (n-(q+1)) 0:=by rw[<-List.replicate_succ];congr 1;omega
 rw[List.set_append_right _ _ aa,hl,Nat.sub_self,e,List.set_cons_zero,List.take_add_one,h];simp
def GrowD(w w':World):Prop:=∃q os,w'=Sort.grow (w.drewN q) os
theorem GrowD.refl(w:World):GrowD w w:=⟨0,#[],by simp[Sort.grow,World.drewN]⟩
theorem GrowD.trans{a b c:World}(h:GrowD a b)(h':GrowD b c):GrowD a c:=by
 obtain⟨q,os,rfl⟩:=h;obtain⟨q',os',rfl⟩:=h';refine⟨q+q',os++os',?_⟩;rw[<-World.drewN_drewN,<-Sort.grow_grow];rfl
theorem GrowD.ext(h:GrowD w w'):Ext w w':=by
 have:=zgm h;infer_instance
theorem zpA(a t:Int):IntKind.i64.wrap (a+18446744073709551616*t)=IntKind.i64.wrap a:=by simp only[IntKind.wrap_i64];omega
theorem zpB(a b:Int):IntKind.i64.wrap (IntKind.i64.wrap a*b)=IntKind.i64.wrap (a*b):=by
 obtain⟨t,ht⟩:∃t,IntKind.i64.wrap a=a+18446744073709551616*t:=⟨-((a+9223372036854775808) / 18446744073709551616),by simp only[IntKind.wrap_i64];omega⟩;rw[ht,Int.add_mul,Int.mul_assoc,zpA]
theorem zik:∀l x:List Int,z6 (l.map IntKind.i64.wrap) x=z6 l x
 |[],x=>rfl
 |a::l,[]=>rfl
 |a::l,b::x=>by
  have ih:=zik l x;unfold z6 at*
  simp only[List.map_cons,zx];have h1:∀s t:Int,IntKind.i64.wrap (s+t)=IntKind.i64.wrap (s+IntKind.i64.wrap t):=fun s t=>(zii s t).symm
  rw[h1,ih,<-h1,<-zer,zpB,zer]
theorem zpC(m:List (List Int))(x:List Int):zC m x=(zY m x).map IntKind.i64.wrap:=by
 unfold zC zY;rw[List.map_map];rfl
theorem zbu(m:List (List Int))(y x:List Int):z6 (zC m y) x=z6 (zY m y) x:=by rw[zpC,zik]
theorem zpD{y:List Int}(h:-9223372036854775808<=zh m y/\zh m y<=9223372036854775807):z6 (zC m y) y=zh m y:=by
 rw[zbu];unfold z6;rw[zdY];exact IntWalk.i64_in _ h
structure SysV(w:World)(m L:List (List Int))(LA NA DA:Option Addr):Prop where
 list:Mat64 w LA L
 norms:Ints w NA 2 .i64 (L.map (zh m))
 duals:Mat64 w DA (L.map (zC m))
theorem SysV.ext{LA NA DA:Option Addr}(h:SysV w m L LA NA DA)(hx:Ext w w'):SysV w' m L LA NA DA:=⟨h.list.ext hx,h.norms.ext hx,h.duals.ext hx⟩
end
end Go.Proofs.YtgoaelchibpffaaGreat
