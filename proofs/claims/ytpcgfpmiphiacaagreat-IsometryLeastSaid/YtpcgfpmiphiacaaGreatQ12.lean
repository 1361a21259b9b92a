/- Ref7 Ref9 RefA RefB RefD RefE RefQ -/
import Derived.Test.YtpcgfpmiphiacaaGreatQ11
import Derived.Test.YtpcgfpmiphiacaaGreatProg
import Derived.Deep.LoopGhost
import Derived.Test.YtpcgfpmiphiacaaGreatShelf
import Derived.BigRegion
set_option maxHeartbeats 8000000
set_option linter.unusedVariables false
set_option linter.unusedSimpArgs false
set_option linter.constructorNameAsVariable false
namespace Go.Proofs.YtpcgfpmiphiacaaGreat
open Go.RowKit
theorem MatV.entry {w:World} {A:Option Addr} {m:List (List Int)} {n:Nat} (h:MatV w A m) (hn:AllLen m n) {i j:Nat} (hi:i<m.length) (hj:j<n):
  ∃b o b' o' c g B k d,A=some ⟨b,o,none⟩/\w.cell? ⟨b,o+i,none⟩=some (.slice (some ⟨b',o',none⟩) n c)/\w.cell? ⟨b',o'+j*2,none⟩=some (.bool g)/\w.cell? ⟨b',o'+j*2+1,none⟩=some (.slice B k d)/\IntV w g B k d (ent m i j)/\b<w.heap.size/\b'<w.heap.size/\n<=c/\c<=9223372036854775807:=by
 obtain ⟨r,hr⟩:∃r,m[i]? =some r:=⟨_,List.getElem?_eq_getElem hi⟩
 have hl:=hn r (List.mem_of_getElem? hr)
 obtain ⟨b,o,B,c,rfl,hc,hI,h1,h2,hb⟩:=h.at_ hr
 obtain ⟨b',o',g,B',k,d,rfl,e1,e2,hz,hb'⟩:=hI.at_ (i:=j) (by omega)
 have he:=ent_get hr (j:=j) (by omega)
 rw [List.getElem?_eq_getElem (by omega)] at he
 injection he with he
 rw [hl] at hc h1
 rw [he] at hz
 exact ⟨b,o,b',o',c,g,B',k,d,rfl,hc,e1,e2,hz,hb,hb',h1,h2⟩
theorem ent_tab2 (F:Nat->Nat->Int) (r c i j:Nat) (hi:i<r) (hj:j<c):ent (tab F r c) i j=F i j:=by
 unfold ent
 have e:(tab F r c).getD i []=(List.range c).map fun y=>F i y:=by simp [List.getD,tab_get F r c i hi]
 rw [e]
 simp [List.getD,hj]
theorem Oth.below {T:TypeId} {w0 w w':World} (h:Oth T w0 w) (hb:Below w0.heap.size w w'):Oth T w0 w':=fun b cs e fr hn hc=>
 (hb.block b (lt_of_heap hc)).trans (h b cs e fr hn hc)
theorem VsOf.grow {w w':World} {base:Nat} {e:TypeId} {vs:List Value} {zs:List Int} (h:VsOf w vs zs) (hg:Grow base e w w') (h2:271≠e):VsOf w' vs zs:=h.map fun hz=>hz.grow hg h2
theorem OwnI.far {w:World} {lo g n:Nat} {hs:List (Nat×Nat)} {a:List (List Int)} (h:OwnI w lo g n hs a) {p:Nat} {cs:Array Value} (hp:w.heap[p]? =some (.cells cs 149 (0,0))) (hne:∀q∈hs,q.1≠p) (i j:Nat) (u v:Value):
  OwnI ((w.setCell ⟨p,i,none⟩ u).setCell ⟨p,j,none⟩ v) lo g n hs a:=by
 have hg:g≠p:=fun e=>by
  have h1:=h.head
  unfold VRow at h1
  rw [e,hp] at h1
  injection h1 with h1
  injection h1 with _ h1
  exact absurd h1 (by decide)
 exact ⟨(h.head.far (p:=⟨p,i,none⟩) hg _).far (p:=⟨p,j,none⟩) hg _,h.glo,h.len,h.dist,h.new,h.all,fun x q r hq hr=>(h.row x q r hq hr).far2 hp (hne q (List.mem_of_getElem? hq)) _ _⟩
theorem OwnI.old {w:World} {lo g n:Nat} {hs:List (Nat×Nat)} {a:List (List Int)} (h:OwnI w lo g n hs a):∀p∈hs,p.1<w.heap.size:=fun p hp=>by
 obtain ⟨i,hi⟩:=List.getElem?_of_mem hp
 obtain ⟨r,hr⟩:∃r,a[i]? =some r:=⟨_,List.getElem?_eq_getElem (by have :=(List.getElem?_eq_some_iff.1 hi).1;rw [<-h.len];exact this)⟩
 exact (h.row i p r hi hr).lt
def elimP (k:Nat) (last:Int) (a:List (List Int)) (i j:Nat):Nat->Nat->Int:=fun x y=>if k<x/\k<y/\(x<i∨(x=i/\y<j)) then (ent a k k*ent a x y-ent a x k*ent a k y) / last else ent a x y
theorem elimP_start {n k:Nat} {last:Int} {a:List (List Int)} (hl:a.length=n) (ha:AllLen a n):tab (elimP k last a (k+1) (k+1)) n n=a:=by
 have h1:=tab_eq a n ha
 rw [hl] at h1
 conv=>rhs;rw [<-h1]
 refine tab_eq_of fun x y _ _=>?_
 unfold elimP
 rw [if_neg (by omega)];rfl
theorem elimP_set {n k i j:Nat} {last:Int} {a:List (List Int)} (hi:i<n) (hj:j<n) (hk:k<i) (hk2:k<j):setE (tab (elimP k last a i j) n n) i j ((ent a k k*ent a i j-ent a i k*ent a k j) / last)=tab (elimP k last a i (j+1)) n n:=by
 rw [setE_tab hi hj]
 refine tab_eq_of fun x y _ _=>?_
 unfold elimP
 by_cases h:x=i/\y=j
 ·rw [if_pos h,if_pos (by omega)];obtain ⟨rfl,rfl⟩:=h;rfl
 ·rw [if_neg h]
  by_cases h2:k<x/\k<y/\(x<i∨x=i/\y<j)
  ·rw [if_pos h2,if_pos (by omega)]
  ·rw [if_neg h2,if_neg (by omega)]
theorem elimP_next (n k i:Nat) (last:Int) (a:List (List Int)):tab (elimP k last a i n) n n=tab (elimP k last a (i+1) (k+1)) n n:=
 tab_eq_of fun x y _ hy=>by
  unfold elimP
  by_cases h2:k<x/\k<y/\(x<i∨x=i/\y<n)
  ·rw [if_pos h2,if_pos (by omega)]
  ·rw [if_neg h2,if_neg (by omega)]
theorem elimP_done (n k j:Nat) (last:Int) (a:List (List Int)):tab (elimP k last a n j) n n=elimStep n k last a:=
 tab_eq_of fun x y hx _=>by
  unfold elimP
  by_cases h2:k<x/\k<y
  ·rw [if_pos (by omega),if_pos h2]
  ·rw [if_neg (by omega),if_neg h2]
theorem ent_elimP {n k i j x y:Nat} {last:Int} {a:List (List Int)} (hx:x<n) (hy:y<n) (h:x=k∨y=k∨(x=i/\y=j)):ent (tab (elimP k last a i j) n n) x y=ent a x y:=by
 rw [ent_tab2 _ _ _ _ _ hx hy]
 unfold elimP
 rw [if_neg (by omega)]
def RowsOf (w:World) (vs:List Value) (m:List (List Int)):Prop:=∀(i:Nat) (r:List Int),m[i]? =some r->∃B c,vs[i]? =some (.slice B r.length c)/\IntsV w B r/\r.length<=c/\c<=9223372036854775807
theorem RowsOf.map {w w':World} {vs:List Value} {m:List (List Int)} (h:RowsOf w vs m) (hk:∀{B:Option Addr} {r:List Int},IntsV w B r->IntsV w' B r):RowsOf w' vs m:=fun i r hr=>by
 obtain ⟨B,c,a1,a2,a3⟩:=h i r hr
 exact ⟨B,c,a1,hk a2,a3⟩
section
variable {P:Program} (w:World)
theorem wpList_appx {ops:Array Oper} {rest:List Oper} {o:Oper} {a:Act} {Q:Exit->Act->World->Prop} (hgd:o.guard=none) (s x:Operand) (t:TypeId)
  (ho:o.op= .call {callee:= .builtin .append,args:=#[s,x],argTypes:=#[t,t]})
  (base:Nat) (e:TypeId) (z:Value) (size bytes:Nat) (ht:P.underlying t=some (.slice e)) (hi:(P.info? e).map (fun i=>(i.zero,i.size,i.bytes))=some (some z,size,bytes))
  (hzs:z.cells.size=size) (hsz:0<size) (hb:bytes<=128)
  (A:Option Addr) (n c:Nat) (xs:List Value) (hs:a.eval s= .slice A n c) (hown:Own w base e size A n c xs)
  (ad:Addr) (m c':Nat) (news:List Value) (hx:a.eval x= .slice (some ad) m c') (hsrc:Arr w (some ad) e news) (hl:news.length=m*size) (h1:∀u∈news,u.oneCell'=true)
  (h63:n+m<=1099511627776) (hbase:base<=w.heap.size)
  (h:∀A1 c1 w',Own w' base e size A1 (n+m) c1 (xs++news)->Grow base e w w'->Grew A A1 w w'->wpList P ops Q rest (a.put o.dst (.slice A1 (n+m) c1)) w'):wpList P ops Q (o::rest) a w:=
 wpList_plain hgd fun _ hK=>by
  obtain ⟨A1,c1,w',hrun,h2,h3,h4⟩:=run_appx (P:=P) w base t o.type e z size bytes ht hi hzs hsz hb A n c xs hown ad m c' news hsrc hl h1 h63 hbase
  unfold Oper.wp execOp
  simp only [ho,resolve,invoke,builtin,Sem.run_bind,Sem.run_pure,Result.andThen_ok,List.map_toArray,List.map_cons,List.map_nil,hs,hx,hrun]
  exact hK _ _ (h A1 c1 w' h2 h3 h4)
end
def Sep (A B:Option Addr):Prop:=∀a b,A=some a->B=some b->a.block≠b.block
theorem Sep.symm {A B:Option Addr} (h:Sep A B):Sep B A:=fun a b ha hb e=>h b a hb ha e.symm
def SymM (m:List (List Int)) (n:Nat):Prop:=∀i,i<n->∀j,j<i->ent m i j=ent m j i
def ValM (m:List (List Int)):Prop:=SymM m m.length/\∀x∈leadF m,0<x
instance TNe.u32_Rat:TNe 271 156:=⟨by decide⟩
end Go.Proofs.YtpcgfpmiphiacaaGreat
