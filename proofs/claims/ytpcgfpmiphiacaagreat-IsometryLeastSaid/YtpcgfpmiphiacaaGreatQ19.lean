/- Io8 Io9 Io10 -/
import Derived.Test.YtpcgfpmiphiacaaGreatQ18
import Derived.Test.YtpcgfpmiphiacaaGreatProg
import Derived.Test.YtpcgfpmiphiacaaGreatShelf
import Derived.Test.YtpcgfpmiphiacaaGreatShelfI
import Derived.Test.YtpcgfpmiphiacaaGreatRows
import Derived.Test.YtpcgfpmiphiacaaGreatShelfC
set_option maxHeartbeats 8000000
set_option linter.unusedVariables false
set_option linter.unusedSimpArgs false
set_option linter.constructorNameAsVariable false
namespace Go.Proofs.YtpcgfpmiphiacaaGreat
open Go.RowKit La
structure OnlyS (S:Nat->Prop) (w w':World):Prop where
 b0:Below 0 w w'
 rest:∀b,b<w.heap.size->¬S b->w'.heap[b]? =w.heap[b]?
section
variable {S S':Nat->Prop} {w w' w2 w0:World}
theorem OnlyS.size (h:OnlyS S w w'):w.heap.size<=w'.heap.size:=h.b0.size
theorem OnlyS.refl (S:Nat->Prop) (w:World):OnlyS S w w:=⟨Below.refl _ _,fun _ _ _=>rfl⟩
theorem OnlyS.trans (h:OnlyS S w w') (h':OnlyS S w' w2):OnlyS S w w2:=⟨h.b0.trans h'.b0,fun b hb hs=>(h'.rest b (Nat.lt_of_lt_of_le hb h.size) hs).trans (h.rest b hb hs)⟩
theorem OnlyS.mono (h:OnlyS S w w') (hs:∀b,b<w.heap.size->S b->S' b):OnlyS S' w w':=⟨h.b0,fun b hb h'=>h.rest b hb fun q=>h' (hs b hb q)⟩
theorem OnlyS.of_ext (h:Ext w w'):OnlyS S w w':=⟨h.below.mono (Nat.zero_le _),fun b hb _=>h.below.block b hb⟩
theorem OnlyS.of_only {g:Nat} (h:Only g w w') (hg:S g):OnlyS S w w':=⟨h.below.mono (Nat.zero_le _),fun b hb hs=>h.at_ hb fun e=>hs (e▸hg)⟩
theorem OnlyS.set {p:Addr} (hg:S p.block) (u:Value):OnlyS S w (w.setCell p u):=⟨(Below.refl 0 w).setCell (Nat.zero_le _) u,fun b _ hs=>Below.heap_setCell w p u b fun e=>hs (e▸hg)⟩
theorem OnlyS.ext (h:OnlyS S w w') (hx:Ext w0 w) (hS:∀b,S b->w0.heap.size<=b):Ext w0 w':=
 ⟨hx.below.trans ⟨h.b0.os,h.b0.tape,h.b0.output,h.b0.size,fun b hb=>h.rest b (Nat.lt_of_lt_of_le hb hx.size) fun q=>absurd (hS b q) (by omega)⟩⟩
theorem OnlyS.heap (h:OnlyS S w w') {b:Nat} {o:Obj} (hb:w.heap[b]? =some o) (hs:¬S b):w'.heap[b]? =some o:=(h.rest b (lt_of_heap hb) hs).trans hb
end
section
variable {P:Program} {w:World}
theorem wpList_appK {ops:Array Oper} {rest:List Oper} {o:Oper} {a:Act} {Q:Exit->Act->World->Prop} (hgd:o.guard=none) (s x:Operand) (t:TypeId)
  (ho:o.op= .call {callee:= .builtin .append,args:=#[s,x],argTypes:=#[t,t]})
  (base:Nat) (e:TypeId) (z:Value) (size bytes:Nat) (ht:P.underlying t=some (.slice e)) (hi:(P.info? e).map (fun i=>(i.zero,i.size,i.bytes))=some (some z,size,bytes))
  (hzs:z.cells.size=size) (hsz:0<size) (hb:bytes<=128)
  (A:Option Addr) (n c:Nat) (xs:List Value) (hs:a.eval s= .slice A n c) (hown:Own w base e size A n c xs)
  (ad:Addr) (m c':Nat) (news:List Value) (hx:a.eval x= .slice (some ad) m c') (hsrc:Arr w (some ad) e news) (hl:news.length=m*size) (h1:∀u∈news,u.oneCell'=true)
  (h63:n+m<=1099511627776) (hbase:base<=w.heap.size)
  (h:∀A1 c1 w',Own w' base e size A1 (n+m) c1 (xs++news)->Grow base e w w'->Grew A A1 w w'->wpList P ops Q rest (a.put o.dst (.slice A1 (n+m) c1)) w'):wpList P ops Q (o::rest) a w:=by
 refine wpList_plain hgd fun K hK=>?_
 obtain ⟨A1,c1,w',hrun,h2,h3,h4⟩:=run_appx (P:=P) w base t o.type e z size bytes ht hi hzs hsz hb A n c xs hown ad m c' news hsrc hl h1 h63 hbase
 unfold Oper.wp execOp
 simp only [ho,resolve,invoke,builtin,Sem.run_bind,Sem.run_pure,Result.andThen_ok,List.map_toArray,List.map_cons,List.map_nil,hs,hx,hrun]
 exact hK _ _ (h A1 c1 w' h2 h3 h4)
end
/-! ## Colors -/
def colF (cd:Bool) (m P cols:List (List Int)) (x:List Int):Int:=if cd then clK m P cols x else 0
def trF (cd:Bool) (b Q:List (List Int)) (k:Nat):Int:=if cd then clK b Q (unsL b.length k) (unL b.length k) else 0
def totF (cd:Bool) (b Q:List (List Int)) (k:Nat):Int:=if cd then clT b Q (unsL b.length k) else 0
theorem clK_snoc (m P cols:List (List Int)) (p:List Int):clK m P (cols++[p])=clR m (clK m P cols) p:=by unfold clK;rw [List.foldl_append];rfl
theorem clK_lt (m P cols:List (List Int)) (x:List Int):0<=clK m P cols x/\clK m P cols x<18446744073709551616:=by
 rcases List.eq_nil_or_concat cols with rfl |⟨l,p,rfl⟩
 ·exact wU_lt _
 ·rw [List.concat_eq_append,clK_snoc];exact clR_lt _ _ _ _
theorem uns_succ (n k:Nat):unsL n (k+1)=unsL n k++[unL n k]:=by simp [unsL,List.range_succ]
/-! ## The search -/
structure SeaC where
 sb:Nat
 n:Nat
 N:Nat
 bA:Option Addr
 bc:Nat
 PA:Option Addr
 pc:Nat
 DA:Option Addr
 dc:Nat
 NA:Option Addr
 nc:Nat
 CV:Value
 cb:Nat
 hs:List Nat
 TA:Option Addr
 tc:Nat
 ob:Nat
 cd:Bool
def SeaC.cells (c:SeaC) (SA:Option Addr) (k sc:Nat):Array Value:=#[.slice c.bA c.n c.bc,.slice c.PA c.N c.pc,.slice c.DA c.N c.dc,.slice c.NA c.N c.nc,c.CV,.slice SA k sc,.slice (some ⟨c.cb,0,none⟩) (c.n+1:Nat) (c.n+1:Nat),.slice c.TA c.n c.tc,.slice (some ⟨c.ob,0,none⟩) (c.n+1:Nat) (c.n+1:Nat),.bool c.cd]
def trG (b:List (List Int)) (n:Nat) (f:Nat->Int):List Value:=(List.range (n*2)).map fun t=>if t%2=0 then .int .i64 (ent b (t / 2) (t / 2)) else .int .u64 (f (t / 2))
def trV (cd:Bool) (b Q:List (List Int)) (n:Nat):List Value:=trG b n (trF cd b Q)
theorem trG_len (b:List (List Int)) (n:Nat) (f:Nat->Int):(trG b n f).length=n*2:=by simp [trG]
theorem trG_get (b:List (List Int)) (f:Nat->Int) {k n:Nat} (h:k<n):(trG b n f)[k*2]? =some (.int .i64 (ent b k k))/\(trG b n f)[k*2+1]? =some (.int .u64 (f k)):=by
 unfold trG
 rw [List.getElem?_map,List.getElem?_map,List.getElem?_range (by omega),List.getElem?_range (by omega)]
 simp only [Option.map_some]
 rw [if_pos (by omega),if_neg (by omega),show k*2 / 2=k by omega,show (k*2+1) / 2=k by omega]
 exact ⟨rfl,rfl⟩
theorem trG_succ (b:List (List Int)) (n:Nat) (f:Nat->Int):trG b (n+1) f=trG b n f++[.int .i64 (ent b n n),.int .u64 (f n)]:=by
 unfold trG
 rw [show (n+1)*2=n*2+1+1 by omega,List.range_succ,List.range_succ,List.map_append,List.map_append,List.append_assoc]
 simp only [List.map_cons,List.map_nil,List.singleton_append]
 rw [if_pos (by omega),if_neg (by omega),show n*2 / 2=n by omega,show (n*2+1) / 2=n by omega]
theorem trG_congr {b:List (List Int)} {n:Nat} {f f':Nat->Int} (h:∀j,j<n->f j=f' j):trG b n f=trG b n f':=by
 refine List.map_congr_left fun t ht=>?_
 rw [h (t / 2) (by have :=List.mem_range.1 ht;omega)]
theorem trG_set (b:List (List Int)) {n k:Nat} (f:Nat->Int) (v:Int) (hk:k<n):(trG b n f).set (k*2+1) (.int .u64 v)=trG b n (fun j=>if j=k then v else f j):=by
 refine List.ext_getElem? fun t=>?_
 rw [List.getElem?_set,trG_len]
 unfold trG
 by_cases e:k*2+1=t
 ·subst e
  rw [if_pos rfl,if_pos (by omega),List.getElem?_map,List.getElem?_range (by omega)]
  simp only [Option.map_some]
  rw [if_neg (by omega),if_pos (by omega)]
 ·rw [if_neg e,List.getElem?_map,List.getElem?_map]
  by_cases ht:t<n*2
  ·rw [List.getElem?_range ht]
   simp only [Option.map_some]
   by_cases h2:t%2=0
   ·rw [if_pos h2,if_pos h2]
   ·rw [if_neg h2,if_neg h2,if_neg (by omega)]
  ·rw [List.getElem?_eq_none (by simp;omega)];rfl
def totG (n:Nat) (f:Nat->Int):List Int:=(List.range (n+1)).map f
theorem totG_set {n k:Nat} (f:Nat->Int) (v:Int) (hk:k<=n):(totG n f).set k v=totG n (fun j=>if j=k then v else f j):=by
 refine List.ext_getElem? fun t=>?_
 unfold totG
 rw [List.getElem?_set,List.length_map,List.length_range]
 by_cases e:k=t
 ·subst e
  rw [if_pos rfl,if_pos (by omega),List.getElem?_map,List.getElem?_range (by omega)]
  simp
 ·rw [if_neg e,List.getElem?_map,List.getElem?_map]
  by_cases ht:t<n+1
  ·rw [List.getElem?_range ht]
   simp only [Option.map_some]
   rw [if_neg (fun q=>e q.symm)]
  ·rw [List.getElem?_eq_none (by simp;omega)];rfl
theorem totG_congr {n:Nat} {f f':Nat->Int} (h:∀j,j<=n->f j=f' j):totG n f=totG n f':=List.map_congr_left fun t ht=>h t (by have :=List.mem_range.1 ht;omega)
structure SeaM (c:SeaC) (B:Nat) (w:World) (a P:List (List Int)) (tot:List Int) (tv:List Value) (SA:Option Addr) (sc:Nat) (st:List Nat) (rows:List (List Int)):Prop where
 blk:w.heap[c.sb]? =some (.cells (c.cells SA st.length sc) 167 (0,0))
 heads:VRow w c.cb 116 (c.hs.map (headW c.N))
 rws:∀(j g:Nat) (r:List Int),c.hs[j]? =some g->rows[j]? =some r->Row w g 168 .u64 r
 hl:c.hs.length=c.n+1
 rl:rows.length=c.n+1
 all:∀r∈rows,r.length=c.N
 dist:∀(i j g:Nat),c.hs[i]? =some g->c.hs[j]? =some g->i=j
 tots:Row w c.ob 168 .u64 tot
 tl:tot.length=c.n+1
 obn:c.ob∉c.hs
 trs:Own w B 170 2 c.TA c.n c.tc tv
 pts:Mat64 w c.PA P
 duals:Mat64 w c.DA (P.map (applyW a))
 norms:Ints w c.NA 2 .i64 (P.map (nrm a))
 plen:P.length=c.N
 own:Own w B 3 1 SA st.length sc (st.map fun i=>Value.int .i64 (i:Nat))
 bsb:B<=c.sb
 bcb:B<=c.cb
 bob:B<=c.ob
 bhs:∀g∈c.hs,B<=g
 stl:∀i∈st,i<c.N
def colsL (P:List (List Int)) (st:List Nat):List (List Int):=st.map fun i=>P.getD i []
theorem colsL_take (P:List (List Int)) (st:List Nat) (k:Nat):colsL P (st.take k)=(colsL P st).take k:=by simp [colsL,List.map_take]
theorem colsL_snoc (P:List (List Int)) (st:List Nat) (i:Nat):colsL P (st++[i])=colsL P st++[P.getD i []]:=by simp [colsL]
def RowsOK (cd:Bool) (n:Nat) (a P:List (List Int)) (st:List Nat) (rows:List (List Int)):Prop:=∀j,j<=st.length∨(cd=false/\j<=n)->rows[j]? =some (P.map (colF cd a P (colsL P (st.take j))))
theorem RowsOK.push {cd:Bool} {n i:Nat} {a P:List (List Int)} {st:List Nat} {rows:List (List Int)} {x:List Int} (h:RowsOK cd n a P st rows) (hx:P[i]? =some x) (hk:st.length<n) (hr:rows.length=n+1):
  RowsOK cd n a P (st++[i]) (if cd then rows.set (st.length+1) (P.map (clR a (clK a P (colsL P st)) x)) else rows):=fun j hj=>by
 have hg:P.getD i []=x:=by rw [List.getD_eq_getElem?_getD,hx];rfl
 cases cd with
 |false=>
  have :=h j (.inr ⟨rfl,by simp at hj;omega⟩)
  rw [if_neg (by decide),this];rfl
 |true=>
  rw [if_pos rfl]
  have hj:j<=st.length+1:=by simpa using hj
  by_cases e:j=st.length+1
  ·subst e
   rw [List.getElem?_set_self (by omega),List.take_of_length_le (by simp),colsL_snoc,hg]
   congr 2
   funext y
   unfold colF
   rw [if_pos rfl,clK_snoc]
  ·rw [List.getElem?_set_ne (by omega),List.take_append_of_le_length (by omega)]
   exact h j (.inl (by omega))
theorem RowsOK.keep {cd:Bool} {n:Nat} {a P:List (List Int)} {st:List Nat} {rows:List (List Int)} {r:List Int} (h:RowsOK cd n a P st rows) (hc:cd=true):RowsOK cd n a P st (rows.set (st.length+1) r):=fun j hj=>by
 have hj:j<=st.length:=by
  rcases hj with hj |hj
  ·exact hj
  ·rw [hc] at hj;cases hj.1
 rw [List.getElem?_set_ne (by omega)]
 exact h j (.inl hj)
theorem RowsOK.pop {cd:Bool} {n k:Nat} {a P:List (List Int)} {st:List Nat} {rows:List (List Int)} (h:RowsOK cd n a P st rows) (hk:k<=st.length):RowsOK cd n a P (st.take k) rows:=fun j hj=>by
 rw [List.take_take]
 rcases hj with hj |hj
 ·rw [List.length_take] at hj
  rw [Nat.min_eq_left (by omega)]
  exact h j (.inl (by omega))
 ·have :=h j (.inr hj)
  rw [this,hj.1];rfl
theorem okC_split (cd:Bool) (a b P Q cols:List (List Int)) (x:List Int) {k:Nat} (hk:cols.length=k):okC cd a b P Q cols x=(decide (nrm a x=ent b k k/\colF cd a P cols x=trF cd b Q k)&&((List.range k).all fun j=>decide (wI (ipR a (cols.getD j []) x)=ent b j k))&&(!cd||decide (clT a P (cols++[x])=totF cd b Q (k+1)))):=by
 subst hk
 unfold okC colF trF totF
 cases cd
 ·simp
 ·simp only [Bool.not_true,Bool.false_or,if_true,Bool.decide_and]
theorem all_range {p:Nat->Bool} {k j:Nat} (hj:j<k) (h:p j=false):(List.range k).all p=false:=by
 rw [List.all_eq_false]
 exact ⟨j,by simpa using hj,by rw [h];decide⟩
def SeaS (c:SeaC) (SA:Option Addr) (g:Nat):Prop:=g=c.sb∨g∈c.hs∨∃x,SA=some x/\x.block=g
section
variable {c:SeaC} {B:Nat} {w w' w2:World} {a P:List (List Int)} {tot:List Int} {tv:List Value} {SA:Option Addr} {sc:Nat} {st:List Nat} {rows:List (List Int)}
theorem heap_ne {b1 b2:Nat} {cs1 cs2:Array Value} {e1 e2:TypeId} {f1 f2:Nat×Nat} (h1:w.heap[b1]? =some (.cells cs1 e1 f1)) (h2:w.heap[b2]? =some (.cells cs2 e2 f2)) (hne:e1≠e2):b1≠b2:=fun e=>by
 subst e
 rw [h1] at h2
 injection h2 with h2
 injection h2 with _ he
 exact hne he
theorem SeaM.ext (h:SeaM c B w a P tot tv SA sc st rows) (hx:Ext w w'):SeaM c B w' a P tot tv SA sc st rows:=
 ⟨heap_of_ext hx h.blk,heap_of_ext hx h.heads,fun j g r h1 h2=>(h.rws j g r h1 h2).ext hx,h.hl,h.rl,h.all,h.dist,h.tots.ext hx,h.tl,h.obn,h.trs.ext hx,h.pts.ext hx,h.duals.ext hx,h.norms.ext hx,h.plen,h.own.ext hx,h.bsb,h.bcb,h.bob,h.bhs,h.stl⟩
theorem SeaM.color (h:SeaM c B w a P tot tv SA sc st rows) {j g:Nat} {r:List Int} (hg:c.hs[j]? =some g) (hr:Row w' g 168 .u64 r) (hrl:r.length=c.N) (ho:Only g w w'):SeaM c B w' a P tot tv SA sc st (rows.set j r):=by
 have hj:j<rows.length:=by rw [h.rl,<-h.hl];exact (List.getElem?_eq_some_iff.1 hg).1
 obtain ⟨r0,hr0⟩:∃r0,rows[j]? =some r0:=⟨_,List.getElem?_eq_getElem hj⟩
 have hR:=h.rws j g r0 hg hr0
 have hot:Oth 168 w w':=ho.oth hR
 have hgo:c.ob≠g:=fun e=>h.obn (e▸List.mem_of_getElem? hg)
 refine ⟨hot _ _ _ _ (by decide) h.blk,hot _ _ _ _ (by decide) h.heads,fun i g' r' h1 h2=>?_,h.hl,by rw [List.length_set];exact h.rl,fun x hx=>?_,h.dist,h.tots.only ho hgo,h.tl,h.obn,h.trs.oth hot (by decide),h.pts.oth hot (by decide) (by decide),h.duals.oth hot (by decide) (by decide),h.norms.oth hot (by decide),h.plen,h.own.oth hot (by decide),h.bsb,h.bcb,h.bob,h.bhs,h.stl⟩
 ·by_cases e:i=j
  ·subst e
   rw [hg] at h1
   injection h1 with h1
   subst h1
   rw [List.getElem?_set_self hj] at h2
   injection h2 with h2
   subst h2
   exact hr
  ·rw [List.getElem?_set_ne (fun q=>e q.symm)] at h2
   exact (h.rws i g' r' h1 h2).only ho fun q=>e (h.dist i j g (q▸h1) hg)
 ·rcases List.mem_or_eq_of_mem_set hx with hx |rfl
  ·exact h.all x hx
  ·exact hrl
theorem SeaM.stack (h:SeaM c B w a P tot tv SA sc st rows) {SA':Option Addr} {sc':Nat} {st':List Nat} (hot:Oth 3 w w') (hown:Own w' B 3 1 SA' st'.length sc' (st'.map fun i=>Value.int .i64 (i:Nat))) (hst:∀i∈st',i<c.N):
  SeaM c B (w'.setCell ⟨c.sb,5,none⟩ (.slice SA' st'.length sc')) a P tot tv SA' sc' st' rows:=by
 have hb:=hot _ _ _ _ (by decide) h.blk
 have ho2:Oth 167 w' (w'.setCell ⟨c.sb,5,none⟩ (.slice SA' st'.length sc')):=Oth.set (p:=⟨c.sb,5,none⟩) hb _
 exact ⟨by rw [heap_setCell_self hb];rfl,ho2 _ _ _ _ (by decide) (hot _ _ _ _ (by decide) h.heads),fun j g r h1 h2=>ho2 _ _ _ _ (by decide) (hot _ _ _ _ (by decide) (h.rws j g r h1 h2)),h.hl,h.rl,h.all,h.dist,ho2 _ _ _ _ (by decide) (hot _ _ _ _ (by decide) h.tots),h.tl,h.obn,(h.trs.oth hot (by decide)).oth ho2 (by decide),(h.pts.oth hot (by decide) (by decide)).oth ho2 (by decide) (by decide),(h.duals.oth hot (by decide) (by decide)).oth ho2 (by decide) (by decide),(h.norms.oth hot (by decide)).oth ho2 (by decide),h.plen,hown.oth ho2 (by decide),h.bsb,h.bcb,h.bob,h.bhs,hst⟩
theorem SeaM.cell (h:SeaM c B w a P tot tv SA sc st rows) (i:Nat):w.cell? ⟨c.sb,i,none⟩=(c.cells SA st.length sc)[i]? :=cell_of_row w c.sb i _ _ _ h.blk
theorem SeaM.sys (h:SeaM c B w a P tot tv SA sc st rows):SysM w c.sb 1 c.N c.pc c.dc c.PA c.DA a P:=⟨h.cell 1,h.cell 2,lt_of_heap h.blk,h.pts,h.duals,h.plen⟩
theorem SeaM.row (h:SeaM c B w a P tot tv SA sc st rows) {j:Nat} (hj:j<=c.n):∃g,c.hs[j]? =some g/\w.cell? ⟨c.cb,j,none⟩=some (.slice (some ⟨g,0,none⟩) c.N c.N)/\g<w.heap.size/\c.cb<w.heap.size/\c.sb≠g/\c.ob≠g:=by
 have hj':j<c.hs.length:=by rw [h.hl];omega
 obtain ⟨g,hg⟩:∃g,c.hs[j]? =some g:=⟨_,List.getElem?_eq_getElem hj'⟩
 obtain ⟨r,hr⟩:∃r,rows[j]? =some r:=⟨_,List.getElem?_eq_getElem (by rw [h.rl];omega)⟩
 have hR:=h.rws j g r hg hr
 exact ⟨g,hg,h.heads.cell (by rw [List.getElem?_map,hg];rfl),hR.lt,h.heads.lt,heap_ne h.blk hR (by decide),fun e=>h.obn (e▸List.mem_of_getElem? hg)⟩
end
def RetPush (c:SeaC) (B:Nat) (a b P Q:List (List Int)) (tot:List Int) (tv:List Value) (SA:Option Addr) (st:List Nat) (i:Nat) (x:List Int) (w:World) (e:Ending) (w':World):Prop:=
 e= .returned (.bool (okC c.cd a b P Q (colsL P st) x))/\∃SA' sc' rows',SeaM c B w' a P tot tv SA' sc' (if okC c.cd a b P Q (colsL P st) x then st++[i] else st) rows'/\RowsOK c.cd c.n a P (if okC c.cd a b P Q (colsL P st) x then st++[i] else st) rows'/\OnlyS (SeaS c SA) w w'/\∀y,SA'=some y->(∃x,SA=some x/\x.block=y.block)∨w.heap.size<=y.block
theorem infoIn:(Tryz.prog.info? 3).map (fun i=>(i.zero,i.size,i.bytes))=some (some (.int .i64 0),1,8):=by kernel_rfl
theorem push_end {c:SeaC} {B k d6 i:Nat} {w wz W w6:World} {a P:List (List Int)} {tot:List Int} {tv:List Value} {SA A6:Option Addr} {sc:Nat} {st:List Nat} {rows:List (List Int)} (hM:SeaM c B wz a P tot tv SA sc st rows) (hO:OnlyS (SeaS c SA) w wz) (hW:Ext wz W) (hown:Own w6 B 3 1 A6 (k+1) d6 ((st.map fun i=>Value.int .i64 (i:Nat))++[.int .i64 (i:Nat)])) (hg:Grow B 3 W w6) (hgr:Grew SA A6 W w6) (hst:st.length=k) (hi:i<c.N):
  SeaM c B (w6.setCell ⟨c.sb,5,none⟩ (.slice A6 (k+1) d6)) a P tot tv A6 d6 (st++[i]) rows/\OnlyS (SeaS c SA) w (w6.setCell ⟨c.sb,5,none⟩ (.slice A6 (k+1) d6))/\∀y,A6=some y->(∃x,SA=some x/\x.block=y.block)∨w.heap.size<=y.block:=by
 have hl:(st++[i]).length=k+1:=by rw [List.length_append,hst];rfl
 refine ⟨?_,?_,fun y hy=>?_⟩
 ·have :=(hM.ext hW).stack (w':=w6) (SA':=A6) (sc':=d6) (st':=st++[i]) (Oth.of_grow hg) (by rw [hl,List.map_append];exact hown) (fun t ht=>by
   rcases List.mem_append.1 ht with h |h
   ·exact hM.stl t h
   ·rw [List.mem_singleton.1 h];exact hi)
  rw [hl] at this
  exact this
 ·have h1:OnlyS (SeaS c SA) W w6:=⟨hg.below.mono (Nat.zero_le _),fun b hb hs=>hgr.block b hb fun x hx e=>hs (.inr (.inr ⟨x,hx,e⟩))⟩
  exact ((hO.trans (OnlyS.of_ext hW)).trans h1).trans (OnlyS.set (p:=⟨c.sb,5,none⟩) (.inl rfl) _)
 ·rcases hgr.own y hy with h |h
  ·exact .inl h
  ·have :=hO.size;have :=hW.size;exact .inr (by omega)
theorem idx_succ {j n:Nat} (h:j<n) (hn:n<=1000):(j:Int)+1<(n:Int)+1/\(j:Int)<(n:Int)+1/\IntKind.i64.wrap ((j:Int)+1)=(j:Int)+1/\wrap64 ((j:Int)+1)=(j:Int)+1/\(0:Int)<=(j:Int)+1/\((j:Int)+1).toNat=j+1:=by
 have e:IntKind.i64.wrap ((j:Int)+1)=(j:Int)+1:=IntWalk.i64_in _ (by omega)
 exact ⟨by omega,by omega,e,by rw [w64];exact e,by omega,by omega⟩
set_option maxRecDepth 20000 in
theorem ipush_ok {w0 w:World} {c:SeaC} {B h i:Nat} {a b P Q:List (List Int)} {tot:List Int} {tv:List Value} {SA:Option Addr} {sc:Nat} {st:List Nat} {rows:List (List Int)} {x:List Int} (hM:SeaM c B w a P tot tv SA sc st rows) (htot:tot=(List.range (c.n+1)).map (totF c.cd b Q)) (htv:tv=trV c.cd b Q c.n) (hR:RowsOK c.cd c.n a P st rows) (hb:MatA w0 c.bA b) (hbn:b.length=c.n) (hba:AllLen b c.n) (hB:w0.heap.size<=B)
  (hi:P[i]? =some x) (hk:st.length<c.n) (hn:c.n<=1000) (hN:c.N=2*h) (hN8:c.N<=100000) (hml:a.length=c.n) (hrow:∀y∈P,y.length=c.n) (hsym:P.reverse.map (fun y=>y.map fun c=>-c)=P) (hip:∀x∈P,∀y∈P,ipR a x y=dotL (applyL a x) y) [hx:Ext w0 w]:
  Calls Tryz.prog 109 #[.pointer (some ⟨c.sb,0,none⟩),.int .i64 i] w (RetPush c B a b P Q tot tv SA st i x w):=by
 obtain ⟨sb,n,N,bA,bc,PA,pc,DA,dc,NA,nc,CV,cb,hs,TA,tc,ob,cd⟩:=c
 dsimp only at hb hbn hba hk hn hN hN8 hml hrow hR htot htv
 obtain ⟨k,hkk⟩:∃k,st.length=k:=⟨_,rfl⟩
 have hxm:x∈P:=List.mem_of_getElem? hi
 have hiN:i<N:=by have h1:=(List.getElem?_eq_some_iff.1 hi).1;have h2:P.length=N:=hM.plen;omega
 have hcl:(colsL P st).length=k:=by rw [<-hkk];simp [colsL]
 have hcm:∀j y,(colsL P st)[j]? =some y->y∈P:=fun j y hj=>by
  unfold colsL at hj
  rw [List.getElem?_map] at hj
  obtain ⟨t,ht,rfl⟩:=Option.map_eq_some_iff.1 hj
  have htN:t<P.length:=by have h1:t<N:=hM.stl t (List.mem_of_getElem? ht);have h2:P.length=N:=hM.plen;omega
  rw [List.getD_eq_getElem?_getD,List.getElem?_eq_getElem htN]
  exact List.getElem_mem _
 have s0:w.cell? ⟨sb,0,none⟩=some (.slice bA n bc):=hM.cell 0
 have s1:w.cell? ⟨sb,1,none⟩=some (.slice PA N pc):=hM.cell 1
 have s2:w.cell? ⟨sb,2,none⟩=some (.slice DA N dc):=hM.cell 2
 have s3:w.cell? ⟨sb,3,none⟩=some (.slice NA N nc):=hM.cell 3
 have s5:w.cell? ⟨sb,5,none⟩=some (.slice SA k sc):=by rw [<-hkk];exact hM.cell 5
 have s6:w.cell? ⟨sb,6,none⟩=some (.slice (some ⟨cb,0,none⟩) (n+1) (n+1)):=hM.cell 6
 have s7:w.cell? ⟨sb,7,none⟩=some (.slice TA n tc):=hM.cell 7
 have s8:w.cell? ⟨sb,8,none⟩=some (.slice (some ⟨ob,0,none⟩) (n+1) (n+1)):=hM.cell 8
 have s9:w.cell? ⟨sb,9,none⟩=some (.bool cd):=hM.cell 9
 have hsl:sb<w.heap.size:=lt_of_heap hM.blk
 have oS:Old sb w:=⟨hsl⟩
 have HNO:Ints w NA 2 .i64 (P.map (nrm a)):=hM.norms
 have HTR:Arr w TA 170 (trV cd b Q n):=by rw [<-htv];exact hM.trs.arr
 have HPT:Mat64 w PA P:=hM.pts
 have HDU:Mat64 w DA (P.map (applyW a)):=hM.duals
 have HOW:Own w B 3 1 SA k sc (st.map fun i=>Value.int .i64 (i:Nat)):=by rw [<-hkk];exact hM.own
 -- the norm
 obtain ⟨nb,no,v,rfl,hv,f1,f2⟩:=HNO.at_ (i:=i) (by rw [List.length_map];have h2:P.length=N:=hM.plen;omega)
 rw [List.getElem?_map,hi] at hv
 obtain rfl:nrm a x=v:=by simpa using hv
 have oN:Old nb w:=⟨f2⟩
 -- the color
 obtain ⟨gk,hgk,g1,g2,g3,g4,-⟩:=hM.row (j:=k) (by dsimp only;omega)
 have g1:w.cell? ⟨cb,k,none⟩=some (.slice (some ⟨gk,0,none⟩) N N):=g1
 have hRk:rows[k]? =some (P.map (colF cd a P (colsL P st))):=by
  have :=hR k (.inl (by omega))
  rw [<-hkk,List.take_length] at this
  rw [<-hkk];exact this
 have HCK:Row w gk 168 .u64 (P.map (colF cd a P (colsL P st))):=hM.rws k gk _ hgk hRk
 obtain ⟨cx,hcx,c1⟩:=HCK.cell (i:=i) (by rw [List.length_map];have h2:P.length=N:=hM.plen;omega)
 rw [List.getElem?_map,hi] at hcx
 obtain rfl:colF cd a P (colsL P st) x=cx:=by simpa using hcx
 have oG:Old gk w:=⟨g2⟩
 have oC:Old cb w:=⟨g3⟩
 -- the trait
 obtain ⟨t1,t2⟩:=trG_get b (trF cd b Q) (k:=k) (n:=n) (by omega)
 obtain ⟨tb,tp,rfl,t3,t4⟩:=HTR.at_ t1
 obtain ⟨tb',tp',te,t5,-⟩:=HTR.at_ t2
 obtain ⟨rfl,rfl⟩:tb=tb'/\tp=tp':=by injection te with te;injection te with e1 e2;exact ⟨e1,e2⟩
 rw [<-Nat.add_assoc] at t5
 have oT:Old tb w:=⟨t4⟩
 have HSP:=Lib.hid (okC_split cd a b P Q (colsL P st) x hcl)
 have HM:=Lib.hid hM
 have HRR:=Lib.hid hR
 have HX:=Lib.hid (And.intro hi hxm)
 have HCL:=Lib.hid hcl
 have HCM:=Lib.hid hcm
 have HROW:=Lib.hid hrow
 have HSY:=Lib.hid hsym
 have HIP:=Lib.hid hip
 have HB:=Lib.hid hb
 have HBA:=Lib.hid hba
 have HBN:=Lib.hid hbn
 have HML:=Lib.hid hml
 have HGK:=Lib.hid hgk
 have HCK':=Lib.hid HCK
 have HPT':=Lib.hid HPT
 have HDU':=Lib.hid HDU
 have HOW':=Lib.hid HOW
 have HKK:=Lib.hid hkk
 have HR1:=Lib.hid hRk
 have HN:=Lib.hid hN
 have HTOT:=Lib.hid htot
 have HTV:=Lib.hid htv
 have hiN2:(i:Int)<(N:Int):=by omega
 have hkn2:(k:Int)<(n:Int):=by omega
 have hkn3:(k:Int)<(n:Int)+1:=by omega
 clear hv HNO HTR HPT HDU HOW hM hR hi hxm hcl hcm hrow hsym hip hb hba hbn hml hgk HCK hRk t1 t2 te hcx hN htot htv
 generalize nrm a x=v at*
 generalize colF cd a P (colsL P st) x=cx at*
 generalize ent b k k=tn at*
 generalize trF cd b Q k=tk at*
 by_cases h12:v=tn/\cx=tk
 ·obtain ⟨rfl,rfl⟩:=h12
  rw [decide_eq_true (p:=v=v/\cx=cx) ⟨rfl,rfl⟩,Bool.true_and] at HSP
  go_enter Tryz.func109,Tryz.ntmps109
  go_wp2_with fail
  go_quiet (fail)
  have hxq:Ext w (w.drewN nq):=inferInstance
  generalize w.drewN nq=wq at*
  have s5q:wq.cell? ⟨sb,5,none⟩=some (.slice SA k sc):=(cellE w).trans s5
  have oSq:Old sb wq:=⟨Nat.lt_of_lt_of_le hsl hxq.size⟩
  go_wp2_with fail
  clear s3 s6 s7 c1 f1 f2 g1 t3 t5 oN oG oC oT s5q
  go_loopw [6,7,45] (fun _ _ j wr=>∃j0:Nat,j0<=k/\j= .int .i64 j0/\Hid (∀t,t<j0->wI (ipR a ((colsL P st).getD t []) x)=ent b t k)/\Ext w wr) (fun _ _ j _=>k-(intOf j).toNat)
  case atStart=>exact ⟨0,by omega,rfl,Lib.hid (fun t ht=>absurd ht (by omega)),hxq⟩
  case round=>
   obtain ⟨j0,hj0,rfl,HFT,hxr⟩:=hrel
   have hx0r:Ext w0 wr:=hx.trans hxr
   have oSr:Old sb wr:=⟨Nat.lt_of_lt_of_le hsl hxr.size⟩
   by_cases hlt:j0<k
   ·obtain ⟨tc0,hst0⟩:∃t,st[j0]? =some t:=⟨_,List.getElem?_eq_getElem (by rw [HKK.out];exact hlt)⟩
    have htN:tc0<N:=HM.out.stl tc0 (List.mem_of_getElem? hst0)
    obtain ⟨y,hy⟩:∃y,P[tc0]? =some y:=⟨_,List.getElem?_eq_getElem (by have h2:P.length=N:=HM.out.plen;omega)⟩
    have hyc:(colsL P st).getD j0 []=y:=by
     unfold colsL
     rw [List.getD_eq_getElem?_getD,List.getElem?_map,hst0]
     simp [List.getD_eq_getElem?_getD,hy]
    have hym:=List.mem_of_getElem? hy
    obtain ⟨sA,sO,rfl,u1,u2⟩:=(HOW'.out.arr.ext hxr).at_ (i:=j0) (u:= .int .i64 (tc0:Nat)) (by rw [List.getElem?_map,hst0];rfl)
    obtain ⟨db,dof,D,c2,rfl,q1,hD,-,-,q5⟩:=(HDU'.out.ext hxr).at_ (i:=tc0) (r:=applyW a y) (by rw [List.getElem?_map,hy];rfl)
    obtain ⟨pb,po,X,c3,rfl,p1,hX,-,-,p5⟩:=(HPT'.out.ext hxr).at_ HX.out.1
    obtain ⟨rb,hrb⟩:∃r,b[j0]? =some r:=⟨_,List.getElem?_eq_getElem (by rw [HBN.out];omega)⟩
    have hrl:rb.length=n:=HBA.out rb (List.mem_of_getElem? hrb)
    obtain ⟨bb,bo,R1,c4,rfl,b1,hR1,-,-,b5⟩:=(HB.out.ext hx0r).at_ hrb
    obtain ⟨b2,o2,en,rfl,he,e1,e2⟩:=hR1.at_ (i:=k) (by omega)
    have hen:ent b j0 k=en:=by
     unfold ent
     simp [List.getD_eq_getElem?_getD,hrb,he]
    have hlA:(applyW a y).length=n:=by simp [applyW,HML.out]
    rw [hlA] at q1
    rw [HROW.out x HX.out.2] at p1
    rw [hrl] at b1
    have hdw:dotW (applyW a y) x=wI (ipR a y x):=by rw [dotW_apply];unfold dotW;rw [HIP.out y hym x HX.out.2];rfl
    have HD:=Lib.hid (fun W (e:Ext wr W)=>idot_any (w0:=wr) (w:=W) (c:=c2) (d:=c3) ⟨_,hD⟩ ⟨_,hX⟩ hlA (HROW.out x HX.out.2) (Nat.le_refl _) (by omega))
    rw [hdw] at HD
    have HV:Hid (wI (ipR a ((colsL P st).getD j0 []) x)=wI (ipR a y x)):=Lib.hid (by rw [hyc])
    have HE:=Lib.hid hen
    generalize wI (ipR a y x)=ip at*
    have HDQ:=Lib.hid (fun q=>(HD.out (wr.drewN q) inferInstance).mono (fun e w' h=>(⟨h.1,h.2.symm⟩:e= .returned (.int .i64 ip)/\w'=wr.drewN q)))
    have r0:wr.cell? ⟨sb,0,none⟩=some (.slice (some ⟨bb,bo,none⟩) n bc):=(cellE w).trans s0
    have r1:wr.cell? ⟨sb,1,none⟩=some (.slice (some ⟨pb,po,none⟩) N pc):=(cellE w).trans s1
    have r2:wr.cell? ⟨sb,2,none⟩=some (.slice (some ⟨db,dof,none⟩) N dc):=(cellE w).trans s2
    have oA:Old sA wr:=⟨u2⟩
    have oD:Old db wr:=⟨q5⟩
    have oP:Old pb wr:=⟨p5⟩
    have oB:Old bb wr:=⟨b5⟩
    have oB2:Old b2 wr:=⟨e2⟩
    have htN2:(tc0:Int)<(N:Int):=by omega
    have hjn2:(j0:Int)<(n:Int):=by omega
    have hjk2:(j0:Int)<(k:Int):=by omega
    clear hD hX hR1 hdw hyc hen hst0 hy hym hrb he hlA HD
    by_cases heq:ip=en
    ·subst heq
     go_wp2_with fail
     go_quiet ((go_at_call 110;exact Calls.quiet_of_same (HDQ.out _)))
     go_wp2_with fail
     exact ⟨⟨j0+1,by omega,by go_num,Lib.hid (fun t ht=>by
      by_cases e:t=j0
      ·subst e;rw [HV.out,HE.out]
      ·exact HFT.out t (by omega)),hxr.trans inferInstance⟩,by simp [intOf];omega⟩
    ·have hal:((List.range k).all fun j=>decide (wI (ipR a ((colsL P st).getD j []) x)=ent b j k))=false:=all_range hlt (decide_eq_false (by rw [HV.out,HE.out];exact heq))
     rw [hal,Bool.false_and] at HSP
     go_wp2_with fail
     go_quiet ((go_at_call 110;exact Calls.quiet_of_same (HDQ.out _)))
     go_wp2_with fail
     go_ret
     have e:Ext w (wr.drewN nq):=hxr.trans inferInstance
     unfold RetPush
     dsimp only
     rw [HSP.out]
     exact ⟨rfl,_,sc,rows,by rw [if_neg (by decide)];exact HM.out.ext e,by rw [if_neg (by decide)];exact HRR.out,OnlyS.of_ext e,fun y hy=> .inl ⟨y,hy,rfl⟩⟩
   ·obtain rfl:j0=k:=by omega
    have hal:((List.range j0).all fun j=>decide (wI (ipR a ((colsL P st).getD j []) x)=ent b j j0))=true:=by
     rw [List.all_eq_true]
     intro t ht
     exact decide_eq_true (HFT.out t (by simpa using ht))
    rw [hal,Bool.true_and] at HSP
    have r5:wr.cell? ⟨sb,5,none⟩=some (.slice SA j0 sc):=(cellE w).trans s5
    have r8:wr.cell? ⟨sb,8,none⟩=some (.slice (some ⟨ob,0,none⟩) (n+1) (n+1)):=(cellE w).trans s8
    have r9:wr.cell? ⟨sb,9,none⟩=some (.bool cd):=(cellE w).trans s9
    have r6:wr.cell? ⟨sb,6,none⟩=some (.slice (some ⟨cb,0,none⟩) (n+1) (n+1)):=(HM.out.ext hxr).cell 6
    have hlen:(st++[i]).length=j0+1:=by rw [List.length_append,HKK.out];rfl
    have hcase:cd=false∨(cd=true/\clT a P (colsL P st++[x])=totF cd b Q (j0+1))∨(cd=true/\clT a P (colsL P st++[x])≠totF cd b Q (j0+1)):=by
     by_cases h:clT a P (colsL P st++[x])=totF cd b Q (j0+1)<;>cases cd<;>simp [h]
    have HBn:Hid (B<=sb):=Lib.hid HM.out.bsb
    rcases hcase with rfl |hcase
    ·go_wp2_with fail
     go_quiet (fail)
     have hxz:Ext w (wr.drewN nq):=hxr.trans inferInstance
     have HMz:Hid (SeaM ⟨sb,n,N,bA,bc,PA,pc,DA,dc,some ⟨nb,no,none⟩,nc,CV,cb,hs,some ⟨tb,tp,none⟩,tc,ob,false⟩ B (wr.drewN nq) a P tot tv SA sc st rows):=Lib.hid (HM.out.ext hxz)
     have HRz:Hid (RowsOK false n a P (st++[i]) rows):=Lib.hid (by
      have :=HRR.out.push HX.out.1 (by have :=HKK.out;omega) HM.out.rl
      rwa [if_neg (by decide)] at this)
     have HOz:Hid (OnlyS (SeaS ⟨sb,n,N,bA,bc,PA,pc,DA,dc,some ⟨nb,no,none⟩,nc,CV,cb,hs,some ⟨tb,tp,none⟩,tc,ob,false⟩ SA) w (wr.drewN nq)):=Lib.hid (OnlyS.of_ext hxz)
     have HOK:Hid (okC false a b P Q (colsL P st) x=true):=Lib.hid HSP.out
     have r5':(wr.drewN nq).cell? ⟨sb,5,none⟩=some (.slice SA j0 sc):=r5
     have hsz:w.heap.size<=(wr.drewN nq).heap.size:=hxz.size
     clear hxz r5 r6 r8 r9 hxr hx0r oSr
     generalize wr.drewN nq=wz at*
     have HOWz:Hid (Own wz B 3 1 SA j0 sc (st.map fun i=>Value.int .i64 (i:Nat))):=Lib.hid (by have h:=HMz.out.own;rw [HKK.out] at h;exact h)
     have hbz:=HMz.out.blk
     have oSz:Old sb wz:=⟨lt_of_heap hbz⟩
     have hBz:B<=wz.heap.size:=by have :=HBn.out;have :=oSz.lt;omega
     clear hbz
     go_wp2_with (at_builtin;go_loud (refine wpList_appK rfl (.tmp 118) (.tmp 120) 28 rfl B 3 (.int .i64 0) 1 8 Tryz.underlying28 infoIn rfl (by decide) (by decide) SA j0 sc _ rfl (HOWz.out.ext inferInstance) ⟨wz.heap.size,0,none⟩ 1 1 [.int .i64 (i:Nat)] rfl (Arr.new wz 3 #[.int .i64 (i:Nat)]) rfl (by simp [Value.oneCell']) (by omega) (by simp;omega) ?_);intro A6 d6 w6 hown6 hg6 hgr6;have hb6:=hg6.heap (heap_of_ext (inferInstance:Ext wz (wz.alloc (.cells #[.int .i64 (i:Nat)] 3))) HMz.out.blk) (by decide);have z1:w6.frozen? ⟨sb,5,none⟩=false:=(by simp [World.frozen?,hb6]);have z2:w6.cell? ⟨sb,5,none⟩=some (.slice SA j0 sc):=(by rw [cell_of_row w6 sb 5 _ _ _ hb6,<-HKK.out];rfl);have z3:=lt_of_heap hb6)
     go_ret
     have hend:=push_end HMz.out HOz.out (inferInstance:Ext wz (wz.alloc (.cells #[.int .i64 (i:Nat)] 3))) hown6 hg6 hgr6 HKK.out hiN
     unfold RetPush
     dsimp only
     rw [HOK.out]
     exact ⟨rfl,A6,d6,_,by rw [if_pos rfl];exact hend.1,by rw [if_pos rfl];exact HRz.out,hend.2.1,hend.2.2⟩
    ·have HIX:=Lib.hid (idx_succ (show j0<n by omega) hn)
     obtain ⟨rfl,hcc⟩:cd=true/\(clT a P (colsL P st++[x])=totF cd b Q (j0+1)∨clT a P (colsL P st++[x])≠totF cd b Q (j0+1)):=by
      rcases hcase with ⟨h1,h2⟩ |⟨h1,h2⟩
      ·exact ⟨h1,.inl h2⟩
      ·exact ⟨h1,.inr h2⟩
     have hMr:=HM.out.ext hxr
     obtain ⟨gk',hgk',k1,k2,k3,k4,k5⟩:=hMr.row (j:=j0) (by dsimp only;omega)
     obtain ⟨gn,hg1,l1,l2,-,l4,l5⟩:=hMr.row (j:=j0+1) (by dsimp only;omega)
     have e0:gk'=gk:=by
      have :=HGK.out
      dsimp only at hgk'
      rw [hgk'] at this
      injection this
     subst e0
     have hne:gk'≠gn:=fun e=>by
      have :=hMr.dist j0 (j0+1) gk' hgk' (by rw [e];exact hg1)
      omega
     dsimp only at k1 k3 l1 l4 l5
     obtain ⟨tt,htt,ht1⟩:=hMr.tots.cell (i:=j0+1) (by have :=hMr.tl;dsimp only at this;omega)
     have HTT:Hid (tt=totF true b Q (j0+1)):=Lib.hid (by
      rw [HTOT.out,List.getElem?_map,List.getElem?_range (by omega)] at htt
      simpa using htt.symm)
     obtain ⟨r1',hr1'⟩:∃r,rows[j0+1]? =some r:=⟨_,List.getElem?_eq_getElem (by have :=hMr.rl;dsimp only at this;omega)⟩
     have hcol:colF true a P (colsL P st)=clK a P (colsL P st):=by funext y;unfold colF;rw [if_pos rfl]
     have HSUM:Hid (wU (sumP P (clR a (clK a P (colsL P st)) x))=clT a P (colsL P st++[x])):=Lib.hid (by
      unfold clT
      congr 2
      funext y
      rw [clK_snoc])
     have HREF:=Lib.hid (fun W (e:Ext wr W)=>irefine_ok (cc:=N) (nc:=N) (w:=W) ((hMr.ext e).sys) l4 HN.out hN8 (c:=clK a P (colsL P st)) (by rw [<-hcol];exact HCK'.out.ext (hxr.trans e)) hne ((hMr.rws (j0+1) gn r1' hg1 hr1').ext e) (hMr.all r1' (List.mem_of_getElem? hr1')) (fun y _=>clK_lt _ _ _ _) HX.out.1 HML.out HROW.out hn HSY.out HIP.out)
     have hcbg:cb≠gn:=heap_ne hMr.heads (hMr.rws (j0+1) gn r1' hg1 hr1') (by decide)
     have HS1:Hid (∀W,Ext wr W->W.cell? ⟨sb,6,none⟩=some (.slice (some ⟨cb,0,none⟩) (n+1) (n+1))/\W.cell? ⟨cb,j0,none⟩=some (.slice (some ⟨gk',0,none⟩) N N)/\W.cell? ⟨cb,j0+1,none⟩=some (.slice (some ⟨gn,0,none⟩) N N)/\W.cell? ⟨sb,8,none⟩=some (.slice (some ⟨ob,0,none⟩) (n+1) (n+1))/\W.cell? ⟨ob,j0+1,none⟩=some (.int .u64 tt)/\W.cell? ⟨sb,9,none⟩=some (.bool true)):=Lib.hid (fun W e=>by
      have oCb:Old cb wr:=⟨k3⟩
      have oOb:Old ob wr:=⟨hMr.tots.lt⟩
      exact ⟨(cellE wr).trans r6,(cellE wr).trans k1,(cellE wr).trans l1,(cellE wr).trans r8,(cellE wr).trans ht1,(cellE wr).trans r9⟩)
     have HS2:Hid (∀W W2,Ext wr W->Only gn W W2->W2.cell? ⟨sb,6,none⟩=some (.slice (some ⟨cb,0,none⟩) (n+1) (n+1))/\W2.cell? ⟨cb,j0,none⟩=some (.slice (some ⟨gk',0,none⟩) N N)/\W2.cell? ⟨cb,j0+1,none⟩=some (.slice (some ⟨gn,0,none⟩) N N)/\W2.cell? ⟨sb,8,none⟩=some (.slice (some ⟨ob,0,none⟩) (n+1) (n+1))/\W2.cell? ⟨ob,j0+1,none⟩=some (.int .u64 tt)/\W2.cell? ⟨sb,9,none⟩=some (.bool true)):=Lib.hid (fun W W2 e ho=>by
      obtain ⟨a1,a2,a3,a4,a5,a6⟩:=HS1.out W e
      have z1:=Nat.lt_of_lt_of_le oSr.lt e.size
      have z2:=Nat.lt_of_lt_of_le k3 e.size
      have z3:=Nat.lt_of_lt_of_le hMr.tots.lt e.size
      exact ⟨(ho.cell (p:=⟨sb,6,none⟩) z1 l4).trans a1,(ho.cell (p:=⟨cb,j0,none⟩) z2 hcbg).trans a2,(ho.cell (p:=⟨cb,j0+1,none⟩) z2 hcbg).trans a3,(ho.cell (p:=⟨sb,8,none⟩) z1 l4).trans a4,(ho.cell (p:=⟨ob,j0+1,none⟩) z3 l5).trans a5,(ho.cell (p:=⟨sb,9,none⟩) z1 l4).trans a6⟩)
     have oCb:Old cb wr:=⟨k3⟩
     have oOb:Old ob wr:=⟨hMr.tots.lt⟩
     have oG1:Old gn wr:=⟨l2⟩
     have oGk:Old gk' wr:=⟨k2⟩
     have HG1:=Lib.hid hg1
     have HMr:=Lib.hid hMr
     have HCC:=Lib.hid hcc
     unfold RetRef at HREF
     generalize wU (sumP P (clR a (clK a P (colsL P st)) x))=rv at*
     clear hMr hgk' hg1 htt hr1' hcol hcc
     obtain ⟨hjn1,hjn0,hwr1,hwr2,hj01,hjt⟩:=HIX.out
     go_wp2_with fail
     try simp only [List.append_eq,List.cons_append,List.nil_append]
     go_region_held3 (fun w'=>w'.cell? ⟨sb,6,none⟩=some (.slice (some ⟨cb,0,none⟩) (n+1) (n+1))/\w'.cell? ⟨cb,j0,none⟩=some (.slice (some ⟨gk',0,none⟩) N N)/\w'.cell? ⟨cb,j0+1,none⟩=some (.slice (some ⟨gn,0,none⟩) N N)/\w'.cell? ⟨sb,8,none⟩=some (.slice (some ⟨ob,0,none⟩) (n+1) (n+1))/\w'.cell? ⟨ob,j0+1,none⟩=some (.int .u64 tt)/\w'.cell? ⟨sb,9,none⟩=some (.bool true))
      (first |exact HS1.out _ inferInstance |exact HS2.out _ _ inferInstance hon5)
      ((go_at_call 177;refine (HREF.out _ inferInstance).mono ?_;rintro e w5 ⟨rfl,hrow5,hon5⟩))
     clear hjn1 hjn0 hwr1 hwr2 hj01 hjt
     have hw5:OnlyS (SeaS ⟨sb,n,N,bA,bc,PA,pc,DA,dc,some ⟨nb,no,none⟩,nc,CV,cb,hs,some ⟨tb,tp,none⟩,tc,ob,true⟩ SA) w w5:=(OnlyS.of_ext (hxr.trans (inferInstance:Ext wr wr.drew))).trans (OnlyS.of_only hon5 (.inr (.inl (List.mem_of_getElem? HG1.out))))
     have hM5:=(HMr.out.ext (inferInstance:Ext wr wr.drew)).color HG1.out hrow5 (by rw [List.length_map];exact HMr.out.plen) hon5
     have HMz:=Lib.hid hM5
     have HOz:=Lib.hid hw5
     clear hw5 hM5 hrow5 hon5 r5 r6 r8 r9 k1 l1 ht1
     rcases HCC.out with heq |hne2
     ·obtain rfl:rv=tt:=by rw [HSUM.out,HTT.out];exact heq
      have HOK:Hid (okC true a b P Q (colsL P st) x=true):=Lib.hid (by rw [HSP.out,decide_eq_true heq];rfl)
      have HRz:Hid (RowsOK true n a P (st++[i]) (rows.set (j0+1) (P.map (clR a (clK a P (colsL P st)) x)))):=Lib.hid (by
       have :=HRR.out.push HX.out.1 (by have :=HKK.out;omega) HM.out.rl
       rwa [if_pos rfl,HKK.out] at this)
      have r5':w5.cell? ⟨sb,5,none⟩=some (.slice SA j0 sc):=by rw [<-HKK.out];exact HMz.out.cell 5
      have hsz:w.heap.size<=w5.heap.size:=HOz.out.size
      clear heq hxr hx0r oSr
      generalize w5=wz at*
      have HOWz:Hid (Own wz B 3 1 SA j0 sc (st.map fun i=>Value.int .i64 (i:Nat))):=Lib.hid (by have h:=HMz.out.own;rw [HKK.out] at h;exact h)
      have hbz:=HMz.out.blk
      have oSz:Old sb wz:=⟨lt_of_heap hbz⟩
      have hBz:B<=wz.heap.size:=by have :=HBn.out;have :=oSz.lt;omega
      clear hbz
      go_wp2_with (at_builtin;go_loud (refine wpList_appK rfl (.tmp 118) (.tmp 120) 28 rfl B 3 (.int .i64 0) 1 8 Tryz.underlying28 infoIn rfl (by decide) (by decide) SA j0 sc _ rfl (HOWz.out.ext inferInstance) ⟨wz.heap.size,0,none⟩ 1 1 [.int .i64 (i:Nat)] rfl (Arr.new wz 3 #[.int .i64 (i:Nat)]) rfl (by simp [Value.oneCell']) (by omega) (by simp;omega) ?_);intro A6 d6 w6 hown6 hg6 hgr6;have hb6:=hg6.heap (heap_of_ext (inferInstance:Ext wz (wz.alloc (.cells #[.int .i64 (i:Nat)] 3))) HMz.out.blk) (by decide);have z1:w6.frozen? ⟨sb,5,none⟩=false:=(by simp [World.frozen?,hb6]);have z2:w6.cell? ⟨sb,5,none⟩=some (.slice SA j0 sc):=(by rw [cell_of_row w6 sb 5 _ _ _ hb6,<-HKK.out];rfl);have z3:=lt_of_heap hb6)
      go_ret
      have hend:=push_end HMz.out HOz.out (inferInstance:Ext wz (wz.alloc (.cells #[.int .i64 (i:Nat)] 3))) hown6 hg6 hgr6 HKK.out hiN
      unfold RetPush
      dsimp only
      rw [HOK.out]
      exact ⟨rfl,A6,d6,_,by rw [if_pos rfl];exact hend.1,by rw [if_pos rfl];exact HRz.out,hend.2.1,hend.2.2⟩
     ·have hne3:¬rv=tt:=by rw [HSUM.out,HTT.out];exact hne2
      have HOK:Hid (okC true a b P Q (colsL P st) x=false):=Lib.hid (by rw [HSP.out,decide_eq_false hne2];rfl)
      clear hne2
      go_wp2_with fail
      go_ret
      unfold RetPush
      dsimp only
      rw [HOK.out]
      exact ⟨rfl,SA,sc,_,by rw [if_neg (by decide)];exact HMz.out,by rw [if_neg (by decide),<-HKK.out];exact HRR.out.keep rfl,HOz.out,fun y hy=> .inl ⟨y,hy,rfl⟩⟩
 ·rw [decide_eq_false h12,Bool.false_and,Bool.false_and] at HSP
  have hfin:∀W,Ext w W->RetPush ⟨sb,n,N,bA,bc,PA,pc,DA,dc,some ⟨nb,no,none⟩,nc,CV,cb,hs,some ⟨tb,tp,none⟩,tc,ob,cd⟩ B a b P Q tot tv SA st i x w (.returned (.bool false)) W:=fun W e=>by
   unfold RetPush
   dsimp only
   rw [HSP.out]
   exact ⟨rfl,SA,sc,rows,by rw [if_neg (by decide)];exact HM.out.ext e,by rw [if_neg (by decide)];exact HRR.out,OnlyS.of_ext e,fun y hy=> .inl ⟨y,hy,rfl⟩⟩
  have HF:=Lib.hid hfin
  clear hfin
  have h3:v≠tn∨(v=tn/\cx≠tk):=by
   by_cases h:v=tn
   ·exact .inr ⟨h,fun q=>h12 ⟨h,q⟩⟩
   ·exact .inl h
  clear h12
  rcases h3 with h3 |⟨rfl,h3⟩
  ·go_enter Tryz.func109,Tryz.ntmps109
   go_wp2_with fail
   go_quiet (fail)
   go_wp2_with fail
   go_ret
   exact HF.out _ inferInstance
  ·go_enter Tryz.func109,Tryz.ntmps109
   go_wp2_with fail
   go_quiet (fail)
   go_wp2_with fail
   go_ret
   exact HF.out _ inferInstance
theorem Own.cut {w:World} {base n c k:Nat} {e:TypeId} {A:Option Addr} {xs:List Value} (h:Own w base e 1 A n c xs) (hk:k<=n):Own w base e 1 A k c (xs.take k):=by
 have hl:=h.len
 refine ⟨by rw [List.length_take];omega,?_⟩
 rcases h.2 with ⟨hv,h0⟩ |⟨g,cap,cur,hv,h1,h2,h3,h4,h5,h6⟩
 ·obtain rfl:k=0:=by omega
  injection hv with e1 e2 e3
  subst e1;subst e3
  exact .inl ⟨rfl,rfl⟩
 ·injection hv with e1 e2 e3
  subst e1;subst e3
  exact .inr ⟨g,c,cur,rfl,h1,h2,by omega,h4,h5,by rw [<-h6,List.take_take,Nat.mul_one,Nat.mul_one,Nat.min_eq_left hk]⟩
def RetComp (c:SeaC) (B:Nat) (a b P Q:List (List Int)) (tot:List Int) (tv:List Value) (st:List Nat) (w0:World) (e:Ending) (w':World):Prop:=
 e= .returned (.bool (extG (okC c.cd a b P Q) P (c.n-st.length) (colsL P st)).isSome)/\Ext w0 w'/\∀t,extG (okC c.cd a b P Q) P (c.n-st.length) (colsL P st)=some t->∃SA' sc' st' rows',SeaM c B w' a P tot tv SA' sc' st' rows'/\colsL P st'=t
structure CompI (c:SeaC) (B g first:Nat) (w0 w:World) (a b P Q:List (List Int)) (tot:List Int) (tv:List Value) (st nx:List Nat) (R:Option (List (List Int))):Prop where
 ex:∃SA sc rows,SeaM c B w a P tot tv SA sc st rows/\RowsOK c.cd c.n a P st rows/\∀y,SA=some y->y.block≠g
 fst:first<=st.length
 le:st.length<=c.n
 row:Row w g 3 .i64 (nx.map Int.ofNat)
 len:nx.length=c.n+1
 nle:∀j,nx.getD j 0<=c.N
 ans:ansG (okC c.cd a b P Q) P c.n first (colsL P st) nx=R
 ext:Ext w0 w
theorem colsL_len (P:List (List Int)) (st:List Nat):(colsL P st).length=st.length:=by simp [colsL]
theorem nx_cell {w:World} {g k n:Nat} {nx:List Nat} (h:Row w g 3 .i64 (nx.map Int.ofNat)) (hl:nx.length=n+1) (hk:k<=n):w.cell? ⟨g,k,none⟩=some (.int .i64 (nx.getD k 0:Nat)):=by
 obtain ⟨x,hx,h1⟩:=h.cell (i:=k) (by rw [List.length_map];omega)
 rw [List.getElem?_map,List.getElem?_eq_getElem (by omega)] at hx
 rw [h1,List.getD_eq_getElem?_getD,List.getElem?_eq_getElem (by omega)]
 simp at hx
 simp [hx]
theorem nx_set {w:World} {g k v:Nat} {nx:List Nat} (h:Row w g 3 .i64 (nx.map Int.ofNat)):Row (w.setCell ⟨g,k,none⟩ (.int .i64 (v:Nat))) g 3 .i64 ((nx.set k v).map Int.ofNat):=by
 rw [List.map_set];exact h.set k _
theorem nle_set {N k v:Nat} {nx:List Nat} (h:∀j,nx.getD j 0<=N) (hv:v<=N) (j:Nat):(nx.set k v).getD j 0<=N:=by
 by_cases hk:k<nx.length
 ·rw [getD_set hk];split
  ·exact hv
  ·exact h j
 ·rw [List.set_eq_of_length_le (by omega)];exact h j
theorem set_self {nx:List Nat} {k:Nat} (hk:k<nx.length):nx.set k (nx.getD k 0)=nx:=by
 rw [List.getD_eq_getElem?_getD,List.getElem?_eq_getElem hk];simp
section
variable {c:SeaC} {B g first:Nat} {w0 w w' w2:World} {a b P Q:List (List Int)} {tot:List Int} {tv:List Value} {st nx:List Nat} {R:Option (List (List Int))} {SA:Option Addr} {sc:Nat} {rows:List (List Int)}
theorem SeaM.nxt {k:Nat} {l:List Int} (h:SeaM c B w a P tot tv SA sc st rows) (hr:Row w g 3 .i64 l) (hg:∀y,SA=some y->y.block≠g) (u:Value):SeaM c B (w.setCell ⟨g,k,none⟩ u) a P tot tv SA sc st rows:=by
 have ho:Oth 3 w (w.setCell ⟨g,k,none⟩ u):=Oth.set (p:=⟨g,k,none⟩) hr u
 refine ⟨ho _ _ _ _ (by decide) h.blk,ho _ _ _ _ (by decide) h.heads,fun j g r h1 h2=>ho _ _ _ _ (by decide) (h.rws j g r h1 h2),h.hl,h.rl,h.all,h.dist,ho _ _ _ _ (by decide) h.tots,h.tl,h.obn,h.trs.oth ho (by decide),h.pts.oth ho (by decide) (by decide),h.duals.oth ho (by decide) (by decide),h.norms.oth ho (by decide),h.plen,⟨h.own.1,?_⟩,h.bsb,h.bcb,h.bob,h.bhs,h.stl⟩
 rcases h.own.2 with hv |⟨g',cap,cur,hv,h1,h2,h3⟩
 ·exact .inl hv
 ·refine .inr ⟨g',cap,cur,hv,h1,(Below.heap_setCell w ⟨g,k,none⟩ u g' ?_).trans h2,h3⟩
  injection hv with hA
  exact hg _ hA
theorem CompI.inc {k i:Nat} (h:CompI c B g first w0 w a b P Q tot tv st nx R) (hk:st.length=k) (hx:Ext w w'):∃SA sc rows,SeaM c B (w'.setCell ⟨g,k,none⟩ (.int .i64 ((i:Int)+1))) a P tot tv SA sc st rows/\RowsOK c.cd c.n a P st rows/\(∀y,SA=some y->y.block≠g)/\Row (w'.setCell ⟨g,k,none⟩ (.int .i64 ((i:Int)+1))) g 3 .i64 ((nx.set k (i+1)).map Int.ofNat)/\(w0.heap.size<=g->Ext w0 (w'.setCell ⟨g,k,none⟩ (.int .i64 ((i:Int)+1)))):=by
 obtain ⟨SA,sc,rows,h1,h2,h3⟩:=h.ex
 rw [show ((i:Int)+1)=((i+1:Nat):Int) by omega]
 exact ⟨SA,sc,rows,(h1.ext hx).nxt (h.row.ext hx) h3 _,h2,h3,nx_set (h.row.ext hx),fun hg=>(h.ext.trans hx).setCell (p:=⟨g,k,none⟩) hg _⟩
theorem nx_stay {l:List Int} (hM:SeaM c B w a P tot tv SA sc st rows) (hr:Row w g 3 .i64 l) (hg:∀y,SA=some y->y.block≠g) (ho:OnlyS (SeaS c SA) w w'):Row w' g 3 .i64 l:=by
 refine ho.heap hr fun hs=>?_
 rcases hs with e |e |⟨y,hy,e⟩
 ·exact heap_ne hr hM.blk (by decide) e
 ·obtain ⟨j,hj,e⟩:=List.getElem_of_mem e
  have h1:=hM.rl
  have h2:=hM.hl
  exact heap_ne hr (hM.rws j g _ (by rw [List.getElem?_eq_getElem hj,e]) (List.getElem?_eq_getElem (by omega))) (by decide) rfl
 ·exact hg y hy e
theorem SeaS.le (hM:SeaM c B w a P tot tv SA sc st rows):∀b,SeaS c SA b->B<=b:=fun b hb=>by
 rcases hb with e |e |⟨y,hy,e⟩
 ·rw [e];exact hM.bsb
 ·exact hM.bhs b e
 ·rcases hM.own.2 with ⟨hv,_⟩ |⟨g',cap,cur,hv,h1,_⟩
  ·injection hv with hA;rw [hA] at hy;cases hy
  ·injection hv with hA;rw [hA] at hy;injection hy with hy;rw [<-e,<-hy];exact h1
theorem CompI.step {k i:Nat} {x:List Int} {e:Ending} (h:CompI c B g first w0 w2 a b P Q tot tv st nx R) (hk:st.length=k) (hkn:k<c.n) (hi:nx.getD k 0=i) (hx:P[i]? =some x) (hi2:i<c.N)
  (hM:SeaM c B w a P tot tv SA sc st rows) (hg:∀y,SA=some y->y.block≠g) (hr:Row w g 3 .i64 ((nx.set k (i+1)).map Int.ofNat)) (hx0:Ext w0 w) (hB:w0.heap.size<=B) (hp:RetPush c B a b P Q tot tv SA st i x w e w'):
  e= .returned (.bool (okC c.cd a b P Q (colsL P st) x))/\(okC c.cd a b P Q (colsL P st) x=false->CompI c B g first w0 w' a b P Q tot tv st (nx.set k (i+1)) R)/\
  (okC c.cd a b P Q (colsL P st) x=true->Row w' g 3 .i64 ((nx.set k (i+1)).map Int.ofNat)/\(w0.heap.size<=g->CompI c B g first w0 (w'.setCell ⟨g,k+1,none⟩ (.int .i64 (0:Nat))) a b P Q tot tv (st++[i]) ((nx.set k (i+1)).set (k+1) 0) R)):=by
 obtain ⟨he,SA',sc',rows',h1,h2,h3,h4⟩:=hp
 have hrow:=nx_stay hM hr hg h3
 have hx':Ext w0 w':=h3.ext hx0 fun b hb=>by have :=SeaS.le hM b hb;omega
 have hg':∀y,SA'=some y->y.block≠g:=fun y hy=>by
  rcases h4 y hy with ⟨z,hz,ez⟩ |hz
  ·rw [<-ez];exact hg z hz
  ·have :=hr.lt;omega
 have hcl:(colsL P st).length=k:=by rw [colsL_len];exact hk
 refine ⟨he,fun hf=>?_,fun ht=>⟨hrow,fun hgw=>?_⟩⟩
 ·rw [hf,if_neg (by decide)] at h1 h2
  refine ⟨⟨SA',sc',rows',h1,h2,hg'⟩,h.fst,h.le,hrow,by rw [List.length_set];exact h.len,nle_set h.nle (by omega),?_,hx'⟩
  have :=ans_skip (okC c.cd a b P Q) P (n:=c.n) (first:=first) (st:=colsL P st) (nx:=nx) (i:=i) (x:=x) (by rw [hcl,<-hk];exact h.fst) (by omega) (by rw [h.len];omega) (by rw [hcl];exact hi) hx hf
  rw [hcl] at this
  rw [<-this];exact h.ans
 ·rw [ht,if_pos rfl] at h1 h2
  refine ⟨⟨SA',sc',rows',h1.nxt hrow hg' _,h2,hg'⟩,by rw [List.length_append];have :=h.fst;omega,by rw [List.length_append,List.length_singleton];omega,nx_set hrow,by rw [List.length_set,List.length_set];exact h.len,nle_set (nle_set h.nle (by omega)) (by omega),?_,hx'.setCell (p:=⟨g,k+1,none⟩) hgw _⟩
  have :=ans_push (okC c.cd a b P Q) P (n:=c.n) (first:=first) (st:=colsL P st) (nx:=nx) (i:=i) (x:=x) (by rw [hcl,<-hk];exact h.fst) (by omega) (by rw [h.len];omega) (by rw [hcl];exact hi) hx ht
  rw [hcl] at this
  rw [colsL_snoc,List.getD_eq_getElem?_getD,hx,Option.getD_some,<-this]
  exact h.ans
theorem CompI.pop {k:Nat} (h:CompI c B g first w0 w a b P Q tot tv st nx R) (hk:st.length=k) (hkf:first<k) (hkn:k<c.n) (hN:P.length=c.N) (hi:nx.getD k 0=c.N) (hB:w0.heap.size<=B):∃SA sc,w.cell? ⟨c.sb,5,none⟩=some (.slice SA k sc)/\CompI c B g first w0 (w.setCell ⟨c.sb,5,none⟩ (.slice SA (k-1) sc)) a b P Q tot tv (st.take (k-1)) nx R:=by
 obtain ⟨SA,sc,rows,h1,h2,h3⟩:=h.ex
 have hl:(st.take (k-1)).length=k-1:=by rw [List.length_take];omega
 have hcl:(colsL P st).length=k:=by rw [colsL_len];exact hk
 have hown:Own w B 3 1 SA (k-1) sc ((st.take (k-1)).map fun i=>Value.int .i64 (i:Nat)):=by
  have :=h1.own.cut (k:=k-1) (by omega)
  rwa [<-List.map_take] at this
 have hs:=h1.stack (w':=w) (SA':=SA) (sc':=sc) (st':=st.take (k-1)) (Oth.refl _ _) (by rw [hl];exact hown) (fun i hi=>h1.stl i (List.mem_of_mem_take hi))
 rw [hl] at hs
 refine ⟨SA,sc,by rw [<-hk];exact h1.cell 5,⟨SA,sc,rows,hs,h2.pop (by omega),h3⟩,by omega,by omega,?_,h.len,h.nle,?_,h.ext.setCell (p:=⟨c.sb,5,none⟩) (by have :=h1.bsb;dsimp only;omega) _⟩
 ·exact h.row.far (p:=⟨c.sb,5,none⟩) (heap_ne h.row h1.blk (by decide)) _
 ·have :=ans_pop (okC c.cd a b P Q) P (n:=c.n) (first:=first) (st:=colsL P st) (nx:=nx) (by omega) (by omega) (by rw [hcl];omega)
  rw [hcl] at this
  rw [colsL_take,<-this]
  exact h.ans
end
set_option maxRecDepth 20000 in
theorem icomplete_ok {w0 w:World} {c:SeaC} {B h:Nat} {a b P Q:List (List Int)} {tot:List Int} {tv:List Value} {SA:Option Addr} {sc:Nat} {st:List Nat} {rows:List (List Int)} (hM:SeaM c B w a P tot tv SA sc st rows) (htot:tot=(List.range (c.n+1)).map (totF c.cd b Q)) (htv:tv=trV c.cd b Q c.n) (hR:RowsOK c.cd c.n a P st rows) (hb:MatA w0 c.bA b) (hbn:b.length=c.n) (hba:AllLen b c.n) (hB:w0.heap.size<=B)
  (hk:st.length<=c.n) (hn:c.n<=1000) (hN:c.N=2*h) (hN8:c.N<=100000) (hml:a.length=c.n) (hrow:∀y∈P,y.length=c.n) (hsym:P.reverse.map (fun y=>y.map fun c=>-c)=P) (hip:∀x∈P,∀y∈P,ipR a x y=dotL (applyL a x) y) [hx:Ext w0 w]:
  Calls Tryz.prog 55 #[.pointer (some ⟨c.sb,0,none⟩)] w (RetComp c B a b P Q tot tv st w0):=by
 obtain ⟨sb,n,N,bA,bc,PA,pc,DA,dc,NA,nc,CV,cb,hs,TA,tc,ob,cd⟩:=c
 dsimp only at hb hbn hba hk hn hN hN8 hml hrow hR htot htv
 have HPUSH:Hid (∀(W:World) (SA:Option Addr) (sc:Nat) (st:List Nat) (rows:List (List Int)) (i:Nat) (x:List Int),SeaM ⟨sb,n,N,bA,bc,PA,pc,DA,dc,NA,nc,CV,cb,hs,TA,tc,ob,cd⟩ B W a P tot tv SA sc st rows->RowsOK cd n a P st rows->P[i]? =some x->st.length<n->Ext w0 W->Calls Tryz.prog 109 #[.pointer (some ⟨sb,0,none⟩),.int .i64 i] W (RetPush ⟨sb,n,N,bA,bc,PA,pc,DA,dc,NA,nc,CV,cb,hs,TA,tc,ob,cd⟩ B a b P Q tot tv SA st i x W)):=
  Lib.hid (fun W SA sc st rows i x h1 h2 h3 h4 h5=>ipush_ok h1 htot htv h2 hb hbn hba hB h3 h4 hn hN hN8 hml hrow hsym hip)
 obtain ⟨R,hRR⟩:∃R,extG (okC cd a b P Q) P (n-st.length) (colsL P st)=R:=⟨_,rfl⟩
 unfold RetComp
 dsimp only
 rw [hRR]
 obtain ⟨first,hf⟩:∃first,st.length=first:=⟨_,rfl⟩
 have hpl:P.length=N:=hM.plen
 have hPN:∀i,i<N->∃x,P[i]? =some x:=fun i hi=>⟨_,List.getElem?_eq_getElem (by omega)⟩
 have hmk:=run_make_ints (P:=Tryz.prog) (k:= .i64) Tryz.underlying28 infoIn (by omega) ((n:Int)+1) (by omega) (by omega)
 have hI0:CompI ⟨sb,n,N,bA,bc,PA,pc,DA,dc,NA,nc,CV,cb,hs,TA,tc,ob,cd⟩ B w.heap.size first w0 (w.alloc (.cells (mkRow (n+1) .i64) 3)) a b P Q tot tv st (List.replicate (n+1) 0) R:=
  ⟨⟨SA,sc,rows,hM.ext inferInstance,hR,fun y hy=>by have :=hM.own.blockLt y hy;omega⟩,by omega,hk,by
    have :=Row.made w (n+1) .i64 3
    rw [List.map_replicate];exact this,by simp,fun j=>by simp [List.getD_eq_getElem?_getD,List.getElem?_replicate];split<;>simp,by
    have :=ans_start (okC cd a b P Q) P (n:=n) (st:=colsL P st) (nx:=List.replicate (n+1) 0) (by rw [colsL_len];exact hk) (by simp [List.getD_eq_getElem?_getD,List.getElem?_replicate];split<;>simp)
    rw [colsL_len,hf] at this
    rw [<-hRR,<-hf,<-hf] at*
    exact this,inferInstance⟩
 have s0:w.cell? ⟨sb,0,none⟩=some (.slice bA n bc):=hM.cell 0
 have s5:w.cell? ⟨sb,5,none⟩=some (.slice SA first sc):=by rw [<-hf];exact hM.cell 5
 have oS:Old sb w:=⟨lt_of_heap hM.blk⟩
 have hzz:((n:Int)+1).toNat=n+1:=by omega
 have HPN:=Lib.hid hPN
 have HNN:=Lib.hid hN
 have HTOT:=Lib.hid htot
 have HTV:=Lib.hid htv
 have HPL:=Lib.hid hpl
 have HI0:=Lib.hid hI0
 have hBw:B<=w.heap.size:=by
  have h1:=lt_of_heap hM.blk
  have h2:B<=sb:=hM.bsb
  dsimp only at h1
  omega
 rw [hzz] at hmk
 clear hM hR hRR hI0 hpl hPN hf hN htot htv hb hbn hba hml hrow hsym hip hk
 obtain ⟨g,hg⟩:∃g,w.heap.size=g:=⟨_,rfl⟩
 rw [hg] at HI0 hBw
 go_enter Tryz.func55,Tryz.ntmps55
 go_wp2_with fail
 go_step3
 go_wp2_with fail
 go_step3
 go_wp2_with fail
 obtain ⟨ms0,hms0⟩:∃q,q=msG N n first (List.replicate (n+1) 0) (st.length-first):=⟨_,rfl⟩
 go_loopg [2,5] ms0 (fun gk _ _ wr=>∃(st nx:List Nat),Hid (CompI ⟨sb,n,N,bA,bc,PA,pc,DA,dc,NA,nc,CV,cb,hs,TA,tc,ob,cd⟩ B g first w0 wr a b P Q tot tv st nx R)/\Hid (gk=msG N n first nx (st.length-first)))
 case atStart=>exact ⟨st,_,HI0,Lib.hid hms0⟩
 case round=>
  obtain ⟨st,nx,HI,HG⟩:=hrel
  obtain ⟨SA,sc,rows,hM,hR,hgA⟩:=HI.out.ex
  obtain ⟨k,hkk⟩:∃k,st.length=k:=⟨_,rfl⟩
  have r0:wr.cell? ⟨sb,0,none⟩=some (.slice bA n bc):=hM.cell 0
  have r1:wr.cell? ⟨sb,1,none⟩=some (.slice PA N pc):=hM.cell 1
  have r5:wr.cell? ⟨sb,5,none⟩=some (.slice SA k sc):=by rw [<-hkk];exact hM.cell 5
  have oSr:Old sb wr:=⟨lt_of_heap hM.blk⟩
  have hkn:k<=n:=by have :=HI.out.le;dsimp only at this;omega
  have hfk:first<=k:=by have :=HI.out.fst;omega
  have HM:=Lib.hid hM
  have HKK:=Lib.hid hkk
  clear hM hR hgA s0 s5 oS
  by_cases hke:k=n
  ·subst hke
   have hRR:R=some (colsL P st):=by
    have :=HI.out.ans
    unfold ansG at this
    rw [if_pos (by rw [colsL_len];exact HKK.out)] at this
    exact this.symm
   have HRR:=Lib.hid hRR
   have hkt:((k:Int)==(k:Int))=true:=by simp
   clear hRR
   go_wp2_with fail
   rw [Exit.noGoto_ret]
   go_ret
   rw [HRR.out]
   exact ⟨rfl,HI.out.ext,fun t ht=>⟨SA,sc,st,rows,HM.out,by injection ht⟩⟩
  ·have hlt:k<n:=by omega
   have hkn2:¬(k:Int)=(n:Int):=by omega
   have hkn3:(k:Int)<(n:Int)+1:=by omega
   have hkb:((k:Int)==(n:Int))=false:=by simp;omega
   obtain ⟨q0,hq0⟩:∃q0,q0=N-nx.getD k 0:=⟨_,rfl⟩
   have hnl:nx.length=n+1:=HI.out.len
   have HI1:Hid (CompI ⟨sb,n,N,bA,bc,PA,pc,DA,dc,NA,nc,CV,cb,hs,TA,tc,ob,cd⟩ B g first w0 wr a b P Q tot tv st (nx.set k (nx.getD k 0)) R):=Lib.hid (by rw [set_self (by omega)];exact HI.out)
   have hnk:nx.getD k 0<=N:=HI.out.nle k
   have HNL:=Lib.hid hnl
   have HQ0:=Lib.hid hq0
   have HNK:=Lib.hid hnk
   have HKE:=Lib.hid hke
   clear hnl hnk hke
   clear hq0
   go_wp2_with fail
   clear r0 r1 r5 oSr
   go_loopg [] q0 (fun gk wr=>∃i:Nat,Hid (CompI ⟨sb,n,N,bA,bc,PA,pc,DA,dc,NA,nc,CV,cb,hs,TA,tc,ob,cd⟩ B g first w0 wr a b P Q tot tv st (nx.set k i) R)/\Hid (nx.getD k 0<=i/\i<=N/\gk=N-i))
   case atStart=>exact ⟨nx.getD k 0,HI1,Lib.hid ⟨Nat.le_refl _,HNK.out,HQ0.out⟩⟩
   case round=>
    obtain ⟨i,HJ,HB⟩:=hrel
    obtain ⟨SA2,sc2,rows2,hM2,hR2,hgA2⟩:=HJ.out.ex
    have t1:wr.cell? ⟨sb,1,none⟩=some (.slice PA N pc):=hM2.cell 1
    have t5:wr.cell? ⟨sb,5,none⟩=some (.slice SA2 k sc2):=by rw [<-HKK.out];exact hM2.cell 5
    have hnli:(nx.set k i).length=n+1:=by rw [List.length_set];exact HNL.out
    have hgi:(nx.set k i).getD k 0=i:=by rw [getD_set (by have :=HNL.out;omega),if_pos rfl]
    have t2:wr.cell? ⟨g,k,none⟩=some (.int .i64 (i:Nat)):=by
     have :=nx_cell (k:=k) HJ.out.row hnli (by omega)
     rwa [hgi] at this
    have t3:wr.frozen? ⟨g,k,none⟩=false:=HJ.out.row.frozen k
    have oG:Old g wr:=⟨HJ.out.row.lt⟩
    have oS2:Old sb wr:=⟨lt_of_heap hM2.blk⟩
    have HM2:=Lib.hid hM2
    have HNLI:=Lib.hid hnli
    have HGI:=Lib.hid hgi
    clear hM2 hR2 hgA2 hnli hgi
    by_cases hiN:i<N
    ·obtain ⟨x,hx⟩:=HPN.out i hiN
     have HXX:=Lib.hid hx
     have hiN2:(i:Int)<(N:Int):=by omega
     have hng:w0.heap.size<=g:=by have :=hBw;omega
     clear hx
     go_wp2_with fail
     go_quiet (fail)
     have hxq:Ext wr (wr.drewN nq):=inferInstance
     generalize wr.drewN nq=wq at*
     have u2:wq.cell? ⟨g,k,none⟩=some (.int .i64 (i:Nat)):=(cellE wr).trans t2
     have u3:wq.frozen? ⟨g,k,none⟩=false:=(frozenE wr).trans t3
     have oGq:Old g wq:=⟨Nat.lt_of_lt_of_le oG.lt hxq.size⟩
     obtain ⟨SA3,sc3,rows3,h1,h2,h3,h4,h5⟩:=HJ.out.inc (i:=i) HKK.out hxq
     have hss:(nx.set k i).set k (i+1)=nx.set k (i+1):=List.set_set ..
     have HSS:=Lib.hid hss
     have h5:=h5 hng
     have HPU:=Lib.hid (HPUSH.out _ SA3 sc3 st rows3 i x h1 h2 HXX.out (by rw [HKK.out];exact hlt) h5)
     clear t1 t2 t3 t5 oS2 oG
     have oS3:Old sb wq:=⟨by have :=lt_of_heap h1.blk;rw [size_setCell] at this;exact this⟩
     have hkn4:(k:Int)+1<(n:Int)+1:=by omega
     have hkt4:((k:Int)+1).toNat=k+1:=by omega
     cases hok:okC cd a b P Q (colsL P st) x with
     |false=>
      have HOK:=Lib.hid hok
      clear hok
      go_wp2_with (go_at_call 109;refine (HPU.out).mono ?_;rintro e w8 hp8;obtain ⟨he8,hf8,-⟩:=HJ.out.step HKK.out hlt HGI.out HXX.out hiN h1 h3 h4 h5 hB hp8;rw [HSS.out] at hf8;rw [HOK.out] at he8;have HF8:=Lib.hid (hf8 HOK.out);clear hp8 hf8;subst he8)
      go_roundg (N-(i+1))
      case measure=>have :=HB.out;omega
      case rel=>exact ⟨i+1,HF8,Lib.hid (by have :=HB.out;omega)⟩
     |true=>
      have HOK:=Lib.hid hok
      clear hok
      go_wp2_with (go_at_call 109;refine (HPU.out).mono ?_;rintro e w8 hp8;obtain ⟨he8,-,ht8⟩:=HJ.out.step HKK.out hlt HGI.out HXX.out hiN h1 h3 h4 h5 hB hp8;rw [HSS.out] at ht8;rw [HOK.out] at he8;obtain ⟨hrow8,hc8⟩:=ht8 HOK.out;have HC8:=Lib.hid (hc8 hng);have v1:=nx_cell (k:=k+1) hrow8 (by rw [List.length_set];exact HNL.out) (by omega);have v2:=hrow8.frozen (k+1);have oG8:Old g w8:=⟨hrow8.lt⟩;clear hp8 ht8 hc8 hrow8;subst he8)
      go_roundg (msG N n first ((nx.set k (i+1)).set (k+1) 0) ((st++[i]).length-first))
      case measure=>
       have :=HB.out
       rw [HG.out,List.length_append,List.length_singleton,HKK.out,show k+1-first=(k-first)+1 by omega]
       exact ms_push (by omega) hlt (by have :=HNL.out;omega) (by omega) hiN
      case rel=>exact ⟨st++[i],_,HC8,Lib.hid rfl⟩
    ·obtain rfl:i=N:=by have :=HB.out;omega
     have hiN2:¬(i:Int)<(i:Int):=by omega
     by_cases hkf:k=first
     ·subst hkf
      have hRn:R=none:=by
       have h1:=HJ.out.ans
       have h2:=ans_none (okC cd a b P Q) P (n:=n) (st:=colsL P st) (nx:=nx.set k i) (by rw [colsL_len,HKK.out];exact hlt) (by rw [colsL_len,HKK.out,HGI.out,HPL.out];exact Nat.le_refl _)
       rw [colsL_len,HKK.out] at h2
       rw [<-h1];exact h2
      have HRN:=Lib.hid hRn
      have hkt:((k:Int)==(k:Int))=true:=by simp
      clear hRn
      go_wp2_with fail
      go_quiet (fail)
      go_wp2_with fail
      rw [Exit.noGoto_ret]
      go_ret
      rw [HRN.out]
      exact ⟨rfl,HJ.out.ext.trans inferInstance,fun t ht=>by cases ht⟩
     ·have hkf2:((k:Int)==(first:Int))=false:=by simp;omega
      have hk1:(1:Int)<=(k:Int):=by omega
      go_wp2_with fail
      go_quiet (fail)
      have hxq:Ext wr (wr.drewN nq):=inferInstance
      generalize wr.drewN nq=wq at*
      have hJq:CompI ⟨sb,n,i,bA,bc,PA,pc,DA,dc,NA,nc,CV,cb,hs,TA,tc,ob,cd⟩ B g first w0 wq a b P Q tot tv st (nx.set k i) R:=by
       obtain ⟨SA3,sc3,rows3,e1,e2,e3⟩:=HJ.out.ex
       exact ⟨⟨SA3,sc3,rows3,e1.ext hxq,e2,e3⟩,HJ.out.fst,HJ.out.le,HJ.out.row.ext hxq,HJ.out.len,HJ.out.nle,HJ.out.ans,HJ.out.ext.trans hxq⟩
      obtain ⟨SA4,sc4,f5,hpop⟩:=hJq.pop HKK.out (by omega) hlt HPL.out HGI.out hB
      have HPOP:=Lib.hid hpop
      have hbq:=hJq.ex
      obtain ⟨SA5,sc5,rows5,e1,-,-⟩:=hbq
      have f6:wq.frozen? ⟨sb,5,none⟩=false:=by have :=e1.blk;simp [World.frozen?,this]
      have oSq:Old sb wq:=⟨lt_of_heap e1.blk⟩
      have hkc:k<=sc4:=by
       have h1:=e1.own.cap
       have h2:=e1.cell 5
       dsimp only at f5
       rw [f5] at h2
       injection h2 with h2
       injection h2 with _ _ h3
       rw [h3,<-HKK.out];exact h1.1
      have hk2:((k:Int)-1).toNat=k-1:=by omega
      dsimp only at f5
      clear hpop hJq e1
      go_wp2_with fail
      go_roundg (msG i n first (nx.set k i) ((st.take (k-1)).length-first))
      case measure=>
       rw [HG.out,List.length_take,HKK.out,Nat.min_eq_left (by omega),show k-1-first=k-first-1 by omega]
       have :=ms_pop (N:=i) (n:=n) (first:=first) (k:=k) (d:=k-first-1) (nx:=nx) (i:=i) (by omega) hkn (by have :=HNL.out;omega) (Nat.le_refl _)
       rw [show k-first-1+1=k-first by omega] at this
       have :=HNK.out
       omega
      case rel=>exact ⟨st.take (k-1),_,HPOP,Lib.hid rfl⟩
end Go.Proofs.YtpcgfpmiphiacaaGreat
