/- App Int2 Int3 Mat -/
import Derived.Test.YtpcgfpmiphiacaaGreatQ01
import Derived.Test.YtpcgfpmiphiacaaGreatProg
import Derived.Maps.AppendAt
import Derived.Deep.RegionHeld3
set_option maxHeartbeats 8000000
set_option linter.unusedVariables false
set_option linter.unusedSimpArgs false
set_option linter.constructorNameAsVariable false
namespace Go.Proofs.YtpcgfpmiphiacaaGreat
open Go.RowKit
def Own (w:World) (base:Nat) (e:TypeId) (size:Nat) (A:Option Addr) (n c:Nat) (xs:List Value):Prop:=w.ownsRow base e size (.slice A n c) n xs
structure Grow (base:Nat) (e:TypeId) (w w':World):Prop where
 below:Below base w w'
 typed:∀k:Nat,k<w.heap.size->(∀(cs:Array Value) (fr:Nat×Nat),w.heap[k]?≠some (Obj.cells cs e fr))->w'.heap[k]? =w.heap[k]?
section
variable {w w' w0:World} {base:Nat} {e e':TypeId} {size:Nat} {A:Option Addr} {n c:Nat} {xs vs:List Value}
theorem Own.nil (w:World) (base:Nat) (e:TypeId) (size:Nat):Own w base e size none 0 0 []:=World.ownsRow_nil w base e size
theorem Own.len (h:Own w base e size A n c xs):xs.length=n*size:=h.1
theorem Own.cap (h:Own w base e size A n c xs):n<=c/\c<=9223372036854775807:=by
 rcases h.2 with ⟨hv,hn⟩ |⟨g,cap,cur,hv,_,_,h1,h2,_⟩
 ·injection hv with _ _ hc;subst hc;subst hn;omega
 ·injection hv with _ _ hc;subst hc;simp only [maxLen] at h2;omega
theorem Own.ext (h:Own w base e size A n c xs) (hx:Ext w w'):Own w' base e size A n c xs:=by
 refine ⟨h.1,?_⟩
 rcases h.2 with hv |⟨g,cap,cur,hv,h1,h2,h3⟩
 ·exact .inl hv
 ·exact .inr ⟨g,cap,cur,hv,h1,heap_of_ext hx h2,h3⟩
theorem Own.arr (h:Own w base e size A n c xs):Arr w A e xs:=fun h0=>by
 rcases h.2 with ⟨hv,hn⟩ |⟨g,cap,cur,hv,h1,h2,_,_,_,h4⟩
 ·have :=h.1;rw [hn] at this;omega
 ·injection hv with hA
  refine ⟨g,0,cur,(0,0),hA,h2,fun j u hu=>?_⟩
  rw [Nat.zero_add,<-Array.getElem?_toList]
  rw [<-h4,List.getElem?_take] at hu
  split at hu
  ·exact hu
  ·simp at hu
theorem Grow.refl (base:Nat) (e:TypeId) (w:World):Grow base e w w:=⟨Below.refl _ _,fun _ _ _=>rfl⟩
theorem Grow.ext (h:Grow base e w w') (hx:Ext w0 w) (hb:w0.heap.size<=base):Ext w0 w':=⟨hx.below.trans (h.below.mono hb)⟩
theorem Arr.grow (h:Arr w A e' vs) (hg:Grow base e w w') (hne:e'≠e):Arr w' A e' vs:=
 h.keep fun b cs fr hb=>hg.typed b (lt_of_heap hb) fun cs' fr' hh=>by rw [hb] at hh;injection hh with hh;injection hh with _ he;exact hne he
theorem Ints.grow {k:IntKind} {l:List Int} (h:Ints w A e' k l) (hg:Grow base e w w') (hne:e'≠e):Ints w' A e' k l:=Arr.grow h hg hne
theorem IntV.grow {neg:Bool} {z:Int} (h:IntV w neg A n c z) (hg:Grow base e w w') (hne:271≠e):IntV w' neg A n c z:=by
 obtain ⟨l,h1,h2,h3,h4,h5,h6,h7⟩:=h
 exact ⟨l,h1,h2,h3,h4,h5,h6.grow hg hne,h7⟩
end
section
variable {P:Program} (w:World)
theorem run_app_nil (base:Nat) (t ty e:TypeId) (i:TypeInfo) (size:Nat) (ht:P.underlying t=some (.slice e)) (hi:P.info? e=some i)
  (v:Value) (n:Nat) (xs:List Value) (hown:w.ownsRow base e size v n xs) (c:Nat):(Builtin.append_ #[t,t] ty #[v,.slice none 0 c]).run P w= .ok v w:=by
 rcases hown.2 with ⟨rfl,rfl⟩ |⟨g,cap,cur,rfl,_,_,hnc,_⟩
 ·simp [Builtin.append_,run_underlying ht,sizeOf,typeInfo,hi,Builtin.lenOf,Builtin.firstCells]
 ·simp [Builtin.append_,run_underlying ht,sizeOf,typeInfo,hi,Builtin.lenOf,Builtin.firstCells,hnc,storeCells]
theorem grow_of_grownBy {w w':World} {base:Nat} {e:TypeId} {size:Nat} {v:Value} {n:Nat} {xs:List Value} (hown:w.ownsRow base e size v n xs) (hg:w.grownBy w' v.ownBlock) (hbase:base<=w.heap.size):Grow base e w w':=by
 have hrow:∀k,v.ownBlock=some k->base<=k:=fun k hk=>(hown.lt k hk).1
 refine ⟨(Below.refl base w).grown hg hbase hrow,fun k hk hne=>hg.block k hk fun hh=>?_⟩
 rcases hown.2 with ⟨rfl,_⟩ |⟨g,cap,cur,rfl,_,h2,_⟩
 ·simp [Value.ownBlock] at hh
 ·have :k=g:=by simpa [Value.ownBlock] using hh
  subst this
  exact hne _ _ h2
theorem run_app (base:Nat) (t ty e:TypeId) (z:Value) (size bytes:Nat) (ht:P.underlying t=some (.slice e)) (hi:(P.info? e).map (fun i=>(i.zero,i.size,i.bytes))=some (some z,size,bytes))
  (hzs:z.cells.size=size) (hsz:0<size) (hb:bytes<=128)
  (A:Option Addr) (n c:Nat) (xs:List Value) (hown:Own w base e size A n c xs)
  {te:TypeId} (A':Option Addr) (m c':Nat) (news:List Value) (hsrc:Arr w A' te news) (hl:news.length=m*size) (h1:∀u∈news,u.oneCell'=true)
  (h63:n+m<=1099511627776) (hbase:base<=w.heap.size):
  ∃A1 c1 w',(Builtin.append_ #[t,t] ty #[.slice A n c,.slice A' m c']).run P w= .ok (.slice A1 (n+m) c1) w'/\Own w' base e size A1 (n+m) c1 (xs++news)/\Grow base e w w':=by
 obtain ⟨i,hi1,hz,hs,hby⟩:=info_parts hi
 have hbytes:(n+m)*bytes<=140737488355328:=by
  have :(n+m)*bytes<=(n+m)*128:=Nat.mul_le_mul_left _ hb
  omega
 have key:∀(v':Value) (w':World),w'.ownsRow base e size v' (n+m) (xs++news)->∃A1 c1,v'= .slice A1 (n+m) c1:=by
  intro v' w' h
  rcases h.2 with ⟨rfl,hn⟩ |⟨g,cap,cur,rfl,_⟩
  ·exact ⟨none,0,by rw [hn]⟩
  ·exact ⟨_,cap,rfl⟩
 rcases A' with _ |ad
 ·have hm:m=0:=by
   rcases Nat.eq_zero_or_pos m with h0 |h0
   ·exact h0
   ·have :0<news.length:=by rw [hl];exact Nat.mul_pos h0 hsz
    obtain ⟨b,o,_,_,h,_⟩:=hsrc this
    cases h
  subst hm
  have hn:news=[]:=List.eq_nil_of_length_eq_zero (by simpa using hl)
  subst hn
  exact ⟨A,c,w,run_app_nil w base t ty e i size ht hi1 _ n xs hown c',by simpa [Own] using hown,Grow.refl _ _ _⟩
 ·have hcells:∀j u,news[j]? =some u->w.cell? (ad.add j)=some u:=by
   intro j u hu
   obtain ⟨b,o,h,hc,_⟩:=hsrc.at_ hu
   injection h with h
   subst h
   have :(⟨b,o,none⟩:Addr).add j=⟨b,o+j,none⟩:=by
    unfold Addr.add
    split
    ·simp_all
    ·rfl
   rw [this];exact hc
  obtain ⟨v',w',hrun,h2,h3,_,_⟩:=run_append_own_at (P:=P) w base t ty e i z size bytes ht hi1 hz hs hby hzs hsz _ n xs hown ad m c' news hl hcells h1 (by simp only [maxLen];omega) hbytes hbase
  obtain ⟨A1,c1,rfl⟩:=key _ _ h2
  exact ⟨A1,c1,w',hrun,h2,grow_of_grownBy hown h3 hbase⟩
theorem wp_app {o:Oper} {a:Act} {K:Act->World->Prop} {Q:Exit->Act->World->Prop} (s x:Operand) (t:TypeId)
  (ho:o.op= .call {callee:= .builtin .append,args:=#[s,x],argTypes:=#[t,t]})
  (base:Nat) (e:TypeId) (z:Value) (size bytes:Nat) (ht:P.underlying t=some (.slice e)) (hi:(P.info? e).map (fun i=>(i.zero,i.size,i.bytes))=some (some z,size,bytes))
  (hzs:z.cells.size=size) (hsz:0<size) (hb:bytes<=128)
  (A:Option Addr) (n c:Nat) (xs:List Value) (hs:a.eval s= .slice A n c) (hown:Own w base e size A n c xs)
  {te:TypeId} (A':Option Addr) (m c':Nat) (news:List Value) (hx:a.eval x= .slice A' m c') (hsrc:Arr w A' te news) (hl:news.length=m*size) (h1:∀u∈news,u.oneCell'=true)
  (h63:n+m<=1099511627776) (hbase:base<=w.heap.size)
  (h:∀A1 c1 w',Own w' base e size A1 (n+m) c1 (xs++news)->Grow base e w w'->K (a.put o.dst (.slice A1 (n+m) c1)) w'):o.wp P a w K Q:=by
 obtain ⟨A1,c1,w',hrun,h2,h3⟩:=run_app (P:=P) w base t o.type e z size bytes ht hi hzs hsz hb A n c xs hown A' m c' news hsrc hl h1 h63 hbase
 unfold Oper.wp execOp
 simp only [ho,resolve,invoke,builtin,Sem.run_bind,Sem.run_pure,Result.andThen_ok,List.map_toArray,List.map_cons,List.map_nil,hs,hx,hrun]
 exact h A1 c1 w' h2 h3
theorem wpList_app {ops:Array Oper} {rest:List Oper} {o:Oper} {a:Act} {Q:Exit->Act->World->Prop} (hgd:o.guard=none) (s x:Operand) (t:TypeId)
  (ho:o.op= .call {callee:= .builtin .append,args:=#[s,x],argTypes:=#[t,t]})
  (base:Nat) (e:TypeId) (z:Value) (size bytes:Nat) (ht:P.underlying t=some (.slice e)) (hi:(P.info? e).map (fun i=>(i.zero,i.size,i.bytes))=some (some z,size,bytes))
  (hzs:z.cells.size=size) (hsz:0<size) (hb:bytes<=128)
  (A:Option Addr) (n c:Nat) (xs:List Value) (hs:a.eval s= .slice A n c) (hown:Own w base e size A n c xs)
  {te:TypeId} (A':Option Addr) (m c':Nat) (news:List Value) (hx:a.eval x= .slice A' m c') (hsrc:Arr w A' te news) (hl:news.length=m*size) (h1:∀u∈news,u.oneCell'=true)
  (h63:n+m<=1099511627776) (hbase:base<=w.heap.size)
  (h:∀A1 c1 w',Own w' base e size A1 (n+m) c1 (xs++news)->Grow base e w w'->wpList P ops Q rest (a.put o.dst (.slice A1 (n+m) c1)) w'):wpList P ops Q (o::rest) a w:=
 wpList_plain hgd fun _ hK=>wp_app w s x t ho base e z size bytes ht hi hzs hsz hb A n c xs hs hown A' m c' news hx hsrc hl h1 h63 hbase fun A1 c1 w' h2 h3=>hK _ _ (h A1 c1 w' h2 h3)
theorem step_app {ops:Array Oper} {o:Oper} {a:Act} {K:Act->World->Prop} {Q:Exit->Act->World->Prop} {E:Prop} (hgd:o.guard=none) (s x:Operand) (t:TypeId)
  (ho:o.op= .call {callee:= .builtin .append,args:=#[s,x],argTypes:=#[t,t]})
  (base:Nat) (e:TypeId) (z:Value) (size bytes:Nat) (ht:P.underlying t=some (.slice e)) (hi:(P.info? e).map (fun i=>(i.zero,i.size,i.bytes))=some (some z,size,bytes))
  (hzs:z.cells.size=size) (hsz:0<size) (hb:bytes<=128)
  (A:Option Addr) (n c:Nat) (xs:List Value) (hs:a.eval s= .slice A n c) (hown:Own w base e size A n c xs)
  {te:TypeId} (A':Option Addr) (m c':Nat) (news:List Value) (hx:a.eval x= .slice A' m c') (hsrc:Arr w A' te news) (hl:news.length=m*size) (h1:∀u∈news,u.oneCell'=true)
  (h63:n+m<=1099511627776) (hbase:base<=w.heap.size)
  (h:∀A1 c1 w',Own w' base e size A1 (n+m) c1 (xs++news)->Grow base e w w'->K (a.put o.dst (.slice A1 (n+m) c1)) w'):
  if Region.wanted o (yielded ops a.tmps)=true then Oper.wp P o a w K Q else E:=by
 have hw:Region.wanted o (yielded ops a.tmps)=true:=by simp [Region.wanted,hgd]
 rw [if_pos hw]
 exact wp_app w s x t ho base e z size bytes ht hi hzs hsz hb A n c xs hs hown A' m c' news hx hsrc hl h1 h63 hbase h
end
theorem take_len {l:List Int} {j:Nat} (h:j<=l.length):(l.take j).length=j:=by rw [List.length_take,Nat.min_eq_left h]
theorem carry_step (P t:Int):P*(t%4294967296)+P*4294967296*(t / 4294967296)=P*t:=by
 rw [Int.mul_assoc,<-Int.mul_add]
 congr 1
 omega
theorem val_carry {s:List Int} {k:Nat} (hk:s.length=k) (cy t V W:Int) (h:val s+(4294967296:Int)^k*cy=V) (ht:(4294967296:Int)^k*(t-cy)=W):
  val (s++[t%4294967296])+(4294967296:Int)^(k+1)*(t / 4294967296)=V+W:=by
 rw [val_snoc,hk,Int.pow_succ,Int.add_assoc,carry_step,<-h,<-ht,Int.mul_sub]
 omega
theorem val_take_all {l:List Int} {k:Nat} (h:l.length<=k):val (l.take k)=val l:=by rw [List.take_of_length_le h]
theorem snoc_len {s:List Int} {k:Nat} (h:s.length=k) (x:Int):(s++[x]).length=k+1:=by simp [h]
theorem Limbs.snoc {s:List Int} (h:Limbs s) {t:Int} (h0:0<=t) (h1:t<4294967296):Limbs (s++[t]):=h.append (Limbs.cons ⟨h0,h1⟩ Limbs.nil)
theorem Row.drewN {w:World} {g:Nat} {e:TypeId} {k:IntKind} {l:List Int} (h:Row w g e k l) (n:Nat):Row (w.drewN n) g e k l:=h
theorem Row.fill {w:World} {g:Nat} {e:TypeId} {k:IntKind} {s:List Int} {n:Nat} (h:Row w g e k (s++List.replicate n 0)) (hn:0<n) {i:Nat} (hi:s.length=i) (x:Int):
  Row (w.setCell ⟨g,i,none⟩ (.int k x)) g e k ((s++[x])++List.replicate (n-1) 0):=by
 have :=h.set i x
 rw [<-hi] at this |-
 rwa [set_fill s n x hn] at this
theorem addNat_ge {w:World} {A B:Option Addr} {c d:Nat} {l m:List Int} (ha:Ints w A 271 .u32 l) (hb:Ints w B 271 .u32 m) (hl:Limbs l) (hm:Limbs m)
  (h1:l.length<=1099511627776) (hn:m.length<=l.length):
  Calls Tryz.prog 280 #[.slice A l.length c,.slice B m.length d] w (RetNat w (val l+val m)):=by
 have hmk:=run_make_ints (P:=Tryz.prog) Tryz.underlying147 Tryz.infoU32 (by omega) ((l.length:Int)+1) (by omega) (by omega)
 go_enter Tryz.func280,Tryz.ntmps280
 go_wp2
 go_loopw [6,7,22] (fun c _ i wr=>∃(k:Nat) (s:List Int) (cy:Int),k<=m.length/\i= .int .i64 k/\c= .int .u64 cy/\0<=cy/\cy<=1/\Hid (s.length=k)/\Limbs s/\Hid (val s+(4294967296:Int)^k*cy=val (l.take k)+val (m.take k))/\Row wr w.heap.size 271 .u32 (s++List.replicate (l.length+1-k) 0)/\Ext w wr) (fun _ _ i _=>m.length-(intOf i).toNat)
 case atStart=>exact ⟨0,[],0,by omega,rfl,rfl,by omega,by omega,Lib.hid rfl,Limbs.nil,by simp [Hid,val],by simpa using Row.made w _ _ _,inferInstance⟩
 case round=>
  obtain ⟨k,s,cy,hk,rfl,rfl,hc0,hc1,HS,hs,hv,hrow,hxr⟩:=hrel
  by_cases hlt:k<m.length
  ·obtain ⟨b,o,x,rfl,hx',hcx,hbx⟩:=(ha.ext hxr).at_ (i:=k) (by omega)
   obtain ⟨b',o',y,rfl,hy',hcy,hby⟩:=(hb.ext hxr).at_ (i:=k) (by omega)
   obtain ⟨hx0,hx1⟩:=hl.get hx'
   obtain ⟨hy0,hy1⟩:=hm.get hy'
   have HX:=Lib.hid (val_take_succ hx')
   have HY:=Lib.hid (val_take_succ hy')
   clear hx' hy'
   obtain ⟨q,hq,hcq⟩:=hrow.cell (i:=k) (by simp [HS.out];omega)
   have hfq:=hrow.frozen k
   clear hq
   go_wp2
   go_quiet (fail)
   go_wp2
   refine ⟨⟨k+1,s++[(cy+(x+y))%4294967296],_,by omega,by go_num,rfl,by omega,by omega,Lib.hid (snoc_len HS.out _),hs.snoc (by omega) (by omega),?_,?_,inferInstance⟩,by simp [intOf]<;>omega⟩
   ·refine Lib.hid ?_
    rw [val_carry HS.out cy (cy+(x+y)) _ ((4294967296:Int)^k*x+(4294967296:Int)^k*y) hv.out (by rw [<-Int.mul_add];congr 1;omega),HX.out,HY.out]
    omega
   ·rw [show l.length+1-(k+1)=l.length+1-k-1 by omega]
    exact (hrow.drewN nq).fill (by omega) HS.out _
  ·obtain rfl:k=m.length:=by omega
   have hv':=hv.out
   rw [val_take_all (Nat.le_refl _)] at hv'
   have HV:=Lib.hid hv'
   clear hv hv' hlt
   go_wp2
   go_loopw [6,8,51] (fun c _ i wr=>∃(k:Nat) (s:List Int) (cy:Int),m.length+k<=l.length/\i= .int .i64 k/\c= .int .u64 cy/\0<=cy/\cy<=1/\Hid (s.length=m.length+k)/\Limbs s/\Hid (val s+(4294967296:Int)^(m.length+k)*cy=val (l.take (m.length+k))+val m)/\Row wr w.heap.size 271 .u32 (s++List.replicate (l.length+1-(m.length+k)) 0)/\Ext w wr) (fun _ _ i _=>l.length-m.length-(intOf i).toNat)
   case atStart=>exact ⟨0,s,cy,by omega,rfl,rfl,hc0,hc1,HS,hs,HV,hrow,hxr⟩
   case round=>
    clear HV HS hrow hs hxr hc0 hc1
    obtain ⟨k,s,cy,hk,rfl,rfl,hc0,hc1,HS,hs,hv,hrow,hxr⟩:=hrel
    by_cases hlt:m.length+k<l.length
    ·obtain ⟨b,o,x,rfl,hx',hcx,hbx⟩:=(ha.ext hxr).at_ (i:=m.length+k) (by omega)
     obtain ⟨hx0,hx1⟩:=hl.get hx'
     have HX:=Lib.hid (val_take_succ hx')
     clear hx'
     obtain ⟨q,hq,hcq⟩:=hrow.cell (i:=m.length+k) (by simp [HS.out];omega)
     have hfq:=hrow.frozen (m.length+k)
     clear hq
     go_wp2
     refine ⟨⟨k+1,s++[(cy+x)%4294967296],_,by omega,by go_num,rfl,by omega,by omega,Lib.hid (snoc_len HS.out _),hs.snoc (by omega) (by omega),?_,?_,inferInstance⟩,by simp [intOf]<;>omega⟩
     ·refine Lib.hid ?_
      rw [show m.length+(k+1)=m.length+k+1 by omega,val_carry HS.out cy (cy+x) _ ((4294967296:Int)^(m.length+k)*x) hv.out (by congr 1;omega),HX.out]
      omega
     ·rw [show l.length+1-(m.length+(k+1))=l.length+1-(m.length+k)-1 by omega]
      exact hrow.fill (by omega) HS.out _
    ·have hk':m.length+k=l.length:=by omega
     rw [hk'] at hv hrow HS
     rw [show l.length+1-l.length=1 by omega] at hrow
     have hfin:=hv.out
     rw [val_take_all (Nat.le_refl _)] at hfin
     have HF:=Lib.hid hfin
     clear hfin hv hk'
     obtain ⟨q,hq,hcq⟩:=hrow.cell (i:=l.length) (by simp [HS.out])
     have hfq:=hrow.frozen l.length
     clear hq
     have hrow':=hrow.fill (by omega) HS.out cy
     simp only [Nat.sub_self,List.replicate_zero,List.append_nil] at hrow'
     have hlen:(s++[cy]).length=l.length+1:=snoc_len HS.out _
     have hT:=trim_any (c:=l.length+1) hrow'.ints (by omega) (by omega)
     rw [hlen] at hT
     have HT:=Lib.hid hT
     have HL:=Lib.hid hlen
     clear hT hlen
     go_wp2_with (go_at_call 223;refine (HT.out).mono ?_;rintro e w' ⟨j,hj,ht,htv,rfl,rfl⟩)
     go_ret
     have hLs:Limbs (s++[cy]):=hs.snoc hc0 (by omega)
     refine ⟨_,l.length+1,(s++[cy]).take j,?_,hrow'.ints.take j,hLs.take j,ht,?_,?_,?_,Step.of _ _⟩
     ·rw [take_len hj];rfl
     ·rw [htv,val_snoc,HS.out,HF.out]
     ·simp;have :=HL.out;simp at this;omega
     ·omega
theorem addNat_lt {w:World} {A B:Option Addr} {c d:Nat} {l m:List Int} (ha:Ints w A 271 .u32 l) (hb:Ints w B 271 .u32 m) (hl:Limbs l) (hm:Limbs m)
  (h1:l.length<=1099511627776) (hn:m.length<l.length):
  Calls Tryz.prog 280 #[.slice B m.length d,.slice A l.length c] w (RetNat w (val l+val m)):=by
 have hmk:=run_make_ints (P:=Tryz.prog) Tryz.underlying147 Tryz.infoU32 (by omega) ((l.length:Int)+1) (by omega) (by omega)
 go_enter Tryz.func280,Tryz.ntmps280
 go_wp2
 go_loopw [6,7,22] (fun c _ i wr=>∃(k:Nat) (s:List Int) (cy:Int),k<=m.length/\i= .int .i64 k/\c= .int .u64 cy/\0<=cy/\cy<=1/\Hid (s.length=k)/\Limbs s/\Hid (val s+(4294967296:Int)^k*cy=val (l.take k)+val (m.take k))/\Row wr w.heap.size 271 .u32 (s++List.replicate (l.length+1-k) 0)/\Ext w wr) (fun _ _ i _=>m.length-(intOf i).toNat)
 case atStart=>exact ⟨0,[],0,by omega,rfl,rfl,by omega,by omega,Lib.hid rfl,Limbs.nil,by simp [Hid,val],by simpa using Row.made w _ _ _,inferInstance⟩
 case round=>
  obtain ⟨k,s,cy,hk,rfl,rfl,hc0,hc1,HS,hs,hv,hrow,hxr⟩:=hrel
  by_cases hlt:k<m.length
  ·obtain ⟨b,o,x,rfl,hx',hcx,hbx⟩:=(ha.ext hxr).at_ (i:=k) (by omega)
   obtain ⟨b',o',y,rfl,hy',hcy,hby⟩:=(hb.ext hxr).at_ (i:=k) (by omega)
   obtain ⟨hx0,hx1⟩:=hl.get hx'
   obtain ⟨hy0,hy1⟩:=hm.get hy'
   have HX:=Lib.hid (val_take_succ hx')
   have HY:=Lib.hid (val_take_succ hy')
   clear hx' hy'
   obtain ⟨q,hq,hcq⟩:=hrow.cell (i:=k) (by simp [HS.out];omega)
   have hfq:=hrow.frozen k
   clear hq
   go_wp2
   go_quiet (fail)
   go_wp2
   refine ⟨⟨k+1,s++[(cy+(x+y))%4294967296],_,by omega,by go_num,rfl,by omega,by omega,Lib.hid (snoc_len HS.out _),hs.snoc (by omega) (by omega),?_,?_,inferInstance⟩,by simp [intOf]<;>omega⟩
   ·refine Lib.hid ?_
    rw [val_carry HS.out cy (cy+(x+y)) _ ((4294967296:Int)^k*x+(4294967296:Int)^k*y) hv.out (by rw [<-Int.mul_add];congr 1;omega),HX.out,HY.out]
    omega
   ·rw [show l.length+1-(k+1)=l.length+1-k-1 by omega]
    exact (hrow.drewN nq).fill (by omega) HS.out _
  ·obtain rfl:k=m.length:=by omega
   have hv':=hv.out
   rw [val_take_all (Nat.le_refl _)] at hv'
   have HV:=Lib.hid hv'
   clear hv hv' hlt
   go_wp2
   go_loopw [6,8,51] (fun c _ i wr=>∃(k:Nat) (s:List Int) (cy:Int),m.length+k<=l.length/\i= .int .i64 k/\c= .int .u64 cy/\0<=cy/\cy<=1/\Hid (s.length=m.length+k)/\Limbs s/\Hid (val s+(4294967296:Int)^(m.length+k)*cy=val (l.take (m.length+k))+val m)/\Row wr w.heap.size 271 .u32 (s++List.replicate (l.length+1-(m.length+k)) 0)/\Ext w wr) (fun _ _ i _=>l.length-m.length-(intOf i).toNat)
   case atStart=>exact ⟨0,s,cy,by omega,rfl,rfl,hc0,hc1,HS,hs,HV,hrow,hxr⟩
   case round=>
    clear HV HS hrow hs hxr hc0 hc1
    obtain ⟨k,s,cy,hk,rfl,rfl,hc0,hc1,HS,hs,hv,hrow,hxr⟩:=hrel
    by_cases hlt:m.length+k<l.length
    ·obtain ⟨b,o,x,rfl,hx',hcx,hbx⟩:=(ha.ext hxr).at_ (i:=m.length+k) (by omega)
     obtain ⟨hx0,hx1⟩:=hl.get hx'
     have HX:=Lib.hid (val_take_succ hx')
     clear hx'
     obtain ⟨q,hq,hcq⟩:=hrow.cell (i:=m.length+k) (by simp [HS.out];omega)
     have hfq:=hrow.frozen (m.length+k)
     clear hq
     go_wp2
     refine ⟨⟨k+1,s++[(cy+x)%4294967296],_,by omega,by go_num,rfl,by omega,by omega,Lib.hid (snoc_len HS.out _),hs.snoc (by omega) (by omega),?_,?_,inferInstance⟩,by simp [intOf]<;>omega⟩
     ·refine Lib.hid ?_
      rw [show m.length+(k+1)=m.length+k+1 by omega,val_carry HS.out cy (cy+x) _ ((4294967296:Int)^(m.length+k)*x) hv.out (by congr 1;omega),HX.out]
      omega
     ·rw [show l.length+1-(m.length+(k+1))=l.length+1-(m.length+k)-1 by omega]
      exact hrow.fill (by omega) HS.out _
    ·have hk':m.length+k=l.length:=by omega
     rw [hk'] at hv hrow HS
     rw [show l.length+1-l.length=1 by omega] at hrow
     have hfin:=hv.out
     rw [val_take_all (Nat.le_refl _)] at hfin
     have HF:=Lib.hid hfin
     clear hfin hv hk'
     obtain ⟨q,hq,hcq⟩:=hrow.cell (i:=l.length) (by simp [HS.out])
     have hfq:=hrow.frozen l.length
     clear hq
     have hrow':=hrow.fill (by omega) HS.out cy
     simp only [Nat.sub_self,List.replicate_zero,List.append_nil] at hrow'
     have hlen:(s++[cy]).length=l.length+1:=snoc_len HS.out _
     have hT:=trim_any (c:=l.length+1) hrow'.ints (by omega) (by omega)
     rw [hlen] at hT
     have HT:=Lib.hid hT
     have HL:=Lib.hid hlen
     clear hT hlen
     go_wp2_with (go_at_call 223;refine (HT.out).mono ?_;rintro e w' ⟨j,hj,ht,htv,rfl,rfl⟩)
     go_ret
     have hLs:Limbs (s++[cy]):=hs.snoc hc0 (by omega)
     refine ⟨_,l.length+1,(s++[cy]).take j,?_,hrow'.ints.take j,hLs.take j,ht,?_,?_,?_,Step.of _ _⟩
     ·rw [take_len hj];rfl
     ·rw [htv,val_snoc,HS.out,HF.out]
     ·simp;have :=HL.out;simp at this;omega
     ·omega
theorem addNat_any {w0 w1 w:World} {A B:Option Addr} {c d:Nat} {l m:List Int} (ha:Ints w0 A 271 .u32 l) (hb:Ints w1 B 271 .u32 m) (hl:Limbs l) (hm:Limbs m)
  (h1:l.length<=1099511627776) (h2:m.length<=1099511627776) [hx:Ext w0 w] [hy:Ext w1 w]:
  Calls Tryz.prog 280 #[.slice A l.length c,.slice B m.length d] w (RetNat w (val l+val m)):=by
 by_cases hn:m.length<=l.length
 ·exact addNat_ge (ha.ext hx) (hb.ext hy) hl hm h1 hn
 ·rw [Int.add_comm]
  exact addNat_lt (hb.ext hy) (ha.ext hx) hm hl h2 (by omega)
theorem borrow_lim (x cy y:Int) (hx0:0<=x) (hx1:x<4294967296) (hc0:0<=cy) (hc1:cy<=1) (hy0:0<=y) (hy1:y<4294967296):
  IntKind.u64.wrap (IntKind.u64.wrap (x-cy)-y)%4294967296=(x-cy-y)%4294967296/\IntKind.u64.wrap (IntKind.u64.wrap (x-cy)-y) / 9223372036854775808=-((x-cy-y) / 4294967296):=by
 simp only [IntKind.wrap_u64]
 omega
theorem borrow_lim0 (x cy:Int) (hx0:0<=x) (hx1:x<4294967296) (hc0:0<=cy) (hc1:cy<=1):
  IntKind.u64.wrap (x-cy)%4294967296=(x-cy)%4294967296/\IntKind.u64.wrap (x-cy) / 9223372036854775808=-((x-cy) / 4294967296):=by
 simp only [IntKind.wrap_u64]
 omega
theorem retNat_of_trim {w W:World} {g:Nat} {l:List Int} {j c:Nat} {z:Int} (hrow:Row W g 271 .u32 l) (hl:Limbs l) (hj:j<=l.length) (ht:Tight (l.take j)) (hv:val (l.take j)=val l) (hz:val l=z) (hc:l.length<=c) (hc2:c<=9223372036854775807) [hx:Ext w W]:
  RetNat w z (.returned (.slice (some ⟨g,0,none⟩) j c)) W:=
 ⟨_,c,l.take j,by rw [take_len hj],hrow.ints.take j,hl.take j,ht,hv.trans hz,by rw [take_len hj];omega,hc2,Step.of _ _⟩
theorem subNat_any {w0 w1 w:World} {A B:Option Addr} {c d:Nat} {l m:List Int} (ha':Ints w0 A 271 .u32 l) (hb':Ints w1 B 271 .u32 m) (hl:Limbs l) (hm:Limbs m)
  (h1:l.length<=1099511627776) (hn:m.length<=l.length) (hle:val m<=val l) [hx:Ext w0 w] [hy:Ext w1 w]:
  Calls Tryz.prog 281 #[.slice A l.length c,.slice B m.length d] w (RetNat w (val l-val m)):=by
 have ha:=ha'.ext hx
 have hb:=hb'.ext hy
 have hmk:=run_make_ints (P:=Tryz.prog) Tryz.underlying147 Tryz.infoU32 (by omega) (l.length:Int) (by omega) (by omega)
 go_enter Tryz.func281,Tryz.ntmps281
 go_wp2
 go_loopw [6,7,8,14] (fun c _ _ i wr=>∃(k:Nat) (s:List Int) (cy:Int),k<=l.length/\i= .int .i64 k/\c= .int .u64 cy/\0<=cy/\cy<=1/\Hid (s.length=k)/\Limbs s/\Hid (val s+(4294967296:Int)^k*(-cy)=val (l.take k)-val (m.take k))/\Row wr w.heap.size 271 .u32 (s++List.replicate (l.length-k) 0)/\Ext w wr) (fun _ _ _ i _=>l.length-(intOf i).toNat)
 case atStart=>exact ⟨0,[],0,by omega,rfl,rfl,by omega,by omega,Lib.hid rfl,Limbs.nil,by simp [Hid,val],by simpa using Row.made w _ _ _,inferInstance⟩
 case round=>
  obtain ⟨k,s,cy,hk,rfl,rfl,hc0,hc1,HS,hs,hv,hrow,hxr⟩:=hrel
  by_cases hlt:k<l.length
  ·obtain ⟨b,o,x,rfl,hx',hcx,hbx⟩:=(ha.ext hxr).at_ (i:=k) (by omega)
   obtain ⟨hx0,hx1⟩:=hl.get hx'
   have HX:=Lib.hid (val_take_succ hx')
   clear hx'
   obtain ⟨q,hq,hcq⟩:=hrow.cell (i:=k) (by simp [HS.out];omega)
   have hfq:=hrow.frozen k
   clear hq
   by_cases hkm:k<m.length
   ·obtain ⟨b',o',y,rfl,hy',hcy,hby⟩:=(hb.ext hxr).at_ (i:=k) (by omega)
    obtain ⟨hy0,hy1⟩:=hm.get hy'
    have HY:=Lib.hid (val_take_succ hy')
    clear hy'
    go_wp2
    obtain ⟨e1,e2⟩:=borrow_lim x cy y hx0 hx1 hc0 hc1 hy0 hy1
    rw [e1,e2]
    refine ⟨⟨k+1,s++[(x-cy-y)%4294967296],_,by omega,by go_num,rfl,by omega,by omega,Lib.hid (snoc_len HS.out _),hs.snoc (by omega) (by omega),?_,?_,inferInstance⟩,by simp [intOf]<;>omega⟩
    ·refine Lib.hid ?_
     rw [Int.neg_neg,val_carry HS.out (-cy) (x-cy-y) _ ((4294967296:Int)^k*x-(4294967296:Int)^k*y) hv.out (by rw [<-Int.mul_sub];congr 1;omega),HX.out,HY.out]
     omega
    ·rw [show l.length-(k+1)=l.length-k-1 by omega]
     exact hrow.fill (by omega) HS.out _
   ·have HY:=Lib.hid (show val (m.take (k+1))=val (m.take k) by rw [val_take_all (by omega),val_take_all (by omega)])
    go_wp2
    obtain ⟨e1,e2⟩:=borrow_lim0 x cy hx0 hx1 hc0 hc1
    rw [e1,e2]
    refine ⟨⟨k+1,s++[(x-cy)%4294967296],_,by omega,by go_num,rfl,by omega,by omega,Lib.hid (snoc_len HS.out _),hs.snoc (by omega) (by omega),?_,?_,inferInstance⟩,by simp [intOf]<;>omega⟩
    ·refine Lib.hid ?_
     rw [Int.neg_neg,val_carry HS.out (-cy) (x-cy) _ ((4294967296:Int)^k*x) hv.out (by congr 1;omega),HX.out,HY.out]
     omega
    ·rw [show l.length-(k+1)=l.length-k-1 by omega]
     exact hrow.fill (by omega) HS.out _
  ·obtain rfl:k=l.length:=by omega
   simp only [Nat.sub_self,List.replicate_zero,List.append_nil] at hrow
   have hfin:=hv.out
   rw [val_take_all (Nat.le_refl _),val_take_all hn] at hfin
   have hs1:=val_lt hs
   rw [HS.out] at hs1
   have hp:=pow_pos_B l.length
   have hcy:cy=0:=by
    rcases (by omega:cy=0∨cy=1) with h |h
    ·exact h
    ·subst h;omega
   subst hcy
   have HF:=Lib.hid (show val s=val l-val m by simpa using hfin)
   clear hfin hv hs1 hp hc0 hc1
   have hT:=trim_any (c:=l.length) hrow.ints (by rw [HS.out];omega) (by omega)
   rw [HS.out] at hT
   have HT:=Lib.hid hT
   clear hT
   go_wp2_with (go_at_call 223;refine (HT.out).mono ?_;rintro e w' ⟨j,hj,ht,htv,rfl,rfl⟩)
   go_ret
   exact retNat_of_trim hrow hs hj ht htv HF.out (by rw [HS.out];omega) (by omega)
theorem val_set {l:List Int} {i:Nat} {q:Int} (h:l[i]? =some q) (t:Int):val (l.set i t)=val l+(4294967296:Int)^i*(t-q):=by
 induction l generalizing i with
 |nil=>simp at h
 |cons a l ih=>
  cases i with
  |zero=>simp at h;subst h;simp [val];omega
  |succ i=>
   simp only [List.getElem?_cons_succ] at h
   simp only [List.set_cons_succ,val,ih h,Int.pow_succ]
   rw [Int.mul_add,Int.mul_comm ((4294967296:Int)^i) 4294967296,Int.mul_assoc,Int.add_assoc]
theorem Limbs.set {l:List Int} (h:Limbs l) (i:Nat) {t:Int} (h0:0<=t) (h1:t<4294967296):Limbs (l.set i t):=fun x hx=>by
 rcases List.mem_or_eq_of_mem_set hx with hx |rfl
 ·exact h x hx
 ·exact ⟨h0,h1⟩
theorem val_replicate (n:Nat):val (List.replicate n 0)=0:=by
 induction n with
 |zero=>rfl
 |succ n ih=>simp [List.replicate_succ,val,ih]
def ZeroFrom (p:List Int) (k:Nat):Prop:=∀j x,k<=j->p[j]? =some x->x=0
theorem ZeroFrom.set {p:List Int} {k:Nat} (h:ZeroFrom p k) {i:Nat} (hi:i<k) (t:Int):ZeroFrom (p.set i t) k:=fun j x hj hx=>by
 rw [List.getElem?_set] at hx
 rw [if_neg (by omega)] at hx
 exact h j x hj hx
theorem ZeroFrom.mono {p:List Int} {k k':Nat} (h:ZeroFrom p k) (hk:k<=k'):ZeroFrom p k':=fun j x hj hx=>h j x (by omega) hx
theorem limb_prod (x y:Int) (hx0:0<=x) (hx1:x<4294967296) (hy0:0<=y) (hy1:y<4294967296):0<=x*y/\x*y<=18446744065119617025:=by
 constructor
 ·exact Int.mul_nonneg hx0 hy0
 ·have h1:x*y<=4294967295*y:=Int.mul_le_mul_of_nonneg_right (by omega) hy0
  omega
theorem mulNat_big {w:World} {A B:Option Addr} {c d:Nat} {l m:List Int} (ha:Ints w A 271 .u32 l) (hb:Ints w B 271 .u32 m) (hl:Limbs l) (hm:Limbs m)
  (h1:l.length<=1099511627776) (h2:m.length<=1099511627776) (hbig:1<l.length∨1<m.length):
  Calls Tryz.prog 278 #[.slice A l.length c,.slice B m.length d] w (RetNat w (val l*val m)):=by
 have hmk:=run_make_ints (P:=Tryz.prog) Tryz.underlying147 Tryz.infoU32 (by omega) ((l.length:Int)+m.length) (by omega) (by omega)
 go_enter Tryz.func278,Tryz.ntmps278
 by_cases hl1:l.length<=1
 all_goals
  first
   |(have hmb:decide ((m.length:Int)<=1)=false:=by simp;omega)
   |skip
  go_wp2
  go_loopw [6,7,8,9,10,11,34] (fun _ _ _ _ _ _ i wr=>∃(k:Nat) (p:List Int),k<=l.length/\i= .int .i64 k/\Hid (p.length=l.length+m.length)/\Limbs p/\ZeroFrom p (k+m.length)/\Hid (val p=val (l.take k)*val m)/\Row wr w.heap.size 271 .u32 p/\Ext w wr) (fun _ _ _ _ _ _ i _=>l.length-(intOf i).toNat)
  case atStart=>
   refine ⟨0,List.replicate (l.length+m.length) 0,by omega,rfl,Lib.hid (by simp),?_,?_,?_,Row.made w _ _ _,inferInstance⟩
   ·intro x hx;rw [List.eq_of_mem_replicate hx];omega
   ·intro j x _ hx;exact List.eq_of_mem_replicate (List.mem_of_getElem? hx)
   ·refine Lib.hid ?_
    rw [val_replicate];simp [val]
  case round=>
   obtain ⟨k,p,hk,rfl,HP,hp,hz,hv,hrow,hxr⟩:=hrel
   by_cases hlt:k<l.length
   ·obtain ⟨b,o,x,rfl,hx',hcx,hbx⟩:=(ha.ext hxr).at_ (i:=k) (by omega)
    obtain ⟨hx0,hx1⟩:=hl.get hx'
    have HX:=Lib.hid (val_take_succ hx')
    clear hx'
    by_cases hxz:x=0
    ·subst hxz
     go_wp2
     refine ⟨⟨k+1,p,by omega,by go_num,HP,hp,hz.mono (by omega),?_,hrow,hxr⟩,by simp [intOf]<;>omega⟩
     refine Lib.hid ?_
     rw [HX.out,hv.out];simp
    ·have hxb:(x==0)=false:=by simp [hxz]
     clear hxz
     go_wp2
     go_loopw [9,10,11,51] (fun cy _ _ j wr'=>∃(q:Nat) (p':List Int) (cv:Int),q<=m.length/\j= .int .i64 q/\cy= .int .u64 cv/\0<=cv/\cv<4294967296/\Hid (p'.length=l.length+m.length)/\Limbs p'/\ZeroFrom p' (k+m.length)/\Hid (val p'+(4294967296:Int)^(k+q)*cv=val p+(4294967296:Int)^k*(x*val (m.take q)))/\Row wr' w.heap.size 271 .u32 p'/\Ext w wr') (fun _ _ _ j _=>m.length-(intOf j).toNat)
     case atStart=>exact ⟨0,p,0,by omega,rfl,rfl,by omega,by omega,HP,hp,hz,Lib.hid (by simp [val]),hrow,hxr⟩
     case round=>
      obtain ⟨q,p',cv,hq,rfl,rfl,hc0,hc1,HP',hp',hz',hv',hrow',hxr'⟩:=hrel
      by_cases hlt':q<m.length
      ·obtain ⟨b',o',y,rfl,hy',hcy,hby⟩:=(hb.ext hxr').at_ (i:=q) (by omega)
       obtain ⟨hy0,hy1⟩:=hm.get hy'
       have HY:=Lib.hid (val_take_succ hy')
       clear hy'
       obtain ⟨hxy0,hxy1⟩:=limb_prod x y hx0 hx1 hy0 hy1
       obtain ⟨r,hr,hcr⟩:=hrow'.cell (i:=k+q) (by rw [HP'.out];omega)
       have hfr:=hrow'.frozen (k+q)
       obtain ⟨hr0,hr1⟩:=hp'.get hr
       have HR:=Lib.hid hr
       clear hr
       go_wp2
       refine ⟨⟨q+1,p'.set (k+q) ((cv+(x*y+r))%4294967296),_,by omega,by go_num,rfl,by omega,by omega,Lib.hid (by rw [List.length_set];exact HP'.out),hp'.set _ (by omega) (by omega),hz'.set (by omega) _,?_,hrow'.set _ _,inferInstance⟩,by simp [intOf]<;>omega⟩
       refine Lib.hid ?_
       rw [val_set HR.out,HY.out]
       have e1:=carry_step ((4294967296:Int)^(k+q)) (cv+(x*y+r))
       have e2:=hv'.out
       rw [show k+(q+1)=k+q+1 by omega,Int.pow_succ]
       have e3:(4294967296:Int)^k*(x*(val (m.take q)+(4294967296:Int)^q*y))=(4294967296:Int)^k*(x*val (m.take q))+(4294967296:Int)^(k+q)*(x*y):=by
        rw [Int.pow_add,Int.mul_add,Int.mul_add,Int.mul_assoc,Int.mul_left_comm x]
       rw [e3]
       simp only [Int.mul_sub,Int.mul_add] at e1 |-
       omega
      ·obtain rfl:q=m.length:=by omega
       obtain ⟨r,hr,hcr⟩:=hrow'.cell (i:=k+m.length) (by rw [HP'.out];omega)
       have hfr:=hrow'.frozen (k+m.length)
       obtain rfl:r=0:=hz' _ _ (Nat.le_refl _) hr
       have HR:=Lib.hid hr
       clear hr
       go_wp2
       refine ⟨⟨k+1,p'.set (k+m.length) cv,by omega,by go_num,Lib.hid (by rw [List.length_set];exact HP'.out),hp'.set _ hc0 hc1,(hz'.mono (by omega)).set (by omega) _,?_,hrow'.set _ _,inferInstance⟩,by simp [intOf]<;>omega⟩
       refine Lib.hid ?_
       have e2:=hv'.out
       rw [val_take_all (Nat.le_refl _)] at e2
       rw [val_set HR.out,HX.out,Int.sub_zero,e2,hv.out,Int.add_mul,Int.mul_assoc]
   ·obtain rfl:k=l.length:=by omega
    have hfin:=hv.out
    rw [val_take_all (Nat.le_refl _)] at hfin
    have HF:=Lib.hid hfin
    clear hfin hv
    have hT:=trim_any (c:=l.length+m.length) hrow.ints (by rw [HP.out];omega) (by omega)
    rw [HP.out] at hT
    have HT:=Lib.hid hT
    clear hT
    go_wp2_with (go_at_call 223;refine (HT.out).mono ?_;rintro e w' ⟨j,hj,ht,htv,rfl,rfl⟩)
    go_ret
    exact retNat_of_trim hrow hp hj ht htv HF.out (by rw [HP.out];omega) (by omega)
theorem word_prod {l m:List Int} (hl:Limbs l) (hm:Limbs m) (h1:l.length<=1) (h2:m.length<=1):0<=val l/\val l<4294967296/\0<=val m/\val m<4294967296/\0<=val l*val m/\val l*val m<=18446744065119617025:=by
 have a1:=val_nonneg hl
 have a2:=val_lt hl
 have a3:=val_nonneg hm
 have a4:=val_lt hm
 have a5:=pow_mono_B h1
 have a6:=pow_mono_B h2
 simp only [Int.pow_one] at a5 a6
 have :=limb_prod (val l) (val m) a1 (by omega) a3 (by omega)
 omega
theorem mulNat_any {w0 w1 w:World} {A B:Option Addr} {c d:Nat} {l m:List Int} (ha':Ints w0 A 271 .u32 l) (hb':Ints w1 B 271 .u32 m) (hl:Limbs l) (hm:Limbs m)
  (h1:l.length<=1099511627776) (h2:m.length<=1099511627776) [hx:Ext w0 w] [hy:Ext w1 w]:
  Calls Tryz.prog 278 #[.slice A l.length c,.slice B m.length d] w (RetNat w (val l*val m)):=by
 have ha:=ha'.ext hx
 have hb:=hb'.ext hy
 by_cases hl1:l.length<=1
 ·by_cases hm1:m.length<=1
  ·obtain ⟨a1,a2,a3,a4,a5,a6⟩:=word_prod hl hm hl1 hm1
   have hw1:=Lib.hid (word_any (c:=c) ha hl (by omega))
   have hw2:=Lib.hid (word_any (c:=d) hb hm (by omega))
   have hmb:decide ((m.length:Int)<=1)=true:=by simp;omega
   go_enter Tryz.func278,Tryz.ntmps278
   go_wp2_with fail
   refine hw1.out.mono ?_
   rintro e w' ⟨rfl,rfl⟩
   go_wp2_with fail
   refine hw2.out.mono ?_
   rintro e w' ⟨rfl,rfl⟩
   go_wp2_with fail
   refine (fromWord_any _ a5 (by omega) _).mono ?_
   rintro e w' ⟨B1,d1,l1,rfl,h⟩
   go_wp2
   go_ret
   exact ⟨B1,d1,l1,rfl,h⟩
  ·exact mulNat_big ha hb hl hm h1 h2 (by omega)
 ·exact mulNat_big ha hb hl hm h1 h2 (by omega)
theorem addSigned_any {w0 w1 w:World} {A B:Option Addr} {c d:Nat} {l m:List Int} (na nb:Bool) (ha:Ints w0 A 271 .u32 l) (hb:Ints w1 B 271 .u32 m) (hl:Limbs l) (hm:Limbs m) (tl:Tight l) (tm:Tight m)
  (h1:l.length<=1099511627776) (h2:m.length<=1099511627776) [hx:Ext w0 w] [hy:Ext w1 w]:
  Calls Tryz.prog 277 #[.bool na,.slice A l.length c,.bool nb,.slice B m.length d] w (RetInt w (sgn na (val l)+sgn nb (val m))):=by
 by_cases hn:na=nb
 ·subst hn
  go_enter Tryz.func277,Tryz.ntmps277
  go_wp2_with fail
  refine (addNat_any ha hb hl hm h1 h2).mono ?_
  rintro e w1 ⟨B1,d1,l1,rfl,hi1,hl1,ht1,hv1,hd1,hd2,hs1⟩
  have HV:=Lib.hid hv1
  clear hv1
  go_wp2_with fail
  refine (build_any na hi1 hl1 ht1 hd1 hd2).mono ?_
  rintro e w2 ⟨g,B,k,d,rfl,hz,hs2⟩
  obtain ⟨q0,q1,q2,q3,q4,q5⟩:=box2 w w2 (.bool false) (.slice none 0 0) 149
  have Q0:=Lib.hid q0
  clear q0
  go_wp2
  refine bodyPost_ret (v:= .agg #[.bool g,.slice B k d]) (by simp [results,Tryz.results277,go_sem,q1,q2]) rfl ⟨_,_,_,_,rfl,?_,Step.of _ _⟩
  have e1:sgn na (val l1)=sgn na (val l)+sgn na (val m):=by rw [HV.out];cases na<;>simp [sgn];omega
  rw [e1] at hz
  exact hz.boxed (by decide) Q0.out _ _
 ·have hnb:(na==nb)=false:=by simp [hn]
  by_cases hle:val m<=val l
  ·have hlen:m.length<=l.length:=by
    rcases Nat.lt_or_ge l.length m.length with h |h
    ·have :=tight_len_lt hl hm tm h;omega
    ·exact h
   have hc:cmpI (val l) (val m)=0∨cmpI (val l) (val m)=1:=by unfold cmpI;split;omega;split<;>simp
   have hge:0<=cmpI (val l) (val m):=by omega
   have HE:=Lib.hid (show sgn na (val l-val m)=sgn na (val l)+sgn nb (val m) by cases na<;>cases nb<;>simp_all [sgn]<;>omega)
   clear hn hc
   go_enter Tryz.func277,Tryz.ntmps277
   go_wp2_with fail
   refine (compareNat_any ha hb hl hm tl tm (by omega) (by omega)).mono ?_
   rintro e w3 ⟨rfl,hs3⟩
   go_wp2_with fail
   refine (subNat_any ha hb hl hm h1 hlen hle).mono ?_
   rintro e w1 ⟨B1,d1,l1,rfl,hi1,hl1,ht1,hv1,hd1,hd2,hs1⟩
   have HV:=Lib.hid hv1
   clear hv1
   go_wp2_with fail
   refine (build_any na hi1 hl1 ht1 hd1 hd2).mono ?_
   rintro e w2 ⟨g,B,k,d,rfl,hz,hs2⟩
   obtain ⟨q0,q1,q2,q3,q4,q5⟩:=box2 w w2 (.bool false) (.slice none 0 0) 149
   have Q0:=Lib.hid q0
   clear q0
   go_wp2
   refine bodyPost_ret (v:= .agg #[.bool g,.slice B k d]) (by simp [results,Tryz.results277,go_sem,q1,q2]) rfl ⟨_,_,_,_,rfl,?_,Step.of _ _⟩
   rw [HV.out,HE.out] at hz
   exact hz.boxed (by decide) Q0.out _ _
  ·have hlen:l.length<=m.length:=by
    rcases Nat.lt_or_ge m.length l.length with h |h
    ·have :=tight_len_lt hm hl tl h;omega
    ·exact h
   have hc:=cmpI_lt (show val l<val m by omega)
   have HE:=Lib.hid (show sgn nb (val m-val l)=sgn na (val l)+sgn nb (val m) by cases na<;>cases nb<;>simp_all [sgn]<;>omega)
   clear hn
   go_enter Tryz.func277,Tryz.ntmps277
   go_wp2_with fail
   refine (compareNat_any ha hb hl hm tl tm (by omega) (by omega)).mono ?_
   rintro e w3 ⟨rfl,hs3⟩
   go_wp2_with fail
   refine (subNat_any hb ha hm hl h2 hlen (by omega)).mono ?_
   rintro e w1 ⟨B1,d1,l1,rfl,hi1,hl1,ht1,hv1,hd1,hd2,hs1⟩
   have HV:=Lib.hid hv1
   clear hv1
   go_wp2_with fail
   refine (build_any nb hi1 hl1 ht1 hd1 hd2).mono ?_
   rintro e w2 ⟨g,B,k,d,rfl,hz,hs2⟩
   obtain ⟨q0,q1,q2,q3,q4,q5⟩:=box2 w w2 (.bool false) (.slice none 0 0) 149
   have Q0:=Lib.hid q0
   clear q0
   go_wp2
   refine bodyPost_ret (v:= .agg #[.bool g,.slice B k d]) (by simp [results,Tryz.results277,go_sem,q1,q2]) rfl ⟨_,_,_,_,rfl,?_,Step.of _ _⟩
   rw [HV.out,HE.out] at hz
   exact hz.boxed (by decide) Q0.out _ _
theorem trimV_any {w0 w:World} {neg:Bool} {A:Option Addr} {n c:Nat} {z:Int} (h:IntV w0 neg A n c z) [hx:Ext w0 w]:
  Calls Tryz.prog 223 #[.slice A n c] w (RetSame w (.slice A n c)):=by
 obtain ⟨l,rfl,h2,h3,h4,h5,h6,h7,h8⟩:=h
 refine (trim_any (h6.ext hx) h7 h8).mono ?_
 rintro e w' ⟨m,hm,ht,hv,rfl,rfl⟩
 have :m=l.length:=by
  have e1:val (l.drop m)=0:=by
   have :=val_split (l:=l) m
   have hp:=pow_pos_B (l.take m).length
   have h9:(4294967296:Int)^(l.take m).length*val (l.drop m)=0:=by omega
   rcases Int.mul_eq_zero.1 h9 with h |h
   ·omega
   ·exact h
  have e2:Tight (l.drop m):=by
   intro hh
   apply h3
   rw [List.getLast?_drop] at hh
   split at hh
   ·simp at hh
   ·exact hh
  have e3:=(tight_zero (h2.drop m) e2).1 e1
  have :=List.drop_eq_nil_iff.1 e3
  omega
 subst this
 exact ⟨rfl,rfl⟩
theorem IntV.boxedN {w:World} {g:Bool} {B:Option Addr} {k d:Nat} {z z':Int} (hz:IntV w g B k d z) (he:z=z') {s:Nat} {cs:Array Value} {T:TypeId} (hT:271≠T) (q:w.heap[s]? =some (.cells cs T (0,0))) (u v:Value):
  IntV ((w.setCell ⟨s,0,none⟩ u).setCell ⟨s,1,none⟩ v) g B k d z':=he▸hz.boxed hT q u v
theorem Sub_any {w0 w1 w:World} {na nb:Bool} {A B:Option Addr} {n k c d:Nat} {x y:Int} (ha:IntV w0 na A n c x) (hb:IntV w1 nb B k d y)
  (h1:n<=1099511627776) (h2:k<=1099511627776) [hx:Ext w0 w] [hy:Ext w1 w]:
  Calls Tryz.prog 257 #[.agg #[.bool na,.slice A n c],.agg #[.bool nb,.slice B k d]] w (RetInt w (x-y)):=by
 obtain ⟨la,rfl,hl,tl,hv,hsx,hi,h7,h8⟩:=id ha
 obtain ⟨lb,rfl,hl',tl',hv',hsy,hi',h7',h8'⟩:=id hb
 have HE:=Lib.hid (show sgn na (val la)+sgn (!nb) (val lb)=x-y by subst hsx hsy;rw [hv,hv'];unfold sgn;split<;>split<;>simp_all<;>omega)
 clear hv hv' hsx hsy
 go_enter Tryz.func257,Tryz.ntmps257
 go_wp2
 go_region_held3 (fun w'=>w'.cell? ⟨w.heap.size,0,none⟩=some (.bool na)/\w'.cell? ⟨w.heap.size,1,none⟩=some (.slice A la.length c)/\w'.cell? ⟨w.heap.size+1,0,none⟩=some (.bool nb)/\w'.cell? ⟨w.heap.size+1,1,none⟩=some (.slice B lb.length d)) (exact boxes2 w _ _ _ _ _ 149 149)
  (first
   |(go_at_call_of 223 (Value.slice A la.length c);refine (trimV_any ha).mono ?_;rintro e w' ⟨rfl,rfl⟩)
   |(go_at_call_of 223 (Value.slice B lb.length d);refine (trimV_any hb).mono ?_;rintro e w' ⟨rfl,rfl⟩)
   |(go_at_call 277;refine (addSigned_any na (!nb) hi hi' hl hl' tl tl' h1 h2).mono ?_;rintro e w2 ⟨g,B1,k1,d1,rfl,hz,hs2⟩;obtain ⟨q0,q1,q2,q3,q4,q5⟩:=box2_2 w w2 (.cells #[.bool na,.slice A la.length c] 149) (.cells #[.bool nb,.slice B lb.length d] 149) (.bool false) (.slice none 0 0) 149))
 have Q0:=Lib.hid q0
 clear q0
 go_wp2
 exact bodyPost_ret (v:= .agg #[.bool g,.slice B1 k1 d1]) (by simp [results,Tryz.results257,go_sem,q1,q2]) rfl ⟨_,_,_,_,rfl,hz.boxedN HE.out (by decide) Q0.out _ _,Step.of _ _⟩
theorem IntV.zero_iff {w:World} {neg:Bool} {A:Option Addr} {n c:Nat} {z:Int} (h:IntV w neg A n c z):n=0↔z=0:=by
 obtain ⟨l,rfl,h2,h3,h4,_⟩:=h
 have :=tight_zero h2 h3
 constructor
 ·intro hn
  have hl:=List.eq_nil_of_length_eq_zero hn
  subst hl
  simp [val] at h4;omega
 ·rintro rfl
  have :=this.1 (by rw [h4];rfl)
  subst this;rfl
theorem IntV.neg_eq {w:World} {neg:Bool} {A:Option Addr} {n c:Nat} {z:Int} (h:IntV w neg A n c z):neg=decide (z<0):=by
 obtain ⟨l,_,_,_,_,h5,_⟩:=h;exact h5
theorem Mul_any {w0 w1 w:World} {na nb:Bool} {A B:Option Addr} {n k c d:Nat} {x y:Int} (ha:IntV w0 na A n c x) (hb:IntV w1 nb B k d y)
  (h1:n<=1099511627776) (h2:k<=1099511627776) [hx:Ext w0 w] [hy:Ext w1 w]:
  Calls Tryz.prog 258 #[.agg #[.bool na,.slice A n c],.agg #[.bool nb,.slice B k d]] w (RetInt w (x*y)):=by
 obtain ⟨la,rfl,hl,tl,hv,hsx,hi,h7,h8⟩:=id ha
 obtain ⟨lb,rfl,hl',tl',hv',hsy,hi',h7',h8'⟩:=id hb
 have HE:=Lib.hid (show sgn (na !=nb) (val la*val lb)=x*y by
  subst hsx hsy
  rw [hv,hv',<-Int.natCast_mul,<-Int.natAbs_mul]
  unfold sgn
  by_cases hx:x<0<;>by_cases hy:y<0<;>simp [hx,hy]
  ·have :=Int.mul_pos_of_neg_of_neg hx hy;omega
  ·have :=Int.mul_nonpos_of_nonpos_of_nonneg (Int.le_of_lt hx) (by omega:0<=y);omega
  ·have :=Int.mul_nonpos_of_nonneg_of_nonpos (by omega:0<=x) (Int.le_of_lt hy);omega
  ·have :=Int.mul_nonneg (by omega:0<=x) (by omega:0<=y);omega)
 clear hv hv' hsx hsy
 go_enter Tryz.func258,Tryz.ntmps258
 go_wp2
 go_region_held3 (fun w'=>w'.cell? ⟨w.heap.size,0,none⟩=some (.bool na)/\w'.cell? ⟨w.heap.size,1,none⟩=some (.slice A la.length c)/\w'.cell? ⟨w.heap.size+1,0,none⟩=some (.bool nb)/\w'.cell? ⟨w.heap.size+1,1,none⟩=some (.slice B lb.length d)) (exact boxes2 w _ _ _ _ _ 149 149)
  (first
   |(go_at_call_of 223 (Value.slice A la.length c);refine (trimV_any ha).mono ?_;rintro e w' ⟨rfl,rfl⟩)
   |(go_at_call_of 223 (Value.slice B lb.length d);refine (trimV_any hb).mono ?_;rintro e w' ⟨rfl,rfl⟩)
   |(go_at_call 278;refine (mulNat_any hi hi' hl hl' h1 h2).mono ?_;rintro e w3 ⟨B1,d1,l1,rfl,hi1,hl1,ht1,hv1,hd1,hd2,hs1⟩;have HV:=Lib.hid hv1;clear hv1)
   |(go_at_call 255;refine (build_any (na !=nb) hi1 hl1 ht1 hd1 hd2).mono ?_;rintro e w2 ⟨g,B2,k2,d2,rfl,hz,hs2⟩;obtain ⟨q0,q1,q2,q3,q4,q5⟩:=box2_2 w w2 (.cells #[.bool na,.slice A la.length c] 149) (.cells #[.bool nb,.slice B lb.length d] 149) (.bool false) (.slice none 0 0) 149))
 have Q0:=Lib.hid q0
 clear q0
 go_wp2
 exact bodyPost_ret (v:= .agg #[.bool g,.slice B2 k2 d2]) (by simp [results,Tryz.results258,go_sem,q1,q2]) rfl ⟨_,_,_,_,rfl,hz.boxedN (by rw [HV.out];exact HE.out) (by decide) Q0.out _ _,Step.of _ _⟩
theorem Sign_any {w0 w:World} {na:Bool} {A:Option Addr} {n c:Nat} {x:Int} (ha:IntV w0 na A n c x) [hx:Ext w0 w]:
  Calls Tryz.prog 243 #[.agg #[.bool na,.slice A n c]] w (RetVal w (.int .i64 (cmpI x 0))):=by
 have hz:=ha.zero_iff
 have hn:=ha.neg_eq
 by_cases h0:x=0
 ·obtain rfl:=hz.2 h0
  have HE:=Lib.hid (cmpI_eq h0)
  clear hz hn h0
  go_enter Tryz.func243,Tryz.ntmps243
  go_wp2_with (go_at_call 223;refine (trimV_any ha).mono ?_;rintro e w' ⟨rfl,rfl⟩)
  go_ret
  exact ⟨by rw [HE.out];rfl,Step.of _ _⟩
 ·have hn0:((n:Int)==0)=false:=by simp;exact fun h=>h0 (hz.1 h)
  by_cases hneg:x<0
  ·have HE:=Lib.hid (cmpI_lt hneg)
   obtain rfl:na=true:=by simp [hn,hneg]
   clear hz hn h0 hneg
   go_enter Tryz.func243,Tryz.ntmps243
   go_wp2_with (go_at_call 223;refine (trimV_any ha).mono ?_;rintro e w' ⟨rfl,rfl⟩)
   go_ret
   exact ⟨by rw [HE.out];rfl,Step.of _ _⟩
  ·have HE:=Lib.hid (cmpI_gt (show 0<x by omega))
   obtain rfl:na=false:=by simp [hn];omega
   clear hz hn h0 hneg
   go_enter Tryz.func243,Tryz.ntmps243
   go_wp2_with (go_at_call 223;refine (trimV_any ha).mono ?_;rintro e w' ⟨rfl,rfl⟩)
   go_ret
   exact ⟨by rw [HE.out];rfl,Step.of _ _⟩
theorem wordV_any {w0 w:World} {neg:Bool} {A:Option Addr} {n c:Nat} {z:Int} (h:IntV w0 neg A n c z) (h2:n<=2) [hx:Ext w0 w]:
  Calls Tryz.prog 224 #[.slice A n c] w (RetSame w (.int .u64 z.natAbs)):=by
 obtain ⟨l,rfl,hl,h3,h4,h5,h6,h7,h8⟩:=h
 rw [<-h4]
 exact word_any (h6.ext hx) hl h2
theorem Int64_fit {w0 w:World} {na:Bool} {A:Option Addr} {n c:Nat} {x:Int} (ha:IntV w0 na A n c x) (h0:-9223372036854775808<=x) (h1:x<=9223372036854775807) [hx:Ext w0 w]:
  Calls Tryz.prog 173 #[.agg #[.bool na,.slice A n c]] w (RetVal w (.tuple #[.int .i64 x,.bool true])):=by
 have hn:=ha.neg_eq
 have hlen:n<=2:=ha.len (k:=2) (by omega)
 by_cases hneg:x<0
 ·obtain rfl:na=true:=by simp [hn,hneg]
  have hab:(x.natAbs:Int)=-x:=by omega
  have hw:=wordV_any (w:=w.alloc (.cells #[.bool true,.slice A n c] 149)) ha hlen
  rw [hab] at hw
  have HW:=Lib.hid hw
  clear hn hw hab
  have hle:decide (-x<=9223372036854775808)=true:=by simp;omega
  go_enter Tryz.func173,Tryz.ntmps173
  go_wp2_with (first
   |(go_at_call 223;refine (trimV_any ha).mono ?_;rintro e w' ⟨rfl,rfl⟩)
   |(go_at_call 224;refine HW.out.mono ?_;rintro e w' ⟨rfl,rfl⟩))
  go_ret2
  refine ⟨?_,Step.of _ _⟩
  have e1:wrap64 (IntKind.u64.wrap x)=x:=by simp only [wrap64,IntKind.wrap_u64,IntKind.wrap_i64];omega
  simp [e1]
 ·obtain rfl:na=false:=by simp [hn];omega
  have hab:(x.natAbs:Int)=x:=by omega
  have hw:=wordV_any (w:=w.alloc (.cells #[.bool false,.slice A n c] 149)) ha hlen
  rw [hab] at hw
  have HW:=Lib.hid hw
  clear hn hw hab
  have hx0:0<=x:=by omega
  clear hneg
  go_enter Tryz.func173,Tryz.ntmps173
  go_wp2_with (first
   |(go_at_call 223;refine (trimV_any ha).mono ?_;rintro e w' ⟨rfl,rfl⟩)
   |(go_at_call 224;refine HW.out.mono ?_;rintro e w' ⟨rfl,rfl⟩))
  go_ret2
  refine ⟨?_,Step.of _ _⟩
  simp
theorem run_eql_nil {P:Program} {t e:TypeId} (h:P.underlying t=some (.slice e)) (a:Option Addr) (n c:Nat) (w:World):
  (binOp .eql t (.slice a n c) (.slice none 0 0)).run P w= .ok (.bool a.isNone) w:=by
 simp only [binOp]
 simp [Op.equal,Op.maxDepth,Lib.run_equalIn_slice_nil w 9999 t e a n c 0 0 h]
def RetClone (w:World) (e:TypeId) (k:IntKind) (l:List Int) (ev:Ending) (w':World):Prop:=∃B d,ev= .returned (.slice B l.length d)/\Ints w' B e k l/\l.length<=d/\d<=9223372036854775807/\Step w w'
theorem oneCell_ints {k:IntKind} {l:List Int}:∀u∈l.map (Value.int k),u.oneCell'=true:=by
 intro u hu
 obtain ⟨x,_,rfl⟩:=List.mem_map.1 hu
 rfl
theorem Own.empty (w:World) (e:TypeId):Own (w.alloc (.cells #[] e)) w.heap.size e 1 (some ⟨w.heap.size,0,none⟩) 0 0 []:=
 ⟨by simp,.inr ⟨w.heap.size,0,#[],rfl,Nat.le_refl _,heap_alloc_new w _,Nat.le_refl _,by simp [maxLen],by simp,by simp⟩⟩
theorem CloneU_any {w0 w:World} {A:Option Addr} {c:Nat} {l:List Int} (h:Ints w0 A 271 .u32 l) (hl:l.length<=1099511627776) [hx:Ext w0 w]:
  Calls Tryz.prog 274 #[.slice A l.length c] w (RetClone w 271 .u32 l):=by
 have hq:=run_eql_nil (P:=Tryz.prog) Tryz.underlying147
 have h1:=h.ext hx
 cases A with
 |none=>
  have h0:l=[]:=by
   rcases Nat.eq_zero_or_pos l.length with h0 |h0
   ·exact List.eq_nil_of_length_eq_zero h0
   ·obtain ⟨b,o,cs,fr,hh,_⟩:=h1 (by simpa using h0)
    cases hh
  subst h0
  go_enter Tryz.func274,Tryz.ntmps274
  go_wp2
  go_ret
  exact ⟨none,0,rfl,Ints.nil,by simp,by omega,Step.of _ _⟩
 |some ad=>
  go_enter Tryz.func274,Tryz.ntmps274
  go_wp2_with (at_builtin;refine wpList_app _ rfl _ _ 147 rfl w.heap.size 271 (.int .u32 0) 1 4 Tryz.underlying147 Tryz.infoU32 rfl (by omega) (by omega) _ 0 _ [] rfl (Own.empty w _) _ l.length c (l.map (Value.int .u32)) rfl (Arr.ext h1 inferInstance) (by simp) oneCell_ints (by omega) (by simp) ?_;intro A1 c1 w1 hown hg)
  go_ret
  have hcap:=hown.cap
  have hxx:Ext w w1:=hg.ext inferInstance (Nat.le_refl _)
  exact ⟨A1,c1,by simp,hown.arr,by omega,by omega,hxx.toStep⟩
def NatV (w:World) (A:Option Addr) (n c:Nat) (z:Int):Prop:=∃l:List Int,n=l.length/\Ints w A 271 .u32 l/\Limbs l/\Tight l/\val l=z/\n<=c/\c<=9223372036854775807
theorem NatV.ext {w w':World} {A:Option Addr} {n c:Nat} {z:Int} (h:NatV w A n c z) (hx:Ext w w'):NatV w' A n c z:=by
 obtain ⟨l,h1,h2,h3⟩:=h
 exact ⟨l,h1,h2.ext hx,h3⟩
theorem NatV.nil (w:World):NatV w none 0 0 0:=⟨[],rfl,Ints.nil,Limbs.nil,Tight.nil,rfl,Nat.le_refl _,by omega⟩
theorem NatV.zero_iff {w:World} {A:Option Addr} {n c:Nat} {z:Int} (h:NatV w A n c z):n=0↔z=0:=by
 obtain ⟨l,rfl,_,h2,h3,h4,_⟩:=h
 have :=tight_zero h2 h3
 constructor
 ·intro hn
  have hl:=List.eq_nil_of_length_eq_zero hn
  subst hl
  simpa [val] using h4.symm
 ·rintro rfl
  have :=this.1 h4
  subst this;rfl
theorem NatV.nonneg {w:World} {A:Option Addr} {n c:Nat} {z:Int} (h:NatV w A n c z):0<=z:=by
 obtain ⟨l,rfl,_,h2,h3,h4,_⟩:=h
 rw [<-h4];exact val_nonneg h2
theorem NatV.len {w:World} {A:Option Addr} {n c:Nat} {z:Int} (h:NatV w A n c z) {k:Nat} (hz:z<(4294967296:Int)^k):n<=k:=by
 obtain ⟨l,rfl,_,h2,h3,h4,_⟩:=h
 exact length_le_of_val h2 h3 (by rw [h4];exact hz)
theorem NatV.of_ret {w w':World} {z:Int} {e:Ending} (h:RetNat w z e w'):∃B n d,e= .returned (.slice B n d)/\NatV w' B n d z/\Step w w':=by
 obtain ⟨B,d,l,rfl,h1,h2,h3,h4,h5,h6,h7⟩:=h
 exact ⟨B,l.length,d,rfl,⟨l,rfl,h1,h2,h3,h4,h5,h6⟩,h7⟩
theorem IntV.nat {w:World} {neg:Bool} {A:Option Addr} {n c:Nat} {z:Int} (h:IntV w neg A n c z):NatV w A n c z.natAbs:=by
 obtain ⟨l,h1,h2,h3,h4,h5,h6,h7,h8⟩:=h
 exact ⟨l,h1,h6,h2,h3,h4,h7,h8⟩
theorem buildN_any {w0 w:World} {A:Option Addr} {n c:Nat} {z:Int} (neg:Bool) (h:NatV w0 A n c z) [hx:Ext w0 w]:
  Calls Tryz.prog 255 #[.bool neg,.slice A n c] w (RetInt w (sgn neg z)):=by
 obtain ⟨l,rfl,h1,h2,h3,rfl,h5,h6⟩:=h
 exact build_any neg h1 h2 h3 h5 h6
theorem compareN_any {w0 w1 w:World} {A B:Option Addr} {n k c d:Nat} {x y:Int} (ha:NatV w0 A n c x) (hb:NatV w1 B k d y) [hx:Ext w0 w] [hy:Ext w1 w]:
  Calls Tryz.prog 287 #[.slice A n c,.slice B k d] w (RetVal w (.int .i64 (cmpI x y))):=by
 obtain ⟨l,rfl,h1,h2,h3,rfl,h5,h6⟩:=ha
 obtain ⟨m,rfl,g1,g2,g3,rfl,g5,g6⟩:=hb
 exact compareNat_any h1 g1 h2 g2 h3 g3 (by omega) (by omega)
theorem addN_any {w0 w1 w:World} {A B:Option Addr} {n k c d:Nat} {x y:Int} (ha:NatV w0 A n c x) (hb:NatV w1 B k d y) (h1:n<=1099511627776) (h2:k<=1099511627776) [hx:Ext w0 w] [hy:Ext w1 w]:
  Calls Tryz.prog 280 #[.slice A n c,.slice B k d] w (RetNat w (x+y)):=by
 obtain ⟨l,rfl,a1,a2,a3,rfl,a5,a6⟩:=ha
 obtain ⟨m,rfl,g1,g2,g3,rfl,g5,g6⟩:=hb
 exact addNat_any a1 g1 a2 g2 h1 h2
theorem subN_any {w0 w1 w:World} {A B:Option Addr} {n k c d:Nat} {x y:Int} (ha:NatV w0 A n c x) (hb:NatV w1 B k d y) (h1:n<=1099511627776) (h2:y<=x) [hx:Ext w0 w] [hy:Ext w1 w]:
  Calls Tryz.prog 281 #[.slice A n c,.slice B k d] w (RetNat w (x-y)):=by
 obtain ⟨l,rfl,a1,a2,a3,rfl,a5,a6⟩:=ha
 obtain ⟨m,rfl,g1,g2,g3,rfl,g5,g6⟩:=hb
 refine subNat_any a1 g1 a2 g2 h1 ?_ h2
 rcases Nat.lt_or_ge l.length m.length with h |h
 ·have :=tight_len_lt a2 g2 g3 h;omega
 ·exact h
theorem wordN_any {w0 w:World} {A:Option Addr} {n c:Nat} {z:Int} (h:NatV w0 A n c z) (h2:n<=2) [hx:Ext w0 w]:
  Calls Tryz.prog 224 #[.slice A n c] w (RetSame w (.int .u64 z)):=by
 obtain ⟨l,rfl,a1,a2,a3,rfl,a5,a6⟩:=h
 exact word_any (a1.ext hx) a2 h2
theorem cloneN_any {w0 w:World} {A:Option Addr} {n c:Nat} {z:Int} (h:NatV w0 A n c z) (h2:n<=1099511627776) [hx:Ext w0 w]:
  Calls Tryz.prog 274 #[.slice A n c] w (RetNat w z):=by
 obtain ⟨l,rfl,a1,a2,a3,rfl,a5,a6⟩:=h
 refine (CloneU_any (c:=c) a1 h2).mono ?_
 rintro e w' ⟨B,d,rfl,h1,h3,h4,h5⟩
 exact ⟨B,d,l,rfl,h1,a2,a3,rfl,h3,h4,h5⟩
def RetNat2 (w:World) (q r:Int) (e:Ending) (w':World):Prop:=∃B n d B' n' d',e= .returned (.tuple #[.slice B n d,.slice B' n' d'])/\NatV w' B n d q/\NatV w' B' n' d' r/\Step w w'
theorem divNat_small {w0 w1 w:World} {A B:Option Addr} {n k c d:Nat} {x y:Int} (ha:NatV w0 A n c x) (hb:NatV w1 B k d y) (h1:x<18446744073709551616) (hy0:0<y) (hy1:y<18446744073709551616) [hx:Ext w0 w] [hy:Ext w1 w]:
  Calls Tryz.prog 279 #[.slice A n c,.slice B k d] w (RetNat2 w (x / y) (x%y)):=by
 have hn2:n<=2:=ha.len (k:=2) (by omega)
 have hk2:k<=2:=hb.len (k:=2) (by omega)
 have hx0:=ha.nonneg
 by_cases hlt:x<y
 ·have hc:=cmpI_lt hlt
  have HQ:=Lib.hid (show x / y=0 from Int.ediv_eq_zero_of_lt hx0 hlt)
  have HR:=Lib.hid (show x%y=x from Int.emod_eq_of_lt hx0 hlt)
  go_enter Tryz.func279,Tryz.ntmps279
  go_wp2_with fail
  refine (compareN_any ha hb).mono ?_
  rintro e w2 ⟨rfl,hs2⟩
  go_wp2_with fail
  refine (cloneN_any ha (by omega)).mono ?_
  intro e w3 hr
  obtain ⟨B3,n3,d3,rfl,hn3,hs3⟩:=NatV.of_ret hr
  go_wp2
  go_ret2
  exact ⟨_,_,_,_,_,_,rfl,by rw [HQ.out];exact NatV.nil _,by rw [HR.out];exact hn3,Step.of _ _⟩
 ·have hc:0<=cmpI x y:=by unfold cmpI;split;omega;split<;>decide
  have hq0:0<=x / y:=Int.ediv_nonneg hx0 (by omega)
  have hq1:x / y<=x:=Int.ediv_le_self y hx0
  have hr0:0<=x%y:=Int.emod_nonneg x (by omega)
  have hr1:x%y<y:=Int.emod_lt_of_pos x hy0
  have hyb:(y==0)=false:=by simp;omega
  go_enter Tryz.func279,Tryz.ntmps279
  go_wp2_with fail
  refine (compareN_any ha hb).mono ?_
  rintro e w2 ⟨rfl,hs2⟩
  go_wp2_with fail
  refine (wordN_any ha hn2).mono ?_
  rintro e w3 ⟨rfl,rfl⟩
  go_wp2_with fail
  refine (wordN_any hb hk2).mono ?_
  rintro e w3 ⟨rfl,rfl⟩
  go_wp2_with fail
  have hyn:¬y=0:=by omega
  have e1:x.tdiv y=x / y:=Int.tdiv_eq_ediv_of_nonneg hx0
  have e2:x.tmod y=x%y:=Int.tmod_eq_emod_of_nonneg hx0
  have e3:IntKind.u64.wrap (x / y)=x / y:=by rw [IntKind.wrap_u64];omega
  have e4:IntKind.u64.wrap (x%y)=x%y:=by rw [IntKind.wrap_u64];omega
  go_region_held3 (fun _=>True) (trivial)
   (first
    |(go_at_call_of 256 (Value.int IntKind.u64 (x / y));refine (fromWord_any (x / y) hq0 (by omega) _).mono ?_;intro e w4 hr;obtain ⟨B4,n4,d4,rfl,hn4,hs4⟩:=NatV.of_ret hr;clear hr)
    |(go_at_call_of 256 (Value.int IntKind.u64 (x%y));refine (fromWord_any (x%y) hr0 (by omega) _).mono ?_;intro e w5 hr;obtain ⟨B5,n5,d5,rfl,hn5,hs5⟩:=NatV.of_ret hr;clear hr))
  go_wp2
  go_ret2
  exact ⟨_,_,_,_,_,_,rfl,hn4.ext inferInstance,hn5,Step.of _ _⟩
def RetInt2 (w:World) (q r:Int) (b:Bool) (e:Ending) (w':World):Prop:=∃g B n d g' B' n' d',e= .returned (.tuple #[.agg #[.bool g,.slice B n d],.agg #[.bool g',.slice B' n' d'],.bool b])/\IntV w' g B n d q/\IntV w' g' B' n' d' r/\Step w w'
theorem box4 (w w':World) (x0 y0 x1 y1 x2 y2 x3 y3:Value) (T:TypeId) [h:Ext ((((w.alloc (.cells #[x0,y0] T)).alloc (.cells #[x1,y1] T)).alloc (.cells #[x2,y2] T)).alloc (.cells #[x3,y3] T)) w']:
  (w'.cell? ⟨w.heap.size,0,none⟩=some x0/\w'.cell? ⟨w.heap.size,1,none⟩=some y0/\w'.cell? ⟨w.heap.size+1,0,none⟩=some x1/\w'.cell? ⟨w.heap.size+1,1,none⟩=some y1)/\
  (w'.heap[w.heap.size+1+1]? =some (.cells #[x2,y2] T (0,0))/\w'.cell? ⟨w.heap.size+1+1,0,none⟩=some x2/\w'.cell? ⟨w.heap.size+1+1,1,none⟩=some y2/\w'.frozen? ⟨w.heap.size+1+1,0,none⟩=false/\w'.frozen? ⟨w.heap.size+1+1,1,none⟩=false/\w.heap.size+1+1<w'.heap.size)/\
  (w'.heap[w.heap.size+1+1+1]? =some (.cells #[x3,y3] T (0,0))/\w'.cell? ⟨w.heap.size+1+1+1,0,none⟩=some x3/\w'.cell? ⟨w.heap.size+1+1+1,1,none⟩=some y3/\w'.frozen? ⟨w.heap.size+1+1+1,0,none⟩=false/\w'.frozen? ⟨w.heap.size+1+1+1,1,none⟩=false/\w.heap.size+1+1+1<w'.heap.size):=by
 have h2:Ext ((w.alloc (.cells #[x0,y0] T)).alloc (.cells #[x1,y1] T)) w':=Ext.trans inferInstance h
 have h3:Ext (((w.alloc (.cells #[x0,y0] T)).alloc (.cells #[x1,y1] T)).alloc (.cells #[x2,y2] T)) w':=Ext.trans inferInstance h
 exact ⟨boxes2 w w' x0 y0 x1 y1 T T,box2_2 w w' (.cells #[x0,y0] T) (.cells #[x1,y1] T) x2 y2 T,box2At (((w.alloc (.cells #[x0,y0] T)).alloc (.cells #[x1,y1] T)).alloc (.cells #[x2,y2] T)) w' _ x3 y3 T (by simp)⟩
theorem heap_setCell_far {w:World} {s:Nat} {o:Obj} (h:w.heap[s]? =some o) {p:Addr} (hp:s≠p.block) (u:Value):(w.setCell p u).heap[s]? =some o:=(Below.heap_setCell w p u s hp).trans h
theorem IntV.boxed4 {w:World} {g:Bool} {B:Option Addr} {k d:Nat} {z:Int} (hz:IntV w g B k d z) {s s':Nat} (hss:s≠s') {cs cs':Array Value} {T T':TypeId} (hT:271≠T) (hT':271≠T') (q:w.heap[s]? =some (.cells cs T (0,0))) (q':w.heap[s']? =some (.cells cs' T' (0,0))) (u v u' v':Value):
  IntV ((((w.setCell ⟨s,0,none⟩ u).setCell ⟨s,1,none⟩ v).setCell ⟨s',0,none⟩ u').setCell ⟨s',1,none⟩ v') g B k d z:=
 (hz.boxed hT q u v).boxed hT' (heap_setCell_far (heap_setCell_far q' (fun h=>hss h.symm) _) (fun h=>hss h.symm) _) u' v'
theorem div_pos_case (x y:Int) (hx:0<=x) (hy:y≠0):sgn (decide (y<0)) ((x.natAbs:Int) / y.natAbs)=x / y/\(x.natAbs:Int)%y.natAbs=x%y:=by
 have e1:(x.natAbs:Int)=x:=by omega
 rw [e1]
 rcases (by omega:(y.natAbs:Int)=y∨(y.natAbs:Int)=-y) with h |h
 ·have :¬y<0:=by omega
  rw [h];simp [sgn,this]
 ·have :y<0:=by omega
  rw [h];simp [sgn,this,Int.ediv_neg,Int.emod_neg]
theorem div_neg_exact (x y:Int) (hx:x<0) (hy:y≠0) (hr:(x.natAbs:Int)%y.natAbs=0):sgn (!decide (y<0)) ((x.natAbs:Int) / y.natAbs)=x / y/\(x.natAbs:Int)%y.natAbs=x%y:=by
 have e1:(x.natAbs:Int)=-x:=by omega
 have hd:(y.natAbs:Int)∣x:=by
  have :=Int.dvd_of_emod_eq_zero hr
  rw [e1] at this
  exact (Int.dvd_neg).1 this
 rw [hr,e1]
 rcases (by omega:(y.natAbs:Int)=y∨(y.natAbs:Int)=-y) with h |h
 ·have :¬y<0:=by omega
  rw [h] at hd |-;simp [sgn,this,Int.neg_ediv_of_dvd hd,Int.emod_eq_zero_of_dvd hd]
 ·have :y<0:=by omega
  rw [h] at hd |-
  have hd':y∣x:=(Int.neg_dvd).1 hd
  simp [sgn,this,Int.ediv_neg,Int.neg_ediv_of_dvd hd',Int.emod_eq_zero_of_dvd hd']
theorem div_neg_case (x y:Int) (hx:x<0) (hy:y≠0) (hr:(x.natAbs:Int)%y.natAbs≠0):sgn (!decide (y<0)) ((x.natAbs:Int) / y.natAbs+1)=x / y/\(y.natAbs:Int)-(x.natAbs:Int)%y.natAbs=x%y:=by
 have hY:0<(y.natAbs:Int):=by omega
 generalize hYY:(y.natAbs:Int)=Y at*
 have e1:(x.natAbs:Int)=-x:=by omega
 rw [e1] at hr |-
 have h1:=Int.emod_nonneg (-x) (show Y≠0 by omega)
 have h2:=Int.emod_lt_of_pos (-x) hY
 have h3:Y*(-x / Y)+-x%Y=-x:=Int.mul_ediv_add_emod (-x) Y
 have hq:x / Y=-(-x / Y+1)/\x%Y=Y- -x%Y:=by
  have h4:x=(Y- -x%Y)+Y*(-(-x / Y+1)):=by
   rw [Int.mul_neg,Int.mul_add,Int.mul_one];omega
  constructor
  ·conv=>lhs;rw [h4]
   rw [Int.add_mul_ediv_left _ _ (by omega),Int.ediv_eq_zero_of_lt (by omega) (by omega)];omega
  ·conv=>lhs;rw [h4]
   rw [Int.add_mul_emod_self_left,Int.emod_eq_of_lt (by omega) (by omega)]
 rcases (by omega:Y=y∨Y=-y) with h |h
 ·have :¬y<0:=by omega
  rw [<-h];rw [hq.1,hq.2];simp [sgn];omega
 ·have hy':y<0:=by omega
  have :y=-Y:=by omega
  rw [this,Int.ediv_neg,Int.emod_neg,hq.1,hq.2]
  simp [sgn];omega
theorem one_nat (w:World):NatV (w.alloc (.cells #[.int .u32 1] 271)) (some ⟨w.heap.size,0,none⟩) 1 1 1:=
 ⟨[1],rfl,Arr.new w 271 #[.int .u32 1],Limbs.cons (by omega) Limbs.nil,by simp [Tight],by simp [val],Nat.le_refl _,by omega⟩
theorem DivMod_small {w0 w1 w:World} {na nb:Bool} {A B:Option Addr} {n k c d:Nat} {x y:Int} (ha:IntV w0 na A n c x) (hb:IntV w1 nb B k d y)
  (h1:x.natAbs<18446744073709551616) (hy0:y≠0) (h2:y.natAbs<18446744073709551616) [hx:Ext w0 w] [hy:Ext w1 w]:
  Calls Tryz.prog 259 #[.agg #[.bool na,.slice A n c],.agg #[.bool nb,.slice B k d]] w (RetInt2 w (x / y) (x%y) true):=by
 have hn2:n<=2:=ha.len (k:=2) (by omega)
 have hk2:k<=2:=hb.len (k:=2) (by omega)
 have hk0:((k:Int)==0)=false:=by simp;exact fun h=>hy0 (hb.zero_iff.1 h)
 have hna:=ha.neg_eq
 have hnb:=hb.neg_eq
 have hdn:=divNat_small (w:=(((w.alloc (.cells #[.bool na,.slice A n c] 149)).alloc (.cells #[.bool nb,.slice B k d] 149)).alloc (.cells #[.bool false,.slice none 0 0] 149)).alloc (.cells #[.bool false,.slice none 0 0] 149)) ha.nat hb.nat (by omega) (by omega) (by omega)
 have hr0:=Int.emod_nonneg (x.natAbs:Int) (show (y.natAbs:Int)≠0 by omega)
 have hr1:=Int.emod_lt_of_pos (x.natAbs:Int) (show 0<(y.natAbs:Int) by omega)
 have hq0:0<=(x.natAbs:Int) / y.natAbs:=Int.ediv_nonneg (by omega) (by omega)
 have hq1:(x.natAbs:Int) / y.natAbs<=x.natAbs:=Int.ediv_le_self _ (by omega)
 by_cases hneg:x<0
 ·obtain rfl:na=true:=by simp [hna,hneg]
  by_cases hrz:(x.natAbs:Int)%y.natAbs=0
  ·have HE:=Lib.hid (div_neg_exact x y hneg hy0 hrz)
   rw [<-hnb] at HE
   have HR:=Lib.hid hrz
   generalize (x.natAbs:Int) / y.natAbs=q at*
   generalize (x.natAbs:Int)%y.natAbs=r at*
   have HD:=Lib.hid hdn
   clear hna hnb hdn hrz
   go_enter Tryz.func259,Tryz.ntmps259
   go_wp2_with fail
   refine (trimV_any hb).mono ?_
   rintro e w' ⟨rfl,rfl⟩
   go_wp2_with fail
   refine (trimV_any ha).mono ?_
   rintro e w' ⟨rfl,rfl⟩
   go_wp2_with fail
   refine HD.out.mono ?_
   rintro e w2 ⟨B2,n2,d2,B3,n3,d3,rfl,hq,hr,hs2⟩
   obtain ⟨⟨c1,c2,c3,c4⟩,-,-⟩:=box4 w w2 (.bool true) (.slice A n c) (.bool nb) (.slice B k d) (.bool false) (.slice none 0 0) (.bool false) (.slice none 0 0) 149
   have hn3:n3=0:=hr.zero_iff.2 HR.out
   subst hn3
   go_wp2_with fail
   refine (buildN_any _ hq).mono ?_
   rintro e w4 ⟨g4,B4,n4,d4,rfl,hz4,hs4⟩
   go_wp2_with fail
   refine (buildN_any _ hr).mono ?_
   rintro e w5 ⟨g5,B5,n5,d5,rfl,hz5,hs5⟩
   obtain ⟨-,⟨p0,p1,p2,p3,p4,p5⟩,⟨q0,q1,q2,q3,q4,q5⟩⟩:=box4 w w5 (.bool true) (.slice A n c) (.bool nb) (.slice B k d) (.bool false) (.slice none 0 0) (.bool false) (.slice none 0 0) 149
   have P0:=Lib.hid p0
   have Q0:=Lib.hid q0
   clear p0 q0
   go_wp2
   refine bodyPost_ret (v:= .tuple #[.agg #[.bool g4,.slice B4 n4 d4],.agg #[.bool g5,.slice B5 n5 d5],.bool true]) (by simp [results,Tryz.results259,go_sem,p1,p2,q1,q2]) rfl ⟨_,_,_,_,_,_,_,_,rfl,?_,?_,Step.of _ _⟩
   ·rw [<-HE.out.1]
    exact (hz4.ext hs5.ext).boxed4 (by omega) (by decide) (by decide) P0.out Q0.out _ _ _ _
   ·rw [<-HE.out.2]
    exact hz5.boxed4 (by omega) (by decide) (by decide) P0.out Q0.out _ _ _ _
  ·have HE:=Lib.hid (div_neg_case x y hneg hy0 hrz)
   rw [<-hnb] at HE
   have HR:=Lib.hid hrz
   generalize (x.natAbs:Int) / y.natAbs=q at*
   generalize (x.natAbs:Int)%y.natAbs=r at*
   have HD:=Lib.hid hdn
   clear hna hnb hdn hrz
   go_enter Tryz.func259,Tryz.ntmps259
   go_wp2_with fail
   refine (trimV_any hb).mono ?_
   rintro e w' ⟨rfl,rfl⟩
   go_wp2_with fail
   refine (trimV_any ha).mono ?_
   rintro e w' ⟨rfl,rfl⟩
   go_wp2_with fail
   refine HD.out.mono ?_
   rintro e w2 ⟨B2,n2,d2,B3,n3,d3,rfl,hq,hr,hs2⟩
   obtain ⟨⟨c1,c2,c3,c4⟩,-,-⟩:=box4 w w2 (.bool true) (.slice A n c) (.bool nb) (.slice B k d) (.bool false) (.slice none 0 0) (.bool false) (.slice none 0 0) 149
   have hn3:0<n3:=Nat.pos_of_ne_zero fun h=>HR.out (hr.zero_iff.1 h)
   have hn2':n2<=2:=hq.len (k:=2) (by omega)
   have hn3b:decide ((0:Int)<(n3:Int))=true:=by simpa using hn3
   go_wp2_with fail
   refine (addN_any hq (one_nat w2) (by omega) (by omega)).mono ?_
   intro e w6 hr6
   obtain ⟨B6,n6,d6,rfl,hn6,hs6⟩:=NatV.of_ret hr6
   clear hr6
   go_wp2_with fail
   refine (subN_any hb.nat hr (by omega) (by omega)).mono ?_
   intro e w7 hr7
   obtain ⟨B7,n7,d7,rfl,hn7,hs7⟩:=NatV.of_ret hr7
   clear hr7
   go_wp2_with fail
   refine (buildN_any _ hn6).mono ?_
   rintro e w4 ⟨g4,B4,n4,d4,rfl,hz4,hs4⟩
   go_wp2_with fail
   refine (buildN_any _ hn7).mono ?_
   rintro e w5 ⟨g5,B5,n5,d5,rfl,hz5,hs5⟩
   obtain ⟨-,⟨p0,p1,p2,p3,p4,p5⟩,⟨q0,q1,q2,q3,q4,q5⟩⟩:=box4 w w5 (.bool true) (.slice A n c) (.bool nb) (.slice B k d) (.bool false) (.slice none 0 0) (.bool false) (.slice none 0 0) 149
   have P0:=Lib.hid p0
   have Q0:=Lib.hid q0
   clear p0 q0
   go_wp2
   refine bodyPost_ret (v:= .tuple #[.agg #[.bool g4,.slice B4 n4 d4],.agg #[.bool g5,.slice B5 n5 d5],.bool true]) (by simp [results,Tryz.results259,go_sem,p1,p2,q1,q2]) rfl ⟨_,_,_,_,_,_,_,_,rfl,?_,?_,Step.of _ _⟩
   ·rw [<-HE.out.1]
    exact (hz4.ext hs5.ext).boxed4 (by omega) (by decide) (by decide) P0.out Q0.out _ _ _ _
   ·rw [<-HE.out.2]
    exact hz5.boxed4 (by omega) (by decide) (by decide) P0.out Q0.out _ _ _ _
 ·obtain rfl:na=false:=by simp [hna];omega
  ·have HE:=Lib.hid (div_pos_case x y (by omega) hy0)
   rw [<-hnb] at HE
   generalize (x.natAbs:Int) / y.natAbs=q at*
   generalize (x.natAbs:Int)%y.natAbs=r at*
   have HD:=Lib.hid hdn
   clear hna hnb hdn
   go_enter Tryz.func259,Tryz.ntmps259
   go_wp2_with fail
   refine (trimV_any hb).mono ?_
   rintro e w' ⟨rfl,rfl⟩
   go_wp2_with fail
   refine (trimV_any ha).mono ?_
   rintro e w' ⟨rfl,rfl⟩
   go_wp2_with fail
   refine HD.out.mono ?_
   rintro e w2 ⟨B2,n2,d2,B3,n3,d3,rfl,hq,hr,hs2⟩
   obtain ⟨⟨c1,c2,c3,c4⟩,-,-⟩:=box4 w w2 (.bool false) (.slice A n c) (.bool nb) (.slice B k d) (.bool false) (.slice none 0 0) (.bool false) (.slice none 0 0) 149
   go_wp2_with fail
   refine (buildN_any _ hq).mono ?_
   rintro e w4 ⟨g4,B4,n4,d4,rfl,hz4,hs4⟩
   go_wp2_with fail
   refine (buildN_any _ hr).mono ?_
   rintro e w5 ⟨g5,B5,n5,d5,rfl,hz5,hs5⟩
   obtain ⟨-,⟨p0,p1,p2,p3,p4,p5⟩,⟨q0,q1,q2,q3,q4,q5⟩⟩:=box4 w w5 (.bool false) (.slice A n c) (.bool nb) (.slice B k d) (.bool false) (.slice none 0 0) (.bool false) (.slice none 0 0) 149
   have P0:=Lib.hid p0
   have Q0:=Lib.hid q0
   clear p0 q0
   go_wp2
   refine bodyPost_ret (v:= .tuple #[.agg #[.bool g4,.slice B4 n4 d4],.agg #[.bool g5,.slice B5 n5 d5],.bool true]) (by simp [results,Tryz.results259,go_sem,p1,p2,q1,q2]) rfl ⟨_,_,_,_,_,_,_,_,rfl,?_,?_,Step.of _ _⟩
   ·rw [<-HE.out.1]
    exact (hz4.ext hs5.ext).boxed4 (by omega) (by decide) (by decide) P0.out Q0.out _ _ _ _
   ·rw [<-HE.out.2]
    exact hz5.boxed4 (by omega) (by decide) (by decide) P0.out Q0.out _ _ _ _
theorem infoInt:(Tryz.prog.info? 149).map (fun i=>(i.zero,i.size,i.bytes))=some (some (.agg #[.bool false,.slice none 0 0]),2,32):=by kernel_rfl
theorem infoSlInt:(Tryz.prog.info? 94).map (fun i=>(i.zero,i.size,i.bytes))=some (some (.slice none 0 0),1,24):=by kernel_rfl
theorem infoSlSlInt:(Tryz.prog.info? 79).map (fun i=>(i.zero,i.size,i.bytes))=some (some (.slice none 0 0),1,24):=by kernel_rfl
theorem infoI64:(Tryz.prog.info? 2).map (fun i=>(i.zero,i.size,i.bytes))=some (some (.int .i64 0),1,8):=by kernel_rfl
theorem infoInt_:(Tryz.prog.info? 3).map (fun i=>(i.zero,i.size,i.bytes))=some (some (.int .i64 0),1,8):=by kernel_rfl
theorem infoSlI64:(Tryz.prog.info? 35).map (fun i=>(i.zero,i.size,i.bytes))=some (some (.slice none 0 0),1,24):=by kernel_rfl
/-! ## A row of any values that the call made: known whole -/
def VRow (w:World) (g:Nat) (e:TypeId) (vs:List Value):Prop:=w.heap[g]? =some (.cells vs.toArray e (0,0))
section
variable {w w':World} {g:Nat} {e:TypeId} {vs:List Value}
theorem VRow.lt (h:VRow w g e vs):g<w.heap.size:=lt_of_heap h
theorem VRow.cell (h:VRow w g e vs) {i:Nat} {u:Value} (hu:vs[i]? =some u):w.cell? ⟨g,i,none⟩=some u:=by
 rw [cell_of_row w g i _ e (0,0) h];simpa using hu
theorem VRow.frozen (h:VRow w g e vs) (i:Nat):w.frozen? ⟨g,i,none⟩=false:=by
 unfold VRow at h
 simp [World.frozen?,h]
theorem VRow.set (h:VRow w g e vs) (i:Nat) (u:Value):VRow (w.setCell ⟨g,i,none⟩ u) g e (vs.set i u):=by
 unfold VRow at h |-
 rw [heap_setCell_self' h]
 simp
theorem VRow.ext (h:VRow w g e vs) (hx:Ext w w'):VRow w' g e vs:=heap_of_ext hx h
theorem VRow.far (h:VRow w g e vs) {p:Addr} (hp:g≠p.block) (u:Value):VRow (w.setCell p u) g e vs:=(Below.heap_setCell w p u g hp).trans h
theorem VRow.new (w:World) (e:TypeId) (cs:Array Value):VRow (w.alloc (.cells cs e)) w.heap.size e cs.toList:=heap_alloc_new w _
theorem VRow.arr (h:VRow w g e vs):Arr w (some ⟨g,0,none⟩) e vs:=fun _=>⟨g,0,_,_,rfl,h,fun j u hu=>by simpa using hu⟩
theorem VRow.drewN (h:VRow w g e vs) (n:Nat):VRow (w.drewN n) g e vs:=h
end
def mkCells (z:Array Value) (n:Nat):Array Value:=madeCells z n
theorem run_make_any {P:Program} {t e:TypeId} {z:Value} {size by_:Nat} (ht:P.underlying t=some (.slice e)) (hi:(P.info? e).map (fun i=>(i.zero,i.size,i.bytes))=some (some z,size,by_)) (h8:by_<=128)
  (n:Int) (h0:0<=n) (h1:n<=1099511627776) (w:World):
  (Instr.makeSlice t (.int .i64 n) (.int .i64 n)).run P w= .ok (.slice (some ⟨w.heap.size,0,none⟩) n.toNat n.toNat) (w.alloc (.cells (mkCells z.cells (n.toNat*size)) e)):=by
 obtain ⟨i,hi1,hz,hs,hb⟩:=info_parts hi
 have hb':(i.bytes:Int)*n<=128*n:=Int.mul_le_mul_of_nonneg_right (by omega) h0
 rw [run_make (P:=P) w t e i z ht hi1 hz .i64 .i64 n n h0 (Int.le_refl _) (by omega) (by omega),hs]
 rfl
theorem mkCells_size (z:Array Value) (n:Nat):(mkCells z n).toList.length=n:=by simp [mkCells,size_madeCells]
theorem mkCells_one (z:Value) (n:Nat):(mkCells #[z] n).toList=List.replicate n z:=toList_madeCells_one z n
theorem mkCells_get (z:Array Value) (n i:Nat) (hi:i<n) (hz:0<z.size):(mkCells z n).toList[i]? =some (z[i%z.size]'(Nat.mod_lt _ hz)):=by
 simp [mkCells,madeCells,hi,Nat.mod_lt _ hz]
/-! ## Calls of function values -/
def IsFn (f:FuncId):Prop:=∀(args:Array Value) (w:World),(callFunc f args).run Tryz.prog w= .ok (.enter f args) w
theorem isFn_of {f : FuncId} {fn : Func} (hf : Tryz.prog.funcs[f]? = some fn) (hname : (fn.name == "runtime.NumGoroutine") = false) (hb : fn.body.isNone = false) : IsFn f := fun args w => by
 have h1 : fn.name ≠ "runtime.NumGoroutine" := by simpa using hname
 have h2:¬fn.body=none:=by intro h;rw [h] at hb;simp at hb
 simp [callFunc,hf,h1,h2]
/-! ## Slices of integers of any size; matrices -/
def IntsV (w:World) (A:Option Addr) (zs:List Int):Prop:=
 ∃vs:List Value,vs.length=zs.length*2/\Arr w A 149 vs/\∀(i:Nat) (z:Int),zs[i]? =some z->∃g B n c,vs[i*2]? =some (.bool g)/\vs[i*2+1]? =some (.slice B n c)/\IntV w g B n c z
theorem IntsV.ext {w w':World} {A:Option Addr} {zs:List Int} (h:IntsV w A zs) (hx:Ext w w'):IntsV w' A zs:=by
 obtain ⟨vs,h1,h2,h3⟩:=h
 refine ⟨vs,h1,h2.ext hx,fun i z hz=>?_⟩
 obtain ⟨g,B,n,c,a1,a2,a3⟩:=h3 i z hz
 exact ⟨g,B,n,c,a1,a2,a3.ext hx⟩
theorem IntsV.grow {w w':World} {base:Nat} {e:TypeId} {A:Option Addr} {zs:List Int} (h:IntsV w A zs) (hg:Grow base e w w') (h1:149≠e) (h2:271≠e):IntsV w' A zs:=by
 obtain ⟨vs,a1,a2,a3⟩:=h
 refine ⟨vs,a1,a2.grow hg h1,fun i z hz=>?_⟩
 obtain ⟨g,B,n,c,b1,b2,b3⟩:=a3 i z hz
 exact ⟨g,B,n,c,b1,b2,b3.grow hg h2⟩
theorem IntsV.at_ {w:World} {A:Option Addr} {zs:List Int} (h:IntsV w A zs) {i:Nat} (hi:i<zs.length):
  ∃b o g B n c,A=some ⟨b,o,none⟩/\w.cell? ⟨b,o+i*2,none⟩=some (.bool g)/\w.cell? ⟨b,o+i*2+1,none⟩=some (.slice B n c)/\IntV w g B n c zs[i]/\b<w.heap.size:=by
 obtain ⟨vs,a1,a2,a3⟩:=h
 obtain ⟨g,B,n,c,b1,b2,b3⟩:=a3 i zs[i] (by simp [hi])
 obtain ⟨b,o,rfl,c1,c2⟩:=a2.at_ b1
 obtain ⟨b',o',hh,d1,d2⟩:=a2.at_ b2
 injection hh with hh
 injection hh with h1 h2
 subst h1 h2
 exact ⟨b,o,g,B,n,c,rfl,c1,by rw [Nat.add_assoc];exact d1,b3,c2⟩
def MatV (w:World) (A:Option Addr) (m:List (List Int)):Prop:=
 ∃vs:List Value,vs.length=m.length/\Arr w A 94 vs/\∀(i:Nat) (r:List Int),m[i]? =some r->∃B c,vs[i]? =some (.slice B r.length c)/\IntsV w B r/\r.length<=c/\c<=9223372036854775807
theorem MatV.ext {w w':World} {A:Option Addr} {m:List (List Int)} (h:MatV w A m) (hx:Ext w w'):MatV w' A m:=by
 obtain ⟨vs,h1,h2,h3⟩:=h
 refine ⟨vs,h1,h2.ext hx,fun i z hz=>?_⟩
 obtain ⟨B,c,a1,a2,a3⟩:=h3 i z hz
 exact ⟨B,c,a1,a2.ext hx,a3⟩
theorem MatV.grow {w w':World} {base:Nat} {e:TypeId} {A:Option Addr} {m:List (List Int)} (h:MatV w A m) (hg:Grow base e w w') (h0:94≠e) (h1:149≠e) (h2:271≠e):MatV w' A m:=by
 obtain ⟨vs,a1,a2,a3⟩:=h
 refine ⟨vs,a1,a2.grow hg h0,fun i z hz=>?_⟩
 obtain ⟨B,c,b1,b2,b3⟩:=a3 i z hz
 exact ⟨B,c,b1,b2.grow hg h1 h2,b3⟩
theorem MatV.at_ {w:World} {A:Option Addr} {m:List (List Int)} (h:MatV w A m) {i:Nat} {r:List Int} (hi:m[i]? =some r):
  ∃b o B c,A=some ⟨b,o,none⟩/\w.cell? ⟨b,o+i,none⟩=some (.slice B r.length c)/\IntsV w B r/\r.length<=c/\c<=9223372036854775807/\b<w.heap.size:=by
 obtain ⟨vs,a1,a2,a3⟩:=h
 obtain ⟨B,c,b1,b2,b3,b4⟩:=a3 i r hi
 obtain ⟨b,o,hA,hc,hb⟩:=a2.at_ b1
 exact ⟨b,o,B,c,hA,hc,b2,b3,b4,hb⟩
def Mat64 (w:World) (A:Option Addr) (m:List (List Int)):Prop:=
 ∃vs:List Value,vs.length=m.length/\Arr w A 35 vs/\∀(i:Nat) (r:List Int),m[i]? =some r->∃B c,vs[i]? =some (.slice B r.length c)/\Ints w B 2 .i64 r/\r.length<=c/\c<=9223372036854775807
theorem Mat64.ext {w w':World} {A:Option Addr} {m:List (List Int)} (h:Mat64 w A m) (hx:Ext w w'):Mat64 w' A m:=by
 obtain ⟨vs,h1,h2,h3⟩:=h
 refine ⟨vs,h1,h2.ext hx,fun i z hz=>?_⟩
 obtain ⟨B,c,a1,a2,a3⟩:=h3 i z hz
 exact ⟨B,c,a1,a2.ext hx,a3⟩
theorem Mat64.grow {w w':World} {base:Nat} {e:TypeId} {A:Option Addr} {m:List (List Int)} (h:Mat64 w A m) (hg:Grow base e w w') (h0:35≠e) (h1:2≠e):Mat64 w' A m:=by
 obtain ⟨vs,a1,a2,a3⟩:=h
 refine ⟨vs,a1,a2.grow hg h0,fun i z hz=>?_⟩
 obtain ⟨B,c,b1,b2,b3⟩:=a3 i z hz
 exact ⟨B,c,b1,b2.grow hg h1,b3⟩
theorem Mat64.at_ {w:World} {A:Option Addr} {m:List (List Int)} (h:Mat64 w A m) {i:Nat} {r:List Int} (hi:m[i]? =some r):
  ∃b o B c,A=some ⟨b,o,none⟩/\w.cell? ⟨b,o+i,none⟩=some (.slice B r.length c)/\Ints w B 2 .i64 r/\r.length<=c/\c<=9223372036854775807/\b<w.heap.size:=by
 obtain ⟨vs,a1,a2,a3⟩:=h
 obtain ⟨B,c,b1,b2,b3,b4⟩:=a3 i r hi
 obtain ⟨b,o,hA,hc,hb⟩:=a2.at_ b1
 exact ⟨b,o,B,c,hA,hc,b2,b3,b4,hb⟩
def IntsA (w:World) (A:Option Addr) (l:List Int):Prop:=∃te,Ints w A te .i64 l
theorem IntsA.ext {w w':World} {A:Option Addr} {l:List Int} (h:IntsA w A l) (hx:Ext w w'):IntsA w' A l:=by
 obtain ⟨te,h⟩:=h
 exact ⟨te,h.ext hx⟩
theorem IntsA.at_ {w:World} {A:Option Addr} {l:List Int} (h:IntsA w A l) {i:Nat} (hi:i<l.length):∃b o x,A=some ⟨b,o,none⟩/\l[i]? =some x/\w.cell? ⟨b,o+i,none⟩=some (.int .i64 x)/\b<w.heap.size:=by
 obtain ⟨te,h⟩:=h
 exact h.at_ hi
def MatA (w:World) (A:Option Addr) (m:List (List Int)):Prop:=
 ∃(te:TypeId) (vs:List Value),vs.length=m.length/\Arr w A te vs/\∀(i:Nat) (r:List Int),m[i]? =some r->∃B c,vs[i]? =some (.slice B r.length c)/\IntsA w B r/\r.length<=c/\c<=9223372036854775807
theorem Mat64.a {w:World} {A:Option Addr} {m:List (List Int)} (h:Mat64 w A m):MatA w A m:=by
 obtain ⟨vs,h1,h2,h3⟩:=h
 refine ⟨_,vs,h1,h2,fun i z hz=>?_⟩
 obtain ⟨B,c,a1,a2,a3⟩:=h3 i z hz
 exact ⟨B,c,a1,⟨_,a2⟩,a3⟩
theorem MatA.ext {w w':World} {A:Option Addr} {m:List (List Int)} (h:MatA w A m) (hx:Ext w w'):MatA w' A m:=by
 obtain ⟨te,vs,h1,h2,h3⟩:=h
 refine ⟨te,vs,h1,h2.ext hx,fun i z hz=>?_⟩
 obtain ⟨B,c,a1,a2,a3⟩:=h3 i z hz
 exact ⟨B,c,a1,a2.ext hx,a3⟩
theorem MatA.at_ {w:World} {A:Option Addr} {m:List (List Int)} (h:MatA w A m) {i:Nat} {r:List Int} (hi:m[i]? =some r):
  ∃b o B c,A=some ⟨b,o,none⟩/\w.cell? ⟨b,o+i,none⟩=some (.slice B r.length c)/\IntsA w B r/\r.length<=c/\c<=9223372036854775807/\b<w.heap.size:=by
 obtain ⟨te,vs,a1,a2,a3⟩:=h
 obtain ⟨B,c,b1,b2,b3,b4⟩:=a3 i r hi
 obtain ⟨b,o,hA,hc,hb⟩:=a2.at_ b1
 exact ⟨b,o,B,c,hA,hc,b2,b3,b4,hb⟩
def StV (w:World) (A:Option Addr) (s:List (List (List Int))):Prop:=
 ∃vs:List Value,vs.length=s.length/\Arr w A 79 vs/\∀(i:Nat) (m:List (List Int)),s[i]? =some m->∃B c,vs[i]? =some (.slice B m.length c)/\MatV w B m/\m.length<=c/\c<=9223372036854775807
theorem StV.ext {w w':World} {A:Option Addr} {s:List (List (List Int))} (h:StV w A s) (hx:Ext w w'):StV w' A s:=by
 obtain ⟨vs,h1,h2,h3⟩:=h
 refine ⟨vs,h1,h2.ext hx,fun i z hz=>?_⟩
 obtain ⟨B,c,a1,a2,a3⟩:=h3 i z hz
 exact ⟨B,c,a1,a2.ext hx,a3⟩
theorem StV.at_ {w:World} {A:Option Addr} {s:List (List (List Int))} (h:StV w A s) {i:Nat} {m:List (List Int)} (hi:s[i]? =some m):
  ∃b o B c,A=some ⟨b,o,none⟩/\w.cell? ⟨b,o+i,none⟩=some (.slice B m.length c)/\MatV w B m/\m.length<=c/\c<=9223372036854775807/\b<w.heap.size:=by
 obtain ⟨vs,a1,a2,a3⟩:=h
 obtain ⟨B,c,b1,b2,b3,b4⟩:=a3 i m hi
 obtain ⟨b,o,hA,hc,hb⟩:=a2.at_ b1
 exact ⟨b,o,B,c,hA,hc,b2,b3,b4,hb⟩
/-! ## Grow, step by step -/
section
variable {w w' w2:World} {base:Nat} {e:TypeId}
theorem Grow.trans (h:Grow base e w w') (h':Ext w' w2) (hb:base<=w.heap.size):Grow base e w w2:=
 ⟨h.below.trans (h'.below.mono (Nat.le_trans hb h.below.size)),fun k hk hne=>(h'.below.block k (Nat.lt_of_lt_of_le hk h.below.size)).trans (h.typed k hk hne)⟩
theorem Grow.alloc (h:Grow base e w w') (hb:base<=w.heap.size) (o:Obj):Grow base e w (w'.alloc o):=h.trans inferInstance hb
theorem Grow.setNew (h:Grow base e w w') {p:Addr} (hp:w.heap.size<=p.block) (hb:base<=w.heap.size) (u:Value):Grow base e w (w'.setCell p u):=
 ⟨h.below.setCell (Nat.le_trans hb hp) u,fun k hk hne=>(Below.heap_setCell w' p u k (by omega)).trans (h.typed k hk hne)⟩
theorem Grow.setOld (h:Grow base e w w') {g:Nat} {cs:Array Value} {fr:Nat×Nat} (hg:w.heap[g]? =some (.cells cs e fr)) (hb:base<=g) {p:Addr} (hp:p.block=g) (u:Value):Grow base e w (w'.setCell p u):=
 ⟨h.below.setCell (by omega) u,fun k hk hne=>(Below.heap_setCell w' p u k (fun hh=>by rw [hp] at hh;subst hh;exact hne _ _ hg)).trans (h.typed k hk hne)⟩
end
end Go.Proofs.YtpcgfpmiphiacaaGreat
