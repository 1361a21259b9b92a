import Derived.Laws.CopyOwn
import Derived.Test.YtgoaelchibpffaaGreatT26
set_option maxHeartbeats 8000000
set_option linter.unusedVariables false
set_option linter.unusedSimpArgs false
namespace Go.Proofs.YtgoaelchibpffaaGreat
open Go.RowKit La
open List (getElem?_append_left getElem?_append_right length_map getElem?_map)
variable {budget zd:Int} {P m:List (List Int)} {r tot:List Int} {cs tv:List Value} {B b c g i j k lo n q sc:Nat} {A SA:Option Addr} {T:TypeId} {v:Value} {w w' w0:World}
section
variable {P:Program}
theorem zqo(w:World)(dT sT ty elem:TypeId)(g dLen dCap size:Nat)(a:Addr)(sLen sCap:Nat)(cur:Array Value)(t:TypeId)(cs:List Value)
  (hu:P.underlying dT=some (.slice elem)) (hs:(P.info? elem).map (·.size)=some size)
  (hg:w.heap[g]? =some (.cells cur t (0,0))) (hn:cs.length=Nat.min sLen dLen*size)
  (zsA:∀j v,cs[j]? =some v->w.cell? (a.add j)=some v) (zsv:cs.length<=cur.size) (h1:∀v∈cs,v.oneCell'=true):
  (Builtin.copy_ #[dT,sT] ty #[.slice (some ⟨g,0,none⟩) dLen dCap,.slice (some a) sLen sCap]).run P w=
   .ok (goInt (Nat.min sLen dLen)) (w.setRow g (cur.toList.take 0++cs++cur.toList.drop (0+cs.length)).toArray):=by
 have hl:=run_loadCells_list (P:=P) w a cs zsA;have hst:=run_storeCells_at P g 0 t cs 0 cur w hg (by simpa using zsv) h1
 cases hq:P.info? elem with
 |none=>simp[hq]at hs
 |some i=>
  have hi:i.size=size:=by simpa[hq] using hs
  simp[Builtin.copy_,run_underlying hu,Builtin.lenOf,Builtin.firstCells,sizeOf,typeInfo,hq,hi,<-hn,hl,hst]
theorem zi8{o:Oper}{a:Act}{K:Act->World->Prop}{Q:Exit->Act->World->Prop}(d s:Operand)(dT sT:TypeId)
  (ho:o.op= .call {callee:= .builtin .copy,args:=#[d,s],argTypes:=#[dT,sT]}) (elem:TypeId) (size:Nat) (hu:P.underlying dT=some (.slice elem)) (hsz:(P.info? elem).map (·.size)=some size)
  (g dLen dCap:Nat) (ad:Addr) (sLen sCap:Nat) (hd:a.eval d= .slice (some ⟨g,0,none⟩) dLen dCap) (hs:a.eval s= .slice (some ad) sLen sCap)
  (cur:Array Value) (t:TypeId) (hg:w.heap[g]? =some (.cells cur t (0,0))) (cs:List Value) (hn:cs.length=Nat.min sLen dLen*size)
  (zsA:∀j v,cs[j]? =some v->w.cell? (ad.add j)=some v) (zsv:cs.length=cur.size) (h1:∀v∈cs,v.oneCell'=true)
  (h:∀w',VRow w' g t cs->Only g w w'->K (a.put o.dst (goInt (Nat.min sLen dLen))) w'):Oper.wp P o a w K Q:=by
 have zsV:=zqo (P:=P) w dT sT o.type elem g dLen dCap size ad sLen sCap cur t cs hu hsz hg hn zsA aa h1;have e:(cur.toList.take 0++cs++cur.toList.drop (0+cs.length)).toArray=cs.toArray:=by
  rw[List.drop_of_length_le (by simp;omega)];simp
 rw[e]at zsV;unfold Oper.wp;simp[execOp,ho,resolve,invoke,builtin,hd,hs,zsV,Result.andThen];refine h _ ?_ ⟨below_setRow (Below.refl _ _) Zr _,fun b hb _=>setRow_other w g b _ aa⟩;unfold VRow;simp[World.setRow,Array.getElem?_modify,hg]
theorem zqp{ops:Array Oper}{rest:List Oper}{o:Oper}{a:Act}{Q:Exit->Act->World->Prop}(hgd:o.guard=none)(d s:Operand)(dT sT:TypeId)
  (ho:o.op= .call {callee:= .builtin .copy,args:=#[d,s],argTypes:=#[dT,sT]}) (elem:TypeId) (size:Nat) (hu:P.underlying dT=some (.slice elem)) (hsz:(P.info? elem).map (·.size)=some size)
  (g dLen dCap:Nat) (ad:Addr) (sLen sCap:Nat) (hd:a.eval d= .slice (some ⟨g,0,none⟩) dLen dCap) (hs:a.eval s= .slice (some ad) sLen sCap)
  (cur:Array Value) (t:TypeId) (hg:w.heap[g]? =some (.cells cur t (0,0))) (cs:List Value) (hn:cs.length=Nat.min sLen dLen*size)
  (zsA:∀j v,cs[j]? =some v->w.cell? (ad.add j)=some v) (zsv:cs.length=cur.size) (h1:∀v∈cs,v.oneCell'=true)
  (h:∀w',VRow w' g t cs->Only g w w'->wpList P ops Q rest (a.put o.dst (goInt (Nat.min sLen dLen))) w'):wpList P ops Q (o::rest) a w:=
 wpList_plain hgd fun _ hK=>zi8 d s dT sT ho elem size hu hsz g dLen dCap ad sLen sCap hd hs cur t hg cs hn zsA zsv h1 fun w' h2 h3=>hK _ _ (h w' h2 h3)
theorem zqq{ops:Array Oper}{o:Oper}{a:Act}{K:Act->World->Prop}{Q:Exit->Act->World->Prop}{E:Prop}(hgd:o.guard=none)(d s:Operand)(dT sT:TypeId)
  (ho:o.op= .call {callee:= .builtin .copy,args:=#[d,s],argTypes:=#[dT,sT]}) (elem:TypeId) (size:Nat) (hu:P.underlying dT=some (.slice elem)) (hsz:(P.info? elem).map (·.size)=some size)
  (g dLen dCap:Nat) (ad:Addr) (sLen sCap:Nat) (hd:a.eval d= .slice (some ⟨g,0,none⟩) dLen dCap) (hs:a.eval s= .slice (some ad) sLen sCap)
  (cur:Array Value) (t:TypeId) (hg:w.heap[g]? =some (.cells cur t (0,0))) (cs:List Value) (hn:cs.length=Nat.min sLen dLen*size)
  (zsA:∀j v,cs[j]? =some v->w.cell? (ad.add j)=some v) (zsv:cs.length=cur.size) (h1:∀v∈cs,v.oneCell'=true)
  (h:∀w',VRow w' g t cs->Only g w w'->K (a.put o.dst (goInt (Nat.min sLen dLen))) w'):if Region.wanted o (yielded ops a.tmps)=true then Oper.wp P o a w K Q else E:=by
 have hw:Region.wanted o (yielded ops a.tmps)=true:=by simp[Region.wanted,hgd]
 rw[if_pos hw];exact zi8 d s dT sT ho elem size hu hsz g dLen dCap ad sLen sCap hd hs cur t hg cs hn zsA zsv h1 h
end
structure PartD(w:World)(lo g n:Nat)(hs:List (Nat×Nat))(a:List (List Int)):Prop where
 head:VRow w g 95 (hs.map (z8 n)++List.replicate (n-hs.length) (.slice none 0 0))
 glo:lo<=g
 le:hs.length<=n
 len:hs.length=a.length
 dist:∀(i j:Nat)(p q:Nat×Nat),hs[i]? =some p->hs[j]? =some q->i≠j->p.1≠q.1
 new:∀h∈hs,lo<=h.1/\n<=h.2/\h.2<=9223372036854775807
 all:AllLen a n
 row:∀(i:Nat)(h:Nat×Nat)(r:List Int),hs[i]? =some h->a[i]? =some r->RowI w h.1 r
theorem PartD.ext{hs:List (Nat×Nat)}{a:List (List Int)}(h:PartD w lo g n hs a)(hx:Ext w w'):PartD w' lo g n hs a:=
 ⟨zg hx h.head,h.glo,h.le,h.len,h.dist,h.new,h.all,fun i p r h1 h2=>(h.row i p r h1 h2).ext hx⟩
theorem PartD.own{hs:List (Nat×Nat)}{a:List (List Int)}(h:PartD w lo g n hs a)(hn:hs.length=n):OwnI w lo g n hs a:=by
 have hh:=h.head;rw[hn,Nat.sub_self]at hh;exact⟨by simpa using hh,h.glo,h.len,h.dist,h.new,h.all,h.row⟩
theorem PartD.put{w2 w3:World}{hs:List (Nat×Nat)}{a:List (List Int)}{cs0:Array Value}(h:PartD w lo g n hs a)(hk:hs.length<n)(hlo:lo<=w.heap.size)(hb:b=w.heap.size)(hw2:w2=(w.setCell ⟨g,hs.length,none⟩ (z8 n (b,n))).alloc (.cells cs0 102))(hn:n<=1000)
  (hv:VRow w3 b 102 cs) (ho:Only b w2 w3) (hl:cs.length=r.length*2) (hrl:r.length=n) (hvs:VsOf w cs r):PartD w3 lo g n (hs++[(b,n)]) (a++[r]):=by
 have hg1:=h.head;have ho1:Oth 95 w (w.setCell ⟨g,hs.length,none⟩ (z8 n (b,n))):=Oth.set (p:=⟨g,hs.length,none⟩) hg1 _;have hx2:Ext (w.setCell ⟨g,hs.length,none⟩ (z8 n (b,n))) w2:=by rw[hw2];exact Ext.alloc _ _ _
 have hb2:w2.heap[b]? =some (.cells cs0 102 (0,0)):=by
  rw[hw2,hb];have:=heap_alloc_new (w.setCell ⟨g,hs.length,none⟩ (z8 n (w.heap.size,n))) (.cells cs0 102);rwa [ZE]at this
 have ho3:Oth 102 w2 w3:=ho.othT hb2;have hg2:VRow w2 g 95 ((hs.map (z8 n)++List.replicate (n-hs.length) (Value.slice none 0 0)).set hs.length (z8 n (b,n))):=
  zg hx2 (hg1.set hs.length _)
 have e:(hs.map (z8 n)++List.replicate (n-hs.length) (Value.slice none 0 0)).set hs.length (z8 n (b,n))=(hs++[(b,n)]).map (z8 n)++List.replicate (n-(hs++[(b,n)]).length) (.slice none 0 0):=by
  obtain⟨t,ht⟩:∃t,n-hs.length=t+1:=⟨n-hs.length-1,aa⟩;have ht2:n-(hs++[(b,n)]).length=t:=by simp;omega
  rw[ht,ht2,List.set_append_right _ _ af];simp[List.replicate_succ]
 rw[e]at hg2;have zur:∀{s:Bool}{B:Option Addr}{k c:Nat}{z:Int},IntV w s B k c z->IntV w3 s B k c z:=fun hz=>((hz.oth ho1 ac).ext hx2).oth ho3 ac
 refine⟨ho3 _ _ _ _ ac hg2,h.glo,by simp;omega,by simp[h.len],fun i j p q h1 h2 hij=>?_,fun p hp=>?_,fun x hx=>?_,fun i p r' h1 h2=>?_⟩
 ·have key:∀i p,(hs++[(b,n)])[i]? =some p->(i<hs.length/\hs[i]? =some p/\p.1<w.heap.size)∨(i=hs.length/\p.1=w.heap.size):=fun i p hp=>by
   rcases Zl i hs.length with hi|hi
   ·rw[getElem?_append_left hi]at hp;obtain⟨r',hr'⟩:∃r',a[i]? =some r':=⟨_,Ze (by rw[<-h.len];exact hi)⟩;exact .inl ⟨hi,hp,(h.row i p r' hp hr').lt⟩
   ·rw[getElem?_append_right hi]at hp;have hi2:=(Zg.1 hp).1;simp at hi2;have:p=(b,n):=by have:=Zm hp;simpa using this
    exact .inr ⟨aa,by rw[this];exact hb⟩
  rcases key i p h1 with ⟨a1,a2,a3⟩|⟨a1,a2⟩<;>rcases key j q h2 with ⟨b1,b2,b3⟩|⟨b1,b2⟩
  ·exact h.dist i j p q a2 b2 hij
  ·omega
  ·omega
  ·omega
 ·rcases List.mem_append.1 hp with hp|hp
  ·exact h.new p hp
  ·rw[List.mem_singleton.1 hp];exact⟨by dsimp only;omega,Zr,by dsimp only;omega⟩
 ·rcases List.mem_append.1 hx with hx|hx
  ·exact h.all x hx
  ·rw[List.mem_singleton.1 hx];exact hrl
 ·rcases Zl i hs.length with hi|hi
  ·rw[getElem?_append_left hi]at h1;rw[getElem?_append_left (by rw[<-h.len];exact hi)]at h2;obtain⟨cs',c1,c2,c3⟩:=h.row i p r' h1 h2;have hlt:=c1.lt;exact⟨cs',(ho.at_ (by rw[hw2];simp[ZE];omega) aa).trans (zg hx2 (ho1 _ _ _ _ ac c1)),c2,c3.map zur⟩
  ·rw[getElem?_append_right hi]at h1;have hi2:=(Zg.1 h1).1;simp at hi2;have hp:p=(b,n):=by have:=Zm h1;simpa using this
   rw[getElem?_append_right (by rw[<-h.len];omega)]at h2;have hr:r'=r:=by have:=Zm h2;simpa using this
   subst hp;subst hr;exact⟨cs,hv,aa,hvs.map zur⟩
def Za(m:List (List Int)):Int:=(zm m m.length).1
structure DetA(m:List (List Int))(n k:Nat)(zd:Int)(a:List (List Int)):Prop where
 la:zd=(zm m k).1
 len:a.length=n
 en:∀i j,i+k<n->j+k<n->ent a (k+i) (k+j)=ent (zm m k).2 i j
theorem DetA.start(hn:m.length=n):DetA m n 0 1 m:=⟨rfl,hn,fun i j _ _=>by simp[zm]⟩
theorem DetA.next{a:List (List Int)}(h:DetA m n k zd a)(hn:m.length=n)(hk:k<n):DetA m n (k+1) (ent a k k) (Qu n k zd a):=by
 have e0:=h.en 0 0 aa aa;refine⟨?_,zr _ _ _,fun i j hi hj=>?_⟩
 ·simp only[Nat.add_zero]at e0;exact e0
 ·have e1:=h.en (i+1) (j+1) aa aa;have e2:=h.en (i+1) 0 aa aa;have e3:=h.en 0 (j+1) aa aa;simp only[Nat.add_zero]at e0 e2 e3;unfold Qu;rw[jp _ _ _ _ _ aa aa,if_pos aa];show _=ent (jh (zm m k).1 (zm m k).2) i j;unfold jh;have hl:=ZL m k;rw[jp _ _ _ _ _ aa aa,<-e0,<-h.la,<-e1,<-e2,<-e3];simp only[(aa:k+1+i=k+(i+1)),(aa:k+1+j=k+(j+1))]
theorem DetA.crossOK{a:List (List Int)}(h:DetA m n k zd a)(hE:ElimOK m)(hn:m.length=n)(hi:k<i)(hin:i<n)(hj:k<j)(hjn:j<n):
  (ent a k k).natAbs<18446744073709551616/\(ent a i k).natAbs<18446744073709551616/\(ent a k j).natAbs<18446744073709551616/\(ent a i j).natAbs<18446744073709551616/\(ent a k k*ent a i j).natAbs<18446744073709551616/\(ent a i k*ent a k j).natAbs<18446744073709551616/\(ent a k k*ent a i j-ent a i k*ent a k j).natAbs<18446744073709551616/\zd≠0/\zd.natAbs<18446744073709551616:=by
 have hc:=hE.cross k (i-k-1) (j-k-1) aa aa;unfold zbU at hc;have e0:=h.en 0 0 aa aa;have e1:=h.en (i-k) (j-k) aa aa;have e2:=h.en (i-k) 0 aa aa;have e3:=h.en 0 (j-k) aa aa;simp only[Nat.add_zero]at e0 e2 e3;rw[(aa:k+(i-k)=i)]at e1 e2;rw[(aa:k+(j-k)=j)]at e1 e3;rw[(aa:i-k-1+1=i-k),(aa:j-k-1+1=j-k),<-e0,<-e1,<-e2,<-e3,<-h.la]at hc
 exact hc
def zi9(w:World)(z:Int)(b:Bool)(e:Ending)(w':World):Prop:=∃g B n d,e= .returned (.tuple #[.agg #[.bool g,.slice B n d],.bool b])/\IntV w' g B n d z/\Step w w'
theorem zbA{W:World}{x y o:Nat}{u:Value}(h:c≠b):((W.setCell ⟨b,x,none⟩ u).setCell ⟨b,y,none⟩ v).cell? ⟨c,o,none⟩=W.cell? ⟨c,o,none⟩:=by
 rw[World.cell?_setCell_other _ _ _ _ (by intro e;injection e with e1 e2;omega),World.cell?_setCell_other _ _ _ _ (by intro e;injection e with e1 e2;omega)]
theorem zqr{x:Int}(h:x≠0):(zo x 0==0)=false:=by
 unfold zo;by_cases h1:x<0
 ·rw[if_pos h1];rfl
 ·rw[if_neg h1,if_neg h];rfl
theorem zja(b o j:Nat):(⟨b,o,none⟩:Addr).add j=⟨b,o+j,none⟩:=by
 unfold Addr.add;split
 ·simp_all
 ·rfl
theorem zqs(hl:cs.length=r.length*2)(h:VsOf w cs r):∀v∈cs,v.oneCell'=true:=fun v hv=>by
 obtain⟨j,hj⟩:=List.getElem?_of_mem hv;have hjl:=(Zg.1 hj).1;obtain⟨g,B,n,c,a1,a2,-⟩:=h (j / 2) r[j / 2] af;rcases Nat.mod_two_eq_zero_or_one j with hm|hm
 ·rw[(aa:j / 2*2=j),hj]at a1;injection a1 with a1;rw[a1];rfl
 ·rw[(aa:j / 2*2+1=j),hj]at a2;injection a2 with a2;rw[a2];rfl
theorem MatV.rowC(h:MatV w A m)(hn:AllLen m n)(h1:1<=n)(hi:i<m.length):∃b o b1 o1 c cs,A=some ⟨b,o,none⟩/\w.cell? ⟨b,o+i,none⟩=some (.slice (some ⟨b1,o1,none⟩) n c)/\cs.length=n*2/\(∀j v,cs[j]? =some v->w.cell? ((⟨b1,o1,none⟩:Addr).add j)=some v)/\VsOf w cs m[i]/\b<w.heap.size/\b1<w.heap.size/\m[i].length=n:=by
 have hr:m[i]? =some m[i]:=af
 have hl:m[i].length=n:=hn _ (List.getElem_mem hi);obtain⟨b,o,B,c,hA,hc,⟨vs,v1,v2,v3⟩,k1,k2,hb⟩:=h.at_ hr;obtain⟨b1,o1,cc,fr,rfl,q1,q2⟩:=v2 aa;refine⟨b,o,b1,o1,c,vs,hA,by rw[<-hl];exact hc,by rw[v1,hl],fun j v hv=>?_,v3,hb,zi q1,hl⟩;have e:(⟨b1,o1,none⟩:Addr).add j=⟨b1,o1+j,none⟩:=zja b1 o1 j;rw[e];have h3:=q2 j v hv;simp[World.cell?,q1,h3]
set_option maxRecDepth 20000 in
theorem zqt(h:MatV w0 A m)(h1:m.length=n)(h3:1<=n)(h4:n<=8)(hn:AllLen m n)(hE:ElimOK m)(hd:Za m≠0)(hdb:(Za m).natAbs<18446744073709551616)[hx:Ext w0 w]:
  Cq 187 #[.slice A n c] w (zz w (Za m)):=by
 have HML:=Zh h1;have HV:=Zh (h.ext hx);have HAL:=Zh hn;have HE:=Zh hE;have HD:=Zh hd;have HDB:=Zh hdb;clear h h1 hn hE hd hdb;have hmk:=ZH (P:=Tryz.prog) Tryz.underlying48 zad aa (n:Int) aa aa;have zs0:=ZH (P:=Tryz.prog) Tryz.underlying95 j3 aa (n:Int) aa aa;go_enter Tryz.func187,Tryz.ntmps187;go_wp2_with fail
 go_loopw [5,6,21] (fun _ _ s21 wr=>∃(i:Nat) (hs:List (Nat×Nat)),i<=n/\s21= .int .i64 i/\Hid (hs.length=i)/\Hid (PartD wr (w.heap.size+1) (w.heap.size+1) n hs (m.take i))/\Hid (wr.heap[w.heap.size]? =some (.cells #[.bool false,.slice none 0 0] 102 (0,0)))/\Ext w wr) (fun _ _ s21 _=>n-(intOf s21).toNat)
 case atStart=>
  refine⟨0,[],aa,rfl,Zh rfl,Zh ⟨?_,Zr,af,rfl,fun i j p q h=>by simp at h,fun h hh=>by simp at hh,fun x hx=>by simp at hx,fun i h r hh=>by simp at hh⟩,Zh BlkAt.eq,Zi⟩;have hb:(((w.alloc (.cells #[.bool false,.slice none 0 0] 102)).alloc (.cells (zH #[.slice none 0 0] n) 95)).heap[w.heap.size+1]?)=some (.cells (zH #[.slice none 0 0] n) 95 (0,0)):=BlkAt.eq;unfold VRow;rw[hb];have e:(zH #[Value.slice none 0 0] n)=(List.replicate n (Value.slice none 0 0)).toArray:=by rw[<-Qo]
  simp[e]
 case round=>
  obtain⟨i,hs,hin,rfl,HSL,HP,HR,hxr⟩:=hrel;obtain⟨wo,rfl⟩:∃wo:World,wo=wr:=⟨_,rfl⟩;by_cases hlt:i<n
  ·obtain⟨b,o,b1,o1,c1,cs,rfl,e0,e2,e3,e4,e5,e6,e7⟩:=HV.out.rowC HAL.out h3 (i:=i) (by rw[HML.out];exact hlt);have oB0:Old b w:=⟨e5⟩;have oB10:Old b1 w:=⟨e6⟩;have e1:wo.cell? ⟨b,o+i,none⟩=some (.slice (some ⟨b1,o1,none⟩) n c1):=(zk w).trans e0;have hbs:=hxr.size;clear e0;have HE2:=Zh e2;have HE3:=Zh e3;have HE4:=Zh e4;have HE7:=Zh e7;clear e2 e3 e4 e7;have hhd:=HP.out.head;have hx1:wo.cell? ⟨w.heap.size+1,i,none⟩=some (.slice none 0 0):=hhd.cell (by
    have e:=HSL.out;rw[getElem?_append_right (by simp;omega),length_map,List.getElem?_replicate,if_pos aa])
   have hf1:wo.frozen? ⟨w.heap.size+1,i,none⟩=false:=hhd.frozen _;have oG:Old (w.heap.size+1) wo:=⟨hhd.lt⟩;have oB:Old b wo:=⟨aa⟩;have oB1:Old b1 wo:=⟨aa⟩;have hgl:=hhd.lt;clear hhd;go_wp2_with (refine zqp rfl (.tmp 34) (.tmp 35) 95 95 rfl 102 2 Tryz.underlying95 ai wo.heap.size n n ⟨b1,o1,none⟩ n c1 (by simp[Act.eval]) (by simp[Act.eval]) (zH #[.bool false,.slice none 0 0] (n*2)) 102 ?_ cs ?_ ?_ ?_ ?_ ?_)
   ·have:=heap_alloc_new (wo.setCell ⟨w.heap.size+1,i,none⟩ (.slice (some ⟨wo.heap.size,0,none⟩) n n)) (.cells (zH #[.bool false,.slice none 0 0] (n*2)) 102);rwa [ZE]at this
   ·rw[HE2.out,show n.min n=n from Nat.min_self n]
   ·intro j v hv;have h1:=HE3.out j v hv;have e:(⟨b1,o1,none⟩:Addr).add j=⟨b1,o1+j,none⟩:=zja b1 o1 j;rw[e]at h1|-
    exact(zk w).trans h1
   ·have h1:=JP #[Value.bool false,.slice none 0 0] (n*2);rw[HE2.out];simpa using h1.symm
   ·exact zqs (r:=m[i]'(by rw[HML.out];exact hlt)) (by rw[HE2.out,HE7.out]) HE4.out
   ·intro w3 hv3 ho3;have hPD:=HP.out.put (r:=m[i]'(by rw[HML.out];exact hlt)) (b:=wo.heap.size) (by rw[HSL.out];exact hlt) (by have:=hxr.size;omega) rfl (by rw[HSL.out];rfl) aa hv3 ho3 (by rw[HE2.out,HE7.out]) HE7.out (HE4.out.map fun hz=>hz.ext hxr);have HPD:=Zh hPD;have HO3:=Zh ho3;clear hPD hv3 ho3 e1 hx1 hf1;go_wp2_with fail
    have hx3:Ext w w3:=⟨(Zi:Ext w ((wo.setCell ⟨w.heap.size+1,i,none⟩ (.slice (some ⟨wo.heap.size,0,none⟩) n n)).alloc (.cells (zH #[.bool false,.slice none 0 0] (n*2)) 102))).below.trans (HO3.out.below.mono aa)⟩;refine⟨⟨i+1,hs++[(wo.heap.size,n)],aa,by go_num,Zh (by simp[HSL.out]),Zh ?_,Zh ?_,hx3⟩,by simp[intOf]<;>omega⟩
    ·rw[List.take_add_one,Ze (by rw[HML.out];exact hlt)];exact HPD.out
    ·exact(HO3.out.at_ (b:=w.heap.size) (by simp[ZE];omega) aa).trans (zg (Zi:Ext (wo.setCell ⟨w.heap.size+1,i,none⟩ (.slice (some ⟨wo.heap.size,0,none⟩) n n)) ((wo.setCell ⟨w.heap.size+1,i,none⟩ (.slice (some ⟨wo.heap.size,0,none⟩) n n)).alloc (.cells (zH #[.bool false,.slice none 0 0] (n*2)) 102))) (ZD HR.out (p:=⟨w.heap.size+1,i,none⟩) af _))
  ·obtain rfl:n=i:=aa
   have hO:OwnI wo (w.heap.size+1) (w.heap.size+1) n hs m:=by
    have:=HP.out.own HSL.out;rwa [List.take_of_length_le (by rw[HML.out];exact Zr)]at this
   have zuq:=hO.old;have HO0:=Zh hO;have HST:Hid (DetA m n 0 1 m):=Zh (DetA.start HML.out);clear hmk zs0 HSL HP hO HV HAL hin hlt;go_upto_region 11 with (go_at_call 185;refine(zbN 1 aa aa _).mono ?_;rintro e w3 ⟨g3,B3,k3,d3,rfl,hz3,hs3⟩)
   have HZ3:=Zh hz3;have HLT:Hid (∀q∈hs,q.1<w3.heap.size):=Zh (fun q hq=>Nat.lt_of_lt_of_le (zuq q hq) (Zi:Ext wo w3).size);have hwg:w.heap.size+1<w3.heap.size:=Nat.lt_of_lt_of_le HO0.out.head.lt (Zi:Ext wo w3).size;clear hz3 zuq;go_wp2_with fail
   go_loopw [7,9,10,11,12,13,14,40] (fun s7 _ _ _ _ _ _ s40 wr=>∃(k:Nat) (zd:Int) (a:List (List Int)),k<=n/\s40= .int .i64 k/\s7= .bool false/\Hid (DetA m n k zd a)/\Hid (OwnI wr (w.heap.size+1) (w.heap.size+1) n hs a)/\Hid (Box wr w3.heap.size zd)/\Hid (wr.heap[w.heap.size]? =some (.cells #[.bool false,.slice none 0 0] 102 (0,0)))/\Ext w wr) (fun _ _ _ _ _ _ _ s40 _=>n-(intOf s40).toNat)
   case atStart=>
    exact⟨0,1,m,aa,rfl,rfl,HST,Zh (HO0.out.ext Zi),Zh ⟨g3,B3,k3,d3,BlkAt.eq,HZ3.out.keeps⟩,Zh (zg (Zi:Ext wo _) HR.out),hxr.trans Zi⟩
   case round=>
    obtain⟨k,zd,a,hk,rfl,rfl,HA,HO,HB,HR,hxr⟩:=hrel;obtain⟨wp,rfl⟩:∃wp:World,wp=wr:=⟨_,rfl⟩;by_cases hlt:k<n
    ·have hl1:a.length=n:=HA.out.len;obtain⟨bk,ck,hqk,k1,k2,k3',k4,k5,k6⟩:=HO.out.hdr (i:=k) (by rw[hl1];exact hlt);obtain⟨s1,B1,n1,c1',x1,x2,hz1,-,-⟩:=HO.out.entry (i:=k) (j:=k) hqk (by rw[hl1];exact hlt) hlt;have hpv:ent a k k≠0:=by
      have e0:=HA.out.en 0 0 aa aa;simp only[Nat.add_zero]at e0;rw[e0];rcases Zl (k+1) n with h|h
      ·exact HE.out.pivot k (by rw[HML.out];exact h)
      ·have hd:=HD.out;unfold Za at hd;rw[HML.out,(aa:n=k+1)]at hd;exact hd
     have HPV:=Zh hpv;have hsg:=zqr hpv;have hkn:((k:Int)==(n:Int))=false:=by simp;omega
     have HSG:=Zh (fun W(hh:Ext wp W)=>zfn (w:=W) hz1);generalize zo (ent a k k) 0=cz at*
     have HZ1:=Zh hz1;have HQK:=Zh hqk;have oG:Old (w.heap.size+1) wp:=⟨HO.out.head.lt⟩;have oK:Old bk wp:=⟨k5⟩;clear hz1 hqk hpv hl1;go_wp2_with fail
     go_loopw [10] (fun s10 wr=>s10= .int .i64 k/\wp=wr) (fun _ _=>0)
     case atStart=>exact⟨rfl,rfl⟩
     case round=>
      obtain⟨rfl,rfl⟩:=hrel;go_upto_region 24 with (go_at_call 247;refine(HSG.out _ Zi).mono ?_;rintro e w6 ⟨rfl,hs6⟩)
      have HEL:=Zh (zho (zd:=zd) HA.out.len HO.out.all (k:=k));have hwl:w3.heap.size<w6.heap.size:=Nat.lt_of_lt_of_le HB.out.lt (Zi:Ext wp w6).size;have hqL:=HLT.out;clear k1 k2 x1 x2 hsg HSG hqL;go_loopw [12,13,14] (fun s12 _ _ wr=>∃i:Nat,k+1<=i/\i<=n/\s12= .int .i64 i/\Hid (OwnI wr (w.heap.size+1) (w.heap.size+1) n hs (tab (Z3 k zd a i (k+1)) n n))/\Hid (Box wr w3.heap.size zd)/\Hid (Box wr w6.heap.size (ent a k k))/\Hid (wr.heap[w.heap.size]? =some (.cells #[.bool false,.slice none 0 0] 102 (0,0)))/\Ext w wr) (fun s12 _ _ _=>n-(intOf s12).toNat)
      case atStart=>exact⟨k+1,aa,aa,by go_num,Zh (by rw[HEL.out];exact HO.out.ext Zi),Zh (HB.out.ext Zi),Zh ⟨s1,B1,n1,c1',BlkAt.eq,HZ1.out.keeps⟩,Zh (zg (Zi:Ext wp _) HR.out),hxr.trans Zi⟩
      case round=>
       obtain⟨i,hki,hin,rfl,HO3,HB3,HK3,HR3,hx3⟩:=hrel;obtain⟨wi,rfl⟩:∃wi:World,wi=wr:=⟨_,rfl⟩;by_cases hil:i<n
       ·go_wp2_with fail
        go_loopw [13,14] (fun s13 _ wr=>∃j:Nat,k+1<=j/\j<=n/\s13= .int .i64 j/\Hid (OwnI wr (w.heap.size+1) (w.heap.size+1) n hs (tab (Z3 k zd a i j) n n))/\Hid (Box wr w3.heap.size zd)/\Hid (Box wr w6.heap.size (ent a k k))/\Hid (wr.heap[w.heap.size]? =some (.cells #[.bool false,.slice none 0 0] 102 (0,0)))/\Ext w wr) (fun s13 _ _=>n-(intOf s13).toNat)
        case atStart=>exact⟨k+1,aa,aa,by go_num,HO3,HB3,HK3,HR3,hx3⟩
        case round=>
         obtain⟨j,hkj,hjn,rfl,HO4,HB4,HK4,HR4,hx4⟩:=hrel;obtain⟨wj,rfl⟩:∃wj:World,wj=wr:=⟨_,rfl⟩;by_cases hjl:j<n
         ·have hML:(tab (Z3 k zd a i j) n n).length=n:=zr _ _ _;obtain⟨bk,ck,hqk,k1,k2,k3',k4,k5,k6⟩:=HO4.out.hdr (i:=k) (by rw[hML];exact hlt);obtain⟨bi,ci,hqi,i1,i2,i3,i4,i5,i6⟩:=HO4.out.hdr (i:=i) (by rw[hML];exact hil);obtain⟨s2,B2,n2,c2',y1,y2,hz2,y3,y4⟩:=HO4.out.entry (i:=i) (j:=j) hqi (by rw[hML];exact hil) hjl;obtain⟨s3,B3',n3,c3',z1,z2,hz3,-,-⟩:=HO4.out.entry (i:=i) (j:=k) hqi (by rw[hML];exact hil) hlt
          obtain⟨s4,B4',n4,c4',t1,t2,hz4,-,-⟩:=HO4.out.entry (i:=k) (j:=j) hqk (by rw[hML];exact hlt) hjl;rw[JZ hil hjl aa]at hz2;rw[JZ hil hlt aa]at hz3;rw[JZ hlt hjl aa]at hz4;obtain⟨g5,B5,n5,c5,hbl,p1,p2,p3,p4,p5,hz5⟩:=HB4.out.cells;obtain⟨g6,B6,n6,c6,hbp,q1,q2,q3,q4,q5,hz6⟩:=HK4.out.cells;obtain⟨u1,u2,u3,u4,u5,u6,u7,u8,u9⟩:=HA.out.crossOK HE.out HML.out ((aa:k<i)) hil ((aa:k<j)) hjl
          have l2:=hz2.len2 u4;have l3:=hz3.len2 u2;have l4:=hz4.len2 u3;have l6:=hz6.len2 u1;have HM1:=Zh (fun W(hh:Ext wj W)=>zbQ (w:=W) hz6 hz2 aa aa);have HM2:=Zh (fun W(hh:Ext wj W)=>zbQ (w:=W) hz3 hz4 aa aa);have HEV:Hid (zI (tab (Z3 k zd a i j) n n) i j ((ent a k k*ent a i j-ent a i k*ent a k j) / zd)=tab (Z3 k zd a i (j+1)) n n):=Zh (zhp hil hjl aa aa)
          have HBD:=Zh (And.intro u5 (And.intro u6 (And.intro u7 (And.intro u8 u9))));generalize ent a k k*ent a i j=P1 at*
          generalize ent a i k*ent a k j=P2 at*
          have HSU:Hid (∀(W1 W2 W:World)(ga:Bool)Ba na ca(gb:Bool)Bb nb cb,IntV W1 ga Ba na ca P1->IntV W2 gb Bb nb cb P2->Ext W1 W->Ext W2 W->Cq 248 #[.agg #[.bool ga,.slice Ba na ca],.agg #[.bool gb,.slice Bb nb cb]] W (zz W (P1-P2))):=Zh (fun W1 W2 W ga Ba na ca gb Bb nb cb ha hb e1 e2=>zfm ha hb (by have:=ha.len2 HBD.out.1;omega) (by have:=hb.len2 HBD.out.2.1;omega));have HQU:Hid (∀(W1 W:World)(ga:Bool)Ba na ca,IntV W1 ga Ba na ca (P1-P2)->Ext W1 W->Ext wj W->Cq 250 #[.agg #[.bool ga,.slice Ba na ca],.agg #[.bool g5,.slice B5 n5 c5]] W (zbS W ((P1-P2) / zd) ((P1-P2)%zd) true)):=Zh (fun W1 W ga Ba na ca ha e1 e2=>zfw ha hz5 HBD.out.2.2.1 HBD.out.2.2.2.1 HBD.out.2.2.2.2)
          have HQI:=Zh hqi;have hlo:=HO4.out.new _ (Zm hqi);have zuY:=HLT.out _ (Zm hqi);obtain⟨csi,zt2⟩:=HO4.out.row i _ _ hqi (Ze (by rw[hML];exact hil)) |>.heap
          have HCS:=Zh zt2;have oG:Old (w.heap.size+1) wj:=⟨HO4.out.head.lt⟩;have oK:Old bk wj:=⟨k5⟩;have oI:Old bi wj:=⟨i5⟩;have oP:Old w6.heap.size wj:=⟨q5⟩;have oL:Old w3.heap.size wj:=⟨p5⟩;have HS:=Zh (show wj.cell? ⟨w.heap.size+1,k,none⟩=some (.slice (some ⟨bk,0,none⟩) n ck)/\wj.cell? ⟨w.heap.size+1,i,none⟩=some (.slice (some ⟨bi,0,none⟩) n ci)/\wj.cell? ⟨bi,j*2,none⟩=some (.bool s2)/\wj.cell? ⟨bi,j*2+1,none⟩=some (.slice B2 n2 c2')/\wj.cell? ⟨bi,k*2,none⟩=some (.bool s3)/\wj.cell? ⟨bi,k*2+1,none⟩=some (.slice B3' n3 c3')/\wj.cell? ⟨bk,j*2,none⟩=some (.bool s4)/\wj.cell? ⟨bk,j*2+1,none⟩=some (.slice B4' n4 c4')/\wj.cell? ⟨w6.heap.size,0,none⟩=some (.bool g6)/\wj.cell? ⟨w6.heap.size,1,none⟩=some (.slice B6 n6 c6) from ⟨k1,i1,y1,y2,z1,z2,t1,t2,q1,q2⟩)
          have HS2:=Zh (And.intro p1 (And.intro p2 (And.intro y3 y4)));clear k1 i1 y1 y2 z1 z2 t1 t2 q1 q2 hz2 hz3 hz4 hz5 hz6 u1 u2 u3 u4 u5 u6 u7 u8 u9 l2 l3 l4 l6 hqk hqi hbl hbp zt2 k2 i2 p1 p2 p3 p4 q3 q4 y3 y4 hML;go_wp2_with fail
          go_cut [14] (fun s14 wx=>∃p:Nat,s14= .pointer (some ⟨p,0,none⟩)/\Hid (wj.heap.size<=p)/\Hid (Box wx p (P1-P2))/\Ext wj wx)
          case first=>
           go_region_held3 (fun w'=>w'.cell? ⟨w.heap.size+1,k,none⟩=some (.slice (some ⟨bk,0,none⟩) n ck)/\w'.cell? ⟨w.heap.size+1,i,none⟩=some (.slice (some ⟨bi,0,none⟩) n ci)/\w'.cell? ⟨bi,j*2,none⟩=some (.bool s2)/\w'.cell? ⟨bi,j*2+1,none⟩=some (.slice B2 n2 c2')/\w'.cell? ⟨bi,k*2,none⟩=some (.bool s3)/\w'.cell? ⟨bi,k*2+1,none⟩=some (.slice B3' n3 c3')/\w'.cell? ⟨bk,j*2,none⟩=some (.bool s4)/\w'.cell? ⟨bk,j*2+1,none⟩=some (.slice B4' n4 c4')/\w'.cell? ⟨w6.heap.size,0,none⟩=some (.bool g6)/\w'.cell? ⟨w6.heap.size,1,none⟩=some (.slice B6 n6 c6))
            ((simp only[zk wj];exact HS.out))
            (first
             |(go_at_call_of 249 (Value.agg #[.bool g6,.slice B6 n6 c6]);refine(HM1.out _ Zi).mono ?_;rintro e wa ⟨ga,Ba,na,ca,rfl,hza,hsa⟩)
             |(go_at_call_of 249 (Value.agg #[.bool s3,.slice B3' n3 c3']);refine(HM2.out _ Zi).mono ?_;rintro e wb ⟨gb,Bb,nb,cb,rfl,hzb,hsb⟩)
             |(go_at_call 248;refine(HSU.out _ _ _ _ _ _ _ _ _ _ _ hza hzb Zi Zi).mono ?_;rintro e wd ⟨gd,Bd',nd,cd,rfl,hzd,hsd⟩))
           all_goals (go_wp2_with fail;go_meet;exact⟨_,rfl,Zh (Ext.size Zi),Zh ⟨gd,Bd',nd,cd,BlkAt.eq,hzd.keeps⟩,Zi⟩)
          case rest=>
           obtain⟨p,rfl,HPJ,HBX,hxc⟩:=hcut;obtain⟨gd,Bd',nd,cd,-,r1,r2,-,-,r5,hzd⟩:=HBX.out.cells;have oP:Old p wc:=⟨r5⟩;obtain⟨-,b1,b2,b3,-⟩:=HS.out;have hk1:wc.cell? ⟨w.heap.size+1,i,none⟩=some (.slice (some ⟨bi,0,none⟩) n ci):=(zk wj).trans b1;have hk2:wc.cell? ⟨bi,j*2,none⟩=some (.bool s2):=(zk wj).trans b2;have hk3:wc.cell? ⟨bi,j*2+1,none⟩=some (.slice B2 n2 c2'):=(zk wj).trans b3;have hk4:wc.cell? ⟨w3.heap.size,0,none⟩=some (.bool g5):=(zk wj).trans HS2.out.1
           have hk5:wc.cell? ⟨w3.heap.size,1,none⟩=some (.slice B5 n5 c5):=(zk wj).trans HS2.out.2.1;have hk6:wc.frozen? ⟨bi,j*2,none⟩=false:=(ZY wj).trans HS2.out.2.2.1;have hk7:wc.frozen? ⟨bi,j*2+1,none⟩=false:=(ZY wj).trans HS2.out.2.2.2;have oG:Old (w.heap.size+1) wc:=⟨Nat.lt_of_lt_of_le HO4.out.head.lt hxc.size⟩;have oI:Old bi wc:=⟨Nat.lt_of_lt_of_le i5 hxc.size⟩;have oL:Old w3.heap.size wc:=⟨Nat.lt_of_lt_of_le p5 hxc.size⟩
           have hgi:w.heap.size+1≠bi:=HO4.out.gne HQI.out (by rw[zr];exact hil);have hpi:p≠bi:=by have:=HPJ.out;omega
           have hli:w3.heap.size≠bi:=aa
           have HSC:=Zh (show wc.cell? ⟨w.heap.size+1,i,none⟩=some (.slice (some ⟨bi,0,none⟩) n ci)/\wc.cell? ⟨p,0,none⟩=some (.bool gd)/\wc.cell? ⟨p,1,none⟩=some (.slice Bd' nd cd)/\wc.cell? ⟨w3.heap.size,0,none⟩=some (.bool g5)/\wc.cell? ⟨w3.heap.size,1,none⟩=some (.slice B5 n5 c5) from ⟨hk1,r1,r2,hk4,hk5⟩);have HLF:Hid (∀W,Ext wc W->∀(u v:Value),((W.setCell ⟨bi,j*2,none⟩ u).setCell ⟨bi,j*2+1,none⟩ v).cell? ⟨w.heap.size+1,i,none⟩=some (.slice (some ⟨bi,0,none⟩) n ci)/\((W.setCell ⟨bi,j*2,none⟩ u).setCell ⟨bi,j*2+1,none⟩ v).cell? ⟨p,0,none⟩=some (.bool gd)/\((W.setCell ⟨bi,j*2,none⟩ u).setCell ⟨bi,j*2+1,none⟩ v).cell? ⟨p,1,none⟩=some (.slice Bd' nd cd)/\((W.setCell ⟨bi,j*2,none⟩ u).setCell ⟨bi,j*2+1,none⟩ v).cell? ⟨w3.heap.size,0,none⟩=some (.bool g5)/\((W.setCell ⟨bi,j*2,none⟩ u).setCell ⟨bi,j*2+1,none⟩ v).cell? ⟨w3.heap.size,1,none⟩=some (.slice B5 n5 c5)):=Zh (fun W hh u v=>by
            obtain⟨h1,h2,h3,h4,h5⟩:=HSC.out;exact⟨(zbA aa).trans ((zk wc).trans h1),(zbA aa).trans ((zk wc).trans h2),(zbA aa).trans ((zk wc).trans h3),(zbA aa).trans ((zk wc).trans h4),(zbA aa).trans ((zk wc).trans h5)⟩)
           have HZD:=Zh hzd;clear hk1 hk4 hk5 r1 r2 b1 b2 b3 hzd;go_wp2_with fail
           go_region_held3 (fun w'=>w'.cell? ⟨w.heap.size+1,i,none⟩=some (.slice (some ⟨bi,0,none⟩) n ci)/\w'.cell? ⟨p,0,none⟩=some (.bool gd)/\w'.cell? ⟨p,1,none⟩=some (.slice Bd' nd cd)/\w'.cell? ⟨w3.heap.size,0,none⟩=some (.bool g5)/\w'.cell? ⟨w3.heap.size,1,none⟩=some (.slice B5 n5 c5))
            (first|exact HLF.out _ Zi _ _|(simp only[zk wc];exact HSC.out))
            ((go_at_call 250;refine(HQU.out _ _ _ _ _ _ HZD.out Zi (hxc.trans Zi)).mono ?_;rintro e w8 ⟨g8,B8,n8,c8,g9,B9,n9,c9,rfl,hz8,hz9,hs8⟩))
           have hx8:Ext wj w8:=hxc.trans Zi;have hO6:=(HO4.out.ext hx8).set HQI.out (by rw[zr];exact hil) hjl hz8;rw[HEV.out]at hO6;have HO6:=Zh hO6;clear hO6 hk2 hk3 hk6 hk7 HLF HSC HZD;go_wp2_with fail
           exact⟨⟨j+1,aa,aa,by go_num,HO6,Zh ((HB4.out.ext hx8).far (zg hx8 HCS.out) aa _ _ _ _),Zh ((HK4.out.ext hx8).far (zg hx8 HCS.out) aa _ _ _ _),Zh (ZD (ZD (zg hx8 HR4.out) (p:=⟨bi,j*2,none⟩) (by simp;omega) _) (p:=⟨bi,j*2+1,none⟩) (by simp;omega) _),((hx4.trans hx8).setCell (p:=⟨bi,j*2,none⟩) (by simp;omega) _).setCell (p:=⟨bi,j*2+1,none⟩) (by simp;omega) _⟩,by simp[intOf]<;>omega⟩
         ·obtain rfl:n=j:=aa
          go_wp2_with fail
          exact⟨⟨i+1,aa,aa,by go_num,Zh (by rw[<-zhq];exact HO4.out),HB4,HK4,HR4,hx4⟩,by simp[intOf]<;>omega⟩
       ·obtain rfl:n=i:=aa
        have hO5:=HO3.out;rw[zhr]at hO5;have HO5:=Zh hO5;obtain⟨g5,B5,n5,c5,hbk,p1,p2,p3,p4,p5,hz5⟩:=HK3.out.cells;obtain⟨g6,B6,n6,c6,hbl,q1,q2,q3,q4,q5,-⟩:=HB3.out.cells;have HZ5:=Zh hz5;have HBL:=Zh hbl;have hN:=HA.out.next HML.out hlt;have HN:=Zh hN;have oP:Old w6.heap.size wi:=⟨p5⟩;have oL:Old w3.heap.size wi:=⟨q5⟩;clear hO5 hbk hbl hz5 hN;go_wp2_with fail
        refine⟨⟨k+1,ent a k k,Qu n k zd a,aa,by go_num,rfl,HN,Zh (HO5.out.far HBL.out (fun q hq=>by have:=HLT.out q hq;omega) _ _ _ _),Zh (Box.put HBL.out HZ5.out),Zh (ZD (ZD HR3.out (p:=⟨w3.heap.size,0,none⟩) (by simp;omega) _) (p:=⟨w3.heap.size,1,none⟩) (by simp;omega) _),(hx3.setCell (p:=⟨w3.heap.size,0,none⟩) (by simp;omega) _).setCell (p:=⟨w3.heap.size,1,none⟩) (by simp;omega) _⟩,by simp[intOf]<;>omega⟩
    ·obtain rfl:n=k:=aa
     obtain⟨g0,B0,n0,c0,hbk,p1,p2,p3,p4,p5,hz0⟩:=HB.out.cells;obtain⟨t1,t2,t3,t4,t5⟩:=zN HR.out;have oR:Old w.heap.size wp:=⟨t5⟩;have oL:Old w3.heap.size wp:=⟨p5⟩;have HT:=Zh (And.intro t1 (And.intro t2 (And.intro t3 t4)));have HFI:Hid (Za m=zd):=Zh (by unfold Za;rw[HML.out];exact HA.out.la.symm);have hdb:=HDB.out;rw[HFI.out]at hdb;have l0:=hz0.len2 hdb;have HNM:=Zh (fun W(hh:Ext wp W)=>zfB (w:=W) hz0 aa)
     clear hbk hz0 l0 hdb;go_wp2_with (go_at_call 252;refine(HNM.out _ Zi).mono ?_;rintro e w7 ⟨g7,B7,n7,c7,rfl,hz7,hs7⟩;have r3:w7.cell? ⟨w.heap.size,0,none⟩=some (.bool false):=(zk wp).trans HT.out.1;have r4:w7.cell? ⟨w.heap.size,1,none⟩=some (.slice none 0 0):=(zk wp).trans HT.out.2.1;have r5:w7.frozen? ⟨w.heap.size,0,none⟩=false:=(ZY wp).trans HT.out.2.2.1;have r6:w7.frozen? ⟨w.heap.size,1,none⟩=false:=(ZY wp).trans HT.out.2.2.2;have tq:Typed w.heap.size 102 w7:=⟨_,_,zg (Zi:Ext wp w7) HR.out⟩)
     exact bodyPost_ret (v:= .agg #[.bool g7,.slice B7 n7 c7]) (by simp[results,Tryz.results187,go_sem,r3,r4]) rfl ⟨_,_,_,_,rfl,by rw[HFI.out];exact hz7.keeps,Step.of _ _⟩
theorem zqu(h:MatV w0 A m)(h1:m.length=n)(h3:1<=n)(h4:n<=8)(hn:AllLen m n)(hE:ElimOK m)(hd:Za m≠0)(hdb:(Za m).natAbs<18446744073709551616)[hx:Ext w0 w]:
  Cq 130 #[.slice A n c] w (zi9 w (Za m) true):=by
 have HS:=Zh (fun W(e:Ext w0 W)=>zdi (w:=W) (c:=c) h n aa aa aa aa hn);have HD:=Zh (fun W(e:Ext w0 W)=>zqt (w:=W) (c:=c) h h1 h3 h4 hn hE hd hdb);rw[h1]at HS;generalize Za m=D at*
 clear h hn hE hd hdb h1;go_enter Tryz.func130,Tryz.ntmps130;go_wp2_with (first
  |(go_at_call 186;refine(HS.out _ Zi).mono ?_;rintro e w1 ⟨rfl,rfl⟩)
  |(go_at_call 187;refine(HD.out _ Zi).mono ?_;rintro e w2 ⟨g2,B2,n2,d2,rfl,hz2,hs2⟩))
 refine bodyPost_ret (v:= .tuple #[.agg #[.bool g2,.slice B2 n2 d2],.bool true]) (by simp[results,Tryz.results130,go_sem]) rfl ⟨_,_,_,_,rfl,hz2.keeps,Step.of _ _⟩
def qZ(n:Nat)(t:List (List Int)):List (List Int):=(List.range n).map fun i=>t.map fun x=>x.getD i 0
theorem zbB(n:Nat)(t:List (List Int)):(qZ n t).length=n:=by simp[qZ]
theorem zqv(t:List (List Int))(hi:i<n):(qZ n t)[i]? =some (t.map fun x=>x.getD i 0):=by simp[qZ,hi]
structure IsoI(w:World)(g n:Nat)(hd:List Value)(rw:List (List Int)):Prop where
 head:VRow w g 34 (hd++List.replicate (n-hd.length) (.slice none 0 0))
 len:hd.length=rw.length
 row:∀(i:Nat)(r:List Int),rw[i]? =some r->∃B c,hd[i]? =some (.slice B r.length c)/\Ints w B 2 .i64 r/\r.length<=c/\c<=9223372036854775807
def zeS(w:World)(n:Nat)(t:List (List Int))(e:Ending)(w':World):Prop:=∃T,e= .returned (.slice T n n)/\Mat64 w' T (qZ n t)/\Step w w'
set_option maxRecDepth 20000 in
theorem zqw{c:SeaC}{a:List (List Int)}{st:List Nat}{zc:List (List Int)}(hM:SeaM c B w a P tot tv SA sc st zc)(hk:st.length=c.n)(hn:c.n<=1000)(zsr:∀y∈P,y.length=c.n):
  Cq 85 #[.pointer (some ⟨c.sb,0,none⟩)] w (zeS w c.n (zu P st)):=by
 obtain⟨sb,n,N,bA,bc,PA,pc,DA,dc,NA,nc,CV,cb,hs,TA,tc,ob,cd⟩:=c;dsimp only at hk hn zsr;have s0:w.cell? ⟨sb,0,none⟩=some (.slice bA n bc):=hM.cell 0;have s1:w.cell? ⟨sb,1,none⟩=some (.slice PA N pc):=hM.cell 1;have s5:w.cell? ⟨sb,5,none⟩=some (.slice SA n sc):=by have:=hM.cell 5;rw[hk]at this;exact this
 have oS:Old sb w:=⟨zi hM.blk⟩;have HPT:Mat64 w PA P:=hM.pts;have HST:Arr w SA 3 (st.map fun i=>Value.int .i64 (i:Nat)):=hM.own.arr;have hmk:=ZH (P:=Tryz.prog) Tryz.underlying25 qe aa (n:Int) aa aa;have zry:=Zh hM.stl;have HPL:Hid (P.length=N):=Zh hM.plen;have zrl:=Zh zsr;have HKK:=Zh hk;have HP:=Zh HPT;have HS:=Zh HST;have HI0:Hid (IsoI (w.alloc (.cells (zH #[.slice none 0 0] n) 34)) w.heap.size n [] ((qZ n (zu P st)).take 0)):=Zh ⟨by
  have:=VRow.new w 34 (zH #[.slice none 0 0] n);rw[Qo]at this;simpa[Qo] using this,rfl,fun i r hr=>by simp at hr⟩
 have hcl:∀(j t:Nat),st[j]? =some t->∃y,P[t]? =some y/\(zu P st)[j]? =some y:=fun j t ht=>by
  have htN:t<P.length:=by have h1:=zry.out t (Zm ht);have h2:=HPL.out;dsimp only at h1;omega
  exact⟨P[t],Ze htN,by simp[zu,ht,htN]⟩
 have HCL:=Zh hcl;clear hM hk zsr HPT HST hcl;go_enter Tryz.func85,Tryz.ntmps85;go_wp2_with fail
 obtain⟨g,hg⟩:=Yz w.heap.size;have hgw:w.heap.size<=g:=aa
 rw[hg]at HI0;rw[hg];clear hg hmk s0;go_loopw [4,6,15,18,19,20,21,22,23] (fun _ _ i _ _ _ _ _ _ wr=>∃(k:Nat) (hd:List Value),k<=n/\i= .int .i64 k/\Hid (IsoI wr g n hd ((qZ n (zu P st)).take k))/\Ext w wr) (fun _ _ i _ _ _ _ _ _ _=>n-(intOf i).toNat)
 case atStart=>exact⟨0,[],aa,rfl,HI0,Zi⟩
 case round=>
  obtain⟨k,hd,hk,rfl,HI,hxr⟩:=hrel;obtain⟨wo,rfl⟩:∃wo:World,wo=wr:=⟨_,rfl⟩;have hhl:hd.length=k:=by
   have:=HI.out.len;rw[List.length_take,zbB,Nat.min_eq_left hk]at this;exact this
  by_cases hlt:k<n
  ·have oSr:Old sb wo:=⟨Nat.lt_of_lt_of_le oS.lt hxr.size⟩;have r5:wo.cell? ⟨sb,5,none⟩=some (.slice SA n sc):=(zk w).trans s5;have zv5:hd++List.replicate (n-hd.length) (Value.slice none 0 0)=hd++ .slice none 0 0::List.replicate (n-k-1) (.slice none 0 0):=by
    rw[hhl,(aa:n-k=(n-k-1)+1),List.replicate_succ];rfl
   have hV0:=HI.out.head;rw[zv5]at hV0;have HV0:=Zh hV0;have HHL:=Zh hhl;have HO0:Hid (Own wo wo.heap.size 2 1 none 0 0 (((zu P st).take 0).map fun x=> .int .i64 (x.getD k 0))):=Zh (Own.nil wo wo.heap.size 2 1);clear zv5 hV0 hhl;go_wp2_with fail
   go_loopw [6,23] (fun _ i wr=>∃(j d:Nat) (A:Option Addr),j<=n/\i= .int .i64 j/\Hid (VRow wr g 34 (hd++ .slice A j d::List.replicate (n-k-1) (.slice none 0 0)))/\Hid (Own wr wo.heap.size 2 1 A j d (((zu P st).take j).map fun x=> .int .i64 (x.getD k 0)))/\Hid (wo.heap.size<=wr.heap.size/\∀b,b<wo.heap.size->b≠g->wr.heap[b]? =wo.heap[b]?)/\Ext w wr) (fun _ i _=>n-(intOf i).toNat)
   case atStart=>exact⟨0,0,none,aa,rfl,HV0,HO0,Zh ⟨Zr,fun _ _ _=>rfl⟩,hxr⟩
   case round=>
    obtain⟨j,d,A,hj,rfl,HV,HO,HB,hxw⟩:=hrel;obtain⟨wd,rfl⟩:∃wd:World,wd=wr:=⟨_,rfl⟩;by_cases hjl:j<n
    ·obtain⟨t,ht⟩:∃t,st[j]? =some t:=⟨_,Ze (by rw[HKK.out];exact hjl)⟩;obtain⟨y,hy,hyc⟩:=HCL.out j t ht;have htN:t<N:=by have:=(Zg.1 hy).1;have:=HPL.out;omega
     have hyl:y.length=n:=zrl.out y (Zm hy);obtain⟨sA,sO,rfl,u1,u2⟩:=(HS.out.ext hxw).at_ (i:=j) (u:= .int .i64 (t:Nat)) (by rw[getElem?_map,ht];rfl);obtain⟨pb,po,X,c3,rfl,p1,hX,-,-,p5⟩:=(HP.out.ext hxw).at_ hy;obtain⟨xb,xo,v,rfl,hv,f1,f2⟩:=hX.at_ (i:=k) aa;rw[hyl]at p1;have hgv:y.getD k 0=v:=by rw[List.getD_eq_getElem?_getD,hv];rfl
     have r1:wd.cell? ⟨sb,1,none⟩=some (.slice (some ⟨pb,po,none⟩) N pc):=(zk w).trans s1;have oSd:Old sb wd:=⟨Nat.lt_of_lt_of_le oS.lt hxw.size⟩;have oA:Old sA wd:=⟨u2⟩;have oP:Old pb wd:=⟨p5⟩;have oX:Old xb wd:=⟨f2⟩;have q1:wd.cell? ⟨g,k,none⟩=some (.slice A j d):=HV.out.cell (by rw[getElem?_append_right (by rw[HHL.out];exact Zr),HHL.out,Nat.sub_self];rfl);have HVK:Hid ((hd++ .slice A j d::List.replicate (n-k-1) (Value.slice none 0 0)).toArray[k]? =some (.slice A j d)):=Zh (by simp[HHL.out])
     have q2:wd.frozen? ⟨g,k,none⟩=false:=HV.out.frozen k;have oG:Old g wd:=⟨HV.out.lt⟩;have htN2:(t:Int)<(N:Int):=aa
     have zt7:(k:Int)<(n:Int):=aa
     have hb0:wo.heap.size<=wd.heap.size:=HB.out.1;have HC:=Zh hyc;have HGV:=Zh hgv;clear ht hy hX hv hyl hyc hgv;go_wp2_with fail
     go_region_law (refine QS _ rfl (.tmp 32) (.tmp 44) 34 rfl wo.heap.size 2 (.int .i64 0) 1 8 Tryz.underlying34 qb rfl ac ac A j d _ (by simp[Act.eval]) (HO.out.ext Zi) (some ⟨wd.heap.size,0,none⟩) 1 1 [.int .i64 v] (by simp[Act.eval]) ((Arr.new wd 2 #[.int .i64 v]).ext Zi) rfl (by simp[Value.oneCell']) aa (by simp<;>omega) ?_;intro A6 d6 w6 zsx hg6;have hb6:=hg6.heap (zg (Zi:Ext wd ((wd.alloc (Obj.cells #[Value.int .i64 v] 2)).drew)) HV.out) ac;have z1:w6.frozen? ⟨g,k,none⟩=false:=(by simp[World.frozen?,hb6]);have z2:w6.cell? ⟨g,k,none⟩=some (.slice A j d):=(by rw[cell_of_row w6 g k _ _ _ hb6];exact HVK.out);have z3:=zi hb6)
     all_goals
      have hW:Ext wd ((wd.alloc (Obj.cells #[Value.int .i64 v] 2)).drew):=Zi;have hv6:VRow w6 g 34 (hd++ .slice A j d::List.replicate (n-k-1) (.slice none 0 0)):=hb6;have hx6:Ext w w6:=hg6.ext (hxw.trans hW) (by have:=hxr.size;omega);have ho6:Oth 34 w6 (w6.setCell ⟨g,k,none⟩ (.slice A6 (j+1) d6)):=Oth.set (p:=⟨g,k,none⟩) hb6 _;have hs6:wo.heap.size<=w6.heap.size:=by have:=hg6.below.size;have:=hW.size;omega
      go_wp2_with fail
      refine⟨⟨j+1,d6,A6,aa,by go_num,Zh ?_,Zh ?_,Zh ⟨by rw[ZE];exact hs6,fun b h1 h2=>?_⟩,?_⟩,by simp[intOf];omega⟩
      ·have h7:=hv6.set k (.slice A6 (j+1) d6);rw[List.set_append_right _ _ (by rw[HHL.out];exact Zr),HHL.out,Nat.sub_self,List.set_cons_zero]at h7;exact h7
      ·have e:((zu P st).take (j+1)).map (fun x=>Value.int .i64 (x.getD k 0))=((zu P st).take j).map (fun x=>Value.int .i64 (x.getD k 0))++[.int .i64 v]:=by
        rw[List.take_add_one,HC.out,List.map_append];simp only[Option.toList_some,List.map_cons,List.map_nil,HGV.out]
       rw[e];exact zsx.oth ho6 ac
      ·exact(Below.heap_setCell w6 ⟨g,k,none⟩ _ b h2).trans ((hg6.below.block b h1).trans ((hW.below.block b aa).trans (HB.out.2 b h1 h2)))
      ·exact hx6.setCell (p:=⟨g,k,none⟩) hgw _
    ·obtain rfl:j=n:=aa
     have zva:(zu P st).length=j:=by rw[jW];exact HKK.out
     have hrk:=zqv (zu P st) hlt;have hI2:IsoI wd g j (hd++[.slice A j d]) ((qZ j (zu P st)).take (k+1)):=by
      have hh:=HI.out.row;have hl2:=HI.out.len;rw[List.take_add_one,hrk];refine⟨?_,by simp[HI.out.len],fun i r hr=>?_⟩
      ·have:=HV.out;simp only[List.append_assoc,List.singleton_append,List.length_append,List.length_singleton,HHL.out];rw[Nat.sub_sub]at this;exact this
      ·rcases Zl i hd.length with hi|hi
       ·rw[getElem?_append_left (by rw[<-hl2];exact hi)]at hr;obtain⟨B1,c1,a1,a2,a3⟩:=hh i r hr;exact⟨B1,c1,by rw[getElem?_append_left hi];exact a1,a2.keep fun b cs fr hb=>HB.out.2 b (zi hb) (fun e=>Je hb HI.out.head ac e),a3⟩
       ·rw[getElem?_append_right (by rw[<-hl2];exact hi)]at hr;have hi2:=(Zg.1 hr).1;simp only[Option.toList_some,List.length_singleton]at hi2;have e:i=hd.length:=aa
        have hr2:r=(zu P st).map fun x=>x.getD k 0:=by have:=Zm hr;simpa using this
        subst hr2;have zsB:=HO.out.cap;refine⟨A,d,by rw[e,getElem?_append_right Zr,Nat.sub_self,length_map,zva];rfl,?_,by rw[length_map,zva];exact zsB.1,zsB.2⟩;have:=HO.out.arr;rw[List.take_of_length_le aa]at this;unfold Ints;rw[List.map_map];exact this
     have HI2:=Zh hI2;clear hI2 hrk zva;go_wp2_with fail
     exact⟨⟨k+1,_,aa,by go_num,HI2,hxw⟩,by simp[intOf];omega⟩
  ·obtain rfl:k=n:=aa
   go_wp2_with fail
   go_ret;have hh:=HI.out.head;rw[hhl,Nat.sub_self,List.replicate_zero,List.append_nil]at hh;refine⟨some ⟨g,0,none⟩,rfl,⟨hd,by rw[hhl,zbB],hh.arr,fun i r hr=>?_⟩,hxr.toStep⟩;have h1:=HI.out.row i r;rw[List.take_of_length_le (by rw[zbB];exact Zr)]at h1;exact h1 hr
theorem zqx(h:RedOK m):0<Za m/\Za m<=10000:=by
 have hl:=Z2 h.small;have e:Za m=E (ent m) (m.length-1) (m.length-1) (m.length-1):=by
  unfold Za;rw[zbc Zr];obtain⟨t,ht⟩:∃t,m.length=t+1:=⟨m.length-1,aa⟩;rw[ht];rfl
 rw[e];exact⟨h.det0,h.det1⟩
theorem zjb(h:MatA w0 A m)(hn:m.length=n)(hc:n<=c)(hc2:c<=9223372036854775807)(hr:zM m=true)[hx:Ext w0 w]:Cq 86 #[.slice A n c] w (zA w (.int .i64 (Za m))):=by
 have hR:=Zk hr;have hF:=hR.form;have hl:=Z2 hR.small;obtain⟨d1,d2⟩:=zqx hR;have HF:=Zh (fun W(e:Ext w0 W)=>zdh (w:=W) (c:=c) h n aa aa aa aa (by rw[<-hn];exact hF.all) hF.fits);have HD:Hid (∀(W0 W:World)(B:Option Addr)(d:Nat),MatV W0 B m->n<=d->d<=9223372036854775807->Ext W0 W->Cq 130 #[.slice B n d] W (zi9 W (Za m) true)):=Zh (fun W0 W B d hV k1 k2 e=>zqu hV hn aa aa (by rw[<-hn];exact hF.all) hF.elim aa aa)
 have HN:=Zh hn;rw[hn]at HF;generalize Za m=D at*
 clear h hR hF hl hr hn;go_enter Tryz.func86,Tryz.ntmps86;go_wp2_with (first
  |(go_at_call 129;refine(HF.out _ Zi).mono ?_;rintro e w1 ⟨A1,c1,he1,hV1,k1,k2,hs1⟩;rw[HN.out]at he1 k1;subst he1;have HV1:=Zh hV1;clear hV1)
  |(go_at_call 130;refine(HD.out _ _ _ _ HV1.out k1 k2 Zi).mono ?_;rintro e w2 ⟨g2,B2,n2,d2',rfl,hz2,hs2⟩)
  |(go_at_call 131;refine(zdf hz2 aa aa).mono ?_;rintro e w3 ⟨rfl,hs3⟩))
 go_ret;exact⟨rfl,Step.of _ _⟩
theorem zqy(h:MatA w0 A m)(hn:m.length=n)(hc:n<=c)(hc2:c<=9223372036854775807)(hr:zM m=true)(hq:(q:Int)<1073741824)(hu0:0<=budget)(hu1:budget<=1000000):
  (∀W,Ext w0 W->Cq 88 #[.slice A n c,.int .i64 q,.int .i64 budget] W fun e w'=>∃B d L,e= .returned (.tuple #[.slice B (List.length L) d,.int .i64 (zP m q),.int .i64 0])/\Hid (Mat64 w' B L/\L.length<=d/\d<=9223372036854775807/\VecList m q false L/\L.length<=4096/\zP m q<=budget)/\Step W w')∨
  ∃k:Int,(k=7∨k=9)/\Hid ((k=7/\zP m q<=budget/\4096<(zB m q false).length)∨(k=9/\budget<zP m q))/\∀W,Ext w0 W->Cq 88 #[.slice A n c,.int .i64 q,.int .i64 budget] W (zA W (.tuple #[.slice none 0 0,.int .i64 0,.int .i64 k])):=by
 have hR:=Zk hr;have hg:=fun W(e:Ext w0 W)=>ziM (w:=W) (c:=c) (budget:=budget) h hn hc hc2 hr hq hu0 hu1
 by_cases zsZ:zP m q<=budget
 ·by_cases zs4:4096<(zB m q false).length
  ·refine .inr ⟨7,.inl rfl,Zh (.inl ⟨rfl,zsZ,zs4⟩),fun W e=>(hg W e).mono ?_⟩;rintro e' w' (⟨B1,d1,T,-,-,-,-,hT,h5,-,-⟩|⟨k7,he,h7,hs⟩)
   ·have:=jQ hR (Int.natCast_nonneg q) hT;omega
   ·rcases h7 with ⟨rfl,-,-⟩|⟨-,h8⟩
    ·exact⟨he,hs⟩
    ·omega
  ·refine .inl fun W e=>(hg W e).mono ?_
   rintro e' w' (⟨B1,d1,T,he,hM,h1,h2,hT,h5,h6,hs⟩|⟨k7,he,h7,hs⟩)
   ·exact⟨B1,d1,T,he,Zh ⟨hM,h1,h2,hT,h5,h6⟩,hs⟩
   ·rcases h7 with ⟨-,-,h8⟩|⟨-,h8⟩<;>omega
 ·refine .inr ⟨9,.inr rfl,Zh (.inr ⟨rfl,aa⟩),fun W e=>(hg W e).mono ?_⟩;rintro e' w' (⟨B1,d1,T,-,-,-,-,-,-,h8,-⟩|⟨k7,he,h7,hs⟩)
  ·omega
  ·rcases h7 with ⟨-,h8,-⟩|⟨rfl,-⟩
   ·omega
   ·exact⟨he,hs⟩
def zbC(w:World)(m:List (List Int))(q:Nat)(budget:Int)(e:Ending)(w':World):Prop:=
 (∃B d L,e= .returned (.tuple #[.slice B (List.length L) d,.bool true,.int .i64 0])/\Mat64 w' B L/\L.length<=d/\d<=9223372036854775807/\VecList m q false L/\L.length<=4096/\zP m q<=budget/\Step w w')∨
 ∃k:Int,e= .returned (.tuple #[.slice none 0 0,.bool false,.int .i64 k])/\((k=7/\zP m q<=budget/\4096<(zB m q false).length)∨(k=9/\budget<zP m q))/\Step w w'
set_option maxRecDepth 20000 in
theorem zjc{B C:Option Addr}{d cc most:Nat}{a b cols:List (List Int)}(ha:MatA w0 A a)(hb:MatA w0 B b)(hal:a.length=n)(hbl:b.length=n)(hc:n<=c)(hc2:c<=9223372036854775807)(hd:n<=d)(hd2:d<=9223372036854775807)(hra:zM a=true)(hrb:zM b=true)(zsY:Za a=Za b)(hu0:0<=budget)(hu1:budget<=1000000)
  (hC:Mat64 w0 C cols) (hk:cols.length=k) (hkm:k<=most) (hm:most<=1000) (hv:∀x∈cols,Qr n x=true/\x.length=n) (hq:Zu b n=q) (hq1:(q:Int)<1073741824) [hx:Ext w0 w]:
  Cq 39 #[.slice A n c,.slice B n d,.int .i64 budget,.slice C k cc,.int .i64 most] w (zbC w a q budget):=by
 have hl:=Z2 (Zk hra).small;have HRA:=fun W(e:Ext w0 W)=>zai (w:=W) (c:=c) ha aa aa hc2
 have HRB:=fun W(e:Ext w0 W)=>zai (w:=W) (c:=d) hb aa aa hd2
 rw[hra,hal]at HRA;rw[hrb,hbl]at HRB;have HDA:=fun W(e:Ext w0 W)=>zjb (w:=W) ha hal hc hc2 hra
 have HDB:=fun W(e:Ext w0 W)=>zjb (w:=W) hb hbl hd hd2 hrb
 rw[<-zsY]at HDB;have HG:=fun W(e:Ext w0 W)=>ziR (w:=W) (c:=d) hb hbl (by rw[<-hbl];exact zV (Zk hrb).small) aa
 rw[hq]at HG;have HVX:=zqy (c:=c) (q:=q) (budget:=budget) ha hal hc hc2 hra hq1 hu0 hu1;have HVA:∀(W:World)(X:Option Addr)(dx:Nat)(x:List Int),x∈cols->Ints W X 2 .i64 x->Ext w0 W->Cq 87 #[.slice A n c,.slice X n dx] W (zA W (.bool true)):=fun W X dx x hxm hX e=>by
  obtain⟨h1,h2⟩:=hv x hxm;have:=zil (w0:=W) (w:=W) (c:=c) (d:=dx) (ha.ext e) aa aa hc2 hra hX aa;rw[hal,h2,h1]at this;exact this
 have HRA:=Zh HRA;have HRB:=Zh HRB;have HDA:=Zh HDA;have HDB:=Zh HDB;have HG:=Zh HG;have HVX:=Zh HVX;have HVA:=Zh HVA;have HC:=Zh hC;have HK:=Zh hk;have HV:=Zh hv;clear ha hb hal hbl hra hrb zsY hC hk hv hq hl;generalize Za a=D at*
 have g1:decide (budget<0)=false:=decide_eq_false aa;have g2:decide (1000000<budget)=false:=decide_eq_false aa;have g3:¬budget<0:=aa
 have g5:decide (most<k)=false:=decide_eq_false aa;have g4:¬1000000<budget:=aa
 clear hu0 hu1 hc hc2 hd hd2 hq1;unfold zbC;go_enter Tryz.func39,Tryz.ntmps39;go_wp2_with (first
  |(go_at_call_of 44 (Value.slice A n c);refine(HRA.out _ Zi).mono ?_;rintro e w1 ⟨rfl,hs1⟩)
  |(go_at_call_of 44 (Value.slice B n d);refine(HRB.out _ Zi).mono ?_;rintro e w2 ⟨rfl,hs2⟩)
  |(go_at_call_of 86 (Value.slice A n c);refine(HDA.out _ Zi).mono ?_;rintro e w3 ⟨rfl,hs3⟩)
  |(go_at_call_of 86 (Value.slice B n d);refine(HDB.out _ Zi).mono ?_;rintro e w4 ⟨rfl,hs4⟩))
 go_loopw [14,50] (fun _ i wr=>∃j:Nat,j<=k/\i= .int .i64 j/\Ext w wr) (fun _ i _=>k-(intOf i).toNat)
 case atStart=>exact⟨0,aa,rfl,Zi⟩
 case round=>
  obtain⟨j,hj,rfl,hxr⟩:=hrel;by_cases hlt:j<k
  ·obtain⟨x,hxj⟩:∃x,cols[j]? =some x:=⟨_,Ze (by rw[HK.out];exact hlt)⟩;have hxm:=Zm hxj;obtain⟨cb,co,X,dx,rfl,e1,hX,-,-,e5⟩:=(HC.out.ext (hx.trans hxr)).at_ hxj;rw[(HV.out x hxm).2]at e1;have HVY:=Zh (fun W(e:Ext wr W)=>HVA.out W X dx x hxm (hX.ext e) ((hx.trans hxr).trans e));have oC:Old cb wr:=⟨e5⟩;clear hxj hxm hX;go_wp2_with (go_at_call 87;refine(HVY.out _ Zi).mono ?_;rintro e w5 ⟨rfl,hs5⟩)
   have hx5:Ext w w5:=hxr.trans Zi;exact⟨⟨j+1,aa,by go_num,hx5⟩,by simp[intOf];omega⟩
  ·obtain rfl:j=k:=aa
   have ztc:Ext w0 wr:=hx.trans hxr;rcases HVX.out with hv|⟨kk,zxE,zv6,hv⟩
   ·have HVY:=Zh hv;go_wp2_with (first
     |(go_at_call 89;refine(HG.out _ Zi).mono ?_;rintro e w7 ⟨rfl,hs7⟩)
     |(go_at_call 88;refine(HVY.out _ Zi).mono ?_;rintro e w8 ⟨B8,d8,L8,rfl,h8,hs8⟩))
    go_ret3
    exact .inl ⟨B8,d8,L8,rfl,h8.out.1,h8.out.2.1,h8.out.2.2.1,h8.out.2.2.2.1,h8.out.2.2.2.2.1,h8.out.2.2.2.2.2,(hxr.trans Zi).toStep⟩
   ·have HVY:=Zh hv;rcases zxE with rfl|rfl
    ·go_wp2_with (first
      |(go_at_call 89;refine(HG.out _ Zi).mono ?_;rintro e w7 ⟨rfl,hs7⟩)
      |(go_at_call 88;refine(HVY.out _ Zi).mono ?_;rintro e w8 ⟨rfl,hs8⟩))
     go_ret3
     exact .inr ⟨_,rfl,by simpa using zv6.out,(hxr.trans Zi).toStep⟩
    ·go_wp2_with (first
      |(go_at_call 89;refine(HG.out _ Zi).mono ?_;rintro e w7 ⟨rfl,hs7⟩)
      |(go_at_call 88;refine(HVY.out _ Zi).mono ?_;rintro e w8 ⟨rfl,hs8⟩))
     go_ret3
     exact .inr ⟨_,rfl,by simpa using zv6.out,(hxr.trans Zi).toStep⟩
theorem VRowV.mat{els:List VE}(h:VRowV w g els)(hok:∀x∈els,x.ok w):Mat64 w (some ⟨g,0,none⟩) (els.map VE.l):=by
 obtain⟨cur,hg,hc⟩:=h;refine⟨els.map VE.enc,af,fun _=>⟨g,0,cur,(0,0),rfl,hg,fun j u hu=>?_⟩,fun i r hr=>?_⟩
 ·rw[getElem?_map]at hu;obtain⟨x,hx,rfl⟩:=Option.map_eq_some_iff.1 hu;rw[Nat.zero_add];exact hc j x hx
 ·rw[getElem?_map]at hr;obtain⟨x,hx,rfl⟩:=Option.map_eq_some_iff.1 hr;have hk:=hok x (Zm hx);exact⟨x.A,x.c,by rw[getElem?_map,hx];rfl,hk.1,hk.2.2⟩
theorem VE.ok.oth{x:VE}(h:x.ok w)(ho:Oth T w w')(hT:2≠T):x.ok w':=⟨h.1.oth ho hT,h.2⟩
theorem VRowV.ext{els:List VE}(h:VRowV w g els)(hx:Ext w w'):VRowV w' g els:=by
 obtain⟨cur,hg,hc⟩:=h;exact⟨cur,zg hx hg,hc⟩
theorem Own.put{ze size:Nat}{e:TypeId}{xs:List Value}(h:Own w ze e size A n c xs)(hj:j<n*size):∃g,A=some ⟨g,0,none⟩/\ze<=g/\(∃cs,w.heap[g]? =some (.cells cs e (0,0)))/\(∀u,xs[j]? =some u->w.cell? ⟨g,j,none⟩=some u)/\∀v,Own (w.setCell ⟨g,j,none⟩ v) ze e size A n c (xs.set j v):=by
 rcases h.2 with ⟨_,h0⟩|⟨g,cap,cur,hv,h1,h2,h3,h4,h5,h6⟩
 ·subst h0;omega
 ·injection hv with hA _ hc
  subst hc;refine⟨g,hA,h1,⟨cur,h2⟩,fun u hu=>?_,fun v=>⟨by rw[List.length_set];exact h.1,.inr ⟨g,c,cur.setIfInBounds j v,by rw[hA],h1,zX h2 v,h3,h4,by simpa using h5,?_⟩⟩⟩
  ·rw[cell_of_row w g j _ _ _ h2,<-Array.getElem?_toList];rw[<-h6,List.getElem?_take,if_pos hj]at hu;exact hu
  ·rw[Array.toList_setIfInBounds,List.take_set,h6]
section
variable {c:SeaC} {B:Nat} {w w':World} {a P:List (List Int)} {tot:List Int} {tv:List Value} {SA:Option Addr} {sc:Nat} {st:List Nat} {zc:List (List Int)}
theorem SeaM.totSet(h:SeaM c B w a P tot tv SA sc st zc)(k:Nat)(v:Int):SeaM c B (w.setCell ⟨c.ob,k,none⟩ (.int .u64 v)) a P (tot.set k v) tv SA sc st zc:=by
 have ho:Oth 155 w (w.setCell ⟨c.ob,k,none⟩ (.int .u64 v)):=Oth.set (p:=⟨c.ob,k,none⟩) h.tots _;exact⟨ho _ _ _ _ ac h.blk,ho _ _ _ _ ac h.heads,fun j g r h1 h2=>(h.rws j g r h1 h2).far (p:=⟨c.ob,k,none⟩) (fun e=>h.obn (by have e:g=c.ob:=e;rw[<-e];exact Zm h1)) _,h.hl,h.rl,h.all,h.dist,h.tots.set k v,by rw[List.length_set];exact h.tl,h.obn,h.trs.oth ho ac,h.pts.oth ho ac ac,h.duals.oth ho ac ac,h.norms.oth ho ac,h.plen,h.own.oth ho ac,h.bsb,h.bcb,h.bob,h.bhs,h.stl⟩
theorem SeaM.trSet(h:SeaM c B w a P tot tv SA sc st zc)(hg:∃cs,w.heap[g]? =some (.cells cs 184 (0,0)))(hp:Own (w.setCell ⟨g,j,none⟩ v) B 184 2 c.TA c.n c.tc (tv.set j v)):SeaM c B (w.setCell ⟨g,j,none⟩ v) a P tot (tv.set j v) SA sc st zc:=by
 obtain⟨cs,hg⟩:=hg;have ho:Oth 184 w (w.setCell ⟨g,j,none⟩ v):=Oth.set (p:=⟨g,j,none⟩) hg _;exact⟨ho _ _ _ _ ac h.blk,ho _ _ _ _ ac h.heads,fun i g' r h1 h2=>ho _ _ _ _ ac (h.rws i g' r h1 h2),h.hl,h.rl,h.all,h.dist,ho _ _ _ _ ac h.tots,h.tl,h.obn,hp,h.pts.oth ho ac ac,h.duals.oth ho ac ac,h.norms.oth ho ac,h.plen,h.own.oth ho ac,h.bsb,h.bcb,h.bob,h.bhs,h.stl⟩
end
structure OthM(w:World)(bx gq NQ qc qd qn:Nat)(QD QN:Option Addr)(CV:Value)(els:List VE)(b Q:List (List Int)):Prop where
 blk:w.heap[bx]? =some (.cells #[.slice (some ⟨gq,0,none⟩) NQ qc,.slice QD NQ qd,.slice QN NQ qn,CV] 77 (0,0))
 row:VRowV w gq els
 ok:∀x∈els,x.ok w
 ls:els.map VE.l=Q
 du:Mat64 w QD (Q.map (zC b))
 len:Q.length=NQ
section
variable {w w':World} {bx gq NQ qc qd qn:Nat} {QD QN:Option Addr} {CV:Value} {els:List VE} {b Q:List (List Int)}
theorem OthM.ext(h:OthM w bx gq NQ qc qd qn QD QN CV els b Q)(hx:Ext w w'):OthM w' bx gq NQ qc qd qn QD QN CV els b Q:=⟨zg hx h.blk,h.row.ext hx,fun x hx'=>(h.ok x hx').ext hx,h.ls,h.du.ext hx,h.len⟩
theorem OthM.oth(h:OthM w bx gq NQ qc qd qn QD QN CV els b Q)(ho:Oth T w w')(h1:77≠T)(h2:34≠T)(h3:2≠T):OthM w' bx gq NQ qc qd qn QD QN CV els b Q:=⟨ho _ _ _ _ h1 h.blk,h.row.oth ho h2,fun x hx'=>(h.ok x hx').oth ho h3,h.ls,h.du.oth ho h2 h3,h.len⟩
theorem OthM.sys(h:OthM w bx gq NQ qc qd qn QD QN CV els b Q):SysM w bx 0 NQ qc qd (some ⟨gq,0,none⟩) QD b Q:=⟨by simp[World.cell?,h.blk],by simp[World.cell?,h.blk],zi h.blk,by rw[<-h.ls];exact h.row.mat h.ok,h.du,h.len⟩
end
def zeT(c:SeaC)(B:Nat)(a P b Q:List (List Int))(SA:Option Addr)(sc:Nat)(st:List Nat)(zc:List (List Int))(w:World)(e:Ending)(w':World):Prop:=
 e= .returned (.tuple #[])/\SeaM c B w' a P (qo c.n (ZB true b Q)) (J5 true b Q c.n) SA sc st zc/\OnlyS (fun g=>g=c.ob∨∃y,c.TA=some y/\y.block=g) w w'
set_option maxRecDepth 20000 in
theorem zqz{c:SeaC}{gq NQ qc qd qn cg h:Nat}{QD QN:Option Addr}{a b Q:List (List Int)}{st:List Nat}{zc:List (List Int)}{els:List VE}
  (hM:SeaM c B w a P tot tv SA sc st zc) (zsP:tot=qo c.n (fun _=>0)) (htv:tv=ZT b c.n (fun _=>0)) (hbn:b.length=c.n) (hV:VRowV w gq els) (hok:∀x∈els,x.ok w) (hls:els.map VE.l=Q) (hdu:Mat64 w QD (Q.map (zC b))) (hQl:Q.length=NQ)
  (hC:Row w cg 155 .u64 (Q.map (QP b Q))) (hcg:cg≠c.ob) (hN:NQ=2*h) (hN8:NQ<=100000) (hn1:1<=c.n) (hn:c.n<=1000) (zsr:∀y∈Q,y.length=c.n) (zsw:Q.reverse.map (fun y=>y.map fun c=>-c)=Q) (hip:∀x∈Q,∀y∈Q,zE b x y=zx (zY b x) y) (zth:Q.Pairwise fun x y=>zn x y<0) (hun:∀k,k<c.n->ZJ c.n k∈Q):
  Cq 150 #[.pointer (some ⟨c.sb,0,none⟩),.agg #[.slice (some ⟨gq,0,none⟩) NQ qc,.slice QD NQ qd,.slice QN NQ qn,.slice (some ⟨cg,0,none⟩) NQ NQ]] w (zeT c B a P b Q SA sc st zc w):=by
 obtain⟨sb,n,N,bA,bc,PA,pc,DA,dc,NA,nc,CV,cb,hs,TA,tc,ob,cd⟩:=c;dsimp only at hbn hcg hn1 hn zsr hun zsP htv;unfold zeT;dsimp only;have hel:els.length=NQ:=by rw[<-hQl,<-hls,length_map]
 have hclP:QP b Q=ZR b Q (qY n 0):=rfl;have hc0:wU (Q.map (QP b Q)).sum=ZB true b Q 0:=by unfold ZB;rw[if_pos rfl,hbn];rfl
 have zro:=Zh (fun W(e:Ext w W)=>ziO (w:=W) (c:=NQ) (hC.ext e) (by rw[length_map];exact hQl) hN8);rw[hc0]at zro;have zv7:tv=ZT b n (fun j=>if j<0 then Z5 true b Q j else 0):=by rw[htv];exact zeN fun j _=>by rw[if_neg aa]
 have zv8:tot.set 0 (ZB true b Q 0)=qo n (fun j=>if j<=0 then ZB true b Q j else 0):=by
  rw[zsP,zi2 _ _ aa];refine zeO fun j _=>?_
  by_cases e:j=0
  ·subst e;simp
  ·rw[if_neg e,if_neg aa]
 have s7:w.cell? ⟨sb,7,none⟩=some (.slice TA n tc):=hM.cell 7;have s8:w.cell? ⟨sb,8,none⟩=some (.slice (some ⟨ob,0,none⟩) (n+1) (n+1)):=hM.cell 8;have oS:Old sb w:=⟨zi hM.blk⟩;have hT:Row w ob 155 .u64 tot:=hM.tots;obtain⟨z0,-,o1⟩:=hT.cell (i:=0) (by have:=hM.tl;dsimp only at this;omega);have o2:=hT.frozen 0;have oO:Old ob w:=⟨hT.lt⟩;have HM:=Zh hM;have zsd:=Zh zv7;have zse:=Zh zv8;have HV:=Zh (And.intro hV (And.intro hok (And.intro hls (And.intro hdu hQl))))
 have HC:=Zh hC;have HNN:=Zh hN;have zrl:=Zh zsr;have HSY:=Zh zsw;have HIP:=Zh hip;have HSO:=Zh zth;have HUN:=Zh hun;have HBN:=Zh hbn;have HEL:=Zh hel;have HCG:=Zh hcg;generalize ZB true b Q 0=t0 at*
 clear hM zsP htv zv7 zv8 hV hok hls hdu hQl hC hN zsr zsw hip zth hun hbn hel hT hclP hc0 hcg;go_enter Tryz.func150,Tryz.ntmps150;go_upto_region 2 with fail
 have hx1:Ext w (w.alloc (.cells #[.slice (some ⟨gq,0,none⟩) NQ qc,.slice QD NQ qd,.slice QN NQ qn,.slice (some ⟨cg,0,none⟩) NQ NQ] 77)):=Zi;have hb1:=heap_alloc_new w (.cells #[.slice (some ⟨gq,0,none⟩) NQ qc,.slice QD NQ qd,.slice QN NQ qn,.slice (some ⟨cg,0,none⟩) NQ NQ] 77);obtain⟨bx,hbx⟩:=Yz w.heap.size;rw[hbx]at hb1|-
 generalize w.alloc (.cells #[.slice (some ⟨gq,0,none⟩) NQ qc,.slice QD NQ qd,.slice QN NQ qn,.slice (some ⟨cg,0,none⟩) NQ NQ] 77)=w1 at*
 have HO1:Hid (OthM w1 bx gq NQ qc qd qn QD QN (.slice (some ⟨cg,0,none⟩) NQ NQ) els b Q):=Zh ⟨hb1,HV.out.1.ext hx1,fun x hx=>(HV.out.2.1 x hx).ext hx1,HV.out.2.2.1,HV.out.2.2.2.1.ext hx1,HV.out.2.2.2.2⟩;have HBX:=Zh hbx;have HX1:=Zh hx1;have q8:w1.cell? ⟨sb,8,none⟩=some (.slice (some ⟨ob,0,none⟩) (n+1) (n+1)):=(zk w).trans s8;have q1:w1.cell? ⟨ob,0,none⟩=some (.int .u64 z0):=(zk w).trans o1;have q2:w1.frozen? ⟨ob,0,none⟩=false:=(ZY w).trans o2
 have oS1:Old sb w1:=⟨Nat.lt_of_lt_of_le oS.lt hx1.size⟩;have oO1:Old ob w1:=⟨Nat.lt_of_lt_of_le oO.lt hx1.size⟩;have zrR:=Zh (fun W(e:Ext w1 W)=>zro.out W (hx1.trans e));clear hb1 hbx s7 s8 o1 o2 oS oO zro hx1;have hso:sb≠ob:=fun e=>by
  have h1:=HM.out.blk;have h2:Row w ob 155 .u64 tot:=HM.out.tots;dsimp only at h1;exact Je h1 h2 ac e
 have HS1:Hid (∀W,Ext w1 W->W.cell? ⟨sb,8,none⟩=some (.slice (some ⟨ob,0,none⟩) (n+1) (n+1))):=Zh (fun W e=>(zk w1).trans q8);have HS2:Hid (∀W u,Ext w1 W->(W.setCell ⟨ob,0,none⟩ u).cell? ⟨sb,8,none⟩=some (.slice (some ⟨ob,0,none⟩) (n+1) (n+1))):=Zh (fun W u e=>(World.cell?_setCell_other _ _ _ _ (by intro q;injection q with q1 _;exact hso q1.symm)).trans (HS1.out W e));go_region_held3 (fun w'=>w'.cell? ⟨sb,8,none⟩=some (.slice (some ⟨ob,0,none⟩) (n+1) (n+1)))
  (first|exact HS1.out _ Zi|exact HS2.out _ _ Zi)
  ((go_at_call 151;refine(zrR.out _ Zi).mono ?_;rintro e w5 ⟨rfl,hs5⟩))
 have hM5:=((HM.out.ext HX1.out).ext (Zi:Ext w1 w5)).totSet 0 t0;rw[zse.out,zsd.out]at hM5;have HM5:=Zh hM5;have hO5:=(HO1.out.ext (Zi:Ext w1 w5)).oth (Oth.set (p:=⟨ob,0,none⟩) ((HM.out.tots.ext HX1.out).ext (Zi:Ext w1 w5)) (.int .u64 t0)) ac ac ac;have HO5:=Zh hO5;have hC5:=((HC.out.ext HX1.out).ext (Zi:Ext w1 w5)).far (p:=⟨ob,0,none⟩) HCG.out (.int .u64 t0);have HC5:=Zh hC5
 have hS5:OnlyS (fun g=>g=ob∨∃y,TA=some y/\y.block=g) w (w5.setCell ⟨ob,0,none⟩ (.int .u64 t0)):=(OnlyS.of_ext (HX1.out.trans (Zi:Ext w1 w5))).trans (OnlyS.set (p:=⟨ob,0,none⟩) (.inl rfl) _);have HS5:=Zh hS5;have p7:(w5.setCell ⟨ob,0,none⟩ (.int .u64 t0)).cell? ⟨sb,7,none⟩=some (.slice TA n tc):=hM5.cell 7;have oS5:Old sb (w5.setCell ⟨ob,0,none⟩ (.int .u64 t0)):=⟨zi hM5.blk⟩;clear q8 q1 q2 oS1 oO1 zrR HS1 HS2 hM5 hO5 hC5 hS5
 generalize w5.setCell ⟨ob,0,none⟩ (.int .u64 t0)=w6 at*
 go_wp2_with fail
 go_loopw [4,5,6,7,8,23,26] (fun s4 _ _ _ _ i _ wr=>∃(k gk:Nat),k<=n/\i= .int .i64 k/\s4= .slice (some ⟨gk,0,none⟩) NQ NQ/\Hid (Row wr gk 155 .u64 (Q.map (ZR b Q (qY n k))))/\Hid (gk≠ob)/\Hid (SeaM ⟨sb,n,N,bA,bc,PA,pc,DA,dc,NA,nc,CV,cb,hs,TA,tc,ob,cd⟩ B wr a P (qo n (fun j=>if j<=k then ZB true b Q j else 0)) (ZT b n (fun j=>if j<k then Z5 true b Q j else 0)) SA sc st zc)/\Hid (OthM wr bx gq NQ qc qd qn QD QN (.slice (some ⟨cg,0,none⟩) NQ NQ) els b Q)/\Hid (OnlyS (fun g=>g=ob∨∃y,TA=some y/\y.block=g) w wr)) (fun _ _ _ _ _ i _ _=>n-(intOf i).toNat)
 case atStart=>exact⟨0,cg,aa,rfl,rfl,HC5,HCG,HM5,HO5,HS5⟩
 case round=>
  obtain⟨k,gk,hk,rfl,rfl,HR,HG,HMk,HOk,HSk⟩:=hrel;have r7:wr.cell? ⟨sb,7,none⟩=some (.slice TA n tc):=HMk.out.cell 7;have oSr:Old sb wr:=⟨zi HMk.out.blk⟩;clear p7 oS5;by_cases hlt:k<n
  ·have hOb:=HOk.out.blk;have r0:wr.cell? ⟨bx,0,none⟩=some (.slice (some ⟨gq,0,none⟩) NQ qc):=by simp[World.cell?,hOb]
   have oBr:Old bx wr:=⟨zi hOb⟩;have zv9:=HUN.out k hlt;have HSR:Hid (∀(W:World)(Y:Option Addr),Ext wr W->Ints W Y 2 .i64 (ZJ n k)->Cq 152 #[.slice (some ⟨gq,0,none⟩) NQ qc,.slice Y n n,.func (.func 93) #[] #[]] W fun e w'=>∃i:Nat,e= .returned (.tuple #[.int .i64 i,.bool true])/\Q[i]? =some (ZJ n k)/\Step W w'):=Zh (fun W Y e hY=>by
    have h1:=zp3 (w:=W) (g:=gq) (cap:=qc) (c:=n) (els:=els) (Y:=Y) (y:=ZJ n k) (HOk.out.row.ext e) (fun x hx=>(HOk.out.ok x hx).ext e) (by rw[HEL.out];omega) (by rw[HOk.out.ls];exact HSO.out) hY (by rw[zaK];omega);rw[HEL.out,zaK,HOk.out.ls]at h1;refine h1.mono ?_;rintro e' w' ⟨i,bb,he,-,h2,h3,h4⟩
    cases bb with
    |false=>exact absurd zv9 (h3 rfl)
    |true=>exact⟨i,he,h2 rfl,h4⟩)
   have zrK:=Zh (fun W=>zp5 (w:=W) hlt hn);unfold ziS at zrK;clear hOb zv9;go_wp2_with fail
   have HK6:Hid (∀W,Ext wr W->W.cell? ⟨bx,0,none⟩=some (.slice (some ⟨gq,0,none⟩) NQ qc)/\W.cell? ⟨sb,7,none⟩=some (.slice TA n tc)):=Zh (fun W e=>⟨(zk wr).trans r0,(zk wr).trans r7⟩);go_region_held3 (fun w'=>w'.cell? ⟨bx,0,none⟩=some (.slice (some ⟨gq,0,none⟩) NQ qc)/\w'.cell? ⟨sb,7,none⟩=some (.slice TA n tc))
    (exact HK6.out _ Zi)
    (first
    |(go_at_call 212;refine(zrK.out _).mono ?_;rintro e w5 ⟨rfl,hr5,hs5⟩)
    |(go_at_call 152;refine(HSR.out _ _ Zi hr5.ints).mono ?_;rintro e w7 ⟨ix,rfl,hix,hs7⟩))
   have hxw:Ext wr w7:=Zi;have hM7:=HMk.out.ext hxw;have hO7:=HOk.out.ext hxw;have hR7:=HR.out.ext hxw;obtain⟨tb,hTA,zyJ,ztK,zwa,zwb⟩:=hM7.trs.put (j:=k*2+1) (by dsimp only;omega);dsimp only at hTA;subst hTA;obtain⟨ch,hch,hcc⟩:=hR7.cell (i:=ix) (by rw[length_map];exact(Zg.1 hix).1);have zxF:ch=Z5 true b Q k:=by
    rw[getElem?_map,hix]at hch;unfold Z5;rw[if_pos rfl,HBN.out];exact(Option.some.inj hch).symm
   subst zxF;have m1:=zwa (.int .u64 0) (by
    have:=(zi1 b (fun j=>if j<k then Z5 true b Q j else 0) hlt).2;rw[if_neg aa]at this;exact this)
   have m2:w7.frozen? ⟨tb,k*2+1,none⟩=false:=by obtain⟨cs,h⟩:=ztK;simp[World.frozen?,h]
   have m3:w7.cell? ⟨sb,7,none⟩=some (.slice (some ⟨tb,0,none⟩) n tc):=hM7.cell 7;have oT:Old tb w7:=⟨by obtain⟨cs,h⟩:=ztK;exact zi h⟩;have oS7:Old sb w7:=⟨zi hM7.blk⟩;have oG7:Old gk w7:=⟨hR7.lt⟩;have hixN:(ix:Int)<(NQ:Int):=by have h1:=(Zg.1 hix).1;have h2:=hO7.len;omega
   have zt7:(k:Int)<(n:Int):=aa
   have hTS:=zqg b (fun j=>if j<k then Z5 true b Q j else 0) (Z5 true b Q k) hlt;have hTC:ZT b n (fun j=>if j=k then Z5 true b Q k else if j<k then Z5 true b Q j else 0)=ZT b n (fun j=>if j<k+1 then Z5 true b Q j else 0):=zeN fun j _=>by
    by_cases e:j=k
    ·subst e;rw[if_pos rfl,if_pos aa]
    ·rw[if_neg e];by_cases e2:j<k
     ·rw[if_pos e2,if_pos aa]
     ·rw[if_neg e2,if_neg aa]
   have hM8:=hM7.trSet (j:=k*2+1) (v:= .int .u64 (Z5 true b Q k)) ztK (zwb _);rw[hTS,hTC]at hM8;have hO8:=hO7.oth (by obtain⟨cs,h⟩:=ztK;exact Oth.set (p:=⟨tb,k*2+1,none⟩) h (.int .u64 (Z5 true b Q k))) ac ac ac;have hR8:=hR7.far (p:=⟨tb,k*2+1,none⟩) (by obtain⟨cs,h⟩:=ztK;exact Je hR7 h ac) (.int .u64 (Z5 true b Q k));have hS8:=(HSk.out.trans (OnlyS.of_ext hxw)).trans (OnlyS.set (p:=⟨tb,k*2+1,none⟩) (.inr ⟨_,rfl,rfl⟩) (.int .u64 (Z5 true b Q k)))
   have HM8:=Zh hM8;have HO8:=Zh hO8;have HR8:=Zh hR8;have HS8:=Zh hS8;have HIX:=Zh hix;clear hM8 hO8 hR8 hS8 hTS hTC hM7 hO7 hR7 ztK zwa zwb hch r0 r7 oSr oBr HK6 hix hs7 hs5 hr5 hxw HSR zrK;generalize Z5 true b Q k=ck at*
   go_upto_region 7 with fail
   go_region
   have hd8:Ext (w7.setCell ⟨tb,k*2+1,none⟩ (.int .u64 ck)) (w7.setCell ⟨tb,k*2+1,none⟩ (.int .u64 ck)).drew:=Zi;have HM9:=Zh (HM8.out.ext hd8);have HO9:=Zh (HO8.out.ext hd8);have HR9:=Zh (HR8.out.ext hd8);have HS9:=Zh (HS8.out.trans (OnlyS.of_ext hd8));clear hd8 m1 m2 m3 oT oS7 oG7 HM8 HO8 HR8 HS8;generalize (w7.setCell ⟨tb,k*2+1,none⟩ (.int .u64 ck)).drew=w8 at*
   have hmk:=qz (P:=Tryz.prog) (k:= .u64) Tryz.underlying75 zbx aa (NQ:Int) aa aa;have hR10:=Row.made w8 NQ .u64 155;have hxm:Ext w8 (w8.alloc (.cells (zO NQ .u64) 155)):=Zi;have b8:(w8.alloc (.cells (zO NQ .u64) 155)).cell? ⟨sb,8,none⟩=some (.slice (some ⟨ob,0,none⟩) (n+1) (n+1)):=(HM9.out.ext hxm).cell 8;have hoR:Row w8 ob 155 .u64 _:=HM9.out.tots;obtain⟨zv,-,b9⟩:=(hoR.ext hxm).cell (i:=k+1) (by have:=HM9.out.tl;dsimp only at this;omega)
   have b10:=(hoR.ext hxm).frozen (k+1);have hol:=hoR.lt;have oS9:Old sb (w8.alloc (.cells (zO NQ .u64) 155)):=⟨zi (HM9.out.ext hxm).blk⟩;have oO9:Old ob (w8.alloc (.cells (zO NQ .u64) 155)):=⟨(hoR.ext hxm).lt⟩;have hgl:gk<w8.heap.size:=HR9.out.lt;have hbl:bx<w8.heap.size:=zi HO9.out.blk;have zrv:=Zh (fun W(e:Ext (w8.alloc (.cells (zO NQ .u64) 155)) W)=>ziK (cc:=NQ) (nc:=NQ) (w:=W) (HO9.out.ext (hxm.trans e)).sys (g:=w8.heap.size) aa HNN.out hN8 (c:=ZR b Q (qY n k)) (HR9.out.ext (hxm.trans e)) aa (hR10.ext e) af (fun y _=>ziZ _ _ _ _) HIX.out HBN.out zrl.out hn HSY.out HIP.out)
   unfold zcO at zrv;have hrv:wU (zQ Q (qQ b (ZR b Q (qY n k)) (ZJ n k)))=ZB true b Q (k+1):=by
    unfold ZB Z4;rw[if_pos rfl,HBN.out,zi0];congr 2
    funext y
    rw[zbz]
   rw[hrv]at zrv;have HRV:Hid (Q.map (qQ b (ZR b Q (qY n k)) (ZJ n k))=Q.map (ZR b Q (qY n (k+1)))):=Zh (by
    congr 1
    funext y
    rw[zi0,zbz])
   have HTT:Hid ((qo n (fun j=>if j<=k then ZB true b Q j else 0)).set (k+1) (ZB true b Q (k+1))=qo n (fun j=>if j<=k+1 then ZB true b Q j else 0)):=Zh (by
    rw[zi2 _ _ aa];refine zeO fun j _=>?_
    by_cases e:j=k+1
    ·subst e;rw[if_pos rfl,if_pos Zr]
    ·rw[if_neg e];by_cases e2:j<=k
     ·rw[if_pos e2,if_pos aa]
     ·rw[if_neg e2,if_neg aa])
   have zsf:=Zh (zi5 hlt hn);generalize ZB true b Q (k+1)=t1 at*
   have HXM:=Zh hxm;have HOR:=Zh hoR;clear hrv hR10 hoR hxm;obtain⟨zu6,zu7,ztk,ztz,zu8,hjt⟩:=zsf.out;go_upto_region 9 with fail
   have HS3:Hid (∀W,Ext (w8.alloc (.cells (zO NQ .u64) 155)) W->W.cell? ⟨sb,8,none⟩=some (.slice (some ⟨ob,0,none⟩) (n+1) (n+1))):=Zh (fun W e=>(zk (w8.alloc (.cells (zO NQ .u64) 155))).trans b8);have zxG:sb≠w8.heap.size:=by have:=zi HM9.out.blk;dsimp only at this;omega
   have HS4:Hid (∀W W2,Ext (w8.alloc (.cells (zO NQ .u64) 155)) W->Only w8.heap.size W W2->W2.cell? ⟨sb,8,none⟩=some (.slice (some ⟨ob,0,none⟩) (n+1) (n+1))/\W2.cell? ⟨ob,k+1,none⟩=some (.int .u64 zv)/\W2.frozen? ⟨ob,k+1,none⟩=false/\ob<W2.heap.size):=Zh (fun W W2 e ho=>by
    have z1:=Nat.lt_of_lt_of_le oS9.lt e.size;have z2:=Nat.lt_of_lt_of_le oO9.lt e.size;have e1:=ho.at_ z2 ((aa:ob≠w8.heap.size));have e2:=e.below.block ob oO9.lt;refine⟨(ho.cell (p:=⟨sb,8,none⟩) z1 zxG).trans (HS3.out W e),(ho.cell (p:=⟨ob,k+1,none⟩) z2 ((aa:ob≠w8.heap.size))).trans ((zk (w8.alloc (.cells (zO NQ .u64) 155))).trans b9),?_,Nat.lt_of_lt_of_le z2 ho.size⟩;have h1:=b10
    unfold World.frozen? at h1|-
    rw[e1,e2];exact h1)
   have HS5':Hid (∀(W:World)(u:Value),W.cell? ⟨sb,8,none⟩=some (.slice (some ⟨ob,0,none⟩) (n+1) (n+1))->(W.setCell ⟨ob,k+1,none⟩ u).cell? ⟨sb,8,none⟩=some (.slice (some ⟨ob,0,none⟩) (n+1) (n+1))):=Zh (fun W u hh=>(World.cell?_setCell_other _ _ _ _ (by intro q;injection q with q1 _;exact hso q1.symm)).trans hh);go_region_held3 (fun w'=>w'.cell? ⟨sb,8,none⟩=some (.slice (some ⟨ob,0,none⟩) (n+1) (n+1)))
    (first|exact HS3.out _ Zi|exact g8|exact HS5'.out _ _ g8)
    ((go_at_call 213;refine(zrv.out _ Zi).mono ?_;rintro e wc ⟨rfl,hrc,hoc⟩;obtain⟨g8,g9,g10,g11⟩:=HS4.out _ _ Zi hoc;have oOc:Old ob wc:=⟨g11⟩))
   clear zu6 zu7 ztk ztz zu8 hjt;have hxc:Ext w8 wc:=hoc.ext (HXM.out.trans Zi) Zr;have hM10:=(HM9.out.ext hxc).totSet (k+1) t1;rw[HTT.out]at hM10;have hO10:=(HO9.out.ext hxc).oth (Oth.set (p:=⟨ob,k+1,none⟩) (HOR.out.ext hxc) (.int .u64 t1)) ac ac ac;rw[HRV.out]at hrc;have hR10:=hrc.far (p:=⟨ob,k+1,none⟩) ((aa:w8.heap.size≠ob)) (.int .u64 t1);have hS10:=(HS9.out.trans (OnlyS.of_ext hxc)).trans (OnlyS.set (p:=⟨ob,k+1,none⟩) (.inl rfl) (.int .u64 t1))
   have zsg:=Zh hM10;have zsh:=Zh hO10;have zsi:=Zh hR10;have zsj:=Zh hS10;have HNB:Hid (w8.heap.size≠ob):=Zh aa;clear hM10 hO10 hR10 hS10 hrc g8 g9 g10 g11 b8 b9 b10;go_wp2_with fail
   exact⟨⟨k+1,w8.heap.size,aa,by go_num,rfl,zsi,HNB,zsg,zsh,zsj⟩,by simp[intOf];omega⟩
  ·obtain rfl:k=n:=aa
   go_wp2_with fail
   go_end0
   have e1:(qo k fun j=>if j<=k then ZB true b Q j else 0)=qo k (ZB true b Q):=zeO fun j hj=>by rw[if_pos hj]
   have e2:(ZT b k fun j=>if j<k then Z5 true b Q j else 0)=ZT b k (Z5 true b Q):=zeN fun j hj=>by rw[if_pos hj]
   refine⟨rfl,?_,HSk.out⟩;have h1:=HMk.out;rw[e1,e2]at h1;exact h1
end Go.Proofs.YtgoaelchibpffaaGreat
