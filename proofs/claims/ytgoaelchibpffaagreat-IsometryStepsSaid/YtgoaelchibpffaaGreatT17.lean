import Derived.Test.YtgoaelchibpffaaGreatT16
set_option maxHeartbeats 8000000
set_option linter.unusedVariables false
set_option linter.unusedSimpArgs false
namespace Go.Proofs.YtgoaelchibpffaaGreat
open Go.RowKit
open List (getElem?_append_right getElem?_append_left getElem_mem)
variable {fork:Bool} {z:Int} {l r:List Int} {T b i j k most n:Nat} {w w':World}
def Q8(n:Nat)(b:Nat):Value:= .slice (some ⟨b,0,none⟩) n n
structure P64(w:World)(lo g n zc:Nat)(hs:List Nat)(a:List (List Int)):Prop where
 head:VRow w g 34 (hs.map (Q8 n)++List.replicate (zc-hs.length) (.slice none 0 0))
 glo:lo<=g
 le:hs.length<=zc
 len:hs.length=a.length
 dist:∀(i j p:Nat),hs[i]? =some p->hs[j]? =some p->i=j
 new:∀b∈hs,lo<=b
 all:AllLen a n
 row:∀(i b:Nat)(r:List Int),hs[i]? =some b->a[i]? =some r->Row w b 2 .i64 r
section
variable {w w':World} {lo g n zc:Nat} {hs:List Nat} {a:List (List Int)}
theorem P64.start(w:World)(lo n zc:Nat)(h:lo<=w.heap.size):P64 (w.alloc (.cells (zH #[.slice none 0 0] (zc*1)) 34)) lo w.heap.size n zc [] []:=by
 refine⟨?_,h,af,rfl,fun i j p hp=>by simp at hp,fun p hp=>by simp at hp,fun r hr=>by simp at hr,fun i p r hp=>by simp at hp⟩;have:=VRow.new w 34 (zH #[.slice none 0 0] (zc*1));rw[Qo,Nat.mul_one]at this;simpa[Qo] using this
theorem P64.keep(h:P64 w lo g n zc hs a)(hk:∀b,lo<=b->b<w.heap.size->w'.heap[b]? =w.heap[b]?):P64 w' lo g n zc hs a:=
 ⟨(hk g h.glo h.head.lt).trans h.head,h.glo,h.le,h.len,h.dist,h.new,h.all,fun i b r hp hr=>(hk b (h.new b (Zm hp)) (h.row i b r hp hr).lt).trans (h.row i b r hp hr)⟩
theorem P64.ext(h:P64 w lo g n zc hs a)(hx:Ext w w'):P64 w' lo g n zc hs a:=h.keep fun b _ hb=>hx.below.block b hb
theorem P64.lower{lo':Nat}(h:P64 w lo g n zc hs a)(hl:lo'<=lo):P64 w lo' g n zc hs a:=
 ⟨h.head,Nat.le_trans hl h.glo,h.le,h.len,h.dist,fun b hb=>Nat.le_trans hl (h.new b hb),h.all,h.row⟩
theorem P64.cells(h:P64 w lo g n zc hs a)(hk:hs.length<zc):w.cell? ⟨g,hs.length,none⟩=some (.slice none 0 0)/\w.frozen? ⟨g,hs.length,none⟩=false/\g<w.heap.size:=by
 refine⟨h.head.cell ?_,h.head.frozen _,h.head.lt⟩;rw[getElem?_append_right af,List.length_map,Nat.sub_self,List.getElem?_replicate,if_pos aa]
theorem P64.hdr(h:P64 w lo g n zc hs a)(hi:i<a.length):∃b,hs[i]? =some b/\w.cell? ⟨g,i,none⟩=some (.slice (some ⟨b,0,none⟩) n n)/\w.frozen? ⟨g,i,none⟩=false/\b<w.heap.size/\g<w.heap.size/\lo<=b:=by
 have hi':i<hs.length:=by rw[h.len];exact hi
 obtain⟨b,hp⟩:∃p,hs[i]? =some p:=⟨_,Ze hi'⟩;obtain⟨r,hr⟩:∃r,a[i]? =some r:=⟨_,Ze hi⟩;refine⟨b,hp,h.head.cell ?_,h.head.frozen _,(h.row i b r hp hr).lt,h.head.lt,h.new b (Zm hp)⟩;rw[getElem?_append_left (by simpa using hi')];simp[hp,Q8]
theorem P64.entry(h:P64 w lo g n zc hs a)(hp:hs[i]? =some b)(hi:i<a.length)(hj:j<n):w.cell? ⟨b,j,none⟩=some (.int .i64 (ent a i j))/\w.frozen? ⟨b,j,none⟩=false:=by
 obtain⟨r,hr⟩:∃r,a[i]? =some r:=⟨_,Ze hi⟩;have hl:=h.all r (Zm hr);obtain⟨x,hx,hc⟩:=(h.row i b r hp hr).cell (i:=j) aa;have he:=zd5 hr (j:=j) aa;rw[hx]at he;injection he with he
 rw[<-he];exact⟨hc,(h.row i b r hp hr).frozen j⟩
theorem P64.gne(h:P64 w lo g n zc hs a)(hp:hs[i]? =some b)(hi:i<a.length):g≠b:=fun e=>by
 obtain⟨r,hr⟩:∃r,a[i]? =some r:=⟨_,Ze hi⟩;have h2:=h.row i b r hp hr;have h1:=h.head;unfold VRow at h1;unfold Row at h2;rw[e,h2]at h1;injection h1 with h1
 injection h1 with _ h1
 exact absurd h1 ac
theorem P64.set(h:P64 w lo g n zc hs a)(hp:hs[i]? =some b)(hi:i<a.length)(hj:j<n)(z:Int):P64 (w.setCell ⟨b,j,none⟩ (.int .i64 z)) lo g n zc hs (zI a i j z):=by
 obtain⟨r,hr⟩:∃r,a[i]? =some r:=⟨_,Ze hi⟩;have hl:=h.all r (Zm hr);have hgd:a.getD i []=r:=by simp[List.getD,hr]
 refine⟨h.head.far (p:=⟨b,j,none⟩) (h.gne hp hi) _,h.glo,h.le,by rw[j6];exact h.len,h.dist,h.new,fun x hx=>?_,fun i' b' r' hp' hr'=>?_⟩
 ·rcases List.mem_or_eq_of_mem_set hx with hx|rfl
  ·exact h.all x hx
  ·rw[hgd,List.length_set,hl]
 ·by_cases e:i'=i
  ·subst e;rw[hp]at hp';injection hp' with hp'
   subst hp';unfold zI at hr';rw[List.getElem?_set_self hi,hgd]at hr';injection hr' with hr'
   subst hr';exact(h.row i' b r hp hr).set j z
  ·unfold zI at hr';rw[List.getElem?_set_ne aa]at hr';exact(h.row i' b' r' hp' hr').far (p:=⟨b,j,none⟩) (fun e2=>e (h.dist i' i b (by have e3:b'=b:=e2;rw[<-e3];exact hp') hp)) _
theorem P64.put(h:P64 w lo g n zc hs a)(hk:hs.length<zc)(hr:Row w b 2 .i64 r)(hrl:r.length=n)(hb:lo<=b)(hd:b∉hs):
  P64 (w.setCell ⟨g,hs.length,none⟩ (.slice (some ⟨b,0,none⟩) n n)) lo g n zc (hs++[b]) (a++[r]):=by
 have zvS:∀(b':Nat)(r':List Int),Row w b' 2 .i64 r'->Row (w.setCell ⟨g,hs.length,none⟩ (.slice (some ⟨b,0,none⟩) n n)) b' 2 .i64 r':=fun b' r' hr'=>hr'.far (p:=⟨g,hs.length,none⟩) (fun e=>by
  have h1:=h.head;unfold VRow at h1;unfold Row at hr';have e2:b'=g:=e;rw[<-e2,hr']at h1;injection h1 with h1
  injection h1 with _ h1
  exact absurd h1 ac) _
 refine⟨?_,h.glo,by simp;omega,by simp[h.len],?_,?_,?_,?_⟩
 ·have h1:=h.head.set hs.length (.slice (some ⟨b,0,none⟩) n n);have e:(hs.map (Q8 n)++List.replicate (zc-hs.length) (Value.slice none 0 0)).set hs.length (.slice (some ⟨b,0,none⟩) n n)=(hs++[b]).map (Q8 n)++List.replicate (zc-(hs++[b]).length) (.slice none 0 0):=by
   obtain⟨t,ht⟩:∃t,zc-hs.length=t+1:=⟨zc-hs.length-1,aa⟩;have ht2:zc-(hs++[b]).length=t:=by simp;omega
   rw[ht,ht2,List.set_append_right _ _ af];simp[List.replicate_succ,Q8]
  rw[e]at h1;exact h1
 ·intro i j p hp hq;rcases Zl i hs.length with hi|hi
  ·rw[getElem?_append_left hi]at hp;rcases Zl j hs.length with hj|hj
   ·rw[getElem?_append_left hj]at hq;exact h.dist i j p hp hq
   ·rw[getElem?_append_right hj]at hq;have:p=b:=by have:=Zm hq;simpa using this
    subst this;exact absurd (Zm hp) hd
  ·rw[getElem?_append_right hi]at hp;have hi':i=hs.length:=by have:=(Zg.1 hp).1;simp at this;omega
   have:p=b:=by have:=Zm hp;simpa using this
   subst this;rcases Zl j hs.length with hj|hj
   ·rw[getElem?_append_left hj]at hq;exact absurd (Zm hq) hd
   ·rw[getElem?_append_right hj]at hq;have hj':j=hs.length:=by have:=(Zg.1 hq).1;simp at this;omega
    omega
 ·intro p hp;rcases List.mem_append.1 hp with hp|hp
  ·exact h.new p hp
  ·have:p=b:=by simpa using hp
   subst this;exact hb
 ·intro x hx;rcases List.mem_append.1 hx with hx|hx
  ·exact h.all x hx
  ·have:x=r:=by simpa using hx
   subst this;exact hrl
 ·intro i p x hp hx;have hl:=h.len;rcases Zl i hs.length with hi|hi
  ·rw[getElem?_append_left hi]at hp;rw[getElem?_append_left aa]at hx;exact zvS _ _ (h.row i p x hp hx)
  ·rw[getElem?_append_right hi]at hp;rw[getElem?_append_right aa]at hx;have e1:p=b:=by have:=Zm hp;simpa using this
   have e2:x=r:=by have:=Zm hx;simpa using this
   subst e1 e2;exact zvS _ _ hr
theorem P64.old(h:P64 w lo g n zc hs a):∀p∈hs,p<w.heap.size:=fun p hp=>by
 obtain⟨i,hi⟩:=List.getElem?_of_mem hp;obtain⟨r,hr⟩:∃r,a[i]? =some r:=⟨_,Ze (by have:=(Zg.1 hi).1;rw[<-h.len];exact this)⟩;exact(h.row i p r hi hr).lt
theorem P64.mat(h:P64 w lo g n zc hs a)(hl:a.length=zc)(hn:n<=9223372036854775807):Mat64 w (some ⟨g,0,none⟩) a:=by
 have h1:=h.head;have hl2:=h.len;rw[(aa:zc-hs.length=0)]at h1;simp only[List.replicate_zero,List.append_nil]at h1;refine⟨hs.map (Q8 n),by simp[h.len],h1.arr,fun i r hr=>?_⟩;have hi:i<a.length:=(Zg.1 hr).1;obtain⟨b,hp⟩:∃p,hs[i]? =some p:=⟨_,Ze (by rw[h.len];exact hi)⟩;have hll:=h.all r (Zm hr);exact⟨some ⟨b,0,none⟩,n,by simp[hp,Q8,hll],(h.row i b r hp hr).ints,aa,hn⟩
end
structure Only(T:Nat)(w w':World):Prop where
 below:Below T w w'
 rest:∀b,T<b->b<w.heap.size->w'.heap[b]? =w.heap[b]?
section
variable {T:Nat} {w w' w2 w0:World}
theorem Only.refl(T:Nat)(w:World):Only T w w:=⟨Below.refl _ _,fun _ _ _=>rfl⟩
theorem Only.trans(h:Only T w w')(h':Only T w' w2):Only T w w2:=
 ⟨h.below.trans h'.below,fun b h1 h2=>(h'.rest b h1 (Nat.lt_of_lt_of_le h2 h.below.size)).trans (h.rest b h1 h2)⟩
theorem Only.of_ext(h:Ext w w')(hT:T<=w.heap.size):Only T w w':=⟨h.below.mono hT,fun b _ hb=>h.below.block b hb⟩
theorem Only.set(hT:T<w.heap.size)(i:Nat)(u:Value):Only T w (w.setCell ⟨T,i,none⟩ u):=
 ⟨(Below.refl T w).setCell Zr u,fun b h1 _=>Below.heap_setCell w ⟨T,i,none⟩ u b (by simp;omega)⟩
theorem Only.ext(h:Only T w w')(hx:Ext w0 w)(hT:w0.heap.size<=T):Ext w0 w':=⟨hx.below.trans (h.below.mono hT)⟩
theorem Only.size(h:Only T w w'):w.heap.size<=w'.heap.size:=h.below.size
theorem P64.only{lo g zc:Nat}{hs:List Nat}{a:List (List Int)}(h:P64 w lo g n zc hs a)(ho:Only T w w')(hT:T<lo):P64 w' lo g n zc hs a:=h.keep fun b h1 h2=>ho.rest b aa h2
theorem Only.setNew{p:Addr}(h:Only T w w')(hp:w.heap.size<=p.block)(hT:T<w.heap.size)(u:Value):Only T w (w'.setCell p u):=
 ⟨h.below.setCell aa u,fun b h1 h2=>(Below.heap_setCell w' p u b aa).trans (h.rest b h1 h2)⟩
theorem Only.alloc(h:Only T w w')(hT:T<=w.heap.size)(o:Obj):Only T w (w'.alloc o):=h.trans (Only.of_ext Zi (Nat.le_trans hT h.size))
end
def TapeAt(w:World)(T:Nat)(l:List Int)(k:Nat):Prop:=∃(te:TypeId) (A:Option Addr) (c:Nat),w.heap[T]? =some (.cells #[.slice A l.length c,.int .i64 (min k l.length:Nat)] 113 (0,0))/\Ints w A te .i8 l/\(0<l.length->∀a,A=some a->a.block<T)
theorem TapeAt.only(h:TapeAt w T l k)(hk:∀b,b<=T->w'.heap[b]? =w.heap[b]?):TapeAt w' T l k:=by
 obtain⟨te,A,c,h1,h2,h3⟩:=h;refine⟨te,A,c,(hk T Zr).trans h1,fun h0=>?_,h3⟩;obtain⟨b,o,cs,fr,rfl,hb,hc⟩:=h2 h0;exact⟨b,o,cs,fr,rfl,(hk b (Nat.le_of_lt (h3 (by simpa using h0) _ rfl))).trans hb,hc⟩
theorem TapeAt.ext(h:TapeAt w T l k)(hx:Ext w w'):TapeAt w' T l k:=by
 obtain⟨te,A,c,h1,h2,h3⟩:=h;exact⟨te,A,c,zg hx h1,h2.ext hx,h3⟩
theorem TapeAt.lt(h:TapeAt w T l k):T<w.heap.size:=by
 obtain⟨te,A,c,h1,_⟩:=h;exact zi h1
def I8(l:List Int):Prop:=∀x∈l,-128<=x/\x<=127
theorem I8.get(h:I8 l)(k:Nat):-128<=l.getD k 0/\l.getD k 0<=127:=by
 rcases Zl k l.length with hk|hk
 ·have:l.getD k 0=l[k]:=by simp[List.getD,hk]
  rw[this];exact h _ (getElem_mem hk)
 ·rw[List.getD_eq_getElem?_getD,List.getElem?_eq_none hk];simp
def zaE(w:World)(T:Nat)(l:List Int)(k:Nat)(v:Value)(e:Ending)(w':World):Prop:=e= .returned v/\TapeAt w' T l k/\Only T w w'
theorem zhG(h:TapeAt w T l k)(h8:I8 l)(hl:l.length<=9223372036854775807):
  Cq 148 #[.pointer (some ⟨T,0,none⟩)] w (zaE w T l (k+1) (.int .i64 (l.getD k 0))):=by
 have hT:=h.lt;obtain⟨te,A,c,h1,h2,h3⟩:=id h;obtain⟨q1,q2,q3,q4,q5⟩:=zN h1;by_cases hk:k<l.length
 ·rw[(aa:min k l.length=k)]at q2 h1;obtain⟨b,o,x,rfl,hx,hc,hb⟩:=h2.at_ hk;have hbT:=h3 aa _ rfl;simp only at hbT;have hxe:l.getD k 0=x:=by simp[hx]
  have hx8:=h8 x (Zm hx);have HG:=Zh h;have H1:=Zh h1;have H2:=Zh h2;have hge:decide ((l.length:Int)<=(k:Int))=false:=by simp;omega
  have hap:Apart b T:=⟨aa⟩;rw[hxe];clear h h1 h2 h3 hx hxe;go_enter Tryz.func148,Tryz.ntmps148;go_wp2_with fail
  go_quiet (fail)
  go_wp2_with fail
  go_quiet (fail)
  go_wp2_with fail
  go_ret;rename_i nq1 _
  have hxa:Ext w (w.drewN nq1):=Zi;have hT2:T<(w.drewN nq1).heap.size:=hT;have hb2:((w.drewN nq1).setCell ⟨T,1,none⟩ (.int .i64 ((k:Int)+1))).heap[T]? =some (.cells #[.slice (some ⟨b,o,none⟩) l.length c,.int .i64 ((k:Int)+1)] 113 (0,0)):=zaj (zg hxa H1.out);refine⟨rfl,⟨te,some ⟨b,o,none⟩,c,?_,?_,fun _ a ha=>?_⟩,?_⟩
  ·rw[(aa:((min (k+1) l.length:Nat):Int)=(k:Int)+1)];exact hb2
  ·have hA1:Ints ((w.drewN nq1).setCell ⟨T,1,none⟩ (.int .i64 ((k:Int)+1))) (some ⟨b,o,none⟩) te .i8 l:=fun h0=>by
    obtain⟨b',o',cs,fr,e1,hb',hc'⟩:=(H2.out.ext hxa) h0;have e2:b=b':=by injection e1 with e1;injection e1
    exact⟨b',o',cs,fr,e1,(Below.heap_setCell _ ⟨T,1,none⟩ _ b' (by simp;omega)).trans hb',hc'⟩
   exact hA1.ext Zi
  ·injection ha with ha
   subst ha;exact hbT
  ·exact((Only.of_ext hxa (Nat.le_of_lt hT)).trans (Only.set hT2 1 (.int .i64 ((k:Int)+1)))).trans (Only.of_ext Zi (by rw[ZE];exact Nat.le_of_lt hT2))
 ·rw[(aa:min k l.length=l.length)]at q2 h1;have hxe:l.getD k 0=0:=by rw[List.getD_eq_getElem?_getD,List.getElem?_eq_none aa];rfl
  have hge:decide ((l.length:Int)<=(l.length:Int))=true:=af
  have HH:Hid (∀W,Ext w W->TapeAt W T l (k+1)):=Zh (fun W hh=>by
   obtain⟨te',A',c',a1,a2,a3⟩:=h.ext hh;exact⟨te',A',c',by rw[(aa:min (k+1) l.length=min k l.length)];exact a1,a2,a3⟩)
  rw[hxe];clear h h1 h2 h3 hxe hk;go_enter Tryz.func148,Tryz.ntmps148;go_wp2_with fail
  go_quiet (fail)
  go_wp2_with fail
  go_ret;exact⟨rfl,HH.out _ Zi,Only.of_ext Zi (Nat.le_of_lt hT)⟩
theorem zhH{m:Nat}(h:TapeAt w T l k)(h8:I8 l)(hl:l.length<=9223372036854775807)(hm:1<=m)(hm2:m<=1000):
  Cq 78 #[.pointer (some ⟨T,0,none⟩),.int .i64 m] w (zaE w T l (k+1) (.int .i64 (l.getD k 0%256%m))):=by
 have HN:=Zh (zhG h h8 hl);have hx8:=h8.get k;clear h;generalize l.getD k 0=x at*
 have hu:IntKind.u8.wrap x=x%256:=by simp only[IntKind.wrap_u8]
 have hu2:IntKind.i64.wrap (x%256)=x%256:=Iw;have hx0:0<=x%256:=aa
 have hx1:x%256<256:=aa
 have hmz:((m:Int)==0)=false:=by simp;omega
 have hrm:(x%256).tmod m=x%256%m:=Int.tmod_eq_emod_of_nonneg hx0;go_enter Tryz.func78,Tryz.ntmps78;go_wp2_with (go_at_call 148;refine HN.out.mono ?_;rintro e w1 ⟨rfl,hT1,hO1⟩)
 go_ret;exact⟨af,hT1,hO1⟩
def ZQ(l:List Int)(k n most:Nat):List (List Int):=tab (fun i j=>if i=j then 1+l.getD (k+i) 0%256%most else 0) n n
def zcw(w:World)(T:Nat)(l:List Int)(k n:Nat)(a:List (List Int))(e:Ending)(w':World):Prop:=∃g hs,e= .returned (.slice (some ⟨g,0,none⟩) n n)/\P64 w' w.heap.size g n n hs a/\a.length=n/\TapeAt w' T l k/\Only T w w'
theorem zom(hi:i<n):(List.replicate n (0:Int)).set i (1+l.getD (k+i) 0%256%most)=(List.range n).map fun j=>if i=j then 1+l.getD (k+i) 0%256%most else 0:=by
 apply List.ext_getElem?;intro j;by_cases e:i=j
 ·subst e;rw[List.getElem?_set_self (by simpa using hi)];simp[hi]
 ·rw[List.getElem?_set_ne e];rcases Zl j n with hj|hj
  ·simp[hj,e]
  ·rw[List.getElem?_eq_none (by simpa using hj),List.getElem?_eq_none (by simpa using hj)]
theorem zon(F:Nat->Nat->Int)(r c i:Nat)(hi:i<r):(tab F r c).take (i+1)=(tab F r c).take i++[(List.range c).map fun j=>F i j]:=by
 rw[List.take_succ_eq_append_getElem (by rw[zr];exact hi)];congr 2
 have:=QT F r c i hi;rw[Ze (by rw[zr];exact hi)]at this;injection this
theorem zhI{a:List (List Int)} :zI (a++[r]) a.length j z=a++[r.set j z]:=by
 unfold zI;simp[List.getD]
set_option maxRecDepth 10000 in
theorem zhJ(h:TapeAt w T l k)(h8:I8 l)(hl:l.length<=9223372036854775807)(hn:n<=1000)(hm:1<=most)(hm2:most<=1000):
  Cq 79 #[.pointer (some ⟨T,0,none⟩),.int .i64 n,.int .i64 most] w (zcw w T l (k+n) n (ZQ l k n most)):=by
 have hmk:=ZH (P:=Tryz.prog) Tryz.underlying25 qe aa (n:Int) aa aa;have zs0:=qz (P:=Tryz.prog) Tryz.underlying34 qb aa (n:Int) aa aa;have hT:=h.lt;have HB:Hid (∀(W:World)(q:Nat),TapeAt W T l q->Cq 78 #[.pointer (some ⟨T,0,none⟩),.int .i64 most] W (zaE W T l (q+1) (.int .i64 (l.getD q 0%256%most)))):=Zh (fun W q hq=>zhH hq h8 hl hm hm2);have HTP:=Zh h
 have HRB:Hid (∀q,0<=l.getD q 0%256%(most:Int)/\l.getD q 0%256%(most:Int)<1000):=Zh (fun q=>⟨Int.emod_nonneg _ aa,by have:=Int.emod_lt_of_pos (l.getD q 0%256) ((aa:(0:Int)<most));omega⟩);clear h h8;go_enter Tryz.func79,Tryz.ntmps79;go_wp2_with fail
 go_loopw [8,13] (fun _ i wr=>∃(q:Nat) (hs:List Nat),q<=n/\i= .int .i64 q/\Hid (hs.length=q)/\Hid (P64 wr w.heap.size w.heap.size n n hs ((ZQ l k n most).take q))/\Hid (TapeAt wr T l (k+q))/\Hid (Only T w wr)) (fun _ i _=>n-(intOf i).toNat)
 case atStart=>exact⟨0,[],aa,rfl,Zh rfl,Zh (by simpa[Value.cells] using P64.start w w.heap.size n n Zr),Zh (HTP.out.ext Zi),Zh (Only.of_ext Zi (Nat.le_of_lt hT))⟩
 case round=>
  obtain⟨q,hs,hq,rfl,HL,HP,HTA,HON⟩:=hrel;have ztj:=HON.out.size;by_cases hlt:q<n
  ·have hc:=HP.out.cells (by rw[HL.out];exact hlt);rw[HL.out]at hc;obtain⟨c1,c2,c3⟩:=hc;have zs5:=HP.out.old;have hP1:=(HP.out.ext (Zi:Ext wr (wr.alloc (.cells (zO n .i64) 2)))).put (by rw[HL.out];exact hlt) (Row.made wr n .i64 2) af ztj (fun hb=>by have:=zs5 _ hb;omega);rw[HL.out]at hP1;have ztd:=World.setCell_alloc_past (w:=wr) (.cells (zO n .i64) 2) w.heap.size q (.slice (some ⟨wr.heap.size,0,none⟩) n n) c3
   rw[ztd]at hP1;obtain⟨w2,hw2⟩:=Xz ((wr.setCell ⟨w.heap.size,q,none⟩ (.slice (some ⟨wr.heap.size,0,none⟩) n n)).alloc (.cells (zO n .i64) 2));rw[<-hw2]at hP1;have hdl:((ZQ l k n most).take q).length=q:=by rw[List.length_take];have:(ZQ l k n most).length=n:=zr _ _ _;omega
   have HP1:=Zh hP1;have hO2:Only T w w2:=by rw[hw2,<-ztd];exact(HON.out.alloc (Nat.le_of_lt hT) _).setNew (p:=⟨w.heap.size,q,none⟩) Zr hT _
   have hT2:TapeAt w2 T l (k+q):=by
    refine HTA.out.only fun b hb=>?_
    rw[hw2,<-ztd,Below.heap_setCell _ ⟨w.heap.size,q,none⟩ _ b (by simp;omega),Below.heap_alloc _ _ b aa]
   have hTlt:T<w2.heap.size:=hT2.lt;have zxp:wr.heap.size<w2.heap.size:=by rw[hw2];simp[World.setCell]
   have hpl:(hs++[wr.heap.size])[q]? =some wr.heap.size:=by rw[getElem?_append_right (by rw[HL.out];exact Zr),HL.out,Nat.sub_self];rfl
   have hal:((ZQ l k n most).take q++[List.replicate n 0]).length=q+1:=by simp[hdl]
   have hTlo:T<w.heap.size:=hT;have HX:Hid (∀W,Only T w2 W->W.cell? ⟨w.heap.size,q,none⟩=some (.slice (some ⟨wr.heap.size,0,none⟩) n n)):=Zh (fun W hW=>by
    obtain⟨b,e1,e2,-⟩:=(HP1.out.only hW hTlo).hdr (i:=q) (by rw[hal];omega);rw[hpl]at e1;injection e1 with e1
    subst e1;exact e2)
   have HX2:Hid (∀W,Only T w2 W->∀(u:Value),(W.setCell ⟨wr.heap.size,q,none⟩ u).cell? ⟨w.heap.size,q,none⟩=some (.slice (some ⟨wr.heap.size,0,none⟩) n n)):=Zh (fun W hW u=>by
    rw[World.cell?_setCell_other _ _ _ _ (by intro e;injection e with e1 e2;omega)];exact HX.out W hW)
   have HE:Hid (∀W,Only T w2 W->W.cell? ⟨wr.heap.size,q,none⟩=some (.int .i64 0)/\W.frozen? ⟨wr.heap.size,q,none⟩=false/\wr.heap.size<W.heap.size):=Zh (fun W hW=>by
    obtain⟨e1,e2⟩:=(HP1.out.only hW hTlo).entry (i:=q) (j:=q) hpl (by rw[hal];omega) hlt;have:ent ((ZQ l k n most).take q++[List.replicate n 0]) q q=0:=by
     unfold ent;rw[List.getD_eq_getElem?_getD (l:=(ZQ l k n most).take q++[List.replicate n 0]),getElem?_append_right aa,hdl,Nat.sub_self];simp[List.getD,hlt]
    rw[this]at e1;exact⟨e1,e2,Nat.lt_of_lt_of_le zxp hW.size⟩)
   have zr9:=Zh hT2;have HPL:=Zh hpl;have HAL:=Zh hal;have HO2:=Zh hO2;have HDL:=Zh hdl;obtain⟨hr0,hr1⟩:=HRB.out (k+q);have HBQ:=Zh (fun W(hW:TapeAt W T l (k+q))=>HB.out W (k+q) hW);have HRW:=Zh (zom (l:=l) (k:=k) (most:=most) hlt);have HTK:Hid ((ZQ l k n most).take (q+1)=(ZQ l k n most).take q++[(List.range n).map fun j=>if q=j then 1+l.getD (k+q) 0%256%(most:Int) else 0]):=Zh (zon _ n n q hlt)
   generalize l.getD (k+q) 0%256%(most:Int)=z at*
   have hzw:IntKind.i64.wrap (1+z)=1+z:=Iw;clear hP1 hT2 hpl hal hO2 hdl;go_wp2_with fail
   rw[<-hw2];clear hw2 ztd c1 c2;go_region_held3 (fun w'=>w'.cell? ⟨w.heap.size,q,none⟩=some (.slice (some ⟨wr.heap.size,0,none⟩) n n))
    (first|exact HX.out _ (Only.of_ext Zi (Nat.le_of_lt hTlt))|exact HX.out _ hOx|exact HX2.out _ hOx _)
    ((go_at_call 78;refine(HBQ.out _ (zr9.out.ext Zi)).mono ?_;rintro e w5 ⟨rfl,hT5,hO5⟩;have hOx:Only T w2 w5:=(Only.of_ext Zi (Nat.le_of_lt hTlt)).trans hO5;obtain⟨d1,d2,d3⟩:=HE.out w5 hOx))
   go_wp2_with fail
   refine⟨⟨q+1,hs++[wr.heap.size],aa,by go_num,Zh (by simp[HL.out]),Zh ?_,Zh ?_,Zh ?_⟩,by simp[intOf]<;>omega⟩
   ·have h5:=(HP1.out.only hOx hTlo).set HPL.out (by rw[HAL.out];omega) hlt (1+z);have e5:zI ((ZQ l k n most).take q++[List.replicate n 0]) q q (1+z)=(ZQ l k n most).take (q+1):=by
     have e:=zhI (a:=(ZQ l k n most).take q) (r:=List.replicate n 0) (j:=q) (z:=1+z);rw[HDL.out,HRW.out,<-HTK.out]at e;exact e
    rw[e5]at h5;exact h5
   ·refine hT5.only fun b hb=>Below.heap_setCell _ ⟨wr.heap.size,q,none⟩ _ b (by simp;omega)
   ·exact(HO2.out.trans hOx).setNew (p:=⟨wr.heap.size,q,none⟩) (by simpa using ztj) hT _
  ·obtain rfl:q=n:=aa
   go_wp2_with fail
   go_ret;have h1:=HP.out;have hdl:(ZQ l k q most).length=q:=zr _ _ _;rw[List.take_of_length_le aa]at h1;exact⟨w.heap.size,hs,rfl,h1,hdl,HTA.out,HON.out⟩
def qC:Nat->Nat
 |0=>0
 |i+1=>qC i+i
theorem zek(x:Int):-2<=x.tmod 3/\x.tmod 3<=2:=by
 rcases Int.le_total 0 x with h|h
 ·rw[Int.tmod_eq_emod_of_nonneg h];omega
 ·have h2:x=-(-x):=aa
  rw[h2,Int.neg_tmod,Int.tmod_eq_emod_of_nonneg aa];omega
def JD(l:List Int)(k n i j:Nat):Int:=(l.getD (k+n+qC i+j) 0).tmod 3
def qX(l:List Int)(k n i q:Nat):Nat->Nat->Int:=fun x y=>if x=y then 1+l.getD (k+x) 0%256%6 else if max x y<i∨(max x y=i/\min x y<q) then JD l k n (max x y) (min x y) else 0
def zbp(l:List Int)(k n:Nat):List (List Int):=tab (qX l k n n 0) n n
theorem zoo(l:List Int)(k n:Nat):tab (qX l k n 0 0) n n=ZQ l k n 6:=ZC fun x y _ _=>by
 unfold qX;by_cases h:x=y
 ·rw[if_pos h,if_pos h];rfl
 ·rw[if_neg h,if_neg h,if_neg aa]
theorem zop(l:List Int)(k n i:Nat):tab (qX l k n i i) n n=tab (qX l k n (i+1) 0) n n:=ZC fun x y _ _=>by
 unfold qX;by_cases h:x=y
 ·rw[if_pos h,if_pos h]
 ·rw[if_neg h,if_neg h];by_cases h2:max x y<i∨(max x y=i/\min x y<i)
  ·rw[if_pos h2,if_pos aa]
  ·rw[if_neg h2,if_neg aa]
theorem zoq{q:Nat}(hi:i<n)(hq:q<i):zI (zI (tab (qX l k n i q) n n) i q (JD l k n i q)) q i (JD l k n i q)=tab (qX l k n i (q+1)) n n:=by
 rw[Qe hi aa,Qe aa hi];refine ZC fun x y _ _=>?_
 unfold qX;by_cases h1:x=q/\y=i
 ·rw[if_pos h1];obtain⟨rfl,rfl⟩:=h1;rw[if_neg aa,if_pos aa,(aa:max x y=y),(aa:min x y=x)]
 ·rw[if_neg h1];by_cases h2:x=i/\y=q
  ·rw[if_pos h2];obtain⟨rfl,rfl⟩:=h2;rw[if_neg aa,if_pos aa,(aa:max x y=x),(aa:min x y=y)]
  ·rw[if_neg h2];by_cases h3:x=y
   ·rw[if_pos h3,if_pos h3]
   ·rw[if_neg h3,if_neg h3];by_cases h4:max x y<i∨(max x y=i/\min x y<q)
    ·rw[if_pos h4,if_pos aa]
    ·rw[if_neg h4,if_neg aa]
theorem zor{m:List (List Int)}(hn:AllLen m n)(hi:i<m.length):(m.getD i []).length=n:=by
 have e:m.getD i []=m[i]:=by simp[List.getD,hi]
 rw[e];exact hn _ (getElem_mem hi)
theorem zos{a:List (List Int)}(ha:AllLen a n)(hi:i<a.length)(hj:j<n):ent (zI a i j z) i j=z:=by
 rw[zg4 hi (by rw[zor ha hi];exact hj),if_pos ⟨rfl,rfl⟩]
set_option maxRecDepth 10000 in
theorem zot(h:TapeAt w T l k)(h8:I8 l)(hl:l.length<=9223372036854775807)(hn:n<=1000):
  Cq 76 #[.pointer (some ⟨T,0,none⟩),.int .i64 n] w (zcw w T l (k+n+qC n) n (zbp l k n)):=by
 have hT:=h.lt;have HD:=Zh (fun(W:World)(hW:TapeAt W T l k)=>zhJ (w:=W) (n:=n) (most:=6) hW h8 hl hn aa aa);have HNX:=Zh (fun(W:World)(q:Nat)(hW:TapeAt W T l q)=>zhG hW h8 hl);have HTP:=Zh h;have H8:=Zh h8;clear h h8;go_enter Tryz.func76,Tryz.ntmps76;go_wp2_with (go_at_call 79;refine(HD.out _ HTP.out).mono ?_;rintro e w1 ⟨g,hs,rfl,hP1,hL1,hT1,hO1⟩)
 have HP1:=Zh hP1;have HT1:=Zh hT1;have HO1:=Zh hO1;clear hP1 hT1 hO1 hL1;go_loopw [6,7,13] (fun _ _ s13 wr=>∃i:Nat,i<=n/\s13= .int .i64 i/\Hid (P64 wr w.heap.size g n n hs (tab (qX l k n i 0) n n))/\Hid (TapeAt wr T l (k+n+qC i))/\Hid (Only T w wr)) (fun _ _ s13 _=>n-(intOf s13).toNat)
 case atStart=>exact⟨0,aa,rfl,Zh (by rw[zoo];exact HP1.out),HT1,HO1⟩
 case round=>
  obtain⟨i,hi,rfl,HP,HTA,HON⟩:=hrel;by_cases hlt:i<n
  ·go_wp2_with fail
   go_loopw [7] (fun s7 wr=>∃q:Nat,q<=i/\s7= .int .i64 q/\Hid (P64 wr w.heap.size g n n hs (tab (qX l k n i q) n n))/\Hid (TapeAt wr T l (k+n+qC i+q))/\Hid (Only T w wr)) (fun s7 _=>i-(intOf s7).toNat)
   case atStart=>exact⟨0,aa,rfl,HP,HTA,HON⟩
   case round=>
    obtain⟨q,hq,rfl,HP2,zrF,zrO⟩:=hrel;by_cases zsz:q<i
    ·have hqn:q<n:=aa
     have hML:(tab (qX l k n i q) n n).length=n:=zr _ _ _;have hAL:AllLen (tab (qX l k n i q) n n) n:=Qa _ _ _;obtain⟨bi,hpi,c1,c2,c3,c4,c5⟩:=HP2.out.hdr (i:=i) (by rw[hML];exact hlt);obtain⟨bq,hpq,d1,d2,d3,d4,d5⟩:=HP2.out.hdr (i:=q) (by rw[hML];exact hqn);have hne:bi≠bq:=fun e=>by
      rw[<-e]at hpq;have:=HP2.out.dist i q bi hpi hpq;omega
     have hgi:=HP2.out.gne hpi (by rw[hML];exact hlt);have hgq:=HP2.out.gne hpq (by rw[hML];exact hqn);have hTr:T<wr.heap.size:=zrF.out.lt;have HX:Hid (∀W,Only T wr W->W.cell? ⟨g,i,none⟩=some (.slice (some ⟨bi,0,none⟩) n n)):=Zh (fun W hW=>by
      obtain⟨b,e1,e2,-⟩:=(HP2.out.only hW hT).hdr (i:=i) (by rw[hML];exact hlt);rw[hpi]at e1;injection e1 with e1
      subst e1;exact e2)
     have HX2:Hid (∀W,Only T wr W->∀(u:Value),(W.setCell ⟨bi,q,none⟩ u).cell? ⟨g,i,none⟩=some (.slice (some ⟨bi,0,none⟩) n n)):=Zh (fun W hW u=>by
      rw[World.cell?_setCell_other _ _ _ _ (by intro e;injection e with e1 e2;omega)];exact HX.out W hW)
     have HE:Hid (∀W,Only T wr W->(∃v,W.cell? ⟨bi,q,none⟩=some (.int .i64 v))/\W.frozen? ⟨bi,q,none⟩=false/\bi<W.heap.size):=Zh (fun W hW=>by
      obtain⟨e1,e2⟩:=(HP2.out.only hW hT).entry (i:=i) (j:=q) hpi (by rw[hML];exact hlt) hqn;exact⟨⟨_,e1⟩,e2,Nat.lt_of_lt_of_le c3 hW.size⟩)
     have HNQ:=Zh (fun W(hW:TapeAt W T l (k+n+qC i+q))=>HNX.out W _ hW);have hv8:=H8.out.get (k+n+qC i+q);have HGS:=Zh (zoq (l:=l) (k:=k) hlt zsz);have HPI:=Zh hpi;have HPQ:=Zh hpq;have hgv:(l.getD (k+n+qC i+q) 0).tmod 3=JD l k n i q:=rfl;have hvb:-2<=JD l k n i q/\JD l k n i q<=2:=by
      rw[<-hgv];exact zek _
     obtain⟨zyq,zu0⟩:=hvb;generalize hG:JD l k n i q=v at*
     generalize l.getD (k+n+qC i+q) 0=y at*
     have hvw:IntKind.i64.wrap v=v:=Iw;clear hpi hpq c1 c2 d1 d2 hG;go_wp2_with fail
     go_cut [] (fun wx=>∃w5:World,wx=w5.setCell ⟨bi,q,none⟩ (.int .i64 v)/\Hid (TapeAt w5 T l (k+n+qC i+q+1))/\Hid (Only T wr w5))
     case first=>
      go_region_held3 (fun w'=>w'.cell? ⟨g,i,none⟩=some (.slice (some ⟨bi,0,none⟩) n n))
       (first|exact HX.out _ (Only.of_ext Zi (Nat.le_of_lt hTr))|exact HX.out _ hOx|exact HX2.out _ hOx _)
       ((go_at_call 148;refine(HNQ.out _ (zrF.out.ext Zi)).mono ?_;rintro e w5 ⟨rfl,hT5,hO5⟩;have hOx:Only T wr w5:=(Only.of_ext Zi (Nat.le_of_lt hTr)).trans hO5;obtain⟨⟨v5,e1⟩,e2,e3⟩:=HE.out w5 hOx))
      go_wp2_with fail
      go_meet
      exact⟨w5,rfl,Zh hT5,Zh hOx⟩
     case rest=>
      obtain⟨w5,hw5,HT5,HO5⟩:=hcut;have hP5:=(HP2.out.only HO5.out hT).set HPI.out (by rw[hML];exact hlt) hqn v;have hML5:(zI (tab (qX l k n i q) n n) i q v).length=n:=by rw[j6];exact hML
      rw[<-hw5]at hP5;obtain⟨b',e1,f1,f2,f3,f4,-⟩:=hP5.hdr (i:=i) (by rw[hML5];exact hlt);rw[HPI.out]at e1;injection e1 with e1
      subst e1;obtain⟨b'',e1,g1,g2,g3,g4,-⟩:=hP5.hdr (i:=q) (by rw[hML5];exact hqn);rw[HPQ.out]at e1;injection e1 with e1
      subst e1;obtain⟨h1e,h1f⟩:=hP5.entry (i:=i) (j:=q) HPI.out (by rw[hML5];exact hlt) hqn;rw[zos hAL (by rw[hML];exact hlt) hqn]at h1e;obtain⟨h2e,h2f⟩:=hP5.entry (i:=q) (j:=i) HPQ.out (by rw[hML5];exact hqn) hlt;generalize ent (zI (tab (qX l k n i q) n n) i q v) q i=v2 at h2e;have hP6:=hP5.set HPQ.out (by rw[hML5];exact hqn) hlt v;rw[HGS.out]at hP6;have HP6:=Zh hP6;have HW5:=Zh hw5;have hTc:T<wc.heap.size:=by rw[hw5,ZE];exact HT5.out.lt
      have hbiT:T<bi:=aa
      have hTcA:TapeAt wc T l (k+n+qC i+q+1):=by rw[hw5];exact HT5.out.only fun b hb=>Below.heap_setCell _ ⟨bi,q,none⟩ _ b (by simp;omega)
      have hOc:Only T w wc:=by rw[hw5];exact(zrO.out.trans HO5.out).setNew (p:=⟨bi,q,none⟩) (by simpa using c5) hT _
      have HTC:=Zh hTcA;have HOC:=Zh hOc;clear hP5 hP6 hw5 hTcA hOc;go_wp2_with fail
      go_region
      all_goals
       go_wp2_with fail
       refine⟨⟨q+1,aa,by go_num,Zh (HP6.out.ext Zi),Zh ?_,Zh ?_⟩,by simp[intOf]<;>omega⟩
       ·refine TapeAt.ext (TapeAt.only HTC.out fun b hb=>Below.heap_setCell wc ⟨bq,i,none⟩ (.int .i64 v) b (by simp;omega)) Zi
       ·exact(HOC.out.setNew (p:=⟨bq,i,none⟩) (by simpa using d5) hT (.int .i64 v)).trans (Only.of_ext Zi (by rw[ZE];omega))
    ·obtain rfl:q=i:=aa
     go_wp2_with fail
     exact⟨⟨q+1,aa,by go_num,Zh (by rw[<-zop];exact HP2.out),Zh (by have:=zrF.out;rwa [show k+n+qC q+q=k+n+qC (q+1) by simp[qC];omega]at this),zrO⟩,by simp[intOf]<;>omega⟩
  ·obtain rfl:i=n:=aa
   go_wp2_with fail
   go_ret;exact⟨g,hs,rfl,HP.out,zr _ _ _,HTA.out,HON.out⟩
def jO(fork:Bool)(n i:Nat):Nat:=if fork=true/\i=n-1/\3<n then i-2 else i-1
def qw(fork:Bool)(n i:Nat):Nat->Nat->Int:=fun x y=>if x=y then 2 else if max x y<i/\min x y=jO fork n (max x y) then-1 else 0
def qm(fork:Bool)(n:Nat):List (List Int):=tab (qw fork n n) n n
theorem zhK(hi:0<i):jO fork n i<i:=by
 unfold jO;split<;>omega
theorem zou(F:Nat->Nat->Int)(r c:Nat):tab F (r+1) c=tab F r c++[(List.range c).map fun j=>F r j]:=by
 unfold tab;rw[List.range_succ,List.map_append];rfl
theorem zov :zI (tab (qw fork n 0) 0 n++[List.replicate n 0]) 0 0 2=tab (qw fork n 1) 1 n:=by
 have e:tab (qw fork n 0) 0 n++[List.replicate n 0]=tab (fun _ _=>(0:Int)) 1 n:=by
  rw[zhj];rfl
 rcases Nat.eq_zero_or_pos n with h|h
 ·subst h;rfl
 ·rw[e,Qe aa h];refine ZC fun x y hx _=>?_
  unfold qw;by_cases h1:x=y
  ·rw[if_pos h1,if_pos aa]
  ·rw[if_neg h1,if_neg aa,if_neg aa]
theorem zow(hi:0<i)(hn:i<n):zI (zI (zI (tab (qw fork n i) i n++[List.replicate n 0]) i i 2) i (jO fork n i) (-1)) (jO fork n i) i (-1)=tab (qw fork n (i+1)) (i+1) n:=by
 have hp:=zhK (fork:=fork) (n:=n) hi;generalize hP:jO fork n i=p at*
 have e:tab (qw fork n i) i n++[List.replicate n 0]=tab (fun x y=>if x<i then qw fork n i x y else 0) (i+1) n:=by
  rw[zou];congr 1
  ·refine ZC fun x y hx _=>?_
   rw[if_pos hx]
  ·congr 1
   apply List.ext_getElem?;intro j;rcases Zl j n with hj|hj
   ·simp[hj]
   ·rw[List.getElem?_eq_none (by simpa using hj),List.getElem?_eq_none (by simpa using hj)]
 rw[e,Qe aa hn,Qe aa aa,Qe aa hn];refine ZC fun x y hx hy=>?_
 unfold qw;by_cases h1:x=p/\y=i
 ·rw[if_pos h1,if_neg aa,if_pos ⟨aa,by rw[(aa:max x y=i),hP];omega⟩]
 ·rw[if_neg h1];by_cases h2:x=i/\y=p
  ·rw[if_pos h2,if_neg aa,if_pos ⟨aa,by rw[(aa:max x y=i),hP];omega⟩]
  ·rw[if_neg h2];by_cases h3:x=i/\y=i
   ·rw[if_pos h3,if_pos aa]
   ·rw[if_neg h3];by_cases h4:x<i
    ·rw[if_pos h4];by_cases h5:x=y
     ·rw[if_pos h5,if_pos h5]
     ·rw[if_neg h5,if_neg h5];by_cases h6:max x y<i/\min x y=jO fork n (max x y)
      ·rw[if_pos h6,if_pos ⟨aa,h6.2⟩]
      ·rw[if_neg h6,if_neg];intro h7;by_cases h8:max x y<i
       ·exact h6 ⟨h8,h7.2⟩
       ·have:max x y=i:=aa
        rw[this,hP]at h7;omega
    ·rw[if_neg h4,if_neg aa,if_neg];intro h7;by_cases h8:y<=i
     ·have:max x y=i:=aa
      rw[this,hP]at h7;omega
     ·omega
def zhL(w:World)(n:Nat)(a:List (List Int))(e:Ending)(w':World):Prop:=∃g hs,e= .returned (.slice (some ⟨g,0,none⟩) n n)/\P64 w' w.heap.size g n n hs a/\a.length=n/\Ext w w'
set_option maxRecDepth 10000 in
theorem zox(fork:Bool)(hn:n<=1000):
  Cq 77 #[.int .i64 n,.bool fork] w (zhL w n (qm fork n)):=by
 have hmk:=ZH (P:=Tryz.prog) Tryz.underlying25 qe aa (n:Int) aa aa;have zs0:=qz (P:=Tryz.prog) Tryz.underlying34 qb aa (n:Int) aa aa;go_enter Tryz.func77,Tryz.ntmps77;go_wp2_with fail
 go_loopg [6,7,12] n (fun gk _ _ i wr=>∃(q:Nat) (hs:List Nat),q<=n/\gk=n-q/\i= .int .i64 q/\Hid (hs.length=q)/\Hid (P64 wr w.heap.size w.heap.size n n hs (tab (qw fork n q) q n))/\Ext w wr)
 case atStart=>exact⟨0,[],aa,aa,rfl,Zh rfl,Zh (by simpa[Value.cells,tab] using P64.start w w.heap.size n n Zr),Zi⟩
 case round=>
  obtain⟨q,hs,hq,rfl,rfl,HL,HP,hxr⟩:=hrel;have ztj:=hxr.size;by_cases hlt:q<n
  ·have hc:=HP.out.cells (by rw[HL.out];exact hlt);rw[HL.out]at hc;obtain⟨c1,c2,c3⟩:=hc;have zs5:=HP.out.old;have hP1:=(HP.out.ext (Zi:Ext wr (wr.alloc (.cells (zO n .i64) 2)))).put (by rw[HL.out];exact hlt) (Row.made wr n .i64 2) af ztj (fun hb=>by have:=zs5 _ hb;omega);rw[HL.out]at hP1;have ztd:=World.setCell_alloc_past (w:=wr) (.cells (zO n .i64) 2) w.heap.size q (.slice (some ⟨wr.heap.size,0,none⟩) n n) c3
   rw[ztd]at hP1;obtain⟨w2,hw2⟩:=Xz ((wr.setCell ⟨w.heap.size,q,none⟩ (.slice (some ⟨wr.heap.size,0,none⟩) n n)).alloc (.cells (zO n .i64) 2));rw[<-hw2]at hP1;have zum:Ext w w2:=by rw[hw2];exact Zi
   have hpl:(hs++[wr.heap.size])[q]? =some wr.heap.size:=by rw[getElem?_append_right (by rw[HL.out];exact Zr),HL.out,Nat.sub_self];rfl
   have hal:(tab (qw fork n q) q n++[List.replicate n 0]).length=q+1:=by simp[zr]
   obtain⟨b',e1,h1,h2,h3,h4,-⟩:=hP1.hdr (i:=q) (by rw[hal];omega);rw[hpl]at e1;injection e1 with e1
   subst e1;obtain⟨k1,k2⟩:=hP1.entry (i:=q) (j:=q) hpl (by rw[hal];omega) hlt;have hP2:=hP1.set hpl (by rw[hal];omega) hlt 2;generalize ent (tab (qw fork n q) q n++[List.replicate n 0]) q q=v0 at k1;have HP2:=Zh hP2;have HPL:=Zh hpl;have HAL:=Zh hal;clear hP1 hP2 hpl hal;go_upto_region 6 with fail
   rw[<-hw2];have hnb:New wr.heap.size w:=⟨ztj⟩;have zsR:Ext w (w2.setCell ⟨wr.heap.size,q,none⟩ (.int .i64 2)):=Zi;obtain⟨w3,hw3⟩:=Xz (w2.setCell ⟨wr.heap.size,q,none⟩ (.int .i64 2));rw[<-hw3]at HP2 zsR;clear hw2 ztd c1 c2;by_cases hq0:q=0
   ·subst hq0;have hC:(fork=true/\(0:Nat)=n-1/\3<n)->False:=aa
    have HZ:Hid (P64 w3 w.heap.size w.heap.size n n (hs++[wr.heap.size]) (tab (qw fork n 1) 1 n)):=Zh (by rw[<-zov];exact HP2.out);have hd1:decide ((3:Int)<(n:Int))=false∨((0:Int)==(n:Int)-1)=false:=by
     by_cases h:3<n
     ·exact .inr (by simp;omega)
     ·exact .inl (by simp;omega)
    have hnw:IntKind.i64.wrap ((n:Int)-1)=(n:Int)-1:=Iw;have zsQ:∀(F:Prop),F->F:=fun _ h=>h
    cases fork
    ·go_wp2_with fail
     all_goals (go_roundg (n-1)
                case measure=>omega
                case rel=>exact⟨1,hs++[wr.heap.size],aa,aa,by first|rfl|(congr 1;omega),Zh (by simp[HL.out]),by rw[<-hw3];exact HZ,by rw[<-hw3];exact zsR⟩)
    ·rcases hd1 with hd1|hd1
     ·go_wp2_with fail
      all_goals (go_roundg (n-1)
                 case measure=>omega
                 case rel=>exact⟨1,hs++[wr.heap.size],aa,aa,by first|rfl|(congr 1;omega),Zh (by simp[HL.out]),by rw[<-hw3];exact HZ,by rw[<-hw3];exact zsR⟩)
     ·go_wp2_with fail
      all_goals (go_roundg (n-1)
                 case measure=>omega
                 case rel=>exact⟨1,hs++[wr.heap.size],aa,aa,by first|rfl|(congr 1;omega),Zh (by simp[HL.out]),by rw[<-hw3];exact HZ,by rw[<-hw3];exact zsR⟩)
   ·have hq1:0<q:=aa
    have hpp:=zhK (fork:=fork) (n:=n) hq1;have HCS:=Zh (zow (fork:=fork) (n:=n) hq1 hlt);obtain⟨p,hp⟩:=Yz (jO fork n q);rw[hp]at HCS hpp;have hpn:p<n:=aa
    have hsl:(zI (tab (qw fork n q) q n++[List.replicate n 0]) q q 2).length=q+1:=by rw[j6];exact HAL.out
    obtain⟨b1,e1,f1,f2,f3,f4,f5⟩:=HP2.out.hdr (i:=q) (by rw[hsl];omega);rw[HPL.out]at e1;injection e1 with e1
    subst e1;obtain⟨bp,hbp,g1,g2,g3,g4,g5⟩:=HP2.out.hdr (i:=p) (by rw[hsl];omega);obtain⟨m1,m2⟩:=HP2.out.entry (i:=q) (j:=p) HPL.out (by rw[hsl];omega) hpn;obtain⟨m3,m4⟩:=HP2.out.entry (i:=p) (j:=q) hbp (by rw[hsl];omega) hlt;have hne:wr.heap.size≠bp:=fun e=>by
     rw[<-e]at hbp;have:=HP2.out.dist q p wr.heap.size HPL.out hbp;omega
    have hP4:=(HP2.out.set HPL.out (by rw[hsl];omega) hpn (-1)).set hbp (by rw[j6,hsl];omega) hlt (-1);rw[HCS.out]at hP4;have HP4:=Zh hP4;generalize ent (zI (tab (qw fork n q) q n++[List.replicate n 0]) q q 2) q p=v1 at m1;generalize ent (zI (tab (qw fork n q) q n++[List.replicate n 0]) q q 2) p q=v2 at m3;have hnp:New bp w:=⟨g5⟩;have hnw:IntKind.i64.wrap ((n:Int)-1)=(n:Int)-1:=Iw
    have zyr:(0:Int)<q:=aa
    have ap1:Apart wr.heap.size bp:=⟨hne⟩;have ap2:Apart bp wr.heap.size:=⟨fun e=>hne e.symm⟩;clear hP4;by_cases hC:fork=true/\q=n-1/\3<n
    ·have hpe:p+2=q:=by rw[<-hp];unfold jO;rw[if_pos hC];omega
     obtain⟨rfl,hc1,hc2⟩:=hC;have hk1:((q:Int)==(n:Int)-1)=true:=by simp;omega
     have hk2:decide ((3:Int)<(n:Int))=true:=by simp;omega
     have hqp:(q:Int)-2=(p:Int):=aa
     have hqw:IntKind.i64.wrap ((q:Int)-2)=(p:Int):=by rw[hqp];exact Iw
     clear hpe hc1 hp hq0 HCS;go_upto_region 7 with fail
     rw[<-hw3];clear hw3;go_wp2_with fail
     all_goals
      go_region
      all_goals
       go_wp2_with fail
       go_roundg (n-(q+1))
       case measure=>omega
       case rel=>exact⟨q+1,hs++[wr.heap.size],aa,aa,by go_num,Zh (by simp[HL.out]),Zh (HP4.out.ext Zi),Zi⟩
    ·have hpe:p+1=q:=by rw[<-hp];unfold jO;rw[if_neg hC];omega
     have hqp:(q:Int)-1=(p:Int):=aa
     have hqw:IntKind.i64.wrap ((q:Int)-1)=(p:Int):=by rw[hqp];exact Iw
     cases fork
     ·clear hpe hp hq0 HCS hC;go_upto_region 7 with fail
      rw[<-hw3];clear hw3;go_wp2_with fail
      all_goals
       go_region
       all_goals
        go_wp2_with fail
        go_roundg (n-(q+1))
        case measure=>omega
        case rel=>exact⟨q+1,hs++[wr.heap.size],aa,aa,by go_num,Zh (by simp[HL.out]),Zh (HP4.out.ext Zi),Zi⟩
     ·have hC2:¬(q=n-1/\3<n):=fun h=>hC ⟨rfl,h⟩
      have hd1:((q:Int)==(n:Int)-1)=false∨decide ((3:Int)<(n:Int))=false:=by
       by_cases h:3<n
       ·exact .inl (by simp;omega)
       ·exact .inr (by simp;omega)
      clear hpe hp hq0 HCS hC hC2;rcases hd1 with hd1|hd1
      ·skip
       go_upto_region 7 with fail
       rw[<-hw3];clear hw3;go_wp2_with fail
       all_goals
        go_region
        all_goals
         go_wp2_with fail
         go_roundg (n-(q+1))
         case measure=>omega
         case rel=>exact⟨q+1,hs++[wr.heap.size],aa,aa,by go_num,Zh (by simp[HL.out]),Zh (HP4.out.ext Zi),Zi⟩
      ·by_cases hqn:q=n-1
       ·have hk1:((q:Int)==(n:Int)-1)=true:=by simp;omega
        clear hqn;go_upto_region 7 with fail
        rw[<-hw3];clear hw3;go_wp2_with fail
        all_goals
         go_region
         all_goals
          go_wp2_with fail
          go_roundg (n-(q+1))
          case measure=>omega
          case rel=>exact⟨q+1,hs++[wr.heap.size],aa,aa,by go_num,Zh (by simp[HL.out]),Zh (HP4.out.ext Zi),Zi⟩
       ·have hk1:((q:Int)==(n:Int)-1)=false:=by simp;omega
        clear hqn;go_upto_region 7 with fail
        rw[<-hw3];clear hw3;go_wp2_with fail
        all_goals
         go_region
         all_goals
          go_wp2_with fail
          go_roundg (n-(q+1))
          case measure=>omega
          case rel=>exact⟨q+1,hs++[wr.heap.size],aa,aa,by go_num,Zh (by simp[HL.out]),Zh (HP4.out.ext Zi),Zi⟩
  ·obtain rfl:q=n:=aa
   go_wp2_with fail
   go_ret;exact⟨w.heap.size,hs,rfl,HP.out,zr _ _ _,hxr⟩
theorem zoy{w0:World}{A:Option Addr}{c:Nat}{a:List (List Int)}(s:Bool)(hs:s=true↔j8 a/\detF a<=10000)(h:Mat64 w0 A a)(h1:a.length=n)(h3:1<=n)(h4:n<=8)(hn:AllLen a n)(h64:qf a)(hb:BdM 199 a)[hx:Ext w0 w]:
  Cq 80 #[.slice A n c] w (zA w (.bool s)):=by
 have HOF:Hid (∀W,Ext w W->Cq 26 #[.slice A n c] W (RetOwnI W n a)):=Zh (fun W e=>by
  have:Ext w0 W:=hx.trans e;have:=zd9 (w:=W) (c:=c) h.a n aa aa h3 aa hn h64;rwa [h1]at this)
 obtain⟨sv,hsv⟩:∃sv:Bool,sv=true↔j8 a:=⟨@decide (j8 a) (Classical.propDecidable _),af⟩;have HVA:Hid (∀(W1 W:World)(A1:Option Addr)(c1:Nat),MatV W1 A1 a->Ext W1 W->Cq 71 #[.slice A1 n c1] W (fun e w'=>∃v:Int,e= .returned (.int .i64 v)/\(v=0↔sv=true)/\0<=v/\v<=5/\Step W w')):=Zh (fun W1 W A1 c1 hM e=>zhB sv hsv hM h1 h3 h4 hn hb aa aa);have HDT:Hid (∀(W1 W:World)(A1:Option Addr)(c1:Nat),MatV W1 A1 a->Ext W1 W->Cq 64 #[.slice A1 n c1] W (zz W (detF a))):=Zh (fun W1 W A1 c1 hM e=>zef hM h1 h3 h4 hn hb aa aa)
 have hbd:=zeh h1 h4 aa hb;have HC:Hid (∀(W1 W2 W:World)(g1:Bool)B1 n1 c1(g2:Bool)B2 n2 c2,IntV W1 g1 B1 n1 c1 (detF a)->IntV W2 g2 B2 n2 c2 10000->Ext W1 W->Ext W2 W->Cq 106 #[.agg #[.bool g1,.slice B1 n1 c1],.agg #[.bool g2,.slice B2 n2 c2]] W (zA W (.int .i64 (zo (detF a) 10000)))):=Zh (fun W1 W2 W g1 B1 n1 c1 g2 B2 n2 c2 ha hb e1 e2=>za6 ha hb (by have:=ha.bd hbd aa;omega) (by have:=hb.len (k:=1) ac;omega))
 have HL:=Zh h1
 cases hsb:sv
 ·rw[hsb]at HVA hsv;have HF:Hid (s=false):=Zh (by
   cases s with
   |false=>rfl
   |true=>exact absurd (hsv.2 (hs.1 rfl).1) af)
  clear hsb hsv hs hbd hn hb h64 h1;go_enter Tryz.func80,Tryz.ntmps80;go_wp2_with (first
   |(go_at_call 26;refine(HOF.out _ Zi).mono ?_;rintro e w1 ⟨g1,zxq,c1,rfl,hO1,-,-,hs1⟩;rw[HL.out];have HM:=Zh hO1.mat;clear hO1)
   |(go_at_call 71;refine(HVA.out _ _ _ _ HM.out Zi).mono ?_;rintro e w2 ⟨v,rfl,hv,hv0,hv5,hs2⟩;have hvz:(v==0)=false:=(by simp at hv;simp;exact hv);clear hv))
  go_ret;exact⟨by rw[HF.out];simp,Step.of _ _⟩
 ·rw[hsb]at HVA hsv;have HF:Hid (decide (zo (detF a) 10000<=0)=s):=Zh (by
   rw[zcs]
   cases s with
   |false=>
    refine decide_eq_false fun hd=>?_
    have:=hs.2 ⟨hsv.1 rfl,hd⟩
    cases this
   |true=>exact decide_eq_true (hs.1 rfl).2)
  clear hsb hsv hs hbd hn hb h64 h1;generalize detF a=D at*
  go_enter Tryz.func80,Tryz.ntmps80;go_wp2_with (first
   |(go_at_call 26;refine(HOF.out _ Zi).mono ?_;rintro e w1 ⟨g1,zxq,c1,rfl,hO1,-,-,hs1⟩;rw[HL.out];have HM:=Zh hO1.mat;clear hO1)
   |(go_at_call 71;refine(HVA.out _ _ _ _ HM.out Zi).mono ?_;rintro e w2 ⟨v,rfl,hv,hv0,hv5,hs2⟩;obtain rfl:v=0:=(by simpa using hv);clear hv)
   |(go_at_call 64;refine(HDT.out _ _ _ _ HM.out Zi).mono ?_;rintro e w3 ⟨g3,B3,k3,d3,rfl,hz3,hs3⟩)
   |(go_at_call 114;refine(QF 10000 aa aa _).mono ?_;rintro e w4 ⟨g4,B4,k4,d4,rfl,hz4,hs4⟩)
   |(go_at_call 106;refine(HC.out _ _ _ _ _ _ _ _ _ _ _ hz3 hz4 Zi Zi).mono ?_;rintro e w5 ⟨rfl,hs5⟩))
  go_ret;exact⟨by rw[<-HF.out];simp,Step.of _ _⟩
def SmM(a:List (List Int)):Prop:=∀i j,-100<=ent a i j/\ent a i j<=100
theorem SmM.bd{a:List (List Int)}(h:SmM a):BdM 199 a:=fun i j=>by
 have:=h i j;refine Nat.lt_of_lt_of_le (m:=2^7) aa (Nat.pow_le_pow_right aa aa)
theorem SmM.fits{a:List (List Int)}(h:SmM a)(hn:AllLen a n):qf a:=by
 rw[<-zfC a n hn];intro r hr x hx;obtain⟨i,hi,rfl⟩:=List.mem_map.1 hr;obtain⟨j,hj,rfl⟩:=List.mem_map.1 hx;have:=h i j;omega
theorem SmM.tab{F:Nat->Nat->Int}{r:Nat}(h:∀i j,-100<=F i j/\F i j<=100):SmM (tab F n r):=fun i j=>by
 by_cases hi:i<n/\j<r
 ·rw[qg F n r i j hi.1 hi.2];exact h i j
 ·rw[JC F n r i j hi];omega
theorem SmM.set{a:List (List Int)}(h:SmM a)(hn:AllLen a n)(hi:i<a.length)(hj:j<n)(hz:-100<=z/\z<=100):SmM (zI a i j z):=fun x y=>by
 have hrl:(a.getD i []).length=n:=by
  have e:a.getD i []=a[i]:=by simp[List.getD,hi]
  rw[e];exact hn _ (getElem_mem hi)
 rw[zg4 hi (by rw[hrl];exact hj)];split
 ·exact hz
 ·exact h x y
theorem J0(l:List Int)(k n most:Nat)(h1:1<=most)(h2:most<=9):SmM (ZQ l k n most):=SmM.tab fun i j=>by
 split
 ·have h3:=Int.emod_nonneg (l.getD (k+i) 0%256) ((aa:(most:Int)≠0));have h4:=Int.emod_lt_of_pos (l.getD (k+i) 0%256) ((aa:(0:Int)<most));omega
 ·omega
theorem zoz(l:List Int)(k n:Nat):SmM (zbp l k n):=SmM.tab fun i j=>by
 unfold qX;split
 ·omega
 ·split
  ·unfold JD;have:=zek (l.getD (k+n+qC (max i j)+min i j) 0);omega
  ·omega
theorem zhM(fork:Bool)(n:Nat):SmM (qm fork n):=SmM.tab fun i j=>by
 unfold qw;split
 ·omega
 ·split<;>omega
theorem zbq(l:List Int)(k n:Nat)(n1:1<=n)(n8:n<=8):Gm n (ZQ l k n 2):=by
 refine znv n1 n8 (zr _ _ _) (Qa _ _ _) (fun i j hij=>?_) (fun i hi=>?_)
 ·unfold ZQ;by_cases h:i<n/\j<n
  ·rw[qg _ n n i j h.1 h.2,if_neg hij]
  ·rw[JC _ n n i j h]
 ·unfold ZQ;rw[qg _ n n i i hi hi,if_pos rfl];omega
end Go.Proofs.YtgoaelchibpffaaGreat
