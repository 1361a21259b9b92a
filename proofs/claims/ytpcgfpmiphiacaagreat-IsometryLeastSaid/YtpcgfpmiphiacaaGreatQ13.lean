/- RefR Own64 Mk1 Mk6 Vr11 Lat Cl -/
import Derived.Test.YtpcgfpmiphiacaaGreatQ12
import Derived.Test.YtpcgfpmiphiacaaGreatProg
import Derived.Test.YtpcgfpmiphiacaaGreatShelf
import Derived.Lib.SmallJoins
import Derived.ChangeSlices
import Derived.Test.YtpcgfpmiphiacaaGreatRows
set_option maxHeartbeats 8000000
set_option linter.unusedVariables false
set_option linter.unusedSimpArgs false
set_option linter.constructorNameAsVariable false
namespace Go.Proofs.YtpcgfpmiphiacaaGreat
open Go.RowKit
open La
theorem Gm.val {n:Nat} {a:List (List Int)} (g:Gm n a):ValM a:=by
 refine ⟨fun i hi j hj=>g.sym i j (by have :=g.len;omega) (by have :=g.len;omega),?_⟩
 exact lead_pos.2 (by rw [g.len];exact g.pos)
end Go.Proofs.YtpcgfpmiphiacaaGreat
namespace Go.Proofs.YtpcgfpmiphiacaaGreat
open Go.RowKit
def headW (n:Nat) (b:Nat):Value:= .slice (some ⟨b,0,none⟩) n n
structure P64 (w:World) (lo g n rows:Nat) (hs:List Nat) (a:List (List Int)):Prop where
 head:VRow w g 35 (hs.map (headW n)++List.replicate (rows-hs.length) (.slice none 0 0))
 glo:lo<=g
 le:hs.length<=rows
 len:hs.length=a.length
 dist:∀(i j p:Nat),hs[i]? =some p->hs[j]? =some p->i=j
 new:∀b∈hs,lo<=b
 all:AllLen a n
 row:∀(i b:Nat) (r:List Int),hs[i]? =some b->a[i]? =some r->Row w b 2 .i64 r
section
variable {w w':World} {lo g n rows:Nat} {hs:List Nat} {a:List (List Int)}
theorem P64.keep (h:P64 w lo g n rows hs a) (hk:∀b,lo<=b->b<w.heap.size->w'.heap[b]? =w.heap[b]?):P64 w' lo g n rows hs a:=
 ⟨(hk g h.glo h.head.lt).trans h.head,h.glo,h.le,h.len,h.dist,h.new,h.all,fun i b r hp hr=>(hk b (h.new b (List.mem_of_getElem? hp)) (h.row i b r hp hr).lt).trans (h.row i b r hp hr)⟩
theorem P64.ext (h:P64 w lo g n rows hs a) (hx:Ext w w'):P64 w' lo g n rows hs a:=h.keep fun b _ hb=>hx.below.block b hb
theorem P64.cells (h:P64 w lo g n rows hs a) (hk:hs.length<rows):w.cell? ⟨g,hs.length,none⟩=some (.slice none 0 0)/\w.frozen? ⟨g,hs.length,none⟩=false/\g<w.heap.size:=by
 refine ⟨h.head.cell ?_,h.head.frozen _,h.head.lt⟩
 rw [List.getElem?_append_right (by simp),List.length_map,Nat.sub_self,List.getElem?_replicate,if_pos (by omega)]
theorem P64.entry (h:P64 w lo g n rows hs a) {i j b:Nat} (hp:hs[i]? =some b) (hi:i<a.length) (hj:j<n):w.cell? ⟨b,j,none⟩=some (.int .i64 (ent a i j))/\w.frozen? ⟨b,j,none⟩=false:=by
 obtain ⟨r,hr⟩:∃r,a[i]? =some r:=⟨_,List.getElem?_eq_getElem hi⟩
 have hl:=h.all r (List.mem_of_getElem? hr)
 obtain ⟨x,hx,hc⟩:=(h.row i b r hp hr).cell (i:=j) (by omega)
 have he:=ent_get hr (j:=j) (by omega)
 rw [hx] at he
 injection he with he
 rw [<-he]
 exact ⟨hc,(h.row i b r hp hr).frozen j⟩
theorem P64.gne (h:P64 w lo g n rows hs a) {i b:Nat} (hp:hs[i]? =some b) (hi:i<a.length):g≠b:=fun e=>by
 obtain ⟨r,hr⟩:∃r,a[i]? =some r:=⟨_,List.getElem?_eq_getElem hi⟩
 have h2:=h.row i b r hp hr
 have h1:=h.head
 unfold VRow at h1
 unfold Row at h2
 rw [e,h2] at h1
 injection h1 with h1
 injection h1 with _ h1
 exact absurd h1 (by decide)
theorem P64.set (h:P64 w lo g n rows hs a) {i j b:Nat} (hp:hs[i]? =some b) (hi:i<a.length) (hj:j<n) (z:Int):P64 (w.setCell ⟨b,j,none⟩ (.int .i64 z)) lo g n rows hs (setE a i j z):=by
 obtain ⟨r,hr⟩:∃r,a[i]? =some r:=⟨_,List.getElem?_eq_getElem hi⟩
 have hl:=h.all r (List.mem_of_getElem? hr)
 have hgd:a.getD i []=r:=by simp [List.getD,hr]
 refine ⟨h.head.far (p:=⟨b,j,none⟩) (h.gne hp hi) _,h.glo,h.le,by rw [setE_len];exact h.len,h.dist,h.new,fun x hx=>?_,fun i' b' r' hp' hr'=>?_⟩
 ·rcases List.mem_or_eq_of_mem_set hx with hx |rfl
  ·exact h.all x hx
  ·rw [hgd,List.length_set,hl]
 ·by_cases e:i'=i
  ·subst e
   rw [hp] at hp'
   injection hp' with hp'
   subst hp'
   unfold setE at hr'
   rw [List.getElem?_set_self hi,hgd] at hr'
   injection hr' with hr'
   subst hr'
   exact (h.row i' b r hp hr).set j z
  ·unfold setE at hr'
   rw [List.getElem?_set_ne (by omega)] at hr'
   exact (h.row i' b' r' hp' hr').far (p:=⟨b,j,none⟩) (fun e2=>e (h.dist i' i b (by have e3:b'=b:=e2;rw [<-e3];exact hp') hp)) _
theorem P64.put (h:P64 w lo g n rows hs a) (hk:hs.length<rows) {b:Nat} {r:List Int} (hr:Row w b 2 .i64 r) (hrl:r.length=n) (hb:lo<=b) (hd:b∉hs):
  P64 (w.setCell ⟨g,hs.length,none⟩ (.slice (some ⟨b,0,none⟩) n n)) lo g n rows (hs++[b]) (a++[r]):=by
 have hfar:∀(b':Nat) (r':List Int),Row w b' 2 .i64 r'->Row (w.setCell ⟨g,hs.length,none⟩ (.slice (some ⟨b,0,none⟩) n n)) b' 2 .i64 r':=fun b' r' hr'=>hr'.far (p:=⟨g,hs.length,none⟩) (fun e=>by
  have h1:=h.head
  unfold VRow at h1
  unfold Row at hr'
  have e2:b'=g:=e
  rw [<-e2,hr'] at h1
  injection h1 with h1
  injection h1 with _ h1
  exact absurd h1 (by decide)) _
 refine ⟨?_,h.glo,by simp;omega,by simp [h.len],?_,?_,?_,?_⟩
 ·have h1:=h.head.set hs.length (.slice (some ⟨b,0,none⟩) n n)
  have e:(hs.map (headW n)++List.replicate (rows-hs.length) (Value.slice none 0 0)).set hs.length (.slice (some ⟨b,0,none⟩) n n)=(hs++[b]).map (headW n)++List.replicate (rows-(hs++[b]).length) (.slice none 0 0):=by
   obtain ⟨t,ht⟩:∃t,rows-hs.length=t+1:=⟨rows-hs.length-1,by omega⟩
   have ht2:rows-(hs++[b]).length=t:=by simp;omega
   rw [ht,ht2,List.set_append_right _ _ (by simp)]
   simp [List.replicate_succ,headW]
  rw [e] at h1
  exact h1
 ·intro i j p hp hq
  rcases Nat.lt_or_ge i hs.length with hi |hi
  ·rw [List.getElem?_append_left hi] at hp
   rcases Nat.lt_or_ge j hs.length with hj |hj
   ·rw [List.getElem?_append_left hj] at hq
    exact h.dist i j p hp hq
   ·rw [List.getElem?_append_right hj] at hq
    have :p=b:=by have :=List.mem_of_getElem? hq;simpa using this
    subst this
    exact absurd (List.mem_of_getElem? hp) hd
  ·rw [List.getElem?_append_right hi] at hp
   have hi':i=hs.length:=by have :=(List.getElem?_eq_some_iff.1 hp).1;simp at this;omega
   have :p=b:=by have :=List.mem_of_getElem? hp;simpa using this
   subst this
   rcases Nat.lt_or_ge j hs.length with hj |hj
   ·rw [List.getElem?_append_left hj] at hq
    exact absurd (List.mem_of_getElem? hq) hd
   ·rw [List.getElem?_append_right hj] at hq
    have hj':j=hs.length:=by have :=(List.getElem?_eq_some_iff.1 hq).1;simp at this;omega
    omega
 ·intro p hp
  rcases List.mem_append.1 hp with hp |hp
  ·exact h.new p hp
  ·have :p=b:=by simpa using hp
   subst this
   exact hb
 ·intro x hx
  rcases List.mem_append.1 hx with hx |hx
  ·exact h.all x hx
  ·have :x=r:=by simpa using hx
   subst this
   exact hrl
 ·intro i p x hp hx
  have hl:=h.len
  rcases Nat.lt_or_ge i hs.length with hi |hi
  ·rw [List.getElem?_append_left hi] at hp
   rw [List.getElem?_append_left (by omega)] at hx
   exact hfar _ _ (h.row i p x hp hx)
  ·rw [List.getElem?_append_right hi] at hp
   rw [List.getElem?_append_right (by omega)] at hx
   have e1:p=b:=by have :=List.mem_of_getElem? hp;simpa using this
   have e2:x=r:=by have :=List.mem_of_getElem? hx;simpa using this
   subst e1 e2
   exact hfar _ _ hr
end
structure Only (T:Nat) (w w':World):Prop where
 below:Below T w w'
 rest:∀b,T<b->b<w.heap.size->w'.heap[b]? =w.heap[b]?
section
variable {T:Nat} {w w' w2 w0:World}
theorem Only.refl (T:Nat) (w:World):Only T w w:=⟨Below.refl _ _,fun _ _ _=>rfl⟩
theorem Only.trans (h:Only T w w') (h':Only T w' w2):Only T w w2:=
 ⟨h.below.trans h'.below,fun b h1 h2=>(h'.rest b h1 (Nat.lt_of_lt_of_le h2 h.below.size)).trans (h.rest b h1 h2)⟩
theorem Only.of_ext (h:Ext w w') (hT:T<=w.heap.size):Only T w w':=⟨h.below.mono hT,fun b _ hb=>h.below.block b hb⟩
theorem Only.set (hT:T<w.heap.size) (i:Nat) (u:Value):Only T w (w.setCell ⟨T,i,none⟩ u):=
 ⟨(Below.refl T w).setCell (Nat.le_refl _) u,fun b h1 _=>Below.heap_setCell w ⟨T,i,none⟩ u b (by simp;omega)⟩
theorem Only.ext (h:Only T w w') (hx:Ext w0 w) (hT:w0.heap.size<=T):Ext w0 w':=⟨hx.below.trans (h.below.mono hT)⟩
theorem Only.size (h:Only T w w'):w.heap.size<=w'.heap.size:=h.below.size
theorem Only.setNew {p:Addr} (h:Only T w w') (hp:w.heap.size<=p.block) (hT:T<w.heap.size) (u:Value):Only T w (w'.setCell p u):=
 ⟨h.below.setCell (by omega) u,fun b h1 h2=>(Below.heap_setCell w' p u b (by omega)).trans (h.rest b h1 h2)⟩
end
def TapeAt (w:World) (T:Nat) (l:List Int) (k:Nat):Prop:=∃(te:TypeId) (A:Option Addr) (c:Nat),w.heap[T]? =some (.cells #[.slice A l.length c,.int .i64 (min k l.length:Nat)] 75 (0,0))/\Ints w A te .i8 l/\(0<l.length->∀a,A=some a->a.block<T)
theorem TapeAt.ext {w w':World} {T:Nat} {l:List Int} {k:Nat} (h:TapeAt w T l k) (hx:Ext w w'):TapeAt w' T l k:=by
 obtain ⟨te,A,c,h1,h2,h3⟩:=h
 exact ⟨te,A,c,heap_of_ext hx h1,h2.ext hx,h3⟩
theorem TapeAt.lt {w:World} {T:Nat} {l:List Int} {k:Nat} (h:TapeAt w T l k):T<w.heap.size:=by
 obtain ⟨te,A,c,h1,_⟩:=h
 exact lt_of_heap h1
def I8 (l:List Int):Prop:=∀x∈l,-128<=x/\x<=127
theorem I8.get {l:List Int} (h:I8 l) (k:Nat):-128<=l.getD k 0/\l.getD k 0<=127:=by
 rcases Nat.lt_or_ge k l.length with hk |hk
 ·have :l.getD k 0=l[k]:=by simp [List.getD,hk]
  rw [this];exact h _ (List.getElem_mem hk)
 ·rw [List.getD_eq_getElem?_getD,List.getElem?_eq_none hk];simp
def SmM (a:List (List Int)):Prop:=∀i j,-100<=ent a i j/\ent a i j<=100
theorem SmM.set {a:List (List Int)} {n i j:Nat} {z:Int} (h:SmM a) (hn:AllLen a n) (hi:i<a.length) (hj:j<n) (hz:-100<=z/\z<=100):SmM (setE a i j z):=fun x y=>by
 have hrl:(a.getD i []).length=n:=by
  have e:a.getD i []=a[i]:=by simp [List.getD,hi]
  rw [e];exact hn _ (List.getElem_mem hi)
 rw [ent_setE hi (by rw [hrl];exact hj)]
 split
 ·exact hz
 ·exact h x y
theorem mem_le_sum {l:List Int} {x:Int} (h:∀y∈l,1<=y) (hx:x∈l):x<=l.sum:=by
 induction l with
 |nil=>simp at hx
 |cons a l ih=>
  have h0:=sum_ge_len l (fun y hy=>h y (by simp [hy]))
  have h1:=h a (by simp)
  rw [List.sum_cons]
  rcases List.mem_cons.1 hx with rfl |hx
  ·omega
  ·have :=ih (fun y hy=>h y (by simp [hy])) hx
   omega
end Go.Proofs.YtpcgfpmiphiacaaGreat
namespace Go.Proofs.YtpcgfpmiphiacaaGreat
open Go.ChangeShapes Go.WideShapes Go.ChangeAt Go.RowKit Go.Joins
section
variable {H:Type} {enc:TypeId×Value->H} {P:Program} {W W':World} {sp:Nat->Bool}
theorem ints_open {t e:TypeId} {k:IntKind} {n:Nat} {v:Value} {y:DataW H×List MemPlace} (ht:P.underlying t=some (.slice e)) (he:P.underlying e=some (.int k)) (hc:P.cellsOf e=1)
  (h:DataW.trod enc P W 0 (fun _=>true) true n t [v]=some y):∃(A:Option Addr) (c:Nat) (l:List Int) (te:TypeId),v= .slice A l.length c/\l.length<=c/\c<=9223372036854775807/\Ints W A te k l/\∀x∈l,(Lit.int k x).wf=true:=by
 rcases open_ints ht he hc h with ⟨h1,h2⟩ |⟨a,len,cap,zs,hcs,hb0,hl,hm,hz,hx,hcell,hw⟩
 ·injection h1 with h1
  exact ⟨none,0,[],0,by rw [h1];rfl,Nat.le_refl _,by omega,Ints.nil,by simp⟩
 ·injection hcs with hcs
  rw [if_pos rfl] at hz
  have hlen:(zs.take len).length=len:=by rw [List.length_take];omega
  have hm2:cap<=9223372036854775807:=hm
  by_cases h0:len=0
  ·refine ⟨some a,cap,[],0,by rw [hcs,h0];rfl,by simp,hm2,Ints.nil,by simp⟩
  ·have hc0:=hcell 0 (by omega)
   have ha:a.add 0=a:=by simp [Addr.add]
   rw [ha] at hc0
   unfold World.cell? at hc0
   split at hc0
   ·rename_i c te fr hbl
    split at hc0
    ·cases hc0
    rename_i hsp
    obtain ⟨ab,ao,asp⟩:=a
    have has:asp=none:=by cases asp<;>simp_all
    subst has
    refine ⟨_,cap,zs.take len,te,by rw [hlen];exact hcs,by omega,hm2,fun _=>⟨ab,ao,c,fr,rfl,hbl,fun j u hu=>?_⟩,fun x hx=>hw x (List.mem_of_mem_take hx)⟩
    rw [List.getElem?_map,List.getElem?_take] at hu
    split at hu
    ·rename_i hj
     have hcj:=hcell j (by omega)
     rw [show (⟨ab,ao,none⟩:Addr).add j=⟨ab,ao+j,none⟩ by unfold Addr.add;split<;>simp_all] at hcj
     unfold World.cell? at hcj
     simp only [hbl] at hcj
     rw [List.getElem?_eq_getElem (by omega)] at hu
     simp at hu
     subst hu
     have :zs.getD j 0=zs[j]'(by omega):=by simp [List.getD,show j<zs.length by omega]
     rw [this] at hcj
     simpa using hcj
    ·cases hu
   ·cases hc0
end
theorem i8_wf {l:List Int} (h:∀x∈l,(Lit.int .i8 x).wf=true):I8 l:=fun x hx=>by
 have h:=h x hx
 have e1:IntKind.i8.min=-128:=rfl
 have e2:IntKind.i8.max=127:=rfl
 simp [Lit.wf] at h
 omega
end Go.Proofs.YtpcgfpmiphiacaaGreat
namespace Go.Proofs.YtpcgfpmiphiacaaGreat
set_option maxRecDepth 100000
def io:{L:List Char // Tryz.prog.initOrder.toList=L}:=⟨_,(congrArg String.toList (rfl:Tryz.prog.initOrder=String.ofList _)).trans String.toList_ofList⟩
theorem c_later:Tryz.prog.laysLater=false:=by kernel_rfl
theorem c_reflect:Tryz.prog.bearsReflect=false:=by kernel_rfl
theorem c_doors:Tryz.prog.doorRows=[]:=by kernel_rfl
theorem c_words : ∃ rest, behindMainWord (wordsSigns Tryz.prog.initOrder.toList) = "cut".toList :: rest := by
 rw [io.2]
 exact ⟨(behindMainWord (wordsSigns io.1)).tail,by kernel_rfl⟩
theorem make_of {P : Program} {m : Make} {rest : List (List Char)} (h : behindMainWord (wordsSigns P.initOrder.toList) = "cut".toList :: rest) (hm : m = .cut) : (P.make == some m) = true := by
 subst hm
 unfold Program.make
 rw [h]
 kernel_rfl
theorem lifts_of {P : Program} {b : Bool} {rest : List (List Char)} (h : behindMainWord (wordsSigns P.initOrder.toList) = "cut".toList :: rest) (hb : b = false) : (b == P.liftsFinal) = true := by
 subst hb
 unfold Program.liftsFinal Program.headLifts
 rw [h]
 kernel_rfl
theorem may_of {P : Program} {rest : List (List Char)} (h : behindMainWord (wordsSigns P.initOrder.toList) = "cut".toList :: rest) (h1 : P.laysLater = false) (h2 : P.bearsReflect = false) (h3 : P.doorRows = []) : P.mayEnter = true := by
 unfold Program.mayEnter Program.doorFits
 rw [h,h1,h2,h3]
 kernel_rfl
theorem c_may:Tryz.prog.mayEnter=true:=by
 obtain ⟨rest,h⟩:=c_words
 exact may_of h c_later c_reflect c_doors
theorem c_make {m:Make} (hm:m= .cut):(Tryz.prog.make==some m)=true:=by
 obtain ⟨rest,h⟩:=c_words
 exact make_of h hm
theorem c_lifts {b:Bool} (hb:b=false):(b==Tryz.prog.liftsFinal)=true:=by
 obtain ⟨rest,h⟩:=c_words
 exact lifts_of h hb
theorem c_laid:laidOutB Tryz.prog=true:=by kernel_rfl
theorem and_mk {a b:Bool} (ha:a=true) (hb:b=true):(a&&b)=true:=by rw [ha,hb];rfl
end Go.Proofs.YtpcgfpmiphiacaaGreat
