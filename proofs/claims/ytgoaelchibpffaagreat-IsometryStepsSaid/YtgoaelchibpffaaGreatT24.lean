import Derived.Test.YtgoaelchibpffaaGreatTSi
import Derived.Test.YtgoaelchibpffaaGreatT23
set_option maxHeartbeats 8000000
set_option linter.unusedVariables false
set_option linter.unusedSimpArgs false
namespace Go.Proofs.YtgoaelchibpffaaGreat
open List (getElem?_map mem_map map_map length_map length_take getD_eq_getElem?_getD length_set sum_append)
variable {cs cur:Array Value} {z:Int} {k:IntKind} {P m:List (List Int)} {F l:List Int} {N b c dc g h i j n nc pc sb so:Nat} {A DA NA PA:Option Addr} {T:TypeId} {w w' w0:World}
section
open Go.RowKit
structure VE where
 A:Option Addr
 c:Nat
 l:List Int
def VE.enc(x:VE):Value:= .slice x.A x.l.length x.c
def VE.ok(w:World)(x:VE):Prop:=Ints w x.A 2 .i64 x.l/\x.l.length<=1099511627776/\x.l.length<=x.c/\x.c<=9223372036854775807
structure VEw(w:World)where
 val:VE
 ok:val.ok w
instance (w:World):Inhabited (VEw w):=⟨⟨⟨none,0,[]⟩,Ints.nil,af⟩⟩
def QQ(w:World)(x:VEw w):Value:=x.val.enc
def cfV(w:World)(x y:VEw w):Int:=zn x.val.l y.val.l
theorem zpY(w:World):Sort.SWO (ltOf (cfV w)) where
 irrefl x:=by simp[ltOf,cfV,jk]
 trans x y z h1 h2:=decide_eq_true (JT _ _ _ (of_decide_eq_true h1) (of_decide_eq_true h2))
 ntrans x y z h1 h2:=by
  have h1:¬zn x.val.l y.val.l<0:=of_decide_eq_false h1;have h2:¬zn y.val.l z.val.l<0:=of_decide_eq_false h2;refine decide_eq_false (fun(h3:zn x.val.l z.val.l<0)=>?_);have e2:=Qc x.val.l y.val.l;have e3:=Qc y.val.l z.val.l;rcases zau x.val.l y.val.l with h|h|h
  ·omega
  ·have:=jH _ _ h;rw[this]at h3;omega
  ·rcases zau y.val.l z.val.l with k|k|k
   ·omega
   ·have:=jH _ _ k;rw[<-this]at h3;omega
   ·have:=JT _ _ _ ((aa:zn z.val.l y.val.l<0)) ((aa:zn y.val.l x.val.l<0));have e1:=Qc x.val.l z.val.l;omega
theorem zey{α:Type}[Inhabited α](enc:α->Value)(w:World)(g m:Nat)(d:Array α)(os:Array Obj)(hb:b<w.heap.size)(hne:b≠g):(sortWorld enc w g 0 m d os).heap[b]? =w.heap[b]? :=by
 have h1:(sortWorld enc w g 0 m d os).heap[b]? =(w.heap.modify g (Sort.onCells (Sort.putCells enc 0 d)))[b]? :=by
  show ((w.heap.modify g _)++os)[b]? =_;rw[Array.getElem?_append_left (by simpa using hb)]
 rw[h1,Array.getElem?_modify,if_neg (fun h=>hne h.symm)]
theorem zpZ{α:Type}[Inhabited α](enc:α->Value)(w:World)(g m:Nat)(d:Array α)(os:Array Obj)(hg:w.heap[g]? =some (.cells cur T (0,0))):(sortWorld enc w g 0 m d os).heap[g]? =some (.cells (Sort.putCells enc 0 d cur) T (0,0)):=by
 have h1:(sortWorld enc w g 0 m d os).heap[g]? =(w.heap.modify g (Sort.onCells (Sort.putCells enc 0 d)))[g]? :=by
  show ((w.heap.modify g _)++os)[g]? =_;rw[Array.getElem?_append_left (by simpa using zi hg)]
 rw[h1,Array.getElem?_modify,if_pos rfl,hg];rfl
theorem zp0{α:Type}[Inhabited α](enc:α->Value)(w:World)(g m:Nat)(d:Array α)(os:Array Obj){B:Nat}(hB:B<=g)(hg:g<w.heap.size):Below B w (sortWorld enc w g 0 m d os):=
 ⟨rfl,rfl,rfl,by show w.heap.size<=((w.heap.modify g _)++os).size;simp,fun b hb=>zey enc w g m d os aa aa⟩
theorem VE.ok_sort{α:Type}[Inhabited α](enc:α->Value){m:Nat}{d:Array α}{os:Array Obj}(hg:w.heap[g]? =some (.cells cur 34 (0,0))){x:VE}(h:x.ok w):x.ok (sortWorld enc w g 0 m d os):=by
 refine⟨h.1.keep fun b cs fr hb=>zey enc w g m d os (zi hb) (fun hh=>?_),h.2⟩;subst hh;rw[hg]at hb;injection hb with hb
 injection hb with _ he
 exact absurd he ac
def VRowV(w:World)(g:Nat)(els:List VE):Prop:=∃cur,w.heap[g]? =some (.cells cur 34 (0,0))/\∀(i:Nat)(x:VE),els[i]? =some x->cur[i]? =some x.enc
theorem VRowV.cell{els:List VE}(h:VRowV w g els){x:VE}(hx:els[i]? =some x):w.cell? ⟨g,i,none⟩=some x.enc/\w.frozen? ⟨g,i,none⟩=false/\g<w.heap.size:=by
 obtain⟨cur,hg,hc⟩:=h;exact⟨by rw[cell_of_row w g i _ _ _ hg];exact hc i x hx,by simp[World.frozen?,hg],zi hg⟩
theorem VRowV.holds{D:List (VEw w0)}(h:VRowV w g (D.map VEw.val)):Sort.Holds (QQ w0) w g 0 D.toArray:=fun j hj=>by
 have hj2:j<D.length:=by simpa using hj
 obtain⟨x,hx⟩:∃x,D[j]? =some x:=⟨_,Ze hj2⟩;have h1:=h.cell (i:=j) (x:=x.val) (by rw[getElem?_map,hx];rfl);have:D.toArray[j]! =x:=by simp[hx]
 rw[Nat.zero_add,this];exact⟨h1.1,h1.2.1⟩
theorem ziC{els:List VE}(hok:∀x∈els,x.ok w):∃D:List (VEw w),D.map VEw.val=els:=⟨els.pmap VEw.mk hok,by rw[List.map_pmap];simp⟩
theorem zp1{cap:Nat}{els:List VE}(zsr:VRowV w g els)(hok:∀x∈els,x.ok w)(hn:els.length<4611686018427387904):
  Cq 92 #[.slice (some ⟨g,0,none⟩) els.length cap,.func (.func 93) #[] #[]] w fun e w'=>e= .returned (.tuple #[])/\∃els':List VE,els'.Perm els/\els'.Pairwise (fun x y=>¬zn y.l x.l<0)/\VRowV w' g els'/\(∀x∈els',x.ok w')/\Same g w w':=by
 obtain⟨D,hD⟩:=ziC hok;have hDl:D.length=els.length:=by rw[<-hD];simp
 rw[<-hD]at zsr;have hH:=zsr.holds;obtain⟨cur,hg,ztV⟩:=zsr;have ztW:CmpLays1 Tryz.prog 93 #[] (QQ w) (cfV w) g 0 D.toArray.size w:=CmpReads.lays fun m os dk _ x y=>by
  have hx:=VE.ok_sort (QQ w) (m:=m) (d:=dk) (os:=os) hg x.ok;have hy:=VE.ok_sort (QQ w) (m:=m) (d:=dk) (os:=os) hg y.ok;exact(zdF hx.1 hy.1 hx.2.1 hy.2.1).mono fun e w' h=>⟨h.1,0,h.2.symm⟩
 have h:=Any.slices_SortFunc (P:=Tryz.prog) Tryz.laysSortV (QQ w) (fun x=>rfl) (cfV w) (zpY w) 93 #[] g 0 cap D.toArray w (enters_of Tryz.func93 ai rfl) ztW hH (zi hg) (by simpa[hDl] using hn);have e0:D.toArray.size=els.length:=by simpa using hDl
 rw[e0]at h;refine h.mono ?_;rintro e w' ⟨he,d',n,os,⟨hp1,-,hp2⟩,hs,hw⟩;refine⟨he,d'.toList.map VEw.val,?_,?_,?_,?_,?_⟩
 ·have e1:d'.extract 0 els.length=d':=by apply Array.ext';simp;rw[List.take_of_length_le (by simp;omega)]
  have e2:(D.toArray).extract 0 els.length=D.toArray:=by rw[<-e0];exact Array.extract_size
  rw[e1,e2]at hp2;rw[<-hD];exact hp2.map _
 ·rw[List.pairwise_map,List.pairwise_iff_getElem];intro i j hi hj hij;have:=hs i j (Nat.zero_le _) hij (by simp at hj;omega);have e3:d'[j]! =d'.toList[j]:=by simp at hj;simp[hj]
  have e4:d'[i]! =d'.toList[i]:=by simp at hi;simp[hi]
  rw[e3,e4]at this;exact of_decide_eq_false this
 ·refine⟨_,by rw[hw];exact zpZ (QQ w) w g n d' os hg,fun i x hx=>?_⟩;rw[getElem?_map]at hx;obtain⟨y,hy,rfl⟩:∃y,d'.toList[i]? =some y/\y.val=x:=by
   cases hh:d'.toList[i]? with
   |none=>rw[hh]at hx;cases hx
   |some y=>rw[hh]at hx;exact⟨y,rfl,by simpa using hx⟩
  have hi:i<d'.size:=by simpa using (Zg.1 hy).1
  have hdi:d'[i]! =y:=by
   have:=(Zg.1 hy).2;simp[hi];simpa using this
  have hcs:i<cur.size:=by
   have zss:i<D.length:=aa
   have:=ztV i D[i].val (by simp[zss]);exact(Array.getElem?_eq_some_iff.1 this).1
  unfold Sort.putCells;rw[Array.getElem?_mapIdx,Array.getElem?_eq_getElem hcs];simp only[Option.map_some];rw[if_pos aa,Nat.sub_zero,hdi];rfl
 ·intro x hx;obtain⟨y,-,rfl⟩:=mem_map.1 hx;rw[hw];exact VE.ok_sort (QQ w) hg y.ok
 ·rw[hw];exact⟨fun b hb hne=>zey _ w g n d' os hb hne,fun B hB=>zp0 _ w g n d' os hB (zi hg)⟩
theorem SW.ext{D:List (VEw w)}(hH:Sort.Holds (QQ w) w g 0 D.toArray)(h:SW (QQ w) w g 0 D.toArray w'):Ext w w':=by
 obtain⟨n,os,rfl⟩:=h;unfold sortWorld;rw[Sort.putRow_self _ _ _ _ _ (Sort.holds_ahead _ _ n _ _ _ hH)];exact⟨⟨rfl,rfl,rfl,by simp[Sort.grow,Sort.ahead],fun b hb=>Sort.heap_grow_old (Sort.ahead w n) os hb⟩⟩
def zp2(w:World)(P:List (List Int))(y:List Int)(e:Ending)(w':World):Prop:=∃(i:Nat) (b:Bool),e= .returned (.tuple #[.int .i64 i,.bool b])/\i<=P.length/\(b=true->P[i]? =some y)/\(b=false->y∉P)/\Step w w'
theorem zp3{cap:Nat}{els:List VE}{Y:Option Addr}{y:List Int}(zsr:VRowV w g els)(hok:∀x∈els,x.ok w)(hn:els.length<4611686018427387904)(hs:(els.map VE.l).Pairwise (fun x y=>zn x y<0))(hY:Ints w Y 2 .i64 y)(hy:y.length<=1099511627776):
  Cq 152 #[.slice (some ⟨g,0,none⟩) els.length cap,.slice Y y.length c,.func (.func 93) #[] #[]] w (zp2 w (els.map VE.l) y):=by
 obtain⟨D,hD⟩:=ziC hok;have hDl:D.length=els.length:=by rw[<-hD];simp
 rw[<-hD]at zsr;have hH:=zsr.holds;obtain⟨cur,hg,ztV⟩:=zsr;have ztW:CmpLaysT Tryz.prog 93 #[] (QQ w) (.slice Y y.length c) (fun x=>zn x.val.l y) g 0 D.toArray.size w:=fun m os dk _ x=>by
  have hx:=VE.ok_sort (QQ w) (m:=m) (d:=dk) (os:=os) hg x.ok;have hy:=VE.ok_sort (QQ w) (m:=m) (d:=dk) (os:=os) hg (x:=⟨Y,y.length,y⟩) ⟨hY,hy,Zr,Nat.le_trans hy ac⟩;exact(zdF hx.1 hy.1 hx.2.1 hy.2.1).mono fun e w' h=>⟨h.1,0,#[],by rw[Sort.grow_empty];exact h.2.symm⟩
 have hpl:D.Pairwise fun a b=>zn a.val.l b.val.l<0:=by
  rw[<-hD,map_map,List.pairwise_map]at hs;exact hs
 have zsX:∀i(hi:i<D.length),D.toArray[i]! =D[i]:=fun i hi=>by simp[hi]
 have h:=Any.slices_BinarySearchFunc (P:=Tryz.prog) Tryz.laysFindV (QQ w) (fun x=>rfl) (.slice Y y.length c) (fun x=>zn x.val.l y) 93 #[] g 0 cap D.toArray w (enters_of Tryz.func93 ai rfl) ztW hH (zi hg) (by simpa[hDl] using hn) (fun a b hab hb h0=>by
  have hb:b<D.length:=by simpa using hb
  rw[zsX b hb]at h0;rw[zsX a aa];rcases Zl a b with h|h
  ·exact JT _ _ _ (List.pairwise_iff_getElem.1 hpl a b aa hb h) h0
  ·obtain rfl:a=b:=aa
   exact h0)
 have e0:D.toArray.size=els.length:=by simpa using hDl
 rw[e0]at h;refine h.mono ?_;rintro e w' ⟨he,hsw⟩;obtain⟨i,hi⟩:∃i,i=D.countP fun x=>decide (zn x.val.l y<0):=⟨_,rfl⟩
 have hil:i<=D.length:=by rw[hi];exact List.countP_le_length
 have e9:D.toArray.toList=D:=rfl;rw[e9,<-hi]at he;refine⟨i,_,he,by rw[length_map];omega,fun hb=>?_,fun hb=>?_,(SW.ext hH hsw).toStep⟩
 ·rw[Bool.and_eq_true]at hb;have h1:=of_decide_eq_true hb.1;have h2:=of_decide_eq_true hb.2;rw[zsX i aa]at h2;have:=jH _ _ h2;rw[<-hD,map_map,getElem?_map,Ze aa];exact congrArg some this
 ·intro hm;rw[<-hD,map_map]at hm;obtain⟨x,hx,hxy⟩:=mem_map.1 hm;obtain⟨j,hj,hjx⟩:=List.getElem_of_mem hx;have hxy:x.val.l=y:=hxy;-- what is before j is less, what is behind it is not
  have zs7:i=j:=by
   rw[hi];have zxw:D=D.take j++D.drop j:=(List.take_append_drop j D).symm;have h1:(D.take j).countP (fun x=>decide (zn x.val.l y<0))=j:=by
    have:(D.take j).countP (fun x=>decide (zn x.val.l y<0))=(D.take j).length:=by
     rw[List.countP_eq_length];intro z hz;obtain⟨k,hk,hkz⟩:=List.getElem_of_mem hz;rw[length_take]at hk;rw[List.getElem_take]at hkz;have:=List.pairwise_iff_getElem.1 hpl k j aa hj aa;rw[hkz,hjx,hxy]at this;exact decide_eq_true this
    rw[this,length_take];omega
   have h2:(D.drop j).countP (fun x=>decide (zn x.val.l y<0))=0:=by
    rw[List.countP_eq_zero];intro z hz;obtain⟨k,hk,hkz⟩:=List.getElem_of_mem hz;rw[List.length_drop]at hk;rw[List.getElem_drop]at hkz;rcases Nat.eq_zero_or_pos k with h0|h0
    ·subst h0;have:z=x:=by rw[<-hkz,<-hjx];rfl
     rw[this,hxy,jk];decide
    ·have:=List.pairwise_iff_getElem.1 hpl j (j+k) hj aa aa;rw[hkz,hjx,hxy]at this;have e:=Qc y z.val.l;simp;omega
   rw[zxw,List.countP_append,h1,h2];rfl
  subst zs7;rw[zsX i hj,hjx,hxy,jk]at hb;simp at hb;omega
end
section
open Go.RowKit La
theorem zez(h:z<18446744073709551616):0<=QO z/\QO z<18446744073709551616:=by
 unfold QO;have:=zpW z.toNat aa;omega
theorem zeA(z:Int):wU z=z%18446744073709551616:=IntKind.wrap_u64 z
theorem zaN(z:Int):0<=wU z/\wU z<18446744073709551616:=by rw[zeA];omega
theorem zeB(c i:Int):0<=Jb c i/\Jb c i<18446744073709551616:=zez (zaN _).2
theorem ziD(m:List (List Int))(c:List Int->Int)(p x:List Int):0<=qQ m c p x/\qQ m c p x<18446744073709551616:=zeB _ _
theorem zeC(h0:0<=z)(h:z<18446744073709551616):Cq 210 #[.int .u64 z] w (Zq w (.int .u64 (QO z))):=by
 obtain⟨X,rfl⟩:∃X:Nat,z=X:=⟨z.toNat,aa⟩;exact zpX X aa
theorem zeD{c i:Int}(h0:0<=c)(h:c<18446744073709551616)(hi0:-9223372036854775808<=i)(hi:i<=9223372036854775807):Cq 211 #[.int .u64 c,.int .i64 i] w (Zq w (.int .u64 (Jb c i))):=by
 have e:IntKind.u64.wrap (IntKind.u64.wrap (c+IntKind.u64.wrap (IntKind.u64.wrap i*0x9e3779b97f4a7c15))+1)=wU (c+i*0x9e3779b97f4a7c15+1):=by
  unfold wU;simp only[IntKind.wrap_u64];omega
 have HM:=Zh (fun W=>zeC (w:=W) (zaN (c+i*0x9e3779b97f4a7c15+1)).1 (zaN _).2);rw[<-e]at HM;have HV:Hid (Jb c i=QO (IntKind.u64.wrap (IntKind.u64.wrap (c+IntKind.u64.wrap (IntKind.u64.wrap i*0x9e3779b97f4a7c15))+1))):=Zh (by rw[e];rfl);rw[HV.out];clear HV e;go_enter Tryz.func211,Tryz.ntmps211;go_wp2_with (go_at_call 210;refine(HM.out _).mono ?_;rintro e w' ⟨rfl,rfl⟩)
 go_ret;exact⟨rfl,rfl⟩
theorem Only.at_(h:Only g w w')(hb:b<w.heap.size)(hne:b≠g):w'.heap[b]? =w.heap[b]? :=by
 rcases Zl b g with h1|h1
 ·exact h.below.block b h1
 ·exact h.rest b aa hb
theorem Only.othU(h:Only g w w')(hg:Row w g 155 .u64 l):Oth 155 w w':=fun b cs e fr hne hb=>(h.at_ (zi hb) (fun e'=>by
 subst e';unfold Row at hg;rw[hg]at hb;injection hb with hb
 injection hb with _ he
 exact hne he.symm)).trans hb
theorem Row.only{e:TypeId}(h:Row w b e k l)(ho:Only g w w')(hne:b≠g):Row w' b e k l:=(ho.at_ h.lt hne).trans h
theorem Only.cell(h:Only g w w'){p:Addr}(hp:p.block<w.heap.size)(hne:p.block≠g):w'.cell? p=w.cell? p:=by
 unfold World.cell?;rw[h.at_ hp hne]
def qy(F l:List Int)(j:Nat):List Int:=(List.range l.length).map fun t=>if t<j∨l.length<=t+j then F.getD t 0 else l.getD t 0
theorem qR(F l:List Int)(j:Nat):(qy F l j).length=l.length:=by simp[qy]
theorem zcN(F l:List Int)(j:Nat){t:Nat}(ht:t<l.length):(qy F l j)[t]? =some (if t<j∨l.length<=t+j then F.getD t 0 else l.getD t 0):=by simp[qy,ht]
theorem ziE(F l:List Int):qy F l 0=l:=by
 refine List.ext_getElem? fun t=>?_
 by_cases ht:t<l.length
 ·rw[zcN _ _ _ ht,if_neg aa,getD_eq_getElem?_getD,Ze ht];rfl
 ·rw[List.getElem?_eq_none (by rw[qR];omega),List.getElem?_eq_none aa]
theorem ziF(hl:l.length=2*h)(hF:F.length=l.length):qy F l h=F:=by
 refine List.ext_getElem? fun t=>?_
 by_cases ht:t<l.length
 ·rw[zcN _ _ _ ht,if_pos aa,getD_eq_getElem?_getD,Ze aa];rfl
 ·rw[List.getElem?_eq_none (by rw[qR];omega),List.getElem?_eq_none aa]
theorem ziG(hl:l.length=2*h)(hj:j<h):((qy F l j).set j (F.getD j 0)).set (l.length-1-j) (F.getD (l.length-1-j) 0)=qy F l (j+1):=by
 refine List.ext_getElem? fun t=>?_
 rw[List.getElem?_set,List.getElem?_set,length_set,qR];by_cases ht:t<l.length
 ·rw[zcN _ _ _ ht,zcN _ _ _ ht];by_cases e1:l.length-1-j=t
  ·subst e1;rw[if_pos rfl,if_pos ht,if_pos aa]
  ·rw[if_neg e1];by_cases e2:j=t
   ·subst e2;rw[if_pos rfl,if_pos aa,if_pos aa]
   ·rw[if_neg e2];congr 1
    by_cases e3:t<j∨l.length<=t+j
    ·rw[if_pos e3,if_pos aa]
    ·rw[if_neg e3,if_neg aa]
 ·rw[if_neg aa,if_neg aa,List.getElem?_eq_none (by rw[qR];omega),List.getElem?_eq_none (by rw[qR];omega)]
def jw(F:List Int):Nat->Int
 |0=>0
 |j+1=>jw F j+(F.getD j 0+F.getD (F.length-1-j) 0)
theorem ziH :∀j,2*j<=F.length->jw F j=(F.take j).sum+(F.drop (F.length-j)).sum
 |0,_=>by simp[jw]
 |j+1,h=>by
  rw[jw,ziH j aa,List.take_add_one,sum_append];have e1:F[j]? =some (F.getD j 0):=by rw[getD_eq_getElem?_getD,Ze aa];rfl
  have e2:F.drop (F.length-(j+1))=F.getD (F.length-1-j) 0::F.drop (F.length-j):=by
   rw[List.drop_eq_getElem_cons aa,getD_eq_getElem?_getD,Ze ((aa:F.length-1-j<F.length))];simp only[(aa:F.length-(j+1)=F.length-1-j),(aa:F.length-1-j+1=F.length-j),Option.getD_some]
  rw[e1,e2];simp;omega
theorem zp4(hl:F.length=2*h):jw F h=F.sum:=by
 rw[ziH h aa,(aa:F.length-h=h),<-sum_append,List.take_append_drop]
structure SysM(w:World)(sb so N pc dc:Nat)(PA DA:Option Addr)(m P:List (List Int)):Prop where
 cp:w.cell? ⟨sb,so,none⟩=some (.slice PA N pc)
 cd:w.cell? ⟨sb,so+1,none⟩=some (.slice DA N dc)
 lt:sb<w.heap.size
 pts:Mat64 w PA P
 duals:Mat64 w DA (P.map (zC m))
 len:P.length=N
def zcO(w:World)(g:Nat)(m P:List (List Int))(c:List Int->Int)(p:List Int)(e:Ending)(w':World):Prop:=e= .returned (.int .u64 (wU (zQ P (qQ m c p))))/\Row w' g 155 .u64 (P.map (qQ m c p))/\Only g w w'
theorem ziI(zsw:P.reverse.map (fun x=>x.map fun c=>-c)=P){x:List Int}(hj:P[j]? =some x):P[P.length-1-j]? =some (x.map fun c=>-c):=by
 have hl:=(Zg.1 hj).1;have h:=congrArg (fun l=>l[P.length-1-j]?) zsw;simp only[getElem?_map]at h;rw[List.getElem?_reverse aa,(aa:P.length-1-(P.length-1-j)=j),hj]at h;exact h.symm
theorem ziJ(m:List (List Int))(x y:List Int):zE m x (y.map fun c=>-c)=-zE m x y:=by
 unfold zE;rw[<-Int.neg_one_mul,<-jP];refine zT fun i _=>?_
 have e:(zj m.length fun j=>ent m i j*(y.map fun c=>-c).getD j 0)=-1*zj m.length fun j=>ent m i j*y.getD j 0:=by
  rw[<-jP];exact zT fun j _=>by rw[zcB,Int.mul_neg,Int.neg_one_mul]
 rw[e,<-Int.mul_assoc,<-Int.mul_assoc,Int.mul_comm (-1)]
set_option maxRecDepth 20000 in
theorem ziK{cc cg:Nat}{c:List Int->Int}{p:List Int} 
  (hS:SysM w sb so N pc dc PA DA m P) (hsg:sb≠g) (hN:N=2*h) (hN8:N<=100000) (hC:Row w cg 155 .u64 (P.map c)) (hcg:cg≠g) (hG:Row w g 155 .u64 l) (hl:l.length=N) (hcb:∀x∈P,0<=c x/\c x<18446744073709551616)
  (hp:P[i]? =some p) (hml:m.length=n) (zsr:∀x∈P,x.length=n) (hn:n<=1000) (zsw:P.reverse.map (fun x=>x.map fun c=>-c)=P) (hip:∀x∈P,∀y∈P,zE m x y=zx (zY m x) y):
  Cq 213 #[.pointer (some ⟨sb,so,none⟩),.slice (some ⟨cg,0,none⟩) N cc,.int .i64 i,.slice (some ⟨g,0,none⟩) N nc] w (zcO w g m P c p):=by
 obtain⟨F,hF⟩:=Yz (P.map (qQ m c p));have hFl:F.length=N:=by rw[<-hF,length_map];exact hS.len
 have zro:Hid (wU (zQ P (qQ m c p))=wU (jw F h)):=Zh (by
  unfold zQ;rw[hF,zp4 aa])
 have hFb:∀z∈F,0<=z/\z<18446744073709551616:=fun z hz=>by
  rw[<-hF]at hz;obtain⟨x,-,rfl⟩:=mem_map.1 hz;exact ziD _ _ _ _
 have hFx:∀(j:Nat)(x:List Int),P[j]? =some x->F.getD j 0=Jb (c x) (wI (zE m p x)):=fun j x hx=>by
  rw[<-hF,getD_eq_getElem?_getD,getElem?_map,hx];rfl
 have hpm:p∈P:=Zm hp;have hiN:i<N:=by have h1:=(Zg.1 hp).1;rw[hS.len]at h1;exact h1
 have hdv:(N:Int) / 2=(h:Int):=aa
 have hN1:2*h<=N/\N<=2*h:=aa
 obtain⟨bd,od,DB,dcp,rfl,d1,hDB,d3,d4,d5⟩:=hS.duals.at_ (i:=i) (r:=zC m p) (by rw[getElem?_map,hp];rfl);have hlA:(zC m p).length=n:=by simp[zC,hml]
 rw[hlA]at d1 d3;have HS:=Zh hS;have HC:=Zh hC;have HCB:=Zh hcb;have HR:=Zh zsr;have HSY:=Zh zsw;have HIP:=Zh hip;have HFX:=Zh hFx;have HFL:=Zh hFl;have HFB:=Zh hFb;have HLL:=Zh hl;have HDB:=Zh hDB;have HLA:=Zh hlA;have HPM:=Zh hpm;have HM0:Hid (Row w g 155 .u64 (qy F l 0)):=Zh (by rw[ziE];exact hG);have HG:=Zh hG;have s1:=hS.cp;have s2:=hS.cd;have oS:Old sb w:=⟨hS.lt⟩;have oD:Old bd w:=⟨d5⟩;have hgl:=hG.lt
 have hcl:=hC.lt;unfold zcO;rw[zro.out,hF];clear zro hS hC hcb zsr zsw hip hFx hFl hFb hl hDB hlA hpm hG hp hF hN hml;go_enter Tryz.func213,Tryz.ntmps213;go_wp2_with fail
 go_loopw [11,12,13,33] (fun t _ _ j wr=>∃k:Nat,k<=h/\j= .int .i64 k/\t= .int .u64 (wU (jw F k))/\Hid (Row wr g 155 .u64 (qy F l k))/\Hid (Only g w wr)) (fun _ _ _ j _=>h-(intOf j).toNat)
 case atStart=>exact⟨0,aa,rfl,rfl,HM0,Zh (Only.refl _ _)⟩
 case round=>
  obtain⟨k,hk,rfl,rfl,HM,HO⟩:=hrel;have hOth:=HO.out.othU HG.out;by_cases hlt:k<h
  ·obtain⟨x,hx⟩:∃x,P[k]? =some x:=⟨_,Ze (by rw[HS.out.len];omega)⟩;have hxm:=Zm hx;have hxr:=ziI HSY.out hx;rw[HS.out.len]at hxr;have zvU:=Zm hxr;obtain⟨pb,po,B,c1,rfl,p1,hB,p3,p4,p5⟩:=(HS.out.pts.oth hOth ac ac).at_ hx;rw[HR.out x hxm]at p1 p3;have q1:wr.cell? ⟨sb,so,none⟩=some (.slice (some ⟨pb,po,none⟩) N pc):=(HO.out.cell (p:=⟨sb,so,none⟩) HS.out.lt hsg).trans s1;have oSr:Old sb wr:=⟨Nat.lt_of_lt_of_le HS.out.lt HO.out.size⟩
   have oPr:Old pb wr:=⟨p5⟩;have hdw:z6 (zC m p) x=wI (zE m p x):=by rw[zbu];unfold z6;rw[HIP.out p HPM.out x hxm];rfl
   have HD:=Zh (fun W(e:Ext wr W)=>J4 (w0:=wr) (w:=W) (c:=dcp) (d:=c1) ⟨_,HDB.out.oth hOth ac⟩ ⟨_,hB⟩ HLA.out (HR.out x hxm) Zr aa);rw[hdw]at HD;have hC:=HC.out.only HO.out hcg;obtain⟨ca,hca,a1⟩:=hC.cell (i:=k) (by rw[length_map,HS.out.len];omega);obtain⟨cb,hcb,a2⟩:=hC.cell (i:=N-1-k) (by rw[length_map,HS.out.len];omega);rw[getElem?_map,hx]at hca;rw[getElem?_map,hxr]at hcb
   simp only[Option.map_some,Option.some.injEq]at hca hcb;have b1:=HCB.out x hxm;have b2:=HCB.out _ zvU;rw[hca]at b1;rw[hcb]at b2;obtain⟨v,hv⟩:=Yz (wI (zE m p x));have hvb:-9223372036854775808<=v/\v<=9223372036854775807:=by rw[<-hv];unfold wI;simp only[IntKind.wrap_i64];omega
   have hv2:wI (zE m p (x.map fun c=>-c))=IntKind.i64.wrap (-v):=by
    rw[ziJ,<-hv];unfold wI;simp only[IntKind.wrap_i64];omega
   obtain⟨v2,zvV⟩:=Yz (IntKind.i64.wrap (-v));have zu0:-9223372036854775808<=v2/\v2<=9223372036854775807:=by rw[<-zvV];simp only[IntKind.wrap_i64];omega
   rw[hv]at HD;have hf1:=HFX.out k x hx;have hf2:=HFX.out (N-1-k) _ hxr;rw[hca,hv]at hf1;rw[hcb,hv2,zvV]at hf2;have HB1:=Zh (fun W=>zeD (w:=W) (c:=ca) (i:=v) b1.1 b1.2 hvb.1 hvb.2);have HB2:=Zh (fun W=>zeD (w:=W) (c:=cb) (i:=v2) b2.1 b2.2 zu0.1 zu0.2);rw[<-hf1]at HB1;rw[<-hf2]at HB2;obtain⟨y1,hy1,m1⟩:=HM.out.cell (i:=k) (by rw[qR,HLL.out];omega);have m2:=HM.out.frozen k;obtain⟨y2,hy2,m3⟩:=HM.out.cell (i:=N-1-k) (by rw[qR,HLL.out];omega)
   have m4:=HM.out.frozen (N-1-k);have hgr:=HM.out.lt;have hcr:=hC.lt;have HST:=Zh (ziG (F:=F) (l:=l) (h:=h) (j:=k) (by rw[HLL.out];omega) hlt);rw[HLL.out]at HST;have zyB:0<=F.getD k 0/\F.getD k 0<18446744073709551616:=by rw[hf1];exact zeB _ _
   have zyC:0<=F.getD (N-1-k) 0/\F.getD (N-1-k) 0<18446744073709551616:=by rw[hf2];exact zeB _ _
   have HSU:Hid (wU (jw F (k+1))=IntKind.u64.wrap (wU (jw F k)+IntKind.u64.wrap (F.getD k 0+F.getD (N-1-k) 0))):=Zh (by
    rw[jw,HFL.out];unfold wU;simp only[IntKind.wrap_u64];omega)
   have HCC:=Zh hC;have zu1:(N:Int)-1-(k:Int)=((N-1-k:Nat):Int):=aa
   generalize F.getD k 0=f1 at*
   generalize F.getD (N-1-k) 0=f2 at*
   generalize wU (jw F k)=t0 at*
   clear hdw hC hca hcb hx hxm hxr zvU hv hv2 hf1 hf2 hB hy1 hy2 hOth p3 p4;go_upto_region 9 with (first
    |(go_at_call 91;refine(HD.out _ Zi).mono ?_;rintro e w5 ⟨rfl,rfl⟩)
    |(go_at_call 211;refine(HB1.out _).mono ?_;rintro e w6 ⟨rfl,rfl⟩))
   have hR7:=HM.out.set k f1;have hC7:=HCC.out.far (p:=⟨g,k,none⟩) hcg (.int .u64 f1);have hO7:=HO.out.trans (Only.set hgr k (.int .u64 f1));have hx7:wr.heap.size=(wr.setCell ⟨g,k,none⟩ (.int .u64 f1)).heap.size:=(ZE _ _ _).symm;generalize wr.setCell ⟨g,k,none⟩ (.int .u64 f1)=w7 at*
   obtain⟨z1,hz1,n1⟩:=hC7.cell (i:=N-1-k) (by rw[length_map,HS.out.len];omega);obtain⟨z2,hz2,n2⟩:=hR7.cell (i:=N-1-k) (by rw[length_set,qR,HLL.out];omega);have n3:=hR7.frozen (N-1-k);have hz:z1=cb:=by
    have h1:=HCC.out.cell (i:=N-1-k) (by rw[length_map,HS.out.len];omega);obtain⟨z,e1,e2⟩:=h1;rw[a2]at e2;rw[hz1]at e1;injection e1 with e1
    injection e2 with e2
    injection e2 with _ e2
    omega
   subst hz;have hg7:=hR7.lt;have hc7:=hC7.lt;have HR7:=Zh hR7;have HO7:=Zh hO7;clear a1 a2 m1 m2 m3 m4 q1 p1 hR7 hC7 hO7 hz1 hz2 HD HB1;rw[zu1] at*
   go_upto_region 10 with (go_at_call 211;refine(HB2.out _).mono ?_;rintro e w6 ⟨rfl,rfl⟩)
   have hR8:=HR7.out.set (N-1-k) f2;rw[HST.out]at hR8;have hO8:=HO7.out.trans (Only.set hg7 (N-1-k) (.int .u64 f2));have HG1:Hid ((qy F l (k+1))[k]? =some f1/\(qy F l (k+1))[N-1-k]? =some f2):=Zh (by
    rw[<-HST.out];have hl1:((qy F l k).set k f1).length=N:=by rw[length_set,qR,HLL.out]
    refine⟨?_,by rw[List.getElem?_set_self aa]⟩;rw[List.getElem?_set_ne aa,List.getElem?_set_self (by rw[length_set]at hl1;omega)])
   generalize w7.setCell ⟨g,N-1-k,none⟩ (.int .u64 f2)=w8 at*
   obtain⟨u1,e1,r1⟩:=hR8.cell (i:=k) (by rw[qR,HLL.out];omega);obtain⟨u2,e2,r2⟩:=hR8.cell (i:=N-1-k) (by rw[qR,HLL.out];omega);rw[HG1.out.1]at e1;rw[HG1.out.2]at e2;obtain rfl:f1=u1:=by injection e1
   obtain rfl:f2=u2:=by injection e2
   have HR8:=Zh hR8;have HO8:=Zh hO8;clear n1 n2 n3 hR8 hO8 e1 e2 HB2;go_region
   all_goals
    go_wp2_with fail
    exact⟨⟨k+1,aa,by go_num,congrArg (Value.int IntKind.u64) HSU.out.symm,Zh (HR8.out.ext Zi),Zh (HO8.out.trans (Only.of_ext Zi (Nat.le_of_lt (zi HR8.out))))⟩,by simp[intOf];omega⟩
  ·obtain rfl:k=h:=aa
   have hmf:qy F l k=F:=ziF (by rw[HLL.out];omega) (by rw[HLL.out,HFL.out]);rw[hmf]at HM;go_wp2_with fail
   go_ret;exact⟨rfl,HM.out,HO.out⟩
end
section
open Go.RowKit
def ziL(w:World)(m:List (List Int))(q:Nat)(budget:Int)(e:Ending)(w':World):Prop:=
 (∃B d L,e= .returned (.tuple #[.slice B (List.length L) d,.int .i64 (zP m q),.int .i64 0])/\Mat64 w' B L/\L.length<=d/\d<=9223372036854775807/\VecList m q false L/\L.length<=4096/\zP m q<=budget/\Step w w')∨
 ∃k:Int,e= .returned (.tuple #[.slice none 0 0,.int .i64 0,.int .i64 k])/\((k=7/\zP m q<=budget/\4096<(zB m q false).length)∨(k=9/\budget<zP m q))/\Step w w'
theorem ziM{q:Nat}{budget:Int}(h:MatA w0 A m)(hn:m.length=n)(hc:n<=c)(hc2:c<=9223372036854775807)(hr:zM m=true)(hq:(q:Int)<1073741824)(hu0:0<=budget)(hu1:budget<=1000000)[hx:Ext w0 w]:
  Cq 88 #[.slice A n c,.int .i64 q,.int .i64 budget] w (ziL w m q budget):=by
 subst hn;have hR:=Zk hr;have hl:=Z2 hR.small;have hst:=(zcg hr (b:=q) hq).1;have zsS:=hst.last_le aa;have hll:=hst.zd;have hsl:=zd4 _ hst.one;have zxx:=hst.sum;have zss:=hst.len;have zto:=hst.spec budget hu0 hu1;rcases Int.lt_or_le budget (zP m q) with hb|hb
 ·rw[if_neg aa]at zto;exact(zoN h aa hc hc2 (fun _=>hR.form) zto aa aa).mono fun e w'⟨he,hs⟩=> .inr ⟨9,he,.inr ⟨rfl,hb⟩,hs⟩
 ·rw[if_pos hb]at zto;have hmx:∀x∈stS m q,0<=x/\x<=1099511627776:=fun x hx=>by
   have h1:=hst.one x hx;have:x<=(stS m q).sum:=zoB hst.one hx;omega
  rcases Zl 4096 (zB m q false).length with zs4|hsm
  ·exact(zmi h aa hc hc2 (fun _=>hR.form) zto aa aa aa aa aa).mono fun e w'⟨he,hs⟩=> .inr ⟨7,he,.inl ⟨rfl,hb,zs4⟩,hs⟩
  ·refine(zmk h hc hc2 (znd hr hq false aa) zto aa aa aa hmx aa).mono ?_;rintro e w' ⟨B,d,L,he,hM,h1,h2,hp,hw,hs⟩;rw[zxx]at he;refine .inl ⟨B,d,L,he,hM,h1,h2,zd2 hR aa hp hw,?_,hb,hs⟩;have:=hp.length_eq;simp at this;omega
end
section
open Go.RowKit La
theorem ziN(a b:Int):wU (wU a+b)=wU (a+b):=by unfold wU;simp only[IntKind.wrap_u64];omega
theorem ziO(hG:Row w g 155 .u64 F)(hl:F.length=N)(hN8:N<=100000):
  Cq 151 #[.slice (some ⟨g,0,none⟩) N c] w (zA w (.int .u64 (wU F.sum))):=by
 have HG:=Zh hG;have HL:=Zh hl;have hgl:=hG.lt;have oG:Old g w:=⟨hgl⟩;clear hG hl;go_enter Tryz.func151,Tryz.ntmps151;go_wp2_with fail
 go_loopw [3,5,8] (fun t _ i wr=>∃k:Nat,k<=N/\i= .int .i64 k/\t= .int .u64 (wU (F.take k).sum)/\Ext w wr) (fun _ _ i _=>N-(intOf i).toNat)
 case atStart=>exact⟨0,aa,rfl,rfl,Zi⟩
 case round=>
  obtain⟨k,hk,rfl,rfl,hxr⟩:=hrel;by_cases hlt:k<N
  ·obtain⟨x,hx,c1⟩:=(HG.out.ext hxr).cell (i:=k) (by rw[HL.out];exact hlt);have HS:Hid (IntKind.u64.wrap (wU (F.take k).sum+x)=wU (F.take (k+1)).sum):=Zh (by
    rw[List.take_add_one,hx,sum_append];have:=ziN (F.take k).sum x;unfold wU at this|-
    rw[this];simp)
   have oGr:Old g wr:=⟨Nat.lt_of_lt_of_le hgl hxr.size⟩;generalize wU (F.take k).sum=s at*
   clear hx;go_wp2_with fail
   exact⟨⟨k+1,aa,by go_num,congrArg (Value.int IntKind.u64) HS.out,hxr.trans Zi⟩,by simp[intOf];omega⟩
  ·obtain rfl:k=N:=aa
   have HV:Hid (wU (F.take k).sum=wU F.sum):=Zh (by rw[List.take_of_length_le (by rw[HL.out];exact Zr)]);rw[HV.out];clear HV;go_wp2_with fail
   go_ret;exact⟨rfl,hxr.toStep⟩
def Zu(m:List (List Int)):Nat->Int
 |0=>0
 |k+1=>max (Zu m k) (ent m k k)
theorem ziP(m:List (List Int)):∀k,0<=Zu m k
 |0=>Int.le_refl 0
 |k+1=>by have:=ziP m k;unfold Zu;omega
theorem ziQ{B:Int}(hB:0<=B):∀k,(∀j,j<k->ent m j j<=B)->Zu m k<=B
 |0,_=>hB
 |k+1,h=>by have h1:=ziQ hB k fun j hj=>h j aa;have h2:=h k aa;unfold Zu;omega
theorem zeE :∀k j,j<k->ent m j j<=Zu m k
 |0,_,h=>absurd h aa
 |k+1,j,h=>by
  unfold Zu;rcases Zl j k with h1|h1
  ·have:ent m j j<=Zu m k:=zeE k j h1;omega
  ·obtain rfl:j=k:=aa
   omega
theorem ziR(hM:MatA w0 A m)(hn:m.length=n)(zsy:AllLen m n)(hn8:n<=1000)[hx:Ext w0 w]:
  Cq 89 #[.slice A n c] w (zA w (.int .i64 (Zu m n))):=by
 have HM:=Zh hM;have HN:=Zh hn;have HA:=Zh zsy;clear hM hn zsy;go_enter Tryz.func89,Tryz.ntmps89;go_wp2_with fail
 go_loopw [3,4,5,8] (fun t _ _ i wr=>∃k:Nat,k<=n/\i= .int .i64 k/\t= .int .i64 (Zu m k)/\Ext w wr) (fun _ _ _ i _=>n-(intOf i).toNat)
 case atStart=>exact⟨0,aa,rfl,rfl,Zi⟩
 case round=>
  obtain⟨k,hk,rfl,rfl,hxr⟩:=hrel;by_cases hlt:k<n
  ·obtain⟨r,hr⟩:∃r,m[k]? =some r:=⟨_,Ze (by rw[HN.out];exact hlt)⟩;have hrl:r.length=n:=HA.out r (Zm hr);obtain⟨b,o,B,c1,rfl,e1,hB,e2,e3,e4⟩:=(HM.out.ext (hx.trans hxr)).at_ hr;obtain⟨b2,o2,x,rfl,hkx,f1,f2⟩:=hB.at_ (i:=k) aa;rw[hrl]at e1 e2;have he:ent m k k=x:=by simp[ent,hr,hkx]
   have HV:Hid (Zu m (k+1)=max (Zu m k) x):=Zh (by rw[Zu,he]);have oB:Old b wr:=⟨e4⟩;have oB2:Old b2 wr:=⟨f2⟩;generalize Zu m k=s at*
   clear hr hB hkx he;go_wp2_with fail
   exact⟨⟨k+1,aa,by go_num,congrArg (Value.int IntKind.i64) HV.out.symm,hxr.trans Zi⟩,by simp[intOf];omega⟩
  ·obtain rfl:k=n:=aa
   go_wp2_with fail
   go_ret;exact⟨rfl,hxr.toStep⟩
def ziS(w:World)(n k:Nat)(e:Ending)(w':World):Prop:=e= .returned (.slice (some ⟨w.heap.size,0,none⟩) n n)/\Row w' w.heap.size 2 .i64 (ZJ n k)/\Step w w'
theorem zp5{k:Nat}(hk:k<n)(hn:n<=1000):Cq 212 #[.int .i64 n,.int .i64 k] w (ziS w n k):=by
 have hmk:=qz (P:=Tryz.prog) (k:= .i64) Tryz.underlying34 qb aa (n:Int) aa aa;have hV:=Row.made w n .i64 2;obtain⟨z0,-,hcz⟩:=hV.cell (i:=k) (by simp;exact hk);have hfz:=hV.frozen k;have hsz:=hV.lt;have HV:=Zh hV;clear hV;go_enter Tryz.func212,Tryz.ntmps212;go_wp2_with fail
 go_ret;refine⟨rfl,?_,Step.of _ _⟩;unfold Row ZJ;have e:(zO n .i64).setIfInBounds k (.int .i64 1)=(((List.replicate n (0:Int)).set k 1).map (Value.int .i64)).toArray:=by
  apply Array.ext';simp[zO,List.map_set]
 rw[heap_alloc_new,e]
structure SysB(w:World)(sb so N pc dc nc:Nat)(T:TypeId)(cs:Array Value)(PA DA NA:Option Addr)(m P:List (List Int)):Prop where
 blk:w.heap[sb]? =some (.cells cs T (0,0))
 c0:cs[so]? =some (.slice PA N pc)
 c1:cs[so+1]? =some (.slice DA N dc)
 c2:cs[so+2]? =some (.slice NA N nc)
 c3:so+3<cs.size
 pts:Mat64 w PA P
 duals:Mat64 w DA (P.map (zC m))
 norms:Ints w NA 2 .i64 (P.map (zh m))
 len:P.length=N
 ne1:2≠T
 ne2:34≠T
 ne3:155≠T
theorem Only.othT{fr:Nat×Nat}(h:Only g w w')(hg:w.heap[g]? =some (.cells cs T fr)):Oth T w w':=fun b cs' e fr' hne hb=>(h.at_ (zi hb) (fun e'=>by
 subst e';rw[hg]at hb;injection hb with hb
 injection hb with _ he
 exact hne he.symm)).trans hb
theorem SysB.cells{wr:World}(hS:SysB w sb so N pc dc nc T cs PA DA NA m P)(hb:wr.heap[sb]? =some (.cells (cs.setIfInBounds (so+3) (.slice (some ⟨g,0,none⟩) N N)) T (0,0))):
  wr.cell? ⟨sb,so,none⟩=some (.slice PA N pc)/\wr.cell? ⟨sb,so+1,none⟩=some (.slice DA N dc)/\wr.cell? ⟨sb,so+2,none⟩=some (.slice NA N nc)/\wr.cell? ⟨sb,so+3,none⟩=some (.slice (some ⟨g,0,none⟩) N N)/\wr.frozen? ⟨sb,so+3,none⟩=false/\sb<wr.heap.size:=by
 have h:∀i,wr.cell? ⟨sb,i,none⟩=(cs.setIfInBounds (so+3) (.slice (some ⟨g,0,none⟩) N N))[i]? :=fun i=>cell_of_row wr sb i _ _ _ hb
 refine⟨?_,?_,?_,?_,by simp[World.frozen?,hb],zi hb⟩
 ·rw[h,Array.getElem?_setIfInBounds_ne aa];exact hS.c0
 ·rw[h,Array.getElem?_setIfInBounds_ne aa];exact hS.c1
 ·rw[h,Array.getElem?_setIfInBounds_ne aa];exact hS.c2
 ·rw[h,Array.getElem?_setIfInBounds_self_of_lt hS.c3]
def jU(m P:List (List Int)):Nat->List Int->Int
 |0=>jb m
 |t+1=>ju m P (jU m P t)
theorem zeF(m P:List (List Int)):∀t x,jU m P t (x.map fun c=>-c)=jU m P t x
 |0,x=>zpV m x
 |t+1,x=>ziB (zeF m P t) x
theorem ziT(m P:List (List Int))(t:Nat)(x:List Int):0<=jU m P t x/\jU m P t x<18446744073709551616:=by
 cases t with
 |zero=>exact zez (zaN _).2
 |succ t=>exact zaN _
def zcP(w:World)(sb so N:Nat)(T:TypeId)(cs:Array Value)(m P:List (List Int))(e:Ending)(w':World):Prop:=
 e= .returned (.tuple #[])/\∃cg,w.heap.size<=cg/\Row w' cg 155 .u64 (P.map (QP m P))/\w'.heap[sb]? =some (.cells (cs.setIfInBounds (so+3) (.slice (some ⟨cg,0,none⟩) N N)) T (0,0))/\Only sb w w'
theorem zbx:(Tryz.prog.info? 155).map (fun i=>(i.zero,i.size,i.bytes))=some (some (.int .u64 0),1,8):=ai
theorem zp6{z:List Int}{k:Nat}(hk:k<F.length)(hl:F.length=z.length):(F.take k++z.drop k).set k (F.getD k 0)=F.take (k+1)++z.drop (k+1):=by
 rw[List.set_append_right _ _ (by simp;omega),length_take,Nat.min_eq_left aa,Nat.sub_self,List.drop_eq_getElem_cons aa,List.set_cons_zero,getD_eq_getElem?_getD,Ze hk,List.take_succ_eq_append_getElem hk];simp only[Option.getD_some,List.append_assoc,List.singleton_append]
theorem zp7{P:Program}{o:Oper}{a:Act}{K:Act->Prop}(x y:Operand)(ts:Array TypeId)(ho:o.op= .call {callee:= .builtin .max,args:=#[x,y],argTypes:=ts}){u v:Int}(hx:a.eval x= .int k u)(hy:a.eval y= .int k v)(hk:K (a.put o.dst (.int k (max u v)))):o.still P a w K:=by
 have e:(if v>u then v else u)=max u v:=by split<;>omega
 unfold Oper.still execOp;simp only[ho,resolve,invoke,builtin,Sem.run_bind,Sem.run_pure,Result.andThen_ok,List.map_toArray,List.map_cons,List.map_nil,hx,hy,run_max_int2,e];exact⟨rfl,hk⟩
set_option maxRecDepth 20000 in
theorem ziU(hS:SysB w sb so N pc dc nc T cs PA DA NA m P)(hN:N=2*h)(hN8:N<=100000)(hml:m.length=n)(zsr:∀x∈P,x.length=n)(hn:n<=1000)
  (zsw:P.reverse.map (fun x=>x.map fun c=>-c)=P) (hip:∀x∈P,∀y∈P,zE m x y=zx (zY m x) y) (hnb:∀x∈P,0<=zh m x/\zh m x<=4611686018427387904):
  Cq 149 #[.pointer (some ⟨sb,so,none⟩)] w (zcP w sb so N T cs m P):=by
 have HS:=Zh hS;have HR:=Zh zsr;have HSY:=Zh zsw;have HIP:=Zh hip;have HNB:=Zh hnb;have HML:=Zh hml;have hsl:=zi hS.blk;have hdv:(N:Int) / 2=(h:Int):=aa
 have hN1:2*h<=N/\N<=2*h:=aa
 have hmk:=qz (P:=Tryz.prog) (k:= .u64) Tryz.underlying75 zbx aa (N:Int) aa aa;have s1:w.cell? ⟨sb,so,none⟩=some (.slice PA N pc):=by rw[cell_of_row w sb so _ _ _ hS.blk];exact hS.c0
 unfold zcP;obtain⟨w2,hw2⟩:=Xz ((w.setCell ⟨sb,so+3,none⟩ (.slice (some ⟨w.heap.size,0,none⟩) N N)).alloc (.cells (zO N .u64) 155));have hz1:(w.setCell ⟨sb,so+3,none⟩ (.slice (some ⟨w.heap.size,0,none⟩) N N)).heap.size=w.heap.size:=ZE _ _ _;have hR2:Row w2 w.heap.size 155 .u64 (List.replicate N 0):=by
  have:=Row.made (w.setCell ⟨sb,so+3,none⟩ (.slice (some ⟨w.heap.size,0,none⟩) N N)) N .u64 155;rw[hz1]at this;rw[hw2];exact this
 have hb2:w2.heap[sb]? =some (.cells (cs.setIfInBounds (so+3) (.slice (some ⟨w.heap.size,0,none⟩) N N)) T (0,0)):=by
  rw[hw2];exact zg Zi (zX hS.blk _)
 have hO2:Only sb w w2:=by rw[hw2];exact(Only.set hsl (so+3) _).trans (Only.of_ext Zi (by rw[hz1];exact Nat.le_of_lt hsl))
 have t3:∃v,w.cell? ⟨sb,so+3,none⟩=some v:=⟨cs[so+3]'hS.c3,by rw[cell_of_row w sb (so+3) _ _ _ hS.blk];simp[hS.c3]⟩;obtain⟨v3,t3⟩:=t3;have t4:w.frozen? ⟨sb,so+3,none⟩=false:=by simp[World.frozen?,hS.blk]
 have oS:Old sb w:=⟨hsl⟩;have HB2:=Zh hb2;have HR2:=Zh hR2;have HO2:=Zh hO2;have HW2:=Zh hw2;clear hS zsr zsw hip hnb hml hN hb2 hR2 hO2 hw2 hz1;go_enter Tryz.func149,Tryz.ntmps149;go_upto_region 1 with fail
 rw[<-HW2.out];clear HW2 t3 t4 s1 hmk;obtain⟨e1,e2,e3,e4,e5,e6⟩:=HS.out.cells HB2.out;have oS2:Old sb w2:=⟨e6⟩;obtain⟨g0,hg0⟩:=Xz w.heap.size;rw[<-hg0]at e4 HB2 HR2;have HG0:Hid (w.heap.size<=g0/\sb≠g0):=Zh aa;clear hg0;have zrx:Hid ((P.map (jb m)).length=N):=Zh (by rw[length_map];exact HS.out.len);go_wp2_with fail
 go_loopw [2,3,23] (fun _ _ i wr=>∃k:Nat,k<=N/\i= .int .i64 k/\Hid (Row wr g0 155 .u64 ((P.map (jb m)).take k++(List.replicate N (0:Int)).drop k))/\Hid (wr.heap[sb]? =some (.cells (cs.setIfInBounds (so+3) (.slice (some ⟨g0,0,none⟩) N N)) T (0,0)))/\Hid (Only sb w wr)) (fun _ _ i _=>N-(intOf i).toNat)
 case atStart=>exact⟨0,aa,rfl,HR2,HB2,HO2⟩
 case round=>
  obtain⟨k,hk,rfl,HR3,HB3,HO3⟩:=hrel;clear e1 e2 e3 e4 e5 e6;obtain⟨e1,e2,e3,e4,e5,e6⟩:=HS.out.cells HB3.out;have oS3:Old sb wr:=⟨e6⟩;by_cases hlt:k<N
  ·obtain⟨x,hx⟩:∃x,P[k]? =some x:=⟨_,Ze (by rw[HS.out.len];exact hlt)⟩;have hxm:=Zm hx;obtain⟨nb,no,v,rfl,hv,f1,f2⟩:=(HS.out.norms.oth (HO3.out.othT HS.out.blk) HS.out.ne1).at_ (i:=k) (by rw[length_map,HS.out.len];exact hlt);rw[getElem?_map,hx]at hv;simp only[Option.map_some,Option.some.injEq]at hv;have hvb:=HNB.out x hxm;rw[hv]at hvb;have oN:Old nb wr:=⟨f2⟩;have hF:(P.map (jb m)).getD k 0=QO (wU v):=by rw[getD_eq_getElem?_getD,getElem?_map,hx];simp[jb,hv]
   have hwu:wU v=v:=by rw[zeA];omega
   rw[hwu]at hF;have HMX:=Zh (fun W=>zeC (w:=W) (z:=v) hvb.1 aa);rw[<-hF]at HMX;have zrI:=Zh (zp6 (F:=P.map (jb m)) (z:=List.replicate N (0:Int)) (k:=k) (by rw[zrx.out];exact hlt) (by rw[zrx.out];simp));obtain⟨y0,-,m1⟩:=HR3.out.cell (i:=k) (by have:=zrx.out;simp at this|-;omega);have m2:=HR3.out.frozen k;have hg:=HR3.out.lt;have oG:Old g0 wr:=⟨hg⟩;generalize (P.map (jb m)).getD k 0=f0 at*
   clear hF hv hx hxm;go_upto_region 4 with fail
   have hcv:IntKind.u64.wrap v=v:=hwu;clear hwu;go_region_with (go_at_call 210;refine(HMX.out _).mono ?_;rintro e w6 ⟨rfl,rfl⟩)
   all_goals
    go_wp2_with fail
    refine⟨⟨k+1,aa,by go_num,Zh ?_,Zh ?_,Zh ?_⟩,by simp[intOf];omega⟩
    ·have h2:=HR3.out.set k f0;rw[zrI.out]at h2;exact h2.ext Zi
    ·exact zg (Zi:Ext (wr.setCell ⟨g0,k,none⟩ (.int .u64 f0)) _) (ZD HB3.out HG0.out.2 _)
    ·exact(HO3.out.setNew (p:=⟨g0,k,none⟩) HG0.out.1 hsl (.int .u64 f0)).trans (Only.of_ext Zi (by rw[ZE];exact Nat.le_of_lt e6))
  ·obtain rfl:k=N:=aa
   have hR4:Row wr g0 155 .u64 (P.map (jU m P 0)):=by
    have h:=HR3.out;rw[List.take_of_length_le (by rw[zrx.out];exact Zr),List.drop_of_length_le af,List.append_nil]at h;exact h
   have HR4:=Zh hR4;clear hR4 HR3 HR2 HB2 HO2;go_wp2_with fail
   clear e1 e2 e3 e4 e5 e6 hlt;obtain⟨wa,rfl⟩:∃wa:World,wa=wr:=⟨_,rfl⟩;go_loopw [5,6,7,8,44,53,67,68] (fun _ _ _ _ i _ _ _ wr=>∃(t cg:Nat),t<=2/\i= .int .i64 t/\Hid (w.heap.size<=cg/\sb≠cg)/\Hid (Row wr cg 155 .u64 (P.map (jU m P t)))/\Hid (wr.heap[sb]? =some (.cells (cs.setIfInBounds (so+3) (.slice (some ⟨cg,0,none⟩) k k)) T (0,0)))/\Hid (Only sb w wr)) (fun _ _ _ _ i _ _ _ _=>2-(intOf i).toNat)
   case atStart=>exact⟨0,g0,aa,rfl,HG0,HR4,HB3,HO3⟩
   case round=>
    obtain⟨t,cg,ht,rfl,HGC,HRC,HBC,HOC⟩:=hrel;obtain⟨e1,e2,e3,e4,e5,e6⟩:=HS.out.cells HBC.out;obtain⟨wb,rfl⟩:∃wb:World,wb=wr:=⟨_,rfl⟩;have oSb:Old sb wb:=⟨e6⟩;by_cases ztb:t<2
    ·have hmk:=qz (P:=Tryz.prog) (k:= .u64) Tryz.underlying75 zbx aa (k:Int) aa aa;go_wp2_with fail
     obtain⟨F,hF⟩:=Yz (P.map (jU m P (t+1)));have hFl:F.length=k:=by rw[<-hF,length_map];exact HS.out.len
     have HF:=Zh hF;have HFL:=Zh hFl;have HM0:Hid (Row (wb.alloc (.cells (zO k .u64) 155)) wb.heap.size 155 .u64 (qy F (List.replicate k 0) 0)):=Zh (by rw[ziE];exact Row.made wb k .u64 155);have hxb:Ext wb (wb.alloc (.cells (zO k .u64) 155)):=Zi;clear hmk hF hFl;go_loopw [6,7,8,53,67,68] (fun _ _ _ i _ _ wr=>∃i0:Nat,i0<=h/\i= .int .i64 i0/\Hid (Row wr wb.heap.size 155 .u64 (qy F (List.replicate k 0) i0))/\Ext wb wr) (fun _ _ _ i _ _ _=>h-(intOf i).toNat)
     case atStart=>exact⟨0,aa,rfl,HM0,hxb⟩
     case round=>
      obtain⟨i0,hi0,rfl,HM,hxm⟩:=hrel;obtain⟨wd,rfl⟩:∃wd:World,wd=wr:=⟨_,rfl⟩;by_cases zuY:i0<h
      ·obtain⟨x,hx⟩:∃x,P[i0]? =some x:=⟨_,Ze (by rw[HS.out.len];omega)⟩;have zxy:=Zm hx;obtain⟨ca,hca,a1⟩:=(HRC.out.ext hxm).cell (i:=i0) (by rw[length_map,HS.out.len];omega);rw[getElem?_map,hx]at hca;simp only[Option.map_some,Option.some.injEq]at hca;have b1:=ziT m P t x;rw[hca]at b1;have HMX:=Zh (fun W=>zeC (w:=W) (z:=ca) b1.1 b1.2);have g4:wd.cell? ⟨sb,so+3,none⟩=some (.slice (some ⟨cg,0,none⟩) k k):=(zk wb).trans e4
       obtain⟨y0,hy0,m1⟩:=HM.out.cell (i:=i0) (by rw[qR];simp;omega);have m2:=HM.out.frozen i0;have hnl:=HM.out.lt;have oC:Old cg wd:=⟨Nat.lt_of_lt_of_le HRC.out.lt hxm.size⟩;have oSd:Old sb wd:=⟨Nat.lt_of_lt_of_le e6 hxm.size⟩;have zwt:cg≠wb.heap.size:=by have:=HRC.out.lt;omega
       obtain⟨mz,hmz⟩:=Yz (QO ca);have zvW:=zez (z:=ca) b1.2;rw[hmz]at HMX zvW;have HX:=Zh (And.intro hx (And.intro hca hmz));clear hx hca hy0 hmz;go_upto_region 14 with (go_at_call 210;refine(HMX.out _).mono ?_;rintro e w6 ⟨rfl,rfl⟩)
       have hR9:=HM.out.set i0 mz;have hx9:Ext wb (wd.setCell ⟨wb.heap.size,i0,none⟩ (.int .u64 mz)):=hxm.setCell (p:=⟨wb.heap.size,i0,none⟩) Zr _;generalize wd.setCell ⟨wb.heap.size,i0,none⟩ (.int .u64 mz)=we at*
       have hmw:wU mz=mz:=by rw[zeA];omega
       obtain⟨f,hf⟩:∃f:List Int->Int,f=fun y=>Jb (jU m P t y) (J2 (zE m x y)):=⟨_,rfl⟩
       have HFF:=Zh hf;have HR9:Hid (Row we wb.heap.size 155 .u64 ((qy F (List.replicate k 0) i0).set i0 (wU (mz+zQ (P.take 0) f)))):=Zh (by
        rw[show mz+zQ (P.take 0) f=mz by simp[zQ],hmw];exact hR9)
       clear hR9 hmw hf a1 g4 m1 m2 HMX zvW oC oSd hnl;go_wp2_with fail
       go_loopw [7,8,68] (fun _ _ j wr=>∃j0:Nat,j0<=h/\j= .int .i64 j0/\Hid (Row wr wb.heap.size 155 .u64 ((qy F (List.replicate k 0) i0).set i0 (wU (mz+zQ (P.take j0) f))))/\Ext wb wr) (fun _ _ j _=>h-(intOf j).toNat)
       case atStart=>exact⟨0,aa,rfl,HR9,hx9⟩
       case round=>
        obtain⟨j0,hj0,rfl,HMj,hxj⟩:=hrel;obtain⟨wf,rfl⟩:∃wf:World,wf=wr:=⟨_,rfl⟩;have hOTf:Oth T w wf:=(HOC.out.trans (Only.of_ext hxj (Nat.le_of_lt e6))).othT HS.out.blk;have oSf:Old sb wf:=⟨Nat.lt_of_lt_of_le e6 hxj.size⟩;by_cases zwY:j0<h
        ·obtain⟨y,hy⟩:∃y,P[j0]? =some y:=⟨_,Ze (by rw[HS.out.len];omega)⟩;have hym:=Zm hy;obtain⟨pb,po,B,c1,rfl,p1,hB,-,-,p5⟩:=(HS.out.pts.oth hOTf HS.out.ne2 HS.out.ne1).at_ hy;obtain⟨db,dof,D,c2,rfl,q1,hD,-,-,q5⟩:=(HS.out.duals.oth hOTf HS.out.ne2 HS.out.ne1).at_ (i:=i0) (r:=zC m x) (by rw[getElem?_map,HX.out.1];rfl);have hlA:(zC m x).length=n:=by simp[zC,HML.out]
         rw[HR.out y hym]at p1;rw[hlA]at q1;have g1:wf.cell? ⟨sb,so,none⟩=some (.slice (some ⟨pb,po,none⟩) k pc):=(zk wb).trans e1;have g2:wf.cell? ⟨sb,so+1,none⟩=some (.slice (some ⟨db,dof,none⟩) k dc):=(zk wb).trans e2;have g4:wf.cell? ⟨sb,so+3,none⟩=some (.slice (some ⟨cg,0,none⟩) k k):=(zk wb).trans e4;have oP:Old pb wf:=⟨p5⟩;have oD:Old db wf:=⟨q5⟩;have hdw:z6 (zC m x) y=wI (zE m x y):=by rw[zbu];unfold z6;rw[HIP.out x zxy y hym];rfl
         have HD:=Zh (fun W(e:Ext wf W)=>J4 (w0:=wf) (w:=W) (c:=c2) (d:=c1) ⟨_,hD⟩ ⟨_,hB⟩ hlA (HR.out y hym) Zr aa);rw[hdw]at HD;obtain⟨cj,hcj,a2⟩:=(HRC.out.ext hxj).cell (i:=j0) (by rw[length_map,HS.out.len];omega);rw[getElem?_map,hy]at hcj;simp only[Option.map_some,Option.some.injEq]at hcj;have b2:=ziT m P t y;rw[hcj]at b2;obtain⟨v,hv⟩:=Yz (wI (zE m x y));have hvb:-9223372036854775808<=v/\v<=9223372036854775807:=by rw[<-hv];unfold wI;simp only[IntKind.wrap_i64];omega
         have hva:J2 (zE m x y)=max v (IntKind.i64.wrap (-v)):=by
          unfold J2;rw[hv,show wI (-zE m x y)=IntKind.i64.wrap (-v) by rw[<-hv];unfold wI;simp only[IntKind.wrap_i64];omega]
         rw[hv]at HD;have hub:-9223372036854775808<=max v (wrap64 (-v))/\max v (wrap64 (-v))<=9223372036854775807:=by rw[JF];simp only[IntKind.wrap_i64];omega
         have HBL:=Zh (fun W=>zeD (w:=W) (c:=cj) (i:=max v (wrap64 (-v))) b2.1 b2.2 hub.1 hub.2);have hfy:f y=Jb cj (max v (wrap64 (-v))):=by rw[HFF.out];simp only[hcj,hva,JF]
         rw[<-hfy]at HBL;clear hub;have HST:Hid (IntKind.u64.wrap (wU (mz+zQ (P.take j0) f)+f y)=wU (mz+zQ (P.take (j0+1)) f)):=Zh (by
          have h1:=ziN (mz+zQ (P.take j0) f) (f y);have h2:zQ (P.take (j0+1)) f=zQ (P.take j0) f+f y:=by rw[List.take_add_one,hy,ziA];simp[zQ]
          rw[h2,<-Int.add_assoc,<-h1];rfl)
         obtain⟨y0,hy0,m1⟩:=HMj.out.cell (i:=i0) (by rw[length_set,qR];simp;omega);have m2:=HMj.out.frozen i0;have hyv:y0=wU (mz+zQ (P.take j0) f):=by
          rw[List.getElem?_set_self (by rw[qR];simp;omega)]at hy0;injection hy0 with hy0;exact hy0.symm
         subst hyv;have hnl:=HMj.out.lt;have oC:Old cg wf:=⟨Nat.lt_of_lt_of_le HRC.out.lt hxj.size⟩;generalize f y=fy at*
         generalize wU (mz+zQ (P.take j0) f)=s0 at*
         obtain⟨s1,hs1⟩:=Yz (wU (mz+zQ (P.take (j0+1)) f));rw[hs1]at HST;have HS1:=Zh hs1;clear hs1;have HXJ:=Zh hxj;have zsa:=Zh hOTf;clear hB hD hdw hcj hv hva hfy hy0 hy hym hlA hxj hxm hxb hx9 hOTf e1 e2 e3 e4 e5 HR9 HM HM0 HR4 HB3 HO3 HG0 oS oS2 oSb zrx HR HSY HNB;go_upto_region 17 with fail
         have HDQ:=Zh (fun q=>(HD.out (wf.drewN q) Zi).mono (fun e w' h=>(⟨h.1,h.2.symm⟩:e= .returned (.int .i64 v)/\w'=wf.drewN q)));go_quiet ((go_at_call 91;exact Calls.quiet_of_same (HDQ.out _)))
         go_upto_region 18 with fail
         have hwg:Ext wf (wf.drewN nq):=Zi;have HMg:=Zh (HMj.out.ext hwg);have k1:(wf.drewN nq).cell? ⟨cg,j0,none⟩=some (.int .u64 cj):=a2;have k2:(wf.drewN nq).cell? ⟨wb.heap.size,i0,none⟩=some (.int .u64 s0):=m1;have k3:(wf.drewN nq).frozen? ⟨wb.heap.size,i0,none⟩=false:=m2;have k4:(wf.drewN nq).cell? ⟨sb,so+3,none⟩=some (.slice (some ⟨cg,0,none⟩) k k):=g4;have oC2:Old cg (wf.drewN nq):=⟨oC.lt⟩;have oS2:Old sb (wf.drewN nq):=⟨oSf.lt⟩
         have oN2:Old wb.heap.size (wf.drewN nq):=⟨hnl⟩;have HXG:=Zh (HXJ.out.trans hwg);clear HMj a2 m1 m2 g4 g1 g2 p1 q1 oC oSf oP oD HD HDQ hwg HXJ zsa;generalize wf.drewN nq=wg at*
         have hik:i0<k:=aa
         have hjk:j0<k:=aa
         have zyD:(i0:Int)<(k:Int):=aa
         have zxz:(j0:Int)<(k:Int):=aa
         refine wp_region_still_tail 18 ai ai ?_;simp only[List.take_succ_cons,List.take_zero,List.drop_succ_cons,List.drop_zero];iterate 14 still_step
         refine wpStill_step (fun K hK=>?_);rw[if_pos (by simp[Region.wanted])];refine zp7 (.tmp 97) (.tmp 99) _ rfl (k:= .i64) (u:=v) (v:=wrap64 (-v)) (by simp[Act.eval]) (by simp[Act.eval,JF]) ?_;simp only[Act.put,List.setIfInBounds_toArray,List.set_cons_zero,List.set_cons_succ];refine hK _ ?_;clear hK K;still_call ((HBL.out _).mono fun _ _ h=>⟨h.1,h.2.symm⟩)
         iterate 2 still_step
         refine wpStill_nil ?_;go_wp2_with fail
         rw[HST.out];have hxd:Ext (wg.setCell ⟨wb.heap.size,i0,none⟩ (.int .u64 s1)) (wg.setCell ⟨wb.heap.size,i0,none⟩ (.int .u64 s1)).drew:=Zi;refine⟨⟨j0+1,aa,by go_num,Zh ?_,?_⟩,by simp[intOf];omega⟩
         ·have h2:=HMg.out.set i0 s1;rw[List.set_set]at h2;rw[HS1.out];exact h2.ext hxd
         ·exact(HXG.out.setCell (p:=⟨wb.heap.size,i0,none⟩) Zr _).trans hxd
        ·obtain rfl:j0=h:=aa
         have hv0:wU (mz+zQ (P.take j0) f)=F.getD i0 0:=by
          have e1:F.getD i0 0=ju m P (jU m P t) x:=by
           rw[<-HF.out,getD_eq_getElem?_getD,getElem?_map,HX.out.1];rfl
          have e2:=zpT HSY.out (by rw[HS.out.len];omega) (f:=f) (h:=j0) (fun y=>by
           rw[HFF.out];simp only[zeF,ziJ,zit])
          rw[e1];unfold ju;rw[HX.out.2.1,HX.out.2.2,<-e2,HFF.out]
         have hv1:F.getD (k-1-i0) 0=F.getD i0 0:=by
          have hr:=ziI HSY.out HX.out.1;rw[HS.out.len]at hr;rw[<-HF.out,getD_eq_getElem?_getD,getElem?_map,hr,getD_eq_getElem?_getD,getElem?_map,HX.out.1];exact ziB (zeF m P t) x
         rw[hv0]at HMj;have HST:=Zh (ziG (F:=F) (l:=List.replicate k 0) (h:=j0) (j:=i0) (by simp;omega) zuY);rw[List.length_replicate,hv1]at HST;obtain⟨y1,hy1,m1⟩:=HMj.out.cell (i:=i0) (by rw[length_set,qR];simp;omega);rw[List.getElem?_set_self (by rw[qR];simp;omega)]at hy1;obtain rfl:F.getD i0 0=y1:=by injection hy1
         obtain⟨y2,-,m3⟩:=HMj.out.cell (i:=k-1-i0) (by rw[length_set,qR];simp;omega);have m4:=HMj.out.frozen (k-1-i0);have hnl:=HMj.out.lt;have zu1:(k:Int)-1-(i0:Int)=((k-1-i0:Nat):Int):=aa
         generalize F.getD i0 0=fv at*
         clear hy1 hv0 hv1;rw[zu1] at*
         go_wp2_with fail
         refine⟨⟨_,_,_,.int .i64 ((i0:Int)+1),⟨i0+1,aa,by go_num,Zh ?_,?_⟩,rfl,rfl,rfl,rfl⟩,by simp[intOf];omega⟩
         ·have h2:=HMj.out.set (k-1-i0) fv;rw[HST.out]at h2;exact h2
         ·exact hxj.setCell (p:=⟨wb.heap.size,k-1-i0,none⟩) Zr _
      ·obtain rfl:i0=h:=aa
       have hmf:qy F (List.replicate k 0) i0=F:=ziF (by simp;omega) (by simp;exact HFL.out);rw[hmf,<-HF.out]at HM;have hbd:=zg hxm HBC.out;have g4:wd.cell? ⟨sb,so+3,none⟩=some (.slice (some ⟨cg,0,none⟩) k k):=(zk wb).trans e4;have g5:wd.frozen? ⟨sb,so+3,none⟩=false:=by simp[World.frozen?,hbd]
       have oSd:Old sb wd:=⟨Nat.lt_of_lt_of_le e6 hxm.size⟩;have HBD:=Zh hbd;have zvX:sb≠wb.heap.size:=aa
       clear hbd;go_wp2_with fail
       refine⟨⟨t+1,wb.heap.size,aa,by go_num,Zh ⟨HOC.out.size,zvX⟩,Zh ?_,Zh ?_,Zh ?_⟩,by simp[intOf];omega⟩
       ·exact HM.out.far (p:=⟨sb,so+3,none⟩) (fun e=>zvX e.symm) _
       ·rw[zX HBD.out,Array.setIfInBounds_setIfInBounds]
       ·exact(HOC.out.trans (Only.of_ext hxm (Nat.le_of_lt e6))).trans (Only.set oSd.lt (so+3) _)
    ·have ht2:t=2:=aa
     have hd2:decide ((t:Int)<2)=false:=by simp;omega
     go_wp2_with fail
     rw[ht2]at HRC;go_end0
     exact⟨rfl,cg,HGC.out.1,HRC.out,HBC.out,HOC.out⟩
end
end Go.Proofs.YtgoaelchibpffaaGreat
