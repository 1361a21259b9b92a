import Derived.Test.YtgoaelchibpffaaGreatT22
import Derived.Test.YtgoaelchibpffaaGreatTSc
import Derived.Laws.Bits64
set_option maxHeartbeats 8000000
set_option linter.unusedVariables false
set_option linter.unusedSimpArgs false
namespace Go.Proofs.YtgoaelchibpffaaGreat
open List (mem_map getD_eq_getElem?_getD getElem_mem mem_cons all_eq_true length_append length_singleton take_take take_length getElem?_take)
variable {cd:Bool} {q:Int} {P Q b cols m st st' t:List (List Int)} {x y:List Int} {N c d i j k mb n r:Nat} {A X:Option Addr} {w w0:World}
section
open Go.RowKit
structure Fm(mb:Nat)(w w':World):Prop where
 os:w'.os=w.os
 tape:w'.tape=w.tape
 output:w'.output=w.output
 size:w.heap.size<=w'.heap.size
 block:∀b,b<w.heap.size->b≠mb->w'.heap[b]? =w.heap[b]?
theorem Fm.refl(mb:Nat)(w:World):Fm mb w w:=⟨rfl,rfl,rfl,Zr,fun _ _ _=>rfl⟩
theorem Fm.trans{a b c:World}(h:Fm mb a b)(h':Fm mb b c):Fm mb a c:=
 ⟨h'.os.trans h.os,h'.tape.trans h.tape,h'.output.trans h.output,Nat.le_trans h.size h'.size,fun k hk hn=>(h'.block k (Nat.lt_of_lt_of_le hk h.size) hn).trans (h.block k hk hn)⟩
theorem Fm.new{wr w':World}(h:Fm mb w wr)(hb:Below w.heap.size wr w'):Fm mb w w':=
 ⟨hb.os.trans h.os,hb.tape.trans h.tape,hb.output.trans h.output,Nat.le_trans h.size hb.size,fun b hk hn=>(hb.block b hk).trans (h.block b hk hn)⟩
instance:Inhabited Ct:=⟨((0,0),0)⟩
theorem zil(hM:MatA w0 A m)(zss:m.length<=1099511627776)(hc:m.length<=c)(hc2:c<=9223372036854775807)(hr:zM m=true)(hX:Ints w0 X 2 .i64 x)(hl:x.length<=1099511627776)[hx:Ext w0 w]:
  Cq 87 #[.slice A m.length c,.slice X x.length d] w (zA w (.bool (Qr m.length x))):=by
 have zsN:=fun W(e:Ext w0 W)=>zai (w:=W) hM zss hc hc2
 rw[hr]at zsN;have HR:=Zh zsN;have HF:=Zh (fun W(e:Ext w0 W)=>zdl (w:=W) (c:=d) (n:=m.length) hX hl);clear zsN hM hX hr;generalize Qr m.length x=r at*
 generalize x.length=xl at*
 go_enter Tryz.func87,Tryz.ntmps87;go_wp2_with (first
  |(go_at_call 44;refine(HR.out _ Zi).mono ?_;rintro e w1 ⟨rfl,hs1⟩)
  |(go_at_call 154;refine(HF.out _ Zi).mono ?_;rintro e w2 ⟨rfl,rfl⟩))
 go_ret;exact⟨rfl,Step.of _ _⟩
theorem zpE(hM:MatA w0 A m)(hc:m.length<=c)(hc2:c<=9223372036854775807)(hR:RedM m)(hX:Ints w0 X 2 .i64 x)(hxl:x.length=m.length)(hb:∀y∈x,-1099511627776<=y/\y<=1099511627776)[hx:Ext w0 w]:
  Cq 90 #[.slice A m.length c,.slice X x.length d] w (zA w (.tuple #[.int .i64 (if Qt (zh m x) then zh m x else 0),.bool (Qt (zh m x))])):=by
 obtain⟨u,hu⟩:∃u,u=(if Qt (zh m x)=true then zh m x else 0):=⟨_,rfl⟩;obtain⟨r,hr'⟩:∃r,r=Qt (zh m x):=⟨_,rfl⟩;rw[<-hu,<-hr'];have h8:=hR.n8;have zsv:Qr m.length x=true:=by
  rw[zdk hxl];exact JR.2 hb
 have hv:=fun W(e:Ext w0 W)=>zil (w:=W) (c:=c) (d:=d) hM aa hc hc2 hR.red hX aa
 have hf:=fun W(e:Ext w0 W)=>zdl (w:=W) (c:=d) (n:=m.length) hX aa
 rw[zsv]at hv hf;have HV:=Zh hv;have HF:=Zh hf;have HA:=Zh (fun W(e:Ext w0 W)=>zfR (w:=W) (c:=c) (d:=d) hM hX hR.all hxl h8 hR.ent hb);have HD:Hid (∀W Y dy,Ext w0 W->Ints W Y 2 .i64 (zY m x)->Cq 161 #[.slice X x.length d,.slice Y (zY m x).length dy] W (zA W (.tuple #[.int .i64 u,.bool r]))):=Zh (fun W Y dy e hY=>by
  have h:=zgh (w0:=W) (w:=W) (c:=d) (d:=dy) (hX.ext e) hY (by rw[zal,hxl]) aa hb (fun z hz=>by
   obtain⟨r,hr,rfl⟩:=mem_map.1 hz;have hb:=zak (A:=262144) (B:=1099511627776) aa aa r x (hR.ent r hr) hb;have hrl:=hR.all r hr;omega)
  rw[zal,<-hxl];exact h.mono fun e w'⟨he,hs⟩=>⟨by rw[he,hu,hr'];rfl,hs⟩)
 unfold zdg at HA;clear hu hr';obtain⟨al,hal⟩:=Yz ((zY m x).length);rw[hal]at HA HD;generalize zY m x=Y at*
 clear hv hf zsv hM hX hR hb hal;rw[hxl] at*
 generalize m.length=n at*
 have HI:Hid (∀W,Ext w0 W->Cq 94 #[.slice A n c,.slice X n d,.slice X n d] W (zA W (.tuple #[.int .i64 u,.bool r]))):=Zh (fun W e=>by
  go_enter Tryz.func94,Tryz.ntmps94;go_wp2_with (first
   |(go_at_call 87;refine(HV.out _ Zi).mono ?_;rintro e w1 ⟨rfl,hs1⟩)
   |(go_at_call 154;refine(HF.out _ Zi).mono ?_;rintro e w2 ⟨rfl,rfl⟩)
   |(go_at_call 162;refine(HA.out _ Zi).mono ?_;rintro e w3 ⟨B3,d3,rfl,hI3,-,-,hs3⟩)
   |(go_at_call 161;refine(HD.out _ _ _ Zi hI3).mono ?_;rintro e w4 ⟨rfl,hs4⟩))
  go_ret2
  exact⟨rfl,Step.of _ _⟩)
 clear HV HF HA HD;go_enter Tryz.func90,Tryz.ntmps90;go_wp2_with (go_at_call 94;refine(HI.out _ Zi).mono ?_;rintro e w1 ⟨rfl,hs1⟩)
 go_ret2
 exact⟨rfl,Step.of _ _⟩
end
section
open La
theorem zim(n k:Nat)(F:Nat->Nat->Int):(zj n fun i=>zj k fun j=>F i j)=zj k fun j=>zj n fun i=>F i j:=by
 induction n with
 |zero=>
  exact(zb8 fun _ _=>rfl).symm
 |succ n ih=>rw[Zx,ih,<-zaF];exact zT fun j _=>(Zx n _).symm
theorem zbv(hs:∀i j,i<m.length->j<m.length->ent m i j=ent m j i)(x y:List Int):zE m x y=zE m y x:=by
 unfold zE;have h1:∀u v:List Int,(zj m.length fun i=>u.getD i 0*zj m.length fun j=>ent m i j*v.getD j 0)=zj m.length fun i=>zj m.length fun j=>u.getD i 0*(ent m i j*v.getD j 0):=fun u v=>zT fun i _=>(jP _ _ _).symm
 rw[h1,h1,zim];refine zT fun i hi=>zT fun j hj=>?_
 grind
theorem zcF(hn:AllLen m m.length)(hx:x.length=m.length)(hy:y.length=m.length):zE m x y=zx (zY m y) x:=by
 have h:=zcb (fun i=>(zY m y).getD i 0) x 0 (zY m y) (by rw[zal,hx]) (fun i _=>ae);rw[h,zcy,hx];refine zT fun i hi=>?_
 have e:(zY m y).getD i 0=zx (m.getD i []) y:=by simp[zY,hi]
 rw[Nat.zero_add,e,zgU hn hi y hy,zcy,hy,Int.mul_comm];grind
theorem zin(hr:RedOK m)(hx:x.length=m.length)(hy:y.length=m.length):-(zh m x+zh m y)<=2*zx (zY m y) x/\2*zx (zY m y) x<=zh m x+zh m y:=by
 have zsy:=zV hr.small;have p1:=zhT zsy x y 1 hx hy;have p2:=zhT zsy x y (-1) hx hy;have q1:=Jw hr (qM x 1 y) (by rw[j9,hx]);have q2:=Jw hr (qM x (-1) y) (by rw[j9,hx]);have hc:zcA m x y=2*zx (zY m y) x:=by
  have h1:zcA m x y=zE m x y+zE m y x:=zaF _ _ _;rw[h1,zbv (fun i j hi hj=>((of_decide_eq_true hr.small).2.2.2 i hi j hj).1) y x,zcF zsy hx hy];omega
 omega
def Zo(n:Nat)(t:List (List Int))(x:List Int):List Int:=(List.range n).map fun k=>zj n fun j=>x.getD j 0*(t.getD j []).getD k 0
theorem jT(n:Nat)(t:List (List Int))(x:List Int):(Zo n t x).length=n:=by simp[Zo]
theorem zaJ{l:List Int}(h:l.length<=k):l.getD k 0=0:=by simp[getD_eq_getElem?_getD,List.getElem?_eq_none h]
theorem zbw(t:List (List Int))(x:List Int)(hk:k<n):(Zo n t x).getD k 0=zj n fun j=>x.getD j 0*(t.getD j []).getD k 0:=by simp[Zo,hk]
theorem zio(hn:m.length=n)(t:List (List Int))(x y:List Int):zE m (Zo n t x) y=zj n fun j=>x.getD j 0*zE m (t.getD j []) y:=by
 unfold zE;rw[hn];have h:∀Y:Nat->Int,(zj n fun i=>(Zo n t x).getD i 0*Y i)=zj n fun j=>x.getD j 0*zj n fun i=>(t.getD j []).getD i 0*Y i:=fun Y=>by
  have e:(zj n fun i=>(Zo n t x).getD i 0*Y i)=zj n fun i=>zj n fun j=>x.getD j 0*((t.getD j []).getD i 0*Y i):=zT fun i hi=>by
   rw[zbw t x hi,Int.mul_comm,<-jP];exact zT fun j _=>by rw[Int.mul_comm,Int.mul_assoc]
  rw[e,zim];exact zT fun j _=>jP _ _ _
 exact h _
structure IsoC(a b t:List (List Int)):Prop where
 len:t.length=a.length
 dim:b.length=a.length
 row:∀x∈t,x.length=a.length
 ip:∀i j,i<a.length->j<a.length->zE a (t.getD i []) (t.getD j [])=ent b i j
theorem RedOK.sym(h:RedOK m):∀i j,i<m.length->j<m.length->ent m i j=ent m j i:=fun i j hi hj=>((of_decide_eq_true h.small).2.2.2 i hi j hj).1
theorem IsoC.lc{a:List (List Int)}(h:IsoC a b t)(ha:RedOK a)(x y:List Int):zE a (Zo a.length t x) (Zo a.length t y)=zE b x y:=by
 rw[zio rfl];show _=zj b.length fun i=>x.getD i 0*zj b.length fun j=>ent b i j*y.getD j 0
 rw[h.dim];refine zT fun i hi=>?_
 rw[zbv ha.sym,zio rfl];congr 1
 exact zT fun j hj=>by rw[zbv ha.sym,h.ip i j hi hj,Int.mul_comm]
theorem IsoC.nm{a:List (List Int)}(h:IsoC a b t)(ha:RedOK a)(hb:RedOK b)(hx:x.length=a.length):zh a (Zo a.length t x)=zh b x:=by
 rw[<-Qf (zV ha.small) _ (jT _ _ _),h.lc ha,Qf (zV hb.small) x (by rw[hx,h.dim])]
def ZJ(n k:Nat):List Int:=(List.replicate n 0).set k 1
theorem zaK(n k:Nat):(ZJ n k).length=n:=by simp[ZJ]
theorem zaL(hk:k<n):(ZJ n k).getD j 0=if j=k then 1 else 0:=by
 unfold ZJ;rw[getD_eq_getElem?_getD,List.getElem?_set];by_cases h:j=k
 ·subst h;simp[hk]
 ·rw[if_neg (fun e=>h e.symm),if_neg h];by_cases hj:j<n<;>simp[hj]
theorem ziq(hk:k<n)(ht:(t.getD k []).length=n):Zo n t (ZJ n k)=t.getD k []:=by
 refine zbt (by rw[jT,ht]) fun i=>?_
 by_cases hi:i<n
 ·rw[zbw _ _ hi,QJ hk (fun j _ hne=>by rw[zaL hk,if_neg hne,Int.zero_mul]),zaL hk,if_pos rfl,Int.one_mul]
 ·rw[zaJ (by rw[jT];omega),zaJ aa]
theorem zpF(hi:i<m.length)(hj:j<m.length):zE m (ZJ m.length i) (ZJ m.length j)=ent m i j:=by
 unfold zE;rw[QJ hi (fun k _ hne=>by rw[zaL hi,if_neg hne,Int.zero_mul]),zaL hi,if_pos rfl,Int.one_mul,QJ hj (fun k _ hne=>by rw[zaL hj,if_neg hne,Int.mul_zero]),zaL hj,if_pos rfl,Int.mul_one]
theorem zpG(n:Nat)(t:List (List Int))(s:Int)(hx:x.length=n):Zo n t (qM x s y)=qM (Zo n t x) s (Zo n t y):=by
 refine zbt (by rw[jT,j9,jT]) fun k=>?_
 by_cases hk:k<n
 ·rw[zbw _ _ hk,zaG (by rw[jT];exact hk),zbw _ _ hk,zbw _ _ hk,<-jP,<-zaF];exact zT fun j hj=>by rw[zaG aa,Int.add_mul,Int.mul_assoc]
 ·rw[zaJ (by rw[jT];omega),zaJ (by rw[j9,jT];omega)]
theorem zpH(h:∀y∈x,y=0):zD x=0:=by
 induction x with
 |nil=>rfl
 |cons a l ih=>
  have:=h a af;subst this;exact ih fun y hy=>h y (by simp[hy])
theorem zpI(hm:AllLen m m.length)(hx:x.length=m.length)(h:zD x=0):zh m x=0:=by
 rw[<-Qf hm x hx];refine zb8 fun i hi=>?_
 have:x.getD i 0=0:=by
  rw[getD_eq_getElem?_getD,Ze aa];exact Jy h _ (getElem_mem _)
 rw[this,Int.zero_mul]
theorem IsoC.first{a:List (List Int)}(h:IsoC a b t)(ha:RedOK a)(hb:RedOK b)(hx:x.length=a.length)(h0:zD x≠0):zD (Zo a.length t x)≠0:=fun e=>by
 have h1:=h.nm ha hb hx;rw[zpI (zV ha.small) (jT _ _ _) e]at h1;have:=zem hb (x:=x) (by rw[hx,h.dim]) h0;omega
theorem IsoC.inj{a:List (List Int)}(h:IsoC a b t)(ha:RedOK a)(hb:RedOK b)(hx:x.length=a.length)(hy:y.length=a.length)(he:Zo a.length t x=Zo a.length t y):x=y:=by
 have h1:=zpG a.length t (y:=y) (-1) hx;have h2:zD (Zo a.length t (qM x (-1) y))=0:=by
  rw[h1,he];refine zpH fun z hz=>?_
  obtain⟨i,hi,rfl⟩:=List.getElem_of_mem hz;rw[j9]at hi;have:=zaG (x:=Zo a.length t y) (s:=-1) (y:=Zo a.length t y) hi;rw[getD_eq_getElem?_getD,Ze (by rw[j9];exact hi)]at this;simp only[Option.getD_some]at this;rw[this];omega
 have h3:zD (qM x (-1) y)=0:=by
  rcases Int.decEq (zD (qM x (-1) y)) 0 with hne|he
  ·exact absurd h2 (h.first ha hb (by rw[j9,hx]) hne)
  ·exact he
 refine zbt (by rw[hx,hy]) fun k=>?_
 by_cases hk:k<x.length
 ·have e:=zaG (s:=-1) (y:=y) hk;have:(qM x (-1) y).getD k 0=0:=by
   rw[getD_eq_getElem?_getD,Ze (by rw[j9];exact hk)];exact Jy h3 _ (getElem_mem _)
  omega
 ·rw[zaJ aa,zaJ aa]
structure PtsOf(m:List (List Int))(q:Int)(P:List (List Int)):Prop where
 sorted:P.Pairwise (fun x y=>zn x y<0)
 mem:∀x,x∈P↔x.length=m.length/\zD x≠0/\zh m x<=q
theorem zcG(h:P.Pairwise (fun x y=>zn x y<0)):P.Nodup:=h.imp fun hxy e=>by
 subst e;rw[jk]at hxy;omega
theorem zpJ(h:zn x y<0)(h':zn y x<0):False:=by
 have:=Qc x y;omega
theorem zes:∀{P Q:List (List Int)},P.Pairwise (fun x y=>zn x y<0)->Q.Pairwise (fun x y=>zn x y<0)->(∀x,x∈P↔x∈Q)->P=Q
 |[],[],_,_,_=>rfl
 |[],y::Q,_,_,h=>absurd ((h y).2 af) af
 |x::P,[],_,_,h=>absurd ((h x).1 af) af
 |x::P,y::Q,hP,hQ,h=>by
  have hP':=List.pairwise_cons.1 hP;have hQ':=List.pairwise_cons.1 hQ;have e:x=y:=by
   rcases mem_cons.1 ((h x).1 af) with h1|h1
   ·exact h1
   ·rcases mem_cons.1 ((h y).2 af) with h2|h2
    ·exact h2.symm
    ·exact(zpJ (hP'.1 y h2) (hQ'.1 x h1)).elim
  subst e;have hx1:x∉P:=fun hm=>by have:=hP'.1 x hm;rw[jk]at this;omega
  have hx2:x∉Q:=fun hm=>by have:=hQ'.1 x hm;rw[jk]at this;omega
  rw[zes hP'.2 hQ'.2 fun z=>⟨fun hz=>(mem_cons.1 ((h z).1 (by simp[hz]))).resolve_left (fun e=>hx1 (e▸hz)),fun hz=>(mem_cons.1 ((h z).2 (by simp[hz]))).resolve_left (fun e=>hx2 (e▸hz))⟩]
theorem PtsOf.uniq(h:PtsOf m q P)(h':PtsOf m q Q):P=Q:=zes h.sorted h'.sorted fun x=>by rw[h.mem,h'.mem]
theorem zcH(x:List Int):(x.map fun c=>-c).map (fun c=>-c)=x:=by simp[List.map_map,Function.comp_def]
theorem zir:∀x y:List Int,zn (y.map fun c=>-c) (x.map fun c=>-c)=zn x y∨x.length≠y.length
 |[],[]=> .inl rfl
 |[],_::_=> .inr af
 |_::_,[]=> .inr af
 |a::l,b::m=>by
  rcases zir l m with h|h
  ·refine .inl ?_;simp only[List.map_cons,zn];rcases zat a b with ⟨h1,h2⟩|⟨h1,h2⟩|⟨h1,h2⟩
   ·rw[h2,qr (show-b< -a by omega)];rfl
   ·rw[h2,Qm (show-b=-a by omega)];simpa using h
   ·rw[h2,Ql (show-a< -b by omega)];rfl
  ·exact .inr (by simpa using h)
theorem PtsOf.rev(h:PtsOf m q P):P.reverse.map (fun x=>x.map fun c=>-c)=P:=by
 refine zes ?_ h.sorted fun x=>?_
 ·rw[List.pairwise_map,List.pairwise_reverse];refine List.Pairwise.imp_of_mem ?_ h.sorted;intro x y hx hy hxy;rcases zir x y with e|e
  ·rw[e];exact hxy
  ·exact absurd (((h.mem x).1 hx).1.trans ((h.mem y).1 hy).1.symm) e
 ·have key:∀y,y∈P->(y.map fun c=>-c)∈P:=fun y hy=>by
   obtain⟨h1,h2,h3⟩:=(h.mem y).1 hy;exact(h.mem _).2 ⟨by simpa using h1,by rw[jM];omega,by rw[jl];exact h3⟩
  rw[mem_map];constructor
  ·rintro⟨y,hy,rfl⟩;exact key y (List.mem_reverse.1 hy)
  ·intro hx;exact⟨_,List.mem_reverse.2 (key x hx),zcH x⟩
theorem zis:∀{l k:List (List Int)},l.Nodup->(∀x∈l,x∈k)->k.length<=l.length->l.Perm k
 |[],k,_,_,h=>by
  have:k=[]:=List.eq_nil_of_length_eq_zero (by simpa using h);subst this;exact List.Perm.refl _
 |a::l,k,hn,hs,h=>by
  have hn':=List.nodup_cons.1 hn;have ha:=hs a af;have hl:=List.length_erase_of_mem ha;have hp:0<k.length:=List.length_pos_of_mem ha;refine((zis (l:=l) (k:=k.erase a) hn'.2 (fun x hx=>(List.mem_erase_of_ne (fun e=>by subst e;exact hn'.1 hx)).2 (hs x (by simp[hx]))) (by simp at h;omega)).cons a).trans (List.perm_cons_erase ha).symm
theorem IsoC.perm{a:List (List Int)}(h:IsoC a b t)(ha:RedOK a)(hb:RedOK b)(hP:PtsOf a q P)(hQ:PtsOf b q Q)(hl:P.length=Q.length):(Q.map (Zo a.length t)).Perm P:=by
 refine zis ?_ (fun y hy=>?_) (by rw[List.length_map];omega)
 ·rw[List.Nodup,List.pairwise_map];refine List.Pairwise.imp_of_mem ?_ (zcG hQ.sorted);intro x y hx hy hne he;exact hne (h.inj ha hb (((hQ.mem x).1 hx).1.trans h.dim) (((hQ.mem y).1 hy).1.trans h.dim) he)
 ·obtain⟨x,hx,rfl⟩:=mem_map.1 hy;obtain⟨h1,h2,h3⟩:=(hQ.mem x).1 hx;have hx':=h1.trans h.dim;exact(hP.mem _).2 ⟨jT _ _ _,h.first ha hb hx' h2,by rw[h.nm ha hb hx'];exact h3⟩
def wU(z:Int):Int:=IntKind.u64.wrap z
def wI(z:Int):Int:=IntKind.i64.wrap z
def J2(z:Int):Int:=max (wI z) (wI (-z))
theorem zit(z:Int):J2 (-z)=J2 z:=by unfold J2;rw[Int.neg_neg,Int.max_comm]
def zcI(X:Nat):Nat:=((X^^^X / 1073741824)*0xbf58476d1ce4e5b9%18446744073709551616^^^(X^^^X / 1073741824)*0xbf58476d1ce4e5b9%18446744073709551616 / 134217728)*0x94d049bb133111eb%18446744073709551616^^^((X^^^X / 1073741824)*0xbf58476d1ce4e5b9%18446744073709551616^^^(X^^^X / 1073741824)*0xbf58476d1ce4e5b9%18446744073709551616 / 134217728)*0x94d049bb133111eb%18446744073709551616 / 2147483648
def QO(z:Int):Int:=(zcI z.toNat:Nat)
def Jb(c i:Int):Int:=QO (wU (c+i*0x9e3779b97f4a7c15+1))
def zQ(P:List (List Int))(f:List Int->Int):Int:=(P.map f).sum
theorem zet(h:P.Perm Q)(f:List Int->Int):zQ P f=zQ Q f:=by
 unfold zQ;induction h
 ·rfl
 ·rename_i ih;simp[ih]
 ·simp only[List.map_cons,List.sum_cons];omega
 ·rename_i h1 h2;exact h1.trans h2
theorem zcJ{f g:List Int->Int}(h:∀x∈P,f x=g x):zQ P f=zQ P g:=by
 unfold zQ;rw[List.map_congr_left h]
theorem zeu(P:List (List Int))(u:List Int->List Int)(f:List Int->Int):zQ (P.map u) f=zQ P fun x=>f (u x):=by
 unfold zQ;rw[List.map_map];rfl
def jb(m:List (List Int))(x:List Int):Int:=QO (wU (zh m x))
def ju(m P:List (List Int))(c:List Int->Int)(x:List Int):Int:=wU (QO (c x)+zQ P (fun y=>Jb (c y) (J2 (zE m x y))) / 2)
def QP(m P:List (List Int)):List Int->Int:=ju m P (ju m P (jb m))
def qQ(m:List (List Int))(c:List Int->Int)(p x:List Int):Int:=Jb (c x) (wI (zE m p x))
def ZR(m P cols:List (List Int)):List Int->Int:=cols.foldl (qQ m) (QP m P)
def Z4(m P cols:List (List Int)):Int:=wU (zQ P (ZR m P cols))
section
variable {a b t P Q:List (List Int)} {q:Int}
theorem IsoC.cS(h:IsoC a b t)(ha:RedOK a)(hb:RedOK b)(hP:PtsOf a q P)(hQ:PtsOf b q Q)(hl:P.length=Q.length){c d:List Int->Int}(hc:∀x,x.length=a.length->c (Zo a.length t x)=d x)(hx:x.length=a.length):ju a P c (Zo a.length t x)=ju b Q d x:=by
 unfold ju;rw[hc x hx,<-zet (h.perm ha hb hP hQ hl),zeu,zcJ (fun y hy=>by rw[hc y (((hQ.mem y).1 hy).1.trans h.dim),h.lc ha])]
theorem IsoC.cP(h:IsoC a b t)(ha:RedOK a)(hb:RedOK b)(hP:PtsOf a q P)(hQ:PtsOf b q Q)(hl:P.length=Q.length)(hx:x.length=a.length):QP a P (Zo a.length t x)=QP b Q x:=
 h.cS ha hb hP hQ hl (fun _ hx=>h.cS ha hb hP hQ hl (fun x hx=>by unfold jb;rw[h.nm ha hb hx]) hx) hx
theorem IsoC.cF(h:IsoC a b t)(ha:RedOK a):∀(es:List (List Int))(c d:List Int->Int),(∀x,x.length=a.length->c (Zo a.length t x)=d x)->∀x,x.length=a.length->(es.map (Zo a.length t)).foldl (qQ a) c (Zo a.length t x)=es.foldl (qQ b) d x
 |[],_,_,hc,x,hx=>hc x hx
 |e::es,_,_,hc,x,hx=>h.cF ha es _ _ (fun y hy=>by unfold qQ;rw[hc y hy,h.lc ha]) x hx
theorem IsoC.cK(h:IsoC a b t)(ha:RedOK a)(hb:RedOK b)(hP:PtsOf a q P)(hQ:PtsOf b q Q)(hl:P.length=Q.length)(es:List (List Int))(hx:x.length=a.length):ZR a P (es.map (Zo a.length t)) (Zo a.length t x)=ZR b Q es x:=
 h.cF ha es _ _ (fun _ hx=>h.cP ha hb hP hQ hl hx) x hx
theorem IsoC.cT(h:IsoC a b t)(ha:RedOK a)(hb:RedOK b)(hP:PtsOf a q P)(hQ:PtsOf b q Q)(hl:P.length=Q.length)(es:List (List Int)):Z4 a P (es.map (Zo a.length t))=Z4 b Q es:=by
 unfold Z4;rw[<-zet (h.perm ha hb hP hQ hl),zeu,zcJ (fun y hy=>h.cK ha hb hP hQ hl es (((hQ.mem y).1 hy).1.trans h.dim))]
end
def qY(n k:Nat):List (List Int):=(List.range k).map (ZJ n)
def Zy(a b cols:List (List Int))(x:List Int):Bool:=decide (zh a x=ent b cols.length cols.length)&&(List.range cols.length).all fun j=>decide (zE a (cols.getD j []) x=ent b j cols.length)
def Zz(cd:Bool)(a b P Q cols:List (List Int))(x:List Int):Bool:=
 decide (zh a x=ent b cols.length cols.length)&&(!cd||decide (ZR a P cols x=ZR b Q (qY b.length cols.length) (ZJ b.length cols.length)))&&((List.range cols.length).all fun j=>decide (wI (zE a (cols.getD j []) x)=ent b j cols.length))&&(!cd||decide (Z4 a P (cols++[x])=Z4 b Q (qY b.length (cols.length+1))))
def Zt(ok:List (List Int)->List Int->Bool)(P:List (List Int)):Nat->List (List Int)->Option (List (List Int))
 |0,cols=>some cols
 |r+1,cols=>P.findSome? fun x=>if ok cols x then Zt ok P r (cols++[x]) else none
theorem ziu{α β:Type}{f g:α->Option β}:∀{l:List α},(∀x∈l,f x=g x)->l.findSome? f=l.findSome? g
 |[],_=>rfl
 |x::l,h=>by rw[List.findSome?_cons,List.findSome?_cons,h x af,ziu fun y hy=>h y (by simp[hy])]
structure ParC(a b P cols:List (List Int)):Prop where
 mem:∀x∈cols,x∈P
 ip:∀i j,i<=j->j<cols.length->zE a (cols.getD i []) (cols.getD j [])=ent b i j
theorem zev{α:Type}{l k:List α}{d:α}(h:i<l.length):(l++k).getD i d=l.getD i d:=by simp[getD_eq_getElem?_getD,List.getElem?_append_left h]
theorem zcK{α:Type}{l:List α}{x d:α}:(l++[x]).getD l.length d=x:=by simp[getD_eq_getElem?_getD]
section
variable {a b P Q:List (List Int)} {q:Int}
theorem ParC.nil:ParC a b P []:=⟨fun _ h=>by simp at h,fun _ _ _ h=>by simp at h⟩
theorem ParC.snoc(h:ParC a b P cols)(ha:RedOK a)(hP:PtsOf a q P)(hx:x∈P)(hf:Zy a b cols x=true):ParC a b P (cols++[x]):=by
 unfold Zy at hf;rw[Bool.and_eq_true,all_eq_true]at hf;have h1:=of_decide_eq_true hf.1;refine⟨fun y hy=>?_,fun i j hij hj=>?_⟩
 ·rcases List.mem_append.1 hy with hy|hy
  ·exact h.mem y hy
  ·rw[List.mem_singleton.1 hy];exact hx
 ·rw[length_append,length_singleton]at hj;rcases Zl j cols.length with hlt|hge
  ·rw[zev aa,zev hlt];exact h.ip i j hij hlt
  ·obtain rfl:j=cols.length:=aa
   rw[zcK];rcases Zl i cols.length with hi|hi
   ·rw[zev hi];exact of_decide_eq_true (hf.2 i (by simpa using hi))
   ·obtain rfl:i=cols.length:=aa
    rw[zcK,Qf (zV ha.small) x ((hP.mem x).1 hx).1];exact h1
theorem J3(ha:RedOK a)(hP:PtsOf a q P):∀(r:Nat)(cols t:List (List Int)),Zt (Zy a b) P r cols=some t->ParC a b P cols->ParC a b P t/\t.length=cols.length+r/\t.take cols.length=cols
 |0,cols,t,h,hc=>by
  obtain rfl:cols=t:=by simpa[Zt] using h
  exact⟨hc,rfl,af⟩
 |r+1,cols,t,h,hc=>by
  obtain⟨l1,x,l2,e,hx,-⟩:=List.findSome?_eq_some_iff.1 h;have hxP:x∈P:=by rw[e];simp
  by_cases hf:Zy a b cols x=true
  ·rw[if_pos hf]at hx;obtain⟨h1,h2,h3⟩:=J3 ha hP r _ t hx (hc.snoc ha hP hxP hf);rw[length_append,length_singleton]at h2 h3;refine⟨h1,aa,?_⟩;have:=congrArg (List.take cols.length) h3;rw[take_take,Nat.min_eq_left aa,List.take_append_of_le_length Zr,take_length]at this;exact this
  ·rw[if_neg hf]at hx;cases hx
theorem ParC.iso(h:ParC a b P t)(ha:RedOK a)(hb:RedOK b)(hP:PtsOf a q P)(hd:b.length=a.length)(hl:t.length=a.length):IsoC a b t:=by
 refine⟨hl,hd,fun x hx=>((hP.mem x).1 (h.mem x hx)).1,fun i j hi hj=>?_⟩;rcases Zl j i with hlt|hge
 ·rw[zbv ha.sym,hb.sym i j aa aa];exact h.ip j i aa aa
 ·exact h.ip i j hge aa
theorem IsoC.take_map(h:IsoC a b t)(hk:k<=a.length):t.take k=(qY b.length k).map (Zo a.length t):=by
 have hl:=h.len;refine List.ext_getElem (by simp[qY];omega) fun i h1 h2=>?_
 have hi:i<k:=by simp at h1;omega
 have e:=ziq (n:=a.length) (k:=i) (t:=t) aa (h.row _ (by rw[getD_eq_getElem?_getD,Ze aa];exact getElem_mem _));simp only[qY,List.getElem_take,List.getElem_map,List.getElem_range];rw[h.dim,e,getD_eq_getElem?_getD,Ze aa];rfl
theorem IsoC.at_unit(h:IsoC a b t)(hk:k<a.length):t.getD k []=Zo a.length t (ZJ b.length k):=by
 have hl:=h.len;rw[h.dim,ziq hk (h.row _ (by rw[getD_eq_getElem?_getD,Ze aa];exact getElem_mem _))]
theorem IsoC.pass(h:IsoC a b t)(ha:RedOK a)(hb:RedOK b)(hP:PtsOf a q P)(hQ:cd=true->PtsOf b q Q/\P.length=Q.length)(hq:q<=1099511627776)(zs2:∀x∈t,x∈P)(hc:t.take cols.length=cols)(hk:cols.length<a.length):Zz cd a b P Q cols (t.getD cols.length [])=true:=by
 obtain⟨k,hkk⟩:=Xz cols.length;have hl:=h.len;have hat:∀j,j<a.length->t.getD j []∈t:=fun j hj=>by rw[getD_eq_getElem?_getD,Ze aa];exact getElem_mem _
 have zsH:∀j,j<k->cols.getD j []=t.getD j []:=fun j hj=>by rw[<-hc,<-hkk,getD_eq_getElem?_getD,getElem?_take,if_pos hj,<-getD_eq_getElem?_getD]
 unfold Zz;rw[<-hkk]at hk hc|-
 have hnp:∀x∈t,x.length=a.length/\0<=zh a x/\zh a x<=q:=fun x hx=>by
  have h1:=(hP.mem x).1 (zs2 x hx);exact⟨h1.1,Jw ha x h1.1,h1.2.2⟩
 have hw:∀i j,i<a.length->j<a.length->wI (zE a (t.getD i []) (t.getD j []))=zE a (t.getD i []) (t.getD j []):=fun i j hi hj=>by
  obtain⟨x1,x2,x3⟩:=hnp _ (hat i hi);obtain⟨y1,y2,y3⟩:=hnp _ (hat j hj);have:=zin ha x1 y1;rw[zcF (zV ha.small) x1 y1];exact Iw
 rw[Bool.and_eq_true,Bool.and_eq_true,Bool.and_eq_true];refine⟨⟨⟨?_,?_⟩,?_⟩,?_⟩
 ·refine decide_eq_true ?_;rw[<-Qf (zV ha.small) _ (hnp _ (hat k hk)).1];exact h.ip k k hk hk
 ·cases hcd:cd with
  |false=>rfl
  |true=>
   obtain⟨h1,h2⟩:=hQ hcd;refine decide_eq_true ?_;rw[<-hc,h.take_map aa,h.at_unit hk];exact h.cK ha hb hP h1 h2 _ (by rw[zaK,h.dim])
 ·rw[all_eq_true];intro j hj;have hj:j<k:=by simpa using hj
  refine decide_eq_true ?_;rw[zsH j hj,hw j k aa hk];exact h.ip j k aa hk
 ·cases hcd:cd with
  |false=>rfl
  |true=>
   obtain⟨h1,h2⟩:=hQ hcd;refine decide_eq_true ?_;have e:cols++[t.getD k []]=t.take (k+1):=by
    rw[List.take_add_one,hc,getD_eq_getElem?_getD,Ze aa];rfl
   rw[e,h.take_map aa];exact h.cT ha hb hP h1 h2 _
theorem zpK(ha:RedOK a)(hP:PtsOf a q P)(hq:q<=1099511627776)(hc:∀y∈cols,y∈P)(hx:x∈P)(h:Zz cd a b P Q cols x=true):Zy a b cols x=true:=by
 unfold Zz at h;rw[Bool.and_eq_true,Bool.and_eq_true,Bool.and_eq_true,all_eq_true]at h;unfold Zy;rw[Bool.and_eq_true,all_eq_true];refine⟨h.1.1.1,fun j hj=>?_⟩;have h1:=of_decide_eq_true (h.1.2 j hj);have hj:j<cols.length:=by simpa using hj
 have hy:=hc (cols.getD j []) (by rw[getD_eq_getElem?_getD,Ze hj];exact getElem_mem _);obtain⟨x1,-,x3⟩:=(hP.mem x).1 hx;obtain⟨y1,-,y3⟩:=(hP.mem _).1 hy;have h2:=zin ha y1 x1;rw[<-zcF (zV ha.small) y1 x1]at h2;refine decide_eq_true ?_;rw[<-h1];exact(Iw).symm
theorem ziv(ha:RedOK a)(hb:RedOK b)(hd:b.length=a.length)(hP:PtsOf a q P)(hQ:cd=true->PtsOf b q Q/\P.length=Q.length)(hq:q<=1099511627776):∀(r:Nat)(cols:List (List Int)),cols.length+r=a.length->ParC a b P cols->Zt (Zz cd a b P Q) P r cols=Zt (Zy a b) P r cols
 |0,_,_,_=>rfl
 |r+1,cols,hr,hc=>by
  refine ziu fun x hx=>?_
  by_cases hf:Zy a b cols x=true
  ·rw[if_pos hf];have ih:=ziv ha hb hd hP hQ hq r (cols++[x]) (by simp;omega) (hc.snoc ha hP hx hf);by_cases ho:Zz cd a b P Q cols x=true
   ·rw[if_pos ho,ih]
   ·rw[if_neg ho]
    cases he:Zt (Zy a b) P r (cols++[x]) with
    |none=>rfl
    |some t=>
     obtain⟨h1,h2,h3⟩:=J3 ha hP r _ t he (hc.snoc ha hP hx hf);rw[length_append,length_singleton]at h2 h3;have hi:=h1.iso ha hb hP hd aa;have e1:t.take cols.length=cols:=by
      have:=congrArg (List.take cols.length) h3;rw[take_take,Nat.min_eq_left aa,List.take_append_of_le_length Zr,take_length]at this;exact this
     have e2:t.getD cols.length []=x:=by
      have e:t.getD cols.length []=(t.take (cols.length+1)).getD cols.length []:=by
       rw[getD_eq_getElem?_getD,getD_eq_getElem?_getD,getElem?_take,if_pos aa]
      rw[e,h3,zcK]
     have:=hi.pass (cd:=cd) (Q:=Q) ha hb hP hQ hq h1.mem e1 aa;rw[e2]at this;exact absurd this ho
  ·rw[if_neg hf];by_cases ho:Zz cd a b P Q cols x=true
   ·exact absurd (zpK ha hP hq hc.mem hx ho) hf
   ·rw[if_neg ho]
theorem zcL(ha:RedOK a)(hP:PtsOf a q P){s:List (List Int)}(hs:IsoC a b s)(hm:∀x∈s,x∈P):∀(r:Nat)(cols:List (List Int)),cols.length+r=a.length->s.take cols.length=cols->∃t,Zt (Zy a b) P r cols=some t/\(t=s∨∃j,j<a.length/\t.take j=s.take j/\zn (t.getD j []) (s.getD j [])<0)
 |0,cols,hr,hc=>⟨cols,rfl,.inl (by rw[<-hc,List.take_of_length_le (by have:=hs.len;omega)])⟩
 |r+1,cols,hr,hc=>by
  have hl:=hs.len;have hk:cols.length<s.length:=aa
  obtain⟨x,hx⟩:=Xz (s.getD cols.length []);have hxs:s[cols.length]? =some x:=by rw[hx,getD_eq_getElem?_getD,Ze hk];rfl
  have hxP:x∈P:=hm x (Zm hxs);have zsH:∀j,j<cols.length->cols.getD j []=s.getD j []:=fun j hj=>by rw[<-hc,getD_eq_getElem?_getD,getElem?_take,if_pos hj,<-getD_eq_getElem?_getD]
  have zsv:Zy a b cols x=true:=by
   unfold Zy;rw[Bool.and_eq_true,all_eq_true];refine⟨decide_eq_true ?_,fun j hj=>decide_eq_true ?_⟩
   ·rw[<-Qf (zV ha.small) x ((hP.mem x).1 hxP).1,hx];exact hs.ip _ _ aa aa
   ·have hj:j<cols.length:=by simpa using hj
    rw[zsH j hj,hx];exact hs.ip _ _ aa aa
  have hc':s.take (cols++[x]).length=cols++[x]:=by
   rw[length_append,length_singleton,List.take_add_one,hc,hxs];rfl
  obtain⟨t0,ht0,zuq⟩:=zcL ha hP hs hm r (cols++[x]) (by simp;omega) hc';obtain⟨P1,P2,eP⟩:=List.append_of_mem hxP;have zxt:∃t,Zt (Zy a b) P (r+1) cols=some t:=by
   cases he:Zt (Zy a b) P (r+1) cols with
   |some t=>exact⟨t,rfl⟩
   |none=>
    have:=List.findSome?_eq_none_iff.1 he x hxP;rw[if_pos zsv,ht0]at this
    cases this
  obtain⟨t,ht⟩:=zxt;refine⟨t,ht,?_⟩;obtain⟨l1,y,l2,e,hy,zxu⟩:=List.findSome?_eq_some_iff.1 ht;have hyP:y∈P:=by rw[e];simp
  by_cases hyx:y=x
  ·subst hyx;rw[if_pos zsv,ht0]at hy;injection hy with hy
   subst hy;exact zuq
  ·have hxl:x∉l1:=fun hm=>by
    have:=zxu x hm;rw[if_pos zsv,ht0]at this
    cases this
   have hx2:x∈l2:=by
    rw[e]at hxP;rcases List.mem_append.1 hxP with h|h
    ·exact absurd h hxl
    ·rcases mem_cons.1 h with h|h
     ·exact absurd h.symm hyx
     ·exact h
   have hlt:zn y x<0:=by
    have h1:=hP.sorted;rw[e]at h1;exact(List.pairwise_cons.1 (List.pairwise_append.1 h1).2.1).1 x hx2
   by_cases hf:Zy a b cols y=true
   ·rw[if_pos hf]at hy;have zxv:ParC a b P cols:=⟨fun z hz=>hm z (by rw[<-hc]at hz;exact List.mem_of_mem_take hz),fun i j hij hj=>by rw[zsH i aa,zsH j hj];exact hs.ip _ _ aa aa⟩;obtain⟨-,h2,h3⟩:=J3 ha hP r _ t hy (zxv.snoc ha hP hyP hf);rw[length_append,length_singleton]at h2 h3;refine .inr ⟨cols.length,aa,?_,?_⟩
    ·have:=congrArg (List.take cols.length) h3;rw[take_take,Nat.min_eq_left aa,List.take_append_of_le_length Zr,take_length]at this;rw[this,hc]
    ·have e:t.getD cols.length []=(t.take (cols.length+1)).getD cols.length []:=by
      rw[getD_eq_getElem?_getD,getD_eq_getElem?_getD,getElem?_take,if_pos aa]
     rw[e,h3,zcK,<-hx];exact hlt
   ·rw[if_neg hf]at hy;cases hy
end
section
variable (ok:List (List Int)->List Int->Bool) (P:List (List Int))
def jv(r:Nat)(cols:List (List Int))(i:Nat):Option (List (List Int)):=(P.drop i).findSome? fun x=>if ok cols x then Zt ok P r (cols++[x]) else none
theorem ziw(r:Nat)(cols:List (List Int)):jv ok P r cols 0=Zt ok P (r+1) cols:=rfl
theorem zix(h:P.length<=i):jv ok P r cols i=none:=by
 unfold jv;rw[List.drop_eq_nil_of_le h];rfl
theorem ziy(h:P[i]? =some x):jv ok P r cols i=(if ok cols x then Zt ok P r (cols++[x]) else none).or (jv ok P r cols (i+1)):=by
 obtain⟨hi,rfl⟩:=Zg.1 h;unfold jv;rw[List.drop_eq_getElem_cons hi,List.findSome?_cons];split<;>simp_all
def Qg(n first:Nat)(st:List (List Int))(nx:List Nat):Nat->Option (List (List Int))
 |0=>jv ok P (n-first-1) (st.take first) (nx.getD first 0)
 |d+1=>(jv ok P (n-(first+d+1)-1) (st.take (first+d+1)) (nx.getD (first+d+1) 0)).or (Qg n first st nx d)
theorem zew{first:Nat}{nx nx':List Nat}:∀d:Nat,(∀j,j<=first+d->st.take j=st'.take j/\nx.getD j 0=nx'.getD j 0)->Qg ok P n first st nx d=Qg ok P n first st' nx' d
 |0,h=>by
  unfold Qg;rw[(h first aa).1,(h first aa).2]
 |d+1,h=>by
  unfold Qg;rw[(h (first+d+1) aa).1,(h (first+d+1) aa).2,zew d fun j hj=>h j aa]
def Qh(n first:Nat)(st:List (List Int))(nx:List Nat):Option (List (List Int)):=if st.length=n then some st else Qg ok P n first st nx (st.length-first)
theorem zpL{nx:List Nat}(h:st.length<=n)(h0:nx.getD st.length 0=0):Qh ok P n st.length st nx=Zt ok P (n-st.length) st:=by
 unfold Qh;by_cases e:st.length=n
 ·rw[if_pos e,e,Nat.sub_self];rfl
 ·rw[if_neg e,Nat.sub_self];unfold Qg;rw[h0,take_length,ziw];congr 1;omega
theorem Jc{l:List Nat}{v:Nat}(h:i<l.length):(l.set i v).getD j 0=if j=i then v else l.getD j 0:=by
 rw[getD_eq_getElem?_getD,List.getElem?_set];by_cases e:j=i
 ·subst e;simp[h]
 ·rw[if_neg (fun q=>e q.symm),if_neg e,getD_eq_getElem?_getD]
def zaM(n first:Nat)(st:List (List Int))(nx:List Nat):Nat->Option (List (List Int))
 |0=>none
 |d+1=>Qg ok P n first st nx d
theorem zcM(n first:Nat)(st:List (List Int))(nx:List Nat):∀d,Qg ok P n first st nx d=(jv ok P (n-(first+d)-1) (st.take (first+d)) (nx.getD (first+d) 0)).or (zaM ok P n first st nx d)
 |0=>by simp[Qg,zaM]
 |d+1=>rfl
theorem ziz{first:Nat}{nx nx':List Nat}:∀d:Nat,(∀j,j<first+d->st.take j=st'.take j/\nx.getD j 0=nx'.getD j 0)->zaM ok P n first st nx d=zaM ok P n first st' nx' d
 |0,_=>rfl
 |d+1,h=>zew ok P d fun j hj=>h j aa
theorem zpM{first:Nat}{nx:List Nat}(hf:first<=st.length)(hn:st.length<n)(hl:n<nx.length)(hi:nx.getD st.length 0=i)(hx:P[i]? =some x)(h:ok st x=true):
  Qh ok P n first st nx=Qh ok P n first (st++[x]) ((nx.set st.length (i+1)).set (st.length+1) 0):=by
 obtain⟨d,hd⟩:∃d,st.length=first+d:=⟨st.length-first,aa⟩
 have hnx:∀j,((nx.set st.length (i+1)).set (st.length+1) 0).getD j 0=if j=st.length+1 then 0 else if j=st.length then i+1 else nx.getD j 0:=fun j=>by
  rw[Jc (by simp;omega),Jc aa]
 have zvT:∀j,j<=st.length->(st++[x]).take j=st.take j:=fun j hj=>by rw[List.take_append_of_le_length hj]
 have e1:Qg ok P n first (st++[x]) ((nx.set st.length (i+1)).set (st.length+1) 0) d=(jv ok P (n-st.length-1) st (i+1)).or (zaM ok P n first st nx d):=by
  rw[zcM,<-hd,hnx,if_neg aa,if_pos rfl,zvT _ Zr,take_length];congr 1
  exact ziz ok P d fun j hj=>⟨zvT j aa,by rw[hnx,if_neg aa,if_neg aa]⟩
 have e0:Qg ok P n first st nx d=(jv ok P (n-st.length-1) st i).or (zaM ok P n first st nx d):=by
  rw[zcM,<-hd,hi,take_length]
 unfold Qh;rw[if_neg aa,(aa:st.length-first=d),e0,ziy ok P hx,if_pos h];by_cases e:st.length+1=n
 ·rw[if_pos (by simpa using e),(aa:n-st.length-1=0)];rfl
 ·rw[if_neg (by simpa using e),show (st++[x]).length-first=d+1 by simp;omega,Qg,e1,(aa:first+d+1=st.length+1),hnx,if_pos rfl,ziw];have e2:(st++[x]).take (st.length+1)=st++[x]:=List.take_of_length_le af;rw[e2,(aa:n-(st.length+1)-1+1=n-st.length-1),Option.or_assoc]
theorem zpN{first:Nat}{nx:List Nat}(hf:first<=st.length)(hn:st.length<n)(hl:n<nx.length)(hi:nx.getD st.length 0=i)(hx:P[i]? =some x)(h:ok st x=false):
  Qh ok P n first st nx=Qh ok P n first st (nx.set st.length (i+1)):=by
 obtain⟨d,hd⟩:∃d,st.length=first+d:=⟨st.length-first,aa⟩
 unfold Qh;have hst:=ziy ok P (r:=n-st.length-1) (cols:=st) hx;rw[h]at hst;simp only[Bool.false_eq_true,if_false,Option.none_or]at hst;rw[if_neg aa,if_neg aa,(aa:st.length-first=d),zcM,zcM,<-hd,hi,take_length,hst,Jc aa,if_pos rfl];congr 1
 exact ziz ok P d fun j hj=>⟨rfl,by rw[Jc aa,if_neg aa]⟩
theorem zpO{first:Nat}{nx:List Nat}(hf:first<st.length)(hn:st.length<n)(hi:P.length<=nx.getD st.length 0):Qh ok P n first st nx=Qh ok P n first (st.take (st.length-1)) nx:=by
 obtain⟨d,hd⟩:∃d,st.length=first+d+1:=⟨st.length-first-1,aa⟩
 unfold Qh;rw[if_neg aa,if_neg (by rw[List.length_take];omega),(aa:st.length-first=d+1),Qg,(aa:first+d+1=st.length),zix ok P hi,Option.none_or,show (st.take (st.length-1)).length-first=d by rw[List.length_take];omega];exact zew ok P d fun j hj=>⟨by rw[take_take,Nat.min_eq_left aa],rfl⟩
theorem zpP{nx:List Nat}(hn:st.length<n)(hi:P.length<=nx.getD st.length 0):Qh ok P n st.length st nx=none:=by
 unfold Qh;rw[if_neg aa,Nat.sub_self];unfold Qg;exact zix ok P hi
end
def qx(N n first:Nat)(nx:List Nat):Nat->Nat
 |0=>(N+1-nx.getD first 0)*(N+2)^(n-first)
 |d+1=>(N+1-nx.getD (first+d+1) 0)*(N+2)^(n-(first+d+1))+qx N n first nx d
theorem zex{first:Nat}{nx nx':List Nat}:∀d:Nat,(∀j,j<=first+d->nx.getD j 0=nx'.getD j 0)->qx N n first nx d=qx N n first nx' d
 |0,h=>by unfold qx;rw[h first aa]
 |d+1,h=>by unfold qx;rw[h (first+d+1) aa,zex d fun j hj=>h j aa]
theorem zpQ{first:Nat}{nx:List Nat}(hd:k=first+d)(hk:k<n)(hl:n<nx.length)(hi:nx.getD k 0<=i)(hN:i<N):qx N n first ((nx.set k (i+1)).set (k+1) 0) (d+1)<qx N n first nx d:=by
 have hnx:∀j,((nx.set k (i+1)).set (k+1) 0).getD j 0=if j=k+1 then 0 else if j=k then i+1 else nx.getD j 0:=fun j=>by
  rw[Jc (by simp;omega),Jc aa]
 have hp:(N+2)^(n-k)=(N+2)*(N+2)^(n-(k+1)):=by rw[(aa:n-k=(n-(k+1))+1),Nat.pow_succ,Nat.mul_comm]
 have zsC:0<(N+2)^(n-(k+1)):=Nat.pow_pos aa;have key:(N+1-0)*(N+2)^(n-(k+1))+(N+1-(i+1))*(N+2)^(n-k)<(N+1-nx.getD k 0)*(N+2)^(n-k):=by
  have h1:(N+1-(i+1)+1)*(N+2)^(n-k)<=(N+1-nx.getD k 0)*(N+2)^(n-k):=Nat.mul_le_mul_right _ aa;rw[Nat.add_mul,Nat.one_mul]at h1;have h2:(N+1-0)*(N+2)^(n-(k+1))<(N+2)^(n-k):=by
   rw[hp];exact Nat.mul_lt_mul_of_pos_right aa zsC
  omega
 cases d with
 |zero=>
  obtain rfl:k=first:=aa
  unfold qx qx;rw[(aa:k+0+1=k+1),hnx,hnx,if_pos rfl,if_neg aa,if_pos rfl];exact key
 |succ d=>
  rw[qx,qx,qx,(aa:first+(d+1)+1=k+1),(aa:first+d+1=k),hnx,hnx,if_pos rfl,if_neg aa,if_pos rfl,zex (nx':=nx) d fun j hj=>by rw[hnx,if_neg aa,if_neg aa]];omega
theorem zpR{first:Nat}{nx:List Nat}(hd:k=first+d+1)(hk:k<=n)(hl:n<nx.length)(hi:i<=N):qx N n first (nx.set k i) d<qx N n first nx (d+1)∨N<nx.getD k 0:=by
 rcases Zl N (nx.getD k 0) with h|h
 ·exact .inr h
 ·refine .inl ?_;rw[qx,(aa:first+d+1=k),zex (nx':=nx) d fun j hj=>by rw[Jc aa,if_neg aa]];have:0<(N+1-nx.getD k 0)*(N+2)^(n-k):=Nat.mul_pos aa (Nat.pow_pos aa);omega
theorem ziA(P Q:List (List Int))(f:List Int->Int):zQ (P++Q) f=zQ P f+zQ Q f:=by unfold zQ;simp
theorem zpS(P:List (List Int))(f:List Int->Int):zQ P.reverse f=zQ P f:=zet (List.reverse_perm P) f
theorem zpT{h:Nat}(zsw:P.reverse.map (fun x=>x.map fun c=>-c)=P)(hl:P.length=2*h){f:List Int->Int}(hf:∀x,f (x.map fun c=>-c)=f x):zQ P f / 2=zQ (P.take h) f:=by
 have e1:P.drop h=(P.take h).reverse.map fun x=>x.map fun c=>-c:=by
  have e:=congrArg (List.drop h) zsw;rw[<-List.map_drop,List.drop_reverse,(aa:P.length-h=h)]at e;exact e.symm
 have e2:zQ P f=zQ (P.take h) f+zQ (P.take h) f:=by
  conv=>lhs;rw[<-List.take_append_drop h P]
  rw[ziA,e1,zeu,zcJ (f:=fun x=>f (x.map fun c=>-c)) (g:=f) (fun x _=>hf x),zpS]
 rw[e2];omega
theorem zpU(m:List (List Int))(x y:List Int):zE m (x.map fun c=>-c) y=-zE m x y:=by
 unfold zE;rw[<-Int.neg_one_mul,<-jP];exact zT fun j _=>by rw[zcB,<-Int.mul_assoc,Int.neg_one_mul]
theorem ziB{c:List Int->Int}(hc:∀x,c (x.map fun c=>-c)=c x)(x:List Int):ju m P c (x.map fun c=>-c)=ju m P c x:=by
 unfold ju;rw[hc,zcJ (fun y _=>by rw[zpU,zit])]
theorem zpV(m:List (List Int))(x:List Int):jb m (x.map fun c=>-c)=jb m x:=by unfold jb;rw[jl]
end
section
open Go.RowKit
theorem J4{Y:Option Addr}(hX:IntsA w0 X x)(hY:IntsA w0 Y y)(hxn:x.length=n)(hyn:y.length=k)(hl:n<=k)(hn:n<=1099511627776)[hx:Ext w0 w]:
  Cq 91 #[.slice X n c,.slice Y k d] w (Zq w (.int .i64 (z6 x y))):=by
 have hX0:=hX.ext hx;have hY0:=hY.ext hx;have HXN:=Zh hxn;have HYN:=Zh hyn;clear hxn hyn hX hY;go_enter Tryz.func91,Tryz.ntmps91;go_wp2;go_loop [5,6,7,10] (fun s _ _ i=>∃q:Nat,q<=n/\i= .int .i64 q/\s= .int .i64 (z6 (x.take q) (y.take q))) (fun _ _ _ i=>n-(intOf i).toNat)
 case atStart=>exact⟨0,aa,rfl,rfl⟩
 case round=>
  obtain⟨q,hq,rfl,rfl⟩:=hrel;by_cases hlt:q<n
  ·obtain⟨b1,o1,a,rfl,ha,e1,e2⟩:=hX0.at_ (i:=q) (by rw[HXN.out];exact hlt);obtain⟨b2,o2,b,rfl,hb,f1,f2⟩:=hY0.at_ (i:=q) (by rw[HYN.out];omega);have hst:=za4 x y q a b ha hb;have HS:Hid (wrap64 (z6 (x.take q) (y.take q)+wrap64 (a*b))=z6 (x.take (q+1)) (y.take (q+1))):=Zh (by
    unfold z6;rw[JF,JF,zii,zer,hst])
   generalize z6 (x.take q) (y.take q)=s at*
   clear hst ha hb;go_wp2;exact⟨⟨q+1,aa,by go_num,congrArg (Value.int IntKind.i64) HS.out⟩,by simp[intOf];omega⟩
  ·obtain rfl:q=n:=aa
   have HV:Hid (z6 (x.take q) (y.take q)=z6 x y):=Zh (by
    have h1:x.take q=x:=List.take_of_length_le (by rw[HXN.out];exact Zr);have h3:=zij x y;rw[HXN.out]at h3;unfold z6;rw[h1,h3])
   rw[HV.out];clear HV;go_wp2;go_ret;exact⟨rfl,rfl⟩
theorem zpW(X:Nat)(h:X<18446744073709551616):zcI X<18446744073709551616:=by
 unfold zcI;exact Nat.xor_lt_two_pow (n:=64) (Nat.mod_lt _ ac) (Nat.lt_of_le_of_lt (Nat.div_le_self _ _) (Nat.mod_lt _ ac))
theorem zpX(X:Nat)(h:X<18446744073709551616):Cq 210 #[.int .u64 X] w (Zq w (.int .u64 (QO X))):=by
 have h1:IntKind.u64.wrap (bits .xor .u64 (X:Int) ((X:Int) / 1073741824)*0xbf58476d1ce4e5b9)=_:=mixStep_u64 X 1073741824 0xbf58476d1ce4e5b9 h;obtain⟨Y,hY⟩:=Yz ((X^^^X / 1073741824)*0xbf58476d1ce4e5b9%18446744073709551616);have hYl:Y<18446744073709551616:=by rw[<-hY];exact Nat.mod_lt _ ac
 rw[hY]at h1;have h2:IntKind.u64.wrap (bits .xor .u64 (Y:Int) ((Y:Int) / 134217728)*0x94d049bb133111eb)=_:=mixStep_u64 Y 134217728 0x94d049bb133111eb hYl;obtain⟨Z,hZ⟩:=Yz ((Y^^^Y / 134217728)*0x94d049bb133111eb%18446744073709551616);have hZl:Z<18446744073709551616:=by rw[<-hZ];exact Nat.mod_lt _ ac
 rw[hZ]at h2;have h3:bits .xor .u64 (Z:Int) ((Z:Int) / 2147483648)=_:=xorShift_u64 Z 2147483648 hZl;have HM:Hid (QO X=((Z^^^Z / 2147483648:Nat):Int)):=Zh (by unfold QO zcI;rw[Int.toNat_natCast,hY,hZ]);clear hY hZ;rw[HM.out];clear HM;go_enter Tryz.func210,Tryz.ntmps210;go_wp2;go_ret;exact⟨rfl,rfl⟩
end
end Go.Proofs.YtgoaelchibpffaaGreat
