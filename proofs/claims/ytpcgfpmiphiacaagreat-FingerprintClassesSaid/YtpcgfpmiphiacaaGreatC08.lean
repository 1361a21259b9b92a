import Derived.Test.YtpcgfpmiphiacaaGreatC07
import Derived.Laws.EntriesVeiled
set_option maxHeartbeats 8000000
set_option linter.unusedVariables false
set_option linter.unusedSimpArgs false
namespace Go.Proofs.YtpcgfpmiphiacaaGreat
open Go.RowKit
open List (map_cons map_append getElem_mem getElem?_map range_succ getElem?_append_left)
variable {e0 za:Int} {L l ls m:List (List Int)} {r:List Int} {vs:List Value} {bx by_ c c' cy d dz g k lc lo mc n ox oy sb zf:Nat} {A A' B Z lB mB:Option Addr} {W w w' w0 w2 wr:World}
theorem Perm.pairwise_ne{els els':List KE}(hp:els'.Perm els)(h:els.Pairwise (fun x y=>x.cmp y≠0)):els'.Pairwise (fun x y=>x.cmp y≠0):=
 (hp.pairwise_iff (fun{x y}hxy h0=>hxy (by
  have e:=Jh (y.key::y.l) (x.key::x.l);have e2:y.cmp x=zC (y.key::y.l) (x.key::x.l):=rfl;have e3:x.cmp y=zC (x.key::x.l) (y.key::y.l):=rfl;rw[e3,e,<-e2,h0];rfl))).2 h
theorem zgh(x y:KE):y.cmp x=-x.cmp y:=Jh (x.key::x.l) (y.key::y.l)
theorem Same.cell{b o:Nat}(h:Same g w w')(hb:b<w.heap.size)(hne:b≠g):w'.cell? ⟨b,o,none⟩=w.cell? ⟨b,o,none⟩:=World.cell?_of_block (h.1 b hb hne)
structure SortPost(w w':World)(sb g:Nat)(A:Option Addr)(c:Nat)(els els':List KE):Prop where
 perm:els'.Perm els
 sorted:els'.Pairwise (fun x y=>x.cmp y<0)
 row:0<els.length->KRow w' g els'
 ok:∀x∈els',x.ok w'
 st:w'.heap[sb]? =some (.cells #[.slice A els.length c,.func (.func 131) #[] #[]] 197 (0,0))
 keep:∀b,b<w.heap.size->b≠g->w'.heap[b]? =w.heap[b]?
 below:∀B,B<=g->B<=w.heap.size->Below B w w'
theorem zlE{els:List KE}(hst:w.heap[sb]? =some (.cells #[.slice (some ⟨g,0,none⟩) els.length c,.func (.func 131) #[] #[]] 197 (0,0)))(zr6:KRow w g els)(hok:∀x∈els,x.ok w)(hn:els.length<=1099511627776)(hd:els.Pairwise (fun x y=>x.cmp y≠0))(hg:g<w.heap.size):
  Cq 136 #[.pointer (some ⟨sb,0,none⟩)] w fun e w'=>e= .returned (.tuple #[])/\∃els',SortPost w w' sb g (some ⟨g,0,none⟩) c els els':=by
 have hsb:=zF hst;have hgs:sb≠g:=by
  rintro rfl;obtain⟨cur,h1,-⟩:=zr6;rw[hst]at h1;injection h1 with h1
  injection h1 with _ he
  exact absurd he (by decide)
 obtain⟨s1,s2,s3,s4,-⟩:=zQ hst;have HST:=Zh hst;obtain⟨n,hN⟩:=Xz els.length;have HN:=Zh hN;have ztu:=fun W(hh:Ext w W)=>zlz (w:=W) (cap:=c) (zr6.ext hh) (fun x hx=>(hok x hx).ext hh) (by omega)
 rw[<-hN]at ztu s1;have HSO:=Zh ztu;have HD:=Zh hd;have oS:Old sb w:=⟨hsb⟩;clear ztu hN hst hd hok;go_enter Tryz.func136,Tryz.ntmps136;go_wp2_with fail
 go_region_held3 (fun w'=>w'.cell? ⟨w.heap.size,0,none⟩=some (.pointer (some ⟨sb,0,none⟩))/\w'.cell? ⟨sb,0,none⟩=some (.slice (some ⟨g,0,none⟩) n c)/\w'.cell? ⟨sb,1,none⟩=some (.func (.func 131) #[] #[])) (first|assumption|(simp[go_sem,s1,s2]))
  (first
   |(go_at_call 196;refine(HSO.out _ Zi).mono ?_;rintro e w2 ⟨rfl,els',hp,hso,hr2,zuI,zsC⟩;(have hS2:w2.cell? ⟨w.heap.size,0,none⟩=some (.pointer (some ⟨sb,0,none⟩))/\w2.cell? ⟨sb,0,none⟩=some (.slice (some ⟨g,0,none⟩) n c)/\w2.cell? ⟨sb,1,none⟩=some (.func (.func 131) #[] #[]):=⟨(zsC.cell (by simp) (by omega)).trans (by simp[go_sem]),(zsC.cell (by simp;omega) hgs).trans (by simp[go_sem,s1]),(zsC.cell (by simp;omega) hgs).trans (by simp[go_sem,s2])⟩)))
 have zr7:els'.length=els.length:=hp.length_eq;have hne:=Perm.pairwise_ne hp HD.out;have hz:w.heap.size<w2.heap.size:=by have:=(zsC.2 0 (Nat.zero_le _)).size;simp at this;omega
 have zvm:els'.Pairwise (fun x y=>x.cmp y<0):=by
  refine(hso.and hne).imp ?_;rintro x y ⟨h1,h2⟩;have:=zgh x y;omega
 have ztv:w2.heap[sb]? =some (.cells #[.slice (some ⟨g,0,none⟩) els.length c,.func (.func 131) #[] #[]] 197 (0,0)):=(zsC.1 sb (by simp;omega) hgs).trans (zj (w:=w) Zi HST.out);obtain⟨p1,p2,p3⟩:=hS2;have f1:w2.frozen? ⟨sb,0,none⟩=false:=(zQ ztv).2.2.1;have zuJ:sb<w2.heap.size:=by omega
 have zuK:=fun W(hh:Ext w2 W)=>zlD (w:=W) (pb:=w.heap.size) (sb:=sb) (cap:=c) (hr2.ext hh) (fun x hx=>(zuI x hx).ext hh) (by omega) (fun i x y h1 h2=>by
   have hi:=(Zg.1 h2).1;have:=(List.pairwise_iff_getElem.1 hne) i (i+1) (by omega) hi (by omega);rw[(Zg.1 h1).2,(Zg.1 h2).2]at this;have e:=zgh x y;simp;omega) ((hh.below.cell (p:=⟨w.heap.size,0,none⟩) hz).trans p1) ((hh.below.cell (p:=⟨sb,1,none⟩) zuJ).trans p3) (Nat.lt_of_lt_of_le hz hh.size) (Nat.lt_of_lt_of_le zuJ hh.size)
 rw[zr7,<-HN.out]at zuK;have HCO:=Zh zuK;have oP2:Old w.heap.size w2:=⟨hz⟩;have oS2:Old sb w2:=⟨zuJ⟩;have HP:=Zh hp;have zrF:=Zh zvm;have HR2:=Zh hr2;have zrG:=Zh zuI;have HSA:=Zh zsC;have zrf:=Zh ztv;clear hp hso hr2 zuI zsC hne zvm ztv zuK zr7 HD HSO;go_wp2_with fail
 go_region_held3 (fun w'=>w'.cell? ⟨w.heap.size,0,none⟩=some (.pointer (some ⟨sb,0,none⟩))/\w'.cell? ⟨sb,0,none⟩=some (.slice (some ⟨g,0,none⟩) n c)) (first|exact⟨p1,p2⟩|(rw[zaX hC3];simp only[zi w2];exact⟨p1,p2⟩)|(simp only[zi w2];exact⟨p1,p2⟩))
  (first
   |(go_at_call 197;refine(HCO.out _ Zi).mono ?_;rintro e w3 ⟨rfl,hs3⟩;(have hF3:w3.frozen? ⟨sb,0,none⟩=false:=(zQ (zj (Ext.trans Zi hs3.ext) zrf.out)).2.2.1);(have hC3:w3.cell? ⟨sb,0,none⟩=some (.slice (some ⟨g,0,none⟩) n c):=by rw[HN.out];exact(zQ (zj (Ext.trans Zi hs3.ext) zrf.out)).1)))
 rw[zaX hC3];go_wp2;go_end0
 have hx3:Ext w2 w3:=Ext.trans Zi hs3.ext;have hsw:w.heap.size<=w2.heap.size:=by omega
 refine⟨rfl,els',HP.out,zrF.out,fun _=>HR2.out.ext hx3,fun x hx=>(zrG.out x hx).ext hx3,zj hx3 zrf.out,fun b hb hbg=>?_,fun B hB hBw=>?_⟩
 ·rw[hx3.below.block b (by omega),HSA.out.1 b (by simp;omega) hbg];exact Below.heap_alloc w _ b hb
 ·have h1:=HSA.out.2 B hB;have h2:Below B w (w.alloc (.cells #[.pointer (some ⟨sb,0,none⟩)] 258)).drew:=((Below.refl _ _).alloc hBw _).drew;exact(h2.trans h1).trans (hx3.below.mono (by omega))
theorem zlF(fv:Value):Cq 197 #[.slice none 0 0,fv] w (zy w (.slice none 0 0)):=by
 go_enter Tryz.func197,Tryz.ntmps197;go_wp2;go_ret;exact⟨rfl,Step.of _ _⟩
theorem zlG(hst:w.heap[sb]? =some (.cells #[.slice none 0 0,.func (.func 131) #[] #[]] 197 (0,0))):
  Cq 136 #[.pointer (some ⟨sb,0,none⟩)] w (zy w (.tuple #[])):=by
 have hsb:=zF hst;obtain⟨s1,s2,s3,s4,-⟩:=zQ hst;have HST:=Zh hst;have ztu:=fun W=>AnyF.slices_SortFunc_none (P:=Tryz.prog) Tryz.laysSort none 0 (.func (.func 131) #[] #[]) W
 have zvn:∀W,Cq 196 #[.slice none 0 0,.func (.func 131) #[] #[]] W fun e w'=>e= .returned (.tuple #[])/\w'=W:=ztu
 have HSO:=Zh zvn;have oS:Old sb w:=⟨hsb⟩;clear ztu zvn hst;go_enter Tryz.func136,Tryz.ntmps136;go_wp2_with fail
 go_region_held3 (fun w'=>w'.cell? ⟨w.heap.size,0,none⟩=some (.pointer (some ⟨sb,0,none⟩))/\w'.cell? ⟨sb,0,none⟩=some (.slice none 0 0)/\w'.cell? ⟨sb,1,none⟩=some (.func (.func 131) #[] #[])) (first|assumption|(simp[go_sem,s1,s2]))
  (first|(go_at_call 196;refine(HSO.out _).mono ?_;rintro e w2 ⟨rfl,rfl⟩))
 obtain⟨W,hW⟩:=Xz ((w.alloc (.cells #[.pointer (some ⟨sb,0,none⟩)] 258)).drew);have hxW:Ext w W:=by rw[hW];exact Zi
 have p0:W.heap[sb]? =_:=zj hxW HST.out;have p1:W.cell? ⟨w.heap.size,0,none⟩=some (.pointer (some ⟨sb,0,none⟩)):=by rw[hW];simp[go_sem]
 obtain⟨p2,p3,p4,-,p5⟩:=zQ p0;have p6:w.heap.size<W.heap.size:=by rw[hW];simp
 have HP0:=Zh p0;have oP2:Old w.heap.size W:=⟨p6⟩;have oS2:Old sb W:=⟨p5⟩;rw[<-hW];clear hW p0;go_wp2_with fail
 go_region_held3 (fun w'=>w'.cell? ⟨w.heap.size,0,none⟩=some (.pointer (some ⟨sb,0,none⟩))/\w'.cell? ⟨sb,0,none⟩=some (.slice none 0 0)) (first|exact⟨p1,p2⟩|(rw[zaX hC3];simp only[zi W];exact⟨p1,p2⟩)|(simp only[zi W];exact⟨p1,p2⟩))
  (first
   |(go_at_call 197;refine(zlF _).mono ?_;rintro e w3 ⟨rfl,hs3⟩;(have hF3:w3.frozen? ⟨sb,0,none⟩=false:=(zQ (zj (Ext.trans Zi hs3.ext) HP0.out)).2.2.1);(have hC3:w3.cell? ⟨sb,0,none⟩=some (.slice none 0 0):=(zQ (zj (Ext.trans Zi hs3.ext) HP0.out)).1)))
 rw[zaX hC3];go_wp2;go_end0
 exact⟨rfl,(hxW.trans (Ext.trans Zi hs3.ext)).toStep⟩
def zg(m:List (List Int))(x:List Int):Int:=zG x (zU m x)
theorem zdq:∀r x,zG r (x.map (fun c=>-c))=-zG r x
 |[],_=>by rfl
 |_::_,[]=>by rfl
 |a::l,b::m=>by simp only[map_cons,zG,zdq l m,Int.mul_neg];omega
theorem zgi:∀r x,zG (r.map (fun c=>-c)) x=-zG r x
 |[],_=>by rfl
 |_::_,[]=>by rfl
 |a::l,b::m=>by simp only[map_cons,zG,zgi l m,Int.neg_mul];omega
theorem zba(m:List (List Int))(x:List Int):zg m (x.map (fun c=>-c))=zg m x:=by
 have h:zU m (x.map (fun c=>-c))=(zU m x).map (fun c=>-c):=by simp[zU,zdq]
 unfold zg;rw[h,zdq,zgi,Int.neg_neg]
theorem zgj(m:List (List Int))(x:List Int):zg m (zS x)=zg m x:=by
 unfold zS;split
 ·exact zba m x
 ·rfl
structure VecOK(m:List (List Int))(x:List Int):Prop where
 fit:je m.length x=true
 nb:QW (zg m x)=true
 cb:jF x=true
structure RedM(m:List (List Int)):Prop where
 red:ZH m=true
 all:AllLen m m.length
 ent:zc6 m
 n8:m.length<=8
structure ElsOK(m:List (List Int))(ls:List (List Int))(w:World)(els:List KE):Prop where
 lsE:els.map KE.l=ls.map zS
 keyE:els.map KE.key=ls.map (zg m)
 ok:∀x∈els,x.ok w
 cap:∀x∈els,x.l.length<=x.c/\x.c<=9223372036854775807
theorem ElsOK.len{els:List KE}(h:ElsOK m ls w els):els.length=ls.length:=by
 have:=congrArg List.length h.lsE;grind
def Ji(els:List KE):List Value:=els.flatMap KE.enc
theorem zgk:∀(els:List KE)(i:Nat)(x:KE),els[i]? =some x->(Ji els)[2*i]? =some (.int .i64 x.key)/\(Ji els)[2*i+1]? =some (.slice x.A x.l.length x.c)
 |[],i,x,h=>by grind
 |y::l,0,x,h=>by simp at h;subst h;exact⟨rfl,rfl⟩
 |y::l,i+1,x,h=>by
  have:=zgk l i x (by grind);exact this
theorem KRow.of_own{els:List KE}(h:Own w zf 201 2 A n c (Ji els))(hn:0<n):∃g,A=some ⟨g,0,none⟩/\zf<=g/\KRow w g els:=by
 obtain⟨hl,h2⟩:=h;rcases h2 with ⟨_,h0⟩|⟨g,cap,cur,hv,hb,hh,h3,h4,h5,h6⟩
 ·omega
 ·injection hv with hA
  refine⟨g,hA,hb,cur,hh,fun i x hx=>?_⟩;obtain⟨a,b⟩:=zgk els i x hx;grind
theorem zlH:(Tryz.prog.info? 201).map (fun i=>(i.zero,i.size,i.bytes))=some (some (.agg #[.int .i64 0,.slice none 0 0]),2,32):=by kernel_rfl
def zlI(w:World)(m ls:List (List Int))(e:Ending)(w':World):Prop:=∃A c L,e= .returned (.tuple #[.slice A (List.length L) c,.bool true])/\Mat64 w' A L/\L.length<=c/\c<=9223372036854775807/\L.Perm (ls.map zS)/\L.Pairwise (fun x y=>qM (zg m x) (zg m y) x y<0)/\Step w w'
theorem Jj(x:List Int):(zS x).length=x.length:=by unfold zS;grind
theorem zlJ(els:List KE)(x:KE):Ji (els++[x])=Ji els++[.int .i64 x.key,.slice x.A x.l.length x.c]:=by simp[Ji,KE.enc]
theorem ElsOK.snoc{els:List KE}{x:List Int}{v:Int}(h:ElsOK m (ls.take k) w els)(hx:ls[k]? =some x)(hv:v=zg m x)(hl:x.length<=1099511627776)(hdz:x.length<=dz)(zwE:dz<=9223372036854775807)
  (hk:∀y:KE,y.ok w->y.ok w') (hZ:Ints w' Z 2 .i64 (zS x)):ElsOK m (ls.take (k+1)) w' (els++[⟨v,Z,dz,zS x⟩]):=by
 have e:ls.take (k+1)=ls.take k++[x]:=by rw[List.take_add_one,hx];rfl
 refine⟨by rw[e,map_append,map_append,h.lsE];rfl,by rw[e,map_append,map_append,h.keyE,hv];rfl,fun y hy=>?_,fun y hy=>?_⟩
 ·rcases List.mem_append.1 hy with hy|hy
  ·exact hk y (h.ok y hy)
  ·obtain rfl:=List.mem_singleton.1 hy;exact⟨hZ,by rw[Jj];grind⟩
 ·rcases List.mem_append.1 hy with hy|hy
  ·exact h.cap y hy
  ·obtain rfl:=List.mem_singleton.1 hy;exact⟨by rw[Jj];grind,zwE⟩
theorem ElsOK.distinct{els:List KE}(h:ElsOK m ls w els)(hn:(ls.map zS).Nodup):els.Pairwise (fun x y=>x.cmp y≠0):=by
 rw[<-h.lsE,List.Nodup,List.pairwise_map]at hn;refine hn.imp ?_;intro x y hxy h0;have:=zal _ _ (show zC (x.key::x.l) (y.key::y.l)=0 from h0);grind
theorem zlK{w1:World}{cb:Nat}{els:List KE}(hst:wr.heap[w1.heap.size]? =some (.cells #[.slice B k cb,.func (.func 131) #[] #[]] 197 (0,0)))(zr5:Own wr (w1.heap.size+1) 201 2 B k cb (Ji els))(hel:els.length=k)(hk:k<=1073741824)(hok:∀x∈els,x.ok wr)(hd:els.Pairwise (fun x y=>x.cmp y≠0))(hB0:k=0->B=none/\cb=0)(hx:Ext w1 wr):
  Cq 136 #[.pointer (some ⟨w1.heap.size,0,none⟩)] wr fun e w6=>e= .returned (.tuple #[])/\∃els',els'.Perm els/\els'.Pairwise (fun x y=>x.cmp y<0)/\(∀x∈els',x.ok w6)/\w6.heap[w1.heap.size]? =some (.cells #[.slice B k cb,.func (.func 131) #[] #[]] 197 (0,0))/\(0<k->∃g,B=some ⟨g,0,none⟩/\KRow w6 g els')/\Ext w1 w6:=by
 rcases Nat.eq_zero_or_pos k with h0|h0
 ·subst h0;obtain⟨rfl,rfl⟩:=hB0 rfl;have ztw:=List.eq_nil_of_length_eq_zero hel;subst ztw;refine(zlG hst).mono ?_;rintro e w6 ⟨he,hs⟩;exact⟨he,[],List.Perm.refl _,List.Pairwise.nil,fun x hx=>absurd hx (by simp),zj hs.ext hst,fun h=>absurd h (by omega),hx.trans hs.ext⟩
 ·obtain⟨g,rfl,hg,zr6⟩:=KRow.of_own zr5 h0;have hgs:g<wr.heap.size:=by obtain⟨cur,h1,_⟩:=zr6;grind
  rw[<-hel]at hst;refine(zlE hst zr6 hok (by omega) hd hgs).mono ?_;rintro e w6 ⟨he,els',hp⟩;refine⟨he,els',hp.perm,hp.sorted,hp.ok,by rw[<-hel];exact hp.st,fun _=>⟨g,rfl,hp.row (by omega)⟩,?_⟩;have:=hp.below w1.heap.size (by omega) hx.size;exact⟨hx.below.trans this⟩
set_option maxRecDepth 10000 in
theorem zlL{X:Option Addr}(h:MatA w0 A m)(hc:m.length<=c)(hc2:c<=9223372036854775807)(hX:Mat64 w0 X ls)(hl:ls.length<=1073741824)(hm:RedM m)(hv:∀x∈ls,VecOK m x)(hnd:(ls.map zS).Nodup)[hx:Ext w0 w]:
  Cq 76 #[.slice A m.length c,.slice X ls.length d] w (zlI w m ls):=by
 have zsy:=fun W(hxx:Ext w0 W)=>zbT (w:=W) h (by have:=hm.n8;omega) hc hc2
 rw[hm.red]at zsy;have HR:=Zh zsy;have HM:=Zh hm;have HV:=Zh hv;have HND:=Zh hnd;obtain⟨q,hq⟩:=Xz ls.length;rw[<-hq]at hl|-
 have HQ:=Zh hq;clear zsy hm hv hnd hq;go_enter Tryz.func76,Tryz.ntmps76;go_wp2_with (go_at_call 100;refine(HR.out _ Zi).mono ?_;rintro e w1 ⟨rfl,hs1⟩)
 have hx1:Ext w0 w1:=Zi;go_loopw [8,9,10,11,12,22] (fun _ _ _ _ _ i wr=>∃(k:Nat) (B:Option Addr) (cb:Nat) (els:List KE),k<=q/\i= .int .i64 k/\wr.heap[w1.heap.size]? =some (.cells #[.slice B k cb,.func (.func 131) #[] #[]] 197 (0,0))/\Own wr (w1.heap.size+1) 201 2 B k cb (Ji els)/\Hid (ElsOK m (ls.take k) wr els)/\Hid (k=0->B=none/\cb=0)/\Ext w1 wr) (fun _ _ _ _ _ i _=>q-(intOf i).toNat)
 case atStart=>
  exact⟨0,none,0,[],by omega,rfl,heap_alloc_new w1 _,Own.nil _ _ _ _,Zh ⟨rfl,rfl,fun x hx=>absurd hx (by simp),fun x hx=>absurd hx (by simp)⟩,Zh (fun _=>⟨rfl,rfl⟩),Zi⟩
 case round=>
  obtain⟨k,B,cb,els,hk,rfl,hst,zr5,HE,HB0,hxr⟩:=hrel;have zs0:Ext w0 wr:=hx1.trans hxr;by_cases hlt:k<q
  ·have hkl:k<ls.length:=by have:=HQ.out;omega
   obtain⟨b,o,XB,cx,rfl,e1,e2,f1,f2,f3⟩:=(hX.ext zs0).at_ (i:=k) (r:=ls[k]) (by simp[hkl]);obtain⟨x,hxe⟩:=Xz (ls[k]);have hvx:=HV.out ls[k] (getElem_mem hkl);rw[<-hxe]at e1 e2 f1 hvx;have HXE:Hid (ls[k]? =some x):=Zh (by rw[hxe];simp[hkl]);have zse:x.length=m.length/\QC x=true:=by
    have:=hvx.fit;simpa[je] using this
   have hn8:=HM.out.n8;have zub:=zaf.1 zse.2;have e2':=Zh e2;have hcf:=fun W(hh:Ext wr W)=>zc5 (w:=W) (n:=m.length) (c:=cx) e2 (by have:=zse.1;omega)
   rw[hvx.fit]at hcf;have hca:=fun W(hh:Ext wr W)=>zfL (w:=W) (c:=c) (d:=cx) (h.ext zs0) e2 HM.out.all zse.1 hn8 HM.out.ent zub
   have hcc:=fun W(hh:Ext wr W)=>zlu (w:=W) (c:=cx) e2 (by have:=zse.1;omega)
   rw[zse.1]at e1 f1 hcf hca hcc;have hcd:=fun(W:World)(Y:Option Addr)(dy:Nat)(hh:Ext wr W)(hY:Ints W Y 2 .i64 (zU m x))=>zga (w0:=W) (w:=W) (c:=cx) (d:=dy) (e2.ext hh) hY (by rw[zah,zse.1]) (by have:=zse.1;omega) zub (fun z hz=>by
    obtain⟨r,hr,rfl⟩:=List.mem_map.1 hz;have hb:=zag (A:=262144) (B:=1099511627776) (by omega) (by omega) r x (HM.out.ent r hr) zub;have hrl:=HM.out.all r hr;omega)
   rw[zse.1]at hcd;obtain⟨v,hv⟩:=Xz (zg m x);have HVE:=Zh hv;have HCF:=Zh hcf;have HCA:Hid (∀W,Ext wr W->Cq 134 #[.slice A m.length c,.slice XB m.length cx] W fun e w'=>∃Y dy,e= .returned (.slice Y m.length dy)/\Ints w' Y 2 .i64 (zU m x)/\Step W w'):=Zh (fun W hh=>(hca W hh).mono (fun e w'⟨Y,dy,he,hI,_,_,hs⟩=>⟨Y,dy,by rw[he,zah],hI,hs⟩));have HCD:Hid (∀W Y dy,Ext wr W->Ints W Y 2 .i64 (zU m x)->Cq 133 #[.slice XB m.length cx,.slice Y m.length dy] W (zy W (.tuple #[.int .i64 v,.bool true]))):=Zh (fun W Y dy hh hY=>(hcd W Y dy hh hY).mono (fun e w'⟨he,hs⟩=>⟨by
    have e1:zG x (zU m x)=zg m x:=rfl;rw[he,e1,hvx.nb,hv];rfl,hs⟩))
   have HCC:Hid (∀W,Ext wr W->Cq 135 #[.slice XB m.length cx] W fun e w'=>∃Z dz,e= .returned (.tuple #[.slice Z m.length dz,.bool true])/\Ints w' Z 2 .i64 (zS x)/\m.length<=dz/\dz<=9223372036854775807/\Step W w'):=Zh (fun W hh=>(hcc W hh).mono (fun e w'⟨hh2,hs⟩=>by
    rcases hh2 with ⟨_,Z,dz,he,hI,z1,z2⟩|⟨hf,_⟩
    ·exact⟨Z,dz,by rw[he,zse.1],hI,by rw[<-zse.1];exact z1,z2,hs⟩
    ·rw[hvx.cb]at hf;cases hf))
   have HFT:=Zh zse;obtain⟨s1,s2,s3,s4,s5⟩:=zQ hst;have HST:=Zh hst;have oS:Old w1.heap.size wr:=⟨s5⟩;clear hcf hca hcc hcd hvx zse zub hxe hst e2 hv;go_wp2_with (first
    |(go_at_call 132;refine(HCF.out _ Zi).mono ?_;rintro e w' ⟨rfl,rfl⟩)
    |(go_at_call 134;refine(HCA.out _ Zi).mono ?_;rintro e w2 ⟨Y,dy,rfl,hY,hs2⟩)
    |(go_at_call 133;refine(HCD.out _ Y dy Zi hY).mono ?_;rintro e w3 ⟨rfl,hs3⟩)
    |(go_at_call 135;refine(HCC.out _ Zi).mono ?_;rintro e w4 ⟨Z,dz,rfl,hZ,z1,z2,hs4⟩)
    |(at_builtin;refine zM _ rfl _ _ 195 rfl (w1.heap.size+1) 201 (.agg #[.int .i64 0,.slice none 0 0]) 2 32 Tryz.underlying195 zlH rfl (by omega) (by omega) B k cb _ rfl (zr5.ext Zi) _ 1 1 [.int .i64 v,.slice Z m.length dz] rfl (Arr.new w4 201 #[.int .i64 v,.slice Z m.length dz]) (by simp) (by simp[Value.oneCell']) (by omega) (by have:=hs4.size;have:=hs3.size;have:=hs2.size;simp at*;omega) ?_;intro A5 d5 w5 zwF hg5;have hb5:=hg5.heap (zj (Zi:Ext wr (w4.alloc (Obj.cells #[Value.int .i64 v,Value.slice Z m.length dz] 201))) HST.out) (by decide);obtain⟨q1,q2,q3,q4,q5⟩:=zQ hb5;have HB5:=Zh hb5;clear hb5))
   have hoS:=Oth.set (p:=⟨w1.heap.size,0,none⟩) HB5.out (.slice A5 (k+1) d5);have hxw:Ext wr (w4.alloc (Obj.cells #[Value.int .i64 v,Value.slice Z m.length dz] 201)):=Zi;have hft:=HFT.out.1;refine⟨⟨k+1,A5,d5,els++[⟨v,Z,dz,zS x⟩],by omega,by go_num,zbU HB5.out,?_,?_,Zh (fun h0=>absurd h0 (by omega)),?_⟩,by simp[intOf]<;>omega⟩
   ·rw[zlJ];dsimp only;rw[Jj,hft];exact zwF.oth hoS (by decide)
   ·refine Zh (HE.out.snoc HXE.out HVE.out (by omega) (by omega) z2 (fun y hy=>⟨((hy.1.ext hxw).grow hg5 (by decide)).oth hoS (by decide),hy.2⟩) ?_);exact((hZ.ext Zi).grow hg5 (by decide)).oth hoS (by decide)
   ·exact(hg5.ext (Ext.trans hxr hxw) (Nat.le_succ _)).setCell (p:=⟨w1.heap.size,0,none⟩) Zr _
  ·obtain rfl:k=q:=by omega
   clear hlt;have htk:ls.take k=ls:=List.take_of_length_le (by have:=HQ.out;omega);rw[htk]at HE;have hel:els.length=k:=by rw[HE.out.len,<-HQ.out]
   clear htk;have hsc:=zlK hst zr5 hel (by omega) HE.out.ok (HE.out.distinct HND.out) HB0.out hxr;have HSC:=Zh hsc;have hmk:=qf (P:=Tryz.prog) Tryz.underlying25 Qc (by omega) (k:Int) (by omega) (by omega);clear hsc hst;go_wp2_with (go_at_call 136;refine HSC.out.mono ?_;clear HSC;rintro e w6 ⟨rfl,els',hp,hso,hok,zuL,ztj,hx6⟩;obtain⟨t1,t2,t3,t4,t5⟩:=zQ zuL;have HP:=Zh hp;have HSO:=Zh hso;have HOK:=Zh hok;have zqY:=Zh ztj;have zr1:=Zh zuL;clear hp hso hok ztj zuL;have oS6:Old w1.heap.size w6:=⟨t5⟩)
   have zvo:els'.length=k:=by rw[HP.out.length_eq,hel]
   have zq5:=Zh zvo;have zwG:Ext w w6:=Ext.trans hs1.ext hx6;clear zvo zr5 hel;go_loopw [14,15,67] (fun _ _ i wr=>∃(j:Nat) (hd:List Value),j<=k/\i= .int .i64 j/\VRow wr w6.heap.size 35 hd/\Hid (hd.length=k)/\Hid (∀i,i<j->∃x,els'[i]? =some x/\hd[i]? =some (.slice x.A x.l.length x.c))/\Ext w6 wr) (fun _ _ i _=>k-(intOf i).toNat)
   case atStart=>
    refine⟨0,_,by omega,rfl,VRow.new w6 _ _,Zh ?_,Zh (fun i hi=>absurd hi (by omega)),Zi⟩;exact zac _ _
   case round=>
    obtain⟨j,hd,hj,rfl,hV,HHL,HHD,hxj⟩:=hrel;by_cases hlt:j<k
    ·obtain⟨x,hx⟩:∃x,els'[j]? =some x:=⟨_,Ze (by have:=zq5.out;omega)⟩;obtain⟨g,rfl,zr6⟩:=zqY.out (by omega);obtain⟨c1,c2,c3⟩:=(zr6.ext hxj).cells hx;obtain⟨u0,hu0⟩:∃u0,hd[j]? =some u0:=⟨_,Ze (by have:=HHL.out;omega)⟩;have r1:=hV.cell hu0;have r2:=hV.frozen j;have r3:=hV.lt;have HX:=Zh hx;have oG:Old g wr:=⟨c3⟩;have oR:Old w6.heap.size wr:=⟨r3⟩;clear hx hu0;go_wp2;have hhl:=HHL.out;refine⟨⟨j+1,hd.set j (.slice x.A x.l.length x.c),by omega,by go_num,?_,Zh (by rw[List.length_set];exact HHL.out),Zh (fun i hi=>?_),?_⟩,by simp[intOf]<;>omega⟩
     ·exact(hV.set j _).ext Zi
     ·rcases Zl i j with h'|h'
      ·obtain⟨y,y1,y2⟩:=HHD.out i h';exact⟨y,y1,by rw[List.getElem?_set_ne (by omega)];exact y2⟩
      ·obtain rfl:i=j:=by omega
       exact⟨x,HX.out,by rw[List.getElem?_set_self (by omega)]⟩
     ·exact Ext.trans (hxj.setCell (p:=⟨w6.heap.size,j,none⟩) Zr (.slice x.A x.l.length x.c)) Zi
    ·obtain rfl:j=k:=by omega
     clear hlt;go_wp2;go_ret2
     have hml:(els'.map KE.l).length=j:=by rw[List.length_map];exact zq5.out
     refine⟨some ⟨w6.heap.size,0,none⟩,j,els'.map KE.l,by rw[hml];rfl,?_,by omega,by omega,?_,?_,(zwG.trans hxj).toStep⟩
     ·refine⟨hd,by rw[hml];exact HHL.out,hV.arr,fun i r hr=>?_⟩;have hi:i<j:=by
       have:=(Zg.1 hr).1;omega
      obtain⟨x,hx,hh⟩:=HHD.out i hi;rw[getElem?_map,hx]at hr;simp at hr;subst hr;have zwH:=HOK.out x (Zm hx);have zsf:=HE.out.cap x (HP.out.mem_iff.1 (Zm hx));exact⟨x.A,x.c,hh,zwH.1.ext hxj,zsf.1,zsf.2⟩
     ·rw[<-HE.out.lsE];exact HP.out.map _
     ·rw[List.pairwise_map];refine List.Pairwise.imp_of_mem ?_ HSO.out;intro x y hx hy hxy;have key:∀z∈els',z.key=zg m z.l:=fun z hz=>by
       have hz':=HP.out.mem_iff.1 hz;obtain⟨i,hi,rfl⟩:=List.getElem_of_mem hz';have a1:=congrArg (fun t=>t[i]?) HE.out.lsE;have a2:=congrArg (fun t=>t[i]?) HE.out.keyE;simp only[getElem?_map,Ze hi]at a1 a2
       cases hq:ls[i]? with
       |none=>rw[hq]at a1;cases a1
       |some y=>
        rw[hq]at a1 a2;simp at a1 a2;rw[a1,a2,zgj]
      show qM (zg m x.l) (zg m y.l) x.l y.l<0;rw[<-key x hx,<-key y hy];exact hxy
def Qg(h za:Int)(exact:Bool)(k:Nat):List (List Int):=((List.range k).filter fun(i:Nat)=>!exact||decide (h*((i:Int)+1)*((i:Int)+1)=za)).map fun(i:Nat)=>[(i:Int)+1]
theorem zlM(h za:Int)(exact:Bool)(k:Nat)(hh:(!exact||decide (h*((k:Int)+1)*((k:Int)+1)=za))=true):Qg h za exact (k+1)=Qg h za exact k++[[(k:Int)+1]]:=by
 simp only[Qg,range_succ,List.filter_append,map_append,List.filter_cons,hh,if_true,List.filter_nil,map_cons,List.map_nil]
theorem zlN(h za:Int)(exact:Bool)(k:Nat)(hh:(!exact||decide (h*((k:Int)+1)*((k:Int)+1)=za))=false):Qg h za exact (k+1)=Qg h za exact k:=by
 simp[Qg,range_succ,List.filter_append,hh]
def Jk(w:World)(m:List (List Int))(e:Ending)(w':World):Prop:=∃A c,e= .returned (.slice A m.length c)/\Mat64 w' A m/\m.length<=c/\c<=9223372036854775807/\Step w w'
structure MOwn(w:World)(zf:Nat)(A:Option Addr)(n c:Nat)(m:List (List Int))(vs:List Value):Prop where
 own:Own w zf 35 1 A n c vs
 len:m.length=n
 row:∀(i:Nat)(r:List Int),m[i]? =some r->∃B c,vs[i]? =some (.slice B r.length c)/\Ints w B 2 .i64 r/\r.length<=c/\c<=9223372036854775807
theorem MOwn.nil(w:World)(zf:Nat):MOwn w zf none 0 0 [] []:=⟨Own.nil _ _ _ _,rfl,fun i r hr=>by simp at hr⟩
theorem MOwn.mat(h:MOwn w zf A n c m vs):Mat64 w A m:=
 ⟨vs,by have:=h.own.len;rw[h.len];omega,h.own.arr,h.row⟩
theorem MOwn.snoc(h:MOwn w zf A n c m vs)(hx:Ext w W)(hg:Grow zf 35 W w')(ho:Own w' zf 35 1 A' (n+1) c' (vs++[.slice B r.length d]))(hr:Ints W B 2 .i64 r)(h1:r.length<=d)(h2:d<=9223372036854775807):MOwn w' zf A' (n+1) c' (m++[r]) (vs++[.slice B r.length d]):=by
 have hvl:vs.length=m.length:=by have:=h.own.len;rw[h.len];omega
 refine⟨ho,by simp[h.len],fun i x hx'=>?_⟩;rcases Zl i m.length with hi|hi
 ·rw[getElem?_append_left hi]at hx';obtain⟨B1,d1,a,b,e⟩:=h.row i x hx';exact⟨B1,d1,by rw[getElem?_append_left (by omega)];exact a,(b.ext hx).grow hg (by decide),e⟩
 ·have hi':i=m.length:=by
   have:=(Zg.1 hx').1;simp at this;omega
  subst hi';have:x=r:=by simpa using hx'.symm
  subst this;exact⟨B,d,by rw[List.getElem?_append_right (by omega),hvl];simp,hr.grow hg (by decide),h1,h2⟩
theorem zlO{h:Int}{exact:Bool}(r:Nat)(h1:1<=h)(hr:r<=1073741824)(hin:∀x:Int,1<=x->x<=r->h*x*x<=za)(zta:za<h*((r:Int)+1)*((r:Int)+1))(zse:h*((r:Int)+1)*((r:Int)+1)<=9223372036854775807)(zxX:h*((r:Int)+1)<=9223372036854775807):
  Cq 137 #[.int .i64 h,.int .i64 za,.bool exact] w (Jk w (Qg h za exact r)):=by
 go_enter Tryz.func137,Tryz.ntmps137;go_wp2;go_loopw [7,8] (fun s7 s8 wr=>∃(k:Nat) (x:Int) (n:Nat) (B:Option Addr) (c:Nat) (vs:List Value),k<=r/\Hid (x=(k:Int)+1)/\1<=x/\x<=1073741825/\s8= .int .i64 x/\s7= .slice B n c/\n<=k/\MOwn wr w.heap.size B n c (Qg h za exact k) vs/\Ext w wr) (fun _ s8 _=>(r+1-(intOf s8).toNat))
 case atStart=>exact⟨0,1,0,none,0,[],by omega,Zh rfl,by omega,by omega,rfl,rfl,by omega,MOwn.nil _ _,Zi⟩
 case round=>
  obtain⟨k,x,n,B,c,vs,hk,HX,hx1,hx2,rfl,rfl,hnk,hM,hxr⟩:=hrel;have hxk:=HX.out;obtain⟨p,hp⟩:=Xz (h*x);obtain⟨s,hs⟩:=Xz (p*x);have hp0:0<=p:=by rw[hp];exact Int.mul_nonneg (by omega) (by omega)
  have hs0:0<=s:=by rw[hs];exact Int.mul_nonneg hp0 (by omega)
  have hp1:p<=9223372036854775807:=by
   have:h*x<=h*((r:Int)+1):=Int.mul_le_mul_of_nonneg_left (by omega) (by omega);omega
  have hs1:s<=9223372036854775807:=by
   have a1:h*x<=h*((r:Int)+1):=Int.mul_le_mul_of_nonneg_left (by omega) (by omega);have a2:p*x<=h*((r:Int)+1)*((r:Int)+1):=by
    rw[hp];exact Int.mul_le_mul a1 (by omega) (by omega) (by omega)
   omega
  have hps:=hp.symm;have hss:=hs.symm;have HS:Hid (h*((k:Int)+1)*((k:Int)+1)=s):=Zh (by rw[hs,hp,hxk]);by_cases hlt:k<r
  ·have hsb:s<=za:=by
    have:=hin x hx1 (by omega);rw[<-hp,<-hs]at this;exact this
   by_cases zsL:(!exact||decide (s=za))=true
   ·have HC:=Zh (zlM h za exact k (by rw[HS.out];exact zsL));have ztr:(exact=false)∨(exact=true/\(s==za)=true):=by
     cases exact
     ·exact .inl rfl
     ·simp at zsL;exact .inr ⟨rfl,by simp[zsL]⟩
    have hex:Ints (wr.alloc (.cells #[.int .i64 x] 2)) (some ⟨wr.heap.size,0,none⟩) 2 .i64 [x]:=Arr.new wr 2 #[.int .i64 x];have HEX:=Zh hex;have zsg:Arr ((wr.alloc (.cells #[.int .i64 x] 2)).alloc (.cells #[.slice (some ⟨wr.heap.size,0,none⟩) 1 1] 35)) (some ⟨wr.heap.size+1,0,none⟩) 35 [.slice (some ⟨wr.heap.size,0,none⟩) 1 1]:=by
     have:=Arr.new (wr.alloc (.cells #[.int .i64 x] 2)) 35 #[.slice (some ⟨wr.heap.size,0,none⟩) 1 1];rwa [World.size_alloc]at this
    clear hp hs hxk zsL hex;rcases ztr with rfl|⟨rfl,hse⟩
    all_goals
     go_wp2_with (at_builtin;refine zM _ rfl _ _ 25 rfl w.heap.size 35 (.slice none 0 0) 1 24 Tryz.underlying25 Qc rfl (by omega) (by omega) B n c vs rfl (hM.own.ext Zi) _ 1 1 [.slice (some ⟨wr.heap.size,0,none⟩) 1 1] rfl zsg (by simp) (by simp[Value.oneCell']) (by omega) (by have:=hxr.size;simp;omega) ?_;intro A4 d4 w4 zsx hg4)
     refine⟨⟨k+1,x+1,n+1,A4,d4,vs++[.slice (some ⟨wr.heap.size,0,none⟩) 1 1],by omega,Zh (by have:=HX.out;omega),by omega,by have:=HX.out;omega,rfl,rfl,by omega,?_,?_⟩,by have:=HX.out;simp[intOf];omega⟩
     ·rw[HC.out,<-HX.out];exact hM.snoc (r:=[x]) (d:=1) Zi hg4 zsx (HEX.out.ext Zi) (by simp) (by omega)
     ·exact hg4.ext Zi Zr
   ·have zwI:exact=true/\(s==za)=false:=by
     cases exact
     ·simp at zsL
     ·simp at zsL;exact⟨rfl,by simp[zsL]⟩
    have HC:=Zh (zlN h za exact k (by rw[HS.out];simpa using zsL));clear hp hs hxk zsL;obtain⟨rfl,hse⟩:=zwI;go_wp2;refine⟨⟨k+1,x+1,n,B,c,vs,by omega,Zh (by have:=HX.out;omega),by omega,by have:=HX.out;omega,rfl,rfl,by omega,by rw[HC.out];exact hM,hxr⟩,by have:=HX.out;simp[intOf];omega⟩
  ·have hkr:k=r:=by omega
   have hsb:za<s:=by rw[<-HS.out,hkr];exact zta
   have HKR:=Zh hkr;clear hp hs hxk hkr hlt;go_wp2;go_ret;have zsf:=hM.own.cap;rw[<-HKR.out];have hml:=hM.len;exact⟨B,c,by rw[hml];rfl,hM.mat,by omega,by omega,Step.of _ _⟩
def zlP(w:World)(m:List (List Int))(e:Ending)(w':World):Prop:=∃A c,e= .returned (.slice A m.length c)/\Mat64X w.heap.size w' A m/\m.length<=c/\c<=9223372036854775807/\Step w w'
def zgl(w:World)(m:List (List Int))(b:Bool)(e:Ending)(w':World):Prop:=∃A c,e= .returned (.tuple #[.slice A m.length c,.bool b])/\Mat64X w.heap.size w' A m/\m.length<=c/\c<=9223372036854775807/\Step w w'
def HeadsX(w:World)(lo G:Nat)(F:Nat->Nat->Int)(zd cols k:Nat):Prop:=
 ∃hd:List Value,VRow w G 35 hd/\hd.length=zd/\(∀i,i<k->∃B,hd[i]? =some (.slice B cols cols)/\ArrX lo w B 2 (((List.range cols).map fun j=>F i j).map (Value.int .i64)))/\∀i,k<=i->i<zd->hd[i]? =some (.slice none 0 0)
theorem HeadsX.made(w:World)(F:Nat->Nat->Int)(zd cols:Nat):HeadsX (w.alloc (.cells (Zb #[.slice none 0 0] (zd*1)) 35)) w.heap.size w.heap.size F zd cols 0:=by
 obtain⟨hd,h1,h2,h3,h4⟩:=Heads1.made w F zd cols;exact⟨hd,h1,h2,fun i hi=>absurd hi (by omega),h4⟩
theorem Cells1.fullX{F:Nat->Int}{cols:Nat}(h:Cells1 w g F cols cols)(hl:lo<=g):ArrX lo w (some ⟨g,0,none⟩) 2 (((List.range cols).map F).map (Value.int .i64)):=fun h0=>by
 have h1:=h.1;rw[Nat.sub_self]at h1;simp only[List.replicate_zero,List.append_nil]at h1;exact⟨g,0,_,(0,0),rfl,hl,h1,fun j u hu=>by simpa using hu⟩
theorem VRow.arrX{e:TypeId}(h:VRow w g e vs)(hl:lo<=g):ArrX lo w (some ⟨g,0,none⟩) e vs:=fun _=>⟨g,0,_,_,rfl,hl,h,fun j u hu=>by simpa using hu⟩
theorem Mat64X.lower{lo':Nat}(h:Mat64X lo w A L)(hl:lo'<=lo):Mat64X lo' w A L:=by
 obtain⟨vs,h1,h2,h3⟩:=h;refine⟨vs,h1,h2.lower hl,fun i r hr=>?_⟩;obtain⟨B,c,a,b,e⟩:=h3 i r hr;exact⟨B,c,a,b.lower hl,e⟩
set_option maxRecDepth 10000 in
theorem zlQ(f:FuncId)(caps:Array Value)(zd cols:Nat)(h1:zd<=1000000)(h2:cols<=1000000)(hf:qJ f)(F:Nat->Nat->Int)
  (H:∀(i j:Nat)(W:World),i<zd->j<cols->Ext w W->Cq f (#[.int .i64 i,.int .i64 j]++caps) W (zy W (.int .i64 (F i j)))):
  Cq 246 #[.int .i64 zd,.int .i64 cols,.func (.func f) #[] caps] w (zlP w (tab F zd cols)):=by
 have hmk:=qf (P:=Tryz.prog) Tryz.underlying25 Qc (by omega) (zd:Int) (by omega) (by omega);have ztd:=qf (P:=Tryz.prog) Tryz.underlying35 Qb (by omega) (cols:Int) (by omega) (by omega);have HH:=Zh H;have HF:=Zh hf;clear H hf;go_enter Tryz.func246,Tryz.ntmps246;go_wp2;go_loopw [8,9,14] (fun _ _ i wr=>∃k:Nat,k<=zd/\i= .int .i64 k/\HeadsX wr w.heap.size w.heap.size F zd cols k/\Ext w wr) (fun _ _ i _=>zd-(intOf i).toNat)
 case atStart=>exact⟨0,by omega,rfl,by simpa[Value.cells] using HeadsX.made w F zd cols,Zi⟩
 case round=>
  obtain⟨k,hk,rfl,hH,hxr⟩:=hrel;by_cases zss:k<zd
  ·obtain⟨hd,v1,v2,v3,v4⟩:=hH;have hc1:=v1.cell (v4 k Zr zss);have hc2:=v1.frozen k;have hsz:=v1.lt;obtain⟨wo,rfl⟩:∃wo:World,wo=wr:=⟨_,rfl⟩;have V2:=Zh v2;have V3:=Zh v3;have V4:=Zh v4;clear v2 v3 v4;go_wp2;go_loopw [9,27] (fun _ j wr=>∃q:Nat,q<=cols/\j= .int .i64 q/\Grow w.heap.size 35 wo wr/\VRow wr w.heap.size 35 (hd.set k (.slice (some ⟨wo.heap.size,0,none⟩) cols cols))/\Cells1 wr wo.heap.size (F k) cols q/\Ext w wr) (fun _ j _=>cols-(intOf j).toNat)
   case atStart=>
    refine⟨0,by omega,rfl,?_,?_,?_,?_⟩
    ·exact((Grow.refl _ _ _).setOld (p:=⟨w.heap.size,k,none⟩) v1 Zr rfl _).alloc hxr.size _
    ·exact(v1.set _ _).ext Zi
    ·have:=Cells1.made (wo.setCell ⟨w.heap.size,k,none⟩ (.slice (some ⟨wo.heap.size,0,none⟩) cols cols)) (F k) cols;rw[qy,Nat.mul_one]at this;exact this
    ·exact Zi
   case round=>
    obtain⟨q,hq,rfl,hG,hV,hC,hxq⟩:=hrel;by_cases hlt:q<cols
    ·have hkl:k<hd.length:=by have:=V2.out;omega
     have zr6:wr.cell? ⟨w.heap.size,k,none⟩=some (.slice (some ⟨wo.heap.size,0,none⟩) cols cols):=hV.cell (by rw[List.getElem?_set_self hkl]);obtain⟨c1,c2,c3⟩:=hC.cells hlt;go_wp2;have hcf:=HF.out;unfold qJ at hcf;have hne:w.heap.size≠wo.heap.size:=by omega
     have zs8:(hd.set k (.slice (some ⟨wo.heap.size,0,none⟩) cols cols))[k]? =some (.slice (some ⟨wo.heap.size,0,none⟩) cols cols):=by rw[List.getElem?_set_self hkl]
     have HN:=Zh hne;have HS:=Zh zs8;clear hne zs8;go_region_held3 (fun w'=>w'.cell? ⟨w.heap.size,k,none⟩=some (.slice (some ⟨wo.heap.size,0,none⟩) cols cols))
      (first
       |exact(hV.ext Zi).cell HS.out
       |exact((hV.ext Zi).far (p:=⟨wo.heap.size,q,none⟩) HN.out _).cell HS.out)
      (first
       |(refine(HH.out _ _ _ zss hlt Zi).mono ?_;rintro e w2 ⟨rfl,hs2⟩;obtain⟨d1,d2,d3⟩:=(hC.ext (Zi:Ext wr w2)).cells hlt))
     go_wp2;refine⟨⟨q+1,by omega,by go_num,?_,?_,?_,?_⟩,by simp[intOf]<;>omega⟩
     ·exact(hG.trans (Zi:Ext wr w2) hxr.size).setNew (p:=⟨wo.heap.size,q,none⟩) Zr hxr.size _
     ·exact(hV.ext (Zi:Ext wr w2)).far (p:=⟨wo.heap.size,q,none⟩) HN.out _
     ·exact(hC.ext (Zi:Ext wr w2)).put hlt
     ·exact(Zi:Ext w w2).setCell (p:=⟨wo.heap.size,q,none⟩) hxr.size _
    ·obtain rfl:q=cols:=by omega
     have zte:=hC.fullX hxr.size;go_wp2;refine⟨⟨k+1,by omega,by go_num,⟨_,hV,by rw[List.length_set];exact V2.out,fun i hi=>?_,fun i hi1 hi2=>?_⟩,hxq⟩,by simp[intOf]<;>omega⟩
     ·have hkl:k<hd.length:=by have:=V2.out;omega
      rcases Zl i k with h|h
      ·obtain⟨B,b1,b2⟩:=V3.out i h;exact⟨B,by rw[List.getElem?_set_ne (by omega)];exact b1,b2.oth (Oth.of_grow hG) (by decide)⟩
      ·obtain rfl:i=k:=by omega
       exact⟨_,by rw[List.getElem?_set_self hkl],zte⟩
     ·rw[List.getElem?_set_ne (by omega)];exact V4.out i (by omega) hi2
  ·obtain rfl:k=zd:=by omega
   have HHd:=Zh hH;clear hH;go_wp2;go_ret;obtain⟨hd,v1,v2,v3,v4⟩:=HHd.out;refine⟨_,k,by rw[zw];rfl,⟨hd,by rw[v2,zw],v1.arrX Zr,fun i r hr=>?_⟩,by rw[zw];omega,by omega,hxr.toStep⟩;have hi:i<k:=by
    rcases Zl i k with hi|hi
    ·exact hi
    ·rw[List.getElem?_eq_none (by rw[zw];exact hi)]at hr;cases hr
   rw[QR _ _ _ _ hi]at hr;injection hr with hr
   subst hr;obtain⟨B,b1,b2⟩:=v3 i hi;exact⟨B,cols,by simpa using b1,b2,by simp,by omega⟩
theorem zlR(h:MatV w0 A m)(n:Nat)(h1:1<=m.length)(h2:m.length<=16)(h3:1<=n)(h4:n<=16)(hn:AllLen m n)(h64:qT m)[hx:Ext w0 w]:
  Cq 200 #[.slice A m.length c] w (zgl w m true):=by
 have hb:=zlQ (w:=(w.alloc (.cells #[.slice A m.length c] 79)).alloc (.cells #[.bool true] 4)) 247 #[.pointer (some ⟨w.heap.size,0,none⟩),.pointer (some ⟨w.heap.size+1,0,none⟩)] m.length n (by omega) (by omega) zks (fun i j=>(m.getD i []).getD j 0)
  (fun i j W hi hj hW=>by
   have hr:m[i]? =some m[i]:=by simp
   have hl:m[i].length=n:=hn _ (getElem_mem hi);have hxj:m[i][j]? =some (m[i][j]'(by omega)):=by simp
   have zse:=h64 m[i] (getElem_mem hi) _ (getElem_mem (by omega:j<m[i].length));have e1:(m.getD i []).getD j 0=m[i][j]'(by omega):=by simp[List.getD,hi,hxj]
   rw[e1];have hW1:Ext (w.alloc (.cells #[.slice A m.length c] 79)) W:=Ext.trans Zi hW;obtain⟨-,a1,a2,a3⟩:=zaY w W w.heap.size (.slice A m.length c) 79 rfl;obtain⟨-,b1,b2,b3⟩:=zaY (w.alloc (.cells #[.slice A m.length c] 79)) W (w.heap.size+1) (.bool true) 4 (by simp);have:Ext w W:=Ext.trans Zi hW;have:Ext w0 W:=hx.trans this;exact zkr h i j m[i] _ hr hxj zse.1 zse.2 a1 b1 b3 b2)
 rw[JK m n hn]at hb;have HB:=Zh hb;clear hb;go_enter Tryz.func200,Tryz.ntmps200;go_wp2_with fail
 refine(zfr h n h1 h2 h3 h4 hn).mono ?_;rintro e w' ⟨rfl,rfl⟩;go_wp2_with fail
 refine HB.out.mono ?_;rintro e w2 ⟨A2,c2,rfl,hm,hc1,hc2,hs2⟩;obtain⟨-,b1,b2,b3⟩:=zaY (w.alloc (.cells #[.slice A m.length c] 79)) w2 (w.heap.size+1) (.bool true) 4 (by simp);go_wp2;go_ret2
 exact⟨A2,c2,rfl,hm.lower (by simp;omega),hc1,hc2,Step.of _ _⟩
structure Grew(A A':Option Addr)(w w':World):Prop where
 block:∀k,k<w.heap.size->(∀a,A=some a->a.block≠k)->w'.heap[k]? =w.heap[k]?
 own:∀a',A'=some a'->(∃a,A=some a/\a.block=a'.block)∨w.heap.size<=a'.block
 size:w.heap.size<=w'.heap.size
def ArrN(X:Option Addr)(w:World)(A:Option Addr)(e:TypeId)(vs:List Value):Prop:=
 0<vs.length->∃(b o:Nat) (cs:Array Value) (fr:Nat×Nat),A=some ⟨b,o,none⟩/\(∀a,X=some a->a.block≠b)/\w.heap[b]? =some (.cells cs e fr)/\∀(j:Nat)(u:Value),vs[j]? =some u->cs[o+j]? =some u
section
variable {X X' A:Option Addr} {w w':World} {e T:TypeId} {vs:List Value}
theorem ArrN.arr(h:ArrN X w A e vs):Arr w A e vs:=fun h0=>by
 obtain⟨b,o,cs,fr,rfl,_,hb,hc⟩:=h h0;exact⟨b,o,cs,fr,rfl,hb,hc⟩
theorem ArrN.ext(h:ArrN X w A e vs)(hx:Ext w w'):ArrN X w' A e vs:=fun h0=>by
 obtain⟨b,o,cs,fr,rfl,h1,hb,hc⟩:=h h0;exact⟨b,o,cs,fr,rfl,h1,zj hx hb,hc⟩
theorem ArrN.oth(h:ArrN X w A e vs)(ho:Oth T w w')(hn:e≠T):ArrN X w' A e vs:=fun h0=>by
 obtain⟨b,o,cs,fr,rfl,h1,hb,hc⟩:=h h0;exact⟨b,o,cs,fr,rfl,h1,ho _ _ _ _ hn hb,hc⟩
theorem ArrN.grew(h:ArrN X w A e vs)(hg:Grew X X' w w'):ArrN X' w' A e vs:=fun h0=>by
 obtain⟨b,o,cs,fr,rfl,h1,hb,hc⟩:=h h0;refine⟨b,o,cs,fr,rfl,fun a' ha'=>?_,(hg.block b (zF hb) h1).trans hb,hc⟩;rcases hg.own a' ha' with ⟨a,ha,hab⟩|hle
 ·rw[<-hab];exact h1 a ha
 ·have:=zF hb;omega
theorem ArrX.arrN(h:ArrX lo w A e vs)(hX:∀a,X=some a->a.block<lo):ArrN X w A e vs:=fun h0=>by
 obtain⟨b,o,cs,fr,rfl,h1,hb,hc⟩:=h h0;exact⟨b,o,cs,fr,rfl,fun a ha=>by have:=hX a ha;omega,hb,hc⟩
theorem Own.blockLt{size:Nat}{xs:List Value}(h:Own w zf e size A n c xs):∀a,A=some a->a.block<w.heap.size:=fun a ha=>by
 rcases h.2 with ⟨hv,_⟩|⟨g,cap,cur,hv,_,h2,_⟩
 ·injection hv with hA;rw[hA]at ha;cases ha
 ·injection hv with hA;rw[hA]at ha;injection ha with ha;subst ha;exact zF h2
end
section
variable {P:Program} (w:World)
theorem zgm(zf:Nat)(t ty e:TypeId)(z:Value)(size bytes:Nat)(ht:P.underlying t=some (.slice e))(hi:(P.info? e).map (fun i=>(i.zero,i.size,i.bytes))=some (some z,size,bytes))
  (hzs:z.cells.size=size) (hsz:0<size) (hb:bytes<=128)
  (A:Option Addr) (n c:Nat) (xs:List Value) (zr5:Own w zf e size A n c xs)
  (ad:Addr) (m c':Nat) (news:List Value) (zsg:Arr w (some ad) e news) (hl:news.length=m*size) (h1:∀u∈news,u.oneCell'=true)
  (h63:n+m<=1099511627776) (zsw:zf<=w.heap.size):
  ∃A1 c1 w',(Builtin.append_ #[t,t] ty #[.slice A n c,.slice (some ad) m c']).run P w= .ok (.slice A1 (n+m) c1) w'/\Own w' zf e size A1 (n+m) c1 (xs++news)/\Grow zf e w w'/\Grew A A1 w w':=by
 obtain⟨i,hi1,hz,hs,hby⟩:=info_parts hi;have ztD:(n+m)*bytes<=140737488355328:=by
  have:(n+m)*bytes<=(n+m)*128:=Nat.mul_le_mul_left _ hb;omega
 have key:∀(v':Value)(w':World),w'.ownsRow zf e size v' (n+m) (xs++news)->∃A1 c1,v'= .slice A1 (n+m) c1:=by
  intro v' w' h;rcases h.2 with ⟨rfl,hn⟩|⟨g,cap,cur,rfl,_⟩
  ·exact⟨none,0,by rw[hn]⟩
  ·exact⟨_,cap,rfl⟩
 have zsB:∀j u,news[j]? =some u->w.cell? (ad.add j)=some u:=by
  intro j u hu;obtain⟨b,o,h,hc,_⟩:=zsg.at_ hu;injection h with h
  subst h;have:(⟨b,o,none⟩:Addr).add j=⟨b,o+j,none⟩:=by
   unfold Addr.add;split
   ·simp_all
   ·rfl
  rw[this];exact hc
 obtain⟨v',w',zsl,h2,h3,_,h5⟩:=run_append_own_at (P:=P) w zf t ty e i z size bytes ht hi1 hz hs hby hzs hsz _ n xs zr5 ad m c' news hl zsB h1 (by simp only[maxLen];omega) ztD zsw;obtain⟨A1,c1,rfl⟩:=key _ _ h2;refine⟨A1,c1,w',zsl,h2,zfc zr5 h3 zsw,fun k hk hne=>h3.block k hk (fun hh=>?_),fun a' ha'=>?_,h3.size⟩
 ·cases A with
  |none=>simp[Value.ownBlock]at hh
  |some a=>simp[Value.ownBlock]at hh;exact hne a rfl hh.symm
 ·subst ha';rcases h5 with h5|h5
  ·cases A with
   |none=>simp[Value.ownBlock]at h5
   |some a=>simp[Value.ownBlock]at h5;exact .inl ⟨a,rfl,h5.symm⟩
  ·simp[Value.ownBlock]at h5;exact .inr (by omega)
theorem zgn{ops:Array Oper}{o:Oper}{a:Act}{K:Act->World->Prop}{Q:Exit->Act->World->Prop}{E:Prop}(hgd:o.guard=none)(s x:Operand)(t:TypeId)
  (ho:o.op= .call {callee:= .builtin .append,args:=#[s,x],argTypes:=#[t,t]})
  (zf:Nat) (e:TypeId) (z:Value) (size bytes:Nat) (ht:P.underlying t=some (.slice e)) (hi:(P.info? e).map (fun i=>(i.zero,i.size,i.bytes))=some (some z,size,bytes))
  (hzs:z.cells.size=size) (hsz:0<size) (hb:bytes<=128)
  (A:Option Addr) (n c:Nat) (xs:List Value) (hs:a.eval s= .slice A n c) (zr5:Own w zf e size A n c xs)
  (ad:Addr) (m c':Nat) (news:List Value) (hx:a.eval x= .slice (some ad) m c') (zsg:Arr w (some ad) e news) (hl:news.length=m*size) (h1:∀u∈news,u.oneCell'=true)
  (h63:n+m<=1099511627776) (zsw:zf<=w.heap.size)
  (h:∀A1 c1 w',Own w' zf e size A1 (n+m) c1 (xs++news)->Grow zf e w w'->Grew A A1 w w'->K (a.put o.dst (.slice A1 (n+m) c1)) w'):
  if Region.wanted o (yielded ops a.tmps)=true then Oper.wp P o a w K Q else E:=by
 have hw:Region.wanted o (yielded ops a.tmps)=true:=by simp[Region.wanted,hgd]
 rw[if_pos hw];obtain⟨A1,c1,w',zsl,h2,h3,h4⟩:=zgm (P:=P) w zf t o.type e z size bytes ht hi hzs hsz hb A n c xs zr5 ad m c' news zsg hl h1 h63 zsw;unfold Oper.wp execOp;simp only[ho,resolve,invoke,builtin,Sem.run_bind,Sem.run_pure,Result.andThen_ok,List.map_toArray,map_cons,List.map_nil,hs,hx,zsl];exact h A1 c1 w' h2 h3 h4
end
def zam(m:List (List Int)):Prop:=∀k,k<m.length->qT (zo m k).2
def zgo(w:World)(D:List Int)(L:List (List Int))(e:Ending)(w':World):Prop:=∃mA mc lA lc,e= .returned (.agg #[.slice mA D.length mc,.slice lA L.length lc])/\Ints w' mA 2 .i64 D/\Mat64 w' lA L/\D.length<=mc/\mc<=9223372036854775807/\L.length<=lc/\lc<=9223372036854775807/\Step w w'
structure FormI(m:List (List Int))(wr:World)(zf:Nat)(mB lB:Option Addr)(k mc lc:Nat)(vs:List Value):Prop where
 mi:Own wr zf 2 1 mB (k+1) mc ((zm m k).map (Value.int .i64))
 la:Own wr zf 35 1 lB k lc vs
 row:∀i,i<k->∃B c,vs[i]? =some (.slice B (ZA m i).length c)/\ArrN mB wr B 2 ((ZA m i).map (Value.int .i64))/\(ZA m i).length<=c/\c<=9223372036854775807
theorem zlS(hn:AllLen m m.length)(hk:k<m.length):(zo m k).2[0]? =some (ent (zo m k).2 0 0::ZA m k):=by
 have hl:=ZU m k;have ha:=zad m hn k;have h0:(zo m k).2[0]? =some ((zo m k).2[0]'(by omega)):=by simp
 have hrl:((zo m k).2[0]'(by omega)).length=m.length-k:=ha _ (getElem_mem _);rw[h0];congr 1
 apply List.ext_getElem?;intro i
 cases i with
 |zero=>rw[List.getElem?_cons_zero,Ze (by omega),JL h0 (Ze (by omega))]
 |succ i=>
  rw[List.getElem?_cons_succ,ZA,getElem?_map];rcases Zl i (m.length-k-1) with hi|hi
  ·rw[List.getElem?_range hi,Ze (by omega)];simp only[Option.map_some];rw[JL h0 (Ze (by omega))]
  ·rw[List.getElem?_eq_none (by omega),List.getElem?_eq_none (by simpa using hi)];rfl
structure FormJ(m:List (List Int))(w2 w5:World)(mB lB:Option Addr)(k mc lc:Nat)(vs:List Value)(bx ox by_ oy r cy:Nat)(e0:Int):Prop where
 st:w5.heap[w2.heap.size+1]? =some (.cells #[.slice mB (k+1+1) mc,.slice lB k lc] 204 (0,0))
 mi:Own w5 w2.heap.size 2 1 mB (k+1+1) mc ((zm m (k+1)).map (Value.int .i64))
 la:Own w5 w2.heap.size 35 1 lB k lc vs
 row:∀i,i<k->∃B c,vs[i]? =some (.slice B (ZA m i).length c)/\ArrN mB w5 B 2 ((ZA m i).map (Value.int .i64))/\(ZA m i).length<=c/\c<=9223372036854775807
 hd:w5.cell? ⟨bx,ox,none⟩=some (.slice (some ⟨by_,oy,none⟩) (r+1) cy)
 bxl:bx<w5.heap.size
 new:ArrN mB w5 (some ⟨by_,oy,none⟩) 2 ((e0::ZA m k).map (Value.int .i64))
 ex:Ext w2 w5
theorem FormI.step1{w4:World}{A4:Option Addr}{d4:Nat}{r:Nat}{x1:Value}
  (hI:FormI m wr w2.heap.size mB lB k mc lc vs) (hxw:Ext wr W) (hx2:Ext w2 W) (zsx:Own w4 w2.heap.size 2 1 A4 (k+1+1) d4 ((zm m k).map (Value.int .i64)++[.int .i64 e0])) (hg4:Grow w2.heap.size 2 W w4) (ztM:Grew mB A4 W w4) (he0:e0=ent (zo m k).2 0 0)
  (hB4:w4.heap[w2.heap.size+1]? =some (.cells #[x1,.slice lB k lc] 204 (0,0))) (hX:∃cs fr,W.heap[bx]? =some (.cells cs 35 fr)/\cs[ox]? =some (.slice (some ⟨by_,oy,none⟩) (r+1) cy)) (hY:ArrX wr.heap.size W (some ⟨by_,oy,none⟩) 2 ((e0::ZA m k).map (Value.int .i64))):
  FormJ m w2 (w4.setCell ⟨w2.heap.size+1,0,none⟩ (.slice A4 (k+1+1) d4)) A4 lB k d4 lc vs bx ox by_ oy r cy e0:=by
 have hoS:=Oth.set (p:=⟨w2.heap.size+1,0,none⟩) hB4 (.slice A4 (k+1+1) d4);obtain⟨cs,fr,hh,hc⟩:=hX;have hh5:=hoS _ _ _ _ (by decide) (hg4.heap hh (by decide));refine⟨zbU hB4,?_,((hI.la.ext hxw).grow hg4 (by decide)).oth hoS (by decide),fun i hi=>?_,by simp[World.cell?,hh5];exact hc,zF hh5,?_,?_⟩
 ·rw[zfH,map_append,<-he0];exact zsx.oth hoS (by decide)
 ·obtain⟨B,c,a,b,e⟩:=hI.row i hi;exact⟨B,c,a,((b.ext hxw).grew ztM).oth hoS (by decide),e⟩
 ·exact((hY.arrN hI.mi.blockLt).grew ztM).oth hoS (by decide)
 ·exact(hg4.ext hx2 Zr).setCell (p:=⟨w2.heap.size+1,0,none⟩) (Nat.le_succ _) _
theorem FormJ.step2{w5 w6:World}{A6:Option Addr}{d6:Nat}{r:Nat} 
  (hJ:FormJ m w2 w5 mB lB k mc lc vs bx ox by_ oy r cy e0) (hxw:Ext w5 W) (zsd:Own w6 w2.heap.size 35 1 A6 (k+1) d6 (vs++[.slice Z r dz])) (hg6:Grow w2.heap.size 35 W w6)
  (hr:(ZA m k).length=r) (hZ:0<r->Z=some ⟨by_,oy+1,none⟩) (hd1:r<=dz) (hd2:dz<=9223372036854775807) (hB6:w6.heap[w2.heap.size+1]? =some (.cells #[.slice mB (k+1+1) mc,.slice lB k lc] 204 (0,0))):
  (w6.setCell ⟨w2.heap.size+1,1,none⟩ (.slice A6 (k+1) d6)).heap[w2.heap.size+1]? =some (.cells #[.slice mB (k+1+1) mc,.slice A6 (k+1) d6] 204 (0,0))/\FormI m (w6.setCell ⟨w2.heap.size+1,1,none⟩ (.slice A6 (k+1) d6)) w2.heap.size mB A6 (k+1) mc d6 (vs++[.slice Z r dz])/\Ext w2 (w6.setCell ⟨w2.heap.size+1,1,none⟩ (.slice A6 (k+1) d6)):=by
 have hoS:=Oth.set (p:=⟨w2.heap.size+1,1,none⟩) hB6 (.slice A6 (k+1) d6);have hvl:vs.length=k:=by have:=hJ.la.len;omega
 refine⟨za1 hB6,⟨((hJ.mi.ext hxw).grow hg6 (by decide)).oth hoS (by decide),zsd.oth hoS (by decide),fun i hi=>?_⟩,?_⟩
 ·rcases Zl i k with h|h
  ·obtain⟨B,c,a,b,e⟩:=hJ.row i h;exact⟨B,c,by rw[getElem?_append_left (by omega)];exact a,((b.ext hxw).oth (Oth.of_grow hg6) (by decide)).oth hoS (by decide),e⟩
  ·obtain rfl:i=k:=by omega
   refine⟨Z,dz,by rw[List.getElem?_append_right (by omega),hvl,hr];simp,fun h0=>?_,by rw[hr];exact hd1,hd2⟩;have h0':0<r:=by simp at h0;omega
   obtain⟨b,o,cs,fr,hA,h1,hb,hc⟩:=((hJ.new.ext hxw).oth (Oth.of_grow hg6) (by decide)).oth hoS (by decide) (by simp);injection hA with hA
   injection hA with x1 x2
   subst x1 x2;refine⟨by_,oy+1,cs,fr,hZ h0',h1,hb,fun j u hu=>?_⟩;have:=hc (j+1) u (by rw[map_cons,List.getElem?_cons_succ];exact hu);rw[show oy+1+j=oy+(j+1) by omega];exact this
 ·exact(hg6.ext (hJ.ex.trans hxw) Zr).setCell (p:=⟨w2.heap.size+1,1,none⟩) (Nat.le_succ _) _
set_option maxRecDepth 10000 in
theorem zlT(h:MatA w0 A m)(h1:1<=m.length)(h8:m.length<=8)(hn:AllLen m m.length)(hF:qT m)(hok:ElimOK m)(h64:zam m)[hx:Ext w0 w]:
  Cq 138 #[.slice A m.length c] w (zgo w (zm m m.length) (zr m m.length)):=by
 have HN:=Zh hn;have HOK:=Zh hok;have HFI:=Zh hF;have H64:=Zh h64;clear hn hok hF h64;go_enter Tryz.func138,Tryz.ntmps138;go_wp2_with (first|(go_at_call 171;refine(zfq h m.length h1 (by omega) h1 (by omega) HN.out HFI.out).mono ?_;rintro e w1 ⟨A1,c1,rfl,hM,k1,k2,hs1⟩)|(go_at_call 199;refine(zfv hM h1 (by omega) HN.out HOK.out).mono ?_;rintro e w2 ⟨A2,c2,rfl,hS,k3,k4,hs2⟩))
 have hsl:(Qv m).length=m.length:=by simp[Qv]
 rw[hsl];have HSL:=Zh hsl;clear hsl;obtain⟨b,o,-,-,-,-,-,-,rfl,-⟩:=StV.rowAt hS HN.out (k:=0) (by omega);have ztI:((w2.alloc (.cells #[.int .i64 1] 2)).alloc (.cells #[.slice (some ⟨w2.heap.size,0,none⟩) 1 1,.slice none 0 0] 204)).heap[w2.heap.size+1]? =some (.cells #[.slice (some ⟨w2.heap.size,0,none⟩) 1 1,.slice none 0 0] 204 (0,0)):=by
  have:=heap_alloc_new (w2.alloc (.cells #[.int .i64 1] 2)) (.cells #[.slice (some ⟨w2.heap.size,0,none⟩) 1 1,.slice none 0 0] 204);rwa [World.size_alloc]at this
 go_loopw [9,10,11,26] (fun _ _ _ i wr=>∃(k:Nat) (mB lB:Option Addr) (mc lc:Nat) (vs:List Value),k<=m.length/\i= .int .i64 k/\wr.heap[w2.heap.size+1]? =some (.cells #[.slice mB (k+1) mc,.slice lB k lc] 204 (0,0))/\FormI m wr w2.heap.size mB lB k mc lc vs/\Ext w2 wr) (fun _ _ _ i _=>m.length-(intOf i).toNat)
 case atStart=>
  exact⟨0,_,none,_,0,[],by omega,rfl,ztI,⟨(Own.new w2 2 1 1 #[.int .i64 1] rfl (by omega)).ext Zi,Own.nil _ _ _ _,fun i hi=>absurd hi (by omega)⟩,Zi⟩
 case round=>
  clear ztI;obtain⟨k,mB,lB,mc,lc,vs,hk,rfl,hst,hI,hxr⟩:=hrel;by_cases hlt:k<m.length
  ·have hsk:(Qv m)[k]? =some (zo m k).2:=by simp[Qv,hlt]
   obtain⟨b',o',B1,c1',hA,e1,hMk,l1,l2,hb⟩:=(hS.ext hxr).at_ hsk;injection hA with hA
   injection hA with x1 x2
   subst x1 x2;have zuc:=ZU m k;have hto:=fun W(hh:Ext wr W)=>zlR (w:=W) (c:=c1') hMk (m.length-k) (by omega) (by omega) (by omega) (by omega) (zad m HN.out k) (H64.out k hlt)
   rw[zuc]at e1 l1;obtain⟨r,hr⟩:∃r,m.length-k=r+1:=⟨m.length-k-1,by omega⟩;rw[hr]at e1 l1;have zvp:∀W,Ext wr W->Cq 200 #[.slice B1 (r+1) c1'] W fun e w'=>∃X cX,e= .returned (.tuple #[.slice X (r+1) cX,.bool true])/\Mat64X W.heap.size w' X (zo m k).2/\r+1<=cX/\cX<=9223372036854775807/\Step W w':=fun W hh=>by
    have:=hto W hh;unfold zgl at this;rw[zuc,hr]at this;exact this
   have HTO:=Zh zvp;have HR:=Zh hr;have zrH:=Zh zuc;obtain⟨s1,s2,s3,s4,s5⟩:=zQ hst;have HST:=Zh hst;have oS:Old (w2.heap.size+1) wr:=⟨s5⟩;clear hto zvp hr zuc hsk hst;go_wp2_with (go_at_call 200;refine(HTO.out _ Zi).mono ?_;rintro e w3 ⟨X,cX,rfl,hX,x1,x2,hs3⟩)
   obtain⟨vx,v1,v2,v3⟩:=hX;obtain⟨By,cy,y1,y2,y3,y4⟩:=v3 0 _ (zlS HN.out hlt);obtain⟨bx,ox,rfl,y5,y6,y7⟩:=v2.at_ y1;have zuM:(ZA m k).length=r:=by have:=HR.out;simp[ZA];omega
   obtain⟨e0,he0⟩:=Xz (ent (zo m k).2 0 0);rw[<-he0]at y1 y2 y3 y5;have HE0:=Zh he0;obtain⟨by_,oy,rfl,y8,y9,y10⟩:=y2.at_ (i:=0) (u:= .int .i64 e0) (by simp);simp only[List.length_cons,zuM,Nat.add_zero]at y1 y3 y5 y8;have HY2:=Zh y2;have HLR:=Zh zuM;have hmBl:=hI.mi.blockLt;have HX:Hid (∃cs fr,w3.heap[bx]? =some (.cells cs 35 fr)/\cs[ox]? =some (.slice (some ⟨by_,oy,none⟩) (r+1) cy)):=Zh (by
    obtain⟨bq,oq,cs,fr,hA,_,hh,hc⟩:=v2 (by rw[v1];have:=zrH.out;have:=HR.out;omega);injection hA with hA
    injection hA with z1 z2
    subst z1 z2;exact⟨cs,fr,hh,by simpa using hc 0 _ y1⟩)
   have oX:Old bx w3:=⟨y7⟩;have oY:Old by_ w3:=⟨y10⟩;clear v1 v2 v3 he0 zuM y1 y2;go_region_law ((refine zgn _ rfl (.tmp 36) (.tmp 42) 35 rfl w2.heap.size 2 (.int .i64 0) 1 8 Tryz.underlying35 Qb rfl (by decide) (by decide) mB (k+1) mc _ (by simp[Act.eval]) (hI.mi.ext Zi) ⟨w3.heap.size,0,none⟩ 1 1 [.int .i64 e0] (by simp[Act.eval]) ((Arr.new w3 2 #[.int .i64 e0]).ext Zi) rfl (by simp[Value.oneCell']) (by omega) (by have:=hxr.size;have:=hs3.size;simp<;>omega) ?_);intro A4 d4 w4 zsx hg4 ztM;have hb4:=hg4.heap (zj (Zi:Ext wr ((w3.alloc (Obj.cells #[Value.int .i64 e0] 2)).drew)) HST.out) (by decide);obtain⟨q1,q2,q3,q4,q5⟩:=zQ hb4;have HB4:=Zh hb4;clear hb4)
   all_goals
    have hJ:=hI.step1 (W:=(w3.alloc (Obj.cells #[Value.int .i64 e0] 2)).drew) (bx:=bx) (ox:=ox) (by_:=by_) (oy:=oy) (r:=r) (cy:=cy) Zi Zi zsx hg4 ztM HE0.out HB4.out (by obtain⟨cs,fr,z1,z2⟩:=HX.out;exact⟨cs,fr,zj (Zi:Ext w3 ((w3.alloc (Obj.cells #[Value.int .i64 e0] 2)).drew)) z1,z2⟩) (HY2.out.ext Zi);generalize w4.setCell ⟨w2.heap.size+1,0,none⟩ (.slice A4 (k+1+1) d4)=w5 at hJ|-
    clear zsx hg4 ztM HB4 q1 q2 q3 q4 q5;obtain⟨t1,t2,t3,t4,t5⟩:=zQ hJ.st;have t6:=hJ.hd;have t7:=hJ.bxl;have HJ:=Zh hJ;have oS5:Old (w2.heap.size+1) w5:=⟨t5⟩;have oX5:Old bx w5:=⟨t7⟩;have ztN:Ext w2 w5:=hJ.ex;clear hJ;by_cases hcy:cy=1
    ·obtain rfl:r=0:=by omega
     subst hcy;go_wp2_with fail
     go_region_law ((refine QB _ rfl (.tmp 46) (.tmp 51) 25 rfl w2.heap.size 35 (.slice none 0 0) 1 24 Tryz.underlying25 Qc rfl (by decide) (by decide) lB k lc vs (by simp[Act.eval]) (HJ.out.la.ext Zi) (some ⟨w5.heap.size,0,none⟩) 1 1 [.slice (some ⟨by_,oy,none⟩) 0 0] (by simp[Act.eval]) ((Arr.new w5 35 #[.slice (some ⟨by_,oy,none⟩) 0 0]).ext Zi) rfl (by simp[Value.oneCell']) (by omega) (by have:=ztN.size;simp<;>omega) ?_);intro A6 d6 w6 zsd hg6;have hb6:=hg6.heap (zj (Zi:Ext w5 ((w5.alloc (Obj.cells #[Value.slice (some ⟨by_,oy,none⟩) 0 0] 35)).drew)) HJ.out.st) (by decide);obtain⟨q1,q2,q3,q4,q5⟩:=zQ hb6;have HB6:=Zh hb6;clear hb6)
     all_goals
      have zr8:=HJ.out.step2 (W:=(w5.alloc (Obj.cells #[Value.slice (some ⟨by_,oy,none⟩) 0 0] 35)).drew) Zi zsd hg6 HLR.out (fun h0=>absurd h0 (by omega)) (by omega) (by omega) HB6.out;have HFN:=Zh zr8;clear zr8;go_wp2;refine⟨⟨k+1,A4,A6,d4,d6,_,by omega,by go_num,HFN.out.1,HFN.out.2.1,HFN.out.2.2⟩,by simp[intOf]<;>omega⟩
    ·have zxY:(1:Int)<=(r:Int)+1:=by omega
     go_wp2_with fail
     go_region_law ((refine QB _ rfl (.tmp 46) (.tmp 51) 25 rfl w2.heap.size 35 (.slice none 0 0) 1 24 Tryz.underlying25 Qc rfl (by decide) (by decide) lB k lc vs (by simp[Act.eval]) (HJ.out.la.ext Zi) (some ⟨w5.heap.size,0,none⟩) 1 1 [.slice (some ⟨by_,oy+1,none⟩) r (cy-1)] (by simp[Act.eval]) ((Arr.new w5 35 #[.slice (some ⟨by_,oy+1,none⟩) r (cy-1)]).ext Zi) rfl (by simp[Value.oneCell']) (by omega) (by have:=ztN.size;simp<;>omega) ?_);intro A6 d6 w6 zsd hg6;have hb6:=hg6.heap (zj (Zi:Ext w5 ((w5.alloc (Obj.cells #[Value.slice (some ⟨by_,oy+1,none⟩) r (cy-1)] 35)).drew)) HJ.out.st) (by decide);obtain⟨q1,q2,q3,q4,q5⟩:=zQ hb6;have HB6:=Zh hb6;clear hb6)
     all_goals
      have zr8:=HJ.out.step2 (W:=(w5.alloc (Obj.cells #[Value.slice (some ⟨by_,oy+1,none⟩) r (cy-1)] 35)).drew) Zi zsd hg6 HLR.out (fun _=>rfl) (by omega) (by omega) HB6.out;have HFN:=Zh zr8;clear zr8;go_wp2;refine⟨⟨k+1,A4,A6,d4,d6,_,by omega,by go_num,HFN.out.1,HFN.out.2.1,HFN.out.2.2⟩,by simp[intOf]<;>omega⟩
  ·obtain rfl:k=m.length:=by omega
   clear hlt;obtain⟨s1,s2,s3,s4,s5⟩:=zQ hst;have hr1:wr.heap[w.heap.size]? =some (.cells #[.slice none 0 0,.slice none 0 0] 204 (0,0)):=zj (Ext.trans (Ext.trans (hs1.ext) (hs2.ext)) hxr) (heap_alloc_new w _);obtain⟨r1,r2,r3,r4,r5⟩:=zQ hr1;have HR:=Zh hr1;clear hr1 hst;go_wp2;have hDl:(zm m m.length).length=m.length+1:=za0 _ _;have hLl:(zr m m.length).length=m.length:=by simp[zr]
   have zsf:=hI.mi.cap;have hcapL:=hI.la.cap;have hoR:=Oth.set2 HR.out 0 1 (.slice mB (m.length+1) mc) (.slice lB m.length lc);have hxw:Ext w wr:=Ext.trans (Ext.trans (Ext.trans (Zi:Ext w (w.alloc (.cells #[.slice none 0 0,.slice none 0 0] 204))) hs1.ext) hs2.ext) hxr;refine bodyPost_ret (v:= .agg #[.slice mB (m.length+1) mc,.slice lB m.length lc]) (by simp[results,Tryz.results138,go_sem,r1,r2]) rfl ⟨mB,mc,lB,lc,by rw[hDl,hLl],?_,?_,by rw[hDl];exact zsf.1,zsf.2,by rw[hLl];exact hcapL.1,hcapL.2,?_⟩
   ·exact Ints.oth hI.mi.arr hoR (by decide)
   ·refine⟨vs,by rw[hLl];have:=hI.la.len;omega,hI.la.arr.oth hoR (by decide),fun i r hr=>?_⟩;have hi:i<m.length:=by
     have:=(Zg.1 hr).1;omega
    have hr':r=ZA m i:=by
     rw[zr,getElem?_map,List.getElem?_range hi]at hr;simpa using hr.symm
    subst hr';obtain⟨B5,c5,y1,y2,y3,y4⟩:=hI.row i hi;exact⟨B5,c5,y1,y2.arr.oth hoR (by decide),y3,y4⟩
   ·exact((hxw.setCell (p:=⟨w.heap.size,0,none⟩) Zr _).setCell (p:=⟨w.heap.size,1,none⟩) Zr _).toStep
def Z5(D:List Int)(L:List (List Int))(k:Nat)(rest:Int)(zero:Bool)(tail:List Int):Int:=if zero then 0 else zY D L k rest tail
def jH(D:List Int)(L:List (List Int))(k:Nat)(rest:Int)(zero:Bool)(tail:List Int):Nat:=(Z4 D L k rest tail-Z5 D L k rest zero tail+1).toNat
def jh(zero exact:Bool)(c left:Int):Bool:=!(zero&&decide (c=0))&&!(exact&&!decide (left=0))
def Zy(D:List Int)(L:List (List Int))(exact:Bool):Nat->Int->Bool->List Int->List (List Int)
 |0,rest,zero,tail=>(List.range (jH D L 0 rest zero tail)).flatMap fun(j:Nat)=>
   if jh zero exact (Z5 D L 0 rest zero tail+j) (qg D L 0 rest tail (Z5 D L 0 rest zero tail+j)) then [(Z5 D L 0 rest zero tail+(j:Int))::tail] else []
 |k+1,rest,zero,tail=>(List.range (jH D L (k+1) rest zero tail)).flatMap fun(j:Nat)=>
   Zy D L exact k (qg D L (k+1) rest tail (Z5 D L (k+1) rest zero tail+j)) (zero&&decide (Z5 D L (k+1) rest zero tail+j=0)) ((Z5 D L (k+1) rest zero tail+(j:Int))::tail)
def JS(D:List Int)(L:List (List Int))(exact:Bool)(k:Nat)(rest:Int)(zero:Bool)(tail:List Int)(c:Int):List (List Int):=
 if k=0 then (if jh zero exact c (qg D L k rest tail c) then [c::tail] else []) else Zy D L exact (k-1) (qg D L k rest tail c) (zero&&decide (c=0)) (c::tail)
def jI(D:List Int)(L:List (List Int))(exact:Bool)(k:Nat)(rest:Int)(zero:Bool)(tail:List Int)(j:Nat):List (List Int):=
 (List.range j).flatMap fun(i:Nat)=>JS D L exact k rest zero tail (Z5 D L k rest zero tail+(i:Int))
theorem zgp(D:List Int)(L:List (List Int))(exact:Bool)(k:Nat)(rest:Int)(zero:Bool)(tail:List Int)(j:Nat):
  jI D L exact k rest zero tail (j+1)=jI D L exact k rest zero tail j++JS D L exact k rest zero tail (Z5 D L k rest zero tail+(j:Int)):=by
 simp[jI,range_succ]
theorem zlU(D:List Int)(L:List (List Int))(exact:Bool)(k:Nat)(rest:Int)(zero:Bool)(tail:List Int):
  Zy D L exact k rest zero tail=jI D L exact k rest zero tail (jH D L k rest zero tail):=by
 cases k with
 |zero=>simp[Zy,jI,JS]
 |succ k=>simp[Zy,jI,JS]
theorem zlV(D:List Int)(L:List (List Int))(exact:Bool)(k:Nat)(rest:Int)(zero:Bool)(tail:List Int){i j:Nat}(h:i<=j):jI D L exact k rest zero tail i<+:jI D L exact k rest zero tail j:=by
 obtain⟨m,rfl⟩:∃m,j=i+m:=⟨j-i,by omega⟩;induction m with
 |zero=>exact List.prefix_rfl
 |succ m ih=>rw[<-Nat.add_assoc,zgp];exact(ih (by omega)).trans (List.prefix_append _ _)
theorem zlW{D:List Int}{rest:Int}{tail:List Int}(hN:NumOK D L n za)(h:LevOK D n za k rest tail)(h0:z8 tail=0):zY D L k rest tail<=0:=by
 have:=(JP hN h).2.1;omega
structure LOwn(w:World)(zf:Nat)(A:Option Addr)(c:Nat)(l:List (List Int))(vs:List Value):Prop where
 own:Own w zf 35 1 A l.length c vs
 row:∀(i:Nat)(r:List Int),l[i]? =some r->∃B d,vs[i]? =some (.slice B r.length d)/\ArrX zf w B 2 (r.map (Value.int .i64))/\r.length<=d/\d<=9223372036854775807
theorem LOwn.nil(w:World)(zf:Nat):LOwn w zf none 0 [] []:=⟨Own.nil _ _ _ _,fun i r hr=>by simp at hr⟩
theorem LOwn.ext(h:LOwn w zf A c l vs)(hx:Ext w w'):LOwn w' zf A c l vs:=
 ⟨h.own.ext hx,fun i r hr=>by obtain⟨B,d,a,b,e⟩:=h.row i r hr;exact⟨B,d,a,b.ext hx,e⟩⟩
theorem LOwn.set(h:LOwn w zf A c l vs){p:Addr}(hp:p.block<zf)(u:Value):LOwn (w.setCell p u) zf A c l vs:=by
 have hk:∀b,zf<=b->(w.setCell p u).heap[b]? =w.heap[b]? :=fun b hb=>Below.heap_setCell w p u b (by omega)
 refine⟨⟨h.own.1,?_⟩,fun i r hr=>?_⟩
 ·rcases h.own.2 with hv|⟨g,cap,cur,hv,h1,h2,h3⟩
  ·exact .inl hv
  ·exact .inr ⟨g,cap,cur,hv,h1,(hk g h1).trans h2,h3⟩
 ·obtain⟨B,d,a,b,e⟩:=h.row i r hr;exact⟨B,d,a,b.keep (fun b' _ _ hb' _=>hk b' hb'),e⟩
theorem LOwn.mat(h:LOwn w zf A c l vs):Mat64 w A l:=
 ⟨vs,by have:=h.own.len;omega,h.own.arr,fun i r hr=>by obtain⟨B,d,a,b,e⟩:=h.row i r hr;exact⟨B,d,a,b.arr,e⟩⟩
theorem LOwn.snoc(h:LOwn w zf A c l vs)(hx:Ext w W)(hg:Grow zf 35 W w')(ho:Own w' zf 35 1 A' (l.length+1) c' (vs++[.slice B r.length d]))(hr:ArrX zf W B 2 (r.map (Value.int .i64)))(h1:r.length<=d)(h2:d<=9223372036854775807):LOwn w' zf A' c' (l++[r]) (vs++[.slice B r.length d]):=by
 have hvl:vs.length=l.length:=by have:=h.own.len;omega
 refine⟨by rw[List.length_append];exact ho,fun i x hx'=>?_⟩;rcases Zl i l.length with hi|hi
 ·rw[getElem?_append_left hi]at hx';obtain⟨B1,d1,a,b,e⟩:=h.row i x hx';exact⟨B1,d1,by rw[getElem?_append_left (by omega)];exact a,(b.ext hx).oth (Oth.of_grow hg) (by decide),e⟩
 ·have hi':i=l.length:=by
   have:=(Zg.1 hx').1;simp at this;omega
  subst hi';have:x=r:=by simpa using hx'.symm
  subst this;exact⟨B,d,by rw[List.getElem?_append_right (by omega),hvl];simp,hr.oth (Oth.of_grow hg) (by decide),h1,h2⟩
end Go.Proofs.YtpcgfpmiphiacaaGreat
