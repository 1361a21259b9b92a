import Derived.Test.YtgoaelchibpffaaGreatT07
import Derived.Laws.EntriesVeiled
set_option maxHeartbeats 8000000
set_option linter.unusedVariables false
set_option linter.unusedSimpArgs false
namespace Go.Proofs.YtgoaelchibpffaaGreat
open Go.RowKit
open List (map_cons map_append getElem_mem getElem?_map range_succ getElem?_append_left)
variable {e0:Int} {L l ls m:List (List Int)} {r:List Int} {vs:List Value} {bx by_ c c' cy d dz g k lo mc n ox oy sb ze:Nat} {A A' B Z lB mB:Option Addr} {W w w' w0 w2 wr:World}
theorem Perm.pairwise_ne{els els':List KE}(hp:els'.Perm els)(h:els.Pairwise (fun x y=>x.cmp y≠0)):els'.Pairwise (fun x y=>x.cmp y≠0):=
 (hp.pairwise_iff (fun{x y}hxy h0=>hxy (by
  have e:=Qc (y.key::y.l) (x.key::x.l);have e2:y.cmp x=zn (y.key::y.l) (x.key::x.l):=rfl;have e3:x.cmp y=zn (x.key::x.l) (y.key::y.l):=rfl;rw[e3,e,<-e2,h0];rfl))).2 h
theorem zgn(x y:KE):y.cmp x=-x.cmp y:=Qc (x.key::x.l) (y.key::y.l)
theorem Same.cell{b o:Nat}(h:Same g w w')(hb:b<w.heap.size)(hne:b≠g):w'.cell? ⟨b,o,none⟩=w.cell? ⟨b,o,none⟩:=World.cell?_of_block (h.1 b hb hne)
structure SortPost(w w':World)(sb g:Nat)(A:Option Addr)(c:Nat)(els els':List KE):Prop where
 perm:els'.Perm els
 sorted:els'.Pairwise (fun x y=>x.cmp y<0)
 row:0<els.length->KRow w' g els'
 ok:∀x∈els',x.ok w'
 st:w'.heap[sb]? =some (.cells #[.slice A els.length c,.func (.func 215) #[] #[]] 257 (0,0))
 keep:∀b,b<w.heap.size->b≠g->w'.heap[b]? =w.heap[b]?
 below:∀B,B<=g->B<=w.heap.size->Below B w w'
theorem zlS{els:List KE}(hst:w.heap[sb]? =some (.cells #[.slice (some ⟨g,0,none⟩) els.length c,.func (.func 215) #[] #[]] 257 (0,0)))(zsr:KRow w g els)(hok:∀x∈els,x.ok w)(hn:els.length<=1099511627776)(hd:els.Pairwise (fun x y=>x.cmp y≠0))(hg:g<w.heap.size):
  Cq 217 #[.pointer (some ⟨sb,0,none⟩)] w fun e w'=>e= .returned (.tuple #[])/\∃els',SortPost w w' sb g (some ⟨g,0,none⟩) c els els':=by
 have hsb:=zi hst;have hgs:sb≠g:=by
  rintro rfl;obtain⟨cur,h1,-⟩:=zsr;rw[hst]at h1;injection h1 with h1
  injection h1 with _ he
  exact absurd he ac
 obtain⟨s1,s2,s3,s4,-⟩:=zN hst;have HST:=Zh hst;obtain⟨n,hN⟩:=Xz els.length;have HN:=Zh hN;have zth:=fun W(hh:Ext w W)=>zlN (w:=W) (cap:=c) (zsr.ext hh) (fun x hx=>(hok x hx).ext hh) aa
 rw[<-hN]at zth s1;have HSO:=Zh zth;have HD:=Zh hd;have oS:Old sb w:=⟨hsb⟩;clear zth hN hst hd hok;go_enter Tryz.func217,Tryz.ntmps217;go_wp2_with fail
 go_region_held3 (fun w'=>w'.cell? ⟨w.heap.size,0,none⟩=some (.pointer (some ⟨sb,0,none⟩))/\w'.cell? ⟨sb,0,none⟩=some (.slice (some ⟨g,0,none⟩) n c)/\w'.cell? ⟨sb,1,none⟩=some (.func (.func 215) #[] #[])) (first|assumption|(simp[go_sem,s1,s2]))
  (first
   |(go_at_call 270;refine(HSO.out _ Zi).mono ?_;rintro e w2 ⟨rfl,els',hp,hso,hr2,zuI,zs1⟩;(have hS2:w2.cell? ⟨w.heap.size,0,none⟩=some (.pointer (some ⟨sb,0,none⟩))/\w2.cell? ⟨sb,0,none⟩=some (.slice (some ⟨g,0,none⟩) n c)/\w2.cell? ⟨sb,1,none⟩=some (.func (.func 215) #[] #[]):=⟨(zs1.cell af aa).trans (by simp[go_sem]),(zs1.cell (by simp;omega) hgs).trans (by simp[go_sem,s1]),(zs1.cell (by simp;omega) hgs).trans (by simp[go_sem,s2])⟩)))
 have zss:els'.length=els.length:=hp.length_eq;have hne:=Perm.pairwise_ne hp HD.out;have hz:w.heap.size<w2.heap.size:=by have:=(zs1.2 0 (Nat.zero_le _)).size;simp at this;omega
 have zvu:els'.Pairwise (fun x y=>x.cmp y<0):=by
  refine(hso.and hne).imp ?_;rintro x y ⟨h1,h2⟩;have:=zgn x y;omega
 have zuJ:w2.heap[sb]? =some (.cells #[.slice (some ⟨g,0,none⟩) els.length c,.func (.func 215) #[] #[]] 257 (0,0)):=(zs1.1 sb (by simp;omega) hgs).trans (zg (w:=w) Zi HST.out);obtain⟨p1,p2,p3⟩:=hS2;have f1:w2.frozen? ⟨sb,0,none⟩=false:=(zN zuJ).2.2.1;have zuK:sb<w2.heap.size:=aa
 have zuL:=fun W(hh:Ext w2 W)=>zlR (w:=W) (pb:=w.heap.size) (sb:=sb) (cap:=c) (hr2.ext hh) (fun x hx=>(zuI x hx).ext hh) aa (fun i x y h1 h2=>by
   have hi:=(Zg.1 h2).1;have:=(List.pairwise_iff_getElem.1 hne) i (i+1) aa hi aa;rw[(Zg.1 h1).2,(Zg.1 h2).2]at this;have e:=zgn x y;simp;omega) ((hh.below.cell (p:=⟨w.heap.size,0,none⟩) hz).trans p1) ((hh.below.cell (p:=⟨sb,1,none⟩) zuK).trans p3) (Nat.lt_of_lt_of_le hz hh.size) (Nat.lt_of_lt_of_le zuK hh.size)
 rw[zss,<-HN.out]at zuL;have HCO:=Zh zuL;have oP2:Old w.heap.size w2:=⟨hz⟩;have oS2:Old sb w2:=⟨zuK⟩;have HP:=Zh hp;have zr0:=Zh zvu;have HR2:=Zh hr2;have zr1:=Zh zuI;have HSA:=Zh zs1;have zrr:=Zh zuJ;clear hp hso hr2 zuI zs1 hne zvu zuJ zuL zss HD HSO;go_wp2_with fail
 go_region_held3 (fun w'=>w'.cell? ⟨w.heap.size,0,none⟩=some (.pointer (some ⟨sb,0,none⟩))/\w'.cell? ⟨sb,0,none⟩=some (.slice (some ⟨g,0,none⟩) n c)) (first|exact⟨p1,p2⟩|(rw[zae hC3];simp only[zk w2];exact⟨p1,p2⟩)|(simp only[zk w2];exact⟨p1,p2⟩))
  (first
   |(go_at_call 271;refine(HCO.out _ Zi).mono ?_;rintro e w3 ⟨rfl,hs3⟩;(have hF3:w3.frozen? ⟨sb,0,none⟩=false:=(zN (zg (Ext.trans Zi hs3.ext) zrr.out)).2.2.1);(have hC3:w3.cell? ⟨sb,0,none⟩=some (.slice (some ⟨g,0,none⟩) n c):=by rw[HN.out];exact(zN (zg (Ext.trans Zi hs3.ext) zrr.out)).1)))
 rw[zae hC3];go_wp2;go_end0
 have hx3:Ext w2 w3:=Ext.trans Zi hs3.ext;have hsw:w.heap.size<=w2.heap.size:=aa
 refine⟨rfl,els',HP.out,zr0.out,fun _=>HR2.out.ext hx3,fun x hx=>(zr1.out x hx).ext hx3,zg hx3 zrr.out,fun b hb hbg=>?_,fun B hB hBw=>?_⟩
 ·rw[hx3.below.block b aa,HSA.out.1 b (by simp;omega) hbg];exact Below.heap_alloc w _ b hb
 ·have h1:=HSA.out.2 B hB;have h2:Below B w (w.alloc (.cells #[.pointer (some ⟨sb,0,none⟩)] 307)).drew:=((Below.refl _ _).alloc hBw _).drew;exact(h2.trans h1).trans (hx3.below.mono aa)
theorem zlT(fv:Value):Cq 271 #[.slice none 0 0,fv] w (zA w (.slice none 0 0)):=by
 go_enter Tryz.func271,Tryz.ntmps271;go_wp2;go_ret;exact⟨rfl,Step.of _ _⟩
theorem zlU(hst:w.heap[sb]? =some (.cells #[.slice none 0 0,.func (.func 215) #[] #[]] 257 (0,0))):
  Cq 217 #[.pointer (some ⟨sb,0,none⟩)] w (zA w (.tuple #[])):=by
 have hsb:=zi hst;obtain⟨s1,s2,s3,s4,-⟩:=zN hst;have HST:=Zh hst;have zth:=fun W=>AnyF.slices_SortFunc_none (P:=Tryz.prog) Tryz.laysSort none 0 (.func (.func 215) #[] #[]) W
 have zvv:∀W,Cq 270 #[.slice none 0 0,.func (.func 215) #[] #[]] W fun e w'=>e= .returned (.tuple #[])/\w'=W:=zth
 have HSO:=Zh zvv;have oS:Old sb w:=⟨hsb⟩;clear zth zvv hst;go_enter Tryz.func217,Tryz.ntmps217;go_wp2_with fail
 go_region_held3 (fun w'=>w'.cell? ⟨w.heap.size,0,none⟩=some (.pointer (some ⟨sb,0,none⟩))/\w'.cell? ⟨sb,0,none⟩=some (.slice none 0 0)/\w'.cell? ⟨sb,1,none⟩=some (.func (.func 215) #[] #[])) (first|assumption|(simp[go_sem,s1,s2]))
  (first|(go_at_call 270;refine(HSO.out _).mono ?_;rintro e w2 ⟨rfl,rfl⟩))
 obtain⟨W,hW⟩:=Xz ((w.alloc (.cells #[.pointer (some ⟨sb,0,none⟩)] 307)).drew);have hxW:Ext w W:=by rw[hW];exact Zi
 have p0:W.heap[sb]? =_:=zg hxW HST.out;have p1:W.cell? ⟨w.heap.size,0,none⟩=some (.pointer (some ⟨sb,0,none⟩)):=by rw[hW];simp[go_sem]
 obtain⟨p2,p3,p4,-,p5⟩:=zN p0;have p6:w.heap.size<W.heap.size:=by rw[hW];simp
 have HP0:=Zh p0;have oP2:Old w.heap.size W:=⟨p6⟩;have oS2:Old sb W:=⟨p5⟩;rw[<-hW];clear hW p0;go_wp2_with fail
 go_region_held3 (fun w'=>w'.cell? ⟨w.heap.size,0,none⟩=some (.pointer (some ⟨sb,0,none⟩))/\w'.cell? ⟨sb,0,none⟩=some (.slice none 0 0)) (first|exact⟨p1,p2⟩|(rw[zae hC3];simp only[zk W];exact⟨p1,p2⟩)|(simp only[zk W];exact⟨p1,p2⟩))
  (first
   |(go_at_call 271;refine(zlT _).mono ?_;rintro e w3 ⟨rfl,hs3⟩;(have hF3:w3.frozen? ⟨sb,0,none⟩=false:=(zN (zg (Ext.trans Zi hs3.ext) HP0.out)).2.2.1);(have hC3:w3.cell? ⟨sb,0,none⟩=some (.slice none 0 0):=(zN (zg (Ext.trans Zi hs3.ext) HP0.out)).1)))
 rw[zae hC3];go_wp2;go_end0
 exact⟨rfl,(hxW.trans (Ext.trans Zi hs3.ext)).toStep⟩
def zh(m:List (List Int))(x:List Int):Int:=zx x (zY m x)
theorem zdI:∀r x,zx r (x.map (fun c=>-c))=-zx r x
 |[],_=>by rfl
 |_::_,[]=>by rfl
 |a::l,b::m=>by simp only[map_cons,zx,zdI l m,Int.mul_neg];omega
theorem zgo:∀r x,zx (r.map (fun c=>-c)) x=-zx r x
 |[],_=>by rfl
 |_::_,[]=>by rfl
 |a::l,b::m=>by simp only[map_cons,zx,zgo l m,Int.neg_mul];omega
theorem jl(m:List (List Int))(x:List Int):zh m (x.map (fun c=>-c))=zh m x:=by
 have h:zY m (x.map (fun c=>-c))=(zY m x).map (fun c=>-c):=by simp[zY,zdI]
 unfold zh;rw[h,zdI,zgo,Int.neg_neg]
theorem JU(m:List (List Int))(x:List Int):zh m (zJ x)=zh m x:=by
 unfold zJ;split
 ·exact jl m x
 ·rfl
structure VecOK(m:List (List Int))(x:List Int):Prop where
 fit:Qr m.length x=true
 nb:Qt (zh m x)=true
 cb:jG x=true
structure RedM(m:List (List Int)):Prop where
 red:zM m=true
 all:AllLen m m.length
 ent:zdm m
 n8:m.length<=8
structure ElsOK(m:List (List Int))(ls:List (List Int))(w:World)(els:List KE):Prop where
 lsE:els.map KE.l=ls.map zJ
 keyE:els.map KE.key=ls.map (zh m)
 ok:∀x∈els,x.ok w
 cap:∀x∈els,x.l.length<=x.c/\x.c<=9223372036854775807
theorem ElsOK.len{els:List KE}(h:ElsOK m ls w els):els.length=ls.length:=by
 have:=congrArg List.length h.lsE;grind
def Jq(els:List KE):List Value:=els.flatMap KE.enc
theorem zgp:∀(els:List KE)(i:Nat)(x:KE),els[i]? =some x->(Jq els)[2*i]? =some (.int .i64 x.key)/\(Jq els)[2*i+1]? =some (.slice x.A x.l.length x.c)
 |[],i,x,h=>by grind
 |y::l,0,x,h=>by simp at h;subst h;exact⟨rfl,rfl⟩
 |y::l,i+1,x,h=>by
  have:=zgp l i x ae;exact this
theorem KRow.of_own{els:List KE}(h:Own w ze 259 2 A n c (Jq els))(hn:0<n):∃g,A=some ⟨g,0,none⟩/\ze<=g/\KRow w g els:=by
 obtain⟨hl,h2⟩:=h;rcases h2 with ⟨_,h0⟩|⟨g,cap,cur,hv,hb,hh,h3,h4,h5,h6⟩
 ·omega
 ·injection hv with hA
  refine⟨g,hA,hb,cur,hh,fun i x hx=>?_⟩;obtain⟨a,b⟩:=zgp els i x hx;grind
theorem zlV:(Tryz.prog.info? 259).map (fun i=>(i.zero,i.size,i.bytes))=some (some (.agg #[.int .i64 0,.slice none 0 0]),2,32):=ai
def zlW(w:World)(m ls:List (List Int))(e:Ending)(w':World):Prop:=∃A c L,e= .returned (.tuple #[.slice A (List.length L) c,.bool true])/\Mat64 w' A L/\L.length<=c/\c<=9223372036854775807/\L.Perm (ls.map zJ)/\L.Pairwise (fun x y=>qs (zh m x) (zh m y) x y<0)/\Step w w'
theorem JV(x:List Int):(zJ x).length=x.length:=by unfold zJ;grind
theorem zlX(els:List KE)(x:KE):Jq (els++[x])=Jq els++[.int .i64 x.key,.slice x.A x.l.length x.c]:=by simp[Jq,KE.enc]
theorem ElsOK.snoc{els:List KE}{x:List Int}{v:Int}(h:ElsOK m (ls.take k) w els)(hx:ls[k]? =some x)(hv:v=zh m x)(hl:x.length<=1099511627776)(hdz:x.length<=dz)(zwP:dz<=9223372036854775807)
  (hk:∀y:KE,y.ok w->y.ok w') (hZ:Ints w' Z 2 .i64 (zJ x)):ElsOK m (ls.take (k+1)) w' (els++[⟨v,Z,dz,zJ x⟩]):=by
 have e:ls.take (k+1)=ls.take k++[x]:=by rw[List.take_add_one,hx];rfl
 refine⟨by rw[e,map_append,map_append,h.lsE];rfl,by rw[e,map_append,map_append,h.keyE,hv];rfl,fun y hy=>?_,fun y hy=>?_⟩
 ·rcases List.mem_append.1 hy with hy|hy
  ·exact hk y (h.ok y hy)
  ·obtain rfl:=List.mem_singleton.1 hy;exact⟨hZ,by rw[JV];grind⟩
 ·rcases List.mem_append.1 hy with hy|hy
  ·exact h.cap y hy
  ·obtain rfl:=List.mem_singleton.1 hy;exact⟨by rw[JV];grind,zwP⟩
theorem ElsOK.distinct{els:List KE}(h:ElsOK m ls w els)(hn:(ls.map zJ).Nodup):els.Pairwise (fun x y=>x.cmp y≠0):=by
 rw[<-h.lsE,List.Nodup,List.pairwise_map]at hn;refine hn.imp ?_;intro x y hxy h0;have:=jH _ _ (show zn (x.key::x.l) (y.key::y.l)=0 from h0);grind
theorem zlY{w1:World}{cb:Nat}{els:List KE}(hst:wr.heap[w1.heap.size]? =some (.cells #[.slice B k cb,.func (.func 215) #[] #[]] 257 (0,0)))(zsq:Own wr (w1.heap.size+1) 259 2 B k cb (Jq els))(hel:els.length=k)(hk:k<=1073741824)(hok:∀x∈els,x.ok wr)(hd:els.Pairwise (fun x y=>x.cmp y≠0))(hB0:k=0->B=none/\cb=0)(hx:Ext w1 wr):
  Cq 217 #[.pointer (some ⟨w1.heap.size,0,none⟩)] wr fun e w6=>e= .returned (.tuple #[])/\∃els',els'.Perm els/\els'.Pairwise (fun x y=>x.cmp y<0)/\(∀x∈els',x.ok w6)/\w6.heap[w1.heap.size]? =some (.cells #[.slice B k cb,.func (.func 215) #[] #[]] 257 (0,0))/\(0<k->∃g,B=some ⟨g,0,none⟩/\KRow w6 g els')/\Ext w1 w6:=by
 rcases Nat.eq_zero_or_pos k with h0|h0
 ·subst h0;obtain⟨rfl,rfl⟩:=hB0 rfl;have zwQ:=List.eq_nil_of_length_eq_zero hel;subst zwQ;refine(zlU hst).mono ?_;rintro e w6 ⟨he,hs⟩;exact⟨he,[],List.Perm.refl _,List.Pairwise.nil,fun x hx=>absurd hx af,zg hs.ext hst,fun h=>absurd h aa,hx.trans hs.ext⟩
 ·obtain⟨g,rfl,hg,zsr⟩:=KRow.of_own zsq h0;have hgs:g<wr.heap.size:=by obtain⟨cur,h1,_⟩:=zsr;grind
  rw[<-hel]at hst;refine(zlS hst zsr hok aa hd hgs).mono ?_;rintro e w6 ⟨he,els',hp⟩;refine⟨he,els',hp.perm,hp.sorted,hp.ok,by rw[<-hel];exact hp.st,fun _=>⟨g,rfl,hp.row aa⟩,?_⟩;have:=hp.below w1.heap.size aa hx.size;exact⟨hx.below.trans this⟩
set_option maxRecDepth 10000 in
theorem zlZ{X:Option Addr}(h:MatA w0 A m)(hc:m.length<=c)(hc2:c<=9223372036854775807)(hX:Mat64 w0 X ls)(hl:ls.length<=1073741824)(hm:RedM m)(hv:∀x∈ls,VecOK m x)(hnd:(ls.map zJ).Nodup)[hx:Ext w0 w]:
  Cq 156 #[.slice A m.length c,.slice X ls.length d] w (zlW w m ls):=by
 have zsN:=fun W(hxx:Ext w0 W)=>zai (w:=W) h (by have:=hm.n8;omega) hc hc2
 rw[hm.red]at zsN;have HR:=Zh zsN;have HM:=Zh hm;have HV:=Zh hv;have HND:=Zh hnd;obtain⟨q,hq⟩:=Xz ls.length;rw[<-hq]at hl|-
 have HQ:=Zh hq;clear zsN hm hv hnd hq;go_enter Tryz.func156,Tryz.ntmps156;go_wp2_with (go_at_call 44;refine(HR.out _ Zi).mono ?_;rintro e w1 ⟨rfl,hs1⟩)
 have hx1:Ext w0 w1:=Zi;go_loopw [8,9,10,11,12,22] (fun _ _ _ _ _ i wr=>∃(k:Nat) (B:Option Addr) (cb:Nat) (els:List KE),k<=q/\i= .int .i64 k/\wr.heap[w1.heap.size]? =some (.cells #[.slice B k cb,.func (.func 215) #[] #[]] 257 (0,0))/\Own wr (w1.heap.size+1) 259 2 B k cb (Jq els)/\Hid (ElsOK m (ls.take k) wr els)/\Hid (k=0->B=none/\cb=0)/\Ext w1 wr) (fun _ _ _ _ _ i _=>q-(intOf i).toNat)
 case atStart=>
  exact⟨0,none,0,[],aa,rfl,heap_alloc_new w1 _,Own.nil _ _ _ _,Zh ⟨rfl,rfl,fun x hx=>absurd hx af,fun x hx=>absurd hx af⟩,Zh (fun _=>⟨rfl,rfl⟩),Zi⟩
 case round=>
  obtain⟨k,B,cb,els,hk,rfl,hst,zsq,HE,HB0,hxr⟩:=hrel;have ztc:Ext w0 wr:=hx1.trans hxr;by_cases hlt:k<q
  ·have hkl:k<ls.length:=by have:=HQ.out;omega
   obtain⟨b,o,XB,cx,rfl,e1,e2,f1,f2,f3⟩:=(hX.ext ztc).at_ (i:=k) (r:=ls[k]) (by simp[hkl]);obtain⟨x,hxe⟩:=Xz (ls[k]);have hvx:=HV.out ls[k] (getElem_mem hkl);rw[<-hxe]at e1 e2 f1 hvx;have HXE:Hid (ls[k]? =some x):=Zh (by rw[hxe];simp[hkl]);have zsv:x.length=m.length/\QE x=true:=by
    have:=hvx.fit;simpa[Qr] using this
   have hn8:=HM.out.n8;have zub:=JR.1 zsv.2;have e2':=Zh e2;have hcf:=fun W(hh:Ext wr W)=>zdl (w:=W) (n:=m.length) (c:=cx) e2 (by have:=zsv.1;omega)
   rw[hvx.fit]at hcf;have hca:=fun W(hh:Ext wr W)=>zfR (w:=W) (c:=c) (d:=cx) (h.ext ztc) e2 HM.out.all zsv.1 hn8 HM.out.ent zub
   have hcc:=fun W(hh:Ext wr W)=>zlH (w:=W) (c:=cx) e2 (by have:=zsv.1;omega)
   rw[zsv.1]at e1 f1 hcf hca hcc;have hcd:=fun(W:World)(Y:Option Addr)(dy:Nat)(hh:Ext wr W)(hY:Ints W Y 2 .i64 (zY m x))=>zgh (w0:=W) (w:=W) (c:=cx) (d:=dy) (e2.ext hh) hY (by rw[zal,zsv.1]) (by have:=zsv.1;omega) zub (fun z hz=>by
    obtain⟨r,hr,rfl⟩:=List.mem_map.1 hz;have hb:=zak (A:=262144) (B:=1099511627776) aa aa r x (HM.out.ent r hr) zub;have hrl:=HM.out.all r hr;omega)
   rw[zsv.1]at hcd;obtain⟨v,hv⟩:=Xz (zh m x);have HVE:=Zh hv;have HCF:=Zh hcf;have HCA:Hid (∀W,Ext wr W->Cq 162 #[.slice A m.length c,.slice XB m.length cx] W fun e w'=>∃Y dy,e= .returned (.slice Y m.length dy)/\Ints w' Y 2 .i64 (zY m x)/\Step W w'):=Zh (fun W hh=>(hca W hh).mono (fun e w'⟨Y,dy,he,hI,_,_,hs⟩=>⟨Y,dy,by rw[he,zal],hI,hs⟩));have HCD:Hid (∀W Y dy,Ext wr W->Ints W Y 2 .i64 (zY m x)->Cq 161 #[.slice XB m.length cx,.slice Y m.length dy] W (zA W (.tuple #[.int .i64 v,.bool true]))):=Zh (fun W Y dy hh hY=>(hcd W Y dy hh hY).mono (fun e w'⟨he,hs⟩=>⟨by
    have e1:zx x (zY m x)=zh m x:=rfl;rw[he,e1,hvx.nb,hv];rfl,hs⟩))
   have HCC:Hid (∀W,Ext wr W->Cq 216 #[.slice XB m.length cx] W fun e w'=>∃Z dz,e= .returned (.tuple #[.slice Z m.length dz,.bool true])/\Ints w' Z 2 .i64 (zJ x)/\m.length<=dz/\dz<=9223372036854775807/\Step W w'):=Zh (fun W hh=>(hcc W hh).mono (fun e w'⟨hh2,hs⟩=>by
    rcases hh2 with ⟨_,Z,dz,he,hI,z1,z2⟩|⟨hf,_⟩
    ·exact⟨Z,dz,by rw[he,zsv.1],hI,by rw[<-zsv.1];exact z1,z2,hs⟩
    ·rw[hvx.cb]at hf;cases hf))
   have HFT:=Zh zsv;obtain⟨s1,s2,s3,s4,s5⟩:=zN hst;have HST:=Zh hst;have oS:Old w1.heap.size wr:=⟨s5⟩;clear hcf hca hcc hcd hvx zsv zub hxe hst e2 hv;go_wp2_with (first
    |(go_at_call 154;refine(HCF.out _ Zi).mono ?_;rintro e w' ⟨rfl,rfl⟩)
    |(go_at_call 162;refine(HCA.out _ Zi).mono ?_;rintro e w2 ⟨Y,dy,rfl,hY,hs2⟩)
    |(go_at_call 161;refine(HCD.out _ Y dy Zi hY).mono ?_;rintro e w3 ⟨rfl,hs3⟩)
    |(go_at_call 216;refine(HCC.out _ Zi).mono ?_;rintro e w4 ⟨Z,dz,rfl,hZ,z1,z2,hs4⟩)
    |(at_builtin;refine Zp _ rfl _ _ 255 rfl (w1.heap.size+1) 259 (.agg #[.int .i64 0,.slice none 0 0]) 2 32 Tryz.underlying255 zlV rfl aa aa B k cb _ rfl (zsq.ext Zi) _ 1 1 [.int .i64 v,.slice Z m.length dz] rfl (Arr.new w4 259 #[.int .i64 v,.slice Z m.length dz]) af (by simp[Value.oneCell']) aa (by have:=hs4.size;have:=hs3.size;have:=hs2.size;simp at*;omega) ?_;intro A5 d5 w5 zwR hg5;have hb5:=hg5.heap (zg (Zi:Ext wr (w4.alloc (Obj.cells #[Value.int .i64 v,Value.slice Z m.length dz] 259))) HST.out) ac;obtain⟨q1,q2,q3,q4,q5⟩:=zN hb5;have HB5:=Zh hb5;clear hb5))
   have hoS:=Oth.set (p:=⟨w1.heap.size,0,none⟩) HB5.out (.slice A5 (k+1) d5);have hxw:Ext wr (w4.alloc (Obj.cells #[Value.int .i64 v,Value.slice Z m.length dz] 259)):=Zi;have hft:=HFT.out.1;refine⟨⟨k+1,A5,d5,els++[⟨v,Z,dz,zJ x⟩],aa,by go_num,zbW HB5.out,?_,?_,Zh (fun h0=>absurd h0 aa),?_⟩,by simp[intOf]<;>omega⟩
   ·rw[zlX];dsimp only;rw[JV,hft];exact zwR.oth hoS ac
   ·refine Zh (HE.out.snoc HXE.out HVE.out aa aa z2 (fun y hy=>⟨((hy.1.ext hxw).grow hg5 ac).oth hoS ac,hy.2⟩) ?_);exact((hZ.ext Zi).grow hg5 ac).oth hoS ac
   ·exact(hg5.ext (Ext.trans hxr hxw) (Nat.le_succ _)).setCell (p:=⟨w1.heap.size,0,none⟩) Zr _
  ·obtain rfl:k=q:=aa
   clear hlt;have htk:ls.take k=ls:=List.take_of_length_le (by have:=HQ.out;omega);rw[htk]at HE;have hel:els.length=k:=by rw[HE.out.len,<-HQ.out]
   clear htk;have hsc:=zlY hst zsq hel aa HE.out.ok (HE.out.distinct HND.out) HB0.out hxr;have HSC:=Zh hsc;have hmk:=ZH (P:=Tryz.prog) Tryz.underlying25 qe aa (k:Int) aa aa;clear hsc hst;go_wp2_with (go_at_call 217;refine HSC.out.mono ?_;clear HSC;rintro e w6 ⟨rfl,els',hp,hso,hok,zuM,ztw,hx6⟩;obtain⟨t1,t2,t3,t4,t5⟩:=zN zuM;have HP:=Zh hp;have HSO:=Zh hso;have HOK:=Zh hok;have zrl:=Zh ztw;have zso:=Zh zuM;clear hp hso hok ztw zuM;have oS6:Old w1.heap.size w6:=⟨t5⟩)
   have zvw:els'.length=k:=by rw[HP.out.length_eq,hel]
   have zrs:=Zh zvw;have zwS:Ext w w6:=Ext.trans hs1.ext hx6;clear zvw zsq hel;go_loopw [14,15,67] (fun _ _ i wr=>∃(j:Nat) (hd:List Value),j<=k/\i= .int .i64 j/\VRow wr w6.heap.size 34 hd/\Hid (hd.length=k)/\Hid (∀i,i<j->∃x,els'[i]? =some x/\hd[i]? =some (.slice x.A x.l.length x.c))/\Ext w6 wr) (fun _ _ i _=>k-(intOf i).toNat)
   case atStart=>
    refine⟨0,_,aa,rfl,VRow.new w6 _ _,Zh ?_,Zh (fun i hi=>absurd hi aa),Zi⟩;exact JP _ _
   case round=>
    obtain⟨j,hd,hj,rfl,hV,HHL,HHD,hxj⟩:=hrel;by_cases hlt:j<k
    ·obtain⟨x,hx⟩:∃x,els'[j]? =some x:=⟨_,Ze (by have:=zrs.out;omega)⟩;obtain⟨g,rfl,zsr⟩:=zrl.out aa;obtain⟨c1,c2,c3⟩:=(zsr.ext hxj).cells hx;obtain⟨u0,hu0⟩:∃u0,hd[j]? =some u0:=⟨_,Ze (by have:=HHL.out;omega)⟩;have r1:=hV.cell hu0;have r2:=hV.frozen j;have r3:=hV.lt;have HX:=Zh hx;have oG:Old g wr:=⟨c3⟩;have oR:Old w6.heap.size wr:=⟨r3⟩;clear hx hu0;go_wp2;have hhl:=HHL.out;refine⟨⟨j+1,hd.set j (.slice x.A x.l.length x.c),aa,by go_num,?_,Zh (by rw[List.length_set];exact HHL.out),Zh (fun i hi=>?_),?_⟩,by simp[intOf]<;>omega⟩
     ·exact(hV.set j _).ext Zi
     ·rcases Zl i j with h'|h'
      ·obtain⟨y,y1,y2⟩:=HHD.out i h';exact⟨y,y1,by rw[List.getElem?_set_ne aa];exact y2⟩
      ·obtain rfl:i=j:=aa
       exact⟨x,HX.out,by rw[List.getElem?_set_self aa]⟩
     ·exact Ext.trans (hxj.setCell (p:=⟨w6.heap.size,j,none⟩) Zr (.slice x.A x.l.length x.c)) Zi
    ·obtain rfl:j=k:=aa
     clear hlt;go_wp2;go_ret2
     have hml:(els'.map KE.l).length=j:=by rw[List.length_map];exact zrs.out
     refine⟨some ⟨w6.heap.size,0,none⟩,j,els'.map KE.l,by rw[hml];rfl,?_,aa,aa,?_,?_,(zwS.trans hxj).toStep⟩
     ·refine⟨hd,by rw[hml];exact HHL.out,hV.arr,fun i r hr=>?_⟩;have hi:i<j:=by
       have:=(Zg.1 hr).1;omega
      obtain⟨x,hx,hh⟩:=HHD.out i hi;rw[getElem?_map,hx]at hr;simp at hr;subst hr;have zwT:=HOK.out x (Zm hx);have zsB:=HE.out.cap x (HP.out.mem_iff.1 (Zm hx));exact⟨x.A,x.c,hh,zwT.1.ext hxj,zsB.1,zsB.2⟩
     ·rw[<-HE.out.lsE];exact HP.out.map _
     ·rw[List.pairwise_map];refine List.Pairwise.imp_of_mem ?_ HSO.out;intro x y hx hy hxy;have key:∀z∈els',z.key=zh m z.l:=fun z hz=>by
       have hz':=HP.out.mem_iff.1 hz;obtain⟨i,hi,rfl⟩:=List.getElem_of_mem hz';have a1:=congrArg (fun t=>t[i]?) HE.out.lsE;have a2:=congrArg (fun t=>t[i]?) HE.out.keyE;simp only[getElem?_map,Ze hi]at a1 a2
       cases hq:ls[i]? with
       |none=>rw[hq]at a1;cases a1
       |some y=>
        rw[hq]at a1 a2;simp at a1 a2;rw[a1,a2,JU]
      show qs (zh m x.l) (zh m y.l) x.l y.l<0;rw[<-key x hx,<-key y hy];exact hxy
def qU(h za:Int)(exact:Bool)(k:Nat):List (List Int):=((List.range k).filter fun(i:Nat)=>!exact||decide (h*((i:Int)+1)*((i:Int)+1)=za)).map fun(i:Nat)=>[(i:Int)+1]
theorem zl0(h za:Int)(exact:Bool)(k:Nat)(hh:(!exact||decide (h*((k:Int)+1)*((k:Int)+1)=za))=true):qU h za exact (k+1)=qU h za exact k++[[(k:Int)+1]]:=by
 simp only[qU,range_succ,List.filter_append,map_append,List.filter_cons,hh,if_true,List.filter_nil,map_cons,List.map_nil]
theorem zl1(h za:Int)(exact:Bool)(k:Nat)(hh:(!exact||decide (h*((k:Int)+1)*((k:Int)+1)=za))=false):qU h za exact (k+1)=qU h za exact k:=by
 simp[qU,range_succ,List.filter_append,hh]
def zbb(w:World)(m:List (List Int))(e:Ending)(w':World):Prop:=∃A c,e= .returned (.slice A m.length c)/\Mat64 w' A m/\m.length<=c/\c<=9223372036854775807/\Step w w'
structure MOwn(w:World)(ze:Nat)(A:Option Addr)(n c:Nat)(m:List (List Int))(vs:List Value):Prop where
 own:Own w ze 34 1 A n c vs
 len:m.length=n
 row:∀(i:Nat)(r:List Int),m[i]? =some r->∃B c,vs[i]? =some (.slice B r.length c)/\Ints w B 2 .i64 r/\r.length<=c/\c<=9223372036854775807
theorem MOwn.nil(w:World)(ze:Nat):MOwn w ze none 0 0 [] []:=⟨Own.nil _ _ _ _,rfl,fun i r hr=>by simp at hr⟩
theorem MOwn.mat(h:MOwn w ze A n c m vs):Mat64 w A m:=
 ⟨vs,by have:=h.own.len;rw[h.len];omega,h.own.arr,h.row⟩
theorem MOwn.ext(h:MOwn w ze A n c m vs)(hx:Ext w w'):MOwn w' ze A n c m vs:=
 ⟨h.own.ext hx,h.len,fun i r hr=>by obtain⟨B,d,a,b,e⟩:=h.row i r hr;exact⟨B,d,a,b.ext hx,e⟩⟩
theorem MOwn.snoc(h:MOwn w ze A n c m vs)(hx:Ext w W)(hg:Grow ze 34 W w')(ho:Own w' ze 34 1 A' (n+1) c' (vs++[.slice B r.length d]))(hr:Ints W B 2 .i64 r)(h1:r.length<=d)(h2:d<=9223372036854775807):MOwn w' ze A' (n+1) c' (m++[r]) (vs++[.slice B r.length d]):=by
 have hvl:vs.length=m.length:=by have:=h.own.len;rw[h.len];omega
 refine⟨ho,by simp[h.len],fun i x hx'=>?_⟩;rcases Zl i m.length with hi|hi
 ·rw[getElem?_append_left hi]at hx';obtain⟨B1,d1,a,b,e⟩:=h.row i x hx';exact⟨B1,d1,by rw[getElem?_append_left aa];exact a,(b.ext hx).grow hg ac,e⟩
 ·have hi':i=m.length:=by
   have:=(Zg.1 hx').1;simp at this;omega
  subst hi';have:x=r:=by simpa using hx'.symm
  subst this;exact⟨B,d,by rw[List.getElem?_append_right aa,hvl];simp,hr.grow hg ac,h1,h2⟩
theorem zl2{h za:Int}{exact:Bool}(r:Nat)(h1:1<=h)(hr:r<=1073741824)(hin:∀x:Int,1<=x->x<=r->h*x*x<=za)(ztF:za<h*((r:Int)+1)*((r:Int)+1))(zsv:h*((r:Int)+1)*((r:Int)+1)<=9223372036854775807)(zx2:h*((r:Int)+1)<=9223372036854775807):
  Cq 218 #[.int .i64 h,.int .i64 za,.bool exact] w (zbb w (qU h za exact r)):=by
 go_enter Tryz.func218,Tryz.ntmps218;go_wp2;go_loopw [7,8] (fun s7 s8 wr=>∃(k:Nat) (x:Int) (n:Nat) (B:Option Addr) (c:Nat) (vs:List Value),k<=r/\Hid (x=(k:Int)+1)/\1<=x/\x<=1073741825/\s8= .int .i64 x/\s7= .slice B n c/\n<=k/\MOwn wr w.heap.size B n c (qU h za exact k) vs/\Ext w wr) (fun _ s8 _=>(r+1-(intOf s8).toNat))
 case atStart=>exact⟨0,1,0,none,0,[],aa,Zh rfl,aa,aa,rfl,rfl,aa,MOwn.nil _ _,Zi⟩
 case round=>
  obtain⟨k,x,n,B,c,vs,hk,HX,hx1,hx2,rfl,rfl,hnk,hM,hxr⟩:=hrel;have hxk:=HX.out;obtain⟨p,hp⟩:=Xz (h*x);obtain⟨s,hs⟩:=Xz (p*x);have hp0:0<=p:=by rw[hp];exact Int.mul_nonneg aa aa
  have hs0:0<=s:=by rw[hs];exact Int.mul_nonneg hp0 aa
  have hp1:p<=9223372036854775807:=by
   have:h*x<=h*((r:Int)+1):=Int.mul_le_mul_of_nonneg_left aa aa;omega
  have hs1:s<=9223372036854775807:=by
   have a1:h*x<=h*((r:Int)+1):=Int.mul_le_mul_of_nonneg_left aa aa;have a2:p*x<=h*((r:Int)+1)*((r:Int)+1):=by
    rw[hp];exact Int.mul_le_mul a1 aa aa aa
   omega
  have hps:=hp.symm;have hss:=hs.symm;have HS:Hid (h*((k:Int)+1)*((k:Int)+1)=s):=Zh (by rw[hs,hp,hxk]);by_cases hlt:k<r
  ·have hsb:s<=za:=by
    have:=hin x hx1 aa;rw[<-hp,<-hs]at this;exact this
   by_cases zsH:(!exact||decide (s=za))=true
   ·have HC:=Zh (zl0 h za exact k (by rw[HS.out];exact zsH));have zua:(exact=false)∨(exact=true/\(s==za)=true):=by
     cases exact
     ·exact .inl rfl
     ·simp at zsH;exact .inr ⟨rfl,by simp[zsH]⟩
    have hex:Ints (wr.alloc (.cells #[.int .i64 x] 2)) (some ⟨wr.heap.size,0,none⟩) 2 .i64 [x]:=Arr.new wr 2 #[.int .i64 x];have HEX:=Zh hex;have zsA:Arr ((wr.alloc (.cells #[.int .i64 x] 2)).alloc (.cells #[.slice (some ⟨wr.heap.size,0,none⟩) 1 1] 34)) (some ⟨wr.heap.size+1,0,none⟩) 34 [.slice (some ⟨wr.heap.size,0,none⟩) 1 1]:=by
     have:=Arr.new (wr.alloc (.cells #[.int .i64 x] 2)) 34 #[.slice (some ⟨wr.heap.size,0,none⟩) 1 1];rwa [World.size_alloc]at this
    clear hp hs hxk zsH hex;rcases zua with rfl|⟨rfl,hse⟩
    all_goals
     go_wp2_with (at_builtin;refine Zp _ rfl _ _ 25 rfl w.heap.size 34 (.slice none 0 0) 1 24 Tryz.underlying25 qe rfl aa aa B n c vs rfl (hM.own.ext Zi) _ 1 1 [.slice (some ⟨wr.heap.size,0,none⟩) 1 1] rfl zsA af (by simp[Value.oneCell']) aa (by have:=hxr.size;simp;omega) ?_;intro A4 d4 w4 zsW hg4)
     refine⟨⟨k+1,x+1,n+1,A4,d4,vs++[.slice (some ⟨wr.heap.size,0,none⟩) 1 1],aa,Zh (by have:=HX.out;omega),aa,by have:=HX.out;omega,rfl,rfl,aa,?_,?_⟩,by have:=HX.out;simp[intOf];omega⟩
     ·rw[HC.out,<-HX.out];exact hM.snoc (r:=[x]) (d:=1) Zi hg4 zsW (HEX.out.ext Zi) af aa
     ·exact hg4.ext Zi Zr
   ·have zwU:exact=true/\(s==za)=false:=by
     cases exact
     ·simp at zsH
     ·simp at zsH;exact⟨rfl,by simp[zsH]⟩
    have HC:=Zh (zl1 h za exact k (by rw[HS.out];simpa using zsH));clear hp hs hxk zsH;obtain⟨rfl,hse⟩:=zwU;go_wp2;refine⟨⟨k+1,x+1,n,B,c,vs,aa,Zh (by have:=HX.out;omega),aa,by have:=HX.out;omega,rfl,rfl,aa,by rw[HC.out];exact hM,hxr⟩,by have:=HX.out;simp[intOf];omega⟩
  ·have hkr:k=r:=aa
   have hsb:za<s:=by rw[<-HS.out,hkr];exact ztF
   have HKR:=Zh hkr;clear hp hs hxk hkr hlt;go_wp2;go_ret;have zsB:=hM.own.cap;rw[<-HKR.out];have hml:=hM.len;exact⟨B,c,by rw[hml];rfl,hM.mat,aa,aa,Step.of _ _⟩
def zl3(w:World)(m:List (List Int))(e:Ending)(w':World):Prop:=∃A c,e= .returned (.slice A m.length c)/\Mat64X w.heap.size w' A m/\m.length<=c/\c<=9223372036854775807/\Step w w'
def zgq(w:World)(m:List (List Int))(b:Bool)(e:Ending)(w':World):Prop:=∃A c,e= .returned (.tuple #[.slice A m.length c,.bool b])/\Mat64X w.heap.size w' A m/\m.length<=c/\c<=9223372036854775807/\Step w w'
def HeadsX(w:World)(lo G:Nat)(F:Nat->Nat->Int)(zc cols k:Nat):Prop:=
 ∃hd:List Value,VRow w G 34 hd/\hd.length=zc/\(∀i,i<k->∃B,hd[i]? =some (.slice B cols cols)/\ArrX lo w B 2 (((List.range cols).map fun j=>F i j).map (Value.int .i64)))/\∀i,k<=i->i<zc->hd[i]? =some (.slice none 0 0)
theorem HeadsX.made(w:World)(F:Nat->Nat->Int)(zc cols:Nat):HeadsX (w.alloc (.cells (zH #[.slice none 0 0] (zc*1)) 34)) w.heap.size w.heap.size F zc cols 0:=by
 obtain⟨hd,h1,h2,h3,h4⟩:=Heads1.made w F zc cols;exact⟨hd,h1,h2,fun i hi=>absurd hi aa,h4⟩
theorem Cells1.fullX{F:Nat->Int}{cols:Nat}(h:Cells1 w g F cols cols)(hl:lo<=g):ArrX lo w (some ⟨g,0,none⟩) 2 (((List.range cols).map F).map (Value.int .i64)):=fun h0=>by
 have h1:=h.1;rw[Nat.sub_self]at h1;simp only[List.replicate_zero,List.append_nil]at h1;exact⟨g,0,_,(0,0),rfl,hl,h1,fun j u hu=>by simpa using hu⟩
theorem VRow.arrX{e:TypeId}(h:VRow w g e vs)(hl:lo<=g):ArrX lo w (some ⟨g,0,none⟩) e vs:=fun _=>⟨g,0,_,_,rfl,hl,h,fun j u hu=>by simpa using hu⟩
theorem Mat64X.lower{lo':Nat}(h:Mat64X lo w A L)(hl:lo'<=lo):Mat64X lo' w A L:=by
 obtain⟨vs,h1,h2,h3⟩:=h;refine⟨vs,h1,h2.lower hl,fun i r hr=>?_⟩;obtain⟨B,c,a,b,e⟩:=h3 i r hr;exact⟨B,c,a,b.lower hl,e⟩
set_option maxRecDepth 10000 in
theorem zl4(f:FuncId)(caps:Array Value)(zc cols:Nat)(h1:zc<=1000000)(h2:cols<=1000000)(hf:qB f)(F:Nat->Nat->Int)
  (H:∀(i j:Nat)(W:World),i<zc->j<cols->Ext w W->Cq f (#[.int .i64 i,.int .i64 j]++caps) W (zA W (.int .i64 (F i j)))):
  Cq 296 #[.int .i64 zc,.int .i64 cols,.func (.func f) #[] caps] w (zl3 w (tab F zc cols)):=by
 have hmk:=ZH (P:=Tryz.prog) Tryz.underlying25 qe aa (zc:Int) aa aa;have zs0:=ZH (P:=Tryz.prog) Tryz.underlying34 qb aa (cols:Int) aa aa;have HH:=Zh H;have HF:=Zh hf;clear H hf;go_enter Tryz.func296,Tryz.ntmps296;go_wp2;go_loopw [8,9,14] (fun _ _ i wr=>∃k:Nat,k<=zc/\i= .int .i64 k/\HeadsX wr w.heap.size w.heap.size F zc cols k/\Ext w wr) (fun _ _ i _=>zc-(intOf i).toNat)
 case atStart=>exact⟨0,aa,rfl,by simpa[Value.cells] using HeadsX.made w F zc cols,Zi⟩
 case round=>
  obtain⟨k,hk,rfl,hH,hxr⟩:=hrel;by_cases zsM:k<zc
  ·obtain⟨hd,v1,v2,v3,v4⟩:=hH;have hc1:=v1.cell (v4 k Zr zsM);have hc2:=v1.frozen k;have hsz:=v1.lt;obtain⟨wo,rfl⟩:∃wo:World,wo=wr:=⟨_,rfl⟩;have V2:=Zh v2;have V3:=Zh v3;have V4:=Zh v4;clear v2 v3 v4;go_wp2;go_loopw [9,27] (fun _ j wr=>∃q:Nat,q<=cols/\j= .int .i64 q/\Grow w.heap.size 34 wo wr/\VRow wr w.heap.size 34 (hd.set k (.slice (some ⟨wo.heap.size,0,none⟩) cols cols))/\Cells1 wr wo.heap.size (F k) cols q/\Ext w wr) (fun _ j _=>cols-(intOf j).toNat)
   case atStart=>
    refine⟨0,aa,rfl,?_,?_,?_,?_⟩
    ·exact((Grow.refl _ _ _).setOld (p:=⟨w.heap.size,k,none⟩) v1 Zr rfl _).alloc hxr.size _
    ·exact(v1.set _ _).ext Zi
    ·have:=Cells1.made (wo.setCell ⟨w.heap.size,k,none⟩ (.slice (some ⟨wo.heap.size,0,none⟩) cols cols)) (F k) cols;rw[ZE,Nat.mul_one]at this;exact this
    ·exact Zi
   case round=>
    obtain⟨q,hq,rfl,hG,hV,hC,hxq⟩:=hrel;by_cases hlt:q<cols
    ·have hkl:k<hd.length:=by have:=V2.out;omega
     have zsr:wr.cell? ⟨w.heap.size,k,none⟩=some (.slice (some ⟨wo.heap.size,0,none⟩) cols cols):=hV.cell (by rw[List.getElem?_set_self hkl]);obtain⟨c1,c2,c3⟩:=hC.cells hlt;go_wp2;have hcf:=HF.out;unfold qB at hcf;have hne:w.heap.size≠wo.heap.size:=aa
     have ztm:(hd.set k (.slice (some ⟨wo.heap.size,0,none⟩) cols cols))[k]? =some (.slice (some ⟨wo.heap.size,0,none⟩) cols cols):=by rw[List.getElem?_set_self hkl]
     have HN:=Zh hne;have HS:=Zh ztm;clear hne ztm;go_region_held3 (fun w'=>w'.cell? ⟨w.heap.size,k,none⟩=some (.slice (some ⟨wo.heap.size,0,none⟩) cols cols))
      (first
       |exact(hV.ext Zi).cell HS.out
       |exact((hV.ext Zi).far (p:=⟨wo.heap.size,q,none⟩) HN.out _).cell HS.out)
      (first
       |(refine(HH.out _ _ _ zsM hlt Zi).mono ?_;rintro e w2 ⟨rfl,hs2⟩;obtain⟨d1,d2,d3⟩:=(hC.ext (Zi:Ext wr w2)).cells hlt))
     go_wp2;refine⟨⟨q+1,aa,by go_num,?_,?_,?_,?_⟩,by simp[intOf]<;>omega⟩
     ·exact(hG.trans (Zi:Ext wr w2) hxr.size).setNew (p:=⟨wo.heap.size,q,none⟩) Zr hxr.size _
     ·exact(hV.ext (Zi:Ext wr w2)).far (p:=⟨wo.heap.size,q,none⟩) HN.out _
     ·exact(hC.ext (Zi:Ext wr w2)).put hlt
     ·exact(Zi:Ext w w2).setCell (p:=⟨wo.heap.size,q,none⟩) hxr.size _
    ·obtain rfl:q=cols:=aa
     have ztr:=hC.fullX hxr.size;go_wp2;refine⟨⟨k+1,aa,by go_num,⟨_,hV,by rw[List.length_set];exact V2.out,fun i hi=>?_,fun i hi1 hi2=>?_⟩,hxq⟩,by simp[intOf]<;>omega⟩
     ·have hkl:k<hd.length:=by have:=V2.out;omega
      rcases Zl i k with h|h
      ·obtain⟨B,b1,b2⟩:=V3.out i h;exact⟨B,by rw[List.getElem?_set_ne aa];exact b1,b2.oth (Oth.of_grow hG) ac⟩
      ·obtain rfl:i=k:=aa
       exact⟨_,by rw[List.getElem?_set_self hkl],ztr⟩
     ·rw[List.getElem?_set_ne aa];exact V4.out i aa hi2
  ·obtain rfl:k=zc:=aa
   have HHd:=Zh hH;clear hH;go_wp2;go_ret;obtain⟨hd,v1,v2,v3,v4⟩:=HHd.out;refine⟨_,k,by rw[zr];rfl,⟨hd,by rw[v2,zr],v1.arrX Zr,fun i r hr=>?_⟩,by rw[zr];omega,aa,hxr.toStep⟩;have hi:i<k:=by
    rcases Zl i k with hi|hi
    ·exact hi
    ·rw[List.getElem?_eq_none (by rw[zr];exact hi)]at hr;cases hr
   rw[QT _ _ _ _ hi]at hr;injection hr with hr
   subst hr;obtain⟨B,b1,b2⟩:=v3 i hi;exact⟨B,cols,by simpa using b1,b2,af,aa⟩
theorem zl5(h:MatV w0 A m)(n:Nat)(h1:1<=m.length)(h2:m.length<=16)(h3:1<=n)(h4:n<=16)(hn:AllLen m n)(h64:qf m)[hx:Ext w0 w]:
  Cq 258 #[.slice A m.length c] w (zgq w m true):=by
 have hb:=zl4 (w:=(w.alloc (.cells #[.slice A m.length c] 48)).alloc (.cells #[.bool true] 4)) 297 #[.pointer (some ⟨w.heap.size,0,none⟩),.pointer (some ⟨w.heap.size+1,0,none⟩)] m.length n aa aa zkF (fun i j=>(m.getD i []).getD j 0)
  (fun i j W hi hj hW=>by
   have hr:m[i]? =some m[i]:=af
   have hl:m[i].length=n:=hn _ (getElem_mem hi);have hxj:m[i][j]? =some (m[i][j]'aa):=af
   have zsv:=h64 m[i] (getElem_mem hi) _ (getElem_mem (aa:j<m[i].length));have e1:(m.getD i []).getD j 0=m[i][j]'aa:=by simp[List.getD,hi,hxj]
   rw[e1];have hW1:Ext (w.alloc (.cells #[.slice A m.length c] 48)) W:=Ext.trans Zi hW;obtain⟨-,a1,a2,a3⟩:=za0 w W w.heap.size (.slice A m.length c) 48 rfl;obtain⟨-,b1,b2,b3⟩:=za0 (w.alloc (.cells #[.slice A m.length c] 48)) W (w.heap.size+1) (.bool true) 4 af;have:Ext w W:=Ext.trans Zi hW;have:Ext w0 W:=hx.trans this;exact zkE h i j m[i] _ hr hxj zsv.1 zsv.2 a1 b1 b3 b2)
 rw[Jl m n hn]at hb;have HB:=Zh hb;clear hb;go_enter Tryz.func258,Tryz.ntmps258;go_wp2_with fail
 refine(zdi h n h1 h2 h3 h4 hn).mono ?_;rintro e w' ⟨rfl,rfl⟩;go_wp2_with fail
 refine HB.out.mono ?_;rintro e w2 ⟨A2,c2,rfl,hm,hc1,hc2,hs2⟩;obtain⟨-,b1,b2,b3⟩:=za0 (w.alloc (.cells #[.slice A m.length c] 48)) w2 (w.heap.size+1) (.bool true) 4 af;go_wp2;go_ret2
 exact⟨A2,c2,rfl,hm.lower (by simp;omega),hc1,hc2,Step.of _ _⟩
structure Grew(A A':Option Addr)(w w':World):Prop where
 block:∀k,k<w.heap.size->(∀a,A=some a->a.block≠k)->w'.heap[k]? =w.heap[k]?
 own:∀a',A'=some a'->(∃a,A=some a/\a.block=a'.block)∨w.heap.size<=a'.block
 size:w.heap.size<=w'.heap.size
theorem Grew.refl(A:Option Addr)(w:World):Grew A A w w:=⟨fun _ _ _=>rfl,fun a h=> .inl ⟨a,h,rfl⟩,Zr⟩
def ArrN(X:Option Addr)(w:World)(A:Option Addr)(e:TypeId)(vs:List Value):Prop:=
 0<vs.length->∃(b o:Nat) (cs:Array Value) (fr:Nat×Nat),A=some ⟨b,o,none⟩/\(∀a,X=some a->a.block≠b)/\w.heap[b]? =some (.cells cs e fr)/\∀(j:Nat)(u:Value),vs[j]? =some u->cs[o+j]? =some u
section
variable {X X' A:Option Addr} {w w':World} {e T:TypeId} {vs:List Value}
theorem ArrN.arr(h:ArrN X w A e vs):Arr w A e vs:=fun h0=>by
 obtain⟨b,o,cs,fr,rfl,_,hb,hc⟩:=h h0;exact⟨b,o,cs,fr,rfl,hb,hc⟩
theorem ArrN.ext(h:ArrN X w A e vs)(hx:Ext w w'):ArrN X w' A e vs:=fun h0=>by
 obtain⟨b,o,cs,fr,rfl,h1,hb,hc⟩:=h h0;exact⟨b,o,cs,fr,rfl,h1,zg hx hb,hc⟩
theorem ArrN.oth(h:ArrN X w A e vs)(ho:Oth T w w')(hn:e≠T):ArrN X w' A e vs:=fun h0=>by
 obtain⟨b,o,cs,fr,rfl,h1,hb,hc⟩:=h h0;exact⟨b,o,cs,fr,rfl,h1,ho _ _ _ _ hn hb,hc⟩
theorem ArrN.grew(h:ArrN X w A e vs)(hg:Grew X X' w w'):ArrN X' w' A e vs:=fun h0=>by
 obtain⟨b,o,cs,fr,rfl,h1,hb,hc⟩:=h h0;refine⟨b,o,cs,fr,rfl,fun a' ha'=>?_,(hg.block b (zi hb) h1).trans hb,hc⟩;rcases hg.own a' ha' with ⟨a,ha,hab⟩|hle
 ·rw[<-hab];exact h1 a ha
 ·have:=zi hb;omega
theorem ArrX.arrN(h:ArrX lo w A e vs)(hX:∀a,X=some a->a.block<lo):ArrN X w A e vs:=fun h0=>by
 obtain⟨b,o,cs,fr,rfl,h1,hb,hc⟩:=h h0;exact⟨b,o,cs,fr,rfl,fun a ha=>by have:=hX a ha;omega,hb,hc⟩
theorem Own.blockLt{size:Nat}{xs:List Value}(h:Own w ze e size A n c xs):∀a,A=some a->a.block<w.heap.size:=fun a ha=>by
 rcases h.2 with ⟨hv,_⟩|⟨g,cap,cur,hv,_,h2,_⟩
 ·injection hv with hA;rw[hA]at ha;cases ha
 ·injection hv with hA;rw[hA]at ha;injection ha with ha;subst ha;exact zi h2
end
section
variable {P:Program} (w:World)
theorem zdJ(ze:Nat)(t ty e:TypeId)(z:Value)(size bytes:Nat)(ht:P.underlying t=some (.slice e))(hi:(P.info? e).map (fun i=>(i.zero,i.size,i.bytes))=some (some z,size,bytes))
  (hzs:z.cells.size=size) (hsz:0<size) (hb:bytes<=128)
  (A:Option Addr) (n c:Nat) (xs:List Value) (zsq:Own w ze e size A n c xs)
  (ad:Addr) (m c':Nat) (news:List Value) (zsA:Arr w (some ad) e news) (hl:news.length=m*size) (h1:∀u∈news,u.oneCell'=true)
  (h63:n+m<=1099511627776) (zsK:ze<=w.heap.size):
  ∃A1 c1 w',(Builtin.append_ #[t,t] ty #[.slice A n c,.slice (some ad) m c']).run P w= .ok (.slice A1 (n+m) c1) w'/\Own w' ze e size A1 (n+m) c1 (xs++news)/\Grow ze e w w'/\Grew A A1 w w':=by
 obtain⟨i,hi1,hz,hs,hby⟩:=info_parts hi;have zuB:(n+m)*bytes<=140737488355328:=by
  have:(n+m)*bytes<=(n+m)*128:=Nat.mul_le_mul_left _ hb;omega
 have key:∀(v':Value)(w':World),w'.ownsRow ze e size v' (n+m) (xs++news)->∃A1 c1,v'= .slice A1 (n+m) c1:=by
  intro v' w' h;rcases h.2 with ⟨rfl,hn⟩|⟨g,cap,cur,rfl,_⟩
  ·exact⟨none,0,by rw[hn]⟩
  ·exact⟨_,cap,rfl⟩
 have ztB:∀j u,news[j]? =some u->w.cell? (ad.add j)=some u:=by
  intro j u hu;obtain⟨b,o,h,hc,_⟩:=zsA.at_ hu;injection h with h
  subst h;have:(⟨b,o,none⟩:Addr).add j=⟨b,o+j,none⟩:=by
   unfold Addr.add;split
   ·simp_all
   ·rfl
  rw[this];exact hc
 obtain⟨v',w',zsV,h2,h3,_,h5⟩:=run_append_own_at (P:=P) w ze t ty e i z size bytes ht hi1 hz hs hby hzs hsz _ n xs zsq ad m c' news hl ztB h1 (by simp only[maxLen];omega) zuB zsK;obtain⟨A1,c1,rfl⟩:=key _ _ h2;refine⟨A1,c1,w',zsV,h2,zfh zsq h3 zsK,fun k hk hne=>h3.block k hk (fun hh=>?_),fun a' ha'=>?_,h3.size⟩
 ·cases A with
  |none=>simp[Value.ownBlock]at hh
  |some a=>simp[Value.ownBlock]at hh;exact hne a rfl hh.symm
 ·subst ha';rcases h5 with h5|h5
  ·cases A with
   |none=>simp[Value.ownBlock]at h5
   |some a=>simp[Value.ownBlock]at h5;exact .inl ⟨a,rfl,h5.symm⟩
  ·simp[Value.ownBlock]at h5;exact .inr aa
theorem zgr{ops:Array Oper}{o:Oper}{a:Act}{K:Act->World->Prop}{Q:Exit->Act->World->Prop}{E:Prop}(hgd:o.guard=none)(s x:Operand)(t:TypeId)
  (ho:o.op= .call {callee:= .builtin .append,args:=#[s,x],argTypes:=#[t,t]})
  (ze:Nat) (e:TypeId) (z:Value) (size bytes:Nat) (ht:P.underlying t=some (.slice e)) (hi:(P.info? e).map (fun i=>(i.zero,i.size,i.bytes))=some (some z,size,bytes))
  (hzs:z.cells.size=size) (hsz:0<size) (hb:bytes<=128)
  (A:Option Addr) (n c:Nat) (xs:List Value) (hs:a.eval s= .slice A n c) (zsq:Own w ze e size A n c xs)
  (ad:Addr) (m c':Nat) (news:List Value) (hx:a.eval x= .slice (some ad) m c') (zsA:Arr w (some ad) e news) (hl:news.length=m*size) (h1:∀u∈news,u.oneCell'=true)
  (h63:n+m<=1099511627776) (zsK:ze<=w.heap.size)
  (h:∀A1 c1 w',Own w' ze e size A1 (n+m) c1 (xs++news)->Grow ze e w w'->Grew A A1 w w'->K (a.put o.dst (.slice A1 (n+m) c1)) w'):
  if Region.wanted o (yielded ops a.tmps)=true then Oper.wp P o a w K Q else E:=by
 have hw:Region.wanted o (yielded ops a.tmps)=true:=by simp[Region.wanted,hgd]
 rw[if_pos hw];obtain⟨A1,c1,w',zsV,h2,h3,h4⟩:=zdJ (P:=P) w ze t o.type e z size bytes ht hi hzs hsz hb A n c xs zsq ad m c' news zsA hl h1 h63 zsK;unfold Oper.wp execOp;simp only[ho,resolve,invoke,builtin,Sem.run_bind,Sem.run_pure,Result.andThen_ok,List.map_toArray,map_cons,List.map_nil,hs,hx,zsV];exact h A1 c1 w' h2 h3 h4
end
def zav(m:List (List Int)):Prop:=∀k,k<m.length->qf (zm m k).2
def zgs(w:World)(D:List Int)(L:List (List Int))(e:Ending)(w':World):Prop:=∃mA mc lA lc,e= .returned (.agg #[.slice mA D.length mc,.slice lA L.length lc])/\Ints w' mA 2 .i64 D/\Mat64 w' lA L/\D.length<=mc/\mc<=9223372036854775807/\L.length<=lc/\lc<=9223372036854775807/\Step w w'
structure FormI(m:List (List Int))(wr:World)(ze:Nat)(mB lB:Option Addr)(k mc lc:Nat)(vs:List Value):Prop where
 mi:Own wr ze 2 1 mB (k+1) mc ((zl m k).map (Value.int .i64))
 la:Own wr ze 34 1 lB k lc vs
 row:∀i,i<k->∃B c,vs[i]? =some (.slice B (Zv m i).length c)/\ArrN mB wr B 2 ((Zv m i).map (Value.int .i64))/\(Zv m i).length<=c/\c<=9223372036854775807
theorem FormI.ext{lc:Nat}(h:FormI m w ze mB lB k mc lc vs)(hx:Ext w w'):FormI m w' ze mB lB k mc lc vs:=
 ⟨h.mi.ext hx,h.la.ext hx,fun i hi=>by obtain⟨B,c,a,b,e⟩:=h.row i hi;exact⟨B,c,a,b.ext hx,e⟩⟩
theorem zl6(hn:AllLen m m.length)(hk:k<m.length):(zm m k).2[0]? =some (ent (zm m k).2 0 0::Zv m k):=by
 have hl:=ZL m k;have ha:=zag m hn k;have h0:(zm m k).2[0]? =some ((zm m k).2[0]'aa):=af
 have hrl:((zm m k).2[0]'aa).length=m.length-k:=ha _ (getElem_mem _);rw[h0];congr 1
 apply List.ext_getElem?;intro i
 cases i with
 |zero=>rw[List.getElem?_cons_zero,Ze aa,zaf h0 (Ze aa)]
 |succ i=>
  rw[List.getElem?_cons_succ,Zv,getElem?_map];rcases Zl i (m.length-k-1) with hi|hi
  ·rw[List.getElem?_range hi,Ze aa];simp only[Option.map_some];rw[zaf h0 (Ze aa)]
  ·rw[List.getElem?_eq_none aa,List.getElem?_eq_none (by simpa using hi)];rfl
structure FormJ(m:List (List Int))(w2 w5:World)(mB lB:Option Addr)(k mc lc:Nat)(vs:List Value)(bx ox by_ oy r cy:Nat)(e0:Int):Prop where
 st:w5.heap[w2.heap.size+1]? =some (.cells #[.slice mB (k+1+1) mc,.slice lB k lc] 262 (0,0))
 mi:Own w5 w2.heap.size 2 1 mB (k+1+1) mc ((zl m (k+1)).map (Value.int .i64))
 la:Own w5 w2.heap.size 34 1 lB k lc vs
 row:∀i,i<k->∃B c,vs[i]? =some (.slice B (Zv m i).length c)/\ArrN mB w5 B 2 ((Zv m i).map (Value.int .i64))/\(Zv m i).length<=c/\c<=9223372036854775807
 hd:w5.cell? ⟨bx,ox,none⟩=some (.slice (some ⟨by_,oy,none⟩) (r+1) cy)
 bxl:bx<w5.heap.size
 new:ArrN mB w5 (some ⟨by_,oy,none⟩) 2 ((e0::Zv m k).map (Value.int .i64))
 ex:Ext w2 w5
theorem FormI.step1{w4:World}{A4:Option Addr}{lc d4:Nat}{r:Nat}{x1:Value}
  (hI:FormI m wr w2.heap.size mB lB k mc lc vs) (hxw:Ext wr W) (hx2:Ext w2 W) (zsW:Own w4 w2.heap.size 2 1 A4 (k+1+1) d4 ((zl m k).map (Value.int .i64)++[.int .i64 e0])) (hg4:Grow w2.heap.size 2 W w4) (ztX:Grew mB A4 W w4) (he0:e0=ent (zm m k).2 0 0)
  (hB4:w4.heap[w2.heap.size+1]? =some (.cells #[x1,.slice lB k lc] 262 (0,0))) (hX:∃cs fr,W.heap[bx]? =some (.cells cs 34 fr)/\cs[ox]? =some (.slice (some ⟨by_,oy,none⟩) (r+1) cy)) (hY:ArrX wr.heap.size W (some ⟨by_,oy,none⟩) 2 ((e0::Zv m k).map (Value.int .i64))):
  FormJ m w2 (w4.setCell ⟨w2.heap.size+1,0,none⟩ (.slice A4 (k+1+1) d4)) A4 lB k d4 lc vs bx ox by_ oy r cy e0:=by
 have hoS:=Oth.set (p:=⟨w2.heap.size+1,0,none⟩) hB4 (.slice A4 (k+1+1) d4);obtain⟨cs,fr,hh,hc⟩:=hX;have hh5:=hoS _ _ _ _ ac (hg4.heap hh ac);refine⟨zbW hB4,?_,((hI.la.ext hxw).grow hg4 ac).oth hoS ac,fun i hi=>?_,by simp[World.cell?,hh5];exact hc,zi hh5,?_,?_⟩
 ·rw[zfO,map_append,<-he0];exact zsW.oth hoS ac
 ·obtain⟨B,c,a,b,e⟩:=hI.row i hi;exact⟨B,c,a,((b.ext hxw).grew ztX).oth hoS ac,e⟩
 ·exact((hY.arrN hI.mi.blockLt).grew ztX).oth hoS ac
 ·exact(hg4.ext hx2 Zr).setCell (p:=⟨w2.heap.size+1,0,none⟩) (Nat.le_succ _) _
theorem FormJ.step2{w5 w6:World}{A6:Option Addr}{lc d6:Nat}{r:Nat} 
  (hJ:FormJ m w2 w5 mB lB k mc lc vs bx ox by_ oy r cy e0) (hxw:Ext w5 W) (zsx:Own w6 w2.heap.size 34 1 A6 (k+1) d6 (vs++[.slice Z r dz])) (hg6:Grow w2.heap.size 34 W w6)
  (hr:(Zv m k).length=r) (hZ:0<r->Z=some ⟨by_,oy+1,none⟩) (hd1:r<=dz) (hd2:dz<=9223372036854775807) (hB6:w6.heap[w2.heap.size+1]? =some (.cells #[.slice mB (k+1+1) mc,.slice lB k lc] 262 (0,0))):
  (w6.setCell ⟨w2.heap.size+1,1,none⟩ (.slice A6 (k+1) d6)).heap[w2.heap.size+1]? =some (.cells #[.slice mB (k+1+1) mc,.slice A6 (k+1) d6] 262 (0,0))/\FormI m (w6.setCell ⟨w2.heap.size+1,1,none⟩ (.slice A6 (k+1) d6)) w2.heap.size mB A6 (k+1) mc d6 (vs++[.slice Z r dz])/\Ext w2 (w6.setCell ⟨w2.heap.size+1,1,none⟩ (.slice A6 (k+1) d6)):=by
 have hoS:=Oth.set (p:=⟨w2.heap.size+1,1,none⟩) hB6 (.slice A6 (k+1) d6);have hvl:vs.length=k:=by have:=hJ.la.len;omega
 refine⟨zaj hB6,⟨((hJ.mi.ext hxw).grow hg6 ac).oth hoS ac,zsx.oth hoS ac,fun i hi=>?_⟩,?_⟩
 ·rcases Zl i k with h|h
  ·obtain⟨B,c,a,b,e⟩:=hJ.row i h;exact⟨B,c,by rw[getElem?_append_left aa];exact a,((b.ext hxw).oth (Oth.of_grow hg6) ac).oth hoS ac,e⟩
  ·obtain rfl:i=k:=aa
   refine⟨Z,dz,by rw[List.getElem?_append_right aa,hvl,hr];simp,fun h0=>?_,by rw[hr];exact hd1,hd2⟩;have h0':0<r:=by simp at h0;omega
   obtain⟨b,o,cs,fr,hA,h1,hb,hc⟩:=((hJ.new.ext hxw).oth (Oth.of_grow hg6) ac).oth hoS ac af;injection hA with hA
   injection hA with x1 x2
   subst x1 x2;refine⟨by_,oy+1,cs,fr,hZ h0',h1,hb,fun j u hu=>?_⟩;have:=hc (j+1) u (by rw[map_cons,List.getElem?_cons_succ];exact hu);rw[(aa:oy+1+j=oy+(j+1))];exact this
 ·exact(hg6.ext (hJ.ex.trans hxw) Zr).setCell (p:=⟨w2.heap.size+1,1,none⟩) (Nat.le_succ _) _
set_option maxRecDepth 10000 in
theorem zl7(h:MatA w0 A m)(h1:1<=m.length)(h8:m.length<=8)(hn:AllLen m m.length)(hF:qf m)(hok:ElimOK m)(h64:zav m)[hx:Ext w0 w]:
  Cq 219 #[.slice A m.length c] w (zgs w (zl m m.length) (zq m m.length)):=by
 have HN:=Zh hn;have HOK:=Zh hok;have HFI:=Zh hF;have H64:=Zh h64;clear hn hok hF h64;go_enter Tryz.func219,Tryz.ntmps219;go_wp2_with (first|(go_at_call 129;refine(zdh h m.length h1 aa h1 aa HN.out HFI.out).mono ?_;rintro e w1 ⟨A1,c1,rfl,hM,k1,k2,hs1⟩)|(go_at_call 257;refine(zfD hM h1 aa HN.out HOK.out).mono ?_;rintro e w2 ⟨A2,c2,rfl,hS,k3,k4,hs2⟩))
 have hsl:(Qp m).length=m.length:=by simp[Qp]
 rw[hsl];have HSL:=Zh hsl;clear hsl;obtain⟨b,o,-,-,-,-,-,-,rfl,-⟩:=StV.rowAt hS HN.out (k:=0) aa;have zs6:((w2.alloc (.cells #[.int .i64 1] 2)).alloc (.cells #[.slice (some ⟨w2.heap.size,0,none⟩) 1 1,.slice none 0 0] 262)).heap[w2.heap.size+1]? =some (.cells #[.slice (some ⟨w2.heap.size,0,none⟩) 1 1,.slice none 0 0] 262 (0,0)):=by
  have:=heap_alloc_new (w2.alloc (.cells #[.int .i64 1] 2)) (.cells #[.slice (some ⟨w2.heap.size,0,none⟩) 1 1,.slice none 0 0] 262);rwa [World.size_alloc]at this
 go_loopw [9,10,11,26] (fun _ _ _ i wr=>∃(k:Nat) (mB lB:Option Addr) (mc lc:Nat) (vs:List Value),k<=m.length/\i= .int .i64 k/\wr.heap[w2.heap.size+1]? =some (.cells #[.slice mB (k+1) mc,.slice lB k lc] 262 (0,0))/\FormI m wr w2.heap.size mB lB k mc lc vs/\Ext w2 wr) (fun _ _ _ i _=>m.length-(intOf i).toNat)
 case atStart=>
  exact⟨0,_,none,_,0,[],aa,rfl,zs6,⟨(Own.new w2 2 1 1 #[.int .i64 1] rfl aa).ext Zi,Own.nil _ _ _ _,fun i hi=>absurd hi aa⟩,Zi⟩
 case round=>
  clear zs6;obtain⟨k,mB,lB,mc,lc,vs,hk,rfl,hst,hI,hxr⟩:=hrel;by_cases hlt:k<m.length
  ·have hsk:(Qp m)[k]? =some (zm m k).2:=by simp[Qp,hlt]
   obtain⟨b',o',B1,c1',hA,e1,hMk,l1,l2,hb⟩:=(hS.ext hxr).at_ hsk;injection hA with hA
   injection hA with x1 x2
   subst x1 x2;have zuc:=ZL m k;have hto:=fun W(hh:Ext wr W)=>zl5 (w:=W) (c:=c1') hMk (m.length-k) aa aa aa aa (zag m HN.out k) (H64.out k hlt)
   rw[zuc]at e1 l1;obtain⟨r,hr⟩:∃r,m.length-k=r+1:=⟨m.length-k-1,aa⟩;rw[hr]at e1 l1;have zvx:∀W,Ext wr W->Cq 258 #[.slice B1 (r+1) c1'] W fun e w'=>∃X cX,e= .returned (.tuple #[.slice X (r+1) cX,.bool true])/\Mat64X W.heap.size w' X (zm m k).2/\r+1<=cX/\cX<=9223372036854775807/\Step W w':=fun W hh=>by
    have:=hto W hh;unfold zgq at this;rw[zuc,hr]at this;exact this
   have HTO:=Zh zvx;have HR:=Zh hr;have zry:=Zh zuc;obtain⟨s1,s2,s3,s4,s5⟩:=zN hst;have HST:=Zh hst;have oS:Old (w2.heap.size+1) wr:=⟨s5⟩;clear hto zvx hr zuc hsk hst;go_wp2_with (go_at_call 258;refine(HTO.out _ Zi).mono ?_;rintro e w3 ⟨X,cX,rfl,hX,x1,x2,hs3⟩)
   obtain⟨vx,v1,v2,v3⟩:=hX;obtain⟨By,cy,y1,y2,y3,y4⟩:=v3 0 _ (zl6 HN.out hlt);obtain⟨bx,ox,rfl,y5,y6,y7⟩:=v2.at_ y1;have zuN:(Zv m k).length=r:=by have:=HR.out;simp[Zv];omega
   obtain⟨e0,he0⟩:=Xz (ent (zm m k).2 0 0);rw[<-he0]at y1 y2 y3 y5;have HE0:=Zh he0;obtain⟨by_,oy,rfl,y8,y9,y10⟩:=y2.at_ (i:=0) (u:= .int .i64 e0) af;simp only[List.length_cons,zuN,Nat.add_zero]at y1 y3 y5 y8;have HY2:=Zh y2;have HLR:=Zh zuN;have hmBl:=hI.mi.blockLt;have HX:Hid (∃cs fr,w3.heap[bx]? =some (.cells cs 34 fr)/\cs[ox]? =some (.slice (some ⟨by_,oy,none⟩) (r+1) cy)):=Zh (by
    obtain⟨bq,oq,cs,fr,hA,_,hh,hc⟩:=v2 (by rw[v1];have:=zry.out;have:=HR.out;omega);injection hA with hA
    injection hA with z1 z2
    subst z1 z2;exact⟨cs,fr,hh,by simpa using hc 0 _ y1⟩)
   have oX:Old bx w3:=⟨y7⟩;have oY:Old by_ w3:=⟨y10⟩;clear v1 v2 v3 he0 zuN y1 y2;go_region_law ((refine zgr _ rfl (.tmp 36) (.tmp 42) 34 rfl w2.heap.size 2 (.int .i64 0) 1 8 Tryz.underlying34 qb rfl ac ac mB (k+1) mc _ (by simp[Act.eval]) (hI.mi.ext Zi) ⟨w3.heap.size,0,none⟩ 1 1 [.int .i64 e0] (by simp[Act.eval]) ((Arr.new w3 2 #[.int .i64 e0]).ext Zi) rfl (by simp[Value.oneCell']) aa (by have:=hxr.size;have:=hs3.size;simp<;>omega) ?_);intro A4 d4 w4 zsW hg4 ztX;have hb4:=hg4.heap (zg (Zi:Ext wr ((w3.alloc (Obj.cells #[Value.int .i64 e0] 2)).drew)) HST.out) ac;obtain⟨q1,q2,q3,q4,q5⟩:=zN hb4;have HB4:=Zh hb4;clear hb4)
   all_goals
    have hJ:=hI.step1 (W:=(w3.alloc (Obj.cells #[Value.int .i64 e0] 2)).drew) (bx:=bx) (ox:=ox) (by_:=by_) (oy:=oy) (r:=r) (cy:=cy) Zi Zi zsW hg4 ztX HE0.out HB4.out (by obtain⟨cs,fr,z1,z2⟩:=HX.out;exact⟨cs,fr,zg (Zi:Ext w3 ((w3.alloc (Obj.cells #[Value.int .i64 e0] 2)).drew)) z1,z2⟩) (HY2.out.ext Zi);generalize w4.setCell ⟨w2.heap.size+1,0,none⟩ (.slice A4 (k+1+1) d4)=w5 at hJ|-
    clear zsW hg4 ztX HB4 q1 q2 q3 q4 q5;obtain⟨t1,t2,t3,t4,t5⟩:=zN hJ.st;have t6:=hJ.hd;have t7:=hJ.bxl;have HJ:=Zh hJ;have oS5:Old (w2.heap.size+1) w5:=⟨t5⟩;have oX5:Old bx w5:=⟨t7⟩;have zvy:Ext w2 w5:=hJ.ex;clear hJ;by_cases hcy:cy=1
    ·obtain rfl:r=0:=aa
     subst hcy;go_wp2_with fail
     go_region_law ((refine QS _ rfl (.tmp 46) (.tmp 51) 25 rfl w2.heap.size 34 (.slice none 0 0) 1 24 Tryz.underlying25 qe rfl ac ac lB k lc vs (by simp[Act.eval]) (HJ.out.la.ext Zi) (some ⟨w5.heap.size,0,none⟩) 1 1 [.slice (some ⟨by_,oy,none⟩) 0 0] (by simp[Act.eval]) ((Arr.new w5 34 #[.slice (some ⟨by_,oy,none⟩) 0 0]).ext Zi) rfl (by simp[Value.oneCell']) aa (by have:=zvy.size;simp<;>omega) ?_);intro A6 d6 w6 zsx hg6;have hb6:=hg6.heap (zg (Zi:Ext w5 ((w5.alloc (Obj.cells #[Value.slice (some ⟨by_,oy,none⟩) 0 0] 34)).drew)) HJ.out.st) ac;obtain⟨q1,q2,q3,q4,q5⟩:=zN hb6;have HB6:=Zh hb6;clear hb6)
     all_goals
      have zst:=HJ.out.step2 (W:=(w5.alloc (Obj.cells #[Value.slice (some ⟨by_,oy,none⟩) 0 0] 34)).drew) Zi zsx hg6 HLR.out (fun h0=>absurd h0 aa) aa aa HB6.out;have HFN:=Zh zst;clear zst;go_wp2;refine⟨⟨k+1,A4,A6,d4,d6,_,aa,by go_num,HFN.out.1,HFN.out.2.1,HFN.out.2.2⟩,by simp[intOf]<;>omega⟩
    ·have zx3:(1:Int)<=(r:Int)+1:=aa
     go_wp2_with fail
     go_region_law ((refine QS _ rfl (.tmp 46) (.tmp 51) 25 rfl w2.heap.size 34 (.slice none 0 0) 1 24 Tryz.underlying25 qe rfl ac ac lB k lc vs (by simp[Act.eval]) (HJ.out.la.ext Zi) (some ⟨w5.heap.size,0,none⟩) 1 1 [.slice (some ⟨by_,oy+1,none⟩) r (cy-1)] (by simp[Act.eval]) ((Arr.new w5 34 #[.slice (some ⟨by_,oy+1,none⟩) r (cy-1)]).ext Zi) rfl (by simp[Value.oneCell']) aa (by have:=zvy.size;simp<;>omega) ?_);intro A6 d6 w6 zsx hg6;have hb6:=hg6.heap (zg (Zi:Ext w5 ((w5.alloc (Obj.cells #[Value.slice (some ⟨by_,oy+1,none⟩) r (cy-1)] 34)).drew)) HJ.out.st) ac;obtain⟨q1,q2,q3,q4,q5⟩:=zN hb6;have HB6:=Zh hb6;clear hb6)
     all_goals
      have zst:=HJ.out.step2 (W:=(w5.alloc (Obj.cells #[Value.slice (some ⟨by_,oy+1,none⟩) r (cy-1)] 34)).drew) Zi zsx hg6 HLR.out (fun _=>rfl) aa aa HB6.out;have HFN:=Zh zst;clear zst;go_wp2;refine⟨⟨k+1,A4,A6,d4,d6,_,aa,by go_num,HFN.out.1,HFN.out.2.1,HFN.out.2.2⟩,by simp[intOf]<;>omega⟩
  ·obtain rfl:k=m.length:=aa
   clear hlt;obtain⟨s1,s2,s3,s4,s5⟩:=zN hst;have hr1:wr.heap[w.heap.size]? =some (.cells #[.slice none 0 0,.slice none 0 0] 262 (0,0)):=zg (Ext.trans (Ext.trans (hs1.ext) (hs2.ext)) hxr) (heap_alloc_new w _);obtain⟨r1,r2,r3,r4,r5⟩:=zN hr1;have HR:=Zh hr1;clear hr1 hst;go_wp2;have hDl:(zl m m.length).length=m.length+1:=za2 _ _;have hLl:(zq m m.length).length=m.length:=by simp[zq]
   have zsB:=hI.mi.cap;have hcapL:=hI.la.cap;have hoR:=Oth.set2 HR.out 0 1 (.slice mB (m.length+1) mc) (.slice lB m.length lc);have hxw:Ext w wr:=Ext.trans (Ext.trans (Ext.trans (Zi:Ext w (w.alloc (.cells #[.slice none 0 0,.slice none 0 0] 262))) hs1.ext) hs2.ext) hxr;refine bodyPost_ret (v:= .agg #[.slice mB (m.length+1) mc,.slice lB m.length lc]) (by simp[results,Tryz.results219,go_sem,r1,r2]) rfl ⟨mB,mc,lB,lc,by rw[hDl,hLl],?_,?_,by rw[hDl];exact zsB.1,zsB.2,by rw[hLl];exact hcapL.1,hcapL.2,?_⟩
   ·exact Ints.oth hI.mi.arr hoR ac
   ·refine⟨vs,by rw[hLl];have:=hI.la.len;omega,hI.la.arr.oth hoR ac,fun i r hr=>?_⟩;have hi:i<m.length:=by
     have:=(Zg.1 hr).1;omega
    have hr':r=Zv m i:=by
     rw[zq,getElem?_map,List.getElem?_range hi]at hr;simpa using hr.symm
    subst hr';obtain⟨B5,c5,y1,y2,y3,y4⟩:=hI.row i hi;exact⟨B5,c5,y1,y2.arr.oth hoR ac,y3,y4⟩
   ·exact((hxw.setCell (p:=⟨w.heap.size,0,none⟩) Zr _).setCell (p:=⟨w.heap.size,1,none⟩) Zr _).toStep
def Z0(D:List Int)(L:List (List Int))(k:Nat)(rest:Int)(zero:Bool)(tail:List Int):Int:=if zero then 0 else zR D L k rest tail
def jJ(D:List Int)(L:List (List Int))(k:Nat)(rest:Int)(zero:Bool)(tail:List Int):Nat:=(Z6 D L k rest tail-Z0 D L k rest zero tail+1).toNat
def jm(zero exact:Bool)(c left:Int):Bool:=!(zero&&decide (c=0))&&!(exact&&!decide (left=0))
def Zs(D:List Int)(L:List (List Int))(exact:Bool):Nat->Int->Bool->List Int->List (List Int)
 |0,rest,zero,tail=>(List.range (jJ D L 0 rest zero tail)).flatMap fun(j:Nat)=>
   if jm zero exact (Z0 D L 0 rest zero tail+j) (Z7 D L 0 rest tail (Z0 D L 0 rest zero tail+j)) then [(Z0 D L 0 rest zero tail+(j:Int))::tail] else []
 |k+1,rest,zero,tail=>(List.range (jJ D L (k+1) rest zero tail)).flatMap fun(j:Nat)=>
   Zs D L exact k (Z7 D L (k+1) rest tail (Z0 D L (k+1) rest zero tail+j)) (zero&&decide (Z0 D L (k+1) rest zero tail+j=0)) ((Z0 D L (k+1) rest zero tail+(j:Int))::tail)
def JW(D:List Int)(L:List (List Int))(exact:Bool)(k:Nat)(rest:Int)(zero:Bool)(tail:List Int)(c:Int):List (List Int):=
 if k=0 then (if jm zero exact c (Z7 D L k rest tail c) then [c::tail] else []) else Zs D L exact (k-1) (Z7 D L k rest tail c) (zero&&decide (c=0)) (c::tail)
def jK(D:List Int)(L:List (List Int))(exact:Bool)(k:Nat)(rest:Int)(zero:Bool)(tail:List Int)(j:Nat):List (List Int):=
 (List.range j).flatMap fun(i:Nat)=>JW D L exact k rest zero tail (Z0 D L k rest zero tail+(i:Int))
theorem zgt(D:List Int)(L:List (List Int))(exact:Bool)(k:Nat)(rest:Int)(zero:Bool)(tail:List Int)(j:Nat):
  jK D L exact k rest zero tail (j+1)=jK D L exact k rest zero tail j++JW D L exact k rest zero tail (Z0 D L k rest zero tail+(j:Int)):=by
 simp[jK,range_succ]
theorem zl8(D:List Int)(L:List (List Int))(exact:Bool)(k:Nat)(rest:Int)(zero:Bool)(tail:List Int):
  Zs D L exact k rest zero tail=jK D L exact k rest zero tail (jJ D L k rest zero tail):=by
 cases k with
 |zero=>simp[Zs,jK,JW]
 |succ k=>simp[Zs,jK,JW]
theorem zl9(D:List Int)(L:List (List Int))(exact:Bool)(k:Nat)(rest:Int)(zero:Bool)(tail:List Int){i j:Nat}(h:i<=j):jK D L exact k rest zero tail i<+:jK D L exact k rest zero tail j:=by
 obtain⟨m,rfl⟩:∃m,j=i+m:=⟨j-i,aa⟩;induction m with
 |zero=>exact List.prefix_rfl
 |succ m ih=>rw[<-Nat.add_assoc,zgt];exact(ih aa).trans (List.prefix_append _ _)
theorem zma{D:List Int}{za:Int}{rest:Int}{tail:List Int}(hN:NumOK D L n za)(h:LevOK D n za k rest tail)(h0:zU tail=0):zR D L k rest tail<=0:=by
 have:=(zaq hN h).2.1;omega
structure LOwn(w:World)(ze:Nat)(A:Option Addr)(c:Nat)(l:List (List Int))(vs:List Value):Prop where
 own:Own w ze 34 1 A l.length c vs
 row:∀(i:Nat)(r:List Int),l[i]? =some r->∃B d,vs[i]? =some (.slice B r.length d)/\ArrX ze w B 2 (r.map (Value.int .i64))/\r.length<=d/\d<=9223372036854775807
theorem LOwn.nil(w:World)(ze:Nat):LOwn w ze none 0 [] []:=⟨Own.nil _ _ _ _,fun i r hr=>by simp at hr⟩
theorem LOwn.ext(h:LOwn w ze A c l vs)(hx:Ext w w'):LOwn w' ze A c l vs:=
 ⟨h.own.ext hx,fun i r hr=>by obtain⟨B,d,a,b,e⟩:=h.row i r hr;exact⟨B,d,a,b.ext hx,e⟩⟩
theorem LOwn.set(h:LOwn w ze A c l vs){p:Addr}(hp:p.block<ze)(u:Value):LOwn (w.setCell p u) ze A c l vs:=by
 have hk:∀b,ze<=b->(w.setCell p u).heap[b]? =w.heap[b]? :=fun b hb=>Below.heap_setCell w p u b aa
 refine⟨⟨h.own.1,?_⟩,fun i r hr=>?_⟩
 ·rcases h.own.2 with hv|⟨g,cap,cur,hv,h1,h2,h3⟩
  ·exact .inl hv
  ·exact .inr ⟨g,cap,cur,hv,h1,(hk g h1).trans h2,h3⟩
 ·obtain⟨B,d,a,b,e⟩:=h.row i r hr;exact⟨B,d,a,b.keep (fun b' _ _ hb' _=>hk b' hb'),e⟩
theorem LOwn.mat(h:LOwn w ze A c l vs):Mat64 w A l:=
 ⟨vs,by have:=h.own.len;omega,h.own.arr,fun i r hr=>by obtain⟨B,d,a,b,e⟩:=h.row i r hr;exact⟨B,d,a,b.arr,e⟩⟩
theorem LOwn.snoc(h:LOwn w ze A c l vs)(hx:Ext w W)(hg:Grow ze 34 W w')(ho:Own w' ze 34 1 A' (l.length+1) c' (vs++[.slice B r.length d]))(hr:ArrX ze W B 2 (r.map (Value.int .i64)))(h1:r.length<=d)(h2:d<=9223372036854775807):LOwn w' ze A' c' (l++[r]) (vs++[.slice B r.length d]):=by
 have hvl:vs.length=l.length:=by have:=h.own.len;omega
 refine⟨by rw[List.length_append];exact ho,fun i x hx'=>?_⟩;rcases Zl i l.length with hi|hi
 ·rw[getElem?_append_left hi]at hx';obtain⟨B1,d1,a,b,e⟩:=h.row i x hx';exact⟨B1,d1,by rw[getElem?_append_left aa];exact a,(b.ext hx).oth (Oth.of_grow hg) ac,e⟩
 ·have hi':i=l.length:=by
   have:=(Zg.1 hx').1;simp at this;omega
  subst hi';have:x=r:=by simpa using hx'.symm
  subst this;exact⟨B,d,by rw[List.getElem?_append_right aa,hvl];simp,hr.oth (Oth.of_grow hg) ac,h1,h2⟩
end Go.Proofs.YtgoaelchibpffaaGreat
