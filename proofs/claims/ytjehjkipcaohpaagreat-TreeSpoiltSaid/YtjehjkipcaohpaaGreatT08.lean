/- Vec9 Uniq Mult ToX App3 Form Srch1 -/
import Derived.Test.YtjehjkipcaohpaaGreatT07
import Derived.Laws.EntriesVeiled
set_option maxHeartbeats 8000000
set_option linter.unusedVariables false
set_option linter.unusedSimpArgs false
set_option linter.constructorNameAsVariable false
namespace Go.Proofs.YtjehjkipcaohpaaGreat
open Go.RowKit
theorem Perm.pairwise_ne {els els':List KE} (hp:els'.Perm els) (h:els.Pairwise (fun x y=>x.cmp y≠0)):els'.Pairwise (fun x y=>x.cmp y≠0):=
 (hp.pairwise_iff (fun {x y} hxy h0=>hxy (by
  have e:=jO (y.key::y.l) (x.key::x.l);have e2:y.cmp x=zw (y.key::y.l) (x.key::x.l):=rfl;have e3:x.cmp y=zw (x.key::x.l) (y.key::y.l):=rfl;rw [e3,e,<-e2,h0];rfl))).2 h
theorem zfh (x y:KE):y.cmp x=-x.cmp y:=jO (x.key::x.l) (y.key::y.l)
theorem Same.cell {g b o:Nat} {w w':World} (h:Same g w w') (hb:b<w.heap.size) (hne:b≠g):w'.cell? ⟨b,o,none⟩=w.cell? ⟨b,o,none⟩:=World.cell?_of_block (h.1 b hb hne)
structure SortPost (w w':World) (sb g:Nat) (A:Option Addr) (c:Nat) (els els':List KE):Prop where
 perm:els'.Perm els
 sorted:els'.Pairwise (fun x y=>x.cmp y<0)
 row:0<els.length->KRow w' g els'
 ok:∀x∈els',x.ok w'
 st:w'.heap[sb]? =some (.cells #[.slice A els.length c,.func (.func 73) #[] #[]] 113 (0,0))
 keep:∀b,b<w.heap.size->b≠g->w'.heap[b]? =w.heap[b]?
 below:∀B,B<=g->B<=w.heap.size->Below B w w'
theorem zkl {w:World} {sb g c:Nat} {els:List KE} (hst:w.heap[sb]? =some (.cells #[.slice (some ⟨g,0,none⟩) els.length c,.func (.func 73) #[] #[]] 113 (0,0))) (zp8:KRow w g els) (hok:∀x∈els,x.ok w) (hn:els.length<=1099511627776) (hd:els.Pairwise (fun x y=>x.cmp y≠0)) (hg:g<w.heap.size):
  Calls Tryz.prog 78 #[.pointer (some ⟨sb,0,none⟩)] w fun e w'=>e= .returned (.tuple #[])/\∃els',SortPost w w' sb g (some ⟨g,0,none⟩) c els els':=by
 have hsb:=zA hst;have hgs:sb≠g:=by
  rintro rfl;obtain ⟨cur,h1,-⟩:=zp8;rw [hst] at h1;injection h1 with h1
  injection h1 with _ he
  exact absurd he (by decide)
 obtain ⟨s1,s2,s3,s4,-⟩:=zK hst;have HST:=Zh hst;obtain ⟨n,hN⟩:∃n,n=els.length:=⟨_,rfl⟩;have HN:=Zh hN;have zrs:=fun W (hh:Ext w W)=>zkf (w:=W) (cap:=c) (zp8.ext hh) (fun x hx=>(hok x hx).ext hh) (by omega)
 rw [<-hN] at zrs s1;have HSO:=Zh zrs;have HD:=Zh hd;have oS:Old sb w:=⟨hsb⟩;clear zrs hN hst hd hok;go_enter Tryz.func78,Tryz.ntmps78;go_wp2_with fail
 go_region_held3 (fun w'=>w'.cell? ⟨w.heap.size,0,none⟩=some (.pointer (some ⟨sb,0,none⟩))/\w'.cell? ⟨sb,0,none⟩=some (.slice (some ⟨g,0,none⟩) n c)/\w'.cell? ⟨sb,1,none⟩=some (.func (.func 73) #[] #[])) (first |assumption |(simp [go_sem,s1,s2]))
  (first
   |(go_at_call 133;refine (HSO.out _ Zi).mono ?_;rintro e w2 ⟨rfl,els',hp,hso,hr2,zsl,zqW⟩;(have hS2:w2.cell? ⟨w.heap.size,0,none⟩=some (.pointer (some ⟨sb,0,none⟩))/\w2.cell? ⟨sb,0,none⟩=some (.slice (some ⟨g,0,none⟩) n c)/\w2.cell? ⟨sb,1,none⟩=some (.func (.func 73) #[] #[]):=⟨(zqW.cell (by simp) (by omega)).trans (by simp [go_sem]),(zqW.cell (by simp;omega) hgs).trans (by simp [go_sem,s1]),(zqW.cell (by simp;omega) hgs).trans (by simp [go_sem,s2])⟩)))
 have zp9:els'.length=els.length:=hp.length_eq;have hne:=Perm.pairwise_ne hp HD.out;have hz:w.heap.size<w2.heap.size:=by have :=(zqW.2 0 (Nat.zero_le _)).size;simp at this;omega
 have zs8:els'.Pairwise (fun x y=>x.cmp y<0):=by
  refine (hso.and hne).imp ?_;rintro x y ⟨h1,h2⟩;have :=zfh x y;omega
 have zrt:w2.heap[sb]? =some (.cells #[.slice (some ⟨g,0,none⟩) els.length c,.func (.func 73) #[] #[]] 113 (0,0)):=(zqW.1 sb (by simp;omega) hgs).trans (zg (w:=w) Zi HST.out);obtain ⟨p1,p2,p3⟩:=hS2;have f1:w2.frozen? ⟨sb,0,none⟩=false:=(zK zrt).2.2.1;have zsm:sb<w2.heap.size:=by omega
 have zsn:=fun W (hh:Ext w2 W)=>zkk (w:=W) (pb:=w.heap.size) (sb:=sb) (cap:=c) (hr2.ext hh) (fun x hx=>(zsl x hx).ext hh) (by omega) (fun i x y h1 h2=>by
   have hi:=(Zg.1 h2).1;have :=(List.pairwise_iff_getElem.1 hne) i (i+1) (by omega) hi (by omega);rw [(Zg.1 h1).2,(Zg.1 h2).2] at this;have e:=zfh x y;simp;omega) ((hh.below.cell (p:=⟨w.heap.size,0,none⟩) hz).trans p1) ((hh.below.cell (p:=⟨sb,1,none⟩) zsm).trans p3) (Nat.lt_of_lt_of_le hz hh.size) (Nat.lt_of_lt_of_le zsm hh.size)
 rw [zp9,<-HN.out] at zsn;have HCO:=Zh zsn;have oP2:Old w.heap.size w2:=⟨hz⟩;have oS2:Old sb w2:=⟨zsm⟩;have HP:=Zh hp;have zpO:=Zh zs8;have HR2:=Zh hr2;have zpP:=Zh zsl;have HSA:=Zh zqW;have zps:=Zh zrt;clear hp hso hr2 zsl zqW hne zs8 zrt zsn zp9 HD HSO;go_wp2_with fail
 go_region_held3 (fun w'=>w'.cell? ⟨w.heap.size,0,none⟩=some (.pointer (some ⟨sb,0,none⟩))/\w'.cell? ⟨sb,0,none⟩=some (.slice (some ⟨g,0,none⟩) n c)) (first |exact ⟨p1,p2⟩ |(rw [zaq hC3];simp only [zi w2];exact ⟨p1,p2⟩) |(simp only [zi w2];exact ⟨p1,p2⟩))
  (first
   |(go_at_call 134;refine (HCO.out _ Zi).mono ?_;rintro e w3 ⟨rfl,hs3⟩;(have hF3:w3.frozen? ⟨sb,0,none⟩=false:=(zK (zg (Ext.trans Zi hs3.ext) zps.out)).2.2.1);(have hC3:w3.cell? ⟨sb,0,none⟩=some (.slice (some ⟨g,0,none⟩) n c):=by rw [HN.out];exact (zK (zg (Ext.trans Zi hs3.ext) zps.out)).1)))
 rw [zaq hC3];go_wp2;go_end0
 have hx3:Ext w2 w3:=Ext.trans Zi hs3.ext;have hsw:w.heap.size<=w2.heap.size:=by omega
 refine ⟨rfl,els',HP.out,zpO.out,fun _=>HR2.out.ext hx3,fun x hx=>(zpP.out x hx).ext hx3,zg hx3 zps.out,fun b hb hbg=>?_,fun B hB hBw=>?_⟩
 ·rw [hx3.below.block b (by omega),HSA.out.1 b (by simp;omega) hbg];exact Below.heap_alloc w _ b hb
 ·have h1:=HSA.out.2 B hB;have h2:Below B w (w.alloc (.cells #[.pointer (some ⟨sb,0,none⟩)] 183)).drew:=((Below.refl _ _).alloc hBw _).drew;exact (h2.trans h1).trans (hx3.below.mono (by omega))
theorem zkm {w:World} (fv:Value):Calls Tryz.prog 134 #[.slice none 0 0,fv] w (zz w (.slice none 0 0)):=by
 go_enter Tryz.func134,Tryz.ntmps134;go_wp2;go_ret;exact ⟨rfl,Step.of _ _⟩
theorem zkn {w:World} {sb:Nat} (hst:w.heap[sb]? =some (.cells #[.slice none 0 0,.func (.func 73) #[] #[]] 113 (0,0))):
  Calls Tryz.prog 78 #[.pointer (some ⟨sb,0,none⟩)] w (zz w (.tuple #[])):=by
 have hsb:=zA hst;obtain ⟨s1,s2,s3,s4,-⟩:=zK hst;have HST:=Zh hst;have zrs:=fun W=>AnyF.slices_SortFunc_none (P:=Tryz.prog) Tryz.laysSort none 0 (.func (.func 73) #[] #[]) W
 have zs9:∀W,Calls Tryz.prog 133 #[.slice none 0 0,.func (.func 73) #[] #[]] W fun e w'=>e= .returned (.tuple #[])/\w'=W:=zrs
 have HSO:=Zh zs9;have oS:Old sb w:=⟨hsb⟩;clear zrs zs9 hst;go_enter Tryz.func78,Tryz.ntmps78;go_wp2_with fail
 go_region_held3 (fun w'=>w'.cell? ⟨w.heap.size,0,none⟩=some (.pointer (some ⟨sb,0,none⟩))/\w'.cell? ⟨sb,0,none⟩=some (.slice none 0 0)/\w'.cell? ⟨sb,1,none⟩=some (.func (.func 73) #[] #[])) (first |assumption |(simp [go_sem,s1,s2]))
  (first |(go_at_call 133;refine (HSO.out _).mono ?_;rintro e w2 ⟨rfl,rfl⟩))
 obtain ⟨W,hW⟩:∃W,W=(w.alloc (.cells #[.pointer (some ⟨sb,0,none⟩)] 183)).drew:=⟨_,rfl⟩;have hxW:Ext w W:=by rw [hW];exact Zi
 have p0:W.heap[sb]? =_:=zg hxW HST.out;have p1:W.cell? ⟨w.heap.size,0,none⟩=some (.pointer (some ⟨sb,0,none⟩)):=by rw [hW];simp [go_sem]
 obtain ⟨p2,p3,p4,-,p5⟩:=zK p0;have p6:w.heap.size<W.heap.size:=by rw [hW];simp
 have HP0:=Zh p0;have oP2:Old w.heap.size W:=⟨p6⟩;have oS2:Old sb W:=⟨p5⟩;rw [<-hW];clear hW p0;go_wp2_with fail
 go_region_held3 (fun w'=>w'.cell? ⟨w.heap.size,0,none⟩=some (.pointer (some ⟨sb,0,none⟩))/\w'.cell? ⟨sb,0,none⟩=some (.slice none 0 0)) (first |exact ⟨p1,p2⟩ |(rw [zaq hC3];simp only [zi W];exact ⟨p1,p2⟩) |(simp only [zi W];exact ⟨p1,p2⟩))
  (first
   |(go_at_call 134;refine (zkm _).mono ?_;rintro e w3 ⟨rfl,hs3⟩;(have hF3:w3.frozen? ⟨sb,0,none⟩=false:=(zK (zg (Ext.trans Zi hs3.ext) HP0.out)).2.2.1);(have hC3:w3.cell? ⟨sb,0,none⟩=some (.slice none 0 0):=(zK (zg (Ext.trans Zi hs3.ext) HP0.out)).1)))
 rw [zaq hC3];go_wp2;go_end0
 exact ⟨rfl,(hxW.trans (Ext.trans Zi hs3.ext)).toStep⟩
def zu (m:List (List Int)) (x:List Int):Int:=zC x (qC m x)
theorem zcJ:∀r x,zC r (x.map (fun c=>-c))=-zC r x
 |[],_=>by simp [zav]
 |_::_,[]=>by simp [zC]
 |a::l,b::m=>by simp only [List.map_cons,zC,zcJ l m,Int.mul_neg];omega
theorem zfi:∀r x,zC (r.map (fun c=>-c)) x=-zC r x
 |[],_=>by simp [zav]
 |_::_,[]=>by simp [zC]
 |a::l,b::m=>by simp only [List.map_cons,zC,zfi l m,Int.neg_mul];omega
theorem zaC (m:List (List Int)) (x:List Int):zu m (x.map (fun c=>-c))=zu m x:=by
 have h:qC m (x.map (fun c=>-c))=(qC m x).map (fun c=>-c):=by simp [qC,zcJ]
 unfold zu;rw [h,zcJ,zfi,Int.neg_neg]
theorem zfj (m:List (List Int)) (x:List Int):zu m (zJ x)=zu m x:=by
 unfold zJ;split
 ·exact zaC m x
 ·rfl
structure VecOK (m:List (List Int)) (x:List Int):Prop where
 fit:jN m.length x=true
 nb:Ji (zu m x)=true
 cb:jf x=true
structure RedM (m:List (List Int)):Prop where
 red:Zp m=true
 all:AllLen m m.length
 ent:zct m
 n8:m.length<=8
structure ElsOK (m:List (List Int)) (ls:List (List Int)) (w:World) (els:List KE):Prop where
 lsE:els.map KE.l=ls.map zJ
 keyE:els.map KE.key=ls.map (zu m)
 ok:∀x∈els,x.ok w
 cap:∀x∈els,x.l.length<=x.c/\x.c<=9223372036854775807
theorem ElsOK.len {m ls:List (List Int)} {w:World} {els:List KE} (h:ElsOK m ls w els):els.length=ls.length:=by
 have :=congrArg List.length h.lsE;simpa using this
def jP (els:List KE):List Value:=els.flatMap KE.enc
theorem zfk:∀(els:List KE) (i:Nat) (x:KE),els[i]? =some x->(jP els)[2*i]? =some (.int .i64 x.key)/\(jP els)[2*i+1]? =some (.slice x.A x.l.length x.c)
 |[],i,x,h=>by simp at h
 |y::l,0,x,h=>by simp at h;subst h;exact ⟨rfl,rfl⟩
 |y::l,i+1,x,h=>by
  have :=zfk l i x (by simpa using h);rw [show 2*(i+1)=2*i+2 by omega];exact this
theorem KRow.of_own {w:World} {zd:Nat} {A:Option Addr} {n c:Nat} {els:List KE} (h:Own w zd 118 2 A n c (jP els)) (hn:0<n):∃g,A=some ⟨g,0,none⟩/\zd<=g/\KRow w g els:=by
 obtain ⟨hl,h2⟩:=h;rcases h2 with ⟨_,h0⟩ |⟨g,cap,cur,hv,hb,hh,h3,h4,h5,h6⟩
 ·omega
 ·injection hv with hA
  refine ⟨g,hA,hb,cur,hh,fun i x hx=>?_⟩;obtain ⟨a,b⟩:=zfk els i x hx;rw [<-h6,List.getElem?_take] at a b;constructor
  ·split at a
   ·simpa using a
   ·cases a
  ·split at b
   ·simpa using b
   ·cases b
theorem zko:(Tryz.prog.info? 118).map (fun i=>(i.zero,i.size,i.bytes))=some (some (.agg #[.int .i64 0,.slice none 0 0]),2,32):=by kernel_rfl
def zkp (w:World) (m ls:List (List Int)) (e:Ending) (w':World):Prop:=∃A c L,e= .returned (.tuple #[.slice A (List.length L) c,.bool true])/\Mat64 w' A L/\L.length<=c/\c<=9223372036854775807/\L.Perm (ls.map zJ)/\L.Pairwise (fun x y=>qu (zu m x) (zu m y) x y<0)/\Step w w'
theorem jQ (x:List Int):(zJ x).length=x.length:=by unfold zJ;split<;>simp
theorem zkq (els:List KE) (x:KE):jP (els++[x])=jP els++[.int .i64 x.key,.slice x.A x.l.length x.c]:=by simp [jP,KE.enc]
theorem ElsOK.snoc {m ls:List (List Int)} {w w':World} {els:List KE} {k:Nat} {x:List Int} {v:Int} {Z:Option Addr} {dz:Nat} (h:ElsOK m (ls.take k) w els) (hx:ls[k]? =some x) (hv:v=zu m x) (hl:x.length<=1099511627776) (hdz:x.length<=dz) (zug:dz<=9223372036854775807)
  (hk:∀y:KE,y.ok w->y.ok w') (hZ:Ints w' Z 2 .i64 (zJ x)):ElsOK m (ls.take (k+1)) w' (els++[⟨v,Z,dz,zJ x⟩]):=by
 have e:ls.take (k+1)=ls.take k++[x]:=by rw [List.take_add_one,hx];rfl
 refine ⟨by rw [e,List.map_append,List.map_append,h.lsE];rfl,by rw [e,List.map_append,List.map_append,h.keyE,hv];rfl,fun y hy=>?_,fun y hy=>?_⟩
 ·rcases List.mem_append.1 hy with hy |hy
  ·exact hk y (h.ok y hy)
  ·obtain rfl:=List.mem_singleton.1 hy;exact ⟨hZ,by rw [jQ];exact hl⟩
 ·rcases List.mem_append.1 hy with hy |hy
  ·exact h.cap y hy
  ·obtain rfl:=List.mem_singleton.1 hy;exact ⟨by rw [jQ];exact hdz,zug⟩
theorem ElsOK.distinct {m ls:List (List Int)} {w:World} {els:List KE} (h:ElsOK m ls w els) (hn:(ls.map zJ).Nodup):els.Pairwise (fun x y=>x.cmp y≠0):=by
 rw [<-h.lsE,List.Nodup,List.pairwise_map] at hn;refine hn.imp ?_;intro x y hxy h0;have :=Jm _ _ (show zw (x.key::x.l) (y.key::y.l)=0 from h0);injection this with _ h2
 exact hxy h2
theorem zkr {w1 wr:World} {B:Option Addr} {k cb:Nat} {els:List KE} (hst:wr.heap[w1.heap.size]? =some (.cells #[.slice B k cb,.func (.func 73) #[] #[]] 113 (0,0))) (zp7:Own wr (w1.heap.size+1) 118 2 B k cb (jP els)) (hel:els.length=k) (hk:k<=1073741824) (hok:∀x∈els,x.ok wr) (hd:els.Pairwise (fun x y=>x.cmp y≠0)) (hB0:k=0->B=none/\cb=0) (hx:Ext w1 wr):
  Calls Tryz.prog 78 #[.pointer (some ⟨w1.heap.size,0,none⟩)] wr fun e w6=>e= .returned (.tuple #[])/\∃els',els'.Perm els/\els'.Pairwise (fun x y=>x.cmp y<0)/\(∀x∈els',x.ok w6)/\w6.heap[w1.heap.size]? =some (.cells #[.slice B k cb,.func (.func 73) #[] #[]] 113 (0,0))/\(0<k->∃g,B=some ⟨g,0,none⟩/\KRow w6 g els')/\Ext w1 w6:=by
 rcases Nat.eq_zero_or_pos k with h0 |h0
 ·subst h0;obtain ⟨rfl,rfl⟩:=hB0 rfl;have zuh:els=[]:=List.eq_nil_of_length_eq_zero hel;subst zuh;refine (zkn hst).mono ?_;rintro e w6 ⟨he,hs⟩;exact ⟨he,[],List.Perm.refl _,List.Pairwise.nil,fun x hx=>absurd hx (by simp),zg hs.ext hst,fun h=>absurd h (by omega),hx.trans hs.ext⟩
 ·obtain ⟨g,rfl,hg,zp8⟩:=KRow.of_own zp7 h0;have hgs:g<wr.heap.size:=by obtain ⟨cur,h1,_⟩:=zp8;exact zA h1
  rw [<-hel] at hst;refine (zkl hst zp8 hok (by omega) hd hgs).mono ?_;rintro e w6 ⟨he,els',hp⟩;refine ⟨he,els',hp.perm,hp.sorted,hp.ok,by rw [<-hel];exact hp.st,fun _=>⟨g,rfl,hp.row (by omega)⟩,?_⟩;have :=hp.below w1.heap.size (by omega) hx.size;exact ⟨hx.below.trans this⟩
set_option maxRecDepth 10000 in
theorem zks {w0 w:World} {A X:Option Addr} {c d:Nat} {m ls:List (List Int)} (h:Mat64 w0 A m) (hc:m.length<=c) (hc2:c<=9223372036854775807) (hX:Mat64 w0 X ls) (hl:ls.length<=1073741824) (hm:RedM m) (hv:∀x∈ls,VecOK m x) (hnd:(ls.map zJ).Nodup) [hx:Ext w0 w]:
  Calls Tryz.prog 51 #[.slice A m.length c,.slice X ls.length d] w (zkp w m ls):=by
 have zqi:=fun W (hxx:Ext w0 W)=>zas (w:=W) h (by have :=hm.n8;omega) hc hc2
 rw [hm.red] at zqi;have HR:=Zh zqi;have HM:=Zh hm;have HV:=Zh hv;have HND:=Zh hnd;obtain ⟨q,hq⟩:∃q,q=ls.length:=⟨_,rfl⟩;rw [<-hq] at hl |-
 have HQ:=Zh hq;clear zqi hm hv hnd hq;go_enter Tryz.func51,Tryz.ntmps51;go_wp2_with (go_at_call 66;refine (HR.out _ Zi).mono ?_;rintro e w1 ⟨rfl,hs1⟩)
 have hx1:Ext w0 w1:=Zi;go_loopw [8,9,10,11,12,22] (fun _ _ _ _ _ i wr=>∃(k:Nat) (B:Option Addr) (cb:Nat) (els:List KE),k<=q/\i= .int .i64 k/\wr.heap[w1.heap.size]? =some (.cells #[.slice B k cb,.func (.func 73) #[] #[]] 113 (0,0))/\Own wr (w1.heap.size+1) 118 2 B k cb (jP els)/\Hid (ElsOK m (ls.take k) wr els)/\Hid (k=0->B=none/\cb=0)/\Ext w1 wr) (fun _ _ _ _ _ i _=>q-(intOf i).toNat)
 case atStart=>
  exact ⟨0,none,0,[],by omega,rfl,heap_alloc_new w1 _,Own.nil _ _ _ _,Zh ⟨rfl,rfl,fun x hx=>absurd hx (by simp),fun x hx=>absurd hx (by simp)⟩,Zh (fun _=>⟨rfl,rfl⟩),Zi⟩
 case round=>
  obtain ⟨k,B,cb,els,hk,rfl,hst,zp7,HE,HB0,hxr⟩:=hrel;have zta:Ext w0 wr:=hx1.trans hxr;by_cases hlt:k<q
  ·have hkl:k<ls.length:=by have :=HQ.out;omega
   obtain ⟨b,o,XB,cx,rfl,e1,e2,f1,f2,f3⟩:=(hX.ext zta).at_ (i:=k) (r:=ls[k]) (by simp [hkl]);obtain ⟨x,hxe⟩:∃x,x=ls[k]:=⟨_,rfl⟩;have hvx:=HV.out ls[k] (List.getElem_mem hkl);rw [<-hxe] at e1 e2 f1 hvx;have HXE:Hid (ls[k]? =some x):=Zh (by rw [hxe];simp [hkl]);have zql:x.length=m.length/\Qm x=true:=by
    have :=hvx.fit;simpa [jN] using this
   have hn8:=HM.out.n8;have zrV:=zbf.1 zql.2;have e2':=Zh e2;have hcf:=fun W (hh:Ext wr W)=>zjC (w:=W) (n:=m.length) (c:=cx) e2 (by have :=zql.1;omega)
   rw [hvx.fit] at hcf;have hca:=fun W (hh:Ext wr W)=>zjE (w:=W) (c:=c) (d:=cx) (h.ext zta) e2 HM.out.all zql.1 hn8 HM.out.ent zrV
   have hcc:=fun W (hh:Ext wr W)=>zj8 (w:=W) (c:=cx) e2 (by have :=zql.1;omega)
   rw [zql.1] at e1 f1 hcf hca hcc;have hcd:=fun (W:World) (Y:Option Addr) (dy:Nat) (hh:Ext wr W) (hY:Ints W Y 2 .i64 (qC m x))=>zj2 (w0:=W) (w:=W) (c:=cx) (d:=dy) (e2.ext hh) hY (by rw [zcu,zql.1]) (by have :=zql.1;omega) zrV (fun z hz=>by
    obtain ⟨r,hr,rfl⟩:=List.mem_map.1 hz;have hb:=Jg (A:=262144) (B:=1099511627776) (by omega) (by omega) r x (HM.out.ent r hr) zrV;have hrl:=HM.out.all r hr;omega)
   rw [zql.1] at hcd;obtain ⟨v,hv⟩:∃v,v=zu m x:=⟨_,rfl⟩;have HVE:=Zh hv;have HCF:=Zh hcf;have HCA:Hid (∀W,Ext wr W->Calls Tryz.prog 76 #[.slice A m.length c,.slice XB m.length cx] W fun e w'=>∃Y dy,e= .returned (.slice Y m.length dy)/\Ints w' Y 2 .i64 (qC m x)/\Step W w'):=Zh (fun W hh=>(hca W hh).mono (fun e w' ⟨Y,dy,he,hI,_,_,hs⟩=>⟨Y,dy,by rw [he,zcu],hI,hs⟩));have HCD:Hid (∀W Y dy,Ext wr W->Ints W Y 2 .i64 (qC m x)->Calls Tryz.prog 75 #[.slice XB m.length cx,.slice Y m.length dy] W (zz W (.tuple #[.int .i64 v,.bool true]))):=Zh (fun W Y dy hh hY=>(hcd W Y dy hh hY).mono (fun e w' ⟨he,hs⟩=>⟨by
    have e1:zC x (qC m x)=zu m x:=rfl;rw [he,e1,hvx.nb,hv];rfl,hs⟩))
   have HCC:Hid (∀W,Ext wr W->Calls Tryz.prog 77 #[.slice XB m.length cx] W fun e w'=>∃Z dz,e= .returned (.tuple #[.slice Z m.length dz,.bool true])/\Ints w' Z 2 .i64 (zJ x)/\m.length<=dz/\dz<=9223372036854775807/\Step W w'):=Zh (fun W hh=>(hcc W hh).mono (fun e w' ⟨hh2,hs⟩=>by
    rcases hh2 with ⟨_,Z,dz,he,hI,z1,z2⟩ |⟨hf,_⟩
    ·exact ⟨Z,dz,by rw [he,zql.1],hI,by rw [<-zql.1];exact z1,z2,hs⟩
    ·rw [hvx.cb] at hf;cases hf))
   have HFT:=Zh zql;obtain ⟨s1,s2,s3,s4,s5⟩:=zK hst;have HST:=Zh hst;have oS:Old w1.heap.size wr:=⟨s5⟩;clear hcf hca hcc hcd hvx zql zrV hxe hst e2 hv;go_wp2_with (first
    |(go_at_call 74;refine (HCF.out _ Zi).mono ?_;rintro e w' ⟨rfl,rfl⟩)
    |(go_at_call 76;refine (HCA.out _ Zi).mono ?_;rintro e w2 ⟨Y,dy,rfl,hY,hs2⟩)
    |(go_at_call 75;refine (HCD.out _ Y dy Zi hY).mono ?_;rintro e w3 ⟨rfl,hs3⟩)
    |(go_at_call 77;refine (HCC.out _ Zi).mono ?_;rintro e w4 ⟨Z,dz,rfl,hZ,z1,z2,hs4⟩)
    |(at_builtin;refine zI _ rfl _ _ 111 rfl (w1.heap.size+1) 118 (.agg #[.int .i64 0,.slice none 0 0]) 2 32 Tryz.underlying111 zko rfl (by omega) (by omega) B k cb _ rfl (zp7.ext Zi) _ 1 1 [.int .i64 v,.slice Z m.length dz] rfl (Arr.new w4 118 #[.int .i64 v,.slice Z m.length dz]) (by simp) (by simp [Value.oneCell']) (by omega) (by have :=hs4.size;have :=hs3.size;have :=hs2.size;simp at*;omega) ?_;intro A5 d5 w5 zqT hg5;have hb5:=hg5.heap (zg (Zi:Ext wr (w4.alloc (Obj.cells #[Value.int .i64 v,Value.slice Z m.length dz] 118))) HST.out) (by decide);obtain ⟨q1,q2,q3,q4,q5⟩:=zK hb5;have HB5:=Zh hb5;clear hb5))
   have hoS:=Oth.set (p:=⟨w1.heap.size,0,none⟩) HB5.out (.slice A5 (k+1) d5);have hxw:Ext wr (w4.alloc (Obj.cells #[Value.int .i64 v,Value.slice Z m.length dz] 118)):=Zi;have hft:=HFT.out.1;refine ⟨⟨k+1,A5,d5,els++[⟨v,Z,dz,zJ x⟩],by omega,by go_num,zbe HB5.out,?_,?_,Zh (fun h0=>absurd h0 (by omega)),?_⟩,by simp [intOf]<;>omega⟩
   ·rw [zkq];dsimp only;rw [jQ,hft];exact zqT.oth hoS (by decide)
   ·refine Zh (HE.out.snoc HXE.out HVE.out (by omega) (by omega) z2 (fun y hy=>⟨((hy.1.ext hxw).grow hg5 (by decide)).oth hoS (by decide),hy.2⟩) ?_);exact ((hZ.ext Zi).grow hg5 (by decide)).oth hoS (by decide)
   ·exact (hg5.ext (Ext.trans hxr hxw) (Nat.le_succ _)).setCell (p:=⟨w1.heap.size,0,none⟩) Zr _
  ·obtain rfl:k=q:=by omega
   clear hlt;have htk:ls.take k=ls:=List.take_of_length_le (by have :=HQ.out;omega);rw [htk] at HE;have hel:els.length=k:=by rw [HE.out.len,<-HQ.out]
   clear htk;have hsc:=zkr hst zp7 hel (by omega) HE.out.ok (HE.out.distinct HND.out) HB0.out hxr;have HSC:=Zh hsc;have hmk:=ZL (P:=Tryz.prog) Tryz.underlying26 qA (by omega) (k:Int) (by omega) (by omega);clear hsc hst;go_wp2_with (go_at_call 78;refine HSC.out.mono ?_;clear HSC;rintro e w6 ⟨rfl,els',hp,hso,hok,zso,zrh,hx6⟩;obtain ⟨t1,t2,t3,t4,t5⟩:=zK zso;have HP:=Zh hp;have HSO:=Zh hso;have HOK:=Zh hok;have zo7:=Zh zrh;have zp6:=Zh zso;clear hp hso hok zrh zso;have oS6:Old w1.heap.size w6:=⟨t5⟩)
   have ztb:els'.length=k:=by rw [HP.out.length_eq,hel]
   have zpe:=Zh ztb;have zrW:Ext w w6:=Ext.trans hs1.ext hx6;clear ztb zp7 hel;go_loopw [14,15,67] (fun _ _ i wr=>∃(j:Nat) (hd:List Value),j<=k/\i= .int .i64 j/\VRow wr w6.heap.size 37 hd/\Hid (hd.length=k)/\Hid (∀i,i<j->∃x,els'[i]? =some x/\hd[i]? =some (.slice x.A x.l.length x.c))/\Ext w6 wr) (fun _ _ i _=>k-(intOf i).toNat)
   case atStart=>
    refine ⟨0,_,by omega,rfl,VRow.new w6 _ _,Zh ?_,Zh (fun i hi=>absurd hi (by omega)),Zi⟩;exact jM _ _
   case round=>
    obtain ⟨j,hd,hj,rfl,hV,HHL,HHD,hxj⟩:=hrel;by_cases hlt:j<k
    ·obtain ⟨x,hx⟩:∃x,els'[j]? =some x:=⟨_,Ze (by have :=zpe.out;omega)⟩;obtain ⟨g,rfl,zp8⟩:=zo7.out (by omega);obtain ⟨c1,c2,c3⟩:=(zp8.ext hxj).cells hx;obtain ⟨u0,hu0⟩:∃u0,hd[j]? =some u0:=⟨_,Ze (by have :=HHL.out;omega)⟩;have r1:=hV.cell hu0;have r2:=hV.frozen j;have r3:=hV.lt;have HX:=Zh hx;have oG:Old g wr:=⟨c3⟩;have oR:Old w6.heap.size wr:=⟨r3⟩;clear hx hu0;go_wp2;have hhl:=HHL.out;refine ⟨⟨j+1,hd.set j (.slice x.A x.l.length x.c),by omega,by go_num,?_,Zh (by rw [List.length_set];exact HHL.out),Zh (fun i hi=>?_),?_⟩,by simp [intOf]<;>omega⟩
     ·exact (hV.set j _).ext Zi
     ·rcases Zl i j with h' |h'
      ·obtain ⟨y,y1,y2⟩:=HHD.out i h';exact ⟨y,y1,by rw [List.getElem?_set_ne (by omega)];exact y2⟩
      ·obtain rfl:i=j:=by omega
       exact ⟨x,HX.out,by rw [List.getElem?_set_self (by omega)]⟩
     ·exact Ext.trans (hxj.setCell (p:=⟨w6.heap.size,j,none⟩) Zr (.slice x.A x.l.length x.c)) Zi
    ·obtain rfl:j=k:=by omega
     clear hlt;go_wp2;go_ret2
     have hml:(els'.map KE.l).length=j:=by rw [List.length_map];exact zpe.out
     refine ⟨some ⟨w6.heap.size,0,none⟩,j,els'.map KE.l,by rw [hml];rfl,?_,by omega,by omega,?_,?_,(zrW.trans hxj).toStep⟩
     ·refine ⟨hd,by rw [hml];exact HHL.out,hV.arr,fun i r hr=>?_⟩;have hi:i<j:=by
       have :=(Zg.1 hr).1;omega
      obtain ⟨x,hx,hh⟩:=HHD.out i hi;rw [List.getElem?_map,hx] at hr;simp at hr;subst hr;have zui:=HOK.out x (Zm hx);have zqm:=HE.out.cap x (HP.out.mem_iff.1 (Zm hx));exact ⟨x.A,x.c,hh,zui.1.ext hxj,zqm.1,zqm.2⟩
     ·rw [<-HE.out.lsE];exact HP.out.map _
     ·rw [List.pairwise_map];refine List.Pairwise.imp_of_mem ?_ HSO.out;intro x y hx hy hxy;have key:∀z∈els',z.key=zu m z.l:=fun z hz=>by
       have hz':=HP.out.mem_iff.1 hz;obtain ⟨i,hi,rfl⟩:=List.getElem_of_mem hz';have a1:=congrArg (fun t=>t[i]?) HE.out.lsE;have a2:=congrArg (fun t=>t[i]?) HE.out.keyE;simp only [List.getElem?_map,Ze hi] at a1 a2
       cases hq:ls[i]? with
       |none=>rw [hq] at a1;cases a1
       |some y=>
        rw [hq] at a1 a2;simp at a1 a2;rw [a1,a2,zfj]
      show qu (zu m x.l) (zu m y.l) x.l y.l<0;rw [<-key x hx,<-key y hy];exact hxy
def Jn (h za:Int) (exact:Bool) (k:Nat):List (List Int):=((List.range k).filter fun (i:Nat)=>!exact||decide (h*((i:Int)+1)*((i:Int)+1)=za)).map fun (i:Nat)=>[(i:Int)+1]
def zcK (w:World) (m:List (List Int)) (e:Ending) (w':World):Prop:=∃A c,e= .returned (.slice A m.length c)/\Mat64 w' A m/\m.length<=c/\c<=9223372036854775807/\Step w w'
structure MOwn (w:World) (zd:Nat) (A:Option Addr) (n c:Nat) (m:List (List Int)) (vs:List Value):Prop where
 own:Own w zd 37 1 A n c vs
 len:m.length=n
 row:∀(i:Nat) (r:List Int),m[i]? =some r->∃B c,vs[i]? =some (.slice B r.length c)/\Ints w B 2 .i64 r/\r.length<=c/\c<=9223372036854775807
theorem MOwn.nil (w:World) (zd:Nat):MOwn w zd none 0 0 [] []:=⟨Own.nil _ _ _ _,rfl,fun i r hr=>by simp at hr⟩
theorem MOwn.mat {w:World} {zd:Nat} {A:Option Addr} {n c:Nat} {m:List (List Int)} {vs:List Value} (h:MOwn w zd A n c m vs):Mat64 w A m:=
 ⟨vs,by have :=h.own.len;rw [h.len];omega,h.own.arr,h.row⟩
theorem MOwn.snoc {w W w':World} {zd:Nat} {A A' B:Option Addr} {n c c' d:Nat} {m:List (List Int)} {r:List Int} {vs:List Value} (h:MOwn w zd A n c m vs) (hx:Ext w W) (hg:Grow zd 37 W w') (ho:Own w' zd 37 1 A' (n+1) c' (vs++[.slice B r.length d])) (hr:Ints W B 2 .i64 r) (h1:r.length<=d) (h2:d<=9223372036854775807):MOwn w' zd A' (n+1) c' (m++[r]) (vs++[.slice B r.length d]):=by
 have hvl:vs.length=m.length:=by have :=h.own.len;rw [h.len];omega
 refine ⟨ho,by simp [h.len],fun i x hx'=>?_⟩;rcases Zl i m.length with hi |hi
 ·rw [List.getElem?_append_left hi] at hx';obtain ⟨B1,d1,a,b,e⟩:=h.row i x hx';exact ⟨B1,d1,by rw [List.getElem?_append_left (by omega)];exact a,(b.ext hx).grow hg (by decide),e⟩
 ·have hi':i=m.length:=by
   have :=(Zg.1 hx').1;simp at this;omega
  subst hi';have :x=r:=by simpa using hx'.symm
  subst this;exact ⟨B,d,by rw [List.getElem?_append_right (by omega),hvl];simp,hr.grow hg (by decide),h1,h2⟩
def zkt (w:World) (m:List (List Int)) (e:Ending) (w':World):Prop:=∃A c,e= .returned (.slice A m.length c)/\Mat64X w.heap.size w' A m/\m.length<=c/\c<=9223372036854775807/\Step w w'
def zfl (w:World) (m:List (List Int)) (b:Bool) (e:Ending) (w':World):Prop:=∃A c,e= .returned (.tuple #[.slice A m.length c,.bool b])/\Mat64X w.heap.size w' A m/\m.length<=c/\c<=9223372036854775807/\Step w w'
def HeadsX (w:World) (lo G:Nat) (F:Nat->Nat->Int) (zb cols k:Nat):Prop:=
 ∃hd:List Value,VRow w G 37 hd/\hd.length=zb/\(∀i,i<k->∃B,hd[i]? =some (.slice B cols cols)/\ArrX lo w B 2 (((List.range cols).map fun j=>F i j).map (Value.int .i64)))/\∀i,k<=i->i<zb->hd[i]? =some (.slice none 0 0)
theorem HeadsX.made (w:World) (F:Nat->Nat->Int) (zb cols:Nat):HeadsX (w.alloc (.cells (zV #[.slice none 0 0] (zb*1)) 37)) w.heap.size w.heap.size F zb cols 0:=by
 obtain ⟨hd,h1,h2,h3,h4⟩:=Heads1.made w F zb cols;exact ⟨hd,h1,h2,fun i hi=>absurd hi (by omega),h4⟩
theorem Cells1.fullX {w:World} {g lo:Nat} {F:Nat->Int} {cols:Nat} (h:Cells1 w g F cols cols) (hl:lo<=g):ArrX lo w (some ⟨g,0,none⟩) 2 (((List.range cols).map F).map (Value.int .i64)):=fun h0=>by
 have h1:=h.1;rw [Nat.sub_self] at h1;simp only [List.replicate_zero,List.append_nil] at h1;exact ⟨g,0,_,(0,0),rfl,hl,h1,fun j u hu=>by simpa using hu⟩
theorem VRow.arrX {w:World} {g lo:Nat} {e:TypeId} {vs:List Value} (h:VRow w g e vs) (hl:lo<=g):ArrX lo w (some ⟨g,0,none⟩) e vs:=fun _=>⟨g,0,_,_,rfl,hl,h,fun j u hu=>by simpa using hu⟩
theorem Mat64X.lower {lo lo':Nat} {w:World} {A:Option Addr} {L:List (List Int)} (h:Mat64X lo w A L) (hl:lo'<=lo):Mat64X lo' w A L:=by
 obtain ⟨vs,h1,h2,h3⟩:=h;refine ⟨vs,h1,h2.lower hl,fun i r hr=>?_⟩;obtain ⟨B,c,a,b,e⟩:=h3 i r hr;exact ⟨B,c,a,b.lower hl,e⟩
set_option maxRecDepth 10000 in
theorem zku {w:World} (f:FuncId) (caps:Array Value) (zb cols:Nat) (h1:zb<=1000000) (h2:cols<=1000000) (hf:qm f) (F:Nat->Nat->Int)
  (H:∀(i j:Nat) (W:World),i<zb->j<cols->Ext w W->Calls Tryz.prog f (#[.int .i64 i,.int .i64 j]++caps) W (zz W (.int .i64 (F i j)))):
  Calls Tryz.prog 199 #[.int .i64 zb,.int .i64 cols,.func (.func f) #[] caps] w (zkt w (tab F zb cols)):=by
 have hmk:=ZL (P:=Tryz.prog) Tryz.underlying26 qA (by omega) (zb:Int) (by omega) (by omega);have zq8:=ZL (P:=Tryz.prog) Tryz.underlying37 qP (by omega) (cols:Int) (by omega) (by omega);have HH:=Zh H;have HF:=Zh hf;clear H hf;go_enter Tryz.func199,Tryz.ntmps199;go_wp2;go_loopw [8,9,14] (fun _ _ i wr=>∃k:Nat,k<=zb/\i= .int .i64 k/\HeadsX wr w.heap.size w.heap.size F zb cols k/\Ext w wr) (fun _ _ i _=>zb-(intOf i).toNat)
 case atStart=>exact ⟨0,by omega,rfl,by simpa [Value.cells] using HeadsX.made w F zb cols,Zi⟩
 case round=>
  obtain ⟨k,hk,rfl,hH,hxr⟩:=hrel;by_cases zqA:k<zb
  ·obtain ⟨hd,v1,v2,v3,v4⟩:=hH;have hc1:=v1.cell (v4 k Zr zqA);have hc2:=v1.frozen k;have hsz:=v1.lt;obtain ⟨wo,rfl⟩:∃wo:World,wo=wr:=⟨_,rfl⟩;have V2:=Zh v2;have V3:=Zh v3;have V4:=Zh v4;clear v2 v3 v4;go_wp2;go_loopw [9,27] (fun _ j wr=>∃q:Nat,q<=cols/\j= .int .i64 q/\Grow w.heap.size 37 wo wr/\VRow wr w.heap.size 37 (hd.set k (.slice (some ⟨wo.heap.size,0,none⟩) cols cols))/\Cells1 wr wo.heap.size (F k) cols q/\Ext w wr) (fun _ j _=>cols-(intOf j).toNat)
   case atStart=>
    refine ⟨0,by omega,rfl,?_,?_,?_,?_⟩
    ·exact ((Grow.refl _ _ _).setOld (p:=⟨w.heap.size,k,none⟩) v1 Zr rfl _).alloc hxr.size _
    ·exact (v1.set _ _).ext Zi
    ·have :=Cells1.made (wo.setCell ⟨w.heap.size,k,none⟩ (.slice (some ⟨wo.heap.size,0,none⟩) cols cols)) (F k) cols;rw [Zt,Nat.mul_one] at this;exact this
    ·exact Zi
   case round=>
    obtain ⟨q,hq,rfl,hG,hV,hC,hxq⟩:=hrel;by_cases hlt:q<cols
    ·have hkl:k<hd.length:=by have :=V2.out;omega
     have zp8:wr.cell? ⟨w.heap.size,k,none⟩=some (.slice (some ⟨wo.heap.size,0,none⟩) cols cols):=hV.cell (by rw [List.getElem?_set_self hkl]);obtain ⟨c1,c2,c3⟩:=hC.cells hlt;go_wp2;have hcf:=HF.out;unfold qm at hcf;have hne:w.heap.size≠wo.heap.size:=by omega
     have zqQ:(hd.set k (.slice (some ⟨wo.heap.size,0,none⟩) cols cols))[k]? =some (.slice (some ⟨wo.heap.size,0,none⟩) cols cols):=by rw [List.getElem?_set_self hkl]
     have HN:=Zh hne;have HS:=Zh zqQ;clear hne zqQ;go_region_held3 (fun w'=>w'.cell? ⟨w.heap.size,k,none⟩=some (.slice (some ⟨wo.heap.size,0,none⟩) cols cols))
      (first
       |exact (hV.ext Zi).cell HS.out
       |exact ((hV.ext Zi).far (p:=⟨wo.heap.size,q,none⟩) HN.out _).cell HS.out)
      (first
       |(refine (HH.out _ _ _ zqA hlt Zi).mono ?_;rintro e w2 ⟨rfl,hs2⟩;obtain ⟨d1,d2,d3⟩:=(hC.ext (Zi:Ext wr w2)).cells hlt))
     go_wp2;refine ⟨⟨q+1,by omega,by go_num,?_,?_,?_,?_⟩,by simp [intOf]<;>omega⟩
     ·exact (hG.trans (Zi:Ext wr w2) hxr.size).setNew (p:=⟨wo.heap.size,q,none⟩) Zr hxr.size _
     ·exact (hV.ext (Zi:Ext wr w2)).far (p:=⟨wo.heap.size,q,none⟩) HN.out _
     ·exact (hC.ext (Zi:Ext wr w2)).put hlt
     ·exact (Zi:Ext w w2).setCell (p:=⟨wo.heap.size,q,none⟩) hxr.size _
    ·obtain rfl:q=cols:=by omega
     have zrd:=hC.fullX hxr.size;go_wp2;refine ⟨⟨k+1,by omega,by go_num,⟨_,hV,by rw [List.length_set];exact V2.out,fun i hi=>?_,fun i hi1 hi2=>?_⟩,hxq⟩,by simp [intOf]<;>omega⟩
     ·have hkl:k<hd.length:=by have :=V2.out;omega
      rcases Zl i k with h |h
      ·obtain ⟨B,b1,b2⟩:=V3.out i h;exact ⟨B,by rw [List.getElem?_set_ne (by omega)];exact b1,b2.oth (Oth.of_grow hG) (by decide)⟩
      ·obtain rfl:i=k:=by omega
       exact ⟨_,by rw [List.getElem?_set_self hkl],zrd⟩
     ·rw [List.getElem?_set_ne (by omega)];exact V4.out i (by omega) hi2
  ·obtain rfl:k=zb:=by omega
   have HHd:=Zh hH;clear hH;go_wp2;go_ret;obtain ⟨hd,v1,v2,v3,v4⟩:=HHd.out;refine ⟨_,k,by rw [zr];rfl,⟨hd,by rw [v2,zr],v1.arrX Zr,fun i r hr=>?_⟩,by rw [zr];omega,by omega,hxr.toStep⟩;have hi:i<k:=by
    rcases Zl i k with hi |hi
    ·exact hi
    ·rw [List.getElem?_eq_none (by rw [zr];exact hi)] at hr;cases hr
   rw [Qx _ _ _ _ hi] at hr;injection hr with hr
   subst hr;obtain ⟨B,b1,b2⟩:=v3 i hi;exact ⟨B,cols,by simpa using b1,b2,by simp,by omega⟩
theorem zkv {w0 w:World} {A:Option Addr} {c:Nat} {m:List (List Int)} (h:MatV w0 A m) (n:Nat) (h1:1<=m.length) (h2:m.length<=16) (h3:1<=n) (h4:n<=16) (hn:AllLen m n) (h64:qr m) [hx:Ext w0 w]:
  Calls Tryz.prog 138 #[.slice A m.length c] w (zfl w m true):=by
 have hb:=zku (w:=(w.alloc (.cells #[.slice A m.length c] 79)).alloc (.cells #[.bool true] 4)) 200 #[.pointer (some ⟨w.heap.size,0,none⟩),.pointer (some ⟨w.heap.size+1,0,none⟩)] m.length n (by omega) (by omega) zjd (fun i j=>(m.getD i []).getD j 0)
  (fun i j W hi hj hW=>by
   have hr:m[i]? =some m[i]:=by simp
   have hl:m[i].length=n:=hn _ (List.getElem_mem hi);have hxj:m[i][j]? =some (m[i][j]'(by omega)):=by simp
   have zql:=h64 m[i] (List.getElem_mem hi) _ (List.getElem_mem (by omega:j<m[i].length));have e1:(m.getD i []).getD j 0=m[i][j]'(by omega):=by simp [List.getD,hi,hxj]
   rw [e1];have hW1:Ext (w.alloc (.cells #[.slice A m.length c] 79)) W:=Ext.trans Zi hW;obtain ⟨-,a1,a2,a3⟩:=zar w W w.heap.size (.slice A m.length c) 79 rfl;obtain ⟨-,b1,b2,b3⟩:=zar (w.alloc (.cells #[.slice A m.length c] 79)) W (w.heap.size+1) (.bool true) 4 (by simp);have :Ext w W:=Ext.trans Zi hW;have :Ext w0 W:=hx.trans this;exact zjc h i j m[i] _ hr hxj zql.1 zql.2 a1 b1 b3 b2)
 rw [Je m n hn] at hb;have HB:=Zh hb;clear hb;go_enter Tryz.func138,Tryz.ntmps138;go_wp2_with fail
 refine (zeE h n h1 h2 h3 h4 hn).mono ?_;rintro e w' ⟨rfl,rfl⟩;go_wp2_with fail
 refine HB.out.mono ?_;rintro e w2 ⟨A2,c2,rfl,hm,hc1,hc2,hs2⟩;obtain ⟨-,b1,b2,b3⟩:=zar (w.alloc (.cells #[.slice A m.length c] 79)) w2 (w.heap.size+1) (.bool true) 4 (by simp);go_wp2;go_ret2
 exact ⟨A2,c2,rfl,hm.lower (by simp;omega),hc1,hc2,Step.of _ _⟩
structure Grew (A A':Option Addr) (w w':World):Prop where
 block:∀k,k<w.heap.size->(∀a,A=some a->a.block≠k)->w'.heap[k]? =w.heap[k]?
 own:∀a',A'=some a'->(∃a,A=some a/\a.block=a'.block)∨w.heap.size<=a'.block
 size:w.heap.size<=w'.heap.size
def ArrN (X:Option Addr) (w:World) (A:Option Addr) (e:TypeId) (vs:List Value):Prop:=
 0<vs.length->∃(b o:Nat) (cs:Array Value) (fr:Nat×Nat),A=some ⟨b,o,none⟩/\(∀a,X=some a->a.block≠b)/\w.heap[b]? =some (.cells cs e fr)/\∀(j:Nat) (u:Value),vs[j]? =some u->cs[o+j]? =some u
section
variable {X X' A:Option Addr} {w w':World} {e T:TypeId} {vs:List Value}
theorem ArrN.arr (h:ArrN X w A e vs):Arr w A e vs:=fun h0=>by
 obtain ⟨b,o,cs,fr,rfl,_,hb,hc⟩:=h h0;exact ⟨b,o,cs,fr,rfl,hb,hc⟩
theorem ArrN.ext (h:ArrN X w A e vs) (hx:Ext w w'):ArrN X w' A e vs:=fun h0=>by
 obtain ⟨b,o,cs,fr,rfl,h1,hb,hc⟩:=h h0;exact ⟨b,o,cs,fr,rfl,h1,zg hx hb,hc⟩
theorem ArrN.oth (h:ArrN X w A e vs) (ho:Oth T w w') (hn:e≠T):ArrN X w' A e vs:=fun h0=>by
 obtain ⟨b,o,cs,fr,rfl,h1,hb,hc⟩:=h h0;exact ⟨b,o,cs,fr,rfl,h1,ho _ _ _ _ hn hb,hc⟩
theorem ArrN.grew (h:ArrN X w A e vs) (hg:Grew X X' w w'):ArrN X' w' A e vs:=fun h0=>by
 obtain ⟨b,o,cs,fr,rfl,h1,hb,hc⟩:=h h0;refine ⟨b,o,cs,fr,rfl,fun a' ha'=>?_,(hg.block b (zA hb) h1).trans hb,hc⟩;rcases hg.own a' ha' with ⟨a,ha,hab⟩ |hle
 ·rw [<-hab];exact h1 a ha
 ·have :=zA hb;omega
theorem ArrX.arrN {lo:Nat} (h:ArrX lo w A e vs) (hX:∀a,X=some a->a.block<lo):ArrN X w A e vs:=fun h0=>by
 obtain ⟨b,o,cs,fr,rfl,h1,hb,hc⟩:=h h0;exact ⟨b,o,cs,fr,rfl,fun a ha=>by have :=hX a ha;omega,hb,hc⟩
theorem Own.blockLt {zd size n c:Nat} {xs:List Value} (h:Own w zd e size A n c xs):∀a,A=some a->a.block<w.heap.size:=fun a ha=>by
 rcases h.2 with ⟨hv,_⟩ |⟨g,cap,cur,hv,_,h2,_⟩
 ·injection hv with hA;rw [hA] at ha;cases ha
 ·injection hv with hA;rw [hA] at ha;injection ha with ha;subst ha;exact zA h2
end
section
variable {P:Program} (w:World)
theorem zfm (zd:Nat) (t ty e:TypeId) (z:Value) (size bytes:Nat) (ht:P.underlying t=some (.slice e)) (hi:(P.info? e).map (fun i=>(i.zero,i.size,i.bytes))=some (some z,size,bytes))
  (hzs:z.cells.size=size) (hsz:0<size) (hb:bytes<=128)
  (A:Option Addr) (n c:Nat) (xs:List Value) (zp7:Own w zd e size A n c xs)
  (ad:Addr) (m c':Nat) (news:List Value) (zqy:Arr w (some ad) e news) (hl:news.length=m*size) (h1:∀u∈news,u.oneCell'=true)
  (h63:n+m<=1099511627776) (zqf:zd<=w.heap.size):
  ∃A1 c1 w',(Builtin.append_ #[t,t] ty #[.slice A n c,.slice (some ad) m c']).run P w= .ok (.slice A1 (n+m) c1) w'/\Own w' zd e size A1 (n+m) c1 (xs++news)/\Grow zd e w w'/\Grew A A1 w w':=by
 obtain ⟨i,hi1,hz,hs,hby⟩:=info_parts hi;have zsf:(n+m)*bytes<=140737488355328:=by
  have :(n+m)*bytes<=(n+m)*128:=Nat.mul_le_mul_left _ hb;omega
 have key:∀(v':Value) (w':World),w'.ownsRow zd e size v' (n+m) (xs++news)->∃A1 c1,v'= .slice A1 (n+m) c1:=by
  intro v' w' h;rcases h.2 with ⟨rfl,hn⟩ |⟨g,cap,cur,rfl,_⟩
  ·exact ⟨none,0,by rw [hn]⟩
  ·exact ⟨_,cap,rfl⟩
 have zrn:∀j u,news[j]? =some u->w.cell? (ad.add j)=some u:=by
  intro j u hu;obtain ⟨b,o,h,hc,_⟩:=zqy.at_ hu;injection h with h
  subst h;have :(⟨b,o,none⟩:Addr).add j=⟨b,o+j,none⟩:=by
   unfold Addr.add;split
   ·simp_all
   ·rfl
  rw [this];exact hc
 obtain ⟨v',w',zqV,h2,h3,_,h5⟩:=run_append_own_at (P:=P) w zd t ty e i z size bytes ht hi1 hz hs hby hzs hsz _ n xs zp7 ad m c' news hl zrn h1 (by simp only [maxLen];omega) zsf zqf;obtain ⟨A1,c1,rfl⟩:=key _ _ h2;refine ⟨A1,c1,w',zqV,h2,zen zp7 h3 zqf,fun k hk hne=>h3.block k hk (fun hh=>?_),fun a' ha'=>?_,h3.size⟩
 ·cases A with
  |none=>simp [Value.ownBlock] at hh
  |some a=>simp [Value.ownBlock] at hh;exact hne a rfl hh.symm
 ·subst ha';rcases h5 with h5 |h5
  ·cases A with
   |none=>simp [Value.ownBlock] at h5
   |some a=>simp [Value.ownBlock] at h5;exact .inl ⟨a,rfl,h5.symm⟩
  ·simp [Value.ownBlock] at h5;exact .inr (by omega)
theorem zkw {ops:Array Oper} {o:Oper} {a:Act} {K:Act->World->Prop} {Q:Exit->Act->World->Prop} {E:Prop} (hgd:o.guard=none) (s x:Operand) (t:TypeId)
  (ho:o.op= .call {callee:= .builtin .append,args:=#[s,x],argTypes:=#[t,t]})
  (zd:Nat) (e:TypeId) (z:Value) (size bytes:Nat) (ht:P.underlying t=some (.slice e)) (hi:(P.info? e).map (fun i=>(i.zero,i.size,i.bytes))=some (some z,size,bytes))
  (hzs:z.cells.size=size) (hsz:0<size) (hb:bytes<=128)
  (A:Option Addr) (n c:Nat) (xs:List Value) (hs:a.eval s= .slice A n c) (zp7:Own w zd e size A n c xs)
  (ad:Addr) (m c':Nat) (news:List Value) (hx:a.eval x= .slice (some ad) m c') (zqy:Arr w (some ad) e news) (hl:news.length=m*size) (h1:∀u∈news,u.oneCell'=true)
  (h63:n+m<=1099511627776) (zqf:zd<=w.heap.size)
  (h:∀A1 c1 w',Own w' zd e size A1 (n+m) c1 (xs++news)->Grow zd e w w'->Grew A A1 w w'->K (a.put o.dst (.slice A1 (n+m) c1)) w'):
  if Region.wanted o (yielded ops a.tmps)=true then Oper.wp P o a w K Q else E:=by
 have hw:Region.wanted o (yielded ops a.tmps)=true:=by simp [Region.wanted,hgd]
 rw [if_pos hw];obtain ⟨A1,c1,w',zqV,h2,h3,h4⟩:=zfm (P:=P) w zd t o.type e z size bytes ht hi hzs hsz hb A n c xs zp7 ad m c' news zqy hl h1 h63 zqf;unfold Oper.wp execOp;simp only [ho,resolve,invoke,builtin,Sem.run_bind,Sem.run_pure,Result.andThen_ok,List.map_toArray,List.map_cons,List.map_nil,hs,hx,zqV];exact h A1 c1 w' h2 h3 h4
end
def Jo (m:List (List Int)):Prop:=∀k,k<m.length->qr (zl m k).2
theorem zkx {m:List (List Int)} (hn:AllLen m m.length) {k:Nat} (hk:k<m.length):(zl m k).2[0]? =some (ent (zl m k).2 0 0::Zn m k):=by
 have hl:=ZM m k;have ha:=JK m hn k;have h0:(zl m k).2[0]? =some ((zl m k).2[0]'(by omega)):=by simp
 have hrl:((zl m k).2[0]'(by omega)).length=m.length-k:=ha _ (List.getElem_mem _);rw [h0];congr 1
 apply List.ext_getElem?;intro i
 cases i with
 |zero=>rw [List.getElem?_cons_zero,Ze (by omega),Jf h0 (Ze (by omega))]
 |succ i=>
  rw [List.getElem?_cons_succ,Zn,List.getElem?_map];rcases Zl i (m.length-k-1) with hi |hi
  ·rw [List.getElem?_range hi,Ze (by omega)];simp only [Option.map_some];rw [Jf h0 (Ze (by omega))]
  ·rw [List.getElem?_eq_none (by omega),List.getElem?_eq_none (by simpa using hi)];rfl
def qc (D:List Int) (L:List (List Int)) (k:Nat) (rest:Int) (zero:Bool) (tail:List Int):Int:=if zero then 0 else zG D L k rest tail
def jy (D:List Int) (L:List (List Int)) (k:Nat) (rest:Int) (zero:Bool) (tail:List Int):Nat:=(Zq D L k rest tail-qc D L k rest zero tail+1).toNat
def zaD (zero exact:Bool) (c left:Int):Bool:=!(zero&&decide (c=0))&&!(exact&&!decide (left=0))
def Qh (D:List Int) (L:List (List Int)) (exact:Bool):Nat->Int->Bool->List Int->List (List Int)
 |0,rest,zero,tail=>(List.range (jy D L 0 rest zero tail)).flatMap fun (j:Nat)=>
   if zaD zero exact (qc D L 0 rest zero tail+j) (ZA D L 0 rest tail (qc D L 0 rest zero tail+j)) then [(qc D L 0 rest zero tail+(j:Int))::tail] else []
 |k+1,rest,zero,tail=>(List.range (jy D L (k+1) rest zero tail)).flatMap fun (j:Nat)=>
   Qh D L exact k (ZA D L (k+1) rest tail (qc D L (k+1) rest zero tail+j)) (zero&&decide (qc D L (k+1) rest zero tail+j=0)) ((qc D L (k+1) rest zero tail+(j:Int))::tail)
structure LOwn (w:World) (zd:Nat) (A:Option Addr) (c:Nat) (l:List (List Int)) (vs:List Value):Prop where
 own:Own w zd 37 1 A l.length c vs
 row:∀(i:Nat) (r:List Int),l[i]? =some r->∃B d,vs[i]? =some (.slice B r.length d)/\ArrX zd w B 2 (r.map (Value.int .i64))/\r.length<=d/\d<=9223372036854775807
theorem LOwn.nil (w:World) (zd:Nat):LOwn w zd none 0 [] []:=⟨Own.nil _ _ _ _,fun i r hr=>by simp at hr⟩
theorem LOwn.ext {w w':World} {zd:Nat} {A:Option Addr} {c:Nat} {l:List (List Int)} {vs:List Value} (h:LOwn w zd A c l vs) (hx:Ext w w'):LOwn w' zd A c l vs:=
 ⟨h.own.ext hx,fun i r hr=>by obtain ⟨B,d,a,b,e⟩:=h.row i r hr;exact ⟨B,d,a,b.ext hx,e⟩⟩
theorem LOwn.set {w:World} {zd:Nat} {A:Option Addr} {c:Nat} {l:List (List Int)} {vs:List Value} (h:LOwn w zd A c l vs) {p:Addr} (hp:p.block<zd) (u:Value):LOwn (w.setCell p u) zd A c l vs:=by
 have hk:∀b,zd<=b->(w.setCell p u).heap[b]? =w.heap[b]? :=fun b hb=>Below.heap_setCell w p u b (by omega)
 refine ⟨⟨h.own.1,?_⟩,fun i r hr=>?_⟩
 ·rcases h.own.2 with hv |⟨g,cap,cur,hv,h1,h2,h3⟩
  ·exact .inl hv
  ·exact .inr ⟨g,cap,cur,hv,h1,(hk g h1).trans h2,h3⟩
 ·obtain ⟨B,d,a,b,e⟩:=h.row i r hr;exact ⟨B,d,a,b.keep (fun b' _ _ hb' _=>hk b' hb'),e⟩
theorem LOwn.mat {w:World} {zd:Nat} {A:Option Addr} {c:Nat} {l:List (List Int)} {vs:List Value} (h:LOwn w zd A c l vs):Mat64 w A l:=
 ⟨vs,by have :=h.own.len;omega,h.own.arr,fun i r hr=>by obtain ⟨B,d,a,b,e⟩:=h.row i r hr;exact ⟨B,d,a,b.arr,e⟩⟩
theorem LOwn.snoc {w W w':World} {zd:Nat} {A A' B:Option Addr} {c c' d:Nat} {l:List (List Int)} {r:List Int} {vs:List Value} (h:LOwn w zd A c l vs) (hx:Ext w W) (hg:Grow zd 37 W w') (ho:Own w' zd 37 1 A' (l.length+1) c' (vs++[.slice B r.length d])) (hr:ArrX zd W B 2 (r.map (Value.int .i64))) (h1:r.length<=d) (h2:d<=9223372036854775807):LOwn w' zd A' c' (l++[r]) (vs++[.slice B r.length d]):=by
 have hvl:vs.length=l.length:=by have :=h.own.len;omega
 refine ⟨by rw [List.length_append];exact ho,fun i x hx'=>?_⟩;rcases Zl i l.length with hi |hi
 ·rw [List.getElem?_append_left hi] at hx';obtain ⟨B1,d1,a,b,e⟩:=h.row i x hx';exact ⟨B1,d1,by rw [List.getElem?_append_left (by omega)];exact a,(b.ext hx).oth (Oth.of_grow hg) (by decide),e⟩
 ·have hi':i=l.length:=by
   have :=(Zg.1 hx').1;simp at this;omega
  subst hi';have :x=r:=by simpa using hx'.symm
  subst this;exact ⟨B,d,by rw [List.getElem?_append_right (by omega),hvl];simp,hr.oth (Oth.of_grow hg) (by decide),h1,h2⟩
end Go.Proofs.YtjehjkipcaohpaaGreat
