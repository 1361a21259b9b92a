import Derived.Test.YtgoaelchibpffaaGreatT05
import Derived.RangeFuncNested
import Derived.RangeFuncBound
import Derived.RangeFuncCalls
import Derived.RangeFuncLeaves
import Derived.Shelf.Abstract
import Derived.OwnWalkIn
import Derived.TacticsInMore
import Derived.LoopNIn
import Derived.LoopIn
import Derived.Stop.RegionWithIn
set_option maxHeartbeats 8000000
set_option linter.unusedVariables false
set_option linter.unusedSimpArgs false
namespace Go.Proofs.YtgoaelchibpffaaGreat
open List (getElem?_map length_cons prefix_rfl length_nil nil_append cons_append)
variable {x:Int} {L m:List (List Int)} {D:List Int} {c hi i k lo lo' mc n sz ze:Nat} {A lA mA:Option Addr} {P:Program} {T:TypeId} {u x0 x2 x3:Value} {b w w' w0 wN:World}
section
open Go.RowKit
theorem Oth.grow{e:TypeId}{w2:World}(h:Oth T w w')(hg:Grow w.heap.size e w' w2):Oth T w w2:=fun b cs e' fr hn hb=>(hg.below.block b (zi hb)).trans (h b cs e' fr hn hb)
def Zv(m:List (List Int))(k:Nat):List Int:=(List.range (m.length-k-1)).map fun j=>ent (zm m k).2 0 (j+1)
def zq(m:List (List Int))(k:Nat):List (List Int):=(List.range k).map (Zv m)
def zb1(m:List (List Int)):Prop:=∀k,k<m.length->∀j,j<m.length-k->-9223372036854775808<=ent (zm m k).2 0 j/\ent (zm m k).2 0 j<=9223372036854775807
theorem zlg(h:zb1 m){z:Int}(hz:(zl m m.length)[i]? =some z):-9223372036854775808<=z/\z<=9223372036854775807:=by
 cases i with
 |zero=>simp[zl]at hz;omega
 |succ i=>
  rw[zl,List.getElem?_cons_succ,getElem?_map]at hz;rcases Zl i m.length with hi|hi
  ·rw[List.getElem?_range hi]at hz;simp at hz;subst hz;exact h i hi 0 aa
  ·rw[List.getElem?_eq_none (by simpa using hi)]at hz
   cases hz
theorem zao{b:Nat}{x1:Value}(h:w.heap[b]? =some (.cells #[x0,x1,x2,x3] T (0,0))):w.cell? ⟨b,0,none⟩=some x0/\w.cell? ⟨b,1,none⟩=some x1/\w.cell? ⟨b,2,none⟩=some x2/\w.cell? ⟨b,3,none⟩=some x3/\(∀i,w.frozen? ⟨b,i,none⟩=false)/\b<w.heap.size:=
 ⟨by simp[World.cell?,h],by simp[World.cell?,h],by simp[World.cell?,h],by simp[World.cell?,h],fun i=>by simp[World.frozen?,h],zi h⟩
def ArrX(lo:Nat)(w:World)(A:Option Addr)(e:TypeId)(vs:List Value):Prop:=
 0<vs.length->∃(b o:Nat) (cs:Array Value) (fr:Nat×Nat),A=some ⟨b,o,none⟩/\lo<=b/\w.heap[b]? =some (.cells cs e fr)/\∀(j:Nat)(u:Value),vs[j]? =some u->cs[o+j]? =some u
section
variable {lo:Nat} {w w':World} {A:Option Addr} {e e' T:TypeId} {vs:List Value}
theorem ArrX.keep(h:ArrX lo w A e vs)(hk:∀(b:Nat)(cs:Array Value)(fr:Nat×Nat),lo<=b->w.heap[b]? =some (Obj.cells cs e fr)->w'.heap[b]? =w.heap[b]?):ArrX lo w' A e vs:=fun h0=>by
 obtain⟨b,o,cs,fr,rfl,hl,hb,hc⟩:=h h0;exact⟨b,o,cs,fr,rfl,hl,(hk _ _ _ hl hb).trans hb,hc⟩
theorem ArrX.ext(h:ArrX lo w A e vs)(hx:Ext w w'):ArrX lo w' A e vs:=h.keep fun _ _ _ _ hb=>hx.below.block _ (zi hb)
theorem ArrX.oth(h:ArrX lo w A e vs)(ho:Oth T w w')(hn:e≠T):ArrX lo w' A e vs:=h.keep fun b cs fr _ hb=>(ho b cs e fr hn hb).trans hb.symm
theorem ArrX.arr(h:ArrX lo w A e vs):Arr w A e vs:=fun h0=>by
 obtain⟨b,o,cs,fr,rfl,_,hb,hc⟩:=h h0;exact⟨b,o,cs,fr,rfl,hb,hc⟩
theorem ArrX.at_(h:ArrX lo w A e vs)(hu:vs[i]? =some u):∃b o,A=some ⟨b,o,none⟩/\w.cell? ⟨b,o+i,none⟩=some u/\lo<=b/\b<w.heap.size:=by
 have hl:0<vs.length:=by
  rcases Nat.eq_zero_or_pos vs.length with h0|h0
  ·have:=List.eq_nil_of_length_eq_zero h0;subst this;simp at hu
  ·exact h0
 obtain⟨b,o,cs,fr,rfl,hlo,hb,hc⟩:=h hl;exact⟨b,o,rfl,by rw[cell_of_row w b (o+i) cs e fr hb];exact hc i u hu,hlo,zi hb⟩
theorem Own.arrX{size:Nat}{xs:List Value}(h:Own w ze e size A n c xs):ArrX ze w A e xs:=fun h0=>by
 rcases h.2 with ⟨hv,hn⟩|⟨g,cap,cur,hv,h1,h2,_,_,_,h4⟩
 ·have:=h.1;rw[hn]at this;omega
 ·injection hv with hA
  subst hA;refine⟨g,0,cur,(0,0),rfl,h1,h2,fun j u hu=>?_⟩;rw[<-h4,List.getElem?_take]at hu;split at hu
  ·simpa using hu
  ·cases hu
theorem ArrX.lower(h:ArrX lo w A e vs)(hl:lo'<=lo):ArrX lo' w A e vs:=fun h0=>by
 obtain⟨b,o,cs,fr,rfl,h1,hb,hc⟩:=h h0;exact⟨b,o,cs,fr,rfl,aa,hb,hc⟩
end
def Mat64X(lo:Nat)(w:World)(A:Option Addr)(L:List (List Int)):Prop:=
 ∃vs:List Value,vs.length=L.length/\ArrX lo w A 34 vs/\∀(i:Nat)(r:List Int),L[i]? =some r->∃B c,vs[i]? =some (.slice B r.length c)/\ArrX lo w B 2 (r.map (Value.int .i64))/\r.length<=c/\c<=9223372036854775807
structure WalkV(w w':World)(za:Int)(D:List Int)(L:List (List Int))(n:Nat)(mA lA:Option Addr)(mc lc:Nat):Prop where
 st:w'.heap[w.heap.size+1]? =some (.cells #[.int .i64 za,.slice mA D.length mc,.slice lA L.length lc,.slice (some ⟨w.heap.size,0,none⟩) n n] 289 (0,0))
 xs:Row w' w.heap.size 2 .i64 (List.replicate n 0)
 mi:ArrX (w.heap.size+2) w' mA 2 (D.map (Value.int .i64))
 la:Mat64X (w.heap.size+2) w' lA L
 mc0:D.length<=mc
 mc1:mc<=9223372036854775807
 lc0:L.length<=lc
 lc1:lc<=9223372036854775807
def zlh(w:World)(za:Int)(D:List Int)(L:List (List Int))(n:Nat)(e:Ending)(w':World):Prop:=e= .returned (.pointer (some ⟨w.heap.size+1,0,none⟩))/\(∃mA lA mc lc,WalkV w w' za D L n mA lA mc lc)/\Step w w'
theorem zfZ(D:List Int)(k:Nat)(z:Int)(h:D[k]? =some z):(D.take (k+1)).map (Value.int .i64)=(D.take k).map (Value.int .i64)++[.int .i64 z]:=by
 rw[List.take_add_one,h];simp
theorem zli{b:Nat}{x1:Value}(h:w.heap[b]? =some (.cells #[x0,x1,x2,x3] T (0,0))):(w.setCell ⟨b,1,none⟩ u).heap[b]? =some (.cells #[x0,u,x2,x3] T (0,0)):=by
 rw[zX h];rfl
theorem zlj{b:Nat}{x1:Value}(h:w.heap[b]? =some (.cells #[x0,x1,x2,x3] T (0,0))):(w.setCell ⟨b,2,none⟩ u).heap[b]? =some (.cells #[x0,x1,u,x3] T (0,0)):=by
 rw[zX h];rfl
set_option maxRecDepth 10000 in
theorem zlk{za:Int}(h:MatA w0 A m)(h1:1<=m.length)(h8:m.length<=8)(hn:AllLen m m.length)(hF:qf m)(hok:ElimOK m)(h64:zb1 m)[hx:Ext w0 w]:
  Cq 190 #[.slice A m.length c,.int .i64 za] w (zlh w za (zl m m.length) (zq m m.length) m.length):=by
 have hel:=fun W(hxx:Ext w0 W)=>zk8 (c:=c) (w:=W) h h1 h8 hn hF hok
 have HEL:=Zh hel;have hmk:=ZH (P:=Tryz.prog) Tryz.underlying34 qb aa (m.length:Int) aa aa;have HN:=Zh hn;have H64:=Zh h64;clear hel hn hF hok h64;go_enter Tryz.func190,Tryz.ntmps190;go_wp2_with (go_at_call 253;refine(HEL.out _ Zi).mono ?_;rintro e w1 ⟨A1,c1,B1,d1,rfl,hS,hM,k1,k2,k3,k4,hs1⟩)
 have zs6:(w1.alloc (.cells #[.slice A1 m.length c1,.slice B1 (m.length+1) d1] 291)).heap[w.heap.size+1]? =some (.cells #[.int .i64 za,.slice none 0 0,.slice none 0 0,.slice (some ⟨w.heap.size,0,none⟩) m.length m.length] 289 (0,0)):=by
  refine zg (Ext.trans hs1.ext Zi) ?_;have:=heap_alloc_new (w.alloc (.cells (zH #[.int .i64 0] m.length) 2)) (.cells #[.int .i64 za,.slice none 0 0,.slice none 0 0,.slice (some ⟨w.heap.size,0,none⟩) m.length m.length] 289);simpa using this
 have zvm:Row (w1.alloc (.cells #[.slice A1 m.length c1,.slice B1 (m.length+1) d1] 291)) w.heap.size 2 .i64 (List.replicate m.length 0):=by
  have h2:=Row.made w m.length .i64 2;rw[<-zdn]at h2;exact(h2.ext Zi).ext (Ext.trans hs1.ext Zi)
 have hea:(w1.alloc (.cells #[.slice A1 m.length c1,.slice B1 (m.length+1) d1] 291)).heap[w1.heap.size]? =some (.cells #[.slice A1 m.length c1,.slice B1 (m.length+1) d1] 291 (0,0)):=heap_alloc_new _ _;have hxa:Ext w (w1.alloc (.cells #[.slice A1 m.length c1,.slice B1 (m.length+1) d1] 291)):=Ext.trans (Ext.trans Zi hs1.ext) Zi;have hSa:=hS.ext (Zi:Ext w1 (w1.alloc (.cells #[.slice A1 m.length c1,.slice B1 (m.length+1) d1] 291)))
 have hMa:=hM.ext (Zi:Ext w1 (w1.alloc (.cells #[.slice A1 m.length c1,.slice B1 (m.length+1) d1] 291)));have zxU:w.heap.size+2<=w1.heap.size:=by have:=hs1.size;simpa using this
 generalize hwa:w1.alloc (.cells #[.slice A1 m.length c1,.slice B1 (m.length+1) d1] 291)=wa at*
 clear hwa hS hM hs1 HEL hmk;have zrV:=Zh zs6;have zrW:=Zh zvm;have HEA:=Zh hea;have hDl:(zl m m.length).length=m.length+1:=za2 _ _;obtain⟨D,hD⟩:=Xz (zl m m.length);rw[<-hD]at hMa hDl;have HD:=Zh hD;have HDL:=Zh hDl;have zrX:Hid (∀i z,D[i]? =some z->-9223372036854775808<=z/\z<=9223372036854775807):=Zh (fun i z hz=>zlg H64.out (by rw[<-hD];exact hz));have zxV:w1.heap.size<wa.heap.size:=zi hea
 clear zs6 zvm hea hD hDl;go_loopw [8,25] (fun _ i wr=>∃(k:Nat) (B:Option Addr) (d:Nat),k<=m.length+1/\i= .int .i64 k/\wr.heap[w.heap.size+1]? =some (.cells #[.int .i64 za,.slice B k d,.slice none 0 0,.slice (some ⟨w.heap.size,0,none⟩) m.length m.length] 289 (0,0))/\Own wr wa.heap.size 2 1 B k d ((D.take k).map (Value.int .i64))/\Oth 289 wa wr/\Ext w wr/\wa.heap.size<=wr.heap.size) (fun _ i _=>m.length+1-(intOf i).toNat)
 case atStart=>exact⟨0,none,0,aa,rfl,zrV.out,Own.nil _ _ _ _,Oth.refl _ _,hxa,Zr⟩
 case round=>
  obtain⟨k,B,d,hk,rfl,hst,zsq,zsJ,hxr,hwr⟩:=hrel;obtain⟨s1,s2,s3,s4,s5,s6⟩:=zao hst;have s7:=s5 1;have s8:=s5 2;clear s5;have HST:=Zh hst;clear hst;by_cases hlt:k<m.length+1
  ·obtain⟨b,o,g,B',n',c',rfl,e1,e2,e3,e4⟩:=(hMa.oth zsJ ac ac).at_ (i:=k) (by have:=HDL.out;omega);obtain⟨z,hz⟩:∃z,D[k]? =some z:=⟨_,Ze (by have:=HDL.out;omega)⟩;have hzz:D[k]'(by have:=HDL.out;omega)=z:=(Zg.1 hz).2;rw[hzz]at e3;have ztE:=zrX.out k z hz;have HZ:=Zh hz;clear hz hzz;have oS:Old (w.heap.size+1) wr:=⟨s6⟩;go_wp2;go_region_law (first
    |((refine QS _ rfl (.tmp 33) (.tmp 36) 34 rfl wa.heap.size 2 (.int .i64 0) 1 8 Tryz.underlying34 qb rfl ac ac B k d _ (by simp[Act.eval]) (zsq.ext Zi) (some ⟨w3.heap.size,0,none⟩) 1 1 [.int .i64 z] (by simp[Act.eval]) (Arr.new w3 2 #[.int .i64 z]) rfl (by simp[Value.oneCell']) aa (by have:=hs3.size;simp at this|-;omega) ?_);intro A4 d4 w4 zsW hg4;have hb4:=hg4.heap (zg (Zi:Ext wr (w3.alloc (Obj.cells #[Value.int .i64 z] 2))) HST.out) ac;obtain⟨q1,q2,q3,q4,q5,q6⟩:=zao hb4;have q7:=q5 1;have HB4:=Zh hb4;clear hb4 q5)
    |(go_simp;go_at_call 254;refine(zfP e3 ztE.1 ztE.2).mono ?_;rintro e w3 ⟨rfl,hs3⟩))
   all_goals
    go_wp2;refine⟨⟨k+1,A4,d4,aa,by go_num,zli HB4.out,?_,?_,?_,?_⟩,by simp[intOf]<;>omega⟩
    ·rw[zfZ D k z HZ.out];exact zsW.far (p:=⟨w.heap.size+1,1,none⟩) HB4.out ac _
    ·exact((zsJ.trans (Oth.of_ext (Zi:Ext wr (w3.alloc (Obj.cells #[Value.int .i64 z] 2))))).grow hg4).trans (Oth.set (p:=⟨w.heap.size+1,1,none⟩) HB4.out _)
    ·exact(hg4.ext Zi hxa.size).setCell (p:=⟨w.heap.size+1,1,none⟩) (Nat.le_succ _) _
    ·rw[ZE];have h1:=hg4.below.size;have h2:=hs3.size;simp at h1 h2;omega
  ·obtain⟨kk,rfl⟩:=Xz k;have hDt:D.take kk=D:=List.take_of_length_le (by rw[HDL.out];omega);have HKK:Hid (kk=m.length+1):=Zh aa;have zxW:kk<=9:=aa
   have hkd:decide ((kk:Int)<(m.length:Int)+1)=false:=by simp;omega
   clear hlt hk;rw[hDt]at zsq;clear hDt;have hea:=zsJ _ _ _ _ ac HEA.out;obtain⟨t1,t2,-,-,t5⟩:=zN hea;clear hea;obtain⟨wb,rfl⟩:∃wb:World,wb=wr:=⟨_,rfl⟩;go_wp2;go_loopw [10,11,13,44] (fun _ _ _ i wr=>∃(k:Nat) (Lh:Option Addr) (lc:Nat) (vs:List Value),k<=m.length/\i= .int .i64 k/\wr.heap[w.heap.size+1]? =some (.cells #[.int .i64 za,.slice B kk d,.slice Lh k lc,.slice (some ⟨w.heap.size,0,none⟩) m.length m.length] 289 (0,0))/\Own wr wa.heap.size 2 1 B kk d (D.map (Value.int .i64))/\Own wr wa.heap.size 34 1 Lh k lc vs/\Hid (∀i,i<k->∃B c,vs[i]? =some (.slice B (Zv m i).length c)/\ArrX wa.heap.size wr B 2 ((Zv m i).map (Value.int .i64))/\(Zv m i).length<=c/\c<=9223372036854775807)/\Oth 289 wa wr/\Ext w wr/\wa.heap.size<=wr.heap.size) (fun _ _ _ i _=>m.length-(intOf i).toNat)
   case atStart=>exact⟨0,none,0,[],aa,rfl,HST.out,zsq,Own.nil _ _ _ _,Zh (fun i hi=>absurd hi aa),zsJ,hxr,hwr⟩
   case round=>
    clear zsq zsJ s1 s2 s3 s4 s6 s7 s8 HST t1 t2 t5 hwr hxr;obtain⟨k,Lh,lc,vs,hk,rfl,hst,zsq,hownL,HV,zsJ,hxr,hwr⟩:=hrel;obtain⟨s1,s2,s3,s4,s5,s6⟩:=zao hst;have s8:=s5 2;clear s5;have HST:=Zh hst;clear hst;by_cases hlt:k<m.length
    ·obtain⟨b',o',b1,o1,c1',b2,o2,c2',rfl,l1,l2,l3,l4,L5,L6⟩:=StV.rowAt (hSa.oth zsJ ac ac ac ac) HN.out hlt;obtain⟨wi,rfl⟩:∃wi:World,wi=wr:=⟨_,rfl⟩;obtain⟨p1,p2,p3,p4,p5⟩:=L5 wi Zi;obtain⟨r,hr⟩:∃r,m.length-k=r+1:=⟨m.length-k-1,aa⟩;rw[hr]at p1 p2 l1 l3;have HR:=Zh hr;have HL6:=Zh L6;have hlr:Hid ((Zv m k).length=r):=Zh (by simp[Zv];omega);have hlg:Hid (∀q,q<r->(Zv m k)[q]? =some (ent (zm m k).2 0 (q+1))):=Zh (fun q hq=>by rw[Zv,getElem?_map,List.getElem?_range aa];rfl)
     obtain⟨R,hRR⟩:=Xz (Zv m k);rw[<-hRR]at hlr hlg;have HRR:=Zh hRR;have hr8:r<=8:=aa
     clear L5 L6 hr hRR;by_cases hc1:c2'=1
     all_goals
      go_wp2;go_loopw [11,13,53] (fun s _ i wr=>∃(q:Nat) (B:Option Addr) (c:Nat),q<=r/\i= .int .i64 q/\s= .slice B q c/\Own wr wi.heap.size 2 1 B q c ((R.take q).map (Value.int .i64))/\Ext wi wr) (fun _ _ i _=>r-(intOf i).toNat)
      case atStart=>exact⟨0,none,0,aa,rfl,rfl,Own.nil _ _ _ _,Zi⟩
      case round=>
       obtain⟨q,B0,c0,hq,rfl,rfl,ztD,hxq⟩:=hrel;by_cases zsM:q<r
       ·try(exfalso;omega)
        all_goals
         obtain⟨g,B',n',c',e3,E4⟩:=HL6.out (q+1) (by have:=HR.out;omega);obtain⟨e1,e2⟩:=E4 wr hxq;have ztE:=H64.out k hlt (q+1) (by have:=HR.out;omega);have hg1:=hlg.out q zsM;obtain⟨z,hz⟩:=Xz (ent (zm m k).2 0 (q+1));rw[<-hz]at ztE hg1 e3;rw[(aa:o2+(q+1)*2=o2+2+q*2)]at e1 e2;have HZ:=Zh hg1;have p6:b2<wr.heap.size:=Nat.lt_of_lt_of_le p5 hxq.size;clear hz hg1 E4;go_wp2_with (first
          |(at_builtin;refine Zp _ rfl _ _ 34 rfl wi.heap.size 2 (.int .i64 0) 1 8 Tryz.underlying34 qb rfl aa aa B0 q c0 _ rfl (ztD.ext Zi) _ 1 1 [.int .i64 z] rfl (Arr.new w3 2 #[.int .i64 z]) af (by simp[Value.oneCell']) aa (by have:=hxq.size;have:=hs3.size;simp at this|-;omega) ?_;intro A4 d4 w4 zsW hg4)
          |(go_at_call 254;refine(zfP e3 ztE.1 ztE.2).mono ?_;rintro e w3 ⟨rfl,hs3⟩))
         refine⟨⟨q+1,A4,d4,aa,by go_num,rfl,?_,?_⟩,by simp[intOf]<;>omega⟩
         ·rw[zfZ R q z HZ.out];exact zsW
         ·exact hg4.ext Zi Zr
       ·obtain rfl:q=r:=aa
        clear zsM;have hRt:R.take q=R:=List.take_of_length_le (by rw[hlr.out];omega);rw[hRt]at ztD;clear hRt;obtain⟨u1,u2,u3,u4,u5,u6⟩:=zao (zg hxq HST.out);have u7:=u5 2;have oS:Old (w.heap.size+1) wr:=⟨u6⟩;clear u5;go_wp2_with (at_builtin;refine Zp _ rfl _ _ 25 rfl wa.heap.size 34 (.slice none 0 0) 1 24 Tryz.underlying25 qe rfl aa aa Lh k lc vs rfl (hownL.ext Zi) _ 1 1 [.slice B0 q c0] rfl (Arr.new wr 34 #[.slice B0 q c0]) af (by simp[Value.oneCell']) aa (by have:=hxq.size;simp at this|-;omega) ?_;intro A4 d4 w4 zsW hg4;have hb4:=hg4.heap (zg (Zi:Ext wi (wr.alloc (Obj.cells #[Value.slice B0 q c0] 34))) HST.out) ac;obtain⟨q1,q2,q3,q4,q5,q6⟩:=zao hb4;have q7:=q5 2;have HB4:=Zh hb4;clear hb4 q5)
        have hoT:=Oth.set (p:=⟨w.heap.size+1,2,none⟩) HB4.out (.slice A4 (k+1) d4);refine⟨⟨k+1,A4,d4,vs++[.slice B0 q c0],aa,by go_num,zlj HB4.out,?_,?_,Zh (fun i hi=>?_),?_,?_,?_⟩,by simp[intOf]<;>omega⟩
        ·exact((zsq.ext (Ext.trans hxq Zi)).grow hg4 ac).oth hoT ac
        ·exact zsW.oth hoT ac
        ·have hkl:vs.length=k:=by have:=hownL.len;omega
         rcases Zl i k with hi'|hi'
         ·obtain⟨B5,c5,y1,y2,y3⟩:=HV.out i hi';exact⟨B5,c5,by rw[List.getElem?_append_left aa];exact y1,((y2.ext (Ext.trans hxq Zi)).oth (Oth.of_grow hg4) ac).oth hoT ac,y3⟩
         ·obtain rfl:i=k:=aa
          rw[<-HRR.out,hlr.out];have zsB:=ztD.cap;exact⟨B0,c0,by rw[List.getElem?_append_right aa,hkl];simp,(((ztD.arrX.lower hwr).ext Zi).oth (Oth.of_grow hg4) ac).oth hoT ac,zsB.1,zsB.2⟩
        ·exact((zsJ.trans (Oth.of_ext (Ext.trans hxq Zi))).grow hg4).trans hoT
        ·exact(hg4.ext (Ext.trans hxr (Ext.trans hxq Zi)) hxa.size).setCell (p:=⟨w.heap.size+1,2,none⟩) (Nat.le_succ _) _
        ·rw[ZE];have h1:=hg4.below.size;have h2:=hxq.size;simp at h1;omega
    ·obtain rfl:k=m.length:=aa
     clear hlt;go_wp2;go_ret;have hLl:(zq m m.length).length=m.length:=by simp[zq]
     have zsB:=zsq.cap;have hcapL:=hownL.cap;have hDk:D.length=kk:=by rw[HDL.out,HKK.out]
     rw[<-HD.out];refine⟨rfl,⟨B,Lh,d,lc,{st:=?_,xs:=?_,mi:=?_,la:=?_,mc0:=?_,mc1:=zsB.2,lc0:=?_,lc1:=hcapL.2}⟩,hxr.toStep⟩
     ·rw[hDk,hLl];exact HST.out
     ·exact zsJ _ _ _ _ ac zrW.out
     ·exact zsq.arrX.lower (lo':=w.heap.size+2) aa
     ·refine⟨vs,by rw[hLl];have:=hownL.len;omega,hownL.arrX.lower aa,fun i r hr=>?_⟩;have hi:i<m.length:=by
       rcases Zl i m.length with hi|hi
       ·exact hi
       ·rw[List.getElem?_eq_none aa]at hr;cases hr
      have hr':r=Zv m i:=by
       rw[zq,getElem?_map,List.getElem?_range hi]at hr;simpa using hr.symm
      subst hr';obtain⟨B5,c5,y1,y2,y3,y4⟩:=HV.out i hi;exact⟨B5,c5,y1,y2.lower aa,y3,y4⟩
     ·rw[hDk];exact zsB.1
     ·rw[hLl];exact hcapL.1
def zU:List Int->Int
 |[]=>0
 |x::l=>(x.natAbs:Int)+zU l
theorem za7:∀l,0<=zU l
 |[]=>Int.le_refl _
 |x::l=>by have:=za7 l;simp only[zU];omega
theorem zap:∀(l:List Int)(i:Nat)(x:Int),l[i]? =some x->-zU l<=x/\x<=zU l
 |[],_,_,h=>by simp at h
 |y::l,0,x,h=>by simp at h;subst h;have:=za7 l;simp only[zU];omega
 |y::l,i+1,x,h=>by have:=zap l i x (by simpa using h);simp only[zU];omega
theorem zf0(d:Int)(hd:0<=d):∀(l m:List Int),(∀x∈l,-d<=2*x/\2*x<=d)->-(d*zU m)<=2*zx l m/\2*zx l m<=d*zU m
 |[],m,_=>by
  have:=Int.mul_nonneg hd (za7 m);simp only[za3];omega
 |x::l,[],_=>by simp[zx,zU]
 |x::l,y::m,h=>by
  have ih:=zf0 d hd l m (fun z hz=>h z (by simp[hz]));have hx:=h x af;have hb:=Qs (a:=2*x) (b:=y) (A:=d) (B:=(y.natAbs:Int)) hx.1 hx.2 aa aa;simp only[zx,zU];have e1:2*(x*y+zx l m)=2*x*y+2*zx l m:=by rw[Int.mul_add,Int.mul_assoc]
  have e2:d*((y.natAbs:Int)+zU m)=d*(y.natAbs:Int)+d*zU m:=Int.mul_add _ _ _;rw[e1,e2];omega
def qJ(L:List (List Int))(k:Nat)(tail:List Int):Int:=zx (L.getD k []) tail
def vD(D:List Int)(k:Nat):Int:=D.getD k 0
def ZZ(D:List Int)(k:Nat)(rest:Int):Int:=vD D k*rest
def vR(D:List Int)(k:Nat)(rest:Int):Int:=(zw (ZZ D k rest).toNat:Nat)
def zR(D:List Int)(L:List (List Int))(k:Nat)(rest:Int)(tail:List Int):Int:=-((vR D k rest+qJ L k tail) / vD D (k+1))
def Z6(D:List Int)(L:List (List Int))(k:Nat)(rest:Int)(tail:List Int):Int:=(vR D k rest-qJ L k tail) / vD D (k+1)
def vU(D:List Int)(L:List (List Int))(k:Nat)(tail:List Int)(x:Int):Int:=vD D (k+1)*x+qJ L k tail
def Z7(D:List Int)(L:List (List Int))(k:Nat)(rest:Int)(tail:List Int)(x:Int):Int:=(ZZ D k rest-vU D L k tail x*vU D L k tail x) / vD D (k+1)
def Zf(D:List Int)(L:List (List Int))(k:Nat)(rest:Int)(tail:List Int):Int:=Z6 D L k rest tail-zR D L k rest tail+1
def ZF(D:List Int)(L:List (List Int))(n:Nat):Nat->Int->List Int->List (Int×Int)
 |0,rest,tail=>[((n:Int),Zf D L 0 rest tail)]
 |k+1,rest,tail=>((n:Int)-(k+1:Nat),Zf D L (k+1) rest tail)::
   (List.range (Zf D L (k+1) rest tail).toNat).flatMap fun(j:Nat)=>ZF D L n k (Z7 D L (k+1) rest tail (zR D L (k+1) rest tail+(j:Int))) ((zR D L (k+1) rest tail+(j:Int))::tail)
structure NumOK(D:List Int)(L:List (List Int))(n:Nat)(za:Int):Prop where
 n8:n<=8
 dl:D.length=n+1
 ll:L.length=n
 row:∀k,k<n->(L.getD k []).length=n-1-k
 d1:∀k,k<=n->1<=vD D k
 d2:∀k,k<=n->vD D k<65536
 lam:∀k,k<n->∀x∈L.getD k [],-(vD D (k+1))<=2*x/\2*x<=vD D (k+1)
 b0:0<=za
 b1:za<1073741824
structure LevOK(D:List Int)(n:Nat)(za:Int)(k:Nat)(rest:Int)(tail:List Int):Prop where
 kn:k<n
 r0:0<=rest
 r1:rest<=vD D (k+1)*za
 tl:tail.length=n-1-k
 ts:zU tail+4294967296<=4294967296*2^tail.length
section
variable {D:List Int} {L:List (List Int)} {n:Nat} {za:Int} {k:Nat} {rest:Int} {tail:List Int}
theorem zb2(hN:NumOK D L n za)(h:LevOK D n za k rest tail):0<=ZZ D k rest/\ZZ D k rest<4611686018427387904:=by
 have h1:=hN.d1 k (by have:=h.kn;omega);have h2:=hN.d2 k (by have:=h.kn;omega);have h3:=hN.d1 (k+1) (by have:=h.kn;omega);have h4:=hN.d2 (k+1) (by have:=h.kn;omega);have b0:=hN.b0;have b1:=hN.b1;have r0:=h.r0;have r1:=h.r1;have e1:vD D (k+1)*za<=65535*1073741823:=by
  have:=Qs (a:=vD D (k+1)) (b:=za) (A:=65535) (B:=1073741823) aa aa aa aa;exact this.2
 have e2:vD D k*rest<=65535*(65535*1073741823):=by
  have:=Qs (a:=vD D k) (b:=rest) (A:=65535) (B:=65535*1073741823) aa aa aa aa;exact this.2
 refine⟨Int.mul_nonneg aa r0,?_⟩;unfold ZZ;omega
theorem Jn(hN:NumOK D L n za)(h:LevOK D n za k rest tail):0<=vR D k rest/\vR D k rest<2147483648/\vR D k rest*vR D k rest<=ZZ D k rest:=by
 obtain⟨h0,h1⟩:=zb2 hN h;obtain⟨s1,s2⟩:=Qb (ZZ D k rest).toNat;unfold vR;obtain⟨q,hq⟩:=Xz (zw (ZZ D k rest).toNat);rw[<-hq]at s1|-
 refine⟨aa,?_,?_⟩
 ·rcases Zl q 2147483648 with h|h
  ·omega
  ·have:=Nat.mul_le_mul h h;omega
 ·have:((q*q:Nat):Int)<=ZZ D k rest:=aa
  simpa using this
theorem zll{m:Nat}(h:m<=7):(2:Int)^m<=128:=by
 have h1:(2:Nat)^m<=2^7:=Nat.pow_le_pow_right aa h;have h2:((2^m:Nat):Int)=(2:Int)^m:=af
 omega
theorem Jo(hN:NumOK D L n za)(h:LevOK D n za k rest tail):0<=zU tail/\zU tail<=549755813888:=by
 have h1:=za7 tail;have h2:=h.ts;have h3:=zll (m:=tail.length) (by have:=h.tl;have:=hN.n8;omega);omega
theorem zdx(hN:NumOK D L n za)(h:LevOK D n za k rest tail):-(vD D (k+1)*zU tail)<=2*qJ L k tail/\2*qJ L k tail<=vD D (k+1)*zU tail:=
 zf0 _ (by have:=hN.d1 (k+1) (by have:=h.kn;omega);omega) _ _ (hN.lam k h.kn)
theorem zf1(hN:NumOK D L n za)(h:LevOK D n za k rest tail):0<=vD D (k+1)*zU tail/\vD D (k+1)*zU tail<=36028247263150080:=by
 have h1:=hN.d1 (k+1) (by have:=h.kn;omega);have h2:=hN.d2 (k+1) (by have:=h.kn;omega);have h3:=Jo hN h;have:=Qs (a:=vD D (k+1)) (b:=zU tail) (A:=65535) (B:=549755813888) aa aa aa aa;exact⟨Int.mul_nonneg aa h3.1,aa⟩
theorem zf2{r t d S q:Int}(hr:0<=r)(hd:1<=d)(h1:-(d*S)<=2*t)(h2:2*t<=d*S)(hq:q=(r+t) / d):-S-1<=2*q/\2*q<=2*r+S:=by
 have e1:=Int.mul_ediv_add_emod (r+t) d;have e2:=Int.emod_nonneg (r+t) ((aa:d≠0));have e3:=Int.emod_lt_of_pos (r+t) ((aa:0<d));rw[<-hq]at e1;constructor
 ·rcases Int.lt_or_le (2*q) (-S-1) with h|h
  ·exfalso;have h5:d*(2*q+2)<=d*(-S):=Int.mul_le_mul_of_nonneg_left aa aa;rw[Int.mul_neg,Int.mul_add,Int.mul_left_comm]at h5;omega
  ·exact h
 ·rcases Int.lt_or_le (2*r+S) (2*q) with h|h
  ·exfalso;have h5:d*(2*r+S+1)<=d*(2*q):=Int.mul_le_mul_of_nonneg_left aa aa;have h6:1*(2*r)<=d*(2*r):=Int.mul_le_mul_of_nonneg_right hd aa;rw[Int.mul_add,Int.mul_add,Int.mul_left_comm d 2 q]at h5;omega
  ·exact h
theorem zaq(hN:NumOK D L n za)(h:LevOK D n za k rest tail):
  -(2*vR D k rest+zU tail)<=2*zR D L k rest tail/\2*zR D L k rest tail<=zU tail+1/\-zU tail-1<=2*Z6 D L k rest tail/\2*Z6 D L k rest tail<=2*vR D k rest+zU tail:=by
 obtain⟨r0,r1,-⟩:=Jn hN h;obtain⟨s1,s2⟩:=zdx hN h;have hd:=hN.d1 (k+1) (by have:=h.kn;omega);have hS:=za7 tail;have a:=zf2 r0 hd s1 s2 rfl;have b:=zf2 (t:=-(qJ L k tail)) (S:=zU tail) r0 hd aa aa rfl;unfold zR Z6;rw[(aa:vR D k rest-qJ L k tail=vR D k rest+-(qJ L k tail))];omega
theorem zar(hN:NumOK D L n za)(h:LevOK D n za k rest tail):0<=Zf D L k rest tail/\Zf D L k rest tail<=1099511627776:=by
 obtain⟨r0,r1,-⟩:=Jn hN h;obtain⟨e1,e2,e3,e4⟩:=zaq hN h;have hS:=Jo hN h;refine⟨?_,by unfold Zf;omega⟩;have hd:=hN.d1 (k+1) (by have:=h.kn;omega);unfold Zf zR Z6;clear e1 e2 e3 e4;generalize vD D (k+1)=d at hd|-
 generalize qJ L k tail=t;generalize vR D k rest=r at r0 r1|-
 have a1:=Int.mul_ediv_add_emod (r+t) d;have a2:=Int.emod_lt_of_pos (r+t) ((aa:0<d));have b1:=Int.mul_ediv_add_emod (r-t) d;have b2:=Int.emod_lt_of_pos (r-t) ((aa:0<d));obtain⟨p,hp⟩:=Xz ((r+t) / d);obtain⟨q,hq⟩:=Xz ((r-t) / d);rw[<-hp]at a1|-
 rw[<-hq]at b1|-
 rcases Int.lt_or_le (p+q) (-1) with h|h
 ·exfalso;have h5:d*(p+q)<=d*(-2):=Int.mul_le_mul_of_nonneg_left aa aa;rw[Int.mul_add]at h5;omega
 ·omega
theorem zdy(hN:NumOK D L n za)(h:LevOK D n za k rest tail)(h1:zR D L k rest tail<=x)(h2:x<=Z6 D L k rest tail):-(vR D k rest)<=vU D L k tail x/\vU D L k tail x<=vR D k rest:=by
 have hd:=hN.d1 (k+1) (by have:=h.kn;omega);unfold zR at h1;unfold Z6 at h2;unfold vU;generalize vD D (k+1)=d at hd h1 h2|-
 generalize qJ L k tail=t at h1 h2|-
 generalize vR D k rest=r at h1 h2|-
 have a1:=Int.mul_ediv_add_emod (r+t) d;have a2:=Int.emod_nonneg (r+t) ((aa:d≠0));have b1:=Int.mul_ediv_add_emod (r-t) d;have b2:=Int.emod_nonneg (r-t) ((aa:d≠0));have c1:d*(-x)<=d*((r+t) / d):=Int.mul_le_mul_of_nonneg_left aa aa;have c2:d*x<=d*((r-t) / d):=Int.mul_le_mul_of_nonneg_left aa aa;rw[Int.mul_neg]at c1;omega
theorem zdz(hN:NumOK D L n za)(h:LevOK D n za k rest tail)(h1:zR D L k rest tail<=x)(h2:x<=Z6 D L k rest tail):0<=ZZ D k rest-vU D L k tail x*vU D L k tail x/\0<=vU D L k tail x*vU D L k tail x/\0<=Z7 D L k rest tail x/\Z7 D L k rest tail x<=vD D k*za:=by
 obtain⟨u1,u2⟩:=zdy hN h h1 h2;obtain⟨r0,r1,r2⟩:=Jn hN h;have hd:=hN.d1 (k+1) (by have:=h.kn;omega);have hdk:=hN.d1 k (by have:=h.kn;omega);obtain⟨u,hu⟩:=Xz (vU D L k tail x);have hu2:=Qs (a:=u) (b:=u) (A:=vR D k rest) (B:=vR D k rest) aa aa aa aa;have hu3:0<=u*u:=by
  rcases Int.le_total 0 u with h|h
  ·exact Int.mul_nonneg h h
  ·exact Int.mul_nonneg_of_nonpos_of_nonpos h h
 have hb:=h.r1;unfold Z7;rw[<-hu];have hq:=zb2 hN h;have hp1:0<=ZZ D k rest-u*u:=aa
 refine⟨hp1,hu3,Int.ediv_nonneg hp1 aa,?_⟩;have e1:ZZ D k rest-u*u<=vD D (k+1)*(vD D k*za):=by
  have:vD D k*rest<=vD D k*(vD D (k+1)*za):=Int.mul_le_mul_of_nonneg_left hb aa;rw[Int.mul_left_comm]at this;unfold ZZ;omega
 exact Int.ediv_le_of_le_mul aa (by rw[Int.mul_comm (vD D k*za)];exact e1)
theorem LevOK.next(hN:NumOK D L n za)(h:LevOK D n za (k+1) rest tail)(h1:zR D L (k+1) rest tail<=x)(h2:x<=Z6 D L (k+1) rest tail):LevOK D n za k (Z7 D L (k+1) rest tail x) (x::tail):=by
 obtain⟨-,-,a,b⟩:=zdz hN h h1 h2;obtain⟨r0,r1,-⟩:=Jn hN h;obtain⟨e1,e2,e3,e4⟩:=zaq hN h;have hS:=Jo hN h;have ht:=h.ts;refine⟨by have:=h.kn;omega,a,b,by simp[h.tl];have:=h.kn;omega,?_⟩;simp only[zU,length_cons,Int.pow_succ];omega
end
end
section
open Go.RowKit Go.Shelf
attribute [local go_sem] Oper.semAt_some
structure KeepW(lo hi:Nat)(w w':World):Prop where
 block:∀b,lo<=b->b<hi->w'.heap[b]? =w.heap[b]?
 size:w.heap.size<=w'.heap.size
theorem KeepW.refl(lo hi:Nat)(w:World):KeepW lo hi w w:=⟨fun _ _ _=>rfl,Zr⟩
theorem KeepW.trans{a c:World}(h:KeepW lo hi a b)(h':KeepW lo hi b c):KeepW lo hi a c:=⟨fun i h1 h2=>(h'.block i h1 h2).trans (h.block i h1 h2),Nat.le_trans h.size h'.size⟩
theorem KeepW.mono{a:World}(h:KeepW lo hi a b)(hl:lo<=lo'):KeepW lo' hi a b:=⟨fun i h1 h2=>h.block i aa h2,h.size⟩
theorem KeepW.set{a:World}(h:KeepW lo hi a b){p:Addr}(hp:p.block<lo)(u:Value):KeepW lo hi a (b.setCell p u):=
 ⟨fun i h1 h2=>(Below.heap_setCell b p u i aa).trans (h.block i h1 h2),by rw[ZE];exact h.size⟩
theorem KeepW.cell{a:World}(h:KeepW lo hi a b){p o:Nat}(h1:lo<=p)(h2:p<hi):b.cell? ⟨p,o,none⟩=a.cell? ⟨p,o,none⟩:=World.cell?_of_block (h.block p h1 h2)
def XRow(w:World)(sz n k:Nat)(tail:List Int):Prop:=∃xs,Row w sz 2 .i64 xs/\xs.length=n/\xs.drop (k+1)=tail
def zlm(w wN:World)(n k:Nat)(tail:List Int)(ys:List (Int×Int))(J Jx:List (Int×Int)->World->Prop)(pre:List (Int×Int))(e:Ending)(W':World):Prop:=
 (e= .returned (.bool true)/\J (pre++ys) W'/\XRow W' w.heap.size n k tail/\KeepW (w.heap.size+1) wN.heap.size wN W')∨(e= .returned (.bool false)/\∃q,q<+:ys/\Jx (pre++q) W')
def zas(n:Nat)(x:Int×Int):Prop:=1<=x.1/\x.1<=n/\0<=x.2/\x.2<=1099511627776
theorem WalkV.read{W:World}{za:Int}{lc:Nat}(h:WalkV w wN za D L n mA lA mc lc)(hk:KeepW (w.heap.size+1) wN.heap.size wN W):
  W.cell? ⟨w.heap.size+1,0,none⟩=some (.int .i64 za)/\W.cell? ⟨w.heap.size+1,1,none⟩=some (.slice mA D.length mc)/\W.cell? ⟨w.heap.size+1,2,none⟩=some (.slice lA L.length lc)/\W.cell? ⟨w.heap.size+1,3,none⟩=some (.slice (some ⟨w.heap.size,0,none⟩) n n)/\w.heap.size+1<W.heap.size:=by
 have h1:=(hk.block (w.heap.size+1) Zr (zi h.st)).trans h.st;obtain⟨a,b,c,d,-,e⟩:=zao h1;exact⟨a,b,c,d,e⟩
theorem WalkV.minor{za:Int}{lc:Nat}(h:WalkV w wN za D L n mA lA mc lc)(hk:k<D.length):
  ∃b o,mA=some ⟨b,o,none⟩/\∀W,KeepW (w.heap.size+1) wN.heap.size wN W->W.cell? ⟨b,o+k,none⟩=some (.int .i64 (vD D k))/\b<W.heap.size:=by
 have hd:D[k]? =some (vD D k):=by simp[vD,hk]
 obtain⟨b,o,h1,h2,h3,h4⟩:=h.mi.at_ (i:=k) (u:= .int .i64 (vD D k)) (by rw[getElem?_map,hd];rfl);exact⟨b,o,h1,fun W hW=>⟨(hW.cell aa h4).trans h2,Nat.lt_of_lt_of_le h4 hW.size⟩⟩
theorem WalkV.lam{za:Int}{lc:Nat}(h:WalkV w wN za D L n mA lA mc lc)(hk:k<L.length):
  ∃b o B c,lA=some ⟨b,o,none⟩/\(L.getD k []).length<=c/\c<=9223372036854775807/\(∀W,KeepW (w.heap.size+1) wN.heap.size wN W->W.cell? ⟨b,o+k,none⟩=some (.slice B (L.getD k []).length c)/\b<W.heap.size)/\
   ∀i x,(L.getD k [])[i]? =some x->∃b1 o1,B=some ⟨b1,o1,none⟩/\∀W,KeepW (w.heap.size+1) wN.heap.size wN W->W.cell? ⟨b1,o1+i,none⟩=some (.int .i64 x)/\b1<W.heap.size:=by
 obtain⟨vs,h1,h2,h3⟩:=h.la;have hr:L[k]? =some (L.getD k []):=by simp[hk]
 obtain⟨B,c,e1,e2,e3,e4⟩:=h3 k _ hr;obtain⟨b,o,f1,f2,f3,f4⟩:=h2.at_ e1;refine⟨b,o,B,c,f1,e3,e4,fun W hW=>⟨(hW.cell aa f4).trans f2,Nat.lt_of_lt_of_le f4 hW.size⟩,fun i x hx=>?_⟩;obtain⟨b1,o1,g1,g2,g3,g4⟩:=e2.at_ (i:=i) (u:= .int .i64 x) (by rw[getElem?_map,hx];rfl);exact⟨b1,o1,g1,fun W hW=>⟨(hW.cell aa g4).trans g2,Nat.lt_of_lt_of_le g4 hW.size⟩⟩
def QV(D:List Int)(L:List (List Int))(n k:Nat)(rest:Int)(tail:List Int)(j:Nat):List (Int×Int):=
 (List.range j).flatMap fun(i:Nat)=>ZF D L n (k-1) (Z7 D L k rest tail (zR D L k rest tail+(i:Int))) ((zR D L k rest tail+(i:Int))::tail)
theorem zdA(D:List Int)(L:List (List Int))(n k:Nat)(rest:Int)(tail:List Int)(j:Nat):
  QV D L n k rest tail (j+1)=QV D L n k rest tail j++ZF D L n (k-1) (Z7 D L k rest tail (zR D L k rest tail+(j:Int))) ((zR D L k rest tail+(j:Int))::tail):=by
 simp[QV,List.range_succ]
theorem zf3(D:List Int)(L:List (List Int))(n k:Nat)(rest:Int)(tail:List Int)(h:k=0):ZF D L n k rest tail=[((n:Int)-k,Zf D L k rest tail)]:=by
 subst h;simp[ZF]
theorem zdB(D:List Int)(L:List (List Int))(n k:Nat)(rest:Int)(tail:List Int)(h:k≠0):ZF D L n k rest tail=((n:Int)-k,Zf D L k rest tail)::QV D L n k rest tail (Zf D L k rest tail).toNat:=by
 obtain⟨k,rfl⟩:∃k',k=k'+1:=⟨k-1,aa⟩;simp[ZF,QV]
theorem zln(D:List Int)(L:List (List Int))(n k:Nat)(rest:Int)(tail:List Int){j:Nat}(h:i<=j):QV D L n k rest tail i<+:QV D L n k rest tail j:=by
 obtain⟨m,rfl⟩:∃m,j=i+m:=⟨j-i,aa⟩;induction m with
 |zero=>exact prefix_rfl
 |succ m ih=>rw[<-Nat.add_assoc,zdA];exact(ih aa).trans (List.prefix_append _ _)
theorem XRow.keep{tail:List Int}(h:XRow w sz n k tail)(hb:w'.heap[sz]? =w.heap[sz]?):XRow w' sz n k tail:=by
 obtain⟨xs,h1,h2,h3⟩:=h;exact⟨xs,hb.trans h1,h2,h3⟩
theorem XRow.put{tail:List Int}(h:XRow w sz n (k+1) tail)(hk:k+1<n)(x:Int):XRow (w.setCell ⟨sz,k+1,none⟩ (.int .i64 x)) sz n k (x::tail):=by
 obtain⟨xs,h1,h2,h3⟩:=h;refine⟨_,h1.set (k+1) x,by simp[h2],?_⟩;have e:(xs.set (k+1) x).drop (k+1)=x::xs.drop (k+1+1):=by
  rw[List.drop_eq_getElem_cons (by simp;omega)];simp[List.drop_set]
 rw[e,h3]
theorem XRow.up{tail:List Int}(h:XRow w sz n k (x::tail)):XRow w sz n (k+1) tail:=by
 obtain⟨xs,h1,h2,h3⟩:=h;refine⟨xs,h1,h2,?_⟩;rw[<-List.drop_drop,h3];rfl
set_option maxRecDepth 100000 in
theorem zlo{za:Int}{lc:Nat}(hV:WalkV w wN za D L n mA lA mc lc)(hN:NumOK D L n za)(l:Nat)(J Jx:List (Int×Int)->World->Prop)
  (hJs:∀pre W i v,J pre W->J pre (W.setCell ⟨w.heap.size,i,none⟩ (.int .i64 v)))
  (hY:∀m pre x W,J pre W->zas n x->YieldAt Fence.wide m Tryz.prog l #[.int .i64 x.1,.int .i64 x.2] W fun e W'=>
   (e= .returned (.bool true)/\J (pre++[x]) W'/\KeepW w.heap.size wN.heap.size W W')∨(e= .returned (.bool false)/\Jx (pre++[x]) W')) (k:Nat):
  ∀(rest:Int)(tail:List Int)(m:Nat)(pre:List (Int×Int))(W:World),LevOK D n za k rest tail->XRow W w.heap.size n k tail->KeepW (w.heap.size+1) wN.heap.size wN W->J pre W->
   CallsIn Fence.wide m Tryz.prog 256 #[.pointer (some ⟨w.heap.size+1,0,none⟩),.int .i64 k,.int .i64 rest,.func (.yield l) #[] #[]] W (zlm w wN n k tail (ZF D L n k rest tail) J Jx pre):=by
 induction k using Nat.strongRecOn with
 |ind k ih=>
  intro rest tail m pre W hL hX hK hJ;obtain⟨s0,s1,s2,s3,s4⟩:=hV.read hK;have hdl:=hN.dl;have hll:=hN.ll;have hkn:=hL.kn;have hn8:=hN.n8;rw[hdl]at s1;rw[hll]at s2;have hX0:=Zh hX;obtain⟨xs,zsr,hxl,hxd⟩:=hX;obtain⟨bm,om,rfl,M1⟩:=hV.minor (k:=k+1) aa;obtain⟨bm',om',hm',M0⟩:=hV.minor (k:=k) aa;injection hm' with hm'
  injection hm' with x1 x2
  subst x1 x2;obtain⟨m1,m2⟩:=M1 W hK;obtain⟨m3,m4⟩:=M0 W hK;obtain⟨bl,ol,B,c,rfl,l1,l2,L3,L4⟩:=hV.lam (k:=k) aa;obtain⟨l3,l4⟩:=L3 W hK;have hrl:=hN.row k hkn;obtain⟨lam,ztt⟩:=Xz (L.getD k []);rw[hrl]at l1 l3;rw[<-ztt]at hrl L4;have HL4:=Zh L4;have zrq:=Zh ztt;have HRL:=Zh hrl;clear L3 L4 ztt hrl M0 M1 hdl hll;have hsq:=zb2 hN hL;have hR:=Jn hN hL;have hd1:=hN.d1 (k+1) aa
  have hd2:=hN.d2 (k+1) aa;have zwz:=hV.mc0;have zxX:=hV.mc1;have zwA:=hV.lc0;have zxY:=hV.lc1;rw[hN.dl]at zwz;rw[hN.ll]at zwA;obtain⟨sqn,ztu⟩:=Xz ((ZZ D k rest).toNat);have ztT:vD D k*rest=(sqn:Int):=by have:=hsq.1;rw[ztu];unfold ZZ at this|-;omega
  have zwB:sqn<4611686018427387904:=by have:=hsq.2;omega
  have HSQ:Hid (ZZ D k rest=(sqn:Int)):=Zh ztT;have HRT:Hid (vR D k rest=(zw sqn:Nat)):=Zh (by rw[ztu];rfl);have zwC:zw sqn<2147483648:=by have:=hR.2.1;rw[HRT.out]at this;omega
  have hdd:∀k:Nat,(Fence.wide.depth.isSome=true->1<=k):=fun k h=>by cases h
  obtain⟨r,hr⟩:=Xz (n-1-k);rw[<-hr]at l1 l3 HRL;have HRR:=Zh hr;have hr1:r+k+1<=n:=aa
  have hr2:n<=r+k+1:=aa
  obtain⟨d,hd⟩:=Xz (vD D (k+1));rw[<-hd]at m1 hd1 hd2;have HD:=Zh hd;obtain⟨dk,hdk⟩:=Xz (vD D k);rw[<-hdk]at m3 ztT;have HXD:=Zh hxd;have zrl:=Zh zsr;clear hr hd hdk ztu hsq hR hxd;refine callsIn_of_wp Tryz.func256 rfl trivial ?_ rfl;simp only[Tryz.ntmps256,List.size_toArray,length_cons,length_nil,Nat.reduceAdd,Nat.reduceSub,Array.replicate_succ,Array.replicate_zero,List.push_toArray,List.append_toArray,nil_append,cons_append]
  gi_wp2_with fail
  gi_loop [10,11,12,35] (fun s _ _ i=>∃q:Nat,q<=r/\i= .int .i64 q/\s= .int .i64 (zx (lam.take q) (tail.take q))) (fun _ _ _ i=>r-(intOf i).toNat)
  case atStart=>exact⟨0,aa,rfl,by simp[zx]⟩
  case round=>
   obtain⟨q,hq,rfl,rfl⟩:=hrel;by_cases hlt:q<r
   ·obtain⟨a,ha⟩:∃a,lam[q]? =some a:=⟨_,Ze (by have:=HRL.out;omega)⟩;obtain⟨y,hy⟩:∃y,tail[q]? =some y:=⟨_,Ze (by have:=hL.tl;have:=HRR.out;omega)⟩;obtain⟨b1,o1,rfl,G⟩:=HL4.out q a ha;obtain⟨g1,g2⟩:=G W hK;have hxy:xs[k+1+q]? =some y:=by rw[<-hy,<-HXD.out,List.getElem?_drop]
    obtain⟨y',hy1,hy2⟩:=zsr.cell (i:=k+1+q) (by rw[hxl];omega);rw[hxy]at hy1;injection hy1 with hy1
    subst hy1;have hdv:=hN.d2 (k+1) aa;have ba:=hN.lam k hkn a (by rw[<-zrq.out];exact Zm ha);have bb:=zap tail q y hy;have bS:=Jo hN hL;have bs:=zak (A:=32768) (B:=549755813888) aa aa (lam.take q) (tail.take q) (fun z hz=>by have:=hN.lam k hkn z (by rw[<-zrq.out];exact List.mem_of_mem_take hz);omega) (fun z hz=>by
     obtain⟨j,hj,e⟩:=List.getElem_of_mem (List.mem_of_mem_take hz);have:=zap tail j z (by simp[hj,e]);omega)
    have bm:=Qs (a:=a) (b:=y) (A:=32768) (B:=549755813888) aa aa aa aa;have ztn:=Zh (za4 lam tail q a y ha hy);have htl:(lam.take q).length<=8:=by rw[List.length_take];omega
    obtain⟨s,hs⟩:=Xz (zx (lam.take q) (tail.take q));rw[<-hs]at bs ztn|-
    have bs1:-144115188075855872<=s:=aa
    have bs2:s<=144115188075855872:=aa
    obtain⟨bm1,bm2⟩:=bm;have bm3:-18014398509481984<=a*y:=aa
    have bm4:a*y<=18014398509481984:=aa
    have bw:w.heap.size<W.heap.size:=aa
    clear hdv ba bb bS bs bm1 bm2 hs ha hy hxy G htl;gi_wp2_with fail
    refine⟨⟨q+1,aa,by go_num,by rw[ztn.out]⟩,by simp[intOf]<;>omega⟩
   ·obtain rfl:q=r:=aa
    clear hlt;have e1:lam.take q=lam:=List.take_of_length_le (by have:=HRL.out;omega);have e2:tail.take q=tail:=List.take_of_length_le (by have:=hL.tl;have:=HRR.out;omega);rw[e1,e2];clear e1 e2;have zuG:Hid (zx lam tail=qJ L k tail):=Zh (by rw[zrq.out];rfl);rw[zuG.out];obtain⟨sh,hsh⟩:=Xz (qJ L k tail);have bsh:=zdx hN hL;have bmS:=zf1 hN hL;rw[<-hsh]at bsh|-
    have bsh1:-36028247263150080<=sh:=aa
    have bsh2:sh<=36028247263150080:=aa
    have HSH:=Zh hsh;obtain⟨p,hp⟩:∃p,p=((zw sqn:Int)+sh) / d:=⟨_,rfl⟩;obtain⟨hi,hhi⟩:∃hi,hi=((zw sqn:Int)-sh) / d:=⟨_,rfl⟩;have HLO:Hid (zR D L k rest tail=-p):=Zh (by rw[hp,hsh,HD.out,zR,HRT.out]);have HHI:Hid (Z6 D L k rest tail=hi):=Zh (by rw[hhi,hsh,HD.out,Z6,HRT.out]);have ztU:=zaq hN hL;have zs7:=zar hN hL;have hSb:=Jo hN hL;have zrp:Hid (Zf D L k rest tail=hi+p+1):=Zh (by rw[Zf,HLO.out,HHI.out];omega)
    rw[HLO.out,HHI.out,HRT.out]at ztU;rw[zrp.out]at zs7;have hp1:-1099511627776<=p:=aa
    have hp2:p<=1099511627776:=aa
    have hi1:-1099511627776<=hi:=aa
    have hi2:hi<=1099511627776:=aa
    have hq1:=hp.symm;have hq2:=hhi.symm;obtain⟨zvn,zvo⟩:=zs7;clear bsh bmS ztU hSb hp hhi hsh;obtain⟨fn,tmps,assign,body,hy,hRd⟩:=hY (m-1) pre ((n:Int)-k,hi+p+1) W hJ ⟨by simp only;omega,by simp only;omega,zvn,zvo⟩;dsimp only at hy hRd;by_cases hk0:k=0
    ·have hkb:((k:Int)==0)=true:=by simp;omega
     have HK0:=Zh hk0;clear hk0;gi_wp2_with (first
      |(refine⟨trivial,hdd _,?_⟩;gi_at_call 255;refine(callsIn_wide.2 (zdj (a:=sqn) aa)).mono ?_;rintro e w' ⟨rfl,rfl⟩)
      |(refine⟨trivial,hdd _,?_⟩;gi_at_call 290;refine(callsIn_wide.2 (zfN aa aa aa aa)).mono ?_;rintro e w' ⟨rfl,rfl⟩)
      |((try refine ⟨hdd _,?_⟩);refine hRd.mono ?_;clear hRd;rintro e W1 (⟨rfl,hJ1,hk1⟩|⟨rfl,hx1⟩)))
     ·go_ret;refine .inl ⟨rfl,?_,hX0.out.keep (hk1.block _ Zr (by have:=zi hV.st;omega)),hK.trans (hk1.mono (Nat.le_succ _))⟩;rw[zf3 _ _ _ _ _ _ HK0.out,zrp.out];exact hJ1
     ·go_ret;refine .inr ⟨rfl,[((n:Int)-k,hi+p+1)],?_,hx1⟩;rw[zf3 _ _ _ _ _ _ HK0.out,zrp.out];exact prefix_rfl
    ·have hkb:((k:Int)==0)=false:=by simp;omega
     have zwD:1<=k:=aa
     have HK0:=Zh hk0;clear hk0;gi_wp2_with (first
      |(refine⟨trivial,hdd _,?_⟩;gi_at_call 255;refine(callsIn_wide.2 (zdj (a:=sqn) aa)).mono ?_;rintro e w' ⟨rfl,rfl⟩)
      |(refine⟨trivial,hdd _,?_⟩;gi_at_call 290;refine(callsIn_wide.2 (zfN aa aa aa aa)).mono ?_;rintro e w' ⟨rfl,rfl⟩)
      |((try refine ⟨hdd _,?_⟩);refine hRd.mono ?_;clear hRd;rintro e W1 (⟨rfl,hJ1,hk1⟩|⟨rfl,hx1⟩)))
     ·gi_loopw [17,18] (fun sx _ wr=>∃(x:Int) (j:Nat),sx= .int .i64 x/\Hid (x=-p+j)/\-p<=x/\x<=hi+1/\J (pre++(((n:Int)-k,hi+p+1)::QV D L n k rest tail j)) wr/\XRow wr w.heap.size n k tail/\KeepW (w.heap.size+1) wN.heap.size wN wr) (fun sx _ _=>(hi+1-intOf sx).toNat)
      case atStart=>
       refine⟨-p,0,rfl,Zh aa,aa,aa,?_,hX0.out.keep (hk1.block _ Zr (by have:=zi hV.st;omega)),hK.trans (hk1.mono (Nat.le_succ _))⟩;simpa[QV] using hJ1
      case round=>
       obtain⟨x,j,rfl,HXJ,hx1,hx2,hJ2,hX2,hK2⟩:=hrel;clear s0 s1 s2 s3 s4 hK hJ hX0 m1 m2 m3 m4 l3 l4 zsr zrl hy hJ1 hk1 hxl HXD;obtain⟨s0,s1,s2,s3,s4⟩:=hV.read hK2;rw[hN.dl]at s1;rw[hN.ll]at s2;by_cases hlt:x<=hi
       ·obtain⟨k',HK1⟩:∃k',Hid (k=k'+1):=⟨k-1,Zh aa⟩;have hLn:LevOK D n za (k'+1) rest tail:=by rw[<-HK1.out];exact hL
        have zs8:zR D L k rest tail<=x:=by rw[HLO.out];exact hx1
        have zs9:x<=Z6 D L k rest tail:=by rw[HHI.out];exact hlt
        have hub:=zdy hN hL zs8 zs9;obtain⟨zta,zuH,-,-⟩:=zdz hN hL zs8 zs9;obtain⟨u,hu⟩:=Xz (d*x+sh);have HU:Hid (vU D L k tail x=u):=Zh (by rw[hu,HSH.out,HD.out];rfl);have HRS:Hid (Z7 D L k rest tail x=((sqn:Int)-u*u) / d):=Zh (by rw[Z7,HU.out,HSQ.out,<-HD.out]);rw[HU.out]at hub zta zuH;rw[HSQ.out]at zta;rw[HRT.out]at hub;have hL':LevOK D n za k' (((sqn:Int)-u*u) / d) (x::tail):=by
         have:=LevOK.next hN hLn (x:=x) (by rw[<-HK1.out];exact zs8) (by rw[<-HK1.out];exact zs9);rw[<-HK1.out,HRS.out]at this;exact this
        have hX3:XRow (wr.setCell ⟨w.heap.size,k,none⟩ (.int .i64 x)) w.heap.size n k' (x::tail):=by
         have h1:XRow wr w.heap.size n (k'+1) tail:=by rw[<-HK1.out];exact hX2
         have:=h1.put (by have:=HK1.out;omega) x;rw[<-HK1.out]at this;exact this
        have zsD:=ih k' (by have:=HK1.out;omega) _ _ (m-1) _ _ hL' hX3 (hK2.set (p:=⟨w.heap.size,k,none⟩) (Nat.lt_succ_self _) _) (hJs _ _ k x hJ2);rw[show ((k':Nat):Int)=(k:Int)-1 by have:=HK1.out;omega]at zsD;have HC:=Zh zsD;obtain⟨xs,zsr,hxl,-⟩:=id hX2;obtain⟨y0,-,hc0⟩:=zsr.cell (i:=k) aa;have hf0:=zsr.frozen k;have hu':=hu.symm;have zwE:-2147483648<=u:=aa
        have zwF:u<=2147483648:=aa
        have hus:u*u<=4611686018427387904:=aa
        have hdx:=Qs (a:=d) (b:=x) (A:=65536) (B:=2199023255552) aa aa aa aa;have zwG:-144115188075855872<=d*x:=aa
        have zwH:d*x<=144115188075855872:=aa
        have bw:w.heap.size<wr.heap.size:=aa
        clear hub hu zs8 zs9 hX3 hL' hLn zsD hdx hxl zsr;gi_wp2_with (refine⟨trivial,hdd _,?_⟩;gi_at_call 256;refine HC.out.mono ?_;clear HC;rintro e W3 (⟨rfl,hJ3,hX4,hK4⟩|⟨rfl,q',hq',hx3⟩))
        ·refine⟨⟨x+1,j+1,rfl,Zh (by have:=HXJ.out;omega),aa,aa,?_,?_,hK4⟩,by simp[intOf]<;>omega⟩
         ·rw[zdA,HLO.out,<-HXJ.out,HRS.out,show k-1=k' by have:=HK1.out;omega];simpa[List.append_assoc] using hJ3
         ·have:=hX4.up;rw[<-HK1.out]at this;exact this
        ·go_ret;refine .inr ⟨rfl,(((n:Int)-k,hi+p+1)::QV D L n k rest tail j)++q',?_,by simpa[List.append_assoc] using hx3⟩;rw[zdB _ _ _ _ _ _ HK0.out,zrp.out,cons_append];refine List.cons_prefix_cons.2 ⟨rfl,?_⟩;have h1:QV D L n k rest tail j++q'<+:QV D L n k rest tail (j+1):=by
          rw[zdA,HLO.out,<-HXJ.out,HRS.out,show k-1=k' by have:=HK1.out;omega];exact(List.prefix_append_right_inj _).2 hq'
         exact h1.trans (zln _ _ _ _ _ _ (by have:=HXJ.out;omega))
       ·have hj:j=(hi+p+1).toNat:=by have:=HXJ.out;omega
        have HJJ:=Zh hj;clear hj;gi_wp2_with fail
        go_ret;refine .inl ⟨rfl,?_,hX2,hK2⟩;rw[zdB _ _ _ _ _ _ HK0.out,zrp.out,<-HJJ.out];exact hJ2
     ·go_ret;refine .inr ⟨rfl,[((n:Int)-k,hi+p+1)],?_,hx1⟩;rw[zdB _ _ _ _ _ _ HK0.out,zrp.out];exact⟨_,rfl⟩
end
section
open Go.RowKit Go.Shelf
attribute [local go_sem] Oper.semAt_some
def qK(D:List Int)(L:List (List Int))(n:Nat)(za:Int):List (Int×Int):=
 if n=1 then [(1,2*(zw (za / vD D 1).toNat:Nat)+1)] else ZF D L n (n-1) (vD D n*za) []
theorem KeepW.drew{a:World}(h:KeepW lo hi a b):KeepW lo hi a b.drew:=⟨h.block,h.size⟩
theorem zf4{e:Ending}{A B:Prop}(h:(e= .returned (.bool true)/\A)∨(e= .returned (.bool false)/\B)):∃b,e= .returned (.bool b)/\Hid (A∨B):=by
 rcases h with ⟨h,a⟩|⟨h,b⟩
 ·exact⟨_,h,Zh (.inl a)⟩
 ·exact⟨_,h,Zh (.inr b)⟩
theorem zlp{za:Int}{lc:Nat}(hV:WalkV w wN za D L 1 mA lA mc lc)(hdl:D.length=2)(hd1:1<=vD D 1)(hd2:vD D 1<65536)(hb0:0<=za)(hb1:za<=4611686018427387904)(l:Nat)(J Jx:List (Int×Int)->World->Prop)
  (hJd:∀pre W,J pre W->J pre W.drew)
  (hY:∀m pre x W,J pre W->zas 1 x->YieldAt Fence.wide m Tryz.prog l #[.int .i64 x.1,.int .i64 x.2] W fun e W'=>
   (e= .returned (.bool true)/\J (pre++[x]) W'/\KeepW w.heap.size wN.heap.size W W')∨(e= .returned (.bool false)/\Jx (pre++[x]) W'))
  (m:Nat) (W:World) (hK:KeepW (w.heap.size+1) wN.heap.size wN W) (hJ:J [] W):
  CallsIn Fence.wide m Tryz.prog 191 #[.pointer (some ⟨w.heap.size+1,0,none⟩),.func (.yield l) #[] #[]] W fun e W'=>(∃v,e= .returned v)/\(J (qK D L 1 za) W'∨∃q,q<+:qK D L 1 za/\Jx q W'):=by
 have hdd:∀k:Nat,(Fence.wide.depth.isSome=true->1<=k):=fun k h=>by cases h
 obtain⟨s0,s1,s2,s3,s4⟩:=hV.read hK;rw[hdl]at s1;obtain⟨bm,om,rfl,M1⟩:=hV.minor (k:=1) aa;obtain⟨m1,m2⟩:=M1 W hK;obtain⟨d,hd⟩:=Xz (vD D 1);rw[<-hd]at m1 hd1 hd2;obtain⟨q,hq⟩:=Xz ((za / d).toNat);have hqe:za / d=(q:Int):=by
  have:=Int.ediv_nonneg hb0 ((aa:0<=d));omega
 have hq1:q<9223372036854775808:=by
  have:za / d<=za:=Int.ediv_le_self _ hb0;omega
 have hrt:zw q<4294967296:=by
  have h1:=(Qb q).1;rcases Zl (zw q) 4294967296 with h|h
  ·exact h
  ·have:=Nat.mul_le_mul h h;omega
 have HT:Hid (qK D L 1 za=[(1,2*(zw q:Int)+1)]):=Zh (by unfold qK;rw[if_pos rfl,<-hd,<-hq]);obtain⟨fn,tmps,assign,body,hy,hRd⟩:=hY (m-1) [] (1,2*(zw q:Int)+1) W.drew (hJd _ _ hJ) ⟨af,af,by simp only;omega,by simp only;omega⟩;dsimp only at hy hRd;clear M1 hd hq hY;refine callsIn_of_wp Tryz.func191 rfl trivial ?_ rfl;simp only[Tryz.ntmps191,List.size_toArray,length_cons,length_nil,Nat.reduceAdd,Nat.reduceSub,Array.replicate_succ,Array.replicate_zero,List.push_toArray,List.append_toArray,nil_append,cons_append]
 have hw1:IntKind.i64.wrap (2*(zw q:Int))=2*(zw q:Int):=Iw;have hw2:IntKind.i64.wrap (2*(zw q:Int)+1)=2*(zw q:Int)+1:=Iw;gi_wp2_with fail
 gi_region_with (first
  |(refine⟨trivial,hdd _,?_⟩;gi_at_call 255;refine(callsIn_wide.2 (zdj (a:=q) aa)).mono ?_;rintro e w' ⟨rfl,rfl⟩)
  |((try refine ⟨hdd _,?_⟩);refine hRd.mono ?_;clear hRd;rintro e W1 h0;obtain⟨bb,rfl,hh⟩:=zf4 h0;clear h0))
 all_goals
  gi_wp2
  refine bodyPost_ret (v:= .tuple #[]) (by simp[results,Tryz.results191]) rfl ?_;refine⟨⟨_,rfl⟩,?_⟩;rw[HT.out];rcases hh.out with ⟨hJ1,-⟩|hx1
  ·exact .inl hJ1
  ·exact .inr ⟨_,prefix_rfl,hx1⟩
theorem zlq{za:Int}{lc:Nat}(hV:WalkV w wN za D L n mA lA mc lc)(hN:NumOK D L n za)(hn2:2<=n)(l:Nat)(J Jx:List (Int×Int)->World->Prop)
  (hJd:∀pre W,J pre W->J pre W.drew)
  (hJs:∀pre W i v,J pre W->J pre (W.setCell ⟨w.heap.size,i,none⟩ (.int .i64 v)))
  (hY:∀m pre x W,J pre W->zas n x->YieldAt Fence.wide m Tryz.prog l #[.int .i64 x.1,.int .i64 x.2] W fun e W'=>
   (e= .returned (.bool true)/\J (pre++[x]) W'/\KeepW w.heap.size wN.heap.size W W')∨(e= .returned (.bool false)/\Jx (pre++[x]) W'))
  (m:Nat) (W:World) (hK:KeepW w.heap.size wN.heap.size wN W) (hJ:J [] W):
  CallsIn Fence.wide m Tryz.prog 191 #[.pointer (some ⟨w.heap.size+1,0,none⟩),.func (.yield l) #[] #[]] W fun e W'=>(∃v,e= .returned v)/\(J (qK D L n za) W'∨∃q,q<+:qK D L n za/\Jx q W'):=by
 have hdd:∀k:Nat,(Fence.wide.depth.isSome=true->1<=k):=fun k h=>by cases h
 have hK':=hK.mono (Nat.le_succ _);obtain⟨s0,s1,s2,s3,s4⟩:=hV.read hK';have hdl:=hN.dl;have hn8:=hN.n8;rw[hdl]at s1;obtain⟨bm,om,rfl,M1⟩:=hV.minor (k:=n) aa;obtain⟨m1,m2⟩:=M1 W hK';have hL:LevOK D n za (n-1) (vD D n*za) []:=by
  have e:n-1+1=n:=aa
  have hd:=hN.d1 n Zr;refine⟨aa,Int.mul_nonneg aa hN.b0,by rw[e];exact Int.le_refl _,af,by simp[zU]⟩
 have hX:XRow W w.heap.size n (n-1) []:=by
  refine⟨List.replicate n 0,(hK.block _ Zr (by have:=zi hV.st;omega)).trans hV.xs,af,by rw[List.drop_eq_nil_of_le (by simp;omega)]⟩
 have hv:=zlo hV hN l J Jx hJs hY (n-1) (vD D n*za) [] (m-1) [] W.drew hL (hX.keep rfl) hK'.drew (hJd _ _ hJ);have HT:Hid (qK D L n za=ZF D L n (n-1) (vD D n*za) []):=Zh (by unfold qK;rw[if_neg aa]);rw[(aa:((n-1:Nat):Int)=(n:Int)-1)]at hv;have hne:((n:Int)==1)=false:=by simp;omega
 have hd1:=hN.d1 n Zr;have hd2:=hN.d2 n Zr;have hb0:=hN.b0;have hb1:=hN.b1;obtain⟨d,hd⟩:=Xz (vD D n);rw[<-hd]at m1 hd1 hd2 hv;have hm:=Qs (a:=d) (b:=za) (A:=65536) (B:=1073741824) aa aa aa aa;have HC:=Zh hv;have HD:=Zh hd;have hw1:IntKind.i64.wrap (d*za)=d*za:=Iw;have hw2:IntKind.i64.wrap ((n:Int)-1)=(n:Int)-1:=Iw
 clear M1 hv hd hm hY hL hX hdl;refine callsIn_of_wp Tryz.func191 rfl trivial ?_ rfl;simp only[Tryz.ntmps191,List.size_toArray,length_cons,length_nil,Nat.reduceAdd,Nat.reduceSub,Array.replicate_succ,Array.replicate_zero,List.push_toArray,List.append_toArray,nil_append,cons_append];gi_wp2_with fail
 gi_region_with (refine⟨trivial,hdd _,?_⟩;gi_at_call 256;refine HC.out.mono ?_;clear HC;rintro e W1 h0;obtain⟨bb,rfl,hh⟩:=zf4 h0;clear h0)
 all_goals
  gi_wp2
  go_end0
  refine⟨⟨_,rfl⟩,?_⟩;rw[HT.out,<-HD.out];rcases hh.out with ⟨hJ1,-⟩|⟨q,hq,hx1⟩
  ·exact .inl hJ1
  ·exact .inr ⟨q,hq,hx1⟩
end
section
open Go.RowKit Go.Shelf
attribute [local go_sem] Oper.semAt_some
structure OnlyB(ze sz:Nat)(A B:World):Prop where
 block:∀b,b<ze->b≠sz->B.heap[b]? =A.heap[b]?
 size:A.heap.size<=B.heap.size
 os:B.os=A.os
 tape:B.tape=A.tape
 output:B.output=A.output
theorem OnlyB.putObj{A:World}{r:Nat}(h:ze<=r)(o:Obj):OnlyB ze sz A (A.putObj r o):=
 ⟨fun b hb _=>World.putObj_heap_other aa,by simp[World.putObj],rfl,rfl,rfl⟩
theorem OnlyB.alloc{A:World}(h:ze<=A.heap.size)(o:Obj):OnlyB ze sz A (A.alloc o):=
 ⟨fun b hb _=>Below.heap_alloc A o b aa,af,rfl,rfl,rfl⟩
structure AboveK(sz:Nat)(A B:World):Prop where
 block:∀b,sz<=b->b<A.heap.size->B.heap[b]? =A.heap[b]?
 size:A.heap.size<=B.heap.size
def zlr(I:List (Int×Int)->World->Prop)(Ix:List (Int×Int)->World->Prop)(sz:Nat)(ys:List (Int×Int))(W:World):Exit->Act->World->Prop
 | .normal,_,W'=>AboveK sz W W'/\I ys W'
 | .ret,_,W'=>AboveK sz W W'/\Ix ys W'
 |_,_,_=>False
theorem zls{m m':Nat}{l:Nat}{f:FuncId}{tmps:Array Value}{assign body:Code}{R:Ending->World->Prop}(h:RoundIn Fence.wide m P l f tmps assign body w R):RoundIn Fence.wide m' P l f tmps assign body w R:=⟨h.1,fun c cs _=>h.2 c cs (room_wide _)⟩
theorem zlt{g:Operand}{ps:Array Tmp}{assign body:Code}{Q:Exit->Act->World->Prop}{a:Act}{gf:Nat}{ptr:Value}
  (hg:a.eval g= .func (.func gf) #[ptr] #[]) (eg:∀args w,(callFunc gf args).run P w= .ok (.enter gf args) w) (hps:ps.size=2) (sz hi N:Nat) (hsz:sz<hi) (hhi:hi<=w.heap.size) (ys:List (Int×Int))
  (zwI:∀(l:Nat)(J Jx:List (Int×Int)->World->Prop),(∀pre W,J pre W->J pre W.drew)->(∀pre W i v,J pre W->J pre (W.setCell ⟨sz,i,none⟩ (.int .i64 v)))->
   (∀m pre x W,J pre W->zas N x->YieldAt Fence.wide m P l #[.int .i64 x.1,.int .i64 x.2] W fun e W'=>(e= .returned (.bool true)/\J (pre++[x]) W'/\KeepW sz hi W W')∨(e= .returned (.bool false)/\Jx (pre++[x]) W'))->
   ∀(m:Nat)(W:World),KeepW sz hi w W->J [] W->CallsIn Fence.wide m P gf #[ptr,.func (.yield l) #[] #[]] W fun e W'=>(∃v,e= .returned v)/\(J ys W'∨∃q,q<+:ys/\Jx q W'))
  (I Ix:List (Int×Int)->World->Prop) (hI:∀pre A B,I pre A->OnlyB w.heap.size sz A B->I pre B) (hIx:∀pre A B,Ix pre A->OnlyB w.heap.size sz A B->Ix pre B) (h0:I [] w)
  (hab:∀(l:Nat)(pre:List (Int×Int))(x:Int×Int)(W:World),I pre W->zas N x->w.heap.size<=W.heap.size->
   assign.wpIn (Fence.wide.inRound l) n P (Exit.then (fun a₁ W₁=>W=W₁/\∀W',I pre W'->w.heap.size<=W'.heap.size->body.wpIn (Fence.wide.inRound l) n P (zlr I Ix sz (pre++[x]) W') a₁ W') (fun _ _ _=>False)) {tmps:=(ps.zip #[.int .i64 x.1,.int .i64 x.2]).foldl (fun t(p,v)=>t.setIfInBounds p v) a.tmps,defers:=[]} W)
  (zwJ:∀(D:Nat)(W:World),I ys W->w.heap.size<=D->W.heap[D]? =some (.deferred (some []))->Q .normal {a with defers:={target:= .collected D,args:=#[]}::a.defers} W)
  (zwK:∀(D:Nat)(q:List (Int×Int))(W:World),q<+:ys->Ix q W->w.heap.size<=D->W.heap[D]? =some (.deferred (some []))->(Code.ret).wpIn Fence.wide n P Q {a with defers:={target:= .collected D,args:=#[]}::a.defers} W):
  (Code.rangeFunc g ps assign body).wpIn Fence.wide n P Q a w:=by
 refine wpIn_rangeFunc ?_;intro fn hfn;obtain⟨rec,ztg⟩:∃rec:LoopState->Option Code->Loop,rec=fun st pe=>{state:=st,pending:=pe,fn,tmps:=a.tmps,params:=ps,assign,body,defers:=w.heap.size}:=⟨_,rfl⟩
 obtain⟨W1,hW1⟩:=Yz ((w.alloc (.deferred (some []))).alloc (.loop (rec .ready none)));have hL1:W1.heap[w.heap.size+1]? =some (.loop (rec .ready none)):=by
  rw[<-hW1];have:=World.alloc_heap_new (w.alloc (.deferred (some []))) (.loop (rec .ready none));rwa [World.size_alloc]at this
 have hK1:W1.heap[w.heap.size]? =some (.deferred (some [])):=by
  rw[<-hW1];exact(Below.heap_alloc _ _ _ af).trans (World.alloc_heap_new w _)
 have hI1:I [] W1:=by rw[<-hW1];exact hI _ _ _ (hI _ _ _ h0 (OnlyB.alloc Zr _)) (OnlyB.alloc af _)
 have hb1:KeepW sz hi w W1:=by
  rw[<-hW1];refine⟨fun b h1 h2=>?_,by simp;omega⟩;rw[Below.heap_alloc _ _ _ (by simp;omega),Below.heap_alloc _ _ _ aa]
 refine⟨w.heap.size+1,[{target:= .collected w.heap.size,args:=#[]}],W1,{target:= .fn (.func gf) #[],args:=#[ptr,.func (.yield (w.heap.size+1)) #[] #[]]},W1,gf,
  #[ptr,.func (.yield (w.heap.size+1)) #[] #[]],W1,?_,?_,?_,?_,fun h=>(by cases h),?_⟩
 ·rw[<-hW1,ztg];exact run_enterLoop_outer _ _ _ _ _
 ·simp only[resolve,hg];simp[go_sem]
 ·intro f' _;trivial
 ·simp[invoke,go_sem,eg]
 ·refine(zwI (w.heap.size+1)
   (fun pre W=>I pre W/\W.heap[w.heap.size+1]? =some (.loop (rec .ready none))/\W.heap[w.heap.size]? =some (.deferred (some [])))
   (fun pre W=>Ix pre W/\W.heap[w.heap.size+1]? =some (.loop (rec .done (some .ret)))/\W.heap[w.heap.size]? =some (.deferred (some [])))
   (fun pre W hs=>⟨hI _ _ _ hs.1 ⟨fun _ _ _=>rfl,Zr,rfl,rfl,rfl⟩,hs.2⟩)
   (fun pre W i v hs=>⟨hI _ _ _ hs.1 ⟨fun b _ hb=>Below.heap_setCell W ⟨sz,i,none⟩ _ b hb,by rw[ZE];exact Zr,rfl,rfl,rfl⟩,
    (Below.heap_setCell W ⟨sz,i,none⟩ _ _ ((aa:w.heap.size+1≠sz))).trans hs.2.1,(Below.heap_setCell W ⟨sz,i,none⟩ _ _ ((aa:w.heap.size≠sz))).trans hs.2.2⟩)
   ?_ (n-1) W1 hb1 ⟨hI1,hL1,hK1⟩).mono ?_
  ·rintro m pre x W ⟨hi',hl,hk⟩ hval;have hlt:w.heap.size+1<W.heap.size:=(Array.getElem?_eq_some_iff.1 hl).1;have hy:=run_yield (P:=P) (args:=#[.int .i64 x.1,.int .i64 x.2]) hl (by rw[ztg];exact hps.symm);rw[ztg]at hy;refine⟨fn,_,assign,body,hy,zls (roundIn_of_wpIn (n:=n) hfn (wpIn_mono (hab _ pre x W hi' hval aa) ?_))⟩;rintro e a1 Wx hp
   cases e with
   |ret=>exact hp.elim
   |exit id=>exact hp.elim
   |goto t=>exact hp.elim
   |panic ch=>exact hp.elim
   |outgrown=>exact hp.elim
   |normal=>
   obtain⟨hWx,zwL⟩:=hp;subst hWx;refine⟨_,run_beginRound hl (by rw[ztg]),?_⟩;obtain⟨Wb,hWb⟩:∃Wb,W.putObj (w.heap.size+1) (.loop {rec .ready none with state:= .busy})=Wb:=⟨_,rfl⟩;have zxZ:Wb.heap.size=W.heap.size:=by rw[<-hWb];simp[World.putObj]
   have hl2:Wb.heap[w.heap.size+1]? =some (.loop {rec .ready none with state:= .busy}):=by rw[<-hWb];exact World.putObj_heap_same hlt
   have hk2:Wb.heap[w.heap.size]? =some (.deferred (some [])):=by rw[<-hWb];exact(World.putObj_heap_other aa).trans hk
   have hkw:KeepW sz hi W Wb:=by
    refine⟨fun b h1 h2=>?_,aa⟩;rw[<-hWb];exact World.putObj_heap_other aa
   have hib:I pre Wb:=by rw[<-hWb];exact hI _ _ _ hi' (OnlyB.putObj (Nat.le_succ _) _)
   rw[hWb];refine wpIn_mono (zwL Wb hib aa) ?_;have fin:∀(jump:Option Code)(W3:World),AboveK sz Wb W3->
     (Instr.endRound (w.heap.size+1) jump).run P W3= .ok (.bool jump.isNone) (W3.putObj (w.heap.size+1) (.loop (rec (if jump.isNone then .ready else .done) jump)))/\
     (W3.putObj (w.heap.size+1) (.loop (rec (if jump.isNone then .ready else .done) jump))).heap[w.heap.size+1]? =some (.loop (rec (if jump.isNone then .ready else .done) jump))/\
     (W3.putObj (w.heap.size+1) (.loop (rec (if jump.isNone then .ready else .done) jump))).heap[w.heap.size]? =some (.deferred (some []))/\
     KeepW sz hi W (W3.putObj (w.heap.size+1) (.loop (rec (if jump.isNone then .ready else .done) jump))):=fun jump W3 hk3=>by
    have hl3:=(hk3.block _ aa aa).trans hl2;have:=run_endRound (P:=P) jump hl3;rw[ztg]at this|-
    refine⟨this,World.putObj_heap_same (Array.getElem?_eq_some_iff.1 hl3).1,(World.putObj_heap_other aa).trans ((hk3.block _ aa aa).trans hk2),fun b h1 h2=>?_,?_⟩
    ·exact(World.putObj_heap_other aa).trans ((hk3.block b h1 aa).trans (hkw.block b h1 h2))
    ·have:=hk3.size;simp[World.putObj];omega
   rintro e a3 W3 hp
   cases e with
   |normal=>
    obtain⟨hk3,hi3⟩:=hp;obtain⟨hr,hl4,hk4,hkk⟩:=fin none W3 hk3;exact⟨_,_,hr,.inl ⟨rfl,⟨hI _ _ _ hi3 (OnlyB.putObj (Nat.le_succ _) _),hl4,hk4⟩,hkk⟩⟩
   |ret=>
    obtain⟨hk3,hi3⟩:=hp;obtain⟨hr,hl4,hk4,hkk⟩:=fin (some .ret) W3 hk3;exact⟨_,_,hr,.inr ⟨rfl,hIx _ _ _ hi3 (OnlyB.putObj (Nat.le_succ _) _),hl4,hk4⟩⟩
   |exit id=>exact hp.elim
   |goto t=>exact hp.elim
   |panic ch=>exact hp.elim
   |outgrown=>exact hp.elim
  ·rintro e W2 ⟨⟨v,rfl⟩,(⟨hi',hl,hk⟩|⟨q,hq,hi',hl,hk⟩)⟩
   ·exact⟨none,_,by have:=run_endLoop (P:=P) hl (by rw[ztg];simp);rw[ztg]at this;exact this,zwJ _ _ (hI _ _ _ hi' (OnlyB.putObj (Nat.le_succ _) _)) Zr ((World.putObj_heap_other aa).trans hk)⟩
   ·exact⟨some .ret,_,by have:=run_endLoop (P:=P) hl (by rw[ztg];simp);rw[ztg]at this;exact this,zwK _ q _ hq (hIx _ _ _ hi' (OnlyB.putObj (Nat.le_succ _) _)) Zr ((World.putObj_heap_other aa).trans hk)⟩
end
section
open Go.RowKit Go.Shelf
attribute [local go_sem] Oper.semAt_some
def QW:List (Int×Int)->Int->List Int->Option (Int×List Int)
 |[],left,st=>some (left,st)
 |(len,cnt)::ys,left,st=>if left<cnt then none else QW ys (left-cnt) (st.set (len-1).toNat (st.getD (len-1).toNat 0+cnt))
theorem zdC(xs ys:List (Int×Int)):∀(left:Int)(st:List Int),QW (xs++ys) left st=(QW xs left st).bind fun p=>QW ys p.1 p.2:=by
 induction xs with
 |nil=>intro left st;rfl
 |cons x xs ih=>
  intro left st;obtain⟨len,cnt⟩:=x;simp only[cons_append,QW];split
  ·rfl
  ·exact ih _ _
structure FormOK(m:List (List Int)):Prop where
 len1:1<=m.length
 all:AllLen m m.length
 fits:qf m
 elim:ElimOK m
 zc:zb1 m
 num:∀za,0<=za->za<1073741824->NumOK (zl m m.length) (zq m m.length) m.length za
def za8(m:List (List Int))(za budget:Int):Option (Int×List Int):=QW (qK (zl m m.length) (zq m m.length) m.length za) budget (List.replicate m.length 0)
def ji(za budget:Int):Bool:=decide (0<=za/\za<=4611686018427387904/\0<=budget/\budget<=1000000)
def jE(m:List (List Int))(za:Int):Bool:=decide (1<m.length/\1073741824<=za)
def qh(m:List (List Int))(za budget:Int):List Int×Int:=
 if zM m then (if ji za budget then (if jE m za then ([],9) else match za8 m za budget with|some p=>(p.2,0)|none=>([],9)) else ([],1)) else ([],6)
def RetSteps(w:World)(p:List Int×Int)(e:Ending)(w':World):Prop:=∃A c,e= .returned (.tuple #[.slice A p.1.length c,.int .i64 p.2])/\Ints w' A 3 .i64 p.1/\p.1.length<=c/\c<=9223372036854775807/\Step w w'
theorem RetSteps.err{p:List Int×Int}{k:Int}(h:p=([],k))(hs:Step w w'):RetSteps w p (.returned (.tuple #[.slice none 0 0,.int .i64 k])) w':=by
 subst h;exact⟨none,0,rfl,Ints.nil,Zr,aa,hs⟩
theorem zdD{za budget:Int}(h:MatA w0 A m)(zss:m.length<=1099511627776)(hc:m.length<=c)(hc2:c<=9223372036854775807)(hb:zM m=false∨ji za budget=false∨jE m za=true)[hx:Ext w0 w]:
  Cq 132 #[.slice A m.length c,.int .i64 za,.int .i64 budget] w (RetSteps w (qh m za budget)):=by
 have zsN:=fun W(hxx:Ext w0 W)=>zai (w:=W) h zss hc hc2
 have HR:=Zh zsN;clear zsN
 cases hr:zM m
 ·have HS:=Zh (show qh m za budget=([],6) by simp[qh,hr]);rw[hr]at HR;clear hb hr;go_enter Tryz.func132,Tryz.ntmps132;go_wp2_with (go_at_call 44;refine(HR.out _ Zi).mono ?_;rintro e w1 ⟨rfl,hs1⟩)
  exact bodyPost_ret (v:= .tuple #[.slice none 0 0,.int .i64 6]) (by simp[results,Tryz.results132,go_sem]) rfl (RetSteps.err HS.out (Step.of _ _))
 ·rw[hr]at HR;have hb':ji za budget=false∨jE m za=true:=by simpa[hr] using hb
  clear hb
  cases ha:ji za budget
  ·have HS:=Zh (show qh m za budget=([],1) by simp[qh,hr,ha]);have ha':¬(0<=za/\za<=4611686018427387904/\0<=budget/\budget<=1000000):=by simpa[ji] using ha
   clear hb' ha hr;by_cases g0:za<0
   ·have d0:decide (za<0)=true:=by simpa using g0
    clear g0 ha';go_enter Tryz.func132,Tryz.ntmps132;go_wp2_with (go_at_call 44;refine(HR.out _ Zi).mono ?_;rintro e w1 ⟨rfl,hs1⟩)
    exact bodyPost_ret (v:= .tuple #[.slice none 0 0,.int .i64 1]) (by simp[results,Tryz.results132,go_sem]) rfl (RetSteps.err HS.out (Step.of _ _))
   have d0:decide (za<0)=false:=by simpa using g0
   by_cases g1:4611686018427387904<za
   ·have d1:decide (4611686018427387904<za)=true:=by simpa using g1
    clear g1 ha';go_enter Tryz.func132,Tryz.ntmps132;go_wp2_with (go_at_call 44;refine(HR.out _ Zi).mono ?_;rintro e w1 ⟨rfl,hs1⟩)
    exact bodyPost_ret (v:= .tuple #[.slice none 0 0,.int .i64 1]) (by simp[results,Tryz.results132,go_sem]) rfl (RetSteps.err HS.out (Step.of _ _))
   have d1:decide (4611686018427387904<za)=false:=by simpa using g1
   by_cases g2:budget<0
   ·have d2:decide (budget<0)=true:=by simpa using g2
    clear g2 ha';go_enter Tryz.func132,Tryz.ntmps132;go_wp2_with (go_at_call 44;refine(HR.out _ Zi).mono ?_;rintro e w1 ⟨rfl,hs1⟩)
    exact bodyPost_ret (v:= .tuple #[.slice none 0 0,.int .i64 1]) (by simp[results,Tryz.results132,go_sem]) rfl (RetSteps.err HS.out (Step.of _ _))
   have d2:decide (budget<0)=false:=by simpa using g2
   by_cases g3:1000000<budget
   ·have d3:decide (1000000<budget)=true:=by simpa using g3
    clear g3 ha';go_enter Tryz.func132,Tryz.ntmps132;go_wp2_with (go_at_call 44;refine(HR.out _ Zi).mono ?_;rintro e w1 ⟨rfl,hs1⟩)
    exact bodyPost_ret (v:= .tuple #[.slice none 0 0,.int .i64 1]) (by simp[results,Tryz.results132,go_sem]) rfl (RetSteps.err HS.out (Step.of _ _))
   have d3:decide (1000000<budget)=false:=by simpa using g3
   exact absurd aa ha'
  ·have hcr:jE m za=true:=by simpa[ha] using hb'
   have HS:=Zh (show qh m za budget=([],9) by simp[qh,hr,ha,hcr]);have ha':0<=za/\za<=4611686018427387904/\0<=budget/\budget<=1000000:=by simpa[ji] using ha
   have hc':1<m.length/\1073741824<=za:=by simpa[jE] using hcr
   obtain⟨a1,a2,a3,a4⟩:=ha';obtain⟨c1,c2⟩:=hc';clear hb' ha hr hcr;go_enter Tryz.func132,Tryz.ntmps132;go_wp2_with (go_at_call 44;refine(HR.out _ Zi).mono ?_;rintro e w1 ⟨rfl,hs1⟩)
   exact bodyPost_ret (v:= .tuple #[.slice none 0 0,.int .i64 9]) (by simp[results,Tryz.results132,go_sem]) rfl (RetSteps.err HS.out (Step.of _ _))
end
end Go.Proofs.YtgoaelchibpffaaGreat
