import Derived.Test.YtgoaelchibpffaaGreatT08
set_option maxHeartbeats 8000000
set_option linter.unusedVariables false
set_option linter.unusedSimpArgs false
namespace Go.Proofs.YtgoaelchibpffaaGreat
open Go.RowKit
open List (length_append append_assoc take_of_length_le nil_append drop_eq_nil_iff take_add_one)
variable {exact:Bool} {budget:Int} {L l m:List (List Int)} {st:List Int} {vs:List Value} {c d eb k mc n sz:Nat} {A B lA lB mA:Option Addr} {W w w0 w1:World}
def Jr(s eb:Nat):Array Value:=#[.pointer (some ⟨s,0,none⟩),.pointer (some ⟨s+2,0,none⟩),.pointer (some ⟨s+4,0,none⟩),.pointer (some ⟨eb,0,none⟩),.pointer (some ⟨s+3,0,none⟩)]
structure SMem(w1 W:World)(n:Nat)(mA lA:Option Addr)(mc lc eb:Nat)(exact:Bool)(lB:Option Addr)(c:Nat)(l:List (List Int))(vs:List Value):Prop where
 ext:Ext w1 W
 fb:W.heap[w1.heap.size]? =some (.cells #[.slice mA (n+1) mc,.slice lA n lc] 262 (0,0))
 xb:W.heap[w1.heap.size+2]? =some (.cells #[.slice (some ⟨w1.heap.size+1,0,none⟩) n n] 34 (0,0))
 lb:W.heap[w1.heap.size+3]? =some (.cells #[.slice lB l.length c] 25 (0,0))
 sb:W.heap[w1.heap.size+4]? =some (.cells #[.func (.func 220) #[] (Jr w1.heap.size eb)] 264 (0,0))
 ebl:eb<w1.heap.size
 ec:w1.cell? ⟨eb,0,none⟩=some (.bool exact)
 ls:LOwn W (w1.heap.size+5) lB c l vs
 sz:w1.heap.size+5<=W.heap.size
theorem SMem.setX{lc:Nat}(h:SMem w1 W n mA lA mc lc eb exact lB c l vs)(i:Nat)(u:Value):SMem w1 (W.setCell ⟨w1.heap.size+1,i,none⟩ u) n mA lA mc lc eb exact lB c l vs where
 ext:=h.ext.setCell (p:=⟨w1.heap.size+1,i,none⟩) (Nat.le_succ _) u
 fb:=ZD h.fb ((aa:w1.heap.size≠w1.heap.size+1)) u
 xb:=ZD h.xb ((aa:w1.heap.size+2≠w1.heap.size+1)) u
 lb:=ZD h.lb ((aa:w1.heap.size+3≠w1.heap.size+1)) u
 sb:=ZD h.sb ((aa:w1.heap.size+4≠w1.heap.size+1)) u
 ebl:=h.ebl
 ec:=h.ec
 ls:=h.ls.set (p:=⟨w1.heap.size+1,i,none⟩) ((aa:w1.heap.size+1<w1.heap.size+5)) u
 sz:=by rw[ZE];exact h.sz
theorem XRow.put0{tail:List Int}(h:XRow w sz n k tail)(x:Int):XRow (w.setCell ⟨sz,k,none⟩ (.int .i64 x)) sz n k tail:=by
 obtain⟨xs,h1,h2,h3⟩:=h;exact⟨_,h1.set k x,by simp[h2],by rw[List.drop_set_of_lt aa,h3]⟩
theorem XRow.full{tail:List Int}(h:XRow w sz n k tail)(hk:k=0)(hn:k<n)(x:Int):Row (w.setCell ⟨sz,k,none⟩ (.int .i64 x)) sz 2 .i64 (x::tail)/\(x::tail).length=n:=by
 subst hk;obtain⟨xs,h1,h2,h3⟩:=h
 cases xs with
 |nil=>simp at h2;omega
 |cons y ys=>
  simp at h3;subst h3;exact⟨h1.set 0 x,by simpa using h2⟩
theorem zmb{b:Nat}{x u:Value}{T:TypeId}(h:w.heap[b]? =some (.cells #[x] T (0,0))):(w.setCell ⟨b,0,none⟩ u).heap[b]? =some (.cells #[u] T (0,0)):=by
 rw[zX h];rfl
theorem SMem.snoc{W3 w4:World}{lc:Nat}(h:SMem w1 W n mA lA mc lc eb exact lB c l vs)(hx:Ext W W3){A4:Option Addr}{d4:Nat}{r:List Int}(hg:Grow (w1.heap.size+5) 34 W3 w4)(ho:Own w4 (w1.heap.size+5) 34 1 A4 (l.length+1) d4 (vs++[.slice B r.length d]))(hr:ArrX (w1.heap.size+5) W3 B 2 (r.map (Value.int .i64)))(h1:r.length<=d)(h2:d<=9223372036854775807):
  SMem w1 (w4.setCell ⟨w1.heap.size+3,0,none⟩ (.slice A4 (l.length+1) d4)) n mA lA mc lc eb exact A4 d4 (l++[r]) (vs++[.slice B r.length d]):=by
 have hk:∀b,b<w1.heap.size+5->∀o,W.heap[b]? =some o->w4.heap[b]? =some o:=fun b hb o ho=>(hg.below.block b hb).trans (zg hx ho)
 refine⟨?_,?_,?_,?_,?_,h.ebl,h.ec,?_,?_⟩
 ·exact(hg.ext (h.ext.trans hx) aa).setCell (p:=⟨w1.heap.size+3,0,none⟩) af _
 ·exact ZD (hk _ aa _ h.fb) ((aa:w1.heap.size≠w1.heap.size+3)) _
 ·exact ZD (hk _ aa _ h.xb) ((aa:w1.heap.size+2≠w1.heap.size+3)) _
 ·rw[length_append];exact zmb (hk _ aa _ h.lb)
 ·exact ZD (hk _ aa _ h.sb) ((aa:w1.heap.size+4≠w1.heap.size+3)) _
 ·exact(h.ls.snoc hx hg ho hr h1 h2).set (p:=⟨w1.heap.size+3,0,none⟩) ((aa:w1.heap.size+3<w1.heap.size+5)) _
 ·rw[ZE];have:=h.sz;have:=hx.size;have:=hg.below.size;omega
def zmc(w1:World)(n:Nat)(mA lA:Option Addr)(mc lc eb:Nat)(exact:Bool)(l:List (List Int))(k:Nat)(tail:List Int)(e:Ending)(W':World):Prop:=
 e= .returned (.tuple #[])/\XRow W' (w1.heap.size+1) n k tail/\∃lB c vs,SMem w1 W' n mA lA mc lc eb exact lB c l vs
theorem zgu:qB 220:=JQ Tryz.func220 ai ai
theorem SMem.took{wS W5 w6:World}{ln s5:Nat}{lc:Nat}{t t':List (List Int)}{tail:List Int}{x:Int}{A6 B5:Option Addr}{d5 d6:Nat}
  (hM:SMem w1 wS n mA lA mc lc eb exact lB c (l++t) vs) (hX:XRow wS (w1.heap.size+1) n k tail) (hs:Ext wS W5) (hO:Own W5 s5 2 1 B5 (x::tail).length d5 ((x::tail).map (Value.int .i64))) (hs5:w1.heap.size+5<=s5) (hn:(x::tail).length=n) (hl:(l++t).length=ln)
  (ho:Own w6 (w1.heap.size+5) 34 1 A6 (ln+1) d6 (vs++[.slice B5 n d5])) (hg:Grow (w1.heap.size+5) 34 (W5.alloc (.cells #[.slice B5 n d5] 34)) w6) (ht:t'=t++[x::tail]):
  XRow (w6.setCell ⟨w1.heap.size+3,0,none⟩ (.slice A6 (ln+1) d6)) (w1.heap.size+1) n k tail/\SMem w1 (w6.setCell ⟨w1.heap.size+3,0,none⟩ (.slice A6 (ln+1) d6)) n mA lA mc lc eb exact A6 d6 (l++t') (vs++[.slice B5 n d5]):=by
 subst hl ht;have hx:Ext wS (W5.alloc (.cells #[.slice B5 n d5] 34)):=Ext.alloc _ _ _;have hc:=hO.cap;constructor
 ·refine hX.keep ?_;rw[Below.heap_setCell _ _ _ _ ((aa:w1.heap.size+1≠w1.heap.size+3)),hg.below.block _ aa];exact hx.below.block _ (by have:=hM.sz;omega)
 ·have:=hM.snoc hx (r:=x::tail) (B:=B5) (d:=d5) hg (by rw[hn];exact ho) ((hO.arrX.lower hs5).ext (Ext.alloc _ _ _)) hc.1 hc.2;rw[<-append_assoc];rw[hn]at this;exact this
set_option maxRecDepth 100000 in
theorem zmd{za:Int}{D:List Int}{lc:Nat}(hD:Ints w1 mA 2 .i64 D)(hL:Mat64 w1 lA L)(hmc:n+1<=mc)(zx4:mc<=9223372036854775807)(hlc:n<=lc)(zx5:lc<=9223372036854775807)(hN:NumOK D L n za)(k:Nat):
  ∀(rest:Int)(zero:Bool)(tail:List Int)(W:World)(lB:Option Addr)(c:Nat)(l:List (List Int))(vs:List Value),LevOK D n za k rest tail->(zero=true->zU tail=0)->XRow W (w1.heap.size+1) n k tail->SMem w1 W n mA lA mc lc eb exact lB c l vs->(l++Zs D L exact k rest zero tail).length<=1073741824->
   Cq 220 (#[.int .i64 k,.int .i64 rest,.bool zero]++Jr w1.heap.size eb) W (zmc w1 n mA lA mc lc eb exact (l++Zs D L exact k rest zero tail) k tail):=by
 induction k using Nat.strongRecOn with
 |ind k ih=>
  intro rest zero tail W lB c l vs hLv hz hX hM zss;have hkn:=hLv.kn;have hn8:=hN.n8;obtain⟨f1,f2,-,-,f5⟩:=zN hM.fb;have xb1:W.cell? ⟨w1.heap.size+2,0,none⟩=some (.slice (some ⟨w1.heap.size+1,0,none⟩) n n):=by simp[World.cell?,hM.xb]
  have sb1:W.cell? ⟨w1.heap.size+4,0,none⟩=some (.func (.func 220) #[] (Jr w1.heap.size eb)):=by simp[World.cell?,hM.sb]
  obtain⟨xs,zsr,hxl,hxd⟩:=id hX;have hdl:=hN.dl;have hll:=hN.ll;have hd0:D[k]? =some (vD D k):=by unfold vD;simp[(aa:k<D.length)]
  have zvz:D[k+1]? =some (vD D (k+1)):=by unfold vD;simp[(aa:k+1<D.length)]
  obtain⟨bm,om,-,rfl,-⟩:=hD.at_ (i:=k) aa;obtain⟨m3,m4⟩:=Jm (hD.ext hM.ext) hd0;obtain⟨m1,-⟩:=Jm (hD.ext hM.ext) zvz;obtain⟨bl,ol,B,cl,rfl,l3,l5,l1,l2,l4⟩:=(hL.ext hM.ext).at_ (i:=k) (r:=L.getD k []) (by simp[(aa:k<L.length)]);have hrl:=hN.row k hkn;obtain⟨lam,ztt⟩:=Xz (L.getD k []);rw[hrl]at l1 l3;rw[<-ztt]at hrl l5;have HL5:=Zh l5;have zrq:=Zh ztt;have HRL:=Zh hrl
  have hsq:=zb2 hN hLv;have hR:=Jn hN hLv;have hd1:=hN.d1 (k+1) aa;have hd2:=hN.d2 (k+1) aa;obtain⟨sqn,ztu⟩:=Xz ((ZZ D k rest).toNat);have ztT:vD D k*rest=(sqn:Int):=by have:=hsq.1;rw[ztu];unfold ZZ at this|-;omega
  have zwB:sqn<4611686018427387904:=by have:=hsq.2;omega
  have HSQ:Hid (ZZ D k rest=(sqn:Int)):=Zh ztT;have HRT:Hid (vR D k rest=(zw sqn:Nat)):=Zh (by rw[ztu];rfl);have zwC:zw sqn<2147483648:=by have:=hR.2.1;rw[HRT.out]at this;omega
  obtain⟨r,hr⟩:=Xz (n-1-k);rw[<-hr]at l1 l3 HRL;have HRR:=Zh hr;have hr1:r+k+1<=n:=aa
  have hr2:n<=r+k+1:=aa
  obtain⟨d,hd⟩:=Xz (vD D (k+1));rw[<-hd]at m1 hd1 hd2;have HD:=Zh hd;obtain⟨dk,hdk⟩:=Xz (vD D k);rw[<-hdk]at m3 ztT;have HXD:=Zh hxd;have zrl:=Zh zsr;have HM:=Zh hM;have HX:=Zh hX;have HZ:=Zh hz;have HLV:=Zh hLv;have zrs:=Zh zss;have bw:w1.heap.size+1<W.heap.size:=by have:=hM.sz;omega
  clear hr hd hdk ztu hsq hR hxd hdl hll hd0 zvz ztt hrl hX hM hz zss l5;unfold Jr at sb1|-
  go_enter Tryz.func220,Tryz.ntmps220;go_wp2_with fail
  go_loop [12,13,14,34] (fun s _ _ i=>∃q:Nat,q<=r/\i= .int .i64 q/\s= .int .i64 (zx (lam.take q) (tail.take q))) (fun _ _ _ i=>r-(intOf i).toNat)
  case atStart=>exact⟨0,aa,rfl,by simp[zx]⟩
  case round=>
   obtain⟨q,hq,rfl,rfl⟩:=hrel;by_cases hlt:q<r
   ·obtain⟨a,ha⟩:∃a,lam[q]? =some a:=⟨_,Ze (by have:=HRL.out;omega)⟩;obtain⟨y,hy⟩:∃y,tail[q]? =some y:=⟨_,Ze (by have:=hLv.tl;have:=HRR.out;omega)⟩;obtain⟨b1,o1,-,rfl,-⟩:=HL5.out.at_ (i:=q) (by have:=HRL.out;omega);obtain⟨g1,g2⟩:=Jm HL5.out ha;have hxy:xs[k+1+q]? =some y:=by rw[<-hy,<-HXD.out,List.getElem?_drop]
    obtain⟨y',hy1,hy2⟩:=zsr.cell (i:=k+1+q) (by rw[hxl];omega);rw[hxy]at hy1;injection hy1 with hy1
    subst hy1;have hdv:=hN.d2 (k+1) aa;have ba:=hN.lam k hkn a (by rw[<-zrq.out];exact Zm ha);have bb:=zap tail q y hy;have bS:=Jo hN hLv;have bs:=zak (A:=32768) (B:=549755813888) aa aa (lam.take q) (tail.take q) (fun z hz=>by have:=hN.lam k hkn z (by rw[<-zrq.out];exact List.mem_of_mem_take hz);omega) (fun z hz=>by
     obtain⟨j,hj,e⟩:=List.getElem_of_mem (List.mem_of_mem_take hz);have:=zap tail j z (by simp[hj,e]);omega)
    have bm:=Qs (a:=a) (b:=y) (A:=32768) (B:=549755813888) aa aa aa aa;have ztn:=Zh (za4 lam tail q a y ha hy);have htl:(lam.take q).length<=8:=by rw[List.length_take];omega
    obtain⟨s,hs⟩:=Xz (zx (lam.take q) (tail.take q));rw[<-hs]at bs ztn|-
    have bs1:-144115188075855872<=s:=aa
    have bs2:s<=144115188075855872:=aa
    obtain⟨bm1,bm2⟩:=bm;have bm3:-18014398509481984<=a*y:=aa
    have bm4:a*y<=18014398509481984:=aa
    clear hdv ba bb bS bs bm1 bm2 hs ha hy hxy htl;go_wp2_with fail
    refine⟨⟨q+1,aa,by go_num,by rw[ztn.out]⟩,by simp[intOf]<;>omega⟩
   ·obtain rfl:q=r:=aa
    clear hlt;have e1:lam.take q=lam:=take_of_length_le (by have:=HRL.out;omega);have e2:tail.take q=tail:=take_of_length_le (by have:=hLv.tl;have:=HRR.out;omega);rw[e1,e2];clear e1 e2;have zuG:Hid (zx lam tail=qJ L k tail):=Zh (by rw[zrq.out];rfl);rw[zuG.out];obtain⟨sh,hsh⟩:=Xz (qJ L k tail);have bsh:=zdx hN hLv;have bmS:=zf1 hN hLv;rw[<-hsh]at bsh|-
    have bsh1:-36028247263150080<=sh:=aa
    have bsh2:sh<=36028247263150080:=aa
    have HSH:=Zh hsh;obtain⟨p,hp⟩:∃p,p=((zw sqn:Int)+sh) / d:=⟨_,rfl⟩;obtain⟨hi,hhi⟩:∃hi,hi=((zw sqn:Int)-sh) / d:=⟨_,rfl⟩;have HLO:Hid (zR D L k rest tail=-p):=Zh (by rw[hp,hsh,HD.out,zR,HRT.out]);have HHI:Hid (Z6 D L k rest tail=hi):=Zh (by rw[hhi,hsh,HD.out,Z6,HRT.out]);have ztU:=zaq hN hLv;have zs7:=zar hN hLv;have hSb:=Jo hN hLv;have zrp:Hid (Zf D L k rest tail=hi+p+1):=Zh (by rw[Zf,HLO.out,HHI.out];omega)
    rw[HLO.out,HHI.out,HRT.out]at ztU;rw[zrp.out]at zs7;have hp1:-1099511627776<=p:=aa
    have hp2:p<=1099511627776:=aa
    have hi1:-1099511627776<=hi:=aa
    have hi2:hi<=1099511627776:=aa
    have hq1:=hp.symm;have hq2:=hhi.symm;obtain⟨zvn,zvo⟩:=zs7;have zwV:zero=true->0<=p:=fun h=>by have:=zma hN hLv (HZ.out h);rw[HLO.out]at this;omega
    obtain⟨lo,zrz,zwW⟩:∃lo,Hid (Z0 D L k rest zero tail=lo)/\lo=if zero then 0 else-p:=⟨_,Zh rfl,by unfold Z0;rw[HLO.out]⟩
    clear bsh bmS ztU hSb hp hhi hsh;obtain⟨z,HZV⟩:∃z,Hid (z=zero):=⟨_,Zh rfl⟩;obtain⟨T,HT⟩:∃T:Nat->List (List Int),Hid (∀j,T j=jK D L exact k rest z tail j):=⟨_,Zh fun _=>rfl⟩;have HT1:Hid (∀j,T (j+1)=T j++JW D L exact k rest z tail (lo+(j:Int))):=Zh fun j=>by rw[HT.out,HT.out,zgt,HZV.out,zrz.out]
    have HTN:Hid (Zs D L exact k rest zero tail=T (hi-lo+1).toNat):=Zh (by rw[zl8,HT.out,HZV.out,jJ,HHI.out,zrz.out]);have HTL:Hid (∀(x:Int)(j:Nat),x=lo+j->x<=hi->(l++T (j+1)).length<=1073741824):=Zh fun x j h1 h2=>by
     have hh:=zrs.out;rw[HTN.out,HT.out]at hh;have:=(zl9 D L exact k rest z tail (i:=j+1) (j:=(hi-lo+1).toNat) aa).length_le;rw[HT.out];simp only[length_append]at hh|-
     omega
    have hZ2:Hid (z=true->zU tail=0):=Zh (by rw[HZV.out];exact HZ.out);rw[HTN.out];clear HZ zrz zrs
    cases zero
    all_goals (try simp only[if_true,if_false,Bool.false_eq_true,forall_const]at zwW zwV)
    all_goals (
     go_wp2_with (first
      |(go_at_call 221;refine(zk3 (a:=sqn) aa).mono ?_;rintro e w' ⟨rfl,rfl⟩)
      |(go_at_call 222;refine(zk2 aa aa aa aa).mono ?_;rintro e w' ⟨rfl,rfl⟩)))
    all_goals (
     go_loopw [19,20,21,99,112] (fun sx _ _ _ _ wr=>∃(x:Int) (j:Nat),sx= .int .i64 x/\Hid (x=lo+j)/\lo<=x/\-p<=x/\(x<=hi+1∨j=0)/\XRow wr (w1.heap.size+1) n k tail/\∃lB c vs,SMem w1 wr n (some ⟨bm,om,none⟩) (some ⟨bl,ol,none⟩) mc lc eb exact lB c (l++T j) vs) (fun sx _ _ _ _ _=>(hi+1-intOf sx).toNat)
     case atStart=>
      refine⟨_,0,rfl,Zh aa,aa,aa,.inr rfl,HX.out,lB,c,vs,?_⟩;rw[HT.out];simpa[jK] using HM.out
     case round=>
      obtain⟨x,j,rfl,HXJ,hx1,hx2,hx3,hX2,lB2,c2,vs2,hM2⟩:=hrel;clear xb1 sb1 f1 f2 f5 m1 m3 m4 l2 l3 l4 zsr zrl hxl HXD HM HX bw HL5;by_cases hlt:x<=hi
      ·have zs8:zR D L k rest tail<=x:=by rw[HLO.out];exact hx2
       have zs9:x<=Z6 D L k rest tail:=by rw[HHI.out];exact hlt
       have hub:=zdy hN hLv zs8 zs9;obtain⟨zta,zuH,-,-⟩:=zdz hN hLv zs8 zs9;obtain⟨u,hu⟩:=Xz (d*x+sh);have HU:Hid (vU D L k tail x=u):=Zh (by rw[hu,HSH.out,HD.out];rfl);have HRS:Hid (Z7 D L k rest tail x=((sqn:Int)-u*u) / d):=Zh (by rw[Z7,HU.out,HSQ.out,<-HD.out]);rw[HU.out]at hub zta zuH;rw[HSQ.out]at zta;rw[HRT.out]at hub;have hln:=HTL.out x j HXJ.out hlt;have xb2:wr.cell? ⟨w1.heap.size+2,0,none⟩=some (.slice (some ⟨w1.heap.size+1,0,none⟩) n n):=by simp[World.cell?,hM2.xb]
       have sb2:wr.cell? ⟨w1.heap.size+4,0,none⟩=some (.func (.func 220) #[] (Jr w1.heap.size eb)):=by simp[World.cell?,hM2.sb]
       have lb2:wr.cell? ⟨w1.heap.size+3,0,none⟩=some (.slice lB2 (l++T j).length c2):=by simp[World.cell?,hM2.lb]
       have ec2:wr.cell? ⟨eb,0,none⟩=some (.bool exact):=(World.cell?_of_block (hM2.ext.below.block eb hM2.ebl)).trans hM2.ec;have bw2:w1.heap.size+5<=wr.heap.size:=hM2.sz;have zx6:=hM2.ebl;obtain⟨xs2,zud,zvA,-⟩:=id hX2;obtain⟨y0,-,hc0⟩:=zud.cell (i:=k) aa;have hf0:=zud.frozen k;have hu':=hu.symm;have zwE:-2147483648<=u:=aa
       have zwF:u<=2147483648:=aa
       have hus:u*u<=4611686018427387904:=aa
       have hdx:=Qs (a:=d) (b:=x) (A:=65536) (B:=2199023255552) aa aa aa aa;have zwG:-144115188075855872<=d*x:=aa
       have zwH:d*x<=144115188075855872:=aa
       by_cases hk0:k=0
       ·have hkb:¬((0:Int)<k):=aa
        have zx7:k<1:=aa
        have hX3:=hX2.put0 x;obtain⟨hR3,hRl⟩:=hX2.full hk0 hkn x;have hM3:=hM2.setX k (.int .i64 x);obtain⟨lf,hlf⟩:∃lf,lf=((sqn:Int)-u*u) / d:=⟨_,rfl⟩;have HLF:=Zh hlf;have HNX:Hid (T (j+1)=T j++if jm z exact x lf then [x::tail] else []):=Zh (by
         rw[HT1.out,<-HXJ.out,JW,if_pos hk0,HRS.out,hlf])
        have zx8:=hlf.symm;clear hub hu zs8 zs9 hdx zvA zud hlf;have HX3:=Zh hX3;have HR3:=Zh hR3;have HM3:=Zh hM3;have HLN:=Zh hln;have zrk:=Zh hRl;have HK0:=Zh hk0;clear hM2 hX2 hX3 hR3 hM3 hln hRl hk0;by_cases htk:jm z exact x lf=true
        ·have hT2:Hid (T (j+1)=T j++[x::tail]):=Zh (by rw[HNX.out];simp[htk]);have ztG:¬(z=true/\x=0)/\(exact=false∨(exact=true/\lf=0)):=by
          cases z<;>cases exact<;>by_cases hx0:x=0<;>by_cases hl0:lf=0<;>simp_all [jm]
         have zue:(z=false∨(z=true/\(x==0)=false))/\(exact=false∨(exact=true/\(lf==0)=true)):=by
          cases z<;>cases exact<;>by_cases hx0:x=0<;>by_cases hl0:lf=0<;>simp_all [jm]
         rw[HZV.out]at zue;simp only[Bool.false_eq_true,Bool.true_eq_false,false_and,true_and,false_or,or_false,true_or]at zue;clear htk HNX ztG;first
          |(obtain⟨zuf,he1⟩:=zue
            rcases he1 with rfl|⟨rfl,hl0⟩
            ·go_wp2_with fail
             generalize wr.setCell ⟨w1.heap.size+1,k,none⟩ (.int .i64 x)=wS at HX3 HR3 HM3|-
             obtain⟨ln,zsE⟩:=Yz ((l++T j).length);have zrt:=Zh zsE;have zsF:=HM3.out.lb;rw[zsE]at zsF;have lb3:wS.cell? ⟨w1.heap.size+3,0,none⟩=some (.slice lB2 ln c2):=by simp[World.cell?,zsF]
             have lf3:wS.frozen? ⟨w1.heap.size+3,0,none⟩=false:=by simp[World.frozen?,zsF]
             have zsI:=HM3.out.ls.own;rw[zsE]at zsI;have HO3:=Zh zsI;have HLB:=Zh zsF;have hle:ln+1<=1073741824:=by
              have:=HLN.out;rw[hT2.out,<-append_assoc,length_append,zsE]at this;simpa using this
             have xb3:wS.cell? ⟨w1.heap.size+2,0,none⟩=some (.slice (some ⟨w1.heap.size+1,0,none⟩) n n):=by simp[World.cell?,HM3.out.xb]
             have bw3:=HM3.out.sz;have oS3:Old (w1.heap.size+3) wS:=⟨aa⟩;have hcl:=fun W(hxx:Ext wS W)=>zba (w:=W) (c:=n) HR3.out.ints (by rw[zrk.out];omega)
             rw[zrk.out]at hcl;have HCL:=Zh hcl;clear hcl zsE lb2 zsF zsI;go_region_law (first
              |((refine QS _ rfl (.tmp 94) (.tmp 97) 25 rfl (w1.heap.size+5) 34 (.slice none 0 0) 1 24 Tryz.underlying25 qe rfl ac ac lB2 ln c2 vs2 (by simp[Act.eval]) (HO3.out.ext Zi) (some ⟨W5.heap.size,0,none⟩) 1 1 [.slice B5 n d5] (by simp[Act.eval]) ((Arr.new W5 34 #[.slice B5 n d5]).ext Zi) rfl (by simp[Value.oneCell']) aa (by have:=hs5.size;simp at this|-;omega) ?_);intro A6 d6 w6 zsx hg6;have hb6:=(hg6.below.block (w1.heap.size+3) aa).trans (zg (Zi:Ext wS ((W5.alloc (Obj.cells #[Value.slice B5 n d5] 34)))) HLB.out);have q1:w6.cell? ⟨w1.heap.size+3,0,none⟩=some (.slice lB2 ln c2):=(by simp[World.cell?,hb6]);have q2:w6.frozen? ⟨w1.heap.size+3,0,none⟩=false:=(by simp[World.frozen?,hb6]);have q3:w1.heap.size+3<w6.heap.size:=zi hb6;clear hb6)
              |(go_simp;go_at_call 223;refine(HCL.out _ Zi).mono ?_;rintro e W5 ⟨B5,d5,rfl,hO5,hs5⟩;rw[zrk.out]))
             all_goals (
              obtain⟨hX6,hM6⟩:=SMem.took HM3.out HX3.out (Zi:Ext wS W5) hO5 HM3.out.sz zrk.out zrt.out zsx hg6 hT2.out;clear q1 q2 q3 zsx hg6 hO5 hs5 HCL HO3 HLB lb3 lf3 xb3;generalize w6.setCell ⟨w1.heap.size+3,0,none⟩ (.slice A6 (ln+1) d6)=w7 at hX6 hM6|-
              have HX6:=Zh hX6;have HM6:=Zh hM6;clear hX6 hM6;go_wp2_with fail
              exact⟨⟨x+1,j+1,rfl,Zh (by have:=HXJ.out;omega),aa,aa,.inl aa,HX6.out,A6,d6,_,HM6.out⟩,by simp[intOf]<;>omega⟩)
            ·go_wp2_with fail
             generalize wr.setCell ⟨w1.heap.size+1,k,none⟩ (.int .i64 x)=wS at HX3 HR3 HM3|-
             obtain⟨ln,zsE⟩:=Yz ((l++T j).length);have zrt:=Zh zsE;have zsF:=HM3.out.lb;rw[zsE]at zsF;have lb3:wS.cell? ⟨w1.heap.size+3,0,none⟩=some (.slice lB2 ln c2):=by simp[World.cell?,zsF]
             have lf3:wS.frozen? ⟨w1.heap.size+3,0,none⟩=false:=by simp[World.frozen?,zsF]
             have zsI:=HM3.out.ls.own;rw[zsE]at zsI;have HO3:=Zh zsI;have HLB:=Zh zsF;have hle:ln+1<=1073741824:=by
              have:=HLN.out;rw[hT2.out,<-append_assoc,length_append,zsE]at this;simpa using this
             have xb3:wS.cell? ⟨w1.heap.size+2,0,none⟩=some (.slice (some ⟨w1.heap.size+1,0,none⟩) n n):=by simp[World.cell?,HM3.out.xb]
             have bw3:=HM3.out.sz;have oS3:Old (w1.heap.size+3) wS:=⟨aa⟩;have hcl:=fun W(hxx:Ext wS W)=>zba (w:=W) (c:=n) HR3.out.ints (by rw[zrk.out];omega)
             rw[zrk.out]at hcl;have HCL:=Zh hcl;clear hcl zsE lb2 zsF zsI;go_region_law (first
              |((refine QS _ rfl (.tmp 94) (.tmp 97) 25 rfl (w1.heap.size+5) 34 (.slice none 0 0) 1 24 Tryz.underlying25 qe rfl ac ac lB2 ln c2 vs2 (by simp[Act.eval]) (HO3.out.ext Zi) (some ⟨W5.heap.size,0,none⟩) 1 1 [.slice B5 n d5] (by simp[Act.eval]) ((Arr.new W5 34 #[.slice B5 n d5]).ext Zi) rfl (by simp[Value.oneCell']) aa (by have:=hs5.size;simp at this|-;omega) ?_);intro A6 d6 w6 zsx hg6;have hb6:=(hg6.below.block (w1.heap.size+3) aa).trans (zg (Zi:Ext wS ((W5.alloc (Obj.cells #[Value.slice B5 n d5] 34)))) HLB.out);have q1:w6.cell? ⟨w1.heap.size+3,0,none⟩=some (.slice lB2 ln c2):=(by simp[World.cell?,hb6]);have q2:w6.frozen? ⟨w1.heap.size+3,0,none⟩=false:=(by simp[World.frozen?,hb6]);have q3:w1.heap.size+3<w6.heap.size:=zi hb6;clear hb6)
              |(go_simp;go_at_call 223;refine(HCL.out _ Zi).mono ?_;rintro e W5 ⟨B5,d5,rfl,hO5,hs5⟩;rw[zrk.out]))
             all_goals (
              obtain⟨hX6,hM6⟩:=SMem.took HM3.out HX3.out (Zi:Ext wS W5) hO5 HM3.out.sz zrk.out zrt.out zsx hg6 hT2.out;clear q1 q2 q3 zsx hg6 hO5 hs5 HCL HO3 HLB lb3 lf3 xb3;generalize w6.setCell ⟨w1.heap.size+3,0,none⟩ (.slice A6 (ln+1) d6)=w7 at hX6 hM6|-
              have HX6:=Zh hX6;have HM6:=Zh hM6;clear hX6 hM6;go_wp2_with fail
              exact⟨⟨x+1,j+1,rfl,Zh (by have:=HXJ.out;omega),aa,aa,.inl aa,HX6.out,A6,d6,_,HM6.out⟩,by simp[intOf]<;>omega⟩))
          |(rcases zue with rfl|⟨rfl,hl0⟩
            ·go_wp2_with fail
             generalize wr.setCell ⟨w1.heap.size+1,k,none⟩ (.int .i64 x)=wS at HX3 HR3 HM3|-
             obtain⟨ln,zsE⟩:=Yz ((l++T j).length);have zrt:=Zh zsE;have zsF:=HM3.out.lb;rw[zsE]at zsF;have lb3:wS.cell? ⟨w1.heap.size+3,0,none⟩=some (.slice lB2 ln c2):=by simp[World.cell?,zsF]
             have lf3:wS.frozen? ⟨w1.heap.size+3,0,none⟩=false:=by simp[World.frozen?,zsF]
             have zsI:=HM3.out.ls.own;rw[zsE]at zsI;have HO3:=Zh zsI;have HLB:=Zh zsF;have hle:ln+1<=1073741824:=by
              have:=HLN.out;rw[hT2.out,<-append_assoc,length_append,zsE]at this;simpa using this
             have xb3:wS.cell? ⟨w1.heap.size+2,0,none⟩=some (.slice (some ⟨w1.heap.size+1,0,none⟩) n n):=by simp[World.cell?,HM3.out.xb]
             have bw3:=HM3.out.sz;have oS3:Old (w1.heap.size+3) wS:=⟨aa⟩;have hcl:=fun W(hxx:Ext wS W)=>zba (w:=W) (c:=n) HR3.out.ints (by rw[zrk.out];omega)
             rw[zrk.out]at hcl;have HCL:=Zh hcl;clear hcl zsE lb2 zsF zsI;go_region_law (first
              |((refine QS _ rfl (.tmp 94) (.tmp 97) 25 rfl (w1.heap.size+5) 34 (.slice none 0 0) 1 24 Tryz.underlying25 qe rfl ac ac lB2 ln c2 vs2 (by simp[Act.eval]) (HO3.out.ext Zi) (some ⟨W5.heap.size,0,none⟩) 1 1 [.slice B5 n d5] (by simp[Act.eval]) ((Arr.new W5 34 #[.slice B5 n d5]).ext Zi) rfl (by simp[Value.oneCell']) aa (by have:=hs5.size;simp at this|-;omega) ?_);intro A6 d6 w6 zsx hg6;have hb6:=(hg6.below.block (w1.heap.size+3) aa).trans (zg (Zi:Ext wS ((W5.alloc (Obj.cells #[Value.slice B5 n d5] 34)))) HLB.out);have q1:w6.cell? ⟨w1.heap.size+3,0,none⟩=some (.slice lB2 ln c2):=(by simp[World.cell?,hb6]);have q2:w6.frozen? ⟨w1.heap.size+3,0,none⟩=false:=(by simp[World.frozen?,hb6]);have q3:w1.heap.size+3<w6.heap.size:=zi hb6;clear hb6)
              |(go_simp;go_at_call 223;refine(HCL.out _ Zi).mono ?_;rintro e W5 ⟨B5,d5,rfl,hO5,hs5⟩;rw[zrk.out]))
             all_goals (
              obtain⟨hX6,hM6⟩:=SMem.took HM3.out HX3.out (Zi:Ext wS W5) hO5 HM3.out.sz zrk.out zrt.out zsx hg6 hT2.out;clear q1 q2 q3 zsx hg6 hO5 hs5 HCL HO3 HLB lb3 lf3 xb3;generalize w6.setCell ⟨w1.heap.size+3,0,none⟩ (.slice A6 (ln+1) d6)=w7 at hX6 hM6|-
              have HX6:=Zh hX6;have HM6:=Zh hM6;clear hX6 hM6;go_wp2_with fail
              exact⟨⟨x+1,j+1,rfl,Zh (by have:=HXJ.out;omega),aa,aa,.inl aa,HX6.out,A6,d6,_,HM6.out⟩,by simp[intOf]<;>omega⟩)
            ·go_wp2_with fail
             generalize wr.setCell ⟨w1.heap.size+1,k,none⟩ (.int .i64 x)=wS at HX3 HR3 HM3|-
             obtain⟨ln,zsE⟩:=Yz ((l++T j).length);have zrt:=Zh zsE;have zsF:=HM3.out.lb;rw[zsE]at zsF;have lb3:wS.cell? ⟨w1.heap.size+3,0,none⟩=some (.slice lB2 ln c2):=by simp[World.cell?,zsF]
             have lf3:wS.frozen? ⟨w1.heap.size+3,0,none⟩=false:=by simp[World.frozen?,zsF]
             have zsI:=HM3.out.ls.own;rw[zsE]at zsI;have HO3:=Zh zsI;have HLB:=Zh zsF;have hle:ln+1<=1073741824:=by
              have:=HLN.out;rw[hT2.out,<-append_assoc,length_append,zsE]at this;simpa using this
             have xb3:wS.cell? ⟨w1.heap.size+2,0,none⟩=some (.slice (some ⟨w1.heap.size+1,0,none⟩) n n):=by simp[World.cell?,HM3.out.xb]
             have bw3:=HM3.out.sz;have oS3:Old (w1.heap.size+3) wS:=⟨aa⟩;have hcl:=fun W(hxx:Ext wS W)=>zba (w:=W) (c:=n) HR3.out.ints (by rw[zrk.out];omega)
             rw[zrk.out]at hcl;have HCL:=Zh hcl;clear hcl zsE lb2 zsF zsI;go_region_law (first
              |((refine QS _ rfl (.tmp 94) (.tmp 97) 25 rfl (w1.heap.size+5) 34 (.slice none 0 0) 1 24 Tryz.underlying25 qe rfl ac ac lB2 ln c2 vs2 (by simp[Act.eval]) (HO3.out.ext Zi) (some ⟨W5.heap.size,0,none⟩) 1 1 [.slice B5 n d5] (by simp[Act.eval]) ((Arr.new W5 34 #[.slice B5 n d5]).ext Zi) rfl (by simp[Value.oneCell']) aa (by have:=hs5.size;simp at this|-;omega) ?_);intro A6 d6 w6 zsx hg6;have hb6:=(hg6.below.block (w1.heap.size+3) aa).trans (zg (Zi:Ext wS ((W5.alloc (Obj.cells #[Value.slice B5 n d5] 34)))) HLB.out);have q1:w6.cell? ⟨w1.heap.size+3,0,none⟩=some (.slice lB2 ln c2):=(by simp[World.cell?,hb6]);have q2:w6.frozen? ⟨w1.heap.size+3,0,none⟩=false:=(by simp[World.frozen?,hb6]);have q3:w1.heap.size+3<w6.heap.size:=zi hb6;clear hb6)
              |(go_simp;go_at_call 223;refine(HCL.out _ Zi).mono ?_;rintro e W5 ⟨B5,d5,rfl,hO5,hs5⟩;rw[zrk.out]))
             all_goals (
              obtain⟨hX6,hM6⟩:=SMem.took HM3.out HX3.out (Zi:Ext wS W5) hO5 HM3.out.sz zrk.out zrt.out zsx hg6 hT2.out;clear q1 q2 q3 zsx hg6 hO5 hs5 HCL HO3 HLB lb3 lf3 xb3;generalize w6.setCell ⟨w1.heap.size+3,0,none⟩ (.slice A6 (ln+1) d6)=w7 at hX6 hM6|-
              have HX6:=Zh hX6;have HM6:=Zh hM6;clear hX6 hM6;go_wp2_with fail
              exact⟨⟨x+1,j+1,rfl,Zh (by have:=HXJ.out;omega),aa,aa,.inl aa,HX6.out,A6,d6,_,HM6.out⟩,by simp[intOf]<;>omega⟩))
        ·have hT2:Hid (T (j+1)=T j):=Zh (by rw[HNX.out];simp[htk]);have ztG:(z=true/\(x==0)=true)∨(z=true/\(x==0)=false/\exact=true/\(lf==0)=false)∨(z=false/\exact=true/\(lf==0)=false):=by
          cases z<;>cases exact<;>by_cases hx0:x=0<;>by_cases hl0:lf=0<;>simp_all [jm]
         rw[HZV.out]at ztG;simp only[Bool.false_eq_true,Bool.true_eq_false,false_and,true_and,false_or,or_false]at ztG;clear htk HNX;have zst:∀v:Value,v= .int .i64 (x+1)->(∃(x':Int) (j:Nat),v= .int .i64 x'/\Hid (x'=lo+j)/\lo<=x'/\-p<=x'/\(x'<=hi+1∨j=0)/\XRow (wr.setCell ⟨w1.heap.size+1,k,none⟩ (.int .i64 x)) (w1.heap.size+1) n k tail/\∃lB c vs,SMem w1 (wr.setCell ⟨w1.heap.size+1,k,none⟩ (.int .i64 x)) n (some ⟨bm,om,none⟩) (some ⟨bl,ol,none⟩) mc lc eb exact lB c (l++T j) vs):=fun v hv=>⟨x+1,j+1,hv,Zh (by have:=HXJ.out;omega),aa,aa,.inl aa,HX3.out,lB2,c2,vs2,by rw[hT2.out];exact HM3.out⟩
         have zrm:=Zh zst;clear zst;first
          |(obtain⟨rfl,hl0⟩:=ztG
            go_wp2_with fail
            exact⟨zrm.out _ rfl,by simp[intOf]<;>omega⟩)
          |(rcases ztG with zuf|⟨zuf,rfl,hl0⟩
            ·go_wp2_with fail
             exact⟨zrm.out _ rfl,by simp[intOf]<;>omega⟩
            ·go_wp2_with fail
             exact⟨zrm.out _ rfl,by simp[intOf]<;>omega⟩)
       ·obtain⟨k',HK1⟩:∃k',Hid (k=k'+1):=⟨k-1,Zh aa⟩;have zwD:1<=k:=aa
        have hkb:decide ((0:Int)<k)=true:=by simp;omega
        have hLn:LevOK D n za (k'+1) rest tail:=by rw[<-HK1.out];exact hLv
        have hL':LevOK D n za k' (((sqn:Int)-u*u) / d) (x::tail):=by
         have:=LevOK.next hN hLn (x:=x) (by rw[<-HK1.out];exact zs8) (by rw[<-HK1.out];exact zs9);rw[<-HK1.out,HRS.out]at this;exact this
        have hX3:XRow (wr.setCell ⟨w1.heap.size+1,k,none⟩ (.int .i64 x)) (w1.heap.size+1) n k' (x::tail):=by
         have h1:XRow wr (w1.heap.size+1) n (k'+1) tail:=by rw[<-HK1.out];exact hX2
         have:=h1.put (by have:=HK1.out;omega) x;rw[<-HK1.out]at this;exact this
        obtain⟨zb,HZB⟩:∃zb,Hid (zb=(z&&decide (x=0))):=⟨_,Zh rfl⟩;have hz3:zb=true->zU (x::tail)=0:=fun h=>by
         rw[HZB.out]at h;simp at h;have:=hZ2.out h.1;simp[zU,h.2]at this|-
         exact this
        have HNX:Hid (T (j+1)=T j++Zs D L exact k' (((sqn:Int)-u*u) / d) zb (x::tail)):=Zh (by
         rw[HT1.out,<-HXJ.out,JW,if_neg hk0,HRS.out,HZB.out,show k-1=k' by have:=HK1.out;omega])
        have zsD:=ih k' (by have:=HK1.out;omega) _ zb _ _ _ _ (l++T j) _ hL' hz3 hX3 (hM2.setX k (.int .i64 x)) (by rw[append_assoc,<-HNX.out];exact hln);rw[append_assoc,<-HNX.out,show ((k':Nat):Int)=(k:Int)-1 by have:=HK1.out;omega]at zsD;unfold Jr at sb2 zsD;simp only[List.append_toArray,List.cons_append,nil_append]at zsD;have HC:=Zh zsD;have hfn:=zgu;unfold qB at hfn;clear hub hu zs8 zs9 hX3 hL' hLn zsD hdx zvA zud hz3 hln hk0
        have HM2:=Zh hM2;have HX2:=Zh hX2;clear hM2 hX2;by_cases hx0:x=0
        all_goals (
         have hzb:=HZB.out;rw[HZV.out]at hzb;simp[hx0]at hzb;subst hzb)
        ·have zuf:(x==0)=true:=by simp[hx0]
         clear hx0;go_wp2_with (refine HC.out.mono ?_;rintro e W3 ⟨rfl,hX4,lB4,c4,vs4,hM4⟩)
         refine⟨⟨x+1,j+1,rfl,Zh (by have:=HXJ.out;omega),aa,aa,.inl aa,?_,lB4,c4,vs4,hM4⟩,by simp[intOf]<;>omega⟩;have:=hX4.up;rw[<-HK1.out]at this;exact this
        ·have zuf:(x==0)=false:=by simp[hx0]
         clear hx0;go_wp2_with (refine HC.out.mono ?_;rintro e W3 ⟨rfl,hX4,lB4,c4,vs4,hM4⟩)
         refine⟨⟨x+1,j+1,rfl,Zh (by have:=HXJ.out;omega),aa,aa,.inl aa,?_,lB4,c4,vs4,hM4⟩,by simp[intOf]<;>omega⟩;have:=hX4.up;rw[<-HK1.out]at this;exact this
      ·have hj:j=(hi-lo+1).toNat:=by have:=HXJ.out;omega
       have HJJ:=Zh hj;clear hj;go_wp2_with fail
       go_end0
       refine⟨rfl,hX2,lB2,c2,vs2,?_⟩;rw[HTN.out,<-HJJ.out];exact hM2)
def zb6(w:World)(v:Value)(e:Ending)(w':World):Prop:=e= .returned v/\∃n,w'=w.drewN n
theorem zgv{X Y:Option Addr}{x y:List Int}(hX:Ints w0 X 2 .i64 x)(hY:Ints w0 Y 2 .i64 y)(hx1:x.length<=1099511627776)(hy1:y.length<=1099511627776)[hx:Ext w0 w]:
  Cq 14 #[.slice X x.length c,.slice Y y.length d] w (zb6 w (.int .i64 (zn x y))):=by
 go_enter Tryz.func14,Tryz.ntmps14;go_wp2;go_loopw [5] (fun i wr=>∃k:Nat,k<=x.length/\k<=y.length/\i= .int .i64 k/\Hid (zn x y=zn (x.drop k) (y.drop k))/\Hid (∃n,wr=w.drewN n)) (fun i _=>x.length-(intOf i).toNat)
 case atStart=>exact⟨0,aa,aa,rfl,Zh rfl,Zh ⟨0,rfl⟩⟩
 case round=>
  obtain⟨k,hk1,hk2,rfl,HE,HN⟩:=hrel;have hxn:Ext w0 wr:=by obtain⟨n,hn⟩:=HN.out;rw[hn];infer_instance
  by_cases hlt:k<x.length
  ·obtain⟨b1,o1,a,rfl,ha,g1,g2⟩:=(hX.ext hxn).at_ hlt;by_cases ztb:k<y.length
   ·obtain⟨b2,o2,b,rfl,hb,g3,g4⟩:=(hY.ext hxn).at_ ztb;have ea:x.drop k=a::x.drop (k+1):=by rw[List.drop_eq_getElem_cons hlt,(Zg.1 ha).2]
    have eb:y.drop k=b::y.drop (k+1):=by rw[List.drop_eq_getElem_cons ztb,(Zg.1 hb).2]
    have HE2:Hid (zn x y=if zo a b=0 then zn (x.drop (k+1)) (y.drop (k+1)) else zo a b):=Zh (by rw[HE.out,ea,eb,zn]);clear ha hb ea eb;by_cases hab:a<b
    ·have h1:(a !=b)=true:=by simp;omega
     have h2:decide (a<b)=true:=by simpa using hab
     have HV:Hid (zn x y=-1):=Zh (by rw[HE2.out,qr hab];rfl);clear hab;go_wp2;go_quiet (fail)
     go_wp2;go_quiet (fail)
     go_wp2;go_ret;exact⟨by rw[HV.out];rfl,by obtain⟨n,hn⟩:=HN.out;exact⟨_,by rw[hn,World.drewN_drewN,World.drewN_drewN]⟩⟩
    ·by_cases hba:b<a
     ·have h1:(a !=b)=true:=by simp;omega
      have h2:decide (a<b)=false:=by simpa using hab
      have HV:Hid (zn x y=1):=Zh (by rw[HE2.out,Ql hba];rfl);clear hab hba;go_wp2;go_quiet (fail)
      go_wp2;go_quiet (fail)
      go_wp2;go_ret;exact⟨by rw[HV.out];rfl,by obtain⟨n,hn⟩:=HN.out;exact⟨_,by rw[hn,World.drewN_drewN,World.drewN_drewN]⟩⟩
     ·have zuO:a=b:=aa
      have h1:(a !=b)=false:=by simp[zuO]
      have HV:Hid (zn x y=zn (x.drop (k+1)) (y.drop (k+1))):=Zh (by rw[HE2.out,Qm zuO];rfl);clear hab hba zuO;go_wp2;go_quiet (fail)
      go_wp2;exact⟨⟨k+1,aa,aa,by go_num,HV,Zh (by obtain⟨n,hn⟩:=HN.out;exact⟨_,by rw[hn,World.drewN_drewN]⟩)⟩,by simp[intOf];omega⟩
   ·have HV:Hid (zn x y=1):=Zh (by
     rw[HE.out,List.drop_eq_getElem_cons hlt,show y.drop k=[] from drop_eq_nil_iff.2 aa];rfl)
    clear ha;go_wp2;go_ret;exact⟨by rw[HV.out];rfl,HN.out⟩
  ·by_cases ztb:k<y.length
   ·have HV:Hid (zn x y=-1):=Zh (by
     rw[HE.out,show x.drop k=[] from drop_eq_nil_iff.2 aa,List.drop_eq_getElem_cons ztb];rfl)
    go_wp2;go_ret;exact⟨by rw[HV.out];rfl,HN.out⟩
   ·have HV:Hid (zn x y=0):=Zh (by
     rw[HE.out,show x.drop k=[] from drop_eq_nil_iff.2 aa,show y.drop k=[] from drop_eq_nil_iff.2 aa];rfl)
    go_wp2;go_ret;exact⟨by rw[HV.out];rfl,HN.out⟩
theorem zgw{a b:List (List Int)}(hA:Mat64 w0 A a)(hB:Mat64 w0 B b)(ha1:a.length<=1099511627776)(hb1:b.length<=1099511627776)(ha2:∀r∈a,r.length<=1099511627776)(hb2:∀r∈b,r.length<=1099511627776)[hx:Ext w0 w]:
  Cq 32 #[.slice A a.length c,.slice B b.length d] w (zb6 w (.bool (decide (a=b)))):=by
 by_cases hl:a.length=b.length
 ·rw[<-hl];have hlb:((a.length:Int) !=(a.length:Int))=false:=af
  have HL:=Zh hl;have HA2:=Zh ha2;have HB2:=Zh hb2;clear hl ha2 hb2 hb1;obtain⟨q,hq⟩:=Xz a.length;rw[<-hq]at hlb ha1|-
  have HQ:=Zh hq;clear hq;go_enter Tryz.func32,Tryz.ntmps32;go_wp2;go_loopw [5,13] (fun _ i wr=>∃k:Nat,k<=q/\i= .int .i64 k/\Hid (a.take k=b.take k)/\Hid (∃n,wr=w.drewN n)) (fun _ i _=>q-(intOf i).toNat)
  case atStart=>exact⟨0,aa,rfl,Zh rfl,Zh ⟨0,rfl⟩⟩
  case round=>
   obtain⟨k,hk,rfl,HE,HN⟩:=hrel;have hxn:Ext w0 wr:=by obtain⟨n,hn⟩:=HN.out;rw[hn];infer_instance
   by_cases hlt:k<q
   ·have hka:k<a.length:=by have:=HQ.out;omega
    have hkb:k<b.length:=by have:=HQ.out;have:=HL.out;omega
    obtain⟨b1,o1,X,c1,rfl,e1,f1,f2,f3,f4⟩:=(hA.ext hxn).at_ (i:=k) (r:=a[k]) (by simp[hka]);obtain⟨b2,o2,Y,c2,rfl,e2,g1,g2,g3,g4⟩:=(hB.ext hxn).at_ (i:=k) (r:=b[k]) (by simp[hkb]);obtain⟨x,hxx⟩:=Xz (a[k]);obtain⟨y,hyy⟩:=Xz (b[k]);have hxl:=HA2.out a[k] (List.getElem_mem hka);have hyl:=HB2.out b[k] (List.getElem_mem hkb);rw[<-hxx]at e1 f1 f2 hxl;rw[<-hyy]at e2 g1 g2 hyl;have HX:Hid (a[k]? =some x):=Zh (by rw[hxx];simp[hka])
    have HY:Hid (b[k]? =some y):=Zh (by rw[hyy];simp[hkb]);have hc:=fun n=>zgv (w0:=wr) (w:=wr.drewN n) (c:=c1) (d:=c2) f1 g1 hxl hyl
    have HC:=Zh hc;clear hxx hyy hc f1 g1;by_cases hxy:x=y
    ·subst hxy;have HT:Hid (a.take (k+1)=b.take (k+1)):=Zh (by rw[take_add_one,take_add_one,HE.out,HX.out,HY.out]);rw[jk]at HC;go_wp2;go_quiet ((go_at_call 14;exact Calls.quiet_of (HC.out _)))
     go_wp2;exact⟨⟨k+1,aa,by go_num,HT,Zh (by obtain⟨n,hn⟩:=HN.out;exact⟨_,by rw[hn,World.drewN_drewN]⟩)⟩,by simp[intOf];omega⟩
    ·obtain⟨v,hv⟩:=Xz (zn x y);rw[<-hv]at HC;have hv0:(v !=0)=true:=by simp;intro h;exact hxy (jH _ _ (hv▸h))
     have HV:Hid (decide (a=b)=false):=Zh (by simp;intro h;apply hxy;have h1:=HX.out;rw[h,HY.out]at h1;injection h1 with h1;exact h1.symm);clear hv hxy;go_wp2;go_quiet ((go_at_call 14;exact Calls.quiet_of (HC.out _)))
     go_wp2;go_ret;exact⟨by rw[HV.out];rfl,by obtain⟨n,hn⟩:=HN.out;exact⟨_,by rw[hn,World.drewN_drewN]⟩⟩
   ·have HV:Hid (decide (a=b)=true):=Zh (by
     have h1:a.take k=a:=take_of_length_le (by have:=HQ.out;omega);have h2:b.take k=b:=take_of_length_le (by have:=HQ.out;have:=HL.out;omega);have:=HE.out;rw[h1,h2]at this;simp[this])
    go_wp2;go_ret;exact⟨by rw[HV.out];rfl,HN.out⟩
 ·have hlb:((a.length:Int) !=(b.length:Int))=true:=by simp;omega
  have HV:Hid (decide (a=b)=false):=Zh (by simp;intro h;exact hl (by rw[h]));clear hl;go_enter Tryz.func32,Tryz.ntmps32;go_wp2;go_ret;exact⟨by rw[HV.out];rfl,0,rfl⟩
theorem IntsA.at0{l:List Int}(h:IntsA w A l)(hi:0<l.length):∃b o x,A=some ⟨b,o,none⟩/\l[0]? =some x/\w.cell? ⟨b,o,none⟩=some (.int .i64 x)/\b<w.heap.size:=by
 obtain⟨te,h⟩:=h;exact h.at0 hi
def zB(m:List (List Int))(za:Int)(exact:Bool):List (List Int):=
 if m.length=1 then qU (ent m 0 0) za exact (zw (za / ent m 0 0).toNat)
 else Zs (zl m m.length) (zq m m.length) exact (m.length-1) (vD (zl m m.length) m.length*za) true []
theorem zgx{h za:Int}(h1:1<=h)(hb:0<=za):(∀x:Int,1<=x->x<=(zw (za / h).toNat:Nat)->h*x*x<=za)/\za<h*((zw (za / h).toNat:Nat)+1:Int)*((zw (za / h).toNat:Nat)+1):=by
 obtain⟨s1,s2⟩:=Qb (za / h).toNat;obtain⟨r,hr⟩:=Xz (zw (za / h).toNat);rw[<-hr]at s1 s2|-
 have q0:=Int.ediv_nonneg hb ((aa:0<=h));have e1:=Int.mul_ediv_add_emod za h;have e2:=Int.emod_nonneg za ((aa:h≠0));have e3:=Int.emod_lt_of_pos za ((aa:0<h));have s1':(r:Int)*r<=za / h:=by
  have:((r*r:Nat):Int)<=za / h:=aa
  simpa using this
 have s2':za / h+1<=((r:Int)+1)*(r+1):=by
  have:za / h+1<=(((r+1)*(r+1):Nat):Int):=aa
  simpa using this
 refine⟨fun x h1x hxr=>?_,?_⟩
 ·have a1:x*x<=(r:Int)*r:=Int.mul_le_mul hxr hxr aa aa;have a2:h*(x*x)<=h*(za / h):=Int.mul_le_mul_of_nonneg_left aa aa;rw[Int.mul_assoc];omega
 ·have a2:h*(za / h+1)<=h*(((r:Int)+1)*(r+1)):=Int.mul_le_mul_of_nonneg_left s2' aa;rw[Int.mul_add,Int.mul_one]at a2;rw[Int.mul_assoc];omega
theorem zgy(w w':World)(x:Value)(T:TypeId)[h:Ext (w.alloc (.cells #[x] T)) w']:w'.cell? ⟨w.heap.size,0,none⟩=some x:=by
 have h0:w'.heap[w.heap.size]? =some (.cells #[x] T (0,0)):=zg h (heap_alloc_new w _);simp[World.cell?,h0]
theorem zme{za:Int}(h:MatA w0 A m)(hm:m.length=1)(hl:AllLen m 1)(h1:1<=ent m 0 0)(h2:ent m 0 0<65536)(hb:0<=za)(hr:zw (za / ent m 0 0).toNat<=1048576)[hx:Ext w0 w]:
  Cq 157 #[.slice A m.length c,.int .i64 za,.bool exact] w (zbb w (zB m za exact)):=by
 obtain⟨hin,ztF⟩:=zgx h1 hb;obtain⟨r,hre⟩:=Xz (zw (za / ent m 0 0).toNat);have HC:Hid (zB m za exact=qU (ent m 0 0) za exact r):=Zh (by rw[zB,if_pos hm,hre]);rw[HC.out];rw[<-hre]at hin ztF hr;obtain⟨r0,hr0⟩:∃r0,m[0]? =some r0:=⟨_,Ze aa⟩;obtain⟨b,o,B,c1,rfl,e1,f1,f2,f3,f4⟩:=h.at_ hr0;have hrl:r0.length=1:=hl r0 (Zm hr0);obtain⟨b2,o2,a,rfl,ha,g1,g2⟩:=f1.at0 aa;have hae:ent m 0 0=a:=by unfold ent;simp[hr0,ha]
 rw[hae]at h1 h2 hin ztF|-
 rw[hrl]at e1 f2;rw[hm];have k1:a*((r:Int)+1)<=65535*1048577:=Int.mul_le_mul aa aa aa aa;have k0:0<=a*((r:Int)+1):=Int.mul_nonneg aa aa;have k2:a*((r:Int)+1)*((r:Int)+1)<=65535*1048577*1048577:=Int.mul_le_mul k1 aa aa aa;have hc:=fun W=>zl2 (w:=W) (exact:=exact) r h1 aa hin ztF aa aa
 have HM:=Zh hc;clear hc hin ztF k1 k0 k2 hre hrl hae ha hr0 hm;have ob:Old b w0:=⟨f4⟩;have ob2:Old b2 w0:=⟨g2⟩;simp only[Nat.add_zero]at e1;have E1:=fun W(hh:Ext w0 W)=>(zk w0 (w':=W) (b:=b) (o:=o)).trans e1
 have E2:=fun W(hh:Ext w0 W)=>(zk w0 (w':=W) (b:=b2) (o:=o2)).trans g1
 have HE1:=Zh E1;have HE2:=Zh E2;clear E1 E2 e1 g1;go_enter Tryz.func157,Tryz.ntmps157;go_wp2;go_region_held3 (fun w'=>w'.cell? ⟨b,o,none⟩=some (.slice (some ⟨b2,o2,none⟩) 1 c1)/\w'.cell? ⟨b2,o2,none⟩=some (.int .i64 a)/\w'.cell? ⟨w.heap.size,0,none⟩=some (.bool exact)) (exact⟨HE1.out _ Zi,HE2.out _ Zi,zgy w _ _ 4⟩)
  ((go_at_call 218;refine(HM.out _).mono ?_;rintro e w2 ⟨A2,c2,rfl,hM2,l1,l2,hs2⟩))
 go_wp2;go_ret;exact⟨A2,c2,rfl,hM2,l1,l2,Step.of _ _⟩
theorem XRow.drew{tail:List Int}(h:XRow w sz n k tail):XRow w.drew sz n k tail:=h
theorem SMem.drew{lc:Nat}(h:SMem w1 W n mA lA mc lc eb exact lB c l vs):SMem w1 W.drew n mA lA mc lc eb exact lB c l vs where
 ext:=have:=h.ext;Zi
 fb:=h.fb
 xb:=h.xb
 lb:=h.lb
 sb:=h.sb
 ebl:=h.ebl
 ec:=h.ec
 ls:=have:=h.ext;h.ls.ext (Ext.drew W W)
 sz:=h.sz
theorem SMem.start{lc:Nat}(hn:1<=n)(heb:eb<w1.heap.size)(hec:w1.cell? ⟨eb,0,none⟩=some (.bool exact)):
  XRow (((((w1.alloc (.cells #[.slice mA (n+1) mc,.slice lA n lc] 262)).alloc (.cells (zH #[.int .i64 0] n) 2)).alloc (.cells #[.slice (some ⟨w1.heap.size+1,0,none⟩) n n] 34)).alloc (.cells #[.slice none 0 0] 25)).alloc (.cells #[.func (.func 220) #[] #[.pointer (some ⟨w1.heap.size,0,none⟩),.pointer (some ⟨w1.heap.size+1+1,0,none⟩),.pointer (some ⟨w1.heap.size+1+1+1+1,0,none⟩),.pointer (some ⟨eb,0,none⟩),.pointer (some ⟨w1.heap.size+1+1+1,0,none⟩)]] 264)) (w1.heap.size+1) n (n-1) []/\
  SMem w1 (((((w1.alloc (.cells #[.slice mA (n+1) mc,.slice lA n lc] 262)).alloc (.cells (zH #[.int .i64 0] n) 2)).alloc (.cells #[.slice (some ⟨w1.heap.size+1,0,none⟩) n n] 34)).alloc (.cells #[.slice none 0 0] 25)).alloc (.cells #[.func (.func 220) #[] #[.pointer (some ⟨w1.heap.size,0,none⟩),.pointer (some ⟨w1.heap.size+1+1,0,none⟩),.pointer (some ⟨w1.heap.size+1+1+1+1,0,none⟩),.pointer (some ⟨eb,0,none⟩),.pointer (some ⟨w1.heap.size+1+1+1,0,none⟩)]] 264)) n mA lA mc lc eb exact none 0 [] []:=by
 generalize e1:w1.alloc (.cells #[.slice mA (n+1) mc,.slice lA n lc] 262)=W1;generalize e2:W1.alloc (.cells (zH #[.int .i64 0] n) 2)=W2;generalize e3:W2.alloc (.cells #[.slice (some ⟨w1.heap.size+1,0,none⟩) n n] 34)=W3;generalize e4:W3.alloc (.cells #[.slice none 0 0] 25)=W4;generalize e5:W4.alloc (.cells #[.func (.func 220) #[] #[.pointer (some ⟨w1.heap.size,0,none⟩),.pointer (some ⟨w1.heap.size+1+1,0,none⟩),.pointer (some ⟨w1.heap.size+1+1+1+1,0,none⟩),.pointer (some ⟨eb,0,none⟩),.pointer (some ⟨w1.heap.size+1+1+1,0,none⟩)]] 264)=W5
 have s1:W1.heap.size=w1.heap.size+1:=by rw[<-e1,World.size_alloc]
 have s2:W2.heap.size=w1.heap.size+2:=by rw[<-e2,World.size_alloc,s1]
 have s3:W3.heap.size=w1.heap.size+3:=by rw[<-e3,World.size_alloc,s2]
 have s4:W4.heap.size=w1.heap.size+4:=by rw[<-e4,World.size_alloc,s3]
 have s5:W5.heap.size=w1.heap.size+5:=by rw[<-e5,World.size_alloc,s4]
 have x1:Ext w1 W1:=by rw[<-e1];infer_instance
 have x2:Ext W1 W2:=by rw[<-e2];infer_instance
 have x3:Ext W2 W3:=by rw[<-e3];infer_instance
 have x4:Ext W3 W4:=by rw[<-e4];infer_instance
 have x5:Ext W4 W5:=by rw[<-e5];infer_instance
 have h1:=heap_alloc_new w1 (.cells #[.slice mA (n+1) mc,.slice lA n lc] 262);have h2:=heap_alloc_new W1 (.cells (zH #[.int .i64 0] n) 2);have h3:=heap_alloc_new W2 (.cells #[.slice (some ⟨w1.heap.size+1,0,none⟩) n n] 34);have h4:=heap_alloc_new W3 (.cells #[.slice none 0 0] 25);have h5:=heap_alloc_new W4 (.cells #[.func (.func 220) #[] #[.pointer (some ⟨w1.heap.size,0,none⟩),.pointer (some ⟨w1.heap.size+1+1,0,none⟩),.pointer (some ⟨w1.heap.size+1+1+1+1,0,none⟩),.pointer (some ⟨eb,0,none⟩),.pointer (some ⟨w1.heap.size+1+1+1,0,none⟩)]] 264)
 rw[e1]at h1;rw[e2,s1]at h2;rw[e3,s2]at h3;rw[e4,s3]at h4;rw[e5,s4]at h5;have x35:=x4.trans x5;have x25:=x3.trans x35;have x15:=x2.trans x25;refine⟨⟨List.replicate n 0,?_,af,by simp;omega⟩,x1.trans x15,zg x15 h1,zg x35 h3,zg x5 h4,h5,heb,hec,LOwn.nil _ _,aa⟩;have:(zH #[.int .i64 0] n)=((List.replicate n (0:Int)).map (Value.int .i64)).toArray:=by
  apply Array.ext';rw[Qo];simp
 rw[this]at h2;exact zg x25 h2
theorem zmf{za:Int}(h:MatA w0 A m)(h2:2<=m.length)(hf:FormOK m)(h64:zav m)(hb0:0<=za)(hb1:za<1073741824)(zss:(Zs (zl m m.length) (zq m m.length) exact (m.length-1) (vD (zl m m.length) m.length*za) true []).length<=1073741824)[hx:Ext w0 w]:
  Cq 157 #[.slice A m.length c,.int .i64 za,.bool exact] w (zbb w (Zs (zl m m.length) (zq m m.length) exact (m.length-1) (vD (zl m m.length) m.length*za) true [])):=by
 have hN:=hf.num za hb0 hb1;have h8:=hN.n8;have hnf:=fun W(hh:Ext w0 W)=>zl7 (w:=W) (c:=c) h hf.len1 h8 hf.all hf.fits hf.elim h64
 have hDl:(zl m m.length).length=m.length+1:=za2 m _;have hLl:(zq m m.length).length=m.length:=by simp[zq]
 obtain⟨D,hD⟩:=Xz (zl m m.length);obtain⟨L,hL⟩:=Xz (zq m m.length);rw[<-hD,<-hL]at hnf hN zss|-
 rw[<-hD]at hDl;rw[<-hL]at hLl;unfold zgs at hnf;rw[hDl,hLl]at hnf;obtain⟨n,hn⟩:=Xz m.length;rw[<-hn]at hnf hN hDl hLl h2 h8 zss|-
 obtain⟨dn,hdn⟩:=Xz (vD D n);have e1:=hN.d1 n aa;have e2:=hN.d2 n aa;rw[<-hdn]at e1 e2 zss|-
 have hm1:0<=dn*za:=Int.mul_nonneg aa aa;have hm2:dn*za<=65535*1073741823:=Int.mul_le_mul aa aa aa aa;have ztH:LevOK D n za (n-1) (dn*za) []:=⟨aa,hm1,by rw[(aa:n-1+1=n),hdn];exact Int.le_refl _,af,by simp[zU]⟩;obtain⟨rest,zwX⟩:=Yz (dn*za);rw[zwX]at hm1 hm2 ztH zss|-
 have hdi:D[n]? =some dn:=by rw[hdn];unfold vD;simp[(aa:n<D.length)]
 have HNF:=Zh hnf;have HDL:=Zh hDl;have zr2:=Zh ztH;have zrs:=Zh zss;have HDI:=Zh hdi;have hne:((n:Int)==1)=false:=by simp;omega
 have hmk:=ZH (P:=Tryz.prog) Tryz.underlying34 qb aa (n:Int) aa aa;clear hnf hD hL hn hDl hLl ztH hdi hdn zss hf h64;go_enter Tryz.func157,Tryz.ntmps157;go_wp2_with (go_at_call 219;refine(HNF.out _ Zi).mono ?_;clear HNF;rintro e w1 ⟨mA,mc,lA,lc,rfl,hD,hL,d1,d2,d3,d4,hs1⟩)
 have heb:w.heap.size<w1.heap.size:=by have:=hs1.size;simp at this;omega
 have hec:w1.cell? ⟨w.heap.size,0,none⟩=some (.bool exact):=zgy w _ _ 4;obtain⟨hX,hM⟩:=SMem.start (mA:=mA) (lA:=lA) (mc:=mc) (lc:=lc) (n:=n) aa heb hec;generalize (((((w1.alloc (.cells #[.slice mA (n+1) mc,.slice lA n lc] 262)).alloc (.cells (zH #[.int .i64 0] n) 2)).alloc (.cells #[.slice (some ⟨w1.heap.size+1,0,none⟩) n n] 34)).alloc (.cells #[.slice none 0 0] 25)).alloc (.cells #[.func (.func 220) #[] #[.pointer (some ⟨w1.heap.size,0,none⟩),.pointer (some ⟨w1.heap.size+1+1,0,none⟩),.pointer (some ⟨w1.heap.size+1+1+1+1,0,none⟩),.pointer (some ⟨w.heap.size,0,none⟩),.pointer (some ⟨w1.heap.size+1+1+1,0,none⟩)]] 264))=W at hX hM|-
 obtain⟨f1,f2,f3,f4,f5⟩:=zN hM.fb;have sb1:W.cell? ⟨w1.heap.size+1+1+1+1,0,none⟩=some (.func (.func 220) #[] #[.pointer (some ⟨w1.heap.size,0,none⟩),.pointer (some ⟨w1.heap.size+1+1,0,none⟩),.pointer (some ⟨w1.heap.size+1+1+1+1,0,none⟩),.pointer (some ⟨w.heap.size,0,none⟩),.pointer (some ⟨w1.heap.size+1+1+1,0,none⟩)]):=by
  have:W.cell? ⟨w1.heap.size+4,0,none⟩=some (.func (.func 220) #[] (Jr w1.heap.size w.heap.size)):=by simp[World.cell?,hM.sb]
  exact this
 obtain⟨bm,om,-,rfl,-⟩:=hD.at_ (i:=n) (by have:=HDL.out;omega);obtain⟨m3,m4⟩:=Jm (hD.ext hM.ext) HDI.out;have zsD:=fun(W':World)hX' hM'=>zmd (exact:=exact) (eb:=w.heap.size) hD hL d1 d2 d3 d4 hN (n-1) rest true [] W' none 0 [] [] zr2.out (fun _=>rfl) hX' hM' (by rw[nil_append];exact zrs.out)
 rw[(aa:((n-1:Nat):Int)=(n:Int)-1),nil_append]at zsD;unfold Jr at zsD;simp only[List.append_toArray,List.cons_append,nil_append]at zsD;have HC:=Zh zsD;have hfn:=zgu;unfold qB at hfn;have HX:=Zh hX;have HM:=Zh hM;have w1e:IntKind.i64.wrap ((n:Int)-1)=(n:Int)-1:=Iw;have w2e:IntKind.i64.wrap rest=rest:=Iw;clear zsD hX hM;go_region_with (refine(HC.out _ HX.out.drew HM.out.drew).mono ?_;rintro e W3 ⟨rfl,hX4,lB4,c4,vs4,hM4⟩)
 all_goals (
  have lb4:W3.cell? ⟨w1.heap.size+1+1+1,0,none⟩=some (.slice lB4 (Zs D L exact (n-1) rest true []).length c4):=by
   have:W3.cell? ⟨w1.heap.size+3,0,none⟩=some (.slice lB4 (Zs D L exact (n-1) rest true []).length c4):=by simp[World.cell?,hM4.lb]
   exact this
  have zwY:w1.heap.size+1+1+1<W3.heap.size:=by have:=hM4.sz;omega
  have zst:zbb w (Zs D L exact (n-1) rest true []) (.returned (.slice lB4 (Zs D L exact (n-1) rest true []).length c4)) W3:=by
   have hc:=hM4.ls.own.cap;have hxw:Ext w w1:=Zi;exact⟨lB4,c4,rfl,hM4.ls.mat,hc.1,hc.2,(hxw.trans hM4.ext).toStep⟩
  have HF:=Zh zst;clear zst hM4 hX4;generalize (Zs D L exact (n-1) rest true []).length=ln at lb4 HF|-
  go_wp2;go_ret;exact HF.out)
theorem zmg{za:Int}(h:MatA w0 A m)(hf:FormOK m)(h64:zav m)(hb0:0<=za)(hb1:1<m.length->za<1073741824)(hr:m.length=1->zw (za / ent m 0 0).toNat<=1048576)(zss:(zB m za exact).length<=1073741824)[hx:Ext w0 w]:
  Cq 157 #[.slice A m.length c,.int .i64 za,.bool exact] w (zbb w (zB m za exact)):=by
 have h1:=hf.len1;by_cases hm:m.length=1
 ·have hN:=hf.num 0 aa aa;have d1:=hN.d1 1 aa;have d2:=hN.d2 1 aa;have e:vD (zl m m.length) 1=ent m 0 0:=by rw[hm];simp[vD,zl,zm]
  rw[e]at d1 d2;exact zme h hm (by have:=hf.all;rwa [hm]at this) d1 d2 hb0 (hr hm)
 ·have e:zB m za exact=Zs (zl m m.length) (zq m m.length) exact (m.length-1) (vD (zl m m.length) m.length*za) true []:=by rw[zB,if_neg hm]
  rw[e]at zss|-
  exact zmf h aa hf h64 hb0 (hb1 aa) zss
def qt(st:List Int):Int:=st.getD (st.length-1) 0
theorem zgz(h:Ints w0 A 3 .i64 st)(h1:1<=st.length)(h2:st.length<=1099511627776)(l1:1<=qt st)(l2:qt st<=1099511627776)[hx:Ext w0 w]:
  Cq 155 #[.slice A st.length c] w (Zq w (.int .i64 ((qt st-1) / 2))):=by
 obtain⟨b,o,x,rfl,hx',g1,g2⟩:=(h.ext hx).at_ (i:=st.length-1) aa;have he:qt st=x:=by unfold qt;simp[hx']
 rw[he]at l1 l2|-
 obtain⟨n,hn⟩:∃n,st.length=n+1:=⟨st.length-1,aa⟩;rw[hn]at h2 g1|-
 simp only[Nat.add_sub_cancel]at g1;clear hn he hx' h h1;go_enter Tryz.func155,Tryz.ntmps155;go_wp2;go_ret;exact⟨rfl,rfl⟩
structure EnumOK(m:List (List Int))(za:Int)(exact:Bool):Prop where
 form:FormOK m
 s64:zav m
 red:RedM m
 b0:0<=za
 b1:1<m.length->za<1073741824
 one:m.length=1->zw (za / ent m 0 0).toNat<=1048576
 len:(zB m za exact).length<=1073741824
 vec:∀x∈zB m za exact,VecOK m x
 nd:((zB m za exact).map zJ).Nodup
def zmh(w:World)(m ls:List (List Int))(total:Int)(e:Ending)(w':World):Prop:=∃A c L,e= .returned (.tuple #[.slice A (List.length L) c,.int .i64 total,.int .i64 0])/\Mat64 w' A L/\L.length<=c/\c<=9223372036854775807/\L.Perm (ls.map zJ)/\L.Pairwise (fun x y=>qs (zh m x) (zh m y) x y<0)/\Step w w'
def zq8(w:World)(m ls:List (List Int))(e:Ending)(w':World):Prop:=∃A c L,e= .returned (.tuple #[.slice A (List.length L) c,.int .i64 0])/\Mat64 w' A L/\L.length<=c/\c<=9223372036854775807/\L.Perm (ls.map zJ)/\L.Pairwise (fun x y=>qs (zh m x) (zh m y) x y<0)/\Step w w'
theorem zmi{za:Int}(h:MatA w0 A m)(zss:m.length<=1099511627776)(hc:m.length<=c)(hc2:c<=9223372036854775807)(hf:zM m=true->FormOK m)(hs:qh m za budget=(st,0))(h1:1<=st.length)(h2:st.length<=1099511627776)(l1:1<=qt st)(l2:qt st<=1099511627776)(zs4:4096<(qt st-1) / 2)[hx:Ext w0 w]:
  Cq 88 #[.slice A m.length c,.int .i64 za,.int .i64 budget] w (zA w (.tuple #[.slice none 0 0,.int .i64 0,.int .i64 7])):=by
 have hst:=fun W(hh:Ext w0 W)=>zdE (w:=W) (za:=za) (budget:=budget) h zss hc hc2 hf
 rw[hs]at hst;have HST:=Zh hst;have hpa:=fun W A' c'(hI:Ints W A' 3 .i64 st)=>zgz (w:=W) (c:=c') hI h1 h2 l1 l2
 have HP:=Zh hpa;obtain⟨q,hq⟩:=Yz ((qt st-1) / 2);rw[hq]at HP zs4;have hb':decide (4096<q)=true:=by simpa using zs4
 clear hst hpa hs hq hf;go_enter Tryz.func88,Tryz.ntmps88;go_wp2_with (first
  |(go_at_call 132;refine(HST.out _ Zi).mono ?_;rintro e w1 ⟨A1,c1,rfl,hI,k1,k2,hs1⟩)
  |(go_at_call 155;refine(HP.out _ _ _ hI).mono ?_;rintro e w2 ⟨rfl,rfl⟩))
 go_ret3
 exact⟨rfl,Step.of _ _⟩
theorem zgA(l:List Int)(k:Nat)(x:Int)(h:l[k]? =some x):(l.take (k+1)).sum=(l.take k).sum+x:=by
 rw[take_add_one,h];simp
theorem zmj(l:List Int)(hb:∀x∈l,0<=x/\x<=1099511627776)(k:Nat):0<=(l.take k).sum/\(l.take k).sum<=k*1099511627776:=by
 induction k with
 |zero=>simp
 |succ k ih=>
  cases h:l[k]? with
  |none=>rw[take_add_one,h];simp;omega
  |some x=>
   rw[zgA l k x h];have:=hb x (Zm h);omega
theorem zmk{za:Int}(h:MatA w0 A m)(hc:m.length<=c)(hc2:c<=9223372036854775807)(hok:EnumOK m za false)(hs:qh m za budget=(st,0))(h1:1<=st.length)(h2:st.length<=8)(l1:1<=qt st)(hb:∀x∈st,0<=x/\x<=1099511627776)(hsm:(qt st-1) / 2<=4096)[hx:Ext w0 w]:
  Cq 88 #[.slice A m.length c,.int .i64 za,.int .i64 budget] w (zmh w m (zB m za false) st.sum):=by
 have hn8:=hok.red.n8;have l2:qt st<=1099511627776:=aa
 have hst:=fun W(hh:Ext w0 W)=>zdE (w:=W) (za:=za) (budget:=budget) h aa hc hc2 (fun _=>hok.form)
 rw[hs]at hst;have HST:=Zh hst;have hpa:=fun W A' c'(hI:Ints W A' 3 .i64 st)=>zgz (w:=W) (c:=c') hI h1 aa l1 l2
 have HP:=Zh hpa;obtain⟨q,hq⟩:=Yz ((qt st-1) / 2);rw[hq]at HP hsm;have hb':decide (4096<q)=false:=by simp;omega
 have hco:=fun W(hh:Ext w0 W)=>zmg (w:=W) (c:=c) h hok.form hok.s64 hok.b0 hok.b1 hok.one hok.len
 have HCO:=Zh hco;have hso:=fun W X d(hh:Ext w0 W)(hX:Mat64 W X (zB m za false))=>zlZ (w0:=W) (w:=W) (c:=c) (d:=d) (h.ext hh) hc hc2 hX hok.len hok.red hok.vec hok.nd
 have HSO:=Zh hso;obtain⟨ls,hls⟩:=Yz (zB m za false);rw[hls]at HCO HSO|-
 have HB:=Zh hb;clear hst hpa hs hq hco hso hls hok hb;go_enter Tryz.func88,Tryz.ntmps88;go_wp2_with (first
  |(go_at_call 132;refine(HST.out _ Zi).mono ?_;rintro e w1 ⟨A1,c1,rfl,hI,k1,k2,hs1⟩)
  |(go_at_call 155;refine(HP.out _ _ _ hI).mono ?_;rintro e w2 ⟨rfl,rfl⟩))
 go_loop [11,13,31] (fun s _ i=>∃k:Nat,k<=st.length/\i= .int .i64 k/\s= .int .i64 (st.take k).sum) (fun _ _ i=>st.length-(intOf i).toNat)
 case atStart=>exact⟨0,aa,rfl,af⟩
 case round=>
  obtain⟨k,hk,rfl,rfl⟩:=hrel;have hbd:=zmj st HB.out k;by_cases hlt:k<st.length
  ·obtain⟨b,o,x,rfl,hx',g1,g2⟩:=hI.at_ hlt;have hxb:=HB.out x (Zm hx');have HS:=Zh (zgA st k x hx');obtain⟨s,hs⟩:=Xz ((st.take k).sum);rw[<-hs]at hbd HS|-
   have b1:s<=8*1099511627776:=aa
   obtain⟨b0,-⟩:=hbd;obtain⟨x0,x1⟩:=hxb;clear hs hx';go_wp2;exact⟨⟨k+1,aa,by go_num,by rw[HS.out]⟩,by simp[intOf];omega⟩
  ·have htk:st.take k=st:=take_of_length_le aa;rw[htk]at hbd|-
   obtain⟨s,hs⟩:=Xz st.sum;have hsb:0<=s/\s<=8*1099511627776:=by rw[hs];omega
   rw[<-hs];have HS:=Zh hs;clear hs htk hbd;go_wp2_with (first
    |(go_at_call 157;refine(HCO.out _ Zi).mono ?_;rintro e w3 ⟨A3,c3,rfl,hM3,k3,k4,hs3⟩)
    |(go_at_call 156;refine(HSO.out _ _ _ Zi hM3).mono ?_;rintro e w4 ⟨A4,c4,L,rfl,hM4,k5,k6,hp,hw,hs4⟩))
   go_ret3
   exact⟨A4,c4,L,by rw[<-HS.out];rfl,hM4,k5,k6,hp,hw,Step.of _ _⟩
def m1:List (List Int):=[[1]]
def m2:List (List Int):=[[2,1],[1,2]]
theorem zml:zl m2 2=[1,2,3]:=ac
theorem zmm:zq m2 2=[[1],[]]:=ac
theorem zgB:AllLen m2 m2.length:=by unfold AllLen;decide
theorem zmn:RedM m2:=⟨ac,zgB,by unfold zdm;decide,ac⟩
theorem zmo(za:Int)(h0:0<=za)(h1:za<1073741824):NumOK (zl m2 2) (zq m2 2) 2 za:=by
 rw[zml,zmm];exact⟨ac,rfl,rfl,ac,ac,ac,ac,h0,h1⟩
theorem lt2(h:k<2):k=0∨k=1:=aa
theorem zmp:ElimOK m2:=by
 refine⟨fun i j hi hj=>?_,fun k hk=>?_,fun k i j hi hj=>?_⟩
 ·rcases lt2 hi with rfl|rfl<;>rcases lt2 hj with rfl|rfl<;>decide
 ·have hk:k+1<2:=hk;obtain rfl:k=0:=aa
  decide
 ·have hi:i+1<2-k:=hi;have hj:j+1<2-k:=hj;obtain rfl:k=0:=aa
  obtain rfl:i=0:=aa
  obtain rfl:j=0:=aa
  unfold zbU;decide
theorem zmq:zb1 m2:=by
 intro k hk j hj;have hj:j<2-k:=hj;rcases lt2 hk with rfl|rfl
 ·rcases lt2 hj with rfl|rfl<;>decide
 ·obtain rfl:j=0:=aa
  decide
theorem zmr:FormOK m2:=⟨ac,zgB,by unfold qf;decide,zmp,zmq,zmo⟩
theorem zms:zav m2:=by
 intro k hk;rcases lt2 hk with rfl|rfl<;>(unfold qf;decide)
theorem zgC:zB m2 2 false=[[1,0],[-1,1],[0,1]]:=ac
theorem zq9:qh m2 2 100=([3,7],0):=ac
theorem zra:EnumOK m2 2 false:=by
 refine⟨zmr,zms,zmn,ac,ac,ac,ac,?_,ac⟩;rw[zgC];intro x hx;simp only[List.mem_cons,List.not_mem_nil,or_false]at hx;rcases hx with rfl|rfl|rfl<;>exact⟨ac,ac,ac⟩
theorem zmt{T ls:List (List Int)}(hp:L.Perm (ls.map zJ))(hw:L.Pairwise (fun x y=>qs (zh m x) (zh m y) x y<0))(hT:T.Pairwise (fun x y=>qs (zh m x) (zh m y) x y<0))(hpT:T.Perm (ls.map zJ))(anti:∀a∈T,∀b∈T,qs (zh m a) (zh m b) a b<0->qs (zh m b) (zh m a) b a<0->a=b):L=T:=by
 have hq:=hp.trans hpT.symm;exact List.Perm.eq_of_pairwise (fun a b ha hb=>anti a (hq.mem_iff.1 ha) b hb) hw hT hq
theorem zdK(w:World)(a b c d:Int):Mat64 (((w.alloc (.cells #[.int .i64 a,.int .i64 b] 2)).alloc (.cells #[.int .i64 c,.int .i64 d] 2)).alloc (.cells #[.slice (some ⟨w.heap.size,0,none⟩) 2 2,.slice (some ⟨w.heap.size+1,0,none⟩) 2 2] 34)) (some ⟨w.heap.size+1+1,0,none⟩) [[a,b],[c,d]]:=by
 have h1:Ints (w.alloc (.cells #[.int .i64 a,.int .i64 b] 2)) (some ⟨w.heap.size,0,none⟩) 2 .i64 [a,b]:=Arr.new w 2 #[.int .i64 a,.int .i64 b];have h2:Ints ((w.alloc (.cells #[.int .i64 a,.int .i64 b] 2)).alloc (.cells #[.int .i64 c,.int .i64 d] 2)) (some ⟨w.heap.size+1,0,none⟩) 2 .i64 [c,d]:=by
  have:=Arr.new (w.alloc (.cells #[.int .i64 a,.int .i64 b] 2)) 2 #[.int .i64 c,.int .i64 d];rwa [World.size_alloc]at this
 have h3:=Arr.new ((w.alloc (.cells #[.int .i64 a,.int .i64 b] 2)).alloc (.cells #[.int .i64 c,.int .i64 d] 2)) 34 #[.slice (some ⟨w.heap.size,0,none⟩) 2 2,.slice (some ⟨w.heap.size+1,0,none⟩) 2 2];rw[World.size_alloc,World.size_alloc]at h3;refine⟨_,rfl,h3,fun i r hr=>?_⟩;match i with
 |0=>obtain rfl:[a,b]=r:=by simpa using hr
     exact⟨_,2,rfl,h1.ext Zi,af,aa⟩
 |1=>obtain rfl:[c,d]=r:=by simpa using hr
     exact⟨_,2,rfl,h2.ext Zi,af,aa⟩
 |i+2=>simp at hr
def zmu:List (List Int):=[[0,1],[1,-1],[1,0]]
theorem zrb(hp:L.Perm ((zB m2 2 false).map zJ))(hw:L.Pairwise (fun x y=>qs (zh m2 x) (zh m2 y) x y<0)):L=zmu:=by
 refine zmt hp hw ac ?_ ac;rw[zgC];decide
end Go.Proofs.YtgoaelchibpffaaGreat
