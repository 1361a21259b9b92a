/- Srch2a Srch2 R9 Coll Enum Fix Awk0 -/
import Derived.Test.YtpcgfpmiphiacaaGreatQ07
import Derived.Test.YtpcgfpmiphiacaaGreatProg
import Derived.Test.YtpcgfpmiphiacaaGreatShelf
set_option maxHeartbeats 8000000
set_option linter.unusedVariables false
set_option linter.unusedSimpArgs false
set_option linter.constructorNameAsVariable false
namespace Go.Proofs.YtpcgfpmiphiacaaGreat
open Go.RowKit
def sCaps (s eb:Nat):Array Value:=#[.pointer (some ⟨s,0,none⟩),.pointer (some ⟨s+2,0,none⟩),.pointer (some ⟨s+4,0,none⟩),.pointer (some ⟨eb,0,none⟩),.pointer (some ⟨s+3,0,none⟩)]
structure SMem (w1 W:World) (n:Nat) (mA lA:Option Addr) (mc lc eb:Nat) (exact:Bool) (lB:Option Addr) (c:Nat) (l:List (List Int)) (vs:List Value):Prop where
 ext:Ext w1 W
 fb:W.heap[w1.heap.size]? =some (.cells #[.slice mA (n+1) mc,.slice lA n lc] 204 (0,0))
 xb:W.heap[w1.heap.size+2]? =some (.cells #[.slice (some ⟨w1.heap.size+1,0,none⟩) n n] 35 (0,0))
 lb:W.heap[w1.heap.size+3]? =some (.cells #[.slice lB l.length c] 25 (0,0))
 sb:W.heap[w1.heap.size+4]? =some (.cells #[.func (.func 139) #[] (sCaps w1.heap.size eb)] 206 (0,0))
 ebl:eb<w1.heap.size
 ec:w1.cell? ⟨eb,0,none⟩=some (.bool exact)
 ls:LOwn W (w1.heap.size+5) lB c l vs
 sz:w1.heap.size+5<=W.heap.size
theorem SMem.setX {w1 W:World} {n:Nat} {mA lA:Option Addr} {mc lc eb:Nat} {exact:Bool} {lB:Option Addr} {c:Nat} {l:List (List Int)} {vs:List Value} (h:SMem w1 W n mA lA mc lc eb exact lB c l vs) (i:Nat) (u:Value):SMem w1 (W.setCell ⟨w1.heap.size+1,i,none⟩ u) n mA lA mc lc eb exact lB c l vs where
 ext:=h.ext.setCell (p:=⟨w1.heap.size+1,i,none⟩) (Nat.le_succ _) u
 fb:=heap_setCell_far h.fb (show w1.heap.size≠w1.heap.size+1 by omega) u
 xb:=heap_setCell_far h.xb (show w1.heap.size+2≠w1.heap.size+1 by omega) u
 lb:=heap_setCell_far h.lb (show w1.heap.size+3≠w1.heap.size+1 by omega) u
 sb:=heap_setCell_far h.sb (show w1.heap.size+4≠w1.heap.size+1 by omega) u
 ebl:=h.ebl
 ec:=h.ec
 ls:=h.ls.set (p:=⟨w1.heap.size+1,i,none⟩) (show w1.heap.size+1<w1.heap.size+5 by omega) u
 sz:=by rw [size_setCell];exact h.sz
theorem XRow.put0 {w:World} {sz n k:Nat} {tail:List Int} (h:XRow w sz n k tail) (x:Int):XRow (w.setCell ⟨sz,k,none⟩ (.int .i64 x)) sz n k tail:=by
 obtain ⟨xs,h1,h2,h3⟩:=h
 exact ⟨_,h1.set k x,by simp [h2],by rw [List.drop_set_of_lt (by omega),h3]⟩
theorem XRow.full {w:World} {sz n k:Nat} {tail:List Int} (h:XRow w sz n k tail) (hk:k=0) (hn:k<n) (x:Int):Row (w.setCell ⟨sz,k,none⟩ (.int .i64 x)) sz 2 .i64 (x::tail)/\(x::tail).length=n:=by
 subst hk
 obtain ⟨xs,h1,h2,h3⟩:=h
 cases xs with
 |nil=>simp at h2;omega
 |cons y ys=>
  simp at h3
  subst h3
  exact ⟨h1.set 0 x,by simpa using h2⟩
theorem box_set1 {w:World} {b:Nat} {x u:Value} {T:TypeId} (h:w.heap[b]? =some (.cells #[x] T (0,0))):(w.setCell ⟨b,0,none⟩ u).heap[b]? =some (.cells #[u] T (0,0)):=by
 rw [heap_setCell_self h];rfl
theorem SMem.snoc {w1 W W3 w4:World} {n:Nat} {mA lA:Option Addr} {mc lc eb:Nat} {exact:Bool} {lB:Option Addr} {c:Nat} {l:List (List Int)} {vs:List Value} (h:SMem w1 W n mA lA mc lc eb exact lB c l vs) (hx:Ext W W3) {A4 B:Option Addr} {d4 d:Nat} {r:List Int} (hg:Grow (w1.heap.size+5) 35 W3 w4) (ho:Own w4 (w1.heap.size+5) 35 1 A4 (l.length+1) d4 (vs++[.slice B r.length d])) (hr:ArrX (w1.heap.size+5) W3 B 2 (r.map (Value.int .i64))) (h1:r.length<=d) (h2:d<=9223372036854775807):
  SMem w1 (w4.setCell ⟨w1.heap.size+3,0,none⟩ (.slice A4 (l.length+1) d4)) n mA lA mc lc eb exact A4 d4 (l++[r]) (vs++[.slice B r.length d]):=by
 have hk:∀b,b<w1.heap.size+5->∀o,W.heap[b]? =some o->w4.heap[b]? =some o:=fun b hb o ho=>(hg.below.block b hb).trans (heap_of_ext hx ho)
 refine ⟨?_,?_,?_,?_,?_,h.ebl,h.ec,?_,?_⟩
 ·exact (hg.ext (h.ext.trans hx) (by omega)).setCell (p:=⟨w1.heap.size+3,0,none⟩) (by simp) _
 ·exact heap_setCell_far (hk _ (by omega) _ h.fb) (show w1.heap.size≠w1.heap.size+3 by omega) _
 ·exact heap_setCell_far (hk _ (by omega) _ h.xb) (show w1.heap.size+2≠w1.heap.size+3 by omega) _
 ·rw [List.length_append];exact box_set1 (hk _ (by omega) _ h.lb)
 ·exact heap_setCell_far (hk _ (by omega) _ h.sb) (show w1.heap.size+4≠w1.heap.size+3 by omega) _
 ·exact (h.ls.snoc hx hg ho hr h1 h2).set (p:=⟨w1.heap.size+3,0,none⟩) (show w1.heap.size+3<w1.heap.size+5 by omega) _
 ·rw [size_setCell]
  have :=h.sz;have :=hx.size;have :=hg.below.size
  omega
def SearchPost (w1:World) (n:Nat) (mA lA:Option Addr) (mc lc eb:Nat) (exact:Bool) (l:List (List Int)) (k:Nat) (tail:List Int) (e:Ending) (W':World):Prop:=
 e= .returned (.tuple #[])/\XRow W' (w1.heap.size+1) n k tail/\∃lB c vs,SMem w1 W' n mA lA mc lc eb exact lB c l vs
theorem isFn_search:IsFn 139:=isFn_of Tryz.func139 (by kernel_rfl) (by kernel_rfl)
theorem SMem.took {w1 wS W5 w6:World} {n k ln s5:Nat} {mA lA:Option Addr} {mc lc eb:Nat} {exact:Bool} {lB:Option Addr} {c:Nat} {l t t':List (List Int)} {tail:List Int} {x:Int} {vs:List Value} {A6 B5:Option Addr} {d5 d6:Nat}
  (hM:SMem w1 wS n mA lA mc lc eb exact lB c (l++t) vs) (hX:XRow wS (w1.heap.size+1) n k tail) (hs:Ext wS W5) (hO:Own W5 s5 2 1 B5 (x::tail).length d5 ((x::tail).map (Value.int .i64))) (hs5:w1.heap.size+5<=s5) (hn:(x::tail).length=n) (hl:(l++t).length=ln)
  (ho:Own w6 (w1.heap.size+5) 35 1 A6 (ln+1) d6 (vs++[.slice B5 n d5])) (hg:Grow (w1.heap.size+5) 35 (W5.alloc (.cells #[.slice B5 n d5] 35)) w6) (ht:t'=t++[x::tail]):
  XRow (w6.setCell ⟨w1.heap.size+3,0,none⟩ (.slice A6 (ln+1) d6)) (w1.heap.size+1) n k tail/\SMem w1 (w6.setCell ⟨w1.heap.size+3,0,none⟩ (.slice A6 (ln+1) d6)) n mA lA mc lc eb exact A6 d6 (l++t') (vs++[.slice B5 n d5]):=by
 subst hl ht
 have hx:Ext wS (W5.alloc (.cells #[.slice B5 n d5] 35)):=Ext.alloc _ _ _
 have hc:=hO.cap
 constructor
 ·refine hX.keep ?_
  rw [Below.heap_setCell _ _ _ _ (show w1.heap.size+1≠w1.heap.size+3 by omega),hg.below.block _ (by omega)]
  exact hx.below.block _ (by have :=hM.sz;omega)
 ·have :=hM.snoc hx (r:=x::tail) (B:=B5) (d:=d5) hg (by rw [hn];exact ho) ((hO.arrX.lower hs5).ext (Ext.alloc _ _ _)) hc.1 hc.2
  rw [<-List.append_assoc]
  rw [hn] at this
  exact this
set_option maxRecDepth 100000 in
theorem search_any {w1:World} {bound:Int} {D:List Int} {L:List (List Int)} {n:Nat} {mA lA:Option Addr} {mc lc eb:Nat} {exact:Bool} (hD:Ints w1 mA 2 .i64 D) (hL:Mat64 w1 lA L) (hmc:n+1<=mc) (hmc2:mc<=9223372036854775807) (hlc:n<=lc) (hlc2:lc<=9223372036854775807) (hN:NumOK D L n bound) (k:Nat):
  ∀(rest:Int) (zero:Bool) (tail:List Int) (W:World) (lB:Option Addr) (c:Nat) (l:List (List Int)) (vs:List Value),LevOK D n bound k rest tail->(zero=true->absSum tail=0)->XRow W (w1.heap.size+1) n k tail->SMem w1 W n mA lA mc lc eb exact lB c l vs->(l++searchL D L exact k rest zero tail).length<=1073741824->
   Calls Tryz.prog 139 (#[.int .i64 k,.int .i64 rest,.bool zero]++sCaps w1.heap.size eb) W (SearchPost w1 n mA lA mc lc eb exact (l++searchL D L exact k rest zero tail) k tail):=by
 induction k using Nat.strongRecOn with
 |ind k ih=>
  intro rest zero tail W lB c l vs hLv hz hX hM hlen
  have hkn:=hLv.kn
  have hn8:=hN.n8
  obtain ⟨f1,f2,-,-,f5⟩:=box_cells2 hM.fb
  have xb1:W.cell? ⟨w1.heap.size+2,0,none⟩=some (.slice (some ⟨w1.heap.size+1,0,none⟩) n n):=by simp [World.cell?,hM.xb]
  have sb1:W.cell? ⟨w1.heap.size+4,0,none⟩=some (.func (.func 139) #[] (sCaps w1.heap.size eb)):=by simp [World.cell?,hM.sb]
  obtain ⟨xs,hrow,hxl,hxd⟩:=id hX
  have hdl:=hN.dl
  have hll:=hN.ll
  have hd0:D[k]? =some (vD D k):=by unfold vD;simp [show k<D.length by omega]
  have hd1':D[k+1]? =some (vD D (k+1)):=by unfold vD;simp [show k+1<D.length by omega]
  obtain ⟨bm,om,-,rfl,-⟩:=hD.at_ (i:=k) (by omega)
  obtain ⟨m3,m4⟩:=ints_cell (hD.ext hM.ext) hd0
  obtain ⟨m1,-⟩:=ints_cell (hD.ext hM.ext) hd1'
  obtain ⟨bl,ol,B,cl,rfl,l3,l5,l1,l2,l4⟩:=(hL.ext hM.ext).at_ (i:=k) (r:=L.getD k []) (by simp [show k<L.length by omega])
  have hrl:=hN.row k hkn
  obtain ⟨lam,hlam⟩:∃lam,lam=L.getD k []:=⟨_,rfl⟩
  rw [hrl] at l1 l3
  rw [<-hlam] at hrl l5
  have HL5:=Lib.hid l5
  have HLAM:=Lib.hid hlam
  have HRL:=Lib.hid hrl
  have hsq:=vSq_bounds hN hLv
  have hR:=vR_bounds hN hLv
  have hd1:=hN.d1 (k+1) (by omega)
  have hd2:=hN.d2 (k+1) (by omega)
  obtain ⟨sqn,hsqn⟩:∃sqn,sqn=(vSq D k rest).toNat:=⟨_,rfl⟩
  have hsqe:vD D k*rest=(sqn:Int):=by have :=hsq.1;rw [hsqn];unfold vSq at this |-;omega
  have hsq1:sqn<4611686018427387904:=by have :=hsq.2;omega
  have HSQ:Hid (vSq D k rest=(sqn:Int)):=Lib.hid hsqe
  have HRT:Hid (vR D k rest=(isq sqn:Nat)):=Lib.hid (by rw [hsqn];rfl)
  have hisq:isq sqn<2147483648:=by have :=hR.2.1;rw [HRT.out] at this;omega
  obtain ⟨r,hr⟩:∃r,r=n-1-k:=⟨_,rfl⟩
  rw [<-hr] at l1 l3 HRL
  have HRR:=Lib.hid hr
  have hr1:r+k+1<=n:=by omega
  have hr2:n<=r+k+1:=by omega
  obtain ⟨d,hd⟩:∃d,d=vD D (k+1):=⟨_,rfl⟩
  rw [<-hd] at m1 hd1 hd2
  have HD:=Lib.hid hd
  obtain ⟨dk,hdk⟩:∃dk,dk=vD D k:=⟨_,rfl⟩
  rw [<-hdk] at m3 hsqe
  have HXD:=Lib.hid hxd
  have HROW:=Lib.hid hrow
  have HM:=Lib.hid hM
  have HX:=Lib.hid hX
  have HZ:=Lib.hid hz
  have HLV:=Lib.hid hLv
  have HLEN:=Lib.hid hlen
  have bw:w1.heap.size+1<W.heap.size:=by have :=hM.sz;omega
  clear hr hd hdk hsqn hsq hR hxd hdl hll hd0 hd1' hlam hrl hX hM hz hlen l5
  unfold sCaps at sb1 |-
  go_enter Tryz.func139,Tryz.ntmps139
  go_wp2_with fail
  go_loop [12,13,14,34] (fun s _ _ i=>∃q:Nat,q<=r/\i= .int .i64 q/\s= .int .i64 (dotL (lam.take q) (tail.take q))) (fun _ _ _ i=>r-(intOf i).toNat)
  case atStart=>exact ⟨0,by omega,rfl,by simp [dotL]⟩
  case round=>
   obtain ⟨q,hq,rfl,rfl⟩:=hrel
   by_cases hlt:q<r
   ·obtain ⟨a,ha⟩:∃a,lam[q]? =some a:=⟨_,List.getElem?_eq_getElem (by have :=HRL.out;omega)⟩
    obtain ⟨y,hy⟩:∃y,tail[q]? =some y:=⟨_,List.getElem?_eq_getElem (by have :=hLv.tl;have :=HRR.out;omega)⟩
    obtain ⟨b1,o1,-,rfl,-⟩:=HL5.out.at_ (i:=q) (by have :=HRL.out;omega)
    obtain ⟨g1,g2⟩:=ints_cell HL5.out ha
    have hxy:xs[k+1+q]? =some y:=by rw [<-hy,<-HXD.out,List.getElem?_drop]
    obtain ⟨y',hy1,hy2⟩:=hrow.cell (i:=k+1+q) (by rw [hxl];omega)
    rw [hxy] at hy1
    injection hy1 with hy1
    subst hy1
    have hdv:=hN.d2 (k+1) (by omega)
    have ba:=hN.lam k hkn a (by rw [<-HLAM.out];exact List.mem_of_getElem? ha)
    have bb:=le_absSum tail q y hy
    have bS:=absSum_bound hN hLv
    have bs:=dotL_bound (A:=32768) (B:=549755813888) (by omega) (by omega) (lam.take q) (tail.take q) (fun z hz=>by have :=hN.lam k hkn z (by rw [<-HLAM.out];exact List.mem_of_mem_take hz);omega) (fun z hz=>by
     obtain ⟨j,hj,e⟩:=List.getElem_of_mem (List.mem_of_mem_take hz)
     have :=le_absSum tail j z (by simp [hj,e])
     omega)
    have bm:=mul_abs_le (a:=a) (b:=y) (A:=32768) (B:=549755813888) (by omega) (by omega) (by omega) (by omega)
    have hstep:=Lib.hid (dotL_take_succ lam tail q a y ha hy)
    have htl:(lam.take q).length<=8:=by rw [List.length_take];omega
    obtain ⟨s,hs⟩:∃s,s=dotL (lam.take q) (tail.take q):=⟨_,rfl⟩
    rw [<-hs] at bs hstep |-
    have bs1:-144115188075855872<=s:=by omega
    have bs2:s<=144115188075855872:=by omega
    obtain ⟨bm1,bm2⟩:=bm
    have bm3:-18014398509481984<=a*y:=by omega
    have bm4:a*y<=18014398509481984:=by omega
    clear hdv ba bb bS bs bm1 bm2 hs ha hy hxy htl
    go_wp2_with fail
    refine ⟨⟨q+1,by omega,by go_num,by rw [hstep.out]⟩,by simp [intOf]<;>omega⟩
   ·obtain rfl:q=r:=by omega
    clear hlt
    have e1:lam.take q=lam:=List.take_of_length_le (by have :=HRL.out;omega)
    have e2:tail.take q=tail:=List.take_of_length_le (by have :=hLv.tl;have :=HRR.out;omega)
    rw [e1,e2]
    clear e1 e2
    have hshe:Hid (dotL lam tail=vSh L k tail):=Lib.hid (by rw [HLAM.out];rfl)
    rw [hshe.out]
    obtain ⟨sh,hsh⟩:∃sh,sh=vSh L k tail:=⟨_,rfl⟩
    have bsh:=vSh_bounds hN hLv
    have bmS:=mulS_bound hN hLv
    rw [<-hsh] at bsh |-
    have bsh1:-36028247263150080<=sh:=by omega
    have bsh2:sh<=36028247263150080:=by omega
    have HSH:=Lib.hid hsh
    obtain ⟨p,hp⟩:∃p,p=((isq sqn:Int)+sh) / d:=⟨_,rfl⟩
    obtain ⟨hi,hhi⟩:∃hi,hi=((isq sqn:Int)-sh) / d:=⟨_,rfl⟩
    have HLO:Hid (vLo D L k rest tail=-p):=Lib.hid (by rw [hp,hsh,HD.out,vLo,HRT.out])
    have HHI:Hid (vHi D L k rest tail=hi):=Lib.hid (by rw [hhi,hsh,HD.out,vHi,HRT.out])
    have hends:=vEnds hN hLv
    have hcnt:=vCnt_bounds hN hLv
    have hSb:=absSum_bound hN hLv
    have HCNT:Hid (vCnt D L k rest tail=hi+p+1):=Lib.hid (by rw [vCnt,HLO.out,HHI.out];omega)
    rw [HLO.out,HHI.out,HRT.out] at hends
    rw [HCNT.out] at hcnt
    have hp1:-1099511627776<=p:=by omega
    have hp2:p<=1099511627776:=by omega
    have hi1:-1099511627776<=hi:=by omega
    have hi2:hi<=1099511627776:=by omega
    have hq1:=hp.symm
    have hq2:=hhi.symm
    obtain ⟨hcnt0,hcnt1⟩:=hcnt
    have hlop:zero=true->0<=p:=fun h=>by have :=vLo_zero hN hLv (HZ.out h);rw [HLO.out] at this;omega
    obtain ⟨lo,HLOV,hlo1⟩:∃lo,Hid (sLo D L k rest zero tail=lo)/\lo=if zero then 0 else-p:=⟨_,Lib.hid rfl,by unfold sLo;rw [HLO.out]⟩
    clear bsh bmS hends hSb hp hhi hsh
    obtain ⟨z,HZV⟩:∃z,Hid (z=zero):=⟨_,Lib.hid rfl⟩
    obtain ⟨T,HT⟩:∃T:Nat->List (List Int),Hid (∀j,T j=searchTo D L exact k rest z tail j):=⟨_,Lib.hid fun _=>rfl⟩
    have HT1:Hid (∀j,T (j+1)=T j++searchC D L exact k rest z tail (lo+(j:Int))):=Lib.hid fun j=>by rw [HT.out,HT.out,searchTo_succ,HZV.out,HLOV.out]
    have HTN:Hid (searchL D L exact k rest zero tail=T (hi-lo+1).toNat):=Lib.hid (by rw [searchL_eq,HT.out,HZV.out,sCnt,HHI.out,HLOV.out])
    have HTL:Hid (∀(x:Int) (j:Nat),x=lo+j->x<=hi->(l++T (j+1)).length<=1073741824):=Lib.hid fun x j h1 h2=>by
     have hh:=HLEN.out
     rw [HTN.out,HT.out] at hh
     have :=(searchTo_prefix D L exact k rest z tail (i:=j+1) (j:=(hi-lo+1).toNat) (by omega)).length_le
     rw [HT.out]
     simp only [List.length_append] at hh |-
     omega
    have hZ2:Hid (z=true->absSum tail=0):=Lib.hid (by rw [HZV.out];exact HZ.out)
    rw [HTN.out]
    clear HZ HLOV HLEN
    cases zero
    all_goals (try simp only [if_true,if_false,Bool.false_eq_true,forall_const] at hlo1 hlop)
    all_goals (
     go_wp2_with (first
      |(go_at_call 140;refine (enumerate_root_any (a:=sqn) (by omega)).mono ?_;rintro e w' ⟨rfl,rfl⟩)
      |(go_at_call 141;refine (enumerate_floor_any (by omega) (by omega) (by omega) (by omega)).mono ?_;rintro e w' ⟨rfl,rfl⟩)))
    all_goals (
     go_loopw [19,20,21,99,112] (fun sx _ _ _ _ wr=>∃(x:Int) (j:Nat),sx= .int .i64 x/\Hid (x=lo+j)/\lo<=x/\-p<=x/\(x<=hi+1∨j=0)/\XRow wr (w1.heap.size+1) n k tail/\∃lB c vs,SMem w1 wr n (some ⟨bm,om,none⟩) (some ⟨bl,ol,none⟩) mc lc eb exact lB c (l++T j) vs) (fun sx _ _ _ _ _=>(hi+1-intOf sx).toNat)
     case atStart=>
      refine ⟨_,0,rfl,Lib.hid (by omega),by omega,by omega,.inr rfl,HX.out,lB,c,vs,?_⟩
      rw [HT.out]
      simpa [searchTo] using HM.out
     case round=>
      obtain ⟨x,j,rfl,HXJ,hx1,hx2,hx3,hX2,lB2,c2,vs2,hM2⟩:=hrel
      clear xb1 sb1 f1 f2 f5 m1 m3 m4 l2 l3 l4 hrow HROW hxl HXD HM HX bw HL5
      by_cases hlt:x<=hi
      ·have hin1:vLo D L k rest tail<=x:=by rw [HLO.out];exact hx2
       have hin2:x<=vHi D L k rest tail:=by rw [HHI.out];exact hlt
       have hub:=vU_bounds hN hLv hin1 hin2
       obtain ⟨hr1',hr2',-,-⟩:=vRest_bounds hN hLv hin1 hin2
       obtain ⟨u,hu⟩:∃u,u=d*x+sh:=⟨_,rfl⟩
       have HU:Hid (vU D L k tail x=u):=Lib.hid (by rw [hu,HSH.out,HD.out];rfl)
       have HRS:Hid (vRest D L k rest tail x=((sqn:Int)-u*u) / d):=Lib.hid (by rw [vRest,HU.out,HSQ.out,<-HD.out])
       rw [HU.out] at hub hr1' hr2'
       rw [HSQ.out] at hr1'
       rw [HRT.out] at hub
       have hln:=HTL.out x j HXJ.out hlt
       have xb2:wr.cell? ⟨w1.heap.size+2,0,none⟩=some (.slice (some ⟨w1.heap.size+1,0,none⟩) n n):=by simp [World.cell?,hM2.xb]
       have sb2:wr.cell? ⟨w1.heap.size+4,0,none⟩=some (.func (.func 139) #[] (sCaps w1.heap.size eb)):=by simp [World.cell?,hM2.sb]
       have lb2:wr.cell? ⟨w1.heap.size+3,0,none⟩=some (.slice lB2 (l++T j).length c2):=by simp [World.cell?,hM2.lb]
       have ec2:wr.cell? ⟨eb,0,none⟩=some (.bool exact):=(World.cell?_of_block (hM2.ext.below.block eb hM2.ebl)).trans hM2.ec
       have bw2:w1.heap.size+5<=wr.heap.size:=hM2.sz
       have hebl:=hM2.ebl
       obtain ⟨xs2,hrow2,hxl2,-⟩:=id hX2
       obtain ⟨y0,-,hc0⟩:=hrow2.cell (i:=k) (by omega)
       have hf0:=hrow2.frozen k
       have hu':=hu.symm
       have hub1:-2147483648<=u:=by omega
       have hub2:u<=2147483648:=by omega
       have hus:u*u<=4611686018427387904:=by omega
       have hdx:=mul_abs_le (a:=d) (b:=x) (A:=65536) (B:=2199023255552) (by omega) (by omega) (by omega) (by omega)
       have hdx1:-144115188075855872<=d*x:=by omega
       have hdx2:d*x<=144115188075855872:=by omega
       by_cases hk0:k=0
       ·have hkb:¬((0:Int)<k):=by omega
        have hk00:k<1:=by omega
        have hX3:=hX2.put0 x
        obtain ⟨hR3,hRl⟩:=hX2.full hk0 hkn x
        have hM3:=hM2.setX k (.int .i64 x)
        obtain ⟨lf,hlf⟩:∃lf,lf=((sqn:Int)-u*u) / d:=⟨_,rfl⟩
        have HLF:=Lib.hid hlf
        have HNX:Hid (T (j+1)=T j++if takes z exact x lf then [x::tail] else []):=Lib.hid (by
         rw [HT1.out,<-HXJ.out,searchC,if_pos hk0,HRS.out,hlf])
        have hlf':=hlf.symm
        clear hub hu hin1 hin2 hdx hxl2 hrow2 hlf
        have HX3:=Lib.hid hX3
        have HR3:=Lib.hid hR3
        have HM3:=Lib.hid hM3
        have HLN:=Lib.hid hln
        have HRL3:=Lib.hid hRl
        have HK0:=Lib.hid hk0
        clear hM2 hX2 hX3 hR3 hM3 hln hRl hk0
        by_cases htk:takes z exact x lf=true
        ·have hT2:Hid (T (j+1)=T j++[x::tail]):=Lib.hid (by rw [HNX.out];simp [htk])
         have htk':¬(z=true/\x=0)/\(exact=false∨(exact=true/\lf=0)):=by
          cases z<;>cases exact<;>by_cases hx0:x=0<;>by_cases hl0:lf=0<;>simp_all [takes]
         have htk2:(z=false∨(z=true/\(x==0)=false))/\(exact=false∨(exact=true/\(lf==0)=true)):=by
          cases z<;>cases exact<;>by_cases hx0:x=0<;>by_cases hl0:lf=0<;>simp_all [takes]
         rw [HZV.out] at htk2
         simp only [Bool.false_eq_true,Bool.true_eq_false,false_and,true_and,false_or,or_false,true_or] at htk2
         clear htk HNX htk'
         first
          |(obtain ⟨hx0b,he1⟩:=htk2
            rcases he1 with rfl |⟨rfl,hl0⟩
            ·go_wp2_with fail
             generalize wr.setCell ⟨w1.heap.size+1,k,none⟩ (.int .i64 x)=wS at HX3 HR3 HM3 |-
             obtain ⟨ln,hln1⟩:∃ln,(l++T j).length=ln:=⟨_,rfl⟩
             have HLN1:=Lib.hid hln1
             have hlb3:=HM3.out.lb
             rw [hln1] at hlb3
             have lb3:wS.cell? ⟨w1.heap.size+3,0,none⟩=some (.slice lB2 ln c2):=by simp [World.cell?,hlb3]
             have lf3:wS.frozen? ⟨w1.heap.size+3,0,none⟩=false:=by simp [World.frozen?,hlb3]
             have hown3:=HM3.out.ls.own
             rw [hln1] at hown3
             have HO3:=Lib.hid hown3
             have HLB:=Lib.hid hlb3
             have hle:ln+1<=1073741824:=by
              have :=HLN.out
              rw [hT2.out,<-List.append_assoc,List.length_append,hln1] at this
              simpa using this
             have xb3:wS.cell? ⟨w1.heap.size+2,0,none⟩=some (.slice (some ⟨w1.heap.size+1,0,none⟩) n n):=by simp [World.cell?,HM3.out.xb]
             have bw3:=HM3.out.sz
             have oS3:Old (w1.heap.size+3) wS:=⟨by omega⟩
             have hcl:=fun W (hxx:Ext wS W)=>CloneI_any (w:=W) (c:=n) HR3.out.ints (by rw [HRL3.out];omega)
             rw [HRL3.out] at hcl
             have HCL:=Lib.hid hcl
             clear hcl hln1 lb2 hlb3 hown3
             go_region_law (first
              |((refine step_app _ rfl (.tmp 94) (.tmp 97) 25 rfl (w1.heap.size+5) 35 (.slice none 0 0) 1 24 Tryz.underlying25 infoSlI64 rfl (by decide) (by decide) lB2 ln c2 vs2 (by simp [Act.eval]) (HO3.out.ext inferInstance) (some ⟨W5.heap.size,0,none⟩) 1 1 [.slice B5 n d5] (by simp [Act.eval]) ((Arr.new W5 35 #[.slice B5 n d5]).ext inferInstance) rfl (by simp [Value.oneCell']) (by omega) (by have :=hs5.size;simp at this |-;omega) ?_);intro A6 d6 w6 hown6 hg6;have hb6:=(hg6.below.block (w1.heap.size+3) (by omega)).trans (heap_of_ext (inferInstance:Ext wS ((W5.alloc (Obj.cells #[Value.slice B5 n d5] 35)))) HLB.out);have q1:w6.cell? ⟨w1.heap.size+3,0,none⟩=some (.slice lB2 ln c2):=(by simp [World.cell?,hb6]);have q2:w6.frozen? ⟨w1.heap.size+3,0,none⟩=false:=(by simp [World.frozen?,hb6]);have q3:w1.heap.size+3<w6.heap.size:=lt_of_heap hb6;clear hb6)
              |(go_simp;go_at_call 142;refine (HCL.out _ inferInstance).mono ?_;rintro e W5 ⟨B5,d5,rfl,hO5,hs5⟩;rw [HRL3.out]))
             all_goals (
              obtain ⟨hX6,hM6⟩:=SMem.took HM3.out HX3.out (inferInstance:Ext wS W5) hO5 HM3.out.sz HRL3.out HLN1.out hown6 hg6 hT2.out
              clear q1 q2 q3 hown6 hg6 hO5 hs5 HCL HO3 HLB lb3 lf3 xb3
              generalize w6.setCell ⟨w1.heap.size+3,0,none⟩ (.slice A6 (ln+1) d6)=w7 at hX6 hM6 |-
              have HX6:=Lib.hid hX6
              have HM6:=Lib.hid hM6
              clear hX6 hM6
              go_wp2_with fail
              exact ⟨⟨x+1,j+1,rfl,Lib.hid (by have :=HXJ.out;omega),by omega,by omega,.inl (by omega),HX6.out,A6,d6,_,HM6.out⟩,by simp [intOf]<;>omega⟩)
            ·go_wp2_with fail
             generalize wr.setCell ⟨w1.heap.size+1,k,none⟩ (.int .i64 x)=wS at HX3 HR3 HM3 |-
             obtain ⟨ln,hln1⟩:∃ln,(l++T j).length=ln:=⟨_,rfl⟩
             have HLN1:=Lib.hid hln1
             have hlb3:=HM3.out.lb
             rw [hln1] at hlb3
             have lb3:wS.cell? ⟨w1.heap.size+3,0,none⟩=some (.slice lB2 ln c2):=by simp [World.cell?,hlb3]
             have lf3:wS.frozen? ⟨w1.heap.size+3,0,none⟩=false:=by simp [World.frozen?,hlb3]
             have hown3:=HM3.out.ls.own
             rw [hln1] at hown3
             have HO3:=Lib.hid hown3
             have HLB:=Lib.hid hlb3
             have hle:ln+1<=1073741824:=by
              have :=HLN.out
              rw [hT2.out,<-List.append_assoc,List.length_append,hln1] at this
              simpa using this
             have xb3:wS.cell? ⟨w1.heap.size+2,0,none⟩=some (.slice (some ⟨w1.heap.size+1,0,none⟩) n n):=by simp [World.cell?,HM3.out.xb]
             have bw3:=HM3.out.sz
             have oS3:Old (w1.heap.size+3) wS:=⟨by omega⟩
             have hcl:=fun W (hxx:Ext wS W)=>CloneI_any (w:=W) (c:=n) HR3.out.ints (by rw [HRL3.out];omega)
             rw [HRL3.out] at hcl
             have HCL:=Lib.hid hcl
             clear hcl hln1 lb2 hlb3 hown3
             go_region_law (first
              |((refine step_app _ rfl (.tmp 94) (.tmp 97) 25 rfl (w1.heap.size+5) 35 (.slice none 0 0) 1 24 Tryz.underlying25 infoSlI64 rfl (by decide) (by decide) lB2 ln c2 vs2 (by simp [Act.eval]) (HO3.out.ext inferInstance) (some ⟨W5.heap.size,0,none⟩) 1 1 [.slice B5 n d5] (by simp [Act.eval]) ((Arr.new W5 35 #[.slice B5 n d5]).ext inferInstance) rfl (by simp [Value.oneCell']) (by omega) (by have :=hs5.size;simp at this |-;omega) ?_);intro A6 d6 w6 hown6 hg6;have hb6:=(hg6.below.block (w1.heap.size+3) (by omega)).trans (heap_of_ext (inferInstance:Ext wS ((W5.alloc (Obj.cells #[Value.slice B5 n d5] 35)))) HLB.out);have q1:w6.cell? ⟨w1.heap.size+3,0,none⟩=some (.slice lB2 ln c2):=(by simp [World.cell?,hb6]);have q2:w6.frozen? ⟨w1.heap.size+3,0,none⟩=false:=(by simp [World.frozen?,hb6]);have q3:w1.heap.size+3<w6.heap.size:=lt_of_heap hb6;clear hb6)
              |(go_simp;go_at_call 142;refine (HCL.out _ inferInstance).mono ?_;rintro e W5 ⟨B5,d5,rfl,hO5,hs5⟩;rw [HRL3.out]))
             all_goals (
              obtain ⟨hX6,hM6⟩:=SMem.took HM3.out HX3.out (inferInstance:Ext wS W5) hO5 HM3.out.sz HRL3.out HLN1.out hown6 hg6 hT2.out
              clear q1 q2 q3 hown6 hg6 hO5 hs5 HCL HO3 HLB lb3 lf3 xb3
              generalize w6.setCell ⟨w1.heap.size+3,0,none⟩ (.slice A6 (ln+1) d6)=w7 at hX6 hM6 |-
              have HX6:=Lib.hid hX6
              have HM6:=Lib.hid hM6
              clear hX6 hM6
              go_wp2_with fail
              exact ⟨⟨x+1,j+1,rfl,Lib.hid (by have :=HXJ.out;omega),by omega,by omega,.inl (by omega),HX6.out,A6,d6,_,HM6.out⟩,by simp [intOf]<;>omega⟩))
          |(rcases htk2 with rfl |⟨rfl,hl0⟩
            ·go_wp2_with fail
             generalize wr.setCell ⟨w1.heap.size+1,k,none⟩ (.int .i64 x)=wS at HX3 HR3 HM3 |-
             obtain ⟨ln,hln1⟩:∃ln,(l++T j).length=ln:=⟨_,rfl⟩
             have HLN1:=Lib.hid hln1
             have hlb3:=HM3.out.lb
             rw [hln1] at hlb3
             have lb3:wS.cell? ⟨w1.heap.size+3,0,none⟩=some (.slice lB2 ln c2):=by simp [World.cell?,hlb3]
             have lf3:wS.frozen? ⟨w1.heap.size+3,0,none⟩=false:=by simp [World.frozen?,hlb3]
             have hown3:=HM3.out.ls.own
             rw [hln1] at hown3
             have HO3:=Lib.hid hown3
             have HLB:=Lib.hid hlb3
             have hle:ln+1<=1073741824:=by
              have :=HLN.out
              rw [hT2.out,<-List.append_assoc,List.length_append,hln1] at this
              simpa using this
             have xb3:wS.cell? ⟨w1.heap.size+2,0,none⟩=some (.slice (some ⟨w1.heap.size+1,0,none⟩) n n):=by simp [World.cell?,HM3.out.xb]
             have bw3:=HM3.out.sz
             have oS3:Old (w1.heap.size+3) wS:=⟨by omega⟩
             have hcl:=fun W (hxx:Ext wS W)=>CloneI_any (w:=W) (c:=n) HR3.out.ints (by rw [HRL3.out];omega)
             rw [HRL3.out] at hcl
             have HCL:=Lib.hid hcl
             clear hcl hln1 lb2 hlb3 hown3
             go_region_law (first
              |((refine step_app _ rfl (.tmp 94) (.tmp 97) 25 rfl (w1.heap.size+5) 35 (.slice none 0 0) 1 24 Tryz.underlying25 infoSlI64 rfl (by decide) (by decide) lB2 ln c2 vs2 (by simp [Act.eval]) (HO3.out.ext inferInstance) (some ⟨W5.heap.size,0,none⟩) 1 1 [.slice B5 n d5] (by simp [Act.eval]) ((Arr.new W5 35 #[.slice B5 n d5]).ext inferInstance) rfl (by simp [Value.oneCell']) (by omega) (by have :=hs5.size;simp at this |-;omega) ?_);intro A6 d6 w6 hown6 hg6;have hb6:=(hg6.below.block (w1.heap.size+3) (by omega)).trans (heap_of_ext (inferInstance:Ext wS ((W5.alloc (Obj.cells #[Value.slice B5 n d5] 35)))) HLB.out);have q1:w6.cell? ⟨w1.heap.size+3,0,none⟩=some (.slice lB2 ln c2):=(by simp [World.cell?,hb6]);have q2:w6.frozen? ⟨w1.heap.size+3,0,none⟩=false:=(by simp [World.frozen?,hb6]);have q3:w1.heap.size+3<w6.heap.size:=lt_of_heap hb6;clear hb6)
              |(go_simp;go_at_call 142;refine (HCL.out _ inferInstance).mono ?_;rintro e W5 ⟨B5,d5,rfl,hO5,hs5⟩;rw [HRL3.out]))
             all_goals (
              obtain ⟨hX6,hM6⟩:=SMem.took HM3.out HX3.out (inferInstance:Ext wS W5) hO5 HM3.out.sz HRL3.out HLN1.out hown6 hg6 hT2.out
              clear q1 q2 q3 hown6 hg6 hO5 hs5 HCL HO3 HLB lb3 lf3 xb3
              generalize w6.setCell ⟨w1.heap.size+3,0,none⟩ (.slice A6 (ln+1) d6)=w7 at hX6 hM6 |-
              have HX6:=Lib.hid hX6
              have HM6:=Lib.hid hM6
              clear hX6 hM6
              go_wp2_with fail
              exact ⟨⟨x+1,j+1,rfl,Lib.hid (by have :=HXJ.out;omega),by omega,by omega,.inl (by omega),HX6.out,A6,d6,_,HM6.out⟩,by simp [intOf]<;>omega⟩)
            ·go_wp2_with fail
             generalize wr.setCell ⟨w1.heap.size+1,k,none⟩ (.int .i64 x)=wS at HX3 HR3 HM3 |-
             obtain ⟨ln,hln1⟩:∃ln,(l++T j).length=ln:=⟨_,rfl⟩
             have HLN1:=Lib.hid hln1
             have hlb3:=HM3.out.lb
             rw [hln1] at hlb3
             have lb3:wS.cell? ⟨w1.heap.size+3,0,none⟩=some (.slice lB2 ln c2):=by simp [World.cell?,hlb3]
             have lf3:wS.frozen? ⟨w1.heap.size+3,0,none⟩=false:=by simp [World.frozen?,hlb3]
             have hown3:=HM3.out.ls.own
             rw [hln1] at hown3
             have HO3:=Lib.hid hown3
             have HLB:=Lib.hid hlb3
             have hle:ln+1<=1073741824:=by
              have :=HLN.out
              rw [hT2.out,<-List.append_assoc,List.length_append,hln1] at this
              simpa using this
             have xb3:wS.cell? ⟨w1.heap.size+2,0,none⟩=some (.slice (some ⟨w1.heap.size+1,0,none⟩) n n):=by simp [World.cell?,HM3.out.xb]
             have bw3:=HM3.out.sz
             have oS3:Old (w1.heap.size+3) wS:=⟨by omega⟩
             have hcl:=fun W (hxx:Ext wS W)=>CloneI_any (w:=W) (c:=n) HR3.out.ints (by rw [HRL3.out];omega)
             rw [HRL3.out] at hcl
             have HCL:=Lib.hid hcl
             clear hcl hln1 lb2 hlb3 hown3
             go_region_law (first
              |((refine step_app _ rfl (.tmp 94) (.tmp 97) 25 rfl (w1.heap.size+5) 35 (.slice none 0 0) 1 24 Tryz.underlying25 infoSlI64 rfl (by decide) (by decide) lB2 ln c2 vs2 (by simp [Act.eval]) (HO3.out.ext inferInstance) (some ⟨W5.heap.size,0,none⟩) 1 1 [.slice B5 n d5] (by simp [Act.eval]) ((Arr.new W5 35 #[.slice B5 n d5]).ext inferInstance) rfl (by simp [Value.oneCell']) (by omega) (by have :=hs5.size;simp at this |-;omega) ?_);intro A6 d6 w6 hown6 hg6;have hb6:=(hg6.below.block (w1.heap.size+3) (by omega)).trans (heap_of_ext (inferInstance:Ext wS ((W5.alloc (Obj.cells #[Value.slice B5 n d5] 35)))) HLB.out);have q1:w6.cell? ⟨w1.heap.size+3,0,none⟩=some (.slice lB2 ln c2):=(by simp [World.cell?,hb6]);have q2:w6.frozen? ⟨w1.heap.size+3,0,none⟩=false:=(by simp [World.frozen?,hb6]);have q3:w1.heap.size+3<w6.heap.size:=lt_of_heap hb6;clear hb6)
              |(go_simp;go_at_call 142;refine (HCL.out _ inferInstance).mono ?_;rintro e W5 ⟨B5,d5,rfl,hO5,hs5⟩;rw [HRL3.out]))
             all_goals (
              obtain ⟨hX6,hM6⟩:=SMem.took HM3.out HX3.out (inferInstance:Ext wS W5) hO5 HM3.out.sz HRL3.out HLN1.out hown6 hg6 hT2.out
              clear q1 q2 q3 hown6 hg6 hO5 hs5 HCL HO3 HLB lb3 lf3 xb3
              generalize w6.setCell ⟨w1.heap.size+3,0,none⟩ (.slice A6 (ln+1) d6)=w7 at hX6 hM6 |-
              have HX6:=Lib.hid hX6
              have HM6:=Lib.hid hM6
              clear hX6 hM6
              go_wp2_with fail
              exact ⟨⟨x+1,j+1,rfl,Lib.hid (by have :=HXJ.out;omega),by omega,by omega,.inl (by omega),HX6.out,A6,d6,_,HM6.out⟩,by simp [intOf]<;>omega⟩))
        ·have hT2:Hid (T (j+1)=T j):=Lib.hid (by rw [HNX.out];simp [htk])
         have htk':(z=true/\(x==0)=true)∨(z=true/\(x==0)=false/\exact=true/\(lf==0)=false)∨(z=false/\exact=true/\(lf==0)=false):=by
          cases z<;>cases exact<;>by_cases hx0:x=0<;>by_cases hl0:lf=0<;>simp_all [takes]
         rw [HZV.out] at htk'
         simp only [Bool.false_eq_true,Bool.true_eq_false,false_and,true_and,false_or,or_false] at htk'
         clear htk HNX
         have hfin:∀v:Value,v= .int .i64 (x+1)->(∃(x':Int) (j:Nat),v= .int .i64 x'/\Hid (x'=lo+j)/\lo<=x'/\-p<=x'/\(x'<=hi+1∨j=0)/\XRow (wr.setCell ⟨w1.heap.size+1,k,none⟩ (.int .i64 x)) (w1.heap.size+1) n k tail/\∃lB c vs,SMem w1 (wr.setCell ⟨w1.heap.size+1,k,none⟩ (.int .i64 x)) n (some ⟨bm,om,none⟩) (some ⟨bl,ol,none⟩) mc lc eb exact lB c (l++T j) vs):=fun v hv=>⟨x+1,j+1,hv,Lib.hid (by have :=HXJ.out;omega),by omega,by omega,.inl (by omega),HX3.out,lB2,c2,vs2,by rw [hT2.out];exact HM3.out⟩
         have HFIN:=Lib.hid hfin
         clear hfin
         first
          |(obtain ⟨rfl,hl0⟩:=htk'
            go_wp2_with fail
            exact ⟨HFIN.out _ rfl,by simp [intOf]<;>omega⟩)
          |(rcases htk' with hx0b |⟨hx0b,rfl,hl0⟩
            ·go_wp2_with fail
             exact ⟨HFIN.out _ rfl,by simp [intOf]<;>omega⟩
            ·go_wp2_with fail
             exact ⟨HFIN.out _ rfl,by simp [intOf]<;>omega⟩)
       ·obtain ⟨k',HK1⟩:∃k',Hid (k=k'+1):=⟨k-1,Lib.hid (by omega)⟩
        have hk1':1<=k:=by omega
        have hkb:decide ((0:Int)<k)=true:=by simp;omega
        have hLn:LevOK D n bound (k'+1) rest tail:=by rw [<-HK1.out];exact hLv
        have hL':LevOK D n bound k' (((sqn:Int)-u*u) / d) (x::tail):=by
         have :=LevOK.next hN hLn (x:=x) (by rw [<-HK1.out];exact hin1) (by rw [<-HK1.out];exact hin2)
         rw [<-HK1.out,HRS.out] at this
         exact this
        have hX3:XRow (wr.setCell ⟨w1.heap.size+1,k,none⟩ (.int .i64 x)) (w1.heap.size+1) n k' (x::tail):=by
         have h1:XRow wr (w1.heap.size+1) n (k'+1) tail:=by rw [<-HK1.out];exact hX2
         have :=h1.put (by have :=HK1.out;omega) x
         rw [<-HK1.out] at this;exact this
        obtain ⟨zb,HZB⟩:∃zb,Hid (zb=(z&&decide (x=0))):=⟨_,Lib.hid rfl⟩
        have hz3:zb=true->absSum (x::tail)=0:=fun h=>by
         rw [HZB.out] at h
         simp at h
         have :=hZ2.out h.1
         simp [absSum,h.2] at this |-
         exact this
        have HNX:Hid (T (j+1)=T j++searchL D L exact k' (((sqn:Int)-u*u) / d) zb (x::tail)):=Lib.hid (by
         rw [HT1.out,<-HXJ.out,searchC,if_neg hk0,HRS.out,HZB.out,show k-1=k' by have :=HK1.out;omega])
        have hcall:=ih k' (by have :=HK1.out;omega) _ zb _ _ _ _ (l++T j) _ hL' hz3 hX3 (hM2.setX k (.int .i64 x)) (by rw [List.append_assoc,<-HNX.out];exact hln)
        rw [List.append_assoc,<-HNX.out,show ((k':Nat):Int)=(k:Int)-1 by have :=HK1.out;omega] at hcall
        unfold sCaps at sb2 hcall
        simp only [List.append_toArray,List.cons_append,List.nil_append] at hcall
        have HC:=Lib.hid hcall
        have hfn:=isFn_search
        unfold IsFn at hfn
        clear hub hu hin1 hin2 hX3 hL' hLn hcall hdx hxl2 hrow2 hz3 hln hk0
        have HM2:=Lib.hid hM2
        have HX2:=Lib.hid hX2
        clear hM2 hX2
        by_cases hx0:x=0
        all_goals (
         have hzb:=HZB.out
         rw [HZV.out] at hzb
         simp [hx0] at hzb
         subst hzb)
        ·have hx0b:(x==0)=true:=by simp [hx0]
         clear hx0
         go_wp2_with (refine HC.out.mono ?_;rintro e W3 ⟨rfl,hX4,lB4,c4,vs4,hM4⟩)
         refine ⟨⟨x+1,j+1,rfl,Lib.hid (by have :=HXJ.out;omega),by omega,by omega,.inl (by omega),?_,lB4,c4,vs4,hM4⟩,by simp [intOf]<;>omega⟩
         have :=hX4.up
         rw [<-HK1.out] at this;exact this
        ·have hx0b:(x==0)=false:=by simp [hx0]
         clear hx0
         go_wp2_with (refine HC.out.mono ?_;rintro e W3 ⟨rfl,hX4,lB4,c4,vs4,hM4⟩)
         refine ⟨⟨x+1,j+1,rfl,Lib.hid (by have :=HXJ.out;omega),by omega,by omega,.inl (by omega),?_,lB4,c4,vs4,hM4⟩,by simp [intOf]<;>omega⟩
         have :=hX4.up
         rw [<-HK1.out] at this;exact this
      ·have hj:j=(hi-lo+1).toNat:=by have :=HXJ.out;omega
       have HJJ:=Lib.hid hj
       clear hj
       go_wp2_with fail
       go_end0
       refine ⟨rfl,hX2,lB2,c2,vs2,?_⟩
       rw [HTN.out,<-HJJ.out]
       exact hM2)
def RetQ (w:World) (v:Value) (e:Ending) (w':World):Prop:=e= .returned v/\∃n,w'=w.drewN n
theorem ref09_Compare_any {w0 w:World} {X Y:Option Addr} {c d:Nat} {x y:List Int} (hX:Ints w0 X 2 .i64 x) (hY:Ints w0 Y 2 .i64 y) (hx1:x.length<=1099511627776) (hy1:y.length<=1099511627776) [hx:Ext w0 w]:
  Calls Tryz.prog 13 #[.slice X x.length c,.slice Y y.length d] w (RetQ w (.int .i64 (lexI x y))):=by
 go_enter Tryz.func13,Tryz.ntmps13
 go_wp2
 go_loopw [5] (fun i wr=>∃k:Nat,k<=x.length/\k<=y.length/\i= .int .i64 k/\Hid (lexI x y=lexI (x.drop k) (y.drop k))/\Hid (∃n,wr=w.drewN n)) (fun i _=>x.length-(intOf i).toNat)
 case atStart=>exact ⟨0,by omega,by omega,rfl,Lib.hid rfl,Lib.hid ⟨0,rfl⟩⟩
 case round=>
  obtain ⟨k,hk1,hk2,rfl,HE,HN⟩:=hrel
  have hxn:Ext w0 wr:=by obtain ⟨n,hn⟩:=HN.out;rw [hn];infer_instance
  by_cases hlt:k<x.length
  ·obtain ⟨b1,o1,a,rfl,ha,g1,g2⟩:=(hX.ext hxn).at_ hlt
   by_cases hlt2:k<y.length
   ·obtain ⟨b2,o2,b,rfl,hb,g3,g4⟩:=(hY.ext hxn).at_ hlt2
    have ea:x.drop k=a::x.drop (k+1):=by rw [List.drop_eq_getElem_cons hlt,(List.getElem?_eq_some_iff.1 ha).2]
    have eb:y.drop k=b::y.drop (k+1):=by rw [List.drop_eq_getElem_cons hlt2,(List.getElem?_eq_some_iff.1 hb).2]
    have HE2:Hid (lexI x y=if cmpI a b=0 then lexI (x.drop (k+1)) (y.drop (k+1)) else cmpI a b):=Lib.hid (by rw [HE.out,ea,eb,lexI])
    clear ha hb ea eb
    by_cases hab:a<b
    ·have h1:(a !=b)=true:=by simp;omega
     have h2:decide (a<b)=true:=by simpa using hab
     have HV:Hid (lexI x y=-1):=Lib.hid (by rw [HE2.out,cmpI_lt hab];rfl)
     clear hab
     go_wp2
     go_quiet (fail)
     go_wp2
     go_quiet (fail)
     go_wp2
     go_ret
     exact ⟨by rw [HV.out];rfl,by obtain ⟨n,hn⟩:=HN.out;exact ⟨_,by rw [hn,World.drewN_drewN,World.drewN_drewN]⟩⟩
    ·by_cases hba:b<a
     ·have h1:(a !=b)=true:=by simp;omega
      have h2:decide (a<b)=false:=by simpa using hab
      have HV:Hid (lexI x y=1):=Lib.hid (by rw [HE2.out,cmpI_gt hba];rfl)
      clear hab hba
      go_wp2
      go_quiet (fail)
      go_wp2
      go_quiet (fail)
      go_wp2
      go_ret
      exact ⟨by rw [HV.out];rfl,by obtain ⟨n,hn⟩:=HN.out;exact ⟨_,by rw [hn,World.drewN_drewN,World.drewN_drewN]⟩⟩
     ·have hab2:a=b:=by omega
      have h1:(a !=b)=false:=by simp [hab2]
      have HV:Hid (lexI x y=lexI (x.drop (k+1)) (y.drop (k+1))):=Lib.hid (by rw [HE2.out,cmpI_eq hab2];rfl)
      clear hab hba hab2
      go_wp2
      go_quiet (fail)
      go_wp2
      exact ⟨⟨k+1,by omega,by omega,by go_num,HV,Lib.hid (by obtain ⟨n,hn⟩:=HN.out;exact ⟨_,by rw [hn,World.drewN_drewN]⟩)⟩,by simp [intOf];omega⟩
   ·have HV:Hid (lexI x y=1):=Lib.hid (by
     rw [HE.out,List.drop_eq_getElem_cons hlt,show y.drop k=[] from List.drop_eq_nil_iff.2 (by omega)];rfl)
    clear ha
    go_wp2
    go_ret
    exact ⟨by rw [HV.out];rfl,HN.out⟩
  ·by_cases hlt2:k<y.length
   ·have HV:Hid (lexI x y=-1):=Lib.hid (by
     rw [HE.out,show x.drop k=[] from List.drop_eq_nil_iff.2 (by omega),List.drop_eq_getElem_cons hlt2];rfl)
    go_wp2
    go_ret
    exact ⟨by rw [HV.out];rfl,HN.out⟩
   ·have HV:Hid (lexI x y=0):=Lib.hid (by
     rw [HE.out,show x.drop k=[] from List.drop_eq_nil_iff.2 (by omega),show y.drop k=[] from List.drop_eq_nil_iff.2 (by omega)];rfl)
    go_wp2
    go_ret
    exact ⟨by rw [HV.out];rfl,HN.out⟩
theorem ref09_Same_any {w0 w:World} {A B:Option Addr} {c d:Nat} {a b:List (List Int)} (hA:Mat64 w0 A a) (hB:Mat64 w0 B b) (ha1:a.length<=1099511627776) (hb1:b.length<=1099511627776) (ha2:∀r∈a,r.length<=1099511627776) (hb2:∀r∈b,r.length<=1099511627776) [hx:Ext w0 w]:
  Calls Tryz.prog 30 #[.slice A a.length c,.slice B b.length d] w (RetQ w (.bool (decide (a=b)))):=by
 by_cases hl:a.length=b.length
 ·rw [<-hl]
  have hlb:((a.length:Int) !=(a.length:Int))=false:=by simp
  have HL:=Lib.hid hl
  have HA2:=Lib.hid ha2
  have HB2:=Lib.hid hb2
  clear hl ha2 hb2 hb1
  obtain ⟨q,hq⟩:∃q,q=a.length:=⟨_,rfl⟩
  rw [<-hq] at hlb ha1 |-
  have HQ:=Lib.hid hq
  clear hq
  go_enter Tryz.func30,Tryz.ntmps30
  go_wp2
  go_loopw [5,13] (fun _ i wr=>∃k:Nat,k<=q/\i= .int .i64 k/\Hid (a.take k=b.take k)/\Hid (∃n,wr=w.drewN n)) (fun _ i _=>q-(intOf i).toNat)
  case atStart=>exact ⟨0,by omega,rfl,Lib.hid rfl,Lib.hid ⟨0,rfl⟩⟩
  case round=>
   obtain ⟨k,hk,rfl,HE,HN⟩:=hrel
   have hxn:Ext w0 wr:=by obtain ⟨n,hn⟩:=HN.out;rw [hn];infer_instance
   by_cases hlt:k<q
   ·have hka:k<a.length:=by have :=HQ.out;omega
    have hkb:k<b.length:=by have :=HQ.out;have :=HL.out;omega
    obtain ⟨b1,o1,X,c1,rfl,e1,f1,f2,f3,f4⟩:=(hA.ext hxn).at_ (i:=k) (r:=a[k]) (by simp [hka])
    obtain ⟨b2,o2,Y,c2,rfl,e2,g1,g2,g3,g4⟩:=(hB.ext hxn).at_ (i:=k) (r:=b[k]) (by simp [hkb])
    obtain ⟨x,hxx⟩:∃x,x=a[k]:=⟨_,rfl⟩
    obtain ⟨y,hyy⟩:∃y,y=b[k]:=⟨_,rfl⟩
    have hxl:=HA2.out a[k] (List.getElem_mem hka)
    have hyl:=HB2.out b[k] (List.getElem_mem hkb)
    rw [<-hxx] at e1 f1 f2 hxl
    rw [<-hyy] at e2 g1 g2 hyl
    have HX:Hid (a[k]? =some x):=Lib.hid (by rw [hxx];simp [hka])
    have HY:Hid (b[k]? =some y):=Lib.hid (by rw [hyy];simp [hkb])
    have hc:=fun n=>ref09_Compare_any (w0:=wr) (w:=wr.drewN n) (c:=c1) (d:=c2) f1 g1 hxl hyl
    have HC:=Lib.hid hc
    clear hxx hyy hc f1 g1
    by_cases hxy:x=y
    ·subst hxy
     have HT:Hid (a.take (k+1)=b.take (k+1)):=Lib.hid (by rw [List.take_add_one,List.take_add_one,HE.out,HX.out,HY.out])
     rw [lexI_self] at HC
     go_wp2
     go_quiet ((go_at_call 13;exact Calls.quiet_of (HC.out _)))
     go_wp2
     exact ⟨⟨k+1,by omega,by go_num,HT,Lib.hid (by obtain ⟨n,hn⟩:=HN.out;exact ⟨_,by rw [hn,World.drewN_drewN]⟩)⟩,by simp [intOf];omega⟩
    ·obtain ⟨v,hv⟩:∃v,v=lexI x y:=⟨_,rfl⟩
     rw [<-hv] at HC
     have hv0:(v !=0)=true:=by simp;intro h;exact hxy (lexI_eq _ _ (hv▸h))
     have HV:Hid (decide (a=b)=false):=Lib.hid (by simp;intro h;apply hxy;have h1:=HX.out;rw [h,HY.out] at h1;injection h1 with h1;exact h1.symm)
     clear hv hxy
     go_wp2
     go_quiet ((go_at_call 13;exact Calls.quiet_of (HC.out _)))
     go_wp2
     go_ret
     exact ⟨by rw [HV.out];rfl,by obtain ⟨n,hn⟩:=HN.out;exact ⟨_,by rw [hn,World.drewN_drewN]⟩⟩
   ·have HV:Hid (decide (a=b)=true):=Lib.hid (by
     have h1:a.take k=a:=List.take_of_length_le (by have :=HQ.out;omega)
     have h2:b.take k=b:=List.take_of_length_le (by have :=HQ.out;have :=HL.out;omega)
     have :=HE.out
     rw [h1,h2] at this
     simp [this])
    go_wp2
    go_ret
    exact ⟨by rw [HV.out];rfl,HN.out⟩
 ·have hlb:((a.length:Int) !=(b.length:Int))=true:=by simp;omega
  have HV:Hid (decide (a=b)=false):=Lib.hid (by simp;intro h;exact hl (by rw [h]))
  clear hl
  go_enter Tryz.func30,Tryz.ntmps30
  go_wp2
  go_ret
  exact ⟨by rw [HV.out];rfl,0,rfl⟩
theorem IntsA.at0 {w:World} {A:Option Addr} {l:List Int} (h:IntsA w A l) (hi:0<l.length):∃b o x,A=some ⟨b,o,none⟩/\l[0]? =some x/\w.cell? ⟨b,o,none⟩=some (.int .i64 x)/\b<w.heap.size:=by
 obtain ⟨te,h⟩:=h
 exact h.at0 hi
def collL (m:List (List Int)) (bound:Int) (exact:Bool):List (List Int):=
 if m.length=1 then multL (ent m 0 0) bound exact (isq (bound / ent m 0 0).toNat)
 else searchL (minorsTo m m.length) (lamTo m m.length) exact (m.length-1) (vD (minorsTo m m.length) m.length*bound) true []
theorem isq_bounds {h bound:Int} (h1:1<=h) (hb:0<=bound):(∀x:Int,1<=x->x<=(isq (bound / h).toNat:Nat)->h*x*x<=bound)/\bound<h*((isq (bound / h).toNat:Nat)+1:Int)*((isq (bound / h).toNat:Nat)+1):=by
 obtain ⟨s1,s2⟩:=isq_spec (bound / h).toNat
 obtain ⟨r,hr⟩:∃r,r=isq (bound / h).toNat:=⟨_,rfl⟩
 rw [<-hr] at s1 s2 |-
 have q0:=Int.ediv_nonneg hb (show 0<=h by omega)
 have e1:=Int.mul_ediv_add_emod bound h
 have e2:=Int.emod_nonneg bound (show h≠0 by omega)
 have e3:=Int.emod_lt_of_pos bound (show 0<h by omega)
 have s1':(r:Int)*r<=bound / h:=by
  have :((r*r:Nat):Int)<=bound / h:=by omega
  simpa using this
 have s2':bound / h+1<=((r:Int)+1)*(r+1):=by
  have :bound / h+1<=(((r+1)*(r+1):Nat):Int):=by omega
  simpa using this
 refine ⟨fun x h1x hxr=>?_,?_⟩
 ·have a1:x*x<=(r:Int)*r:=Int.mul_le_mul hxr hxr (by omega) (by omega)
  have a2:h*(x*x)<=h*(bound / h):=Int.mul_le_mul_of_nonneg_left (by omega) (by omega)
  rw [Int.mul_assoc];omega
 ·have a2:h*(bound / h+1)<=h*(((r:Int)+1)*(r+1)):=Int.mul_le_mul_of_nonneg_left s2' (by omega)
  rw [Int.mul_add,Int.mul_one] at a2
  rw [Int.mul_assoc];omega
theorem box1c (w w':World) (x:Value) (T:TypeId) [h:Ext (w.alloc (.cells #[x] T)) w']:w'.cell? ⟨w.heap.size,0,none⟩=some x:=by
 have h0:w'.heap[w.heap.size]? =some (.cells #[x] T (0,0)):=heap_of_ext h (heap_alloc_new w _)
 simp [World.cell?,h0]
theorem collect_one {w0 w:World} {A:Option Addr} {c:Nat} {m:List (List Int)} {bound:Int} {exact:Bool} (h:MatA w0 A m) (hm:m.length=1) (hl:AllLen m 1) (h1:1<=ent m 0 0) (h2:ent m 0 0<65536) (hb:0<=bound) (hr:isq (bound / ent m 0 0).toNat<=1048576) [hx:Ext w0 w]:
  Calls Tryz.prog 77 #[.slice A m.length c,.int .i64 bound,.bool exact] w (RetMatL w (collL m bound exact)):=by
 obtain ⟨hin,hout⟩:=isq_bounds h1 hb
 obtain ⟨r,hre⟩:∃r,r=isq (bound / ent m 0 0).toNat:=⟨_,rfl⟩
 have HC:Hid (collL m bound exact=multL (ent m 0 0) bound exact r):=Lib.hid (by rw [collL,if_pos hm,hre])
 rw [HC.out]
 rw [<-hre] at hin hout hr
 obtain ⟨r0,hr0⟩:∃r0,m[0]? =some r0:=⟨_,List.getElem?_eq_getElem (by omega)⟩
 obtain ⟨b,o,B,c1,rfl,e1,f1,f2,f3,f4⟩:=h.at_ hr0
 have hrl:r0.length=1:=hl r0 (List.mem_of_getElem? hr0)
 obtain ⟨b2,o2,a,rfl,ha,g1,g2⟩:=f1.at0 (by omega)
 have hae:ent m 0 0=a:=by unfold ent;simp [hr0,ha]
 rw [hae] at h1 h2 hin hout |-
 rw [hrl] at e1 f2
 rw [hm]
 have k1:a*((r:Int)+1)<=65535*1048577:=Int.mul_le_mul (by omega) (by omega) (by omega) (by omega)
 have k0:0<=a*((r:Int)+1):=Int.mul_nonneg (by omega) (by omega)
 have k2:a*((r:Int)+1)*((r:Int)+1)<=65535*1048577*1048577:=Int.mul_le_mul k1 (by omega) (by omega) (by omega)
 have hc:=fun W=>multiples_any (w:=W) (exact:=exact) r h1 (by omega) hin hout (by omega) (by omega)
 have HM:=Lib.hid hc
 clear hc hin hout k1 k0 k2 hre hrl hae ha hr0 hm
 have ob:Old b w0:=⟨f4⟩
 have ob2:Old b2 w0:=⟨g2⟩
 simp only [Nat.add_zero] at e1
 have E1:=fun W (hh:Ext w0 W)=>(cellE w0 (w':=W) (b:=b) (o:=o)).trans e1
 have E2:=fun W (hh:Ext w0 W)=>(cellE w0 (w':=W) (b:=b2) (o:=o2)).trans g1
 have HE1:=Lib.hid E1
 have HE2:=Lib.hid E2
 clear E1 E2 e1 g1
 go_enter Tryz.func77,Tryz.ntmps77
 go_wp2
 go_region_held3 (fun w'=>w'.cell? ⟨b,o,none⟩=some (.slice (some ⟨b2,o2,none⟩) 1 c1)/\w'.cell? ⟨b2,o2,none⟩=some (.int .i64 a)/\w'.cell? ⟨w.heap.size,0,none⟩=some (.bool exact)) (exact ⟨HE1.out _ inferInstance,HE2.out _ inferInstance,box1c w _ _ 4⟩)
  ((go_at_call 137;refine (HM.out _).mono ?_;rintro e w2 ⟨A2,c2,rfl,hM2,l1,l2,hs2⟩))
 go_wp2
 go_ret
 exact ⟨A2,c2,rfl,hM2,l1,l2,Step.of _ _⟩
theorem XRow.drew {w:World} {sz n k:Nat} {tail:List Int} (h:XRow w sz n k tail):XRow w.drew sz n k tail:=h
theorem SMem.drew {w1 W:World} {n:Nat} {mA lA:Option Addr} {mc lc eb:Nat} {exact:Bool} {lB:Option Addr} {c:Nat} {l:List (List Int)} {vs:List Value} (h:SMem w1 W n mA lA mc lc eb exact lB c l vs):SMem w1 W.drew n mA lA mc lc eb exact lB c l vs where
 ext:=have :=h.ext;inferInstance
 fb:=h.fb
 xb:=h.xb
 lb:=h.lb
 sb:=h.sb
 ebl:=h.ebl
 ec:=h.ec
 ls:=have :=h.ext;h.ls.ext (Ext.drew W W)
 sz:=h.sz
theorem SMem.start {w1:World} {n mc lc eb:Nat} {mA lA:Option Addr} {exact:Bool} (hn:1<=n) (heb:eb<w1.heap.size) (hec:w1.cell? ⟨eb,0,none⟩=some (.bool exact)):
  XRow (((((w1.alloc (.cells #[.slice mA (n+1) mc,.slice lA n lc] 204)).alloc (.cells (mkCells #[.int .i64 0] n) 2)).alloc (.cells #[.slice (some ⟨w1.heap.size+1,0,none⟩) n n] 35)).alloc (.cells #[.slice none 0 0] 25)).alloc (.cells #[.func (.func 139) #[] #[.pointer (some ⟨w1.heap.size,0,none⟩),.pointer (some ⟨w1.heap.size+1+1,0,none⟩),.pointer (some ⟨w1.heap.size+1+1+1+1,0,none⟩),.pointer (some ⟨eb,0,none⟩),.pointer (some ⟨w1.heap.size+1+1+1,0,none⟩)]] 206)) (w1.heap.size+1) n (n-1) []/\
  SMem w1 (((((w1.alloc (.cells #[.slice mA (n+1) mc,.slice lA n lc] 204)).alloc (.cells (mkCells #[.int .i64 0] n) 2)).alloc (.cells #[.slice (some ⟨w1.heap.size+1,0,none⟩) n n] 35)).alloc (.cells #[.slice none 0 0] 25)).alloc (.cells #[.func (.func 139) #[] #[.pointer (some ⟨w1.heap.size,0,none⟩),.pointer (some ⟨w1.heap.size+1+1,0,none⟩),.pointer (some ⟨w1.heap.size+1+1+1+1,0,none⟩),.pointer (some ⟨eb,0,none⟩),.pointer (some ⟨w1.heap.size+1+1+1,0,none⟩)]] 206)) n mA lA mc lc eb exact none 0 [] []:=by
 generalize e1:w1.alloc (.cells #[.slice mA (n+1) mc,.slice lA n lc] 204)=W1
 generalize e2:W1.alloc (.cells (mkCells #[.int .i64 0] n) 2)=W2
 generalize e3:W2.alloc (.cells #[.slice (some ⟨w1.heap.size+1,0,none⟩) n n] 35)=W3
 generalize e4:W3.alloc (.cells #[.slice none 0 0] 25)=W4
 generalize e5:W4.alloc (.cells #[.func (.func 139) #[] #[.pointer (some ⟨w1.heap.size,0,none⟩),.pointer (some ⟨w1.heap.size+1+1,0,none⟩),.pointer (some ⟨w1.heap.size+1+1+1+1,0,none⟩),.pointer (some ⟨eb,0,none⟩),.pointer (some ⟨w1.heap.size+1+1+1,0,none⟩)]] 206)=W5
 have s1:W1.heap.size=w1.heap.size+1:=by rw [<-e1,World.size_alloc]
 have s2:W2.heap.size=w1.heap.size+2:=by rw [<-e2,World.size_alloc,s1]
 have s3:W3.heap.size=w1.heap.size+3:=by rw [<-e3,World.size_alloc,s2]
 have s4:W4.heap.size=w1.heap.size+4:=by rw [<-e4,World.size_alloc,s3]
 have s5:W5.heap.size=w1.heap.size+5:=by rw [<-e5,World.size_alloc,s4]
 have x1:Ext w1 W1:=by rw [<-e1];infer_instance
 have x2:Ext W1 W2:=by rw [<-e2];infer_instance
 have x3:Ext W2 W3:=by rw [<-e3];infer_instance
 have x4:Ext W3 W4:=by rw [<-e4];infer_instance
 have x5:Ext W4 W5:=by rw [<-e5];infer_instance
 have h1:=heap_alloc_new w1 (.cells #[.slice mA (n+1) mc,.slice lA n lc] 204)
 have h2:=heap_alloc_new W1 (.cells (mkCells #[.int .i64 0] n) 2)
 have h3:=heap_alloc_new W2 (.cells #[.slice (some ⟨w1.heap.size+1,0,none⟩) n n] 35)
 have h4:=heap_alloc_new W3 (.cells #[.slice none 0 0] 25)
 have h5:=heap_alloc_new W4 (.cells #[.func (.func 139) #[] #[.pointer (some ⟨w1.heap.size,0,none⟩),.pointer (some ⟨w1.heap.size+1+1,0,none⟩),.pointer (some ⟨w1.heap.size+1+1+1+1,0,none⟩),.pointer (some ⟨eb,0,none⟩),.pointer (some ⟨w1.heap.size+1+1+1,0,none⟩)]] 206)
 rw [e1] at h1
 rw [e2,s1] at h2
 rw [e3,s2] at h3
 rw [e4,s3] at h4
 rw [e5,s4] at h5
 have x35:=x4.trans x5
 have x25:=x3.trans x35
 have x15:=x2.trans x25
 refine ⟨⟨List.replicate n 0,?_,by simp,by simp;omega⟩,x1.trans x15,heap_of_ext x15 h1,heap_of_ext x35 h3,heap_of_ext x5 h4,h5,heb,hec,LOwn.nil _ _,by omega⟩
 have :(mkCells #[.int .i64 0] n)=((List.replicate n (0:Int)).map (Value.int .i64)).toArray:=by
  apply Array.ext'
  rw [mkCells_one];simp
 rw [this] at h2
 exact heap_of_ext x25 h2
theorem collect_many {w0 w:World} {A:Option Addr} {c:Nat} {m:List (List Int)} {bound:Int} {exact:Bool} (h:MatA w0 A m) (h2:2<=m.length) (hf:FormOK m) (h64:St64 m) (hb0:0<=bound) (hb1:bound<1073741824) (hlen:(searchL (minorsTo m m.length) (lamTo m m.length) exact (m.length-1) (vD (minorsTo m m.length) m.length*bound) true []).length<=1073741824) [hx:Ext w0 w]:
  Calls Tryz.prog 77 #[.slice A m.length c,.int .i64 bound,.bool exact] w (RetMatL w (searchL (minorsTo m m.length) (lamTo m m.length) exact (m.length-1) (vD (minorsTo m m.length) m.length*bound) true [])):=by
 have hN:=hf.num bound hb0 hb1
 have h8:=hN.n8
 have hnf:=fun W (hh:Ext w0 W)=>newForm_any (w:=W) (c:=c) h hf.len1 h8 hf.all hf.fits hf.elim h64
 have hDl:(minorsTo m m.length).length=m.length+1:=minorsTo_length m _
 have hLl:(lamTo m m.length).length=m.length:=by simp [lamTo]
 obtain ⟨D,hD⟩:∃D,D=minorsTo m m.length:=⟨_,rfl⟩
 obtain ⟨L,hL⟩:∃L,L=lamTo m m.length:=⟨_,rfl⟩
 rw [<-hD,<-hL] at hnf hN hlen |-
 rw [<-hD] at hDl
 rw [<-hL] at hLl
 unfold RetForm at hnf
 rw [hDl,hLl] at hnf
 obtain ⟨n,hn⟩:∃n,n=m.length:=⟨_,rfl⟩
 rw [<-hn] at hnf hN hDl hLl h2 h8 hlen |-
 obtain ⟨dn,hdn⟩:∃dn,dn=vD D n:=⟨_,rfl⟩
 have e1:=hN.d1 n (by omega)
 have e2:=hN.d2 n (by omega)
 rw [<-hdn] at e1 e2 hlen |-
 have hm1:0<=dn*bound:=Int.mul_nonneg (by omega) (by omega)
 have hm2:dn*bound<=65535*1073741823:=Int.mul_le_mul (by omega) (by omega) (by omega) (by omega)
 have hlev:LevOK D n bound (n-1) (dn*bound) []:=⟨by omega,hm1,by rw [show n-1+1=n by omega,hdn];exact Int.le_refl _,by simp,by simp [absSum]⟩
 obtain ⟨rest,hrest⟩:∃rest,dn*bound=rest:=⟨_,rfl⟩
 rw [hrest] at hm1 hm2 hlev hlen |-
 have hdi:D[n]? =some dn:=by rw [hdn];unfold vD;simp [show n<D.length by omega]
 have HNF:=Lib.hid hnf
 have HDL:=Lib.hid hDl
 have HLEV:=Lib.hid hlev
 have HLEN:=Lib.hid hlen
 have HDI:=Lib.hid hdi
 have hne:((n:Int)==1)=false:=by simp;omega
 have hmk:=run_make_any (P:=Tryz.prog) Tryz.underlying35 infoI64 (by omega) (n:Int) (by omega) (by omega)
 clear hnf hD hL hn hDl hLl hlev hdi hdn hlen hf h64
 go_enter Tryz.func77,Tryz.ntmps77
 go_wp2_with (go_at_call 138;refine (HNF.out _ inferInstance).mono ?_;clear HNF;rintro e w1 ⟨mA,mc,lA,lc,rfl,hD,hL,d1,d2,d3,d4,hs1⟩)
 have heb:w.heap.size<w1.heap.size:=by have :=hs1.size;simp at this;omega
 have hec:w1.cell? ⟨w.heap.size,0,none⟩=some (.bool exact):=box1c w _ _ 4
 obtain ⟨hX,hM⟩:=SMem.start (mA:=mA) (lA:=lA) (mc:=mc) (lc:=lc) (n:=n) (by omega) heb hec
 generalize (((((w1.alloc (.cells #[.slice mA (n+1) mc,.slice lA n lc] 204)).alloc (.cells (mkCells #[.int .i64 0] n) 2)).alloc (.cells #[.slice (some ⟨w1.heap.size+1,0,none⟩) n n] 35)).alloc (.cells #[.slice none 0 0] 25)).alloc (.cells #[.func (.func 139) #[] #[.pointer (some ⟨w1.heap.size,0,none⟩),.pointer (some ⟨w1.heap.size+1+1,0,none⟩),.pointer (some ⟨w1.heap.size+1+1+1+1,0,none⟩),.pointer (some ⟨w.heap.size,0,none⟩),.pointer (some ⟨w1.heap.size+1+1+1,0,none⟩)]] 206))=W at hX hM |-
 obtain ⟨f1,f2,f3,f4,f5⟩:=box_cells2 hM.fb
 have sb1:W.cell? ⟨w1.heap.size+1+1+1+1,0,none⟩=some (.func (.func 139) #[] #[.pointer (some ⟨w1.heap.size,0,none⟩),.pointer (some ⟨w1.heap.size+1+1,0,none⟩),.pointer (some ⟨w1.heap.size+1+1+1+1,0,none⟩),.pointer (some ⟨w.heap.size,0,none⟩),.pointer (some ⟨w1.heap.size+1+1+1,0,none⟩)]):=by
  have :W.cell? ⟨w1.heap.size+4,0,none⟩=some (.func (.func 139) #[] (sCaps w1.heap.size w.heap.size)):=by simp [World.cell?,hM.sb]
  exact this
 obtain ⟨bm,om,-,rfl,-⟩:=hD.at_ (i:=n) (by have :=HDL.out;omega)
 obtain ⟨m3,m4⟩:=ints_cell (hD.ext hM.ext) HDI.out
 have hcall:=fun (W':World) hX' hM'=>search_any (exact:=exact) (eb:=w.heap.size) hD hL d1 d2 d3 d4 hN (n-1) rest true [] W' none 0 [] [] HLEV.out (fun _=>rfl) hX' hM' (by rw [List.nil_append];exact HLEN.out)
 rw [show ((n-1:Nat):Int)=(n:Int)-1 by omega,List.nil_append] at hcall
 unfold sCaps at hcall
 simp only [List.append_toArray,List.cons_append,List.nil_append] at hcall
 have HC:=Lib.hid hcall
 have hfn:=isFn_search
 unfold IsFn at hfn
 have HX:=Lib.hid hX
 have HM:=Lib.hid hM
 have w1e:IntKind.i64.wrap ((n:Int)-1)=(n:Int)-1:=IntWalk.i64_in _ (by omega)
 have w2e:IntKind.i64.wrap rest=rest:=IntWalk.i64_in _ (by omega)
 clear hcall hX hM
 go_region_with (refine (HC.out _ HX.out.drew HM.out.drew).mono ?_;rintro e W3 ⟨rfl,hX4,lB4,c4,vs4,hM4⟩)
 all_goals (
  have lb4:W3.cell? ⟨w1.heap.size+1+1+1,0,none⟩=some (.slice lB4 (searchL D L exact (n-1) rest true []).length c4):=by
   have :W3.cell? ⟨w1.heap.size+3,0,none⟩=some (.slice lB4 (searchL D L exact (n-1) rest true []).length c4):=by simp [World.cell?,hM4.lb]
   exact this
  have hlt4:w1.heap.size+1+1+1<W3.heap.size:=by have :=hM4.sz;omega
  have hfin:RetMatL w (searchL D L exact (n-1) rest true []) (.returned (.slice lB4 (searchL D L exact (n-1) rest true []).length c4)) W3:=by
   have hc:=hM4.ls.own.cap
   have hxw:Ext w w1:=inferInstance
   exact ⟨lB4,c4,rfl,hM4.ls.mat,hc.1,hc.2,(hxw.trans hM4.ext).toStep⟩
  have HF:=Lib.hid hfin
  clear hfin hM4 hX4
  generalize (searchL D L exact (n-1) rest true []).length=ln at lb4 HF |-
  go_wp2
  go_ret
  exact HF.out)
theorem collect_any {w0 w:World} {A:Option Addr} {c:Nat} {m:List (List Int)} {bound:Int} {exact:Bool} (h:MatA w0 A m) (hf:FormOK m) (h64:St64 m) (hb0:0<=bound) (hb1:1<m.length->bound<1073741824) (hr:m.length=1->isq (bound / ent m 0 0).toNat<=1048576) (hlen:(collL m bound exact).length<=1073741824) [hx:Ext w0 w]:
  Calls Tryz.prog 77 #[.slice A m.length c,.int .i64 bound,.bool exact] w (RetMatL w (collL m bound exact)):=by
 have h1:=hf.len1
 by_cases hm:m.length=1
 ·have hN:=hf.num 0 (by omega) (by omega)
  have d1:=hN.d1 1 (by omega)
  have d2:=hN.d2 1 (by omega)
  have e:vD (minorsTo m m.length) 1=ent m 0 0:=by rw [hm];simp [vD,minorsTo,stAt]
  rw [e] at d1 d2
  exact collect_one h hm (by have :=hf.all;rwa [hm] at this) d1 d2 hb0 (hr hm)
 ·have e:collL m bound exact=searchL (minorsTo m m.length) (lamTo m m.length) exact (m.length-1) (vD (minorsTo m m.length) m.length*bound) true []:=by rw [collL,if_neg hm]
  rw [e] at hlen |-
  exact collect_many h (by omega) hf h64 hb0 (hb1 (by omega)) hlen
def lastOf (st:List Int):Int:=st.getD (st.length-1) 0
theorem pairs_any {w0 w:World} {A:Option Addr} {c:Nat} {st:List Int} (h:Ints w0 A 3 .i64 st) (h1:1<=st.length) (h2:st.length<=1099511627776) (l1:1<=lastOf st) (l2:lastOf st<=1099511627776) [hx:Ext w0 w]:
  Calls Tryz.prog 75 #[.slice A st.length c] w (RetSame w (.int .i64 ((lastOf st-1) / 2))):=by
 obtain ⟨b,o,x,rfl,hx',g1,g2⟩:=(h.ext hx).at_ (i:=st.length-1) (by omega)
 have he:lastOf st=x:=by unfold lastOf;simp [hx']
 rw [he] at l1 l2 |-
 obtain ⟨n,hn⟩:∃n,st.length=n+1:=⟨st.length-1,by omega⟩
 rw [hn] at h2 g1 |-
 simp only [Nat.add_sub_cancel] at g1
 clear hn he hx' h h1
 go_enter Tryz.func75,Tryz.ntmps75
 go_wp2
 go_ret
 exact ⟨rfl,rfl⟩
structure EnumOK (m:List (List Int)) (bound:Int) (exact:Bool):Prop where
 form:FormOK m
 s64:St64 m
 red:RedM m
 b0:0<=bound
 b1:1<m.length->bound<1073741824
 one:m.length=1->isq (bound / ent m 0 0).toNat<=1048576
 len:(collL m bound exact).length<=1073741824
 vec:∀x∈collL m bound exact,VecOK m x
 nd:((collL m bound exact).map canonL).Nodup
def RetVecs (w:World) (m ls:List (List Int)) (total:Int) (e:Ending) (w':World):Prop:=∃A c L,e= .returned (.tuple #[.slice A (List.length L) c,.int .i64 total,.int .i64 0])/\Mat64 w' A L/\L.length<=c/\c<=9223372036854775807/\L.Perm (ls.map canonL)/\L.Pairwise (fun x y=>cmpK (nrm m x) (nrm m y) x y<0)/\Step w w'
theorem Vectors_big {w0 w:World} {A:Option Addr} {c:Nat} {m:List (List Int)} {bound budget:Int} {st:List Int} (h:MatA w0 A m) (hlen:m.length<=1099511627776) (hc:m.length<=c) (hc2:c<=9223372036854775807) (hf:isRedB m=true->FormOK m) (hs:stepsSpec m bound budget=(st,0)) (h1:1<=st.length) (h2:st.length<=1099511627776) (l1:1<=lastOf st) (l2:lastOf st<=1099511627776) (hbig:4096<(lastOf st-1) / 2) [hx:Ext w0 w]:
  Calls Tryz.prog 34 #[.slice A m.length c,.int .i64 bound,.int .i64 budget] w (RetVal w (.tuple #[.slice none 0 0,.int .i64 0,.int .i64 7])):=by
 have hst:=fun W (hh:Ext w0 W)=>Steps_any (w:=W) (bound:=bound) (budget:=budget) h hlen hc hc2 hf
 rw [hs] at hst
 have HST:=Lib.hid hst
 have hpa:=fun W A' c' (hI:Ints W A' 3 .i64 st)=>pairs_any (w:=W) (c:=c') hI h1 h2 l1 l2
 have HP:=Lib.hid hpa
 obtain ⟨q,hq⟩:∃q,(lastOf st-1) / 2=q:=⟨_,rfl⟩
 rw [hq] at HP hbig
 have hb':decide (4096<q)=true:=by simpa using hbig
 clear hst hpa hs hq hf
 go_enter Tryz.func34,Tryz.ntmps34
 go_wp2_with (first
  |(go_at_call 74;refine (HST.out _ inferInstance).mono ?_;rintro e w1 ⟨A1,c1,rfl,hI,k1,k2,hs1⟩)
  |(go_at_call 75;refine (HP.out _ _ _ hI).mono ?_;rintro e w2 ⟨rfl,rfl⟩))
 go_ret3
 exact ⟨rfl,Step.of _ _⟩
theorem sum_take_succ (l:List Int) (k:Nat) (x:Int) (h:l[k]? =some x):(l.take (k+1)).sum=(l.take k).sum+x:=by
 rw [List.take_add_one,h];simp
theorem sum_take_bound (l:List Int) (hb:∀x∈l,0<=x/\x<=1099511627776) (k:Nat):0<=(l.take k).sum/\(l.take k).sum<=k*1099511627776:=by
 induction k with
 |zero=>simp
 |succ k ih=>
  cases h:l[k]? with
  |none=>rw [List.take_add_one,h];simp;omega
  |some x=>
   rw [sum_take_succ l k x h]
   have :=hb x (List.mem_of_getElem? h)
   omega
theorem Vectors_ok {w0 w:World} {A:Option Addr} {c:Nat} {m:List (List Int)} {bound budget:Int} {st:List Int} (h:MatA w0 A m) (hc:m.length<=c) (hc2:c<=9223372036854775807) (hok:EnumOK m bound false) (hs:stepsSpec m bound budget=(st,0)) (h1:1<=st.length) (h2:st.length<=8) (l1:1<=lastOf st) (hb:∀x∈st,0<=x/\x<=1099511627776) (hsm:(lastOf st-1) / 2<=4096) [hx:Ext w0 w]:
  Calls Tryz.prog 34 #[.slice A m.length c,.int .i64 bound,.int .i64 budget] w (RetVecs w m (collL m bound false) st.sum):=by
 have hn8:=hok.red.n8
 have l2:lastOf st<=1099511627776:=by omega
 have hst:=fun W (hh:Ext w0 W)=>Steps_any (w:=W) (bound:=bound) (budget:=budget) h (by omega) hc hc2 (fun _=>hok.form)
 rw [hs] at hst
 have HST:=Lib.hid hst
 have hpa:=fun W A' c' (hI:Ints W A' 3 .i64 st)=>pairs_any (w:=W) (c:=c') hI h1 (by omega) l1 l2
 have HP:=Lib.hid hpa
 obtain ⟨q,hq⟩:∃q,(lastOf st-1) / 2=q:=⟨_,rfl⟩
 rw [hq] at HP hsm
 have hb':decide (4096<q)=false:=by simp;omega
 have hco:=fun W (hh:Ext w0 W)=>collect_any (w:=W) (c:=c) h hok.form hok.s64 hok.b0 hok.b1 hok.one hok.len
 have HCO:=Lib.hid hco
 have hso:=fun W X d (hh:Ext w0 W) (hX:Mat64 W X (collL m bound false))=>SortUnique_ok (w0:=W) (w:=W) (c:=c) (d:=d) (h.ext hh) hc hc2 hX hok.len hok.red hok.vec hok.nd
 have HSO:=Lib.hid hso
 obtain ⟨ls,hls⟩:∃ls,collL m bound false=ls:=⟨_,rfl⟩
 rw [hls] at HCO HSO |-
 have HB:=Lib.hid hb
 clear hst hpa hs hq hco hso hls hok hb
 go_enter Tryz.func34,Tryz.ntmps34
 go_wp2_with (first
  |(go_at_call 74;refine (HST.out _ inferInstance).mono ?_;rintro e w1 ⟨A1,c1,rfl,hI,k1,k2,hs1⟩)
  |(go_at_call 75;refine (HP.out _ _ _ hI).mono ?_;rintro e w2 ⟨rfl,rfl⟩))
 go_loop [11,13,31] (fun s _ i=>∃k:Nat,k<=st.length/\i= .int .i64 k/\s= .int .i64 (st.take k).sum) (fun _ _ i=>st.length-(intOf i).toNat)
 case atStart=>exact ⟨0,by omega,rfl,by simp⟩
 case round=>
  obtain ⟨k,hk,rfl,rfl⟩:=hrel
  have hbd:=sum_take_bound st HB.out k
  by_cases hlt:k<st.length
  ·obtain ⟨b,o,x,rfl,hx',g1,g2⟩:=hI.at_ hlt
   have hxb:=HB.out x (List.mem_of_getElem? hx')
   have HS:=Lib.hid (sum_take_succ st k x hx')
   obtain ⟨s,hs⟩:∃s,s=(st.take k).sum:=⟨_,rfl⟩
   rw [<-hs] at hbd HS |-
   have b1:s<=8*1099511627776:=by omega
   obtain ⟨b0,-⟩:=hbd
   obtain ⟨x0,x1⟩:=hxb
   clear hs hx'
   go_wp2
   exact ⟨⟨k+1,by omega,by go_num,by rw [HS.out]⟩,by simp [intOf];omega⟩
  ·have htk:st.take k=st:=List.take_of_length_le (by omega)
   rw [htk] at hbd |-
   obtain ⟨s,hs⟩:∃s,s=st.sum:=⟨_,rfl⟩
   have hsb:0<=s/\s<=8*1099511627776:=by rw [hs];omega
   rw [<-hs]
   have HS:=Lib.hid hs
   clear hs htk hbd
   go_wp2_with (first
    |(go_at_call 77;refine (HCO.out _ inferInstance).mono ?_;rintro e w3 ⟨A3,c3,rfl,hM3,k3,k4,hs3⟩)
    |(go_at_call 76;refine (HSO.out _ _ _ inferInstance hM3).mono ?_;rintro e w4 ⟨A4,c4,L,rfl,hM4,k5,k6,hp,hw,hs4⟩))
   go_ret3
   exact ⟨A4,c4,L,by rw [<-HS.out];rfl,hM4,k5,k6,hp,hw,Step.of _ _⟩
def m1:List (List Int):=[[1]]
def m2:List (List Int):=[[2,1],[1,2]]
/-! ## The form (1) -/
/-! ## The form of example 1 -/
theorem mat22 (w:World) (a b c d:Int):Mat64 (((w.alloc (.cells #[.int .i64 a,.int .i64 b] 2)).alloc (.cells #[.int .i64 c,.int .i64 d] 2)).alloc (.cells #[.slice (some ⟨w.heap.size,0,none⟩) 2 2,.slice (some ⟨w.heap.size+1,0,none⟩) 2 2] 35)) (some ⟨w.heap.size+1+1,0,none⟩) [[a,b],[c,d]]:=by
 have h1:Ints (w.alloc (.cells #[.int .i64 a,.int .i64 b] 2)) (some ⟨w.heap.size,0,none⟩) 2 .i64 [a,b]:=Arr.new w 2 #[.int .i64 a,.int .i64 b]
 have h2:Ints ((w.alloc (.cells #[.int .i64 a,.int .i64 b] 2)).alloc (.cells #[.int .i64 c,.int .i64 d] 2)) (some ⟨w.heap.size+1,0,none⟩) 2 .i64 [c,d]:=by
  have :=Arr.new (w.alloc (.cells #[.int .i64 a,.int .i64 b] 2)) 2 #[.int .i64 c,.int .i64 d]
  rwa [World.size_alloc] at this
 have h3:=Arr.new ((w.alloc (.cells #[.int .i64 a,.int .i64 b] 2)).alloc (.cells #[.int .i64 c,.int .i64 d] 2)) 35 #[.slice (some ⟨w.heap.size,0,none⟩) 2 2,.slice (some ⟨w.heap.size+1,0,none⟩) 2 2]
 rw [World.size_alloc,World.size_alloc] at h3
 refine ⟨_,rfl,h3,fun i r hr=>?_⟩
 match i with
 |0=>obtain rfl:[a,b]=r:=by simpa using hr
     exact ⟨_,2,rfl,h1.ext inferInstance,by simp,by omega⟩
 |1=>obtain rfl:[c,d]=r:=by simpa using hr
     exact ⟨_,2,rfl,h2.ext inferInstance,by simp,by omega⟩
 |i+2=>simp at hr
end Go.Proofs.YtpcgfpmiphiacaaGreat
