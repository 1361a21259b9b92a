/- R11e R11f R11g RefK Big1 Cb1 -/
import Derived.Test.YtijfjailmilkfaaGreatG22
import Derived.Test.YtijfjailmilkfaaGreatProg
import Derived.Test.YtijfjailmilkfaaGreatShelf
set_option maxHeartbeats 8000000
set_option linter.unusedVariables false
set_option linter.unusedSimpArgs false
set_option linter.constructorNameAsVariable false
namespace Go.Proofs.YtijfjailmilkfaaGreat
open Go.RowKit
open La
def ItRel (w w3:World) (m xs:List (List Int)) (N:Nat) (s5 i:Value) (wr:World):Prop:=∃(k:Nat) (A5:Option Addr) (c5:Nat) (vs:List Value),k<=N/\i= .int .i64 k/\s5= .slice A5 (itemsL m (xs.take k)).length c5/\Hid (Own wr w.heap.size 53 2 A5 (itemsL m (xs.take k)).length c5 vs)/\Hid (ItV wr vs (itemsL m (xs.take k)))/\Ext w3 wr
def VcRel (w:World) (its:List (Int×List Int)) (N:Nat) (s3 i:Value) (wr:World):Prop:=∃(k:Nat) (B:Option Addr) (d:Nat) (vs:List Value),k<=N/\i= .int .i64 k/\s3= .slice B k d/\Hid (MOwn wr w.heap.size B k d ((its.take k).map Prod.snd) vs)/\Ext w wr
set_option maxRecDepth 20000 in
theorem rVec9_ok {w0 w:World} {A:Option Addr} {c:Nat} {us:List Value} {its:List (Int×List Int)} (hA':Arr w0 A 53 us) (hV':ItV w0 us its) (hl:its.length<=1000000) [hx:Ext w0 w]:
  Calls Tryz.prog 74 #[.slice A its.length c] w (RetMatL w (its.map Prod.snd)):=by
 have HA:=Lib.hid (hA'.ext hx)
 have HV:=Lib.hid (hV'.ext hx)
 obtain ⟨N,hN⟩:∃N,N=its.length:=⟨_,rfl⟩
 have HN:=Lib.hid hN
 rw [<-hN] at hl |-
 clear hA' hV' hN
 unfold RetMatL
 go_enter Tryz.func74,Tryz.ntmps74
 go_wp2
 go_loopw [3,8] (fun s3 i wr=>VcRel w its N s3 i wr) (fun _ i _=>N-(intOf i).toNat)
 case atStart=>exact ⟨0,none,0,[],by omega,rfl,rfl,Lib.hid (MOwn.nil _ _),inferInstance⟩
 case round=>
  unfold VcRel at hrel
  obtain ⟨k,B,d,vs,hk,rfl,rfl,HM,hxr⟩:=hrel
  by_cases hlt:k<N
  ·obtain ⟨p,hp⟩:∃p,its[k]? =some p:=⟨_,List.getElem?_eq_getElem (by rw [<-HN.out];exact hlt)⟩
   obtain ⟨xa,x⟩:=p
   obtain ⟨X,cx,a1,a2,a3,a4,a5⟩:=HV.out.2 k _ hp
   obtain ⟨b,o,rfl,z1,z3⟩:=HA.out.at_ a1
   obtain ⟨b',o',hA',z2,-⟩:=HA.out.at_ a2
   injection hA' with hA'
   injection hA' with y1 y2
   subst y1 y2
   rw [<-Nat.add_assoc] at z2
   simp only at a3 a4 z1 z2
   have oB:Old b w:=⟨z3⟩
   have hc1:wr.cell? ⟨b,o+k*2,none⟩=some (.int .i64 xa):=(cellE w).trans z1
   have hc2:wr.cell? ⟨b,o+k*2+1,none⟩=some (.slice X x.length cx):=(cellE w).trans z2
   have HX:=Lib.hid a3
   have HTK:Hid ((its.take (k+1)).map Prod.snd=(its.take k).map Prod.snd++[x]):=Lib.hid (by rw [List.take_add_one,hp];simp)
   obtain ⟨xl,hxl⟩:∃xl,xl=x.length:=⟨_,rfl⟩
   have HXL:=Lib.hid hxl
   rw [<-hxl] at hc2 a4
   clear a1 a2 a3 z1 z2 hp hxl
   have hsrc:Arr ((wr.alloc (.cells #[.int .i64 xa,.slice X xl cx] 53)).alloc (.cells #[.slice X xl cx] 35)) (some ⟨wr.heap.size+1,0,none⟩) 35 [.slice X xl cx]:=by
    have :=Arr.new (wr.alloc (.cells #[.int .i64 xa,.slice X xl cx] 53)) 35 #[.slice X xl cx]
    rwa [World.size_alloc] at this
   go_wp2_with (at_builtin;refine wpList_app _ rfl _ _ 22 rfl w.heap.size 35 (.slice none 0 0) 1 24 Tryz.underlying22 infoSlI64 rfl (by omega) (by omega) B k d vs rfl (HM.out.own.ext inferInstance) _ 1 1 [.slice X xl cx] rfl hsrc (by simp) (by simp [Value.oneCell']) (by omega) (by have :=hxr.size;simp;omega) ?_;intro A4 d4 w4 hown4 hg4)
   have hx4:Ext w w4:=hg4.ext (hxr.trans inferInstance) (Nat.le_refl _)
   refine ⟨⟨k+1,A4,d4,vs++[.slice X xl cx],by omega,by go_num,rfl,Lib.hid ?_,hx4⟩,by simp [intOf]<;>omega⟩
   rw [HTK.out]
   rw [HXL.out] at hown4 a4 |-
   exact HM.out.snoc (r:=x) inferInstance hg4 hown4 (HX.out.ext (hxr.trans inferInstance)) a4 a5
  ·obtain rfl:k=N:=by omega
   have htk:its.take k=its:=List.take_of_length_le (by rw [<-HN.out];exact Nat.le_refl _)
   rw [htk] at HM
   have HCP:=Lib.hid HM.out.own.cap
   go_wp2_with fail
   go_ret
   exact ⟨B,d,by rw [List.length_map,<-HN.out];rfl,HM.out.mat,by rw [List.length_map,<-HN.out];exact HCP.out.1,HCP.out.2,Step.of _ _⟩
theorem sum_take_le {l:List Int} (h:∀x∈l,0<=x) (k:Nat):(l.take k).sum<=l.sum:=by
 have :=List.take_append_drop k l
 have h2:(l.take k).sum+(l.drop k).sum=l.sum:=by rw [<-List.sum_append,this]
 have h3:0<=(l.drop k).sum:=by
  have :∀m:List Int,(∀x∈m,0<=x)->0<=m.sum:=fun m=>by
   induction m with
   |nil=>intro _;simp
   |cons a m ih=>intro hm;rw [List.sum_cons];have :=ih (fun x hx=>hm x (by simp [hx]));have :=hm a (by simp);omega
  exact this _ fun x hx=>h x (List.mem_of_mem_drop hx)
 omega
def SmRel (l:List Int) (N:Nat) (w:World) (s3 i:Value) (wr:World):Prop:=∃k:Nat,k<=N/\i= .int .i64 k/\s3= .int .i64 (l.take k).sum/\∃q,wr=w.drewN q
set_option maxRecDepth 20000 in
theorem rsum_ok {w0 w:World} {A:Option Addr} {c:Nat} {l:List Int} (hA:Ints w0 A 3 .i64 l) (hl:l.length<=1000000) (h0:∀x∈l,0<=x) (hs:l.sum<=1000000000) [hx:Ext w0 w]:
  Calls Tryz.prog 75 #[.slice A l.length c] w (RetVal w (.int .i64 l.sum)):=by
 have HA:=Lib.hid (hA.ext hx)
 obtain ⟨N,hN⟩:∃N,N=l.length:=⟨_,rfl⟩
 have HN:=Lib.hid hN
 have H0:=Lib.hid (fun k=>sum_take_le h0 k)
 have H1:Hid (∀k,0<=(l.take k).sum):=Lib.hid (fun k=>by
  have :=sum_take_le (l:=l.take k) (fun x hx=>h0 x (List.mem_of_mem_take hx)) 0
  simpa using this)
 rw [<-hN] at hl |-
 clear hA hN
 unfold RetVal
 go_enter Tryz.func75,Tryz.ntmps75
 go_wp2
 go_loopw [3,8] (fun s3 i wr=>SmRel l N w s3 i wr) (fun _ i _=>N-(intOf i).toNat)
 case atStart=>exact ⟨0,by omega,rfl,rfl,0,rfl⟩
 case round=>
  unfold SmRel at hrel
  obtain ⟨k,hk,rfl,rfl,q,rfl⟩:=hrel
  by_cases hlt:k<N
  ·obtain ⟨x,hp⟩:∃x,l[k]? =some x:=⟨_,List.getElem?_eq_getElem (by rw [<-HN.out];exact hlt)⟩
   obtain ⟨b,o,-,rfl,-⟩:=HA.out.at_ (by rw [<-HN.out];omega)
   have hc:=(ints_cell HA.out hp).1
   have HTK:=Lib.hid (sum_take_succ l k x hp)
   have hx1:IntKind.i64.wrap ((l.take k).sum+x)=(l.take (k+1)).sum:=by
    rw [<-HTK.out]
    have a1:=H0.out (k+1)
    have a2:=H1.out (k+1)
    exact IntWalk.i64_in _ (by omega)
   clear hp
   go_wp2_with fail
   exact ⟨⟨k+1,by omega,by go_num,by first |rfl |simpa using hx1,_,rfl⟩,by simp [intOf]<;>omega⟩
  ·obtain rfl:k=N:=by omega
   have htk:(l.take k).sum=l.sum:=by rw [List.take_of_length_le (by rw [<-HN.out];exact Nat.le_refl _)]
   rw [htk]
   go_wp2_with fail
   go_ret
   exact ⟨rfl,Step.of _ _⟩
def RetV10 (w:World) (m:List (List Int)) (bound budget:Int) (e:Ending) (w':World):Prop:=
 (totS m bound<=budget/\∃B d L,e= .returned (.tuple #[.slice B (List.length L) d,.int .i64 (totS m bound),.int .i64 0])/\Mat64 w' B L/\L.length<=d/\d<=9223372036854775807/\VecList m bound false L/\Step w w')∨(budget<totS m bound/\e= .returned (.tuple #[.slice none 0 0,.int .i64 0,.int .i64 9])/\Step w w')
def shl (b:Int) (its:List (Int×List Int)):List (List Int):=(its.filter fun p=>p.1==b).map Prod.snd
theorem shl_snoc (b:Int) (its:List (Int×List Int)) (p:Int×List Int):shl b (its++[p])=if p.1==b then shl b its++[p.2] else shl b its:=by
 unfold shl
 rw [List.filter_append,List.map_append]
 by_cases h:(p.1==b)=true<;>simp [h]
theorem shl_len (b:Int) (its:List (Int×List Int)):(shl b its).length<=its.length:=by
 unfold shl
 rw [List.length_map]
 exact List.length_filter_le _ _
theorem shl_vecList {m:List (List Int)} {b:Int} {its:List (Int×List Int)} (h:VecList m b false (its.map Prod.snd)) (h2:its=(its.map Prod.snd).map fun x=>(nrm m x,x)):VecList m b true (shl b its):=by
 have he:shl b its=(its.map Prod.snd).filter fun x=>nrm m x==b:=by
  unfold shl
  conv=>lhs;rw [h2]
  rw [List.filter_map,List.map_map]
  exact List.map_id _
 rw [he]
 refine ⟨h.1.filter _,fun x=>?_⟩
 rw [List.mem_filter,h.2]
 simp [and_assoc]
def ShRel (w0 w:World) (b:Int) (its:List (Int×List Int)) (N:Nat) (s10 i:Value) (wr:World):Prop:=∃(k:Nat) (B:Option Addr) (d:Nat) (vs:List Value),k<=N/\i= .int .i64 k/\s10= .slice B (shl b (its.take k)).length d/\Hid (MOwn wr w.heap.size B (shl b (its.take k)).length d (shl b (its.take k)) vs)/\Ext w0 wr
def RetSh10 (w:World) (m:List (List Int)) (bound budget:Int) (e:Ending) (w':World):Prop:=
 (totS m bound<=budget/\∃B d L,e= .returned (.tuple #[.slice B (List.length L) d,.int .i64 0])/\Mat64 w' B L/\L.length<=d/\d<=9223372036854775807/\VecList m bound true L/\Step w w')∨(budget<totS m bound/\e= .returned (.tuple #[.slice none 0 0,.int .i64 9])/\Step w w')
theorem LLLed.of_red {m:List (List Int)} (h:isRedB m=true):LLLed m:=by
 have hr:=red_ok h
 have hl:=isSmallB_len hr.small
 have hsm:=of_decide_eq_true hr.small
 have hall:=isSmallB_all hr.small
 have hsym:∀i j,i<m.length->j<m.length->ent m i j=ent m j i:=fun i j hi hj=>(hsm.2.2.2 i hi j hj).1
 refine ⟨hl.1,hl.2,hall,hsym,hr.pos,fun r hrr j hj=>?_,fun p hp=>(Lov_iff (sym_of hall hsym) (hr.pos.le (by omega))).2 (hr.lov p hp),hr.det1⟩
 refine (Szd_iff (hr.pos.le (by omega)) r).2 ?_
 have hs:=(of_decide_eq_true (hr.short j (by omega))).2.2 (r-j) (by rw [stAt_length];omega) (by omega)
 rw [st_ent (i:=r-j) (j:=0) (by omega) (by omega),st_ent (i:=0) (j:=0) (by omega) (by omega)] at hs
 simp only [Nat.add_zero] at hs
 rw [show j+(r-j)=r by omega] at hs
 omega
theorem red_iff {m:List (List Int)}:isRedB m=true↔LLLed m:=⟨LLLed.of_red,LLLed.red⟩
def ShpB (m:List (List Int)):Prop:=1<=m.length/\m.length<=16/\∀r∈m,1<=r.length/\r.length<=16/\r.length=(m.getD 0 []).length
theorem rFromInts_bad {w0 w:World} {A:Option Addr} {c:Nat} {m:List (List Int)} (h:MatA w0 A m) (hlen:m.length<=1099511627776) (hrl:∀r∈m,r.length<=9223372036854775807) (hbad:¬ShpB m) [hx:Ext w0 w]:
  Calls Tryz.prog 89 #[.slice A m.length c] w (RetVal w (.tuple #[.slice none 0 0,.bool false])):=by
 have h0:=h.ext hx
 by_cases h1:m.length<1
 ·have hd1:decide ((m.length:Int)<1)=true:=by simp;omega
  clear hbad hrl
  go_enter Tryz.func89,Tryz.ntmps89
  go_wp2
  go_ret2
  exact ⟨rfl,Step.of _ _⟩
 by_cases h2:16<m.length
 ·have hd1:decide ((m.length:Int)<1)=false:=by simp;omega
  have hd2:decide ((16:Int)<(m.length:Int))=true:=by simp;omega
  clear hbad hrl
  go_enter Tryz.func89,Tryz.ntmps89
  go_wp2
  go_ret2
  exact ⟨rfl,Step.of _ _⟩
 have hd1:decide ((m.length:Int)<1)=false:=by simp;omega
 have hd2:decide ((16:Int)<(m.length:Int))=false:=by simp;omega
 obtain ⟨b,o,B,c0,rfl,hc0,-,-,-,hb⟩:=h0.at_ (i:=0) (r:=m[0]) (by simp)
 simp only [Nat.add_zero] at hc0
 obtain ⟨n0,hn0⟩:∃n0,m[0].length=n0:=⟨_,rfl⟩
 rw [hn0] at hc0
 have e0:(m.getD 0 []).length=n0:=by rw [<-hn0];simp [List.getD,(by omega:0<m.length)]
 have HB:Hid (¬∀r∈m,1<=r.length/\r.length<=16/\r.length=n0):=Lib.hid (fun hh=>hbad ⟨by omega,by omega,fun r hr=>by rw [e0];exact hh r hr⟩)
 have HL:=Lib.hid hrl
 clear hbad hrl hn0 e0
 go_enter Tryz.func89,Tryz.ntmps89
 go_wp2
 go_loop [5,19] (fun _ i=>∃k:Nat,k<=m.length/\i= .int .i64 k/\Hid (∀r∈m.take k,1<=r.length/\r.length<=16/\r.length=n0)) (fun _ i=>m.length-(intOf i).toNat)
 case atStart=>exact ⟨0,by omega,rfl,Lib.hid (fun r hr=>by simp at hr)⟩
 case round=>
  obtain ⟨k,hk,rfl,HT⟩:=hrel
  by_cases hlt:k<m.length
  ·obtain ⟨b',o',B',c',hh,hc,-,-,-,-⟩:=h0.at_ (i:=k) (r:=m[k]) (by simp [hlt])
   injection hh with hh
   injection hh with e1 e2
   subst e1 e2
   have hql:=HL.out m[k] (List.getElem_mem _)
   have HTK:Hid (m.take (k+1)=m.take k++[m[k]]):=Lib.hid (by rw [List.take_add_one,List.getElem?_eq_getElem hlt];rfl)
   obtain ⟨q,hq⟩:∃q,m[k].length=q:=⟨_,rfl⟩
   rw [hq] at hc hql
   have HQ:=Lib.hid hq
   clear hq
   by_cases g1:q<1
   ·have f1:decide ((q:Int)<1)=true:=by simp;omega
    go_wp2
    go_ret2
    exact ⟨rfl,Step.of _ _⟩
   have f1:decide ((q:Int)<1)=false:=by simp;omega
   by_cases g2:16<q
   ·have f2:decide ((16:Int)<(q:Int))=true:=by simp;omega
    go_wp2
    go_ret2
    exact ⟨rfl,Step.of _ _⟩
   have f2:decide ((16:Int)<(q:Int))=false:=by simp;omega
   by_cases g3:q=n0
   ·subst g3
    have HT2:Hid (∀r∈m.take (k+1),1<=r.length/\r.length<=16/\r.length=q):=Lib.hid (fun r hr=>by
     rw [HTK.out] at hr
     rcases List.mem_append.1 hr with hr |hr
     ·exact HT.out r hr
     ·obtain rfl:=List.mem_singleton.1 hr
      rw [HQ.out];omega)
    go_wp2
    exact ⟨⟨k+1,by omega,by go_num,HT2⟩,by simp [intOf]<;>omega⟩
   ·have f3:((q:Int)==(n0:Int))=false:=by simp;omega
    have f4:((q:Int) !=(n0:Int))=true:=by simp;omega
    go_wp2
    go_ret2
    exact ⟨rfl,Step.of _ _⟩
  ·obtain rfl:k=m.length:=by omega
   exact absurd (by have :=HT.out;rwa [List.take_length] at this) HB.out
theorem ShpB.all {m:List (List Int)} (h:ShpB m):AllLen m (m.getD 0 []).length:=fun r hr=>(h.2.2 r hr).2.2
theorem ShpB.first {m:List (List Int)} (h:ShpB m):1<=(m.getD 0 []).length/\(m.getD 0 []).length<=16:=by
 have h0:m.getD 0 []=m[0]'(by have :=h.1;omega):=by simp [List.getD,(by have :=h.1;omega:0<m.length)]
 rw [h0]
 have :=h.2.2 _ (List.getElem_mem (by have :=h.1;omega:0<m.length))
 exact ⟨this.1,this.2.1⟩
theorem LLLed.shp {m:List (List Int)} (h:LLLed m):ShpB m:=by
 have h1:=h.len1
 have h8:=h.len8
 have h0:(m.getD 0 []).length=m.length:=by
  have :m.getD 0 []=m[0]:=by simp [List.getD,(by omega:0<m.length)]
  rw [this];exact h.all _ (List.getElem_mem _)
 exact ⟨h1,by omega,fun r hr=>by have :=h.all r hr;rw [h0,this];omega⟩
theorem lll_iff {m:List (List Int)} (h1:1<=m.length) (h8:m.length<=8) (ha:AllLen m m.length):LLLed m↔ValM m/\detF m<=10000/\(∀r,r<m.length->Full (ofZ (ent m)) r)/\∀p,p+1<m.length->Lov (ofZ (ent m)) p:=by
 constructor
 ·intro h
  exact ⟨h.val,h.detF,h.full,h.lov⟩
 ·rintro ⟨h2,h3,h4,h5⟩
  have hp:Pos (ofZ (ent m)) m.length:=lead_pos.1 h2.2
  refine ⟨h1,h8,ha,fun i j hi hj=>?_,hp,h4,h5,?_⟩
  ·rcases Nat.lt_trichotomy i j with h |h |h
   ·exact (h2.1 j hj i h).symm
   ·rw [h]
   ·exact h2.1 i hi j h
  ·rw [det_E h1 (fun l hl=>by have :=E_pos hp (k:=l) (by omega);omega)] at h3
   exact h3
theorem rreduced_gen {w0 w:World} {A:Option Addr} {c n b:Nat} {m:List (List Int)} (s:Bool) (hs0:s=true↔(∀r,r<n->Full (ofZ (ent m)) r)/\∀p,p+1<n->Lov (ofZ (ent m)) p) (h:MatV w0 A m) (h1:m.length=n) (h3:1<=n) (h4:n<=8) (hn:AllLen m n) (hb:BdM b m) (hb1:1<=b) (hbb:b<=1000000) (hp:Pos (ofZ (ent m)) n) (hs:Sym (ofZ (ent m))) [hx:Ext w0 w]:
  Calls Tryz.prog 189 #[.slice A n c] w (RetVal w (.bool s)):=by
 have h0:=h.ext hx
 have HLE:=Lib.hid (fun W (e1:Ext w W)=>rLeading_ok (w:=W) (c:=c) h0 h1 h3 h4 hn hb hb1 hbb)
 have HLL:Hid ((leadF m).length=n):=Lib.hid (by rw [leadF_len];exact h1)
 have HSZ:Hid (∀(W1:World) (B:Option Addr) (d i j:Nat),i<n->j<i->IntsV W1 B (leadF m)->∃t:Bool,(t=true↔Szd (ofZ (ent m)) i j)/\∀W,Ext w W->Ext W1 W->Calls Tryz.prog 148 #[.slice A n c,.slice B n d,.int .i64 i,.int .i64 j] W (RetVal W (.bool t))):=Lib.hid (fun W1 B d i j hi hj hI=>
  ⟨_,by rw [decide_eq_true_iff];exact sized_iff h1 hp (show j<n by omega),fun W e1 e2=>rSized_ok (w:=W) (c:=c) (d:=d) h0 hI h1 h4 hn hb hb1 hbb hi (show j<n by omega)⟩)
 have HLV:Hid (∀(W1:World) (B:Option Addr) (d p:Nat),p+1<n->IntsV W1 B (leadF m)->∃t:Bool,(t=true↔Lov (ofZ (ent m)) p)/\∀W,Ext w W->Ext W1 W->Calls Tryz.prog 154 #[.slice A n c,.slice B n d,.int .i64 (p+1:Nat)] W (RetVal W (.bool t))):=Lib.hid (fun W1 B d p hi hI=>
  ⟨_,by rw [decide_eq_true_iff];exact lovasz_iff h1 hp hs hi,fun W e1 e2=>rLovasz_ok (w:=W) (c:=c) (d:=d) h0 hI h1 h4 hn hb hb1 hbb hi (by omega)⟩)
 have HS:=Lib.hid hs0
 clear hn hb hp hs h1 hs0
 go_enter Tryz.func189,Tryz.ntmps189
 go_wp2_with (go_at_call 112;refine (HLE.out _ inferInstance).mono ?_;rintro e w1 ⟨BD,dD,rfl,hI1,-,-,hs1⟩;rw [HLL.out];have HI:=Lib.hid hI1;clear hI1)
 have hxw1:Ext w w1:=inferInstance
 go_loopw [5,6,14] (fun _ _ i wr=>∃k:Nat,k<=n/\i= .int .i64 k/\Hid (∀r,r<k->Full (ofZ (ent m)) r/\∀p,p+1=r->Lov (ofZ (ent m)) p)/\Ext w1 wr) (fun _ _ i _=>n-(intOf i).toNat)
 case atStart=>exact ⟨0,by omega,rfl,Lib.hid (fun r hr=>absurd hr (by omega)),inferInstance⟩
 case round=>
  obtain ⟨k,hk,rfl,HT,hxr⟩:=hrel
  by_cases hlt:k<n
  ·go_wp2_with fail
   go_loopw [6] (fun s6 wr=>∃q:Nat,q<=k/\s6= .int .i64 q/\Hid (∀j,j<q->Szd (ofZ (ent m)) k j)/\Ext w1 wr) (fun s6 _=>k-(intOf s6).toNat)
   case atStart=>exact ⟨0,by omega,rfl,Lib.hid (fun j hj=>absurd hj (by omega)),inferInstance⟩
   case round=>
    obtain ⟨q,hq,rfl,HQ,hxq⟩:=hrel
    have hxwq:Ext w wr:=hxw1.trans hxq
    by_cases hqk:q<k
    ·obtain ⟨t,ht,hc⟩:=HSZ.out w1 BD dD k q hlt hqk HI.out
     have HSB:=Lib.hid (fun W (e1:Ext wr W)=>hc W (hxwq.trans e1) (hxq.trans e1))
     have HTT:=Lib.hid ht
     clear ht hc
     cases t
     ·have HF:Hid (s=false):=Lib.hid (by
       cases s with
       |false=>rfl
       |true=>exact absurd (HTT.out.2 ((HS.out.1 rfl).1 k hlt q hqk)) (by decide))
      go_wp2_with (go_at_call 148;refine (HSB.out _ inferInstance).mono ?_;rintro e w6 ⟨rfl,hs6⟩)
      go_ret
      exact ⟨by rw [HF.out];rfl,Step.of _ _⟩
     ·have HQ2:Hid (∀j,j<q+1->Szd (ofZ (ent m)) k j):=Lib.hid (fun j hj=>by
       rcases (by omega:j<q∨j=q) with h |rfl
       ·exact HQ.out j h
       ·exact HTT.out.1 rfl)
      go_wp2_with (go_at_call 148;refine (HSB.out _ inferInstance).mono ?_;rintro e w6 ⟨rfl,hs6⟩)
      exact ⟨⟨q+1,by omega,by go_num,HQ2,inferInstance⟩,by simp [intOf]<;>omega⟩
    ·obtain rfl:q=k:=by omega
     rcases q with _ |p
     ·have HT2:Hid (∀r,r<1->Full (ofZ (ent m)) r/\∀p,p+1=r->Lov (ofZ (ent m)) p):=Lib.hid (fun r hr=>by
       obtain rfl:r=0:=by omega
       exact ⟨fun j hj=>absurd hj (by omega),fun p hp=>absurd hp (by omega)⟩)
      go_wp2_with fail
      exact ⟨⟨1,by omega,rfl,HT2,hxq⟩,by simp [intOf]<;>omega⟩
     ·obtain ⟨t,ht,hc⟩:=HLV.out w1 BD dD p hlt HI.out
      have HLB:=Lib.hid (fun W (e1:Ext wr W)=>hc W (hxwq.trans e1) (hxq.trans e1))
      have HTT:=Lib.hid ht
      clear ht hc
      obtain ⟨k,hkp⟩:∃k,p+1=k:=⟨_,rfl⟩
      have HKP:=Lib.hid hkp
      rw [hkp] at hlt hk hqk hq HQ HLB HT |-
      have hkpos:0<k:=by omega
      clear hkp
      have hgt:decide ((0:Int)<(k:Int))=true:=by simp;omega
      have hkpos2:(0:Int)<(k:Int):=by omega
      cases t
      ·have HF:Hid (s=false):=Lib.hid (by
        cases s with
        |false=>rfl
        |true=>exact absurd (HTT.out.2 ((HS.out.1 rfl).2 p (by rw [HKP.out];exact hlt))) (by decide))
       go_wp2_with (go_at_call 154;refine (HLB.out _ inferInstance).mono ?_;rintro e w6 ⟨rfl,hs6⟩)
       go_ret
       exact ⟨by rw [HF.out];rfl,Step.of _ _⟩
      ·have HT2:Hid (∀r,r<k+1->Full (ofZ (ent m)) r/\∀p,p+1=r->Lov (ofZ (ent m)) p):=Lib.hid (fun r hr=>by
        rcases (by omega:r<k∨r=k) with h |rfl
        ·exact HT.out r h
        ·exact ⟨fun j hj=>HQ.out j hj,fun p' hp'=>by
          have :=HKP.out
          obtain rfl:p'=p:=by omega
          exact HTT.out.1 rfl⟩)
       go_wp2_with (go_at_call 154;refine (HLB.out _ inferInstance).mono ?_;rintro e w6 ⟨rfl,hs6⟩)
       exact ⟨⟨k+1,by omega,by go_num,HT2,inferInstance⟩,by have :=HKP.out;simp [intOf]<;>omega⟩
  ·have hxwr:Ext w wr:=hxw1.trans hxr
   obtain rfl:k=n:=by omega
   have HF:Hid (s=true):=Lib.hid (HS.out.2 ⟨fun r hr=>(HT.out r hr).1,fun p hp=>(HT.out (p+1) hp).2 p rfl⟩)
   go_wp2_with fail
   go_ret
   exact ⟨by rw [HF.out];rfl,⟨hxwr.below⟩⟩
theorem rSquare_bad {w0 w:World} {A:Option Addr} {c n:Nat} {m:List (List Int)} (h:MatV w0 A m) (h1:1<=m.length) (h2:m.length<=16) (h3:1<=n) (h4:n<=16) (hn:AllLen m n) (hne:m.length≠n) [hx:Ext w0 w]:
  Calls Tryz.prog 141 #[.slice A m.length c] w (RetVal w (.tuple #[.int .i64 0,.bool false])):=by
 have HSH:=Lib.hid (fun W (e:Ext w0 W)=>rShape_ok (w:=W) (c:=c) h n h1 h2 h3 h4 hn)
 have f3:((m.length:Int)==(n:Int))=false:=by simp;omega
 have f4:((m.length:Int) !=(n:Int))=true:=by simp;omega
 clear hn hne
 generalize m.length=q at*
 go_enter Tryz.func141,Tryz.ntmps141
 go_wp2_with (go_at_call 155;refine (HSH.out _ inferInstance).mono ?_;rintro e w1 ⟨rfl,hs1⟩)
 go_ret2
 exact ⟨rfl,Step.of _ _⟩
theorem rValidate_shape {w0 w:World} {A:Option Addr} {c n:Nat} {m:List (List Int)} (h:MatV w0 A m) (h1:1<=m.length) (h2:m.length<=16) (h3:1<=n) (h4:n<=16) (hn:AllLen m n) (hne:¬(m.length=n/\n<=8)) [hx:Ext w0 w]:
  Calls Tryz.prog 81 #[.slice A m.length c] w (fun e w'=>∃v:Int,e= .returned (.int .i64 v)/\(v==0)=false/\Step w w'):=by
 by_cases he:m.length=n
 ·subst he
  have HSQ:=Lib.hid (fun W (e:Ext w0 W)=>rSquare_ok (w:=W) (c:=c) h h1 h2 hn)
  have f1:decide ((8:Int)<(m.length:Int))=true:=by simp;omega
  clear hn hne
  generalize m.length=q at*
  go_enter Tryz.func81,Tryz.ntmps81
  go_wp2_with (go_at_call 141;refine (HSQ.out _ inferInstance).mono ?_;rintro e w1 ⟨rfl,hs1⟩)
  go_ret
  exact ⟨_,rfl,by decide,Step.of _ _⟩
 ·have HSQ:=Lib.hid (fun W (e:Ext w0 W)=>rSquare_bad (w:=W) (c:=c) h h1 h2 h3 h4 hn he)
  clear hn hne
  go_enter Tryz.func81,Tryz.ntmps81
  go_wp2_with (go_at_call 141;refine (HSQ.out _ inferInstance).mono ?_;rintro e w1 ⟨rfl,hs1⟩)
  go_ret
  exact ⟨_,rfl,by decide,Step.of _ _⟩
theorem Fits64.bd {m:List (List Int)} (h:Fits64 m):BdM 64 m:=fun i j=>by
 unfold ent
 rcases Nat.lt_or_ge i m.length with hi |hi
 ·rw [show m.getD i []=m[i] by simp [List.getD,hi]]
  rcases Nat.lt_or_ge j m[i].length with hj |hj
  ·rw [show (m[i]).getD j 0=m[i][j] by simp [List.getD,hj]]
   have :=h _ (List.getElem_mem hi) _ (List.getElem_mem hj)
   exact Bd.of64 this.1 this.2
  ·rw [show (m[i]).getD j 0=0 by simp [List.getD,List.getElem?_eq_none hj]]
   exact Bd.zero _
 ·rw [show m.getD i []=[] by simp [List.getD,List.getElem?_eq_none hi]]
  exact Bd.zero _
theorem SymM.full {m:List (List Int)} (ha:AllLen m m.length) (h:SymM m m.length):Sym (ofZ (ent m)):=sym_of ha (fun i j hi hj=>by
 rcases Nat.lt_trichotomy i j with h' |h' |h'
 ·exact (h j hj i h').symm
 ·rw [h']
 ·exact h i hi j h')
theorem rIsReduced_any {w0 w:World} {A:Option Addr} {c:Nat} {m:List (List Int)} (h:MatA w0 A m) (h64:Fits64 m) (hlen:m.length<=1099511627776) (hrl:∀r∈m,r.length<=9223372036854775807) [hx:Ext w0 w]:
  Calls Tryz.prog 120 #[.slice A m.length c] w (RetVal w (.bool (isRedB m))):=by
 by_cases hsh:ShpB m
 ·obtain ⟨n,hn⟩:∃n,(m.getD 0 []).length=n:=⟨_,rfl⟩
  have hall:=hsh.all
  have hf:=hsh.first
  rw [hn] at hall hf
  have hl1:=hsh.1
  have hl2:=hsh.2.1
  have HFI:Hid (∀W,Ext w W->Calls Tryz.prog 89 #[.slice A m.length c] W (RetOwnIB W n m)):=Lib.hid (fun W e=>by
   have :Ext w0 W:=hx.trans e
   exact rFromInts_ok (w:=W) (c:=c) h n hl1 hl2 hf.1 hf.2 hall h64)
  by_cases hsq:m.length=n/\n<=8
  ·obtain ⟨hmn,h8⟩:=hsq
   have ha:AllLen m m.length:=by rw [hmn];exact hall
   have hb:=h64.bd
   have hiff:=lll_iff hl1 (by omega) ha
   by_cases hv:ValM m
   ·have HVA:Hid (∀(W1 W:World) (A1:Option Addr) (c1:Nat),MatV W1 A1 m->Ext W1 W->Calls Tryz.prog 81 #[.slice A1 n c1] W (fun e w'=>∃v:Int,e= .returned (.int .i64 v)/\(v=0↔true=true)/\0<=v/\v<=5/\Step W w')):=Lib.hid (fun W1 W A1 c1 hM e=>rValidate_ok true (by simp [hv]) hM hmn hf.1 h8 hall hb (by omega) (by omega))
    have HSM:Hid (∀(W1 W:World) (A1:Option Addr) (c1:Nat),MatV W1 A1 m->Ext W1 W->Calls Tryz.prog 82 #[.slice A1 n c1] W (RetVal W (.bool (decide (detF m<=10000))))):=Lib.hid (fun W1 W A1 c1 hM e=>rsmall_ok (w:=W) (c:=c1) hM hmn hf.1 h8 hall hb (by omega) (by omega))
    obtain ⟨s,hs⟩:∃s:Bool,s=true↔(∀r,r<n->Full (ofZ (ent m)) r)/\∀p,p+1<n->Lov (ofZ (ent m)) p:=by
     by_cases hP:(∀r,r<n->Full (ofZ (ent m)) r)/\∀p,p+1<n->Lov (ofZ (ent m)) p
     ·exact ⟨true,⟨fun _=>hP,fun _=>rfl⟩⟩
     ·exact ⟨false,by simp only [Bool.false_eq_true,false_iff];exact hP⟩
    have HRE:Hid (∀(W1 W:World) (A1:Option Addr) (c1:Nat),MatV W1 A1 m->Ext W1 W->Calls Tryz.prog 189 #[.slice A1 n c1] W (RetVal W (.bool s))):=Lib.hid (fun W1 W A1 c1 hM e=>rreduced_gen s hs hM hmn hf.1 h8 hall hb (by omega) (by omega) (by rw [<-hmn];exact lead_pos.1 hv.2) (SymM.full ha hv.1))
    have HR:Hid (isRedB m=(decide (detF m<=10000)&&s)):=Lib.hid (by
     rw [Bool.eq_iff_iff,red_iff,hiff,Bool.and_eq_true,decide_eq_true_iff,hs,hmn]
     exact ⟨fun h=>⟨h.2.1,h.2.2⟩,fun h=>⟨hv,h.1,h.2⟩⟩)
    have HL:=Lib.hid hmn
    rw [hmn] at HFI |-
    generalize decide (detF m<=10000)=t at*
    clear hs hv hiff hb ha hall hf hsh hn hmn h64 hrl
    cases t
    ·go_enter Tryz.func120,Tryz.ntmps120
     go_wp2_with (first
      |(go_at_call 89;refine (HFI.out _ inferInstance).mono ?_;rintro e w1 ⟨g1,hs1',c1,rfl,hO1,-,-,hs1⟩;rw [HL.out];have HM:=Lib.hid hO1.mat;clear hO1)
      |(go_at_call 81;refine (HVA.out _ _ _ _ HM.out inferInstance).mono ?_;rintro e w2 ⟨v,rfl,hv,hv0,hv5,hs2⟩;have hvz:v=0:=(hv.2 (by trivial));subst hvz;clear hv hv0 hv5)
      |(go_at_call 82;refine (HSM.out _ _ _ _ HM.out inferInstance).mono ?_;rintro e w3 ⟨rfl,hs3⟩))
     go_ret
     exact ⟨by rw [HR.out];rfl,Step.of _ _⟩
    ·go_enter Tryz.func120,Tryz.ntmps120
     go_wp2_with (first
      |(go_at_call 89;refine (HFI.out _ inferInstance).mono ?_;rintro e w1 ⟨g1,hs1',c1,rfl,hO1,-,-,hs1⟩;rw [HL.out];have HM:=Lib.hid hO1.mat;clear hO1)
      |(go_at_call 81;refine (HVA.out _ _ _ _ HM.out inferInstance).mono ?_;rintro e w2 ⟨v,rfl,hv,hv0,hv5,hs2⟩;have hvz:v=0:=(hv.2 (by trivial));subst hvz;clear hv hv0 hv5)
      |(go_at_call 82;refine (HSM.out _ _ _ _ HM.out inferInstance).mono ?_;rintro e w3 ⟨rfl,hs3⟩)
      |(go_at_call 189;refine (HRE.out _ _ _ _ HM.out inferInstance).mono ?_;rintro e w4 ⟨rfl,hs4⟩))
     go_ret
     exact ⟨by rw [HR.out];rfl,Step.of _ _⟩
   ·have HVA:Hid (∀(W1 W:World) (A1:Option Addr) (c1:Nat),MatV W1 A1 m->Ext W1 W->Calls Tryz.prog 81 #[.slice A1 n c1] W (fun e w'=>∃v:Int,e= .returned (.int .i64 v)/\(v=0↔false=true)/\0<=v/\v<=5/\Step W w')):=Lib.hid (fun W1 W A1 c1 hM e=>rValidate_ok false (by simp [hv]) hM hmn hf.1 h8 hall hb (by omega) (by omega))
    have HR:Hid (isRedB m=false):=Lib.hid (by
     rw [Bool.eq_false_iff]
     intro hh
     exact hv (hiff.1 (red_iff.1 hh)).1)
    have HL:=Lib.hid hmn
    rw [hmn] at HFI |-
    clear hv hiff hb ha hall hf hsh hn hmn h64 hrl
    go_enter Tryz.func120,Tryz.ntmps120
    go_wp2_with (first
     |(go_at_call 89;refine (HFI.out _ inferInstance).mono ?_;rintro e w1 ⟨g1,hs1',c1,rfl,hO1,-,-,hs1⟩;rw [HL.out];have HM:=Lib.hid hO1.mat;clear hO1)
     |(go_at_call 81;refine (HVA.out _ _ _ _ HM.out inferInstance).mono ?_;rintro e w2 ⟨v,rfl,hv,hv0,hv5,hs2⟩;have hvz:(v==0)=false:=(by simp;intro h;simp [h] at hv);clear hv hv0 hv5))
    go_ret
    exact ⟨by rw [HR.out];rfl,Step.of _ _⟩
  ·have HVA:Hid (∀(W1 W:World) (A1:Option Addr) (c1:Nat),MatV W1 A1 m->Ext W1 W->Calls Tryz.prog 81 #[.slice A1 m.length c1] W (fun e w'=>∃v:Int,e= .returned (.int .i64 v)/\(v==0)=false/\Step W w')):=Lib.hid (fun W1 W A1 c1 hM e=>rValidate_shape hM hl1 hl2 hf.1 hf.2 hall hsq)
   have HR:Hid (isRedB m=false):=Lib.hid (by
    rw [Bool.eq_false_iff]
    intro hh
    have hL:=red_iff.1 hh
    refine hsq ⟨?_,?_⟩
    ·rw [<-hn,<-hL.shp.all m[0] (List.getElem_mem (by omega))]
     exact (hL.all m[0] (List.getElem_mem (by omega))).symm
    ·have :=hL.len8
     have h2:=hall m[0] (List.getElem_mem (by omega))
     have h3:=hL.all m[0] (List.getElem_mem (by omega))
     omega)
   clear hall hsq hf hsh hn h64 hrl
   go_enter Tryz.func120,Tryz.ntmps120
   go_wp2_with (first
    |(go_at_call 89;refine (HFI.out _ inferInstance).mono ?_;rintro e w1 ⟨g1,hs1',c1,rfl,hO1,-,-,hs1⟩;have HM:=Lib.hid hO1.mat;clear hO1)
    |(go_at_call 81;refine (HVA.out _ _ _ _ HM.out inferInstance).mono ?_;rintro e w2 ⟨v,rfl,hvz,hs2⟩))
   go_ret
   exact ⟨by rw [HR.out];rfl,Step.of _ _⟩
 ·have HFI:=Lib.hid (fun W (e:Ext w0 W)=>rFromInts_bad (w:=W) (c:=c) h hlen hrl hsh)
  have HR:Hid (isRedB m=false):=Lib.hid (by
   rw [Bool.eq_false_iff]
   intro hh
   exact hsh (red_iff.1 hh).shp)
  clear hsh hrl h64
  go_enter Tryz.func120,Tryz.ntmps120
  go_wp2_with (go_at_call 89;refine (HFI.out _ inferInstance).mono ?_;rintro e w1 ⟨rfl,hs1⟩)
  go_ret
  exact ⟨by rw [HR.out];rfl,Step.of _ _⟩
end Go.Proofs.YtijfjailmilkfaaGreat
namespace Go.Proofs.YtijfjailmilkfaaGreat
open La
structure LevB (D:List Int) (n:Nat) (bound:Int) (k:Nat) (rest:Int) (tail:List Int):Prop where
 kn:k<n
 r0:0<=rest
 r1:rest<=vD D (k+1)*bound
 tl:tail.length=n-1-k
 ts:absSum tail+562949953421312<=562949953421312*2^tail.length
section
variable {D:List Int} {L:List (List Int)} {n:Nat} {bound:Int} {k:Nat} {rest:Int} {tail:List Int}
theorem vRB (hN:NumOK D L n 0) (hb0:0<=bound) (hb1:bound<=4611686018427387904) (h:LevB D n bound k rest tail):0<=vR D k rest/\vR D k rest<281474976710656/\vR D k rest*vR D k rest<=vSq D k rest:=by
 have h1:=hN.d1 k (by have :=h.kn;omega)
 have h2:=hN.d2 k (by have :=h.kn;omega)
 have h3:=hN.d1 (k+1) (by have :=h.kn;omega)
 have h4:=hN.d2 (k+1) (by have :=h.kn;omega)
 have r0:=h.r0
 have r1:=h.r1
 have e1:vD D (k+1)*bound<=65535*4611686018427387904:=
  (mul_abs_le (a:=vD D (k+1)) (b:=bound) (A:=65535) (B:=4611686018427387904) (by omega) (by omega) (by omega) (by omega)).2
 have e2:vD D k*rest<=65535*(65535*4611686018427387904):=
  (mul_abs_le (a:=vD D k) (b:=rest) (A:=65535) (B:=65535*4611686018427387904) (by omega) (by omega) (by omega) (by omega)).2
 have e3:0<=vSq D k rest:=Int.mul_nonneg (by omega) r0
 have e4:vSq D k rest<=65535*(65535*4611686018427387904):=e2
 obtain ⟨s1,s2⟩:=isq_spec (vSq D k rest).toNat
 unfold vR
 obtain ⟨q,hq⟩:∃q,q=isq (vSq D k rest).toNat:=⟨_,rfl⟩
 rw [<-hq] at s1 |-
 refine ⟨by omega,?_,?_⟩
 ·rcases Nat.lt_or_ge q 281474976710656 with h |h
  ·omega
  ·have :=Nat.mul_le_mul h h
   omega
 ·have :((q*q:Nat):Int)<=vSq D k rest:=by omega
  simpa using this
theorem absSumB (hN:NumOK D L n 0) (h:LevB D n bound k rest tail):0<=absSum tail/\absSum tail<=72057594037927936:=by
 have h1:=absSum_nonneg tail
 have h2:=h.ts
 have h3:=pow_len_le (m:=tail.length) (by have :=h.tl;have :=hN.n8;omega)
 omega
theorem vEndsB (hN:NumOK D L n 0) (hb0:0<=bound) (hb1:bound<=4611686018427387904) (h:LevB D n bound k rest tail):
  -(2*vR D k rest+absSum tail)<=2*vLo D L k rest tail/\2*vLo D L k rest tail<=absSum tail+1/\-absSum tail-1<=2*vHi D L k rest tail/\2*vHi D L k rest tail<=2*vR D k rest+absSum tail:=by
 obtain ⟨r0,r1,-⟩:=vRB hN hb0 hb1 h
 obtain ⟨s1,s2⟩:-(vD D (k+1)*absSum tail)<=2*vSh L k tail/\2*vSh L k tail<=vD D (k+1)*absSum tail:=dotL_half _ (by have :=hN.d1 (k+1) (by have :=h.kn;omega);omega) _ _ (hN.lam k h.kn)
 have hd:=hN.d1 (k+1) (by have :=h.kn;omega)
 have hS:=absSum_nonneg tail
 have a:=quot_bounds r0 hd s1 s2 rfl
 have b:=quot_bounds (t:=-(vSh L k tail)) (S:=absSum tail) r0 hd (by omega) (by omega) rfl
 unfold vLo vHi
 rw [show vR D k rest-vSh L k tail=vR D k rest+-(vSh L k tail) by omega]
 omega
theorem vCntB (hN:NumOK D L n 0) (hb0:0<=bound) (hb1:bound<=4611686018427387904) (h:LevB D n bound k rest tail):0<=vCnt D L k rest tail:=by
 obtain ⟨r0,r1,-⟩:=vRB hN hb0 hb1 h
 have hd:=hN.d1 (k+1) (by have :=h.kn;omega)
 unfold vCnt vLo vHi
 generalize vD D (k+1)=d at hd |-
 generalize vSh L k tail=t
 generalize vR D k rest=r at r0 r1 |-
 have a1:=Int.mul_ediv_add_emod (r+t) d
 have a2:=Int.emod_lt_of_pos (r+t) (show 0<d by omega)
 have b1:=Int.mul_ediv_add_emod (r-t) d
 have b2:=Int.emod_lt_of_pos (r-t) (show 0<d by omega)
 obtain ⟨p,hp⟩:∃p,p=(r+t) / d:=⟨_,rfl⟩
 obtain ⟨q,hq⟩:∃q,q=(r-t) / d:=⟨_,rfl⟩
 rw [<-hp] at a1 |-
 rw [<-hq] at b1 |-
 rcases Int.lt_or_le (p+q) (-1) with h |h
 ·exfalso
  have h5:d*(p+q)<=d*(-2):=Int.mul_le_mul_of_nonneg_left (by omega) (by omega)
  rw [Int.mul_add] at h5
  omega
 ·omega
theorem vUB (hN:NumOK D L n 0) (h:LevB D n bound k rest tail) {x:Int} (h1:vLo D L k rest tail<=x) (h2:x<=vHi D L k rest tail):-(vR D k rest)<=vU D L k tail x/\vU D L k tail x<=vR D k rest:=by
 have hd:=hN.d1 (k+1) (by have :=h.kn;omega)
 unfold vLo at h1
 unfold vHi at h2
 unfold vU
 generalize vD D (k+1)=d at hd h1 h2 |-
 generalize vSh L k tail=t at h1 h2 |-
 generalize vR D k rest=r at h1 h2 |-
 have a1:=Int.mul_ediv_add_emod (r+t) d
 have a2:=Int.emod_nonneg (r+t) (show d≠0 by omega)
 have b1:=Int.mul_ediv_add_emod (r-t) d
 have b2:=Int.emod_nonneg (r-t) (show d≠0 by omega)
 have c1:d*(-x)<=d*((r+t) / d):=Int.mul_le_mul_of_nonneg_left (by omega) (by omega)
 have c2:d*x<=d*((r-t) / d):=Int.mul_le_mul_of_nonneg_left (by omega) (by omega)
 rw [Int.mul_neg] at c1
 omega
theorem LevB.next (hN:NumOK D L n 0) (hb0:0<=bound) (hb1:bound<=4611686018427387904) (h:LevB D n bound (k+1) rest tail) {x:Int} (h1:vLo D L (k+1) rest tail<=x) (h2:x<=vHi D L (k+1) rest tail):LevB D n bound k (vRest D L (k+1) rest tail x) (x::tail):=by
 obtain ⟨u1,u2⟩:=vUB hN h h1 h2
 obtain ⟨r0,r1,r2⟩:=vRB hN hb0 hb1 h
 obtain ⟨e1,e2,e3,e4⟩:=vEndsB hN hb0 hb1 h
 have hd:=hN.d1 (k+1+1) (by have :=h.kn;omega)
 have hdk:=hN.d1 (k+1) (by have :=h.kn;omega)
 have hS:=absSumB hN h
 have ht:=h.ts
 obtain ⟨u,hu⟩:∃u,u=vU D L (k+1) tail x:=⟨_,rfl⟩
 have hu2:=mul_abs_le (a:=u) (b:=u) (A:=vR D (k+1) rest) (B:=vR D (k+1) rest) (by omega) (by omega) (by omega) (by omega)
 have hu3:0<=u*u:=by
  rcases Int.le_total 0 u with h |h
  ·exact Int.mul_nonneg h h
  ·exact Int.mul_nonneg_of_nonpos_of_nonpos h h
 have hp1:0<=vSq D (k+1) rest-u*u:=by omega
 have a:0<=vRest D L (k+1) rest tail x:=by unfold vRest;rw [<-hu];exact Int.ediv_nonneg hp1 (by omega)
 have b:vRest D L (k+1) rest tail x<=vD D (k+1)*bound:=by
  unfold vRest
  rw [<-hu]
  have e5:vSq D (k+1) rest-u*u<=vD D (k+1+1)*(vD D (k+1)*bound):=by
   have :vD D (k+1)*rest<=vD D (k+1)*(vD D (k+1+1)*bound):=Int.mul_le_mul_of_nonneg_left h.r1 (by omega)
   rw [Int.mul_left_comm] at this
   unfold vSq;omega
  exact Int.ediv_le_of_le_mul (by omega) (by rw [Int.mul_comm (vD D (k+1)*bound)];exact e5)
 refine ⟨by have :=h.kn;omega,a,b,by simp [h.tl];have :=h.kn;omega,?_⟩
 simp only [absSum,List.length_cons,Int.pow_succ]
 omega
end
theorem RedOK.num0 {m:List (List Int)} (h:RedOK m):NumOK (minorsTo m m.length) (lamTo m m.length) m.length 0:=h.num (Int.le_refl 0) (by decide)
theorem lev_ofB {m:List (List Int)} (hr:RedOK m) {bound:Int} (hb:0<=bound) (hb1:bound<=4611686018427387904) (t:List Int):∀k,k<m.length->t.length=m.length-1-k->0<=left (ent m) bound (k+1) t->LevB (minorsTo m m.length) m.length bound k (left (ent m) bound (k+1) t) t:=by
 have hsym:=sym_of (isSmallB_all hr.small) (fun i j hi hj=>((of_decide_eq_true hr.small).2.2.2 i hi j hj).1)
 induction t with
 |nil=>
  intro k hk ht h0
  have e:k+1=m.length:=by simp at ht;omega
  rw [e] at h0 |-
  refine ⟨hk,h0,?_,ht,by simp [absSum]⟩
  rw [left_top,e,minorsTo_get (Nat.le_refl _)]
  exact Int.le_refl _
 |cons c t ih=>
  intro k hk ht h0
  simp only [List.length_cons] at ht
  have h1:=left_le hsym (hr.pos.le (by omega:k+1+1<=m.length)) bound c t h0
  have h2:=ih (k+1) (by omega) (by omega) h1
  have h3:=(inv_iff hr (by omega:k+1<m.length) t (by omega) h1 c).2 h0
  have h4:=LevB.next hr.num0 hb hb1 h2 h3.1 h3.2
  rwa [vRest_eq hr (by omega) bound t (by omega)] at h4
theorem ends_big {m:List (List Int)} (hr:RedOK m) {b:Int} (hb:0<=b) (hb1:b<=4611686018427387904) {k:Nat} {t:List Int} (hk:k<m.length) (ht:t.length=m.length-1-k) (h0:0<=left (ent m) b (k+1) t):
  0<=tHi m b k t-tLo m b k t+1/\tHi m b k t-tLo m b k t+1<=288230376151711744/\-288230376151711744<=tLo m b k t/\tLo m b k t<=288230376151711744/\-288230376151711744<=tHi m b k t/\tHi m b k t<=288230376151711744:=by
 have hl:=lev_ofB hr hb hb1 t k hk ht h0
 have hv:=vCntB hr.num0 hb hb1 hl
 have he:=vEndsB hr.num0 hb hb1 hl
 have hS:=absSumB hr.num0 hl
 have hR:=vRB hr.num0 hb hb1 hl
 unfold tHi tLo
 unfold vCnt at hv
 refine ⟨hv,?_⟩
 omega
theorem visit_okB {m:List (List Int)} {bound:Int} (hr:RedOK m) (hb:0<=bound) (hb1:bound<=4611686018427387904) (k:Nat):∀t:List Int,k<m.length->t.length=m.length-1-k->0<=left (ent m) bound (k+1) t->
  ∀p∈visitY (minorsTo m m.length) (lamTo m m.length) m.length k (left (ent m) bound (k+1) t) t,0<=p.2/\1<=p.1/\p.1<=(m.length:Int):=by
 induction k with
 |zero=>
  intro t hk ht h0 p hp
  simp only [visitY,List.mem_singleton] at hp
  subst hp
  have :=vCntB hr.num0 hb hb1 (lev_ofB hr hb hb1 t 0 hk ht h0)
  simp only
  omega
 |succ k ih=>
  intro t hk ht h0 p hp
  simp only [visitY,List.mem_cons,List.mem_flatMap,List.mem_range] at hp
  rcases hp with rfl |⟨j,hj,hp⟩
  ·have :=vCntB hr.num0 hb hb1 (lev_ofB hr hb hb1 t (k+1) hk ht h0)
   simp only
   omega
  ·have hk0:=kid hr t hk ht h0 hj
   rw [vRest_eq hr hk bound t ht] at hp
   exact ih _ (by omega) (by simp [ht];omega) hk0 p hp
/-! ## With two rows or more a bound of 2^30 has more than 2000 steps -/
theorem left_zeros_eq {m:List (List Int)} {b:Int} {k:Nat} (t:List Int) (h:∀x∈t,x=0):left (ent m) b k t=lastE (ent m) k*b:=by
 unfold left qE quadZ
 rw [sumZ_zeros _ t h]
 omega
theorem sq_minor {m:List (List Int)} (hr:RedOK m) {k:Nat} (hk:k+1<m.length):lastE (ent m) (k+1)*lastE (ent m) (k+1)<=2*(lastE (ent m) k*lastE (ent m) (k+2)):=by
 have hL:=hr.lov k hk
 have hs:=(of_decide_eq_true (hr.short k hk)).2.2 1 (by rw [stAt_length];omega) (by omega)
 have e1:ent (stAt m k).2 1 0=E (ent m) k (k+1) k:=st_ent (i:=1) (j:=0) (by omega) (by omega)
 have e2:ent (stAt m k).2 0 0=E (ent m) k k k:=st_ent (i:=0) (j:=0) (by omega) (by omega)
 rw [e1,e2] at hs
 show E (ent m) k k k*E (ent m) k k k<=2*(lastE (ent m) k*E (ent m) (k+1) (k+1) (k+1))
 obtain ⟨x,hx⟩:∃x,E (ent m) k k k=x:=⟨_,rfl⟩
 obtain ⟨y,hy⟩:∃y,E (ent m) k (k+1) k=y:=⟨_,rfl⟩
 obtain ⟨u,hu⟩:∃u,lastE (ent m) k=u:=⟨_,rfl⟩
 obtain ⟨v,hv⟩:∃v,E (ent m) (k+1) (k+1) (k+1)=v:=⟨_,rfl⟩
 rw [hx,hy,hu,hv] at hL
 rw [hx,hy] at hs
 rw [hx,hu,hv]
 have q:=Int.mul_nonneg (show 0<=x-2*y by omega) (show 0<=x+2*y by omega)
 have q2:(x-2*y)*(x+2*y)=x*x-4*(y*y):=by grind
 rw [q2] at q
 grind
theorem dotL_zero1:∀l:List Int,dotL l [0]=0
 |[]=>rfl
 |a::l=>by
  show a*0+dotL l []=0
  have :dotL l []=0:=by cases l<;>rfl
  omega
theorem crowd_count {m:List (List Int)} (hr:RedOK m) {k:Nat} (hk:k+2=m.length) {b:Int} (hb:1073741824<=b):2000<vCnt (minorsTo m m.length) (lamTo m m.length) k (left (ent m) b (k+1) [0]) [0]:=by
 have hz:∀x∈[(0:Int)],x=0:=fun x hx=>by simpa using hx
 have hsq:=sq_minor hr (k:=k) (by omega)
 have p0:=lastE_pos hr.pos (by omega:k<=m.length)
 have p1:=lastE_pos hr.pos (by omega:k+1<=m.length)
 have hd:lastE (ent m) (k+2)<=10000:=by
  have h:=hr.det1
  rw [show m.length-1=k+1 by omega] at h
  exact h
 unfold vCnt vLo vHi vR vSq vSh
 rw [dotL_zero1,left_zeros_eq _ hz,minorsTo_get (by omega),minorsTo_get (by omega)]
 obtain ⟨u,hu⟩:∃u,lastE (ent m) k=u:=⟨_,rfl⟩
 obtain ⟨x,hx⟩:∃x,lastE (ent m) (k+1)=x:=⟨_,rfl⟩
 obtain ⟨v,hv⟩:∃v,lastE (ent m) (k+2)=v:=⟨_,rfl⟩
 rw [hu,hx,hv] at hsq
 rw [hu] at p0 |-
 rw [hx] at p1 |-
 rw [hv] at hd
 have hxu:x<=1000*u:=by
  rcases Int.lt_or_le (1000*u) x with h |h
  ·exfalso
   have h1:u*v<=u*10000:=Int.mul_le_mul_of_nonneg_left hd (by omega)
   have h2:(1000*u)*x<=x*x:=Int.mul_le_mul_of_nonneg_right (by omega) (by omega)
   have h3:u*1000<=u*x:=Int.mul_le_mul_of_nonneg_left (by omega) (by omega)
   have h4:(1000*u)*x=1000*(u*x):=Int.mul_assoc ..
   omega
  ·exact h
 have hX:(1000*x)*(1000*x)<=u*(x*b):=by
  have h1:u*1073741824<=u*b:=Int.mul_le_mul_of_nonneg_left hb (by omega)
  have h2:x*(1000000*x)<=x*(u*b):=Int.mul_le_mul_of_nonneg_left (by omega) (by omega)
  have e1:(1000*x)*(1000*x)=x*(1000000*x):=by grind
  have e2:u*(x*b)=x*(u*b):=by grind
  omega
 obtain ⟨X,hXe⟩:∃X,X=u*(x*b):=⟨_,rfl⟩
 rw [<-hXe] at hX |-
 obtain ⟨s1,s2⟩:=isq_spec X.toNat
 obtain ⟨q,hq⟩:∃q,q=isq X.toNat:=⟨_,rfl⟩
 rw [<-hq] at s1 s2 |-
 have hq1:1000*x<=(q:Int):=by
  rcases Int.lt_or_le (q:Int) (1000*x) with h |h
  ·exfalso
   have h1:((q:Int)+1)*((q:Int)+1)<=(1000*x)*(1000*x):=Int.mul_le_mul (by omega) (by omega) (by omega) (by omega)
   have h2:(((q+1)*(q+1):Nat):Int)=((q:Int)+1)*((q:Int)+1):=by push_cast;rfl
   have h3:(X.toNat:Int)=X:=Int.toNat_of_nonneg (by have :=Int.mul_nonneg (show 0<=1000*x by omega) (show 0<=1000*x by omega);omega)
   omega
  ·exact h
 have hq2:1000<=(q:Int) / x:=(Int.le_ediv_iff_mul_le (by omega)).2 hq1
 rw [Int.add_zero,Int.sub_zero]
 omega
theorem totY_ge {ys:List (Int×Int)} (h:∀p∈ys,0<=p.2) {p:Int×Int} (hp:p∈ys):p.2<=totY ys:=by
 induction ys with
 |nil=>cases hp
 |cons q ys ih=>
  have h1:=totY_nonneg (fun p hp=>h p (List.mem_cons_of_mem _ hp))
  have h2:=h q (List.mem_cons_self ..)
  simp only [totY]
  rcases List.mem_cons.1 hp with rfl |hp
  ·omega
  ·have :=ih (fun p hp=>h p (List.mem_cons_of_mem _ hp)) hp
   omega
theorem visit_head (D:List Int) (L:List (List Int)) (n k:Nat) (rest:Int) (tail:List Int):∃z,(z,vCnt D L k rest tail)∈visitY D L n k rest tail:=by
 cases k with
 |zero=>exact ⟨_,List.mem_singleton.2 rfl⟩
 |succ k=>exact ⟨_,List.mem_cons_self ..⟩
theorem crowd_tot {m:List (List Int)} (hr:RedOK m) (h2:2<=m.length) {b:Int} (hb:1073741824<=b) (hb1:b<=4611686018427387904):2000<totS m b:=by
 obtain ⟨k,hk⟩:∃k,k+2=m.length:=⟨m.length-2,by omega⟩
 rw [totS_ys hr (by omega),show m.length-1=k+1 by omega]
 have h0:=left_zeros hr (bound:=b) (by omega) (by omega:k+1+1<=m.length) [] (fun x hx=>by cases hx)
 have hok:=visit_okB hr (by omega) hb1 (k+1) [] (by omega) (by simp;omega) h0
 have hc:=crowd_count hr hk hb
 obtain ⟨z,hz⟩:=visit_head (minorsTo m m.length) (lamTo m m.length) m.length k (left (ent m) b (k+1) [0]) [0]
 have hin:=(inv_iff hr (by omega:k+1<m.length) [] (by simp;omega) h0 0).2 (left_zeros hr (by omega) (by omega) [0] (fun x hx=>by simpa using hx))
 unfold ysT
 have hmem:(z,vCnt (minorsTo m m.length) (lamTo m m.length) k (left (ent m) b (k+1) [0]) [0])∈visitY (minorsTo m m.length) (lamTo m m.length) m.length (k+1) (left (ent m) b (k+1+1) []) []:=by
  simp only [visitY,List.mem_cons,List.mem_flatMap,List.mem_range]
  refine .inr ⟨(-vLo (minorsTo m m.length) (lamTo m m.length) (k+1) (left (ent m) b (k+1+1) []) []).toNat,by unfold vCnt;omega,?_⟩
  rw [show vLo (minorsTo m m.length) (lamTo m m.length) (k+1) (left (ent m) b (k+1+1) []) []+(((-vLo (minorsTo m m.length) (lamTo m m.length) (k+1) (left (ent m) b (k+1+1) []) []).toNat:Nat):Int)=0 by omega,vRest_eq hr (by omega) b [] (by simp;omega)]
  exact hz
 have :=totY_ge (fun p hp=>(hok p hp).1) hmem
 simp only at this
 omega
theorem ysT_okB {m:List (List Int)} (hr:RedOK m) {b:Int} (hb:0<=b) (hb1:b<=4611686018427387904) {k:Nat} {t:List Int} (hk:k<m.length) (ht:t.length=m.length-1-k) (h0:0<=left (ent m) b (k+1) t):∀p∈ysT m b k t,0<=p.2/\1<=p.1/\p.1<=(m.length:Int):=visit_okB hr hb hb1 k t hk ht h0
theorem ysK_okB {m:List (List Int)} (hr:RedOK m) {b:Int} (hb:0<=b) (hb1:b<=4611686018427387904) {k:Nat} {t:List Int} (hk:k+1<m.length) (ht:t.length=m.length-1-(k+1)) (h0:0<=left (ent m) b (k+2) t) {q:Nat} (hq:q<=tCnt m b (k+1) t):∀p∈ysK m b k t q,0<=p.2/\1<=p.1/\p.1<=(m.length:Int):=fun p hp=>by
 unfold ysK at hp
 rw [List.mem_flatMap] at hp
 obtain ⟨j,hj,hp⟩:=hp
 rw [List.mem_range] at hj
 exact ysT_okB hr hb hb1 (by omega) (by simp [ht];omega) (kid hr t (by omega) ht h0 (j:=j) (by unfold tCnt tHi tLo at hq;unfold vCnt;omega)) p hp
theorem totK_monoB {m:List (List Int)} (hr:RedOK m) {b:Int} (hb:0<=b) (hb1:b<=4611686018427387904) {k:Nat} {t:List Int} (hk:k+1<m.length) (ht:t.length=m.length-1-(k+1)) (h0:0<=left (ent m) b (k+2) t) {p q:Nat} (hpq:p<=q) (hq:q<=tCnt m b (k+1) t):totY (ysK m b k t p)<=totY (ysK m b k t q):=by
 induction q with
 |zero=>obtain rfl:p=0:=by omega
        exact Int.le_refl _
 |succ q ih=>
  rcases Nat.lt_or_ge p (q+1) with h |h
  ·have h1:=ih (by omega) (by omega)
   rw [ysK_succ,totY_append]
   have h2:=totY_nonneg (fun p hp=>(ysT_okB hr hb hb1 (b:=b) (k:=k) (t:=(tLo m b (k+1) t+(q:Int))::t) (by omega) (by simp [ht];omega) (kid hr t (by omega) ht h0 (j:=q) (by unfold tCnt tHi tLo at hq;unfold vCnt;omega)) p hp).1)
   omega
  ·obtain rfl:p=q+1:=by omega
   exact Int.le_refl _
end Go.Proofs.YtijfjailmilkfaaGreat
namespace Go.Proofs.YtijfjailmilkfaaGreat
open Go.RowKit
open La
set_option maxRecDepth 20000 in
theorem rcount_big {m:List (List Int)} {n:Nat} {bound budget:Int} (hL:LLLed m) (h1:m.length=n) (hb:0<=bound) (hb1:bound<=4611686018427387904) (hu0:0<=budget) (hu1:budget<=1000000) (k:Nat):
  ∀(w:World) (SB DB TA:Option Addr) (sc dc tc q g:Nat) (t cs:List Int),n=k+q+1->FrV w m SB DB->Ints w TA 2 .i64 t->t.length=q->(∀a∈t,-9223372036854775808<=a/\a<=9223372036854775807)->0<=left (ent m) bound (k+1) t->Row w g 3 .i64 cs->cs.length=n->(∀x∈cs,0<=x)->cs.sum<=budget->
  Calls Tryz.prog 126 #[.agg #[.int .i64 n,.slice SB n sc,.slice DB (n+1) dc],.int .i64 bound,.slice TA q tc,.slice (some ⟨g,0,none⟩) n n,.int .i64 budget] w (RetCnt w m bound budget k t cs g):=by
 induction k using Nat.strongRecOn with
 |ind k ih=>
  intro w SB DB TA sc dc tc q g t cs hq hF hT htl htb h0 hR hcl hc0 hcs
  have IH:=Lib.hid ih
  clear ih
  have hr:=red_ok hL.red
  have hn8:=hL.len8
  have hkm:k<m.length:=by omega
  have htm:t.length=m.length-1-k:=by omega
  obtain ⟨v1,v2,v3,v4,v5,v6⟩:=ends_big hr hb hb1 hkm htm h0
  have HIV:Hid (∀W,Ext w W->Calls Tryz.prog 114 #[.agg #[.int .i64 n,.slice SB n sc,.slice DB (n+1) dc],.int .i64 bound,.slice TA q tc] W (RetVal W (.tuple #[.int .i64 (tLo m bound k t),.int .i64 (tHi m bound k t)]))):=Lib.hid (fun W e=>
   rInterval_ok hF hL h1 hq hT htl htb (by omega) (by omega) h0 (by omega) (by omega) (by omega) (by omega))
  have hys:=ysT_cons hr hkm bound t htm
  have hok:=ysT_okB hr hb hb1 hkm htm h0
  rw [h1] at hys
  unfold RetCnt
  have hgs:g<w.heap.size:=hR.lt
  have hq8:q<cs.length:=by omega
  have hgd:=getD_le_sum hc0 q
  obtain ⟨y0,hy0,hcell⟩:=hR.cell (i:=q) hq8
  have hyd:cs.getD q 0=y0:=by simp [List.getD,hy0]
  rw [hyd] at hgd
  have hone:=addY_one (cs:=cs) (i:=q) (z:=tHi m bound k t-tLo m bound k t+1) hq8
  rw [hyd] at hone
  have hnk:(n:Int)-(k:Nat)=(q:Int)+1:=by omega
  rw [hnk] at hys
  have hok1:∀p∈[((q:Int)+1,tHi m bound k t-tLo m bound k t+1)],0<=p.2/\1<=p.1/\p.1<=(cs.length:Int):=fun p hp=>by
   have :=hok p (by rw [hys];exact List.mem_cons.2 (.inl (by simpa using hp)))
   omega
  have hsum1:=addY_sum (cs:=cs) (ys:=[((q:Int)+1,tHi m bound k t-tLo m bound k t+1)]) (fun p hp=>(hok1 p hp).2)
  rw [hone] at hsum1
  simp only [totY,Int.add_zero] at hsum1
  have hn1:∀x∈cs.set q (y0+(tHi m bound k t-tLo m bound k t+1)),0<=x:=by
   rw [<-hone];exact addY_nonneg hc0 (fun p hp=>(hok1 p hp).1)
  have hrest:∀p∈ysR m bound k t,0<=p.2/\1<=p.1/\p.1<=(m.length:Int):=fun p hp=>hok p (by rw [hys];exact List.mem_cons_of_mem _ hp)
  have hrt:=totY_nonneg (fun p hp=>(hrest p hp).1)
  have htot:totY (ysT m bound k t)=(tHi m bound k t-tLo m bound k t+1)+totY (ysR m bound k t):=by rw [hys];rfl
  have hadd:addY cs (ysT m bound k t)=addY (cs.set q (y0+(tHi m bound k t-tLo m bound k t+1))) (ysR m bound k t):=by rw [<-hone,addY_append,hys];rfl
  have hzero:tHi m bound k t-tLo m bound k t+1=0->ysR m bound k t=[]/\cs.set q (y0+(tHi m bound k t-tLo m bound k t+1))=cs:=fun e=>by
   refine ⟨?_,?_⟩
   ·cases k with
    |zero=>rfl
    |succ k=>show ysK m bound k t (tCnt m bound (k+1) t)=[];rw [show tCnt m bound (k+1) t=0 by unfold tCnt;omega];rfl
   ·rw [e,Int.add_zero]
    obtain ⟨h5,h6⟩:=List.getElem?_eq_some_iff.1 hy0
    rw [<-h6,List.set_getElem_self]
  rw [htot,hadd]
  have HZR:=Lib.hid hzero
  have HN1:=Lib.hid hn1
  have HFV:=Lib.hid hF
  have HTV:=Lib.hid hT
  have HTB:=Lib.hid htb
  have H0:=Lib.hid h0
  have HH1:=Lib.hid h1
  have HTL:=Lib.hid htl
  have HQ:=Lib.hid hq
  have HRW:=Lib.hid hR
  have hfr:=hR.frozen q
  clear hok hys hone hok1 hrest htot hadd hzero hn1 hy0 hyd hF hT htb h0 hR htm hr hc0
  obtain ⟨rest,hrs⟩:∃rest,rest=ysR m bound k t:=⟨_,rfl⟩
  have HRS:=Lib.hid hrs
  rw [<-hrs] at hrt HZR |-
  clear hrs
  obtain ⟨lo,hlo⟩:∃lo,lo=tLo m bound k t:=⟨_,rfl⟩
  obtain ⟨hi,hhi⟩:∃hi,hi=tHi m bound k t:=⟨_,rfl⟩
  have HLO:=Lib.hid (And.intro hlo hhi)
  rw [<-hlo] at v1 v2 v3 v4 hsum1 HZR HN1 HIV |-
  rw [<-hhi] at v1 v2 v5 v6 hsum1 HZR HN1 HIV |-
  have hqn:q<n:=by omega
  have hn9:n<=8:=by omega
  clear hlo hhi h1 hkm hq hnk htl
  obtain ⟨cs1,hcs1⟩:∃cs1,cs1=cs.set q (y0+(hi-lo+1)):=⟨_,rfl⟩
  have hcl1:cs1.length=n:=by rw [hcs1,List.length_set];exact hcl
  have HCS1:=Lib.hid hcs1
  rw [<-hcs1] at hsum1 HZR HN1 |-
  clear hcs1
  have ogw:Old g w:=⟨hgs⟩
  go_enter Tryz.func126,Tryz.ntmps126
  by_cases hneg:hi<lo
  ·have HH:=Lib.hid (HZR.out (by omega))
   have HX0:=Lib.hid HRW.out
   go_wp2_with (go_at_call 114;refine (HIV.out _ inferInstance).mono ?_;rintro e w1 ⟨rfl,hs1⟩)
   go_ret
   refine ⟨true,cs,rfl,Only.of_ext inferInstance (Nat.le_of_lt hgs),HX0.out.ext inferInstance,rfl,fun _=>⟨?_,?_⟩,fun h=>by cases h⟩
   ·rw [HH.out.1,HH.out.2,addY_nil]
   ·rw [HH.out.1];simp only [totY];omega
  ·by_cases hbig:budget<=hi-lo
   ·have HX0:=Lib.hid HRW.out
    have HCL:=Lib.hid (show budget<cs.sum+(hi-lo+1+totY rest) by have :=hgd;omega)
    have hbb:decide (budget<=hi-lo)=true:=by simpa using hbig
    go_wp2_with (go_at_call 114;refine (HIV.out _ inferInstance).mono ?_;rintro e w1 ⟨rfl,hs1⟩)
    go_ret
    exact ⟨false,cs,rfl,Only.of_ext inferInstance (Nat.le_of_lt hgs),HX0.out.ext inferInstance,rfl,(fun h=>by cases h),fun _=>HCL.out⟩
   ·have hw1:IntKind.i64.wrap (y0+(hi-lo+1))=y0+(hi-lo+1):=by rw [IntKind.wrap_i64];omega
    go_upto_region 7 with (go_at_call 114;refine (HIV.out _ inferInstance).mono ?_;rintro e w1 ⟨rfl,hs1⟩)
    have hc1:w1.cell? ⟨g,q,none⟩=some (.int .i64 y0):=(cellE w).trans hcell
    have hf1:w1.frozen? ⟨g,q,none⟩=false:=(frozenE w).trans hfr
    have hg1:g<w1.heap.size:=Nat.lt_of_lt_of_le hgs (inferInstance:Ext w w1).size
    have hR1:Row (w1.setCell ⟨g,q,none⟩ (.int .i64 (y0+(hi-lo+1)))) g 3 .i64 cs1:=by
     rw [HCS1.out]
     exact (HRW.out.ext (inferInstance:Ext w w1)).set q _
    have hO1:Only g w (w1.setCell ⟨g,q,none⟩ (.int .i64 (y0+(hi-lo+1)))):=(Only.of_ext (inferInstance:Ext w w1) (Nat.le_of_lt hgs)).trans (Only.set hg1 q _)
    have hfb:w1.heap[w.heap.size]? =some (.cells #[.int .i64 n,.slice SB n sc,.slice DB (n+1) dc] 106 (0,0)):=heap_of_ext (inferInstance:Ext (w.alloc (.cells #[.int .i64 n,.slice SB n sc,.slice DB (n+1) dc] 106)) w1) (heap_alloc_new w _)
    have hfb1:(w1.setCell ⟨g,q,none⟩ (.int .i64 (y0+(hi-lo+1)))).heap[w.heap.size]? =some (.cells #[.int .i64 n,.slice SB n sc,.slice DB (n+1) dc] 106 (0,0)):=(Below.heap_setCell w1 ⟨g,q,none⟩ _ w.heap.size (by simp;omega)).trans hfb
    have HFB:=Lib.hid hfb1
    have HR1:=Lib.hid hR1
    have HO1:=Lib.hid hO1
    clear hfb hfb1 hR1 hO1
    go_upto_region 8 with fail
    have hgl:g<w.heap.size:=hgs
    generalize w1.setCell ⟨g,q,none⟩ (.int .i64 (y0+(hi-lo+1)))=ws at*
    have hgs1:g<ws.heap.size:=HR1.out.lt
    have hws:w.heap.size<ws.heap.size:=lt_of_heap HFB.out
    have HSB:Hid (∀j,0<=(cs1.take j).sum/\(cs1.take j).sum<=cs1.sum):=Lib.hid (fun j=>take_sum_bd HN1.out j)
    have hc2:cs1.sum<=2000001:=by omega
    have HOT:=Lib.hid (HO1.out.oth HRW.out)
    clear hcell hfr hc1 hf1 hs1 hw1 HRW HCS1
    go_wp2_with fail
    go_loopw [14,47] (fun s14 i wr=>∃j:Nat,j<=n/\i= .int .i64 j/\s14= .int .i64 (cs1.take j).sum/\Ext ws wr) (fun _ i _=>n-(intOf i).toNat)
    case atStart=>exact ⟨0,by omega,rfl,by simp,inferInstance⟩
    case round=>
     obtain ⟨j,hj,rfl,rfl,hxr⟩:=hrel
     by_cases hlt:j<n
     ·obtain ⟨y,hy,hcy⟩:=(HR1.out.ext hxr).cell (i:=j) (by omega)
      have hsb:=HSB.out j
      have hsb1:=HSB.out (j+1)
      have hts:=sum_take_succ cs1 j y hy
      rw [hts] at hsb1
      have HT:=Lib.hid hts
      have hw2:IntKind.i64.wrap ((cs1.take j).sum+y)=(cs1.take j).sum+y:=by rw [IntKind.wrap_i64];omega
      clear hts hy
      go_wp2_with fail
      exact ⟨⟨j+1,by omega,by go_num,by rw [HT.out],inferInstance⟩,by simp [intOf]<;>omega⟩
     ·obtain rfl:j=n:=by omega
      have htk:(cs1.take j).sum=cs1.sum:=by rw [List.take_of_length_le (by omega)]
      rw [htk]
      obtain ⟨wt,hwt⟩:∃wt:World,wt=wr:=⟨_,rfl⟩
      by_cases hov:budget<cs1.sum
      ·have hov2:decide (budget<cs1.sum)=true:=by simpa using hov
       go_wp2_with fail
       go_ret
       exact ⟨false,cs1,rfl,(HO1.out.trans (Only.of_ext (inferInstance:Ext ws wr) (Nat.le_of_lt hgs1))),HR1.out.ext inferInstance,by omega,(fun h=>by cases h),fun _=>by omega⟩
      ·have hov2:decide (budget<cs1.sum)=false:=by simpa using hov
       obtain ⟨wL,rfl⟩:∃wL:World,wL=wr:=⟨_,rfl⟩
       clear hwt htk
       have HRL:=Lib.hid (HR1.out.ext hxr)
       have HOL:=Lib.hid (HO1.out.trans (Only.of_ext hxr (Nat.le_of_lt hgs1)))
       have HFL:=Lib.hid (heap_of_ext hxr HFB.out)
       have HTL2:=Lib.hid (HOT.out.trans (Oth.of_ext hxr))
       have hgL:g<wL.heap.size:=HRL.out.lt
       have hwL:w.heap.size<wL.heap.size:=lt_of_heap HFL.out
       have HFW:Hid (∀W,Only g wL W->W.heap[w.heap.size]? =some (.cells #[.int .i64 j,.slice SB j sc,.slice DB (j+1) dc] 106 (0,0))):=Lib.hid (fun W h=>(h.rest w.heap.size hgl hwL).trans HFL.out)
       clear hlt hj
       cases k with
       |zero=>
        have hb0:decide ((q:Int)+1<(j:Int))=false:=by have :=HQ.out;simp;omega
        obtain ⟨⟨f0,-,-⟩,-,-⟩:=blk3 (HFW.out wL (Only.refl _ _))
        have hre:rest=[]:=HRS.out
        go_wp2_with fail
        go_loopw [17] (fun x wr=>x= .int .i64 lo/\Ext wL wr) (fun _ _=>0)
        case atStart=>exact ⟨rfl,inferInstance⟩
        case round=>
         obtain ⟨rfl,hxq⟩:=hrel
         have oW:Old w.heap.size wL:=⟨hwL⟩
         have f1:wr.cell? ⟨w.heap.size,0,none⟩=some (.int .i64 j):=(cellE wL).trans f0
         go_wp2_with fail
         go_ret
         refine ⟨true,cs1,rfl,HOL.out.trans (Only.of_ext hxq (Nat.le_of_lt hgL)),HRL.out.ext hxq,by omega,fun _=>⟨?_,?_⟩,fun h=>by cases h⟩
         ·rw [hre,addY_nil]
         ·rw [hre];simp only [totY];omega
       |succ k=>
        have hr:=red_ok hL.red
        have hq0:=HQ.out
        have hmj:=HH1.out
        have htq:=HTL.out
        have hkm:k+1<m.length:=by omega
        have htm:t.length=m.length-1-(k+1):=by omega
        obtain ⟨hlo,hhi⟩:=HLO.out
        obtain ⟨J,hJ⟩:∃J,J=tCnt m bound (k+1) t:=⟨_,rfl⟩
        have hJ2:J=(hi-lo+1).toNat:=by rw [hJ,hlo,hhi];rfl
        have hre:rest=ysK m bound k t J:=by rw [hJ];exact HRS.out
        have HK1:Hid (∀i,i<J->0<=left (ent m) bound (k+1) ((lo+(i:Int))::t)):=Lib.hid (fun i hi'=>by
         rw [hlo]
         exact kid hr t hkm htm H0.out (j:=i) (by rw [hJ] at hi';exact hi'))
        have HK2:Hid (∀i,i<=J->(addY cs1 (ysK m bound k t i)).sum=cs1.sum+totY (ysK m bound k t i)/\(∀x∈addY cs1 (ysK m bound k t i),0<=x)/\totY (ysK m bound k t i)<=totY rest):=Lib.hid (fun i hi'=>by
         have hk:=ysK_okB hr hb hb1 hkm htm H0.out (q:=i) (by omega)
         refine ⟨addY_sum (fun p hp=>by have :=hk p hp;omega),addY_nonneg HN1.out (fun p hp=>(hk p hp).1),?_⟩
         rw [hre]
         exact totK_monoB hr hb hb1 hkm htm H0.out hi' (by omega))
        have HK4:Hid (∀i:Nat,addY (addY cs1 (ysK m bound k t i)) (ysT m bound k ((lo+(i:Int))::t))=addY cs1 (ysK m bound k t (i+1))/\totY (ysK m bound k t (i+1))=totY (ysK m bound k t i)+totY (ysT m bound k ((lo+(i:Int))::t))):=Lib.hid (fun i=>by
         rw [addY_append,ysK_succ,<-hlo,totY_append]
         exact ⟨rfl,rfl⟩)
        have HRE:=Lib.hid hre
        have HTBJ:Hid (∀i,i<J->∀a∈(lo+(i:Int))::t,-9223372036854775808<=a/\a<=9223372036854775807):=Lib.hid (fun i hi' a ha=>by
         rcases List.mem_cons.1 ha with rfl |ha
         ·omega
         ·exact HTB.out a ha)
        have hq1:q+1<j:=by omega
        have hJn:0<J:=by omega
        have hhl:hi-lo+1=(J:Int):=by omega
        have HIH:=Lib.hid (IH.out k (by omega))
        clear hre hr hq0 hmj htq hkm htm hlo hhi hJ hJ2 IH
        go_wp2_with fail
        go_loopw [17] (fun x wr=>∃i:Nat,i<=J/\x= .int .i64 (lo+(i:Int))/\Hid (Row wr g 3 .i64 (addY cs1 (ysK m bound k t i)))/\Hid (Only g wL wr)/\Hid (cs1.sum+totY (ysK m bound k t i)<=budget)) (fun x _=>(hi-intOf x+1).toNat)
        case atStart=>exact ⟨0,by omega,by simp,Lib.hid (by show Row wL g _ _ (addY cs1 []);rw [addY_nil];exact HRL.out),Lib.hid (Only.refl _ _),Lib.hid (by show cs1.sum+0<=budget;omega)⟩
        case round=>
         obtain ⟨i,hi',rfl,HRI,HOI,HBI⟩:=hrel
         have hfr:=HFW.out wr HOI.out
         obtain ⟨⟨f0,f1,f2⟩,-,f3⟩:=blk3 hfr
         have oW:Old w.heap.size wr:=⟨f3⟩
         by_cases hlt:i<J
         ·have hgr:g<wr.heap.size:=HRI.out.lt
          have hOT:Oth 3 w wr:=HTL2.out.trans (HOI.out.oth HRL.out)
          have hF:=HFV.out.oth hOT (by decide) (by decide) (by decide) (by decide)
          have hT:=HTV.out.oth hOT (by decide)
          obtain ⟨k1,k2,k3⟩:=HK2.out i (by omega)
          obtain ⟨k4,k5⟩:=HK4.out i
          have k6:=(HK2.out (i+1) (by omega)).2.2
          have HK6:=Lib.hid (show cs1.sum+totY (ysK m bound k t i)+totY (ysT m bound k ((lo+(i:Int))::t))<=cs1.sum+totY rest by omega)
          have hle:lo+(i:Int)<=hi:=by omega
          have HLG:Hid (∀W,Ext wr W->Calls Tryz.prog 115 #[.int .i64 (lo+(i:Int)),.slice TA q tc] W (fun e w'=>∃A c,e= .returned (.slice A (q+1) c)/\Ints w' A 2 .i64 ((lo+(i:Int))::t)/\Step W w')):=Lib.hid (fun W e=>by
           have :=rlonger_ok (w:=W) (c:=tc) (lo+(i:Int)) hT (by rw [HTL.out];omega)
           rw [HTL.out] at this
           refine this.mono ?_
           rintro e w' ⟨A,c,rfl,a1,-,-,a4⟩
           exact ⟨A,c,by rw [List.length_cons,HTL.out],a1,a4⟩)
          have HCN:Hid (∀(W:World) (A:Option Addr) (c:Nat),Ints W A 2 .i64 ((lo+(i:Int))::t)->Ext wr W->Calls Tryz.prog 126 #[.agg #[.int .i64 j,.slice SB j sc,.slice DB (j+1) dc],.int .i64 bound,.slice A (q+1) c,.slice (some ⟨g,0,none⟩) j j,.int .i64 budget] W (RetCnt W m bound budget k ((lo+(i:Int))::t) (addY cs1 (ysK m bound k t i)) g)):=Lib.hid (fun W A c hI e=>
           HIH.out W SB DB A sc dc c (q+1) g _ _ (by have :=HQ.out;omega) (hF.ext e) hI (by rw [List.length_cons,HTL.out]) (HTBJ.out i hlt) (HK1.out i hlt) (HRI.out.ext e) (by rw [addY_len];omega) k2 (by have :=HBI.out;omega))
          have HEX:Hid (∀W,Ext wr W->W.cell? ⟨w.heap.size,0,none⟩=some (.int .i64 j)/\W.cell? ⟨w.heap.size,1,none⟩=some (.slice SB j sc)/\W.cell? ⟨w.heap.size,2,none⟩=some (.slice DB (j+1) dc)):=Lib.hid (fun W e=>(blk3 (heap_of_ext e hfr)).1)
          have HEO:Hid (∀W,Only g wr W->W.cell? ⟨w.heap.size,0,none⟩=some (.int .i64 j)/\W.cell? ⟨w.heap.size,1,none⟩=some (.slice SB j sc)/\W.cell? ⟨w.heap.size,2,none⟩=some (.slice DB (j+1) dc)):=Lib.hid (fun W e=>(blk3 (HFW.out W (HOI.out.trans e))).1)
          unfold RetCnt at HCN
          obtain ⟨t2,ht2⟩:∃t2,t2=(lo+(i:Int))::t:=⟨_,rfl⟩
          rw [<-ht2] at HLG HCN HK6 k4 k5
          rw [k1] at HCN
          have HK45:=Lib.hid (And.intro k4 k5)
          clear hF hT hOT k1 k2 k3 k4 k5 k6 ht2 hfr
          generalize ysT m bound k t2=yT at*
          go_wp2_with fail
          go_region_held3 (fun w'=>w'.cell? ⟨w.heap.size,0,none⟩=some (.int .i64 j)/\w'.cell? ⟨w.heap.size,1,none⟩=some (.slice SB j sc)/\w'.cell? ⟨w.heap.size,2,none⟩=some (.slice DB (j+1) dc))
           (first |exact HEX.out _ inferInstance |exact HEO.out _ hOx)
           (first
            |(go_at_call 115;refine (HLG.out _ inferInstance).mono ?_;rintro e w5 ⟨A5,c5,rfl,hI5,hs5⟩)
            |(go_at_call 126;refine (HCN.out _ _ _ hI5 inferInstance).mono ?_;rintro e w6 ⟨ok,cs2,rfl,hO6,hR6,hl6,ht6,hf6⟩;have hOx:Only g wr w6:=(Only.of_ext (inferInstance:Ext wr w5) (Nat.le_of_lt hgr)).trans hO6))
          have hgw6:g<w6.heap.size:=hR6.lt
          have HR6:=Lib.hid hR6
          have HT6:=Lib.hid ht6
          have HF6:=Lib.hid hf6
          have HO6:=Lib.hid hOx
          have HXW:=Lib.hid (HOL.out.trans (HOI.out.trans hOx))
          have hal:=addY_len cs1 (ysK m bound k t i)
          have hl7:cs2.length=cs.length:=by omega
          clear hR6 ht6 hf6 hO6 hOx
          cases ok with
          |false=>
           go_wp2_with fail
           go_ret
           have h8:=HF6.out trivial
           have h9:=HK6.out
           exact .inl ⟨rfl,HXW.out.trans (Only.of_ext inferInstance (Nat.le_of_lt hgw6)),cs2,HR6.out.ext inferInstance,by omega,by omega⟩
          |true=>
           obtain ⟨h8,h9⟩:=HT6.out rfl
           have hw3:IntKind.i64.wrap (lo+(i:Int)+1)=lo+((i+1:Nat):Int):=by rw [IntKind.wrap_i64];omega
           have HS8:=Lib.hid h8
           have HK9:=Lib.hid h9
           clear h8 h9
           go_wp2_with fail
           refine ⟨⟨i+1,by omega,by first |rfl |(congr 1;omega),Lib.hid ?_,Lib.hid ?_,Lib.hid ?_⟩,by simp [intOf]<;>omega⟩
           ·have h1:=HR6.out
            rw [HS8.out,HK45.out.1] at h1
            exact h1.ext inferInstance
           ·exact (HOI.out.trans HO6.out).trans (Only.of_ext inferInstance (Nat.le_of_lt hgw6))
           ·rw [HK45.out.2]
            have :=HK9.out
            omega
         ·obtain rfl:i=J:=by omega
          have hend:decide (lo+(i:Int)<=hi)=false:=by simp;omega
          have hxr2:Only g w wr:=HOL.out.trans HOI.out
          go_wp2_with fail
          go_ret
          refine ⟨true,_,rfl,hxr2.trans (Only.of_ext inferInstance (by have :=HRI.out.lt;omega)),HRI.out.ext inferInstance,by rw [addY_len];omega,fun _=>⟨by rw [HRE.out],?_⟩,fun h=>by cases h⟩
          have :=HBI.out
          rw [HRE.out];omega
set_option maxRecDepth 20000 in
theorem rSteps_big {w0 w:World} {A:Option Addr} {c n:Nat} {m:List (List Int)} {bound budget:Int} (hM:MatA w0 A m) (hL:LLLed m) (h1:m.length=n) (hb:0<=bound) (hb1:bound<=4611686018427387904) (hu0:0<=budget) (hu1:budget<=1000000) [hx:Ext w0 w]:
  Calls Tryz.prog 73 #[.slice A n c,.int .i64 bound,.int .i64 budget] w (RetSt w m n bound budget):=by
 have hr:=red_ok hL.red
 have hn8:=hL.len8
 have hn1:=hL.len1
 have HAR:Hid (∀W,Ext w0 W->Calls Tryz.prog 100 #[.slice A n c,.int .i64 bound,.int .i64 4611686018427387904,.int .i64 budget] W (RetVal W (.int .i64 0))):=Lib.hid (fun W e=>rargs_ok hM hL h1 hb (by omega) hu0 hu1)
 have HOF:Hid (∀W,Ext w0 W->Calls Tryz.prog 64 #[.slice A n c] W (RetFr W m n)):=Lib.hid (fun W e=>rFrame_ok hM hL h1)
 have hmk:=run_make_ints (P:=Tryz.prog) (k:= .i64) Tryz.underlying62 infoInt_ (by omega) (n:Int) (by omega) (by omega)
 simp only [Int.toNat_natCast] at hmk
 have h0n:∀x∈List.replicate n (0:Int),0<=x:=fun x hx=>by rw [List.eq_of_mem_replicate hx];omega
 have hs0:(List.replicate n (0:Int)).sum=0:=by simp
 have htop:=top_nonneg hr hb
 have HCN:Hid (∀(W:World) (SB DB:Option Addr) (sc dc g:Nat),FrV W m SB DB->Row W g 3 .i64 (List.replicate n 0)->Calls Tryz.prog 126 #[.agg #[.int .i64 n,.slice SB n sc,.slice DB (n+1) dc],.int .i64 bound,.slice none 0 0,.slice (some ⟨g,0,none⟩) n n,.int .i64 budget] W (RetCnt W m bound budget (n-1) [] (List.replicate n 0) g)):=Lib.hid (fun W SB DB sc dc g hF hR=>
  rcount_big hL h1 hb hb1 hu0 hu1 (n-1) W SB DB none sc dc 0 0 g [] _ (by omega) hF Ints.nil rfl (fun a ha=>by simp at ha) (by rw [h1] at htop;exact htop) hR (by simp) h0n (by rw [hs0];exact hu0))
 have e1:=totS_ys hr hb
 have e2:=stS_ys hr hb
 rw [h1] at e1 e2
 have HT:Hid (totS m bound=totY (ysT m bound (n-1) [])):=Lib.hid e1
 have HS:Hid (stS m bound=addY (List.replicate n 0) (ysT m bound (n-1) [])):=Lib.hid e2
 unfold RetCnt at HCN
 rw [hs0,Int.zero_add,<-HT.out,<-HS.out] at HCN
 unfold RetSt
 generalize totS m bound=tot at*
 generalize stS m bound=st at*
 clear hr hL h1 htop e1 e2 HT HS h0n hs0 hM
 obtain ⟨zs,hzs⟩:∃zs,zs=List.replicate n (0:Int):=⟨_,rfl⟩
 have HZS:=Lib.hid hzs
 rw [<-hzs] at HCN
 clear hzs
 go_enter Tryz.func73,Tryz.ntmps73
 go_wp2_with (first
  |(go_at_call 100;refine (HAR.out _ inferInstance).mono ?_;rintro e w1 ⟨rfl,hs1⟩)
  |(go_at_call 64;refine (HOF.out _ inferInstance).mono ?_;rintro e w2 ⟨SB,sc,DB,dc,rfl,hF,-,-,-,-,hs2⟩;have hR2:Row w2 w1.heap.size 3 .i64 zs:=(by rw [HZS.out];exact (Row.made w1 n .i64 3).ext inferInstance);have hx12:Ext w1 w2:=inferInstance;have hx02:Ext w w2:=inferInstance;have hws:w.heap.size<=w1.heap.size:=(inferInstance:Ext w w1).size)
  |(go_at_call 126;refine (HCN.out _ _ _ _ _ _ hF hR2).mono ?_;rintro e w6 ⟨ok,cs2,rfl,hO6,hR6,hl6,ht6,hf6⟩;have hx6:Ext w w6:=hO6.ext hx02 hws;have HR6:=Lib.hid hR6;have HT6:=Lib.hid ht6;have HF6:=Lib.hid hf6;clear hR6 ht6 hf6 hO6;cases ok))
 ·go_ret2
  exact .inr ⟨HF6.out trivial,rfl,hx6.toStep⟩
 ·obtain ⟨h8,h9⟩:=HT6.out trivial
  have h10:=HR6.out
  rw [h8] at h10
  go_ret2
  exact .inl ⟨h9,_,rfl,h10,hws,hx6.toStep⟩
end Go.Proofs.YtijfjailmilkfaaGreat
