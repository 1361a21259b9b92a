/- Vm5 Own64 Mk1 Mk11 Vr11 Lat Pf2 -/
import Derived.Test.YtcmkopogafchiaaGreatXM01
import Derived.Test.YtcmkopogafchiaaGreatProg
import Derived.Test.YtcmkopogafchiaaGreatShelf
import Derived.Test.YtcmkopogafchiaaGreatX10
import Derived.Lib.SmallJoins
import Derived.ChangeSlices
set_option maxHeartbeats 8000000
set_option linter.unusedVariables false
set_option linter.unusedSimpArgs false
set_option linter.constructorNameAsVariable false
namespace Go.Proofs.YtcmkopogafchiaaGreat
open La
theorem sum_ite (n a:Nat) (c:Int) (h:a<n):((List.range n).map fun i=>if a=i then c else 0).sum=c:=by
 induction n with
 |zero=>omega
 |succ n ih=>
  rw [List.range_succ,List.map_append,List.sum_append]
  simp only [List.map_cons,List.map_nil,List.sum_cons,List.sum_nil]
  by_cases e:a=n
  ·have :∀l:List Nat,(∀i∈l,i<n)->(l.map fun i=>if a=i then c else 0).sum=0:=fun l hl=>by
    induction l with
    |nil=>rfl
    |cons i l ih2=>
     have :=hl i (by simp)
     simp only [List.map_cons,List.sum_cons]
     rw [ih2 (fun x hx=>hl x (by simp [hx])),if_neg (by omega)];rfl
   rw [this _ (fun i hi=>by simpa using hi),if_pos e];omega
  ·rw [ih (by omega),if_neg e];omega
theorem sum_map_add (l:List Nat) (f g:Nat->Int):(l.map fun i=>f i+g i).sum=(l.map f).sum+(l.map g).sum:=by
 induction l with
 |nil=>rfl
 |cons i l ih=>simp only [List.map_cons,List.sum_cons,ih];omega
theorem sum_at (n:Nat) (ys:List (Int×Int)) (h:∀p∈ys,1<=p.1/\p.1<=(n:Int)):((List.range n).map (atY ys)).sum=totY ys:=by
 induction ys with
 |nil=>
  have :∀l:List Nat,(l.map (atY [])).sum=0:=fun l=>by
   induction l with
   |nil=>rfl
   |cons i l ih=>rw [List.map_cons,List.sum_cons,ih];rfl
  exact this _
 |cons p ys ih=>
  have h1:=ih (fun q hq=>h q (by simp [hq]))
  have h2:=h p (by simp)
  have e:(atY (p::ys))=fun i=>(if (p.1-1).toNat=i then p.2 else 0)+atY ys i:=rfl
  rw [e,sum_map_add,sum_ite n _ _ (by omega),h1]
  rfl
theorem full_len {m:List (List Int)} (hr:RedOK m) {bound:Int} (hb:0<=bound) (h2:2<=m.length):
  (searchL (minorsTo m m.length) (lamTo m m.length) false (m.length-1) (left (ent m) bound (m.length-1+1) []) false []).length=2*(collL m bound false).length+1:=by
 have hall:=isSmallB_all hr.small
 have htop:=top_nonneg hr hb
 have hmemF:∀x,x∈searchL (minorsTo m m.length) (lamTo m m.length) false (m.length-1) (left (ent m) bound (m.length-1+1) []) false []↔x.length=m.length/\nrm m x<=bound:=fun x=>by
  rw [mem_search hr hb false x (m.length-1) false [] (by omega) (by simp) htop (by simp)]
  constructor
  ·rintro ⟨p,rfl,hp,a1,_,_⟩
   simp only [List.append_nil] at a1 |-
   have hpl:p.length=m.length:=by omega
   rw [left_nrm hall bound p hpl] at a1
   exact ⟨hpl,by omega⟩
  ·rintro ⟨a1,a2⟩
   rw [left_nrm hall bound x a1]
   exact ⟨x,by simp,by omega,by omega,by simp,by simp⟩
 have hnd:=nodup_search hr hb false (m.length-1) false [] (by omega) (by simp) htop (by simp)
 have hmem:=mem_coll hr hb false
 have hndc:=nodup_coll hr hb false
 obtain ⟨C,hC⟩:∃C,C=collL m bound false:=⟨_,rfl⟩
 rw [<-hC] at hmem hndc |-
 have hz:LastPos (List.replicate m.length 0)->False:=fun h=>lastPos_ne h (fun y hy=>List.eq_of_mem_replicate hy)
 have hnd2:((List.replicate m.length 0)::(C++C.map (List.map fun c=>-c))).Nodup:=by
  refine List.nodup_cons.2 ⟨fun hh=>?_,List.nodup_append.2 ⟨hndc,?_,?_⟩⟩
  ·rcases List.mem_append.1 hh with hh |hh
   ·exact hz ((hmem _).1 hh).2.1
   ·obtain ⟨y,hy,e⟩:=List.mem_map.1 hh
    have hy2:=((hmem y).1 hy).2.1
    exact lastPos_ne hy2 (fun c hc=>by
     have :-c∈List.replicate m.length (0:Int):=by rw [<-e];exact List.mem_map.2 ⟨c,hc,rfl⟩
     have :=List.eq_of_mem_replicate this
     omega)
  ·unfold List.Nodup
   rw [List.pairwise_map]
   refine List.Pairwise.imp ?_ hndc
   intro a b hab e
   have :=congrArg (List.map fun c=>-c) e
   rw [neg_neg_map,neg_neg_map] at this
   exact hab this
  ·intro a ha b hb' e
   obtain ⟨y,hy,rfl⟩:=List.mem_map.1 hb'
   subst e
   exact lastPos_neg ((hmem y).1 hy).2.1 ((hmem _).1 ha).2.1
 have hp:=(List.perm_ext_iff_of_nodup hnd hnd2).2 fun x=>by
  rw [hmemF,List.mem_cons,List.mem_append,hmem]
  constructor
  ·rintro ⟨a1,a2⟩
   by_cases h0:∀y∈x,y=0
   ·exact .inl (List.eq_replicate_iff.2 ⟨a1,h0⟩)
   ·rcases lastPos_or h0 with h |h
    ·exact .inr (.inl ⟨a1,h,a2,by simp⟩)
    ·refine .inr (.inr (List.mem_map.2 ⟨x.map fun c=>-c,(hmem _).2 ⟨by simpa using a1,h,by rw [nrm_neg];exact a2,by simp⟩,neg_neg_map x⟩))
  ·rintro (rfl |⟨a1,_,a3,_⟩ |hx)
   ·refine ⟨by simp,?_⟩
    have :=left_zeros hr hb (by omega:0<=m.length) (List.replicate m.length 0) (fun y hy=>List.eq_of_mem_replicate hy)
    rw [left_nrm hall bound _ (by simp)] at this
    omega
   ·exact ⟨a1,a3⟩
   ·obtain ⟨y,hy,rfl⟩:=List.mem_map.1 hx
    obtain ⟨b1,_,b3,_⟩:=(hmem y).1 hy
    rw [nrm_neg]
    exact ⟨by simpa using b1,b3⟩
 have :=hp.length_eq
 simp at this
 omega
structure StepsOK (m:List (List Int)) (bound:Int) (st:List Int) (total:Int):Prop where
 spec:∀budget:Int,0<=budget->budget<=1000000->stepsSpec m bound budget=if total<=budget then (st,0) else ([],9)
 len:st.length=m.length
 sum:st.sum=total
 one:∀x∈st,1<=x
 last:lastOf st=2*(collL m bound false).length+1
theorem mult_len {h bound:Int} (r:Nat):(multL h bound false r).length=r:=by
 unfold multL
 rw [List.length_map,List.filter_eq_self.2 (by simp),List.length_range]
theorem sum_ge_len (l:List Int) (h:∀x∈l,1<=x):(l.length:Int)<=l.sum:=by
 induction l with
 |nil=>simp
 |cons a l ih=>
  have :=ih (fun x hx=>h x (by simp [hx]))
  have :=h a (by simp)
  simp only [List.sum_cons,List.length_cons];omega
def totS (m:List (List Int)) (b:Int):Int:=totY (tailsY (minorsTo m m.length) (lamTo m m.length) m.length b)
def stS (m:List (List Int)) (b:Int):List Int:=(List.range m.length).map (atY (tailsY (minorsTo m m.length) (lamTo m m.length) m.length b))
theorem steps_ok {m:List (List Int)} (h:isRedB m=true) {b:Nat} (hb1:(b:Int)<1073741824):StepsOK m b (stS m b) (totS m b)/\(totS m b<=(capT b (m.length-1):Nat)∨(m.length=1/\totS m b<=2*isq b+1)):=by
 have hr:=red_ok h
 have hl:=isSmallB_len hr.small
 have hcrowd:crowdB m b=false:=by simp [crowdB];omega
 obtain ⟨ys,hys⟩:∃ys,ys=tailsY (minorsTo m m.length) (lamTo m m.length) m.length b:=⟨_,rfl⟩
 have e1:totS m b=totY ys:=by rw [hys];rfl
 have e2:stS m b=(List.range m.length).map (atY ys):=by rw [hys];rfl
 rw [e1,e2]
 have hspec:(∀p∈ys,0<=p.2/\1<=p.1/\p.1<=(m.length:Int))->∀budget:Int,0<=budget->budget<=1000000->stepsSpec m b budget=if totY ys<=budget then ((List.range m.length).map (atY ys),0) else ([],9):=fun hok budget b0 b1=>by
  have hargs:argsB b budget=true:=by simp [argsB];omega
  unfold stepsSpec
  rw [h,hargs,hcrowd]
  simp only [if_true,Bool.false_eq_true,if_false]
  unfold stepsOf
  rw [<-hys,stepsGo_eq m.length ys budget _ hok b0 (by simp)]
  have e:((List.range m.length).map fun i=>(List.replicate m.length (0:Int)).getD i 0+atY ys i)=(List.range m.length).map (atY ys):=by
   refine List.map_congr_left fun i hi=>?_
   have hi':i<m.length:=by simpa using hi
   simp [List.getD,hi']
  rw [e]
  by_cases ht:totY ys<=budget
  ·rw [if_pos ht,if_pos ht]
  ·rw [if_neg ht,if_neg ht]
 have hlast:∀F:Nat->Int,lastOf ((List.range m.length).map F)=F (m.length-1):=fun F=>by
  have :m.length-1<m.length:=by omega
  simp [lastOf,List.getD,this]
 by_cases h1:m.length=1
 ·have hy:ys=[(1,2*((isq ((b:Int) / vD (minorsTo m m.length) 1).toNat:Nat):Int)+1)]:=by rw [hys];unfold tailsY;rw [if_pos h1]
  have hok:∀p∈ys,0<=p.2/\1<=p.1/\p.1<=(m.length:Int):=fun p hp=>by
   rw [hy] at hp
   obtain rfl:p=_:=by simpa using hp
   simp only
   omega
  have hd:vD (minorsTo m m.length) 1=ent m 0 0:=by
   rw [minorsTo_get (by omega)];rfl
  have hd1:1<=ent m 0 0:=E_pos (m:=ent m) hr.pos (k:=0) (by omega)
  refine ⟨⟨hspec hok,by simp,sum_at _ ys (fun p hp=>(hok p hp).2),fun x hx=>?_,?_⟩,.inr ⟨h1,?_⟩⟩
  ·obtain ⟨i,hi,rfl⟩:=List.mem_map.1 hx
   have hi':i=0:=by have :i<m.length:=by simpa using hi
                    omega
   subst hi'
   rw [hy]
   simp only [atY]
   rw [if_pos (by decide)]
   omega
  ·rw [hlast,hy,show m.length-1=0 by omega]
   simp only [atY]
   rw [if_pos (by decide)]
   have e:collL m b false=multL (ent m 0 0) b false (isq ((b:Int) / ent m 0 0).toNat):=by unfold collL;rw [if_pos h1]
   rw [e,mult_len,hd]
   omega
  ·rw [hy]
   simp only [totY]
   have q:((b:Int) / vD (minorsTo m m.length) 1).toNat<=b:=by
    rw [hd]
    have :=Int.ediv_le_self (a:=(b:Int)) (ent m 0 0) (by omega)
    omega
   have :isq ((b:Int) / vD (minorsTo m m.length) 1).toNat<=isq b:=by
    obtain ⟨s1,_⟩:=isq_spec ((b:Int) / vD (minorsTo m m.length) 1).toNat
    obtain ⟨_,s2⟩:=isq_spec b
    have :=sq_lt_of (Nat.lt_of_le_of_lt (Nat.le_trans s1 q) s2)
    omega
   omega
 ·have hy:ys=visitY (minorsTo m m.length) (lamTo m m.length) m.length (m.length-1) (left (ent m) b (m.length-1+1) []) []:=by
   rw [hys];unfold tailsY;rw [if_neg h1,top_eq hr]
  have htop:=top_nonneg (bound:=(b:Int)) hr (by omega)
  have hok:=visit_ok hr (by omega) hb1 (m.length-1) [] (by omega) (by simp) htop
  rw [<-hy] at hok
  refine ⟨⟨hspec hok,by simp,sum_at _ ys (fun p hp=>(hok p hp).2),fun x hx=>?_,?_⟩,.inl ?_⟩
  ·obtain ⟨i,hi,rfl⟩:=List.mem_map.1 hx
   have hi':i<m.length:=by simpa using hi
   rw [hy]
   exact visit_one hr (by omega) hb1 (m.length-1) [] (by omega) (by simp) (by simp) i (by omega) hi'
  ·rw [hlast,hy,visit_full hr (by omega) hb1 (m.length-1) [] (by omega) (by simp) htop,full_len hr (by omega) (by omega)]
   omega
  ·rw [hy]
   exact tot_cap hr hb1 (m.length-1) [] (by omega) (by simp) htop
theorem StepsOK.last_le {m:List (List Int)} {bound:Int} {st:List Int} {total:Int} (h:StepsOK m bound st total) (h1:1<=m.length):lastOf st+(m.length-1:Nat)<=total:=by
 have hl:=h.len
 have hs:=h.sum
 obtain ⟨p,c,rfl,hp⟩:=snoc_split (p:=st) (k:=m.length-1) (by omega)
 have e:lastOf (p++[c])=c:=by simp [lastOf]
 rw [e]
 have h2:=sum_ge_len p (fun x hx=>h.one x (by simp [hx]))
 simp only [List.sum_append,List.sum_cons,List.sum_nil] at hs
 omega
theorem enum_ok {m:List (List Int)} (h:isRedB m=true) {b:Nat} (hb1:(b:Int)<1073741824) (exact:Bool) (hlen:(collL m b exact).length<=1073741824):EnumOK m b exact:=by
 have hr:=red_ok h
 refine ⟨hr.form,hr.s64,redM_of h,by omega,fun _=>hb1,fun h1=>?_,hlen,fun x hx=>vec_coll hr (by omega) hb1 exact x hx,nodup_canon hr (by omega) exact⟩
 have hd1:1<=ent m 0 0:=E_pos (m:=ent m) hr.pos (k:=0) (by omega)
 have q:((b:Int) / ent m 0 0).toNat<=b:=by
  have :=Int.ediv_le_self (a:=(b:Int)) (ent m 0 0) (by omega)
  omega
 obtain ⟨s1,_⟩:=isq_spec ((b:Int) / ent m 0 0).toNat
 rcases Nat.lt_or_ge (isq ((b:Int) / ent m 0 0).toNat) 1048577 with h2 |h2
 ·omega
 ·have :=Nat.mul_le_mul h2 h2
  omega
end Go.Proofs.YtcmkopogafchiaaGreat
namespace Go.Proofs.YtcmkopogafchiaaGreat
open Go.RowKit
section
variable {w w':World} {lo g n rows:Nat} {hs:List Nat} {a:List (List Int)}
end
section
variable {T:Nat} {w w' w2 w0:World}
theorem Only.trans (h:Only T w w') (h':Only T w' w2):Only T w w2:=
 ⟨h.below.trans h'.below,fun b h1 h2=>(h'.rest b h1 (Nat.lt_of_lt_of_le h2 h.below.size)).trans (h.rest b h1 h2)⟩
theorem Only.of_ext (h:Ext w w') (hT:T<=w.heap.size):Only T w w':=⟨h.below.mono hT,fun b _ hb=>h.below.block b hb⟩
theorem Only.set (hT:T<w.heap.size) (i:Nat) (u:Value):Only T w (w.setCell ⟨T,i,none⟩ u):=
 ⟨(Below.refl T w).setCell (Nat.le_refl _) u,fun b h1 _=>Below.heap_setCell w ⟨T,i,none⟩ u b (by simp;omega)⟩
theorem Only.ext (h:Only T w w') (hx:Ext w0 w) (hT:w0.heap.size<=T):Ext w0 w':=⟨hx.below.trans (h.below.mono hT)⟩
end
theorem TapeAt.only {w w':World} {T:Nat} {l:List Int} {k:Nat} (h:TapeAt w T l k) (hk:∀b,b<=T->w'.heap[b]? =w.heap[b]?):TapeAt w' T l k:=by
 obtain ⟨te,A,c,h1,h2,h3⟩:=h
 refine ⟨te,A,c,(hk T (Nat.le_refl _)).trans h1,fun h0=>?_,h3⟩
 obtain ⟨b,o,cs,fr,rfl,hb,hc⟩:=h2 h0
 exact ⟨b,o,cs,fr,rfl,(hk b (Nat.le_of_lt (h3 (by simpa using h0) _ rfl))).trans hb,hc⟩
theorem TapeAt.ext {w w':World} {T:Nat} {l:List Int} {k:Nat} (h:TapeAt w T l k) (hx:Ext w w'):TapeAt w' T l k:=by
 obtain ⟨te,A,c,h1,h2,h3⟩:=h
 exact ⟨te,A,c,heap_of_ext hx h1,h2.ext hx,h3⟩
def I8 (l:List Int):Prop:=∀x∈l,-128<=x/\x<=127
theorem I8.get {l:List Int} (h:I8 l) (k:Nat):-128<=l.getD k 0/\l.getD k 0<=127:=by
 rcases Nat.lt_or_ge k l.length with hk |hk
 ·have :l.getD k 0=l[k]:=by simp [List.getD,hk]
  rw [this];exact h _ (List.getElem_mem hk)
 ·rw [List.getD_eq_getElem?_getD,List.getElem?_eq_none hk];simp
def RetTape (w:World) (T:Nat) (l:List Int) (k:Nat) (v:Value) (e:Ending) (w':World):Prop:=e= .returned v/\TapeAt w' T l k/\Only T w w'
theorem rNext_ok {w:World} {T:Nat} {l:List Int} {k:Nat} (h:TapeAt w T l k) (h8:I8 l) (hl:l.length<=9223372036854775807):
  Calls Tryz.prog 34 #[.pointer (some ⟨T,0,none⟩)] w (RetTape w T l (k+1) (.int .i64 (l.getD k 0))):=by
 have hT:=h.lt
 obtain ⟨te,A,c,h1,h2,h3⟩:=id h
 obtain ⟨q1,q2,q3,q4,q5⟩:=box_cells2 h1
 by_cases hk:k<l.length
 ·rw [show min k l.length=k by omega] at q2 h1
  obtain ⟨b,o,x,rfl,hx,hc,hb⟩:=h2.at_ hk
  have hbT:=h3 (by omega) _ rfl
  simp only at hbT
  have hxe:l.getD k 0=x:=by simp [hx]
  have hx8:=h8 x (List.mem_of_getElem? hx)
  have HG:=Lib.hid h
  have H1:=Lib.hid h1
  have H2:=Lib.hid h2
  have hge:decide ((l.length:Int)<=(k:Int))=false:=by simp;omega
  have hap:Apart b T:=⟨by omega⟩
  rw [hxe]
  clear h h1 h2 h3 hx hxe
  go_enter Tryz.func34,Tryz.ntmps34
  go_wp2_with fail
  go_quiet (fail)
  go_wp2_with fail
  go_quiet (fail)
  go_wp2_with fail
  go_ret
  rename_i nq1 _
  have hxa:Ext w (w.drewN nq1):=inferInstance
  have hT2:T<(w.drewN nq1).heap.size:=hT
  have hb2:((w.drewN nq1).setCell ⟨T,1,none⟩ (.int .i64 ((k:Int)+1))).heap[T]? =some (.cells #[.slice (some ⟨b,o,none⟩) l.length c,.int .i64 ((k:Int)+1)] 67 (0,0)):=box_set2_1 (heap_of_ext hxa H1.out)
  refine ⟨rfl,⟨te,some ⟨b,o,none⟩,c,?_,?_,fun _ a ha=>?_⟩,?_⟩
  ·rw [show ((min (k+1) l.length:Nat):Int)=(k:Int)+1 by omega]
   exact hb2
  ·have hA1:Ints ((w.drewN nq1).setCell ⟨T,1,none⟩ (.int .i64 ((k:Int)+1))) (some ⟨b,o,none⟩) te .i8 l:=fun h0=>by
    obtain ⟨b',o',cs,fr,e1,hb',hc'⟩:=(H2.out.ext hxa) h0
    have e2:b=b':=by injection e1 with e1;injection e1
    exact ⟨b',o',cs,fr,e1,(Below.heap_setCell _ ⟨T,1,none⟩ _ b' (by simp;omega)).trans hb',hc'⟩
   exact hA1.ext inferInstance
  ·injection ha with ha
   subst ha
   exact hbT
  ·exact ((Only.of_ext hxa (Nat.le_of_lt hT)).trans (Only.set hT2 1 (.int .i64 ((k:Int)+1)))).trans (Only.of_ext inferInstance (by rw [size_setCell];exact Nat.le_of_lt hT2))
 ·rw [show min k l.length=l.length by omega] at q2 h1
  have hxe:l.getD k 0=0:=by rw [List.getD_eq_getElem?_getD,List.getElem?_eq_none (by omega)];rfl
  have hge:decide ((l.length:Int)<=(l.length:Int))=true:=by simp
  have HH:Hid (∀W,Ext w W->TapeAt W T l (k+1)):=Lib.hid (fun W hh=>by
   obtain ⟨te',A',c',a1,a2,a3⟩:=h.ext hh
   exact ⟨te',A',c',by rw [show min (k+1) l.length=min k l.length by omega];exact a1,a2,a3⟩)
  rw [hxe]
  clear h h1 h2 h3 hxe hk
  go_enter Tryz.func34,Tryz.ntmps34
  go_wp2_with fail
  go_quiet (fail)
  go_wp2_with fail
  go_ret
  exact ⟨rfl,HH.out _ inferInstance,Only.of_ext inferInstance (Nat.le_of_lt hT)⟩
def vecF (l:List Int) (n:Nat):List Int:=(List.range n).map fun i=>l.getD i 0
def RetVc (w:World) (n:Nat) (v:List Int) (e:Ending) (w':World):Prop:=∃g:Nat,e= .returned (.slice (some ⟨g,0,none⟩) n n)/\w.heap.size<=g/\Row w' g 2 .i64 v/\Step w w'
theorem vecF_step {l:List Int} {n i:Nat} (hi:i<n):(vecF l i++List.replicate (n-i) 0).set i (l.getD i 0)=vecF l (i+1)++List.replicate (n-(i+1)) 0:=by
 have hl:(vecF l i).length=i:=by simp [vecF]
 rw [List.set_append_right _ _ (by omega),hl,Nat.sub_self,show n-i=(n-(i+1))+1 by omega,List.replicate_succ,List.set_cons_zero]
 unfold vecF
 rw [List.range_succ,List.map_append,List.append_assoc]
 rfl
set_option maxRecDepth 10000 in
theorem rVector_ok {w:World} {te:TypeId} {A:Option Addr} {l:List Int} {c n:Nat} (hN:Ints w A te .i8 l) (h8:I8 l) (hl:l.length<=9223372036854775807) (hn:n<=1000):
  Calls Tryz.prog 14 #[.slice A l.length c,.int .i64 n] w (RetVc w n (vecF l n)):=by
 have hmk2:=run_make_ints (P:=Tryz.prog) Tryz.underlying28 infoI64 (by omega) (n:Int) (by omega) (by omega)
 have hT0:TapeAt (w.alloc (.cells #[.slice A l.length c,.int .i64 0] 67)) w.heap.size l 0:=by
  refine ⟨te,A,c,?_,hN.ext inferInstance,fun h0 a ha=>?_⟩
  ·rw [Nat.zero_min];exact heap_alloc_new w _
  ·obtain ⟨b,o,cs,fr,rfl,hb,hc⟩:=hN (by simpa using h0)
   injection ha with ha
   subst ha
   exact lt_of_heap hb
 have HNX:Hid (∀(W:World) (q:Nat),TapeAt W w.heap.size l q->Calls Tryz.prog 34 #[.pointer (some ⟨w.heap.size,0,none⟩)] W (RetTape W w.heap.size l (q+1) (.int .i64 (l.getD q 0)))):=Lib.hid (fun W q hq=>rNext_ok hq h8 hl)
 have HX:Hid (∀q,-128<=l.getD q 0/\l.getD q 0<=127):=Lib.hid h8.get
 have HT0:=Lib.hid hT0
 unfold RetVc
 clear hT0 hN h8
 go_enter Tryz.func14,Tryz.ntmps14
 go_wp2_with fail
 go_loopw [7,15] (fun _ i wr=>∃q:Nat,q<=n/\i= .int .i64 q/\Hid (Row wr (w.heap.size+1) 2 .i64 (vecF l q++List.replicate (n-q) 0))/\Hid (TapeAt wr w.heap.size l q)/\Hid (Only w.heap.size w wr)) (fun _ i _=>n-(intOf i).toNat)
 case atStart=>exact ⟨0,by omega,rfl,Lib.hid (by have h:=Row.made (w.alloc (.cells #[.slice A l.length c,.int .i64 0] 67)) n .i64 2;rw [World.size_alloc] at h;simpa [vecF] using h),Lib.hid (HT0.out.ext inferInstance),Lib.hid (Only.of_ext inferInstance (Nat.le_refl _))⟩
 case round=>
  obtain ⟨q,hq,rfl,HR,HT,HO⟩:=hrel
  by_cases hlt:q<n
  ·have hlen:(vecF l q++List.replicate (n-q) 0).length=n:=by simp [vecF];omega
   have HS:=Lib.hid (vecF_step (l:=l) hlt)
   have hxq:=HX.out q
   have HN1:=Lib.hid (HNX.out wr q HT.out)
   generalize l.getD q 0=v at*
   have hTlt:=HT.out.lt
   unfold RetTape at HN1
   clear HX HNX HT0
   go_wp2_with (go_at_call 34;refine HN1.out.mono ?_;rintro e w5 ⟨rfl,hT5,hO5⟩;have hR5:Row w5 (w.heap.size+1) 2 .i64 (vecF l q++List.replicate (n-q) 0):=(hO5.rest _ (by omega) HR.out.lt).trans HR.out;obtain ⟨x5,-,hc5⟩:=hR5.cell (i:=q) (by rw [hlen];exact hlt);have hf5:=hR5.frozen q;have oR:Old (w.heap.size+1) w5:=⟨hR5.lt⟩)
   have hO6:=HO.out.trans hO5
   exact ⟨⟨q+1,by omega,by go_num,Lib.hid (by have h:=hR5.set q v;rw [HS.out] at h;exact h),Lib.hid (hT5.only fun b hb=>Below.heap_setCell w5 ⟨w.heap.size+1,q,none⟩ _ b (by simp;omega)),Lib.hid ⟨hO6.below.setCell (p:=⟨w.heap.size+1,q,none⟩) (by simp) _,fun b h1 h2=>absurd h2 (by omega)⟩⟩,by simp [intOf];omega⟩
  ·obtain rfl:q=n:=by omega
   go_wp2_with fail
   go_ret
   have hr:=HR.out
   rw [Nat.sub_self,List.replicate_zero,List.append_nil] at hr
   exact ⟨w.heap.size+1,rfl,by omega,hr,(HO.out.ext (Ext.refl _) (Nat.le_refl _)).toStep⟩
theorem few_steps2 {m:List (List Int)} (h:isRedB m=true) {b:Nat} (h4:m.length<=4) (hb:b+2*m.length<=12∨b<=6∨(m.length<=3/\b<=8)):totS m b<=8000:=by
 have hl:=isSmallB_len (red_ok h).small
 have hb12:b<=10:=by omega
 have hc:=(steps_ok h (b:=b) (by omega)).2
 have key:∀n,n<4->∀b,b<11->(b+2*(n+1)<=12∨b<=6∨(n+1<=3/\b<=8))->capT b n<=8000/\isq b<=3000:=by decide+kernel
 have :=key (m.length-1) (by omega) b (by omega) (by omega)
 rcases hc with h |h<;>omega
def RetVL (w:World) (m:List (List Int)) (b:Int) (e:Ending) (w':World):Prop:=∃B d L,e= .returned (.tuple #[.slice B (List.length L) d,.int .i64 (totS m b),.int .i64 0])/\Mat64 w' B L/\L.length<=d/\d<=9223372036854775807/\VecList m b false L/\L.length<=8000/\Step w w'
theorem VecList.rows {m:List (List Int)} {b:Int} {e:Bool} {L:List (List Int)} (h:VecList m b e L):∀r∈L,r.length=m.length:=fun r hr=>((h.mem r).1 hr).1
theorem mem_le_sum {l:List Int} {x:Int} (h:∀y∈l,1<=y) (hx:x∈l):x<=l.sum:=by
 induction l with
 |nil=>simp at hx
 |cons a l ih=>
  have h0:=sum_ge_len l (fun y hy=>h y (by simp [hy]))
  have h1:=h a (by simp)
  rw [List.sum_cons]
  rcases List.mem_cons.1 hx with rfl |hx
  ·omega
  ·have :=ih (fun y hy=>h y (by simp [hy])) hx
   omega
theorem Vectors_red {w0 w:World} {A:Option Addr} {c b:Nat} {m:List (List Int)} {budget:Int} (h:Mat64 w0 A m) (hc:m.length<=c) (hc2:c<=9223372036854775807) (hr:isRedB m=true) (h4:m.length<=4) (hb:b+2*m.length<=12∨b<=6∨(m.length<=3/\b<=8)) (hbd:totS m b<=budget) (hbd2:budget<=1000000) [hx:Ext w0 w]:
  Calls Tryz.prog 60 #[.slice A m.length c,.int .i64 b,.int .i64 budget] w (RetVL w m b):=by
 have hR:=red_ok hr
 have hl:=isSmallB_len hR.small
 have hst:=(steps_ok hr (b:=b) (by omega)).1
 have hfew:=few_steps2 hr h4 hb
 have hlast:=hst.last_le (by omega)
 have hll:=hst.last
 have hsl:=sum_ge_len _ hst.one
 have hsum:=hst.sum
 have hlen:=hst.len
 have hcl:(collL m b false).length<=8000:=by omega
 have hmx:∀x∈stS m b,0<=x/\x<=1099511627776:=fun x hx=>by
  have h1:=hst.one x hx
  have :x<=(stS m b).sum:=mem_le_sum hst.one hx
  omega
 have hspec:=hst.spec budget (by omega) hbd2
 rw [if_pos hbd] at hspec
 refine (Vectors_ok h.a hc hc2 (enum_ok hr (by omega) false (by omega)) hspec (by omega) (by omega) (by omega) hmx (by omega)).mono ?_
 rintro e w' ⟨B,d,L,he,hM,h1,h2,hp,hw,hs⟩
 rw [hsum] at he
 refine ⟨B,d,L,he,hM,h1,h2,vecList_of hR (by omega) hp hw,?_,hs⟩
 have :=hp.length_eq
 simp at this
 omega
end Go.Proofs.YtcmkopogafchiaaGreat
namespace Go.Proofs.YtcmkopogafchiaaGreat
open Go.ChangeShapes Go.WideShapes Go.ChangeAt Go.RowKit Go.Joins
section
variable {H:Type} {enc:TypeId×Value->H} {P:Program} {W W':World} {sp:Nat->Bool}
theorem ints_open {t e:TypeId} {k:IntKind} {n:Nat} {v:Value} {y:DataW H×List MemPlace} (ht:P.underlying t=some (.slice e)) (he:P.underlying e=some (.int k)) (hc:P.cellsOf e=1)
  (h:DataW.trod enc P W 0 (fun _=>true) true n t [v]=some y):∃(A:Option Addr) (c:Nat) (l:List Int) (te:TypeId),v= .slice A l.length c/\l.length<=c/\c<=9223372036854775807/\Ints W A te k l/\∀x∈l,(Lit.int k x).wf=true:=by
 rcases open_ints ht he hc h with ⟨h1,h2⟩ |⟨a,len,cap,zs,hcs,hb0,hl,hm,hz,hx,hcell,hw⟩
 ·injection h1 with h1
  exact ⟨none,0,[],0,by rw [h1];rfl,Nat.le_refl _,by omega,Ints.nil,by simp⟩
 ·injection hcs with hcs
  rw [if_pos rfl] at hz
  have hlen:(zs.take len).length=len:=by rw [List.length_take];omega
  have hm2:cap<=9223372036854775807:=hm
  by_cases h0:len=0
  ·refine ⟨some a,cap,[],0,by rw [hcs,h0];rfl,by simp,hm2,Ints.nil,by simp⟩
  ·have hc0:=hcell 0 (by omega)
   have ha:a.add 0=a:=by simp [Addr.add]
   rw [ha] at hc0
   unfold World.cell? at hc0
   split at hc0
   ·rename_i c te fr hbl
    split at hc0
    ·cases hc0
    rename_i hsp
    obtain ⟨ab,ao,asp⟩:=a
    have has:asp=none:=by cases asp<;>simp_all
    subst has
    refine ⟨_,cap,zs.take len,te,by rw [hlen];exact hcs,by omega,hm2,fun _=>⟨ab,ao,c,fr,rfl,hbl,fun j u hu=>?_⟩,fun x hx=>hw x (List.mem_of_mem_take hx)⟩
    rw [List.getElem?_map,List.getElem?_take] at hu
    split at hu
    ·rename_i hj
     have hcj:=hcell j (by omega)
     rw [show (⟨ab,ao,none⟩:Addr).add j=⟨ab,ao+j,none⟩ by unfold Addr.add;split<;>simp_all] at hcj
     unfold World.cell? at hcj
     simp only [hbl] at hcj
     rw [List.getElem?_eq_getElem (by omega)] at hu
     simp at hu
     subst hu
     have :zs.getD j 0=zs[j]'(by omega):=by simp [List.getD,show j<zs.length by omega]
     rw [this] at hcj
     simpa using hcj
    ·cases hu
   ·cases hc0
end
theorem i8_wf {l:List Int} (h:∀x∈l,(Lit.int .i8 x).wf=true):I8 l:=fun x hx=>by
 have h:=h x hx
 have e1:IntKind.i8.min=-128:=rfl
 have e2:IntKind.i8.max=127:=rfl
 simp [Lit.wf] at h
 omega
end Go.Proofs.YtcmkopogafchiaaGreat
namespace Go.Proofs.YtcmkopogafchiaaGreat
theorem keyM_neg (m:List (List Int)) (x y:List Int):keyM m x (y.map fun c=>-c)=keyM m x y:=by
 have h:applyL m (y.map fun c=>-c)=(applyL m y).map fun c=>-c:=by simp [applyL,dotL_neg_right]
 unfold keyM
 rw [nrm_neg,h,dotL_neg_left,Int.natAbs_neg]
theorem keyM_canon (m:List (List Int)) (x y:List Int):keyM m x (canonL y)=keyM m x y:=by
 unfold canonL;split
 ·exact keyM_neg m x y
 ·rfl
theorem VecList.norms {m:List (List Int)} {b:Int} {e:Bool} {L:List (List Int)} (h:VecList m b e L):L.Pairwise (fun x y=>nrm m x<=nrm m y):=h.sorted.imp (fun {x y} h=>by
 rcases Int.lt_or_le (nrm m y) (nrm m x) with h1 |h1
 ·unfold cmpK orI at h
  rw [cmpI_gt h1,if_neg (by decide)] at h
  omega
 ·exact h1)
theorem countL_perm {κ:Type} [DecidableEq κ] {lt:κ->κ->Prop} [DecidableRel lt] (O:STO lt) {L S:List κ} (hp:L.Perm S):countL lt L=countL lt S:=
 CountOK.unique O (countL_ok O _) ((countL_ok O S).perm hp.symm)
/-! ## An exchange of two coordinates -/
def swapL:List Int->List Int
 |[a,b]=>[b,a]
 |l=>l
theorem len2 {y:List Int} (h:y.length=2):∃a b,y=[a,b]:=by
 match y,h with
 |[a,b],_=>exact ⟨a,b,rfl⟩
theorem key_swap (p q c d a b:Int):keyM [[q,0],[0,p]] [d,c] [b,a]=keyM [[p,0],[0,q]] [c,d] [a,b]:=by
 unfold keyM nrm applyL
 simp only [List.map_cons,List.map_nil,dotL,Int.zero_mul,Int.add_zero,Int.zero_add]
 congr 1
 ·omega
 ·rw [Int.add_comm]
theorem moves {p q:Int} {n:Int} {L L':List (List Int)} (h:VecList [[p,0],[0,q]] n false L) (h':VecList [[q,0],[0,p]] n false L') (c d:Int):profM [[q,0],[0,p]] L' [d,c]=profM [[p,0],[0,q]] L [c,d]:=by
 have hk:∀y∈L,keyM [[q,0],[0,p]] [d,c] (canonL (swapL y))=keyM [[p,0],[0,q]] [c,d] y:=by
  intro y hy
  obtain ⟨a,b,rfl⟩:=len2 ((h.mem y).1 hy).1
  rw [keyM_canon]
  exact key_swap p q c d a b
 have hn:∀(p q a b:Int),nrm [[q,0],[0,p]] (canonL [b,a])=nrm [[p,0],[0,q]] [a,b]:=by
  intro p q a b
  rw [nrm_canon]
  have :=congrArg Prod.fst (key_swap p q 0 0 a b)
  exact this
 have hfz:∀a b:Int,0<firstNZ [a,b]->0<firstNZ (canonL [b,a]):=by
  intro a b hab
  refine canon_first _ (fun e=>?_)
  have hz:=firstNZ_zero e
  have e1:=hz a (by simp)
  have e2:=hz b (by simp)
  rw [e1,e2] at hab
  simp [firstNZ] at hab
 have hss:∀a b:Int,0<firstNZ [a,b]->canonL (swapL (canonL [b,a]))=[a,b]:=by
  intro a b hab
  by_cases hc:firstNZ [b,a]<0
  ·have e1:canonL [b,a]=[-b,-a]:=if_pos hc
   rw [e1]
   show canonL [-a,-b]=[a,b]
   have e:firstNZ [-a,-b]=-firstNZ [a,b]:=firstNZ_neg [a,b]
   have e2:canonL [-a,-b]=[- -a,- -b]:=if_pos (by omega)
   rw [e2,Int.neg_neg,Int.neg_neg]
  ·have e1:canonL [b,a]=[b,a]:=if_neg hc
   rw [e1]
   show canonL [a,b]=[a,b]
   exact if_neg (by omega)
 have hp:(L.map fun y=>canonL (swapL y)).Perm L':=by
  refine (List.perm_ext_iff_of_nodup ?_ h'.nodup).2 fun z=>?_
  ·rw [List.Nodup,List.pairwise_map]
   refine h.nodup.imp_of_mem ?_
   intro y y' hy hy' hne e
   obtain ⟨a,b,rfl⟩:=len2 ((h.mem y).1 hy).1
   obtain ⟨a',b',rfl⟩:=len2 ((h.mem y').1 hy').1
   apply hne
   have e2:canonL (swapL (canonL [b,a]))=canonL (swapL (canonL [b',a'])):=congrArg (fun z=>canonL (swapL z)) e
   rwa [hss a b ((h.mem _).1 hy).2.1,hss a' b' ((h.mem _).1 hy').2.1] at e2
  ·rw [List.mem_map,h'.mem]
   constructor
   ·rintro ⟨y,hy,rfl⟩
    obtain ⟨h1,h2,h3,-⟩:=(h.mem y).1 hy
    obtain ⟨a,b,rfl⟩:=len2 h1
    exact ⟨by rw [canonL_length];rfl,hfz a b h2,by show nrm _ (canonL [b,a])<=n;rw [hn];exact h3,fun e=>by cases e⟩
   ·rintro ⟨h1,h2,h3,-⟩
    obtain ⟨b,a,rfl⟩:=len2 h1
    refine ⟨canonL [a,b],(h.mem _).2 ⟨by rw [canonL_length];rfl,hfz b a h2,?_,fun e=>by cases e⟩,hss b a h2⟩
    rw [hn q p b a]
    exact h3
 unfold profM
 rw [countL_perm ltK_sto (hp.symm.map _),List.map_map]
 congr 1
 exact List.map_congr_left (fun y hy=>hk y hy)
end Go.Proofs.YtcmkopogafchiaaGreat
