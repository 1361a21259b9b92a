/- Ea1 Ea2 Ea3 Ea4 -/
import Derived.Test.YtijfjailmilkfaaGreatG23
import Derived.Test.YtijfjailmilkfaaGreatProg
import Derived.Test.YtijfjailmilkfaaGreatShelf
set_option maxHeartbeats 8000000
set_option linter.unusedVariables false
set_option linter.unusedSimpArgs false
set_option linter.constructorNameAsVariable false
namespace Go.Proofs.YtijfjailmilkfaaGreat
open Go.RowKit
open La
attribute [local go_sem] run_fieldQ0
def BndOK (m:List (List Int)) (b:Int):Prop:=b<=4611686018427387904/\(b<1073741824∨m.length=1)
theorem coord_okB {m:List (List Int)} (hr:RedOK m) {bound:Int} (hb:0<=bound) (hB:BndOK m bound) (x:List Int) (hx:x.length=m.length) (hn:nrm m x<=bound):absSum x<=1099511627776:=by
 rcases hB.2 with hb1 |h1
 ·exact coord_small hr hb hb1 x hx hn
 ·have hall:=isSmallB_all hr.small
  have hd1:1<=ent m 0 0:=E_pos (m:=ent m) hr.pos (k:=0) (by omega)
  obtain ⟨c,rfl⟩:∃c,x=[c]:=by
   match x,hx.trans h1 with
   |[c],_=>exact ⟨c,rfl⟩
  have hn2:nrm m [c]=ent m 0 0*c*c:=by
   rw [nrm_eq hall [c] hx]
   simp only [qE,quadZ,sumZ,E]
   grind
  have hc:c*c<=ent m 0 0*(c*c):=by
   have h0:0<=c*c:=by rcases Int.le_total 0 c with h |h;exact Int.mul_nonneg h h;exact Int.mul_nonneg_of_nonpos_of_nonpos h h
   have :=Int.mul_le_mul_of_nonneg_right hd1 h0
   omega
  have hm:=hB.1
  rw [hn2,Int.mul_assoc] at hn
  have hcc:(c.natAbs:Int)*(c.natAbs:Int)=c*c:=by rw [<-Int.natCast_mul,Int.natAbs_mul_self]
  simp only [absSum]
  rcases Int.lt_or_le (c.natAbs:Int) 1099511627776 with h |h
  ·omega
  ·have :=Int.mul_le_mul h h (by omega) (by omega)
   omega
theorem steps_okB {m:List (List Int)} (h:isRedB m=true) {b:Nat} (hB:BndOK m b):StepsOK m b (stS m b) (totS m b):=by
 rcases hB.2 with hb1 |h1
 ·exact (steps_ok h hb1).1
 ·have hm:=hB.1
  have hr:=red_ok h
  have hl:=isSmallB_len hr.small
  have hcrowd:crowdB m b=false:=by simp [crowdB];omega
  obtain ⟨ys,hys⟩:∃ys,ys=tailsY (minorsTo m m.length) (lamTo m m.length) m.length b:=⟨_,rfl⟩
  have e1:totS m b=totY ys:=by rw [hys];rfl
  have e2:stS m b=(List.range m.length).map (atY ys):=by rw [hys];rfl
  rw [e1,e2]
  have hspec:(∀p∈ys,0<=p.2/\1<=p.1/\p.1<=(m.length:Int))->∀budget:Int,0<=budget->budget<=1000000->stepsSpec m b budget=if totY ys<=budget then ((List.range m.length).map (atY ys),0) else ([],9):=fun hok budget b0 b1=>by
   have hargs:argsB b budget=true:=by simp [argsB];omega
   unfold stepsSpec
   rw [h,hargs,hcrowd]
   simp only [if_true,Bool.false_eq_true,if_false]
   unfold stepsOf
   rw [<-hys,stepsGo_eq m.length ys budget _ hok b0 (by simp)]
   have e:((List.range m.length).map fun i=>(List.replicate m.length (0:Int)).getD i 0+atY ys i)=(List.range m.length).map (atY ys):=by
    refine List.map_congr_left fun i hi=>?_
    have hi':i<m.length:=by simpa using hi
    simp [List.getD,hi']
   rw [e]
   by_cases ht:totY ys<=budget
   ·rw [if_pos ht,if_pos ht]
   ·rw [if_neg ht,if_neg ht]
  have hlast:∀F:Nat->Int,lastOf ((List.range m.length).map F)=F (m.length-1):=fun F=>by
   have :m.length-1<m.length:=by omega
   simp [lastOf,List.getD,this]
  have hy:ys=[(1,2*((isq ((b:Int) / vD (minorsTo m m.length) 1).toNat:Nat):Int)+1)]:=by rw [hys];unfold tailsY;rw [if_pos h1]
  have hok:∀p∈ys,0<=p.2/\1<=p.1/\p.1<=(m.length:Int):=fun p hp=>by
   rw [hy] at hp
   obtain rfl:p=_:=by simpa using hp
   simp only
   omega
  have hd:vD (minorsTo m m.length) 1=ent m 0 0:=by
   rw [minorsTo_get (by omega)];rfl
  refine ⟨hspec hok,by simp,sum_at _ ys (fun p hp=>(hok p hp).2),fun x hx=>?_,?_⟩
  ·obtain ⟨i,hi,rfl⟩:=List.mem_map.1 hx
   have hi':i<m.length:=by simpa using hi
   obtain rfl:i=0:=by omega
   rw [hy]
   simp only [atY]
   rw [if_pos (by decide)]
   omega
  ·rw [hlast,hy,show m.length-1=0 by omega]
   simp only [atY]
   rw [if_pos (by decide)]
   have e:collL m b false=multL (ent m 0 0) b false (isq ((b:Int) / ent m 0 0).toNat):=by unfold collL;rw [if_pos h1]
   rw [e,mult_len,hd]
   omega
theorem enum_okB {m:List (List Int)} (h:isRedB m=true) {b:Nat} (hB:BndOK m b) (ht:totS m b<=1000000) (exact:Bool):EnumOK m b exact:=by
 have hr:=red_ok h
 have hl:=isSmallB_len hr.small
 have hso:=steps_okB h hB
 have hlast:=hso.last_le hl.1
 have hlo:=hso.last
 have hex:=coll_exact_len hr (bound:=(b:Int)) (by omega)
 have hlen:(collL m b exact).length<=1000000:=by
  cases exact
  ·omega
  ·omega
 refine ⟨hr.form,hr.s64,redM_of h,by omega,fun h2=>?_,fun h1=>?_,by omega,fun x hx=>?_,nodup_canon hr (by omega) exact⟩
 ·rcases hB.2 with h3 |h3
  ·exact h3
  ·omega
 ·have e:collL m b false=multL (ent m 0 0) b false (isq ((b:Int) / ent m 0 0).toNat):=by unfold collL;rw [if_pos h1]
  have :=mult_len (h:=ent m 0 0) (bound:=(b:Int)) (isq ((b:Int) / ent m 0 0).toNat)
  rw [<-e] at this
  omega
 ·obtain ⟨h1,h2,h3,_⟩:=(mem_coll hr (by omega) exact x).1 hx
  have h4:=inRange_of (coord_okB hr (by omega) hB x h1 h3)
  refine ⟨by simp [fitsB,h1,h4],?_,?_⟩
  ·have :=nrm_nonneg hr x h1
   have :=hB.1
   simp only [dotB,decide_eq_true_eq]
   omega
  ·simp only [canonB,h4,Bool.true_and,Bool.not_eq_true',decide_eq_false_iff_not]
   intro e
   exact lastPos_ne h2 (firstNZ_zero e)
set_option maxRecDepth 20000 in
theorem rleaves_big {m:List (List Int)} {n base:Nat} {bound:Int} (hL:LLLed m) (h1:m.length=n) (hb:0<=bound) (hb1:bound<=4611686018427387904) (k:Nat):
  ∀(w:World) (SB DB TA OA:Option Addr) (sc dc tc oc q len:Nat) (t:List Int) (vs:List Value) (its:List (Int×List Int)),n=k+q+1->FrV w m SB DB->Ints w TA 2 .i64 t->t.length=q->(∀a∈t,-9223372036854775808<=a/\a<=9223372036854775807)->0<=left (ent m) bound (k+1) t->Own w base 53 2 OA len oc vs->ItV w vs its->base<=w.heap.size->len+(lvs m bound k t).length<=4000000->
  Calls Tryz.prog 65 #[.agg #[.int .i64 n,.slice SB n sc,.slice DB (n+1) dc],.int .i64 bound,.slice TA q tc,.slice OA len oc] w (RetLv w base len its m (lvs m bound k t)):=by
 induction k using Nat.strongRecOn with
 |ind k ih=>
  intro w SB DB TA OA sc dc tc oc q len t vs its hq hF hT htl htb h0 hO hV hbs hln
  have IH:=Lib.hid ih
  clear ih
  have hr:=red_ok hL.red
  have hn8:=hL.len8
  have hkm:k<m.length:=by omega
  have htm:t.length=m.length-1-k:=by omega
  obtain ⟨v1,v2,v3,v4,v5,v6⟩:=ends_big hr hb hb1 hkm htm h0
  have HIV:Hid (∀W,Ext w W->Calls Tryz.prog 114 #[.agg #[.int .i64 n,.slice SB n sc,.slice DB (n+1) dc],.int .i64 bound,.slice TA q tc] W (RetVal W (.tuple #[.int .i64 (tLo m bound k t),.int .i64 (tHi m bound k t)]))):=Lib.hid (fun W e=>
   rInterval_ok hF hL h1 hq hT htl htb (by omega) (by omega) h0 (by omega) (by omega) (by omega) (by omega))
  rw [lvs_K] at hln |-
  unfold RetLv
  obtain ⟨J,hJ⟩:∃J,J=tCnt m bound k t:=⟨_,rfl⟩
  rw [<-hJ] at hln |-
  have hJ2:J=(tHi m bound k t-tLo m bound k t+1).toNat:=hJ
  have HK1:Hid (∀i,i<J->0<=left (ent m) bound k ((tLo m bound k t+(i:Int))::t)):=Lib.hid (fun i hi'=>kid hr t hkm htm h0 (j:=i) (by rw [hJ] at hi';exact hi'))
  have HK2:Hid (∀i,i<=J->(lvK m bound k t i).length<=(lvK m bound k t J).length):=Lib.hid (fun i hi'=>lvK_le m bound k t hi')
  have HK4:=Lib.hid (lvK_succ m bound k t)
  obtain ⟨lo,hlo⟩:∃lo,lo=tLo m bound k t:=⟨_,rfl⟩
  obtain ⟨hi,hhi⟩:∃hi,hi=tHi m bound k t:=⟨_,rfl⟩
  rw [<-hlo] at v1 v2 v3 v4 HIV HK1 HK4 hJ2
  rw [<-hhi] at v1 v2 v5 v6 HIV hJ2
  have hhl:hi-lo+1=(J:Int):=by omega
  have HTBJ:Hid (∀i,i<J->∀a∈(lo+(i:Int))::t,-9223372036854775808<=a/\a<=9223372036854775807):=Lib.hid (fun i hi' a ha=>by
   rcases List.mem_cons.1 ha with rfl |ha
   ·omega
   ·exact htb a ha)
  have HNB:Hid (k=0->∀i,i<J->-9223372036854775808<=nrm m ((lo+(i:Int))::t)/\nrm m ((lo+(i:Int))::t)<=9223372036854775807):=Lib.hid (fun e i hi'=>by
   have h4:=HK1.out i hi'
   subst e
   have hlx:((lo+(i:Int))::t).length=m.length:=by simp;omega
   rw [left_nrm hL.all bound _ hlx] at h4
   have :=nrm_nonneg hr _ hlx
   omega)
  have HFV:=Lib.hid hF
  have HTV:=Lib.hid hT
  have HH1:=Lib.hid h1
  have HTL:=Lib.hid htl
  have HQ:=Lib.hid hq
  have HO:=Lib.hid hO
  have HV:=Lib.hid hV
  have hqn:q<n:=by omega
  have hn9:n<=8:=by omega
  clear hlo hhi h1 hkm hq htl hJ hF hT htb h0 hO hV hr htm hJ2
  go_enter Tryz.func65,Tryz.ntmps65
  go_upto_region 2 with (go_at_call 114;refine (HIV.out _ inferInstance).mono ?_;rintro e w1 ⟨rfl,hs1⟩)
  have hx1:Ext w w1:=inferInstance
  have hbs1:base<=w1.heap.size:=Nat.le_trans hbs hx1.size
  have hfb:w1.heap[w.heap.size]? =some (.cells #[.int .i64 n,.slice SB n sc,.slice DB (n+1) dc] 106 (0,0)):=heap_of_ext (inferInstance:Ext (w.alloc (.cells #[.int .i64 n,.slice SB n sc,.slice DB (n+1) dc] 106)) w1) (heap_alloc_new w _)
  have HFW:Hid (∀W,Grow base 53 w1 W->W.heap[w.heap.size]? =some (.cells #[.int .i64 n,.slice SB n sc,.slice DB (n+1) dc] 106 (0,0))):=Lib.hid (fun W h=>h.heap hfb (by decide))
  have HG0:Hid (Grow base 53 w w1):=Lib.hid (Grow.of_ext hx1 hbs)
  clear hfb
  go_wp2_with fail
  go_loopw [3,11] (fun s3 x wr=>∃(i:Nat) (A3:Option Addr) (c3:Nat) (vs3:List Value),i<=J/\x= .int .i64 (lo+(i:Int))/\s3= .slice A3 (len+(lvK m bound k t i).length) c3/\Hid (Own wr base 53 2 A3 (len+(lvK m bound k t i).length) c3 vs3)/\Hid (ItV wr vs3 (its++itm m (lvK m bound k t i)))/\Hid (Grow base 53 w1 wr)) (fun _ x _=>(hi-intOf x+1).toNat)
  case atStart=>exact ⟨0,OA,oc,vs,by omega,by simp,rfl,Lib.hid (HO.out.ext hx1),Lib.hid (by have :=HV.out.ext hx1;simpa [lvK,itm] using this),Lib.hid (Grow.of_ext (Ext.refl _) hbs1)⟩
  case round=>
   obtain ⟨i,A3,c3,vs3,hi',rfl,rfl,HOI,HVI,HGI⟩:=hrel
   have hfr:=HFW.out wr HGI.out
   obtain ⟨⟨f0,f1,f2⟩,-,f3⟩:=blk3 hfr
   have oW:Old w.heap.size wr:=⟨f3⟩
   have hbsr:base<=wr.heap.size:=Nat.le_trans hbs1 HGI.out.below.size
   by_cases hlt:i<J
   ·have hG:=HG0.out.stepI HGI.out
    have hF:=HFV.out.oth (Oth.of_grow hG) (by decide) (by decide) (by decide) (by decide)
    have hT:=HTV.out.oth (Oth.of_grow hG) (by decide)
    have hk4:=HK4.out i
    have hk2:=HK2.out (i+1) (by omega)
    rw [hk4,List.length_append] at hk2
    have hle:lo+(i:Int)<=hi:=by omega
    have HLG:Hid (∀W,Ext wr W->Calls Tryz.prog 115 #[.int .i64 (lo+(i:Int)),.slice TA q tc] W (fun e w'=>∃A c,e= .returned (.slice A (q+1) c)/\Ints w' A 2 .i64 ((lo+(i:Int))::t)/\q+1<=c/\c<=9223372036854775807/\Step W w')):=Lib.hid (fun W e=>by
     have :=rlonger_ok (w:=W) (c:=tc) (lo+(i:Int)) hT (by rw [HTL.out];omega)
     rw [HTL.out] at this
     refine this.mono ?_
     rintro e w' ⟨A,c,rfl,a1,a2,a3,a4⟩
     rw [List.length_cons,HTL.out] at a2
     exact ⟨A,c,by rw [List.length_cons,HTL.out],a1,a2,a3,a4⟩)
    have hw3:IntKind.i64.wrap (lo+(i:Int)+1)=lo+((i+1:Nat):Int):=by rw [IntKind.wrap_i64];omega
    have HEX:Hid (∀W,Ext wr W->W.cell? ⟨w.heap.size,0,none⟩=some (.int .i64 n)/\W.cell? ⟨w.heap.size,1,none⟩=some (.slice SB n sc)/\W.cell? ⟨w.heap.size,2,none⟩=some (.slice DB (n+1) dc)):=Lib.hid (fun W e=>(blk3 (heap_of_ext e hfr)).1)
    rcases k with _ |k
    ·have hqe:q+1=n:=by have :=HQ.out;omega
     have hb0:decide ((q:Int)+1<(n:Int))=false:=by simp;omega
     have HPA:Hid (∀(W1 W:World) (A:Option Addr) (c:Nat),Ints W1 A 2 .i64 ((lo+(i:Int))::t)->Ext W1 W->Ext wr W->Calls Tryz.prog 117 #[.agg #[.int .i64 n,.slice SB n sc,.slice DB (n+1) dc],.slice A (q+1) c] W (RetRat W (fun p q=>p=nrm m ((lo+(i:Int))::t)/\q=1))):=Lib.hid (fun W1 W A c i1 e1 e2=>by
      rw [hqe]
      exact rPartial_ok (hF.ext e2) hL HH1.out i1 (by rw [List.length_cons,HTL.out];exact hqe) (HTBJ.out i hlt))
     have hnb:=HNB.out rfl i hlt
     have HLN:Hid (lvN m bound 0 ((lo+(i:Int))::t)=[(lo+(i:Int))::t]):=Lib.hid rfl
     rw [HLN.out] at hk4 hk2
     have HK4':=Lib.hid hk4
     have HTL1:Hid (((lo+(i:Int))::t).length=q+1):=Lib.hid (by rw [List.length_cons,HTL.out])
     simp only [List.length_cons,List.length_nil] at hk2
     obtain ⟨t2,ht2⟩:∃t2,t2=(lo+(i:Int))::t:=⟨_,rfl⟩
     rw [<-ht2] at HLG HPA hnb HK4' HTL1
     have HN2:Hid (itm m [t2]=[(nrm m t2,t2)]):=Lib.hid rfl
     unfold RetRat at HPA
     generalize nrm m t2=nv at*
     clear hF hT hG hk4 ht2 hfr hqe
     go_wp2_with (first
      |(go_at_call 115;refine (HLG.out _ inferInstance).mono ?_;rintro e w5 ⟨A5,c5,rfl,hI5,h51,h52,hs5⟩;obtain ⟨x0,x1,x2⟩:=HEX.out w5 inferInstance;have hxr5:Ext wr w5:=inferInstance)
      |(go_at_call 117;refine (HPA.out _ _ _ _ hI5 inferInstance inferInstance).mono ?_;rintro e w6 ⟨g6,B6,k6,d6,g7,B7,k7,d7,p,qq,rfl,hz6,hz7,⟨rfl,-⟩,hs6⟩)
      |(go_at_call 116;refine (rInt64_fit hz6 hnb.1 hnb.2).mono ?_;rintro e w7 ⟨rfl,hs7⟩;have hI7:=hI5.ext (inferInstance:Ext w5 w7);have hx7:Ext wr w7:=inferInstance;have hbs7:base<=w7.heap.size:=Nat.le_trans hbsr hx7.size)
      |(at_builtin;go_loud (refine wpList_app _ rfl _ _ 48 rfl base 53 (.agg #[.int .i64 0,.slice none 0 0]) 2 32 Tryz.underlying48 infoIt rfl (by omega) (by omega) A3 (len+(lvK m bound 0 t i).length) c3 vs3 rfl (HOI.out.ext inferInstance) (some ⟨w7.heap.size,0,none⟩) 1 1 [.int .i64 p,.slice A5 (q+1) c5] rfl (Arr.new w7 53 #[.int .i64 p,.slice A5 (q+1) c5]) (by simp) (by simp [Value.oneCell']) (by omega) (by simp;omega) ?_);intro A8 c8 w8 hown hg;have HO8:=Lib.hid hown;have HG8:=Lib.hid hg;clear hown hg))
     refine ⟨⟨i+1,A8,c8,vs3++[.int .i64 p,.slice A5 (q+1) c5],by omega,by first |rfl |(congr 1;omega),?_,Lib.hid ?_,Lib.hid ?_,Lib.hid (HGI.out.stepI ((Grow.of_ext (inferInstance:Ext wr (w7.alloc (.cells #[.int .i64 p,.slice A5 (q+1) c5] 53))) hbsr).stepI HG8.out))⟩,by simp [intOf]<;>omega⟩
     ·rw [HK4'.out];simp only [List.length_append,List.length_cons,List.length_nil];rfl
     ·rw [HK4'.out,List.length_append,List.length_singleton,<-Nat.add_assoc]
      exact HO8.out
     ·rw [HK4'.out,itm_append,HN2.out,<-List.append_assoc]
      rw [<-HTL1.out]
      exact (ItV.snoc (HVI.out.ext (inferInstance:Ext wr w7)) (hI7) (by rw [HTL1.out];exact h51) h52).map fun h=>(h.ext (inferInstance:Ext w7 (w7.alloc (.cells #[.int .i64 p,.slice A5 (q+1) c5] 53)))).oth (Oth.of_grow HG8.out) (by decide)
    ·have hq1:q+1<n:=by have :=HQ.out;omega
     have hb0:decide ((q:Int)+1<(n:Int))=true:=by simp;omega
     have HLN:Hid (lvN m bound (k+1) ((lo+(i:Int))::t)=lvs m bound k ((lo+(i:Int))::t)):=Lib.hid rfl
     rw [HLN.out] at hk4 hk2
     have HCN:Hid (∀(W:World) (A:Option Addr) (c:Nat),Ints W A 2 .i64 ((lo+(i:Int))::t)->Ext wr W->Calls Tryz.prog 65 #[.agg #[.int .i64 n,.slice SB n sc,.slice DB (n+1) dc],.int .i64 bound,.slice A (q+1) c,.slice A3 (len+(lvK m bound (k+1) t i).length) c3] W (RetLv W base (len+(lvK m bound (k+1) t i).length) (its++itm m (lvK m bound (k+1) t i)) m (lvs m bound k ((lo+(i:Int))::t)))):=Lib.hid (fun W A c hI e=>
      IH.out k (by omega) W SB DB A A3 sc dc c c3 (q+1) _ _ vs3 _ (by have :=HQ.out;omega) (hF.ext e) hI (by rw [List.length_cons,HTL.out]) (HTBJ.out i hlt) (HK1.out i hlt) (HOI.out.ext e) (HVI.out.ext e) (Nat.le_trans hbsr e.size) (by omega))
     have HK4':=Lib.hid hk4
     unfold RetLv at HCN
     obtain ⟨t2,ht2⟩:∃t2,t2=(lo+(i:Int))::t:=⟨_,rfl⟩
     rw [<-ht2] at HLG HCN HK4'
     clear hF hT hG hk4 hk2 ht2 hfr HLN
     generalize lvs m bound k t2=L2 at*
     go_wp2_with (first
      |(go_at_call 115;refine (HLG.out _ inferInstance).mono ?_;rintro e w5 ⟨A5,c5,rfl,hI5,h51,h52,hs5⟩;obtain ⟨x0,x1,x2⟩:=HEX.out w5 inferInstance;have hxr5:Ext wr w5:=inferInstance)
      |(go_at_call 65;refine (HCN.out _ _ _ hI5 inferInstance).mono ?_;rintro e w6 ⟨A6,c6,vs6,rfl,hO6,hV6,hG6⟩;have HO6:=Lib.hid hO6;have HV6:=Lib.hid hV6;have HG6:=Lib.hid ((Grow.of_ext hxr5 hbsr).stepI hG6);clear hO6 hV6 hG6))
     refine ⟨⟨i+1,A6,c6,vs6,by omega,by first |rfl |(congr 1;omega),?_,Lib.hid ?_,Lib.hid ?_,Lib.hid (HGI.out.stepI HG6.out)⟩,by simp [intOf]<;>omega⟩
     ·rw [HK4'.out,List.length_append,<-Nat.add_assoc]
     ·rw [HK4'.out,List.length_append,<-Nat.add_assoc]
      exact HO6.out
     ·rw [HK4'.out,itm_append,<-List.append_assoc]
      exact HV6.out
   ·obtain rfl:i=J:=by omega
    have hend:decide (lo+(i:Int)<=hi)=false:=by simp;omega
    go_wp2_with fail
    go_ret
    exact ⟨A3,c3,vs3,rfl,HOI.out,HVI.out,HG0.out.stepI HGI.out⟩
theorem lvs_lenB {m:List (List Int)} (hr:RedOK m) {b:Int} (hb:0<=b) (hb1:b<=4611686018427387904) (k:Nat):∀t:List Int,k<m.length->t.length=m.length-1-k->0<=left (ent m) b (k+1) t->
  ((lvs m b k t).length:Int)=atY (ysT m b k t) (m.length-1):=by
 induction k with
 |zero=>
  intro t hk ht h0
  obtain ⟨v1,v2,-⟩:=ends_big hr hb hb1 hk ht h0
  rw [ysT_zero,lvs]
  simp only [atY,List.length_map,List.length_range]
  rw [if_pos (by omega)]
  unfold tCnt
  omega
 |succ k ih=>
  intro t hk ht h0
  have key:∀q:Nat,q<=tCnt m b (k+1) t->(((List.range q).flatMap fun (j:Nat)=>lvs m b k ((tLo m b (k+1) t+(j:Int))::t)).length:Int)=atY (ysK m b k t q) (m.length-1):=by
   intro q
   induction q with
   |zero=>intro _;simp [ysK,atY]
   |succ q ihq=>
    intro hq
    have a1:=ihq (by omega)
    have b1:=ih ((tLo m b (k+1) t+(q:Int))::t) (by omega) (by simp [ht];omega) (kid hr t hk ht h0 (j:=q) (by unfold tCnt tHi tLo at hq;unfold vCnt;omega))
    rw [List.range_succ,List.flatMap_append,List.flatMap_singleton,ysK_succ,atY_append,List.length_append,Int.natCast_add]
    omega
  have k1:=key _ (Nat.le_refl _)
  rw [ysT_succ hr hk b t ht,lvs]
  simp only [atY]
  rw [if_neg (by omega)]
  omega
theorem lvs_totB {m:List (List Int)} (hred:isRedB m=true) {b:Nat} (hB:BndOK m b):((lvs m b (m.length-1) []).length:Int)<=totS m b:=by
 have hr:=red_ok hred
 have hl:=isSmallB_len hr.small
 have hst:=steps_okB hred hB
 have h1:=lvs_lenB hr (b:=(b:Int)) (by omega) hB.1 (m.length-1) [] (by omega) (by simp) (top_nonneg hr (by omega))
 have h2:=stS_ys hr (b:=(b:Int)) (by omega)
 have h3:(stS m b).getD (m.length-1) 0=atY (ysT m b (m.length-1) []) (m.length-1):=by
  rw [h2,addY_get (by simp;omega)]
  simp [List.getD,show m.length-1<m.length by omega]
 have h4:=getD_le_sum (cs:=stS m b) (fun x hx=>by have :=hst.one x hx;omega) (m.length-1)
 have h5:=hst.sum
 omega
set_option maxRecDepth 20000 in
theorem rItems_big {w0 w:World} {A:Option Addr} {c n:Nat} {m:List (List Int)} {bound:Int} (hM:MatA w0 A m) (hL:LLLed m) (h1:m.length=n) (hb:0<=bound) (hB:BndOK m bound) (htot:((lvs m bound (n-1) []).length)<=1000000) [hx:Ext w0 w]:
  Calls Tryz.prog 29 #[.slice A n c,.int .i64 bound] w (RetIts w (itemsL m (lvs m bound (n-1) []))):=by
 have hr:=red_ok hL.red
 have hn8:=hL.len8
 have hn1:=hL.len1
 have HOF:Hid (∀W,Ext w0 W->Calls Tryz.prog 64 #[.slice A n c] W (RetFr W m n)):=Lib.hid (fun W e=>rFrame_ok hM hL h1)
 have htop:=top_nonneg hr hb
 have hall:=mem_all hr hb
 rw [h1] at htop hall
 obtain ⟨xs,hxs⟩:∃xs,xs=lvs m bound (n-1) []:=⟨_,rfl⟩
 have HLV:Hid (∀(W:World) (SB DB:Option Addr) (sc dc:Nat),FrV W m SB DB->Calls Tryz.prog 65 #[.agg #[.int .i64 n,.slice SB n sc,.slice DB (n+1) dc],.int .i64 bound,.slice none 0 0,.slice none 0 0] W (fun e w'=>∃A c vs,e= .returned (.slice A xs.length c)/\Arr w' A 53 vs/\ItV w' vs (itm m xs)/\Ext W w')):=Lib.hid (fun W SB DB sc dc hF=>by
  have :=rleaves_big (base:=W.heap.size) hL h1 hb hB.1 (n-1) W SB DB none none sc dc 0 0 0 0 [] [] [] (by omega) hF Ints.nil rfl (fun a ha=>by simp at ha) htop (Own.nil _ _ _ _) (ItV.nil _) (Nat.le_refl _) (by omega)
  refine this.mono ?_
  rintro e w' ⟨A,c,vs,rfl,hO,hV,hG⟩
  rw [<-hxs,Nat.zero_add,List.nil_append] at*
  exact ⟨A,c,vs,rfl,hO.arr,hV,hG.ext (Ext.refl _) (Nat.le_refl _)⟩)
 rw [<-hxs] at htot |-
 rw [<-hxs] at hall
 have HXS:Hid (∀x∈xs,x.length=n/\(∀a∈x,-1099511627776<=a/\a<=1099511627776)):=Lib.hid (fun x hx=>by
  obtain ⟨h2,h3⟩:=(hall x).1 hx
  refine ⟨h2,fun a ha=>?_⟩
  have h4:=coord_okB hr hb hB x (by omega) h3
  obtain ⟨i,hi⟩:=List.getElem?_of_mem ha
  have :=le_absSum x i a hi
  omega)
 have HTK:Hid (∀(k:Nat) (x:List Int),xs[k]? =some x->itemsL m (xs.take (k+1))=putS m (itemsL m (xs.take k)) x):=Lib.hid (fun k x hk=>by rw [List.take_add_one,hk];exact itemsL_snoc m _ _)
 have HIL:Hid (∀k,(itemsL m (xs.take k)).length<=1000000):=Lib.hid (fun k=>by
  have h2:=itemsL_len m (xs.take k)
  rw [List.length_take] at h2
  omega)
 have HIM:Hid (∀k,∀p∈itemsL m (xs.take k),p.2.length<=1000):=Lib.hid (fun k p hp=>by
  have :=(HXS.out p.2 (List.mem_of_mem_take (itemsL_mem p hp))).1
  omega)
 unfold RetIts
 have hn9:n<=8:=by omega
 clear hM hL hr htop hall hxs h1
 go_enter Tryz.func29,Tryz.ntmps29
 go_wp2_with (first
  |(go_at_call 64;refine (HOF.out _ inferInstance).mono ?_;rintro e w2 ⟨SB,sc,DB,dc,rfl,hF,-,-,-,-,hs2⟩)
  |(go_at_call 65;refine (HLV.out _ _ _ _ _ hF).mono ?_;rintro e w3 ⟨A3,c3,vs3,rfl,hA3,hV3,hx3⟩;have HA3:=Lib.hid hA3;have HV3:=Lib.hid hV3;have hxw3:Ext w w3:=(inferInstance:Ext w w2).trans hx3;clear hA3 hV3))
 obtain ⟨N,hN⟩:∃N,N=xs.length:=⟨_,rfl⟩
 have HN:=Lib.hid hN
 have hN6:N<=1000000:=by omega
 rw [<-hN]
 clear hN htot
 go_loopw [5,15] (fun s5 i wr=>ItRel w w3 m xs N s5 i wr) (fun _ i _=>N-(intOf i).toNat)
 case atStart=>
  unfold ItRel
  exact ⟨0,none,0,[],by omega,rfl,rfl,Lib.hid (Own.nil _ _ _ _),Lib.hid (ItV.nil _),inferInstance⟩
 case round=>
  unfold ItRel at hrel
  obtain ⟨k,A5,c5,vs,hk,rfl,rfl,HO5,HV5,hxr⟩:=hrel
  have hxwr:Ext w wr:=hxw3.trans hxr
  by_cases hlt:k<N
  ·obtain ⟨x,hxk⟩:∃x,xs[k]? =some x:=⟨_,List.getElem?_eq_getElem (by rw [<-HN.out];exact hlt)⟩
   obtain ⟨hxl,hxb⟩:=HXS.out x (List.mem_of_getElem? hxk)
   obtain ⟨B,cx,a1,a2,a3,a4,a5⟩:=HV3.out.2 k (nrm m x,x) (by unfold itm;rw [List.getElem?_map,hxk];rfl)
   obtain ⟨b,o,rfl,z1,z3⟩:=HA3.out.at_ a1
   obtain ⟨b',o',hA',z2,-⟩:=HA3.out.at_ a2
   injection hA' with hA'
   injection hA' with y1 y2
   subst y1 y2
   rw [<-Nat.add_assoc] at z2
   simp only at a3 a4 z1 z2
   have oB:Old b w3:=⟨z3⟩
   have hc1:wr.cell? ⟨b,o+k*2,none⟩=some (.int .i64 (nrm m x)):=(cellE w3).trans z1
   have hc2:wr.cell? ⟨b,o+k*2+1,none⟩=some (.slice B x.length cx):=(cellE w3).trans z2
   have HCA:=Lib.hid (fun W (e:Ext w3 W)=>rCanon_ok (w:=W) (c:=cx) a3 (by omega) hxb)
   have HT:=Lib.hid (HTK.out k x hxk)
   have HIX:=Lib.hid a3
   unfold RetCan at HCA
   rw [hxl] at HCA hc2 a4
   have HXLN:=Lib.hid hxl
   clear a1 a2 a3 z1 z2 hxk hxl hxb
   obtain ⟨nv,hnv⟩:∃nv,nv=nrm m x:=⟨_,rfl⟩
   have HNV:=Lib.hid hnv
   rw [<-hnv] at hc1
   clear hnv
   by_cases hz:firstNZ x=0
   ·have hps:putS m (itemsL m (xs.take k)) x=itemsL m (xs.take k):=by unfold putS;rw [if_neg (by omega)]
    have HPS:=Lib.hid (HT.out.trans hps)
    clear hps
    go_wp2_with (go_at_call 66;refine (HCA.out _ inferInstance).mono ?_;rintro e w5 (⟨-,rfl,hs5⟩ |⟨hbad,-⟩);(rotate_left;(exact absurd hz hbad)))
    refine ⟨⟨k+1,A5,c5,vs,by omega,by go_num,by rw [HPS.out],Lib.hid ?_,Lib.hid ?_,inferInstance⟩,by simp [intOf]<;>omega⟩
    ·rw [HPS.out];exact HO5.out.ext inferInstance
    ·rw [HPS.out];exact HV5.out.ext inferInstance
   ·by_cases hp:0<firstNZ x
    ·have hcx:canonL x=x:=(canon_eq hz).2 hp
     have hlx:lexI x (canonL x)=0:=by rw [hcx];exact lexI_self x
     have HPS:Hid (itemsL m (xs.take (k+1))=putP (itemsL m (xs.take k)) (nrm m x,x)):=Lib.hid (by rw [HT.out];unfold putS;rw [if_pos hp])
     have HCM:Hid (∀(W1 W:World) C d,Ints W1 C 2 .i64 (canonL x)->Ext W1 W->Ext w3 W->Calls Tryz.prog 67 #[.slice B n cx,.slice C n d] W (RetQ W (.int .i64 0))):=Lib.hid (fun W1 W C d i1 e1 e2=>by
      have h:=ref09_Compare_any (w0:=W) (w:=W) (c:=cx) (d:=d) (HIX.out.ext e2) (i1.ext e1) (by rw [HXLN.out];omega) (by rw [canonL_length,HXLN.out];omega)
      rw [canonL_length,hlx,HXLN.out] at h
      exact h)
     have HPT:Hid (∀W,Ext wr W->Calls Tryz.prog 68 #[.slice A5 (itemsL m (xs.take k)).length c5,.agg #[.int .i64 nv,.slice B n cx]] W (RetPut W w.heap.size (putP (itemsL m (xs.take k)) (nrm m x,x)))):=Lib.hid (fun W e=>by
      have h:=rPut_ok (a:=nv) (HO5.out.ext e) (HV5.out.ext e) (hxwr.trans e).size (HIL.out k) (HIX.out.ext (hxr.trans e)) (by rw [HXLN.out];exact a4) a5 (by rw [HXLN.out];omega) (HIM.out k)
      rw [HXLN.out,HNV.out] at h
      rw [HNV.out]
      exact h)
     unfold RetPut at HPT
     rw [<-HPS.out] at HPT
     clear hcx hlx
     obtain ⟨I2,hI2⟩:∃I2,I2=itemsL m (xs.take (k+1)):=⟨_,rfl⟩
     rw [<-hI2] at HPT
     have HI2:=Lib.hid hI2
     clear hI2
     go_wp2_with (first
      |(go_at_call 66;refine (HCA.out _ inferInstance).mono ?_;rintro e w5 (⟨hbad,-⟩ |⟨-,C5,d5,rfl,hI5,-,-,hs5⟩);(exact absurd hbad hz);have HI5:=Lib.hid hI5;clear hI5)
      |(go_at_call 67;refine (HCM.out _ _ _ _ HI5.out inferInstance inferInstance).mono ?_;rintro e w6 ⟨rfl,nq,rfl⟩)
      |(go_at_call 68;refine (HPT.out _ inferInstance).mono ?_;rintro e w7 ⟨A7,c7,vs7,rfl,hO7,hV7,hx7⟩;have HO7:=Lib.hid hO7;have HV7:=Lib.hid hV7;have hxr7:Ext w3 w7:=(inferInstance:Ext w3 (w5.drewN nq)).trans hx7;clear hO7 hV7))
     exact ⟨⟨k+1,A7,c7,vs7,by omega,by go_num,by rw [HI2.out],by rw [<-HI2.out];exact HO7,by rw [<-HI2.out];exact HV7,hxr7.trans inferInstance⟩,by simp [intOf]<;>omega⟩
    ·have hlx:lexI x (canonL x)≠0:=fun h=>hp ((canon_eq hz).1 (lexI_eq _ _ h).symm)
     have hle:(lexI x (canonL x)==0)=false:=by simpa using hlx
     have HPS:Hid (itemsL m (xs.take (k+1))=itemsL m (xs.take k)):=Lib.hid (by rw [HT.out];unfold putS;rw [if_neg hp])
     have HCM:Hid (∀(W1 W:World) C d,Ints W1 C 2 .i64 (canonL x)->Ext W1 W->Ext w3 W->Calls Tryz.prog 67 #[.slice B n cx,.slice C n d] W (RetQ W (.int .i64 (lexI x (canonL x))))):=Lib.hid (fun W1 W C d i1 e1 e2=>by
      have h:=ref09_Compare_any (w0:=W) (w:=W) (c:=cx) (d:=d) (HIX.out.ext e2) (i1.ext e1) (by rw [HXLN.out];omega) (by rw [canonL_length,HXLN.out];omega)
      rw [canonL_length,HXLN.out] at h
      exact h)
     clear hlx
     generalize lexI x (canonL x)=lx at*
     go_wp2_with (first
      |(go_at_call 66;refine (HCA.out _ inferInstance).mono ?_;rintro e w5 (⟨hbad,-⟩ |⟨-,C5,d5,rfl,hI5,-,-,hs5⟩);(exact absurd hbad hz);have HI5:=Lib.hid hI5;clear hI5)
      |(go_at_call 67;refine (HCM.out _ _ _ _ HI5.out inferInstance inferInstance).mono ?_;rintro e w6 ⟨rfl,nq,rfl⟩))
     refine ⟨⟨k+1,A5,c5,vs,by omega,by go_num,by rw [HPS.out],Lib.hid ?_,Lib.hid ?_,inferInstance⟩,by simp [intOf]<;>omega⟩
     ·rw [HPS.out];exact HO5.out.ext inferInstance
     ·rw [HPS.out];exact HV5.out.ext inferInstance
  ·obtain rfl:k=N:=by omega
   have htk:xs.take k=xs:=List.take_of_length_le (by rw [<-HN.out];exact Nat.le_refl _)
   rw [htk] at HO5 HV5
   rw [htk]
   go_wp2_with fail
   go_ret
   exact ⟨A5,c5,vs,rfl,HO5.out,HV5.out,hxwr.toStep⟩
set_option maxRecDepth 20000 in
theorem rCount_big {w0 w:World} {A:Option Addr} {c n:Nat} {m:List (List Int)} {bound budget:Int} (hM:MatA w0 A m) (hL:LLLed m) (h1:m.length=n) (hb:0<=bound) (hB:BndOK m bound) (hu0:0<=budget) (hu1:budget<=1000000) (htot:totS m bound<=budget) [hx:Ext w0 w]:
  Calls Tryz.prog 39 #[.slice A n c,.int .i64 bound,.int .i64 budget] w (RetVal w (.tuple #[.int .i64 (lastOf (stS m bound) / 2),.int .i64 0])):=by
 have hn8:=hL.len8
 have hn1:=hL.len1
 have HST:=Lib.hid (fun W (e:Ext w0 W)=>rSteps_big (w:=W) (c:=c) hM hL h1 hb hB.1 hu0 hu1)
 obtain ⟨b,rfl⟩:∃b:Nat,bound=b:=⟨bound.toNat,by omega⟩
 have hso:=steps_okB hL.red (b:=b) hB
 have hlen:(stS m b).length=n:=by rw [hso.len,h1]
 have HTOT:=Lib.hid htot
 have hone:=hso.one
 have hsl:lastOf (stS m b)<=1000000:=by
  have :=hso.last_le hn1
  omega
 have hl1:1<=lastOf (stS m b):=by
  unfold lastOf
  have :(stS m b).length-1<(stS m b).length:=by omega
  simp only [List.getD,List.getElem?_eq_getElem this,Option.getD_some]
  exact hone _ (List.getElem_mem this)
 clear hM hL hso htot hone
 unfold RetSt at HST
 generalize totS m b=tot at*
 generalize stS m b=st at*
 have hlo:lastOf st=st.getD (n-1) 0:=by unfold lastOf;rw [hlen]
 have HLO:=Lib.hid hlo
 have HLN:=Lib.hid hlen
 have hw1:IntKind.i64.wrap ((n:Int)-1)=((n-1:Nat):Int):=by rw [show (n:Int)-1=((n-1:Nat):Int) by omega];exact IntWalk.i64_in _ (by omega)
 have htd:Int.tdiv (lastOf st) 2=lastOf st / 2:=Int.tdiv_eq_ediv_of_nonneg (by omega)
 have hn0:0<n:=by omega
 clear hlo hlen h1
 obtain ⟨y,hyl⟩:∃y,y=lastOf st:=⟨_,rfl⟩
 have HYL:=Lib.hid hyl
 rw [<-hyl] at hsl hl1 htd |-
 clear hyl
 go_enter Tryz.func39,Tryz.ntmps39
 go_wp2_with (go_at_call 73;refine (HST.out _ inferInstance).mono ?_;rintro e w1 (⟨-,g,rfl,hR,-,hs1⟩ |⟨hbad,-⟩);(rotate_left;(exact absurd HTOT.out (by omega)));obtain ⟨y',hy',hcy⟩:=hR.cell (i:=n-1) (by rw [HLN.out];omega);have hye:y'=y:=(by rw [HYL.out,HLO.out];simp [List.getD,hy']);rw [hye] at hcy;have hgl:=hR.lt)
 go_ret2
 exact ⟨rfl,hs1⟩
set_option maxRecDepth 20000 in
theorem rVectors_big {w0 w:World} {A:Option Addr} {c n:Nat} {m:List (List Int)} {bound budget:Int} (hM:MatA w0 A m) (hL:LLLed m) (h1:m.length=n) (hb:0<=bound) (hB:BndOK m bound) (hu0:0<=budget) (hu1:budget<=1000000) (hmx:totS m bound<=budget->lastOf (stS m bound)<=8193) [hx:Ext w0 w]:
  Calls Tryz.prog 32 #[.slice A n c,.int .i64 bound,.int .i64 budget] w (RetV10 w m bound budget):=by
 have hn8:=hL.len8
 have hn1:=hL.len1
 have hr:=red_ok hL.red
 have HST:=Lib.hid (fun W (e:Ext w0 W)=>rSteps_big (w:=W) (c:=c) hM hL h1 hb hB.1 hu0 hu1)
 obtain ⟨b,rfl⟩:∃b:Nat,bound=b:=⟨bound.toNat,by omega⟩
 have hso:=steps_okB hL.red (b:=b) hB
 have hlen:(stS m b).length=n:=by rw [hso.len,h1]
 have hone:=hso.one
 have hsum:=hso.sum
 have hlt:=lvs_totB hL.red (b:=b) hB
 rw [h1] at hlt
 have HIT:Hid (totS m b<=budget->∀W,Ext w0 W->Calls Tryz.prog 29 #[.slice A n c,.int .i64 b] W (RetIts W (itemsL m (lvs m b (n-1) [])))):=Lib.hid (fun ht W e=>rItems_big hM hL h1 hb hB (by omega))
 obtain ⟨hvl,hvl2⟩:=items_vecList hr hb
 rw [h1] at hvl
 have HVL:=Lib.hid hvl
 have HIL:Hid (totS m b<=budget->(itemsL m (lvs m b (n-1) [])).length<=1000000):=Lib.hid (fun ht=>by
  have :=itemsL_len m (lvs m b (n-1) [])
  omega)
 generalize itemsL m (lvs m b (n-1) [])=its at*
 have HSU:Hid (totS m b<=budget->∀(W0 W:World) g,Row W0 g 3 .i64 (stS m b)->Ext W0 W->Calls Tryz.prog 75 #[.slice (some ⟨g,0,none⟩) n n] W (RetVal W (.int .i64 (totS m b)))):=Lib.hid (fun ht W0 W g hg e=>by
  have :=rsum_ok (w:=W) (c:=n) hg.ints (by rw [hlen];omega) (fun x hx=>by have :=hone x hx;omega) (by omega)
  rwa [hlen,hsum] at this)
 have HMX:=Lib.hid hmx
 have HGE:Hid ((stS m b)[n-1]? =some (lastOf (stS m b))):=Lib.hid (by
  have h2:n-1<(stS m b).length:=by rw [hlen];omega
  unfold lastOf
  rw [hlen,List.getElem?_eq_getElem h2]
  simp [List.getD,List.getElem?_eq_getElem h2])
 have hl1:1<=lastOf (stS m b):=hone _ (List.mem_of_getElem? HGE.out)
 have HLN:=Lib.hid hlen
 have hw1:IntKind.i64.wrap ((n:Int)-1)=((n-1:Nat):Int):=by rw [show (n:Int)-1=((n-1:Nat):Int) by omega];exact IntWalk.i64_in _ (by omega)
 have hn0:0<n:=by omega
 clear hM hL hso hone h1 hr hvl hvl2 hlt hlen hsum hmx
 unfold RetV10
 unfold RetSt at HST
 generalize totS m b=tot at*
 generalize lastOf (stS m b)=la at*
 generalize stS m b=st at*
 unfold RetIts at HIT
 go_enter Tryz.func32,Tryz.ntmps32
 go_upto_region 2 with (go_at_call 73;refine (HST.out _ inferInstance).mono ?_;rintro e w1 (⟨ht,g,rfl,hR,hgs,hs1⟩ |⟨hbad,rfl,hs1⟩))
 ·have HR:=Lib.hid hR
  have hcy:w1.cell? ⟨g,n-1,none⟩=some (.int .i64 la):=by
   obtain ⟨y',hy',hcy⟩:=hR.cell (i:=n-1) (by rw [HLN.out];omega)
   rw [HGE.out] at hy'
   injection hy' with hy'
   rwa [<-hy'] at hcy
  have hgl:=hR.lt
  have hla:=HMX.out ht
  have hd1:decide (8193<la)=false:=by simp;omega
  have HI2:=Lib.hid (HIT.out ht)
  have HI3:=Lib.hid (HIL.out ht)
  have HS2:=Lib.hid (HSU.out ht)
  clear hR HIT HSU HIL HST HMX
  go_wp2_with (first
   |(go_at_call 29;refine (HI2.out _ inferInstance).mono ?_;rintro e w2 ⟨A2,c2,vs2,rfl,hO2,hV2,hs2⟩)
   |(go_at_call 74;refine (rVec9_ok hO2.arr hV2 HI3.out).mono ?_;unfold RetMatL;rintro e w3 ⟨A3,c3,rfl,hM3,h31,h32,hs3⟩)
   |(go_at_call 75;refine (HS2.out _ _ _ HR.out inferInstance).mono ?_;rintro e w4 ⟨rfl,hs4⟩))
  go_ret3
  exact .inl ⟨ht,A3,c3,its.map Prod.snd,by rw [List.length_map];rfl,hM3.ext inferInstance,h31,h32,HVL.out,Step.of _ _⟩
 ·go_wp2_with fail
  go_ret3
  exact .inr ⟨hbad,rfl,Step.of _ _⟩
set_option maxRecDepth 20000 in
theorem rShell_big {w0 w:World} {A:Option Addr} {c n:Nat} {m:List (List Int)} {bound budget:Int} (hM:MatA w0 A m) (hL:LLLed m) (h1:m.length=n) (hb:0<=bound) (hB:BndOK m bound) (hu0:0<=budget) (hu1:budget<=1000000) (hlvs:(lvs m bound (n-1) []).length<=1000000) (hmx:totS m bound<=budget->(collL m bound false).length<=4096) [hx:Ext w0 w]:
  Calls Tryz.prog 44 #[.slice A n c,.int .i64 bound,.int .i64 budget] w (RetSh10 w m bound budget):=by
 have hn8:=hL.len8
 have hn1:=hL.len1
 have hr:=red_ok hL.red
 have HST:=Lib.hid (fun W (e:Ext w0 W)=>rSteps_big (w:=W) (c:=c) hM hL h1 hb hB.1 hu0 hu1)
 have HIT:Hid (∀W,Ext w0 W->Calls Tryz.prog 29 #[.slice A n c,.int .i64 bound] W (RetIts W (itemsL m (lvs m bound (n-1) [])))):=Lib.hid (fun W e=>rItems_big hM hL h1 hb hB hlvs)
 obtain ⟨hvl,hvl2⟩:=items_vecList hr hb
 rw [h1] at hvl hvl2
 have HVL:=Lib.hid (shl_vecList hvl hvl2)
 have hil:(itemsL m (lvs m bound (n-1) [])).length<=1000000:=Nat.le_trans (itemsL_len m _) hlvs
 have HMX:Hid (totS m bound<=budget->(itemsL m (lvs m bound (n-1) [])).length<=4096):=Lib.hid (fun ht=>by
  have a1:=vecList_len hr hb hvl
  have :=hmx ht
  rw [List.length_map] at a1
  omega)
 generalize itemsL m (lvs m bound (n-1) [])=its at*
 clear hM hL h1 hr hvl hvl2 hlvs hmx
 unfold RetSh10
 unfold RetSt at HST
 generalize totS m bound=tot at*
 generalize stS m bound=st at*
 unfold RetIts at HIT
 obtain ⟨N,hN⟩:∃N,N=its.length:=⟨_,rfl⟩
 have HN:=Lib.hid hN
 rw [<-hN] at hil HMX HIT
 clear hN
 go_enter Tryz.func44,Tryz.ntmps44
 go_upto_region 2 with (go_at_call 73;refine (HST.out _ inferInstance).mono ?_;rintro e w1 (⟨ht,g,rfl,hR,hgs,hs1⟩ |⟨hbad,rfl,hs1⟩))
 ·have hN4:=HMX.out ht
  clear hR HMX HST
  go_wp2_with (go_at_call 29;refine (HIT.out _ inferInstance).mono ?_;rintro e w2 ⟨A2,c2,us,rfl,hO2,hV2,hs2⟩;have HA:=Lib.hid hO2.arr;have HV:=Lib.hid hV2;have hxw2:Ext w w2:=inferInstance;clear hO2 hV2)
  go_loopw [10,27] (fun s10 i wr=>ShRel w2 w2 bound its N s10 i wr) (fun _ i _=>N-(intOf i).toNat)
  case atStart=>exact ⟨0,none,0,[],by omega,rfl,rfl,Lib.hid (MOwn.nil _ _),inferInstance⟩
  case round=>
   unfold ShRel at hrel
   obtain ⟨k,B,d,vs,hk,rfl,rfl,HM,hxr⟩:=hrel
   have hxwr:Ext w wr:=hxw2.trans hxr
   have hsl:(shl bound (its.take k)).length<=k:=Nat.le_trans (shl_len _ _) (by rw [List.length_take];omega)
   by_cases hlt:k<N
   ·obtain ⟨p,hp⟩:∃p,its[k]? =some p:=⟨_,List.getElem?_eq_getElem (by rw [<-HN.out];exact hlt)⟩
    obtain ⟨xa,x⟩:=p
    obtain ⟨X,cx,a1,a2,a3,a4,a5⟩:=HV.out.2 k _ hp
    obtain ⟨b,o,rfl,z1,z3⟩:=HA.out.at_ a1
    obtain ⟨b',o',hA',z2,-⟩:=HA.out.at_ a2
    injection hA' with hA'
    injection hA' with y1 y2
    subst y1 y2
    rw [<-Nat.add_assoc] at z2
    simp only at a3 a4 z1 z2
    have oB:Old b w2:=⟨z3⟩
    have hc1:wr.cell? ⟨b,o+k*2,none⟩=some (.int .i64 xa):=(cellE w2).trans z1
    have hc2:wr.cell? ⟨b,o+k*2+1,none⟩=some (.slice X x.length cx):=(cellE w2).trans z2
    have HX:=Lib.hid a3
    have HTK:Hid (shl bound (its.take (k+1))=if xa==bound then shl bound (its.take k)++[x] else shl bound (its.take k)):=Lib.hid (by rw [List.take_add_one,hp];exact shl_snoc _ _ _)
    obtain ⟨xl,hxl⟩:∃xl,xl=x.length:=⟨_,rfl⟩
    have HXL:=Lib.hid hxl
    rw [<-hxl] at hc2 a4
    clear a1 a2 a3 z1 z2 hp hxl
    cases hcmp:xa==bound with
    |true=>
     rw [hcmp,if_pos rfl] at HTK
     have hsrc:Arr ((wr.alloc (.cells #[.int .i64 xa,.slice X xl cx] 53)).alloc (.cells #[.slice X xl cx] 35)) (some ⟨wr.heap.size+1,0,none⟩) 35 [.slice X xl cx]:=by
      have :=Arr.new (wr.alloc (.cells #[.int .i64 xa,.slice X xl cx] 53)) 35 #[.slice X xl cx]
      rwa [World.size_alloc] at this
     obtain ⟨sl,hsl2⟩:∃sl,sl=(shl bound (its.take k)).length:=⟨_,rfl⟩
     have HSL:=Lib.hid hsl2
     rw [<-hsl2] at hsl HM |-
     clear hsl2
     go_wp2_with (at_builtin;refine wpList_app _ rfl _ _ 22 rfl w2.heap.size 35 (.slice none 0 0) 1 24 Tryz.underlying22 infoSlI64 rfl (by omega) (by omega) B sl d vs rfl (HM.out.own.ext inferInstance) _ 1 1 [.slice X xl cx] rfl hsrc (by simp) (by simp [Value.oneCell']) (by omega) (by have :=hxr.size;simp;omega) ?_;intro A4 d4 w4 hown4 hg4)
     have hx4:Ext w2 w4:=hg4.ext (hxr.trans inferInstance) (Nat.le_refl _)
     refine ⟨⟨k+1,A4,d4,vs++[.slice X xl cx],by omega,by go_num,by rw [HTK.out,List.length_append,<-HSL.out];rfl,Lib.hid ?_,hx4⟩,by simp [intOf]<;>omega⟩
     rw [HTK.out,List.length_append,<-HSL.out]
     rw [HXL.out] at hown4 a4 |-
     exact HM.out.snoc (r:=x) inferInstance hg4 hown4 (HX.out.ext (hxr.trans inferInstance)) a4 a5
    |false=>
     rw [hcmp,if_neg (by decide)] at HTK
     go_wp2_with fail
     exact ⟨⟨k+1,B,d,vs,by omega,by go_num,by rw [HTK.out],Lib.hid (by rw [HTK.out];exact HM.out.ext inferInstance),inferInstance⟩,by simp [intOf]<;>omega⟩
   ·obtain rfl:k=N:=by omega
    have htk:its.take k=its:=List.take_of_length_le (by rw [<-HN.out];exact Nat.le_refl _)
    rw [htk] at HM hsl
    rw [htk]
    have HCP:=Lib.hid HM.out.own.cap
    obtain ⟨sl,hsl2⟩:∃sl,sl=(shl bound its).length:=⟨_,rfl⟩
    have HSL:=Lib.hid hsl2
    rw [<-hsl2] at hsl HM HCP |-
    have hd4:decide (4096<(sl:Int))=false:=by simp;omega
    clear hsl2
    go_wp2_with fail
    go_ret2
    exact .inl ⟨ht,B,d,shl bound its,by rw [<-HSL.out];rfl,HM.out.mat,by rw [<-HSL.out];exact HCP.out.1,HCP.out.2,HVL.out,Step.of _ _⟩
 ·go_wp2_with fail
  go_ret2
  exact .inr ⟨hbad,rfl,Step.of _ _⟩
end Go.Proofs.YtijfjailmilkfaaGreat
namespace Go.Proofs.YtijfjailmilkfaaGreat
open Go.RowKit
open La
def errN (m:List (List Int)) (bound budget:Int):Int:=if isRedB m=true then (if argsB bound budget=true then (if totS m bound<=budget then 0 else 9) else 1) else 6
theorem errN_range (m:List (List Int)) (bound budget:Int):0<=errN m bound budget/\errN m bound budget<=9:=by
 unfold errN;split
 ·split
  ·split<;>omega
  ·omega
 ·omega
theorem errN_zero {m:List (List Int)} {bound budget:Int} (h:errN m bound budget=0):isRedB m=true/\argsB bound budget=true/\totS m bound<=budget:=by
 unfold errN at h
 split at h
 ·split at h
  ·split at h
   ·exact ⟨by assumption,by assumption,by assumption⟩
   ·omega
  ·omega
 ·omega
theorem argsB_iff {bound budget:Int}:argsB bound budget=true↔0<=bound/\bound<=4611686018427387904/\0<=budget/\budget<=1000000:=by simp [argsB]
theorem errN_bnd {m:List (List Int)} {bound budget:Int} (h:errN m bound budget=0) (hu:budget<2000):BndOK m bound:=by
 obtain ⟨h1,h2,h3⟩:=errN_zero h
 obtain ⟨a1,a2,a3,a4⟩:=argsB_iff.1 h2
 refine ⟨a2,?_⟩
 rcases Int.lt_or_le bound 1073741824 with hb |hb
 ·exact .inl hb
 ·right
  have hr:=red_ok h1
  have hl:=isSmallB_len hr.small
  rcases Nat.lt_or_ge 1 m.length with h4 |h4
  ·have :=crowd_tot hr h4 hb a2
   omega
  ·omega
theorem spec_err {m:List (List Int)} {bound budget:Int} (hu:budget<2000∨1000000<budget) (h:errN m bound budget≠0):stepsSpec m bound budget=([],errN m bound budget):=by
 unfold errN at h |-
 by_cases h1:isRedB m=true
 ·rw [if_pos h1] at h |-
  by_cases h2:argsB bound budget=true
  ·rw [if_pos h2] at h |-
   obtain ⟨a1,a2,a3,a4⟩:=argsB_iff.1 h2
   have h3:¬totS m bound<=budget:=fun h3=>h (if_pos h3)
   rw [if_neg h3]
   cases hc:crowdB m bound
   ·have hB:BndOK m bound:=by
     refine ⟨a2,?_⟩
     have hr:=red_ok h1
     have hl:=isSmallB_len hr.small
     have hc2:¬(1<m.length/\1073741824<=bound):=by simpa [crowdB] using hc
     omega
    obtain ⟨b,rfl⟩:∃b:Nat,bound=b:=⟨bound.toNat,by omega⟩
    have hs:=(steps_okB h1 hB).spec budget a3 a4
    rw [hs,if_neg h3]
   ·unfold stepsSpec
    rw [h1,h2,hc]
    rfl
  ·rw [if_neg h2]
   simp [stepsSpec,h1,h2]
 ·rw [if_neg h1]
  simp [stepsSpec,h1]
theorem rargs_any {w0 w:World} {A:Option Addr} {c:Nat} {m:List (List Int)} {bound budget:Int} (h:MatA w0 A m) (h64:Fits64 m) (hlen:m.length<=1099511627776) (hrl:∀r∈m,r.length<=9223372036854775807) [hx:Ext w0 w]:
  Calls Tryz.prog 100 #[.slice A m.length c,.int .i64 bound,.int .i64 4611686018427387904,.int .i64 budget] w (RetVal w (.int .i64 (if isRedB m=true then (if argsB bound budget=true then 0 else 1) else 6))):=by
 have HR:=Lib.hid (fun W (e:Ext w0 W)=>rIsReduced_any (w:=W) (c:=c) h h64 hlen hrl)
 clear h h64 hrl
 cases hr:isRedB m
 ·rw [hr] at HR
  rw [if_neg (by decide)]
  clear hr
  go_enter Tryz.func100,Tryz.ntmps100
  go_wp2_with (go_at_call 120;refine (HR.out _ inferInstance).mono ?_;rintro e w2 ⟨rfl,hs2⟩)
  go_ret
  exact ⟨rfl,Step.of _ _⟩
 ·rw [hr] at HR
  rw [if_pos rfl]
  clear hr
  by_cases b1:bound<0
  ·have c1:decide (bound<0)=true:=by simpa using b1
   have HA:Hid (argsB bound budget=false):=Lib.hid (by simp [argsB];omega)
   rw [HA.out,if_neg (by decide)]
   go_enter Tryz.func100,Tryz.ntmps100
   go_wp2_with (go_at_call 120;refine (HR.out _ inferInstance).mono ?_;rintro e w2 ⟨rfl,hs2⟩)
   go_ret
   exact ⟨rfl,Step.of _ _⟩
  have c1:decide (bound<0)=false:=by simp;omega
  by_cases b2:4611686018427387904<bound
  ·have c2:decide (4611686018427387904<bound)=true:=by simpa using b2
   have HA:Hid (argsB bound budget=false):=Lib.hid (by simp [argsB];omega)
   rw [HA.out,if_neg (by decide)]
   go_enter Tryz.func100,Tryz.ntmps100
   go_wp2_with (go_at_call 120;refine (HR.out _ inferInstance).mono ?_;rintro e w2 ⟨rfl,hs2⟩)
   go_ret
   exact ⟨rfl,Step.of _ _⟩
  have c2:decide (4611686018427387904<bound)=false:=by simp;omega
  by_cases b3:budget<0
  ·have c3:decide (budget<0)=true:=by simpa using b3
   have HA:Hid (argsB bound budget=false):=Lib.hid (by simp [argsB];omega)
   rw [HA.out,if_neg (by decide)]
   go_enter Tryz.func100,Tryz.ntmps100
   go_wp2_with (go_at_call 120;refine (HR.out _ inferInstance).mono ?_;rintro e w2 ⟨rfl,hs2⟩)
   go_ret
   exact ⟨rfl,Step.of _ _⟩
  have c3:decide (budget<0)=false:=by simp;omega
  by_cases b4:1000000<budget
  ·have c4:decide (1000000<budget)=true:=by simpa using b4
   have HA:Hid (argsB bound budget=false):=Lib.hid (by simp [argsB];omega)
   rw [HA.out,if_neg (by decide)]
   go_enter Tryz.func100,Tryz.ntmps100
   go_wp2_with (go_at_call 120;refine (HR.out _ inferInstance).mono ?_;rintro e w2 ⟨rfl,hs2⟩)
   go_ret
   exact ⟨rfl,Step.of _ _⟩
  have c4:decide (1000000<budget)=false:=by simp;omega
  have HA:Hid (argsB bound budget=true):=Lib.hid (by simp [argsB];omega)
  rw [HA.out,if_pos rfl]
  go_enter Tryz.func100,Tryz.ntmps100
  go_wp2_with (go_at_call 120;refine (HR.out _ inferInstance).mono ?_;rintro e w2 ⟨rfl,hs2⟩)
  go_ret
  exact ⟨rfl,Step.of _ _⟩
theorem rSteps_err {w0 w:World} {A:Option Addr} {c:Nat} {m:List (List Int)} {bound budget k:Int} (h:MatA w0 A m) (h64:Fits64 m) (hlen:m.length<=1099511627776) (hrl:∀r∈m,r.length<=9223372036854775807) (hk:errN m bound budget=k) (hk0:k≠0) [hx:Ext w0 w]:
  Calls Tryz.prog 73 #[.slice A m.length c,.int .i64 bound,.int .i64 budget] w (RetVal w (.tuple #[.slice none 0 0,.int .i64 k])):=by
 by_cases hg:isRedB m=true/\argsB bound budget=true
 ·obtain ⟨a1,a2,a3,a4⟩:=argsB_iff.1 hg.2
  have hL:=red_iff.1 hg.1
  unfold errN at hk
  rw [if_pos hg.1,if_pos hg.2] at hk
  refine (rSteps_big (w:=w) (c:=c) h hL rfl a1 a2 a3 a4).mono ?_
  rintro e w' (⟨ht,-⟩ |⟨ht,he,hs⟩)
  ·rw [if_pos ht] at hk
   exact absurd hk.symm hk0
  ·rw [if_neg (by omega)] at hk
   subst hk
   exact ⟨he,hs⟩
 ·have HAR:=Lib.hid (fun W (e:Ext w0 W)=>rargs_any (w:=W) (c:=c) (bound:=bound) (budget:=budget) h h64 hlen hrl)
  have HK:Hid ((if isRedB m=true then (if argsB bound budget=true then (0:Int) else 1) else 6)=k):=Lib.hid (by
   unfold errN at hk
   rw [<-hk]
   by_cases h1:isRedB m=true
   ·rw [if_pos h1,if_pos h1,if_neg (fun h2=>hg ⟨h1,h2⟩),if_neg (fun h2=>hg ⟨h1,h2⟩)]
   ·rw [if_neg h1,if_neg h1])
  rw [HK.out] at HAR
  have hkn:(k !=0)=true:=by simp [hk0]
  have hkn2:(k==0)=false:=by simp [hk0]
  clear hk hg h64 hrl
  go_enter Tryz.func73,Tryz.ntmps73
  go_wp2_with (go_at_call 100;refine (HAR.out _ inferInstance).mono ?_;rintro e w2 ⟨rfl,hs2⟩)
  go_ret2
  exact ⟨rfl,Step.of _ _⟩
theorem rVectors_err {w0 w:World} {A:Option Addr} {c:Nat} {m:List (List Int)} {bound budget k:Int} (h:MatA w0 A m) (h64:Fits64 m) (hlen:m.length<=1099511627776) (hrl:∀r∈m,r.length<=9223372036854775807) (hk:errN m bound budget=k) (hk0:k≠0) [hx:Ext w0 w]:
  Calls Tryz.prog 32 #[.slice A m.length c,.int .i64 bound,.int .i64 budget] w (RetVal w (.tuple #[.slice none 0 0,.int .i64 0,.int .i64 k])):=by
 have HST:=Lib.hid (fun W (e:Ext w0 W)=>rSteps_err (w:=W) (c:=c) h h64 hlen hrl hk hk0)
 have hkn:(k !=0)=true:=by simp [hk0]
 have hkn2:(k==0)=false:=by simp [hk0]
 clear hk h64 hrl
 go_enter Tryz.func32,Tryz.ntmps32
 go_wp2_with (go_at_call 73;refine (HST.out _ inferInstance).mono ?_;rintro e w2 ⟨rfl,hs2⟩)
 go_ret3
 exact ⟨rfl,Step.of _ _⟩
theorem rCount_err {w0 w:World} {A:Option Addr} {c:Nat} {m:List (List Int)} {bound budget k:Int} (h:MatA w0 A m) (h64:Fits64 m) (hlen:m.length<=1099511627776) (hrl:∀r∈m,r.length<=9223372036854775807) (hk:errN m bound budget=k) (hk0:k≠0) [hx:Ext w0 w]:
  Calls Tryz.prog 39 #[.slice A m.length c,.int .i64 bound,.int .i64 budget] w (RetVal w (.tuple #[.int .i64 0,.int .i64 k])):=by
 have HST:=Lib.hid (fun W (e:Ext w0 W)=>rSteps_err (w:=W) (c:=c) h h64 hlen hrl hk hk0)
 have hkn:(k !=0)=true:=by simp [hk0]
 have hkn2:(k==0)=false:=by simp [hk0]
 clear hk h64 hrl
 go_enter Tryz.func39,Tryz.ntmps39
 go_wp2_with (go_at_call 73;refine (HST.out _ inferInstance).mono ?_;rintro e w2 ⟨rfl,hs2⟩)
 go_ret2
 exact ⟨rfl,Step.of _ _⟩
theorem rShell_err {w0 w:World} {A:Option Addr} {c:Nat} {m:List (List Int)} {bound budget k:Int} (h:MatA w0 A m) (h64:Fits64 m) (hlen:m.length<=1099511627776) (hrl:∀r∈m,r.length<=9223372036854775807) (hk:errN m bound budget=k) (hk0:k≠0) [hx:Ext w0 w]:
  Calls Tryz.prog 44 #[.slice A m.length c,.int .i64 bound,.int .i64 budget] w (RetVal w (.tuple #[.slice none 0 0,.int .i64 k])):=by
 have HST:=Lib.hid (fun W (e:Ext w0 W)=>rSteps_err (w:=W) (c:=c) h h64 hlen hrl hk hk0)
 have hkn:(k !=0)=true:=by simp [hk0]
 have hkn2:(k==0)=false:=by simp [hk0]
 clear hk h64 hrl
 go_enter Tryz.func44,Tryz.ntmps44
 go_wp2_with (go_at_call 73;refine (HST.out _ inferInstance).mono ?_;rintro e w2 ⟨rfl,hs2⟩)
 go_ret2
 exact ⟨rfl,Step.of _ _⟩
theorem Count_err {w0 w:World} {A:Option Addr} {c:Nat} {m:List (List Int)} {bound budget k:Int} (h:MatA w0 A m) (hlen:m.length<=1099511627776) (hc:m.length<=c) (hc2:c<=9223372036854775807) (hf:isRedB m=true->FormOK m) (hs:stepsSpec m bound budget=([],k)) (h1:1<=k) (h2:k<=100) [hx:Ext w0 w]:
  Calls Tryz.prog 42 #[.slice A m.length c,.int .i64 bound,.int .i64 budget] w (RetVal w (.tuple #[.int .i64 0,.int .i64 k])):=by
 have hst:=fun W (hh:Ext w0 W)=>Steps_any (w:=W) (bound:=bound) (budget:=budget) h hlen hc hc2 hf
 rw [hs] at hst
 have HST:=Lib.hid hst
 have hk:(k !=0)=true:=by simp;omega
 clear hst hs hf
 go_enter Tryz.func42,Tryz.ntmps42
 go_wp2_with (go_at_call 77;refine (HST.out _ inferInstance).mono ?_;rintro e w1 ⟨A1,c1,rfl,hI,k1,k2,hs1⟩)
 go_ret2
 exact ⟨rfl,Step.of _ _⟩
theorem Shell_err {w0 w:World} {A:Option Addr} {c:Nat} {m:List (List Int)} {bound budget k:Int} (h:MatA w0 A m) (hlen:m.length<=1099511627776) (hc:m.length<=c) (hc2:c<=9223372036854775807) (hf:isRedB m=true->FormOK m) (hs:stepsSpec m bound budget=([],k)) (h1:1<=k) (h2:k<=100) [hx:Ext w0 w]:
  Calls Tryz.prog 43 #[.slice A m.length c,.int .i64 bound,.int .i64 budget] w (RetVal w (.tuple #[.slice none 0 0,.int .i64 k])):=by
 have hst:=fun W (hh:Ext w0 W)=>Steps_any (w:=W) (bound:=bound) (budget:=budget) h hlen hc hc2 hf
 rw [hs] at hst
 have HST:=Lib.hid hst
 have hk:(k !=0)=true:=by simp;omega
 clear hst hs hf
 go_enter Tryz.func43,Tryz.ntmps43
 go_wp2_with (go_at_call 77;refine (HST.out _ inferInstance).mono ?_;rintro e w1 ⟨A1,c1,rfl,hI,k1,k2,hs1⟩)
 go_ret2
 exact ⟨rfl,Step.of _ _⟩
theorem same_list {L:List (List Int)} {n:Nat} (hL8:L.length<=8000) (hLr:∀r∈L,r.length=n) (hn:n<=8):Hid (∀(W1 W2 W:World) X Y (c d:Nat),Mat64 W1 X L->Mat64 W2 Y L->Ext W1 W->Ext W2 W->Calls Tryz.prog 41 #[.slice X L.length c,.slice Y L.length d] W (RetQ W (.bool true))):=Lib.hid (fun W1 W2 W X Y c d hX hY e1 e2=>by
 have h:=ref09_Same_any (w:=W) (c:=c) (d:=d) (hX.ext e1) (hY.ext e2) (by omega) (by omega) (fun r hr=>by rw [hLr r hr];omega) (fun r hr=>by rw [hLr r hr];omega)
 rwa [decide_eq_true rfl] at h)
theorem Mat64.empty (w:World):Mat64 w none []:=⟨[],rfl,Arr.nil,fun i r h=>by simp at h⟩
def RetSLB (w:World) (m:List (List Int)) (b:Int) (e:Ending) (w':World):Prop:=∃B d L,e= .returned (.tuple #[.slice B (List.length L) d,.int .i64 0])/\Mat64 w' B L/\L.length<=d/\d<=9223372036854775807/\VecList m b true L/\L.length<=8000/\Step w w'
theorem enum_three {w0 w:World} {A:Option Addr} {c b:Nat} {m:List (List Int)} {budget:Int} (h:MatA w0 A m) (hc:m.length<=c) (hc2:c<=9223372036854775807) (hz:errN m b budget=0) (hu:budget<2000) [hx:Ext w0 w]:
  Calls Tryz.prog 40 #[.slice A m.length c,.int .i64 b,.int .i64 budget] w (RetVL w m b)/\Calls Tryz.prog 42 #[.slice A m.length c,.int .i64 b,.int .i64 budget] w (RetVal w (.tuple #[.int .i64 (lastOf (stS m b) / 2),.int .i64 0]))/\Calls Tryz.prog 43 #[.slice A m.length c,.int .i64 b,.int .i64 budget] w (RetSLB w m b):=by
 obtain ⟨hr,ha,ht⟩:=errN_zero hz
 have hB:=errN_bnd hz hu
 obtain ⟨a1,a2,a3,a4⟩:=argsB_iff.1 ha
 have hR:=red_ok hr
 have hl:=isSmallB_len hR.small
 have hst:=steps_okB hr hB
 have hlast:=hst.last_le (by omega)
 have hll:=hst.last
 have hsum:=hst.sum
 have hlen:=hst.len
 have hex:=coll_exact_len hR (bound:=(b:Int)) (by omega)
 have hmx:∀x∈stS m b,0<=x/\x<=1099511627776:=fun x hx=>by
  have h1:=hst.one x hx
  have :x<=(stS m b).sum:=mem_le_sum hst.one hx
  omega
 have hspec:=hst.spec budget a3 a4
 rw [if_pos ht] at hspec
 have ho:=enum_okB hr hB (by omega)
 refine ⟨?_,?_,?_⟩
 ·refine (Vectors_ok h hc hc2 (ho false) hspec (by omega) (by omega) (by omega) hmx (by omega)).mono ?_
  rintro e w' ⟨B,d,L,he,hM,h1,h2,hp,hw,hs⟩
  rw [hsum] at he
  refine ⟨B,d,L,he,hM,h1,h2,vecList_of hR (by omega) hp hw,?_,hs⟩
  have :=hp.length_eq
  simp at this
  omega
 ·have hq:(lastOf (stS m b)-1) / 2=lastOf (stS m b) / 2:=by omega
  have h2:=Count_ok (w:=w) h (by omega) hc hc2 (fun _=>hR.form) hspec (by omega) (by omega) (by omega) (by omega)
  rwa [hq] at h2
 ·refine (Shell_ok h hc hc2 (ho true) hspec (by omega)).mono ?_
  rintro e w' ⟨B,d,L,he,hM,h1,h2,hp,hw,hs⟩
  refine ⟨B,d,L,he,hM,h1,h2,vecList_of hR (by omega) hp hw,?_,hs⟩
  have :=hp.length_eq
  simp at this
  omega
theorem ref_three {w0 w:World} {A:Option Addr} {c b:Nat} {m:List (List Int)} {budget:Int} (h:MatA w0 A m) (hz:errN m b budget=0) (hu:budget<2000) [hx:Ext w0 w]:
  Calls Tryz.prog 32 #[.slice A m.length c,.int .i64 b,.int .i64 budget] w (RetV10 w m b budget)/\Calls Tryz.prog 39 #[.slice A m.length c,.int .i64 b,.int .i64 budget] w (RetVal w (.tuple #[.int .i64 (lastOf (stS m b) / 2),.int .i64 0]))/\Calls Tryz.prog 44 #[.slice A m.length c,.int .i64 b,.int .i64 budget] w (RetSh10 w m b budget)/\totS m b<=budget:=by
 obtain ⟨hr,ha,ht⟩:=errN_zero hz
 have hB:=errN_bnd hz hu
 obtain ⟨a1,a2,a3,a4⟩:=argsB_iff.1 ha
 have hL:=red_iff.1 hr
 have hl:=hL.len1
 have hst:=steps_okB hr hB
 have hlast:=hst.last_le hl
 have hlv:=lvs_totB hr hB
 have hll:=hst.last
 exact ⟨rVectors_big h hL rfl a1 hB a3 a4 (fun _=>by omega),rCount_big h hL rfl a1 hB a3 a4 ht,rShell_big h hL rfl a1 hB a3 a4 (by omega) (fun _=>by omega),ht⟩
set_option maxRecDepth 20000 in
theorem matches11_ok {w0 w:World} {A:Option Addr} {c:Nat} {m:List (List Int)} {bound budget:Int} (h:MatA w0 A m) (h64:Fits64 m) (hlen:m.length<=1099511627776) (hrl:∀r∈m,r.length<=9223372036854775807) (hc:m.length<=c) (hc2:c<=9223372036854775807) (hu:budget<2000∨1000000<budget) [hx:Ext w0 w]:
  Calls Tryz.prog 16 #[.slice A m.length c,.int .i64 bound,.int .i64 budget] w (RetVal w (.bool true)):=by
 by_cases hz:errN m bound budget=0
 ·obtain ⟨hr,ha,ht⟩:=errN_zero hz
  obtain ⟨a1,a2,a3,a4⟩:=argsB_iff.1 ha
  have hu2:budget<2000:=by omega
  obtain ⟨b,rfl⟩:∃b:Nat,bound=b:=⟨bound.toNat,by omega⟩
  have HE1:=Lib.hid (fun W (e:Ext w0 W)=>(enum_three (w:=W) (c:=c) h hc hc2 hz hu2).1)
  have HE2:=Lib.hid (fun W (e:Ext w0 W)=>(enum_three (w:=W) (c:=c) h hc hc2 hz hu2).2.1)
  have HE3:=Lib.hid (fun W (e:Ext w0 W)=>(enum_three (w:=W) (c:=c) h hc hc2 hz hu2).2.2)
  have HR1:=Lib.hid (fun W (e:Ext w0 W)=>(ref_three (w:=W) (c:=c) h hz hu2).1)
  have HR2:=Lib.hid (fun W (e:Ext w0 W)=>(ref_three (w:=W) (c:=c) h hz hu2).2.1)
  have HR3:=Lib.hid (fun W (e:Ext w0 W)=>(ref_three (w:=W) (c:=c) h hz hu2).2.2.1)
  have hn8:m.length<=8:=(isSmallB_len (red_ok hr).small).2
  have HN:=Lib.hid hn8
  unfold RetVL at HE1
  unfold RetSLB at HE3
  unfold RetV10 at HR1
  unfold RetSh10 at HR3
  obtain ⟨q,hq⟩:∃q,lastOf (stS m b) / 2=q:=⟨_,rfl⟩
  rw [hq] at HE2 HR2
  generalize totS m b=tot at*
  have g1:((0:Int)==0)=true:=rfl
  have g2:(tot==tot)=true:=by simp
  have g3:(q==q)=true:=by simp
  clear hz hr ha hq h64 hrl hu
  go_enter Tryz.func16,Tryz.ntmps16
  go_upto_region 2 with (go_at_call 40;refine (HE1.out _ inferInstance).mono ?_;rintro e w1 ⟨B1,d1,L1,rfl,hM1,h11,h12,hV1,h13,hs1⟩;have HM1:=Lib.hid hM1;have HV1:=Lib.hid hV1;clear hM1 hV1)
  go_upto_region 3 with (go_at_call 32;refine (HR1.out _ inferInstance).mono ?_;rintro e w2 (⟨-,B2,d2,L2,rfl,hM2,h21,h22,hV2,hs2⟩ |⟨hbad,-⟩);(rotate_left;exact absurd hbad (by omega));have hLe:L1=L2:=VecList.unique HV1.out hV2;subst hLe;have HM2:=Lib.hid hM2;clear hM2 hV2)
  have HS1:=Lib.hid (fun W (e:Ext w2 W)=>(same_list h13 HV1.out.rows HN.out).out w2 w2 W B1 B2 d1 d2 (HM1.out.ext (inferInstance:Ext w1 w2)) HM2.out e e)
  have hx2:Ext w0 w2:=inferInstance
  clear HM1 HM2 HV1 HE1 HR1
  go_upto_region 5 with (first
   |(go_at_call 42;refine (HE2.out _ inferInstance).mono ?_;rintro e w3 ⟨rfl,hs3⟩)
   |(go_at_call 39;refine (HR2.out _ inferInstance).mono ?_;rintro e w4 ⟨rfl,hs4⟩))
  have hx24:Ext w2 w4:=inferInstance
  go_upto_region 6 with (go_at_call 43;refine (HE3.out _ inferInstance).mono ?_;rintro e w5 ⟨B5,d5,L5,rfl,hM5,h51,h52,hV5,h53,hs5⟩;have HM5:=Lib.hid hM5;have HV5:=Lib.hid hV5;clear hM5 hV5)
  go_upto_region 7 with (go_at_call 44;refine (HR3.out _ inferInstance).mono ?_;rintro e w6 (⟨-,B6,d6,L6,rfl,hM6,h61,h62,hV6,hs6⟩ |⟨hbad,-⟩);(rotate_left;exact absurd hbad (by omega));have hLe:L5=L6:=VecList.unique HV5.out hV6;subst hLe;have HM6:=Lib.hid hM6;clear hM6 hV6)
  have hx26:Ext w2 w6:=hx24.trans inferInstance
  have hxw:Ext w w6:=inferInstance
  have HT1:=Lib.hid (fun W (e:Ext w6 W)=>HS1.out W (hx26.trans e))
  have HT2:=Lib.hid (fun W (e:Ext w6 W)=>(same_list h53 HV5.out.rows HN.out).out w6 w6 W B5 B6 d5 d6 (HM5.out.ext (inferInstance:Ext w5 w6)) HM6.out e e)
  clear HS1 HM5 HM6 HV5 HE2 HE3 HR2 HR3 hx24 hx26 hx2
  have tok1:True:=trivial
  go_wp2_with (first
   |(go_at_call 41;have _t:=tok1;clear _t tok1;refine (HT1.out _ inferInstance).mono ?_;rintro e w7 ⟨rfl,nq,rfl⟩)
   |(go_at_call 41;refine (HT2.out _ inferInstance).mono ?_;rintro e w8 ⟨rfl,nq2,rfl⟩))
  go_ret
  exact ⟨rfl,Step.of _ _⟩
 ·obtain ⟨k,hk⟩:∃k,errN m bound budget=k:=⟨_,rfl⟩
  have hrg:=errN_range m bound budget
  have hsp:=spec_err hu hz
  rw [hk] at hz hsp hrg
  have hf:isRedB m=true->FormOK m:=fun hr=>(red_ok hr).form
  have HE:=Lib.hid (fun W (e:Ext w0 W)=>And.intro (Vectors_err (w:=W) (c:=c) h hlen hc hc2 hf hsp (by omega) (by omega)) (And.intro (Count_err (w:=W) (c:=c) h hlen hc hc2 hf hsp (by omega) (by omega)) (Shell_err (w:=W) (c:=c) h hlen hc hc2 hf hsp (by omega) (by omega))))
  have HR:=Lib.hid (fun W (e:Ext w0 W)=>And.intro (rVectors_err (w:=W) (c:=c) h h64 hlen hrl hk hz) (And.intro (rCount_err (w:=W) (c:=c) h h64 hlen hrl hk hz) (rShell_err (w:=W) (c:=c) h h64 hlen hrl hk hz)))
  have g1:(k==k)=true:=by simp
  have g2:((0:Int)==0)=true:=rfl
  have HSN:Hid (∀W,Calls Tryz.prog 41 #[.slice none 0 0,.slice none 0 0] W (RetQ W (.bool true))):=Lib.hid (fun W=>(same_list (L:=[]) (n:=0) (by simp) (fun r hr=>by simp at hr) (by omega)).out W W W none none 0 0 (Mat64.empty W) (Mat64.empty W) (Ext.refl W) (Ext.refl W))
  clear hsp hk hz hrg hf h64 hrl hu
  go_enter Tryz.func16,Tryz.ntmps16
  go_wp2_with (first
   |(go_at_call 40;refine ((HE.out _ inferInstance).1).mono ?_;rintro e w1 ⟨rfl,hs1⟩)
   |(go_at_call 32;refine ((HR.out _ inferInstance).1).mono ?_;rintro e w2 ⟨rfl,hs2⟩)
   |(go_at_call 42;refine ((HE.out _ inferInstance).2.1).mono ?_;rintro e w3 ⟨rfl,hs3⟩)
   |(go_at_call 39;refine ((HR.out _ inferInstance).2.1).mono ?_;rintro e w4 ⟨rfl,hs4⟩)
   |(go_at_call 43;refine ((HE.out _ inferInstance).2.2).mono ?_;rintro e w5 ⟨rfl,hs5⟩)
   |(go_at_call 44;refine ((HR.out _ inferInstance).2.2).mono ?_;rintro e w6 ⟨rfl,hs6⟩)
   |(go_at_call 41;refine (HSN.out _).mono ?_;rintro e w7 ⟨rfl,nq,rfl⟩))
  go_ret
  exact ⟨rfl,Step.of _ _⟩
set_option maxRecDepth 20000 in
theorem EnumerateAny_any {w:World} {bound budget dim kind:Int} {A NA:Option Addr} {c:Nat} {m:List (List Int)} {l:List Int} {nc:Nat} {v3:Value} {te:TypeId} (hM:MatA w A m) (h64:Fits64 m) (hrl:∀r∈m,r.length<=9223372036854775807) (hc:m.length<=c) (hc2:c<=9223372036854775807) (hb0:-9223372036854775808<=bound) (hb1:bound<9223372036854775808) (hu0:-9223372036854775808<=budget) (hu1:budget<9223372036854775808) (hN:Ints w NA te .i8 l) (h8:I8 l) (hl:l.length<=9223372036854775807) (hd0:0<=dim) (hd1:dim<256) (hk0:0<=kind) (hk1:kind<256):
  Calls Tryz.prog 3 #[.slice A m.length c,.int .i64 bound,.int .i64 budget,.agg #[.int .u8 dim,.int .u8 kind,.slice NA l.length nc,v3]] w (RetVal w (.bool true)):=by
 by_cases hlen:20<m.length
 ·have hd:decide ((20:Int)<(m.length:Int))=true:=by simp;omega
  clear hM h64 hrl hN h8
  go_enter Tryz.func3,Tryz.ntmps3
  go_wp2_with (go_at_call 15;refine awake11_any.mono ?_;rintro e w1 ⟨rfl,hs1⟩)
  go_ret
  exact ⟨rfl,Step.of _ _⟩
 have hd:decide ((20:Int)<(m.length:Int))=false:=by simp;omega
 have HH:Hid (∀W,Ext w W->∀(bd bu:Int),(bu<2000∨1000000<bu)->Calls Tryz.prog 16 #[.slice A m.length c,.int .i64 bd,.int .i64 bu] W (RetVal W (.bool true))):=Lib.hid (fun W e bd bu hu=>matches11_ok (w:=W) (c:=c) hM h64 (by omega) hrl hc hc2 hu)
 have HG:Hid (∀W,Ext w W->Calls Tryz.prog 17 #[.agg #[.int .u8 dim,.int .u8 kind,.slice NA l.length nc,v3],.int .i64 3] W (RetLF W (1+(dim%3).toNat))):=Lib.hid (fun W e=>rForm_ok (most:=3) (hN.ext e) h8 hl hd0 hd1 hk0 hk1 (by omega) (by omega))
 have hn4:1+(dim%3).toNat<=4:=by omega
 clear hN h8 h64 hrl hM
 generalize 1+(dim%3).toNat=n at*
 obtain ⟨u,hu⟩:∃u,budget.tmod 2000=u:=⟨_,rfl⟩
 obtain ⟨v,hv⟩:∃v,bound.tmod 40=v:=⟨_,rfl⟩
 have hub:-2000<u/\u<2000:=by
  rcases Int.le_total 0 budget with h |h
  ·rw [Int.tmod_eq_emod_of_nonneg h] at hu;omega
  ·have h2:budget=-(-budget):=by omega
   rw [h2,Int.neg_tmod,Int.tmod_eq_emod_of_nonneg (by omega)] at hu;omega
 have hvb:-40<v/\v<40:=by
  rcases Int.le_total 0 bound with h |h
  ·rw [Int.tmod_eq_emod_of_nonneg h] at hv;omega
  ·have h2:bound=-(-bound):=by omega
   rw [h2,Int.neg_tmod,Int.tmod_eq_emod_of_nonneg (by omega)] at hv;omega
 have wu:IntKind.i64.wrap u=u:=IntWalk.i64_in _ (by omega)
 have wv:IntKind.i64.wrap v=v:=IntWalk.i64_in _ (by omega)
 have HA1:=Lib.hid (fun W (e:Ext w W)=>HH.out W e bound u (by omega))
 have HA2:=Lib.hid (fun W (e:Ext w W)=>HH.out W e bound (-1) (by omega))
 have HF:Hid (∀(W0:World) (AF:Option Addr) (cF:Nat) (hh:List (List Int)),LLLed hh->hh.length=n->Mat64 W0 AF hh->n<=cF->cF<=9223372036854775807->∀W,Ext W0 W->∀(bd bu:Int),(bu<2000∨1000000<bu)->Calls Tryz.prog 16 #[.slice AF n cF,.int .i64 bd,.int .i64 bu] W (RetVal W (.bool true))):=Lib.hid (fun W0 AF cF hh hL hlenF hMF h1 h2 W e bd bu hu=>by
  have h8:=hL.len8
  have :=matches11_ok (w:=W) (c:=cF) (bound:=bd) (budget:=bu) hMF.a hL.fits (by omega) (fun r hr=>by rw [hL.all r hr];omega) (by omega) h2 hu
  rwa [hlenF] at this)
 unfold RetLF at HG
 have k1:True:=trivial
 have k2:True:=trivial
 have k3:True:=trivial
 have k4:True:=trivial
 clear HH hlen
 generalize m.length=ln at*
 go_enter Tryz.func3,Tryz.ntmps3
 go_wp2_with (first
  |(go_at_call 16;have _t:=k1;clear _t k1;refine (HA1.out _ inferInstance).mono ?_;rintro e w1 ⟨rfl,hs1⟩)
  |(go_at_call 17;have _t:=k2;refine (HG.out _ inferInstance).mono ?_;rintro e w2 ⟨a2,hh2,A2,c2,rfl,-,hL2,hlen2,-,hM2,hc2a,hc2b,hs2⟩;have HB2:=Lib.hid (HF.out _ _ _ _ hL2 hlen2 hM2 hc2a hc2b);clear hL2 hlen2 hM2)
  |(go_at_call 16;have _t:=k2;clear _t k2;refine (HB2.out _ inferInstance bound u (by omega)).mono ?_;rintro e w3 ⟨rfl,hs3⟩)
  |(go_at_call 17;have _t:=k3;refine (HG.out _ inferInstance).mono ?_;rintro e w4 ⟨a4,hh4,A4,c4,rfl,-,hL4,hlen4,-,hM4,hc4a,hc4b,hs4⟩;have HB4:=Lib.hid (HF.out _ _ _ _ hL4 hlen4 hM4 hc4a hc4b);clear hL4 hlen4 hM4)
  |(go_at_call 16;have _t:=k3;clear _t k3;refine (HB4.out _ inferInstance v u (by omega)).mono ?_;rintro e w5 ⟨rfl,hs5⟩)
  |(go_at_call 16;have _t:=k4;clear _t k4;refine (HA2.out _ inferInstance).mono ?_;rintro e w6 ⟨rfl,hs6⟩)
  |(go_at_call 17;refine (HG.out _ inferInstance).mono ?_;rintro e w7 ⟨a7,hh7,A7,c7,rfl,-,hL7,hlen7,-,hM7,hc7a,hc7b,hs7⟩;have HB7:=Lib.hid (HF.out _ _ _ _ hL7 hlen7 hM7 hc7a hc7b);clear hL7 hlen7 hM7)
  |(go_at_call 16;refine (HB7.out _ inferInstance v 1000001 (by omega)).mono ?_;rintro e w8 ⟨rfl,hs8⟩)
  |(go_at_call 15;refine awake11_any.mono ?_;rintro e w9 ⟨rfl,hs9⟩))
 go_ret
 exact ⟨rfl,Step.of _ _⟩
end Go.Proofs.YtijfjailmilkfaaGreat
