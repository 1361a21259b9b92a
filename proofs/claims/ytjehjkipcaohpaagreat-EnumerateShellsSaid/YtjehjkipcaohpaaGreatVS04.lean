/- R10c R11a R11b R11c R11d R11e R11g -/
import Derived.Test.YtjehjkipcaohpaaGreatProg
import Derived.Test.YtjehjkipcaohpaaGreatShelf
import Derived.Test.YtjehjkipcaohpaaGreatVS03
import Derived.Test.YtjehjkipcaohpaaGreatV20
set_option maxHeartbeats 8000000
set_option linter.unusedVariables false
set_option linter.unusedSimpArgs false
set_option linter.constructorNameAsVariable false
namespace Go.Proofs.YtjehjkipcaohpaaGreat
open Go.RowKit
open La
theorem rvalue_ok {w0 w1 w:World} {A B:Option Addr} {c d n k:Nat} {m:List (List Int)} {x:List Int} (hM:MatV w0 A m) (hX:IntsV w1 B x) (h1:m.length=n) (h3:1<=n) (h4:n<=16) (hn:AllLen m n) (hxl:x.length=n) (hk:k<=100000000000) (hbm:∀i j,Bd k (ent m i j)) (hbx:BdL k x) [hx:Ext w0 w] [hy:Ext w1 w]:
  Calls Tryz.prog 204 #[.slice A n c,.slice B n d] w (RetInt w (sumR n fun i=>x.getD i 0*(applyR m n x).getD i 0)):=by
 have h0:=hM.ext hx
 have hX0:=hX.ext hy
 have HAP:Hid (∀W,Ext w W->Calls Tryz.prog 161 #[.slice A n c,.slice B n d] W (RetIntsB W (applyR m n x))):=Lib.hid (fun W e=>by
  have :=rApply_ok (w:=W) (c:=c) (d:=d) (k:=k) h0 hX0 (by omega) (by omega) h3 h4 hn hxl (by omega) hbm hbx
  rwa [h1] at this)
 have HDT:Hid (∀(W1 W:World) (A1:Option Addr) (c1:Nat),IntsV W1 A1 (applyR m n x)->Ext W1 W->Ext w W->Calls Tryz.prog 163 #[.slice B n d,.slice A1 n c1] W (RetInt W (sumR n fun i=>x.getD i 0*(applyR m n x).getD i 0))):=Lib.hid (fun W1 W A1 c1 i1 e1 e2=>
  rDot_ok hX0 i1 hxl (by rw [applyR_len];exact h1) h4 (k:=2*k+n) (by omega) (fun i=>(hbx i).mono (by omega)) (applyR_bd h4 hbm hbx))
 have HAL:Hid ((applyR m n x).length=n):=Lib.hid (by rw [applyR_len];exact h1)
 clear hbm hbx hn hxl h1 hM hX h0 hX0
 generalize (sumR n fun i=>x.getD i 0*(applyR m n x).getD i 0)=z at*
 generalize applyR m n x=ay at*
 go_enter Tryz.func204,Tryz.ntmps204
 go_wp2_with (first
  |(go_at_call 161;refine (HAP.out _ inferInstance).mono ?_;rintro e w5 ⟨A5,c5,rfl,hI5,-,-,hs5⟩;have HI5:=Lib.hid hI5;clear hI5;rw [HAL.out])
  |(go_at_call 163;refine (HDT.out _ _ _ _ HI5.out inferInstance inferInstance).mono ?_;rintro e w7 ⟨g7,B7,k7,d7,rfl,hz7,hs7⟩;have hb7:=(inferInstance:BlkAt w.heap.size #[.bool false,.slice none 0 0] 148 w7).eq;obtain ⟨t1,t2,t3,t4,t5⟩:=box_cells2 hb7;have tq:Typed w.heap.size 148 w7:=⟨_,_,hb7⟩;clear hb7))
 exact bodyPost_ret (v:= .agg #[.bool g7,.slice B7 k7 d7]) (by simp [results,Tryz.results204,go_sem,t1,t2]) rfl ⟨_,_,_,_,rfl,hz7.keeps,Step.of _ _⟩
theorem stM_zero {m:List (List Int)} (hn:AllLen m m.length):stM m 0=m:=by
 unfold stM
 rw [Nat.sub_zero]
 have :tab (fun i j=>E (ent m) 0 (0+i) (0+j)) m.length m.length=tab (fun i j=>ent m i j) m.length m.length:=tab_congr fun i j _ _=>by rw [Nat.zero_add,Nat.zero_add];rfl
 rw [this]
 exact (tab_self rfl hn).symm
theorem nrm_bd {m:List (List Int)} (hL:LLLed m) {x:List Int} (hxl:x.length=m.length) (hxb:∀a∈x,-9223372036854775808<=a/\a<=9223372036854775807):Bd 100000 (nrm m x):=by
 have h8:=hL.len8
 rw [<-ipR_nrm hL.all x hxl,ipR_apply]
 have h1:=applyR_bd (m:=m) (n:=m.length) (k:=199) (x:=x) (by omega) hL.bd (fun i=>(bdL_64 hxb i).mono (by omega))
 exact (dot_bd (k:=64+(2*199+m.length)) (n:=m.length) (fun i _=>(bdL_64 hxb i).mul (h1 i)) m.length (Nat.le_refl _)).mono (by omega)
set_option maxRecDepth 20000 in
theorem rPartial_ok {w0 w1 w:World} {m:List (List Int)} {x:List Int} {SB DB XA:Option Addr} {sc dc xc n:Nat} (hF':FrV w0 m SB DB) (hL:LLLed m) (h1:m.length=n) (hX:Ints w1 XA 2 .i64 x) (hxl:x.length=n) (hxb:∀a∈x,-9223372036854775808<=a/\a<=9223372036854775807) [hx:Ext w0 w] [hy:Ext w1 w]:
  Calls Tryz.prog 141 #[.agg #[.int .i64 n,.slice SB n sc,.slice DB (n+1) dc],.slice XA n xc] w (RetRat w (fun p q=>p=nrm m x/\q=1)):=by
 have h8:=hL.len8
 have h3:=hL.len1
 have hF:=hF'.ext hx
 have hms:((List.range m.length).map (stM m))[0]? =some (stM m 0):=by rw [List.getElem?_map,List.getElem?_range (by omega)];rfl
 obtain ⟨bs,os,BM,cM,rfl,g1,hM,-,-,g2⟩:=hF.1.at_ hms
 rw [stM_zero hL.all] at g1 hM
 obtain ⟨bd,od,gD,BD,kD,dD,rfl,d1,d2,hzD,d3⟩:=hF.2.atD (i:=0) (by simp)
 simp only [List.getD_cons_zero] at hzD
 rw [h1] at g1
 simp only [Nat.add_zero,Nat.zero_mul] at g1 d1 d2
 have hall:AllLen m n:=by rw [<-h1];exact hL.all
 have HCO:Hid (∀W,Ext w1 W->Calls Tryz.prog 162 #[.slice XA n xc] W (RetIntsL W x)):=Lib.hid (fun W e=>by
  have :=rColumn_ok (w:=W) (c:=xc) hX (by omega) hxb
  rwa [hxl] at this)
 have hnv:(sumR n fun i=>x.getD i 0*(applyR m n x).getD i 0)=nrm m x:=by
  rw [<-ipR_nrm hL.all x (by omega),ipR_apply,h1]
 have HVA:Hid (∀(W1 W:World) (A1:Option Addr) (c1:Nat),IntsV W1 A1 x->Ext W1 W->Ext w W->Calls Tryz.prog 204 #[.slice BM n cM,.slice A1 n c1] W (RetInt W (nrm m x))):=Lib.hid (fun W1 W A1 c1 i1 e1 e2=>by
  rw [<-hnv]
  exact rvalue_ok (k:=199) (hM.ext e2) i1 h1 (by omega) (by omega) hall hxl (by omega) hL.bd (fun i=>(bdL_64 hxb i).mono (by omega)))
 have hnb:=nrm_bd hL (x:=x) (by omega) hxb
 have HQU:Hid (∀(W1 W:World) g B k d,IntV W1 g B k d (nrm m x)->Ext W1 W->Ext w W->Calls Tryz.prog 152 #[.agg #[.bool g,.slice B k d],.agg #[.bool gD,.slice BD kD dD]] W (RetRat W (RatOf (nrm m x) 1))):=Lib.hid (fun W1 W g B k d hz e1 e2=>rQuotient_ok hz (hzD.ext e2) (kk:=100000) (by omega) hnb (Bd.one (by omega)) (by omega))
 have HXL:=Lib.hid hxl
 have hn0:((n:Int)==0)=false:=by simp;omega
 have hn8:n<=8:=by omega
 have hn1:0<n:=by omega
 unfold RetRat at HQU |-
 generalize nrm m x=nv at*
 clear hF hF' hms hM hL h1 hX hxl hxb hall hnv hnb hzD h8 h3
 have oa:Old bs w:=⟨g2⟩
 have ob:Old bd w:=⟨d3⟩
 go_enter Tryz.func141,Tryz.ntmps141
 go_wp2_with fail
 have HKP:Hid (∀W,Ext (w.alloc (.cells #[.int .i64 n,.slice (some ⟨bs,os,none⟩) n sc,.slice (some ⟨bd,od,none⟩) (n+1) dc] 89)) W->W.cell? ⟨w.heap.size,1,none⟩=some (.slice (some ⟨bs,os,none⟩) n sc)/\W.cell? ⟨w.heap.size,2,none⟩=some (.slice (some ⟨bd,od,none⟩) (n+1) dc)/\W.cell? ⟨bs,os,none⟩=some (.slice BM n cM)/\W.cell? ⟨bd,od,none⟩=some (.bool gD)/\W.cell? ⟨bd,od+1,none⟩=some (.slice BD kD dD)):=Lib.hid (fun W e=>by
  have hb:=heap_of_ext e (heap_alloc_new w _)
  obtain ⟨⟨-,f1,f2⟩,-,-⟩:=blk3 hb
  have e2:Ext w W:=Ext.trans inferInstance e
  exact ⟨f1,f2,(cellE w).trans g1,(cellE w).trans d1,(cellE w).trans d2⟩)
 go_region_held3 (fun w'=>w'.cell? ⟨w.heap.size,1,none⟩=some (.slice (some ⟨bs,os,none⟩) n sc)/\w'.cell? ⟨w.heap.size,2,none⟩=some (.slice (some ⟨bd,od,none⟩) (n+1) dc)/\w'.cell? ⟨bs,os,none⟩=some (.slice BM n cM)/\w'.cell? ⟨bd,od,none⟩=some (.bool gD)/\w'.cell? ⟨bd,od+1,none⟩=some (.slice BD kD dD))
  (exact HKP.out _ inferInstance)
  (first
   |(go_at_call 162;refine (HCO.out _ inferInstance).mono ?_;rintro e w3 ⟨A3,c3,rfl,hI3,-,-,hs3⟩;rw [HXL.out])
   |(go_at_call 204;refine (HVA.out _ _ _ _ hI3 inferInstance inferInstance).mono ?_;rintro e w4 ⟨g4,B4,k4,d4,rfl,hz4,hs4⟩)
   |(go_at_call 152;refine (HQU.out _ _ _ _ _ _ hz4 inferInstance inferInstance).mono ?_;rintro e w5 ⟨g6,B6,k6,d6,g7,B7,k7,d7,p,q,rfl,hz6,hz7,hPQ,hs5⟩;have hbk:=(inferInstance:BlkAt (w.heap.size+1) #[.bool false,.slice none 0 0,.bool false,.slice none 0 0] 189 w5).eq;have HBK:=Lib.hid hbk;obtain ⟨⟨a0,a1,a2,a3⟩,⟨f0,f1,f2,f3⟩,a4⟩:=blk4 hbk;have tq:Typed (w.heap.size+1) 189 w5:=⟨_,_,hbk⟩;clear hbk))
 have hq1:q=1:=by
  have :=hPQ.pos
  have :=hPQ.le2
  omega
 have hp1:p=nv:=by
  have :=hPQ.eq
  rw [hq1] at this
  omega
 clear hPQ
 go_wp2_with fail
 exact bodyPost_ret (v:= .agg #[.bool g6,.slice B6 k6 d6,.bool g7,.slice B7 k7 d7]) (by simp [results,Tryz.results141,go_sem,a0,a1,a2,a3]) rfl ⟨_,_,_,_,_,_,_,_,p,q,rfl,hz6.keeps,hz7.keeps,⟨hp1,hq1⟩,Step.of _ _⟩
/-! ## Lists of items -/
def ItV (w:World) (vs:List Value) (its:List (Int×List Int)):Prop:=vs.length=its.length*2/\∀(i:Nat) (p:Int×List Int),its[i]? =some p->∃B c,vs[i*2]? =some (.int .i64 p.1)/\vs[i*2+1]? =some (.slice B p.2.length c)/\Ints w B 2 .i64 p.2/\p.2.length<=c/\c<=9223372036854775807
theorem ItV.map {w w':World} {vs:List Value} {its:List (Int×List Int)} (h:ItV w vs its) (hk:∀{B:Option Addr} {l:List Int},Ints w B 2 .i64 l->Ints w' B 2 .i64 l):ItV w' vs its:=⟨h.1,fun i p hp=>by
 obtain ⟨B,c,a1,a2,a3,a4⟩:=h.2 i p hp
 exact ⟨B,c,a1,a2,hk a3,a4⟩⟩
theorem ItV.ext {w w':World} {vs:List Value} {its:List (Int×List Int)} (h:ItV w vs its) (hx:Ext w w'):ItV w' vs its:=h.map fun h=>h.ext hx
theorem ItV.nil (w:World):ItV w [] []:=⟨rfl,fun i p hp=>by simp at hp⟩
theorem ItV.snoc {w:World} {vs:List Value} {its:List (Int×List Int)} (h:ItV w vs its) {B:Option Addr} {c:Nat} {a:Int} {x:List Int} (hI:Ints w B 2 .i64 x) (h1:x.length<=c) (h2:c<=9223372036854775807):ItV w (vs++[.int .i64 a,.slice B x.length c]) (its++[(a,x)]):=by
 refine ⟨by simp [h.1];omega,fun i p hp=>?_⟩
 rcases Nat.lt_or_ge i its.length with hlt |hge
 ·rw [List.getElem?_append_left hlt] at hp
  obtain ⟨B',c',a1,a2,a3⟩:=h.2 i p hp
  have hl:=h.1
  exact ⟨B',c',by rw [List.getElem?_append_left (by omega)];exact a1,by rw [List.getElem?_append_left (by omega)];exact a2,a3⟩
 ·have hi:i=its.length:=by
   have :=(List.getElem?_eq_some_iff.1 hp).1
   simp at this;omega
  subst hi
  rw [List.getElem?_append_right (Nat.le_refl _),Nat.sub_self] at hp
  simp only [List.getElem?_cons_zero] at hp
  injection hp with hp
  subst hp
  have hl:=h.1
  exact ⟨B,c,by rw [List.getElem?_append_right (by omega),hl,Nat.sub_self];rfl,by rw [List.getElem?_append_right (by omega),hl,Nat.add_sub_cancel_left];rfl,hI,h1,h2⟩
end Go.Proofs.YtjehjkipcaohpaaGreat
namespace Go.Proofs.YtjehjkipcaohpaaGreat
open Go.RowKit
open La
theorem infoIt:(Tryz.prog.info? 45).map (fun i=>(i.zero,i.size,i.bytes))=some (some (.agg #[.int .i64 0,.slice none 0 0]),2,32):=by kernel_rfl
theorem Grow.stepI {w w' w2:World} {base:Nat} {e:TypeId} (h:Grow base e w w') (h':Grow base e w' w2):Grow base e w w2:=⟨h.below.trans h'.below,fun k hk hne=>by
 have e1:=h.typed k hk hne
 exact (h'.typed k (Nat.lt_of_lt_of_le hk h.below.size) (fun cs fr hh=>hne cs fr (by rw [<-e1];exact hh))).trans e1⟩
theorem run_fieldQ0 (g:Bool) (B:Option Addr) (k d:Nat) (g':Bool) (B':Option Addr) (k' d':Nat) (w:World):(Instr.field 189 (.agg #[.bool g,.slice B k d,.bool g',.slice B' k' d']) 0).run Tryz.prog w= .ok (.agg #[.bool g,.slice B k d]) w:=by
 obtain ⟨i,h1,h2,h3,h4⟩:=info_parts infoInt
 simp [Instr.field,run_underlying Tryz.underlying189,asAgg,part,sizeOf,typeInfo,go_sem,h1,h3]
attribute [local go_sem] run_fieldQ0
def lvN (m:List (List Int)) (b:Int):Nat->List Int->List (List Int)
 |0,t=>[t]
 |k+1,t=>lvs m b k t
def lvK (m:List (List Int)) (b:Int) (k:Nat) (t:List Int) (q:Nat):List (List Int):=(List.range q).flatMap fun (j:Nat)=>lvN m b k ((tLo m b k t+(j:Int))::t)
theorem lvs_K (m:List (List Int)) (b:Int) (k:Nat) (t:List Int):lvs m b k t=lvK m b k t (tCnt m b k t):=by
 cases k with
 |zero=>
  unfold lvK lvN
  rw [lvs]
  induction List.range (tCnt m b 0 t) with
  |nil=>rfl
  |cons a l ih=>rw [List.map_cons,List.flatMap_cons,ih];rfl
 |succ k=>rfl
theorem lvK_succ (m:List (List Int)) (b:Int) (k:Nat) (t:List Int) (q:Nat):lvK m b k t (q+1)=lvK m b k t q++lvN m b k ((tLo m b k t+(q:Int))::t):=by
 unfold lvK
 rw [List.range_succ,List.flatMap_append,List.flatMap_singleton]
theorem lvK_le (m:List (List Int)) (b:Int) (k:Nat) (t:List Int) {p q:Nat} (h:p<=q):(lvK m b k t p).length<=(lvK m b k t q).length:=by
 induction q with
 |zero=>obtain rfl:p=0:=by omega
        exact Nat.le_refl _
 |succ q ih=>
  rcases Nat.lt_or_ge p (q+1) with h1 |h1
  ·have :=ih (by omega)
   rw [lvK_succ,List.length_append];omega
  ·obtain rfl:p=q+1:=by omega
   exact Nat.le_refl _
def itm (m:List (List Int)) (L:List (List Int)):List (Int×List Int):=L.map fun x=>(nrm m x,x)
theorem itm_append (m:List (List Int)) (L L':List (List Int)):itm m (L++L')=itm m L++itm m L':=List.map_append
def RetLv (w:World) (base len:Nat) (its:List (Int×List Int)) (m L:List (List Int)) (e:Ending) (w':World):Prop:=∃A c vs,e= .returned (.slice A (len+L.length) c)/\Own w' base 45 2 A (len+L.length) c vs/\ItV w' vs (its++itm m L)/\Grow base 45 w w'
set_option maxRecDepth 20000 in
theorem rleaves_ok {m:List (List Int)} {n base:Nat} {bound:Int} (hL:LLLed m) (h1:m.length=n) (hb:0<=bound) (hb1:bound<1073741824) (k:Nat):
  ∀(w:World) (SB DB TA OA:Option Addr) (sc dc tc oc q len:Nat) (t:List Int) (vs:List Value) (its:List (Int×List Int)),n=k+q+1->FrV w m SB DB->Ints w TA 2 .i64 t->t.length=q->(∀a∈t,-9223372036854775808<=a/\a<=9223372036854775807)->0<=left (ent m) bound (k+1) t->Own w base 45 2 OA len oc vs->ItV w vs its->base<=w.heap.size->len+(lvs m bound k t).length<=4000000->
  Calls Tryz.prog 85 #[.agg #[.int .i64 n,.slice SB n sc,.slice DB (n+1) dc],.int .i64 bound,.slice TA q tc,.slice OA len oc] w (RetLv w base len its m (lvs m bound k t)):=by
 induction k using Nat.strongRecOn with
 |ind k ih=>
  intro w SB DB TA OA sc dc tc oc q len t vs its hq hF hT htl htb h0 hO hV hbs hln
  have IH:=Lib.hid ih
  clear ih
  have hr:=red_ok hL.red
  have hn8:=hL.len8
  have hkm:k<m.length:=by omega
  have htm:t.length=m.length-1-k:=by omega
  obtain ⟨v1,v2,v3,v4,v5,v6⟩:=ends_small hr hb hb1 hkm htm h0
  have HIV:Hid (∀W,Ext w W->Calls Tryz.prog 108 #[.agg #[.int .i64 n,.slice SB n sc,.slice DB (n+1) dc],.int .i64 bound,.slice TA q tc] W (RetVal W (.tuple #[.int .i64 (tLo m bound k t),.int .i64 (tHi m bound k t)]))):=Lib.hid (fun W e=>
   rInterval_ok hF hL h1 hq hT htl htb (by omega) (by omega) h0 (by omega) (by omega) (by omega) (by omega))
  rw [lvs_K] at hln |-
  unfold RetLv
  obtain ⟨J,hJ⟩:∃J,J=tCnt m bound k t:=⟨_,rfl⟩
  rw [<-hJ] at hln |-
  have hJ2:J=(tHi m bound k t-tLo m bound k t+1).toNat:=hJ
  have HK1:Hid (∀i,i<J->0<=left (ent m) bound k ((tLo m bound k t+(i:Int))::t)):=Lib.hid (fun i hi'=>kid hr t hkm htm h0 (j:=i) (by rw [hJ] at hi';exact hi'))
  have HK2:Hid (∀i,i<=J->(lvK m bound k t i).length<=(lvK m bound k t J).length):=Lib.hid (fun i hi'=>lvK_le m bound k t hi')
  have HK4:=Lib.hid (lvK_succ m bound k t)
  obtain ⟨lo,hlo⟩:∃lo,lo=tLo m bound k t:=⟨_,rfl⟩
  obtain ⟨hi,hhi⟩:∃hi,hi=tHi m bound k t:=⟨_,rfl⟩
  rw [<-hlo] at v1 v2 v3 v4 HIV HK1 HK4 hJ2
  rw [<-hhi] at v1 v2 v5 v6 HIV hJ2
  have hhl:hi-lo+1=(J:Int):=by omega
  have HTBJ:Hid (∀i,i<J->∀a∈(lo+(i:Int))::t,-9223372036854775808<=a/\a<=9223372036854775807):=Lib.hid (fun i hi' a ha=>by
   rcases List.mem_cons.1 ha with rfl |ha
   ·omega
   ·exact htb a ha)
  have HNB:Hid (k=0->∀i,i<J->-9223372036854775808<=nrm m ((lo+(i:Int))::t)/\nrm m ((lo+(i:Int))::t)<=9223372036854775807):=Lib.hid (fun e i hi'=>by
   have h4:=HK1.out i hi'
   subst e
   have hlx:((lo+(i:Int))::t).length=m.length:=by simp;omega
   rw [left_nrm hL.all bound _ hlx] at h4
   have :=nrm_nonneg hr _ hlx
   omega)
  have HFV:=Lib.hid hF
  have HTV:=Lib.hid hT
  have HH1:=Lib.hid h1
  have HTL:=Lib.hid htl
  have HQ:=Lib.hid hq
  have HO:=Lib.hid hO
  have HV:=Lib.hid hV
  have hqn:q<n:=by omega
  have hn9:n<=8:=by omega
  clear hlo hhi h1 hkm hq htl hJ hF hT htb h0 hO hV hr htm hJ2
  go_enter Tryz.func85,Tryz.ntmps85
  go_upto_region 2 with (go_at_call 108;refine (HIV.out _ inferInstance).mono ?_;rintro e w1 ⟨rfl,hs1⟩)
  have hx1:Ext w w1:=inferInstance
  have hbs1:base<=w1.heap.size:=Nat.le_trans hbs hx1.size
  have hfb:w1.heap[w.heap.size]? =some (.cells #[.int .i64 n,.slice SB n sc,.slice DB (n+1) dc] 89 (0,0)):=heap_of_ext (inferInstance:Ext (w.alloc (.cells #[.int .i64 n,.slice SB n sc,.slice DB (n+1) dc] 89)) w1) (heap_alloc_new w _)
  have HFW:Hid (∀W,Grow base 45 w1 W->W.heap[w.heap.size]? =some (.cells #[.int .i64 n,.slice SB n sc,.slice DB (n+1) dc] 89 (0,0))):=Lib.hid (fun W h=>h.heap hfb (by decide))
  have HG0:Hid (Grow base 45 w w1):=Lib.hid (Grow.of_ext hx1 hbs)
  clear hfb
  go_wp2_with fail
  go_loopw [3,11] (fun s3 x wr=>∃(i:Nat) (A3:Option Addr) (c3:Nat) (vs3:List Value),i<=J/\x= .int .i64 (lo+(i:Int))/\s3= .slice A3 (len+(lvK m bound k t i).length) c3/\Hid (Own wr base 45 2 A3 (len+(lvK m bound k t i).length) c3 vs3)/\Hid (ItV wr vs3 (its++itm m (lvK m bound k t i)))/\Hid (Grow base 45 w1 wr)) (fun _ x _=>(hi-intOf x+1).toNat)
  case atStart=>exact ⟨0,OA,oc,vs,by omega,by simp,rfl,Lib.hid (HO.out.ext hx1),Lib.hid (by have :=HV.out.ext hx1;simpa [lvK,itm] using this),Lib.hid (Grow.of_ext (Ext.refl _) hbs1)⟩
  case round=>
   obtain ⟨i,A3,c3,vs3,hi',rfl,rfl,HOI,HVI,HGI⟩:=hrel
   have hfr:=HFW.out wr HGI.out
   obtain ⟨⟨f0,f1,f2⟩,-,f3⟩:=blk3 hfr
   have oW:Old w.heap.size wr:=⟨f3⟩
   have hbsr:base<=wr.heap.size:=Nat.le_trans hbs1 HGI.out.below.size
   by_cases hlt:i<J
   ·have hG:=HG0.out.stepI HGI.out
    have hF:=HFV.out.oth (Oth.of_grow hG) (by decide) (by decide) (by decide) (by decide)
    have hT:=HTV.out.oth (Oth.of_grow hG) (by decide)
    have hk4:=HK4.out i
    have hk2:=HK2.out (i+1) (by omega)
    rw [hk4,List.length_append] at hk2
    have hle:lo+(i:Int)<=hi:=by omega
    have HLG:Hid (∀W,Ext wr W->Calls Tryz.prog 109 #[.int .i64 (lo+(i:Int)),.slice TA q tc] W (fun e w'=>∃A c,e= .returned (.slice A (q+1) c)/\Ints w' A 2 .i64 ((lo+(i:Int))::t)/\q+1<=c/\c<=9223372036854775807/\Step W w')):=Lib.hid (fun W e=>by
     have :=rlonger_ok (w:=W) (c:=tc) (lo+(i:Int)) hT (by rw [HTL.out];omega)
     rw [HTL.out] at this
     refine this.mono ?_
     rintro e w' ⟨A,c,rfl,a1,a2,a3,a4⟩
     rw [List.length_cons,HTL.out] at a2
     exact ⟨A,c,by rw [List.length_cons,HTL.out],a1,a2,a3,a4⟩)
    have hw3:IntKind.i64.wrap (lo+(i:Int)+1)=lo+((i+1:Nat):Int):=by rw [IntKind.wrap_i64];omega
    have HEX:Hid (∀W,Ext wr W->W.cell? ⟨w.heap.size,0,none⟩=some (.int .i64 n)/\W.cell? ⟨w.heap.size,1,none⟩=some (.slice SB n sc)/\W.cell? ⟨w.heap.size,2,none⟩=some (.slice DB (n+1) dc)):=Lib.hid (fun W e=>(blk3 (heap_of_ext e hfr)).1)
    rcases k with _ |k
    ·have hqe:q+1=n:=by have :=HQ.out;omega
     have hb0:decide ((q:Int)+1<(n:Int))=false:=by simp;omega
     have HPA:Hid (∀(W1 W:World) (A:Option Addr) (c:Nat),Ints W1 A 2 .i64 ((lo+(i:Int))::t)->Ext W1 W->Ext wr W->Calls Tryz.prog 141 #[.agg #[.int .i64 n,.slice SB n sc,.slice DB (n+1) dc],.slice A (q+1) c] W (RetRat W (fun p q=>p=nrm m ((lo+(i:Int))::t)/\q=1))):=Lib.hid (fun W1 W A c i1 e1 e2=>by
      rw [hqe]
      exact rPartial_ok (hF.ext e2) hL HH1.out i1 (by rw [List.length_cons,HTL.out];exact hqe) (HTBJ.out i hlt))
     have hnb:=HNB.out rfl i hlt
     have HLN:Hid (lvN m bound 0 ((lo+(i:Int))::t)=[(lo+(i:Int))::t]):=Lib.hid rfl
     rw [HLN.out] at hk4 hk2
     have HK4':=Lib.hid hk4
     have HTL1:Hid (((lo+(i:Int))::t).length=q+1):=Lib.hid (by rw [List.length_cons,HTL.out])
     simp only [List.length_cons,List.length_nil] at hk2
     obtain ⟨t2,ht2⟩:∃t2,t2=(lo+(i:Int))::t:=⟨_,rfl⟩
     rw [<-ht2] at HLG HPA hnb HK4' HTL1
     have HN2:Hid (itm m [t2]=[(nrm m t2,t2)]):=Lib.hid rfl
     unfold RetRat at HPA
     generalize nrm m t2=nv at*
     clear hF hT hG hk4 ht2 hfr hqe
     go_wp2_with (first
      |(go_at_call 109;refine (HLG.out _ inferInstance).mono ?_;rintro e w5 ⟨A5,c5,rfl,hI5,h51,h52,hs5⟩;obtain ⟨x0,x1,x2⟩:=HEX.out w5 inferInstance;have hxr5:Ext wr w5:=inferInstance)
      |(go_at_call 141;refine (HPA.out _ _ _ _ hI5 inferInstance inferInstance).mono ?_;rintro e w6 ⟨g6,B6,k6,d6,g7,B7,k7,d7,p,qq,rfl,hz6,hz7,⟨rfl,-⟩,hs6⟩)
      |(go_at_call 140;refine (rInt64_fit hz6 hnb.1 hnb.2).mono ?_;rintro e w7 ⟨rfl,hs7⟩;have hI7:=hI5.ext (inferInstance:Ext w5 w7);have hx7:Ext wr w7:=inferInstance;have hbs7:base<=w7.heap.size:=Nat.le_trans hbsr hx7.size)
      |(at_builtin;go_loud (refine wpList_app _ rfl _ _ 77 rfl base 45 (.agg #[.int .i64 0,.slice none 0 0]) 2 32 Tryz.underlying77 infoIt rfl (by omega) (by omega) A3 (len+(lvK m bound 0 t i).length) c3 vs3 rfl (HOI.out.ext inferInstance) (some ⟨w7.heap.size,0,none⟩) 1 1 [.int .i64 p,.slice A5 (q+1) c5] rfl (Arr.new w7 45 #[.int .i64 p,.slice A5 (q+1) c5]) (by simp) (by simp [Value.oneCell']) (by omega) (by simp;omega) ?_);intro A8 c8 w8 hown hg;have HO8:=Lib.hid hown;have HG8:=Lib.hid hg;clear hown hg))
     refine ⟨⟨i+1,A8,c8,vs3++[.int .i64 p,.slice A5 (q+1) c5],by omega,by first |rfl |(congr 1;omega),?_,Lib.hid ?_,Lib.hid ?_,Lib.hid (HGI.out.stepI ((Grow.of_ext (inferInstance:Ext wr (w7.alloc (.cells #[.int .i64 p,.slice A5 (q+1) c5] 45))) hbsr).stepI HG8.out))⟩,by simp [intOf]<;>omega⟩
     ·rw [HK4'.out];simp only [List.length_append,List.length_cons,List.length_nil];rfl
     ·rw [HK4'.out,List.length_append,List.length_singleton,<-Nat.add_assoc]
      exact HO8.out
     ·rw [HK4'.out,itm_append,HN2.out,<-List.append_assoc]
      rw [<-HTL1.out]
      exact (ItV.snoc (HVI.out.ext (inferInstance:Ext wr w7)) (hI7) (by rw [HTL1.out];exact h51) h52).map fun h=>(h.ext (inferInstance:Ext w7 (w7.alloc (.cells #[.int .i64 p,.slice A5 (q+1) c5] 45)))).oth (Oth.of_grow HG8.out) (by decide)
    ·have hq1:q+1<n:=by have :=HQ.out;omega
     have hb0:decide ((q:Int)+1<(n:Int))=true:=by simp;omega
     have HLN:Hid (lvN m bound (k+1) ((lo+(i:Int))::t)=lvs m bound k ((lo+(i:Int))::t)):=Lib.hid rfl
     rw [HLN.out] at hk4 hk2
     have HCN:Hid (∀(W:World) (A:Option Addr) (c:Nat),Ints W A 2 .i64 ((lo+(i:Int))::t)->Ext wr W->Calls Tryz.prog 85 #[.agg #[.int .i64 n,.slice SB n sc,.slice DB (n+1) dc],.int .i64 bound,.slice A (q+1) c,.slice A3 (len+(lvK m bound (k+1) t i).length) c3] W (RetLv W base (len+(lvK m bound (k+1) t i).length) (its++itm m (lvK m bound (k+1) t i)) m (lvs m bound k ((lo+(i:Int))::t)))):=Lib.hid (fun W A c hI e=>
      IH.out k (by omega) W SB DB A A3 sc dc c c3 (q+1) _ _ vs3 _ (by have :=HQ.out;omega) (hF.ext e) hI (by rw [List.length_cons,HTL.out]) (HTBJ.out i hlt) (HK1.out i hlt) (HOI.out.ext e) (HVI.out.ext e) (Nat.le_trans hbsr e.size) (by omega))
     have HK4':=Lib.hid hk4
     unfold RetLv at HCN
     obtain ⟨t2,ht2⟩:∃t2,t2=(lo+(i:Int))::t:=⟨_,rfl⟩
     rw [<-ht2] at HLG HCN HK4'
     clear hF hT hG hk4 hk2 ht2 hfr HLN
     generalize lvs m bound k t2=L2 at*
     go_wp2_with (first
      |(go_at_call 109;refine (HLG.out _ inferInstance).mono ?_;rintro e w5 ⟨A5,c5,rfl,hI5,h51,h52,hs5⟩;obtain ⟨x0,x1,x2⟩:=HEX.out w5 inferInstance;have hxr5:Ext wr w5:=inferInstance)
      |(go_at_call 85;refine (HCN.out _ _ _ hI5 inferInstance).mono ?_;rintro e w6 ⟨A6,c6,vs6,rfl,hO6,hV6,hG6⟩;have HO6:=Lib.hid hO6;have HV6:=Lib.hid hV6;have HG6:=Lib.hid ((Grow.of_ext hxr5 hbsr).stepI hG6);clear hO6 hV6 hG6))
     refine ⟨⟨i+1,A6,c6,vs6,by omega,by first |rfl |(congr 1;omega),?_,Lib.hid ?_,Lib.hid ?_,Lib.hid (HGI.out.stepI HG6.out)⟩,by simp [intOf]<;>omega⟩
     ·rw [HK4'.out,List.length_append,<-Nat.add_assoc]
     ·rw [HK4'.out,List.length_append,<-Nat.add_assoc]
      exact HO6.out
     ·rw [HK4'.out,itm_append,<-List.append_assoc]
      exact HV6.out
   ·obtain rfl:i=J:=by omega
    have hend:decide (lo+(i:Int)<=hi)=false:=by simp;omega
    go_wp2_with fail
    go_ret
    exact ⟨A3,c3,vs3,rfl,HOI.out,HVI.out,HG0.out.stepI HGI.out⟩
end Go.Proofs.YtjehjkipcaohpaaGreat
namespace Go.Proofs.YtjehjkipcaohpaaGreat
open Go.RowKit
open La
theorem Arr.take {w:World} {A:Option Addr} {e:TypeId} {vs:List Value} (h:Arr w A e vs) (k:Nat):Arr w A e (vs.take k):=fun h0=>by
 obtain ⟨b,o,cs,fr,hA,hb,hc⟩:=h (by rw [List.length_take] at h0;omega)
 refine ⟨b,o,cs,fr,hA,hb,fun j u hu=>?_⟩
 rw [List.getElem?_take] at hu
 split at hu
 ·exact hc _ _ hu
 ·cases hu
theorem ItV.one {w:World} {vs:List Value} {its:List (Int×List Int)} (h:ItV w vs its):∀u∈vs,u.oneCell'=true:=fun u hu=>by
 obtain ⟨j,hj⟩:=List.getElem?_of_mem hu
 have hjl:=(List.getElem?_eq_some_iff.1 hj).1
 have hl:=h.1
 have hi:j / 2<its.length:=by omega
 obtain ⟨B,c,a1,a2,-⟩:=h.2 (j / 2) its[j / 2] (List.getElem?_eq_getElem hi)
 rcases Nat.mod_two_eq_zero_or_one j with e |e
 ·rw [show j / 2*2=j by omega,hj] at a1
  injection a1 with a1
  rw [a1];rfl
 ·rw [show j / 2*2+1=j by omega,hj] at a2
  injection a2 with a2
  rw [a2];rfl
theorem ItV.take {w:World} {vs:List Value} {its:List (Int×List Int)} (h:ItV w vs its) (k:Nat):ItV w (vs.take (k*2)) (its.take k):=by
 refine ⟨by rw [List.length_take,List.length_take,h.1];omega,fun i p hp=>?_⟩
 rw [List.getElem?_take] at hp
 split at hp
 ·rename_i hi
  obtain ⟨B,c,a1,a2,a3⟩:=h.2 i p hp
  exact ⟨B,c,by rw [List.getElem?_take,if_pos (by omega)];exact a1,by rw [List.getElem?_take,if_pos (by omega)];exact a2,a3⟩
 ·cases hp
theorem ItV.drop {w:World} {vs:List Value} {its:List (Int×List Int)} (h:ItV w vs its) (k:Nat):ItV w (vs.drop (k*2)) (its.drop k):=by
 refine ⟨by rw [List.length_drop,List.length_drop,h.1];omega,fun i p hp=>?_⟩
 rw [List.getElem?_drop] at hp
 obtain ⟨B,c,a1,a2,a3⟩:=h.2 _ p hp
 exact ⟨B,c,by rw [List.getElem?_drop,show k*2+i*2=(k+i)*2 by omega];exact a1,by rw [List.getElem?_drop,show k*2+(i*2+1)=(k+i)*2+1 by omega];exact a2,a3⟩
theorem ItV.append {w:World} {vs vs':List Value} {its its':List (Int×List Int)} (h:ItV w vs its) (h':ItV w vs' its'):ItV w (vs++vs') (its++its'):=by
 refine ⟨by simp [h.1,h'.1];omega,fun i p hp=>?_⟩
 have hl:=h.1
 rcases Nat.lt_or_ge i its.length with hlt |hge
 ·rw [List.getElem?_append_left hlt] at hp
  obtain ⟨B,c,a1,a2,a3⟩:=h.2 i p hp
  exact ⟨B,c,by rw [List.getElem?_append_left (by omega)];exact a1,by rw [List.getElem?_append_left (by omega)];exact a2,a3⟩
 ·rw [List.getElem?_append_right hge] at hp
  obtain ⟨B,c,a1,a2,a3⟩:=h'.2 _ p hp
  exact ⟨B,c,by rw [List.getElem?_append_right (by omega),show i*2-vs.length=(i-its.length)*2 by omega];exact a1,by rw [List.getElem?_append_right (by omega),show i*2+1-vs.length=(i-its.length)*2+1 by omega];exact a2,a3⟩
theorem putP_end {l:List (Int×List Int)} {x:Int×List Int} (h:putI l x=l.length):putP l x=l.take (putI l x)++x::l.drop (putI l x):=by
 unfold putP
 rw [h]
 simp
theorem putP_mid {l:List (Int×List Int)} {x y:Int×List Int} (h:l[putI l x]? =some y) (hl:lessP x y=true):putP l x=l.take (putI l x)++x::l.drop (putI l x):=by
 unfold putP
 rw [h]
 simp [hl]
theorem putP_keep {l:List (Int×List Int)} {x y:Int×List Int} (h:l[putI l x]? =some y) (hl:lessP x y=false):putP l x=l:=by
 unfold putP
 rw [h]
 simp [hl]
def RetPut (w:World) (base:Nat) (its:List (Int×List Int)) (e:Ending) (w':World):Prop:=∃A c vs,e= .returned (.slice A its.length c)/\Own w' base 45 2 A its.length c vs/\ItV w' vs its/\Ext w w'
set_option maxRecDepth 20000 in
theorem rPut_ok {w:World} {base len lc xc:Nat} {LA XA:Option Addr} {vs:List Value} {its:List (Int×List Int)} {a:Int} {x:List Int} (hO:Own w base 45 2 LA len lc vs) (hV:ItV w vs its) (hbs:base<=w.heap.size) (hl:its.length<=1000000) (hX:Ints w XA 2 .i64 x) (hxc:x.length<=xc) (hxc2:xc<=9223372036854775807) (hx8:x.length<=1000) (hr8:∀p∈its,p.2.length<=1000):
  Calls Tryz.prog 86 #[.slice LA len lc,.agg #[.int .i64 a,.slice XA x.length xc]] w (RetPut w base (putP its (a,x))):=by
 have hlen:its.length=len:=by have :=hO.len;have :=hV.1;omega
 have hcap:=hO.cap
 have harr:=hO.arr
 have hE:∀k p,its[k]? =some p->∃b o B c,LA=some ⟨b,o,none⟩/\w.cell? ⟨b,o+k*2,none⟩=some (.int .i64 p.1)/\w.cell? ⟨b,o+k*2+1,none⟩=some (.slice B p.2.length c)/\Ints w B 2 .i64 p.2/\b<w.heap.size:=fun k p hp=>by
  obtain ⟨B,c,a1,a2,a3,-⟩:=hV.2 k p hp
  obtain ⟨b,o,hA,h1,h2⟩:=harr.at_ a1
  obtain ⟨b',o',hA',h1',-⟩:=harr.at_ a2
  rw [hA] at hA'
  injection hA' with hA'
  injection hA' with z1 z2
  subst z1 z2
  exact ⟨b,o,B,c,hA,h1,by rw [Nat.add_assoc];exact h1',a3,h2⟩
 have HE:=Lib.hid hE
 have HV:=Lib.hid hV
 have HO:=Lib.hid hO
 have HAR:=Lib.hid harr
 have HX:=Lib.hid hX
 have HR8:=Lib.hid hr8
 have HLN:=Lib.hid hlen
 obtain ⟨xl,hxl⟩:∃xl,xl=x.length:=⟨_,rfl⟩
 have HXL:=Lib.hid hxl
 rw [<-hxl] at hxc hx8 |-
 rw [hlen] at hl
 clear hE hV hO harr hX hr8 hlen hxl
 unfold RetPut
 have hxb:Ext w (w.alloc (.cells #[.int .i64 a,.slice XA xl xc] 45)):=inferInstance
 go_enter Tryz.func86,Tryz.ntmps86
 go_wp2_with fail
 go_loopw [5] (fun i wr=>∃k:Nat,k<=len/\i= .int .i64 k/\Hid (∀j y,j<k->its[j]? =some y->lessP y (a,x)=true)/\Ext (w.alloc (.cells #[.int .i64 a,.slice XA xl xc] 45)) wr) (fun i _=>len-(intOf i).toNat)
 case atStart=>exact ⟨0,by omega,rfl,Lib.hid (fun j y hj=>absurd hj (by omega)),inferInstance⟩
 case round=>
  obtain ⟨k,hk,rfl,HP,hxr⟩:=hrel
  have hxwr:Ext w wr:=hxb.trans hxr
  have HKX:Hid (∀W,Ext wr W->W.cell? ⟨w.heap.size,0,none⟩=some (.int .i64 a)/\W.cell? ⟨w.heap.size,1,none⟩=some (.slice XA xl xc)):=Lib.hid (fun W e=>by
   obtain ⟨p1,p2,-⟩:=box_cells2 (heap_of_ext (hxr.trans e) (heap_alloc_new w _))
   exact ⟨p1,p2⟩)
  by_cases hlt:k<len
  ·obtain ⟨y,hy⟩:∃y,its[k]? =some y:=⟨_,List.getElem?_eq_getElem (by rw [HLN.out];exact hlt)⟩
   obtain ⟨b,o,B,c,rfl,z1,z2,hI,z3⟩:=HE.out k y hy
   have hy8:=HR8.out y (List.mem_of_getElem? hy)
   have oB:Old b w:=⟨z3⟩
   have HZ:=Lib.hid (And.intro z1 z2)
   obtain ⟨ya,yx⟩:=y
   simp only at z1 z2 hI hy8
   have hkd:decide ((k:Int)<(len:Int))=true:=by simp;omega
   have HLE:Hid (∀W,Ext w W->Calls Tryz.prog 32 #[.agg #[.int .i64 ya,.slice B yx.length c],.agg #[.int .i64 a,.slice XA xl xc]] W (RetVal W (.bool (lessP (ya,yx) (a,x))))):=Lib.hid (fun W e=>by
    rw [HXL.out]
    exact rLess_ok hI HX.out (by omega) (by rw [<-HXL.out];omega))
   have HHD:Hid (∀W,Ext wr W->W.cell? ⟨w.heap.size,0,none⟩=some (.int .i64 a)/\W.cell? ⟨w.heap.size,1,none⟩=some (.slice XA xl xc)/\W.cell? ⟨b,o+k*2,none⟩=some (.int .i64 ya)/\W.cell? ⟨b,o+k*2+1,none⟩=some (.slice B yx.length c)):=Lib.hid (fun W e=>⟨(HKX.out W e).1,(HKX.out W e).2,(cellE w (hx:=hxwr.trans e)).trans HZ.out.1,(cellE w (hx:=hxwr.trans e)).trans HZ.out.2⟩)
   cases hless:lessP (ya,yx) (a,x) with
   |true=>
    have HPN:Hid (∀j y,j<k+1->its[j]? =some y->lessP y (a,x)=true):=Lib.hid (fun j y hj hjy=>by
     rcases Nat.lt_or_ge j k with h |h
     ·exact HP.out j y h hjy
     ·obtain rfl:j=k:=by omega
      rw [hy] at hjy
      injection hjy with hjy
      rw [<-hjy];exact hless)
    rw [hless] at HLE
    clear z1 z2 hI hy
    go_wp2_with fail
    go_region_held3 (fun w'=>w'.cell? ⟨w.heap.size,0,none⟩=some (.int .i64 a)/\w'.cell? ⟨w.heap.size,1,none⟩=some (.slice XA xl xc)/\w'.cell? ⟨b,o+k*2,none⟩=some (.int .i64 ya)/\w'.cell? ⟨b,o+k*2+1,none⟩=some (.slice B yx.length c))
     (exact HHD.out _ inferInstance)
     ((go_at_call 32;refine (HLE.out _ inferInstance).mono ?_;rintro e w5 ⟨rfl,hs5⟩))
    all_goals
     go_wp2_with fail
     exact ⟨⟨k+1,by omega,by go_num,HPN,hxr.trans inferInstance⟩,by simp [intOf]<;>omega⟩
   |false=>
    have hpi:=putI_iff its (a,x) k HP.out (by rw [HLN.out];omega) (fun y' hy'=>by rw [hy] at hy';injection hy' with hy';rw [<-hy'];exact hless)
    have HPI:=Lib.hid hpi
    have HY:=Lib.hid hy
    have HII:=Lib.hid hI
    rw [hless] at HLE
    clear z1 z2 hI hpi hy
    go_wp2_with fail
    go_region_held3 (fun w'=>w'.cell? ⟨w.heap.size,0,none⟩=some (.int .i64 a)/\w'.cell? ⟨w.heap.size,1,none⟩=some (.slice XA xl xc)/\w'.cell? ⟨b,o+k*2,none⟩=some (.int .i64 ya)/\w'.cell? ⟨b,o+k*2+1,none⟩=some (.slice B yx.length c))
     (exact HHD.out _ inferInstance)
     ((go_at_call 32;refine (HLE.out _ inferInstance).mono ?_;rintro e w5 ⟨rfl,hs5⟩))
    have hx5:Ext wr w5:=inferInstance
    have hxw5:Ext w w5:=hxwr.trans hx5
    have HLE2:Hid (∀W,Ext w W->Calls Tryz.prog 32 #[.agg #[.int .i64 a,.slice XA xl xc],.agg #[.int .i64 ya,.slice B yx.length c]] W (RetVal W (.bool (lessP (a,x) (ya,yx))))):=Lib.hid (fun W e=>by
     rw [HXL.out]
     exact rLess_ok HX.out HII.out (by rw [<-HXL.out];omega) (by omega))
    cases hl2:lessP (a,x) (ya,yx) with
    |false=>
     have HPU:Hid (putP its (a,x)=its):=Lib.hid (putP_keep (y:=(ya,yx)) (by rw [HPI.out];exact HY.out) hl2)
     rw [hl2] at HLE2
     go_wp2_with fail
     go_region_held3 (fun w'=>w'.cell? ⟨w.heap.size,0,none⟩=some (.int .i64 a)/\w'.cell? ⟨w.heap.size,1,none⟩=some (.slice XA xl xc)/\w'.cell? ⟨b,o+k*2,none⟩=some (.int .i64 ya)/\w'.cell? ⟨b,o+k*2+1,none⟩=some (.slice B yx.length c))
      (exact HHD.out _ (hx5.trans inferInstance))
      ((go_at_call 32;refine (HLE2.out _ inferInstance).mono ?_;rintro e w6 ⟨rfl,hs6⟩))
     have hx6:Ext w w6:=hxw5.trans inferInstance
     go_wp2_with fail
     go_ret
     rw [HPU.out,HLN.out]
     exact ⟨_,lc,vs,rfl,HO.out.ext (hx6.trans inferInstance),HV.out.ext (hx6.trans inferInstance),hx6.trans inferInstance⟩
    |true=>
     have HPU:Hid (putP its (a,x)=its.take k++((a,x)::its.drop k)):=Lib.hid (by
      have h:=putP_mid (l:=its) (x:=(a,x)) (y:=(ya,yx)) (by rw [HPI.out];exact HY.out) hl2
      rwa [HPI.out] at h)
     rw [hl2] at HLE2
     go_wp2_with fail
     go_region_held3 (fun w'=>w'.cell? ⟨w.heap.size,0,none⟩=some (.int .i64 a)/\w'.cell? ⟨w.heap.size,1,none⟩=some (.slice XA xl xc)/\w'.cell? ⟨b,o+k*2,none⟩=some (.int .i64 ya)/\w'.cell? ⟨b,o+k*2+1,none⟩=some (.slice B yx.length c))
      (exact HHD.out _ (hx5.trans inferInstance))
      ((go_at_call 32;refine (HLE2.out _ inferInstance).mono ?_;rintro e w6 ⟨rfl,hs6⟩))
     have hx6:Ext w w6:=hxw5.trans inferInstance
     have hxr6:Ext wr w6:=hx5.trans inferInstance
     have hvt:(vs.take (k*2)).length=k*2:=by rw [List.length_take];have :=HO.out.len;omega
     have hvd:(vs.drop (k*2)).length=(len-k)*2:=by rw [List.length_drop];have :=HO.out.len;omega
     have hck:lc≠k:=by omega
     have hsz6:w.heap.size<=w6.heap.size:=hx6.size
     have HVT:=Lib.hid (And.intro hvt hvd)
     have HON:=Lib.hid HV.out.one
     clear hvt hvd
     go_wp2_with (first
      |(have hh:=HO8;clear hh;at_builtin;go_loud (refine wpList_app _ rfl _ _ 77 rfl w6.heap.size 45 (.agg #[.int .i64 0,.slice none 0 0]) 2 32 Tryz.underlying77 infoIt rfl (by omega) (by omega) A8 (k+1) c8 _ rfl HO8.out _ (len-k) (lc-k) (vs.drop (k*2)) rfl ((HAR.out.drop (k*2)).ext (hx6.trans hx8b)) HVT.out.2 (fun u hu=>HON.out u (List.mem_of_mem_drop hu)) (by omega) (by have :=hx8b.size;omega) ?_);intro A9 c9 w9 hown hg;have HO9:=Lib.hid hown;have hx9:Ext w6 w9:=hg.ext hx8b (Nat.le_refl _);clear hown hg)
      |(have hh:=HO7;clear hh;at_builtin;go_loud (refine wpList_app _ rfl _ _ 77 rfl w6.heap.size 45 (.agg #[.int .i64 0,.slice none 0 0]) 2 32 Tryz.underlying77 infoIt rfl (by omega) (by omega) A7 k c7 _ rfl (HO7.out.ext inferInstance) (some ⟨w7.heap.size,0,none⟩) 1 1 [.int .i64 a,.slice XA xl xc] rfl (Arr.new w7 45 #[.int .i64 a,.slice XA xl xc]) (by simp) (by simp [Value.oneCell']) (by omega) (by have :=hx7b.size;simp;omega) ?_);intro A8 c8 w8 hown hg;have HO8:=Lib.hid hown;have hx8b:Ext w6 w8:=hg.ext (hx7b.trans inferInstance) (Nat.le_refl _);clear hown hg)
      |(at_builtin;go_loud (refine wpList_app _ rfl _ _ 77 rfl w6.heap.size 45 (.agg #[.int .i64 0,.slice none 0 0]) 2 32 Tryz.underlying77 infoIt rfl (by omega) (by omega) none 0 0 [] rfl (Own.nil _ _ _ _) _ k lc (vs.take (k*2)) rfl ((HAR.out.ext (hx6.trans inferInstance)).take (k*2)) HVT.out.1 (fun u hu=>HON.out u (List.mem_of_mem_take hu)) (by omega) (by simp) ?_);intro A7 c7 w7 hown hg;rw [Nat.zero_add,List.nil_append] at hown;rw [Nat.zero_add];have HO7:=Lib.hid hown;have hx7b:Ext w6 w7:=hg.ext inferInstance (by simp);obtain ⟨x0,x1⟩:=HKX.out w7 (hxr6.trans hx7b);clear hown hg))
     have hpl:(putP its (a,x)).length=k+1+(len-k):=by
      rw [HPU.out,List.length_append,List.length_cons,List.length_take,List.length_drop,HLN.out];omega
     have hx69:Ext w w9:=hx6.trans hx9
     have hone:ItV w [.int .i64 a,.slice XA xl xc] [(a,x)]:=by
      have h:=ItV.snoc (a:=a) (ItV.nil w) HX.out (by rw [<-HXL.out];exact hxc) hxc2
      rw [<-HXL.out] at h
      exact h
     have hit:ItV w (vs.take (k*2)++[.int .i64 a,.slice XA xl xc]++vs.drop (k*2)) (putP its (a,x)):=by
      have h:=((HV.out.take k).append hone).append (HV.out.drop k)
      rw [HPU.out]
      simpa [List.append_assoc] using h
     rw [<-hpl] at HO9 |-
     go_ret
     exact ⟨A9,c9,_,rfl,(HO9.out.lower (Nat.le_trans hbs hx6.size)).ext inferInstance,hit.ext (hx69.trans inferInstance),hx69.trans inferInstance⟩
  ·obtain rfl:k=len:=by omega
   have hpi:=putI_iff its (a,x) k HP.out (by rw [HLN.out];omega) (fun y' hy'=>by rw [List.getElem?_eq_none (by rw [HLN.out];omega)] at hy';cases hy')
   have HPU:Hid (putP its (a,x)=its.take k++((a,x)::its.drop k)):=Lib.hid (by
    have h:=putP_end (l:=its) (x:=(a,x)) (by rw [hpi,HLN.out])
    rwa [hpi] at h)
   have hkd:decide ((k:Int)<(k:Int))=false:=by simp
   clear hpi hlt hk
   go_wp2_with fail
   go_quiet (fail)
   go_wp2_with fail
   go_quiet (fail)
   rename_i nq0 Ka ha Kb hb
   have hxr6:Ext wr ((wr.drewN nq0).drewN nq):=inferInstance
   have hx6:Ext w ((wr.drewN nq0).drewN nq):=hxwr.trans hxr6
   generalize (wr.drewN nq0).drewN nq=w6 at*
   have HPU2:Hid (putP its (a,x)=its++[(a,x)]):=Lib.hid (by
    rw [HPU.out,List.take_of_length_le (by rw [HLN.out];exact Nat.le_refl _),List.drop_eq_nil_of_le (by rw [HLN.out];exact Nat.le_refl _)])
   have HVL:Hid (vs.length=k*2):=Lib.hid HO.out.len
   have HON:=Lib.hid HV.out.one
   rcases HO.out.2 with ⟨hv,hn⟩ |⟨g,cap,cur,hv,-⟩
   ·injection hv with h1 h2 h3
    subst h1 h2 h3
    go_wp2_with (first
     |(have hh:=HO8;clear hh;at_builtin;go_loud (refine wpList_app _ rfl _ _ 77 rfl w6.heap.size 45 (.agg #[.int .i64 0,.slice none 0 0]) 2 32 Tryz.underlying77 infoIt rfl (by omega) (by omega) A8 (0+1) c8 _ rfl HO8.out _ 0 _ [] rfl Arr.nil rfl (by simp) (by omega) (by have :=hx8b.size;omega) ?_);intro A9 c9 w9 hown hg;have HO9:=Lib.hid hown;have hx9:Ext w6 w9:=hg.ext hx8b (Nat.le_refl _);clear hown hg)
     |(have hh:=HO7;clear hh;at_builtin;go_loud (refine wpList_app _ rfl _ _ 77 rfl w6.heap.size 45 (.agg #[.int .i64 0,.slice none 0 0]) 2 32 Tryz.underlying77 infoIt rfl (by omega) (by omega) A7 0 c7 _ rfl (HO7.out.ext inferInstance) (some ⟨w7.heap.size,0,none⟩) 1 1 [.int .i64 a,.slice XA xl xc] rfl (Arr.new w7 45 #[.int .i64 a,.slice XA xl xc]) (by simp) (by simp [Value.oneCell']) (by omega) (by have :=hx7b.size;simp;omega) ?_);intro A8 c8 w8 hown hg;have HO8:=Lib.hid hown;have hx8b:Ext w6 w8:=hg.ext (hx7b.trans inferInstance) (Nat.le_refl _);clear hown hg)
     |(at_builtin;go_loud (refine wpList_app _ rfl _ _ 77 rfl w6.heap.size 45 (.agg #[.int .i64 0,.slice none 0 0]) 2 32 Tryz.underlying77 infoIt rfl (by omega) (by omega) none 0 0 [] rfl (Own.nil _ _ _ _) _ 0 _ vs rfl (HO.out.arr.ext hx6) HVL.out (fun u hu=>HON.out u hu) (by omega) (by simp) ?_);intro A7 c7 w7 hown hg;rw [Nat.zero_add,List.nil_append] at hown;rw [Nat.zero_add];have HO7:=Lib.hid hown;have hx7b:Ext w6 w7:=hg.ext inferInstance (by simp);obtain ⟨x0,x1⟩:=HKX.out w7 (hxr6.trans hx7b);clear hown hg))
    have hx69:Ext w w9:=hx6.trans hx9
    have hone:ItV w [.int .i64 a,.slice XA xl xc] [(a,x)]:=by
     have h:=ItV.snoc (a:=a) (ItV.nil w) HX.out (by rw [<-HXL.out];exact hxc) hxc2
     rw [<-HXL.out] at h
     exact h
    have hit:ItV w (vs++[.int .i64 a,.slice XA xl xc]++[]) (putP its (a,x)):=by
     rw [List.append_nil,HPU2.out]
     exact HV.out.append hone
    have hpl:(putP its (a,x)).length=0+1:=by rw [HPU2.out,List.length_append,HLN.out];rfl
    have h9:=HO9.out
    rw [Nat.add_zero] at h9
    rw [hpl]
    go_ret
    exact ⟨A9,c9,rfl,_,(h9.lower (Nat.le_trans hbs hx6.size)).ext inferInstance,hit.ext (hx69.trans inferInstance),hx69.trans inferInstance⟩
   ·injection hv with h1 h2 h3
    subst h1 h3
    by_cases hcc:lc=k
    ·subst hcc
     go_wp2_with (first
      |(have hh:=HO8;clear hh;at_builtin;go_loud (refine wpList_app _ rfl _ _ 77 rfl w6.heap.size 45 (.agg #[.int .i64 0,.slice none 0 0]) 2 32 Tryz.underlying77 infoIt rfl (by omega) (by omega) A8 (lc+1) c8 _ rfl HO8.out _ 0 _ [] rfl Arr.nil rfl (by simp) (by omega) (by have :=hx8b.size;omega) ?_);intro A9 c9 w9 hown hg;have HO9:=Lib.hid hown;have hx9:Ext w6 w9:=hg.ext hx8b (Nat.le_refl _);clear hown hg)
      |(have hh:=HO7;clear hh;at_builtin;go_loud (refine wpList_app _ rfl _ _ 77 rfl w6.heap.size 45 (.agg #[.int .i64 0,.slice none 0 0]) 2 32 Tryz.underlying77 infoIt rfl (by omega) (by omega) A7 lc c7 _ rfl (HO7.out.ext inferInstance) (some ⟨w7.heap.size,0,none⟩) 1 1 [.int .i64 a,.slice XA xl xc] rfl (Arr.new w7 45 #[.int .i64 a,.slice XA xl xc]) (by simp) (by simp [Value.oneCell']) (by omega) (by have :=hx7b.size;simp;omega) ?_);intro A8 c8 w8 hown hg;have HO8:=Lib.hid hown;have hx8b:Ext w6 w8:=hg.ext (hx7b.trans inferInstance) (Nat.le_refl _);clear hown hg)
      |(at_builtin;go_loud (refine wpList_app _ rfl _ _ 77 rfl w6.heap.size 45 (.agg #[.int .i64 0,.slice none 0 0]) 2 32 Tryz.underlying77 infoIt rfl (by omega) (by omega) none 0 0 [] rfl (Own.nil _ _ _ _) _ lc _ vs rfl (HO.out.arr.ext hx6) HVL.out (fun u hu=>HON.out u hu) (by omega) (by simp) ?_);intro A7 c7 w7 hown hg;rw [Nat.zero_add,List.nil_append] at hown;rw [Nat.zero_add];have HO7:=Lib.hid hown;have hx7b:Ext w6 w7:=hg.ext inferInstance (by simp);obtain ⟨x0,x1⟩:=HKX.out w7 (hxr6.trans hx7b);clear hown hg))
     have hx69:Ext w w9:=hx6.trans hx9
     have hone:ItV w [.int .i64 a,.slice XA xl xc] [(a,x)]:=by
      have h:=ItV.snoc (a:=a) (ItV.nil w) HX.out (by rw [<-HXL.out];exact hxc) hxc2
      rw [<-HXL.out] at h
      exact h
     have hit:ItV w (vs++[.int .i64 a,.slice XA xl xc]++[]) (putP its (a,x)):=by
      rw [List.append_nil,HPU2.out]
      exact HV.out.append hone
     have hpl:(putP its (a,x)).length=lc+1:=by rw [HPU2.out,List.length_append,HLN.out];rfl
     have h9:=HO9.out
     rw [Nat.add_zero] at h9
     rw [hpl]
     go_ret
     exact ⟨A9,c9,rfl,_,(h9.lower (Nat.le_trans hbs hx6.size)).ext inferInstance,hit.ext (hx69.trans inferInstance),hx69.trans inferInstance⟩
    ·go_wp2_with (first
      |(have hh:=HO8;clear hh;at_builtin;go_loud (refine wpList_app _ rfl _ _ 77 rfl w6.heap.size 45 (.agg #[.int .i64 0,.slice none 0 0]) 2 32 Tryz.underlying77 infoIt rfl (by omega) (by omega) A8 (k+1) c8 _ rfl HO8.out _ 0 _ [] rfl Arr.nil rfl (by simp) (by omega) (by have :=hx8b.size;omega) ?_);intro A9 c9 w9 hown hg;have HO9:=Lib.hid hown;have hx9:Ext w6 w9:=hg.ext hx8b (Nat.le_refl _);clear hown hg)
      |(have hh:=HO7;clear hh;at_builtin;go_loud (refine wpList_app _ rfl _ _ 77 rfl w6.heap.size 45 (.agg #[.int .i64 0,.slice none 0 0]) 2 32 Tryz.underlying77 infoIt rfl (by omega) (by omega) A7 k c7 _ rfl (HO7.out.ext inferInstance) (some ⟨w7.heap.size,0,none⟩) 1 1 [.int .i64 a,.slice XA xl xc] rfl (Arr.new w7 45 #[.int .i64 a,.slice XA xl xc]) (by simp) (by simp [Value.oneCell']) (by omega) (by have :=hx7b.size;simp;omega) ?_);intro A8 c8 w8 hown hg;have HO8:=Lib.hid hown;have hx8b:Ext w6 w8:=hg.ext (hx7b.trans inferInstance) (Nat.le_refl _);clear hown hg)
      |(at_builtin;go_loud (refine wpList_app _ rfl _ _ 77 rfl w6.heap.size 45 (.agg #[.int .i64 0,.slice none 0 0]) 2 32 Tryz.underlying77 infoIt rfl (by omega) (by omega) none 0 0 [] rfl (Own.nil _ _ _ _) _ k _ vs rfl (HO.out.arr.ext hx6) HVL.out (fun u hu=>HON.out u hu) (by omega) (by simp) ?_);intro A7 c7 w7 hown hg;rw [Nat.zero_add,List.nil_append] at hown;rw [Nat.zero_add];have HO7:=Lib.hid hown;have hx7b:Ext w6 w7:=hg.ext inferInstance (by simp);obtain ⟨x0,x1⟩:=HKX.out w7 (hxr6.trans hx7b);clear hown hg))
     have hx69:Ext w w9:=hx6.trans hx9
     have hone:ItV w [.int .i64 a,.slice XA xl xc] [(a,x)]:=by
      have h:=ItV.snoc (a:=a) (ItV.nil w) HX.out (by rw [<-HXL.out];exact hxc) hxc2
      rw [<-HXL.out] at h
      exact h
     have hit:ItV w (vs++[.int .i64 a,.slice XA xl xc]++[]) (putP its (a,x)):=by
      rw [List.append_nil,HPU2.out]
      exact HV.out.append hone
     have hpl:(putP its (a,x)).length=k+1:=by rw [HPU2.out,List.length_append,HLN.out];rfl
     have h9:=HO9.out
     rw [Nat.add_zero] at h9
     rw [hpl]
     go_ret
     exact ⟨A9,c9,rfl,_,(h9.lower (Nat.le_trans hbs hx6.size)).ext inferInstance,hit.ext (hx69.trans inferInstance),hx69.trans inferInstance⟩
theorem lvs_len {m:List (List Int)} (hr:RedOK m) {b:Int} (hb:0<=b) (hb1:b<1073741824) (k:Nat):∀t:List Int,k<m.length->t.length=m.length-1-k->0<=left (ent m) b (k+1) t->
  ((lvs m b k t).length:Int)=atY (ysT m b k t) (m.length-1):=by
 induction k with
 |zero=>
  intro t hk ht h0
  obtain ⟨v1,v2,-⟩:=ends_small hr hb hb1 hk ht h0
  rw [ysT_zero,lvs]
  simp only [atY,List.length_map,List.length_range]
  rw [if_pos (by omega)]
  unfold tCnt
  omega
 |succ k ih=>
  intro t hk ht h0
  have key:∀q:Nat,q<=tCnt m b (k+1) t->(((List.range q).flatMap fun (j:Nat)=>lvs m b k ((tLo m b (k+1) t+(j:Int))::t)).length:Int)=atY (ysK m b k t q) (m.length-1):=by
   intro q
   induction q with
   |zero=>intro _;simp [ysK,atY]
   |succ q ihq=>
    intro hq
    have a1:=ihq (by omega)
    have b1:=ih ((tLo m b (k+1) t+(q:Int))::t) (by omega) (by simp [ht];omega) (kid hr t hk ht h0 (j:=q) (by unfold tCnt tHi tLo at hq;unfold vCnt;omega))
    rw [List.range_succ,List.flatMap_append,List.flatMap_singleton,ysK_succ,atY_append,List.length_append,Int.natCast_add]
    omega
  have k1:=key _ (Nat.le_refl _)
  rw [ysT_succ hr hk b t ht,lvs]
  simp only [atY]
  rw [if_neg (by omega)]
  omega
theorem lvs_tot {m:List (List Int)} (hred:isRedB m=true) {b:Nat} (hb1:(b:Int)<1073741824):((lvs m b (m.length-1) []).length:Int)<=totS m b:=by
 have hr:=red_ok hred
 have hl:=isSmallB_len hr.small
 have hst:=(steps_ok hred (b:=b) hb1).1
 have h1:=lvs_len hr (b:=(b:Int)) (by omega) hb1 (m.length-1) [] (by omega) (by simp) (top_nonneg hr (by omega))
 have h2:=stS_ys hr (b:=(b:Int)) (by omega)
 have h3:(stS m b).getD (m.length-1) 0=atY (ysT m b (m.length-1) []) (m.length-1):=by
  rw [h2,addY_get (by simp;omega)]
  simp [List.getD,show m.length-1<m.length by omega]
 have h4:=getD_le_sum (cs:=stS m b) (fun x hx=>by have :=hst.one x hx;omega) (m.length-1)
 have h5:=hst.sum
 omega
def putS (m:List (List Int)) (l:List (Int×List Int)) (x:List Int):List (Int×List Int):=if 0<firstNZ x then putP l (nrm m x,x) else l
theorem itemsL_snoc (m:List (List Int)) (xs:List (List Int)) (x:List Int):itemsL m (xs++[x])=putS m (itemsL m xs) x:=by
 unfold itemsL putS
 rw [List.foldl_append]
 rfl
theorem putP_len (l:List (Int×List Int)) (x:Int×List Int):(putP l x).length<=l.length+1:=by
 unfold putP
 split
 ·split
  ·simp only [List.length_append,List.length_take,List.length_cons,List.length_drop];omega
  ·omega
 ·simp
theorem foldP_len (m:List (List Int)) (xs:List (List Int)):∀l:List (Int×List Int),(xs.foldl (fun l x=>if 0<firstNZ x then putP l (nrm m x,x) else l) l).length<=l.length+xs.length:=by
 induction xs with
 |nil=>intro l;exact Nat.le_refl _
 |cons x xs ih=>
  intro l
  rw [List.foldl_cons,List.length_cons]
  refine Nat.le_trans (ih _) ?_
  split
  ·have :=putP_len l (nrm m x,x);omega
  ·omega
theorem itemsL_len (m:List (List Int)) (xs:List (List Int)):(itemsL m xs).length<=xs.length:=by
 have :=foldP_len m xs []
 unfold itemsL
 simpa using this
theorem itemsL_mem {m:List (List Int)} {xs:List (List Int)}:∀p∈itemsL m xs,p.2∈xs:=fun p hp=>by
 rcases ((items_ok m xs [] List.Pairwise.nil).2 p).1 hp with h |⟨x,hx,-,rfl⟩
 ·simp at h
 ·exact hx
theorem canon_eq {x:List Int} (h:firstNZ x≠0):canonL x=x↔0<firstNZ x:=by
 constructor
 ·intro e
  have :=canon_first x h
  rwa [e] at this
 ·exact canonL_pos
def RetIts (w:World) (its:List (Int×List Int)) (e:Ending) (w':World):Prop:=∃A c vs,e= .returned (.slice A its.length c)/\Own w' w.heap.size 45 2 A its.length c vs/\ItV w' vs its/\Step w w'
def ItRel (w w3:World) (m xs:List (List Int)) (N:Nat) (s5 i:Value) (wr:World):Prop:=∃(k:Nat) (A5:Option Addr) (c5:Nat) (vs:List Value),k<=N/\i= .int .i64 k/\s5= .slice A5 (itemsL m (xs.take k)).length c5/\Hid (Own wr w.heap.size 45 2 A5 (itemsL m (xs.take k)).length c5 vs)/\Hid (ItV wr vs (itemsL m (xs.take k)))/\Ext w3 wr
set_option maxRecDepth 20000 in
theorem rItems_ok {w0 w:World} {A:Option Addr} {c n:Nat} {m:List (List Int)} {bound:Int} (hM:Mat64 w0 A m) (hL:LLLed m) (h1:m.length=n) (hb:0<=bound) (hb1:bound<1073741824) (htot:((lvs m bound (n-1) []).length)<=1000000) [hx:Ext w0 w]:
  Calls Tryz.prog 54 #[.slice A n c,.int .i64 bound] w (RetIts w (itemsL m (lvs m bound (n-1) []))):=by
 have hr:=red_ok hL.red
 have hn8:=hL.len8
 have hn1:=hL.len1
 have HOF:Hid (∀W,Ext w0 W->Calls Tryz.prog 62 #[.slice A n c] W (RetFr W m n)):=Lib.hid (fun W e=>rFrame_ok hM hL h1)
 have htop:=top_nonneg hr hb
 have hall:=mem_all hr hb
 rw [h1] at htop hall
 obtain ⟨xs,hxs⟩:∃xs,xs=lvs m bound (n-1) []:=⟨_,rfl⟩
 have HLV:Hid (∀(W:World) (SB DB:Option Addr) (sc dc:Nat),FrV W m SB DB->Calls Tryz.prog 85 #[.agg #[.int .i64 n,.slice SB n sc,.slice DB (n+1) dc],.int .i64 bound,.slice none 0 0,.slice none 0 0] W (fun e w'=>∃A c vs,e= .returned (.slice A xs.length c)/\Arr w' A 45 vs/\ItV w' vs (itm m xs)/\Ext W w')):=Lib.hid (fun W SB DB sc dc hF=>by
  have :=rleaves_ok (base:=W.heap.size) hL h1 hb hb1 (n-1) W SB DB none none sc dc 0 0 0 0 [] [] [] (by omega) hF Ints.nil rfl (fun a ha=>by simp at ha) htop (Own.nil _ _ _ _) (ItV.nil _) (Nat.le_refl _) (by omega)
  refine this.mono ?_
  rintro e w' ⟨A,c,vs,rfl,hO,hV,hG⟩
  rw [<-hxs,Nat.zero_add,List.nil_append] at*
  exact ⟨A,c,vs,rfl,hO.arr,hV,hG.ext (Ext.refl _) (Nat.le_refl _)⟩)
 rw [<-hxs] at htot |-
 rw [<-hxs] at hall
 have HXS:Hid (∀x∈xs,x.length=n/\(∀a∈x,-1099511627776<=a/\a<=1099511627776)):=Lib.hid (fun x hx=>by
  obtain ⟨h2,h3⟩:=(hall x).1 hx
  refine ⟨h2,fun a ha=>?_⟩
  have h4:=coord_small hr hb hb1 x (by omega) h3
  obtain ⟨i,hi⟩:=List.getElem?_of_mem ha
  have :=le_absSum x i a hi
  omega)
 have HTK:Hid (∀(k:Nat) (x:List Int),xs[k]? =some x->itemsL m (xs.take (k+1))=putS m (itemsL m (xs.take k)) x):=Lib.hid (fun k x hk=>by rw [List.take_add_one,hk];exact itemsL_snoc m _ _)
 have HIL:Hid (∀k,(itemsL m (xs.take k)).length<=1000000):=Lib.hid (fun k=>by
  have h2:=itemsL_len m (xs.take k)
  rw [List.length_take] at h2
  omega)
 have HIM:Hid (∀k,∀p∈itemsL m (xs.take k),p.2.length<=1000):=Lib.hid (fun k p hp=>by
  have :=(HXS.out p.2 (List.mem_of_mem_take (itemsL_mem p hp))).1
  omega)
 unfold RetIts
 have hn9:n<=8:=by omega
 clear hM hL hr htop hall hxs h1
 go_enter Tryz.func54,Tryz.ntmps54
 go_wp2_with (first
  |(go_at_call 62;refine (HOF.out _ inferInstance).mono ?_;rintro e w2 ⟨SB,sc,DB,dc,rfl,hF,-,-,-,-,hs2⟩)
  |(go_at_call 85;refine (HLV.out _ _ _ _ _ hF).mono ?_;rintro e w3 ⟨A3,c3,vs3,rfl,hA3,hV3,hx3⟩;have HA3:=Lib.hid hA3;have HV3:=Lib.hid hV3;have hxw3:Ext w w3:=(inferInstance:Ext w w2).trans hx3;clear hA3 hV3))
 obtain ⟨N,hN⟩:∃N,N=xs.length:=⟨_,rfl⟩
 have HN:=Lib.hid hN
 have hN6:N<=1000000:=by omega
 rw [<-hN]
 clear hN htot
 go_loopw [5,15] (fun s5 i wr=>ItRel w w3 m xs N s5 i wr) (fun _ i _=>N-(intOf i).toNat)
 case atStart=>
  unfold ItRel
  exact ⟨0,none,0,[],by omega,rfl,rfl,Lib.hid (Own.nil _ _ _ _),Lib.hid (ItV.nil _),inferInstance⟩
 case round=>
  unfold ItRel at hrel
  obtain ⟨k,A5,c5,vs,hk,rfl,rfl,HO5,HV5,hxr⟩:=hrel
  have hxwr:Ext w wr:=hxw3.trans hxr
  by_cases hlt:k<N
  ·obtain ⟨x,hxk⟩:∃x,xs[k]? =some x:=⟨_,List.getElem?_eq_getElem (by rw [<-HN.out];exact hlt)⟩
   obtain ⟨hxl,hxb⟩:=HXS.out x (List.mem_of_getElem? hxk)
   obtain ⟨B,cx,a1,a2,a3,a4,a5⟩:=HV3.out.2 k (nrm m x,x) (by unfold itm;rw [List.getElem?_map,hxk];rfl)
   obtain ⟨b,o,rfl,z1,z3⟩:=HA3.out.at_ a1
   obtain ⟨b',o',hA',z2,-⟩:=HA3.out.at_ a2
   injection hA' with hA'
   injection hA' with y1 y2
   subst y1 y2
   rw [<-Nat.add_assoc] at z2
   simp only at a3 a4 z1 z2
   have oB:Old b w3:=⟨z3⟩
   have hc1:wr.cell? ⟨b,o+k*2,none⟩=some (.int .i64 (nrm m x)):=(cellE w3).trans z1
   have hc2:wr.cell? ⟨b,o+k*2+1,none⟩=some (.slice B x.length cx):=(cellE w3).trans z2
   have HCA:=Lib.hid (fun W (e:Ext w3 W)=>rCanon_ok (w:=W) (c:=cx) a3 (by omega) hxb)
   have HT:=Lib.hid (HTK.out k x hxk)
   have HIX:=Lib.hid a3
   unfold RetCan at HCA
   rw [hxl] at HCA hc2 a4
   have HXLN:=Lib.hid hxl
   clear a1 a2 a3 z1 z2 hxk hxl hxb
   obtain ⟨nv,hnv⟩:∃nv,nv=nrm m x:=⟨_,rfl⟩
   have HNV:=Lib.hid hnv
   rw [<-hnv] at hc1
   clear hnv
   by_cases hz:firstNZ x=0
   ·have hps:putS m (itemsL m (xs.take k)) x=itemsL m (xs.take k):=by unfold putS;rw [if_neg (by omega)]
    have HPS:=Lib.hid (HT.out.trans hps)
    clear hps
    go_wp2_with (go_at_call 29;refine (HCA.out _ inferInstance).mono ?_;rintro e w5 (⟨-,rfl,hs5⟩ |⟨hbad,-⟩);(rotate_left;(exact absurd hz hbad)))
    refine ⟨⟨k+1,A5,c5,vs,by omega,by go_num,by rw [HPS.out],Lib.hid ?_,Lib.hid ?_,inferInstance⟩,by simp [intOf]<;>omega⟩
    ·rw [HPS.out];exact HO5.out.ext inferInstance
    ·rw [HPS.out];exact HV5.out.ext inferInstance
   ·by_cases hp:0<firstNZ x
    ·have hcx:canonL x=x:=(canon_eq hz).2 hp
     have hlx:lexI x (canonL x)=0:=by rw [hcx];exact lexI_self x
     have HPS:Hid (itemsL m (xs.take (k+1))=putP (itemsL m (xs.take k)) (nrm m x,x)):=Lib.hid (by rw [HT.out];unfold putS;rw [if_pos hp])
     have HCM:Hid (∀(W1 W:World) C d,Ints W1 C 2 .i64 (canonL x)->Ext W1 W->Ext w3 W->Calls Tryz.prog 31 #[.slice B n cx,.slice C n d] W (RetQ W (.int .i64 0))):=Lib.hid (fun W1 W C d i1 e1 e2=>by
      have h:=ref09_Compare_any (w0:=W) (w:=W) (c:=cx) (d:=d) (HIX.out.ext e2) (i1.ext e1) (by rw [HXLN.out];omega) (by rw [canonL_length,HXLN.out];omega)
      rw [canonL_length,hlx,HXLN.out] at h
      exact h)
     have HPT:Hid (∀W,Ext wr W->Calls Tryz.prog 86 #[.slice A5 (itemsL m (xs.take k)).length c5,.agg #[.int .i64 nv,.slice B n cx]] W (RetPut W w.heap.size (putP (itemsL m (xs.take k)) (nrm m x,x)))):=Lib.hid (fun W e=>by
      have h:=rPut_ok (a:=nv) (HO5.out.ext e) (HV5.out.ext e) (hxwr.trans e).size (HIL.out k) (HIX.out.ext (hxr.trans e)) (by rw [HXLN.out];exact a4) a5 (by rw [HXLN.out];omega) (HIM.out k)
      rw [HXLN.out,HNV.out] at h
      rw [HNV.out]
      exact h)
     unfold RetPut at HPT
     rw [<-HPS.out] at HPT
     clear hcx hlx
     obtain ⟨I2,hI2⟩:∃I2,I2=itemsL m (xs.take (k+1)):=⟨_,rfl⟩
     rw [<-hI2] at HPT
     have HI2:=Lib.hid hI2
     clear hI2
     go_wp2_with (first
      |(go_at_call 29;refine (HCA.out _ inferInstance).mono ?_;rintro e w5 (⟨hbad,-⟩ |⟨-,C5,d5,rfl,hI5,-,-,hs5⟩);(exact absurd hbad hz);have HI5:=Lib.hid hI5;clear hI5)
      |(go_at_call 31;refine (HCM.out _ _ _ _ HI5.out inferInstance inferInstance).mono ?_;rintro e w6 ⟨rfl,nq,rfl⟩)
      |(go_at_call 86;refine (HPT.out _ inferInstance).mono ?_;rintro e w7 ⟨A7,c7,vs7,rfl,hO7,hV7,hx7⟩;have HO7:=Lib.hid hO7;have HV7:=Lib.hid hV7;have hxr7:Ext w3 w7:=(inferInstance:Ext w3 (w5.drewN nq)).trans hx7;clear hO7 hV7))
     exact ⟨⟨k+1,A7,c7,vs7,by omega,by go_num,by rw [HI2.out],by rw [<-HI2.out];exact HO7,by rw [<-HI2.out];exact HV7,hxr7.trans inferInstance⟩,by simp [intOf]<;>omega⟩
    ·have hlx:lexI x (canonL x)≠0:=fun h=>hp ((canon_eq hz).1 (lexI_eq _ _ h).symm)
     have hle:(lexI x (canonL x)==0)=false:=by simpa using hlx
     have HPS:Hid (itemsL m (xs.take (k+1))=itemsL m (xs.take k)):=Lib.hid (by rw [HT.out];unfold putS;rw [if_neg hp])
     have HCM:Hid (∀(W1 W:World) C d,Ints W1 C 2 .i64 (canonL x)->Ext W1 W->Ext w3 W->Calls Tryz.prog 31 #[.slice B n cx,.slice C n d] W (RetQ W (.int .i64 (lexI x (canonL x))))):=Lib.hid (fun W1 W C d i1 e1 e2=>by
      have h:=ref09_Compare_any (w0:=W) (w:=W) (c:=cx) (d:=d) (HIX.out.ext e2) (i1.ext e1) (by rw [HXLN.out];omega) (by rw [canonL_length,HXLN.out];omega)
      rw [canonL_length,HXLN.out] at h
      exact h)
     clear hlx
     generalize lexI x (canonL x)=lx at*
     go_wp2_with (first
      |(go_at_call 29;refine (HCA.out _ inferInstance).mono ?_;rintro e w5 (⟨hbad,-⟩ |⟨-,C5,d5,rfl,hI5,-,-,hs5⟩);(exact absurd hbad hz);have HI5:=Lib.hid hI5;clear hI5)
      |(go_at_call 31;refine (HCM.out _ _ _ _ HI5.out inferInstance inferInstance).mono ?_;rintro e w6 ⟨rfl,nq,rfl⟩))
     refine ⟨⟨k+1,A5,c5,vs,by omega,by go_num,by rw [HPS.out],Lib.hid ?_,Lib.hid ?_,inferInstance⟩,by simp [intOf]<;>omega⟩
     ·rw [HPS.out];exact HO5.out.ext inferInstance
     ·rw [HPS.out];exact HV5.out.ext inferInstance
  ·obtain rfl:k=N:=by omega
   have htk:xs.take k=xs:=List.take_of_length_le (by rw [<-HN.out];exact Nat.le_refl _)
   rw [htk] at HO5 HV5
   rw [htk]
   go_wp2_with fail
   go_ret
   exact ⟨A5,c5,vs,rfl,HO5.out,HV5.out,hxwr.toStep⟩
def shl (b:Int) (its:List (Int×List Int)):List (List Int):=(its.filter fun p=>p.1==b).map Prod.snd
theorem shl_snoc (b:Int) (its:List (Int×List Int)) (p:Int×List Int):shl b (its++[p])=if p.1==b then shl b its++[p.2] else shl b its:=by
 unfold shl
 rw [List.filter_append,List.map_append]
 by_cases h:(p.1==b)=true<;>simp [h]
theorem shl_len (b:Int) (its:List (Int×List Int)):(shl b its).length<=its.length:=by
 unfold shl
 rw [List.length_map]
 exact List.length_filter_le _ _
theorem shl_vecList {m:List (List Int)} {b:Int} {its:List (Int×List Int)} (h:VecList m b false (its.map Prod.snd)) (h2:its=(its.map Prod.snd).map fun x=>(nrm m x,x)):VecList m b true (shl b its):=by
 have he:shl b its=(its.map Prod.snd).filter fun x=>nrm m x==b:=by
  unfold shl
  conv=>lhs;rw [h2]
  rw [List.filter_map,List.map_map]
  exact List.map_id _
 rw [he]
 refine ⟨h.1.filter _,fun x=>?_⟩
 rw [List.mem_filter,h.2]
 simp [and_assoc]
def ShRel (w0 w:World) (b:Int) (its:List (Int×List Int)) (N:Nat) (s10 i:Value) (wr:World):Prop:=∃(k:Nat) (B:Option Addr) (d:Nat) (vs:List Value),k<=N/\i= .int .i64 k/\s10= .slice B (shl b (its.take k)).length d/\Hid (MOwn wr w.heap.size B (shl b (its.take k)).length d (shl b (its.take k)) vs)/\Ext w0 wr
def RetSh10 (w:World) (m:List (List Int)) (bound budget:Int) (e:Ending) (w':World):Prop:=
 (totS m bound<=budget/\∃B d L,e= .returned (.tuple #[.slice B (List.length L) d,.int .i64 0])/\Mat64 w' B L/\L.length<=d/\d<=9223372036854775807/\VecList m bound true L/\Step w w')∨(budget<totS m bound/\e= .returned (.tuple #[.slice none 0 0,.int .i64 9])/\Step w w')
set_option maxRecDepth 20000 in
theorem rShell_ok {w0 w:World} {A:Option Addr} {c n:Nat} {m:List (List Int)} {bound budget:Int} (hM:Mat64 w0 A m) (hL:LLLed m) (h1:m.length=n) (hb:0<=bound) (hb1:bound<1073741824) (hu0:0<=budget) (hu1:budget<=1000000) (hlvs:(lvs m bound (n-1) []).length<=1000000) (hmx:totS m bound<=budget->(collL m bound false).length<=4096) [hx:Ext w0 w]:
  Calls Tryz.prog 37 #[.slice A n c,.int .i64 bound,.int .i64 budget] w (RetSh10 w m bound budget):=by
 have hn8:=hL.len8
 have hn1:=hL.len1
 have hr:=red_ok hL.red
 have HST:=Lib.hid (fun W (e:Ext w0 W)=>rSteps_ok (w:=W) (c:=c) hM hL h1 hb hb1 hu0 hu1)
 have HIT:Hid (∀W,Ext w0 W->Calls Tryz.prog 54 #[.slice A n c,.int .i64 bound] W (RetIts W (itemsL m (lvs m bound (n-1) [])))):=Lib.hid (fun W e=>rItems_ok hM hL h1 hb hb1 hlvs)
 obtain ⟨hvl,hvl2⟩:=items_vecList hr hb
 rw [h1] at hvl hvl2
 have HVL:=Lib.hid (shl_vecList hvl hvl2)
 have hil:(itemsL m (lvs m bound (n-1) [])).length<=1000000:=Nat.le_trans (itemsL_len m _) hlvs
 have HMX:Hid (totS m bound<=budget->(itemsL m (lvs m bound (n-1) [])).length<=4096):=Lib.hid (fun ht=>by
  have a1:=vecList_len hr hb hvl
  have :=hmx ht
  rw [List.length_map] at a1
  omega)
 generalize itemsL m (lvs m bound (n-1) [])=its at*
 clear hM hL h1 hr hvl hvl2 hlvs hmx
 unfold RetSh10
 unfold RetSt at HST
 generalize totS m bound=tot at*
 generalize stS m bound=st at*
 unfold RetIts at HIT
 obtain ⟨N,hN⟩:∃N,N=its.length:=⟨_,rfl⟩
 have HN:=Lib.hid hN
 rw [<-hN] at hil HMX HIT
 clear hN
 go_enter Tryz.func37,Tryz.ntmps37
 go_upto_region 2 with (go_at_call 35;refine (HST.out _ inferInstance).mono ?_;rintro e w1 (⟨ht,g,rfl,hR,hgs,hs1⟩ |⟨hbad,rfl,hs1⟩))
 ·have hN4:=HMX.out ht
  clear hR HMX HST
  go_wp2_with (go_at_call 54;refine (HIT.out _ inferInstance).mono ?_;rintro e w2 ⟨A2,c2,us,rfl,hO2,hV2,hs2⟩;have HA:=Lib.hid hO2.arr;have HV:=Lib.hid hV2;have hxw2:Ext w w2:=inferInstance;clear hO2 hV2)
  go_loopw [10,27] (fun s10 i wr=>ShRel w2 w2 bound its N s10 i wr) (fun _ i _=>N-(intOf i).toNat)
  case atStart=>exact ⟨0,none,0,[],by omega,rfl,rfl,Lib.hid (MOwn.nil _ _),inferInstance⟩
  case round=>
   unfold ShRel at hrel
   obtain ⟨k,B,d,vs,hk,rfl,rfl,HM,hxr⟩:=hrel
   have hxwr:Ext w wr:=hxw2.trans hxr
   have hsl:(shl bound (its.take k)).length<=k:=Nat.le_trans (shl_len _ _) (by rw [List.length_take];omega)
   by_cases hlt:k<N
   ·obtain ⟨p,hp⟩:∃p,its[k]? =some p:=⟨_,List.getElem?_eq_getElem (by rw [<-HN.out];exact hlt)⟩
    obtain ⟨xa,x⟩:=p
    obtain ⟨X,cx,a1,a2,a3,a4,a5⟩:=HV.out.2 k _ hp
    obtain ⟨b,o,rfl,z1,z3⟩:=HA.out.at_ a1
    obtain ⟨b',o',hA',z2,-⟩:=HA.out.at_ a2
    injection hA' with hA'
    injection hA' with y1 y2
    subst y1 y2
    rw [<-Nat.add_assoc] at z2
    simp only at a3 a4 z1 z2
    have oB:Old b w2:=⟨z3⟩
    have hc1:wr.cell? ⟨b,o+k*2,none⟩=some (.int .i64 xa):=(cellE w2).trans z1
    have hc2:wr.cell? ⟨b,o+k*2+1,none⟩=some (.slice X x.length cx):=(cellE w2).trans z2
    have HX:=Lib.hid a3
    have HTK:Hid (shl bound (its.take (k+1))=if xa==bound then shl bound (its.take k)++[x] else shl bound (its.take k)):=Lib.hid (by rw [List.take_add_one,hp];exact shl_snoc _ _ _)
    obtain ⟨xl,hxl⟩:∃xl,xl=x.length:=⟨_,rfl⟩
    have HXL:=Lib.hid hxl
    rw [<-hxl] at hc2 a4
    clear a1 a2 a3 z1 z2 hp hxl
    cases hcmp:xa==bound with
    |true=>
     rw [hcmp,if_pos rfl] at HTK
     have hsrc:Arr ((wr.alloc (.cells #[.int .i64 xa,.slice X xl cx] 45)).alloc (.cells #[.slice X xl cx] 37)) (some ⟨wr.heap.size+1,0,none⟩) 37 [.slice X xl cx]:=by
      have :=Arr.new (wr.alloc (.cells #[.int .i64 xa,.slice X xl cx] 45)) 37 #[.slice X xl cx]
      rwa [World.size_alloc] at this
     obtain ⟨sl,hsl2⟩:∃sl,sl=(shl bound (its.take k)).length:=⟨_,rfl⟩
     have HSL:=Lib.hid hsl2
     rw [<-hsl2] at hsl HM |-
     clear hsl2
     go_wp2_with (at_builtin;refine wpList_app _ rfl _ _ 26 rfl w2.heap.size 37 (.slice none 0 0) 1 24 Tryz.underlying26 infoSlI64 rfl (by omega) (by omega) B sl d vs rfl (HM.out.own.ext inferInstance) _ 1 1 [.slice X xl cx] rfl hsrc (by simp) (by simp [Value.oneCell']) (by omega) (by have :=hxr.size;simp;omega) ?_;intro A4 d4 w4 hown4 hg4)
     have hx4:Ext w2 w4:=hg4.ext (hxr.trans inferInstance) (Nat.le_refl _)
     refine ⟨⟨k+1,A4,d4,vs++[.slice X xl cx],by omega,by go_num,by rw [HTK.out,List.length_append,<-HSL.out];rfl,Lib.hid ?_,hx4⟩,by simp [intOf]<;>omega⟩
     rw [HTK.out,List.length_append,<-HSL.out]
     rw [HXL.out] at hown4 a4 |-
     exact HM.out.snoc (r:=x) inferInstance hg4 hown4 (HX.out.ext (hxr.trans inferInstance)) a4 a5
    |false=>
     rw [hcmp,if_neg (by decide)] at HTK
     go_wp2_with fail
     exact ⟨⟨k+1,B,d,vs,by omega,by go_num,by rw [HTK.out],Lib.hid (by rw [HTK.out];exact HM.out.ext inferInstance),inferInstance⟩,by simp [intOf]<;>omega⟩
   ·obtain rfl:k=N:=by omega
    have htk:its.take k=its:=List.take_of_length_le (by rw [<-HN.out];exact Nat.le_refl _)
    rw [htk] at HM hsl
    rw [htk]
    have HCP:=Lib.hid HM.out.own.cap
    obtain ⟨sl,hsl2⟩:∃sl,sl=(shl bound its).length:=⟨_,rfl⟩
    have HSL:=Lib.hid hsl2
    rw [<-hsl2] at hsl HM HCP |-
    have hd4:decide (4096<(sl:Int))=false:=by simp;omega
    clear hsl2
    go_wp2_with fail
    go_ret2
    exact .inl ⟨ht,B,d,shl bound its,by rw [<-HSL.out];rfl,HM.out.mat,by rw [<-HSL.out];exact HCP.out.1,HCP.out.2,HVL.out,Step.of _ _⟩
 ·go_wp2_with fail
  go_ret2
  exact .inr ⟨hbad,rfl,Step.of _ _⟩
end Go.Proofs.YtjehjkipcaohpaaGreat
