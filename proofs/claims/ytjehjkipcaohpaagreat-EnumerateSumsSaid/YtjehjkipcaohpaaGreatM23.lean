/-
  Contracts of functions of the program, joined: Ls2, Sum11. No statement of the seat is proved here.
-/
import Derived.Test.YtjehjkipcaohpaaGreatM22
import Derived.Test.YtjehjkipcaohpaaGreatJ20
import Derived.BigQuiet
set_option linter.unusedVariables false
set_option linter.unusedSimpArgs false
set_option linter.constructorNameAsVariable false
namespace Go.Proofs.YtjehjkipcaohpaaGreat
open La
def sumV (x:List Int) (s:Int) (y:List Int):List Int:=(List.range x.length).map fun i=>x.getD i 0+s*y.getD i 0
theorem sumV_len (x:List Int) (s:Int) (y:List Int):(sumV x s y).length=x.length:=by simp [sumV]
theorem sumV_get {x:List Int} {s:Int} {y:List Int} {i:Nat} (hi:i<x.length):(sumV x s y).getD i 0=x.getD i 0+s*y.getD i 0:=by
 simp [sumV,List.getD,hi]
def crossV (m:List (List Int)) (x y:List Int):Int:=sumR m.length fun i=>x.getD i 0*(sumR m.length fun j=>ent m i j*y.getD j 0)+y.getD i 0*(sumR m.length fun j=>ent m i j*x.getD j 0)
theorem nrm_sum {m:List (List Int)} (hn:AllLen m m.length) (x y:List Int) (s:Int) (hx:x.length=m.length) (hy:y.length=m.length):nrm m (sumV x s y)=nrm m x+s*crossV m x y+s*s*nrm m y:=by
 rw [←ipR_nrm hn x hx,←ipR_nrm hn y hy,←ipR_nrm hn (sumV x s y) (by rw [sumV_len,hx])]
 unfold ipR crossV
 have h1:(sumR m.length fun i=>(sumV x s y).getD i 0*sumR m.length fun j=>ent m i j*(sumV x s y).getD j 0)=
   sumR m.length fun i=>(x.getD i 0*(sumR m.length fun j=>ent m i j*x.getD j 0))+(s*(x.getD i 0*(sumR m.length fun j=>ent m i j*y.getD j 0)+y.getD i 0*(sumR m.length fun j=>ent m i j*x.getD j 0))+s*s*(y.getD i 0*(sumR m.length fun j=>ent m i j*y.getD j 0))):=by
  refine sumR_congr fun i hi=>?_
  have h2:(sumR m.length fun j=>ent m i j*(sumV x s y).getD j 0)=(sumR m.length fun j=>ent m i j*x.getD j 0)+s*(sumR m.length fun j=>ent m i j*y.getD j 0):=by
   rw [←sumR_mul,←sumR_add]
   refine sumR_congr fun j hj=>?_
   rw [sumV_get (by omega)]
   grind
  rw [h2,sumV_get (by omega)]
  generalize (sumR m.length fun j=>ent m i j*x.getD j 0)=X
  generalize (sumR m.length fun j=>ent m i j*y.getD j 0)=Y
  grind
 rw [h1,sumR_add,sumR_add,sumR_mul,sumR_mul]
 omega
theorem sums_item {m:List (List Int)} (hr:RedOK m) {b:Int} (hb:0≤b) (hb1:b<268435456) {L:List (List Int)} (h:VecList m b false L) {x y:List Int} (hx:x∈L) (hy:y∈L) {s:Int} (hs:s=1∨s=-1):
  (sumV x s y).length=m.length∧(∀a∈sumV x s y,-1099511627776≤a∧a≤1099511627776)∧nrm m (sumV x s y)≤4611686018427387904∧(firstNZ (sumV x s y)≠0→decide (canonL (sumV x s y)∈L)=decide (nrm m (sumV x s y)≤b)):=by
 obtain ⟨x1,x2,x3,-⟩:=(h.mem x).1 hx
 obtain ⟨y1,y2,y3,-⟩:=(h.mem y).1 hy
 have hall:=isSmallB_all hr.small
 have hl:(sumV x s y).length=m.length:=by rw [sumV_len,x1]
 have p1:=nrm_sum hall x y 1 x1 y1
 have p2:=nrm_sum hall x y (-1) x1 y1
 have q1:=nrm_nonneg hr (sumV x 1 y) (by rw [sumV_len,x1])
 have q2:=nrm_nonneg hr (sumV x (-1) y) (by rw [sumV_len,x1])
 have hle:nrm m (sumV x s y)≤4*b:=by rcases hs with rfl |rfl<;>omega
 have hc:=coord_small hr (by omega:0≤4*b) (by omega) (sumV x s y) hl hle
 refine ⟨hl,fun a ha=>inRangeB_iff.1 (inRange_of hc) a ha,by omega,fun hne=>?_⟩
 have e:canonL (sumV x s y)∈L↔nrm m (sumV x s y)≤b:=by
  rw [h.mem,nrm_canon,canonL_length]
  constructor
  ·exact fun hh=>hh.2.2.1
  ·exact fun hh=>⟨hl,canon_first _ hne,hh,fun h=>by cases h⟩
 rw [decide_eq_decide]
 exact e
def sumTo (x:List Int) (s:Int) (y:List Int) (q n:Nat):List Int:=(List.range n).map fun i=>if i<q then x.getD i 0+s*y.getD i 0 else 0
theorem sumTo_len (x:List Int) (s:Int) (y:List Int) (q n:Nat):(sumTo x s y q n).length=n:=by simp [sumTo]
theorem sumTo_zero (x:List Int) (s:Int) (y:List Int) (n:Nat):sumTo x s y 0 n=List.replicate n 0:=by
 simp [sumTo,List.map_const']
theorem sumTo_full {x:List Int} {n:Nat} (h:x.length=n) (s:Int) (y:List Int):sumTo x s y n n=sumV x s y:=by
 unfold sumTo sumV
 rw [h]
 exact List.map_congr_left fun i hi=>if_pos (by simpa using hi)
theorem sumTo_succ (x:List Int) (s:Int) (y:List Int) {q n:Nat} (h:q<n):(sumTo x s y q n).set q (x.getD q 0+s*y.getD q 0)=sumTo x s y (q+1) n:=by
 refine List.ext_getElem (by simp [sumTo]) fun i h1 h2=>?_
 rw [List.getElem_set]
 simp only [sumTo,List.getElem_map,List.getElem_range]
 by_cases e:q=i
 ·subst e;rw [if_pos rfl,if_pos (by omega)]
 ·rw [if_neg e]
  by_cases hq:i<q
  ·rw [if_pos hq,if_pos (by omega)]
  ·rw [if_neg hq,if_neg (by omega)]
end Go.Proofs.YtjehjkipcaohpaaGreat
namespace Go.Proofs.YtjehjkipcaohpaaGreat
open Go.RowKit
open La
theorem mkCells_row2 (w:World) (n:Nat):Row (w.alloc (.cells (mkCells #[.int .i64 0] n) 2)) w.heap.size 2 .i64 (List.replicate n 0):=by
 have h:=heap_alloc_new w (.cells (mkCells #[.int .i64 0] n) 2)
 have :(mkCells #[.int .i64 0] n)=((List.replicate n (0:Int)).map (Value.int .i64)).toArray:=by
  apply Array.ext'
  rw [mkCells_one];simp
 unfold Row
 rw [h,this]
set_option maxRecDepth 4000 in
set_option maxHeartbeats 8000000 in
theorem EnumerateSums_any {w:World} {dim kind bound i j:Int} {NA:Option Addr} {l:List Int} {nc:Nat} {v3:Value} {te:TypeId} (hN:Ints w NA te .i8 l) (h8:I8 l) (hl:l.length≤9223372036854775807) (hd0:0≤dim) (hd1:dim<256) (hk0:0≤kind) (hk1:kind<256) (hb0:0≤bound) (hb1:bound<256) (hi0:0≤i) (hi1:i<256) (hj0:0≤j) (hj1:j<256):
  Calls Tryz.prog 8 #[.agg #[.int .u8 dim,.int .u8 kind,.slice NA l.length nc,v3],.int .u8 bound,.int .u8 i,.int .u8 j] w (RetVal w (.bool true)):=by
 have HG:Hid (∀W,Ext w W→Calls Tryz.prog 22 #[.agg #[.int .u8 dim,.int .u8 kind,.slice NA l.length nc,v3],.int .u8 bound] W (RetSmall W (1+(dim%4).toNat) bound)):=Lib.hid (fun W e=>rsmall11_ok (hN.ext e) h8 hl hd0 hd1 hk0 hk1 hb0 hb1)
 have hn1:1≤1+(dim%4).toNat:=by omega
 have hn4:1+(dim%4).toNat≤4:=by omega
 clear hN h8
 generalize 1+(dim%4).toNat=n at*
 have e6:=Int.emod_nonneg bound (show 13-2*(n:Int)≠0 by omega)
 have e7:=Int.emod_lt_of_pos bound (show 0<13-2*(n:Int) by omega)
 unfold RetSmall at HG
 obtain ⟨b,hb⟩:∃b:Nat,bound%(13-2*(n:Int))=b:=⟨(bound%(13-2*(n:Int))).toNat,by omega⟩
 rw [hb] at HG e6 e7
 have HV:Hid (∀(m:List (List Int)) (W0 W:World) A c,isRedB m=true→m.length=n→Mat64 W0 A m→n≤c→c≤9223372036854775807→Ext W0 W→Calls Tryz.prog 23 #[.slice A n c,.int .i64 b,.int .i64 20000] W (RetVL W m b)):=Lib.hid (fun m W0 W A c hr hmn hM h1 h2 e=>by
  have :=few_steps2 hr (b:=b) (by omega) (by omega)
  have :=Vectors_red (w:=W) (c:=c) (b:=b) (budget:=20000) hM (by omega) h2 hr (by omega) (by omega) (by omega) (by omega)
  rwa [hmn] at this)
 have hmk:=run_make_any (P:=Tryz.prog) Tryz.underlying37 infoI64 (by omega) (n:Int) (by omega) (by omega)
 have hiw:IntKind.i64.wrap i=i:=IntWalk.i64_in _ (by omega)
 have hjw:IntKind.i64.wrap j=j:=IntWalk.i64_in _ (by omega)
 clear hb
 go_enter Tryz.func8,Tryz.ntmps8
 go_upto_region 3 with (first
  |(go_at_call 22;refine (HG.out _ inferInstance).mono ?_;rintro e w1 ⟨g,m,A1,c1,rfl,-,hLL,hlen,-,hM1,hc1,hc2,hs1⟩;have hred:=hLL.red;have HM:=Lib.hid hM1;have HR:=Lib.hid hred;have HLL:=Lib.hid hLL;clear hM1 hred hLL)
  |(go_at_call 23;refine (HV.out _ _ _ _ _ HR.out hlen HM.out hc1 hc2 inferInstance).mono ?_;rintro e w2 ⟨B2,d2,L2,rfl,hM2,h21,h22,hV2,h23,hs2⟩;have HM2:=Lib.hid hM2;have HV2:=Lib.hid hV2;clear hM2 hV2))
 have HRO:Hid (RedOK m):=Lib.hid (red_ok HR.out)
 have HLN:=Lib.hid hlen
 have HRW:=Lib.hid HV2.out.rows
 obtain ⟨ln,hln⟩:∃ln,ln=L2.length:=⟨_,rfl⟩
 have HL:=Lib.hid hln
 rw [←hln] at h21 h23 ⊢
 generalize totS m b=t1 at*
 clear hln HG HV
 have hx12:Ext w1 w2:=inferInstance
 have hxw2:Ext w w2:=inferInstance
 by_cases hl0:ln=0
 ·subst hl0
  go_wp2_with (go_at_call 26;refine awake11_any.mono ?_;rintro e w6 ⟨rfl,hs6⟩)
  go_ret
  exact ⟨rfl,Step.of _ _⟩
 ·have i6:=Int.emod_nonneg i (show (ln:Int)≠0 by omega)
  have i7:=Int.emod_lt_of_pos i (show 0<(ln:Int) by omega)
  have j6:=Int.emod_nonneg j (show (ln:Int)≠0 by omega)
  have j7:=Int.emod_lt_of_pos j (show 0<(ln:Int) by omega)
  have hit:i.tmod (ln:Int)=i%(ln:Int):=Int.tmod_eq_emod_of_nonneg hi0
  have hjt:j.tmod (ln:Int)=j%(ln:Int):=Int.tmod_eq_emod_of_nonneg hj0
  obtain ⟨p,hp⟩:∃p:Nat,i%(ln:Int)=p:=⟨(i%(ln:Int)).toNat,by omega⟩
  obtain ⟨q,hq⟩:∃q:Nat,j%(ln:Int)=q:=⟨(j%(ln:Int)).toNat,by omega⟩
  rw [hp] at i6 i7 hit
  rw [hq] at j6 j7 hjt
  have hp1:p<ln:=by omega
  have hq1:q<ln:=by omega
  have hpw:IntKind.i64.wrap (p:Int)=(p:Int):=IntWalk.i64_in _ (by omega)
  have hqw:IntKind.i64.wrap (q:Int)=(q:Int):=IntWalk.i64_in _ (by omega)
  have hlz:((ln:Int)==0)=false:=by simp;omega
  obtain ⟨x,hx⟩:∃x,L2[p]? =some x:=⟨_,List.getElem?_eq_getElem (by rw [←HL.out];exact hp1)⟩
  obtain ⟨y,hy⟩:∃y,L2[q]? =some y:=⟨_,List.getElem?_eq_getElem (by rw [←HL.out];exact hq1)⟩
  have hxn:x.length=n:=(HRW.out x (List.mem_of_getElem? hx)).trans hlen
  have hyn:y.length=n:=(HRW.out y (List.mem_of_getElem? hy)).trans hlen
  obtain ⟨bB,oB,BX,dX,rfl,gx1,gx2,-,-,gx3⟩:=HM2.out.at_ hx
  obtain ⟨bB',oB',BY,dY,hA,gy1,gy2,-,-,gy3⟩:=HM2.out.at_ hy
  injection hA with hA
  injection hA with z1 z2
  subst z1 z2
  rw [hxn] at gx1
  rw [hyn] at gy1
  have HS:Hid (∀s:Int,(s=1∨s=-1)→(sumV x s y).length=m.length∧(∀a∈sumV x s y,-1099511627776≤a∧a≤1099511627776)∧nrm m (sumV x s y)≤4611686018427387904∧(firstNZ (sumV x s y)≠0→decide (canonL (sumV x s y)∈L2)=decide (nrm m (sumV x s y)≤b))):=Lib.hid (fun s hs=>sums_item HRO.out (by omega) (by omega) HV2.out (List.mem_of_getElem? hx) (List.mem_of_getElem? hy) hs)
  have HBX:Hid (∀a∈x,-1099511627776≤a∧a≤1099511627776):=Lib.hid (vecList_item HRO.out (by omega) (by omega) HV2.out hx).2.1
  have HBY:Hid (∀a∈y,-1099511627776≤a∧a≤1099511627776):=Lib.hid (vecList_item HRO.out (by omega) (by omega) HV2.out hy).2.1
  have HGX:=Lib.hid gx2
  have HGY:=Lib.hid gy2
  have HXN:=Lib.hid hxn
  have HYN:=Lib.hid hyn
  clear hp hq hx hy gx2 gy2 hxn hyn hl0
  go_wp2_with fail
  go_quiet (fail)
  go_wp2_with fail
  go_loopw [17,18,19,20,21,22,23,73,82] (fun _ _ _ _ _ _ _ k73 _ wr=>∃k:Nat,k≤2∧k73= .int .i64 k∧Hid (wr.heap[w2.heap.size]? =some (.cells #[.int .i64 1,.int .i64 (-1)] 2 (0,0)))∧Ext w2 wr) (fun _ _ _ _ _ _ _ k73 _ _=>2-(intOf k73).toNat)
  case atStart=>exact ⟨0,by omega,rfl,Lib.hid BlkAt.eq,inferInstance⟩
  case round=>
   obtain ⟨k,hk,rfl,HSB,hxr⟩:=hrel
   obtain ⟨wo,rfl⟩:∃wo:World,wo=wr:=⟨_,rfl⟩
   have hx1r:Ext w1 wo:=hx12.trans hxr
   by_cases hlt:k<2
   ·obtain ⟨s,hs,hcs⟩:∃s:Int,(s=1∨s=-1)∧wo.cell? ⟨w2.heap.size,k,none⟩=some (.int .i64 s):=by
     have hb:=HSB.out
     rcases (by omega:k=0∨k=1) with rfl |rfl
     ·exact ⟨1,.inl rfl,by simp [World.cell?,hb]⟩
     ·exact ⟨-1,.inr rfl,by simp [World.cell?,hb]⟩
    obtain ⟨z1,z2,z3,z4⟩:=HS.out s hs
    have HZ1:=Lib.hid z1
    have HZ2:=Lib.hid z2
    have HZ4:=Lib.hid z4
    clear z1 z2 z4
    have hrow:=mkCells_row2 wo n
    have HROW:=Lib.hid hrow
    have hnb:New wo.heap.size wo:=⟨Nat.le_refl _⟩
    clear hrow
    go_wp2_with fail
    go_loopw [19,82] (fun _ q82 wr=>∃q':Nat,q'≤n∧q82= .int .i64 q'∧Hid (Row wr wo.heap.size 2 .i64 (sumTo x s y q' n))∧Ext wo wr) (fun _ q82 _=>n-(intOf q82).toNat)
    case atStart=>exact ⟨0,by omega,rfl,Lib.hid (by rw [sumTo_zero];exact HROW.out.ext inferInstance),inferInstance⟩
    case round=>
     obtain ⟨r,hr,rfl,HRr,hxq⟩:=hrel
     by_cases hltq:r<n
     ·obtain ⟨bx,ox,xa,rfl,hxa,fx1,fx2⟩:=(HGX.out.ext (hxr.trans hxq)).at_ (i:=r) (by rw [HXN.out];exact hltq)
      obtain ⟨by',oy,ya,rfl,hya,fy1,fy2⟩:=(HGY.out.ext (hxr.trans hxq)).at_ (i:=r) (by rw [HYN.out];exact hltq)
      have bxa:=HBX.out xa (List.mem_of_getElem? hxa)
      have bya:=HBY.out ya (List.mem_of_getElem? hya)
      have hsum:Hid ((sumTo x s y r n).set r (xa+s*ya)=sumTo x s y (r+1) n):=Lib.hid (by
       have :=sumTo_succ x s y hltq
       rwa [show x.getD r 0=xa by simp [List.getD,hxa],show y.getD r 0=ya by simp [List.getD,hya]] at this)
      have hsb:-1099511627776≤s*ya∧s*ya≤1099511627776:=by rcases hs with rfl |rfl<;>omega
      obtain ⟨t,ht⟩:∃t,s*ya=t:=⟨_,rfl⟩
      rw [ht] at hsum hsb
      have htw:IntKind.i64.wrap t=t:=IntWalk.i64_in _ (by omega)
      have hzw:IntKind.i64.wrap (xa+t)=xa+t:=IntWalk.i64_in _ (by omega)
      obtain ⟨old,-,hcell⟩:=HRr.out.cell (i:=r) (by rw [sumTo_len];exact hltq)
      have hfr:=HRr.out.frozen r
      have hblt:=HRr.out.lt
      clear hxa hya
      go_wp2_with fail
      go_region
      all_goals
       go_wp2_with fail
       exact ⟨⟨r+1,by omega,by go_num,Lib.hid (by rw [←hsum.out];exact HRr.out.set r _),inferInstance⟩,by simp [intOf]<;>omega⟩
     ·obtain rfl:r=n:=by omega
      have hz:Row wr wo.heap.size 2 .i64 (sumV x s y):=by
       have :=HRr.out
       rwa [sumTo_full HXN.out] at this
      have hx1q:Ext w1 wr:=hx1r.trans hxq
      have hx2q:Ext w2 wr:=hxr.trans hxq
      have HN:Hid (∀W,Ext wr W→Calls Tryz.prog 28 #[.slice A1 r c1,.slice (some ⟨wo.heap.size,0,none⟩) r r] W (RetVal W (.tuple #[.int .i64 (nrm m (sumV x s y)),.bool true]))):=Lib.hid (fun W e=>by
       have :Ext w1 W:=hx1q.trans e
       have :=rNorm_ok (w:=W) (c:=c1) (d:=r) HM.out HLL.out hz.ints HZ1.out HZ2.out z3
       rwa [HLN.out] at this)
      have HCN:Hid (∀W,Ext wr W→Calls Tryz.prog 29 #[.slice (some ⟨wo.heap.size,0,none⟩) r r] W (RetCan W (sumV x s y))):=Lib.hid (fun W e=>by
       have :=rCanon_ok (w:=W) (c:=r) hz.ints (by rw [HZ1.out,HLN.out];omega) HZ2.out
       rwa [HZ1.out,HLN.out] at this)
      have HH:Hid (∀(W0 W:World) B d,Ints W0 B 2 .i64 (canonL (sumV x s y))→Ext W0 W→Ext w2 W→Calls Tryz.prog 30 #[.slice (some ⟨bB,oB,none⟩) ln d2,.slice B r d] W (RetQ W (.bool (decide (canonL (sumV x s y)∈L2))))):=Lib.hid (fun W0 W B d hI e1 e2=>by
       have :=rhas_ok (w:=W) (c:=d2) (d:=d) HM2.out hI (by rw [←HL.out];omega) (fun q hq=>by rw [HRW.out q hq,HLN.out];omega) (by rw [canonL_length,HZ1.out,HLN.out];omega)
       rwa [←HL.out,canonL_length,HZ1.out,HLN.out] at this)
      have hbs:Hid (wr.heap[w2.heap.size]? =some (.cells #[.int .i64 1,.int .i64 (-1)] 2 (0,0))):=Lib.hid (heap_of_ext hxq HSB.out)
      by_cases hz0:firstNZ (sumV x s y)=0
      ·have HC0:Hid (∀W,Ext wr W→Calls Tryz.prog 29 #[.slice (some ⟨wo.heap.size,0,none⟩) r r] W (RetVal W (.tuple #[.slice none 0 0,.bool false]))):=Lib.hid (fun W e=>(HCN.out W e).mono (by
        rintro e' w' (⟨-,h1,h2⟩ |⟨h0,-⟩)
        ·exact ⟨h1,h2⟩
        ·exact absurd hz0 h0))
       clear hz hz0 HCN HH hltq hr hmk hcs HS HZ1 HZ2 HZ4 z3 HGX HGY HBX HBY
       generalize nrm m (sumV x s y)=nz at*
       go_wp2_with (first
        |(go_at_call 28;refine (HN.out _ inferInstance).mono ?_;rintro e w3 ⟨rfl,hs3⟩)
        |(go_at_call 29;refine (HC0.out _ inferInstance).mono ?_;rintro e w4 ⟨rfl,hs4⟩))
       exact ⟨⟨k+1,by omega,by go_num,Lib.hid (heap_of_ext (inferInstance:Ext wr _) hbs.out),hx2q.trans inferInstance⟩,by simp [intOf]<;>omega⟩
      ·have HC1:Hid (∀W,Ext wr W→Calls Tryz.prog 29 #[.slice (some ⟨wo.heap.size,0,none⟩) r r] W (fun e w'=>∃B d,e= .returned (.tuple #[.slice B r d,.bool true])∧Hid (Ints w' B 2 .i64 (canonL (sumV x s y)))∧Step W w')):=Lib.hid (fun W e=>(HCN.out W e).mono (by
        rintro e' w' (⟨h0,-⟩ |⟨-,B,d,h1,h2,-,-,h3⟩)
        ·exact absurd h0 hz0
        ·rw [HZ1.out,HLN.out] at h1
         exact ⟨B,d,h1,Lib.hid h2,h3⟩))
       have hq4:=HZ4.out hz0
       rw [hq4] at HH
       have hdl:decide (nrm m (sumV x s y)≤b)=decide (nrm m (sumV x s y)≤b):=rfl
       clear hz hz0 HCN hq4 hdl hltq hr hmk hcs HS HZ1 HZ2 HZ4 z3 HGX HGY HBX HBY
       generalize nrm m (sumV x s y)=nz at*
       by_cases hle:nz≤(b:Int)
       ·have d1:decide (nz≤(b:Int))=true:=by simpa using hle
        rw [d1] at HH
        clear hle
        go_wp2_with (first
         |(go_at_call 28;refine (HN.out _ inferInstance).mono ?_;rintro e w3 ⟨rfl,hs3⟩)
         |(go_at_call 29;refine (HC1.out _ inferInstance).mono ?_;rintro e w4 ⟨B4,d4,rfl,hI4,hs4⟩)
         |(go_at_call 30;refine (HH.out _ _ _ _ hI4.out inferInstance inferInstance).mono ?_;rintro e w5 ⟨rfl,nq,rfl⟩))
        exact ⟨⟨k+1,by omega,by go_num,Lib.hid (heap_of_ext (inferInstance:Ext wr _) hbs.out),hx2q.trans inferInstance⟩,by simp [intOf]<;>omega⟩
       ·have d1:decide (nz≤(b:Int))=false:=by simpa using hle
        rw [d1] at HH
        clear hle
        go_wp2_with (first
         |(go_at_call 28;refine (HN.out _ inferInstance).mono ?_;rintro e w3 ⟨rfl,hs3⟩)
         |(go_at_call 29;refine (HC1.out _ inferInstance).mono ?_;rintro e w4 ⟨B4,d4,rfl,hI4,hs4⟩)
         |(go_at_call 30;refine (HH.out _ _ _ _ hI4.out inferInstance inferInstance).mono ?_;rintro e w5 ⟨rfl,nq,rfl⟩))
        exact ⟨⟨k+1,by omega,by go_num,Lib.hid (heap_of_ext (inferInstance:Ext wr _) hbs.out),hx2q.trans inferInstance⟩,by simp [intOf]<;>omega⟩
   ·have hxwr:Ext w wo:=hxw2.trans hxr
    go_wp2_with (go_at_call 26;refine awake11_any.mono ?_;rintro e w6 ⟨rfl,hs6⟩)
    go_ret
    exact ⟨rfl,Step.of _ _⟩
end Go.Proofs.YtjehjkipcaohpaaGreat
