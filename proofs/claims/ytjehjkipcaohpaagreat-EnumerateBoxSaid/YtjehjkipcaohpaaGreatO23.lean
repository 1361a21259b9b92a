/-
  Contracts of functions of the program, joined: Ls3, Box11. No statement of the seat is proved here.
-/
import Derived.Test.YtjehjkipcaohpaaGreatO22
import Derived.Test.YtjehjkipcaohpaaGreatJ20
set_option linter.unusedVariables false
set_option linter.unusedSimpArgs false
set_option linter.constructorNameAsVariable false
namespace Go.Proofs.YtjehjkipcaohpaaGreat
open La
def rankL:List Int→Nat
 |[]=>0
 |y::t=>(3-y).toNat+7*rankL t
def nextL (ys:List Int) (k:Nat):List Int:=(List.replicate k (-3)++ys.drop k).set k (ys.getD k 0+1)
theorem next_rank (k:Nat):∀ys:List Int,(∀i,i<k→ys.getD i 0=3)→k<ys.length→ys.getD k 0<3→(∀y∈ys,y≤3)→rankL (nextL ys k)<rankL ys:=by
 induction k with
 |zero=>
  intro ys _ hk h3 _
  cases ys with
  |nil=>simp at hk
  |cons y t=>
   simp only [List.getD_cons_zero] at h3
   simp [nextL,rankL]
   omega
 |succ k ih=>
  intro ys h hk h3 hb
  cases ys with
  |nil=>simp at hk
  |cons y t=>
   have h0:=h 0 (by omega)
   simp only [List.getD_cons_zero] at h0
   subst h0
   have :=ih t (fun i hi=>by have :=h (i+1) (by omega);simpa using this) (by simpa using hk) (by simpa using h3) (fun y hy=>hb y (by simp [hy]))
   have e:nextL (3::t) (k+1)=-3::nextL t k:=by simp [nextL,List.replicate_succ]
   rw [e]
   simp only [rankL]
   omega
theorem next_len (ys:List Int) {k:Nat} (h:k≤ys.length):(nextL ys k).length=ys.length:=by simp [nextL];omega
theorem next_mem {ys:List Int} {k:Nat} (hb:∀y∈ys,-3≤y∧y≤3) (h3:ys.getD k 0<3) (hk:k<ys.length):∀y∈nextL ys k,-3≤y∧y≤3:=fun y hy=>by
 have hg:-3≤ys.getD k 0:=by
  have :ys.getD k 0=ys[k]:=by simp [List.getD,hk]
  rw [this];exact (hb _ (List.getElem_mem hk)).1
 rcases List.mem_or_eq_of_mem_set hy with hy |rfl
 ·rcases List.mem_append.1 hy with hy |hy
  ·have :=(List.mem_replicate.1 hy).2;omega
  ·exact hb y (List.mem_of_mem_drop hy)
 ·omega
theorem sumR_bd {n:Nat} {F:Nat→Int} {B:Int} (h:∀i,i<n→-B≤F i∧F i≤B):-((n:Int)*B)≤sumR n F∧sumR n F≤(n:Int)*B:=by
 induction n with
 |zero=>simp [sumR]
 |succ n ih=>
  have :=ih (fun i hi=>h i (by omega))
  have h2:=h n (by omega)
  rw [sumR_succ]
  have e:((n+1:Nat):Int)*B=(n:Int)*B+B:=by rw [Int.natCast_add,Int.add_mul];simp
  omega
theorem box_nrm {m:List (List Int)} (h:isRedB m=true) {ys:List Int} (hl:ys.length=m.length) (hb:∀y∈ys,-3≤y∧y≤3):nrm m ys≤4611686018427387904:=by
 have hR:=red_ok h
 have hn:=isSmallB_all hR.small
 have h8:=(isSmallB_len hR.small).2
 have hy:∀i,-3≤ys.getD i 0∧ys.getD i 0≤3:=fun i=>by
  rw [List.getD_eq_getElem?_getD]
  cases hh:ys[i]? with
  |none=>simp
  |some y=>exact hb y (List.mem_of_getElem? hh)
 have he:∀i j,i<m.length→j<m.length→-262144≤ent m i j∧ent m i j≤262144:=fun i j hi hj=>by
  have hr:m[i]? =some m[i]:=List.getElem?_eq_getElem hi
  have hlr:m[i].length=m.length:=hn _ (List.getElem_mem hi)
  have e:ent m i j=m[i][j]'(by omega):=ent_of hr (List.getElem?_eq_getElem (by omega))
  rw [e]
  exact (redM_of h).ent m[i] (List.getElem_mem hi) (m[i][j]'(by omega)) (List.getElem_mem _)
 rw [←ipR_nrm hn ys hl]
 unfold ipR
 have h1:∀i,i<m.length→-6291456≤(sumR m.length fun j=>ent m i j*ys.getD j 0)∧(sumR m.length fun j=>ent m i j*ys.getD j 0)≤6291456:=fun i hi=>by
  have :=sumR_bd (n:=m.length) (F:=fun j=>ent m i j*ys.getD j 0) (B:=786432) (fun j hj=>by
   have :=mul_abs_le (a:=ent m i j) (b:=ys.getD j 0) (A:=262144) (B:=3) (he i j hi hj).1 (he i j hi hj).2 (hy j).1 (hy j).2
   omega)
  have :(m.length:Int)*786432≤8*786432:=by omega
  omega
 have h2:=sumR_bd (n:=m.length) (F:=fun i=>ys.getD i 0*sumR m.length fun j=>ent m i j*ys.getD j 0) (B:=18874368) (fun i hi=>by
  have :=mul_abs_le (a:=ys.getD i 0) (b:=sumR m.length fun j=>ent m i j*ys.getD j 0) (A:=3) (B:=6291456) (hy i).1 (hy i).2 (h1 i hi).1 (h1 i hi).2
  omega)
 omega
end Go.Proofs.YtjehjkipcaohpaaGreat
namespace Go.Proofs.YtjehjkipcaohpaaGreat
open Go.RowKit
open La
theorem mkCells_row3 (w:World) (n:Nat):Row (w.alloc (.cells (mkCells #[.int .i64 0] n) 2)) w.heap.size 2 .i64 (List.replicate n 0):=by
 have h:=heap_alloc_new w (.cells (mkCells #[.int .i64 0] n) 2)
 have :(mkCells #[.int .i64 0] n)=((List.replicate n (0:Int)).map (Value.int .i64)).toArray:=by
  apply Array.ext'
  rw [mkCells_one];simp
 unfold Row
 rw [h,this]
theorem fill3_succ {q n:Nat} (h:q<n):(List.replicate q (-3:Int)++List.replicate (n-q) 0).set q (-3)=List.replicate (q+1) (-3)++List.replicate (n-(q+1)) 0:=by
 have :=set_fill (List.replicate q (-3:Int)) (n-q) (-3) (by omega)
 rw [List.length_replicate] at this
 rw [this,List.replicate_succ',show n-q-1=n-(q+1) by omega]
theorem rep_drop_succ {ys:List Int} {k:Nat} (h:k<ys.length):(List.replicate k (-3:Int)++ys.drop k).set k (-3)=List.replicate (k+1) (-3)++ys.drop (k+1):=by
 rw [List.drop_eq_getElem_cons h]
 have :((List.replicate k (-3:Int))++ys[k]::ys.drop (k+1)).set k (-3)=List.replicate k (-3)++(-3)::ys.drop (k+1):=by
  rw [List.set_append_right _ _ (by simp),List.length_replicate,Nat.sub_self,List.set_cons_zero]
 rw [this,List.replicate_succ',List.append_assoc]
 rfl
set_option maxRecDepth 4000 in
set_option maxHeartbeats 8000000 in
theorem EnumerateBox_any {w:World} {dim kind bound:Int} {NA:Option Addr} {l:List Int} {nc:Nat} {v3:Value} {te:TypeId} (hN:Ints w NA te .i8 l) (h8:I8 l) (hl:l.length≤9223372036854775807) (hd0:0≤dim) (hd1:dim<256) (hk0:0≤kind) (hk1:kind<256) (hb0:0≤bound) (hb1:bound<256):
  Calls Tryz.prog 4 #[.agg #[.int .u8 dim,.int .u8 kind,.slice NA l.length nc,v3],.int .u8 bound] w (RetVal w (.bool true)):=by
 have HG:Hid (∀W,Ext w W→Calls Tryz.prog 27 #[.agg #[.int .u8 dim,.int .u8 kind,.slice NA l.length nc,v3],.int .i64 3] W (RetLF W (1+(dim%3).toNat))):=Lib.hid (fun W e=>rForm_ok (most:=3) (hN.ext e) h8 hl hd0 hd1 hk0 hk1 (by omega) (by omega))
 have hn1:1≤1+(dim%3).toNat:=by omega
 have hn3:1+(dim%3).toNat≤3:=by omega
 clear hN h8
 generalize 1+(dim%3).toNat=n at*
 unfold RetLF at HG
 obtain ⟨b,hb⟩:∃b:Nat,bound%9=b:=⟨(bound%9).toNat,by omega⟩
 have hbt:bound.tmod 9=(b:Int):=by rw [Int.tmod_eq_emod_of_nonneg hb0,hb]
 have hb8:b≤8:=by omega
 have hbw:IntKind.i64.wrap bound=bound:=IntWalk.i64_in _ (by omega)
 have hbw2:IntKind.i64.wrap (b:Int)=(b:Int):=IntWalk.i64_in _ (by omega)
 have HV:Hid (∀(m:List (List Int)) (W0 W:World) A c,isRedB m=true→m.length=n→Mat64 W0 A m→n≤c→c≤9223372036854775807→Ext W0 W→Calls Tryz.prog 23 #[.slice A n c,.int .i64 b,.int .i64 20000] W (RetVL W m b)):=Lib.hid (fun m W0 W A c hr hmn hM h1 h2 e=>by
  have :=few_steps2 hr (b:=b) (by omega) (by omega)
  have :=Vectors_red (w:=W) (c:=c) (b:=b) (budget:=20000) hM (by omega) h2 hr (by omega) (by omega) (by omega) (by omega)
  rwa [hmn] at this)
 have hmk:=run_make_any (P:=Tryz.prog) Tryz.underlying37 infoI64 (by omega) (n:Int) (by omega) (by omega)
 clear hb
 go_enter Tryz.func4,Tryz.ntmps4
 go_upto_region 4 with (first
  |(go_at_call 27;refine (HG.out _ inferInstance).mono ?_;rintro e w1 ⟨g,m,A1,c1,rfl,-,hLL,hlen,-,hM1,hc1,hc2,hs1⟩;have hred:=hLL.red;have HM:=Lib.hid hM1;have HR:=Lib.hid hred;have HLL:=Lib.hid hLL;clear hM1 hred hLL)
  |(go_at_call 23;refine (HV.out _ _ _ _ _ HR.out hlen HM.out hc1 hc2 inferInstance).mono ?_;rintro e w2 ⟨B2,d2,L2,rfl,hM2,h21,h22,hV2,h23,hs2⟩;have HM2:=Lib.hid hM2;have HV2:=Lib.hid hV2;clear hM2 hV2))
 have HRO:Hid (RedOK m):=Lib.hid (red_ok HR.out)
 have HLN:=Lib.hid hlen
 have HRW:=Lib.hid HV2.out.rows
 obtain ⟨ln,hln⟩:∃ln,ln=L2.length:=⟨_,rfl⟩
 have HL:=Lib.hid hln
 rw [←hln] at h21 h23 ⊢
 generalize totS m b=t1 at*
 clear hln HG HV hlen
 have hx12:Ext w1 w2:=inferInstance
 have hxw2:Ext w w2:=inferInstance
 have hrow:=mkCells_row3 w2 n
 have HROW:=Lib.hid hrow
 have hnb:New w2.heap.size w2:=⟨Nat.le_refl _⟩
 clear hrow
 go_wp2_with fail
 go_loopw [11,36] (fun _ q36 wr=>∃q:Nat,q≤n∧q36= .int .i64 q∧Hid (Row wr w2.heap.size 2 .i64 (List.replicate q (-3)++List.replicate (n-q) 0))∧Ext w2 wr) (fun _ q36 _=>n-(intOf q36).toNat)
 case atStart=>exact ⟨0,by omega,rfl,Lib.hid (by simpa using HROW.out.ext inferInstance),inferInstance⟩
 case round=>
  obtain ⟨q,hq,rfl,HRr,hxq⟩:=hrel
  by_cases hltq:q<n
  ·obtain ⟨old,-,hcell⟩:=HRr.out.cell (i:=q) (by simp;omega)
   have hfr:=HRr.out.frozen q
   have hblt:=HRr.out.lt
   have HF:=Lib.hid (fill3_succ hltq)
   clear hmk
   go_wp2_with fail
   exact ⟨⟨q+1,by omega,by go_num,Lib.hid (by rw [←HF.out];exact HRr.out.set q _),inferInstance⟩,by simp [intOf]<;>omega⟩
  ·obtain rfl:q=n:=by omega
   have hR0:Row wr w2.heap.size 2 .i64 (List.replicate q (-3)):=by
    have :=HRr.out
    simpa using this
   have HR0:=Lib.hid hR0
   obtain ⟨w4,hw4⟩:∃w4,w4=wr:=⟨_,rfl⟩
   subst hw4
   clear hR0 hmk HROW HRr hltq
   go_wp2_with fail
   go_loopg [12,13,14,15,16] (rankL (List.replicate q (-3))) (fun gk _ _ _ _ _ wr=>∃ys:List Int,Hid (ys.length=q)∧Hid (∀y∈ys,-3≤y∧y≤3)∧gk=rankL ys∧Hid (Row wr w2.heap.size 2 .i64 ys)∧Ext w2 wr)
   case atStart=>exact ⟨List.replicate q (-3),Lib.hid (by simp),Lib.hid (fun y hy=>by have :=(List.mem_replicate.1 hy).2;omega),rfl,HR0,hxq⟩
   case round=>
    obtain ⟨ys,HYL,HYB,rfl,HYR,hxr⟩:=hrel
    obtain ⟨wo,hwo⟩:∃wo,wo=wr:=⟨_,rfl⟩
    subst hwo
    have hx1r:Ext w1 wo:=hx12.trans hxr
    have HN:Hid (∀W,Ext wo W→Calls Tryz.prog 28 #[.slice A1 q c1,.slice (some ⟨w2.heap.size,0,none⟩) q q] W (RetVal W (.tuple #[.int .i64 (nrm m ys),.bool true]))):=Lib.hid (fun W e=>by
     have :Ext w1 W:=hx1r.trans e
     have :=rNorm_ok (w:=W) (c:=c1) (d:=q) HM.out HLL.out HYR.out.ints (HYL.out.trans HLN.out.symm) (fun a ha=>by have :=HYB.out a ha;omega) (box_nrm HR.out (HYL.out.trans HLN.out.symm) HYB.out)
     rwa [HLN.out] at this)
    have HCN:Hid (∀W,Ext wo W→Calls Tryz.prog 29 #[.slice (some ⟨w2.heap.size,0,none⟩) q q] W (RetCan W ys)):=Lib.hid (fun W e=>by
     have :=rCanon_ok (w:=W) (c:=q) HYR.out.ints (by rw [HYL.out];omega) (fun a ha=>by have :=HYB.out a ha;omega)
     rwa [HYL.out] at this)
    have HH:Hid (∀(W0 W:World) B d,Ints W0 B 2 .i64 (canonL ys)→Ext W0 W→Ext w2 W→Calls Tryz.prog 30 #[.slice B2 ln d2,.slice B q d] W (RetQ W (.bool (decide (canonL ys∈L2))))):=Lib.hid (fun W0 W B d hI e1 e2=>by
     have :=rhas_ok (w:=W) (c:=d2) (d:=d) HM2.out hI (by rw [←HL.out];omega) (fun r hr=>by rw [HRW.out r hr,HLN.out];omega) (by rw [canonL_length,HYL.out];omega)
     rwa [←HL.out,canonL_length,HYL.out] at this)
    have HMEM:Hid (firstNZ ys≠0→nrm m ys≤b→decide (canonL ys∈L2)=true):=Lib.hid (fun h0 hle=>by
     rw [decide_eq_true_eq,HV2.out.mem,nrm_canon,canonL_length]
     exact ⟨HYL.out.trans HLN.out.symm,canon_first _ h0,hle,fun h=>by cases h⟩)
    -- what follows the look at the vector
    have main:∀W5,Ext wo W5→Row W5 w2.heap.size 2 .i64 ys:=fun W5 e=>HYR.out.ext e
    have HMAIN:=Lib.hid main
    have hcan:(firstNZ ys=0)∨(firstNZ ys≠0∧nrm m ys≤b)∨(firstNZ ys≠0∧¬nrm m ys≤b):=by
     by_cases h:firstNZ ys=0
     ·exact .inl h
     ·by_cases h2:nrm m ys≤b
      ·exact .inr (.inl ⟨h,h2⟩)
      ·exact .inr (.inr ⟨h,h2⟩)
    have HC1:Hid (firstNZ ys≠0→∀W,Ext wo W→Calls Tryz.prog 29 #[.slice (some ⟨w2.heap.size,0,none⟩) q q] W (fun e w'=>∃B d,e= .returned (.tuple #[.slice B q d,.bool true])∧Hid (Ints w' B 2 .i64 (canonL ys))∧Step W w')):=Lib.hid (fun hz0 W e=>(HCN.out W e).mono (by
     rintro e' w' (⟨h0,-⟩ |⟨-,B,d,h1,h2,-,-,h3⟩)
     ·exact absurd h0 hz0
     ·rw [HYL.out] at h1
      exact ⟨B,d,h1,Lib.hid h2,h3⟩))
    have HC0:Hid (firstNZ ys=0→∀W,Ext wo W→Calls Tryz.prog 29 #[.slice (some ⟨w2.heap.size,0,none⟩) q q] W (RetVal W (.tuple #[.slice none 0 0,.bool false]))):=Lib.hid (fun hz0 W e=>(HCN.out W e).mono (by
     rintro e' w' (⟨-,h1,h2⟩ |⟨h0,-⟩)
     ·exact ⟨h1,h2⟩
     ·exact absurd hz0 h0))
    clear main HCN
    rcases hcan with h0 |⟨h0,h1⟩ |⟨h0,h1⟩
    ·have HCC:=Lib.hid (HC0.out h0)
     clear h0 HC0 HC1 HMEM HH
     generalize nrm m ys=nz at*
     go_upto_region 16 with (first
      |(go_at_call 28;refine (HN.out _ inferInstance).mono ?_;rintro e w5 ⟨rfl,hs5⟩)
      |(go_at_call 29;refine (HCC.out _ inferInstance).mono ?_;rintro e w6 ⟨rfl,hs6⟩))
     go_wp2_with fail
     go_loopw [16] (fun s16 wr=>∃k:Nat,k≤q∧s16= .int .i64 k∧Hid (∀i,i<k→ys.getD i 0=3)∧Hid (Row wr w2.heap.size 2 .i64 (List.replicate k (-3)++ys.drop k))∧Ext w2 wr) (fun s16 _=>q-(intOf s16).toNat)
     case atStart=>exact ⟨0,by omega,rfl,Lib.hid (fun i hi=>absurd hi (by omega)),Lib.hid (by simpa using HMAIN.out _ inferInstance),hxr.trans inferInstance⟩
     case round=>
      obtain ⟨k,hk,rfl,H3,HRk,hxk⟩:=hrel
      by_cases hkq:k<q
      ·have HLD:Hid ((List.replicate k (-3:Int)++ys.drop k).length=q):=Lib.hid (by have :=HYL.out;simp;omega)
       obtain ⟨yk,hyk,hck⟩:=HRk.out.cell (i:=k) (by rw [HLD.out];exact hkq)
       have HYE:Hid (ys.getD k 0=yk):=Lib.hid (by
        rw [List.getElem?_append_right (by simp)] at hyk
        simp at hyk
        simp [List.getD,hyk])
       have hyb:=HYB.out yk (by
        have :=HYE.out
        rw [←this]
        have hkl:k<ys.length:=by rw [HYL.out];exact hkq
        have e:ys.getD k 0=ys[k]:=by simp [List.getD,hkl]
        rw [e];exact List.getElem_mem hkl)
       have hfr:=HRk.out.frozen k
       have hblt:=HRk.out.lt
       clear hyk
       by_cases h3:yk=3
       ·subst h3
        have HS:=Lib.hid (rep_drop_succ (ys:=ys) (k:=k) (by rw [HYL.out];exact hkq))
        go_wp2_with fail
        exact ⟨⟨k+1,by omega,by go_num,Lib.hid (fun i hi=>by
         rcases Nat.lt_or_ge i k with h |h
         ·exact H3.out i h
         ·obtain rfl:i=k:=by omega
          exact HYE.out),Lib.hid (by rw [←HS.out];exact HRk.out.set k _),inferInstance⟩,by simp [intOf]<;>omega⟩
       ·have e3:(yk==3)=false:=by simpa using h3
        have hyw:IntKind.i64.wrap (yk+1)=yk+1:=IntWalk.i64_in _ (by omega)
        have hkn:((k:Int)==(q:Int))=false:=by simp;omega
        have HRANK:Hid (rankL (nextL ys k)<rankL ys):=Lib.hid (next_rank k ys H3.out (by rw [HYL.out];exact hkq) (by rw [HYE.out];omega) (fun y hy=>(HYB.out y hy).2))
        have HNL:Hid ((nextL ys k).length=q):=Lib.hid (by rw [next_len ys (by rw [HYL.out];omega)];exact HYL.out)
        have HNM:Hid (∀y∈nextL ys k,-3≤y∧y≤3):=Lib.hid (next_mem HYB.out (by rw [HYE.out];omega) (by rw [HYL.out];exact hkq))
        have HNR:Hid (∀W,Row W w2.heap.size 2 .i64 (List.replicate k (-3)++ys.drop k)→Row (W.setCell ⟨w2.heap.size,k,none⟩ (.int .i64 (yk+1))) w2.heap.size 2 .i64 (nextL ys k)):=Lib.hid (fun W h=>by
         unfold nextL
         rw [HYE.out]
         exact h.set k _)
        clear h3
        go_wp2_with fail
        go_roundg (rankL (nextL ys k))
        case measure=>exact HRANK.out
        case rel=>exact ⟨nextL ys k,HNL,HNM,rfl,Lib.hid (HNR.out _ HRk.out),inferInstance⟩
      ·obtain rfl:k=q:=by omega
       have hxw:Ext w wr:=hxw2.trans hxk
       go_wp2_with (go_at_call 26;refine awake11_any.mono ?_;rintro e w6 ⟨rfl,hs6⟩)
       go_ret
       exact ⟨rfl,Step.of _ _⟩
    ·have HCC:=Lib.hid (HC1.out h0)
     have hm:=HMEM.out h0 h1
     rw [hm] at HH
     have d1:decide (nrm m ys≤b)=true:=by simpa using h1
     clear h0 h1 HC0 HC1 HMEM hm
     generalize nrm m ys=nz at*
     go_upto_region 16 with (first
      |(go_at_call 28;refine (HN.out _ inferInstance).mono ?_;rintro e w5 ⟨rfl,hs5⟩)
      |(go_at_call 29;refine (HCC.out _ inferInstance).mono ?_;rintro e w6 ⟨B6,d6,rfl,hI6,hs6⟩)
      |(go_at_call 30;refine (HH.out _ _ _ _ hI6.out inferInstance inferInstance).mono ?_;rintro e w8 ⟨rfl,nq,rfl⟩))
     go_wp2_with fail
     go_loopw [16] (fun s16 wr=>∃k:Nat,k≤q∧s16= .int .i64 k∧Hid (∀i,i<k→ys.getD i 0=3)∧Hid (Row wr w2.heap.size 2 .i64 (List.replicate k (-3)++ys.drop k))∧Ext w2 wr) (fun s16 _=>q-(intOf s16).toNat)
     case atStart=>exact ⟨0,by omega,rfl,Lib.hid (fun i hi=>absurd hi (by omega)),Lib.hid (by simpa using HMAIN.out _ inferInstance),hxr.trans inferInstance⟩
     case round=>
      obtain ⟨k,hk,rfl,H3,HRk,hxk⟩:=hrel
      by_cases hkq:k<q
      ·have HLD:Hid ((List.replicate k (-3:Int)++ys.drop k).length=q):=Lib.hid (by have :=HYL.out;simp;omega)
       obtain ⟨yk,hyk,hck⟩:=HRk.out.cell (i:=k) (by rw [HLD.out];exact hkq)
       have HYE:Hid (ys.getD k 0=yk):=Lib.hid (by
        rw [List.getElem?_append_right (by simp)] at hyk
        simp at hyk
        simp [List.getD,hyk])
       have hyb:=HYB.out yk (by
        have :=HYE.out
        rw [←this]
        have hkl:k<ys.length:=by rw [HYL.out];exact hkq
        have e:ys.getD k 0=ys[k]:=by simp [List.getD,hkl]
        rw [e];exact List.getElem_mem hkl)
       have hfr:=HRk.out.frozen k
       have hblt:=HRk.out.lt
       clear hyk
       by_cases h3:yk=3
       ·subst h3
        have HS:=Lib.hid (rep_drop_succ (ys:=ys) (k:=k) (by rw [HYL.out];exact hkq))
        go_wp2_with fail
        exact ⟨⟨k+1,by omega,by go_num,Lib.hid (fun i hi=>by
         rcases Nat.lt_or_ge i k with h |h
         ·exact H3.out i h
         ·obtain rfl:i=k:=by omega
          exact HYE.out),Lib.hid (by rw [←HS.out];exact HRk.out.set k _),inferInstance⟩,by simp [intOf]<;>omega⟩
       ·have e3:(yk==3)=false:=by simpa using h3
        have hyw:IntKind.i64.wrap (yk+1)=yk+1:=IntWalk.i64_in _ (by omega)
        have hkn:((k:Int)==(q:Int))=false:=by simp;omega
        have HRANK:Hid (rankL (nextL ys k)<rankL ys):=Lib.hid (next_rank k ys H3.out (by rw [HYL.out];exact hkq) (by rw [HYE.out];omega) (fun y hy=>(HYB.out y hy).2))
        have HNL:Hid ((nextL ys k).length=q):=Lib.hid (by rw [next_len ys (by rw [HYL.out];omega)];exact HYL.out)
        have HNM:Hid (∀y∈nextL ys k,-3≤y∧y≤3):=Lib.hid (next_mem HYB.out (by rw [HYE.out];omega) (by rw [HYL.out];exact hkq))
        have HNR:Hid (∀W,Row W w2.heap.size 2 .i64 (List.replicate k (-3)++ys.drop k)→Row (W.setCell ⟨w2.heap.size,k,none⟩ (.int .i64 (yk+1))) w2.heap.size 2 .i64 (nextL ys k)):=Lib.hid (fun W h=>by
         unfold nextL
         rw [HYE.out]
         exact h.set k _)
        clear h3
        go_wp2_with fail
        go_roundg (rankL (nextL ys k))
        case measure=>exact HRANK.out
        case rel=>exact ⟨nextL ys k,HNL,HNM,rfl,Lib.hid (HNR.out _ HRk.out),inferInstance⟩
      ·obtain rfl:k=q:=by omega
       have hxw:Ext w wr:=hxw2.trans hxk
       go_wp2_with (go_at_call 26;refine awake11_any.mono ?_;rintro e w6 ⟨rfl,hs6⟩)
       go_ret
       exact ⟨rfl,Step.of _ _⟩
    ·have HCC:=Lib.hid (HC1.out h0)
     have d1:decide (nrm m ys≤b)=false:=by simpa using h1
     clear h0 h1 HC0 HC1 HMEM HH
     generalize nrm m ys=nz at*
     go_upto_region 16 with (first
      |(go_at_call 28;refine (HN.out _ inferInstance).mono ?_;rintro e w5 ⟨rfl,hs5⟩)
      |(go_at_call 29;refine (HCC.out _ inferInstance).mono ?_;rintro e w6 ⟨B6,d6,rfl,hI6,hs6⟩))
     go_wp2_with fail
     go_loopw [16] (fun s16 wr=>∃k:Nat,k≤q∧s16= .int .i64 k∧Hid (∀i,i<k→ys.getD i 0=3)∧Hid (Row wr w2.heap.size 2 .i64 (List.replicate k (-3)++ys.drop k))∧Ext w2 wr) (fun s16 _=>q-(intOf s16).toNat)
     case atStart=>exact ⟨0,by omega,rfl,Lib.hid (fun i hi=>absurd hi (by omega)),Lib.hid (by simpa using HMAIN.out _ inferInstance),hxr.trans inferInstance⟩
     case round=>
      obtain ⟨k,hk,rfl,H3,HRk,hxk⟩:=hrel
      by_cases hkq:k<q
      ·have HLD:Hid ((List.replicate k (-3:Int)++ys.drop k).length=q):=Lib.hid (by have :=HYL.out;simp;omega)
       obtain ⟨yk,hyk,hck⟩:=HRk.out.cell (i:=k) (by rw [HLD.out];exact hkq)
       have HYE:Hid (ys.getD k 0=yk):=Lib.hid (by
        rw [List.getElem?_append_right (by simp)] at hyk
        simp at hyk
        simp [List.getD,hyk])
       have hyb:=HYB.out yk (by
        have :=HYE.out
        rw [←this]
        have hkl:k<ys.length:=by rw [HYL.out];exact hkq
        have e:ys.getD k 0=ys[k]:=by simp [List.getD,hkl]
        rw [e];exact List.getElem_mem hkl)
       have hfr:=HRk.out.frozen k
       have hblt:=HRk.out.lt
       clear hyk
       by_cases h3:yk=3
       ·subst h3
        have HS:=Lib.hid (rep_drop_succ (ys:=ys) (k:=k) (by rw [HYL.out];exact hkq))
        go_wp2_with fail
        exact ⟨⟨k+1,by omega,by go_num,Lib.hid (fun i hi=>by
         rcases Nat.lt_or_ge i k with h |h
         ·exact H3.out i h
         ·obtain rfl:i=k:=by omega
          exact HYE.out),Lib.hid (by rw [←HS.out];exact HRk.out.set k _),inferInstance⟩,by simp [intOf]<;>omega⟩
       ·have e3:(yk==3)=false:=by simpa using h3
        have hyw:IntKind.i64.wrap (yk+1)=yk+1:=IntWalk.i64_in _ (by omega)
        have hkn:((k:Int)==(q:Int))=false:=by simp;omega
        have HRANK:Hid (rankL (nextL ys k)<rankL ys):=Lib.hid (next_rank k ys H3.out (by rw [HYL.out];exact hkq) (by rw [HYE.out];omega) (fun y hy=>(HYB.out y hy).2))
        have HNL:Hid ((nextL ys k).length=q):=Lib.hid (by rw [next_len ys (by rw [HYL.out];omega)];exact HYL.out)
        have HNM:Hid (∀y∈nextL ys k,-3≤y∧y≤3):=Lib.hid (next_mem HYB.out (by rw [HYE.out];omega) (by rw [HYL.out];exact hkq))
        have HNR:Hid (∀W,Row W w2.heap.size 2 .i64 (List.replicate k (-3)++ys.drop k)→Row (W.setCell ⟨w2.heap.size,k,none⟩ (.int .i64 (yk+1))) w2.heap.size 2 .i64 (nextL ys k)):=Lib.hid (fun W h=>by
         unfold nextL
         rw [HYE.out]
         exact h.set k _)
        clear h3
        go_wp2_with fail
        go_roundg (rankL (nextL ys k))
        case measure=>exact HRANK.out
        case rel=>exact ⟨nextL ys k,HNL,HNM,rfl,Lib.hid (HNR.out _ HRk.out),inferInstance⟩
      ·obtain rfl:k=q:=by omega
       have hxw:Ext w wr:=hxw2.trans hxk
       go_wp2_with (go_at_call 26;refine awake11_any.mono ?_;rintro e w6 ⟨rfl,hs6⟩)
       go_ret
       exact ⟨rfl,Step.of _ _⟩
end Go.Proofs.YtjehjkipcaohpaaGreat
