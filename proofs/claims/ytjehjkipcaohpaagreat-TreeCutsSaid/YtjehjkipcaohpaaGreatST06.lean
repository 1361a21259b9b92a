/- Cuts12 Lat3 Cut12 -/
import Derived.Test.YtjehjkipcaohpaaGreatST05
import Derived.Test.YtjehjkipcaohpaaGreatProg
import Derived.Test.YtjehjkipcaohpaaGreatShelf
import Derived.Test.YtjehjkipcaohpaaGreatRows
set_option maxHeartbeats 8000000
set_option linter.unusedVariables false
set_option linter.unusedSimpArgs false
set_option linter.constructorNameAsVariable false
namespace Go.Proofs.YtjehjkipcaohpaaGreat
open Go.RowKit
open La
theorem IvV.take {w:World} {A:Option Addr} {C:List (Int×Int)} (h:IvV w A C) (k:Nat):IvV w A (C.take k):=by
 obtain ⟨⟨te,h1⟩,h2⟩:=h
 refine ⟨⟨te,fun h0=>?_⟩,fun p hp=>h2 p (List.mem_of_mem_take hp)⟩
 have hpre:∀(j:Nat) (u:Value),((C.take k).flatMap fun p=>[Value.int .i64 p.1,Value.int .i64 p.2])[j]? =some u->(C.flatMap fun p=>[Value.int .i64 p.1,Value.int .i64 p.2])[j]? =some u:=fun j u hu=>by
  have e:C.flatMap (fun p=>[Value.int .i64 p.1,Value.int .i64 p.2])=(C.take k).flatMap (fun p=>[Value.int .i64 p.1,Value.int .i64 p.2])++(C.drop k).flatMap (fun p=>[Value.int .i64 p.1,Value.int .i64 p.2]):=by
   rw [<-List.flatMap_append,List.take_append_drop]
  rw [e,List.getElem?_append_left (List.getElem?_eq_some_iff.1 hu).1]
  exact hu
 obtain ⟨u,hu⟩:∃u,((C.take k).flatMap fun p=>[Value.int .i64 p.1,Value.int .i64 p.2])[0]? =some u:=⟨_,List.getElem?_eq_getElem h0⟩
 obtain ⟨b,o,cs,fr,e1,e2,e3⟩:=h1 (List.getElem?_eq_some_iff.1 (hpre 0 u hu)).1
 exact ⟨b,o,cs,fr,e1,e2,fun j u hu=>e3 j u (hpre j u hu)⟩
end Go.Proofs.YtjehjkipcaohpaaGreat
namespace Go.Proofs.YtjehjkipcaohpaaGreat
open Go.ChangeShapes Go.WideShapes Go.ChangeAt Go.RowKit
structure IvO (W:World) (v:Value) where
 lo:Int
 hi:Int
 eq:v= .agg #[.int .i64 lo,.int .i64 hi]
 lob:-9223372036854775808<=lo/\lo<=9223372036854775807
 hib:-9223372036854775808<=hi/\hi<=9223372036854775807
set_option maxRecDepth 100000 in
theorem open_ivO {H:Type} {enc:TypeId×Value→H} {W:World} {r:Reach} {b0:Nat} {v:Value} {d:DataW H} {p:List MemPlace} (hv:Value.okWide Tryz.prog W r b0 64 v) (h:DataW.Trod enc Tryz.prog W 0 (fun _=>true) true 64 v d p):
  Nonempty (IvO W v)/\∀(W':World) (sp:Nat->Bool),Below W.heap.size W W'->(∀q∈p,sp q.block=true)->DataW.Trod enc Tryz.prog W' 0 sp true 64 v d p:=by
 obtain ⟨⟨lo,hi,e,h1,h2⟩,hs⟩:=open_interval hv h
 exact ⟨⟨⟨lo,hi,e,h1,h2⟩⟩,fun W' sp _ _=>hs W' sp⟩
end Go.Proofs.YtjehjkipcaohpaaGreat
namespace Go.Proofs.YtjehjkipcaohpaaGreat
open Go.RowKit
open La
theorem iv_cells_len (C:List (Int×Int)):(C.flatMap fun p=>[Value.int .i64 p.1,Value.int .i64 p.2]).length=C.length*2:=by
 induction C with
 |nil=>rfl
 |cons p C ih=>rw [List.flatMap_cons,List.length_append,ih];simp;omega
theorem arr_of_blk {W:World} {b:Nat} {lo hi:Int} (h:W.heap[b]? =some (.cells #[.int .i64 lo,.int .i64 hi] 64 (0,0))):Arr W (some ⟨b,0,none⟩) 64 [.int .i64 lo,.int .i64 hi]:=fun _=>⟨b,0,_,_,rfl,h,fun j u hu=>by
 rw [List.getElem?_toArray,Nat.zero_add];exact hu⟩
set_option maxRecDepth 20000 in
theorem TreeCuts_any {w:World} {dim kind bound lo hi:Int} {NA:Option Addr} {l:List Int} {nc:Nat} {v3:Value} {te:TypeId} (hN:Ints w NA te .i8 l) (h8:I8 l) (hl:l.length≤9223372036854775807) (hd0:0≤dim) (hd1:dim<256) (hk0:0≤kind) (hk1:kind<256) (hb0:0≤bound) (hb1:bound<256) (hlo:-9223372036854775808≤lo∧lo≤9223372036854775807) (hhi:-9223372036854775808≤hi∧hi≤9223372036854775807):
  Calls Tryz.prog 16 #[.agg #[.int .u8 dim,.int .u8 kind,.slice NA l.length nc,v3],.int .u8 bound,.agg #[.int .i64 lo,.int .i64 hi]] w (RetVal w (.bool true)):=by
 have HG:Hid (∀W,Ext w W->Calls Tryz.prog 40 #[.agg #[.int .u8 dim,.int .u8 kind,.slice NA l.length nc,v3],.int .u8 bound] W (RetSmall W (1+(dim%4).toNat) bound)):=Lib.hid (fun W e=>rsmall12_ok (hN.ext e) h8 hl hd0 hd1 hk0 hk1 hb0 hb1)
 have hn1:1<=1+(dim%4).toNat:=by omega
 have hn4:1+(dim%4).toNat<=4:=by omega
 clear hN h8
 generalize 1+(dim%4).toNat=n at*
 have e6:=Int.emod_nonneg bound (show 13-2*(n:Int)≠0 by omega)
 have e7:=Int.emod_lt_of_pos bound (show 0<13-2*(n:Int) by omega)
 unfold RetSmall at HG
 obtain ⟨b,hb⟩:∃b:Nat,bound%(13-2*(n:Int))=b:=⟨(bound%(13-2*(n:Int))).toNat,by omega⟩
 rw [hb] at HG e6 e7
 have HE:Hid (∀(m:List (List Int)) (W0 W:World) A c,isRedB m=true->m.length=n->Mat64 W0 A m->n<=c->c<=9223372036854775807->Ext W0 W->Calls Tryz.prog 45 #[.slice A n c,.int .i64 b,.int .i64 20000] W (RetTree W (tTree m b))):=Lib.hid (fun m W0 W A c hr hmn hM h1 h2 e=>by
  have :=few_steps2 hr (b:=b) (by omega) (by omega)
  have :=Emit_red (w:=W) (c:=c) (b:=b) (budget:=20000) hM (by omega) h2 hr (by omega) (by omega) (by omega)
  rwa [hmn] at this)
 have HU:Hid (∀(m:List (List Int)) (W0 W:World) A B c d (C:List (Int×Int)) k,isRedB m=true->m.length=n->Mat64 W0 A m->n<=c->c<=9223372036854775807->IvV W B C->C.length=k->k<=9000->C≠tTree m b->Ext W0 W->Calls Tryz.prog 42 #[.slice A n c,.int .i64 b,.slice B k d] W (RetVal W (.tuple #[.slice none 0 0,.int .i64 10]))):=Lib.hid (fun m W0 W A B c d C k hr hmn hM h1 h2 hI hk hk2 hne e=>by
  have :=Verify_red (w0:=W) (w:=W) (c:=c) (d:=d) (b:=b) (hM.ext e) (by omega) h2 hr (by omega) (by omega) hI (by omega)
  rw [hmn,hk] at this
  simp only [if_neg hne] at this
  exact this)
 clear hb
 go_enter Tryz.func16,Tryz.ntmps16
 go_upto_region 3 with (first
  |(go_at_call 40;refine (HG.out _ inferInstance).mono ?_;rintro e w1 ⟨g,m,A1,c1,rfl,-,hLL,hln,-,hM1,hc1,hc2,hs1⟩;have hred:=hLL.red;have HM:=Lib.hid hM1;have HR:=Lib.hid hred;have ht1:=tTree_few hred (b:=b) (by omega) (by omega);have ht0:=tTree_ne m b;clear hM1 hred hLL)
  |(go_at_call 45;refine (HE.out _ _ _ _ _ HR.out hln HM.out hc1 hc2 inferInstance).mono ?_;rintro e w2 ⟨B2,d2,rfl,hI2,h21,h22,hs2⟩;have HI2:=Lib.hid hI2;clear hI2))
 obtain ⟨C,hC⟩:∃C,C=tTree m b:=⟨_,rfl⟩
 have hU:=fun W0 W A B c d C' k h1 h2 h3 h4 h5 h6 h7 h8 h9 h10=>HU.out m W0 W A B c d C' k h1 h2 h3 h4 h5 h6 h7 h8 h9 h10
 rw [<-hC] at HI2 ht1 ht0 h21 hU |-
 obtain ⟨tl,htl⟩:∃tl,C.length=tl:=⟨_,rfl⟩
 rw [htl] at ht1 ht0 h21 |-
 obtain ⟨q,hq⟩:∃q,tl=q+1:=⟨tl-1,by omega⟩
 have hw:IntKind.i64.wrap ((tl:Int)-1)=(q:Int):=by rw [show (tl:Int)-1=(q:Int) by omega];exact IntWalk.i64_in _ (by omega)
 have hz:((tl:Int)==0)=false:=by simp;omega
 have HU1:Hid (∀W,Ext w2 W->Calls Tryz.prog 42 #[.slice A1 n c1,.int .i64 b,.slice B2 q d2] W (RetVal W (.tuple #[.slice none 0 0,.int .i64 10]))):=Lib.hid (fun W e=>hU w1 W A1 B2 c1 d2 (C.take q) q HR.out hln HM.out hc1 hc2 ((HI2.out.toV.ext e).take q) (by rw [List.length_take];omega) (by omega) (fun h=>by have :=congrArg List.length h;rw [List.length_take] at this;omega) ((inferInstance:Ext w1 w2).trans e))
 have HU2:Hid (∀W B d,IvV W B (C++[(lo,hi)])->Ext w2 W->Calls Tryz.prog 42 #[.slice A1 n c1,.int .i64 b,.slice B (tl+1) d] W (RetVal W (.tuple #[.slice none 0 0,.int .i64 10]))):=Lib.hid (fun W B d hI e=>hU w1 W A1 B c1 d (C++[(lo,hi)]) (tl+1) HR.out hln HM.out hc1 hc2 hI (by simp [htl]) (by omega) (fun h=>by have :=congrArg List.length h;simp at this) ((inferInstance:Ext w1 w2).trans e))
 have HTL:=Lib.hid htl
 have hq1:q<=d2:=by omega
 have hq2:(q:Int)<=(d2:Int):=by omega
 clear htl hq hC HU hU HE HG
 go_wp2_with (go_at_call 42;refine (HU1.out _ inferInstance).mono ?_;rintro e w3 ⟨rfl,hs3⟩)
 obtain ⟨cells,hcells⟩:∃cells,cells=C.flatMap fun p=>[Value.int .i64 p.1,Value.int .i64 p.2]:=⟨_,rfl⟩
 have HCE:=Lib.hid hcells
 have hclen:cells.length=tl*2:=by rw [hcells,<-HTL.out];exact iv_cells_len C
 have hcone:∀u∈cells,u.oneCell'=true:=by
  intro u hu
  rw [hcells] at hu
  obtain ⟨p,-,hp⟩:=List.mem_flatMap.1 hu
  rcases List.mem_cons.1 hp with rfl |hp
  ·rfl
  ·obtain rfl:=List.mem_singleton.1 hp;rfl
 have hsrc:Arr w2 B2 64 cells:=by rw [hcells];exact HI2.out.1
 obtain ⟨b2,o2,hB2⟩:∃b2 o2,B2=some ⟨b2,o2,none⟩:=by
  obtain ⟨b,o,_,_,hb,_⟩:=hsrc (by omega)
  exact ⟨b,o,hb⟩
 subst hB2
 have HSRC:Hid (∀W,Ext w2 W->Arr W (some ⟨b2,o2,none⟩) 64 cells):=Lib.hid (fun W e=>hsrc.ext e)
 have HCL:=Lib.hid hclen
 have HCO:=Lib.hid hcone
 have HBD:Hid (∀p∈C++[(lo,hi)],-9223372036854775808<=p.1/\p.1<=9223372036854775807/\-9223372036854775808<=p.2/\p.2<=9223372036854775807):=Lib.hid (fun p hp=>by
  rcases List.mem_append.1 hp with hp |hp
  ·exact HI2.out.2 p hp
  ·obtain rfl:=List.mem_singleton.1 hp
   exact ⟨hlo.1,hlo.2,hhi.1,hhi.2⟩)
 have HIV:Hid (∀W A,Arr W A 64 (cells++[Value.int .i64 lo,Value.int .i64 hi])->IvV W A (C++[(lo,hi)])):=Lib.hid (fun W A h=>⟨⟨_,by rw [HCE.out] at h;simpa using h⟩,HBD.out⟩)
 have HO1:Hid (∀W,Ext (w3.alloc (.cells #[] 64)) W->Own W w3.heap.size 64 2 (some ⟨w3.heap.size,0,none⟩) 0 0 []):=Lib.hid (fun W e=>(Own.new w3 64 2 0 #[] rfl (by omega)).ext e)
 have HO2:Hid (∀W,Ext ((w3.alloc (.cells #[.int .i64 lo,.int .i64 hi] 64)).alloc (.cells #[] 64)) W->Own W (w3.heap.size+1) 64 2 (some ⟨w3.heap.size+1,0,none⟩) 0 0 []):=Lib.hid (fun W e=>by
  have :=(Own.new (w3.alloc (.cells #[.int .i64 lo,.int .i64 hi] 64)) 64 2 0 #[] rfl (by omega)).ext e
  rwa [World.size_alloc] at this)
 have hbx:=(inferInstance:BlkAt (w.heap.size+1) #[.int .i64 lo,.int .i64 hi] 64 w3).eq
 have HBX:Hid (∀W,Ext w3 W->W.cell? ⟨w.heap.size+1,0,none⟩=some (.int .i64 lo)/\W.cell? ⟨w.heap.size+1,1,none⟩=some (.int .i64 hi)):=Lib.hid (fun W e=>by
  obtain ⟨a1,a2,-⟩:=box_cells2 (heap_of_ext e hbx)
  exact ⟨a1,a2⟩)
 obtain ⟨r01,r02⟩:=HBX.out w3 (Ext.refl _)
 have ob3:Old (w.heap.size+1) w3:=⟨lt_of_heap hbx⟩
 have hx23:Ext w2 w3:=inferInstance
 have hx02:Ext w w2:=inferInstance
 clear hcells hclen hcone hsrc hs1 hbx
 go_region_law (first
  |((refine step_appx _ rfl (.tmp 48) (.tmp 49) 58 rfl (w3.heap.size) 64 (.agg #[.int .i64 0,.int .i64 0]) 2 16 Tryz.underlying58 infoIv rfl (by decide) (by decide) (some ⟨w3.heap.size,0,none⟩) 0 0 [] (by simp [Act.eval];done) (by exact HO1.out _ inferInstance) ⟨b2,o2,none⟩ tl d2 cells (by simp [Act.eval];done) (by exact HSRC.out _ inferInstance) HCL.out HCO.out (by omega) (by simp<;>omega) ?_);intro A4 c4 w4 hown4 hg4 hgr4;have hx4:Ext w3 w4:=hg4.ext inferInstance (by omega);obtain ⟨r1,r2⟩:=HBX.out w4 hx4;have HSZ:Hid (w3.heap.size+1<=w4.heap.size):=Lib.hid (by have :=hg4.below.size;simp at this;omega);have HOW:Hid (Own w4 (w3.heap.size) 64 2 A4 tl c4 cells):=Lib.hid (by simpa using hown4);have HGR:=Lib.hid hgr4;clear hown4 hg4 hgr4)
  |((refine step_appx _ rfl (.tmp 48) (.tmp 49) 58 rfl (w3.heap.size+1) 64 (.agg #[.int .i64 0,.int .i64 0]) 2 16 Tryz.underlying58 infoIv rfl (by decide) (by decide) (some ⟨w3.heap.size+1,0,none⟩) 0 0 [] (by simp [Act.eval];done) (by exact HO2.out _ inferInstance) ⟨b2,o2,none⟩ tl d2 cells (by simp [Act.eval];done) (by exact HSRC.out _ inferInstance) HCL.out HCO.out (by omega) (by simp<;>omega) ?_);intro A4 c4 w4 hown4 hg4 hgr4;have hx4:Ext w3 w4:=hg4.ext inferInstance (by omega);obtain ⟨r1,r2⟩:=HBX.out w4 hx4;have HSZ:Hid (w3.heap.size+1<=w4.heap.size):=Lib.hid (by have :=hg4.below.size;simp at this;omega);have HOW:Hid (Own w4 (w3.heap.size+1) 64 2 A4 tl c4 cells):=Lib.hid (by simpa using hown4);have HGR:=Lib.hid hgr4;clear hown4 hg4 hgr4)
  |((refine step_app _ rfl (.tmp 50) (.tmp 52) 58 rfl _ 64 (.agg #[.int .i64 0,.int .i64 0]) 2 16 Tryz.underlying58 infoIv rfl (by decide) (by decide) A4 tl c4 cells (by simp [Act.eval];done) (by first |exact HOW.out |exact HOW.out.ext inferInstance) (some ⟨w4.heap.size,0,none⟩) 1 1 [.int .i64 lo,.int .i64 hi] (by simp [Act.eval];done) (by exact (Arr.new w4 64 #[.int .i64 lo,.int .i64 hi]).ext inferInstance) rfl (by simp [Value.oneCell']) (by omega) (by have :=hx4.size;have :=HSZ.out;first |omega |(rw [World.size_alloc];omega)) ?_);intro A5 c5 w5 hown5 hg5;have hx5:Ext w3 w5:=hg5.ext inferInstance (by omega);have hx25:Ext w2 w5:=hx23.trans hx5;have hx05:Ext w w5:=hx02.trans hx25;have HA5:=Lib.hid (HIV.out w5 A5 hown5.arr);clear hown5 hg5)
  |((refine step_app _ rfl (.tmp 50) (.tmp 52) 58 rfl _ 64 (.agg #[.int .i64 0,.int .i64 0]) 2 16 Tryz.underlying58 infoIv rfl (by decide) (by decide) A4 tl c4 cells (by simp [Act.eval];done) (by first |exact HOW.out |exact HOW.out.ext inferInstance) (some ⟨w3.heap.size+1,0,none⟩) 1 1 [.int .i64 lo,.int .i64 hi] (by simp [Act.eval];done) (by exact arr_of_blk (W:=w4) ((HGR.out.block (w3.heap.size+1) (by simp<;>omega) (by intro a ha;injection ha with ha;subst ha;simp)).trans BlkAt.eq)) rfl (by simp [Value.oneCell']) (by omega) (by have :=hx4.size;have :=HSZ.out;first |omega |(rw [World.size_alloc];omega)) ?_);intro A5 c5 w5 hown5 hg5;have hx5:Ext w3 w5:=hg5.ext inferInstance (by omega);have hx25:Ext w2 w5:=hx23.trans hx5;have hx05:Ext w w5:=hx02.trans hx25;have HA5:=Lib.hid (HIV.out w5 A5 hown5.arr);clear hown5 hg5)
  |((refine step_app _ rfl (.tmp 50) (.tmp 52) 58 rfl _ 64 (.agg #[.int .i64 0,.int .i64 0]) 2 16 Tryz.underlying58 infoIv rfl (by decide) (by decide) A4 tl c4 cells (by simp [Act.eval];done) (by first |exact HOW.out |exact HOW.out.ext inferInstance) (some ⟨w3.heap.size,0,none⟩) 1 1 [.int .i64 lo,.int .i64 hi] (by simp [Act.eval];done) (by exact arr_of_blk (W:=w4) ((HGR.out.block (w3.heap.size) (by simp<;>omega) (by intro a ha;injection ha with ha;subst ha;simp)).trans BlkAt.eq)) rfl (by simp [Value.oneCell']) (by omega) (by have :=hx4.size;have :=HSZ.out;first |omega |(rw [World.size_alloc];omega)) ?_);intro A5 c5 w5 hown5 hg5;have hx5:Ext w3 w5:=hg5.ext inferInstance (by omega);have hx25:Ext w2 w5:=hx23.trans hx5;have hx05:Ext w w5:=hx02.trans hx25;have HA5:=Lib.hid (HIV.out w5 A5 hown5.arr);clear hown5 hg5)
  |(go_simp;go_at_call 42;refine (HU2.out _ _ _ HA5.out inferInstance).mono ?_;rintro e w6 ⟨rfl,hs6⟩))
 all_goals
  go_wp2_with (go_at_call 43;refine awake12_any.mono ?_;rintro e w7 ⟨rfl,hs7⟩)
  go_ret
  exact ⟨rfl,Step.of _ _⟩
end Go.Proofs.YtjehjkipcaohpaaGreat
