/- Fp2 Fp3 Fp5 Fp6 Fp9 Lat6 Pf4 -/
import Derived.Test.YtpcgfpmiphiacaaGreatProg
import Derived.Test.YtpcgfpmiphiacaaGreatShelf
import Derived.Test.YtpcgfpmiphiacaaGreatQ15
import Derived.Test.YtpcgfpmiphiacaaGreatRows
import Derived.Test.YtpcgfpmiphiacaaGreatShelfC
import Derived.Deep.Slices
set_option maxHeartbeats 8000000
set_option linter.unusedVariables false
set_option linter.unusedSimpArgs false
set_option linter.constructorNameAsVariable false
namespace Go.Proofs.YtpcgfpmiphiacaaGreat
open Go.RowKit
theorem wrap_add_r (a b:Int):IntKind.i64.wrap (a+IntKind.i64.wrap b)=IntKind.i64.wrap (a+b):=by simp only [IntKind.wrap_i64];omega
theorem wrap_add_l (a b:Int):IntKind.i64.wrap (IntKind.i64.wrap a+b)=IntKind.i64.wrap (a+b):=by simp only [IntKind.wrap_i64];omega
theorem w64 (n:Int):wrap64 n=IntKind.i64.wrap n:=by
 simp only [wrap64,IntKind.wrap_i64]<;>omega
theorem dotL_cut:∀x y:List Int,dotL x (y.take x.length)=dotL x y
 |[],y=>by rw [dotL_nil,dotL_nil]
 |a::x,[]=>rfl
 |a::x,b::y=>by
  simp only [List.length_cons,List.take_succ_cons,dotL]
  rw [dotL_cut x y]
def dotW (x y:List Int):Int:=IntKind.i64.wrap (dotL x y)
def applyW (m:List (List Int)) (x:List Int):List Int:=m.map fun r=>dotW r x
theorem fill_set (Y:List Int) (q n:Nat) (v:Int) (h:Y[q]? =some v) (hq:q<n):(Y.take q++List.replicate (n-q) 0).set q v=Y.take (q+1)++List.replicate (n-(q+1)) 0:=by
 have hl:(Y.take q).length=q:=by
  have :=(List.getElem?_eq_some_iff.1 h).1
  simp;omega
 have e:List.replicate (n-q) (0:Int)=0::List.replicate (n-(q+1)) 0:=by rw [<-List.replicate_succ];congr 1;omega
 rw [List.set_append_right _ _ (by omega),hl,Nat.sub_self,e,List.set_cons_zero,List.take_add_one,h]
 simp
def GrowD (w w':World):Prop:=∃q os,w'=Sort.grow (w.drewN q) os
theorem GrowD.refl (w:World):GrowD w w:=⟨0,#[],by simp [Sort.grow,World.drewN]⟩
theorem GrowD.trans {a b c:World} (h:GrowD a b) (h':GrowD b c):GrowD a c:=by
 obtain ⟨q,os,rfl⟩:=h
 obtain ⟨q',os',rfl⟩:=h'
 refine ⟨q+q',os++os',?_⟩
 rw [<-World.drewN_drewN,<-Sort.grow_grow]
 rfl
theorem GrowD.ext {w w':World} (h:GrowD w w'):Ext w w':=by
 have :=step_of_grow h
 infer_instance
theorem wrap_shift (a t:Int):IntKind.i64.wrap (a+18446744073709551616*t)=IntKind.i64.wrap a:=by simp only [IntKind.wrap_i64];omega
theorem wrap_mul_l (a b:Int):IntKind.i64.wrap (IntKind.i64.wrap a*b)=IntKind.i64.wrap (a*b):=by
 obtain ⟨t,ht⟩:∃t,IntKind.i64.wrap a=a+18446744073709551616*t:=⟨-((a+9223372036854775808) / 18446744073709551616),by simp only [IntKind.wrap_i64];omega⟩
 rw [ht,Int.add_mul,Int.mul_assoc,wrap_shift]
theorem dotW_map:∀l x:List Int,dotW (l.map IntKind.i64.wrap) x=dotW l x
 |[],x=>rfl
 |a::l,[]=>rfl
 |a::l,b::x=>by
  have ih:=dotW_map l x
  unfold dotW at*
  simp only [List.map_cons,dotL]
  have h1:∀s t:Int,IntKind.i64.wrap (s+t)=IntKind.i64.wrap (s+IntKind.i64.wrap t):=fun s t=>(wrap_add_r s t).symm
  rw [h1,ih,<-h1,<-wrap_add_l,wrap_mul_l,wrap_add_l]
theorem applyW_eq (m:List (List Int)) (x:List Int):applyW m x=(applyL m x).map IntKind.i64.wrap:=by
 unfold applyW applyL
 rw [List.map_map];rfl
theorem dotW_apply (m:List (List Int)) (y x:List Int):dotW (applyW m y) x=dotW (applyL m y) x:=by rw [applyW_eq,dotW_map]
theorem dotW_norm {m:List (List Int)} {y:List Int} (h:-9223372036854775808<=nrm m y/\nrm m y<=9223372036854775807):dotW (applyW m y) y=nrm m y:=by
 rw [dotW_apply]
 unfold dotW
 rw [dotL_comm]
 exact IntWalk.i64_in _ h
structure SysV (w:World) (m L:List (List Int)) (LA NA DA:Option Addr):Prop where
 list:Mat64 w LA L
 norms:Ints w NA 2 .i64 (L.map (nrm m))
 duals:Mat64 w DA (L.map (applyW m))
theorem SysV.ext {w w':World} {m L:List (List Int)} {LA NA DA:Option Addr} (h:SysV w m L LA NA DA) (hx:Ext w w'):SysV w' m L LA NA DA:=⟨h.list.ext hx,h.norms.ext hx,h.duals.ext hx⟩
structure Fm (mb:Nat) (w w':World):Prop where
 os:w'.os=w.os
 tape:w'.tape=w.tape
 output:w'.output=w.output
 size:w.heap.size<=w'.heap.size
 block:∀b,b<w.heap.size->b≠mb->w'.heap[b]? =w.heap[b]?
theorem Fm.refl (mb:Nat) (w:World):Fm mb w w:=⟨rfl,rfl,rfl,Nat.le_refl _,fun _ _ _=>rfl⟩
theorem Fm.trans {mb:Nat} {a b c:World} (h:Fm mb a b) (h':Fm mb b c):Fm mb a c:=
 ⟨h'.os.trans h.os,h'.tape.trans h.tape,h'.output.trans h.output,Nat.le_trans h.size h'.size,fun k hk hn=>(h'.block k (Nat.lt_of_lt_of_le hk h.size) hn).trans (h.block k hk hn)⟩
theorem Fm.new {mb:Nat} {w wr w':World} (h:Fm mb w wr) (hb:Below w.heap.size wr w'):Fm mb w w':=
 ⟨hb.os.trans h.os,hb.tape.trans h.tape,hb.output.trans h.output,Nat.le_trans h.size hb.size,fun b hk hn=>(hb.block b hk).trans (h.block b hk hn)⟩
theorem MapC.not_cells {w:World} {b n:Nat} {L:List Kc} (h:MapC w b n L) {cs:Array Value} {T:TypeId} {fr:Nat×Nat}:w.heap[b]?≠some (.cells cs T fr):=by
 obtain ⟨D,⟨es,c,h1,-⟩,-⟩:=h
 rw [h1]
 intro e
 cases e
theorem Fm.cells {mb n:Nat} {w w':World} {L:List Kc} (h:Fm mb w w') (hm:MapC w mb n L) {b:Nat} {cs:Array Value} {T:TypeId} {fr:Nat×Nat} (hb:w.heap[b]? =some (.cells cs T fr)):w'.heap[b]? =some (.cells cs T fr):=
 (h.block b (lt_of_heap hb) (fun e=>hm.not_cells (by rw [<-e];exact hb))).trans hb
theorem Fm.own {mb n:Nat} {w w':World} {L:List Kc} (h:Fm mb w w') (hm:MapC w mb n L) {base size k c:Nat} {A:Option Addr} {T:TypeId} {vs:List Value} (ho:Own w base T size A k c vs):Own w' base T size A k c vs:=by
 refine ⟨ho.1,?_⟩
 rcases ho.2 with hv |⟨g,cap,cur,hv,h1,h2,h3⟩
 ·exact .inl hv
 ·exact .inr ⟨g,cap,cur,hv,h1,h.cells hm h2,h3⟩
theorem MapC.grow {w w':World} {mb n base:Nat} {T:TypeId} {L:List Kc} (h:MapC w mb n L) (hg:Grow base T w w'):MapC w' mb n L:=by
 have hb:=hg.typed mb h.lt (fun _ _=>h.not_cells)
 obtain ⟨D,⟨es,c,h1,h2⟩,h3⟩:=h
 exact ⟨D,⟨es,c,hb.trans h1,h2⟩,h3⟩
theorem RngC.iter {w:World} {b r n cnt:Nat} {L ks:List Kc} (h:RngC w b r n L ks cnt) {cs:Array Value} {T:TypeId} {fr:Nat×Nat}:w.heap[r]?≠some (.cells cs T fr):=by
 obtain ⟨D,left,⟨es,clock,since,seen,c0,-,-,-,-,h5,-⟩,-⟩:=h
 rw [h5]
 intro e
 cases e
theorem RngC.grow {w w':World} {b r n cnt base:Nat} {T:TypeId} {L ks:List Kc} (h:RngC w b r n L ks cnt) (hg:Grow base T w w'):RngC w' b r n L ks cnt:=
 h.kept (hg.typed b h.map.lt (fun _ _=>h.map.not_cells)) (hg.typed r h.lt.1 (fun _ _=>h.iter))
theorem RngC.ext {w w':World} {b r n cnt:Nat} {L ks:List Kc} (h:RngC w b r n L ks cnt) (hx:Ext w w'):RngC w' b r n L ks cnt:=
 h.kept (hx.below.block b h.map.lt) (hx.below.block r h.lt.1)
/-! ## slices.SortFunc at counts -/
instance:Inhabited Ct:=⟨((0,0),0)⟩
theorem vValid_any {w0 w:World} {A X:Option Addr} {c d:Nat} {m:List (List Int)} {x:List Int} (hM:MatA w0 A m) (hlen:m.length<=1099511627776) (hc:m.length<=c) (hc2:c<=9223372036854775807) (hr:isRedB m=true) (hX:Ints w0 X 2 .i64 x) (hl:x.length<=1099511627776) [hx:Ext w0 w]:
  Calls Tryz.prog 102 #[.slice A m.length c,.slice X x.length d] w (RetVal w (.bool (fitsB m.length x))):=by
 have hred:=fun W (e:Ext w0 W)=>IsReduced_any (w:=W) hM hlen hc hc2
 rw [hr] at hred
 have HR:=Lib.hid hred
 have HF:=Lib.hid (fun W (e:Ext w0 W)=>fits_any (w:=W) (c:=d) (n:=m.length) hX hl)
 clear hred hM hX hr
 generalize fitsB m.length x=r at*
 generalize x.length=xl at*
 go_enter Tryz.func102,Tryz.ntmps102
 go_wp2_with (first
  |(go_at_call 100;refine (HR.out _ inferInstance).mono ?_;rintro e w1 ⟨rfl,hs1⟩)
  |(go_at_call 132;refine (HF.out _ inferInstance).mono ?_;rintro e w2 ⟨rfl,rfl⟩))
 go_ret
 exact ⟨rfl,Step.of _ _⟩
theorem vNorm_ok {w0 w:World} {A X:Option Addr} {c d:Nat} {m:List (List Int)} {x:List Int} (hM:MatA w0 A m) (hc:m.length<=c) (hc2:c<=9223372036854775807) (hR:RedM m) (hX:Ints w0 X 2 .i64 x) (hxl:x.length=m.length) (hb:∀y∈x,-1099511627776<=y/\y<=1099511627776) [hx:Ext w0 w]:
  Calls Tryz.prog 51 #[.slice A m.length c,.slice X x.length d] w (RetVal w (.tuple #[.int .i64 (if dotB (nrm m x) then nrm m x else 0),.bool (dotB (nrm m x))])):=by
 obtain ⟨u,hu⟩:∃u,u=(if dotB (nrm m x)=true then nrm m x else 0):=⟨_,rfl⟩
 obtain ⟨r,hr'⟩:∃r,r=dotB (nrm m x):=⟨_,rfl⟩
 rw [<-hu,<-hr']
 have h8:=hR.n8
 have hfit:fitsB m.length x=true:=by
  rw [fitsB_eq hxl]
  exact inRangeB_iff.2 hb
 have hv:=fun W (e:Ext w0 W)=>vValid_any (w:=W) (c:=c) (d:=d) hM (by omega) hc hc2 hR.red hX (by omega)
 have hf:=fun W (e:Ext w0 W)=>fits_any (w:=W) (c:=d) (n:=m.length) hX (by omega)
 rw [hfit] at hv hf
 have HV:=Lib.hid hv
 have HF:=Lib.hid hf
 have HA:=Lib.hid (fun W (e:Ext w0 W)=>apply_any (w:=W) (c:=c) (d:=d) hM hX hR.all hxl h8 hR.ent hb)
 have HD:Hid (∀W Y dy,Ext w0 W->Ints W Y 2 .i64 (applyL m x)->Calls Tryz.prog 133 #[.slice X x.length d,.slice Y (applyL m x).length dy] W (RetVal W (.tuple #[.int .i64 u,.bool r]))):=Lib.hid (fun W Y dy e hY=>by
  have h:=dot_any (w0:=W) (w:=W) (c:=d) (d:=dy) (hX.ext e) hY (by rw [applyL_length,hxl]) (by omega) hb (fun z hz=>by
   obtain ⟨r,hr,rfl⟩:=List.mem_map.1 hz
   have hb:=dotL_bound (A:=262144) (B:=1099511627776) (by omega) (by omega) r x (hR.ent r hr) hb
   have hrl:=hR.all r hr
   omega)
  rw [applyL_length,<-hxl]
  exact h.mono fun e w' ⟨he,hs⟩=>⟨by rw [he,hu,hr'];rfl,hs⟩)
 unfold RetClone at HA
 clear hu hr'
 obtain ⟨al,hal⟩:∃al,(applyL m x).length=al:=⟨_,rfl⟩
 rw [hal] at HA HD
 generalize applyL m x=Y at*
 clear hv hf hfit hM hX hR hb hal
 rw [hxl] at*
 generalize m.length=n at*
 have HI:Hid (∀W,Ext w0 W->Calls Tryz.prog 99 #[.slice A n c,.slice X n d,.slice X n d] W (RetVal W (.tuple #[.int .i64 u,.bool r]))):=Lib.hid (fun W e=>by
  go_enter Tryz.func99,Tryz.ntmps99
  go_wp2_with (first
   |(go_at_call 102;refine (HV.out _ inferInstance).mono ?_;rintro e w1 ⟨rfl,hs1⟩)
   |(go_at_call 132;refine (HF.out _ inferInstance).mono ?_;rintro e w2 ⟨rfl,rfl⟩)
   |(go_at_call 134;refine (HA.out _ inferInstance).mono ?_;rintro e w3 ⟨B3,d3,rfl,hI3,-,-,hs3⟩)
   |(go_at_call 133;refine (HD.out _ _ _ inferInstance hI3).mono ?_;rintro e w4 ⟨rfl,hs4⟩))
  go_ret2
  exact ⟨rfl,Step.of _ _⟩)
 clear HV HF HA HD
 go_enter Tryz.func51,Tryz.ntmps51
 go_wp2_with (go_at_call 99;refine (HI.out _ inferInstance).mono ?_;rintro e w1 ⟨rfl,hs1⟩)
 go_ret2
 exact ⟨rfl,Step.of _ _⟩
end Go.Proofs.YtpcgfpmiphiacaaGreat
namespace Go.Proofs.YtpcgfpmiphiacaaGreat
open Go.ChangeShapes Go.WideShapes Go.ChangeAt Go.RowKit Go.Joins Go.Deep
structure I8A (W:World) (v:Value) where
 A:Option Addr
 l:List Int
 c:Nat
 te:TypeId
 eq:v= .slice A l.length c
 ints:Ints W A te .i8 l
 i8:I8 l
 len:l.length<=9223372036854775807
set_option maxRecDepth 100000 in
theorem open_i8A {H:Type} {enc:TypeId×Value->H} {W:World} {r:Reach} {b0:Nat} {v:Value} {d:DataW H} {p:List MemPlace} (hv:Value.okWide Tryz.prog W r b0 22 v) (h:DataW.Trod enc Tryz.prog W 0 (fun _=>true) true 22 v d p):
  Nonempty (I8A W v)/\∀(W':World) (sp:Nat->Bool),Below W.heap.size W W'->(∀q∈p,sp q.block=true)->DataW.Trod enc Tryz.prog W' 0 sp true 22 v d p:=by
 obtain ⟨A0,l0,c0,rfl⟩:=okWide_slice Tryz.underlying22 hv
 have h':=h
 obtain ⟨n,hn⟩:=h'
 have hn2:DataW.trod enc Tryz.prog W 0 (fun _=>true) true n 22 [.slice A0 l0 c0]=some (d,p):=by simpa [Value.cells] using hn
 obtain ⟨A,c,l,te,e,h1,h2,h3,h4⟩:=ints_open Tryz.underlying22 Tryz.underlying175 (by kernel_rfl) hn2
 exact ⟨⟨⟨A,l,c,te,e,h3,i8_wf h4,by omega⟩⟩,fun W' sp hb hs=>arg_stay c_laid (by kernel_rfl) (of_decide_eq_true (by kernel_rfl)) h hb hs⟩
end Go.Proofs.YtpcgfpmiphiacaaGreat
namespace Go.Proofs.YtpcgfpmiphiacaaGreat
open La
theorem sumR_swap (n k:Nat) (F:Nat->Nat->Int):(sumR n fun i=>sumR k fun j=>F i j)=sumR k fun j=>sumR n fun i=>F i j:=by
 induction n with
 |zero=>
  exact (sumR_zero fun _ _=>rfl).symm
 |succ n ih=>rw [sumR_succ,ih,<-sumR_add];exact sumR_congr fun j _=>(sumR_succ n _).symm
theorem ipR_comm {m:List (List Int)} (hs:∀i j,i<m.length->j<m.length->ent m i j=ent m j i) (x y:List Int):ipR m x y=ipR m y x:=by
 unfold ipR
 have h1:∀u v:List Int,(sumR m.length fun i=>u.getD i 0*sumR m.length fun j=>ent m i j*v.getD j 0)=sumR m.length fun i=>sumR m.length fun j=>u.getD i 0*(ent m i j*v.getD j 0):=fun u v=>sumR_congr fun i _=>(sumR_mul _ _ _).symm
 rw [h1,h1,sumR_swap]
 refine sumR_congr fun i hi=>sumR_congr fun j hj=>?_
 grind
theorem ipR_dot {m:List (List Int)} (hn:AllLen m m.length) {x y:List Int} (hx:x.length=m.length) (hy:y.length=m.length):ipR m x y=dotL (applyL m y) x:=by
 have h:=sumZ_dot (fun i=>(applyL m y).getD i 0) x 0 (applyL m y) (by rw [applyL_length,hx]) (fun i _=>by grind)
 rw [h,sumZ_sumR,hx]
 refine sumR_congr fun i hi=>?_
 have e:(applyL m y).getD i 0=dotL (m.getD i []) y:=by simp [applyL,hi]
 rw [Nat.zero_add,e,row_ent hn hi y hy,sumZ_sumR,hy,Int.mul_comm]
 grind
theorem ip_half {m:List (List Int)} (hr:RedOK m) {x y:List Int} (hx:x.length=m.length) (hy:y.length=m.length):-(nrm m x+nrm m y)<=2*dotL (applyL m y) x/\2*dotL (applyL m y) x<=nrm m x+nrm m y:=by
 have hall:=isSmallB_all hr.small
 have p1:=nrm_sum hall x y 1 hx hy
 have p2:=nrm_sum hall x y (-1) hx hy
 have q1:=nrm_nonneg hr (sumV x 1 y) (by rw [sumV_len,hx])
 have q2:=nrm_nonneg hr (sumV x (-1) y) (by rw [sumV_len,hx])
 have hc:crossV m x y=2*dotL (applyL m y) x:=by
  have h1:crossV m x y=ipR m x y+ipR m y x:=sumR_add _ _ _
  rw [h1,ipR_comm (fun i j hi hj=>((of_decide_eq_true hr.small).2.2.2 i hi j hj).1) y x,ipR_dot hall hx hy]
  omega
 omega
end Go.Proofs.YtpcgfpmiphiacaaGreat
