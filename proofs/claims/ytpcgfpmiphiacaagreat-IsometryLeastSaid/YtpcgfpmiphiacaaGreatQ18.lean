/- Io5 Io6 Io7 Is4 Is5 -/
import Derived.Test.YtpcgfpmiphiacaaGreatQ17
import Derived.Test.YtpcgfpmiphiacaaGreatProg
import Derived.Test.YtpcgfpmiphiacaaGreatShelf
import Derived.Test.YtpcgfpmiphiacaaGreatRows
import Derived.Test.YtpcgfpmiphiacaaGreatShelfC
import Derived.Test.YtpcgfpmiphiacaaGreatShelfI
set_option maxHeartbeats 8000000
set_option linter.unusedVariables false
set_option linter.unusedSimpArgs false
set_option linter.constructorNameAsVariable false
namespace Go.Proofs.YtpcgfpmiphiacaaGreat
open Go.RowKit La
theorem wU_add (a b:Int):wU (wU a+b)=wU (a+b):=by unfold wU;simp only [IntKind.wrap_u64];omega
theorem isum_any {w:World} {g N c:Nat} {F:List Int} (hG:Row w g 168 .u64 F) (hl:F.length=N) (hN8:N<=100000):
  Calls Tryz.prog 106 #[.slice (some ⟨g,0,none⟩) N c] w (RetVal w (.int .u64 (wU F.sum))):=by
 have HG:=Lib.hid hG
 have HL:=Lib.hid hl
 have hgl:=hG.lt
 have oG:Old g w:=⟨hgl⟩
 clear hG hl
 go_enter Tryz.func106,Tryz.ntmps106
 go_wp2_with fail
 go_loopw [3,5,8] (fun t _ i wr=>∃k:Nat,k<=N/\i= .int .i64 k/\t= .int .u64 (wU (F.take k).sum)/\Ext w wr) (fun _ _ i _=>N-(intOf i).toNat)
 case atStart=>exact ⟨0,by omega,rfl,rfl,inferInstance⟩
 case round=>
  obtain ⟨k,hk,rfl,rfl,hxr⟩:=hrel
  by_cases hlt:k<N
  ·obtain ⟨x,hx,c1⟩:=(HG.out.ext hxr).cell (i:=k) (by rw [HL.out];exact hlt)
   have HS:Hid (IntKind.u64.wrap (wU (F.take k).sum+x)=wU (F.take (k+1)).sum):=Lib.hid (by
    rw [List.take_add_one,hx,List.sum_append]
    have :=wU_add (F.take k).sum x
    unfold wU at this |-
    rw [this];simp)
   have oGr:Old g wr:=⟨Nat.lt_of_lt_of_le hgl hxr.size⟩
   generalize wU (F.take k).sum=s at*
   clear hx
   go_wp2_with fail
   exact ⟨⟨k+1,by omega,by go_num,congrArg (Value.int IntKind.u64) HS.out,hxr.trans inferInstance⟩,by simp [intOf];omega⟩
  ·obtain rfl:k=N:=by omega
   have HV:Hid (wU (F.take k).sum=wU F.sum):=Lib.hid (by rw [List.take_of_length_le (by rw [HL.out];exact Nat.le_refl _)])
   rw [HV.out]
   clear HV
   go_wp2_with fail
   go_ret
   exact ⟨rfl,hxr.toStep⟩
def grL (m:List (List Int)):Nat->Int
 |0=>0
 |k+1=>max (grL m k) (ent m k k)
theorem grL_ge {m:List (List Int)}:∀k j,j<k->ent m j j<=grL m k
 |0,_,h=>absurd h (by omega)
 |k+1,j,h=>by
  unfold grL
  rcases Nat.lt_or_ge j k with h1 |h1
  ·have :=grL_ge (m:=m) k j h1;omega
  ·obtain rfl:j=k:=by omega
   omega
theorem igreatest_any {w0 w:World} {A:Option Addr} {c n:Nat} {m:List (List Int)} (hM:MatA w0 A m) (hn:m.length=n) (hall:AllLen m n) (hn8:n<=1000) [hx:Ext w0 w]:
  Calls Tryz.prog 103 #[.slice A n c] w (RetVal w (.int .i64 (grL m n))):=by
 have HM:=Lib.hid hM
 have HN:=Lib.hid hn
 have HA:=Lib.hid hall
 clear hM hn hall
 go_enter Tryz.func103,Tryz.ntmps103
 go_wp2_with fail
 go_loopw [3,4,5,8] (fun t _ _ i wr=>∃k:Nat,k<=n/\i= .int .i64 k/\t= .int .i64 (grL m k)/\Ext w wr) (fun _ _ _ i _=>n-(intOf i).toNat)
 case atStart=>exact ⟨0,by omega,rfl,rfl,inferInstance⟩
 case round=>
  obtain ⟨k,hk,rfl,rfl,hxr⟩:=hrel
  by_cases hlt:k<n
  ·obtain ⟨r,hr⟩:∃r,m[k]? =some r:=⟨_,List.getElem?_eq_getElem (by rw [HN.out];exact hlt)⟩
   have hrl:r.length=n:=HA.out r (List.mem_of_getElem? hr)
   obtain ⟨b,o,B,c1,rfl,e1,hB,e2,e3,e4⟩:=(HM.out.ext (hx.trans hxr)).at_ hr
   obtain ⟨b2,o2,x,rfl,hkx,f1,f2⟩:=hB.at_ (i:=k) (by omega)
   rw [hrl] at e1 e2
   have he:ent m k k=x:=by simp [ent,hr,hkx]
   have HV:Hid (grL m (k+1)=max (grL m k) x):=Lib.hid (by rw [grL,he])
   have oB:Old b wr:=⟨e4⟩
   have oB2:Old b2 wr:=⟨f2⟩
   generalize grL m k=s at*
   clear hr hB hkx he
   go_wp2_with fail
   exact ⟨⟨k+1,by omega,by go_num,congrArg (Value.int IntKind.i64) HV.out.symm,hxr.trans inferInstance⟩,by simp [intOf];omega⟩
  ·obtain rfl:k=n:=by omega
   go_wp2_with fail
   go_ret
   exact ⟨rfl,hxr.toStep⟩
def RetUn (w:World) (n k:Nat) (e:Ending) (w':World):Prop:=e= .returned (.slice (some ⟨w.heap.size,0,none⟩) n n)/\Row w' w.heap.size 2 .i64 (unL n k)/\Step w w'
theorem iunit_any {w:World} {n k:Nat} (hk:k<n) (hn:n<=1000):Calls Tryz.prog 176 #[.int .i64 n,.int .i64 k] w (RetUn w n k):=by
 have hmk:=run_make_ints (P:=Tryz.prog) (k:= .i64) Tryz.underlying35 infoI64 (by omega) (n:Int) (by omega) (by omega)
 have hV:=Row.made w n .i64 2
 obtain ⟨z0,-,hcz⟩:=hV.cell (i:=k) (by simp;exact hk)
 have hfz:=hV.frozen k
 have hsz:=hV.lt
 have HV:=Lib.hid hV
 clear hV
 go_enter Tryz.func176,Tryz.ntmps176
 go_wp2_with fail
 go_ret
 refine ⟨rfl,?_,Step.of _ _⟩
 unfold Row unL
 have e:(mkRow n .i64).setIfInBounds k (.int .i64 1)=(((List.replicate n (0:Int)).set k 1).map (Value.int .i64)).toArray:=by
  apply Array.ext'
  simp [mkRow,List.map_set]
 rw [heap_alloc_new,e]
structure SysB (w:World) (sb so N pc dc nc:Nat) (T:TypeId) (cs:Array Value) (PA DA NA:Option Addr) (m P:List (List Int)):Prop where
 blk:w.heap[sb]? =some (.cells cs T (0,0))
 c0:cs[so]? =some (.slice PA N pc)
 c1:cs[so+1]? =some (.slice DA N dc)
 c2:cs[so+2]? =some (.slice NA N nc)
 c3:so+3<cs.size
 pts:Mat64 w PA P
 duals:Mat64 w DA (P.map (applyW m))
 norms:Ints w NA 2 .i64 (P.map (nrm m))
 len:P.length=N
 ne1:2≠T
 ne2:35≠T
 ne3:168≠T
theorem Only.othT {g:Nat} {w w':World} {cs:Array Value} {T:TypeId} {fr:Nat×Nat} (h:Only g w w') (hg:w.heap[g]? =some (.cells cs T fr)):Oth T w w':=fun b cs' e fr' hne hb=>(h.at_ (lt_of_heap hb) (fun e'=>by
 subst e'
 rw [hg] at hb
 injection hb with hb
 injection hb with _ he
 exact hne he.symm)).trans hb
theorem SysB.cells {w wr:World} {sb so N pc dc nc g:Nat} {T:TypeId} {cs:Array Value} {PA DA NA:Option Addr} {m P:List (List Int)} (hS:SysB w sb so N pc dc nc T cs PA DA NA m P) (hb:wr.heap[sb]? =some (.cells (cs.setIfInBounds (so+3) (.slice (some ⟨g,0,none⟩) N N)) T (0,0))):
  wr.cell? ⟨sb,so,none⟩=some (.slice PA N pc)/\wr.cell? ⟨sb,so+1,none⟩=some (.slice DA N dc)/\wr.cell? ⟨sb,so+2,none⟩=some (.slice NA N nc)/\wr.cell? ⟨sb,so+3,none⟩=some (.slice (some ⟨g,0,none⟩) N N)/\wr.frozen? ⟨sb,so+3,none⟩=false/\sb<wr.heap.size:=by
 have h:∀i,wr.cell? ⟨sb,i,none⟩=(cs.setIfInBounds (so+3) (.slice (some ⟨g,0,none⟩) N N))[i]? :=fun i=>cell_of_row wr sb i _ _ _ hb
 refine ⟨?_,?_,?_,?_,by simp [World.frozen?,hb],lt_of_heap hb⟩
 ·rw [h,Array.getElem?_setIfInBounds_ne (by omega)];exact hS.c0
 ·rw [h,Array.getElem?_setIfInBounds_ne (by omega)];exact hS.c1
 ·rw [h,Array.getElem?_setIfInBounds_ne (by omega)];exact hS.c2
 ·rw [h,Array.getElem?_setIfInBounds_self_of_lt hS.c3]
def itC (m P:List (List Int)):Nat->List Int->Int
 |0=>cl0 m
 |t+1=>clS m P (itC m P t)
theorem itC_neg (m P:List (List Int)):∀t x,itC m P t (x.map fun c=>-c)=itC m P t x
 |0,x=>cl0_neg m x
 |t+1,x=>clS_neg (itC_neg m P t) x
theorem itC_lt (m P:List (List Int)) (t:Nat) (x:List Int):0<=itC m P t x/\itC m P t x<18446744073709551616:=by
 cases t with
 |zero=>exact mixZ_lt (wU_lt _).2
 |succ t=>exact wU_lt _
def RetPt (w:World) (sb so N:Nat) (T:TypeId) (cs:Array Value) (m P:List (List Int)) (e:Ending) (w':World):Prop:=
 e= .returned (.tuple #[])/\∃cg,w.heap.size<=cg/\Row w' cg 168 .u64 (P.map (clP m P))/\w'.heap[sb]? =some (.cells (cs.setIfInBounds (so+3) (.slice (some ⟨cg,0,none⟩) N N)) T (0,0))/\Only sb w w'
theorem infoU64:(Tryz.prog.info? 168).map (fun i=>(i.zero,i.size,i.bytes))=some (some (.int .u64 0),1,8):=by kernel_rfl
theorem take_set_step {F z:List Int} {k:Nat} (hk:k<F.length) (hl:F.length=z.length):(F.take k++z.drop k).set k (F.getD k 0)=F.take (k+1)++z.drop (k+1):=by
 rw [List.set_append_right _ _ (by simp;omega),List.length_take,Nat.min_eq_left (by omega),Nat.sub_self,List.drop_eq_getElem_cons (by omega),List.set_cons_zero,List.getD_eq_getElem?_getD,List.getElem?_eq_getElem hk,List.take_succ_eq_append_getElem hk]
 simp only [Option.getD_some,List.append_assoc,List.singleton_append]
theorem still_max {P:Program} {o:Oper} {a:Act} {w:World} {K:Act->Prop} (x y:Operand) (ts:Array TypeId) (ho:o.op= .call {callee:= .builtin .max,args:=#[x,y],argTypes:=ts}) {k:IntKind} {u v:Int} (hx:a.eval x= .int k u) (hy:a.eval y= .int k v) (hk:K (a.put o.dst (.int k (max u v)))):o.still P a w K:=by
 have e:(if v>u then v else u)=max u v:=by split<;>omega
 unfold Oper.still execOp
 simp only [ho,resolve,invoke,builtin,Sem.run_bind,Sem.run_pure,Result.andThen_ok,List.map_toArray,List.map_cons,List.map_nil,hx,hy,run_max_int2,e]
 exact ⟨rfl,hk⟩
set_option maxRecDepth 20000 in
theorem ipaint_ok {w:World} {sb so N pc dc nc h n:Nat} {T:TypeId} {cs:Array Value} {PA DA NA:Option Addr} {m P:List (List Int)} (hS:SysB w sb so N pc dc nc T cs PA DA NA m P) (hN:N=2*h) (hN8:N<=100000) (hml:m.length=n) (hrow:∀x∈P,x.length=n) (hn:n<=1000)
  (hsym:P.reverse.map (fun x=>x.map fun c=>-c)=P) (hip:∀x∈P,∀y∈P,ipR m x y=dotL (applyL m x) y) (hnb:∀x∈P,0<=nrm m x/\nrm m x<=4611686018427387904):
  Calls Tryz.prog 104 #[.pointer (some ⟨sb,so,none⟩)] w (RetPt w sb so N T cs m P):=by
 have HS:=Lib.hid hS
 have HR:=Lib.hid hrow
 have HSY:=Lib.hid hsym
 have HIP:=Lib.hid hip
 have HNB:=Lib.hid hnb
 have HML:=Lib.hid hml
 have hsl:=lt_of_heap hS.blk
 have hdv:(N:Int) / 2=(h:Int):=by omega
 have hN1:2*h<=N/\N<=2*h:=by omega
 have hmk:=run_make_ints (P:=Tryz.prog) (k:= .u64) Tryz.underlying116 infoU64 (by omega) (N:Int) (by omega) (by omega)
 have s1:w.cell? ⟨sb,so,none⟩=some (.slice PA N pc):=by rw [cell_of_row w sb so _ _ _ hS.blk];exact hS.c0
 unfold RetPt
 obtain ⟨w2,hw2⟩:∃w2,w2=(w.setCell ⟨sb,so+3,none⟩ (.slice (some ⟨w.heap.size,0,none⟩) N N)).alloc (.cells (mkRow N .u64) 168):=⟨_,rfl⟩
 have hz1:(w.setCell ⟨sb,so+3,none⟩ (.slice (some ⟨w.heap.size,0,none⟩) N N)).heap.size=w.heap.size:=size_setCell _ _ _
 have hR2:Row w2 w.heap.size 168 .u64 (List.replicate N 0):=by
  have :=Row.made (w.setCell ⟨sb,so+3,none⟩ (.slice (some ⟨w.heap.size,0,none⟩) N N)) N .u64 168
  rw [hz1] at this
  rw [hw2];exact this
 have hb2:w2.heap[sb]? =some (.cells (cs.setIfInBounds (so+3) (.slice (some ⟨w.heap.size,0,none⟩) N N)) T (0,0)):=by
  rw [hw2];exact heap_of_ext inferInstance (heap_setCell_self hS.blk _)
 have hO2:Only sb w w2:=by rw [hw2];exact (Only.set hsl (so+3) _).trans (Only.of_ext inferInstance (by rw [hz1];exact Nat.le_of_lt hsl))
 have t3:∃v,w.cell? ⟨sb,so+3,none⟩=some v:=⟨cs[so+3]'hS.c3,by rw [cell_of_row w sb (so+3) _ _ _ hS.blk];simp [hS.c3]⟩
 obtain ⟨v3,t3⟩:=t3
 have t4:w.frozen? ⟨sb,so+3,none⟩=false:=by simp [World.frozen?,hS.blk]
 have oS:Old sb w:=⟨hsl⟩
 have HB2:=Lib.hid hb2
 have HR2:=Lib.hid hR2
 have HO2:=Lib.hid hO2
 have HW2:=Lib.hid hw2
 clear hS hrow hsym hip hnb hml hN hb2 hR2 hO2 hw2 hz1
 go_enter Tryz.func104,Tryz.ntmps104
 go_upto_region 1 with fail
 rw [<-HW2.out]
 clear HW2 t3 t4 s1 hmk
 obtain ⟨e1,e2,e3,e4,e5,e6⟩:=HS.out.cells HB2.out
 have oS2:Old sb w2:=⟨e6⟩
 obtain ⟨g0,hg0⟩:∃g0,g0=w.heap.size:=⟨_,rfl⟩
 rw [<-hg0] at e4 HB2 HR2
 have HG0:Hid (w.heap.size<=g0/\sb≠g0):=Lib.hid (by omega)
 clear hg0
 have HF0l:Hid ((P.map (cl0 m)).length=N):=Lib.hid (by rw [List.length_map];exact HS.out.len)
 go_wp2_with fail
 go_loopw [2,3,23] (fun _ _ i wr=>∃k:Nat,k<=N/\i= .int .i64 k/\Hid (Row wr g0 168 .u64 ((P.map (cl0 m)).take k++(List.replicate N (0:Int)).drop k))/\Hid (wr.heap[sb]? =some (.cells (cs.setIfInBounds (so+3) (.slice (some ⟨g0,0,none⟩) N N)) T (0,0)))/\Hid (Only sb w wr)) (fun _ _ i _=>N-(intOf i).toNat)
 case atStart=>exact ⟨0,by omega,rfl,HR2,HB2,HO2⟩
 case round=>
  obtain ⟨k,hk,rfl,HR3,HB3,HO3⟩:=hrel
  clear e1 e2 e3 e4 e5 e6
  obtain ⟨e1,e2,e3,e4,e5,e6⟩:=HS.out.cells HB3.out
  have oS3:Old sb wr:=⟨e6⟩
  by_cases hlt:k<N
  ·obtain ⟨x,hx⟩:∃x,P[k]? =some x:=⟨_,List.getElem?_eq_getElem (by rw [HS.out.len];exact hlt)⟩
   have hxm:=List.mem_of_getElem? hx
   obtain ⟨nb,no,v,rfl,hv,f1,f2⟩:=(HS.out.norms.oth (HO3.out.othT HS.out.blk) HS.out.ne1).at_ (i:=k) (by rw [List.length_map,HS.out.len];exact hlt)
   rw [List.getElem?_map,hx] at hv
   simp only [Option.map_some,Option.some.injEq] at hv
   have hvb:=HNB.out x hxm
   rw [hv] at hvb
   have oN:Old nb wr:=⟨f2⟩
   have hF:(P.map (cl0 m)).getD k 0=mixZ (wU v):=by rw [List.getD_eq_getElem?_getD,List.getElem?_map,hx];simp [cl0,hv]
   have hwu:wU v=v:=by rw [wU_def];omega
   rw [hwu] at hF
   have HMX:=Lib.hid (fun W=>imix_int (w:=W) (z:=v) hvb.1 (by omega))
   rw [<-hF] at HMX
   have HSET:=Lib.hid (take_set_step (F:=P.map (cl0 m)) (z:=List.replicate N (0:Int)) (k:=k) (by rw [HF0l.out];exact hlt) (by rw [HF0l.out];simp))
   obtain ⟨y0,-,m1⟩:=HR3.out.cell (i:=k) (by have :=HF0l.out;simp at this |-;omega)
   have m2:=HR3.out.frozen k
   have hg:=HR3.out.lt
   have oG:Old g0 wr:=⟨hg⟩
   generalize (P.map (cl0 m)).getD k 0=f0 at*
   clear hF hv hx hxm
   go_upto_region 4 with fail
   have hcv:IntKind.u64.wrap v=v:=hwu
   clear hwu
   go_region_with (go_at_call 174;refine (HMX.out _).mono ?_;rintro e w6 ⟨rfl,rfl⟩)
   all_goals
    go_wp2_with fail
    refine ⟨⟨k+1,by omega,by go_num,Lib.hid ?_,Lib.hid ?_,Lib.hid ?_⟩,by simp [intOf];omega⟩
    ·have h2:=HR3.out.set k f0
     rw [HSET.out] at h2
     exact h2.ext inferInstance
    ·exact heap_of_ext (inferInstance:Ext (wr.setCell ⟨g0,k,none⟩ (.int .u64 f0)) _) (heap_setCell_far HB3.out HG0.out.2 _)
    ·exact (HO3.out.setNew (p:=⟨g0,k,none⟩) HG0.out.1 hsl (.int .u64 f0)).trans (Only.of_ext inferInstance (by rw [size_setCell];exact Nat.le_of_lt e6))
  ·obtain rfl:k=N:=by omega
   have hR4:Row wr g0 168 .u64 (P.map (itC m P 0)):=by
    have h:=HR3.out
    rw [List.take_of_length_le (by rw [HF0l.out];exact Nat.le_refl _),List.drop_of_length_le (by simp),List.append_nil] at h
    exact h
   have HR4:=Lib.hid hR4
   clear hR4 HR3 HR2 HB2 HO2
   go_wp2_with fail
   clear e1 e2 e3 e4 e5 e6 hlt
   obtain ⟨wa,rfl⟩:∃wa:World,wa=wr:=⟨_,rfl⟩
   go_loopw [5,6,7,8,44,53,67,68] (fun _ _ _ _ i _ _ _ wr=>∃(t cg:Nat),t<=2/\i= .int .i64 t/\Hid (w.heap.size<=cg/\sb≠cg)/\Hid (Row wr cg 168 .u64 (P.map (itC m P t)))/\Hid (wr.heap[sb]? =some (.cells (cs.setIfInBounds (so+3) (.slice (some ⟨cg,0,none⟩) k k)) T (0,0)))/\Hid (Only sb w wr)) (fun _ _ _ _ i _ _ _ _=>2-(intOf i).toNat)
   case atStart=>exact ⟨0,g0,by omega,rfl,HG0,HR4,HB3,HO3⟩
   case round=>
    obtain ⟨t,cg,ht,rfl,HGC,HRC,HBC,HOC⟩:=hrel
    obtain ⟨e1,e2,e3,e4,e5,e6⟩:=HS.out.cells HBC.out
    obtain ⟨wb,rfl⟩:∃wb:World,wb=wr:=⟨_,rfl⟩
    have oSb:Old sb wb:=⟨e6⟩
    by_cases hlt2:t<2
    ·have hmk:=run_make_ints (P:=Tryz.prog) (k:= .u64) Tryz.underlying116 infoU64 (by omega) (k:Int) (by omega) (by omega)
     go_wp2_with fail
     obtain ⟨F,hF⟩:∃F,P.map (itC m P (t+1))=F:=⟨_,rfl⟩
     have hFl:F.length=k:=by rw [<-hF,List.length_map];exact HS.out.len
     have HF:=Lib.hid hF
     have HFL:=Lib.hid hFl
     have HM0:Hid (Row (wb.alloc (.cells (mkRow k .u64) 168)) wb.heap.size 168 .u64 (mixL F (List.replicate k 0) 0)):=Lib.hid (by rw [mixL_zero];exact Row.made wb k .u64 168)
     have hxb:Ext wb (wb.alloc (.cells (mkRow k .u64) 168)):=inferInstance
     clear hmk hF hFl
     go_loopw [6,7,8,53,67,68] (fun _ _ _ i _ _ wr=>∃i0:Nat,i0<=h/\i= .int .i64 i0/\Hid (Row wr wb.heap.size 168 .u64 (mixL F (List.replicate k 0) i0))/\Ext wb wr) (fun _ _ _ i _ _ _=>h-(intOf i).toNat)
     case atStart=>exact ⟨0,by omega,rfl,HM0,hxb⟩
     case round=>
      obtain ⟨i0,hi0,rfl,HM,hxm⟩:=hrel
      obtain ⟨wd,rfl⟩:∃wd:World,wd=wr:=⟨_,rfl⟩
      by_cases hlt3:i0<h
      ·obtain ⟨x,hx⟩:∃x,P[i0]? =some x:=⟨_,List.getElem?_eq_getElem (by rw [HS.out.len];omega)⟩
       have hxmem:=List.mem_of_getElem? hx
       obtain ⟨ca,hca,a1⟩:=(HRC.out.ext hxm).cell (i:=i0) (by rw [List.length_map,HS.out.len];omega)
       rw [List.getElem?_map,hx] at hca
       simp only [Option.map_some,Option.some.injEq] at hca
       have b1:=itC_lt m P t x
       rw [hca] at b1
       have HMX:=Lib.hid (fun W=>imix_int (w:=W) (z:=ca) b1.1 b1.2)
       have g4:wd.cell? ⟨sb,so+3,none⟩=some (.slice (some ⟨cg,0,none⟩) k k):=(cellE wb).trans e4
       obtain ⟨y0,hy0,m1⟩:=HM.out.cell (i:=i0) (by rw [mixL_len];simp;omega)
       have m2:=HM.out.frozen i0
       have hnl:=HM.out.lt
       have oC:Old cg wd:=⟨Nat.lt_of_lt_of_le HRC.out.lt hxm.size⟩
       have oSd:Old sb wd:=⟨Nat.lt_of_lt_of_le e6 hxm.size⟩
       have hcne:cg≠wb.heap.size:=by have :=HRC.out.lt;omega
       obtain ⟨mz,hmz⟩:∃mz,mixZ ca=mz:=⟨_,rfl⟩
       have hmzb:=mixZ_lt (z:=ca) b1.2
       rw [hmz] at HMX hmzb
       have HX:=Lib.hid (And.intro hx (And.intro hca hmz))
       clear hx hca hy0 hmz
       go_upto_region 14 with (go_at_call 174;refine (HMX.out _).mono ?_;rintro e w6 ⟨rfl,rfl⟩)
       have hR9:=HM.out.set i0 mz
       have hx9:Ext wb (wd.setCell ⟨wb.heap.size,i0,none⟩ (.int .u64 mz)):=hxm.setCell (p:=⟨wb.heap.size,i0,none⟩) (Nat.le_refl _) _
       generalize wd.setCell ⟨wb.heap.size,i0,none⟩ (.int .u64 mz)=we at*
       have hmw:wU mz=mz:=by rw [wU_def];omega
       obtain ⟨f,hf⟩:∃f:List Int->Int,f=fun y=>blZ (itC m P t y) (absW (ipR m x y)):=⟨_,rfl⟩
       have HFF:=Lib.hid hf
       have HR9:Hid (Row we wb.heap.size 168 .u64 ((mixL F (List.replicate k 0) i0).set i0 (wU (mz+sumP (P.take 0) f)))):=Lib.hid (by
        rw [show mz+sumP (P.take 0) f=mz by simp [sumP],hmw];exact hR9)
       clear hR9 hmw hf a1 g4 m1 m2 HMX hmzb oC oSd hnl
       go_wp2_with fail
       go_loopw [7,8,68] (fun _ _ j wr=>∃j0:Nat,j0<=h/\j= .int .i64 j0/\Hid (Row wr wb.heap.size 168 .u64 ((mixL F (List.replicate k 0) i0).set i0 (wU (mz+sumP (P.take j0) f))))/\Ext wb wr) (fun _ _ j _=>h-(intOf j).toNat)
       case atStart=>exact ⟨0,by omega,rfl,HR9,hx9⟩
       case round=>
        obtain ⟨j0,hj0,rfl,HMj,hxj⟩:=hrel
        obtain ⟨wf,rfl⟩:∃wf:World,wf=wr:=⟨_,rfl⟩
        have hOTf:Oth T w wf:=(HOC.out.trans (Only.of_ext hxj (Nat.le_of_lt e6))).othT HS.out.blk
        have oSf:Old sb wf:=⟨Nat.lt_of_lt_of_le e6 hxj.size⟩
        by_cases hlt4:j0<h
        ·obtain ⟨y,hy⟩:∃y,P[j0]? =some y:=⟨_,List.getElem?_eq_getElem (by rw [HS.out.len];omega)⟩
         have hym:=List.mem_of_getElem? hy
         obtain ⟨pb,po,B,c1,rfl,p1,hB,-,-,p5⟩:=(HS.out.pts.oth hOTf HS.out.ne2 HS.out.ne1).at_ hy
         obtain ⟨db,dof,D,c2,rfl,q1,hD,-,-,q5⟩:=(HS.out.duals.oth hOTf HS.out.ne2 HS.out.ne1).at_ (i:=i0) (r:=applyW m x) (by rw [List.getElem?_map,HX.out.1];rfl)
         have hlA:(applyW m x).length=n:=by simp [applyW,HML.out]
         rw [HR.out y hym] at p1
         rw [hlA] at q1
         have g1:wf.cell? ⟨sb,so,none⟩=some (.slice (some ⟨pb,po,none⟩) k pc):=(cellE wb).trans e1
         have g2:wf.cell? ⟨sb,so+1,none⟩=some (.slice (some ⟨db,dof,none⟩) k dc):=(cellE wb).trans e2
         have g4:wf.cell? ⟨sb,so+3,none⟩=some (.slice (some ⟨cg,0,none⟩) k k):=(cellE wb).trans e4
         have oP:Old pb wf:=⟨p5⟩
         have oD:Old db wf:=⟨q5⟩
         have hdw:dotW (applyW m x) y=wI (ipR m x y):=by rw [dotW_apply];unfold dotW;rw [HIP.out x hxmem y hym];rfl
         have HD:=Lib.hid (fun W (e:Ext wf W)=>idot_any (w0:=wf) (w:=W) (c:=c2) (d:=c1) ⟨_,hD⟩ ⟨_,hB⟩ hlA (HR.out y hym) (Nat.le_refl _) (by omega))
         rw [hdw] at HD
         obtain ⟨cj,hcj,a2⟩:=(HRC.out.ext hxj).cell (i:=j0) (by rw [List.length_map,HS.out.len];omega)
         rw [List.getElem?_map,hy] at hcj
         simp only [Option.map_some,Option.some.injEq] at hcj
         have b2:=itC_lt m P t y
         rw [hcj] at b2
         obtain ⟨v,hv⟩:∃v,wI (ipR m x y)=v:=⟨_,rfl⟩
         have hvb:-9223372036854775808<=v/\v<=9223372036854775807:=by rw [<-hv];unfold wI;simp only [IntKind.wrap_i64];omega
         have hva:absW (ipR m x y)=max v (IntKind.i64.wrap (-v)):=by
          unfold absW
          rw [hv,show wI (-ipR m x y)=IntKind.i64.wrap (-v) by rw [<-hv];unfold wI;simp only [IntKind.wrap_i64];omega]
         rw [hv] at HD
         have hub:-9223372036854775808<=max v (wrap64 (-v))/\max v (wrap64 (-v))<=9223372036854775807:=by rw [w64];simp only [IntKind.wrap_i64];omega
         have HBL:=Lib.hid (fun W=>iblend_any (w:=W) (c:=cj) (i:=max v (wrap64 (-v))) b2.1 b2.2 hub.1 hub.2)
         have hfy:f y=blZ cj (max v (wrap64 (-v))):=by rw [HFF.out];simp only [hcj,hva,w64]
         rw [<-hfy] at HBL
         clear hub
         have HST:Hid (IntKind.u64.wrap (wU (mz+sumP (P.take j0) f)+f y)=wU (mz+sumP (P.take (j0+1)) f)):=Lib.hid (by
          have h1:=wU_add (mz+sumP (P.take j0) f) (f y)
          have h2:sumP (P.take (j0+1)) f=sumP (P.take j0) f+f y:=by rw [List.take_add_one,hy,sumP_append];simp [sumP]
          rw [h2,<-Int.add_assoc,<-h1];rfl)
         obtain ⟨y0,hy0,m1⟩:=HMj.out.cell (i:=i0) (by rw [List.length_set,mixL_len];simp;omega)
         have m2:=HMj.out.frozen i0
         have hyv:y0=wU (mz+sumP (P.take j0) f):=by
          rw [List.getElem?_set_self (by rw [mixL_len];simp;omega)] at hy0
          injection hy0 with hy0;exact hy0.symm
         subst hyv
         have hnl:=HMj.out.lt
         have oC:Old cg wf:=⟨Nat.lt_of_lt_of_le HRC.out.lt hxj.size⟩
         generalize f y=fy at*
         generalize wU (mz+sumP (P.take j0) f)=s0 at*
         obtain ⟨s1,hs1⟩:∃s1,wU (mz+sumP (P.take (j0+1)) f)=s1:=⟨_,rfl⟩
         rw [hs1] at HST
         have HS1:=Lib.hid hs1
         clear hs1
         have HXJ:=Lib.hid hxj
         have HOTF:=Lib.hid hOTf
         clear hB hD hdw hcj hv hva hfy hy0 hy hym hlA hxj hxm hxb hx9 hOTf e1 e2 e3 e4 e5 HR9 HM HM0 HR4 HB3 HO3 HG0 oS oS2 oSb HF0l HR HSY HNB
         go_upto_region 17 with fail
         have HDQ:=Lib.hid (fun q=>(HD.out (wf.drewN q) inferInstance).mono (fun e w' h=>(⟨h.1,h.2.symm⟩:e= .returned (.int .i64 v)/\w'=wf.drewN q)))
         go_quiet ((go_at_call 110;exact Calls.quiet_of_same (HDQ.out _)))
         go_upto_region 18 with fail
         have hwg:Ext wf (wf.drewN nq):=inferInstance
         have HMg:=Lib.hid (HMj.out.ext hwg)
         have k1:(wf.drewN nq).cell? ⟨cg,j0,none⟩=some (.int .u64 cj):=a2
         have k2:(wf.drewN nq).cell? ⟨wb.heap.size,i0,none⟩=some (.int .u64 s0):=m1
         have k3:(wf.drewN nq).frozen? ⟨wb.heap.size,i0,none⟩=false:=m2
         have k4:(wf.drewN nq).cell? ⟨sb,so+3,none⟩=some (.slice (some ⟨cg,0,none⟩) k k):=g4
         have oC2:Old cg (wf.drewN nq):=⟨oC.lt⟩
         have oS2:Old sb (wf.drewN nq):=⟨oSf.lt⟩
         have oN2:Old wb.heap.size (wf.drewN nq):=⟨hnl⟩
         have HXG:=Lib.hid (HXJ.out.trans hwg)
         clear HMj a2 m1 m2 g4 g1 g2 p1 q1 oC oSf oP oD HD HDQ hwg HXJ HOTF
         generalize wf.drewN nq=wg at*
         have hik:i0<k:=by omega
         have hjk:j0<k:=by omega
         have hik2:(i0:Int)<(k:Int):=by omega
         have hjk2:(j0:Int)<(k:Int):=by omega
         refine wp_region_still_tail 18 (by kernel_rfl) (by kernel_rfl) ?_
         simp only [List.take_succ_cons,List.take_zero,List.drop_succ_cons,List.drop_zero]
         iterate 14 still_step
         refine wpStill_step (fun K hK=>?_)
         rw [if_pos (by simp [Region.wanted])]
         refine still_max (.tmp 97) (.tmp 99) _ rfl (k:= .i64) (u:=v) (v:=wrap64 (-v)) (by simp [Act.eval]) (by simp [Act.eval,w64]) ?_
         simp only [Act.put,List.setIfInBounds_toArray,List.set_cons_zero,List.set_cons_succ]
         refine hK _ ?_
         clear hK K
         still_call ((HBL.out _).mono fun _ _ h=>⟨h.1,h.2.symm⟩)
         iterate 2 still_step
         refine wpStill_nil ?_
         go_wp2_with fail
         rw [HST.out]
         have hxd:Ext (wg.setCell ⟨wb.heap.size,i0,none⟩ (.int .u64 s1)) (wg.setCell ⟨wb.heap.size,i0,none⟩ (.int .u64 s1)).drew:=inferInstance
         refine ⟨⟨j0+1,by omega,by go_num,Lib.hid ?_,?_⟩,by simp [intOf];omega⟩
         ·have h2:=HMg.out.set i0 s1
          rw [List.set_set] at h2
          rw [HS1.out]
          exact h2.ext hxd
         ·exact (HXG.out.setCell (p:=⟨wb.heap.size,i0,none⟩) (Nat.le_refl _) _).trans hxd
        ·obtain rfl:j0=h:=by omega
         have hv0:wU (mz+sumP (P.take j0) f)=F.getD i0 0:=by
          have e1:F.getD i0 0=clS m P (itC m P t) x:=by
           rw [<-HF.out,List.getD_eq_getElem?_getD,List.getElem?_map,HX.out.1];rfl
          have e2:=sum_half HSY.out (by rw [HS.out.len];omega) (f:=f) (h:=j0) (fun y=>by
           rw [HFF.out];simp only [itC_neg,ipR_neg_right,absW_neg])
          rw [e1]
          unfold clS
          rw [HX.out.2.1,HX.out.2.2,<-e2,HFF.out]
         have hv1:F.getD (k-1-i0) 0=F.getD i0 0:=by
          have hr:=rev_get HSY.out HX.out.1
          rw [HS.out.len] at hr
          rw [<-HF.out,List.getD_eq_getElem?_getD,List.getElem?_map,hr,List.getD_eq_getElem?_getD,List.getElem?_map,HX.out.1]
          exact clS_neg (itC_neg m P t) x
         rw [hv0] at HMj
         have HST:=Lib.hid (mixL_step (F:=F) (l:=List.replicate k 0) (h:=j0) (j:=i0) (by simp;omega) hlt3)
         rw [List.length_replicate,hv1] at HST
         obtain ⟨y1,hy1,m1⟩:=HMj.out.cell (i:=i0) (by rw [List.length_set,mixL_len];simp;omega)
         rw [List.getElem?_set_self (by rw [mixL_len];simp;omega)] at hy1
         obtain rfl:F.getD i0 0=y1:=by injection hy1
         obtain ⟨y2,-,m3⟩:=HMj.out.cell (i:=k-1-i0) (by rw [List.length_set,mixL_len];simp;omega)
         have m4:=HMj.out.frozen (k-1-i0)
         have hnl:=HMj.out.lt
         have hidx:(k:Int)-1-(i0:Int)=((k-1-i0:Nat):Int):=by omega
         generalize F.getD i0 0=fv at*
         clear hy1 hv0 hv1
         rw [hidx] at*
         go_wp2_with fail
         refine ⟨⟨_,_,_,.int .i64 ((i0:Int)+1),⟨i0+1,by omega,by go_num,Lib.hid ?_,?_⟩,rfl,rfl,rfl,rfl⟩,by simp [intOf];omega⟩
         ·have h2:=HMj.out.set (k-1-i0) fv
          rw [HST.out] at h2
          exact h2
         ·exact hxj.setCell (p:=⟨wb.heap.size,k-1-i0,none⟩) (Nat.le_refl _) _
      ·obtain rfl:i0=h:=by omega
       have hmf:mixL F (List.replicate k 0) i0=F:=mixL_done (by simp;omega) (by simp;exact HFL.out)
       rw [hmf,<-HF.out] at HM
       have hbd:=heap_of_ext hxm HBC.out
       have g4:wd.cell? ⟨sb,so+3,none⟩=some (.slice (some ⟨cg,0,none⟩) k k):=(cellE wb).trans e4
       have g5:wd.frozen? ⟨sb,so+3,none⟩=false:=by simp [World.frozen?,hbd]
       have oSd:Old sb wd:=⟨Nat.lt_of_lt_of_le e6 hxm.size⟩
       have HBD:=Lib.hid hbd
       have hsbn:sb≠wb.heap.size:=by omega
       clear hbd
       go_wp2_with fail
       refine ⟨⟨t+1,wb.heap.size,by omega,by go_num,Lib.hid ⟨HOC.out.size,hsbn⟩,Lib.hid ?_,Lib.hid ?_,Lib.hid ?_⟩,by simp [intOf];omega⟩
       ·exact HM.out.far (p:=⟨sb,so+3,none⟩) (fun e=>hsbn e.symm) _
       ·rw [heap_setCell_self HBD.out,Array.setIfInBounds_setIfInBounds]
       ·exact (HOC.out.trans (Only.of_ext hxm (Nat.le_of_lt e6))).trans (Only.set oSd.lt (so+3) _)
    ·have ht2:t=2:=by omega
     have hd2:decide ((t:Int)<2)=false:=by simp;omega
     go_wp2_with fail
     rw [ht2] at HRC
     go_end0
     exact ⟨rfl,cg,HGC.out.1,HRC.out,HBC.out,HOC.out⟩
def preL (L:List (List Int)):List (List Int):=L.flatMap fun x=>[x,x.map fun c=>-c]
theorem preL_snoc (L:List (List Int)) (x:List Int):preL (L++[x])=preL L++[x,x.map fun c=>-c]:=by simp [preL]
theorem preL_len:∀L:List (List Int),(preL L).length=2*L.length
 |[]=>rfl
 |x::L=>by have :=preL_len L;simp only [preL,List.flatMap_cons,List.length_append,List.length_cons,List.length_nil] at this |-;omega
theorem preL_mem {L:List (List Int)} {x:List Int}:x∈preL L↔x∈L∨(x.map fun c=>-c)∈L:=by
 unfold preL
 rw [List.mem_flatMap]
 constructor
 ·rintro ⟨y,hy,hx⟩
  simp only [List.mem_cons,List.not_mem_nil,or_false] at hx
  rcases hx with rfl |rfl
  ·exact .inl hy
  ·exact .inr (by rw [neg_neg_L];exact hy)
 ·rintro (h |h)
  ·exact ⟨x,h,by simp⟩
  ·exact ⟨_,h,by rw [neg_neg_L];simp⟩
structure PtI (n:Nat) (wr:World) (sb:Nat) (pre:List (List Int)) (els:List VE) (PA:Option Addr) (k pc:Nat):Prop where
 st:wr.heap[sb]? =some (.cells #[.slice PA k pc,.slice none 0 0,.slice none 0 0,.slice none 0 0] 118 (0,0))
 own:Own wr sb 35 1 PA k pc (els.map VE.enc)
 ok:∀x∈els,x.ok wr
 ls:els.map VE.l=pre
theorem VE.ok.ext {w w':World} {x:VE} (h:x.ok w) (hx:Ext w w'):x.ok w':=⟨h.1.ext hx,h.2⟩
theorem negRow_step {x:List Int} {q:Nat} {c:Int} (hc:x[q]? =some c):((x.take q).map (fun c=>-c)++List.replicate (x.length-q) 0).set q (-c)=(x.take (q+1)).map (fun c=>-c)++List.replicate (x.length-(q+1)) 0:=by
 have hq:=(List.getElem?_eq_some_iff.1 hc).1
 obtain ⟨r,hr⟩:∃r,x.length-q=r+1:=⟨x.length-q-1,by omega⟩
 rw [List.set_append_right _ _ (by simp;omega),List.length_map,List.length_take,Nat.min_eq_left (by omega),Nat.sub_self,hr,show x.length-(q+1)=r by omega,List.replicate_succ,List.set_cons_zero,List.take_add_one,hc,List.map_append]
 simp
theorem PtI.push {n:Nat} {wr W w6:World} {sb k pc d6 g c1:Nat} {pre:List (List Int)} {els:List VE} {PA A6 B:Option Addr} {x:List Int} (h:PtI n wr sb pre els PA k pc) (hx:Ext wr W) (hB:Ints W B 2 .i64 x) (hV:Row W g 2 .i64 (x.map fun c=>-c)) (hxl:x.length<=1000) (hc1:x.length<=c1) (hc2:c1<=9223372036854775807)
  (hown:Own w6 sb 35 1 A6 (k+2) d6 (els.map VE.enc++[.slice B x.length c1,.slice (some ⟨g,0,none⟩) x.length x.length])) (hg:Grow sb 35 W w6):
  PtI n (w6.setCell ⟨sb,0,none⟩ (.slice A6 (k+2) d6)) sb (pre++[x,x.map fun c=>-c]) (els++[⟨B,c1,x⟩,⟨some ⟨g,0,none⟩,x.length,x.map fun c=>-c⟩]) A6 (k+2) d6:=by
 have hb6:=hg.heap (heap_of_ext hx h.st) (by decide)
 have hoS:=Oth.set (p:=⟨sb,0,none⟩) hb6 (.slice A6 (k+2) d6)
 refine ⟨by rw [heap_setCell_self hb6];rfl,?_,fun y hy=>?_,by rw [List.map_append,h.ls];rfl⟩
 ·rw [List.map_append]
  have e:[(⟨B,c1,x⟩:VE),⟨some ⟨g,0,none⟩,x.length,x.map fun c=>-c⟩].map VE.enc=[.slice B x.length c1,.slice (some ⟨g,0,none⟩) x.length x.length]:=by simp [VE.enc]
  rw [e]
  exact hown.oth hoS (by decide)
 ·have key:∀z:VE,z.ok W->z.ok (w6.setCell ⟨sb,0,none⟩ (.slice A6 (k+2) d6)):=fun z hz=>⟨(hz.1.grow hg (by decide)).oth hoS (by decide),hz.2⟩
  rcases List.mem_append.1 hy with hy |hy
  ·exact key y ((h.ok y hy).ext hx)
  ·simp only [List.mem_cons,List.not_mem_nil,or_false] at hy
   rcases hy with rfl |rfl
   ·exact key _ ⟨hB,by simp only;omega,hc1,hc2⟩
   ·exact key _ ⟨hV.ints,by simp only [List.length_map];omega,by simp,by simp only;omega⟩
theorem VRowV.of_own {w:World} {base n c:Nat} {A:Option Addr} {els:List VE} (h:Own w base 35 1 A n c (els.map VE.enc)) (hn:0<n):∃g,A=some ⟨g,0,none⟩/\base<=g/\VRowV w g els:=by
 obtain ⟨hl,h2⟩:=h
 rcases h2 with ⟨_,h0⟩ |⟨g,cap,cur,hv,hb,hh,h3,h4,h5,h6⟩
 ·omega
 ·injection hv with hA
  refine ⟨g,hA,hb,cur,hh,fun i x hx=>?_⟩
  have a:(els.map VE.enc)[i]? =some x.enc:=by rw [List.getElem?_map,hx];rfl
  rw [<-h6,List.getElem?_take] at a
  split at a
  ·simpa using a
  ·cases a
theorem strict_of {P:List (List Int)} (h:P.Pairwise fun x y=>¬lexI y x<0) (hn:P.Nodup):P.Pairwise fun x y=>lexI x y<0:=
 (List.Pairwise.and h hn).imp fun {x y} hxy=>by
  have h1:=lexI_anti x y
  rcases lexI_range x y with e |e |e
  ·omega
  ·exact absurd (lexI_eq _ _ e) hxy.2
  ·exact absurd (show lexI y x<0 by omega) hxy.1
structure QtI (m L:List (List Int)) (wr:World) (sb b0:Nat) (LV:Value) (NA DA:Option Addr) (k nc dc:Nat) (vs:List Value):Prop where
 st:wr.heap[sb]? =some (.cells #[LV,.slice DA k dc,.slice NA k nc,.slice none 0 0] 118 (0,0))
 ni:Own wr b0 2 1 NA k nc ((L.take k).map fun y=> .int .i64 (nrm m y))
 di:Own wr b0 35 1 DA k dc vs
 row:∀i y,i<k->L[i]? =some y->∃B c,vs[i]? =some (.slice B m.length c)/\ArrN NA wr B 2 ((applyW m y).map (Value.int .i64))/\m.length<=c/\c<=9223372036854775807
structure QtJ (m L:List (List Int)) (wr:World) (sb b0:Nat) (LV:Value) (NA DA:Option Addr) (k nc dc:Nat) (vs:List Value) (g:Nat) (y:List Int):Prop where
 st:wr.heap[sb]? =some (.cells #[LV,.slice DA (k+1) dc,.slice NA k nc,.slice none 0 0] 118 (0,0))
 ni:Own wr b0 2 1 NA k nc ((L.take k).map fun y=> .int .i64 (nrm m y))
 di:Own wr b0 35 1 DA (k+1) dc (vs++[.slice (some ⟨g,0,none⟩) m.length m.length])
 row:∀i y,i<k->L[i]? =some y->∃B c,vs[i]? =some (.slice B m.length c)/\ArrN NA wr B 2 ((applyW m y).map (Value.int .i64))/\m.length<=c/\c<=9223372036854775807
 new:ArrN NA wr (some ⟨g,0,none⟩) 2 ((applyW m y).map (Value.int .i64))
theorem QtI.step1 {m L:List (List Int)} {wr W w3:World} {sb b0 g k nc dc d3:Nat} {LV:Value} {NA DA A3:Option Addr} {vs:List Value} {y:List Int} (hI:QtI m L wr sb b0 LV NA DA k nc dc vs) (hx:Ext wr W) (hrow:Row W g 2 .i64 (applyW m y)) (hg:wr.heap.size<=g)
  (hown:Own w3 b0 35 1 A3 (k+1) d3 (vs++[.slice (some ⟨g,0,none⟩) m.length m.length])) (hgr:Grow b0 35 W w3):QtJ m L (w3.setCell ⟨sb,1,none⟩ (.slice A3 (k+1) d3)) sb b0 LV NA A3 k nc d3 vs g y:=by
 have hB3:=hgr.heap (heap_of_ext hx hI.st) (by decide)
 have hoS:=Oth.set (p:=⟨sb,1,none⟩) hB3 (.slice A3 (k+1) d3)
 refine ⟨by rw [heap_setCell_self hB3];rfl,((hI.ni.ext hx).grow hgr (by decide)).oth hoS (by decide),hown.oth hoS (by decide),fun i y hi hy=>?_,?_⟩
 ·obtain ⟨B,c,a,b,e⟩:=hI.row i y hi hy
  exact ⟨B,c,a,((b.ext hx).oth (Oth.of_grow hgr) (by decide)).oth hoS (by decide),e⟩
 ·have hlt:=hI.ni.blockLt
  have hnew:ArrN NA W (some ⟨g,0,none⟩) 2 ((applyW m y).map (Value.int .i64)):=fun _=>⟨g,0,_,_,rfl,fun a ha=>by have :=hlt a ha;omega,hrow,fun j u hu=>by simpa using hu⟩
  exact (hnew.oth (Oth.of_grow hgr) (by decide)).oth hoS (by decide)
theorem QtJ.step2 {m L:List (List Int)} {w4 W w6:World} {sb b0 g k nc dc d6:Nat} {LV:Value} {NA DA A6:Option Addr} {vs:List Value} {y:List Int} (hJ:QtJ m L w4 sb b0 LV NA DA k nc dc vs g y) (hy:L[k]? =some y) (hml:m.length<=1000) (hx:Ext w4 W)
  (hown:Own w6 b0 2 1 A6 (k+1) d6 (((L.take k).map fun y=> .int .i64 (nrm m y))++[.int .i64 (nrm m y)])) (hg:Grow b0 2 W w6) (hgr:Grew NA A6 W w6):QtI m L (w6.setCell ⟨sb,2,none⟩ (.slice A6 (k+1) d6)) sb b0 LV A6 DA (k+1) d6 dc (vs++[.slice (some ⟨g,0,none⟩) m.length m.length]):=by
 have hB6:=hg.heap (heap_of_ext hx hJ.st) (by decide)
 have hoS:=Oth.set (p:=⟨sb,2,none⟩) hB6 (.slice A6 (k+1) d6)
 have hvl:vs.length=k:=by have :=hJ.di.len;simp at this;omega
 refine ⟨by rw [heap_setCell_self hB6];rfl,?_,((hJ.di.ext hx).grow hg (by decide)).oth hoS (by decide),fun i y' hi hy'=>?_⟩
 ·have e:L.take (k+1)=L.take k++[y]:=by rw [List.take_add_one,hy];rfl
  rw [e,List.map_append]
  exact hown.oth hoS (by decide)
 ·rcases Nat.lt_or_ge i k with h |h
  ·obtain ⟨B,c,a,b,e⟩:=hJ.row i y' h hy'
   exact ⟨B,c,by rw [List.getElem?_append_left (by omega)];exact a,((b.ext hx).grew hgr).oth hoS (by decide),e⟩
  ·obtain rfl:i=k:=by omega
   obtain rfl:y=y':=by rw [hy] at hy';injection hy'
   exact ⟨_,m.length,by rw [List.getElem?_append_right (by omega),hvl];simp,((hJ.new.ext hx).grew hgr).oth hoS (by decide),Nat.le_refl _,by omega⟩
theorem QtI.norms {m L:List (List Int)} {wr:World} {sb b0 nc dc:Nat} {NA DA:Option Addr} {LV:Value} {vs:List Value} (hI:QtI m L wr sb b0 LV NA DA L.length nc dc vs):Ints wr NA 2 .i64 (L.map (nrm m)):=by
 have h:=hI.ni.arr
 rw [List.take_length] at h
 show Arr _ _ _ _
 rw [List.map_map]
 exact h
theorem QtI.duals {m L:List (List Int)} {wr:World} {sb b0 nc dc:Nat} {NA DA:Option Addr} {LV:Value} {vs:List Value} (hI:QtI m L wr sb b0 LV NA DA L.length nc dc vs):Mat64 wr DA (L.map (applyW m)):=by
 refine ⟨vs,by have :=hI.di.len;simp;omega,hI.di.arr,fun i r hr=>?_⟩
 rw [List.getElem?_map] at hr
 obtain ⟨y,hy,rfl⟩:∃y,L[i]? =some y/\applyW m y=r:=by
  cases hh:L[i]? with
  |none=>rw [hh] at hr;cases hr
  |some y=>rw [hh] at hr;exact ⟨y,rfl,by simpa using hr⟩
 obtain ⟨B,c,a,b,e⟩:=hI.row i y (List.getElem?_eq_some_iff.1 hy).1 hy
 have hl:(applyW m y).length=m.length:=by simp [applyW]
 exact ⟨B,c,by rw [hl];exact a,b.arr,by rw [hl];exact e.1,e.2⟩
theorem VRowV.oth {w w':World} {T:TypeId} {g:Nat} {els:List VE} (h:VRowV w g els) (ho:Oth T w w') (hT:35≠T):VRowV w' g els:=by
 obtain ⟨cur,hg,hc⟩:=h
 exact ⟨cur,ho _ _ _ _ hT hg,hc⟩
def RetSysI (w:World) (m L:List (List Int)) (e:Ending) (w':World):Prop:=
 ∃(g pc dc nc:Nat) (DA NA:Option Addr) (els:List VE),e= .returned (.agg #[.slice (some ⟨g,0,none⟩) els.length pc,.slice DA els.length dc,.slice NA els.length nc,.slice none 0 0])/\(els.map VE.l).Perm (preL L)/\(els.map VE.l).Pairwise (fun x y=>lexI x y<0)/\VRowV w' g els/\(∀x∈els,x.ok w')/\Mat64 w' DA ((els.map VE.l).map (applyW m))/\Ints w' NA 2 .i64 ((els.map VE.l).map (nrm m))/\Step w w'
theorem Only.grow {T:Nat} {e:TypeId} {w W w3:World} (h:Only T w W) (hg:Grow w.heap.size e W w3) (hT:T<w.heap.size):Only T w w3:=
 ⟨h.below.trans (hg.below.mono (Nat.le_of_lt hT)),fun b h1 h2=>(hg.below.block b h2).trans (h.rest b h1 h2)⟩
set_option maxRecDepth 20000 in
theorem inewSystem_ok {w0 w:World} {A LA:Option Addr} {c lc n q:Nat} {m L:List (List Int)} (hM:MatA w0 A m) (hmn:m.length=n) (hn:n<=1000) (hall:AllLen m n) (hL:Mat64 w0 LA L) (hq:L.length=q) (hq8:q<=8000) (hq1:1<=q) (hnd:(preL L).Nodup) (hnb:∀y∈preL L,-9223372036854775808<=nrm m y/\nrm m y<=9223372036854775807) (hLr:∀x∈L,x.length=n/\∀a∈x,-4611686018427387904<=a/\a<=4611686018427387904) [hx:Ext w0 w]:
  Calls Tryz.prog 59 #[.slice A n c,.slice LA q lc] w (RetSysI w m L):=by
 unfold RetSysI
 have HM:=Lib.hid (And.intro hM (And.intro hmn hall))
 have HL:=Lib.hid hL
 have HQ:=Lib.hid hq
 have HLR:=Lib.hid hLr
 have HND:=Lib.hid hnd
 have HNB:=Lib.hid hnb
 clear hM hmn hall hL hq hLr hnd hnb
 go_enter Tryz.func59,Tryz.ntmps59
 go_wp2_with fail
 obtain ⟨w1,hw1⟩:∃w1,w1=w.alloc (.cells #[.slice none 0 0,.slice none 0 0,.slice none 0 0,.slice none 0 0] 118):=⟨_,rfl⟩
 rw [<-hw1]
 have hz1:w1.heap.size=w.heap.size+1:=by rw [hw1];simp
 have hr1:w1.heap[w.heap.size]? =some (.cells #[.slice none 0 0,.slice none 0 0,.slice none 0 0,.slice none 0 0] 118 (0,0)):=by rw [hw1];exact heap_alloc_new w _
 have hx1:Ext w w1:=by rw [hw1];infer_instance
 rw [<-hz1]
 clear hw1
 have hst:=heap_alloc_new w1 (.cells #[.slice none 0 0,.slice none 0 0,.slice none 0 0,.slice none 0 0] 118)
 have hx2:Ext w1 (w1.alloc (.cells #[.slice none 0 0,.slice none 0 0,.slice none 0 0,.slice none 0 0] 118)):=inferInstance
 have hr2:=heap_of_ext hx2 hr1
 generalize w1.alloc (.cells #[.slice none 0 0,.slice none 0 0,.slice none 0 0,.slice none 0 0] 118)=w2 at*
 have HR2:=Lib.hid hr2
 have HR1:=Lib.hid hr1
 have HST:Hid (PtI n w2 w1.heap.size (preL (L.take 0)) [] none (2*0) 0):=Lib.hid ⟨hst,Own.nil w2 w1.heap.size 35 1,fun x hx=>absurd hx (by simp),rfl⟩
 have hx02:Ext w0 w2:=hx.trans (hx1.trans hx2)
 have HX2:=Lib.hid (And.intro hx1 hx2)
 clear hr1 hr2 hst hx1 hx2 hz1
 go_loopw [7,8,9,10,18,27] (fun _ _ _ _ i _ wr=>∃(k pc:Nat) (PA:Option Addr) (els:List VE),k<=q/\i= .int .i64 k/\Hid (PtI n wr w1.heap.size (preL (L.take k)) els PA (2*k) pc)/\Ext w1 wr) (fun _ _ _ _ i _ _=>q-(intOf i).toNat)
 case atStart=>exact ⟨0,0,none,[],by omega,rfl,HST,HX2.out.2⟩
 case round=>
  obtain ⟨k,pc,PA,els,hk,rfl,HI,hxr⟩:=hrel
  have hx1r:=hxr
  obtain ⟨wo,rfl⟩:∃wo:World,wo=wr:=⟨_,rfl⟩
  have hx0r:Ext w0 wo:=hx.trans (HX2.out.1.trans hxr)
  by_cases hlt:k<q
  ·obtain ⟨x,hxk⟩:∃x,L[k]? =some x:=⟨_,List.getElem?_eq_getElem (by rw [HQ.out];exact hlt)⟩
   have hxm:=List.mem_of_getElem? hxk
   obtain ⟨hxl,hxb⟩:=HLR.out x hxm
   obtain ⟨lb,lo,B,c1,rfl,e1,hB,e3,e4,e5⟩:=(HL.out.ext hx0r).at_ hxk
   rw [hxl] at e1 e3
   have hmk:=run_make_ints (P:=Tryz.prog) (k:= .i64) Tryz.underlying35 infoI64 (by omega) (n:Int) (by omega) (by omega)
   have oL:Old lb wo:=⟨e5⟩
   have HXL:=Lib.hid (And.intro hxk hxl)
   have HXB:=Lib.hid hxb
   have HB:=Lib.hid hB
   have HV0:Hid (Row (wo.alloc (.cells (mkRow n .i64) 2)) wo.heap.size 2 .i64 ((x.take 0).map (fun c=>-c)++List.replicate (x.length-0) 0)):=Lib.hid (by rw [hxl];simpa using Row.made wo n .i64 2)
   have hxv:Ext wo (wo.alloc (.cells (mkRow n .i64) 2)):=inferInstance
   clear hxk hxm hxl hxb hB
   go_wp2_with fail
   clear hmk e1
   go_loopw [9,10,27] (fun _ _ j wr=>∃r:Nat,r<=n/\j= .int .i64 r/\Hid (Row wr wo.heap.size 2 .i64 ((x.take r).map (fun c=>-c)++List.replicate (x.length-r) 0))/\Ext wo wr) (fun _ _ j _=>n-(intOf j).toNat)
   case atStart=>exact ⟨0,by omega,rfl,HV0,hxv⟩
   case round=>
    obtain ⟨r,hr,rfl,HV,hxw⟩:=hrel
    by_cases hrn:r<n
    ·obtain ⟨bb,bo,a,rfl,ha,f1,f2⟩:=(HB.out.ext hxw).at_ (i:=r) (by rw [HXL.out.2];exact hrn)
     have hab:=HXB.out a (List.mem_of_getElem? ha)
     have hng:IntKind.i64.wrap (-a)=-a:=IntWalk.i64_in _ (by omega)
     have HS:=Lib.hid (negRow_step ha)
     obtain ⟨y0,-,m1⟩:=HV.out.cell (i:=r) (by simp;have :=HXL.out.2;omega)
     have m2:=HV.out.frozen r
     have hvl:=HV.out.lt
     have oB:Old bb wr:=⟨f2⟩
     clear ha
     go_wp2_with fail
     refine ⟨⟨r+1,by omega,by go_num,Lib.hid ?_,?_⟩,by simp [intOf];omega⟩
     ·have h2:=HV.out.set r (-a)
      rw [HS.out] at h2
      exact h2
     ·exact hxw.setCell (p:=⟨wo.heap.size,r,none⟩) (Nat.le_refl _) _
    ·obtain rfl:r=n:=by omega
     have hrw:(x.take r).map (fun c=>-c)++List.replicate (x.length-r) 0=x.map fun c=>-c:=by
      rw [HXL.out.2,Nat.sub_self,List.take_of_length_le (by rw [HXL.out.2];exact Nat.le_refl _)];simp
     rw [hrw] at HV
     obtain ⟨wv,rfl⟩:∃wv:World,wv=wr:=⟨_,rfl⟩
     have hxv2:Ext wo wv:=hxw
     have hb:=heap_of_ext hxv2 HI.out.st
     have s1:wv.cell? ⟨w1.heap.size,0,none⟩=some (.slice PA (2*k) pc):=by simp [World.cell?,hb]
     have s2:wv.frozen? ⟨w1.heap.size,0,none⟩=false:=by simp [World.frozen?,hb]
     have oS:Old w1.heap.size wv:=⟨lt_of_heap hb⟩
     have HOW:=Lib.hid (fun (W:World) (e:Ext wv W)=>HI.out.own.ext (hxv2.trans e))
     have hl0:w1.heap.size<=wv.heap.size:=(hxr.trans hxv2).size
     clear hb
     go_upto_region 12 with (at_builtin;go_loud (refine wpList_app _ rfl _ _ 25 rfl w1.heap.size 35 (.slice none 0 0) 1 24 Tryz.underlying25 infoSlI64 rfl (by omega) (by omega) PA (2*k) pc _ rfl (HOW.out _ inferInstance) (some ⟨wv.heap.size,0,none⟩) 2 2 [.slice B r c1,.slice (some ⟨wo.heap.size,0,none⟩) r r] rfl (Arr.new wv 35 #[.slice B r c1,.slice (some ⟨wo.heap.size,0,none⟩) r r]) (by simp) (by simp [Value.oneCell']) (by omega) (by simp;omega) ?_);intro A6 d6 w6 hown hg;have hb6:=hg.heap (heap_of_ext (hxv2.trans inferInstance) HI.out.st) (by decide);have z1:w6.frozen? ⟨w1.heap.size,0,none⟩=false:=(by simp [World.frozen?,hb6]);have z2:w6.cell? ⟨w1.heap.size,0,none⟩=some (.slice PA (2*k) pc):=(by simp [World.cell?,hb6]);have z3:=lt_of_heap hb6)
     have hpx:preL (L.take (k+1))=preL (L.take k)++[x,x.map fun c=>-c]:=by rw [List.take_add_one,HXL.out.1];exact preL_snoc _ _
     have hxl:=HXL.out.2
     have hWv:Ext wv (wv.alloc (.cells #[.slice B r c1,.slice (some ⟨wo.heap.size,0,none⟩) r r] 35)):=inferInstance
     have hpush:=HI.out.push (c1:=c1) (g:=wo.heap.size) (B:=B) (x:=x) (hxv2.trans hWv) ((HB.out.ext hxv2).ext hWv) (by rw [hrw] at*;exact heap_of_ext hWv HV.out) (by omega) (by rw [hxl];exact e3) e4 (by rw [hxl];exact hown) hg
     have hx6:Ext w1 (w6.setCell ⟨w1.heap.size,0,none⟩ (.slice A6 (2*k+2) d6)):=(hg.ext (hx1r.trans (hxv2.trans hWv)) (Nat.le_refl _)).setCell (p:=⟨w1.heap.size,0,none⟩) (Nat.le_refl _) _
     rw [<-hpx] at hpush
     have HP:=Lib.hid hpush
     clear hpush hown hg hb6 z1 z2 hpx
     go_wp2_with fail
     exact ⟨⟨k+1,d6,A6,_,by omega,by go_num,HP,hx6⟩,by simp [intOf];omega⟩
  ·obtain rfl:k=q:=by omega
   have hst:=HI.out.st
   have s1:wo.cell? ⟨w1.heap.size,0,none⟩=some (.slice PA (2*k) pc):=by simp [World.cell?,hst]
   have oS:Old w1.heap.size wo:=⟨lt_of_heap hst⟩
   have hel:els.length=2*k:=by have :=congrArg List.length HI.out.ls;rw [List.length_map,preL_len,List.length_take,HQ.out] at this;omega
   obtain ⟨g,rfl,hgb,hrow⟩:=VRowV.of_own HI.out.own (by omega)
   have hsc:=SortV_any (cap:=pc) hrow HI.out.ok (by omega)
   rw [hel] at hsc
   have HSC:=Lib.hid hsc
   have HST2:=Lib.hid hst
   have hgne:g≠w1.heap.size:=fun e=>by
    obtain ⟨cur,hgc,-⟩:=hrow
    rw [e,hst] at hgc
    injection hgc with hgc
    injection hgc with _ he
    exact absurd he (by decide)
   clear hst hsc hrow
   go_upto_region 14 with (go_at_call 111;refine HSC.out.mono ?_;rintro e w7 ⟨rfl,els',hp,hso,hrow7,hok7,hsame⟩)
   have hPl:(els'.map VE.l).Perm (preL L):=by
    have h1:=hp.map VE.l
    rw [HI.out.ls,List.take_of_length_le (by rw [HQ.out];exact Nat.le_refl _)] at h1
    exact h1
   have hPs:(els'.map VE.l).Pairwise fun x y=>lexI x y<0:=strict_of (List.pairwise_map.2 (hso.imp fun h=>by omega)) (hPl.nodup_iff.2 HND.out)
   have hst7:w7.heap[w1.heap.size]? =some (.cells #[.slice (some ⟨g,0,none⟩) (2*k) pc,.slice none 0 0,.slice none 0 0,.slice none 0 0] 118 (0,0)):=(hsame.1 _ (lt_of_heap HST2.out) (fun e=>hgne e.symm)).trans HST2.out
   have hx7:Ext w1 w7:=⟨hx1r.below.trans (hsame.2 _ hgb)⟩
   have hel7:els'.length=2*k:=by rw [hp.length_eq];exact hel
   have HP7:=Lib.hid (And.intro hPl (And.intro hPs (And.intro hrow7 (And.intro hok7 hel7))))
   have HST7:=Lib.hid hst7
   clear hPl hPs hrow7 hok7 hel7 hp hso hsame HSC HST2 s1 oS hst7 hel
   obtain ⟨P,hP⟩:∃P,P=els'.map VE.l:=⟨_,rfl⟩
   obtain ⟨N,hN⟩:∃N,N=2*k:=⟨_,rfl⟩
   have hPN:P.length=N:=by rw [hP,List.length_map,HP7.out.2.2.2.2,hN]
   have HPN:=Lib.hid hPN
   have HPE:=Lib.hid hP
   have HPB:Hid (∀y∈P,-9223372036854775808<=nrm m y/\nrm m y<=9223372036854775807):=Lib.hid (fun y hy=>HNB.out y (by rw [hP,HP7.out.1.mem_iff] at hy;exact hy))
   have HPY:Hid (∀y∈P,y.length=n):=Lib.hid (fun y hy=>by
    rw [hP,HP7.out.1.mem_iff,preL_mem] at hy
    rcases hy with hy |hy
    ·exact (HLR.out y hy).1
    ·have :=(HLR.out _ hy).1;simpa using this)
   have hs7:w7.cell? ⟨w1.heap.size,0,none⟩=some (.slice (some ⟨g,0,none⟩) N pc):=by rw [hN];simp [World.cell?,HST7.out]
   have oS7:Old w1.heap.size w7:=⟨lt_of_heap HST7.out⟩
   have HN8:N<=16000:=by omega
   have HQ0:Hid (QtI m P w7 w1.heap.size w7.heap.size (.slice (some ⟨g,0,none⟩) N pc) none none 0 0 0 []):=Lib.hid ⟨by rw [hN];exact HST7.out,Own.nil _ _ _ _,Own.nil _ _ _ _,fun i y hi=>absurd hi (by omega)⟩
   have hx07:Ext w0 w7:=hx.trans (HX2.out.1.trans hx7)
   have HSB:Hid (w1.heap.size<w7.heap.size):=Lib.hid (lt_of_heap HST7.out)
   rw [<-hN]
   clear hN hP hPN HI HL HND HST
   go_wp2_with fail
   go_loopw [12,13,14,15,52,61] (fun _ _ _ _ i _ wr=>∃(k2:Nat) (NA DA:Option Addr) (nc dc:Nat) (vs:List Value),k2<=N/\i= .int .i64 k2/\Hid (QtI m P wr w1.heap.size w7.heap.size (.slice (some ⟨g,0,none⟩) N pc) NA DA k2 nc dc vs)/\Hid (Only w1.heap.size w7 wr)) (fun _ _ _ _ i _ _=>N-(intOf i).toNat)
   case atStart=>exact ⟨0,none,none,0,0,[],by omega,rfl,HQ0,Lib.hid (Only.refl _ _)⟩
   case round=>
    obtain ⟨k2,NA,DA,nc,dc,vs,hk2,rfl,HI,HO⟩:=hrel
    obtain ⟨wa,rfl⟩:∃wa:World,wa=wr:=⟨_,rfl⟩
    have hx1a:Ext w1 wa:=HO.out.ext hx7 (Nat.le_refl _)
    have hx0a:Ext w0 wa:=hx.trans (HX2.out.1.trans hx1a)
    by_cases hlt2:k2<N
    ·obtain ⟨z,hz⟩:∃z,els'[k2]? =some z:=⟨_,List.getElem?_eq_getElem (by have :=HPN.out;rw [HPE.out,List.length_map] at this;omega)⟩
     have hzy:P[k2]? =some z.l:=by rw [HPE.out,List.getElem?_map,hz];rfl
     have hzm:=List.mem_of_getElem? hz
     have hzl:z.l.length=n:=HPY.out _ (List.mem_of_getElem? hzy)
     obtain ⟨p1,-,p3⟩:=HP7.out.2.2.1.cell hz
     have p1a:wa.cell? ⟨g,k2,none⟩=some (.slice z.A n z.c):=by
      rw [HO.out.cell (p:=⟨g,k2,none⟩) p3 hgne,p1,<-hzl];rfl
     have hB:Ints wa z.A 2 .i64 z.l:=(HP7.out.2.2.2.1 z hzm).1.keep fun b cs fr hb=>HO.out.at_ (lt_of_heap hb) (fun e=>by
      rw [e,HST7.out] at hb
      injection hb with hb
      injection hb with _ he
      exact absurd he (by decide))
     have oG:Old g wa:=⟨Nat.lt_of_lt_of_le p3 HO.out.size⟩
     have hmk:=run_make_ints (P:=Tryz.prog) (k:= .i64) Tryz.underlying35 infoI64 (by omega) (n:Int) (by omega) (by omega)
     have hV0:Row (wa.alloc (.cells (mkRow n .i64) 2)) wa.heap.size 2 .i64 ((applyW m z.l).take 0++List.replicate (n-0) 0):=by simpa using Row.made wa n .i64 2
     have hxv0:Ext wa (wa.alloc (.cells (mkRow n .i64) 2)):=inferInstance
     have HZ:=Lib.hid (And.intro hzy (And.intro hzl hB))
     have HV0:=Lib.hid hV0
     have HYl:Hid ((applyW m z.l).length=n):=Lib.hid (by simp [applyW,HM.out.2.1])
     clear hz hzy hzm hzl p1 p3 hB hV0
     generalize z.l=y at*
     generalize z.A=B at*
     generalize z.c=c1 at*
     go_wp2_with fail
     clear hmk p1a
     go_loopw [14,15,61] (fun _ _ j wr=>∃r:Nat,r<=n/\j= .int .i64 r/\Hid (Row wr wa.heap.size 2 .i64 ((applyW m y).take r++List.replicate (n-r) 0))/\Ext wa wr) (fun _ _ j _=>n-(intOf j).toNat)
     case atStart=>exact ⟨0,by omega,rfl,HV0,hxv0⟩
     case round=>
      obtain ⟨r,hr,rfl,HV,hxw⟩:=hrel
      obtain ⟨wd,rfl⟩:∃wd:World,wd=wr:=⟨_,rfl⟩
      by_cases hrn:r<n
      ·have hrm:r<m.length:=by rw [HM.out.2.1];exact hrn
       obtain ⟨mb,mo,R,c2,rfl,f1,f2,f3,f4,f5⟩:=(HM.out.1.ext (hx0a.trans hxw)).at_ (i:=r) (r:=m[r]) (by simp [hrm])
       have hRl:m[r].length=n:=HM.out.2.2 _ (List.getElem_mem _)
       rw [hRl] at f1 f3
       have hYr:(applyW m y)[r]? =some (dotW m[r] y):=by simp [applyW,hrm]
       have HD:=Lib.hid (fun W (e:Ext wd W)=>idot_any (w0:=wd) (w:=W) (c:=c2) (d:=c1) f2 ⟨_,HZ.out.2.2.ext hxw⟩ hRl HZ.out.2.1 (Nat.le_refl _) (by omega))
       have HSET:=Lib.hid (fill_set (applyW m y) r n _ hYr hrn)
       obtain ⟨y0,-,m1⟩:=HV.out.cell (i:=r) (by simp;have :=HYl.out;omega)
       have m2:=HV.out.frozen r
       have hvl:=HV.out.lt
       have oM:Old mb wd:=⟨f5⟩
       generalize dotW m[r] y=dv at*
       clear f2 hYr hRl
       go_wp2_with (go_at_call 110;refine (HD.out _ inferInstance).mono ?_;rintro e w5 ⟨rfl,rfl⟩)
       refine ⟨⟨r+1,by omega,by go_num,Lib.hid ?_,?_⟩,by simp [intOf];omega⟩
       ·have h2:=HV.out.set r dv
        rw [HSET.out] at h2
        exact h2
       ·exact hxw.setCell (p:=⟨wa.heap.size,r,none⟩) (Nat.le_refl _) _
      ·obtain rfl:r=n:=by omega
       have hfull:(applyW m y).take r++List.replicate (r-r) 0=applyW m y:=by
        rw [Nat.sub_self,List.take_of_length_le (by rw [HYl.out];exact Nat.le_refl _)];simp
       rw [hfull] at HV
       have hst:=heap_of_ext hxw HI.out.st
       have s1:wd.cell? ⟨w1.heap.size,1,none⟩=some (.slice DA k2 dc):=by simp [World.cell?,hst]
       have s2:wd.frozen? ⟨w1.heap.size,1,none⟩=false:=by simp [World.frozen?,hst]
       have oS:Old w1.heap.size wd:=⟨lt_of_heap hst⟩
       have hb0:w7.heap.size<=wd.heap.size:=by have :=HO.out.size;have :=hxw.size;omega
       have HDI:=Lib.hid (fun (W:World) (e:Ext wd W)=>HI.out.di.ext (hxw.trans e))
       clear hst
       go_upto_region 24 with (at_builtin;go_loud (refine wpList_app _ rfl _ _ 25 rfl w7.heap.size 35 (.slice none 0 0) 1 24 Tryz.underlying25 infoSlI64 rfl (by omega) (by omega) DA k2 dc vs rfl (HDI.out _ inferInstance) (some ⟨wd.heap.size,0,none⟩) 1 1 [.slice (some ⟨wa.heap.size,0,none⟩) r r] rfl (Arr.new wd 35 #[.slice (some ⟨wa.heap.size,0,none⟩) r r]) (by simp) (by simp [Value.oneCell']) (by omega) (by simp;omega) ?_);intro A3 d3 w3 hown hg;have hb3:=hg.heap (heap_of_ext (hxw.trans inferInstance) HI.out.st) (by decide);have q1:w3.frozen? ⟨w1.heap.size,1,none⟩=false:=(by simp [World.frozen?,hb3]);have q2:w3.cell? ⟨w1.heap.size,1,none⟩=some (.slice DA k2 dc):=(by simp [World.cell?,hb3]);have q3:=lt_of_heap hb3)
       have hWd:Ext wd (wd.alloc (.cells #[.slice (some ⟨wa.heap.size,0,none⟩) r r] 35)):=inferInstance
       have hxa:Ext wa (wd.alloc (.cells #[.slice (some ⟨wa.heap.size,0,none⟩) r r] 35)):=hxw.trans hWd
       have hJ:=HI.out.step1 (y:=y) (g:=wa.heap.size) hxa (heap_of_ext hWd HV.out) (Nat.le_refl _) (by rw [HM.out.2.1];exact hown) hg
       have hO4:Only w1.heap.size w7 (w3.setCell ⟨w1.heap.size,1,none⟩ (.slice A3 (k2+1) d3)):=(((HO.out.trans (Only.of_ext hxa (Nat.le_of_lt (lt_of_heap HI.out.st)))).grow hg HSB.out).trans (Only.set q3 1 _))
       have hR4:Row (w3.setCell ⟨w1.heap.size,1,none⟩ (.slice A3 (k2+1) d3)) wa.heap.size 2 .i64 (applyW m y):=(Oth.set (p:=⟨w1.heap.size,1,none⟩) hb3 (.slice A3 (k2+1) d3)) _ _ _ _ (by decide) (hg.heap (heap_of_ext hWd HV.out) (by decide))
       have hx14:Ext w1 (w3.setCell ⟨w1.heap.size,1,none⟩ (.slice A3 (k2+1) d3)):=hO4.ext hx7 (Nat.le_refl _)
       have hB4:Ints (w3.setCell ⟨w1.heap.size,1,none⟩ (.slice A3 (k2+1) d3)) B 2 .i64 y:=((HZ.out.2.2.ext hxa).grow hg (by decide)).oth (Oth.set (p:=⟨w1.heap.size,1,none⟩) hb3 (.slice A3 (k2+1) d3)) (by decide)
       have hs4:w7.heap.size<=(w3.setCell ⟨w1.heap.size,1,none⟩ (.slice A3 (k2+1) d3)).heap.size:=hO4.size
       generalize w3.setCell ⟨w1.heap.size,1,none⟩ (.slice A3 (k2+1) d3)=w4 at*
       have hnv:dotW (applyW m y) y=nrm m y:=dotW_norm (HPB.out y (List.mem_of_getElem? HZ.out.1))
       have HD4:=Lib.hid (fun W (e:Ext w4 W)=>idot_any (w0:=w4) (w:=W) (c:=r) (d:=c1) ⟨_,hR4.ints⟩ ⟨_,hB4⟩ HYl.out HZ.out.2.1 (Nat.le_refl _) (by omega))
       rw [hnv] at HD4
       obtain ⟨nv,hnve⟩:∃nv,nv=nrm m y:=⟨_,rfl⟩
       rw [<-hnve] at HD4
       have HNV:=Lib.hid hnve
       have hstJ:=hJ.st
       have r1:w4.cell? ⟨w1.heap.size,2,none⟩=some (.slice NA k2 nc):=by simp [World.cell?,hstJ]
       have r2:w4.frozen? ⟨w1.heap.size,2,none⟩=false:=by simp [World.frozen?,hstJ]
       have oS4:Old w1.heap.size w4:=⟨lt_of_heap hstJ⟩
       have HJ:=Lib.hid hJ
       have HO4:=Lib.hid hO4
       have HXA:=Lib.hid (And.intro hx14 hx1a)
       clear hJ hO4 hR4 hB4 hnv hnve hstJ hown hg hb3 q1 q2 q3 s1 s2 oS hWd hxa hxw hx14 hx1a hx0a HDI HV0 hxv0 oG hx07 hx7 hxr hx1r hx0r
       go_region_law (first
        |((refine step_appx _ rfl (.tmp 80) (.tmp 84) 35 rfl w7.heap.size 2 (.int .i64 0) 1 8 Tryz.underlying35 infoI64 rfl (by decide) (by decide) NA k2 nc _ (by simp [Act.eval]) (HJ.out.ni.ext inferInstance) ⟨w4.heap.size,0,none⟩ 1 1 [.int .i64 nv] (by simp [Act.eval]) ((Arr.new w4 2 #[.int .i64 nv]).ext inferInstance) rfl (by simp [Value.oneCell']) (by omega) (by simp<;>omega) ?_);intro A6 d6 w6 hown6 hg6 hgr6;have hb6:=hg6.heap (heap_of_ext (inferInstance:Ext w4 ((w4.alloc (Obj.cells #[Value.int .i64 nv] 2)).drew)) HJ.out.st) (by decide);have z1:w6.frozen? ⟨w1.heap.size,2,none⟩=false:=(by simp [World.frozen?,hb6]);have z2:w6.cell? ⟨w1.heap.size,2,none⟩=some (.slice NA k2 nc):=(by simp [World.cell?,hb6]);have z3:=lt_of_heap hb6)
        |(go_simp;go_at_call 110;refine (HD4.out _ inferInstance).mono ?_;rintro e w5 ⟨rfl,rfl⟩))
       all_goals
        have hW4:Ext w4 ((w4.alloc (Obj.cells #[Value.int .i64 nv] 2)).drew):=inferInstance
        have hfin:=HJ.out.step2 (W:=(w4.alloc (Obj.cells #[Value.int .i64 nv] 2)).drew) HZ.out.1 (by rw [HM.out.2.1];omega) hW4 (by rw [<-HNV.out];exact hown6) hg6 hgr6
        have hO6:Only w1.heap.size w7 (w6.setCell ⟨w1.heap.size,2,none⟩ (.slice A6 (k2+1) d6)):=(((HO4.out.trans (Only.of_ext hW4 (Nat.le_of_lt oS4.lt))).grow hg6 HSB.out).trans (Only.set z3 2 _))
        have HFIN:=Lib.hid hfin
        have HO6:=Lib.hid hO6
        clear hfin hO6 hown6 hg6 hgr6 hb6 z1 z2
        go_wp2_with fail
        exact ⟨⟨k2+1,A6,A3,d6,d3,_,by omega,by go_num,HFIN,HO6⟩,by simp [intOf];omega⟩
    ·obtain rfl:k2=N:=by omega
     have hst:=HI.out.st
     have hrr:=heap_of_ext hx1a HR1.out
     have c0:wa.cell? ⟨w1.heap.size,0,none⟩=some (.slice (some ⟨g,0,none⟩) k2 pc):=by simp [World.cell?,hst]
     have c1:wa.cell? ⟨w1.heap.size,1,none⟩=some (.slice DA k2 dc):=by simp [World.cell?,hst]
     have c2:wa.cell? ⟨w1.heap.size,2,none⟩=some (.slice NA k2 nc):=by simp [World.cell?,hst]
     have c3:wa.cell? ⟨w1.heap.size,3,none⟩=some (.slice none 0 0):=by simp [World.cell?,hst]
     have d0:wa.cell? ⟨w.heap.size,0,none⟩=some (.slice none 0 0):=by simp [World.cell?,hrr]
     have d1:wa.cell? ⟨w.heap.size,1,none⟩=some (.slice none 0 0):=by simp [World.cell?,hrr]
     have d2:wa.cell? ⟨w.heap.size,2,none⟩=some (.slice none 0 0):=by simp [World.cell?,hrr]
     have d3:wa.cell? ⟨w.heap.size,3,none⟩=some (.slice none 0 0):=by simp [World.cell?,hrr]
     have f0:wa.frozen? ⟨w.heap.size,0,none⟩=false:=by simp [World.frozen?,hrr]
     have f1:wa.frozen? ⟨w.heap.size,1,none⟩=false:=by simp [World.frozen?,hrr]
     have f2:wa.frozen? ⟨w.heap.size,2,none⟩=false:=by simp [World.frozen?,hrr]
     have f3:wa.frozen? ⟨w.heap.size,3,none⟩=false:=by simp [World.frozen?,hrr]
     have oS:Old w1.heap.size wa:=⟨lt_of_heap hst⟩
     have oR:Old w.heap.size wa:=⟨lt_of_heap hrr⟩
     have HRR:=Lib.hid hrr
     clear hst hrr
     go_wp2_with fail
     have hg1:=heap_setCell_self (i:=0) HRR.out (.slice (some ⟨g,0,none⟩) k2 pc)
     have hg2:=heap_setCell_self (i:=1) hg1 (.slice DA k2 dc)
     have hg3:=heap_setCell_self (i:=2) hg2 (.slice NA k2 nc)
     have hfb:((((wa.setCell ⟨w.heap.size,0,none⟩ (.slice (some ⟨g,0,none⟩) k2 pc)).setCell ⟨w.heap.size,1,none⟩ (.slice DA k2 dc)).setCell ⟨w.heap.size,2,none⟩ (.slice NA k2 nc)).setCell ⟨w.heap.size,3,none⟩ (.slice none 0 0)).heap[w.heap.size]? =some (.cells #[.slice (some ⟨g,0,none⟩) k2 pc,.slice DA k2 dc,.slice NA k2 nc,.slice none 0 0] 118 (0,0)):=by
      rw [heap_setCell_self hg3 _];rfl
     have ho:Oth 118 wa ((((wa.setCell ⟨w.heap.size,0,none⟩ (.slice (some ⟨g,0,none⟩) k2 pc)).setCell ⟨w.heap.size,1,none⟩ (.slice DA k2 dc)).setCell ⟨w.heap.size,2,none⟩ (.slice NA k2 nc)).setCell ⟨w.heap.size,3,none⟩ (.slice none 0 0)):=((Oth.set (p:=⟨w.heap.size,0,none⟩) HRR.out _).trans (Oth.set (p:=⟨w.heap.size,1,none⟩) hg1 _)).trans ((Oth.set (p:=⟨w.heap.size,2,none⟩) hg2 _).trans (Oth.set (p:=⟨w.heap.size,3,none⟩) hg3 _))
     have hxF:Ext w ((((wa.setCell ⟨w.heap.size,0,none⟩ (.slice (some ⟨g,0,none⟩) k2 pc)).setCell ⟨w.heap.size,1,none⟩ (.slice DA k2 dc)).setCell ⟨w.heap.size,2,none⟩ (.slice NA k2 nc)).setCell ⟨w.heap.size,3,none⟩ (.slice none 0 0)):=((((HX2.out.1.trans hx1a).setCell (p:=⟨w.heap.size,0,none⟩) (Nat.le_refl _) _).setCell (p:=⟨w.heap.size,1,none⟩) (Nat.le_refl _) _).setCell (p:=⟨w.heap.size,2,none⟩) (Nat.le_refl _) _).setCell (p:=⟨w.heap.size,3,none⟩) (Nat.le_refl _) _
     clear hg1 hg2 hg3
     generalize ((((wa.setCell ⟨w.heap.size,0,none⟩ (.slice (some ⟨g,0,none⟩) k2 pc)).setCell ⟨w.heap.size,1,none⟩ (.slice DA k2 dc)).setCell ⟨w.heap.size,2,none⟩ (.slice NA k2 nc)).setCell ⟨w.heap.size,3,none⟩ (.slice none 0 0))=wf at*
     have y0:wf.cell? ⟨w.heap.size,0,none⟩=some (.slice (some ⟨g,0,none⟩) k2 pc):=by simp [World.cell?,hfb]
     have y1:wf.cell? ⟨w.heap.size,1,none⟩=some (.slice DA k2 dc):=by simp [World.cell?,hfb]
     have y2:wf.cell? ⟨w.heap.size,2,none⟩=some (.slice NA k2 nc):=by simp [World.cell?,hfb]
     have y3:wf.cell? ⟨w.heap.size,3,none⟩=some (.slice none 0 0):=by simp [World.cell?,hfb]
     obtain ⟨hPl,hPs,hrow7,hok7,hel7⟩:=HP7.out
     have hPk:els'.length=k2:=by have :=HPN.out;rw [HPE.out,List.length_map] at this;exact this
     have HI2:=HI.out
     rw [<-HPN.out] at HI2
     have hrowA:VRowV wa g els':=by
      obtain ⟨cur,hg,hc⟩:=hrow7
      exact ⟨cur,(HO.out.at_ (lt_of_heap hg) hgne).trans hg,hc⟩
     have hokA:∀z∈els',z.ok wf:=fun z hz=>⟨((hok7 z hz).1.keep fun b cs fr hb=>HO.out.at_ (lt_of_heap hb) (fun e=>by
      rw [e,HST7.out] at hb
      injection hb with hb
      injection hb with _ he
      exact absurd he (by decide))).oth ho (by decide),(hok7 z hz).2⟩
     refine bodyPost_ret (v:= .agg #[.slice (some ⟨g,0,none⟩) k2 pc,.slice DA k2 dc,.slice NA k2 nc,.slice none 0 0]) (by simp [results,Tryz.results59,go_sem,y0,y1,y2,y3]) rfl ⟨g,pc,dc,nc,DA,NA,els',by rw [hPk],hPl,hPs,hrowA.oth ho (by decide),hokA,?_,?_,hxF.toStep⟩
     ·rw [<-HPE.out];exact HI2.duals.oth ho (by decide) (by decide)
     ·rw [<-HPE.out];exact HI2.norms.oth ho (by decide)
end Go.Proofs.YtpcgfpmiphiacaaGreat
namespace Go.Proofs.YtpcgfpmiphiacaaGreat
open La
section
variable {m L P:List (List Int)} {q:Int}
theorem pre_nodup (h:VecList m q false L):(preL L).Nodup:=by
 have hn:=h.nodup
 have hp:∀x∈L,0<firstNZ x:=fun x hx=>((h.mem x).1 hx).2.1
 clear h
 induction L with
 |nil=>exact List.nodup_nil
 |cons x L ih=>
  have hn':=List.nodup_cons.1 hn
  have ih:=ih hn'.2 fun y hy=>hp y (by simp [hy])
  have h0:=hp x (by simp)
  have e:preL (x::L)=x::(x.map fun c=>-c)::preL L:=by simp [preL]
  rw [e]
  refine List.nodup_cons.2 ⟨fun hm=>?_,List.nodup_cons.2 ⟨fun hm=>?_,ih⟩⟩
  ·rcases List.mem_cons.1 hm with e |hm
   ·have :=firstNZ_neg x
    rw [<-e] at this
    omega
   ·rcases preL_mem.1 hm with hm |hm
    ·exact hn'.1 hm
    ·have :=hp _ (List.mem_cons_of_mem _ hm)
     rw [firstNZ_neg] at this
     omega
  ·rcases preL_mem.1 hm with hm |hm
   ·have :=hp _ (List.mem_cons_of_mem _ hm)
    rw [firstNZ_neg] at this
    omega
   ·rw [neg_neg_L] at hm
    exact hn'.1 hm
theorem pre_mem (h:VecList m q false L) (x:List Int):x∈preL L↔x.length=m.length/\firstNZ x≠0/\nrm m x<=q:=by
 rw [preL_mem,h.mem,h.mem,firstNZ_neg,nrm_neg,List.length_map]
 constructor
 ·rintro (⟨h1,h2,h3,-⟩ |⟨h1,h2,h3,-⟩)
  ·exact ⟨h1,by omega,h3⟩
  ·exact ⟨h1,by omega,h3⟩
 ·rintro ⟨h1,h2,h3⟩
  rcases Int.lt_or_gt_of_ne h2 with h4 |h4
  ·exact .inr ⟨h1,by omega,h3,fun e=>by cases e⟩
  ·exact .inl ⟨h1,h4,h3,fun e=>by cases e⟩
theorem pts_of (h:VecList m q false L) (hp:P.Perm (preL L)) (hs:P.Pairwise fun x y=>lexI x y<0):PtsOf m q P:=⟨hs,fun x=>by rw [hp.mem_iff,pre_mem h]⟩
theorem pts_len (hp:P.Perm (preL L)):P.length=2*L.length:=by rw [hp.length_eq,preL_len]
theorem PtsOf.nb (h:PtsOf m q P) (hr:RedOK m) {x:List Int} (hx:x∈P):0<=nrm m x/\nrm m x<=q:=⟨nrm_nonneg hr x ((h.mem x).1 hx).1,((h.mem x).1 hx).2.2⟩
theorem PtsOf.rows (h:PtsOf m q P):∀x∈P,x.length=m.length:=fun x hx=>((h.mem x).1 hx).1
theorem PtsOf.ip (h:PtsOf m q P) (hr:RedOK m):∀x∈P,∀y∈P,ipR m x y=dotL (applyL m x) y:=fun x hx y hy=>by
 rw [ipR_comm hr.sym]
 exact ipR_dot (isSmallB_all hr.small) (h.rows y hy) (h.rows x hx)
theorem nrm_unit (hr:RedOK m) {k:Nat} (hk:k<m.length):nrm m (unL m.length k)=ent m k k:=by rw [<-ipR_nrm (isSmallB_all hr.small) _ (unL_len _ _),ipR_unit hk hk]
theorem first_unit {n k:Nat} (hk:k<n):0<firstNZ (unL n k):=by
 unfold unL
 induction n generalizing k with
 |zero=>omega
 |succ n ih=>
  rw [List.replicate_succ]
  cases k with
  |zero=>simp [firstNZ]
  |succ k=>rw [List.set_cons_succ];simpa [firstNZ] using ih (by omega)
theorem PtsOf.unit (h:PtsOf m q P) (hr:RedOK m) {k:Nat} (hk:k<m.length) (hq:ent m k k<=q):unL m.length k∈P:=
 (h.mem _).2 ⟨unL_len _ _,by have :=first_unit hk;omega,by rw [nrm_unit hr hk];exact hq⟩
theorem vec_sys (hr:RedOK m) (hq:0<=q) (hq1:q<1073741824) (h:VecList m q false L):(∀y∈preL L,-9223372036854775808<=nrm m y/\nrm m y<=9223372036854775807)/\∀x∈L,x.length=m.length/\∀a∈x,-4611686018427387904<=a/\a<=4611686018427387904:=by
 refine ⟨fun y hy=>?_,fun x hx=>?_⟩
 ·obtain ⟨h1,-,h3⟩:=(pre_mem h y).1 hy
  have :=nrm_nonneg hr y h1
  omega
 ·obtain ⟨k,hk,rfl⟩:=List.getElem_of_mem hx
  obtain ⟨h1,h2,-⟩:=vecList_item hr hq hq1 h (List.getElem?_eq_getElem hk)
  exact ⟨h1,fun a ha=>by have :=h2 a ha;omega⟩
end
def scalF (k:Nat) (c:Int):List (List Int):=(List.range k).map fun i=>(List.replicate k 0).set i c
theorem scalF_len (k:Nat) (c:Int):(scalF k c).length=k:=by simp [scalF]
theorem scalF_ent {k:Nat} (c:Int) {i j:Nat} (hi:i<k) (hj:j<k):ent (scalF k c) i j=if j=i then c else 0:=by
 have h:(scalF k c)[i]? =some ((List.replicate k 0).set i c):=by simp [scalF,hi]
 unfold ent
 simp only [List.getD_eq_getElem?_getD]
 rw [h,Option.getD_some,List.getElem?_set]
 by_cases e:j=i
 ·subst e;simp [hj]
 ·rw [if_neg (fun q=>e q.symm),if_neg e];simp [hj]
theorem scalF_red:∀{k:Nat},1<=k->k<=4->∀{c:Int},1<=c->c<=3->isRedB (scalF k c)=true:=by
 intro k h1 h2 c h3 h4
 have hc:c=1∨c=2∨c=3:=by omega
 have hk:k=1∨k=2∨k=3∨k=4:=by omega
 rcases hc with rfl |rfl |rfl<;>rcases hk with rfl |rfl |rfl |rfl<;>decide+kernel
def sgU (n y:Nat) (e:Int):List Int:=(List.replicate n 0).set y e
theorem sgU_len (n y:Nat) (e:Int):(sgU n y e).length=n:=by simp [sgU]
theorem sgU_get {n y j:Nat} (e:Int) (hy:y<n):(sgU n y e).getD j 0=if j=y then e else 0:=by
 unfold sgU
 rw [List.getD_eq_getElem?_getD,List.getElem?_set]
 by_cases h:j=y
 ·subst h;simp [hy]
 ·rw [if_neg (fun q=>h q.symm),if_neg h]
  by_cases hj:j<n<;>simp [hj]
theorem ipR_sg {k:Nat} (c:Int) {y1 y2:Nat} (e1 e2:Int) (h1:y1<k) (h2:y2<k):ipR (scalF k c) (sgU k y1 e1) (sgU k y2 e2)=if y2=y1 then e1*(c*e2) else 0:=by
 unfold ipR
 rw [scalF_len,sumR_one h1 (fun i _ hne=>by rw [sgU_get e1 h1,if_neg hne,Int.zero_mul]),sgU_get e1 h1,if_pos rfl,sumR_one h2 (fun j _ hne=>by rw [sgU_get e2 h2,if_neg hne,Int.mul_zero]),sgU_get e2 h2,if_pos rfl,scalF_ent c h1 h2]
 by_cases e:y2=y1
 ·rw [if_pos e,if_pos e]
 ·rw [if_neg e,if_neg e,Int.zero_mul,Int.mul_zero]
theorem sgn_iso {k:Nat} {c:Int} {ys:List Nat} {es:Nat->Int} (hl:ys.length=k) (hp:ys.Perm (List.range k)) (he:∀j,es j=1∨es j=-1):IsoC (scalF k c) (scalF k c) (ys.mapIdx fun j y=>sgU k y (es j)):=by
 have hy:∀i,i<k->∃y,ys[i]? =some y/\y<k:=fun i hi=>by
  obtain ⟨y,h⟩:∃y,ys[i]? =some y:=⟨_,List.getElem?_eq_getElem (by omega)⟩
  exact ⟨y,h,by simpa using hp.mem_iff.1 (List.mem_of_getElem? h)⟩
 have hget:∀i y,ys[i]? =some y->(ys.mapIdx fun j y=>sgU k y (es j)).getD i []=sgU k y (es i):=fun i y h=>by
  rw [List.getD_eq_getElem?_getD,List.getElem?_mapIdx,h];rfl
 refine ⟨by rw [List.length_mapIdx,scalF_len];exact hl,rfl,fun x hx=>?_,fun i j hi hj=>?_⟩
 ·obtain ⟨i,hi,rfl⟩:=List.getElem_of_mem hx
  rw [List.getElem_mapIdx,sgU_len,scalF_len]
 ·rw [scalF_len] at hi hj
  obtain ⟨y1,a1,b1⟩:=hy i hi
  obtain ⟨y2,a2,b2⟩:=hy j hj
  rw [hget i y1 a1,hget j y2 a2,ipR_sg c _ _ b1 b2,scalF_ent c hi hj]
  have hnd:ys.Nodup:=hp.nodup_iff.2 List.nodup_range
  by_cases e:j=i
  ·subst e
   rw [a1] at a2
   injection a2 with a2
   rw [if_pos a2.symm,if_pos rfl]
   rcases he j with h |h<;>rw [h]<;>omega
  ·rw [if_neg e,if_neg]
   intro h
   subst h
   obtain ⟨l1,q1⟩:=List.getElem?_eq_some_iff.1 a1
   obtain ⟨l2,q2⟩:=List.getElem?_eq_some_iff.1 a2
   have hp:=List.pairwise_iff_getElem.1 hnd
   rcases Nat.lt_or_ge i j with hij |hij
   ·exact hp i j l1 l2 hij (q1.trans q2.symm)
   ·exact hp j i l2 l1 (by omega) (q2.trans q1.symm)
theorem sg_mem {k:Nat} {c:Int} (h0:1<=k) (h1:k<=4) (h3:1<=c) (h4:c<=3) {P:List (List Int)} (hP:PtsOf (scalF k c) c P) {y:Nat} (hy:y<k) {e:Int} (he:e=1∨e=-1):sgU k y e∈P:=by
 have hr:=red_ok (scalF_red h0 h1 h3 h4)
 refine (hP.mem _).2 ⟨by rw [sgU_len,scalF_len],fun hz=>?_,?_⟩
 ·have h2:=firstNZ_zero hz e (by
   refine List.mem_of_getElem? (i:=y) ?_
   unfold sgU
   rw [List.getElem?_set_self (by simp;exact hy)])
  omega
 ·rw [<-ipR_nrm (isSmallB_all hr.small) _ (by rw [sgU_len,scalF_len]),ipR_sg c _ _ hy hy,if_pos rfl]
  rcases he with rfl |rfl<;>omega
theorem scal_gr {k:Nat} {c:Int} (h0:1<=k) (hc:0<=c):grL (scalF k c) k=c:=by
 have h1:∀j,j<=k->grL (scalF k c) j=if j=0 then 0 else c:=fun j=>by
  induction j with
  |zero=>intro _;rfl
  |succ j ih=>
   intro h
   unfold grL
   rw [ih (by omega),scalF_ent c (show j<k by omega) (by omega),if_pos rfl]
   split<;>simp<;>omega
 rw [h1 k (Nat.le_refl _),if_neg (by omega)]
end Go.Proofs.YtpcgfpmiphiacaaGreat
