/-
  Contracts of functions of the program, joined: Lat2. No statement of the seat is proved here.
-/
import Derived.Test.YtjehjkipcaohpaaGreatK19
import Derived.Test.YtjehjkipcaohpaaGreatK22
import Derived.WideKeyArgs
import Derived.Deep.SlicePairs
set_option linter.unusedVariables false
set_option linter.unusedSimpArgs false
set_option linter.constructorNameAsVariable false
namespace Go.Proofs.YtjehjkipcaohpaaGreat
open Go.ChangeShapes Go.WideShapes Go.ChangeAt Go.RowKit Go.Joins Go.Deep
theorem sameAt_of {W W':World} (hb:Below W.heap.size W W') {p:MemPlace} (hp:p.block<W.heap.size):W.sameAt W' p:=by
 cases p with
 |cell b off=>
  show W'.cell? ⟨b,off,none⟩=W.cell? ⟨b,off,none⟩
  unfold World.cell?
  rw [hb.block b hp]
 |map b=>exact hb.block b hp
theorem arg_stay {H:Type} {enc:TypeId×Value→H} {W W':World} {sp:Nat→Bool} {t:TypeId} {v:Value} {d:DataW H} {p:List MemPlace} (hl:laidOutB Tryz.prog=true) (hr:Tryz.prog.readableRec t=true) (hrow:t<Tryz.prog.types.size)
  (h:DataW.Trod enc Tryz.prog W 0 (fun _=>true) true t v d p) (hb:Below W.heap.size W W') (hs:∀q∈p,sp q.block=true):DataW.Trod enc Tryz.prog W' 0 sp true t v d p:=by
 refine Go.WideElems.Trod_stays hl hr hrow h (fun q hq=>sameAt_of hb ?_) hs
 obtain ⟨n,hn⟩:=h
 exact DataW.trod_lt n _ _ _ hn q hq
theorem i64_wf {x:Int} (h:(Lit.int .i64 x).wf=true):-9223372036854775808≤x∧x≤9223372036854775807:=by
 have e1:IntKind.i64.min=-9223372036854775808:=rfl
 have e2:IntKind.i64.max=9223372036854775807:=rfl
 simp [Lit.wf] at h
 omega
set_option maxRecDepth 100000 in
theorem open_interval {H:Type} {enc:TypeId×Value→H} {W:World} {r:Reach} {b0:Nat} {v:Value} {d:DataW H} {p:List MemPlace} (hv:Value.okWide Tryz.prog W r b0 64 v) (h:DataW.Trod enc Tryz.prog W 0 (fun _=>true) true 64 v d p):
  (∃lo hi,v= .agg #[.int .i64 lo,.int .i64 hi]∧(-9223372036854775808≤lo∧lo≤9223372036854775807)∧(-9223372036854775808≤hi∧hi≤9223372036854775807))∧∀(W':World) (sp:Nat→Bool),DataW.Trod enc Tryz.prog W' 0 sp true 64 v d p:=by
 obtain ⟨v0,v1,y0,y1,n,rfl,rfl,rfl,h0,h1⟩:=open_agg2 Tryz.underlying64 (by kernel_rfl) (by kernel_rfl) hv h
 have h64:Tryz.prog.underlying 2=some (.int .i64):=Tryz.underlying2
 obtain ⟨lo,e0,rfl,w0⟩:=DataW.trod_int h64 h0
 obtain ⟨hi,e1,rfl,w1⟩:=DataW.trod_int h64 h1
 injection e0 with e0
 injection e1 with e1
 subst e0 e1
 exact ⟨⟨lo,hi,rfl,i64_wf w0,i64_wf w1⟩,fun W' sp=>shut_agg2 Tryz.underlying64 (by kernel_rfl) (by kernel_rfl) (field_of_Trod (shut_int h64 w0) rfl) (field_of_Trod (shut_int h64 w1) rfl)⟩
theorem ivD (C:List (Int×Int)):∀(j:Nat) (u:Value),(C.flatMap fun p=>[Value.int .i64 p.1,Value.int .i64 p.2])[j]? =some u→∃p,C[j / 2]? =some p∧((j%2=0∧u= .int .i64 p.1)∨(j%2=1∧u= .int .i64 p.2)):=by
 induction C with
 |nil=>intro j u h;simp at h
 |cons q C ih=>
  intro j u h
  match j with
  |0=>simp at h;exact ⟨q,rfl,.inl ⟨rfl,h.symm⟩⟩
  |1=>simp at h;exact ⟨q,rfl,.inr ⟨rfl,h.symm⟩⟩
  |j+2=>
   simp only [List.flatMap_cons,List.cons_append,List.nil_append,List.getElem?_cons_succ] at h
   obtain ⟨p,h1,h2⟩:=ih j u h
   refine ⟨p,?_,?_⟩
   ·rw [show (j+2) / 2=j / 2+1 by omega,List.getElem?_cons_succ];exact h1
   ·rw [show (j+2)%2=j%2 by omega];exact h2
set_option maxRecDepth 100000 in
theorem open_intervals {H:Type} {enc:TypeId×Value→H} {W:World} {r:Reach} {b0:Nat} {v:Value} {d:DataW H} {p:List MemPlace} (hv:Value.okWide Tryz.prog W r b0 58 v) (h:DataW.Trod enc Tryz.prog W 0 (fun _=>true) true 58 v d p):
  ∃(A:Option Addr) (c:Nat) (C:List (Int×Int)),v= .slice A C.length c∧IvV W A C∧C.length≤c∧c≤9223372036854775807:=by
 obtain ⟨n,hn⟩:=h
 have h64:Tryz.prog.underlying 2=some (.int .i64):=Tryz.underlying2
 obtain ⟨A,l,c,rfl⟩:=okWide_slice Tryz.underlying58 hv
 rcases open_slice_pairs Tryz.underlying58 Tryz.underlying64 (by kernel_rfl) rfl rfl (by kernel_rfl) (by kernel_rfl) hn with ⟨h1,h2⟩ |⟨a,len,cap,m,n',V0,V1,D0,D1,P0,P1,h1,-,hl,hm,hmm,-,hx⟩
 ·simp [Value.cells] at h1
  obtain ⟨rfl,rfl,rfl⟩:=h1
  exact ⟨none,0,[],rfl,⟨⟨0,fun h=>absurd h (by simp)⟩,by simp⟩,Nat.le_refl _,by omega⟩
 ·simp [Value.cells] at h1
  obtain ⟨rfl,rfl,rfl⟩:=h1
  rw [if_pos rfl] at hmm
  subst hmm
  have hm2:m≤9223372036854775807:=hm
  have each:∀i,i<l→∃q:Int×Int,W.cell? (a.add (i*2))=some (.int .i64 q.1)∧W.cell? (a.add (i*2+1))=some (.int .i64 q.2)∧(-9223372036854775808≤q.1∧q.1≤9223372036854775807∧-9223372036854775808≤q.2∧q.2≤9223372036854775807):=fun i hi=>by
   obtain ⟨c0,c1,t0,t1⟩:=hx i (by omega)
   obtain ⟨x,e0,-,w0⟩:=DataW.trod_int h64 t0
   obtain ⟨y,e1,-,w1⟩:=DataW.trod_int h64 t1
   injection e0 with e0
   injection e1 with e1
   have a0:=i64_wf w0
   have a1:=i64_wf w1
   exact ⟨(x,y),by rw [c0,e0],by rw [c1,e1],a0.1,a0.2,a1.1,a1.2⟩
  obtain ⟨F,hF⟩:=choose_lt each
  have hlen:((List.range l).map F).length=l:=by simp
  refine ⟨some a,m,(List.range l).map F,by rw [hlen],⟨?_,fun q hq=>?_⟩,by rw [hlen];exact hl,hm2⟩
  ·rcases Nat.eq_zero_or_pos l with hl0 |hl0
   ·subst hl0;exact ⟨0,fun h0=>absurd h0 (by simp)⟩
   have hc0:=(hF 0 hl0).1
   have ha:a.add (0*2)=a:=by simp [Addr.add]
   rw [ha] at hc0
   unfold World.cell? at hc0
   split at hc0
   ·rename_i cs te fr hbl
    split at hc0
    ·cases hc0
    rename_i hsp
    obtain ⟨ab,ao,asp⟩:=a
    have has:asp=none:=by cases asp<;>simp_all
    subst has
    refine ⟨te,fun _=>⟨ab,ao,cs,fr,rfl,hbl,fun j u hu=>?_⟩⟩
    obtain ⟨q,hq,hu2⟩:=ivD _ j u hu
    rw [List.getElem?_map] at hq
    cases hr:(List.range l)[j / 2]? with
    |none=>rw [hr] at hq;cases hq
    |some i=>
     have hi:i=j / 2∧j / 2<l:=by
      have :=List.getElem?_eq_some_iff.1 hr
      obtain ⟨h1,h2⟩:=this
      simp at h1 h2
      exact ⟨h2.symm,h1⟩
     obtain ⟨rfl,hil⟩:=hi
     rw [hr] at hq
     injection hq with hq
     subst hq
     obtain ⟨c0,c1,-⟩:=hF (j / 2) hil
     rcases hu2 with ⟨hj,rfl⟩ |⟨hj,rfl⟩
     ·rw [show (⟨ab,ao,none⟩:Addr).add (j / 2*2)=⟨ab,ao+j,none⟩ by rw [show j / 2*2=j by omega];unfold Addr.add;split<;>simp_all] at c0
      unfold World.cell? at c0
      simp only [hbl] at c0
      simpa using c0
     ·rw [show (⟨ab,ao,none⟩:Addr).add (j / 2*2+1)=⟨ab,ao+j,none⟩ by rw [show j / 2*2+1=j by omega];unfold Addr.add;split<;>simp_all] at c1
      unfold World.cell? at c1
      simp only [hbl] at c1
      simpa using c1
   ·cases hc0
  ·obtain ⟨i,hi,rfl⟩:=List.mem_map.1 hq
   exact (hF i (by simpa using hi)).2.2
end Go.Proofs.YtjehjkipcaohpaaGreat
