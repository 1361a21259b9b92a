/- Enum Vm3 Vm5 Vr11 Tr1 Tr2 Tr3 -/
import Derived.Test.YtjehjkipcaohpaaGreatProg
import Derived.Test.YtjehjkipcaohpaaGreatShelf
import Derived.Test.YtjehjkipcaohpaaGreatS18
set_option maxHeartbeats 8000000
set_option linter.unusedVariables false
set_option linter.unusedSimpArgs false
set_option linter.constructorNameAsVariable false
namespace Go.Proofs.YtjehjkipcaohpaaGreat
open Go.RowKit
def RetShell (w:World) (m ls:List (List Int)) (e:Ending) (w':World):Prop:=∃A c L,e= .returned (.tuple #[.slice A (List.length L) c,.int .i64 0])/\Mat64 w' A L/\L.length<=c/\c<=9223372036854775807/\L.Perm (ls.map canonL)/\L.Pairwise (fun x y=>cmpK (nrm m x) (nrm m y) x y<0)/\Step w w'
end Go.Proofs.YtjehjkipcaohpaaGreat
namespace Go.Proofs.YtjehjkipcaohpaaGreat
open La
/-! ## Levels -/
theorem qE_nonneg {m:List (List Int)} (hr:RedOK m) (t:List Int):∀k,k+t.length<=m.length->0<=qE (ent m) k t:=by
 have hsym:=sym_of (isSmallB_all hr.small) (fun i j hi hj=>((of_decide_eq_true hr.small).2.2.2 i hi j hj).1)
 induction t with
 |nil=>intro k _;exact Int.le_refl _
 |cons c t ih=>
  intro k hk
  simp only [List.length_cons] at hk
  have h1:=ih (k+1) (by omega)
  have h2:=qE_step hsym (hr.pos.le (by omega:k+1<=m.length)) c t
  have h3:=lastE_pos hr.pos (by omega:k<=m.length)
  have h4:=lastE_pos hr.pos (by omega:k+1<=m.length)
  have h5:=Int.mul_nonneg (Int.le_of_lt h3) h1
  have h6:=sq_nonnegZ (lE (ent m) k (c::t))
  rcases Int.lt_or_le (qE (ent m) k (c::t)) 0 with h7 |h7
  ·have :=Int.mul_neg_of_pos_of_neg h4 h7;omega
  ·exact h7
theorem nrm_nonneg {m:List (List Int)} (hr:RedOK m) (x:List Int) (hx:x.length=m.length):0<=nrm m x:=by
 rw [nrm_eq (isSmallB_all hr.small) x hx]
 exact qE_nonneg hr x 0 (by omega)
theorem coord_small {m:List (List Int)} (hr:RedOK m) {bound:Int} (hb:0<=bound) (hb1:bound<1073741824) (x:List Int) (hx:x.length=m.length) (hn:nrm m x<=bound):absSum x<=1099511627776:=by
 have hall:=isSmallB_all hr.small
 have hl:=isSmallB_len hr.small
 have hsym:=sym_of (isSmallB_all hr.small) (fun i j hi hj=>((of_decide_eq_true hr.small).2.2.2 i hi j hj).1)
 have h0:0<=left (ent m) bound 0 x:=by rw [left_nrm hall bound x hx];omega
 cases x with
 |nil=>simp [absSum]
 |cons c t=>
  simp only [List.length_cons] at hx
  have h1:=left_le hsym (hr.pos.le (by omega:0+1<=m.length)) bound c t h0
  have h2:=lev_of hr hb hb1 t 0 (by omega) (by omega) h1
  have h3:=(inv_iff hr (by omega:0<m.length) t (by omega) h1 c).2 h0
  have hN:=hr.num hb hb1
  have h4:=vEnds hN h2
  have h5:=absSum_bound hN h2
  have h6:=vR_bounds hN h2
  simp only [absSum]
  omega
theorem inRange_of {x:List Int} (h:absSum x<=1099511627776):inRangeB x=true:=by
 unfold inRangeB
 rw [List.all_eq_true]
 intro y hy
 obtain ⟨i,hi⟩:=List.getElem?_of_mem hy
 have :=le_absSum x i y hi
 simp only [Bool.and_eq_true,decide_eq_true_eq]
 omega
theorem firstNZ_zero {x:List Int} (h:firstNZ x=0):∀y∈x,y=0:=by
 induction x with
 |nil=>simp
 |cons a x ih=>
  simp only [firstNZ] at h
  split at h
  ·rename_i ha
   intro y hy
   rcases List.mem_cons.1 hy with rfl |hy
   ·exact ha
   ·exact ih h y hy
  ·omega
theorem canon_inj {x y:List Int} (hx:LastPos x) (hy:LastPos y) (h:canonL x=canonL y):x=y:=by
 unfold canonL at h
 split at h<;>split at h
 ·have :=congrArg (List.map fun c=>-c) h
  rwa [neg_neg_map,neg_neg_map] at this
 ·rw [<-h] at hy;exact absurd hy (lastPos_neg hx)
 ·rw [h] at hx;exact absurd hx (lastPos_neg hy)
 ·exact h
theorem firstNZ_neg (x:List Int):firstNZ (x.map fun c=>-c)=-firstNZ x:=by
 induction x with
 |nil=>rfl
 |cons a x ih=>
  simp only [List.map_cons,firstNZ,ih]
  by_cases h:a=0
  ·simp [h]
  ·rw [if_neg h,if_neg (by omega)]
theorem canon_first (x:List Int) (h:firstNZ x≠0):0<firstNZ (canonL x):=by
 unfold canonL
 split
 ·rw [firstNZ_neg];omega
 ·omega
theorem nodup_canon {m:List (List Int)} (hr:RedOK m) {bound:Int} (hb:0<=bound) (exact:Bool):((collL m bound exact).map canonL).Nodup:=by
 unfold List.Nodup
 rw [List.pairwise_map]
 refine List.Pairwise.imp_of_mem ?_ (nodup_coll hr hb exact)
 intro a b ha hb' hab e
 exact hab (canon_inj ((mem_coll hr hb exact a).1 ha).2.1 ((mem_coll hr hb exact b).1 hb').2.1 e)
structure VecList (m:List (List Int)) (bound:Int) (exact:Bool) (L:List (List Int)):Prop where
 sorted:L.Pairwise (fun x y=>cmpK (nrm m x) (nrm m y) x y<0)
 mem:∀x,x∈L↔x.length=m.length/\0<firstNZ x/\nrm m x<=bound/\(exact=true->nrm m x=bound)
theorem StepsOK.last_le {m:List (List Int)} {bound:Int} {st:List Int} {total:Int} (h:StepsOK m bound st total) (h1:1<=m.length):lastOf st+(m.length-1:Nat)<=total:=by
 have hl:=h.len
 have hs:=h.sum
 obtain ⟨p,c,rfl,hp⟩:=snoc_split (p:=st) (k:=m.length-1) (by omega)
 have e:lastOf (p++[c])=c:=by simp [lastOf]
 rw [e]
 have h2:=sum_ge_len p (fun x hx=>h.one x (by simp [hx]))
 simp only [List.sum_append,List.sum_cons,List.sum_nil] at hs
 omega
end Go.Proofs.YtjehjkipcaohpaaGreat
namespace Go.Proofs.YtjehjkipcaohpaaGreat
open Go.RowKit
theorem totS_ge {m:List (List Int)} (hr:isRedB m=true) {b:Nat} (hb:(b:Int)<1073741824):(m.length:Int)<=totS m b:=by
 have hst:=(steps_ok hr hb).1
 have :=sum_ge_len _ hst.one
 rw [hst.len,hst.sum] at this
 exact this
theorem wide_times_any {w:World} (v:Int) (m:Nat) (h0:0<=v) (hm1:1<=m) (hm:m<9223372036854775808) (hb:v*m<340282366920938463463374607431768211456):
  Calls Tryz.prog 114 #[wideV v,.int .i64 m] w (RetVal w (wideV (v*m))):=by
 unfold wideV
 have hv1:v<340282366920938463463374607431768211456:=by
  have :v*1<=v*m:=Int.mul_le_mul_of_nonneg_left (by omega) h0
  omega
 have a0:0<=hiW v:=by unfold hiW;omega
 have a1:0<=loW v:=by unfold loW;omega
 have a2:loW v<18446744073709551616:=by unfold loW;omega
 have a3:hiW v<18446744073709551616:=by unfold hiW;omega
 have hvs:v=hiW v*18446744073709551616+loW v:=by unfold hiW loW;omega
 obtain ⟨al,hal⟩:=Int.eq_ofNat_of_zero_le a1
 obtain ⟨p,hp⟩:∃p,p=al*m:=⟨_,rfl⟩
 have hM:=Tryz.bits_Mul64 al m (by omega) (by omega)
 rw [<-hp] at hM
 have HM:=Lib.hid hM
 obtain ⟨ah,hah⟩:∃ah,ah=hiW v:=⟨_,rfl⟩
 rw [<-hah] at a0 a3 hvs |-
 obtain ⟨t,ht⟩:∃t,t=ah*m:=⟨_,rfl⟩
 have ht0:0<=t:=by rw [ht];exact Int.mul_nonneg a0 (by omega)
 have hsum:v*m=t*18446744073709551616+p:=by
  rw [hvs,Int.add_mul,ht,hp,hal,Int.mul_right_comm];simp
 obtain ⟨q,hq⟩:∃q:Int,q=((p / 18446744073709551616:Nat):Int):=⟨_,rfl⟩
 obtain ⟨r,hr⟩:∃r:Int,r=((p%18446744073709551616:Nat):Int):=⟨_,rfl⟩
 rw [<-hq,<-hr] at HM
 have HV1:Hid (hiW (v*m)=t+q):=Lib.hid (by unfold hiW;omega)
 have HV2:Hid (loW (v*m)=r):=Lib.hid (by unfold loW;omega)
 have hq0:0<=q:=by omega
 have hr0:0<=r:=by omega
 have htq:t+q<18446744073709551616:=by omega
 have ht1:t<18446744073709551616:=by omega
 have hts:=ht.symm
 rw [hal,HV1.out,HV2.out]
 have hm2:(m:Int)<9223372036854775808:=by omega
 clear hsum hvs hq hr hp hM ht hah hal hb HV1 HV2
 go_enter Tryz.func114,Tryz.ntmps114
 go_wp2_with (go_at_call 175;refine (HM.out _).mono ?_;rintro e w' ⟨rfl,rfl⟩)
 exact bodyPost_ret (v:= .agg #[.int .u64 (t+q),.int .u64 r]) (by simp [results,Tryz.results114,go_sem]) rfl ⟨rfl,Step.of _ _⟩
theorem wide_sub_any {w:World} (a b:Int) (hb0:0<=b) (hab:b<=a) (ha1:a<340282366920938463463374607431768211456):
  Calls Tryz.prog 216 #[wideV a,wideV b] w (RetVal w (wideV (a-b))):=by
 unfold wideV
 have a1:0<=hiW a/\hiW a<18446744073709551616/\0<=loW a/\loW a<18446744073709551616/\a=hiW a*18446744073709551616+loW a:=by unfold hiW loW;omega
 have b1:0<=hiW b/\hiW b<18446744073709551616/\0<=loW b/\loW b<18446744073709551616/\b=hiW b*18446744073709551616+loW b:=by unfold hiW loW;omega
 obtain ⟨c1,c2,c3,c4,c5⟩:=a1
 obtain ⟨d1,d2,d3,d4,d5⟩:=b1
 have hg2:(loW a<loW b/\bor (loW a) (loW b)=1)∨(loW b<=loW a/\bor (loW a) (loW b)=0):=by unfold bor;split<;>omega
 have HV1:Hid (hiW (a-b)=(hiW a-hiW b-bor (loW a) (loW b))%18446744073709551616):=Lib.hid (by
  have :hiW (a-b)=(a-b) / 18446744073709551616:=rfl
  omega)
 have HV2:Hid (loW (a-b)=(loW a-loW b)%18446744073709551616):=Lib.hid (by
  have :loW (a-b)=(a-b)%18446744073709551616:=rfl
  omega)
 rw [HV1.out,HV2.out]
 clear HV1 HV2 c5 d5 hg2
 generalize hiW a=ah at*
 generalize loW a=al at*
 generalize hiW b=bh at*
 generalize loW b=bl at*
 have hg1:=bor_bounds al bl
 have s1:=sub64_0 al bl c3 d3 d4
 have s2:=sub64 ah bh (bor al bl) c1 d1 d2 hg1.1 hg1.2
 generalize bor al bl=g at*
 generalize (al-bl)%18446744073709551616=lo at*
 generalize (ah-bh-g)%18446744073709551616=hi at*
 generalize bor ah (bh+g)=f at*
 have S1:=Lib.hid s1
 have S2:=Lib.hid s2
 clear s1 s2
 go_enter Tryz.func216,Tryz.ntmps216
 go_wp2_with (first |simp only [S1.out] |simp only [S2.out])
 exact bodyPost_ret (v:= .agg #[.int .u64 hi,.int .u64 lo]) (by simp [results,Tryz.results216,go_sem]) rfl ⟨rfl,Step.of _ _⟩
theorem Div64_small {w:World} (x d:Int) (h0:0<=x) (h1:x<18446744073709551616) (hd:1<=d) (hd1:d<18446744073709551616):
  Calls Tryz.prog 243 #[.int .u64 0,.int .u64 x,.int .u64 d] w fun e w'=>e= .returned (.tuple #[.int .u64 (x / d),.int .u64 (x%d)])/\∃n,w'=w.drewN n:=by
 have hq0:0<=x / d:=Int.ediv_nonneg h0 (by omega)
 have hq1:x / d<=x:=Int.ediv_le_self _ h0
 have hr0:=Int.emod_nonneg x (show d≠0 by omega)
 have hr1:=Int.emod_lt_of_pos x (show 0<d by omega)
 have hdz:(d==0)=false:=by simp;omega
 have hdz':¬d=0:=by omega
 have hle:decide (d<=0)=false:=by simp;omega
 have t1:x.tdiv d=x / d:=Int.tdiv_eq_ediv_of_nonneg h0
 have t2:x.tmod d=x%d:=Int.tmod_eq_emod_of_nonneg h0
 go_enter Tryz.func243,Tryz.ntmps243
 go_wp2_with fail
 go_quiet (fail)
 go_wp2_with fail
 go_ret2
 exact ⟨rfl,_,rfl⟩
theorem wide_small {v:Int} (h0:0<=v) (h1:v<18446744073709551616):wideV v= .agg #[.int .u64 0,.int .u64 v]:=by
 have e1:hiW v=0:=by unfold hiW;omega
 have e2:loW v=v:=by unfold loW;omega
 rw [wideV,e1,e2]
theorem wide_over_any {w:World} (v d:Int) (h0:0<=v) (h1:v<18446744073709551616) (hd:1<=d) (hd1:d<9223372036854775808):
  Calls Tryz.prog 219 #[wideV v,.int .i64 d] w (RetVal w (wideV (v / d))):=by
 have hq0:0<=v / d:=Int.ediv_nonneg h0 (by omega)
 have hq1:v / d<=v:=Int.ediv_le_self _ h0
 rw [wide_small h0 h1,wide_small hq0 (by omega)]
 have c1:=fun W=>Div64_small (w:=W) 0 d (by omega) (by omega) hd (by omega)
 rw [Int.zero_ediv,Int.zero_emod] at c1
 have c2:=fun W=>Div64_small (w:=W) v d h0 h1 hd (by omega)
 have C1:=Lib.hid c1
 have C2:=Lib.hid c2
 generalize v / d=q at*
 generalize v%d=r at*
 clear c1 c2
 by_cases hv0:v=0
 ·subst hv0
  have hq:q=0:=by omega
  subst hq
  have hr:Hid (∀W,Calls Tryz.prog 243 #[.int .u64 0,.int .u64 0,.int .u64 d] W fun e w'=>e= .returned (.tuple #[.int .u64 0,.int .u64 0])/\∃n,w'=W.drewN n):=C1
  clear C2 C1
  go_enter Tryz.func219,Tryz.ntmps219
  go_wp2_with (go_at_call 243;refine (hr.out _).mono ?_;rintro e w' ⟨rfl,n1,rfl⟩)
  exact bodyPost_ret (v:= .agg #[.int .u64 0,.int .u64 0]) (by simp [results,Tryz.results219,go_sem]) rfl ⟨rfl,Step.of _ _⟩
 ·clear hv0
  go_enter Tryz.func219,Tryz.ntmps219
  go_wp2_with fail
  go_at_call 243
  refine (C1.out _).mono ?_
  rintro e w' ⟨rfl,n1,rfl⟩
  go_wp2_with fail
  go_at_call 243
  refine (C2.out _).mono ?_
  rintro e w' ⟨rfl,n2,rfl⟩
  go_wp2_with fail
  exact bodyPost_ret (v:= .agg #[.int .u64 0,.int .u64 q]) (by simp [results,Tryz.results219,go_sem]) rfl ⟨rfl,Step.of _ _⟩
theorem wide_exceeds_any {w:World} (a b:Int):
  Calls Tryz.prog 256 #[wideV a,wideV b] w (RetVal w (.bool (decide (b<a)))):=by
 unfold wideV
 have a1:0<=loW a/\loW a<18446744073709551616/\a=hiW a*18446744073709551616+loW a:=by unfold hiW loW;omega
 have b1:0<=loW b/\loW b<18446744073709551616/\b=hiW b*18446744073709551616+loW b:=by unfold hiW loW;omega
 generalize hiW a=ah at*
 generalize loW a=al at*
 generalize hiW b=bh at*
 generalize loW b=bl at*
 obtain ⟨c3,c4,c5⟩:=a1
 obtain ⟨d3,d4,d5⟩:=b1
 rcases Int.lt_trichotomy bh ah with h |h |h
 ·have HV:Hid (decide (b<a)=true):=Lib.hid (by simp;omega)
  rw [HV.out]
  have e1:decide (bh<ah)=true:=by simpa using h
  clear h c5 d5
  go_enter Tryz.func256,Tryz.ntmps256
  go_wp2_with fail
  go_ret
  exact ⟨rfl,Step.of _ _⟩
 ·subst h
  have e1:decide (bh<bh)=false:=by simp
  have HV:Hid (decide (b<a)=decide (bl<al)):=Lib.hid (by rw [Bool.eq_iff_iff];simp;omega)
  rw [HV.out]
  clear c5 d5
  by_cases hl:bl<al
  ·have e2:decide (bl<al)=true:=by simpa using hl
   clear hl
   go_enter Tryz.func256,Tryz.ntmps256
   go_wp2_with fail
   go_ret
   exact ⟨by simp [e2],Step.of _ _⟩
  ·have e2:decide (bl<al)=false:=by simpa using hl
   clear hl
   go_enter Tryz.func256,Tryz.ntmps256
   go_wp2_with fail
   go_ret
   exact ⟨by simp [e2],Step.of _ _⟩
 ·have HV:Hid (decide (b<a)=false):=Lib.hid (by simp;omega)
  rw [HV.out]
  have e1:decide (bh<ah)=false:=by simp;omega
  have e2:(ah==bh)=false:=by simp;omega
  clear h c5 d5
  go_enter Tryz.func256,Tryz.ntmps256
  go_wp2_with fail
  go_ret
  exact ⟨rfl,Step.of _ _⟩
theorem square_any {w:World} (u:Int) (h0:-4611686018427387904<=u) (h1:u<=4611686018427387904):
  Calls Tryz.prog 217 #[.int .i64 u] w (RetVal w (wideV (u*u))):=by
 obtain ⟨a,ha⟩:∃a:Nat,a=u.natAbs:=⟨_,rfl⟩
 have hsq:u*u=((a*a:Nat):Int):=by rw [ha];exact (Int.natAbs_mul_self).symm
 have hM:=Tryz.bits_Mul64 a a (by omega) (by omega)
 rw [hsq]
 obtain ⟨p,hp⟩:∃p,p=a*a:=⟨_,rfl⟩
 rw [<-hp] at hM |-
 have HV:Hid (wideV (p:Int)= .agg #[.int .u64 ((p / 18446744073709551616:Nat):Int),.int .u64 ((p%18446744073709551616:Nat):Int)]):=Lib.hid (by unfold wideV hiW loW;congr 4<;>omega)
 rw [HV.out]
 generalize ((p / 18446744073709551616:Nat):Int)=q at*
 generalize ((p%18446744073709551616:Nat):Int)=r at*
 have HM:=Lib.hid hM
 clear hM hp hsq HV
 by_cases hu:u<0
 ·have hd:decide (u<0)=true:=by simpa using hu
  have e1:IntKind.u64.wrap u=18446744073709551616-a:=by rw [IntKind.wrap_u64];omega
  have e2:IntKind.u64.wrap (-(18446744073709551616-(a:Int)))=a:=by rw [IntKind.wrap_u64];omega
  clear hu ha
  go_enter Tryz.func217,Tryz.ntmps217
  go_wp2_with (go_at_call 175;refine (HM.out _).mono ?_;rintro e w' ⟨rfl,rfl⟩)
  exact bodyPost_ret (v:= .agg #[.int .u64 q,.int .u64 r]) (by simp [results,Tryz.results217,go_sem]) rfl ⟨rfl,Step.of _ _⟩
 ·have hd:decide (u<0)=false:=by simpa using hu
  obtain rfl:u=(a:Int):=by omega
  clear hu ha
  go_enter Tryz.func217,Tryz.ntmps217
  go_wp2_with (go_at_call 175;refine (HM.out _).mono ?_;rintro e w' ⟨rfl,rfl⟩)
  exact bodyPost_ret (v:= .agg #[.int .u64 q,.int .u64 r]) (by simp [results,Tryz.results217,go_sem]) rfl ⟨rfl,Step.of _ _⟩
/-! ## A level of the checker in memory -/
structure LvAt (w:World) (b o:Nat) (mi sh lim:Int):Prop where
 c0:w.cell? ⟨b,o,none⟩=some (.int .i64 mi)
 c1:w.cell? ⟨b,o+1,none⟩=some (.int .i64 sh)
 c2:w.cell? ⟨b,o+2,none⟩=some (.int .u64 (hiW lim))
 c3:w.cell? ⟨b,o+3,none⟩=some (.int .u64 (loW lim))
 lt:b<w.heap.size
theorem LvAt.ext {w w':World} {b o:Nat} {mi sh lim:Int} (h:LvAt w b o mi sh lim) (hx:Ext w w'):LvAt w' b o mi sh lim:=
 ⟨(hx.below.cell (p:=⟨b,o,none⟩) h.lt).trans h.c0,(hx.below.cell (p:=⟨b,o+1,none⟩) h.lt).trans h.c1,(hx.below.cell (p:=⟨b,o+2,none⟩) h.lt).trans h.c2,(hx.below.cell (p:=⟨b,o+3,none⟩) h.lt).trans h.c3,Nat.lt_of_lt_of_le h.lt hx.size⟩
def LvFit (mi sh x:Int):Prop:=-4611686018427387904<=mi*x/\mi*x<=4611686018427387904/\-4611686018427387904<=mi*x+sh/\mi*x+sh<=4611686018427387904
def lvU (mi sh x:Int):Int:=mi*x+sh
theorem level_u_any {w0 w:World} {b o:Nat} {mi sh lim x:Int} (h:LvAt w0 b o mi sh lim) (hf:LvFit mi sh x) [hx:Ext w0 w]:
  Calls Tryz.prog 218 #[.pointer (some ⟨b,o,none⟩),.int .i64 x] w (RetQ w (.int .i64 (lvU mi sh x))):=by
 obtain ⟨g0,g1,-,-,g4⟩:=h.ext hx
 obtain ⟨f1,f2,f3,f4⟩:=hf
 unfold lvU
 obtain ⟨p,hp⟩:∃p,mi*x=p:=⟨_,rfl⟩
 rw [hp] at f1 f2 f3 f4 |-
 have e1:IntKind.i64.wrap p=p:=IntWalk.i64_in _ (by omega)
 have e2:IntKind.i64.wrap (p+sh)=p+sh:=IntWalk.i64_in _ (by omega)
 go_enter Tryz.func218,Tryz.ntmps218
 go_wp2_with fail
 go_quiet (fail)
 go_wp2_with fail
 go_ret
 exact ⟨rfl,_,rfl⟩
def insB (mi sh lim x:Int):Bool:=!decide (lim<lvU mi sh x*lvU mi sh x)
theorem level_inside_any {w0 w:World} {b o:Nat} {mi sh lim x:Int} (h:LvAt w0 b o mi sh lim) (hf:LvFit mi sh x) [hx:Ext w0 w]:
  Calls Tryz.prog 242 #[.pointer (some ⟨b,o,none⟩),.int .i64 x] w (RetVal w (.bool (insB mi sh lim x))):=by
 have hu:=fun W (hh:Ext w0 W)=>level_u_any (w:=W) h hf
 have HU:=Lib.hid hu
 have HI:Hid (insB mi sh lim x=!decide (lim<lvU mi sh x*lvU mi sh x)):=Lib.hid rfl
 obtain ⟨u,hue⟩:∃u,lvU mi sh x=u:=⟨_,rfl⟩
 have hub:-4611686018427387904<=u/\u<=4611686018427387904:=by rw [<-hue];exact ⟨hf.2.2.1,hf.2.2.2⟩
 rw [hue] at HU HI
 rw [HI.out]
 have hs:=fun W=>square_any (w:=W) u hub.1 hub.2
 have he:=fun W=>wide_exceeds_any (w:=W) (u*u) lim
 have HS:=Lib.hid hs
 have HE:=Lib.hid he
 generalize decide (lim<u*u)=bb at*
 have HL:=Lib.hid h
 have HHX:=fun W (hh:Ext w0 W)=>(⟨(h.ext hh).c2,(h.ext hh).c3⟩:W.cell? ⟨b,o+2,none⟩=some (.int .u64 (hiW lim))/\W.cell? ⟨b,o+3,none⟩=some (.int .u64 (loW lim)))
 have HX:=Lib.hid HHX
 unfold wideV at HS HE
 clear hu hs he HHX hue hf h HI
 go_enter Tryz.func242,Tryz.ntmps242
 go_wp2_with fail
 go_region_held3 (fun w'=>w'.cell? ⟨b,o+2,none⟩=some (.int .u64 (hiW lim))/\w'.cell? ⟨b,o+3,none⟩=some (.int .u64 (loW lim))) (exact HX.out _ inferInstance)
  (first
   |(go_at_call 218;refine (HU.out _ inferInstance).mono ?_;rintro e w1 ⟨rfl,n1,rfl⟩)
   |(go_at_call 217;refine (HS.out _).mono ?_;rintro e w2 ⟨rfl,hs2⟩)
   |(go_at_call 256;refine (HE.out _).mono ?_;rintro e w3 ⟨rfl,hs3⟩))
 go_wp2_with fail
 go_ret
 exact ⟨rfl,Step.of _ _⟩
def accB (mi sh lim lo hi:Int):Bool:=
 if lo< -1099511627776∨1099511627776<hi∨hi<lo-1 then false
 else if insB mi sh lim (lo-1)||insB mi sh lim (hi+1) then false
 else if lo<=hi then insB mi sh lim lo&&insB mi sh lim hi
 else decide (lvU mi sh hi<0)&&decide (0<lvU mi sh lo)
theorem level_accepts_any {w0 w:World} {b o:Nat} {mi sh lim lo hi:Int} (h:LvAt w0 b o mi sh lim) (hf:∀x,-1099511627778<=x->x<=1099511627778->LvFit mi sh x) (l0:-9223372036854775808<=lo) (l1:lo<=9223372036854775807) (k0:-9223372036854775808<=hi) (k1:hi<=9223372036854775807) [hx:Ext w0 w]:
  Calls Tryz.prog 215 #[.pointer (some ⟨b,o,none⟩),.agg #[.int .i64 lo,.int .i64 hi]] w (RetVal w (.bool (accB mi sh lim lo hi))):=by
 by_cases h1:lo< -1099511627776
 ·have HV:Hid (accB mi sh lim lo hi=false):=Lib.hid (by rw [accB,if_pos (.inl h1)])
  rw [HV.out]
  have d1:decide (lo< -1099511627776)=true:=by simpa using h1
  clear h1 hf
  go_enter Tryz.func215,Tryz.ntmps215
  go_wp2_with fail
  go_ret
  exact ⟨rfl,Step.of _ _⟩
 have d1:decide (lo< -1099511627776)=false:=by simpa using h1
 by_cases h2:1099511627776<hi
 ·have HV:Hid (accB mi sh lim lo hi=false):=Lib.hid (by rw [accB,if_pos (.inr (.inl h2))])
  rw [HV.out]
  have d2:decide (1099511627776<hi)=true:=by simpa using h2
  clear h1 h2 hf
  go_enter Tryz.func215,Tryz.ntmps215
  go_wp2_with fail
  go_ret
  exact ⟨rfl,Step.of _ _⟩
 have d2:decide (1099511627776<hi)=false:=by simpa using h2
 by_cases h3:hi<lo-1
 ·have HV:Hid (accB mi sh lim lo hi=false):=Lib.hid (by rw [accB,if_pos (.inr (.inr h3))])
  rw [HV.out]
  have d3:decide (hi<lo-1)=true:=by simpa using h3
  clear h2 h3 hf
  go_enter Tryz.func215,Tryz.ntmps215
  go_wp2_with fail
  go_ret
  exact ⟨rfl,Step.of _ _⟩
 have d3:decide (hi<lo-1)=false:=by simpa using h3
 have HV:Hid (accB mi sh lim lo hi=if insB mi sh lim (lo-1)||insB mi sh lim (hi+1) then false else if lo<=hi then insB mi sh lim lo&&insB mi sh lim hi else decide (lvU mi sh hi<0)&&decide (0<lvU mi sh lo)):=Lib.hid (by rw [accB,if_neg (by omega)])
 have hi1:=fun W (hh:Ext w0 W)=>level_inside_any (w:=W) (x:=lo-1) h (hf _ (by omega) (by omega))
 have hi2:=fun W (hh:Ext w0 W)=>level_inside_any (w:=W) (x:=hi+1) h (hf _ (by omega) (by omega))
 have hi3:=fun W (hh:Ext w0 W)=>level_inside_any (w:=W) (x:=lo) h (hf _ (by omega) (by omega))
 have hi4:=fun W (hh:Ext w0 W)=>level_inside_any (w:=W) (x:=hi) h (hf _ (by omega) (by omega))
 have hu1:=fun W (hh:Ext w0 W)=>level_u_any (w:=W) (x:=hi) h (hf _ (by omega) (by omega))
 have hu2:=fun W (hh:Ext w0 W)=>level_u_any (w:=W) (x:=lo) h (hf _ (by omega) (by omega))
 have HI1:=Lib.hid hi1
 have HI2:=Lib.hid hi2
 have HI3:=Lib.hid hi3
 have HI4:=Lib.hid hi4
 have HU1:=Lib.hid hu1
 have HU2:=Lib.hid hu2
 rw [HV.out]
 clear hi1 hi2 hi3 hi4 hu1 hu2 hf HV
 generalize insB mi sh lim (lo-1)=b1 at*
 generalize insB mi sh lim (hi+1)=b2 at*
 generalize insB mi sh lim lo=b3 at*
 generalize insB mi sh lim hi=b4 at*
 generalize lvU mi sh hi=u1 at*
 generalize lvU mi sh lo=u2 at*
 have hlo1:-1099511627776<=lo:=by omega
 have hlo2:lo<=1099511627777:=by omega
 have hhi1:-1099511627777<=hi:=by omega
 have hhi2:hi<=1099511627776:=by omega
 cases b1
 case true=>
  rw [if_pos (by simp)]
  clear h1 h2 h3
  go_enter Tryz.func215,Tryz.ntmps215
  go_wp2_with (go_at_call 242;refine (HI1.out _ inferInstance).mono ?_;rintro e w1 ⟨rfl,hs1⟩)
  go_ret
  exact ⟨rfl,Step.of _ _⟩
 cases b2
 case true=>
  rw [if_pos (by simp)]
  clear h1 h2 h3
  go_enter Tryz.func215,Tryz.ntmps215
  go_wp2_with fail
  go_at_call 242
  refine (HI1.out _ inferInstance).mono ?_
  rintro e w1 ⟨rfl,hs1⟩
  go_wp2_with fail
  go_at_call 242
  refine (HI2.out _ inferInstance).mono ?_
  rintro e w2 ⟨rfl,hs2⟩
  go_wp2_with fail
  go_ret
  exact ⟨rfl,Step.of _ _⟩
 rw [if_neg (by simp)]
 by_cases hle:lo<=hi
 ·rw [if_pos hle]
  have d4:decide (lo<=hi)=true:=by simpa using hle
  clear h1 h2 h3 hle
  go_enter Tryz.func215,Tryz.ntmps215
  go_wp2_with fail
  go_at_call 242
  refine (HI1.out _ inferInstance).mono ?_
  rintro e w1 ⟨rfl,hs1⟩
  go_wp2_with fail
  go_at_call 242
  refine (HI2.out _ inferInstance).mono ?_
  rintro e w2 ⟨rfl,hs2⟩
  go_wp2_with fail
  go_at_call 242
  refine (HI3.out _ inferInstance).mono ?_
  rintro e w3 ⟨rfl,hs3⟩
  cases b3
  ·go_wp2_with fail
   go_ret
   exact ⟨rfl,Step.of _ _⟩
  ·go_wp2_with fail
   go_at_call 242
   refine (HI4.out _ inferInstance).mono ?_
   rintro e w4 ⟨rfl,hs4⟩
   go_wp2_with fail
   go_ret
   exact ⟨by simp,Step.of _ _⟩
 ·rw [if_neg hle]
  have d4:decide (lo<=hi)=false:=by simpa using hle
  clear h1 h2 h3 hle
  go_enter Tryz.func215,Tryz.ntmps215
  go_wp2_with fail
  go_at_call 242
  refine (HI1.out _ inferInstance).mono ?_
  rintro e w1 ⟨rfl,hs1⟩
  go_wp2_with fail
  go_at_call 242
  refine (HI2.out _ inferInstance).mono ?_
  rintro e w2 ⟨rfl,hs2⟩
  go_wp2_with fail
  go_at_call 218
  refine (HU1.out _ inferInstance).mono ?_
  rintro e w3 ⟨rfl,n3,rfl⟩
  by_cases hu:u1<0
  ·have e1:decide (u1<0)=true:=by simpa using hu
   clear hu
   go_wp2_with fail
   go_at_call 218
   refine (HU2.out _ inferInstance).mono ?_
   rintro e w4 ⟨rfl,n4,rfl⟩
   go_wp2_with fail
   go_ret
   exact ⟨by simp [e1],Step.of _ _⟩
  ·have e1:decide (u1<0)=false:=by simpa using hu
   clear hu
   go_wp2_with fail
   go_ret
   exact ⟨by simp [e1],Step.of _ _⟩
theorem shift_any {w0 w:World} {K lc n k bx:Nat} {lA:Option Addr} {L:List (List Int)} {xs lam:List Int} (hc:w0.cell? ⟨K,1,none⟩=some (.slice lA n lc)) (hK:K<w0.heap.size) (hL:Mat64 w0 lA L) (hl:L[k]? =some lam) (hx:Row w0 bx 2 .i64 xs) (hxl:xs.length=n) (hk:k<n) (hn8:n<=8) (hll:lam.length=n-1-k) (hb1:∀a∈lam,-32768<=a/\a<=32768) (hb2:∀y∈xs,-1099511627776<=y/\y<=1099511627776) [hxx:Ext w0 w]:
  Calls Tryz.prog 119 #[.pointer (some ⟨K,0,none⟩),.int .i64 k,.slice (some ⟨bx,0,none⟩) n n] w (RetSame w (.int .i64 (dotL lam (xs.drop (k+1))))):=by
 obtain ⟨b,o,B,c1,rfl,l3,l5,l1,l2,l4⟩:=(hL.ext hxx).at_ hl
 have f1:w.cell? ⟨K,1,none⟩=some (.slice (some ⟨b,o,none⟩) n lc):=(hxx.below.cell (p:=⟨K,1,none⟩) hK).trans hc
 have f2:K<w.heap.size:=Nat.lt_of_lt_of_le hK hxx.size
 have hrow:Row w bx 2 .i64 xs:=heap_of_ext hxx hx
 obtain ⟨tail,ht⟩:∃tail,tail=xs.drop (k+1):=⟨_,rfl⟩
 obtain ⟨r,hr⟩:∃r,r=n-1-k:=⟨_,rfl⟩
 have htl:tail.length=r:=by rw [ht,List.length_drop];omega
 rw [<-ht]
 rw [<-hr] at hll
 rw [hll] at l3 l1
 have hr1:r+k+1<=n:=by omega
 have HT:=Lib.hid ht
 have HLL:=Lib.hid hll
 have HTL:=Lib.hid htl
 have HL5:=Lib.hid l5
 have HROW:=Lib.hid hrow
 have HB1:=Lib.hid hb1
 have HB2:=Lib.hid hb2
 have HXL:=Lib.hid hxl
 have htb:Hid (∀y∈tail,-1099511627776<=y/\y<=1099511627776):=Lib.hid fun y hy=>hb2 y (List.mem_of_mem_drop (by rw [<-ht];exact hy))
 clear ht hr hll htl l5 hrow hb1 hb2 hxl hx hL hl hc hK
 go_enter Tryz.func119,Tryz.ntmps119
 go_wp2_with fail
 go_loop [7,8,9,18] (fun s _ _ i=>∃q:Nat,q<=r/\i= .int .i64 q/\s= .int .i64 (dotL (lam.take q) (tail.take q))) (fun _ _ _ i=>r-(intOf i).toNat)
 case atStart=>exact ⟨0,by omega,rfl,by simp [dotL]⟩
 case round=>
  obtain ⟨q,hq,rfl,rfl⟩:=hrel
  by_cases hlt:q<r
  ·obtain ⟨a,ha⟩:∃a,lam[q]? =some a:=⟨_,List.getElem?_eq_getElem (by have :=HLL.out;omega)⟩
   obtain ⟨y,hy⟩:∃y,tail[q]? =some y:=⟨_,List.getElem?_eq_getElem (by have :=HTL.out;omega)⟩
   obtain ⟨b1,o1,-,rfl,-⟩:=HL5.out.at_ (i:=q) (by have :=HLL.out;omega)
   obtain ⟨g1,g2⟩:=ints_cell HL5.out ha
   have hxy:xs[k+1+q]? =some y:=by rw [<-hy,HT.out,List.getElem?_drop]
   obtain ⟨y',hy1,hy2⟩:=HROW.out.cell (i:=k+1+q) (by rw [HXL.out];omega)
   rw [hxy] at hy1
   injection hy1 with hy1
   subst hy1
   have ba:=HB1.out a (List.mem_of_getElem? ha)
   have bb:=htb.out y (List.mem_of_getElem? hy)
   have bs:=dotL_bound (A:=32768) (B:=1099511627776) (by omega) (by omega) (lam.take q) (tail.take q) (fun z hz=>HB1.out z (List.mem_of_mem_take hz)) (fun z hz=>htb.out z (List.mem_of_mem_take hz))
   have bm:=mul_abs_le (a:=a) (b:=y) (A:=32768) (B:=1099511627776) (by omega) (by omega) (by omega) (by omega)
   have hstep:=Lib.hid (dotL_take_succ lam tail q a y ha hy)
   have htl:(lam.take q).length<=8:=by rw [List.length_take];omega
   obtain ⟨s,hs⟩:∃s,s=dotL (lam.take q) (tail.take q):=⟨_,rfl⟩
   rw [<-hs] at bs hstep |-
   have bs1:-288230376151711744<=s:=by omega
   have bs2:s<=288230376151711744:=by omega
   obtain ⟨bm1,bm2⟩:=bm
   have bm3:-36028797018963968<=a*y:=by omega
   have bm4:a*y<=36028797018963968:=by omega
   clear ba bb bs bm1 bm2 hs ha hy hxy htl
   go_wp2_with fail
   exact ⟨⟨q+1,by omega,by go_num,by rw [hstep.out]⟩,by simp [intOf]<;>omega⟩
  ·obtain rfl:q=r:=by omega
   clear hlt
   have e1:lam.take q=lam:=List.take_of_length_le (by have :=HLL.out;omega)
   have e2:tail.take q=tail:=List.take_of_length_le (by have :=HTL.out;omega)
   rw [e1,e2]
   clear e1 e2
   go_wp2_with fail
   go_ret
   exact ⟨rfl,rfl⟩
end Go.Proofs.YtjehjkipcaohpaaGreat
