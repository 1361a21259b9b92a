/- Mat Enum Bd0 OwnZ Own64 Vr11 Tr1 -/
import Derived.Test.YtjehjkipcaohpaaGreatProg
import Derived.Test.YtjehjkipcaohpaaGreatShelf
import Derived.Test.YtjehjkipcaohpaaGreatS18
set_option maxHeartbeats 8000000
set_option linter.unusedVariables false
set_option linter.unusedSimpArgs false
set_option linter.constructorNameAsVariable false
namespace Go.Proofs.YtjehjkipcaohpaaGreat
open Go.RowKit
/-! ## A row of any values that the call made: known whole -/
section
variable {w w':World} {g:Nat} {e:TypeId} {vs:List Value}
end
/-! ## Calls of function values -/
/-! ## Slices of integers of any size; matrices -/
theorem IntsV.nil (w:World) (A:Option Addr):IntsV w A []:=⟨[],rfl,Arr.nil,fun i z hz=>by simp at hz⟩
theorem MatV.grow {w w':World} {base:Nat} {e:TypeId} {A:Option Addr} {m:List (List Int)} (h:MatV w A m) (hg:Grow base e w w') (h0:87≠e) (h1:148≠e) (h2:244≠e):MatV w' A m:=by
 obtain ⟨vs,a1,a2,a3⟩:=h
 refine ⟨vs,a1,a2.grow hg h0,fun i z hz=>?_⟩
 obtain ⟨B,c,b1,b2,b3⟩:=a3 i z hz
 exact ⟨B,c,b1,b2.grow hg h1 h2,b3⟩
/-! ## Grow, step by step -/
section
variable {w w' w2:World} {base:Nat} {e:TypeId}
end
def RetShell (w:World) (m ls:List (List Int)) (e:Ending) (w':World):Prop:=∃A c L,e= .returned (.tuple #[.slice A (List.length L) c,.int .i64 0])/\Mat64 w' A L/\L.length<=c/\c<=9223372036854775807/\L.Perm (ls.map canonL)/\L.Pairwise (fun x y=>cmpK (nrm m x) (nrm m y) x y<0)/\Step w w'
theorem sum_take_succ (l:List Int) (k:Nat) (x:Int) (h:l[k]? =some x):(l.take (k+1)).sum=(l.take k).sum+x:=by
 rw [List.take_add_one,h];simp
end Go.Proofs.YtjehjkipcaohpaaGreat
namespace Go.Proofs.YtjehjkipcaohpaaGreat
/-! ## Sizes in bits -/
theorem Bd.of64 {x:Int} (h0:-9223372036854775808<=x) (h1:x<=9223372036854775807):Bd 64 x:=by
 unfold Bd
 have :(2:Nat)^64=18446744073709551616:=by decide
 omega
end Go.Proofs.YtjehjkipcaohpaaGreat
namespace Go.Proofs.YtjehjkipcaohpaaGreat
open Go.RowKit
theorem RetOwnI.mat {w w':World} {n:Nat} {a:List (List Int)} {e:Ending} (h:RetOwnI w n a e w'):RetMat w a e w':=by
 obtain ⟨g,hs,c,rfl,h1,h2,h3,h4⟩:=h
 exact ⟨_,c,rfl,h1.mat,h2,h3,h4⟩
section
variable {w w':World} {lo g n rows:Nat} {hs:List (Nat×Nat)} {a:List (List Int)}
end
/-! ## Tables, filled entry by entry -/
section
variable {w w':World} {lo g n rows:Nat} {hs:List Nat} {a:List (List Int)}
end
section
variable {T:Nat} {w w' w2 w0:World}
theorem Only.refl (T:Nat) (w:World):Only T w w:=⟨Below.refl _ _,fun _ _ _=>rfl⟩
end
theorem totS_ge {m:List (List Int)} (hr:isRedB m=true) {b:Nat} (hb:(b:Int)<1073741824):(m.length:Int)<=totS m b:=by
 have hst:=(steps_ok hr hb).1
 have :=sum_ge_len _ hst.one
 rw [hst.len,hst.sum] at this
 exact this
theorem wide_times_any {w:World} (v:Int) (m:Nat) (h0:0<=v) (hm1:1<=m) (hm:m<9223372036854775808) (hb:v*m<340282366920938463463374607431768211456):
  Calls Tryz.prog 114 #[wideV v,.int .i64 m] w (RetVal w (wideV (v*m))):=by
 unfold wideV
 have hv1:v<340282366920938463463374607431768211456:=by
  have :v*1<=v*m:=Int.mul_le_mul_of_nonneg_left (by omega) h0
  omega
 have a0:0<=hiW v:=by unfold hiW;omega
 have a1:0<=loW v:=by unfold loW;omega
 have a2:loW v<18446744073709551616:=by unfold loW;omega
 have a3:hiW v<18446744073709551616:=by unfold hiW;omega
 have hvs:v=hiW v*18446744073709551616+loW v:=by unfold hiW loW;omega
 obtain ⟨al,hal⟩:=Int.eq_ofNat_of_zero_le a1
 obtain ⟨p,hp⟩:∃p,p=al*m:=⟨_,rfl⟩
 have hM:=Tryz.bits_Mul64 al m (by omega) (by omega)
 rw [<-hp] at hM
 have HM:=Lib.hid hM
 obtain ⟨ah,hah⟩:∃ah,ah=hiW v:=⟨_,rfl⟩
 rw [<-hah] at a0 a3 hvs |-
 obtain ⟨t,ht⟩:∃t,t=ah*m:=⟨_,rfl⟩
 have ht0:0<=t:=by rw [ht];exact Int.mul_nonneg a0 (by omega)
 have hsum:v*m=t*18446744073709551616+p:=by
  rw [hvs,Int.add_mul,ht,hp,hal,Int.mul_right_comm];simp
 obtain ⟨q,hq⟩:∃q:Int,q=((p / 18446744073709551616:Nat):Int):=⟨_,rfl⟩
 obtain ⟨r,hr⟩:∃r:Int,r=((p%18446744073709551616:Nat):Int):=⟨_,rfl⟩
 rw [<-hq,<-hr] at HM
 have HV1:Hid (hiW (v*m)=t+q):=Lib.hid (by unfold hiW;omega)
 have HV2:Hid (loW (v*m)=r):=Lib.hid (by unfold loW;omega)
 have hq0:0<=q:=by omega
 have hr0:0<=r:=by omega
 have htq:t+q<18446744073709551616:=by omega
 have ht1:t<18446744073709551616:=by omega
 have hts:=ht.symm
 rw [hal,HV1.out,HV2.out]
 have hm2:(m:Int)<9223372036854775808:=by omega
 clear hsum hvs hq hr hp hM ht hah hal hb HV1 HV2
 go_enter Tryz.func114,Tryz.ntmps114
 go_wp2_with (go_at_call 175;refine (HM.out _).mono ?_;rintro e w' ⟨rfl,rfl⟩)
 exact bodyPost_ret (v:= .agg #[.int .u64 (t+q),.int .u64 r]) (by simp [results,Tryz.results114,go_sem]) rfl ⟨rfl,Step.of _ _⟩
theorem wide_sub_any {w:World} (a b:Int) (hb0:0<=b) (hab:b<=a) (ha1:a<340282366920938463463374607431768211456):
  Calls Tryz.prog 216 #[wideV a,wideV b] w (RetVal w (wideV (a-b))):=by
 unfold wideV
 have a1:0<=hiW a/\hiW a<18446744073709551616/\0<=loW a/\loW a<18446744073709551616/\a=hiW a*18446744073709551616+loW a:=by unfold hiW loW;omega
 have b1:0<=hiW b/\hiW b<18446744073709551616/\0<=loW b/\loW b<18446744073709551616/\b=hiW b*18446744073709551616+loW b:=by unfold hiW loW;omega
 obtain ⟨c1,c2,c3,c4,c5⟩:=a1
 obtain ⟨d1,d2,d3,d4,d5⟩:=b1
 have hg2:(loW a<loW b/\bor (loW a) (loW b)=1)∨(loW b<=loW a/\bor (loW a) (loW b)=0):=by unfold bor;split<;>omega
 have HV1:Hid (hiW (a-b)=(hiW a-hiW b-bor (loW a) (loW b))%18446744073709551616):=Lib.hid (by
  have :hiW (a-b)=(a-b) / 18446744073709551616:=rfl
  omega)
 have HV2:Hid (loW (a-b)=(loW a-loW b)%18446744073709551616):=Lib.hid (by
  have :loW (a-b)=(a-b)%18446744073709551616:=rfl
  omega)
 rw [HV1.out,HV2.out]
 clear HV1 HV2 c5 d5 hg2
 generalize hiW a=ah at*
 generalize loW a=al at*
 generalize hiW b=bh at*
 generalize loW b=bl at*
 have hg1:=bor_bounds al bl
 have s1:=sub64_0 al bl c3 d3 d4
 have s2:=sub64 ah bh (bor al bl) c1 d1 d2 hg1.1 hg1.2
 generalize bor al bl=g at*
 generalize (al-bl)%18446744073709551616=lo at*
 generalize (ah-bh-g)%18446744073709551616=hi at*
 generalize bor ah (bh+g)=f at*
 have S1:=Lib.hid s1
 have S2:=Lib.hid s2
 clear s1 s2
 go_enter Tryz.func216,Tryz.ntmps216
 go_wp2_with (first |simp only [S1.out] |simp only [S2.out])
 exact bodyPost_ret (v:= .agg #[.int .u64 hi,.int .u64 lo]) (by simp [results,Tryz.results216,go_sem]) rfl ⟨rfl,Step.of _ _⟩
theorem Div64_small {w:World} (x d:Int) (h0:0<=x) (h1:x<18446744073709551616) (hd:1<=d) (hd1:d<18446744073709551616):
  Calls Tryz.prog 243 #[.int .u64 0,.int .u64 x,.int .u64 d] w fun e w'=>e= .returned (.tuple #[.int .u64 (x / d),.int .u64 (x%d)])/\∃n,w'=w.drewN n:=by
 have hq0:0<=x / d:=Int.ediv_nonneg h0 (by omega)
 have hq1:x / d<=x:=Int.ediv_le_self _ h0
 have hr0:=Int.emod_nonneg x (show d≠0 by omega)
 have hr1:=Int.emod_lt_of_pos x (show 0<d by omega)
 have hdz:(d==0)=false:=by simp;omega
 have hdz':¬d=0:=by omega
 have hle:decide (d<=0)=false:=by simp;omega
 have t1:x.tdiv d=x / d:=Int.tdiv_eq_ediv_of_nonneg h0
 have t2:x.tmod d=x%d:=Int.tmod_eq_emod_of_nonneg h0
 go_enter Tryz.func243,Tryz.ntmps243
 go_wp2_with fail
 go_quiet (fail)
 go_wp2_with fail
 go_ret2
 exact ⟨rfl,_,rfl⟩
theorem wide_small {v:Int} (h0:0<=v) (h1:v<18446744073709551616):wideV v= .agg #[.int .u64 0,.int .u64 v]:=by
 have e1:hiW v=0:=by unfold hiW;omega
 have e2:loW v=v:=by unfold loW;omega
 rw [wideV,e1,e2]
theorem wide_over_any {w:World} (v d:Int) (h0:0<=v) (h1:v<18446744073709551616) (hd:1<=d) (hd1:d<9223372036854775808):
  Calls Tryz.prog 219 #[wideV v,.int .i64 d] w (RetVal w (wideV (v / d))):=by
 have hq0:0<=v / d:=Int.ediv_nonneg h0 (by omega)
 have hq1:v / d<=v:=Int.ediv_le_self _ h0
 rw [wide_small h0 h1,wide_small hq0 (by omega)]
 have c1:=fun W=>Div64_small (w:=W) 0 d (by omega) (by omega) hd (by omega)
 rw [Int.zero_ediv,Int.zero_emod] at c1
 have c2:=fun W=>Div64_small (w:=W) v d h0 h1 hd (by omega)
 have C1:=Lib.hid c1
 have C2:=Lib.hid c2
 generalize v / d=q at*
 generalize v%d=r at*
 clear c1 c2
 by_cases hv0:v=0
 ·subst hv0
  have hq:q=0:=by omega
  subst hq
  have hr:Hid (∀W,Calls Tryz.prog 243 #[.int .u64 0,.int .u64 0,.int .u64 d] W fun e w'=>e= .returned (.tuple #[.int .u64 0,.int .u64 0])/\∃n,w'=W.drewN n):=C1
  clear C2 C1
  go_enter Tryz.func219,Tryz.ntmps219
  go_wp2_with (go_at_call 243;refine (hr.out _).mono ?_;rintro e w' ⟨rfl,n1,rfl⟩)
  exact bodyPost_ret (v:= .agg #[.int .u64 0,.int .u64 0]) (by simp [results,Tryz.results219,go_sem]) rfl ⟨rfl,Step.of _ _⟩
 ·clear hv0
  go_enter Tryz.func219,Tryz.ntmps219
  go_wp2_with fail
  go_at_call 243
  refine (C1.out _).mono ?_
  rintro e w' ⟨rfl,n1,rfl⟩
  go_wp2_with fail
  go_at_call 243
  refine (C2.out _).mono ?_
  rintro e w' ⟨rfl,n2,rfl⟩
  go_wp2_with fail
  exact bodyPost_ret (v:= .agg #[.int .u64 0,.int .u64 q]) (by simp [results,Tryz.results219,go_sem]) rfl ⟨rfl,Step.of _ _⟩
theorem wide_exceeds_any {w:World} (a b:Int):
  Calls Tryz.prog 256 #[wideV a,wideV b] w (RetVal w (.bool (decide (b<a)))):=by
 unfold wideV
 have a1:0<=loW a/\loW a<18446744073709551616/\a=hiW a*18446744073709551616+loW a:=by unfold hiW loW;omega
 have b1:0<=loW b/\loW b<18446744073709551616/\b=hiW b*18446744073709551616+loW b:=by unfold hiW loW;omega
 generalize hiW a=ah at*
 generalize loW a=al at*
 generalize hiW b=bh at*
 generalize loW b=bl at*
 obtain ⟨c3,c4,c5⟩:=a1
 obtain ⟨d3,d4,d5⟩:=b1
 rcases Int.lt_trichotomy bh ah with h |h |h
 ·have HV:Hid (decide (b<a)=true):=Lib.hid (by simp;omega)
  rw [HV.out]
  have e1:decide (bh<ah)=true:=by simpa using h
  clear h c5 d5
  go_enter Tryz.func256,Tryz.ntmps256
  go_wp2_with fail
  go_ret
  exact ⟨rfl,Step.of _ _⟩
 ·subst h
  have e1:decide (bh<bh)=false:=by simp
  have HV:Hid (decide (b<a)=decide (bl<al)):=Lib.hid (by rw [Bool.eq_iff_iff];simp;omega)
  rw [HV.out]
  clear c5 d5
  by_cases hl:bl<al
  ·have e2:decide (bl<al)=true:=by simpa using hl
   clear hl
   go_enter Tryz.func256,Tryz.ntmps256
   go_wp2_with fail
   go_ret
   exact ⟨by simp [e2],Step.of _ _⟩
  ·have e2:decide (bl<al)=false:=by simpa using hl
   clear hl
   go_enter Tryz.func256,Tryz.ntmps256
   go_wp2_with fail
   go_ret
   exact ⟨by simp [e2],Step.of _ _⟩
 ·have HV:Hid (decide (b<a)=false):=Lib.hid (by simp;omega)
  rw [HV.out]
  have e1:decide (bh<ah)=false:=by simp;omega
  have e2:(ah==bh)=false:=by simp;omega
  clear h c5 d5
  go_enter Tryz.func256,Tryz.ntmps256
  go_wp2_with fail
  go_ret
  exact ⟨rfl,Step.of _ _⟩
theorem square_any {w:World} (u:Int) (h0:-4611686018427387904<=u) (h1:u<=4611686018427387904):
  Calls Tryz.prog 217 #[.int .i64 u] w (RetVal w (wideV (u*u))):=by
 obtain ⟨a,ha⟩:∃a:Nat,a=u.natAbs:=⟨_,rfl⟩
 have hsq:u*u=((a*a:Nat):Int):=by rw [ha];exact (Int.natAbs_mul_self).symm
 have hM:=Tryz.bits_Mul64 a a (by omega) (by omega)
 rw [hsq]
 obtain ⟨p,hp⟩:∃p,p=a*a:=⟨_,rfl⟩
 rw [<-hp] at hM |-
 have HV:Hid (wideV (p:Int)= .agg #[.int .u64 ((p / 18446744073709551616:Nat):Int),.int .u64 ((p%18446744073709551616:Nat):Int)]):=Lib.hid (by unfold wideV hiW loW;congr 4<;>omega)
 rw [HV.out]
 generalize ((p / 18446744073709551616:Nat):Int)=q at*
 generalize ((p%18446744073709551616:Nat):Int)=r at*
 have HM:=Lib.hid hM
 clear hM hp hsq HV
 by_cases hu:u<0
 ·have hd:decide (u<0)=true:=by simpa using hu
  have e1:IntKind.u64.wrap u=18446744073709551616-a:=by rw [IntKind.wrap_u64];omega
  have e2:IntKind.u64.wrap (-(18446744073709551616-(a:Int)))=a:=by rw [IntKind.wrap_u64];omega
  clear hu ha
  go_enter Tryz.func217,Tryz.ntmps217
  go_wp2_with (go_at_call 175;refine (HM.out _).mono ?_;rintro e w' ⟨rfl,rfl⟩)
  exact bodyPost_ret (v:= .agg #[.int .u64 q,.int .u64 r]) (by simp [results,Tryz.results217,go_sem]) rfl ⟨rfl,Step.of _ _⟩
 ·have hd:decide (u<0)=false:=by simpa using hu
  obtain rfl:u=(a:Int):=by omega
  clear hu ha
  go_enter Tryz.func217,Tryz.ntmps217
  go_wp2_with (go_at_call 175;refine (HM.out _).mono ?_;rintro e w' ⟨rfl,rfl⟩)
  exact bodyPost_ret (v:= .agg #[.int .u64 q,.int .u64 r]) (by simp [results,Tryz.results217,go_sem]) rfl ⟨rfl,Step.of _ _⟩
end Go.Proofs.YtjehjkipcaohpaaGreat
