/- Tm1 Tl Tm2 Lat2 Tr18 Sm12 Prov12 -/
import Derived.Test.YtjehjkipcaohpaaGreatProg
import Derived.Test.YtjehjkipcaohpaaGreatShelf
import Derived.Test.YtjehjkipcaohpaaGreatS19
import Derived.Test.YtjehjkipcaohpaaGreatST04
import Derived.WideKeyArgs
import Derived.Deep.SlicePairs
set_option maxHeartbeats 8000000
set_option linter.unusedVariables false
set_option linter.unusedSimpArgs false
set_option linter.constructorNameAsVariable false
namespace Go.Proofs.YtjehjkipcaohpaaGreat
open La
theorem insB_iff {mi sh lim c:Int}:insB mi sh lim c=true↔lvU mi sh c*lvU mi sh c<=lim:=by
 simp [insB]
theorem accB_iff {mi sh lim lo hi:Int} (hm:1<=mi) {a b:Int} (hab:a-1<=b) (h:∀c,(a<=c/\c<=b)↔lvU mi sh c*lvU mi sh c<=lim) (h1:lvU mi sh (a-1)<0) (h2:0<lvU mi sh (b+1)) (ha:-1099511627776<=a) (hb:b<=1099511627776):accB mi sh lim lo hi=true↔lo=a/\hi=b:=by
 have hin:∀c,insB mi sh lim c=true↔a<=c/\c<=b:=fun c=>by rw [insB_iff,<-h]
 have hout:∀c,insB mi sh lim c=false↔¬(a<=c/\c<=b):=fun c=>by rw [<-hin];cases insB mi sh lim c<;>simp
 have mono:∀c d,c<=d->lvU mi sh c<=lvU mi sh d:=fun c d hcd=>by
  unfold lvU
  have :mi*c<=mi*d:=Int.mul_le_mul_of_nonneg_left hcd (by omega)
  omega
 unfold accB
 constructor
 ·intro hh
  split at hh
  ·cases hh
  ·rename_i g0
   split at hh
   ·cases hh
   ·rename_i g
    simp only [Bool.or_eq_true,not_or,Bool.not_eq_true] at g
    have g1:=(hout (lo-1)).1 g.1
    have g2:=(hout (hi+1)).1 g.2
    split at hh
    ·rename_i h3
     simp only [Bool.and_eq_true] at hh
     have g3:=(hin lo).1 hh.1
     have g4:=(hin hi).1 hh.2
     omega
    ·rename_i h3
     simp only [Bool.and_eq_true,decide_eq_true_eq] at hh
     have e:hi=lo-1:=by omega
     rw [show hi+1=lo by omega] at g2
     rw [e] at hh
     rcases (by omega:a<=b∨b=a-1) with h4 |h4
     ·exfalso
      have k1:=(h a).1 ⟨by omega,by omega⟩
      have k2:¬lvU mi sh lo*lvU mi sh lo<=lim:=fun hc=>g2 ((h lo).2 hc)
      have k3:¬lvU mi sh (lo-1)*lvU mi sh (lo-1)<=lim:=fun hc=>g1 ((h (lo-1)).2 hc)
      rcases (by omega:lo<=a∨a<=lo-1) with h5 |h5
      ·have m1:=mono lo a h5
       have :=Int.mul_le_mul m1 m1 (by omega) (by omega)
       omega
      ·have m1:=mono a (lo-1) h5
       have :=Int.mul_le_mul (a:=-lvU mi sh (lo-1)) (b:=-lvU mi sh (lo-1)) (c:=-lvU mi sh a) (d:=-lvU mi sh a) (by omega) (by omega) (by omega) (by omega)
       rw [Int.neg_mul_neg,Int.neg_mul_neg] at this
       omega
     ·subst h4
      rw [show a-1+1=a by omega] at h2
      rcases (by omega:lo=a∨lo<=a-1∨a<=lo-1) with h5 |h5 |h5
      ·omega
      ·have :=mono _ _ h5;omega
      ·have :=mono _ _ h5;omega
 ·rintro ⟨rfl,rfl⟩
  rw [if_neg (by omega),if_neg]
  ·split
   ·rename_i h3
    rw [(hin lo).2 (by omega),(hin hi).2 (by omega)];rfl
   ·rename_i h3
    have e:hi=lo-1:=by omega
    rw [show hi+1=lo by omega] at h2
    rw [e]
    simp [h1,h2]
  ·simp only [Bool.or_eq_true,not_or,Bool.not_eq_true]
   exact ⟨(hout _).2 (by omega),(hout _).2 (by omega)⟩
theorem acc_level {m:List (List Int)} (hr:RedOK m) {bound:Int} (hb:0≤bound) (hb1:bound<1073741824) {k:Nat} (t:List Int) (hk:k<m.length) (ht:t.length=m.length-1-k) (h0:0≤left (ent m) bound (k+1) t) (lo hi:Int):
  accB (vD (minorsTo m m.length) (k+1)) (vSh (lamTo m m.length) k t) (vSq (minorsTo m m.length) k (left (ent m) bound (k+1) t)) lo hi=true↔lo=vLo (minorsTo m m.length) (lamTo m m.length) k (left (ent m) bound (k+1) t) t/\hi=vHi (minorsTo m m.length) (lamTo m m.length) k (left (ent m) bound (k+1) t) t:=by
 have hN:=hr.num hb hb1
 have hlev:=lev_of hr hb hb1 t k hk ht h0
 have hd:=hN.d1 (k+1) (by omega)
 obtain ⟨s0,s1⟩:=vSq_bounds hN hlev
 obtain ⟨r0,r1,r2⟩:=vR_bounds hN hlev
 have hS:=absSum_bound hN hlev
 have he:=vEnds hN hlev
 have hc:=(vCnt_bounds hN hlev).1
 have hq:=fun u=>isq_le_iff s0 u
 have hu:∀c,lvU (vD (minorsTo m m.length) (k+1)) (vSh (lamTo m m.length) k t) c=vD (minorsTo m m.length) (k+1)*c+vSh (lamTo m m.length) k t:=fun c=>rfl
 refine accB_iff hd (by unfold vCnt at hc;omega) (fun c=>?_) ?_ ?_ (by omega) (by omega)
 ·rw [<-hq,hu]
  show _↔(-vR (minorsTo m m.length) k (left (ent m) bound (k+1) t)<=_/\_<=vR (minorsTo m m.length) k (left (ent m) bound (k+1) t))
  unfold vLo vHi
  generalize vD (minorsTo m m.length) (k+1)=d at hd |-
  generalize vSh (lamTo m m.length) k t=s
  generalize vR (minorsTo m m.length) k (left (ent m) bound (k+1) t)=r
  have e1:-((r+s) / d)<=c↔-r<=d*c+s:=by
   have h1:=Int.le_ediv_iff_mul_le (a:=-c) (b:=r+s) (show 0<d by omega)
   have h2:-c*d=-(d*c):=by rw [Int.neg_mul,Int.mul_comm]
   omega
  have e2:c<=(r-s) / d↔d*c+s<=r:=by
   have h1:=Int.le_ediv_iff_mul_le (a:=c) (b:=r-s) (show 0<d by omega)
   have h2:c*d=d*c:=Int.mul_comm _ _
   omega
  rw [e1,e2]
 ·rw [hu]
  unfold vLo
  generalize vD (minorsTo m m.length) (k+1)=d at hd |-
  generalize vSh (lamTo m m.length) k t=s
  generalize vR (minorsTo m m.length) k (left (ent m) bound (k+1) t)=r at r0 |-
  have a1:=Int.mul_ediv_add_emod (r+s) d
  have a2:=Int.emod_lt_of_pos (r+s) (show 0<d by omega)
  have e:d*(-((r+s) / d)-1)=-(d*((r+s) / d))-d:=by rw [Int.mul_sub,Int.mul_neg,Int.mul_one]
  omega
 ·rw [hu]
  unfold vHi
  generalize vD (minorsTo m m.length) (k+1)=d at hd |-
  generalize vSh (lamTo m m.length) k t=s
  generalize vR (minorsTo m m.length) k (left (ent m) bound (k+1) t)=r at r0 |-
  have a1:=Int.mul_ediv_add_emod (r-s) d
  have a2:=Int.emod_lt_of_pos (r-s) (show 0<d by omega)
  have e:d*((r-s) / d+1)=d*((r-s) / d)+d:=by rw [Int.mul_add,Int.mul_one]
  omega
theorem firstNZ_cons (c:Int) (t:List Int):0<firstNZ (c::t)↔0<c∨(c=0/\0<firstNZ t):=by
 show 0<(if c=0 then firstNZ t else c)↔_
 by_cases h:c=0
 ·rw [if_pos h];subst h;simp
 ·rw [if_neg h];omega
theorem canonL_pos {x:List Int} (h:0<firstNZ x):canonL x=x:=by unfold canonL;rw [if_neg (by omega)]
theorem mem_canon {m:List (List Int)} (hr:RedOK m) {b:Int} (hb:0<=b) (exact:Bool) (x:List Int):x∈(collL m b exact).map canonL↔x.length=m.length/\0<firstNZ x/\nrm m x<=b/\(exact=true->nrm m x=b):=by
 rw [List.mem_map]
 constructor
 ·rintro ⟨y,hy,rfl⟩
  obtain ⟨h1,h2,h3,h4⟩:=(mem_coll hr hb exact y).1 hy
  rw [nrm_canon,canonL_length]
  exact ⟨h1,canon_first y (fun e=>lastPos_ne h2 (firstNZ_zero e)),h3,h4⟩
 ·rintro ⟨h1,h2,h3,h4⟩
  have hne:¬∀y∈x,y=0:=fun hz=>by
   have :firstNZ x=0:=by
    clear h1 h2 h3 h4
    induction x with
    |nil=>rfl
    |cons a x ih=>
     have ha:=hz a (by simp)
     simp only [firstNZ,ha,if_true]
     exact ih (fun y hy=>hz y (by simp [hy]))
   omega
  rcases lastPos_or hne with h5 |h5
  ·refine ⟨x,(mem_coll hr hb exact x).2 ⟨h1,h5,h3,h4⟩,?_⟩
   unfold canonL
   rw [if_neg (by omega)]
  ·refine ⟨x.map fun c=>-c,(mem_coll hr hb exact _).2 ⟨by simpa using h1,h5,by rw [nrm_neg];exact h3,by rw [nrm_neg];exact h4⟩,?_⟩
   unfold canonL
   rw [firstNZ_neg,if_pos (by omega),neg_neg_map]
def tE (m:List (List Int)) (b:Int):Nat->List Int->List (Int×Int)
 |0,t=>[(tLo m b 0 t,tHi m b 0 t)]
 |k+1,t=>(tLo m b (k+1) t,tHi m b (k+1) t)::(List.range (tCnt m b (k+1) t)).flatMap fun (j:Nat)=>tE m b k ((tLo m b (k+1) t+(j:Int))::t)
def tEF (m:List (List Int)) (b:Int) (k:Nat) (t:List Int) (i:Nat):List (Int×Int):=
 (List.range' i (tCnt m b k t-i)).flatMap fun (j:Nat)=>tE m b (k-1) ((tLo m b k t+(j:Int))::t)
def tC (m:List (List Int)) (b:Int):Nat->List Int->List (List Int)->List (List Int)
 |0,t,l=>l++colTo t (cLo t (tLo m b 0 t)) (colN (cLo t (tLo m b 0 t)) (tHi m b 0 t) l.length)
 |k+1,t,l=>(List.range (tCnt m b (k+1) t)).foldl (fun l (j:Nat)=>tC m b k ((tLo m b (k+1) t+(j:Int))::t) l) l
def tCF (m:List (List Int)) (b:Int) (k:Nat) (t:List Int) (i:Nat) (l:List (List Int)):List (List Int):=
 (List.range' i (tCnt m b k t-i)).foldl (fun l (j:Nat)=>tC m b (k-1) ((tLo m b k t+(j:Int))::t) l) l
def upE (m:List (List Int)) (b:Int) (x:List Int):Nat->Nat->List (Int×Int)
 |0,_=>[]
 |f+1,k=>tEF m b k (x.drop (k+1)) (x.getD k 0-tLo m b k (x.drop (k+1))+1).toNat++upE m b x f (k+1)
def upC (m:List (List Int)) (b:Int) (x:List Int):Nat->Nat->List (List Int)->List (List Int)
 |0,_,l=>l
 |f+1,k,l=>upC m b x f (k+1) (tCF m b k (x.drop (k+1)) (x.getD k 0-tLo m b k (x.drop (k+1))+1).toNat l)
theorem tE_F (m:List (List Int)) (b:Int) (k:Nat) (t:List Int):tE m b (k+1) t=(tLo m b (k+1) t,tHi m b (k+1) t)::tEF m b (k+1) t 0:=by
 simp [tE,tEF,List.range_eq_range']
theorem tC_F (m:List (List Int)) (b:Int) (k:Nat) (t:List Int) (l:List (List Int)):tC m b (k+1) t l=tCF m b (k+1) t 0 l:=by
 simp [tC,tCF,List.range_eq_range']
theorem tEF_out {m:List (List Int)} {b:Int} {k:Nat} {t:List Int} {i:Nat} (h:tCnt m b k t<=i):tEF m b k t i=[]:=by
 simp [tEF,show tCnt m b k t-i=0 by omega]
theorem tCF_out {m:List (List Int)} {b:Int} {k:Nat} {t:List Int} {i:Nat} (h:tCnt m b k t<=i) (l:List (List Int)):tCF m b k t i l=l:=by
 simp [tCF,show tCnt m b k t-i=0 by omega]
theorem tEF_in {m:List (List Int)} {b:Int} {k:Nat} {t:List Int} {i:Nat} (h:i<tCnt m b k t):tEF m b k t i=tE m b (k-1) ((tLo m b k t+(i:Int))::t)++tEF m b k t (i+1):=by
 rw [tEF,show tCnt m b k t-i=(tCnt m b k t-(i+1))+1 by omega,List.range'_succ,List.flatMap_cons,tEF]
theorem tCF_in {m:List (List Int)} {b:Int} {k:Nat} {t:List Int} {i:Nat} (h:i<tCnt m b k t) (l:List (List Int)):tCF m b k t i l=tCF m b k t (i+1) (tC m b (k-1) ((tLo m b k t+(i:Int))::t) l):=by
 rw [tCF,show tCnt m b k t-i=(tCnt m b k t-(i+1))+1 by omega,List.range'_succ,List.foldl_cons,tCF]
theorem upE_congr {m:List (List Int)} {b:Int} {x y:List Int}:∀f k,x.drop k=y.drop k->upE m b x f k=upE m b y f k:=by
 intro f
 induction f with
 |zero=>intro k _;rfl
 |succ f ih=>
  intro k h
  have h1:x.drop (k+1)=y.drop (k+1):=by
   have e:∀z:List Int,z.drop (k+1)=(z.drop k).drop 1:=fun z=>by rw [List.drop_drop]
   rw [e,e,h]
  have h2:x.getD k 0=y.getD k 0:=by
   have e:∀z:List Int,z.getD k 0=(z.drop k).headD 0:=fun z=>by simp [List.getD_eq_getElem?_getD,List.headD_eq_head?_getD,List.head?_drop]
   rw [e,e,h]
  simp only [upE,h1,h2,ih (k+1) h1]
theorem upC_congr {m:List (List Int)} {b:Int} {x y:List Int}:∀f k,x.drop k=y.drop k->∀l,upC m b x f k l=upC m b y f k l:=by
 intro f
 induction f with
 |zero=>intro k _ l;rfl
 |succ f ih=>
  intro k h l
  have h1:x.drop (k+1)=y.drop (k+1):=by
   have e:∀z:List Int,z.drop (k+1)=(z.drop k).drop 1:=fun z=>by rw [List.drop_drop]
   rw [e,e,h]
  have h2:x.getD k 0=y.getD k 0:=by
   have e:∀z:List Int,z.getD k 0=(z.drop k).headD 0:=fun z=>by simp [List.getD_eq_getElem?_getD,List.headD_eq_head?_getD,List.head?_drop]
   rw [e,e,h]
  simp only [upC,h1,h2,ih (k+1) h1]
structure ChkSt (m:List (List Int)) (b:Int) (k:Nat) (x rest:List Int) (lv:List Lvl):Prop where
 kn:k<m.length
 xl:x.length=m.length
 rl:rest.length=m.length+1
 ll:lv.length=m.length
 rs:∀j,k<=j->j<m.length->rest.getD (j+1) 0=left (ent m) b (j+1) (x.drop (j+1))/\0<=left (ent m) b (j+1) (x.drop (j+1))
 lv:∀j,k<j->j<m.length->lv.getD j ⟨0,0,0,0⟩=lvlAt (minorsTo m m.length) (lamTo m m.length) j x rest (tHi m b j (x.drop (j+1)))/\tLo m b j (x.drop (j+1))<=x.getD j 0/\x.getD j 0<=tHi m b j (x.drop (j+1))
theorem drop_set_self {x:List Int} {k:Nat} {a:Int} (h:k<x.length):(x.set k a).drop k=a::x.drop (k+1):=by
 rw [List.drop_eq_getElem_cons (by simpa using h)]
 simp [List.drop_set_of_lt (show k<k+1 by omega)]
theorem ChkSt.next {m:List (List Int)} (hr:RedOK m) {b:Int} {k:Nat} {x rest:List Int} {lv:List Lvl} (h:ChkSt m b k x rest lv) (hk:0<k) {a:Int} (hv:lv.getD k ⟨0,0,0,0⟩=lvlAt (minorsTo m m.length) (lamTo m m.length) k x rest (tHi m b k (x.drop (k+1))))
  (a1:tLo m b k (x.drop (k+1))<=a) (a2:a<=tHi m b k (x.drop (k+1))):
  ChkSt m b (k-1) (x.set k a) (rest.set k (restOf (lv.getD k ⟨0,0,0,0⟩) a)) lv:=by
 have hkn:=h.kn
 have hxl:=h.xl
 have hrl:=h.rl
 have hdk:(x.drop (k+1)).length=m.length-1-k:=by rw [List.length_drop];omega
 obtain ⟨r1,r2⟩:=h.rs k (Nat.le_refl _) hkn
 refine ⟨by omega,by rw [List.length_set];exact h.xl,by rw [List.length_set];exact h.rl,h.ll,fun j j1 j2=>?_,fun j j1 j2=>?_⟩
 ·rcases Nat.lt_or_ge j k with hj |hj
  ·obtain rfl:j=k-1:=by omega
   rw [show k-1+1=k by omega,getD_set_self _ _ _ _ (by omega),hv,drop_set_self (by omega)]
   have e:restOf (lvlAt (minorsTo m m.length) (lamTo m m.length) k x rest (tHi m b k (x.drop (k+1)))) a=vRest (minorsTo m m.length) (lamTo m m.length) k (left (ent m) b (k+1) (x.drop (k+1))) (x.drop (k+1)) a:=by
    unfold restOf lvlAt vRest vSq vU lvU vSh
    simp only
    rw [r1,Int.mul_comm (left _ _ _ _)]
   rw [e,vRest_eq hr hkn b _ hdk]
   exact ⟨rfl,(inv_iff hr hkn _ hdk r2 a).1 ⟨a1,a2⟩⟩
  ·rw [getD_set_ne _ _ _ _ _ (by omega),List.drop_set_of_lt (by omega)]
   exact h.rs j hj j2
 ·rcases Nat.lt_or_ge k j with hj |hj
  ·rw [lvlAt_set (by omega),List.drop_set_of_lt (by omega),getD_set_ne x _ _ _ _ (by omega)]
   exact h.lv j hj j2
  ·obtain rfl:j=k:=by omega
   rw [lvlAt_set (by omega),List.drop_set_of_lt (by omega),getD_set_self x _ _ _ (by omega)]
   exact ⟨hv,a1,a2⟩
theorem ChkSt.mono {m:List (List Int)} {b:Int} {k k1:Nat} {x rest:List Int} {lv:List Lvl} (h:ChkSt m b k x rest lv) (h1:k<=k1) (h2:k1<m.length):ChkSt m b k1 x rest lv:=
 ⟨h2,h.xl,h.rl,h.ll,fun j a c=>h.rs j (by omega) c,fun j a c=>h.lv j (by omega) c⟩
theorem ChkSt.setLv {m:List (List Int)} {b:Int} {k:Nat} {x rest:List Int} {lv:List Lvl} (h:ChkSt m b k x rest lv) (v:Lvl):ChkSt m b k x rest (lv.set k v):=
 ⟨h.kn,h.xl,h.rl,by rw [List.length_set];exact h.ll,h.rs,fun j a c=>by rw [getD_set_ne _ _ _ _ _ (by omega)];exact h.lv j a c⟩
theorem up_find {m:List (List Int)} {b:Int} {x rest:List Int} {lv:List Lvl} {k0:Nat} (h:ChkSt m b k0 x rest lv):∀f k,m.length-k=f→k0<k→
  match upTo m.length x lv f k with
  |some k1=>k≤k1∧k1<m.length∧x.getD k1 0<tHi m b k1 (x.drop (k1+1))∧upE m b x f k=tEF m b k1 (x.drop (k1+1)) (x.getD k1 0-tLo m b k1 (x.drop (k1+1))+1).toNat++upE m b x (m.length-(k1+1)) (k1+1)∧
    ∀l,upC m b x f k l=upC m b x (m.length-(k1+1)) (k1+1) (tCF m b k1 (x.drop (k1+1)) (x.getD k1 0-tLo m b k1 (x.drop (k1+1))+1).toNat l)
  |none=>upE m b x f k=[]/\∀l,upC m b x f k l=l:=by
 intro f
 induction f with
 |zero=>intro k _ _;exact ⟨rfl,fun _=>rfl⟩
 |succ f ih=>
  intro k hf hk
  have hkn:k<m.length:=by omega
  obtain ⟨hv,l1,l2⟩:=h.lv k hk hkn
  have hhi:(lv.getD k ⟨0,0,0,0⟩).hi=tHi m b k (x.drop (k+1)):=by rw [hv];rfl
  rw [upTo,if_pos hkn,hhi]
  by_cases hlt:x.getD k 0<tHi m b k (x.drop (k+1))
  ·rw [if_pos hlt]
   refine ⟨Nat.le_refl _,hkn,hlt,?_,fun l=>?_⟩
   ·rw [upE,show m.length-(k+1)=f by omega]
   ·rw [upC,show m.length-(k+1)=f by omega]
  ·rw [if_neg hlt]
   have hout:tCnt m b k (x.drop (k+1))<=(x.getD k 0-tLo m b k (x.drop (k+1))+1).toNat:=by unfold tCnt;omega
   have e1:upE m b x (f+1) k=upE m b x f (k+1):=by rw [upE,tEF_out hout,List.nil_append]
   have e2:∀l,upC m b x (f+1) k l=upC m b x f (k+1) l:=fun l=>by rw [upC,tCF_out hout]
   have :=ih (k+1) (by omega) (by omega)
   split<;>rename_i hu<;>rw [hu] at this
   ·obtain ⟨a1,a2,a3,a4,a5⟩:=this
    exact ⟨by omega,a2,a3,by rw [e1];exact a4,fun l=>by rw [e2];exact a5 l⟩
   ·exact ⟨by rw [e1];exact this.1,fun l=>by rw [e2];exact this.2 l⟩
theorem chk_iff {m:List (List Int)} (hr:RedOK m) {b:Int} (hb:0≤b) (hb1:b<1073741824) (C:List (Int×Int)):∀k x rest lv l,ChkSt m b k x rest lv→∀r,
  chk (minorsTo m m.length) (lamTo m m.length) m.length C k x rest lv l=some r↔
   C=tE m b k (x.drop (k+1))++upE m b x (m.length-(k+1)) (k+1)/\r=upC m b x (m.length-(k+1)) (k+1) (tC m b k (x.drop (k+1)) l):=by
 induction C with
 |nil=>
  intro k x rest lv l h r
  rw [chk]
  have :tE m b k (x.drop (k+1))≠[]:=by cases k<;>simp [tE]
  constructor
  ·intro h;cases h
  ·rintro ⟨h1,-⟩
   exact absurd (List.append_eq_nil_iff.1 h1.symm).1 this
 |cons p C ih=>
  obtain ⟨lo,hi⟩:=p
  intro k x rest lv l h r
  have hkn:=h.kn
  have hxl:=h.xl
  obtain ⟨r1,r2⟩:=h.rs k (Nat.le_refl _) hkn
  have hdk:(x.drop (k+1)).length=m.length-1-k:=by rw [List.length_drop];omega
  have hacc:accB (lvlAt (minorsTo m m.length) (lamTo m m.length) k x rest hi).mi (lvlAt (minorsTo m m.length) (lamTo m m.length) k x rest hi).sh (lvlAt (minorsTo m m.length) (lamTo m m.length) k x rest hi).lim lo hi=true↔lo=tLo m b k (x.drop (k+1))/\hi=tHi m b k (x.drop (k+1)):=by
   have :=acc_level hr hb hb1 (x.drop (k+1)) hkn hdk r2 lo hi
   unfold lvlAt
   simp only
   rw [r1,Int.mul_comm (left _ _ _ _)]
   exact this
  have hhead:tE m b k (x.drop (k+1))=(tLo m b k (x.drop (k+1)),tHi m b k (x.drop (k+1)))::(if k=0 then [] else tEF m b k (x.drop (k+1)) 0):=by
   cases k with
   |zero=>rfl
   |succ k=>rw [tE_F,if_neg (by omega)]
  simp only [chk]
  by_cases hA:accB (lvlAt (minorsTo m m.length) (lamTo m m.length) k x rest hi).mi (lvlAt (minorsTo m m.length) (lamTo m m.length) k x rest hi).sh (lvlAt (minorsTo m m.length) (lamTo m m.length) k x rest hi).lim lo hi=true
  ·rw [if_pos hA]
   obtain ⟨rfl,rfl⟩:=hacc.1 hA
   rw [hhead,List.cons_append,List.cons.injEq]
   simp only [true_and]
   have hset:=h.setLv (lvlAt (minorsTo m m.length) (lamTo m m.length) k x rest (tHi m b k (x.drop (k+1))))
   have hself:(lv.set k (lvlAt (minorsTo m m.length) (lamTo m m.length) k x rest (tHi m b k (x.drop (k+1))))).getD k ⟨0,0,0,0⟩=lvlAt (minorsTo m m.length) (lamTo m m.length) k x rest (tHi m b k (x.drop (k+1))):=getD_set_self _ _ _ _ (by rw [h.ll];exact hkn)
   by_cases hd:0<k/\tLo m b k (x.drop (k+1))<=tHi m b k (x.drop (k+1))
   ·rw [if_pos hd,if_neg (show ¬k=0 by omega)]
    have hn:=hset.next hr hd.1 (a:=tLo m b k (x.drop (k+1))) hself (Int.le_refl _) hd.2
    rw [hself] at hn
    rw [ih _ _ _ _ _ hn]
    have e1:(x.set k (tLo m b k (x.drop (k+1)))).drop (k-1+1)=tLo m b k (x.drop (k+1))::x.drop (k+1):=by
     rw [show k-1+1=k by omega,drop_set_self (by omega)]
    have e2:(x.set k (tLo m b k (x.drop (k+1)))).drop (k+1)=x.drop (k+1):=List.drop_set_of_lt (by omega)
    have hc:0<tCnt m b k (x.drop (k+1)):=by unfold tCnt;omega
    rw [e1,show m.length-(k-1+1)=(m.length-(k+1))+1 by omega,show k-1+1=k by omega]
    simp only [upE,upC,e2]
    rw [getD_set_self _ _ _ _ (by omega),show (tLo m b k (x.drop (k+1))-tLo m b k (x.drop (k+1))+1).toNat=1 by omega,upE_congr (m:=m) (b:=b) (m.length-(k+1)) (k+1) e2,upC_congr (m:=m) (b:=b) (m.length-(k+1)) (k+1) e2,tEF_in hc]
    have e3:tC m b k (x.drop (k+1)) l=tCF m b k (x.drop (k+1)) (0+1) (tC m b (k-1) ((tLo m b k (x.drop (k+1))+((0:Nat):Int))::x.drop (k+1)) l):=by
     cases k with
     |zero=>omega
     |succ k=>rw [tC_F,tCF_in hc]
    rw [e3]
    simp only [Int.add_zero,Int.natCast_zero,Nat.zero_add,List.append_assoc]
   ·rw [if_neg hd]
    have e0:(if k=0 then [] else tEF m b k (x.drop (k+1)) 0)=[]:=by
     by_cases hk:k=0
     ·rw [if_pos hk]
     ·rw [if_neg hk,tEF_out]
      unfold tCnt;omega
    have e1:tC m b k (x.drop (k+1)) l=colAt k x (tLo m b k (x.drop (k+1))) (tHi m b k (x.drop (k+1))) l:=by
     unfold colAt
     cases k with
     |zero=>rw [if_pos rfl,tC,<-List.drop_one]
     |succ k=>
      rw [if_neg (by omega),tC_F,tCF_out]
      unfold tCnt;omega
    rw [e0,List.nil_append,e1]
    have hup:=up_find hset (m.length-(k+1)) (k+1) rfl (by omega)
    unfold upK
    split<;>rename_i hu<;>rw [hu] at hup
    ·rename_i k1
     obtain ⟨a1,a2,a3,a4,a5⟩:=hup
     obtain ⟨b1,b2,b3⟩:=hset.lv k1 (by omega) a2
     have hn:=(hset.mono (show k<=k1 by omega) a2).next hr (by omega) (a:=x.getD k1 0+1) b1 (by omega) (by omega)
     rw [ih _ _ _ _ _ hn,a4,a5]
     have e1:(x.set k1 (x.getD k1 0+1)).drop (k1-1+1)=(x.getD k1 0+1)::x.drop (k1+1):=by
      rw [show k1-1+1=k1 by omega,drop_set_self (by omega)]
     have e2:(x.set k1 (x.getD k1 0+1)).drop (k1+1)=x.drop (k1+1):=List.drop_set_of_lt (by omega)
     have hc:(x.getD k1 0-tLo m b k1 (x.drop (k1+1))+1).toNat<tCnt m b k1 (x.drop (k1+1)):=by unfold tCnt;omega
     have e3:tLo m b k1 (x.drop (k1+1))+(((x.getD k1 0-tLo m b k1 (x.drop (k1+1))+1).toNat:Nat):Int)=x.getD k1 0+1:=by omega
     rw [e1,show m.length-(k1-1+1)=(m.length-(k1+1))+1 by omega,show k1-1+1=k1 by omega]
     simp only [upE,upC,e2]
     rw [getD_set_self _ _ _ _ (by omega),upE_congr (m:=m) (b:=b) (m.length-(k1+1)) (k1+1) e2,upC_congr (m:=m) (b:=b) (m.length-(k1+1)) (k1+1) e2,tEF_in hc,tCF_in hc,e3,show (x.getD k1 0+1-tLo m b k1 (x.drop (k1+1))+1).toNat=(x.getD k1 0-tLo m b k1 (x.drop (k1+1))+1).toNat+1 by omega]
     simp only [List.append_assoc]
    ·rw [hup.1,hup.2]
     by_cases hC:C=[]
     ·rw [if_pos hC];simp [hC,eq_comm]
     ·rw [if_neg hC];simp [hC]
  ·rw [if_neg hA]
   constructor
   ·intro h;cases h
   ·rintro ⟨h1,-⟩
    rw [hhead,List.cons_append,List.cons.injEq,Prod.mk.injEq] at h1
    exact absurd (hacc.2 h1.1) hA
def tTree (m:List (List Int)) (b:Int):List (Int×Int):=tE m b (m.length-1) []
theorem treeR_iff {m:List (List Int)} (hr:RedOK m) {b:Int} (hb:0<=b) (hb1:b<1073741824) (C:List (Int×Int)) (r:List (List Int)):treeR m b C=some r↔C=tTree m b/\r=tC m b (m.length-1) [] []:=by
 have hl:=isSmallB_len hr.small
 have hst:ChkSt m b (m.length-1) (List.replicate m.length 0) ((List.replicate (m.length+1) 0).set m.length (b*vD (minorsTo m m.length) m.length)) (List.replicate m.length lvl0):=by
  refine ⟨by omega,by simp,by simp,by simp,fun j j1 j2=>?_,fun j j1 j2=>absurd j2 (by omega)⟩
  obtain rfl:j=m.length-1:=by omega
  have e:(List.replicate m.length (0:Int)).drop (m.length-1+1)=[]:=by
   rw [show m.length-1+1=m.length by omega];simp
  rw [e]
  refine ⟨?_,top_nonneg hr hb⟩
  rw [show m.length-1+1=m.length by omega,getD_set_self _ _ _ _ (by simp),Int.mul_comm,top_eq hr,show m.length-1+1=m.length by omega]
 unfold treeR tTree
 rw [chk_iff hr hb hb1 C _ _ _ _ _ hst]
 have e:(List.replicate m.length (0:Int)).drop (m.length-1+1)=[]:=by
  rw [show m.length-1+1=m.length by omega];simp
 rw [e,show m.length-(m.length-1+1)=0 by omega]
 simp [upE,upC]
theorem treeE_eq {m:List (List Int)} (hr:RedOK m) {b:Int} (k:Nat):∀t:List Int,k<m.length→t.length=m.length-1-k→0≤left (ent m) b (k+1) t→
  treeE (minorsTo m m.length) (lamTo m m.length) k (left (ent m) b (k+1) t) t=tE m b k t:=by
 induction k with
 |zero=>intro t _ _ _;rfl
 |succ k ih=>
  intro t hk ht h0
  rw [treeE,tE]
  have e:(vCnt (minorsTo m m.length) (lamTo m m.length) (k+1) (left (ent m) b (k+1+1) t) t).toNat=tCnt m b (k+1) t:=rfl
  rw [e]
  congr 1
  rw [List.flatMap_def,List.flatMap_def]
  congr 1
  refine List.map_congr_left fun j hj=>?_
  have hk0:=kid hr t hk ht h0 (j:=j) (by rw [e];simpa using hj)
  rw [vRest_eq hr hk b t ht]
  exact ih _ (by omega) (by simp [ht];omega) hk0
theorem treeE_top {m:List (List Int)} (hr:RedOK m) {b:Int} (hb:0<=b):treeE (minorsTo m m.length) (lamTo m m.length) (m.length-1) (vD (minorsTo m m.length) m.length*b) []=tTree m b:=by
 have hl:=isSmallB_len hr.small
 rw [top_eq hr]
 exact treeE_eq hr (m.length-1) [] (by omega) (by simp) (top_nonneg hr hb)
/-! ## The vectors of a tree -/
def tV (m:List (List Int)) (b:Int):Nat->List Int->List (List Int)
 |0,t=>colTo t (cLo t (tLo m b 0 t)) (tHi m b 0 t-cLo t (tLo m b 0 t)+1).toNat
 |k+1,t=>(List.range (tCnt m b (k+1) t)).flatMap fun (j:Nat)=>tV m b k ((tLo m b (k+1) t+(j:Int))::t)
theorem colTo_take (t:List Int) (a:Int) (n j:Nat):(colTo t a n).take j=colTo t a (min j n):=by
 unfold colTo
 rw [<-List.map_take,List.take_range]
theorem tC_take (m:List (List Int)) (b:Int) (k:Nat):∀(t:List Int) (l:List (List Int)),l.length<=4097->tC m b k t l=(l++tV m b k t).take 4097:=by
 induction k with
 |zero=>
  intro t l hl
  rw [tC,tV,List.take_append,List.take_of_length_le hl,colTo_take]
  congr 2
  unfold colN;omega
 |succ k ih=>
  intro t l hl
  rw [tC,tV]
  generalize List.range (tCnt m b (k+1) t)=js
  induction js generalizing l with
  |nil=>simp [List.take_of_length_le hl]
  |cons j js ihj=>
   rw [List.foldl_cons,ih _ _ hl,ihj _ (by rw [List.length_take];omega),List.flatMap_cons,<-List.append_assoc]
   generalize l++tV m b k ((tLo m b (k+1) t+(j:Int))::t)=u
   rw [List.take_append,List.take_append,List.take_take,Nat.min_self,List.length_take]
   congr 1
   rcases Nat.le_total u.length 4097 with h |h
   ·rw [Nat.min_eq_right h]
   ·rw [Nat.min_eq_left h,show 4097-4097=0 by omega,show 4097-u.length=0 by omega]
theorem mem_tV {m:List (List Int)} (hr:RedOK m) {b:Int} (x:List Int) (k:Nat):∀t:List Int,k<m.length→t.length=m.length-1-k→0≤left (ent m) b (k+1) t→
  (x∈tV m b k t↔∃p:List Int,p.length=k+1/\x=p++t/\0<firstNZ x/\0<=left (ent m) b 0 x):=by
 induction k with
 |zero=>
  intro t hk ht h0
  have hin:=fun c=>inv_iff hr hk t ht h0 c
  rw [tV]
  simp only [colTo,List.mem_map,List.mem_range]
  have hcl:∀c,(cLo t (tLo m b 0 t)<=c/\c<=tHi m b 0 t)↔(tLo m b 0 t<=c/\c<=tHi m b 0 t)/\0<firstNZ (c::t):=fun c=>by
   rw [firstNZ_cons]
   unfold cLo
   split<;>omega
  constructor
  ·rintro ⟨i,hi,rfl⟩
   have h1:=(hcl (cLo t (tLo m b 0 t)+(i:Int))).1 ⟨by omega,by omega⟩
   exact ⟨[cLo t (tLo m b 0 t)+(i:Int)],rfl,rfl,h1.2,(hin _).1 h1.1⟩
  ·rintro ⟨p,hp,rfl,h1,h2⟩
   obtain ⟨c,rfl⟩:∃c,p=[c]:=List.length_eq_one_iff.1 hp
   have h3:=(hcl c).2 ⟨(hin c).2 h2,h1⟩
   refine ⟨(c-cLo t (tLo m b 0 t)).toNat,by omega,?_⟩
   rw [show cLo t (tLo m b 0 t)+(((c-cLo t (tLo m b 0 t)).toNat:Nat):Int)=c by omega]
   rfl
 |succ k ih=>
  intro t hk ht h0
  have hin:=fun c=>inv_iff hr hk t ht h0 c
  rw [tV]
  simp only [List.mem_flatMap,List.mem_range]
  constructor
  ·rintro ⟨j,hj,hx⟩
   have hk0:0<=left (ent m) b (k+1) ((tLo m b (k+1) t+(j:Int))::t):=kid hr t hk ht h0 (j:=j) hj
   obtain ⟨p,hp,rfl,h1,h2⟩:=(ih _ (by omega) (by simp [ht];omega) hk0).1 hx
   exact ⟨p++[tLo m b (k+1) t+(j:Int)],by simp [hp],by simp,h1,h2⟩
  ·rintro ⟨p,hp,rfl,h1,h2⟩
   obtain ⟨q,c,rfl,hq⟩:=snoc_split hp
   have hs:=left_suffix hr b q 0 (c::t) (by simp [ht];omega) (by simpa using h2)
   rw [hq,Nat.zero_add] at hs
   have hc:tLo m b (k+1) t<=c/\c<=tHi m b (k+1) t:=(hin c).2 hs
   refine ⟨(c-tLo m b (k+1) t).toNat,by unfold tCnt;omega,?_⟩
   have e:tLo m b (k+1) t+(((c-tLo m b (k+1) t).toNat:Nat):Int)=c:=by omega
   rw [e]
   exact (ih _ (by omega) (by simp [ht];omega) hs).2 ⟨q,hq,by simp,h1,h2⟩
theorem nodup_tV {m:List (List Int)} (b:Int) (k:Nat):∀t:List Int,(tV m b k t).Nodup/\∀x∈tV m b k t,x.drop (k+1)=t:=by
 induction k with
 |zero=>
  intro t
  rw [tV]
  refine ⟨?_,fun x hx=>?_⟩
  ·unfold colTo
   rw [List.Nodup,List.pairwise_map]
   refine List.Pairwise.imp ?_ (List.nodup_range (n:=_))
   intro i j hij h
   injection h with h
   omega
  ·obtain ⟨i,-,rfl⟩:=List.mem_map.1 hx
   rfl
 |succ k ih=>
  intro t
  rw [tV]
  have hd:∀(j:Nat),∀x∈tV m b k ((tLo m b (k+1) t+(j:Int))::t),x.drop (k+1)=(tLo m b (k+1) t+(j:Int))::t:=fun j=>(ih _).2
  refine ⟨?_,fun x hx=>?_⟩
  ·rw [List.Nodup,List.pairwise_flatMap]
   refine ⟨fun j _=>(ih _).1,?_⟩
   refine List.Pairwise.imp ?_ (List.nodup_range (n:=tCnt m b (k+1) t))
   intro i j hij x hx y hy e
   subst e
   have :=(hd i x hx).symm.trans (hd j x hy)
   injection this with h
   omega
  ·obtain ⟨j,-,hx⟩:=List.mem_flatMap.1 hx
   have :=hd j x hx
   have e:x.drop (k+1+1)=(x.drop (k+1)).drop 1:=by rw [List.drop_drop]
   rw [e,this];rfl
theorem mem_tree {m:List (List Int)} (hr:RedOK m) {b:Int} (hb:0<=b) (x:List Int):x∈tV m b (m.length-1) []↔x.length=m.length/\0<firstNZ x/\nrm m x<=b:=by
 have hl:=isSmallB_len hr.small
 rw [mem_tV hr x (m.length-1) [] (by omega) (by simp) (top_nonneg hr hb)]
 constructor
 ·rintro ⟨p,hp,rfl,h1,h2⟩
  have hpl:(p++[]).length=m.length:=by simp [hp];omega
  rw [left_nrm (isSmallB_all hr.small) b _ hpl] at h2
  exact ⟨hpl,h1,by omega⟩
 ·rintro ⟨h1,h2,h3⟩
  refine ⟨x,by omega,by simp,h2,?_⟩
  rw [left_nrm (isSmallB_all hr.small) b _ h1];omega
theorem tree_canon {m:List (List Int)} (hr:RedOK m) {b:Int} (hb:0<=b):(tV m b (m.length-1) []).map canonL=tV m b (m.length-1) []:=by
 conv=>rhs;rw [<-List.map_id (tV m b (m.length-1) [])]
 exact List.map_congr_left fun x hx=>canonL_pos ((mem_tree hr hb x).1 hx).2.1
theorem tree_vecList {m:List (List Int)} (hr:RedOK m) {b:Int} (hb:0<=b) {L:List (List Int)} (hp:L.Perm ((tV m b (m.length-1) []).map canonL)) (hw:L.Pairwise (fun x y=>cmpK (nrm m x) (nrm m y) x y<0)):VecList m b false L:=by
 refine ⟨hw,fun x=>?_⟩
 rw [hp.mem_iff,tree_canon hr hb,mem_tree hr hb]
 simp
theorem tree_len {m:List (List Int)} (hr:RedOK m) {b:Int} (hb:0<=b):(tV m b (m.length-1) []).length=(collL m b false).length:=by
 have hp:(tV m b (m.length-1) []).Perm ((collL m b false).map canonL):=by
  refine (List.perm_ext_iff_of_nodup (nodup_tV b _ _).1 (nodup_canon hr hb false)).2 fun x=>?_
  rw [mem_tree hr hb,mem_canon hr hb]
  simp
 simpa using hp.length_eq
/-! ## How many intervals, and how great -/
theorem tE_len {m:List (List Int)} (hr:RedOK m) {b:Int} (hb:0≤b) (hb1:b<1073741824) (k:Nat):∀t:List Int,k<m.length→t.length=m.length-1-k→0≤left (ent m) b (k+1) t→
  ((tE m b k t).length:Int)<=1+totY (visitY (minorsTo m m.length) (lamTo m m.length) m.length k (left (ent m) b (k+1) t) t):=by
 induction k with
 |zero=>
  intro t hk ht h0
  have :=vCnt_bounds (hr.num hb hb1) (lev_of hr hb hb1 t 0 hk ht h0)
  simp only [tE,visitY,totY,List.length_singleton]
  omega
 |succ k ih=>
  intro t hk ht h0
  have hc:=vCnt_bounds (hr.num hb hb1) (lev_of hr hb hb1 t (k+1) hk ht h0)
  simp only [tE,visitY,totY,List.length_cons]
  rw [totY_flat]
  have e:tCnt m b (k+1) t=(vCnt (minorsTo m m.length) (lamTo m m.length) (k+1) (left (ent m) b (k+1+1) t) t).toNat:=rfl
  rw [e]
  have key:∀l:List Nat,(∀j∈l,j<(vCnt (minorsTo m m.length) (lamTo m m.length) (k+1) (left (ent m) b (k+1+1) t) t).toNat)→
    ((l.flatMap fun j:Nat=>tE m b k ((tLo m b (k+1) t+(j:Int))::t)).length:Int)<=(l.length:Int)+(l.map fun j:Nat=>totY (visitY (minorsTo m m.length) (lamTo m m.length) m.length k (vRest (minorsTo m m.length) (lamTo m m.length) (k+1) (left (ent m) b (k+1+1) t) t (vLo (minorsTo m m.length) (lamTo m m.length) (k+1) (left (ent m) b (k+1+1) t) t+(j:Int))) ((vLo (minorsTo m m.length) (lamTo m m.length) (k+1) (left (ent m) b (k+1+1) t) t+(j:Int))::t))).sum:=by
   intro l
   induction l with
   |nil=>intro _;simp
   |cons j l ihl=>
    intro hl
    have hk0:=kid hr t hk ht h0 (hl j (by simp))
    have h1:=ihl (fun x hx=>hl x (by simp [hx]))
    have h2:=ih _ (by omega) (by simp [ht];omega) hk0
    simp only [List.flatMap_cons,List.length_append,List.map_cons,List.sum_cons,List.length_cons,Int.natCast_add,Int.natCast_one]
    rw [vRest_eq hr hk b t ht]
    unfold tLo
    unfold tLo at h1
    omega
  have :=key (List.range (vCnt (minorsTo m m.length) (lamTo m m.length) (k+1) (left (ent m) b (k+1+1) t) t).toNat) (fun j hj=>by simpa using hj)
  rw [List.length_range] at this
  simp only [Int.natCast_add,Int.natCast_one]
  omega
theorem tE_bd {m:List (List Int)} (hr:RedOK m) {b:Int} (hb:0≤b) (hb1:b<1073741824) (k:Nat):∀t:List Int,k<m.length→t.length=m.length-1-k→0≤left (ent m) b (k+1) t→
  ∀p∈tE m b k t,-1099511627776<=p.1/\p.2<=1099511627776/\p.1-1<=p.2:=by
 have h1:∀(k:Nat) (t:List Int),k<m.length->t.length=m.length-1-k->0<=left (ent m) b (k+1) t->-1099511627776<=tLo m b k t/\tHi m b k t<=1099511627776/\tLo m b k t-1<=tHi m b k t:=fun k t hk ht h0=>by
  have :=accB_bounds ((acc_level hr hb hb1 t hk ht h0 (tLo m b k t) (tHi m b k t)).2 ⟨rfl,rfl⟩)
  exact ⟨this.1,this.2.1,this.2.2.1⟩
 induction k with
 |zero=>
  intro t hk ht h0 p hp
  simp only [tE,List.mem_singleton] at hp
  subst hp
  exact h1 0 t hk ht h0
 |succ k ih=>
  intro t hk ht h0 p hp
  simp only [tE,List.mem_cons,List.mem_flatMap,List.mem_range] at hp
  rcases hp with rfl |⟨j,hj,hp⟩
  ·exact h1 (k+1) t hk ht h0
  ·exact ih _ (by omega) (by simp [ht];omega) (kid hr t hk ht h0 hj) p hp
theorem tTree_len {m:List (List Int)} (hr:RedOK m) (h2:2<=m.length) {b:Int} (hb:0<=b) (hb1:b<1073741824):((tTree m b).length:Int)<=1+totS m b:=by
 have :=tE_len hr hb hb1 (m.length-1) [] (by omega) (by simp) (top_nonneg hr hb)
 unfold totS tailsY
 rw [if_neg (by omega),top_eq hr]
 exact this
theorem tTree_bd {m:List (List Int)} (hr:RedOK m) {b:Int} (hb:0<=b) (hb1:b<1073741824):∀p∈tTree m b,-1099511627776<=p.1/\p.2<=1099511627776/\p.1-1<=p.2:=
 tE_bd hr hb hb1 (m.length-1) [] (by have :=isSmallB_len hr.small;omega) (by simp) (top_nonneg hr hb)
theorem tTree_one {m:List (List Int)} (hr:RedOK m) (h1:m.length=1) {b:Int} (hb:0<=b):tTree m b=[(-((isq (b / ent m 0 0).toNat:Nat):Int),((isq (b / ent m 0 0).toNat:Nat):Int))]:=by
 have hpos:1<=ent m 0 0:=by
  have :=lastE_pos hr.pos (k:=1) (by omega)
  have e:lastE (ent m) 1=ent m 0 0:=rfl
  omega
 obtain ⟨hin,hout⟩:=isq_bounds hpos hb
 have key:∀c:Int,(tLo m b 0 []<=c/\c<=tHi m b 0 [])↔ent m 0 0*c*c<=b:=fun c=>by
  have h:=inv_iff hr (k:=0) (by omega) (bound:=b) [] (by simp [h1]) (by have :=top_nonneg hr hb;rw [h1] at this;exact this) c
  refine h.trans ?_
  rw [left_nrm (isSmallB_all hr.small) b [c] (by simp [h1])]
  have e:nrm m [c]=ent m 0 0*c*c:=by
   rw [nrm_eq (isSmallB_all hr.small) _ (by simp [h1])]
   simp [qE,quadZ,sumZ,E,ent]
  rw [e]
  omega
 obtain ⟨r,hrr⟩:∃r:Nat,isq (b / ent m 0 0).toNat=r:=⟨_,rfl⟩
 rw [hrr] at hin hout |-
 have a1:ent m 0 0*(r:Int)*r<=b:=by
  by_cases h0:r=0
  ·subst h0;simpa using hb
  ·exact hin r (by omega) (by omega)
 have a2:ent m 0 0*(-(r:Int))*(-(r:Int))<=b:=by
  have :ent m 0 0*(-(r:Int))*(-(r:Int))=ent m 0 0*(r:Int)*r:=by grind
  omega
 have a3:¬ent m 0 0*(-((r:Int)+1))*(-((r:Int)+1))<=b:=by
  have :ent m 0 0*(-((r:Int)+1))*(-((r:Int)+1))=ent m 0 0*((r:Int)+1)*((r:Int)+1):=by grind
  omega
 have b1:=(key r).2 a1
 have b2:=(key (-(r:Int))).2 a2
 have b3:¬(tLo m b 0 []<=-((r:Int)+1)/\-((r:Int)+1)<=tHi m b 0 []):=fun h=>a3 ((key (-((r:Int)+1))).1 h)
 have b4:¬(tLo m b 0 []<=(r:Int)+1/\(r:Int)+1<=tHi m b 0 []):=fun h=>(show ¬ent m 0 0*((r:Int)+1)*((r:Int)+1)<=b by omega) ((key ((r:Int)+1)).1 h)
 have c1:tLo m b 0 []=-(r:Int):=by omega
 have c2:tHi m b 0 []=(r:Int):=by omega
 unfold tTree
 rw [h1]
 show [(tLo m b 0 [],tHi m b 0 [])]=_
 rw [c1,c2]
end Go.Proofs.YtjehjkipcaohpaaGreat
namespace Go.Proofs.YtjehjkipcaohpaaGreat
open Go.ChangeShapes Go.WideShapes Go.ChangeAt Go.RowKit Go.Joins Go.Deep
theorem i64_wf {x:Int} (h:(Lit.int .i64 x).wf=true):-9223372036854775808<=x/\x<=9223372036854775807:=by
 have e1:IntKind.i64.min=-9223372036854775808:=rfl
 have e2:IntKind.i64.max=9223372036854775807:=rfl
 simp [Lit.wf] at h
 omega
set_option maxRecDepth 100000 in
theorem open_interval {H:Type} {enc:TypeId×Value→H} {W:World} {r:Reach} {b0:Nat} {v:Value} {d:DataW H} {p:List MemPlace} (hv:Value.okWide Tryz.prog W r b0 64 v) (h:DataW.Trod enc Tryz.prog W 0 (fun _=>true) true 64 v d p):
  (∃lo hi,v= .agg #[.int .i64 lo,.int .i64 hi]/\(-9223372036854775808<=lo/\lo<=9223372036854775807)/\(-9223372036854775808<=hi/\hi<=9223372036854775807))/\∀(W':World) (sp:Nat->Bool),DataW.Trod enc Tryz.prog W' 0 sp true 64 v d p:=by
 obtain ⟨v0,v1,y0,y1,n,rfl,rfl,rfl,h0,h1⟩:=open_agg2 Tryz.underlying64 (by kernel_rfl) (by kernel_rfl) hv h
 have h64:Tryz.prog.underlying 2=some (.int .i64):=Tryz.underlying2
 obtain ⟨lo,e0,rfl,w0⟩:=DataW.trod_int h64 h0
 obtain ⟨hi,e1,rfl,w1⟩:=DataW.trod_int h64 h1
 injection e0 with e0
 injection e1 with e1
 subst e0 e1
 exact ⟨⟨lo,hi,rfl,i64_wf w0,i64_wf w1⟩,fun W' sp=>shut_agg2 Tryz.underlying64 (by kernel_rfl) (by kernel_rfl) (field_of_Trod (shut_int h64 w0) rfl) (field_of_Trod (shut_int h64 w1) rfl)⟩
end Go.Proofs.YtjehjkipcaohpaaGreat
namespace Go.Proofs.YtjehjkipcaohpaaGreat
open Go.RowKit
open La
theorem intervals_one {w0 w:World} {A:Option Addr} {c:Nat} {a bound:Int} (h:Mat64 w0 A [[a]]) (h1:1≤a) (h2:a<65536) (hb0:0≤bound) (hb1:bound<4611686018427387904) [hx:Ext w0 w]:
  Calls Tryz.prog 70 #[.slice A 1 c,.int .i64 bound] w (RetIv w [(-((isq (bound / a).toNat:Nat):Int),((isq (bound / a).toNat:Nat):Int))]):=by
 obtain ⟨b,o,B,c1,rfl,e1,f1,f2,f3,f4⟩:=h.at_ (i:=0) (r:=[a]) rfl
 obtain ⟨b2,o2,x,rfl,ha,g1,g2⟩:=f1.at0 (by simp)
 obtain rfl:a=x:=by simpa using ha
 simp only [Nat.add_zero,List.length_singleton] at e1 f2
 have q0:=Int.ediv_nonneg hb0 (show 0<=a by omega)
 have q1:bound / a<=bound:=Int.ediv_le_self _ hb0
 obtain ⟨q,hq⟩:∃q:Nat,bound / a=q:=⟨(bound / a).toNat,by omega⟩
 have htd:bound.tdiv a=bound / a:=Int.tdiv_eq_ediv_of_nonneg hb0
 rw [hq] at q0 q1 htd |-
 rw [Int.toNat_natCast]
 have hR:=fun W=>tree_root_any (w:=W) (a:=q) (by omega)
 have HR:=Lib.hid hR
 have hrb:(isq q:Nat)<=q:=by
  have h1:=(isq_spec q).1
  rcases Nat.eq_zero_or_pos (isq q) with h |h
  ·omega
  ·have :=Nat.mul_le_mul_left (isq q) h
   omega
 obtain ⟨r,hr⟩:∃r:Nat,isq q=r:=⟨_,rfl⟩
 rw [hr] at HR hrb |-
 have ob:Old b w0:=⟨f4⟩
 have ob2:Old b2 w0:=⟨g2⟩
 have E1:=fun W (hh:Ext w0 W)=>(cellE w0 (w':=W) (b:=b) (o:=o)).trans e1
 have E2:=fun W (hh:Ext w0 W)=>(cellE w0 (w':=W) (b:=b2) (o:=o2)).trans g1
 have k1:=E1 w hx
 have k2:=E2 w hx
 have hw1:IntKind.i64.wrap (q:Int)=(q:Int):=IntWalk.i64_in _ (by omega)
 have hw2:IntKind.i64.wrap (-(r:Int))=-(r:Int):=IntWalk.i64_in _ (by omega)
 have ha0:(a==0)=false:=by simp;omega
 clear hR hr hq ha
 go_enter Tryz.func70,Tryz.ntmps70
 go_wp2_with (go_at_call 117;refine (HR.out _).mono ?_;rintro e w1 ⟨rfl,nq,rfl⟩)
 go_ret
 exact ⟨_,1,rfl,iv_litT _ _ _ (by omega) (by omega),by simp,by omega,Step.of _ _⟩
theorem intervals_red {w0 w:World} {A:Option Addr} {c b:Nat} {m:List (List Int)} (h:Mat64 w0 A m) (hr:isRedB m=true) (hb:(b:Int)<1073741824) (ht:totS m b≤1000000) [hx:Ext w0 w]:
  Calls Tryz.prog 70 #[.slice A m.length c,.int .i64 b] w (RetIv w (tTree m b)):=by
 have hR:=red_ok hr
 have hl:=isSmallB_len hR.small
 by_cases h1:m.length=1
 ·have hN:=hR.form.num b (by omega) hb
  have d1:=hN.d1 1 (by omega)
  have d2:=hN.d2 1 (by omega)
  rw [minorsTo_get (by omega)] at d1 d2
  have e:lastE (ent m) 1=ent m 0 0:=rfl
  rw [e] at d1 d2
  rw [tTree_one hR h1 (by omega)]
  obtain ⟨r,hmr⟩:∃r,m=[r]:=List.length_eq_one_iff.1 h1
  obtain ⟨a,hra⟩:∃a,r=[a]:=List.length_eq_one_iff.1 (by have :=isSmallB_all hR.small r (by simp [hmr]);omega)
  subst hra
  subst hmr
  exact intervals_one h d1 d2 (by omega) (by omega)
 ·have hlen:=tTree_len hR (by omega) (b:=(b:Int)) (by omega) hb
  have hbd:=tTree_bd hR (b:=(b:Int)) (by omega) hb
  have :=intervals_many (w:=w) (c:=c) (bound:=(b:Int)) h (by omega) hR.form hR.s64 (by omega) hb (by rw [treeE_top hR (by omega)];omega) (by rw [treeE_top hR (by omega)];intro p hp;have :=hbd p hp;omega)
  rwa [treeE_top hR (by omega)] at this
def RetTree (w:World) (C:List (Int×Int)) (e:Ending) (w':World):Prop:=∃A c,e= .returned (.tuple #[.slice A C.length c,.int .i64 0])/\IvT w' A C/\C.length<=c/\c<=9223372036854775807/\Step w w'
theorem Emit_red {w0 w:World} {A:Option Addr} {c b:Nat} {m:List (List Int)} {budget:Int} (h:Mat64 w0 A m) (hc:m.length≤c) (hc2:c≤9223372036854775807) (hr:isRedB m=true) (hb:(b:Int)<1073741824) (hbd:totS m b≤budget) (hbd2:budget≤1000000) [hx:Ext w0 w]:
  Calls Tryz.prog 45 #[.slice A m.length c,.int .i64 b,.int .i64 budget] w (RetTree w (tTree m b)):=by
 have hR:=red_ok hr
 have hl:=isSmallB_len hR.small
 have hst:=(steps_ok hr (b:=b) hb).1
 have h0:=totS_ge hr hb
 have hspec:=hst.spec budget (by omega) hbd2
 rw [if_pos hbd] at hspec
 have hSt:=fun W (hh:Ext w0 W)=>Steps_any (w:=W) (bound:=(b:Int)) (budget:=budget) h (by omega) hc hc2 (fun _=>hR.form)
 rw [hspec] at hSt
 have hiv:=fun W (hh:Ext w0 W)=>intervals_red (w:=W) (c:=c) h hr hb (by omega)
 obtain ⟨C,hC⟩:∃C,tTree m b=C:=⟨_,rfl⟩
 rw [hC] at hiv |-
 have HST:=Lib.hid hSt
 have HIV:=Lib.hid hiv
 clear hSt hiv hC hspec hst hR
 go_enter Tryz.func45,Tryz.ntmps45
 go_wp2_with (first
  |(go_at_call 49;refine (HST.out _ inferInstance).mono ?_;rintro e w1 ⟨A1,c1,rfl,hI,k1,k2,hs1⟩)
  |(go_at_call 70;refine (HIV.out _ inferInstance).mono ?_;rintro e w2 ⟨A2,c2,rfl,hI2,k3,k4,hs2⟩))
 go_ret2
 exact ⟨A2,c2,rfl,hI2,k3,k4,Step.of _ _⟩
def RetVer (w:World) (m:List (List Int)) (b:Int) (e:Ending) (w':World):Prop:=∃B d L,e= .returned (.tuple #[.slice B (List.length L) d,.int .i64 0])/\Mat64 w' B L/\L.length<=d/\d<=9223372036854775807/\VecList m b false L/\L.length<=8000/\Step w w'
theorem treeOK_red {m:List (List Int)} (hr:isRedB m=true) {b:Int} (hb0:0<=b) (hb:b<1073741824):TreeOK m b:=by
 have hR:=red_ok hr
 have hl:=isSmallB_len hR.small
 have hN:=hR.form.num b hb0 hb
 refine ⟨hR.form,hR.s64,redM_of hr,hb0,by omega,hl.1,hl.2,hN.dl,hN.ll,hN.row,hN.d1,hN.d2,hN.lam,hb0,fun k hk=>?_⟩
 have a1:=hN.d1 k (by omega)
 have a2:=hN.d2 k (by omega)
 have b1:=hN.d1 (k+1) (by omega)
 have b2:=hN.d2 (k+1) (by omega)
 have m1:vD (minorsTo m m.length) (k+1)*b<=65535*1073741823:=Int.mul_le_mul (by omega) (by omega) (by omega) (by omega)
 have m0:0<=vD (minorsTo m m.length) (k+1)*b:=Int.mul_nonneg (by omega) (by omega)
 have m2:vD (minorsTo m m.length) (k+1)*b*vD (minorsTo m m.length) k<=65535*1073741823*65535:=Int.mul_le_mul m1 (by omega) (by omega) (by omega)
 omega
theorem coll_len {m:List (List Int)} (hr:isRedB m=true) {b:Nat} (h4:m.length<=4) (hb:b+2*m.length<=12∨b<=6∨(m.length<=3/\b<=8)):(collL m b false).length<=4000:=by
 have hR:=red_ok hr
 have hl:=isSmallB_len hR.small
 have hst:=(steps_ok hr (b:=b) (by omega)).1
 have hfew:=few_steps2 hr h4 hb
 have hlast:=hst.last_le (by omega)
 have hll:=hst.last
 omega
theorem Verify_red {w0 w:World} {A B:Option Addr} {c d b:Nat} {m:List (List Int)} {C:List (Int×Int)} (h:Mat64 w0 A m) (hc:m.length≤c) (hc2:c≤9223372036854775807) (hr:isRedB m=true) (h4:m.length≤4) (hb:b+2*m.length≤12∨b≤6∨(m.length≤3∧b≤8)) (hC:IvV w0 B C) (hlen:C.length≤1099511627776) [hx:Ext w0 w]:
  Calls Tryz.prog 42 #[.slice A m.length c,.int .i64 b,.slice B C.length d] w fun e w'=>if C=tTree m b then RetVer w m b e w' else RetVal w (.tuple #[.slice none 0 0,.int .i64 10]) e w':=by
 have hR:=red_ok hr
 have hl:=isSmallB_len hR.small
 have hb0:(0:Int)<=b:=by omega
 have hb1:(b:Int)<1073741824:=by omega
 have hiff:=treeR_iff hR hb0 hb1 C
 have hcl:=coll_len hr h4 hb
 have htl:=tree_len hR hb0
 have htc:tC m b (m.length-1) [] []=tV m b (m.length-1) []:=by
  rw [tC_take _ _ _ _ _ (by simp),List.nil_append,List.take_of_length_le (by omega)]
 rw [htc] at hiff
 have hv:∀l,treeR m b C=some l->l.length<=4096->(∀x∈l,VecOK m x)/\(l.map canonL).Nodup:=fun l hl _=>by
  obtain ⟨-,rfl⟩:=(hiff l).1 hl
  refine ⟨fun x hx=>?_,by rw [tree_canon hR hb0];exact (nodup_tV _ _ _).1⟩
  obtain ⟨q1,q2,q3⟩:=(mem_tree hR hb0 x).1 hx
  have q4:=inRange_of (coord_small hR hb0 hb1 x q1 q3)
  refine ⟨by simp [fitsB,q1,q4],?_,?_⟩
  ·have :=nrm_nonneg hR x q1
   simp only [dotB,decide_eq_true_eq]
   omega
  ·simp only [canonB,q4,Bool.true_and,Bool.not_eq_true',decide_eq_false_iff_not]
   omega
 refine (Verify_any (w:=w) (c:=c) (d:=d) h hc hc2 (treeOK_red hr hb0 hb1) hC hlen hv).mono ?_
 intro e w' hp
 by_cases hCt:C=tTree m b
 ·rw [if_pos hCt]
  rw [(hiff (tV m b (m.length-1) [])).2 ⟨hCt,rfl⟩] at hp
  simp only at hp
  rw [if_neg (by omega)] at hp
  obtain ⟨X,d2,L,he,hM,k1,k2,p1,p2,hs⟩:=hp
  have hlL:=p1.length_eq
  rw [List.length_map] at hlL
  exact ⟨X,d2,L,he,hM,k1,k2,tree_vecList hR hb0 p1 p2,by omega,hs⟩
 ·rw [if_neg hCt]
  have :treeR m b C=none:=by
   cases hT:treeR m b C with
   |none=>rfl
   |some l=>exact absurd ((hiff l).1 hT).1 hCt
  rw [this] at hp
  exact hp
end Go.Proofs.YtjehjkipcaohpaaGreat
namespace Go.Proofs.YtjehjkipcaohpaaGreat
open Go.RowKit
theorem rsmall12_ok {w:World} {dim kind bound:Int} {NA:Option Addr} {l:List Int} {nc:Nat} {v3:Value} {te:TypeId} (hN:Ints w NA te .i8 l) (h8:I8 l) (hl:l.length≤9223372036854775807) (hd0:0≤dim) (hd1:dim<256) (hk0:0≤kind) (hk1:kind<256) (hb0:0≤bound) (hb1:bound<256):
  Calls Tryz.prog 40 #[.agg #[.int .u8 dim,.int .u8 kind,.slice NA l.length nc,v3],.int .u8 bound] w (RetSmall w (1+(dim%4).toNat) bound):=by
 have HG:Hid (∀W,Ext w W->Calls Tryz.prog 27 #[.agg #[.int .u8 dim,.int .u8 kind,.slice NA l.length nc,v3],.int .i64 4] W (RetLF W (1+(dim%4).toNat))):=Lib.hid (fun W e=>rForm_ok (most:=4) (hN.ext e) h8 hl hd0 hd1 hk0 hk1 (by omega) (by omega))
 have hn4:1+(dim%4).toNat<=4:=by omega
 clear hN h8
 generalize 1+(dim%4).toNat=n at*
 have e1:IntKind.i64.wrap (2*(n:Int))=2*(n:Int):=IntWalk.i64_in _ (by omega)
 have e2:IntKind.i64.wrap (13-2*(n:Int))=13-2*(n:Int):=IntWalk.i64_in _ (by omega)
 have e3:((13-2*(n:Int))==0)=false:=by simp;omega
 have e4:bound.tmod (13-2*(n:Int))=bound%(13-2*(n:Int)):=Int.tmod_eq_emod_of_nonneg hb0
 have e5:IntKind.i64.wrap bound=bound:=IntWalk.i64_in _ (by omega)
 have e6:=Int.emod_nonneg bound (show 13-2*(n:Int)≠0 by omega)
 have e7:=Int.emod_lt_of_pos bound (show 0<13-2*(n:Int) by omega)
 have e8:IntKind.i64.wrap (bound%(13-2*(n:Int)))=bound%(13-2*(n:Int)):=IntWalk.i64_in _ (by omega)
 go_enter Tryz.func40,Tryz.ntmps40
 go_wp2_with (go_at_call 27;refine (HG.out _ inferInstance).mono ?_;rintro e w1 ⟨a,hh,A1,c1,rfl,hGm,hLL,hlen,hRel,hM3,hc1,hc2,hs3⟩)
 have HM:=Lib.hid hM3
 clear hM3
 go_quiet (fail)
 go_wp2_with fail
 go_ret2
 exact ⟨a,hh,A1,c1,rfl,hGm,hLL,hlen,hRel,HM.out.ext inferInstance,hc1,hc2,Step.of _ _⟩
end Go.Proofs.YtjehjkipcaohpaaGreat
namespace Go.Proofs.YtjehjkipcaohpaaGreat
open Go.RowKit
open La
theorem tTree_ne (m:List (List Int)) (b:Int):1<=(tTree m b).length:=by
 unfold tTree
 cases m.length-1<;>simp [tE]
theorem tTree_few {m:List (List Int)} (hr:isRedB m=true) {b:Nat} (h4:m.length<=4) (hb:b+2*m.length<=12∨b<=6∨(m.length<=3/\b<=8)):(tTree m b).length<=8001:=by
 have hR:=red_ok hr
 have hl:=isSmallB_len hR.small
 by_cases h1:m.length=1
 ·rw [tTree_one hR h1 (by omega)];simp
 ·have :=tTree_len hR (by omega) (b:=(b:Int)) (by omega) (by omega)
  have :=few_steps2 hr h4 hb
  omega
end Go.Proofs.YtjehjkipcaohpaaGreat
