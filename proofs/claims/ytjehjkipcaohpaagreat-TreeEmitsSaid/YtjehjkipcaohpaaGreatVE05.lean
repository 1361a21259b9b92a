/- Awk12 Tm1 RefI Tl Tm2 Fr1 R09a -/
import Derived.Test.YtjehjkipcaohpaaGreatVE04
import Derived.Test.YtjehjkipcaohpaaGreatProg
import Derived.Test.YtjehjkipcaohpaaGreatShelf
set_option maxHeartbeats 8000000
set_option linter.unusedVariables false
set_option linter.unusedSimpArgs false
set_option linter.constructorNameAsVariable false
namespace Go.Proofs.YtjehjkipcaohpaaGreat
open Go.RowKit
theorem Emit_many {w0 w:World} {A:Option Addr} {c:Nat} {m:List (List Int)} {bound budget:Int} {st:List Int} (h:Mat64 w0 A m) (hc:m.length<=c) (hc2:c<=9223372036854775807) (h2:2<=m.length) (hf:FormOK m) (h64:St64 m) (h8:m.length<=8) (hb0:0<=bound) (hb1:bound<1073741824) (hs:stepsSpec m bound budget=(st,0)) {C:List (Int×Int)} (hC:treeE (minorsTo m m.length) (lamTo m m.length) (m.length-1) (vD (minorsTo m m.length) m.length*bound) []=C) (hlen:C.length<=1073741824) (hbd:∀p∈C,-9223372036854775808<=p.1/\p.1<=9223372036854775807/\-9223372036854775808<=p.2/\p.2<=9223372036854775807) [hx:Ext w0 w]:
  Calls Tryz.prog 45 #[.slice A m.length c,.int .i64 bound,.int .i64 budget] w fun e w'=>∃B d,e= .returned (.tuple #[.slice B C.length d,.int .i64 0])/\IvV w' B C/\Step w w':=by
 have hst:=fun W (hh:Ext w0 W)=>Steps_any (w:=W) (bound:=bound) (budget:=budget) h (by omega) hc hc2 (fun _=>hf)
 rw [hs] at hst
 have hiv:=fun W (hh:Ext w0 W)=>intervals_many (w:=W) (c:=c) h h2 hf h64 hb0 hb1 (by rw [hC];exact hlen) (by rw [hC];exact hbd)
 rw [hC] at hiv
 have HST:=Lib.hid hst
 have HIV:=Lib.hid hiv
 clear hst hiv hs hC hf
 go_enter Tryz.func45,Tryz.ntmps45
 go_wp2_with (first
  |(go_at_call 49;refine (HST.out _ inferInstance).mono ?_;rintro e w1 ⟨A1,c1,rfl,hI,k1,k2,hs1⟩)
  |(go_at_call 70;refine (HIV.out _ inferInstance).mono ?_;rintro e w2 ⟨A2,c2,rfl,hI2,k3,k4,hs2⟩))
 go_ret2
 exact ⟨A2,c2,rfl,hI2.toV,Step.of _ _⟩
theorem chkN_m2:ChkN (minorsTo m2 2) (lamTo m2 2) 2 2:=by
 rw [minors_m2,lam_m2]
 exact ⟨by decide,by decide,rfl,rfl,by decide,by decide,by decide,by decide,by decide,by decide⟩
theorem tree_m2:TreeOK m2 2:=⟨form_m2,s64_m2,red_m2,by decide,by decide,chkN_m2⟩
def ivs_m2:List (Int×Int):=[(-1,1),(0,1),(-1,1),(-1,0)]
theorem treeE_m2:treeE (minorsTo m2 m2.length) (lamTo m2 m2.length) (m2.length-1) (vD (minorsTo m2 m2.length) m2.length*2) []=ivs_m2:=by decide
def col_m2:List (List Int):=[[1,-1],[1,0],[0,1]]
theorem treeR_m2:treeR m2 2 ivs_m2=some col_m2:=by decide
theorem sorted_col_m2 {L:List (List Int)} (hp:L.Perm (col_m2.map canonL)) (hw:L.Pairwise (fun x y=>cmpK (nrm m2 x) (nrm m2 y) x y<0)):L=vecs_m2:=
 sorted_eq hp hw (by decide) (by decide) (by decide)
theorem Verify_m2 {w0 w:World} {A B:Option Addr} {d:Nat} (h:Mat64 w0 A m2) (hC:IvV w0 B ivs_m2) [hx:Ext w0 w]:
  Calls Tryz.prog 42 #[.slice A 2 2,.int .i64 2,.slice B 4 d] w fun e w'=>∃X c,e= .returned (.tuple #[.slice X 3 c,.int .i64 0])/\Mat64 w' X vecs_m2/\Step w w':=by
 have hv:∀l,treeR m2 2 ivs_m2=some l->l.length<=4096->(∀x∈l,VecOK m2 x)/\(l.map canonL).Nodup:=fun l hl _=>by
  rw [treeR_m2] at hl
  injection hl with hl
  subst hl
  refine ⟨fun x hx=>?_,by decide⟩
  simp only [col_m2,List.mem_cons,List.not_mem_nil,or_false] at hx
  rcases hx with rfl |rfl |rfl<;>exact ⟨by decide,by decide,by decide⟩
 have :=Verify_any (w:=w) (c:=2) (d:=d) h (by decide) (by decide) tree_m2 hC (by decide) hv
 rw [treeR_m2] at this
 refine this.mono ?_
 intro e w' hp
 simp only at hp
 rw [if_neg (by decide)] at hp
 obtain ⟨X,c,L,he,hM,_,_,h1,h2,hs⟩:=hp
 obtain rfl:=sorted_col_m2 h1 h2
 exact ⟨X,c,he,hM,hs⟩
theorem Emit_m2 {w0 w:World} {A:Option Addr} (h:Mat64 w0 A m2) [hx:Ext w0 w]:
  Calls Tryz.prog 45 #[.slice A 2 2,.int .i64 2,.int .i64 100] w fun e w'=>∃B d,e= .returned (.tuple #[.slice B 4 d,.int .i64 0])/\IvV w' B ivs_m2/\Step w w':=
 Emit_many (c:=2) h (by decide) (by decide) (by decide) form_m2 s64_m2 (by decide) (by decide) (by decide) steps_m2 treeE_m2 (by decide) (by decide)
theorem ivs_lit (w:World):IvV (w.alloc (.cells #[.int .i64 (-1),.int .i64 1,.int .i64 0,.int .i64 1,.int .i64 (-1),.int .i64 1,.int .i64 (-1),.int .i64 0] 64)) (some ⟨w.heap.size,0,none⟩) ivs_m2:=
 ⟨⟨_,Arr.new w 64 #[.int .i64 (-1),.int .i64 1,.int .i64 0,.int .i64 1,.int .i64 (-1),.int .i64 1,.int .i64 (-1),.int .i64 0]⟩,by decide⟩
theorem iv_litT (w:World) (a b:Int) (h1:-9223372036854775808<=a/\a<=9223372036854775807) (h2:-9223372036854775808<=b/\b<=9223372036854775807):IvT (w.alloc (.cells #[.int .i64 a,.int .i64 b] 64)) (some ⟨w.heap.size,0,none⟩) [(a,b)]:=
 ⟨Arr.new w 64 #[.int .i64 a,.int .i64 b],fun p hp=>by obtain rfl:=List.mem_singleton.1 hp;exact ⟨h1.1,h1.2,h2.1,h2.2⟩⟩
theorem mat32S (w:World) (s:Nat) (hs:w.heap.size=s) (a b c d e f:Int):Mat64 ((((w.alloc (.cells #[.int .i64 a,.int .i64 b] 2)).alloc (.cells #[.int .i64 c,.int .i64 d] 2)).alloc (.cells #[.int .i64 e,.int .i64 f] 2)).alloc (.cells #[.slice (some ⟨s,0,none⟩) 2 2,.slice (some ⟨s+1,0,none⟩) 2 2,.slice (some ⟨s+1+1,0,none⟩) 2 2] 37)) (some ⟨s+1+1+1,0,none⟩) [[a,b],[c,d],[e,f]]:=by
 subst hs;exact mat32 w a b c d e f
set_option maxRecDepth 100000 in
theorem awake12_any {w:World}:Calls Tryz.prog 43 #[] w (RetVal w (.bool true)):=by
 have HE:Hid (∀W0 W A,Mat64 W0 A m2->Ext W0 W->Calls Tryz.prog 45 #[.slice A 2 2,.int .i64 2,.int .i64 100] W fun e w'=>∃B d,e= .returned (.tuple #[.slice B 4 d,.int .i64 0])/\IvV w' B ivs_m2/\Step W w'):=Lib.hid (fun W0 W A h hx=>Emit_m2 h)
 have HV:Hid (∀W A B d,Mat64 W A m2->IvV W B ivs_m2->Calls Tryz.prog 42 #[.slice A 2 2,.int .i64 2,.slice B 4 d] W fun e w'=>∃X c,e= .returned (.tuple #[.slice X 3 c,.int .i64 0])/\Mat64 w' X vecs_m2/\Step W w'):=Lib.hid (fun W A B d h hC=>Verify_m2 h hC)
 have HSI:Hid (∀W B c C d,IvV W B ivs_m2->IvV W C ivs_m2->Calls Tryz.prog 46 #[.slice B 4 c,.slice C 4 d] W (RetQ W (.bool true))):=Lib.hid (fun W B c C d h1 h2=>SameIntervals_any (w0:=W) (w:=W) (c:=c) (d:=d) h1 h2 (by simp [ivs_m2]))
 have HS:Hid (∀W B c C d,Mat64 W B vecs_m2->Mat64 W C vecs_m2->Calls Tryz.prog 25 #[.slice B 3 c,.slice C 3 d] W (RetQ W (.bool true))):=Lib.hid (fun W B c C d h1 h2=>ref09_Same_any (w0:=W) (w:=W) (c:=c) (d:=d) h1 h2 (by decide) (by decide) (by decide) (by decide))
 have hM:=mat22 w 2 1 1 2
 have HM:=Lib.hid hM
 clear hM
 go_enter Tryz.func43,Tryz.ntmps43
 go_wp2_with (first
  |(go_at_call 45;refine (HE.out _ _ _ HM.out inferInstance).mono ?_;rintro e w1 ⟨B1,d1,rfl,hI1,hs1⟩)
  |(go_at_call 42;refine (HV.out _ _ _ _ (HM.out.ext inferInstance) hI1).mono ?_;rintro e w2 ⟨X2,c2,rfl,hM2,hs2⟩)
  |(go_at_call 46;refine (HSI.out _ _ _ _ _ (hI1.ext inferInstance) (ivs_lit w2)).mono ?_;rintro e w3 ⟨rfl,n3,rfl⟩)
  |(go_at_call 25;refine (HS.out _ _ _ _ _ (hM2.ext inferInstance) (mat32S ((w2.alloc (.cells #[.int .i64 (-1),.int .i64 1,.int .i64 0,.int .i64 1,.int .i64 (-1),.int .i64 1,.int .i64 (-1),.int .i64 0] 64)).drewN n3) (w2.heap.size+1) Sz.eq 0 1 1 (-1) 1 0)).mono ?_;rintro e w4 ⟨rfl,n4,rfl⟩))
 go_ret
 exact ⟨rfl,Step.of _ _⟩
end Go.Proofs.YtjehjkipcaohpaaGreat
namespace Go.Proofs.YtjehjkipcaohpaaGreat
open La
theorem insB_iff {mi sh lim c:Int}:insB mi sh lim c=true↔lvU mi sh c*lvU mi sh c<=lim:=by
 simp [insB]
theorem accB_iff {mi sh lim lo hi:Int} (hm:1<=mi) {a b:Int} (hab:a-1<=b) (h:∀c,(a<=c/\c<=b)↔lvU mi sh c*lvU mi sh c<=lim) (h1:lvU mi sh (a-1)<0) (h2:0<lvU mi sh (b+1)) (ha:-1099511627776<=a) (hb:b<=1099511627776):accB mi sh lim lo hi=true↔lo=a/\hi=b:=by
 have hin:∀c,insB mi sh lim c=true↔a<=c/\c<=b:=fun c=>by rw [insB_iff,<-h]
 have hout:∀c,insB mi sh lim c=false↔¬(a<=c/\c<=b):=fun c=>by rw [<-hin];cases insB mi sh lim c<;>simp
 have mono:∀c d,c<=d->lvU mi sh c<=lvU mi sh d:=fun c d hcd=>by
  unfold lvU
  have :mi*c<=mi*d:=Int.mul_le_mul_of_nonneg_left hcd (by omega)
  omega
 unfold accB
 constructor
 ·intro hh
  split at hh
  ·cases hh
  ·rename_i g0
   split at hh
   ·cases hh
   ·rename_i g
    simp only [Bool.or_eq_true,not_or,Bool.not_eq_true] at g
    have g1:=(hout (lo-1)).1 g.1
    have g2:=(hout (hi+1)).1 g.2
    split at hh
    ·rename_i h3
     simp only [Bool.and_eq_true] at hh
     have g3:=(hin lo).1 hh.1
     have g4:=(hin hi).1 hh.2
     omega
    ·rename_i h3
     simp only [Bool.and_eq_true,decide_eq_true_eq] at hh
     have e:hi=lo-1:=by omega
     rw [show hi+1=lo by omega] at g2
     rw [e] at hh
     rcases (by omega:a<=b∨b=a-1) with h4 |h4
     ·exfalso
      have k1:=(h a).1 ⟨by omega,by omega⟩
      have k2:¬lvU mi sh lo*lvU mi sh lo<=lim:=fun hc=>g2 ((h lo).2 hc)
      have k3:¬lvU mi sh (lo-1)*lvU mi sh (lo-1)<=lim:=fun hc=>g1 ((h (lo-1)).2 hc)
      rcases (by omega:lo<=a∨a<=lo-1) with h5 |h5
      ·have m1:=mono lo a h5
       have :=Int.mul_le_mul m1 m1 (by omega) (by omega)
       omega
      ·have m1:=mono a (lo-1) h5
       have :=Int.mul_le_mul (a:=-lvU mi sh (lo-1)) (b:=-lvU mi sh (lo-1)) (c:=-lvU mi sh a) (d:=-lvU mi sh a) (by omega) (by omega) (by omega) (by omega)
       rw [Int.neg_mul_neg,Int.neg_mul_neg] at this
       omega
     ·subst h4
      rw [show a-1+1=a by omega] at h2
      rcases (by omega:lo=a∨lo<=a-1∨a<=lo-1) with h5 |h5 |h5
      ·omega
      ·have :=mono _ _ h5;omega
      ·have :=mono _ _ h5;omega
 ·rintro ⟨rfl,rfl⟩
  rw [if_neg (by omega),if_neg]
  ·split
   ·rename_i h3
    rw [(hin lo).2 (by omega),(hin hi).2 (by omega)];rfl
   ·rename_i h3
    have e:hi=lo-1:=by omega
    rw [show hi+1=lo by omega] at h2
    rw [e]
    simp [h1,h2]
  ·simp only [Bool.or_eq_true,not_or,Bool.not_eq_true]
   exact ⟨(hout _).2 (by omega),(hout _).2 (by omega)⟩
theorem acc_level {m:List (List Int)} (hr:RedOK m) {bound:Int} (hb:0<=bound) (hb1:bound<1073741824) {k:Nat} (t:List Int) (hk:k<m.length) (ht:t.length=m.length-1-k) (h0:0<=left (ent m) bound (k+1) t) (lo hi:Int):
  accB (vD (minorsTo m m.length) (k+1)) (vSh (lamTo m m.length) k t) (vSq (minorsTo m m.length) k (left (ent m) bound (k+1) t)) lo hi=true↔lo=vLo (minorsTo m m.length) (lamTo m m.length) k (left (ent m) bound (k+1) t) t/\hi=vHi (minorsTo m m.length) (lamTo m m.length) k (left (ent m) bound (k+1) t) t:=by
 have hN:=hr.num hb hb1
 have hlev:=lev_of hr hb hb1 t k hk ht h0
 have hd:=hN.d1 (k+1) (by omega)
 obtain ⟨s0,s1⟩:=vSq_bounds hN hlev
 obtain ⟨r0,r1,r2⟩:=vR_bounds hN hlev
 have hS:=absSum_bound hN hlev
 have he:=vEnds hN hlev
 have hc:=(vCnt_bounds hN hlev).1
 have hq:=fun u=>isq_le_iff s0 u
 have hu:∀c,lvU (vD (minorsTo m m.length) (k+1)) (vSh (lamTo m m.length) k t) c=vD (minorsTo m m.length) (k+1)*c+vSh (lamTo m m.length) k t:=fun c=>rfl
 refine accB_iff hd (by unfold vCnt at hc;omega) (fun c=>?_) ?_ ?_ (by omega) (by omega)
 ·rw [<-hq,hu]
  show _↔(-vR (minorsTo m m.length) k (left (ent m) bound (k+1) t)<=_/\_<=vR (minorsTo m m.length) k (left (ent m) bound (k+1) t))
  unfold vLo vHi
  generalize vD (minorsTo m m.length) (k+1)=d at hd |-
  generalize vSh (lamTo m m.length) k t=s
  generalize vR (minorsTo m m.length) k (left (ent m) bound (k+1) t)=r
  have e1:-((r+s) / d)<=c↔-r<=d*c+s:=by
   have h1:=Int.le_ediv_iff_mul_le (a:=-c) (b:=r+s) (show 0<d by omega)
   have h2:-c*d=-(d*c):=by rw [Int.neg_mul,Int.mul_comm]
   omega
  have e2:c<=(r-s) / d↔d*c+s<=r:=by
   have h1:=Int.le_ediv_iff_mul_le (a:=c) (b:=r-s) (show 0<d by omega)
   have h2:c*d=d*c:=Int.mul_comm _ _
   omega
  rw [e1,e2]
 ·rw [hu]
  unfold vLo
  generalize vD (minorsTo m m.length) (k+1)=d at hd |-
  generalize vSh (lamTo m m.length) k t=s
  generalize vR (minorsTo m m.length) k (left (ent m) bound (k+1) t)=r at r0 |-
  have a1:=Int.mul_ediv_add_emod (r+s) d
  have a2:=Int.emod_lt_of_pos (r+s) (show 0<d by omega)
  have e:d*(-((r+s) / d)-1)=-(d*((r+s) / d))-d:=by rw [Int.mul_sub,Int.mul_neg,Int.mul_one]
  omega
 ·rw [hu]
  unfold vHi
  generalize vD (minorsTo m m.length) (k+1)=d at hd |-
  generalize vSh (lamTo m m.length) k t=s
  generalize vR (minorsTo m m.length) k (left (ent m) bound (k+1) t)=r at r0 |-
  have a1:=Int.mul_ediv_add_emod (r-s) d
  have a2:=Int.emod_lt_of_pos (r-s) (show 0<d by omega)
  have e:d*((r-s) / d+1)=d*((r-s) / d)+d:=by rw [Int.mul_add,Int.mul_one]
  omega
end Go.Proofs.YtjehjkipcaohpaaGreat
namespace Go.Proofs.YtjehjkipcaohpaaGreat
open Go.RowKit
open La
theorem rreduced_ok {w0 w:World} {A:Option Addr} {c n b:Nat} {m:List (List Int)} (h:MatV w0 A m) (h1:m.length=n) (h3:1<=n) (h4:n<=8) (hn:AllLen m n) (hb:BdM b m) (hb1:1<=b) (hbb:b<=1000000) (hp:Pos (ofZ (ent m)) n) (hs:Sym (ofZ (ent m))) (hfu:∀r,r<n->Full (ofZ (ent m)) r) (hlo:∀p,p+1<n->Lov (ofZ (ent m)) p) [hx:Ext w0 w]:
  Calls Tryz.prog 164 #[.slice A n c] w (RetVal w (.bool true)):=by
 have h0:=h.ext hx
 have HLE:=Lib.hid (fun W (e1:Ext w W)=>rLeading_ok (w:=W) (c:=c) h0 h1 h3 h4 hn hb hb1 hbb)
 have HLL:Hid ((leadF m).length=n):=Lib.hid (by rw [leadF_len];exact h1)
 have HSZ:Hid (∀(W1 W:World) (B:Option Addr) (d i j:Nat),i<n->j<i->IntsV W1 B (leadF m)->Ext w W->Ext W1 W->Calls Tryz.prog 149 #[.slice A n c,.slice B n d,.int .i64 i,.int .i64 j] W (RetVal W (.bool true))):=Lib.hid (fun W1 W B d i j hi hj hI e1 e2=>by
  have :=rSized_ok (w:=W) (c:=c) (d:=d) h0 hI h1 h4 hn hb hb1 hbb hi (show j<n by omega)
  rwa [decide_eq_true ((sized_iff h1 hp (show j<n by omega)).2 (hfu i hi j hj))] at this)
 have HLV:Hid (∀(W1 W:World) (B:Option Addr) (d i:Nat),i<n->1<=i->IntsV W1 B (leadF m)->Ext w W->Ext W1 W->Calls Tryz.prog 155 #[.slice A n c,.slice B n d,.int .i64 i] W (RetVal W (.bool true))):=Lib.hid (fun W1 W B d i hi hi1 hI e1 e2=>by
  have :=rLovasz_ok (w:=W) (c:=c) (d:=d) h0 hI h1 h4 hn hb hb1 hbb hi hi1
  obtain ⟨p,rfl⟩:∃p,i=p+1:=⟨i-1,by omega⟩
  rwa [decide_eq_true ((lovasz_iff h1 hp hs hi).2 (hlo p hi))] at this)
 clear hn hb hp hs h1 hfu hlo
 go_enter Tryz.func164,Tryz.ntmps164
 go_wp2_with (go_at_call 106;refine (HLE.out _ inferInstance).mono ?_;rintro e w1 ⟨BD,dD,rfl,hI1,-,-,hs1⟩;rw [HLL.out];have HI:=Lib.hid hI1;clear hI1)
 have hxw1:Ext w w1:=inferInstance
 go_loopw [5,6,14] (fun _ _ i wr=>∃k:Nat,k<=n/\i= .int .i64 k/\Ext w1 wr) (fun _ _ i _=>n-(intOf i).toNat)
 case atStart=>exact ⟨0,by omega,rfl,inferInstance⟩
 case round=>
  obtain ⟨k,hk,rfl,hxr⟩:=hrel
  by_cases hlt:k<n
  ·go_wp2_with fail
   go_loopw [6] (fun s6 wr=>∃q:Nat,q<=k/\s6= .int .i64 q/\Ext w1 wr) (fun s6 _=>k-(intOf s6).toNat)
   case atStart=>exact ⟨0,by omega,rfl,inferInstance⟩
   case round=>
    obtain ⟨q,hq,rfl,hxq⟩:=hrel
    have hxwq:Ext w wr:=hxw1.trans hxq
    by_cases hqk:q<k
    ·have HSB:=Lib.hid (fun W (e1:Ext wr W)=>HSZ.out w1 W BD dD k q hlt hqk HI.out (hxwq.trans e1) (hxq.trans e1))
     go_wp2_with (go_at_call 149;refine (HSB.out _ inferInstance).mono ?_;rintro e w6 ⟨rfl,hs6⟩)
     exact ⟨⟨q+1,by omega,by go_num,inferInstance⟩,by simp [intOf]<;>omega⟩
    ·by_cases hk0:k=0
     ·subst hk0
      go_wp2_with fail
      exact ⟨⟨1,by omega,rfl,hxq⟩,by simp [intOf]<;>omega⟩
     ·have HLB:=Lib.hid (fun W (e1:Ext wr W)=>HLV.out w1 W BD dD k hlt (by omega) HI.out (hxwq.trans e1) (hxq.trans e1))
      have hgt:decide ((0:Int)<(k:Int))=true:=by simp;omega
      have hkpos:0<k:=by omega
      have hkpos2:(0:Int)<(k:Int):=by omega
      clear hk0
      go_wp2_with (go_at_call 155;refine (HLB.out _ inferInstance).mono ?_;rintro e w6 ⟨rfl,hs6⟩)
      exact ⟨⟨k+1,by omega,by go_num,inferInstance⟩,by simp [intOf]<;>omega⟩
  ·have hxwr:Ext w wr:=hxw1.trans hxr
   go_wp2_with fail
   go_ret
   exact ⟨rfl,⟨hxwr.below⟩⟩
theorem LLLed.val {m:List (List Int)} (h:LLLed m):ValM m:=⟨fun i hi j hj=>h.sym i j hi (by omega),lead_pos.2 h.pos⟩
theorem LLLed.detF {m:List (List Int)} (h:LLLed m):detF m<=10000:=by
 rw [det_E h.len1 (fun l hl=>by have :=E_pos h.pos (k:=l) (by omega);omega)]
 exact h.det
theorem LLLed.symO {m:List (List Int)} (h:LLLed m):Sym (ofZ (ent m)):=fun i j=>by
 by_cases hi:i<m.length
 ·by_cases hj:j<m.length
  ·unfold ofZ;rw [h.sym i j hi hj]
  ·unfold ofZ;rw [ent_out h.all (i:=i) (j:=j) (.inr (by omega)),ent_out h.all (i:=j) (j:=i) (.inl (by omega))]
 ·unfold ofZ;rw [ent_out h.all (i:=i) (j:=j) (.inl (by omega)),ent_out h.all (i:=j) (j:=i) (.inr (by omega))]
theorem rIsReduced_ok {w0 w:World} {A:Option Addr} {c n:Nat} {m:List (List Int)} (h:Mat64 w0 A m) (hL:LLLed m) (h1:m.length=n) (h64:Fits64 m) (hb:BdM 199 m) [hx:Ext w0 w]:
  Calls Tryz.prog 104 #[.slice A n c] w (RetVal w (.bool true)):=by
 have h3:1<=n:=by rw [<-h1];exact hL.len1
 have h4:n<=8:=by rw [<-h1];exact hL.len8
 have hn:AllLen m n:=by rw [<-h1];exact hL.all
 have hp:Pos (ofZ (ent m)) n:=by rw [<-h1];exact hL.pos
 have HFI:Hid (∀W,Ext w W->Calls Tryz.prog 95 #[.slice A n c] W (RetOwnIB W n m)):=Lib.hid (fun W e=>by
  have :Ext w0 W:=hx.trans e
  have :=rFromInts_ok (w:=W) (c:=c) h n (by omega) (by omega) h3 (by omega) hn h64
  rwa [h1] at this)
 have HVA:Hid (∀(W1 W:World) (A1:Option Addr) (c1:Nat),MatV W1 A1 m->Ext W1 W->Calls Tryz.prog 87 #[.slice A1 n c1] W (fun e w'=>∃v:Int,e= .returned (.int .i64 v)/\(v=0↔true=true)/\0<=v/\v<=5/\Step W w')):=Lib.hid (fun W1 W A1 c1 hM e=>rValidate_ok true (by simp [hL.val]) hM h1 h3 h4 hn hb (by omega) (by omega))
 have HSM:Hid (∀(W1 W:World) (A1:Option Addr) (c1:Nat),MatV W1 A1 m->Ext W1 W->Calls Tryz.prog 88 #[.slice A1 n c1] W (RetVal W (.bool true))):=Lib.hid (fun W1 W A1 c1 hM e=>by
  have :=rsmall_ok (w:=W) (c:=c1) hM h1 h3 h4 hn hb (by omega) (by omega)
  rwa [decide_eq_true hL.detF] at this)
 have HRE:Hid (∀(W1 W:World) (A1:Option Addr) (c1:Nat),MatV W1 A1 m->Ext W1 W->Calls Tryz.prog 164 #[.slice A1 n c1] W (RetVal W (.bool true))):=Lib.hid (fun W1 W A1 c1 hM e=>rreduced_ok hM h1 h3 h4 hn hb (by omega) (by omega) hp hL.symO (fun r hr=>hL.full r (by omega)) (fun p hp=>hL.lov p (by omega)))
 have HL:=Lib.hid h1
 clear hn hb h64 h1 hp hL
 go_enter Tryz.func104,Tryz.ntmps104
 go_wp2_with (first
  |(go_at_call 95;refine (HFI.out _ inferInstance).mono ?_;rintro e w1 ⟨g1,hs1',c1,rfl,hO1,-,-,hs1⟩;rw [HL.out];have HM:=Lib.hid hO1.mat;clear hO1)
  |(go_at_call 87;refine (HVA.out _ _ _ _ HM.out inferInstance).mono ?_;rintro e w2 ⟨v,rfl,hv,hv0,hv5,hs2⟩;have hvz:v=0:=(hv.2 (by trivial));subst hvz;clear hv hv0 hv5)
  |(go_at_call 88;refine (HSM.out _ _ _ _ HM.out inferInstance).mono ?_;rintro e w3 ⟨rfl,hs3⟩)
  |(go_at_call 164;refine (HRE.out _ _ _ _ HM.out inferInstance).mono ?_;rintro e w4 ⟨rfl,hs4⟩))
 go_ret
 exact ⟨rfl,Step.of _ _⟩
end Go.Proofs.YtjehjkipcaohpaaGreat
namespace Go.Proofs.YtjehjkipcaohpaaGreat
open La
theorem firstNZ_cons (c:Int) (t:List Int):0<firstNZ (c::t)↔0<c∨(c=0/\0<firstNZ t):=by
 show 0<(if c=0 then firstNZ t else c)↔_
 by_cases h:c=0
 ·rw [if_pos h];subst h;simp
 ·rw [if_neg h];omega
def tE (m:List (List Int)) (b:Int):Nat->List Int->List (Int×Int)
 |0,t=>[(tLo m b 0 t,tHi m b 0 t)]
 |k+1,t=>(tLo m b (k+1) t,tHi m b (k+1) t)::(List.range (tCnt m b (k+1) t)).flatMap fun (j:Nat)=>tE m b k ((tLo m b (k+1) t+(j:Int))::t)
def tEF (m:List (List Int)) (b:Int) (k:Nat) (t:List Int) (i:Nat):List (Int×Int):=
 (List.range' i (tCnt m b k t-i)).flatMap fun (j:Nat)=>tE m b (k-1) ((tLo m b k t+(j:Int))::t)
def tC (m:List (List Int)) (b:Int):Nat->List Int->List (List Int)->List (List Int)
 |0,t,l=>l++colTo t (cLo t (tLo m b 0 t)) (colN (cLo t (tLo m b 0 t)) (tHi m b 0 t) l.length)
 |k+1,t,l=>(List.range (tCnt m b (k+1) t)).foldl (fun l (j:Nat)=>tC m b k ((tLo m b (k+1) t+(j:Int))::t) l) l
def tCF (m:List (List Int)) (b:Int) (k:Nat) (t:List Int) (i:Nat) (l:List (List Int)):List (List Int):=
 (List.range' i (tCnt m b k t-i)).foldl (fun l (j:Nat)=>tC m b (k-1) ((tLo m b k t+(j:Int))::t) l) l
def upE (m:List (List Int)) (b:Int) (x:List Int):Nat->Nat->List (Int×Int)
 |0,_=>[]
 |f+1,k=>tEF m b k (x.drop (k+1)) (x.getD k 0-tLo m b k (x.drop (k+1))+1).toNat++upE m b x f (k+1)
def upC (m:List (List Int)) (b:Int) (x:List Int):Nat->Nat->List (List Int)->List (List Int)
 |0,_,l=>l
 |f+1,k,l=>upC m b x f (k+1) (tCF m b k (x.drop (k+1)) (x.getD k 0-tLo m b k (x.drop (k+1))+1).toNat l)
theorem tE_F (m:List (List Int)) (b:Int) (k:Nat) (t:List Int):tE m b (k+1) t=(tLo m b (k+1) t,tHi m b (k+1) t)::tEF m b (k+1) t 0:=by
 simp [tE,tEF,List.range_eq_range']
theorem tC_F (m:List (List Int)) (b:Int) (k:Nat) (t:List Int) (l:List (List Int)):tC m b (k+1) t l=tCF m b (k+1) t 0 l:=by
 simp [tC,tCF,List.range_eq_range']
theorem tEF_out {m:List (List Int)} {b:Int} {k:Nat} {t:List Int} {i:Nat} (h:tCnt m b k t<=i):tEF m b k t i=[]:=by
 simp [tEF,show tCnt m b k t-i=0 by omega]
theorem tCF_out {m:List (List Int)} {b:Int} {k:Nat} {t:List Int} {i:Nat} (h:tCnt m b k t<=i) (l:List (List Int)):tCF m b k t i l=l:=by
 simp [tCF,show tCnt m b k t-i=0 by omega]
theorem tEF_in {m:List (List Int)} {b:Int} {k:Nat} {t:List Int} {i:Nat} (h:i<tCnt m b k t):tEF m b k t i=tE m b (k-1) ((tLo m b k t+(i:Int))::t)++tEF m b k t (i+1):=by
 rw [tEF,show tCnt m b k t-i=(tCnt m b k t-(i+1))+1 by omega,List.range'_succ,List.flatMap_cons,tEF]
theorem tCF_in {m:List (List Int)} {b:Int} {k:Nat} {t:List Int} {i:Nat} (h:i<tCnt m b k t) (l:List (List Int)):tCF m b k t i l=tCF m b k t (i+1) (tC m b (k-1) ((tLo m b k t+(i:Int))::t) l):=by
 rw [tCF,show tCnt m b k t-i=(tCnt m b k t-(i+1))+1 by omega,List.range'_succ,List.foldl_cons,tCF]
theorem upE_congr {m:List (List Int)} {b:Int} {x y:List Int}:∀f k,x.drop k=y.drop k->upE m b x f k=upE m b y f k:=by
 intro f
 induction f with
 |zero=>intro k _;rfl
 |succ f ih=>
  intro k h
  have h1:x.drop (k+1)=y.drop (k+1):=by
   have e:∀z:List Int,z.drop (k+1)=(z.drop k).drop 1:=fun z=>by rw [List.drop_drop]
   rw [e,e,h]
  have h2:x.getD k 0=y.getD k 0:=by
   have e:∀z:List Int,z.getD k 0=(z.drop k).headD 0:=fun z=>by simp [List.getD_eq_getElem?_getD,List.headD_eq_head?_getD,List.head?_drop]
   rw [e,e,h]
  simp only [upE,h1,h2,ih (k+1) h1]
theorem upC_congr {m:List (List Int)} {b:Int} {x y:List Int}:∀f k,x.drop k=y.drop k->∀l,upC m b x f k l=upC m b y f k l:=by
 intro f
 induction f with
 |zero=>intro k _ l;rfl
 |succ f ih=>
  intro k h l
  have h1:x.drop (k+1)=y.drop (k+1):=by
   have e:∀z:List Int,z.drop (k+1)=(z.drop k).drop 1:=fun z=>by rw [List.drop_drop]
   rw [e,e,h]
  have h2:x.getD k 0=y.getD k 0:=by
   have e:∀z:List Int,z.getD k 0=(z.drop k).headD 0:=fun z=>by simp [List.getD_eq_getElem?_getD,List.headD_eq_head?_getD,List.head?_drop]
   rw [e,e,h]
  simp only [upC,h1,h2,ih (k+1) h1]
structure ChkSt (m:List (List Int)) (b:Int) (k:Nat) (x rest:List Int) (lv:List Lvl):Prop where
 kn:k<m.length
 xl:x.length=m.length
 rl:rest.length=m.length+1
 ll:lv.length=m.length
 rs:∀j,k<=j->j<m.length->rest.getD (j+1) 0=left (ent m) b (j+1) (x.drop (j+1))/\0<=left (ent m) b (j+1) (x.drop (j+1))
 lv:∀j,k<j->j<m.length->lv.getD j ⟨0,0,0,0⟩=lvlAt (minorsTo m m.length) (lamTo m m.length) j x rest (tHi m b j (x.drop (j+1)))/\tLo m b j (x.drop (j+1))<=x.getD j 0/\x.getD j 0<=tHi m b j (x.drop (j+1))
theorem drop_set_self {x:List Int} {k:Nat} {a:Int} (h:k<x.length):(x.set k a).drop k=a::x.drop (k+1):=by
 rw [List.drop_eq_getElem_cons (by simpa using h)]
 simp [List.drop_set_of_lt (show k<k+1 by omega)]
theorem ChkSt.next {m:List (List Int)} (hr:RedOK m) {b:Int} {k:Nat} {x rest:List Int} {lv:List Lvl} (h:ChkSt m b k x rest lv) (hk:0<k) {a:Int} (hv:lv.getD k ⟨0,0,0,0⟩=lvlAt (minorsTo m m.length) (lamTo m m.length) k x rest (tHi m b k (x.drop (k+1))))
  (a1:tLo m b k (x.drop (k+1))<=a) (a2:a<=tHi m b k (x.drop (k+1))):
  ChkSt m b (k-1) (x.set k a) (rest.set k (restOf (lv.getD k ⟨0,0,0,0⟩) a)) lv:=by
 have hkn:=h.kn
 have hxl:=h.xl
 have hrl:=h.rl
 have hdk:(x.drop (k+1)).length=m.length-1-k:=by rw [List.length_drop];omega
 obtain ⟨r1,r2⟩:=h.rs k (Nat.le_refl _) hkn
 refine ⟨by omega,by rw [List.length_set];exact h.xl,by rw [List.length_set];exact h.rl,h.ll,fun j j1 j2=>?_,fun j j1 j2=>?_⟩
 ·rcases Nat.lt_or_ge j k with hj |hj
  ·obtain rfl:j=k-1:=by omega
   rw [show k-1+1=k by omega,getD_set_self _ _ _ _ (by omega),hv,drop_set_self (by omega)]
   have e:restOf (lvlAt (minorsTo m m.length) (lamTo m m.length) k x rest (tHi m b k (x.drop (k+1)))) a=vRest (minorsTo m m.length) (lamTo m m.length) k (left (ent m) b (k+1) (x.drop (k+1))) (x.drop (k+1)) a:=by
    unfold restOf lvlAt vRest vSq vU lvU vSh
    simp only
    rw [r1,Int.mul_comm (left _ _ _ _)]
   rw [e,vRest_eq hr hkn b _ hdk]
   exact ⟨rfl,(inv_iff hr hkn _ hdk r2 a).1 ⟨a1,a2⟩⟩
  ·rw [getD_set_ne _ _ _ _ _ (by omega),List.drop_set_of_lt (by omega)]
   exact h.rs j hj j2
 ·rcases Nat.lt_or_ge k j with hj |hj
  ·rw [lvlAt_set (by omega),List.drop_set_of_lt (by omega),getD_set_ne x _ _ _ _ (by omega)]
   exact h.lv j hj j2
  ·obtain rfl:j=k:=by omega
   rw [lvlAt_set (by omega),List.drop_set_of_lt (by omega),getD_set_self x _ _ _ (by omega)]
   exact ⟨hv,a1,a2⟩
theorem ChkSt.mono {m:List (List Int)} {b:Int} {k k1:Nat} {x rest:List Int} {lv:List Lvl} (h:ChkSt m b k x rest lv) (h1:k<=k1) (h2:k1<m.length):ChkSt m b k1 x rest lv:=
 ⟨h2,h.xl,h.rl,h.ll,fun j a c=>h.rs j (by omega) c,fun j a c=>h.lv j (by omega) c⟩
theorem ChkSt.setLv {m:List (List Int)} {b:Int} {k:Nat} {x rest:List Int} {lv:List Lvl} (h:ChkSt m b k x rest lv) (v:Lvl):ChkSt m b k x rest (lv.set k v):=
 ⟨h.kn,h.xl,h.rl,by rw [List.length_set];exact h.ll,h.rs,fun j a c=>by rw [getD_set_ne _ _ _ _ _ (by omega)];exact h.lv j a c⟩
theorem up_find {m:List (List Int)} {b:Int} {x rest:List Int} {lv:List Lvl} {k0:Nat} (h:ChkSt m b k0 x rest lv):∀f k,m.length-k=f->k0<k->
  match upTo m.length x lv f k with
  |some k1=>k<=k1/\k1<m.length/\x.getD k1 0<tHi m b k1 (x.drop (k1+1))/\upE m b x f k=tEF m b k1 (x.drop (k1+1)) (x.getD k1 0-tLo m b k1 (x.drop (k1+1))+1).toNat++upE m b x (m.length-(k1+1)) (k1+1)/\
    ∀l,upC m b x f k l=upC m b x (m.length-(k1+1)) (k1+1) (tCF m b k1 (x.drop (k1+1)) (x.getD k1 0-tLo m b k1 (x.drop (k1+1))+1).toNat l)
  |none=>upE m b x f k=[]/\∀l,upC m b x f k l=l:=by
 intro f
 induction f with
 |zero=>intro k _ _;exact ⟨rfl,fun _=>rfl⟩
 |succ f ih=>
  intro k hf hk
  have hkn:k<m.length:=by omega
  obtain ⟨hv,l1,l2⟩:=h.lv k hk hkn
  have hhi:(lv.getD k ⟨0,0,0,0⟩).hi=tHi m b k (x.drop (k+1)):=by rw [hv];rfl
  rw [upTo,if_pos hkn,hhi]
  by_cases hlt:x.getD k 0<tHi m b k (x.drop (k+1))
  ·rw [if_pos hlt]
   refine ⟨Nat.le_refl _,hkn,hlt,?_,fun l=>?_⟩
   ·rw [upE,show m.length-(k+1)=f by omega]
   ·rw [upC,show m.length-(k+1)=f by omega]
  ·rw [if_neg hlt]
   have hout:tCnt m b k (x.drop (k+1))<=(x.getD k 0-tLo m b k (x.drop (k+1))+1).toNat:=by unfold tCnt;omega
   have e1:upE m b x (f+1) k=upE m b x f (k+1):=by rw [upE,tEF_out hout,List.nil_append]
   have e2:∀l,upC m b x (f+1) k l=upC m b x f (k+1) l:=fun l=>by rw [upC,tCF_out hout]
   have :=ih (k+1) (by omega) (by omega)
   split<;>rename_i hu<;>rw [hu] at this
   ·obtain ⟨a1,a2,a3,a4,a5⟩:=this
    exact ⟨by omega,a2,a3,by rw [e1];exact a4,fun l=>by rw [e2];exact a5 l⟩
   ·exact ⟨by rw [e1];exact this.1,fun l=>by rw [e2];exact this.2 l⟩
theorem chk_iff {m:List (List Int)} (hr:RedOK m) {b:Int} (hb:0<=b) (hb1:b<1073741824) (C:List (Int×Int)):∀k x rest lv l,ChkSt m b k x rest lv->∀r,
  chk (minorsTo m m.length) (lamTo m m.length) m.length C k x rest lv l=some r↔
   C=tE m b k (x.drop (k+1))++upE m b x (m.length-(k+1)) (k+1)/\r=upC m b x (m.length-(k+1)) (k+1) (tC m b k (x.drop (k+1)) l):=by
 induction C with
 |nil=>
  intro k x rest lv l h r
  rw [chk]
  have :tE m b k (x.drop (k+1))≠[]:=by cases k<;>simp [tE]
  constructor
  ·intro h;cases h
  ·rintro ⟨h1,-⟩
   exact absurd (List.append_eq_nil_iff.1 h1.symm).1 this
 |cons p C ih=>
  obtain ⟨lo,hi⟩:=p
  intro k x rest lv l h r
  have hkn:=h.kn
  have hxl:=h.xl
  obtain ⟨r1,r2⟩:=h.rs k (Nat.le_refl _) hkn
  have hdk:(x.drop (k+1)).length=m.length-1-k:=by rw [List.length_drop];omega
  have hacc:accB (lvlAt (minorsTo m m.length) (lamTo m m.length) k x rest hi).mi (lvlAt (minorsTo m m.length) (lamTo m m.length) k x rest hi).sh (lvlAt (minorsTo m m.length) (lamTo m m.length) k x rest hi).lim lo hi=true↔lo=tLo m b k (x.drop (k+1))/\hi=tHi m b k (x.drop (k+1)):=by
   have :=acc_level hr hb hb1 (x.drop (k+1)) hkn hdk r2 lo hi
   unfold lvlAt
   simp only
   rw [r1,Int.mul_comm (left _ _ _ _)]
   exact this
  have hhead:tE m b k (x.drop (k+1))=(tLo m b k (x.drop (k+1)),tHi m b k (x.drop (k+1)))::(if k=0 then [] else tEF m b k (x.drop (k+1)) 0):=by
   cases k with
   |zero=>rfl
   |succ k=>rw [tE_F,if_neg (by omega)]
  simp only [chk]
  by_cases hA:accB (lvlAt (minorsTo m m.length) (lamTo m m.length) k x rest hi).mi (lvlAt (minorsTo m m.length) (lamTo m m.length) k x rest hi).sh (lvlAt (minorsTo m m.length) (lamTo m m.length) k x rest hi).lim lo hi=true
  ·rw [if_pos hA]
   obtain ⟨rfl,rfl⟩:=hacc.1 hA
   rw [hhead,List.cons_append,List.cons.injEq]
   simp only [true_and]
   have hset:=h.setLv (lvlAt (minorsTo m m.length) (lamTo m m.length) k x rest (tHi m b k (x.drop (k+1))))
   have hself:(lv.set k (lvlAt (minorsTo m m.length) (lamTo m m.length) k x rest (tHi m b k (x.drop (k+1))))).getD k ⟨0,0,0,0⟩=lvlAt (minorsTo m m.length) (lamTo m m.length) k x rest (tHi m b k (x.drop (k+1))):=getD_set_self _ _ _ _ (by rw [h.ll];exact hkn)
   by_cases hd:0<k/\tLo m b k (x.drop (k+1))<=tHi m b k (x.drop (k+1))
   ·rw [if_pos hd,if_neg (show ¬k=0 by omega)]
    have hn:=hset.next hr hd.1 (a:=tLo m b k (x.drop (k+1))) hself (Int.le_refl _) hd.2
    rw [hself] at hn
    rw [ih _ _ _ _ _ hn]
    have e1:(x.set k (tLo m b k (x.drop (k+1)))).drop (k-1+1)=tLo m b k (x.drop (k+1))::x.drop (k+1):=by
     rw [show k-1+1=k by omega,drop_set_self (by omega)]
    have e2:(x.set k (tLo m b k (x.drop (k+1)))).drop (k+1)=x.drop (k+1):=List.drop_set_of_lt (by omega)
    have hc:0<tCnt m b k (x.drop (k+1)):=by unfold tCnt;omega
    rw [e1,show m.length-(k-1+1)=(m.length-(k+1))+1 by omega,show k-1+1=k by omega]
    simp only [upE,upC,e2]
    rw [getD_set_self _ _ _ _ (by omega),show (tLo m b k (x.drop (k+1))-tLo m b k (x.drop (k+1))+1).toNat=1 by omega,upE_congr (m:=m) (b:=b) (m.length-(k+1)) (k+1) e2,upC_congr (m:=m) (b:=b) (m.length-(k+1)) (k+1) e2,tEF_in hc]
    have e3:tC m b k (x.drop (k+1)) l=tCF m b k (x.drop (k+1)) (0+1) (tC m b (k-1) ((tLo m b k (x.drop (k+1))+((0:Nat):Int))::x.drop (k+1)) l):=by
     cases k with
     |zero=>omega
     |succ k=>rw [tC_F,tCF_in hc]
    rw [e3]
    simp only [Int.add_zero,Int.natCast_zero,Nat.zero_add,List.append_assoc]
   ·rw [if_neg hd]
    have e0:(if k=0 then [] else tEF m b k (x.drop (k+1)) 0)=[]:=by
     by_cases hk:k=0
     ·rw [if_pos hk]
     ·rw [if_neg hk,tEF_out]
      unfold tCnt;omega
    have e1:tC m b k (x.drop (k+1)) l=colAt k x (tLo m b k (x.drop (k+1))) (tHi m b k (x.drop (k+1))) l:=by
     unfold colAt
     cases k with
     |zero=>rw [if_pos rfl,tC,<-List.drop_one]
     |succ k=>
      rw [if_neg (by omega),tC_F,tCF_out]
      unfold tCnt;omega
    rw [e0,List.nil_append,e1]
    have hup:=up_find hset (m.length-(k+1)) (k+1) rfl (by omega)
    unfold upK
    split<;>rename_i hu<;>rw [hu] at hup
    ·rename_i k1
     obtain ⟨a1,a2,a3,a4,a5⟩:=hup
     obtain ⟨b1,b2,b3⟩:=hset.lv k1 (by omega) a2
     have hn:=(hset.mono (show k<=k1 by omega) a2).next hr (by omega) (a:=x.getD k1 0+1) b1 (by omega) (by omega)
     rw [ih _ _ _ _ _ hn,a4,a5]
     have e1:(x.set k1 (x.getD k1 0+1)).drop (k1-1+1)=(x.getD k1 0+1)::x.drop (k1+1):=by
      rw [show k1-1+1=k1 by omega,drop_set_self (by omega)]
     have e2:(x.set k1 (x.getD k1 0+1)).drop (k1+1)=x.drop (k1+1):=List.drop_set_of_lt (by omega)
     have hc:(x.getD k1 0-tLo m b k1 (x.drop (k1+1))+1).toNat<tCnt m b k1 (x.drop (k1+1)):=by unfold tCnt;omega
     have e3:tLo m b k1 (x.drop (k1+1))+(((x.getD k1 0-tLo m b k1 (x.drop (k1+1))+1).toNat:Nat):Int)=x.getD k1 0+1:=by omega
     rw [e1,show m.length-(k1-1+1)=(m.length-(k1+1))+1 by omega,show k1-1+1=k1 by omega]
     simp only [upE,upC,e2]
     rw [getD_set_self _ _ _ _ (by omega),upE_congr (m:=m) (b:=b) (m.length-(k1+1)) (k1+1) e2,upC_congr (m:=m) (b:=b) (m.length-(k1+1)) (k1+1) e2,tEF_in hc,tCF_in hc,e3,show (x.getD k1 0+1-tLo m b k1 (x.drop (k1+1))+1).toNat=(x.getD k1 0-tLo m b k1 (x.drop (k1+1))+1).toNat+1 by omega]
     simp only [List.append_assoc]
    ·rw [hup.1,hup.2]
     by_cases hC:C=[]
     ·rw [if_pos hC];simp [hC,eq_comm]
     ·rw [if_neg hC];simp [hC]
  ·rw [if_neg hA]
   constructor
   ·intro h;cases h
   ·rintro ⟨h1,-⟩
    rw [hhead,List.cons_append,List.cons.injEq,Prod.mk.injEq] at h1
    exact absurd (hacc.2 h1.1) hA
def tTree (m:List (List Int)) (b:Int):List (Int×Int):=tE m b (m.length-1) []
theorem treeR_iff {m:List (List Int)} (hr:RedOK m) {b:Int} (hb:0<=b) (hb1:b<1073741824) (C:List (Int×Int)) (r:List (List Int)):treeR m b C=some r↔C=tTree m b/\r=tC m b (m.length-1) [] []:=by
 have hl:=isSmallB_len hr.small
 have hst:ChkSt m b (m.length-1) (List.replicate m.length 0) ((List.replicate (m.length+1) 0).set m.length (b*vD (minorsTo m m.length) m.length)) (List.replicate m.length lvl0):=by
  refine ⟨by omega,by simp,by simp,by simp,fun j j1 j2=>?_,fun j j1 j2=>absurd j2 (by omega)⟩
  obtain rfl:j=m.length-1:=by omega
  have e:(List.replicate m.length (0:Int)).drop (m.length-1+1)=[]:=by
   rw [show m.length-1+1=m.length by omega];simp
  rw [e]
  refine ⟨?_,top_nonneg hr hb⟩
  rw [show m.length-1+1=m.length by omega,getD_set_self _ _ _ _ (by simp),Int.mul_comm,top_eq hr,show m.length-1+1=m.length by omega]
 unfold treeR tTree
 rw [chk_iff hr hb hb1 C _ _ _ _ _ hst]
 have e:(List.replicate m.length (0:Int)).drop (m.length-1+1)=[]:=by
  rw [show m.length-1+1=m.length by omega];simp
 rw [e,show m.length-(m.length-1+1)=0 by omega]
 simp [upE,upC]
theorem treeE_eq {m:List (List Int)} (hr:RedOK m) {b:Int} (k:Nat):∀t:List Int,k<m.length->t.length=m.length-1-k->0<=left (ent m) b (k+1) t->
  treeE (minorsTo m m.length) (lamTo m m.length) k (left (ent m) b (k+1) t) t=tE m b k t:=by
 induction k with
 |zero=>intro t _ _ _;rfl
 |succ k ih=>
  intro t hk ht h0
  rw [treeE,tE]
  have e:(vCnt (minorsTo m m.length) (lamTo m m.length) (k+1) (left (ent m) b (k+1+1) t) t).toNat=tCnt m b (k+1) t:=rfl
  rw [e]
  congr 1
  rw [List.flatMap_def,List.flatMap_def]
  congr 1
  refine List.map_congr_left fun j hj=>?_
  have hk0:=kid hr t hk ht h0 (j:=j) (by rw [e];simpa using hj)
  rw [vRest_eq hr hk b t ht]
  exact ih _ (by omega) (by simp [ht];omega) hk0
theorem treeE_top {m:List (List Int)} (hr:RedOK m) {b:Int} (hb:0<=b):treeE (minorsTo m m.length) (lamTo m m.length) (m.length-1) (vD (minorsTo m m.length) m.length*b) []=tTree m b:=by
 have hl:=isSmallB_len hr.small
 rw [top_eq hr]
 exact treeE_eq hr (m.length-1) [] (by omega) (by simp) (top_nonneg hr hb)
/-! ## The vectors of a tree -/
def tV (m:List (List Int)) (b:Int):Nat->List Int->List (List Int)
 |0,t=>colTo t (cLo t (tLo m b 0 t)) (tHi m b 0 t-cLo t (tLo m b 0 t)+1).toNat
 |k+1,t=>(List.range (tCnt m b (k+1) t)).flatMap fun (j:Nat)=>tV m b k ((tLo m b (k+1) t+(j:Int))::t)
theorem mem_tV {m:List (List Int)} (hr:RedOK m) {b:Int} (x:List Int) (k:Nat):∀t:List Int,k<m.length->t.length=m.length-1-k->0<=left (ent m) b (k+1) t->
  (x∈tV m b k t↔∃p:List Int,p.length=k+1/\x=p++t/\0<firstNZ x/\0<=left (ent m) b 0 x):=by
 induction k with
 |zero=>
  intro t hk ht h0
  have hin:=fun c=>inv_iff hr hk t ht h0 c
  rw [tV]
  simp only [colTo,List.mem_map,List.mem_range]
  have hcl:∀c,(cLo t (tLo m b 0 t)<=c/\c<=tHi m b 0 t)↔(tLo m b 0 t<=c/\c<=tHi m b 0 t)/\0<firstNZ (c::t):=fun c=>by
   rw [firstNZ_cons]
   unfold cLo
   split<;>omega
  constructor
  ·rintro ⟨i,hi,rfl⟩
   have h1:=(hcl (cLo t (tLo m b 0 t)+(i:Int))).1 ⟨by omega,by omega⟩
   exact ⟨[cLo t (tLo m b 0 t)+(i:Int)],rfl,rfl,h1.2,(hin _).1 h1.1⟩
  ·rintro ⟨p,hp,rfl,h1,h2⟩
   obtain ⟨c,rfl⟩:∃c,p=[c]:=List.length_eq_one_iff.1 hp
   have h3:=(hcl c).2 ⟨(hin c).2 h2,h1⟩
   refine ⟨(c-cLo t (tLo m b 0 t)).toNat,by omega,?_⟩
   rw [show cLo t (tLo m b 0 t)+(((c-cLo t (tLo m b 0 t)).toNat:Nat):Int)=c by omega]
   rfl
 |succ k ih=>
  intro t hk ht h0
  have hin:=fun c=>inv_iff hr hk t ht h0 c
  rw [tV]
  simp only [List.mem_flatMap,List.mem_range]
  constructor
  ·rintro ⟨j,hj,hx⟩
   have hk0:0<=left (ent m) b (k+1) ((tLo m b (k+1) t+(j:Int))::t):=kid hr t hk ht h0 (j:=j) hj
   obtain ⟨p,hp,rfl,h1,h2⟩:=(ih _ (by omega) (by simp [ht];omega) hk0).1 hx
   exact ⟨p++[tLo m b (k+1) t+(j:Int)],by simp [hp],by simp,h1,h2⟩
  ·rintro ⟨p,hp,rfl,h1,h2⟩
   obtain ⟨q,c,rfl,hq⟩:=snoc_split hp
   have hs:=left_suffix hr b q 0 (c::t) (by simp [ht];omega) (by simpa using h2)
   rw [hq,Nat.zero_add] at hs
   have hc:tLo m b (k+1) t<=c/\c<=tHi m b (k+1) t:=(hin c).2 hs
   refine ⟨(c-tLo m b (k+1) t).toNat,by unfold tCnt;omega,?_⟩
   have e:tLo m b (k+1) t+(((c-tLo m b (k+1) t).toNat:Nat):Int)=c:=by omega
   rw [e]
   exact (ih _ (by omega) (by simp [ht];omega) hs).2 ⟨q,hq,by simp,h1,h2⟩
/-! ## How many intervals, and how great -/
theorem tE_len {m:List (List Int)} (hr:RedOK m) {b:Int} (hb:0<=b) (hb1:b<1073741824) (k:Nat):∀t:List Int,k<m.length->t.length=m.length-1-k->0<=left (ent m) b (k+1) t->
  ((tE m b k t).length:Int)<=1+totY (visitY (minorsTo m m.length) (lamTo m m.length) m.length k (left (ent m) b (k+1) t) t):=by
 induction k with
 |zero=>
  intro t hk ht h0
  have :=vCnt_bounds (hr.num hb hb1) (lev_of hr hb hb1 t 0 hk ht h0)
  simp only [tE,visitY,totY,List.length_singleton]
  omega
 |succ k ih=>
  intro t hk ht h0
  have hc:=vCnt_bounds (hr.num hb hb1) (lev_of hr hb hb1 t (k+1) hk ht h0)
  simp only [tE,visitY,totY,List.length_cons]
  rw [totY_flat]
  have e:tCnt m b (k+1) t=(vCnt (minorsTo m m.length) (lamTo m m.length) (k+1) (left (ent m) b (k+1+1) t) t).toNat:=rfl
  rw [e]
  have key:∀l:List Nat,(∀j∈l,j<(vCnt (minorsTo m m.length) (lamTo m m.length) (k+1) (left (ent m) b (k+1+1) t) t).toNat)->
    ((l.flatMap fun j:Nat=>tE m b k ((tLo m b (k+1) t+(j:Int))::t)).length:Int)<=(l.length:Int)+(l.map fun j:Nat=>totY (visitY (minorsTo m m.length) (lamTo m m.length) m.length k (vRest (minorsTo m m.length) (lamTo m m.length) (k+1) (left (ent m) b (k+1+1) t) t (vLo (minorsTo m m.length) (lamTo m m.length) (k+1) (left (ent m) b (k+1+1) t) t+(j:Int))) ((vLo (minorsTo m m.length) (lamTo m m.length) (k+1) (left (ent m) b (k+1+1) t) t+(j:Int))::t))).sum:=by
   intro l
   induction l with
   |nil=>intro _;simp
   |cons j l ihl=>
    intro hl
    have hk0:=kid hr t hk ht h0 (hl j (by simp))
    have h1:=ihl (fun x hx=>hl x (by simp [hx]))
    have h2:=ih _ (by omega) (by simp [ht];omega) hk0
    simp only [List.flatMap_cons,List.length_append,List.map_cons,List.sum_cons,List.length_cons,Int.natCast_add,Int.natCast_one]
    rw [vRest_eq hr hk b t ht]
    unfold tLo
    unfold tLo at h1
    omega
  have :=key (List.range (vCnt (minorsTo m m.length) (lamTo m m.length) (k+1) (left (ent m) b (k+1+1) t) t).toNat) (fun j hj=>by simpa using hj)
  rw [List.length_range] at this
  simp only [Int.natCast_add,Int.natCast_one]
  omega
theorem tE_bd {m:List (List Int)} (hr:RedOK m) {b:Int} (hb:0<=b) (hb1:b<1073741824) (k:Nat):∀t:List Int,k<m.length->t.length=m.length-1-k->0<=left (ent m) b (k+1) t->
  ∀p∈tE m b k t,-1099511627776<=p.1/\p.2<=1099511627776/\p.1-1<=p.2:=by
 have h1:∀(k:Nat) (t:List Int),k<m.length->t.length=m.length-1-k->0<=left (ent m) b (k+1) t->-1099511627776<=tLo m b k t/\tHi m b k t<=1099511627776/\tLo m b k t-1<=tHi m b k t:=fun k t hk ht h0=>by
  have :=accB_bounds ((acc_level hr hb hb1 t hk ht h0 (tLo m b k t) (tHi m b k t)).2 ⟨rfl,rfl⟩)
  exact ⟨this.1,this.2.1,this.2.2.1⟩
 induction k with
 |zero=>
  intro t hk ht h0 p hp
  simp only [tE,List.mem_singleton] at hp
  subst hp
  exact h1 0 t hk ht h0
 |succ k ih=>
  intro t hk ht h0 p hp
  simp only [tE,List.mem_cons,List.mem_flatMap,List.mem_range] at hp
  rcases hp with rfl |⟨j,hj,hp⟩
  ·exact h1 (k+1) t hk ht h0
  ·exact ih _ (by omega) (by simp [ht];omega) (kid hr t hk ht h0 hj) p hp
theorem tTree_len {m:List (List Int)} (hr:RedOK m) (h2:2<=m.length) {b:Int} (hb:0<=b) (hb1:b<1073741824):((tTree m b).length:Int)<=1+totS m b:=by
 have :=tE_len hr hb hb1 (m.length-1) [] (by omega) (by simp) (top_nonneg hr hb)
 unfold totS tailsY
 rw [if_neg (by omega),top_eq hr]
 exact this
theorem tTree_bd {m:List (List Int)} (hr:RedOK m) {b:Int} (hb:0<=b) (hb1:b<1073741824):∀p∈tTree m b,-1099511627776<=p.1/\p.2<=1099511627776/\p.1-1<=p.2:=
 tE_bd hr hb hb1 (m.length-1) [] (by have :=isSmallB_len hr.small;omega) (by simp) (top_nonneg hr hb)
theorem tTree_one {m:List (List Int)} (hr:RedOK m) (h1:m.length=1) {b:Int} (hb:0<=b):tTree m b=[(-((isq (b / ent m 0 0).toNat:Nat):Int),((isq (b / ent m 0 0).toNat:Nat):Int))]:=by
 have hpos:1<=ent m 0 0:=by
  have :=lastE_pos hr.pos (k:=1) (by omega)
  have e:lastE (ent m) 1=ent m 0 0:=rfl
  omega
 obtain ⟨hin,hout⟩:=isq_bounds hpos hb
 have key:∀c:Int,(tLo m b 0 []<=c/\c<=tHi m b 0 [])↔ent m 0 0*c*c<=b:=fun c=>by
  have h:=inv_iff hr (k:=0) (by omega) (bound:=b) [] (by simp [h1]) (by have :=top_nonneg hr hb;rw [h1] at this;exact this) c
  refine h.trans ?_
  rw [left_nrm (isSmallB_all hr.small) b [c] (by simp [h1])]
  have e:nrm m [c]=ent m 0 0*c*c:=by
   rw [nrm_eq (isSmallB_all hr.small) _ (by simp [h1])]
   simp [qE,quadZ,sumZ,E,ent]
  rw [e]
  omega
 obtain ⟨r,hrr⟩:∃r:Nat,isq (b / ent m 0 0).toNat=r:=⟨_,rfl⟩
 rw [hrr] at hin hout |-
 have a1:ent m 0 0*(r:Int)*r<=b:=by
  by_cases h0:r=0
  ·subst h0;simpa using hb
  ·exact hin r (by omega) (by omega)
 have a2:ent m 0 0*(-(r:Int))*(-(r:Int))<=b:=by
  have :ent m 0 0*(-(r:Int))*(-(r:Int))=ent m 0 0*(r:Int)*r:=by grind
  omega
 have a3:¬ent m 0 0*(-((r:Int)+1))*(-((r:Int)+1))<=b:=by
  have :ent m 0 0*(-((r:Int)+1))*(-((r:Int)+1))=ent m 0 0*((r:Int)+1)*((r:Int)+1):=by grind
  omega
 have b1:=(key r).2 a1
 have b2:=(key (-(r:Int))).2 a2
 have b3:¬(tLo m b 0 []<=-((r:Int)+1)/\-((r:Int)+1)<=tHi m b 0 []):=fun h=>a3 ((key (-((r:Int)+1))).1 h)
 have b4:¬(tLo m b 0 []<=(r:Int)+1/\(r:Int)+1<=tHi m b 0 []):=fun h=>(show ¬ent m 0 0*((r:Int)+1)*((r:Int)+1)<=b by omega) ((key ((r:Int)+1)).1 h)
 have c1:tLo m b 0 []=-(r:Int):=by omega
 have c2:tHi m b 0 []=(r:Int):=by omega
 unfold tTree
 rw [h1]
 show [(tLo m b 0 [],tHi m b 0 [])]=_
 rw [c1,c2]
theorem disc_eq {m:List (List Int)} (hr:RedOK m) {k:Nat} (hk:k<m.length) (bound:Int) (t:List Int):
  lE (ent m) k (0::t)*lE (ent m) k (0::t)-lastE (ent m) (k+1)*(qE (ent m) k (0::t)-bound*lastE (ent m) k)=lastE (ent m) k*left (ent m) bound (k+1) t:=by
 have hs:Sym (ofZ (ent m)):=sym_of (isSmallB_all hr.small) (fun i j hi hj=>((of_decide_eq_true hr.small).2.2.2 i hi j hj).1)
 have :=qE_step hs (hr.pos.le (by omega:k+1<=m.length)) 0 t
 unfold left
 grind
/-! ## The tails that the reference walks -/
/-! ## Sorted lists of items -/
end Go.Proofs.YtjehjkipcaohpaaGreat
namespace Go.Proofs.YtjehjkipcaohpaaGreat
open Go.RowKit
open La
theorem LLLed.fits {m:List (List Int)} (h:LLLed m):Fits64 m:=(red_ok h.red).form.fits
theorem bd_199 {z:Int} (h1:-262144<=z) (h2:z<=262144):Bd 199 z:=by
 unfold Bd
 have :z.natAbs<=262144:=by omega
 exact Nat.lt_of_le_of_lt this (by decide)
theorem LLLed.bd {m:List (List Int)} (h:LLLed m):BdM 199 m:=fun i j=>by
 by_cases hi:i<m.length
 ·by_cases hj:j<m.length
  ·have hr:m[i]? =some m[i]:=List.getElem?_eq_getElem hi
   have hl:m[i].length=m.length:=h.all _ (List.getElem_mem hi)
   have he:ent m i j=m[i][j]'(by omega):=ent_of hr (List.getElem?_eq_getElem (by omega))
   have :=(redM_of h.red).ent m[i] (List.getElem_mem hi) (m[i][j]'(by omega)) (List.getElem_mem _)
   rw [he]
   exact bd_199 this.1 this.2
  ·rw [ent_out h.all (.inr (by omega))];exact Bd.zero _
 ·rw [ent_out h.all (.inl (by omega))];exact Bd.zero _
def RetIntsL (w:World) (zs:List Int) (e:Ending) (w':World):Prop:=∃B d,e= .returned (.slice B zs.length d)/\IntsV w' B zs/\zs.length<=d/\d<=9223372036854775807/\Step w w'
theorem rColumn_ok {w0 w:World} {A:Option Addr} {c:Nat} {x:List Int} (h:Ints w0 A 2 .i64 x) (h1:x.length<=1000) (hb:∀a∈x,-9223372036854775808<=a/\a<=9223372036854775807) [hx:Ext w0 w]:
  Calls Tryz.prog 162 #[.slice A x.length c] w (RetIntsL w x):=by
 have h0:=h.ext hx
 have HB:=Lib.hid hb
 obtain ⟨n,hn⟩:∃n,n=x.length:=⟨_,rfl⟩
 unfold RetIntsL
 rw [<-hn] at h1 |-
 have HL:=Lib.hid hn
 clear hb h hn
 go_enter Tryz.func162,Tryz.ntmps162
 go_wp2
 go_loopw [3,5,8] (fun s3 _ i wr=>∃(q:Nat) (A1:Option Addr) (c1:Nat) (vs:List Value),q<=n/\i= .int .i64 q/\s3= .slice A1 q c1/\Hid (Own wr w.heap.size 148 2 A1 q c1 vs)/\Hid (VsOf wr vs (x.take q))/\Ext w wr) (fun _ _ i _=>n-(intOf i).toNat)
 case atStart=>exact ⟨0,none,0,[],by omega,rfl,rfl,Lib.hid (Own.nil _ _ _ _),Lib.hid (fun i z hz=>by simp at hz),inferInstance⟩
 case round=>
  obtain ⟨q,A1,c1,vs,hq,rfl,rfl,HO,HV,hxr⟩:=hrel
  by_cases hlt:q<n
  ·have hlx:q<x.length:=by rw [<-HL.out];exact hlt
   obtain ⟨b1,o1,a,rfl,ha,g1,g2⟩:=(h0.ext hxr).at_ hlx
   have hab:=HB.out a (List.mem_of_getElem? ha)
   have hae:Hid (x.getD q 0=a):=Lib.hid (by simp [List.getD,ha])
   have HS:=Lib.hid (fun W=>rSmall_any a hab.1 hab.2 W)
   clear ha
   go_wp2_with fail
   refine (HS.out _).mono ?_
   rintro e w5 ⟨g5,B5,k5,d5,rfl,hz5,hs5⟩
   have hx5:Ext wr w5:=inferInstance
   have HZ5:=Lib.hid hz5
   clear hz5
   go_wp2_with (at_builtin;refine wpList_app _ rfl _ _ 87 rfl w.heap.size 148 (.agg #[.bool false,.slice none 0 0]) 2 32 Tryz.underlying87 infoInt rfl (by omega) (by omega) A1 q c1 vs rfl (HO.out.ext inferInstance) (some ⟨w5.heap.size,0,none⟩) 1 1 [.bool g5,.slice B5 k5 d5] rfl (Arr.new w5 148 #[.bool g5,.slice B5 k5 d5]) rfl (two_int _ _ _ _) (by omega) (by have :=(hxr.trans hx5).size;simp;omega) ?_;intro A6 c6 w6 hown hg;have HO6:=Lib.hid hown;have HG6:=Lib.hid hg;have hx6:Ext w w6:=hg.ext inferInstance (Nat.le_refl _);clear hown hg)
   refine ⟨⟨q+1,A6,c6,vs++[.bool g5,.slice B5 k5 d5],by omega,by go_num,rfl,HO6,Lib.hid ?_,hx6⟩,by simp [intOf]<;>omega⟩
   have hxa:Ext w5 (w5.alloc (.cells #[.bool g5,.slice B5 k5 d5] 148)):=inferInstance
   have hv5:VsOf (w5.alloc (.cells #[.bool g5,.slice B5 k5 d5] 148)) (vs++[.bool g5,.slice B5 k5 d5]) (x.take q++[x.getD q 0]):=VsOf.snoc (HV.out.map fun hz=>(hz.ext hx5).ext hxa) (by rw [HO.out.len,List.length_take,<-HL.out,Nat.min_eq_left hq]) (by rw [hae.out];exact HZ5.out.ext hxa)
   rw [take_snoc (by rw [<-HL.out];exact hlt)]
   exact hv5.grow HG6.out (by decide)
  ·obtain rfl:q=n:=by omega
   go_wp2
   go_ret
   have h2:=HV.out
   rw [List.take_of_length_le (by rw [<-HL.out];exact Nat.le_refl _)] at h2
   exact ⟨A1,c1,rfl,h2.intsV (by rw [HO.out.len,<-HL.out]) HO.out.arr (Ext.refl _),HO.out.cap.1,HO.out.cap.2,hxr.toStep⟩
end Go.Proofs.YtjehjkipcaohpaaGreat
