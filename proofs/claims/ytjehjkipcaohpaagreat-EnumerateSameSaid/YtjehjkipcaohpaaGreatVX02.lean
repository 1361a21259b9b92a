/- Enum Enum2 Fix Awk11 Vm3 Vm5 Vr11 -/
import Derived.Test.YtjehjkipcaohpaaGreatVX01
import Derived.Test.YtjehjkipcaohpaaGreatProg
import Derived.Test.YtjehjkipcaohpaaGreatShelf
import Derived.Test.YtjehjkipcaohpaaGreatV18
set_option maxHeartbeats 8000000
set_option linter.unusedVariables false
set_option linter.unusedSimpArgs false
set_option linter.constructorNameAsVariable false
namespace Go.Proofs.YtjehjkipcaohpaaGreat
open Go.RowKit
theorem pairs_any {w0 w:World} {A:Option Addr} {c:Nat} {st:List Int} (h:Ints w0 A 3 .i64 st) (h1:1<=st.length) (h2:st.length<=1099511627776) (l1:1<=lastOf st) (l2:lastOf st<=1099511627776) [hx:Ext w0 w]:
  Calls Tryz.prog 50 #[.slice A st.length c] w (RetSame w (.int .i64 ((lastOf st-1) / 2))):=by
 obtain ⟨b,o,x,rfl,hx',g1,g2⟩:=(h.ext hx).at_ (i:=st.length-1) (by omega)
 have he:lastOf st=x:=by unfold lastOf;simp [hx']
 rw [he] at l1 l2 |-
 obtain ⟨n,hn⟩:∃n,st.length=n+1:=⟨st.length-1,by omega⟩
 rw [hn] at h2 g1 |-
 simp only [Nat.add_sub_cancel] at g1
 clear hn he hx' h h1
 go_enter Tryz.func50,Tryz.ntmps50
 go_wp2
 go_ret
 exact ⟨rfl,rfl⟩
structure EnumOK (m:List (List Int)) (bound:Int) (exact:Bool):Prop where
 form:FormOK m
 s64:St64 m
 red:RedM m
 b0:0<=bound
 b1:1<m.length->bound<1073741824
 one:m.length=1->isq (bound / ent m 0 0).toNat<=1048576
 len:(collL m bound exact).length<=1073741824
 vec:∀x∈collL m bound exact,VecOK m x
 nd:((collL m bound exact).map canonL).Nodup
def RetVecs (w:World) (m ls:List (List Int)) (total:Int) (e:Ending) (w':World):Prop:=∃A c L,e= .returned (.tuple #[.slice A (List.length L) c,.int .i64 total,.int .i64 0])/\Mat64 w' A L/\L.length<=c/\c<=9223372036854775807/\L.Perm (ls.map canonL)/\L.Pairwise (fun x y=>cmpK (nrm m x) (nrm m y) x y<0)/\Step w w'
theorem sum_take_bound (l:List Int) (hb:∀x∈l,0<=x/\x<=1099511627776) (k:Nat):0<=(l.take k).sum/\(l.take k).sum<=k*1099511627776:=by
 induction k with
 |zero=>simp
 |succ k ih=>
  cases h:l[k]? with
  |none=>rw [List.take_add_one,h];simp;omega
  |some x=>
   rw [sum_take_succ l k x h]
   have :=hb x (List.mem_of_getElem? h)
   omega
theorem Vectors_ok {w0 w:World} {A:Option Addr} {c:Nat} {m:List (List Int)} {bound budget:Int} {st:List Int} (h:Mat64 w0 A m) (hc:m.length<=c) (hc2:c<=9223372036854775807) (hok:EnumOK m bound false) (hs:stepsSpec m bound budget=(st,0)) (h1:1<=st.length) (h2:st.length<=8) (l1:1<=lastOf st) (hb:∀x∈st,0<=x/\x<=1099511627776) (hsm:(lastOf st-1) / 2<=4096) [hx:Ext w0 w]:
  Calls Tryz.prog 23 #[.slice A m.length c,.int .i64 bound,.int .i64 budget] w (RetVecs w m (collL m bound false) st.sum):=by
 have hn8:=hok.red.n8
 have l2:lastOf st<=1099511627776:=by omega
 have hst:=fun W (hh:Ext w0 W)=>Steps_any (w:=W) (bound:=bound) (budget:=budget) h (by omega) hc hc2 (fun _=>hok.form)
 rw [hs] at hst
 have HST:=Lib.hid hst
 have hpa:=fun W A' c' (hI:Ints W A' 3 .i64 st)=>pairs_any (w:=W) (c:=c') hI h1 (by omega) l1 l2
 have HP:=Lib.hid hpa
 obtain ⟨q,hq⟩:∃q,(lastOf st-1) / 2=q:=⟨_,rfl⟩
 rw [hq] at HP hsm
 have hb':decide (4096<q)=false:=by simp;omega
 have hco:=fun W (hh:Ext w0 W)=>collect_any (w:=W) (c:=c) h hok.form hok.s64 hok.b0 hok.b1 hok.one hok.len
 have HCO:=Lib.hid hco
 have hso:=fun W X d (hh:Ext w0 W) (hX:Mat64 W X (collL m bound false))=>SortUnique_ok (w0:=W) (w:=W) (c:=c) (d:=d) (h.ext hh) hc hc2 hX hok.len hok.red hok.vec hok.nd
 have HSO:=Lib.hid hso
 obtain ⟨ls,hls⟩:∃ls,collL m bound false=ls:=⟨_,rfl⟩
 rw [hls] at HCO HSO |-
 have HB:=Lib.hid hb
 clear hst hpa hs hq hco hso hls hok hb
 go_enter Tryz.func23,Tryz.ntmps23
 go_wp2_with (first
  |(go_at_call 49;refine (HST.out _ inferInstance).mono ?_;rintro e w1 ⟨A1,c1,rfl,hI,k1,k2,hs1⟩)
  |(go_at_call 50;refine (HP.out _ _ _ hI).mono ?_;rintro e w2 ⟨rfl,rfl⟩))
 go_loop [11,13,31] (fun s _ i=>∃k:Nat,k<=st.length/\i= .int .i64 k/\s= .int .i64 (st.take k).sum) (fun _ _ i=>st.length-(intOf i).toNat)
 case atStart=>exact ⟨0,by omega,rfl,by simp⟩
 case round=>
  obtain ⟨k,hk,rfl,rfl⟩:=hrel
  have hbd:=sum_take_bound st HB.out k
  by_cases hlt:k<st.length
  ·obtain ⟨b,o,x,rfl,hx',g1,g2⟩:=hI.at_ hlt
   have hxb:=HB.out x (List.mem_of_getElem? hx')
   have HS:=Lib.hid (sum_take_succ st k x hx')
   obtain ⟨s,hs⟩:∃s,s=(st.take k).sum:=⟨_,rfl⟩
   rw [<-hs] at hbd HS |-
   have b1:s<=8*1099511627776:=by omega
   obtain ⟨b0,-⟩:=hbd
   obtain ⟨x0,x1⟩:=hxb
   clear hs hx'
   go_wp2
   exact ⟨⟨k+1,by omega,by go_num,by rw [HS.out]⟩,by simp [intOf];omega⟩
  ·have htk:st.take k=st:=List.take_of_length_le (by omega)
   rw [htk] at hbd |-
   obtain ⟨s,hs⟩:∃s,s=st.sum:=⟨_,rfl⟩
   have hsb:0<=s/\s<=8*1099511627776:=by rw [hs];omega
   rw [<-hs]
   have HS:=Lib.hid hs
   clear hs htk hbd
   go_wp2_with (first
    |(go_at_call 52;refine (HCO.out _ inferInstance).mono ?_;rintro e w3 ⟨A3,c3,rfl,hM3,k3,k4,hs3⟩)
    |(go_at_call 51;refine (HSO.out _ _ _ inferInstance hM3).mono ?_;rintro e w4 ⟨A4,c4,L,rfl,hM4,k5,k6,hp,hw,hs4⟩))
   go_ret3
   exact ⟨A4,c4,L,by rw [<-HS.out];rfl,hM4,k5,k6,hp,hw,Step.of _ _⟩
theorem Count_ok {w0 w:World} {A:Option Addr} {c:Nat} {m:List (List Int)} {bound budget:Int} {st:List Int} (h:Mat64 w0 A m) (hlen:m.length<=1099511627776) (hc:m.length<=c) (hc2:c<=9223372036854775807) (hf:isRedB m=true->FormOK m) (hs:stepsSpec m bound budget=(st,0)) (h1:1<=st.length) (h2:st.length<=1099511627776) (l1:1<=lastOf st) (l2:lastOf st<=1099511627776) [hx:Ext w0 w]:
  Calls Tryz.prog 33 #[.slice A m.length c,.int .i64 bound,.int .i64 budget] w (RetVal w (.tuple #[.int .i64 ((lastOf st-1) / 2),.int .i64 0])):=by
 have hst:=fun W (hh:Ext w0 W)=>Steps_any (w:=W) (bound:=bound) (budget:=budget) h hlen hc hc2 hf
 rw [hs] at hst
 have HST:=Lib.hid hst
 have hpa:=fun W A' c' (hI:Ints W A' 3 .i64 st)=>pairs_any (w:=W) (c:=c') hI h1 h2 l1 l2
 have HP:=Lib.hid hpa
 obtain ⟨q,hq⟩:∃q,(lastOf st-1) / 2=q:=⟨_,rfl⟩
 rw [hq] at HP |-
 clear hst hpa hs hq hf
 go_enter Tryz.func33,Tryz.ntmps33
 go_wp2_with (first
  |(go_at_call 49;refine (HST.out _ inferInstance).mono ?_;rintro e w1 ⟨A1,c1,rfl,hI,k1,k2,hs1⟩)
  |(go_at_call 50;refine (HP.out _ _ _ hI).mono ?_;rintro e w2 ⟨rfl,rfl⟩))
 go_ret2
 exact ⟨rfl,Step.of _ _⟩
theorem Shell_ok {w0 w:World} {A:Option Addr} {c:Nat} {m:List (List Int)} {bound budget:Int} {st:List Int} (h:Mat64 w0 A m) (hc:m.length<=c) (hc2:c<=9223372036854775807) (hok:EnumOK m bound true) (hs:stepsSpec m bound budget=(st,0)) (hsm:(collL m bound true).length<=4096) [hx:Ext w0 w]:
  Calls Tryz.prog 36 #[.slice A m.length c,.int .i64 bound,.int .i64 budget] w (RetShell w m (collL m bound true)):=by
 have hn8:=hok.red.n8
 have hst:=fun W (hh:Ext w0 W)=>Steps_any (w:=W) (bound:=bound) (budget:=budget) h (by omega) hc hc2 (fun _=>hok.form)
 rw [hs] at hst
 have HST:=Lib.hid hst
 have hco:=fun W (hh:Ext w0 W)=>collect_any (w:=W) (c:=c) h hok.form hok.s64 hok.b0 hok.b1 hok.one hok.len
 have HCO:=Lib.hid hco
 have hso:=fun W X d (hh:Ext w0 W) (hX:Mat64 W X (collL m bound true))=>SortUnique_ok (w0:=W) (w:=W) (c:=c) (d:=d) (h.ext hh) hc hc2 hX hok.len hok.red hok.vec hok.nd
 have HSO:=Lib.hid hso
 obtain ⟨ls,hls⟩:∃ls,collL m bound true=ls:=⟨_,rfl⟩
 rw [hls] at HCO HSO hsm |-
 clear hst hs hco hso hls hok
 unfold RetMatL at HCO
 obtain ⟨ln,hln⟩:∃ln,ln=ls.length:=⟨_,rfl⟩
 rw [<-hln] at HCO HSO hsm
 have hb':decide (4096<ln)=false:=by simp;omega
 clear hln
 go_enter Tryz.func36,Tryz.ntmps36
 go_wp2_with (first
  |(go_at_call 49;refine (HST.out _ inferInstance).mono ?_;rintro e w1 ⟨A1,c1,rfl,hI,k1,k2,hs1⟩)
  |(go_at_call 52;refine (HCO.out _ inferInstance).mono ?_;rintro e w3 ⟨A3,c3,rfl,hM3,k3,k4,hs3⟩)
  |(go_at_call 51;refine (HSO.out _ _ _ inferInstance hM3).mono ?_;rintro e w4 ⟨A4,c4,L,rfl,hM4,k5,k6,hp,hw,hs4⟩))
 go_ret2
 exact ⟨A4,c4,L,rfl,hM4,k5,k6,hp,hw,Step.of _ _⟩
/-! ## The form (1) -/
/-! ## The form of example 1 -/
theorem coll_m2:collL m2 2 false=[[1,0],[-1,1],[0,1]]:=by decide
theorem enum_m2:EnumOK m2 2 false:=by
 refine ⟨form_m2,s64_m2,red_m2,by decide,by decide,by decide,by decide,?_,by decide⟩
 rw [coll_m2]
 intro x hx
 simp only [List.mem_cons,List.not_mem_nil,or_false] at hx
 rcases hx with rfl |rfl |rfl<;>exact ⟨by decide,by decide,by decide⟩
theorem sorted_m2 {L:List (List Int)} (hp:L.Perm ((collL m2 2 false).map canonL)) (hw:L.Pairwise (fun x y=>cmpK (nrm m2 x) (nrm m2 y) x y<0)):L=vecs_m2:=by
 refine sorted_eq hp hw (by decide) ?_ (by decide)
 rw [coll_m2]
 decide
theorem awake11_any {w:World}:Calls Tryz.prog 26 #[] w (RetVal w (.bool true)):=by
 have hv:=fun W A (hM:Mat64 W A m2)=>Vectors_ok (w0:=W) (w:=W) (c:=2) (st:=[3,7]) hM (by decide) (by decide) enum_m2 steps_m2 (by decide) (by decide) (by decide) (by decide) (by decide)
 have HV:Hid (∀W A,Mat64 W A m2->Calls Tryz.prog 23 #[.slice A 2 2,.int .i64 2,.int .i64 100] W fun e w'=>∃B c,e= .returned (.tuple #[.slice B 3 c,.int .i64 10,.int .i64 0])/\Mat64 w' B vecs_m2/\Step W w'):=Lib.hid (fun W A hM=>(hv W A hM).mono (fun e w' ⟨B,c,L,he,h1,_,_,hp,hw,hs⟩=>by
  obtain rfl:=sorted_m2 hp hw
  exact ⟨B,c,he,h1,hs⟩))
 have HS:Hid (∀W B c C d,Mat64 W B vecs_m2->Mat64 W C vecs_m2->Calls Tryz.prog 25 #[.slice B 3 c,.slice C 3 d] W (RetQ W (.bool true))):=Lib.hid (fun W B c C d h1 h2=>ref09_Same_any (w0:=W) (w:=W) (c:=c) (d:=d) h1 h2 (by decide) (by decide) (by decide) (by decide))
 clear hv
 go_enter Tryz.func26,Tryz.ntmps26
 go_wp2_with (first
  |(go_at_call 23;refine (HV.out _ _ (mat22 w 2 1 1 2)).mono ?_;rintro e w1 ⟨B1,c1,rfl,hM1,hs1⟩)
  |(go_at_call 25;refine (HS.out _ _ _ _ _ (hM1.ext inferInstance) (mat32 w1 0 1 1 (-1) 1 0)).mono ?_;rintro e w2 ⟨rfl,n2,rfl⟩))
 go_ret
 exact ⟨rfl,Step.of _ _⟩
end Go.Proofs.YtjehjkipcaohpaaGreat
namespace Go.Proofs.YtjehjkipcaohpaaGreat
open La
/-! ## Levels -/
theorem qE_nonneg {m:List (List Int)} (hr:RedOK m) (t:List Int):∀k,k+t.length<=m.length->0<=qE (ent m) k t:=by
 have hsym:=sym_of (isSmallB_all hr.small) (fun i j hi hj=>((of_decide_eq_true hr.small).2.2.2 i hi j hj).1)
 induction t with
 |nil=>intro k _;exact Int.le_refl _
 |cons c t ih=>
  intro k hk
  simp only [List.length_cons] at hk
  have h1:=ih (k+1) (by omega)
  have h2:=qE_step hsym (hr.pos.le (by omega:k+1<=m.length)) c t
  have h3:=lastE_pos hr.pos (by omega:k<=m.length)
  have h4:=lastE_pos hr.pos (by omega:k+1<=m.length)
  have h5:=Int.mul_nonneg (Int.le_of_lt h3) h1
  have h6:=sq_nonnegZ (lE (ent m) k (c::t))
  rcases Int.lt_or_le (qE (ent m) k (c::t)) 0 with h7 |h7
  ·have :=Int.mul_neg_of_pos_of_neg h4 h7;omega
  ·exact h7
theorem nrm_nonneg {m:List (List Int)} (hr:RedOK m) (x:List Int) (hx:x.length=m.length):0<=nrm m x:=by
 rw [nrm_eq (isSmallB_all hr.small) x hx]
 exact qE_nonneg hr x 0 (by omega)
theorem coord_small {m:List (List Int)} (hr:RedOK m) {bound:Int} (hb:0<=bound) (hb1:bound<1073741824) (x:List Int) (hx:x.length=m.length) (hn:nrm m x<=bound):absSum x<=1099511627776:=by
 have hall:=isSmallB_all hr.small
 have hl:=isSmallB_len hr.small
 have hsym:=sym_of (isSmallB_all hr.small) (fun i j hi hj=>((of_decide_eq_true hr.small).2.2.2 i hi j hj).1)
 have h0:0<=left (ent m) bound 0 x:=by rw [left_nrm hall bound x hx];omega
 cases x with
 |nil=>simp [absSum]
 |cons c t=>
  simp only [List.length_cons] at hx
  have h1:=left_le hsym (hr.pos.le (by omega:0+1<=m.length)) bound c t h0
  have h2:=lev_of hr hb hb1 t 0 (by omega) (by omega) h1
  have h3:=(inv_iff hr (by omega:0<m.length) t (by omega) h1 c).2 h0
  have hN:=hr.num hb hb1
  have h4:=vEnds hN h2
  have h5:=absSum_bound hN h2
  have h6:=vR_bounds hN h2
  simp only [absSum]
  omega
theorem inRange_of {x:List Int} (h:absSum x<=1099511627776):inRangeB x=true:=by
 unfold inRangeB
 rw [List.all_eq_true]
 intro y hy
 obtain ⟨i,hi⟩:=List.getElem?_of_mem hy
 have :=le_absSum x i y hi
 simp only [Bool.and_eq_true,decide_eq_true_eq]
 omega
theorem firstNZ_zero {x:List Int} (h:firstNZ x=0):∀y∈x,y=0:=by
 induction x with
 |nil=>simp
 |cons a x ih=>
  simp only [firstNZ] at h
  split at h
  ·rename_i ha
   intro y hy
   rcases List.mem_cons.1 hy with rfl |hy
   ·exact ha
   ·exact ih h y hy
  ·omega
theorem canon_inj {x y:List Int} (hx:LastPos x) (hy:LastPos y) (h:canonL x=canonL y):x=y:=by
 unfold canonL at h
 split at h<;>split at h
 ·have :=congrArg (List.map fun c=>-c) h
  rwa [neg_neg_map,neg_neg_map] at this
 ·rw [<-h] at hy;exact absurd hy (lastPos_neg hx)
 ·rw [h] at hx;exact absurd hx (lastPos_neg hy)
 ·exact h
theorem firstNZ_neg (x:List Int):firstNZ (x.map fun c=>-c)=-firstNZ x:=by
 induction x with
 |nil=>rfl
 |cons a x ih=>
  simp only [List.map_cons,firstNZ,ih]
  by_cases h:a=0
  ·simp [h]
  ·rw [if_neg h,if_neg (by omega)]
theorem canon_first (x:List Int) (h:firstNZ x≠0):0<firstNZ (canonL x):=by
 unfold canonL
 split
 ·rw [firstNZ_neg];omega
 ·omega
theorem nodup_canon {m:List (List Int)} (hr:RedOK m) {bound:Int} (hb:0<=bound) (exact:Bool):((collL m bound exact).map canonL).Nodup:=by
 unfold List.Nodup
 rw [List.pairwise_map]
 refine List.Pairwise.imp_of_mem ?_ (nodup_coll hr hb exact)
 intro a b ha hb' hab e
 exact hab (canon_inj ((mem_coll hr hb exact a).1 ha).2.1 ((mem_coll hr hb exact b).1 hb').2.1 e)
theorem vec_coll {m:List (List Int)} (hr:RedOK m) {bound:Int} (hb:0<=bound) (hb1:bound<1073741824) (exact:Bool) (x:List Int) (hx:x∈collL m bound exact):VecOK m x:=by
 obtain ⟨h1,h2,h3,_⟩:=(mem_coll hr hb exact x).1 hx
 have h4:=inRange_of (coord_small hr hb hb1 x h1 h3)
 refine ⟨by simp [fitsB,h1,h4],?_,?_⟩
 ·have :=nrm_nonneg hr x h1
  simp only [dotB,decide_eq_true_eq]
  omega
 ·simp only [canonB,h4,Bool.true_and,Bool.not_eq_true',decide_eq_false_iff_not]
  intro e
  exact lastPos_ne h2 (firstNZ_zero e)
structure VecList (m:List (List Int)) (bound:Int) (exact:Bool) (L:List (List Int)):Prop where
 sorted:L.Pairwise (fun x y=>cmpK (nrm m x) (nrm m y) x y<0)
 mem:∀x,x∈L↔x.length=m.length/\0<firstNZ x/\nrm m x<=bound/\(exact=true->nrm m x=bound)
theorem vecList_of {m:List (List Int)} (hr:RedOK m) {bound:Int} (hb:0<=bound) {exact:Bool} {L:List (List Int)} (hp:L.Perm ((collL m bound exact).map canonL)) (hw:L.Pairwise (fun x y=>cmpK (nrm m x) (nrm m y) x y<0)):VecList m bound exact L:=by
 refine ⟨hw,fun x=>?_⟩
 rw [hp.mem_iff,List.mem_map]
 constructor
 ·rintro ⟨y,hy,rfl⟩
  obtain ⟨h1,h2,h3,h4⟩:=(mem_coll hr hb exact y).1 hy
  rw [nrm_canon,canonL_length]
  exact ⟨h1,canon_first y (fun e=>lastPos_ne h2 (firstNZ_zero e)),h3,h4⟩
 ·rintro ⟨h1,h2,h3,h4⟩
  have hne:¬∀y∈x,y=0:=fun hz=>by
   have :firstNZ x=0:=by
    clear h1 h2 h3 h4
    induction x with
    |nil=>rfl
    |cons a x ih=>
     have ha:=hz a (by simp)
     simp only [firstNZ,ha,if_true]
     exact ih (fun y hy=>hz y (by simp [hy]))
   omega
  rcases lastPos_or hne with h5 |h5
  ·refine ⟨x,(mem_coll hr hb exact x).2 ⟨h1,h5,h3,h4⟩,?_⟩
   unfold canonL
   rw [if_neg (by omega)]
  ·refine ⟨x.map fun c=>-c,(mem_coll hr hb exact _).2 ⟨by simpa using h1,h5,by rw [nrm_neg];exact h3,by rw [nrm_neg];exact h4⟩,?_⟩
   unfold canonL
   rw [firstNZ_neg,if_pos (by omega),neg_neg_map]
theorem cmpK_anti (m:List (List Int)) (x y:List Int) (h:cmpK (nrm m x) (nrm m y) x y<0):¬cmpK (nrm m y) (nrm m x) y x<0:=by
 rw [cmpK_lex] at h |-
 rw [lexI_anti]
 omega
theorem VecList.nodup {m:List (List Int)} {bound:Int} {exact:Bool} {L:List (List Int)} (h:VecList m bound exact L):L.Nodup:=by
 refine List.Pairwise.imp ?_ h.sorted
 intro a b hab e
 subst e
 exact cmpK_anti m a a hab hab
theorem StepsOK.last_le {m:List (List Int)} {bound:Int} {st:List Int} {total:Int} (h:StepsOK m bound st total) (h1:1<=m.length):lastOf st+(m.length-1:Nat)<=total:=by
 have hl:=h.len
 have hs:=h.sum
 obtain ⟨p,c,rfl,hp⟩:=snoc_split (p:=st) (k:=m.length-1) (by omega)
 have e:lastOf (p++[c])=c:=by simp [lastOf]
 rw [e]
 have h2:=sum_ge_len p (fun x hx=>h.one x (by simp [hx]))
 simp only [List.sum_append,List.sum_cons,List.sum_nil] at hs
 omega
theorem enum_ok {m:List (List Int)} (h:isRedB m=true) {b:Nat} (hb1:(b:Int)<1073741824) (exact:Bool) (hlen:(collL m b exact).length<=1073741824):EnumOK m b exact:=by
 have hr:=red_ok h
 refine ⟨hr.form,hr.s64,redM_of h,by omega,fun _=>hb1,fun h1=>?_,hlen,fun x hx=>vec_coll hr (by omega) hb1 exact x hx,nodup_canon hr (by omega) exact⟩
 have hd1:1<=ent m 0 0:=E_pos (m:=ent m) hr.pos (k:=0) (by omega)
 have q:((b:Int) / ent m 0 0).toNat<=b:=by
  have :=Int.ediv_le_self (a:=(b:Int)) (ent m 0 0) (by omega)
  omega
 obtain ⟨s1,_⟩:=isq_spec ((b:Int) / ent m 0 0).toNat
 rcases Nat.lt_or_ge (isq ((b:Int) / ent m 0 0).toNat) 1048577 with h2 |h2
 ·omega
 ·have :=Nat.mul_le_mul h2 h2
  omega
end Go.Proofs.YtjehjkipcaohpaaGreat
namespace Go.Proofs.YtjehjkipcaohpaaGreat
open Go.RowKit
theorem few_steps2 {m:List (List Int)} (h:isRedB m=true) {b:Nat} (h4:m.length<=4) (hb:b+2*m.length<=12∨b<=6∨(m.length<=3/\b<=8)):totS m b<=8000:=by
 have hl:=isSmallB_len (red_ok h).small
 have hb12:b<=10:=by omega
 have hc:=(steps_ok h (b:=b) (by omega)).2
 have key:∀n,n<4->∀b,b<11->(b+2*(n+1)<=12∨b<=6∨(n+1<=3/\b<=8))->capT b n<=8000/\isq b<=3000:=by decide+kernel
 have :=key (m.length-1) (by omega) b (by omega) (by omega)
 rcases hc with h |h<;>omega
end Go.Proofs.YtjehjkipcaohpaaGreat
