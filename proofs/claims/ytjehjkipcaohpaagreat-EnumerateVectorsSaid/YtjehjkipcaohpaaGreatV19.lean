/- RefI Tl Fr1 R09a R10a Fr2 R10c -/
import Derived.Test.YtjehjkipcaohpaaGreatV17
import Derived.Test.YtjehjkipcaohpaaGreatProg
import Derived.Test.YtjehjkipcaohpaaGreatShelf
set_option maxHeartbeats 8000000
set_option linter.unusedVariables false
set_option linter.unusedSimpArgs false
set_option linter.constructorNameAsVariable false
namespace Go.Proofs.YtjehjkipcaohpaaGreat
open Go.RowKit
open La
theorem rreduced_ok {w0 w:World} {A:Option Addr} {c n b:Nat} {m:List (List Int)} (h:MatV w0 A m) (h1:m.length=n) (h3:1<=n) (h4:n<=8) (hn:AllLen m n) (hb:BdM b m) (hb1:1<=b) (hbb:b<=1000000) (hp:Pos (ofZ (ent m)) n) (hs:Sym (ofZ (ent m))) (hfu:∀r,r<n->Full (ofZ (ent m)) r) (hlo:∀p,p+1<n->Lov (ofZ (ent m)) p) [hx:Ext w0 w]:
  Calls Tryz.prog 164 #[.slice A n c] w (RetVal w (.bool true)):=by
 have h0:=h.ext hx
 have HLE:=Lib.hid (fun W (e1:Ext w W)=>rLeading_ok (w:=W) (c:=c) h0 h1 h3 h4 hn hb hb1 hbb)
 have HLL:Hid ((leadF m).length=n):=Lib.hid (by rw [leadF_len];exact h1)
 have HSZ:Hid (∀(W1 W:World) (B:Option Addr) (d i j:Nat),i<n->j<i->IntsV W1 B (leadF m)->Ext w W->Ext W1 W->Calls Tryz.prog 149 #[.slice A n c,.slice B n d,.int .i64 i,.int .i64 j] W (RetVal W (.bool true))):=Lib.hid (fun W1 W B d i j hi hj hI e1 e2=>by
  have :=rSized_ok (w:=W) (c:=c) (d:=d) h0 hI h1 h4 hn hb hb1 hbb hi (show j<n by omega)
  rwa [decide_eq_true ((sized_iff h1 hp (show j<n by omega)).2 (hfu i hi j hj))] at this)
 have HLV:Hid (∀(W1 W:World) (B:Option Addr) (d i:Nat),i<n->1<=i->IntsV W1 B (leadF m)->Ext w W->Ext W1 W->Calls Tryz.prog 155 #[.slice A n c,.slice B n d,.int .i64 i] W (RetVal W (.bool true))):=Lib.hid (fun W1 W B d i hi hi1 hI e1 e2=>by
  have :=rLovasz_ok (w:=W) (c:=c) (d:=d) h0 hI h1 h4 hn hb hb1 hbb hi hi1
  obtain ⟨p,rfl⟩:∃p,i=p+1:=⟨i-1,by omega⟩
  rwa [decide_eq_true ((lovasz_iff h1 hp hs hi).2 (hlo p hi))] at this)
 clear hn hb hp hs h1 hfu hlo
 go_enter Tryz.func164,Tryz.ntmps164
 go_wp2_with (go_at_call 106;refine (HLE.out _ inferInstance).mono ?_;rintro e w1 ⟨BD,dD,rfl,hI1,-,-,hs1⟩;rw [HLL.out];have HI:=Lib.hid hI1;clear hI1)
 have hxw1:Ext w w1:=inferInstance
 go_loopw [5,6,14] (fun _ _ i wr=>∃k:Nat,k<=n/\i= .int .i64 k/\Ext w1 wr) (fun _ _ i _=>n-(intOf i).toNat)
 case atStart=>exact ⟨0,by omega,rfl,inferInstance⟩
 case round=>
  obtain ⟨k,hk,rfl,hxr⟩:=hrel
  by_cases hlt:k<n
  ·go_wp2_with fail
   go_loopw [6] (fun s6 wr=>∃q:Nat,q<=k/\s6= .int .i64 q/\Ext w1 wr) (fun s6 _=>k-(intOf s6).toNat)
   case atStart=>exact ⟨0,by omega,rfl,inferInstance⟩
   case round=>
    obtain ⟨q,hq,rfl,hxq⟩:=hrel
    have hxwq:Ext w wr:=hxw1.trans hxq
    by_cases hqk:q<k
    ·have HSB:=Lib.hid (fun W (e1:Ext wr W)=>HSZ.out w1 W BD dD k q hlt hqk HI.out (hxwq.trans e1) (hxq.trans e1))
     go_wp2_with (go_at_call 149;refine (HSB.out _ inferInstance).mono ?_;rintro e w6 ⟨rfl,hs6⟩)
     exact ⟨⟨q+1,by omega,by go_num,inferInstance⟩,by simp [intOf]<;>omega⟩
    ·by_cases hk0:k=0
     ·subst hk0
      go_wp2_with fail
      exact ⟨⟨1,by omega,rfl,hxq⟩,by simp [intOf]<;>omega⟩
     ·have HLB:=Lib.hid (fun W (e1:Ext wr W)=>HLV.out w1 W BD dD k hlt (by omega) HI.out (hxwq.trans e1) (hxq.trans e1))
      have hgt:decide ((0:Int)<(k:Int))=true:=by simp;omega
      have hkpos:0<k:=by omega
      have hkpos2:(0:Int)<(k:Int):=by omega
      clear hk0
      go_wp2_with (go_at_call 155;refine (HLB.out _ inferInstance).mono ?_;rintro e w6 ⟨rfl,hs6⟩)
      exact ⟨⟨k+1,by omega,by go_num,inferInstance⟩,by simp [intOf]<;>omega⟩
  ·have hxwr:Ext w wr:=hxw1.trans hxr
   go_wp2_with fail
   go_ret
   exact ⟨rfl,⟨hxwr.below⟩⟩
theorem LLLed.val {m:List (List Int)} (h:LLLed m):ValM m:=⟨fun i hi j hj=>h.sym i j hi (by omega),lead_pos.2 h.pos⟩
theorem LLLed.detF {m:List (List Int)} (h:LLLed m):detF m<=10000:=by
 rw [det_E h.len1 (fun l hl=>by have :=E_pos h.pos (k:=l) (by omega);omega)]
 exact h.det
theorem LLLed.symO {m:List (List Int)} (h:LLLed m):Sym (ofZ (ent m)):=fun i j=>by
 by_cases hi:i<m.length
 ·by_cases hj:j<m.length
  ·unfold ofZ;rw [h.sym i j hi hj]
  ·unfold ofZ;rw [ent_out h.all (i:=i) (j:=j) (.inr (by omega)),ent_out h.all (i:=j) (j:=i) (.inl (by omega))]
 ·unfold ofZ;rw [ent_out h.all (i:=i) (j:=j) (.inl (by omega)),ent_out h.all (i:=j) (j:=i) (.inr (by omega))]
theorem rIsReduced_ok {w0 w:World} {A:Option Addr} {c n:Nat} {m:List (List Int)} (h:Mat64 w0 A m) (hL:LLLed m) (h1:m.length=n) (h64:Fits64 m) (hb:BdM 199 m) [hx:Ext w0 w]:
  Calls Tryz.prog 104 #[.slice A n c] w (RetVal w (.bool true)):=by
 have h3:1<=n:=by rw [<-h1];exact hL.len1
 have h4:n<=8:=by rw [<-h1];exact hL.len8
 have hn:AllLen m n:=by rw [<-h1];exact hL.all
 have hp:Pos (ofZ (ent m)) n:=by rw [<-h1];exact hL.pos
 have HFI:Hid (∀W,Ext w W->Calls Tryz.prog 95 #[.slice A n c] W (RetOwnIB W n m)):=Lib.hid (fun W e=>by
  have :Ext w0 W:=hx.trans e
  have :=rFromInts_ok (w:=W) (c:=c) h n (by omega) (by omega) h3 (by omega) hn h64
  rwa [h1] at this)
 have HVA:Hid (∀(W1 W:World) (A1:Option Addr) (c1:Nat),MatV W1 A1 m->Ext W1 W->Calls Tryz.prog 87 #[.slice A1 n c1] W (fun e w'=>∃v:Int,e= .returned (.int .i64 v)/\(v=0↔true=true)/\0<=v/\v<=5/\Step W w')):=Lib.hid (fun W1 W A1 c1 hM e=>rValidate_ok true (by simp [hL.val]) hM h1 h3 h4 hn hb (by omega) (by omega))
 have HSM:Hid (∀(W1 W:World) (A1:Option Addr) (c1:Nat),MatV W1 A1 m->Ext W1 W->Calls Tryz.prog 88 #[.slice A1 n c1] W (RetVal W (.bool true))):=Lib.hid (fun W1 W A1 c1 hM e=>by
  have :=rsmall_ok (w:=W) (c:=c1) hM h1 h3 h4 hn hb (by omega) (by omega)
  rwa [decide_eq_true hL.detF] at this)
 have HRE:Hid (∀(W1 W:World) (A1:Option Addr) (c1:Nat),MatV W1 A1 m->Ext W1 W->Calls Tryz.prog 164 #[.slice A1 n c1] W (RetVal W (.bool true))):=Lib.hid (fun W1 W A1 c1 hM e=>rreduced_ok hM h1 h3 h4 hn hb (by omega) (by omega) hp hL.symO (fun r hr=>hL.full r (by omega)) (fun p hp=>hL.lov p (by omega)))
 have HL:=Lib.hid h1
 clear hn hb h64 h1 hp hL
 go_enter Tryz.func104,Tryz.ntmps104
 go_wp2_with (first
  |(go_at_call 95;refine (HFI.out _ inferInstance).mono ?_;rintro e w1 ⟨g1,hs1',c1,rfl,hO1,-,-,hs1⟩;rw [HL.out];have HM:=Lib.hid hO1.mat;clear hO1)
  |(go_at_call 87;refine (HVA.out _ _ _ _ HM.out inferInstance).mono ?_;rintro e w2 ⟨v,rfl,hv,hv0,hv5,hs2⟩;have hvz:v=0:=(hv.2 (by trivial));subst hvz;clear hv hv0 hv5)
  |(go_at_call 88;refine (HSM.out _ _ _ _ HM.out inferInstance).mono ?_;rintro e w3 ⟨rfl,hs3⟩)
  |(go_at_call 164;refine (HRE.out _ _ _ _ HM.out inferInstance).mono ?_;rintro e w4 ⟨rfl,hs4⟩))
 go_ret
 exact ⟨rfl,Step.of _ _⟩
end Go.Proofs.YtjehjkipcaohpaaGreat
namespace Go.Proofs.YtjehjkipcaohpaaGreat
open La
def tLo (m:List (List Int)) (b:Int) (k:Nat) (t:List Int):Int:=vLo (minorsTo m m.length) (lamTo m m.length) k (left (ent m) b (k+1) t) t
def tHi (m:List (List Int)) (b:Int) (k:Nat) (t:List Int):Int:=vHi (minorsTo m m.length) (lamTo m m.length) k (left (ent m) b (k+1) t) t
def tCnt (m:List (List Int)) (b:Int) (k:Nat) (t:List Int):Nat:=(tHi m b k t-tLo m b k t+1).toNat
theorem sumR_shift (n:Nat) (F:Nat->Int):sumR (n+1) F=F 0+sumR n fun i=>F (i+1):=by
 induction n with
 |zero=>simp [sumR]
 |succ n ih=>rw [sumR_succ,ih,sumR_succ];omega
theorem sumZ_sumR (g:Nat->Int) (t:List Int):∀k,sumZ g k t=sumR t.length fun i=>g (k+i)*t.getD i 0:=by
 induction t with
 |nil=>intro k;simp [sumZ,sumR]
 |cons c t ih=>
  intro k
  rw [sumZ,ih (k+1),List.length_cons,sumR_shift]
  congr 1
  refine sumR_congr fun i _=>?_
  rw [show k+1+i=k+(i+1) by omega]
  rfl
theorem disc_eq {m:List (List Int)} (hr:RedOK m) {k:Nat} (hk:k<m.length) (bound:Int) (t:List Int):
  lE (ent m) k (0::t)*lE (ent m) k (0::t)-lastE (ent m) (k+1)*(qE (ent m) k (0::t)-bound*lastE (ent m) k)=lastE (ent m) k*left (ent m) bound (k+1) t:=by
 have hs:Sym (ofZ (ent m)):=sym_of (isSmallB_all hr.small) (fun i j hi hj=>((of_decide_eq_true hr.small).2.2.2 i hi j hj).1)
 have :=qE_step hs (hr.pos.le (by omega:k+1<=m.length)) 0 t
 unfold left
 grind
/-! ## The tails that the reference walks -/
/-! ## Sorted lists of items -/
end Go.Proofs.YtjehjkipcaohpaaGreat
namespace Go.Proofs.YtjehjkipcaohpaaGreat
open Go.RowKit
open La
theorem LLLed.fits {m:List (List Int)} (h:LLLed m):Fits64 m:=(red_ok h.red).form.fits
theorem bd_199 {z:Int} (h1:-262144<=z) (h2:z<=262144):Bd 199 z:=by
 unfold Bd
 have :z.natAbs<=262144:=by omega
 exact Nat.lt_of_le_of_lt this (by decide)
theorem LLLed.bd {m:List (List Int)} (h:LLLed m):BdM 199 m:=fun i j=>by
 by_cases hi:i<m.length
 ·by_cases hj:j<m.length
  ·have hr:m[i]? =some m[i]:=List.getElem?_eq_getElem hi
   have hl:m[i].length=m.length:=h.all _ (List.getElem_mem hi)
   have he:ent m i j=m[i][j]'(by omega):=ent_of hr (List.getElem?_eq_getElem (by omega))
   have :=(redM_of h.red).ent m[i] (List.getElem_mem hi) (m[i][j]'(by omega)) (List.getElem_mem _)
   rw [he]
   exact bd_199 this.1 this.2
  ·rw [ent_out h.all (.inr (by omega))];exact Bd.zero _
 ·rw [ent_out h.all (.inl (by omega))];exact Bd.zero _
def RetIntsL (w:World) (zs:List Int) (e:Ending) (w':World):Prop:=∃B d,e= .returned (.slice B zs.length d)/\IntsV w' B zs/\zs.length<=d/\d<=9223372036854775807/\Step w w'
theorem rColumn_ok {w0 w:World} {A:Option Addr} {c:Nat} {x:List Int} (h:Ints w0 A 2 .i64 x) (h1:x.length<=1000) (hb:∀a∈x,-9223372036854775808<=a/\a<=9223372036854775807) [hx:Ext w0 w]:
  Calls Tryz.prog 162 #[.slice A x.length c] w (RetIntsL w x):=by
 have h0:=h.ext hx
 have HB:=Lib.hid hb
 obtain ⟨n,hn⟩:∃n,n=x.length:=⟨_,rfl⟩
 unfold RetIntsL
 rw [<-hn] at h1 |-
 have HL:=Lib.hid hn
 clear hb h hn
 go_enter Tryz.func162,Tryz.ntmps162
 go_wp2
 go_loopw [3,5,8] (fun s3 _ i wr=>∃(q:Nat) (A1:Option Addr) (c1:Nat) (vs:List Value),q<=n/\i= .int .i64 q/\s3= .slice A1 q c1/\Hid (Own wr w.heap.size 148 2 A1 q c1 vs)/\Hid (VsOf wr vs (x.take q))/\Ext w wr) (fun _ _ i _=>n-(intOf i).toNat)
 case atStart=>exact ⟨0,none,0,[],by omega,rfl,rfl,Lib.hid (Own.nil _ _ _ _),Lib.hid (fun i z hz=>by simp at hz),inferInstance⟩
 case round=>
  obtain ⟨q,A1,c1,vs,hq,rfl,rfl,HO,HV,hxr⟩:=hrel
  by_cases hlt:q<n
  ·have hlx:q<x.length:=by rw [<-HL.out];exact hlt
   obtain ⟨b1,o1,a,rfl,ha,g1,g2⟩:=(h0.ext hxr).at_ hlx
   have hab:=HB.out a (List.mem_of_getElem? ha)
   have hae:Hid (x.getD q 0=a):=Lib.hid (by simp [List.getD,ha])
   have HS:=Lib.hid (fun W=>rSmall_any a hab.1 hab.2 W)
   clear ha
   go_wp2_with fail
   refine (HS.out _).mono ?_
   rintro e w5 ⟨g5,B5,k5,d5,rfl,hz5,hs5⟩
   have hx5:Ext wr w5:=inferInstance
   have HZ5:=Lib.hid hz5
   clear hz5
   go_wp2_with (at_builtin;refine wpList_app _ rfl _ _ 87 rfl w.heap.size 148 (.agg #[.bool false,.slice none 0 0]) 2 32 Tryz.underlying87 infoInt rfl (by omega) (by omega) A1 q c1 vs rfl (HO.out.ext inferInstance) (some ⟨w5.heap.size,0,none⟩) 1 1 [.bool g5,.slice B5 k5 d5] rfl (Arr.new w5 148 #[.bool g5,.slice B5 k5 d5]) rfl (two_int _ _ _ _) (by omega) (by have :=(hxr.trans hx5).size;simp;omega) ?_;intro A6 c6 w6 hown hg;have HO6:=Lib.hid hown;have HG6:=Lib.hid hg;have hx6:Ext w w6:=hg.ext inferInstance (Nat.le_refl _);clear hown hg)
   refine ⟨⟨q+1,A6,c6,vs++[.bool g5,.slice B5 k5 d5],by omega,by go_num,rfl,HO6,Lib.hid ?_,hx6⟩,by simp [intOf]<;>omega⟩
   have hxa:Ext w5 (w5.alloc (.cells #[.bool g5,.slice B5 k5 d5] 148)):=inferInstance
   have hv5:VsOf (w5.alloc (.cells #[.bool g5,.slice B5 k5 d5] 148)) (vs++[.bool g5,.slice B5 k5 d5]) (x.take q++[x.getD q 0]):=VsOf.snoc (HV.out.map fun hz=>(hz.ext hx5).ext hxa) (by rw [HO.out.len,List.length_take,<-HL.out,Nat.min_eq_left hq]) (by rw [hae.out];exact HZ5.out.ext hxa)
   rw [take_snoc (by rw [<-HL.out];exact hlt)]
   exact hv5.grow HG6.out (by decide)
  ·obtain rfl:q=n:=by omega
   go_wp2
   go_ret
   have h2:=HV.out
   rw [List.take_of_length_le (by rw [<-HL.out];exact Nat.le_refl _)] at h2
   exact ⟨A1,c1,rfl,h2.intsV (by rw [HO.out.len,<-HL.out]) HO.out.arr (Ext.refl _),HO.out.cap.1,HO.out.cap.2,hxr.toStep⟩
def stM (m:List (List Int)) (k:Nat):List (List Int):=tab (fun i j=>E (ent m) k (k+i) (k+j)) (m.length-k) (m.length-k)
theorem stM_len (m:List (List Int)) (k:Nat):(stM m k).length=m.length-k:=tab_length _ _ _
theorem rStage_ok {w0 w:World} {A:Option Addr} {c n b k:Nat} {m:List (List Int)} (h:MatV w0 A m) (h1:m.length=n) (h4:n<=8) (hn:AllLen m n) (hb:BdM b m) (hb1:1<=b) (hbb:b<=1000000) (hk:k<n) (hp:∀l,l<k->E (ent m) l l l≠0) [hx:Ext w0 w]:
  Calls Tryz.prog 166 #[.slice A n c,.int .i64 k] w (RetOwnI w (n-k) (stM m k)):=by
 have h0:=h.ext hx
 obtain ⟨r,hr⟩:∃r,r=n-k:=⟨_,rfl⟩
 have HSE:Hid (∀(W1 W2 W:World) (A1 A2:Option Addr) (c1 c2 i j:Nat),i<r->j<r->Ints W1 A1 3 .i64 (asI (firstL k (k+i)))->Ints W2 A2 3 .i64 (asI (firstL k (k+j)))->Ext w W->Ext W1 W->Ext W2 W->Calls Tryz.prog 167 #[.slice A n c,.slice A1 (k+1) c1,.slice A2 (k+1) c2] W (RetMat W (selM m (firstL k (k+i)) (firstL k (k+j))))):=Lib.hid (fun W1 W2 W A1 A2 c1 c2 i j hi hj e1 e2 x0 x1 x2=>by
  have :=rSelect_ok (w:=W) (c:=c) (cR:=c1) (cC:=c2) h0 e1 e2 hn (by rw [firstL_len];omega) (by rw [firstL_len];omega) (by rw [h1];exact firstL_lt (by omega) (by omega)) (firstL_lt (by omega) (by omega))
  rw [h1,firstL_len,firstL_len] at this
  exact this)
 have HDT:Hid (∀(W1 W:World) (A1:Option Addr) (c1 i j:Nat),i<r->j<r->MatV W1 A1 (selM m (firstL k (k+i)) (firstL k (k+j)))->Ext W1 W->Calls Tryz.prog 146 #[.slice A1 (k+1) c1] W (RetInt W (E (ent m) k (k+i) (k+j)))):=Lib.hid (fun W1 W A1 c1 i j hi hj hM e1=>by
  rw [<-minor_E hp (k+i) (k+j)]
  exact rDetSel_ok hM (by omega) hb hb1 hbb)
 have HSL:Hid (∀i j,(selM m (firstL k i) (firstL k j)).length=k+1):=Lib.hid (fun i j=>by rw [selM_len,firstL_len])
 have HFL:Hid (∀i,(asI (firstL k i)).length=k+1):=Lib.hid (fun i=>by rw [asI_len,firstL_len])
 have HFI:Hid (∀(W:World) (i:Nat),Calls Tryz.prog 168 #[.int .i64 k,.int .i64 i] W (RetIL W (asI (firstL k i)))):=Lib.hid (fun W i=>rfirst_ok k i (by omega))
 have HST:Hid (stM m k=tab (fun i j=>E (ent m) k (k+i) (k+j)) r r):=Lib.hid (by unfold stM;rw [h1,hr])
 rw [HST.out,<-hr]
 obtain ⟨F,hF⟩:∃F:Nat->Nat->Int,F=fun i j=>E (ent m) k (k+i) (k+j):=⟨_,rfl⟩
 rw [<-hF]
 have hFij:∀i j,E (ent m) k (k+i) (k+j)=F i j:=fun i j=>by rw [hF]
 have HDT2:Hid (∀(W1 W:World) (A1:Option Addr) (c1 i j:Nat),i<r->j<r->MatV W1 A1 (selM m (firstL k (k+i)) (firstL k (k+j)))->Ext W1 W->Calls Tryz.prog 146 #[.slice A1 (k+1) c1] W (RetInt W (F i j))):=Lib.hid (fun W1 W A1 c1 i j hi hj hM e1=>by
  have :=HDT.out W1 W A1 c1 i j hi hj hM e1
  rwa [hFij] at this)
 have hnk:(n:Int)-(k:Int)=(r:Int):=by omega
 have hrw:IntKind.i64.wrap ((n:Int)-k)=(r:Int):=by rw [show (n:Int)-k=(r:Int) by omega];exact IntWalk.i64_in _ (by omega)
 clear hn hb h1 hp HDT HST hF hFij hr
 go_enter Tryz.func166,Tryz.ntmps166
 go_wp2_with (go_at_call 148;refine (rZero_any r r (by omega) (by omega)).mono ?_;rintro e w3 ⟨g,hs,cz,rfl,hO,hcz1,hcz2,hs2⟩;rw [tab_length] at hcz1 |-;have HO:=Lib.hid hO;clear hO)
 have hx3:Ext w w3:=inferInstance
 go_loopw [7,8,18,26] (fun _ _ i _ wr=>∃q:Nat,q<=r/\i= .int .i64 q/\Hid (OwnI wr w.heap.size g r hs (tab (partF F q 0) r r))/\Ext w wr) (fun _ _ i _ _=>r-(intOf i).toNat)
 case atStart=>exact ⟨0,by omega,rfl,Lib.hid (by rw [partF_zero];exact HO.out),inferInstance⟩
 case round=>
  obtain ⟨i,hi,rfl,HO1,hxr⟩:=hrel
  obtain ⟨wo,rfl⟩:∃wo:World,wo=wr:=⟨_,rfl⟩
  by_cases hlt:i<r
  ·obtain ⟨b0,c0,hp0,d1,d2,d3,d4,d5,d6⟩:=HO1.out.hdr (i:=i) (by rw [tab_length];exact hlt)
   clear hp0
   go_wp2_with fail
   go_loopw [8,26] (fun _ j wr=>∃q:Nat,q<=r/\j= .int .i64 q/\Hid (OwnI wr w.heap.size g r hs (tab (partF F i q) r r))/\Ext w wr) (fun _ j _=>r-(intOf j).toNat)
   case atStart=>exact ⟨0,by omega,rfl,HO1,inferInstance⟩
   case round=>
    obtain ⟨q,hq,rfl,HO2,hxq⟩:=hrel
    by_cases hltq:q<r
    ·obtain ⟨b1,c1,hp1,f1,f2,f3,f4,f5,f6⟩:=HO2.out.hdr (i:=i) (by rw [tab_length];exact hlt)
     have HP1:=Lib.hid hp1
     have HX:=Lib.hid (fun W hh=>HO2.out.hdrX hp1 (by rw [tab_length];exact hlt) W hh)
     have hlo:=HO2.out.lo_row hp1
     have hnw:New b1 w:=⟨hlo⟩
     have HE:Hid (∀W,Ext wr W->∃s B k' d,W.cell? ⟨b1,q*2,none⟩=some (.bool s)/\W.cell? ⟨b1,q*2+1,none⟩=some (.slice B k' d)/\W.frozen? ⟨b1,q*2,none⟩=false/\W.frozen? ⟨b1,q*2+1,none⟩=false/\b1<W.heap.size):=Lib.hid (fun W hh=>by
      obtain ⟨s,B,k',d,a1,a2,-,a4,a5⟩:=(HO2.out.ext hh).entry (i:=i) HP1.out (by rw [tab_length];exact hlt) hltq
      exact ⟨s,B,k',d,a1,a2,a4,a5,Nat.lt_of_lt_of_le f5 hh.size⟩)
     have hki:IntKind.i64.wrap ((k:Int)+(i:Int))=((k+i:Nat):Int):=by rw [show (k:Int)+(i:Int)=((k+i:Nat):Int) by simp];exact IntWalk.i64_in _ (by omega)
     have hkq:IntKind.i64.wrap ((k:Int)+(q:Int))=((k+q:Nat):Int):=by rw [show (k:Int)+(q:Int)=((k+q:Nat):Int) by simp];exact IntWalk.i64_in _ (by omega)
     have HF1:=Lib.hid (fun W=>HFI.out W (k+i))
     have HF2:=Lib.hid (fun W=>HFI.out W (k+q))
     clear hp1
     go_wp2_with fail
     go_region_held3 (fun w'=>w'.cell? ⟨g,i,none⟩=some (.slice (some ⟨b1,0,none⟩) r c1))
      (first |exact (HX.out _ inferInstance).1 |exact (HX.out _ inferInstance).2 _ _ _ _)
      (first
       |(have hh:=hI6;clear hh;go_at_call 168;refine (HF2.out _).mono ?_;rintro e w7 ⟨A7,c7,rfl,hI7,-,-,hs7⟩;rw [HFL.out])
       |(go_at_call 168;refine (HF1.out _).mono ?_;rintro e w6 ⟨A6,c6,rfl,hI6,-,-,hs6⟩;rw [HFL.out])
       |(go_at_call 167;refine (HSE.out _ _ _ _ _ _ _ i q hlt hltq hI6 hI7 inferInstance inferInstance inferInstance).mono ?_;rintro e w8 ⟨A8,c8,rfl,hM8,-,-,hs8⟩;rw [HSL.out])
       |(go_at_call 146;refine (HDT2.out _ _ _ _ i q hlt hltq hM8 inferInstance).mono ?_;rintro e w5 ⟨g5,B5,k5,n5,rfl,hz5,hs5⟩;obtain ⟨s6,B6,k6,n6,u1,u2,u3,u4,u5⟩:=HE.out w5 inferInstance))
     go_wp2_with fail
     refine ⟨⟨q+1,by omega,by go_num,Lib.hid ?_,?_⟩,by simp [intOf]<;>omega⟩
     ·have hO5:=(HO2.out.ext (inferInstance:Ext wr w5)).set HP1.out (by rw [tab_length];exact hlt) hltq hz5
      rw [partF_set hlt hltq] at hO5
      exact hO5
     ·exact ((inferInstance:Ext w w5).setCell (p:=⟨b1,q*2,none⟩) hlo _).setCell (p:=⟨b1,q*2+1,none⟩) hlo _
    ·obtain rfl:q=r:=by omega
     go_wp2_with fail
     exact ⟨⟨i+1,by omega,by go_num,Lib.hid (by rw [<-partF_next];exact HO2.out),hxq⟩,by simp [intOf]<;>omega⟩
  ·obtain rfl:i=r:=by omega
   go_wp2_with fail
   go_ret
   have h:=HO1.out
   rw [partF_all] at h
   exact ⟨g,hs,cz,by rw [tab_length];rfl,h,by rw [tab_length];exact hcz1,hcz2,hxr.toStep⟩
def RetStages (w:World) (m:List (List Int)) (e:Ending) (w':World):Prop:=∃B d,e= .returned (.tuple #[.slice B m.length d,.bool true])/\StV w' B ((List.range m.length).map (stM m))/\m.length<=d/\d<=9223372036854775807/\Step w w'
def StHd (w:World) (m:List (List Int)) (q:Nat) (vs:List Value):Prop:=vs.length=q/\∀i,i<q->∃B c,vs[i]? =some (.slice B (m.length-i) c)/\MatV w B (stM m i)/\m.length-i<=c/\c<=9223372036854775807
theorem StHd.map {w w':World} {m:List (List Int)} {q:Nat} {vs:List Value} (h:StHd w m q vs) (hk:∀{B:Option Addr} {M:List (List Int)},MatV w B M->MatV w' B M):StHd w' m q vs:=⟨h.1,fun i hi=>by
 obtain ⟨B,c,a1,a2,a3⟩:=h.2 i hi
 exact ⟨B,c,a1,hk a2,a3⟩⟩
theorem StHd.snoc {w:World} {m:List (List Int)} {q:Nat} {vs:List Value} (h:StHd w m q vs) {B:Option Addr} {c:Nat} (hM:MatV w B (stM m q)) (h1:m.length-q<=c) (h2:c<=9223372036854775807):StHd w m (q+1) (vs++[.slice B (m.length-q) c]):=by
 refine ⟨by simp [h.1],fun i hi=>?_⟩
 rcases Nat.lt_or_ge i q with hlt |hge
 ·obtain ⟨B',c',a1,a2,a3⟩:=h.2 i hlt
  exact ⟨B',c',by rw [List.getElem?_append_left (by rw [h.1];exact hlt)];exact a1,a2,a3⟩
 ·obtain rfl:i=q:=by omega
  exact ⟨B,c,by rw [List.getElem?_append_right (by rw [h.1];exact Nat.le_refl _),h.1,Nat.sub_self];rfl,hM,h1,h2⟩
theorem StHd.stV {w:World} {m:List (List Int)} {vs:List Value} {A:Option Addr} (h:StHd w m m.length vs) (ha:Arr w A 79 vs):StV w A ((List.range m.length).map (stM m)):=by
 refine ⟨vs,by simp [h.1],ha,fun i M hM=>?_⟩
 rw [List.getElem?_map] at hM
 cases hr:(List.range m.length)[i]? with
 |none=>rw [hr] at hM;cases hM
 |some j=>
  have hij:i=j/\i<m.length:=by
   obtain ⟨h1,h2⟩:=List.getElem?_eq_some_iff.1 hr
   simp at h1 h2
   exact ⟨h2,h1⟩
  obtain ⟨rfl,hi⟩:=hij
  rw [hr] at hM
  injection hM with hM
  subst hM
  obtain ⟨B,c,a1,a2,a3⟩:=h.2 i hi
  exact ⟨B,c,by rw [stM_len];exact a1,a2,by rw [stM_len];exact a3.1,a3.2⟩
set_option maxRecDepth 20000 in
theorem rStages_ok {w0 w:World} {A:Option Addr} {c n b:Nat} {m:List (List Int)} (h:MatV w0 A m) (h1:m.length=n) (h3:1<=n) (h4:n<=8) (hn:AllLen m n) (hb:BdM b m) (hb1:1<=b) (hbb:b<=1000000) (hp:Pos (ofZ (ent m)) n) [hx:Ext w0 w]:
  Calls Tryz.prog 105 #[.slice A n c] w (RetStages w m):=by
 have h0:=h.ext hx
 have HLE:=Lib.hid (fun W (e1:Ext w W)=>rLeading_ok (w:=W) (c:=c) h0 h1 h3 h4 hn hb hb1 hbb)
 have HLL:Hid ((leadF m).length=n):=Lib.hid (by rw [leadF_len];exact h1)
 have HPX:Hid (∀i,i<n->0<(leadF m).getD i 0):=Lib.hid (fun i hi=>by
  rw [lead_get (by rw [h1];exact hp) (by rw [h1];exact hi)]
  exact E_pos hp hi)
 have HBX:Hid (BdL (256*(b+1)) (leadF m)):=Lib.hid (leadF_bd (by omega) hb1 hb)
 have HSG:Hid (∀(W:World) (k:Nat),k<n->Ext w W->Calls Tryz.prog 166 #[.slice A n c,.int .i64 k] W (RetOwnI W (n-k) (stM m k))):=Lib.hid (fun W k hk e=>rStage_ok h0 h1 h4 hn hb hb1 hbb hk (fun l hl=>by have :=E_pos hp (show l<n by omega);omega))
 have HSL:Hid (∀k,(stM m k).length=n-k):=Lib.hid (fun k=>by rw [stM_len,h1])
 unfold RetStages
 have HM1:=Lib.hid h1
 rw [h1]
 have hbk:b<=1000000:=hbb
 have hw:IntKind.i64.wrap ((n:Int)-1)=((n-1:Nat):Int):=by rw [show (n:Int)-1=((n-1:Nat):Int) by omega];exact IntWalk.i64_in _ (by omega)
 clear hn hb hp h1 h
 generalize leadF m=ds at*
 go_enter Tryz.func105,Tryz.ntmps105
 go_wp2_with (go_at_call 106;refine (HLE.out _ inferInstance).mono ?_;rintro e w1 ⟨BD,dD,rfl,hI1,hd1,hd2,hs1⟩;rw [HLL.out] at hd1 |-;have HI:=Lib.hid hI1;clear hI1)
 have hxw1:Ext w w1:=inferInstance
 go_loopw [7,23] (fun _ i wr=>∃q:Nat,q<=n-1/\i= .int .i64 q/\Ext w1 wr) (fun _ i _=>n-1-(intOf i).toNat)
 case atStart=>exact ⟨0,by omega,rfl,inferInstance⟩
 case round=>
  obtain ⟨q,hq,rfl,hxr⟩:=hrel
  have hxwr:Ext w wr:=hxw1.trans hxr
  by_cases hlt:q<n-1
  ·obtain ⟨bb,ob,g,B,k,d,rfl,y1,y2,hz,hb2⟩:=(HI.out.ext hxr).atD (i:=q) (by rw [HLL.out];omega)
   have hpos:=HPX.out q (by omega)
   have hlen:=hz.bd (HBX.out q) (by omega)
   generalize ds.getD q 0=z at*
   have hcz:(cmpI z 0==0)=false:=by rw [cmpI_gt hpos];rfl
   have HS:Hid (∀W,Ext wr W->Calls Tryz.prog 165 #[.agg #[.bool g,.slice B k d]] W (RetVal W (.int .i64 (cmpI z 0)))):=Lib.hid (fun W e=>rSign_any hz (by omega))
   clear hz hpos
   generalize cmpI z 0=cz at*
   go_wp2_with (go_at_call 165;refine (HS.out _ inferInstance).mono ?_;rintro e w2 ⟨rfl,hs2⟩)
   exact ⟨⟨q+1,by omega,by go_num,inferInstance⟩,by simp [intOf]<;>omega⟩
  ·obtain rfl:q=n-1:=by omega
   clear hlt hq
   go_wp2_with fail
   go_loopw [8,9,33] (fun s8 _ i wr'=>∃(q:Nat) (A1:Option Addr) (c1:Nat) (vs:List Value),q<=n/\i= .int .i64 q/\s8= .slice A1 q c1/\Hid (Own wr' w.heap.size 79 1 A1 q c1 vs)/\Hid (StHd wr' m q vs)/\Ext w wr') (fun _ _ i _=>n-(intOf i).toNat)
   case atStart=>exact ⟨0,none,0,[],by omega,rfl,rfl,Lib.hid (Own.nil _ _ _ _),Lib.hid ⟨rfl,fun i hi=>absurd hi (by omega)⟩,hxwr⟩
   case round=>
    obtain ⟨k,A1,c1,vs,hk,rfl,rfl,HO,HV,hxk⟩:=hrel
    by_cases hlt:k<n
    ·have HS:Hid (∀W,Ext w W->Calls Tryz.prog 166 #[.slice A n c,.int .i64 k] W (RetMat W (stM m k))):=Lib.hid (fun W e=>(HSG.out W k hlt e).mono fun _ _ h=>h.mat)
     have hkl:=HSL.out k
     go_wp2_with fail
     refine (HS.out _ inferInstance).mono ?_
     rintro e w5 ⟨B5,c5,rfl,hM5,hc51,hc52,hs5⟩
     rw [hkl] at hc51 |-
     have hx5:Ext wr w5:=inferInstance
     have HM5:=Lib.hid hM5
     clear hM5 hkl
     go_wp2_with (at_builtin;refine wpList_app _ rfl _ _ 86 rfl w.heap.size 79 (.slice none 0 0) 1 24 Tryz.underlying86 infoSlSlInt rfl (by omega) (by omega) A1 k c1 vs rfl (HO.out.ext inferInstance) (some ⟨w5.heap.size,0,none⟩) 1 1 [.slice B5 (n-k) c5] rfl (Arr.new w5 79 #[.slice B5 (n-k) c5]) rfl (one_sl _ _ _) (by omega) (by have :=(hxk.trans hx5).size;simp;omega) ?_;intro A6 c6 w6 hown hg;have HO6:=Lib.hid hown;have HG6:=Lib.hid hg;have hx6:Ext w w6:=hg.ext inferInstance (Nat.le_refl _);clear hown hg)
     refine ⟨⟨k+1,A6,c6,vs++[.slice B5 (n-k) c5],by omega,by go_num,rfl,HO6,Lib.hid ?_,hx6⟩,by simp [intOf]<;>omega⟩
     have hxa:Ext w5 (w5.alloc (.cells #[.slice B5 (n-k) c5] 79)):=inferInstance
     have h6:=StHd.snoc (m:=m) (HV.out.map fun h=>(h.ext hx5).ext hxa) (HM5.out.ext hxa) (c:=c5) (by rw [HM1.out];exact hc51) hc52
     rw [HM1.out] at h6
     exact h6.map fun h=>h.grow HG6.out (by decide) (by decide) (by decide)
    ·obtain rfl:k=n:=by omega
     go_wp2_with fail
     go_ret2
     have hst:=HV.out
     rw [<-HM1.out] at hst
     have hst2:=hst.stV HO.out.arr
     rw [HM1.out] at hst2
     exact ⟨A1,c1,rfl,hst2,HO.out.cap.1,HO.out.cap.2,hxk.toStep⟩
end Go.Proofs.YtjehjkipcaohpaaGreat
namespace Go.Proofs.YtjehjkipcaohpaaGreat
open La
def fB (m:List (List Int)) (s i j:Nat):Int:=E (ent m) s (s+i) (s+j)
def fL (m:List (List Int)) (s:Nat) (t:List Int):Int:=sumR t.length fun j=>fB m s 0 (j+1)*t.getD j 0
def fC (m:List (List Int)) (s:Nat) (t:List Int):Int:=sumR t.length fun i=>t.getD i 0*sumR t.length fun j=>fB m s (i+1) (j+1)*t.getD j 0
theorem fL_sum (m:List (List Int)) (s:Nat) (t:List Int):fL m s t=sumZ (E (ent m) s s) (s+1) t:=by
 rw [sumZ_sumR]
 refine sumR_congr fun j _=>?_
 unfold fB
 rw [show s+1+j=s+(j+1) by omega,Nat.add_zero]
theorem fL_eq (m:List (List Int)) (s:Nat) (t:List Int):fL m s t=lE (ent m) s (0::t):=by
 rw [fL_sum]
 unfold lE
 rw [sumZ,Int.mul_zero,Int.zero_add]
theorem fC_eq (m:List (List Int)) (s:Nat) (t:List Int):fC m s t=qE (ent m) s (0::t):=by
 unfold qE quadZ
 rw [sumZ,Int.mul_zero,Int.zero_add,sumZ_sumR]
 unfold fC
 refine sumR_congr fun i _=>?_
 rw [Int.mul_comm]
 congr 1
 rw [sumZ,Int.mul_zero,Int.zero_add,sumZ_sumR]
 refine sumR_congr fun j _=>?_
 unfold fB
 rw [show s+1+j=s+(j+1) by omega,show s+1+i=s+(i+1) by omega]
theorem ival_eq {m:List (List Int)} (hr:RedOK m) {s:Nat} (hs:s<m.length) (b:Int) (t:List Int) (ht:t.length=m.length-1-s) (h0:0<=left (ent m) b (s+1) t):
  0<=fL m s t*fL m s t-fB m s 0 0*(fC m s t-b*lastE (ent m) s)/\
  ((isq (fL m s t*fL m s t-fB m s 0 0*(fC m s t-b*lastE (ent m) s)).toNat:Int)-fL m s t) / fB m s 0 0=tHi m b s t/\
  -(((isq (fL m s t*fL m s t-fB m s 0 0*(fC m s t-b*lastE (ent m) s)).toNat:Int)+fL m s t) / fB m s 0 0)=tLo m b s t/\0<fB m s 0 0:=by
 have hp:=E_pos hr.pos hs
 have hb:fB m s 0 0=lastE (ent m) (s+1):=rfl
 have hd:fL m s t*fL m s t-fB m s 0 0*(fC m s t-b*lastE (ent m) s)=vSq (minorsTo m m.length) s (left (ent m) b (s+1) t):=by
  rw [fL_eq,fC_eq,hb,disc_eq hr hs,vSq,minorsTo_get (by omega)]
 have hl:0<lastE (ent m) s:=lastE_pos hr.pos (by omega)
 rw [hd]
 have hv:vSh (lamTo m m.length) s t=fL m s t:=by rw [vSh_eq hs t ht,fL_sum]
 have hD:vD (minorsTo m m.length) (s+1)=fB m s 0 0:=by rw [minorsTo_get (by omega)];rfl
 refine ⟨?_,?_,?_,hp⟩
 ·unfold vSq
  rw [minorsTo_get (by omega)]
  exact Int.mul_nonneg (Int.le_of_lt hl) h0
 ·unfold tHi vHi vR
  rw [hv,hD]
 ·unfold tLo vLo vR
  rw [hv,hD]
/-! ## The numbers of tails -/
def ysT (m:List (List Int)) (b:Int) (k:Nat) (t:List Int):List (Int×Int):=visitY (minorsTo m m.length) (lamTo m m.length) m.length k (left (ent m) b (k+1) t) t
def ysK (m:List (List Int)) (b:Int) (k:Nat) (t:List Int) (q:Nat):List (Int×Int):=(List.range q).flatMap fun (j:Nat)=>ysT m b k ((tLo m b (k+1) t+(j:Int))::t)
theorem ysK_succ (m:List (List Int)) (b:Int) (k:Nat) (t:List Int) (q:Nat):ysK m b k t (q+1)=ysK m b k t q++ysT m b k ((tLo m b (k+1) t+(q:Int))::t):=by
 unfold ysK
 rw [List.range_succ,List.flatMap_append,List.flatMap_singleton]
theorem ysT_zero (m:List (List Int)) (b:Int) (t:List Int):ysT m b 0 t=[((m.length:Int),tHi m b 0 t-tLo m b 0 t+1)]:=rfl
theorem ysT_succ {m:List (List Int)} (hr:RedOK m) {k:Nat} (hk:k+1<m.length) (b:Int) (t:List Int) (ht:t.length=m.length-1-(k+1)):
  ysT m b (k+1) t=((m.length:Int)-(k+1:Nat),tHi m b (k+1) t-tLo m b (k+1) t+1)::ysK m b k t (tCnt m b (k+1) t):=by
 unfold ysT ysK tCnt
 rw [visitY]
 congr 1
 refine congrArg (fun F=>List.flatMap F _) ?_
 funext j
 rw [vRest_eq hr (by omega) b t ht]
 rfl
def addY (cs:List Int) (ys:List (Int×Int)):List Int:=(List.range cs.length).map fun i=>cs.getD i 0+atY ys i
theorem addY_len (cs:List Int) (ys:List (Int×Int)):(addY cs ys).length=cs.length:=by simp [addY]
theorem addY_get {cs:List Int} {ys:List (Int×Int)} {i:Nat} (h:i<cs.length):(addY cs ys).getD i 0=cs.getD i 0+atY ys i:=by
 simp [addY,List.getD,h]
theorem addY_nil (cs:List Int):addY cs []=cs:=by
 apply List.ext_getElem
 ·exact addY_len _ _
 ·intro i h1 h2
  simp [addY,atY,h2]
theorem addY_append (cs:List Int) (a b:List (Int×Int)):addY (addY cs a) b=addY cs (a++b):=by
 unfold addY
 simp only [List.length_map,List.length_range]
 refine List.map_congr_left fun i hi=>?_
 have hi':i<cs.length:=by simpa using hi
 rw [atY_append]
 simp [List.getD,hi']
 omega
theorem addY_sum {cs:List Int} {ys:List (Int×Int)} (h:∀p∈ys,1<=p.1/\p.1<=(cs.length:Int)):(addY cs ys).sum=cs.sum+totY ys:=by
 unfold addY
 rw [sum_map_add (List.range cs.length) (fun i=>cs.getD i 0) (atY ys),sum_at _ _ h]
 congr 2
 apply List.ext_getElem
 ·simp
 ·intro i h1 h2
  simp [h2]
theorem addY_one {cs:List Int} {i:Nat} {z:Int} (h:i<cs.length):addY cs [((i:Int)+1,z)]=cs.set i (cs.getD i 0+z):=by
 apply List.ext_getElem
 ·simp [addY]
 ·intro j h1 h2
  have hj:j<cs.length:=by simpa using h2
  simp only [addY,List.getElem_map,List.getElem_range,atY,List.getElem_set]
  by_cases e:i=j
  ·subst e
   rw [if_pos (by omega),if_pos rfl]
   simp [h]
  ·rw [if_neg (by omega),if_neg e]
   simp [hj]
theorem ysT_ok {m:List (List Int)} (hr:RedOK m) {b:Int} (hb:0<=b) (hb1:b<1073741824) {k:Nat} {t:List Int} (hk:k<m.length) (ht:t.length=m.length-1-k) (h0:0<=left (ent m) b (k+1) t):∀p∈ysT m b k t,0<=p.2/\1<=p.1/\p.1<=(m.length:Int):=visit_ok hr hb hb1 k t hk ht h0
theorem ysK_ok {m:List (List Int)} (hr:RedOK m) {b:Int} (hb:0<=b) (hb1:b<1073741824) {k:Nat} {t:List Int} (hk:k+1<m.length) (ht:t.length=m.length-1-(k+1)) (h0:0<=left (ent m) b (k+2) t) {q:Nat} (hq:q<=tCnt m b (k+1) t):∀p∈ysK m b k t q,0<=p.2/\1<=p.1/\p.1<=(m.length:Int):=fun p hp=>by
 unfold ysK at hp
 rw [List.mem_flatMap] at hp
 obtain ⟨j,hj,hp⟩:=hp
 rw [List.mem_range] at hj
 exact ysT_ok hr hb hb1 (by omega) (by simp [ht];omega) (kid hr t (by omega) ht h0 (j:=j) (by unfold tCnt tHi tLo at hq;unfold vCnt;omega)) p hp
theorem totY_nonneg {ys:List (Int×Int)} (h:∀p∈ys,0<=p.2):0<=totY ys:=by
 induction ys with
 |nil=>exact Int.le_refl _
 |cons p ys ih=>
  have :=h p (by simp)
  have :=ih (fun q hq=>h q (by simp [hq]))
  simp only [totY];omega
theorem totK_mono {m:List (List Int)} (hr:RedOK m) {b:Int} (hb:0<=b) (hb1:b<1073741824) {k:Nat} {t:List Int} (hk:k+1<m.length) (ht:t.length=m.length-1-(k+1)) (h0:0<=left (ent m) b (k+2) t) {p q:Nat} (hpq:p<=q) (hq:q<=tCnt m b (k+1) t):totY (ysK m b k t p)<=totY (ysK m b k t q):=by
 induction q with
 |zero=>obtain rfl:p=0:=by omega
        exact Int.le_refl _
 |succ q ih=>
  rcases Nat.lt_or_ge p (q+1) with h |h
  ·have h1:=ih (by omega) (by omega)
   rw [ysK_succ,totY_append]
   have h2:=totY_nonneg (fun p hp=>(ysT_ok hr hb hb1 (b:=b) (k:=k) (t:=(tLo m b (k+1) t+(q:Int))::t) (by omega) (by simp [ht];omega) (kid hr t (by omega) ht h0 (j:=q) (by unfold tCnt tHi tLo at hq;unfold vCnt;omega)) p hp).1)
   omega
  ·obtain rfl:p=q+1:=by omega
   exact Int.le_refl _
theorem ends_small {m:List (List Int)} (hr:RedOK m) {b:Int} (hb:0<=b) (hb1:b<1073741824) {k:Nat} {t:List Int} (hk:k<m.length) (ht:t.length=m.length-1-k) (h0:0<=left (ent m) b (k+1) t):
  0<=tHi m b k t-tLo m b k t+1/\tHi m b k t-tLo m b k t+1<=1099511627776/\-1099511627776<=tLo m b k t/\tLo m b k t<=1099511627776/\-1099511627776<=tHi m b k t/\tHi m b k t<=1099511627776:=by
 have hv:=vCnt_bounds (hr.num hb hb1) (lev_of hr hb hb1 t k hk ht h0)
 have he:=vEnds (hr.num hb hb1) (lev_of hr hb hb1 t k hk ht h0)
 have hS:=absSum_bound (hr.num hb hb1) (lev_of hr hb hb1 t k hk ht h0)
 have hR:=vR_bounds (hr.num hb hb1) (lev_of hr hb hb1 t k hk ht h0)
 unfold tHi tLo
 unfold vCnt at hv
 refine ⟨hv.1,hv.2,?_⟩
 omega
def ysR (m:List (List Int)) (b:Int):Nat->List Int->List (Int×Int)
 |0,_=>[]
 |k+1,t=>ysK m b k t (tCnt m b (k+1) t)
theorem ysT_cons {m:List (List Int)} (hr:RedOK m) {k:Nat} (hk:k<m.length) (b:Int) (t:List Int) (ht:t.length=m.length-1-k):
  ysT m b k t=((m.length:Int)-(k:Nat),tHi m b k t-tLo m b k t+1)::ysR m b k t:=by
 cases k with
 |zero=>rw [ysT_zero];simp [ysR]
 |succ k=>exact ysT_succ hr hk b t ht
theorem ends_one {m:List (List Int)} (hr:RedOK m) (h1:m.length=1) {b:Int} (hb:0<=b):tLo m b 0 []=-((isq (b / ent m 0 0).toNat:Nat):Int)/\tHi m b 0 []=((isq (b / ent m 0 0).toNat:Nat):Int):=by
 have hpos:1<=ent m 0 0:=by
  have :=lastE_pos hr.pos (k:=1) (by omega)
  have e:lastE (ent m) 1=ent m 0 0:=rfl
  omega
 obtain ⟨hin,hout⟩:=isq_bounds hpos hb
 have key:∀c:Int,(tLo m b 0 []<=c/\c<=tHi m b 0 [])↔ent m 0 0*c*c<=b:=fun c=>by
  have h:=inv_iff hr (k:=0) (by omega) (bound:=b) [] (by simp [h1]) (by have :=top_nonneg hr hb;rw [h1] at this;exact this) c
  refine h.trans ?_
  rw [left_nrm (isSmallB_all hr.small) b [c] (by simp [h1])]
  have e:nrm m [c]=ent m 0 0*c*c:=by
   rw [nrm_eq (isSmallB_all hr.small) _ (by simp [h1])]
   simp [qE,quadZ,sumZ,E,ent]
  rw [e]
  omega
 obtain ⟨r,hrr⟩:∃r:Nat,isq (b / ent m 0 0).toNat=r:=⟨_,rfl⟩
 rw [hrr] at hin hout |-
 have a1:ent m 0 0*(r:Int)*r<=b:=by
  by_cases h0:r=0
  ·subst h0;simpa using hb
  ·exact hin r (by omega) (by omega)
 have a2:ent m 0 0*(-(r:Int))*(-(r:Int))<=b:=by
  have :ent m 0 0*(-(r:Int))*(-(r:Int))=ent m 0 0*(r:Int)*r:=by grind
  omega
 have a3:¬ent m 0 0*(-((r:Int)+1))*(-((r:Int)+1))<=b:=by
  have :ent m 0 0*(-((r:Int)+1))*(-((r:Int)+1))=ent m 0 0*((r:Int)+1)*((r:Int)+1):=by grind
  omega
 have b1:=(key r).2 a1
 have b2:=(key (-(r:Int))).2 a2
 have b3:¬(tLo m b 0 []<=-((r:Int)+1)/\-((r:Int)+1)<=tHi m b 0 []):=fun h=>a3 ((key (-((r:Int)+1))).1 h)
 have b4:¬(tLo m b 0 []<=(r:Int)+1/\(r:Int)+1<=tHi m b 0 []):=fun h=>(show ¬ent m 0 0*((r:Int)+1)*((r:Int)+1)<=b by omega) ((key ((r:Int)+1)).1 h)
 constructor<;>omega
theorem tails_ys {m:List (List Int)} (hr:RedOK m) {b:Int} (hb:0<=b):tailsY (minorsTo m m.length) (lamTo m m.length) m.length b=ysT m b (m.length-1) []:=by
 have hl:=isSmallB_len hr.small
 unfold tailsY
 by_cases h1:m.length=1
 ·rw [if_pos h1]
  have e:vD (minorsTo m m.length) 1=ent m 0 0:=by rw [minorsTo_get (by omega)];rfl
  rw [e]
  obtain ⟨a1,a2⟩:=ends_one hr h1 hb
  have :ysT m b (m.length-1) []=[((m.length:Int),tHi m b 0 []-tLo m b 0 []+1)]:=by rw [show m.length-1=0 by omega];exact ysT_zero m b []
  rw [this,a1,a2,h1]
  congr 1
  congr 1
  omega
 ·rw [if_neg h1,top_eq hr]
  rfl
theorem totS_ys {m:List (List Int)} (hr:RedOK m) {b:Int} (hb:0<=b):totS m b=totY (ysT m b (m.length-1) []):=by
 unfold totS
 rw [tails_ys hr hb]
theorem stS_ys {m:List (List Int)} (hr:RedOK m) {b:Int} (hb:0<=b):stS m b=addY (List.replicate m.length 0) (ysT m b (m.length-1) []):=by
 unfold stS addY
 rw [tails_ys hr hb,List.length_replicate]
 refine List.map_congr_left fun i hi=>?_
 have hi':i<m.length:=by simpa using hi
 simp [List.getD,hi']
end Go.Proofs.YtjehjkipcaohpaaGreat
namespace Go.Proofs.YtjehjkipcaohpaaGreat
open Go.RowKit
open La
theorem Arr.drop {w:World} {b o:Nat} {e:TypeId} {vs:List Value} (h:Arr w (some ⟨b,o,none⟩) e vs) (k:Nat):Arr w (some ⟨b,o+k,none⟩) e (vs.drop k):=fun h0=>by
 obtain ⟨b',o',cs,fr,hA,hb,hc⟩:=h (by rw [List.length_drop] at h0;omega)
 injection hA with hA
 injection hA with h1 h2
 subst h1 h2
 refine ⟨_,_,cs,fr,rfl,hb,fun j u hu=>?_⟩
 rw [List.getElem?_drop] at hu
 have :=hc _ _ hu
 rwa [<-Nat.add_assoc] at this
theorem IntsV.drop {w:World} {b o:Nat} {zs:List Int} (h:IntsV w (some ⟨b,o,none⟩) zs) (k:Nat):IntsV w (some ⟨b,o+2*k,none⟩) (zs.drop k):=by
 obtain ⟨vs,h1,h2,h3⟩:=h
 refine ⟨vs.drop (2*k),by rw [List.length_drop,List.length_drop,h1];omega,h2.drop _,fun i z hz=>?_⟩
 rw [List.getElem?_drop] at hz
 obtain ⟨g,B,n,c,a1,a2,a3⟩:=h3 _ z hz
 refine ⟨g,B,n,c,?_,?_,a3⟩
 ·rw [List.getElem?_drop,show 2*k+i*2=(k+i)*2 by omega];exact a1
 ·rw [List.getElem?_drop,show 2*k+(i*2+1)=(k+i)*2+1 by omega];exact a2
def RetL64 (w:World) (l:List Int) (e:Ending) (w':World):Prop:=∃A c,e= .returned (.slice A l.length c)/\Ints w' A 2 .i64 l/\l.length<=c/\c<=9223372036854775807/\Step w w'
theorem rlonger_ok {w0 w:World} {A:Option Addr} {c:Nat} {t:List Int} (x:Int) (h:Ints w0 A 2 .i64 t) (h1:t.length<=1000) [hx:Ext w0 w]:
  Calls Tryz.prog 109 #[.int .i64 x,.slice A t.length c] w (RetL64 w (x::t)):=by
 have h0:=h.ext hx
 unfold RetL64
 go_enter Tryz.func109,Tryz.ntmps109
 go_wp2_with (at_builtin;refine wpList_app _ rfl _ _ 37 rfl w.heap.size 2 (.int .i64 0) 1 8 Tryz.underlying37 infoI64 rfl (by omega) (by omega) (some ⟨w.heap.size,0,none⟩) 1 1 [.int .i64 x] rfl (Own.new w 2 1 1 #[.int .i64 x] rfl (by omega)) _ t.length c (t.map (Value.int .i64)) rfl (h0.ext inferInstance) (by simp) oneCell_ints (by omega) (by simp) ?_;intro A1 c1 w1 hown hg)
 go_ret
 have hxx:Ext w w1:=hg.ext inferInstance (Nat.le_refl _)
 have hc:=hown.cap
 refine ⟨A1,c1,?_,?_,by omega,hc.2,hxx.toStep⟩
 ·show Ending.returned (Value.slice A1 (1+t.length) c1)=_
  rw [Nat.add_comm]
 exact hown.arr
def FrV (w:World) (m:List (List Int)) (SB DB:Option Addr):Prop:=StV w SB ((List.range m.length).map (stM m))/\IntsV w DB (1::leadF m)
theorem FrV.ext {w w':World} {m:List (List Int)} {SB DB:Option Addr} (h:FrV w m SB DB) (hx:Ext w w'):FrV w' m SB DB:=⟨h.1.ext hx,h.2.ext hx⟩
def RetFr (w:World) (m:List (List Int)) (n:Nat) (e:Ending) (w':World):Prop:=∃SB sc DB dc,e= .returned (.agg #[.int .i64 n,.slice SB n sc,.slice DB (n+1) dc])/\FrV w' m SB DB/\n<=sc/\sc<=9223372036854775807/\n+1<=dc/\dc<=9223372036854775807/\Step w w'
theorem blk3 {w:World} {b:Nat} {x0 x1 x2:Value} {T:TypeId} (h:w.heap[b]? =some (.cells #[x0,x1,x2] T (0,0))):(w.cell? ⟨b,0,none⟩=some x0/\w.cell? ⟨b,1,none⟩=some x1/\w.cell? ⟨b,2,none⟩=some x2)/\(w.frozen? ⟨b,0,none⟩=false/\w.frozen? ⟨b,1,none⟩=false/\w.frozen? ⟨b,2,none⟩=false)/\b<w.heap.size:=
 ⟨⟨by simp [World.cell?,h],by simp [World.cell?,h],by simp [World.cell?,h]⟩,⟨by simp [World.frozen?,h],by simp [World.frozen?,h],by simp [World.frozen?,h]⟩,lt_of_heap h⟩
theorem FrV.oth {w w':World} {m:List (List Int)} {SB DB:Option Addr} {T:TypeId} (h:FrV w m SB DB) (ho:Oth T w w') (h3:79≠T) (h0:87≠T) (h1:148≠T) (h2:244≠T):FrV w' m SB DB:=⟨h.1.oth ho h3 h0 h1 h2,h.2.oth ho h1 h2⟩
theorem Oth.set3 {w:World} {T:TypeId} {b:Nat} {cs:Array Value} (hp:w.heap[b]? =some (.cells cs T (0,0))) (i j k:Nat) (u v x:Value):Oth T w (((w.setCell ⟨b,i,none⟩ u).setCell ⟨b,j,none⟩ v).setCell ⟨b,k,none⟩ x):=
 (Oth.set2 hp i j u v).trans (Oth.set (p:=⟨b,k,none⟩) (heap_setCell_self (heap_setCell_self hp _) _) _)
theorem vs_one {w:World} {vs:List Value} {zs:List Int} (hl:vs.length=zs.length*2) (h:∀(i:Nat) (z:Int),zs[i]? =some z->∃g B n c,vs[i*2]? =some (.bool g)/\vs[i*2+1]? =some (.slice B n c)/\IntV w g B n c z):∀u∈vs,u.oneCell'=true:=fun u hu=>by
 obtain ⟨j,hj⟩:=List.getElem?_of_mem hu
 have hjl:=(List.getElem?_eq_some_iff.1 hj).1
 have hi:j / 2<zs.length:=by omega
 obtain ⟨g,B,n,c,a1,a2,-⟩:=h (j / 2) zs[j / 2] (List.getElem?_eq_getElem hi)
 rcases Nat.mod_two_eq_zero_or_one j with e |e
 ·rw [show j / 2*2=j by omega,hj] at a1
  injection a1 with a1
  rw [a1];rfl
 ·rw [show j / 2*2+1=j by omega,hj] at a2
  injection a2 with a2
  rw [a2];rfl
theorem rFrame_ok {w0 w:World} {A:Option Addr} {c n:Nat} {m:List (List Int)} (h:Mat64 w0 A m) (hL:LLLed m) (h1:m.length=n) [hx:Ext w0 w]:
  Calls Tryz.prog 62 #[.slice A n c] w (RetFr w m n):=by
 have h8:=hL.len8
 have h3:=hL.len1
 have HOF:Hid (∀W,Ext w0 W->Calls Tryz.prog 57 #[.slice A n c] W (RetMat W m)):=Lib.hid (fun W e=>by
  have :=(rOf_ok (w:=W) (c:=c) h m.length h3 (by omega) h3 (by omega) hL.all hL.fits).mono fun _ _ h=>h.mat
  rwa [h1] at this)
 have hall:AllLen m n:=by rw [<-h1];exact hL.all
 have hpos:Pos (ofZ (ent m)) n:=by rw [<-h1];exact hL.pos
 have HST:Hid (∀(W1 W:World) (A1:Option Addr) (c1:Nat),MatV W1 A1 m->Ext W1 W->Calls Tryz.prog 105 #[.slice A1 n c1] W (RetStages W m)):=Lib.hid (fun W1 W A1 c1 hM e=>rStages_ok hM h1 (by omega) (by omega) hall hL.bd (by omega) (by omega) hpos)
 have HLE:Hid (∀(W1 W:World) (A1:Option Addr) (c1:Nat),MatV W1 A1 m->Ext W1 W->Calls Tryz.prog 106 #[.slice A1 n c1] W (RetIntsB W (leadF m))):=Lib.hid (fun W1 W A1 c1 hM e=>rLeading_ok hM h1 (by omega) (by omega) hall hL.bd (by omega) (by omega))
 have HLL:Hid ((leadF m).length=n):=Lib.hid (by rw [leadF_len];exact h1)
 have HSM:=Lib.hid (fun W=>rSmall_any 1 (by omega) (by omega) W)
 unfold RetMat at HOF
 unfold RetStages at HST
 rw [h1] at HOF HST h3 h8
 have H1:=Lib.hid h1
 clear h1 hall hpos hL h
 go_enter Tryz.func62,Tryz.ntmps62
 go_wp2_with (first
  |(go_at_call 57;refine (HOF.out _ inferInstance).mono ?_;rintro e w3 ⟨A3,c3,rfl,hM3,-,-,hs3⟩;have HM3:=Lib.hid hM3;clear hM3)
  |(go_at_call 105;refine (HST.out _ _ _ _ HM3.out inferInstance).mono ?_;rintro e w4 ⟨SB,sc,rfl,hS4,hsc1,hsc2,hs4⟩;have HS4:=Lib.hid hS4;clear hS4)
  |(go_at_call 106;refine (HLE.out _ _ _ _ HM3.out inferInstance).mono ?_;rintro e w5 ⟨B5,d5,rfl,hI5,hd1,hd2,hs5⟩;have HI5:=Lib.hid hI5;clear hI5;rw [HLL.out] at hd1 |-)
  |(go_at_call 107;refine (HSM.out _).mono ?_;rintro e w6 ⟨g6,B6,k6,e6,rfl,hz6,hs6⟩;have HZ6:=Lib.hid hz6;clear hz6)
  |(at_builtin;obtain ⟨vs,v1,v2,v3⟩:=HI5.out;have HV1:=Lib.hid v1;have HV3:=Lib.hid v3;have hv1:vs.length=n*2:=(by rw [v1,HLL.out]);go_loud (refine wpList_app _ rfl _ _ 87 rfl w6.heap.size 148 (.agg #[.bool false,.slice none 0 0]) 2 32 Tryz.underlying87 infoInt rfl (by omega) (by omega) (some ⟨w6.heap.size,0,none⟩) 1 1 [.bool g6,.slice B6 k6 e6] rfl (Own.new w6 148 2 1 #[.bool g6,.slice B6 k6 e6] rfl (by omega)) _ n d5 vs rfl (v2.ext inferInstance) hv1 (vs_one v1 v3) (by omega) (by simp) ?_);intro A7 c7 w7 hown hg;have HO7:=Lib.hid hown;have hbk:w7.heap[w.heap.size]? =some (.cells #[.int .i64 0,.slice none 0 0,.slice none 0 0] 89 (0,0)):=hg.heap (heap_of_ext (inferInstance:Ext (w.alloc (.cells #[.int .i64 0,.slice none 0 0,.slice none 0 0] 89)) (w6.alloc (.cells #[.bool g6,.slice B6 k6 e6] 148))) (heap_alloc_new w _)) (by decide);have HG7:=Lib.hid hg;have HBK:=Lib.hid hbk;obtain ⟨⟨a0,a1,a2⟩,⟨f0,f1,f2⟩,a4⟩:=blk3 hbk;have tq:Typed w.heap.size 89 w7:=⟨_,_,hbk⟩;clear hbk hg hown v1 v2 v3 hv1))
 have hx7:Ext w w7:=HG7.out.ext inferInstance (by have :=(inferInstance:Ext w w6).size;omega)
 have hxl:Ext w6 (w6.alloc (.cells #[.bool g6,.slice B6 k6 e6] 148)):=inferInstance
 have hI7:IntsV w7 A7 (1::leadF m):=by
  refine ⟨[.bool g6,.slice B6 k6 e6]++vs,by simp [HV1.out];omega,HO7.out.arr,fun i z hz=>?_⟩
  cases i with
  |zero=>
   simp only [List.getElem?_cons_zero] at hz
   injection hz with hz
   subst hz
   exact ⟨g6,B6,k6,e6,rfl,rfl,(HZ6.out.ext hxl).grow HG7.out (by decide)⟩
  |succ i=>
   simp only [List.getElem?_cons_succ] at hz
   obtain ⟨g,B,nn,c,b1,b2,b3⟩:=HV3.out i z hz
   refine ⟨g,B,nn,c,?_,?_,((b3.ext (inferInstance:Ext w5 w6)).ext hxl).grow HG7.out (by decide)⟩
   ·rw [show (i+1)*2=i*2+2 by omega];exact b1
   ·rw [show (i+1)*2+1=i*2+1+2 by omega];exact b2
 have hS7:StV w7 SB ((List.range m.length).map (stM m)):=by
  rw [H1.out]
  exact (HS4.out.ext (inferInstance:Ext w4 w6)).ext (HG7.out.ext hxl (Nat.le_refl _))
 have hc7:=HO7.out.cap
 refine bodyPost_ret (v:= .agg #[.int .i64 n,.slice SB n sc,.slice A7 (1+n) c7]) (by simp [results,Tryz.results62,go_sem,a0,a1,a2]) rfl ⟨SB,sc,A7,c7,by rw [Nat.add_comm],?_,hsc1,hsc2,by omega,hc7.2,Step.of _ _⟩
 exact FrV.oth ⟨hS7,hI7⟩ (Oth.set3 HBK.out 0 1 2 _ _ _) (by decide) (by decide) (by decide) (by decide)
end Go.Proofs.YtjehjkipcaohpaaGreat
