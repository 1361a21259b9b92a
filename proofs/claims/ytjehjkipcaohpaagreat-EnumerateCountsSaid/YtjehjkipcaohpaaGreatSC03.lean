/- Bd0 OwnZ Own64 Sm11 Vr11 RefI Tl -/
import Derived.Test.YtjehjkipcaohpaaGreatProg
import Derived.Test.YtjehjkipcaohpaaGreatS18
import Derived.Test.YtjehjkipcaohpaaGreatSC02
import Derived.Test.YtjehjkipcaohpaaGreatShelf
import Derived.Test.YtjehjkipcaohpaaGreatS19
set_option maxHeartbeats 8000000
set_option linter.unusedVariables false
set_option linter.unusedSimpArgs false
set_option linter.constructorNameAsVariable false
namespace Go.Proofs.YtjehjkipcaohpaaGreat
/-! ## Sizes in bits -/
theorem Bd.of64 {x:Int} (h0:-9223372036854775808<=x) (h1:x<=9223372036854775807):Bd 64 x:=by
 unfold Bd
 have :(2:Nat)^64=18446744073709551616:=by decide
 omega
end Go.Proofs.YtjehjkipcaohpaaGreat
namespace Go.Proofs.YtjehjkipcaohpaaGreat
open Go.RowKit
theorem RetOwnI.mat {w w':World} {n:Nat} {a:List (List Int)} {e:Ending} (h:RetOwnI w n a e w'):RetMat w a e w':=by
 obtain ⟨g,hs,c,rfl,h1,h2,h3,h4⟩:=h
 exact ⟨_,c,rfl,h1.mat,h2,h3,h4⟩
section
variable {w w':World} {lo g n rows:Nat} {hs:List (Nat×Nat)} {a:List (List Int)}
end
/-! ## Tables, filled entry by entry -/
section
variable {w w':World} {lo g n rows:Nat} {hs:List Nat} {a:List (List Int)}
end
section
variable {T:Nat} {w w' w2 w0:World}
theorem Only.refl (T:Nat) (w:World):Only T w w:=⟨Below.refl _ _,fun _ _ _=>rfl⟩
end
theorem rsmall11_ok {w:World} {dim kind bound:Int} {NA:Option Addr} {l:List Int} {nc:Nat} {v3:Value} {te:TypeId} (hN:Ints w NA te .i8 l) (h8:I8 l) (hl:l.length<=9223372036854775807) (hd0:0<=dim) (hd1:dim<256) (hk0:0<=kind) (hk1:kind<256) (hb0:0<=bound) (hb1:bound<256):
  Calls Tryz.prog 22 #[.agg #[.int .u8 dim,.int .u8 kind,.slice NA l.length nc,v3],.int .u8 bound] w (RetSmall w (1+(dim%4).toNat) bound):=by
 have HG:Hid (∀W,Ext w W->Calls Tryz.prog 27 #[.agg #[.int .u8 dim,.int .u8 kind,.slice NA l.length nc,v3],.int .i64 4] W (RetLF W (1+(dim%4).toNat))):=Lib.hid (fun W e=>rForm_ok (most:=4) (hN.ext e) h8 hl hd0 hd1 hk0 hk1 (by omega) (by omega))
 have hn4:1+(dim%4).toNat<=4:=by omega
 clear hN h8
 generalize 1+(dim%4).toNat=n at*
 have e1:IntKind.i64.wrap (2*(n:Int))=2*(n:Int):=IntWalk.i64_in _ (by omega)
 have e2:IntKind.i64.wrap (13-2*(n:Int))=13-2*(n:Int):=IntWalk.i64_in _ (by omega)
 have e3:((13-2*(n:Int))==0)=false:=by simp;omega
 have e4:bound.tmod (13-2*(n:Int))=bound%(13-2*(n:Int)):=Int.tmod_eq_emod_of_nonneg hb0
 have e5:IntKind.i64.wrap bound=bound:=IntWalk.i64_in _ (by omega)
 have e6:=Int.emod_nonneg bound (show 13-2*(n:Int)≠0 by omega)
 have e7:=Int.emod_lt_of_pos bound (show 0<13-2*(n:Int) by omega)
 have e8:IntKind.i64.wrap (bound%(13-2*(n:Int)))=bound%(13-2*(n:Int)):=IntWalk.i64_in _ (by omega)
 go_enter Tryz.func22,Tryz.ntmps22
 go_wp2_with (go_at_call 27;refine (HG.out _ inferInstance).mono ?_;rintro e w1 ⟨a,hh,A1,c1,rfl,hGm,hLL,hlen,hRel,hM3,hc1,hc2,hs3⟩)
 have HM:=Lib.hid hM3
 clear hM3
 go_quiet (fail)
 go_wp2_with fail
 go_ret2
 exact ⟨a,hh,A1,c1,rfl,hGm,hLL,hlen,hRel,HM.out.ext inferInstance,hc1,hc2,Step.of _ _⟩
def RetVL (w:World) (m:List (List Int)) (b:Int) (e:Ending) (w':World):Prop:=∃B d L,e= .returned (.tuple #[.slice B (List.length L) d,.int .i64 (totS m b),.int .i64 0])/\Mat64 w' B L/\L.length<=d/\d<=9223372036854775807/\VecList m b false L/\L.length<=8000/\Step w w'
theorem mem_le_sum {l:List Int} {x:Int} (h:∀y∈l,1<=y) (hx:x∈l):x<=l.sum:=by
 induction l with
 |nil=>simp at hx
 |cons a l ih=>
  have h0:=sum_ge_len l (fun y hy=>h y (by simp [hy]))
  have h1:=h a (by simp)
  rw [List.sum_cons]
  rcases List.mem_cons.1 hx with rfl |hx
  ·omega
  ·have :=ih (fun y hy=>h y (by simp [hy])) hx
   omega
theorem Vectors_red {w0 w:World} {A:Option Addr} {c b:Nat} {m:List (List Int)} {budget:Int} (h:Mat64 w0 A m) (hc:m.length<=c) (hc2:c<=9223372036854775807) (hr:isRedB m=true) (h4:m.length<=4) (hb:b+2*m.length<=12∨b<=6∨(m.length<=3/\b<=8)) (hbd:totS m b<=budget) (hbd2:budget<=1000000) [hx:Ext w0 w]:
  Calls Tryz.prog 23 #[.slice A m.length c,.int .i64 b,.int .i64 budget] w (RetVL w m b):=by
 have hR:=red_ok hr
 have hl:=isSmallB_len hR.small
 have hst:=(steps_ok hr (b:=b) (by omega)).1
 have hfew:=few_steps2 hr h4 hb
 have hlast:=hst.last_le (by omega)
 have hll:=hst.last
 have hsl:=sum_ge_len _ hst.one
 have hsum:=hst.sum
 have hlen:=hst.len
 have hcl:(collL m b false).length<=8000:=by omega
 have hmx:∀x∈stS m b,0<=x/\x<=1099511627776:=fun x hx=>by
  have h1:=hst.one x hx
  have :x<=(stS m b).sum:=mem_le_sum hst.one hx
  omega
 have hspec:=hst.spec budget (by omega) hbd2
 rw [if_pos hbd] at hspec
 refine (Vectors_ok h hc hc2 (enum_ok hr (by omega) false (by omega)) hspec (by omega) (by omega) (by omega) hmx (by omega)).mono ?_
 rintro e w' ⟨B,d,L,he,hM,h1,h2,hp,hw,hs⟩
 rw [hsum] at he
 refine ⟨B,d,L,he,hM,h1,h2,vecList_of hR (by omega) hp hw,?_,hs⟩
 have :=hp.length_eq
 simp at this
 omega
end Go.Proofs.YtjehjkipcaohpaaGreat
namespace Go.Proofs.YtjehjkipcaohpaaGreat
open Go.RowKit
open La
theorem rreduced_ok {w0 w:World} {A:Option Addr} {c n b:Nat} {m:List (List Int)} (h:MatV w0 A m) (h1:m.length=n) (h3:1<=n) (h4:n<=8) (hn:AllLen m n) (hb:BdM b m) (hb1:1<=b) (hbb:b<=1000000) (hp:Pos (ofZ (ent m)) n) (hs:Sym (ofZ (ent m))) (hfu:∀r,r<n->Full (ofZ (ent m)) r) (hlo:∀p,p+1<n->Lov (ofZ (ent m)) p) [hx:Ext w0 w]:
  Calls Tryz.prog 164 #[.slice A n c] w (RetVal w (.bool true)):=by
 have h0:=h.ext hx
 have HLE:=Lib.hid (fun W (e1:Ext w W)=>rLeading_ok (w:=W) (c:=c) h0 h1 h3 h4 hn hb hb1 hbb)
 have HLL:Hid ((leadF m).length=n):=Lib.hid (by rw [leadF_len];exact h1)
 have HSZ:Hid (∀(W1 W:World) (B:Option Addr) (d i j:Nat),i<n->j<i->IntsV W1 B (leadF m)->Ext w W->Ext W1 W->Calls Tryz.prog 149 #[.slice A n c,.slice B n d,.int .i64 i,.int .i64 j] W (RetVal W (.bool true))):=Lib.hid (fun W1 W B d i j hi hj hI e1 e2=>by
  have :=rSized_ok (w:=W) (c:=c) (d:=d) h0 hI h1 h4 hn hb hb1 hbb hi (show j<n by omega)
  rwa [decide_eq_true ((sized_iff h1 hp (show j<n by omega)).2 (hfu i hi j hj))] at this)
 have HLV:Hid (∀(W1 W:World) (B:Option Addr) (d i:Nat),i<n->1<=i->IntsV W1 B (leadF m)->Ext w W->Ext W1 W->Calls Tryz.prog 155 #[.slice A n c,.slice B n d,.int .i64 i] W (RetVal W (.bool true))):=Lib.hid (fun W1 W B d i hi hi1 hI e1 e2=>by
  have :=rLovasz_ok (w:=W) (c:=c) (d:=d) h0 hI h1 h4 hn hb hb1 hbb hi hi1
  obtain ⟨p,rfl⟩:∃p,i=p+1:=⟨i-1,by omega⟩
  rwa [decide_eq_true ((lovasz_iff h1 hp hs hi).2 (hlo p hi))] at this)
 clear hn hb hp hs h1 hfu hlo
 go_enter Tryz.func164,Tryz.ntmps164
 go_wp2_with (go_at_call 106;refine (HLE.out _ inferInstance).mono ?_;rintro e w1 ⟨BD,dD,rfl,hI1,-,-,hs1⟩;rw [HLL.out];have HI:=Lib.hid hI1;clear hI1)
 have hxw1:Ext w w1:=inferInstance
 go_loopw [5,6,14] (fun _ _ i wr=>∃k:Nat,k<=n/\i= .int .i64 k/\Ext w1 wr) (fun _ _ i _=>n-(intOf i).toNat)
 case atStart=>exact ⟨0,by omega,rfl,inferInstance⟩
 case round=>
  obtain ⟨k,hk,rfl,hxr⟩:=hrel
  by_cases hlt:k<n
  ·go_wp2_with fail
   go_loopw [6] (fun s6 wr=>∃q:Nat,q<=k/\s6= .int .i64 q/\Ext w1 wr) (fun s6 _=>k-(intOf s6).toNat)
   case atStart=>exact ⟨0,by omega,rfl,inferInstance⟩
   case round=>
    obtain ⟨q,hq,rfl,hxq⟩:=hrel
    have hxwq:Ext w wr:=hxw1.trans hxq
    by_cases hqk:q<k
    ·have HSB:=Lib.hid (fun W (e1:Ext wr W)=>HSZ.out w1 W BD dD k q hlt hqk HI.out (hxwq.trans e1) (hxq.trans e1))
     go_wp2_with (go_at_call 149;refine (HSB.out _ inferInstance).mono ?_;rintro e w6 ⟨rfl,hs6⟩)
     exact ⟨⟨q+1,by omega,by go_num,inferInstance⟩,by simp [intOf]<;>omega⟩
    ·by_cases hk0:k=0
     ·subst hk0
      go_wp2_with fail
      exact ⟨⟨1,by omega,rfl,hxq⟩,by simp [intOf]<;>omega⟩
     ·have HLB:=Lib.hid (fun W (e1:Ext wr W)=>HLV.out w1 W BD dD k hlt (by omega) HI.out (hxwq.trans e1) (hxq.trans e1))
      have hgt:decide ((0:Int)<(k:Int))=true:=by simp;omega
      have hkpos:0<k:=by omega
      have hkpos2:(0:Int)<(k:Int):=by omega
      clear hk0
      go_wp2_with (go_at_call 155;refine (HLB.out _ inferInstance).mono ?_;rintro e w6 ⟨rfl,hs6⟩)
      exact ⟨⟨k+1,by omega,by go_num,inferInstance⟩,by simp [intOf]<;>omega⟩
  ·have hxwr:Ext w wr:=hxw1.trans hxr
   go_wp2_with fail
   go_ret
   exact ⟨rfl,⟨hxwr.below⟩⟩
theorem LLLed.val {m:List (List Int)} (h:LLLed m):ValM m:=⟨fun i hi j hj=>h.sym i j hi (by omega),lead_pos.2 h.pos⟩
theorem LLLed.detF {m:List (List Int)} (h:LLLed m):detF m<=10000:=by
 rw [det_E h.len1 (fun l hl=>by have :=E_pos h.pos (k:=l) (by omega);omega)]
 exact h.det
theorem LLLed.symO {m:List (List Int)} (h:LLLed m):Sym (ofZ (ent m)):=fun i j=>by
 by_cases hi:i<m.length
 ·by_cases hj:j<m.length
  ·unfold ofZ;rw [h.sym i j hi hj]
  ·unfold ofZ;rw [ent_out h.all (i:=i) (j:=j) (.inr (by omega)),ent_out h.all (i:=j) (j:=i) (.inl (by omega))]
 ·unfold ofZ;rw [ent_out h.all (i:=i) (j:=j) (.inl (by omega)),ent_out h.all (i:=j) (j:=i) (.inr (by omega))]
theorem rIsReduced_ok {w0 w:World} {A:Option Addr} {c n:Nat} {m:List (List Int)} (h:Mat64 w0 A m) (hL:LLLed m) (h1:m.length=n) (h64:Fits64 m) (hb:BdM 199 m) [hx:Ext w0 w]:
  Calls Tryz.prog 104 #[.slice A n c] w (RetVal w (.bool true)):=by
 have h3:1<=n:=by rw [<-h1];exact hL.len1
 have h4:n<=8:=by rw [<-h1];exact hL.len8
 have hn:AllLen m n:=by rw [<-h1];exact hL.all
 have hp:Pos (ofZ (ent m)) n:=by rw [<-h1];exact hL.pos
 have HFI:Hid (∀W,Ext w W->Calls Tryz.prog 95 #[.slice A n c] W (RetOwnIB W n m)):=Lib.hid (fun W e=>by
  have :Ext w0 W:=hx.trans e
  have :=rFromInts_ok (w:=W) (c:=c) h n (by omega) (by omega) h3 (by omega) hn h64
  rwa [h1] at this)
 have HVA:Hid (∀(W1 W:World) (A1:Option Addr) (c1:Nat),MatV W1 A1 m->Ext W1 W->Calls Tryz.prog 87 #[.slice A1 n c1] W (fun e w'=>∃v:Int,e= .returned (.int .i64 v)/\(v=0↔true=true)/\0<=v/\v<=5/\Step W w')):=Lib.hid (fun W1 W A1 c1 hM e=>rValidate_ok true (by simp [hL.val]) hM h1 h3 h4 hn hb (by omega) (by omega))
 have HSM:Hid (∀(W1 W:World) (A1:Option Addr) (c1:Nat),MatV W1 A1 m->Ext W1 W->Calls Tryz.prog 88 #[.slice A1 n c1] W (RetVal W (.bool true))):=Lib.hid (fun W1 W A1 c1 hM e=>by
  have :=rsmall_ok (w:=W) (c:=c1) hM h1 h3 h4 hn hb (by omega) (by omega)
  rwa [decide_eq_true hL.detF] at this)
 have HRE:Hid (∀(W1 W:World) (A1:Option Addr) (c1:Nat),MatV W1 A1 m->Ext W1 W->Calls Tryz.prog 164 #[.slice A1 n c1] W (RetVal W (.bool true))):=Lib.hid (fun W1 W A1 c1 hM e=>rreduced_ok hM h1 h3 h4 hn hb (by omega) (by omega) hp hL.symO (fun r hr=>hL.full r (by omega)) (fun p hp=>hL.lov p (by omega)))
 have HL:=Lib.hid h1
 clear hn hb h64 h1 hp hL
 go_enter Tryz.func104,Tryz.ntmps104
 go_wp2_with (first
  |(go_at_call 95;refine (HFI.out _ inferInstance).mono ?_;rintro e w1 ⟨g1,hs1',c1,rfl,hO1,-,-,hs1⟩;rw [HL.out];have HM:=Lib.hid hO1.mat;clear hO1)
  |(go_at_call 87;refine (HVA.out _ _ _ _ HM.out inferInstance).mono ?_;rintro e w2 ⟨v,rfl,hv,hv0,hv5,hs2⟩;have hvz:v=0:=(hv.2 (by trivial));subst hvz;clear hv hv0 hv5)
  |(go_at_call 88;refine (HSM.out _ _ _ _ HM.out inferInstance).mono ?_;rintro e w3 ⟨rfl,hs3⟩)
  |(go_at_call 164;refine (HRE.out _ _ _ _ HM.out inferInstance).mono ?_;rintro e w4 ⟨rfl,hs4⟩))
 go_ret
 exact ⟨rfl,Step.of _ _⟩
end Go.Proofs.YtjehjkipcaohpaaGreat
namespace Go.Proofs.YtjehjkipcaohpaaGreat
open La
theorem mem_canon {m:List (List Int)} (hr:RedOK m) {b:Int} (hb:0<=b) (exact:Bool) (x:List Int):x∈(collL m b exact).map canonL↔x.length=m.length/\0<firstNZ x/\nrm m x<=b/\(exact=true->nrm m x=b):=by
 rw [List.mem_map]
 constructor
 ·rintro ⟨y,hy,rfl⟩
  obtain ⟨h1,h2,h3,h4⟩:=(mem_coll hr hb exact y).1 hy
  rw [nrm_canon,canonL_length]
  exact ⟨h1,canon_first y (fun e=>lastPos_ne h2 (firstNZ_zero e)),h3,h4⟩
 ·rintro ⟨h1,h2,h3,h4⟩
  have hne:¬∀y∈x,y=0:=fun hz=>by
   have :firstNZ x=0:=by
    clear h1 h2 h3 h4
    induction x with
    |nil=>rfl
    |cons a x ih=>
     have ha:=hz a (by simp)
     simp only [firstNZ,ha,if_true]
     exact ih (fun y hy=>hz y (by simp [hy]))
   omega
  rcases lastPos_or hne with h5 |h5
  ·refine ⟨x,(mem_coll hr hb exact x).2 ⟨h1,h5,h3,h4⟩,?_⟩
   unfold canonL
   rw [if_neg (by omega)]
  ·refine ⟨x.map fun c=>-c,(mem_coll hr hb exact _).2 ⟨by simpa using h1,h5,by rw [nrm_neg];exact h3,by rw [nrm_neg];exact h4⟩,?_⟩
   unfold canonL
   rw [firstNZ_neg,if_pos (by omega),neg_neg_map]
end Go.Proofs.YtjehjkipcaohpaaGreat
