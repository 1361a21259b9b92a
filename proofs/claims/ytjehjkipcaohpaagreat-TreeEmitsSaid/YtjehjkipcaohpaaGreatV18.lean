/- Mk5 Mk6 Mk7 Lat Cl Tl Fr1 -/
import Derived.Test.YtjehjkipcaohpaaGreatV17
import Derived.Test.YtjehjkipcaohpaaGreatProg
import Derived.Test.YtjehjkipcaohpaaGreatShelf
import Derived.Lib.SmallJoins
import Derived.ChangeSlices
import Derived.Test.YtjehjkipcaohpaaGreatRows
set_option maxHeartbeats 8000000
set_option linter.unusedVariables false
set_option linter.unusedSimpArgs false
set_option linter.constructorNameAsVariable false
namespace Go.Proofs.YtjehjkipcaohpaaGreat
open Go.RowKit
theorem rgood_ok {w0 w:World} {A:Option Addr} {c n:Nat} {a:List (List Int)} (s:Bool) (hs:s=true↔ValM a/\detF a<=10000) (h:Mat64 w0 A a) (h1:a.length=n) (h3:1<=n) (h4:n<=8) (hn:AllLen a n) (h64:Fits64 a) (hb:BdM 199 a) [hx:Ext w0 w]:
  Calls Tryz.prog 100 #[.slice A n c] w (RetVal w (.bool s)):=by
 have HOF:Hid (∀W,Ext w W->Calls Tryz.prog 57 #[.slice A n c] W (RetOwnI W n a)):=Lib.hid (fun W e=>by
  have :Ext w0 W:=hx.trans e
  have :=rOf_ok (w:=W) (c:=c) h n (by omega) (by omega) h3 (by omega) hn h64
  rwa [h1] at this)
 obtain ⟨sv,hsv⟩:∃sv:Bool,sv=true↔ValM a:=⟨@decide (ValM a) (Classical.propDecidable _),by simp⟩
 have HVA:Hid (∀(W1 W:World) (A1:Option Addr) (c1:Nat),MatV W1 A1 a->Ext W1 W->Calls Tryz.prog 87 #[.slice A1 n c1] W (fun e w'=>∃v:Int,e= .returned (.int .i64 v)/\(v=0↔sv=true)/\0<=v/\v<=5/\Step W w')):=Lib.hid (fun W1 W A1 c1 hM e=>rValidate_ok sv hsv hM h1 h3 h4 hn hb (by omega) (by omega))
 have HDT:Hid (∀(W1 W:World) (A1:Option Addr) (c1:Nat),MatV W1 A1 a->Ext W1 W->Calls Tryz.prog 146 #[.slice A1 n c1] W (RetInt W (detF a))):=Lib.hid (fun W1 W A1 c1 hM e=>rDet_ok hM h1 h3 h4 hn hb (by omega) (by omega))
 have hbd:=detF_bd h1 h4 (by omega) hb
 have HC:Hid (∀(W1 W2 W:World) (g1:Bool) B1 n1 c1 (g2:Bool) B2 n2 c2,IntV W1 g1 B1 n1 c1 (detF a)->IntV W2 g2 B2 n2 c2 10000->Ext W1 W->Ext W2 W->Calls Tryz.prog 145 #[.agg #[.bool g1,.slice B1 n1 c1],.agg #[.bool g2,.slice B2 n2 c2]] W (RetVal W (.int .i64 (cmpI (detF a) 10000)))):=Lib.hid (fun W1 W2 W g1 B1 n1 c1 g2 B2 n2 c2 ha hb e1 e2=>rCmp_any ha hb (by have :=ha.bd hbd (by omega);omega) (by have :=hb.len (k:=1) (by decide);omega))
 have HL:=Lib.hid h1
 cases hsb:sv
 ·rw [hsb] at HVA hsv
  have HF:Hid (s=false):=Lib.hid (by
   cases s with
   |false=>rfl
   |true=>exact absurd (hsv.2 (hs.1 rfl).1) (by simp))
  clear hsb hsv hs hbd hn hb h64 h1
  go_enter Tryz.func100,Tryz.ntmps100
  go_wp2_with (first
   |(go_at_call 57;refine (HOF.out _ inferInstance).mono ?_;rintro e w1 ⟨g1,hs1',c1,rfl,hO1,-,-,hs1⟩;rw [HL.out];have HM:=Lib.hid hO1.mat;clear hO1)
   |(go_at_call 87;refine (HVA.out _ _ _ _ HM.out inferInstance).mono ?_;rintro e w2 ⟨v,rfl,hv,hv0,hv5,hs2⟩;have hvz:(v==0)=false:=(by simp at hv;simp;exact hv);clear hv))
  go_ret
  exact ⟨by rw [HF.out];simp,Step.of _ _⟩
 ·rw [hsb] at HVA hsv
  have HF:Hid (decide (cmpI (detF a) 10000<=0)=s):=Lib.hid (by
   rw [cmpI_le]
   cases s with
   |false=>
    refine decide_eq_false fun hd=>?_
    have :=hs.2 ⟨hsv.1 rfl,hd⟩
    cases this
   |true=>exact decide_eq_true (hs.1 rfl).2)
  clear hsb hsv hs hbd hn hb h64 h1
  generalize detF a=D at*
  go_enter Tryz.func100,Tryz.ntmps100
  go_wp2_with (first
   |(go_at_call 57;refine (HOF.out _ inferInstance).mono ?_;rintro e w1 ⟨g1,hs1',c1,rfl,hO1,-,-,hs1⟩;rw [HL.out];have HM:=Lib.hid hO1.mat;clear hO1)
   |(go_at_call 87;refine (HVA.out _ _ _ _ HM.out inferInstance).mono ?_;rintro e w2 ⟨v,rfl,hv,hv0,hv5,hs2⟩;obtain rfl:v=0:=(by simpa using hv);clear hv)
   |(go_at_call 146;refine (HDT.out _ _ _ _ HM.out inferInstance).mono ?_;rintro e w3 ⟨g3,B3,k3,d3,rfl,hz3,hs3⟩)
   |(go_at_call 107;refine (rSmall_any 10000 (by omega) (by omega) _).mono ?_;rintro e w4 ⟨g4,B4,k4,d4,rfl,hz4,hs4⟩)
   |(go_at_call 145;refine (HC.out _ _ _ _ _ _ _ _ _ _ _ hz3 hz4 inferInstance inferInstance).mono ?_;rintro e w5 ⟨rfl,hs5⟩))
  go_ret
  exact ⟨by rw [<-HF.out];simp,Step.of _ _⟩
def SmM (a:List (List Int)):Prop:=∀i j,-100<=ent a i j/\ent a i j<=100
theorem SmM.bd {a:List (List Int)} (h:SmM a):BdM 199 a:=fun i j=>by
 have :=h i j
 refine Nat.lt_of_lt_of_le (m:=2^7) (by omega) (Nat.pow_le_pow_right (by omega) (by omega))
theorem SmM.fits {a:List (List Int)} {n:Nat} (h:SmM a) (hn:AllLen a n):Fits64 a:=by
 rw [<-tab_ent a n hn]
 intro r hr x hx
 obtain ⟨i,hi,rfl⟩:=List.mem_map.1 hr
 obtain ⟨j,hj,rfl⟩:=List.mem_map.1 hx
 have :=h i j
 omega
theorem SmM.tab {F:Nat->Nat->Int} {n r:Nat} (h:∀i j,-100<=F i j/\F i j<=100):SmM (tab F n r):=fun i j=>by
 by_cases hi:i<n/\j<r
 ·rw [ent_tab F n r i j hi.1 hi.2];exact h i j
 ·rw [ent_tab_out2 F n r i j hi];omega
theorem SmM.set {a:List (List Int)} {n i j:Nat} {z:Int} (h:SmM a) (hn:AllLen a n) (hi:i<a.length) (hj:j<n) (hz:-100<=z/\z<=100):SmM (setE a i j z):=fun x y=>by
 have hrl:(a.getD i []).length=n:=by
  have e:a.getD i []=a[i]:=by simp [List.getD,hi]
  rw [e];exact hn _ (List.getElem_mem hi)
 rw [ent_setE hi (by rw [hrl];exact hj)]
 split
 ·exact hz
 ·exact h x y
theorem diagF_sm (l:List Int) (k n most:Nat) (h1:1<=most) (h2:most<=9):SmM (diagF l k n most):=SmM.tab fun i j=>by
 split
 ·have h3:=Int.emod_nonneg (l.getD (k+i) 0%256) (show (most:Int)≠0 by omega)
  have h4:=Int.emod_lt_of_pos (l.getD (k+i) 0%256) (show (0:Int)<most by omega)
  omega
 ·omega
theorem genF_sm (l:List Int) (k n:Nat):SmM (genF l k n):=SmM.tab fun i j=>by
 unfold genP
 split
 ·omega
 ·split
  ·unfold genV
   have :=tmod3 (l.getD (k+n+trI (max i j)+min i j) 0)
   omega
  ·omega
theorem chainF_sm (fork:Bool) (n:Nat):SmM (chainF fork n):=SmM.tab fun i j=>by
 unfold chP
 split
 ·omega
 ·split<;>omega
theorem diagF_gm (l:List Int) (k n:Nat) (n1:1<=n) (n8:n<=8):Gm n (diagF l k n 2):=by
 refine diag_gm n1 n8 (tab_length _ _ _) (tab_allLen _ _ _) (fun i j hij=>?_) (fun i hi=>?_)
 ·unfold diagF
  by_cases h:i<n/\j<n
  ·rw [ent_tab _ n n i j h.1 h.2,if_neg hij]
  ·rw [ent_tab_out2 _ n n i j h]
 ·unfold diagF
  rw [ent_tab _ n n i i hi hi,if_pos rfl]
  omega
theorem chainF_sm2 (fork:Bool) (n i j:Nat):-2<=ent (chainF fork n) i j/\ent (chainF fork n) i j<=2:=by
 unfold chainF
 by_cases h:i<n/\j<n
 ·rw [ent_tab _ n n i j h.1 h.2]
  unfold chP
  split
  ·omega
  ·split<;>omega
 ·rw [ent_tab_out2 _ n n i j h];omega
end Go.Proofs.YtjehjkipcaohpaaGreat
namespace Go.Proofs.YtjehjkipcaohpaaGreat
open Go.ChangeShapes Go.WideShapes Go.ChangeAt Go.RowKit Go.Joins
section
variable {H:Type} {enc:TypeId×Value->H} {P:Program} {W W':World} {sp:Nat->Bool}
theorem cell_below (hb:Below W.heap.size W W') {a:Addr} {v:Value} (h:W.cell? a=some v):W'.cell? a=some v:=by
 unfold World.cell? at h |-
 split at h
 ·rename_i c t f hc
  have hlt:=lt_of_heap hc
  rw [hb.block _ hlt,hc]
  exact h
 ·cases h
theorem ints_stay {t e:TypeId} {k:IntKind} {n:Nat} {v:Value} {y:DataW H×List MemPlace} (ht:P.underlying t=some (.slice e)) (he:P.underlying e=some (.int k)) (hc:P.cellsOf e=1)
  (h:DataW.trod enc P W 0 (fun _=>true) true n t [v]=some y) (hb:Below W.heap.size W W') (hs:∀q∈y.2,sp q.block=true):∃n,DataW.trod enc P W' 0 sp true n t [v]=some y:=by
 rcases open_ints ht he hc h with ⟨h1,h2⟩ |⟨a,len,cap,zs,hcs,hb0,hl,hm,hz,hx,hcell,hw⟩
 ·injection h1 with h1
  subst h1 h2
  exact field_of_Trod (shut_slice_nil ht) rfl
 ·injection hcs with hcs
  subst hcs hx
  rw [if_pos rfl] at hz
  refine ⟨2,shut_ints 0 ht he hc hb0 hl hm ?_ (fun i hi=>cell_below hb (hcell i hi)) hw⟩
  by_cases h0:cap=0
  ·rw [hz];split<;>omega
  ·have hsa:sp a.block=true:=hs (.cell a.block (a.off+0)) (MemPlace.mem_row.2 ⟨0,by omega,rfl⟩)
   rw [if_pos hsa]
   exact hz
theorem ints_open {t e:TypeId} {k:IntKind} {n:Nat} {v:Value} {y:DataW H×List MemPlace} (ht:P.underlying t=some (.slice e)) (he:P.underlying e=some (.int k)) (hc:P.cellsOf e=1)
  (h:DataW.trod enc P W 0 (fun _=>true) true n t [v]=some y):∃(A:Option Addr) (c:Nat) (l:List Int) (te:TypeId),v= .slice A l.length c/\l.length<=c/\c<=9223372036854775807/\Ints W A te k l/\∀x∈l,(Lit.int k x).wf=true:=by
 rcases open_ints ht he hc h with ⟨h1,h2⟩ |⟨a,len,cap,zs,hcs,hb0,hl,hm,hz,hx,hcell,hw⟩
 ·injection h1 with h1
  exact ⟨none,0,[],0,by rw [h1];rfl,Nat.le_refl _,by omega,Ints.nil,by simp⟩
 ·injection hcs with hcs
  rw [if_pos rfl] at hz
  have hlen:(zs.take len).length=len:=by rw [List.length_take];omega
  have hm2:cap<=9223372036854775807:=hm
  by_cases h0:len=0
  ·refine ⟨some a,cap,[],0,by rw [hcs,h0];rfl,by simp,hm2,Ints.nil,by simp⟩
  ·have hc0:=hcell 0 (by omega)
   have ha:a.add 0=a:=by simp [Addr.add]
   rw [ha] at hc0
   unfold World.cell? at hc0
   split at hc0
   ·rename_i c te fr hbl
    split at hc0
    ·cases hc0
    rename_i hsp
    obtain ⟨ab,ao,asp⟩:=a
    have has:asp=none:=by cases asp<;>simp_all
    subst has
    refine ⟨_,cap,zs.take len,te,by rw [hlen];exact hcs,by omega,hm2,fun _=>⟨ab,ao,c,fr,rfl,hbl,fun j u hu=>?_⟩,fun x hx=>hw x (List.mem_of_mem_take hx)⟩
    rw [List.getElem?_map,List.getElem?_take] at hu
    split at hu
    ·rename_i hj
     have hcj:=hcell j (by omega)
     rw [show (⟨ab,ao,none⟩:Addr).add j=⟨ab,ao+j,none⟩ by unfold Addr.add;split<;>simp_all] at hcj
     unfold World.cell? at hcj
     simp only [hbl] at hcj
     rw [List.getElem?_eq_getElem (by omega)] at hu
     simp at hu
     subst hu
     have :zs.getD j 0=zs[j]'(by omega):=by simp [List.getD,show j<zs.length by omega]
     rw [this] at hcj
     simpa using hcj
    ·cases hu
   ·cases hc0
end
theorem u8_wf {x:Int} (h:(Lit.int .u8 x).wf=true):0<=x/\x<256:=by
 have e1:IntKind.u8.min=0:=rfl
 have e2:IntKind.u8.max=255:=rfl
 simp [Lit.wf] at h
 omega
theorem i8_wf {l:List Int} (h:∀x∈l,(Lit.int .i8 x).wf=true):I8 l:=fun x hx=>by
 have h:=h x hx
 have e1:IntKind.i8.min=-128:=rfl
 have e2:IntKind.i8.max=127:=rfl
 simp [Lit.wf] at h
 omega
structure Latt (W:World) (v:Value) where
 dim:Int
 kind:Int
 A:Option Addr
 l:List Int
 c:Nat
 B:Option Addr
 b:List Int
 d:Nat
 te:TypeId
 tb:TypeId
 eq:v= .agg #[.int .u8 dim,.int .u8 kind,.slice A l.length c,.slice B b.length d]
 ints:Ints W A te .i8 l
 i8:I8 l
 len:l.length<=9223372036854775807
 bints:Ints W B tb .i8 b
 bi8:I8 b
 blen:b.length<=9223372036854775807
 dim0:0<=dim
 dim1:dim<256
 kind0:0<=kind
 kind1:kind<256
set_option maxRecDepth 100000 in
theorem open_lattice {H:Type} {enc:TypeId×Value->H} {W:World} {r:Reach} {b0:Nat} {v:Value} {d:DataW H} {p:List MemPlace} (hv:Value.okWide Tryz.prog W r b0 24 v) (h:DataW.Trod enc Tryz.prog W 0 (fun _=>true) true 24 v d p):
  Nonempty (Latt W v)/\∀(W':World) (sp:Nat->Bool),Below W.heap.size W W'->(∀q∈p,sp q.block=true)->DataW.Trod enc Tryz.prog W' 0 sp true 24 v d p:=by
 obtain ⟨v0,v1,v2,v3,y0,y1,y2,y3,n,rfl,rfl,rfl,h0,h1,h2,h3⟩:=open_agg4 Tryz.underlying24 (by kernel_rfl) (by kernel_rfl) hv h
 have hu8:Tryz.prog.underlying 5=some (.int .u8):=Tryz.underlying5
 have hsl:Tryz.prog.underlying 22=some (.slice 62):=Tryz.underlying22
 have hi8:Tryz.prog.underlying 62=some (.int .i8):=Tryz.underlying62
 have hce:Tryz.prog.cellsOf 62=1:=by kernel_rfl
 obtain ⟨dim,e0,rfl,w0⟩:=DataW.trod_int hu8 h0
 obtain ⟨kind,e1,rfl,w1⟩:=DataW.trod_int hu8 h1
 injection e0 with e0
 injection e1 with e1
 subst e0 e1
 refine ⟨?_,fun W' sp hb hs=>?_⟩
 ·obtain ⟨A,c,l,te,e2,k1,k2,hI,h8⟩:=ints_open hsl hi8 hce h2
  obtain ⟨B,c',b,tb,e3,k3,k4,hI',h8'⟩:=ints_open hsl hi8 hce h3
  exact ⟨⟨dim,kind,A,l,c,B,b,c',te,tb,by rw [e2,e3],hI,i8_wf h8,by omega,hI',i8_wf h8',by omega,(u8_wf w0).1,(u8_wf w0).2,(u8_wf w1).1,(u8_wf w1).2⟩⟩
 ·exact shut_agg4 Tryz.underlying24 (by kernel_rfl) (by kernel_rfl) (field_of_Trod (shut_int hu8 w0) rfl) (field_of_Trod (shut_int hu8 w1) rfl) (ints_stay hsl hi8 hce h2 hb (fun q hq=>hs q (by simp [hq]))) (ints_stay hsl hi8 hce h3 hb (fun q hq=>hs q (by simp [hq])))
end Go.Proofs.YtjehjkipcaohpaaGreat
namespace Go.Proofs.YtjehjkipcaohpaaGreat
set_option maxRecDepth 100000
def io:{L:List Char // Tryz.prog.initOrder.toList=L}:=⟨_,(congrArg String.toList (rfl:Tryz.prog.initOrder=String.ofList _)).trans String.toList_ofList⟩
theorem c_later:Tryz.prog.laysLater=false:=by kernel_rfl
theorem c_reflect:Tryz.prog.bearsReflect=false:=by kernel_rfl
theorem c_doors:Tryz.prog.doorRows=[]:=by kernel_rfl
theorem c_words : ∃ rest, behindMainWord (wordsSigns Tryz.prog.initOrder.toList) = "cut".toList :: rest := by
 rw [io.2]
 exact ⟨(behindMainWord (wordsSigns io.1)).tail,by kernel_rfl⟩
theorem make_of {P : Program} {m : Make} {rest : List (List Char)} (h : behindMainWord (wordsSigns P.initOrder.toList) = "cut".toList :: rest) (hm : m = .cut) : (P.make == some m) = true := by
 subst hm
 unfold Program.make
 rw [h]
 kernel_rfl
theorem lifts_of {P : Program} {b : Bool} {rest : List (List Char)} (h : behindMainWord (wordsSigns P.initOrder.toList) = "cut".toList :: rest) (hb : b = false) : (b == P.liftsFinal) = true := by
 subst hb
 unfold Program.liftsFinal Program.headLifts
 rw [h]
 kernel_rfl
theorem may_of {P : Program} {rest : List (List Char)} (h : behindMainWord (wordsSigns P.initOrder.toList) = "cut".toList :: rest) (h1 : P.laysLater = false) (h2 : P.bearsReflect = false) (h3 : P.doorRows = []) : P.mayEnter = true := by
 unfold Program.mayEnter Program.doorFits
 rw [h,h1,h2,h3]
 kernel_rfl
theorem c_may:Tryz.prog.mayEnter=true:=by
 obtain ⟨rest,h⟩:=c_words
 exact may_of h c_later c_reflect c_doors
theorem c_make {m:Make} (hm:m= .cut):(Tryz.prog.make==some m)=true:=by
 obtain ⟨rest,h⟩:=c_words
 exact make_of h hm
theorem c_lifts {b:Bool} (hb:b=false):(b==Tryz.prog.liftsFinal)=true:=by
 obtain ⟨rest,h⟩:=c_words
 exact lifts_of h hb
theorem and_mk {a b:Bool} (ha:a=true) (hb:b=true):(a&&b)=true:=by rw [ha,hb];rfl
end Go.Proofs.YtjehjkipcaohpaaGreat
namespace Go.Proofs.YtjehjkipcaohpaaGreat
open La
def tLo (m:List (List Int)) (b:Int) (k:Nat) (t:List Int):Int:=vLo (minorsTo m m.length) (lamTo m m.length) k (left (ent m) b (k+1) t) t
def tHi (m:List (List Int)) (b:Int) (k:Nat) (t:List Int):Int:=vHi (minorsTo m m.length) (lamTo m m.length) k (left (ent m) b (k+1) t) t
def tCnt (m:List (List Int)) (b:Int) (k:Nat) (t:List Int):Nat:=(tHi m b k t-tLo m b k t+1).toNat
theorem sumR_shift (n:Nat) (F:Nat->Int):sumR (n+1) F=F 0+sumR n fun i=>F (i+1):=by
 induction n with
 |zero=>simp [sumR]
 |succ n ih=>rw [sumR_succ,ih,sumR_succ];omega
theorem sumZ_sumR (g:Nat->Int) (t:List Int):∀k,sumZ g k t=sumR t.length fun i=>g (k+i)*t.getD i 0:=by
 induction t with
 |nil=>intro k;simp [sumZ,sumR]
 |cons c t ih=>
  intro k
  rw [sumZ,ih (k+1),List.length_cons,sumR_shift]
  congr 1
  refine sumR_congr fun i _=>?_
  rw [show k+1+i=k+(i+1) by omega]
  rfl
/-! ## The tails that the reference walks -/
/-! ## Sorted lists of items -/
end Go.Proofs.YtjehjkipcaohpaaGreat
