/- Un1 Mk9 Mk10 Mk8b R11g Sh11 Sam11 -/
import Derived.Test.YtjehjkipcaohpaaGreatVX03
import Derived.Test.YtjehjkipcaohpaaGreatProg
import Derived.Test.YtjehjkipcaohpaaGreatShelf
set_option maxHeartbeats 8000000
set_option linter.unusedVariables false
set_option linter.unusedSimpArgs false
set_option linter.constructorNameAsVariable false
namespace Go.Proofs.YtjehjkipcaohpaaGreat
open La
def Dz (n:Nat) (g t:Nat->Nat->Int) (x y:Nat):Int:=sumR n fun q=>(sumR n fun p=>t p x*g p q)*t q y
def cutZ (n:Nat) (f:Nat->Nat->Int):Nat->Nat->Int:=fun x y=>if x<n/\y<n then f x y else 0
def UOK (n:Nat) (t:Nat->Nat->Int):Prop:=∀g:Nat->Nat->Int,(∀x y,n<=x∨n<=y->g x y=0)->Bs n g (cutZ n (Dz n g t))
theorem Dz_congr {n:Nat} (g:Nat->Nat->Int) {t t':Nat->Nat->Int} (h:∀p x,p<n->x<n->t p x=t' p x) {x y:Nat} (hx:x<n) (hy:y<n):Dz n g t x y=Dz n g t' x y:=by
 unfold Dz
 refine sumR_congr fun q hq=>?_
 rw [h q y hq hy]
 congr 1
 exact sumR_congr fun p hp=>by rw [h p x hp hx]
theorem UOK.congr {n:Nat} {t t':Nat->Nat->Int} (h:UOK n t) (he:∀p x,p<n->x<n->t p x=t' p x):UOK n t':=fun g hg=>by
 have e:cutZ n (Dz n g t')=cutZ n (Dz n g t):=by
  funext x y
  unfold cutZ
  split
  ·rename_i hxy
   exact (Dz_congr g he hxy.1 hxy.2).symm
  ·rfl
 rw [e]
 exact h g hg
theorem UOK.one (n:Nat):UOK n fun p x=>if p=x then 1 else 0:=fun g hg=>by
 have e:cutZ n (Dz n g fun p x=>if p=x then 1 else 0)=g:=by
  funext x y
  unfold cutZ
  split
  ·rename_i hxy
   unfold Dz
   show (sumR n fun q=>(sumR n fun p=>(if p=x then 1 else 0)*g p q)*(if q=y then 1 else 0))=g x y
   rw [sumR_one hxy.2 (fun q _ hne=>by rw [if_neg hne,Int.mul_zero]),if_pos rfl,Int.mul_one]
   rw [sumR_one hxy.1 (fun p _ hne=>by rw [if_neg hne,Int.zero_mul]),if_pos rfl,Int.one_mul]
  ·rename_i hxy
   exact (hg x y (by omega)).symm
 rw [e]
 exact .refl
theorem sumR_addR (n:Nat) (F G:Nat->Int):(sumR n fun i=>F i+G i)=sumR n F+sumR n G:=by
 induction n with
 |zero=>simp [sumR]
 |succ n ih=>rw [sumR_succ,ih,sumR_succ,sumR_succ];omega
theorem UOK.add {n:Nat} {t:Nat->Nat->Int} {i j:Nat} (c:Int) (h:UOK n t) (hi:i<n) (hj:j<n) (hne:i≠j):UOK n fun p x=>if x=i then t p i+c*t p j else t p x:=fun g hg=>by
 have e:cutZ n (Dz n g fun p x=>if x=i then t p i+c*t p j else t p x)=redZ i j (-c) (cutZ n (Dz n g t)):=by
  funext x y
  have e1:∀x q,(sumR n fun p=>(if x=i then t p i+c*t p j else t p x)*g p q)=(sumR n fun p=>t p x*g p q)+(if x=i then c*sumR n (fun p=>t p j*g p q) else 0):=fun x q=>by
   by_cases hx:x=i
   ·subst hx
    simp only [if_true]
    rw [<-sumR_cmul,<-sumR_addR]
    exact sumR_congr fun p _=>by grind
   ·simp only [if_neg hx]
    omega
  have e2:∀x y,Dz n g (fun p x=>if x=i then t p i+c*t p j else t p x) x y=(Dz n g t x y+(if x=i then c*Dz n g t j y else 0))+(if y=i then c*(Dz n g t x j+(if x=i then c*Dz n g t j j else 0)) else 0):=fun x y=>by
   unfold Dz
   simp only [e1]
   by_cases hx:x=i
   ·by_cases hy:y=i
    ·simp only [if_pos hx,if_pos hy]
     rw [<-sumR_cmul,<-sumR_cmul,<-sumR_addR,<-sumR_addR,<-sumR_cmul,<-sumR_addR]
     exact sumR_congr fun p _=>by rw [hy];grind
    ·simp only [if_pos hx,if_neg hy]
     rw [<-sumR_cmul,<-sumR_addR,Int.add_zero]
     exact sumR_congr fun p _=>by grind
   ·by_cases hy:y=i
    ·simp only [if_neg hx,if_pos hy]
     rw [Int.add_zero,Int.add_zero,<-sumR_cmul,<-sumR_addR]
     exact sumR_congr fun p _=>by rw [hy];grind
    ·simp only [if_neg hx,if_neg hy,Int.add_zero]
  unfold cutZ redZ
  simp only [e2]
  by_cases hx:x<n
  ·by_cases hy:y<n
   ·simp only [hx,hy,hj,and_self,if_true]
    by_cases hxi:x=i<;>by_cases hyi:y=i<;>simp only [hxi,hyi,if_true,if_false]<;>grind
   ·have :y≠i:=by omega
    simp only [hx,hy,this,and_false,if_false]
    split<;>omega
  ·have :x≠i:=by omega
   simp only [hx,this,false_and,if_false]
   split<;>omega
 rw [e]
 exact (h g hg).add (-c) hi hj hne
theorem tr_lt {n i j x:Nat} (hi:i<n) (hj:j<n):La.tr i j x<n↔x<n:=by unfold La.tr;(repeat' split)<;>omega
theorem UOK.swap {n:Nat} {t:Nat->Nat->Int} {i j:Nat} (h:UOK n t) (hi:i<n) (hj:j<n) (hne:i≠j):UOK n fun p x=>t p (La.tr i j x):=fun g hg=>by
 have e:cutZ n (Dz n g fun p x=>t p (La.tr i j x))=trZ i j (cutZ n (Dz n g t)):=by
  funext x y
  unfold cutZ trZ
  simp only [tr_lt hi hj]
  rfl
 rw [e]
 exact (h g hg).tr hi hj hne
theorem UOK.neg {n:Nat} {t:Nat->Nat->Int} {i:Nat} (h:UOK n t) (hi:i<n):UOK n fun p x=>if x=i then-t p x else t p x:=fun g hg=>by
 have e:cutZ n (Dz n g fun p x=>if x=i then-t p x else t p x)=ngZ i (cutZ n (Dz n g t)):=by
  funext x y
  have e1:∀p x,(if x=i then-t p x else t p x)=snZ i x*t p x:=fun p x=>by unfold snZ;split<;>omega
  unfold cutZ ngZ
  by_cases hxy:x<n/\y<n
  ·simp only [if_pos hxy]
   unfold Dz
   simp only [e1]
   rw [<-sumR_cmul]
   refine sumR_congr fun q _=>?_
   have :(sumR n fun p=>snZ i x*t p x*g p q)=snZ i x*sumR n fun p=>t p x*g p q:=by
    rw [<-sumR_cmul]
    exact sumR_congr fun p _=>Int.mul_assoc _ _ _
   rw [this]
   grind
  ·simp only [if_neg hxy,Int.mul_zero]
 rw [e]
 exact (h g hg).ng i hi
theorem congM_D {n:Nat} {a u:List (List Int)}:ent (congM n a u)=cutZ n (Dz n (ent a) (ent u)):=by
 funext x y
 unfold cutZ
 split
 ·rename_i h
  exact ent_congM h.1 h.2
 ·rename_i h
  exact congM_out (by omega)
def unF (i j:Nat) (c:Int) (f:Nat->Nat->Int):Nat->Nat->Int:=fun p x=>
 if i=j then (if c<0 then (if x=i then-f p x else f p x) else f p x)
 else if c=0 then f p (La.tr i j x) else (if x=i then f p i+c*f p j else f p x)
theorem UOK.step {n:Nat} {t:Nat->Nat->Int} {i j:Nat} (c:Int) (h:UOK n t) (hi:i<n) (hj:j<n):UOK n (unF i j c t):=by
 unfold unF
 by_cases hij:i=j
 ·by_cases hc:c<0
  ·simp only [if_pos hij,if_pos hc];exact h.neg hi
  ·simp only [if_pos hij,if_neg hc];exact h
 ·by_cases hc:c=0
  ·simp only [if_neg hij,if_pos hc];exact h.swap hi hj hij
  ·simp only [if_neg hij,if_neg hc];exact h.add c hi hj hij
theorem unF_bd {i j:Nat} {c B:Int} {f:Nat->Nat->Int} (hc:-2<=c/\c<=2) (h:∀p x,-B<=f p x/\f p x<=B) (p x:Nat):-(3*B)<=unF i j c f p x/\unF i j c f p x<=3*B:=by
 have h1:=h p x
 have h2:=h p i
 have h3:=h p j
 have h4:=h p (La.tr i j x)
 unfold unF
 have h5:-(2*B)<=c*f p j/\c*f p j<=2*B:=by
  rcases (by omega:c=-2∨c=-1∨c=0∨c=1∨c=2) with rfl |rfl |rfl |rfl |rfl<;>omega
 (repeat' split)<;>omega
theorem Gm.cong {n:Nat} {a u:List (List Int)} (g:Gm n a) (hu:UOK n (ent u)) (hbd:BdM 199 (congM n a u)):Gm n (congM n a u)/\Bs n (ent a) (ent (congM n a u)):=by
 have hb:Bs n (ent a) (ent (congM n a u)):=by
  rw [congM_D]
  exact hu _ fun x y hxy=>ent_out g.all (by rw [g.len];exact hxy)
 have hs:Sym (ofZ (ent a)):=sym_of (by have :=g.all;rw [<-g.len] at this;exact this) (fun i j hi hj=>g.sym i j (by rw [<-g.len];exact hi) (by rw [<-g.len];exact hj))
 obtain ⟨h1,h2,h3⟩:=hb.ok hs g.pos
 refine ⟨⟨g.n1,g.n8,congM_len _ _ _,congM_all _ _ _,fun i j _ _=>?_,h2,?_,hbd⟩,hb⟩
 ·have :=h1 i j
  simpa [ofZ,Rat.intCast_inj] using this
 ·have hn:=g.n1
  have d1:=(E_eq (ent a) n g.pos.piv).2.1
  have d2:=(E_eq (ent (congM n a u)) n h2.piv).2.1
  have e:lastE (ent (congM n a u)) n=lastE (ent a) n:=by
   have :((lastE (ent (congM n a u)) n:Int):Rat)=((lastE (ent a) n:Int):Rat):=by rw [d2,d1,h3]
   exact Rat.intCast_inj.1 this
  obtain ⟨k,rfl⟩:∃k,n=k+1:=⟨n-1,by omega⟩
  have g1:=g.det
  rw [show k+1-1=k by omega] at g1 |-
  have e2:E (ent (congM (k+1) a u)) k k k=E (ent a) k k k:=e
  rw [e2];exact g1
end Go.Proofs.YtjehjkipcaohpaaGreat
namespace Go.Proofs.YtjehjkipcaohpaaGreat
open Go.RowKit
open La
def TapeA (w:World) (T:Nat) (te:TypeId) (A:Option Addr) (c:Nat) (l:List Int) (k:Nat):Prop:=w.heap[T]? =some (.cells #[.slice A l.length c,.int .i64 (min k l.length:Nat)] 140 (0,0))/\Ints w A te .i8 l/\(0<l.length->∀a,A=some a->a.block<T)
section
variable {w w':World} {T:Nat} {te:TypeId} {A:Option Addr} {c:Nat} {l:List Int} {k:Nat}
theorem TapeA.ext (h:TapeA w T te A c l k) (hx:Ext w w'):TapeA w' T te A c l k:=⟨heap_of_ext hx h.1,h.2.1.ext hx,h.2.2⟩
theorem TapeA.lt (h:TapeA w T te A c l k):T<w.heap.size:=lt_of_heap h.1
theorem TapeA.keep (h:TapeA w T te A c l k) {lo:Nat} (hA:0<l.length->∀a,A=some a->a.block<lo) (hk:∀b,(b=T∨b<lo)->w'.heap[b]? =w.heap[b]?):TapeA w' T te A c l k:=by
 refine ⟨(hk T (.inl rfl)).trans h.1,fun h0=>?_,h.2.2⟩
 obtain ⟨b,o,cs,fr,rfl,hb,hc⟩:=h.2.1 h0
 exact ⟨b,o,cs,fr,rfl,(hk b (.inr (hA (by simpa using h0) _ rfl))).trans hb,hc⟩
end
def RetTapeA (w:World) (T:Nat) (te:TypeId) (A:Option Addr) (c:Nat) (l:List Int) (k:Nat) (v:Value) (e:Ending) (w':World):Prop:=e= .returned v/\TapeA w' T te A c l k/\Only T w w'
theorem rNextA_ok {w:World} {T:Nat} {te:TypeId} {A:Option Addr} {c:Nat} {l:List Int} {k:Nat} (h:TapeA w T te A c l k) (h8:I8 l) (hl:l.length<=9223372036854775807):
  Calls Tryz.prog 159 #[.pointer (some ⟨T,0,none⟩)] w (RetTapeA w T te A c l (k+1) (.int .i64 (l.getD k 0))):=by
 have hT:=h.lt
 obtain ⟨h1,h2,h3⟩:=id h
 obtain ⟨q1,q2,q3,q4,q5⟩:=box_cells2 h1
 by_cases hk:k<l.length
 ·rw [show min k l.length=k by omega] at q2 h1
  obtain ⟨b,o,x,rfl,hx,hc,hb⟩:=h2.at_ hk
  have hbT:=h3 (by omega) _ rfl
  simp only at hbT
  have hxe:l.getD k 0=x:=by simp [hx]
  have hx8:=h8 x (List.mem_of_getElem? hx)
  have HG:=Lib.hid h
  have H1:=Lib.hid h1
  have H2:=Lib.hid h2
  have hge:decide ((l.length:Int)<=(k:Int))=false:=by simp;omega
  have hap:Apart b T:=⟨by omega⟩
  rw [hxe]
  clear h h1 h2 h3 hx hxe
  go_enter Tryz.func159,Tryz.ntmps159
  go_wp2_with fail
  go_quiet (fail)
  go_wp2_with fail
  go_quiet (fail)
  go_wp2_with fail
  go_ret
  rename_i nq1 _
  have hxa:Ext w (w.drewN nq1):=inferInstance
  have hT2:T<(w.drewN nq1).heap.size:=hT
  have hb2:((w.drewN nq1).setCell ⟨T,1,none⟩ (.int .i64 ((k:Int)+1))).heap[T]? =some (.cells #[.slice (some ⟨b,o,none⟩) l.length c,.int .i64 ((k:Int)+1)] 140 (0,0)):=box_set2_1 (heap_of_ext hxa H1.out)
  refine ⟨rfl,⟨?_,?_,fun _ a ha=>?_⟩,?_⟩
  ·rw [show ((min (k+1) l.length:Nat):Int)=(k:Int)+1 by omega]
   exact hb2
  ·have hA1:Ints ((w.drewN nq1).setCell ⟨T,1,none⟩ (.int .i64 ((k:Int)+1))) (some ⟨b,o,none⟩) te .i8 l:=fun h0=>by
    obtain ⟨b',o',cs,fr,e1,hb',hc'⟩:=(H2.out.ext hxa) h0
    have e2:b=b':=by injection e1 with e1;injection e1
    exact ⟨b',o',cs,fr,e1,(Below.heap_setCell _ ⟨T,1,none⟩ _ b' (by simp;omega)).trans hb',hc'⟩
   exact hA1.ext inferInstance
  ·injection ha with ha
   subst ha
   exact hbT
  ·exact ((Only.of_ext hxa (Nat.le_of_lt hT)).trans (Only.set hT2 1 (.int .i64 ((k:Int)+1)))).trans (Only.of_ext inferInstance (by rw [size_setCell];exact Nat.le_of_lt hT2))
 ·rw [show min k l.length=l.length by omega] at q2 h1
  have hxe:l.getD k 0=0:=by rw [List.getD_eq_getElem?_getD,List.getElem?_eq_none (by omega)];rfl
  have hge:decide ((l.length:Int)<=(l.length:Int))=true:=by simp
  have HH:Hid (∀W,Ext w W->TapeA W T te A c l (k+1)):=Lib.hid (fun W hh=>by
   obtain ⟨a1,a2,a3⟩:=h.ext hh
   exact ⟨by rw [show min (k+1) l.length=min k l.length by omega];exact a1,a2,a3⟩)
  rw [hxe]
  clear h h1 h2 h3 hxe hk
  go_enter Tryz.func159,Tryz.ntmps159
  go_wp2_with fail
  go_quiet (fail)
  go_wp2_with fail
  go_ret
  exact ⟨rfl,HH.out _ inferInstance,Only.of_ext inferInstance (Nat.le_of_lt hT)⟩
theorem rBelowA_ok {w:World} {T:Nat} {te:TypeId} {A:Option Addr} {c:Nat} {l:List Int} {k m:Nat} (h:TapeA w T te A c l k) (h8:I8 l) (hl:l.length<=9223372036854775807) (hm:1<=m) (hm2:m<=1000):
  Calls Tryz.prog 98 #[.pointer (some ⟨T,0,none⟩),.int .i64 m] w (RetTapeA w T te A c l (k+1) (.int .i64 (l.getD k 0%256%m))):=by
 have HN:=Lib.hid (rNextA_ok h h8 hl)
 have hx8:=h8.get k
 clear h
 generalize l.getD k 0=x at*
 have hu:IntKind.u8.wrap x=x%256:=by simp only [IntKind.wrap_u8]
 have hu2:IntKind.i64.wrap (x%256)=x%256:=IntWalk.i64_in _ (by omega)
 have hx0:0<=x%256:=by omega
 have hx1:x%256<256:=by omega
 have hmz:((m:Int)==0)=false:=by simp;omega
 have hrm:(x%256).tmod m=x%256%m:=Int.tmod_eq_emod_of_nonneg hx0
 go_enter Tryz.func98,Tryz.ntmps98
 go_wp2_with (go_at_call 159;refine HN.out.mono ?_;rintro e w1 ⟨rfl,hT1,hO1⟩)
 go_ret
 exact ⟨by simp,hT1,hO1⟩
theorem P64.onlyT {w w':World} {lo g n rows T:Nat} {hs:List Nat} {a:List (List Int)} (h:P64 w lo g n rows hs a) (ho:Only T w w') (hT:g<T) (hh:∀b∈hs,b<T):P64 w' lo g n rows hs a:=
 ⟨(ho.below.block g hT).trans h.head,h.glo,h.le,h.len,h.dist,h.new,h.all,fun i b r hp hr=>(ho.below.block b (hh b (List.mem_of_getElem? hp))).trans (h.row i b r hp hr)⟩
def unP (i j:Nat) (c:Int) (U:List (List Int)) (n r:Nat):List (List Int):=tab (fun p x=>if p<r then unF i j c (ent U) p x else ent U p x) n n
def RetUni (w:World) (n:Nat) (e:Ending) (w':World):Prop:=∃g hs U,e= .returned (.slice (some ⟨g,0,none⟩) n n)/\P64 w' w.heap.size g n n hs U/\U.length=n/\UOK n (ent U)/\(∀p x,-531441<=ent U p x/\ent U p x<=531441)/\Ext w w'
def UnRel (w:World) (n lo g T:Nat) (hs:List Nat) (te:TypeId) (A:Option Addr) (c:Nat) (l:List Int) (s8:Value) (wr:World):Prop:=
 ∃(k p:Nat) (U:List (List Int)),k<=12/\s8= .int .i64 k/\Hid (P64 wr lo g n n hs U)/\U.length=n/\Hid (UOK n (ent U))/\Hid (∀p x,-((3^k:Nat):Int)<=ent U p x/\ent U p x<=((3^k:Nat):Int))/\Hid (TapeA wr T te A c l p)/\Ext w wr
def UnRel3 (w:World) (n lo g T:Nat) (hs:List Nat) (te:TypeId) (A:Option Addr) (c:Nat) (l:List Int) (p i j:Nat) (d:Int) (U:List (List Int)) (s62:Value) (wr:World):Prop:=
 ∃r:Nat,r<=n/\s62= .int .i64 r/\Hid (P64 wr lo g n n hs (unP i j d U n r))/\Hid (TapeA wr T te A c l p)/\Ext w wr
theorem unP_len (i j:Nat) (c:Int) (U:List (List Int)) (n r:Nat):(unP i j c U n r).length=n:=tab_length _ _ _
theorem unP_at {i j:Nat} {c:Int} {U:List (List Int)} {n r x:Nat} (hr:r<n) (hx:x<n):ent (unP i j c U n r) r x=ent U r x:=by
 unfold unP
 rw [ent_tab _ _ _ _ _ hr hx,if_neg (by omega)]
theorem unP_zero {i j:Nat} {c:Int} {U:List (List Int)} {n:Nat} (hl:U.length=n) (ha:AllLen U n):unP i j c U n 0=U:=by
 have h:=tab_eq U n ha
 rw [hl] at h
 conv=>rhs;rw [<-h]
 exact tab_eq_of fun p x _ _=>by rw [if_neg (by omega)];rfl
theorem unP_neg {i:Nat} {c:Int} {U:List (List Int)} {n r:Nat} (hr:r<n) (hi:i<n) (hc:c<0):setE (unP i i c U n r) r i (-ent U r i)=unP i i c U n (r+1):=by
 unfold unP
 rw [setE_tab hr hi]
 refine tab_eq_of fun p x _ _=>?_
 unfold unF
 simp only [if_true,if_pos hc]
 by_cases h1:p=r
 ·subst h1
  by_cases h2:x=i
  ·subst h2;simp
  ·simp [h2]
 ·by_cases h2:p<r
  ·have h3:p<r+1:=by omega
   simp [h1,h2,h3]
  ·have h3:¬p<r+1:=by omega
   simp [h1,h2,h3]
theorem unP_swap {i j:Nat} {U:List (List Int)} {n r:Nat} (hr:r<n) (hi:i<n) (hj:j<n) (hne:i≠j):setE (setE (unP i j 0 U n r) r i (ent U r j)) r j (ent U r i)=unP i j 0 U n (r+1):=by
 unfold unP
 rw [setE_tab hr hi,setE_tab hr hj]
 refine tab_eq_of fun p x _ _=>?_
 unfold unF La.tr
 simp only [if_neg hne,if_true]
 by_cases h1:p=r
 ·subst h1
  by_cases h2:x=i
  ·subst h2;simp [hne]
  ·by_cases h3:x=j
   ·subst h3;simp [h2]
   ·simp [h2,h3]
 ·by_cases h2:p<r
  ·have h3:p<r+1:=by omega
   simp [h1,h2,h3]
  ·have h3:¬p<r+1:=by omega
   simp [h1,h2,h3]
theorem unP_add {i j:Nat} {c:Int} {U:List (List Int)} {n r:Nat} (hr:r<n) (hi:i<n) (hne:i≠j) (hc:c≠0):setE (unP i j c U n r) r i (ent U r i+c*ent U r j)=unP i j c U n (r+1):=by
 unfold unP
 rw [setE_tab hr hi]
 refine tab_eq_of fun p x _ _=>?_
 unfold unF
 simp only [if_neg hne,if_neg hc]
 by_cases h1:p=r
 ·subst h1
  by_cases h2:x=i
  ·subst h2;simp
  ·simp [h2]
 ·by_cases h2:p<r
  ·have h3:p<r+1:=by omega
   simp [h1,h2,h3]
  ·have h3:¬p<r+1:=by omega
   simp [h1,h2,h3]
theorem unP_same {i:Nat} {c:Int} {U:List (List Int)} {n r:Nat} (hc:¬c<0):unP i i c U n r=unP i i c U n (r+1):=by
 unfold unP
 refine tab_eq_of fun p x _ _=>?_
 unfold unF
 simp only [if_true,if_neg hc]
 split<;>split<;>rfl
theorem unP_ok {i j:Nat} {c:Int} {U:List (List Int)} {n:Nat} (h:UOK n (ent U)) (hi:i<n) (hj:j<n):UOK n (ent (unP i j c U n n)):=(h.step c hi hj).congr fun p x hp hx=>by
 unfold unP
 rw [ent_tab _ _ _ _ _ hp hx,if_pos hp]
theorem unP_bd {i j:Nat} {c B:Int} {U:List (List Int)} {n:Nat} (hB:0<=B) (hc:-2<=c/\c<=2) (h:∀p x,-B<=ent U p x/\ent U p x<=B) (p x:Nat):-(3*B)<=ent (unP i j c U n n) p x/\ent (unP i j c U n n) p x<=3*B:=by
 by_cases hpx:p<n/\x<n
 ·unfold unP
  rw [ent_tab _ _ _ _ _ hpx.1 hpx.2,if_pos hpx.1]
  exact unF_bd hc h p x
 ·have :ent (unP i j c U n n) p x=0:=ent_tab_out2 _ _ _ _ _ hpx
  rw [this];omega
theorem idP_next {w:World} {lo g n q b:Nat} {hs:List Nat} (h:P64 w lo g n n (hs++[b]) (setE (tab (fun x y=>if x=y then (1:Int) else 0) q n++[List.replicate n 0]) q q 1)):P64 w lo g n n (hs++[b]) (tab (fun x y=>if x=y then 1 else 0) (q+1) n):=by
 have e:setE (tab (fun x y=>if x=y then (1:Int) else 0) q n++[List.replicate n 0]) q q 1=tab (fun x y=>if x=y then 1 else 0) (q+1) n:=by
  have h1:=setE_last (a:=tab (fun x y=>if x=y then (1:Int) else 0) q n) (r:=List.replicate n 0) (j:=q) (z:=1)
  rw [tab_length] at h1
  rw [h1]
  unfold tab
  rw [List.range_succ,List.map_append]
  congr 1
  rw [List.map_singleton]
  congr 1
  apply List.ext_getElem?
  intro j
  by_cases hj:j<n
  ·by_cases e:q=j
   ·subst e
    rw [List.getElem?_set_self (by simpa using hj)]
    simp [hj]
   ·rw [List.getElem?_set_ne e]
    simp [hj,e]
  ·rw [List.getElem?_eq_none (by simp;omega),List.getElem?_eq_none (by simp;omega)]
 rwa [e] at h
set_option maxRecDepth 20000 in
theorem rUnimodular_ok {w:World} {te:TypeId} {A:Option Addr} {c n:Nat} {l:List Int} (hI:Ints w A te .i8 l) (h8:I8 l) (hl:l.length<=9223372036854775807) (hn1:1<=n) (hn:n<=1000):
  Calls Tryz.prog 110 #[.slice A l.length c,.int .i64 n] w (RetUni w n):=by
 have hmk:=run_make_any (P:=Tryz.prog) Tryz.underlying26 infoSlI64 (by omega) (n:Int) (by omega) (by omega)
 have hmk2:=run_make_ints (P:=Tryz.prog) Tryz.underlying37 infoI64 (by omega) (n:Int) (by omega) (by omega)
 have hAlo:0<l.length->∀a,A=some a->a.block<w.heap.size:=fun h0 a ha=>by
  obtain ⟨b,o,cs,fr,hA,hb,-⟩:=hI (by simpa using h0)
  rw [hA] at ha
  injection ha with ha
  rw [<-ha]
  exact lt_of_heap hb
 have HAL:=Lib.hid hAlo
 have HI:=Lib.hid hI
 have H8:=Lib.hid h8
 clear hI h8 hAlo
 go_enter Tryz.func110,Tryz.ntmps110
 go_wp2_with fail
 go_loopg [6,17] n (fun gk _ i wr=>∃(q:Nat) (hs:List Nat),q<=n/\gk=n-q/\i= .int .i64 q/\Hid (hs.length=q)/\Hid (P64 wr w.heap.size w.heap.size n n hs (tab (fun x y=>if x=y then 1 else 0) q n))/\Ext w wr)
 case atStart=>exact ⟨0,[],by omega,by omega,rfl,Lib.hid rfl,Lib.hid (by simpa [Value.cells,tab] using P64.start w w.heap.size n n (Nat.le_refl _)),inferInstance⟩
 case round=>
  obtain ⟨q,hs,hq,rfl,rfl,HL,HP,hxr⟩:=hrel
  have hszr:=hxr.size
  by_cases hlt:q<n
  ·have hc:=HP.out.cells (by rw [HL.out];exact hlt)
   rw [HL.out] at hc
   obtain ⟨c1,c2,c3⟩:=hc
   have hold:=HP.out.old
   have hP1:=(HP.out.ext (inferInstance:Ext wr (wr.alloc (.cells (mkRow n .i64) 2)))).put (by rw [HL.out];exact hlt) (Row.made wr n .i64 2) (by simp) hszr (fun hb=>by have :=hold _ hb;omega)
   rw [HL.out] at hP1
   have hcomm:=World.setCell_alloc_past (w:=wr) (.cells (mkRow n .i64) 2) w.heap.size q (.slice (some ⟨wr.heap.size,0,none⟩) n n) c3
   rw [hcomm] at hP1
   obtain ⟨w2,hw2⟩:∃w2,w2=(wr.setCell ⟨w.heap.size,q,none⟩ (.slice (some ⟨wr.heap.size,0,none⟩) n n)).alloc (.cells (mkRow n .i64) 2):=⟨_,rfl⟩
   rw [<-hw2] at hP1
   have hxw2:Ext w w2:=by rw [hw2];exact inferInstance
   have hpl:(hs++[wr.heap.size])[q]? =some wr.heap.size:=by rw [List.getElem?_append_right (by rw [HL.out];exact Nat.le_refl _),HL.out,Nat.sub_self];rfl
   have hal:(tab (fun x y=>if x=y then (1:Int) else 0) q n++[List.replicate n 0]).length=q+1:=by simp [tab_length]
   obtain ⟨b',e1,h1,h2,h3,h4,-⟩:=hP1.hdr (i:=q) (by rw [hal];omega)
   rw [hpl] at e1
   injection e1 with e1
   subst e1
   obtain ⟨k1,k2⟩:=hP1.entry (i:=q) (j:=q) hpl (by rw [hal];omega) hlt
   have hP2:=hP1.set hpl (by rw [hal];omega) hlt 1
   generalize ent (tab (fun x y=>if x=y then (1:Int) else 0) q n++[List.replicate n 0]) q q=v0 at k1
   have HP2:=Lib.hid hP2
   have HPL:=Lib.hid hpl
   have HAL2:=Lib.hid hal
   clear hP1 hP2 hpl hal
   go_upto_region 6 with fail
   rw [<-hw2]
   have hnb:New wr.heap.size w:=⟨hszr⟩
   clear hw2 hcomm c1 c2
   go_wp2_with fail
   go_roundg (n-(q+1))
   case measure=>omega
   case rel=>exact ⟨q+1,hs++[wr.heap.size],by omega,by omega,by go_num,Lib.hid (by simp [HL.out]),Lib.hid (idP_next HP2.out),by first |exact inferInstance |(rw [<-hw2];exact inferInstance)⟩
  ·obtain rfl:q=n:=by omega
   have hl0:(tab (fun x y=>if x=y then (1:Int) else 0) q q).length=q:=tab_length _ _ _
   obtain ⟨U0,hU0⟩:∃U0,U0=tab (fun x y=>if x=y then (1:Int) else 0) q q:=⟨_,rfl⟩
   have HU0:Hid (UOK q (ent U0)):=Lib.hid ((UOK.one q).congr fun p x hp hx=>by rw [hU0,ent_tab _ _ _ _ _ hp hx])
   have HB0:Hid (∀p x,-((3^0:Nat):Int)<=ent U0 p x/\ent U0 p x<=((3^0:Nat):Int)):=Lib.hid (fun p x=>by
    rw [hU0]
    by_cases hpx:p<q/\x<q
    ·rw [ent_tab _ _ _ _ _ hpx.1 hpx.2];split<;>simp
    ·rw [ent_tab_out2 _ _ _ _ _ hpx];simp)
   rw [<-hU0] at HP hl0
   clear hU0
   have hold:∀b∈hs,b<wr.heap.size:=HP.out.old
   have HOLD:=Lib.hid hold
   have HDR:=HP.out.head.lt
   have hgT:w.heap.size<wr.heap.size:=HDR
   have HT0:Hid (TapeA (wr.alloc (.cells #[.slice A l.length c,.int .i64 0] 140)) wr.heap.size te A c l 0):=Lib.hid ⟨by have :=heap_alloc_new wr (.cells #[.slice A l.length c,.int .i64 0] 140);simpa using this,HI.out.ext inferInstance,fun h0 a ha=>Nat.lt_trans (HAL.out h0 a ha) hgT⟩
   have HP0:Hid (P64 (wr.alloc (.cells #[.slice A l.length c,.int .i64 0] 140)) w.heap.size w.heap.size q q hs U0):=Lib.hid (HP.out.ext inferInstance)
   obtain ⟨T,hT⟩:∃T,T=wr.heap.size:=⟨_,rfl⟩
   obtain ⟨w1,hw1⟩:∃w1,w1=wr.alloc (.cells #[.slice A l.length c,.int .i64 0] 140):=⟨_,rfl⟩
   have hxw1:Ext w w1:=by rw [hw1];exact inferInstance
   rw [<-hw1] at HT0 HP0
   rw [<-hT] at HT0 hgT
   rw [<-hT] at HOLD
   clear hold HDR HP
   go_wp2_with fail
   simp only [<-hw1,<-hT]
   clear hT hw1
   have hn1:1<=q:=hn1
   go_loopw [8] (fun s8 wr=>UnRel w q w.heap.size w.heap.size T hs te A c l s8 wr) (fun s8 _=>12-(intOf s8).toNat)
   case atStart=>exact ⟨0,0,U0,by omega,rfl,HP0,hl0,HU0,HB0,HT0,hxw1⟩
   case round=>
    unfold UnRel at hrel
    obtain ⟨k,p,U,hk,rfl,HP,hUl,HUO,HUB,HTA,hxr⟩:=hrel
    obtain ⟨q1,q2,q3,q4,q5⟩:=box_cells2 HTA.out.1
    have oT:Old T wr:=⟨q5⟩
    by_cases hgo:k<12/\p<l.length
    ·obtain ⟨hk12,hpl⟩:=hgo
     have hd1:decide ((k:Int)<12)=true:=by simp;omega
     have hd2:decide ((p:Int)<(l.length:Int))=true:=by simp;omega
     rw [show min p l.length=p by omega] at q2
     clear oT
     go_wp2_with fail
     go_quiet (fail)
     have HBL:Hid (∀W k,TapeA W T te A c l k->Calls Tryz.prog 98 #[.pointer (some ⟨T,0,none⟩),.int .i64 q] W (RetTapeA W T te A c l (k+1) (.int .i64 (l.getD k 0%256%q)))):=Lib.hid (fun W k h=>rBelowA_ok h H8.out hl hn1 hn)
     have HNX:Hid (∀W k,TapeA W T te A c l k->Calls Tryz.prog 159 #[.pointer (some ⟨T,0,none⟩)] W (RetTapeA W T te A c l (k+1) (.int .i64 (l.getD k 0)))):=Lib.hid (fun W k h=>rNextA_ok h H8.out hl)
     go_upto_region 14 with (first
      |(go_at_call 159;refine (HNX.out _ _ hT7).mono ?_;rintro e w8 ⟨rfl,hT8,hO8⟩)
      |(go_at_call 98;refine (HBL.out _ _ hT6).mono ?_;rintro e w7 ⟨rfl,hT7,hO7⟩)
      |(go_at_call 98;refine (HBL.out _ _ (HTA.out.ext inferInstance)).mono ?_;rintro e w6 ⟨rfl,hT6,hO6⟩))
     have hO:Only T wr w8:=((Only.of_ext (inferInstance:Ext wr (wr.drewN nq)) (Nat.le_of_lt q5)).trans (hO6.trans hO7)).trans hO8
     have HP8:Hid (P64 w8 w.heap.size w.heap.size q q hs U):=Lib.hid (HP.out.onlyT hO hgT HOLD.out)
     have hx8:Ext w w8:=hO.ext hxr (Nat.le_of_lt hgT)
     have HT8:=Lib.hid hT8
     obtain ⟨xp,hxp⟩:∃xp,l[p]=xp:=⟨_,rfl⟩
     obtain ⟨xq,hxq⟩:∃xq,l[p+1]?.getD 0=xq:=⟨_,rfl⟩
     obtain ⟨xd,hxd⟩:∃xd,l[p+1+1]?.getD 0=xd:=⟨_,rfl⟩
     rw [hxp,hxq,hxd]
     obtain ⟨i,hi⟩:∃i:Nat,xp%256%(q:Int)=i:=⟨(xp%256%(q:Int)).toNat,by have :=Int.emod_nonneg (xp%256) (show (q:Int)≠0 by omega);omega⟩
     obtain ⟨j,hj⟩:∃j:Nat,xq%256%(q:Int)=j:=⟨(xq%256%(q:Int)).toNat,by have :=Int.emod_nonneg (xq%256) (show (q:Int)≠0 by omega);omega⟩
     have hiq:i<q:=by have :=Int.emod_lt_of_pos (xp%256) (show (0:Int)<(q:Int) by omega);omega
     have hjq:j<q:=by have :=Int.emod_lt_of_pos (xq%256) (show (0:Int)<(q:Int) by omega);omega
     obtain ⟨hd3,hd4⟩:=tmod3 xd
     rw [hi,hj]
     clear hxp hxq hxd
     generalize xd.tmod 3=d at*
     have h3k:(3^k:Nat)<=3^11:=Nat.pow_le_pow_right (by omega) (by omega)
     rw [show (3:Nat)^11=177147 by decide] at h3k
     have HUL:Hid (AllLen U q):=Lib.hid HP8.out.all
     have HPU:Hid (P64 w8 w.heap.size w.heap.size q q hs (unP i j d U q 0)):=Lib.hid (by rw [unP_zero hUl HUL.out];exact HP8.out)
     clear hT6 hT7 hT8 hO6 hO7 hO8 hO hi hj q1 q2 q3 q4 hd1 hd2 HT0 HP0 HB0 HU0 hxw1 HI HL hxr HP HTA HBL HNX HP8 hpl hl0
     go_wp2_with fail
     go_loopw [12,62] (fun _ s62 wr=>UnRel3 w q w.heap.size w.heap.size T hs te A c l (p+1+1+1) i j d U s62 wr) (fun _ s62 _=>q-(intOf s62).toNat)
     case atStart=>exact ⟨0,by omega,rfl,HPU,HT8,hx8⟩
     case round=>
      unfold UnRel3 at hrel
      obtain ⟨r,hr,rfl,HP,HTA,hxr⟩:=hrel
      by_cases hlt:r<q
      ·have hML:(unP i j d U q r).length=q:=unP_len _ _ _ _ _ _
       obtain ⟨br,hpr,c1,c2,c3,c4,c5⟩:=HP.out.hdr (i:=r) (by rw [hML];exact hlt)
       have hgne:=HP.out.gne hpr (by rw [hML];exact hlt)
       obtain ⟨f1,f2⟩:=HP.out.entry (i:=r) (j:=i) hpr (by rw [hML];exact hlt) hiq
       obtain ⟨f3,f4⟩:=HP.out.entry (i:=r) (j:=j) hpr (by rw [hML];exact hlt) hjq
       rw [unP_at hlt hiq] at f1
       rw [unP_at hlt hjq] at f3
       have hbi:=HUB.out r i
       have hbj:=HUB.out r j
       have hnb:New br w:=⟨c5⟩
       have hbT:=HOLD.out br (List.mem_of_getElem? hpr)
       by_cases hij:i=j
       ·subst hij
        by_cases hdn:d<0
        ·have hS:=HP.out.set hpr (by rw [hML];exact hlt) hiq (-ent U r i)
         rw [unP_neg hlt hiq hdn] at hS
         have HS:=Lib.hid hS
         generalize ent U r i=ei at*
         have hwn:IntKind.i64.wrap (-ei)=-ei:=IntWalk.i64_in _ (by omega)
         have hdd:decide (d<0)=true:=by simpa using hdn
         clear hS hpr
         go_wp2_with fail
         go_region
         all_goals
          go_wp2_with fail
          exact ⟨⟨r+1,by omega,by go_num,Lib.hid (HS.out.ext inferInstance),Lib.hid (TapeA.ext (TapeA.keep HTA.out HAL.out fun b hb=>Below.heap_setCell wr ⟨br,i,none⟩ (.int .i64 (-ei)) b (by simp;omega)) inferInstance),inferInstance⟩,by simp [intOf]<;>omega⟩
        ·have hdd:decide (d<0)=false:=by simpa using hdn
         rw [unP_same hdn] at HP
         clear hpr f1 f3 hbi hbj
         go_wp2_with fail
         exact ⟨⟨r+1,by omega,by go_num,Lib.hid (HP.out.ext inferInstance),Lib.hid (HTA.out.ext inferInstance),inferInstance⟩,by simp [intOf]<;>omega⟩
       ·have hijb:((i:Int)==(j:Int))=false:=by simp;omega
        have hijn:((i:Int) !=(j:Int))=true:=by simp;omega
        by_cases hd0:d=0
        ·subst hd0
         have hS:=(HP.out.set hpr (by rw [hML];exact hlt) hiq (ent U r j)).set hpr (by rw [setE_len,hML];exact hlt) hjq (ent U r i)
         rw [unP_swap hlt hiq hjq hij] at hS
         have HS:=Lib.hid hS
         generalize ent U r i=ei at*
         generalize ent U r j=ej at*
         clear hS hpr hbi hbj
         go_wp2_with fail
         go_region
         all_goals
          go_wp2_with fail
          exact ⟨⟨r+1,by omega,by go_num,Lib.hid (HS.out.ext inferInstance),Lib.hid (TapeA.ext (TapeA.keep (TapeA.keep HTA.out HAL.out fun b hb=>Below.heap_setCell wr ⟨br,i,none⟩ (.int .i64 ej) b (by simp;omega)) HAL.out fun b hb=>Below.heap_setCell _ ⟨br,j,none⟩ (.int .i64 ei) b (by simp;omega)) inferInstance),inferInstance⟩,by simp [intOf]<;>omega⟩
        ·have hS:=HP.out.set hpr (by rw [hML];exact hlt) hiq (ent U r i+d*ent U r j)
         rw [unP_add hlt hiq hij hd0] at hS
         have HS:=Lib.hid hS
         generalize ent U r i=ei at*
         generalize ent U r j=ej at*
         have hdz:(d==0)=false:=by simpa using hd0
         have hm:-400000<=d*ej/\d*ej<=400000:=by
          rcases (by omega:d=-2∨d=-1∨d=1∨d=2) with rfl |rfl |rfl |rfl<;>omega
         obtain ⟨hm1,hm2⟩:=hm
         have hwm:IntKind.i64.wrap (d*ej)=d*ej:=IntWalk.i64_in _ (by omega)
         have hws:IntKind.i64.wrap (ei+d*ej)=ei+d*ej:=IntWalk.i64_in _ (by omega)
         clear hS hpr hbi hbj
         go_wp2_with fail
         go_region
         all_goals
          go_wp2_with fail
          exact ⟨⟨r+1,by omega,by go_num,Lib.hid (HS.out.ext inferInstance),Lib.hid (TapeA.ext (TapeA.keep HTA.out HAL.out fun b hb=>Below.heap_setCell wr ⟨br,i,none⟩ (.int .i64 (ei+d*ej)) b (by simp;omega)) inferInstance),inferInstance⟩,by simp [intOf]<;>omega⟩
      ·obtain rfl:r=q:=by omega
       go_wp2_with fail
       exact ⟨⟨k+1,_,_,by omega,by go_num,Lib.hid (HP.out.ext inferInstance),unP_len _ _ _ _ _ _,Lib.hid (unP_ok HUO.out hiq hjq),Lib.hid (fun p x=>by
        have :=unP_bd (i:=i) (j:=j) (n:=r) (B:=((3^k:Nat):Int)) (Int.natCast_nonneg _) ⟨hd3,hd4⟩ HUB.out p x
        rw [Nat.pow_succ];omega),Lib.hid (HTA.out.ext inferInstance),inferInstance⟩,by simp [intOf]<;>omega⟩
    ·have hor:decide ((k:Int)<12)=false∨(decide ((k:Int)<12)=true/\¬p<l.length):=by
      by_cases h:k<12
      ·exact .inr ⟨by simp;omega,fun h2=>hgo ⟨h,h2⟩⟩
      ·exact .inl (by simp;omega)
     have HFIN:Hid (∀W,Ext wr W->RetUni w q (.returned (.slice (some ⟨w.heap.size,0,none⟩) q q)) W):=Lib.hid (fun W e=>⟨_,hs,U,rfl,HP.out.ext e,hUl,HUO.out,fun p x=>by
      have :=HUB.out p x
      have h3k:(3^k:Nat)<=3^12:=Nat.pow_le_pow_right (by omega) hk
      rw [show (3:Nat)^12=531441 by decide] at h3k
      omega,hxr.trans e⟩)
     rcases hor with hd1 |⟨hd1,hpl⟩
     ·clear oT
      go_wp2_with fail
      go_quiet (fail)
      go_wp2_with fail
      go_ret
      exact HFIN.out _ inferInstance
     ·rw [show min p l.length=l.length by omega] at q2
      have hd2:decide ((l.length:Int)<(l.length:Int))=false:=by simp
      clear oT
      go_wp2_with fail
      go_quiet (fail)
      go_wp2_with fail
      go_ret
      exact HFIN.out _ inferInstance
theorem La.Bs.trans {n:Nat} {f g k:Nat->Nat->Int} (h:Bs n f g) (h':Bs n g k):Bs n f k:=by
 induction h' with
 |refl=>exact h
 |red i j q _ h1 h2 ih=>exact ih.red i j q h1 h2
 |sw p _ h1 ih=>exact ih.sw p h1
 |ng i _ h1 ih=>exact ih.ng i h1
theorem uni_bd {z:Int} (h:-531441<=z/\z<=531441):Bd 20 z:=by
 unfold Bd
 have :(2:Nat)^20=1048576:=by decide
 omega
theorem fits_bd {a:List (List Int)} (h:Fits64 a) (i j:Nat):Bd 64 (ent a i j):=by
 unfold ent
 rcases Nat.lt_or_ge i a.length with hi |hi
 ·have e:a.getD i []=a[i]:=by simp [List.getD,hi]
  rw [e]
  rcases Nat.lt_or_ge j (a[i]).length with hj |hj
  ·have e2:(a[i]).getD j 0=(a[i])[j]:=by simp [List.getD,hj]
   rw [e2]
   have :=h _ (List.getElem_mem hi) _ (List.getElem_mem hj)
   exact Bd.of64 this.1 this.2
  ·have e2:(a[i]).getD j 0=0:=by rw [List.getD_eq_getElem?_getD,List.getElem?_eq_none hj];rfl
   rw [e2];exact Bd.zero _
 ·have e:a.getD i []=[]:=by rw [List.getD_eq_getElem?_getD,List.getElem?_eq_none hi];rfl
  rw [e]
  exact Bd.zero _
theorem raw_bd {n:Nat} {a u:List (List Int)} (h4:n<=16) (ha:Fits64 a) (hu:∀p x,-531441<=ent u p x/\ent u p x<=531441):BdM 199 (congM n a u):=fun i j=>by
 have h1:=mulM_bd2 (n:=n) h4 (transM_bd (n:=n) (a:=u) (fun i j=>uni_bd (hu i j))) (fun i j=>fits_bd ha i j)
 have h2:=mulM_bd2 (n:=n) h4 h1 (fun i j=>uni_bd (hu i j))
 exact (h2 i j).mono (by omega)
theorem uni_fits {a:List (List Int)} {n:Nat} (ha:AllLen a n) (hu:∀p x,-531441<=ent a p x/\ent a p x<=531441):Fits64 a:=fun r hr x hx=>by
 obtain ⟨i,j,-,-,h⟩:=mem_ent ha hr hx
 have :=hu i j
 omega
def RetLB (w:World) (n:Nat) (l:List Int) (kk:Int) (e:Ending) (w':World):Prop:=∃a hh A c,e= .returned (.slice A n c)/\GrOf l n kk a/\LLLed hh/\hh.length=n/\Bs n (ent a) (ent hh)/\Mat64 w' A hh/\n<=c/\c<=9223372036854775807/\Step w w'
def RetRaw (w:World) (n:Nat) (l:List Int) (kk:Int) (e:Ending) (w':World):Prop:=∃a b A c,e= .returned (.slice A n c)/\GrOf l n kk a/\Gm n b/\Bs n (ent a) (ent b)/\MatV w' A b/\Step w w'
theorem rFormD_ok {w:World} {dim kind:Int} {NA:Option Addr} {l:List Int} {nc most:Nat} {v3:Value} {te:TypeId} (hN:Ints w NA te .i8 l) (h8:I8 l) (hl:l.length<=9223372036854775807) (hd0:0<=dim) (hd1:dim<256) (hk0:0<=kind) (hk1:kind<256) (hm1:1<=most) (hm4:most<=4):
  Calls Tryz.prog 27 #[.agg #[.int .u8 dim,.int .u8 kind,.slice NA l.length nc,v3],.int .i64 most] w (RetLB w (1+(dim%most).toNat) l (kind%8)):=by
 have hdm2:=Int.emod_lt_of_pos dim (show (0:Int)<most by omega)
 have HG:Hid (∀W,Ext w W->Calls Tryz.prog 58 #[.agg #[.int .u8 dim,.int .u8 kind,.slice NA l.length nc,v3],.int .i64 most] W (RetGmD W (1+(dim%most).toNat) l (kind%8))):=Lib.hid (fun W e=>rGramD_ok (hN.ext e) h8 hl hd0 hd1 hk0 hk1 hm1 (by omega))
 have hn4:1+(dim%most).toNat<=4:=by omega
 clear hN h8
 generalize 1+(dim%most).toNat=n at*
 have HOF:Hid (∀(W0 W:World) (A:Option Addr) (c:Nat) (a:List (List Int)),Gm n a->Mat64 W0 A a->Fits64 a->Ext W0 W->Calls Tryz.prog 57 #[.slice A n c] W (RetOwnI W n a)):=Lib.hid (fun W0 W A c a g hM hF e=>by
  have h:=rOf_ok (w:=W) (c:=c) hM n (by have :=g.n1;have :=g.len;omega) (by have :=g.len;omega) g.n1 (by omega) g.all hF
  rwa [g.len] at h)
 go_enter Tryz.func27,Tryz.ntmps27
 go_wp2_with (first
  |(go_at_call 58;refine (HG.out _ inferInstance).mono ?_;rintro e w1 ⟨g,a,rfl,hM,hGm,hF,hgr,hs1⟩;have hL:=hGm.len;have HM:=Lib.hid hM;have HGm:=Lib.hid hGm;have HF:=Lib.hid hF;have HGR:=Lib.hid hgr;have hs1b:=Step.of _ _ (h:=hs1);clear hM hGm hF hs1 hgr)
  |(go_at_call 57;refine (HOF.out _ _ _ _ _ HGm.out HM.out HF.out inferInstance).mono ?_;rintro e w2 ⟨g2,hs2',c2,rfl,hO2,-,-,hs2⟩;rw [hL];have HMV:=Lib.hid hO2.mat;clear hO2)
  |(go_at_call 56;refine (rReduce_ok HMV.out HGm.out hn4).mono ?_;rintro e w3 ⟨hh,A1,c1,A2,c2',rfl,hLL,hlen,hRel,hM3,hc1,hc2,hs3⟩))
 go_ret
 exact ⟨a,hh,A1,c1,rfl,HGR.out,hLL,hlen,(hRel.bs HGm.out.len HGm.out.all).1,hM3,hc1,hc2,Step.of _ _⟩
theorem rRaw_ok {w:World} {dim kind:Int} {NA BA:Option Addr} {l bl:List Int} {nc bc most:Nat} {te tb:TypeId} (hN:Ints w NA te .i8 l) (h8:I8 l) (hl:l.length<=9223372036854775807) (hB:Ints w BA tb .i8 bl) (hb8:I8 bl) (hbl:bl.length<=9223372036854775807) (hd0:0<=dim) (hd1:dim<256) (hk0:0<=kind) (hk1:kind<256) (hm1:1<=most) (hm4:most<=8):
  Calls Tryz.prog 64 #[.agg #[.int .u8 dim,.int .u8 kind,.slice NA l.length nc,.slice BA bl.length bc],.int .i64 most] w (RetRaw w (1+(dim%most).toNat) l (kind%8)):=by
 have hdm2:=Int.emod_lt_of_pos dim (show (0:Int)<most by omega)
 have HG:Hid (∀W,Ext w W->Calls Tryz.prog 58 #[.agg #[.int .u8 dim,.int .u8 kind,.slice NA l.length nc,.slice BA bl.length bc],.int .i64 most] W (RetGmD W (1+(dim%most).toNat) l (kind%8))):=Lib.hid (fun W e=>rGramD_ok (hN.ext e) h8 hl hd0 hd1 hk0 hk1 hm1 (by omega))
 have hn8:1+(dim%most).toNat<=8:=by omega
 have hn1:1<=1+(dim%most).toNat:=by omega
 clear hN h8
 generalize 1+(dim%most).toNat=n at*
 have HU:Hid (∀W,Ext w W->Calls Tryz.prog 110 #[.slice BA bl.length bc,.int .i64 n] W (RetUni W n)):=Lib.hid (fun W e=>rUnimodular_ok (hB.ext e) hb8 hbl hn1 (by omega))
 have HOF:Hid (∀(W0 W:World) (A:Option Addr) (c:Nat) (a:List (List Int)),a.length=n->AllLen a n->Mat64 W0 A a->Fits64 a->Ext W0 W->Calls Tryz.prog 57 #[.slice A n c] W (RetOwnI W n a)):=Lib.hid (fun W0 W A c a gl ga hM hF e=>by
  have h:=rOf_ok (w:=W) (c:=c) hM n (by omega) (by omega) hn1 (by omega) ga hF
  rwa [gl] at h)
 have HCG:Hid (∀(W0 W1 W:World) (A B:Option Addr) (c d:Nat) (a u:List (List Int)),Gm n a->Fits64 a->MatV W0 A a->MatV W1 B u->u.length=n->AllLen u n->(∀p x,-531441<=ent u p x/\ent u p x<=531441)->Ext W0 W->Ext W1 W->Calls Tryz.prog 93 #[.slice A n c,.slice B n d] W (RetOwnI W n (congM n a u))):=Lib.hid (fun W0 W1 W A B c d a u g hF hA hB hul hua hub e1 e2=>
  rCongruent_ok (w:=W) (k:=64) hA hB g.len hul hn1 (by omega) g.all hua (by omega) (fits_bd hF) (fun i j=>(uni_bd (hub i j)).mono (by omega)))
 clear hB hb8
 go_enter Tryz.func64,Tryz.ntmps64
 go_upto_region 2 with (go_at_call 58;refine (HG.out _ inferInstance).mono ?_;rintro e w1 ⟨g,a,rfl,hM,hGm,hF,hgr,hs1⟩;have hL:=hGm.len;have HM:=Lib.hid hM;have HGm:=Lib.hid hGm;have HF:=Lib.hid hF;have HGR:=Lib.hid hgr;have hs1b:=Step.of _ _ (h:=hs1);clear hM hGm hF hs1 hgr)
 have hfb:=heap_of_ext (inferInstance:Ext (w.alloc (.cells #[.int .u8 dim,.int .u8 kind,.slice NA l.length nc,.slice BA bl.length bc] 24)) w1) (heap_alloc_new w _)
 have HFB:Hid (∀W,Ext w1 W->W.cell? ⟨w.heap.size,3,none⟩=some (.slice BA bl.length bc)):=Lib.hid (fun W e=>by
  have :=heap_of_ext e hfb
  simp [World.cell?,this])
 have HOA:=Lib.hid (fun W (e:Ext w1 W)=>HOF.out w1 W (some ⟨g,0,none⟩) n a HGm.out.len HGm.out.all HM.out HF.out e)
 obtain ⟨f0,f1,f2,f3⟩:True/\True/\True/\w1.cell? ⟨w.heap.size,3,none⟩=some (.slice BA bl.length bc):=⟨trivial,trivial,trivial,HFB.out w1 (Ext.refl _)⟩
 clear HG hfb hL
 go_region_held3 (fun w'=>w'.cell? ⟨w.heap.size,3,none⟩=some (.slice BA bl.length bc))
  (exact HFB.out _ inferInstance)
  (first
   |(go_at_call 110;refine (HU.out _ inferInstance).mono ?_;rintro e w2 ⟨gu,hsu,U,rfl,hPu,hUl,hUk,hUb,hxu⟩;have hua:=hPu.all;have HOU:=Lib.hid (fun W (e:Ext w2 W)=>HOF.out w2 W (some ⟨gu,0,none⟩) n U hUl hua (hPu.mat hUl (by omega)) (uni_fits hua hUb) e);have HUA:=Lib.hid (And.intro hUl (And.intro hua (And.intro hUk hUb)));have hxu2:=hxu.toStep;clear hPu hUl hUk hUb hua hxu)
   |(go_at_call_of 57 (Value.slice (some ⟨g,0,none⟩) n n);refine (HOA.out _ inferInstance).mono ?_;rintro e w3 ⟨ga,hsa,ca,rfl,hOa,-,-,hs3⟩;have hMa:=hOa.mat;rw [HGm.out.len];clear hOa)
   |(go_at_call_of 57 (Value.slice (some ⟨gu,0,none⟩) n n);refine (HOU.out _ inferInstance).mono ?_;rintro e w4 ⟨gv,hsv,cv,rfl,hOv,-,-,hs4⟩;have hMv:=hOv.mat;rw [HUA.out.1];clear hOv)
   |(go_at_call 93;refine (HCG.out _ _ _ _ _ _ _ _ _ HGm.out HF.out hMa hMv HUA.out.1 HUA.out.2.1 HUA.out.2.2.2 inferInstance inferInstance).mono ?_;rintro e w5 ⟨gc,hsc,cc,rfl,hOc,-,-,hs5⟩;have hMc:=hOc.mat;rw [congM_len];clear hOc))
 all_goals
  have hG2:=HGm.out.cong HUA.out.2.2.1 (raw_bd (n:=n) (by omega) HF.out HUA.out.2.2.2)
  have hxw:Ext w w5:=inferInstance
  go_wp2_with fail
  go_ret
  exact ⟨a,congM n a U,_,_,rfl,HGR.out,hG2.1,hG2.2,hMc.ext inferInstance,Step.of _ _⟩
theorem rOther_ok {w:World} {dim kind:Int} {NA BA:Option Addr} {l bl:List Int} {nc bc most:Nat} {te tb:TypeId} (hN:Ints w NA te .i8 l) (h8:I8 l) (hl:l.length<=9223372036854775807) (hB:Ints w BA tb .i8 bl) (hb8:I8 bl) (hbl:bl.length<=9223372036854775807) (hd0:0<=dim) (hd1:dim<256) (hk0:0<=kind) (hk1:kind<256) (hm1:1<=most) (hm4:most<=4):
  Calls Tryz.prog 39 #[.agg #[.int .u8 dim,.int .u8 kind,.slice NA l.length nc,.slice BA bl.length bc],.int .i64 most] w (RetLB w (1+(dim%most).toNat) l (kind%8)):=by
 have hdm2:=Int.emod_lt_of_pos dim (show (0:Int)<most by omega)
 have HR:Hid (∀W,Ext w W->Calls Tryz.prog 64 #[.agg #[.int .u8 dim,.int .u8 kind,.slice NA l.length nc,.slice BA bl.length bc],.int .i64 most] W (RetRaw W (1+(dim%most).toNat) l (kind%8))):=Lib.hid (fun W e=>rRaw_ok (hN.ext e) h8 hl (hB.ext e) hb8 hbl hd0 hd1 hk0 hk1 hm1 (by omega))
 have hn4:1+(dim%most).toNat<=4:=by omega
 clear hN h8 hB hb8
 generalize 1+(dim%most).toNat=n at*
 go_enter Tryz.func39,Tryz.ntmps39
 go_wp2_with (first
  |(go_at_call 64;refine (HR.out _ inferInstance).mono ?_;rintro e w1 ⟨a,b,A1,c1,rfl,hgr,hGm,hBs,hM,hs1⟩;have HM:=Lib.hid hM;have HGm:=Lib.hid hGm;have HGR:=Lib.hid hgr;have HBS:=Lib.hid hBs;clear hM hGm hgr hBs)
  |(go_at_call 56;refine (rReduce_ok HM.out HGm.out hn4).mono ?_;rintro e w3 ⟨hh,A2,c2,A3,c3,rfl,hLL,hlen,hRel,hM3,hc1,hc2,hs3⟩))
 go_ret
 exact ⟨a,hh,A2,c2,rfl,HGR.out,hLL,hlen,HBS.out.trans (hRel.bs HGm.out.len HGm.out.all).1,hM3,hc1,hc2,Step.of _ _⟩
def shl (b:Int) (its:List (Int×List Int)):List (List Int):=(its.filter fun p=>p.1==b).map Prod.snd
theorem shl_len (b:Int) (its:List (Int×List Int)):(shl b its).length<=its.length:=by
 unfold shl
 rw [List.length_map]
 exact List.length_filter_le _ _
theorem shl_vecList {m:List (List Int)} {b:Int} {its:List (Int×List Int)} (h:VecList m b false (its.map Prod.snd)) (h2:its=(its.map Prod.snd).map fun x=>(nrm m x,x)):VecList m b true (shl b its):=by
 have he:shl b its=(its.map Prod.snd).filter fun x=>nrm m x==b:=by
  unfold shl
  conv=>lhs;rw [h2]
  rw [List.filter_map,List.map_map]
  exact List.map_id _
 rw [he]
 refine ⟨h.1.filter _,fun x=>?_⟩
 rw [List.mem_filter,h.2]
 simp [and_assoc]
def RetSL (w:World) (m:List (List Int)) (b:Int) (e:Ending) (w':World):Prop:=∃B d L,e= .returned (.tuple #[.slice B (List.length L) d,.int .i64 0])/\Mat64 w' B L/\L.length<=d/\d<=9223372036854775807/\VecList m b true L/\L.length<=4000/\Step w w'
theorem coll_shell {m:List (List Int)} (hr:isRedB m=true) {b:Nat} (h4:m.length<=4) (hb:b+2*m.length<=12∨b<=6∨(m.length<=3/\b<=8)):(collL m b false).length<=4000/\(collL m b true).length<=4000:=by
 have hR:=red_ok hr
 have hl:=isSmallB_len hR.small
 have hst:=(steps_ok hr (b:=b) (by omega)).1
 have hfew:=few_steps2 hr h4 hb
 have hlast:=hst.last_le (by omega)
 have hll:=hst.last
 obtain ⟨hv,hv2⟩:=items_vecList hR (b:=b) (by omega)
 have h1:=vecList_len hR (by omega) hv
 have h2:=vecList_len hR (by omega) (shl_vecList hv hv2)
 have h3:=shl_len b (itemsL m (lvs m b (m.length-1) []))
 rw [List.length_map] at h1
 omega
theorem Shell_red {w0 w:World} {A:Option Addr} {c b:Nat} {m:List (List Int)} {budget:Int} (h:Mat64 w0 A m) (hc:m.length<=c) (hc2:c<=9223372036854775807) (hr:isRedB m=true) (h4:m.length<=4) (hb:b+2*m.length<=12∨b<=6∨(m.length<=3/\b<=8)) (hbd:totS m b<=budget) (hbd2:budget<=1000000) [hx:Ext w0 w]:
  Calls Tryz.prog 36 #[.slice A m.length c,.int .i64 b,.int .i64 budget] w (RetSL w m b):=by
 have hR:=red_ok hr
 have hl:=isSmallB_len hR.small
 have hst:=(steps_ok hr (b:=b) (by omega)).1
 have hsl:=sum_ge_len _ hst.one
 have hsum:=hst.sum
 obtain ⟨-,hcl⟩:=coll_shell hr h4 hb
 have hspec:=hst.spec budget (by omega) hbd2
 rw [if_pos hbd] at hspec
 refine (Shell_ok h hc hc2 (enum_ok hr (by omega) true (by omega)) hspec (by omega)).mono ?_
 rintro e w' ⟨B,d,L,he,hM,h1,h2,hp,hw,hs⟩
 refine ⟨B,d,L,he,hM,h1,h2,vecList_of hR (by omega) hp hw,?_,hs⟩
 have :=hp.length_eq
 simp at this
 omega
theorem same_shell {n:Nat} {a h1 h2:List (List Int)} (b1:Bs n (ent a) (ent h1)) (b2:Bs n (ent a) (ent h2)) (l1:LLLed h1) (l2:LLLed h2) (e1:h1.length=n) (e2:h2.length=n) {q:Int} {e:Bool} {L T:List (List Int)} (hL:VecList h1 q e L) (hT:VecList h2 q e T):L.length=T.length:=by
 obtain ⟨u1,v1,j1⟩:=b1.bij
 obtain ⟨u2,v2,j2⟩:=b2.bij
 have hj:=j1.symm.trans j2
 rw [<-e1] at hj
 exact same_len l1.all l2.all (by omega) hj hL hT
theorem same_coll {n:Nat} {a h1 h2:List (List Int)} (b1:Bs n (ent a) (ent h1)) (b2:Bs n (ent a) (ent h2)) (l1:LLLed h1) (l2:LLLed h2) (e1:h1.length=n) (e2:h2.length=n) {q:Int} (hq:0<=q):(collL h1 q false).length=(collL h2 q false).length:=by
 have r1:=red_ok l1.red
 have r2:=red_ok l2.red
 have v1:=(items_vecList r1 hq).1
 have v2:=(items_vecList r2 hq).1
 rw [<-vecList_len r1 hq v1,<-vecList_len r2 hq v2]
 exact same_shell b1 b2 l1 l2 e1 e2 v1 v2
set_option maxRecDepth 20000 in
theorem EnumerateSame_any {w:World} {dim kind norm:Int} {NA BA:Option Addr} {l bl:List Int} {nc bc:Nat} {te tb:TypeId} (hN:Ints w NA te .i8 l) (h8:I8 l) (hl:l.length<=9223372036854775807) (hB:Ints w BA tb .i8 bl) (hb8:I8 bl) (hbl:bl.length<=9223372036854775807) (hd0:0<=dim) (hd1:dim<256) (hk0:0<=kind) (hk1:kind<256) (hn0:0<=norm) (hn9:norm<256):
  Calls Tryz.prog 12 #[.agg #[.int .u8 dim,.int .u8 kind,.slice NA l.length nc,.slice BA bl.length bc],.int .u8 norm] w (RetVal w (.bool true)):=by
 have HF:Hid (∀W,Ext w W->Calls Tryz.prog 27 #[.agg #[.int .u8 dim,.int .u8 kind,.slice NA l.length nc,.slice BA bl.length bc],.int .i64 4] W (RetLB W (1+(dim%4).toNat) l (kind%8))):=Lib.hid (fun W e=>rFormD_ok (most:=4) (hN.ext e) h8 hl hd0 hd1 hk0 hk1 (by omega) (by omega))
 have HO:Hid (∀W,Ext w W->Calls Tryz.prog 39 #[.agg #[.int .u8 dim,.int .u8 kind,.slice NA l.length nc,.slice BA bl.length bc],.int .i64 4] W (RetLB W (1+(dim%4).toNat) l (kind%8))):=Lib.hid (fun W e=>rOther_ok (most:=4) (hN.ext e) h8 hl (hB.ext e) hb8 hbl hd0 hd1 hk0 hk1 (by omega) (by omega))
 have hn1:1<=1+(dim%4).toNat:=by omega
 have hn4:1+(dim%4).toNat<=4:=by omega
 clear hN h8 hB hb8
 generalize 1+(dim%4).toNat=n at*
 generalize kind%8=kk at*
 have e6:=Int.emod_nonneg norm (show (6:Int)≠0 by omega)
 have e7:=Int.emod_lt_of_pos norm (show (0:Int)<6 by omega)
 have htm:norm.tmod 6=norm%6:=Int.tmod_eq_emod_of_nonneg hn0
 obtain ⟨b,hb⟩:∃b:Nat,1+norm%6=b:=⟨(1+norm%6).toNat,by omega⟩
 have hw0:IntKind.i64.wrap norm=norm:=IntWalk.i64_in _ (by omega)
 have hw1:IntKind.i64.wrap (1+norm%6)=(b:Int):=by rw [hb];exact IntWalk.i64_in _ (by omega)
 have hb6:b<=6:=by omega
 have HS:Hid (∀(m:List (List Int)) (W0 W:World) A c,LLLed m->m.length=n->Mat64 W0 A m->n<=c->c<=9223372036854775807->Ext W0 W->Calls Tryz.prog 36 #[.slice A n c,.int .i64 b,.int .i64 20000] W (RetSL W m b)):=Lib.hid (fun m W0 W A c hL hmn hM h1 h2 e=>by
  have :=few_steps2 hL.red (b:=b) (by omega) (by omega)
  have :=Shell_red (w:=W) (c:=c) (b:=b) (budget:=20000) hM (by omega) h2 hL.red (by omega) (by omega) (by omega) (by omega)
  rwa [hmn] at this)
 have HC:Hid (∀(m:List (List Int)) (W0 W:World) A c,LLLed m->m.length=n->Mat64 W0 A m->n<=c->c<=9223372036854775807->Ext W0 W->Calls Tryz.prog 33 #[.slice A n c,.int .i64 b,.int .i64 20000] W (RetVal W (.tuple #[.int .i64 ((collL m b false).length:Int),.int .i64 0]))):=Lib.hid (fun m W0 W A c hL hmn hM h1 h2 e=>by
  have hr:=hL.red
  have hR:=red_ok hr
  have hfew:=few_steps2 hr (b:=b) (by omega) (by omega)
  have hst:=(steps_ok hr (b:=b) (by omega)).1
  have hlast:=hst.last_le (by omega)
  have hlst:=hst.last
  have hspec:=hst.spec 20000 (by omega) (by omega)
  rw [if_pos (by omega)] at hspec
  have :=Count_ok (w:=W) (c:=c) (budget:=20000) (bound:=b) hM (by omega) (by omega) h2 (fun _=>hR.form) hspec (by rw [hst.len];omega) (by rw [hst.len];omega) (by omega) (by omega)
  rw [hmn,hlst,show (2*((collL m b false).length:Int)+1-1) / 2=((collL m b false).length:Int) by omega] at this
  exact this)
 clear hb hn0 hn9 hd0 hd1 hk0 hk1
 go_enter Tryz.func12,Tryz.ntmps12
 go_upto_region 3 with (first
  |(go_at_call 27;refine (HF.out _ inferInstance).mono ?_;rintro e w1 ⟨a,m1,A1,c1,rfl,hg1,hL1,hl1,hb1,hM1,hc1,hc2,hs1⟩;have HM1:=Lib.hid hM1;have HL1:=Lib.hid hL1;have HB1:=Lib.hid hb1;have HG1:=Lib.hid hg1;clear hM1 hL1 hb1 hg1)
  |(go_at_call 36;refine (HS.out _ _ _ _ _ HL1.out hl1 HM1.out hc1 hc2 inferInstance).mono ?_;rintro e w2 ⟨B2,d2,S1,rfl,-,-,-,hV1,-,hs2⟩;have HV1:=Lib.hid hV1;clear hV1))
 go_upto_region 4 with (first
  |(go_at_call 39;refine (HO.out _ inferInstance).mono ?_;rintro e w3 ⟨a',m2,A3,c3,rfl,hg2,hL2,hl2,hb2,hM2,hc3,hc4,hs3⟩;obtain rfl:=GrOf.uniq HG1.out hg2;have HM2:=Lib.hid hM2;have HL2:=Lib.hid hL2;have HB2:=Lib.hid hb2;clear hM2 hL2 hb2 hg2)
  |(go_at_call 36;refine (HS.out _ _ _ _ _ HL2.out hl2 HM2.out hc3 hc4 inferInstance).mono ?_;rintro e w4 ⟨B4,d4,S2,rfl,-,-,-,hV2,-,hs4⟩;have hSS:=same_shell HB1.out HB2.out HL1.out HL2.out hl1 hl2 HV1.out hV2;clear hV2))
 rw [<-hSS]
 clear HM1 HM2 HL1 HL2 HB1 HB2 HV1 hSS hl1 hl2
 go_upto_region 5 with (first
  |(go_at_call 27;refine (HF.out _ inferInstance).mono ?_;rintro e w5 ⟨a5,m3,A5,c5,rfl,hg3,hL3,hl3,hb3,hM3,hc5,hc6,hs5⟩;obtain rfl:=GrOf.uniq HG1.out hg3;have HM3:=Lib.hid hM3;have HL3:=Lib.hid hL3;have HB3:=Lib.hid hb3;clear hM3 hL3 hb3 hg3)
  |(go_at_call 33;refine (HC.out _ _ _ _ _ HL3.out hl3 HM3.out hc5 hc6 inferInstance).mono ?_;rintro e w6 ⟨rfl,hs6⟩))
 go_upto_region 6 with (first
  |(go_at_call 39;refine (HO.out _ inferInstance).mono ?_;rintro e w7 ⟨a7,m4,A7,c7,rfl,hg4,hL4,hl4,hb4,hM4,hc7,hc8,hs7⟩;obtain rfl:=GrOf.uniq HG1.out hg4;have HM4:=Lib.hid hM4;have HL4:=Lib.hid hL4;have HB4:=Lib.hid hb4;clear hM4 hL4 hb4 hg4)
  |(go_at_call 33;refine (HC.out _ _ _ _ _ HL4.out hl4 HM4.out hc7 hc8 inferInstance).mono ?_;rintro e w8 ⟨rfl,hs8⟩))
 have hCC:=same_coll HB3.out HB4.out HL3.out HL4.out hl3 hl4 (q:=(b:Int)) (by omega)
 rw [<-hCC]
 generalize (collL m3 b false).length=k3 at*
 clear HM3 HM4 HL3 HL4 HB3 HB4 hCC hl3 hl4 HG1 HF HO HS HC
 generalize S1.length=s1 at*
 go_wp2_with (go_at_call 26;refine awake11_any.mono ?_;rintro e w9 ⟨rfl,hs9⟩)
 go_ret
 exact ⟨rfl,Step.of _ _⟩
end Go.Proofs.YtjehjkipcaohpaaGreat
