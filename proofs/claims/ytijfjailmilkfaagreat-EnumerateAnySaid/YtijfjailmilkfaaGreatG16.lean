/- RefE RefF RefQ RefG -/
import Derived.Test.YtijfjailmilkfaaGreatG15
import Derived.Test.YtijfjailmilkfaaGreatProg
import Derived.Test.YtijfjailmilkfaaGreatShelf
set_option maxHeartbeats 8000000
set_option linter.unusedVariables false
set_option linter.unusedSimpArgs false
set_option linter.constructorNameAsVariable false
namespace Go.Proofs.YtijfjailmilkfaaGreat
open Go.RowKit
theorem pivFrom_le (a:List (List Int)) (k n f:Nat):∀p,p+f=n->pivFrom a k f p<=n:=by
 induction f with
 |zero=>intro p h;simp [pivFrom];omega
 |succ f ih=>
  intro p h
  simp only [pivFrom]
  split
  ·exact ih (p+1) (by omega)
  ·omega
theorem swapRows_len (a:List (List Int)) (p k:Nat):(swapRows a p k).length=a.length:=by simp [swapRows]
theorem detGo_bd {n b:Nat} (f:Nat):∀(k:Nat) (last:Int) (neg:Bool) (a:List (List Int)),k+f=n->a.length=n->Bd (bitsAt b k) last->BdM (bitsAt b k) a->Bd (bitsAt b n) (detGo n f k last neg a):=by
 induction f with
 |zero=>
  intro k last neg a hk hl hb _
  obtain rfl:k=n:=by omega
  simp only [detGo]
  cases neg
  ·exact hb
  ·exact hb.neg
 |succ f ih=>
  intro k last neg a hk hl hb ha
  have hp:=pivFrom_le a k n (n-k) k (by omega)
  simp only [detGo]
  generalize pivFrom a k (n-k) k=p at*
  split
  ·exact Bd.zero _
  ·split
   ·have hs:=ha.swap (p:=p) (q:=k) (by omega) (by omega)
    refine ih (k+1) _ _ _ (by omega) (tab_length _ _ _) ((hs k k).mono (bitsAt_mono (by omega))) ?_
    rw [bitsAt_succ];exact hs.elim n k last
   ·refine ih (k+1) _ _ _ (by omega) (tab_length _ _ _) ((ha k k).mono (bitsAt_mono (by omega))) ?_
    rw [bitsAt_succ];exact ha.elim n k last
theorem detF_bd {n b:Nat} {m:List (List Int)} (hl:m.length=n) (h8:n<=8) (hb1:1<=b) (hb:BdM b m):Bd (256*(b+1)) (detF m):=by
 refine Bd.mono ?_ (bitsAt_le h8)
 unfold detF
 rw [hl]
 exact detGo_bd n 0 1 false m (by omega) hl (by rw [bitsAt_zero];exact Bd.one hb1) (by rw [bitsAt_zero];exact hb)
theorem detSel_bd {b k i j:Nat} {m:List (List Int)} (hk:k<8) (hb1:1<=b) (hb:BdM b m):Bd (256*(b+1)) (detF (selM m (firstL k i) (firstL k j))):=
 detF_bd (n:=k+1) (by rw [selM_len,firstL_len]) (by omega) hb1 (hb.sel _ _)
def RetIntsB (w:World) (zs:List Int) (e:Ending) (w':World):Prop:=∃B d,e= .returned (.tuple #[.slice B zs.length d,.bool true])/\IntsV w' B zs/\zs.length<=d/\d<=9223372036854775807/\Step w w'
theorem leadF_len (m:List (List Int)):(leadF m).length=m.length:=by simp [leadF]
theorem leadF_getD {m:List (List Int)} {k:Nat} (hk:k<m.length):(leadF m).getD k 0=detF (selM m (firstL k k) (firstL k k)):=by simp [leadF,List.getD,hk]
theorem leadF_bd {b:Nat} {m:List (List Int)} (h8:m.length<=8) (hb1:1<=b) (hb:BdM b m):BdL (256*(b+1)) (leadF m):=fun i=>by
 by_cases hi:i<m.length
 ·rw [leadF_getD hi];exact detSel_bd (by omega) hb1 hb
 ·rw [List.getD_eq_getElem?_getD,List.getElem?_eq_none (by rw [leadF_len];omega)];exact Bd.zero _
theorem rLeading_ok {w0 w:World} {A:Option Addr} {c n b:Nat} {m:List (List Int)} (h:MatV w0 A m) (h1:m.length=n) (h3:1<=n) (h4:n<=8) (hn:AllLen m n) (hb:BdM b m) (hb1:1<=b) (hbb:b<=1000000) [hx:Ext w0 w]:
  Calls Tryz.prog 112 #[.slice A n c] w (RetIntsB w (leadF m)):=by
 have h0:=h.ext hx
 have HSQ:Hid (∀W,Ext w W->Calls Tryz.prog 141 #[.slice A n c] W (RetVal W (.tuple #[.int .i64 n,.bool true]))):=Lib.hid (fun W e1=>by
  have :=rSquare_ok (w:=W) (c:=c) h0 (by omega) (by omega) (by rw [h1];exact hn)
  rwa [h1] at this)
 have HSE:Hid (∀(W1 W2 W:World) (A1 A2:Option Addr) (c1 c2 k:Nat),k<n->Ints W1 A1 3 .i64 (asI (firstL k k))->Ints W2 A2 3 .i64 (asI (firstL k k))->Ext w W->Ext W1 W->Ext W2 W->Calls Tryz.prog 177 #[.slice A n c,.slice A1 (k+1) c1,.slice A2 (k+1) c2] W (RetMat W (selM m (firstL k k) (firstL k k)))):=Lib.hid (fun W1 W2 W A1 A2 c1 c2 k hk e1 e2 x0 x1 x2=>by
  have :=rSelect_ok (w:=W) (c:=c) (cR:=c1) (cC:=c2) h0 e1 e2 hn (by rw [firstL_len];omega) (by rw [firstL_len];omega) (by rw [h1];exact firstL_lt (by omega) hk) (firstL_lt (by omega) hk)
  rw [h1,firstL_len] at this
  exact this)
 have HDT:Hid (∀(W1 W:World) (A1:Option Addr) (c1 k:Nat),k<n->MatV W1 A1 (selM m (firstL k k) (firstL k k))->Ext W1 W->Calls Tryz.prog 145 #[.slice A1 (k+1) c1] W (RetInt W ((leadF m).getD k 0))):=Lib.hid (fun W1 W A1 c1 k hk hM e1=>by
  rw [leadF_getD (by omega)];exact rDetSel_ok hM (by omega) hb hb1 hbb)
 have HLL:Hid ((leadF m).length=n):=Lib.hid (by rw [leadF_len];exact h1)
 have HSL:Hid (∀k,(selM m (firstL k k) (firstL k k)).length=k+1):=Lib.hid (fun k=>by rw [selM_len,firstL_len])
 have HFL:Hid (∀k,(asI (firstL k k)).length=k+1):=Lib.hid (fun k=>by rw [asI_len,firstL_len])
 have HFI:Hid (∀(W:World) (k:Nat),k<n->Calls Tryz.prog 178 #[.int .i64 k,.int .i64 k] W (RetIL W (asI (firstL k k)))):=Lib.hid (fun W k hk=>rfirst_ok k k (by omega))
 clear hn hb h1
 go_enter Tryz.func112,Tryz.ntmps112
 go_wp2_with (go_at_call 141;refine (HSQ.out _ inferInstance).mono ?_;rintro e w1 ⟨rfl,hs1⟩)
 go_loopw [6,7] (fun s6 i wr=>∃(q:Nat) (A1:Option Addr) (c1:Nat) (vs:List Value),q<=n/\i= .int .i64 q/\s6= .slice A1 q c1/\Hid (Own wr w.heap.size 117 2 A1 q c1 vs)/\Hid (VsOf wr vs ((leadF m).take q))/\Ext w wr) (fun _ i _=>n-(intOf i).toNat)
 case atStart=>exact ⟨0,none,0,[],by omega,rfl,rfl,Lib.hid (Own.nil _ _ _ _),Lib.hid (fun i z hz=>by simp at hz),inferInstance⟩
 case round=>
  obtain ⟨q,A1,c1,vs,hq,rfl,rfl,HO,HV,hxr⟩:=hrel
  by_cases hlt:q<n
  ·have HF:=Lib.hid (fun W=>HFI.out W q hlt)
   go_wp2_with fail
   refine (HF.out _).mono ?_
   rintro e w2 ⟨A2,c2,rfl,hI2,-,-,hs2⟩
   rw [HFL.out]
   go_wp2_with fail
   refine (HF.out _).mono ?_
   rintro e w3 ⟨A3,c3,rfl,hI3,-,-,hs3⟩
   rw [HFL.out]
   go_wp2_with fail
   refine (HSE.out w2 w3 w3 A2 A3 c2 c3 q hlt hI2 hI3 inferInstance inferInstance inferInstance).mono ?_
   rintro e w4 ⟨A4,c4,rfl,hM4,-,-,hs4⟩
   rw [HSL.out]
   go_wp2_with fail
   refine (HDT.out w4 w4 A4 c4 q hlt hM4 inferInstance).mono ?_
   rintro e w5 ⟨g5,B5,k5,d5,rfl,hz5,hs5⟩
   have hx5:Ext wr w5:=inferInstance
   have HZ5:=Lib.hid hz5
   clear hz5 hM4 hI2 hI3
   go_wp2_with (at_builtin;refine wpList_app _ rfl _ _ 104 rfl w.heap.size 117 (.agg #[.bool false,.slice none 0 0]) 2 32 Tryz.underlying104 infoInt rfl (by omega) (by omega) A1 q c1 vs rfl (HO.out.ext inferInstance) (some ⟨w5.heap.size,0,none⟩) 1 1 [.bool g5,.slice B5 k5 d5] rfl (Arr.new w5 117 #[.bool g5,.slice B5 k5 d5]) rfl (two_int _ _ _ _) (by omega) (by have :=(hxr.trans hx5).size;simp;omega) ?_;intro A6 c6 w6 hown hg;have HO6:=Lib.hid hown;have HG6:=Lib.hid hg;have hx6:Ext w w6:=hg.ext inferInstance (Nat.le_refl _);clear hown hg)
   refine ⟨⟨q+1,A6,c6,vs++[.bool g5,.slice B5 k5 d5],by omega,by go_num,rfl,HO6,Lib.hid ?_,hx6⟩,by simp [intOf]<;>omega⟩
   have hxa:Ext w5 (w5.alloc (.cells #[.bool g5,.slice B5 k5 d5] 117)):=inferInstance
   have hv5:VsOf (w5.alloc (.cells #[.bool g5,.slice B5 k5 d5] 117)) (vs++[.bool g5,.slice B5 k5 d5]) ((leadF m).take q++[(leadF m).getD q 0]):=VsOf.snoc (HV.out.map fun hz=>(hz.ext hx5).ext hxa) (by rw [HO.out.len,List.length_take,HLL.out,Nat.min_eq_left hq]) (HZ5.out.ext hxa)
   rw [take_snoc (by rw [HLL.out];exact hlt)]
   exact hv5.grow HG6.out (by decide)
  ·obtain rfl:q=n:=by omega
   go_wp2
   go_ret2
   have h2:=HV.out
   rw [List.take_of_length_le (by rw [HLL.out];exact Nat.le_refl _)] at h2
   exact ⟨A1,c1,by rw [HLL.out];rfl,h2.intsV (by rw [HO.out.len,HLL.out]) HO.out.arr (Ext.refl _),by rw [HLL.out];exact HO.out.cap.1,HO.out.cap.2,hxr.toStep⟩
def SymM (m:List (List Int)) (n:Nat):Prop:=∀i,i<n->∀j,j<i->ent m i j=ent m j i
theorem cmpI_neq {x y:Int} (h:x≠y):(cmpI x y !=0)=true:=by
 unfold cmpI
 by_cases h1:x<y
 ·rw [if_pos h1];rfl
 ·rw [if_neg h1,if_neg h];rfl
theorem cmpI_le {x y:Int}:decide (cmpI x y<=0)=decide (x<=y):=by
 unfold cmpI
 by_cases h1:x<y
 ·rw [if_pos h1];simp;omega
 ·rw [if_neg h1]
  by_cases h2:x=y
  ·rw [if_pos h2];simp;omega
  ·rw [if_neg h2];simp;omega
theorem cmpI_ge {x y:Int}:decide (0<=cmpI x y)=decide (y<=x):=by
 unfold cmpI
 by_cases h1:x<y
 ·rw [if_pos h1];simp;omega
 ·rw [if_neg h1]
  by_cases h2:x=y
  ·rw [if_pos h2];simp;omega
  ·rw [if_neg h2];simp;omega
theorem rSymmetric_ok {w0 w:World} {A:Option Addr} {c n b:Nat} {m:List (List Int)} (s:Bool) (hs:s=true↔SymM m n) (h:MatV w0 A m) (h1:m.length=n) (h3:1<=n) (h4:n<=16) (hn:AllLen m n) (hb:BdM b m) (hbb:b<=1000000) [hx:Ext w0 w]:
  Calls Tryz.prog 142 #[.slice A n c] w (RetVal w (.bool s)):=by
 have h0:=h.ext hx
 have HA:=Lib.hid hn
 have HL:=Lib.hid h1
 have HB:=Lib.hid hb
 have HS:=Lib.hid hs
 clear hn h1 hb hs
 go_enter Tryz.func142,Tryz.ntmps142
 go_wp2
 go_loopw [3,4,7] (fun _ _ i wr=>∃k:Nat,k<=n/\i= .int .i64 k/\Hid (SymM m k)/\Ext w wr) (fun _ _ i _=>n-(intOf i).toNat)
 case atStart=>exact ⟨0,by omega,rfl,Lib.hid (fun i hi=>by omega),inferInstance⟩
 case round=>
  obtain ⟨k,hk,rfl,HSM,hxr⟩:=hrel
  by_cases hlt:k<n
  ·go_wp2
   go_loopw [4] (fun j wr=>∃q:Nat,q<=k/\j= .int .i64 q/\Hid (∀j,j<q->ent m k j=ent m j k)/\Ext w wr) (fun j _=>k-(intOf j).toNat)
   case atStart=>exact ⟨0,by omega,rfl,Lib.hid (fun i hi=>by omega),inferInstance⟩
   case round=>
    obtain ⟨q,hq,rfl,HE,hxq⟩:=hrel
    by_cases hltq:q<k
    ·have hqn:q<n:=by omega
     obtain ⟨b1,o1,b2,o2,c2,g1,B1,n1,d1,rfl,e1,e2,e3,hz1,hb1,hb2,-,-⟩:=(h0.ext hxq).entry HA.out (i:=k) (j:=q) (by rw [HL.out];exact hlt) (by omega)
     obtain ⟨b3,o3,b4,o4,c4,g2,B2,n2,d2,hh,f1,f2,f3,hz2,hb3,hb4,-,-⟩:=(h0.ext hxq).entry HA.out (i:=q) (j:=k) (by rw [HL.out];omega) hlt
     injection hh with hh
     injection hh with y1 y2
     subst y1 y2
     have HC:=Lib.hid (fun W (hh:Ext wr W)=>rCmp_any (w:=W) hz1 hz2 (by have :=hz1.bd (HB.out k q) (by omega);omega) (by have :=hz2.bd (HB.out q k) (by omega);omega))
     have HLL:Hid (∀W,Ext wr W->W.cell? ⟨b1,o1+k,none⟩=some (.slice (some ⟨b2,o2,none⟩) n c2)/\W.cell? ⟨b2,o2+q*2,none⟩=some (.bool g1)/\W.cell? ⟨b2,o2+q*2+1,none⟩=some (.slice B1 n1 d1)/\W.cell? ⟨b1,o1+q,none⟩=some (.slice (some ⟨b4,o4,none⟩) n c4)/\W.cell? ⟨b4,o4+k*2,none⟩=some (.bool g2)/\W.cell? ⟨b4,o4+k*2+1,none⟩=some (.slice B2 n2 d2)):=Lib.hid (fun W hh=>⟨(hh.below.cell (p:=⟨b1,o1+k,none⟩) hb1).trans e1,(hh.below.cell (p:=⟨b2,o2+q*2,none⟩) hb2).trans e2,(hh.below.cell (p:=⟨b2,o2+q*2+1,none⟩) hb2).trans e3,(hh.below.cell (p:=⟨b1,o1+q,none⟩) hb1).trans f1,(hh.below.cell (p:=⟨b4,o4+k*2,none⟩) hb4).trans f2,(hh.below.cell (p:=⟨b4,o4+k*2+1,none⟩) hb4).trans f3⟩)
     clear hz1 hz2 e1 e2 e3 f1 f2 f3
     by_cases heq:ent m k q=ent m q k
     ·have hcz:cmpI (ent m k q) (ent m q k)=0:=cmpI_eq heq
      rw [hcz] at HC
      have HE2:Hid (∀j,j<q+1->ent m k j=ent m j k):=Lib.hid (fun j hj=>by
       by_cases e:j=q
       ·rw [e];exact heq
       ·exact HE.out j (by omega))
      clear heq hcz
      go_wp2_with fail
      go_region_held3 (fun w'=>w'.cell? ⟨b1,o1+k,none⟩=some (.slice (some ⟨b2,o2,none⟩) n c2)/\w'.cell? ⟨b2,o2+q*2,none⟩=some (.bool g1)/\w'.cell? ⟨b2,o2+q*2+1,none⟩=some (.slice B1 n1 d1)/\w'.cell? ⟨b1,o1+q,none⟩=some (.slice (some ⟨b4,o4,none⟩) n c4)/\w'.cell? ⟨b4,o4+k*2,none⟩=some (.bool g2)/\w'.cell? ⟨b4,o4+k*2+1,none⟩=some (.slice B2 n2 d2)) (exact HLL.out _ inferInstance)
       ((go_at_call 144;refine (HC.out _ inferInstance).mono ?_;rintro e w5 ⟨rfl,hs5⟩))
      go_wp2_with fail
      exact ⟨⟨q+1,by omega,by go_num,HE2,inferInstance⟩,by simp [intOf]<;>omega⟩
     ·have hcz:=cmpI_neq heq
      generalize cmpI (ent m k q) (ent m q k)=cs at*
      have HF:Hid (s=false):=Lib.hid (by
       cases s with
       |false=>rfl
       |true=>exact absurd (HS.out.1 rfl k hlt q hltq) heq)
      clear heq
      go_wp2_with fail
      go_region_held3 (fun w'=>w'.cell? ⟨b1,o1+k,none⟩=some (.slice (some ⟨b2,o2,none⟩) n c2)/\w'.cell? ⟨b2,o2+q*2,none⟩=some (.bool g1)/\w'.cell? ⟨b2,o2+q*2+1,none⟩=some (.slice B1 n1 d1)/\w'.cell? ⟨b1,o1+q,none⟩=some (.slice (some ⟨b4,o4,none⟩) n c4)/\w'.cell? ⟨b4,o4+k*2,none⟩=some (.bool g2)/\w'.cell? ⟨b4,o4+k*2+1,none⟩=some (.slice B2 n2 d2)) (exact HLL.out _ inferInstance)
       ((go_at_call 144;refine (HC.out _ inferInstance).mono ?_;rintro e w5 ⟨rfl,hs5⟩))
      go_wp2_with fail
      go_ret
      exact ⟨by rw [HF.out];rfl,Step.of _ _⟩
    ·obtain rfl:q=k:=by omega
     have HSM2:Hid (SymM m (q+1)):=Lib.hid (fun i hi j hj=>by
      by_cases e:i=q
      ·subst e;exact HE.out j hj
      ·exact HSM.out i (by omega) j hj)
     go_wp2
     exact ⟨⟨q+1,by omega,by go_num,HSM2,hxq⟩,by simp [intOf]<;>omega⟩
  ·obtain rfl:k=n:=by omega
   have HF:Hid (s=true):=Lib.hid (HS.out.2 HSM.out)
   go_wp2
   go_ret
   exact ⟨by rw [HF.out];rfl,hxr.toStep⟩
def ValM (m:List (List Int)):Prop:=SymM m m.length/\∀x∈leadF m,0<x
theorem rDefinite_ok {w0 w:World} {A:Option Addr} {c n b:Nat} {m:List (List Int)} (s:Bool) (hs:s=true↔∀x∈leadF m,0<x) (hsym:SymM m n) (h:MatV w0 A m) (h1:m.length=n) (h3:1<=n) (h4:n<=8) (hn:AllLen m n) (hb:BdM b m) (hb1:1<=b) (hbb:b<=1000000) [hx:Ext w0 w]:
  Calls Tryz.prog 143 #[.slice A n c] w (RetVal w (.bool s)):=by
 have h0:=h.ext hx
 have HLE:=Lib.hid (fun W (e1:Ext w W)=>rLeading_ok (w:=W) (c:=c) h0 h1 h3 h4 hn hb hb1 hbb)
 have HSY:=Lib.hid (fun W (e1:Ext w W)=>rSymmetric_ok (w:=W) (c:=c) true ⟨fun _=>hsym,fun _=>rfl⟩ h0 h1 h3 (by omega) hn hb hbb)
 have HLL:Hid ((leadF m).length=n):=Lib.hid (by rw [leadF_len];exact h1)
 have HBL:=Lib.hid (leadF_bd (by omega) hb1 hb)
 have HS:=Lib.hid hs
 clear hn hb hsym hs h1
 go_enter Tryz.func143,Tryz.ntmps143
 go_wp2_with (first
  |(go_at_call 112;refine (HLE.out _ inferInstance).mono ?_;rintro e w1 ⟨A1,c1,rfl,hI1,-,-,hs1⟩;rw [HLL.out];have HI:=Lib.hid hI1;clear hI1)
  |(go_at_call 142;refine (HSY.out _ inferInstance).mono ?_;rintro e w2 ⟨rfl,hs2⟩))
 go_loopw [6,21] (fun _ i wr=>∃q:Nat,q<=n/\i= .int .i64 q/\Hid (∀x∈(leadF m).take q,0<x)/\Ext w1 wr) (fun _ i _=>n-(intOf i).toNat)
 case atStart=>exact ⟨0,by omega,rfl,Lib.hid (fun x hx=>by simp at hx),inferInstance⟩
 case round=>
  obtain ⟨q,hq,rfl,HP,hxr⟩:=hrel
  have hxw:Ext w wr:=Ext.trans inferInstance hxr
  by_cases hlt:q<n
  ·obtain ⟨b3,o3,g3,B3,n3,c3,rfl,hc3,hc4,hz3,hb3⟩:=(HI.out.ext hxr).atD (i:=q) (by rw [HLL.out];exact hlt)
   have l3:=hz3.bd (HBL.out q) (by omega)
   have HSG:=Lib.hid (fun W (hh:Ext wr W)=>rSign_any (w:=W) hz3 (by omega))
   have htk:=take_snoc (l:=leadF m) (q:=q) (by rw [HLL.out];exact hlt)
   have hle:=cmpI_le (x:=(leadF m).getD q 0) (y:=0)
   have HMEM:Hid ((leadF m).getD q 0∈leadF m):=Lib.hid (by
    have :q<(leadF m).length:=by rw [HLL.out];exact hlt
    simp [List.getD,this])
   have HTK:=Lib.hid htk
   by_cases hpos:0<(leadF m).getD q 0
   ·have hd:decide (cmpI ((leadF m).getD q 0) 0<=0)=false:=by rw [hle];simp only [decide_eq_false_iff_not];omega
    have HP2:Hid (∀x∈(leadF m).take (q+1),0<x):=Lib.hid (fun x hx=>by
     rw [HTK.out] at hx
     rcases List.mem_append.1 hx with hx |hx
     ·exact HP.out x hx
     ·have :x=(leadF m).getD q 0:=by simpa using hx
      rw [this];exact hpos)
    generalize cmpI ((leadF m).getD q 0) 0=cs at*
    clear hz3 l3 htk hle hpos
    go_wp2_with (go_at_call 175;refine (HSG.out _ inferInstance).mono ?_;rintro e w6 ⟨rfl,hs6⟩)
    exact ⟨⟨q+1,by omega,by go_num,HP2,inferInstance⟩,by simp [intOf]<;>omega⟩
   ·have hd:decide (cmpI ((leadF m).getD q 0) 0<=0)=true:=by rw [hle];simp only [decide_eq_true_eq];omega
    have HF:Hid (s=false):=Lib.hid (by
     cases s with
     |false=>rfl
     |true=>exact absurd (HS.out.1 rfl _ HMEM.out) hpos)
    generalize cmpI ((leadF m).getD q 0) 0=cs at*
    clear hz3 l3 htk hle hpos
    go_wp2_with (go_at_call 175;refine (HSG.out _ inferInstance).mono ?_;rintro e w6 ⟨rfl,hs6⟩)
    go_ret
    exact ⟨by rw [HF.out];rfl,Step.of _ _⟩
  ·obtain rfl:q=n:=by omega
   have HF:Hid (s=true):=Lib.hid (by
    have h2:=HP.out
    rw [List.take_of_length_le (by rw [HLL.out];exact Nat.le_refl _)] at h2
    exact HS.out.2 h2)
   go_wp2_with fail
   go_ret
   exact ⟨by rw [HF.out];rfl,hxw.toStep⟩
theorem rValidate_ok {w0 w:World} {A:Option Addr} {c n b:Nat} {m:List (List Int)} (s:Bool) (hs:s=true↔ValM m) (h:MatV w0 A m) (h1:m.length=n) (h3:1<=n) (h4:n<=8) (hn:AllLen m n) (hb:BdM b m) (hb1:1<=b) (hbb:b<=1000000) [hx:Ext w0 w]:
  Calls Tryz.prog 81 #[.slice A n c] w (fun e w'=>∃v:Int,e= .returned (.int .i64 v)/\(v=0↔s=true)/\0<=v/\v<=5/\Step w w'):=by
 have h0:=h.ext hx
 have HSQ:Hid (∀W,Ext w W->Calls Tryz.prog 141 #[.slice A n c] W (RetVal W (.tuple #[.int .i64 n,.bool true]))):=Lib.hid (fun W e1=>by
  have :=rSquare_ok (w:=W) (c:=c) h0 (by omega) (by omega) (by rw [h1];exact hn)
  rwa [h1] at this)
 have hd8:decide ((8:Int)<(n:Int))=false:=by simp;omega
 by_cases hsy:SymM m n
 ·have HSY:=Lib.hid (fun W (e1:Ext w W)=>rSymmetric_ok (w:=W) (c:=c) true ⟨fun _=>hsy,fun _=>rfl⟩ h0 h1 h3 (by omega) hn hb hbb)
  have hs2:s=true↔∀x∈leadF m,0<x:=by
   rw [hs]
   unfold ValM
   rw [h1]
   exact ⟨fun h=>h.2,fun h=>⟨hsy,h⟩⟩
  have HDE:=Lib.hid (fun W (e1:Ext w W)=>rDefinite_ok (w:=W) (c:=c) s hs2 hsy h0 h1 h3 h4 hn hb hb1 hbb)
  clear hs hs2 hsy hn hb h1
  cases s
  ·go_enter Tryz.func81,Tryz.ntmps81
   go_wp2_with (first
    |(go_at_call 141;refine (HSQ.out _ inferInstance).mono ?_;rintro e w1 ⟨rfl,hs1⟩)
    |(go_at_call 142;refine (HSY.out _ inferInstance).mono ?_;rintro e w2 ⟨rfl,hs2⟩)
    |(go_at_call 143;refine (HDE.out _ inferInstance).mono ?_;rintro e w3 ⟨rfl,hs3⟩))
   go_ret
   exact ⟨5,rfl,by simp,by omega,by omega,Step.of _ _⟩
  ·go_enter Tryz.func81,Tryz.ntmps81
   go_wp2_with (first
    |(go_at_call 141;refine (HSQ.out _ inferInstance).mono ?_;rintro e w1 ⟨rfl,hs1⟩)
    |(go_at_call 142;refine (HSY.out _ inferInstance).mono ?_;rintro e w2 ⟨rfl,hs2⟩)
    |(go_at_call 143;refine (HDE.out _ inferInstance).mono ?_;rintro e w3 ⟨rfl,hs3⟩))
   go_ret
   exact ⟨0,rfl,by simp,by omega,by omega,Step.of _ _⟩
 ·have HSY:=Lib.hid (fun W (e1:Ext w W)=>rSymmetric_ok (w:=W) (c:=c) false ⟨fun h=>(by cases h),fun h=>absurd h hsy⟩ h0 h1 h3 (by omega) hn hb hbb)
  have HF:Hid (s=false):=Lib.hid (by
   cases s with
   |false=>rfl
   |true=>exact absurd (by have :=(hs.1 rfl).1;rwa [h1] at this) hsy)
  clear hs hsy hn hb h1
  go_enter Tryz.func81,Tryz.ntmps81
  go_wp2_with (first
   |(go_at_call 141;refine (HSQ.out _ inferInstance).mono ?_;rintro e w1 ⟨rfl,hs1⟩)
   |(go_at_call 142;refine (HSY.out _ inferInstance).mono ?_;rintro e w2 ⟨rfl,hs2⟩))
  go_ret
  exact ⟨4,rfl,by rw [HF.out];simp,by omega,by omega,Step.of _ _⟩
theorem rsmall_ok {w0 w:World} {A:Option Addr} {c n b:Nat} {m:List (List Int)} (h:MatV w0 A m) (h1:m.length=n) (h3:1<=n) (h4:n<=8) (hn:AllLen m n) (hb:BdM b m) (hb1:1<=b) (hbb:b<=1000000) [hx:Ext w0 w]:
  Calls Tryz.prog 82 #[.slice A n c] w (RetVal w (.bool (decide (detF m<=10000)))):=by
 have HDT:=Lib.hid (fun W (e1:Ext w0 W)=>rDet_ok (w:=W) (c:=c) h h1 h3 h4 hn hb hb1 hbb)
 have hbd:=detF_bd h1 h4 hb1 hb
 have HC:Hid (∀(W1 W2 W:World) (g1:Bool) B1 n1 c1 (g2:Bool) B2 n2 c2,IntV W1 g1 B1 n1 c1 (detF m)->IntV W2 g2 B2 n2 c2 10000->Ext W1 W->Ext W2 W->Calls Tryz.prog 144 #[.agg #[.bool g1,.slice B1 n1 c1],.agg #[.bool g2,.slice B2 n2 c2]] W (RetVal W (.int .i64 (cmpI (detF m) 10000)))):=Lib.hid (fun W1 W2 W g1 B1 n1 c1 g2 B2 n2 c2 ha hb e1 e2=>rCmp_any ha hb (by have :=ha.bd hbd (by omega);omega) (by have :=hb.len (k:=1) (by decide);omega))
 have hle:=cmpI_le (x:=detF m) (y:=10000)
 rw [<-hle]
 clear hle hbd hn hb h1
 generalize detF m=D at*
 go_enter Tryz.func82,Tryz.ntmps82
 go_wp2_with (first
  |(go_at_call 145;refine (HDT.out _ inferInstance).mono ?_;rintro e w1 ⟨g1,B1,k1,d1,rfl,hz1,hs1⟩)
  |(go_at_call 113;refine (rSmall_any 10000 (by omega) (by omega) _).mono ?_;rintro e w2 ⟨g2,B2,k2,d2,rfl,hz2,hs2⟩)
  |(go_at_call 144;refine (HC.out _ _ _ _ _ _ _ _ _ _ _ hz1 hz2 inferInstance inferInstance).mono ?_;rintro e w3 ⟨rfl,hs3⟩))
 go_ret
 exact ⟨rfl,Step.of _ _⟩
def minorD (ds:List Int) (k:Nat):Int:=if k=0 then 1 else ds.getD (k-1) 0
theorem rminor_ok {w0 w:World} {A:Option Addr} {c n k:Nat} {ds:List Int} (h:IntsV w0 A ds) (hl:ds.length=n) (hn:n<=1000) (hk:k<=n) [hx:Ext w0 w]:
  Calls Tryz.prog 153 #[.slice A n c,.int .i64 k] w (RetInt w (minorD ds k)):=by
 by_cases h0:k=0
 ·subst h0
  go_enter Tryz.func153,Tryz.ntmps153
  go_wp2_with (go_at_call 113;refine (rSmall_any 1 (by omega) (by omega) _).mono ?_;rintro e w2 ⟨g,B2,k2,d2,rfl,hz,hs2⟩;obtain ⟨q0,q1,q2,q3,q4,q5⟩:=box2 w w2 (.bool false) (.slice none 0 0) 117;have Q0:=Lib.hid q0;clear q0)
  exact bodyPost_ret (v:= .agg #[.bool g,.slice B2 k2 d2]) (by simp [results,Tryz.results153,go_sem,q1,q2]) rfl ⟨_,_,_,_,rfl,hz.boxed (by decide) Q0.out _ _,Step.of _ _⟩
 ·obtain ⟨j,rfl⟩:∃j,k=j+1:=⟨k-1,by omega⟩
  obtain ⟨b3,o3,g3,B3,n3,c3,rfl,hc3,hc4,hz3,hb3⟩:=(h.ext hx).atD (i:=j) (by omega)
  have HE:Hid (minorD ds (j+1)=ds.getD j 0):=Lib.hid (by unfold minorD;rw [if_neg (by omega)];rfl)
  have HZ:=Lib.hid hz3
  have hj1:(((j+1:Nat):Int)==0)=false:=by simp;omega
  have hjn:j<n:=by omega
  obtain ⟨jz,hjz⟩:∃jz:Int,jz=((j+1:Nat):Int):=⟨_,rfl⟩
  have hjs:jz-1=(j:Int):=by omega
  rw [<-hjz] at hj1 |-
  have hjw:IntKind.i64.wrap (jz-1)=(j:Int):=by rw [hjs];exact IntWalk.i64_in _ (by omega)
  clear hz3 h0 hjz
  go_enter Tryz.func153,Tryz.ntmps153
  go_wp2_with fail
  exact bodyPost_ret (v:= .agg #[.bool g3,.slice B3 n3 c3]) (by simp [results,Tryz.results153,go_sem]) rfl ⟨_,_,_,_,rfl,by rw [HE.out];exact HZ.out.keeps,Step.of _ _⟩
theorem minorD_bd {k b:Nat} {ds:List Int} (h:BdL b ds) (hb:1<=b):Bd b (minorD ds k):=by
 unfold minorD
 split
 ·exact Bd.one hb
 ·exact h _
def lamF (m:List (List Int)) (i j:Nat):Int:=detF (selM m (firstL j i) (firstL j j))
theorem rSized_ok {w0 w1 w:World} {A B:Option Addr} {c d n b i j:Nat} {m:List (List Int)} (h:MatV w0 A m) (hd:IntsV w1 B (leadF m)) (h1:m.length=n) (h4:n<=8) (hn:AllLen m n) (hb:BdM b m) (hb1:1<=b) (hbb:b<=1000000) (hi:i<n) (hj:j<n) [hx:Ext w0 w] [hy:Ext w1 w]:
  Calls Tryz.prog 148 #[.slice A n c,.slice B n d,.int .i64 i,.int .i64 j] w (RetVal w (.bool (decide (2*((lamF m i j).natAbs:Int)<=minorD (leadF m) (j+1))))):=by
 have h0:=h.ext hx
 have hd0:=hd.ext hy
 have HLA:=Lib.hid (fun W (e1:Ext w W)=>rLambda_ok (w:=W) (c:=c) h0 h1 h4 hn hb hb1 hbb hi hj)
 have HMI:=Lib.hid (fun W (e1:Ext w W)=>rminor_ok (w:=W) (c:=d) (n:=n) (k:=j+1) hd0 (by rw [leadF_len];exact h1) (by omega) (by omega))
 have hlb:Bd (256*(b+1)) (lamF m i j):=detSel_bd (by omega) hb1 hb
 have hmb:Bd (256*(b+1)) (minorD (leadF m) (j+1)):=minorD_bd (leadF_bd (by omega) hb1 hb) (by omega)
 have e1:detF (selM m (firstL j i) (firstL j j))=lamF m i j:=rfl
 rw [e1] at HLA
 have hle:=cmpI_le (x:=2*((lamF m i j).natAbs:Int)) (y:=minorD (leadF m) (j+1))
 rw [<-hle]
 clear hle e1 hn hb h1
 generalize lamF m i j=L at*
 generalize minorD (leadF m) (j+1)=M at*
 have HAB:Hid (∀(W1 W:World) (g1:Bool) B1 n1 c1,IntV W1 g1 B1 n1 c1 L->Ext W1 W->Calls Tryz.prog 209 #[.agg #[.bool g1,.slice B1 n1 c1]] W (RetInt W L.natAbs)):=Lib.hid (fun W1 W g1 B1 n1 c1 ha e1=>rAbs_any ha (by have :=ha.bd hlb (by omega);omega))
 have HMU:Hid (∀(W1 W2 W:World) (g1:Bool) B1 n1 c1 (g2:Bool) B2 n2 c2,IntV W1 g1 B1 n1 c1 2->IntV W2 g2 B2 n2 c2 L.natAbs->Ext W1 W->Ext W2 W->Calls Tryz.prog 181 #[.agg #[.bool g1,.slice B1 n1 c1],.agg #[.bool g2,.slice B2 n2 c2]] W (RetInt W (2*(L.natAbs:Int)))):=Lib.hid (fun W1 W2 W g1 B1 n1 c1 g2 B2 n2 c2 ha hb e1 e2=>rMul_any ha hb (by have :=ha.len (k:=1) (by decide);omega) (by have :=hb.bd hlb.abs (by omega);omega))
 have HC:Hid (∀(W1 W2 W:World) (g1:Bool) B1 n1 c1 (g2:Bool) B2 n2 c2,IntV W1 g1 B1 n1 c1 (2*(L.natAbs:Int))->IntV W2 g2 B2 n2 c2 M->Ext W1 W->Ext W2 W->Calls Tryz.prog 144 #[.agg #[.bool g1,.slice B1 n1 c1],.agg #[.bool g2,.slice B2 n2 c2]] W (RetVal W (.int .i64 (cmpI (2*(L.natAbs:Int)) M)))):=Lib.hid (fun W1 W2 W g1 B1 n1 c1 g2 B2 n2 c2 ha hb e1 e2=>rCmp_any ha hb (by have :=ha.bd (k:=2+256*(b+1)) ((show Bd 2 2 from (by decide:(2:Int).natAbs<2^2)).mul hlb.abs) (by omega);omega) (by have :=hb.bd hmb (by omega);omega))
 rw [show (((j+1:Nat):Int))=(j:Int)+1 by omega] at HMI
 go_enter Tryz.func148,Tryz.ntmps148
 go_wp2_with (first
  |(go_at_call 113;refine (rSmall_any 2 (by omega) (by omega) _).mono ?_;rintro e w2 ⟨g2,B2,k2,d2,rfl,hz2,hs2⟩)
  |(go_at_call 152;refine (HLA.out _ inferInstance).mono ?_;rintro e w3 ⟨g3,B3,k3,d3,rfl,hz3,hs3⟩)
  |(go_at_call 209;refine (HAB.out _ _ _ _ _ _ hz3 inferInstance).mono ?_;rintro e w4 ⟨g4,B4,k4,d4,rfl,hz4,hs4⟩)
  |(go_at_call 181;refine (HMU.out _ _ _ _ _ _ _ _ _ _ _ hz2 hz4 inferInstance inferInstance).mono ?_;rintro e w5 ⟨g5,B5,k5,d5,rfl,hz5,hs5⟩)
  |(go_at_call 153;refine (HMI.out _ inferInstance).mono ?_;rintro e w6 ⟨g6,B6,k6,d6,rfl,hz6,hs6⟩)
  |(go_at_call 144;refine (HC.out _ _ _ _ _ _ _ _ _ _ _ hz5 hz6 inferInstance inferInstance).mono ?_;rintro e w7 ⟨rfl,hs7⟩))
 go_ret
 exact ⟨rfl,Step.of _ _⟩
theorem rLovasz_ok {w0 w1 w:World} {A B:Option Addr} {c d n b i:Nat} {m:List (List Int)} (h:MatV w0 A m) (hd:IntsV w1 B (leadF m)) (h1:m.length=n) (h4:n<=8) (hn:AllLen m n) (hb:BdM b m) (hb1:1<=b) (hbb:b<=1000000) (hi:i<n) (hi1:1<=i) [hx:Ext w0 w] [hy:Ext w1 w]:
  Calls Tryz.prog 154 #[.slice A n c,.slice B n d,.int .i64 i] w (RetVal w (.bool (decide (3*(minorD (leadF m) i*minorD (leadF m) i)<=4*(minorD (leadF m) (i-1)*minorD (leadF m) (i+1)+lamF m i (i-1)*lamF m i (i-1)))))):=by
 have h0:=h.ext hx
 have hd0:=hd.ext hy
 have HLA:=Lib.hid (fun W (e1:Ext w W)=>rLambda_ok (w:=W) (c:=c) (i:=i) (j:=i-1) h0 h1 h4 hn hb hb1 hbb hi (by omega))
 have HM0:=Lib.hid (fun W (e1:Ext w W)=>rminor_ok (w:=W) (c:=d) (n:=n) (k:=i-1) hd0 (by rw [leadF_len];exact h1) (by omega) (by omega))
 have HM1:=Lib.hid (fun W (e1:Ext w W)=>rminor_ok (w:=W) (c:=d) (n:=n) (k:=i) hd0 (by rw [leadF_len];exact h1) (by omega) (by omega))
 have HM2:=Lib.hid (fun W (e1:Ext w W)=>rminor_ok (w:=W) (c:=d) (n:=n) (k:=i+1) hd0 (by rw [leadF_len];exact h1) (by omega) (by omega))
 have hlb:Bd (256*(b+1)) (lamF m i (i-1)):=detSel_bd (by omega) hb1 hb
 have hmb:∀k,Bd (256*(b+1)) (minorD (leadF m) k):=fun k=>minorD_bd (leadF_bd (by omega) hb1 hb) (by omega)
 have hm0:=hmb (i-1)
 have hm1:=hmb i
 have hm2:=hmb (i+1)
 have e1:detF (selM m (firstL (i-1) i) (firstL (i-1) (i-1)))=lamF m i (i-1):=rfl
 rw [e1] at HLA
 rw [show (((i+1:Nat):Int))=(i:Int)+1 by omega] at HM2
 rw [show (((i-1:Nat):Int))=(i:Int)-1 by omega] at HM0 HLA
 rw [<-cmpI_ge]
 obtain ⟨K,hK⟩:∃K,K=256*(b+1):=⟨_,rfl⟩
 have hK2:K<=256000256:=by omega
 have hK1:1<=K:=by omega
 have hw1:IntKind.i64.wrap ((i:Int)-1)=(i:Int)-1:=IntWalk.i64_in _ (by omega)
 have hw2:IntKind.i64.wrap ((i:Int)+1)=(i:Int)+1:=IntWalk.i64_in _ (by omega)
 rw [<-hK] at hlb hm0 hm1 hm2
 clear hK hmb e1 hn hb h1
 generalize lamF m i (i-1)=L at*
 generalize minorD (leadF m) (i-1)=D0 at*
 generalize minorD (leadF m) (i+1)=D2 at*
 generalize minorD (leadF m) i=D1 at*
 have hb2:∀{x y:Int},Bd K x->Bd K y->Bd (2*K) (x*y):=fun h1 h2=>by have :=h1.mul h2;rwa [show K+K=2*K by omega] at this
 have HMU:Hid (∀(x y:Int) (W1 W2 W:World) (g1:Bool) B1 n1 c1 (g2:Bool) B2 n2 c2,IntV W1 g1 B1 n1 c1 x->IntV W2 g2 B2 n2 c2 y->Bd (3*K+1) x->Bd (3*K+1) y->Ext W1 W->Ext W2 W->Calls Tryz.prog 181 #[.agg #[.bool g1,.slice B1 n1 c1],.agg #[.bool g2,.slice B2 n2 c2]] W (RetInt W (x*y))):=Lib.hid (fun x y W1 W2 W g1 B1 n1 c1 g2 B2 n2 c2 ha hb b1 b2 e1 e2=>rMul_any ha hb (by have :=ha.bd b1 (by omega);omega) (by have :=hb.bd b2 (by omega);omega))
 have HAD:Hid (∀(x y:Int) (W1 W2 W:World) (g1:Bool) B1 n1 c1 (g2:Bool) B2 n2 c2,IntV W1 g1 B1 n1 c1 x->IntV W2 g2 B2 n2 c2 y->Bd (3*K+1) x->Bd (3*K+1) y->Ext W1 W->Ext W2 W->Calls Tryz.prog 180 #[.agg #[.bool g1,.slice B1 n1 c1],.agg #[.bool g2,.slice B2 n2 c2]] W (RetInt W (x+y))):=Lib.hid (fun x y W1 W2 W g1 B1 n1 c1 g2 B2 n2 c2 ha hb b1 b2 e1 e2=>rAdd_any ha hb (by have :=ha.bd b1 (by omega);omega) (by have :=hb.bd b2 (by omega);omega))
 have HC:Hid (∀(x y:Int) (W1 W2 W:World) (g1:Bool) B1 n1 c1 (g2:Bool) B2 n2 c2,IntV W1 g1 B1 n1 c1 x->IntV W2 g2 B2 n2 c2 y->Bd (8*K+100) x->Bd (8*K+100) y->Ext W1 W->Ext W2 W->Calls Tryz.prog 144 #[.agg #[.bool g1,.slice B1 n1 c1],.agg #[.bool g2,.slice B2 n2 c2]] W (RetVal W (.int .i64 (cmpI x y)))):=Lib.hid (fun x y W1 W2 W g1 B1 n1 c1 g2 B2 n2 c2 ha hb b1 b2 e1 e2=>rCmp_any ha hb (by have :=ha.bd b1 (by omega);omega) (by have :=hb.bd b2 (by omega);omega))
 have HBB:Hid (Bd (3*K+1) 4/\Bd (3*K+1) 3/\Bd (3*K+1) L/\Bd (3*K+1) D0/\Bd (3*K+1) D1/\Bd (3*K+1) D2/\Bd (3*K+1) (D0*D2)/\Bd (3*K+1) (L*L)/\Bd (3*K+1) (D0*D2+L*L)/\Bd (3*K+1) (D1*D1)/\Bd (8*K+100) (4*(D0*D2+L*L))/\Bd (8*K+100) (3*(D1*D1))):=Lib.hid (by
  have q1:=hb2 hm0 hm2
  have q2:=hb2 hlb hlb
  have q3:=q1.add q2
  have q4:=hb2 hm1 hm1
  have f4:Bd 3 4:=(by decide:(4:Int).natAbs<2^3)
  have f3:Bd 3 3:=(by decide:(3:Int).natAbs<2^3)
  exact ⟨f4.mono (by omega),f3.mono (by omega),hlb.mono (by omega),hm0.mono (by omega),hm1.mono (by omega),hm2.mono (by omega),q1.mono (by omega),q2.mono (by omega),q3.mono (by omega),q4.mono (by omega),(f4.mul q3).mono (by omega),(f3.mul q4).mono (by omega)⟩)
 obtain ⟨P1,hP1⟩:∃P1,D0*D2=P1:=⟨_,rfl⟩
 obtain ⟨P2,hP2⟩:∃P2,L*L=P2:=⟨_,rfl⟩
 obtain ⟨P3,hP3⟩:∃P3,D1*D1=P3:=⟨_,rfl⟩
 have HP:=Lib.hid (And.intro hP1 (And.intro hP2 hP3))
 rw [hP1,hP2,hP3] at HBB |-
 clear hb2 hlb hm0 hm1 hm2 hP1 hP2 hP3
 go_enter Tryz.func154,Tryz.ntmps154
 go_wp2_with (go_at_call 152;refine (HLA.out _ inferInstance).mono ?_;rintro e wa ⟨ga,Ba,ka,da,rfl,hza,hsa⟩)
 obtain ⟨w7,hw7⟩:∃w7,w7=wa.alloc (.cells #[.bool ga,.slice Ba ka da] 117):=⟨_,rfl⟩
 have hx7:Ext wa w7:=by rw [hw7];exact inferInstance
 have hbx:w7.heap[wa.heap.size]? =some (.cells #[.bool ga,.slice Ba ka da] 117 (0,0)):=by rw [hw7];exact heap_alloc_new wa _
 obtain ⟨p1,p2,p3,p4,p5⟩:=box_cells2 hbx
 have o7:Old wa.heap.size w7:=⟨p5⟩
 have hxw7:Ext w w7:=Ext.trans inferInstance hx7
 have hza7:=hza.ext hx7
 have HZA:=Lib.hid hza7
 have HCE:=Lib.hid (And.intro p1 p2)
 rw [<-hw7]
 clear hza hza7 hbx hw7
 go_wp2_with fail
 go_cut [8] (fun s8 wx=>∃p:Nat,s8= .pointer (some ⟨p,0,none⟩)/\Hid (Box wx p (4*(P1+P2)))/\Ext w7 wx)
 case first=>
  go_region_held3 (fun w'=>w'.cell? ⟨wa.heap.size,0,none⟩=some (.bool ga)/\w'.cell? ⟨wa.heap.size,1,none⟩=some (.slice Ba ka da)) (exact ⟨(cellE w7).trans HCE.out.1,(cellE w7).trans HCE.out.2⟩)
   (first
    |(go_at_call 113;refine (rSmall_any 4 (by omega) (by omega) _).mono ?_;rintro e w2 ⟨g2,B2,k2,d2,rfl,hz2,hs2⟩)
    |(go_at_call 153;first
      |(have hh:=hz3;clear hh;refine (HM2.out _ inferInstance).mono ?_;rintro e w4 ⟨g4,B4,k4,d4,rfl,hz4,hs4⟩)
      |(refine (HM0.out _ inferInstance).mono ?_;rintro e w3 ⟨g3,B3,k3,d3,rfl,hz3,hs3⟩))
    |(go_at_call 181;first
      |(have hh:=hz8;clear hh;refine (HMU.out 4 (P1+P2) _ _ _ _ _ _ _ _ _ _ _ hz2 hz8 HBB.out.1 HBB.out.2.2.2.2.2.2.2.2.1 inferInstance inferInstance).mono ?_;rintro e w9 ⟨g9,B9,k9,d9,rfl,hz9,hs9⟩)
      |(have hh:=hz5;clear hh;refine (HMU.out L L _ _ _ _ _ _ _ _ _ _ _ HZA.out HZA.out HBB.out.2.2.1 HBB.out.2.2.1 inferInstance inferInstance).mono ?_;rintro e w6 ⟨g6,B6,k6,d6,rfl,hz6,hs6⟩;rw [HP.out.2.1] at hz6)
      |(refine (HMU.out D0 D2 _ _ _ _ _ _ _ _ _ _ _ hz3 hz4 HBB.out.2.2.2.1 HBB.out.2.2.2.2.2.1 inferInstance inferInstance).mono ?_;rintro e w5 ⟨g5,B5,k5,d5,rfl,hz5,hs5⟩;rw [HP.out.1] at hz5))
    |(go_at_call 180;refine (HAD.out P1 P2 _ _ _ _ _ _ _ _ _ _ _ hz5 hz6 HBB.out.2.2.2.2.2.2.1 HBB.out.2.2.2.2.2.2.2.1 inferInstance inferInstance).mono ?_;rintro e w8 ⟨g8,B8,k8,d8,rfl,hz8,hs8⟩))
  all_goals (go_wp2_with fail;go_meet;exact ⟨_,rfl,Lib.hid ⟨g9,B9,k9,d9,BlkAt.eq,hz9.keeps⟩,inferInstance⟩)
 case rest=>
  obtain ⟨p,rfl,HBX,hxc⟩:=hcut
  obtain ⟨g9,B9,k9,d9,hbk,r1,r2,r3,r4,r5,hz9⟩:=HBX.out.cells
  have oP:Old p wc:=⟨r5⟩
  have hxwc:Ext w wc:=hxw7.trans hxc
  have HZ9:=Lib.hid hz9
  have HC9:=Lib.hid (And.intro r1 r2)
  clear hbk hz9
  go_wp2_with fail
  go_region_held3 (fun w'=>w'.cell? ⟨p,0,none⟩=some (.bool g9)/\w'.cell? ⟨p,1,none⟩=some (.slice B9 k9 d9)) (exact ⟨(cellE wc).trans HC9.out.1,(cellE wc).trans HC9.out.2⟩)
   (first
    |(go_at_call 113;refine (rSmall_any 3 (by omega) (by omega) _).mono ?_;rintro e w2 ⟨g2,B2,k2,d2,rfl,hz2,hs2⟩)
    |(go_at_call 153;first
      |(have hh:=hz3;clear hh;refine (HM1.out _ inferInstance).mono ?_;rintro e w4 ⟨g4,B4,k4,d4,rfl,hz4,hs4⟩)
      |(refine (HM1.out _ inferInstance).mono ?_;rintro e w3 ⟨g3,B3,k3,d3,rfl,hz3,hs3⟩))
    |(go_at_call 181;first
      |(have hh:=hz5;clear hh;refine (HMU.out 3 P3 _ _ _ _ _ _ _ _ _ _ _ hz2 hz5 HBB.out.2.1 HBB.out.2.2.2.2.2.2.2.2.2.1 inferInstance inferInstance).mono ?_;rintro e w6 ⟨g6,B6,k6,d6,rfl,hz6,hs6⟩)
      |(refine (HMU.out D1 D1 _ _ _ _ _ _ _ _ _ _ _ hz3 hz4 HBB.out.2.2.2.2.1 HBB.out.2.2.2.2.1 inferInstance inferInstance).mono ?_;rintro e w5 ⟨g5,B5,k5,d5,rfl,hz5,hs5⟩;rw [HP.out.2.2] at hz5))
    |(go_at_call 144;refine (HC.out (4*(P1+P2)) (3*P3) _ _ _ _ _ _ _ _ _ _ _ HZ9.out hz6 HBB.out.2.2.2.2.2.2.2.2.2.2.1 HBB.out.2.2.2.2.2.2.2.2.2.2.2 inferInstance inferInstance).mono ?_;rintro e w7 ⟨rfl,hs7⟩))
  all_goals
   go_wp2_with fail
   go_ret
   exact ⟨rfl,Step.of _ _⟩
instance TNe.u32_Rat:TNe 280 171:=⟨by decide⟩
def RetRat (w:World) (F:Int->Int->Prop) (e:Ending) (w':World):Prop:=∃g B k d g' B' k' d' p q,e= .returned (.agg #[.bool g,.slice B k d,.bool g',.slice B' k' d'])/\IntV w' g B k d p/\IntV w' g' B' k' d' q/\F p q/\Step w w'
def RetRatB (w:World) (F:Int->Int->Prop) (e:Ending) (w':World):Prop:=∃g B k d g' B' k' d' p q,e= .returned (.tuple #[.agg #[.bool g,.slice B k d,.bool g',.slice B' k' d'],.bool true])/\IntV w' g B k d p/\IntV w' g' B' k' d' q/\F p q/\Step w w'
theorem blk4 {w:World} {b:Nat} {x0 x1 x2 x3:Value} {T:TypeId} (h:w.heap[b]? =some (.cells #[x0,x1,x2,x3] T (0,0))):(w.cell? ⟨b,0,none⟩=some x0/\w.cell? ⟨b,1,none⟩=some x1/\w.cell? ⟨b,2,none⟩=some x2/\w.cell? ⟨b,3,none⟩=some x3)/\(w.frozen? ⟨b,0,none⟩=false/\w.frozen? ⟨b,1,none⟩=false/\w.frozen? ⟨b,2,none⟩=false/\w.frozen? ⟨b,3,none⟩=false)/\b<w.heap.size:=
 ⟨⟨by simp [World.cell?,h],by simp [World.cell?,h],by simp [World.cell?,h],by simp [World.cell?,h]⟩,⟨by simp [World.frozen?,h],by simp [World.frozen?,h],by simp [World.frozen?,h],by simp [World.frozen?,h]⟩,lt_of_heap h⟩
theorem cell_set4 {W:World} {b c o:Nat} {u0 u1 u2 u3:Value} (h:c≠b):((((W.setCell ⟨b,0,none⟩ u0).setCell ⟨b,1,none⟩ u1).setCell ⟨b,2,none⟩ u2).setCell ⟨b,3,none⟩ u3).cell? ⟨c,o,none⟩=W.cell? ⟨c,o,none⟩:=by
 have key:∀i,(⟨b,i,none⟩:Addr)≠⟨c,o,none⟩:=fun i e=>by injection e with e1 e2;exact h e1.symm
 rw [World.cell?_setCell_other _ _ _ _ (key 3),World.cell?_setCell_other _ _ _ _ (key 2),World.cell?_setCell_other _ _ _ _ (key 1),World.cell?_setCell_other _ _ _ _ (key 0)]
theorem rHalf_ok {w:World}:Calls Tryz.prog 212 #[] w (RetRat w fun p q=>p=1/\q=2):=by
 go_enter Tryz.func212,Tryz.ntmps212
 go_wp2_with fail
 refine (rSmall_any 1 (by omega) (by omega) _).mono ?_
 rintro e w1 ⟨g1,B1,k1,d1,rfl,hz1,hs1⟩
 go_wp2_with fail
 refine (rSmall_any 2 (by omega) (by omega) _).mono ?_
 rintro e w2 ⟨g2,B2,k2,d2,rfl,hz2,hs2⟩
 have hb:=(inferInstance:BlkAt w.heap.size #[.bool false,.slice none 0 0,.bool false,.slice none 0 0] 171 w2).eq
 obtain ⟨⟨a0,a1,a2,a3⟩,⟨f0,f1,f2,f3⟩,a4⟩:=blk4 hb
 have tq:Typed w.heap.size 171 w2:=⟨_,_,hb⟩
 have hz1':=hz1.ext hs2.ext
 clear hb
 go_wp2_with fail
 exact bodyPost_ret (v:= .agg #[.bool g1,.slice B1 k1 d1,.bool g2,.slice B2 k2 d2]) (by simp [results,Tryz.results212,go_sem,a0,a1,a2,a3]) rfl ⟨_,_,_,_,_,_,_,_,1,2,rfl,hz1'.keeps,hz2.keeps,⟨rfl,rfl⟩,Step.of _ _⟩
theorem rNew_ok {w0 w1 w:World} {na nb:Bool} {A B:Option Addr} {n k c d kk:Nat} {x y:Int} (ha:IntV w0 na A n c x) (hb:IntV w1 nb B k d y) (hkk:kk<=8000000000000) (hbx:Bd kk x) (hby:Bd kk y) (hy0:0<y) [hx:Ext w0 w] [hy:Ext w1 w]:
  Calls Tryz.prog 254 #[.agg #[.bool na,.slice A n c],.agg #[.bool nb,.slice B k d]] w (RetRatB w (RatOf x y)):=by
 have ln:=ha.bd hbx hkk
 have lk:=hb.bd hby hkk
 have hsg:cmpI y 0=1:=cmpI_gt hy0
 have HSG:=Lib.hid (fun W (hh:Ext w1 W)=>rSign_any (w:=W) hb (by omega))
 rw [hsg] at HSG
 have HGC:=Lib.hid (fun W (e1:Ext w0 W) (e2:Ext w1 W)=>rGcd_any (w:=W) ha hb hkk hbx hby)
 have hgp:=gcd_pos_of (num:=x) (by omega:y≠0)
 have hro:=RatOf.new (num:=x) hy0
 have hgb:Bd kk (Int.gcd x y:Int):=hby.le (by
  have :=Int.le_of_dvd hy0 (Int.gcd_dvd_right (a:=x) (b:=y))
  omega)
 generalize (Int.gcd x y:Int)=G at*
 have HQ1:Hid (∀(W1 W:World) (g1:Bool) B1 n1 c1,IntV W1 g1 B1 n1 c1 G->Ext W1 W->Ext w0 W->Calls Tryz.prog 184 #[.agg #[.bool na,.slice A n c],.agg #[.bool g1,.slice B1 n1 c1]] W (RetInt W (x / G))):=Lib.hid (fun W1 W g1 B1 n1 c1 hg e1 e2=>rQuo_any ha hg ln (hg.bd hgb hkk) (by omega))
 have HQ2:Hid (∀(W1 W:World) (g1:Bool) B1 n1 c1,IntV W1 g1 B1 n1 c1 G->Ext W1 W->Ext w1 W->Calls Tryz.prog 184 #[.agg #[.bool nb,.slice B k d],.agg #[.bool g1,.slice B1 n1 c1]] W (RetInt W (y / G))):=Lib.hid (fun W1 W g1 B1 n1 c1 hg e1 e2=>rQuo_any hb hg lk (hg.bd hgb hkk) (by omega))
 have HRO:=Lib.hid hro
 clear hsg hro hgb hgp ln lk
 go_enter Tryz.func254,Tryz.ntmps254
 go_wp2_with (first
  |(go_at_call 175;first
    |(have hh:=hsq;clear hh;refine (HSG.out _ inferInstance).mono ?_;rintro e w3 ⟨rfl,hs3⟩;have hb3:=(inferInstance:BlkAt w.heap.size #[.bool na,.slice A n c] 117 w3).eq;have hb4:=(inferInstance:BlkAt (w.heap.size+1) #[.bool nb,.slice B k d] 117 w3).eq;obtain ⟨u1,u2,-,-,-⟩:=box_cells2 hb3;obtain ⟨u3,u4,-,-,-⟩:=box_cells2 hb4;clear hb3 hb4)
    |(refine (HSG.out _ inferInstance).mono ?_;rintro e w2 ⟨rfl,hs2⟩;have hb3:=(inferInstance:BlkAt (w.heap.size+1) #[.bool nb,.slice B k d] 117 w2).eq;obtain ⟨v3,v4,-,-,-⟩:=box_cells2 hb3;clear hb3;have hsq:=hs2))
  |(go_at_call 285;refine (HGC.out _ inferInstance inferInstance).mono ?_;rintro e w4 ⟨g4,B4,k4,d4,rfl,hz4,hs4⟩))
 have HZ4:=Lib.hid hz4
 clear hz4
 obtain ⟨w5,hw5⟩:∃w5,w5=w4.alloc (.cells #[.bool g4,.slice B4 k4 d4] 117):=⟨_,rfl⟩
 have hx45:Ext w4 w5:=by rw [hw5];exact inferInstance
 have q2:w5.heap[w4.heap.size]? =some (.cells #[.bool g4,.slice B4 k4 d4] 117 (0,0)):=by rw [hw5];exact heap_alloc_new w4 _
 have q0:=heap_of_ext hx45 (inferInstance:BlkAt w.heap.size #[.bool na,.slice A n c] 117 w4).eq
 have q1:=heap_of_ext hx45 (inferInstance:BlkAt (w.heap.size+1) #[.bool nb,.slice B k d] 117 w4).eq
 have q3:=heap_of_ext hx45 (inferInstance:BlkAt (w.heap.size+1+1) #[.bool false,.slice none 0 0,.bool false,.slice none 0 0] 171 w4).eq
 have hxw5:Ext w w5:=Ext.trans inferInstance hx45
 have HX0:Hid (Ext w0 w5):=Lib.hid (hx.trans hxw5)
 have HX1:Hid (Ext w1 w5):=Lib.hid (hy.trans hxw5)
 have HZ5:=Lib.hid (HZ4.out.ext hx45)
 have HQS:=Lib.hid (And.intro q0 (And.intro q1 (And.intro q2 q3)))
 have h4sz:w.heap.size+1+1<w4.heap.size:=(inferInstance:Old (w.heap.size+1+1) w4).lt
 have HLL:Hid (∀W,Ext w5 W->W.cell? ⟨w.heap.size,0,none⟩=some (.bool na)/\W.cell? ⟨w.heap.size,1,none⟩=some (.slice A n c)/\W.cell? ⟨w.heap.size+1,0,none⟩=some (.bool nb)/\W.cell? ⟨w.heap.size+1,1,none⟩=some (.slice B k d)/\W.cell? ⟨w4.heap.size,0,none⟩=some (.bool g4)/\W.cell? ⟨w4.heap.size,1,none⟩=some (.slice B4 k4 d4)):=Lib.hid (fun W hh=>by
  obtain ⟨a1,a2,-⟩:=box_cells2 (heap_of_ext hh HQS.out.1)
  obtain ⟨b1,b2,-⟩:=box_cells2 (heap_of_ext hh HQS.out.2.1)
  obtain ⟨c1,c2,-⟩:=box_cells2 (heap_of_ext hh HQS.out.2.2.1)
  exact ⟨a1,a2,b1,b2,c1,c2⟩)
 have HLF:Hid (∀W,Ext w5 W->∀(u0 u1 u2 u3:Value),((((W.setCell ⟨w.heap.size+1+1,0,none⟩ u0).setCell ⟨w.heap.size+1+1,1,none⟩ u1).setCell ⟨w.heap.size+1+1,2,none⟩ u2).setCell ⟨w.heap.size+1+1,3,none⟩ u3).cell? ⟨w.heap.size,0,none⟩=some (.bool na)/\((((W.setCell ⟨w.heap.size+1+1,0,none⟩ u0).setCell ⟨w.heap.size+1+1,1,none⟩ u1).setCell ⟨w.heap.size+1+1,2,none⟩ u2).setCell ⟨w.heap.size+1+1,3,none⟩ u3).cell? ⟨w.heap.size,1,none⟩=some (.slice A n c)/\((((W.setCell ⟨w.heap.size+1+1,0,none⟩ u0).setCell ⟨w.heap.size+1+1,1,none⟩ u1).setCell ⟨w.heap.size+1+1,2,none⟩ u2).setCell ⟨w.heap.size+1+1,3,none⟩ u3).cell? ⟨w.heap.size+1,0,none⟩=some (.bool nb)/\((((W.setCell ⟨w.heap.size+1+1,0,none⟩ u0).setCell ⟨w.heap.size+1+1,1,none⟩ u1).setCell ⟨w.heap.size+1+1,2,none⟩ u2).setCell ⟨w.heap.size+1+1,3,none⟩ u3).cell? ⟨w.heap.size+1,1,none⟩=some (.slice B k d)/\((((W.setCell ⟨w.heap.size+1+1,0,none⟩ u0).setCell ⟨w.heap.size+1+1,1,none⟩ u1).setCell ⟨w.heap.size+1+1,2,none⟩ u2).setCell ⟨w.heap.size+1+1,3,none⟩ u3).cell? ⟨w4.heap.size,0,none⟩=some (.bool g4)/\((((W.setCell ⟨w.heap.size+1+1,0,none⟩ u0).setCell ⟨w.heap.size+1+1,1,none⟩ u1).setCell ⟨w.heap.size+1+1,2,none⟩ u2).setCell ⟨w.heap.size+1+1,3,none⟩ u3).cell? ⟨w4.heap.size,1,none⟩=some (.slice B4 k4 d4)):=Lib.hid (fun W hh u0 u1 u2 u3=>by
  obtain ⟨a1,a2,b1,b2,c1,c2⟩:=HLL.out W hh
  exact ⟨(cell_set4 (by omega)).trans a1,(cell_set4 (by omega)).trans a2,(cell_set4 (by omega)).trans b1,(cell_set4 (by omega)).trans b2,(cell_set4 (by omega)).trans c1,(cell_set4 (by omega)).trans c2⟩)
 have HRB:Hid (∀W,Ext w5 W->W.heap[w.heap.size+1+1]? =some (.cells #[.bool false,.slice none 0 0,.bool false,.slice none 0 0] 171 (0,0))):=Lib.hid (fun W hh=>heap_of_ext hh HQS.out.2.2.2)
 rw [<-hw5]
 clear q0 q1 q2 q3 hw5
 have i0:Ext w0 w5:=HX0.out
 have i1:Ext w1 w5:=HX1.out
 go_wp2_with fail
 go_region_held3 (fun W=>W.cell? ⟨w.heap.size,0,none⟩=some (.bool na)/\W.cell? ⟨w.heap.size,1,none⟩=some (.slice A n c)/\W.cell? ⟨w.heap.size+1,0,none⟩=some (.bool nb)/\W.cell? ⟨w.heap.size+1,1,none⟩=some (.slice B k d)/\W.cell? ⟨w4.heap.size,0,none⟩=some (.bool g4)/\W.cell? ⟨w4.heap.size,1,none⟩=some (.slice B4 k4 d4))
  (first |exact HLL.out _ inferInstance |exact HLF.out _ inferInstance _ _ _ _)
  (first
   |(go_at_call 184;first
     |(have hh:=hz6;clear hh;refine (HQ2.out _ _ _ _ _ _ HZ5.out inferInstance inferInstance).mono ?_;rintro e w7 ⟨g7,B7,k7,d7,rfl,hz7,hs7⟩;obtain ⟨⟨a0,a1,a2,a3⟩,⟨f0,f1,f2,f3⟩,a4⟩:=blk4 (HRB.out w7 inferInstance);have tq:Typed (w.heap.size+1+1) 171 w7:=⟨_,_,HRB.out w7 inferInstance⟩)
     |(refine (HQ1.out _ _ _ _ _ _ HZ5.out inferInstance inferInstance).mono ?_;rintro e w6 ⟨g6,B6,k6,d6,rfl,hz6,hs6⟩)))
 all_goals
  have hz6':=hz6.ext (inferInstance:Ext w6 w7)
  go_wp2_with fail
  exact bodyPost_ret (v:= .tuple #[.agg #[.bool g6,.slice B6 k6 d6,.bool g7,.slice B7 k7 d7],.bool true]) (by simp [results,Tryz.results254,go_sem,a0,a1,a2,a3]) rfl ⟨_,_,_,_,_,_,_,_,_,_,rfl,hz6'.keeps,hz7.keeps,HRO.out,Step.of _ _⟩
theorem rNormalizeQ_ok {w0 w1 w:World} {na nb:Bool} {A B:Option Addr} {n k c d kk:Nat} {x y:Int} (ha:IntV w0 na A n c x) (hb:IntV w1 nb B k d y) (hkk:kk<=8000000000000) (hbx:Bd kk x) (hby:Bd kk y) (hy0:0<y) [hx:Ext w0 w] [hy:Ext w1 w]:
  Calls Tryz.prog 213 #[.agg #[.bool na,.slice A n c,.bool nb,.slice B k d]] w (RetRat w (RatOf x y)):=by
 have HN:=Lib.hid (fun W (e1:Ext w0 W) (e2:Ext w1 W)=>rNew_ok (w:=W) ha hb hkk hbx hby hy0)
 go_enter Tryz.func213,Tryz.ntmps213
 go_wp2_with (go_at_call 254;refine (HN.out _ inferInstance inferInstance).mono ?_;rintro e w2 ⟨g6,B6,k6,d6,g7,B7,k7,d7,p,q,rfl,hz6,hz7,hF,hs2⟩;have hbk:=(inferInstance:BlkAt (w.heap.size+1) #[.bool false,.slice none 0 0,.bool false,.slice none 0 0] 171 w2).eq;obtain ⟨⟨a0,a1,a2,a3⟩,⟨f0,f1,f2,f3⟩,a4⟩:=blk4 hbk;have tq:Typed (w.heap.size+1) 171 w2:=⟨_,_,hbk⟩;clear hbk)
 exact bodyPost_ret (v:= .agg #[.bool g6,.slice B6 k6 d6,.bool g7,.slice B7 k7 d7]) (by simp [results,Tryz.results213,go_sem,a0,a1,a2,a3]) rfl ⟨_,_,_,_,_,_,_,_,p,q,rfl,hz6.keeps,hz7.keeps,hF,Step.of _ _⟩
theorem rQuotient_ok {w0 w1 w:World} {na nb:Bool} {A B:Option Addr} {n k c d kk:Nat} {x y:Int} (ha:IntV w0 na A n c x) (hb:IntV w1 nb B k d y) (hkk:kk<=8000000000000) (hbx:Bd kk x) (hby:Bd kk y) (hy0:0<y) [hx:Ext w0 w] [hy:Ext w1 w]:
  Calls Tryz.prog 151 #[.agg #[.bool na,.slice A n c],.agg #[.bool nb,.slice B k d]] w (RetRat w (RatOf x y)):=by
 have HN:=Lib.hid (fun W (e1:Ext w0 W) (e2:Ext w1 W)=>rNormalizeQ_ok (w:=W) ha hb hkk hbx hby hy0)
 go_enter Tryz.func151,Tryz.ntmps151
 go_wp2_with (go_at_call 213;refine (HN.out _ inferInstance inferInstance).mono ?_;rintro e w2 ⟨g6,B6,k6,d6,g7,B7,k7,d7,p,q,rfl,hz6,hz7,hF,hs2⟩;have hbk:=(inferInstance:BlkAt (w.heap.size+1+1) #[.bool false,.slice none 0 0,.bool false,.slice none 0 0] 171 w2).eq;obtain ⟨⟨a0,a1,a2,a3⟩,⟨f0,f1,f2,f3⟩,a4⟩:=blk4 hbk;have tq:Typed (w.heap.size+1+1) 171 w2:=⟨_,_,hbk⟩;clear hbk)
 exact bodyPost_ret (v:= .agg #[.bool g6,.slice B6 k6 d6,.bool g7,.slice B7 k7 d7]) (by simp [results,Tryz.results151,go_sem,a0,a1,a2,a3]) rfl ⟨_,_,_,_,_,_,_,_,p,q,rfl,hz6.keeps,hz7.keeps,hF,Step.of _ _⟩
theorem rFloor_ok {w0 w1 w:World} {na nb:Bool} {A B:Option Addr} {n k c d kk:Nat} {x y:Int} (ha:IntV w0 na A n c x) (hb:IntV w1 nb B k d y) (hkk:kk<=8000000000000) (hbx:Bd kk x) (hby:Bd kk y) (hy0:0<y) [hx:Ext w0 w] [hy:Ext w1 w]:
  Calls Tryz.prog 210 #[.agg #[.bool na,.slice A n c,.bool nb,.slice B k d]] w (RetInt w (x / y)):=by
 have HN:=Lib.hid (fun W (e1:Ext w0 W) (e2:Ext w1 W)=>rNormalizeQ_ok (w:=W) ha hb hkk hbx hby hy0)
 have HQ:Hid (∀(W1 W:World) (g1:Bool) B1 n1 c1 (g2:Bool) B2 n2 c2 p q,IntV W1 g1 B1 n1 c1 p->IntV W1 g2 B2 n2 c2 q->RatOf x y p q->Ext W1 W->Calls Tryz.prog 184 #[.agg #[.bool g1,.slice B1 n1 c1],.agg #[.bool g2,.slice B2 n2 c2]] W (RetInt W (x / y))):=Lib.hid (fun W1 W g1 B1 n1 c1 g2 B2 n2 c2 p q h1 h2 hF e1=>by
  have :=rQuo_any (w:=W) h1 h2 (h1.bd (hbx.le hF.le1) hkk) (h2.bd (hby.le hF.le2) hkk) (by have :=hF.pos;omega)
  rwa [ediv_cross hF.pos hy0 hF.eq] at this)
 go_enter Tryz.func210,Tryz.ntmps210
 go_wp2_with (first
  |(go_at_call 213;refine (HN.out _ inferInstance inferInstance).mono ?_;rintro e w2 ⟨g6,B6,k6,d6,g7,B7,k7,d7,p,q,rfl,hz6,hz7,hF,hs2⟩)
  |(go_at_call 184;refine (HQ.out _ _ _ _ _ _ _ _ _ _ _ _ hz6 hz7 hF inferInstance).mono ?_;rintro e w3 ⟨g3,B3,k3,d3,rfl,hz3,hs3⟩;have hbk:=(inferInstance:BlkAt (w.heap.size+1) #[.bool false,.slice none 0 0] 117 w3).eq;obtain ⟨a0,a1,f0,f1,a4⟩:=box_cells2 hbk;have tq:Typed (w.heap.size+1) 117 w3:=⟨_,_,hbk⟩;clear hbk))
 exact bodyPost_ret (v:= .agg #[.bool g3,.slice B3 k3 d3]) (by simp [results,Tryz.results210,go_sem,a0,a1]) rfl ⟨_,_,_,_,rfl,hz3.keeps,Step.of _ _⟩
theorem addQ_eq {x y x' y' p q p' q' s t:Int} (h1:RatOf x y p q) (h2:RatOf x' y' p' q') (h3:RatOf (p*q'+p'*q) (q*q') s t):s*(y*y')=(x*y'+x'*y)*t:=by
 have hD:0<q*q':=Int.mul_pos h1.pos h2.pos
 have e1:=h1.eq
 have e2:=h2.eq
 have e3:=h3.eq
 have key:(q*q')*(s*(y*y'))=(q*q')*((x*y'+x'*y)*t):=by
  have k1:(q*q')*(s*(y*y'))=(s*(q*q'))*(y*y'):=by grind
  rw [k1,e3]
  have k2:(p*q'+p'*q)*t*(y*y')=((p*y)*(q'*y')+(p'*y')*(q*y))*t:=by grind
  rw [k2,e1,e2]
  grind
 exact Int.eq_of_mul_eq_mul_left (by omega) key
theorem boxes4 (w w':World) (x0 x1 x2 x3 y0 y1 y2 y3:Value) (T:TypeId) [h:Ext ((w.alloc (.cells #[x0,x1,x2,x3] T)).alloc (.cells #[y0,y1,y2,y3] T)) w']:
  w'.cell? ⟨w.heap.size,0,none⟩=some x0/\w'.cell? ⟨w.heap.size,1,none⟩=some x1/\w'.cell? ⟨w.heap.size,2,none⟩=some x2/\w'.cell? ⟨w.heap.size,3,none⟩=some x3/\w'.cell? ⟨w.heap.size+1,0,none⟩=some y0/\w'.cell? ⟨w.heap.size+1,1,none⟩=some y1/\w'.cell? ⟨w.heap.size+1,2,none⟩=some y2/\w'.cell? ⟨w.heap.size+1,3,none⟩=some y3:=by
 have h1:w'.heap[w.heap.size]? =some (.cells #[x0,x1,x2,x3] T (0,0)):=heap_of_ext (Ext.trans inferInstance h) (heap_alloc_new w _)
 have h2:w'.heap[w.heap.size+1]? =some (.cells #[y0,y1,y2,y3] T (0,0)):=by
  have :=heap_of_ext h (heap_alloc_new (w.alloc (.cells #[x0,x1,x2,x3] T)) _)
  rwa [World.size_alloc] at this
 obtain ⟨⟨a0,a1,a2,a3⟩,-,-⟩:=blk4 h1
 obtain ⟨⟨c0,c1,c2,c3⟩,-,-⟩:=blk4 h2
 exact ⟨a0,a1,a2,a3,c0,c1,c2,c3⟩
structure SumOf (kk:Nat) (x y x' y' s t:Int):Prop where
 pos:0<t
 eq:s*(y*y')=(x*y'+x'*y)*t
 b1:Bd (2*kk+1) s
 b2:Bd (2*kk+1) t
theorem rAddQ_ok {w0 w1 w2 w3 w:World} {na nb nc nd:Bool} {A B C D:Option Addr} {ka kb kc kd ca cb cc cd kk:Nat} {x y x' y':Int} (ha:IntV w0 na A ka ca x) (hb:IntV w1 nb B kb cb y) (hc:IntV w2 nc C kc cc x') (hd:IntV w3 nd D kd cd y') (hkk:kk<=1000000000000) (b1:Bd kk x) (b2:Bd kk y) (b3:Bd kk x') (b4:Bd kk y') (hy0:0<y) (hy0':0<y') [i0:Ext w0 w] [i1:Ext w1 w] [i2:Ext w2 w] [i3:Ext w3 w]:
  Calls Tryz.prog 211 #[.agg #[.bool na,.slice A ka ca,.bool nb,.slice B kb cb],.agg #[.bool nc,.slice C kc cc,.bool nd,.slice D kd cd]] w (RetRat w (SumOf kk x y x' y')):=by
 have HN1:=Lib.hid (fun W (e:Ext w W)=>have :Ext w0 W:=i0.trans e;have :Ext w1 W:=i1.trans e;rNormalizeQ_ok (w:=W) ha hb (by omega) b1 b2 hy0)
 have HN2:=Lib.hid (fun W (e:Ext w W)=>have :Ext w2 W:=i2.trans e;have :Ext w3 W:=i3.trans e;rNormalizeQ_ok (w:=W) hc hd (by omega) b3 b4 hy0')
 have HB:=Lib.hid (And.intro b1 (And.intro b2 (And.intro b3 b4)))
 clear ha hb hc hd b1 b2 b3 b4
 go_enter Tryz.func211,Tryz.ntmps211
 go_wp2_with fail
 go_cut [5,6] (fun s5 s6 wx=>∃(p5 p6:Nat) (g1 g2 g3 g4:Bool) (B1 B2 B3 B4:Option Addr) (k1 k2 k3 k4 d1 d2 d3 d4:Nat) (p q p' q':Int),s5= .pointer (some ⟨p5,0,none⟩)/\s6= .pointer (some ⟨p6,0,none⟩)/\Hid (wx.heap[p5]? =some (.cells #[.bool g1,.slice B1 k1 d1,.bool g2,.slice B2 k2 d2] 171 (0,0)))/\Hid (wx.heap[p6]? =some (.cells #[.bool g3,.slice B3 k3 d3,.bool g4,.slice B4 k4 d4] 171 (0,0)))/\Hid (IntV wx g1 B1 k1 d1 p)/\Hid (IntV wx g2 B2 k2 d2 q)/\Hid (IntV wx g3 B3 k3 d3 p')/\Hid (IntV wx g4 B4 k4 d4 q')/\Hid (RatOf x y p q)/\Hid (RatOf x' y' p' q')/\Hid (wx.heap[w.heap.size+1+1]? =some (.cells #[.bool false,.slice none 0 0,.bool false,.slice none 0 0] 171 (0,0)))/\Ext w wx)
 case first=>
  go_region_held3 (fun W=>W.cell? ⟨w.heap.size,0,none⟩=some (.bool na)/\W.cell? ⟨w.heap.size,1,none⟩=some (.slice A ka ca)/\W.cell? ⟨w.heap.size,2,none⟩=some (.bool nb)/\W.cell? ⟨w.heap.size,3,none⟩=some (.slice B kb cb)/\W.cell? ⟨w.heap.size+1,0,none⟩=some (.bool nc)/\W.cell? ⟨w.heap.size+1,1,none⟩=some (.slice C kc cc)/\W.cell? ⟨w.heap.size+1,2,none⟩=some (.bool nd)/\W.cell? ⟨w.heap.size+1,3,none⟩=some (.slice D kd cd))
   (exact boxes4 w _ (.bool na) (.slice A ka ca) (.bool nb) (.slice B kb cb) (.bool nc) (.slice C kc cc) (.bool nd) (.slice D kd cd) 171)
   (first
    |(go_at_call 213;first
      |(have hh:=hF4;clear hh;refine (HN2.out _ inferInstance).mono ?_;rintro e w5 ⟨g3,B3,k3,d3,g4,B4,k4,d4,p',q',rfl,hz3,hz4,hF5,hs5⟩)
      |(refine (HN1.out _ inferInstance).mono ?_;rintro e w4 ⟨g1,B1,k1,d1,g2,B2,k2,d2,p,q,rfl,hz1,hz2,hF4,hs4⟩)))
  all_goals (go_wp2_with fail;go_meet;(try have t1:Typed (w.heap.size+1+1+1) 171 w5:=inferInstance);(try have t2:Typed (w.heap.size+1+1+1+1) 171 w5:=inferInstance);refine ⟨_,_,g1,g2,g3,g4,B1,B2,B3,B4,k1,k2,k3,k4,d1,d2,d3,d4,p,q,p',q',rfl,rfl,Lib.hid ?_,Lib.hid ?_,Lib.hid hz1.keeps,Lib.hid hz2.keeps,Lib.hid hz3.keeps,Lib.hid hz4.keeps,Lib.hid hF4,Lib.hid hF5,Lib.hid BlkAt.eq,inferInstance⟩)
  all_goals exact BlkAt.eq
 case rest=>
  obtain ⟨p5,p6,g1,g2,g3,g4,B1,B2,B3,B4,k1,k2,k3,k4,d1,d2,d3,d4,p,q,p',q',rfl,rfl,H5,H6,HZ1,HZ2,HZ3,HZ4,HF1,HF2,HRS,hxc⟩:=hcut
  have HLL:Hid (∀W,Ext wc W->W.cell? ⟨p5,0,none⟩=some (.bool g1)/\W.cell? ⟨p5,1,none⟩=some (.slice B1 k1 d1)/\W.cell? ⟨p5,2,none⟩=some (.bool g2)/\W.cell? ⟨p5,3,none⟩=some (.slice B2 k2 d2)/\W.cell? ⟨p6,0,none⟩=some (.bool g3)/\W.cell? ⟨p6,1,none⟩=some (.slice B3 k3 d3)/\W.cell? ⟨p6,2,none⟩=some (.bool g4)/\W.cell? ⟨p6,3,none⟩=some (.slice B4 k4 d4)):=Lib.hid (fun W hh=>by
   obtain ⟨⟨a0,a1,a2,a3⟩,-,-⟩:=blk4 (heap_of_ext hh H5.out)
   obtain ⟨⟨c0,c1,c2,c3⟩,-,-⟩:=blk4 (heap_of_ext hh H6.out)
   exact ⟨a0,a1,a2,a3,c0,c1,c2,c3⟩)
  have o5:Old p5 wc:=⟨lt_of_heap H5.out⟩
  have o6:Old p6 wc:=⟨lt_of_heap H6.out⟩
  have HBB:Hid (Bd kk p/\Bd kk q/\Bd kk p'/\Bd kk q'/\Bd (2*kk) (p*q')/\Bd (2*kk) (p'*q)/\Bd (2*kk+1) (p*q'+p'*q)/\Bd (2*kk+1) (q*q')/\0<q*q'):=Lib.hid (by
   have a1:=HB.out.1.le HF1.out.le1
   have a2:=HB.out.2.1.le HF1.out.le2
   have a3:=HB.out.2.2.1.le HF2.out.le1
   have a4:=HB.out.2.2.2.le HF2.out.le2
   have m1:=a1.mul a4
   have m2:=a3.mul a2
   have m3:=a2.mul a4
   rw [show kk+kk=2*kk by omega] at m1 m2 m3
   exact ⟨a1,a2,a3,a4,m1,m2,m1.add m2,m3.mono (by omega),Int.mul_pos HF1.out.pos HF2.out.pos⟩)
  have HFS:Hid (∀s t,RatOf (p*q'+p'*q) (q*q') s t->SumOf kk x y x' y' s t):=Lib.hid (fun s t h3=>⟨h3.pos,addQ_eq HF1.out HF2.out h3,HBB.out.2.2.2.2.2.2.1.le h3.le1,HBB.out.2.2.2.2.2.2.2.1.le h3.le2⟩)
  have HMU:Hid (∀(x y:Int) (W1 W2 W:World) (g1:Bool) B1 n1 c1 (g2:Bool) B2 n2 c2,IntV W1 g1 B1 n1 c1 x->IntV W2 g2 B2 n2 c2 y->Bd kk x->Bd kk y->Ext W1 W->Ext W2 W->Calls Tryz.prog 181 #[.agg #[.bool g1,.slice B1 n1 c1],.agg #[.bool g2,.slice B2 n2 c2]] W (RetInt W (x*y))):=Lib.hid (fun x y W1 W2 W g1 B1 n1 c1 g2 B2 n2 c2 ha hb b1 b2 e1 e2=>rMul_any ha hb (by have :=ha.bd b1 (by omega);omega) (by have :=hb.bd b2 (by omega);omega))
  have HAD:Hid (∀(x y:Int) (W1 W2 W:World) (g1:Bool) B1 n1 c1 (g2:Bool) B2 n2 c2,IntV W1 g1 B1 n1 c1 x->IntV W2 g2 B2 n2 c2 y->Bd (2*kk) x->Bd (2*kk) y->Ext W1 W->Ext W2 W->Calls Tryz.prog 180 #[.agg #[.bool g1,.slice B1 n1 c1],.agg #[.bool g2,.slice B2 n2 c2]] W (RetInt W (x+y))):=Lib.hid (fun x y W1 W2 W g1 B1 n1 c1 g2 B2 n2 c2 ha hb b1 b2 e1 e2=>rAdd_any ha hb (by have :=ha.bd b1 (by omega);omega) (by have :=hb.bd b2 (by omega);omega))
  have HNW:Hid (∀(W1 W2 W:World) (g1:Bool) B1 n1 c1 (g2:Bool) B2 n2 c2,IntV W1 g1 B1 n1 c1 (p*q'+p'*q)->IntV W2 g2 B2 n2 c2 (q*q')->Ext W1 W->Ext W2 W->Calls Tryz.prog 254 #[.agg #[.bool g1,.slice B1 n1 c1],.agg #[.bool g2,.slice B2 n2 c2]] W (RetRatB W (RatOf (p*q'+p'*q) (q*q')))):=Lib.hid (fun W1 W2 W g1 B1 n1 c1 g2 B2 n2 c2 ha hb e1 e2=>rNew_ok ha hb (kk:=2*kk+1) (by omega) HBB.out.2.2.2.2.2.2.1 HBB.out.2.2.2.2.2.2.2.1 HBB.out.2.2.2.2.2.2.2.2)
  go_wp2_with fail
  go_cut [7,8] (fun s7 s8 wx=>∃(p7:Nat) (g7 g8:Bool) (B7 B8:Option Addr) (k7 k8 d7 d8:Nat) (s t:Int),s7= .pointer (some ⟨p7,0,none⟩)/\s8= .bool true/\Hid (wx.heap[p7]? =some (.cells #[.bool g7,.slice B7 k7 d7,.bool g8,.slice B8 k8 d8] 171 (0,0)))/\Hid (IntV wx g7 B7 k7 d7 s)/\Hid (IntV wx g8 B8 k8 d8 t)/\Hid (SumOf kk x y x' y' s t)/\Ext wc wx)
  case first=>
   go_region_held3 (fun W=>W.cell? ⟨p5,0,none⟩=some (.bool g1)/\W.cell? ⟨p5,1,none⟩=some (.slice B1 k1 d1)/\W.cell? ⟨p5,2,none⟩=some (.bool g2)/\W.cell? ⟨p5,3,none⟩=some (.slice B2 k2 d2)/\W.cell? ⟨p6,0,none⟩=some (.bool g3)/\W.cell? ⟨p6,1,none⟩=some (.slice B3 k3 d3)/\W.cell? ⟨p6,2,none⟩=some (.bool g4)/\W.cell? ⟨p6,3,none⟩=some (.slice B4 k4 d4)) (exact HLL.out _ inferInstance)
    (first
     |(go_at_call 181;first
       |(have hh:=hzc;clear hh;refine (HMU.out q q' _ _ _ _ _ _ _ _ _ _ _ HZ2.out HZ4.out HBB.out.2.1 HBB.out.2.2.2.1 inferInstance inferInstance).mono ?_;rintro e wd ⟨gd,Bd',kd',dd',rfl,hzd,hsd⟩)
       |(have hh:=hza;clear hh;refine (HMU.out p' q _ _ _ _ _ _ _ _ _ _ _ HZ3.out HZ2.out HBB.out.2.2.1 HBB.out.2.1 inferInstance inferInstance).mono ?_;rintro e wb ⟨gb,Bb,kb',db',rfl,hzb,hsb⟩)
       |(refine (HMU.out p q' _ _ _ _ _ _ _ _ _ _ _ HZ1.out HZ4.out HBB.out.1 HBB.out.2.2.2.1 inferInstance inferInstance).mono ?_;rintro e wa ⟨ga,Ba,ka',da',rfl,hza,hsa⟩))
     |(go_at_call 180;refine (HAD.out (p*q') (p'*q) _ _ _ _ _ _ _ _ _ _ _ hza hzb HBB.out.2.2.2.2.1 HBB.out.2.2.2.2.2.1 inferInstance inferInstance).mono ?_;rintro e wd2 ⟨gc,Bc,kc',dc',rfl,hzc,hsc⟩)
     |(go_at_call 254;refine (HNW.out _ _ _ _ _ _ _ _ _ _ _ hzc hzd inferInstance inferInstance).mono ?_;rintro e we ⟨g7,B7,k7,d7,g8,B8,k8,d8,s,t,rfl,hz7,hz8,hFe,hse⟩))
   all_goals (go_wp2_with fail;go_meet;exact ⟨_,g7,g8,B7,B8,k7,k8,d7,d8,s,t,rfl,rfl,Lib.hid BlkAt.eq,Lib.hid hz7.keeps,Lib.hid hz8.keeps,Lib.hid (HFS.out s t hFe),inferInstance⟩)
  case rest=>
   obtain ⟨p7,g7,g8,B7,B8,k7,k8,d7,d8,s,t,rfl,rfl,H7,HZ7,HZ8,HSM,hxd⟩:=hcut
   obtain ⟨⟨a0,a1,a2,a3⟩,-,a4⟩:=blk4 H7.out
   have hrs:=heap_of_ext hxd HRS.out
   obtain ⟨⟨c0,c1,c2,c3⟩,⟨f0,f1,f2,f3⟩,c4⟩:=blk4 hrs
   rename_i wx
   have tq:Typed (w.heap.size+1+1) 171 wc:=⟨_,_,hrs⟩
   have hxw:Ext w wc:=hxc.trans hxd
   clear hrs
   go_wp2_with fail
   exact bodyPost_ret (v:= .agg #[.bool g7,.slice B7 k7 d7,.bool g8,.slice B8 k8 d8]) (by simp [results,Tryz.results211,go_sem,c0,c1,c2,c3]) rfl ⟨_,_,_,_,_,_,_,_,s,t,rfl,HZ7.out.keeps,HZ8.out.keeps,HSM.out,Step.of _ _⟩
theorem rNearest_ok {w0 w1 w:World} {na nb:Bool} {A B:Option Addr} {n k c d kk:Nat} {x y:Int} (ha:IntV w0 na A n c x) (hb:IntV w1 nb B k d y) (hkk:kk<=1000000000000) (hk2:2<=kk) (hbx:Bd kk x) (hby:Bd kk y) (hy0:0<y) [hx:Ext w0 w] [hy:Ext w1 w]:
  Calls Tryz.prog 150 #[.agg #[.bool na,.slice A n c,.bool nb,.slice B k d]] w (RetInt w ((2*x+y) / (2*y))):=by
 have HAD:Hid (∀(W1 W:World) (g1:Bool) B1 n1 c1 (g2:Bool) B2 n2 c2,IntV W1 g1 B1 n1 c1 1->IntV W1 g2 B2 n2 c2 2->Ext w W->Ext W1 W->Calls Tryz.prog 211 #[.agg #[.bool na,.slice A n c,.bool nb,.slice B k d],.agg #[.bool g1,.slice B1 n1 c1,.bool g2,.slice B2 n2 c2]] W (RetRat W (SumOf kk x y 1 2))):=Lib.hid (fun W1 W g1 B1 n1 c1 g2 B2 n2 c2 h1 h2 e1 e2=>have :Ext w0 W:=hx.trans e1;have :Ext w1 W:=hy.trans e1;rAddQ_ok ha hb h1 h2 hkk hbx hby (Bd.one (by omega)) ((show Bd 2 2 from (by decide:(2:Int).natAbs<2^2)).mono hk2) hy0 (by decide))
 have HFL:Hid (∀(W1 W:World) (g1:Bool) B1 n1 c1 (g2:Bool) B2 n2 c2 s t,IntV W1 g1 B1 n1 c1 s->IntV W1 g2 B2 n2 c2 t->SumOf kk x y 1 2 s t->Ext W1 W->Calls Tryz.prog 210 #[.agg #[.bool g1,.slice B1 n1 c1,.bool g2,.slice B2 n2 c2]] W (RetInt W ((2*x+y) / (2*y)))):=Lib.hid (fun W1 W g1 B1 n1 c1 g2 B2 n2 c2 s t h1 h2 hS e1=>by
  have :=rFloor_ok (w:=W) h1 h2 (kk:=2*kk+1) (by omega) hS.b1 hS.b2 hS.pos
  have e:=hS.eq
  rwa [ediv_cross (d:=2*y) (c:=2*x+y) hS.pos (by omega) (by grind)] at this)
 generalize (2*x+y) / (2*y)=R at*
 clear ha hb
 go_enter Tryz.func150,Tryz.ntmps150
 go_wp2_with fail
 obtain ⟨w5,hw5⟩:∃w5,w5=(w.alloc (.cells #[.bool na,.slice A n c,.bool nb,.slice B k d] 171)).alloc (.cells #[.bool false,.slice none 0 0] 117):=⟨_,rfl⟩
 have q0:w5.heap[w.heap.size]? =some (.cells #[.bool na,.slice A n c,.bool nb,.slice B k d] 171 (0,0)):=by rw [hw5];exact BlkAt.eq
 have q1:w5.heap[w.heap.size+1]? =some (.cells #[.bool false,.slice none 0 0] 117 (0,0)):=by rw [hw5];exact BlkAt.eq
 have hxw5:Ext w w5:=by rw [hw5];exact inferInstance
 have HQ:=Lib.hid (And.intro q0 q1)
 have HLL:Hid (∀W,Ext w5 W->W.cell? ⟨w.heap.size,0,none⟩=some (.bool na)/\W.cell? ⟨w.heap.size,1,none⟩=some (.slice A n c)/\W.cell? ⟨w.heap.size,2,none⟩=some (.bool nb)/\W.cell? ⟨w.heap.size,3,none⟩=some (.slice B k d)):=Lib.hid (fun W hh=>(blk4 (heap_of_ext hh HQ.out.1)).1)
 have HLF:Hid (∀W,Ext w5 W->∀(u v:Value),((W.setCell ⟨w.heap.size+1,0,none⟩ u).setCell ⟨w.heap.size+1,1,none⟩ v).cell? ⟨w.heap.size,0,none⟩=some (.bool na)/\((W.setCell ⟨w.heap.size+1,0,none⟩ u).setCell ⟨w.heap.size+1,1,none⟩ v).cell? ⟨w.heap.size,1,none⟩=some (.slice A n c)/\((W.setCell ⟨w.heap.size+1,0,none⟩ u).setCell ⟨w.heap.size+1,1,none⟩ v).cell? ⟨w.heap.size,2,none⟩=some (.bool nb)/\((W.setCell ⟨w.heap.size+1,0,none⟩ u).setCell ⟨w.heap.size+1,1,none⟩ v).cell? ⟨w.heap.size,3,none⟩=some (.slice B k d)):=Lib.hid (fun W hh u v=>by
  obtain ⟨a0,a1,a2,a3⟩:=HLL.out W hh
  have key:∀(i o:Nat),(⟨w.heap.size+1,i,none⟩:Addr)≠⟨w.heap.size,o,none⟩:=fun i o e=>by injection e with e1 e2;omega
  have k2:∀o,((W.setCell ⟨w.heap.size+1,0,none⟩ u).setCell ⟨w.heap.size+1,1,none⟩ v).cell? ⟨w.heap.size,o,none⟩=W.cell? ⟨w.heap.size,o,none⟩:=fun o=>by rw [World.cell?_setCell_other _ _ _ _ (key 1 o),World.cell?_setCell_other _ _ _ _ (key 0 o)]
  exact ⟨(k2 0).trans a0,(k2 1).trans a1,(k2 2).trans a2,(k2 3).trans a3⟩)
 rw [<-hw5]
 clear q0 q1 hw5
 go_region_held3 (fun W=>W.cell? ⟨w.heap.size,0,none⟩=some (.bool na)/\W.cell? ⟨w.heap.size,1,none⟩=some (.slice A n c)/\W.cell? ⟨w.heap.size,2,none⟩=some (.bool nb)/\W.cell? ⟨w.heap.size,3,none⟩=some (.slice B k d))
  (first |exact HLL.out _ inferInstance |exact HLF.out _ inferInstance _ _)
  (first
   |(go_at_call 212;refine rHalf_ok.mono ?_;rintro e w6 ⟨g6,B6,k6,d6,g7,B7,k7,d7,p,q,rfl,hz6,hz7,⟨rfl,rfl⟩,hs6⟩)
   |(go_at_call 211;refine (HAD.out _ _ _ _ _ _ _ _ _ _ hz6 hz7 inferInstance inferInstance).mono ?_;rintro e w7 ⟨g8,B8,k8,d8,g9,B9,k9,d9,s,t,rfl,hz8,hz9,hS,hs7⟩)
   |(go_at_call 210;refine (HFL.out _ _ _ _ _ _ _ _ _ _ _ _ hz8 hz9 hS inferInstance).mono ?_;rintro e w8 ⟨ga,Ba,ka,da,rfl,hza,hs8⟩;obtain ⟨a0,a1,f0,f1,a4⟩:=box_cells2 (heap_of_ext (inferInstance:Ext w5 w8) HQ.out.2);have tq:Typed (w.heap.size+1) 117 w8:=⟨_,_,heap_of_ext (inferInstance:Ext w5 w8) HQ.out.2⟩))
 all_goals
  go_wp2_with fail
  exact bodyPost_ret (v:= .agg #[.bool ga,.slice Ba ka da]) (by simp [results,Tryz.results150,go_sem,a0,a1]) rfl ⟨_,_,_,_,rfl,hza.keeps,Step.of _ _⟩
end Go.Proofs.YtijfjailmilkfaaGreat
namespace Go.Proofs.YtijfjailmilkfaaGreat
open Go.RowKit
open La
/-! ## What the tests say -/
theorem lamF_E {m:List (List Int)} {n i j:Nat} (hp:Pos (ofZ (ent m)) n) (hj:j<=n):lamF m i j=E (ent m) j i j:=
 minor_E (fun l hl=>by have :=E_pos hp (k:=l) (by omega);omega) i j
theorem minorD_E {m:List (List Int)} {n k:Nat} (hl:m.length=n) (hp:Pos (ofZ (ent m)) n) (hk:k<=n):minorD (leadF m) k=lastE (ent m) k:=by
 unfold minorD
 cases k with
 |zero=>rw [if_pos rfl];rfl
 |succ k=>
  rw [if_neg (by omega),Nat.add_sub_cancel,lead_get (by rw [hl];exact hp) (by omega)]
  rfl
theorem sized_iff {m:List (List Int)} {n i j:Nat} (hl:m.length=n) (hp:Pos (ofZ (ent m)) n) (hj:j<n):(2*((lamF m i j).natAbs:Int)<=minorD (leadF m) (j+1))↔Szd (ofZ (ent m)) i j:=by
 rw [Szd_iff (hp.le (by omega)) i,lamF_E hp (by omega),minorD_E hl hp (by omega)]
 have :lastE (ent m) (j+1)=E (ent m) j j j:=rfl
 rw [this]
 omega
theorem lovasz_iff {m:List (List Int)} {n p:Nat} (hl:m.length=n) (hp:Pos (ofZ (ent m)) n) (hs:Sym (ofZ (ent m))) (hpn:p+1<n):(3*(minorD (leadF m) (p+1)*minorD (leadF m) (p+1))<=4*(minorD (leadF m) (p+1-1)*minorD (leadF m) (p+1+1)+lamF m (p+1) (p+1-1)*lamF m (p+1) (p+1-1)))↔Lov (ofZ (ent m)) p:=by
 rw [Lov_iff hs (hp.le (by omega)),Nat.add_sub_cancel,lamF_E hp (by omega),minorD_E hl hp (by omega),minorD_E hl hp (by omega),minorD_E hl hp (by omega)]
 exact Iff.rfl
theorem idM_red {n i j:Nat} {q:Int} (hi:i<n) (hj:j<n):setE (idM n) j i (-q)=idRed n i j q:=by
 unfold idM idRed
 rw [setE_tab hj hi]
theorem tab_self {n:Nat} {a:List (List Int)} (hl:a.length=n) (ha:AllLen a n):a=tab (fun i j=>ent a i j) n n:=by
 have h1:=tab_eq a n ha
 rw [hl] at h1
 exact h1.symm
theorem idM_swap {n p:Nat} (hp:p+1<n) {a:List (List Int)} (ha:a=swapRows (idM n) (p+1) p) (hall:AllLen a n):a=idSwap n p:=by
 have hil:(idM n).length=n:=tab_length _ _ _
 have hl:a.length=n:=by rw [ha,swapRows_len,hil]
 rw [tab_self hl hall]
 unfold idSwap
 refine tab_eq_of fun x y hx hy=>?_
 rw [ha,ent_swap (by omega) (by omega)]
 unfold idM sg
 split
 ·rw [ent_tab2 _ _ _ _ _ (by omega) hy]
 ·split
  ·rw [ent_tab2 _ _ _ _ _ (by omega) hy]
  ·rw [ent_tab2 _ _ _ _ _ (by omega) hy]
theorem nearQ_eq {m:List (List Int)} {n i j:Nat} (hl:m.length=n) (hp:Pos (ofZ (ent m)) n) (hj:j<n):nearQ m i j=(2*lamF m i j+minorD (leadF m) (j+1)) / (2*minorD (leadF m) (j+1)):=by
 rw [lamF_E hp (by omega),minorD_E hl hp (by omega)]
 rfl
def RetStep (w:World) (m:List (List Int)) (n:Nat) (e:Ending) (w':World):Prop:=
 (e= .returned (.tuple #[.slice none 0 0,.bool false])/\(∀r,r<n->Full (ofZ (ent m)) r)/\(∀p,p+1<n->Lov (ofZ (ent m)) p)/\Step w w')∨
 (∃i j A c,e= .returned (.tuple #[.slice A n c,.bool true])/\AtRed (ofZ (ent m)) n i j/\MatV w' A (idRed n i j (nearQ m i j))/\Step w w')∨
 (∃p A c,e= .returned (.tuple #[.slice A n c,.bool true])/\AtSwap (ofZ (ent m)) n p/\MatV w' A (idSwap n p)/\Step w w')
set_option maxRecDepth 10000 in
theorem rstep_ok {w0 w:World} {A:Option Addr} {c n b:Nat} {m:List (List Int)} (h:MatV w0 A m) (h1:m.length=n) (h3:1<=n) (h4:n<=8) (hn:AllLen m n) (hb:BdM b m) (hb1:1<=b) (hbb:b<=1000000) (hp:Pos (ofZ (ent m)) n) (hs:Sym (ofZ (ent m))) [hx:Ext w0 w]:
  Calls Tryz.prog 85 #[.slice A n c] w (RetStep w m n):=by
 have h0:=h.ext hx
 have HLE:=Lib.hid (fun W (e1:Ext w W)=>rLeading_ok (w:=W) (c:=c) h0 h1 h3 h4 hn hb hb1 hbb)
 have HID:=Lib.hid (fun (W:World)=>rIdentity_ok (w:=W) n h3 (by omega))
 have HLL:Hid ((leadF m).length=n):=Lib.hid (by rw [leadF_len];exact h1)
 have HIL:Hid ((idM n).length=n):=Lib.hid (tab_length _ _ _)
 have HSZ:Hid (∀(W1 W:World) (B:Option Addr) (d i j:Nat),i<n->j<n->IntsV W1 B (leadF m)->Ext w W->Ext W1 W->Calls Tryz.prog 148 #[.slice A n c,.slice B n d,.int .i64 i,.int .i64 j] W (RetVal W (.bool (decide (2*((lamF m i j).natAbs:Int)<=minorD (leadF m) (j+1)))))):=Lib.hid (fun W1 W B d i j hi hj hI e1 e2=>rSized_ok h0 hI h1 h4 hn hb hb1 hbb hi hj)
 have HLV:Hid (∀(W1 W:World) (B:Option Addr) (d i:Nat),i<n->1<=i->IntsV W1 B (leadF m)->Ext w W->Ext W1 W->Calls Tryz.prog 154 #[.slice A n c,.slice B n d,.int .i64 i] W (RetVal W (.bool (decide (3*(minorD (leadF m) i*minorD (leadF m) i)<=4*(minorD (leadF m) (i-1)*minorD (leadF m) (i+1)+lamF m i (i-1)*lamF m i (i-1))))))):=Lib.hid (fun W1 W B d i hi hi1 hI e1 e2=>rLovasz_ok h0 hI h1 h4 hn hb hb1 hbb hi hi1)
 have HLA:Hid (∀(W:World) (i j:Nat),i<n->j<n->Ext w W->Calls Tryz.prog 152 #[.slice A n c,.int .i64 i,.int .i64 j] W (RetInt W (lamF m i j))):=Lib.hid (fun W i j hi hj e1=>rLambda_ok h0 h1 h4 hn hb hb1 hbb hi hj)
 have HMI:Hid (∀(W1 W:World) (B:Option Addr) (d k:Nat),k<=n->IntsV W1 B (leadF m)->Ext W1 W->Calls Tryz.prog 153 #[.slice B n d,.int .i64 k] W (RetInt W (minorD (leadF m) k))):=Lib.hid (fun W1 W B d k hk hI e1=>rminor_ok hI (by rw [leadF_len];exact h1) (by omega) hk)
 obtain ⟨K,hK⟩:∃K,K=256*(b+1):=⟨_,rfl⟩
 have hK1:K<=256000256:=by omega
 have hK2:2<=K:=by omega
 have HBL:Hid (∀i j,j<n->Bd K (lamF m i j)):=Lib.hid (fun i j hj=>by rw [hK];exact detSel_bd (by omega) hb1 hb)
 have HBM:Hid (∀k,Bd K (minorD (leadF m) k)):=Lib.hid (fun k=>by rw [hK];exact minorD_bd (leadF_bd (by omega) hb1 hb) (by omega))
 have HPO:Hid (∀k,k<=n->0<minorD (leadF m) k):=Lib.hid (fun k hk=>by rw [minorD_E h1 hp hk];exact lastE_pos hp hk)
 have HNQ:Hid (∀i j,j<n->nearQ m i j=(2*lamF m i j+minorD (leadF m) (j+1)) / (2*minorD (leadF m) (j+1))):=Lib.hid (fun i j hj=>nearQ_eq h1 hp hj)
 have HSI:Hid (∀i j,j<n->((2*((lamF m i j).natAbs:Int)<=minorD (leadF m) (j+1))↔Szd (ofZ (ent m)) i j)):=Lib.hid (fun i j hj=>sized_iff h1 hp hj)
 have HLI:Hid (∀p,p+1<n->((3*(minorD (leadF m) (p+1)*minorD (leadF m) (p+1))<=4*(minorD (leadF m) (p+1-1)*minorD (leadF m) (p+1+1)+lamF m (p+1) (p+1-1)*lamF m (p+1) (p+1-1)))↔Lov (ofZ (ent m)) p)):=Lib.hid (fun p hpn=>lovasz_iff h1 hp hs hpn)
 clear hn hb hp hs h1 hK
 go_enter Tryz.func85,Tryz.ntmps85
 go_wp2_with (first
  |(go_at_call 112;refine (HLE.out _ inferInstance).mono ?_;rintro e w1 ⟨BD,dD,rfl,hI1,-,-,hs1⟩;rw [HLL.out];have HI:=Lib.hid hI1;clear hI1)
  |(go_at_call 84;refine (HID.out _).mono ?_;rintro e w2 ⟨g,hs,cz,rfl,hO,hcz1,hcz2,hs2⟩;rw [HIL.out] at hcz1 |-;have HO:=Lib.hid hO;clear hO))
 have hxw2:Ext w w2:=inferInstance
 have hx12:Ext w1 w2:=inferInstance
 go_loopw [8,9,23] (fun _ _ i wr=>∃k:Nat,k<=n/\i= .int .i64 k/\Hid (∀r,r<k->Full (ofZ (ent m)) r)/\Hid (∀p,p+1<k->Lov (ofZ (ent m)) p)/\Ext w2 wr) (fun _ _ i _=>n-(intOf i).toNat)
 case atStart=>exact ⟨0,by omega,rfl,Lib.hid (fun r hr=>by omega),Lib.hid (fun p hp=>by omega),inferInstance⟩
 case round=>
  obtain ⟨k,hk,rfl,HFU,HLO,hxr⟩:=hrel
  by_cases hlt:k<n
  ·go_wp2_with fail
   go_loopw [9] (fun s9 wr=>∃q:Nat,q<=k/\s9= .int .i64 ((q:Int)-1)/\Hid (∀x,q<=x->x<k->Szd (ofZ (ent m)) k x)/\Ext w2 wr) (fun s9 _=>(intOf s9+1).toNat)
   case atStart=>exact ⟨k,by omega,rfl,Lib.hid (fun x h1 h2=>by omega),inferInstance⟩
   case round=>
    obtain ⟨q,hq,rfl,HSD,hxq⟩:=hrel
    have hxwq:Ext w wr:=hxw2.trans hxq
    have hx1q:Ext w1 wr:=hx12.trans hxq
    cases q with
    |zero=>
     have HFK:Hid (∀r,r<k+1->Full (ofZ (ent m)) r):=Lib.hid (fun r hr=>by
      by_cases e:r=k
      ·rw [e];exact fun x hx=>HSD.out x (by omega) hx
      ·exact HFU.out r (by omega))
     by_cases hk0:k=0
     ·subst hk0
      have HLO2:Hid (∀p,p+1<0+1->Lov (ofZ (ent m)) p):=Lib.hid (fun p hp=>by omega)
      go_wp2_with fail
      exact ⟨⟨1,by omega,rfl,HFK,HLO2,hxq⟩,by simp [intOf]<;>omega⟩
     ·obtain ⟨p,hpk⟩:∃p,k=p+1:=⟨k-1,by omega⟩
      have HLB:=Lib.hid (fun W (e1:Ext wr W)=>HLV.out w1 W BD dD k hlt (by omega) HI.out (hxwq.trans e1) (hx1q.trans e1))
      have hli:=HLI.out p (by omega)
      rw [<-hpk] at hli
      have hkp:(k:Int)-1=(p:Int):=by omega
      have hkw:IntKind.i64.wrap ((k:Int)-1)=(p:Int):=by rw [hkp];exact IntWalk.i64_in _ (by omega)
      have hpn:p<n:=by omega
      have hgt:decide ((0:Int)<(k:Int))=true:=by simp;omega
      have hkpos:0<k:=by omega
      have hkpos2:(0:Int)<(k:Int):=by omega
      by_cases hlv:Lov (ofZ (ent m)) p
      ·have hde:=decide_eq_true (hli.2 hlv)
       rw [hde] at HLB
       have HLO2:Hid (∀p',p'+1<k+1->Lov (ofZ (ent m)) p'):=Lib.hid (fun p' hp'=>by
        by_cases e:p'=p
        ·rw [e];exact hlv
        ·exact HLO.out p' (by omega))
       clear hli hde hlv hpk hkp hkw hk0
       go_wp2_with (go_at_call 154;refine (HLB.out _ inferInstance).mono ?_;rintro e w6 ⟨rfl,hs6⟩)
       exact ⟨⟨k+1,by omega,by go_num,HFK,HLO2,inferInstance⟩,by simp [intOf]<;>omega⟩
      ·have hde:=decide_eq_false (fun hh=>hlv (hli.1 hh))
       rw [hde] at HLB
       have HAT:Hid (AtSwap (ofZ (ent m)) n p):=Lib.hid ⟨by omega,by rw [<-show k+1=p+2 by omega];exact HFK.out,fun t ht=>HLO.out t (by omega),hlv⟩
       obtain ⟨b2,c2,hp2,e1,e2,e3,e4,e5,e6⟩:=(HO.out.ext hxq).hdr (i:=k) (by rw [HIL.out];exact hlt)
       obtain ⟨b3,c3,hp3,f1,f2,f3,f4,f5,f6⟩:=(HO.out.ext hxq).hdr (i:=p) (by rw [HIL.out];omega)
       have HSW:=Lib.hid (fun W (e1:Ext wr W)=>((HO.out.ext hxq).ext e1).swap hp2 hp3 (by rw [HIL.out];exact hlt) (by rw [HIL.out];exact hpn))
       have HKP:=Lib.hid hpk
       have HC2:=Lib.hid (And.intro e1 (And.intro e2 (And.intro f1 f2)))
       have hgl:=HO.out.glo
       have hw1w:w.heap.size<=w1.heap.size:=(inferInstance:Ext w w1).size
       have hnw:New g w:=⟨by omega⟩
       have oG:Old g wr:=⟨e6⟩
       have hkne:k≠p:=by omega
       clear hp2 hp3 e1 e2 f1 f2 hli hde hlv hpk hk0
       go_wp2_with (go_at_call 154;refine (HLB.out _ inferInstance).mono ?_;rintro e w6 ⟨rfl,hs6⟩)
       have r1:w6.cell? ⟨g,k,none⟩=some (.slice (some ⟨b2,0,none⟩) n c2):=(cellE wr).trans HC2.out.1
       have r2:w6.frozen? ⟨g,k,none⟩=false:=(frozenE wr).trans HC2.out.2.1
       have r3:w6.cell? ⟨g,p,none⟩=some (.slice (some ⟨b3,0,none⟩) n c3):=(cellE wr).trans HC2.out.2.2.1
       have r4:w6.frozen? ⟨g,p,none⟩=false:=(frozenE wr).trans HC2.out.2.2.2
       have r5:g<w6.heap.size:=(inferInstance:Old g w6).lt
       go_region
       all_goals
        go_wp2_with fail
        go_ret2
        refine .inr (.inr ⟨p,some ⟨g,0,none⟩,cz,rfl,HAT.out,?_,Step.of _ _⟩)
        have hsw:=HSW.out w6 inferInstance
        have hall:=hsw.all
        have e:=idM_swap (n:=n) (p:=p) (by have :=HKP.out;omega) (by rw [HKP.out];rfl) hall
        rw [e] at hsw
        simp only [headV] at hsw
        exact (hsw.ext inferInstance).mat
    |succ t=>
     rw [show ((t+1:Nat):Int)-1=(t:Int) by omega]
     have HSB:=Lib.hid (fun W (e1:Ext wr W)=>HSZ.out w1 W BD dD k t hlt (by omega) HI.out (hxwq.trans e1) (hx1q.trans e1))
     by_cases hsz:2*((lamF m k t).natAbs:Int)<=minorD (leadF m) (t+1)
     ·have hde:decide (2*((lamF m k t).natAbs:Int)<=minorD (leadF m) (t+1))=true:=decide_eq_true hsz
      rw [hde] at HSB
      have HSD2:Hid (∀x,t<=x->x<k->Szd (ofZ (ent m)) k x):=Lib.hid (fun x h1 h2=>by
       by_cases e:x=t
       ·rw [e];exact (HSI.out k t (by omega)).1 hsz
       ·exact HSD.out x (by omega) h2)
      clear hsz hde
      go_wp2_with (go_at_call 148;refine (HSB.out _ inferInstance).mono ?_;rintro e w6 ⟨rfl,hs6⟩)
      exact ⟨⟨t,by omega,rfl,HSD2,inferInstance⟩,by simp [intOf]<;>omega⟩
     ·have hde:decide (2*((lamF m k t).natAbs:Int)<=minorD (leadF m) (t+1))=false:=decide_eq_false hsz
      rw [hde] at HSB
      have htn:t<n:=by omega
      have HAT:Hid (AtRed (ofZ (ent m)) n k t):=Lib.hid ⟨hlt,by omega,HFU.out,HLO.out,fun x h1 h2=>HSD.out x (by omega) h2,fun hh=>hsz ((HSI.out k t htn).2 hh)⟩
      have HLB:=Lib.hid (fun W (e1:Ext wr W)=>HLA.out W k t hlt htn (hxwq.trans e1))
      have HMB:=Lib.hid (fun W (e1:Ext wr W)=>HMI.out w1 W BD dD (t+1) (by omega) HI.out (hx1q.trans e1))
      rw [show ((t+1:Nat):Int)=(t:Int)+1 by omega] at HMB
      have hbl:=HBL.out k t htn
      have hbm:=HBM.out (t+1)
      have hpm:=HPO.out (t+1) (by omega)
      have hnq:=HNQ.out k t htn
      generalize lamF m k t=L at*
      generalize minorD (leadF m) (t+1)=M at*
      have HQT:Hid (∀(W1 W2 W:World) (g1:Bool) B1 n1 c1 (g2:Bool) B2 n2 c2,IntV W1 g1 B1 n1 c1 L->IntV W2 g2 B2 n2 c2 M->Ext W1 W->Ext W2 W->Calls Tryz.prog 151 #[.agg #[.bool g1,.slice B1 n1 c1],.agg #[.bool g2,.slice B2 n2 c2]] W (RetRat W (RatOf L M))):=Lib.hid (fun W1 W2 W g1 B1 n1 c1 g2 B2 n2 c2 h1 h2 e1 e2=>rQuotient_ok h1 h2 (kk:=K) (by omega) hbl hbm hpm)
      have HNE:Hid (∀(W1 W:World) (g1:Bool) B1 n1 c1 (g2:Bool) B2 n2 c2 p q,IntV W1 g1 B1 n1 c1 p->IntV W1 g2 B2 n2 c2 q->RatOf L M p q->Ext W1 W->Calls Tryz.prog 150 #[.agg #[.bool g1,.slice B1 n1 c1,.bool g2,.slice B2 n2 c2]] W (RetInt W (nearQ m k t))):=Lib.hid (fun W1 W g1 B1 n1 c1 g2 B2 n2 c2 p q h1 h2 hF e1=>by
       have :=rNearest_ok (w:=W) h1 h2 (kk:=K) (by omega) hK2 (hbl.le hF.le1) (hbm.le hF.le2) hF.pos
       have e:=hF.eq
       rw [ediv_cross (c:=2*L+M) (d:=2*M) (by have :=hF.pos;omega) (by omega) (by grind)] at this
       rwa [hnq])
      have hqb:Bd (K+2) (nearQ m k t):=by
       rw [hnq]
       refine Bd.div _ ?_
       have h2:Bd (K+1) (2*L):=by
        have :=hbl.add hbl
        rwa [show L+L=2*L by omega] at this
       exact h2.add (hbm.mono (by omega))
      have HNG:Hid (∀(W1 W:World) (g1:Bool) B1 n1 c1,IntV W1 g1 B1 n1 c1 (nearQ m k t)->Ext W1 W->Calls Tryz.prog 149 #[.agg #[.bool g1,.slice B1 n1 c1]] W (RetInt W (-nearQ m k t))):=Lib.hid (fun W1 W g1 B1 n1 c1 h1 e1=>rNeg_any h1 (by have :=h1.bd hqb (by omega);omega))
      obtain ⟨b1,c1,hp1,d1,d2,d3,d4,d5,d6⟩:=(HO.out.ext hxq).hdr (i:=t) (by rw [HIL.out];exact htn)
      have HP1:=Lib.hid hp1
      have HX:=Lib.hid (fun W hh=>(HO.out.ext hxq).hdrX hp1 (by rw [HIL.out];exact htn) W hh)
      have hlo:=(HO.out.ext hxq).lo_row hp1
      have hw1w:w.heap.size<=w1.heap.size:=(inferInstance:Ext w w1).size
      have hnw:New b1 w:=⟨by omega⟩
      have HE:Hid (∀W,Ext wr W->∃s B k' d,W.cell? ⟨b1,k*2,none⟩=some (.bool s)/\W.cell? ⟨b1,k*2+1,none⟩=some (.slice B k' d)/\W.frozen? ⟨b1,k*2,none⟩=false/\W.frozen? ⟨b1,k*2+1,none⟩=false/\b1<W.heap.size):=Lib.hid (fun W hh=>by
       obtain ⟨s,B,k',d,a1,a2,-,a4,a5⟩:=((HO.out.ext hxq).ext hh).entry (i:=t) HP1.out (by rw [HIL.out];exact htn) hlt
       exact ⟨s,B,k',d,a1,a2,a4,a5,Nat.lt_of_lt_of_le d5 hh.size⟩)
      have hwt:IntKind.i64.wrap ((t:Int)+1)=(t:Int)+1:=IntWalk.i64_in _ (by omega)
      clear hsz hde hp1 hbl hbm hpm hnq hqb d1 d2
      generalize hNQ:nearQ m k t=NQ at*
      have HNV:=Lib.hid hNQ
      clear hNQ
      go_wp2_with (go_at_call 148;refine (HSB.out _ inferInstance).mono ?_;rintro e w6 ⟨rfl,hs6⟩)
      go_region_held3 (fun w'=>w'.cell? ⟨g,t,none⟩=some (.slice (some ⟨b1,0,none⟩) n c1))
       (first |exact (HX.out _ inferInstance).1 |exact (HX.out _ inferInstance).2 _ _ _ _)
       (first
        |(go_at_call 152;refine (HLB.out _ inferInstance).mono ?_;rintro e wa ⟨ga,Ba,ka,da,rfl,hza,hsa⟩)
        |(go_at_call 153;refine (HMB.out _ inferInstance).mono ?_;rintro e wb ⟨gb,Bb,kb,db,rfl,hzb,hsb⟩)
        |(go_at_call 151;refine (HQT.out _ _ _ _ _ _ _ _ _ _ _ hza hzb inferInstance inferInstance).mono ?_;rintro e wd ⟨gc,Bc,kc,dc,gd,Bd',kd,dd',p,q,rfl,hzc,hzd,hF,hsd⟩)
        |(go_at_call 150;refine (HNE.out _ _ _ _ _ _ _ _ _ _ _ _ hzc hzd hF inferInstance).mono ?_;rintro e we ⟨ge,Be,ke,de,rfl,hze,hse⟩)
        |(go_at_call 149;refine (HNG.out _ _ _ _ _ _ hze inferInstance).mono ?_;rintro e wf ⟨gf,Bf,kf,df,rfl,hzf,hsf⟩;obtain ⟨s6,B6,k6,n6,f1,f2,f3,f4,f5⟩:=HE.out wf inferInstance))
      go_wp2_with fail
      go_ret2
      refine .inr (.inl ⟨k,t,some ⟨g,0,none⟩,cz,rfl,HAT.out,?_,?_⟩)
      ·have hO5:=((HO.out.ext hxq).ext (inferInstance:Ext wr wf)).set HP1.out (by rw [HIL.out];exact htn) hlt hzf
       rw [idM_red hlt htn,<-HNV.out] at hO5
       exact hO5.mat
      ·exact Step.of _ _
  ·obtain rfl:k=n:=by omega
   go_wp2_with fail
   go_ret2
   exact .inl ⟨rfl,HFU.out,HLO.out,(hxw2.trans hxr).toStep⟩
end Go.Proofs.YtijfjailmilkfaaGreat
