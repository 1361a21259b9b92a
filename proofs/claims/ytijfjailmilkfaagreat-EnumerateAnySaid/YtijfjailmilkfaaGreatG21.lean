/- R10a Lat2 Lat4 Fr2 R10c Rsq R10d -/
import Derived.Test.YtijfjailmilkfaaGreatG20
import Derived.Test.YtijfjailmilkfaaGreatProg
import Derived.Test.YtijfjailmilkfaaGreatShelf
import Derived.Test.YtijfjailmilkfaaGreatG18
import Derived.Test.YtijfjailmilkfaaGreatG19
import Derived.WideKeyArgs
import Derived.Deep.SlicePairs
import Derived.Test.YtijfjailmilkfaaGreatRows
import Derived.Deep.Matrix
set_option maxHeartbeats 8000000
set_option linter.unusedVariables false
set_option linter.unusedSimpArgs false
set_option linter.constructorNameAsVariable false
namespace Go.Proofs.YtijfjailmilkfaaGreat
open Go.RowKit
open La
def stM (m:List (List Int)) (k:Nat):List (List Int):=tab (fun i j=>E (ent m) k (k+i) (k+j)) (m.length-k) (m.length-k)
theorem stM_len (m:List (List Int)) (k:Nat):(stM m k).length=m.length-k:=tab_length _ _ _
theorem rStage_ok {w0 w:World} {A:Option Addr} {c n b k:Nat} {m:List (List Int)} (h:MatV w0 A m) (h1:m.length=n) (h4:n<=8) (hn:AllLen m n) (hb:BdM b m) (hb1:1<=b) (hbb:b<=1000000) (hk:k<n) (hp:∀l,l<k->E (ent m) l l l≠0) [hx:Ext w0 w]:
  Calls Tryz.prog 176 #[.slice A n c,.int .i64 k] w (RetOwnI w (n-k) (stM m k)):=by
 have h0:=h.ext hx
 obtain ⟨r,hr⟩:∃r,r=n-k:=⟨_,rfl⟩
 have HSE:Hid (∀(W1 W2 W:World) (A1 A2:Option Addr) (c1 c2 i j:Nat),i<r->j<r->Ints W1 A1 3 .i64 (asI (firstL k (k+i)))->Ints W2 A2 3 .i64 (asI (firstL k (k+j)))->Ext w W->Ext W1 W->Ext W2 W->Calls Tryz.prog 177 #[.slice A n c,.slice A1 (k+1) c1,.slice A2 (k+1) c2] W (RetMat W (selM m (firstL k (k+i)) (firstL k (k+j))))):=Lib.hid (fun W1 W2 W A1 A2 c1 c2 i j hi hj e1 e2 x0 x1 x2=>by
  have :=rSelect_ok (w:=W) (c:=c) (cR:=c1) (cC:=c2) h0 e1 e2 hn (by rw [firstL_len];omega) (by rw [firstL_len];omega) (by rw [h1];exact firstL_lt (by omega) (by omega)) (firstL_lt (by omega) (by omega))
  rw [h1,firstL_len,firstL_len] at this
  exact this)
 have HDT:Hid (∀(W1 W:World) (A1:Option Addr) (c1 i j:Nat),i<r->j<r->MatV W1 A1 (selM m (firstL k (k+i)) (firstL k (k+j)))->Ext W1 W->Calls Tryz.prog 145 #[.slice A1 (k+1) c1] W (RetInt W (E (ent m) k (k+i) (k+j)))):=Lib.hid (fun W1 W A1 c1 i j hi hj hM e1=>by
  rw [<-minor_E hp (k+i) (k+j)]
  exact rDetSel_ok hM (by omega) hb hb1 hbb)
 have HSL:Hid (∀i j,(selM m (firstL k i) (firstL k j)).length=k+1):=Lib.hid (fun i j=>by rw [selM_len,firstL_len])
 have HFL:Hid (∀i,(asI (firstL k i)).length=k+1):=Lib.hid (fun i=>by rw [asI_len,firstL_len])
 have HFI:Hid (∀(W:World) (i:Nat),Calls Tryz.prog 178 #[.int .i64 k,.int .i64 i] W (RetIL W (asI (firstL k i)))):=Lib.hid (fun W i=>rfirst_ok k i (by omega))
 have HST:Hid (stM m k=tab (fun i j=>E (ent m) k (k+i) (k+j)) r r):=Lib.hid (by unfold stM;rw [h1,hr])
 rw [HST.out,<-hr]
 obtain ⟨F,hF⟩:∃F:Nat->Nat->Int,F=fun i j=>E (ent m) k (k+i) (k+j):=⟨_,rfl⟩
 rw [<-hF]
 have hFij:∀i j,E (ent m) k (k+i) (k+j)=F i j:=fun i j=>by rw [hF]
 have HDT2:Hid (∀(W1 W:World) (A1:Option Addr) (c1 i j:Nat),i<r->j<r->MatV W1 A1 (selM m (firstL k (k+i)) (firstL k (k+j)))->Ext W1 W->Calls Tryz.prog 145 #[.slice A1 (k+1) c1] W (RetInt W (F i j))):=Lib.hid (fun W1 W A1 c1 i j hi hj hM e1=>by
  have :=HDT.out W1 W A1 c1 i j hi hj hM e1
  rwa [hFij] at this)
 have hnk:(n:Int)-(k:Int)=(r:Int):=by omega
 have hrw:IntKind.i64.wrap ((n:Int)-k)=(r:Int):=by rw [show (n:Int)-k=(r:Int) by omega];exact IntWalk.i64_in _ (by omega)
 clear hn hb h1 hp HDT HST hF hFij hr
 go_enter Tryz.func176,Tryz.ntmps176
 go_wp2_with (go_at_call 147;refine (rZero_any r r (by omega) (by omega)).mono ?_;rintro e w3 ⟨g,hs,cz,rfl,hO,hcz1,hcz2,hs2⟩;rw [tab_length] at hcz1 |-;have HO:=Lib.hid hO;clear hO)
 have hx3:Ext w w3:=inferInstance
 go_loopw [7,8,18,26] (fun _ _ i _ wr=>∃q:Nat,q<=r/\i= .int .i64 q/\Hid (OwnI wr w.heap.size g r hs (tab (partF F q 0) r r))/\Ext w wr) (fun _ _ i _ _=>r-(intOf i).toNat)
 case atStart=>exact ⟨0,by omega,rfl,Lib.hid (by rw [partF_zero];exact HO.out),inferInstance⟩
 case round=>
  obtain ⟨i,hi,rfl,HO1,hxr⟩:=hrel
  obtain ⟨wo,rfl⟩:∃wo:World,wo=wr:=⟨_,rfl⟩
  by_cases hlt:i<r
  ·obtain ⟨b0,c0,hp0,d1,d2,d3,d4,d5,d6⟩:=HO1.out.hdr (i:=i) (by rw [tab_length];exact hlt)
   clear hp0
   go_wp2_with fail
   go_loopw [8,26] (fun _ j wr=>∃q:Nat,q<=r/\j= .int .i64 q/\Hid (OwnI wr w.heap.size g r hs (tab (partF F i q) r r))/\Ext w wr) (fun _ j _=>r-(intOf j).toNat)
   case atStart=>exact ⟨0,by omega,rfl,HO1,inferInstance⟩
   case round=>
    obtain ⟨q,hq,rfl,HO2,hxq⟩:=hrel
    by_cases hltq:q<r
    ·obtain ⟨b1,c1,hp1,f1,f2,f3,f4,f5,f6⟩:=HO2.out.hdr (i:=i) (by rw [tab_length];exact hlt)
     have HP1:=Lib.hid hp1
     have HX:=Lib.hid (fun W hh=>HO2.out.hdrX hp1 (by rw [tab_length];exact hlt) W hh)
     have hlo:=HO2.out.lo_row hp1
     have hnw:New b1 w:=⟨hlo⟩
     have HE:Hid (∀W,Ext wr W->∃s B k' d,W.cell? ⟨b1,q*2,none⟩=some (.bool s)/\W.cell? ⟨b1,q*2+1,none⟩=some (.slice B k' d)/\W.frozen? ⟨b1,q*2,none⟩=false/\W.frozen? ⟨b1,q*2+1,none⟩=false/\b1<W.heap.size):=Lib.hid (fun W hh=>by
      obtain ⟨s,B,k',d,a1,a2,-,a4,a5⟩:=(HO2.out.ext hh).entry (i:=i) HP1.out (by rw [tab_length];exact hlt) hltq
      exact ⟨s,B,k',d,a1,a2,a4,a5,Nat.lt_of_lt_of_le f5 hh.size⟩)
     have hki:IntKind.i64.wrap ((k:Int)+(i:Int))=((k+i:Nat):Int):=by rw [show (k:Int)+(i:Int)=((k+i:Nat):Int) by simp];exact IntWalk.i64_in _ (by omega)
     have hkq:IntKind.i64.wrap ((k:Int)+(q:Int))=((k+q:Nat):Int):=by rw [show (k:Int)+(q:Int)=((k+q:Nat):Int) by simp];exact IntWalk.i64_in _ (by omega)
     have HF1:=Lib.hid (fun W=>HFI.out W (k+i))
     have HF2:=Lib.hid (fun W=>HFI.out W (k+q))
     clear hp1
     go_wp2_with fail
     go_region_held3 (fun w'=>w'.cell? ⟨g,i,none⟩=some (.slice (some ⟨b1,0,none⟩) r c1))
      (first |exact (HX.out _ inferInstance).1 |exact (HX.out _ inferInstance).2 _ _ _ _)
      (first
       |(have hh:=hI6;clear hh;go_at_call 178;refine (HF2.out _).mono ?_;rintro e w7 ⟨A7,c7,rfl,hI7,-,-,hs7⟩;rw [HFL.out])
       |(go_at_call 178;refine (HF1.out _).mono ?_;rintro e w6 ⟨A6,c6,rfl,hI6,-,-,hs6⟩;rw [HFL.out])
       |(go_at_call 177;refine (HSE.out _ _ _ _ _ _ _ i q hlt hltq hI6 hI7 inferInstance inferInstance inferInstance).mono ?_;rintro e w8 ⟨A8,c8,rfl,hM8,-,-,hs8⟩;rw [HSL.out])
       |(go_at_call 145;refine (HDT2.out _ _ _ _ i q hlt hltq hM8 inferInstance).mono ?_;rintro e w5 ⟨g5,B5,k5,n5,rfl,hz5,hs5⟩;obtain ⟨s6,B6,k6,n6,u1,u2,u3,u4,u5⟩:=HE.out w5 inferInstance))
     go_wp2_with fail
     refine ⟨⟨q+1,by omega,by go_num,Lib.hid ?_,?_⟩,by simp [intOf]<;>omega⟩
     ·have hO5:=(HO2.out.ext (inferInstance:Ext wr w5)).set HP1.out (by rw [tab_length];exact hlt) hltq hz5
      rw [partF_set hlt hltq] at hO5
      exact hO5
     ·exact ((inferInstance:Ext w w5).setCell (p:=⟨b1,q*2,none⟩) hlo _).setCell (p:=⟨b1,q*2+1,none⟩) hlo _
    ·obtain rfl:q=r:=by omega
     go_wp2_with fail
     exact ⟨⟨i+1,by omega,by go_num,Lib.hid (by rw [<-partF_next];exact HO2.out),hxq⟩,by simp [intOf]<;>omega⟩
  ·obtain rfl:i=r:=by omega
   go_wp2_with fail
   go_ret
   have h:=HO1.out
   rw [partF_all] at h
   exact ⟨g,hs,cz,by rw [tab_length];rfl,h,by rw [tab_length];exact hcz1,hcz2,hxr.toStep⟩
def RetStages (w:World) (m:List (List Int)) (e:Ending) (w':World):Prop:=∃B d,e= .returned (.tuple #[.slice B m.length d,.bool true])/\StV w' B ((List.range m.length).map (stM m))/\m.length<=d/\d<=9223372036854775807/\Step w w'
def StHd (w:World) (m:List (List Int)) (q:Nat) (vs:List Value):Prop:=vs.length=q/\∀i,i<q->∃B c,vs[i]? =some (.slice B (m.length-i) c)/\MatV w B (stM m i)/\m.length-i<=c/\c<=9223372036854775807
theorem StHd.map {w w':World} {m:List (List Int)} {q:Nat} {vs:List Value} (h:StHd w m q vs) (hk:∀{B:Option Addr} {M:List (List Int)},MatV w B M->MatV w' B M):StHd w' m q vs:=⟨h.1,fun i hi=>by
 obtain ⟨B,c,a1,a2,a3⟩:=h.2 i hi
 exact ⟨B,c,a1,hk a2,a3⟩⟩
theorem StHd.snoc {w:World} {m:List (List Int)} {q:Nat} {vs:List Value} (h:StHd w m q vs) {B:Option Addr} {c:Nat} (hM:MatV w B (stM m q)) (h1:m.length-q<=c) (h2:c<=9223372036854775807):StHd w m (q+1) (vs++[.slice B (m.length-q) c]):=by
 refine ⟨by simp [h.1],fun i hi=>?_⟩
 rcases Nat.lt_or_ge i q with hlt |hge
 ·obtain ⟨B',c',a1,a2,a3⟩:=h.2 i hlt
  exact ⟨B',c',by rw [List.getElem?_append_left (by rw [h.1];exact hlt)];exact a1,a2,a3⟩
 ·obtain rfl:i=q:=by omega
  exact ⟨B,c,by rw [List.getElem?_append_right (by rw [h.1];exact Nat.le_refl _),h.1,Nat.sub_self];rfl,hM,h1,h2⟩
theorem StHd.stV {w:World} {m:List (List Int)} {vs:List Value} {A:Option Addr} (h:StHd w m m.length vs) (ha:Arr w A 73 vs):StV w A ((List.range m.length).map (stM m)):=by
 refine ⟨vs,by simp [h.1],ha,fun i M hM=>?_⟩
 rw [List.getElem?_map] at hM
 cases hr:(List.range m.length)[i]? with
 |none=>rw [hr] at hM;cases hM
 |some j=>
  have hij:i=j/\i<m.length:=by
   obtain ⟨h1,h2⟩:=List.getElem?_eq_some_iff.1 hr
   simp at h1 h2
   exact ⟨h2,h1⟩
  obtain ⟨rfl,hi⟩:=hij
  rw [hr] at hM
  injection hM with hM
  subst hM
  obtain ⟨B,c,a1,a2,a3⟩:=h.2 i hi
  exact ⟨B,c,by rw [stM_len];exact a1,a2,by rw [stM_len];exact a3.1,a3.2⟩
set_option maxRecDepth 20000 in
theorem rStages_ok {w0 w:World} {A:Option Addr} {c n b:Nat} {m:List (List Int)} (h:MatV w0 A m) (h1:m.length=n) (h3:1<=n) (h4:n<=8) (hn:AllLen m n) (hb:BdM b m) (hb1:1<=b) (hbb:b<=1000000) (hp:Pos (ofZ (ent m)) n) [hx:Ext w0 w]:
  Calls Tryz.prog 111 #[.slice A n c] w (RetStages w m):=by
 have h0:=h.ext hx
 have HLE:=Lib.hid (fun W (e1:Ext w W)=>rLeading_ok (w:=W) (c:=c) h0 h1 h3 h4 hn hb hb1 hbb)
 have HLL:Hid ((leadF m).length=n):=Lib.hid (by rw [leadF_len];exact h1)
 have HPX:Hid (∀i,i<n->0<(leadF m).getD i 0):=Lib.hid (fun i hi=>by
  rw [lead_get (by rw [h1];exact hp) (by rw [h1];exact hi)]
  exact E_pos hp hi)
 have HBX:Hid (BdL (256*(b+1)) (leadF m)):=Lib.hid (leadF_bd (by omega) hb1 hb)
 have HSG:Hid (∀(W:World) (k:Nat),k<n->Ext w W->Calls Tryz.prog 176 #[.slice A n c,.int .i64 k] W (RetOwnI W (n-k) (stM m k))):=Lib.hid (fun W k hk e=>rStage_ok h0 h1 h4 hn hb hb1 hbb hk (fun l hl=>by have :=E_pos hp (show l<n by omega);omega))
 have HSL:Hid (∀k,(stM m k).length=n-k):=Lib.hid (fun k=>by rw [stM_len,h1])
 unfold RetStages
 have HM1:=Lib.hid h1
 rw [h1]
 have hbk:b<=1000000:=hbb
 have hw:IntKind.i64.wrap ((n:Int)-1)=((n-1:Nat):Int):=by rw [show (n:Int)-1=((n-1:Nat):Int) by omega];exact IntWalk.i64_in _ (by omega)
 clear hn hb hp h1 h
 generalize leadF m=ds at*
 go_enter Tryz.func111,Tryz.ntmps111
 go_wp2_with (go_at_call 112;refine (HLE.out _ inferInstance).mono ?_;rintro e w1 ⟨BD,dD,rfl,hI1,hd1,hd2,hs1⟩;rw [HLL.out] at hd1 |-;have HI:=Lib.hid hI1;clear hI1)
 have hxw1:Ext w w1:=inferInstance
 go_loopw [7,23] (fun _ i wr=>∃q:Nat,q<=n-1/\i= .int .i64 q/\Ext w1 wr) (fun _ i _=>n-1-(intOf i).toNat)
 case atStart=>exact ⟨0,by omega,rfl,inferInstance⟩
 case round=>
  obtain ⟨q,hq,rfl,hxr⟩:=hrel
  have hxwr:Ext w wr:=hxw1.trans hxr
  by_cases hlt:q<n-1
  ·obtain ⟨bb,ob,g,B,k,d,rfl,y1,y2,hz,hb2⟩:=(HI.out.ext hxr).atD (i:=q) (by rw [HLL.out];omega)
   have hpos:=HPX.out q (by omega)
   have hlen:=hz.bd (HBX.out q) (by omega)
   generalize ds.getD q 0=z at*
   have hcz:(cmpI z 0==0)=false:=by rw [cmpI_gt hpos];rfl
   have HS:Hid (∀W,Ext wr W->Calls Tryz.prog 175 #[.agg #[.bool g,.slice B k d]] W (RetVal W (.int .i64 (cmpI z 0)))):=Lib.hid (fun W e=>rSign_any hz (by omega))
   clear hz hpos
   generalize cmpI z 0=cz at*
   go_wp2_with (go_at_call 175;refine (HS.out _ inferInstance).mono ?_;rintro e w2 ⟨rfl,hs2⟩)
   exact ⟨⟨q+1,by omega,by go_num,inferInstance⟩,by simp [intOf]<;>omega⟩
  ·obtain rfl:q=n-1:=by omega
   clear hlt hq
   go_wp2_with fail
   go_loopw [8,9,33] (fun s8 _ i wr'=>∃(q:Nat) (A1:Option Addr) (c1:Nat) (vs:List Value),q<=n/\i= .int .i64 q/\s8= .slice A1 q c1/\Hid (Own wr' w.heap.size 73 1 A1 q c1 vs)/\Hid (StHd wr' m q vs)/\Ext w wr') (fun _ _ i _=>n-(intOf i).toNat)
   case atStart=>exact ⟨0,none,0,[],by omega,rfl,rfl,Lib.hid (Own.nil _ _ _ _),Lib.hid ⟨rfl,fun i hi=>absurd hi (by omega)⟩,hxwr⟩
   case round=>
    obtain ⟨k,A1,c1,vs,hk,rfl,rfl,HO,HV,hxk⟩:=hrel
    by_cases hlt:k<n
    ·have HS:Hid (∀W,Ext w W->Calls Tryz.prog 176 #[.slice A n c,.int .i64 k] W (RetMat W (stM m k))):=Lib.hid (fun W e=>(HSG.out W k hlt e).mono fun _ _ h=>h.mat)
     have hkl:=HSL.out k
     go_wp2_with fail
     refine (HS.out _ inferInstance).mono ?_
     rintro e w5 ⟨B5,c5,rfl,hM5,hc51,hc52,hs5⟩
     rw [hkl] at hc51 |-
     have hx5:Ext wr w5:=inferInstance
     have HM5:=Lib.hid hM5
     clear hM5 hkl
     go_wp2_with (at_builtin;refine wpList_app _ rfl _ _ 103 rfl w.heap.size 73 (.slice none 0 0) 1 24 Tryz.underlying103 infoSlSlInt rfl (by omega) (by omega) A1 k c1 vs rfl (HO.out.ext inferInstance) (some ⟨w5.heap.size,0,none⟩) 1 1 [.slice B5 (n-k) c5] rfl (Arr.new w5 73 #[.slice B5 (n-k) c5]) rfl (one_sl _ _ _) (by omega) (by have :=(hxk.trans hx5).size;simp;omega) ?_;intro A6 c6 w6 hown hg;have HO6:=Lib.hid hown;have HG6:=Lib.hid hg;have hx6:Ext w w6:=hg.ext inferInstance (Nat.le_refl _);clear hown hg)
     refine ⟨⟨k+1,A6,c6,vs++[.slice B5 (n-k) c5],by omega,by go_num,rfl,HO6,Lib.hid ?_,hx6⟩,by simp [intOf]<;>omega⟩
     have hxa:Ext w5 (w5.alloc (.cells #[.slice B5 (n-k) c5] 73)):=inferInstance
     have h6:=StHd.snoc (m:=m) (HV.out.map fun h=>(h.ext hx5).ext hxa) (HM5.out.ext hxa) (c:=c5) (by rw [HM1.out];exact hc51) hc52
     rw [HM1.out] at h6
     exact h6.map fun h=>h.grow HG6.out (by decide) (by decide) (by decide)
    ·obtain rfl:k=n:=by omega
     go_wp2_with fail
     go_ret2
     have hst:=HV.out
     rw [<-HM1.out] at hst
     have hst2:=hst.stV HO.out.arr
     rw [HM1.out] at hst2
     exact ⟨A1,c1,rfl,hst2,HO.out.cap.1,HO.out.cap.2,hxk.toStep⟩
end Go.Proofs.YtijfjailmilkfaaGreat
namespace Go.Proofs.YtijfjailmilkfaaGreat
open Go.ChangeShapes Go.WideShapes Go.ChangeAt Go.RowKit Go.Joins Go.Deep
theorem sameAt_of {W W':World} (hb:Below W.heap.size W W') {p:MemPlace} (hp:p.block<W.heap.size):W.sameAt W' p:=by
 cases p with
 |cell b off=>
  show W'.cell? ⟨b,off,none⟩=W.cell? ⟨b,off,none⟩
  unfold World.cell?
  rw [hb.block b hp]
 |map b=>exact hb.block b hp
theorem arg_stay {H:Type} {enc:TypeId×Value->H} {W W':World} {sp:Nat->Bool} {t:TypeId} {v:Value} {d:DataW H} {p:List MemPlace} (hl:laidOutB Tryz.prog=true) (hr:Tryz.prog.readableRec t=true) (hrow:t<Tryz.prog.types.size)
  (h:DataW.Trod enc Tryz.prog W 0 (fun _=>true) true t v d p) (hb:Below W.heap.size W W') (hs:∀q∈p,sp q.block=true):DataW.Trod enc Tryz.prog W' 0 sp true t v d p:=by
 refine Go.WideElems.Trod_stays hl hr hrow h (fun q hq=>sameAt_of hb ?_) hs
 obtain ⟨n,hn⟩:=h
 exact DataW.trod_lt n _ _ _ hn q hq
theorem i64_wf {x:Int} (h:(Lit.int .i64 x).wf=true):-9223372036854775808<=x/\x<=9223372036854775807:=by
 have e1:IntKind.i64.min=-9223372036854775808:=rfl
 have e2:IntKind.i64.max=9223372036854775807:=rfl
 simp [Lit.wf] at h
 omega
theorem arr_of {W:World} {a:Addr} {vs:List Value} (h:∀(j:Nat) (u:Value),vs[j]? =some u->W.cell? (a.add j)=some u):∃te,Arr W (some a) te vs:=by
 rcases Nat.eq_zero_or_pos vs.length with h0 |h0
 ·exact ⟨0,fun hh=>absurd hh (by omega)⟩
 have hc0:=h 0 vs[0] (List.getElem?_eq_getElem h0)
 have ha:a.add 0=a:=by simp [Addr.add]
 rw [ha] at hc0
 unfold World.cell? at hc0
 split at hc0
 ·rename_i cs te fr hbl
  split at hc0
  ·cases hc0
  rename_i hsp
  obtain ⟨ab,ao,asp⟩:=a
  have has:asp=none:=by cases asp<;>simp_all
  subst has
  refine ⟨te,fun _=>⟨ab,ao,cs,fr,rfl,hbl,fun j u hu=>?_⟩⟩
  have c0:=h j u hu
  rw [show (⟨ab,ao,none⟩:Addr).add j=⟨ab,ao+j,none⟩ by unfold Addr.add;split<;>simp_all] at c0
  unfold World.cell? at c0
  simp only [hbl] at c0
  simpa using c0
 ·cases hc0
structure MatL (W:World) (v:Value) where
 A:Option Addr
 m:List (List Int)
 c:Nat
 eq:v= .slice A m.length c
 mat:MatA W A m
 fits:Fits64 m
 rl:∀r∈m,r.length<=9223372036854775807
 len:m.length<=c
 cap:c<=9223372036854775807
set_option maxRecDepth 100000 in
theorem open_mat {H:Type} {enc:TypeId×Value->H} {W:World} {r:Reach} {b0:Nat} {v:Value} {d:DataW H} {p:List MemPlace} (hv:Value.okWide Tryz.prog W r b0 22 v) (h:DataW.Trod enc Tryz.prog W 0 (fun _=>true) true 22 v d p):Nonempty (MatL W v):=by
 obtain ⟨n,hn⟩:=h
 obtain ⟨A,l,c,rfl⟩:=okWide_slice Tryz.underlying22 hv
 rcases open_int_rows Tryz.underlying22 Tryz.underlying35 Tryz.underlying2 (by kernel_rfl) (by kernel_rfl) hn with ⟨h1,h2⟩ |⟨a,len,cap,A',L,C,Z,h1,-,hl,hm,-,hx⟩
 ·simp [Value.cells] at h1
  obtain ⟨rfl,rfl,rfl⟩:=h1
  exact ⟨⟨none,[],0,rfl,⟨0,[],rfl,Arr.nil,fun i r h=>by simp at h⟩,fun r hr=>by simp at hr,fun r hr=>by simp at hr,Nat.le_refl _,by omega⟩⟩
 ·simp [Value.cells] at h1
  obtain ⟨rfl,rfl,rfl⟩:=h1
  have hm2:c<=9223372036854775807:=hm
  have hrow:∀i,i<l->((Z i).take (L i)).length=L i:=fun i hi=>by
   obtain ⟨-,h2,-,h4,-⟩:=hx i (by omega)
   rw [List.length_take];omega
  have hget:∀{α:Type} (f:Nat->α) (i:Nat) (y:α),((List.range l).map f)[i]? =some y->i<l/\y=f i:=by
   intro α f i y hy
   obtain ⟨h1,h2⟩:=List.getElem?_eq_some_iff.1 hy
   simp at h1 h2
   exact ⟨h1,h2.symm⟩
  obtain ⟨te,hA⟩:=arr_of (W:=W) (a:=a) (vs:=(List.range l).map fun i=>Value.slice (A' i) (L i) (C i)) (fun j u hu=>by
   obtain ⟨hj,rfl⟩:=hget _ _ _ hu
   exact (hx j (by omega)).1)
  refine ⟨⟨some a,(List.range l).map fun i=>(Z i).take (L i),c,by simp,⟨te,_,by simp,hA,fun i r hr=>?_⟩,fun r hr x hxr=>?_,fun r hr=>?_,by simpa using hl,hm2⟩⟩
  ·obtain ⟨hi,rfl⟩:=hget _ _ _ hr
   obtain ⟨-,h2,h3,h4,h5,h6,h7⟩:=hx i (by omega)
   refine ⟨A' i,C i,by rw [hrow i hi];simp [hi],?_,by rw [hrow i hi];exact h2,h3⟩
   cases hAi:A' i with
   |none=>
    have h0:=h6 hAi
    have :(Z i).take (L i)=[]:=List.eq_nil_of_length_eq_zero (by rw [hrow i hi];omega)
    rw [this]
    exact ⟨0,Arr.nil⟩
   |some a'=>
    obtain ⟨te',h⟩:=arr_of (W:=W) (a:=a') (vs:=((Z i).take (L i)).map (Value.int .i64)) (fun j u hu=>by
     obtain ⟨hj,hju⟩:=List.getElem?_eq_some_iff.1 hu
     simp only [List.length_map] at hj
     rw [hrow i hi] at hj
     have hc:=(h7 a' hAi).2 j (by omega)
     rw [hc,<-hju]
     simp [List.getElem_take,List.getD,show j<(Z i).length by omega])
    exact ⟨te',h⟩
  ·obtain ⟨i,hi⟩:=List.getElem?_of_mem hr
   obtain ⟨hil,rfl⟩:=hget _ _ _ hi
   obtain ⟨-,-,-,-,h5,-⟩:=hx i (by omega)
   exact i64_wf (h5 x (List.mem_of_mem_take hxr))
  ·obtain ⟨i,hi⟩:=List.getElem?_of_mem hr
   obtain ⟨hil,rfl⟩:=hget _ _ _ hi
   obtain ⟨-,h2,h3,-⟩:=hx i (by omega)
   rw [hrow i hil]
   have :maxLen=9223372036854775807:=rfl
   omega
set_option maxRecDepth 100000 in
theorem open_matL {H:Type} {enc:TypeId×Value->H} {W:World} {r:Reach} {b0:Nat} {v:Value} {d:DataW H} {p:List MemPlace} (hv:Value.okWide Tryz.prog W r b0 22 v) (h:DataW.Trod enc Tryz.prog W 0 (fun _=>true) true 22 v d p):
  Nonempty (MatL W v)/\∀(W':World) (sp:Nat->Bool),Below W.heap.size W W'->(∀q∈p,sp q.block=true)->DataW.Trod enc Tryz.prog W' 0 sp true 22 v d p:=
 ⟨open_mat hv h,fun W' sp hb hs=>arg_stay c_laid (by kernel_rfl) (of_decide_eq_true (by kernel_rfl)) h hb hs⟩
end Go.Proofs.YtijfjailmilkfaaGreat
namespace Go.Proofs.YtijfjailmilkfaaGreat
open La
def fB (m:List (List Int)) (s i j:Nat):Int:=E (ent m) s (s+i) (s+j)
def fL (m:List (List Int)) (s:Nat) (t:List Int):Int:=sumR t.length fun j=>fB m s 0 (j+1)*t.getD j 0
def fC (m:List (List Int)) (s:Nat) (t:List Int):Int:=sumR t.length fun i=>t.getD i 0*sumR t.length fun j=>fB m s (i+1) (j+1)*t.getD j 0
theorem fL_sum (m:List (List Int)) (s:Nat) (t:List Int):fL m s t=sumZ (E (ent m) s s) (s+1) t:=by
 rw [sumZ_sumR]
 refine sumR_congr fun j _=>?_
 unfold fB
 rw [show s+1+j=s+(j+1) by omega,Nat.add_zero]
theorem fL_eq (m:List (List Int)) (s:Nat) (t:List Int):fL m s t=lE (ent m) s (0::t):=by
 rw [fL_sum]
 unfold lE
 rw [sumZ,Int.mul_zero,Int.zero_add]
theorem fC_eq (m:List (List Int)) (s:Nat) (t:List Int):fC m s t=qE (ent m) s (0::t):=by
 unfold qE quadZ
 rw [sumZ,Int.mul_zero,Int.zero_add,sumZ_sumR]
 unfold fC
 refine sumR_congr fun i _=>?_
 rw [Int.mul_comm]
 congr 1
 rw [sumZ,Int.mul_zero,Int.zero_add,sumZ_sumR]
 refine sumR_congr fun j _=>?_
 unfold fB
 rw [show s+1+j=s+(j+1) by omega,show s+1+i=s+(i+1) by omega]
theorem ival_eq {m:List (List Int)} (hr:RedOK m) {s:Nat} (hs:s<m.length) (b:Int) (t:List Int) (ht:t.length=m.length-1-s) (h0:0<=left (ent m) b (s+1) t):
  0<=fL m s t*fL m s t-fB m s 0 0*(fC m s t-b*lastE (ent m) s)/\
  ((isq (fL m s t*fL m s t-fB m s 0 0*(fC m s t-b*lastE (ent m) s)).toNat:Int)-fL m s t) / fB m s 0 0=tHi m b s t/\
  -(((isq (fL m s t*fL m s t-fB m s 0 0*(fC m s t-b*lastE (ent m) s)).toNat:Int)+fL m s t) / fB m s 0 0)=tLo m b s t/\0<fB m s 0 0:=by
 have hp:=E_pos hr.pos hs
 have hb:fB m s 0 0=lastE (ent m) (s+1):=rfl
 have hd:fL m s t*fL m s t-fB m s 0 0*(fC m s t-b*lastE (ent m) s)=vSq (minorsTo m m.length) s (left (ent m) b (s+1) t):=by
  rw [fL_eq,fC_eq,hb,disc_eq hr hs,vSq,minorsTo_get (by omega)]
 have hl:0<lastE (ent m) s:=lastE_pos hr.pos (by omega)
 rw [hd]
 have hv:vSh (lamTo m m.length) s t=fL m s t:=by rw [vSh_eq hs t ht,fL_sum]
 have hD:vD (minorsTo m m.length) (s+1)=fB m s 0 0:=by rw [minorsTo_get (by omega)];rfl
 refine ⟨?_,?_,?_,hp⟩
 ·unfold vSq
  rw [minorsTo_get (by omega)]
  exact Int.mul_nonneg (Int.le_of_lt hl) h0
 ·unfold tHi vHi vR
  rw [hv,hD]
 ·unfold tLo vLo vR
  rw [hv,hD]
/-! ## The numbers of tails -/
def ysT (m:List (List Int)) (b:Int) (k:Nat) (t:List Int):List (Int×Int):=visitY (minorsTo m m.length) (lamTo m m.length) m.length k (left (ent m) b (k+1) t) t
def ysK (m:List (List Int)) (b:Int) (k:Nat) (t:List Int) (q:Nat):List (Int×Int):=(List.range q).flatMap fun (j:Nat)=>ysT m b k ((tLo m b (k+1) t+(j:Int))::t)
theorem ysK_succ (m:List (List Int)) (b:Int) (k:Nat) (t:List Int) (q:Nat):ysK m b k t (q+1)=ysK m b k t q++ysT m b k ((tLo m b (k+1) t+(q:Int))::t):=by
 unfold ysK
 rw [List.range_succ,List.flatMap_append,List.flatMap_singleton]
theorem ysT_zero (m:List (List Int)) (b:Int) (t:List Int):ysT m b 0 t=[((m.length:Int),tHi m b 0 t-tLo m b 0 t+1)]:=rfl
theorem ysT_succ {m:List (List Int)} (hr:RedOK m) {k:Nat} (hk:k+1<m.length) (b:Int) (t:List Int) (ht:t.length=m.length-1-(k+1)):
  ysT m b (k+1) t=((m.length:Int)-(k+1:Nat),tHi m b (k+1) t-tLo m b (k+1) t+1)::ysK m b k t (tCnt m b (k+1) t):=by
 unfold ysT ysK tCnt
 rw [visitY]
 congr 1
 refine congrArg (fun F=>List.flatMap F _) ?_
 funext j
 rw [vRest_eq hr (by omega) b t ht]
 rfl
def addY (cs:List Int) (ys:List (Int×Int)):List Int:=(List.range cs.length).map fun i=>cs.getD i 0+atY ys i
theorem addY_len (cs:List Int) (ys:List (Int×Int)):(addY cs ys).length=cs.length:=by simp [addY]
theorem addY_get {cs:List Int} {ys:List (Int×Int)} {i:Nat} (h:i<cs.length):(addY cs ys).getD i 0=cs.getD i 0+atY ys i:=by
 simp [addY,List.getD,h]
theorem addY_nil (cs:List Int):addY cs []=cs:=by
 apply List.ext_getElem
 ·exact addY_len _ _
 ·intro i h1 h2
  simp [addY,atY,h2]
theorem addY_append (cs:List Int) (a b:List (Int×Int)):addY (addY cs a) b=addY cs (a++b):=by
 unfold addY
 simp only [List.length_map,List.length_range]
 refine List.map_congr_left fun i hi=>?_
 have hi':i<cs.length:=by simpa using hi
 rw [atY_append]
 simp [List.getD,hi']
 omega
theorem addY_sum {cs:List Int} {ys:List (Int×Int)} (h:∀p∈ys,1<=p.1/\p.1<=(cs.length:Int)):(addY cs ys).sum=cs.sum+totY ys:=by
 unfold addY
 rw [sum_map_add (List.range cs.length) (fun i=>cs.getD i 0) (atY ys),sum_at _ _ h]
 congr 2
 apply List.ext_getElem
 ·simp
 ·intro i h1 h2
  simp [h2]
theorem addY_one {cs:List Int} {i:Nat} {z:Int} (h:i<cs.length):addY cs [((i:Int)+1,z)]=cs.set i (cs.getD i 0+z):=by
 apply List.ext_getElem
 ·simp [addY]
 ·intro j h1 h2
  have hj:j<cs.length:=by simpa using h2
  simp only [addY,List.getElem_map,List.getElem_range,atY,List.getElem_set]
  by_cases e:i=j
  ·subst e
   rw [if_pos (by omega),if_pos rfl]
   simp [h]
  ·rw [if_neg (by omega),if_neg e]
   simp [hj]
theorem totY_nonneg {ys:List (Int×Int)} (h:∀p∈ys,0<=p.2):0<=totY ys:=by
 induction ys with
 |nil=>exact Int.le_refl _
 |cons p ys ih=>
  have :=h p (by simp)
  have :=ih (fun q hq=>h q (by simp [hq]))
  simp only [totY];omega
def ysR (m:List (List Int)) (b:Int):Nat->List Int->List (Int×Int)
 |0,_=>[]
 |k+1,t=>ysK m b k t (tCnt m b (k+1) t)
theorem ysT_cons {m:List (List Int)} (hr:RedOK m) {k:Nat} (hk:k<m.length) (b:Int) (t:List Int) (ht:t.length=m.length-1-k):
  ysT m b k t=((m.length:Int)-(k:Nat),tHi m b k t-tLo m b k t+1)::ysR m b k t:=by
 cases k with
 |zero=>rw [ysT_zero];simp [ysR]
 |succ k=>exact ysT_succ hr hk b t ht
theorem ends_one {m:List (List Int)} (hr:RedOK m) (h1:m.length=1) {b:Int} (hb:0<=b):tLo m b 0 []=-((isq (b / ent m 0 0).toNat:Nat):Int)/\tHi m b 0 []=((isq (b / ent m 0 0).toNat:Nat):Int):=by
 have hpos:1<=ent m 0 0:=by
  have :=lastE_pos hr.pos (k:=1) (by omega)
  have e:lastE (ent m) 1=ent m 0 0:=rfl
  omega
 obtain ⟨hin,hout⟩:=isq_bounds hpos hb
 have key:∀c:Int,(tLo m b 0 []<=c/\c<=tHi m b 0 [])↔ent m 0 0*c*c<=b:=fun c=>by
  have h:=inv_iff hr (k:=0) (by omega) (bound:=b) [] (by simp [h1]) (by have :=top_nonneg hr hb;rw [h1] at this;exact this) c
  refine h.trans ?_
  rw [left_nrm (isSmallB_all hr.small) b [c] (by simp [h1])]
  have e:nrm m [c]=ent m 0 0*c*c:=by
   rw [nrm_eq (isSmallB_all hr.small) _ (by simp [h1])]
   simp [qE,quadZ,sumZ,E,ent]
  rw [e]
  omega
 obtain ⟨r,hrr⟩:∃r:Nat,isq (b / ent m 0 0).toNat=r:=⟨_,rfl⟩
 rw [hrr] at hin hout |-
 have a1:ent m 0 0*(r:Int)*r<=b:=by
  by_cases h0:r=0
  ·subst h0;simpa using hb
  ·exact hin r (by omega) (by omega)
 have a2:ent m 0 0*(-(r:Int))*(-(r:Int))<=b:=by
  have :ent m 0 0*(-(r:Int))*(-(r:Int))=ent m 0 0*(r:Int)*r:=by grind
  omega
 have a3:¬ent m 0 0*(-((r:Int)+1))*(-((r:Int)+1))<=b:=by
  have :ent m 0 0*(-((r:Int)+1))*(-((r:Int)+1))=ent m 0 0*((r:Int)+1)*((r:Int)+1):=by grind
  omega
 have b1:=(key r).2 a1
 have b2:=(key (-(r:Int))).2 a2
 have b3:¬(tLo m b 0 []<=-((r:Int)+1)/\-((r:Int)+1)<=tHi m b 0 []):=fun h=>a3 ((key (-((r:Int)+1))).1 h)
 have b4:¬(tLo m b 0 []<=(r:Int)+1/\(r:Int)+1<=tHi m b 0 []):=fun h=>(show ¬ent m 0 0*((r:Int)+1)*((r:Int)+1)<=b by omega) ((key ((r:Int)+1)).1 h)
 constructor<;>omega
theorem tails_ys {m:List (List Int)} (hr:RedOK m) {b:Int} (hb:0<=b):tailsY (minorsTo m m.length) (lamTo m m.length) m.length b=ysT m b (m.length-1) []:=by
 have hl:=isSmallB_len hr.small
 unfold tailsY
 by_cases h1:m.length=1
 ·rw [if_pos h1]
  have e:vD (minorsTo m m.length) 1=ent m 0 0:=by rw [minorsTo_get (by omega)];rfl
  rw [e]
  obtain ⟨a1,a2⟩:=ends_one hr h1 hb
  have :ysT m b (m.length-1) []=[((m.length:Int),tHi m b 0 []-tLo m b 0 []+1)]:=by rw [show m.length-1=0 by omega];exact ysT_zero m b []
  rw [this,a1,a2,h1]
  congr 1
  congr 1
  omega
 ·rw [if_neg h1,top_eq hr]
  rfl
theorem totS_ys {m:List (List Int)} (hr:RedOK m) {b:Int} (hb:0<=b):totS m b=totY (ysT m b (m.length-1) []):=by
 unfold totS
 rw [tails_ys hr hb]
theorem stS_ys {m:List (List Int)} (hr:RedOK m) {b:Int} (hb:0<=b):stS m b=addY (List.replicate m.length 0) (ysT m b (m.length-1) []):=by
 unfold stS addY
 rw [tails_ys hr hb,List.length_replicate]
 refine List.map_congr_left fun i hi=>?_
 have hi':i<m.length:=by simpa using hi
 simp [List.getD,hi']
end Go.Proofs.YtijfjailmilkfaaGreat
namespace Go.Proofs.YtijfjailmilkfaaGreat
open Go.RowKit
open La
theorem Arr.drop {w:World} {b o:Nat} {e:TypeId} {vs:List Value} (h:Arr w (some ⟨b,o,none⟩) e vs) (k:Nat):Arr w (some ⟨b,o+k,none⟩) e (vs.drop k):=fun h0=>by
 obtain ⟨b',o',cs,fr,hA,hb,hc⟩:=h (by rw [List.length_drop] at h0;omega)
 injection hA with hA
 injection hA with h1 h2
 subst h1 h2
 refine ⟨_,_,cs,fr,rfl,hb,fun j u hu=>?_⟩
 rw [List.getElem?_drop] at hu
 have :=hc _ _ hu
 rwa [<-Nat.add_assoc] at this
theorem IntsV.drop {w:World} {b o:Nat} {zs:List Int} (h:IntsV w (some ⟨b,o,none⟩) zs) (k:Nat):IntsV w (some ⟨b,o+2*k,none⟩) (zs.drop k):=by
 obtain ⟨vs,h1,h2,h3⟩:=h
 refine ⟨vs.drop (2*k),by rw [List.length_drop,List.length_drop,h1];omega,h2.drop _,fun i z hz=>?_⟩
 rw [List.getElem?_drop] at hz
 obtain ⟨g,B,n,c,a1,a2,a3⟩:=h3 _ z hz
 refine ⟨g,B,n,c,?_,?_,a3⟩
 ·rw [List.getElem?_drop,show 2*k+i*2=(k+i)*2 by omega];exact a1
 ·rw [List.getElem?_drop,show 2*k+(i*2+1)=(k+i)*2+1 by omega];exact a2
def RetL64 (w:World) (l:List Int) (e:Ending) (w':World):Prop:=∃A c,e= .returned (.slice A l.length c)/\Ints w' A 2 .i64 l/\l.length<=c/\c<=9223372036854775807/\Step w w'
theorem rlonger_ok {w0 w:World} {A:Option Addr} {c:Nat} {t:List Int} (x:Int) (h:Ints w0 A 2 .i64 t) (h1:t.length<=1000) [hx:Ext w0 w]:
  Calls Tryz.prog 115 #[.int .i64 x,.slice A t.length c] w (RetL64 w (x::t)):=by
 have h0:=h.ext hx
 unfold RetL64
 go_enter Tryz.func115,Tryz.ntmps115
 go_wp2_with (at_builtin;refine wpList_app _ rfl _ _ 35 rfl w.heap.size 2 (.int .i64 0) 1 8 Tryz.underlying35 infoI64 rfl (by omega) (by omega) (some ⟨w.heap.size,0,none⟩) 1 1 [.int .i64 x] rfl (Own.new w 2 1 1 #[.int .i64 x] rfl (by omega)) _ t.length c (t.map (Value.int .i64)) rfl (h0.ext inferInstance) (by simp) oneCell_ints (by omega) (by simp) ?_;intro A1 c1 w1 hown hg)
 go_ret
 have hxx:Ext w w1:=hg.ext inferInstance (Nat.le_refl _)
 have hc:=hown.cap
 refine ⟨A1,c1,?_,?_,by omega,hc.2,hxx.toStep⟩
 ·show Ending.returned (Value.slice A1 (1+t.length) c1)=_
  rw [Nat.add_comm]
 exact hown.arr
theorem rvalue_ok {w0 w1 w:World} {A B:Option Addr} {c d n k:Nat} {m:List (List Int)} {x:List Int} (hM:MatV w0 A m) (hX:IntsV w1 B x) (h1:m.length=n) (h3:1<=n) (h4:n<=16) (hn:AllLen m n) (hxl:x.length=n) (hk:k<=100000000000) (hbm:∀i j,Bd k (ent m i j)) (hbx:BdL k x) [hx:Ext w0 w] [hy:Ext w1 w]:
  Calls Tryz.prog 188 #[.slice A n c,.slice B n d] w (RetInt w (sumR n fun i=>x.getD i 0*(applyR m n x).getD i 0)):=by
 have h0:=hM.ext hx
 have hX0:=hX.ext hy
 have HAP:Hid (∀W,Ext w W->Calls Tryz.prog 122 #[.slice A n c,.slice B n d] W (RetIntsB W (applyR m n x))):=Lib.hid (fun W e=>by
  have :=rApply_ok (w:=W) (c:=c) (d:=d) (k:=k) h0 hX0 (by omega) (by omega) h3 h4 hn hxl (by omega) hbm hbx
  rwa [h1] at this)
 have HDT:Hid (∀(W1 W:World) (A1:Option Addr) (c1:Nat),IntsV W1 A1 (applyR m n x)->Ext W1 W->Ext w W->Calls Tryz.prog 124 #[.slice B n d,.slice A1 n c1] W (RetInt W (sumR n fun i=>x.getD i 0*(applyR m n x).getD i 0))):=Lib.hid (fun W1 W A1 c1 i1 e1 e2=>
  rDot_ok hX0 i1 hxl (by rw [applyR_len];exact h1) h4 (k:=2*k+n) (by omega) (fun i=>(hbx i).mono (by omega)) (applyR_bd h4 hbm hbx))
 have HAL:Hid ((applyR m n x).length=n):=Lib.hid (by rw [applyR_len];exact h1)
 clear hbm hbx hn hxl h1 hM hX h0 hX0
 generalize (sumR n fun i=>x.getD i 0*(applyR m n x).getD i 0)=z at*
 generalize applyR m n x=ay at*
 go_enter Tryz.func188,Tryz.ntmps188
 go_wp2_with (first
  |(go_at_call 122;refine (HAP.out _ inferInstance).mono ?_;rintro e w5 ⟨A5,c5,rfl,hI5,-,-,hs5⟩;have HI5:=Lib.hid hI5;clear hI5;rw [HAL.out])
  |(go_at_call 124;refine (HDT.out _ _ _ _ HI5.out inferInstance inferInstance).mono ?_;rintro e w7 ⟨g7,B7,k7,d7,rfl,hz7,hs7⟩;have hb7:=(inferInstance:BlkAt w.heap.size #[.bool false,.slice none 0 0] 117 w7).eq;obtain ⟨t1,t2,t3,t4,t5⟩:=box_cells2 hb7;have tq:Typed w.heap.size 117 w7:=⟨_,_,hb7⟩;clear hb7))
 exact bodyPost_ret (v:= .agg #[.bool g7,.slice B7 k7 d7]) (by simp [results,Tryz.results188,go_sem,t1,t2]) rfl ⟨_,_,_,_,rfl,hz7.keeps,Step.of _ _⟩
def FrV (w:World) (m:List (List Int)) (SB DB:Option Addr):Prop:=StV w SB ((List.range m.length).map (stM m))/\IntsV w DB (1::leadF m)
theorem FrV.ext {w w':World} {m:List (List Int)} {SB DB:Option Addr} (h:FrV w m SB DB) (hx:Ext w w'):FrV w' m SB DB:=⟨h.1.ext hx,h.2.ext hx⟩
def RetFr (w:World) (m:List (List Int)) (n:Nat) (e:Ending) (w':World):Prop:=∃SB sc DB dc,e= .returned (.agg #[.int .i64 n,.slice SB n sc,.slice DB (n+1) dc])/\FrV w' m SB DB/\n<=sc/\sc<=9223372036854775807/\n+1<=dc/\dc<=9223372036854775807/\Step w w'
theorem blk3 {w:World} {b:Nat} {x0 x1 x2:Value} {T:TypeId} (h:w.heap[b]? =some (.cells #[x0,x1,x2] T (0,0))):(w.cell? ⟨b,0,none⟩=some x0/\w.cell? ⟨b,1,none⟩=some x1/\w.cell? ⟨b,2,none⟩=some x2)/\(w.frozen? ⟨b,0,none⟩=false/\w.frozen? ⟨b,1,none⟩=false/\w.frozen? ⟨b,2,none⟩=false)/\b<w.heap.size:=
 ⟨⟨by simp [World.cell?,h],by simp [World.cell?,h],by simp [World.cell?,h]⟩,⟨by simp [World.frozen?,h],by simp [World.frozen?,h],by simp [World.frozen?,h]⟩,lt_of_heap h⟩
theorem FrV.oth {w w':World} {m:List (List Int)} {SB DB:Option Addr} {T:TypeId} (h:FrV w m SB DB) (ho:Oth T w w') (h3:73≠T) (h0:104≠T) (h1:117≠T) (h2:280≠T):FrV w' m SB DB:=⟨h.1.oth ho h3 h0 h1 h2,h.2.oth ho h1 h2⟩
theorem Oth.set3 {w:World} {T:TypeId} {b:Nat} {cs:Array Value} (hp:w.heap[b]? =some (.cells cs T (0,0))) (i j k:Nat) (u v x:Value):Oth T w (((w.setCell ⟨b,i,none⟩ u).setCell ⟨b,j,none⟩ v).setCell ⟨b,k,none⟩ x):=
 (Oth.set2 hp i j u v).trans (Oth.set (p:=⟨b,k,none⟩) (heap_setCell_self (heap_setCell_self hp _) _) _)
theorem vs_one {w:World} {vs:List Value} {zs:List Int} (hl:vs.length=zs.length*2) (h:∀(i:Nat) (z:Int),zs[i]? =some z->∃g B n c,vs[i*2]? =some (.bool g)/\vs[i*2+1]? =some (.slice B n c)/\IntV w g B n c z):∀u∈vs,u.oneCell'=true:=fun u hu=>by
 obtain ⟨j,hj⟩:=List.getElem?_of_mem hu
 have hjl:=(List.getElem?_eq_some_iff.1 hj).1
 have hi:j / 2<zs.length:=by omega
 obtain ⟨g,B,n,c,a1,a2,-⟩:=h (j / 2) zs[j / 2] (List.getElem?_eq_getElem hi)
 rcases Nat.mod_two_eq_zero_or_one j with e |e
 ·rw [show j / 2*2=j by omega,hj] at a1
  injection a1 with a1
  rw [a1];rfl
 ·rw [show j / 2*2+1=j by omega,hj] at a2
  injection a2 with a2
  rw [a2];rfl
theorem rFrame_ok {w0 w:World} {A:Option Addr} {c n:Nat} {m:List (List Int)} (h:MatA w0 A m) (hL:LLLed m) (h1:m.length=n) [hx:Ext w0 w]:
  Calls Tryz.prog 64 #[.slice A n c] w (RetFr w m n):=by
 have h8:=hL.len8
 have h3:=hL.len1
 have HOF:Hid (∀W,Ext w0 W->Calls Tryz.prog 46 #[.slice A n c] W (RetMat W m)):=Lib.hid (fun W e=>by
  have :=(rOf_ok (w:=W) (c:=c) h m.length h3 (by omega) h3 (by omega) hL.all hL.fits).mono fun _ _ h=>h.mat
  rwa [h1] at this)
 have hall:AllLen m n:=by rw [<-h1];exact hL.all
 have hpos:Pos (ofZ (ent m)) n:=by rw [<-h1];exact hL.pos
 have HST:Hid (∀(W1 W:World) (A1:Option Addr) (c1:Nat),MatV W1 A1 m->Ext W1 W->Calls Tryz.prog 111 #[.slice A1 n c1] W (RetStages W m)):=Lib.hid (fun W1 W A1 c1 hM e=>rStages_ok hM h1 (by omega) (by omega) hall hL.bd (by omega) (by omega) hpos)
 have HLE:Hid (∀(W1 W:World) (A1:Option Addr) (c1:Nat),MatV W1 A1 m->Ext W1 W->Calls Tryz.prog 112 #[.slice A1 n c1] W (RetIntsB W (leadF m))):=Lib.hid (fun W1 W A1 c1 hM e=>rLeading_ok hM h1 (by omega) (by omega) hall hL.bd (by omega) (by omega))
 have HLL:Hid ((leadF m).length=n):=Lib.hid (by rw [leadF_len];exact h1)
 have HSM:=Lib.hid (fun W=>rSmall_any 1 (by omega) (by omega) W)
 unfold RetMat at HOF
 unfold RetStages at HST
 rw [h1] at HOF HST h3 h8
 have H1:=Lib.hid h1
 clear h1 hall hpos hL h
 go_enter Tryz.func64,Tryz.ntmps64
 go_wp2_with (first
  |(go_at_call 46;refine (HOF.out _ inferInstance).mono ?_;rintro e w3 ⟨A3,c3,rfl,hM3,-,-,hs3⟩;have HM3:=Lib.hid hM3;clear hM3)
  |(go_at_call 111;refine (HST.out _ _ _ _ HM3.out inferInstance).mono ?_;rintro e w4 ⟨SB,sc,rfl,hS4,hsc1,hsc2,hs4⟩;have HS4:=Lib.hid hS4;clear hS4)
  |(go_at_call 112;refine (HLE.out _ _ _ _ HM3.out inferInstance).mono ?_;rintro e w5 ⟨B5,d5,rfl,hI5,hd1,hd2,hs5⟩;have HI5:=Lib.hid hI5;clear hI5;rw [HLL.out] at hd1 |-)
  |(go_at_call 113;refine (HSM.out _).mono ?_;rintro e w6 ⟨g6,B6,k6,e6,rfl,hz6,hs6⟩;have HZ6:=Lib.hid hz6;clear hz6)
  |(at_builtin;obtain ⟨vs,v1,v2,v3⟩:=HI5.out;have HV1:=Lib.hid v1;have HV3:=Lib.hid v3;have hv1:vs.length=n*2:=(by rw [v1,HLL.out]);go_loud (refine wpList_app _ rfl _ _ 104 rfl w6.heap.size 117 (.agg #[.bool false,.slice none 0 0]) 2 32 Tryz.underlying104 infoInt rfl (by omega) (by omega) (some ⟨w6.heap.size,0,none⟩) 1 1 [.bool g6,.slice B6 k6 e6] rfl (Own.new w6 117 2 1 #[.bool g6,.slice B6 k6 e6] rfl (by omega)) _ n d5 vs rfl (v2.ext inferInstance) hv1 (vs_one v1 v3) (by omega) (by simp) ?_);intro A7 c7 w7 hown hg;have HO7:=Lib.hid hown;have hbk:w7.heap[w.heap.size]? =some (.cells #[.int .i64 0,.slice none 0 0,.slice none 0 0] 106 (0,0)):=hg.heap (heap_of_ext (inferInstance:Ext (w.alloc (.cells #[.int .i64 0,.slice none 0 0,.slice none 0 0] 106)) (w6.alloc (.cells #[.bool g6,.slice B6 k6 e6] 117))) (heap_alloc_new w _)) (by decide);have HG7:=Lib.hid hg;have HBK:=Lib.hid hbk;obtain ⟨⟨a0,a1,a2⟩,⟨f0,f1,f2⟩,a4⟩:=blk3 hbk;have tq:Typed w.heap.size 106 w7:=⟨_,_,hbk⟩;clear hbk hg hown v1 v2 v3 hv1))
 have hx7:Ext w w7:=HG7.out.ext inferInstance (by have :=(inferInstance:Ext w w6).size;omega)
 have hxl:Ext w6 (w6.alloc (.cells #[.bool g6,.slice B6 k6 e6] 117)):=inferInstance
 have hI7:IntsV w7 A7 (1::leadF m):=by
  refine ⟨[.bool g6,.slice B6 k6 e6]++vs,by simp [HV1.out];omega,HO7.out.arr,fun i z hz=>?_⟩
  cases i with
  |zero=>
   simp only [List.getElem?_cons_zero] at hz
   injection hz with hz
   subst hz
   exact ⟨g6,B6,k6,e6,rfl,rfl,(HZ6.out.ext hxl).grow HG7.out (by decide)⟩
  |succ i=>
   simp only [List.getElem?_cons_succ] at hz
   obtain ⟨g,B,nn,c,b1,b2,b3⟩:=HV3.out i z hz
   refine ⟨g,B,nn,c,?_,?_,((b3.ext (inferInstance:Ext w5 w6)).ext hxl).grow HG7.out (by decide)⟩
   ·rw [show (i+1)*2=i*2+2 by omega];exact b1
   ·rw [show (i+1)*2+1=i*2+1+2 by omega];exact b2
 have hS7:StV w7 SB ((List.range m.length).map (stM m)):=by
  rw [H1.out]
  exact (HS4.out.ext (inferInstance:Ext w4 w6)).ext (HG7.out.ext hxl (Nat.le_refl _))
 have hc7:=HO7.out.cap
 refine bodyPost_ret (v:= .agg #[.int .i64 n,.slice SB n sc,.slice A7 (1+n) c7]) (by simp [results,Tryz.results64,go_sem,a0,a1,a2]) rfl ⟨SB,sc,A7,c7,by rw [Nat.add_comm],?_,hsc1,hsc2,by omega,hc7.2,Step.of _ _⟩
 exact FrV.oth ⟨hS7,hI7⟩ (Oth.set3 HBK.out 0 1 2 _ _ _) (by decide) (by decide) (by decide) (by decide)
end Go.Proofs.YtijfjailmilkfaaGreat
namespace Go.Proofs.YtijfjailmilkfaaGreat
open Go.RowKit
structure SqI (x:Int) (j:Nat) (R:Int):Prop where
 r0:0<=R
 low:R*R<=x
 high:x<(R+2^j)*(R+2^j)
 dvd:∃Q,R=Q*2^j
theorem SqI.keep {x R:Int} {j:Nat} (h:SqI x (j+1) R) (hl:(R+2^j)*(R+2^j)<=x):SqI x j (R+2^j):=by
 obtain ⟨Q,hQ⟩:=h.dvd
 have hp:(0:Int)<2^j:=Int.pow_pos (by decide)
 have h2:(2:Int)^(j+1)=2^j*2:=Int.pow_succ ..
 refine ⟨by have :=h.r0;omega,hl,?_,⟨2*Q+1,?_⟩⟩
 ·have :=h.high
  rw [h2] at this
  rwa [show R+2^j*2=R+2^j+2^j by omega] at this
 ·rw [hQ,h2];grind
theorem SqI.drop {x R:Int} {j:Nat} (h:SqI x (j+1) R) (hl:x<(R+2^j)*(R+2^j)):SqI x j R:=
 ⟨h.r0,h.low,hl,by obtain ⟨Q,hQ⟩:=h.dvd;exact ⟨2*Q,by rw [hQ,Int.pow_succ];grind⟩⟩
theorem SqI.start {x:Int} {n L:Nat} (h0:0<=x) (h:x<(4294967296:Int)^n) (hL:n<=2*L):SqI x (32*L) 0:=by
 refine ⟨Int.le_refl _,by omega,?_,⟨0,by omega⟩⟩
 have e:(0+(2:Int)^(32*L))*(0+2^(32*L))=(4294967296:Int)^(2*L):=by
  rw [Int.zero_add,<-Int.pow_add,powB_eq]
  congr 1;omega
 rw [e]
 exact Int.lt_of_lt_of_le h (pow_mono_B hL)
theorem SqI.done {x R:Int} (h:SqI x 0 R):0<=R/\R*R<=x/\x<(R+1)*(R+1):=⟨h.r0,h.low,h.high⟩
structure SqM (w wr:World) (g L:Nat) (x:Int) (j:Nat) (R:Int) (p:List Int):Prop where
 sq:SqI x j R
 len:p.length=L
 limbs:Limbs p
 q:val p=R
 row:Row wr g 280 .u32 p
 ext:Ext w wr
theorem andNot_put {q0:Int} {s:Nat} (h0:0<=q0) (hs:s<32) (hz:q0%2^(s+1)=0) (h2:q0+2^s<4294967296):bits .andNot .u32 (q0+2^s) (2^s%4294967296)=q0:=by
 have hp:(2:Nat)^s<2^32:=Nat.pow_lt_pow_right (by omega) hs
 have hp2:((2^s:Nat):Int)=(2:Int)^s:=by simp
 have hp1:((2^(s+1):Nat):Int)=(2:Int)^(s+1):=by simp
 have e1:(2:Int)^s%4294967296=2^s:=Int.emod_eq_of_lt (Int.le_of_lt (Int.pow_pos (by decide))) (by omega)
 obtain ⟨n,rfl⟩:∃n:Nat,q0=n:=⟨q0.toNat,by omega⟩
 have hn:n%2^(s+1)=0:=by
  have :((n%2^(s+1):Nat):Int)=0:=by rw [Int.natCast_emod,hp1];exact hz
  omega
 have ho:=or_bit n s hn
 rw [e1,<-hp2,<-Int.natCast_add,u32_andNot_nat _ _ (by omega) (by omega),<-ho]
 congr 1
 apply Nat.eq_of_testBit_eq
 intro i
 have e2:4294967295-2^s=2^32-(2^s+1):=by omega
 rw [e2,Nat.testBit_and,Nat.testBit_or,Nat.testBit_two_pow_sub_succ hp,Nat.testBit_two_pow]
 by_cases e:s=i
 ·subst e
  have hb:n.testBit s=false:=by
   rw [Nat.testBit_eq_decide_div_mod_eq]
   obtain ⟨a,ha⟩:=Nat.dvd_of_mod_eq_zero hn
   rw [Nat.pow_succ,Nat.mul_assoc] at ha
   rw [ha,Nat.mul_div_cancel_left _ (Nat.pow_pos (by omega))]
   simp
  simp [hb]
 ·simp only [e,decide_false,Bool.or_false,Bool.not_false,Bool.and_true]
  by_cases hi:i<32
  ·simp [hi]
  ·have :n.testBit i=false:=Nat.testBit_lt_two_pow (Nat.lt_of_lt_of_le (show n<2^32 by omega) (Nat.pow_le_pow_right (by omega) (by omega)))
   simp [this]
def RetSqrt (w:World) (x:Int) (e:Ending) (w':World):Prop:=∃g B k d r,e= .returned (.tuple #[.agg #[.bool g,.slice B k d],.bool true])/\IntV w' g B k d r/\0<=r/\r*r<=x/\x<(r+1)*(r+1)/\Step w w'
set_option maxRecDepth 20000 in
theorem rSqrt_ok {w0 w:World} {na:Bool} {A:Option Addr} {n c:Nat} {x:Int} (ha:IntV w0 na A n c x) (h0:0<=x) (h1:n<=1000000) [hx:Ext w0 w]:
  Calls Tryz.prog 183 #[.agg #[.bool na,.slice A n c]] w (RetSqrt w x):=by
 have hsg:=fun W (hh:Ext w0 W)=>rSign_any (w:=W) ha (by omega)
 have htr:=fun W (hh:Ext w0 W)=>rtrimV (w:=W) ha (by omega)
 have HS:=Lib.hid hsg
 have HT:=Lib.hid htr
 have HA:=Lib.hid ha
 have hc0:decide (cmpI x 0<0)=false:=by unfold cmpI;split<;>(try split)<;>simp<;>omega
 have HL:Hid (∀(W:World) B k d,NatV W B k d (x.natAbs:Int)->k<=n/\x<(4294967296:Int)^k):=Lib.hid (fun W B k d hN=>by
  obtain ⟨l,rfl,a1,a2,a3,a4,a5,a6⟩:=hN
  obtain ⟨l',e',b2,b3,b4,-⟩:=ha
  refine ⟨length_le_of_val a2 a3 (by rw [a4,<-b4,e'];exact val_lt b2),?_⟩
  have :=val_lt a2
  rw [a4] at this
  omega)
 obtain ⟨cs,hcs⟩:∃cs,cs=cmpI x 0:=⟨_,rfl⟩
 rw [<-hcs] at hc0 HS
 have HN:Hid (n<=1099511627776):=Lib.hid (by omega)
 clear hsg htr ha hcs
 go_enter Tryz.func183,Tryz.ntmps183
 go_wp2_with (go_at_call 175;refine (HS.out _ inferInstance).mono ?_;rintro e w1 ⟨rfl,hs1⟩;obtain ⟨q1,q2⟩:=box1 w w1 (.bool na) (.slice A n c) 117)
 refine (HT.out _ inferInstance).mono ?_
 rintro e w2 ⟨B2,k2,d2,rfl,hN2,hs2⟩
 obtain ⟨hk1,hk2⟩:=HL.out _ _ _ _ hN2
 obtain ⟨L,hLd⟩:∃L,L=(k2+1) / 2:=⟨_,rfl⟩
 have hL2:k2<=2*L:=by omega
 have hLn:L<=1000000:=by omega
 have hST:=Lib.hid (SqI.start h0 hk2 hL2)
 have hmk:=run_make_ints (P:=Tryz.prog) Tryz.underlying115 Tryz.infoU32 (by omega) (L:Int) (by omega) (by omega)
 have hkb:k2<=1000000:=by omega
 simp only [Int.toNat_natCast] at hmk
 have HMK:=Lib.hid hmk
 have HLD:Hid (((k2:Int)+1) / 2=(L:Int)):=Lib.hid (by omega)
 have hl32:IntKind.i64.wrap (32*(L:Int))=32*(L:Int):=by rw [IntKind.wrap_i64];omega
 clear hN2 hk2 hL2 hLd hk1 h1 hmk
 go_wp2_with fail
 rw [HLD.out,HMK.out]
 go_wp2_with fail
 have hxw2:Ext w w2:=inferInstance
 go_loopw [6] (fun i wr=>∃(j:Nat) (R:Int) (p:List Int),j<=32*L/\i= .int .i64 ((j:Int)-1)/\Hid (SqM w2 wr w2.heap.size L x j R p)) (fun i _=>(intOf i+1).toNat)
 case atStart=>
  refine ⟨32*L,0,List.replicate L 0,by omega,by simp,Lib.hid ⟨hST.out,by simp,?_,by rw [val_replicate],Row.made w2 _ _ _,inferInstance⟩⟩
  intro y hy;rw [List.eq_of_mem_replicate hy];omega
 case round=>
  obtain ⟨j,R,p,hj,rfl,HD⟩:=hrel
  cases j with
  |zero=>
   obtain ⟨d1,d2,d3⟩:=HD.out.sq.done
   have hvq:=HD.out.q
   have hT:=fun W (hh:Ext wr W)=>rMake_any (w:=W) (c:=L) false HD.out.row.ints HD.out.limbs (by rw [HD.out.len];omega) (by omega) (by rw [HD.out.len];omega)
   rw [hvq,HD.out.len] at hT
   have HT2:Hid (∀W,Ext wr W->Calls Tryz.prog 208 #[.bool false,.slice (some ⟨w2.heap.size,0,none⟩) L L] W (RetInt W R)):=Lib.hid hT
   have HXE:=Lib.hid HD.out.ext
   have HDN:=Lib.hid (And.intro d1 (And.intro d2 d3))
   have hxq:Ext ((w.alloc (.cells #[.bool na,.slice A n c] 117)).alloc (.cells #[.bool false,.slice none 0 0] 117)) wr:=(inferInstance:Ext ((w.alloc (.cells #[.bool na,.slice A n c] 117)).alloc (.cells #[.bool false,.slice none 0 0] 117)) w2).trans HXE.out
   clear hT hvq d1 d2 d3 HD
   have HBK:Hid (∀W,Ext wr W->W.heap[w.heap.size+1]? =some (.cells #[.bool false,.slice none 0 0] 117 (0,0))):=Lib.hid (fun W e=>heap_of_ext (hxq.trans e) (by
    have :=heap_alloc_new (w.alloc (.cells #[.bool na,.slice A n c] 117)) (.cells #[.bool false,.slice none 0 0] 117)
    simpa using this))
   have hx1:Ext w wr:=hxw2.trans HXE.out
   go_wp2_with (go_at_call 208;refine (HT2.out _ inferInstance).mono ?_;rintro e w3 ⟨g3,B3,k3,d3,rfl,hz3,hs3⟩;have hb7:=HBK.out w3 inferInstance;obtain ⟨t1,t2,t3,t4,t5⟩:=box_cells2 hb7;have tq:Typed (w.heap.size+1) 117 w3:=⟨_,_,hb7⟩;clear hb7)
   have hx13:Ext w w3:=hx1.trans inferInstance
   exact bodyPost_ret (v:= .tuple #[.agg #[.bool g3,.slice B3 k3 d3],.bool true]) (by simp [results,Tryz.results183,go_sem,t1,t2]) rfl ⟨_,_,_,_,R,rfl,hz3.keeps,HDN.out.1,HDN.out.2.1,HDN.out.2.2,Step.of _ _⟩
  |succ i=>
   rw [show ((i+1:Nat):Int)-1=(i:Int) by omega]
   obtain ⟨q0,hq0,hcq⟩:=HD.out.row.cell (i:=i / 32) (by rw [HD.out.len];omega)
   have hq':=HD.out.limbs.get hq0
   obtain ⟨Q,hQ⟩:=HD.out.sq.dvd
   have hz:=low_zero HD.out.limbs hq0 (s:=i%32) (by omega) (Q:=Q) (by rw [HD.out.q,hQ];congr 2;omega)
   obtain ⟨o1,o2⟩:=or_put hq'.1 hq'.2 (s:=i%32) (by omega) hz
   have an:=andNot_put hq'.1 (s:=i%32) (by omega) hz o2
   have hfq:=HD.out.row.frozen (i / 32)
   have hval1:val (p.set (i / 32) (q0+2^(i%32)))=R+2^i:=by
    rw [val_set hq0,HD.out.q,show q0+2^(i%32)-q0=2^(i%32) by omega,powB_eq,<-Int.pow_add,show 32*(i / 32)+i%32=i by omega]
   have hlim1:Limbs (p.set (i / 32) (q0+2^(i%32))):=HD.out.limbs.set _ (by have :=Int.pow_pos (n:=2) (m:=i%32) (by decide);omega) o2
   have HB:=Lib.hid (And.intro hq0 (And.intro hval1 hlim1))
   have HAN:=Lib.hid an
   have HOR:=Lib.hid o1
   have hszw:=HD.out.row.lt
   obtain ⟨a,hai⟩:∃a,i / 32=a:=⟨_,rfl⟩
   obtain ⟨s,hsi⟩:∃s,i%32=s:=⟨_,rfl⟩
   rw [hai,hsi] at HB
   rw [hsi] at HAN HOR
   rw [hai] at hcq hfq
   have hia:(i:Int) / 32=(a:Int):=by omega
   have his:(i:Int)%32=(s:Int):=by omega
   have htd:Int.tdiv (i:Int) 32=(a:Int):=by rw [Int.tdiv_eq_ediv_of_nonneg (by omega)];exact hia
   have htm:Int.tmod (i:Int) 32=(s:Int):=by rw [Int.tmod_eq_emod_of_nonneg (by omega)];exact his
   have ha0:(0:Int)<=(a:Int):=by omega
   have ha1:(a:Int)<(L:Int):=by omega
   have hs0:(0:Int)<=(s:Int):=by omega
   have hs1':(s:Int)<32:=by omega
   have hwa:IntKind.i64.wrap (a:Int)=(a:Int):=by rw [IntKind.wrap_i64];omega
   have hws:IntKind.i64.wrap (s:Int)=(s:Int):=by rw [IntKind.wrap_i64];omega
   clear hq0 hai hsi hia his o1 o2 an hval1 hlim1 hz hQ hq'
   go_wp2_with fail
   go_region_law fail
   go_wp2_with fail
   rw [HOR.out]
   have hdr:∀W:World,Ext W W.drew:=fun W=>inferInstance
   have hrow1:=(HD.out.row.set a (q0+2^s)).ext (hdr _)
   have hxs:Ext w2 (wr.setCell ⟨w2.heap.size,a,none⟩ (.int .u32 (q0+2^s))).drew:=(HD.out.ext.setCell (p:=⟨w2.heap.size,a,none⟩) (Nat.le_refl _) _).trans (hdr _)
   generalize (wr.setCell ⟨w2.heap.size,a,none⟩ (.int .u32 (q0+2^s))).drew=ws at*
   have HR1:=Lib.hid hrow1
   have HSQ:=Lib.hid HD.out.sq
   have HLP:=Lib.hid HD.out.len
   have HLM:=Lib.hid HD.out.limbs
   have HQP:=Lib.hid HD.out.q
   have HMK1:Hid (∀W,Ext ws W->Calls Tryz.prog 208 #[.bool false,.slice (some ⟨w2.heap.size,0,none⟩) L L] W (RetInt W (R+2^i))):=Lib.hid (fun W e=>by
    have hl:(p.set a (q0+2^s)).length=L:=by rw [List.length_set];exact HLP.out
    have :=rMake_any (w:=W) (c:=L) false HR1.out.ints HB.out.2.2 (by omega) (by omega) (by omega)
    rw [HB.out.2.1,hl] at this
    exact this)
   have HK4:Hid (∀(W:World) g B k d,IntV W g B k d (R+2^i)->k<=L):=Lib.hid (fun W g B k d h=>h.len (by
    have h1:=val_lt HB.out.2.2
    have h2:=val_nonneg HB.out.2.2
    rw [List.length_set,HLP.out,HB.out.2.1] at h1
    rw [HB.out.2.1] at h2
    omega))
   have HK5:Hid (∀(W:World) g B k d,IntV W g B k d ((R+2^i)*(R+2^i))->k<=2*L):=Lib.hid (fun W g B k d h=>h.len (by
    have h1:=val_lt HB.out.2.2
    have h2:=val_nonneg HB.out.2.2
    rw [List.length_set,HLP.out,HB.out.2.1] at h1
    rw [HB.out.2.1] at h2
    rw [show 2*L=L+L by omega,Int.pow_add]
    have h3:=Int.mul_lt_mul h1 (Int.le_of_lt h1) (by have h5:=HSQ.out.r0;have h6:=Int.pow_pos (n:=2) (m:=i) (by decide);omega) (by omega)
    have h4:=Int.mul_nonneg h2 h2
    omega))
   have HMU:Hid (∀(W0 W:World) g B k d,IntV W0 g B k d (R+2^i)->Ext W0 W->Calls Tryz.prog 181 #[.agg #[.bool g,.slice B k d],.agg #[.bool g,.slice B k d]] W (RetInt W ((R+2^i)*(R+2^i)))):=Lib.hid (fun W0 W g B k d h e=>by
    have :=HK4.out _ _ _ _ _ h
    exact rMul_any h h (by omega) (by omega))
   have HCM:Hid (∀(W0 W:World) g B k d,IntV W0 g B k d ((R+2^i)*(R+2^i))->Ext W0 W->Ext w0 W->Calls Tryz.prog 144 #[.agg #[.bool g,.slice B k d],.agg #[.bool na,.slice A n c]] W (RetVal W (.int .i64 (cmpI ((R+2^i)*(R+2^i)) x)))):=Lib.hid (fun W0 W g B k d h e e0=>by
    have :=HK5.out _ _ _ _ _ h
    exact rCmp_any h HA.out (by omega) HN.out)
   have hxq:Ext (w.alloc (.cells #[.bool na,.slice A n c] 117)) ws:=(inferInstance:Ext (w.alloc (.cells #[.bool na,.slice A n c] 117)) w2).trans hxs
   have hxw:Ext w ws:=hxw2.trans hxs
   have hx0:Ext w0 ws:=hx.trans hxw
   clear hrow1
   have HHI:Hid (x<(R+2^i)*(R+2^i)->SqI x i R):=Lib.hid HSQ.out.drop
   have HLO:Hid ((R+2^i)*(R+2^i)<=x->SqI x i (R+2^i)):=Lib.hid HSQ.out.keep
   generalize R+2^i=R1 at*
   clear hcq hfq
   by_cases hgt:x<R1*R1
   ·have hcm:decide (0<cmpI (R1*R1) x)=true:=by rw [cmpI_gt hgt];rfl
    generalize cmpI (R1*R1) x=cm at*
    have HGT:=Lib.hid hgt
    clear hgt
    generalize R1*R1=RR at*
    go_wp2_with (go_at_call 208;refine (HMK1.out _ inferInstance).mono ?_;rintro e w4 ⟨g4,B4,k4,d4,rfl,hz4,hs4⟩;obtain ⟨r1,r2⟩:=box1 w w4 (.bool na) (.slice A n c) 117)
    have hxw4:Ext w w4:=inferInstance
    have hx04:Ext w0 w4:=hx.trans hxw4
    have HKP:Hid (∀W,Ext (w4.alloc (.cells #[.bool g4,.slice B4 k4 d4] 117)) W->W.cell? ⟨w.heap.size,0,none⟩=some (.bool na)/\W.cell? ⟨w.heap.size,1,none⟩=some (.slice A n c)/\W.cell? ⟨w4.heap.size,0,none⟩=some (.bool g4)/\W.cell? ⟨w4.heap.size,1,none⟩=some (.slice B4 k4 d4)):=Lib.hid (fun W e=>by
     have e4:Ext w4 W:=Ext.trans inferInstance e
     have e5:Ext (w.alloc (.cells #[.bool na,.slice A n c] 117)) W:=hxq.trans (Ext.trans inferInstance e4)
     obtain ⟨a1,a2⟩:=box1 w W (.bool na) (.slice A n c) 117
     obtain ⟨a3,a4⟩:=box1 w4 W (.bool g4) (.slice B4 k4 d4) 117
     exact ⟨a1,a2,a3,a4⟩)
    go_region_held3 (fun w'=>w'.cell? ⟨w.heap.size,0,none⟩=some (.bool na)/\w'.cell? ⟨w.heap.size,1,none⟩=some (.slice A n c)/\w'.cell? ⟨w4.heap.size,0,none⟩=some (.bool g4)/\w'.cell? ⟨w4.heap.size,1,none⟩=some (.slice B4 k4 d4))
     (exact HKP.out _ inferInstance)
     ((first
      |(go_at_call 181;refine (HMU.out _ _ _ _ _ _ hz4 inferInstance).mono ?_;rintro e w5 ⟨g5,B5,k5,d5,rfl,hz5,hs5⟩)
      |(go_at_call 144;refine (HCM.out _ _ _ _ _ _ hz5 inferInstance inferInstance).mono ?_;rintro e w6 ⟨rfl,hs6⟩)))
    have hx6:Ext ws w6:=inferInstance
    have hR6:=HR1.out.ext hx6
    have hcq:w6.cell? ⟨w2.heap.size,a,none⟩=some (.int .u32 (q0+2^s)):=by
     obtain ⟨y,hy,hc⟩:=hR6.cell (i:=a) (by rw [List.length_set,HLP.out];omega)
     rw [List.getElem?_set_self (by rw [HLP.out];omega)] at hy
     injection hy with hy
     rw [hy];exact hc
    have hfq:=hR6.frozen a
    have hszq:=hR6.lt
    have HFIN:Hid (∀W:World,Ext (w6.setCell ⟨w2.heap.size,a,none⟩ (.int .u32 q0)) W->SqM w2 W w2.heap.size L x i R p):=Lib.hid (fun W e=>by
     have h1:=(hR6.set a q0).ext e
     have h2:(p.set a (q0+2^s)).set a q0=p:=by
      rw [List.set_set]
      obtain ⟨ha',he⟩:=List.getElem?_eq_some_iff.1 HB.out.1
      rw [<-he,List.set_getElem_self]
     rw [h2] at h1
     exact ⟨HHI.out HGT.out,HLP.out,HLM.out,HQP.out,h1,((hxs.trans hx6).setCell (p:=⟨w2.heap.size,a,none⟩) (Nat.le_refl _) _).trans e⟩)
    clear hR6
    go_wp2_with fail
    go_region_law fail
    all_goals
     go_wp2_with fail
     rw [HAN.out]
     exact ⟨⟨i,R,p,by omega,rfl,Lib.hid (HFIN.out _ inferInstance)⟩,by simp [intOf]<;>omega⟩
   ·have hcm:decide (0<cmpI (R1*R1) x)=false:=by
     unfold cmpI;split<;>(try split)<;>simp<;>omega
    generalize cmpI (R1*R1) x=cm at*
    have HGT:=Lib.hid (show R1*R1<=x by omega)
    clear hgt
    generalize R1*R1=RR at*
    go_wp2_with (go_at_call 208;refine (HMK1.out _ inferInstance).mono ?_;rintro e w4 ⟨g4,B4,k4,d4,rfl,hz4,hs4⟩;obtain ⟨r1,r2⟩:=box1 w w4 (.bool na) (.slice A n c) 117)
    have hxw4:Ext w w4:=inferInstance
    have hx04:Ext w0 w4:=hx.trans hxw4
    have HKP:Hid (∀W,Ext (w4.alloc (.cells #[.bool g4,.slice B4 k4 d4] 117)) W->W.cell? ⟨w.heap.size,0,none⟩=some (.bool na)/\W.cell? ⟨w.heap.size,1,none⟩=some (.slice A n c)/\W.cell? ⟨w4.heap.size,0,none⟩=some (.bool g4)/\W.cell? ⟨w4.heap.size,1,none⟩=some (.slice B4 k4 d4)):=Lib.hid (fun W e=>by
     have e4:Ext w4 W:=Ext.trans inferInstance e
     have e5:Ext (w.alloc (.cells #[.bool na,.slice A n c] 117)) W:=hxq.trans (Ext.trans inferInstance e4)
     obtain ⟨a1,a2⟩:=box1 w W (.bool na) (.slice A n c) 117
     obtain ⟨a3,a4⟩:=box1 w4 W (.bool g4) (.slice B4 k4 d4) 117
     exact ⟨a1,a2,a3,a4⟩)
    go_region_held3 (fun w'=>w'.cell? ⟨w.heap.size,0,none⟩=some (.bool na)/\w'.cell? ⟨w.heap.size,1,none⟩=some (.slice A n c)/\w'.cell? ⟨w4.heap.size,0,none⟩=some (.bool g4)/\w'.cell? ⟨w4.heap.size,1,none⟩=some (.slice B4 k4 d4))
     (exact HKP.out _ inferInstance)
     ((first
      |(go_at_call 181;refine (HMU.out _ _ _ _ _ _ hz4 inferInstance).mono ?_;rintro e w5 ⟨g5,B5,k5,d5,rfl,hz5,hs5⟩)
      |(go_at_call 144;refine (HCM.out _ _ _ _ _ _ hz5 inferInstance inferInstance).mono ?_;rintro e w6 ⟨rfl,hs6⟩)))
    go_wp2_with fail
    have hx6:Ext ws w6:=inferInstance
    exact ⟨⟨i,R1,p.set a (q0+2^s),by omega,rfl,Lib.hid ⟨HLO.out HGT.out,by rw [List.length_set];exact HLP.out,HB.out.2.2,HB.out.2.1,HR1.out.ext (hx6.trans inferInstance),hxs.trans (hx6.trans inferInstance)⟩⟩,by simp [intOf]<;>omega⟩
end Go.Proofs.YtijfjailmilkfaaGreat
namespace Go.Proofs.YtijfjailmilkfaaGreat
open Go.RowKit
open La
/-! ## Integers of at most 200000 bits -/
structure Bb (x:Int):Prop where
 bd:Bd 200000 x
section
variable {w1 w2 w:World} {g h:Bool} {A B:Option Addr} {n k c d:Nat} {x y:Int}
theorem rMulB (ha:IntV w1 g A n c x) (hb:IntV w2 h B k d y) (h1:Bb x) (h2:Bb y) [e1:Ext w1 w] [e2:Ext w2 w]:Calls Tryz.prog 181 #[.agg #[.bool g,.slice A n c],.agg #[.bool h,.slice B k d]] w (RetInt w (x*y)):=
 rMul_any ha hb (by have :=ha.bd h1.bd (by omega);omega) (by have :=hb.bd h2.bd (by omega);omega)
theorem rAddB (ha:IntV w1 g A n c x) (hb:IntV w2 h B k d y) (h1:Bb x) (h2:Bb y) [e1:Ext w1 w] [e2:Ext w2 w]:Calls Tryz.prog 180 #[.agg #[.bool g,.slice A n c],.agg #[.bool h,.slice B k d]] w (RetInt w (x+y)):=
 rAdd_any ha hb (by have :=ha.bd h1.bd (by omega);omega) (by have :=hb.bd h2.bd (by omega);omega)
theorem rSubB (ha:IntV w1 g A n c x) (hb:IntV w2 h B k d y) (h1:Bb x) (h2:Bb y) [e1:Ext w1 w] [e2:Ext w2 w]:Calls Tryz.prog 182 #[.agg #[.bool g,.slice A n c],.agg #[.bool h,.slice B k d]] w (RetInt w (x-y)):=
 rSub_any ha hb (by have :=ha.bd h1.bd (by omega);omega) (by have :=hb.bd h2.bd (by omega);omega)
theorem rQuoB (ha:IntV w1 g A n c x) (hb:IntV w2 h B k d y) (h1:Bb x) (h2:Bb y) (h3:0<y) [e1:Ext w1 w] [e2:Ext w2 w]:Calls Tryz.prog 184 #[.agg #[.bool g,.slice A n c],.agg #[.bool h,.slice B k d]] w (RetInt w (x / y)):=
 rQuo_any ha hb (ha.bd h1.bd (by omega)) (hb.bd h2.bd (by omega)) (by omega)
theorem rNegB (ha:IntV w1 g A n c x) (h1:Bb x) [e1:Ext w1 w]:Calls Tryz.prog 149 #[.agg #[.bool g,.slice A n c]] w (RetInt w (-x)):=
 rNeg_any ha (by have :=ha.bd h1.bd (by omega);omega)
theorem IntV.bdK (ha:IntV w1 g A n c x) {kk:Nat} (hb:Bd kk x):n<=kk / 32+1:=by
 refine ha.len ?_
 have h2:x.natAbs<2^(32*(kk / 32+1)):=Nat.lt_of_lt_of_le hb (Nat.pow_le_pow_right (by omega) (by omega))
 rw [<-pow32] at h2
 have h3:=Int.ofNat_lt.2 h2
 rw [Int.natCast_pow] at h3
 exact h3
theorem IntV.bdLen (ha:IntV w1 g A n c x) (h1:Bb x):n<=1000000:=by
 have :=ha.bdK h1.bd
 omega
def RetSq (w:World) (x:Int) (e:Ending) (w':World):Prop:=∃g B k d,e= .returned (.tuple #[.agg #[.bool g,.slice B k d],.bool true])/\IntV w' g B k d (isq x.toNat:Int)/\Step w w'
theorem rSqrtB (ha:IntV w1 g A n c x) (h1:Bb x) (h0:0<=x) [e1:Ext w1 w]:Calls Tryz.prog 183 #[.agg #[.bool g,.slice A n c]] w (RetSq w x):=by
 refine (rSqrt_ok ha h0 (ha.bdLen h1)).mono ?_
 rintro e w' ⟨g,B,k,d,r,rfl,hz,r0,r1,r2,hs⟩
 refine ⟨g,B,k,d,rfl,?_,hs⟩
 obtain ⟨r',rfl⟩:∃r':Nat,r=r':=⟨r.toNat,by omega⟩
 have e:isq x.toNat=r':=by
  refine isq_unique ?_ ?_
  ·have :((r'*r':Nat):Int)<=x:=by simpa using r1
   omega
  ·have :x<(((r'+1)*(r'+1):Nat):Int):=by simpa using r2
   omega
 rw [e];exact hz
end
theorem bd_isq {x:Int} {k:Nat} (h0:0<=x) (h:Bd k x):Bd k (isq x.toNat:Int):=by
 refine h.le ?_
 have h1:=(isq_spec x.toNat).1
 generalize isq x.toNat=r at*
 have :r<=r*r:=Nat.le_mul_self r
 omega
/-! ## The stage's rows -/
theorem stM_row {m:List (List Int)} {s i:Nat} (hi:i<m.length-s):(stM m s)[i]? =some ((List.range (m.length-s)).map fun j=>fB m s i j):=by
 unfold stM tab
 rw [List.getElem?_map,List.getElem?_range hi]
 rfl
def rowD (m:List (List Int)) (s i:Nat):List Int:=((List.range (m.length-s)).map fun j=>fB m s i j).drop 1
theorem rowD_get {m:List (List Int)} {s i j q:Nat} (h:m.length=s+q+1) (hj:j<q):(rowD m s i).getD j 0=fB m s i (j+1):=by
 unfold rowD
 have h1:1+j<m.length-s:=by omega
 simp only [List.getD_eq_getElem?_getD,List.getElem?_drop,List.getElem?_map,List.getElem?_range h1,Option.map_some,Option.getD_some]
 rw [Nat.add_comm]
theorem rowD_len {m:List (List Int)} {s i q:Nat} (h:m.length=s+q+1):(rowD m s i).length=q:=by
 simp [rowD];omega
theorem rowD_bd {m:List (List Int)} {s i k:Nat} (h:∀i j,Bd k (fB m s i j)):BdL k (rowD m s i):=fun j=>by
 unfold rowD
 rw [List.getD_eq_getElem?_getD,List.getElem?_drop,List.getElem?_map]
 cases (List.range (m.length-s))[1+j]? with
 |none=>exact Bd.zero _
 |some y=>exact h i y
def fD (m:List (List Int)) (s q:Nat) (t:List Int) (i:Nat):Int:=sumR q fun j=>(rowD m s i).getD j 0*t.getD j 0
theorem fD_eq {m:List (List Int)} {s q i:Nat} (t:List Int) (h:m.length=s+q+1):fD m s q t i=sumR q fun j=>fB m s i (j+1)*t.getD j 0:=
 sumR_congr fun j hj=>by rw [rowD_get h hj]
theorem fB_bd {m:List (List Int)} (hL:LLLed m) {s:Nat} (hs:s<m.length) (i j:Nat):Bd 51200 (fB m s i j):=by
 have h8:=hL.len8
 have :=detSel_bd (b:=199) (k:=s) (i:=s+i) (j:=s+j) (m:=m) (by omega) (by omega) hL.bd
 rw [minor_E (fun l hl=>by have :=E_pos hL.pos (show l<m.length by omega);omega)] at this
 exact this
theorem lastE_bd {m:List (List Int)} (hL:LLLed m) {s:Nat} (hs:s<=m.length):Bd 51200 (lastE (ent m) s):=by
 cases s with
 |zero=>exact Bd.one (by omega)
 |succ s=>exact fB_bd hL (s:=s) (by omega) 0 0
theorem bdL_64 {t:List Int} (h:∀a∈t,-9223372036854775808<=a/\a<=9223372036854775807):BdL 64 t:=fun i=>by
 rw [List.getD_eq_getElem?_getD]
 cases e:t[i]? with
 |none=>exact Bd.zero _
 |some y=>have :=h y (List.mem_of_getElem? e);exact Bd.of64 this.1 this.2
structure IvB (m:List (List Int)) (s q:Nat) (t:List Int) (bound:Int):Prop where
 b0:Bb (fB m s 0 0)
 l:Bb (fD m s q t 0)
 d:∀i,Bb (fD m s q t i)
 y:∀i,Bb (t.getD i 0)
 p:∀i,Bb (t.getD i 0*fD m s q t (i+1))
 c:∀k,k<=q->Bb (sumR k fun i=>t.getD i 0*fD m s q t (i+1))
 bo:Bb bound
 ls:Bb (lastE (ent m) s)
 bl:Bb (bound*lastE (ent m) s)
 c2:Bb (fC m s t-bound*lastE (ent m) s)
 ll:Bb (fD m s q t 0*fD m s q t 0)
 bc:Bb (fB m s 0 0*(fC m s t-bound*lastE (ent m) s))
 di:Bb (fD m s q t 0*fD m s q t 0-fB m s 0 0*(fC m s t-bound*lastE (ent m) s))
 fL:fD m s q t 0=fL m s t
 fC:(sumR q fun i=>t.getD i 0*fD m s q t (i+1))=fC m s t
 rt:0<=fD m s q t 0*fD m s q t 0-fB m s 0 0*(Go.Proofs.YtijfjailmilkfaaGreat.fC m s t-bound*lastE (ent m) s)->Bb (isq (fD m s q t 0*fD m s q t 0-fB m s 0 0*(Go.Proofs.YtijfjailmilkfaaGreat.fC m s t-bound*lastE (ent m) s)).toNat:Int)
 df:0<=fD m s q t 0*fD m s q t 0-fB m s 0 0*(Go.Proofs.YtijfjailmilkfaaGreat.fC m s t-bound*lastE (ent m) s)->Bb ((isq (fD m s q t 0*fD m s q t 0-fB m s 0 0*(Go.Proofs.YtijfjailmilkfaaGreat.fC m s t-bound*lastE (ent m) s)).toNat:Int)-fD m s q t 0)
 sm:0<=fD m s q t 0*fD m s q t 0-fB m s 0 0*(Go.Proofs.YtijfjailmilkfaaGreat.fC m s t-bound*lastE (ent m) s)->Bb ((isq (fD m s q t 0*fD m s q t 0-fB m s 0 0*(Go.Proofs.YtijfjailmilkfaaGreat.fC m s t-bound*lastE (ent m) s)).toNat:Int)+fD m s q t 0)
theorem ivB {m:List (List Int)} (hL:LLLed m) {s q:Nat} {t:List Int} {bound:Int} (hq:m.length=s+q+1) (ht:t.length=q) (htb:∀a∈t,-9223372036854775808<=a/\a<=9223372036854775807) (hb0:-9223372036854775808<=bound) (hb1:bound<=9223372036854775807):IvB m s q t bound:=by
 have h8:=hL.len8
 have hB:=fB_bd hL (s:=s) (by omega)
 have hY:=bdL_64 htb
 have hR:∀i,BdL 51200 (rowD m s i):=fun i=>rowD_bd hB
 have hD:∀i,Bd 51272 (fD m s q t i):=fun i=>(dot_bd (k:=51264) (n:=q) (fun j _=>((hR i j).mul (hY j)).mono (by omega)) q (Nat.le_refl _)).mono (by omega)
 have hP:∀i,Bd 51336 (t.getD i 0*fD m s q t (i+1)):=fun i=>((hY i).mul (hD (i+1))).mono (by omega)
 have hC:∀k,k<=q->Bd 51344 (sumR k fun i=>t.getD i 0*fD m s q t (i+1)):=fun k hk=>(dot_bd (k:=51336) (n:=q) (fun j _=>hP j) k hk).mono (by omega)
 have hbo:Bd 64 bound:=Bd.of64 hb0 hb1
 have hls:=lastE_bd hL (s:=s) (by omega)
 have hbl:Bd 51264 (bound*lastE (ent m) s):=(hbo.mul hls).mono (by omega)
 have eL:fD m s q t 0=Go.Proofs.YtijfjailmilkfaaGreat.fL m s t:=by rw [fD_eq t hq];unfold Go.Proofs.YtijfjailmilkfaaGreat.fL;rw [ht]
 have eC:(sumR q fun i=>t.getD i 0*fD m s q t (i+1))=Go.Proofs.YtijfjailmilkfaaGreat.fC m s t:=by
  unfold Go.Proofs.YtijfjailmilkfaaGreat.fC;rw [ht]
  exact sumR_congr fun i _=>by rw [fD_eq t hq]
 have hc2:Bd 51345 (Go.Proofs.YtijfjailmilkfaaGreat.fC m s t-bound*lastE (ent m) s):=by
  rw [<-eC]
  exact (hC q (Nat.le_refl _)).sub (hbl.mono (by omega))
 have hll:Bd 102544 (fD m s q t 0*fD m s q t 0):=((hD 0).mul (hD 0)).mono (by omega)
 have hbc:Bd 102545 (fB m s 0 0*(Go.Proofs.YtijfjailmilkfaaGreat.fC m s t-bound*lastE (ent m) s)):=((hB 0 0).mul hc2).mono (by omega)
 have hdi:Bd 102546 (fD m s q t 0*fD m s q t 0-fB m s 0 0*(Go.Proofs.YtijfjailmilkfaaGreat.fC m s t-bound*lastE (ent m) s)):=(hll.mono (by omega)).sub hbc
 have hrb:=fun (h0:0<=fD m s q t 0*fD m s q t 0-fB m s 0 0*(Go.Proofs.YtijfjailmilkfaaGreat.fC m s t-bound*lastE (ent m) s))=>bd_isq h0 hdi
 have hrt:0<=fD m s q t 0*fD m s q t 0-fB m s 0 0*(Go.Proofs.YtijfjailmilkfaaGreat.fC m s t-bound*lastE (ent m) s)->Bb (isq (fD m s q t 0*fD m s q t 0-fB m s 0 0*(Go.Proofs.YtijfjailmilkfaaGreat.fC m s t-bound*lastE (ent m) s)).toNat:Int):=fun h0=>⟨(hrb h0).mono (by omega)⟩
 have hdf:0<=fD m s q t 0*fD m s q t 0-fB m s 0 0*(Go.Proofs.YtijfjailmilkfaaGreat.fC m s t-bound*lastE (ent m) s)->Bb ((isq (fD m s q t 0*fD m s q t 0-fB m s 0 0*(Go.Proofs.YtijfjailmilkfaaGreat.fC m s t-bound*lastE (ent m) s)).toNat:Int)-fD m s q t 0):=fun h0=>⟨((hrb h0).sub ((hD 0).mono (by omega))).mono (by omega)⟩
 have hsm:0<=fD m s q t 0*fD m s q t 0-fB m s 0 0*(Go.Proofs.YtijfjailmilkfaaGreat.fC m s t-bound*lastE (ent m) s)->Bb ((isq (fD m s q t 0*fD m s q t 0-fB m s 0 0*(Go.Proofs.YtijfjailmilkfaaGreat.fC m s t-bound*lastE (ent m) s)).toNat:Int)+fD m s q t 0):=fun h0=>⟨((hrb h0).add ((hD 0).mono (by omega))).mono (by omega)⟩
 exact ⟨⟨(hB 0 0).mono (by omega)⟩,⟨(hD 0).mono (by omega)⟩,fun i=>⟨(hD i).mono (by omega)⟩,fun i=>⟨(hY i).mono (by omega)⟩,fun i=>⟨(hP i).mono (by omega)⟩,fun k hk=>⟨(hC k hk).mono (by omega)⟩,⟨hbo.mono (by omega)⟩,⟨hls.mono (by omega)⟩,⟨hbl.mono (by omega)⟩,⟨hc2.mono (by omega)⟩,⟨hll.mono (by omega)⟩,⟨hbc.mono (by omega)⟩,⟨((hll.mono (by omega)).sub (hbc.mono (l:=102545) (by omega))).mono (by omega)⟩,eL,eC,hrt,hdf,hsm⟩
end Go.Proofs.YtijfjailmilkfaaGreat
