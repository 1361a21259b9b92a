/- Mat Lp OwnZ Own64 Mk7 Mk8 Sm11 -/
import Derived.Test.YtjehjkipcaohpaaGreatProg
import Derived.Test.YtjehjkipcaohpaaGreatShelf
import Derived.Test.YtjehjkipcaohpaaGreatV18
set_option maxHeartbeats 8000000
set_option linter.unusedVariables false
set_option linter.unusedSimpArgs false
set_option linter.constructorNameAsVariable false
namespace Go.Proofs.YtjehjkipcaohpaaGreat
open Go.RowKit
/-! ## A row of any values that the call made: known whole -/
section
variable {w w':World} {g:Nat} {e:TypeId} {vs:List Value}
end
/-! ## Calls of function values -/
/-! ## Slices of integers of any size; matrices -/
theorem IntsV.nil (w:World) (A:Option Addr):IntsV w A []:=⟨[],rfl,Arr.nil,fun i z hz=>by simp at hz⟩
theorem MatV.grow {w w':World} {base:Nat} {e:TypeId} {A:Option Addr} {m:List (List Int)} (h:MatV w A m) (hg:Grow base e w w') (h0:87≠e) (h1:148≠e) (h2:244≠e):MatV w' A m:=by
 obtain ⟨vs,a1,a2,a3⟩:=h
 refine ⟨vs,a1,a2.grow hg h0,fun i z hz=>?_⟩
 obtain ⟨B,c,b1,b2,b3⟩:=a3 i z hz
 exact ⟨B,c,b1,b2.grow hg h1 h2,b3⟩
/-! ## Grow, step by step -/
section
variable {w w' w2:World} {base:Nat} {e:TypeId}
end
end Go.Proofs.YtjehjkipcaohpaaGreat
namespace Go.Proofs.YtjehjkipcaohpaaGreat
open La
theorem BdM.mono {k l:Nat} {a:List (List Int)} (h:BdM k a) (hl:k<=l):BdM l a:=fun i j=>(h i j).mono hl
/-! ## The state of the loop -/
/-! ## The start -/
end Go.Proofs.YtjehjkipcaohpaaGreat
namespace Go.Proofs.YtjehjkipcaohpaaGreat
open Go.RowKit
theorem RetOwnI.mat {w w':World} {n:Nat} {a:List (List Int)} {e:Ending} (h:RetOwnI w n a e w'):RetMat w a e w':=by
 obtain ⟨g,hs,c,rfl,h1,h2,h3,h4⟩:=h
 exact ⟨_,c,rfl,h1.mat,h2,h3,h4⟩
section
variable {w w':World} {lo g n rows:Nat} {hs:List (Nat×Nat)} {a:List (List Int)}
end
/-! ## Tables, filled entry by entry -/
section
variable {w w':World} {lo g n rows:Nat} {hs:List Nat} {a:List (List Int)}
end
section
variable {T:Nat} {w w' w2 w0:World}
theorem Only.refl (T:Nat) (w:World):Only T w w:=⟨Below.refl _ _,fun _ _ _=>rfl⟩
end
def RetGm (w:World) (n:Nat) (e:Ending) (w':World):Prop:=∃g a,e= .returned (.slice (some ⟨g,0,none⟩) n n)/\Mat64 w' (some ⟨g,0,none⟩) a/\Gm n a/\Fits64 a/\Ext w w'
set_option maxRecDepth 10000 in
theorem rGram_ok {w:World} {dim kind:Int} {NA:Option Addr} {l:List Int} {nc most:Nat} {v3:Value} {te:TypeId} (hN:Ints w NA te .i8 l) (h8:I8 l) (hl:l.length<=9223372036854775807) (hd0:0<=dim) (hd1:dim<256) (hk0:0<=kind) (hk1:kind<256) (hm1:1<=most) (hm8:most<=8):
  Calls Tryz.prog 58 #[.agg #[.int .u8 dim,.int .u8 kind,.slice NA l.length nc,v3],.int .i64 most] w (RetGm w (1+(dim%most).toNat)):=by
 have hmz:((most:Int)==0)=false:=by simp;omega
 have hdm:=Int.emod_nonneg dim (show (most:Int)≠0 by omega)
 have hdm2:=Int.emod_lt_of_pos dim (show (0:Int)<most by omega)
 have hdt:dim.tmod most=dim%most:=Int.tmod_eq_emod_of_nonneg hd0
 have hdw:IntKind.i64.wrap dim=dim:=IntWalk.i64_in _ (by omega)
 obtain ⟨n,hn⟩:∃n,n=1+(dim%most).toNat:=⟨_,rfl⟩
 rw [<-hn]
 have hne:1+dim%most=(n:Int):=by omega
 have hn1:1<=n:=by omega
 have hn8:n<=8:=by omega
 have hnw:IntKind.i64.wrap (1+dim%most)=(n:Int):=by rw [hne];exact IntWalk.i64_in _ (by omega)
 have hkm:=Int.emod_nonneg kind (show (8:Int)≠0 by omega)
 have hkm2:=Int.emod_lt_of_pos kind (show (0:Int)<8 by omega)
 have hkt:kind.tmod 8=kind%8:=Int.tmod_eq_emod_of_nonneg hk0
 generalize kind%8=kk at*
 have hkw:IntKind.u8.wrap kk=kk:=by rw [IntKind.wrap_u8];omega
 have HN:=Lib.hid hN
 have hT0:TapeAt ((w.alloc (.cells #[.int .u8 dim,.int .u8 kind,.slice NA l.length nc,v3] 24)).alloc (.cells #[.slice NA l.length nc,.int .i64 0] 140)) (w.heap.size+1) l 0:=by
  refine ⟨te,NA,nc,?_,hN.ext inferInstance,fun h0 a ha=>?_⟩
  ·rw [Nat.zero_min]
   have :=heap_alloc_new (w.alloc (.cells #[.int .u8 dim,.int .u8 kind,.slice NA l.length nc,v3] 24)) (.cells #[.slice NA l.length nc,.int .i64 0] 140)
   have e:(w.alloc (.cells #[.int .u8 dim,.int .u8 kind,.slice NA l.length nc,v3] 24)).heap.size=w.heap.size+1:=by simp
   rw [e] at this
   exact this
  ·obtain ⟨b,o,cs,fr,rfl,hb,hc⟩:=hN (by simpa using h0)
   injection ha with ha
   subst ha
   have :=lt_of_heap hb
   simp only;omega
 have hx2:Ext w ((w.alloc (.cells #[.int .u8 dim,.int .u8 kind,.slice NA l.length nc,v3] 24)).alloc (.cells #[.slice NA l.length nc,.int .i64 0] 140)):=inferInstance
 have hsz2:((w.alloc (.cells #[.int .u8 dim,.int .u8 kind,.slice NA l.length nc,v3] 24)).alloc (.cells #[.slice NA l.length nc,.int .i64 0] 140)).heap.size=w.heap.size+2:=by simp
 clear hN hn HN
 go_enter Tryz.func58,Tryz.ntmps58
 go_upto_region 6 with fail
 generalize ((w.alloc (.cells #[.int .u8 dim,.int .u8 kind,.slice NA l.length nc,v3] 24)).alloc (.cells #[.slice NA l.length nc,.int .i64 0] 140))=w2 at*
 have HT0:=Lib.hid hT0
 have HGD:Hid (∀(W:World) g hs a,P64 W (w.heap.size+2) g n n hs a->a.length=n->SmM a->∃s:Bool,(s=true->Gm n a)/\Calls Tryz.prog 100 #[.slice (some ⟨g,0,none⟩) n n] W (RetVal W (.bool s))):=Lib.hid (fun W g hs a hP hL hS=>by
  obtain ⟨s,hs⟩:∃s:Bool,s=true↔ValM a/\detF a<=10000:=⟨@decide (ValM a/\detF a<=10000) (Classical.propDecidable _),by simp⟩
  refine ⟨s,fun hst=>?_,rgood_ok s hs (hP.mat hL (by omega)) hL hn1 hn8 hP.all (hS.fits hP.all) hS.bd⟩
  obtain ⟨⟨h1,h2⟩,h3⟩:=hs.1 hst
  exact val_gm hn1 hn8 hL hP.all (by rw [hL] at h1;exact h1) h2 h3 hS.bd)
 have HDG:Hid (∀(W:World) (k most:Nat),TapeAt W (w.heap.size+1) l k->1<=most->most<=1000->Calls Tryz.prog 99 #[.pointer (some ⟨w.heap.size+1,0,none⟩),.int .i64 n,.int .i64 most] W (RetP64 W (w.heap.size+1) l (k+n) n (diagF l k n most))):=Lib.hid (fun W k most hT h1 h2=>rdiagonal_ok hT h8 hl (by omega) h1 h2)
 have HGN:Hid (∀(W:World) (k:Nat),TapeAt W (w.heap.size+1) l k->Calls Tryz.prog 96 #[.pointer (some ⟨w.heap.size+1,0,none⟩),.int .i64 n] W (RetP64 W (w.heap.size+1) l (k+n+trI n) n (genF l k n))):=Lib.hid (fun W k hT=>rgeneral_ok hT h8 hl (by omega))
 have HCH:Hid (∀(W:World) (f:Bool),Calls Tryz.prog 97 #[.int .i64 n,.bool f] W (RetC64 W n (chainF f n))):=Lib.hid (fun W f=>rchain_ok f (by omega))
 have HBL:Hid (∀(W:World) (k m:Nat),TapeAt W (w.heap.size+1) l k->1<=m->m<=1000->Calls Tryz.prog 98 #[.pointer (some ⟨w.heap.size+1,0,none⟩),.int .i64 m] W (RetTape W (w.heap.size+1) l (k+1) (.int .i64 (l.getD k 0%256%m)))):=Lib.hid (fun W k m hT h1 h2=>rBelow_ok hT h8 hl h1 h2)
 clear hT0 h8 hne hnw hdt hdw hdm hdm2 hd0 hd1 hmz hkt hkw hk0 hk1
 have hcase:(kk=0∨kk=1∨kk=2∨kk=3)∨kk=4∨kk=5∨kk=6∨kk=7:=by omega
 clear hkm hkm2
 have HTail:Hid True:=Lib.hid trivial
 rcases hcase with hc |rfl |rfl |rfl |rfl
 ·rcases hc with rfl |rfl |rfl |rfl
  all_goals
   go_upto_region 19 with (go_at_call 96;refine (HGN.out _ 0 (HT0.out.ext inferInstance)).mono ?_;rintro e w3 ⟨g,hs,rfl,hP,hL,hT3,hO3⟩)
   have hP2:=hP.lower (lo':=w.heap.size+2) (by have :=hx2.size;omega)
   have HSM:=Lib.hid (genF_sm l 0 n)
   obtain ⟨s,hsg,hC⟩:=HGD.out w3 g hs _ hP2 hL HSM.out
   have hxw3:=hO3.ext hx2 (show w.heap.size<=w.heap.size+1 by omega)
   have HC:=Lib.hid hC
   have HS:=Lib.hid hsg
   have HPx:=Lib.hid hP2
   have HLx:=Lib.hid hL
   have HTx:=Lib.hid hT3
   clear hC hsg hP2 hP hL hT3 hO3
   cases s
   ·go_wp2_with (first
     |(go_at_call 100;refine HC.out.mono ?_;rintro e w4 ⟨rfl,hs4⟩)
     |(go_at_call 99;refine (HDG.out w4 _ 2 (HTx.out.ext inferInstance) (by omega) (by omega)).mono ?_;rintro e w5 ⟨g5,hs5,rfl,hP5,hL5,hT5,hO5⟩))
    go_ret
    exact ⟨g5,_,rfl,hP5.mat hL5 (by omega),diagF_gm _ _ _ hn1 hn8,(diagF_sm _ _ _ 2 (by omega) (by omega)).fits hP5.all,hO5.ext inferInstance (by omega)⟩
   ·go_wp2_with (go_at_call 100;refine HC.out.mono ?_;rintro e w4 ⟨rfl,hs4⟩)
    go_ret
    exact ⟨g,_,rfl,(HPx.out.ext inferInstance).mat HLx.out (by omega),HS.out (by simp),HSM.out.fits HPx.out.all,inferInstance⟩
 ·go_upto_region 13 with (go_at_call 97;refine (HCH.out _ _).mono ?_;rintro e w3 ⟨g,hs,rfl,hP,hL,hx3⟩)
  have hP2:=hP.lower (lo':=w.heap.size+2) (by have :=hx2.size;omega)
  have hTa:TapeAt w3 (w.heap.size+1) l 0:=HT0.out.ext inferInstance
  have hO0:Only (w.heap.size+1) w2 w3:=Only.of_ext hx3 (by omega)
  have hTl:=hTa.lt
  have HTa:=Lib.hid hTa
  have HO0:=Lib.hid hO0
  have HP2:=Lib.hid hP2
  have hi0:0<(chainF false n).length:=by rw [hL];omega
  obtain ⟨b,hb,c1,c2,c3,c4,c5⟩:=hP2.hdr (i:=0) hi0
  obtain ⟨d1,d2⟩:=hP2.entry (i:=0) (j:=0) hb hi0 (by omega)
  have hv:=chainF_sm2 false n 0 0
  have HB:Hid (∀W,Ext w3 W->Calls Tryz.prog 98 #[.pointer (some ⟨w.heap.size+1,0,none⟩),.int .i64 ((3:Nat):Int)] W (RetTape W (w.heap.size+1) l 1 (.int .i64 (l.getD 0 0%256%((3:Nat):Int))))):=Lib.hid (fun W e=>HBL.out W 0 3 (hTa.ext e) (by omega) (by omega))
  have hz0:0<=l.getD 0 0%256%((3:Nat):Int)/\l.getD 0 0%256%((3:Nat):Int)<=2:=by omega
  have HBD:=Lib.hid hb
  have HSM0:=Lib.hid (chainF_sm false n)
  have HAL:=Lib.hid hP2.all
  have HLL:=Lib.hid hL
  generalize hve:ent (chainF false n) 0 0=v at*
  have HE:=Lib.hid hve
  clear hve
  generalize l.getD 0 0%256%((3:Nat):Int)=z at*
  generalize chainF false n=a at*
  have hvw:IntKind.i64.wrap (v+z)=v+z:=IntWalk.i64_in _ (by omega)
  have hnz:(0:Int)<n:=by omega
  clear hP hP2 hL hTa hO0 hb
  go_region_with (go_at_call 98;refine (HB.out _ inferInstance).mono ?_;rintro e w5 ⟨rfl,hT5,hO5'⟩;have hO5:Only (w.heap.size+1) w3 w5:=(Only.of_ext inferInstance (Nat.le_of_lt hTl)).trans hO5';obtain ⟨b',e1,f1,f2,f3,f4,-⟩:=(HP2.out.only hO5 (by omega)).hdr (i:=0) hi0;rw [HBD.out] at e1;injection e1 with e1;subst e1;obtain ⟨g1,g2⟩:=(HP2.out.only hO5 (by omega)).entry (i:=0) (j:=0) HBD.out hi0 (by omega);rw [HE.out] at g1)
  all_goals
   have hTl5:w.heap.size+1<w5.heap.size:=hT5.lt
   obtain ⟨wc,hwc⟩:∃x,x=w5.setCell ⟨b,0,none⟩ (.int .i64 (v+z)):=⟨_,rfl⟩
   have hP2:=(HP2.out.only hO5 (by omega)).set HBD.out hi0 (by omega) (v+z)
   have hT3:TapeAt wc (w.heap.size+1) l 1:=by
    rw [hwc]
    exact hT5.only fun x hx=>Below.heap_setCell _ ⟨b,0,none⟩ _ x (by simp;omega)
   have hO3:Only (w.heap.size+1) w2 wc:=by
    rw [hwc]
    exact (HO0.out.trans hO5).setNew (p:=⟨b,0,none⟩) (by simp;omega) (by omega) _
   have hL:(setE a 0 0 (v+z)).length=n:=by rw [setE_len];exact HLL.out
   have HSM:=Lib.hid (HSM0.out.set HAL.out hi0 (by omega) (z:=v+z) (by omega))
   go_upto_region 19 with fail
   rw [<-hwc]
   rw [<-hwc] at hP2
   clear hwc hT5 hO5 hO5' f1 f2 f3 f4 g1 g2
   have hP:=hP2
   obtain ⟨s,hsg,hC⟩:=HGD.out wc g hs _ hP2 hL HSM.out
   have hxw3:=hO3.ext hx2 (show w.heap.size<=w.heap.size+1 by omega)
   have HC:=Lib.hid hC
   have HS:=Lib.hid hsg
   have HPx:=Lib.hid hP2
   have HLx:=Lib.hid hL
   have HTx:=Lib.hid hT3
   clear hC hsg hP2 hP hL hT3 hO3
   cases s
   ·go_wp2_with (first
     |(go_at_call 100;refine HC.out.mono ?_;rintro e w4 ⟨rfl,hs4⟩)
     |(go_at_call 99;refine (HDG.out w4 _ 2 (HTx.out.ext inferInstance) (by omega) (by omega)).mono ?_;rintro e w5 ⟨g5,hs5,rfl,hP5,hL5,hT5,hO5⟩))
    go_ret
    exact ⟨g5,_,rfl,hP5.mat hL5 (by omega),diagF_gm _ _ _ hn1 hn8,(diagF_sm _ _ _ 2 (by omega) (by omega)).fits hP5.all,hO5.ext inferInstance (by omega)⟩
   ·go_wp2_with (go_at_call 100;refine HC.out.mono ?_;rintro e w4 ⟨rfl,hs4⟩)
    go_ret
    exact ⟨g,_,rfl,(HPx.out.ext inferInstance).mat HLx.out (by omega),HS.out (by simp),HSM.out.fits HPx.out.all,inferInstance⟩
 ·go_upto_region 16 with (go_at_call 97;refine (HCH.out _ _).mono ?_;rintro e w3 ⟨g,hs,rfl,hP,hL,hx3⟩)
  have hP2:=hP.lower (lo':=w.heap.size+2) (by have :=hx2.size;omega)
  have hTa:TapeAt w3 (w.heap.size+1) l 0:=HT0.out.ext inferInstance
  have hO0:Only (w.heap.size+1) w2 w3:=Only.of_ext hx3 (by omega)
  have hTl:=hTa.lt
  have HTa:=Lib.hid hTa
  have HO0:=Lib.hid hO0
  have HP2:=Lib.hid hP2
  obtain ⟨p,hp⟩:∃p,p+1=n:=⟨n-1,by omega⟩
  have hnp:(n:Int)-1=(p:Int):=by omega
  have hnpw:IntKind.i64.wrap ((n:Int)-1)=(p:Int):=by rw [hnp];exact IntWalk.i64_in _ (by omega)
  have hi0:p<(chainF true n).length:=by rw [hL];omega
  obtain ⟨b,hb,c1,c2,c3,c4,c5⟩:=hP2.hdr (i:=p) hi0
  obtain ⟨d1,d2⟩:=hP2.entry (i:=p) (j:=p) hb hi0 (by omega)
  have hv:=chainF_sm2 true n p p
  have HB:Hid (∀W,Ext w3 W->Calls Tryz.prog 98 #[.pointer (some ⟨w.heap.size+1,0,none⟩),.int .i64 ((2:Nat):Int)] W (RetTape W (w.heap.size+1) l 1 (.int .i64 (l.getD 0 0%256%((2:Nat):Int))))):=Lib.hid (fun W e=>HBL.out W 0 2 (hTa.ext e) (by omega) (by omega))
  have hz0:0<=l.getD 0 0%256%((2:Nat):Int)/\l.getD 0 0%256%((2:Nat):Int)<=2:=by omega
  have HBD:=Lib.hid hb
  have HSM0:=Lib.hid (chainF_sm true n)
  have HAL:=Lib.hid hP2.all
  have HLL:=Lib.hid hL
  generalize hve:ent (chainF true n) p p=v at*
  have HE:=Lib.hid hve
  clear hve
  generalize l.getD 0 0%256%((2:Nat):Int)=z at*
  generalize chainF true n=a at*
  have hvw:IntKind.i64.wrap (v+z)=v+z:=IntWalk.i64_in _ (by omega)
  have hnz:(p:Int)<n:=by omega
  have hpp:p<n:=by omega
  have hpw:IntKind.i64.wrap (p:Int)=(p:Int):=IntWalk.i64_in _ (by omega)
  clear hP hP2 hL hTa hO0 hb
  go_region_with (go_at_call 98;refine (HB.out _ inferInstance).mono ?_;rintro e w5 ⟨rfl,hT5,hO5'⟩;have hO5:Only (w.heap.size+1) w3 w5:=(Only.of_ext inferInstance (Nat.le_of_lt hTl)).trans hO5';obtain ⟨b',e1,f1,f2,f3,f4,-⟩:=(HP2.out.only hO5 (by omega)).hdr (i:=p) hi0;rw [HBD.out] at e1;injection e1 with e1;subst e1;obtain ⟨g1,g2⟩:=(HP2.out.only hO5 (by omega)).entry (i:=p) (j:=p) HBD.out hi0 (by omega);rw [HE.out] at g1)
  all_goals
   have hTl5:w.heap.size+1<w5.heap.size:=hT5.lt
   obtain ⟨wc,hwc⟩:∃x,x=w5.setCell ⟨b,p,none⟩ (.int .i64 (v+z)):=⟨_,rfl⟩
   have hP2:=(HP2.out.only hO5 (by omega)).set HBD.out hi0 (by omega) (v+z)
   have hT3:TapeAt wc (w.heap.size+1) l 1:=by
    rw [hwc]
    exact hT5.only fun x hx=>Below.heap_setCell _ ⟨b,p,none⟩ _ x (by simp;omega)
   have hO3:Only (w.heap.size+1) w2 wc:=by
    rw [hwc]
    exact (HO0.out.trans hO5).setNew (p:=⟨b,p,none⟩) (by simp;omega) (by omega) _
   have hL:(setE a p p (v+z)).length=n:=by rw [setE_len];exact HLL.out
   have HSM:=Lib.hid (HSM0.out.set HAL.out hi0 (by omega) (z:=v+z) (by omega))
   go_upto_region 19 with fail
   rw [<-hwc]
   rw [<-hwc] at hP2
   clear hwc hT5 hO5 hO5' f1 f2 f3 f4 g1 g2
   have hP:=hP2
   obtain ⟨s,hsg,hC⟩:=HGD.out wc g hs _ hP2 hL HSM.out
   have hxw3:=hO3.ext hx2 (show w.heap.size<=w.heap.size+1 by omega)
   have HC:=Lib.hid hC
   have HS:=Lib.hid hsg
   have HPx:=Lib.hid hP2
   have HLx:=Lib.hid hL
   have HTx:=Lib.hid hT3
   clear hC hsg hP2 hP hL hT3 hO3
   cases s
   ·go_wp2_with (first
     |(go_at_call 100;refine HC.out.mono ?_;rintro e w4 ⟨rfl,hs4⟩)
     |(go_at_call 99;refine (HDG.out w4 _ 2 (HTx.out.ext inferInstance) (by omega) (by omega)).mono ?_;rintro e w5 ⟨g5,hs5,rfl,hP5,hL5,hT5,hO5⟩))
    go_ret
    exact ⟨g5,_,rfl,hP5.mat hL5 (by omega),diagF_gm _ _ _ hn1 hn8,(diagF_sm _ _ _ 2 (by omega) (by omega)).fits hP5.all,hO5.ext inferInstance (by omega)⟩
   ·go_wp2_with (go_at_call 100;refine HC.out.mono ?_;rintro e w4 ⟨rfl,hs4⟩)
    go_ret
    exact ⟨g,_,rfl,(HPx.out.ext inferInstance).mat HLx.out (by omega),HS.out (by simp),HSM.out.fits HPx.out.all,inferInstance⟩
 ·go_upto_region 19 with (go_at_call 99;refine (HDG.out _ 0 9 (HT0.out.ext inferInstance) (by omega) (by omega)).mono ?_;rintro e w3 ⟨g,hs,rfl,hP,hL,hT3,hO3⟩)
  have hP2:=hP.lower (lo':=w.heap.size+2) (by have :=hx2.size;omega)
  have HSM:=Lib.hid (diagF_sm l 0 n 9 (by omega) (by omega))
  obtain ⟨s,hsg,hC⟩:=HGD.out w3 g hs _ hP2 hL HSM.out
  have hxw3:=hO3.ext hx2 (show w.heap.size<=w.heap.size+1 by omega)
  have HC:=Lib.hid hC
  have HS:=Lib.hid hsg
  have HPx:=Lib.hid hP2
  have HLx:=Lib.hid hL
  have HTx:=Lib.hid hT3
  clear hC hsg hP2 hP hL hT3 hO3
  cases s
  ·go_wp2_with (first
    |(go_at_call 100;refine HC.out.mono ?_;rintro e w4 ⟨rfl,hs4⟩)
    |(go_at_call 99;refine (HDG.out w4 _ 2 (HTx.out.ext inferInstance) (by omega) (by omega)).mono ?_;rintro e w5 ⟨g5,hs5,rfl,hP5,hL5,hT5,hO5⟩))
   go_ret
   exact ⟨g5,_,rfl,hP5.mat hL5 (by omega),diagF_gm _ _ _ hn1 hn8,(diagF_sm _ _ _ 2 (by omega) (by omega)).fits hP5.all,hO5.ext inferInstance (by omega)⟩
  ·go_wp2_with (go_at_call 100;refine HC.out.mono ?_;rintro e w4 ⟨rfl,hs4⟩)
   go_ret
   exact ⟨g,_,rfl,(HPx.out.ext inferInstance).mat HLx.out (by omega),HS.out (by simp),HSM.out.fits HPx.out.all,inferInstance⟩
 ·go_upto_region 19 with (go_at_call 99;refine (HDG.out _ 0 1 (HT0.out.ext inferInstance) (by omega) (by omega)).mono ?_;rintro e w3 ⟨g,hs,rfl,hP,hL,hT3,hO3⟩)
  have hP2:=hP.lower (lo':=w.heap.size+2) (by have :=hx2.size;omega)
  have HSM:=Lib.hid (diagF_sm l 0 n 1 (by omega) (by omega))
  obtain ⟨s,hsg,hC⟩:=HGD.out w3 g hs _ hP2 hL HSM.out
  have hxw3:=hO3.ext hx2 (show w.heap.size<=w.heap.size+1 by omega)
  have HC:=Lib.hid hC
  have HS:=Lib.hid hsg
  have HPx:=Lib.hid hP2
  have HLx:=Lib.hid hL
  have HTx:=Lib.hid hT3
  clear hC hsg hP2 hP hL hT3 hO3
  cases s
  ·go_wp2_with (first
    |(go_at_call 100;refine HC.out.mono ?_;rintro e w4 ⟨rfl,hs4⟩)
    |(go_at_call 99;refine (HDG.out w4 _ 2 (HTx.out.ext inferInstance) (by omega) (by omega)).mono ?_;rintro e w5 ⟨g5,hs5,rfl,hP5,hL5,hT5,hO5⟩))
   go_ret
   exact ⟨g5,_,rfl,hP5.mat hL5 (by omega),diagF_gm _ _ _ hn1 hn8,(diagF_sm _ _ _ 2 (by omega) (by omega)).fits hP5.all,hO5.ext inferInstance (by omega)⟩
  ·go_wp2_with (go_at_call 100;refine HC.out.mono ?_;rintro e w4 ⟨rfl,hs4⟩)
   go_ret
   exact ⟨g,_,rfl,(HPx.out.ext inferInstance).mat HLx.out (by omega),HS.out (by simp),HSM.out.fits HPx.out.all,inferInstance⟩
def RetLF (w:World) (n:Nat) (e:Ending) (w':World):Prop:=∃a hh A c,e= .returned (.slice A n c)/\Gm n a/\LLLed hh/\hh.length=n/\Rel n a hh/\Mat64 w' A hh/\n<=c/\c<=9223372036854775807/\Step w w'
theorem rForm_ok {w:World} {dim kind:Int} {NA:Option Addr} {l:List Int} {nc most:Nat} {v3:Value} {te:TypeId} (hN:Ints w NA te .i8 l) (h8:I8 l) (hl:l.length<=9223372036854775807) (hd0:0<=dim) (hd1:dim<256) (hk0:0<=kind) (hk1:kind<256) (hm1:1<=most) (hm4:most<=4):
  Calls Tryz.prog 27 #[.agg #[.int .u8 dim,.int .u8 kind,.slice NA l.length nc,v3],.int .i64 most] w (RetLF w (1+(dim%most).toNat)):=by
 have hdm2:=Int.emod_lt_of_pos dim (show (0:Int)<most by omega)
 have HG:Hid (∀W,Ext w W->Calls Tryz.prog 58 #[.agg #[.int .u8 dim,.int .u8 kind,.slice NA l.length nc,v3],.int .i64 most] W (RetGm W (1+(dim%most).toNat))):=Lib.hid (fun W e=>rGram_ok (hN.ext e) h8 hl hd0 hd1 hk0 hk1 hm1 (by omega))
 have hn4:1+(dim%most).toNat<=4:=by omega
 clear hN h8
 generalize 1+(dim%most).toNat=n at*
 have HOF:Hid (∀(W0 W:World) (A:Option Addr) (c:Nat) (a:List (List Int)),Gm n a->Mat64 W0 A a->Fits64 a->Ext W0 W->Calls Tryz.prog 57 #[.slice A n c] W (RetOwnI W n a)):=Lib.hid (fun W0 W A c a g hM hF e=>by
  have h:=rOf_ok (w:=W) (c:=c) hM n (by have :=g.n1;have :=g.len;omega) (by have :=g.len;omega) g.n1 (by omega) g.all hF
  rwa [g.len] at h)
 go_enter Tryz.func27,Tryz.ntmps27
 go_wp2_with (first
  |(go_at_call 58;refine (HG.out _ inferInstance).mono ?_;rintro e w1 ⟨g,a,rfl,hM,hGm,hF,hs1⟩;have hL:=hGm.len;have HM:=Lib.hid hM;have HGm:=Lib.hid hGm;have HF:=Lib.hid hF;have hs1b:=Step.of _ _ (h:=hs1);clear hM hGm hF hs1)
  |(go_at_call 57;refine (HOF.out _ _ _ _ _ HGm.out HM.out HF.out inferInstance).mono ?_;rintro e w2 ⟨g2,hs2',c2,rfl,hO2,-,-,hs2⟩;rw [hL];have HMV:=Lib.hid hO2.mat;clear hO2)
  |(go_at_call 56;refine (rReduce_ok HMV.out HGm.out hn4).mono ?_;rintro e w3 ⟨hh,A1,c1,A2,c2',rfl,hLL,hlen,hRel,hM3,hc1,hc2,hs3⟩))
 go_ret
 exact ⟨a,hh,A1,c1,rfl,HGm.out,hLL,hlen,hRel,hM3,hc1,hc2,Step.of _ _⟩
def RetSmall (w:World) (n:Nat) (bound:Int) (e:Ending) (w':World):Prop:=∃a hh A c,e= .returned (.tuple #[.slice A n c,.int .i64 (bound%(13-2*n))])/\Gm n a/\LLLed hh/\hh.length=n/\Rel n a hh/\Mat64 w' A hh/\n<=c/\c<=9223372036854775807/\Step w w'
end Go.Proofs.YtjehjkipcaohpaaGreat
