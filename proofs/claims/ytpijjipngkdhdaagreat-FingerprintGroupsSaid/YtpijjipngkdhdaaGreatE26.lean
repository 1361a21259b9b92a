import Derived.Test.YtpijjipngkdhdaaGreatE25
set_option maxHeartbeats 8000000
set_option linter.unusedVariables false
set_option linter.unusedSimpArgs false
namespace Go.Proofs.YtpijjipngkdhdaaGreat
open Go.RowKit
open La
variable {m:List (List Int)} {b c n:Nat} {A:Option Addr} {w w0:World}
theorem zo5(hM:Mat64 w0 A m)(hc:n<=c)(hc2:c<=9223372036854775807)(hL:LLLed m)(hmn:m.length=n)(h4:n<=4)(hb:b+2*n<=12)[hx:Ext w0 w]:
  Cq 26 #[.slice A n c,.int .i64 b,.int .i64 20000] w (zd0 w m (LstOf m b)):=by
 subst hmn;have hR:=J1 hL.red;exact zoO (w0:=w0) (w:=w) (c:=c) (b:=b) (u:=20000) (P:=LstOf m b) hM.a (by omega) (fun r hr=>Nat.le_of_eq (hR.all r hr)) (fun W e=>zhQ hM hc hc2 hL rfl h4 hb) (fun L h=>h.prf hL (by omega))
theorem zo6(hM:Mat64 w0 A m)(hL:LLLed m)(hmn:m.length=n)(h4:n<=4)(hb:b+2*n<=12)[hx:Ext w0 w]:
  Cq 31 #[.slice A n c,.int .i64 b,.int .i64 20000] w (zz w (.tuple #[.int .i64 ((zP m b false).length:Int),.int .i64 0])):=by
 have zsP:=zbQ hL.red (b:=b) (by omega) (.inl (by omega));have hst:=(zbx hL.red (b:=b) (by omega)).1;have h:=znQ (w:=w) (c:=c) (budget:=20000) (za:=b) hM.a hL hmn (by omega) (by omega) (by omega) (by omega) (by omega);rw[hst.zd,show (2*((zP m b false).length:Int)+1) / 2=((zP m b false).length:Int) by omega]at h;exact h
theorem zhR{L:List (List Int)}(hL:LLLed m)(h:VecList m 0 false L):L=[]:=by
 cases L with
 |nil=>rfl
 |cons y l=>
  obtain⟨h1,h2,h3,-⟩:=(h.mem y).1 (List.mem_cons_self ..);have:=zmZ (qT hL.red) h1 (by omega);omega
set_option maxRecDepth 20000 in
theorem zo7{dim kind za:Int}{NA:Option Addr}{l:List Int}{nc:Nat}{v3:Value}{te:TypeId}(hN:Ints w NA te .i8 l)(h8:I8 l)(hl:l.length<=9223372036854775807)(hd0:0<=dim)(hd1:dim<256)(hk0:0<=kind)(hk1:kind<256)(hb0:0<=za)(hb1:za<256):
  Cq 6 #[.agg #[.int .u8 dim,.int .u8 kind,.slice NA l.length nc,v3],.int .u8 za] w (zz w (.bool true)):=by
 have HAW:Hid (∀W,Cq 23 #[] W (zz W (.bool true))):=Zh (fun W=>zoT);have HG:Hid (∀W,Ext w W->Cq 25 #[.agg #[.int .u8 dim,.int .u8 kind,.slice NA l.length nc,v3],.int .u8 za] W (zd1 W (1+(dim%4).toNat) za)):=Zh (fun W e=>zoZ (hN.ext e) h8 hl hd0 hd1 hk0 hk1 hb0 hb1);have hn1:1<=1+(dim%4).toNat:=by omega
 have hn4:1+(dim%4).toNat<=4:=by omega
 clear hN h8;generalize 1+(dim%4).toNat=n at*
 generalize l.length=ln at*
 have e6:=Int.emod_nonneg za (show 11-2*(n:Int)≠0 by omega);have e7:=Int.emod_lt_of_pos za (show 0<11-2*(n:Int) by omega);unfold zd1 at HG;obtain⟨b,hb⟩:∃b:Nat,za%(11-2*(n:Int))=b:=⟨(za%(11-2*(n:Int))).toNat,by omega⟩;rw[hb]at HG e6 e7;have zsh:b+2*n<=12:=by omega
 have HFS:Hid (∀(m:List (List Int))(W0 W:World)A c,LLLed m->m.length=n->Mat64 W0 A m->n<=c->c<=9223372036854775807->Ext W0 W->Cq 29 #[.slice A n c,.int .i64 0,.int .i64 20000] W (fun e w'=>∃B k,e= .returned (.tuple #[.slice B 0 k,.int .i64 0])/\Step W w')):=Zh (fun m W0 W A c hL hmn hM h1 h2 e=>by
  refine(zo2 (b:=0) hM h1 h2 hL hmn hn4 (by omega)).mono ?_;rintro e w' ⟨B,k,C,L,he,hP,-,-,hk,-,hs⟩;obtain rfl:=zhR hL hP.1;obtain rfl:C=[]:=List.map_eq_nil_iff.1 hk;exact⟨B,k,he,hs⟩)
 have HFP:Hid (∀(m:List (List Int))(W0 W:World)A X c d,LLLed m->m.length=n->Mat64 W0 A m->n<=c->c<=9223372036854775807->Row W X 2 .i64 (List.replicate n 0)->Ext W0 W->Cq 30 #[.slice A n c,.int .i64 0,.int .i64 20000,.slice (some ⟨X,0,none⟩) n d] W (fun e w'=>∃B k,e= .returned (.tuple #[.slice B 0 k,.int .i64 0])/\Step W w')):=Zh (fun m W0 W A X c d hL hmn hM h1 h2 hX e=>by
  refine(zo4 (b:=0) (hM.ext e) h1 h2 hL hmn hn4 (by omega) hX.ints (by simp) (fun y hy=>by rw[List.eq_of_mem_replicate hy];omega)).mono ?_;rintro e w' ⟨B,k,L,he,hP,-,-,hs⟩;obtain rfl:=zhR hL hP;exact⟨B,k,he,hs⟩)
 have HFC:Hid (∀(m:List (List Int))(W0 W:World)A c,LLLed m->m.length=n->Mat64 W0 A m->n<=c->c<=9223372036854775807->Ext W0 W->Cq 26 #[.slice A n c,.int .i64 b,.int .i64 20000] W (fun e w'=>∃g,e= .returned (.tuple #[.slice (some ⟨g,0,none⟩) (zP m b false).length (zP m b false).length,.int .i64 0])/\Step W w')):=Zh (fun m W0 W A c hL hmn hM h1 h2 e=>by
  refine(zo5 hM h1 h2 hL hmn hn4 zsh).mono ?_;rintro e w' ⟨g,L,I,he,hP,-,-,-,hs⟩;rw[zm0 (qT hL.red) (by omega) hP.1]at he;exact⟨g,he,hs⟩)
 have HRC:Hid (∀(m:List (List Int))(W0 W:World)A c,LLLed m->m.length=n->Mat64 W0 A m->Ext W0 W->Cq 31 #[.slice A n c,.int .i64 b,.int .i64 20000] W (zz W (.tuple #[.int .i64 ((zP m b false).length:Int),.int .i64 0]))):=Zh (fun m W0 W A c hL hmn hM e=>zo6 hM hL hmn hn4 zsh);have hmi:=Qt (P:=Tryz.prog) Tryz.underlying31 qF (by omega) (n:Int) (by omega) (by omega);clear hb e6 e7 zsh;go_enter Tryz.func6,Tryz.ntmps6
 go_upto_region 2 with (go_at_call 25;refine(HG.out _ Zi).mono ?_;rintro e w1 ⟨g,m,A1,c1,rfl,-,hLL,zqf,-,hM1,hc1,hc2,hs1⟩;have HM:=Zh hM1;have HR:=Zh (And.intro hLL zqf);clear hM1 hLL zqf)
 obtain⟨k,hk⟩:=Xz ((zP m b false).length);have HS:=Zh (fun W(e:Ext w1 W)=>HFS.out m w1 W A1 c1 HR.out.1 HR.out.2 HM.out hc1 hc2 e);have HC:=Zh (fun W(e:Ext w1 W)=>HFC.out m w1 W A1 c1 HR.out.1 HR.out.2 HM.out hc1 hc2 e);have HN:=Zh (fun W(e:Ext w1 W)=>HRC.out m w1 W A1 c1 HR.out.1 HR.out.2 HM.out e);rw[<-hk]at HC HN;clear hk HFS HFC HRC HG;go_upto_region 3 with (go_at_call 29;refine(HS.out _ Zi).mono ?_;rintro e w2 ⟨B2,k2,rfl,hs2⟩)
 go_upto_region 4 with (go_at_call 30;refine(HFP.out m w1 _ _ _ _ _ HR.out.1 HR.out.2 HM.out hc1 hc2 (Row.made w2 n .i64 2) Zi).mono ?_;rintro e w3 ⟨B3,k3,rfl,hs3⟩)
 go_upto_region 5 with (go_at_call 26;refine(HC.out _ Zi).mono ?_;rintro e w4 ⟨g4,rfl,hs4⟩)
 go_wp2_with (first
  |(go_at_call 31;refine(HN.out _ Zi).mono ?_;rintro e w5 ⟨rfl,hs5⟩)
  |(go_at_call 23;refine(HAW.out _).mono ?_;rintro e w6 ⟨rfl,hs6⟩))
 go_ret;exact⟨rfl,Step.of _ _⟩
end Go.Proofs.YtpijjipngkdhdaaGreat
