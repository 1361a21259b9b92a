import Derived.Test.YtpijjipngkdhdaaGreatE23
import Derived.Shelf.SlSortCmp.PdqK
set_option maxHeartbeats 8000000
set_option linter.unusedVariables false
set_option linter.unusedSimpArgs false
namespace Go.Proofs.YtpijjipngkdhdaaGreat
open List (getElem?_map mem_map mem_singleton mem_append map_append map_cons map_nil length_take map_map length_map)
variable {p:Addr} {cur:Array Value} {L m:List (List Int)} {a c cap g k mb n ze:Nat} {A:Option Addr} {T:TypeId} {w w' w0:World}
section
open Go.RowKit Go.Shelf Go.Lib Go.Sort
section
variable {α:Type} [Inhabited α] {enc:α->List Value} {k:Nat} {w0:World} {blk off:Nat} {d0:Array α} {cf:α->α->Int}
set_option maxRecDepth 1000000 in
theorem zoD{d:Array α}(aE:∀w,(isAgg 116).run Tryz.prog w= .ok true w)(zE:∀w,(Go.sizeOf 116).run Tryz.prog w= .ok k w)(O:SWO (ltOf cf))(cap n:Nat)(zqp:CmpLays Tryz.prog 152 #[] enc k cf blk off d0.size w0)(R:RowK enc k w0 blk off d0)(hs:d0.size=n)(hd:d.size=n)(S:SWK enc k w0 blk off d w)(hsz:n<1152921504606846976):
  Cq 236 #[.slice (some ⟨blk,off,none⟩) n cap,.int .i64 n,.func (.func 152) #[] #[]] w (qt enc k w0 blk off fun dk=>PermIn 0 n d dk/\SortedIn (ltOf cf) 0 n dk):=by
 have eg:∀args w,(callFunc 152 args).run Tryz.prog w= .ok (.enter 152 args) w:=enters_of Tryz.func152 (by kernel_rfl) rfl;have HI:Hid (∀(W:World)(dk:Array α)(a b:Nat),SWK enc k w0 blk off dk W->dk.size=n->a<=b->b<=n->Cq 294 #[.slice (some ⟨blk,off,none⟩) n cap,.int .i64 a,.int .i64 b,.func (.func 152) #[] #[]] W (qt enc k w0 blk off fun dk'=>PermIn a b dk dk'/\SortedIn (ltOf cf) a b dk')):=Zh (fun W dk a b h1 h2 h3 h4=>by
  have h:=AnyQ.insertionSortCmpFunc_w (P:=Tryz.prog) Tryz.laysIns k aE zE enc cf 152 #[] blk off cap a b d0 dk w0 W eg zqp R (by omega) h1 O h3 (by omega) (by omega);rw[h2]at h;have hh:=insertionSort_holds O dk a b h3 (by omega);exact h.mono fun e w'⟨he,hw⟩=>⟨he,_,hw,hh.1,hh.2⟩)
 have HM:Hid (∀(W:World)(dk:Array α)(a m b:Nat),SWK enc k w0 blk off dk W->dk.size=n->a<m->m<b->b<=n->SortedIn (ltOf cf) a m dk->SortedIn (ltOf cf) m b dk->Cq 295 #[.slice (some ⟨blk,off,none⟩) n cap,.int .i64 a,.int .i64 m,.int .i64 b,.func (.func 152) #[] #[]] W (qt enc k w0 blk off fun dk'=>PermIn a b dk dk'/\SortedIn (ltOf cf) a b dk')):=Zh (fun W dk a m b h1 h2 h3 h4 h5 h6 h7=>by
  have h:=zhz aE zE O cap zqp R (by omega) (b-a+1) a m b dk W (by omega) h3 h4 (by omega) (by omega) h6 h7 h1;rw[hs]at h;exact h)
 have S0:Hid (SWK enc k w0 blk off d w):=S;have HD:=Zh hd;unfold qt at*
 clear S R zqp O hs hd eg aE zE;go_enter Tryz.func236,Tryz.ntmps236;go_wp2_with fail
 go_loopw [7,8] (fun av bv wr=>∃(t a b:Nat) (dk:Array α),av= .int .i64 a/\bv= .int .i64 b/\a<=n/\b<=a+20/\a+20<=b/\Hid (a=t*20)/\dk.size=n/\Hid (SWK enc k w0 blk off dk wr)/\Hid (FstIn (ltOf cf) t dk)/\Hid (PermIn 0 n d dk)) (fun av _ _=>n+20-(intOf av).toNat)
 case atStart=>exact⟨0,0,20,d,rfl,rfl,by omega,by omega,by omega,Zh rfl,HD.out,S0,Zh (fun u hu=>absurd hu (by omega)),Zh (permIn_refl _ _ _)⟩
 case round=>
  clear S0;obtain⟨t,a,b,dk,rfl,rfl,han,hb1,hb2,HT,hds,S1,HF,HP⟩:=hrel;by_cases hlt:b<=n
  ·have hd1:decide ((b:Int)<=(n:Int))=true:=by simp;omega
   have HCC:=Zh (HI.out wr dk a b S1.out hds (by omega) hlt);have hwb:IntKind.i64.wrap ((b:Int)+20)=(b:Int)+20:=Iw;clear HI HM;go_wp2_with (go_at_call 294;refine HCC.out.mono ?_;rintro e w1 ⟨rfl,dk',hS',hP',hs'⟩)
   have HT2:Hid (b=(t+1)*20):=Zh (by have:=HT.out;omega);have hF2:FstIn (ltOf cf) (t+1) dk':=HF.out.step (by rw[<-HT.out];rwa [show b=a+20 by omega]at hP') (by rw[<-HT.out];rwa [show b=a+20 by omega]at hs');exact⟨⟨t+1,b,b+20,dk',rfl,by go_num,hlt,by omega,by omega,HT2,hP'.1.trans hds,Zh hS',Zh hF2,Zh (permIn_trans _ _ _ _ _ HP.out (permIn_mono _ _ _ _ _ _ (by omega) (by omega) (by omega) hP'))⟩,by simp[intOf];omega⟩
  ·have hd1:decide ((b:Int)<=(n:Int))=false:=by simp;omega
   have HCC:=Zh (HI.out wr dk a n S1.out hds han Zr);clear HI;go_wp2_with (go_at_call 294;refine HCC.out.mono ?_;rintro e w1 ⟨rfl,dk1,hS1,hP1,hs1⟩)
   have zsj:dk1.size=n:=hP1.1.trans hds;have HB0:Hid (BlkIn (ltOf cf) 20 n dk1):=Zh (HF.out.end_ (by rw[<-HT.out];exact han) (by rw[<-HT.out];omega) (by rw[<-HT.out];exact hP1) (by rw[<-HT.out];exact hs1));have HP1:Hid (PermIn 0 n d dk1):=Zh (permIn_trans _ _ _ _ _ HP.out (permIn_mono _ _ _ _ _ _ (by omega) (by omega) (by omega) hP1));have HS1:=Zh hS1;clear S1 HF HP hP1 hs1 hS1 HCC HT hds hd1;go_loopw [6,7,8,9] (fun sv _ _ _ wz=>∃(s:Nat) (dz:Array α),sv= .int .i64 s/\20<=s/\s<=2*n+20/\dz.size=n/\Hid (SWK enc k w0 blk off dz wz)/\Hid (BlkIn (ltOf cf) s n dz)/\Hid (PermIn 0 n d dz)) (fun sv _ _ _ _=>n-(intOf sv).toNat)
   case atStart=>exact⟨20,dk1,rfl,by omega,by omega,zsj,HS1,HB0,HP1⟩
   case round=>
    clear HS1 HB0 HP1 zsj;obtain⟨s,dz,rfl,zwk,hsn,hdz,S2,HB,HP⟩:=hrel;by_cases zr5:s<n
    ·have hw2:IntKind.i64.wrap (2*(s:Int))=2*(s:Int):=Iw;have hw3:IntKind.i64.wrap ((s:Int)*2)=(s:Int)*2:=Iw;have hd2:decide ((s:Int)<(n:Int))=true:=by simp;omega
     go_wp2_with fail
     go_loopw [7,8] (fun av bv wy=>∃(t a b:Nat) (dy:Array α),av= .int .i64 a/\bv= .int .i64 b/\a<=n/\b<=a+2*s/\a+2*s<=b/\Hid (a=t*(2*s))/\dy.size=n/\Hid (SWK enc k w0 blk off dy wy)/\Hid (MidIn (ltOf cf) s t n dy)/\Hid (PermIn 0 n d dy)) (fun av _ _=>n+2*s-(intOf av).toNat)
     case atStart=>exact⟨0,0,2*s,dz,rfl,by go_num,by omega,by omega,by omega,Zh (by simp),hdz,S2,Zh (MidIn.zero HB.out),HP⟩
     case round=>
      clear S2 HB HP;obtain⟨t,a,b,dy,rfl,rfl,ztT,hb3,hb4,HT,hdy,S3,HM3,HP3⟩:=hrel;have hwm:IntKind.i64.wrap ((a:Int)+(s:Int))=(a:Int)+(s:Int):=Iw;obtain⟨m,hm⟩:=Xz (a+s);have hmz:(a:Int)+(s:Int)=(m:Int):=by omega
      have hm1:m<=a+s:=by omega
      have hm2:a+s<=m:=by omega
      have HMQ:=Zh hm;clear hm;by_cases zsL:b<=n
      ·have hd3:decide ((b:Int)<=(n:Int))=true:=by simp;omega
       have hpt:=HM3.out.parts (by rw[<-HT.out];omega);rw[<-HT.out,<-HMQ.out,show min (a+2*s) n=b by omega]at hpt;have HCC:=Zh (HM.out wr dy a m b S3.out hdy (by omega) (by omega) zsL hpt.1 hpt.2);have zwl:IntKind.i64.wrap ((b:Int)+2*(s:Int))=(b:Int)+2*(s:Int):=Iw;clear HM hpt;go_wp2_with (go_at_call 295;refine HCC.out.mono ?_;rintro e w2 ⟨rfl,dk',hS',hP',hs'⟩)
       have hT2:b=(t+1)*(2*s):=by rw[Nat.add_mul,Nat.one_mul,<-HT.out];omega
       have hF2:MidIn (ltOf cf) s (t+1) n dk':=HM3.out.step (by rw[<-HT.out];rwa [show b=a+2*s by omega]at hP') (by rw[<-HT.out];rwa [show b=a+2*s by omega]at hs');exact⟨⟨t+1,b,b+2*s,dk',rfl,by go_num,zsL,by omega,by omega,Zh hT2,hP'.1.trans hdy,Zh hS',Zh hF2,Zh (permIn_trans _ _ _ _ _ HP3.out (permIn_mono _ _ _ _ _ _ (by omega) (by omega) (by omega) hP'))⟩,by simp[intOf];omega⟩
      ·have hd3:decide ((b:Int)<=(n:Int))=false:=by simp;omega
       by_cases zth:m<n
       ·have hd4:decide ((m:Int)<(n:Int))=true:=by simp;omega
        have hpt:=HM3.out.parts (by rw[<-HT.out];omega);rw[<-HT.out,<-HMQ.out,show min (a+2*s) n=n by omega]at hpt;have HCC:=Zh (HM.out wr dy a m n S3.out hdy (by omega) zth Zr hpt.1 hpt.2);clear HM hpt;go_wp2_with (go_at_call 295;refine HCC.out.mono ?_;rintro e w2 ⟨rfl,dk',hS',hP',hs'⟩)
        have hF2:BlkIn (ltOf cf) (2*s) n dk':=HM3.out.end_ (by rw[<-HT.out];exact ztT) (by rw[<-HT.out];omega) (by rw[<-HT.out];exact hP') (by rw[<-HT.out];exact hs');exact⟨⟨2*s,dk',by go_num,by omega,by omega,hP'.1.trans hdy,Zh hS',Zh hF2,Zh (permIn_trans _ _ _ _ _ HP3.out (permIn_mono _ _ _ _ _ _ (by omega) (by omega) (by omega) hP'))⟩,by simp[intOf];omega⟩
       ·have hd4:decide ((m:Int)<(n:Int))=false:=by simp;omega
        have hla:=HM3.out.zd (by rw[<-HT.out];omega);rw[<-HT.out]at hla;have hF2:BlkIn (ltOf cf) (2*s) n dy:=HM3.out.end_ (by rw[<-HT.out];exact ztT) (by rw[<-HT.out];omega) (by rw[<-HT.out];exact permIn_refl _ _ _) (by rw[<-HT.out];exact hla);have HF2:=Zh hF2;clear HM hla hF2;go_wp2_with fail
        exact⟨⟨2*s,dy,by go_num,by omega,by omega,hdy,S3,HF2,HP3⟩,by simp[intOf];omega⟩
    ·have hd2:decide ((s:Int)<(n:Int))=false:=by simp;omega
     go_wp2_with fail
     go_end0
     exact⟨rfl,dz,S2.out,HP.out,HB.out.all (by omega)⟩
end
end
section
open Go.RowKit
structure ME where
 i:Int
 A:Option Addr
 c:Nat
 p:List Ct
def ME.enc(x:ME):List Value:=[.int .i64 x.i,.slice x.A x.p.length x.c]
def ME.ok(w:World)(x:ME):Prop:=Arr w x.A 108 (zF x.p)/\x.p.length<=1099511627776
theorem ME.ok.ext{x:ME}(h:x.ok w)(hx:Ext w w'):x.ok w':=⟨h.1.ext hx,h.2⟩
theorem ME.ok.ct{x:ME}(h:x.ok w):CtV w x.A x.p:=⟨_,h.1⟩
theorem GrowD.alloc(w:World)(o:Obj):GrowD w (w.alloc o):=⟨0,#[o],by rw[Sort.alloc_eq_grow];rfl⟩
theorem zoE{x y:ME}(hx:x.ok w)(hy:y.ok w):
  Cq 152 #[.agg #[.int .i64 x.i,.slice x.A x.p.length x.c],.agg #[.int .i64 y.i,.slice y.A y.p.length y.c]] w fun e w'=>e= .returned (.int .i64 (Zc x.p y.p))/\GrowD w w':=by
 have HC:=Zh (fun W(e:Ext w W)=>zdO (w:=W) (c:=x.c) (d:=y.c) (hx.ext e).ct (hy.ext e).ct hx.2 hy.2);obtain⟨xi,xA,xc,xp⟩:=x;obtain⟨yi,yA,yc,yp⟩:=y;simp only at HC|-
 generalize Zc xp yp=r at*
 generalize xp.length=xl at*
 generalize yp.length=yl at*
 have hg2:GrowD w ((w.alloc (.cells #[.int .i64 xi,.slice xA xl xc] 116)).alloc (.cells #[.int .i64 yi,.slice yA yl yc] 116)):=(GrowD.alloc w _).trans (GrowD.alloc _ _);clear hx hy;go_enter Tryz.func152,Tryz.ntmps152;go_wp2_with (go_at_call 79;refine(HC.out _ Zi).mono ?_;rintro e w1 ⟨rfl,hG⟩)
 go_ret;exact⟨rfl,hg2.trans hG⟩
def MRow(w:World)(g:Nat)(els:List ME):Prop:=∃cur,w.heap[g]? =some (.cells cur 116 (0,0))/\∀(i:Nat)(x:ME),els[i]? =some x->cur[2*i]? =some (.int .i64 x.i)/\cur[2*i+1]? =some (.slice x.A x.p.length x.c)
structure MEw(w:World)where
 val:ME
 ok:val.ok w
instance (w:World):Inhabited (MEw w):=⟨⟨⟨0,none,0,[]⟩,Arr.nil,by simp⟩⟩
def jJ(w:World)(x:MEw w):List Value:=x.val.enc
def cfM(w:World)(x y:MEw w):Int:=Zc x.val.p y.val.p
theorem zoF(w:World):Sort.SWO (ltOf (cfM w)) where
 irrefl x:=by
  have:=(zdK x.1.p x.1.p).2 rfl;simp[ltOf,cfM,this]
 trans x y z h1 h2:=by
  have h1:Zc x.1.p y.1.p<0:=of_decide_eq_true h1;have h2:Zc y.1.p z.1.p<0:=of_decide_eq_true h2;have a1:zM x.1.p y.1.p=true:=by rw[<-zaY];exact decide_eq_true h1
  have a2:zM y.1.p z.1.p=true:=by rw[<-zaY];exact decide_eq_true h2
  have a3:=j4 a1 a2;rw[<-zaY]at a3;exact a3
 ntrans x y z h1 h2:=by
  have h1:¬Zc x.1.p y.1.p<0:=of_decide_eq_false h1;have h2:¬Zc y.1.p z.1.p<0:=of_decide_eq_false h2;refine decide_eq_false (fun(h3:Zc x.1.p z.1.p<0)=>?_);have a3:zM x.1.p z.1.p=true:=by rw[<-zaY];exact decide_eq_true h3
  have b1:x.1.p=y.1.p∨zM y.1.p x.1.p=true:=by rcases zaX x.1.p y.1.p with ⟨-,h⟩|⟨h,-⟩|⟨h,-⟩<;>first|exact .inl h|exact .inr h|omega
  have b2:y.1.p=z.1.p∨zM z.1.p y.1.p=true:=by rcases zaX y.1.p z.1.p with ⟨-,h⟩|⟨h,-⟩|⟨h,-⟩<;>first|exact .inl h|exact .inr h|omega
  have no:∀a:List Ct,zM a a=true->False:=fun a h=>by rw[j3]at h;cases h
  rcases b1 with b1|b1
  ·rcases b2 with b2|b2
   ·rw[b1,b2]at a3;exact no _ a3
   ·rw[b1]at a3;exact no _ (j4 a3 b2)
  ·rcases b2 with b2|b2
   ·rw[<-b2]at a3;exact no _ (j4 a3 b1)
   ·exact no _ (j4 a3 (j4 b2 b1))
theorem ME.ok_sort{α:Type}[Inhabited α](enc:α->List Value)(k:Nat){m:Nat}{d:Array α}{os:Array Obj}(hg:w.heap[g]? =some (.cells cur 116 (0,0))){x:ME}(h:x.ok w):x.ok (sortWorldK enc k w g 0 m d os):=by
 refine⟨h.1.keep fun b cs fr hb=>zaF enc k w g m d os (zw hb) (fun hh=>?_),h.2⟩;subst hh;rw[hg]at hb;injection hb with hb
 injection hb with _ he
 exact absurd he (by decide)
def za2(w:World)(g:Nat)(els:List ME)(e:Ending)(w':World):Prop:=e= .returned (.tuple #[])/\∃els':List ME,els'.Perm els/\els'.Pairwise (fun x y=>¬Zc y.p x.p<0)/\MRow w' g els'/\(∀x∈els',x.ok w')/\Same g w w'
theorem zoG{els:List ME}(zqe:MRow w g els)(hok:∀x∈els,x.ok w)(hn:els.length<1152921504606846976):
  Cq 236 #[.slice (some ⟨g,0,none⟩) els.length cap,.int .i64 els.length,.func (.func 152) #[] #[]] w (za2 w g els):=by
 unfold za2;obtain⟨cur,hg,zqP⟩:=zqe;obtain⟨D,hD⟩:∃D:List (MEw w),D.map MEw.val=els:=⟨els.pmap MEw.mk hok,by rw[List.map_pmap];simp⟩;have hDl:D.length=els.length:=by rw[<-hD];simp
 have zqp:CmpLays Tryz.prog 152 #[] (jJ w) 2 (cfM w) g 0 D.toArray.size w:=fun m os dk _ x y=>by
  have hx:=ME.ok_sort (jJ w) 2 (m:=m) (d:=dk) (os:=os) hg x.ok;have hy:=ME.ok_sort (jJ w) 2 (m:=m) (d:=dk) (os:=os) hg y.ok;exact zoE hx hy
 have hH:Sort.HoldsK (jJ w) 2 w g 0 D.toArray:=fun j hj=>by
  rw[Sort.size_flatK]at hj;have hj2:j / 2<D.length:=by simp at hj;omega
  obtain⟨x,hx⟩:∃x,D[j / 2]? =some x:=⟨_,Ze hj2⟩;have hel:els[j / 2]? =some x.val:=by rw[<-hD,getElem?_map,hx];rfl
  have hc:=zqP (j / 2) _ hel;have e1:(Sort.flatK (jJ w) 2 D.toArray)[j]! =(x.val.enc)[j%2]! :=by
   rw[Sort.get_flatK _ _ _ _ (by simpa using hj)];have:D.toArray[j / 2]! =x:=by simp[hx]
   rw[this];rfl
  refine⟨?_,by simp[World.frozen?,hg]⟩;rw[id,e1,Nat.zero_add,cell_of_row w g j _ _ _ hg];rcases Nat.mod_two_eq_zero_or_one j with h0|h0
  ·rw[h0];have:=hc.1;rw[show 2*(j / 2)=j by omega]at this;exact this
  ·rw[h0];have:=hc.2;rw[show 2*(j / 2)+1=j by omega]at this;exact this
 have e0:D.toArray.size=els.length:=by simpa using hDl
 have h:=zoD (k:=2) (w:=w) (w0:=w) (d0:=D.toArray) (d:=D.toArray) Tryz.isAgg116 Tryz.sizeOf116 (zoF w) cap els.length zqp ⟨fun x=>rfl,fun x v hv=>by
   simp only[jJ,ME.enc,List.mem_cons,List.not_mem_nil,or_false]at hv;rcases hv with rfl|rfl<;>rfl,hH,zw hg⟩ e0 e0 (SWK.start hH) (by omega)
 refine h.mono ?_;rintro e w' ⟨he,d',⟨n,os,hw⟩,⟨hp1,-,hp2⟩,hs⟩;rw[e0]at hp1;refine⟨he,d'.toList.map MEw.val,?_,?_,?_,?_,?_⟩
 ·have e1:d'.extract 0 els.length=d':=by apply Array.ext';simp;rw[List.take_of_length_le (by simp;omega)]
  have e2:(D.toArray).extract 0 els.length=D.toArray:=by rw[<-e0];exact Array.extract_size
  rw[e1,e2]at hp2;rw[<-hD];exact hp2.map _
 ·rw[List.pairwise_map,List.pairwise_iff_getElem];intro i j hi hj hij;have:=hs i j (Nat.zero_le _) hij (by simp at hj;omega);have e3:d'[j]! =d'.toList[j]:=by simp at hj;simp[hj]
  have e4:d'[i]! =d'.toList[i]:=by simp at hi;simp[hi]
  rw[e3,e4]at this;exact of_decide_eq_false this
 ·refine⟨_,by rw[hw];exact zfp (jJ w) 2 w g n d' os hg,fun i x hx=>?_⟩;rw[getElem?_map]at hx;obtain⟨y,hy,rfl⟩:∃y,d'.toList[i]? =some y/\y.val=x:=by
   cases hh:d'.toList[i]? with
   |none=>rw[hh]at hx;cases hx
   |some y=>rw[hh]at hx;exact⟨y,rfl,by simpa using hx⟩
  have hi:i<d'.size:=by simpa using (Zg.1 hy).1
  have hdi:d'[i]! =y:=by
   have:=(Zg.1 hy).2;simp[hi];simpa using this
  have hcs:2*i+1<cur.size:=by
   have zqf:i<els.length:=by omega
   have:=(zqP i els[i] (by simp[zqf])).2;exact(Array.getElem?_eq_some_iff.1 this).1
  have key:∀t,t<2->(Sort.putCells id 0 (Sort.flatK (jJ w) 2 d') cur)[2*i+t]? =some ((y.val.enc)[t]!):=fun t ht=>by
   unfold Sort.putCells;rw[Array.getElem?_mapIdx,Array.getElem?_eq_getElem (by omega)];simp only[Option.map_some];rw[if_pos (by rw[Sort.size_flatK];omega),Nat.sub_zero,id,Sort.get_flatK _ _ _ _ (by omega),show (2*i+t) / 2=i by omega,show (2*i+t)%2=t by omega,hdi];rfl
  exact⟨key 0 (by omega),key 1 (by omega)⟩
 ·intro x hx;obtain⟨y,-,rfl⟩:=mem_map.1 hx;rw[hw];exact ME.ok_sort (jJ w) 2 hg y.ok
 ·rw[hw];exact⟨fun b hb hne=>zaF _ _ w g n d' os hb hne,fun B hB=>zfq _ _ w g n d' os hB (zw hg)⟩
theorem zoH{els:List ME}(zqe:MRow w g els)(hok:∀x∈els,x.ok w)(hl:els.length=n)(hn:n<1152921504606846976):
  Cq 151 #[.slice (some ⟨g,0,none⟩) n cap,.func (.func 152) #[] #[]] w (za2 w g els):=by
 have hi:=zoG (cap:=cap) zqe hok (by omega);rw[hl]at hi;have HI:=Zh hi;unfold za2 at*
 clear zqe hok hl hi;go_enter Tryz.func151,Tryz.ntmps151;go_wp2_with (go_at_call 236;refine HI.out.mono ?_;rintro e w1 ⟨rfl,hp⟩)
 go_end0
 exact⟨rfl,hp⟩
def MemOK(m L:List (List Int))(a k:Nat)(els:List ME):Prop:=
 (k=a+1/\els=[⟨a,none,0,[]⟩])∨(a+1<k/\(els.map fun x=>(x.i,x.p)).Perm ((List.range (k-a)).map fun j=>(((a+j:Nat):Int),zA m L (L.getD (a+j) [])))/\els.Pairwise (fun x y=>¬Zc y.p x.p<0))
def zaj(w:World)(mb:Nat)(m L:List (List Int))(a k:Nat)(e:Ending)(w':World):Prop:=
 ∃g c els,e= .returned (.slice (some ⟨g,0,none⟩) (List.length els) c)/\w.heap.size<=g/\MRow w' g els/\(∀x∈els,x.ok w')/\MapC w' mb 0 []/\Fm mb w w'/\MemOK m L a k els
def meV(x:ME):List Value:=[.int .i64 x.i,.slice x.A x.p.length x.c]
def Q5(l:List ME):List Value:=l.flatMap meV
theorem zoI(p q:List ME):Q5 (p++q)=Q5 p++Q5 q:=List.flatMap_append
theorem zhA:∀(p:List ME)(i:Nat)(c:ME),p[i]? =some c->(Q5 p)[2*i]? =some (.int .i64 c.i)/\(Q5 p)[2*i+1]? =some (.slice c.A c.p.length c.c)
 |[],i,c,h=>by simp at h
 |y::l,0,c,h=>by simp at h;subst h;exact⟨rfl,rfl⟩
 |y::l,i+1,c,h=>by
  have:=zhA l i c (by simpa using h);rw[show 2*(i+1)=2*i+2 by omega];exact this
theorem zhB:(Tryz.prog.info? 116).map (fun i=>(i.zero,i.size,i.bytes))=some (some (.agg #[.int .i64 0,.slice none 0 0]),2,32):=by kernel_rfl
theorem zoJ{els:List ME}(ho:Own w ze 116 2 A n c (Q5 els))(h0:0<n):∃g:Nat,A=some ⟨g,0,none⟩/\ze<=g/\MRow w g els:=by
 rcases ho.2 with ⟨-,hn⟩|⟨g,cap,cur,hv,h1,h2,h3,h4,h5,h6⟩
 ·omega
 ·injection hv with z1 _ z3
  refine⟨g,z1,h1,cur,h2,fun i x hx=>?_⟩;obtain⟨f0,f1⟩:=zhA els i x hx;have key:∀(j:Nat)(u:Value),(Q5 els)[j]? =some u->cur[j]? =some u:=fun j u hu=>by
   rw[<-h6,List.getElem?_take]at hu;split at hu
   ·simpa using hu
   ·cases hu
  exact⟨key _ _ f0,key _ _ f1⟩
theorem Fm.meok{L:List Kc}(h:Fm mb w w')(hm:MapC w mb n L){x:ME}(hx:x.ok w):x.ok w':=⟨h.arr hm hx.1,hx.2⟩
set_option maxRecDepth 20000 in
theorem zhC{LA NA DA:Option Addr}{lc nc dc q:Nat}(hS:SysV w0 m L LA NA DA)(hq:L.length=q)(hq8:q<=100000)(hdc:q<=dc)(ztN:dc<=9223372036854775807)(hmn:m.length=n)(hn:n<=1000)
  (zrV:(L.map (zi m)).Pairwise (·<=·)) (zqe:∀y∈L,y.length=n) (hnb:∀y∈L,0<=zi m y/\zi m y<=4611686018427387904) (hib:∀x∈L,∀y∈L,-4611686018427387904<=zy (zN m y) x/\zy (zN m y) x<=4611686018427387904)
  (hmb:w0.heap.size<=mb) (hM:MapC w mb 0 []) (hak:a<k) (hkq:k<=q) [hx:Ext w0 w]:
  Cq 78 #[.agg #[.slice LA q lc,.slice NA q nc,.slice DA q dc],.int .i64 a,.int .i64 k,.map (some mb)] w (zaj w mb m L a k):=by
 have zve:=hM.lt;have hw1:IntKind.i64.wrap ((a:Int)+1)=(a:Int)+1:=Iw;obtain⟨w1,zry⟩:=Xz (w.alloc (.cells #[.slice LA q lc,.slice NA q nc,.slice DA q dc] 110));have hbx:w1.heap[w.heap.size]? =some (.cells #[.slice LA q lc,.slice NA q nc,.slice DA q dc] 110 (0,0)):=by rw[zry];exact heap_alloc_new w _
 have hx1:Ext w w1:=by rw[zry];infer_instance
 have hs1:w1.heap.size=w.heap.size+1:=by rw[zry];simp
 have HM1:Hid (MapC w1 mb 0 []):=Zh (hM.ext hx1);have zrn:Ext w0 w1:=hx.trans hx1;have HBX:=Zh hbx;have HS:=Zh hS;have HPR:Hid (∀(W:World)(XA:Option Addr)(xc:Nat)(x:List Int),x∈L->IntsA w0 XA x->Ext w0 W->MapC W mb 0 []->Cq 81 #[.agg #[.slice LA q lc,.slice NA q nc,.slice DA q dc],.slice XA n xc,.map (some mb)] W (jt W mb (zA m L x))):=Zh (fun W XA xc x hxL hX e hMC=>
  zdS (w0:=w0) (w:=W) hS hq hq8 hdc ztN hmn hn zrV hX (zqe x hxL) hnb (hib x hxL) hmb hMC)
 have HQ:=Zh hq;have zpa:=Zh zqe;unfold zaj;clear hS hq zrV zqe hnb hib hM hbx;by_cases hk1:k=a+1
 ·have hd:((k:Int)==(a:Int)+1)=true:=by simp[hk1]
  have HK1:=Zh hk1;clear hk1;go_enter Tryz.func78,Tryz.ntmps78;go_wp2_with fail
  go_ret;have hxx:Ext w1 (w1.alloc (.cells #[.int .i64 a,.slice none 0 0] 116)):=Zi;rw[<-zry];refine⟨w.heap.size+1,1,[⟨a,none,0,[]⟩],rfl,by omega,⟨_,by rw[<-hs1];exact heap_alloc_new w1 _,fun i x hi=>?_⟩,fun x hxm=>?_,HM1.out.ext hxx,Fm.of_ext (hx1.trans hxx),.inl ⟨HK1.out,rfl⟩⟩
  ·rcases i with _|i
   ·simp at hi;subst hi;exact⟨rfl,rfl⟩
   ·simp at hi
  ·obtain rfl:=mem_singleton.1 hxm;exact⟨Arr.nil,by simp⟩
 ·have hd:((k:Int)==(a:Int)+1)=false:=by simp;omega
  obtain⟨l,hl⟩:=Xz (k-a);have hl2:2<=l:=by omega
  have hw2:IntKind.i64.wrap ((k:Int)-(a:Int))=(l:Int):=by rw[Iw];omega
  obtain⟨i0,hi1,hz,hs,hby⟩:=info_parts zhB;obtain⟨w2,hmk,zrU,zrz⟩:=run_make_own (P:=Tryz.prog) w1 w1.heap.size 117 116 i0 _ 2 Tryz.underlying117 hi1 hz hs .i64 .i64 l (by rw[hby];omega) (by simp[maxLen];omega) Zr;have zq9:Ext w1 w2:=⟨⟨zrz.os,zrz.tape,zrz.output,zrz.size,fun b hb=>zrz.block b hb (by simp)⟩⟩;have zp4:Hid (Own w2 w1.heap.size 116 2 (some ⟨w1.heap.size,0,none⟩) 0 l []):=Zh zrU;have HHL:=Zh hl
  have HW1:=Zh zry;have HS1:=Zh hs1;clear zrU zrz hl hi1 hz hs hby zry hs1;go_enter Tryz.func78,Tryz.ntmps78;go_upto_region 3 with fail
  rw[<-HW1.out];clear HW1;go_upto_region 5 with fail
  have zr4:w1.heap.size<=w2.heap.size:=zq9.size;have HF2:Hid (Fm mb w1 w2):=Zh (Fm.of_ext zq9);have HM2:Hid (MapC w2 mb 0 []):=Zh (HM1.out.ext zq9);clear hmk;go_loopw [9,10] (fun ls i wr=>∃(j:Nat) (A:Option Addr) (c:Nat) (els:List ME),j<=l/\i= .int .i64 ((a:Int)+(j:Int))/\ls= .slice A j c/\Hid (Own wr w1.heap.size 116 2 A j c (Q5 els))/\Hid ((els.map fun x=>(x.i,x.p))=(List.range j).map fun r=>(((a+r:Nat):Int),zA m L (L.getD (a+r) [])))/\Hid (∀x∈els,x.ok wr)/\Hid (MapC wr mb 0 [])/\Hid (Fm mb w1 wr)) (fun _ i _=>k-(intOf i).toNat)
  case atStart=>exact⟨0,_,l,[],by omega,by simp,rfl,zp4,Zh rfl,Zh (fun x hx=>by simp at hx),HM2,HF2⟩
  case round=>
   obtain⟨j,A,c,els,hj,rfl,rfl,HO,HEL,HOK,HM,HF⟩:=hrel;have zq5:Ext w0 wr:=Fm.ext0 zrn hmb HF.out;have hsr:=HF.out.size;by_cases hjl:j<l
   ·obtain⟨y,hy⟩:∃y,L[a+j]? =some y:=⟨_,Ze (by rw[HQ.out];have:=HHL.out;omega)⟩;obtain⟨bl,ol,B,cb,rfl,e0,hB,e2,e3,e4⟩:=HS.out.list.a.at_ hy;rw[zpa.out y (Zm hy)]at e0 e2;have oL:Old bl w0:=⟨e4⟩;have e1:wr.cell? ⟨bl,ol+(a+j),none⟩=some (.slice B n cb):=(zg w0).trans e0;obtain⟨⟨c1,c2,c3⟩,-,c4⟩:=qs (HF.out.cells HM1.out HBX.out);have oB:Old w.heap.size wr:=⟨c4⟩;have oLr:Old bl wr:=⟨Nat.lt_of_lt_of_le e4 zq5.size⟩
    have HPC:=Zh (HPR.out wr.drew B cb y (Zm hy) hB (zq5.trans Zi) (HM.out.ext Zi));have hgd:L.getD (a+j) []=y:=by simp[List.getD_eq_getElem?_getD,hy]
    obtain⟨p,hp⟩:=Xz (zA m L y);have hpl:p.length<=100000:=by
     have:=zdR m L y;rw[hp];rw[HQ.out]at this;omega
    rw[<-hp]at HPC;have HP:=Zh hp;have HGD:=Zh hgd;have HMD:Hid (MapC wr.drew mb 0 []):=Zh (HM.out.ext Zi);unfold jt at HPC;obtain⟨pl,hpe⟩:=Yz p.length;rw[hpe]at HPC hpl;have HPE:=Zh hpe;have zwm:a+j<q:=by have:=HHL.out;omega
    have zvh:a+j<k:=by have:=HHL.out;omega
    have hi0:(0:Int)<=(a:Int)+(j:Int):=by omega
    have hi1:(a:Int)+(j:Int)<(q:Int):=by omega
    have hi2:((a:Int)+(j:Int)).toNat=a+j:=by omega
    have hi3:((a:Int)+(j:Int))<(k:Int):=by omega
    clear hy hB e0 hgd hp hpe;go_wp2_with fail
    go_region_law (first
     |((refine QJ _ rfl (.tmp 28) (.tmp 39) 117 rfl w1.heap.size 116 (.agg #[.int .i64 0,.slice none 0 0]) 2 32 Tryz.underlying117 zhB rfl (by decide) (by decide) A j c (Q5 els) (by simp[Act.eval]) (HO5.out.ext Zi) (some ⟨w5.heap.size,0,none⟩) 1 1 [.int .i64 ((a:Int)+(j:Int)),.slice A5 pl c5] (by simp[Act.eval]) (Arr.new w5 116 #[.int .i64 ((a:Int)+(j:Int)),.slice A5 pl c5]) rfl (by simp[Value.oneCell']) (by omega) (by simp;omega) ?_);intro A6 c6 w6 zqm hg6)
     |(go_simp;go_at_call 81;refine HPC.out.mono ?_;rintro e w5 ⟨A5,c5,rfl,hO5,hM5,hF5⟩;have HO5:=Zh (hF5.own HMD.out (HO.out.ext (Zi:Ext wr wr.drew)));have zp5:=Zh hO5;have HM5:=Zh hM5;have HF5:=Zh hF5;have hs5:=hF5.size;have zwn:wr.heap.size<=w5.heap.size:=hs5;clear hO5 hM5 hF5))
    all_goals
     have hxa:Ext w5 (w5.alloc (.cells #[.int .i64 ((a:Int)+(j:Int)),.slice A5 pl c5] 116)):=Zi;have hO6:Own w6 w1.heap.size 116 2 A6 (j+1) c6 (Q5 (els++[⟨(a:Int)+(j:Int),A5,c5,p⟩])):=by
      rw[zoI,show Q5 [(⟨(a:Int)+(j:Int),A5,c5,p⟩:ME)]=[.int .i64 ((a:Int)+(j:Int)),.slice A5 pl c5] by rw[<-HPE.out];rfl];exact zqm
     have hM6:MapC w6 mb 0 []:=(HM5.out.ext hxa).grow hg6;have hF6:Fm mb w1 w6:=(((HF.out.trans (Fm.of_ext (Zi:Ext wr wr.drew))).trans HF5.out).trans (Fm.of_ext hxa)).new hg6.below;have hk6:∀x:ME,x.ok (w5.alloc (.cells #[.int .i64 ((a:Int)+(j:Int)),.slice A5 pl c5] 116))->x.ok w6:=fun x hx=>⟨hx.1.keep fun b cs fr hb=>(hg6.heap hb (by decide)).trans hb.symm,hx.2⟩
     have ztU:∀x∈els++[(⟨(a:Int)+(j:Int),A5,c5,p⟩:ME)],x.ok w6:=fun x hx=>by
      rcases mem_append.1 hx with hx|hx
      ·exact hk6 x ((HF5.out.meok HMD.out ((HOK.out x hx).ext Zi)).ext hxa)
      ·obtain rfl:=mem_singleton.1 hx;exact hk6 _ (ME.ok.ext (w:=w5) ⟨zp5.out.arr,by simp only[HPE.out];omega⟩ hxa)
     have ztV:((els++[(⟨(a:Int)+(j:Int),A5,c5,p⟩:ME)]).map fun x=>(x.i,x.p))=(List.range (j+1)).map fun r=>(((a+r:Nat):Int),zA m L (L.getD (a+r) [])):=by
      rw[map_append,HEL.out,List.range_succ,map_append];simp only[map_cons,map_nil,HGD.out,<-HP.out,Int.natCast_add]
     have HO6:=Zh hO6;have HM6:=Zh hM6;have HF6:=Zh hF6;have HK6:=Zh ztU;have HE6:=Zh ztV;clear hO6 hM6 hF6 ztU ztV hk6 zqm hg6;go_wp2_with fail
     exact⟨⟨j+1,A6,c6,_,by omega,by go_num,rfl,HO6,HE6,HK6,HM6,HF6⟩,by simp[intOf];omega⟩
   ·obtain rfl:j=l:=by omega
    obtain⟨g,rfl,hbg,hrw⟩:=zoJ HO.out (by omega);have zqf:els.length=j:=by have:=congrArg List.length HEL.out;simpa using this
    have zvh:((a:Int)+(j:Int))<(k:Int)↔False:=by have:=HHL.out;simp;omega
    have HSO:=Zh (zoH (cap:=c) hrw HOK.out zqf (by have:=HHL.out;omega));unfold za2 at HSO;go_wp2_with (go_at_call 151;refine HSO.out.mono ?_;rintro e w3 ⟨rfl,els',hp1,hp2,hp3,hp4,hs3⟩)
    go_ret;have hmg:mb≠g:=by have:=hx1.size;omega
    have hmw:mb<wr.heap.size:=HM.out.lt;refine⟨g,c,els',by rw[hp1.length_eq,zqf];rfl,by have:=hx1.size;omega,hp3,hp4,HM.out.at_block (hs3.1 mb hmw hmg),?_,.inr ⟨by have:=HHL.out;omega,?_,hp2.imp fun h=>by omega⟩⟩
    ·exact((Fm.of_ext hx1).trans HF.out).new (hs3.2 _ (by have:=hx1.size;omega))
    ·rw[<-HHL.out,<-HEL.out];exact hp1.map _
section
variable {κ:Type} [DecidableEq κ] {lt:κ->κ->Prop} [DecidableRel lt]
theorem zhD:∀(G:List (κ×Int))(k:κ),(∀c∈G,lt c.1 k)->Zq lt G k=G++[(k,1)]
 |[],_,_=>rfl
 |c::G,k,h=>by
  unfold Zq;rw[if_pos (h c (List.mem_cons_self ..)),zhD G k fun d hd=>h d (List.mem_cons_of_mem _ hd)];rfl
theorem zhE(O:STO lt):∀(G:List (κ×Int))(k:κ)(n:Int),(∀c∈G,lt c.1 k)->Zq lt (G++[(k,n)]) k=G++[(k,n+1)]
 |[],k,n,_=>by
  show Zq lt [(k,n)] k=_;unfold Zq;rw[if_neg (O.irr k),if_pos rfl];rfl
 |c::G,k,n,h=>by
  show Zq lt (c::(G++[(k,n)])) k=_;unfold Zq;rw[if_pos (h c (List.mem_cons_self ..)),zhE O G k n fun d hd=>h d (List.mem_cons_of_mem _ hd)];rfl
theorem CountOK.hit(O:STO lt){S:List κ}{C:List (κ×Int)}{k:κ}{n:Int}(h:CountOK lt S (C++[(k,n)])):CountOK lt (S++[k]) (C++[(k,n+1)]):=by
 rw[<-zhE O C k n fun c hc=>(List.pairwise_append.1 h.sorted).2.2 c hc _ (mem_singleton.2 rfl)];exact h.tally O k
theorem CountOK.fresh(O:STO lt){S:List κ}{C:List (κ×Int)}{k:κ}(h:CountOK lt S C)(hs:∀s∈S,¬lt k s)(hl:∀C0 d,C=C0++[d]->d.1≠k):CountOK lt (S++[k]) (C++[(k,1)]):=by
 rw[<-zhD (lt:=lt) C k]
 ·exact h.tally O k
 ·have hin:∀c∈C,c.1∈S:=fun c hc=>List.count_pos_iff.1 (by have:=(h.mem c).1 hc;omega)
  rcases List.eq_nil_or_concat C with rfl|⟨C0,d,rfl⟩
  ·intro c hc;simp at hc
  ·rw[List.concat_eq_append] at*
   have hd:lt d.1 k:=(O.tri (hl C0 d rfl)).resolve_right (hs _ (hin d (by simp)));intro c hc;rcases mem_append.1 hc with hc|hc
   ·exact O.trans ((List.pairwise_append.1 h.sorted).2.2 c hc d (mem_singleton.2 rfl)) hd
   ·rw[mem_singleton.1 hc];exact hd
end
structure CE where
 n:Int
 A:Option Addr
 c:Nat
 p:List Ct
 N:Int
def CE.key(x:CE):Ks×Int:=((x.n,x.p),x.N)
def ceV(x:CE):List Value:=[.int .i64 x.n,.slice x.A x.p.length x.c,.int .i64 x.N]
def ZT(l:List CE):List Value:=l.flatMap ceV
theorem zdX(p q:List CE):ZT (p++q)=ZT p++ZT q:=List.flatMap_append
theorem zdY(p:List CE):(ZT p).length=p.length*3:=by
 induction p with
 |nil=>rfl
 |cons x l ih=>simp only[ZT,List.flatMap_cons,List.length_append,List.length_cons]at ih|-;rw[ih];simp[ceV];omega
theorem zbW:∀(p:List CE)(i:Nat)(c:CE),p[i]? =some c->(ZT p)[i*3]? =some (.int .i64 c.n)/\(ZT p)[i*3+1]? =some (.slice c.A c.p.length c.c)/\(ZT p)[i*3+2]? =some (.int .i64 c.N)
 |[],i,c,h=>by simp at h
 |y::l,0,c,h=>by simp at h;subst h;exact⟨rfl,rfl,rfl⟩
 |y::l,i+1,c,h=>by
  have:=zbW l i c (by simpa using h);rw[show (i+1)*3=i*3+3 by omega];exact this
theorem zoK(C:List CE)(x:CE)(v:Int):ZT (C++[{x with N:=v}])=(ZT (C++[x])).set (C.length*3+2) (.int .i64 v):=by
 rw[zdX,zdX,List.set_append_right _ _ (by rw[zdY];omega),zdY,show C.length*3+2-C.length*3=2 by omega];rfl
theorem zoL:(Tryz.prog.info? 53).map (fun i=>(i.zero,i.size,i.bytes))=some (some (.agg #[.int .i64 0,.slice none 0 0,.int .i64 0]),3,40):=by kernel_rfl
def CE.ok(w:World)(x:CE):Prop:=Arr w x.A 108 (zF x.p)/\x.p.length<=1099511627776
theorem CE.ok.ct{x:CE}(h:x.ok w):CtV w x.A x.p:=⟨_,h.1⟩
def Kp(w w':World):Prop:=w.heap.size<=w'.heap.size/\∀(b:Nat)(cs:Array Value)(T:TypeId)(fr:Nat×Nat),T≠53->w.heap[b]? =some (.cells cs T fr)->w'.heap[b]? =some (.cells cs T fr)
theorem Kp.refl(w:World):Kp w w:=⟨Zr,fun _ _ _ _ _ h=>h⟩
theorem Kp.trans{a b c:World}(h:Kp a b)(h':Kp b c):Kp a c:=⟨Nat.le_trans h.1 h'.1,fun k cs T fr hn hk=>h'.2 k cs T fr hn (h.2 k cs T fr hn hk)⟩
theorem Kp.of_ext(h:Ext w w'):Kp w w':=⟨h.size,fun b _ _ _ _ hb=>(h.below.block b (zw hb)).trans hb⟩
theorem Kp.of_fm{L:List Kc}(h:Fm mb w w')(hm:MapC w mb n L):Kp w w':=⟨h.size,fun _ _ _ _ _ hb=>h.cells hm hb⟩
theorem Kp.of_grow(h:Grow ze 53 w w'):Kp w w':=⟨h.below.size,fun _ _ _ _ hn hb=>h.heap hb hn⟩
theorem Kp.of_set{fr:Nat×Nat}(hg:w.heap[g]? =some (.cells cur 53 fr))(hp:p.block=g)(u:Value):Kp w (w.setCell p u):=by
 refine⟨Nat.le_of_eq (qd w p u).symm,fun b cs T fr' hn hb=>?_⟩;have hne:b≠p.block:=fun e=>by
  rw[e,hp,hg]at hb;injection hb with hb
  injection hb with _ hb
  exact hn hb.symm
 exact ZW hb hne u
theorem Arr.kp{vs:List Value}(h:Arr w A T vs)(hk:Kp w w')(hT:T≠53):Arr w' A T vs:=
 h.keep fun _ _ _ hb=>(hk.2 _ _ _ _ hT hb).trans hb.symm
theorem CE.ok.kp{x:CE}(h:x.ok w)(hk:Kp w w'):x.ok w':=⟨h.1.kp hk (by decide),h.2⟩
theorem ME.ok.kp{x:ME}(h:x.ok w)(hk:Kp w w'):x.ok w':=⟨h.1.kp hk (by decide),h.2⟩
theorem MRow.kp{els:List ME}(h:MRow w g els)(hk:Kp w w'):MRow w' g els:=by
 obtain⟨cur,h1,h2⟩:=h;exact⟨cur,hk.2 _ _ _ _ (by decide) h1,h2⟩
theorem Below.setAt(w:World)(hp:n<=p.block)(u:Value):Below n w (w.setCell p u):=
 ⟨rfl,rfl,rfl,Nat.le_of_eq (qd w p u).symm,fun b hb=>Below.heap_setCell w p u b (by omega)⟩
theorem j8{b:Nat}{x y:Value}(h:w.heap[b]? =some (.cells #[x,y] T (0,0))):w.cell? ⟨b,0,none⟩=some x/\w.cell? ⟨b,1,none⟩=some y/\w.frozen? ⟨b,0,none⟩=false/\w.frozen? ⟨b,1,none⟩=false/\b<w.heap.size:=
 ⟨by simp[World.cell?,h],by simp[World.cell?,h],by simp[World.frozen?,h],by simp[World.frozen?,h],zw h⟩
theorem zdZ{xs:List Value}(ho:Own w ze 53 3 A n c xs)(h0:0<n):∃(g:Nat) (cur:Array Value),A=some ⟨g,0,none⟩/\ze<=g/\w.heap[g]? =some (.cells cur 53 (0,0))/\n<=c/\(∀(j:Nat)(u:Value),xs[j]? =some u->cur[j]? =some u)/\
  ∀(i:Nat)(u:Value),i<xs.length->Own (w.setCell ⟨g,i,none⟩ u) ze 53 3 A n c (xs.set i u):=by
 rcases ho.2 with ⟨-,hn⟩|⟨g,cap,cur,hv,h1,h2,h3,h4,h5,h6⟩
 ·omega
 ·injection hv with z1 _ z3
  subst z3;refine⟨g,cur,z1,h1,h2,h3,fun j u hu=>?_,fun i u hi=>⟨by simp[ho.1],.inr ⟨g,c,cur.set! i u,by rw[z1],h1,?_,h3,h4,by simpa using h5,?_⟩⟩⟩
  ·rw[<-h6,List.getElem?_take]at hu;split at hu
   ·simpa using hu
   ·cases hu
  ·rw[zY h2];simp
  ·rw[<-h6]at hi|-
   apply List.ext_getElem?;intro j;simp only[length_take]at hi;simp only[List.getElem?_take,Array.getElem?_toList,List.getElem?_set,Array.set!_eq_setIfInBounds,Array.getElem?_setIfInBounds,length_take];split<;>rename_i hj
   ·split<;>rename_i he
    ·subst he;simp;omega
    ·rfl
   ·split<;>rename_i he
    ·omega
    ·rfl
theorem zoM{κ:Type}[DecidableEq κ]{lt:κ->κ->Prop}[DecidableRel lt](O:STO lt){S:List κ}(hS:S≠[]):qi lt S≠[]:=fun h=>by
 obtain⟨y,hy⟩:=List.exists_mem_of_ne_nil S hS;have h2:(y,(S.count y:Int))∈qi lt S:=((j2 O S).mem _).2 ⟨Int.natCast_pos.2 (List.count_pos_iff.2 hy),rfl⟩;rw[h]at h2
 cases h2
theorem zoN{x:List Int}(hL:L≠[]):zA m L x≠[]:=zoM zbT fun h=>hL (List.map_eq_nil_iff.1 h)
theorem zhF{els:List ME}(h:MemOK m L a k els)(hok:∀x∈els,x.ok w)(hkl:k<=L.length):
  (els.map fun x=>zA m L (L.getD x.i.toNat [])).Perm ((List.range (k-a)).map fun j=>zA m L (L.getD (a+j) []))/\
  (∀x∈els,(∃j:Nat,a<=j/\j<k/\x.i=(j:Int))/\((x.A=none/\x.c=0/\x.p=[]/\els.length=1)∨(x.A≠none/\x.p=zA m L (L.getD x.i.toNat []))))/\
  els.Pairwise (fun x y=>¬zM (zA m L (L.getD y.i.toNat [])) (zA m L (L.getD x.i.toNat []))=true):=by
 rcases h with ⟨hk,rfl⟩|⟨hk,hp,hs⟩
 ·subst hk;refine⟨by simp,fun x hx=>?_,by simp⟩;rw[mem_singleton.1 hx];exact⟨⟨a,Zr,by omega,rfl⟩,.inl ⟨rfl,rfl,rfl,rfl⟩⟩
 ·have hx:∀x∈els,∃j:Nat,a<=j/\j<k/\x.i=(j:Int)/\x.p=zA m L (L.getD j []):=fun x hx=>by
   have h1:=hp.mem_iff.1 (List.mem_map_of_mem (f:=fun x:ME=>(x.i,x.p)) hx);obtain⟨j,hj,he⟩:=mem_map.1 h1;rw[List.mem_range]at hj;injection he with e1 e2
   exact⟨a+j,by omega,by omega,e1.symm,e2.symm⟩
  have hx2:∀x∈els,x.p=zA m L (L.getD x.i.toNat []):=fun x hxm=>by
   obtain⟨j,-,-,h3,h4⟩:=hx x hxm;rw[h3];exact h4
  refine⟨?_,fun x hxm=>?_,?_⟩
  ·have h1:=hp.map Prod.snd;rw[map_map,map_map]at h1;have h2:(els.map fun x=>zA m L (L.getD x.i.toNat []))=els.map (Prod.snd∘fun x:ME=>(x.i,x.p)):=List.map_congr_left fun x hxm=>(hx2 x hxm).symm
   rw[h2];exact h1
  ·obtain⟨j,h1,h2,h3,h4⟩:=hx x hxm;refine⟨⟨j,h1,h2,h3⟩,.inr ⟨fun hn=>?_,hx2 x hxm⟩⟩;have hne:x.p≠[]:=by
    rw[h4];have hL:L≠[]:=fun e=>by rw[e]at hkl;simp at hkl;omega
    exact zoN hL
   have hA:=(hok x hxm).1;rw[hn]at hA;obtain⟨b,o,cs,fr,h,-⟩:=hA (by
    rw[Qg];exact Nat.mul_pos (List.length_pos_iff.2 hne) (by decide))
   cases h
  ·refine List.Pairwise.imp_of_mem ?_ hs;intro x y hxm hym h;rw[<-hx2 x hxm,<-hx2 y hym,<-zaY];simpa using h
def Za(m L:List (List Int))(y:List Int):Ks:=(zi m y,zA m L y)
def zhG(w:World)(m:List (List Int))(P:List (List Int)->Prop)(e:Ending)(w':World):Prop:=
 ∃A c L C,e= .returned (.tuple #[.slice A (List.length C) c,.int .i64 0])/\P L/\Own w' w.heap.size 53 3 A C.length c (ZT C)/\(∀x∈C,x.ok w')/\CountOK Z1 (L.map (Za m L)) (C.map CE.key)/\Step w w'
theorem zhH{na:Int}{els:List ME}(hk:k<=L.length)(hak:a<=k)(hn:∀(j:Nat)(x:Int),a<=j->j<k->(L.map (zi m))[j]? =some x->x=na)
  (hp:(els.map fun x=>zA m L (L.getD x.i.toNat [])).Perm ((List.range (k-a)).map fun j=>zA m L (L.getD (a+j) []))):
  ((L.take a).map (Za m L)++els.map fun x=>(na,zA m L (L.getD x.i.toNat []))).Perm ((L.take k).map (Za m L)):=by
 have h1:=hp.map fun p=>(na,p)
 rw[map_map,map_map]at h1;have hsp:L.take k=L.take a++(L.take k).drop a:=by
  have h:=List.take_append_drop a (L.take k);rw[List.take_take,Nat.min_eq_left hak]at h;exact h.symm
 have h2:(List.range (k-a)).map ((fun p=>(na,p))∘fun j=>zA m L (L.getD (a+j) []))=((L.take k).drop a).map (Za m L):=by
  apply List.ext_getElem
  ·simp;omega
  ·intro i h1 h2;simp only[length_map,List.length_range]at h1;simp only[List.getElem_map,List.getElem_range,Function.comp,List.getElem_drop,List.getElem_take];have hi:a+i<L.length:=by omega
   have hg:L.getD (a+i) []=L[a+i]:=by simp[hi]
   rw[hg];unfold Za;rw[hn (a+i) (zi m L[a+i]) (by omega) (by omega) (by simp[hi])]
 rw[hsp,map_append,<-h2];exact(List.Perm.append_left _ h1)
set_option maxRecDepth 20000 in
theorem zhI{b u:Int}{P:List (List Int)->Prop}(hM:MatA w0 A m)(hml:m.length<=1000)(zqi:∀r∈m,r.length<=m.length)
  (zqT:∀W,Ext w0 W->Cq 148 #[.slice A m.length c,.int .i64 b,.int .i64 u] W (zai W P))
  (hP:∀L,P L->PrfL m L/\(∀x∈L,JE m L x)) [hx:Ext w0 w]:
  Cq 29 #[.slice A m.length c,.int .i64 b,.int .i64 u] w (zhG w m P):=by
 have hPN:∀L,P L->L.length<=100000/\(∀y∈L,y.length=m.length)/\∀y∈L,-9223372036854775808<=zi m y/\zi m y<=9223372036854775807:=fun L hL=>by
  obtain⟨⟨h1,h2,-,h4⟩,-⟩:=hP L hL;exact⟨h1,h2,fun y hy=>by have:=h4 y hy;omega⟩
 have HNS:Hid (∀W,Ext w0 W->Cq 76 #[.slice A m.length c,.int .i64 b,.int .i64 u] W (j5 W m P)):=Zh (fun W e=>zdQ (w:=W) hM hml zqi zqT hPN);have HPR:Hid (∀(W0 W:World)(LA NA DA XA:Option Addr)(lc nc dc xc mb q:Nat)(L:List (List Int))(x:List Int),P L->x∈L->L.length=q->IntsA W0 XA x->SysV W0 m L LA NA DA->q<=dc->dc<=9223372036854775807->Ext W0 W->W0.heap.size<=mb->MapC W mb 0 []->Cq 81 #[.agg #[.slice LA q lc,.slice NA q nc,.slice DA q dc],.slice XA m.length xc,.map (some mb)] W (jt W mb (zA m L x))):=Zh (fun W0 W LA NA DA XA lc nc dc xc mb q L x hL hxL hq hX hS h1 h2 e1 hmb hMC=>by
  obtain⟨hp,hi⟩:=hP L hL;subst hq;exact zdS (w0:=W0) (w:=W) hS rfl hp.len h1 h2 rfl hml hp.srt hX (hp.zc x hxL) hp.nb (hi x hxL) hmb hMC)
 have HME:Hid (∀(W0 W:World)(LA NA DA:Option Addr)(lc nc dc mb q a k:Nat)(n:Int)(L:List (List Int)),P L->L.length=q->SysV W0 m L LA NA DA->q<=dc->dc<=9223372036854775807->Ext W0 W->W0.heap.size<=mb->MapC W mb 0 []->a<k->k<=q->(∀(j:Nat)(x:Int),a<=j->j<k->(L.map (zi m))[j]? =some x->x=n)->Cq 78 #[.agg #[.slice LA q lc,.slice NA q nc,.slice DA q dc],.int .i64 a,.int .i64 k,.map (some mb)] W (zaj W mb m L a k)):=Zh (fun W0 W LA NA DA lc nc dc mb q a k n L hL hq hS h1 h2 e1 hmb hMC hak hkq hsh=>by
  obtain⟨hp,hi⟩:=hP L hL;subst hq;exact zhC (w0:=W0) (w:=W) hS rfl hp.len h1 h2 rfl hml hp.srt hp.zc hp.nb hi hmb hMC hak hkq)
 have HPL:Hid (∀L,P L->PrfL m L):=Zh (fun L hL=>(hP L hL).1);clear hPN zqT hP hM zqi;unfold j5 at HNS;unfold jt at HPR;unfold zaj at HME;unfold zhG;obtain⟨n,hn⟩:=Yz m.length;rw[hn]at HNS HPR hml|-
 have HN:=Zh hn;clear hn;have hmk:=@run_makeMap Tryz.prog;go_enter Tryz.func29,Tryz.ntmps29;go_wp2_with (go_at_call 76;refine(HNS.out _ Zi).mono ?_;rintro e w1 ⟨LA,NA,DA,lc,nc,dc,L,rfl,hS,hPL,-,-,-,-,hd1,hd2,hs1⟩;have HSY:=Zh hS;have HP:=Zh hPL;clear hS hPL)
 obtain⟨q,hq⟩:=Yz L.length;rw[hq]at hd1;obtain⟨wB,hwB⟩:=Xz (w1.alloc (.cells #[.slice LA q lc,.slice NA q nc,.slice DA q dc] 110));obtain⟨wM,hwM⟩:=Xz (wB.alloc (.map #[] 0));have hxB:Ext w1 wB:=by rw[hwB];infer_instance
 have hxM:Ext wB wM:=by rw[hwM];infer_instance
 have hsB:wB.heap.size=w1.heap.size+1:=by rw[hwB];simp
 have hsM:wM.heap.size=w1.heap.size+2:=by rw[hwM];simp[hsB]
 have hbx:wB.heap[w1.heap.size]? =some (.cells #[.slice LA q lc,.slice NA q nc,.slice DA q dc] 110 (0,0)):=by rw[hwB];exact heap_alloc_new w1 _
 have HBX:=Zh (zh hxM hbx);have hm0:MapC wM wB.heap.size 0 []:=by rw[hwM];exact MapC.made wB
 rw[hsB]at hm0;rw[hq];rw[<-hwB,<-hwM];obtain⟨mb,hmb⟩:=Xz (w1.heap.size+1);rw[<-hmb]at hm0;have HM0:=Zh hm0;have hx1M:Ext w1 wM:=hxB.trans hxM;have HQ:=Zh hq;have HSZ:=Zh (And.intro hsM hmb);obtain⟨hqb,zwo⟩:q<=100000/\Hid (∀y∈L,0<=zi m y/\zi m y<=4611686018427387904):=⟨by rw[<-hq];exact(HPL.out L HP.out).len,Zh (HPL.out L HP.out).nb⟩;try rw[<-hmb]
 clear hwB hwM hsB hsM hbx hm0 hq hmb HNS hmk;go_loopw [10,12,13,14,16,17] (fun cl s _ _ _ _ wr=>∃(a:Nat) (C:List CE) (A':Option Addr) (c' k:Nat),a<=q/\s= .int .i64 a/\Hid (Bdry (L.map (zi m)) a)/\cl= .slice A' k c'/\k<=a/\Hid (C.length=k)/\Hid (Own wr wM.heap.size 53 3 A' k c' (ZT C))/\Hid (∀x∈C,x.ok wr)/\Hid (CountOK Z1 ((L.take a).map (Za m L)) (C.map CE.key))/\Hid (MapC wr mb 0 [])/\Hid (Fm mb wM wr)) (fun _ s _ _ _ _ _=>q-(intOf s).toNat)
 case atStart=>exact⟨0,[],none,0,0,by omega,rfl,Zh (Bdry.zero _),rfl,by omega,Zh rfl,Zh (Own.nil _ _ _ _),Zh (fun x hx=>by simp at hx),Zh CountOK.nil,HM0,Zh (Fm.refl _ _)⟩
 case round=>
  obtain⟨a,C,A',c',k0,ha,rfl,HB,rfl,hka,HCL,HO,HK,HCT,HM,HF⟩:=hrel;have zro:w1.heap.size<=mb:=by have:=HSZ.out;omega
  have zsS:Ext w1 wr:=Fm.ext0 hx1M zro HF.out;obtain⟨⟨c1,c2,c3⟩,-,c4⟩:=qs (HF.out.cells HM0.out HBX.out);have oB:Old w1.heap.size wr:=⟨c4⟩;by_cases hlt:a<q
  ·obtain⟨y0,hy0⟩:∃y,L[a]? =some y:=⟨_,Ze (by rw[HQ.out];exact hlt)⟩;obtain⟨na,hna⟩:∃v,zi m y0=v:=⟨_,rfl⟩;have zqL:(L.map (zi m))[a]? =some na:=by rw[getElem?_map,hy0,<-hna];rfl
   have hnl:(L.map (zi m)).length=q:=by rw[length_map];exact HQ.out
   have HSH:=Zh (fun W(e:Ext w1 W)=>zdP (w:=W) (nc:=nc) (SL:= .slice LA q lc) (SD:= .slice DA q dc) HSY.out.norms zqL hnl (by omega));obtain⟨bl,ol,B0,cb0,rfl,-,-,-,-,d5⟩:=HSY.out.list.a.at_ (i:=a) (r:=y0) hy0;obtain⟨bn,on,na',rfl,zrW,n5,n6⟩:=HSY.out.norms.at_ (i:=a) (by omega);rw[zqL]at zrW;obtain rfl:na=na':=by injection zrW
   have zph:=Zh zqL;have HNL:=Zh hnl;have HNA:=Zh (And.intro hy0 hna);have oL:Old bl w1:=⟨d5⟩;have oN:Old bn w1:=⟨n6⟩;unfold za0 at HSH;clear hy0 hna zqL hnl;go_upto_region 10 with (go_at_call 77;refine(HSH.out _ Zi).mono ?_;rintro e w2 ⟨k,rfl,hk1,hk2,hk3,hk4,hs2⟩;rw[HNL.out]at hk2;have HK3:=Zh hk3;have HK4:=Zh hk4;clear hk3 hk4)
   have zqA:Ext wr w2:=Zi;have HF2:Hid (Fm mb wM w2):=Zh (HF.out.trans (Fm.of_ext zqA));have HM2:Hid (MapC w2 mb 0 []):=Zh (HM.out.ext zqA);have HO2:Hid (Own w2 wM.heap.size 53 3 A' k0 c' (ZT C)):=Zh (HO.out.ext zqA);have HK2:Hid (∀x∈C,x.ok w2):=Zh (fun x hx=>(HK.out x hx).kp (Kp.of_ext zqA));have HMC:=Zh (HME.out w1 w2 (some ⟨bl,ol,none⟩) (some ⟨bn,on,none⟩) DA lc nc dc mb q a k na L HP.out HQ.out HSY.out hd1 hd2 (zsS.trans zqA) zro HM2.out hk1 hk2 HK3.out)
   clear HO HM HF HK HSH;go_wp2_with (go_at_call 78;refine HMC.out.mono ?_;rintro e w3 ⟨g,c3',els,rfl,hg3,hR3,hE3,hM3,hF3,hMO3⟩)
   obtain⟨el,hel⟩:=Yz els.length;rw[hel];have HMU:=Zh (zhF hMO3 hE3 (by rw[HQ.out];omega));have HEL:=Zh hel;have zrX:el=k-a:=by
    have h1:=HMU.out.1.length_eq;simp only[length_map,List.length_range]at h1;omega
   have HR3:=Zh hR3;have HE3:=Zh hE3;have HM3:=Zh hM3;have HF3:Hid (Fm mb wM w3):=Zh (HF2.out.trans hF3);have HO3:Hid (Own w3 wM.heap.size 53 3 A' k0 c' (ZT C)):=Zh (hF3.own HM2.out HO2.out);have HKC:Hid (∀x∈C,x.ok w3):=Zh (fun x hx=>(HK2.out x hx).kp (Kp.of_fm hF3 HM2.out));have HLO:Hid (∀s∈(L.take a).map (Za m L),s.1<na):=Zh (fun s hs=>by
    obtain⟨y,hy,rfl⟩:=mem_map.1 hs;obtain⟨i,hi,he⟩:=List.mem_iff_getElem.1 hy;simp only[length_take]at hi;rw[List.getElem_take]at he;refine HB.out i a (zi m y) na (by omega) Zr ?_ zph.out;rw[getElem?_map,Ze (by omega),he];rfl)
   clear hel hR3 hE3 hM3 hF3 hMO3 HMC HO2 HK2 HME c1 c2 c3 c4 oB;go_loopw [10,16,17,45] (fun cl _ _ ix wz=>∃(r:Nat) (C':List CE) (A2:Option Addr) (c2' k':Nat),r<=el/\ix= .int .i64 r/\cl= .slice A2 k' c2'/\Hid (C'.length=k')/\k'<=k0+r/\Hid (Own wz wM.heap.size 53 3 A2 k' c2' (ZT C'))/\Hid (∀x∈C',x.ok wz)/\Hid (CountOK Z1 ((L.take a).map (Za m L)++(els.take r).map fun x=>(na,zA m L (L.getD x.i.toNat []))) (C'.map CE.key))/\Hid (MapC wz mb 0 [])/\Hid (Fm mb wM wz)/\Hid (Kp w3 wz)/\(r=0->k'=k0)/\Hid (0<r->∃C0 x,C'=C0++[x]/\x.n=na/\k0<k')) (fun _ _ _ ix _=>el-(intOf ix).toNat)
   case atStart=>exact⟨0,C,A',c',k0,by omega,rfl,rfl,HCL,by omega,HO3,HKC,Zh (by simpa using HCT.out),HM3,HF3,Zh (Kp.refl _),fun _=>rfl,Zh (fun h=>by omega)⟩
   case round=>
    obtain⟨r,C',A2,c2',k',hr,rfl,rfl,HCL',hk',HO',HK',HCT',HM',HF',HKP,hr0,HR1⟩:=hrel;by_cases hrl:r<el
    ·obtain⟨x,hxr⟩:∃x,els[r]? =some x:=⟨_,Ze (by rw[HEL.out];exact hrl)⟩;have hxm:=Zm hxr;obtain⟨⟨j,hj1,hj2,hxi⟩,zq1⟩:=HMU.out.2.1 x hxm;obtain⟨y,hy⟩:∃y,L[j]? =some y:=⟨_,Ze (by rw[HQ.out];omega)⟩;have hyL:=Zm hy;have hgd:L.getD x.i.toNat []=y:=by rw[hxi];simp[List.getD_eq_getElem?_getD,hy]
     obtain⟨pr,hpr⟩:=Xz (zA m L y);rw[hgd,<-hpr]at zq1;have zvi:pr.length<=100000:=by
      have:=zdR m L y;rw[hpr];rw[HQ.out]at this;omega
     have zq3:(els.take (r+1)).map (fun x=>((na,zA m L (L.getD x.i.toNat [])):Ks))=(els.take r).map (fun x=>(na,zA m L (L.getD x.i.toNat [])))++[(na,pr)]:=by
      rw[List.take_add_one,hxr,map_append];simp only[Option.toList,map_cons,map_nil,hgd,<-hpr]
     have zrY:∀s∈(L.take a).map (Za m L)++(els.take r).map (fun x=>((na,zA m L (L.getD x.i.toNat [])):Ks)),¬Z1 (na,pr) s:=fun s hs hlt=>by
      rcases mem_append.1 hs with hs|hs
      ·have h1:=HLO.out s hs;rcases hlt with h|⟨h,-⟩
       ·simp only at h;omega
       ·simp only at h;omega
      ·obtain⟨z,hz,rfl⟩:=mem_map.1 hs;obtain⟨i,hi,he⟩:=List.mem_iff_getElem.1 hz;simp only[length_take]at hi;rw[List.getElem_take]at he;have h2:=(List.pairwise_iff_getElem.1 HMU.out.2.2) i r (by omega) (by rw[HEL.out];exact hrl) (by omega);have h3:els[r]'(by rw[HEL.out];exact hrl)=x:=(Zg.1 hxr).2;rw[h3,he,hgd,<-hpr]at h2;rcases hlt with h|⟨-,h⟩
       ·simp only at h;omega
       ·exact h2 h
     have zrZ:x.ok wr:=(HE3.out x hxm).kp HKP.out;obtain⟨cur,hcg,zqM⟩:=HR3.out.kp HKP.out;obtain⟨f0,f1⟩:=zqM r x hxr;have e0:wr.cell? ⟨g,r*2,none⟩=some (.int .i64 x.i):=by rw[Nat.mul_comm];simpa[World.cell?,hcg] using f0
     have e1:wr.cell? ⟨g,r*2+1,none⟩=some (.slice x.A x.p.length x.c):=by rw[Nat.mul_comm];simpa[World.cell?,hcg] using f1
     have hgl:=zw hcg;have oG:Old g wr:=⟨hgl⟩;have zsT:Ext w1 wr:=Fm.ext0 hx1M zro HF'.out;obtain⟨⟨c1,c2,c3⟩,-,c4⟩:=qs (HF'.out.cells HM0.out HBX.out);have oB:Old w1.heap.size wr:=⟨c4⟩;obtain⟨xi,xA,xc,xp⟩:=x;simp only at hxi zq1 e0 e1;subst hxi;have hnx:=Zh zq3;have zp6:=Zh zrY;have HXR:=Zh hxr;have zpw:=Zh hpr;have HY:=Zh (And.intro hy hyL);have HXO:=Zh zrZ;clear zq3 zrY hxr hpr hy hyL hgd zqM hcg f0 f1 zrZ hxm
     have HNZ:Hid (r=0->∀C0 d,C'.map CE.key=C0++[d]->d.1≠(na,pr)):=Zh (fun hrz C0 d he hd=>by
      have hdm:d∈C'.map CE.key:=by rw[he];simp
      have h2:=(HCT'.out.mem d).1 hdm;have h3:d.1∈(L.take a).map (Za m L)++(els.take r).map fun x=>(na,zA m L (L.getD x.i.toNat [])):=(@List.count_pos_iff _ instBEqOfDecidableEq Zi _ _).1 (by have:=h2.1;rw[h2.2]at this;exact Int.natCast_pos.1 this)
      rw[hrz,List.take_zero,map_nil,List.append_nil]at h3;have h4:=HLO.out _ h3;rw[hd]at h4;simp only at h4;omega)
     have hrb:r<100000:=by omega
     obtain⟨hb,zqK⟩:∃hb:Bool,(r=0/\k'=k0/\hb=false)∨(k0<k'/\∃(C0:List CE) (z:CE),C'=C0++[z]/\z.n=na/\hb=decide (z.p=xp)):=by
      rcases Nat.eq_zero_or_pos r with h0|h0
      ·exact⟨false,.inl ⟨h0,hr0 h0,rfl⟩⟩
      ·obtain⟨C0,z,h1,h2,h3⟩:=HR1.out h0;exact⟨_,.inr ⟨h3,C0,z,h1,h2,rfl⟩⟩
     have zpb:=Zh zqK;have zpl:Hid ((xA=none/\xp.length=0/\xc=0/\k'=k0)∨(xA≠none/\xp=pr)):=Zh (by
      rcases zq1 with ⟨h1,h2,h3,h4⟩|h
      ·rw[HEL.out]at h4;exact .inl ⟨h1,by rw[h3];rfl,h2,hr0 (by omega)⟩
      ·exact .inr h)
     obtain⟨pl,hpl⟩:=Yz pr.length;obtain⟨xl,hxl⟩:=Yz xp.length;have zwp:xl<=100000:=by
      rcases zq1 with ⟨-,-,h3,-⟩|⟨-,h⟩
      ·rw[h3]at hxl;simp at hxl;omega
      ·rw[h]at hxl;omega
     have HPE:=Zh hpl;have HXE:=Zh hxl;rw[hpl]at zvi;rw[hxl]at e1;have hwk:IntKind.i64.wrap ((k':Int)-1)=(k':Int)-1:=Iw;obtain⟨wm,hwm⟩:=Xz (wr.alloc (.cells #[.int .i64 j,.slice xA xl xc] 116));have hxm:Ext wr wm:=by rw[hwm];infer_instance
     have hbm:wm.heap[wr.heap.size]? =some (.cells #[.int .i64 j,.slice xA xl xc] 116 (0,0)):=by rw[hwm];exact heap_alloc_new wr _
     have HBM:=Zh hbm;have hsm:wm.heap.size=wr.heap.size+1:=by rw[hwm];simp
     have HWM:=Zh hwm;have HSM:=Zh hsm;obtain⟨d0,d1,d2,d3,d4⟩:=j8 hbm;have oM:Old wr.heap.size wm:=⟨d4⟩;have HKA:=Zh zrX;have hji:(j:Int)<(q:Int):=by omega
     clear zqK zrX hr0 HR1 hwm hbm hsm zq1 hpl hxl hj1 hj2;go_upto_region 14 with fail
     rw[<-HWM.out];go_cut [65] (fun c W=>c= .bool hb/\Ext wm W)
     case first=>
      rcases zpb.out with ⟨-,hk,hbf⟩|⟨hk,C0,z,hC,-,hbd⟩
      ·subst hk;have zvj:decide ((k':Int)-1≥(k':Int))=false:=by simp;omega
       have zvk:decide ((k':Int)<=(k':Int)-1)=false:=by simp;omega
       have HBF:=Zh hbf;clear hbf;go_quiet (fail)
       go_wp2_with fail
       go_meet
       exact⟨by rw[HBF.out],Zi⟩
      ·obtain⟨g2,cur2,hA2,-,hh2,-,zr0,-⟩:=zdZ (HO'.out.ext hxm) (by omega);subst hA2;obtain⟨kl,hkl⟩:∃kl,k'=kl+1:=⟨k'-1,by omega⟩;have hc0:C0.length=kl:=by have:=HCL'.out;rw[hC]at this;simp at this;omega
       obtain⟨-,f1,-⟩:=zbW C' kl z (by rw[hC,List.getElem?_append_right (by omega),hc0,Nat.sub_self];rfl);have e5:wm.cell? ⟨g2,kl*3+1,none⟩=some (.slice z.A z.p.length z.c):=by simpa[World.cell?,hh2] using zr0 _ _ f1
       have oG2:Old g2 wm:=⟨zw hh2⟩;have hkt:((k':Int)-1).toNat=kl:=by omega
       have zvl:(0:Int)<=(k':Int)-1:=by omega
       have zvm:(k':Int)-1<(k':Int):=by omega
       have zvj:decide ((k':Int)-1≥(k0:Int))=true:=by simp;omega
       have zvk:decide ((k0:Int)<=(k':Int)-1)=true:=by simp;omega
       have zsU:z.ok wm:=((HK'.out z (by rw[hC];simp)).kp (Kp.of_ext hxm));have zsV:=HXO.out;have hcz:(Zc z.p xp==0)=hb:=by
        rw[hbd,Bool.eq_iff_iff];simp[zdK]
       have HCP:=Zh (fun W(e:Ext wm W)=>zdO (w:=W) (c:=z.c) (d:=xc) (zsU.ct.ext e) (zsV.ct.ext (hxm.trans e)) zsU.2 zsV.2);simp only at HCP;rw[HXE.out]at HCP;generalize Zc z.p xp=cv at hcz HCP;generalize z.p.length=zl at e5 HCP;clear hkl hC hc0 hbd zsU zsV hh2 zr0 f1 hk;go_region_with (go_at_call 79;refine(HCP.out _ Zi).mono ?_;rintro e w5 ⟨rfl,hG⟩;have hx5:=hG.ext)
       all_goals
        go_wp2_with fail
        go_meet
        exact⟨rfl,Ext.trans Zi hx5⟩
     case rest=>
     obtain⟨rfl,hxW⟩:=hcut;obtain⟨W0,hW0⟩:=Xz wc;rw[<-hW0]at hxW|-
     clear hW0;have hxrW:Ext wr W0:=hxm.trans hxW;have d1W:W0.cell? ⟨wr.heap.size,1,none⟩=some (.slice xA xl xc):=(zg wm).trans d1;have d0W:W0.cell? ⟨wr.heap.size,0,none⟩=some (.int .i64 j):=(zg wm).trans d0;have oMW:Old wr.heap.size W0:=⟨Nat.lt_of_lt_of_le d4 hxW.size⟩
     cases hb with
     |true=>
      obtain⟨hk,C0,z,hC,hzn,hzp⟩:k0<k'/\∃(C0:List CE) (z:CE),C'=C0++[z]/\z.n=na/\z.p=pr:=by
       rcases zpb.out with ⟨-,-,h⟩|⟨hk,C0,z,hC,hzn,hbd⟩
       ·cases h
       ·rcases zpl.out with ⟨-,-,-,h⟩|⟨-,h⟩
        ·omega
        ·exact⟨hk,C0,z,hC,hzn,(of_decide_eq_true hbd.symm).trans h⟩
      obtain⟨g2,cur2,hA2,hg2,hh2,-,zr0,zrI⟩:=zdZ (HO'.out.ext hxrW) (by omega);subst hA2;obtain⟨kl,hkl⟩:∃kl,k'=kl+1:=⟨k'-1,by omega⟩;have hc0:C0.length=kl:=by have:=HCL'.out;rw[hC]at this;simp at this;omega
      obtain⟨-,-,f2⟩:=zbW C' kl z (by rw[hC,List.getElem?_append_right (by omega),hc0,Nat.sub_self];rfl);have e5:W0.cell? ⟨g2,kl*3+2,none⟩=some (.int .i64 z.N):=by simpa[World.cell?,hh2] using zr0 _ _ f2
      have e6:W0.frozen? ⟨g2,kl*3+2,none⟩=false:=by simp[World.frozen?,hh2]
      have hkt:((k':Int)-1).toNat=kl:=by omega
      have zvl:(0:Int)<=(k':Int)-1:=by omega
      have zvm:(k':Int)-1<(k':Int):=by omega
      have hct:=HCT'.out;rw[hC,map_append]at hct;have hN:0<z.N/\z.N<=200000:=by
       have h1:=(hct.mem z.key).1 (by simp);have h2:=@List.count_le_length _ instBEqOfDecidableEq z.key.1 ((L.take a).map (Za m L)++(els.take r).map fun x=>((na,zA m L (L.getD x.i.toNat [])):Ks));simp only[List.length_append,length_map,length_take]at h2;have h3:=h1.2;have h4:z.key.2=z.N:=rfl;have h5:=HKA.out;omega
      have hwN:IntKind.i64.wrap (z.N+1)=z.N+1:=Iw;have HO9:Hid (Own (W0.setCell ⟨g2,kl*3+2,none⟩ (.int .i64 (z.N+1))) wM.heap.size 53 3 (some ⟨g2,0,none⟩) k' c2' (ZT (C0++[{z with N:=z.N+1}]))):=Zh (by
       have h:=zrI (kl*3+2) (.int .i64 (z.N+1)) (by rw[zdY,HCL'.out];omega);rw[zoK,hc0,<-hC];exact h)
      have hKp:Kp wr (W0.setCell ⟨g2,kl*3+2,none⟩ (.int .i64 (z.N+1))):=(Kp.of_ext hxrW).trans (Kp.of_set hh2 rfl _);have HK9:Hid (∀x∈C0++[{z with N:=z.N+1}],x.ok (W0.setCell ⟨g2,kl*3+2,none⟩ (.int .i64 (z.N+1)))):=Zh (fun x hx=>by
       rcases mem_append.1 hx with hx|hx
       ·exact(HK'.out x (by rw[hC];simp[hx])).kp hKp
       ·rw[mem_singleton.1 hx];exact CE.ok.kp (x:=z) (HK'.out z (by rw[hC];simp)) hKp)
      have HC9:Hid (CountOK Z1 ((L.take a).map (Za m L)++(els.take (r+1)).map fun x=>(na,zA m L (L.getD x.i.toNat []))) ((C0++[{z with N:=z.N+1}]).map CE.key)):=Zh (by
       rw[hnx.out,<-List.append_assoc,map_append];have hkz:CE.key z=((na,pr),z.N):=by rw[<-hzn,<-hzp];rfl
       simp only[map_cons,map_nil,hkz]at hct;have h:=hct.hit jr;rw[<-hzn,<-hzp]at h|-
       exact h)
      have zvn:mb≠g2:=by have:=HSZ.out;omega
      have HM9:Hid (MapC (W0.setCell ⟨g2,kl*3+2,none⟩ (.int .i64 (z.N+1))) mb 0 []):=Zh ((HM'.out.ext hxrW).at_block (Below.heap_setCell W0 _ _ mb zvn));have HF9:Hid (Fm mb wM (W0.setCell ⟨g2,kl*3+2,none⟩ (.int .i64 (z.N+1)))):=Zh ((HF'.out.trans (Fm.of_ext hxrW)).new (Below.setAt W0 hg2 _));have HP9:=Zh (HKP.out.trans hKp);have HL9:Hid ((C0++[{z with N:=z.N+1}]).length=k'):=Zh (by simp[hc0,hkl])
      have HZN:=Zh hzn;have oG2:Old g2 W0:=⟨zw hh2⟩;clear hKp zrI hct hC hc0 hzn hzp zr0 hh2 f2 hkl zpb HNZ;go_wp2_with fail
      exact⟨⟨r+1,C0++[{z with N:=z.N+1}],some ⟨g2,0,none⟩,c2',k',by omega,by go_num,rfl,HL9,by omega,HO9,HK9,HC9,HM9,HF9,HP9,fun h=>by omega,Zh (fun _=>⟨C0,_,rfl,HZN.out,hk⟩)⟩,by simp[intOf];omega⟩
     |false=>
      have HNF:Hid (∀C1 d,C'.map CE.key=C1++[d]->d.1≠(na,pr)):=Zh (by
       rcases zpb.out with ⟨h1,-,-⟩|⟨hk,C0,z,hC,-,hbd⟩
       ·exact HNZ.out h1
       ·intro C1 d he hd;rcases zpl.out with ⟨-,-,-,h⟩|⟨-,h⟩
        ·omega
        ·rw[hC,map_append]at he;obtain⟨-,he⟩:=List.append_inj' he rfl;injection he with he
         rw[<-he]at hd;refine of_decide_eq_false hbd.symm ?_;rw[h];exact congrArg Prod.snd hd)
      have zwq:k0<=k':=by rcases zpb.out with ⟨-,h,-⟩|⟨h,-⟩<;>omega
      clear zpb HNZ;go_upto_region 16 with fail
      obtain⟨nb,hnb⟩:∃nb:Bool,nb=xA.isNone:=⟨_,rfl⟩;have HNB:=Zh hnb;clear hnb;go_cut [76] (fun c W=>c= .bool nb/\W=W0)
      case first=>
       have hq0:=zcf (P:=Tryz.prog) Tryz.underlying45;go_wp2_with fail
       go_meet
       exact⟨by rw[HNB.out],rfl⟩
      case rest=>
      obtain⟨rfl,hW⟩:=hcut;rw[hW];clear hW;go_upto_if 76 with fail
      go_cut [] (fun W=>∃A5 c5,Hid (W.heap[wr.heap.size]? =some (.cells #[.int .i64 j,.slice A5 pl c5] 116 (0,0)))/\Hid (Arr W A5 108 (zF pr))/\Hid (MapC W mb 0 [])/\Hid (Fm mb wr W))
      case first=>
       cases nb with
       |false=>
        rcases zpl.out with ⟨h,-⟩|⟨-,h⟩
        ·rw[h]at HNB;exact absurd HNB.out (by simp)
        ·have hpe:=HXE.out;rw[h,HPE.out]at hpe;subst hpe;have har:=HXO.out.1;simp only at har;rw[h]at har;have zpd:Hid (∃A5 c5,Hid (W0.heap[wr.heap.size]? =some (.cells #[.int .i64 j,.slice A5 pl c5] 116 (0,0)))/\Hid (Arr W0 A5 108 (zF pr))/\Hid (MapC W0 mb 0 [])/\Hid (Fm mb wr W0)):=Zh ⟨xA,xc,Zh (zh hxW HBM.out),Zh (har.ext hxrW),Zh (HM'.out.ext hxrW),Zh (Fm.of_ext hxrW)⟩;clear har h;go_wp2_with fail
         go_meet
         exact zpd.out
       |true=>
        rcases zpl.out with ⟨-,h2,-,-⟩|⟨h,-⟩
        ·rw[HXE.out]at h2;obtain⟨bl',ol',B,cb,hA,g0,hB,g2,g3,g4⟩:=HSY.out.list.a.at_ HY.out.1;injection hA with hA
         injection hA with z1 z2
         subst z1 z2;rw[(HPL.out L HP.out).zc y HY.out.2,HN.out]at g0 g2;have hx1W:Ext w1 W0:=zsT.trans hxrW;have g0':W0.cell? ⟨bl,ol+j,none⟩=some (.slice B n cb):=(zg w1).trans g0;have oLW:Old bl W0:=⟨Nat.lt_of_lt_of_le g4 hx1W.size⟩;have hFm0:Fm mb wM W0:=HF'.out.trans (Fm.of_ext hxrW);obtain⟨⟨h1',h2',h3'⟩,-,h4'⟩:=qs (hFm0.cells HM0.out HBX.out);have oBW:Old w1.heap.size W0:=⟨h4'⟩;have HMW:Hid (MapC W0 mb 0 []):=Zh (HM'.out.ext hxrW)
         have HBW:Hid (W0.heap[wr.heap.size]? =some (.cells #[.int .i64 j,.slice xA xl xc] 116 (0,0))):=Zh (zh hxW HBM.out);have zpx:Hid (∀W,Ext w1 W->MapC W mb 0 []->Cq 81 #[.agg #[.slice (some ⟨bl,ol,none⟩) q lc,.slice (some ⟨bn,on,none⟩) q nc,.slice DA q dc],.slice B n cb,.map (some mb)] W (jt W mb pr)):=Zh (fun W e hMC=>by
          rw[zpw.out];exact HPR.out w1 W (some ⟨bl,ol,none⟩) (some ⟨bn,on,none⟩) DA B lc nc dc cb mb q L y HP.out HY.out.2 HQ.out hB HSY.out hd1 hd2 e zro hMC)
         unfold jt at zpx;rw[HPE.out]at zpx;have HXW:=Zh hxrW;clear hB g0 HPR h2 hFm0 hxrW zsT c1 c2 c3 c4 oB e0 e1 hxm HSM;go_wp2_with fail
         go_region_law (first
          |(go_simp;go_at_call 81;refine(zpx.out _ Zi (HMW.out.ext Zi)).mono ?_;rintro e w5 ⟨A5,c5,rfl,hO5,hM5,hF5⟩;have hb5:=hF5.cells (HMW.out.ext Zi) (zh (Zi:Ext W0 _) HBW.out);have HB5:=Zh hb5;obtain⟨d0,d1,d2,d3,d4⟩:=j8 hb5;have oX:Old wr.heap.size w5:=⟨d4⟩;have HO5:=Zh hO5;have HM5:=Zh hM5;have HF5:=Zh hF5;have hs5:=hF5.size;clear hO5 hM5 hF5 hb5))
         all_goals
          have hr5:Fm mb wr w5:=(Fm.of_ext (HXW.out.trans Zi)).trans HF5.out;have hrW:Fm mb wr (w5.setCell ⟨wr.heap.size,1,none⟩ (.slice A5 pl c5)):=hr5.new (Below.setAt (n:=wr.heap.size) (p:=⟨wr.heap.size,1,none⟩) w5 Zr _);have hbW:=zY (i:=1) HB5.out (.slice A5 pl c5);have hmW:MapC (w5.setCell ⟨wr.heap.size,1,none⟩ (.slice A5 pl c5)) mb 0 []:=HM5.out.at_block (Below.heap_setCell w5 _ _ mb (Nat.ne_of_lt HM'.out.lt))
          have haW:Arr (w5.setCell ⟨wr.heap.size,1,none⟩ (.slice A5 pl c5)) A5 108 (zF pr):=(HO5.out.far (p:=⟨wr.heap.size,1,none⟩) HB5.out (by decide) (.slice A5 pl c5)).arr;have zpd:=Zh (And.intro hbW (And.intro haW (And.intro hmW hrW)));clear hr5 hrW hbW hmW haW HB5 HO5 HM5 HF5;go_wp2_with fail
          go_meet
          exact⟨A5,c5,Zh zpd.out.1,Zh zpd.out.2.1,Zh zpd.out.2.2.1,Zh zpd.out.2.2.2⟩
        ·have hn:=HNB.out
         cases xA with
         |none=>exact absurd rfl h
         |some a=>cases hn
      case rest=>
      obtain⟨A5,c5,HB5,HA5,HM5,HF5⟩:=hcut;obtain⟨W,hW⟩:=Xz wc;rw[<-hW]at HB5 HA5 HM5 HF5|-
      clear hW d0W d1W oMW hxW hxrW e0 e1 oG hgl;obtain⟨d0',d1',-,-,d4'⟩:=j8 HB5.out;have hrW:=HF5.out;have HFW:Hid (Fm mb wM W):=Zh (HF'.out.trans hrW);have HOW:Hid (Own W wM.heap.size 53 3 A2 k' c2' (ZT C')):=Zh (hrW.own HM'.out HO'.out);have HPW:Hid (Kp w3 W):=Zh (HKP.out.trans (Kp.of_fm hrW HM'.out));have HKW:Hid (∀x∈C',x.ok W):=Zh (fun x hx=>(HK'.out x hx).kp (Kp.of_fm hrW HM'.out));obtain⟨⟨h1',h2',h3'⟩,-,h4'⟩:=qs (HFW.out.cells HM0.out HBX.out)
      have oBW:Old w1.heap.size W:=⟨h4'⟩;have oXW:Old wr.heap.size W:=⟨d4'⟩;have hx1W:Ext w1 W:=Fm.ext0 hx1M zro HFW.out;have hsW:=HFW.out.size;have n5W:W.cell? ⟨bn,on+a,none⟩=some (.int .i64 na):=(zg w1).trans n5;have hkb:k'<=300000:=by have:=HKA.out;omega
      clear hrW c1 c2 c3 c4 oB HF' HM' HO' HK' HKP zsT;go_wp2_with fail
      go_region_law ((refine QJ _ rfl (.tmp 87) (.tmp 96) 42 rfl wM.heap.size 53 (.agg #[.int .i64 0,.slice none 0 0,.int .i64 0]) 3 40 Tryz.underlying42 zoL rfl (by decide) (by decide) A2 k' c2' (ZT C') (by simp[Act.eval]) (HOW.out.ext Zi) (some ⟨W.drew.heap.size,0,none⟩) 1 1 [.int .i64 na,.slice A5 pl c5,.int .i64 1] (by simp[Act.eval]) (Arr.new W.drew 53 #[.int .i64 na,.slice A5 pl c5,.int .i64 1]) rfl (by simp[Value.oneCell']) (by omega) (by simp;omega) ?_);intro A9 c9 w9 ztW hg9)
      all_goals
       have hxa:Ext W (W.drew.alloc (.cells #[.int .i64 na,.slice A5 pl c5,.int .i64 1] 53)):=(Zi:Ext W W.drew).trans Zi;have hK9:Kp W w9:=(Kp.of_ext hxa).trans (Kp.of_grow hg9);have hcf:ZT (C'++[⟨na,A5,c5,pr,1⟩])=ZT C'++[.int .i64 na,.slice A5 pl c5,.int .i64 1]:=by rw[zdX,<-HPE.out];rfl
       have hO9:Own w9 wM.heap.size 53 3 A9 (k'+1) c9 (ZT (C'++[⟨na,A5,c5,pr,1⟩])):=by rw[hcf];exact ztW
       have hM9:MapC w9 mb 0 []:=(HM5.out.ext hxa).grow hg9;have hF9:Fm mb wM w9:=(HFW.out.trans (Fm.of_ext hxa)).new hg9.below;have ztX:∀x∈C'++[(⟨na,A5,c5,pr,1⟩:CE)],x.ok w9:=fun x hx=>by
        rcases mem_append.1 hx with hx|hx
        ·exact(HKW.out x hx).kp hK9
        ·rw[mem_singleton.1 hx];exact CE.ok.kp (w:=W) ⟨HA5.out,by simp only[HPE.out];omega⟩ hK9
       have ztY:CountOK Z1 ((L.take a).map (Za m L)++(els.take (r+1)).map fun x=>(na,zA m L (L.getD x.i.toNat []))) ((C'++[(⟨na,A5,c5,pr,1⟩:CE)]).map CE.key):=by
        rw[hnx.out,<-List.append_assoc,map_append];exact HCT'.out.fresh jr zp6.out HNF.out
       have HO9:=Zh hO9;have HM9:=Zh hM9;have HF9:=Zh hF9;have HK9:=Zh ztX;have HC9:=Zh ztY;have HP9:=Zh (HPW.out.trans hK9);clear hxa hK9 hcf hO9 hM9 hF9 ztX ztY ztW hg9;go_wp2_with fail
       exact⟨⟨r+1,C'++[⟨na,A5,c5,pr,1⟩],A9,c9,k'+1,by omega,by go_num,rfl,Zh (by rw[List.length_append,HCL'.out];rfl),by omega,HO9,HK9,HC9,HM9,HF9,HP9,fun h=>by omega,Zh (fun _=>⟨C',_,rfl,rfl,by omega⟩)⟩,by simp[intOf];omega⟩
    ·obtain rfl:r=el:=by omega
     go_wp2_with fail
     have hbd:Bdry (L.map (zi m)) k:=Bdry.end_ (HPL.out L HP.out).srt hk1 zph.out (fun i y h1 h2 h3=>HK3.out i y h1 h2 h3) HK4.out;have hct:=HCT'.out;rw[List.take_of_length_le (l:=els) (by rw[HEL.out];exact Zr)]at hct;have zsW:CountOK Z1 ((L.take k).map (Za m L)) (C'.map CE.key):=hct.perm (zhH (by rw[HQ.out];omega) (by omega) HK3.out HMU.out.1);exact⟨⟨k,C',A2,c2',k',hk2,rfl,Zh hbd,rfl,by omega,HCL',HO',HK',Zh zsW,HM',HF'⟩,by simp[intOf];omega⟩
  ·obtain rfl:a=q:=by omega
   clear hlt;have zqg:L.take a=L:=List.take_of_length_le (by rw[HQ.out];exact Zr);have zpk:=HCT.out;rw[zqg]at zpk;go_wp2_with fail
   go_ret2
   have hsz:=HSZ.out;have zr4:=hs1.ext.size;have hxx:Ext w wr:=Fm.ext0 (hs1.ext.trans hx1M) (by omega) HF.out;refine⟨A',c',L,C,by rw[HCL.out];rfl,HP.out,?_,HK.out,zpk,hxx.toStep⟩;rw[HCL.out];exact HO.out.lower (by omega)
end
end Go.Proofs.YtpijjipngkdhdaaGreat
