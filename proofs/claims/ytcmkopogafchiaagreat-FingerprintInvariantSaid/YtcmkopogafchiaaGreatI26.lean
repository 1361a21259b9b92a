import Derived.Test.YtcmkopogafchiaaGreatI25
set_option maxHeartbeats 8000000
set_option linter.unusedVariables false
set_option linter.unusedSimpArgs false
namespace Go.Proofs.YtcmkopogafchiaaGreat
open List (mem_singleton mem_append map_append map_cons map_nil length_take mem_map map_map length_map)
variable {p:Addr} {b:Int} {L m:List (List Int)} {x y:List Int} {a c g k mb n zf:Nat} {A:Option Addr} {T:TypeId} {W w w' w0:World}
section
open Go.RowKit
def zjg(m L:List (List Int))(a k:Nat)(els:List ME):Prop:=
 (k=a+1/\els=[⟨a,none,0,[]⟩])∨(a+1<k/\(els.map fun x=>(x.i,x.p)).Perm ((List.range (k-a)).map fun j=>(((a+j:Nat):Int),zL m L (L.getD (a+j) [])))/\els.Pairwise (fun x y=>¬Zw y.p x.p<0))
def zcO(w:World)(mb:Nat)(m L:List (List Int))(a k:Nat)(e:Ending)(w':World):Prop:=
 ∃g c els,e= .returned (.slice (some ⟨g,0,none⟩) (List.length els) c)/\w.heap.size<=g/\MRow w' g els/\(∀x∈els,x.ok w')/\MapC w' mb 0 []/\Fm mb w w'/\zjg m L a k els
def meV(x:ME):List Value:=[.int .i64 x.i,.slice x.A x.p.length x.c]
def jx(l:List ME):List Value:=l.flatMap meV
theorem zqW(p q:List ME):jx (p++q)=jx p++jx q:=List.flatMap_append
theorem zjh:∀(p:List ME)(i:Nat)(c:ME),p[i]? =some c->(jx p)[2*i]? =some (.int .i64 c.i)/\(jx p)[2*i+1]? =some (.slice c.A c.p.length c.c)
 |[],i,c,h=>by simp at h
 |y::l,0,c,h=>by simp at h;subst h;exact⟨rfl,rfl⟩
 |y::l,i+1,c,h=>by
  have:=zjh l i c (by simpa using h);rw[show 2*(i+1)=2*i+2 by omega];exact this
theorem zji:(Tryz.prog.info? 82).map (fun i=>(i.zero,i.size,i.bytes))=some (some (.agg #[.int .i64 0,.slice none 0 0]),2,32):=by kernel_rfl
theorem zqX{els:List ME}(ho:Own w zf 82 2 A n c (jx els))(h0:0<n):∃g:Nat,A=some ⟨g,0,none⟩/\zf<=g/\MRow w g els:=by
 rcases ho.2 with ⟨-,hn⟩|⟨g,cap,cur,hv,h1,h2,h3,h4,h5,h6⟩
 ·omega
 ·injection hv with z1 _ z3
  refine⟨g,z1,h1,cur,h2,fun i x hx=>?_⟩;obtain⟨f0,f1⟩:=zjh els i x hx;have key:∀(j:Nat)(u:Value),(jx els)[j]? =some u->cur[j]? =some u:=fun j u hu=>by
   rw[<-h6,List.getElem?_take]at hu;split at hu
   ·simpa using hu
   ·cases hu
  exact⟨key _ _ f0,key _ _ f1⟩
theorem Fm.meok{L:List Kc}(h:Fm mb w w')(hm:MapC w mb n L){x:ME}(hx:x.ok w):x.ok w':=⟨h.arr hm hx.1,hx.2⟩
set_option maxRecDepth 20000 in
theorem zqY{LA NA DA:Option Addr}{lc nc dc q:Nat}(hS:SysV w0 m L LA NA DA)(hq:L.length=q)(hq8:q<=100000)(hdc:q<=dc)(zwj:dc<=9223372036854775807)(hmn:m.length=n)(hn:n<=1000)
  (zuo:(L.map (zi m)).Pairwise (·<=·)) (zsC:∀y∈L,y.length=n) (hnb:∀y∈L,0<=zi m y/\zi m y<=4611686018427387904) (hib:∀x∈L,∀y∈L,-4611686018427387904<=zC (zV m y) x/\zC (zV m y) x<=4611686018427387904)
  (hmb:w0.heap.size<=mb) (hM:MapC w mb 0 []) (hak:a<k) (hkq:k<=q) [hx:Ext w0 w]:
  Cq 41 #[.agg #[.slice LA q lc,.slice NA q nc,.slice DA q dc],.int .i64 a,.int .i64 k,.map (some mb)] w (zcO w mb m L a k):=by
 have zxQ:=hM.lt;have hw1:IntKind.i64.wrap ((a:Int)+1)=(a:Int)+1:=Iw;obtain⟨w1,zt1⟩:=Xz (w.alloc (.cells #[.slice LA q lc,.slice NA q nc,.slice DA q dc] 70));have hbx:w1.heap[w.heap.size]? =some (.cells #[.slice LA q lc,.slice NA q nc,.slice DA q dc] 70 (0,0)):=by rw[zt1];exact heap_alloc_new w _
 have hx1:Ext w w1:=by rw[zt1];infer_instance
 have hs1:w1.heap.size=w.heap.size+1:=by rw[zt1];simp
 have HM1:Hid (MapC w1 mb 0 []):=Zh (hM.ext hx1);have ztQ:Ext w0 w1:=hx.trans hx1;have HBX:=Zh hbx;have HS:=Zh hS;have HPR:Hid (∀(W:World)(XA:Option Addr)(xc:Nat)(x:List Int),x∈L->IntsA w0 XA x->Ext w0 W->MapC W mb 0 []->Cq 37 #[.agg #[.slice LA q lc,.slice NA q nc,.slice DA q dc],.slice XA n xc,.map (some mb)] W (jY W mb (zL m L x))):=Zh (fun W XA xc x hxL hX e hMC=>
  zeU (w0:=w0) (w:=W) hS hq hq8 hdc zwj hmn hn zuo hX (zsC x hxL) hnb (hib x hxL) hmb hMC)
 have HQ:=Zh hq;have zrv:=Zh zsC;unfold zcO;clear hS hq zuo zsC hnb hib hM hbx;by_cases hk1:k=a+1
 ·have hd:((k:Int)==(a:Int)+1)=true:=by simp[hk1]
  have HK1:=Zh hk1;clear hk1;go_enter Tryz.func41,Tryz.ntmps41;go_wp2_with fail
  go_ret;have hxx:Ext w1 (w1.alloc (.cells #[.int .i64 a,.slice none 0 0] 82)):=Zi;rw[<-zt1];refine⟨w.heap.size+1,1,[⟨a,none,0,[]⟩],rfl,by omega,⟨_,by rw[<-hs1];exact heap_alloc_new w1 _,fun i x hi=>?_⟩,fun x hxm=>?_,HM1.out.ext hxx,Fm.of_ext (hx1.trans hxx),.inl ⟨HK1.out,rfl⟩⟩
  ·rcases i with _|i
   ·simp at hi;subst hi;exact⟨rfl,rfl⟩
   ·simp at hi
  ·obtain rfl:=mem_singleton.1 hxm;exact⟨Arr.nil,by simp⟩
 ·have hd:((k:Int)==(a:Int)+1)=false:=by simp;omega
  obtain⟨l,hl⟩:=Xz (k-a);have hl2:2<=l:=by omega
  have hw2:IntKind.i64.wrap ((k:Int)-(a:Int))=(l:Int):=by rw[Iw];omega
  obtain⟨i0,hi1,hz,hs,hby⟩:=info_parts zji;obtain⟨w2,hmk,zun,zt2⟩:=run_make_own (P:=Tryz.prog) w1 w1.heap.size 79 82 i0 _ 2 Tryz.underlying79 hi1 hz hs .i64 .i64 l (by rw[hby];omega) (by simp[maxLen];omega) Zr;have ztD:Ext w1 w2:=⟨⟨zt2.os,zt2.tape,zt2.output,zt2.size,fun b hb=>zt2.block b hb (by simp)⟩⟩;have zss:Hid (Own w2 w1.heap.size 82 2 (some ⟨w1.heap.size,0,none⟩) 0 l []):=Zh zun;have HHL:=Zh hl
  have HW1:=Zh zt1;have HS1:=Zh hs1;clear zun zt2 hl hi1 hz hs hby zt1 hs1;go_enter Tryz.func41,Tryz.ntmps41;go_upto_region 3 with fail
  rw[<-HW1.out];clear HW1;go_upto_region 5 with fail
  have zuy:w1.heap.size<=w2.heap.size:=ztD.size;have HF2:Hid (Fm mb w1 w2):=Zh (Fm.of_ext ztD);have HM2:Hid (MapC w2 mb 0 []):=Zh (HM1.out.ext ztD);clear hmk;go_loopw [9,10] (fun ls i wr=>∃(j:Nat) (A:Option Addr) (c:Nat) (els:List ME),j<=l/\i= .int .i64 ((a:Int)+(j:Int))/\ls= .slice A j c/\Hid (Own wr w1.heap.size 82 2 A j c (jx els))/\Hid ((els.map fun x=>(x.i,x.p))=(List.range j).map fun r=>(((a+r:Nat):Int),zL m L (L.getD (a+r) [])))/\Hid (∀x∈els,x.ok wr)/\Hid (MapC wr mb 0 [])/\Hid (Fm mb w1 wr)) (fun _ i _=>k-(intOf i).toNat)
  case atStart=>exact⟨0,_,l,[],by omega,by simp,rfl,zss,Zh rfl,Zh (fun x hx=>by simp at hx),HM2,HF2⟩
  case round=>
   obtain⟨j,A,c,els,hj,rfl,rfl,HO,HEL,HOK,HM,HF⟩:=hrel;have ztf:Ext w0 wr:=Fm.ext0 ztQ hmb HF.out;have hsr:=HF.out.size;by_cases hjl:j<l
   ·obtain⟨y,hy⟩:∃y,L[a+j]? =some y:=⟨_,Ze (by rw[HQ.out];have:=HHL.out;omega)⟩;obtain⟨bl,ol,B,cb,rfl,e0,hB,e2,e3,e4⟩:=HS.out.list.a.at_ hy;rw[zrv.out y (Zm hy)]at e0 e2;have oL:Old bl w0:=⟨e4⟩;have e1:wr.cell? ⟨bl,ol+(a+j),none⟩=some (.slice B n cb):=(zh w0).trans e0;obtain⟨⟨c1,c2,c3⟩,-,c4⟩:=Qu (HF.out.cells HM1.out HBX.out);have oB:Old w.heap.size wr:=⟨c4⟩;have oLr:Old bl wr:=⟨Nat.lt_of_lt_of_le e4 ztf.size⟩
    have HPC:=Zh (HPR.out wr.drew B cb y (Zm hy) hB (ztf.trans Zi) (HM.out.ext Zi));have hgd:L.getD (a+j) []=y:=by simp[List.getD_eq_getElem?_getD,hy]
    obtain⟨p,hp⟩:=Xz (zL m L y);have hpl:p.length<=100000:=by
     have:=zeT m L y;rw[hp];rw[HQ.out]at this;omega
    rw[<-hp]at HPC;have HP:=Zh hp;have HGD:=Zh hgd;have HMD:Hid (MapC wr.drew mb 0 []):=Zh (HM.out.ext Zi);unfold jY at HPC;obtain⟨pl,hpe⟩:=Yz p.length;rw[hpe]at HPC hpl;have HPE:=Zh hpe;have zy6:a+j<q:=by have:=HHL.out;omega
    have zxT:a+j<k:=by have:=HHL.out;omega
    have hi0:(0:Int)<=(a:Int)+(j:Int):=by omega
    have hi1:(a:Int)+(j:Int)<(q:Int):=by omega
    have hi2:((a:Int)+(j:Int)).toNat=a+j:=by omega
    have hi3:((a:Int)+(j:Int))<(k:Int):=by omega
    clear hy hB e0 hgd hp hpe;go_wp2_with fail
    go_region_law (first
     |((refine jg _ rfl (.tmp 28) (.tmp 39) 79 rfl w1.heap.size 82 (.agg #[.int .i64 0,.slice none 0 0]) 2 32 Tryz.underlying79 zji rfl (by decide) (by decide) A j c (jx els) (by simp[Act.eval]) (HO5.out.ext Zi) (some ⟨w5.heap.size,0,none⟩) 1 1 [.int .i64 ((a:Int)+(j:Int)),.slice A5 pl c5] (by simp[Act.eval]) (Arr.new w5 82 #[.int .i64 ((a:Int)+(j:Int)),.slice A5 pl c5]) rfl (by simp[Value.oneCell']) (by omega) (by simp;omega) ?_);intro A6 c6 w6 zsJ hg6)
     |(go_simp;go_at_call 37;refine HPC.out.mono ?_;rintro e w5 ⟨A5,c5,rfl,hO5,hM5,hF5⟩;have HO5:=Zh (hF5.own HMD.out (HO.out.ext (Zi:Ext wr wr.drew)));have zst:=Zh hO5;have HM5:=Zh hM5;have HF5:=Zh hF5;have hs5:=hF5.size;have zy7:wr.heap.size<=w5.heap.size:=hs5;clear hO5 hM5 hF5))
    all_goals
     have hxa:Ext w5 (w5.alloc (.cells #[.int .i64 ((a:Int)+(j:Int)),.slice A5 pl c5] 82)):=Zi;have hO6:Own w6 w1.heap.size 82 2 A6 (j+1) c6 (jx (els++[⟨(a:Int)+(j:Int),A5,c5,p⟩])):=by
      rw[zqW,show jx [(⟨(a:Int)+(j:Int),A5,c5,p⟩:ME)]=[.int .i64 ((a:Int)+(j:Int)),.slice A5 pl c5] by rw[<-HPE.out];rfl];exact zsJ
     have hM6:MapC w6 mb 0 []:=(HM5.out.ext hxa).grow hg6;have hF6:Fm mb w1 w6:=(((HF.out.trans (Fm.of_ext (Zi:Ext wr wr.drew))).trans HF5.out).trans (Fm.of_ext hxa)).new hg6.below;have hk6:∀x:ME,x.ok (w5.alloc (.cells #[.int .i64 ((a:Int)+(j:Int)),.slice A5 pl c5] 82))->x.ok w6:=fun x hx=>⟨hx.1.keep fun b cs fr hb=>(hg6.heap hb (by decide)).trans hb.symm,hx.2⟩
     have zwq:∀x∈els++[(⟨(a:Int)+(j:Int),A5,c5,p⟩:ME)],x.ok w6:=fun x hx=>by
      rcases mem_append.1 hx with hx|hx
      ·exact hk6 x ((HF5.out.meok HMD.out ((HOK.out x hx).ext Zi)).ext hxa)
      ·obtain rfl:=mem_singleton.1 hx;exact hk6 _ (ME.ok.ext (w:=w5) ⟨zst.out.arr,by simp only[HPE.out];omega⟩ hxa)
     have zwr:((els++[(⟨(a:Int)+(j:Int),A5,c5,p⟩:ME)]).map fun x=>(x.i,x.p))=(List.range (j+1)).map fun r=>(((a+r:Nat):Int),zL m L (L.getD (a+r) [])):=by
      rw[map_append,HEL.out,List.range_succ,map_append];simp only[map_cons,map_nil,HGD.out,<-HP.out,Int.natCast_add]
     have HO6:=Zh hO6;have HM6:=Zh hM6;have HF6:=Zh hF6;have HK6:=Zh zwq;have HE6:=Zh zwr;clear hO6 hM6 hF6 zwq zwr hk6 zsJ hg6;go_wp2_with fail
     exact⟨⟨j+1,A6,c6,_,by omega,by go_num,rfl,HO6,HE6,HK6,HM6,HF6⟩,by simp[intOf];omega⟩
   ·obtain rfl:j=l:=by omega
    obtain⟨g,rfl,hbg,hrw⟩:=zqX HO.out (by omega);have zsB:els.length=j:=by have:=congrArg List.length HEL.out;simpa using this
    have zxT:((a:Int)+(j:Int))<(k:Int)↔False:=by have:=HHL.out;simp;omega
    have HSO:=Zh (zqV (cap:=c) hrw HOK.out zsB (by have:=HHL.out;omega));unfold zbF at HSO;go_wp2_with (go_at_call 67;refine HSO.out.mono ?_;rintro e w3 ⟨rfl,els',hp1,hp2,hp3,hp4,hs3⟩)
    go_ret;have hmg:mb≠g:=by have:=hx1.size;omega
    have hmw:mb<wr.heap.size:=HM.out.lt;refine⟨g,c,els',by rw[hp1.length_eq,zsB];rfl,by have:=hx1.size;omega,hp3,hp4,HM.out.at_block (hs3.1 mb hmw hmg),?_,.inr ⟨by have:=HHL.out;omega,?_,hp2.imp fun h=>by omega⟩⟩
    ·exact((Fm.of_ext hx1).trans HF.out).new (hs3.2 _ (by have:=hx1.size;omega))
    ·rw[<-HHL.out,<-HEL.out];exact hp1.map _
section
variable {κ:Type} [DecidableEq κ] {lt:κ->κ->Prop} [DecidableRel lt]
theorem zjj:∀(G:List (κ×Int))(k:κ),(∀c∈G,lt c.1 k)->ZG lt G k=G++[(k,1)]
 |[],_,_=>rfl
 |c::G,k,h=>by
  unfold ZG;rw[if_pos (h c (List.mem_cons_self ..)),zjj G k fun d hd=>h d (List.mem_cons_of_mem _ hd)];rfl
theorem zjk(O:STO lt):∀(G:List (κ×Int))(k:κ)(n:Int),(∀c∈G,lt c.1 k)->ZG lt (G++[(k,n)]) k=G++[(k,n+1)]
 |[],k,n,_=>by
  show ZG lt [(k,n)] k=_;unfold ZG;rw[if_neg (O.irr k),if_pos rfl];rfl
 |c::G,k,n,h=>by
  show ZG lt (c::(G++[(k,n)])) k=_;unfold ZG;rw[if_pos (h c (List.mem_cons_self ..)),zjk O G k n fun d hd=>h d (List.mem_cons_of_mem _ hd)];rfl
theorem CountOK.hit(O:STO lt){S:List κ}{C:List (κ×Int)}{k:κ}{n:Int}(h:CountOK lt S (C++[(k,n)])):CountOK lt (S++[k]) (C++[(k,n+1)]):=by
 rw[<-zjk O C k n fun c hc=>(List.pairwise_append.1 h.sorted).2.2 c hc _ (mem_singleton.2 rfl)];exact h.tally O k
theorem CountOK.fresh(O:STO lt){S:List κ}{C:List (κ×Int)}{k:κ}(h:CountOK lt S C)(hs:∀s∈S,¬lt k s)(hl:∀C0 d,C=C0++[d]->d.1≠k):CountOK lt (S++[k]) (C++[(k,1)]):=by
 rw[<-zjj (lt:=lt) C k]
 ·exact h.tally O k
 ·have hin:∀c∈C,c.1∈S:=fun c hc=>List.count_pos_iff.1 (by have:=(h.mem c).1 hc;omega)
  rcases List.eq_nil_or_concat C with rfl|⟨C0,d,rfl⟩
  ·intro c hc;simp at hc
  ·rw[List.concat_eq_append] at*
   have hd:lt d.1 k:=(O.tri (hl C0 d rfl)).resolve_right (hs _ (hin d (by simp)));intro c hc;rcases mem_append.1 hc with hc|hc
   ·exact O.trans ((List.pairwise_append.1 h.sorted).2.2 c hc d (mem_singleton.2 rfl)) hd
   ·rw[mem_singleton.1 hc];exact hd
end
structure CE where
 n:Int
 A:Option Addr
 c:Nat
 p:List Ct
 N:Int
def CE.key(x:CE):Ks×Int:=((x.n,x.p),x.N)
def ceV(x:CE):List Value:=[.int .i64 x.n,.slice x.A x.p.length x.c,.int .i64 x.N]
def ZL(l:List CE):List Value:=l.flatMap ceV
theorem zeZ(p q:List CE):ZL (p++q)=ZL p++ZL q:=List.flatMap_append
theorem ze0(p:List CE):(ZL p).length=p.length*3:=by
 induction p with
 |nil=>rfl
 |cons x l ih=>simp only[ZL,List.flatMap_cons,List.length_append,List.length_cons]at ih|-;rw[ih];simp[ceV];omega
theorem zbG:∀(p:List CE)(i:Nat)(c:CE),p[i]? =some c->(ZL p)[i*3]? =some (.int .i64 c.n)/\(ZL p)[i*3+1]? =some (.slice c.A c.p.length c.c)/\(ZL p)[i*3+2]? =some (.int .i64 c.N)
 |[],i,c,h=>by simp at h
 |y::l,0,c,h=>by simp at h;subst h;exact⟨rfl,rfl,rfl⟩
 |y::l,i+1,c,h=>by
  have:=zbG l i c (by simpa using h);rw[show (i+1)*3=i*3+3 by omega];exact this
theorem zqZ(C:List CE)(x:CE)(v:Int):ZL (C++[{x with N:=v}])=(ZL (C++[x])).set (C.length*3+2) (.int .i64 v):=by
 rw[zeZ,zeZ,List.set_append_right _ _ (by rw[ze0];omega),ze0,show C.length*3+2-C.length*3=2 by omega];rfl
theorem zq0:(Tryz.prog.info? 64).map (fun i=>(i.zero,i.size,i.bytes))=some (some (.agg #[.int .i64 0,.slice none 0 0,.int .i64 0]),3,40):=by kernel_rfl
def CE.ok(w:World)(x:CE):Prop:=Arr w x.A 45 (zP x.p)/\x.p.length<=1099511627776
theorem CE.ok.ct{x:CE}(h:x.ok w):CtV w x.A x.p:=⟨_,h.1⟩
def Kp(w w':World):Prop:=w.heap.size<=w'.heap.size/\∀(b:Nat)(cs:Array Value)(T:TypeId)(fr:Nat×Nat),T≠64->w.heap[b]? =some (.cells cs T fr)->w'.heap[b]? =some (.cells cs T fr)
theorem Kp.refl(w:World):Kp w w:=⟨Zr,fun _ _ _ _ _ h=>h⟩
theorem Kp.trans{a b c:World}(h:Kp a b)(h':Kp b c):Kp a c:=⟨Nat.le_trans h.1 h'.1,fun k cs T fr hn hk=>h'.2 k cs T fr hn (h.2 k cs T fr hn hk)⟩
theorem Kp.of_ext(h:Ext w w'):Kp w w':=⟨h.size,fun b _ _ _ _ hb=>(h.below.block b (zD hb)).trans hb⟩
theorem Kp.of_fm{L:List Kc}(h:Fm mb w w')(hm:MapC w mb n L):Kp w w':=⟨h.size,fun _ _ _ _ _ hb=>h.cells hm hb⟩
theorem Kp.of_grow(h:Grow zf 64 w w'):Kp w w':=⟨h.below.size,fun _ _ _ _ hn hb=>h.heap hb hn⟩
theorem Kp.of_set{cur:Array Value}{fr:Nat×Nat}(hg:w.heap[g]? =some (.cells cur 64 fr))(hp:p.block=g)(u:Value):Kp w (w.setCell p u):=by
 refine⟨Nat.le_of_eq (qG w p u).symm,fun b cs T fr' hn hb=>?_⟩;have hne:b≠p.block:=fun e=>by
  rw[e,hp,hg]at hb;injection hb with hb
  injection hb with _ hb
  exact hn hb.symm
 exact qj hb hne u
theorem Arr.kp{vs:List Value}(h:Arr w A T vs)(hk:Kp w w')(hT:T≠64):Arr w' A T vs:=
 h.keep fun _ _ _ hb=>(hk.2 _ _ _ _ hT hb).trans hb.symm
theorem CE.ok.kp{x:CE}(h:x.ok w)(hk:Kp w w'):x.ok w':=⟨h.1.kp hk (by decide),h.2⟩
theorem ME.ok.kp{x:ME}(h:x.ok w)(hk:Kp w w'):x.ok w':=⟨h.1.kp hk (by decide),h.2⟩
theorem MRow.kp{els:List ME}(h:MRow w g els)(hk:Kp w w'):MRow w' g els:=by
 obtain⟨cur,h1,h2⟩:=h;exact⟨cur,hk.2 _ _ _ _ (by decide) h1,h2⟩
theorem Below.setAt(w:World)(hp:n<=p.block)(u:Value):Below n w (w.setCell p u):=
 ⟨rfl,rfl,rfl,Nat.le_of_eq (qG w p u).symm,fun b hb=>Below.heap_setCell w p u b (by omega)⟩
theorem ze1{b:Nat}{x y:Value}(h:w.heap[b]? =some (.cells #[x,y] T (0,0))):w.cell? ⟨b,0,none⟩=some x/\w.cell? ⟨b,1,none⟩=some y/\w.frozen? ⟨b,0,none⟩=false/\w.frozen? ⟨b,1,none⟩=false/\b<w.heap.size:=
 ⟨by simp[World.cell?,h],by simp[World.cell?,h],by simp[World.frozen?,h],by simp[World.frozen?,h],zD h⟩
theorem ze2{xs:List Value}(ho:Own w zf 64 3 A n c xs)(h0:0<n):∃(g:Nat) (cur:Array Value),A=some ⟨g,0,none⟩/\zf<=g/\w.heap[g]? =some (.cells cur 64 (0,0))/\n<=c/\(∀(j:Nat)(u:Value),xs[j]? =some u->cur[j]? =some u)/\
  ∀(i:Nat)(u:Value),i<xs.length->Own (w.setCell ⟨g,i,none⟩ u) zf 64 3 A n c (xs.set i u):=by
 rcases ho.2 with ⟨-,hn⟩|⟨g,cap,cur,hv,h1,h2,h3,h4,h5,h6⟩
 ·omega
 ·injection hv with z1 _ z3
  subst z3;refine⟨g,cur,z1,h1,h2,h3,fun j u hu=>?_,fun i u hi=>⟨by simp[ho.1],.inr ⟨g,c,cur.set! i u,by rw[z1],h1,?_,h3,h4,by simpa using h5,?_⟩⟩⟩
  ·rw[<-h6,List.getElem?_take]at hu;split at hu
   ·simpa using hu
   ·cases hu
  ·rw[Zs h2];simp
  ·rw[<-h6]at hi|-
   apply List.ext_getElem?;intro j;simp only[length_take]at hi;simp only[List.getElem?_take,Array.getElem?_toList,List.getElem?_set,Array.set!_eq_setIfInBounds,Array.getElem?_setIfInBounds,length_take];split<;>rename_i hj
   ·split<;>rename_i he
    ·subst he;simp;omega
    ·rfl
   ·split<;>rename_i he
    ·omega
    ·rfl
theorem zjl{κ:Type}[DecidableEq κ]{lt:κ->κ->Prop}[DecidableRel lt](O:STO lt){S:List κ}(hS:S≠[]):ZZ lt S≠[]:=fun h=>by
 obtain⟨y,hy⟩:=List.exists_mem_of_ne_nil S hS;have h2:(y,(S.count y:Int))∈ZZ lt S:=((Jf O S).mem _).2 ⟨Int.natCast_pos.2 (List.count_pos_iff.2 hy),rfl⟩;rw[h]at h2
 cases h2
theorem zq1(hL:L≠[]):zL m L x≠[]:=zjl zbz fun h=>hL (List.map_eq_nil_iff.1 h)
theorem zq2{els:List ME}(h:zjg m L a k els)(hok:∀x∈els,x.ok w)(hkl:k<=L.length):
  (els.map fun x=>zL m L (L.getD x.i.toNat [])).Perm ((List.range (k-a)).map fun j=>zL m L (L.getD (a+j) []))/\
  (∀x∈els,(∃j:Nat,a<=j/\j<k/\x.i=(j:Int))/\((x.A=none/\x.c=0/\x.p=[]/\els.length=1)∨(x.A≠none/\x.p=zL m L (L.getD x.i.toNat []))))/\
  els.Pairwise (fun x y=>¬zZ (zL m L (L.getD y.i.toNat [])) (zL m L (L.getD x.i.toNat []))=true):=by
 rcases h with ⟨hk,rfl⟩|⟨hk,hp,hs⟩
 ·subst hk;refine⟨by simp,fun x hx=>?_,by simp⟩;rw[mem_singleton.1 hx];exact⟨⟨a,Zr,by omega,rfl⟩,.inl ⟨rfl,rfl,rfl,rfl⟩⟩
 ·have hx:∀x∈els,∃j:Nat,a<=j/\j<k/\x.i=(j:Int)/\x.p=zL m L (L.getD j []):=fun x hx=>by
   have h1:=hp.mem_iff.1 (List.mem_map_of_mem (f:=fun x:ME=>(x.i,x.p)) hx);obtain⟨j,hj,he⟩:=mem_map.1 h1;rw[List.mem_range]at hj;injection he with e1 e2
   exact⟨a+j,by omega,by omega,e1.symm,e2.symm⟩
  have hx2:∀x∈els,x.p=zL m L (L.getD x.i.toNat []):=fun x hxm=>by
   obtain⟨j,-,-,h3,h4⟩:=hx x hxm;rw[h3];exact h4
  refine⟨?_,fun x hxm=>?_,?_⟩
  ·have h1:=hp.map Prod.snd;rw[map_map,map_map]at h1;have h2:(els.map fun x=>zL m L (L.getD x.i.toNat []))=els.map (Prod.snd∘fun x:ME=>(x.i,x.p)):=List.map_congr_left fun x hxm=>(hx2 x hxm).symm
   rw[h2];exact h1
  ·obtain⟨j,h1,h2,h3,h4⟩:=hx x hxm;refine⟨⟨j,h1,h2,h3⟩,.inr ⟨fun hn=>?_,hx2 x hxm⟩⟩;have hne:x.p≠[]:=by
    rw[h4];have hL:L≠[]:=fun e=>by rw[e]at hkl;simp at hkl;omega
    exact zq1 hL
   have hA:=(hok x hxm).1;rw[hn]at hA;obtain⟨b,o,cs,fr,h,-⟩:=hA (by
    rw[QG];exact Nat.mul_pos (List.length_pos_iff.2 hne) (by decide))
   cases h
  ·refine List.Pairwise.imp_of_mem ?_ hs;intro x y hxm hym h;rw[<-hx2 x hxm,<-hx2 y hym,<-zbB];simpa using h
def Zz(m L:List (List Int))(y:List Int):Ks:=(zi m y,zL m L y)
def zjm(w:World)(m:List (List Int))(P:List (List Int)->Prop)(e:Ending)(w':World):Prop:=
 ∃A c L C,e= .returned (.tuple #[.slice A (List.length C) c,.int .i64 0])/\P L/\Own w' w.heap.size 64 3 A C.length c (ZL C)/\(∀x∈C,x.ok w')/\CountOK qL (L.map (Zz m L)) (C.map CE.key)/\Step w w'
theorem zq3{na:Int}{els:List ME}(hk:k<=L.length)(hak:a<=k)(hn:∀(j:Nat)(x:Int),a<=j->j<k->(L.map (zi m))[j]? =some x->x=na)
  (hp:(els.map fun x=>zL m L (L.getD x.i.toNat [])).Perm ((List.range (k-a)).map fun j=>zL m L (L.getD (a+j) []))):
  ((L.take a).map (Zz m L)++els.map fun x=>(na,zL m L (L.getD x.i.toNat []))).Perm ((L.take k).map (Zz m L)):=by
 have h1:=hp.map fun p=>(na,p)
 rw[map_map,map_map]at h1;have hsp:L.take k=L.take a++(L.take k).drop a:=by
  have h:=List.take_append_drop a (L.take k);rw[List.take_take,Nat.min_eq_left hak]at h;exact h.symm
 have h2:(List.range (k-a)).map ((fun p=>(na,p))∘fun j=>zL m L (L.getD (a+j) []))=((L.take k).drop a).map (Zz m L):=by
  apply List.ext_getElem
  ·simp;omega
  ·intro i h1 h2;simp only[length_map,List.length_range]at h1;simp only[List.getElem_map,List.getElem_range,Function.comp,List.getElem_drop,List.getElem_take];have hi:a+i<L.length:=by omega
   have hg:L.getD (a+i) []=L[a+i]:=by simp[hi]
   rw[hg];unfold Zz;rw[hn (a+i) (zi m L[a+i]) (by omega) (by omega) (by simp[hi])]
 rw[hsp,map_append,<-h2];exact(List.Perm.append_left _ h1)
set_option maxRecDepth 20000 in
theorem zjn{u:Int}{P:List (List Int)->Prop}(hM:MatA w0 A m)(hml:m.length<=1000)(zsD:∀r∈m,r.length<=m.length)
  (ztG:∀W,Ext w0 W->Cq 60 #[.slice A m.length c,.int .i64 b,.int .i64 u] W (zbD W P))
  (hP:∀L,P L->PrfL m L/\(∀x∈L,zaR m L x)) [hx:Ext w0 w]:
  Cq 19 #[.slice A m.length c,.int .i64 b,.int .i64 u] w (zjm w m P):=by
 have hPN:∀L,P L->L.length<=100000/\(∀y∈L,y.length=m.length)/\∀y∈L,-9223372036854775808<=zi m y/\zi m y<=9223372036854775807:=fun L hL=>by
  obtain⟨⟨h1,h2,-,h4⟩,-⟩:=hP L hL;exact⟨h1,h2,fun y hy=>by have:=h4 y hy;omega⟩
 have HNS:Hid (∀W,Ext w0 W->Cq 35 #[.slice A m.length c,.int .i64 b,.int .i64 u] W (zaQ W m P)):=Zh (fun W e=>zi9 (w:=W) hM hml zsD ztG hPN);have HPR:Hid (∀(W0 W:World)(LA NA DA XA:Option Addr)(lc nc dc xc mb q:Nat)(L:List (List Int))(x:List Int),P L->x∈L->L.length=q->IntsA W0 XA x->SysV W0 m L LA NA DA->q<=dc->dc<=9223372036854775807->Ext W0 W->W0.heap.size<=mb->MapC W mb 0 []->Cq 37 #[.agg #[.slice LA q lc,.slice NA q nc,.slice DA q dc],.slice XA m.length xc,.map (some mb)] W (jY W mb (zL m L x))):=Zh (fun W0 W LA NA DA XA lc nc dc xc mb q L x hL hxL hq hX hS h1 h2 e1 hmb hMC=>by
  obtain⟨hp,hi⟩:=hP L hL;subst hq;exact zeU (w0:=W0) (w:=W) hS rfl hp.len h1 h2 rfl hml hp.srt hX (hp.zd x hxL) hp.nb (hi x hxL) hmb hMC)
 have HME:Hid (∀(W0 W:World)(LA NA DA:Option Addr)(lc nc dc mb q a k:Nat)(n:Int)(L:List (List Int)),P L->L.length=q->SysV W0 m L LA NA DA->q<=dc->dc<=9223372036854775807->Ext W0 W->W0.heap.size<=mb->MapC W mb 0 []->a<k->k<=q->(∀(j:Nat)(x:Int),a<=j->j<k->(L.map (zi m))[j]? =some x->x=n)->Cq 41 #[.agg #[.slice LA q lc,.slice NA q nc,.slice DA q dc],.int .i64 a,.int .i64 k,.map (some mb)] W (zcO W mb m L a k)):=Zh (fun W0 W LA NA DA lc nc dc mb q a k n L hL hq hS h1 h2 e1 hmb hMC hak hkq hsh=>by
  obtain⟨hp,hi⟩:=hP L hL;subst hq;exact zqY (w0:=W0) (w:=W) hS rfl hp.len h1 h2 rfl hml hp.srt hp.zd hp.nb hi hmb hMC hak hkq)
 have HPL:Hid (∀L,P L->PrfL m L):=Zh (fun L hL=>(hP L hL).1);clear hPN ztG hP hM zsD;unfold zaQ at HNS;unfold jY at HPR;unfold zcO at HME;unfold zjm;obtain⟨n,hn⟩:=Yz m.length;rw[hn]at HNS HPR hml|-
 have HN:=Zh hn;clear hn;have hmk:=@run_makeMap Tryz.prog;go_enter Tryz.func19,Tryz.ntmps19;go_wp2_with (go_at_call 35;refine(HNS.out _ Zi).mono ?_;rintro e w1 ⟨LA,NA,DA,lc,nc,dc,L,rfl,hS,hPL,-,-,-,-,hd1,hd2,hs1⟩;have HSY:=Zh hS;have HP:=Zh hPL;clear hS hPL)
 obtain⟨q,hq⟩:=Yz L.length;rw[hq]at hd1;obtain⟨wB,hwB⟩:=Xz (w1.alloc (.cells #[.slice LA q lc,.slice NA q nc,.slice DA q dc] 70));obtain⟨wM,hwM⟩:=Xz (wB.alloc (.map #[] 0));have hxB:Ext w1 wB:=by rw[hwB];infer_instance
 have hxM:Ext wB wM:=by rw[hwM];infer_instance
 have hsB:wB.heap.size=w1.heap.size+1:=by rw[hwB];simp
 have hsM:wM.heap.size=w1.heap.size+2:=by rw[hwM];simp[hsB]
 have hbx:wB.heap[w1.heap.size]? =some (.cells #[.slice LA q lc,.slice NA q nc,.slice DA q dc] 70 (0,0)):=by rw[hwB];exact heap_alloc_new w1 _
 have HBX:=Zh (zk hxM hbx);have hm0:MapC wM wB.heap.size 0 []:=by rw[hwM];exact MapC.made wB
 rw[hsB]at hm0;rw[hq];rw[<-hwB,<-hwM];obtain⟨mb,hmb⟩:=Xz (w1.heap.size+1);rw[<-hmb]at hm0;have HM0:=Zh hm0;have hx1M:Ext w1 wM:=hxB.trans hxM;have HQ:=Zh hq;have HSZ:=Zh (And.intro hsM hmb);obtain⟨hqb,zy8⟩:q<=100000/\Hid (∀y∈L,0<=zi m y/\zi m y<=4611686018427387904):=⟨by rw[<-hq];exact(HPL.out L HP.out).len,Zh (HPL.out L HP.out).nb⟩;try rw[<-hmb]
 clear hwB hwM hsB hsM hbx hm0 hq hmb HNS hmk;go_loopw [10,12,13,14,16,17] (fun cl s _ _ _ _ wr=>∃(a:Nat) (C:List CE) (A':Option Addr) (c' k:Nat),a<=q/\s= .int .i64 a/\Hid (Bdry (L.map (zi m)) a)/\cl= .slice A' k c'/\k<=a/\Hid (C.length=k)/\Hid (Own wr wM.heap.size 64 3 A' k c' (ZL C))/\Hid (∀x∈C,x.ok wr)/\Hid (CountOK qL ((L.take a).map (Zz m L)) (C.map CE.key))/\Hid (MapC wr mb 0 [])/\Hid (Fm mb wM wr)) (fun _ s _ _ _ _ _=>q-(intOf s).toNat)
 case atStart=>exact⟨0,[],none,0,0,by omega,rfl,Zh (Bdry.zero _),rfl,by omega,Zh rfl,Zh (Own.nil _ _ _ _),Zh (fun x hx=>by simp at hx),Zh CountOK.nil,HM0,Zh (Fm.refl _ _)⟩
 case round=>
  obtain⟨a,C,A',c',k0,ha,rfl,HB,rfl,hka,HCL,HO,HK,HCT,HM,HF⟩:=hrel;have zuq:w1.heap.size<=mb:=by have:=HSZ.out;omega
  have zxU:Ext w1 wr:=Fm.ext0 hx1M zuq HF.out;obtain⟨⟨c1,c2,c3⟩,-,c4⟩:=Qu (HF.out.cells HM0.out HBX.out);have oB:Old w1.heap.size wr:=⟨c4⟩;by_cases hlt:a<q
  ·obtain⟨y0,hy0⟩:∃y,L[a]? =some y:=⟨_,Ze (by rw[HQ.out];exact hlt)⟩;obtain⟨na,hna⟩:∃v,zi m y0=v:=⟨_,rfl⟩;have ztw:(L.map (zi m))[a]? =some na:=by rw[List.getElem?_map,hy0,<-hna];rfl
   have hnl:(L.map (zi m)).length=q:=by rw[length_map];exact HQ.out
   have HSH:=Zh (fun W(e:Ext w1 W)=>zi6 (w:=W) (nc:=nc) (SL:= .slice LA q lc) (SD:= .slice DA q dc) HSY.out.norms ztw hnl (by omega));obtain⟨bl,ol,B0,cb0,rfl,-,-,-,-,d5⟩:=HSY.out.list.a.at_ (i:=a) (r:=y0) hy0;obtain⟨bn,on,na',rfl,zup,n5,n6⟩:=HSY.out.norms.at_ (i:=a) (by omega);rw[ztw]at zup;obtain rfl:na=na':=by injection zup
   have zrI:=Zh ztw;have HNL:=Zh hnl;have HNA:=Zh (And.intro hy0 hna);have oL:Old bl w1:=⟨d5⟩;have oN:Old bn w1:=⟨n6⟩;unfold zcN at HSH;clear hy0 hna ztw hnl;go_upto_region 10 with (go_at_call 40;refine(HSH.out _ Zi).mono ?_;rintro e w2 ⟨k,rfl,hk1,hk2,hk3,hk4,hs2⟩;rw[HNL.out]at hk2;have HK3:=Zh hk3;have HK4:=Zh hk4;clear hk3 hk4)
   have ztn:Ext wr w2:=Zi;have HF2:Hid (Fm mb wM w2):=Zh (HF.out.trans (Fm.of_ext ztn));have HM2:Hid (MapC w2 mb 0 []):=Zh (HM.out.ext ztn);have HO2:Hid (Own w2 wM.heap.size 64 3 A' k0 c' (ZL C)):=Zh (HO.out.ext ztn);have HK2:Hid (∀x∈C,x.ok w2):=Zh (fun x hx=>(HK.out x hx).kp (Kp.of_ext ztn));have HMC:=Zh (HME.out w1 w2 (some ⟨bl,ol,none⟩) (some ⟨bn,on,none⟩) DA lc nc dc mb q a k na L HP.out HQ.out HSY.out hd1 hd2 (zxU.trans ztn) zuq HM2.out hk1 hk2 HK3.out)
   clear HO HM HF HK HSH;go_wp2_with (go_at_call 41;refine HMC.out.mono ?_;rintro e w3 ⟨g,c3',els,rfl,hg3,hR3,hE3,hM3,hF3,hMO3⟩)
   obtain⟨el,hel⟩:=Yz els.length;rw[hel];have HMU:=Zh (zq2 hMO3 hE3 (by rw[HQ.out];omega));have HEL:=Zh hel;have zws:el=k-a:=by
    have h1:=HMU.out.1.length_eq;simp only[length_map,List.length_range]at h1;omega
   have HR3:=Zh hR3;have HE3:=Zh hE3;have HM3:=Zh hM3;have HF3:Hid (Fm mb wM w3):=Zh (HF2.out.trans hF3);have HO3:Hid (Own w3 wM.heap.size 64 3 A' k0 c' (ZL C)):=Zh (hF3.own HM2.out HO2.out);have HKC:Hid (∀x∈C,x.ok w3):=Zh (fun x hx=>(HK2.out x hx).kp (Kp.of_fm hF3 HM2.out));have HLO:Hid (∀s∈(L.take a).map (Zz m L),s.1<na):=Zh (fun s hs=>by
    obtain⟨y,hy,rfl⟩:=mem_map.1 hs;obtain⟨i,hi,he⟩:=List.mem_iff_getElem.1 hy;simp only[length_take]at hi;rw[List.getElem_take]at he;refine HB.out i a (zi m y) na (by omega) Zr ?_ zrI.out;rw[List.getElem?_map,Ze (by omega),he];rfl)
   clear hel hR3 hE3 hM3 hF3 hMO3 HMC HO2 HK2 HME c1 c2 c3 c4 oB;go_loopw [10,16,17,45] (fun cl _ _ ix wz=>∃(r:Nat) (C':List CE) (A2:Option Addr) (c2' k':Nat),r<=el/\ix= .int .i64 r/\cl= .slice A2 k' c2'/\Hid (C'.length=k')/\k'<=k0+r/\Hid (Own wz wM.heap.size 64 3 A2 k' c2' (ZL C'))/\Hid (∀x∈C',x.ok wz)/\Hid (CountOK qL ((L.take a).map (Zz m L)++(els.take r).map fun x=>(na,zL m L (L.getD x.i.toNat []))) (C'.map CE.key))/\Hid (MapC wz mb 0 [])/\Hid (Fm mb wM wz)/\Hid (Kp w3 wz)/\(r=0->k'=k0)/\Hid (0<r->∃C0 x,C'=C0++[x]/\x.n=na/\k0<k')) (fun _ _ _ ix _=>el-(intOf ix).toNat)
   case atStart=>exact⟨0,C,A',c',k0,by omega,rfl,rfl,HCL,by omega,HO3,HKC,Zh (by simpa using HCT.out),HM3,HF3,Zh (Kp.refl _),fun _=>rfl,Zh (fun h=>by omega)⟩
   case round=>
    obtain⟨r,C',A2,c2',k',hr,rfl,rfl,HCL',hk',HO',HK',HCT',HM',HF',HKP,hr0,HR1⟩:=hrel;by_cases hrl:r<el
    ·obtain⟨x,hxr⟩:∃x,els[r]? =some x:=⟨_,Ze (by rw[HEL.out];exact hrl)⟩;have hxm:=Zm hxr;obtain⟨⟨j,hj1,hj2,hxi⟩,zur⟩:=HMU.out.2.1 x hxm;obtain⟨y,hy⟩:∃y,L[j]? =some y:=⟨_,Ze (by rw[HQ.out];omega)⟩;have hyL:=Zm hy;have hgd:L.getD x.i.toNat []=y:=by rw[hxi];simp[List.getD_eq_getElem?_getD,hy]
     obtain⟨pr,hpr⟩:=Xz (zL m L y);rw[hgd,<-hpr]at zur;have zxV:pr.length<=100000:=by
      have:=zeT m L y;rw[hpr];rw[HQ.out]at this;omega
     have zt3:(els.take (r+1)).map (fun x=>((na,zL m L (L.getD x.i.toNat [])):Ks))=(els.take r).map (fun x=>(na,zL m L (L.getD x.i.toNat [])))++[(na,pr)]:=by
      rw[List.take_add_one,hxr,map_append];simp only[Option.toList,map_cons,map_nil,hgd,<-hpr]
     have zwt:∀s∈(L.take a).map (Zz m L)++(els.take r).map (fun x=>((na,zL m L (L.getD x.i.toNat [])):Ks)),¬qL (na,pr) s:=fun s hs hlt=>by
      rcases mem_append.1 hs with hs|hs
      ·have h1:=HLO.out s hs;rcases hlt with h|⟨h,-⟩
       ·simp only at h;omega
       ·simp only at h;omega
      ·obtain⟨z,hz,rfl⟩:=mem_map.1 hs;obtain⟨i,hi,he⟩:=List.mem_iff_getElem.1 hz;simp only[length_take]at hi;rw[List.getElem_take]at he;have h2:=(List.pairwise_iff_getElem.1 HMU.out.2.2) i r (by omega) (by rw[HEL.out];exact hrl) (by omega);have h3:els[r]'(by rw[HEL.out];exact hrl)=x:=(Zg.1 hxr).2;rw[h3,he,hgd,<-hpr]at h2;rcases hlt with h|⟨-,h⟩
       ·simp only at h;omega
       ·exact h2 h
     have zwu:x.ok wr:=(HE3.out x hxm).kp HKP.out;obtain⟨cur,hcg,zts⟩:=HR3.out.kp HKP.out;obtain⟨f0,f1⟩:=zts r x hxr;have e0:wr.cell? ⟨g,r*2,none⟩=some (.int .i64 x.i):=by rw[Nat.mul_comm];simpa[World.cell?,hcg] using f0
     have e1:wr.cell? ⟨g,r*2+1,none⟩=some (.slice x.A x.p.length x.c):=by rw[Nat.mul_comm];simpa[World.cell?,hcg] using f1
     have hgl:=zD hcg;have oG:Old g wr:=⟨hgl⟩;have zvq:Ext w1 wr:=Fm.ext0 hx1M zuq HF'.out;obtain⟨⟨c1,c2,c3⟩,-,c4⟩:=Qu (HF'.out.cells HM0.out HBX.out);have oB:Old w1.heap.size wr:=⟨c4⟩;obtain⟨xi,xA,xc,xp⟩:=x;simp only at hxi zur e0 e1;subst hxi;have hnx:=Zh zt3;have zsu:=Zh zwt;have HXR:=Zh hxr;have zru:=Zh hpr;have HY:=Zh (And.intro hy hyL);have HXO:=Zh zwu;clear zt3 zwt hxr hpr hy hyL hgd zts hcg f0 f1 zwu hxm
     have HNZ:Hid (r=0->∀C0 d,C'.map CE.key=C0++[d]->d.1≠(na,pr)):=Zh (fun hrz C0 d he hd=>by
      have hdm:d∈C'.map CE.key:=by rw[he];simp
      have h2:=(HCT'.out.mem d).1 hdm;have h3:d.1∈(L.take a).map (Zz m L)++(els.take r).map fun x=>(na,zL m L (L.getD x.i.toNat [])):=(@List.count_pos_iff _ instBEqOfDecidableEq Zi _ _).1 (by have:=h2.1;rw[h2.2]at this;exact Int.natCast_pos.1 this)
      rw[hrz,List.take_zero,map_nil,List.append_nil]at h3;have h4:=HLO.out _ h3;rw[hd]at h4;simp only at h4;omega)
     have hrb:r<100000:=by omega
     obtain⟨hb,ztF⟩:∃hb:Bool,(r=0/\k'=k0/\hb=false)∨(k0<k'/\∃(C0:List CE) (z:CE),C'=C0++[z]/\z.n=na/\hb=decide (z.p=xp)):=by
      rcases Nat.eq_zero_or_pos r with h0|h0
      ·exact⟨false,.inl ⟨h0,hr0 h0,rfl⟩⟩
      ·obtain⟨C0,z,h1,h2,h3⟩:=HR1.out h0;exact⟨_,.inr ⟨h3,C0,z,h1,h2,rfl⟩⟩
     have zrD:=Zh ztF;have zrJ:Hid ((xA=none/\xp.length=0/\xc=0/\k'=k0)∨(xA≠none/\xp=pr)):=Zh (by
      rcases zur with ⟨h1,h2,h3,h4⟩|h
      ·rw[HEL.out]at h4;exact .inl ⟨h1,by rw[h3];rfl,h2,hr0 (by omega)⟩
      ·exact .inr h)
     obtain⟨pl,hpl⟩:=Yz pr.length;obtain⟨xl,hxl⟩:=Yz xp.length;have zy9:xl<=100000:=by
      rcases zur with ⟨-,-,h3,-⟩|⟨-,h⟩
      ·rw[h3]at hxl;simp at hxl;omega
      ·rw[h]at hxl;omega
     have HPE:=Zh hpl;have HXE:=Zh hxl;rw[hpl]at zxV;rw[hxl]at e1;have hwk:IntKind.i64.wrap ((k':Int)-1)=(k':Int)-1:=Iw;obtain⟨wm,hwm⟩:=Xz (wr.alloc (.cells #[.int .i64 j,.slice xA xl xc] 82));have hxm:Ext wr wm:=by rw[hwm];infer_instance
     have hbm:wm.heap[wr.heap.size]? =some (.cells #[.int .i64 j,.slice xA xl xc] 82 (0,0)):=by rw[hwm];exact heap_alloc_new wr _
     have HBM:=Zh hbm;have hsm:wm.heap.size=wr.heap.size+1:=by rw[hwm];simp
     have HWM:=Zh hwm;have HSM:=Zh hsm;obtain⟨d0,d1,d2,d3,d4⟩:=ze1 hbm;have oM:Old wr.heap.size wm:=⟨d4⟩;have HKA:=Zh zws;have hji:(j:Int)<(q:Int):=by omega
     clear ztF zws hr0 HR1 hwm hbm hsm zur hpl hxl hj1 hj2;go_upto_region 14 with fail
     rw[<-HWM.out];go_cut [65] (fun c W=>c= .bool hb/\Ext wm W)
     case first=>
      rcases zrD.out with ⟨-,hk,hbf⟩|⟨hk,C0,z,hC,-,hbd⟩
      ·subst hk;have zxW:decide ((k':Int)-1≥(k':Int))=false:=by simp;omega
       have zxX:decide ((k':Int)<=(k':Int)-1)=false:=by simp;omega
       have HBF:=Zh hbf;clear hbf;go_quiet (fail)
       go_wp2_with fail
       go_meet
       exact⟨by rw[HBF.out],Zi⟩
      ·obtain⟨g2,cur2,hA2,-,hh2,-,zus,-⟩:=ze2 (HO'.out.ext hxm) (by omega);subst hA2;obtain⟨kl,hkl⟩:∃kl,k'=kl+1:=⟨k'-1,by omega⟩;have hc0:C0.length=kl:=by have:=HCL'.out;rw[hC]at this;simp at this;omega
       obtain⟨-,f1,-⟩:=zbG C' kl z (by rw[hC,List.getElem?_append_right (by omega),hc0,Nat.sub_self];rfl);have e5:wm.cell? ⟨g2,kl*3+1,none⟩=some (.slice z.A z.p.length z.c):=by simpa[World.cell?,hh2] using zus _ _ f1
       have oG2:Old g2 wm:=⟨zD hh2⟩;have hkt:((k':Int)-1).toNat=kl:=by omega
       have zxY:(0:Int)<=(k':Int)-1:=by omega
       have zxZ:(k':Int)-1<(k':Int):=by omega
       have zxW:decide ((k':Int)-1≥(k0:Int))=true:=by simp;omega
       have zxX:decide ((k0:Int)<=(k':Int)-1)=true:=by simp;omega
       have zvr:z.ok wm:=((HK'.out z (by rw[hC];simp)).kp (Kp.of_ext hxm));have zvs:=HXO.out;have hcz:(Zw z.p xp==0)=hb:=by
        rw[hbd,Bool.eq_iff_iff];simp[ziV]
       have HCP:=Zh (fun W(e:Ext wm W)=>zi5 (w:=W) (c:=z.c) (d:=xc) (zvr.ct.ext e) (zvs.ct.ext (hxm.trans e)) zvr.2 zvs.2);simp only at HCP;rw[HXE.out]at HCP;generalize Zw z.p xp=cv at hcz HCP;generalize z.p.length=zl at e5 HCP;clear hkl hC hc0 hbd zvr zvs hh2 zus f1 hk;go_region_with (go_at_call 42;refine(HCP.out _ Zi).mono ?_;rintro e w5 ⟨rfl,hG⟩;have hx5:=hG.ext)
       all_goals
        go_wp2_with fail
        go_meet
        exact⟨rfl,Ext.trans Zi hx5⟩
     case rest=>
     obtain⟨rfl,hxW⟩:=hcut;obtain⟨W0,hW0⟩:=Xz wc;rw[<-hW0]at hxW|-
     clear hW0;have hxrW:Ext wr W0:=hxm.trans hxW;have d1W:W0.cell? ⟨wr.heap.size,1,none⟩=some (.slice xA xl xc):=(zh wm).trans d1;have d0W:W0.cell? ⟨wr.heap.size,0,none⟩=some (.int .i64 j):=(zh wm).trans d0;have oMW:Old wr.heap.size W0:=⟨Nat.lt_of_lt_of_le d4 hxW.size⟩
     cases hb with
     |true=>
      obtain⟨hk,C0,z,hC,hzn,hzp⟩:k0<k'/\∃(C0:List CE) (z:CE),C'=C0++[z]/\z.n=na/\z.p=pr:=by
       rcases zrD.out with ⟨-,-,h⟩|⟨hk,C0,z,hC,hzn,hbd⟩
       ·cases h
       ·rcases zrJ.out with ⟨-,-,-,h⟩|⟨-,h⟩
        ·omega
        ·exact⟨hk,C0,z,hC,hzn,(of_decide_eq_true hbd.symm).trans h⟩
      obtain⟨g2,cur2,hA2,hg2,hh2,-,zus,zuc⟩:=ze2 (HO'.out.ext hxrW) (by omega);subst hA2;obtain⟨kl,hkl⟩:∃kl,k'=kl+1:=⟨k'-1,by omega⟩;have hc0:C0.length=kl:=by have:=HCL'.out;rw[hC]at this;simp at this;omega
      obtain⟨-,-,f2⟩:=zbG C' kl z (by rw[hC,List.getElem?_append_right (by omega),hc0,Nat.sub_self];rfl);have e5:W0.cell? ⟨g2,kl*3+2,none⟩=some (.int .i64 z.N):=by simpa[World.cell?,hh2] using zus _ _ f2
      have e6:W0.frozen? ⟨g2,kl*3+2,none⟩=false:=by simp[World.frozen?,hh2]
      have hkt:((k':Int)-1).toNat=kl:=by omega
      have zxY:(0:Int)<=(k':Int)-1:=by omega
      have zxZ:(k':Int)-1<(k':Int):=by omega
      have hct:=HCT'.out;rw[hC,map_append]at hct;have hN:0<z.N/\z.N<=200000:=by
       have h1:=(hct.mem z.key).1 (by simp);have h2:=@List.count_le_length _ instBEqOfDecidableEq z.key.1 ((L.take a).map (Zz m L)++(els.take r).map fun x=>((na,zL m L (L.getD x.i.toNat [])):Ks));simp only[List.length_append,length_map,length_take]at h2;have h3:=h1.2;have h4:z.key.2=z.N:=rfl;have h5:=HKA.out;omega
      have hwN:IntKind.i64.wrap (z.N+1)=z.N+1:=Iw;have HO9:Hid (Own (W0.setCell ⟨g2,kl*3+2,none⟩ (.int .i64 (z.N+1))) wM.heap.size 64 3 (some ⟨g2,0,none⟩) k' c2' (ZL (C0++[{z with N:=z.N+1}]))):=Zh (by
       have h:=zuc (kl*3+2) (.int .i64 (z.N+1)) (by rw[ze0,HCL'.out];omega);rw[zqZ,hc0,<-hC];exact h)
      have hKp:Kp wr (W0.setCell ⟨g2,kl*3+2,none⟩ (.int .i64 (z.N+1))):=(Kp.of_ext hxrW).trans (Kp.of_set hh2 rfl _);have HK9:Hid (∀x∈C0++[{z with N:=z.N+1}],x.ok (W0.setCell ⟨g2,kl*3+2,none⟩ (.int .i64 (z.N+1)))):=Zh (fun x hx=>by
       rcases mem_append.1 hx with hx|hx
       ·exact(HK'.out x (by rw[hC];simp[hx])).kp hKp
       ·rw[mem_singleton.1 hx];exact CE.ok.kp (x:=z) (HK'.out z (by rw[hC];simp)) hKp)
      have HC9:Hid (CountOK qL ((L.take a).map (Zz m L)++(els.take (r+1)).map fun x=>(na,zL m L (L.getD x.i.toNat []))) ((C0++[{z with N:=z.N+1}]).map CE.key)):=Zh (by
       rw[hnx.out,<-List.append_assoc,map_append];have hkz:CE.key z=((na,pr),z.N):=by rw[<-hzn,<-hzp];rfl
       simp only[map_cons,map_nil,hkz]at hct;have h:=hct.hit JF;rw[<-hzn,<-hzp]at h|-
       exact h)
      have zx0:mb≠g2:=by have:=HSZ.out;omega
      have HM9:Hid (MapC (W0.setCell ⟨g2,kl*3+2,none⟩ (.int .i64 (z.N+1))) mb 0 []):=Zh ((HM'.out.ext hxrW).at_block (Below.heap_setCell W0 _ _ mb zx0));have HF9:Hid (Fm mb wM (W0.setCell ⟨g2,kl*3+2,none⟩ (.int .i64 (z.N+1)))):=Zh ((HF'.out.trans (Fm.of_ext hxrW)).new (Below.setAt W0 hg2 _));have HP9:=Zh (HKP.out.trans hKp);have HL9:Hid ((C0++[{z with N:=z.N+1}]).length=k'):=Zh (by simp[hc0,hkl])
      have HZN:=Zh hzn;have oG2:Old g2 W0:=⟨zD hh2⟩;clear hKp zuc hct hC hc0 hzn hzp zus hh2 f2 hkl zrD HNZ;go_wp2_with fail
      exact⟨⟨r+1,C0++[{z with N:=z.N+1}],some ⟨g2,0,none⟩,c2',k',by omega,by go_num,rfl,HL9,by omega,HO9,HK9,HC9,HM9,HF9,HP9,fun h=>by omega,Zh (fun _=>⟨C0,_,rfl,HZN.out,hk⟩)⟩,by simp[intOf];omega⟩
     |false=>
      have HNF:Hid (∀C1 d,C'.map CE.key=C1++[d]->d.1≠(na,pr)):=Zh (by
       rcases zrD.out with ⟨h1,-,-⟩|⟨hk,C0,z,hC,-,hbd⟩
       ·exact HNZ.out h1
       ·intro C1 d he hd;rcases zrJ.out with ⟨-,-,-,h⟩|⟨-,h⟩
        ·omega
        ·rw[hC,map_append]at he;obtain⟨-,he⟩:=List.append_inj' he rfl;injection he with he
         rw[<-he]at hd;refine of_decide_eq_false hbd.symm ?_;rw[h];exact congrArg Prod.snd hd)
      have zza:k0<=k':=by rcases zrD.out with ⟨-,h,-⟩|⟨h,-⟩<;>omega
      clear zrD HNZ;go_upto_region 16 with fail
      obtain⟨nb,hnb⟩:∃nb:Bool,nb=xA.isNone:=⟨_,rfl⟩;have HNB:=Zh hnb;clear hnb;go_cut [76] (fun c W=>c= .bool nb/\W=W0)
      case first=>
       have hq0:=zc6 (P:=Tryz.prog) Tryz.underlying30;go_wp2_with fail
       go_meet
       exact⟨by rw[HNB.out],rfl⟩
      case rest=>
      obtain⟨rfl,hW⟩:=hcut;rw[hW];clear hW;go_upto_if 76 with fail
      go_cut [] (fun W=>∃A5 c5,Hid (W.heap[wr.heap.size]? =some (.cells #[.int .i64 j,.slice A5 pl c5] 82 (0,0)))/\Hid (Arr W A5 45 (zP pr))/\Hid (MapC W mb 0 [])/\Hid (Fm mb wr W))
      case first=>
       cases nb with
       |false=>
        rcases zrJ.out with ⟨h,-⟩|⟨-,h⟩
        ·rw[h]at HNB;exact absurd HNB.out (by simp)
        ·have hpe:=HXE.out;rw[h,HPE.out]at hpe;subst hpe;have har:=HXO.out.1;simp only at har;rw[h]at har;have zry:Hid (∃A5 c5,Hid (W0.heap[wr.heap.size]? =some (.cells #[.int .i64 j,.slice A5 pl c5] 82 (0,0)))/\Hid (Arr W0 A5 45 (zP pr))/\Hid (MapC W0 mb 0 [])/\Hid (Fm mb wr W0)):=Zh ⟨xA,xc,Zh (zk hxW HBM.out),Zh (har.ext hxrW),Zh (HM'.out.ext hxrW),Zh (Fm.of_ext hxrW)⟩;clear har h;go_wp2_with fail
         go_meet
         exact zry.out
       |true=>
        rcases zrJ.out with ⟨-,h2,-,-⟩|⟨h,-⟩
        ·rw[HXE.out]at h2;obtain⟨bl',ol',B,cb,hA,g0,hB,g2,g3,g4⟩:=HSY.out.list.a.at_ HY.out.1;injection hA with hA
         injection hA with z1 z2
         subst z1 z2;rw[(HPL.out L HP.out).zd y HY.out.2,HN.out]at g0 g2;have hx1W:Ext w1 W0:=zvq.trans hxrW;have g0':W0.cell? ⟨bl,ol+j,none⟩=some (.slice B n cb):=(zh w1).trans g0;have oLW:Old bl W0:=⟨Nat.lt_of_lt_of_le g4 hx1W.size⟩;have hFm0:Fm mb wM W0:=HF'.out.trans (Fm.of_ext hxrW);obtain⟨⟨h1',h2',h3'⟩,-,h4'⟩:=Qu (hFm0.cells HM0.out HBX.out);have oBW:Old w1.heap.size W0:=⟨h4'⟩;have HMW:Hid (MapC W0 mb 0 []):=Zh (HM'.out.ext hxrW)
         have HBW:Hid (W0.heap[wr.heap.size]? =some (.cells #[.int .i64 j,.slice xA xl xc] 82 (0,0))):=Zh (zk hxW HBM.out);have zrV:Hid (∀W,Ext w1 W->MapC W mb 0 []->Cq 37 #[.agg #[.slice (some ⟨bl,ol,none⟩) q lc,.slice (some ⟨bn,on,none⟩) q nc,.slice DA q dc],.slice B n cb,.map (some mb)] W (jY W mb pr)):=Zh (fun W e hMC=>by
          rw[zru.out];exact HPR.out w1 W (some ⟨bl,ol,none⟩) (some ⟨bn,on,none⟩) DA B lc nc dc cb mb q L y HP.out HY.out.2 HQ.out hB HSY.out hd1 hd2 e zuq hMC)
         unfold jY at zrV;rw[HPE.out]at zrV;have HXW:=Zh hxrW;clear hB g0 HPR h2 hFm0 hxrW zvq c1 c2 c3 c4 oB e0 e1 hxm HSM;go_wp2_with fail
         go_region_law (first
          |(go_simp;go_at_call 37;refine(zrV.out _ Zi (HMW.out.ext Zi)).mono ?_;rintro e w5 ⟨A5,c5,rfl,hO5,hM5,hF5⟩;have hb5:=hF5.cells (HMW.out.ext Zi) (zk (Zi:Ext W0 _) HBW.out);have HB5:=Zh hb5;obtain⟨d0,d1,d2,d3,d4⟩:=ze1 hb5;have oX:Old wr.heap.size w5:=⟨d4⟩;have HO5:=Zh hO5;have HM5:=Zh hM5;have HF5:=Zh hF5;have hs5:=hF5.size;clear hO5 hM5 hF5 hb5))
         all_goals
          have hr5:Fm mb wr w5:=(Fm.of_ext (HXW.out.trans Zi)).trans HF5.out;have hrW:Fm mb wr (w5.setCell ⟨wr.heap.size,1,none⟩ (.slice A5 pl c5)):=hr5.new (Below.setAt (n:=wr.heap.size) (p:=⟨wr.heap.size,1,none⟩) w5 Zr _);have hbW:=Zs (i:=1) HB5.out (.slice A5 pl c5);have hmW:MapC (w5.setCell ⟨wr.heap.size,1,none⟩ (.slice A5 pl c5)) mb 0 []:=HM5.out.at_block (Below.heap_setCell w5 _ _ mb (Nat.ne_of_lt HM'.out.lt))
          have haW:Arr (w5.setCell ⟨wr.heap.size,1,none⟩ (.slice A5 pl c5)) A5 45 (zP pr):=(HO5.out.far (p:=⟨wr.heap.size,1,none⟩) HB5.out (by decide) (.slice A5 pl c5)).arr;have zry:=Zh (And.intro hbW (And.intro haW (And.intro hmW hrW)));clear hr5 hrW hbW hmW haW HB5 HO5 HM5 HF5;go_wp2_with fail
          go_meet
          exact⟨A5,c5,Zh zry.out.1,Zh zry.out.2.1,Zh zry.out.2.2.1,Zh zry.out.2.2.2⟩
        ·have hn:=HNB.out
         cases xA with
         |none=>exact absurd rfl h
         |some a=>cases hn
      case rest=>
      obtain⟨A5,c5,HB5,HA5,HM5,HF5⟩:=hcut;obtain⟨W,hW⟩:=Xz wc;rw[<-hW]at HB5 HA5 HM5 HF5|-
      clear hW d0W d1W oMW hxW hxrW e0 e1 oG hgl;obtain⟨d0',d1',-,-,d4'⟩:=ze1 HB5.out;have hrW:=HF5.out;have HFW:Hid (Fm mb wM W):=Zh (HF'.out.trans hrW);have HOW:Hid (Own W wM.heap.size 64 3 A2 k' c2' (ZL C')):=Zh (hrW.own HM'.out HO'.out);have HPW:Hid (Kp w3 W):=Zh (HKP.out.trans (Kp.of_fm hrW HM'.out));have HKW:Hid (∀x∈C',x.ok W):=Zh (fun x hx=>(HK'.out x hx).kp (Kp.of_fm hrW HM'.out));obtain⟨⟨h1',h2',h3'⟩,-,h4'⟩:=Qu (HFW.out.cells HM0.out HBX.out)
      have oBW:Old w1.heap.size W:=⟨h4'⟩;have oXW:Old wr.heap.size W:=⟨d4'⟩;have hx1W:Ext w1 W:=Fm.ext0 hx1M zuq HFW.out;have hsW:=HFW.out.size;have n5W:W.cell? ⟨bn,on+a,none⟩=some (.int .i64 na):=(zh w1).trans n5;have hkb:k'<=300000:=by have:=HKA.out;omega
      clear hrW c1 c2 c3 c4 oB HF' HM' HO' HK' HKP zvq;go_wp2_with fail
      go_region_law ((refine jg _ rfl (.tmp 87) (.tmp 96) 37 rfl wM.heap.size 64 (.agg #[.int .i64 0,.slice none 0 0,.int .i64 0]) 3 40 Tryz.underlying37 zq0 rfl (by decide) (by decide) A2 k' c2' (ZL C') (by simp[Act.eval]) (HOW.out.ext Zi) (some ⟨W.drew.heap.size,0,none⟩) 1 1 [.int .i64 na,.slice A5 pl c5,.int .i64 1] (by simp[Act.eval]) (Arr.new W.drew 64 #[.int .i64 na,.slice A5 pl c5,.int .i64 1]) rfl (by simp[Value.oneCell']) (by omega) (by simp;omega) ?_);intro A9 c9 w9 zwv hg9)
      all_goals
       have hxa:Ext W (W.drew.alloc (.cells #[.int .i64 na,.slice A5 pl c5,.int .i64 1] 64)):=(Zi:Ext W W.drew).trans Zi;have hK9:Kp W w9:=(Kp.of_ext hxa).trans (Kp.of_grow hg9);have hcf:ZL (C'++[⟨na,A5,c5,pr,1⟩])=ZL C'++[.int .i64 na,.slice A5 pl c5,.int .i64 1]:=by rw[zeZ,<-HPE.out];rfl
       have hO9:Own w9 wM.heap.size 64 3 A9 (k'+1) c9 (ZL (C'++[⟨na,A5,c5,pr,1⟩])):=by rw[hcf];exact zwv
       have hM9:MapC w9 mb 0 []:=(HM5.out.ext hxa).grow hg9;have hF9:Fm mb wM w9:=(HFW.out.trans (Fm.of_ext hxa)).new hg9.below;have zww:∀x∈C'++[(⟨na,A5,c5,pr,1⟩:CE)],x.ok w9:=fun x hx=>by
        rcases mem_append.1 hx with hx|hx
        ·exact(HKW.out x hx).kp hK9
        ·rw[mem_singleton.1 hx];exact CE.ok.kp (w:=W) ⟨HA5.out,by simp only[HPE.out];omega⟩ hK9
       have zwx:CountOK qL ((L.take a).map (Zz m L)++(els.take (r+1)).map fun x=>(na,zL m L (L.getD x.i.toNat []))) ((C'++[(⟨na,A5,c5,pr,1⟩:CE)]).map CE.key):=by
        rw[hnx.out,<-List.append_assoc,map_append];exact HCT'.out.fresh JF zsu.out HNF.out
       have HO9:=Zh hO9;have HM9:=Zh hM9;have HF9:=Zh hF9;have HK9:=Zh zww;have HC9:=Zh zwx;have HP9:=Zh (HPW.out.trans hK9);clear hxa hK9 hcf hO9 hM9 hF9 zww zwx zwv hg9;go_wp2_with fail
       exact⟨⟨r+1,C'++[⟨na,A5,c5,pr,1⟩],A9,c9,k'+1,by omega,by go_num,rfl,Zh (by rw[List.length_append,HCL'.out];rfl),by omega,HO9,HK9,HC9,HM9,HF9,HP9,fun h=>by omega,Zh (fun _=>⟨C',_,rfl,rfl,by omega⟩)⟩,by simp[intOf];omega⟩
    ·obtain rfl:r=el:=by omega
     go_wp2_with fail
     have hbd:Bdry (L.map (zi m)) k:=Bdry.end_ (HPL.out L HP.out).srt hk1 zrI.out (fun i y h1 h2 h3=>HK3.out i y h1 h2 h3) HK4.out;have hct:=HCT'.out;rw[List.take_of_length_le (l:=els) (by rw[HEL.out];exact Zr)]at hct;have zx1:CountOK qL ((L.take k).map (Zz m L)) (C'.map CE.key):=hct.perm (zq3 (by rw[HQ.out];omega) (by omega) HK3.out HMU.out.1);exact⟨⟨k,C',A2,c2',k',hk2,rfl,Zh hbd,rfl,by omega,HCL',HO',HK',Zh zx1,HM',HF'⟩,by simp[intOf];omega⟩
  ·obtain rfl:a=q:=by omega
   clear hlt;have zsE:L.take a=L:=List.take_of_length_le (by rw[HQ.out];exact Zr);have zr4:=HCT.out;rw[zsE]at zr4;go_wp2_with fail
   go_ret2
   have hsz:=HSZ.out;have zuy:=hs1.ext.size;have hxx:Ext w wr:=Fm.ext0 (hs1.ext.trans hx1M) (by omega) HF.out;refine⟨A',c',L,C,by rw[HCL.out];rfl,HP.out,?_,HK.out,zr4,hxx.toStep⟩;rw[HCL.out];exact HO.out.lower (by omega)
def jy:List Ct:=[((2,1),2),((2,2),1)]
theorem zq4:∀y∈jo,zL m2 jo y=jy:=by decide
theorem zq5:ZZ qL (jo.map (Zz m2 jo))=[((2,jy),3)]:=by decide
theorem zjo:PrfL m2 jo:=⟨by decide,by decide,by decide,by decide⟩
theorem zjp:∀x∈jo,zaR m2 jo x:=by unfold zaR;decide
theorem zjq(hM:Mat64 W A m2):Cq 60 #[.slice A 2 2,.int .i64 2,.int .i64 100] W (zbD W fun L=>L=jo):=
 (zgC (w0:=W) (w:=W) (c:=2) (st:=[3,7]) hM.a (by decide) (by decide) zmt zms (by decide) (by decide) (by decide) (by decide) (by decide)).mono fun e w'⟨B,c,L,he,h1,h2,h3,hp,hw,hs⟩=>by
  obtain rfl:=zmv hp hw;exact⟨B,c,_,_,he,h1,h2,h3,rfl,hs⟩
theorem zq6{X:Option Addr}(hM:Mat64 W A m2)(hX:Ints W X 2 .i64 [1,0]):
  Cq 15 #[.slice A 2 2,.int .i64 2,.int .i64 100,.slice X 2 2] W fun e w'=>∃B c,e= .returned (.tuple #[.slice B 2 c,.int .i64 0])/\Arr w' B 45 (zP jy)/\Step W w':=
 (zqB (w0:=W) (w:=W) (c:=2) (d:=2) (P:=fun L=>L=jo) hM.a (by decide) (by decide) zgE hX rfl (by decide) (by decide) (fun W' e=>zjq (hM.ext e)) (fun L hL=>by
  rw[hL];exact⟨zjo,zjp [1,0] (by decide)⟩)).mono fun e w'⟨B,c,L,he,hL,hO,hs⟩=>by
  rw[hL,zq4 [1,0] (by decide)]at he hO;exact⟨B,c,he,hO.arr,hs⟩
theorem zq7(hM:Mat64 W A m2):
  Cq 19 #[.slice A 2 2,.int .i64 2,.int .i64 100] W fun e w'=>∃g c D d,e= .returned (.tuple #[.slice (some ⟨g,0,none⟩) 1 c,.int .i64 0])/\w'.cell? ⟨g,0,none⟩=some (.int .i64 2)/\w'.cell? ⟨g,1,none⟩=some (.slice D 2 d)/\w'.cell? ⟨g,2,none⟩=some (.int .i64 3)/\g<w'.heap.size/\Arr w' D 45 (zP jy)/\Step W w':=
 (zjn (w0:=W) (w:=W) (c:=2) (P:=fun L=>L=jo) hM.a (by decide) (by decide) (fun W' e=>zjq (hM.ext e)) (fun L hL=>by
  rw[hL];exact⟨zjo,zjp⟩)).mono fun e w'⟨A,c,L,C,he,hL,hO,hok,hct,hs⟩=>by
  rw[hL]at hct;have hk:=(hct.unique JF (Jf JF _)).trans zq5;have zsB:C.length=1:=by have:=congrArg List.length hk;simpa using this
  match C,zsB with
  |[x],_=>
   simp only[map_cons,map_nil,List.cons.injEq,and_true]at hk;have e1:x.n=2:=congrArg (fun z=>z.1.1) hk;have e2:x.p=jy:=congrArg (fun z=>z.1.2) hk;have e3:x.N=3:=congrArg (fun z=>z.2) hk;obtain⟨g,cur,rfl,-,hh,-,zte,-⟩:=ze2 hO (by simp);obtain⟨f0,f1,f2⟩:=zbG [x] 0 x rfl;rw[e1]at f0;rw[e2,show jy.length=2 from rfl]at f1;rw[e3]at f2;have har:=(hok x (by simp)).1;rw[e2]at har;exact⟨g,c,x.A,x.c,he,by simpa[World.cell?,hh] using zte _ _ f0,by simpa[World.cell?,hh] using zte _ _ f1,by simpa[World.cell?,hh] using zte _ _ f2,zD hh,har,hs⟩
set_option maxRecDepth 20000 in
theorem zq8 :Cq 18 #[] w (zF w (.bool true)):=by
 have HSP:Hid (∀W B c D d,Arr W B 45 (zP jy)->Arr W D 45 (zP jy)->Cq 17 #[.slice B 2 c,.slice D 2 d] W (zF W (.bool true))):=Zh (fun W B c D d h1 h2=>by
  have h:=zi2 (w0:=W) (w:=W) (c:=c) (d:=d) (p:=jy) (q:=jy) ⟨_,h1⟩ ⟨_,h2⟩ (by decide) (by decide);rw[decide_eq_true rfl]at h;exact h)
 have HPF:=Zh (fun W A X(h1:Mat64 W A m2)(h2:Ints W X 2 .i64 [1,0])=>zq6 h1 h2);have HSG:=Zh (fun W A(h1:Mat64 W A m2)=>zq7 h1);have zsv:Hid (∀(W:World)(n:Nat)[Sz W n],Ints (W.alloc (.cells #[.int .i64 1,.int .i64 0] 2)) (some ⟨n,0,none⟩) 2 .i64 [1,0]):=Zh (fun W n h=>by rw[<-h.eq];exact Arr.new W 2 #[.int .i64 1,.int .i64 0]);have HLT:Hid (∀(W:World)(n:Nat)[Sz W n],Arr (W.alloc (.cells #[.int .i64 2,.int .i64 1,.int .i64 2,.int .i64 2,.int .i64 2,.int .i64 1] 45)) (some ⟨n,0,none⟩) 45 (zP jy)):=Zh (fun W n h=>by rw[<-h.eq];exact Arr.new W 45 #[.int .i64 2,.int .i64 1,.int .i64 2,.int .i64 2,.int .i64 2,.int .i64 1])
 have k1:True:=trivial;go_enter Tryz.func18,Tryz.ntmps18;go_wp2_with (first
  |(go_at_call 15;refine(HPF.out _ _ _ ((zgG w 2 1 1 2).ext Zi) (zsv.out _ _)).mono ?_;rintro e w1 ⟨B1,c1,rfl,hA1,hs1⟩)
  |(go_at_call 19;refine(HSG.out _ _ ((zgG w 2 1 1 2).ext Zi)).mono ?_;rintro e w2 ⟨g,c2,D,d,rfl,q0,q1,q2,q3,hA2,hs2⟩;have oG:Old g w2:=⟨q3⟩)
  |(go_at_call 17;have _t:=k1;clear _t k1;refine(HSP.out _ _ _ _ _ (hA1.ext Zi) (HLT.out _ _)).mono ?_;rintro e w3 ⟨rfl,hs3⟩)
  |(go_at_call 17;refine(HSP.out _ _ _ _ _ (hA2.ext Zi) (hA1.ext Zi)).mono ?_;rintro e w4 ⟨rfl,hs4⟩))
 go_ret;exact⟨rfl,Step.of _ _⟩
end
section
open La
theorem zq9(n k:Nat)(F:Nat->Nat->Int):(zj n fun i=>zj k fun j=>F i j)=zj k fun j=>zj n fun i=>F i j:=by
 induction n with
 |zero=>
  have:∀j,(zj 0 fun i=>F i j)=0:=fun j=>rfl
  simp only[this];exact(zdI fun _ _=>rfl).symm
 |succ n ih=>rw[ZD,ih,<-zbw];exact zX fun j _=>(ZD n _).symm
theorem zra(hs:∀i j,i<m.length->j<m.length->ent m i j=ent m j i)(x y:List Int):QF m x y=QF m y x:=by
 unfold QF;have h1:∀u v:List Int,(zj m.length fun i=>u.getD i 0*zj m.length fun j=>ent m i j*v.getD j 0)=zj m.length fun i=>zj m.length fun j=>u.getD i 0*(ent m i j*v.getD j 0):=fun u v=>zX fun i _=>(zcx _ _ _).symm
 rw[h1,h1,zq9];refine zX fun i hi=>zX fun j hj=>?_
 rw[hs i j hi hj];grind
theorem ze3(hn:AllLen m m.length)(hx:x.length=m.length)(hy:y.length=m.length):QF m x y=zC (zV m y) x:=by
 have h:=zcc (fun i=>(zV m y).getD i 0) x 0 (zV m y) (by rw[zar,hx]) (fun i _=>by rw[Nat.zero_add]);rw[h,J9,hx];unfold QF;refine zX fun i hi=>?_
 have e:(zV m y).getD i 0=zC (m.getD i []) y:=by simp[zV,hi]
 rw[Nat.zero_add,e,zgW hn hi y hy,J9,hy,Int.mul_comm];simp only[Nat.zero_add]
theorem zrb(hr:RedOK m)(hx:x.length=m.length)(hy:y.length=m.length):-(zi m x+zi m y)<=2*zC (zV m y) x/\2*zC (zV m y) x<=zi m x+zi m y:=by
 have zsD:=qu hr.small;have p1:=zh1 zsD x y 1 hx hy;have p2:=zh1 zsD x y (-1) hx hy;have q1:=zbj hr (jt x 1 y) (by rw[zex,hx]);have q2:=zbj hr (jt x (-1) y) (by rw[zex,hx]);have hc:zcB m x y=2*zC (zV m y) x:=by
  have h1:zcB m x y=QF m x y+QF m y x:=zbw _ _ _;rw[h1,zra (fun i j hi hj=>((of_decide_eq_true hr.small).2.2.2 i hi j hj).1) y x,ze3 zsD hx hy];omega
 omega
theorem zrc(hr:RedOK m)(hb:b<=4611686018427387904)(h:VecList m b false L)(hl:L.length<=100000):PrfL m L:=
 ⟨hl,h.zd,List.pairwise_map.2 h.norms,fun y hy=>⟨zbj hr y (h.zd y hy),Int.le_trans ((h.mem y).1 hy).2.2.1 hb⟩⟩
theorem zrd(hr:RedOK m)(hb:b<=4611686018427387904)(h:VecList m b false L)(hx:x.length=m.length)(hn:zi m x<=4611686018427387904):zaR m L x:=fun y hy=>by
 have h1:=zrb hr hx (h.zd y hy);have h2:=((h.mem y).1 hy).2.2.1;omega
end
section
open Go.RowKit
open La
def ze4(W:World)(m:List (List Int))(b:Nat)(e:Ending)(w':World):Prop:=∃A c vs L,e= .returned (.slice A (List.length L) c)/\Arr w' A 47 vs/\ItV w' vs (L.map fun y=>(zi m y,y))/\VecList m b false L/\L.length<=8000/\Step W w'
theorem zre{b:Nat}(hM:Mat64 w0 A m)(hL:LLLed m)(hmn:m.length=n)(h4:n<=4)(hb:b+2*n<=12)[hx:Ext w0 w]:
  Cq 22 #[.slice A n c,.int .i64 b] w (ze4 w m b):=by
 have hr:=hL.red;have hO:=Qi hr;have zvo:=zcv hr (b:=b) (by omega) (.inl (by omega));have hlt:=zim hr (b:=b) (by omega);rw[hmn]at hlt;obtain⟨hvl,zuR⟩:=zhV hO (b:=b) (by omega);rw[hmn]at hvl zuR;have hil:=zeH m (Zn m b (n-1) []);refine(zio (w:=w) (c:=c) (za:=b) hM.a hL hmn (by omega) (by omega) (by omega)).mono ?_;generalize Zp m (Zn m b (n-1) [])=its at*
 rintro e w' ⟨A1,c1,vs,he,hOw,hV,hs⟩;rw[zuR]at hV;exact⟨A1,c1,vs,its.map Prod.snd,by rw[length_map];exact he,hOw.arr,hV,hvl,by rw[length_map];omega,hs⟩
end
section
open Go.RowKit
def jZ(m L:List (List Int))(k:Nat):List (Ks×Int):=ZZ qL ((L.take k).map (Zz m L))
theorem zrf(h:L[k]? =some y):jZ m L (k+1)=ZG qL (jZ m L k) (Zz m L y):=by
 unfold jZ;rw[List.take_add_one,h,map_append];simp only[Option.toList_some,map_cons,map_nil];exact zp4 _ _
theorem zjr{κ:Type}[DecidableEq κ]{lt:κ->κ->Prop}[DecidableRel lt]:∀(p:List (κ×Int))(k:κ),(ZG lt p k).length<=p.length+1
 |[],_=>by simp[ZG]
 |c::p,k=>by
  unfold ZG;split
  ·have:=zjr (lt:=lt) p k;simp only[List.length_cons];omega
  ·split<;>simp
theorem zjs(m L:List (List Int)):∀k,(jZ m L k).length<=k
 |0=>by simp[jZ,ZZ]
 |k+1=>by
  have ih:=zjs m L k
  cases h:L[k]? with
  |none=>
   have e:jZ m L (k+1)=jZ m L k:=by unfold jZ;rw[List.take_add_one,h];simp
   rw[e];omega
  |some y=>
   rw[zrf h];have:=zjr (lt:=qL) (jZ m L k) (Zz m L y);omega
def ze5(w:World)(m:List (List Int))(P:List (List Int)->Prop)(e:Ending)(w':World):Prop:=∃A c C L,e= .returned (.tuple #[.slice A (List.length C) c,.int .i64 0])/\P L/\Arr w' A 64 (ZL C)/\(∀x∈C,x.ok w')/\C.map CE.key=ZZ qL (L.map (Zz m L))/\C.length<=L.length/\Step w w'
end
end Go.Proofs.YtcmkopogafchiaaGreat
