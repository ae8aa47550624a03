/- Of any text: the program's descriptors and the reference's are read and written alike (DescParses). No condition. -/
import Derived.Test.YtcjioogololnoaaGreatDoorU1
import Derived.Test.YtcjioogololnoaaGreatDoorU16
import Derived.Test.YtcjioogololnoaaGreatDoorU9
import Derived.Test.YtcjioogololnoaaGreatDoorU24
import Derived.Test.YtcjioogololnoaaGreatDoorU25
import Derived.Test.YtcjioogololnoaaGreatDoorU27
import Derived.Test.YtcjioogololnoaaGreatDoorU28
import Derived.Test.YtcjioogololnoaaGreatDoorU20
set_option maxRecDepth 1000000
set_option maxHeartbeats 16000000
set_option linter.unusedVariables false
set_option linter.unusedSimpArgs false
namespace Go.Proofs.YtcjioogololnoaaGreatDoor
open Go.RowKit Go.Shelf
theorem GH (d:Nat) (hd:d<16):(fG d).toNat<65∨70<(fG d).toNat:=by
 have:∀d:Fin 16,(fG d.val).toNat<65∨70<(fG d.val).toNat:=by decide
 exact this ⟨d,hd⟩
theorem GI (d:Nat) (hd:d<16):cC bq (fG d)=(d:Int):=by
 have:∀d:Fin 16,cC bq (fG d.val)=(d.val:Int):=by decide
 exact this ⟨d,hd⟩
theorem aao (d:Nat) (y:UInt8) (hd:d<16) (hy:y=fG d) (w:World):
 Calls Tryz.prog 96 #[.int .u8 (y.toNat:Int)] w fun e w'=>e=.returned (.int .i64 (d:Int))∧w'=w:=by
 have mM:=Tryz.strings_IndexByte ⟨bq.toArray⟩ (y.toNat:Int);rw[show (⟨bq.toArray⟩:ByteArray).data.toList=bq from rfl,fc,show ((y.toNat:Int)).toNat.toUInt8=y from by simp,hy,GI d hd,←hy] at mM;have hs:=GH d hd;rw[←hy] at hs;have uW:=aa mM;have CW:=y.toNat_lt;clear mM hy
 by_cases h65:65≤y.toNat
 · have h70:70<y.toNat:=by omega
   clear hs;go_enter Tryz.func96,Tryz.ntmps96;go_wp2_with (go_at_call 32;refine(uW.out _).mono ?_;rintro e w' ⟨rfl,bD⟩;rw[bD];clear bD);go_ret;exact⟨rfl,rfl⟩
 have adq:y.toNat<65:=by omega
 clear hs h65;go_enter Tryz.func96,Tryz.ntmps96;go_wp2_with (go_at_call 32;refine(uW.out _).mono ?_;rintro e w' ⟨rfl,bD⟩;rw[bD];clear bD);go_ret;exact⟨rfl,rfl⟩
theorem Qo (d:Nat) (hd:d<16):(fG d).toNat=if d<10 then 48+d else 87+d:=by
 have:∀d:Fin 16,(fG d.val).toNat=if d.val<10 then 48+d.val else 87+d.val:=by decide
 exact this ⟨d,hd⟩
theorem qO (d:Nat) (hd:d<16) (w:World):
 Calls Tryz.prog 86 #[.int .u8 (d:Int)] w fun e w'=>e=.returned (.int .u8 ((fG d).toNat:Int))∧w'=w:=by
 have LL:=Qo d hd
 by_cases h:d<10
 · rw[if_pos h] at LL
   have H:=aa LL;clear LL;go_enter Tryz.func86,Tryz.ntmps86;go_wp2;go_ret;exact⟨by rw[H.out];push_cast;rfl,rfl⟩
 rw[if_neg h] at LL;have H:=aa LL;clear LL;go_enter Tryz.func86,Tryz.ntmps86;go_wp2;go_ret;refine⟨?_,rfl⟩;have h2:((fG d).toNat:Int)=97+(d:Int)-10:=by rw[H.out];omega
 rw[h2];rfl
end Go.Proofs.YtcjioogololnoaaGreatDoor
namespace Go.Proofs.YtcjioogololnoaaGreatDoor
open Go.RowKit Go.Shelf
end Go.Proofs.YtcjioogololnoaaGreatDoor
namespace Go.Proofs.YtcjioogololnoaaGreatDoor
open Go.RowKit Go.Shelf
theorem Sl.two (w:World) (u v:Value) (E:TypeId):Sl (w.alloc (.cells #[u,v] E)) (w.heap.size+1) (some ⟨w.heap.size,0,none⟩) [u,v]:=fun _=>
 ⟨_,0,rfl,by omega,fun j hj=>by
  rw[agb _ _ _ _ _ (0,0) (af4 w _)];simp only[agm,List.length_nil] at hj;have h2:j=0∨j=1:=by omega
  rcases h2 with rfl|rfl<;>simp⟩
theorem D9 (A:Option Addr) (c:Nat) (bs:List UInt8) (w:World) (hs:Sl w w.heap.size A (B8 bs)) (hl:bs.length≤4096):
 Calls Tryz.prog 56 #[.slice A bs.length c] w fun e W'=>e=.returned (.string ⟨(eF bs).toArray⟩)∧Below w.heap.size w W':=by
 go_enter Tryz.func56,Tryz.ntmps56;go_wp2_with fail;go_loopw [3,4] (fun v i wr=>∃k:Nat,k≤bs.length∧i=.int .i64 k∧Ow wr w.heap.size 5 v (B8 (eF (bs.take k)))∧Below w.heap.size w wr) (fun _ i _=>bs.length-(intOf i).toNat)
 case atStart=>exact⟨0,agu _,rfl,Ow.nil_ _ _ _ _,af5 _ _⟩
 case round=>
  obtain⟨k,hk,rfl,ho,hb⟩:=hrel;obtain⟨L,hL⟩:=ab (eF (bs.take k));obtain⟨m,hm⟩:=ab L.length;have Cm:m≤2*k:=by rw[hm,hL,jL,agj];omega
  rw[←hL] at ho;obtain⟨Al,cl,rfl,db,NM⟩:=aH ho;rw[←hm] at ho db⊢;have Hm:=aa hm;have hz:=hb.size
  by_cases aL:k<bs.length
  · obtain⟨y,hy⟩:∃y,y=bs[k]:=⟨_,rfl⟩
    obtain⟨b9,o9,rfl,kC,rP⟩:=hs.at_ aL;have aD:wr.cell? ⟨b9,o9+k,none⟩=some (.int .u8 (y.toNat:Int)):=by rw[hb.cell (p:=⟨b9,o9+k,none⟩) kC,rP k aL,hy]
    obtain⟨d1,vN⟩:∃d1,d1=y.toNat/16:=⟨_,rfl⟩;obtain⟨d2,pQ⟩:∃d2,d2=y.toNat%16:=⟨_,rfl⟩;have CW:=y.toNat_lt;have e1:(y.toNat:Int)/16=(d1:Int):=by omega
    have e2:(y.toNat:Int)%16=(d2:Int):=by omega
    have OH:d1<16:=by omega
    have Tc:d2<16:=by omega
    have uF:=qO d1 OH;have hdb:=qO d2 Tc
    have jg:L++[fG d1]++[fG d2]=eF (bs.take (k+1)):=by
     rw[agh aL,td,hL,vN,pQ,hy]
    obtain⟨l1,j7⟩:=ab (fG d1);obtain⟨l2,yN⟩:=ab (fG d2);rw[←j7] at uF jg;rw[←yN] at hdb jg;have ny:=aa jg;have MF:=aa uF;have MG:=aa hdb;have bW:Tryz.prog.follows .mixedOrders=true:=by kernel_rfl
    clear jg j7 yN vN pQ uF hdb hy rP hL hm;go_wp2_with fail;refine an [(0,0),(1,0),(2,0),(3,0),(4,1),(5,0),(7,0),(8,0),(9,0),(10,1),(11,0),(6,2),(12,2),(13,2),(14,2),(15,2)] 14 bW (by kernel_rfl) (by intro c a d v w h;cases d<;>exact h) ?_
    repeat ((first|refine ag rfl fun K hK=>?_|refine af rfl fun K hK=>?_);go_simp;(first|refine hK _ ?_|(simp only[IntWalk.iteOmega];go_simp;refine hK _ ?_)|(go_bits;go_simp;refine hK _ ?_));clear hK K;try go_bits)
    refine ae rfl rfl (fun K hK=>?_);go_wp2_with fail;refine(MF.out _).mono ?_;rintro e w' ⟨rfl,rfl⟩;go_wp2_with fail;refine⟨.inr (Ext.refl _),?_⟩;refine ae rfl rfl (fun K hK=>?_);go_wp2_with fail;refine(MG.out _).mono ?_;rintro e w' ⟨rfl,rfl⟩;go_wp2_with fail;refine⟨.inr (Ext.refl _),?_⟩;refine ae rfl rfl (fun K hK=>?_);go_wp2_with fail;refine⟨.inr (bM _ _),?_⟩;obtain⟨w5,nk⟩:∃w5,w5=(wr.alloc (.cells #[.int .u8 (l1.toNat:Int),.int .u8 (l2.toNat:Int)] 5)).drew:=⟨_,rfl⟩
    rw[←nk];have eh:Below w.heap.size w w5:=by rw[nk];exact(hb.alloc hz _).drew
    have nO:Ow w5 w.heap.size 5 (.slice Al m cl) (B8 L):=by rw[nk];exact(ho.alloc _).drew
    have hn5:Sl w5 (wr.heap.size+1) (some ⟨wr.heap.size,0,none⟩) [.int .u8 (l1.toNat:Int),.int .u8 (l2.toNat:Int)]:=by rw[nk];exact(Sl.two wr _ _ _).drew
    have Fa:=eh.size;clear nk;refine ae rfl rfl (fun K hK=>?_);refine bn (m:=2) (c:=2) (base:=w.heap.size) (xs:=B8 L) (v:=.slice Al m cl) (A:=some ⟨wr.heap.size,0,none⟩) (B:=wr.heap.size+1) (news:=[.int .u8 (l1.toNat:Int),.int .u8 (l2.toNat:Int)]) jf (.tmp 11) (.tmp 24) rfl rfl nO rfl hn5 rfl (by simp;exact⟨rfl,rfl⟩) (by rw[B8_length,←Hm.out];simp[maxLen];omega) (by rw[B8_length,←Hm.out];omega) Fa ?_;intro v6 w6 pI va Ez;have fv:Below w.heap.size w w6:=eh.grown va Fa (fun r hr=>(nO.row r hr).1);refine(show K (Act.put _ (some 25) v6) w6 from ?_)
    conv in (Act.put _ (some 25) v6)=>simp[Act.put]
    refine hK _ _ ⟨.inl (by decide),?_⟩;clear hK K;have e6:B8 L++[.int .u8 (l1.toNat:Int),.int .u8 (l2.toNat:Int)]=B8 (eF (bs.take (k+1))):=by rw[←ny.out];simp[B8]
    rw[e6] at pI;refine ae rfl rfl (fun K hK=>?_);refine Go.BigFrame.wp_assign (.tmp 25) rfl ?_;refine(show K (Act.put _ (some 3) v6) w6 from ?_)
    conv in (Act.put _ (some 3) _)=>simp[Act.put]
    refine hK _ _ ⟨.inl (by decide),?_⟩;clear hK K;refine ak ?_;clear ho nO va Ez hn5 eh;go_wp2_with fail;exact⟨⟨k+1,by omega,rfl,pI,fv⟩,by simp[intOf];omega⟩
  have hL2:L=eF bs:=by rw[hL,af7 (by omega)]
  rw[hL2] at ho;have mJ:=du (P:=Tryz.prog) wr 37 9 5 (by kernel_rfl) (by kernel_rfl) (by kernel_rfl) wr.heap.size Al cl (eF bs) (by rw[hL2] at hm;rw[hm] at ho;exact ho.sl);rw[←hL2,←hm,hL2] at mJ;clear hL2 hL hm;go_wp2_with fail;go_ret;exact⟨rfl,hb⟩
end Go.Proofs.YtcjioogololnoaaGreatDoor
namespace Go.Proofs.YtcjioogololnoaaGreatDoor
open Go Go.RowKit Go.Shelf
theorem LM {W:World} {g t:Nat} {k:DKey} (ht:k.top.Ok) {pv sv:Value} (h:W.heap[g]?=some (.cells (eS k pv sv).toArray t (0,0))):W.rangeAt g 1 (ba k.top):=fun j v hv=>by
 have hj:j<(ba k.top).length:=(agI.1 hv).1;rw[aI ht] at hj;rw[agb _ _ _ _ _ _ h,agr,IU ht pv sv j hj];exact hv
theorem nb (k:DKey) (hk:k.Fit) (hhr:k.hard=true→k.ranged=true) (pv sv:Value) (lo:Nat) (w:World) (gF:KV w lo k pv sv):
 Calls Tryz.prog 27 #[.agg (eS k pv sv).toArray] w fun e W'=>e=.returned (.string ⟨(di k).toArray⟩)∧Below w.heap.size w W':=by
 have bW:Tryz.prog.follows .mixedOrders=true:=by kernel_rfl
 obtain⟨cs,bB⟩:∃cs,cs=(eS k pv sv).toArray:=⟨_,rfl⟩;have aF:=af4 w (.cells cs 71);obtain⟨W0,aM⟩:=ab (w.alloc (.cells cs 71));rw[←aM] at aF;have bL:Below w.heap.size w W0:=by rw[aM];exact(af5 _ w).alloc (af2 _) _
 have YV:=gF.below bL;obtain⟨B,hB⟩:=ab w.heap.size;rw[←bB];rw[bB] at aF;rw[←hB] at aF;have db:∀j,W0.cell? ⟨B,j,none⟩=(eS k pv sv)[j]?:=fun j=>by rw[agb _ _ _ _ _ _ aF,agr]
 have R0:=LM hk.top aF;have r0:W0.cell? ⟨B,0,none⟩=some pv:=by rw[db];rfl
 have YW:W0.cell? ⟨B,72,none⟩=some sv:=by rw[db];exact ot hk.top pv sv
 have VS:W0.cell? ⟨B,73,none⟩=some (.bool k.ranged):=by rw[db];exact mS hk.top pv sv
 have VT:W0.cell? ⟨B,74,none⟩=some (.bool k.hard):=by rw[db];exact kD hk.top pv sv
 obtain⟨⟨A,c,rfl,VU,uA,_⟩,A',c',rfl,CF,_⟩:=YV;have HB:=aa hB;have gJ:=aa aM;have dh:=aa bL;have r0r:=r0;rw[aM,hB] at r0r
 by_cases hp:k.plain=[]
 · have hT:di k=eO k.top++(cQ k.steps++(if k.hard then [47,42,39] else if k.ranged then [47,42] else [])):=by rw[di,if_neg (by simp[hp])]
   have YX:=uA hp;rw[aV] at YX;rw[YX] at r0 r0r;obtain⟨t1,qT⟩:∃t1:ByteArray,t1=⟨(eO k.top).toArray⟩:=⟨_,rfl⟩;obtain⟨t2,mF⟩:∃t2:ByteArray,t2=⟨(109::cQ k.steps).toArray⟩:=⟨_,rfl⟩;obtain⟨t3,MK⟩:∃t3:ByteArray,t3=⟨(cQ k.steps).toArray⟩:=⟨_,rfl⟩;have jY:t1.size≤124:=by rw[qT,aA];exact(tn hk.top).1
   have hs3:t3.size≤240:=by rw[MK,aA];have:=iK k.steps hk.small;have:=hk.steps;omega
   obtain⟨n3,hn3⟩:=ab t2.size;have afB:=hn3.symm;have afC:1≤n3:=by rw[hn3,mF,aA,agm];omega
   have afD:n3≤300:=by rw[hn3,mF,aA,agm];have:=iK k.steps hk.small;have:=hk.steps;omega
   have hx3:t2.extract 1 n3=t3:=by
    rw[hn3,xC t2 _ mF,MK,mF,aA];simp
   have HX:=aa (zC k.top hk.top);rw[←qT] at HX;have HP:=aa (Lp A' c' k.steps hk.small (by have:=hk.steps;omega) W0 CF);rw[←mF] at HP;obtain⟨n2,Cr⟩:=ab k.steps.length;rw[←Cr] at YW HP;have abX:=YW;rw[aM,hB] at abX;obtain⟨bh,RL⟩:=ab k.hard;obtain⟨br,TK⟩:=ab k.ranged;rw[←RL] at VT hT hhr;rw[←TK] at VS hT hhr;have HT:Hid ((⟨(di k).toArray⟩:ByteArray)=(t1++t3)++⟨(if bh then [47,42,39] else if br then [47,42] else []:List UInt8).toArray⟩):=aa (by rw[qT,MK,cU,cU,hT,agL]);have IK:=aa (show (Tryz.prog.info? 69).map (·.size)=some (ba k.top).length by rw[aI hk.top];kernel_rfl);have jk:Hid (∀W1,Below W0.heap.size W0 W1→W1.cell? ⟨B,73,none⟩=some (.bool br)∧W1.cell? ⟨B,74,none⟩=some (.bool bh)):=aa (fun W1 aZ=>⟨et VS aZ,et VT aZ⟩);obtain⟨KT,Py⟩:∃KT:ByteArray,KT=⟨(di k).toArray⟩:=⟨_,rfl⟩;rw[←Py] at HT⊢;obtain⟨kc,mG⟩:=ab (ba k.top);rw[←mG] at R0 IK HX;have HRg:Hid (∀W1,Below W0.heap.size W0 W1→W1.rangeAt B 1 kc):=aa (fun W1 aZ j v hv=>et (R0 j v hv) aZ);have Hhr:=aa hhr;clear hT YX qT mF MK Cr hn3 RL TK Py mG R0 VU CF uA hp bL aF aM bB hB gF db r0 YW VS VT hhr;go_enter Tryz.func27,Tryz.ntmps27;go_wp2_with fail;refine(show W0=_ from gJ.out)▸?_;rw[←HB.out];refine HP.out.mono ?_;rintro e w1 ⟨rfl,aZ⟩;have nH:=aa aZ;clear aZ HP r0r abX;go_wp2_with fail;refine an [(0,0),(1,1),(3,0),(4,0),(2,2),(5,0),(6,0)] 7 bW (by kernel_rfl) (by intro c a d v w h;cases d<;>exact h) ?_
   repeat ((first|refine ag rfl fun K hK=>?_|refine af rfl fun K hK=>?_);go_simp;(first|refine hK _ ?_|(simp only[IntWalk.iteOmega];go_simp;refine hK _ ?_)|(go_bits;go_simp;refine hK _ ?_));clear hK K;try go_bits)
   refine eI rfl rfl 69 (.tmp 15) rfl B 1 rfl kc _ (HRg.out w1 nH.out) Tryz.underlying69 rfl IK.out ?_;refine(show ay _ _ _ _ _ _ (Act.put _ (some 16) _) _ from ?_)
   conv in (Act.put _ (some 16) _)=>simp[Act.put]
   repeat ((first|refine ag rfl fun K hK=>?_|refine af rfl fun K hK=>?_);go_simp;(first|refine hK _ ?_|(simp only[IntWalk.iteOmega];go_simp;refine hK _ ?_)|(go_bits;go_simp;refine hK _ ?_));clear hK K;try go_bits)
   refine ae rfl rfl (fun K hK=>?_);go_wp2_with fail;refine(HX.out w1.drew).mono ?_;rintro e w2 ⟨rfl,bt⟩;have FR:Hid (Below W0.heap.size W0 w2):=aa (nH.out.trans (((af5 _ w1).drew.trans bt).mono nH.out.size));have HX2:=aa (aj bt);clear bt HX;go_wp2_with fail;refine⟨.inr HX2.out,?_⟩
   repeat ((first|refine ag rfl fun K hK=>?_|refine af rfl fun K hK=>?_);go_simp;(first|refine hK _ ?_|(simp only[IntWalk.iteOmega];go_simp;refine hK _ ?_)|(go_bits;go_simp;refine hK _ ?_));clear hK K;try go_bits)
   refine ak ?_;have ez:=jk.out w2 FR.out;obtain⟨q73,q74⟩:=ez;have YY:=aa (dh.out.trans (FR.out.mono dh.out.size))
   cases bh with
   |true=>
    obtain rfl:br=true:=Hhr.out rfl
    have abY:KT=t1++t3++⟨#[47,42]⟩++⟨#[39]⟩:=by
     rw[HT.out];apply ByteArray.ext;simp
    have ad7:=aa abY;clear abY;go_wp2_with fail;go_ret;exact⟨by rw[ad7.out];rfl,YY.out⟩
   |false=>
    cases br with
    |true=>
     go_wp2_with fail;go_ret;exact⟨by rw[HT.out];rfl,YY.out⟩
    |false=>
     have Pz:KT=t1++t3:=by
      rw[HT.out];apply ByteArray.ext;simp
     have YZ:=aa Pz;clear Pz;go_wp2_with fail;go_ret;exact⟨by rw[YZ.out];rfl,YY.out⟩
 have hT:di k=eF k.plain:=by rw[di,if_pos hp]
 have HX:=aa (D9 A c k.plain W0 VU (by have:=hk.plain;omega));rw[←hT] at HX;obtain⟨n1,zW⟩:=ab k.plain.length;have zL:0<n1:=by rw[zW];exact List.length_pos_iff.2 hp
 rw[←zW] at HX r0r;obtain⟨KT,Py⟩:=ab (di k);rw[←Py] at HX⊢;clear hT zW Py db VU CF uA hp bL aF aM bB hB gF R0 r0 YW VS VT;go_enter Tryz.func27,Tryz.ntmps27;go_wp2_with fail;refine(show W0=_ from gJ.out)▸?_;refine HX.out.mono ?_;rintro e w1 ⟨rfl,aZ⟩;have nH:=aa (dh.out.trans (aZ.mono dh.out.size));clear aZ HX;go_wp2_with fail;go_ret;exact⟨rfl,nH.out⟩
theorem Eb (d:DDesc) (kv:Value) (base lo:Nat) (w:World) (hK:KR w base lo kv d.keys) (qF:∀k∈d.keys,k.top.Ok) (hn:d.keys.length≤16):
 Calls Tryz.prog 14 #[.agg (BZ d kv)] w fun e W'=>e=.returned (.bool (mY d))∧Below w.heap.size w W':=by
 obtain⟨cs,bB⟩:=ab (BZ d kv);rw[←bB];have aF:=af4 w (.cells cs 30);obtain⟨W0,aM⟩:=ab (w.alloc (.cells cs 30));rw[←aM] at aF;have bL:Below w.heap.size w W0:=by rw[aM];exact(af5 _ w).alloc (af2 _) _
 have ZH:=hK.below bL;obtain⟨B,hB⟩:=ab w.heap.size;rw[←hB] at aF;have c4:W0.cell? ⟨B,4,none⟩=some kv:=by rw[agb _ _ _ _ _ _ aF,bB];rfl
 obtain⟨A,c,ZI,dW,ez⟩:=ZH.form;obtain⟨n,Rk⟩:=ab d.keys.length;rw[←Rk] at ZI dW hn;subst ZI
 have qe:Hid (∀i (h:i<d.keys.length),∃g:Nat,(some (⟨g,0,none⟩:Addr))=A∧W0.cell? ⟨g,i*75+73,none⟩=some (.bool d.keys[i].ranged)):=aa (fun i h=>by
  obtain⟨g,c2,pv,sv,e,hg,gF,hr⟩:=ZH.at_ i h;injection e with e1 _ _;refine⟨g,e1.symm,?_⟩;exact hr 73 _ (mS (qF _ (agl _)) pv sv))
 have ZJ:Hid (mY d=d.keys.any (·.ranged)):=aa rfl;have Hnk:=aa Rk;have gJ:=aa aM;have HB:=aa hB;have dh:=aa bL;obtain⟨R,hR⟩:=ab (mY d);rw[←hR] at ZJ⊢;clear bB aF aM bL ZH hB Rk qF hK hR;go_enter Tryz.func14,Tryz.ntmps14;go_wp2_with fail;refine(show W0=_ from gJ.out)▸?_;rw[←HB.out];go_loopw [3] (fun iv wr=>∃i:Nat,i≤n∧iv=.int .i64 i∧wr=W0∧Hid (∀j (h:j<d.keys.length),j<i→d.keys[j].ranged=false)) (fun iv _=>n-(intOf iv).toNat)
 case atStart=>exact⟨0,by omega,rfl,rfl,aa (fun j h hj=>by omega)⟩
 case round=>
  obtain⟨i,hi,rfl,hw,HF⟩:=hrel;obtain rfl:W0=wr:=hw.symm;clear hw
  by_cases aL:i<n
  · have uv:i<d.keys.length:=by rw[←Hnk.out];exact aL
    obtain⟨g,rfl,cg⟩:=qe.out i uv;obtain⟨b,hb⟩:∃b,b=d.keys[i].ranged:=⟨_,rfl⟩;rw[←hb] at cg;have IA:=aa hb;clear hb
    cases b with
    |true=>
     have Hr:Hid (R=true):=aa (by rw[ZJ.out];exact List.any_eq_true.2 ⟨_,agl uv,IA.out.symm⟩);go_wp2_with fail;go_ret;exact⟨by rw[Hr.out];rfl,dh.out⟩
    |false=>
     go_wp2_with fail
     exact⟨⟨i+1,by omega,by go_num,trivial,aa (fun j h hj=>by
      rcases Nat.lt_or_ge j i with h2|h2
      · exact HF.out j h h2
      obtain rfl:j=i:=by omega
      exact IA.out.symm)⟩,by simp only[intOf];omega⟩
  obtain rfl:i=n:=by omega
  have Hr:Hid (R=false):=aa (by
   rw[ZJ.out,List.any_eq_false];intro k hk;obtain⟨j,hj,rfl⟩:=List.mem_iff_getElem.1 hk;rw[HF.out j hj (by rw[Hnk.out];exact hj)];decide)
  go_wp2_with fail;go_ret;exact⟨by rw[Hr.out];rfl,dh.out⟩
def mT (d:DDesc):List UInt8:=if d.m=0 then [] else Lib.itoa d.m++[44]
def xN (b:Bool) (wd s:List UInt8):List UInt8:=if b then wd++40::(s++[41]) else s
theorem GL {d:DDesc} (h:iM d):fh d=xN (RN d) ik (xN (yz d) cf (j1 d++40::(mT d++(Lib.join (d.keys.map di) [44]++[41])))):=by
 cases h with
 |pkh k h=>simp[fh,mg,dQ,xN,RN,yz,j1,mT,ik,cf,eD]
 |wpkh k h ws hw=>rcases hw with rfl|rfl<;>simp[fh,mg,dQ,xN,RN,yz,j1,mT,ik,cf,eD,ca]
 |many ws hw m s ks h h1 h2 h3=>
  have hm:¬(m=0):=by omega
  have xW:0<m:=h1;rcases hw with rfl|rfl|rfl|rfl<;>simp[fh,mg,dQ,xN,RN,yz,j1,mT,hm,xW,ik,cf,eD,ca]
theorem tA (l:List (List UInt8)) (x:List UInt8):Lib.join (l++[x]) [44]=if l=[] then x else Lib.join l [44]++44::x:=by
 induction l with
 |nil=>simp[Lib.join,List.intercalate]
 |cons a l ih=>
  rw[if_neg (by simp)]
  cases l with
  |nil=>simp[Lib.join,List.intercalate]
  |cons b l=>
   rw[if_neg (by simp)] at ih;simp only[agw,Lib.join,List.intercalate,List.intersperse,List.flatten_cons] at ih⊢;rw[ih];simp
theorem KNorm.hr {k:DKey} (h:KNorm k):k.hard=true→k.ranged=true:=by
 rcases h with ⟨b,_,_,rfl⟩|h
 · intro h;cases h
 exact h.mark
theorem iM.knorm {d:DDesc} (h:iM d):∀k∈d.keys,KNorm k:=by
 cases h with
 |pkh k h=>intro x hx;rw[agE] at hx;subst hx;exact h
 |wpkh k h ws hw=>intro x hx;rw[agE] at hx;subst hx;exact h
 |many ws hw m s ks h h1 h2 h3=>exact h
theorem iM.m16 {d:DDesc} (h:iM d):d.m≤16:=h.fit.m
theorem ZK (d:DDesc):(d.m=0→ur d<3)∧(d.m≠0→3≤ur d):=by
 unfold ur;constructor
 · intro h;rw[if_pos h];split<;>decide
 intro h;rw[if_neg h];split<;>decide
theorem GP (d:DDesc) (hd:iM d) (kv:Value) (base lo:Nat) (w:World) (hK:KR w base lo kv d.keys):
 Calls Tryz.prog 10 #[.agg (BZ d kv)] w fun e W'=>e=.returned (.string ⟨(iJ d).toArray⟩)∧Below w.heap.size w W':=by
 have HW:=aa (fun W=>D2 d kv W);have gH:=hd.fit;have Zu:=mr gH;have ZL:=GL hd;have hkf:=pf gH;have abC:=hd.m16;have hkm:=ZK d;have zf:=hd.knorm;obtain⟨cs,bB⟩:=ab (BZ d kv);rw[←bB] at HW⊢;have aF:=af4 w (.cells cs 30);obtain⟨W0,aM⟩:=ab (w.alloc (.cells cs 30));rw[←aM] at aF;have bL:Below w.heap.size w W0:=by rw[aM];exact(af5 _ w).alloc (af2 _) _
 have ZH:=hK.below bL;obtain⟨B,hB⟩:=ab w.heap.size;rw[←hB] at aF;have yi:B<W0.heap.size:=aJ aF;obtain⟨kd,hkd⟩:=ab (ur d);obtain⟨m,hm⟩:=ab d.m;obtain⟨b0,AS⟩:∃b,b=RN d:=⟨_,rfl⟩;obtain⟨b1,ZM⟩:∃b,b=yz d:=⟨_,rfl⟩
 have HC:Hid (∀W1,Below W0.heap.size W0 W1→W1.cell? ⟨B,0,none⟩=some (.bool b0)∧W1.cell? ⟨B,1,none⟩=some (.bool b1)∧W1.cell? ⟨B,2,none⟩=some (.int .i64 (kd:Int))∧W1.cell? ⟨B,3,none⟩=some (.int .i64 (m:Int))∧W1.cell? ⟨B,4,none⟩=some kv):=aa (fun W1 h1=>by
  have jQ:=(h1.block B yi).trans aF;rw[hkd,hm,AS,ZM];refine⟨?_,?_,?_,?_,?_⟩<;>(rw[agb _ _ _ _ _ _ jQ,bB];rfl))
 have fJ:=aa (show (Tryz.prog.info? 30).map (·.size)=some cs.size by rw[show cs.size=5 from by rw[bB];rfl];kernel_rfl);rw[←hm] at abC hkm;rw[←hkd] at hkm;obtain⟨A,c,ZI,dW,ez⟩:=ZH.form;obtain⟨n,Rk⟩:=ab d.keys.length;have adF:n≤16:=by rw[Rk];exact gH.num
 rw[←Rk] at ZI dW;subst ZI
 have qe:Hid (∀i (h:i<d.keys.length),∃g pv sv,(some (⟨g,0,none⟩:Addr))=A∧KV W0 lo d.keys[i] pv sv∧g<W0.heap.size∧W0.rangeAt g (i*75) (eS d.keys[i] pv sv)):=aa (fun i h=>by
  obtain⟨g,c2,pv,sv,e,hg,gF,hr⟩:=ZH.at_ i h;injection e with e1 _ _;exact⟨g,pv,sv,e1.symm,gF,hg,hr⟩)
 have Jf:Hid (∀i (h:i<d.keys.length),d.keys[i].Fit∧(d.keys[i].hard=true→d.keys[i].ranged=true)):=aa (fun i h=>⟨(zf _ (agl h)).fit,(zf _ (agl h)).hr⟩);obtain⟨wL,hwL⟩:=ab (j1 d);have JS:wL.length≤11:=by rw[hwL];exact zz d
 rw[←hwL] at HW ZL;rw[←AS,←ZM] at ZL;obtain⟨M,hM⟩:=ab (mT d);rw[←hM] at ZL;have hM2:M=if m=0 then [] else Lib.itoa (m:Int)++[44]:=by rw[hM,hm,mT]
 have SF:M.length≤3:=by
  rw[hM2];split
  · simp
  rw[agc];have:=xg m (by omega);simp;omega
 obtain⟨KS,Rl⟩:=ab (d.keys.map di);rw[←Rl] at ZL hkf;have ab3:KS.length=n:=by rw[Rl,List.length_map,Rk]
 have Su:Hid (∀i (h:i<d.keys.length),KS.take (i+1)=KS.take i++[di d.keys[i]]):=aa (fun i h=>by rw[Rl,agh (by simpa using h)];simp);have HJl:Hid (∀i,(Lib.join (KS.take i) [44]).length≤6416):=aa (fun i=>agx (mU 44 KS i) hkf.1);obtain⟨BT,hBT⟩:=ab (fh d);rw[←hBT] at Zu ZL;have HBT:Hid (iJ d=BT++35::aE BT):=aa (by rw[iJ,hBT]);obtain⟨RB,hRB⟩:∃RB:ByteArray,RB=⟨(iJ d).toArray⟩:=⟨_,rfl⟩;rw[←hRB];have nI:Hid (RB=⟨BT.toArray⟩++⟨#[35]⟩++⟨(aE BT).toArray⟩):=aa (by rw[hRB,HBT.out,show (⟨#[35]⟩:ByteArray)=⟨([35]:List UInt8).toArray⟩ from rfl,cU,cU];simp)
 have j5:Hid (∀W,Calls Tryz.prog 19 #[.string ⟨BT.toArray⟩] W fun e W'=>e=.returned (.tuple #[.string ⟨(aE BT).toArray⟩,.bool true])∧Below W.heap.size W W'):=aa (fun W=>by
  have hz:(⟨BT.toArray⟩:ByteArray).size≤8000:=by rw[aA];have:=Zu.1;omega
  refine(lN ⟨BT.toArray⟩ W hz).mono ?_;rintro e W2 ⟨h,hb⟩;rw[show (⟨BT.toArray⟩:ByteArray).data.toList=BT from by simp] at h;rcases h with ⟨_,h⟩|⟨⟨x,hx,Cl⟩,_⟩
  · exact⟨h,hb⟩
  exact absurd (oE (Zu.2 x hx)).1 Cl)
 have uN:Hid ((aE BT).length=8):=aa (r7 BT);have HBn:=aa ZL;have zm:Hid (BT.length≤6600):=aa Zu.1;have sS:=aa hM2;have Hnk:=aa Rk;have LN:=aa ab3;have HMl:=aa SF;have Hwl:=aa JS;have Hkm:=aa hkm;have gJ:=aa aM;have HB:=aa hB;have dh:=aa bL;obtain⟨wB,Ub⟩:∃wB:ByteArray,wB=⟨wL.toArray⟩:=⟨_,rfl⟩;rw[←Ub] at HW;have Pm:wB.size≤11:=by rw[Ub,aA];exact JS
 have HwB:=aa Ub;clear gH Zu ZL hkf hkm zf bB aF aM bL ZH hK hB yi hkd hm AS ZM Rk hwL JS hM hM2 SF Rl ab3 hBT hRB Ub hd;go_enter Tryz.func10,Tryz.ntmps10;go_wp2_with (first|(refine aga rfl 30 (.tmp 1) rfl w.heap.size rfl 30 cs (0,0) _ (af4 w _) Tryz.underlying30 rfl fJ.out ?_));refine(show W0=_ from gJ.out)▸?_;rw[←HB.out];refine(HW.out W0).mono ?_;rintro e w1 ⟨rfl,aZ⟩;obtain⟨q0,q1,q2,q3,q4⟩:=HC.out w1 aZ;have jN:=aa aZ;clear aZ HW q0 q1 q4;have hz:m=0∨(0<m∧m<10)∨10≤m:=by omega
 rcases hz with ZN|⟨vm,xW⟩|ab4
 · have hk3:decide ((3:Int)≤(kd:Int))=false:=af8 (by have:=Hkm.out.1 ZN;omega)
   have HP:Hid (wB++⟨#[40]⟩=⟨(wL++40::(M++Lib.join (KS.take 0) [44])).toArray⟩):=aa (by
    rw[HwB.out,sS.out,if_pos ZN,show (⟨#[40]⟩:ByteArray)=⟨([40]:List UInt8).toArray⟩ from rfl,cU]
    simp[Lib.join,List.intercalate])
   have Wo:=jN;clear ZN;go_wp2_with fail;go_loopw [3,4] (fun tv iv wr=>∃(i:Nat) (tB:ByteArray),i≤n∧iv=.int .i64 i∧tv=.string tB∧Hid (tB=⟨(wL++40::(M++Lib.join (KS.take i) [44])).toArray⟩)∧Below W0.heap.size W0 wr) (fun _ iv _=>n-(intOf iv).toNat)
   case atStart=>exact⟨0,_,by omega,rfl,rfl,aa HP.out,Wo.out⟩
   case round=>
    clear HP Wo;obtain⟨i,tB,hi,rfl,rfl,HT,hb⟩:=hrel;have Ue:tB.size≤6431:=by rw[HT.out,aA];have:=HJl.out i;have:=HMl.out;have:=Hwl.out;simp;omega
    obtain⟨q0,q1,q2,q3,q4⟩:=HC.out wr hb;have Hb:=aa hb
    by_cases aL:i<n
    · have uv:i<d.keys.length:=by rw[←Hnk.out];exact aL
      obtain⟨g,pv,sv,rfl,gF,pT,hr⟩:=qe.out i uv;have zG:=aa (nb d.keys[i] (Jf.out i uv).1 (Jf.out i uv).2 pv sv lo wr (gF.below hb));have rO:wr.rangeAt g (i*75) (eS d.keys[i] pv sv):=fun j v hv=>et (hr j v hv) hb
      obtain⟨L,hL⟩:∃L,L=eS d.keys[i] pv sv:=⟨_,rfl⟩;have uT:L.length=75:=by rw[hL,aT (Jf.out i uv).1.top]
      obtain⟨kT,Jr⟩:∃kT,kT=di d.keys[i]:=⟨_,rfl⟩;have EE:kT.length≤400:=by rw[Jr];exact(mq (Jf.out i uv).1).1
      rw[←hL,←Jr] at zG;rw[←hL] at rO;have Ld:=aa rO;have ML:=aa (show (Tryz.prog.info? 71).map (·.size)=some L.length by rw[uT];kernel_rfl);have lu:=Su.out i uv;rw[←Jr] at lu;have HJ:Hid (Lib.join (KS.take (i+1)) [44]=if KS.take i=[] then kT else Lib.join (KS.take i) [44]++44::kT):=aa (by rw[lu,tA]);obtain⟨kB,vd⟩:∃kB:ByteArray,kB=⟨kT.toArray⟩:=⟨_,rfl⟩;have hkz:kB.size≤400:=by rw[vd,aA];exact EE
      rw[←vd] at zG;have Le:=aa vd
      have Qq:Hid (KS.take i=[]↔i=0):=aa (by
       rw[←List.length_eq_zero_iff,agj,LN.out];omega)
      clear gF pT hr rO hL uT Jr EE lu vd hb uv q0 q1 q2 q3;have nt:decide ((0:Int)<(i:Int))=decide (0<i):=by simp
      by_cases Ec:i=0
      · have HN:Hid (tB++kB=⟨(wL++40::(M++Lib.join (KS.take (i+1)) [44])).toArray⟩):=aa (by
         rw[HT.out,Le.out,cU,HJ.out,if_pos (Qq.out.2 Ec),Qq.out.2 Ec];simp[Lib.join,List.intercalate])
        subst Ec;clear nt;go_wp2_with (first|((with_reducible refine wpList_load_mid ?_ 71 (.tmp 43) ?_ g (0*75) ?_ L _ Ld.out Tryz.underlying71 ?_ ML.out ?_);rfl;rfl;rfl;rfl));refine zG.out.mono ?_;rintro e w2 ⟨rfl,bt⟩;have mH:=aa (Hb.out.trans (bt.mono Hb.out.size));clear bt zG;go_wp2_with fail;exact⟨⟨1,_,by omega,rfl,rfl,HN,mH.out⟩,by simp only[intOf];omega⟩
      have BU:0<i:=by omega
      have HN:Hid (tB++⟨#[44]⟩++kB=⟨(wL++40::(M++Lib.join (KS.take (i+1)) [44])).toArray⟩):=aa (by
       rw[HT.out,Le.out,show (⟨#[44]⟩:ByteArray)=⟨([44]:List UInt8).toArray⟩ from rfl,cU,cU,HJ.out,if_neg (fun h=>Ec (Qq.out.1 h))]
       simp)
      clear nt Ec;go_wp2_with (first|((with_reducible refine wpList_load_mid ?_ 71 (.tmp 43) ?_ g (i*75) ?_ L _ Ld.out Tryz.underlying71 ?_ ML.out ?_);rfl;rfl;rfl;rfl));refine zG.out.mono ?_;rintro e w2 ⟨rfl,bt⟩;have mH:=aa (Hb.out.trans (bt.mono Hb.out.size));clear bt zG;go_wp2_with fail;exact⟨⟨i+1,_,by omega,by go_num,rfl,HN,mH.out⟩,by simp only[intOf];omega⟩
    obtain rfl:i=n:=by omega
    have Js:Hid (BT=xN b0 ik (xN b1 cf (wL++40::(M++(Lib.join KS [44]++[41]))))):=HBn;have zF:Hid (tB=⟨(wL++40::(M++Lib.join KS [44])).toArray⟩):=aa (by rw[HT.out,af7 (by rw[LN.out];exact af2 _)]);clear HT hb q2 q3
    cases b0
    · cases b1
      · have hX:tB++⟨#[41]⟩=⟨BT.toArray⟩:=by
         rw[Js.out,zF.out];apply ByteArray.ext;simp[xN,ik,cf,ByteArray.data_append]
        obtain⟨XB,kI⟩:∃XB:ByteArray,XB=⟨BT.toArray⟩:=⟨_,rfl⟩;rw[←kI] at hX j5 nI;have Qr:XB.size≤6600:=by rw[kI,aA];exact zm.out
        obtain⟨jE,eX⟩:∃jE:ByteArray,jE=⟨(aE BT).toArray⟩:=⟨_,rfl⟩;rw[←eX] at j5 nI;have xO:jE.size=8:=by rw[eX,aA];exact uN.out
        have HX:=aa hX;clear hX kI eX;go_wp2_with fail;rw[HX.out];refine(j5.out _).mono ?_;rintro e w3 ⟨rfl,bd⟩;have ei:=aa (dh.out.trans ((Hb.out.trans (bd.mono Hb.out.size)).mono dh.out.size));clear bd;go_wp2_with fail;go_ret;exact⟨by rw[nI.out];rfl,ei.out⟩
      have hX:⟨#[119,115,104,40]⟩++(tB++⟨#[41]⟩)++⟨#[41]⟩=⟨BT.toArray⟩:=by
       rw[Js.out,zF.out];apply ByteArray.ext;simp[xN,ik,cf,ByteArray.data_append]
      obtain⟨XB,kI⟩:∃XB:ByteArray,XB=⟨BT.toArray⟩:=⟨_,rfl⟩;rw[←kI] at hX j5 nI;have Qr:XB.size≤6600:=by rw[kI,aA];exact zm.out
      obtain⟨jE,eX⟩:∃jE:ByteArray,jE=⟨(aE BT).toArray⟩:=⟨_,rfl⟩;rw[←eX] at j5 nI;have xO:jE.size=8:=by rw[eX,aA];exact uN.out
      have HX:=aa hX;clear hX kI eX;go_wp2_with fail;rw[HX.out];refine(j5.out _).mono ?_;rintro e w3 ⟨rfl,bd⟩;have ei:=aa (dh.out.trans ((Hb.out.trans (bd.mono Hb.out.size)).mono dh.out.size));clear bd;go_wp2_with fail;go_ret;exact⟨by rw[nI.out];rfl,ei.out⟩
    cases b1
    · have hX:⟨#[115,104,40]⟩++(tB++⟨#[41]⟩)++⟨#[41]⟩=⟨BT.toArray⟩:=by
       rw[Js.out,zF.out];apply ByteArray.ext;simp[xN,ik,cf,ByteArray.data_append]
      obtain⟨XB,kI⟩:∃XB:ByteArray,XB=⟨BT.toArray⟩:=⟨_,rfl⟩;rw[←kI] at hX j5 nI;have Qr:XB.size≤6600:=by rw[kI,aA];exact zm.out
      obtain⟨jE,eX⟩:∃jE:ByteArray,jE=⟨(aE BT).toArray⟩:=⟨_,rfl⟩;rw[←eX] at j5 nI;have xO:jE.size=8:=by rw[eX,aA];exact uN.out
      have HX:=aa hX;clear hX kI eX;go_wp2_with fail;rw[HX.out];refine(j5.out _).mono ?_;rintro e w3 ⟨rfl,bd⟩;have ei:=aa (dh.out.trans ((Hb.out.trans (bd.mono Hb.out.size)).mono dh.out.size));clear bd;go_wp2_with fail;go_ret;exact⟨by rw[nI.out];rfl,ei.out⟩
    have hX:⟨#[115,104,40]⟩++(⟨#[119,115,104,40]⟩++(tB++⟨#[41]⟩)++⟨#[41]⟩)++⟨#[41]⟩=⟨BT.toArray⟩:=by
     rw[Js.out,zF.out];apply ByteArray.ext;simp[xN,ik,cf,ByteArray.data_append]
    obtain⟨XB,kI⟩:∃XB:ByteArray,XB=⟨BT.toArray⟩:=⟨_,rfl⟩;rw[←kI] at hX j5 nI;have Qr:XB.size≤6600:=by rw[kI,aA];exact zm.out
    obtain⟨jE,eX⟩:∃jE:ByteArray,jE=⟨(aE BT).toArray⟩:=⟨_,rfl⟩;rw[←eX] at j5 nI;have xO:jE.size=8:=by rw[eX,aA];exact uN.out
    have HX:=aa hX;clear hX kI eX;go_wp2_with fail;rw[HX.out];refine(j5.out _).mono ?_;rintro e w3 ⟨rfl,bd⟩;have ei:=aa (dh.out.trans ((Hb.out.trans (bd.mono Hb.out.size)).mono dh.out.size));clear bd;go_wp2_with fail;go_ret;exact⟨by rw[nI.out];rfl,ei.out⟩
 · have hk3:decide ((3:Int)≤(kd:Int))=true:=af9 (by have:=Hkm.out.2 (by omega);omega)
   have ab4:decide ((10:Int)≤(m:Int))=false:=af8 (by omega);obtain⟨y,hy⟩:∃y:UInt8,y=UInt8.ofNat (48+m):=⟨_,rfl⟩;have XY:y.toNat=48+m:=by rw[hy,agp];omega
   have hyI:(48:Int)+(m:Int).tmod 10=(y.toNat:Int):=by rw[Int.tmod_eq_emod_of_nonneg (Int.natCast_nonneg _)];omega
   have aec:(48:Int)+(m:Int)%10=(y.toNat:Int):=by omega
   have CW:=y.toNat_lt;have mJ:=Ln w1 y
   have HP:Hid (wB++⟨#[40]⟩++⟨#[y]⟩++⟨#[44]⟩=⟨(wL++40::(M++Lib.join (KS.take 0) [44])).toArray⟩):=aa (by
    rw[HwB.out,sS.out,if_neg (by omega),qL m (by omega),if_pos xW,←hy];apply ByteArray.ext;simp[Lib.join,List.intercalate,ByteArray.data_append])
   have Wo:Hid (Below W0.heap.size W0 (w1.alloc (.cells #[.int .u8 (y.toNat:Int)] 5))):=aa (jN.out.alloc jN.out.size _)
   clear vm xW hy XY;go_wp2_with fail;go_loopw [3,4] (fun tv iv wr=>∃(i:Nat) (tB:ByteArray),i≤n∧iv=.int .i64 i∧tv=.string tB∧Hid (tB=⟨(wL++40::(M++Lib.join (KS.take i) [44])).toArray⟩)∧Below W0.heap.size W0 wr) (fun _ iv _=>n-(intOf iv).toNat)
   case atStart=>exact⟨0,_,by omega,rfl,rfl,aa HP.out,Wo.out⟩
   case round=>
    clear HP Wo;obtain⟨i,tB,hi,rfl,rfl,HT,hb⟩:=hrel;have Ue:tB.size≤6431:=by rw[HT.out,aA];have:=HJl.out i;have:=HMl.out;have:=Hwl.out;simp;omega
    obtain⟨q0,q1,q2,q3,q4⟩:=HC.out wr hb;have Hb:=aa hb
    by_cases aL:i<n
    · have uv:i<d.keys.length:=by rw[←Hnk.out];exact aL
      obtain⟨g,pv,sv,rfl,gF,pT,hr⟩:=qe.out i uv;have zG:=aa (nb d.keys[i] (Jf.out i uv).1 (Jf.out i uv).2 pv sv lo wr (gF.below hb));have rO:wr.rangeAt g (i*75) (eS d.keys[i] pv sv):=fun j v hv=>et (hr j v hv) hb
      obtain⟨L,hL⟩:∃L,L=eS d.keys[i] pv sv:=⟨_,rfl⟩;have uT:L.length=75:=by rw[hL,aT (Jf.out i uv).1.top]
      obtain⟨kT,Jr⟩:∃kT,kT=di d.keys[i]:=⟨_,rfl⟩;have EE:kT.length≤400:=by rw[Jr];exact(mq (Jf.out i uv).1).1
      rw[←hL,←Jr] at zG;rw[←hL] at rO;have Ld:=aa rO;have ML:=aa (show (Tryz.prog.info? 71).map (·.size)=some L.length by rw[uT];kernel_rfl);have lu:=Su.out i uv;rw[←Jr] at lu;have HJ:Hid (Lib.join (KS.take (i+1)) [44]=if KS.take i=[] then kT else Lib.join (KS.take i) [44]++44::kT):=aa (by rw[lu,tA]);obtain⟨kB,vd⟩:∃kB:ByteArray,kB=⟨kT.toArray⟩:=⟨_,rfl⟩;have hkz:kB.size≤400:=by rw[vd,aA];exact EE
      rw[←vd] at zG;have Le:=aa vd
      have Qq:Hid (KS.take i=[]↔i=0):=aa (by
       rw[←List.length_eq_zero_iff,agj,LN.out];omega)
      clear gF pT hr rO hL uT Jr EE lu vd hb uv q0 q1 q2 q3;have nt:decide ((0:Int)<(i:Int))=decide (0<i):=by simp
      by_cases Ec:i=0
      · have HN:Hid (tB++kB=⟨(wL++40::(M++Lib.join (KS.take (i+1)) [44])).toArray⟩):=aa (by
         rw[HT.out,Le.out,cU,HJ.out,if_pos (Qq.out.2 Ec),Qq.out.2 Ec];simp[Lib.join,List.intercalate])
        subst Ec;clear nt;go_wp2_with (first|((with_reducible refine wpList_load_mid ?_ 71 (.tmp 43) ?_ g (0*75) ?_ L _ Ld.out Tryz.underlying71 ?_ ML.out ?_);rfl;rfl;rfl;rfl));refine zG.out.mono ?_;rintro e w2 ⟨rfl,bt⟩;have mH:=aa (Hb.out.trans (bt.mono Hb.out.size));clear bt zG;go_wp2_with fail;exact⟨⟨1,_,by omega,rfl,rfl,HN,mH.out⟩,by simp only[intOf];omega⟩
      have BU:0<i:=by omega
      have HN:Hid (tB++⟨#[44]⟩++kB=⟨(wL++40::(M++Lib.join (KS.take (i+1)) [44])).toArray⟩):=aa (by
       rw[HT.out,Le.out,show (⟨#[44]⟩:ByteArray)=⟨([44]:List UInt8).toArray⟩ from rfl,cU,cU,HJ.out,if_neg (fun h=>Ec (Qq.out.1 h))]
       simp)
      clear nt Ec;go_wp2_with (first|((with_reducible refine wpList_load_mid ?_ 71 (.tmp 43) ?_ g (i*75) ?_ L _ Ld.out Tryz.underlying71 ?_ ML.out ?_);rfl;rfl;rfl;rfl));refine zG.out.mono ?_;rintro e w2 ⟨rfl,bt⟩;have mH:=aa (Hb.out.trans (bt.mono Hb.out.size));clear bt zG;go_wp2_with fail;exact⟨⟨i+1,_,by omega,by go_num,rfl,HN,mH.out⟩,by simp only[intOf];omega⟩
    obtain rfl:i=n:=by omega
    have Js:Hid (BT=xN b0 ik (xN b1 cf (wL++40::(M++(Lib.join KS [44]++[41]))))):=HBn;have zF:Hid (tB=⟨(wL++40::(M++Lib.join KS [44])).toArray⟩):=aa (by rw[HT.out,af7 (by rw[LN.out];exact af2 _)]);clear HT hb q2 q3
    cases b0
    · cases b1
      · have hX:tB++⟨#[41]⟩=⟨BT.toArray⟩:=by
         rw[Js.out,zF.out];apply ByteArray.ext;simp[xN,ik,cf,ByteArray.data_append]
        obtain⟨XB,kI⟩:∃XB:ByteArray,XB=⟨BT.toArray⟩:=⟨_,rfl⟩;rw[←kI] at hX j5 nI;have Qr:XB.size≤6600:=by rw[kI,aA];exact zm.out
        obtain⟨jE,eX⟩:∃jE:ByteArray,jE=⟨(aE BT).toArray⟩:=⟨_,rfl⟩;rw[←eX] at j5 nI;have xO:jE.size=8:=by rw[eX,aA];exact uN.out
        have HX:=aa hX;clear hX kI eX;go_wp2_with fail;rw[HX.out];refine(j5.out _).mono ?_;rintro e w3 ⟨rfl,bd⟩;have ei:=aa (dh.out.trans ((Hb.out.trans (bd.mono Hb.out.size)).mono dh.out.size));clear bd;go_wp2_with fail;go_ret;exact⟨by rw[nI.out];rfl,ei.out⟩
      have hX:⟨#[119,115,104,40]⟩++(tB++⟨#[41]⟩)++⟨#[41]⟩=⟨BT.toArray⟩:=by
       rw[Js.out,zF.out];apply ByteArray.ext;simp[xN,ik,cf,ByteArray.data_append]
      obtain⟨XB,kI⟩:∃XB:ByteArray,XB=⟨BT.toArray⟩:=⟨_,rfl⟩;rw[←kI] at hX j5 nI;have Qr:XB.size≤6600:=by rw[kI,aA];exact zm.out
      obtain⟨jE,eX⟩:∃jE:ByteArray,jE=⟨(aE BT).toArray⟩:=⟨_,rfl⟩;rw[←eX] at j5 nI;have xO:jE.size=8:=by rw[eX,aA];exact uN.out
      have HX:=aa hX;clear hX kI eX;go_wp2_with fail;rw[HX.out];refine(j5.out _).mono ?_;rintro e w3 ⟨rfl,bd⟩;have ei:=aa (dh.out.trans ((Hb.out.trans (bd.mono Hb.out.size)).mono dh.out.size));clear bd;go_wp2_with fail;go_ret;exact⟨by rw[nI.out];rfl,ei.out⟩
    cases b1
    · have hX:⟨#[115,104,40]⟩++(tB++⟨#[41]⟩)++⟨#[41]⟩=⟨BT.toArray⟩:=by
       rw[Js.out,zF.out];apply ByteArray.ext;simp[xN,ik,cf,ByteArray.data_append]
      obtain⟨XB,kI⟩:∃XB:ByteArray,XB=⟨BT.toArray⟩:=⟨_,rfl⟩;rw[←kI] at hX j5 nI;have Qr:XB.size≤6600:=by rw[kI,aA];exact zm.out
      obtain⟨jE,eX⟩:∃jE:ByteArray,jE=⟨(aE BT).toArray⟩:=⟨_,rfl⟩;rw[←eX] at j5 nI;have xO:jE.size=8:=by rw[eX,aA];exact uN.out
      have HX:=aa hX;clear hX kI eX;go_wp2_with fail;rw[HX.out];refine(j5.out _).mono ?_;rintro e w3 ⟨rfl,bd⟩;have ei:=aa (dh.out.trans ((Hb.out.trans (bd.mono Hb.out.size)).mono dh.out.size));clear bd;go_wp2_with fail;go_ret;exact⟨by rw[nI.out];rfl,ei.out⟩
    have hX:⟨#[115,104,40]⟩++(⟨#[119,115,104,40]⟩++(tB++⟨#[41]⟩)++⟨#[41]⟩)++⟨#[41]⟩=⟨BT.toArray⟩:=by
     rw[Js.out,zF.out];apply ByteArray.ext;simp[xN,ik,cf,ByteArray.data_append]
    obtain⟨XB,kI⟩:∃XB:ByteArray,XB=⟨BT.toArray⟩:=⟨_,rfl⟩;rw[←kI] at hX j5 nI;have Qr:XB.size≤6600:=by rw[kI,aA];exact zm.out
    obtain⟨jE,eX⟩:∃jE:ByteArray,jE=⟨(aE BT).toArray⟩:=⟨_,rfl⟩;rw[←eX] at j5 nI;have xO:jE.size=8:=by rw[eX,aA];exact uN.out
    have HX:=aa hX;clear hX kI eX;go_wp2_with fail;rw[HX.out];refine(j5.out _).mono ?_;rintro e w3 ⟨rfl,bd⟩;have ei:=aa (dh.out.trans ((Hb.out.trans (bd.mono Hb.out.size)).mono dh.out.size));clear bd;go_wp2_with fail;go_ret;exact⟨by rw[nI.out];rfl,ei.out⟩
 have hk3:decide ((3:Int)≤(kd:Int))=true:=af9 (by have:=Hkm.out.2 (by omega);omega);have afF:decide ((10:Int)≤(m:Int))=true:=af9 (by omega);obtain⟨y,hy⟩:∃y:UInt8,y=UInt8.ofNat (38+m):=⟨_,rfl⟩;have XY:y.toNat=38+m:=by rw[hy,agp];omega
 have hyI:(48:Int)+(m:Int).tmod 10=(y.toNat:Int):=by rw[Int.tmod_eq_emod_of_nonneg (Int.natCast_nonneg _)];omega
 have aec:(48:Int)+(m:Int)%10=(y.toNat:Int):=by omega
 have CW:=y.toNat_lt;have mJ:=Ln w1 y
 have HP:Hid (wB++⟨#[40]⟩++⟨#[49]⟩++⟨#[y]⟩++⟨#[44]⟩=⟨(wL++40::(M++Lib.join (KS.take 0) [44])).toArray⟩):=aa (by
  rw[HwB.out,sS.out,if_neg (by omega),qL m (by omega),if_neg (by omega),←hy];apply ByteArray.ext;simp[Lib.join,List.intercalate,ByteArray.data_append])
 have Wo:Hid (Below W0.heap.size W0 (w1.alloc (.cells #[.int .u8 (y.toNat:Int)] 5))):=aa (jN.out.alloc jN.out.size _)
 clear ab4 hy XY;go_wp2_with fail;go_loopw [3,4] (fun tv iv wr=>∃(i:Nat) (tB:ByteArray),i≤n∧iv=.int .i64 i∧tv=.string tB∧Hid (tB=⟨(wL++40::(M++Lib.join (KS.take i) [44])).toArray⟩)∧Below W0.heap.size W0 wr) (fun _ iv _=>n-(intOf iv).toNat)
 case atStart=>exact⟨0,_,by omega,rfl,rfl,aa HP.out,Wo.out⟩
 case round=>
  clear HP Wo;obtain⟨i,tB,hi,rfl,rfl,HT,hb⟩:=hrel;have Ue:tB.size≤6431:=by rw[HT.out,aA];have:=HJl.out i;have:=HMl.out;have:=Hwl.out;simp;omega
  obtain⟨q0,q1,q2,q3,q4⟩:=HC.out wr hb;have Hb:=aa hb
  by_cases aL:i<n
  · have uv:i<d.keys.length:=by rw[←Hnk.out];exact aL
    obtain⟨g,pv,sv,rfl,gF,pT,hr⟩:=qe.out i uv;have zG:=aa (nb d.keys[i] (Jf.out i uv).1 (Jf.out i uv).2 pv sv lo wr (gF.below hb));have rO:wr.rangeAt g (i*75) (eS d.keys[i] pv sv):=fun j v hv=>et (hr j v hv) hb
    obtain⟨L,hL⟩:∃L,L=eS d.keys[i] pv sv:=⟨_,rfl⟩;have uT:L.length=75:=by rw[hL,aT (Jf.out i uv).1.top]
    obtain⟨kT,Jr⟩:∃kT,kT=di d.keys[i]:=⟨_,rfl⟩;have EE:kT.length≤400:=by rw[Jr];exact(mq (Jf.out i uv).1).1
    rw[←hL,←Jr] at zG;rw[←hL] at rO;have Ld:=aa rO;have ML:=aa (show (Tryz.prog.info? 71).map (·.size)=some L.length by rw[uT];kernel_rfl);have lu:=Su.out i uv;rw[←Jr] at lu;have HJ:Hid (Lib.join (KS.take (i+1)) [44]=if KS.take i=[] then kT else Lib.join (KS.take i) [44]++44::kT):=aa (by rw[lu,tA]);obtain⟨kB,vd⟩:∃kB:ByteArray,kB=⟨kT.toArray⟩:=⟨_,rfl⟩;have hkz:kB.size≤400:=by rw[vd,aA];exact EE
    rw[←vd] at zG;have Le:=aa vd
    have Qq:Hid (KS.take i=[]↔i=0):=aa (by
     rw[←List.length_eq_zero_iff,agj,LN.out];omega)
    clear gF pT hr rO hL uT Jr EE lu vd hb uv q0 q1 q2 q3;have nt:decide ((0:Int)<(i:Int))=decide (0<i):=by simp
    by_cases Ec:i=0
    · have HN:Hid (tB++kB=⟨(wL++40::(M++Lib.join (KS.take (i+1)) [44])).toArray⟩):=aa (by
       rw[HT.out,Le.out,cU,HJ.out,if_pos (Qq.out.2 Ec),Qq.out.2 Ec];simp[Lib.join,List.intercalate])
      subst Ec;clear nt;go_wp2_with (first|((with_reducible refine wpList_load_mid ?_ 71 (.tmp 43) ?_ g (0*75) ?_ L _ Ld.out Tryz.underlying71 ?_ ML.out ?_);rfl;rfl;rfl;rfl));refine zG.out.mono ?_;rintro e w2 ⟨rfl,bt⟩;have mH:=aa (Hb.out.trans (bt.mono Hb.out.size));clear bt zG;go_wp2_with fail;exact⟨⟨1,_,by omega,rfl,rfl,HN,mH.out⟩,by simp only[intOf];omega⟩
    have BU:0<i:=by omega
    have HN:Hid (tB++⟨#[44]⟩++kB=⟨(wL++40::(M++Lib.join (KS.take (i+1)) [44])).toArray⟩):=aa (by
     rw[HT.out,Le.out,show (⟨#[44]⟩:ByteArray)=⟨([44]:List UInt8).toArray⟩ from rfl,cU,cU,HJ.out,if_neg (fun h=>Ec (Qq.out.1 h))]
     simp)
    clear nt Ec;go_wp2_with (first|((with_reducible refine wpList_load_mid ?_ 71 (.tmp 43) ?_ g (i*75) ?_ L _ Ld.out Tryz.underlying71 ?_ ML.out ?_);rfl;rfl;rfl;rfl));refine zG.out.mono ?_;rintro e w2 ⟨rfl,bt⟩;have mH:=aa (Hb.out.trans (bt.mono Hb.out.size));clear bt zG;go_wp2_with fail;exact⟨⟨i+1,_,by omega,by go_num,rfl,HN,mH.out⟩,by simp only[intOf];omega⟩
  obtain rfl:i=n:=by omega
  have Js:Hid (BT=xN b0 ik (xN b1 cf (wL++40::(M++(Lib.join KS [44]++[41]))))):=HBn;have zF:Hid (tB=⟨(wL++40::(M++Lib.join KS [44])).toArray⟩):=aa (by rw[HT.out,af7 (by rw[LN.out];exact af2 _)]);clear HT hb q2 q3
  cases b0
  · cases b1
    · have hX:tB++⟨#[41]⟩=⟨BT.toArray⟩:=by
       rw[Js.out,zF.out];apply ByteArray.ext;simp[xN,ik,cf,ByteArray.data_append]
      obtain⟨XB,kI⟩:∃XB:ByteArray,XB=⟨BT.toArray⟩:=⟨_,rfl⟩;rw[←kI] at hX j5 nI;have Qr:XB.size≤6600:=by rw[kI,aA];exact zm.out
      obtain⟨jE,eX⟩:∃jE:ByteArray,jE=⟨(aE BT).toArray⟩:=⟨_,rfl⟩;rw[←eX] at j5 nI;have xO:jE.size=8:=by rw[eX,aA];exact uN.out
      have HX:=aa hX;clear hX kI eX;go_wp2_with fail;rw[HX.out];refine(j5.out _).mono ?_;rintro e w3 ⟨rfl,bd⟩;have ei:=aa (dh.out.trans ((Hb.out.trans (bd.mono Hb.out.size)).mono dh.out.size));clear bd;go_wp2_with fail;go_ret;exact⟨by rw[nI.out];rfl,ei.out⟩
    have hX:⟨#[119,115,104,40]⟩++(tB++⟨#[41]⟩)++⟨#[41]⟩=⟨BT.toArray⟩:=by
     rw[Js.out,zF.out];apply ByteArray.ext;simp[xN,ik,cf,ByteArray.data_append]
    obtain⟨XB,kI⟩:∃XB:ByteArray,XB=⟨BT.toArray⟩:=⟨_,rfl⟩;rw[←kI] at hX j5 nI;have Qr:XB.size≤6600:=by rw[kI,aA];exact zm.out
    obtain⟨jE,eX⟩:∃jE:ByteArray,jE=⟨(aE BT).toArray⟩:=⟨_,rfl⟩;rw[←eX] at j5 nI;have xO:jE.size=8:=by rw[eX,aA];exact uN.out
    have HX:=aa hX;clear hX kI eX;go_wp2_with fail;rw[HX.out];refine(j5.out _).mono ?_;rintro e w3 ⟨rfl,bd⟩;have ei:=aa (dh.out.trans ((Hb.out.trans (bd.mono Hb.out.size)).mono dh.out.size));clear bd;go_wp2_with fail;go_ret;exact⟨by rw[nI.out];rfl,ei.out⟩
  cases b1
  · have hX:⟨#[115,104,40]⟩++(tB++⟨#[41]⟩)++⟨#[41]⟩=⟨BT.toArray⟩:=by
     rw[Js.out,zF.out];apply ByteArray.ext;simp[xN,ik,cf,ByteArray.data_append]
    obtain⟨XB,kI⟩:∃XB:ByteArray,XB=⟨BT.toArray⟩:=⟨_,rfl⟩;rw[←kI] at hX j5 nI;have Qr:XB.size≤6600:=by rw[kI,aA];exact zm.out
    obtain⟨jE,eX⟩:∃jE:ByteArray,jE=⟨(aE BT).toArray⟩:=⟨_,rfl⟩;rw[←eX] at j5 nI;have xO:jE.size=8:=by rw[eX,aA];exact uN.out
    have HX:=aa hX;clear hX kI eX;go_wp2_with fail;rw[HX.out];refine(j5.out _).mono ?_;rintro e w3 ⟨rfl,bd⟩;have ei:=aa (dh.out.trans ((Hb.out.trans (bd.mono Hb.out.size)).mono dh.out.size));clear bd;go_wp2_with fail;go_ret;exact⟨by rw[nI.out];rfl,ei.out⟩
  have hX:⟨#[115,104,40]⟩++(⟨#[119,115,104,40]⟩++(tB++⟨#[41]⟩)++⟨#[41]⟩)++⟨#[41]⟩=⟨BT.toArray⟩:=by
   rw[Js.out,zF.out];apply ByteArray.ext;simp[xN,ik,cf,ByteArray.data_append]
  obtain⟨XB,kI⟩:∃XB:ByteArray,XB=⟨BT.toArray⟩:=⟨_,rfl⟩;rw[←kI] at hX j5 nI;have Qr:XB.size≤6600:=by rw[kI,aA];exact zm.out
  obtain⟨jE,eX⟩:∃jE:ByteArray,jE=⟨(aE BT).toArray⟩:=⟨_,rfl⟩;rw[←eX] at j5 nI;have xO:jE.size=8:=by rw[eX,aA];exact uN.out
  have HX:=aa hX;clear hX kI eX;go_wp2_with fail;rw[HX.out];refine(j5.out _).mono ?_;rintro e w3 ⟨rfl,bd⟩;have ei:=aa (dh.out.trans ((Hb.out.trans (bd.mono Hb.out.size)).mono dh.out.size));clear bd;go_wp2_with fail;go_ret;exact⟨by rw[nI.out];rfl,ei.out⟩
theorem UF:∀n:Fin 16,∀y:Fin 256,(UInt8.ofNat y.val=fG n.val∨(9<n.val∧UInt8.ofNat (y.val+32)=fG n.val∧y.val<224))↔mi (UInt8.ofNat y.val)=(n.val:Int):=by decide+kernel
theorem H9:∀y:Fin 256,mi (UInt8.ofNat y.val)=-1∨(0≤mi (UInt8.ofNat y.val)∧mi (UInt8.ofNat y.val)<16):=by decide+kernel
theorem QU:∀n:Fin 16,9<n.val→97≤(fG n.val).toNat:=by decide+kernel
theorem zJ (y:UInt8) (w:World):
 Calls Tryz.prog 115 #[.int .u8 (y.toNat:Int)] w fun e W'=>e=.returned (.int .i64 (mi y))∧w=W':=by
 have CW:=y.toNat_lt;have HR:=aa (fun (n:Nat) (h:n<16) (W:World)=>qO n h W);go_enter Tryz.func115,Tryz.ntmps115;go_wp2_with fail;go_loopw [3] (fun i wr=>wr=w∧∃n:Nat,n≤16∧i=.int .u8 n∧Hid (∀j:Nat,j<n→mi y≠(j:Int))) (fun i _=>16-(intOf i).toNat)
 case atStart=>exact⟨rfl,0,by omega,rfl,aa (fun j h=>absurd h (by omega))⟩
 case round=>
  obtain⟨rfl,n,hn,rfl,HN⟩:=hrel
  by_cases aL:n<16
  · have UG:=UF ⟨n,aL⟩ ⟨y.toNat,CW⟩
    simp only[] at UG;rw[show UInt8.ofNat y.toNat=y by simp] at UG;obtain⟨d,hd⟩:=ab (fG n);rw[←hd] at UG;have uQ:9<n→97≤d.toNat:=fun h=>by rw[hd];exact QU ⟨n,aL⟩ h
    have hd8:=d.toNat_lt;have Ep:=aa (HR.out n aL);rw[←hd] at Ep
    have ach:((y.toNat=d.toNat)∨(9<n∧y.toNat+32=d.toNat))↔mi y=(n:Int):=by
     rw[←UG];constructor
     · rintro(h|⟨h,h2⟩)
       · exact .inl (UInt8.toNat_inj.1 h)
       exact .inr ⟨h,UInt8.toNat_inj.1 (by rw[agp];omega),by omega⟩
     rintro(h|⟨h,h2,h3⟩)
     · exact .inl (by rw[h])
     refine .inr ⟨h,?_⟩;have:=congrArg UInt8.toNat h2;rw[agp] at this;omega
    have qe:=aa ach;clear UG ach hd
    by_cases h1:y.toNat=d.toNat
    · have e1:((y.toNat:Int)==(d.toNat:Int))=true:=by simp;omega
      have HZ:=aa (qe.out.1 (.inl h1));clear h1;go_wp2_with (go_at_call 86;refine(Ep.out _).mono ?_;rintro e w' ⟨rfl,bD⟩;rw[bD];clear bD);go_ret;exact⟨by rw[HZ.out];rfl,rfl⟩
    have e1:((y.toNat:Int)==(d.toNat:Int))=false:=by simp;omega
    by_cases h9:9<n
    · have afU:=uQ h9
      by_cases h2:y.toNat+32=d.toNat
      · have e2:((y.toNat:Int)==(d.toNat:Int)-32)=true:=by simp;omega
        have HZ:=aa (qe.out.1 (.inr ⟨h9,h2⟩));clear h1 h2;go_wp2_with (go_at_call 86;refine(Ep.out _).mono ?_;rintro e w' ⟨rfl,bD⟩;rw[bD];clear bD);go_ret;exact⟨by rw[HZ.out];rfl,rfl⟩
      have e2:((y.toNat:Int)==(d.toNat:Int)-32)=false:=by simp;omega
      have HZ:=aa (fun h=>(qe.out.2 h).elim h1 (fun h=>h2 h.2));clear h1 h2;go_wp2_with (go_at_call 86;refine(Ep.out _).mono ?_;rintro e w' ⟨rfl,bD⟩;rw[bD];clear bD)
      exact⟨⟨trivial,n+1,by omega,by go_num,aa (fun j hj=>by
       rcases Nat.lt_or_ge j n with h|h
       · exact HN.out j h
       obtain rfl:j=n:=by omega
       exact HZ.out)⟩,by simp[intOf];omega⟩
    have HZ:=aa (fun h=>(qe.out.2 h).elim h1 (fun h=>h9 h.1));clear h1 uQ;go_wp2_with (go_at_call 86;refine(Ep.out _).mono ?_;rintro e w' ⟨rfl,bD⟩;rw[bD];clear bD)
    exact⟨⟨trivial,n+1,by omega,by go_num,aa (fun j hj=>by
     rcases Nat.lt_or_ge j n with h|h
     · exact HN.out j h
     obtain rfl:j=n:=by omega
     exact HZ.out)⟩,by simp[intOf];omega⟩
  obtain rfl:n=16:=by omega
  have hz:mi y=-1:=by
   have hc:=H9 ⟨y.toNat,CW⟩;simp only[] at hc;rw[show UInt8.ofNat y.toNat=y by simp] at hc;rcases hc with h|⟨h0,h1⟩
   · exact h
   exact absurd (show mi y=(((mi y).toNat:Nat):Int) by omega) (HN.out _ (by omega))
  have HZ:=aa hz;clear hz;go_wp2_with fail;go_ret;exact⟨by rw[HZ.out];rfl,rfl⟩
end Go.Proofs.YtcjioogololnoaaGreatDoor
