/- Of any text: the program's descriptors and the reference's are read and written alike (DescParses). No condition. -/
import Derived.Test.YtcjioogololnoaaGreatDoorU1
import Derived.Test.YtcjioogololnoaaGreatDoorU16
import Derived.Test.YtcjioogololnoaaGreatDoorU18
import Derived.Test.YtcjioogololnoaaGreatDoorU3
set_option maxRecDepth 1000000
set_option maxHeartbeats 16000000
set_option linter.unusedVariables false
set_option linter.unusedSimpArgs false
namespace Go.Proofs.YtcjioogololnoaaGreatDoor
open Go.RowKit Go.Shelf
theorem lg {v u v':Value} {r0:Nat} (h:∀r,az v=some r→az u≠some r) (hv:az v'=az v∨az v'=some r0) (hu:∀r,az u=some r→r<r0):∀r,az v'=some r→az u≠some r:=by
 intro r hr e;rcases hv with h1|h1
 · exact h r (h1▸hr) e
 rw[h1] at hr;injection hr with hr;have:=hu r e;omega
theorem Ow.row_lt {w:World} {base E:Nat} {v:Value} {xs:List Value} (h:Ow w base E v xs):∀r,az v=some r→r<w.heap.size:=fun r hr=>(h.row r hr).2
theorem jw {v u:Value} (h:∀r,az v=some r→az u≠some r):∀r,az u=some r→az v≠some r:=fun r hu hv=>h r hv hu
theorem ub (s:List UInt8) (c:UInt8):eG (s++[c])=iY (eG s) c:=by simp[eG]
theorem Be (V G:List UInt8) (c:UInt8) (h:G.length<2):iY (V,G) c=(V++[UInt8.ofNat (jW c%32)],G++[UInt8.ofNat (jW c/32)]):=by
 unfold iY
 match G,h with
 |[],_=>rfl
 |[g],_=>rfl
theorem Dv (V:List UInt8) (g0 g1:UInt8) (c:UInt8):iY (V,[g0,g1]) c=(V++[UInt8.ofNat (jW c%32)]++[UInt8.ofNat (9*g0.toNat+3*g1.toNat+jW c/32)],[]):=rfl
theorem abm (p:Nat) (h:p<95):bits .and .i64 (p:Int) 31=((p%32:Nat):Int):=by
 have:∀p:Fin 95,bits .and .i64 (p.val:Int) 31=((p.val%32:Nat):Int):=by decide
 exact this ⟨p,h⟩
theorem oB (c:BitVec 64) (k:Nat):∀d∈bG c k,d.toNat<32:=by
 intro d hd;obtain⟨i,_,rfl⟩:=List.mem_map.1 hd;rw[agp];omega
theorem mV (d:UInt8) (h:d.toNat<(⟨bP.toArray⟩:ByteArray).size):(⟨bP.toArray⟩:ByteArray)[d.toNat]=dJ d:=by
 have h':d.toNat<bP.length:=h;show bP.toArray[d.toNat]'(by simpa using h')=_
 simp[dJ,h']
theorem lI (s:ByteArray) (w:World) (hsz:s.size≤8000):
 Calls Tryz.prog 16 #[.string s] w fun e W'=>(((∀c∈s.data.toList,c∈kU)∧e=.returned (.tuple #[.string ⟨(aE s.data.toList).toArray⟩,.int .i64 0]))∨((∃c∈s.data.toList,c∉kU)∧e=.returned (.tuple #[.string ⟨#[]⟩,.int .i64 3])))∧Below w.heap.size w W':=by
 have hS:s.data.toList.length=s.size:=by simp
 obtain⟨S,Ax⟩:=ab s.data.toList;rw[←Ax] at hS⊢;have Ro:=aa Ax;have HS:=aa hS;clear Ax hS;go_enter Tryz.func16,Tryz.ntmps16;go_wp2_with fail;go_loopw [4,5,13] (fun v g i wr=>∃k:Nat,k≤s.size∧i=.int .i64 k∧Ow wr w.heap.size 5 v (B8 (eG (S.take k)).1)∧Ow wr w.heap.size 5 g (B8 (eG (S.take k)).2)∧Hid ((∀r,az v=some r→az g≠some r)∧(eG (S.take k)).2.length≤2∧(eG (S.take k)).1.length≤2*k∧(∀c∈S.take k,c∈kU))∧Below w.heap.size w wr) (fun _ _ i _=>s.size-(intOf i).toNat)
 case atStart=>exact⟨0,agu _,rfl,Ow.nil_ _ _ _ _,Ow.nil_ _ _ _ _,aa ⟨by simp[az],by simp[eG],by simp[eG],by simp⟩,af5 _ _⟩
 case round=>
  obtain⟨k,hk,rfl,yq,Dw,HI,hb⟩:=hrel;obtain⟨V,hV⟩:∃V,V=(eG (S.take k)).1:=⟨_,rfl⟩;obtain⟨G,hG⟩:∃G,G=(eG (S.take k)).2:=⟨_,rfl⟩;have hI:=HI.out;rw[←hV,←hG] at hI;rw[←hV] at yq;rw[←hG] at Dw;obtain⟨Av,cv,rfl,J1,KE⟩:=aH yq;obtain⟨Ag,cg,rfl,hcg,aff⟩:=aH Dw;have HI:=aa hI;obtain⟨n,hn⟩:=ab V.length;have EI:n≤16000:=by rw[hn];omega
  rw[←hn] at yq J1⊢;have HV:=aa hV;have HG:=aa hG;have Hn:=aa hn
  by_cases aL:k<s.size
  · obtain⟨y,hy⟩:∃y,y=s[k]:=⟨_,rfl⟩
    have NO:S[k]?=some y:=by rw[Ro.out,hy];simp[aL];rfl
    have mM:=Tryz.strings_IndexByte ⟨kU.toArray⟩ (s[k].toNat:Int);rw[show (⟨kU.toArray⟩:ByteArray).data.toList=kU from rfl,fc,show ((s[k].toNat:Int)).toNat.toUInt8=y from by rw[hy];simp] at mM;rcases Decidable.em (y∉kU) with VJ|hnm
    · have iO:cC kU y=-1:=by rw[cC,if_neg VJ]
      rw[iO] at mM;have uW:=aa mM;have mW:Hid (∃c∈S,c∉kU):=aa ⟨y,List.mem_of_getElem? NO,VJ⟩;clear hV hG hn hI NO mM iO VJ HI hy;go_wp2_with (go_at_call 32;refine(uW.out _).mono ?_;rintro e w' ⟨rfl,bD⟩;rw[bD];clear bD);go_ret2;exact⟨.inr ⟨mW.out,rfl⟩,hb⟩
    have VJ:y∈kU:=Decidable.not_not.1 hnm;clear hnm
    have abn:Hid (∀c∈S.take (k+1),c∈kU):=aa (by
     rw[List.take_add_one,NO];intro c hc;simp only[Option.toList_some,List.mem_append,agE] at hc;rcases hc with hc|rfl
     · exact hI.2.2.2 c hc
     exact VJ)
    obtain⟨p,hp⟩:=ab (jW y);have adv:p<95:=by rw[hp];exact List.idxOf_lt_length_iff.2 VJ
    have iO:cC kU y=(p:Int):=by rw[cC,if_pos VJ,hp];rfl
    rw[iO] at mM;have uW:=aa mM;have Vk:=aa NO;have Hp:=aa hp;clear hV hG hn hI NO mM hp iO VJ;have hand:bits .and .i64 (p:Int) 31=((p%32:Nat):Int):=abm p adv;obtain⟨lo,oY⟩:∃lo,lo=p%32:=⟨_,rfl⟩;obtain⟨hi,CX⟩:∃hi,hi=p/32:=⟨_,rfl⟩;have ehi:(p:Int)/32=(hi:Int):=by omega
    rw[←oY] at hand;have aeM:lo<32:=by omega
    have adw:hi<3:=by omega
    have Hlo:=aa oY;have Hhi:=aa CX;clear oY CX;obtain⟨gl,pT⟩:=ab G.length;have afg:gl≤2:=by rw[pT];exact HI.out.2.1
    rw[←pT] at Dw hcg⊢;have FM:=aa pT;have Hap:Hid (∀r,az (.slice Av n cv)=some r→az (.slice Ag gl cg)≠some r):=aa (by rw[Hn.out,FM.out];exact HI.out.1);clear pT
    by_cases lv:gl<2
    · go_wp2_with (first|(go_at_call 32;refine(uW.out _).mono ?_;rintro e w' ⟨rfl,bD⟩;rw[bD];clear bD)|(at_builtin;go_loud (refine aq (m:=1) (c:=1) (base:=w.heap.size) (xs:=B8 V) (v:=.slice Av n cv) (A:=some ⟨wr.heap.size,0,none⟩) (B:=wr.heap.size+1) (news:=[.int .u8 (lo:Int)]) jf rfl (.tmp 22) (.tmp 26) rfl rfl (yq.alloc _) rfl (Sl.one wr _ _) rfl (by simp;rfl) (by rw[B8_length,←Hn.out];simp[maxLen];omega) (by rw[B8_length,←Hn.out];omega) (by have:=hb.size;simp;omega) ?_;intro v3 w3 cZ fl j0;have bd:=bE hb (af2 _) yq fl;have KQ:=(Dw.alloc (.cells #[.int .u8 (lo:Int)] 5)).kept fl (jw Hap.out);have Pg:=aa (lg Hap.out j0 (Dw.alloc (.cells #[.int .u8 (lo:Int)] 5)).row_lt);have yP:=bd.size;clear j0 fl))|(at_builtin;go_loud (refine aq (m:=1) (c:=1) (base:=w.heap.size) (xs:=B8 G) (v:=.slice Ag gl cg) (A:=some ⟨w3.heap.size,0,none⟩) (B:=w3.heap.size+1) (news:=[.int .u8 (hi:Int)]) jf rfl (.tmp 28) (.tmp 32) rfl rfl (KQ.alloc _) rfl (Sl.one w3 _ _) rfl (by simp;rfl) (by rw[B8_length,←FM.out];simp[maxLen];omega) (by rw[B8_length,←FM.out];omega) (by simp;omega) ?_;intro v4 w4 lQ xY qm;have dn:=bE bd (af2 _) KQ xY;have Bf:=(cZ.alloc (.cells #[.int .u8 (hi:Int)] 5)).kept xY Pg.out;have abo:=aa (jw (lg (jw Pg.out) qm (cZ.alloc (.cells #[.int .u8 (hi:Int)] 5)).row_lt));have VK:=dn.size;clear qm xY;rw[dD V _ (UInt8.ofNat lo) (by simp;omega)] at Bf;rw[dD G _ (UInt8.ofNat hi) (by simp;omega)] at lQ;obtain⟨A3,c3,rfl,vR,adx⟩:=aH Bf;obtain⟨A4,c4,rfl,Aq,SB⟩:=aH lQ;rw[agc,←Hn.out,agk] at Bf vR⊢;rw[agc,←FM.out,agk] at lQ Aq⊢)))
      have cW:eG (S.take (k+1))=(V++[UInt8.ofNat lo],G++[UInt8.ofNat hi]):=by
       have jO:S.take k++[y]=S.take (k+1):=by rw[List.take_add_one,Vk.out];rfl
       rw[←jO,ub,show eG (S.take k)=(V,G) from by rw[HV.out,HG.out],Be V G y (by rw[←FM.out];exact lv),←Hp.out,←Hlo.out,←Hhi.out]
      refine⟨⟨k+1,by omega,rfl,by rw[cW];exact Bf,by rw[cW];exact lQ,aa ⟨?_,?_,?_,?_⟩,dn⟩,by simp[intOf];omega⟩
      · simpa [agc,←Hn.out,←FM.out] using abo.out
      · rw[cW,agc,←FM.out,agk];omega
      · have h3:=HI.out.2.2.1
        rw[cW,agc,agk];omega
      exact abn.out
    have yE:2≤gl:=by omega
    have afh:(gl:Int)+1=3:=by omega
    go_wp2_with (first|(go_at_call 32;refine(uW.out _).mono ?_;rintro e w' ⟨rfl,bD⟩;rw[bD];clear bD)|(at_builtin;go_loud (refine aq (m:=1) (c:=1) (base:=w.heap.size) (xs:=B8 V) (v:=.slice Av n cv) (A:=some ⟨wr.heap.size,0,none⟩) (B:=wr.heap.size+1) (news:=[.int .u8 (lo:Int)]) jf rfl (.tmp 22) (.tmp 26) rfl rfl (yq.alloc _) rfl (Sl.one wr _ _) rfl (by simp;rfl) (by rw[B8_length,←Hn.out];simp[maxLen];omega) (by rw[B8_length,←Hn.out];omega) (by have:=hb.size;simp;omega) ?_;intro v3 w3 cZ fl j0;have bd:=bE hb (af2 _) yq fl;have KQ:=(Dw.alloc (.cells #[.int .u8 (lo:Int)] 5)).kept fl (jw Hap.out);have Pg:=aa (lg Hap.out j0 (Dw.alloc (.cells #[.int .u8 (lo:Int)] 5)).row_lt);have yP:=bd.size;clear j0 fl))|(at_builtin;go_loud (refine aq (m:=1) (c:=1) (base:=w.heap.size) (xs:=B8 G) (v:=.slice Ag gl cg) (A:=some ⟨w3.heap.size,0,none⟩) (B:=w3.heap.size+1) (news:=[.int .u8 (hi:Int)]) jf rfl (.tmp 28) (.tmp 32) rfl rfl (KQ.alloc _) rfl (Sl.one w3 _ _) rfl (by simp;rfl) (by rw[B8_length,←FM.out];simp[maxLen];omega) (by rw[B8_length,←FM.out];omega) (by simp;omega) ?_;intro v4 w4 lQ xY qm;have dn:=bE bd (af2 _) KQ xY;have Bf:=(cZ.alloc (.cells #[.int .u8 (hi:Int)] 5)).kept xY Pg.out;have abo:=aa (jw (lg (jw Pg.out) qm (cZ.alloc (.cells #[.int .u8 (hi:Int)] 5)).row_lt));have VK:=dn.size;clear qm xY;rw[dD V _ (UInt8.ofNat lo) (by simp;omega)] at Bf;rw[dD G _ (UInt8.ofNat hi) (by simp;omega)] at lQ;obtain⟨A3,c3,rfl,vR,adx⟩:=aH Bf;obtain⟨A4,c4,rfl,Aq,SB⟩:=aH lQ;rw[agc,←Hn.out,agk] at Bf vR⊢;rw[agc,←FM.out,agk] at lQ Aq⊢)))
    obtain⟨g0,g1,qo⟩:∃g0 g1,G=[g0,g1]:=by
     have hl:=FM.out
     match G,hl with
     |[],h=>simp at h;omega
     |[_],h=>simp at h;omega
     |[g0,g1],_=>exact⟨g0,g1,rfl⟩
     |_::_::_::_,h=>simp at h;omega
    have bW:Tryz.prog.follows .mixedOrders=true:=by kernel_rfl
    have hGl:(G++[UInt8.ofNat hi])=[g0,g1,UInt8.ofNat hi]:=by rw[qo];rfl
    rw[hGl] at lQ;obtain⟨gr,rfl,fL,IZ,z0,_⟩:=lQ.at_ (j:=0) (by simp);obtain⟨_,e1,_,_,z1,_⟩:=lQ.at_ (j:=1) (by simp);obtain⟨_,e2,_,_,z2,_⟩:=lQ.at_ (j:=2) (by simp);injection e1 with e1;injection e1 with e1;injection e2 with e2;injection e2 with e2;subst e1 e2;have q0:w4.cell? ⟨gr,0,none⟩=some (.int .u8 (g0.toNat:Int)):=z0;have q1:w4.cell? ⟨gr,1,none⟩=some (.int .u8 (g1.toNat:Int)):=z1;have q2:w4.cell? ⟨gr,2,none⟩=some (.int .u8 (hi:Int)):=by rw[z2];simp[B8];omega
    have cW:eG (S.take (k+1))=(V++[UInt8.ofNat lo]++[UInt8.ofNat (9*g0.toNat+3*g1.toNat+hi)],[]):=by
     have jO:S.take k++[y]=S.take (k+1):=by rw[List.take_add_one,Vk.out];rfl
     rw[←jO,ub,show eG (S.take k)=(V,[g0,g1]) from by rw[HV.out,←qo,HG.out],Dv V g0 g1 y,←Hp.out,←Hlo.out,←Hhi.out]
    have eg:=aa cW;clear cW qo hGl yq Dw cZ KQ z0 z1 z2;refine an [(0,0),(1,0),(2,0),(3,1),(4,0),(5,0),(6,0),(7,1),(8,0),(9,0),(10,0),(11,0),(12,1),(13,0),(14,2),(15,2),(16,2),(17,2)] 15 bW (by kernel_rfl) (by intro c a d v w h;cases d<;>exact h) ?_
    repeat ((first|refine ag rfl fun K hK=>?_|refine af rfl fun K hK=>?_);go_simp;(first|refine hK _ ?_|(simp only[IntWalk.iteOmega];go_simp;refine hK _ ?_)|(go_bits;go_simp;refine hK _ ?_));clear hK K;try go_bits)
    refine ae rfl rfl (fun K hK=>?_);go_wp2_with fail;refine⟨bM _ _,?_⟩;obtain⟨u,hu⟩:∃u,u=9*g0.toNat+3*g1.toNat+hi:=⟨_,rfl⟩;have Hu:=aa hu;have eu:(9*(g0.toNat:Int)+3*(g1.toNat:Int)+(hi:Int))%256=((UInt8.ofNat u).toNat:Int):=by rw[agp];omega
    rw[eu];obtain⟨w5,nk⟩:∃w5,w5=(w4.alloc (.cells #[.int .u8 ((UInt8.ofNat u).toNat:Int)] 5)).drew:=⟨_,rfl⟩
    rw[←nk];have eh:Below w.heap.size w w5:=by rw[nk];exact(dn.alloc VK _).drew
    have KU:Ow w5 w.heap.size 5 (.slice A3 (n+1) c3) (B8 (V++[UInt8.ofNat lo])):=by rw[nk];exact(Bf.alloc _).drew
    have I0:Sl w5 (w4.heap.size+1) (some ⟨w4.heap.size,0,none⟩) [.int .u8 ((UInt8.ofNat u).toNat:Int)]:=by rw[nk];exact(Sl.one w4 _ _).drew
    have Fa:=eh.size;clear nk;refine ae rfl rfl (fun K hK=>?_);refine bn (m:=1) (c:=1) (base:=w.heap.size) (xs:=B8 (V++[UInt8.ofNat lo])) (v:=.slice A3 (n+1) c3) (A:=some ⟨w4.heap.size,0,none⟩) (B:=w4.heap.size+1) (news:=[.int .u8 ((UInt8.ofNat u).toNat:Int)]) jf (.tmp 37) (.tmp 51) rfl rfl KU rfl I0 rfl (by simp;rfl) (by rw[B8_length,agc,←Hn.out];simp[maxLen];omega) (by rw[B8_length,agc,←Hn.out];simp;omega) Fa ?_;intro v6 w6 pI va Ez;have fv:Below w.heap.size w w6:=eh.grown va Fa (fun r hr=>(KU.row r hr).1);refine(show K (Act.put _ (some 52) v6) w6 from ?_)
    conv in (Act.put _ (some 52) v6)=>simp[Act.put]
    refine hK _ _ ⟨.inl (by decide),?_⟩;clear hK K;rw[dD _ _ (UInt8.ofNat u) rfl] at pI;refine ae rfl rfl (fun K hK=>?_);refine Go.BigFrame.wp_assign (.tmp 52) rfl ?_;refine(show K (Act.put _ (some 4) v6) w6 from ?_)
    conv in (Act.put _ (some 4) v6)=>simp[Act.put]
    refine hK _ _ ⟨.inl (by decide),?_⟩;clear hK K;refine ae rfl rfl (fun K hK=>?_);refine Go.BigFrame.wp_assign (.const (.slice none 0 0)) rfl ?_;refine(show K (Act.put _ (some 5) (.slice none 0 0)) w6 from ?_)
    conv in (Act.put _ (some 5) (.slice none 0 0))=>simp[Act.put]
    refine hK _ _ ⟨.inl (by decide),?_⟩;clear hK K;refine ak ?_;go_wp2_with fail;refine⟨⟨k+1,by omega,rfl,by rw[eg.out,←Hu.out];exact pI,by rw[eg.out];exact Ow.nil_ _ _ _ _,aa ⟨by simp[az],?_,?_,?_⟩,fv⟩,by simp[intOf];omega⟩
    · rw[eg.out];simp
    · have h3:=HI.out.2.2.1
      rw[eg.out];simp only[agc,agk];omega
    exact abn.out
  have iQ:eG S=(V,G):=by
   have:S.take k=S:=af7 (by rw[HS.out];omega);rw[HV.out,HG.out,this]
  have Ph:Hid (∀c∈S,c∈kU):=aa (by
   have h1:=HI.out.2.2.2;rwa [show S.take k=S from af7 (by rw[HS.out];omega)] at h1)
  have Xp:G=[]∨(∃g0,G=[g0])∨∃g0 g1,G=[g0,g1]:=by
   have hl:=HI.out.2.1
   match G,hl with
   |[],_=>exact .inl rfl
   |[g0],_=>exact .inr (.inl ⟨g0,rfl⟩)
   |[g0,g1],_=>exact .inr (.inr ⟨g0,g1,rfl⟩)
   |_::_::_::_,h=>simp at h
  have kP:=aa iQ;obtain⟨wS,VC⟩:=ab wr;subst VC;have hzS:=hb.size;have ady:V.length≤2*k:=hI.2.2.1;have Hap:Hid (∀r,az (.slice Av n cv)=some r→az (.slice Ag G.length cg)≠some r):=aa (by rw[Hn.out];exact hI.1);clear iQ HG hI HI hV hG hn ady;rcases Xp with rfl|⟨g0,rfl⟩|⟨g0,g1,rfl⟩
  · rw[show ([]:List UInt8).length=0 from rfl] at Dw hcg⊢
    have BY:Hid (aE S=(bG (gL (V++List.replicate 8 0) ^^^ 1) 8).map dJ):=aa (by rw[aE,kP.out];rfl);obtain⟨F,KW⟩:=ab V;rw[←KW] at yq BY;have hF:F.length=n:=by rw[KW,Hn.out]
    clear KW Dw;have HF:=aa hF;clear hF;have hzF:=hb.size;obtain⟨pz,iO⟩:=ab (gL (F++List.replicate 8 0));have tK:bits .xor .u64 (pz.toNat:Int) 1=((pz ^^^ 1).toNat:Int):=Dp pz 1;obtain⟨L,hL⟩:=ab (bG (pz ^^^ 1) 8);have rl:=aa iO;have HL:=aa hL;clear iO hL;go_wp2_with (first|(go_at_call 34;refine(tf _).mono ?_;rintro e w7 ⟨rfl,kR⟩)|(go_at_call 35;have lr:=AT Av cv F w7 ((yq.sl.below kR).mono kR.size) (by rw[HF.out];omega);rw[HF.out,←rl.out] at lr;refine lr.mono ?_;clear lr;rintro e w8 ⟨rfl,eR⟩)|(go_at_call 33;(try rw[tK]);refine(oq (pz ^^^ 1) w8).mono ?_;rintro e w9 ⟨v9,rfl,pJ,kC⟩;rw[←HL.out] at pJ;obtain⟨A9,c9,rfl,ON,abp⟩:=aH pJ;rw[show L.length=8 from by rw[HL.out,b7]] at pJ ON⊢));have hz7:=kR.size;have KX:=eR.size;have YP:=kC.size;have jm:Below w.heap.size w w9:=hb.trans ((kR.mono hzF).trans ((eR.mono (by omega)).trans (kC.mono (by omega))));have vY:=pJ.sl;clear tK pJ kR eR kC hz7 KX YP;go_loopw [8,83] (fun v i wr=>∃q:Nat,q≤8∧i=.int .i64 q∧Ow wr w9.heap.size 5 v (B8 ((L.take q).map dJ))∧Below w9.heap.size w9 wr) (fun _ i _=>8-(intOf i).toNat)
    case atStart=>exact⟨0,agu _,rfl,Ow.nil_ _ _ _ _,af5 _ _⟩
    case round=>
     obtain⟨q,hq,rfl,zq,I1⟩:=hrel;obtain⟨R,hR⟩:∃R,R=(L.take q).map dJ:=⟨_,rfl⟩;have VL:L.length=8:=by rw[HL.out,b7]
     have I2:R.length=q:=by rw[hR];simp;omega
     rw[←hR] at zq;obtain⟨Ar,cr,rfl,Tv,abq⟩:=aH zq
     by_cases aL:q<8
     · obtain⟨y,hy⟩:∃y,y=L[q]:=⟨_,rfl⟩
       have Pj:y.toNat<32:=oB _ _ y (by rw[←HL.out,hy];exact agl _);obtain⟨b9,o9,rfl,kC,rP⟩:=vY.at_ (k:=q) (by omega);have aD:wr.cell? ⟨b9,o9+q,none⟩=some (.int .u8 (y.toNat:Int)):=by rw[I1.cell (p:=⟨b9,o9+q,none⟩) kC,rP q (by omega),hy]
       have lV:∀h,(⟨bP.toArray⟩:ByteArray)[y.toNat]'h=dJ y:=fun h=>mV y h
       obtain⟨l,hl⟩:=ab (dJ y);rw[←hl] at lV;simp only[bP] at lV
       have jg:R++[l]=(L.take (q+1)).map dJ:=by
        rw[hR,hl,hy,agh (by omega),List.map_append];rfl
       have ny:=aa jg;have VM:=aa I2;rw[I2] at zq Tv⊢;clear jg hl hy hR rP I2 VL;go_wp2_with (at_builtin;go_loud (refine aq (m:=1) (c:=1) (base:=w9.heap.size) (xs:=B8 R) (v:=.slice Ar q cr) (A:=some ⟨wr.heap.size,0,none⟩) (B:=wr.heap.size+1) (news:=[.int .u8 (l.toNat:Int)]) jf rfl (.tmp 87) (.tmp 90) rfl rfl (zq.alloc _) rfl (Sl.one wr _ _) rfl (by simp;rfl) (by rw[B8_length,VM.out];simp[maxLen];omega) (by rw[B8_length,VM.out];omega) (by have:=I1.size;simp;omega) ?_);intro v3 w3 cZ fl j0);rw[dD R _ l rfl,ny.out] at cZ;exact⟨⟨q+1,by omega,rfl,cZ,bE I1 (af2 _) zq fl⟩,by simp[intOf];omega⟩
     have VN:q=8:=by omega
     have VO:R=aE S:=by
      rw[hR,BY.out,←rl.out,←HL.out,af7 (by omega)]
     have mJ:=du (P:=Tryz.prog) wr 37 9 5 (by kernel_rfl) (by kernel_rfl) (by kernel_rfl) wr.heap.size Ar cr R zq.sl;have HR8:=aa VO;have wW:=jm.trans (I1.mono jm.size);clear hR VO I2 vY VL;go_wp2_with fail;go_ret2;rw[←HR8.out];exact⟨.inl ⟨Ph.out,rfl⟩,wW⟩
  · rw[show ([g0]:List UInt8).length=1 from rfl] at Dw hcg⊢
    obtain⟨gr,rfl,fL,IZ,z0,_⟩:=Dw.at_ (j:=0) (by simp);have q0:wS.cell? ⟨gr,0,none⟩=some (.int .u8 (g0.toNat:Int)):=z0;have BY:Hid (aE S=(bG (gL ((V++[g0])++List.replicate 8 0) ^^^ 1) 8).map dJ):=aa (by rw[aE,kP.out];rfl);obtain⟨F,KW⟩:∃F,F=V++[g0]:=⟨_,rfl⟩;have hF:F.length=n+1:=by rw[KW,agc,←Hn.out];rfl
    rw[←KW] at BY;have HFV:=aa KW;have AJ:=aa hF;clear z0 KW Dw hF fL IZ;go_wp2_with (at_builtin;go_loud (refine aq (m:=1) (c:=1) (base:=w.heap.size) (xs:=B8 V) (v:=.slice Av n cv) (A:=some ⟨wS.heap.size,0,none⟩) (B:=wS.heap.size+1) (news:=[.int .u8 (g0.toNat:Int)]) jf rfl (.tmp 58) (.tmp 62) rfl rfl (yq.alloc _) rfl (Sl.one wS _ _) rfl (by simp;rfl) (by rw[B8_length,←Hn.out];simp[maxLen];omega) (by rw[B8_length,←Hn.out];omega) (by have:=hb.size;simp;omega) ?_;intro v6 w6 pI va Ez;have fv:=bE hb (af2 _) yq va;rw[dD V _ g0 rfl,←HFV.out] at pI;obtain⟨A6,c6,rfl,hc6,adz⟩:=aH pI;rw[AJ.out] at pI hc6⊢));have hF:=AJ.out;clear yq va Ez q0;have HF:=aa hF;clear hF;have hzF:=fv.size;obtain⟨pz,iO⟩:=ab (gL (F++List.replicate 8 0));have tK:bits .xor .u64 (pz.toNat:Int) 1=((pz ^^^ 1).toNat:Int):=Dp pz 1;obtain⟨L,hL⟩:=ab (bG (pz ^^^ 1) 8);have rl:=aa iO;have HL:=aa hL;clear iO hL;go_wp2_with (first|(go_at_call 34;refine(tf _).mono ?_;rintro e w7 ⟨rfl,kR⟩)|(go_at_call 35;have lr:=AT A6 c6 F w7 ((pI.sl.below kR).mono kR.size) (by rw[HF.out];omega);rw[HF.out,←rl.out] at lr;refine lr.mono ?_;clear lr;rintro e w8 ⟨rfl,eR⟩)|(go_at_call 33;(try rw[tK]);refine(oq (pz ^^^ 1) w8).mono ?_;rintro e w9 ⟨v9,rfl,pJ,kC⟩;rw[←HL.out] at pJ;obtain⟨A9,c9,rfl,ON,abp⟩:=aH pJ;rw[show L.length=8 from by rw[HL.out,b7]] at pJ ON⊢));have hz7:=kR.size;have KX:=eR.size;have YP:=kC.size;have jm:Below w.heap.size w w9:=fv.trans ((kR.mono hzF).trans ((eR.mono (by omega)).trans (kC.mono (by omega))));have vY:=pJ.sl;clear tK pJ kR eR kC hz7 KX YP;go_loopw [8,83] (fun v i wr=>∃q:Nat,q≤8∧i=.int .i64 q∧Ow wr w9.heap.size 5 v (B8 ((L.take q).map dJ))∧Below w9.heap.size w9 wr) (fun _ i _=>8-(intOf i).toNat)
    case atStart=>exact⟨0,agu _,rfl,Ow.nil_ _ _ _ _,af5 _ _⟩
    case round=>
     obtain⟨q,hq,rfl,zq,I1⟩:=hrel;obtain⟨R,hR⟩:∃R,R=(L.take q).map dJ:=⟨_,rfl⟩;have VL:L.length=8:=by rw[HL.out,b7]
     have I2:R.length=q:=by rw[hR];simp;omega
     rw[←hR] at zq;obtain⟨Ar,cr,rfl,Tv,abq⟩:=aH zq
     by_cases aL:q<8
     · obtain⟨y,hy⟩:∃y,y=L[q]:=⟨_,rfl⟩
       have Pj:y.toNat<32:=oB _ _ y (by rw[←HL.out,hy];exact agl _);obtain⟨b9,o9,rfl,kC,rP⟩:=vY.at_ (k:=q) (by omega);have aD:wr.cell? ⟨b9,o9+q,none⟩=some (.int .u8 (y.toNat:Int)):=by rw[I1.cell (p:=⟨b9,o9+q,none⟩) kC,rP q (by omega),hy]
       have lV:∀h,(⟨bP.toArray⟩:ByteArray)[y.toNat]'h=dJ y:=fun h=>mV y h
       obtain⟨l,hl⟩:=ab (dJ y);rw[←hl] at lV;simp only[bP] at lV
       have jg:R++[l]=(L.take (q+1)).map dJ:=by
        rw[hR,hl,hy,agh (by omega),List.map_append];rfl
       have ny:=aa jg;have VM:=aa I2;rw[I2] at zq Tv⊢;clear jg hl hy hR rP I2 VL;go_wp2_with (at_builtin;go_loud (refine aq (m:=1) (c:=1) (base:=w9.heap.size) (xs:=B8 R) (v:=.slice Ar q cr) (A:=some ⟨wr.heap.size,0,none⟩) (B:=wr.heap.size+1) (news:=[.int .u8 (l.toNat:Int)]) jf rfl (.tmp 87) (.tmp 90) rfl rfl (zq.alloc _) rfl (Sl.one wr _ _) rfl (by simp;rfl) (by rw[B8_length,VM.out];simp[maxLen];omega) (by rw[B8_length,VM.out];omega) (by have:=I1.size;simp;omega) ?_);intro v3 w3 cZ fl j0);rw[dD R _ l rfl,ny.out] at cZ;exact⟨⟨q+1,by omega,rfl,cZ,bE I1 (af2 _) zq fl⟩,by simp[intOf];omega⟩
     have VN:q=8:=by omega
     have VO:R=aE S:=by
      rw[hR,BY.out,←rl.out,←HL.out,af7 (by omega)]
     have mJ:=du (P:=Tryz.prog) wr 37 9 5 (by kernel_rfl) (by kernel_rfl) (by kernel_rfl) wr.heap.size Ar cr R zq.sl;have HR8:=aa VO;have wW:=jm.trans (I1.mono jm.size);clear hR VO I2 vY VL;go_wp2_with fail;go_ret2;rw[←HR8.out];exact⟨.inl ⟨Ph.out,rfl⟩,wW⟩
  rw[show ([g0,g1]:List UInt8).length=2 from rfl] at Dw hcg⊢;obtain⟨gr,rfl,fL,IZ,z0,_⟩:=Dw.at_ (j:=0) (by simp);obtain⟨_,e1,_,_,z1,_⟩:=Dw.at_ (j:=1) (by simp);injection e1 with e1;injection e1 with e1;subst e1;have q0:wS.cell? ⟨gr,0,none⟩=some (.int .u8 (g0.toNat:Int)):=z0;have q1:wS.cell? ⟨gr,1,none⟩=some (.int .u8 (g1.toNat:Int)):=z1;have bW:Tryz.prog.follows .mixedOrders=true:=by kernel_rfl
  obtain⟨u,hu⟩:∃u,u=3*g0.toNat+g1.toNat:=⟨_,rfl⟩;have BY:Hid (aE S=(bG (gL ((V++[UInt8.ofNat u])++List.replicate 8 0) ^^^ 1) 8).map dJ):=aa (by rw[aE,kP.out,hu];rfl);obtain⟨F,KW⟩:∃F,F=V++[UInt8.ofNat u]:=⟨_,rfl⟩;have hF:F.length=n+1:=by rw[KW,agc,←Hn.out];rfl
  rw[←KW] at BY;have HFV:=aa KW;have AJ:=aa hF;have Hu:=aa hu;clear z0 z1 KW Dw hF fL IZ hu;go_wp2_with fail;refine an [(0,0),(1,0),(2,0),(3,1),(4,0),(5,0),(6,0),(7,1),(8,0),(9,2),(10,2),(11,2)] 10 bW (by kernel_rfl) (by intro c a d v w h;cases d<;>exact h) ?_
  repeat ((first|refine ag rfl fun K hK=>?_|refine af rfl fun K hK=>?_);go_simp;(first|refine hK _ ?_|(simp only[IntWalk.iteOmega];go_simp;refine hK _ ?_)|(go_bits;go_simp;refine hK _ ?_));clear hK K;try go_bits)
  refine ae rfl rfl (fun K hK=>?_);go_wp2_with fail;refine⟨.inr (bM _ _),?_⟩;have eu:(3*(g0.toNat:Int)+(g1.toNat:Int))%256=((UInt8.ofNat u).toNat:Int):=by rw[agp,Hu.out];omega
  rw[eu];obtain⟨w5,nk⟩:∃w5,w5=(wS.alloc (.cells #[.int .u8 ((UInt8.ofNat u).toNat:Int)] 5)).drew:=⟨_,rfl⟩
  rw[←nk];have eh:Below w.heap.size w w5:=by rw[nk];exact(hb.alloc hzS _).drew
  have KU:Ow w5 w.heap.size 5 (.slice Av n cv) (B8 V):=by rw[nk];exact(yq.alloc _).drew
  have I0:Sl w5 (wS.heap.size+1) (some ⟨wS.heap.size,0,none⟩) [.int .u8 ((UInt8.ofNat u).toNat:Int)]:=by rw[nk];exact(Sl.one wS _ _).drew
  have Fa:=eh.size;clear nk;refine ae rfl rfl (fun K hK=>?_);refine bn (m:=1) (c:=1) (base:=w.heap.size) (xs:=B8 V) (v:=.slice Av n cv) (A:=some ⟨wS.heap.size,0,none⟩) (B:=wS.heap.size+1) (news:=[.int .u8 ((UInt8.ofNat u).toNat:Int)]) jf (.tmp 66) (.tmp 75) rfl rfl KU rfl I0 rfl (by simp;rfl) (by rw[B8_length,←Hn.out];simp[maxLen];omega) (by rw[B8_length,←Hn.out];omega) Fa ?_;intro v6 w6 pI va Ez;have fv:Below w.heap.size w w6:=eh.grown va Fa (fun r hr=>(KU.row r hr).1);refine(show K (Act.put _ (some 76) v6) w6 from ?_)
  conv in (Act.put _ (some 76) v6)=>simp[Act.put]
  refine hK _ _ ⟨.inl (by decide),?_⟩;clear hK K;rw[dD V _ (UInt8.ofNat u) rfl,←HFV.out] at pI;obtain⟨A6,c6,rfl,hc6,adz⟩:=aH pI;rw[AJ.out] at pI hc6⊢;refine ae rfl rfl (fun K hK=>?_);refine Go.BigFrame.wp_assign (.tmp 76) rfl ?_;refine(show K (Act.put _ (some 4) (.slice A6 (n+1) c6)) w6 from ?_)
  conv in (Act.put _ (some 4) _)=>simp[Act.put]
  refine hK _ _ ⟨.inl (by decide),?_⟩;clear hK K;refine ak ?_;have hF:=AJ.out;clear yq va Ez q0 q1 KU eh I0;have HF:=aa hF;clear hF;have hzF:=fv.size;obtain⟨pz,iO⟩:=ab (gL (F++List.replicate 8 0));have tK:bits .xor .u64 (pz.toNat:Int) 1=((pz ^^^ 1).toNat:Int):=Dp pz 1;obtain⟨L,hL⟩:=ab (bG (pz ^^^ 1) 8);have rl:=aa iO;have HL:=aa hL;clear iO hL;go_wp2_with (first|(go_at_call 34;refine(tf _).mono ?_;rintro e w7 ⟨rfl,kR⟩)|(go_at_call 35;have lr:=AT A6 c6 F w7 ((pI.sl.below kR).mono kR.size) (by rw[HF.out];omega);rw[HF.out,←rl.out] at lr;refine lr.mono ?_;clear lr;rintro e w8 ⟨rfl,eR⟩)|(go_at_call 33;(try rw[tK]);refine(oq (pz ^^^ 1) w8).mono ?_;rintro e w9 ⟨v9,rfl,pJ,kC⟩;rw[←HL.out] at pJ;obtain⟨A9,c9,rfl,ON,abp⟩:=aH pJ;rw[show L.length=8 from by rw[HL.out,b7]] at pJ ON⊢));have hz7:=kR.size;have KX:=eR.size;have YP:=kC.size;have jm:Below w.heap.size w w9:=fv.trans ((kR.mono hzF).trans ((eR.mono (by omega)).trans (kC.mono (by omega))));have vY:=pJ.sl;clear tK pJ kR eR kC hz7 KX YP;go_loopw [8,83] (fun v i wr=>∃q:Nat,q≤8∧i=.int .i64 q∧Ow wr w9.heap.size 5 v (B8 ((L.take q).map dJ))∧Below w9.heap.size w9 wr) (fun _ i _=>8-(intOf i).toNat)
  case atStart=>exact⟨0,agu _,rfl,Ow.nil_ _ _ _ _,af5 _ _⟩
  case round=>
   obtain⟨q,hq,rfl,zq,I1⟩:=hrel;obtain⟨R,hR⟩:∃R,R=(L.take q).map dJ:=⟨_,rfl⟩;have VL:L.length=8:=by rw[HL.out,b7]
   have I2:R.length=q:=by rw[hR];simp;omega
   rw[←hR] at zq;obtain⟨Ar,cr,rfl,Tv,abq⟩:=aH zq
   by_cases aL:q<8
   · obtain⟨y,hy⟩:∃y,y=L[q]:=⟨_,rfl⟩
     have Pj:y.toNat<32:=oB _ _ y (by rw[←HL.out,hy];exact agl _);obtain⟨b9,o9,rfl,kC,rP⟩:=vY.at_ (k:=q) (by omega);have aD:wr.cell? ⟨b9,o9+q,none⟩=some (.int .u8 (y.toNat:Int)):=by rw[I1.cell (p:=⟨b9,o9+q,none⟩) kC,rP q (by omega),hy]
     have lV:∀h,(⟨bP.toArray⟩:ByteArray)[y.toNat]'h=dJ y:=fun h=>mV y h
     obtain⟨l,hl⟩:=ab (dJ y);rw[←hl] at lV;simp only[bP] at lV
     have jg:R++[l]=(L.take (q+1)).map dJ:=by
      rw[hR,hl,hy,agh (by omega),List.map_append];rfl
     have ny:=aa jg;have VM:=aa I2;rw[I2] at zq Tv⊢;clear jg hl hy hR rP I2 VL;go_wp2_with (at_builtin;go_loud (refine aq (m:=1) (c:=1) (base:=w9.heap.size) (xs:=B8 R) (v:=.slice Ar q cr) (A:=some ⟨wr.heap.size,0,none⟩) (B:=wr.heap.size+1) (news:=[.int .u8 (l.toNat:Int)]) jf rfl (.tmp 87) (.tmp 90) rfl rfl (zq.alloc _) rfl (Sl.one wr _ _) rfl (by simp;rfl) (by rw[B8_length,VM.out];simp[maxLen];omega) (by rw[B8_length,VM.out];omega) (by have:=I1.size;simp;omega) ?_);intro v3 w3 cZ fl j0);rw[dD R _ l rfl,ny.out] at cZ;exact⟨⟨q+1,by omega,rfl,cZ,bE I1 (af2 _) zq fl⟩,by simp[intOf];omega⟩
   have VN:q=8:=by omega
   have VO:R=aE S:=by
    rw[hR,BY.out,←rl.out,←HL.out,af7 (by omega)]
   have mJ:=du (P:=Tryz.prog) wr 37 9 5 (by kernel_rfl) (by kernel_rfl) (by kernel_rfl) wr.heap.size Ar cr R zq.sl;have HR8:=aa VO;have wW:=jm.trans (I1.mono jm.size);clear hR VO I2 vY VL;go_wp2_with fail;go_ret2;rw[←HR8.out];exact⟨.inl ⟨Ph.out,rfl⟩,wW⟩
end Go.Proofs.YtcjioogololnoaaGreatDoor
namespace Go.Proofs.YtcjioogololnoaaGreatDoor
open Go Go.RowKit Go.Shelf
def rV:Prop:=∀(w0 w:World),Env w0→Below w0.heap.size w0 w→∀g:Nat,w0.heap.size≤g→w.heap[g]?=some (.cells (DC aV 0 false aV) 48 (0,0))→∀s:ByteArray,s.size≤4096→
 Calls Tryz.prog 18 #[.pointer (some ⟨g,0,none⟩),.string s] w (RD w0 g s.data.toList)
def PD (w:World) (S:List UInt8) (e:Ending) (W':World):Prop:=
 ((∃n:Nat,n≠0∧n<100∧bU S=(n,none)∧e=.returned (.tuple #[.pointer none,.int .i64 (n:Int)]))∨
  (∃d g,bU S=(0,some d)∧e=.returned (.tuple #[.pointer (some ⟨g,0,none⟩),.int .i64 0])∧DA W' w.heap.size g d))∧Below w.heap.size w W'
theorem Tw {l:List UInt8}:(∀c∈l,c∈kU)→l.all (fun x=>decide (x∈kU))=true:=fun h=>List.all_eq_true.2 fun c hc=>af9 (h c hc)
theorem Dx {l:List UInt8}:(∃c∈l,c∉kU)→l.all (fun x=>decide (x∈kU))=false:=fun ⟨c,hc,hn⟩=>by
 rw[←Bool.not_eq_true];intro h;exact hn (of_decide_eq_true (List.all_eq_true.1 h c hc))
theorem DA.below {W W':World} {base g:Nat} {d:DDesc} (h:DA W base g d) (hb:Below W.heap.size W W'):DA W' base g d:=by
 obtain⟨v,kv,h1,h2,h3⟩:=h;exact⟨v,kv,(hb.block g (af3.1 h1).1).trans h1,h2.below hb (af2 _),h3.below hb⟩
theorem DA.setCell {W:World} {base g p:Nat} {d:DDesc} (h:DA W base g d) (hp:p<base) (hg:base≤g) (o:Nat) (u:Value):DA (W.setCell ⟨p,o,none⟩ u) base g d:=by
 obtain⟨v,kv,h1,h2,h3⟩:=h;exact⟨v,kv,(ago _ _ _ _ (show g≠p by omega)).trans h1,h2.setCell (p:=⟨p,o,none⟩) (fun r hr=>by have:=(h2.row r hr).1;show p≠r;omega) _,h3.setCell hp (by omega) o u⟩
theorem DA.mono {W:World} {base nJ g:Nat} {d:DDesc} (h:DA W base g d) (hb:nJ≤base):DA W nJ g d:=by
 obtain⟨v,kv,h1,h2,h3⟩:=h;exact⟨v,kv,h1,h2.mono hb,h3.mono hb⟩
theorem wX (MI:rV) (s:ByteArray) (hs:s.size≤8192) (w:World) (hE:Env w):
 Calls Tryz.prog 7 #[.string s] w (PD w s.data.toList):=by
 obtain⟨S,hS⟩:=ab s.data.toList;have sU:S.length=s.size:=by rw[hS];simp
 rw[←hS];obtain⟨W2,il⟩:∃W2,W2=(w.alloc (.cells #[.pointer none] 24)).alloc (.cells #[.int .i64 0] 25):=⟨_,rfl⟩
 obtain⟨B,hB⟩:=ab w.heap.size;have bt:Below B w W2:=by rw[il,hB];exact((af5 _ w).alloc (af2 _) _).alloc (by rw[agn];omega) _
 have mI:W2.heap.size=B+2:=by rw[il,hB];simp
 have r1:W2.heap[B]?=some (.cells #[.pointer none] 24 (0,0)):=by
  rw[il,hB,Lib.alloc_old _ _ _ (by rw[agn];omega)];exact af4 w _
 have r2:W2.heap[B+1]?=some (.cells #[.int .i64 0] 25 (0,0)):=by
  rw[il,hB];have:=af4 (w.alloc (.cells #[.pointer none] 24)) (.cells #[.int .i64 0] 25)
  rw[agn] at this;exact this
 have FH:=aa (IJ s 35 hs);have HS:=aa hS;have tg:=aa sU;have HE:=aa hE;have HW2:=aa il;have HB:=aa hB;have mH:=aa bt;have Hz2:=aa mI;have R1:=aa r1;have R2:=aa r2;have Hrd:=aa MI;clear hS sU hE il hB bt mI r1 r2 MI
 by_cases h4:4000<s.size
 · have Hp:Hid (bU S=(2,none)):=aa (by rw[bU,if_pos (by rw[tg.out];exact h4)])
   go_enter_defers Tryz.func7,Tryz.ntmps7
   go_wp2_with fail;refine⟨.tuple #[.pointer none,.int .i64 2],by simp[results,Tryz.results7,go_sem],.inl ⟨2,by decide,by decide,Hp.out,rfl⟩,?_⟩
   exact((af5 _ w).alloc (af2 _) _).alloc (by rw[agn];omega) _
 obtain⟨C,hC⟩:∃C,C=Lib.cut S [35]:=⟨_,rfl⟩;have db:=AZ S [35];rw[←hC] at db;obtain⟨C1,C2,bm⟩:=C;have hcut:=FH.out;rw[←HS.out,←hC] at hcut;simp only[] at hcut db;have adA:S.length≤4000:=by have:=tg.out;omega
 have hPd:bU S=if C1.all (fun x=>decide (x∈kU))=true then (if bm=true∧C2≠aE C1 then (5,none) else match aQ C1 with|none=>(3,none)|some d=>(0,some d)) else (3,none):=by
  rw[bU,if_neg (by omega),←hC];rfl
 have FN:=aa hPd;obtain⟨s1,jY⟩:∃s1:ByteArray,s1=⟨C1.toArray⟩:=⟨_,rfl⟩;obtain⟨s2,px⟩:∃s2:ByteArray,s2=⟨C2.toArray⟩:=⟨_,rfl⟩;have gq:s1.size≤4000:=by rw[jY];show C1.toArray.size≤4000;simp;omega
 have h1d:s1.data.toList=C1:=by rw[jY]
 rw[←jY,←px] at hcut;have eX:=lI s1;rw[h1d] at eX;have abr:=aa hcut;have j5:=aa (fun ww=>eX ww (by omega));have Oy:=aa px;have RI:=aa h1d;have vH:=aa gq;clear hC db hcut adA hPd jY px gq h1d eX FH
 go_enter_defers Tryz.func7,Tryz.ntmps7
 go_wp2_with fail;refine(show W2=_ from HW2.out)▸?_;rw[←HB.out];refine(abr.out W2 (HE.out.below (HB.out▸mH.out))).mono ?_;rintro e w3 ⟨rfl,bd⟩;have py:Below W2.heap.size W2 w3:=bd;have qC:=aa py;clear bd py abr;go_wp2_with fail;refine(j5.out w3).mono ?_;rintro e w4 ⟨h4c,dn⟩;have VP:=aa (qC.out.trans (dn.mono qC.out.size));have r1:=(VP.out.block B (by rw[Hz2.out];omega)).trans R1.out;have r2:=(VP.out.block (B+1) (by rw[Hz2.out];omega)).trans R2.out;have c1:w4.cell? ⟨B,0,none⟩=some (.pointer none):=by rw[agb _ _ _ _ _ _ r1];rfl
 have c2:w4.cell? ⟨B+1,0,none⟩=some (.int .i64 0):=by rw[agb _ _ _ _ _ _ r2];rfl
 have f1:w4.frozen? ⟨B,0,none⟩=false:=agF _ _ _ _ _ r1;have f2:w4.frozen? ⟨B+1,0,none⟩=false:=agF _ _ _ _ _ r2;have Tx:Hid (Below B w w4):=aa (mH.out.trans (VP.out.mono (by rw[Hz2.out];omega)));have R1':=aa r1;have R2':=aa r2;clear dn qC j5 r1 r2;have yi:B<w4.heap.size:=(af3.1 R1'.out).1;have KL:B+1<w4.heap.size:=(af3.1 R2'.out).1;have hRs:=Tryz.results7;rcases h4c with ⟨dV,rfl⟩|⟨cK,rfl⟩
 · rw[Tw dV,if_pos rfl] at FN
   obtain⟨sm,VQ⟩:∃sm:ByteArray,sm=⟨(aE C1).toArray⟩:=⟨_,rfl⟩;obtain⟨bx,JN⟩:∃bx,bx=(s2.toList==sm.toList):=⟨_,rfl⟩
   have Ty:bx=true↔C2=aE C1:=by
    rw[JN,agt,agt,Oy.out,VQ];simp
   rw[←VQ];have hx:=JN.symm;clear JN
   have go:Hid (¬(bm=true∧bx=false))∨Hid (bm=true∧bx=false):=by
    by_cases h:bm=true∧bx=false
    · exact .inr (aa h)
    exact .inl (aa h)
   rcases go with Ao|Ao
   · have Hp:Hid (bU S=match aQ C1 with|none=>(3,none)|some d=>(0,some d)):=aa (by
      rw[FN.out,if_neg (fun h=>Ao.out ⟨h.1,by
       cases bx with
       |false=>rfl
       |true=>exact absurd (Ty.1 rfl) h.2⟩)])
     clear FN Ty dV VQ
     have p7:(bm=true∧bx=true)∨bm=false:=by
      have:=Ao.out
      cases bm<;>cases bx<;>simp_all
     rcases p7 with ⟨I3,JN⟩|I3
     · subst I3 JN
       clear Ao;go_wp2_with fail;obtain⟨g,hg⟩:=ab w4.heap.size;obtain⟨w6,uc⟩:∃w6,w6=(w4.setCell ⟨B+1,0,none⟩ (.int .i64 0)).setCell ⟨B,0,none⟩ (.pointer (some ⟨g,0,none⟩)):=⟨_,rfl⟩;obtain⟨w5,nk⟩:=ab (w6.alloc (.cells #[.slice none 0 0,.int .i64 0,.bool false,.slice none 0 0] 48))
       rw[←hg,←uc,←nk];have va:w6.heap.size=g:=by rw[uc,hg];simp
       have fv:Below B w w6:=by rw[uc];exact(Tx.out.setCell (p:=⟨B+1,0,none⟩) (by simp) _).setCell (p:=⟨B,0,none⟩) (af2 _) _
       have Pk:Below w6.heap.size w6 w5:=by rw[nk];exact(af5 _ _).alloc (af2 _) _
       have Dy:w5.heap[g]?=some (.cells (DC aV 0 false aV) 48 (0,0)):=by rw[nk,←va];exact af4 w6 _
       have q1:w6.heap[B]?=some (.cells #[.pointer (some ⟨g,0,none⟩)] 24 (0,0)):=by
        rw[uc];exact heap_setCell_same _ B 0 _ _ _ ((ago _ _ _ _ (show B≠B+1 by omega)).trans R1'.out)
       have q2:w6.heap[B+1]?=some (.cells #[.int .i64 0] 25 (0,0)):=by
        rw[uc];exact(ago _ _ _ _ (show B+1≠B by omega)).trans (heap_setCell_same _ (B+1) 0 _ _ _ R2'.out)
       have qS:=Hrd.out w6 w5 (HE.out.below (HB.out▸fv)) Pk g (by omega) Dy s1 (by have:=vH.out;omega);rw[RI.out] at qS;have Tz:=aa qS;have MJ:=aa va;have Dz:=aa fv;have Q1:=aa q1;have Q2:=aa q2;have hBg:B+1<g:=by omega
       clear hg uc nk va fv Pk Dy q1 q2 qS c1 c2 f1 f2 yi KL;refine Tz.out.mono ?_;rintro e w7 ⟨h7,kR⟩;have Pl:Below B w w7:=Dz.out.trans (kR.mono (by have:=MJ.out;omega));have q1:=(kR.block B (by rw[MJ.out];omega)).trans Q1.out;have q2:=(kR.block (B+1) (by rw[MJ.out];omega)).trans Q2.out;have c1:w7.cell? ⟨B,0,none⟩=some (.pointer (some ⟨g,0,none⟩)):=by rw[agb _ _ _ _ _ _ q1];rfl
       have c2:w7.cell? ⟨B+1,0,none⟩=some (.int .i64 0):=by rw[agb _ _ _ _ _ _ q2];rfl
       have f1:w7.frozen? ⟨B,0,none⟩=false:=agF _ _ _ _ _ q1;have f2:w7.frozen? ⟨B+1,0,none⟩=false:=agF _ _ _ _ _ q2;have yr:=aa Pl;have Q17:=aa q1;have Q27:=aa q2;clear kR Pl q1 q2 Tz;rcases h7 with ⟨rfl,nh⟩|⟨d,hd,rfl,hDA⟩
       · have je:Hid (bU S=(3,none)):=aa (by rw[Hp.out,nh])
         clear nh;go_wp2_with fail;refine leaves_cons (f:=17) (args:=#[.pointer (some ⟨B,0,none⟩),.pointer (some ⟨B+1,0,none⟩)]) (by simp) (by simp[go_sem]) ?_
         refine(ua B (B+1) (by omega) _ _ w7 c1 f1 c2 f2).mono ?_;rintro e u' w8 ⟨rfl,rfl,rfl⟩;refine⟨.tuple #[.pointer none,.int .i64 3],?_,.inl ⟨3,by decide,by decide,je.out,rfl⟩,?_⟩
         · obtain⟨wz,Pm⟩:∃wz,wz=(w7.setCell ⟨B,0,none⟩ (.pointer none)).setCell ⟨B+1,0,none⟩ (.int .i64 3):=⟨_,rfl⟩
           have z1:wz.heap[B]?=some (.cells #[.pointer none] 24 (0,0)):=by
            rw[Pm];exact(ago _ _ _ _ (show B≠B+1 by omega)).trans (heap_setCell_same _ B 0 _ _ _ Q17.out)
           have z2:wz.heap[B+1]?=some (.cells #[.int .i64 3] 25 (0,0)):=by
            rw[Pm];exact heap_setCell_same _ (B+1) 0 _ _ _ ((ago _ _ _ _ (show B+1≠B by omega)).trans Q27.out)
           have e1:∀o,(wz.alloc o).cell? ⟨B,0,none⟩=some (.pointer none):=fun o=>by rw[World.cell?_alloc_past o B 0 (af3.1 z1).1,agb _ _ _ _ _ _ z1];rfl
           have e2:∀o,(wz.alloc o).cell? ⟨B+1,0,none⟩=some (.int .i64 3):=fun o=>by rw[World.cell?_alloc_past o (B+1) 0 (af3.1 z2).1,agb _ _ _ _ _ _ z2];rfl
           rw[←Pm];clear Pm c1 c2;simp[results,hRs,go_sem,e1,e2]
         rw[←HB.out];have hh:=(yr.out.setCell (p:=⟨B,0,none⟩) (af2 _) (.pointer none)).setCell (p:=⟨B+1,0,none⟩) (by simp) (.int .i64 3);exact hh.alloc (by have:=HB.out;have:=hh.size;omega) _
       have lJ:Hid (bU S=(0,some d)):=aa (by rw[Hp.out,hd]);have HDA:=aa hDA;clear hd hDA;go_wp2_with fail;refine leaves_cons (f:=17) (args:=#[.pointer (some ⟨B,0,none⟩),.pointer (some ⟨B+1,0,none⟩)]) (by simp) (by simp[go_sem]) ?_
       refine(wV B (B+1) _).mono ?_;rintro e u' w8 ⟨rfl,rfl,rfl⟩;refine⟨.tuple #[.pointer (some ⟨g,0,none⟩),.int .i64 0],?_,.inr ⟨d,g,lJ.out,rfl,?_⟩,?_⟩
       · simp[results,hRs,go_sem,c1,c2]
       · have uF:=HDA.out
         rw[MJ.out] at uF;rw[←HB.out];exact((uF.setCell (p:=B) (by omega) (af2 _) _ _).setCell (p:=B+1) hBg (af2 _) _ _).mono (by omega)
       rw[←HB.out];exact(yr.out.setCell (p:=⟨B,0,none⟩) (af2 _) _).setCell (p:=⟨B+1,0,none⟩) (by simp) _
     subst I3;clear Ao;go_wp2_with fail;obtain⟨g,hg⟩:=ab w4.heap.size;obtain⟨w6,uc⟩:∃w6,w6=(w4.setCell ⟨B+1,0,none⟩ (.int .i64 0)).setCell ⟨B,0,none⟩ (.pointer (some ⟨g,0,none⟩)):=⟨_,rfl⟩;obtain⟨w5,nk⟩:=ab (w6.alloc (.cells #[.slice none 0 0,.int .i64 0,.bool false,.slice none 0 0] 48))
     rw[←hg,←uc,←nk];have va:w6.heap.size=g:=by rw[uc,hg];simp
     have fv:Below B w w6:=by rw[uc];exact(Tx.out.setCell (p:=⟨B+1,0,none⟩) (by simp) _).setCell (p:=⟨B,0,none⟩) (af2 _) _
     have Pk:Below w6.heap.size w6 w5:=by rw[nk];exact(af5 _ _).alloc (af2 _) _
     have Dy:w5.heap[g]?=some (.cells (DC aV 0 false aV) 48 (0,0)):=by rw[nk,←va];exact af4 w6 _
     have q1:w6.heap[B]?=some (.cells #[.pointer (some ⟨g,0,none⟩)] 24 (0,0)):=by
      rw[uc];exact heap_setCell_same _ B 0 _ _ _ ((ago _ _ _ _ (show B≠B+1 by omega)).trans R1'.out)
     have q2:w6.heap[B+1]?=some (.cells #[.int .i64 0] 25 (0,0)):=by
      rw[uc];exact(ago _ _ _ _ (show B+1≠B by omega)).trans (heap_setCell_same _ (B+1) 0 _ _ _ R2'.out)
     have qS:=Hrd.out w6 w5 (HE.out.below (HB.out▸fv)) Pk g (by omega) Dy s1 (by have:=vH.out;omega);rw[RI.out] at qS;have Tz:=aa qS;have MJ:=aa va;have Dz:=aa fv;have Q1:=aa q1;have Q2:=aa q2;have hBg:B+1<g:=by omega
     clear hg uc nk va fv Pk Dy q1 q2 qS c1 c2 f1 f2 yi KL;refine Tz.out.mono ?_;rintro e w7 ⟨h7,kR⟩;have Pl:Below B w w7:=Dz.out.trans (kR.mono (by have:=MJ.out;omega));have q1:=(kR.block B (by rw[MJ.out];omega)).trans Q1.out;have q2:=(kR.block (B+1) (by rw[MJ.out];omega)).trans Q2.out;have c1:w7.cell? ⟨B,0,none⟩=some (.pointer (some ⟨g,0,none⟩)):=by rw[agb _ _ _ _ _ _ q1];rfl
     have c2:w7.cell? ⟨B+1,0,none⟩=some (.int .i64 0):=by rw[agb _ _ _ _ _ _ q2];rfl
     have f1:w7.frozen? ⟨B,0,none⟩=false:=agF _ _ _ _ _ q1;have f2:w7.frozen? ⟨B+1,0,none⟩=false:=agF _ _ _ _ _ q2;have yr:=aa Pl;have Q17:=aa q1;have Q27:=aa q2;clear kR Pl q1 q2 Tz;rcases h7 with ⟨rfl,nh⟩|⟨d,hd,rfl,hDA⟩
     · have je:Hid (bU S=(3,none)):=aa (by rw[Hp.out,nh])
       clear nh;go_wp2_with fail;refine leaves_cons (f:=17) (args:=#[.pointer (some ⟨B,0,none⟩),.pointer (some ⟨B+1,0,none⟩)]) (by simp) (by simp[go_sem]) ?_
       refine(ua B (B+1) (by omega) _ _ w7 c1 f1 c2 f2).mono ?_;rintro e u' w8 ⟨rfl,rfl,rfl⟩;refine⟨.tuple #[.pointer none,.int .i64 3],?_,.inl ⟨3,by decide,by decide,je.out,rfl⟩,?_⟩
       · obtain⟨wz,Pm⟩:∃wz,wz=(w7.setCell ⟨B,0,none⟩ (.pointer none)).setCell ⟨B+1,0,none⟩ (.int .i64 3):=⟨_,rfl⟩
         have z1:wz.heap[B]?=some (.cells #[.pointer none] 24 (0,0)):=by
          rw[Pm];exact(ago _ _ _ _ (show B≠B+1 by omega)).trans (heap_setCell_same _ B 0 _ _ _ Q17.out)
         have z2:wz.heap[B+1]?=some (.cells #[.int .i64 3] 25 (0,0)):=by
          rw[Pm];exact heap_setCell_same _ (B+1) 0 _ _ _ ((ago _ _ _ _ (show B+1≠B by omega)).trans Q27.out)
         have e1:∀o,(wz.alloc o).cell? ⟨B,0,none⟩=some (.pointer none):=fun o=>by rw[World.cell?_alloc_past o B 0 (af3.1 z1).1,agb _ _ _ _ _ _ z1];rfl
         have e2:∀o,(wz.alloc o).cell? ⟨B+1,0,none⟩=some (.int .i64 3):=fun o=>by rw[World.cell?_alloc_past o (B+1) 0 (af3.1 z2).1,agb _ _ _ _ _ _ z2];rfl
         rw[←Pm];clear Pm c1 c2;simp[results,hRs,go_sem,e1,e2]
       rw[←HB.out];have hh:=(yr.out.setCell (p:=⟨B,0,none⟩) (af2 _) (.pointer none)).setCell (p:=⟨B+1,0,none⟩) (by simp) (.int .i64 3);exact hh.alloc (by have:=HB.out;have:=hh.size;omega) _
     have lJ:Hid (bU S=(0,some d)):=aa (by rw[Hp.out,hd]);have HDA:=aa hDA;clear hd hDA;go_wp2_with fail;refine leaves_cons (f:=17) (args:=#[.pointer (some ⟨B,0,none⟩),.pointer (some ⟨B+1,0,none⟩)]) (by simp) (by simp[go_sem]) ?_
     refine(wV B (B+1) _).mono ?_;rintro e u' w8 ⟨rfl,rfl,rfl⟩;refine⟨.tuple #[.pointer (some ⟨g,0,none⟩),.int .i64 0],?_,.inr ⟨d,g,lJ.out,rfl,?_⟩,?_⟩
     · simp[results,hRs,go_sem,c1,c2]
     · have uF:=HDA.out
       rw[MJ.out] at uF;rw[←HB.out];exact((uF.setCell (p:=B) (by omega) (af2 _) _ _).setCell (p:=B+1) hBg (af2 _) _ _).mono (by omega)
     rw[←HB.out];exact(yr.out.setCell (p:=⟨B,0,none⟩) (af2 _) _).setCell (p:=⟨B+1,0,none⟩) (by simp) _
   have Hp:Hid (bU S=(5,none)):=aa (by rw[FN.out,if_pos ⟨Ao.out.1,fun e=>by rw[Ty.2 e] at Ao;exact absurd Ao.out.2 (by decide)⟩]);obtain⟨I3,JN⟩:=Ao.out;subst I3 JN;clear Ao FN Ty dV VQ;go_wp2_with fail;refine⟨.tuple #[.pointer none,.int .i64 5],by simp[results,hRs,go_sem,c1,c2],.inl ⟨5,by decide,by decide,Hp.out,rfl⟩,?_⟩
   rw[←HB.out];exact((Tx.out.setCell (p:=⟨B+1,0,none⟩) (by simp) _).setCell (p:=⟨B,0,none⟩) (af2 _) _).setCell (p:=⟨B+1,0,none⟩) (by simp) _
 have Hp:Hid (bU S=(3,none)):=aa (by rw[FN.out,Dx cK];rfl);clear cK;go_wp2_with fail;refine⟨.tuple #[.pointer none,.int .i64 3],by simp[results,hRs,go_sem,c1,c2],.inl ⟨3,by decide,by decide,Hp.out,rfl⟩,?_⟩
 rw[←HB.out];exact((Tx.out.setCell (p:=⟨B+1,0,none⟩) (by simp) _).setCell (p:=⟨B,0,none⟩) (af2 _) _).setCell (p:=⟨B+1,0,none⟩) (by simp) _
end Go.Proofs.YtcjioogololnoaaGreatDoor
