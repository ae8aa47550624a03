/- Of any text: the program's descriptors and the reference's are read and written alike (DescParses). No condition. -/
import Derived.Test.YtcjioogololnoaaGreatDoorU1
import Derived.Test.YtcjioogololnoaaGreatDoorU20
import Derived.Test.YtcjioogololnoaaGreatDoorU18
import Derived.Test.YtcjioogololnoaaGreatDoorU21
import Derived.Test.YtcjioogololnoaaGreatDoorU16
import Derived.Test.YtcjioogololnoaaGreatDoorU7
import Derived.Test.YtcjioogololnoaaGreatDoorU10
import Derived.Test.YtcjioogololnoaaGreatDoorU14
import Derived.Test.YtcjioogololnoaaGreatDoorU8
import Derived.Test.YtcjioogololnoaaGreatDoorU9
import Derived.Test.YtcjioogololnoaaGreatDoorU24
set_option maxRecDepth 1000000
set_option maxHeartbeats 16000000
set_option linter.unusedVariables false
set_option linter.unusedSimpArgs false
namespace Go.Proofs.YtcjioogololnoaaGreatDoor
open Go Go.RowKit Go.Shelf
theorem D3 (S W:List UInt8):au S W=if S.length<W.length+2 then none else if S.take W.length=W then (if S.getD W.length 0=40 then (if S.getD (S.length-1) 0=41 then some ((S.drop (W.length+1)).take (S.length-1-(W.length+1))) else none) else none) else none:=by
 have hp:Lib.hasPrefix S (W++[40])=true↔W.length<S.length∧S.take W.length=W∧S.getD W.length 0=40:=by
  rw[Lib.hasPrefix,List.isPrefixOf_iff_prefix,List.prefix_iff_eq_take];rw[agc,agk];constructor
  · intro h
    have hl:=congrArg List.length h;rw[agc,agk,agj] at hl;have aL:W.length<S.length:=by omega
    rw[agh aL] at h;have h1:=List.append_inj_left' h rfl;have h2:=List.append_inj_right' h rfl;refine⟨aL,h1.symm,?_⟩;rw[agB,age aL];simpa using h2.symm
  rintro⟨aL,h1,h2⟩;rw[agh aL,h1];rw[agB,age aL] at h2;simp only[Option.getD_some] at h2;rw[h2]
 unfold au
 by_cases hlen:S.length<W.length+2
 · rw[if_pos hlen]
   split
   · have hd:(S.drop (W.length+1))=[]:=List.drop_eq_nil_of_le (by omega)
     rw[hd,if_neg (by decide)]
   rfl
 rw[if_neg hlen]
 by_cases h1:S.take W.length=W
 · rw[if_pos h1]
   by_cases h2:S.getD W.length 0=40
   · rw[if_pos h2,if_pos (hp.2 ⟨by omega,h1,h2⟩)]
     have hs:Lib.hasSuffix (S.drop (W.length+1)) [41]=true↔S.getD (S.length-1) 0=41:=by
      have dt:S.drop (W.length+1)≠[]:=by
       intro h;have:=congrArg List.length h;rw[agD] at this;simp at this;omega
      rw[Lib.hasSuffix,List.isSuffixOf_iff_suffix]
      have ni:(S.drop (W.length+1)).getLast dt=S.getD (S.length-1) 0:=by
       rw[List.getLast_eq_getElem,List.getElem_drop,agB,age (by omega)];simp only[Option.getD_some,agD];congr 1;omega
      constructor
      · rintro⟨t,ht⟩
        rw[←ni];have:(S.drop (W.length+1)).getLast?=some 41:=by rw[←ht];simp
        rw[List.getLast?_eq_some_getLast dt] at this;exact Option.some.inj this
      intro h;refine⟨(S.drop (W.length+1)).dropLast,?_⟩;rw[←h,←ni];exact List.dropLast_concat_getLast dt
     by_cases h3:S.getD (S.length-1) 0=41
     · rw[if_pos h3,if_pos (hs.2 h3),agD]
       congr 2;omega
     rw[if_neg h3,if_neg (fun h=>h3 (hs.1 h))]
   rw[if_neg h2,if_neg (fun h=>h2 (hp.1 h).2.2)]
 rw[if_neg h1,if_neg (fun h=>h1 (hp.1 h).2.1)]
theorem gj (s:ByteArray) (S:List UInt8) (hS:s=⟨S.toArray⟩) (a b:Nat):(s.extract a b).data.toList=(S.drop a).take (b-a):=by
 subst hS;rw[ByteArray.data_extract,Array.toList_extract,List.extract_eq_take_drop]
theorem na (s:ByteArray) (S:List UInt8) (hS:s=⟨S.toArray⟩) (i:Nat) (h:i<s.size):s[i]=S.getD i 0:=by
 subst hS;have hl:i<S.length:=by rw[←aA];exact h
 rw[agB,age hl];show S.toArray[i]'_=_
 simp
theorem oK (y c:UInt8):((y.toNat:Int)==(c.toNat:Int))=decide (y=c):=by
 rw[Bool.eq_iff_iff,beq_iff_eq,decide_eq_true_iff];constructor
 · intro h
   exact UInt8.toNat_inj.1 (by omega)
 rintro rfl;rfl
theorem Gu (y c:UInt8):((y.toNat:Int)!=(c.toNat:Int))=!decide (y=c):=by rw[bne,oK]
theorem Ln (w:World) (c:UInt8):(convert 37 9 (.slice (some ⟨w.heap.size,0,none⟩) 1 1)).run Tryz.prog (w.alloc (.cells #[.int .u8 (c.toNat:Int)] 5))=.ok (.string ⟨#[c]⟩) (w.alloc (.cells #[.int .u8 (c.toNat:Int)] 5)):=by
 have h:=du (P:=Tryz.prog) (w.alloc (.cells #[.int .u8 (c.toNat:Int)] 5)) 37 9 5 (by kernel_rfl) (by kernel_rfl) (by kernel_rfl) _ _ 1 [c] (Sl.one w _ _)
 simpa using h
def bO (S W:List UInt8):List UInt8×Bool:=match au S W with|some t=>(t,true)|none=>(S,false)
theorem Lo (s eT:ByteArray) (hs:s.size≤4096) (hw:eT.size≤100) (w:World):
 Calls Tryz.prog 44 #[.string s,.string eT] w fun e w'=>e=.returned (.tuple #[.string ⟨(bO s.data.toList eT.data.toList).1.toArray⟩,.bool (bO s.data.toList eT.data.toList).2])∧w=w':=by
 obtain⟨S,hS⟩:=ab s.data.toList;obtain⟨Wd,hW⟩:=ab eT.data.toList;have hsS:s=⟨S.toArray⟩:=by rw[hS]
 have hwW:eT=⟨Wd.toArray⟩:=by rw[hW]
 rw[←hS,←hW];obtain⟨N,hN⟩:=ab s.size;obtain⟨M,hM⟩:=ab eT.size;have Vg:S.length=N:=by rw[hN,hsS,aA]
 have SF:Wd.length=M:=by rw[hM,hwW,aA]
 have pF:=D3 S Wd;rw[Vg,SF] at pF;obtain⟨R,hR⟩:=ab (bO S Wd);rw[←hR];have hNs:=hN.symm;have hMs:=hM.symm;have V6:=aa hsS;have HwW:=aa hwW;have uE:=aa pF;have HR:=aa hR;have hN4:N≤4096:=by omega
 have hM1:M≤100:=by omega
 have je:Hid (au S Wd=none→R=(S,false)):=aa (fun h=>by rw[HR.out,bO,h]);clear hS hW hsS hwW hN hM Vg SF pF hR hs hw
 by_cases h1:N<M+2
 · have lf:Hid (R=(S,false)):=aa (je.out (by rw[uE.out,if_pos h1]))
   have vN:decide ((N:Int)<(M:Int)+2)=true:=af9 (by omega);go_enter Tryz.func44,Tryz.ntmps44;go_wp2_with fail;go_ret2;exact⟨by rw[lf.out,show (⟨((S,false):List UInt8×Bool).1.toArray⟩:ByteArray)=s from V6.out.symm];rfl,rfl⟩
 have vN:decide ((N:Int)<(M:Int)+2)=false:=af8 (by omega);have hMN:M≤N:=by omega
 have afw:M<N:=by omega
 obtain⟨x1,tK⟩:=ab (s.extract 0 M)
 have abR:(x1.toList==eT.toList)=decide (S.take M=Wd):=by
  rw[tK,agt,agt,gj s S V6.out,HwW.out,Bool.eq_iff_iff];simp
 have dW:∀h,s[M]'h=S.getD M 0:=fun h=>na s S V6.out M h
 have ez:∀h,s[N-1]'h=S.getD (N-1) 0:=fun h=>na s S V6.out (N-1) h
 obtain⟨y1,hy1⟩:=ab (S.getD M 0);obtain⟨y2,V8⟩:=ab (S.getD (N-1) 0);rw[←hy1] at dW;rw[←V8] at ez;have EP:=tK.symm;have hNI:(N:Int)-1=((N-1:Nat):Int):=by omega
 have Hy1:=aa hy1;have Hy2:=aa V8;have afx:=y1.toNat_lt;have afy:=y2.toNat_lt;have n1:((y1.toNat:Int)!=40)=!decide (y1=40):=Gu y1 40;have n2:((y2.toNat:Int)!=41)=!decide (y2=41):=Gu y2 41;clear tK hy1 V8
 by_cases h2:S.take M=Wd
 · rw[af9 h2] at abR
   by_cases h3:y1=40
   · rw[af9 h3] at n1
     by_cases h4:y2=41
     · rw[af9 h4] at n2
       have hv:au S Wd=some ((S.drop (M+1)).take (N-1-(M+1))):=by rw[uE.out,if_neg h1,if_pos h2,if_pos (by rw[←Hy1.out];exact h3),if_pos (by rw[←Hy2.out];exact h4)]
       have lf:Hid (R=((S.drop (M+1)).take (N-1-(M+1)),true)):=aa (by rw[HR.out,bO,hv])
       have Hex:Hid ((⟨((S.drop (M+1)).take (N-1-(M+1))).toArray⟩:ByteArray)=s.extract (M+1) (N-1)):=aa (by
        apply ByteArray.ext;apply Array.toList_inj.1;rw[gj s S V6.out])
       clear h2 h3 h4 hv;go_enter Tryz.func44,Tryz.ntmps44;go_wp2_with fail;go_ret2;exact⟨by rw[lf.out,show (⟨(((S.drop (M+1)).take (N-1-(M+1)),true):List UInt8×Bool).1.toArray⟩:ByteArray)=s.extract (M+1) (N-1) from Hex.out];rfl,rfl⟩
     rw[af8 h4] at n2;have lf:Hid (R=(S,false)):=aa (je.out (by rw[uE.out,if_neg h1,if_pos h2,if_pos (by rw[←Hy1.out];exact h3),if_neg (by rw[←Hy2.out];exact h4)]));clear je uE;go_enter Tryz.func44,Tryz.ntmps44;go_wp2_with fail;go_ret2;exact⟨by rw[lf.out,show (⟨((S,false):List UInt8×Bool).1.toArray⟩:ByteArray)=s from V6.out.symm];rfl,rfl⟩
   rw[af8 h3] at n1;have lf:Hid (R=(S,false)):=aa (je.out (by rw[uE.out,if_neg h1,if_pos h2,if_neg (by rw[←Hy1.out];exact h3)]));clear je uE;go_enter Tryz.func44,Tryz.ntmps44;go_wp2_with fail;go_ret2;exact⟨by rw[lf.out,show (⟨((S,false):List UInt8×Bool).1.toArray⟩:ByteArray)=s from V6.out.symm];rfl,rfl⟩
 rw[af8 h2] at abR;have lf:Hid (R=(S,false)):=aa (je.out (by rw[uE.out,if_neg h1,if_neg h2]));clear je uE;go_enter Tryz.func44,Tryz.ntmps44;go_wp2_with fail;go_ret2;exact⟨by rw[lf.out,show (⟨((S,false):List UInt8×Bool).1.toArray⟩:ByteArray)=s from V6.out.symm];rfl,rfl⟩
theorem D4:∀(n:Nat),n<4294967296→∀(w:World),Calls Tryz.prog 87 #[.int .u32 (n:Int)] w fun e W'=>e=.returned (.string ⟨(Lib.decDigits n).toArray⟩)∧Below w.heap.size w W':=by
 intro n
 induction n using Nat.strongRecOn with
 |_ n ih=>
  intro hn w;have bW:Tryz.prog.follows .mixedOrders=true:=by kernel_rfl
  by_cases I5:n<10
  · obtain⟨c,hc⟩:∃c:UInt8,c=UInt8.ofNat (48+n):=⟨_,rfl⟩
    have om:c.toNat=48+n:=by rw[hc,agp];omega
    have hcI:(48:Int)+(n:Int)=(c.toNat:Int):=by omega
    have hD:Lib.decDigits n=[c]:=by rw[Lib.decDigits,dif_pos I5,hc]
    rw[hD];have mJ:=Ln w c;have hb:Below w.heap.size w (w.alloc (.cells #[.int .u8 (c.toNat:Int)] 5)):=(af5 _ w).alloc (af2 _) _
    have Hb:=aa hb;clear hc om hD hb ih;go_enter Tryz.func87,Tryz.ntmps87;go_wp2_with fail;go_ret;exact⟨rfl,Hb.out⟩
  obtain⟨q,hq⟩:∃q,q=n/10:=⟨_,rfl⟩;obtain⟨c,hc⟩:∃c:UInt8,c=UInt8.ofNat (48+n%10):=⟨_,rfl⟩;have om:c.toNat=48+n%10:=by rw[hc,agp];omega
  have Y8:=c.toNat_lt;have hcI:(48:Int)+(n:Int)%10=(c.toNat:Int):=by omega
  have hqI:(n:Int)/10=(q:Int):=by omega
  have hD:Lib.decDigits n=Lib.decDigits q++[c]:=by rw[Lib.decDigits,dif_neg I5,hc,hq]
  have SE:(Lib.decDigits q).length≤10:=by rw[Lib.decDigits_length];exact pe 9 _ (by omega)
  have HI:=aa (ih q (by omega) (by omega));obtain⟨dB,Ud⟩:∃dB:ByteArray,dB=⟨(Lib.decDigits q).toArray⟩:=⟨_,rfl⟩;have ED:dB.size≤10:=by rw[Ud,aA];exact SE
  rw[←Ud] at HI;have HD:Hid ((⟨(Lib.decDigits n).toArray⟩:ByteArray)=dB++⟨#[c]⟩):=aa (by rw[hD,Ud,show (⟨#[c]⟩:ByteArray)=⟨([c]:List UInt8).toArray⟩ from rfl,cU])
  obtain⟨RB,hRB⟩:∃RB:ByteArray,RB=⟨(Lib.decDigits n).toArray⟩:=⟨_,rfl⟩;rw[←hRB] at HD⊢;clear hc om hD SE Ud hq ih hRB;go_enter Tryz.func87,Tryz.ntmps87;go_wp2_with fail;have u6:Below w.heap.size w w.drew:=(af5 _ _).drew;refine dH _ 11 _ bW (by kernel_rfl) (by intro c a d v w h;cases d<;>exact h) (dG (aw _ (by intro c a d v w h;cases d<;>exact h)) (by kernel_rfl) 5 [(0,0),(1,0),(3,0),(4,0),(5,0),(6,0)] _ (by kernel_rfl) (dE (aw _ (by intro c a d v w h;cases d<;>exact h)) 2 7 4 _ (by kernel_rfl) (bN (aw _ (by intro c a d v w h;cases d<;>exact h)) (by kernel_rfl) [(7,2),(8,1),(9,0),(10,0)] _ (by kernel_rfl)) (bN (aw _ (by intro c a d v w h;cases d<;>exact h)) (by kernel_rfl) [(8,1),(2,2),(9,0),(10,0)] _ (by kernel_rfl)))) ?_
  repeat ((first|refine ag rfl fun K hK=>?_|refine af rfl fun K hK=>?_);go_simp;(first|refine hK _ ?_|(simp only[IntWalk.iteOmega];go_simp;refine hK _ ?_)|(go_bits;go_simp;refine hK _ ?_));clear hK K;try go_bits)
  refine dI rfl rfl rfl rfl (fun K hK=>?_) (fun K hK=>?_)
  · go_wp2_with fail
    refine(HI.out _).mono ?_;rintro e w1 ⟨rfl,aZ⟩;have dy:Below w.heap.size w w1:=u6.trans (aZ.mono u6.size);go_wp2_with fail;refine⟨(aj aZ),?_⟩;refine ae rfl rfl (fun K hK=>?_);go_wp2_with fail;refine⟨.inr (aW _ _),?_⟩;refine xq rfl rfl 37 9 5 (.tmp 17) rfl Tryz.underlying37 Tryz.underlying5 Tryz.underlying9 _ 1 1 [c] rfl rfl ((Sl.one w1 (.int .u8 (c.toNat:Int)) 5).mono (by show w1.heap.size+1≤(w1.alloc _).heap.size;rw[agn];exact af2 _)) ?_;refine(show ay _ _ _ _ _ _ (Act.put _ (some 18) _) _ from ?_)
    conv in (Act.put _ (some 18) _)=>simp[Act.put]
    repeat ((first|refine ag rfl fun K hK=>?_|refine af rfl fun K hK=>?_);go_simp;(first|refine hK _ ?_|(simp only[IntWalk.iteOmega];go_simp;refine hK _ ?_)|(go_bits;go_simp;refine hK _ ?_));clear hK K;try go_bits)
    refine ak ?_;have kP:=aa (dy.alloc dy.size (.cells #[.int .u8 (c.toNat:Int)] 5))
    clear aZ dy u6;go_wp2_with fail;go_ret;exact⟨by rw[HD.out];rfl,kP.out⟩
  go_wp2_with fail;refine⟨(bM _ _),?_⟩;obtain⟨wN,dL⟩:∃wN,wN=(w.alloc (.cells #[.int .u8 (c.toNat:Int)] 5)).drew:=⟨_,rfl⟩
  rw[←dL]
  have hsN:Sl wN wN.heap.size (some ⟨w.heap.size,0,none⟩) (B8 [c]):=by
   rw[dL];exact((Sl.one w (.int .u8 (c.toNat:Int)) 5).mono (by show w.heap.size+1≤(w.alloc _).heap.size;rw[agn];exact af2 _)).drew
  have kN:Below w.heap.size w wN:=by rw[dL];exact((af5 _ w).alloc (af2 _) _).drew
  clear dL;refine xq rfl rfl 37 9 5 (.tmp 17) rfl Tryz.underlying37 Tryz.underlying5 Tryz.underlying9 _ 1 1 [c] rfl rfl hsN ?_;refine(show ay _ _ _ _ _ _ (Act.put _ (some 18) _) _ from ?_)
  conv in (Act.put _ (some 18) _)=>simp[Act.put]
  refine ae rfl rfl (fun K hK=>?_);go_wp2_with fail;refine(HI.out _).mono ?_;rintro e w1 ⟨rfl,aZ⟩;have dy:Below w.heap.size w w1:=kN.trans (aZ.mono kN.size);go_wp2_with fail;refine⟨.inr (aj aZ),?_⟩
  repeat ((first|refine ag rfl fun K hK=>?_|refine af rfl fun K hK=>?_);go_simp;(first|refine hK _ ?_|(simp only[IntWalk.iteOmega];go_simp;refine hK _ ?_)|(go_bits;go_simp;refine hK _ ?_));clear hK K;try go_bits)
  refine ak ?_;have kP:=aa dy;clear aZ dy u6 hsN kN;go_wp2_with fail;go_ret;exact⟨by rw[HD.out];rfl,kP.out⟩
theorem Lp (A:Option Addr) (c:Nat) (ns:List Nat) (dV:∀n∈ns,n<4294967296) (hl:ns.length≤300) (w:World) (hs:Sl w w.heap.size A (cL ns)):
 Calls Tryz.prog 57 #[.slice A ns.length c] w fun e W'=>e=.returned (.string ⟨(109::cQ ns).toArray⟩)∧Below w.heap.size w W':=by
 obtain⟨m,hm⟩:=ab ns.length;rw[←hm] at hl⊢;have Hm:=aa hm;have fN:=aa dV
 have HT8:Hid (∀k,(cQ (ns.take k)).length≤3600):=aa fun k=>by
  have:=iK (ns.take k) (fun n hn=>dV n (List.mem_of_mem_take hn));rw[agj] at this;omega
 clear hm dV;go_enter Tryz.func57,Tryz.ntmps57;go_wp2_with fail;go_loopw [3,4] (fun t i wr=>∃(k:Nat) (tB:ByteArray),k≤m∧i=.int .i64 k∧t=.string tB∧Hid (tB=⟨(109::cQ (ns.take k)).toArray⟩)∧Below w.heap.size w wr) (fun _ i _=>m-(intOf i).toNat)
 case atStart=>exact⟨0,_,agu _,rfl,rfl,aa rfl,af5 _ _⟩
 case round=>
  obtain⟨k,tB,hk,rfl,rfl,HT,hb⟩:=hrel;have Ue:tB.size≤3601:=by rw[HT.out,aA,agm];have:=HT8.out k;omega
  by_cases aL:k<m
  · have zf:k<ns.length:=by have:=Hm.out;omega
    obtain⟨n,hn⟩:∃n,n=ns[k]:=⟨_,rfl⟩;obtain⟨bA,oA,rfl,jm,db⟩:=hs (by rw[U32_length];have:=Hm.out;omega)
    have aD:∀W',Below w.heap.size w W'→W'.cell? ⟨bA,oA+k,none⟩=some (.int .u32 (n:Int)):=fun W' h=>by
     rw[h.cell (p:=⟨bA,oA+k,none⟩) jm,db k (by simpa using zf),AP,hn]
    have abu:n<4294967296:=by rw[hn];exact fN.out _ (agl _)
    have jO:cQ (ns.take (k+1))=cQ (ns.take k)++kE n:=by rw[agh zf,xa,hn]
    obtain⟨r,hr⟩:∃r,r=n%2147483648:=⟨_,rfl⟩;have hrI:(n:Int)%2147483648=(r:Int):=by omega
    have HD:=aa (D4 r (by omega));obtain⟨dB,Ud⟩:∃dB:ByteArray,dB=⟨(Lib.decDigits r).toArray⟩:=⟨_,rfl⟩;have ED:dB.size≤10:=by rw[Ud,aA,Lib.decDigits_length];exact pe 9 _ (by omega)
    rw[←Ud] at HD;have eg:Hid (kE n=47::(Lib.decDigits r++(if 2147483648≤n then [39] else []))):=aa (by rw[kE,←hr]);have oh:=aa jO;have jk:=aa aD;have HdB:=aa Ud;have Hb:=aa hb;have hcw:=aD wr hb;clear hn jO hr Ud db hs aD hb;go_wp2_with fail;refine(HD.out wr).mono ?_;rintro e w2 ⟨rfl,bt⟩;have FR:=aa (Hb.out.trans (bt.mono Hb.out.size));have l9:=jk.out w2 FR.out;clear bt HD hcw
    by_cases FF:2147483648≤n
    · have Ya:decide ((2147483648:Int)≤(n:Int))=true:=af9 (by omega)
      have By:Hid (tB++⟨#[47]⟩++dB++⟨#[39]⟩=⟨(109::cQ (ns.take (k+1))).toArray⟩):=aa (by
       rw[HT.out,HdB.out,oh.out,eg.out,if_pos FF,show (⟨#[47]⟩:ByteArray)=⟨([47]:List UInt8).toArray⟩ from rfl,show (⟨#[39]⟩:ByteArray)=⟨([39]:List UInt8).toArray⟩ from rfl]
       simp only[cU,agL,agw,agJ])
      clear FF;go_wp2_with fail;exact⟨⟨k+1,_,by omega,rfl,rfl,By,FR.out⟩,by simp[intOf];omega⟩
    have Ya:decide ((2147483648:Int)≤(n:Int))=false:=af8 (by omega)
    have By:Hid (tB++⟨#[47]⟩++dB=⟨(109::cQ (ns.take (k+1))).toArray⟩):=aa (by
     rw[HT.out,HdB.out,oh.out,eg.out,if_neg FF,show (⟨#[47]⟩:ByteArray)=⟨([47]:List UInt8).toArray⟩ from rfl]
     simp only[cU,agL,agw,agJ,List.append_nil])
    clear FF;go_wp2_with fail;exact⟨⟨k+1,_,by omega,rfl,rfl,By,FR.out⟩,by simp[intOf];omega⟩
  obtain rfl:k=m:=by omega
  have iQ:tB=⟨(109::cQ ns).toArray⟩:=by rw[HT.out,af7 (by have:=Hm.out;omega)]
  have kP:=aa iQ;have Hb:=aa hb;clear iQ hb;go_wp2_with fail;go_ret;exact⟨by rw[←kP.out];rfl,Hb.out⟩
theorem Gv (S:List UInt8) (c:UInt8) (b i:Nat) (hb:b≤i) (hi:i<S.length) (hf:∀j,b≤j→j<i→S[j]?≠some c) (hc:S[i]?=some c):aK c (S.drop b)=(S.drop b).take (i-b)::aK c (S.drop (i+1)):=by
 have e:S.drop b=(S.drop b).take (i-b)++c::S.drop (i+1):=by
  conv=>lhs;rw[←agH (i-b) (S.drop b),List.drop_drop,show b+(i-b)=i by omega,List.drop_eq_getElem_cons hi]
  rw[age hi] at hc;rw[Option.some.inj hc]
 have hp:∀x∈(S.drop b).take (i-b),x≠c:=fun x hx e=>by
  obtain⟨j,hj,rfl⟩:=List.mem_iff_getElem.1 hx;have yG:j<i-b:=by rw[agj] at hj;omega
  refine hf (b+j) (by omega) (by omega) ?_;rw[List.getElem_take,List.getElem_drop] at e;rw[age (by omega),e]
 have h:=iz c _ (S.drop (i+1)) hp;rw[←e] at h;exact h
theorem Gw (S:List UInt8) (c:UInt8) (b:Nat) (hf:∀j,b≤j→j<S.length→S[j]?≠some c):aK c (S.drop b)=[S.drop b]:=by
 refine jr c _ (fun x hx e=>?_);obtain⟨j,hj,rfl⟩:=List.mem_iff_getElem.1 hx;have yG:j<S.length-b:=by rw[agD] at hj;exact hj
 refine hf (b+j) (by omega) (by omega) ?_;rw[List.getElem_drop] at e;rw[age (by omega),e]
theorem xC (s:ByteArray) (S:List UInt8) (hS:s=⟨S.toArray⟩) (a b:Nat):s.extract a b=⟨((S.drop a).take (b-a)).toArray⟩:=by
 apply ByteArray.ext;apply Array.toList_inj.1;rw[gj s S hS]
theorem xD (s:ByteArray) (c:UInt8) (hsz:s.size≤8192) (w:World):
 Calls Tryz.prog 46 #[.string s,.int .u8 (c.toNat:Int)] w fun e W'=>∃v,e=.returned v∧Ow W' w.heap.size 9 v (ST (aK c s.data.toList))∧Below w.heap.size w W':=by
 obtain⟨S,hS⟩:=ab s.data.toList;have nD:s=⟨S.toArray⟩:=by rw[hS]
 rw[←hS];obtain⟨N,hN⟩:=ab s.size;have Lq:S.length=N:=by rw[hN,nD];exact(aA S).symm
 have hNs:=hN.symm;have hN8:N≤8192:=by omega
 have jh:=aa Lq;have Jh:=aa nD;clear hS nD hN Lq hsz;go_enter Tryz.func46,Tryz.ntmps46;go_wp2_with fail;go_loopw [5,6,7] (fun ov bv iv wr=>∃(i b:Nat) (L:List (List UInt8)),i≤N+1∧iv=.int .i64 i∧bv=.int .i64 b∧Ow wr w.heap.size 9 ov (ST L)∧Below w.heap.size w wr∧L.length≤i∧(i≤N→b≤i)∧Hid ((∀j,b≤j→j<i→S[j]?≠some c)∧(i≤N→aK c S=L++aK c (S.drop b))∧(i=N+1→aK c S=L))) (fun _ _ iv _=>N+1-(intOf iv).toNat)
 case atStart=>exact⟨0,0,[],by omega,rfl,rfl,Ow.nil_ _ _ _ _,af5 _ _,agu _,fun _=>af2 _,aa ⟨fun j h1 h2=>by omega,fun _=>rfl,fun h=>by omega⟩⟩
 case round=>
  obtain⟨i,b,L,hi,rfl,rfl,ho,hb,hLi,hbi,H⟩:=hrel;obtain⟨m,hm⟩:∃m,m=(ST L).length:=⟨_,rfl⟩;have hmL:m=L.length:=by rw[hm];simp[ST]
  obtain⟨Al,cl,rfl,db,NM⟩:=ho.form;rw[←hm] at ho db⊢;have hmi:m≤i:=by omega
  have Hm:=aa hm;have Ho:=aa ho;have Hb:=aa hb;have HL:=aa hLi;clear hm hmL ho hb hLi
  by_cases hle:i≤N
  · have ad2:=hbi hle
    obtain⟨u,hu⟩:=ab (s.extract b i);have hus:=hu.symm;have huz:u=⟨((S.drop b).take (i-b)).toArray⟩:=by rw[hu];exact xC s S Jh.out b i
    have Huz:=aa huz;have HOL:Hid (i≤8192∧m≤8193):=aa ⟨by omega,by omega⟩;clear hu huz hbi
    by_cases lP:i=N
    · have e1:((i:Int)==(N:Int))=true:=by simp;omega
      have Rv:Hid (aK c S=L++[(S.drop b).take (i-b)]):=aa (by
       rw[H.out.2.1 hle,Gw S c b (fun j h1 h2=>H.out.1 j h1 (by rw[lP,←jh.out];exact h2)),af7 (l:=S.drop b) (by rw[agD,jh.out];omega)])
      have pV:=aa lP;clear lP;go_wp2_with (at_builtin;go_loud (refine aq (m:=1) (c:=1) (base:=w.heap.size) (xs:=ST L) (v:=.slice Al m cl) (A:=some ⟨wr.heap.size,0,none⟩) (B:=wr.heap.size+1) (news:=[.string u]) elT rfl (.tmp 25) (.tmp 30) rfl rfl (Ho.out.alloc _) rfl (Sl.one wr _ _) rfl (by simp;rfl) (by rw[←Hm.out];have:=HOL.out.2;simp[maxLen];omega) (by rw[←Hm.out];have:=HOL.out.2;omega) (by have:=Hb.out.size;simp;omega) ?_);intro v3 w3 cZ fl j0);have sA:Hid (Ow w3 w.heap.size 9 v3 (ST (L++[(S.drop b).take (i-b)]))):=aa (by rw[Huz.out] at cZ;simpa [ST] using cZ);have ei:=aa (bE Hb.out (af2 _) Ho.out fl);exact⟨⟨i+1,i+1,_,by omega,by go_num,by go_num,sA.out,ei.out,by have:=HL.out;simp;omega,fun h=>by have:=pV.out;omega,aa ⟨fun j h1 h2=>by omega,fun h=>by have:=pV.out;omega,fun _=>Rv.out⟩⟩,by simp only[intOf];omega⟩
    have aL:i<N:=by omega
    have Lr:i<S.length:=by rw[jh.out];exact aL
    have e1:((i:Int)==(N:Int))=false:=by simp;omega
    obtain⟨y,hy⟩:∃y,y=S[i]:=⟨_,rfl⟩;have tI:∀h,s[i]'h=y:=fun h=>by rw[na s S Jh.out i h,hy,agB,age Lr];rfl
    have q:=oK y c;have Hy:Hid (S[i]?=some y):=aa (by rw[hy,age Lr]);clear hy lP
    by_cases T4:y=c
    · rw[af9 T4] at q
      have Rv:Hid (aK c S=(L++[(S.drop b).take (i-b)])++aK c (S.drop (i+1))):=aa (by
       rw[H.out.2.1 hle,Gv S c b i ad2 Lr H.out.1 (by rw[Hy.out,T4])];simp)
      clear T4 Lr;go_wp2_with (at_builtin;go_loud (refine aq (m:=1) (c:=1) (base:=w.heap.size) (xs:=ST L) (v:=.slice Al m cl) (A:=some ⟨wr.heap.size,0,none⟩) (B:=wr.heap.size+1) (news:=[.string u]) elT rfl (.tmp 25) (.tmp 30) rfl rfl (Ho.out.alloc _) rfl (Sl.one wr _ _) rfl (by simp;rfl) (by rw[←Hm.out];have:=HOL.out.2;simp[maxLen];omega) (by rw[←Hm.out];have:=HOL.out.2;omega) (by have:=Hb.out.size;simp;omega) ?_);intro v3 w3 cZ fl j0);have sA:Hid (Ow w3 w.heap.size 9 v3 (ST (L++[(S.drop b).take (i-b)]))):=aa (by rw[Huz.out] at cZ;simpa [ST] using cZ);have ei:=aa (bE Hb.out (af2 _) Ho.out fl);exact⟨⟨i+1,i+1,_,by omega,by go_num,by go_num,sA.out,ei.out,by have:=HL.out;simp;omega,fun h=>by omega,aa ⟨fun j h1 h2=>by omega,fun _=>Rv.out,fun h=>by omega⟩⟩,by simp only[intOf];omega⟩
    rw[af8 T4] at q;have Hyc:=aa T4;clear T4 Lr;go_wp2_with fail
    exact⟨⟨i+1,b,L,by omega,by go_num,rfl,Ho.out,Hb.out,by have:=HL.out;omega,fun h=>by omega,aa ⟨fun j h1 h2=>by
     rcases Nat.lt_or_ge j i with h|h
     · exact H.out.1 j h1 h
     obtain rfl:j=i:=by omega
     rw[Hy.out];exact fun e=>Hyc.out (Option.some.inj e),fun _=>H.out.2.1 hle,fun h=>by omega⟩⟩,by simp only[intOf];omega⟩
  obtain rfl:i=N+1:=by omega
  have hpc:=H.out.2.2 rfl;have Hpc:=aa hpc;clear hpc;go_wp2_with fail;go_ret;exact⟨_,rfl,by rw[Hpc.out];exact Ho.out,Hb.out⟩
end Go.Proofs.YtcjioogololnoaaGreatDoor
namespace Go.Proofs.YtcjioogololnoaaGreatDoor
def wu:List Nat→Nat
 |[]=>0
 |a::l=>a+4294967296*wu l
theorem Wb (j:Nat):2^(32*(j+1))=4294967296*2^(32*j):=by
 rw[Nat.mul_add,Nat.pow_add,Nat.mul_comm]
theorem my (a b:List Nat):wu (a++b)=wu a+2^(32*a.length)*wu b:=by
 induction a with
 |nil=>simp[wu]
 |cons x a ih=>rw[agw,wu,ih,wu,agm,Wb,Nat.mul_add,Nat.mul_assoc,Nat.add_assoc]
theorem xE (n:Nat):wu (List.replicate n 0)=0:=by
 induction n with
 |zero=>rfl
 |succ n ih=>rw[List.replicate_succ,wu,ih]
theorem Gx:∀(T:List Nat) (j:Nat) (h:j<T.length) (v:Nat),wu (T.set j v)+T[j]*2^(32*j)=wu T+v*2^(32*j)
 |x::T,0,_,v=>by simp[wu];omega
 |x::T,j+1,h,v=>by
  have hj:j<T.length:=by simpa using h
  have ih:=Gx T j hj v;simp only[List.set_cons_succ,wu,List.getElem_cons_succ,Wb];have e1:T[j]*(4294967296*2^(32*j))=4294967296*(T[j]*2^(32*j)):=by rw[Nat.mul_left_comm]
  have e2:v*(4294967296*2^(32*j))=4294967296*(v*2^(32*j)):=by rw[Nat.mul_left_comm]
  rw[e1,e2];omega
theorem zA:∀(T:List Nat),(∀x∈T,x<4294967296)→wu T<2^(32*T.length)
 |[],_=>by simp[wu]
 |x::T,h=>by
  have ih:=zA T (fun y hy=>h y (by simp[hy]));have hx:=h x (by simp);rw[wu,agm,Wb];omega
theorem lj (T:List Nat) (k:Nat) (h:k<T.length):wu (T.take (k+1))=wu (T.take k)+T[k]*2^(32*k):=by
 rw[agh h,my,agj,Nat.min_eq_left (by omega),wu,wu];simp[Nat.mul_comm]
theorem Bz (T:List Nat) (j:Nat):wu T=wu (T.take j)+2^(32*(T.take j).length)*wu (T.drop j):=by
 rw[←my,agH]
def nu:Nat→Nat→List Nat
 |0,_=>[]
 |k+1,n=>n%4294967296::nu k (n/4294967296)
theorem aS:∀k n,(nu k n).length=k
 |0,_=>rfl
 |k+1,n=>by rw[nu,agm,aS]
theorem np:∀k n,∀x∈nu k n,x<4294967296
 |0,_,x,h=>by cases h
 |k+1,n,x,h=>by
  rw[nu] at h;rcases List.mem_cons.1 h with rfl|h
  · exact Nat.mod_lt _ (by decide)
  exact np k _ x h
theorem lk:∀k n,n<2^(32*k)→wu (nu k n)=n
 |0,n,h=>by
  have:n=0:=by simpa using h
  rw[this];rfl
 |k+1,n,h=>by
  rw[Wb] at h;rw[nu,wu,lk k _ (by rw[Nat.div_lt_iff_lt_mul (by omega),Nat.mul_comm];exact h)];omega
theorem Jj:∀(T:List Nat),(∀x∈T,x<4294967296)→nu T.length (wu T)=T
 |[],_=>rfl
 |x::T,h=>by
  have hx:=h x (by simp);rw[agm,wu,nu,show (x+4294967296*wu T)%4294967296=x by omega,show (x+4294967296*wu T)/4294967296=wu T by omega,Jj T (fun y hy=>h y (by simp[hy]))]
theorem tx (T:List Nat) (j:Nat) (h:j<T.length) (p c c' t':Nat) (he:t'+4294967296*c'=T[j]+p+c):wu (T.set j t')+c'*2^(32*(j+1))=wu T+p*2^(32*j)+c*2^(32*j):=by
 have h1:=Gx T j h t';rw[Wb];have h2:(t'+4294967296*c')*2^(32*j)=(T[j]+p+c)*2^(32*j):=by rw[he]
 rw[Nat.add_mul,Nat.add_mul,Nat.add_mul] at h2;have e1:c'*(4294967296*2^(32*j))=4294967296*c'*2^(32*j):=by rw[←Nat.mul_assoc,Nat.mul_comm c']
 rw[e1];omega
theorem Ls (T X Y:List Nat) (k d b b':Nat) (hT:k<T.length) (hX:k<X.length) (hY:k<Y.length) (hd:d+Y[k]+b=X[k]+b'*4294967296)
 (h:wu (T.take k)+wu (Y.take k)=wu (X.take k)+b*2^(32*k)):wu ((T.set k d).take (k+1))+wu (Y.take (k+1))=wu (X.take (k+1))+b'*2^(32*(k+1)):=by
 have h1:wu ((T.set k d).take (k+1))=wu (T.take k)+d*2^(32*k):=by
  rw[lj _ k (by simpa using hT),List.take_set_of_le (by omega),List.getElem_set_self]
 rw[h1,lj Y k hY,lj X k hX,Wb];have h2:(d+Y[k]+b)*2^(32*k)=(X[k]+b'*4294967296)*2^(32*k):=by rw[hd]
 rw[Nat.add_mul,Nat.add_mul,Nat.add_mul] at h2;rw[←Nat.mul_assoc];omega
theorem Uf (X Y:List Nat) (i:Nat) (hX:i<X.length) (hY:i<Y.length) (bX:∀x∈X,x<4294967296) (bY:∀x∈Y,x<4294967296) (h:X.drop (i+1)=Y.drop (i+1)) (dt:X[i]≠Y[i]):(wu X<wu Y)↔X[i]<Y[i]:=by
 have e1:=Bz X i;have e2:=Bz Y i;rw[List.drop_eq_getElem_cons hX,wu] at e1;rw[List.drop_eq_getElem_cons hY,wu,←h] at e2;have l1:=zA (X.take i) (fun x hx=>bX x (List.mem_of_mem_take hx));have l2:=zA (Y.take i) (fun x hx=>bY x (List.mem_of_mem_take hx));have t1:(X.take i).length=i:=by rw[agj];omega
 have t2:(Y.take i).length=i:=by rw[agj];omega
 rw[t1] at e1 l1;rw[t2] at e2 l2;generalize wu (X.drop (i+1))=z at*;generalize X[i]=x at*;generalize Y[i]=y at*;generalize wu (X.take i)=a at*;generalize wu (Y.take i)=b at*;generalize 2^(32*i)=p at*;rw[e1,e2];constructor
 · intro hl
   rcases Nat.lt_or_ge x y with hh|hh
   · exact hh
   exfalso;have:y+4294967296*z+1≤x+4294967296*z:=by omega
   have:=Nat.mul_le_mul_left p this;rw[Nat.mul_add,Nat.mul_one] at this;omega
 intro hl;have:x+4294967296*z+1≤y+4294967296*z:=by omega
 have:=Nat.mul_le_mul_left p this;rw[Nat.mul_add,Nat.mul_one] at this;omega
end Go.Proofs.YtcjioogololnoaaGreatDoor
namespace Go.Proofs.YtcjioogololnoaaGreatDoor
open Go Go.RowKit Go.Shelf
def R8 (n:Nat):Array Value:=(cL (nu 8 n)).toArray
theorem bZ (n:Nat):(R8 n).size=8:=by simp[R8,cL,aS]
theorem ve (T:List Nat):(cL T).toArray.all (·.oneCell')=true:=by simp[cL];intro x _;rfl
theorem oL:(Tryz.prog.info? 121).map (·.size)=some 8:=by kernel_rfl
theorem BA {T:List Nat} (h:T.length=8):(Tryz.prog.info? 121).map (·.size)=some (cL T).toArray.size:=by
 have:(cL T).toArray.size=8:=by simp[cL,h]
 rw[this];exact oL
theorem Ug (T:List Nat) (k v:Nat):(cL T).toArray.setIfInBounds k (.int .u32 (v:Int))=(cL (T.set k v)).toArray:=by
 apply Array.ext';simp[cL,List.map_set]
theorem cO {w:World} {g t k:Nat} {T:List Nat} (h:w.heap[g]?=some (.cells (cL T).toArray t (0,0))) (hk:k<T.length):w.cell? ⟨g,k,none⟩=some (.int .u32 (T[k]:Int)):=by
 rw[agb _ _ _ _ _ (0,0) h];simp[cL,hk]
theorem kF {w:World} {g t k v:Nat} {T:List Nat} (h:w.heap[g]?=some (.cells (cL T).toArray t (0,0))):(w.setCell ⟨g,k,none⟩ (.int .u32 (v:Int))).heap[g]?=some (.cells (cL (T.set k v)).toArray t (0,0)):=by
 rw[heap_setCell_same w g k _ _ _ h,Ug]
theorem aJ {w:World} {g:Nat} {o:Obj} (h:w.heap[g]?=some o):g<w.heap.size:=(af3.1 h).1
theorem be {W0 W:World} {g:Nat} (h:W0.grownBy W (some g)) (o:Nat) (v:Value):W0.grownBy (W.setCell ⟨g,o,none⟩ v) (some g) where
 os:=h.os
 tape:=h.tape
 output:=h.output
 size:=by simpa using h.size
 block:=fun k hk dt=>(ago _ _ _ _ (show k≠g from fun e=>dt (by rw[e]))).trans (h.block k hk dt)
theorem eQ {W0 W:World} {r:Option Nat} (h:W0.grownBy W r):W0.grownBy W.drew r:=⟨h.os,h.tape,h.output,h.size,h.block⟩
theorem cV (W:World) (r:Option Nat):W.grownBy W r:=⟨rfl,rfl,rfl,af2 _,fun _ _ _=>rfl⟩
theorem sa (x y:Nat) (hx:x<2^256) (hy:y<2^256) (w:World):
 Calls Tryz.prog 116 #[.agg (R8 x),.agg (R8 y)] w fun e W'=>e=.returned (.bool (decide (x<y)))∧Below w.heap.size w W':=by
 have bW:Tryz.prog.follows .mixedOrders=true:=by kernel_rfl
 obtain⟨X,hX⟩:=ab (nu 8 x);obtain⟨Y,hY⟩:=ab (nu 8 y);have hXl:X.length=8:=by rw[hX,aS]
 have hYl:Y.length=8:=by rw[hY,aS]
 have Zl:Hid (∀t∈X,t<4294967296):=aa (by rw[hX];exact np 8 x);have Zm:Hid (∀t∈Y,t<4294967296):=aa (by rw[hY];exact np 8 y);have RO:Hid (wu X=x):=aa (by rw[hX];exact lk 8 x hx);have Wc:Hid (wu Y=y):=aa (by rw[hY];exact lk 8 y hy);rw[R8,R8,←hX,←hY];have BP:=aa hXl;have P4:=aa hYl;obtain⟨A,hA⟩:∃A,A=(cL X).toArray:=⟨_,rfl⟩;obtain⟨B,hB⟩:∃B,B=(cL Y).toArray:=⟨_,rfl⟩;rw[←hA,←hB];obtain⟨W0,aM⟩:∃W0,W0=(w.alloc (.cells A 121)).alloc (.cells B 121):=⟨_,rfl⟩;have bL:Below w.heap.size w W0:=by rw[aM];exact((af5 _ w).alloc (af2 _) _).alloc (by simp) _
 have gX:W0.heap[w.heap.size]?=some (.cells (cL X).toArray 121 (0,0)):=by
  rw[aM,←hA];exact eV (af4 w _)
 have gY:W0.heap[w.heap.size+1]?=some (.cells (cL Y).toArray 121 (0,0)):=by
  rw[aM,←hB];have:=af4 (w.alloc (.cells A 121)) (.cells B 121);rw[agn] at this;exact this
 obtain⟨G,hG⟩:=ab w.heap.size;rw[←hG] at gX gY;have GX:=aa gX;have GY:=aa gY;have gJ:=aa aM;have HG:=aa hG;have dh:=aa bL;clear hX hY hXl hYl hA hB aM bL gX gY hG hx hy;go_enter Tryz.func116,Tryz.ntmps116;go_wp2_with (first|(refine wpList_boxTo rfl 121 (.tmp 0) rfl _ rfl w.heap.size rfl A rfl ?_)|(refine wpList_boxTo rfl 121 (.tmp 1) rfl _ rfl (w.heap.size+1) (by simp) B rfl ?_));refine(show W0=_ from gJ.out)▸?_;rw[←HG.out];go_loopw [5] (fun i wr=>W0.grownBy wr none∧∃k:Nat,k≤8∧i=.int .i64 ((k:Int)-1)∧Hid (X.drop k=Y.drop k)) (fun i _=>(intOf i+1).toNat)
 case atStart=>exact⟨cV _ _,8,af2 _,by go_num,aa (by rw[List.drop_eq_nil_of_le (by rw[BP.out];exact af2 _),List.drop_eq_nil_of_le (by rw[P4.out];exact af2 _)])⟩
 case round=>
  obtain⟨hg,k,hk,rfl,HD⟩:=hrel;have jN:Hid (Below w.heap.size w wr):=aa (dh.out.grown hg dh.out.size (fun _ h=>by cases h));have gX:=(hg.block G (aJ GX.out) (by simp)).trans GX.out;have gY:=(hg.block (G+1) (aJ GY.out) (by simp)).trans GY.out;have Hg:=aa hg;clear hg
  by_cases h0:k=0
  · subst h0
    have Mo:X=Y:=by have:=HD.out;simpa using this
    have nh:decide (x<y)=false:=af8 (by rw[←RO.out,←Wc.out,Mo];exact Nat.lt_irrefl _);have je:=aa nh;clear Mo nh;go_wp2_with fail;go_ret;exact⟨by rw[je.out];rfl,jN.out⟩
  obtain⟨j,rfl⟩:∃j,k=j+1:=⟨k-1,by omega⟩;have hjX:j<X.length:=by rw[BP.out];omega
  have We:j<Y.length:=by rw[P4.out];omega
  obtain⟨xj,hxj⟩:∃xj,xj=X[j]:=⟨_,rfl⟩;obtain⟨yj,hyj⟩:∃yj,yj=Y[j]:=⟨_,rfl⟩;have cX:=cO gX hjX;have cY:=cO gY We;rw[←hxj] at cX;rw[←hyj] at cY;have hjI:(((j+1:Nat):Int)-1)=(j:Int):=by omega
  rw[hjI];have Rn:j<8:=by omega
  have Hlt:Hid (xj≠yj→((x<y)↔xj<yj)):=aa (fun dt=>by
   rw[←RO.out,←Wc.out,hxj,hyj];exact Uf X Y j hjX We Zl.out Zm.out HD.out (by rw[←hxj,←hyj];exact dt))
  have Heq:Hid (xj=yj→X.drop j=Y.drop j):=aa (fun he=>by
   rw[List.drop_eq_getElem_cons hjX,List.drop_eq_getElem_cons We,HD.out,←hxj,←hyj,he])
  clear hxj hyj hjX We hjI h0 hk gX gY;go_wp2_with fail;refine an [(0,0),(1,0),(2,1),(3,0),(4,0),(5,1),(6,0)] 7 bW (by kernel_rfl) (by intro c a d v w h;cases d<;>exact h) ?_
  repeat ((first|refine ag rfl fun K hK=>?_|refine af rfl fun K hK=>?_);go_simp;(first|refine hK _ ?_|(simp only[IntWalk.iteOmega];go_simp;refine hK _ ?_)|(go_bits;go_simp;refine hK _ ?_));clear hK K;try go_bits)
  refine ak ?_
  by_cases he:xj=yj
  · have heI:((xj:Int)==(yj:Int))=true:=beq_iff_eq.2 (by rw[he])
    have HE:=aa (Heq.out he);clear he;go_wp2_with fail;exact⟨⟨eQ Hg.out,j,by omega,rfl,HE⟩,by simp only[intOf];omega⟩
  have heI:((xj:Int)==(yj:Int))=false:=beq_eq_false_iff_ne.2 (by omega);have HL:=aa (Hlt.out he);clear he;go_wp2_with fail;refine an [(0,0),(1,0),(2,1),(3,0),(4,0),(5,1),(6,0),(7,0)] 8 bW (by kernel_rfl) (by intro c a d v w h;cases d<;>exact h) ?_
  repeat ((first|refine ag rfl fun K hK=>?_|refine af rfl fun K hK=>?_);go_simp;(first|refine hK _ ?_|(simp only[IntWalk.iteOmega];go_simp;refine hK _ ?_)|(go_bits;go_simp;refine hK _ ?_));clear hK K;try go_bits)
  refine ak ?_;go_wp2_with fail;go_ret;refine⟨?_,jN.out.drew.drew⟩;rw[decide_eq_decide.2 HL.out];rfl
theorem Lt {T X Y:List Nat} {x y bo:Nat} (lT:T.length=8) (lX:X.length=8) (lY:Y.length=8) (bT:∀t∈T,t<4294967296) (hb:bo≤1)
 (h:wu (T.take 8)+wu (Y.take 8)=wu (X.take 8)+bo*2^(32*8)) (hx:wu X=x) (hy:wu Y=y) (lx:x<2^256) (ly:y<2^256):T=nu 8 ((x+2^256-y)%2^256):=by
 rw[af7 (by omega),af7 (by omega),af7 (by omega),hx,hy] at h;have ht:=zA T bT;rw[lT] at ht
 have e:wu T=(x+2^256-y)%2^256:=by
  rw[show 32*8=256 from rfl] at h ht;omega
 rw[←e,←lT,Jj T bT]
theorem oM {T:List Nat} (h:∀t∈T,t<4294967296) {d:Nat} (hd:d<4294967296) (k:Nat):∀t∈T.set k d,t<4294967296:=by
 intro t ht;rcases List.mem_or_eq_of_mem_set ht with h1|h1
 · exact h t h1
 omega
theorem mz (x y:Nat) (hx:x<2^256) (hy:y<2^256) (w:World):
 Calls Tryz.prog 187 #[.agg (R8 x),.agg (R8 y)] w fun e W'=>e=.returned (.agg (R8 ((x+2^256-y)%2^256)))∧Below w.heap.size w W':=by
 have bW:Tryz.prog.follows .mixedOrders=true:=by kernel_rfl
 obtain⟨X,hX⟩:=ab (nu 8 x);obtain⟨Y,hY⟩:=ab (nu 8 y);have BP:Hid (X.length=8):=aa (by rw[hX,aS]);have P4:Hid (Y.length=8):=aa (by rw[hY,aS]);have Zl:Hid (∀t∈X,t<4294967296):=aa (by rw[hX];exact np 8 x);have Zm:Hid (∀t∈Y,t<4294967296):=aa (by rw[hY];exact np 8 y);have RO:Hid (wu X=x):=aa (by rw[hX];exact lk 8 x hx);have Wc:Hid (wu Y=y):=aa (by rw[hY];exact lk 8 y hy);have Wf:Hid (x<2^256∧y<2^256):=aa ⟨hx,hy⟩;rw[R8,R8,←hX,←hY];obtain⟨A,hA⟩:∃A,A=(cL X).toArray:=⟨_,rfl⟩;obtain⟨B,hB⟩:∃B,B=(cL Y).toArray:=⟨_,rfl⟩;rw[←hA,←hB];obtain⟨Z,hZ⟩:∃Z:List Nat,Z=[0,0,0,0,0,0,0,0]:=⟨_,rfl⟩;obtain⟨W0,aM⟩:∃W0,W0=(((w.alloc (.cells A 121)).alloc (.cells B 121)).alloc (.cells (cL [0,0,0,0,0,0,0,0]).toArray 121)).alloc (.cells (cL [0,0,0,0,0,0,0,0]).toArray 121):=⟨_,rfl⟩;have bL:Below w.heap.size w W0:=by rw[aM];exact((((af5 _ w).alloc (af2 _) _).alloc (by simp) _).alloc (by simp;omega) _).alloc (by simp;omega) _
 have h4:=jH w (.cells A 121) (.cells B 121) (.cells (cL [0,0,0,0,0,0,0,0]).toArray 121) (.cells (cL [0,0,0,0,0,0,0,0]).toArray 121);rw[←aM,←hZ] at h4;obtain⟨gX,gY,gO,gT⟩:=h4;obtain⟨G,hG⟩:=ab w.heap.size;rw[←hG] at gX gY gO gT;rw[hA] at gX;rw[hB] at gY;have iC:W0.heap.size=G+4:=by rw[aM,hG];simp
 have GX:=aa gX;have GY:=aa gY;have GO:=aa gO;have GT:=aa gT;have gJ:=aa aM;have HG:=aa hG;have dh:=aa bL;have HZ:=aa hZ;have kM:=aa iC;clear hX hY hA hB aM bL gX gY gO gT hG hx hy hZ iC;go_enter Tryz.func187,Tryz.ntmps187;go_wp2_with fail;refine(show W0=_ from gJ.out)▸?_;rw[←HG.out]
 go_loopw [6,7] (fun b i wr=>∃(k bo:Nat) (T:List Nat),k≤8∧i=.int .i64 k∧b=.int .i64 bo∧bo≤1∧Hid (T.length=8∧(∀t∈T,t<4294967296)∧wu (T.take k)+wu (Y.take k)=wu (X.take k)+bo*2^(32*k))∧
  wr.heap[G+1+1+1]?=some (.cells (cL T).toArray 121 (0,0))∧W0.grownBy wr (some (G+1+1+1))) (fun _ i _=>8-(intOf i).toNat)
 case atStart=>exact⟨0,0,Z,by omega,rfl,rfl,by omega,aa ⟨by rw[HZ.out];rfl,by rw[HZ.out];simp,by simp[wu]⟩,GT.out,cV _ _⟩
 case round=>
  obtain⟨k,bo,T,hk,rfl,rfl,hbo,HT,gT,hg⟩:=hrel;have gX:=(hg.block G (by rw[kM.out];omega) (by simp;omega)).trans GX.out;have gY:=(hg.block (G+1) (by rw[kM.out];omega) (by simp)).trans GY.out;have gO:=(hg.block (G+1+1) (by rw[kM.out];omega) (by simp)).trans GO.out;have AB:=HT.out.1
  by_cases aL:k<8
  · have hkX:k<X.length:=by rw[BP.out];exact aL
    have hkY:k<Y.length:=by rw[P4.out];exact aL
    obtain⟨xk,q8⟩:∃xk,xk=X[k]:=⟨_,rfl⟩;obtain⟨yk,ye⟩:∃yk,yk=Y[k]:=⟨_,rfl⟩;have Zn:xk<4294967296:=by rw[q8];exact Zl.out _ (agl _)
    have Pj:yk<4294967296:=by rw[ye];exact Zm.out _ (agl _)
    have cX:=cO gX hkX;have cY:=cO gY hkY;rw[←q8] at cX;rw[←ye] at cY;have zT:=bV gT k;obtain⟨tk,jO⟩:∃tk:Nat,tk=T[k]'(by omega):=⟨_,rfl⟩
    have cT:=cO gT (k:=k) (by omega);rw[←jO] at cT;have aF:∀d b',d+yk+bo=xk+b'*4294967296→wu ((T.set k d).take (k+1))+wu (Y.take (k+1))=wu (X.take (k+1))+b'*2^(32*(k+1)):=fun d b' h=>Ls T X Y k d bo b' (by omega) hkX hkY (by rw[←q8,←ye];exact h) HT.out.2.2
    have eC:=aa aF;have HgT:=aa gT;have Hg:=aa hg;clear gX gY gO gT hg q8 ye jO AB aF hkX hkY;go_wp2_with fail;refine an [(0,0),(1,0),(2,1),(3,0),(4,0),(5,0),(6,1),(7,0),(8,0),(9,0),(10,0),(11,0)] 12 bW (by kernel_rfl) (by intro c a d v w h;cases d<;>exact h) ?_
    repeat ((first|refine ag rfl fun K hK=>?_|refine af rfl fun K hK=>?_);go_simp;(first|refine hK _ ?_|(simp only[IntWalk.iteOmega];go_simp;refine hK _ ?_)|(go_bits;go_simp;refine hK _ ?_));clear hK K;try go_bits)
    refine ak ?_
    by_cases wC:xk<yk+bo
    · obtain⟨d,hd⟩:∃d:Nat,d=xk+4294967296-yk-bo:=⟨_,rfl⟩
      have wG:d<4294967296:=by omega
      have HS:=aa (oM HT.out.2.1 wG k);have VA:(xk:Int)-(yk:Int)-(bo:Int)+4294967296=(d:Int):=by omega
      have hn:decide ((xk:Int)-(yk:Int)-(bo:Int)<0)=true:=af9 (by omega);have HF:=aa (eC.out d 1 (by omega));clear hd wC;go_wp2_with fail;exact⟨⟨k+1,1,T.set k d,by omega,by go_num,rfl,by omega,aa ⟨by rw[List.length_set];exact HT.out.1,HS.out,HF.out⟩,by rw[heap_drew];exact kF HgT.out,eQ (be Hg.out _ _)⟩,by simp only[intOf];omega⟩
    obtain⟨d,hd⟩:∃d:Nat,d=xk-yk-bo:=⟨_,rfl⟩;have wG:d<4294967296:=by omega
    have HS:=aa (oM HT.out.2.1 wG k);have VA:(xk:Int)-(yk:Int)-(bo:Int)=(d:Int):=by omega
    have HF:=aa (eC.out d 0 (by omega));clear hd wC;rw[VA];go_wp2_with fail;exact⟨⟨k+1,0,T.set k d,by omega,by go_num,rfl,by omega,aa ⟨by rw[List.length_set];exact HT.out.1,HS.out,HF.out⟩,by rw[heap_drew];exact kF HgT.out,eQ (be Hg.out _ _)⟩,by simp only[intOf];omega⟩
  obtain rfl:k=8:=by omega
  have hTe:=Lt HT.out.1 BP.out P4.out HT.out.2.1 hbo HT.out.2.2 RO.out Wc.out Wf.out.1 Wf.out.2;have HTe:=aa hTe;have ra:=aa (BA HT.out.1);have jN:Hid (Below w.heap.size w wr):=aa (dh.out.grown hg dh.out.size (fun _ h=>by cases h;rw[HG.out];omega));have P5:=aa gO;have Zo:=aa gT;have HZs:Hid ((cL Z).toArray.size=(cL T).toArray.size):=aa (by simp[cL,HT.out.1,HZ.out]);clear hTe hg gX gY gO gT;go_wp2_with (first|(refine aga rfl 121 (.tmp 5) rfl (G+1+1+1) rfl 121 (cL T).toArray (0,0) _ Zo.out Tryz.underlying121 rfl ra.out ?_)|(refine af6 rfl 121 (.tmp 4) (.tmp 32) rfl (G+1+1) (cL T).toArray rfl rfl 121 _ P5.out ra.out HZs.out (ve _) ?_));refine agf (v:=.agg (cL T).toArray) ?_ rfl ⟨by rw[HTe.out];rfl,ah jN.out (by rw[HG.out];omega) _⟩;exact ags rfl _ _ (G+1+1) 121 (cL T).toArray (0,0) _ rfl (agd _ _ _ _ _ _ P5.out) Tryz.underlying121 rfl ra.out
end Go.Proofs.YtcjioogololnoaaGreatDoor
namespace Go.Proofs.YtcjioogololnoaaGreatDoor
open Go
def dC (b1 b2:Bool):List (List UInt8):=(if b1 then [ik] else [])++(if b2 then [cf] else [])
theorem Ee (S:List UInt8):aQ S=b5 (dC (bO S ik).2 (bO (bO S ik).1 cf).2) (bO (bO S ik).1 cf).2 (bO (bO S ik).1 cf).1:=by
 unfold aQ
 cases h1:au S ik with
 |none=>
  rw[show bO S ik=(S,false) by simp[bO,h1]];simp only[]
  cases h2:au S cf with
  |none=>rw[show bO S cf=(S,false) by simp[bO,h2]];rfl
  |some u=>rw[show bO S cf=(u,true) by simp[bO,h2]];rfl
 |some t=>
  rw[show bO S ik=(t,true) by simp[bO,h1]];simp only[]
  cases h2:au t cf with
  |none=>rw[show bO t cf=(t,false) by simp[bO,h2]];rfl
  |some u=>rw[show bO t cf=(u,true) by simp[bO,h2]];rfl
theorem jy (S W:List UInt8):(bO S W).1.length≤S.length:=by
 unfold bO;split
 · next t h=>exact jM h
 exact af2 _
theorem ll {S W t:List UInt8} (h:bO S W=(t,true)):au S W=some t:=by
 unfold bO at h;split at h
 · next u hu=>injection h with h1 _;rw[hu,h1]
 injection h with _ h2;cases h2
theorem ee {S W t:List UInt8} (h:bO S W=(t,false)):au S W=none∧t=S:=by
 unfold bO at h;split at h
 · injection h with _ h2;cases h2
 next hu=>injection h with h1 _;exact⟨hu,h1.symm⟩
theorem LP {b1 b2:Bool} {T t:List UInt8} (h:au T eD=some t):b5 (dC b1 b2) b2 T=if !b1&&!b2 then (aR t).map fun k=>⟨dC b1 b2++[eD],0,false,[k]⟩ else none:=by
 rw[b5,h]
 cases b1<;>cases b2<;>rfl
theorem GQ {b1 b2:Bool} {T t:List UInt8} (h0:au T eD=none) (h:au T ca=some t):b5 (dC b1 b2) b2 T=if !b2 then (aR t).map fun k=>⟨dC b1 b2++[ca],0,false,[k]⟩ else none:=by
 rw[b5,h0,h]
theorem BE {b1 b2:Bool} {T t:List UInt8} (h0:au T eD=none) (h1:au T ca=none) (h:au T ec=some t):b5 (dC b1 b2) b2 T=iI (dC b1 b2) true t:=by
 rw[b5,h0,h1,h]
theorem Ef {b1 b2:Bool} {T t:List UInt8} (h0:au T eD=none) (h1:au T ca=none) (h2:au T ec=none) (h:au T fW=some t):b5 (dC b1 b2) b2 T=iI (dC b1 b2) false t:=by
 rw[b5,h0,h1,h2,h]
theorem Qw {b1 b2:Bool} {T:List UInt8} (h0:au T eD=none) (h1:au T ca=none) (h2:au T ec=none) (h:au T fW=none):b5 (dC b1 b2) b2 T=none:=by
 rw[b5,h0,h1,h2,h]
def ln (b1 b2:Bool) (k m:Nat) (kv:Value):Array Value:=#[.bool b1,.bool b2,.int .i64 (k:Int),.int .i64 (m:Int),kv]
theorem Uu (b1 b2:Bool) (k:DKey) (kv:Value):BZ ⟨dC b1 b2++[eD],0,false,[k]⟩ kv=ln b1 b2 1 0 kv:=by cases b1<;>cases b2<;>rfl
theorem Qx (b1 b2:Bool) (k:DKey) (kv:Value):BZ ⟨dC b1 b2++[ca],0,false,[k]⟩ kv=ln b1 b2 2 0 kv:=by cases b1<;>cases b2<;>rfl
theorem Qy (b1 b2:Bool) (m:Nat) (s:Bool) (ks:List DKey) (kv:Value) (hm:1≤m):BZ ⟨dC b1 b2,m,s,ks⟩ kv=ln b1 b2 (if s then 4 else 3) m kv:=by
 have h0:(m=0)=False:=by simp;omega
 cases b1<;>cases b2<;>cases s<;>simp[BZ,ln,RN,yz,ur,h0,dC]<;>decide
def GU (p:List UInt8):Bool:=decide (1≤p.length)&&(decide (p.length≤2)&&(!decide (p.getD 0 0=48)&&p.all (fun c=>decide (48≤c.toNat)&&decide (c.toNat≤57))))
def mC (p:List UInt8):Nat:=p.foldl (fun m c=>10*m+(c.toNat-48)) 0
theorem LQ (p:List UInt8) (c:UInt8):mC (p++[c])=10*mC p+(c.toNat-48):=by simp[mC]
def sk (m:Nat):List UInt8:=if m<10 then [UInt8.ofNat (48+m)] else [UInt8.ofNat (48+m/10),UInt8.ofNat (48+m%10)]
theorem Ju (m:Nat) (h:m<100):Lib.itoa (m:Int)=sk m:=by
 rw[Lib.itoa,if_neg (by omega),Int.toNat_natCast,Lib.decDigits,sk];split
 · rfl
 next I5=>
 rw[Lib.decDigits,dif_pos (by omega)];rfl
theorem Uv:∀m:Fin 100,1≤m.1→Lib.atoiAll (sk m.1)=.ok (m.1:Int):=by decide+kernel
theorem ZT (m:Nat) (h1:1≤m) (h:m<100):zi (sk m)=some m:=by
 have ha:=Uv ⟨m,h⟩ h1;simp only[] at ha;rw[zi,ha];simp only[];rw[Ju m h,if_pos ⟨rfl,by omega⟩,Int.toNat_natCast]
theorem Qz {p:List UInt8} {v:Nat} (h:zi p=some v) (hv:v≤16):p=sk v∧1≤v:=by
 unfold zi at h;split at h
 · next n hn=>
   split at h
   · next hc=>
     injection h with h;have hnv:n=(v:Int):=by have:=hc.2;omega
     subst hnv;exact⟨by rw[←hc.1,Ju v (by omega)],by have:=hc.2;omega⟩
   cases h
 cases h
theorem QA:∀m:Fin 17,1≤m.1→GU (sk m.1)=true:=by decide+kernel
theorem zH {p:List UInt8} (h:GU p=true):1≤mC p∧mC p<100∧p=sk (mC p):=by
 simp only[GU,agz,agy,Bool.not_eq_true',decide_eq_false_iff_not] at h;obtain⟨h1,h2,h3,h4⟩:=h;have Mr:∀c:UInt8,48≤c.toNat→UInt8.ofNat (48+(c.toNat-48))=c:=fun c hc=>by rw[show 48+(c.toNat-48)=c.toNat by omega,UInt8.ofNat_toNat]
 match p,h1,h2 with
 |[a],_,_=>
  simp only[List.all_cons,List.all_nil,Bool.and_true,agz,agy] at h4;have ha:a.toNat≠48:=fun e=>h3 (by show a=48;exact UInt8.toNat_inj.1 e)
  have hv:mC [a]=a.toNat-48:=by simp[mC]
  rw[hv];refine⟨by omega,by omega,?_⟩;rw[sk,if_pos (by omega),Mr a h4.1]
 |[a,b],_,_=>
  simp only[List.all_cons,List.all_nil,Bool.and_true,agz,agy] at h4;have ha:a.toNat≠48:=fun e=>h3 (by show a=48;exact UInt8.toNat_inj.1 e)
  have hv:mC [a,b]=10*(a.toNat-48)+(b.toNat-48):=by simp[mC]
  rw[hv];refine⟨by omega,by omega,?_⟩;rw[sk,if_neg (by omega),show (10*(a.toNat-48)+(b.toNat-48))/10=a.toNat-48 by omega,show (10*(a.toNat-48)+(b.toNat-48))%10=b.toNat-48 by omega,Mr a h4.1.1,Mr b h4.2.1]
theorem Jv {p:List UInt8} (h:GU p=true):1≤p.length∧p.length≤2:=by
 simp only[GU,agz,agy] at h;exact⟨h.1,h.2.1⟩
theorem LU {p:List UInt8} (h:GU p=true):p.getD 0 0≠48:=by
 simp only[GU,agz,agy,Bool.not_eq_true',decide_eq_false_iff_not] at h;exact h.2.2.1
theorem QB {p:List UInt8} (h:GU p=true) (k:Nat) (hk:k<p.length):48≤p[k].toNat∧p[k].toNat≤57:=by
 simp only[GU,agz,agy,List.all_eq_true] at h;exact h.2.2.2 p[k] (agl _)
theorem ZU {p:List UInt8} (h1:1≤p.length) (h2:p.length≤2) (h3:p.getD 0 0≠48) (h4:∀j (h:j<p.length),48≤p[j].toNat∧p[j].toNat≤57):GU p=true:=by
 simp only[GU,agz,agy,Bool.not_eq_true',decide_eq_false_iff_not,List.all_eq_true];refine⟨h1,h2,h3,fun c hc=>?_⟩;obtain⟨j,hj,rfl⟩:=List.mem_iff_getElem.1 hc;exact h4 j hj
theorem ab7 {ws:List (List UInt8)} {sorted:Bool} {t p:List UInt8} {rs:List (List UInt8)} (h:aK 44 t=p::rs):
 iI ws sorted t=if 1≤rs.length∧rs.length≤16∧GU p=true∧mC p≤rs.length then (bJ rs).map (fun ks=>⟨ws,mC p,sorted,ks⟩) else none:=by
 rw[iI,h];simp only[]
 by_cases hn:1≤rs.length∧rs.length≤16
 · rw[if_pos hn]
   by_cases ho:GU p=true
   · obtain⟨h1,h2,h3⟩:=zH ho
     have hm:zi p=some (mC p):=by
      have:=ZT (mC p) h1 h2;rwa [←h3] at this
     rw[hm];simp only[]
     by_cases hv:mC p≤rs.length
     · rw[if_pos hv,if_pos ⟨hn.1,hn.2,ho,hv⟩]
     rw[if_neg hv,if_neg (fun h=>hv h.2.2.2)]
   rw[if_neg (fun h=>ho h.2.2.1)]
   cases hm:zi p with
   |none=>rfl
   |some v=>
    simp only[];rw[if_neg];intro hv;have h3:=Qz hm (by omega);have h4:=QA ⟨v,by omega⟩ h3.2;simp only[] at h4;rw[←h3.1] at h4;exact ho h4
 rw[if_neg hn,if_neg (fun h=>hn ⟨h.1,h.2.1⟩)]
end Go.Proofs.YtcjioogololnoaaGreatDoor
