/- Of any text: the program's descriptors and the reference's are read and written alike (DescParses). No condition. -/
import Derived.Test.YtcjioogololnoaaGreatDoorU1
import Derived.Test.YtcjioogololnoaaGreatDoorU29
set_option maxRecDepth 1000000
set_option maxHeartbeats 16000000
set_option linter.unusedVariables false
set_option linter.unusedSimpArgs false
namespace Go.Proofs.YtcjioogololnoaaGreatDoor
open Go Go.RowKit Go.Shelf
theorem BK (s:ByteArray) (w:World) (hl:s.size≤8192):
 Calls Tryz.prog 73 #[.string s] w fun e W'=>∃v,e=.returned (.tuple #[v,.bool (cJ s.data.toList).isSome])∧Ow W' w.heap.size 5 v (B8 ((cJ s.data.toList).getD []))∧Below w.heap.size w W':=by
 have bW:Tryz.prog.follows .mixedOrders=true:=by kernel_rfl
 obtain⟨S,hS⟩:=ab s.data.toList;have sU:S.length=s.size:=by rw[hS];simp
 obtain⟨U,hU⟩:=ab (cJ S);rw[←hS,←hU];have HS:=aa hS;have tg:=aa sU;have HU:=aa hU;obtain⟨N,hN⟩:=ab s.size;have hNs:=hN.symm;rw[←hN] at tg;have hl':N≤8192:=by omega
 clear hS sU hU hN hl;go_enter Tryz.func73,Tryz.ntmps73;go_wp2_with fail;go_loopw [4,5] (fun v i wr=>∃m:Nat,i=.int .i64 (m:Int)∧(m%2=0∧m≤N)∧(∃L,Hid (cJ (S.take m)=some L)∧Ow wr w.heap.size 5 v (B8 L))∧Below w.heap.size w wr) (fun _ i _=>N-(intOf i).toNat)
 case atStart=>exact⟨0,rfl,⟨rfl,agu _⟩,⟨[],aa rfl,Ow.nil_ _ _ _ _⟩,af5 _ _⟩
 case round=>
  obtain⟨m,rfl,hm,⟨L,HL,ho⟩,hb⟩:=hrel
  have uT:2*L.length=m:=by
   have h1:=iH _ _ HL.out;rw[agj] at h1;have:=tg.out;omega
  obtain⟨q,hq⟩:=ab L.length;obtain⟨Al,cl,rfl,db,NM⟩:=aH ho;rw[←hq] at ho db uT⊢;have Hq:=aa hq;have Hm:=aa hm;have Hlq:=aa uT;have xW:m≤N:=hm.2;clear hq hm uT
  by_cases aL:m<N
  · have hjt:decide ((m:Int)<(N:Int))=true:=af9 (by omega)
    by_cases uD:m+1=N
    · have Yx:U=none:=by rw[HU.out];exact zl S (by have:=tg.out;have:=Hm.out.1;omega)
      subst Yx;have e1:((m:Int)+1==(N:Int))=true:=by simp;omega
      have Hb:=aa hb;clear uD ho hb;go_wp2_with fail;go_ret2;exact⟨_,rfl,Ow.nil_ _ _ _ _,Hb.out⟩
    have afV:m+1<N:=by omega
    have e1:((m:Int)+1==(N:Int))=false:=by simp;omega
    obtain⟨a1,BS⟩:∃a1,a1=s[m]:=⟨_,rfl⟩;obtain⟨a2,C7⟩:∃a2,a2=s[m+1]:=⟨_,rfl⟩
    have wQ:S=S.take m++a1::a2::S.drop (m+2):=by
     have Cm:m<S.length:=by have:=tg.out;omega
     have Yy:m+1<S.length:=by have:=tg.out;omega
     have e1:S[m]=a1:=by rw[BS];simp only[HS.out];rfl
     have e2:S[m+1]=a2:=by rw[C7];simp only[HS.out];rfl
     conv=>lhs;rw[←agH m S,List.drop_eq_getElem_cons Cm,List.drop_eq_getElem_cons Yy]
     rw[e1,e2]
    have uE:=aa wQ;have jY:∀h,s[m]'h=a1:=fun h=>BS.symm
    have px:∀h,s[m+1]'h=a2:=fun h=>C7.symm
    obtain⟨z1,gq⟩:=ab (mi a1);obtain⟨z2,mI⟩:=ab (mi a2);have MF:=aa (zJ a1);have MG:=aa (zJ a2);rw[←gq] at MF;rw[←mI] at MG;have Ho:=aa ho;have Hb:=aa hb;have h18:=a1.toNat_lt;have h28:=a2.toNat_lt;clear wQ BS C7 ho hb uD
    by_cases wI:(ig a1&&ig a2)=true
    · have hA:=pc (c:=a1) (by simp at wI;exact wI.1)
      have hB:=pc (c:=a2) (by simp at wI;exact wI.2);obtain⟨d1,vN⟩:=ab (rQ a1);obtain⟨d2,pQ⟩:=ab (rQ a2);rw[←vN] at hA;rw[←pQ] at hB;obtain rfl:z1=(d1:Int):=gq.trans hA.1;obtain rfl:z2=(d2:Int):=mI.trans hB.1;have OH:=hA.2;obtain⟨z,hz⟩:∃z,z=d1*16+d2:=⟨_,rfl⟩;have Mx:(16:Int)*(d1:Int)+(d2:Int)=(z:Int):=by omega
      have abk:z<256:=by omega
      have jg:cJ (S.take (m+2))=some (L++[UInt8.ofNat z]):=by
       have e:S.take (m+2)=S.take m++[a1,a2]:=by
        have Cm:(S.take m).length=m:=by rw[agj];have:=tg.out;omega
        have h2:=uE.out;generalize S.take m=X at h2 Cm⊢;generalize S.drop (m+2)=Y at h2;rw[h2,show m+2=X.length+2 by omega,List.take_length_add_append];rfl
       rw[e,iZ _ _ _ HL.out,cJ,if_pos wI];simp[cJ,hz,vN,pQ]
      have ny:=aa jg;have f1:decide ((d1:Int)<0)=false:=af8 (by omega);have f2:decide ((d2:Int)<0)=false:=af8 (by omega);clear jg hz vN pQ hA hB wI gq mI;go_wp2_with (go_at_call 115;first|((with_reducible refine(MF.out _).mono ?_);rintro e w1 ⟨rfl,rfl⟩)|((with_reducible refine(MG.out _).mono ?_);rintro e w1 ⟨rfl,rfl⟩));refine an [(0,0),(1,0),(2,0),(3,0),(6,0),(7,0),(8,0),(9,0),(4,2),(5,0),(10,2),(11,0),(12,0),(13,2),(14,2),(15,2)] 14 bW (by kernel_rfl) (by intro c a d v w h;cases d<;>exact h) ?_
      repeat ((first|refine ag rfl fun K hK=>?_|refine af rfl fun K hK=>?_);go_simp;(first|refine hK _ ?_|(simp only[IntWalk.iteOmega];go_simp;refine hK _ ?_)|(go_bits;go_simp;refine hK _ ?_));clear hK K;try go_bits)
      refine ae rfl rfl (fun K hK=>?_);go_wp2_with fail;refine(MF.out _).mono ?_;rintro e w' ⟨rfl,rfl⟩;go_wp2_with fail;refine⟨.inr (Ext.refl _),?_⟩
      repeat ((first|refine ag rfl fun K hK=>?_|refine af rfl fun K hK=>?_);go_simp;(first|refine hK _ ?_|(simp only[IntWalk.iteOmega];go_simp;refine hK _ ?_)|(go_bits;go_simp;refine hK _ ?_));clear hK K;try go_bits)
      refine ae rfl rfl (fun K hK=>?_);go_wp2_with fail;refine(MG.out _).mono ?_;rintro e w' ⟨rfl,rfl⟩;go_wp2_with fail;refine⟨.inr (Ext.refl _),?_⟩
      repeat ((first|refine ag rfl fun K hK=>?_|refine af rfl fun K hK=>?_);go_simp;(first|refine hK _ ?_|(simp only[IntWalk.iteOmega];go_simp;refine hK _ ?_)|(go_bits;go_simp;refine hK _ ?_));clear hK K;try go_bits)
      refine ae rfl rfl (fun K hK=>?_);go_wp2_with fail;refine⟨.inr (bM _ _),?_⟩;obtain⟨w5,nk⟩:∃w5,w5=(wr.alloc (.cells #[.int .u8 (z:Int)] 5)).drew:=⟨_,rfl⟩
      rw[←nk];have iC:=Hb.out.size;have eh:Below w.heap.size w w5:=by rw[nk];exact(Hb.out.alloc iC _).drew
      have nO:Ow w5 w.heap.size 5 (.slice Al q cl) (B8 L):=by rw[nk];exact(Ho.out.alloc _).drew
      have hn5:Sl w5 (wr.heap.size+1) (some ⟨wr.heap.size,0,none⟩) [.int .u8 (z:Int)]:=by rw[nk];exact(Sl.one wr _ _).drew
      have Fa:=eh.size;clear nk;refine ae rfl rfl (fun K hK=>?_);refine bn (m:=1) (c:=1) (base:=w.heap.size) (xs:=B8 L) (v:=.slice Al q cl) (A:=some ⟨wr.heap.size,0,none⟩) (B:=wr.heap.size+1) (news:=[.int .u8 (z:Int)]) jf (.tmp 32) (.tmp 45) rfl rfl nO rfl hn5 rfl (by simp;rfl) (by rw[B8_length,←Hq.out];simp[maxLen];have:=Hlq.out;omega) (by rw[B8_length,←Hq.out];have:=Hlq.out;omega) Fa ?_;intro v6 w6 pI va Ez;have fv:Below w.heap.size w w6:=eh.grown va Fa (fun r hr=>(nO.row r hr).1);refine(show K (Act.put _ (some 46) v6) w6 from ?_)
      conv in (Act.put _ (some 46) v6)=>simp[Act.put]
      refine hK _ _ ⟨.inl (by decide),?_⟩;clear hK K;rw[dD L _ (UInt8.ofNat z) (by simp;omega)] at pI;refine ae rfl rfl (fun K hK=>?_);refine Go.BigFrame.wp_assign (.tmp 46) rfl ?_;refine(show K (Act.put _ (some 4) v6) w6 from ?_)
      conv in (Act.put _ (some 4) _)=>simp[Act.put]
      refine hK _ _ ⟨.inl (by decide),?_⟩;clear hK K;refine ak ?_;clear nO va Ez hn5 eh;have ZE:=aa pI;have Dz:=aa fv;clear pI fv;go_wp2_with fail;exact⟨⟨m+2,by go_num,⟨by have:=Hm.out.1;omega,by omega⟩,⟨_,ny,ZE.out⟩,Dz.out⟩,by simp[intOf];omega⟩
    have Yx:U=none:=by
     rw[HU.out,uE.out,iZ _ _ _ HL.out,cJ,if_neg wI];rfl
    have p7:ig a1=false∨ig a2=false:=by
     cases h1:ig a1<;>cases h2:ig a2<;>simp_all
    subst Yx
    have wC:z1<0∨(0≤z1∧z2<0):=by
     by_cases h0:z1<0
     · exact .inl h0
     refine .inr ⟨by omega,?_⟩;rcases p7 with h|h
     · rw[mj h] at gq;omega
     rw[mj h] at mI;omega
    have afW:-9223372036854775808≤z1∧z1≤9223372036854775807:=by
     cases h:ig a1 with
     |true=>have:=pc h;omega
     |false=>have:=mj h;omega
    have afX:-9223372036854775808≤z2∧z2≤9223372036854775807:=by
     cases h:ig a2 with
     |true=>have:=pc h;omega
     |false=>have:=mj h;omega
    clear p7 gq mI wI uE HL HU;rcases wC with zW|⟨zL,zW⟩
    · have f1:decide (z1<0)=true:=af9 zW
      go_wp2_with (go_at_call 115;first|((with_reducible refine(MF.out _).mono ?_);rintro e w1 ⟨rfl,rfl⟩)|((with_reducible refine(MG.out _).mono ?_);rintro e w1 ⟨rfl,rfl⟩));go_ret2;exact⟨_,rfl,Ow.nil_ _ _ _ _,Hb.out⟩
    have f1:decide (z1<0)=false:=af8 (by omega);go_wp2_with (go_at_call 115;first|((with_reducible refine(MF.out _).mono ?_);rintro e w1 ⟨rfl,rfl⟩)|((with_reducible refine(MG.out _).mono ?_);rintro e w1 ⟨rfl,rfl⟩));go_ret2;exact⟨_,rfl,Ow.nil_ _ _ _ _,Hb.out⟩
  have hmN:m=N:=by omega
  have hUv:U=some L:=by
   rw[HU.out,←HL.out,af7];have:=tg.out;omega
  subst hUv;have Ho:=aa ho;have Hb:=aa hb;clear hmN HL HU ho hb;go_wp2_with fail;go_ret2;exact⟨_,rfl,Ho.out,Hb.out⟩
end Go.Proofs.YtcjioogololnoaaGreatDoor
