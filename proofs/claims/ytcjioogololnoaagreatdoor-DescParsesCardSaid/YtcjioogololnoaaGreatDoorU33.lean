/- Of any text: the program's descriptors and the reference's are read and written alike (DescParses). No condition. -/
import Derived.Test.YtcjioogololnoaaGreatDoorU1
import Derived.Test.YtcjioogololnoaaGreatDoorU25
import Derived.Test.YtcjioogololnoaaGreatDoorU30
import Derived.Deep.DeepCutAuto
set_option maxRecDepth 1000000
set_option maxHeartbeats 16000000
set_option linter.unusedVariables false
set_option linter.unusedSimpArgs false
namespace Go.Proofs.YtcjioogololnoaaGreatDoor
open Go Go.RowKit Go.Shelf
def UD (S:List UInt8) (W:World) (lo:Nat) (v:Value) (n:Nat):Prop:=((a8 S).1=0∧n=0∧Ow W lo 55 v (cL [(a8 S).2]))∨((a8 S).1≠0∧n<100∧(n≠0∨v=.slice none 0 0)∧∃A m c,v=.slice A m c)
theorem tE {ops:Array Oper} {rest:List Oper} {o:Oper} {a:Act} {w:World} {Q:Exit→Act→World→Prop} {m:Nat} (tF:o.guard=none) (s x:Operand) (ho:o.op=.call { callee:=.builtin .append,args:=#[s,x],argTypes:=#[60,60] }) (hs:a.eval s=.slice none 0 0) (hx:a.eval x=.slice (some ⟨w.heap.size,0,none⟩) 1 1)
 (h:∀A3 c3 w3,Hid (Ow w3 w.heap.size 55 (.slice A3 1 c3) (cL [m]))→Hid (Below w.heap.size w w3)→wpList Tryz.prog ops Q rest (a.put o.dst (.slice A3 1 c3)) w3):wpList Tryz.prog ops Q (o::rest) a (w.alloc (.cells #[.int .u32 (m:Int)] 55)):=by
 refine aq (m:=1) (c:=1) (base:=w.heap.size) (xs:=[]) (v:=.slice none 0 0) (A:=some ⟨w.heap.size,0,none⟩) (B:=w.heap.size+1) (news:=[.int .u32 (m:Int)]) elU tF s x ho hs (Ow.nil_ _ _ _ _) hx (Sl.one w _ _) rfl (by simp;rfl) (by simp[maxLen]) (by decide) (by simp) ?_;intro v3 w3 cZ fl j0;replace cZ:Ow w3 w.heap.size 55 v3 (cL [m]):=cZ;obtain⟨A3,c3,hv3,FF,h32⟩:=cZ.form;replace hv3:v3=.slice A3 1 c3:=hv3;subst hv3;exact h A3 c3 w3 (aa cZ) (aa (((af5 _ w).alloc (af2 _) _).grown fl (by simp) (fun r hr=>by simp[az] at hr)))
theorem H8 (s:ByteArray) (hsz:s.size≤4096) (nh:∀c∈s.data.toList,c≠47) (w:World):
 Calls Tryz.prog 76 #[.string s] w fun e W'=>(∃(v:Value) (n:Nat),e=.returned (.tuple #[v,.int .i64 (n:Int)])∧UD s.data.toList W' w.heap.size v n)∧Below w.heap.size w W':=by
 obtain⟨S,hS⟩:=ab s.data.toList;have nD:s=⟨S.toArray⟩:=by rw[hS]
 rw[←hS] at nh⊢;obtain⟨N,hN⟩:=ab s.size;have Lq:S.length=N:=by rw[hN,nD];exact(aA S).symm
 have hNs:=hN.symm;have hN4:N≤4096:=by omega
 have qe:Hid (∀k (hk:k<S.length) h,s[k]'h=S[k]):=aa (fun k hk h=>by rw[na s S nD k h,agB,age hk];rfl)
 have je:Hid (∀k (hk:k<S.length),((S[k].toNat:Int)==47)=false):=aa (fun k hk=>by rw[show ((S[k].toNat:Int)==47)=decide (S[k]=47) from oK S[k] 47];exact af8 (nh _ (agl _)));have Hne:Hid (∀k (hk:k<S.length),((S[k].toNat:Int)!=47)=true):=aa (fun k hk=>by rw[bne,je.out k hk];rfl);have hm:(s.toList==[109])=decide (S=[109]):=by rw[agt,nD,Bool.eq_iff_iff];simp
 have jh:=aa Lq;have Jh:=aa nD;clear hS nD hN Lq hsz nh
 by_cases zQ:S=[109]
 · rw[af9 zQ] at hm
   have mW:Hid ((a8 S).1≠0):=aa (by rw[zQ];decide);clear zQ qe je Hne;go_enter Tryz.func76,Tryz.ntmps76;go_wp2_with fail;go_ret2;exact⟨⟨_,0,rfl,.inr ⟨mW.out,by omega,.inr rfl,_,_,_,rfl⟩⟩,af5 _ _⟩
 rw[af8 zQ] at hm;obtain⟨D,hD⟩:=ab (tD S);obtain⟨T,hT⟩:=ab (MR S);have qf:S=D++T:=by rw[hD,hT,sn]
 obtain⟨d,hd⟩:=ab D.length;have hdN:d≤N:=by have:=jh.out;rw[qf,agc] at this;omega
 have Ep:Hid (∀k (hk:k<S.length),k<d→S[k]∈D):=aa (fun k hk h=>by subst qf;rw[List.getElem_append_left (by omega)];exact agl _);have Wv:Hid (∀c∈D,48≤c.toNat∧c.toNat≤57):=aa (fun c hc=>by rw[hD] at hc;have:=so S c hc;simpa [ek] using this);have oh:Hid (∀k (hk:k<S.length),k<d→D.take (k+1)=D.take k++[S[k]]):=aa (fun k hk h=>by subst qf;rw[agh (by omega),List.getElem_append_left (by omega)])
 have ael:Hid (∀(hk:d<S.length),∃c r,T=c::r∧S[d]=c∧(c.toNat<48∨57<c.toNat)):=aa (fun hk=>by
  have AB:0<T.length:=by have:=hk;rw[qf,agc] at this;omega
  match hTT:T,AB with
  |c::r,_=>
   have h1:=Eh S c r (by rw[←hT]);refine⟨c,r,rfl,by subst qf;rw[List.getElem_append_right (by omega)];simp[hd],?_⟩;have h2:¬(48≤c.toNat∧c.toNat≤57):=by simpa [ek] using h1
   omega)
 have qR:Hid (d=D.length):=aa hd;have HDd:Hid (D=tD S):=aa hD;have HTd:Hid (T=MR S):=aa hT;have MU:Hid (S=D++T):=aa qf;have Rm:Hid (N=d+T.length):=aa (by have:=jh.out;rw[qf,agc] at this;omega);clear hD hT qf hd zQ
 have sH:Hid ((decide (1<(N:Int))=false∧N≤1)∨(decide (1<(N:Int))=true∧1<N∧∃y0:UInt8,(∀h,s[0]'h=y0)∧((y0.toNat:Int)==109)=false)∨(decide (1<(N:Int))=true∧1<N∧∃y0 y1:UInt8,(∀h,s[0]'h=y0)∧(∀h,s[1]'h=y1)∧((y0.toNat:Int)==109)=true∧((y1.toNat:Int)==47)=false∧d=0)):=aa (by
  by_cases h1:1<N
  · have l0:0<S.length:=by have:=jh.out;omega
    have l1:1<S.length:=by have:=jh.out;omega
    have vN:decide (1<(N:Int))=true:=af9 (by omega)
    cases h9:((S[0].toNat:Int)==109) with
    |false=>exact .inr (.inl ⟨vN,h1,S[0],fun h=>qe.out 0 l0 h,h9⟩)
    |true=>
     refine .inr (.inr ⟨vN,h1,S[0],S[1],fun h=>qe.out 0 l0 h,fun h=>qe.out 1 l1 h,h9,je.out 1 l1,?_⟩);rcases Nat.eq_zero_or_pos d with h|h
     · exact h
     have h2:=Wv.out _ (Ep.out 0 l0 h);have h3:(S[0].toNat:Int)=109:=by simpa using h9
     omega
  exact .inl ⟨af8 (by omega),by omega⟩)
 go_enter Tryz.func76,Tryz.ntmps76;go_upto_region 4 with (fail)
 go_cut [26] (fun s26 wx=>s26=.bool false∧wx=w)
 case first=>
  rcases sH.out with ⟨yf,hN1⟩|⟨yf,hN1,y0,Zd,hp2⟩|⟨yf,hN1,y0,y1,Zd,hy1,hp2,hp3,Kp⟩
  all_goals
   go_wp2_with fail;go_meet;exact⟨rfl,rfl⟩
 case rest=>
  obtain⟨rfl,CJ⟩:=hcut;rw[CJ];clear CJ sH;go_wp2_with fail;go_loopw [4,5,6] (fun av ov gv wr=>av=.int .i64 0∧ov=.slice none 0 0∧gv=.bool false∧wr=w) (fun _ _ _ _=>0)
  case atStart=>exact⟨rfl,rfl,rfl,rfl⟩
  case round=>
   obtain⟨rfl,rfl,rfl,hw⟩:=hrel;obtain rfl:w=wr:=hw.symm;go_wp2_with fail;go_loopw [4,7,8] (fun av nv dv wr=>∃k:Nat,k≤d∧av=.int .i64 k∧nv=.int .u64 (uP (D.take k):Int)∧dv=.int .i64 k∧wr=w) (fun av _ _ _=>d-(intOf av).toNat)
   case atStart=>exact⟨0,by omega,rfl,rfl,rfl,rfl⟩
   case round=>
    obtain⟨k,hk,rfl,rfl,rfl,hw⟩:=hrel;obtain rfl:w=wr:=hw.symm;clear hw
    by_cases aL:k<d
    · have Ea:k<S.length:=by rw[jh.out];omega
      have MQ:k<N:=by omega
      obtain⟨c,hc⟩:∃c,c=S[k]:=⟨_,rfl⟩;have bB:∀h,s[k]'h=c:=fun h=>by rw[hc];exact qe.out k Ea h
      have Kc:=Wv.out c (by rw[hc];exact Ep.out k Ea aL);have dW:=Kc.1;have ez:=Kc.2;have f1:decide ((48:Int)≤(c.toNat:Int))=true:=af9 (by omega);have f2:decide ((c.toNat:Int)≤57)=true:=af9 (by omega);have lu:=zI (D.take k) c;rw[hc,←oh.out k Ea aL,←hc] at lu;have uH:=Eg (D.take k);obtain⟨n,hn⟩:=ab (uP (D.take k));rw[←hn] at lu uH⊢;have aem:n<68719476736:=by omega
      obtain⟨e,he⟩:∃e,e=c.toNat-48:=⟨_,rfl⟩;rw[←he] at lu;have heI:(c.toNat:Int)-48=(e:Int):=by omega
      have he9:e≤9:=by omega
      obtain⟨n2,Cr⟩:∃n2,n2=10*n+e:=⟨_,rfl⟩;rw[←Cr] at lu;have hI2:(10:Int)*(n:Int)+(e:Int)=(n2:Int):=by omega
      by_cases ji:n<2147483648
      · rw[if_pos ji] at lu
        have f3:decide ((n:Int)<2147483648)=true:=af9 (by omega);have Fl:=aa lu;have afR:n2<21474836490:=by omega
        clear lu uH hn hc Kc ji he Cr;go_wp2_with fail;exact⟨⟨k+1,by omega,by go_num,by rw[Fl.out],by go_num,trivial⟩,by simp only[intOf];omega⟩
      rw[if_neg ji] at lu;have f3:decide ((n:Int)<2147483648)=false:=af8 (by omega);have Fl:=aa lu;clear lu uH hn hc Kc ji he Cr;go_wp2_with fail;exact⟨⟨k+1,by omega,by go_num,by rw[Fl.out],by go_num,trivial⟩,by simp only[intOf];omega⟩
    obtain rfl:k=d:=by omega
    rw[show D.take k=D from by rw[af7];rw[←qR.out];exact af2 _];have uH:=Eg D;obtain⟨n,hn⟩:=ab (uP D);rw[←hn] at uH⊢;have aem:n<68719476736:=by omega
    have Ww:=aa uH;obtain⟨m,aen⟩:∃m,m=n%2147483648:=⟨_,rfl⟩;have U1:(n:Int)%2147483648=(m:Int):=by omega
    have afS:m<2147483648:=by omega
    have Hmn:Hid (n<2147483648→m=n):=aa (fun h=>by omega);clear uH hn aen aL hm
    by_cases hdN:k=N
    · have hT0:T=[]:=List.length_eq_zero_iff.1 (by have:=Rm.out;omega)
      have zd:Hid (a8 S=pN D 0):=aa (by rw[HDd.out];exact Ei S (by rw[←HTd.out];exact hT0));have MQ:¬k<N:=by omega
      have hje:((k:Int)==(N:Int))=true:=by simp;omega
      clear hT0 hdN
      by_cases cK:D=[]∨(D.head?=some 48∧1<D.length)
      · have eg:Hid ((a8 S).1≠0):=aa (Ej zd.out cK)
        by_cases ls:k=0
        · subst ls
          clear cK;go_wp2_with fail;go_ret2;exact⟨⟨_,3,rfl,.inr ⟨eg.out,by omega,.inl (by omega),_,_,_,rfl⟩⟩,af5 _ _⟩
        have j8:D.head?=some 48∧1<D.length:=by
         rcases cK with h|h
         · exact absurd (show k=0 by rw[qR.out,h];rfl) ls
         exact h
        have nq:1<k:=by rw[qR.out];exact j8.2
        have QP:0<N:=by omega
        have oP:S[0]'(by rw[jh.out];omega)=48:=by
         have h9:=j8.1;have qf:=MU.out;subst qf
         cases D with
         |nil=>simp at h9
         |cons x r=>simpa using h9
        obtain⟨y,hy⟩:∃y:UInt8,y=S[0]'(by rw[jh.out];omega):=⟨_,rfl⟩
        have Gk:∀h,s[0]'h=y:=fun h=>by rw[hy];exact qe.out 0 (by rw[jh.out];omega) h
        have g3:((y.toNat:Int)==48)=true:=by rw[hy,oP];rfl
        clear oP hy;have g1:((k:Int)==0)=false:=by simp;omega
        have g2:decide (1<(k:Int))=true:=af9 (by omega);clear cK j8;go_wp2_with fail;go_ret2;exact⟨⟨_,3,rfl,.inr ⟨eg.out,by omega,.inl (by omega),_,_,_,rfl⟩⟩,af5 _ _⟩
      have mW:=aa cK
      have ls:0<k:=by
       rcases Nat.eq_zero_or_pos k with h|h
       · exact absurd (.inl (List.length_eq_zero_iff.1 (by rw[←qR.out];exact h))) cK
       exact h
      have g1:((k:Int)==0)=false:=by simp;omega
      have QP:0<N:=by omega
      obtain⟨y,hy⟩:∃y:UInt8,y=S[0]'(by rw[jh.out];omega):=⟨_,rfl⟩
      have Gk:∀h,s[0]'h=y:=fun h=>by rw[hy];exact qe.out 0 (by rw[jh.out];omega) h
      have QQ:(decide (1<(k:Int))=false∧¬1<k)∨(decide (1<(k:Int))=true∧1<k∧((y.toNat:Int)==48)=false):=by
       by_cases h1:1<k
       · refine .inr ⟨af9 (by omega),h1,?_⟩
         rw[show ((y.toNat:Int)==48)=decide (y=48) from oK y 48];refine af8 (fun e=>cK (.inr ⟨?_,by rw[←qR.out];exact h1⟩));have qf:=MU.out;have kQ:=qR.out;subst qf
         cases D with
         |nil=>simp at kQ;omega
         |cons x r=>simpa [←e] using hy.symm
       exact .inl ⟨af8 (by omega),h1⟩
      clear cK hy;rcases QQ with ⟨g2,g4⟩|⟨g2,g4,g3⟩
      all_goals
       by_cases ji:n<2147483648
       · have f3:decide ((2147483648:Int)≤(n:Int))=false:=af8 (by omega)
         have eg:Hid (a8 S=(0,m)):=aa (vg zd.out mW.out Ww.out ji (Hmn.out ji));clear ji;go_wp2_with (at_builtin;go_loud (refine tE (m:=m) rfl (.tmp 103) (.tmp 105) rfl rfl rfl ?_);intro A3 c3 w3 sA ei);go_ret2;exact⟨⟨_,0,rfl,.inl ⟨by rw[eg.out],rfl,by rw[eg.out];exact sA.out⟩⟩,ei.out⟩
       have f3:decide ((2147483648:Int)≤(n:Int))=true:=af9 (by omega);have eg:Hid ((a8 S).1≠0):=aa (nf zd.out mW.out Ww.out ji);clear ji;go_wp2_with (at_builtin;go_loud (refine tE (m:=m) rfl (.tmp 103) (.tmp 105) rfl rfl rfl ?_);intro A3 c3 w3 sA ei);go_ret2;exact⟨⟨_,2,rfl,.inr ⟨eg.out,by omega,.inl (by omega),_,_,_,rfl⟩⟩,ei.out⟩
    have Ea:k<S.length:=by rw[jh.out];omega
    obtain⟨c,r,hTc,hSc,Kc⟩:=ael.out Ea;have MQ:k<N:=by omega
    have hje:((k:Int)==(N:Int))=false:=by simp;omega
    have bB:∀h,s[k]'h=c:=fun h=>by rw[←hSc];exact qe.out k Ea h
    have afT:((c.toNat:Int)!=47)=true:=by rw[←hSc];exact Hne.out k Ea
    have Y8:=c.toNat_lt;have UE:Hid (MR S=c::r):=aa (by rw[←HTd.out];exact hTc);have Aj:Hid (N=k+1+r.length):=aa (by have:=Rm.out;rw[hTc,agm] at this;omega)
    have Hbs:Hid (D=[]∨(D.head?=some 48∧1<D.length)→(a8 S).1≠0):=aa (fun hb=>by
     by_cases hh:cc c=true∧r=[]
     · exact Ej (show a8 S=pN D 2147483648 by rw[HDd.out];exact nc S c (by rw[UE.out,hh.2]) hh.1) hb
     refine kb S c r UE.out ?_
     cases h:cc c with
     |false=>exact .inl rfl
     |true=>exact .inr (fun e=>hh ⟨h,e⟩))
    clear hTc hSc Ea hdN
    by_cases h39:c.toNat=39
    · have om:=h39
      have Hh:Hid (cc c=true):=aa (by rw[cc,show c=39 from UInt8.toNat_inj.1 om];rfl);have f1:decide ((48:Int)≤(c.toNat:Int))=false:=af8 (by omega);have q39:((c.toNat:Int)==39)=true:=by simp;omega
      clear h39;clear om Kc
      by_cases cK:D=[]∨(D.head?=some 48∧1<D.length)
      · have eg:Hid ((a8 S).1≠0):=aa (Hbs.out cK)
        by_cases ls:k=0
        · subst ls
          clear cK;go_wp2_with fail;go_ret2;exact⟨⟨_,3,rfl,.inr ⟨eg.out,by omega,.inl (by omega),_,_,_,rfl⟩⟩,af5 _ _⟩
        have j8:D.head?=some 48∧1<D.length:=by
         rcases cK with h|h
         · exact absurd (show k=0 by rw[qR.out,h];rfl) ls
         exact h
        have nq:1<k:=by rw[qR.out];exact j8.2
        have QP:0<N:=by omega
        have oP:S[0]'(by rw[jh.out];omega)=48:=by
         have h9:=j8.1;have qf:=MU.out;subst qf
         cases D with
         |nil=>simp at h9
         |cons x r=>simpa using h9
        obtain⟨y,hy⟩:∃y:UInt8,y=S[0]'(by rw[jh.out];omega):=⟨_,rfl⟩
        have Gk:∀h,s[0]'h=y:=fun h=>by rw[hy];exact qe.out 0 (by rw[jh.out];omega) h
        have g3:((y.toNat:Int)==48)=true:=by rw[hy,oP];rfl
        clear oP hy;have g1:((k:Int)==0)=false:=by simp;omega
        have g2:decide (1<(k:Int))=true:=af9 (by omega);clear cK j8;go_wp2_with fail;go_ret2;exact⟨⟨_,3,rfl,.inr ⟨eg.out,by omega,.inl (by omega),_,_,_,rfl⟩⟩,af5 _ _⟩
      have mW:=aa cK
      have ls:0<k:=by
       rcases Nat.eq_zero_or_pos k with h|h
       · exact absurd (.inl (List.length_eq_zero_iff.1 (by rw[←qR.out];exact h))) cK
       exact h
      have g1:((k:Int)==0)=false:=by simp;omega
      have QP:0<N:=by omega
      obtain⟨y,hy⟩:∃y:UInt8,y=S[0]'(by rw[jh.out];omega):=⟨_,rfl⟩
      have Gk:∀h,s[0]'h=y:=fun h=>by rw[hy];exact qe.out 0 (by rw[jh.out];omega) h
      have QQ:(decide (1<(k:Int))=false∧¬1<k)∨(decide (1<(k:Int))=true∧1<k∧((y.toNat:Int)==48)=false):=by
       by_cases h1:1<k
       · refine .inr ⟨af9 (by omega),h1,?_⟩
         rw[show ((y.toNat:Int)==48)=decide (y=48) from oK y 48];refine af8 (fun e=>cK (.inr ⟨?_,by rw[←qR.out];exact h1⟩));have qf:=MU.out;have kQ:=qR.out;subst qf
         cases D with
         |nil=>simp at kQ;omega
         |cons x r=>simpa [←e] using hy.symm
       exact .inl ⟨af8 (by omega),h1⟩
      clear cK hy;rcases QQ with ⟨g2,g4⟩|⟨g2,g4,g3⟩
      all_goals
       have QR:(m:Int)+2147483648=((m+2147483648:Nat):Int):=by omega
       obtain⟨m2,xW⟩:∃m2,m2=m+2147483648:=⟨_,rfl⟩;rw[←xW] at QR;have Wx:m2<4294967296:=by omega
       have Hm2:=aa xW;clear xW
       by_cases hr:r=[]
       · have QS:((k:Int)+1==(N:Int))=true:=by have:=Aj.out;rw[hr] at this;simp at this;simp;omega
         have zd:Hid (a8 S=pN D 2147483648):=aa (by rw[HDd.out];exact nc S c (by rw[UE.out,hr]) Hh.out);clear hr
         by_cases ji:n<2147483648
         · have f3:decide ((2147483648:Int)≤(n:Int))=false:=af8 (by omega)
           have eg:Hid (a8 S=(0,m2)):=aa (by rw[Hm2.out];exact vg zd.out mW.out Ww.out ji (Hmn.out ji));clear ji;go_wp2_with (at_builtin;go_loud (refine tE (m:=m2) rfl (.tmp 103) (.tmp 105) rfl rfl rfl ?_);intro A3 c3 w3 sA ei);go_ret2;exact⟨⟨_,0,rfl,.inl ⟨by rw[eg.out],rfl,by rw[eg.out];exact sA.out⟩⟩,ei.out⟩
         have f3:decide ((2147483648:Int)≤(n:Int))=true:=af9 (by omega);have eg:Hid ((a8 S).1≠0):=aa (nf zd.out mW.out Ww.out ji);clear ji;go_wp2_with (at_builtin;go_loud (refine tE (m:=m2) rfl (.tmp 103) (.tmp 105) rfl rfl rfl ?_);intro A3 c3 w3 sA ei);go_ret2;exact⟨⟨_,2,rfl,.inr ⟨eg.out,by omega,.inl (by omega),_,_,_,rfl⟩⟩,ei.out⟩
       have lZ:0<r.length:=List.length_pos_iff.2 hr;have QS:((k:Int)+1==(N:Int))=false:=by have:=Aj.out;simp;omega
       have xU:k+1<S.length:=by rw[jh.out];have:=Aj.out;omega
       obtain⟨z,hz⟩:∃z,z=S[k+1]:=⟨_,rfl⟩;have Ih:∀h,s[k+1]'h=z:=fun h=>by rw[hz];exact qe.out (k+1) xU h
       have ace:((z.toNat:Int)!=47)=true:=by rw[hz];exact Hne.out (k+1) xU
       have KX:=z.toNat_lt;have eg:Hid ((a8 S).1≠0):=aa (kb S c r UE.out (.inr hr));have acf:k+1<N:=by have:=Aj.out;omega
       clear hr lZ hz xU;have pF:decide ((2147483648:Int)≤(n:Int))=false∨decide ((2147483648:Int)≤(n:Int))=true:=by cases decide ((2147483648:Int)≤(n:Int))<;>simp
       rcases pF with f3|f3
       all_goals
        go_wp2_with (at_builtin;go_loud (refine tE (m:=m2) rfl (.tmp 103) (.tmp 105) rfl rfl rfl ?_);intro A3 c3 w3 sA ei);go_ret2;exact⟨⟨_,3,rfl,.inr ⟨eg.out,by omega,.inl (by omega),_,_,_,rfl⟩⟩,ei.out⟩
    by_cases QT:c.toNat=104
    · have om:=QT
      have Hh:Hid (cc c=true):=aa (by rw[cc,show c=104 from UInt8.toNat_inj.1 om];rfl);have f1:decide ((48:Int)≤(c.toNat:Int))=true:=af9 (by omega);have f2:decide ((c.toNat:Int)≤57)=false:=af8 (by omega);have q39:((c.toNat:Int)==39)=false:=by simp;omega
      have acg:((c.toNat:Int)==104)=true:=by simp;omega
      clear h39 QT;clear om Kc
      by_cases cK:D=[]∨(D.head?=some 48∧1<D.length)
      · have eg:Hid ((a8 S).1≠0):=aa (Hbs.out cK)
        by_cases ls:k=0
        · subst ls
          clear cK;go_wp2_with fail;go_ret2;exact⟨⟨_,3,rfl,.inr ⟨eg.out,by omega,.inl (by omega),_,_,_,rfl⟩⟩,af5 _ _⟩
        have j8:D.head?=some 48∧1<D.length:=by
         rcases cK with h|h
         · exact absurd (show k=0 by rw[qR.out,h];rfl) ls
         exact h
        have nq:1<k:=by rw[qR.out];exact j8.2
        have QP:0<N:=by omega
        have oP:S[0]'(by rw[jh.out];omega)=48:=by
         have h9:=j8.1;have qf:=MU.out;subst qf
         cases D with
         |nil=>simp at h9
         |cons x r=>simpa using h9
        obtain⟨y,hy⟩:∃y:UInt8,y=S[0]'(by rw[jh.out];omega):=⟨_,rfl⟩
        have Gk:∀h,s[0]'h=y:=fun h=>by rw[hy];exact qe.out 0 (by rw[jh.out];omega) h
        have g3:((y.toNat:Int)==48)=true:=by rw[hy,oP];rfl
        clear oP hy;have g1:((k:Int)==0)=false:=by simp;omega
        have g2:decide (1<(k:Int))=true:=af9 (by omega);clear cK j8;go_wp2_with fail;go_ret2;exact⟨⟨_,3,rfl,.inr ⟨eg.out,by omega,.inl (by omega),_,_,_,rfl⟩⟩,af5 _ _⟩
      have mW:=aa cK
      have ls:0<k:=by
       rcases Nat.eq_zero_or_pos k with h|h
       · exact absurd (.inl (List.length_eq_zero_iff.1 (by rw[←qR.out];exact h))) cK
       exact h
      have g1:((k:Int)==0)=false:=by simp;omega
      have QP:0<N:=by omega
      obtain⟨y,hy⟩:∃y:UInt8,y=S[0]'(by rw[jh.out];omega):=⟨_,rfl⟩
      have Gk:∀h,s[0]'h=y:=fun h=>by rw[hy];exact qe.out 0 (by rw[jh.out];omega) h
      have QQ:(decide (1<(k:Int))=false∧¬1<k)∨(decide (1<(k:Int))=true∧1<k∧((y.toNat:Int)==48)=false):=by
       by_cases h1:1<k
       · refine .inr ⟨af9 (by omega),h1,?_⟩
         rw[show ((y.toNat:Int)==48)=decide (y=48) from oK y 48];refine af8 (fun e=>cK (.inr ⟨?_,by rw[←qR.out];exact h1⟩));have qf:=MU.out;have kQ:=qR.out;subst qf
         cases D with
         |nil=>simp at kQ;omega
         |cons x r=>simpa [←e] using hy.symm
       exact .inl ⟨af8 (by omega),h1⟩
      clear cK hy;rcases QQ with ⟨g2,g4⟩|⟨g2,g4,g3⟩
      all_goals
       have QR:(m:Int)+2147483648=((m+2147483648:Nat):Int):=by omega
       obtain⟨m2,xW⟩:∃m2,m2=m+2147483648:=⟨_,rfl⟩;rw[←xW] at QR;have Wx:m2<4294967296:=by omega
       have Hm2:=aa xW;clear xW
       by_cases hr:r=[]
       · have QS:((k:Int)+1==(N:Int))=true:=by have:=Aj.out;rw[hr] at this;simp at this;simp;omega
         have zd:Hid (a8 S=pN D 2147483648):=aa (by rw[HDd.out];exact nc S c (by rw[UE.out,hr]) Hh.out);clear hr
         by_cases ji:n<2147483648
         · have f3:decide ((2147483648:Int)≤(n:Int))=false:=af8 (by omega)
           have eg:Hid (a8 S=(0,m2)):=aa (by rw[Hm2.out];exact vg zd.out mW.out Ww.out ji (Hmn.out ji));clear ji;go_wp2_with (at_builtin;go_loud (refine tE (m:=m2) rfl (.tmp 103) (.tmp 105) rfl rfl rfl ?_);intro A3 c3 w3 sA ei);go_ret2;exact⟨⟨_,0,rfl,.inl ⟨by rw[eg.out],rfl,by rw[eg.out];exact sA.out⟩⟩,ei.out⟩
         have f3:decide ((2147483648:Int)≤(n:Int))=true:=af9 (by omega);have eg:Hid ((a8 S).1≠0):=aa (nf zd.out mW.out Ww.out ji);clear ji;go_wp2_with (at_builtin;go_loud (refine tE (m:=m2) rfl (.tmp 103) (.tmp 105) rfl rfl rfl ?_);intro A3 c3 w3 sA ei);go_ret2;exact⟨⟨_,2,rfl,.inr ⟨eg.out,by omega,.inl (by omega),_,_,_,rfl⟩⟩,ei.out⟩
       have lZ:0<r.length:=List.length_pos_iff.2 hr;have QS:((k:Int)+1==(N:Int))=false:=by have:=Aj.out;simp;omega
       have xU:k+1<S.length:=by rw[jh.out];have:=Aj.out;omega
       obtain⟨z,hz⟩:∃z,z=S[k+1]:=⟨_,rfl⟩;have Ih:∀h,s[k+1]'h=z:=fun h=>by rw[hz];exact qe.out (k+1) xU h
       have ace:((z.toNat:Int)!=47)=true:=by rw[hz];exact Hne.out (k+1) xU
       have KX:=z.toNat_lt;have eg:Hid ((a8 S).1≠0):=aa (kb S c r UE.out (.inr hr));have acf:k+1<N:=by have:=Aj.out;omega
       clear hr lZ hz xU;have pF:decide ((2147483648:Int)≤(n:Int))=false∨decide ((2147483648:Int)≤(n:Int))=true:=by cases decide ((2147483648:Int)≤(n:Int))<;>simp
       rcases pF with f3|f3
       all_goals
        go_wp2_with (at_builtin;go_loud (refine tE (m:=m2) rfl (.tmp 103) (.tmp 105) rfl rfl rfl ?_);intro A3 c3 w3 sA ei);go_ret2;exact⟨⟨_,3,rfl,.inr ⟨eg.out,by omega,.inl (by omega),_,_,_,rfl⟩⟩,ei.out⟩
    by_cases h72:c.toNat=72
    · have om:=h72
      have Hh:Hid (cc c=true):=aa (by rw[cc,show c=72 from UInt8.toNat_inj.1 om];rfl);have f1:decide ((48:Int)≤(c.toNat:Int))=true:=af9 (by omega);have f2:decide ((c.toNat:Int)≤57)=false:=af8 (by omega);have q39:((c.toNat:Int)==39)=false:=by simp;omega
      have acg:((c.toNat:Int)==104)=false:=by simp;omega
      have q72:((c.toNat:Int)==72)=true:=by simp;omega
      clear h39 QT h72;clear om Kc
      by_cases cK:D=[]∨(D.head?=some 48∧1<D.length)
      · have eg:Hid ((a8 S).1≠0):=aa (Hbs.out cK)
        by_cases ls:k=0
        · subst ls
          clear cK;go_wp2_with fail;go_ret2;exact⟨⟨_,3,rfl,.inr ⟨eg.out,by omega,.inl (by omega),_,_,_,rfl⟩⟩,af5 _ _⟩
        have j8:D.head?=some 48∧1<D.length:=by
         rcases cK with h|h
         · exact absurd (show k=0 by rw[qR.out,h];rfl) ls
         exact h
        have nq:1<k:=by rw[qR.out];exact j8.2
        have QP:0<N:=by omega
        have oP:S[0]'(by rw[jh.out];omega)=48:=by
         have h9:=j8.1;have qf:=MU.out;subst qf
         cases D with
         |nil=>simp at h9
         |cons x r=>simpa using h9
        obtain⟨y,hy⟩:∃y:UInt8,y=S[0]'(by rw[jh.out];omega):=⟨_,rfl⟩
        have Gk:∀h,s[0]'h=y:=fun h=>by rw[hy];exact qe.out 0 (by rw[jh.out];omega) h
        have g3:((y.toNat:Int)==48)=true:=by rw[hy,oP];rfl
        clear oP hy;have g1:((k:Int)==0)=false:=by simp;omega
        have g2:decide (1<(k:Int))=true:=af9 (by omega);clear cK j8;go_wp2_with fail;go_ret2;exact⟨⟨_,3,rfl,.inr ⟨eg.out,by omega,.inl (by omega),_,_,_,rfl⟩⟩,af5 _ _⟩
      have mW:=aa cK
      have ls:0<k:=by
       rcases Nat.eq_zero_or_pos k with h|h
       · exact absurd (.inl (List.length_eq_zero_iff.1 (by rw[←qR.out];exact h))) cK
       exact h
      have g1:((k:Int)==0)=false:=by simp;omega
      have QP:0<N:=by omega
      obtain⟨y,hy⟩:∃y:UInt8,y=S[0]'(by rw[jh.out];omega):=⟨_,rfl⟩
      have Gk:∀h,s[0]'h=y:=fun h=>by rw[hy];exact qe.out 0 (by rw[jh.out];omega) h
      have QQ:(decide (1<(k:Int))=false∧¬1<k)∨(decide (1<(k:Int))=true∧1<k∧((y.toNat:Int)==48)=false):=by
       by_cases h1:1<k
       · refine .inr ⟨af9 (by omega),h1,?_⟩
         rw[show ((y.toNat:Int)==48)=decide (y=48) from oK y 48];refine af8 (fun e=>cK (.inr ⟨?_,by rw[←qR.out];exact h1⟩));have qf:=MU.out;have kQ:=qR.out;subst qf
         cases D with
         |nil=>simp at kQ;omega
         |cons x r=>simpa [←e] using hy.symm
       exact .inl ⟨af8 (by omega),h1⟩
      clear cK hy;rcases QQ with ⟨g2,g4⟩|⟨g2,g4,g3⟩
      all_goals
       have QR:(m:Int)+2147483648=((m+2147483648:Nat):Int):=by omega
       obtain⟨m2,xW⟩:∃m2,m2=m+2147483648:=⟨_,rfl⟩;rw[←xW] at QR;have Wx:m2<4294967296:=by omega
       have Hm2:=aa xW;clear xW
       by_cases hr:r=[]
       · have QS:((k:Int)+1==(N:Int))=true:=by have:=Aj.out;rw[hr] at this;simp at this;simp;omega
         have zd:Hid (a8 S=pN D 2147483648):=aa (by rw[HDd.out];exact nc S c (by rw[UE.out,hr]) Hh.out);clear hr
         by_cases ji:n<2147483648
         · have f3:decide ((2147483648:Int)≤(n:Int))=false:=af8 (by omega)
           have eg:Hid (a8 S=(0,m2)):=aa (by rw[Hm2.out];exact vg zd.out mW.out Ww.out ji (Hmn.out ji));clear ji;go_wp2_with (at_builtin;go_loud (refine tE (m:=m2) rfl (.tmp 103) (.tmp 105) rfl rfl rfl ?_);intro A3 c3 w3 sA ei);go_ret2;exact⟨⟨_,0,rfl,.inl ⟨by rw[eg.out],rfl,by rw[eg.out];exact sA.out⟩⟩,ei.out⟩
         have f3:decide ((2147483648:Int)≤(n:Int))=true:=af9 (by omega);have eg:Hid ((a8 S).1≠0):=aa (nf zd.out mW.out Ww.out ji);clear ji;go_wp2_with (at_builtin;go_loud (refine tE (m:=m2) rfl (.tmp 103) (.tmp 105) rfl rfl rfl ?_);intro A3 c3 w3 sA ei);go_ret2;exact⟨⟨_,2,rfl,.inr ⟨eg.out,by omega,.inl (by omega),_,_,_,rfl⟩⟩,ei.out⟩
       have lZ:0<r.length:=List.length_pos_iff.2 hr;have QS:((k:Int)+1==(N:Int))=false:=by have:=Aj.out;simp;omega
       have xU:k+1<S.length:=by rw[jh.out];have:=Aj.out;omega
       obtain⟨z,hz⟩:∃z,z=S[k+1]:=⟨_,rfl⟩;have Ih:∀h,s[k+1]'h=z:=fun h=>by rw[hz];exact qe.out (k+1) xU h
       have ace:((z.toNat:Int)!=47)=true:=by rw[hz];exact Hne.out (k+1) xU
       have KX:=z.toNat_lt;have eg:Hid ((a8 S).1≠0):=aa (kb S c r UE.out (.inr hr));have acf:k+1<N:=by have:=Aj.out;omega
       clear hr lZ hz xU;have pF:decide ((2147483648:Int)≤(n:Int))=false∨decide ((2147483648:Int)≤(n:Int))=true:=by cases decide ((2147483648:Int)≤(n:Int))<;>simp
       rcases pF with f3|f3
       all_goals
        go_wp2_with (at_builtin;go_loud (refine tE (m:=m2) rfl (.tmp 103) (.tmp 105) rfl rfl rfl ?_);intro A3 c3 w3 sA ei);go_ret2;exact⟨⟨_,3,rfl,.inr ⟨eg.out,by omega,.inl (by omega),_,_,_,rfl⟩⟩,ei.out⟩
    have om:=Kc;have eg:Hid ((a8 S).1≠0):=aa (kb S c r UE.out (.inl (by have e1:c≠39:=fun e=>h39 (by rw[e];rfl);have e2:c≠104:=fun e=>QT (by rw[e];rfl);have e3:c≠72:=fun e=>h72 (by rw[e];rfl);simp[cc,e1,e2,e3])));have q39:((c.toNat:Int)==39)=false:=by simp;omega
    have acg:((c.toNat:Int)==104)=false:=by simp;omega
    have q72:((c.toNat:Int)==72)=false:=by simp;omega
    clear h39 QT h72
    by_cases j8:c.toNat<48
    · skip
      have f1:decide ((48:Int)≤(c.toNat:Int))=false:=af8 (by omega);clear om Kc j8
      by_cases cK:D=[]∨(D.head?=some 48∧1<D.length)
      · have eg:Hid ((a8 S).1≠0):=aa (Hbs.out cK)
        by_cases ls:k=0
        · subst ls
          clear cK;go_wp2_with fail;go_ret2;exact⟨⟨_,3,rfl,.inr ⟨eg.out,by omega,.inl (by omega),_,_,_,rfl⟩⟩,af5 _ _⟩
        have j8:D.head?=some 48∧1<D.length:=by
         rcases cK with h|h
         · exact absurd (show k=0 by rw[qR.out,h];rfl) ls
         exact h
        have nq:1<k:=by rw[qR.out];exact j8.2
        have QP:0<N:=by omega
        have oP:S[0]'(by rw[jh.out];omega)=48:=by
         have h9:=j8.1;have qf:=MU.out;subst qf
         cases D with
         |nil=>simp at h9
         |cons x r=>simpa using h9
        obtain⟨y,hy⟩:∃y:UInt8,y=S[0]'(by rw[jh.out];omega):=⟨_,rfl⟩
        have Gk:∀h,s[0]'h=y:=fun h=>by rw[hy];exact qe.out 0 (by rw[jh.out];omega) h
        have g3:((y.toNat:Int)==48)=true:=by rw[hy,oP];rfl
        clear oP hy;have g1:((k:Int)==0)=false:=by simp;omega
        have g2:decide (1<(k:Int))=true:=af9 (by omega);clear cK j8;go_wp2_with fail;go_ret2;exact⟨⟨_,3,rfl,.inr ⟨eg.out,by omega,.inl (by omega),_,_,_,rfl⟩⟩,af5 _ _⟩
      have mW:=aa cK
      have ls:0<k:=by
       rcases Nat.eq_zero_or_pos k with h|h
       · exact absurd (.inl (List.length_eq_zero_iff.1 (by rw[←qR.out];exact h))) cK
       exact h
      have g1:((k:Int)==0)=false:=by simp;omega
      have QP:0<N:=by omega
      obtain⟨y,hy⟩:∃y:UInt8,y=S[0]'(by rw[jh.out];omega):=⟨_,rfl⟩
      have Gk:∀h,s[0]'h=y:=fun h=>by rw[hy];exact qe.out 0 (by rw[jh.out];omega) h
      have QQ:(decide (1<(k:Int))=false∧¬1<k)∨(decide (1<(k:Int))=true∧1<k∧((y.toNat:Int)==48)=false):=by
       by_cases h1:1<k
       · refine .inr ⟨af9 (by omega),h1,?_⟩
         rw[show ((y.toNat:Int)==48)=decide (y=48) from oK y 48];refine af8 (fun e=>cK (.inr ⟨?_,by rw[←qR.out];exact h1⟩));have qf:=MU.out;have kQ:=qR.out;subst qf
         cases D with
         |nil=>simp at kQ;omega
         |cons x r=>simpa [←e] using hy.symm
       exact .inl ⟨af8 (by omega),h1⟩
      clear cK hy;rcases QQ with ⟨g2,g4⟩|⟨g2,g4,g3⟩
      all_goals
       have pF:decide ((2147483648:Int)≤(n:Int))=false∨decide ((2147483648:Int)≤(n:Int))=true:=by cases decide ((2147483648:Int)≤(n:Int))<;>simp
       rcases pF with f3|f3
       all_goals
        go_wp2_with (at_builtin;go_loud (refine tE (m:=m) rfl (.tmp 103) (.tmp 105) rfl rfl rfl ?_);intro A3 c3 w3 sA ei);go_ret2;exact⟨⟨_,3,rfl,.inr ⟨eg.out,by omega,.inl (by omega),_,_,_,rfl⟩⟩,ei.out⟩
    skip;have f1:decide ((48:Int)≤(c.toNat:Int))=true:=af9 (by omega);have f2:decide ((c.toNat:Int)≤57)=false:=af8 (by omega);clear om Kc j8
    by_cases cK:D=[]∨(D.head?=some 48∧1<D.length)
    · have eg:Hid ((a8 S).1≠0):=aa (Hbs.out cK)
      by_cases ls:k=0
      · subst ls
        clear cK;go_wp2_with fail;go_ret2;exact⟨⟨_,3,rfl,.inr ⟨eg.out,by omega,.inl (by omega),_,_,_,rfl⟩⟩,af5 _ _⟩
      have j8:D.head?=some 48∧1<D.length:=by
       rcases cK with h|h
       · exact absurd (show k=0 by rw[qR.out,h];rfl) ls
       exact h
      have nq:1<k:=by rw[qR.out];exact j8.2
      have QP:0<N:=by omega
      have oP:S[0]'(by rw[jh.out];omega)=48:=by
       have h9:=j8.1;have qf:=MU.out;subst qf
       cases D with
       |nil=>simp at h9
       |cons x r=>simpa using h9
      obtain⟨y,hy⟩:∃y:UInt8,y=S[0]'(by rw[jh.out];omega):=⟨_,rfl⟩
      have Gk:∀h,s[0]'h=y:=fun h=>by rw[hy];exact qe.out 0 (by rw[jh.out];omega) h
      have g3:((y.toNat:Int)==48)=true:=by rw[hy,oP];rfl
      clear oP hy;have g1:((k:Int)==0)=false:=by simp;omega
      have g2:decide (1<(k:Int))=true:=af9 (by omega);clear cK j8;go_wp2_with fail;go_ret2;exact⟨⟨_,3,rfl,.inr ⟨eg.out,by omega,.inl (by omega),_,_,_,rfl⟩⟩,af5 _ _⟩
    have mW:=aa cK
    have ls:0<k:=by
     rcases Nat.eq_zero_or_pos k with h|h
     · exact absurd (.inl (List.length_eq_zero_iff.1 (by rw[←qR.out];exact h))) cK
     exact h
    have g1:((k:Int)==0)=false:=by simp;omega
    have QP:0<N:=by omega
    obtain⟨y,hy⟩:∃y:UInt8,y=S[0]'(by rw[jh.out];omega):=⟨_,rfl⟩
    have Gk:∀h,s[0]'h=y:=fun h=>by rw[hy];exact qe.out 0 (by rw[jh.out];omega) h
    have QQ:(decide (1<(k:Int))=false∧¬1<k)∨(decide (1<(k:Int))=true∧1<k∧((y.toNat:Int)==48)=false):=by
     by_cases h1:1<k
     · refine .inr ⟨af9 (by omega),h1,?_⟩
       rw[show ((y.toNat:Int)==48)=decide (y=48) from oK y 48];refine af8 (fun e=>cK (.inr ⟨?_,by rw[←qR.out];exact h1⟩));have qf:=MU.out;have kQ:=qR.out;subst qf
       cases D with
       |nil=>simp at kQ;omega
       |cons x r=>simpa [←e] using hy.symm
     exact .inl ⟨af8 (by omega),h1⟩
    clear cK hy;rcases QQ with ⟨g2,g4⟩|⟨g2,g4,g3⟩
    all_goals
     have pF:decide ((2147483648:Int)≤(n:Int))=false∨decide ((2147483648:Int)≤(n:Int))=true:=by cases decide ((2147483648:Int)≤(n:Int))<;>simp
     rcases pF with f3|f3
     all_goals
      go_wp2_with (at_builtin;go_loud (refine tE (m:=m) rfl (.tmp 103) (.tmp 105) rfl rfl rfl ?_);intro A3 c3 w3 sA ei);go_ret2;exact⟨⟨_,3,rfl,.inr ⟨eg.out,by omega,.inl (by omega),_,_,_,rfl⟩⟩,ei.out⟩
end Go.Proofs.YtcjioogololnoaaGreatDoor
