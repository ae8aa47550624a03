/- Of any text: the program's descriptors and the reference's are read and written alike (DescParses). No condition. -/
import Derived.Test.YtcjioogololnoaaGreatDoorU1
import Derived.Test.YtcjioogololnoaaGreatDoorU23
import Derived.Test.YtcjioogololnoaaGreatDoorU20
set_option maxRecDepth 1000000
set_option maxHeartbeats 16000000
set_option linter.unusedVariables false
set_option linter.unusedSimpArgs false
namespace Go.Proofs.YtcjioogololnoaaGreatDoor
open Go
theorem Gm (u:Nat):Lib.decDigits u≠[]:=by
 rw[Lib.decDigits];split<;>simp
theorem PX {u:Nat} (h:u<10):(Lib.decDigits u).length=1:=by
 rw[Lib.decDigits,dif_pos h];rfl
theorem PY (u:Nat):0<u→∀c,(Lib.decDigits u).head?=some c→c≠48:=by
 induction u using Nat.strongRecOn with
 |_ u ih=>
  intro h0 c hc;rw[Lib.decDigits] at hc;split at hc
  · next I5=>
    simp only[List.head?_cons,Option.some.injEq] at hc;subst hc;intro e;have:=congrArg UInt8.toNat e;rw[agp,show (48:UInt8).toNat=48 from rfl] at this;omega
  next I5=>
  rw[List.head?_append] at hc
  cases hd:(Lib.decDigits (u/10)).head? with
  |none=>exact absurd (List.head?_eq_none_iff.1 hd) (Gm _)
  |some x=>
   rw[hd] at hc;simp only[Option.some_or,Option.some.injEq] at hc;subst hc;exact ih _ (by omega) (by omega) x hd
theorem T8 (u:Nat):u<2147483648→jS (Lib.decDigits u)=u:=by
 induction u using Nat.strongRecOn with
 |_ u ih=>
  intro hu;rw[Lib.decDigits];split
  · next I5=>
    have e:jS [UInt8.ofNat (48+u)]=min (0*10+((UInt8.ofNat (48+u)).toNat-48)) 2147483648:=rfl;rw[e,agp];omega
  next I5=>
  rw[l6,ih _ (by omega) (by omega),agp];omega
theorem Gn (u:Nat):(Lib.decDigits u).all ek=true:=List.all_eq_true.2 fun c hc=>by
 have:=mn u c hc;simp only[ek,agz,agy];exact this
theorem um (u:Nat) (hu:u<2147483648):bH (Lib.decDigits u)=(0,u):=by
 have h1:¬(Lib.decDigits u=[]∨((Lib.decDigits u).head?=some 48∧1<(Lib.decDigits u).length)):=by
  rintro(h|⟨h,hl⟩)
  · exact Gm u h
  rcases Nat.lt_or_ge u 10 with I5|I5
  · rw[PX I5] at hl;omega
  exact PY u (by omega) 48 h rfl
 rw[bH,if_neg h1,if_pos (Gn u),T8 u hu,if_pos hu]
def jb (n:Nat):List UInt8:=Lib.decDigits (n%2147483648)++(if 2147483648≤n then [39] else [])
theorem Bu:∀c:UInt8,48≤c.toNat∧c.toNat≤57→cc c=false:=by
 intro c h;have:∀n:Fin 256,48≤n.val→n.val≤57→cc (UInt8.ofNat n.val)=false:=by decide+kernel
 simpa using this ⟨c.toNat,c.toNat_lt⟩ h.1 h.2
theorem DW (n:Nat) (h:n<4294967296):a8 (jb n)=(0,n):=by
 unfold jb;split
 · next hn=>
   have e1:(Lib.decDigits (n%2147483648)++[39]).getLastD 0=(39:UInt8):=by simp
   have e2:(Lib.decDigits (n%2147483648)++[(39:UInt8)]).dropLast=Lib.decDigits (n%2147483648):=by simp
   rw[a8,if_pos ⟨by simp,by rw[e1];decide⟩,e2,um _ (by omega),if_pos rfl];simp only[];rw[show n%2147483648+2147483648=n by omega]
 next hn=>
 rw[List.append_nil,show n%2147483648=n by omega]
 have hl:cc ((Lib.decDigits n).getLastD 0)=false:=by
  refine Bu _ (mn n _ ?_);rw[List.getLastD_eq_getLast?,List.getLast?_eq_some_getLast (Gm n)];exact List.getLast_mem _
 rw[a8,if_neg (by rw[hl];simp)];exact um n (by omega)
theorem qb:∀ns:List Nat,(∀n∈ns,n<4294967296)→bf (ns.map jb)=some ns
 |[],_=>rfl
 |n::ns,h=>by
  rw[List.map_cons,bf,DW n (h n (by simp)),if_pos rfl,qb ns (fun m hm=>h m (by simp[hm]))];rfl
theorem xx (n:Nat):∀x∈jb n,x≠47∧x≠44∧x≠42:=by
 intro x hx;rw[jb,List.mem_append] at hx;rcases hx with hx|hx
 · have:=mn _ x hx
   refine⟨?_,?_,?_⟩<;>(intro e;subst e;revert this;decide)
 split at hx
 · rw[agE] at hx
   subst hx;decide
 cases hx
theorem qJ:∀ns:List Nat,cQ ns=Lib.joinTail [47] (ns.map jb)
 |[]=>rfl
 |n::ns=>by
  rw[cQ,qJ ns,List.map_cons,Lib.joinTail,Lib.joinTail,List.map_cons,List.flatten_cons,jb];simp
theorem nn (c:List UInt8) (a b:List (List UInt8)):Lib.joinTail c (a++b)=Lib.joinTail c a++Lib.joinTail c b:=by simp[Lib.joinTail]
theorem yx (c:UInt8):∀l:List (List UInt8),l≠[]→Lib.joinTail [c] l=c::Lib.join l [c]
 |[],h=>absurd rfl h
 |x::l,_=>by rw[Lib.join_cons,Lib.joinTail,Lib.joinTail,List.map_cons,List.flatten_cons];rfl
def fX (k:DKey):List (List UInt8):=if k.hard then [[42,39]] else if k.ranged then [[42]] else []
structure PZ (k:DKey):Prop where
 plain:k.plain=[]
 top:HNorm k.top
 num:k.steps.length≤20
 small:∀n∈k.steps,n<4294967296
 mark:k.hard=true→k.ranged=true
 may:((k.hard||k.steps.any (fun n=>decide (2147483648≤n)))&&!k.top.priv)=false
def abQ (k:DKey):Prop:=∃b,iE b=true∧b.length=33∧k=⟨b,aP,[],false,false⟩
def KNorm (k:DKey):Prop:=abQ k∨PZ k
theorem KNorm.fit {k:DKey} (h:KNorm k):k.Fit:=by
 rcases h with ⟨b,_,hl,rfl⟩|h
 · exact⟨cI,by show b.length≤33;omega,by simp,fun n hn=>by cases hn⟩
 exact⟨h.top.ok,by rw[h.plain];simp,h.num,h.small⟩
theorem DX {l:List UInt8} {r h:Bool} (hl:eH l=some (r,h)):h=true→r=true:=by
 unfold eH at hl;split at hl
 · split at hl
   · injection hl with hl;injection hl with h1 h2;subst h1;exact fun _=>rfl
   split at hl
   · injection hl with hl;injection hl with h1 h2;subst h1;exact fun _=>rfl
   cases hl
 injection hl with hl;injection hl with h1 h2;subst h2;intro h;cases h
theorem DY {priv:Bool} {ps:List (List UInt8)} {t:List Nat×Bool×Bool} (ht:bS priv ps=some t):(t.2.2=true→t.2.1=true)∧((t.2.2||t.1.any (fun n=>decide (2147483648≤n)))&&!priv)=false:=by
 unfold bS at ht
 cases hl:eH (ps.getLastD []) with
 |none=>rw[hl] at ht;cases ht
 |some v=>
  obtain⟨r,h⟩:=v;rw[hl] at ht;simp only[] at ht;generalize (if r=true then ps.dropLast else ps)=qs at ht;split at ht
  · cases ht
  cases hs:bf qs with
  |none=>rw[hs] at ht;cases ht
  |some ns=>
   rw[hs] at ht;simp only[] at ht;split at ht
   · cases ht
   next ad1=>
   injection ht with ht;subst ht;exact⟨DX hl,by simpa using ad1⟩
theorem xy {s:List UInt8} {k:DKey} (h:ij s=some k):PZ k:=by
 have hf:=tq h;unfold ij at h;simp only[] at h;split at h
 · next h0=>
   have hn:=DU h0;split at h
   · cases ht:bS (cM (Lib.cut s [47]).1).2.priv (aK 47 (Lib.cut s [47]).2.1) with
     |none=>rw[ht] at h;cases h
     |some t=>
      rw[ht] at h;simp only[Option.map_some,Option.some.injEq] at h;subst h;have:=DY ht;exact⟨rfl,hn,hf.steps,hf.small,this.1,this.2⟩
   simp only[Option.some.injEq] at h;subst h;exact⟨rfl,hn,by simp,(fun n hn=>by cases hn),(fun h=>by cases h),rfl⟩
 cases h
theorem qK {s:List UInt8} {k:DKey} (h:aR s=some k):KNorm k:=by
 unfold aR at h;split at h
 · next KJ=>
   split at h
   · next b hb=>
     split at h
     · next hc=>
       simp only[agz,agy] at hc;simp only[Option.some.injEq] at h;subst h;have:=iH _ _ hb;exact .inl ⟨b,hc.1,by omega,rfl⟩
     cases h
   exact .inr (xy h)
 exact .inr (xy h)
theorem P1 {b:List UInt8} (h:iE b=true):b≠[]:=by
 rintro rfl
 cases h
theorem Bv:∀c∈aB,c≠47∧c≠44:=by decide+kernel
theorem xz (top:HKey):∀c∈eO top,c≠47∧c≠44:=fun c hc=>Bv c ((DG (checked (fV top))).2 c hc)
theorem xA (k:DKey):Lib.joinTail [47] (fX k)=(if k.hard then [47,42,39] else if k.ranged then [47,42] else []):=by
 unfold fX;split
 · rfl
 split
 · rfl
 rfl
theorem DZ (k:DKey):∀p∈fX k,∀x∈p,x≠47∧x≠44:=by
 intro p hp x hx;unfold fX at hp;split at hp
 · rw[agE] at hp;subst hp;revert x hx;decide
 split at hp
 · rw[agE] at hp;subst hp;revert x hx;decide
 cases hp
theorem Lj {k:DKey} (h:PZ k) (dt:k.steps.map jb++fX k≠[]):bS k.top.priv (k.steps.map jb++fX k)=some (k.steps,k.ranged,k.hard):=by
 have cW:=qb k.steps h.small
 have hl:eH ((k.steps.map jb++fX k).getLastD [])=some (k.ranged,k.hard):=by
  cases hh:k.hard with
  |true=>
   have hr:=h.mark hh;have:fX k=[[42,39]]:=by simp[fX,hh]
   rw[this,hr];simp only[List.getLastD_eq_getLast?,List.getLast?_append,List.getLast?_singleton,Option.some_or,Option.getD_some];decide
  |false=>
   cases hr:k.ranged with
   |true=>
    have:fX k=[[42]]:=by simp[fX,hh,hr]
    rw[this];simp only[List.getLastD_eq_getLast?,List.getLast?_append,List.getLast?_singleton,Option.some_or,Option.getD_some];decide
   |false=>
    have hm:fX k=[]:=by simp[fX,hh,hr]
    rw[hm,List.append_nil] at dt⊢
    have pH:(k.steps.map jb).getLastD []∈k.steps.map jb:=by
     rw[List.getLastD_eq_getLast?,List.getLast?_eq_some_getLast dt];exact List.getLast_mem _
    obtain⟨n,_,hn⟩:=List.mem_map.1 pH;rw[←hn,eH,if_neg ?_];intro e
    have hx:(42:UInt8)∈jb n:=by
     cases hs:jb n with
     |nil=>rw[hs] at e;cases e
     |cons a l=>
      rw[hs] at e;simp only[List.head?_cons,Option.some.injEq] at e;rw[e];simp
    exact(xx n 42 hx).2.2 rfl
 have pG:(if k.ranged=true then (k.steps.map jb++fX k).dropLast else k.steps.map jb++fX k)=k.steps.map jb:=by
  cases hr:k.ranged with
  |true=>
   have hm:∃x,fX k=[x]:=by
    unfold fX;split
    · exact⟨_,rfl⟩
    exact⟨_,rfl⟩
   obtain⟨x,hx⟩:=hm;rw[hx];simp
  |false=>
   have hh:k.hard=false:=by
    cases hh:k.hard with
    |false=>rfl
    |true=>rw[h.mark hh] at hr;cases hr
   have hm:fX k=[]:=by simp[fX,hh,hr]
   rw[hm];simp
 rw[bS,hl];simp only[];rw[pG,if_neg (by rw[List.length_map];have:=h.num;omega),cW];simp only[];rw[if_neg (by rw[h.may];simp)]
theorem mZ {k:DKey} (h:KNorm k):aR (di k)=some k:=by
 rcases h with ⟨b,hp,hl,rfl⟩|h
 · have dt:=P1 hp
   have hk:di ⟨b,aP,[],false,false⟩=eF b:=by rw[di,if_pos dt]
   rw[hk,aR,if_pos (by rw[jL];omega),xv];simp[hp]
 have aeO:=Gl h.top
 have hk:di k=eO k.top++Lib.joinTail [47] (k.steps.map jb++fX k):=by
  rw[di,if_neg (by rw[h.plain];simp),qJ,nn,xA]
 rw[hk,aR,if_neg (by rw[agc];omega)]
 by_cases dt:k.steps.map jb++fX k=[]
 · obtain⟨h1,h2⟩:=List.append_eq_nil_iff.1 dt
   have hs:k.steps=[]:=by simpa using h1
   have hh:k.hard=false:=by
    cases hh:k.hard with
    |false=>rfl
    |true=>simp[fX,hh] at h2
   have hr:k.ranged=false:=by
    cases hr:k.ranged with
    |false=>rfl
    |true=>simp[fX,hh,hr] at h2
   rw[dt,show Lib.joinTail [47] []=[] from rfl,List.append_nil];unfold ij;simp only[];rw[DE _ 47 (fun x hx=>(xz k.top x hx).1)];simp only[];rw[uk h.top,if_pos rfl];obtain⟨pl,tp,st,rg,hd⟩:=k;simp only at hs hh hr;have:=h.plain;simp only at this;subst hs hh hr this;rfl
 rw[yx 47 _ dt];unfold ij;simp only[];rw[Pt _ _ 47 (fun x hx=>(xz k.top x hx).1)];simp only[];rw[uk h.top,if_pos rfl];simp only[if_true]
 rw[iG 47 _ dt (fun p hp x hx=>by
  rcases List.mem_append.1 hp with hp|hp
  · obtain⟨n,_,rfl⟩:=List.mem_map.1 hp
    exact(xx n x hx).1
  exact(DZ k p hp x hx).1),Lj h dt]
 obtain⟨pl,tp,st,rg,hd⟩:=k;have:=h.plain;simp only at this;subst this;rfl
theorem T9 (k:DKey):∀x∈di k,x≠44:=by
 intro x hx;unfold di at hx;split at hx
 · have:∀b:List UInt8,∀x∈eF b,x≠44:=by
    intro b
    induction b with
    |nil=>intro x hx;cases hx
    |cons c b ih=>
     have hd:∀n:Fin 256,fG (n.val/16)≠44∧fG (n.val%16)≠44:=by decide+kernel
     have hc:=hd ⟨c.toNat,c.toNat_lt⟩;intro x hx;rw[eF] at hx;rcases List.mem_cons.1 hx with rfl|hx
     · exact hc.1
     rcases List.mem_cons.1 hx with rfl|hx
     · exact hc.2
     exact ih x hx
   exact this _ x hx
 rw[←xA,qJ,←nn] at hx;rcases List.mem_append.1 hx with hx|hx
 · exact(xz _ x hx).2
 rw[Lib.joinTail] at hx;obtain⟨p,hp,hxp⟩:=List.mem_flatten.1 hx;obtain⟨q,hq,rfl⟩:=List.mem_map.1 hp;rcases List.mem_append.1 hxp with h1|h1
 · rw[agE] at h1;subst h1;decide
 rcases List.mem_append.1 hq with hq|hq
 · obtain⟨n,_,rfl⟩:=List.mem_map.1 hq
   exact(xx n x h1).2.1
 exact(DZ k q hq x h1).2
theorem ed (w s:List UInt8):au (w++40::(s++[41])) w=some s:=by
 have h1:Lib.hasPrefix (w++40::(s++[41])) (w++[40])=true:=by
  rw[Lib.hasPrefix,List.isPrefixOf_iff_prefix];exact⟨s++[41],by simp⟩
 have h2:(w++40::(s++[41])).drop (w.length+1)=s++[41]:=by
  rw[show w++40::(s++[41])=(w++[40])++(s++[41]) by simp,List.drop_left' (by simp)]
 have h3:Lib.hasSuffix (s++[41]) [41]=true:=by
  rw[Lib.hasSuffix,List.isSuffixOf_iff_suffix];exact⟨s,rfl⟩
 rw[au,if_pos h1,h2,if_pos h3];simp
theorem dA {s w:List UInt8} (h:Lib.hasPrefix s (w++[40])=false):au s w=none:=by
 rw[au,if_neg (by rw[h];simp)]
theorem Gp:∀m:Fin 17,1≤m.val→Lib.atoiAll (if m.val<10 then [UInt8.ofNat (48+m.val)] else [49,UInt8.ofNat (38+m.val)])=.ok (m.val:Int):=by decide+kernel
theorem qL (m:Nat) (h:m≤16):Lib.itoa (m:Int)=if m<10 then [UInt8.ofNat (48+m)] else [49,UInt8.ofNat (38+m)]:=by
 rw[Lib.itoa,if_neg (by omega),Int.toNat_natCast,Lib.decDigits];split
 · rfl
 next I5=>
 rw[Lib.decDigits,dif_pos (by omega),show m/10=1 by omega,show 48+m%10=38+m by omega];rfl
theorem P2 (m:Nat) (h1:1≤m) (h:m≤16):zi (Lib.itoa (m:Int))=some m:=by
 have ha:=Gp ⟨m,by omega⟩ h1;simp only[] at ha;rw[←qL m h] at ha;rw[zi,ha];simp only[];rw[if_pos ⟨by first|exact rfl|trivial,by omega⟩,Int.toNat_natCast]
theorem uo:∀ks:List DKey,(∀k∈ks,KNorm k)→bJ (ks.map di)=some ks
 |[],_=>rfl
 |k::ks,h=>by
  rw[List.map_cons,bJ,mZ (h k (by simp))];simp only[];rw[uo ks (fun m hm=>h m (by simp[hm]))];rfl
theorem uq:∀(l:List (List UInt8)) (ks:List DKey),bJ l=some ks→∀k∈ks,KNorm k
 |[],ks,h=>by
  obtain rfl:[]=ks:=by simpa [bJ] using h
  exact fun n hn=>by cases hn
 |p::ps,ks,h=>by
  rw[bJ] at h
  cases hk:aR p with
  |none=>rw[hk] at h;cases h
  |some k=>
   rw[hk] at h;simp only[] at h
   cases hr:bJ ps with
   |none=>rw[hr] at h;cases h
   |some v=>
    rw[hr] at h;obtain rfl:k::v=ks:=by simpa using h
    intro n hn;rcases List.mem_cons.1 hn with rfl|hn
    · exact qK hk
    exact uq ps v hr n hn
inductive iM:DDesc→Prop
 |pkh (k:DKey) (h:KNorm k):iM ⟨[eD],0,false,[k]⟩
 |wpkh (k:DKey) (h:KNorm k) (ws:List (List UInt8)) (hw:ws=[]∨ws=[ik]):iM ⟨ws++[ca],0,false,[k]⟩
 |many (ws:List (List UInt8)) (hw:ws=[]∨ws=[ik]∨ws=[cf]∨ws=[ik,cf]) (m:Nat) (s:Bool) (ks:List DKey) (h:∀k∈ks,KNorm k) (h1:1≤m) (h2:m≤ks.length) (h3:ks.length≤16):iM ⟨ws,m,s,ks⟩
theorem Ua {p:List UInt8} {n:Nat} (h:zi p=some n):1≤n:=by
 unfold zi at h;split at h
 · split at h
   · next v _ hc=>
     injection h with h;have:=hc.2;omega
   cases h
 cases h
theorem xB {ws:List (List UInt8)} (hw:ws=[]∨ws=[ik]∨ws=[cf]∨ws=[ik,cf]) {s:Bool} {t:List UInt8} {d:DDesc} (h:iI ws s t=some d):iM d:=by
 unfold iI at h;split at h
 · cases h
 next p ps _=>
 split at h
 · next h16=>
   split at h
   · cases h
   next n hm=>
   split at h
   · next hn=>
     cases hk:bJ ps with
     |none=>rw[hk] at h;cases h
     |some ks=>
      rw[hk] at h;simp only[Option.map_some,Option.some.injEq] at h;subst h;have hf:=qE _ _ hk;exact .many ws hw n s ks (uq _ _ hk) (Ua hm) (by omega) (by omega)
   cases h
 cases h
theorem lh {ws:List (List UInt8)} {W:Bool} (hw:(W=false∧(ws=[]∨ws=[ik]))∨(W=true∧(ws=[cf]∨ws=[ik,cf]))) {t:List UInt8} {d:DDesc} (h:b5 ws W t=some d):iM d:=by
 have x6:ws=[]∨ws=[ik]∨ws=[cf]∨ws=[ik,cf]:=by
  rcases hw with ⟨_,h|h⟩|⟨_,h|h⟩<;>simp[h]
 unfold b5 at h;split at h
 · split at h
   · next hc=>
     simp only[agz,Bool.not_eq_true',List.isEmpty_iff] at hc;obtain⟨_,rfl⟩:=hc
     cases hk:aR _ with
     |none=>rw[hk] at h;cases h
     |some k=>
      rw[hk] at h;simp only[Option.map_some,Option.some.injEq,agJ] at h;subst h;exact .pkh k (qK hk)
   cases h
 split at h
 · split at h
   · next hc=>
     simp only[Bool.not_eq_true'] at hc
     cases hk:aR _ with
     |none=>rw[hk] at h;cases h
     |some k=>
      rw[hk] at h;simp only[Option.map_some,Option.some.injEq] at h;subst h;refine .wpkh k (qK hk) ws ?_;rcases hw with ⟨_,h⟩|⟨h,_⟩
      · exact h
      rw[h] at hc;cases hc
   cases h
 split at h
 · exact xB x6 h
 split at h
 · exact xB x6 h
 cases h
theorem Gq {s:List UInt8} {d:DDesc} (h:aQ s=some d):iM d:=by
 unfold aQ at h;split at h
 · split at h
   · exact lh (.inr ⟨rfl,.inr rfl⟩) h
   exact lh (.inl ⟨rfl,.inr rfl⟩) h
 split at h
 · exact lh (.inr ⟨rfl,.inl rfl⟩) h
 exact lh (.inl ⟨rfl,.inl rfl⟩) h
theorem iM.fit {d:DDesc} (h:iM d):d.Fit:=by
 cases h with
 |pkh k h=>exact⟨by simp,by simp,by simp,by simp,fun k' M4=>by rw[agE] at M4;subst M4;exact h.fit⟩
 |wpkh k h ws hw=>rcases hw with rfl|rfl<;>exact⟨by simp,by simp,by simp,by simp,fun k' M4=>by rw[agE] at M4;subst M4;exact h.fit⟩
 |many ws hw m s ks h h1 h2 h3=>rcases hw with rfl|rfl|rfl|rfl<;>exact⟨by simp,by simp,by show m≤16;omega,h3,fun k hk=>(h k hk).fit⟩
theorem Lk (ws:List (List UInt8)) (m:Nat) (s:Bool) (ks:List DKey) (h:∀k∈ks,KNorm k) (h1:1≤m) (h2:m≤ks.length) (h3:ks.length≤16):
 iI ws s (Lib.itoa (m:Int)++44::Lib.join (ks.map di) [44])=some ⟨ws,m,s,ks⟩:=by
 have hit:∀x∈Lib.itoa (m:Int),x≠44:=by
  intro x hx;rw[Lib.itoa,if_neg (by omega)] at hx;have:=mn _ x hx;intro e;subst e;revert this;decide
 have hp:aK 44 (Lib.itoa (m:Int)++44::Lib.join (ks.map di) [44])=Lib.itoa (m:Int)::ks.map di:=by
  rw[iz 44 _ _ hit,iG 44 (ks.map di) (by intro e;have:ks=[]:=(by simpa using e);rw[this] at h2;exact absurd (agx h1 h2) (by decide)) (fun p hp x hx=>by
   obtain⟨k,_,rfl⟩:=List.mem_map.1 hp;exact T9 k x hx)]
 rw[iI,hp];simp only[];rw[if_pos ⟨by rw[List.length_map];omega,by rw[List.length_map];omega⟩,P2 m h1 (by omega)];simp only[];rw[if_pos (by rw[List.length_map];exact h2),uo ks h];rfl
theorem Gr (ws:List (List UInt8)) (W:Bool) (m:Nat) (s:Bool) (ks:List DKey) (h:∀k∈ks,KNorm k) (h1:1≤m) (h2:m≤ks.length) (h3:ks.length≤16):
 b5 ws W (dQ ⟨ws,m,s,ks⟩)=some ⟨ws,m,s,ks⟩:=by
 have e:dQ ⟨ws,m,s,ks⟩=jn s++40::((Lib.itoa (m:Int)++44::Lib.join (ks.map di) [44])++[41]):=by
  unfold dQ;simp only[];rw[if_pos (by omega)];simp
 rw[e];obtain⟨X,hX⟩:∃X,X=Lib.itoa (m:Int)++44::Lib.join (ks.map di) [44]:=⟨_,rfl⟩;have hm:=Lk ws m s ks h h1 h2 h3;rw[←hX] at hm⊢
 cases s with
 |true=>
  have n1:au (jn true++40::(X++[41])) eD=none:=dA rfl;have n2:au (jn true++40::(X++[41])) ca=none:=dA rfl;have n3:au (jn true++40::(X++[41])) ec=some X:=ed ec X;rw[b5,n1];simp only[];rw[n2];simp only[];rw[n3];exact hm
 |false=>
  have n1:au (jn false++40::(X++[41])) eD=none:=dA rfl;have n2:au (jn false++40::(X++[41])) ca=none:=dA rfl;have n3:au (jn false++40::(X++[41])) ec=none:=dA rfl;have n4:au (jn false++40::(X++[41])) fW=some X:=ed fW X;rw[b5,n1];simp only[];rw[n2];simp only[];rw[n3];simp only[];rw[n4];exact hm
theorem Bx (ws:List (List UInt8)) (m:Nat) (s:Bool) (ks:List DKey) (h1:1≤m):au (dQ ⟨ws,m,s,ks⟩) ik=none∧au (dQ ⟨ws,m,s,ks⟩) cf=none:=by
 have e:∃X,dQ ⟨ws,m,s,ks⟩=jn s++40::X:=by
  unfold dQ;simp only[];rw[if_pos (by omega)];exact⟨_,rfl⟩
 obtain⟨X,hX⟩:=e;rw[hX]
 cases s<;>exact⟨dA rfl,dA rfl⟩
theorem Gs {d:DDesc} (h:iM d):aQ (fh d)=some d:=by
 cases h with
 |pkh k h=>
  have e:fh ⟨[eD],0,false,[k]⟩=eD++40::(di k++[41]):=by simp[fh,mg,dQ,Lib.join_one]
  rw[e];obtain⟨X,hX⟩:=ab (di k);rw[←hX];have n1:au (eD++40::(X++[41])) ik=none:=dA rfl;have n2:au (eD++40::(X++[41])) cf=none:=dA rfl;rw[aQ,n1];simp only[];rw[n2];simp only[];rw[b5,ed eD X];simp only[];simp only[Bool.not_false,List.isEmpty_nil,Bool.and_true,Bool.and_self,if_true];rw[hX,mZ h];rfl
 |wpkh k h ws hw=>
  obtain⟨X,hX⟩:=ab (di k);rcases hw with rfl|rfl
  · have e:fh ⟨[]++[ca],0,false,[k]⟩=ca++40::(di k++[41]):=by simp[fh,mg,dQ,Lib.join_one]
    rw[e,←hX];have n1:au (ca++40::(X++[41])) ik=none:=dA rfl;have n2:au (ca++40::(X++[41])) cf=none:=dA rfl;have n3:au (ca++40::(X++[41])) eD=none:=dA rfl;rw[aQ,n1];simp only[];rw[n2];simp only[];rw[b5,n3];simp only[];rw[ed ca X];simp only[];simp only[Bool.not_false,List.isEmpty_nil,Bool.and_true,Bool.and_self,if_true];rw[hX,mZ h];rfl
  have e:fh ⟨[ik]++[ca],0,false,[k]⟩=ik++40::((ca++40::(di k++[41]))++[41]):=by simp[fh,mg,dQ,Lib.join_one]
  rw[e,←hX];have n2:au (ca++40::(X++[41])) cf=none:=dA rfl;have n3:au (ca++40::(X++[41])) eD=none:=dA rfl;rw[aQ,ed ik];simp only[];rw[n2];simp only[];rw[b5,n3];simp only[];rw[ed ca X];simp only[];simp only[Bool.not_false,List.isEmpty_nil,Bool.and_true,Bool.and_self,if_true];rw[hX,mZ h];rfl
 |many ws hw m s ks h h1 h2 h3=>
  have hi:=fun W=>Gr ws W m s ks h h1 h2 h3
  obtain⟨f1,f2⟩:=Bx ws m s ks h1;obtain⟨X,hX⟩:∃X,X=dQ ⟨ws,m,s,ks⟩:=⟨_,rfl⟩;rw[←hX] at hi f1 f2;rw[fh,←hX];rcases hw with rfl|rfl|rfl|rfl
  · show aQ X=_
    rw[aQ,f1];simp only[];rw[f2];exact hi false
  · show aQ (ik++40::(X++[41]))=_
    rw[aQ,ed ik X];simp only[];rw[f2];exact hi false
  · show aQ (cf++40::(X++[41]))=_
    have n1:au (cf++40::(X++[41])) ik=none:=dA rfl;rw[aQ,n1];simp only[];rw[ed cf X];exact hi true
  show aQ (ik++40::((cf++40::(X++[41]))++[41]))=_;rw[aQ,ed ik];simp only[];rw[ed cf X];exact hi true
theorem D0 {s:List UInt8} {n:Nat} {d:DDesc} (h:bU s=(n,some d)):iM d:=by
 unfold bU at h;simp only[] at h;split at h
 · cases h
 split at h
 · split at h
   · cases h
   split at h
   · cases h
   next d' hd=>
   injection h with h1 h2;injection h2 with h2;subst h2;exact Gq hd
 cases h
theorem D1 {d:DDesc} (h:iM d) (hl:(iJ d).length≤4000):bU (iJ d)=(0,some d):=by
 have hf:=mr h.fit
 have hcut:Lib.cut (iJ d) [35]=(fh d,aE (fh d),true):=by
  rw[iJ];exact Pt _ _ 35 (fun x hx=>(oE (hf.2 x hx)).2)
 have dV:(fh d).all (fun x=>decide (x∈kU))=true:=List.all_eq_true.2 fun c hc=>af9 (oE (hf.2 c hc)).1
 rw[bU,if_neg (by omega),hcut];simp only[];rw[if_pos dV,if_neg (by rintro⟨_,h⟩;exact h rfl),Gs h]
end Go.Proofs.YtcjioogololnoaaGreatDoor
namespace Go.Proofs.YtcjioogololnoaaGreatDoor
open Go Go.RowKit Go.Shelf
def KR (W:World) (base lo:Nat) (kv:Value) (ks:List DKey):Prop:=
 ∃gb:List (DKey×Value×Value),gb.map (·.1)=ks∧(∀p∈gb,p.1.top.Ok∧KV W lo p.1 p.2.1 p.2.2∧qA kv.ownBlock p.2.1∧qA kv.ownBlock p.2.2)∧W.ownsRow base 71 75 kv gb.length (gb.flatMap fun p=>eS p.1 p.2.1 p.2.2)
theorem P3 {W W5:World} {base lo:Nat} {k:DKey} {pv sv:Value} (hk:k.top.Ok) (gF:KV W lo k pv sv) (YJ:KV W5 lo k pv sv) (hB:base≤W5.heap.size) (cs:Array Value) (bB:cs=(eS k pv sv).toArray)
 (aF:W.heap[W5.heap.size]?=some (.cells cs 71 (0,0))):KR W base lo (.slice (some ⟨W5.heap.size,0,none⟩) 1 1) [k]:=
 ⟨[(k,pv,sv)],rfl,fun p hp=>by rw[agE] at hp;subst hp;exact⟨hk,gF,YJ.off _ (af2 _)⟩,by simp[aT hk],.inr ⟨W5.heap.size,1,cs,rfl,hB,aF,af2 _,by simp[maxLen],by rw[bB];simp[aT hk],by
  rw[bB];simp only[List.flatMap_cons,List.flatMap_nil,List.append_nil,agk];rw[af7 (by simp[aT hk])]⟩⟩
theorem Zj (W:World) (base lo:Nat):KR W base lo aV []:=⟨[],rfl,fun p hp=>by simp at hp,W.ownsRow_nil base _ 75⟩
theorem KR.mono {W:World} {base nJ lo:Nat} {kv:Value} {ks:List DKey} (h:KR W base lo kv ks) (hb:nJ≤base):KR W nJ lo kv ks:=by
 obtain⟨gb,h1,h2,h3,h4⟩:=h;refine⟨gb,h1,h2,h3,?_⟩;rcases h4 with h4|⟨g,cap,cur,e,hg,r⟩
 · exact .inl h4
 exact .inr ⟨g,cap,cur,e,by omega,r⟩
theorem KR.below {W W':World} {base lo:Nat} {kv:Value} {ks:List DKey} (h:KR W base lo kv ks) (hb:Below W.heap.size W W'):KR W' base lo kv ks:=by
 obtain⟨gb,h1,h2,h3⟩:=h;refine⟨gb,h1,fun p hp=>⟨(h2 p hp).1,(h2 p hp).2.1.below hb,(h2 p hp).2.2⟩,h3.kept (row:=none) ⟨hb.os,hb.tape,hb.output,hb.size,fun k hk _=>hb.block k hk⟩ ?_⟩
 cases kv.ownBlock<;>simp
theorem KR.setCell {W:World} {base lo g:Nat} {kv:Value} {ks:List DKey} (h:KR W base lo kv ks) (hg:g<base) (hl:g<lo) (o:Nat) (u:Value):KR (W.setCell ⟨g,o,none⟩ u) base lo kv ks:=by
 obtain⟨gb,h1,h2,h3⟩:=h;refine⟨gb,h1,fun p hp=>⟨(h2 p hp).1,(h2 p hp).2.1.kept (by simp) (fun j hj _=>ago _ _ _ _ (show j≠g by omega)),(h2 p hp).2.2⟩,h3.1,?_⟩;rcases h3.2 with h4|⟨g',cap,cur,e,hg',hr,r⟩
 · exact .inl h4
 exact .inr ⟨g',cap,cur,e,hg',(ago _ _ _ _ (show g'≠g by omega)).trans hr,r⟩
theorem KR.setRow0 {W:World} {base lo g:Nat} {kv:Value} {ks:List DKey} (h:KR W base lo kv ks) (hg:g<base) (hl:g<lo) (cs:Array Value):KR (W.setRow g cs) base lo kv ks:=by
 obtain⟨gb,h1,h2,h3⟩:=h;refine⟨gb,h1,fun p hp=>⟨(h2 p hp).1,(h2 p hp).2.1.kept (by simp) (fun j hj _=>setRow_other W g j cs (by omega)),(h2 p hp).2.2⟩,h3.1,?_⟩;rcases h3.2 with h4|⟨g',cap,cur,e,hg',hr,r⟩
 · exact .inl h4
 exact .inr ⟨g',cap,cur,e,hg',(setRow_other W g g' cs (by omega)).trans hr,r⟩
theorem KR.mono2 {W:World} {base lo b:Nat} {kv:Value} {ks:List DKey} (h:KR W base lo kv ks) (hb:b≤base) (hl:b≤lo:=by omega):KR W b b kv ks:=by
 obtain⟨gb,h1,h2,h3⟩:=h.mono hb;exact⟨gb,h1,fun p hp=>⟨(h2 p hp).1,(h2 p hp).2.1.mono hl,(h2 p hp).2.2⟩,h3⟩
theorem KR.push {P:Program} {w:World} {base lo:Nat} {kv:Value} {ks:List DKey} {k:DKey} {pv sv:Value} (h:KR w base lo kv ks) (hk:k.top.Ok) (gF:KV w lo k pv sv) (jc:qA kv.ownBlock pv) (nB:qA kv.ownBlock sv)
 (t ty:TypeId) (i:TypeInfo) (z:Value) (bytes:Nat) (ht:P.underlying t=some (.slice 71)) (hi:P.info? 71=some i) (hz:i.zero=some z) (hs:i.size=75) (hy:i.bytes=bytes) (Ih:z.cells.size=75)
 (EH:bytes≤4096) (g:Nat) (aF:w.heap[g]?=some (.cells (eS k pv sv).toArray 71 (0,0))) (hn:ks.length≤1000) (eJ:base≤w.heap.size):
 ∃v' w',(Builtin.append_ #[t,t] ty #[kv,.slice (some ⟨g,0,none⟩) 1 1]).run P w=.ok v' w'∧KR w' base lo v' (ks++[k])∧w.grownBy w' kv.ownBlock∧(∃A n c,v'=.slice A n c):=by
 obtain⟨gb,h1,h2,h3⟩:=h;have hl:gb.length=ks.length:=by rw[←h1];simp
 have nC:(gb.length+1)*bytes≤140737488355328:=agx (Nat.mul_le_mul (show gb.length+1≤1001 by omega) EH) (by decide)
 obtain⟨v',w',hr,ho,hg,_,hv⟩:=run_append_own_at (P:=P) w base t ty 71 i z 75 bytes ht hi hz hs hy Ih (by decide) kv gb.length _ h3 ⟨g,0,none⟩ 1 1 (eS k pv sv) (by rw[aT hk]) (fun j u hu=>by
  rw[fM,Nat.zero_add,agb _ _ _ _ _ _ aF,agr,hu]) (fun u hu=>by
  have:=List.all_eq_true.1 (by have:=ir k pv sv gF.one.1 gF.one.2;rwa [List.all_toArray] at this) u hu;exact this) (by simp[maxLen];omega) nC eJ
 refine⟨v',w',hr,?_,hg,?_⟩
 · have O0:∀(k':DKey) (Tq Tr:Value),KV w lo k' Tq Tr→qA kv.ownBlock Tq∧qA kv.ownBlock Tr→qA v'.ownBlock Tq∧qA v'.ownBlock Tr:=fun k' Tq Tr h' BX=>by
    rcases hv with hv|hv
    · rw[hv];exact BX
    rw[hv];exact h'.off _ (af2 _)
   refine⟨gb++[(k,pv,sv)],by simp[h1],fun p hp=>?_,?_⟩
   · rw[List.mem_append,agE] at hp
     rcases hp with hp|rfl
     · exact⟨(h2 p hp).1,(h2 p hp).2.1.grown hg (h2 p hp).2.2.1 (h2 p hp).2.2.2,O0 _ _ _ (h2 p hp).2.1 (h2 p hp).2.2⟩
     exact⟨hk,gF.grown hg jc nB,O0 _ _ _ gF ⟨jc,nB⟩⟩
   simpa using ho
 rcases ho.2 with ⟨e,_⟩|⟨g',cap,cur,e,_⟩
 · exact⟨_,_,_,e⟩
 exact⟨_,_,_,e⟩
theorem Zk:(Tryz.prog.info? 71).any (fun i=>i.size==75&&decide (i.bytes≤4096)&&(i.zero.any fun z=>z.cells.size==75))=true:=by kernel_rfl
theorem Ll {o:Oper} {a:Act} {w:World} {K:Act→World→Prop} {Q:Exit→Act→World→Prop} (s x:Operand) (ho:o.op=.call { callee:=.builtin .append,args:=#[s,x],argTypes:=#[28,28] })
 {base lo:Nat} {kv:Value} {ks:List DKey} {k:DKey} {pv sv:Value} (h:KR w base lo kv ks) (hk:k.top.Ok) (gF:KV w lo k pv sv) (jc:qA kv.ownBlock pv) (nB:qA kv.ownBlock sv)
 (g:Nat) (aF:w.heap[g]?=some (.cells (eS k pv sv).toArray 71 (0,0))) (hn:ks.length≤1000) (eJ:base≤w.heap.size) (hs:a.eval s=kv) (hx:a.eval x=.slice (some ⟨g,0,none⟩) 1 1)
 (hK:∀A n c w',KR w' base lo (.slice A n c) (ks++[k])→w.grownBy w' kv.ownBlock→K (a.put o.dst (.slice A n c)) w'):o.wp Tryz.prog a w K Q:=by
 have hi:=Zk
 cases Pb:Tryz.prog.info? 71 with
 |none=>rw[Pb] at hi;cases hi
 |some i=>
  rw[Pb] at hi;simp only[Option.any_some,agz,beq_iff_eq,agy] at hi;obtain⟨⟨Tu,EH⟩,hz⟩:=hi
  cases YN:i.zero with
  |none=>rw[YN] at hz;cases hz
  |some z=>
   rw[YN] at hz;simp only[Option.any_some,beq_iff_eq] at hz;obtain⟨v',w',hr,h2,h3,A,n,c,rfl⟩:=h.push hk gF jc nB 28 o.type i z i.bytes Tryz.underlying28 Pb YN Tu rfl hz EH g aF hn eJ;unfold Oper.wp execOp;simp only[ho,resolve,invoke,builtin,Sem.run_bind,Sem.run_pure,Result.andThen_ok,List.map_toArray,List.map_cons,List.map_nil,hs,hx,hr];exact hK A n c w' h2 h3
theorem KR.form {W:World} {base lo:Nat} {kv:Value} {ks:List DKey} (h:KR W base lo kv ks):∃A c,kv=.slice A ks.length c∧ks.length≤c∧c≤maxLen:=by
 obtain⟨gb,h1,_,h2,h3⟩:=h;have hl:gb.length=ks.length:=by rw[←h1];simp
 rcases h3 with ⟨e,h0⟩|⟨g,cap,cur,e,_,_,hc,hm,_⟩
 · exact⟨none,0,by rw[e];congr 1;omega,by omega,by decide⟩
 exact⟨_,cap,by rw[e,hl],by omega,hm⟩
theorem KR.at_ {W:World} {base lo:Nat} {kv:Value} {ks:List DKey} (h:KR W base lo kv ks) (j:Nat) (hj:j<ks.length):∃g c pv sv,kv=.slice (some ⟨g,0,none⟩) ks.length c∧g<W.heap.size∧KV W lo ks[j] pv sv∧W.rangeAt g (j*75) (eS ks[j] pv sv):=by
 obtain⟨gb,h1,h2,h3,h4⟩:=h;have hl:gb.length=ks.length:=by rw[←h1];simp
 have Y0:j<gb.length:=by omega
 rcases h4 with ⟨_,h0⟩|⟨g,cap,cur,e,_,hg,hc,hm,dX,ht⟩
 · omega
 have hp:=h2 gb[j] (agl _)
 have hk:gb[j].1=ks[j]:=by
  have:=List.getElem_map (·.1) (l:=gb) (i:=j) (h:=by simpa using Y0);rw[←this];congr 1
 refine⟨g,cap,gb[j].2.1,gb[j].2.2,by rw[e,hl],(af3.1 hg).1,by rw[←hk];exact hp.2.1,fun i v hv=>?_⟩
 have hi:i<75:=by
  have Tu:=aT hp.1 gb[j].2.1 gb[j].2.2;rw[hk] at Tu;rw[←Tu];exact(agI.1 hv).1
 have hle:j*75+i<gb.length*75:=by
  have:(j+1)*75≤gb.length*75:=Nat.mul_le_mul_right 75 Y0;omega
 rw[agb _ _ _ _ _ _ hg,←Array.getElem?_toList,←List.getElem?_take_of_lt hle,ht,Bm _ 75 gb (fun p hp=>aT (h2 p hp).1 _ _) j Y0 i hi,hk];exact hv
def ur (d:DDesc):Nat:=if d.m=0 then (if eD∈d.wraps then 1 else 2) else (if d.sorted then 4 else 3)
def j1 (d:DDesc):List UInt8:=if d.m=0 then (if eD∈d.wraps then eD else ca) else jn d.sorted
def RN (d:DDesc):Bool:=decide (ik∈d.wraps)
def yz (d:DDesc):Bool:=decide (cf∈d.wraps)
def BZ (d:DDesc) (kv:Value):Array Value:=#[.bool (RN d),.bool (yz d),.int .i64 (ur d:Int),.int .i64 (d.m:Int),kv]
theorem zz (d:DDesc):(j1 d).length≤11:=by
 unfold j1;split
 · split<;>decide
 exact(pg _).1
theorem D2 (d:DDesc) (kv:Value) (w:World):
 Calls Tryz.prog 26 #[.agg (BZ d kv)] w fun e W'=>e=.returned (.string ⟨(j1 d).toArray⟩)∧Below w.heap.size w W':=by
 obtain⟨cs,bB⟩:=ab (BZ d kv);rw[←bB];obtain⟨k,hk⟩:=ab (ur d);have ez:cs[2]?=some (.int .i64 (k:Int)):=by rw[bB,hk];rfl
 have hb:∀o,Below w.heap.size w (w.alloc o):=fun o=>(af5 _ w).alloc (af2 _) _
 have hkw:(k=1∧j1 d=eD)∨(k=2∧j1 d=ca)∨(k=3∧j1 d=fW)∨(k=4∧j1 d=ec):=by
  rw[hk];unfold ur j1;split
  · split
    · exact .inl ⟨rfl,rfl⟩
    exact .inr (.inl ⟨rfl,rfl⟩)
  split
  · next h=>rw[h];exact .inr (.inr (.inr ⟨rfl,rfl⟩))
  next h=>
  have:d.sorted=false:=by simpa using h
  rw[this];exact .inr (.inr (.inl ⟨rfl,rfl⟩))
 clear bB hk;rcases hkw with ⟨rfl,hw⟩|⟨rfl,hw⟩|⟨rfl,hw⟩|⟨rfl,hw⟩<;>rw[hw]<;>clear hw
 · go_enter Tryz.func26,Tryz.ntmps26
   go_wp2_with fail;go_ret;exact⟨rfl,hb _⟩
 · go_enter Tryz.func26,Tryz.ntmps26
   go_wp2_with fail;go_ret;exact⟨rfl,hb _⟩
 · go_enter Tryz.func26,Tryz.ntmps26
   go_wp2_with fail;go_ret;exact⟨rfl,hb _⟩
 go_enter Tryz.func26,Tryz.ntmps26;go_wp2_with fail;go_ret;exact⟨rfl,hb _⟩
theorem Gt {d:DDesc} (h:iM d):nm d=(if RN d then [115,104,45] else [])++((if yz d then [119,115,104,45] else [])++j1 d):=by
 cases h with
 |pkh k h=>rfl
 |wpkh k h ws hw=>rcases hw with rfl|rfl<;>rfl
 |many ws hw m s ks h h1 h2 h3=>
  have hm:¬(m=0):=by omega
  have xW:0<m:=h1;rcases hw with rfl|rfl|rfl|rfl<;>cases s<;>simp[nm,RN,yz,j1,hm,xW,Lib.join,List.intercalate,List.intersperse]<;>decide
theorem Lm (d:DDesc) (hd:iM d) (kv:Value) (w:World):
 Calls Tryz.prog 12 #[.agg (BZ d kv)] w fun e W'=>e=.returned (.string ⟨(nm d).toArray⟩)∧Below w.heap.size w W':=by
 have HW:=aa (fun W=>D2 d kv W);have hf:=Gt hd;obtain⟨cs,bB⟩:=ab (BZ d kv);rw[←bB] at HW⊢;obtain⟨b0,bL⟩:∃b,b=RN d:=⟨_,rfl⟩;obtain⟨b1,aZ⟩:∃b,b=yz d:=⟨_,rfl⟩;rw[←bL,←aZ] at hf;obtain⟨wB,Ub⟩:∃wB:ByteArray,wB=⟨(j1 d).toArray⟩:=⟨_,rfl⟩;have Pm:wB.size≤11:=by rw[Ub,aA];exact zz d
 rw[←Ub] at HW;have HF:Hid ((⟨(nm d).toArray⟩:ByteArray)=⟨((if b0 then [115,104,45] else []:List UInt8)).toArray⟩++(⟨((if b1 then [119,115,104,45] else []:List UInt8)).toArray⟩++wB)):=aa (by rw[Ub,cU,cU,hf]);obtain⟨FB,hFB⟩:∃FB:ByteArray,FB=⟨(nm d).toArray⟩:=⟨_,rfl⟩;rw[←hFB] at HF⊢;have hz:cs.size=5:=by rw[bB];rfl
 have fJ:=aa (show (Tryz.prog.info? 30).map (·.size)=some cs.size by rw[hz];kernel_rfl);have aF:=af4 w (.cells cs 30);obtain⟨W0,aM⟩:=ab (w.alloc (.cells cs 30));rw[←aM] at aF;have nC:Below w.heap.size w W0:=by rw[aM];exact(af5 _ w).alloc (af2 _) _
 obtain⟨G,hG⟩:=ab w.heap.size;rw[←hG] at aF;have HR:=aa aF;have oX:=aa bB;have dh:=aa bL;have jN:=aa aZ;have gJ:=aa aM;have HG:=aa hG;have IA:=aa nC;clear hf bB bL aZ Ub hFB hz aF aM nC hG;go_enter Tryz.func12,Tryz.ntmps12;go_wp2_with (first|(refine wpList_boxTo rfl 30 (.tmp 0) rfl _ rfl w.heap.size rfl cs rfl ?_)|(refine aga rfl 30 (.tmp 1) rfl w.heap.size rfl 30 cs (0,0) _ (af4 w _) Tryz.underlying30 rfl fJ.out ?_));refine(show W0=_ from gJ.out)▸?_;rw[←HG.out];refine(HW.out W0).mono ?_;rintro e w1 ⟨rfl,aZ⟩;have jQ:=(aZ.block G (af3.1 HR.out).1).trans HR.out;have c0:w1.cell? ⟨G,0,none⟩=some (.bool b0):=by rw[agb _ _ _ _ _ _ jQ,oX.out,dh.out];rfl
 have c1:w1.cell? ⟨G,1,none⟩=some (.bool b1):=by rw[agb _ _ _ _ _ _ jQ,oX.out,jN.out];rfl
 have nH:=aa (IA.out.trans (aZ.mono IA.out.size));clear aZ jQ HW
 have uA:∀x:ByteArray,(⟨([]:List UInt8).toArray⟩:ByteArray)++x=x:=fun x=>by
  apply ByteArray.ext;simp
 have Uc:=aa uA;clear uA
 cases b1<;>cases b0<;>go_wp2_with fail
 · go_ret
   exact⟨by rw[HF.out];simp only[if_true,if_false,Bool.false_eq_true,Uc.out];rfl,nH.out⟩
 · go_ret
   exact⟨by rw[HF.out];simp only[if_true,if_false,Bool.false_eq_true,Uc.out];rfl,nH.out⟩
 · go_ret
   exact⟨by rw[HF.out];simp only[if_true,if_false,Bool.false_eq_true,Uc.out];rfl,nH.out⟩
 go_ret;exact⟨by rw[HF.out];simp only[if_true,if_false,Bool.false_eq_true,Uc.out];rfl,nH.out⟩
end Go.Proofs.YtcjioogololnoaaGreatDoor
