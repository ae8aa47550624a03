/- Of any text: the program's descriptors and the reference's are read and written alike (DescParses). No condition. -/
import Derived.Test.YtcjioogololnoaaGreatDoorU1
import Derived.Lib.Split
import Derived.Lib.Join
import Derived.Lib.IndexMore
import Derived.Test.YtcjioogololnoaaGreatDoorU3
import Derived.Test.YtcjioogololnoaaGreatDoorShelf
import Derived.Test.YtcjioogololnoaaGreatDoorU13
set_option maxRecDepth 1000000
set_option maxHeartbeats 16000000
set_option linter.unusedVariables false
set_option linter.unusedSimpArgs false
namespace Go.Proofs.YtcjioogololnoaaGreatDoor
open Go
def aK (c:UInt8):List UInt8→List (List UInt8)
 |[]=>[[]]
 |x::r=>if x=c then []::aK c r else ((x::(aK c r).headD [])::(aK c r).tail)
theorem o7 (c:UInt8) (s:List UInt8):aK c s≠[]:=by
 cases s with
 |nil=>simp[aK]
 |cons x r=>unfold aK;split<;>simp
theorem eM (c:UInt8) (s:List UInt8):aK c s=(aK c s).headD []::(aK c s).tail:=by
 cases h:aK c s with
 |nil=>exact absurd h (o7 c s)
 |cons p ps=>rfl
theorem iz (c:UInt8):∀(p r:List UInt8),(∀x∈p,x≠c)→aK c (p++c::r)=p::aK c r
 |[],r,_=>by simp[aK]
 |x::p,r,h=>by
  rw[agw,aK,if_neg (h x (by simp)),iz c p r (fun y hy=>h y (by simp[hy]))];rfl
theorem jr (c:UInt8):∀p:List UInt8,(∀x∈p,x≠c)→aK c p=[p]
 |[],_=>rfl
 |x::p,h=>by
  rw[aK,if_neg (h x (by simp)),jr c p (fun y hy=>h y (by simp[hy]))];rfl
theorem oe (c:UInt8):∀s:List UInt8,∀p∈aK c s,∀x∈p,x≠c
 |[],p,hp,x,hx=>by simp[aK] at hp;subst hp;simp at hx
 |y::r,p,hp,x,hx=>by
  have ih:=oe c r;unfold aK at hp;split at hp
  · rcases List.mem_cons.1 hp with rfl|hp
    · simp at hx
    exact ih p hp x hx
  next hy=>
  rcases List.mem_cons.1 hp with rfl|hp
  · rcases List.mem_cons.1 hx with rfl|hx
    · exact hy
    exact ih _ (by rw[eM c r];exact List.mem_cons_self) x hx
  exact ih p (by rw[eM c r];exact List.mem_cons_of_mem _ hp) x hx
theorem rG (c:UInt8):∀s:List UInt8,(aK c s).length=s.count c+1
 |[]=>rfl
 |x::r=>by
  have ih:=rG c r;unfold aK;split
  · next h=>subst h;simp[ih]
  next h=>
  rw[agm,List.length_tail,ih,List.count_cons_of_ne h];omega
theorem tR (c:UInt8):∀s:List UInt8,Lib.join (aK c s) [c]=s
 |[]=>by simp[aK,Lib.join_one]
 |x::r=>by
  have ih:=tR c r;unfold aK;split
  · next h=>
    subst h;rw[Lib.join_cons];rw[eM,Lib.join_cons] at ih;rw[eM];simp only[Lib.joinTail,List.map_cons,List.flatten_cons,agJ];rw[agL];exact congrArg (x::·) ih
  rw[eM,Lib.join_cons] at ih;rw[Lib.join_cons,agw,ih]
theorem iG (c:UInt8):∀(ps:List (List UInt8)),ps≠[]→(∀p∈ps,∀x∈p,x≠c)→aK c (Lib.join ps [c])=ps
 |[],h,_=>absurd rfl h
 |[p],_,h=>by rw[Lib.join_one];exact jr c p (h p (by simp))
 |p::q::ps,_,h=>by
  rw[Lib.join_cons];have ih:=iG c (q::ps) (by simp) (fun p' hp'=>h p' (by simp[hp']));rw[Lib.join_cons] at ih;have e:p++Lib.joinTail [c] (q::ps)=p++c::(q++Lib.joinTail [c] ps):=by simp[Lib.joinTail]
  rw[e,iz c p _ (h p (by simp)),ih]
theorem adf (s:List UInt8) (c:UInt8) (j:Nat) (h:s[j]?=some c):Lib.occAt s [c] j=true:=by
 obtain⟨hj,he⟩:=agI.1 h;rw[Lib.occAt_iff_take s [c] j (by simp;omega)];rw[List.drop_eq_getElem_cons hj,he];simp
theorem aa0 (s:List UInt8) (c:UInt8) (j:Nat) (h:s[j]?≠some c):Lib.occAt s [c] j=false:=by
 cases ho:Lib.occAt s [c] j with
 |false=>rfl
 |true=>exact absurd (Lib.occAt_head rfl ho) h
theorem og (s:List UInt8) (c:UInt8) (h:∀x∈s,x≠c):Lib.index s [c]=-1:=
 Lib.index_none (fun j _=>aa0 _ _ _ (fun e=>by
  obtain⟨hj,he⟩:=agI.1 e;exact h s[j] (agl _) he))
theorem sW (p r:List UInt8) (c:UInt8) (h:∀x∈p,x≠c):Lib.index (p++c::r) [c]=(p.length:Nat):=
 Lib.index_first (by simp) (adf _ _ _ (by simp)) (fun j hj=>aa0 _ _ _ (by
  rw[agK hj,age hj];exact fun e=>h p[j] (agl _) (Option.some.inj e)))
theorem vT (s:List UInt8) (c:UInt8):(∀x∈s,x≠c)∨∃p r,s=p++c::r∧∀x∈p,x≠c:=by
 induction s with
 |nil=>exact .inl (by simp)
 |cons y s ih=>
  by_cases hy:y=c
  · exact .inr ⟨[],s,by simp[hy],by simp⟩
  rcases ih with h|⟨p,r,rfl,h⟩
  · refine .inl fun x hx=>?_
    rcases List.mem_cons.1 hx with e|hx
    · exact e▸hy
    exact h x hx
  refine .inr ⟨y::p,r,rfl,fun x hx=>?_⟩;rcases List.mem_cons.1 hx with e|hx
  · exact e▸hy
  exact h x hx
theorem rH (c:UInt8):∀(n:Nat) (s:List UInt8),s.length≤n→Lib.split s [c]=aK c s
 |n,s,hn=>by
  rcases vT s c with h|⟨p,r,rfl,h⟩
  · rw[Lib.split,Lib.count_miss (og s c h),jr c s h];rfl
  match n,hn with
  |n+1,hn=>
   have hi:=sW p r c h
   have hd:(p++c::r).drop (p.length+[c].length)=r:=by
    rw[←List.drop_drop];simp
   have ih:=rH c n r (by simp at hn;omega);rw[Lib.split] at ih;rw[Lib.split,Lib.count_hit (by simp) hi,hd,Nat.add_comm 1,Lib.splitK,hi];have e1:((p.length:Int)==-1)=false:=by simp
   rw[e1,if_neg (by simp),Int.toNat_natCast,hd,ih,iz c p r h];simp
  |0,hn=>simp at hn
theorem rI (c:UInt8):∀(n:Nat) (s:List UInt8),s.length≤n→Lib.count s [c]+1=(aK c s).length
 |n,s,hn=>by
  rcases vT s c with h|⟨p,r,rfl,h⟩
  · rw[Lib.count_miss (og s c h),jr c s h];rfl
  match n,hn with
  |n+1,hn=>
   have hi:=sW p r c h
   have hd:(p++c::r).drop (p.length+[c].length)=r:=by
    rw[←List.drop_drop];simp
   have ih:=rI c n r (by simp at hn;omega);rw[Lib.count_hit (by simp) hi,hd,iz c p r h,agm];omega
  |0,hn=>simp at hn
theorem mP (c:UInt8) (s:List UInt8):(aK c s).length≤s.length+1:=by
 rw[rG];have:=List.count_le_length (a:=c) (l:=s);omega
theorem mb (c:UInt8) (s:List UInt8):∀p∈aK c s,p.length≤s.length:=by
 induction s with
 |nil=>intro p hp;simp[aK] at hp;simp[hp]
 |cons x r ih=>
  intro p hp;unfold aK at hp;split at hp
  · rcases List.mem_cons.1 hp with rfl|hp
    · simp
    have:=ih p hp;simp;omega
  rcases List.mem_cons.1 hp with rfl|hp
  · have:=ih _ (by rw[eM c r];exact List.mem_cons_self)
    rw[agm,agm];omega
  have:=ih p (by rw[eM c r];exact List.mem_cons_of_mem _ hp);simp;omega
theorem za (s:List UInt8) (c:UInt8) (h:∀x∈s,x≠c):Lib.cut s [c]=(s,[],false):=by
 rw[Lib.cut,og s c h,if_neg (by decide)]
theorem IH (p r:List UInt8) (c:UInt8) (h:∀x∈p,x≠c):Lib.cut (p++c::r) [c]=(p,r,true):=by
 rw[Lib.cut,sW p r c h,if_pos (by omega)];simp
end Go.Proofs.YtcjioogololnoaaGreatDoor
namespace Go.Proofs.YtcjioogololnoaaGreatDoor
open Go.RowKit Go.Shelf
def ST (l:List (List UInt8)):List Value:=l.map fun p=>.string ⟨p.toArray⟩
@[simp] theorem ST_length (l:List (List UInt8)):(ST l).length=l.length:=by simp[ST]
theorem js (l:List (List UInt8)) (j:Nat) (h:j<(ST l).length):(ST l)[j]=.string ⟨(l[j]'(by simpa using h)).toArray⟩:=by simp[ST]
theorem Kx (a b:List (List UInt8)):ST (a++b)=ST a++ST b:=by simp[ST]
theorem II (a:List (List UInt8)) (n:Nat):ST (a.take n)=(ST a).take n:=by simp[ST]
theorem AM (s:ByteArray):(⟨s.data.toList.toArray⟩:ByteArray)=s:=Lib.mk_data s
theorem AN (w:World) (n:Nat):Below w.heap.size w (w.drewN n):=⟨rfl,rfl,rfl,af2 _,fun _ _=>rfl⟩
theorem tS (w:World) (k:Nat) (os:Array Obj):Below w.heap.size w (Go.Sort.grow (w.drewN k) os):=⟨rfl,rfl,rfl,by simp[Go.Sort.grow],fun j hj=>by
 show (w.heap++os)[j]?=_;rw[Array.getElem?_append_left hj]⟩
theorem sX (s:ByteArray) (c:UInt8) (hs:s.size≤8192) (w:World) (hE:Env w):
 Calls Tryz.prog 40 #[.string s,.string ⟨#[c]⟩] w fun e W'=>e=.returned (.slice (some ⟨w.heap.size,0,none⟩) (aK c s.data.toList).length (aK c s.data.toList).length)∧W'=w.alloc (.cells (ST (aK c s.data.toList)).toArray 9):=by
 obtain⟨m,hm⟩:=hE.max;refine(Tryz.strings_Split s ⟨#[c]⟩ m w (by omega) hm (by show 1≤1;omega)).mono ?_
 rintro e W' ⟨rfl,rfl⟩;have hc:Lib.countB s ⟨#[c]⟩+1=(aK c s.data.toList).length:=rI c _ s.data.toList (af2 _)
 have hp:(Lib.splitB ⟨#[c]⟩ 0 (Lib.countB s ⟨#[c]⟩) s).map Value.string=ST (aK c s.data.toList):=by
  have h:=Lib.splitB_data ⟨#[c]⟩ 0 (Lib.countB s ⟨#[c]⟩) s
  have h2:=rH c _ s.data.toList (af2 _);rw[←h2];show _=ST (Lib.splitK [c] 0 (Lib.count s.data.toList [c]) s.data.toList);rw[←show (Lib.splitB ⟨#[c]⟩ 0 (Lib.countB s ⟨#[c]⟩) s).map (·.data.toList)=Lib.splitK [c] 0 (Lib.count s.data.toList [c]) s.data.toList from h]
  rw[ST,List.map_map];apply List.map_congr_left;intro a _;show Value.string a=Value.string ⟨a.data.toList.toArray⟩;rw[AM]
 rw[hc,hp];exact⟨rfl,rfl⟩
theorem IJ (s:ByteArray) (c:UInt8) (hs:s.size≤8192) (w:World) (hE:Env w):
 Calls Tryz.prog 15 #[.string s,.string ⟨#[c]⟩] w fun e W'=>e=.returned (.tuple #[.string ⟨(Lib.cut s.data.toList [c]).1.toArray⟩,.string ⟨(Lib.cut s.data.toList [c]).2.1.toArray⟩,.bool (Lib.cut s.data.toList [c]).2.2])∧Below w.heap.size w W':=by
 obtain⟨m,hm⟩:=hE.max;refine(Tryz.strings_Cut s ⟨#[c]⟩ m w (by omega) hm).mono ?_
 rintro e W' ⟨rfl,n,rfl⟩;exact⟨rfl,AN _ _⟩
theorem mc (A:Option Addr) (cp:Nat) (l:List (List UInt8)) (c:UInt8) (w:World) (hs:Sl w w.heap.size A (ST l)) (hc:l.length≤cp) (hl:(Lib.join l [c]).length≤100000) (hn:l.length≤100000):
 Calls Tryz.prog 22 #[.slice A l.length cp,.string ⟨#[c]⟩] w fun e W'=>e=.returned (.string ⟨(Lib.join l [c]).toArray⟩)∧Below w.heap.size w W':=by
 by_cases h0:l=[]
 · subst h0
   refine(Tryz.strings_Join_none A cp ⟨#[c]⟩ w).mono ?_
   rintro e W' ⟨rfl,rfl⟩;exact⟨rfl,af5 _ _⟩
 obtain⟨b,o,rfl,hb,aD⟩:=hs (by rw[ST_length];exact List.length_pos_iff.2 h0)
 have e1:((l.map fun p=>(⟨p.toArray⟩:ByteArray)).map (·.data.toList))=l:=by
  rw[List.map_map];exact List.map_id' l
 have h:=Tryz.strings_Join b o cp (l.map fun p=>⟨p.toArray⟩) ⟨#[c]⟩ w (fun j x hx=>by
  obtain⟨hj,rfl⟩:=agI.1 hx;rw[aD j (by simpa using hj),js,List.getElem_map]) hb (by simp;omega) (by simpa using hc) (by rw[e1];show (Lib.join l [c]).length≤_;omega)
 rw[e1,List.length_map] at h;exact h
theorem Dd (n:Int) (h0:-9223372036854775808≤n) (h1:n≤9223372036854775807) (w:World) (hE:Env w):
 Calls Tryz.prog 24 #[.int .i64 n] w fun e W'=>e=.returned (.string ⟨(Lib.itoa n).toArray⟩)∧Below w.heap.size w W':=by
 refine(Tryz.strconv_Itoa n h0 h1 w hE.pow).mono ?_;rintro e W' ⟨rfl,k,os,rfl⟩;exact⟨rfl,tS _ _ _⟩
theorem AO (w:World) (E:TypeId) (t:ByteArray):Below w.heap.size w (Lib.bytesWorld w E t):=by
 exact⟨rfl,rfl,rfl,by rw[Lib.bytesWorld_size];omega,fun k hk=>Lib.bytesWorld_at_old w _ t k hk⟩
theorem S6 (s:ByteArray) (hs:s.size≤8192) (v:Int) (h:Lib.atoiAll s.data.toList=.ok v) (w:World):
 Calls Tryz.prog 41 #[.string s] w fun e W'=>e=.returned (.tuple #[.int .i64 v,.nilIface])∧Below w.heap.size w W':=by
 refine(Tryz.strconv_Atoi_ok s (by omega) v h w).mono ?_;rintro e W' ⟨rfl,rfl|⟨t,rfl⟩⟩
 · exact⟨rfl,af5 _ _⟩
 exact⟨rfl,AO w _ t⟩
theorem S7 (s:ByteArray) (hs:s.size≤8192) (h:∀v,Lib.atoiAll s.data.toList≠ .ok v) (w:World) (hE:Env w):
 Calls Tryz.prog 41 #[.string s] w fun e W'=>∃x t p,e=.returned (.tuple #[.int .i64 x,.iface t p])∧Below w.heap.size w W':=by
 cases hA:Lib.atoiAll s.data.toList
 · exact absurd hA (h _)
 · obtain⟨t,p,hv⟩:=hE.syn
   refine(Any.strconv_Atoi_syntax_var Tryz.laysC172 s (by omega) hA t p w hv).mono ?_;rintro e W' ⟨N,rfl,_,_,hb⟩;exact⟨_,_,_,rfl,hb⟩
 obtain⟨t,p,hv⟩:=hE.ran;refine(Tryz.strconv_Atoi_range_var s (by omega) hA t p w hv).mono ?_;rintro e W' ⟨N,rfl,_,_,hb⟩;exact⟨_,_,_,rfl,hb⟩
def cL (ns:List Nat):List Value:=ns.map fun (n:Nat)=>.int .u32 (n:Int)
@[simp] theorem U32_length (ns:List Nat):(cL ns).length=ns.length:=by simp[cL]
theorem vU (ns:List Nat) (n:Nat):cL ns++[.int .u32 (n:Int)]=cL (ns++[n]):=by simp[cL]
theorem AP (ns:List Nat) (j:Nat) (h:j<(cL ns).length):(cL ns)[j]=.int .u32 ((ns[j]'(by simpa using h):Nat):Int):=by simp[cL]
theorem elU:El Tryz.prog 60 55 (.int .u32 0) 4:=⟨Tryz.underlying60,by kernel_rfl,rfl⟩
theorem Ow.form {w:World} {base E:Nat} {v:Value} {xs:List Value} (h:Ow w base E v xs):∃A c,v=.slice A xs.length c∧xs.length≤c∧c≤maxLen:=let ⟨A,c,e,h1,h2,_⟩:=h;⟨A,c,e,h1,h2⟩
def jl (ps:List (List UInt8)):List Nat:=ps.map fun p=>(a8 p).2
def eE (ps:List (List UInt8)):Bool:=ps.any fun p=>decide ((a8 p).1≠0)
theorem iA:∀ps:List (List UInt8),bf ps=if eE ps then none else some (jl ps)
 |[]=>rfl
 |p::ps=>by
  rw[bf,iA ps]
  by_cases h:(a8 p).1=0
  · have e:eE (p::ps)=eE ps:=by simp[eE,h]
    rw[if_pos h,e]
    cases eE ps<;>simp[jl]
  have e:eE (p::ps)=true:=by simp[eE,h]
  rw[if_neg h,e];rfl
theorem tT (ps:List (List UInt8)) (p:List UInt8):eE (ps++[p])=(eE ps||decide ((a8 p).1≠0)):=by simp[eE]
theorem vV (ps:List (List UInt8)) (p:List UInt8):jl (ps++[p])=jl ps++[(a8 p).2]:=by simp[jl]
theorem tU (s:List UInt8):(bH s).1=0∨(bH s).1=2∨(bH s).1=3:=by
 unfold bH;split
 · simp
 split
 · split<;>simp
 simp
theorem Ky (s:List UInt8):(a8 s).1=0∨(a8 s).1=2∨(a8 s).1=3:=by
 have h:=tU s.dropLast;unfold a8;split
 · split
   · simp
   exact h
 exact tU s
theorem Fy {ps:List (List UInt8)} {p:List UInt8} (h:p∈ps) (hp:(a8 p).1≠0):eE ps=true:=List.any_eq_true.2 ⟨p,h,by simp[hp]⟩
theorem sY (s:ByteArray) (hsz:s.size≤4096) (hm:(aK 47 s.data.toList).headD []≠[109]) (hl:(aK 47 s.data.toList).length≤255) (w:World) (hE:Env w):
 Calls Tryz.prog 104 #[.string s] w fun e W'=>∃v E,e=.returned (.tuple #[v,.int .i64 ((E:Nat):Int)])∧((E=0∧eE (aK 47 s.data.toList)=false∧Ow W' w.heap.size 55 v (cL (jl (aK 47 s.data.toList))))∨(E≠0∧eE (aK 47 s.data.toList)=true))∧Below w.heap.size w W':=by
 have pF:=sX s 47 (by omega) w hE;obtain⟨ps,pG⟩:=ab (aK 47 s.data.toList);rw[←pG] at pF hm hl⊢
 have tH:∀p∈ps,p.length≤4096:=fun p hp=>by
  have:=mb 47 s.data.toList p (by rw[←pG];exact hp);simp at this;omega
 obtain⟨p0,pr,qx⟩:∃p0 pr,ps=p0::pr:=by
  cases hh:ps with
  |nil=>exact absurd hh (by rw[pG];exact o7 _ _)
  |cons a b=>exact⟨a,b,rfl⟩
 obtain⟨n,hn⟩:=ab ps.length;rw[←hn] at pF hl;have zL:0<n:=by rw[hn,qx];simp
 have x8:p0≠[109]:=by rw[qx] at hm;exact hm
 obtain⟨P0,zb⟩:∃P0:ByteArray,P0=⟨p0.toArray⟩:=⟨_,rfl⟩
 have ae7:(P0.toList==[109])=false:=by
  rw[zb,agt];simpa using x8
 have uE:=aa pF;have Hn:=aa hn;have zd:=aa tH;have aF:=af4 w (.cells (ST ps).toArray 9);obtain⟨W1,kK⟩:=ab (w.alloc (.cells (ST ps).toArray 9));rw[←kK] at aF;have aZ:Below w.heap.size w W1:=by rw[kK];exact(af5 _ w).alloc (af2 _) _
 have gq:W1.heap.size=w.heap.size+1:=by rw[kK];simp
 have aD:∀j (h:j<ps.length),W1.cell? ⟨w.heap.size,j,none⟩=some (.string ⟨ps[j].toArray⟩):=fun j h=>by
  rw[agb _ _ _ _ _ _ aF,agr,age (by simpa using h),js]
 have c0:W1.cell? ⟨w.heap.size,0,none⟩=some (.string P0):=by
  rw[aD 0 (by omega),zb];simp only[qx,List.getElem_cons_zero]
 have jk:=aa aD;have Kz:=aa kK;clear pG qx hm x8 zb pF hn tH aF kK aD;go_enter Tryz.func104,Tryz.ntmps104;go_wp2_with fail;refine(uE.out).mono ?_;rintro e w1 ⟨rfl,gu⟩;rw[←Kz.out] at gu;subst gu;obtain⟨B,hB⟩:=ab w.heap.size;rw[←hB] at aZ gq c0 jk⊢;have HB:=aa hB;have vH:=aa gq;clear hB gq uE Kz;have adg:decide ((255:Int)<(n:Int))=false:=af8 (by omega);go_wp2_with fail;go_loopw [2,3,5,6,24] (fun a b v g i wr=>∃k:Nat,k≤n∧i=.int .i64 k∧a=.slice none 0 0∧b=.int .i64 0∧g=.bool (eE (ps.take k))∧Ow wr (B+1) 55 v (cL (jl (ps.take k)))∧Below w1.heap.size w1 wr) (fun _ _ _ _ i _=>n-(intOf i).toNat)
 case atStart=>exact⟨0,agu _,rfl,rfl,rfl,rfl,Ow.nil_ _ _ _ _,af5 _ _⟩
 case round=>
  obtain⟨k,hk,rfl,rfl,rfl,rfl,ho,hb⟩:=hrel;obtain⟨G,hG⟩:=ab (eE (ps.take k));obtain⟨L,hL⟩:=ab (jl (ps.take k));rw[←hL] at ho;rw[←hG];have HG:=aa hG;have HL:=aa hL;have hLk:L.length=k:=by rw[hL];simp[jl];have:=Hn.out;omega
  have HLk:=aa hLk;obtain⟨Av,cv,rfl,dW,ez⟩:=ho.form;rw[U32_length,hLk] at ho dW⊢;have mL:Below B w wr:=aZ.trans (hb.mono (by have:=vH.out;omega));have hBz:w1.heap.size≤B+1:=by have:=vH.out;omega
  have hzb:∀o,B+1≤(wr.alloc o).heap.size:=fun o=>by have h1:=hb.size;have h2:=vH.out;rw[agn];omega
  have Vy:=aa hzb;clear hG hL hLk c0 adg hzb
  by_cases aL:k<n
  · have hkp:k<ps.length:=by have:=Hn.out;omega
    obtain⟨p,hp⟩:∃p,p=ps[k]:=⟨_,rfl⟩
    have IL:wr.cell? ⟨B,k,none⟩=some (.string ⟨p.toArray⟩):=by
     rw[hb.cell (p:=⟨B,k,none⟩) (show B<w1.heap.size by have:=vH.out;omega),jk.out k hkp,hp]
    have BV:p∈ps:=by rw[hp];exact agl _
    have jO:ps.take (k+1)=ps.take k++[p]:=by rw[agh hkp,hp]
    have oh:=aa jO;have Hpm:=aa BV;have aa1:(⟨p.toArray⟩:ByteArray).size≤4096:=by show p.toArray.size≤_;simpa using zd.out p BV
    have cW:=Kv ⟨p.toArray⟩ aa1;simp only[] at cW;obtain⟨P,hP⟩:∃P:ByteArray,P=⟨p.toArray⟩:=⟨_,rfl⟩;rw[←hP] at cW IL;obtain⟨E,Mz⟩:∃E,E=(a8 p).1:=⟨_,rfl⟩;obtain⟨x,hx⟩:∃x,x=(a8 p).2:=⟨_,rfl⟩;rw[←Mz,←hx] at cW;have adh:E=0∨E=2∨E=3:=by rw[Mz];exact Ky p
    have eg:=aa cW;have HEe:=aa Mz;have Hx:=aa hx;clear hp BV jO aa1 cW hP Mz hx;rcases adh with rfl|rfl|rfl
    · cases G
      all_goals
       go_wp2_with (first|(go_at_call 146;refine(eg.out _).mono ?_;rintro e w' ⟨rfl,bD⟩;rw[bD];clear bD)|(at_builtin;go_loud (refine aq (m:=1) (c:=1) (base:=B+1) (xs:=cL L) (v:=.slice Av k cv) (A:=some ⟨wr.heap.size,0,none⟩) (B:=wr.heap.size+1) (news:=[.int .u32 (x:Int)]) elU rfl (.tmp 41) (.tmp 43) rfl rfl (ho.alloc _) rfl (Sl.one wr _ _) rfl (by simp;rfl) (by rw[U32_length,HLk.out];simp[maxLen];omega) (by rw[U32_length,HLk.out];omega) (Vy.out _) ?_);intro v3 w3 cZ fl j0));rw[vU] at cZ;exact⟨⟨k+1,by omega,rfl,rfl,rfl,by rw[oh.out,tT,←HG.out,←HEe.out];rfl,by rw[oh.out,vV,←HL.out,←Hx.out];exact cZ,bE hb (af2 _) (ho.mono hBz) fl⟩,by simp[intOf];omega⟩
    · cases G
      all_goals
       go_wp2_with (first|(go_at_call 146;refine(eg.out _).mono ?_;rintro e w' ⟨rfl,bD⟩;rw[bD];clear bD)|(at_builtin;go_loud (refine aq (m:=1) (c:=1) (base:=B+1) (xs:=cL L) (v:=.slice Av k cv) (A:=some ⟨wr.heap.size,0,none⟩) (B:=wr.heap.size+1) (news:=[.int .u32 (x:Int)]) elU rfl (.tmp 41) (.tmp 43) rfl rfl (ho.alloc _) rfl (Sl.one wr _ _) rfl (by simp;rfl) (by rw[U32_length,HLk.out];simp[maxLen];omega) (by rw[U32_length,HLk.out];omega) (Vy.out _) ?_);intro v3 w3 cZ fl j0));rw[vU] at cZ;exact⟨⟨k+1,by omega,rfl,rfl,rfl,by rw[oh.out,tT,←HG.out,←HEe.out];rfl,by rw[oh.out,vV,←HL.out,←Hx.out];exact cZ,bE hb (af2 _) (ho.mono hBz) fl⟩,by simp[intOf];omega⟩
    have nt:eE ps=true:=Fy Hpm.out (by rw[←HEe.out];decide);have Yb:=aa nt;have Hbw:=aa mL;clear nt mL;go_wp2_with (go_at_call 146;refine(eg.out _).mono ?_;rintro e w' ⟨rfl,bD⟩;rw[bD];clear bD);go_ret2;exact⟨_,3,rfl,.inr ⟨by decide,Yb.out⟩,by rw[←HB.out];exact Hbw.out⟩
  obtain rfl:k=n:=by omega
  have Rx:ps.take k=ps:=af7 (by have:=Hn.out;omega);rw[Rx] at HG HL;clear Rx aL
  cases G with
  |true=>
   go_wp2_with fail;go_ret2;exact⟨_,2,rfl,.inr ⟨by decide,HG.out.symm⟩,by rw[←HB.out];exact mL⟩
  |false=>
   go_wp2_with fail;go_ret2;exact⟨_,0,rfl,.inl ⟨rfl,HG.out.symm,by rw[←HL.out,←HB.out];exact ho.mono (by omega)⟩,by rw[←HB.out];exact mL⟩
theorem KA (n:Nat) (h:2147483648≤n) (w:World):
 Calls Tryz.prog 106 #[.int .u32 (n:Int)] w fun e w'=>e=.returned (.bool true)∧w=w':=by
 have hv:decide ((2147483648:Int)≤(n:Int))=true:=af9 (by omega);clear h;go_enter Tryz.func106,Tryz.ntmps106;go_wp2;go_ret;exact⟨rfl,rfl⟩
theorem Ox (n:Nat) (h:n<2147483648) (w:World):
 Calls Tryz.prog 106 #[.int .u32 (n:Int)] w fun e w'=>e=.returned (.bool false)∧w=w':=by
 have hv:decide ((2147483648:Int)≤(n:Int))=false:=af8 (by omega);clear h;go_enter Tryz.func106,Tryz.ntmps106;go_wp2;go_ret;exact⟨rfl,rfl⟩
def ze (n:Nat):Bool:=decide (2147483648≤n)
def eN (ns:List Nat):Bool:=ns.any ze
theorem KB (n:Nat) (w:World):
 Calls Tryz.prog 106 #[.int .u32 (n:Int)] w fun e w'=>e=.returned (.bool (ze n))∧w=w':=by
 by_cases h:2147483648≤n
 · rw[ze,af9 h];exact KA n h w
 rw[ze,af8 h];exact Ox n (by omega) w
theorem yh (A:Option Addr) (c:Nat) (ns:List Nat) (hl:ns.length≤4096) (w:World) (hs:Sl w w.heap.size A (cL ns)):
 Calls Tryz.prog 147 #[.slice A ns.length c,.func (.func 106) #[] #[]] w fun e w'=>(∃i:Int,e=.returned (.int .i64 i)∧((0≤i∧eN ns=true)∨(i=-1∧eN ns=false)))∧w=w':=by
 obtain⟨m,hm⟩:=ab ns.length;rw[←hm] at hl⊢;have Hm:=aa hm;clear hm;go_enter Tryz.func147,Tryz.ntmps147;go_wp2
 go_loop [4,8] (fun r i=>∃k:Nat,k≤m∧i=.int .i64 k∧r=.int .i64 0∧Hid (eN (ns.take k)=false)) (fun _ i=>m-(intOf i).toNat)
 case atStart=>exact⟨0,agu _,rfl,rfl,aa rfl⟩
 case round=>
  obtain⟨k,hk,rfl,rfl,HN⟩:=hrel
  by_cases aL:k<m
  · have zf:k<ns.length:=by have:=Hm.out;omega
    obtain⟨n,hn⟩:∃n,n=ns[k]:=⟨_,rfl⟩;obtain⟨bA,oA,rfl,jm,db⟩:=hs (by rw[U32_length];have:=Hm.out;omega);have aD:w.cell? ⟨bA,oA+k,none⟩=some (.int .u32 (n:Int)):=by rw[db k (by simpa using zf),AP,hn]
    have jO:eN (ns.take (k+1))=ze n:=by
     have h0:=HN.out;unfold eN at h0⊢;rw[agh zf,List.any_append,h0,hn];simp
    have pH:n∈ns:=by rw[hn];exact agl _
    have oh:=aa jO;have Fz:=aa pH;have Hpf:=aa (fun W=>KB n W);obtain⟨b,hb⟩:=ab (ze n);rw[←hb] at Hpf oh;have Hb:=aa hb;clear hn db jO pH hs hb
    cases b with
    |true=>
     go_wp2_with (go_at_call 106;refine(Hpf.out _).mono ?_;rintro e w' ⟨rfl,rfl⟩);go_ret;exact⟨⟨_,rfl,.inl ⟨by omega,List.any_eq_true.2 ⟨n,Fz.out,Hb.out.symm⟩⟩⟩,rfl⟩
    |false=>
     go_wp2_with (go_at_call 106;refine(Hpf.out _).mono ?_;rintro e w' ⟨rfl,rfl⟩);exact⟨⟨k+1,by omega,rfl,rfl,oh⟩,by simp[intOf];omega⟩
  have hN:eN ns=false:=by
   have:=HN.out;rwa [af7 (by have:=Hm.out;omega)] at this
  have Rv:=aa hN;clear hN;go_wp2;go_ret;exact⟨⟨_,rfl,.inr ⟨rfl,Rv.out⟩⟩,rfl⟩
theorem jt (A:Option Addr) (c:Nat) (ns:List Nat) (hl:ns.length≤4096) (w:World) (hs:Sl w w.heap.size A (cL ns)):
 Calls Tryz.prog 105 #[.slice A ns.length c,.func (.func 106) #[] #[]] w fun e w'=>e=.returned (.bool (eN ns))∧w=w':=by
 have H:=aa (yh A c ns hl w hs);clear hs;go_enter Tryz.func105,Tryz.ntmps105;go_wp2_with fail;refine H.out.mono ?_;rintro e w' ⟨⟨i,rfl,h⟩,rfl⟩;obtain⟨b,hb⟩:=ab (eN ns);rw[←hb] at h;have Hb:=aa hb;clear hb H;rcases h with ⟨h0,rfl⟩|⟨rfl,rfl⟩
 all_goals
  go_wp2_with fail;go_ret;exact⟨by rw[←Hb.out];rfl,rfl⟩
end Go.Proofs.YtcjioogololnoaaGreatDoor
namespace Go.Proofs.YtcjioogololnoaaGreatDoor
open Go Go.RowKit Go.Shelf
def Jc (bs:List (List UInt8)) (k:Nat):List (Nat×List UInt8):=(List.range k).map fun j=>(bs.length-1-j,bs[bs.length-1-j]?.getD [])
theorem DJ (bs:List (List UInt8)) (k:Nat):Jc bs (k+1)=Jc bs k++[(bs.length-1-k,bs[bs.length-1-k]?.getD [])]:=by simp[Jc,List.range_succ]
theorem FT (bs:List (List UInt8)) (k:Nat):(Jc bs k).length=k:=by simp[Jc]
theorem zw (bs:List (List UInt8)):(Jc bs bs.length).map (·.2)=bs.reverse:=by
 apply List.ext_getElem
 · simp[Jc]
 intro i h1 h2;have:bs.length-1-i<bs.length:=by simp[Jc] at h1;omega
 simp[Jc,this]
attribute [local go_sem] Oper.semAt_some
theorem PA (F:Fence) (hF:∀k,F.fn k) (oS:F.round=none) (n:Nat) (hn:1≤n) (l Bs N:Nat) (K:World→World→Prop) (WQ:∀W,K W W) (Si:∀{A B C:World},K A B→K B C→K A C) (JH:∀{W W':World},K W W'→W'.heap[Bs]?=W.heap[Bs]?) (A:Option Addr) (cap:Nat) (bs:List (List UInt8)) (qj:bs.length≤140737488351232) {α:Type} (enc:α→Nat×List UInt8) (M7:∀j (h:j<bs.length),∃x,enc x=(j,bs[j])) (J Jx:List α→World→Prop)
 (hY:∀pre x W,J pre W→pre.length<bs.length→YieldAt F (n-1) Tryz.prog l #[Value.int .i64 ((enc x).1:Int),.string ⟨(enc x).2.toArray⟩] W fun e W'=>
  (e=.returned (.bool true)∧J (pre++[x]) W'∧K W W')∨(e=.returned (.bool false)∧Jx (pre++[x]) W'))
 (W:World) (pn:W.cell? ⟨Bs,0,none⟩=some (.slice A bs.length cap)) (hs:∀W',K W W'→Sl W' N A (ST bs)) (h0:J [] W):
 CallsIn F n Tryz.prog 55 #[.func (.yield l) #[] #[],.pointer (some ⟨Bs,0,none⟩)] W fun e W'=>(∃v,e=.returned v)∧
  ((∃ys,ys.map enc=Jc bs bs.length∧J ys W')∨(∃pre,(∃k,k≤bs.length∧pre.map enc=Jc bs k)∧Jx pre W')):=by
 refine callsIn_of_wp Tryz.func55 rfl (hF _) ?_ oS;simp only[Tryz.ntmps55,List.size_toArray,agm,List.length_nil,Nat.reduceAdd,Nat.reduceSub,Array.replicate_succ,Array.replicate_zero,List.push_toArray,List.append_toArray,agJ,agw]
 gi_wp2
 gi_loopw [3] (fun i wr=>∃k:Nat,k≤bs.length∧i=.int .i64 ((bs.length:Int)-1-(k:Int))∧(∃pre,pre.map enc=Jc bs k∧J pre wr)∧K W wr)
  (fun i _=>(intOf i+1).toNat)
 case atStart=>exact⟨0,agu _,by go_num,⟨[],rfl,h0⟩,WQ _⟩
 case round=>
  obtain⟨k,hk,rfl,⟨pre,po,hJs⟩,lu⟩:=hrel;have sH:=aa po;have tH:pre.length=k:=by have:=congrArg List.length po;simpa [FT] using this
  clear po
  by_cases aL:k<bs.length
  · obtain⟨m,hm⟩:∃m,m=bs.length-1-k:=⟨_,rfl⟩
    have vm:m<bs.length:=by omega
    have U1:(bs.length:Int)-1-(k:Int)=(m:Int):=by omega
    obtain⟨b,o,rfl,hb,hc⟩:=hs wr lu (by rw[ST_length];omega);have Ev:=hc m (by rw[ST_length];exact vm);rw[js] at Ev;have WR:=(World.cell?_of_block (a:=⟨Bs,0,none⟩) (JH lu)).trans pn;obtain⟨x,hx⟩:=M7 m vm;obtain⟨fn,tmps,assign,body,hy,hR⟩:=hY _ x wr hJs (by rw[tH];exact aL);simp only[hx] at hy hR;have Hx:=aa hx;clear hx tH;rw[U1];have WT:=lu;have Hm:=aa hm;clear U1 hc hs pn lu hm
    gi_wp2
    refine hR.mono ?_;rintro e W3 (⟨rfl,hJ3,hk3⟩|⟨rfl,WU⟩)
    · gi_wp2
      go_roundw
      case rel=>
       have hm:=Hm.out;exact⟨k+1,by omega,by go_num,⟨_,by rw[List.map_append,sH.out,DJ,←hm,age vm,List.map_cons,List.map_nil,Hx.out];rfl,hJ3⟩,Si WT hk3⟩
      case measure=>simp[intOf]
    gi_wp2
    refine agf (results_none rfl _ _ _) rfl ?_;have hm:=Hm.out;exact⟨⟨_,rfl⟩,.inr ⟨_,⟨k+1,by omega,by rw[List.map_append,sH.out,DJ,←hm,age vm,List.map_cons,List.map_nil,Hx.out];rfl⟩,WU⟩⟩
  obtain rfl:k=bs.length:=by omega
  have e1:(bs.length:Int)-1-(bs.length:Int)=-1:=by omega
  rw[e1]
  gi_wp2
  go_end0;exact⟨⟨_,rfl⟩,.inl ⟨_,sH.out,hJs⟩⟩
theorem Jd (F:Fence) (hF:∀k,F.fn k) (oS:F.round=none) (n:Nat) (a:Option Addr) (len cap:Nat) (w:World):
 CallsIn F n Tryz.prog 25 #[.slice a len cap] w fun e w'=>e=.returned (.func (.func 55) #[] #[.pointer (some ⟨w.heap.size,0,none⟩)])∧w'=w.alloc (.cells #[.slice a len cap] 45):=by
 refine callsIn_of_wp Tryz.func25 rfl (hF _) ?_ oS;simp only[Tryz.ntmps25,List.size_toArray,agm,List.length_nil,Nat.reduceAdd,Nat.reduceSub,Array.replicate_succ,Array.replicate_zero,List.push_toArray,List.append_toArray,agJ,agw]
 gi_wp2
 go_ret;exact⟨rfl,rfl⟩
theorem uf (F:Fence) (hF:∀k,F.fn k) (oS:F.round=none) (n:Nat) (hn:1≤n) (Bs N:Nat) (K:World→World→Prop) (WQ:∀W,K W W) (Si:∀{A B C:World},K A B→K B C→K A C) (JH:∀{W W':World},K W W'→W'.heap[Bs]?=W.heap[Bs]?)
 (A:Option Addr) (cap:Nat) (bs:List (List UInt8)) (qj:bs.length≤140737488351232) {α:Type} (enc:α→Nat×List UInt8) (M7:∀j (h:j<bs.length),∃x,enc x=(j,bs[j])) (w:World)
 (hwK:∀W,Below w.heap.size w W→K w W) (hc:w.cell? ⟨Bs,0,none⟩=some (.slice A bs.length cap)) (hs:∀W',K w W'→Sl W' N A (ST bs)):
 SeqStopsK F n Tryz.prog 55 #[.pointer (some ⟨Bs,0,none⟩)] (fun x:α=>#[Value.int .i64 ((enc x).1:Int),Value.string ⟨(enc x).2.toArray⟩]) K (fun ys=>ys.map enc=Jc bs bs.length)
  (fun pre=>∃k,k≤bs.length∧pre.map enc=Jc bs k) bs.length w:=fun l J Jx W hW _ _ hY h0=>
 PA F hF oS n hn l Bs N K WQ Si JH A cap bs qj enc M7 J Jx hY W ((World.cell?_of_block (a:=⟨Bs,0,none⟩) (JH (hwK W hW))).trans hc) (fun W' h=>hs W' (Si (hwK W hW) h)) h0
end Go.Proofs.YtcjioogololnoaaGreatDoor
