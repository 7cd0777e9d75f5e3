/- Lemmas of the proof, with their conditions. -/
import Derived.Test.YtfedaknhecbehaaGreatM32
namespace Go.Proofs.YtfedaknhecbehaaGreat
open Tryz Go.RowKit Go.Shelf
variable {S S':PS} {k j view mode s d p m:Nat} {od:List Bool} {w0 V:World} {Fd Ft Fw Fm:List Nat} {L0 L1:Value}
set_option linter.all false
set_option maxHeartbeats 8000000
set_option maxRecDepth 100000
def Checked (B:Nat) (S:PS) (S':PS):Prop:=
 ∃ D1 us1 W1 D' l0 l1,Emitted B S.D S.us S.W D1 us1 W1/\MetaD (6+4*pgs B) D1 D' (2*pgs B+4)/\(∀ x∈l0,x<=1)/\(∀ x∈l1,x<=1) /\
   S'=⟨D',VT us1 S.lv 8,S.lv,W1,⟨S.I.bl,List.replicate S.I.bd.length false,S.I.ol,List.replicate S.I.od.length false⟩,{ S.st with gen:=S.st.gen+1 },1-S.slot,l0,l1⟩
def Forgot (B:Nat) (S:PS) (view mode:Nat) (od:List Bool):PS:=
 { S with lv:=Xe B S.lv 0 (QBh S.I.ol S.I.ol.length),I:=⟨S.I.bl,S.I.bd,Xs S.I.ol S.I.ol.length,od⟩,st:={ S.st with seq:=S.st.done,view:=view,mode:=mode } }
def Raised (B:Nat) (S:PS) (view mode:Nat) (S':PS):Prop:=∃ od,Checked B (Forgot B S view mode od) S'
theorem JBa (B s:Nat) (ol:List Int):(QBh ol ol.length).countP (QJ B s)=ol.countP (QJ B s):=by
 unfold QBh;rw[AK (AG _)]
 induction ol with
 | nil=>rfl
 | cons o ol ih=>
   rw[BE,Ce,ih,Be];have c:QJ B s (YH o (-1))=QJ B s o:=Vf (fun h=>Z);rw[<- c];generalize YH o (-1)=g;by_cases b:0<g
   . rw[AJ b,Be,DI];omega
   rw[AF b,XK (a:=g) Z];simp
theorem Forgot.good {B:Nat} (a:Good B S k j):Good B (Forgot B S view mode od) k j/\YE B (Forgot B S view mode od)=YE B S/\XF B (Forgot B S view mode od)=List.replicate B none:=by
 have b:=a.ol;refine⟨⟨a.cap,a.now,a.many,a.flt,a.flen,a.b1,a.b64,a.bl,?_,a.brefs,?_,?_,a.epoch,AG _⟩,rfl,?_⟩
 . simp only[Forgot,JR,BD];exact b
 . intro x c
   simp only[Forgot,JR] at c;exact .inl (AX c)
 . have:=a.seq;have:=a.done;simp only[Forgot];omega
 unfold XF
 simp only[Forgot,JR,DU,AJ];rw[b]
theorem Forgot.ext {B:Nat} (d:Good B S k j) (b:Ext B S):Ext B (Forgot B S view mode od):=by
 have e:=fun s=>LiveOk.small b.liv d s;obtain⟨f,g⟩:=KX (B:=B) (a:=0) (zs:=QBh S.I.ol S.I.ol.length) b.liv.len e Z;refine⟨b.segs,⟨f,fun s c=>?_,fun i hi=>?_⟩,b.slot,b.lie0,b.lie1⟩
 . simp only[Forgot]
   rw[g s c,b.liv.live s c,JBa,XK (a:=((0:Nat):Int)) Z];unfold ZN;simp only;rw[JR,C4,XK (a := -1) Z];simp only[Ap,CD];omega
 simp only[Forgot] at hi ⊢
 rw[JR,AA,Au] at hi
 split at hi <;> simp at hi
theorem Zh (us:List (Nat×Nat)) (lv:List Nat) (k s:Nat) (c:s<us.length):(VT us lv k).getD s (0,0)=if s<k/\ZQ us lv s=true then (0,(us.getD s (0,0)).2) else us.getD s (0,0):=by
 induction k with
 | zero=>rw[AF Z];rfl
 | succ k ih=>
   simp only[VT];by_cases hi:ZQ us lv k=true
   . rw[AJ hi]
     unfold VE;rw[AA,BW];by_cases e:k=s
     . subst e
       rw[AJ rfl,AJ (by rw[KR];exact c),AJ ⟨Z,hi⟩,JAT us lv k k (AG _)];rfl
     rw[AF e,<- AA,ih]
     by_cases h:s<k/\ZQ us lv s=true
     . rw[AJ h,AJ ⟨Z,h.2⟩]
     rw[AF h,AF (fun a=>h ⟨Z,a.2⟩)]
   rw[AF hi,ih]
   by_cases h:s<k/\ZQ us lv s=true
   . rw[AJ h,AJ ⟨Z,h.2⟩]
   rw[AF h,AF (fun a=>h ⟨by
    rcases BG s k with b | b
    . exact b
    have:s=k:=Z
    subst this;exact absurd a.2 hi,a.2⟩)]
theorem Kh {us:List (Nat×Nat)} {lv:List Nat} (h:ZQ us lv s=true):(us.getD s (0,0)).1=2/\lv.getD s 0=0:=by
 simpa [ZQ] using h
theorem XAL {us:List (Nat×Nat)} {lv:List Nat} (h:VW us s):VW (VT us lv 8) s:=by
 obtain⟨d,e,b⟩:=h;have c:=KR us lv 8;refine⟨c.trans d,fun u f=>?_,fun k a=>?_⟩
 . obtain⟨i,hi,rfl⟩:=List.getElem_of_mem f
   rw[<- XI hi,Zh us lv 8 i Z];have:=e _ (AN (n:=i) Z);rw[XI Z]
   split
   . exact⟨sq,this.2⟩
   exact this
 rw[<- XI a,Zh us lv 8 k Z]
 rw[c] at a
 split
 . rename_i h
   have:=(Kh h.2).1;rw[XI a] at this;have g:=b k a;simp only;constructor
   . intro h;omega
   intro h;have:=g.2 h;omega
 rw[XI a];exact b k a
theorem VAv (us:List (Nat×Nat)) (lv:List Nat) (k:Nat) (a:k<=us.length):YB us<=YB (VT us lv k):=by
 induction k with
 | zero=>exact AG _
 | succ k ih=>
   have hi:=ih Z;simp only[VT]
   split
   . have:=KI (VT us lv k) k 0 (by rw[KR];omega)
     simp at this
     split at this <;> omega
   exact hi
theorem Checked.good {B:Nat} (h:Checked B S S') (b:Good B S k j) (d:Ext B S) (T:j<=100000) :
 Good B S' k (j+1)/\Ext B S'/\YE B S'=YE B S/\XF B S'=XF B S/\S'.st={ S.st with gen:=S.st.gen+1 }:=by
 obtain⟨v,f,g,D',o,p,i,e,w,y,rfl⟩:=h;have U:=b.cap.lsn;have V:=ZD b.b1 b.b64;obtain⟨z,A,q,C,W,D,X,E,Y,a0,a1⟩:=b.cap.emitted i;have F:=i.segs d.segs Z;obtain⟨r,G⟩:=i.reads b.cap.ok b.now b.many b.cap.seg b.cap.off;obtain⟨_,_,_,_,_,_,_,_,_,_,_,t,_,_,u⟩:=i.facts b.cap.ok;have a2:=b.cap.ul;have H:v.n=198+4*pgs B:=t.trans b.many
 -- what is read, and lies
 have J:∀ x:Nat,0<x->((x:Int)∈S.I.bl\/(x:Int)∈S.I.ol)->Lies B S.us S.W x->Lies B (VT f S.lv 8) g x/\KJ B D' g x=KJ B S.D S.W x:=by
  intro x a3 K l;obtain⟨b1,L⟩:=G x l;have M:(x-(6+4*pgs B)) / 24<8:=by have:=l.hi;omega
  refine⟨⟨b1.lo,b1.hi,?_,b1.here⟩,?_⟩
  . rw[Zh f S.lv 8 _ Z]
    split
    . rename_i hi
      have n:=(Kh hi.2).2;rw[d.liv.live _ M] at n;have:=ZAx (B:=B) (I:=S.I) (a:=(x:Int)) K Z;simp only[Ba] at this;omega
    exact b1.used
  rw[<- L]
  unfold KJ
  split
  . rfl
  exact e.now (by rw[r]) x b1.lo
 have m:∀ a:Int,(a∈S.I.bl\/a∈S.I.ol)->RefOk B S a->RefOk B ⟨D',VT f S.lv 8,S.lv,g,⟨S.I.bl,List.replicate S.I.bd.length false,S.I.ol,List.replicate S.I.od.length false⟩,{ S.st with gen:=S.st.gen+1 },1-S.slot,o,p⟩ a /\
  ZF B ⟨D',VT f S.lv 8,S.lv,g,⟨S.I.bl,List.replicate S.I.bd.length false,S.I.ol,List.replicate S.I.od.length false⟩,{ S.st with gen:=S.st.gen+1 },1-S.slot,o,p⟩ a=ZF B S a:=by
  intro a N O;rcases O with rfl | ⟨n,l⟩
  . exact⟨.inl rfl,by unfold ZF;rw[AJ rfl,AJ rfl]⟩
  obtain⟨P,Q⟩:=J a.toNat Z (by rw[show ((a.toNat:Nat):Int)=a from Z];exact N) l
  refine⟨.inr ⟨n,P⟩,?_⟩;unfold ZF;rw[AF Z,AF Z];exact Q
 obtain⟨c,s,R,c2,a4⟩:=b.cap.cs;refine⟨⟨⟨z,by simp only;rw[KR];exact A,by simp only;rw[q];exact b.cap.seg,C,?_,⟨c,s,R,?_,?_⟩,?_,?_⟩,?_,?_,?_,?_,b.b1,b.b64,b.bl,b.ol,?_,?_,?_,?_,b.done⟩,⟨?_,⟨d.liv.len,d.liv.live,d.liv.diff⟩,by simp only;omega,w,y⟩,?_,?_,rfl⟩
 . simp only
   have a5:=b.cap.seg;rw[Zh f S.lv 8 _ Z]
   split
   . rename_i hi
     have:=(Kh hi.2).1;omega
   exact D
 . have:QT g=g.pos.off:=by unfold QT;rw[AJ E]
   simp only;rw[this];omega
 . have:=VAv f S.lv 8 Z
   simp only;omega
 . have:=e.acts;have:=b.cap.acts;simp only;omega
 . have:=b.cap.lsn;simp only;omega
 . simp only
   rw[e.n];exact e.nlen r
 . simp only;rw[e.n];exact H
 . simp only;rw[e.flt,u];exact b.flt
 . simp only;rw[e.flt,u,e.n,t];exact b.flen
 . exact fun x d=>(m x (.inl d) (b.brefs x d)).1
 . exact fun x d=>(b.orefs x d).imp id (fun h=>(m x (.inr d) h).1)
 . have:=b.seq;simp only;omega
 . have:=b.epoch;simp only;omega
 . simp only
   rw[q];exact XAL F
 . exact Cy (fun x d=>(m x (.inl d) (b.brefs x d)).2)
 refine Cy (fun x d=>?_)
 split
 . rfl
 rename_i h
 rw[(m x (.inr d) ((b.orefs x d).resolve_left h)).2]
theorem Raised.good {B:Nat} (h:Raised B S view mode S') (a:Good B S k j) (b:Ext B S) (c:j<=100000) :
 Good B S' k (j+1)/\Ext B S'/\YE B S'=YE B S/\XF B S'=List.replicate B none/\S'.st={ S.st with seq:=S.st.done,view:=view,mode:=mode,gen:=S.st.gen+1 }/\S'.I.ol=List.replicate B (-1):=by
 obtain⟨od,h⟩:=h;obtain⟨d,e,f⟩:=Forgot.good (view:=view) (mode:=mode) (od:=od) a;obtain⟨g,i,l,m,n⟩:=h.good d (Forgot.ext a b) c;refine⟨g,i,l.trans e,m.trans f,n,?_⟩;obtain⟨o,p,q,D',r,s,t,u,v,w,rfl⟩:=h;simp only[Forgot,JR];rw[a.ol]
section
open Go.RowKit Go.Shelf
attribute [local go_sem] AW
theorem YBe {w:World} {g:Nat} {t:TypeId} {a b c d e f i j k l m n o:Value} (h:Blk w g t #[a,b,c,d,e,f,i,j,k,l,m,n,o]) :
 cl w g a/\cl w (aq g 1) b/\cl w (aq g 2) c/\cl w (aq g 3) d/\cl w (aq g 4) e/\cl w (aq g 5) f/\cl w (aq g 6) i/\cl w (aq g 7) j/\cl w (aq g 8) k/\cl w (aq g 9) l/\cl w (aq g 10) m/\cl w (aq g 11) n/\cl w (aq g 12) o:=
 ⟨uq (h.cell 0),uq (h.cell 1),uq (h.cell 2),uq (h.cell 3),uq (h.cell 4),uq (h.cell 5),uq (h.cell 6),uq (h.cell 7),uq (h.cell 8),uq (h.cell 9),uq (h.cell 10),uq (h.cell 11),uq (h.cell 12)⟩
def QAT (W:World) (c d g:Nat):Prop:=Blk W c 471 #[pq d,pq g,zz,zz,ii 1,zz,ii 1,zz,zz,ii 1,zz,ii 1,zz]
def ChS (cb c d g:Nat) (W:World):Prop:=W.cell? cb=some (.pointer (some c))/\cl W c (pq d)/\cl W (aq c 1) (pq g)/\cl W (aq c 7) zz/\cl W (aq c 8) zz/\cl W (aq c 9) (ii 1)/\cl W (aq c 10) zz/\cl W (aq c 11) (ii 1)
theorem ChS.of {W:World} {a c g:Nat} (h:QAT W c d g) (b:Boxed W a 448 (.pointer (some c))):ChS a c d g W:=by
 unfold QAT at h;obtain⟨e,f,n,o,p,q,r,i,j,k,l,m,s⟩:=YBe h;exact⟨b.cell,e,f,i,j,k,l,m⟩
structure ChP (w w4:World) (N cb c d g:Nat) (V:World) (s b:Nat):Prop where
 ch:QAT V c d g
 cbx:Boxed V cb 448 (.pointer (some c))
 more:Blk V N 4 #[.bool true]
 scan:XBl V s d g
 box:Boxed V b 274 (.pointer none)
 kept:kz w4 V
 sl:w4.heap.size<=s
 bl:w4.heap.size<=b
end
section
open Go.RowKit Go.Shelf
attribute [local go_sem] AW
theorem JAt (n:Nat) (v:Value) (w:World) (a:v.oneCell'=true) :
 CallsIn Fence.wide n prog 80 #[v] w fun e w'=>e=.returned (.func (.func 209) #[] #[pq w.heap.size])/\w'=w.alloc (.cells #[v] 35):=by
 refine(AQ (n:=n)).2 ?_;go_enter func80,ntmps80
 go_wp2
 go_ret;exact⟨rfl,rfl⟩
end
section
open Go.RowKit Go.Shelf
attribute [local go_sem] AW
theorem Kg (n lo hi:Int) (w:World):cq 81 #[ii n,ii lo,ii hi] w (.bool (decide (lo<=n/\n<=hi))):=by
 by_cases b:lo<=n
 . by_cases a:n<=hi
   . go_enter func81,ntmps81
     go_wp2
     go_ret;exact⟨JF (by simp[b,a]),rfl⟩
   go_enter func81,ntmps81
   go_wp2
   go_ret;exact⟨JF (by simp[a]),rfl⟩
 go_enter func81,ntmps81
 go_wp2
 go_ret;exact⟨JF (by simp;omega),rfl⟩
theorem VBO {w:World} {g B:Nat} (h:GeomAt w g B):cq 82 #[pq g] w (ii 11):=by
 obtain⟨a,b,c⟩:=h.cells;go_enter func82,ntmps82
 go_wp2
 go_ret;exact⟨rfl,rfl⟩
theorem YBg (now a:Nat) (d:now<=4294967295) (e:a<=4294967295) (w:World):cq 84 #[now,a] w (JAv now a:Nat):=by
 unfold JAv;by_cases h:now<=a
 . rw[AJ h]
   have b:((now:Nat):Int)<=(a:Nat):=Z
   go_enter func84,ntmps84
   go_wp2
   go_ret;exact⟨rfl,rfl⟩
 rw[AF h]
 have b:¬ ((now:Nat):Int)<=(a:Nat):=Z
 have f:IntKind.i64.wrap ((now:Nat)-(a:Nat):Int)=(now:Nat)-(a:Nat):=by rw[AI];omega
 by_cases g:now-a<2147483647
 . have c:((now:Nat):Int)-(a:Nat)<2147483647:=Z
   go_enter func84,ntmps84
   go_wp2
   go_ret;exact⟨JL Z,rfl⟩
 have c:¬ ((now:Nat):Int)-(a:Nat)<2147483647:=Z
 by_cases i:2147483647<((now:Nat):Int)-(a:Nat)
 . go_enter func84,ntmps84
   go_wp2
   go_ret;exact⟨JL Z,rfl⟩
 go_enter func84,ntmps84
 go_wp2
 go_ret;exact⟨JL Z,rfl⟩
theorem YBB (a b:Nat) (i:1<=a) (j:a<=11) (g:b<=2147483647) (w:World):cq 83 #[a,b,ii 22] w (Kd a b:Nat):=by
 have c:=fun W=>Kg 22 1 1000 W;have d:=fun W=>Kg (a:Nat) 0 22 W;have f:=fun W=>Kg (b:Nat) 0 2147483647 W;rw[AH Z] at c d f;have k:(22-a)*b<=22*2147483647:=D6 Z g;have l:IntKind.i64.wrap (22-(a:Nat):Int)=((22-a:Nat):Int):=by rw[AI];omega
 have m:IntKind.i64.wrap (((22-a:Nat):Int)*(b:Nat))=(((22-a)*b:Nat):Int):=by rw[AI,<- CP];omega
 have n:IntKind.i64.wrap (22+(a:Nat):Int)=((22+a:Nat):Int):=by rw[AI];omega
 have o:¬ ((22+a:Nat):Int)=0:=Z
 have h:(Kd a b:Int)=((22-a:Nat):Int)*(b:Nat) / (22+(a:Nat)):=by unfold Kd;rw[Ct,CP,Av];rfl
 go_enter func83,ntmps83
 go_wp2_with (first
  | (refine(c _).mono ?_;clear c;rintro e w' ⟨rfl,rfl⟩)
  | (refine(d _).mono ?_;clear d;rintro e w' ⟨rfl,rfl⟩)
  | (refine(f _).mono ?_;clear f;rintro e w' ⟨rfl,rfl⟩))
 go_ret;exact⟨JL h.symm,rfl⟩
theorem YAc (a b:Nat×Nat×Nat) (w:World) :
 cr 87 #[.agg #[a.1,a.2.1,a.2.2],.agg #[b.1,b.2.1,b.2.2]] w (.bool (Yz a b)):=by
 obtain⟨d,c,f⟩:=a;obtain⟨b0,b1,h⟩:=b;have m:kz w (w.alloc (.cells #[d,c,f] 151)):=kq.alloc _;have e:kz w ((w.alloc (.cells #[d,c,f] 151)).alloc (.cells #[b0,b1,h] 151)):=m.alloc _;unfold Yz;simp only;by_cases j:d=b0
 . subst j
   rw[AF sq];by_cases g:c<b1
   . have i:((c:Nat):Int)<(b1:Nat):=Z
     go_enter func87,ntmps87
     go_wp2
     go_ret;exact⟨JF (by simp[g]),e⟩
   have i:¬ ((c:Nat):Int)<(b1:Nat):=Z
   have q:decide (((c:Nat):Int)<(b1:Nat))=false:=AU i;by_cases k:c=b1
   . subst k
     by_cases l:f<h
     . have n:((f:Nat):Int)<(h:Nat):=Z
       go_enter func87,ntmps87
       go_wp2
       go_ret;exact⟨JF (by simp[l]),e⟩
     have n:¬ ((f:Nat):Int)<(h:Nat):=Z
     go_enter func87,ntmps87
     go_wp2
     go_ret;exact⟨JF (by simp[l]),e⟩
   have o:¬ ((c:Nat):Int)=(b1:Nat):=Z
   have r:(((c:Nat):Int) == (b1:Nat))=false:=uq o
   go_enter func87,ntmps87
   go_wp2
   go_ret;exact⟨JF (by simp[g,k]),e⟩
 rw[AJ j]
 have p:¬ ((d:Nat):Int)=(b0:Nat):=Z
 have s:(((d:Nat):Int) == (b0:Nat))=false:=uq p
 by_cases g:b0<d
 . have i:((b0:Nat):Int)<(d:Nat):=Z
   go_enter func87,ntmps87
   go_wp2
   go_ret;exact⟨JF (by simp[g]),e⟩
 have i:¬ ((b0:Nat):Int)<(d:Nat):=Z
 go_enter func87,ntmps87
 go_wp2
 go_ret;exact⟨JF (by simp[g]),e⟩
def KBS (k:Nat):Array Value:=#[k]
def VBU (us:List (Nat×Nat)) (pre:List Nat) (k:Nat) (_:World):Prop:=k<8/\pre=JQ us k/\(us.getD k (0,0)).1=2
def KBH (base t g tb:Nat) (F:List Nat) (us:List (Nat×Nat)) (lv:List Nat) (W W':World):Prop:=
 (Boxed W tb 35 (.pointer (some t))->Boxed W' tb 35 (.pointer (some t)))/\(TableAt W base t g F us lv->TableAt W' base t g F us lv)
theorem KAf {tb base t g:Nat} (n:Nat) {F:List Nat} {us:List (Nat×Nat)} {lv:List Nat} {w:World} (a:TableAt w base t g F us lv) (b:Boxed w tb 35 (.pointer (some t))) :
 ZBI n prog 209 #[pq tb] KBS (VBU us) (KBH base t g tb F us lv) (fun xs=>xs=JQ us 8) w:=by
 intro lb J W s a0 u v;replace a:TableAt W base t g F us lv:=a.kO s;replace b:Boxed W tb 35 (.pointer (some t)):=(s.block tb b.lt sq).trans b;have y:=b.cell;have z:=a;obtain⟨L,V,a⟩:=a;obtain⟨l,M,N,O,rfl,rfl,P,Q,R⟩:=a.forms;obtain⟨d,j,m⟩:=a.cells;clear a;refine Cd func209 rfl trivial ?_ rfl;simp only[ntmps209,PL,Nat.reduceAdd,Nat.reduceSub]
 gi_wp2
 gi_loopw [3,11] (fun _ i wr=>∃ (k:Nat) (pre:List Nat),k<=8/\i=.int .i64 (k:Nat)/\J pre wr/\Hid (pre=JQ us k)/\TableAt wr base t g F us lv/\Boxed wr tb 35 (.pointer (some t)))
  (fun _ i _=>8-(intOf i).toNat)
 case atStart=>exact⟨0,[],AP _,rfl,v,rfl,z,b⟩
 clear z b v y d j m;obtain⟨k,pre,hk,rfl,o,c,A,b⟩:=hrel;have y:=b.cell;by_cases B:k<8
 . have a1:((k:Nat):Int)<8:=Z
   have C:=ZB A;obtain⟨L,V,a⟩:=A;obtain⟨l,M,N,O,rfl,rfl,P,Q,R⟩:=a.forms;obtain⟨d,j,m⟩:=a.cells;have S:=a.ulen;have p:=(a.use k B).1;have a2:=(own_mem a.l (g:=l) (by simp[Value.ownBlock])).2;have D:=Ye us k;rw[<- XI Z] at p;obtain⟨x,q⟩:∃ x,(us.getD k (0,0)).1=x:=⟨_,rfl⟩;rw[q] at p;have E:=ZB D;have r:=ZB q;clear a D q S;by_cases G:x=2
   . subst G
     obtain⟨fn,a3,a4,a5,H,I⟩:=u pre k wr o ⟨B,ZA c,by rw[ZA r]⟩;dsimp only[KBS] at H
     gi_wp2
     refine⟨fun h=>by simp[Fence.wide] at h,I.mono ?_⟩;rintro e a6 ⟨rfl,T,U,K⟩;have X:=K (ZA C);clear H I d j m p K
     gi_wp2
     go_roundw;case rel=>exact⟨k+1,_,Z,by go_num,T,by show _=_;rw[ZA E,ZA r,AJ rfl,ZA c],X,U b⟩
     case measure=>simp[intOf];omega
   have Y:¬ ((x:Nat):Int)=2:=Z
   have a7:(((x:Nat):Int) == 2)=false:=uq Y
   clear u
   gi_wp2
   refine⟨fun f hf=>(by cases hf),?_⟩
   gi_wp2
   go_roundw;case rel=>exact⟨k+1,pre,Z,by go_num,o,by show _=_;rw[ZA E,ZA r,AF G];exact ZA c,ZA C,b⟩
   case measure=>simp[intOf];omega
 obtain rfl:k=8:=Z
 gi_wp2
 go_end0
 exact⟨⟨_,rfl⟩,pre,ZA c,o⟩
end
section
open Go.RowKit Go.Shelf
attribute [local go_sem] AW
def c3 (x:Nat×Nat×Nat):Array Value:=#[x.1,x.2.1,x.2.2]
structure KPk (w:World) (g t base B now:Nat) (F:List Nat) (us:List (Nat×Nat)) (lv:List Nat) (tb:Nat) (pre:List Nat) (W:World):Prop where
 b3:Boxed W w.heap.size 46 (.pointer (some g))
 b4:Boxed W (w.heap.size+1) 35 (.pointer (some t))
 b5:Boxed W (w.heap.size+1+1) 3 (.int .i64 (now:Nat))
 best:Blk W (w.heap.size+1+1+1) 151 (c3 ((pre.foldl (KH us lv now) none).getD (0,0,0)))
 has:Blk W (w.heap.size+1+1+1+1) 4 #[.bool (pre.foldl (KH us lv now) none).isSome]
 tb:Boxed W tb 35 (.pointer (some t))
 tab:TableAt W base t g F us lv
 geo:GeomAt W g B
 keep:kz w W
section
variable {w W X Y:World} {g t base B now tb l:Nat} {F:List Nat} {us:List (Nat×Nat)} {lv:List Nat} {pre:List Nat}
theorem KPk.kept (h:KPk w g t base B now F us lv tb pre X) (a:kz X Y):KPk w g t base B now F us lv tb pre Y:=
 ⟨JA h.b3 a sq,JA h.b4 a sq,JA h.b5 a sq,h.best.kO a,h.has.kO a,JA h.tb a sq,by obtain⟨L,V,q⟩:=h.tab;exact⟨L,V,q.kO a⟩,h.geo.kO a,h.keep.tO a⟩
theorem KPk.turned {o a:Obj} (h:KPk w g t base B now F us lv tb pre W) (d:w.heap.size<=l) (b:W.heap[l]? = Option.some o) (c:o.isCells=false):KPk w g t base B now F us lv tb pre (W.putObj l a):=
 ⟨ZC a h.b3 b c,ZC a h.b4 b c,ZC a h.b5 b c,XH a h.best b c,XH a h.has b c,ZC a h.tb b c,h.tab.putObj a b c,⟨XH a h.geo.blk b c,h.geo.pos,h.geo.few⟩,h.keep.putObj d a⟩
end
theorem ZBW {P X:World->Nat->Prop} {G:Prop} (f:(∀ a b,P a b->X a b)->G) (r:∀ a b,P a b->X a b):G:=f r
structure PkP (w0 V:World) (z:Nat):Prop where
 kp:kz w0 V
 b:Blk V z 151 #[zz,zz,zz]
 ge:w0.heap.size<=z
theorem PkP.keep {a:World} {z:Nat} (h:PkP w0 V z) (b:kz V a):PkP w0 a z:=⟨h.kp.tO b,h.b.kO b,h.ge⟩
theorem PkP.of (a:kz w0 V):PkP w0 (V.alloc (.cells #[zz,zz,zz] 151)) V.heap.size:=⟨a.alloc _,Blk.new V _ _,a.size⟩
def PkS (b g t:Nat) (now:Nat) (W:World):Prop:=W.cell? b=some (.pointer (some g))/\cl W ⟨b+1,0,none⟩ (pq t)/\cl W ⟨b+1+1,0,none⟩ now
theorem KPk.reads {w W X:World} {g t base B now tb:Nat} {F:List Nat} {us:List (Nat×Nat)} {lv:List Nat} {pre:List Nat} (h:KPk w g t base B now F us lv tb pre W) (a:kz W X):PkS w.heap.size g t now X:=
 ⟨(JA h.b3 a sq).cell,(JA h.b4 a sq).cell,(JA h.b5 a sq).cell⟩
theorem JAs {us:List (Nat×Nat)} {lv:List Nat} {now:Nat} {b:Option (Nat×Nat×Nat)} (h:¬ (1<=lv.getD k 0/\lv.getD k 0<=11)):KH us lv now b k=b:=by
 unfold KH;rw[AF h]
theorem XAm {us:List (Nat×Nat)} {lv:List Nat} {now:Nat} (h:1<=lv.getD k 0/\lv.getD k 0<=11):KH us lv now none k=some (Kd (lv.getD k 0) (JAv now (us.getD k (0,0)).2),lv.getD k 0,k):=by
 unfold KH;rw[AJ h];rfl
theorem QAd {us:List (Nat×Nat)} {lv:List Nat} {now:Nat} {y:Nat×Nat×Nat} (h:1<=lv.getD k 0/\lv.getD k 0<=11):KH us lv now (some y) k=if Yz (Kd (lv.getD k 0) (JAv now (us.getD k (0,0)).2),lv.getD k 0,k) y then some (Kd (lv.getD k 0) (JAv now (us.getD k (0,0)).2),lv.getD k 0,k) else some y:=by
 unfold KH;rw[AJ h];rfl
theorem VAu {w:World} {t g base B:Nat} (now:Nat) {F:List Nat} {us:List (Nat×Nat)} {lv:List Nat} (ht:TableAt w base t g F us lv) (hg:GeomAt w g B) (d0:now<=2147483647) (a3:∀ u∈us,u.2<=2147483647) (bg:∀ k,lv.getD k 0<=1000) :
 cr 16 #[pq g,pq t,now] w (.tuple #[(((Ve us lv now).getD (0,0,0)).2.2:Nat),.bool (Ve us lv now).isSome]):=by
 have bh:us.length=8:=by obtain⟨L,V,q⟩:=ht;exact q.ulen
 have bi:=ht.lt;have bj:=hg.lt;have bk:=ZB bi;have cd:=ZB bj;clear bi bj;refine(AQ (n:=3)).1 ?_;refine callsIn_of_wp_marks func16 rfl trivial ?_ rfl;simp only[ntmps16,PL,Nat.reduceAdd,Nat.reduceSub];have bl:=fun W=>JAt (3-1) (.pointer (some t)) W rfl;have ce:=ZB bh;have cf:=ZB a3;have cg:=ZB bg;clear bh a3 bg;gi_wp2_with (refine⟨trivial,?_⟩;refine(bl _).mono ?_;clear bl;rintro e w' ⟨rfl,rfl⟩);obtain⟨w1,a8⟩:=ex (w.alloc (.cells #[pq g] 46));obtain⟨w2,a9⟩:=ex (w1.alloc (.cells #[pq t] 35));obtain⟨w3,aa⟩:=ex (w2.alloc (.cells #[now] 3));obtain⟨w4,ab⟩:=ex (w3.alloc (.cells #[zz,zz,zz] 151));obtain⟨w5,ac⟩:=ex (w4.alloc (.cells #[.bool false] 4));obtain⟨w6,ad⟩:=ex (w5.alloc (.cells #[pq t] 35));rw[<- a8,<- a9,<- aa,<- ab,<- ac,<- ad];have s1:w1.heap.size=w.heap.size+1:=by rw[a8,AM]
 have s2:w2.heap.size=w.heap.size+1+1:=by rw[a9,AM,s1]
 have s3:w3.heap.size=w.heap.size+1+1+1:=by rw[aa,AM,s2]
 have s4:w4.heap.size=w.heap.size+1+1+1+1:=by rw[ab,AM,s3]
 have s5:w5.heap.size=w.heap.size+1+1+1+1+1:=by rw[ac,AM,s4]
 have k1:kz w w1:=by rw[a8];exact kq.alloc _
 have k2:kz w1 w2:=by rw[a9];exact kq.alloc _
 have k3:kz w2 w3:=by rw[aa];exact kq.alloc _
 have k4:kz w3 w4:=by rw[ab];exact kq.alloc _
 have k5:kz w4 w5:=by rw[ac];exact kq.alloc _
 have k6:kz w5 w6:=by rw[ad];exact kq.alloc _
 have b2:=(k5.tO k6);have b3:=k4.tO b2;have b4:=k3.tO b3;have b6:=k2.tO b4;have an:=k1.tO b6;obtain⟨tb,ae⟩:=ex (w.heap.size+1+1+1+1+1)
 have h0:KPk w g t base B now F us lv tb [] w6:=
  ⟨JA (by rw[a8];exact Boxed.new w _ _) b6 sq,JA (by rw[a9,<- s1];exact Boxed.new w1 _ _) b4 sq,JA (by rw[aa,<- s2];exact Boxed.new w2 _ _) b3 sq,by
    have:=(Blk.new w3 151 #[zz,zz,zz]).kO (w':=w6) (by rw[<- ab];exact b2);rw[s3] at this;exact this,by
    have:=(Blk.new w4 4 #[.bool false]).kO (w':=w6) (by rw[<- ac];exact k6);rw[s4] at this;exact this,by rw[ae,<- s5,ad];exact Boxed.new w5 _ _,by obtain⟨L,V,q⟩:=ht;exact⟨L,V,q.kO an⟩,hg.kO an,an⟩
 rw[<- ae];have bm:ZBI 2 prog 209 #[pq tb] (fun k=>#[(k:Nat)]) (VBU us) (KBH base t g tb F us lv) (fun xs=>xs=JQ us 8) w6:=KAf 2 h0.tab h0.tb;have d1:w.heap.size+1+1+1+1+1+1<=w6.heap.size:=by rw[ad,AM,s5];omega
 have ch:=ZB ae;clear a8 a9 aa ab ac ad s1 s2 s3 s4 s5 k1 k2 k3 k4 k5 k6 b2 b3 b4 b6 an ht hg ae
 refine ZZ (n:=3) (gf:=209) (lb:=#[pq tb]) 10 (fun k=>.int .i64 (k:Nat)) rfl (enters_of func209 (by kernel_rfl) rfl)
  bm
  (fun A B C h k=>⟨fun j=>k.1 (h.1 j),fun j=>k.2 (h.2 j)⟩)
  (fun W l o ao hl af N=>⟨fun j=>ZC ao j af N,fun j=>j.putObj ao af N⟩)
  (KPk w g t base B now F us lv tb) (fun s A B h hk=>h.kept hk) (fun s W l o ao h hl af N=>h.turned Z af N)
  (fun pre x W l o ao h hl af N=>h) h0 ?assign ?body ?done
 case assign=>
  rintro l x W K a;simp only[PU,BB] at a
  gi_wp2
  exact a
 case body=>
  rintro lb pre k W c ⟨hk,ci,cj⟩;simp only[PU,BB];have ag:=AQ (n:=0).2 (ZBK c.tab k hk);have ap:=AQ (n:=0).2 (VBO c.geo);obtain⟨l,hl⟩:=ex (lv.getD k 0);have d2:l<=1000:=by rw[hl];exact ZA cg k
  rw[<- hl] at ag;have a6:=AQ (n:=0).2 (Kg (l:Nat) 1 11 W);have e3:=c.b3.cell;have e4:=c.b4.cell;have bn:(pre++[k]).foldl (KH us lv now) none=KH us lv now (pre.foldl (KH us lv now) none) k:=by rw[List.foldl_append];rfl
  have ar:=ZB hl;have b7:=ZB bn;clear hl bn cj ci;by_cases a7:1<=l/\l<=11
  . rw[AH Z] at a6
    gi_wp2_with (first
     | (refine⟨trivial,?_⟩;refine ag.mono ?_;clear ag;rintro e w' ⟨rfl,rfl⟩)
     | (refine⟨trivial,?_⟩;refine ap.mono ?_;clear ap;rintro e w' ⟨rfl,rfl⟩)
     | (refine⟨trivial,?_⟩;refine a6.mono ?_;clear a6;rintro e w' ⟨rfl,rfl⟩))
    have r:kz W W.drew:=(Keep.refl [] W).drew;obtain⟨st,a3⟩:=ex ((us.getD k (0,0)).2)
    have d3:st<=2147483647:=by
     rw[a3,XI (by rw[ZA ce];exact hk)];exact ZA cf _ (AN _)
    have au:=fun V (Q:kz W V)=>QAq (w:=V) (base:=base) (t:=t) (g:=g) (F:=F) (us:=us) (lv:=lv) (by obtain⟨L,U,q⟩:=c.tab;exact⟨L,U,q.kO Q⟩) k hk;rw[<- a3] at au;have ah:=fun V=>YBg now st Z Z V;obtain⟨b8,av⟩:=ex (JAv now st);have bp:b8<=2147483647:=by rw[av];exact QAv _ _
    rw[<- av] at ah;have a4:=fun V=>YBB l b8 a7.1 a7.2 bp V;obtain⟨m,aw⟩:=ex (Kd l b8);have d4:m<=2147483647:=by rw[aw];exact XAW _ _ a7.1 bp
    rw[<- aw] at a4;have ai:=fun V (Q:kz W V)=>ConfigG_is V g B (c.geo.kO Q);have f:=fun V (Q:kz W V)=>c.reads Q;have ck:=fun(cm cn co:Value) V=>KE (P:=prog) underlying28 2 rfl isAgg3 #[cm,cn,co] rfl V;have bq:=ZB a3;have br:=ZB av;have bs:=ZB aw;clear a3 av aw e3 e4;refine ZJ (S:=(PkS w.heap.size g t now)) 15 (.held 0 (.held 1 (.held 2 (.held 3 (.held 6 (.held 11 (.held 12 (.two 4 (.two 5 (.two 7 (.held 8 (.held 9 (.two 10 (.held 13 (.loud 14 .nil)) 14 (.loud 10 (.held 13 .nil))))) 14 (.loud 7 (.held 8 (.held 9 (.loud 10 (.held 13 .nil)))))) 14 (.loud 5 (.loud 7 (.held 8 (.held 9 (.loud 10 (.held 13 .nil))))))) 14 (.loud 4 (.loud 5 (.loud 7 (.held 8 (.held 9 (.loud 10 (.held 13 .nil))))))))))))))) (f _ r) ?_;simp only[RT.pick,PJ];iterate 7 (refine wpR_held ?_ rq ?_ ?_;rotate_left;(focus(rintro W ⟨v,D,E⟩;go_simp;try with_reducible rfl));simp only[Act.put,PU])
    generalize W.drew=X0 at *;refine @ZBW (PkP W) ?XA _ (fun aj=>?_) ?_;rotate_left
    -- ROADS
    refine wpR_two ?_ ?_
    . refine wpR_loud rq fun K a=>?_
      go_wp2_with (refine(au _ r).mono ?_;rintro e w' ⟨rfl,rfl⟩);refine a _ _ (f _ r) ?_
      try simp only[Act.put,PU]
      refine wpR_two ?_ ?_
      . refine wpR_loud rq fun K a=>?_
        go_wp2_with (refine(ah _).mono ?_;rintro e w' ⟨rfl,rfl⟩);refine a _ _ (f _ r) ?_
        try simp only[Act.put,PU]
        refine wpR_two ?_ ?_
        . refine wpR_loud rq fun K a=>?_
          go_wp2_with (refine(ai _ r).mono ?_;rintro e ax ⟨rfl,cp⟩);have ay:=r.tO cp;refine a _ _ (f _ ay) ?_
          try simp only[Act.put,PU]
          iterate 1 (refine wpR_held ?_ rq ?_ ?_;rotate_left;(focus(rintro W ⟨v,D,E⟩;go_simp;try with_reducible rfl));simp only[Act.put,PU])
          iterate 1 (refine wpR_held ?_ rq ?_ ?_;rotate_left;(focus(rintro W ⟨v,D,E⟩;go_simp;try with_reducible rfl));simp only[Act.put,PU])
          refine wpR_two ?_ ?_
          . refine wpR_loud rq fun K a=>?_
            go_wp2_with (refine(a4 _).mono ?_;rintro e w' ⟨rfl,rfl⟩);refine a _ _ (f _ ay) ?_
            try simp only[Act.put,PU]
            iterate 1 (refine wpR_held ?_ rq ?_ ?_;rotate_left;(focus(rintro W ⟨v,D,E⟩;go_simp;try with_reducible rfl));simp only[Act.put,PU])
            refine wpR_loud rq fun K a=>?_;go_wp2_with fail;have d:=PkP.of ay
            revert d
            generalize (ax.alloc (.cells #[zz,zz,zz] 151))=Y2;generalize ax.heap.size=z2;intro d;refine a _ _ (f _ d.kp) ?_
            try simp only[Act.put,PU]
            refine wpR_nil ?_;exact aj _ _ d
          refine wpR_loud rq fun K a=>?_
          go_wp2_with fail;have d:=PkP.of ay
          revert d
          generalize (ax.alloc (.cells #[zz,zz,zz] 151))=Y2;generalize ax.heap.size=z2;intro d;refine a _ _ (f _ d.kp) ?_
          try simp only[Act.put,PU]
          refine wpR_loud rq fun K a=>?_;go_wp2_with (refine(a4 _).mono ?_;rintro e w' ⟨rfl,rfl⟩);refine a _ _ (f _ d.kp) ?_
          try simp only[Act.put,PU]
          iterate 1 (refine wpR_held ?_ rq ?_ ?_;rotate_left;(focus(rintro W ⟨v,D,E⟩;go_simp;try with_reducible rfl));simp only[Act.put,PU])
          refine wpR_nil ?_;exact aj _ _ d
        refine wpR_loud rq fun K a=>?_
        go_wp2_with fail;have i:=PkP.of r
        revert i
        generalize (X0.alloc (.cells #[zz,zz,zz] 151))=Y1;generalize X0.heap.size=z1;intro i;refine a _ _ (f _ i.kp) ?_
        try simp only[Act.put,PU]
        refine wpR_loud rq fun K a=>?_;go_wp2_with (refine(ai _ i.kp).mono ?_;rintro e bt ⟨rfl,ak⟩);have d:=i.keep ak;refine a _ _ (f _ d.kp) ?_
        try simp only[Act.put,PU]
        iterate 1 (refine wpR_held ?_ rq ?_ ?_;rotate_left;(focus(rintro W ⟨v,D,E⟩;go_simp;try with_reducible rfl));simp only[Act.put,PU])
        iterate 1 (refine wpR_held ?_ rq ?_ ?_;rotate_left;(focus(rintro W ⟨v,D,E⟩;go_simp;try with_reducible rfl));simp only[Act.put,PU])
        refine wpR_loud rq fun K a=>?_;go_wp2_with (refine(a4 _).mono ?_;rintro e w' ⟨rfl,rfl⟩);refine a _ _ (f _ d.kp) ?_
        try simp only[Act.put,PU]
        iterate 1 (refine wpR_held ?_ rq ?_ ?_;rotate_left;(focus(rintro W ⟨v,D,E⟩;go_simp;try with_reducible rfl));simp only[Act.put,PU])
        refine wpR_nil ?_;exact aj _ _ d
      refine wpR_loud rq fun K a=>?_
      go_wp2_with fail;have i:=PkP.of r
      revert i
      generalize (X0.alloc (.cells #[zz,zz,zz] 151))=Y1;generalize X0.heap.size=z1;intro i;refine a _ _ (f _ i.kp) ?_
      try simp only[Act.put,PU]
      refine wpR_loud rq fun K a=>?_;go_wp2_with (refine(ah _).mono ?_;rintro e w' ⟨rfl,rfl⟩);refine a _ _ (f _ i.kp) ?_
      try simp only[Act.put,PU]
      refine wpR_loud rq fun K a=>?_;go_wp2_with (refine(ai _ i.kp).mono ?_;rintro e bt ⟨rfl,ak⟩);have d:=i.keep ak;refine a _ _ (f _ d.kp) ?_
      try simp only[Act.put,PU]
      iterate 1 (refine wpR_held ?_ rq ?_ ?_;rotate_left;(focus(rintro W ⟨v,D,E⟩;go_simp;try with_reducible rfl));simp only[Act.put,PU])
      iterate 1 (refine wpR_held ?_ rq ?_ ?_;rotate_left;(focus(rintro W ⟨v,D,E⟩;go_simp;try with_reducible rfl));simp only[Act.put,PU])
      refine wpR_loud rq fun K a=>?_;go_wp2_with (refine(a4 _).mono ?_;rintro e w' ⟨rfl,rfl⟩);refine a _ _ (f _ d.kp) ?_
      try simp only[Act.put,PU]
      iterate 1 (refine wpR_held ?_ rq ?_ ?_;rotate_left;(focus(rintro W ⟨v,D,E⟩;go_simp;try with_reducible rfl));simp only[Act.put,PU])
      refine wpR_nil ?_;exact aj _ _ d
    . refine wpR_loud rq fun K a=>?_
      go_wp2_with fail;have i:=PkP.of r
      revert i
      generalize (X0.alloc (.cells #[zz,zz,zz] 151))=Y1;generalize X0.heap.size=z1;intro i;refine a _ _ (f _ i.kp) ?_
      try simp only[Act.put,PU]
      refine wpR_loud rq fun K a=>?_;go_wp2_with (refine(au _ i.kp).mono ?_;rintro e w' ⟨rfl,rfl⟩);refine a _ _ (f _ i.kp) ?_
      try simp only[Act.put,PU]
      refine wpR_loud rq fun K a=>?_;go_wp2_with (refine(ah _).mono ?_;rintro e w' ⟨rfl,rfl⟩);refine a _ _ (f _ i.kp) ?_
      try simp only[Act.put,PU]
      refine wpR_loud rq fun K a=>?_;go_wp2_with (refine(ai _ i.kp).mono ?_;rintro e bt ⟨rfl,ak⟩);have d:=i.keep ak;refine a _ _ (f _ d.kp) ?_
      try simp only[Act.put,PU]
      iterate 1 (refine wpR_held ?_ rq ?_ ?_;rotate_left;(focus(rintro W ⟨v,D,E⟩;go_simp;try with_reducible rfl));simp only[Act.put,PU])
      iterate 1 (refine wpR_held ?_ rq ?_ ?_;rotate_left;(focus(rintro W ⟨v,D,E⟩;go_simp;try with_reducible rfl));simp only[Act.put,PU])
      refine wpR_loud rq fun K a=>?_;go_wp2_with (refine(a4 _).mono ?_;rintro e w' ⟨rfl,rfl⟩);refine a _ _ (f _ d.kp) ?_
      try simp only[Act.put,PU]
      iterate 1 (refine wpR_held ?_ rq ?_ ?_;rotate_left;(focus(rintro W ⟨v,D,E⟩;go_simp;try with_reducible rfl));simp only[Act.put,PU])
      refine wpR_nil ?_;exact aj _ _ d
    -- END
    rintro V z ⟨Q,G,d5⟩;have bu:=c.kept Q;have d6:=c.has.lt;have q0:cl V (aq z 0) zz:=uq (G.cell 0)
    have q1:cl V (aq z 1) zz:=uq (G.cell 1)
    have q2:cl V (aq z 2) zz:=uq (G.cell 2)
    have f0:=G.frozen 0;have f1:=G.frozen 1;have f2:=G.frozen 2;have cq:=G.lt;clear au ah a4 ai f ck;have n3:z≠w.heap.size+1+1+1:=Z
    have n4:z≠w.heap.size+1+1+1+1:=Z
    have d7:w.heap.size+1+1+1≠z:=fun e=>n3 e.symm;have d8:w.heap.size+1+1+1+1≠z:=fun e=>n4 e.symm;have h4:cl V ⟨w.heap.size+1+1+1+1,0,none⟩ (.bool (pre.foldl (KH us lv now) none).isSome):=uq (bu.has.cell 0)
    go_wp2_with fail;have al:=((G.set 0 (.int .i64 (m:Nat))).set 1 (.int .i64 (l:Nat))).set 2 (.int .i64 (k:Nat));simp only[PU] at al
    have bv:Keep [z] V (((V.setCell (aq z 0) (.int .i64 (m:Nat))).setCell (aq z 1) (.int .i64 (l:Nat))).setCell (aq z 2) (.int .i64 (k:Nat))):=
     (((Keep.refl [z] V).sc z 0).sc z 1).sc z 2
    have b9:kz W (((V.setCell (aq z 0) (.int .i64 (m:Nat))).setCell (aq z 1) (.int .i64 (l:Nat))).setCell (aq z 2) (.int .i64 (k:Nat))):=Q.trans bv iq;have H:=c.kept b9;clear h4 q0 q1 q2 f0 f1 f2 bu G bv Q cq;generalize ((V.setCell (aq z 0) (.int .i64 (m:Nat))).setCell (aq z 1) (.int .i64 (l:Nat))).setCell (aq z 2) (.int .i64 (k:Nat))=V3 at *;have q0:cl V3 (aq z 0) (m:Nat):=uq (al.cell 0)
    have q1:cl V3 (aq z 1) (l:Nat):=uq (al.cell 1)
    have q2:cl V3 (aq z 2) (k:Nat):=uq (al.cell 2)
    have bw:1<=lv.getD k 0/\lv.getD k 0<=11:=by rw[<- ZA ar];exact a7
    obtain⟨bo,a0⟩:=ex (pre.foldl (KH us lv now) none);have I:=H.best;have O:=H.has;rw[<- a0] at I O;have ba:=ZA b7;rw[<- a0] at ba;have hx:(m,l,k)=(Kd (lv.getD k 0) (JAv now (us.getD k (0,0)).2),lv.getD k 0,k):=by rw[ZA bs,ZA br,ZA bq,ZA ar]
    have bx:=ZB hx;have bz:=ZB bw;have c2:=ZB ba;have bb:=ZB a0;have c4:Hid (KPk w g t base B now F us lv tb pre V3):=H;clear hx bw ba a0 H ar bs br bq b7 a7
    have c5:∀ (R:World) (y:Nat×Nat×Nat),KH us lv now bo k=Option.some y->Keep [w.heap.size+1+1+1,w.heap.size+1+1+1+1] V3 R->Blk R (w.heap.size+1+1+1) 151 (c3 y)->Blk R (w.heap.size+1+1+1+1) 4 #[.bool true] ->
     KeepsFrom w6.heap.size W R/\KBH base t g tb F us lv W R/\KPk w g t base B now F us lv tb (pre++[k]) R:=by
     intro R y T a1 a5 cs;have H:KPk w g t base B now F us lv tb pre V3:=ZA c4;have bc:∀ q,q<w.heap.size->q∉[w.heap.size+1+1+1,w.heap.size+1+1+1+1]:=fun q hq hm=>by simp at hm;omega
     have ae:=ZA ch;have hs:(pre++[k]).foldl (KH us lv now) none=Option.some y:=by rw[ZA c2];exact T
     have bd:Keep [w.heap.size+1+1+1,w.heap.size+1+1+1+1] W R:=b9.zero.trans a1 (fun y T=>.inl T);have ct:TableAt R base t g F us lv:=by obtain⟨L,U,q⟩:=H.tab;exact⟨L,U,q.keep a1 (fun x hx=>bc x (ZA bk x hx))⟩
     refine⟨bd.fromCells (fun b j o N=>?_) _,⟨fun j=>JA j bd (by simp;omega),fun j=>by obtain⟨L,U,q⟩:=j;exact⟨L,U,q.keep bd (fun x hx=>bc x (ZA bk x hx))⟩⟩,⟨JA H.b3 a1 (by rw[AL,Ag];omega),JA H.b4 a1 (by rw[AL,Ag];omega),JA H.b5 a1 (by rw[AL,Ag];omega),by rw[hs];exact a5,by rw[hs];exact cs,JA H.tb a1 (by simp;omega),ct,H.geo.keep a1 (bc g (ZA cd)),H.keep.trans a1 iq⟩⟩;simp at j;rcases j with rfl | rfl
     . rw[c.best] at N;cases N;rfl
     rw[c.has] at N;cases N;rfl
    have c6:=ZB c5;clear c5;have b0:=I.cell 0;have b1:=I.cell 1;have c7:=I.cell 2;have g0:=I.frozen 0;have g1:=I.frozen 1;have g2:=I.frozen 2;have g3:=O.frozen 0;have d9:=I.lt;have hl:=O.lt;rcases bo with _ | ⟨y0,y1,y2⟩
    . have h4:cl V3 ⟨w.heap.size+1+1+1+1,0,none⟩ (.bool false):=uq (O.cell 0)
      simp[c3] at b0 b1 c7;have a2:=XAm (us:=us) (now:=now) (ZA bz);rw[<- ZA bx] at a2;have az:=ZB a2;clear a2;gi_wp2_with (refine⟨trivial,?_⟩);have a5:=((I.set 0 (.int .i64 (m:Nat))).set 1 (.int .i64 (l:Nat))).set 2 (.int .i64 (k:Nat));simp only[c3,AT,Ah,Aj] at a5;refine(ZA c6) _ (m,l,k) (ZA az) ?_ ?_ ?_
      . exact((((Keep.refl _ V3).sc (w.heap.size+1+1+1) 0).sc (w.heap.size+1+1+1) 1).sc (w.heap.size+1+1+1) 2).sc (w.heap.size+1+1+1+1) 0
      . exact a5.keep ((Keep.refl [w.heap.size+1+1+1+1] _).sc (w.heap.size+1+1+1+1) 0) sq
      have hh:=(O.keep ((((Keep.refl [w.heap.size+1+1+1] V3).setCell (p:=⟨w.heap.size+1+1+1,0,none⟩) (.inl sq) (.int .i64 (m:Nat))).setCell (p:=⟨w.heap.size+1+1+1,1,none⟩) (.inl sq) (.int .i64 (l:Nat))).setCell (p:=⟨w.heap.size+1+1+1,2,none⟩) (.inl sq) (.int .i64 (k:Nat))) sq).set 0 (.bool true)
      simpa using hh
    have h4:cl V3 ⟨w.heap.size+1+1+1+1,0,none⟩ (.bool true):=uq (O.cell 0)
    simp[c3] at b0 b1 c7;have am:=fun V=>AQ (n:=0).2 (YAc (m,l,k) (y0,y1,y2) V);have a2:=QAd (us:=us) (now:=now) (y:=(y0,y1,y2)) (ZA bz);rw[<- ZA bx] at a2;obtain⟨cu,c8⟩:=ex (Yz (m,l,k) (y0,y1,y2));rw[<- c8] at am a2;have az:=ZB a2;clear c8 a2;cases cu
    . gi_wp2_with (refine⟨trivial,?_⟩;refine(am _).mono ?_;clear am;rintro e J ⟨rfl,M⟩)
      have bf:=b9.tO M;have Y:KPk w g t base B now F us lv tb pre J:=(show KPk w g t base B now F us lv tb pre V3 from ZA c4).kept M
      have hs:(pre++[k]).foldl (KH us lv now) none=pre.foldl (KH us lv now) none:=by
       rw[ZA c2,<- ZA bb];have:=ZA az
       rwa [AF sq] at this
      exact⟨bf.fromCells sq _,⟨fun j=>JA j bf sq,fun j=>by obtain⟨L,U,q⟩:=j;exact⟨L,U,q.kO bf⟩⟩,⟨Y.b3,Y.b4,Y.b5,by rw[hs];exact Y.best,by rw[hs];exact Y.has,Y.tb,Y.tab,Y.geo,Y.keep⟩⟩
    gi_wp2_with (
     refine⟨trivial,?_⟩;refine(am _).mono ?_;clear am;rintro e J ⟨rfl,M⟩;have z5:=al.kO M;have u0:cl J (aq z 0) (m:Nat):=uq (z5.cell 0)
     have u1:cl J (aq z 1) (l:Nat):=uq (z5.cell 1)
     have u2:cl J (aq z 2) (k:Nat):=uq (z5.cell 2)
     have b5:=I.kO M;have r0:cl J ⟨w.heap.size+1+1+1,0,none⟩ y0:=by simpa [c3] using b5.cell 0
     have r1:cl J ⟨w.heap.size+1+1+1,1,none⟩ y1:=by simpa [c3] using b5.cell 1
     have r2:cl J ⟨w.heap.size+1+1+1,2,none⟩ y2:=by simpa [c3] using b5.cell 2
     have r3:cl J ⟨w.heap.size+1+1+1+1,0,none⟩ (.bool true):=uq ((O.kO M).cell 0)
     have v0:=b5.frozen 0;have v1:=b5.frozen 1;have v2:=b5.frozen 2;have v3:=(O.kO M).frozen 0;have da:=b5.lt;have db:=(O.kO M).lt;have dc:=z5.lt)
    have a5:=(((I.kO M).set 0 (.int .i64 (m:Nat))).set 1 (.int .i64 (l:Nat))).set 2 (.int .i64 (k:Nat));simp only[c3,AT,Ah,Aj] at a5;have hp:=ZA az;simp only[Bo] at hp;refine(ZA c6) _ (m,l,k) hp ?_ ?_ ?_
    . exact M.zero.trans (((((Keep.refl _ J).sc (w.heap.size+1+1+1) 0).sc (w.heap.size+1+1+1) 1).sc (w.heap.size+1+1+1) 2).sc (w.heap.size+1+1+1+1) 0) (fun y T=>.inl T)
    . exact a5.keep ((Keep.refl [w.heap.size+1+1+1+1] _).sc (w.heap.size+1+1+1+1) 0) sq
    have hh:=((O.kO M).keep ((((Keep.refl [w.heap.size+1+1+1] J).setCell (p:=⟨w.heap.size+1+1+1,0,none⟩) (.inl sq) (.int .i64 (m:Nat))).setCell (p:=⟨w.heap.size+1+1+1,1,none⟩) (.inl sq) (.int .i64 (l:Nat))).setCell (p:=⟨w.heap.size+1+1+1,2,none⟩) (.inl sq) (.int .i64 (k:Nat))) sq).set 0 (.bool true)
    simpa using hh
  rw[AU Z] at a6
  gi_wp2_with (first
   | (refine⟨trivial,?_⟩;refine ag.mono ?_;clear ag;rintro e w' ⟨rfl,rfl⟩)
   | (refine⟨trivial,?_⟩;refine ap.mono ?_;clear ap;rintro e w' ⟨rfl,rfl⟩)
   | (refine⟨trivial,?_⟩;refine a6.mono ?_;clear a6;rintro e w' ⟨rfl,rfl⟩))
  have hs:(pre++[k]).foldl (KH us lv now) none=pre.foldl (KH us lv now) none:=by rw[ZA b7];exact JAs (by rw[<- ZA ar];exact a7)
  exact⟨(Keep.refl [] W).fromCells sq _,⟨id,id⟩,⟨c.b3,c.b4,c.b5,by rw[hs];exact c.best,by rw[hs];exact c.has,c.tb,c.tab,c.geo,c.keep⟩⟩
 case done=>
  intro D' xs W dd c9 c ca;have cb:xs.foldl (KH us lv now) none=Ve us lv now:=by rw[show xs=JQ us 8 from c9];rfl
  obtain⟨bo,a0⟩:=ex (Ve us lv now);have u3:=c.best;have u4:=c.has;rw[cb,<- a0] at u3 u4;have cc:=c.keep;have cv:bo.getD (0,0,0)=bo.getD (0,0,0):=rfl;obtain⟨y,T⟩:=ex (bo.getD (0,0,0));obtain⟨z,G⟩:=ex bo.isSome;rw[<- T] at u3;rw[<- G] at u4;have bb:=ZB a0;have cw:=ZB T;have cx:=ZB G;have de:w.heap.size<=D':=Z
  clear bm c c9 cb a0 cv T G h0
  gi_wp2
  refine XU (Ck.2 ?_);have r:kz W W.drew:=(Keep.refl [] W).drew;refine ZT (fun X=>cl X ⟨w.heap.size+1+1+1,2,none⟩ (.int .i64 (y.2.2:Nat))/\cl X ⟨w.heap.size+1+1+1+1,0,none⟩ (.bool z)) 4 [[0,1,2,3]] ⟨by simpa [c3] using(u3.kO r).cell 2,uq ((u4.kO r).cell 0)⟩ ?_;simp only[PI];iterate 4 refine wG ?_
  refine VB ?_;have cy:=r.heap_same ca;have cz:=cc.tO r;clear u3 u4 ca cc r;generalize W.drew=X at *;go_wp2_with fail
  gi_wp2
  refine⟨sq,.inl ⟨_,_,rfl,run_takeDeferred cy,?_⟩⟩;refine⟨.tuple #[.int .i64 (y.2.2:Nat),.bool z],?_,by rw[ZA cx,ZA cw,ZA bb],cz.putObj Z _⟩;simp[results,results16,go_sem]
end
theorem MetaD.lay {lo:Nat} {D:PDisk} {a q:Nat} {bs:List UInt8} (b:lo<=D.n) (c:bs.length=64*q) (d:a+q<=lo):∀ j≤q,MetaD lo D (Qe D a bs j) j:=by
 intro j
 induction j with
 | zero=>exact fun _=>MetaD.refl _ _
 | succ j ih=>
   intro e;have h:=ih Z;rw[Vg];exact h.trans (MetaD.write Z (by rw[h.n];exact b) (length_seg 64 bs j Z))
theorem QBI {w:World} {base g t:Nat} {B:Nat} (h:StoreIs w base s d g t p m Fd Ft Fw Fm L0 L1 B S)
 (n:PReg.May ⟨S.st.gen+1,S.st.view,S.st.mode,S.st.epoch,S.st.seq,S.st.done,S.W.pos⟩) (aj:VW (VT S.us S.lv 8) S.W.pos.seg) (hs:S.slot<=1) (ha:S.D.acts<=9000000)
 {f i:Option Addr} (j k:Nat) (T U:List Nat) (b2:Rd w f (pgs B) (XP T)) (b3:Rd w i (pgs B) (XP U)) (b4:∀ x∈T,x<=1) (b5:∀ x∈U,x<=1) :
 Calls prog 97 #[pq s,.agg #[.slice f (pgs B) j,.slice i (pgs B) k]] w fun e w'=>e=.returned zz/\∃ ak D',
  StoreIs w' base s d g t p m ak Ft Fw Fm L0 L1 B { S with D:=D' }/\MetaD (6+4*pgs B) S.D D' 3/\Keep Fd w w'/\Grow w Fd ak:=by
 obtain⟨⟨mode,view,W,X,Y,bz,C⟩,a0⟩:=ex S.st;obtain⟨⟨a1,a2,a3,a4,a5⟩,E⟩:=ex S.W.pos;have o:=h.blk;rw[<- a0] at o n;rw[<- E] at n aj;obtain⟨b6,a6,c2,b7,c4,F,G,H,I,J,b8,L,b9,ba,bb,bc,bd,bf⟩:=KC o;simp only at F G H I J L n;have c5:=o.lt;have M:kz w (w.alloc (.cells #[.slice f (pgs B) j,.slice i (pgs B) k] 144)):=kq.alloc _;have hb:=Blk.new w 144 #[.slice f (pgs B) j,.slice i (pgs B) k]
 have al:∀ V,kz (w.alloc (.cells #[.slice f (pgs B) j,.slice i (pgs B) k] 144)) V->cl V (aq s 1) (pq g)/\cl V (aq s 2) (pq t)/\cl V (aq s 4) (pq p) /\
  cl V (aq s 5) (ii mode)/\cl V (aq s 6) (ii view)/\cl V (aq s 7) (ii W)/\cl V (aq s 8) (ii X)/\cl V (aq s 9) (ii Y)/\cl V (aq s 11) (ii C) /\
  cl V w.heap.size (.slice f (pgs B) j)/\cl V (aq w.heap.size 1) (.slice i (pgs B) k):=by
  intro V b;obtain⟨_,a6,c2,_,c4,F,G,H,I,J,_,L,_,_,_,_,_,_⟩:=KC (o.kO (M.tO b));have am:=hb.kO b;exact⟨a6,c2,c4,F,G,H,I,J,L,uq (am.cell 0),uq (am.cell 1)⟩
 have c6:((C:Nat):Int)+1<=2147483647:=by have:=n.1.2;simp only at this;omega
 obtain⟨c7,c8,c9,bg⟩:=h.log.wri
 have an:∀ V,kz w V->cr 88 #[pq p] V (.agg #[ii a1,ii a2,ii a3,ii a4,ii a5]):=by
  intro V b;have h1:=bg.blk.kO b;rw[<- E] at h1;exact VAo V p _ _ _ _ _ ⟨a1,a2,a3,a4,a5⟩ h1
 have ao:=fun V (b:kz w V)=>QAp (h.log.tab.kO b);have a7:=fun V (b:kz w V)=>h.log.geom.kO b;have bh:=ZB n;have ca:=ZB a0;have cb:=ZB E;have cc:=ZB o;clear n a0 E o b6 a6 c2 b7 c4 F G H I J b8 L b9 ba bb bc bd bf hb;go_enter func97,ntmps97
 go_wp2
 have N:=ZB al;clear al;refine ZT (fun V=>cl V (aq s 1) (pq g)/\cl V (aq s 2) (pq t)/\cl V (aq s 4) (pq p)/\cl V (aq s 5) (ii mode)/\cl V (aq s 6) (ii view)/\cl V (aq s 7) (ii W)/\cl V (aq s 8) (ii X)/\cl V (aq s 9) (ii Y)/\cl V (aq s 11) (ii C)/\cl V w.heap.size (.slice f (pgs B) j)/\cl V (aq w.heap.size 1) (.slice i (pgs B) k)) 55 [[0,1,2,3,4,5,6,7,8,9,10,11,12,13,14,15,16,17,18,19,20,21,22,23,24,25,26,27,28,29,30,31,32,33,34,35,36,37,38,40,41,42,43,44,45,46,47],[39],[48,49],[50,51,52,53,54]] (ZA N _ kq.drew) ?_;simp only[PI];iterate 47 refine wG ?_
 refine JB rq fun K l=>?_;have kd:=(M.tO (Keep.refl [] _).drew);go_wp2_with (refine(an _ kd).mono ?_;clear an;rintro e w2 ⟨rfl,ap⟩);have a8:=(Keep.refl [] _).drew.tO ap;refine l _ _ (ZA N w2 a8) ?_
 try simp only[Act.put,PU]
 refine JB rq fun K l=>?_;go_wp2_with (refine(ao _ (M.tO a8)).mono ?_;clear ao;rintro e r ⟨ug,uc,rfl,cd,hu,ar⟩);have a9:=a8.tO ar;refine l _ _ (ZA N r a9) ?_
 iterate 1 refine wG ?_
 refine JB rq fun K l=>?_;have z:kz w r:=M.tO a9
 have au:Calls prog 226 #[pq g,.agg #[ii (((C:Nat):Int)+1),view,mode,W,X,Y,a1,a2,a3,a4,a5,.slice f (pgs B) j,.slice i (pgs B) k,.slice (some ug) 8 uc]] r
  fun e w'=>∃ u bs,e=.returned (.tuple #[u,zz])/\bs.length=128/\w'.ownsRow r.heap.size 5 1 u 128 (bys bs)/\kz r w':=
  ZBf (a7 r z) (ZA bh) j T k U (b2.keep z) (b3.keep z) b4 b5 ug uc (Rd.of_ownN hu) aj
 go_wp2_with (refine au.mono ?_;clear au;rintro e v ⟨ce,bs,rfl,av,O,aa⟩;obtain⟨u4,bi,rfl,bj⟩:=JI O Z);have bk:=a9.tO aa;refine l _ _ (ZA N v bk) ?_
 iterate 4 refine wG ?_
 refine VB ?_
 go_wp2
 have y:kz w v:=z.tO aa;obtain⟨x0,x1,_,_,_,_,_,_,_,_,_,_,_,_,_,ab,_,_⟩:=KC (h.blk.kO y);obtain⟨A,bl⟩:∃ A:Nat,(1:Int)-(S.slot:Nat)=(A:Nat)/\A<=1:=⟨1-S.slot,Z,Z⟩;obtain⟨cf,bm⟩:=bl;have cg:((S.slot:Nat):Int)<=1:=Z
 obtain⟨az,ac⟩:=ex (2+2*A);have ad:=fun V (b:kz w V)=>Qq V g B (a7 V b) A bm;simp only[<- ac] at ad;have aw:=h.log.geom;have ch:=ZD aw.pos aw.few;have ci:=h.log.many;have P:=MetaD.lay (lo:=6+4*pgs B) (D:=S.D) (a:=az) (q:=2) (bs:=bs) Z av Z 2 (AG _);have cj:=own_mem O (g:=u4) (by simp[Value.ownBlock]);have bn:=h.log.disk.lt;have ae:=fun V (b:kz v V)=>YBT (h.log.disk.kO (y.tO b)) h.log.off h.log.fuse (by have:=b.size;have:=y.size;have:=h.log.le;omega) az 2 u4 0 bi bs Z Z av bj Z Z (Rd.of_own (QB O b)) (by have:=b.size;omega) (fun hm=>by have:=bn _ hm;have:=z.size;omega);simp only[Nat.reduceMul] at ae;have ck:=ZB ac;clear ac;refine ZT (fun V=>cl V s (pq d)/\cl V (aq s 1) (pq g)/\cl V (aq s 15) S.slot) 15 [[0,1,2,3,4,5,6,7,8,9,10,11,12,14],[13]] ⟨x0,x1,ab⟩ ?_;simp only[PI];iterate 14 refine wG ?_
 refine JB rq fun K l=>?_;have af:kz v v.drew:=kq.drew;go_wp2_with (refine(ad _ (y.tO af)).mono ?_;clear ad;rintro e w5 ⟨rfl,rfl⟩);refine l _ _ (⟨x0,x1,ab⟩) ?_
 try simp only[Act.put,PU]
 refine VB ?_;go_wp2_with fail;have ax:=ae _ af;clear ae;refine ax.mono ?_;clear ax;rintro e w6 ⟨rfl,bo,bp,bq,br⟩;have Q:Keep Fd w w6:=(y.tO af).zero.trans bq (fun x c=>.inl c);have bt:s∉Fd:=fun hm=>h.aps (by simp[hm]);have ay:Grow w Fd bo:=fun x c=>(br x c).imp id (fun ag=>by have h2:v.heap.size<=x:=ag;have:=y.size;omega);obtain⟨cm,_,_,_,_,_,_,_,_,_,_,_,_,_,_,_,_,_⟩:=KC (h.blk.keep Q bt);have cn:=P.acts;have b0:=Xt bp (P.off.trans h.log.off) (P.fuse.trans h.log.fuse) Z (by have:=Q.size;have:=h.log.le;omega);clear O aa hu ar ap x0 x1 ab a7;go_wp2_with (refine b0.mono ?_;clear b0;rintro e w7 ⟨rfl,b1,bu,bv,bw⟩);go_ret;have ah:Keep Fd w w7:=Q.trans bv ay;have ai:Grow w Fd b1:=fun x c=>(bw x c).elim (ay x) (fun ag=>.inr (AB Q.size ag));have R:=P.trans (MetaD.flush (6+4*pgs B) (Qe S.D az bs 2));have bx:=h.log.setDisk bu ah ai R.off R.fuse R.n;exact⟨rfl,b1,_,(h.setLog bx (ah.sub (fun x c=>by simp[c])) ai (fun x c=>.inl c)).1,R,ah,ai⟩
theorem StoreIs.setLie {w w':World} {base g t:Nat} {B:Nat} (h:StoreIs w base s d g t p m Fd Ft Fw Fm L0 L1 B S) (j k:Nat) (c e:Value) (l n:List Nat)
 (r:Blk w' s 146 #[pq d,pq g,pq t,pq m,pq p,
 .int .i64 S.st.mode,ii S.st.view,ii S.st.epoch,ii S.st.seq,ii S.st.done,ii S.st.mount,ii j,zz,zz,zz,ii k,c,e]) (i:Keep [s] w w')
 (u:w.ownsRow base 3 1 c (pgs B) (XP l)) (v:w.ownsRow base 3 1 e (pgs B) (XP n)) (o:Apart (c.ownBlock.toList++e.ownBlock.toList) (s :: g :: (Fd++(Ft++(Fw++Fm))))) :
 StoreIs w' base s d g t p m Fd Ft Fw Fm c e B { S with st:={ S.st with gen:=j },slot:=k,lie0:=l,lie1:=n }:=by
 have b:∀ x,x∈g :: (Fd++(Ft++(Fw++Fm)))->x∉[s]:=fun x b f=>by
  simp at f;subst f;exact h.aps b
 have q:∀ x∈c.ownBlock.toList++e.ownBlock.toList,x∉[s]:=fun x b f=>o x b (by simp at f;simp[f])
 exact⟨r,h.log.keep i (b _ sq) (fun x a=>b x (by simp[a])) (fun x a=>b x (by simp[a])) (fun x a=>b x (by simp[a])),h.img.keep i (fun x a=>b x (by simp[a])),h.blen,
  KA u i (fun x a=>q x (At _ (uq a))),KA v i (fun x a=>q x (A6 _ (uq a))),h.sbase,h.gbase,h.apm,h.aps,o⟩
def LieAt (W:World) (N B:Nat) (F:List Nat) (V:Value) (l:List Nat):Prop:=∃ A c,V=.slice A (pgs B) c/\W.ownsRow N 3 1 V (pgs B) (XP l)/\(∀ x∈l,x<=1)/\Apart F V.ownBlock.toList
theorem LieAt.keep {W W':World} {N B:Nat} {F e k:List Nat} {V:Value} {l:List Nat} (h:LieAt W N B F V l) (i:Keep k W W') (j:Apart k V.ownBlock.toList) (d:Grow W F e):LieAt W' N B e V l:=by
 obtain⟨A,c,m,f,n,o⟩:=h;refine⟨A,c,m,KA f i (fun g d a=>j g a (by simp[d])),n,fun x b a=>(d x b).elim (fun b=>o x b a) (fun b=>?_)⟩;have:=(own_mem f a).2;omega
theorem YAA {w:World} {base g t:Nat} {B:Nat} (h:StoreIs w base s d g t p m Fd Ft Fw Fm L0 L1 B S)
 (ho:S.W.Ok) (dh:S.W.pos.lsn<2147483647) (ha:S.D.acts<=8000000) (hs:S.slot<=1) (bg:∀ x∈S.lie0,x<=1) (bh:∀ x∈S.lie1,x<=1)
 (bi:∀ R bj ap,Emitted B S.D S.us S.W R bj ap->PReg.May ⟨S.st.gen+1,S.st.view,S.st.mode,S.st.epoch,S.st.seq,S.st.done,ap.pos⟩/\VW (VT bj S.lv 8) ap.pos.seg/\R.acts<=8000100) :
 Calls prog 21 #[.pointer (some s)] w fun e w'=>∃ u n ns bk Fw' bl bm H I T D' l0 l1,e=.returned (.tuple #[u,.int .i64 0])/\w'.ownsRow w.heap.size 3 1 u n (XP ns) /\
  Emitted B S.D S.us S.W H I T/\MetaD (6+4*pgs B) H D' (2*pgs B+4)/\(∀ x∈l0,x<=1)/\(∀ x∈l1,x<=1) /\
  StoreIs w' base s d g t p m bk Ft Fw' Fm bl bm B ⟨D',VT I S.lv 8,S.lv,T,⟨S.I.bl,List.replicate S.I.bd.length false,S.I.ol,List.replicate S.I.od.length false⟩,{ S.st with gen:=S.st.gen+1 },1-S.slot,l0,l1⟩ /\
  Keep (VO s g Fd Ft Fw Fm L0 L1) w w'/\Grow w (VO s g Fd Ft Fw Fm L0 L1) (VO s g bk Ft Fw' Fm bl bm)/\n=(relO I S.lv 8).length/\ns=relO I S.lv 8:=by
 have ar:=JV w base s d g t p m Fd Ft Fw Fm L0 L1 B S h 0 (.inl rfl);have bn:=YAG h.log ho ha dh;have bo:=h.blk;have eb:s∉Fd++(Ft++Fw):=fun b=>h.aps (by simp only[AL,AD] at b ⊢;rcases b with b | b | b <;> simp[b]);obtain⟨bp,bq,c2,br,c4,c5,c6,c7,c8,c9,bs,bt,bu,bv,bw,bz,ca,cb⟩:=KC bo;clear bp bq c2 br c5 c6 c7 c8 c9 bs bt bu bv bw bz ca cb;rw[show ((0:Nat):Int)=0 from rfl] at ar;go_enter func21,ntmps21
 go_wp2_with (first
  | (go_at_call 93;refine ar.mono ?_;clear ar;rintro e w' ⟨rfl,rfl⟩)
  | (go_at_call 94;refine bn.mono ?_;clear bn c4;rintro e w1 ⟨rfl,r,U,H,I,T,h1,au,ag,cc,di⟩))
 obtain⟨cd,ce,ec⟩:=bi H I T au;obtain⟨ah,cf⟩:=h.setLog h1 ag cc di;have cg:=ag;have av:=Blk.new w1 144 #[.slice none 0 0,.slice none 0 0];have a4:kz w1 (w1.alloc (.cells #[.slice none 0 0,.slice none 0 0] 144)):=kq.alloc _;have ed:(w1.alloc (.cells #[.slice none 0 0,.slice none 0 0] 144)).heap.size=w1.heap.size+1:=by rw[AM]
 have V:∀ x∈VO s g r Ft U Fm L0 L1,x<w1.heap.size:=ah.lt;have ch:=ah.kO a4;have ee:=av.lt;generalize w1.alloc (.cells #[.slice none 0 0,.slice none 0 0] 144)=wA at *;generalize ef:w1.heap.size=bx at *;have c:∀ x,x=s\/x=g\/x∈r\/x∈Ft\/x∈U\/x∈Fm\/x∈L0.ownBlock.toList\/x∈L1.ownBlock.toList->x<bx:=fun x a=>V x (by simpa only[VO,AL,AD] using a);have eg:=ZD h.log.geom.pos h.log.geom.few;have eh:=ZB h1;have ei:=ZB ah;have dj:=ZB au;have ci:=ZB cd;have dk:=ZB ce;clear h1 ah au cd ce bi V bo
 go_loopw [3,5,19] (fun _ _ i wr=>∃ (k:Nat) (X a5:Value) (J:List Nat) (a6:PDisk) (N lb:List Nat),k<=2/\i=.int .i64 (k:Nat)/\Blk wr bx 144 #[X,a5]/\(0<k->LieAt wr wA.heap.size B J X N)/\(1<k->LieAt wr wA.heap.size B J a5 lb) /\
  StoreIs wr base s d g t p m J Ft U Fm L0 L1 B { S with D:=a6,us:=I,lv:=S.lv,W:=T }/\MetaD (6+4*pgs B) H a6 (k*pgs B)/\Keep r w1 wr/\Grow wA r J) (fun _ _ i _=>2-(intOf i).toNat)
 case atStart=>exact⟨0,_,_,r,H,[],[],Z,rfl,av,Z,Z,ch,uq (MetaD.refl (6+4*pgs B) H),a4.zero,fun x a=>.inl a⟩
 clear av a4 ch;obtain⟨k,X,a5,J,a6,N,lb,hk,rfl,hb,a7,aw,Y,a0,ax,O⟩:=hrel;have ay:bx∉J:=fun b=>(O bx b).elim (fun b=>by have:=c bx (by simp[b]);omega) (fun b=>Z);have a8:wA.heap.size<=wr.heap.size:=by have:=hb.lt;omega
 by_cases a4:k=0
 . subst a4
   have cj:=a0.acts;have a9:=KAY Y bg bh (by simp only;omega) false
   go_wp2_with (
    (refine a9.mono ?_)
    clear a9;rintro e o ⟨u,az,C,R,rfl,hu,b0,b1,b2,a1,a2,b3⟩;obtain⟨f,j,rfl,_⟩:=XB hu;have E:=hb.keep a1 ay;have y:cl o bx X:=uq (E.cell 0)
    have f0:=E.frozen 0)
   have aa:=VC hu (base':=wA.heap.size) a8;have L:Keep [bx] o (o.setCell bx (.slice f (pgs B) j)):=kq.sc bx 0;have b4:=E.set 0 (.slice f (pgs B) j);have ab:Grow wA r C:=fun x a=>(a2 x a).elim (fun a=>O x a) (fun M=>.inr (AB a8 M));have b5:bx∉C:=fun b=>(ab bx b).elim (fun b=>by have:=c bx (by simp[b]);omega) (fun b=>Z)
   have b6:Apart (VO s g C Ft U Fm L0 L1) [bx]:=fun x a b=>by
    simp only[Ag] at b;subst b;simp only[VO,AL,AD] at a;rcases a with a | a | a | a | a | a | a | a
    . have:=c x (by simp[a]);omega
    . have:=c x (by simp[a]);omega
    . exact b5 a
    . have:=c x (by simp[a]);omega
    . have:=c x (by simp[a]);omega
    . have:=c x (by simp[a]);omega
    . have:=c x (by simp[a]);omega
    have:=c x (by simp[a]);omega
   have ai:∀ {q:Value} {n:Nat} {ys:List Value},o.ownsRow wA.heap.size 3 1 q n ys->∀ x,q.ownBlock=some x->x∉[bx]:=fun hq x a b=>by
    simp at b;subst b;exact own_blk_ne hq E (by decide) a
   have b7:Keep r w1 (o.setCell bx (.slice f (pgs B) j)):=(ax.trans a1 (fun x a=>(O x a).imp id Z)).trans L iq;go_roundw;case rel=>exact⟨1,.slice f (pgs B) j,a5,C,R,az,lb,Z,rfl,uq b4,fun _=>⟨f,j,rfl,KA aa L (ai aa),b0,b3⟩,Z,b1.keep L b6,(a0.trans b2).mono Z,b7,ab⟩
   case measure=>simp[intOf]
 by_cases ag:k=1
 . subst ag
   have cj:=a0.acts;have a9:=KAY Y bg bh (by simp only;omega) true
   go_wp2_with (
    (refine a9.mono ?_)
    clear a9;rintro e o ⟨u,az,C,R,rfl,hu,b0,b1,b2,a1,a2,b3⟩;obtain⟨f,j,rfl,_⟩:=XB hu;have E:=hb.keep a1 ay;have z:cl o (aq bx 1) a5:=uq (E.cell 1)
    have f1:=E.frozen 1)
   have aa:=VC hu (base':=wA.heap.size) a8;have L:Keep [bx] o (o.setCell (aq bx 1) (.slice f (pgs B) j)):=kq.sc bx 1;have b4:=E.set 1 (.slice f (pgs B) j);have ab:Grow wA r C:=fun x a=>(a2 x a).elim (fun a=>O x a) (fun M=>.inr (AB a8 M));have b5:bx∉C:=fun b=>(ab bx b).elim (fun b=>by have:=c bx (by simp[b]);omega) (fun b=>Z)
   have b6:Apart (VO s g C Ft U Fm L0 L1) [bx]:=fun x a b=>by
    simp only[Ag] at b;subst b;simp only[VO,AL,AD] at a;rcases a with a | a | a | a | a | a | a | a
    . have:=c x (by simp[a]);omega
    . have:=c x (by simp[a]);omega
    . exact b5 a
    . have:=c x (by simp[a]);omega
    . have:=c x (by simp[a]);omega
    . have:=c x (by simp[a]);omega
    . have:=c x (by simp[a]);omega
    have:=c x (by simp[a]);omega
   have ai:∀ {q:Value} {n:Nat} {ys:List Value},o.ownsRow wA.heap.size 3 1 q n ys->∀ x,q.ownBlock=some x->x∉[bx]:=fun hq x a b=>by
    simp at b;subst b;exact own_blk_ne hq E (by decide) a
   have b7:Keep r w1 (o.setCell (aq bx 1) (.slice f (pgs B) j)):=(ax.trans a1 (fun x a=>(O x a).imp id Z)).trans L iq;have ck:=(a7 Z).keep a1 (fun x a b=>by obtain⟨_,_,_,_,_,hz⟩:=a7 Z;exact hz x a b) a2;have dl:LieAt (o.setCell (aq bx 1) (.slice f (pgs B) j)) wA.heap.size B C X N:=ck.keep L (fun x a b=>by obtain⟨_,_,_,hz,_⟩:=ck;exact ai hz x (uq b) a) (fun x a=>.inl a);go_roundw;case rel=>exact⟨2,X,.slice f (pgs B) j,C,R,N,az,Z,rfl,uq b4,fun _=>dl,fun _=>⟨f,j,rfl,KA aa L (ai aa),b0,b3⟩,b1.keep L b6,(a0.trans b2).mono Z,b7,ab⟩
   case measure=>simp[intOf]

 obtain rfl:k=2:=Z
 have a7:=a7 Z;have aw:=aw Z;obtain⟨F,y,rfl,b8,cm,cn⟩:=a7;obtain⟨G,z,rfl,b9,co,cp⟩:=aw;obtain⟨x0,_,_,_,_,_,_,_,_,_,_,_,_,_,_,_,_,_⟩:=KC Y.blk;have cj:=a0.acts;have ac:=Y.log;have cq:=Xt (D:=a6) ac.disk ac.off ac.fuse Z ac.le
 go_wp2_with (
  (refine cq.mono ?_)
  clear cq;rintro e w3 ⟨rfl,ad,dm,P,aj⟩;have ba:=hb.keep P ay;have e0:cl w3 bx (.slice F (pgs B) y):=uq (ba.cell 0)
  have e1:cl w3 (aq bx 1) (.slice G (pgs B) z):=uq (ba.cell 1))
 have cr:Grow wA r ad:=fun x a=>(aj x a).elim (fun a=>O x a) (fun M=>.inr (AB a8 M));have cs:=a0.trans (MetaD.flush (6+4*pgs B) a6);have dn:=ac.setDisk dm P aj rfl rfl rfl;have dp:=(Y.setLog dn (P.sub (fun x a=>by simp[a])) aj (fun x a=>.inl a)).1;have ct:=KA b8 P (fun x a b=>cn x b (by simp[a]));have cu:=KA b9 P (fun x a b=>cp x b (by simp[a]));have ej:=cs.acts;have cv:=QBI dp (ZA ci) (ZA dk) hs (by simp only;omega) y z N lb (Rd.of_own ct) (Rd.of_own cu) cm co;have dq:bx∉ad:=fun b=>(cr bx b).elim (fun b=>by have:=c bx (by simp[b]);omega) (fun b=>Z);have ek:=P.size
 go_wp2_with (
  (refine cv.mono ?_)
  clear cv e0 e1 x0;rintro e A ⟨rfl,bb,dr,bc,ds,ak,cw⟩;have al:=ba.keep ak dq;have e0:cl A bx (.slice F (pgs B) y):=uq (al.cell 0)
  have e1:cl A (aq bx 1) (.slice G (pgs B) z):=uq (al.cell 1))
 have a3:=bc.blk;obtain⟨bp,bq,c2,br,c4,c5,c6,c7,c8,c9,bs,bt,bu,bv,bw,bz,ca,cb⟩:=KC a3;obtain⟨⟨cc,a2⟩,_⟩:=ZA ci;have el:IntKind.i64.wrap (((S.st.gen:Nat):Int)+1)=((S.st.gen:Nat):Int)+1:=by rw[AI];simp only at a2;omega
 have em:IntKind.i64.wrap (1-((S.slot:Nat):Int))=1-((S.slot:Nat):Int):=by rw[AI];omega
 have bd:bx≠s:=fun e=>by have:=c s sq;omega
 have en:=a3.frozen 11;have eo:=a3.frozen 15;have ep:=a3.frozen 16;have eq:=a3.frozen 17;have bd:bx≠s:=fun e=>by have:=c s sq;omega
 have am:∀ W,Keep [s] A W->cl W bx (.slice F (pgs B) y)/\cl W (aq bx 1) (.slice G (pgs B) z):=fun W hk=>⟨uq ((al.keep hk (uq bd)).cell 0),uq ((al.keep hk (uq bd)).cell 1)⟩;have cx:Keep [s] A (A.setCell (aq s 11) (.int .i64 (((S.st.gen:Nat):Int)+1))):=(Keep.refl [s] A).sc s 11;have dt:Keep [s] A ((A.setCell (aq s 11) (.int .i64 (((S.st.gen:Nat):Int)+1))).setCell (aq s 15) (.int .i64 (1-((S.slot:Nat):Int)))):=cx.sc s 15;refine ZR (fun w'=>cl w' bx (.slice F (pgs B) y)/\cl w' (aq bx 1) (.slice G (pgs B) z)) 22 (.held 0 (.held 1 (.held 2 (.held 3 (.held 4 (.held 5 (.held 6 (.held 9 (.held 10 (.held 11 (.held 14 (.two 7 (.held 8 (.loud 12 (.held 13 (.held 15 (.held 16 (.held 17 (.loud 18 (.held 19 (.held 20 (.loud 21 .nil)))))))))) 12 (.held 13 (.loud 7 (.held 8 (.held 15 (.held 16 (.held 17 (.loud 18 (.held 19 (.held 20 (.loud 21 .nil)))))))))))))))))))))) ⟨e0,e1⟩ ?_;simp only[RT.pick,PJ];iterate 11 refine wW ?_
 refine wpR_two ?_ ?_
 all_goals
  refine wpR_loud rq fun K Q=>?_;go_wp2_with fail;refine Q _ _ (am _ kq.drew) ?_
  iterate 1 refine wW ?_
  refine wpR_loud rq fun K Q=>?_;go_wp2_with fail;refine Q _ _ (am _ kq.drew) ?_
  iterate 4 refine wW ?_
  refine wpR_loud rq fun K Q=>?_;go_wp2_with fail;refine Q _ _ (am _ cx.drew) ?_
  iterate 2 refine wW ?_
  refine wpR_loud rq fun K Q=>?_;go_wp2_with fail;refine Q _ _ (am _ dt.drew) ?_
  try simp only[Act.put,PU]
  refine wpR_nil ?_;have cy:((S.st.gen+1:Nat):Int)=(S.st.gen:Nat)+1:=sq
  have cz:((1-S.slot:Nat):Int)=1-(S.slot:Nat):=Z
  have d0:=(((a3.set 11 (.int .i64 (((S.st.gen:Nat):Int)+1))).set 15 (.int .i64 (1-((S.slot:Nat):Int)))).set 16 (.slice F (pgs B) y)).set 17 (.slice G (pgs B) z)
  have d1:Keep [s] A ((((A.setCell (aq s 11) (.int .i64 (((S.st.gen:Nat):Int)+1))).setCell (aq s 15) (.int .i64 (1-((S.slot:Nat):Int)))).setCell (aq s 16) (.slice F (pgs B) y)).setCell (aq s 17) (.slice G (pgs B) z)):=
   ((((Keep.refl [s] A).sc s 11).sc s 15).sc s 16).sc s 17
  have d2:base<=wA.heap.size:=by have:=Y.sbase;have:=c s sq;omega
  have ae:∀ x,x∈(Value.slice F (pgs B) y).ownBlock.toList\/x∈(Value.slice G (pgs B) z).ownBlock.toList->wA.heap.size<=x/\x∉ad/\x∉bb:=fun x a=>by
   have h0:wA.heap.size<=x/\x<wr.heap.size/\x∉J:=by
    rcases a with a | a
    . exact⟨(own_mem b8 a).1,(own_mem b8 a).2,fun b=>cn x b a⟩
    exact⟨(own_mem b9 a).1,(own_mem b9 a).2,fun b=>cp x b a⟩
   have h3:x∉ad:=fun b=>(aj x b).elim h0.2.2 Z;exact⟨h0.1,h3,fun b=>(cw x b).elim h3 Z⟩
  have du:=VC (KA ct ak (fun x a=>(ae x (.inl (by simp[a]))).2.1)) d2;have dv:=VC (KA cu ak (fun x a=>(ae x (.inr (by simp[a]))).2.1)) d2
  have af:=bc.setLie (S.st.gen+1) (1-S.slot) (.slice F (pgs B) y) (.slice G (pgs B) z) N lb (by rw[cy,cz];simpa using d0) d1 du dv (fun x a b=>by
   have h0:=ae x (by simpa only[AD] using a);simp only[AL,AD] at b;rcases b with b | b | b | b | b | b
   . have:=c s sq;omega
   . have:=c g sq;omega
   . exact h0.2.2 b
   . have:=c x (by simp[b]);omega
   . have:=c x (by simp[b]);omega
   have:=c x (by simp[b]);omega)
  clear d0 cy cz;have dw:=d1.drew;replace af:=af.kO kq.drew;have dx:=af.blk;have d3:=VBA af.img;obtain⟨z0,z1,z2,z3,z4,z5,z6,z7,z8,z9,d4,d5,d6,d7,d8,d9,da,db⟩:=KC dx;clear z0 z1 z4 z5 z6 z7 z8 z9 d4 d5 d6 d7 d8 d9 da db;have er:s∉Fm:=fun b=>bc.aps (by simp[b])
  go_wp2_with (first
   | (go_at_call 98
      refine d3.mono ?_;clear d3;rintro e w6 ⟨rfl,dy,dc⟩;have an:=af.setImg dy rfl dc;have dd:=YAT an.log.tab
      obtain⟨z0,z1,z2,z3,z4,z5,z6,z7,z8,z9,d4,d5,d6,d7,d8,d9,da,db⟩:=KC an.blk)
   | (go_at_call 99
      refine dd.mono ?_;clear dd;rintro e w7 ⟨u,rfl,de,dz,bf⟩;obtain⟨f,j,rfl,_⟩:=XB de))
  go_ret2;have e2:=(an.setLog (an.log.setTab dz bf) (bf.sub (fun x a=>by simp[a])) (Grow.refl _ _) (Grow.refl _ _)).1;have ao:∀ {l:List Nat} {u v:World},(∀ x∈l,x=s\/x∈Fd\/x∈Ft\/x∈Fw\/x∈Fm)->Keep l u v->Keep (VO s g Fd Ft Fw Fm L0 L1) u v:=fun hl hk=>hk.sub (XBe hl);have V:∀ x∈r,x∈VO s g Fd Ft Fw Fm L0 L1\/w.heap.size<=x:=fun x a=>cf x (by simp[VO,a]);have es:w.heap.size<=w1.heap.size:=cg.size;have e3:∀ x∈J,x∈VO s g Fd Ft Fw Fm L0 L1\/w.heap.size<=x:=fun x a=>(O x a).elim (V x) (fun M=>.inr Z);have df:∀ x∈ad,x∈VO s g Fd Ft Fw Fm L0 L1\/w.heap.size<=x:=fun x a=>(cr x a).elim (V x) (fun M=>.inr Z);have e4:∀ x∈bb,x∈VO s g Fd Ft Fw Fm L0 L1\/w.heap.size<=x:=fun x a=>(cw x a).elim (df x) (fun M=>.inr Z);have e5:=ao (by intro x a;simp only[AD] at a;rcases a with h | h | h <;> simp[h]) cg;have e6:=e5.trans ax V;have e7:=e6.trans P e3;have e8:=e7.trans ak df;have e9:=e8.trans (ao (by intro x a;simp at a;simp[a]) dw) (fun x a=>.inl a);have dg:=e9.trans (ao (by intro x a;simp[a]) dc) (fun x a=>.inl a);have ea:=dg.trans (ao (by intro x a;simp[a]) bf) (fun x a=>.inl a);refine⟨_,_,_,bb,U,.slice F (pgs B) y,.slice G (pgs B) z,H,I,T,dr,N,lb,rfl,VC de dg.size,ZA dj,(cs.trans ds).mono Z,cm,co,e2,ea,?_,rfl,rfl⟩;intro x a;simp only[VO,AL,AD] at a;rcases a with a | a | a | a | a | a | a | a
  . exact .inl (by simp[VO,a])
  . exact .inl (by simp[VO,a])
  . exact e4 x a
  . exact .inl (by simp[VO,a])
  . exact cf x (by simp[VO,a])
  . exact .inl (by simp[VO,a])
  . exact .inr (by have:=(ae x (.inl a)).1;omega)
  exact .inr (by have:=(ae x (.inr a)).1;omega)