/- Lemmas of the proof, with their conditions. -/
import Derived.Test.YtfedaknhecbehaaGreatM08
import Derived.Lib.AppendZeros
namespace Go.Proofs.YtfedaknhecbehaaGreat
open Tryz Go.RowKit
variable {w:World} {A:Option Addr} {n:Nat} {ls:List (Value×Nat×List Value)}
set_option linter.all false
set_option maxHeartbeats 4000000
set_option maxRecDepth 20000
theorem elemPart:ElemN prog 342 345 (.agg #[zz,zn]) 2 32:=ElemN.of underlying342 (by kernel_rfl) rfl Z
structure PtsOk (w:World) (q:Value×Nat×List Value):Prop where
 at_:∃ a c,q.1=.slice (some a) q.2.1 c/\q.2.1<=c/\Rd w (some a) (q.2.1*2) q.2.2
 one:∀ u∈q.2.2,u.oneCell'=true
 few:q.2.1<=1000
structure Pts (w:World) (A:Option Addr) (n:Nat) (ls:List (Value×Nat×List Value)):Prop where
 row:Rd w A n (ls.map (·.1))
 ok:∀ q∈ls,PtsOk w q
theorem Pts.len (h:Pts w A n ls):ls.length=n:=uq h.row.1
theorem Pts.keep {w':World} (h:Pts w A n ls) (b:kz w w'):Pts w' A n ls:=
 ⟨h.row.keep b,fun q d=>by obtain⟨⟨a,c,e,f,g⟩,i,j⟩:=h.ok q d;exact⟨⟨a,c,e,f,g.keep b⟩,i,j⟩⟩
def ZAB (ls:List (Value×Nat×List Value)):Nat:=(ls.map (·.2.1)).sum
def JBS (ls:List (Value×Nat×List Value)):List Value:=ls.flatMap (·.2.2)
theorem XBH (ls:List (Value×Nat×List Value)) (q:Value×Nat×List Value):ZAB (ls++[q])=ZAB ls+q.2.1:=by simp[ZAB]
theorem QBH (ls:List (Value×Nat×List Value)) (k:Nat):ZAB (ls.take k)<=ZAB ls:=by
 conv=>rhs;rw[<- CZ k ls]
 unfold ZAB;rw[Bf,Db];omega
theorem QBE (n:Nat) (h:1<=n) (j:n<=1000000) (w:World) :
 Calls prog 366 #[zn,n] w fun e w'=>∃ v,e=.returned v/\w'.ownsRow w.heap.size 345 2 v 0 []/\kz w w':=by
 have k:(0:Int)<(n:Nat):=Z
 obtain⟨i,hi,d,l,f⟩:=elemPart.info;have a:=Lib.run_append_nil_zeros (P:=prog) w 342 3 342 345 i (.agg #[zz,zn]) .i64 .i64 underlying342 underlying3 hi d n Z Z Z (by rw[f];omega);have g:=grownCap_ge w n 0 345;have b:=grownCap_le_maxLen w n 0 345 (by simp[maxLen];omega);obtain⟨cp,c⟩:=ex (grownCap w n 0 345);rw[<- c] at a g b
 have m:(Builtin.zeroCells (Value.agg #[zz,zn]).cells n++Builtin.zeroCells (Value.agg #[zz,zn]).cells (cp-n)).size=cp*2:=by
  rw[Array.size_append,size_zeroCells,size_zeroCells,show (Value.agg #[zz,zn]).cells.size=2 from rfl];omega
 generalize Builtin.zeroCells (Value.agg #[zz,zn]).cells n++Builtin.zeroCells (Value.agg #[zz,zn]).cells (cp-n)=cs at *;clear c;go_enter func366,ntmps366;go_wp2_with (at_builtin;refine Lib.wpList_append_run _ rfl _ _ _ _ rfl _ _ rfl rfl _ _ a ?_);go_ret;refine⟨_,rfl,⟨sq,.inr ⟨w.heap.size,cp,cs,rfl,AG _,?_,AP _,b,Z,sq⟩⟩,(kq.drew.alloc _)⟩;exact(Blk.new w 345 cs).drew
theorem YAh (c:Nat) (m:Pts w A n ls) (h0:1<=ZAB ls) (a5:ZAB ls<=100000) (hn:n<=1000000) :
 Calls prog 286 #[.slice A n c] w fun e w'=>∃ u,e=.returned u/\w'.ownsRow w.heap.size 345 2 u (ZAB ls) (JBS ls)/\kz w w':=by
 have R:=m.len;have r:=ZB R;have F:∀ k,ZAB (ls.take k)<=ZAB ls:=fun k=>QBH ls k
 have S:∀ k (d:k<ls.length),JBS (ls.take (k+1))=JBS (ls.take k)++ls[k].2.2:=fun k d=>by
  rw[AO d];unfold JBS;rw[BM];simp only[BE,List.flatMap_nil,Bg]
 have U:∀ k (d:k<ls.length),ZAB (ls.take (k+1))=ZAB (ls.take k)+ls[k].2.1:=fun k d=>by
  rw[AO d];exact XBH _ _
 obtain⟨T,G⟩:=ex (ZAB ls);have a6:=fun W=>QBE T Z Z W;rw[<- G] at a5 h0 F;have a7:=ZB G;have a8:=ZB S;have V:=ZB F;have X:=ZB U;clear R G S F U;go_enter func286,ntmps286;go_wp2_with fail;obtain⟨f,j⟩:∃ f:Nat->Nat,∀ k,f k=ZAB (ls.take k):=⟨_,fun _=>rfl⟩;have H:f 0=0:=by rw[j];rfl
 have B:∀ k,f k<=T:=fun k=>by rw[j];exact ZA V k
 have Y:f n=T:=by rw[j,AK (Ar (ZA r)),<- ZA a7]
 have a0:∀ k (d:k<ls.length),f (k+1)=f k+ls[k].2.1:=fun k d=>by rw[j,j,ZA X k d]
 have a9:=ZB a0;have aa:=ZB Y;clear a0 j Y;go_loopw [3,5,11] (fun z _ i wr=>∃ k:Nat,k<=n/\i=.int .i64 k/\z=.int .i64 (f k:Nat)/\kz w wr) (fun _ _ i _=>n-(intOf i).toNat)
 case atStart=>exact⟨0,AP _,rfl,by rw[H];rfl,kq⟩
 obtain⟨k,d,rfl,rfl,a⟩:=hrel;have ab:=B k;by_cases s:k<n
 . have l:k<ls.length:=by rw[ZA r];exact s
   have ac:((k:Nat):Int)<(n:Nat):=Z
   obtain⟨b,o,u,rfl,g,hb,hc⟩:=(m.keep a).row.at_ s;rw[Aa,AC l,Az,Ab] at g;have I:=(m.keep a).ok ls[k] (AN _);have t:=B (k+1);have J:=ZA a9 k l;rw[J] at t;have a1:=ZB J;clear J;generalize ls[k]=p at *;obtain⟨pv,K,px⟩:=p;obtain⟨⟨pa,pc,y,M,C⟩,D,N⟩:=I;simp only at y g M C D N t a1;subst g;subst y;generalize O:f k=q at *;generalize ad:f (k+1)=q2 at *;clear O H B;go_wp2_with fail;go_roundw;case rel=>exact⟨k+1,Z,by go_num,by rw[ad,ZA a1];go_num,a⟩
   case measure=>simp[intOf];omega
 obtain rfl:n=k:=Z
 rw[ZA aa];go_wp2_with (refine(a6 _).mono ?_;rintro e w1 ⟨v,rfl,a2,a3⟩);have h:=VC a2 a.size;clear H B ab a2;obtain⟨i,hi,hz,hs,hb⟩:=elemPart.info;go_loopw [6,8,27] (fun v _ i wr=>∃ (k q:Nat) (L:List Value),k<=n/\i=.int .i64 k/\Hid (L=JBS (ls.take k))/\Hid (q=ZAB (ls.take k))/\q<=100000/\wr.ownsRow w.heap.size 345 2 v q L/\kz w wr) (fun _ _ i _=>n-(intOf i).toNat)
 case atStart=>exact⟨0,0,[],AP _,rfl,by show _=_;rfl,by show _=_;rfl,Z,h,a.tO a3⟩
 clear h a3 a;obtain⟨k,q,L,d,rfl,P,E,O,h,a⟩:=hrel;by_cases s:k<n
 . have l:k<ls.length:=by rw[ZA r];exact s
   have ac:((k:Nat):Int)<(n:Nat):=Z
   have a4:=ZB ((ZA a8) k l);have Q:=ZB ((ZA X) k l);have t:=ZA V (k+1);rw[ZA Q,<- ZA E] at t;obtain⟨b,o,u,rfl,g,hb,hc⟩:=(m.keep a).row.at_ s;rw[Aa,AC l,Az,Ab] at g;have I:=(m.keep a).ok ls[k] (AN _);generalize ls[k]=p at *;obtain⟨pv,K,px⟩:=p;obtain⟨⟨pa,pc,y,M,C⟩,D,N⟩:=I;simp only at y g M C D N t a4 Q;subst g;subst y;have ah:=a.size;go_wp2_with (at_builtin;refine elemPart.wp_app rfl (.tmp 31) (.tmp 32) rfl w.heap.size _ q L rfl h pa K pc _ rfl C D Z Z Z ?_;rintro ai w2 ae af _ _);go_roundw
   case rel=>
    refine⟨k+1,q+K,L++px,Z,by go_num,?_,?_,Z,ae,a.trans af fun x hx=>.inr (own_mem h hx).1⟩
    . show _=_
      rw[ZA a4,<- ZA P]
    show _=_
    rw[ZA Q,<- ZA E]
   case measure=>simp[intOf];omega
 obtain rfl:n=k:=Z
 have e:L=JBS ls:=by rw[ZA P,AK (Ar (ZA r))]
 have e2:q=ZAB ls:=by rw[ZA E,AK (Ar (ZA r))]
 subst e e2;have ag:=ZB h;clear h P E O
 go_wp2
 go_ret;exact⟨_,rfl,ZA ag,a⟩