/- Lemmas of the proof, with their conditions. -/
import Derived.Test.YtfedaknhecbehaaGreatL26
import Derived.Test.YtfedaknhecbehaaGreatL24
namespace Go.Proofs.YtfedaknhecbehaaGreat
open Tryz Go.RowKit Go.Shelf
variable {w:World} {g base now:Nat} {F lv:List Nat} {us:List (Nat×Nat)} {x:Nat×Nat×Nat}
set_option linter.all false
set_option maxHeartbeats 4000000
set_option maxRecDepth 20000
section
variable {P:Program} {t e:TypeId} {z:Value} {s bytes:Nat}
theorem ElemN.run_copyAll (E:ElemN P t e z s bytes) (w:World) (r:TypeId) (base g c n:Nat) (xs:List Value) (y:w.ownsRow base e s (.slice (some g) n c) n xs)
 (a:Addr) (A:Nat) (ys:List Value) (d:Rd w (some a) (n*s) ys) (B:∀ u∈ys,u.oneCell'=true) (h:0<n) :
 ∃ w',(Builtin.copy_ #[t,t] r #[.slice (some g) n c,.slice (some a) n A]).run P w=.ok (.int .i64 (n:Nat)) w'/\w'.ownsRow base e s (.slice (some g) n c) n ys/\Keep [g] w w':=by
 obtain⟨i,hi,Q,C,R⟩:=E.info;have D:=Nat.mul_pos h E.pos;obtain⟨b,F,G,S,H⟩:=d.2 D;cases G;rcases y.2 with⟨l,T⟩ | ⟨U,cap,f,l,I,m,o,J,K,V⟩
 . cases l
 cases l;have L:=run_loadCells_list (P:=P) w ⟨b,F,none⟩ ys (fun j v M=>by rw[Be];exact H j v M);have W:n*s<=c*s:=A3 _ o;have N:=run_storeCells_at P g 0 e ys 0 f w m (by rw[d.1];omega) B;have O:f.size=c*s:=K;refine⟨w.setRow g (f.toList.take 0++ys++f.toList.drop (0+ys.length)).toArray,?_,⟨d.1,.inr ⟨g,c,_,rfl,I,De w g f _ e _ m,o,J,?_,?_⟩⟩,⟨rfl,rfl,rfl,by simp[World.setRow],fun k X h=>DU w g k _ (by simpa [eq_comm] using h)⟩⟩
 . have p:=L
   rw[d.1] at p;simp[Builtin.copy_,CC E.und,Builtin.lenOf,Builtin.firstCells,sizeOf,typeInfo,hi,C,p,N];rfl
 . simp[d.1,O];omega
 simp[d.1]
theorem ElemN.wp_copyAll (E:ElemN P t e z s bytes) {f:Array Oper} {i:List Oper} {o:Oper} {a:Act} {Q:Exit->Act->World->Prop} (k:o.guard=none) (d x:Operand)
 (l:o.op=.call { callee:=.builtin .copy,args:=#[d,x],argTypes:=#[t,t] })
 (base g c n:Nat) (xs:List Value) (m:a.eval d=.slice (some g) n c) (p:w.ownsRow base e s (.slice (some g) n c) n xs)
 (b:Addr) (j:Nat) (ys:List Value) (r:a.eval x=.slice (some b) n j) (v:Rd w (some b) (n*s) ys) (y:∀ u∈ys,u.oneCell'=true) (A:0<n)
 (h:∀ w',w'.ownsRow base e s (.slice (some g) n c) n ys->Keep [g] w w'->wpList P f Q i (a.put o.dst (.int .i64 (n:Nat))) w'):wpList P f Q (o :: i) a w:=
 Bx k fun K B=>by
  obtain⟨w',C,D,F⟩:=E.run_copyAll w o.type base g c n xs p b j ys v y A;unfold Oper.wp execOp;simp only[l,resolve,invoke,builtin,Bz,By,BU,Cn,CN,C4,m,r,C];exact B _ _ (h w' D F)
end
theorem elemUse:ElemN prog 148 166 (.agg #[zz,zz]) 2 16:=ElemN.of underlying148 (by kernel_rfl) rfl Z
theorem elemIntsN:ElemN prog 53 3 (.int .i64 0) 1 8:=ElemN.of underlying53 (by kernel_rfl) rfl Z
theorem JAM (us:List (Nat×Nat)):∀ u∈us.flatMap Kk,u.oneCell'=true:=by
 intro u b;obtain⟨p,-,a⟩:=Bk.1 b;simp[Kk] at a;rcases a with rfl | rfl <;> rfl
theorem KBj {B:Nat} (hg:GeomAt w g B) (s I:Nat) (us:List (Nat×Nat)) (r:Rd w (some s) (8*2) (us.flatMap Kk)) (a4:us.length=8) (J:∀ u∈us,u.1<=2/\u.2<=2147483647) :
 Calls prog 182 #[pq g,.slice (some s) 8 I] w fun e w'=>∃ t F,e=.returned (pq t)/\TableAt w' w.heap.size t g F us (List.replicate 8 0)/\kz w w':=by
 have a6:=ConfigG_is w g B hg;have a7:=fun W=>QE (P:=prog) underlying28 1 rfl isAgg3 #[ii B,ii 8,ii 24] rfl W;have L:=JB a4;clear a4;go_enter func182,ntmps182;go_wp2_with (apply a6.mono;rintro e w1 ⟨rfl,a5⟩);go_loopw [7,27] (fun _ i wr=>∃ k:Nat,k<=8/\i=.int .i64 k/\kz w wr) (fun _ i _=>8-(intOf i).toNat)
 case atStart=>exact⟨0,AS _,rfl,a5⟩
 clear a5;obtain⟨k,hk,rfl,d⟩:=hrel;by_cases a8:k<8
 . have H:k<us.length:=by rw[JA L];exact a8
   have aa:((k:Nat):Int)<8:=Z;have ab:s<wr.heap.size:=(KI YJ (r.keep d) H (j:=0) Z).1;have d0:=(KI YJ (r.keep d) H (j:=0) Z).2;have d1:=(KI YJ (r.keep d) H (j:=1) Z).2;obtain⟨u1,u2⟩:=J _ (AQ H);generalize us[k]=u at *;obtain⟨x,y⟩:=u;simp only[Kk,Bi,Bo,BV] at d0 d1 u1 u2;have ac:((x:Nat):Int)<=2:=Z;have ad:((y:Nat):Int)<=2147483647:=Z;go_wp2_with fail;go_roundw;case rel=>exact⟨k+1,Z,by go_num,d.alloc _⟩
   case measure=>simp[intOf];omega
 obtain rfl:8=k:=Z;have f:=d;clear d a7;go_wp2_with fail;refine ZR (fun w'=>kz w w') 5 (.held 0 (.held 1 (.held 3 (.two 2 (.loud 4 .nil) 4 (.loud 2 .nil))))) f.drew ?_;simp only[RT.pick,PJ];iterate 3 refine wW ?_
 refine wpR_two ?_ ?_
 . refine wpR_loud rq fun K d=>?_
   refine elemUse.wp1_make _ _ rfl .i64 .i64 8 rfl rfl Z Z ?_;intro w2 a v M N h;refine d _ _ (f.drew.tO h) ?_
   try simp only[Act.put,PU]
   refine wpR_loud rq fun K d=>?_;refine elemIntsN.wp1_make _ _ rfl .i64 .i64 8 rfl rfl Z Z ?_;intro c b A O Q m;refine d _ _ ((f.drew.tO h).tO m) ?_
   try simp only[Act.put,PU]
   refine wpR_nil ?_;have C:=(f.drew.tO h).tO m;have D:=N.kO m;have E:=Q;have R:w.heap.size<=a:=by rw[v];exact f.drew.size
   have S:w.heap.size<=b:=by rw[A];exact(f.drew.tO h).size
   have n:c.ownsRow w.heap.size 166 2 (.slice (some a) 8 8) 8 (List.replicate 16 (.int .i64 0)):=YP (s:=2) (z:=.int .i64 0) D Z R Z sq rfl;have o:c.ownsRow w.heap.size 3 1 (.slice (some b) 8 8) 8 (YL (List.replicate 8 0)):=YP (s:=1) (z:=.int .i64 0) E Z S Z (by simp[YL]) rfl;clear v M A O D E;have T:=KD n (.cells #[pq g,.slice (some a) 8 8,.slice (some b) 8 8] 150);have U:=KD o (.cells #[pq g,.slice (some a) 8 8,.slice (some b) 8 8] 150);have V:=Blk.new c 150 #[pq g,.slice (some a) 8 8,.slice (some b) 8 8];have G:=C.alloc (.cells #[pq g,.slice (some a) 8 8,.slice (some b) 8 8] 150);have X:=r.keep G;have Y:a≠b:=fun e=>own_ne n o (by decide) rfl (by simp[Value.ownBlock,e]);have a0:=Jq n a (by simp[Value.ownBlock]);have a1:=Jq o b (by simp[Value.ownBlock]);have a2:c.heap.size≠a:=Z;have a9:c.heap.size≠b:=Z;clear a0 a1;go_wp2_with (refine elemUse.wp_copyAll rfl (.tmp 60) (.tmp 61) rfl w.heap.size a 8 8 _ rfl T _ I _ rfl X (JAM us) Z ?_;rintro w5 a3 p);go_ret;refine⟨c.heap.size,c.heap.size :: ((Value.slice (some a) 8 8).ownBlock.toList++(Value.slice (some b) 8 8).ownBlock.toList),rfl,⟨_,_,V.keep p (uq a2),a3,XB U p (fun x l=>by simp[Value.ownBlock] at l;subst l;simpa using fun e=>Y e.symm),rfl,C.size,JA L,J,fun x l=>by have:=AV l;omega⟩,G.trans p iq⟩
 refine wpR_loud rq fun K d=>?_;refine elemIntsN.wp1_make _ _ rfl .i64 .i64 8 rfl rfl Z Z ?_;intro w2 b A O Q h;refine d _ _ (f.drew.tO h) ?_
 try simp only[Act.put,PU]
 refine wpR_loud rq fun K d=>?_;refine elemUse.wp1_make _ _ rfl .i64 .i64 8 rfl rfl Z Z ?_;intro c a v M N m;refine d _ _ ((f.drew.tO h).tO m) ?_
 try simp only[Act.put,PU]
 refine wpR_nil ?_;have C:=(f.drew.tO h).tO m;have D:=N;have E:=Q.kO m;have S:w.heap.size<=b:=by rw[A];exact f.drew.size
 have R:w.heap.size<=a:=by rw[v];exact(f.drew.tO h).size
 have n:c.ownsRow w.heap.size 166 2 (.slice (some a) 8 8) 8 (List.replicate 16 (.int .i64 0)):=YP (s:=2) (z:=.int .i64 0) D Z R Z sq rfl;have o:c.ownsRow w.heap.size 3 1 (.slice (some b) 8 8) 8 (YL (List.replicate 8 0)):=YP (s:=1) (z:=.int .i64 0) E Z S Z (by simp[YL]) rfl;clear v M A O D E;have T:=KD n (.cells #[pq g,.slice (some a) 8 8,.slice (some b) 8 8] 150);have U:=KD o (.cells #[pq g,.slice (some a) 8 8,.slice (some b) 8 8] 150);have V:=Blk.new c 150 #[pq g,.slice (some a) 8 8,.slice (some b) 8 8];have G:=C.alloc (.cells #[pq g,.slice (some a) 8 8,.slice (some b) 8 8] 150);have X:=r.keep G;have Y:a≠b:=fun e=>own_ne n o (by decide) rfl (by simp[Value.ownBlock,e]);have a0:=Jq n a (by simp[Value.ownBlock]);have a1:=Jq o b (by simp[Value.ownBlock]);have a2:c.heap.size≠a:=Z;have a9:c.heap.size≠b:=Z;clear a0 a1;go_wp2_with (refine elemUse.wp_copyAll rfl (.tmp 60) (.tmp 61) rfl w.heap.size a 8 8 _ rfl T _ I _ rfl X (JAM us) Z ?_;rintro w5 a3 p);go_ret;refine⟨c.heap.size,c.heap.size :: ((Value.slice (some a) 8 8).ownBlock.toList++(Value.slice (some b) 8 8).ownBlock.toList),rfl,⟨_,_,V.keep p (uq a2),a3,XB U p (fun x l=>by simp[Value.ownBlock] at l;subst l;simpa using fun e=>Y e.symm),rfl,C.size,JA L,J,fun x l=>by have:=AV l;omega⟩,G.trans p iq⟩
def Qc (us:List (Nat×Nat)) (lv:List Nat) (s:Nat):Bool:=(us.getD s (0,0)).1 == 2 && lv.getD s 0 == 0
def KU (us:List (Nat×Nat)) (lv:List Nat):Nat->List (Nat×Nat)
 | 0=>us
 | k+1=>if Qc us lv k then VE (KU us lv k) k 0 else KU us lv k
def relO (us:List (Nat×Nat)) (lv:List Nat) (k:Nat):List Nat:=(List.range k).filter (Qc us lv)
theorem JAz (us:List (Nat×Nat)) (lv:List Nat) (k:Nat):relO us lv (k+1)=relO us lv k++if Qc us lv k then [k] else []:=by
 unfold relO;rw[CF,DP]
 congr 1
 by_cases h:Qc us lv k <;> simp[h]
theorem KAB (us:List (Nat×Nat)) (lv:List Nat) (k:Nat):(relO us lv k).length<=k:=by
 unfold relO;exact AA (DS _ _) sq
theorem KV (us:List (Nat×Nat)) (lv:List Nat) (k:Nat):(KU us lv k).length=us.length:=by
 induction k with
 | zero=>rfl
 | succ k ih=>
   simp only[KU]
   split
   . simp[VE,ih]
   exact ih
theorem JBE (us:List (Nat×Nat)) (lv:List Nat) (k s:Nat) (h:k<=s):(KU us lv k).getD s (0,0)=us.getD s (0,0):=by
 induction k with
 | zero=>rfl
 | succ k ih=>
   simp only[KU]
   split
   . unfold VE
     rw[AB,List.getElem?_set_ne Z,<- AB];exact ih Z
   exact ih Z
theorem JBF (us:List (Nat×Nat)) (lv:List Nat) (k s:Nat) (h:k<=s):Qc (KU us lv k) lv s=Qc us lv s:=by unfold Qc;rw[JBE us lv k s h]
theorem KAe {t:Nat} (h:TableAt w base t g F us lv) (s:Nat) (a:s<8) :
 cq 232 #[pq t,s] w (.bool (Qc us lv s)):=by
 obtain⟨L,V,h⟩:=h;obtain⟨l,n,v,o,rfl,rfl,r,u,y⟩:=h.forms;obtain⟨z,A,B⟩:=h.cells;have C:=h.ulen;have D:=h.llen;obtain⟨E,i⟩:=h.use s a;have G:=h.liveOf s a;have H:((s:Nat):Int)<8:=Z;have b:us.getD s (0,0)=us[s]:=JI Z;have c:lv.getD s 0=lv[s]:=by rw[AB,AC Z];rfl
 have d:Qc us lv s=(us[s].1 == 2 && lv[s] == 0):=by unfold Qc;rw[b,c]
 rw[d];clear d b c;generalize us[s].1=p at *;generalize lv[s]=q at *;have I:=h.blk.lt;have J:=(own_mem h.l (g:=l) (by simp[Value.ownBlock])).2;have K:=(own_mem h.live (g:=v) (by simp[Value.ownBlock])).2;clear i h;by_cases e:p=2
 . subst e
   by_cases f:q=0
   . subst f
     go_enter func232,ntmps232
     go_wp2
     go_ret;exact⟨rfl,rfl⟩
   have j:¬ ((q:Nat):Int)=0:=Z;go_enter func232,ntmps232
   go_wp2
   go_ret;have k:(((q:Nat):Int) == 0)=false:=uq j;have m:(q == 0)=false:=uq f;exact⟨by simp[k,m],rfl⟩
 have M:¬ ((p:Nat):Int)=2:=Z;go_enter func232,ntmps232
 go_wp2
 go_ret;exact⟨by simp[e],rfl⟩
theorem YAY {t:Nat} (h:TableAt w base t g F us lv) :
 Calls prog 99 #[pq t] w fun e w'=>∃ u,e=.returned u/\w'.ownsRow w.heap.size 3 1 u (relO us lv 8).length (YL (relO us lv 8))/\TableAt w' base t g F (KU us lv 8) lv/\Keep F w w':=by
 obtain⟨L,a3,h⟩:=h;obtain⟨l,R,v,S,rfl,rfl,a4,a5,a6⟩:=h.forms;obtain⟨n,r,s⟩:=h.cells;have T:=h.foot;have z:l∈F:=by rw[T];simp[Value.ownBlock]
 have A:=h.lt;go_enter func99,ntmps99
 go_wp2
 go_loopw [2,3,11] (fun o _ i wr=>∃ k:Nat,k<=8/\i=.int .i64 (k:Nat)/\TableIs wr base t g (.slice (some l) 8 R) (.slice (some v) 8 S) F (KU us lv k) lv/\wr.ownsRow w.heap.size 3 1 o (relO us lv k).length (YL (relO us lv k))/\Keep F w wr) (fun _ _ i _=>8-(intOf i).toNat)
 case atStart=>exact⟨0,Z,rfl,h,Ab _ _ _ _,kq⟩
 have a7:=h.ulen;clear n r s h;obtain⟨k,hk,rfl,h,b,c⟩:=hrel;obtain⟨OA,d,rfl,_⟩:=ZB b;obtain⟨n,r,s⟩:=h.cells;by_cases f:k<8
 . have j:=KAe (w:=wr) (base:=base) (t:=t) (g:=g) (F:=F) (lv:=lv) ⟨_,_,h⟩ k f
   rw[JBF us lv k k (AG _)] at j;have a8:((k:Nat):Int)<8:=Z;have a9:=KAB us lv k;have B:=JAz us lv k;have C:KU us lv (k+1)=if Qc us lv k then VE (KU us lv k) k 0 else KU us lv k:=rfl;have aa:=KV us lv k;obtain⟨U,u2⟩:=h.use k f;have ab:=ZS h.l (k*2);have D:(KU us lv k).getD k (0,0)=(KU us lv k)[k]:=JI Z;obtain⟨E,ac⟩:=h.setUse k 0 f Z 0 (0,(KU us lv k)[k].2) rfl ⟨Z,(h.uok _ (AQ _)).2⟩;have G:VE (KU us lv k) k 0=(KU us lv k).set k (0,(KU us lv k)[k].2):=by unfold VE;rw[D]
   rw[<- G] at E;have ad:=(own_mem h.l (g:=l) (by simp[Value.ownBlock])).2;have H:=JB B;have I:=JB C;clear B C G D;generalize ((KU us lv k)[k]'_).1=y at U;generalize J:Qc us lv k=ib at *;have ae:=JB J;clear J;generalize K:relO us lv k=gl at *;have af:=JB K;clear K;have V:=E;generalize KU us lv k=ul at *;cases ib
   . go_wp2_with (apply mq j)
     go_roundw
     case rel=>
      refine⟨k+1,Z,by go_num,?_,?_,c⟩
      . rw[JA I];exact h
      rw[JA H];simpa using b
     case measure=>simp[intOf];omega
   have W:(wr.setCell (aq l (k*2)) (.int .i64 0)).ownsRow w.heap.size 3 1 (.slice OA gl.length d) gl.length (YL gl):=own_set b (fun m=>by have:=(own_mem b m).1;have:=A l z;omega) _;have M:Keep F w (wr.setCell (aq l (k*2)) (.int .i64 0)):=c.setCell (p:=⟨l,k*2,none⟩) (.inl z) _;have N:(wr.setCell (aq l (k*2)) (.int .i64 0)).heap.size=wr.heap.size:=sq;have O:=JT (wr.setCell (aq l (k*2)) (.int .i64 0)) (.int .i64 (k:Nat)) 3;rw[N] at O;have X:=M.size;rw[N] at X
   go_wp2_with (first
    | (apply mq j)
    | (at_builtin;refine elemInts.wp_app rfl _ _ rq w.heap.size _ gl.length (YL gl) rq (KD W _) (some (aq wr.heap.size 0)) 1 1 [.int .i64 (k:Nat)] rq O (by simp[Value.oneCell']) Z Z (by simp;omega) ?_))
   intro ag Y a0 a1 ah _
   go_wp2
   go_roundw
   case rel=>
    have a2:kz (wr.setCell (aq l (k*2)) (.int .i64 0)) ((wr.setCell (aq l (k*2)) (.int .i64 0)).alloc (.cells #[k] 3)):=kq.alloc _;have P:Keep (Value.slice OA gl.length d).ownBlock.toList (wr.setCell (aq l (k*2)) (.int .i64 0)) Y:=a2.zero.trans a1 (fun x a=>.inl a);have Q:∀ x∈(Value.slice OA gl.length d).ownBlock.toList,w.heap.size<=x:=fun x a=>(own_mem b a).1;refine⟨k+1,Z,by go_num,?_,?_,M.trans P (fun x a=>.inr (Q x a))⟩
    . rw[JA I,AP trivial]
      exact V.keep P (fun x a m=>by have:=Q x m;have:=A x a;omega)
    rw[JA H,AP trivial,AE,Al,show YL (gl++[k])=YL gl++[.int .i64 (k:Nat)] by simp[YL]];exact a0
   case measure=>simp[intOf];omega
 obtain rfl:k=8:=Z
 go_wp2
 go_ret;exact⟨_,rfl,b,⟨_,_,h⟩,c⟩
theorem YAV {A:Option Addr} (n c:Nat) (us:List (Nat×Nat)) (a:Rd w A (n*2) (us.flatMap Kk)) (l:n<=1000000) :
 Calls prog 342 #[.slice A n c] w fun e w'=>∃ v,e=.returned v/\w'.ownsRow w.heap.size 166 2 v n (us.flatMap Kk)/\kz w w':=by
 have m:=fun(W:World)=>Db (P:=prog) W 148 166 A n c 0 0 underlying148;have d:=a.1;rcases A with _ | ad
 . obtain rfl:n=0:=by
    rcases Bm n with e | e
    . exact e
    obtain⟨b,o,h,_⟩:=a.2 Z;cases h
   obtain f:us.flatMap Kk=[]:=Aw (by rw[d]);rw[f];go_enter func342,ntmps342
   go_wp2
   go_ret;exact⟨_,rfl,Ab _ _ _ _,kq⟩
 have g:=a.keep ((Keep.refl _ w).alloc (.cells #[] 166));have i:(w.alloc (.cells #[] 166)).ownsRow w.heap.size 166 2 (.slice (some w.heap.size) 0 0) 0 []:=World.ownsRow_made _ _ _ (AG _) (by simp[maxLen]) rfl;clear d;go_enter func342,ntmps342;go_wp2_with (at_builtin;refine elemUse.wp_app rfl _ _ rfl w.heap.size _ 0 [] rfl i ad n c (us.flatMap Kk) rfl g (JAM us) Z Z sq ?_);intro p w' j k _ _
 go_wp2
 go_ret;exact⟨_,rfl,uq j,((Keep.refl _ w).alloc _).trans k (by simp[Value.ownBlock])⟩
theorem QBG {t:Nat} (h:TableAt w base t g F us lv) :
 Calls prog 227 #[pq t,.bool true] w fun e w'=>∃ u c,e=.returned (.slice (some (aq u 0)) 8 c)/\8<=c/\w'.ownsRow w.heap.size 166 2 (.slice (some (aq u 0)) 8 c) 8 ((KU us lv 8).flatMap Kk)/\kz w w':=by
 obtain⟨L,V,h⟩:=h;obtain⟨l,B,v,J,rfl,rfl,K,M,N⟩:=h.forms;obtain⟨O,P,Q⟩:=h.cells;have R:=h.ulen;have C:=YAV 8 B us (Rd.of_ownN h.l) Z;go_enter func227,ntmps227
 go_wp2_with (
  apply C.mono;rintro e w1 ⟨S,rfl,d,f⟩;obtain⟨u,j,rfl,D⟩:=JE d Z)
 go_loopw [6,16] (fun _ i wr=>∃ k:Nat,k<=8/\i=.int .i64 (k:Nat)/\wr.ownsRow w.heap.size 166 2 (.slice (some (aq u 0)) 8 j) 8 ((KU us lv k).flatMap Kk)/\kz w wr) (fun _ i _=>8-(intOf i).toNat)
 case atStart=>exact⟨0,Z,rfl,d,f⟩
 clear d f;obtain⟨k,T,rfl,a,b⟩:=hrel;by_cases E:k<8
 . have m:=KAe (w:=wr) (base:=base) (t:=t) (g:=g) (F:=F) (us:=us) (lv:=lv) ⟨_,_,h.kO b⟩ k E
   have U:((k:Nat):Int)<8:=Z;have n:KU us lv (k+1)=if Qc us lv k then VE (KU us lv k) k 0 else KU us lv k:=rfl;have W:=KV us lv k;have o:(KU us lv k).getD k (0,0)=(KU us lv k)[k]:=JI Z
   have G:cl wr (aq u (k*2)) (.int .i64 ((KU us lv k)[k]' Z).1):=by
    have:=XQ a (k:=k*2+0) (u:=.int .i64 ((KU us lv k)[k]' Z).1) (by rw[JP YJ _ k 0 Z Z];rfl);simpa using this
   have X:=ZS a (k*2);have Y:=(own_mem a (g:=u) (by simp[Value.ownBlock])).2;have H:=(own_mem a (g:=u) (by simp[Value.ownBlock])).1;have r:VE (KU us lv k) k 0=(KU us lv k).set k (0,(KU us lv k)[k].2):=by unfold VE;rw[o]
   have s:=YT a (k*2+0) (.int .i64 0);rw[Xb YJ (KU us lv k) k 0 Z Z (.int .i64 0) (0,(KU us lv k)[k].2) rfl,<- r] at s;have z:=JB n;clear n r o;generalize ((KU us lv k)[k]'_).1=y at G;generalize A:Qc us lv k=ib at *;have a0:=JB A;clear A;generalize KU us lv k=ul at *;cases ib
   . go_wp2_with (apply mq m)
     go_roundw;case rel=>exact⟨k+1,Z,by go_num,by rw[JA z];exact a,b⟩
     case measure=>simp[intOf];omega
   have I:kz w (wr.setCell (aq u (k*2)) (.int .i64 0)):=b.setCell (p:=⟨u,k*2,none⟩) (.inr H) _;go_wp2_with (apply mq m);go_roundw;case rel=>exact⟨k+1,Z,by go_num,by rw[JA z,AP trivial];exact s,I⟩
   case measure=>simp[intOf];omega
 obtain rfl:k=8:=Z
 go_wp2
 go_ret;exact⟨u,j,rfl,D.1,a,b⟩
def Jg (live age:Nat):Nat:=(22-live)*age / (22+live)
def QAx (now stamp:Nat):Nat:=if now<=stamp then 0 else min (now-stamp) 2147483647
def XAB (a b:Nat×Nat×Nat):Bool:=if a.1≠b.1 then decide (b.1<a.1) else decide (a.2.1<b.2.1) || (decide (a.2.1=b.2.1) && decide (a.2.2<b.2.2))
def XJ (us:List (Nat×Nat)) (lv:List Nat) (now:Nat) (b:Option (Nat×Nat×Nat)) (s:Nat):Option (Nat×Nat×Nat):=
 if 1<=lv.getD s 0/\lv.getD s 0<=11 then
  (if b.isNone || XAB (Jg (lv.getD s 0) (QAx now (us.getD s (0,0)).2),lv.getD s 0,s) (b.getD (0,0,0)) then some (Jg (lv.getD s 0) (QAx now (us.getD s (0,0)).2),lv.getD s 0,s) else b)
 else b
def ZZ (us:List (Nat×Nat)) (k:Nat):List Nat:=(List.range k).filter (fun s=>(us.getD s (0,0)).1 == 2)
theorem ZAU (us:List (Nat×Nat)) (k:Nat):ZZ us (k+1)=if (us.getD k (0,0)).1=2 then ZZ us k++[k] else ZZ us k:=by
 unfold ZZ;rw[CF,DP];by_cases h:(us.getD k (0,0)).1=2
 . have a:((us.getD k (0,0)).1 == 2)=true:=by rw[h];rfl
   rw[AP h];simp only[Dg,a,B8,List.filter_nil]
 have a:((us.getD k (0,0)).1 == 2)=false:=Dc.2 h;rw[AL h];simp only[Dg,a,Aj,Bt,List.filter_nil,Ba]
def Kq (us:List (Nat×Nat)) (lv:List Nat) (now:Nat):Option (Nat×Nat×Nat):=(ZZ us 8).foldl (XJ us lv now) none
theorem ZAM {s:Nat} {b:Option (Nat×Nat×Nat)} (h:XJ us lv now b s=some x) :
 b=some x\/(x.2.2=s/\x.2.1=lv.getD s 0/\1<=lv.getD s 0/\lv.getD s 0<=11):=by
 unfold XJ at h
 split at h
 . rename_i a
   split at h
   . cases h;exact .inr ⟨rfl,rfl,a⟩
   exact .inl h
 exact .inl h
theorem YBD (l:List Nat) (b:Option (Nat×Nat×Nat)) (h:l.foldl (XJ us lv now) b=some x) :
 b=some x\/(x.2.2∈l/\x.2.1=lv.getD x.2.2 0/\1<=lv.getD x.2.2 0/\lv.getD x.2.2 0<=11):=by
 induction l generalizing b with
 | nil=>exact .inl h
 | cons s l ih=>
   rcases ih _ h with a | ⟨a,c⟩
   . rcases ZAM a with d | ⟨rfl,e⟩
     . exact .inl d
     exact .inr ⟨sq,e⟩
   exact .inr ⟨by simp[a],c⟩
theorem YBJ (h:Kq us lv now=some x):x.2.2<8/\(us.getD x.2.2 (0,0)).1=2/\x.2.1=lv.getD x.2.2 0/\1<=lv.getD x.2.2 0/\lv.getD x.2.2 0<=11:=by
 rcases YBD _ _ h with h | ⟨a,b⟩
 . cases h
 unfold ZZ at a;rw[List.mem_filter,List.mem_range] at a;exact⟨a.1,uq a.2,b⟩
theorem XAd (a b:Nat) (c:1<=a) (h:b<=2147483647):Jg a b<=2147483647:=by
 unfold Jg;refine Nat.div_le_of_le_mul ?_;exact Dw Z h
theorem KBJ (now a:Nat):QAx now a<=2147483647:=by unfold QAx;split <;> omega
theorem KBN {t:Nat} (h:TableAt w base t g F us lv) (s:Nat) (a:s<8) :
 cq 15 #[pq t,s] w (lv.getD s 0:Nat):=by
 obtain⟨L,V,h⟩:=h;obtain⟨l,e,v,f,rfl,rfl,i,j,k⟩:=h.forms;obtain⟨m,n,o⟩:=h.cells;have b:=Jt h s a;have c:=h.liveOf s a;have d:lv[s]'(by rw[h.llen];exact a)=lv.getD s 0:=by rw[AB,AC (by rw[h.llen];exact a)];rfl
 rw[d] at c;have p:=(own_mem h.live (g:=v) (by simp[Value.ownBlock])).2;generalize lv.getD s 0=y at *;go_enter func15,ntmps15;go_wp2_with (apply mq b);go_ret;exact⟨rfl,rfl⟩
theorem XBC {t:Nat} (h:TableAt w base t g F us lv) (s:Nat) (a:s<8) :
 cq 85 #[pq t,s] w ((us.getD s (0,0)).2:Nat):=by
 obtain⟨L,V,h⟩:=h;obtain⟨l,d,v,e,rfl,rfl,f,i,j⟩:=h.forms;obtain⟨k,m,n⟩:=h.cells;have b:=Jt h s a;have c:=(h.use s a).2;rw[<- JI (by rw[h.ulen];exact a)] at c;have o:=(own_mem h.l (g:=l) (by simp[Value.ownBlock])).2;generalize (us.getD s (0,0)).2=y at *;go_enter func85,ntmps85;go_wp2_with (apply mq b);go_ret;exact⟨rfl,rfl⟩