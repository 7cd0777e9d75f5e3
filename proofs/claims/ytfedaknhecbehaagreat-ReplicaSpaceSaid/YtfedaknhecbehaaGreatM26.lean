/- Lemmas of the proof, with their conditions. -/
import Derived.Test.YtfedaknhecbehaaGreatM25
import Derived.Test.YtfedaknhecbehaaGreatM23
namespace Go.Proofs.YtfedaknhecbehaaGreat
open Tryz Go.RowKit Go.Shelf
variable {w:World} {g base now:Nat} {F lv:List Nat} {us:List (Nat×Nat)} {b:Option (Nat×Nat×Nat)} {x:Nat×Nat×Nat}
set_option linter.all false
set_option maxHeartbeats 4000000
set_option maxRecDepth 20000
section
variable {P:Program} {t e:TypeId} {z:Value} {s bytes:Nat}
theorem ElemN.run_copyAll (E:ElemN P t e z s bytes) (w:World) (q:TypeId) (base g c n:Nat) (xs:List Value) (r:w.ownsRow base e s (.slice (some g) n c) n xs)
 (a:Addr) (y:Nat) (ys:List Value) (d:Rd w (some a) (n*s) ys) (A:∀ u∈ys,u.oneCell'=true) (h:0<n) :
 ∃ w',(Builtin.copy_ #[t,t] q #[.slice (some g) n c,.slice (some a) n y]).run P w=.ok (.int .i64 (n:Nat)) w'/\w'.ownsRow base e s (.slice (some g) n c) n ys/\Keep [g] w w':=by
 obtain⟨i,hi,O,B,Q⟩:=E.info;have C:=Nat.mul_pos h E.pos;obtain⟨b,D,F,R,G⟩:=d.2 C;cases F;rcases r.2 with⟨l,S⟩ | ⟨T,cap,f,l,H,m,o,I,J,U⟩
 . cases l
 cases l
 have K:=run_loadCells_list (P:=P) w ⟨b,D,none⟩ ys (fun j v L=>by rw[Bw];exact G j v L);have V:n*s<=c*s:=BJ _ o;have M:=run_storeCells_at P g 0 e ys 0 f w m (by rw[d.1];omega) A;have N:f.size=c*s:=J;refine⟨w.setRow g (f.toList.take 0++ys++f.toList.drop (0+ys.length)).toArray,?_,⟨d.1,.inr ⟨g,c,_,rfl,H,Df w g f _ e _ m,o,I,?_,?_⟩⟩,⟨rfl,rfl,rfl,by simp[World.setRow],fun k W h=>DY w g k _ (by simpa [eq_comm] using h)⟩⟩
 . have p:=K
   rw[d.1] at p;simp[Builtin.copy_,CE E.und,Builtin.lenOf,Builtin.firstCells,sizeOf,typeInfo,hi,B,p,M];rfl
 . simp[d.1,N];omega
 simp[d.1]
theorem ElemN.wp_copyAll (E:ElemN P t e z s bytes) {f:Array Oper} {i:List Oper} {o:Oper} {a:Act} {Q:Exit->Act->World->Prop} (k:o.guard=none) (d x:Operand)
 (l:o.op=.call { callee:=.builtin .copy,args:=#[d,x],argTypes:=#[t,t] })
 (base g c n:Nat) (xs:List Value) (m:a.eval d=.slice (some g) n c) (p:w.ownsRow base e s (.slice (some g) n c) n xs)
 (b:Addr) (j:Nat) (ys:List Value) (q:a.eval x=.slice (some b) n j) (r:Rd w (some b) (n*s) ys) (v:∀ u∈ys,u.oneCell'=true) (y:0<n)
 (h:∀ w',w'.ownsRow base e s (.slice (some g) n c) n ys->Keep [g] w w'->wpList P f Q i (a.put o.dst (.int .i64 (n:Nat))) w'):wpList P f Q (o :: i) a w:=
 B5 k fun K A=>by
  obtain⟨w',B,C,D⟩:=E.run_copyAll w o.type base g c n xs p b j ys r v y;unfold Oper.wp execOp;simp only[l,resolve,invoke,builtin,B8,B7,BV,Co,CN,Cx,m,q,B];exact A _ _ (h w' C D)
end
theorem elemUse:ElemN prog 148 166 (.agg #[zz,zz]) 2 16:=ElemN.of underlying148 (by kernel_rfl) rfl Z
theorem elemIntsN:ElemN prog 53 3 (.int .i64 0) 1 8:=ElemN.of underlying53 (by kernel_rfl) rfl Z
theorem YAF (us:List (Nat×Nat)):∀ u∈us.flatMap Vw,u.oneCell'=true:=by
 intro u b;obtain⟨p,-,a⟩:=Bs.1 b;simp[Vw] at a;rcases a with rfl | rfl <;> rfl
theorem JBZ {B:Nat} (hg:GeomAt w g B) (s H:Nat) (us:List (Nat×Nat)) (q:Rd w (some s) (8*2) (us.flatMap Vw)) (a3:us.length=8) (I:∀ u∈us,u.1<=2/\u.2<=2147483647) :
 Calls prog 182 #[pq g,.slice (some s) 8 H] w fun e w'=>∃ t F,e=.returned (pq t)/\TableAt w' w.heap.size t g F us (List.replicate 8 0)/\kz w w':=by
 have a4:=ConfigG_is w g B hg;have a6:=fun W=>KE (P:=prog) underlying28 1 rfl isAgg3 #[ii B,ii 8,ii 24] rfl W;have J:=ZB a3;clear a3;go_enter func182,ntmps182;go_wp2_with (refine a4.mono ?_;clear a4;rintro e w1 ⟨rfl,a5⟩);go_loopw [7,27] (fun _ i wr=>∃ k:Nat,k<=8/\i=.int .i64 k/\kz w wr) (fun _ i _=>8-(intOf i).toNat)
 case atStart=>exact⟨0,AP _,rfl,a5⟩
 clear a5;obtain⟨k,hk,rfl,d⟩:=hrel;by_cases a7:k<8
 . have G:k<us.length:=by rw[ZA J];exact a7
   have a9:((k:Nat):Int)<8:=Z
   have aa:s<wr.heap.size:=(VI JJ (q.keep d) G (j:=0) Z).1;have d0:=(VI JJ (q.keep d) G (j:=0) Z).2;have d1:=(VI JJ (q.keep d) G (j:=1) Z).2;obtain⟨u1,u2⟩:=I _ (AN G);generalize us[k]=u at *;obtain⟨x,y⟩:=u;simp only[Vw,Bj,BX,BK] at d0 d1 u1 u2;have ab:((x:Nat):Int)<=2:=Z
   have ac:((y:Nat):Int)<=2147483647:=Z
   go_wp2_with fail;go_roundw;case rel=>exact⟨k+1,Z,by go_num,d.alloc _⟩
   case measure=>simp[intOf];omega
 obtain rfl:8=k:=Z
 have f:=d;clear d a6;go_wp2_with fail;refine ZR (fun w'=>kz w w') 5 (.held 0 (.held 1 (.held 3 (.two 2 (.loud 4 .nil) 4 (.loud 2 .nil))))) f.drew ?_;simp only[RT.pick,PJ];iterate 3 refine wW ?_
 refine wpR_two ?_ ?_
 . refine wpR_loud rq fun K d=>?_
   refine elemUse.wp1_make _ _ rfl .i64 .i64 8 rfl rfl Z Z ?_;intro w2 a r L M h;refine d _ _ (f.drew.tO h) ?_
   try simp only[Act.put,PU]
   refine wpR_loud rq fun K d=>?_;refine elemIntsN.wp1_make _ _ rfl .i64 .i64 8 rfl rfl Z Z ?_;intro c b v N O m;refine d _ _ ((f.drew.tO h).tO m) ?_
   try simp only[Act.put,PU]
   refine wpR_nil ?_;have A:=(f.drew.tO h).tO m;have C:=M.kO m;have D:=O;have Q:w.heap.size<=a:=by rw[r];exact f.drew.size
   have R:w.heap.size<=b:=by rw[v];exact(f.drew.tO h).size
   have n:c.ownsRow w.heap.size 166 2 (.slice (some a) 8 8) 8 (List.replicate 16 (.int .i64 0)):=JN (s:=2) (z:=.int .i64 0) C Z Q Z sq rfl;have o:c.ownsRow w.heap.size 3 1 (.slice (some b) 8 8) 8 (XP (List.replicate 8 0)):=JN (s:=1) (z:=.int .i64 0) D Z R Z (by simp[XP]) rfl;clear r L v N C D;have S:=XE n (.cells #[pq g,.slice (some a) 8 8,.slice (some b) 8 8] 150);have T:=XE o (.cells #[pq g,.slice (some a) 8 8,.slice (some b) 8 8] 150);have U:=Blk.new c 150 #[pq g,.slice (some a) 8 8,.slice (some b) 8 8];have E:=A.alloc (.cells #[pq g,.slice (some a) 8 8,.slice (some b) 8 8] 150);have V:=q.keep E;have X:a≠b:=fun e=>own_ne n o (by decide) rfl (by simp[Value.ownBlock,e]);have Y:=Qi n a (by simp[Value.ownBlock]);have a0:=Qi o b (by simp[Value.ownBlock]);have a1:c.heap.size≠a:=Z
   have a8:c.heap.size≠b:=Z
   clear Y a0;go_wp2_with (refine elemUse.wp_copyAll rfl (.tmp 60) (.tmp 61) rfl w.heap.size a 8 8 _ rfl S _ H _ rfl V (YAF us) Z ?_;rintro w5 a2 p);go_ret;refine⟨c.heap.size,c.heap.size :: ((Value.slice (some a) 8 8).ownBlock.toList++(Value.slice (some b) 8 8).ownBlock.toList),rfl,⟨_,_,U.keep p (uq a1),a2,KA T p (fun x l=>by simp[Value.ownBlock] at l;subst l;simpa using fun e=>X e.symm),rfl,A.size,ZA J,I,fun x l=>by have:=AX l;omega⟩,E.trans p iq⟩
 refine wpR_loud rq fun K d=>?_
 refine elemIntsN.wp1_make _ _ rfl .i64 .i64 8 rfl rfl Z Z ?_;intro w2 b v N O h;refine d _ _ (f.drew.tO h) ?_
 try simp only[Act.put,PU]
 refine wpR_loud rq fun K d=>?_;refine elemUse.wp1_make _ _ rfl .i64 .i64 8 rfl rfl Z Z ?_;intro c a r L M m;refine d _ _ ((f.drew.tO h).tO m) ?_
 try simp only[Act.put,PU]
 refine wpR_nil ?_;have A:=(f.drew.tO h).tO m;have C:=M;have D:=O.kO m;have R:w.heap.size<=b:=by rw[v];exact f.drew.size
 have Q:w.heap.size<=a:=by rw[r];exact(f.drew.tO h).size
 have n:c.ownsRow w.heap.size 166 2 (.slice (some a) 8 8) 8 (List.replicate 16 (.int .i64 0)):=JN (s:=2) (z:=.int .i64 0) C Z Q Z sq rfl;have o:c.ownsRow w.heap.size 3 1 (.slice (some b) 8 8) 8 (XP (List.replicate 8 0)):=JN (s:=1) (z:=.int .i64 0) D Z R Z (by simp[XP]) rfl;clear r L v N C D;have S:=XE n (.cells #[pq g,.slice (some a) 8 8,.slice (some b) 8 8] 150);have T:=XE o (.cells #[pq g,.slice (some a) 8 8,.slice (some b) 8 8] 150);have U:=Blk.new c 150 #[pq g,.slice (some a) 8 8,.slice (some b) 8 8];have E:=A.alloc (.cells #[pq g,.slice (some a) 8 8,.slice (some b) 8 8] 150);have V:=q.keep E;have X:a≠b:=fun e=>own_ne n o (by decide) rfl (by simp[Value.ownBlock,e]);have Y:=Qi n a (by simp[Value.ownBlock]);have a0:=Qi o b (by simp[Value.ownBlock]);have a1:c.heap.size≠a:=Z
 have a8:c.heap.size≠b:=Z
 clear Y a0;go_wp2_with (refine elemUse.wp_copyAll rfl (.tmp 60) (.tmp 61) rfl w.heap.size a 8 8 _ rfl S _ H _ rfl V (YAF us) Z ?_;rintro w5 a2 p);go_ret;refine⟨c.heap.size,c.heap.size :: ((Value.slice (some a) 8 8).ownBlock.toList++(Value.slice (some b) 8 8).ownBlock.toList),rfl,⟨_,_,U.keep p (uq a1),a2,KA T p (fun x l=>by simp[Value.ownBlock] at l;subst l;simpa using fun e=>X e.symm),rfl,A.size,ZA J,I,fun x l=>by have:=AX l;omega⟩,E.trans p iq⟩
def ZQ (us:List (Nat×Nat)) (lv:List Nat) (s:Nat):Bool:=(us.getD s (0,0)).1 == 2 && lv.getD s 0 == 0
def VT (us:List (Nat×Nat)) (lv:List Nat):Nat->List (Nat×Nat)
 | 0=>us
 | k+1=>if ZQ us lv k then VE (VT us lv k) k 0 else VT us lv k
def relO (us:List (Nat×Nat)) (lv:List Nat) (k:Nat):List Nat:=(List.range k).filter (ZQ us lv)
theorem QAO (us:List (Nat×Nat)) (lv:List Nat) (k:Nat):relO us lv (k+1)=relO us lv k++if ZQ us lv k then [k] else []:=by
 unfold relO;rw[Bq,DV]
 congr 1
 by_cases h:ZQ us lv k <;> simp[h]
theorem Qv (us:List (Nat×Nat)) (lv:List Nat) (k:Nat):(relO us lv k).length<=k:=by
 unfold relO;exact AB (DX _ _) sq
theorem KR (us:List (Nat×Nat)) (lv:List Nat) (k:Nat):(VT us lv k).length=us.length:=by
 induction k with
 | zero=>rfl
 | succ k ih=>
   simp only[VT]
   split
   . simp[VE,ih]
   exact ih
theorem JAT (us:List (Nat×Nat)) (lv:List Nat) (k s:Nat) (h:k<=s):(VT us lv k).getD s (0,0)=us.getD s (0,0):=by
 induction k with
 | zero=>rfl
 | succ k ih=>
   simp only[VT]
   split
   . unfold VE
     rw[AA,List.getElem?_set_ne Z,<- AA];exact ih Z
   exact ih Z
theorem KBB (us:List (Nat×Nat)) (lv:List Nat) (k s:Nat) (h:k<=s):ZQ (VT us lv k) lv s=ZQ us lv s:=by unfold ZQ;rw[JAT us lv k s h]
theorem VAa {t:Nat} (h:TableAt w base t g F us lv) (s:Nat) (a:s<8) :
 cq 232 #[pq t,s] w (.bool (ZQ us lv s)):=by
 obtain⟨L,V,h⟩:=h;obtain⟨l,n,v,o,rfl,rfl,r,u,y⟩:=h.forms;obtain⟨z,A,B⟩:=h.cells;have C:=h.ulen;have D:=h.llen;obtain⟨E,i⟩:=h.use s a;have G:=h.liveOf s a;have H:((s:Nat):Int)<8:=Z
 have b:us.getD s (0,0)=us[s]:=XI Z;have c:lv.getD s 0=lv[s]:=by rw[AA,AC Z];rfl
 have d:ZQ us lv s=(us[s].1 == 2 && lv[s] == 0):=by unfold ZQ;rw[b,c]
 rw[d];clear d b c;generalize us[s].1=p at *;generalize lv[s]=q at *;have I:=h.blk.lt;have J:=(own_mem h.l (g:=l) (by simp[Value.ownBlock])).2;have K:=(own_mem h.live (g:=v) (by simp[Value.ownBlock])).2;clear i h;by_cases e:p=2
 . subst e
   by_cases f:q=0
   . subst f
     go_enter func232,ntmps232
     go_wp2
     go_ret;exact⟨rfl,rfl⟩
   have j:¬ ((q:Nat):Int)=0:=Z
   go_enter func232,ntmps232
   go_wp2
   go_ret;have k:(((q:Nat):Int) == 0)=false:=uq j
   have m:(q == 0)=false:=uq f
   exact⟨by simp[k,m],rfl⟩
 have M:¬ ((p:Nat):Int)=2:=Z
 go_enter func232,ntmps232
 go_wp2
 go_ret;exact⟨by simp[e],rfl⟩
theorem YAT {t:Nat} (h:TableAt w base t g F us lv) :
 Calls prog 99 #[pq t] w fun e w'=>∃ u,e=.returned u/\w'.ownsRow w.heap.size 3 1 u (relO us lv 8).length (XP (relO us lv 8))/\TableAt w' base t g F (VT us lv 8) lv/\Keep F w w':=by
 obtain⟨L,a3,h⟩:=h;obtain⟨l,R,v,S,rfl,rfl,a4,a5,a6⟩:=h.forms;obtain⟨q,r,s⟩:=h.cells;have T:=h.foot;have z:l∈F:=by rw[T];simp[Value.ownBlock]
 have A:=h.lt;go_enter func99,ntmps99
 go_wp2
 go_loopw [2,3,11] (fun o _ i wr=>∃ k:Nat,k<=8/\i=.int .i64 (k:Nat)/\TableIs wr base t g (.slice (some l) 8 R) (.slice (some v) 8 S) F (VT us lv k) lv/\wr.ownsRow w.heap.size 3 1 o (relO us lv k).length (XP (relO us lv k))/\Keep F w wr) (fun _ _ i _=>8-(intOf i).toNat)
 case atStart=>exact⟨0,Z,rfl,h,AZ _ _ _ _,kq⟩
 have a7:=h.ulen;clear q r s h;obtain⟨k,hk,rfl,h,b,d⟩:=hrel;obtain⟨f,j,rfl,_⟩:=XB b;obtain⟨q,r,s⟩:=h.cells;by_cases m:k<8
 . have c:=VAa (w:=wr) (base:=base) (t:=t) (g:=g) (F:=F) (lv:=lv) ⟨_,_,h⟩ k m
   rw[KBB us lv k k (AG _)] at c;have a8:((k:Nat):Int)<8:=Z
   have a9:=Qv us lv k;have B:=QAO us lv k;have C:VT us lv (k+1)=if ZQ us lv k then VE (VT us lv k) k 0 else VT us lv k:=rfl;have aa:=KR us lv k;obtain⟨U,u2⟩:=h.use k m;have ab:=YP h.l (k*2);have D:(VT us lv k).getD k (0,0)=(VT us lv k)[k]:=XI Z;obtain⟨E,ac⟩:=h.setUse k 0 m Z 0 (0,(VT us lv k)[k].2) rfl ⟨Z,(h.uok _ (AN _)).2⟩;have G:VE (VT us lv k) k 0=(VT us lv k).set k (0,(VT us lv k)[k].2):=by unfold VE;rw[D]
   rw[<- G] at E;have ad:=(own_mem h.l (g:=l) (by simp[Value.ownBlock])).2;have H:=ZB B;have I:=ZB C;clear B C G D;generalize ((VT us lv k)[k]'_).1=y at U;generalize J:ZQ us lv k=ib at *;have ae:=ZB J;clear J;generalize K:relO us lv k=gl at *;have af:=ZB K;clear K;have V:=E;generalize VT us lv k=ul at *;cases ib
   . go_wp2_with (refine c.mono ?_;clear c;rintro e w' ⟨rfl,rfl⟩)
     go_roundw
     case rel=>
      refine⟨k+1,Z,by go_num,?_,?_,d⟩
      . rw[ZA I];exact h
      rw[ZA H];simpa using b
     case measure=>simp[intOf];omega
   have W:(wr.setCell (aq l (k*2)) (.int .i64 0)).ownsRow w.heap.size 3 1 (.slice f gl.length j) gl.length (XP gl):=own_set b (fun n=>by have:=(own_mem b n).1;have:=A l z;omega) _
   have M:Keep F w (wr.setCell (aq l (k*2)) (.int .i64 0)):=d.setCell (p:=⟨l,k*2,none⟩) (.inl z) _;have N:(wr.setCell (aq l (k*2)) (.int .i64 0)).heap.size=wr.heap.size:=sq
   have O:=XS (wr.setCell (aq l (k*2)) (.int .i64 0)) (.int .i64 (k:Nat)) 3;rw[N] at O;have X:=M.size;rw[N] at X
   go_wp2_with (first
    | (refine c.mono ?_;clear c;rintro e w' ⟨rfl,rfl⟩)
    | (at_builtin;refine elemInts.wp_app rfl _ _ rq w.heap.size _ gl.length (XP gl) rq (XE W _) (some (aq wr.heap.size 0)) 1 1 [.int .i64 (k:Nat)] rq O (by simp[Value.oneCell']) Z Z (by simp;omega) ?_))
   intro ag Y a0 a1 ah _
   go_wp2
   go_roundw
   case rel=>
    have a2:kz (wr.setCell (aq l (k*2)) (.int .i64 0)) ((wr.setCell (aq l (k*2)) (.int .i64 0)).alloc (.cells #[k] 3)):=kq.alloc _;have P:Keep (Value.slice f gl.length j).ownBlock.toList (wr.setCell (aq l (k*2)) (.int .i64 0)) Y:=a2.zero.trans a1 (fun x a=>.inl a);have Q:∀ x∈(Value.slice f gl.length j).ownBlock.toList,w.heap.size<=x:=fun x a=>(own_mem b a).1;refine⟨k+1,Z,by go_num,?_,?_,M.trans P (fun x a=>.inr (Q x a))⟩
    . rw[ZA I,AJ trivial]
      exact V.keep P (fun x a n=>by have:=Q x n;have:=A x a;omega)
    rw[ZA H,AJ trivial,AE,Af,show XP (gl++[k])=XP gl++[.int .i64 (k:Nat)] by simp[XP]]
    exact a0
   case measure=>simp[intOf];omega
 obtain rfl:k=8:=Z
 go_wp2
 go_ret;exact⟨_,rfl,b,⟨_,_,h⟩,d⟩
theorem XAP {A:Option Addr} (n c:Nat) (us:List (Nat×Nat)) (a:Rd w A (n*2) (us.flatMap Vw)) (l:n<=1000000) :
 Calls prog 342 #[.slice A n c] w fun e w'=>∃ v,e=.returned v/\w'.ownsRow w.heap.size 166 2 v n (us.flatMap Vw)/\kz w w':=by
 have m:=fun(W:World)=>CR (P:=prog) W 148 166 A n c 0 0 underlying148;have d:=a.1;rcases A with _ | ad
 . obtain rfl:n=0:=by
    rcases BQ n with e | e
    . exact e
    obtain⟨b,o,h,_⟩:=a.2 Z
    cases h
   obtain f:us.flatMap Vw=[]:=Aw (by rw[d]);rw[f];go_enter func342,ntmps342
   go_wp2
   go_ret;exact⟨_,rfl,AZ _ _ _ _,kq⟩
 have g:=a.keep ((Keep.refl _ w).alloc (.cells #[] 166))
 have i:(w.alloc (.cells #[] 166)).ownsRow w.heap.size 166 2 (.slice (some w.heap.size) 0 0) 0 []:=World.ownsRow_made _ _ _ (AG _) (by simp[maxLen]) rfl;clear d;go_enter func342,ntmps342;go_wp2_with (at_builtin;refine elemUse.wp_app rfl _ _ rfl w.heap.size _ 0 [] rfl i ad n c (us.flatMap Vw) rfl g (YAF us) Z Z sq ?_);intro p w' j k _ _
 go_wp2
 go_ret;exact⟨_,rfl,uq j,((Keep.refl _ w).alloc _).trans k (by simp[Value.ownBlock])⟩
theorem QAp {t:Nat} (h:TableAt w base t g F us lv) :
 Calls prog 227 #[pq t,.bool true] w fun e w'=>∃ u c,e=.returned (.slice (some (aq u 0)) 8 c)/\8<=c/\w'.ownsRow w.heap.size 166 2 (.slice (some (aq u 0)) 8 c) 8 ((VT us lv 8).flatMap Vw)/\kz w w':=by
 obtain⟨L,V,h⟩:=h;obtain⟨l,B,v,I,rfl,rfl,J,K,M⟩:=h.forms;obtain⟨N,O,P⟩:=h.cells;have Q:=h.ulen;have j:=XAP 8 B us (Rd.of_ownN h.l) Z;go_enter func227,ntmps227
 go_wp2_with (
  refine j.mono ?_;clear j;rintro e w1 ⟨R,rfl,f,m⟩;obtain⟨u,n,rfl,C⟩:=YD f Z)
 go_loopw [6,16] (fun _ i wr=>∃ k:Nat,k<=8/\i=.int .i64 (k:Nat)/\wr.ownsRow w.heap.size 166 2 (.slice (some (aq u 0)) 8 n) 8 ((VT us lv k).flatMap Vw)/\kz w wr) (fun _ i _=>8-(intOf i).toNat)
 case atStart=>exact⟨0,Z,rfl,f,m⟩
 clear f m;obtain⟨k,S,rfl,a,b⟩:=hrel;by_cases D:k<8
 . have d:=VAa (w:=wr) (base:=base) (t:=t) (g:=g) (F:=F) (us:=us) (lv:=lv) ⟨_,_,h.kO b⟩ k D
   have T:((k:Nat):Int)<8:=Z
   have o:VT us lv (k+1)=if ZQ us lv k then VE (VT us lv k) k 0 else VT us lv k:=rfl;have U:=KR us lv k;have q:(VT us lv k).getD k (0,0)=(VT us lv k)[k]:=XI Z
   have E:cl wr (aq u (k*2)) (.int .i64 ((VT us lv k)[k]' Z).1):=by
    have:=XL a (k:=k*2+0) (u:=.int .i64 ((VT us lv k)[k]' Z).1) (by rw[YN JJ _ k 0 Z Z];rfl);simpa using this
   have W:=YP a (k*2);have X:=(own_mem a (g:=u) (by simp[Value.ownBlock])).2;have G:=(own_mem a (g:=u) (by simp[Value.ownBlock])).1;have r:VE (VT us lv k) k 0=(VT us lv k).set k (0,(VT us lv k)[k].2):=by unfold VE;rw[q]
   have s:=QQ a (k*2+0) (.int .i64 0);rw[VY JJ (VT us lv k) k 0 Z Z (.int .i64 0) (0,(VT us lv k)[k].2) rfl,<- r] at s;have z:=ZB o;clear o r q;generalize ((VT us lv k)[k]'_).1=y at E;generalize A:ZQ us lv k=ib at *;have Y:=ZB A;clear A;generalize VT us lv k=ul at *;cases ib
   . go_wp2_with (refine d.mono ?_;clear d;rintro e w' ⟨rfl,rfl⟩)
     go_roundw;case rel=>exact⟨k+1,Z,by go_num,by rw[ZA z];exact a,b⟩
     case measure=>simp[intOf];omega
   have H:kz w (wr.setCell (aq u (k*2)) (.int .i64 0)):=b.setCell (p:=⟨u,k*2,none⟩) (.inr G) _
   go_wp2_with (refine d.mono ?_;clear d;rintro e w' ⟨rfl,rfl⟩);go_roundw;case rel=>exact⟨k+1,Z,by go_num,by rw[ZA z,AJ trivial];exact s,H⟩
   case measure=>simp[intOf];omega
 obtain rfl:k=8:=Z
 go_wp2
 go_ret;exact⟨u,n,rfl,C.1,a,b⟩
def Kd (live age:Nat):Nat:=(22-live)*age / (22+live)
def JAv (now stamp:Nat):Nat:=if now<=stamp then 0 else min (now-stamp) 2147483647
def Yz (a b:Nat×Nat×Nat):Bool:=if a.1≠b.1 then decide (b.1<a.1) else decide (a.2.1<b.2.1) || (decide (a.2.1=b.2.1) && decide (a.2.2<b.2.2))
def KH (us:List (Nat×Nat)) (lv:List Nat) (now:Nat) (b:Option (Nat×Nat×Nat)) (s:Nat):Option (Nat×Nat×Nat):=
 if 1<=lv.getD s 0/\lv.getD s 0<=11 then
  (if b.isNone || Yz (Kd (lv.getD s 0) (JAv now (us.getD s (0,0)).2),lv.getD s 0,s) (b.getD (0,0,0)) then some (Kd (lv.getD s 0) (JAv now (us.getD s (0,0)).2),lv.getD s 0,s) else b)
 else b
def JQ (us:List (Nat×Nat)) (k:Nat):List Nat:=(List.range k).filter (fun s=>(us.getD s (0,0)).1 == 2)
theorem Ye (us:List (Nat×Nat)) (k:Nat):JQ us (k+1)=if (us.getD k (0,0)).1=2 then JQ us k++[k] else JQ us k:=by
 unfold JQ;rw[Bq,DV];by_cases h:(us.getD k (0,0)).1=2
 . have a:((us.getD k (0,0)).1 == 2)=true:=by rw[h];rfl
   rw[AJ h];simp only[Dj,a,Bo,List.filter_nil]
 have a:((us.getD k (0,0)).1 == 2)=false:=Dd.2 h
 rw[AF h];simp only[Dj,a,Ap,CD,List.filter_nil,Bg]
def Ve (us:List (Nat×Nat)) (lv:List Nat) (now:Nat):Option (Nat×Nat×Nat):=(JQ us 8).foldl (KH us lv now) none
theorem ZAG {s:Nat} (h:KH us lv now b s=some x) :
 b=some x\/(x.2.2=s/\x.2.1=lv.getD s 0/\1<=lv.getD s 0/\lv.getD s 0<=11):=by
 unfold KH at h
 split at h
 . rename_i a
   split at h
   . cases h;exact .inr ⟨rfl,rfl,a⟩
   exact .inl h
 exact .inl h
theorem ZAv (l:List Nat) (b:Option (Nat×Nat×Nat)) (h:l.foldl (KH us lv now) b=some x) :
 b=some x\/(x.2.2∈l/\x.2.1=lv.getD x.2.2 0/\1<=lv.getD x.2.2 0/\lv.getD x.2.2 0<=11):=by
 induction l generalizing b with
 | nil=>exact .inl h
 | cons s l ih=>
   rcases ih _ h with a | ⟨a,c⟩
   . rcases ZAG a with d | ⟨rfl,e⟩
     . exact .inl d
     exact .inr ⟨sq,e⟩
   exact .inr ⟨by simp[a],c⟩
theorem Zw (h:Ve us lv now=some x):x.2.2<8/\(us.getD x.2.2 (0,0)).1=2/\x.2.1=lv.getD x.2.2 0/\1<=lv.getD x.2.2 0/\lv.getD x.2.2 0<=11:=by
 rcases ZAv _ _ h with h | ⟨a,b⟩
 . cases h
 unfold JQ at a
 rw[Dr,D8] at a;exact⟨a.1,uq a.2,b⟩
theorem Qf {s:Nat} (h:b.isSome\/(1<=lv.getD s 0/\lv.getD s 0<=11)):(KH us lv now b s).isSome:=by
 unfold KH
 split
 . split
   . rfl
   rename_i a
   rcases b with _ | b
   . simp at a
   rfl
 rename_i c
 exact h.resolve_right c
theorem XAX (l:List Nat) (b:Option (Nat×Nat×Nat)) (h:b.isSome\/∃ s∈l,1<=lv.getD s 0/\lv.getD s 0<=11):(l.foldl (KH us lv now) b).isSome:=by
 induction l generalizing b with
 | nil=>exact h.resolve_right sq
 | cons s l ih=>
   refine ih _ ?_;rcases h with h | ⟨t,a,h⟩
   . exact .inl (Qf (.inl h))
   rcases AL.1 a with rfl | a
   . exact .inl (Qf (.inr h))
   exact .inr ⟨t,a,h⟩
theorem YBH (h:Ve us lv now=none) (s:Nat) (c:s<8) (d:(us.getD s (0,0)).1=2):lv.getD s 0=0\/12<=lv.getD s 0:=by
 rcases BG (lv.getD s 0) 12 with b | b
 . left
   rcases BQ (lv.getD s 0) with a | a
   . exact a
   exfalso
   have:=XAX (us:=us) (lv:=lv) (now:=now) (JQ us 8) none (.inr ⟨s,by unfold JQ;rw[Dr,D8];exact⟨c,uq d⟩,a,Z⟩);unfold Ve at h;rw[h] at this;cases this
 exact .inr b
theorem XAW (a b:Nat) (c:1<=a) (h:b<=2147483647):Kd a b<=2147483647:=by
 unfold Kd;refine Nat.div_le_of_le_mul ?_;exact D6 Z h
theorem QAv (now a:Nat):JAv now a<=2147483647:=by unfold JAv;split <;> omega
theorem ZBK {t:Nat} (h:TableAt w base t g F us lv) (s:Nat) (a:s<8) :
 cq 15 #[pq t,s] w (lv.getD s 0:Nat):=by
 obtain⟨L,V,h⟩:=h;obtain⟨l,f,v,i,rfl,rfl,j,k,m⟩:=h.forms;obtain⟨n,o,p⟩:=h.cells;have b:=Qy h s a;have c:=h.liveOf s a;have d:lv[s]'(by rw[h.llen];exact a)=lv.getD s 0:=by rw[AA,AC (by rw[h.llen];exact a)];rfl
 rw[d] at c;have q:=(own_mem h.live (g:=v) (by simp[Value.ownBlock])).2;generalize lv.getD s 0=y at *;go_enter func15,ntmps15;go_wp2_with (refine b.mono ?_;clear b;rintro e w' ⟨rfl,rfl⟩);go_ret;exact⟨rfl,rfl⟩
theorem QAq {t:Nat} (h:TableAt w base t g F us lv) (s:Nat) (a:s<8) :
 cq 85 #[pq t,s] w ((us.getD s (0,0)).2:Nat):=by
 obtain⟨L,V,h⟩:=h;obtain⟨l,d,v,f,rfl,rfl,i,j,k⟩:=h.forms;obtain⟨m,n,o⟩:=h.cells;have b:=Qy h s a;have c:=(h.use s a).2;rw[<- XI (by rw[h.ulen];exact a)] at c;have p:=(own_mem h.l (g:=l) (by simp[Value.ownBlock])).2;generalize (us.getD s (0,0)).2=y at *;go_enter func85,ntmps85;go_wp2_with (refine b.mono ?_;clear b;rintro e w' ⟨rfl,rfl⟩);go_ret;exact⟨rfl,rfl⟩