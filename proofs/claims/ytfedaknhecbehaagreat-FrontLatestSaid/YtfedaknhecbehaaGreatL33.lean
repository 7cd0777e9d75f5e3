/- Lemmas of the proof, with their conditions. -/
import Derived.Test.YtfedaknhecbehaaGreatL32
import Derived.Test.YtfedaknhecbehaaGreatL31
namespace Go.Proofs.YtfedaknhecbehaaGreat
open Tryz Go.RowKit Go.Shelf
variable {k b c e v z lo c' b6 lg lc:Nat} {xs bs:List UInt8} {A:Option Addr} {D:PDisk} {sv:Value} {ov:Bool} {pre:List Nat} {W:World}
set_option linter.all false
set_option maxHeartbeats 8000000
set_option maxRecDepth 100000
def AckRow (w w':World) (st:PSt) (A:Option Addr) (c:Nat):Prop:=w'.ownsRow w.heap.size 5 1 (.slice A 25 c) 25 (bys (QK 8 st.view st.seq 0 0 st.epoch st.done []))
def QBq (k ep:Nat):Nat:=if k=3 then ep+1 else ep
theorem QBm {st:PSt}:(QAW st ⟨k,b,c,e,xs⟩).view=st.view/\(QAW st ⟨k,b,c,e,xs⟩).mode=st.mode/\(QAW st ⟨k,b,c,e,xs⟩).seq=st.seq+1/\(QAW st ⟨k,b,c,e,xs⟩).epoch=QBq k st.epoch/\(k=3->(QAW st ⟨k,b,c,e,xs⟩).done=st.seq+1)/\(k≠3->(QAW st ⟨k,b,c,e,xs⟩).done=st.done):=by
 unfold QAW QBq;by_cases h:k=3
 . subst h
   simp
 have a:¬ ((k:Nat):Int)=3:=Z;simp[h,a]
@[simp] theorem length_emptyW (m:Nat):(XH m).length=m:=by simp[XH]
theorem Yn (m:Nat):QH (XH m)=0:=by
 unfold QH XH;rw[DT];simp[PSlot.none_]
theorem VAF (m i:Nat):((XH m).getD i PSlot.none_).is=false:=by
 unfold XH;simp only[AB,Ay]
 split <;> rfl
theorem ZAr (m B:Nat):∀ q∈XH m,q.is=true->Vg B q.o:=by
 intro q a hi;rw[AV a] at hi;cases hi
theorem VAZ {m i:Nat} (hi:i<m) (q:PSlot) (a:q.is=true):QH ((XH m).set i q)=1:=by
 rw[Vx (uq hi) (VAF m i) q a,Yn]
def Off (N:List Nat) (w:World) (F:List Nat):Prop:=∀ b∈N,b∉F/\b<w.heap.size
namespace Off
variable {N:List Nat} {w w':World} {F F':List Nat}
theorem nil:Off [] w F:=fun _ h=>by cases h
theorem kO (h:Off N w F) (c:kz w w'):Off N w' F:=fun b a=>⟨(h b a).1,BC (h b a).2 c.size⟩
theorem turn (h:Off N w F) (c:Keep F w w') (d:Grow w F F'):Off N w' F':=fun b a=>⟨fun e=>(d b e).elim (h b a).1 (by have:=(h b a).2;omega),BC (h b a).2 c.size⟩
theorem add (h:Off N w F) (c:kz w w') (g:w.heap.size<=b) (d:b<w'.heap.size) (e:∀ x∈F,x<w.heap.size):Off (b :: N) w' F:=fun x a=>by
 rcases AM.1 a with rfl | a
 . exact⟨fun f=>by have:=e _ f;omega,d⟩
 exact h.kO c x a
end Off
theorem AckRow.rd {w w':World} {st:PSt} {s d:Nat} (h:AckRow w w' st A c) (a:st.view=v) (b:st.seq=s) (f:st.epoch=e) (g:st.done=d):Rd w' A 25 (bys (QK 8 v s 0 0 e d [])):=by
 subst a b f g;exact Rd.of_own h
section
variable (w:World) (base r s d x:Nat) (Fs Fx:List Nat) (B:Nat) (R:RS) (h:ReplicaIs w base r s d x Fs Fx B R)
include h
end
def Unready (r z:Nat) (w:World):Prop:=∀ W,kz w W->cr 149 #[pq r] W (ii z)
theorem Unready.kO {r:Nat} {w w':World} (h:Unready r z w) (a:kz w w'):Unready r z w':=fun W b=>h W (a.tO b)
theorem Jw {w:World} {base s d:Nat} (r x:Nat) {Fs:List Nat} {B:Nat} {S:PS} (l:Blk w r 209 #[pq s,pq x]) (h:StoreAt w base s d Fs B S) (o:S.st.mode=2):Unready r 7 w:=by
 intro W u;replace h:=h.kO u;replace l:=l.kO u;have n:=YO h
 have v:cq 91 #[pq s] W (pq d):=by
  obtain⟨g,t,p,m,Fd,Ft,Fw,Fm,L0,L1,k,z⟩:=h;exact DiskS_is W base s d g t p m Fd Ft Fw Fm L0 L1 B S k
 have y:cq 134 #[pq d] W (.bool false):=by
  obtain⟨g,t,p,m,Fd,Ft,Fw,Fm,L0,L1,k,z⟩:=h;have:=Ku W base d Fd S.D k.log.disk
  rwa [k.log.off] at this
 have D:cl W r (pq s):=uq (l.cell 0);rw[o] at n;clear o;have E:=fun(a b c e f g A i j:Value) W=>QE (P:=prog) underlying58 0 rfl isAgg3 #[ii 2,a,b,c,e,f,g,A,i,j] rfl W;go_enter func149,ntmps149
 go_wp2_with (first
  | (go_at_call 91;refine v.mono ?_;clear v;rintro e w' ⟨rfl,rfl⟩)
  | (go_at_call 134;refine y.mono ?_;clear y;rintro e w' ⟨rfl,rfl⟩)
  | (go_at_call 22;refine n.mono ?_;clear n;rintro e w1 ⟨rfl,C⟩))
 go_ret;exact⟨rfl,C⟩
theorem YAg {w:World} {r:Nat} (h:Unready r z w) (p:1<=z) {dn fs:Nat} {n:Nat} (d:Nat) (f:FrMay k v fs b c e dn xs) (g:Rd w A n (bys (QK k v fs b c e dn xs))) :
 cr 45 #[pq r,.slice A n d] w (.tuple #[zn,ii z]):=by
 have i:=KAU f d g;have s:¬ ((z:Nat):Int)=0:=Z;clear g f;go_enter func45,ntmps45
 go_wp2_with (first
  | (go_at_call 148
     refine i.mono ?_;clear i;rintro t w1 ⟨j,l,rfl,u,m⟩
     have a:kz w (w1.alloc (.cells #[ii k,ii v,ii fs,ii b,ii c,ii e,ii dn,.slice j xs.length l] 211)):=m.alloc _)
  | (go_at_call 149
     refine(h _ a).mono ?_;rintro y B ⟨rfl,o⟩;replace a:=a.tO o))
 go_ret2;exact⟨rfl,a⟩
theorem QBA (w:World) (r s x:Nat) (a:Blk w r 209 #[pq s,pq x]):cq 279 #[pq r] w (pq s):=by
 have b:cl w r (pq s):=uq (a.cell 0);go_enter func279,ntmps279
 go_wp2
 go_ret;exact⟨rfl,rfl⟩
structure FrSt (w0 w:World) (B f r s d x:Nat) (Fs Fx:List Nat) (R:RS):Prop where
 blk:Blk w f 333 #[pq r]
 rep:ReplicaIs w w0.heap.size r s d x Fs Fx B R
 fn:f∉YU r Fs Fx
 fb:w0.heap.size<=f
 kept:kz w0 w
namespace FrSt
variable {w0 w w':World} {B f r s d x:Nat} {Fs Fx:List Nat} {R:RS}
theorem kO (h:FrSt w0 w B f r s d x Fs Fx R) (a:kz w w'):FrSt w0 w' B f r s d x Fs Fx R:=⟨h.blk.kO a,h.rep.kO a,h.fn,h.fb,h.kept.tO a⟩
theorem lt (h:FrSt w0 w B f r s d x Fs Fx R):f<w.heap.size:=h.blk.lt
theorem turn (h:FrSt w0 w B f r s d x Fs Fx R) {a b:List Nat} {c:RS} (g:ReplicaIs w' w0.heap.size r s d x a b B c) (e:Keep (YU r Fs Fx) w w') (i:Grow w (YU r Fs Fx) (YU r a b)):FrSt w0 w' B f r s d x a b c:=by
 have m:=h.lt;have j:=h.rep.ge;exact⟨h.blk.keep e h.fn,g,fun k=>(i f k).elim h.fn Z,h.fb,h.kept.trans e (fun y l=>.inr (j y l))⟩
end FrSt
theorem YBC (w:World) (f r:Nat) (h:Blk w f 333 #[pq r]):cq 177 #[pq f] w (pq r):=by
 have a:cl w f (pq r):=uq (h.cell 0);go_enter func177,ntmps177
 go_wp2
 go_ret;exact⟨rfl,rfl⟩
theorem JBQ (w:World):cq 177 #[.pointer none] w (.pointer none):=by
 go_enter func177,ntmps177
 go_wp2
 go_ret;exact⟨rfl,rfl⟩
theorem VN (w:World) (f r s x:Nat) (h:Blk w f 333 #[pq r]) (c:Blk w r 209 #[pq s,pq x]) :
 cq 170 #[pq f] w (pq s):=by
 have a:=YBC w f r h;have b:=QBA w r s x c;go_enter func170,ntmps170
 go_wp2_with (first
  | (go_at_call 177;refine a.mono ?_;clear a;rintro e w' ⟨rfl,rfl⟩)
  | (go_at_call 279;refine b.mono ?_;clear b;rintro e w' ⟨rfl,rfl⟩))
 go_ret;exact⟨rfl,rfl⟩
theorem QAK {w:World} {f r:Nat} {b:Value} {Q:Ending->World->Prop} (h:Blk w f 333 #[pq r])
 (a:Calls prog 45 #[pq r,b] w fun e w'=>∃ u c,e=.returned (.tuple #[u,c])/\Q e w') :
 Calls prog 63 #[pq f,b] w Q:=by
 have d:=YBC w f r h;go_enter func63,ntmps63
 go_wp2_with (first
  | (go_at_call 177;refine d.mono ?_;clear d;rintro e w' ⟨rfl,rfl⟩)
  | (go_at_call 45;refine a.mono ?_;clear a;rintro e w' ⟨u,c,rfl,g⟩))
 exact g
theorem Vm {w:World} {f r s x:Nat} {v:Int} {Q:Ending->World->Prop} (h:Blk w f 333 #[pq r]) (d:Blk w r 209 #[pq s,pq x])
 (a:Calls prog 126 #[pq s,ii v,ii 2] w fun e w'=>∃ c:Int,e=.returned (ii c)/\Q e w') :
 Calls prog 59 #[pq f,ii v] w Q:=by
 have b:=VN w f r s x h d;go_enter func59,ntmps59
 go_wp2_with (first
  | (go_at_call 170;refine b.mono ?_;clear b;rintro e w' ⟨rfl,rfl⟩)
  | (go_at_call 126;refine a.mono ?_;clear a;rintro e w' ⟨c,rfl,g⟩))
 exact g
theorem KAH {w:World} {f r s x:Nat} {c d g i j k l m n o:Int} (h:Blk w f 333 #[pq r]) (L:Blk w r 209 #[pq s,pq x])
 (u:∀ W,kz w W->cr 22 #[pq s] W (.agg #[ii c,ii d,ii g,ii i,ii j,ii k,ii l,ii m,ii n,ii o])) :
 cr 66 #[pq f] w (.agg #[ii c,ii d,ii g,ii i,ii j,ii k,ii l,ii m,ii n,ii o]):=by
 have y:=fun W (z:kz w W)=>VN W f r s x (h.kO z) (L.kO z);have M:=Blk.new w 58 #[zz,zz,zz,zz,zz,zz,zz,zz,zz,zz];have t:kz w (w.alloc (.cells #[zz,zz,zz,zz,zz,zz,zz,zz,zz,zz] 58)):=kq.alloc _;go_enter func66,ntmps66
 go_wp2_with (first
  | (go_at_call 170;refine(y _ t).mono ?_;clear y;rintro e w' ⟨rfl,rfl⟩)
  | (go_at_call 22
     refine(u _ t).mono ?_;clear u;rintro e w1 ⟨rfl,A⟩;have a:=M.kO A;have O:=a.lt;have P:cl w1 w.heap.size zz:=uq (a.cell 0);have Q:cl w1 (aq w.heap.size 1) zz:=uq (a.cell 1);have R:cl w1 (aq w.heap.size 2) zz:=uq (a.cell 2);have S:cl w1 (aq w.heap.size 3) zz:=uq (a.cell 3);have T:cl w1 (aq w.heap.size 4) zz:=uq (a.cell 4);have U:cl w1 (aq w.heap.size 5) zz:=uq (a.cell 5);have V:cl w1 (aq w.heap.size 6) zz:=uq (a.cell 6);have X:cl w1 (aq w.heap.size 7) zz:=uq (a.cell 7);have Y:cl w1 (aq w.heap.size 8) zz:=uq (a.cell 8);have c9:cl w1 (aq w.heap.size 9) zz:=uq (a.cell 9);have f0:=a.frozen 0;have f1:=a.frozen 1;have f2:=a.frozen 2;have f3:=a.frozen 3;have f4:=a.frozen 4;have f5:=a.frozen 5;have f6:=a.frozen 6;have f7:=a.frozen 7;have f8:=a.frozen 8;have f9:=a.frozen 9))
 have b:=((((((((((a.set 0 (.int .i64 c)).set 1 (.int .i64 d)).set 2 (.int .i64 g)).set 3 (.int .i64 i)).set 4 (.int .i64 j)).set 5 (.int .i64 k)).set 6 (.int .i64 l)).set 7 (.int .i64 m)).set 8 (.int .i64 n)).set 9 (.int .i64 o));have N:=(((((((((((Keep.refl [w.heap.size] w1).setCell (p:=⟨w.heap.size,0,none⟩) (.inl sq) (.int .i64 c)).setCell (p:=⟨w.heap.size,1,none⟩) (.inl sq) (.int .i64 d)).setCell (p:=⟨w.heap.size,2,none⟩) (.inl sq) (.int .i64 g)).setCell (p:=⟨w.heap.size,3,none⟩) (.inl sq) (.int .i64 i)).setCell (p:=⟨w.heap.size,4,none⟩) (.inl sq) (.int .i64 j)).setCell (p:=⟨w.heap.size,5,none⟩) (.inl sq) (.int .i64 k)).setCell (p:=⟨w.heap.size,6,none⟩) (.inl sq) (.int .i64 l)).setCell (p:=⟨w.heap.size,7,none⟩) (.inl sq) (.int .i64 m)).setCell (p:=⟨w.heap.size,8,none⟩) (.inl sq) (.int .i64 n)).setCell (p:=⟨w.heap.size,9,none⟩) (.inl sq) (.int .i64 o));simp only[PU] at b;have B:=b.cell 0;have C:=b.cell 1;have D:=b.cell 2;have E:=b.cell 3;have F:=b.cell 4;have G:=b.cell 5;have H:=b.cell 6;have I:=b.cell 7;have J:=b.cell 8;have K:=b.cell 9;simp at B C D E F G H I J K;refine Af (v:=.agg #[ii c,ii d,ii g,ii i,ii j,ii k,ii l,ii m,ii n,ii o]) (by simp[results,results66,go_sem,B,C,D,E,F,G,H,I,J,K]) rfl ⟨rfl,(t.tO A).trans N iq⟩
section
variable (w:World) (base s d g t p m:Nat) (Fd Ft Fw Fm:List Nat) (L0 L1:Value) (B:Nat) (S:PS) (h:StoreIs w base s d g t p m Fd Ft Fw Fm L0 L1 B S)
include h
theorem KAj (a:S.st.mode=1) (x:Bool):cq 93 #[pq s,ii 2,.bool x] w (ii 7):=by
 obtain⟨c,d,e,f,g,b,i,j,k,l,m,n,o,p,r,t,u,v⟩:=KC h.blk;rw[a] at b;go_enter func93,ntmps93;go_wp2_with fail;go_ret;exact⟨rfl,rfl⟩
theorem JBW (b n:Int):Calls prog 109 #[pq s,ii b,ii n] w fun e w'=>∃ v,e=.returned (.bool v)/\w=w':=by
 have a:=ImageS_is w base s d g t p m Fd Ft Fw Fm L0 L1 B S h;have c:=BlocksS_is w base s d g t p m Fd Ft Fw Fm L0 L1 B S h;have y:B<=64:=h.log.geom.few;have f:(1:Int)<=n\/¬ (1:Int)<=n:=Z;have i:n<=(B:Nat)\/¬ n<=(B:Nat):=Z;have j:0<=b\/¬ 0<=b:=Z;have k:b<=(B:Nat)-n\/¬ b<=(B:Nat)-n:=Z;rcases f with l | l <;> rcases i with o | o <;> rcases j with r | r <;> rcases k with u | u
 all_goals
  go_enter func109,ntmps109;go_wp2_with (first | (refine a.mono ?_;clear a;rintro e w' ⟨rfl,rfl⟩) | (refine c.mono ?_;clear c;rintro e w' ⟨rfl,rfl⟩))
  try (go_ret;first | exact⟨true,rfl,rfl⟩ | exact⟨false,rfl,rfl⟩ | exact⟨decide (b<=(B:Nat)-n),rfl,rfl⟩ | exact⟨.inl rfl,rfl⟩ | exact⟨.inr rfl,rfl⟩)
theorem XBN (f:S.st.mode=1) (b:Int) (A:Option Addr) (n c:Nat):cq 120 #[pq s,ii b,.slice A n c] w (ii 7):=by
 have a:=JBW w base s d g t p m Fd Ft Fw Fm L0 L1 B S h b 1;have i:=KAj w base s d g t p m Fd Ft Fw Fm L0 L1 B S h f;have j:((n:Nat):Int)=64\/¬ ((n:Nat):Int)=64:=Z;go_enter func120,ntmps120;rcases j with k | k
 all_goals
  go_wp2_with (first
   | (go_at_call 109;refine a.mono ?_;clear a;rintro e w' ⟨v,rfl,rfl⟩;cases v)
   | (go_at_call 93;refine(i _).mono ?_;rintro e w' ⟨rfl,rfl⟩))
  all_goals
   go_ret;exact⟨rfl,rfl⟩
end
section
variable {w0 w:World} {B f r s d x:Nat} {Fs Fx:List Nat} {R:RS} (h:FrSt w0 w B f r s d x Fs Fx R)
include h
theorem JAW (b:Int) (A:Option Addr) (n c:Nat):cq 165 #[pq f,ii b,.slice A n c] w (ii 7):=by
 have a:=VN w f r s x h.blk h.rep.blk;obtain⟨g,t,p,m,Fd,Ft,Fw,Fm,L0,L1,j,_⟩:=h.rep.st;have i:=XBN w _ s d g t p m Fd Ft Fw Fm L0 L1 B _ j h.rep.mode b A n c;go_enter func165,ntmps165
 go_wp2_with (first
  | (go_at_call 170;refine a.mono ?_;clear a;rintro e w' ⟨rfl,rfl⟩)
  | (go_at_call 120;refine i.mono ?_;clear i;rintro e w' ⟨rfl,rfl⟩))
 go_ret;exact⟨rfl,rfl⟩
theorem XAp (b:Int):cr 166 #[pq f,ii b] w (.tuple #[zn,ii 7]):=by
 have c:=VN w f r s x h.blk h.rep.blk;have a:=YO h.rep.st;have d:R.S.st.mode=1:=h.rep.mode;rw[d] at a;have v:=fun(g i j k l m n o p t:Value) W=>QE (P:=prog) underlying58 0 rfl isAgg3 #[g,i,j,k,l,m,n,o,p,t] rfl W;go_enter func166,ntmps166
 go_wp2_with (first
  | (go_at_call 170;refine c.mono ?_;clear c;rintro e w' ⟨rfl,rfl⟩)
  | (go_at_call 22;refine a.mono ?_;clear a;rintro e w' ⟨rfl,u⟩))
 go_ret2;exact⟨rfl,u⟩
end
section
open Go.RowKit Go.Shelf
attribute [local go_sem] AZ
def Vh (ds:List Bool) (k:Nat):List Nat:=(List.range k).filter (fun i=>ds.getD i false)
theorem ZAY (ds:List Bool) (k:Nat):Vh ds (k+1)=if ds.getD k false then Vh ds k++[k] else Vh ds k:=by
 unfold Vh;rw[CF,DP];cases h:ds.getD k false
 . rw[AL sq];simp only[Dg,h];simp
 rw[AP rfl];simp only[Dg,h];simp
def VBZ (k:Nat):Array Value:=#[k]
def QBa (ds:List Bool) (pre:List Nat) (k:Nat) (_:World):Prop:=k<ds.length/\pre=Vh ds k/\ds.getD k false=true
def YBa (base p bc:Nat) (F:List Nat) (l:List Int) (ds:List Bool) (W W':World):Prop:=
 (Boxed W bc 295 (.pointer (some p))->Boxed W' bc 295 (.pointer (some p)))/\(PagedAt W base p F l ds->PagedAt W' base p F l ds)
theorem XBQ (n:Nat) (v:Value) (w:World) (a:v.oneCell'=true) :
 CallsIn Fence.wide n prog 334 #[v] w fun e w'=>e=.returned (.func (.func 391) #[] #[pq w.heap.size])/\w'=w.alloc (.cells #[v] 295):=by
 refine(AR (n:=n)).2 ?_;go_enter func334,ntmps334
 go_wp2
 go_ret;exact⟨rfl,rfl⟩
theorem VAR {w:World} {base m a b:Nat} {F d f:List Nat} {I:PImage} (h:ImageIs w base m a b F d f I) (c:Bool) :
 Calls prog 220 #[pq m,.bool c] w fun e w'=>e=.returned (.func (.func 391) #[] #[pq w.heap.size])/\w'=w.alloc (.cells #[pq (if c then b else a)] 295):=by
 have g:=JN w base m a b F d f I h c;generalize (if c then b else a)=pt at *;have i:=(AR (n:=0)).1 (XBQ 0 (.pointer (some pt)) w rfl);go_enter func220,ntmps220
 go_wp2_with (first
  | (go_at_call 230;refine g.mono ?_;clear g;rintro e w' ⟨rfl,rfl⟩)
  | (go_at_call 334;refine i.mono ?_;clear i;rintro e w' ⟨rfl,rfl⟩))
 go_ret;exact⟨rfl,rfl⟩
theorem KBM {d base p:Nat} (n:Nat) {F:List Nat} {l:List Int} {ds:List Bool} {w:World} (b:PagedAt w base p F l ds) (a:Boxed w d 295 (.pointer (some p))) :
 XBV n prog 391 #[pq d] VBZ (QBa ds) (YBa base p d F l ds) (fun xs=>xs=Vh ds ds.length) w:=by
 intro lb J W y V z A;replace b:PagedAt W base p F l ds:=b.kO y;replace a:Boxed W d 295 (.pointer (some p)):=(y.block d a.lt sq).trans a;have B:=a.cell
 have X:ds.length<=5:=by
  obtain⟨L,U,h⟩:=b;have O:=h.pages;have Y:=h.few;rw[O];unfold pgs;omega
 have C:=AR (n:=n-1).2 (YAB b);refine Cx func391 rfl trivial ?_ rfl;simp only[ntmps391,PL,Nat.reduceAdd,Nat.reduceSub];gi_wp2_with (refine⟨trivial,fun h=>by simp[Fence.wide] at h,?_⟩;refine C.mono ?_;clear C;rintro e w' ⟨rfl,rfl⟩)
 gi_loopw [3,6] (fun _ i wr=>∃ (k:Nat) (pre:List Nat),k<=ds.length/\i=.int .i64 (k:Nat)/\J pre wr/\Hid (pre=Vh ds k)/\PagedAt wr base p F l ds/\Boxed wr d 295 (.pointer (some p)))
  (fun _ i _=>ds.length-(intOf i).toNat)
 case atStart=>exact⟨0,[],AS _,rfl,A,rfl,b,a⟩
 clear b a A B;obtain⟨k,pre,hk,rfl,r,j,b,a⟩:=hrel;have B:=a.cell;by_cases m:k<ds.length
 . have a0:((k:Nat):Int)<(ds.length:Nat):=Z
   have D:=b;obtain⟨L,U,o⟩:=b;obtain⟨g,c,u,uc,rfl,rfl,_⟩:=o.forms;have P:=o.cells.2.2;have E:=ZAY ds k;have G:ds.getD k false=ds[k]:=by rw[AB,AC m];rfl
   have s:cl wr (aq u k) (.bool ds[k]):=QJ o.rd (by simp[m]);have H:=JB D;have I:=JB E;have t:=JB G;clear o D E G
   cases hdk:ds[k] with
   | true=>
     rw[hdk] at s;obtain⟨fn,a1,a2,a3,K,M⟩:=z pre k wr r ⟨m,JA j,by rw[JA t];exact hdk⟩;dsimp only[VBZ] at K;have v:=JB hdk;clear hdk;have a4:=JB m
     gi_wp2
     refine⟨fun h=>by simp[Fence.wide] at h,M.mono ?_⟩;rintro e a5 ⟨rfl,Q,R,N⟩;have S:=N (JA H);clear K M P s N
     gi_wp2
     go_roundw;case rel=>exact⟨k+1,_,Z,by go_num,Q,by show _=_;rw[JA I,JA t,JA v,JA j];rfl,S,R a⟩
     case measure=>simp[intOf];omega
   | false=>
     rw[hdk] at s;have v:=JB hdk;clear hdk z
     gi_wp2
     refine⟨fun f T=>(by cases T),?_⟩
     gi_wp2
     go_roundw;case rel=>exact⟨k+1,pre,Z,by go_num,r,by show _=_;rw[JA I,JA t,JA v];exact JA j,JA H,a⟩
     case measure=>simp[intOf];omega
 obtain rfl:k=ds.length:=Z
 gi_wp2
 go_end0
 exact⟨⟨_,rfl⟩,pre,JA j,r⟩
end
section
open Go.RowKit Go.Shelf
attribute [local go_sem] AZ
structure MetaD (lo:Nat) (D D':PDisk) (c:Nat):Prop where
 n:D'.n=D.n
 off:D'.off=D.off
 fuse:D'.fuse=D.fuse
 flt:D'.faults=D.faults
 acts:D'.acts<=D.acts+c
 nlen:D.now.length=D.n*64->D'.now.length=D.n*64
 now:D.now.length=D.n*64->∀ i,lo<=i->seg 64 D'.now i=seg 64 D.now i
theorem MetaD.refl (lo:Nat) (D:PDisk):MetaD lo D D 0:=⟨rfl,rfl,rfl,rfl,AG _,id,fun _ _ _=>rfl⟩
theorem MetaD.trans {b d:PDisk} (h:MetaD lo D b c) (a:MetaD lo b d c'):MetaD lo D d (c+c'):=
 ⟨a.n.trans h.n,a.off.trans h.off,a.fuse.trans h.fuse,a.flt.trans h.flt,by have:=h.acts;have:=a.acts;omega,
   fun e=>by have:=a.nlen (by rw[h.nlen e,h.n]);rw[this,h.n],fun e i hi=>(a.now (by rw[h.nlen e,h.n]) i hi).trans (h.now e i hi)⟩
theorem MetaD.write (b:k<lo) (c:lo<=D.n) (a:bs.length=64):MetaD lo D (D.write k bs) 1:=by
 refine⟨rfl,rfl,rfl,rfl,AG _,fun e=>?_,fun e i hi=>?_⟩
 . show (laid D.now (k*64) bs).length=_
   rw[YI _ _ _ Z,e]
 show seg 64 (laid D.now (k*64) bs) i=_;exact seg_laid_other 64 _ _ _ _ Z a Z
theorem MetaD.flush (lo:Nat) (D:PDisk):MetaD lo D D.flush 1:=⟨rfl,rfl,rfl,rfl,AG _,id,fun _ _ _=>rfl⟩
theorem MetaD.mono {D':PDisk} (h:MetaD lo D D' c) (a:c<=c'):MetaD lo D D' c':=⟨h.n,h.off,h.fuse,h.flt,by have:=h.acts;omega,h.nlen,h.now⟩
structure KPg (w:World) (base d:Nat) (Fd:List Nat) (B:Nat) (D:PDisk) (sv:Value) (ov:Bool) (N b6 lg lc:Nat) (pre:List Nat) (W:World):Prop where
 st:∃ Fd' D' lie,DiskAt W base d Fd' D'/\MetaD (6+4*pgs B) D D' pre.length/\(∀ x∈Fd',x∈Fd\/N<=x)/\W.ownsRow w.heap.size 3 1 (.slice (some lg) (pgs B) lc) (pgs B) (YL lie)/\∀ x∈lie,x<=1
 size:N<=W.heap.size
 b2:Boxed W w.heap.size 38 sv
 b3:Boxed W (w.heap.size+1) 4 (.bool ov)
 b4:Boxed W (w.heap.size+2) 53 (.slice none 0 0)
 b5:Boxed W (w.heap.size+3) 32 (.int .i64 0)
 b6:Boxed W b6 53 (.slice (some lg) (pgs B) lc)
 keep:Keep Fd w W
theorem KPg.kept {w X Y:World} {base d:Nat} {Fd:List Nat} {B:Nat} {N:Nat} (h:KPg w base d Fd B D sv ov N b6 lg lc pre X) (a:kz X Y):KPg w base d Fd B D sv ov N b6 lg lc pre Y:=by
 obtain⟨F',D',b,c,e,f,g,i⟩:=h.st;exact⟨⟨F',D',b,c.kO a,e,f,QB g a,i⟩,AA h.size a.size,KA h.b2 a sq,KA h.b3 a sq,KA h.b4 a sq,KA h.b5 a sq,KA h.b6 a sq,h.keep.tO a⟩
theorem KPg.turned {w:World} {base d:Nat} {Fd:List Nat} {B:Nat} {N l:Nat} {o a:Obj} (h:KPg w base d Fd B D sv ov N b6 lg lc pre W) (e:w.heap.size<=l) (b:W.heap[l]? = some o) (c:o.isCells=false):KPg w base d Fd B D sv ov N b6 lg lc pre (W.putObj l a):=by
 obtain⟨F',D',f,g,i,j,k,m⟩:=h.st;exact⟨⟨F',D',f,g.putObj a b c,i,j,ownsRow_putObj k a b c,m⟩,by rw[World.putObj_size];exact h.size,JC a h.b2 b c,JC a h.b3 b c,JC a h.b4 b c,JC a h.b5 b c,JC a h.b6 b c,h.keep.putObj e a⟩
theorem YAd {w:World} {base s d g t p m:Nat} {Fd Ft Fw Fm:List Nat} {L0 L1:Value} {B:Nat} {S:PS} (h:StoreIs w base s d g t p m Fd Ft Fw Fm L0 L1 B S) (cz:∀ x∈S.lie0,x<=1) (d0:∀ x∈S.lie1,x<=1) (ha:S.D.acts<=9000000) (a3:Bool) :
 Calls prog 95 #[pq s,.bool a3] w fun e w'=>∃ u a0 P D',e=.returned (.tuple #[u,zz])/\w'.ownsRow w.heap.size 3 1 u (pgs B) (YL a0)/\(∀ x∈a0,x<=1) /\
  StoreIs w' base s d g t p m P Ft Fw Fm L0 L1 B { S with D:=D' }/\MetaD (6+4*pgs B) S.D D' (pgs B)/\Keep Fd w w'/\Grow w Fd P/\Apart P u.ownBlock.toList:=by
 obtain⟨d1,ev,d2,c7,d3,d4,d5,d6,d7,d8,d9,da,db,dc,dd,de,df,ew⟩:=KC h.blk;obtain⟨dg,q0,rfl,_⟩:=ZB h.l0;obtain⟨dh,q1,rfl,_⟩:=ZB h.l1;have di:=h.blk.lt;have ax:=(JD h.log.geom.pos h.log.geom.few);have ay:=fun W (j:kz w W)=>Kd (A:=dg) (n:=(pgs B)) q0 (S.lie0.map (fun(x:Nat)=>(x:Int))) (w:=W) (by rw[<- KY];exact(Rd.of_own h.l0).keep j) Z;have bk:=fun W (j:kz w W)=>Kd (A:=dh) (n:=(pgs B)) q1 (S.lie1.map (fun(x:Nat)=>(x:Int))) (w:=W) (by rw[<- KY];exact(Rd.of_own h.l1).keep j) Z
 have az:∀ W,kz ((((w.alloc (.cells #[pq s] 38)).alloc (.cells #[.bool a3] 4)).alloc (.cells #[zn] 53)).alloc (.cells #[zz] 32)) W ->
  Boxed W w.heap.size 38 (.pointer (some (aq s 0)))/\Boxed W (w.heap.size+1) 4 (.bool a3)/\Boxed W (w.heap.size+2) 53 (.slice none 0 0)/\Boxed W (w.heap.size+3) 32 (.int .i64 0)/\kz w W/\w.heap.size+4<=W.heap.size:=by
  intro W j;obtain⟨w1,b0⟩:=ex (w.alloc (.cells #[pq s] 38));obtain⟨w2,b1⟩:=ex (w1.alloc (.cells #[.bool a3] 4));obtain⟨w3,b7⟩:=ex (w2.alloc (.cells #[zn] 53));obtain⟨w4,b8⟩:=ex (w3.alloc (.cells #[zz] 32));rw[<- b0,<- b1,<- b7,<- b8] at j;have s1:w1.heap.size=w.heap.size+1:=by rw[b0,AN]
  have s2:w2.heap.size=w.heap.size+2:=by rw[b1,AN,s1]
  have s3:w3.heap.size=w.heap.size+3:=by rw[b7,AN,s2]
  have s4:w4.heap.size=w.heap.size+4:=by rw[b8,AN,s3]
  have k1:kz w w1:=by rw[b0];exact kq.alloc _
  have k2:kz w1 w2:=by rw[b1];exact kq.alloc _
  have k3:kz w2 w3:=by rw[b7];exact kq.alloc _
  have k4:kz w3 w4:=by rw[b8];exact kq.alloc _
  refine⟨KA (by rw[b0];exact Boxed.new w _ _) (((k2.tO k3).tO k4).tO j) sq,KA (by rw[b1,<- s1];exact Boxed.new w1 _ _) ((k3.tO k4).tO j) sq,KA (by rw[b7,<- s2];exact Boxed.new w2 _ _) (k4.tO j) sq,
   KA (by rw[b8,<- s3];exact Boxed.new w3 _ _) j sq,(((k1.tO k2).tO k3).tO k4).tO j,by have:=j.size;omega⟩
 clear d1 d2 d3 d4 d5 d6 d7 d8 d9 da db dc dd de
 obtain⟨pt,b9,l,ds,dj,bl,bm,dk,c8,dl⟩:∃ pt b9 l ds,PagedAt w base pt b9 l ds /\
  (∀ W,kz w W->Calls prog 220 #[pq m,.bool a3] W fun e w'=>e=.returned (.func (.func 391) #[] #[pq W.heap.size])/\w'=W.alloc (.cells #[pq pt] 295)) /\
  (∀ W,ImageAt W base m Fm S.I->∀ k<ds.length,Calls prog 222 #[pq m,.bool a3,(k:Nat)] W fun e w'=>∃ u,e=.returned u/\w'.ownsRow W.heap.size 3 1 u (Ze l k).length (VM (Ze l k))/\kz W w') /\
  (∀ x∈l,-1<=x/\x<4096)/\(∀ x∈b9,x∈Fm)/\ds.length=pgs B:=by
  have ba:=h.blen;obtain⟨p1,p2,dm,dn,T⟩:=h.img;have bn:=T.ok;have dp:=T.subB;have dq:=T.subO
  have hp:∀ (q:Nat) (G:List Nat) (l:List Int) (ds:List Bool),PagedAt w base q G l ds->l.length=B->ds.length=pgs B:=fun q G l ds hq hl=>by
   obtain⟨L,U,hq⟩:=hq;rw[hq.pages,hl]
  cases a3
  . exact⟨p1,dm,S.I.bl,S.I.bd,T.b,fun W j=>uq (VAR (T.kO j) false),fun W hi k j=>uq (YAL (w:=W) (base:=base) (m:=m) (F:=Fm) (I:=S.I) hi false k (uq j)),fun x c=>by have:=bn.2.1 x c;omega,dp,hp _ _ _ _ T.b ba⟩
  exact⟨p2,dn,S.I.ol,S.I.od,T.o,fun W j=>uq (VAR (T.kO j) true),fun W hi k j=>uq (YAL (w:=W) (base:=base) (m:=m) (F:=Fm) (I:=S.I) hi true k (uq j)),fun x c=>bn.2.2 x c,dq,hp _ _ _ _ T.o (bn.1.symm.trans ba)⟩
 have c9:kz w ((((w.alloc (.cells #[pq s] 38)).alloc (.cells #[.bool a3] 4)).alloc (.cells #[zn] 53)).alloc (.cells #[zz] 32)):=((((Keep.refl [] w).alloc _).alloc _).alloc _).alloc _;have ca:=(B1 (a:=⟨s,16,none⟩) (c9.block s di sq)).trans df;clear c9;refine(AR (n:=3)).1 ?_;refine callsIn_of_wp_marks func95 rfl trivial ?_ rfl;simp only[ntmps95,PL,Nat.reduceAdd,Nat.reduceSub];cases a3
 case' false=>
  clear bk
  gi_wp2_with (first
   | (refine⟨trivial,?_⟩;refine((AR (n:=2)).2 (ay _ (((((Keep.refl [] w).alloc _).alloc _).alloc _).alloc _))).mono ?_;rintro e Q ⟨V,rfl,a5,aj⟩;clear ay c7 ca;(obtain⟨b2,b3,b4,b5,ak,X⟩:=az _ aj);clear az;(have a8:=ZC a5 (base':=w.heap.size+4) (by simp only[AN];omega));clear a5;(obtain⟨lg,lc,rfl,_⟩:=JE a8 ax.1);(have v:kz Q (Q.alloc (.cells #[.slice (some lg) (pgs B) lc] 53)):=kq.alloc _);(have a1:=KA b2 v sq);(have R:=KA b3 v sq);(have e2:=a1.cell);(have e3:=R.cell))
   | fail)
  have bb:=own_mem a8 (g:=lg) (by simp[Value.ownBlock]);obtain⟨O,ad⟩:=ex (Q.alloc (.cells #[.slice (some lg) (pgs B) lc] 53));rw[<- ad] at v a1 R e2 e3 ⊢;obtain⟨b6,ae⟩:=ex Q.heap.size;have Y:Boxed O b6 53 (.slice (some lg) (pgs B) lc):=by rw[ad,ae];exact Boxed.new Q _ _
  have J:=QB (ZC a8 (base':=w.heap.size) Z) v;rw[<- KY] at J;have dr:w.heap.size+4<=b6:=Z;have bc:=KA b4 v sq;have bd:=KA b5 v sq;have kb:=ak.tO v;have dt:=bb.1;rw[<- ae];have bo:=cz;obtain⟨ov,a9⟩:∃ ov:Bool,ov=false:=⟨_,rfl⟩;rw[<- a9] at R;simp only[<- a9] at bl bm;clear ad ae v a8 aj ak X b2 b3 b4 b5 bb a9 e2 e3
 case' true=>
  gi_wp2_with (first
   | (refine⟨trivial,?_⟩;refine((AR (n:=2)).2 (ay _ (((((Keep.refl [] w).alloc _).alloc _).alloc _).alloc _))).mono ?_;rintro e Q ⟨V,rfl,a5,aj⟩;clear ay c7 ca;(obtain⟨b2,b3,b4,b5,ak,X⟩:=az _ aj);clear az;(have a8:=ZC a5 (base':=w.heap.size+4) (by simp only[AN];omega));clear a5;(obtain⟨bp,lc,rfl,_⟩:=JE a8 ax.1);(have v:kz Q (Q.alloc (.cells #[.slice (some bp) (pgs B) lc] 53)):=kq.alloc _);(have a1:=KA b2 v sq);(have R:=KA b3 v sq);(have e2:=a1.cell);(have e3:=R.cell);(have al:=ak.tO v);(obtain⟨_,_,_,_,_,_,_,_,_,_,_,_,_,_,_,_,_,du⟩:=KC (h.kO al).blk);(have bq:Boxed (Q.alloc (.cells #[.slice (some bp) (pgs B) lc] 53)) Q.heap.size 53 (.slice (some bp) (pgs B) lc):=Boxed.new Q _ _);(have dv:=al.size);(have cb:=bq.lt))
   | (refine⟨trivial,?_⟩;refine((AR (n:=2)).2 (bk _ al)).mono ?_;rintro e af ⟨ey,rfl,bf,a4⟩;clear bk du;(have Y:=KA bq a4 sq);(obtain⟨lg,lc,rfl,_⟩:=JE bf ax.1);(have e6:=Y.cell);(have f6:=Y.frozen)))
  have bb:=own_mem bf (g:=lg) (by simp[Value.ownBlock]);have cc:=Y.lt;obtain⟨b6,ae⟩:=ex Q.heap.size;rw[<- ae] at Y X cb cc ⊢;have a2:Keep [b6] af (af.setCell b6 (.slice (some lg) (pgs B) lc)):=kq.sc b6 0;have Y:=Y.set (.slice (some lg) (pgs B) lc);have J:=own_set (o:=0) (ZC bf (base':=w.heap.size) Z) (b:=b6) (by simp[Value.ownBlock];omega) (.slice (some lg) (pgs B) lc);rw[<- KY] at J;have a1:=KA (KA a1 a4 sq) a2 (by simp;omega);have R:=KA (KA R a4 sq) a2 (by simp;omega);have bc:=KA (KA (KA b4 v sq) a4 sq) a2 (by simp;omega);have bd:=KA (KA (KA b5 v sq) a4 sq) a2 (by simp;omega);have kb:kz w (af.setCell b6 (.slice (some lg) (pgs B) lc)):=(al.tO a4).trans a2 iq;have dt:w.heap.size+4<=lg:=Z;have dr:w.heap.size+4<=b6:=Z;have bo:=d0;obtain⟨O,ad⟩:=ex (af.setCell b6 (.slice (some lg) (pgs B) lc));rw[<- ad] at Y J a1 R bc bd kb ⊢;obtain⟨ov,a9⟩:∃ ov:Bool,ov=true:=⟨_,rfl⟩;rw[<- a9] at R;simp only[<- a9] at bl bm;clear ad ae v bf a8 aj a4 a2 ak al X dv cb cc b2 b3 b4 b5 bb a9 e2 e3 e6 f6 bq
 all_goals
  obtain⟨_,_,_,g3,_,_,_,_,_,_,_,_,_,_,_,_,_,_⟩:=KC (h.kO kb).blk;have e2:=a1.cell;have e3:=R.cell;have cd:=bl O.drew kb.drew;refine KJ (Br.2 ?_);refine ZT (fun W'=>cl W' w.heap.size (pq s)/\cl W' (aq s 3) (pq m)/\cl W' ⟨w.heap.size+1,0,none⟩ (.bool ov)) 5 [[0,1,2,3,4]] ⟨e2,g3,e3⟩ ?_;simp only[PI];iterate 5 refine wG ?_
  refine KB ?_;go_wp2_with (refine cd.mono ?_;clear cd;rintro e ez ⟨rfl,rfl⟩)
  gi_wp2
  obtain⟨a6,am⟩:=ex ((O.alloc (.cells #[pq pt] 295)).drew);have aa:a6.heap.size=O.heap.size+1:=by rw[am];show (O.alloc _).heap.size=_;rw[AN]
  have kc:kz O a6:=by rw[am];exact(kq.alloc _).drew
  have ce:Boxed a6 O.heap.size 295 (.pointer (some (aq pt 0))):=by rw[am];exact KA (Boxed.new O _ _) (Keep.refl [] _).drew sq
  rw[<- am];have cf:XBV 2 prog 391 #[pq O.heap.size] (fun k=>#[(k:Nat)]) (QBa ds) (YBa base pt O.heap.size b9 l ds) (fun xs=>xs=Vh ds ds.length) a6:=KBM 2 (dj.kO (kb.tO kc)) ce;have f0:=(own_mem J (g:=lg) (by simp[Value.ownBlock])).2;have h0:KPg w base d Fd B S.D (.pointer (some (aq s 0))) ov a6.heap.size b6 lg lc [] a6:=⟨⟨Fd,S.D,_,h.log.disk.kO (kb.tO kc),MetaD.refl _ _,fun x c=>.inl c,QB J kc,bo⟩,AG _,KA a1 kc sq,KA R kc sq,KA bc kc sq,KA bd kc sq,KA Y kc sq,(kb.tO kc).zero⟩;have f1:=Y.lt;have br:=h.log.disk.lt;have f2:=kb.size;have an:=JB aa;clear am kc e2 e3 g3 a1 R bc bd Y J bo aa ce
  refine Jb (n:=3) (gf:=391) (lb:=#[pq O.heap.size]) 7 (fun k=>.int .i64 (k:Nat)) rfl (enters_of func391 (by kernel_rfl) rfl)
   cf
   (fun A B C h k=>⟨fun E=>k.1 (h.1 E),fun E=>k.2 (h.2 E)⟩)
   (fun W l o bg hl ao ho=>⟨fun E=>JC bg E ao ho,fun E=>E.putObj bg ao ho⟩)
   (KPg w base d Fd B S.D (.pointer (some (aq s 0))) ov a6.heap.size b6 lg lc) (fun s A B h j=>h.kept j) (fun s W l o bg h hl ao ho=>h.turned (by have:=JA an;omega) ao ho)
   (fun pre x W l o bg h hl ao ho=>h) h0 ?assign ?body ?done
  case assign=>
   rintro l x W K M;simp only[PU,A6] at M
   gi_wp2
   exact M
  case body=>
   rintro lb pre k W f ⟨j,cg,ch⟩;obtain⟨P,D',a0,ap,N,a7,J,bh⟩:=f.st;have aa:=JA an;have ci:=f.size;have ab:∀ x,w.heap.size<=x->x<a6.heap.size->x∉P:=fun x h1 h2 r=>(a7 x r).elim (fun r=>by have:=br x r;omega) Z;have n2:=ab w.heap.size Z Z;have n3:=ab (w.heap.size+1) Z Z;have n4:=ab (w.heap.size+2) Z Z;have n5:=ab (w.heap.size+3) Z Z;have n6:=ab b6 Z Z;have ng:=ab lg Z Z;have nc:=ab O.heap.size Z Z;have T:ImageAt W base m Fm S.I:=h.img.keep f.keep (fun x c r=>h.apm x c (by simp[r]));have dw:GeomAt W g B:=h.log.geom.keep f.keep h.log.gd;have bi:=h.blk.keep f.keep (fun r=>h.aps (by simp[r]));obtain⟨f3,f4,_,bt,_,_,_,_,_,_,_,_,_,_,_,_,_,_⟩:=KC bi;have cj:=bm W.drew (T.kO kq.drew) k j;have bu:k<pgs B:=Z;have f5:pgs B<=5:=ax.2;have e2:=f.b2.cell;have e3:=f.b3.cell;have dx:(Ze l k).length<=15:=by rw[XV];omega
   have dy:∀ z∈Ze l k,-1<=z/\z<4096:=fun z X=>dk z (JAL X);have dz:=JB cg;have f7:=JB ch;clear cg ch;generalize Ze l k=zs at *;simp only[PU];have e0:=JB ci;have f8:=JB aa;clear ci aa
   gi_wp2
   refine ZI (S:=(fun W'=>cl W' w.heap.size (pq s)/\cl W' (aq s 3) (pq m)/\cl W' ⟨w.heap.size+1,0,none⟩ (.bool ov))) 12 [[0,1,2,3,4,5],[6],[7,8,9,10,11]] ⟨e2,bt,e3⟩ ?_;simp only[PI];iterate 6 refine wG ?_
   refine YB rq (fun K M=>?_);go_wp2_with (refine cj.mono ?_;clear cj;rintro e af ⟨V,rfl,a5,a4⟩;obtain⟨f9,pc,rfl,_⟩:=ZB a5);have ag:kz W af:=kq.drew.tO a4;have ck:=VBN pc zs (Rd.of_own a5) dy dx;refine M _ _ (⟨(KA f.b2 ag sq).cell,(B1 (a:=⟨s,3,none⟩) (ag.block s bi.lt sq)).trans bt,(KA f.b3 ag sq).cell⟩) ?_
   try simp only[Act.put,PU]
   refine YB rq (fun K M=>?_);go_wp2_with (refine ck.mono ?_;clear ck;rintro e ar ⟨u,bs,rfl,ba,hu,e1⟩;obtain⟨ug,uc,rfl,_⟩:=JE hu Z);have ah:kz W ar:=ag.tO e1;refine M _ _ (⟨(KA f.b2 ah sq).cell,(B1 (a:=⟨s,3,none⟩) (ah.block s bi.lt sq)).trans bt,(KA f.b3 ah sq).cell⟩) ?_;iterate 4 refine wG ?_
   refine KB ?_
   go_wp2
   gi_wp2
   have cm:a0.length=pgs B:=by have:=J.1;simpa [YL] using this
   obtain⟨x,c⟩:∃ x,a0[k]? = some x:=⟨_,AC Z⟩;have e4:x<=1:=bh x (Bn c);obtain⟨y,hy⟩:=ex (1-x);have fa:(1:Int)-(x:Nat)=(y:Nat):=Z;have cn:y<=1:=Z;have bv:=QB J ah;have eg:=QJ bv (i:=k) (u:=.int .i64 (x:Nat)) (by simp[YL,c]);have e6:=(KA f.b6 ah sq).cell;have f6:=XI (QB bv (Keep.refl [] ar).drew) k;have fb:((x:Nat):Int)<=1:=Z;have fc:((k:Nat):Int)<(pgs B:Nat):=Z;have fd:=JB c;have fe:=JB hy;have co:=JB cm;clear c hy cm e4 e2 e3;refine ZI (S:=(fun W'=>cl W' b6 (.slice (some lg) (pgs B) lc)/\cl W' (aq lg k) (x:Nat))) 7 [[0,1,2,3,4,5,6]] ⟨e6,eg⟩ ?_;simp only[PI];iterate 7 refine wG ?_
   refine KB ?_;go_wp2_with fail
   gi_wp2
   have ff:lg≠b6:=fun e=>f.b6.not_row (by decide) J (by simp[Value.ownBlock,e]);have fg:=h.log.geom.lt;have a2:Keep [lg] ar ((ar.setCell (aq lg k) (.int .i64 (y:Nat))).drew):=(kq.sc lg k).drew;have au:=QB (XX bv k (.int .i64 (y:Nat))) (Keep.refl [] _).drew;rw[show (YL a0).set k (.int .i64 (y:Nat))=YL (a0.set k y) by simp[YL,CV]] at au;obtain⟨ac,cp⟩:=ex ((ar.setCell (aq lg k) (.int .i64 (y:Nat))).drew);rw[<- cp] at a2 au ⊢;have H:Keep [lg] W ac:=ah.zero.trans a2 (fun x c=>.inl c);have x2:=KA f.b2 H (by simp;omega);have x3:=KA f.b3 H (by simp;omega);have x4:=KA f.b4 H (by simp;omega);have x5:=KA f.b5 H (by simp;omega);have x6:=KA f.b6 H (by simp;omega);have e5:=ap.keep H (fun x c r=>by simp at r;subst r;exact ng c);have e7:=dw.keep H (by simp;omega);have cq:=bi.keep H (by simp;omega);obtain⟨y0,y1,_,_,_,_,_,_,_,_,_,_,_,_,_,_,_,_⟩:=KC cq;have fh:=QJ au (i:=k) (u:=.int .i64 (y:Nat)) (by simp[YL,JA co,bu])
   have cr:∀ V,kz ac V->cl V w.heap.size (pq s)/\cl V (aq s 0) (pq d)/\cl V (aq s 1) (pq g)/\cl V ⟨w.heap.size+1,0,none⟩ (.bool ov)/\cl V b6 (.slice (some lg) (pgs B) lc)/\cl V (aq lg k) (y:Nat):=by
    intro V j;obtain⟨y0,y1,_,_,_,_,_,_,_,_,_,_,_,_,_,_,_,_⟩:=KC (cq.kO j);exact⟨(KA x2 j sq).cell,y0,y1,(KA x3 j sq).cell,(KA x6 j sq).cell,QJ (QB au j) (by simp[YL,JA co,bu])⟩
   have bw:=KAK ac.drew g B (e7.kO kq.drew) ov k y cn bu;obtain⟨z,X⟩:=ex (6+2*(k+(if ov then pgs B else 0))+y);have e8:z<6+4*pgs B:=by rw[X];split <;> omega
   rw[<- X] at bw
   have fi:pre.length<=5:=by
    rw[JA dz];have:(Vh ds k).length<=k:=by unfold Vh;exact AA (DS _ _) sq
    omega
   have e9:=N.acts;have ea:=N.n;have eb:=h.log.many;have ec:=own_mem hu (g:=ug) (by simp[Value.ownBlock]);have ed:=XB hu a2 (fun x c=>by simp[Value.ownBlock] at c;subst c;simp;have:=f.size;have:=JA an;have:=ag.size;omega);have ee:=fun V (bx:kz ac V)=>Kj (e5.kO bx) (N.off.trans h.log.off) (N.fuse.trans h.log.fuse) Z z Z uc bs (Rd.of_own (QB ed bx)) (fun a ef r=>by cases ef;have h1:=ap.lt _ r;have h2:=ag.size;have h3:=ec.1;simp only at h1;omega) (by have:=bx.size;have:=H.size;have:=f.keep.size;have:=h.log.le;omega);have bj:=JB N;have fj:=JB X;have cs:=JB cr;clear N X cr cp eg e6 f6 e9 ea eb;refine ZI (S:=(fun V=>cl V w.heap.size (pq s)/\cl V (aq s 0) (pq d)/\cl V (aq s 1) (pq g)/\cl V ⟨w.heap.size+1,0,none⟩ (.bool ov)/\cl V b6 (.slice (some lg) (pgs B) lc)/\cl V (aq lg k) (y:Nat))) 16 [[0,1,2,3,4,5,6,7,8,9,10,11,12,13,15],[14]] (JA cs ac.drew kq.drew) ?_;simp only[PI];iterate 15 refine wG ?_
   refine YB rq (fun K M=>?_);go_wp2_with (refine bw.mono ?_;clear bw;rintro e bz ⟨rfl,eh⟩);have av:kz ac bz:=kq.drew.tO eh;refine M _ _ (JA cs bz av) ?_
   try simp only[Act.put,PU]
   refine KB ?_;have ct:=ee bz av;go_wp2_with (refine ct.mono ?_;clear ct;rintro e cu ⟨rfl,ei,ej,cv,ek⟩)
   gi_wp2
   have aa:=JA an;have el:=JA e0;have fk:=f.keep.size;have M:Keep (lg :: P) W cu:=((H.sub (m:=lg :: P) sq).trans av.zero (fun x c=>.inl c)).trans (cv.sub (fun x c=>Av _ c)) (fun x c=>.inl c);have ai:Keep P ac cu:=av.zero.trans cv (fun x c=>.inl c);refine⟨M.fromCells ?_ _,⟨fun E=>KA E M ?_,fun E=>E.keep M ?_⟩,⟨⟨ei,D'.write z bs,a0.set k y,ej,?_,?_,XB au ai (fun x c=>by simp[Value.ownBlock] at c;subst c;exact ng),?_⟩,AA el M.size,KA x2 ai n2,KA x3 ai n3,KA x4 ai n4,KA x5 ai n5,KA x6 ai n6,f.keep.trans M ?_⟩⟩
   . intro b E o ho
     rcases AM.1 E with rfl | E
     . exact KR J _ (by simp[Value.ownBlock]) o ho
     exact ap.cells b E o ho
   . simp only[AM,DH]
     exact⟨Z,nc⟩
   . intro x c r
     have h1:=h.img.lt x (c8 x c);rcases AM.1 r with e | r
     . omega
     exact(a7 x r).elim (fun r=>h.apm x (c8 x c) (by simp[r])) Z
   . rw[AE,Al]
     exact(JA bj).trans (MetaD.write e8 (by rw[(JA bj).n,h.log.many];omega) ba)
   . intro x c
     rcases ek x c with c | c
     . exact a7 x c
     have:=H.size;have:=av.size;exact .inr Z
   . intro x c
     rcases AW c with c | rfl
     . exact bh x c
     exact cn
   intro x c;rcases AM.1 c with rfl | c
   . exact .inr Z
   exact(a7 x c).imp id Z
  case done=>
   intro cw xs W fl cx f cy;obtain⟨P,D',a0,ap,N,a7,J,bh⟩:=f.st;have aa:=JA an;have fm:=f.b4.cell;have fn:=f.b4.frozen;have fo:=f.b5.cell;have fp:=f.b5.frozen;have e6:=f.b6.cell;have em:=JB f;have en:=JB cx;have bj:=JB N;clear h0 cf f cx N
   gi_wp2
   have f:=JA em;have N:=JA bj;have fq:=f.size;have ng:lg∉P:=fun r=>(a7 lg r).elim (fun r=>by have:=br lg r;omega) Z;have k4:Keep [w.heap.size+2] W (W.setCell ⟨w.heap.size+2,0,none⟩ (.slice (some lg) (pgs B) lc)):=kq.sc (w.heap.size+2) 0;have z4:=f.b4.set (.slice (some lg) (pgs B) lc);have z5:=KA f.b5 k4 sq;have zl:=own_set (o:=0) J (b:=w.heap.size+2) (by simp[Value.ownBlock];omega) (.slice (some lg) (pgs B) lc);obtain⟨c2,eo⟩:=ex (W.setCell ⟨w.heap.size+2,0,none⟩ (.slice (some lg) (pgs B) lc));rw[show w.heap.size+1+1=w.heap.size+2 from Z,show w.heap.size+2+1=w.heap.size+3 from Z];rw[<- eo] at k4 z4 z5 zl ⊢;have H:Keep [w.heap.size+3] c2 (c2.setCell ⟨w.heap.size+3,0,none⟩ (.int .i64 0)):=kq.sc (w.heap.size+3) 0;have z4:=KA z4 H sq;have z5:=z5.set (.int .i64 0);have zl:=own_set (o:=0) zl (b:=w.heap.size+3) (by simp[Value.ownBlock];omega) (.int .i64 0);obtain⟨ep,eq⟩:=ex (c2.setCell ⟨w.heap.size+3,0,none⟩ (.int .i64 0));rw[<- eq] at H z4 z5 zl ⊢;have c4:Keep [w.heap.size+2,w.heap.size+3] W ep:=(k4.sub sq).trans H (fun x c=>.inl (by simp at c;simp[c]));have aw:=(c4.block cw (AI.1 cy).1 (by simp;omega)).trans cy;have y4:=(JC (.deferred none) z4 aw rfl).cell;have y5:=(JC (.deferred none) z5 aw rfl).cell;have c5:=(f.keep.trans c4 iq).putObj (g:=cw) Z (.deferred none);have er:=(ap.keep c4 (fun x c r=>by have:=a7 x c;simp at r;exact this.elim (fun h=>by have:=br x h;omega) Z)).putObj (.deferred none) aw rfl;have c6:Grow w Fd P:=fun x c=>(a7 x c).imp id Z;have es:=h.log.setDisk er c5 c6 N.off N.fuse N.n;have et:=(h.setLog es (c5.sub (fun x c=>by simp[c])) c6 (fun x c=>.inl c)).1
   have eu:xs.length<=pgs B:=by
    rw[JA en,<- dl];unfold Vh;exact AA (DS _ _) sq
   refine⟨sq,.inl ⟨_,_,rfl,run_takeDeferred aw,?_⟩⟩;refine⟨.tuple #[.slice (some lg) (pgs B) lc,zz],?_,_,a0,P,D',rfl,ownsRow_putObj zl (.deferred none) aw rfl,bh,et,N.mono eu,c5,c6,fun x c r=>by simp[Value.ownBlock] at r;subst r;exact ng c⟩;simp[results,results95,go_sem,y4,y5]
end
theorem MetaD.lay {a q:Nat} (b:lo<=D.n) (c:bs.length=64*q) (d:a+q<=lo):∀ j≤q,MetaD lo D (Ye D a bs j) j:=by
 intro j
 induction j with
 | zero=>exact fun _=>MetaD.refl _ _
 | succ j ih=>
   intro e;have h:=ih Z;rw[Vi];exact h.trans (MetaD.write Z (by rw[h.n];exact b) (length_seg 64 bs j Z))
theorem ZAw {w:World} {base s d g t p m:Nat} {Fd Ft Fw Fm:List Nat} {L0 L1:Value} {B:Nat} {S:PS} (h:StoreIs w base s d g t p m Fd Ft Fw Fm L0 L1 B S)
 (n:PReg.May ⟨S.st.gen+1,S.st.view,S.st.mode,S.st.epoch,S.st.seq,S.st.done,S.W.pos⟩) (aj:VT (KU S.us S.lv 8) S.W.pos.seg) (hs:S.slot<=1) (ha:S.D.acts<=9000000)
 {f i:Option Addr} (j k:Nat) (T U:List Nat) (b2:Rd w f (pgs B) (YL T)) (b3:Rd w i (pgs B) (YL U)) (b4:∀ x∈T,x<=1) (b5:∀ x∈U,x<=1) :
 Calls prog 97 #[pq s,.agg #[.slice f (pgs B) j,.slice i (pgs B) k]] w fun e w'=>e=.returned zz/\∃ ak D',
  StoreIs w' base s d g t p m ak Ft Fw Fm L0 L1 B { S with D:=D' }/\MetaD (6+4*pgs B) S.D D' 3/\Keep Fd w w'/\Grow w Fd ak:=by
 obtain⟨⟨mode,view,W,X,Y,bz,C⟩,a0⟩:=ex S.st;obtain⟨⟨a1,a2,a3,a4,a5⟩,E⟩:=ex S.W.pos;have o:=h.blk;rw[<- a0] at o n;rw[<- E] at n aj;obtain⟨b6,a6,c2,b7,c4,F,G,H,I,J,b8,L,b9,ba,bb,bc,bd,bf⟩:=KC o;simp only at F G H I J L n;have c5:=o.lt;have M:kz w (w.alloc (.cells #[.slice f (pgs B) j,.slice i (pgs B) k] 144)):=kq.alloc _;have hb:=Blk.new w 144 #[.slice f (pgs B) j,.slice i (pgs B) k]
 have al:∀ V,kz (w.alloc (.cells #[.slice f (pgs B) j,.slice i (pgs B) k] 144)) V->cl V (aq s 1) (pq g)/\cl V (aq s 2) (pq t)/\cl V (aq s 4) (pq p) /\
  cl V (aq s 5) (ii mode)/\cl V (aq s 6) (ii view)/\cl V (aq s 7) (ii W)/\cl V (aq s 8) (ii X)/\cl V (aq s 9) (ii Y)/\cl V (aq s 11) (ii C) /\
  cl V w.heap.size (.slice f (pgs B) j)/\cl V (aq w.heap.size 1) (.slice i (pgs B) k):=by
  intro V b;obtain⟨_,a6,c2,_,c4,F,G,H,I,J,_,L,_,_,_,_,_,_⟩:=KC (o.kO (M.tO b));have am:=hb.kO b;exact⟨a6,c2,c4,F,G,H,I,J,L,uq (am.cell 0),uq (am.cell 1)⟩
 have c6:((C:Nat):Int)+1<=2147483647:=by have:=n.1.2;simp only at this;omega
 obtain⟨c7,c8,c9,bg⟩:=h.log.wri
 have an:∀ V,kz w V->cr 88 #[pq p] V (.agg #[ii a1,ii a2,ii a3,ii a4,ii a5]):=by
  intro V b;have h1:=bg.blk.kO b;rw[<- E] at h1;exact VBD V p _ _ _ _ _ ⟨a1,a2,a3,a4,a5⟩ h1
 have ao:=fun V (b:kz w V)=>QBG (h.log.tab.kO b);have a7:=fun V (b:kz w V)=>h.log.geom.kO b;have bh:=JB n;have ca:=JB a0;have cb:=JB E;have cc:=JB o;clear n a0 E o b6 a6 c2 b7 c4 F G H I J b8 L b9 ba bb bc bd bf hb;go_enter func97,ntmps97
 go_wp2
 have N:=JB al;clear al;refine ZT (fun V=>cl V (aq s 1) (pq g)/\cl V (aq s 2) (pq t)/\cl V (aq s 4) (pq p)/\cl V (aq s 5) (ii mode)/\cl V (aq s 6) (ii view)/\cl V (aq s 7) (ii W)/\cl V (aq s 8) (ii X)/\cl V (aq s 9) (ii Y)/\cl V (aq s 11) (ii C)/\cl V w.heap.size (.slice f (pgs B) j)/\cl V (aq w.heap.size 1) (.slice i (pgs B) k)) 55 [[0,1,2,3,4,5,6,7,8,9,10,11,12,13,14,15,16,17,18,19,20,21,22,23,24,25,26,27,28,29,30,31,32,33,34,35,36,37,38,40,41,42,43,44,45,46,47],[39],[48,49],[50,51,52,53,54]] (JA N _ kq.drew) ?_;simp only[PI];iterate 47 refine wG ?_
 refine YB rq (fun K l=>?_);have kd:=(M.tO (Keep.refl [] _).drew);go_wp2_with (refine(an _ kd).mono ?_;clear an;rintro e w2 ⟨rfl,ap⟩);have a8:=(Keep.refl [] _).drew.tO ap;refine l _ _ (JA N w2 a8) ?_
 try simp only[Act.put,PU]
 refine YB rq (fun K l=>?_);go_wp2_with (refine(ao _ (M.tO a8)).mono ?_;clear ao;rintro e r ⟨ug,uc,rfl,cd,hu,ar⟩);have a9:=a8.tO ar;refine l _ _ (JA N r a9) ?_;iterate 1 refine wG ?_
 refine YB rq (fun K l=>?_);have z:kz w r:=M.tO a9
 have au:Calls prog 226 #[pq g,.agg #[ii (((C:Nat):Int)+1),view,mode,W,X,Y,a1,a2,a3,a4,a5,.slice f (pgs B) j,.slice i (pgs B) k,.slice (some ug) 8 uc]] r
  fun e w'=>∃ u bs,e=.returned (.tuple #[u,zz])/\bs.length=128/\w'.ownsRow r.heap.size 5 1 u 128 (bys bs)/\kz r w':=
  QBe (a7 r z) (JA bh) j T k U (b2.keep z) (b3.keep z) b4 b5 ug uc (Rd.of_ownN hu) aj
 go_wp2_with (refine au.mono ?_;clear au;rintro e v ⟨ce,bs,rfl,av,O,aa⟩;obtain⟨u4,bi,rfl,bj⟩:=QN O Z);have bk:=a9.tO aa;refine l _ _ (JA N v bk) ?_;iterate 4 refine wG ?_
 refine KB ?_
 go_wp2
 have y:kz w v:=z.tO aa;obtain⟨x0,x1,_,_,_,_,_,_,_,_,_,_,_,_,_,ab,_,_⟩:=KC (h.blk.kO y);obtain⟨A,bl⟩:∃ A:Nat,(1:Int)-(S.slot:Nat)=(A:Nat)/\A<=1:=⟨1-S.slot,Z,Z⟩;obtain⟨cf,bm⟩:=bl;have cg:((S.slot:Nat):Int)<=1:=Z;obtain⟨az,ac⟩:=ex (2+2*A);have ad:=fun V (b:kz w V)=>Vd V g B (a7 V b) A bm;simp only[<- ac] at ad;have aw:=h.log.geom;have ch:=JD aw.pos aw.few;have ci:=h.log.many;have P:=MetaD.lay (lo:=6+4*pgs B) (D:=S.D) (a:=az) (q:=2) (bs:=bs) Z av Z 2 (AG _);have cj:=own_mem O (g:=u4) (by simp[Value.ownBlock]);have bn:=h.log.disk.lt;have ae:=fun V (b:kz v V)=>JBZ (h.log.disk.kO (y.tO b)) h.log.off h.log.fuse (by have:=b.size;have:=y.size;have:=h.log.le;omega) az 2 u4 0 bi bs Z Z av bj Z Z (Rd.of_own (QB O b)) (by have:=b.size;omega) (fun hm=>by have:=bn _ hm;have:=z.size;omega);simp only[Nat.reduceMul] at ae;have ck:=JB ac;clear ac;refine ZT (fun V=>cl V s (pq d)/\cl V (aq s 1) (pq g)/\cl V (aq s 15) S.slot) 15 [[0,1,2,3,4,5,6,7,8,9,10,11,12,14],[13]] ⟨x0,x1,ab⟩ ?_;simp only[PI];iterate 14 refine wG ?_
 refine YB rq (fun K l=>?_);have af:kz v v.drew:=kq.drew;go_wp2_with (refine(ad _ (y.tO af)).mono ?_;clear ad;rintro e w5 ⟨rfl,rfl⟩);refine l _ _ (⟨x0,x1,ab⟩) ?_
 try simp only[Act.put,PU]
 refine KB ?_;go_wp2_with fail;have ax:=ae _ af;clear ae;refine ax.mono ?_;clear ax;rintro e w6 ⟨rfl,bo,bp,bq,br⟩;have Q:Keep Fd w w6:=(y.tO af).zero.trans bq (fun x c=>.inl c);have bt:s∉Fd:=fun hm=>h.aps (by simp[hm]);have ay:Grow w Fd bo:=fun x c=>(br x c).imp id (fun ag=>by have h2:v.heap.size<=x:=ag;have:=y.size;omega);obtain⟨cm,_,_,_,_,_,_,_,_,_,_,_,_,_,_,_,_,_⟩:=KC (h.blk.keep Q bt);have cn:=P.acts;have b0:=Vp bp (P.off.trans h.log.off) (P.fuse.trans h.log.fuse) Z (by have:=Q.size;have:=h.log.le;omega);clear O aa hu ar ap x0 x1 ab a7;go_wp2_with (refine b0.mono ?_;clear b0;rintro e w7 ⟨rfl,b1,bu,bv,bw⟩);go_ret;have ah:Keep Fd w w7:=Q.trans bv ay;have ai:Grow w Fd b1:=fun x c=>(bw x c).elim (ay x) (fun ag=>.inr (AA Q.size ag));have R:=P.trans (MetaD.flush (6+4*pgs B) (Ye S.D az bs 2));have bx:=h.log.setDisk bu ah ai R.off R.fuse R.n;exact⟨rfl,b1,_,(h.setLog bx (ah.sub (fun x c=>by simp[c])) ai (fun x c=>.inl c)).1,R,ah,ai⟩
theorem StoreIs.setLie {w w':World} {base s d g t p m:Nat} {Fd Ft Fw Fm:List Nat} {L0 L1:Value} {B:Nat} {S:PS} (h:StoreIs w base s d g t p m Fd Ft Fw Fm L0 L1 B S) (j k:Nat) (c e:Value) (l n:List Nat)
 (u:Blk w' s 146 #[pq d,pq g,pq t,pq m,pq p,
 .int .i64 S.st.mode,ii S.st.view,ii S.st.epoch,ii S.st.seq,ii S.st.done,ii S.st.mount,ii j,zz,zz,zz,ii k,c,e]) (i:Keep [s] w w')
 (v:w.ownsRow base 3 1 c (pgs B) (YL l)) (y:w.ownsRow base 3 1 e (pgs B) (YL n)) (o:Apart (c.ownBlock.toList++e.ownBlock.toList) (s :: g :: (Fd++(Ft++(Fw++Fm))))) :
 StoreIs w' base s d g t p m Fd Ft Fw Fm c e B { S with st:={ S.st with gen:=j },slot:=k,lie0:=l,lie1:=n }:=by
 have b:∀ x,x∈g :: (Fd++(Ft++(Fw++Fm)))->x∉[s]:=fun x b f=>by
  simp at f;subst f;exact h.aps b
 have r:∀ x∈c.ownBlock.toList++e.ownBlock.toList,x∉[s]:=fun x b f=>o x b (by simp at f;simp[f])
 exact⟨u,h.log.keep i (b _ sq) (fun x a=>b x (by simp[a])) (fun x a=>b x (by simp[a])) (fun x a=>b x (by simp[a])),h.img.keep i (fun x a=>b x (by simp[a])),h.blen,
  XB v i (fun x a=>r x (BB _ (uq a))),XB y i (fun x a=>r x (BQ _ (uq a))),h.sbase,h.gbase,h.apm,h.aps,o⟩
def LieAt (W:World) (N B:Nat) (F:List Nat) (V:Value) (l:List Nat):Prop:=∃ A c,V=.slice A (pgs B) c/\W.ownsRow N 3 1 V (pgs B) (YL l)/\(∀ x∈l,x<=1)/\Apart F V.ownBlock.toList
theorem LieAt.keep {W':World} {N B:Nat} {F F' k:List Nat} {V:Value} {l:List Nat} (h:LieAt W N B F V l) (f:Keep k W W') (i:Apart k V.ownBlock.toList) (d:Grow W F F'):LieAt W' N B F' V l:=by
 obtain⟨A,c,j,e,m,n⟩:=h;refine⟨A,c,j,XB e f (fun g d a=>i g a (by simp[d])),m,fun x b a=>(d x b).elim (fun b=>n x b a) (fun b=>?_)⟩;have:=(own_mem e a).2;omega
theorem Zl {w:World} {base s d g t p m:Nat} {Fd Ft Fw Fm:List Nat} {L0 L1:Value} {B:Nat} {S:PS} (h:StoreIs w base s d g t p m Fd Ft Fw Fm L0 L1 B S)
 (ho:S.W.Ok) (dh:S.W.pos.lsn<2147483647) (ha:S.D.acts<=8000000) (hs:S.slot<=1) (bg:∀ x∈S.lie0,x<=1) (bh:∀ x∈S.lie1,x<=1)
 (bi:∀ R bj ap,Emitted B S.D S.us S.W R bj ap->PReg.May ⟨S.st.gen+1,S.st.view,S.st.mode,S.st.epoch,S.st.seq,S.st.done,ap.pos⟩/\VT (KU bj S.lv 8) ap.pos.seg/\R.acts<=8000100) :
 Calls prog 21 #[pq s] w fun e w'=>∃ u n ns bk Fw' bl bm H I T D' l0 l1,e=.returned (.tuple #[u,zz])/\w'.ownsRow w.heap.size 3 1 u n (YL ns) /\
  Emitted B S.D S.us S.W H I T/\MetaD (6+4*pgs B) H D' (2*pgs B+4)/\(∀ x∈l0,x<=1)/\(∀ x∈l1,x<=1) /\
  StoreIs w' base s d g t p m bk Ft Fw' Fm bl bm B ⟨D',KU I S.lv 8,S.lv,T,⟨S.I.bl,List.replicate S.I.bd.length false,S.I.ol,List.replicate S.I.od.length false⟩,{ S.st with gen:=S.st.gen+1 },1-S.slot,l0,l1⟩ /\
  Keep (ZN s g Fd Ft Fw Fm L0 L1) w w'/\Grow w (ZN s g Fd Ft Fw Fm L0 L1) (ZN s g bk Ft Fw' Fm bl bm)/\n=(relO I S.lv 8).length/\ns=relO I S.lv 8:=by
 have ar:=QS w base s d g t p m Fd Ft Fw Fm L0 L1 B S h 0 (.inl rfl);have bn:=JAJ h.log ho ha dh;have bo:=h.blk;have eb:s∉Fd++(Ft++Fw):=fun b=>h.aps (by simp only[AM,AD] at b ⊢;rcases b with b | b | b <;> simp[b]);obtain⟨bp,bq,c2,br,c4,c5,c6,c7,c8,c9,bs,bt,bu,bv,bw,bz,ca,cb⟩:=KC bo;clear bp bq c2 br c5 c6 c7 c8 c9 bs bt bu bv bw bz ca cb;rw[show ((0:Nat):Int)=0 from rfl] at ar;go_enter func21,ntmps21
 go_wp2_with (first
  | (go_at_call 93;refine ar.mono ?_;clear ar;rintro e w' ⟨rfl,rfl⟩)
  | (go_at_call 94;refine bn.mono ?_;clear bn c4;rintro e w1 ⟨rfl,r,U,H,I,T,h1,au,ag,cc,di⟩))
 obtain⟨cd,ce,ec⟩:=bi H I T au;obtain⟨ah,cf⟩:=h.setLog h1 ag cc di;have cg:=ag;have av:=Blk.new w1 144 #[zn,zn];have a4:kz w1 (w1.alloc (.cells #[zn,zn] 144)):=kq.alloc _;have ed:(w1.alloc (.cells #[zn,zn] 144)).heap.size=w1.heap.size+1:=by rw[AN]
 have V:∀ x∈ZN s g r Ft U Fm L0 L1,x<w1.heap.size:=ah.lt;have ch:=ah.kO a4;have ee:=av.lt;generalize w1.alloc (.cells #[zn,zn] 144)=wA at *;generalize ef:w1.heap.size=bx at *;have c:∀ x,x=s\/x=g\/x∈r\/x∈Ft\/x∈U\/x∈Fm\/x∈L0.ownBlock.toList\/x∈L1.ownBlock.toList->x<bx:=fun x a=>V x (by simpa only[ZN,AM,AD] using a);have eg:=JD h.log.geom.pos h.log.geom.few;have eh:=JB h1;have ei:=JB ah;have dj:=JB au;have ci:=JB cd;have dk:=JB ce;clear h1 ah au cd ce bi V bo
 go_loopw [3,5,19] (fun _ _ i wr=>∃ (k:Nat) (X a5:Value) (J:List Nat) (a6:PDisk) (N lb:List Nat),k<=2/\i=.int .i64 (k:Nat)/\Blk wr bx 144 #[X,a5]/\(0<k->LieAt wr wA.heap.size B J X N)/\(1<k->LieAt wr wA.heap.size B J a5 lb) /\
  StoreIs wr base s d g t p m J Ft U Fm L0 L1 B { S with D:=a6,us:=I,lv:=S.lv,W:=T }/\MetaD (6+4*pgs B) H a6 (k*pgs B)/\Keep r w1 wr/\Grow wA r J) (fun _ _ i _=>2-(intOf i).toNat)
 case atStart=>exact⟨0,_,_,r,H,[],[],Z,rfl,av,Z,Z,ch,uq (MetaD.refl (6+4*pgs B) H),a4.zero,fun x a=>.inl a⟩
 clear av a4 ch;obtain⟨k,X,a5,J,a6,N,lb,hk,rfl,hb,a7,aw,Y,a0,ax,O⟩:=hrel;have ay:bx∉J:=fun b=>(O bx b).elim (fun b=>by have:=c bx (by simp[b]);omega) (fun b=>Z);have a8:wA.heap.size<=wr.heap.size:=by have:=hb.lt;omega
 by_cases a4:k=0
 . subst a4
   have cj:=a0.acts;have a9:=YAd Y bg bh (by simp only;omega) false
   go_wp2_with (
    (refine a9.mono ?_)
    clear a9;rintro e o ⟨u,az,C,R,rfl,hu,b0,b1,b2,a1,a2,b3⟩;obtain⟨f,j,rfl,_⟩:=ZB hu;have E:=hb.keep a1 ay;have y:cl o bx X:=uq (E.cell 0);have f0:=E.frozen 0)
   have aa:=ZC hu (base':=wA.heap.size) a8;have L:Keep [bx] o (o.setCell bx (.slice f (pgs B) j)):=kq.sc bx 0;have b4:=E.set 0 (.slice f (pgs B) j);have ab:Grow wA r C:=fun x a=>(a2 x a).elim (fun a=>O x a) (fun M=>.inr (AA a8 M));have b5:bx∉C:=fun b=>(ab bx b).elim (fun b=>by have:=c bx (by simp[b]);omega) (fun b=>Z)
   have b6:Apart (ZN s g C Ft U Fm L0 L1) [bx]:=fun x a b=>by
    simp only[Ak] at b;subst b;simp only[ZN,AM,AD] at a;rcases a with a | a | a | a | a | a | a | a
    . have:=c x (by simp[a]);omega
    . have:=c x (by simp[a]);omega
    . exact b5 a
    . have:=c x (by simp[a]);omega
    . have:=c x (by simp[a]);omega
    . have:=c x (by simp[a]);omega
    . have:=c x (by simp[a]);omega
    have:=c x (by simp[a]);omega
   have ai:∀ {q:Value} {n:Nat} {ys:List Value},o.ownsRow wA.heap.size 3 1 q n ys->∀ x,q.ownBlock=some x->x∉[bx]:=fun hq x a b=>by
    simp at b;subst b;exact own_blk_ne hq E (by decide) a
   have b7:Keep r w1 (o.setCell bx (.slice f (pgs B) j)):=(ax.trans a1 (fun x a=>(O x a).imp id Z)).trans L iq;go_roundw;case rel=>exact⟨1,.slice f (pgs B) j,a5,C,R,az,lb,Z,rfl,uq b4,fun _=>⟨f,j,rfl,XB aa L (ai aa),b0,b3⟩,Z,b1.keep L b6,(a0.trans b2).mono Z,b7,ab⟩
   case measure=>simp[intOf]
 by_cases ag:k=1
 . subst ag
   have cj:=a0.acts;have a9:=YAd Y bg bh (by simp only;omega) true
   go_wp2_with (
    (refine a9.mono ?_)
    clear a9;rintro e o ⟨u,az,C,R,rfl,hu,b0,b1,b2,a1,a2,b3⟩;obtain⟨f,j,rfl,_⟩:=ZB hu;have E:=hb.keep a1 ay;have z:cl o (aq bx 1) a5:=uq (E.cell 1);have f1:=E.frozen 1)
   have aa:=ZC hu (base':=wA.heap.size) a8;have L:Keep [bx] o (o.setCell (aq bx 1) (.slice f (pgs B) j)):=kq.sc bx 1;have b4:=E.set 1 (.slice f (pgs B) j);have ab:Grow wA r C:=fun x a=>(a2 x a).elim (fun a=>O x a) (fun M=>.inr (AA a8 M));have b5:bx∉C:=fun b=>(ab bx b).elim (fun b=>by have:=c bx (by simp[b]);omega) (fun b=>Z)
   have b6:Apart (ZN s g C Ft U Fm L0 L1) [bx]:=fun x a b=>by
    simp only[Ak] at b;subst b;simp only[ZN,AM,AD] at a;rcases a with a | a | a | a | a | a | a | a
    . have:=c x (by simp[a]);omega
    . have:=c x (by simp[a]);omega
    . exact b5 a
    . have:=c x (by simp[a]);omega
    . have:=c x (by simp[a]);omega
    . have:=c x (by simp[a]);omega
    . have:=c x (by simp[a]);omega
    have:=c x (by simp[a]);omega
   have ai:∀ {q:Value} {n:Nat} {ys:List Value},o.ownsRow wA.heap.size 3 1 q n ys->∀ x,q.ownBlock=some x->x∉[bx]:=fun hq x a b=>by
    simp at b;subst b;exact own_blk_ne hq E (by decide) a
   have b7:Keep r w1 (o.setCell (aq bx 1) (.slice f (pgs B) j)):=(ax.trans a1 (fun x a=>(O x a).imp id Z)).trans L iq;have ck:=(a7 Z).keep a1 (fun x a b=>by obtain⟨_,_,_,_,_,hz⟩:=a7 Z;exact hz x a b) a2;have dl:LieAt (o.setCell (aq bx 1) (.slice f (pgs B) j)) wA.heap.size B C X N:=ck.keep L (fun x a b=>by obtain⟨_,_,_,hz,_⟩:=ck;exact ai hz x (uq b) a) (fun x a=>.inl a);go_roundw;case rel=>exact⟨2,X,.slice f (pgs B) j,C,R,N,az,Z,rfl,uq b4,fun _=>dl,fun _=>⟨f,j,rfl,XB aa L (ai aa),b0,b3⟩,b1.keep L b6,(a0.trans b2).mono Z,b7,ab⟩
   case measure=>simp[intOf]

 obtain rfl:k=2:=Z;have a7:=a7 Z;have aw:=aw Z;obtain⟨F,y,rfl,b8,cm,cn⟩:=a7;obtain⟨G,z,rfl,b9,co,cp⟩:=aw;obtain⟨x0,_,_,_,_,_,_,_,_,_,_,_,_,_,_,_,_,_⟩:=KC Y.blk;have cj:=a0.acts;have ac:=Y.log;have cq:=Vp (D:=a6) ac.disk ac.off ac.fuse Z ac.le
 go_wp2_with (
  (refine cq.mono ?_)
  clear cq;rintro e w3 ⟨rfl,ad,dm,P,aj⟩;have ba:=hb.keep P ay;have e0:cl w3 bx (.slice F (pgs B) y):=uq (ba.cell 0);have e1:cl w3 (aq bx 1) (.slice G (pgs B) z):=uq (ba.cell 1))
 have cr:Grow wA r ad:=fun x a=>(aj x a).elim (fun a=>O x a) (fun M=>.inr (AA a8 M));have cs:=a0.trans (MetaD.flush (6+4*pgs B) a6);have dn:=ac.setDisk dm P aj rfl rfl rfl;have dp:=(Y.setLog dn (P.sub (fun x a=>by simp[a])) aj (fun x a=>.inl a)).1;have ct:=XB b8 P (fun x a b=>cn x b (by simp[a]));have cu:=XB b9 P (fun x a b=>cp x b (by simp[a]));have ej:=cs.acts;have cv:=ZAw dp (JA ci) (JA dk) hs (by simp only;omega) y z N lb (Rd.of_own ct) (Rd.of_own cu) cm co;have dq:bx∉ad:=fun b=>(cr bx b).elim (fun b=>by have:=c bx (by simp[b]);omega) (fun b=>Z);have ek:=P.size
 go_wp2_with (
  (refine cv.mono ?_)
  clear cv e0 e1 x0;rintro e A ⟨rfl,bb,dr,bc,ds,ak,cw⟩;have al:=ba.keep ak dq;have e0:cl A bx (.slice F (pgs B) y):=uq (al.cell 0);have e1:cl A (aq bx 1) (.slice G (pgs B) z):=uq (al.cell 1))
 have a3:=bc.blk;obtain⟨bp,bq,c2,br,c4,c5,c6,c7,c8,c9,bs,bt,bu,bv,bw,bz,ca,cb⟩:=KC a3;obtain⟨⟨cc,a2⟩,_⟩:=JA ci;have el:IntKind.i64.wrap (((S.st.gen:Nat):Int)+1)=((S.st.gen:Nat):Int)+1:=by rw[AK];simp only at a2;omega
 have em:IntKind.i64.wrap (1-((S.slot:Nat):Int))=1-((S.slot:Nat):Int):=by rw[AK];omega
 have bd:bx≠s:=fun e=>by have:=c s sq;omega
 have en:=a3.frozen 11;have eo:=a3.frozen 15;have ep:=a3.frozen 16;have eq:=a3.frozen 17;have bd:bx≠s:=fun e=>by have:=c s sq;omega
 have am:∀ W,Keep [s] A W->cl W bx (.slice F (pgs B) y)/\cl W (aq bx 1) (.slice G (pgs B) z):=fun W hk=>⟨uq ((al.keep hk (uq bd)).cell 0),uq ((al.keep hk (uq bd)).cell 1)⟩;have cx:Keep [s] A (A.setCell (aq s 11) (.int .i64 (((S.st.gen:Nat):Int)+1))):=(Keep.refl [s] A).sc s 11;have dt:Keep [s] A ((A.setCell (aq s 11) (.int .i64 (((S.st.gen:Nat):Int)+1))).setCell (aq s 15) (.int .i64 (1-((S.slot:Nat):Int)))):=cx.sc s 15;refine ZR (fun w'=>cl w' bx (.slice F (pgs B) y)/\cl w' (aq bx 1) (.slice G (pgs B) z)) 22 (.held 0 (.held 1 (.held 2 (.held 3 (.held 4 (.held 5 (.held 6 (.held 9 (.held 10 (.held 11 (.held 14 (.two 7 (.held 8 (.loud 12 (.held 13 (.held 15 (.held 16 (.held 17 (.loud 18 (.held 19 (.held 20 (.loud 21 .nil)))))))))) 12 (.held 13 (.loud 7 (.held 8 (.held 15 (.held 16 (.held 17 (.loud 18 (.held 19 (.held 20 (.loud 21 .nil)))))))))))))))))))))) ⟨e0,e1⟩ ?_;simp only[RT.pick,PJ];iterate 11 refine wW ?_
 refine wpR_two ?_ ?_
 all_goals
  refine wpR_loud rq fun K Q=>?_;go_wp2_with fail;refine Q _ _ (am _ kq.drew) ?_;iterate 1 refine wW ?_
  refine wpR_loud rq fun K Q=>?_;go_wp2_with fail;refine Q _ _ (am _ kq.drew) ?_;iterate 4 refine wW ?_
  refine wpR_loud rq fun K Q=>?_;go_wp2_with fail;refine Q _ _ (am _ cx.drew) ?_;iterate 2 refine wW ?_
  refine wpR_loud rq fun K Q=>?_;go_wp2_with fail;refine Q _ _ (am _ dt.drew) ?_
  try simp only[Act.put,PU]
  refine wpR_nil ?_;have cy:((S.st.gen+1:Nat):Int)=(S.st.gen:Nat)+1:=sq;have cz:((1-S.slot:Nat):Int)=1-(S.slot:Nat):=Z;have d0:=(((a3.set 11 (.int .i64 (((S.st.gen:Nat):Int)+1))).set 15 (.int .i64 (1-((S.slot:Nat):Int)))).set 16 (.slice F (pgs B) y)).set 17 (.slice G (pgs B) z)
  have d1:Keep [s] A ((((A.setCell (aq s 11) (.int .i64 (((S.st.gen:Nat):Int)+1))).setCell (aq s 15) (.int .i64 (1-((S.slot:Nat):Int)))).setCell (aq s 16) (.slice F (pgs B) y)).setCell (aq s 17) (.slice G (pgs B) z)):=
   ((((Keep.refl [s] A).sc s 11).sc s 15).sc s 16).sc s 17
  have d2:base<=wA.heap.size:=by have:=Y.sbase;have:=c s sq;omega
  have ae:∀ x,x∈(Value.slice F (pgs B) y).ownBlock.toList\/x∈(Value.slice G (pgs B) z).ownBlock.toList->wA.heap.size<=x/\x∉ad/\x∉bb:=fun x a=>by
   have h0:wA.heap.size<=x/\x<wr.heap.size/\x∉J:=by
    rcases a with a | a
    . exact⟨(own_mem b8 a).1,(own_mem b8 a).2,fun b=>cn x b a⟩
    exact⟨(own_mem b9 a).1,(own_mem b9 a).2,fun b=>cp x b a⟩
   have h3:x∉ad:=fun b=>(aj x b).elim h0.2.2 Z;exact⟨h0.1,h3,fun b=>(cw x b).elim h3 Z⟩
  have du:=ZC (XB ct ak (fun x a=>(ae x (.inl (by simp[a]))).2.1)) d2;have dv:=ZC (XB cu ak (fun x a=>(ae x (.inr (by simp[a]))).2.1)) d2
  have af:=bc.setLie (S.st.gen+1) (1-S.slot) (.slice F (pgs B) y) (.slice G (pgs B) z) N lb (by rw[cy,cz];simpa using d0) d1 du dv (fun x a b=>by
   have h0:=ae x (by simpa only[AD] using a);simp only[AM,AD] at b;rcases b with b | b | b | b | b | b
   . have:=c s sq;omega
   . have:=c g sq;omega
   . exact h0.2.2 b
   . have:=c x (by simp[b]);omega
   . have:=c x (by simp[b]);omega
   have:=c x (by simp[b]);omega)
  clear d0 cy cz;have dw:=d1.drew;replace af:=af.kO kq.drew;have dx:=af.blk;have d3:=YAx af.img;obtain⟨z0,z1,z2,z3,z4,z5,z6,z7,z8,z9,d4,d5,d6,d7,d8,d9,da,db⟩:=KC dx;clear z0 z1 z4 z5 z6 z7 z8 z9 d4 d5 d6 d7 d8 d9 da db;have er:s∉Fm:=fun b=>bc.aps (by simp[b])
  go_wp2_with (first
   | (go_at_call 98
      refine d3.mono ?_;clear d3;rintro e w6 ⟨rfl,dy,dc⟩;have an:=af.setImg dy rfl dc;have dd:=YAY an.log.tab
      obtain⟨z0,z1,z2,z3,z4,z5,z6,z7,z8,z9,d4,d5,d6,d7,d8,d9,da,db⟩:=KC an.blk)
   | (go_at_call 99
      refine dd.mono ?_;clear dd;rintro e w7 ⟨u,rfl,de,dz,bf⟩;obtain⟨f,j,rfl,_⟩:=ZB de))
  go_ret2;have e2:=(an.setLog (an.log.setTab dz bf) (bf.sub (fun x a=>by simp[a])) (Grow.refl _ _) (Grow.refl _ _)).1;have ao:∀ {l:List Nat} {u v:World},(∀ x∈l,x=s\/x∈Fd\/x∈Ft\/x∈Fw\/x∈Fm)->Keep l u v->Keep (ZN s g Fd Ft Fw Fm L0 L1) u v:=fun hl hk=>hk.sub (YAt hl);have V:∀ x∈r,x∈ZN s g Fd Ft Fw Fm L0 L1\/w.heap.size<=x:=fun x a=>cf x (by simp[ZN,a]);have es:w.heap.size<=w1.heap.size:=cg.size;have e3:∀ x∈J,x∈ZN s g Fd Ft Fw Fm L0 L1\/w.heap.size<=x:=fun x a=>(O x a).elim (V x) (fun M=>.inr Z);have df:∀ x∈ad,x∈ZN s g Fd Ft Fw Fm L0 L1\/w.heap.size<=x:=fun x a=>(cr x a).elim (V x) (fun M=>.inr Z);have e4:∀ x∈bb,x∈ZN s g Fd Ft Fw Fm L0 L1\/w.heap.size<=x:=fun x a=>(cw x a).elim (df x) (fun M=>.inr Z);have e5:=ao (by intro x a;simp only[AD] at a;rcases a with h | h | h <;> simp[h]) cg;have e6:=e5.trans ax V;have e7:=e6.trans P e3;have e8:=e7.trans ak df;have e9:=e8.trans (ao (by intro x a;simp at a;simp[a]) dw) (fun x a=>.inl a);have dg:=e9.trans (ao (by intro x a;simp[a]) dc) (fun x a=>.inl a);have ea:=dg.trans (ao (by intro x a;simp[a]) bf) (fun x a=>.inl a);refine⟨_,_,_,bb,U,.slice F (pgs B) y,.slice G (pgs B) z,H,I,T,dr,N,lb,rfl,ZC de dg.size,JA dj,(cs.trans ds).mono Z,cm,co,e2,ea,?_,rfl,rfl⟩;intro x a;simp only[ZN,AM,AD] at a;rcases a with a | a | a | a | a | a | a | a
  . exact .inl (by simp[ZN,a])
  . exact .inl (by simp[ZN,a])
  . exact e4 x a
  . exact .inl (by simp[ZN,a])
  . exact cf x (by simp[ZN,a])
  . exact .inl (by simp[ZN,a])
  . exact .inr (by have:=(ae x (.inl a)).1;omega)
  exact .inr (by have:=(ae x (.inr a)).1;omega)
theorem KAM {w:World} {base s d g t p m:Nat} {Fd Ft Fw Fm:List Nat} {L0 L1:Value} {B:Nat} {S:PS} (h:StoreIs w base s d g t p m Fd Ft Fw Fm L0 L1 B S)
 (z:S.W.Ok) (A:S.W.pos.lsn<2147483647) (C:S.D.acts<=8000000) (D:S.slot<=1) (E:∀ x∈S.lie0,x<=1) (F:∀ x∈S.lie1,x<=1)
 (G:∀ v y o,Emitted B S.D S.us S.W v y o->PReg.May ⟨S.st.gen+1,S.st.view,S.st.mode,S.st.epoch,S.st.seq,S.st.done,o.pos⟩/\VT (KU y S.lv 8) o.pos.seg/\v.acts<=8000100) :
 Calls prog 21 #[pq s] w fun e w'=>∃ u n r a Fw' b c f i j D' k l,e=.returned (.tuple #[u,zz])/\w'.ownsRow w.heap.size 3 1 u n (YL r) /\
  Emitted B S.D S.us S.W f i j/\MetaD (6+4*pgs B) f D' (2*pgs B+4)/\(∀ x∈k,x<=1)/\(∀ x∈l,x<=1) /\
  StoreIs w' base s d g t p m a Ft Fw' Fm b c B ⟨D',KU i S.lv 8,S.lv,j,⟨S.I.bl,List.replicate S.I.bd.length false,S.I.ol,List.replicate S.I.od.length false⟩,{ S.st with gen:=S.st.gen+1 },1-S.slot,k,l⟩ /\
  Keep (ZN s g Fd Ft Fw Fm L0 L1) w w'/\Grow w (ZN s g Fd Ft Fw Fm L0 L1) (ZN s g a Ft Fw' Fm b c):=
 (Zl h z A C D E F G).mono fun _ _ ⟨u,n,r,a,Fw',b,c,f,i,j,D',k,l,H,I,J,K,L,M,N,O,P,_⟩=>⟨u,n,r,a,Fw',b,c,f,i,j,D',k,l,H,I,J,K,L,M,N,O,P⟩