/-
  PROVED HERE: what codec.Writer's methods answer, with a closer frame: all but the writer's cell and its row of bytes stays; condition: fewer than 2^40 bytes.
-/
import Derived.Test.YtlopmiaimignkaaGreatDoorPkM05
set_option maxRecDepth 200000
namespace Go.Proofs.YtlopmiaimignkaaGreatDoor
open Go.Proofs.Tryz
open Go.RowKit
variable{w:World}{base p:Nat}{bs:List UInt8}
def lc(w:World)(p:Nat):Option Nat:=match w.cell? ⟨p,0,none⟩ with
 | some (.slice A _ _)=>blk A
 | _=>none
theorem ng{A:Option Addr}{n c:Nat}(h:w.cell? ⟨p,0,none⟩=some (.slice A n c)):lc w p=blk A:=by unfold lc;rw[h]
structure kK (w w':World) (p:Nat):Prop where
 keep:b_ (fun b=>b≠p/\some b≠lc w p) w w'
 row:∀b,b<w.heap.size->some b≠lc w p->some b≠lc w' p
theorem kK.refl(w:World)(p:Nat):kK w w p:=⟨b_.refl _ _,fun _ _ h=>h⟩
theorem kK.trans{a b c:World}(h:kK a b p)(k:kK b c p):kK a c p :=
 ⟨h.keep.Qd k.keep fun i hi hd=>⟨hd.1,h.row i hi hd.2⟩,fun i hi hd=>k.row i (Nat.lt_of_lt_of_le hi h.keep.size) (h.row i hi hd)⟩
theorem kK.Qe{w w':World}{p:Nat}(h:New w w')(hp:p<w.heap.size):kK w w' p :=
 ⟨b_.Qe h,fun b _ hd=>by unfold lc at *;rw[h.cell (p:=⟨p,0,none⟩) hp zt];exact hd⟩
theorem xl{w2:World}{A1 A2:Option Addr}{n1 c1 m c2:Nat}{u:Value}(hc:w.cell? ⟨p,0,none⟩=some (.slice A1 n1 c1))(_hne:blk A1≠some p)(hg:w.grownBy w2 (blk A1))(hbk:blk A2=blk A1\/blk A2=some w.heap.size)(cc:w2.cell? ⟨p,0,none⟩=some u):kK w (w2.setCell ⟨p,0,none⟩ (.slice A2 m c2)) p:=by
 have a:=ng hc
 refine⟨((b_.refl (fun b=>b≠p/\some b≠lc w p) w).grown hg (fun k hk hd=>absurd hk.symm (by rw[a] at hd;exact hd.2))).setCell (p:=⟨p,0,none⟩) (fun hd=>absurd rfl hd.1) _,fun b hb hd=>?_⟩
 rw[ng (World.cell?_setCell_same w2 ⟨p,0,none⟩ _ cc)]
 rw[a] at hd
 rcases hbk with e|e
 ·rw[e];exact hd
 rw[e];intro e';injection e' with e';omega
theorem Wr.low{w':World}(h:Wr w base p bs)(k:kK w w' p):b_ (fun b=>b<base) w w':=by
 obtain⟨A,c,hc,a,_⟩:=h.row
 refine k.keep.imp fun b _ hb=>⟨fun e=>by have:=h.hp;omega,fun e=>?_⟩
 rw[ng hc] at e
 have:=(eW a b e.symm).1
 omega
theorem Wr.rowLt(h:Wr w base p bs):∀b,lc w p=some b->base<=b/\b<w.heap.size:=by
 obtain⟨A,c,hc,a,_⟩:=h.row
 intro b hb
 rw[ng hc] at hb
 exact eW a b hb
theorem tC(base p:Nat)(D:Nat->Prop)(A:Option Addr)(n c:Nat)(bs bs2:List UInt8)(w:World)(hW:Wr w base p bs)(hB:Bs w D A n bs2)(hn:bs.length+n<=1099511627776):
  Calls prog 66 #[.pointer (some ⟨p,0,none⟩),.slice A n c] w fun e w'=>e=.returned (.tuple #[])/\Wr w' base p (bs++bs2)/\kK w w' p:=by
 obtain⟨A1,c1,hc,j,d⟩:=hW.row
 have hf:=hW.free
 have k:=hW.hp
 have f:=hW.lt
 have g:=Ne.symm d
 have l:base<=w.heap.size:=Nat.le_trans k (Nat.le_of_lt f)
 have m:bs.length+n<=140737488355328:=by omega
 have q:=zh hW
 have r:=zh hc
 clear hW
 go_in
 go_wp2_with (at_builtin;refine fK _ rfl (.tmp 8) (.tmp 9) rfl base A1 bs.length c1 bs rfl j D A n c bs2 rfl hB m l ?_;intro s c2 t i b h;have o:=b.cell (a:=⟨p,0,none⟩) hc g;have u:=(b.frozen_far ⟨p,0,none⟩ f g).trans hf)
 go_end0
 exact⟨rfl,q.put i b h d ⟨_,o⟩,xl r.out d b h o⟩
theorem tD(base p s:Nat)(bs:List UInt8)(x si:Int)(w:World)(hW:Wr w base p bs)(_hx0:0<=x)(_hx1:x<=18446744073709551615)(hsi:si=s)(hs:s<=8)(hn:bs.length<=1099511627776):
  Calls prog 160 #[.pointer (some ⟨p,0,none⟩),.int .u64 x,.int .i64 si] w fun e w'=>e=.returned (.tuple #[])/\Wr w' base p (bs++beI s x)/\kK w w' p:=by
 subst hsi
 go_in
 go_wp2_with fail
 go_loopw [6] (fun i z=>∃k:Nat,k<=s/\i=.int .i64 ((k:Int)-1)/\Wr z base p (bs++(beI s x).take (s-k))/\kK w z p) (fun i _=>(intOf i+1).toNat)
 case atStart=>exact⟨s,zr,rfl,by simpa using hW,kK.refl _ _⟩
 clear hW
 obtain⟨k,hk,rfl,hW,u⟩:=hrel
 rcases k with _|k
 ·rw[show(((0:Nat):Int)-1) = -1 from rfl]
  rw[Nat.sub_zero,List.take_of_length_le (by rw[dL];exact Nat.le_refl _)] at hW
  go_wp2_with fail
  go_end0
  exact⟨rfl,hW,u⟩
 rw[show(((k+1:Nat):Int)-1)=(k:Int) from by omega]
 have A:=zh<|uw s k x zo
 have M:k<8:=by omega
 have B:(List.take (s-(k+1)) (beI s x)).length<=8:=Nat.le_trans (List.length_take_le _ _) zo
 generalize List.take (s-(k+1)) (beI s x)=q at hW A B
 obtain⟨A1,c1,hc,j,l⟩:=hW.row
 have hf:=hW.free
 have C:=hW.hp
 have b:=hW.lt
 have n:=Ne.symm l
 have D:base<=wr.heap.size:=Nat.le_trans C (Nat.le_of_lt b)
 have E:(bs++q).length+1<=140737488355328:=by rw[zL];omega
 have F:=zh hW
 clear hW
 generalize (bs++q).length=m at *
 have N:IntKind.i64.wrap (8*(k:Int))=8*(k:Int):=IntWalk.i64_in _ zo
 have r:=oa wr 5 _ (.int .u8 (IntKind.u8.wrap (x/2^(8*k)))) ((kU (x/2^(8*k))).trans (by rw[IntKind.wrap_u8]))
 have o:=(World.cell?_alloc_lt wr (.cells #[.int .u8 (IntKind.u8.wrap (x/2^(8*k)))] 5) ⟨p,0,none⟩ b).trans hc
 have t:=(((zN wr).alloc (.cells #[.int .u8 (IntKind.u8.wrap (x/2^(8*k)))] 5)).frozen (p:=⟨p,0,none⟩) b zt).trans hf
 have v:p<(wr.alloc (.cells #[.int .u8 (IntKind.u8.wrap (x/2^(8*k)))] 5)).heap.size:=Nat.lt_of_lt_of_le b (by simp)
 have f:=j.alloc (.cells #[.int .u8 (IntKind.u8.wrap (x/2^(8*k)))] 5)
 have O:(8*(k:Int)).toNat=8*k:=by omega
 have P:0<=8*(k:Int):=zo
 go_wp2_with fail
 go_region_law (refine nF _ rfl (.tmp 17) (.tmp 23) rfl base A1 m c1 _ (by simp[Act.eval]) f (fun g=>wr.heap.size<=g) _ 1 1 _ (by simp[Act.eval]) r E (Nat.le_trans D (by simp)) ?_;intro I J K h c d;have y:=c.cell (a:=⟨p,0,none⟩) o n;have L:=(c.frozen_far ⟨p,0,none⟩ v n).trans t)
 all_goals
  replace c:=wk c
  have G:=(F.keep ((zN wr).alloc (.cells #[.int .u8 (IntKind.u8.wrap (x/2^(8*k)))] 5)) (fun _ _=>zt)).put h c d l ⟨_,y⟩
  have H:kK w (K.setCell ⟨p,0,none⟩ (.slice I (m+1) J)) p:=u.trans ((kK.Qe ((zN wr).alloc (.cells #[.int .u8 (IntKind.u8.wrap (x/2^(8*k)))] 5)) b).trans (xl o l c d y))
  clear h c d y L u j f o t r hc F
  go_wp2
  go_roundw
  case rel=>exact⟨k,zo,rfl,by rw[A.out,<- List.append_assoc];exact G,H⟩
  simp[intOf]
theorem zT(base p:Nat)(bs:List UInt8)(x:Int)(w:World)(hW:Wr w base p bs)(hn:bs.length<=1099511627776):
  Calls prog 97 #[.pointer (some ⟨p,0,none⟩),.int .i64 x] w fun e w'=>e=.returned (.tuple #[])/\Wr w' base p (bs++beI 1 x)/\kK w w' p:=by
 have b:=iU x
 have he:=zh<|lu 1 x Zd
 go_in
 go_wp2_with fail
 refine(tD base p 1 bs _ _ w hW b.1 b.2 rfl Zd hn).mono ?_
 rintro e d⟨rfl,a,c⟩
 rw[he.out] at a
 go_wp2_with fail
 go_end0
 exact⟨rfl,a,c⟩
theorem iT(base p:Nat)(bs:List UInt8)(x:Int)(w:World)(hW:Wr w base p bs)(hn:bs.length<=1099511627776):
  Calls prog 99 #[.pointer (some ⟨p,0,none⟩),.int .i64 x] w fun e w'=>e=.returned (.tuple #[])/\Wr w' base p (bs++beI 2 x)/\kK w w' p:=by
 have b:=iU x
 have he:=zh<|lu 2 x Zd
 go_in
 go_wp2_with fail
 refine(tD base p 2 bs _ _ w hW b.1 b.2 rfl Zd hn).mono ?_
 rintro e d⟨rfl,a,c⟩
 rw[he.out] at a
 go_wp2_with fail
 go_end0
 exact⟨rfl,a,c⟩
theorem pS(base p:Nat)(bs:List UInt8)(x:Int)(w:World)(hW:Wr w base p bs)(hx0:0<=x)(hx1:x<=18446744073709551615)(hn:bs.length<=1099511627776):
  Calls prog 65 #[.pointer (some ⟨p,0,none⟩),.int .u64 x] w fun e w'=>e=.returned (.tuple #[])/\Wr w' base p (bs++beI 8 x)/\kK w w' p:=by
 go_in
 go_wp2_with fail
 refine(tD base p 8 bs _ _ w hW hx0 hx1 rfl Zd hn).mono ?_
 rintro e c⟨rfl,a,b⟩
 go_wp2_with fail
 go_end0
 exact⟨rfl,a,b⟩
theorem jE(base p:Nat)(D:Nat->Prop)(A:Option Addr)(n c:Nat)(bs bs2:List UInt8)(w:World)(hW:Wr w base p bs)(hB:Bs w D A n bs2)(hD:∀b,D b->b≠p/\some b≠lc w p)(hnc:n<=c)(hc:n<=9223372036854775807)(hn:bs.length+65537<=1099511627776):
  Calls prog 98 #[.pointer (some ⟨p,0,none⟩),.slice A n c] w fun e w'=>e=.returned (.tuple #[])/\Wr w' base p (bs++dU bs2)/\kK w w' p:=by
 have hl:=hB.len
 have j:bs.length<=1099511627776:=by omega
 by_cases q:65535<n
 ·have k:(65535:Int)<n:=by omega
  have hm:=Bs.Qk hB (hi:=65535) zo
  have l:Hid (dU bs2=beI 2 65535++bs2.take 65535):=zh (mW bs2 zo)
  have d:(bs++beI 2 65535).length+65535<=1099511627776:=by rw[zL,dL];omega
  clear hl hB
  go_in
  go_wp2_with fail
  refine(iT base p bs 65535 w hW j).mono ?_
  rintro e m⟨rfl,f,a⟩
  go_wp2_with fail
  refine(tC base p D A 65535 c _ _ m f (hm.keep a.keep (fun b _ h=>hD b h)) d).mono ?_
  rintro e o⟨rfl,g,i⟩
  go_wp2_with fail
  go_end0
  exact⟨rfl,by rw[l.out,<- List.append_assoc];exact g,a.trans i⟩
 have k:¬(65535:Int)<n:=by omega
 have l:Hid (dU bs2=beI 2 (n:Int)++bs2):=zh (by unfold dU;rw[hl,Nat.min_eq_left zo,List.take_of_length_le zo])
 have d:(bs++beI 2 (n:Int)).length+n<=1099511627776:=by rw[zL,dL];omega
 clear hl
 go_in
 go_wp2_with fail
 refine(iT base p bs n w hW j).mono ?_
 rintro e m⟨rfl,f,a⟩
 go_wp2_with fail
 refine(tC base p D A n c _ _ m f (hB.keep a.keep (fun b _ h=>hD b h)) d).mono ?_
 rintro e o⟨rfl,g,i⟩
 go_wp2_with fail
 go_end0
 exact⟨rfl,by rw[l.out,<- List.append_assoc];exact g,a.trans i⟩
