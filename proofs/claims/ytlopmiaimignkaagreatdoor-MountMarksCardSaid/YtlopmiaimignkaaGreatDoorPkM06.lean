/-
  PROVED HERE: parts of a law's walk, each under the conditions that its statement names.
-/
import Derived.Test.YtlopmiaimignkaaGreatDoorPkM05
set_option maxRecDepth 100000
namespace Go.Proofs.YtlopmiaimignkaaGreatDoor
open Go.Proofs.Tryz
open Go.RowKit
variable{w:World}{g:Nat}{t:TypeId}{c:Array Value}{v0 v1 v2 v3 v4 v5 v6 v7 v8:Value}
theorem a_{cs:Array Value}(h:w.heap[g]?=some (.cells cs t (0,0))){k:Nat}{v:Value}(hv:cs[k]?=some v):w.cell? ⟨g,k,none⟩=some v:=(cell_of_row w g k cs t (0,0) h).trans hv
theorem b_.Qa{D:Nat->Prop}{a b:World}(h:b_ D a b){o:Obj}(hg:a.heap[g]?=some o)(hd:D g):b.heap[g]?=some o :=
 (h.block g (Zl hg) hd).trans hg
structure jj where
 index:Int
 first:Int
 count:Int
 bytes:Int
 prev:List UInt8
 root:List UInt8
def lX(bs:List UInt8):List UInt8:=if bs.length=32 then bs else List.replicate 32 0
theorem ow(bs:List UInt8):(lX bs).length=32:=by unfold lX;split <;> simp_all
def oZ(h:jj):List UInt8:=beI 1 2++beI 2 h.index++beI 8 h.first++beI 2 h.count++lX h.prev++lX h.root
def la(h:jj):List UInt8:=gL (oZ h)
theorem u9(D:Nat->Prop)(A:Option Addr)(n c:Nat)(bs:List UInt8)(w:World)(hB:Bs w D A n bs)(hnc:n<=c):
  Calls prog 262 #[.slice A n c] w fun e w'=>(∃A' c',e=.returned (.slice A' 32 c')/\32<=c'/\Bs w' (fun b=>D b\/w.heap.size<=b) A' 32 (lX bs))/\New w w':=by
 have hl:=hB.len
 by_cases a:n=32
 ·subst a
  have hw:lX bs=bs:=by unfold lX;rw[if_pos hl]
  rw[hw]
  clear hl hw
  go_in
  go_wp2
  go_ret
  exact⟨⟨_,_,rfl,hnc,hB.imp (fun _ _ h=>.inl h)⟩,zN _⟩
 have hw:lX bs=List.replicate 32 0:=by unfold lX;rw[if_neg zo]
 have f:((n:Int) !=32)=true:=by rw[bne_iff_ne];omega
 have d:∀w,(Instr.makeSlice 22 (.int .i64 32) (.int .i64 32)).run prog w=.ok (.slice (some ⟨w.heap.size,0,none⟩) 32 32) (w.alloc (.cells (List.replicate 32 (Value.int .u8 0)).toArray 5)):=fun _=>by kernel_rfl
 rw[hw]
 clear hl hw
 go_in
 go_wp2_with fail
 clear d
 go_ret
 exact⟨⟨_,_,rfl,zr,(Row.made w _ _ 32 1 rfl).imp (fun _ _ h=>.inr h)⟩,(zN _).alloc _⟩
theorem GN(D D2:Nat->Prop)(A A2:Option Addr)(n c n2 c2:Nat)(h:jj)(w:World)(hB:Bs w D A n h.prev)(hnc:n<=c)(hB2:Bs w D2 A2 n2 h.root)(hnc2:n2<=c2)(hf0:0<=h.first)(hf1:h.first<=18446744073709551615):
  Calls prog 220 #[.agg #[.int .i64 h.index,.int .u64 h.first,.int .i64 h.count,.int .i64 h.bytes,.slice A n c,.slice A2 n2 c2]] w fun e w' =>
   (∃A' c',e=.returned (.slice A' 77 c')/\fy w' w.heap.size 5 A' 77 c' (oZ h))/\New w w':=by
 rcases h with⟨f,g,j,a,q,r⟩
 have I:(w.alloc (.cells #[.int .i64 f,.int .u64 g,.int .i64 j,.int .i64 a,.slice A n c,.slice A2 n2 c2] 94)).heap[w.heap.size]?=some (.cells #[.int .i64 f,.int .u64 g,.int .i64 j,.int .i64 a,.slice A n c,.slice A2 n2 c2] 94 (0,0)):=heap_alloc_new w _
 have J:New w (w.alloc (.cells #[.int .i64 f,.int .u64 g,.int .i64 j,.int .i64 a,.slice A n c,.slice A2 n2 c2] 94)):=(zN w).alloc _
 dsimp only at hB hB2 hf0 hf1 ⊢
 have HB:=zh I
 clear I
 go_in
 go_wp2_with fail
 have hlt:w.heap.size<(w.alloc (.cells #[.int .i64 f,.int .u64 g,.int .i64 j,.int .i64 a,.slice A n c,.slice A2 n2 c2] 94)).heap.size:=by simp
 generalize w.alloc _=w0 at *
 refine(gV _).mono ?_
 rintro e w1⟨⟨p,rfl,K⟩,s⟩
 have ad:=zh<|s.Qa HB.out zt
 generalize w0.heap.size=base at *
 go_wp2_with fail
 refine(mg base p _ 2 w1 K (by simp)).mono ?_
 rintro e w2⟨rfl,M,t⟩
 have N:=zh<|t.Qa ad.out hlt
 clear K
 have d:=a_ N.out (k:=0) rfl
 go_wp2_with fail
 clear d
 refine(fR base p _ f w2 M (by simp[dL])).mono ?_
 rintro e w3⟨rfl,O,u⟩
 have P:=zh<|u.Qa N.out hlt
 clear M
 have d:=a_ P.out (k:=1) rfl
 go_wp2_with fail
 clear d
 refine(jw base p _ g w3 O hf0 hf1 (by simp[dL])).mono ?_
 rintro e w4⟨rfl,Q,v⟩
 have R:=zh<|v.Qa P.out hlt
 clear O
 have d:=a_ R.out (k:=2) rfl
 go_wp2_with fail
 clear d
 refine(fR base p _ j w4 Q (by simp[dL])).mono ?_
 rintro e H⟨rfl,S,x⟩
 have T:=zh<|x.Qa R.out hlt
 clear Q
 have d:=a_ T.out (k:=4) rfl
 have l:b_ (fun b=>b<base) w H:=((((b_.Qe (J.new s)).trans t).trans u).trans v).trans x
 have y:w.heap.size<=base:=Nat.le_of_lt hlt
 have U:Bs H (fun b=>b<base) A n q:=(Row.imp hB (E:=fun b=>b<base) (fun b hb _=>Nat.lt_of_lt_of_le hb y)).keep l (fun b _ h=>h)
 have z:Bs H (fun b=>b<base) A2 n2 r:=(Row.imp hB2 (E:=fun b=>b<base) (fun b hb _=>Nat.lt_of_lt_of_le hb y)).keep l (fun b _ h=>h)
 clear s t u v x hB hB2 J
 go_wp2_with fail
 clear d
 refine(u9 _ A n c q H U hnc).mono ?_
 rintro e w6⟨⟨A6,c6,rfl,ag,V⟩,m⟩
 go_wp2_with fail
 have W:=S.keep m (fun _ _=>zt)
 refine(iy base p _ A6 32 c6 _ _ w6 W V (by simp[dL])).mono ?_
 rintro e w7⟨rfl,X,B⟩
 have ae:=zh<|B.Qa (m.Qa T.out zt) hlt
 clear S W U V
 have d:=a_ ae.out (k:=5) rfl
 have Y:=(z.new m).keep B (fun b _ h=>h)
 go_wp2_with fail
 clear d
 refine(u9 _ A2 n2 c2 r w7 Y hnc2).mono ?_
 rintro e w8⟨⟨A8,c8,rfl,ah,Z⟩,aa⟩
 go_wp2_with fail
 have ab:=X.keep aa (fun _ _=>zt)
 refine(iy base p _ A8 32 c8 _ _ w8 ab Z (by simp[dL,ow])).mono ?_
 rintro e w9⟨rfl,o,af⟩
 clear z Y Z X ab
 have C:b_ (fun b=>b<base) w w9:=(((l.new m).trans B).new aa).trans af
 replace o:Wr w9 base p (oZ ⟨f,g,j,a,q,r⟩):=o
 have F:(oZ ⟨f,g,j,a,q,r⟩).length=77:=by simp[oZ,dL,ow]
 generalize hL:oZ ⟨f,g,j,a,q,r⟩=L at o F
 have HL:=zh hL
 clear hL
 go_wp2_with fail
 refine(iI base p _ w9 o zo).mono ?_
 rintro e ai⟨⟨aj,ak,rfl,G⟩,ac⟩
 rw[F] at G ⊢
 go_wp2
 go_ret
 exact⟨⟨_,_,rfl,by rw[HL.out];exact eQ G C.size⟩,(C.Qi (fun i hi=>Nat.lt_of_lt_of_le hi y)).new ac⟩
theorem ER(D D2:Nat->Prop)(A A2:Option Addr)(n c n2 c2:Nat)(h:jj)(w:World)(hB:Bs w D A n h.prev)(hnc:n<=c)(hB2:Bs w D2 A2 n2 h.root)(hnc2:n2<=c2)(hf0:0<=h.first)(hf1:h.first<=18446744073709551615):
  Calls prog 121 #[.agg #[.int .i64 h.index,.int .u64 h.first,.int .i64 h.count,.int .i64 h.bytes,.slice A n c,.slice A2 n2 c2]] w fun e w' =>
   (∃A' c',e=.returned (.slice A' 32 c')/\fy w' w.heap.size 5 A' 32 c' (la h))/\New w w':=by
 have d:∀o,New w (w.alloc o):=fun o=>(zN w).alloc o
 have f:=zh d
 clear d
 go_in
 go_wp2_with fail
 refine(GN D D2 A A2 n c n2 c2 h _ (hB.alloc _) hnc (hB2.alloc _) hnc2 hf0 hf1).mono ?_
 rintro e k⟨⟨A1,c1,rfl,a⟩,g⟩
 have i:=ew a
 go_wp2_with fail
 refine(mm _ A1 77 c1 _ k (Row.Qc a) i zo).mono ?_
 rintro e l⟨⟨A2,c2,rfl,b⟩,j⟩
 go_wp2
 go_ret
 exact⟨⟨_,_,rfl,eQ b (Nat.le_trans (f.out _).size g.size)⟩,((f.out _).new g).new j⟩
theorem cs2(h:w.heap[g]?=some (.cells c t (0,0)))(h0:c[0]?=some v0:=by rfl)(h1:c[1]?=some v1:=by rfl):w.cell? ⟨g,0,none⟩=some v0/\w.cell? ⟨g,1,none⟩=some v1:=⟨a_ h h0,a_ h h1⟩
theorem fz2(h:w.heap[g]?=some (.cells c t (0,0))):w.frozen? ⟨g,0,none⟩=false/\w.frozen? ⟨g,1,none⟩=false:=⟨dP h 0,dP h 1⟩
theorem cs3(h:w.heap[g]?=some (.cells c t (0,0)))(h0:c[0]?=some v0:=by rfl)(h1:c[1]?=some v1:=by rfl)(h2:c[2]?=some v2:=by rfl):w.cell? ⟨g,0,none⟩=some v0/\w.cell? ⟨g,1,none⟩=some v1/\w.cell? ⟨g,2,none⟩=some v2:=⟨a_ h h0,a_ h h1,a_ h h2⟩
theorem fz3(h:w.heap[g]?=some (.cells c t (0,0))):w.frozen? ⟨g,0,none⟩=false/\w.frozen? ⟨g,1,none⟩=false/\w.frozen? ⟨g,2,none⟩=false:=⟨dP h 0,dP h 1,dP h 2⟩
theorem cs4(h:w.heap[g]?=some (.cells c t (0,0)))(h0:c[0]?=some v0:=by rfl)(h1:c[1]?=some v1:=by rfl)(h2:c[2]?=some v2:=by rfl)(h3:c[3]?=some v3:=by rfl):w.cell? ⟨g,0,none⟩=some v0/\w.cell? ⟨g,1,none⟩=some v1/\w.cell? ⟨g,2,none⟩=some v2/\w.cell? ⟨g,3,none⟩=some v3:=⟨a_ h h0,a_ h h1,a_ h h2,a_ h h3⟩
theorem fz4(h:w.heap[g]?=some (.cells c t (0,0))):w.frozen? ⟨g,0,none⟩=false/\w.frozen? ⟨g,1,none⟩=false/\w.frozen? ⟨g,2,none⟩=false/\w.frozen? ⟨g,3,none⟩=false:=⟨dP h 0,dP h 1,dP h 2,dP h 3⟩
theorem cs5(h:w.heap[g]?=some (.cells c t (0,0)))(h0:c[0]?=some v0:=by rfl)(h1:c[1]?=some v1:=by rfl)(h2:c[2]?=some v2:=by rfl)(h3:c[3]?=some v3:=by rfl)(h4:c[4]?=some v4:=by rfl):w.cell? ⟨g,0,none⟩=some v0/\w.cell? ⟨g,1,none⟩=some v1/\w.cell? ⟨g,2,none⟩=some v2/\w.cell? ⟨g,3,none⟩=some v3/\w.cell? ⟨g,4,none⟩=some v4:=⟨a_ h h0,a_ h h1,a_ h h2,a_ h h3,a_ h h4⟩
theorem fz5(h:w.heap[g]?=some (.cells c t (0,0))):w.frozen? ⟨g,0,none⟩=false/\w.frozen? ⟨g,1,none⟩=false/\w.frozen? ⟨g,2,none⟩=false/\w.frozen? ⟨g,3,none⟩=false/\w.frozen? ⟨g,4,none⟩=false:=⟨dP h 0,dP h 1,dP h 2,dP h 3,dP h 4⟩
theorem cs6(h:w.heap[g]?=some (.cells c t (0,0)))(h0:c[0]?=some v0:=by rfl)(h1:c[1]?=some v1:=by rfl)(h2:c[2]?=some v2:=by rfl)(h3:c[3]?=some v3:=by rfl)(h4:c[4]?=some v4:=by rfl)(h5:c[5]?=some v5:=by rfl):w.cell? ⟨g,0,none⟩=some v0/\w.cell? ⟨g,1,none⟩=some v1/\w.cell? ⟨g,2,none⟩=some v2/\w.cell? ⟨g,3,none⟩=some v3/\w.cell? ⟨g,4,none⟩=some v4/\w.cell? ⟨g,5,none⟩=some v5:=⟨a_ h h0,a_ h h1,a_ h h2,a_ h h3,a_ h h4,a_ h h5⟩
theorem fz6(h:w.heap[g]?=some (.cells c t (0,0))):w.frozen? ⟨g,0,none⟩=false/\w.frozen? ⟨g,1,none⟩=false/\w.frozen? ⟨g,2,none⟩=false/\w.frozen? ⟨g,3,none⟩=false/\w.frozen? ⟨g,4,none⟩=false/\w.frozen? ⟨g,5,none⟩=false:=⟨dP h 0,dP h 1,dP h 2,dP h 3,dP h 4,dP h 5⟩
theorem cs7(h:w.heap[g]?=some (.cells c t (0,0)))(h0:c[0]?=some v0:=by rfl)(h1:c[1]?=some v1:=by rfl)(h2:c[2]?=some v2:=by rfl)(h3:c[3]?=some v3:=by rfl)(h4:c[4]?=some v4:=by rfl)(h5:c[5]?=some v5:=by rfl)(h6:c[6]?=some v6:=by rfl):w.cell? ⟨g,0,none⟩=some v0/\w.cell? ⟨g,1,none⟩=some v1/\w.cell? ⟨g,2,none⟩=some v2/\w.cell? ⟨g,3,none⟩=some v3/\w.cell? ⟨g,4,none⟩=some v4/\w.cell? ⟨g,5,none⟩=some v5/\w.cell? ⟨g,6,none⟩=some v6:=⟨a_ h h0,a_ h h1,a_ h h2,a_ h h3,a_ h h4,a_ h h5,a_ h h6⟩
theorem fz7(h:w.heap[g]?=some (.cells c t (0,0))):w.frozen? ⟨g,0,none⟩=false/\w.frozen? ⟨g,1,none⟩=false/\w.frozen? ⟨g,2,none⟩=false/\w.frozen? ⟨g,3,none⟩=false/\w.frozen? ⟨g,4,none⟩=false/\w.frozen? ⟨g,5,none⟩=false/\w.frozen? ⟨g,6,none⟩=false:=⟨dP h 0,dP h 1,dP h 2,dP h 3,dP h 4,dP h 5,dP h 6⟩
theorem cs8(h:w.heap[g]?=some (.cells c t (0,0)))(h0:c[0]?=some v0:=by rfl)(h1:c[1]?=some v1:=by rfl)(h2:c[2]?=some v2:=by rfl)(h3:c[3]?=some v3:=by rfl)(h4:c[4]?=some v4:=by rfl)(h5:c[5]?=some v5:=by rfl)(h6:c[6]?=some v6:=by rfl)(h7:c[7]?=some v7:=by rfl):w.cell? ⟨g,0,none⟩=some v0/\w.cell? ⟨g,1,none⟩=some v1/\w.cell? ⟨g,2,none⟩=some v2/\w.cell? ⟨g,3,none⟩=some v3/\w.cell? ⟨g,4,none⟩=some v4/\w.cell? ⟨g,5,none⟩=some v5/\w.cell? ⟨g,6,none⟩=some v6/\w.cell? ⟨g,7,none⟩=some v7:=⟨a_ h h0,a_ h h1,a_ h h2,a_ h h3,a_ h h4,a_ h h5,a_ h h6,a_ h h7⟩
theorem fz8(h:w.heap[g]?=some (.cells c t (0,0))):w.frozen? ⟨g,0,none⟩=false/\w.frozen? ⟨g,1,none⟩=false/\w.frozen? ⟨g,2,none⟩=false/\w.frozen? ⟨g,3,none⟩=false/\w.frozen? ⟨g,4,none⟩=false/\w.frozen? ⟨g,5,none⟩=false/\w.frozen? ⟨g,6,none⟩=false/\w.frozen? ⟨g,7,none⟩=false:=⟨dP h 0,dP h 1,dP h 2,dP h 3,dP h 4,dP h 5,dP h 6,dP h 7⟩
theorem cs9(h:w.heap[g]?=some (.cells c t (0,0)))(h0:c[0]?=some v0:=by rfl)(h1:c[1]?=some v1:=by rfl)(h2:c[2]?=some v2:=by rfl)(h3:c[3]?=some v3:=by rfl)(h4:c[4]?=some v4:=by rfl)(h5:c[5]?=some v5:=by rfl)(h6:c[6]?=some v6:=by rfl)(h7:c[7]?=some v7:=by rfl)(h8:c[8]?=some v8:=by rfl):w.cell? ⟨g,0,none⟩=some v0/\w.cell? ⟨g,1,none⟩=some v1/\w.cell? ⟨g,2,none⟩=some v2/\w.cell? ⟨g,3,none⟩=some v3/\w.cell? ⟨g,4,none⟩=some v4/\w.cell? ⟨g,5,none⟩=some v5/\w.cell? ⟨g,6,none⟩=some v6/\w.cell? ⟨g,7,none⟩=some v7/\w.cell? ⟨g,8,none⟩=some v8:=⟨a_ h h0,a_ h h1,a_ h h2,a_ h h3,a_ h h4,a_ h h5,a_ h h6,a_ h h7,a_ h h8⟩
theorem fz9(h:w.heap[g]?=some (.cells c t (0,0))):w.frozen? ⟨g,0,none⟩=false/\w.frozen? ⟨g,1,none⟩=false/\w.frozen? ⟨g,2,none⟩=false/\w.frozen? ⟨g,3,none⟩=false/\w.frozen? ⟨g,4,none⟩=false/\w.frozen? ⟨g,5,none⟩=false/\w.frozen? ⟨g,6,none⟩=false/\w.frozen? ⟨g,7,none⟩=false/\w.frozen? ⟨g,8,none⟩=false:=⟨dP h 0,dP h 1,dP h 2,dP h 3,dP h 4,dP h 5,dP h 6,dP h 7,dP h 8⟩
theorem JM{v9:Value}(h:w.heap[g]?=some (.cells c t (0,0)))(h0:c[0]?=some v0:=by rfl)(h1:c[1]?=some v1:=by rfl)(h2:c[2]?=some v2:=by rfl)(h3:c[3]?=some v3:=by rfl)(h4:c[4]?=some v4:=by rfl)(h5:c[5]?=some v5:=by rfl)(h6:c[6]?=some v6:=by rfl)(h7:c[7]?=some v7:=by rfl)(h8:c[8]?=some v8:=by rfl)(h9:c[9]?=some v9:=by rfl):w.cell? ⟨g,0,none⟩=some v0/\w.cell? ⟨g,1,none⟩=some v1/\w.cell? ⟨g,2,none⟩=some v2/\w.cell? ⟨g,3,none⟩=some v3/\w.cell? ⟨g,4,none⟩=some v4/\w.cell? ⟨g,5,none⟩=some v5/\w.cell? ⟨g,6,none⟩=some v6/\w.cell? ⟨g,7,none⟩=some v7/\w.cell? ⟨g,8,none⟩=some v8/\w.cell? ⟨g,9,none⟩=some v9:=⟨a_ h h0,a_ h h1,a_ h h2,a_ h h3,a_ h h4,a_ h h5,a_ h h6,a_ h h7,a_ h h8,a_ h h9⟩
theorem JL(h:w.heap[g]?=some (.cells c t (0,0))):w.frozen? ⟨g,0,none⟩=false/\w.frozen? ⟨g,1,none⟩=false/\w.frozen? ⟨g,2,none⟩=false/\w.frozen? ⟨g,3,none⟩=false/\w.frozen? ⟨g,4,none⟩=false/\w.frozen? ⟨g,5,none⟩=false/\w.frozen? ⟨g,6,none⟩=false/\w.frozen? ⟨g,7,none⟩=false/\w.frozen? ⟨g,8,none⟩=false/\w.frozen? ⟨g,9,none⟩=false:=⟨dP h 0,dP h 1,dP h 2,dP h 3,dP h 4,dP h 5,dP h 6,dP h 7,dP h 8,dP h 9⟩
